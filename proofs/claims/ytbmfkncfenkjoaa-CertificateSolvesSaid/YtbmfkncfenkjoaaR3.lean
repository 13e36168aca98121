/-
  Contract: the reference's Solve.
-/
import Derived.Test.YtbmfkncfenkjoaaR3p
namespace Go.Proofs.Ytbmfkncfenkjoaa
set_option linter.unusedVariables false
set_option linter.unusedSimpArgs false
open Go.RowKit
attribute [local irreducible] World.setCell World.cell?

set_option maxRecDepth 100000 in
set_option maxHeartbeats 4000000 in
theorem rsolve_c (A : Option Addr) (n m c : Nat) (E : Ce.Tab) (s : Nat) (w : World) (T : Rd w 3 A m c (iv E)) (O : Ce.Ok (n : Int) m E) (hs : s < n) (b : Nat) (hb : b < n) : Calls Try.prog 26 #[.agg #[.int .i64 (n : Int), .slice A m c], .int .i64 (s : Int), .int .i64 (b : Int)] w fun e w' => ∃ (C D : Nat → Int), Hid (Ce.Lab n m E s C D) ∧ Below w.heap.size w w' ∧ ((C b < 0 ∧ e = .returned (.tuple #[.slice none 0 0, .slice none 0 0, .int .i64 6])) ∨ (0 ≤ C b ∧ ∃ (A1 : Option Addr) (c1 : Nat) (A2 : Option Addr) (c2 : Nat), e = .returned (.tuple #[.slice A1 (D b).toNat c1, .slice A2 n c2, .int .i64 0]) ∧ Rd w' 1 A1 (D b).toNat c1 (nv (Ce.rt m E C D b)) ∧ Rd w' 1 A2 n c2 (nv (Ce.pot n C)))) := by
  have o1 := O.n1
  have o2 := O.n2
  have o3 := O.hm
  have hn2 : n ≤ 512 := by omega
  have HCK := Lib.hid (Ce.ck_ok.2 O)
  have ND := Lib.hid (show Ce.nd (n : Int) (s : Int) = true from Ce.nd_iff.2 ⟨by omega, by omega⟩)
  have NB := Lib.hid (show Ce.nd (n : Int) (b : Int) = true from Ce.nd_iff.2 ⟨by omega, by omega⟩)
  go_enter Try.func26, Try.ntmps26
  try simp only [List.append_eq, List.cons_append, List.nil_append]
  have Gb := Blk.new w 24 #[.int .i64 (n), .slice A m c]
  have hB := ba w (.cells #[.int .i64 (n), .slice A m c] 24)
  obtain ⟨c00, c01, c02, c03⟩ := Gb.open2
  go_wp2_with fail
  refine (rcheck_c _ _ _ _ _ _ (T.keep hB) (by omega) (by omega)).mono ?_
  rw [HCK.out]
  rintro e w1 ⟨rfl, hb⟩
  clear c00 c01 c02 c03
  replace Gb := Gb.keep hb
  replace hB := bt hB hb
  clear hb
  obtain ⟨c00, c01, c02, c03⟩ := Gb.open2
  go_wp2_with fail
  refine (rnode_c _ _ _ _ _ _).mono ?_
  rw [ND.out]
  rintro e w2 ⟨rfl, hb⟩
  clear c00 c01 c02 c03
  replace Gb := Gb.keep hb
  replace hB := bt hB hb
  clear hb
  obtain ⟨c00, c01, c02, c03⟩ := Gb.open2
  go_wp2_with fail
  refine (rnode_c _ _ _ _ _ _).mono ?_
  rw [NB.out]
  rintro e w3 ⟨rfl, hb⟩
  clear c00 c01 c02 c03
  replace Gb := Gb.keep hb
  replace hB := bt hB hb
  clear hb
  obtain ⟨c00, c01, c02, c03⟩ := Gb.open2
  have hsw := hB.size
  go_wp2_with fail
  refine (rlabels_c _ n m c E s _ (T.keep hB) O hs).mono ?_
  rintro e wS ⟨C, D, gc, gd, HBf, HL, rfl, hne, q1, q2, hb⟩
  clear c00 c01 c02 c03
  replace Gb := Gb.keep hb
  replace hB := bt hB hb
  have hsz := hb.size
  clear hb
  generalize hBS : w3.heap.size = BASE at q1 q2 hsz hsw
  have fb := HBf.out.ab hn2 hb
  have y1 := q1.num hb (x := C b) rfl
  have b1 : (0 : Int) ≤ (b : Int) := by omega
  have b2 : (b : Int) < (n : Int) := by omega
  by_cases hN : C b = 4611686018427387904
  · have h1 : (C b == 4611686018427387904) = true := by simpa using hN
    have hf : Ce.fin C b < 0 := by unfold Ce.fin; rw [if_pos hN]; omega
    clear hN
    go_wp2_with fail
    go_returns
    exact ⟨Ce.fin C, D, HL, hB, .inl ⟨hf, rfl⟩⟩
  have h1 : (C b == 4611686018427387904) = false := by simpa using hN
  have hC : 0 ≤ Ce.fin C b := by unfold Ce.fin; rw [if_neg hN]; omega
  clear hN
  go_wp2_with fail
  clear y1 h1 fb
  obtain ⟨F, hF⟩ : ∃ F, Ce.fin C = F := ⟨_, rfl⟩
  have FD := Lib.hid (fun (v : Nat) (hv : v < n) => show (C v = 4611686018427387904 ∧ F v = -1) ∨ (C v ≠ 4611686018427387904 ∧ F v = C v ∧ 0 ≤ C v ∧ C v ≤ 562949953421312 ∧ 0 ≤ D v ∧ D v < 512) by
    have z := HBf.out.ab hn2 hv
    rw [← hF]; unfold Ce.fin
    by_cases q : C v = 4611686018427387904
    · left; exact ⟨q, if_pos q⟩
    · right; have := z.2.2.2.2 q; exact ⟨q, if_neg q, by omega, by omega, by omega, by omega⟩)
  rw [hF] at HL hC
  clear hF HBf
  have LL := HL.out
  have bD := (LL.cb O hb).2.2 hC
  obtain ⟨L, eL⟩ : ∃ L : Nat, D b = (L : Int) := ⟨(D b).toNat, by omega⟩
  have ELL := Lib.hid (show (D b).toNat = L by omega)
  have EL := Lib.hid eL
  have hLn : L < n := by omega
  have BK := Lib.hid (fun (j : Nat) (hj : j ≤ L) => Ce.bk_ok O LL (b := (b : Int)) b1 b2 (by rw [Int.toNat_natCast]; omega) j (by rw [Int.toNat_natCast, eL]; omega))
  have BL := Lib.hid (fun (j : Nat) (hj : j < L) => Ce.bk_lt O LL (b := (b : Int)) b1 b2 (by rw [Int.toNat_natCast]; omega) j (by rw [Int.toNat_natCast, eL]; omega))
  have BE := Lib.hid (Ce.bk_end O LL (b := (b : Int)) b1 b2 (by rw [Int.toNat_natCast]; omega) (j := L) (by rw [Int.toNat_natCast, eL]))
  clear LL eL bD
  obtain ⟨i0, hi, hz0, hz1, hz2⟩ := info_parts infoI
  have HI := Lib.hid hi
  have HZ0 := Lib.hid hz0
  have HZ1 := Lib.hid hz1
  have HZ2 := Lib.hid hz2
  clear hi hz0 hz1 hz2
  have R1 := q1.rd
  have R2 := q2.rd
  have hlgc := q1.lt1
  clear q2
  go_loopg [12, 13] L (fun gg r_ at_ wr => ∃ (k : Nat) (A1 : Option Addr) (c1 : Nat), k ≤ L ∧ L - k ≤ gg ∧ r_ = .slice A1 k c1 ∧ at_ = .int .i64 (Ce.bk m E F D (b : Int) k) ∧ Rd wr 1 A1 k c1 (nv fun j => Ce.rb m E F D (b : Int) (k - 1 - j)) ∧ ob A1 ≠ some gc ∧ Below wS.heap.size wS wr)
  case atStart => exact ⟨0, none, 0, Nat.zero_le _, Nat.le_refl _, rfl, rfl, Rd.nil _ _ _, by simp [ob], Below.refl _ _⟩
  case round =>
    rename World => wO
    obtain ⟨k, A1, c1, hk, hgk, rfl, rfl, RR, hap, hW⟩ := hrel
    obtain ⟨k0, k1, k2, k3⟩ := BK.out k hk
    obtain ⟨x, ex⟩ : ∃ x : Nat, Ce.bk m E F D (b : Int) k = (x : Int) := ⟨(Ce.bk m E F D (b : Int) k).toNat, by omega⟩
    have EX := Lib.hid ex
    rw [ex] at k0 k1 k2 k3
    rw [Int.toNat_natCast, Int.toNat_natCast, EL.out] at k3
    rw [Int.toNat_natCast] at k2
    have hxn : x < n := by omega
    by_cases hlt : k < L
    · have hbl := BL.out k hlt
      rw [ex] at hbl
      have hxs : ((x : Int) != (s : Int)) = true := by simpa using hbl.2.2.2.2.1
      have HBL := Lib.hid hbl
      clear hbl
      obtain ⟨r, er⟩ : ∃ r : Nat, Ce.rb m E F D (b : Int) k = (r : Int) := ⟨(Ce.rb m E F D (b : Int) k).toNat, by have := HBL.out.1; omega⟩
      have hrm : r < m := by have := HBL.out.2.1; omega
      have HFI := Lib.hid (show Ce.fi (Ce.lastB E F D (x : Int)) m = (r : Int) by rw [← er]; unfold Ce.rb Ce.pk; rw [ex])
      have ER := Lib.hid er
      have fx := FD.out x hxn
      have hFX : C x = F x := by rcases fx with q | q <;> omega
      have hCX : 0 ≤ C x ∧ C x ≤ 562949953421312 := by rcases fx with q | q <;> omega
      obtain ⟨cx0, cx1⟩ := hCX
      have HFX := Lib.hid hFX
      clear er fx hFX ex
      rw [EX.out]
      obtain ⟨c0, c1_, c2, c3⟩ := (Gb.keep hW).open2
      go_wp2_with fail
      clear c0 c1_ c2 c3
      go_loopw [12, 13, 53] (fun r_ at_ i wr => ∃ y : Nat, y ≤ m ∧ i = .int .i64 y ∧ r_ = .slice A1 k c1 ∧ at_ = .int .i64 (x : Int) ∧ Hid (∀ z, z < y → Ce.lastB E F D (x : Int) z = false) ∧ Below wO.heap.size wO wr) (fun _ _ i _ => m - (intOf i).toNat)
      case atStart => exact ⟨0, Nat.zero_le _, rfl, rfl, rfl, Lib.hid fun z hz => absurd hz (Nat.not_lt_zero _), Below.refl _ _⟩
      case round =>
        obtain ⟨y, hy, rfl, rfl, rfl, hno, hV⟩ := hrel
        by_cases hlt2 : y < m
        · have he := O.e y hlt2
          obtain ⟨u, eu⟩ : ∃ x : Nat, E y 0 = (x : Int) := ⟨(E y 0).toNat, by have := he.f0; omega⟩
          obtain ⟨v, ev⟩ : ∃ x : Nat, E y 1 = (x : Int) := ⟨(E y 1).toNat, by have := he.t0; omega⟩
          have hun : u < n := by have := he.f1; omega
          have ec0 := he.c0
          have ec1 := he.c1
          have hfu : Ce.fr E y = u := by unfold Ce.fr; omega
          have HLB := Lib.hid (show Ce.lastB E F D (x : Int) y = decide ((v : Int) = (x : Int) ∧ 0 ≤ F u ∧ F u + E y 2 = F x ∧ D u + 1 = D x) by unfold Ce.lastB; rw [hfu, ev, Int.toNat_natCast])
          obtain ⟨b3, off3, eB, hbl3, v0, v1, v2⟩ := (T.keep (bt hB (bt hW hV))).at3 hlt2
          rw [eu] at v0
          rw [ev] at v1
          have HB := Lib.hid eB
          have EU := Lib.hid eu
          rw [HB.out] at Gb ⊢
          clear eB eu ev he hfu
          obtain ⟨bc, oc, ec_, hlc, x1⟩ := (R1.keep (bt hW hV)).at1 hun
          obtain ⟨bc2, oc2, ec2, hlc2, x2⟩ := (R1.keep (bt hW hV)).at1 hxn
          obtain ⟨bd, od, ed_, hld, x3⟩ := (R2.keep (bt hW hV)).at1 hun
          obtain ⟨bd2, od2, ed2, hld2, x4⟩ := (R2.keep (bt hW hV)).at1 hxn
          injection ec_ with ec_; injection ec_ with e1 e2; subst e1 e2
          injection ec2 with ec2; injection ec2 with e1 e2; subst e1 e2
          injection ed_ with ed_; injection ed_ with e1 e2; subst e1 e2
          injection ed2 with ed2; injection ed2 with e1 e2; subst e1 e2
          simp only [Nat.zero_add] at x1 x2 x3 x4
          have i1 : (0 : Int) ≤ (u : Int) := by omega
          have i2 : (u : Int) < (n : Int) := by omega
          have i3 : (0 : Int) ≤ (x : Int) := by omega
          have i4 : (x : Int) < (n : Int) := by omega
          have fu := FD.out u hun
          have X := Blk.new wr 59 #[.int .i64 u, .int .i64 v, .int .i64 (E y 2)]
          obtain ⟨d0, d1, d2, d3, d4⟩ := X.open3
          replace hV := bal hV (.cells #[.int .i64 u, .int .i64 v, .int .i64 (E y 2)] 59)
          by_cases q1_ : (v : Int) = (x : Int)
          rotate_left
          · have HN := Lib.hid (show ∀ z, z < y + 1 → Ce.lastB E F D (x : Int) z = false from fun z hz => by
              by_cases e : z = y
              · rw [e, HLB.out]; have hfx := HFX.out; exact decide_eq_false (by omega)
              · exact hno.out z (by omega))
            have t1 : ((v : Int) == (x : Int)) = false := by simpa using q1_
            clear q1_
            go_wp2_with fail
            go_quiet (fail)
            go_wp2_with fail
            go_roundw
            case rel => exact ⟨y + 1, by omega, by go_num, rfl, rfl, HN, bdnl hV _⟩
            case measure => simp [intOf]; omega
          have t1 : ((v : Int) == (x : Int)) = true := by simpa using q1_
          by_cases q2_ : C u = 4611686018427387904
          · have HN := Lib.hid (show ∀ z, z < y + 1 → Ce.lastB E F D (x : Int) z = false from fun z hz => by
              by_cases e : z = y
              · rw [e, HLB.out]; have hfx := HFX.out; exact decide_eq_false (by omega)
              · exact hno.out z (by omega))
            have t2 : (C u != 4611686018427387904) = false := by simpa using q2_
            clear q1_ q2_ fu
            go_wp2_with fail
            go_quiet (fail)
            go_wp2_with fail
            go_roundw
            case rel => exact ⟨y + 1, by omega, by go_num, rfl, rfl, HN, bdnl hV _⟩
            case measure => simp [intOf]; omega
          have t2 : (C u != 4611686018427387904) = true := by simpa using q2_
          have fu2 : F u = C u ∧ 0 ≤ C u ∧ C u ≤ 562949953421312 ∧ 0 ≤ D u ∧ D u < 512 := by rcases fu with q | q <;> omega
          obtain ⟨fu3, fu4, fu5, fu6, fu7⟩ := fu2
          have HFU := Lib.hid fu3
          clear fu3 fu
          by_cases q3_ : C u + E y 2 = C x
          rotate_left
          · have HN := Lib.hid (show ∀ z, z < y + 1 → Ce.lastB E F D (x : Int) z = false from fun z hz => by
              by_cases e : z = y
              · rw [e, HLB.out]; have hfx := HFX.out; have hfu := HFU.out; exact decide_eq_false (by omega)
              · exact hno.out z (by omega))
            have t3 : (C u + E y 2 == C x) = false := by simpa using q3_
            clear q1_ q2_ q3_
            go_wp2_with fail
            go_quiet (fail)
            go_wp2_with fail
            go_roundw
            case rel => exact ⟨y + 1, by omega, by go_num, rfl, rfl, HN, bdnl hV _⟩
            case measure => simp [intOf]; omega
          have t3 : (C u + E y 2 == C x) = true := by simpa using q3_
          by_cases q4_ : D u + 1 = D x
          rotate_left
          · have HN := Lib.hid (show ∀ z, z < y + 1 → Ce.lastB E F D (x : Int) z = false from fun z hz => by
              by_cases e : z = y
              · rw [e, HLB.out]; have hfx := HFX.out; exact decide_eq_false (by omega)
              · exact hno.out z (by omega))
            have t4 : (D u + 1 == D x) = false := by simpa using q4_
            clear q1_ q2_ q3_ q4_
            go_wp2_with fail
            go_quiet (fail)
            go_wp2_with fail
            go_roundw
            case rel => exact ⟨y + 1, by omega, by go_num, rfl, rfl, HN, bdnl hV _⟩
            case measure => simp [intOf]; omega
          have t4 : (D u + 1 == D x) = true := by simpa using q4_
          have hyr := (Ce.fi_hit hno.out (show Ce.lastB E F D (x : Int) y = true by rw [HLB.out]; have hfx := HFX.out; have hfu := HFU.out; exact decide_eq_true (by omega)) m hlt2).symm.trans HFI.out
          obtain rfl : y = r := by omega
          clear q1_ q2_ q3_ q4_ hyr
          have HBN := Lib.hid (show Ce.bk m E F D (b : Int) (1 + k) = (u : Int) by rw [Nat.add_comm, ← EU.out]; have := HBL.out.2.2.2.1; rw [ER.out, Int.toNat_natCast] at this; exact this.symm)
          go_wp2_with fail
          go_quiet (fail)
          have X2 := X.drewN nq
          replace hV := bdnl hV nq
          clear X d0 d1 d2 d3 d4 v0 v1 v2 x1 x2 x3 x4
          generalize World.drewN (World.alloc wr _) nq = wT at X2 hV ⊢
          generalize wr.heap.size = gX at X2 ⊢
          have hlX := X2.lt
          have sV := hV.size
          have OL := own_one1 wT 3 (base := wO.heap.size) (y : Int) sV
          have RR2 := RR.keep hV
          go_wp2_with (at_builtin; refine wpList_append_Rd _ rfl _ _ 27 rfl wO.heap.size 3 i0 _ 1 8 Try.underlying27 HI.out HZ0.out HZ1.out HZ2.out rfl (by decide) rfl OL rfl (RR2.alloc _) (one_nv _) (by omega) (by omega) (by simp; omega) ?_; intro A2 c2 w3 own' hgr hob; have hW3 : Below wO.heap.size wO w3 := (bal hV _).trans (below_grown hgr (fun g hg => OL.base hg) (by simp; omega)); have X3 := (X2.alloc _).grown hgr (by simp [ob]; omega); obtain ⟨d0, d1, d2, d3, d4⟩ := X3.open3)
          have hap2 : ob A2 ≠ some gc := by
            have s1 := hW.size
            have s2 := hlgc
            rcases hob with z | z
            · rw [z]; simp [ob]; omega
            · rw [z]; simp; omega
          have RN := own'.rd.congr (V' := nv fun j => Ce.rb m E F D (b : Int) (1 + k - 1 - j)) fun i j hi _ => by
            unfold app nv
            by_cases z : i < 1
            · rw [if_pos z]
              show Value.int .i64 (y : Int) = .int .i64 (Ce.rb m E F D (b : Int) (1 + k - 1 - i))
              rw [show 1 + k - 1 - i = k by omega, ER.out]
            · rw [if_neg z]
              show Value.int .i64 (Ce.rb m E F D (b : Int) (k - 1 - (i - 1))) = .int .i64 (Ce.rb m E F D (b : Int) (1 + k - 1 - i))
              rw [show k - 1 - (i - 1) = 1 + k - 1 - i by omega]
          rw [← HB.out] at Gb ⊢
          go_roundg (L - (1 + k))
          case measure => omega
          case rel => exact ⟨1 + k, A2, c2, by omega, Nat.le_refl _, rfl, by rw [HBN.out], RN, hap2, bt hW hW3⟩
        · obtain rfl : y = m := by omega
          have := (Ce.fi_no (Ce.lastB E F D (x : Int)) y).2 hno.out
          have := HFI.out
          exfalso
          omega
    · obtain rfl : k = L := by omega
      have hxs := BE.out
      rw [ex] at hxs
      have h2 : ((x : Int) != (s : Int)) = false := by rw [hxs]; simp
      clear hxs ex
      rw [EX.out]
      have RT := RR.congr (V' := nv (Ce.rt m E F D (b : Int))) fun i j hi _ => by unfold nv Ce.rt; rw [Int.toNat_natCast, ELL.out]
      clear RR k0 k1 k2 k3 hgk
      go_wp2_with fail
      go_loopw [16, 107] (fun t_ i wr => ∃ v : Nat, v ≤ n ∧ i = .int .i64 v ∧ t_ = .int .i64 (Ce.mst F v) ∧ Below wO.heap.size wO wr) (fun _ i _ => n - (intOf i).toNat)
      case atStart => exact ⟨0, Nat.zero_le _, rfl, rfl, Below.refl _ _⟩
      case round =>
        obtain ⟨v, hv, rfl, rfl, hV⟩ := hrel
        by_cases hlt3 : v < n
        · obtain ⟨bc, oc, ec_, hlc, x1⟩ := (R1.keep (bt hW hV)).at1 hlt3
          injection ec_ with ec_; injection ec_ with e1 e2; subst e1 e2
          simp only [Nat.zero_add] at x1
          have fv := FD.out v hlt3
          have hmn := Ce.mst_nn F v
          by_cases hN : C v = 4611686018427387904
          · have t1 : (C v != 4611686018427387904) = false := by simpa using hN
            have hF : F v = -1 := by rcases fv with q | q <;> omega
            have HM := Lib.hid (show Ce.mst F (v + 1) = Ce.mst F v by rw [Ce.mst, if_neg (by omega)])
            clear hN fv hF
            go_wp2_with fail
            go_roundw
            case rel => exact ⟨v + 1, by omega, by go_num, by rw [HM.out], hV⟩
            case measure => simp [intOf]; omega
          · have t1 : (C v != 4611686018427387904) = true := by simpa using hN
            have hF : F v = C v ∧ 0 ≤ C v ∧ C v ≤ 562949953421312 := by rcases fv with q | q <;> omega
            obtain ⟨hF1, hF2, hF3⟩ := hF
            by_cases hm : Ce.mst F v < C v
            · have HM := Lib.hid (show Ce.mst F (v + 1) = C v by rw [Ce.mst, if_pos (by omega), hF1])
              clear hN fv hF1
              go_wp2_with fail
              go_roundw
              case rel => exact ⟨v + 1, by omega, by go_num, by rw [HM.out], hV⟩
              case measure => simp [intOf]; omega
            · have HM := Lib.hid (show Ce.mst F (v + 1) = Ce.mst F v by rw [Ce.mst, if_neg (by omega)])
              clear hN fv hF1
              go_wp2_with fail
              go_roundw
              case rel => exact ⟨v + 1, by omega, by go_num, by rw [HM.out], hV⟩
              case measure => simp [intOf]; omega
        · obtain rfl : v = n := by omega
          replace RT := RT.keep hV
          have hWV := bt hW hV
          replace q1 := q1.keep hWV
          clear hV hlt3
          go_wp2_with fail
          generalize hBW : wr = wQ at RT q1 hWV ⊢
          go_loopw [119] (fun i wr => ∃ p : Nat, p ≤ v ∧ i = .int .i64 p ∧ Own wr BASE 2 1 (some ⟨gc, 0, none⟩) v v (nv fun j => if j < p then Ce.pot v F j else C j) ∧ Rd wr 1 A1 k c1 (nv (Ce.rt m E F D (b : Int))) ∧ Below BASE wS wr) (fun i _ => v - (intOf i).toNat)
          case atStart => exact ⟨0, Nat.zero_le _, rfl, q1.congr (fun a j _ _ => by simp [nv]), RT, hWV.mono hsz⟩
          case round =>
            clear q1 RT
            obtain ⟨p, hp, rfl, q1, RT, hP⟩ := hrel
            by_cases hlt4 : p < v
            · have y1 := q1.num hlt4 (x := C p) (by simp)
              have y2 := q1.frozen
              have y3 := q1.lt1
              have fv := FD.out p hlt4
              by_cases hN : C p = 4611686018427387904
              · have t1 : (C p == 4611686018427387904) = true := by simpa using hN
                have hF : F p = -1 := by rcases fv with q | q <;> omega
                have Q1 := Lib.hid ((q1.up1 hlt4 (Ce.mst F v)).congr (V' := nv (fun j => if j < p + 1 then Ce.pot v F j else C j)) (fun i j _ _ => by
                  unfold nv; simp only [Ce.up]; congr 1
                  by_cases e : i = p
                  · subst e; rw [if_pos rfl, if_pos (by omega)]; unfold Ce.pot; rw [if_pos (by omega)]
                  · rw [if_neg e]; (repeat' split) <;> first | rfl | omega))
                have HW := Lib.hid (hP.setCell (p := ⟨gc, p, none⟩) (q1.base rfl) (.int .i64 (Ce.mst F v)))
                have HRT := Lib.hid (rd_far RT hap (.int .i64 (Ce.mst F v)) (p := ⟨gc, p, none⟩))
                clear hN fv hF
                go_wp2_with fail
                go_roundw
                case rel => exact ⟨p + 1, by omega, by go_num, Q1.out, HRT.out, HW.out⟩
                case measure => simp [intOf]; omega
              · have t1 : (C p == 4611686018427387904) = false := by simpa using hN
                have hF : F p = C p ∧ 0 ≤ C p := by rcases fv with q | q <;> omega
                have Q1 := Lib.hid (q1.congr (V' := nv (fun j => if j < p + 1 then Ce.pot v F j else C j)) (fun i j _ _ => by
                  unfold nv; congr 1
                  show (if i < p then Ce.pot v F i else C i) = (if i < p + 1 then Ce.pot v F i else C i)
                  by_cases e : i = p
                  · subst e; rw [if_neg (by omega), if_pos (by omega)]; unfold Ce.pot; rw [if_neg (by omega)]; omega
                  · (repeat' split) <;> first | rfl | omega))
                clear hN fv hF
                go_wp2_with fail
                go_roundw
                case rel => exact ⟨p + 1, by omega, by go_num, Q1.out, RT, hP⟩
                case measure => simp [intOf]; omega
            · obtain rfl : p = v := by omega
              have RP := q1.rd.congr (V' := nv (Ce.pot p F)) (fun i j hi _ => by unfold nv; simp only [hi, if_true])
              have HBB := hB.trans (hP.mono hsw)
              go_wp2_with fail
              go_returns
              exact ⟨F, D, HL, HBB, .inr ⟨hC, A1, c1, some ⟨gc, 0, none⟩, p, by rw [ELL.out]; rfl, by rw [ELL.out]; exact RT, RP⟩⟩
end Go.Proofs.Ytbmfkncfenkjoaa
