/-
  Contracts: Solve.
-/
import Derived.Test.YtbmfkncfenkjoaaL5
import Derived.Test.YtbmfkncfenkjoaaL4
import Derived.Test.YtbmfkncfenkjoaaW6
namespace Go.Proofs.Ytbmfkncfenkjoaa
set_option linter.unusedVariables false
set_option linter.unusedSimpArgs false
open Go.RowKit
attribute [local irreducible] World.setCell World.cell?

set_option maxRecDepth 100000 in
set_option maxHeartbeats 4000000 in
theorem solve_no (A : Option Addr) (n : Int) (m c : Nat) (E : Ce.Tab) (w : World) (T : Rd w 3 A m c (iv E)) (n1 : -9223372036854775808 ≤ n) (n2 : n ≤ 9223372036854775807) (a b : Int) (h : Ce.en n m E a b ≠ 0) : Calls Try.prog 25 #[.agg #[.int .i64 n, .slice A m c], .int .i64 a, .int .i64 b] w fun e w' => e = .returned (.tuple #[.slice none 0 0, .slice none 0 0, .int .i64 (Ce.en n m E a b)]) ∧ Below w.heap.size w w' := by
  have h1 : (Ce.en n m E a b != 0) = true := by simpa using h
  clear h
  go_enter Try.func25, Try.ntmps25
  have Gb := Blk.new w 24 #[.int .i64 (n), .slice A m c]
  have hB := ba w (.cells #[.int .i64 (n), .slice A m c] 24)
  obtain ⟨c00, c01, c02, c03⟩ := Gb.open2
  go_wp2_with fail
  refine (ends_c _ _ _ _ _ _ (T.keep hB) n1 n2 _ _).mono ?_
  rintro e w1 ⟨rfl, hb⟩
  clear c00 c01 c02 c03
  replace Gb := Gb.keep hb
  replace hB := bt hB hb
  clear hb
  go_wp2_with fail
  go_returns
  exact ⟨rfl, hB⟩
set_option maxRecDepth 100000 in
set_option maxHeartbeats 4000000 in
theorem solve_c (A : Option Addr) (n m c : Nat) (E : Ce.Tab) (s : Nat) (w : World) (T : Rd w 3 A m c (iv E)) (O : Ce.Ok (n : Int) m E) (hs : s < n) (b : Nat) (hb : b < n) : Calls Try.prog 25 #[.agg #[.int .i64 (n : Int), .slice A m c], .int .i64 (s : Int), .int .i64 (b : Int)] w fun e w' => ∃ (C D : Nat → Int), Hid (Ce.Lab n m E s C D) ∧ Below w.heap.size w w' ∧ ((C b < 0 ∧ e = .returned (.tuple #[.slice none 0 0, .slice none 0 0, .int .i64 6])) ∨ (0 ≤ C b ∧ ∃ (A1 : Option Addr) (c1 : Nat) (A2 : Option Addr) (c2 : Nat), e = .returned (.tuple #[.slice A1 (D b).toNat c1, .slice A2 n c2, .int .i64 0]) ∧ Rd w' 1 A1 (D b).toNat c1 (nv (Ce.rt m E C D b)) ∧ Rd w' 1 A2 n c2 (nv (Ce.pot n C)))) := by
  have o1 := O.n1
  have o2 := O.n2
  have hn2 : n ≤ 512 := by omega
  have HEN := Lib.hid (Ce.en_ok.2 (⟨O, by omega, by omega, by omega, by omega⟩ : Ce.En (n : Int) m E (s : Int) (b : Int)))
  obtain ⟨i0, hi, hz0, hz1, hz2⟩ := info_parts infoI6
  have HI := Lib.hid hi
  have HZ0 := Lib.hid hz0
  have HZ1 := Lib.hid hz1
  have HZ2 := Lib.hid hz2
  clear hi hz0 hz1 hz2
  obtain ⟨i1, hi, hz0, hz1, hz2⟩ := info_parts infoI
  have HJ := Lib.hid hi
  have HY0 := Lib.hid hz0
  have HY1 := Lib.hid hz1
  have HY2 := Lib.hid hz2
  clear hi hz0 hz1 hz2
  have b1 : (0 : Int) ≤ (b : Int) := by omega
  have b2 : (b : Int) < (n : Int) := by omega
  go_enter Try.func25, Try.ntmps25
  have Gb := Blk.new w 24 #[.int .i64 (n), .slice A m c]
  have hB := ba w (.cells #[.int .i64 (n), .slice A m c] 24)
  obtain ⟨c00, c01, c02, c03⟩ := Gb.open2
  go_wp2_with fail
  refine (ends_c _ _ _ _ _ _ (T.keep hB) (by omega) (by omega) _ _).mono ?_
  rw [HEN.out]
  rintro e w1 ⟨rfl, hb⟩
  clear c00 c01 c02 c03
  replace Gb := Gb.keep hb
  replace hB := bt hB hb
  clear hb
  obtain ⟨c00, c01, c02, c03⟩ := Gb.open2
  go_wp2_with fail
  refine (labels_c _ n m c E s _ (T.keep hB) O hs).mono ?_
  rintro e w2 ⟨C, D, F, HL, rfl, R, hb⟩
  replace hB := bt hB hb
  replace Gb := Gb.keep hb
  clear hb c00 c01 c02 c03
  generalize w1.heap.size + 1 = gL at R ⊢
  obtain ⟨l0, l1, l2, l3⟩ := R.lab hb
  have L0 := HL.out
  have bC := L0.cb O hb
  have Ga := Blk.new w2 67 #[.slice (some ⟨gL, 0, none⟩) n n]
  replace Gb := Gb.alloc (.cells #[.slice (some ⟨gL, 0, none⟩) n n] 67)
  replace R := R.alloc (.cells #[.slice (some ⟨gL, 0, none⟩) n n] 67)
  replace hB := bal hB (.cells #[.slice (some ⟨gL, 0, none⟩) n n] 67)
  have lga := Ga.lt
  by_cases hC : C b < 0
  · go_wp2_with fail
    go_returns
    exact ⟨C, D, HL, hB, .inl ⟨hC, rfl⟩⟩
  have bD := bC.2.2 (by omega)
  go_wp2_with fail
  clear l0 l1 l2 l3 L0
  generalize World.alloc w2 _ = wA at Ga Gb R hB lga ⊢
  generalize w2.heap.size = ga at Ga lga ⊢
  go_loopw [11, 36] (fun mo i wr => ∃ v : Nat, v ≤ n ∧ i = .int .i64 v ∧ mo = .int .i64 (Ce.mst C v) ∧ Below wA.heap.size wA wr) (fun _ i _ => n - (intOf i).toNat)
  case atStart => exact ⟨0, Nat.zero_le _, rfl, rfl, Below.refl _ _⟩
  case round =>
    obtain ⟨v, hv, rfl, rfl, hW⟩ := hrel
    by_cases hlt : v < n
    · skip
      obtain ⟨y0, y1, y2, y3⟩ := (R.keep hW).lab hlt
      replace hW := bal hW (.cells #[.int .i64 (C v), .int .i64 (D v), .bool (F v)] 70)
      have X := Blk.new wr 70 #[.int .i64 (C v), .int .i64 (D v), .bool (F v)]
      obtain ⟨x0, x1, x2, x3, x4⟩ := X.open3
      by_cases hm : Ce.mst C v < C v
      · have HM := Lib.hid (show Ce.mst C (v + 1) = C v by rw [Ce.mst, if_pos hm])
        go_wp2_with fail
        go_roundw
        case rel => exact ⟨v + 1, by omega, by go_num, by rw [HM.out], hW⟩
        case measure => simp [intOf]; omega
      · have HM := Lib.hid (show Ce.mst C (v + 1) = Ce.mst C v by rw [Ce.mst, if_neg hm])
        go_wp2_with fail
        go_roundw
        case rel => exact ⟨v + 1, by omega, by go_num, by rw [HM.out], hW⟩
        case measure => simp [intOf]; omega
    · obtain rfl : v = n := by omega
      obtain ⟨a0, a1, a2⟩ := (Ga.keep hW).open1
      go_wp2_with fail
      clear a0 a1 a2
      go_loopw [7, 47] (fun s_ i wr => ∃ (q : Nat) (A' : Option Addr) (c' : Nat), q ≤ v ∧ i = .int .i64 q ∧ s_ = .slice A' q c' ∧ Own wr wA.heap.size 2 1 A' q c' (nv (Ce.pot v C)) ∧ Below wA.heap.size wA wr) (fun _ i _ => v - (intOf i).toNat)
      case atStart => exact ⟨0, none, 0, Nat.zero_le _, rfl, rfl, Own.nil _ _ _ _ _, hW⟩
      case round =>
        clear hW
        obtain ⟨q, A', c', hq, rfl, rfl, own, hW⟩ := hrel
        by_cases hlt : q < v
        · have hsz := hW.size
          have hW0 := hW
          obtain ⟨y0, y1, y2, y3⟩ := (R.keep hW).lab hlt
          replace hW := bal hW (.cells #[.int .i64 (C q), .int .i64 (D q), .bool (F q)] 70)
          have X := Blk.new wr 70 #[.int .i64 (C q), .int .i64 (D q), .bool (F q)]
          obtain ⟨x0, x1, x2, x3, x4⟩ := X.open3
          by_cases hc : C q < 0
          · have HP := Lib.hid (show Ce.pot v C q = Ce.mst C v from if_pos hc)
            have nX : ob A' = none ∨ ob A' ≠ some wr.heap.size := .inr fun z => by have := own.top z; omega
            go_wp2_with (at_builtin; refine wpList_append_Rd _ rfl _ _ 34 rfl wA.heap.size 2 i0 _ 1 8 Try.underlying34 HI.out HZ0.out HZ1.out HZ2.out rfl (by decide) rfl ((own.alloc _).alloc _) rfl (rd_num _ _ _ (by simp)) (one_nv _) (by omega) (by omega) (by simp; omega) ?_; intro A2 c2 w3 own' hgr hob)
            have own2 := own_num own' HP.out
            have hW2 : Below wA.heap.size wA w3 := (bal (bal hW0 _) _).trans (below_grown hgr (fun g hg => by have := own.base hg; omega) (by simp; omega))
            clear own own' hgr hob hW y0 y1 y2 y3 x0 x1 x2 x3 x4 X
            go_wp2_with fail
            go_roundw
            case rel => exact ⟨q + 1, A2, c2, by omega, by go_num, rfl, own2, hW2⟩
            case measure => simp [intOf]; omega
          have HP := Lib.hid (show Ce.pot v C q = C q from if_neg hc)
          go_wp2_with (at_builtin; refine wpList_append_Rd _ rfl _ _ 34 rfl wA.heap.size 2 i0 _ 1 8 Try.underlying34 HI.out HZ0.out HZ1.out HZ2.out rfl (by decide) rfl ((own.alloc _).alloc _) rfl (rd_num _ _ _ (by simp)) (one_nv _) (by omega) (by omega) (by simp; omega) ?_; intro A2 c2 w3 own' hgr hob)
          have own2 := own_num own' HP.out
          have hW2 : Below wA.heap.size wA w3 := (bal hW _).trans (below_grown hgr (fun g hg => by have := own.base hg; omega) (by simp; omega))
          clear own own' hgr hob hW y0 y1 y2 y3 x0 x1 x2 x3 x4 X
          go_wp2_with fail
          go_roundw
          case rel => exact ⟨q + 1, A2, c2, by omega, by go_num, rfl, own2, hW2⟩
          case measure => simp [intOf]; omega
        · obtain rfl : q = v := by omega
          replace R := R.keep hW
          replace Ga := Ga.keep hW
          replace Gb := Gb.keep hW
          have P := own.rd
          replace hB := bt hB hW
          clear own hlt hq hv
          have LL := HL.out
          obtain ⟨L, eL⟩ : ∃ L : Nat, D b = (L : Int) := ⟨(D b).toNat, by omega⟩
          have eLL : (D b).toNat = L := by omega
          have hLn : L < q := by omega
          have ELL := Lib.hid eLL
          have EL := Lib.hid eL
          have BK := Lib.hid (fun (j : Nat) (hj : j ≤ L) => Ce.bk_ok O LL (b := (b : Int)) b1 b2 (by rw [Int.toNat_natCast]; omega) j (by rw [Int.toNat_natCast, eL]; omega))
          have BL := Lib.hid (fun (j : Nat) (hj : j < L) => Ce.bk_lt O LL (b := (b : Int)) b1 b2 (by rw [Int.toNat_natCast]; omega) j (by rw [Int.toNat_natCast, eL]; omega))
          have CB := Lib.hid (fun (u : Nat) (hu : u < q) => LL.cb O hu)
          clear LL eLL eL bC bD
          generalize wr = wB at R Ga Gb P hB ⊢
          have hW0 := ba wB (.cells #[.int .i64 (b : Int)] 3)
          have Gv := Blk.new wB 3 #[.int .i64 (b : Int)]
          go_wp2_with fail
          go_loopg [6, 16] L (fun gg r_ at_ wr => ∃ (k : Nat) (A1 : Option Addr) (c1 gv : Nat), k ≤ L ∧ L - k ≤ gg ∧ r_ = .slice A1 k c1 ∧ at_ = .pointer (some ⟨gv, 0, none⟩) ∧ Blk wr gv 3 #[.int .i64 (Ce.bk m E C D (b : Int) k)] ∧ wB.heap.size ≤ gv ∧ Own wr wB.heap.size 3 1 A1 k c1 (nv (Ce.rb m E C D (b : Int))) ∧ ob A1 ≠ some gv ∧ Below wB.heap.size wB wr)
          case atStart => exact ⟨0, none, 0, wB.heap.size, Nat.zero_le _, Nat.le_refl _, rfl, rfl, Gv, Nat.le_refl _, Own.nil _ _ _ _ _, by simp [ob], hW0⟩
          case round =>
            clear Gv hW0
            obtain ⟨k, A1, c1, gv, hk, hgk, rfl, rfl, Gv, hgv, own, hap, hW⟩ := hrel
            obtain ⟨k0, k1, k2, k3⟩ := BK.out k hk
            obtain ⟨x, ex⟩ : ∃ x : Nat, Ce.bk m E C D (b : Int) k = (x : Int) := ⟨(Ce.bk m E C D (b : Int) k).toNat, by omega⟩
            have EX := Lib.hid ex
            rw [ex] at Gv k0 k1 k2 k3
            rw [Int.toNat_natCast, Int.toNat_natCast, EL.out] at k3
            rw [Int.toNat_natCast] at k2
            clear ex
            have hxq : x < q := by omega
            obtain ⟨y0, y1, y2, y3⟩ := (R.keep hW).lab hxq
            obtain ⟨a0, a1, a2⟩ := (Ga.keep hW).open1
            obtain ⟨d0, d1, d2⟩ := Gv.open1
            obtain ⟨c0, c1_, c2, c3⟩ := (Gb.keep hW).open2
            by_cases hlt : k < L
            · have hdp : 0 < D x := by omega
              obtain ⟨r0, r1, r2, r3, r4, r5⟩ := BL.out k hlt
              obtain ⟨r, er⟩ : ∃ r : Nat, Ce.rb m E C D (b : Int) k = (r : Int) := ⟨(Ce.rb m E C D (b : Int) k).toNat, by omega⟩
              rw [er] at r0 r1 r2 r3 r5
              rw [Int.toNat_natCast] at r2 r3 r5
              have hrm : r < m := by omega
              have HR := Lib.hid (show Ce.fi (Ce.lastB E C D (x : Int)) m = (r : Int) by rw [← er]; unfold Ce.rb Ce.pk; rw [EX.out])
              have ER := Lib.hid er
              have R3 := Lib.hid r3
              clear r2 r3 r4 r5 er
              have hv : ∀ (W : World) (i : Nat), i < m → Below wr.heap.size wr W → Calls Try.prog 37 (#[.agg #[.int .i64 (E i 0), .int .i64 (E i 1), .int .i64 (E i 2)]] ++ #[.pointer (some ⟨ga, 0, none⟩), .pointer (some ⟨gv, 0, none⟩)]) W fun e w' => e = .returned (.bool (Ce.lastB E C D (x : Int) i)) ∧ Below W.heap.size W w' := fun W i hi hb => by
                have he := O.e i hi
                exact sol_c _ _ _ _ E i q C D F W gL ga gv (R.keep (bt hW hb)) (Ga.keep (bt hW hb)) (Gv.keep hb) rfl rfl rfl he.f0 he.f1 he.c0 he.c1 k0 k1 hn2 (fun u hu => by have := CB.out u hu; exact ⟨this.2.1, fun h => by have := this.2.2 h; omega⟩)
              go_wp2_with fail
              refine (index_c (Ce.lastB E C D (x : Int)) 37 (enters_of Try.func37 (by kernel_rfl) rfl) #[.pointer (some ⟨ga, 0, none⟩), .pointer (some ⟨gv, 0, none⟩)] _ _ _ _ _ (T.keep (bt hB hW)) hv).mono ?_
              rw [HR.out]
              rintro e w9 ⟨rfl, hb⟩
              have hgl := Gv.lt
              replace Gv := Gv.keep hb
              replace own := own.keep hb
              replace hW := bt hW hb
              clear hb hv y0 y1 y2 y3 a0 a1 a2 d0 d1 d2 c0 c1_ c2 c3
              obtain ⟨b3, off3, eB, hbl3, v0, v1, v2⟩ := (T.keep (bt hB hW)).at3 hrm
              clear v0 v1 v2
              have HB := Lib.hid eB
              rw [HB.out] at Gb ⊢
              clear eB
              have hsz := hW.size
              have l9 := Gv.lt
              have i3 : (0 : Int) ≤ (r : Int) := by omega
              have i4 : (r : Int) < (m : Int) := by omega
              have nA : ∀ g, ob A1 = some g → g < w9.heap.size := fun g z => own.top z
              go_wp2_with (at_builtin; refine wpList_append_Rd _ rfl _ _ 27 rfl wB.heap.size 3 i1 _ 1 8 Try.underlying27 HJ.out HY0.out HY1.out HY2.out rfl (by decide) rfl (own.alloc _) rfl (rd_num _ _ _ (by simp)) (one_nv _) (by omega) (by omega) (by simp; omega) ?_; intro A2 c2 w3 own' hgr hob; have hW3 : Below wB.heap.size wB w3 := (bal hW _).trans (below_grown hgr (fun g hg => own.base hg) (by simp; omega)); have Gv3 := (Gv.alloc _).grown hgr hap; have T3 := T.keep (bt hB hW3); rw [HB.out] at T3; obtain ⟨v0, v1, v2, v3⟩ := T3.e3 hrm; obtain ⟨c0, c1_, c2_, c3⟩ := (Gb.keep hW3).open2; obtain ⟨d0, d1, d2⟩ := Gv3.open1)
              have hap2 : ob A2 ≠ some gv := by
                rcases hob with z | z
                · rw [z]; exact hap
                · rw [z]; simp; omega
              have own2 := own_num own' ER.out
              have hgw : wB.heap.size ≤ gv := hgv
              have hgn : gv ≠ w3.heap.size := by omega
              have own3 := Lib.hid ((own2.far (p := ⟨gv, 0, none⟩) (.inr hap2) (.int .i64 (E r 0))).alloc (.cells #[.int .i64 (E r 0)] 3))
              have hW4 := Lib.hid (bal (bst hW3 (p := ⟨gv, 0, none⟩) hgv (.int .i64 (E r 0))) (.cells #[.int .i64 (E r 0)] 3))
              have Gn := Lib.hid (Blk.new (w3.setCell ⟨gv, 0, none⟩ (.int .i64 (E r 0))) 3 #[.int .i64 (E r 0)])
              have nA2 : ob A2 ≠ some w3.heap.size := fun z => by have := own2.top z; omega
              rw [← HB.out] at Gb ⊢
              go_roundg (L - (k + 1))
              case measure => omega
              case rel => exact ⟨k + 1, A2, c2, w3.heap.size, by omega, Nat.le_refl _, rfl, rfl, by have := Gn.out; rw [R3.out] at this; simpa [R3.out] using this, by have := hW3.size; omega, by simpa [R3.out] using own3.out, nA2, by simpa [R3.out] using hW4.out⟩
            · obtain rfl : k = L := by omega
              have hd0 : ¬ 0 < D x := by omega
              go_wp2_with fail
              refine (reverse_c _ _ _ _ _ _ own).mono ?_
              rintro e w9 ⟨rfl, own9, hg9⟩
              have hW9 : Below wB.heap.size wB w9 := hW.trans (below_grown hg9 (fun g hg => own.base hg) hW.size)
              have RT := own9.rd.congr (V' := nv (Ce.rt m E C D (b : Int))) fun i j hi _ => by unfold nv Ce.rt; rw [Int.toNat_natCast, ELL.out]
              go_wp2_with fail
              go_returns
              exact ⟨C, D, HL, bt hB hW9, .inr ⟨by omega, A1, c1, A', c', by rw [ELL.out]; rfl, by rw [ELL.out]; exact RT, P.keep hW9⟩⟩
end Go.Proofs.Ytbmfkncfenkjoaa
