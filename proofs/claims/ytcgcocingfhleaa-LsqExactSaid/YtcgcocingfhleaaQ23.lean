/-
  The walk of LsqExact.
-/
import Derived.Test.YtcgcocingfhleaaQ19
import Derived.Test.YtcgcocingfhleaaQApp
namespace Go.Proofs.Ytcgcocingfhleaa
set_option linter.unusedVariables false
set_option linter.unusedSimpArgs false
open Go.RowKit
attribute [local irreducible] World.setCell World.cell?

def mx4 (x y z u : Int) : Int := max (max (max x y) z) u
theorem mx4_le {x y z u c : Int} (h : mx4 x y z u ≤ c) : x ≤ c ∧ y ≤ c ∧ z ≤ c ∧ u ≤ c := by unfold mx4 at h; omega
theorem run_max4 {P : Program} {w : World} (ts : Array TypeId) (t : TypeId) (k k' k'' k3 : IntKind) (x y z u : Int) : (Builtin.max_ ts t #[.int k x, .int k' y, .int k'' z, .int k3 u]).run P w = .ok (.int k (mx4 x y z u)) w := by
  have e1 : (if y > x then y else x) = max x y := by split <;> omega
  have e2 : (if z > max x y then z else max x y) = max (max x y) z := by split <;> omega
  have e3 : (if u > max (max x y) z then u else max (max x y) z) = mx4 x y z u := by unfold mx4; split <;> omega
  simp only [Builtin.max_, Builtin.max2, List.foldlM, e1, e2, e3, Sem.run_bind, Sem.run_pure, Result.andThen_ok]
attribute [local go_sem] run_max4
set_option maxRecDepth 100000 in
set_option maxHeartbeats 4000000 in
theorem law_exact (A : Option Addr) (n c : Nat) (M : Lq.Tab) (px py : Int) (w : World) (T : Rd w 6 A n c (iv M)) (hM : ∀ i, i < n → (-9223372036854775808 ≤ M i 1 ∧ M i 1 ≤ 9223372036854775807) ∧ -9223372036854775808 ≤ M i 2 ∧ M i 2 ≤ 9223372036854775807) :
    Calls Try.prog 9 #[.slice A n c, .agg #[.int .i64 px, .int .i64 py]] w fun e w' => e = .returned (.bool true) ∧ Below w.heap.size w w' := by
  cases hp : Lq.pv px py
  · have HP := Lib.hid hp
    clear hp
    go_enter Try.func9, Try.ntmps9
    try simp only [List.append_eq, List.cons_append, List.nil_append]
    have P := Blk.new w 36 #[.int .i64 (px), .int .i64 (py)]
    have hB := ba w (.cells #[.int .i64 (px), .int .i64 (py)] 36)
    go_wp2_with fail
    refine (awake_c _).mono ?_
    rintro e w1 ⟨rfl, hb⟩
    replace P := P.keep hb
    replace hB := bt hB hb
    clear hb
    obtain ⟨c00, c01, c02, c03⟩ := P.open2
    go_wp2_with fail
    refine (pvalid_c _ _ _).mono ?_
    rw [HP.out]
    rintro e w2 ⟨rfl, hb⟩
    clear c00 c01 c02 c03
    replace P := P.keep hb
    replace hB := bt hB hb
    clear hb
    go_wp2_with fail
    go_returns
    exact ⟨rfl, hB⟩
  · have HP := Lib.hid hp
    obtain ⟨x1, x2, y1, y2⟩ := Lq.pv_iff.1 hp
    clear hp
    have KC := fun W_ (T_ : Rd W_ 6 A n c (iv M)) => cut_c A n c M W_ T_
    have T0 := T
    have hk : (if n ≤ 20 then n else 20) ≤ n := by split <;> omega
    generalize hk2 : (if n ≤ 20 then n else 20) = k at hk
    replace hk2 := Lib.hid hk2
    have hk20 : k ≤ 20 := by have := hk2.out; split at this <;> omega
    simp only [hk2.out] at KC
    have T := T0.short hk
    obtain ⟨i0, hi, hz0, hz1, hz2⟩ := info_parts infoM
    have HI := Lib.hid hi
    have HZ0 := Lib.hid hz0
    have HZ1 := Lib.hid hz1
    have HZ2 := Lib.hid hz2
    clear hi hz0 hz1 hz2
    go_enter Try.func9, Try.ntmps9
    try simp only [List.append_eq, List.cons_append, List.nil_append]
    have P := Blk.new w 36 #[.int .i64 (px), .int .i64 (py)]
    have hB := ba w (.cells #[.int .i64 (px), .int .i64 (py)] 36)
    go_wp2_with fail
    refine (awake_c _).mono ?_
    rintro e w1 ⟨rfl, hb⟩
    replace P := P.keep hb
    replace hB := bt hB hb
    clear hb
    obtain ⟨c00, c01, c02, c03⟩ := P.open2
    go_wp2_with fail
    refine (pvalid_c _ _ _).mono ?_
    rw [HP.out]
    rintro e w2 ⟨rfl, hb⟩
    clear c00 c01 c02 c03
    replace P := P.keep hb
    replace hB := bt hB hb
    clear hb
    have lP : w.heap.size < w2.heap.size := P.lt
    have own := own_empty w2 w2.heap.size 43 6 (iv fun _ _ => 0) rfl (Nat.le_refl _)
    replace P := P.alloc (.cells #[] 43)
    replace hB := bal hB (.cells #[] 43)
    have lG : w2.heap.size ≤ (World.alloc w2 (.cells #[] 43)).heap.size := by simp
    go_wp2_with fail
    refine (KC _ (T0.keep hB)).mono ?_
    rintro e wq ⟨rfl, rfl⟩
    clear KC
    go_wp2_with fail
    generalize w2.heap.size = gS at *
    go_loopw [5, 24] (fun s i wr => ∃ (j q : Nat) (A' : Option Addr) (c' : Nat) (F : Lq.Tab), j ≤ k ∧ q ≤ j ∧ i = .int .i64 j ∧ s = .slice A' q c' ∧ gS ≤ wr.heap.size ∧ Own wr gS 43 6 A' q c' (iv F) ∧ Hid (∀ i, i < q → F i 3 = F i 1 * px + F i 2 * py) ∧ Blk wr w.heap.size 36 #[.int .i64 (px), .int .i64 (py)] ∧ Below w.heap.size w wr) (fun _ i _ => k - (intOf i).toNat)
    case atStart => exact ⟨0, 0, _, _, _, Nat.zero_le _, Nat.le_refl _, rfl, rfl, lG, own, fun i hi => absurd hi (by omega), P, hB⟩
    case round =>
      clear own P hB lG
      rename_i wr
      obtain ⟨j, q, A', c', F, hj, hq, rfl, rfl, lG, own, hF, P, hB⟩ := hrel
      by_cases hlt : j < k
      · obtain ⟨bb, off, eA, hbl, u0, u1, u2, u3, u4, u5⟩ := (T.keep hB).at6 hlt
        have HA := Lib.hid eA
        rw [HA.out]
        clear eA
        obtain ⟨⟨n1, n2⟩, n3, n4⟩ := hM j (by omega)
        obtain ⟨ma, ea, hma⟩ : ∃ ma, IntKind.i64.wrap (-(M j 1)) = ma ∧ Hid (ma = -(M j 1) ∨ (M j 1 = -9223372036854775808 ∧ ma = M j 1)) := ⟨_, rfl, Lib.hid (by rw [IntKind.wrap_i64]; omega)⟩
        obtain ⟨mb, eb, hmb⟩ : ∃ mb, IntKind.i64.wrap (-(M j 2)) = mb ∧ Hid (mb = -(M j 2) ∨ (M j 2 = -9223372036854775808 ∧ mb = M j 2)) := ⟨_, rfl, Lib.hid (by rw [IntKind.wrap_i64]; omega)⟩
        have hsz := hB.size
        obtain ⟨p0, p1, p2, p3⟩ := P.open2
        by_cases g1 : mx4 (M j 1) ma (M j 2) mb ≤ 256
        rotate_left
        · have d1 : decide (mx4 (M j 1) ma (M j 2) mb ≤ 256) = false := decide_eq_false g1
          go_wp2_with fail
          go_roundw
          case rel => exact ⟨j + 1, q, A', c', F, by omega, by omega, by go_num, rfl, by simp; omega, own.alloc _, hF, P.alloc _, bal hB _⟩
          case measure => simp [intOf]; omega
        by_cases g2 : -256 ≤ M j 1
        rotate_left
        · go_wp2_with fail
          go_roundw
          case rel => exact ⟨j + 1, q, A', c', F, by omega, by omega, by go_num, rfl, by simp; omega, own.alloc _, hF, P.alloc _, bal hB _⟩
          case measure => simp [intOf]; omega
        by_cases g3 : -256 ≤ M j 2
        rotate_left
        · have d1 : decide (-256 ≤ M j 2) = false := decide_eq_false g3
          go_wp2_with fail
          go_roundw
          case rel => exact ⟨j + 1, q, A', c', F, by omega, by omega, by go_num, rfl, by simp; omega, own.alloc _, hF, P.alloc _, bal hB _⟩
          case measure => simp [intOf]; omega
        have g4 : M j 1 ≤ 256 := by have := mx4_le g1; omega
        have g5 : M j 2 ≤ 256 := by have := mx4_le g1; omega
        have q1 := Lq.mul_bd (a := M j 1) (b := px) ⟨g2, g4⟩ ⟨x1, x2⟩
        have q2 := Lq.mul_bd (a := M j 2) (b := py) ⟨g3, g5⟩ ⟨y1, y2⟩
        have f1 : -512000000 ≤ M j 1 * px := by omega
        have f2 : M j 1 * px ≤ 512000000 := by omega
        have f3 : -512000000 ≤ M j 2 * py := by omega
        have f4 : M j 2 * py ≤ 512000000 := by omega
        clear q1 q2
        go_wp2_with (at_builtin; refine wpList_append_Rd _ rfl _ _ 22 rfl gS 43 i0 _ 6 48 Try.underlying22 HI.out HZ0.out HZ1.out HZ2.out rfl (by decide) rfl ((own.alloc _).alloc _) rfl (rd_row6 _ _ _ _ _ _ _ _ (by simp)) (one_iv _) (by omega) (by omega) (by simp; omega) ?_; intro A2 c2 w3 own' hgr hob)
        have own2 := own_sn6 own' (fun i f => if i < q then F i f else row6 (M j 0) (M j 1) (M j 2) (M j 1 * px + M j 2 * py) (M j 4) (M j 5) 0 f) (fun i f hi => if_pos hi) (by simp [row6])
        have P2 := ((P.alloc _).alloc _).grown hgr (fun g hg => by have := own.base hg; omega)
        have hB3 : Below w.heap.size w w3 := (bal (bal hB _) _).trans (below_grown hgr (fun g hg => by have := own.base hg; omega) (by simp; omega))
        have lG3 : gS ≤ w3.heap.size := Nat.le_trans (by simp; omega) hgr.size
        have hF2 : Hid (∀ i, i < q + 1 → (fun i f => if i < q then F i f else row6 (M j 0) (M j 1) (M j 2) (M j 1 * px + M j 2 * py) (M j 4) (M j 5) 0 f) i 3 = (fun i f => if i < q then F i f else row6 (M j 0) (M j 1) (M j 2) (M j 1 * px + M j 2 * py) (M j 4) (M j 5) 0 f) i 1 * px + (fun i f => if i < q then F i f else row6 (M j 0) (M j 1) (M j 2) (M j 1 * px + M j 2 * py) (M j 4) (M j 5) 0 f) i 2 * py) := Lib.hid fun i hi => by
          by_cases e : i < q
          · simp only [if_pos e]; exact hF.out i e
          · simp [if_neg e, row6]
        clear own own' hgr hob P hB p0 p1 p2 p3 u0 u1 u2 u3 u4 u5
        go_wp2_with fail
        go_roundw
        case rel => exact ⟨j + 1, q + 1, A2, c2, _, by omega, by omega, by go_num, rfl, lG3, own2, hF2, P2, hB3⟩
        case measure => simp [intOf]; omega
      · have T2 := own.rd
        clear own
        by_cases h : Lq.er q F = 0
        · have S0 := Lq.er_ok.1 h
          have hx := Lq.exact_pt S0.d hF.out
          have E1 := Lib.hid hx.1
          have E2 := Lib.hid hx.2
          have E3 := Lib.hid (Lq.exact_num hF.out)
          have E4 := Lib.hid (Lq.exact_qf hF.out)
          have HR : Hid (Re q F px py = 0) := Lib.hid (re_0 (Lq.ck_ok.2 S0.ok) HP.out)
          have H := Lib.hid h
          clear hx S0 h
          go_wp2_with fail
          refine (solve_ok _ _ _ F _ T2 H.out).mono ?_
          rw [E1.out, E2.out]
          rintro e w21 ⟨rfl, hb⟩
          replace P := P.keep hb
          replace T2 := T2.keep hb
          replace hB := bt hB hb
          clear hb
          have hz21 := hB.size
          have l21P := P.lt
          replace P := P.alloc (.cells #[.int .i64 (Wi.Hq (Lq.sx q F)), .int .u64 (Wi.Lr (Lq.sx q F)), .int .i64 (Wi.Hq (Lq.sy q F)), .int .u64 (Wi.Lr (Lq.sy q F)), .int .i64 (Lq.det q F), .int .i64 (px), .int .i64 (py)] 38)
          replace T2 := T2.alloc (.cells #[.int .i64 (Wi.Hq (Lq.sx q F)), .int .u64 (Wi.Lr (Lq.sx q F)), .int .i64 (Wi.Hq (Lq.sy q F)), .int .u64 (Wi.Lr (Lq.sy q F)), .int .i64 (Lq.det q F), .int .i64 (px), .int .i64 (py)] 38)
          replace hB := bal hB (.cells #[.int .i64 (Wi.Hq (Lq.sx q F)), .int .u64 (Wi.Lr (Lq.sx q F)), .int .i64 (Wi.Hq (Lq.sy q F)), .int .u64 (Wi.Lr (Lq.sy q F)), .int .i64 (Lq.det q F), .int .i64 (px), .int .i64 (py)] 38)
          have S := Blk.new w21 38 #[.int .i64 (Wi.Hq (Lq.sx q F)), .int .u64 (Wi.Lr (Lq.sx q F)), .int .i64 (Wi.Hq (Lq.sy q F)), .int .u64 (Wi.Lr (Lq.sy q F)), .int .i64 (Lq.det q F), .int .i64 (px), .int .i64 (py)]
          obtain ⟨c00, c01, c02, c03, c04, c05, c06, c07, c08⟩ := S.open7
          go_wp2_with fail
          refine (least_ok _ _ _ F _ T2 H.out).mono ?_
          rw [E3.out, Wi.Hq0, Wi.Lr0]
          rintro e w22 ⟨rfl, hb⟩
          clear c00 c01 c02 c03 c04 c05 c06 c07 c08
          replace P := P.keep hb
          replace S := S.keep hb
          replace T2 := T2.keep hb
          replace hB := bt hB hb
          clear hb
          have hz22 := hB.size
          have l22P := P.lt
          have l22S := S.lt
          replace P := P.alloc (.cells #[.int .i64 (0), .int .u64 (0)] 34)
          replace S := S.alloc (.cells #[.int .i64 (0), .int .u64 (0)] 34)
          replace T2 := T2.alloc (.cells #[.int .i64 (0), .int .u64 (0)] 34)
          replace hB := bal hB (.cells #[.int .i64 (0), .int .u64 (0)] 34)
          have N := Blk.new w22 34 #[.int .i64 (0), .int .u64 (0)]
          obtain ⟨c00, c01, c02, c03⟩ := P.open2
          obtain ⟨c10, c11, c12, c13, c14, c15, c16, c17, c18⟩ := S.open7
          obtain ⟨c20, c21, c22, c23⟩ := N.open2
          go_wp2_with fail
          refine (res_ok _ _ _ F _ _ _ T2 HR.out).mono ?_
          rw [E4.out, Wi.Hq0, Wi.Lr0]
          rintro e w23 ⟨rfl, hb⟩
          clear c00 c01 c02 c03 c10 c11 c12 c13 c14 c15 c16 c17 c18 c20 c21 c22 c23
          replace P := P.keep hb
          replace S := S.keep hb
          replace N := N.keep hb
          replace T2 := T2.keep hb
          replace hB := bt hB hb
          clear hb
          have hz23 := hB.size
          have l23P := P.lt
          have l23S := S.lt
          have l23N := N.lt
          replace P := P.alloc (.cells #[.int .i64 (0), .int .u64 (0)] 34)
          replace S := S.alloc (.cells #[.int .i64 (0), .int .u64 (0)] 34)
          replace N := N.alloc (.cells #[.int .i64 (0), .int .u64 (0)] 34)
          replace T2 := T2.alloc (.cells #[.int .i64 (0), .int .u64 (0)] 34)
          replace hB := bal hB (.cells #[.int .i64 (0), .int .u64 (0)] 34)
          have Q := Blk.new w23 34 #[.int .i64 (0), .int .u64 (0)]
          obtain ⟨c00, c01, c02, c03⟩ := P.open2
          obtain ⟨c10, c11, c12, c13, c14, c15, c16, c17, c18⟩ := S.open7
          obtain ⟨c20, c21, c22, c23⟩ := N.open2
          obtain ⟨c30, c31, c32, c33⟩ := Q.open2
          go_wp2_with fail
          go_returns
          exact ⟨rfl, hB⟩
        · have h2 := Lq.exact (M := F) (n := q) HP.out hF.out
          have h1 : (Lq.er q F != 0) = true := by simpa using h
          have hee : (Lq.er q F == Lq.er q F) = true := by simp
          have hcs := Lq.er_cases q F
          have H := Lib.hid h
          clear h
          by_cases h3 : Re q F px py = 0
          · have HR := Lib.hid h3
            clear h3
            rcases hcs with c | c | c | c | c
            · exact absurd c H.out
            · have C := Lib.hid c
              clear c h1 hee h2
              go_wp2_with fail
              refine (solve_no _ _ _ F _ T2 H.out).mono ?_
              rw [C.out]
              rintro e w21 ⟨rfl, hb⟩
              replace P := P.keep hb
              replace T2 := T2.keep hb
              replace hB := bt hB hb
              clear hb
              have hz21 := hB.size
              have l21P := P.lt
              replace P := P.alloc (.cells #[.int .i64 (0), .int .u64 (0), .int .i64 (0), .int .u64 (0), .int .i64 (0), .int .i64 (0), .int .i64 (0)] 38)
              replace T2 := T2.alloc (.cells #[.int .i64 (0), .int .u64 (0), .int .i64 (0), .int .u64 (0), .int .i64 (0), .int .i64 (0), .int .i64 (0)] 38)
              replace hB := bal hB (.cells #[.int .i64 (0), .int .u64 (0), .int .i64 (0), .int .u64 (0), .int .i64 (0), .int .i64 (0), .int .i64 (0)] 38)
              have S := Blk.new w21 38 #[.int .i64 (0), .int .u64 (0), .int .i64 (0), .int .u64 (0), .int .i64 (0), .int .i64 (0), .int .i64 (0)]
              obtain ⟨c00, c01, c02, c03, c04, c05, c06, c07, c08⟩ := S.open7
              go_wp2_with fail
              refine (least_no _ _ _ F _ T2 H.out).mono ?_
              rw [C.out]
              rintro e w22 ⟨rfl, hb⟩
              clear c00 c01 c02 c03 c04 c05 c06 c07 c08
              replace P := P.keep hb
              replace S := S.keep hb
              replace T2 := T2.keep hb
              replace hB := bt hB hb
              clear hb
              have hz22 := hB.size
              have l22P := P.lt
              have l22S := S.lt
              replace P := P.alloc (.cells #[.int .i64 (0), .int .u64 (0)] 34)
              replace S := S.alloc (.cells #[.int .i64 (0), .int .u64 (0)] 34)
              replace T2 := T2.alloc (.cells #[.int .i64 (0), .int .u64 (0)] 34)
              replace hB := bal hB (.cells #[.int .i64 (0), .int .u64 (0)] 34)
              have N := Blk.new w22 34 #[.int .i64 (0), .int .u64 (0)]
              obtain ⟨c00, c01, c02, c03⟩ := P.open2
              obtain ⟨c10, c11, c12, c13, c14, c15, c16, c17, c18⟩ := S.open7
              obtain ⟨c20, c21, c22, c23⟩ := N.open2
              go_wp2_with fail
              refine (res_ok _ _ _ F _ _ _ T2 HR.out).mono ?_
              rintro e w23 ⟨rfl, hb⟩
              clear c00 c01 c02 c03 c10 c11 c12 c13 c14 c15 c16 c17 c18 c20 c21 c22 c23
              replace P := P.keep hb
              replace S := S.keep hb
              replace N := N.keep hb
              replace T2 := T2.keep hb
              replace hB := bt hB hb
              clear hb
              have hz23 := hB.size
              have l23P := P.lt
              have l23S := S.lt
              have l23N := N.lt
              replace P := P.alloc (.cells #[.int .i64 (Wi.Hq (Lq.qf q F px py 1)), .int .u64 (Wi.Lr (Lq.qf q F px py 1))] 34)
              replace S := S.alloc (.cells #[.int .i64 (Wi.Hq (Lq.qf q F px py 1)), .int .u64 (Wi.Lr (Lq.qf q F px py 1))] 34)
              replace N := N.alloc (.cells #[.int .i64 (Wi.Hq (Lq.qf q F px py 1)), .int .u64 (Wi.Lr (Lq.qf q F px py 1))] 34)
              replace T2 := T2.alloc (.cells #[.int .i64 (Wi.Hq (Lq.qf q F px py 1)), .int .u64 (Wi.Lr (Lq.qf q F px py 1))] 34)
              replace hB := bal hB (.cells #[.int .i64 (Wi.Hq (Lq.qf q F px py 1)), .int .u64 (Wi.Lr (Lq.qf q F px py 1))] 34)
              have Q := Blk.new w23 34 #[.int .i64 (Wi.Hq (Lq.qf q F px py 1)), .int .u64 (Wi.Lr (Lq.qf q F px py 1))]
              go_wp2_with fail
              go_returns
              exact ⟨rfl, hB⟩
            · exact absurd c h2
            · have C := Lib.hid c
              clear c h1 hee h2
              go_wp2_with fail
              refine (solve_no _ _ _ F _ T2 H.out).mono ?_
              rw [C.out]
              rintro e w21 ⟨rfl, hb⟩
              replace P := P.keep hb
              replace T2 := T2.keep hb
              replace hB := bt hB hb
              clear hb
              have hz21 := hB.size
              have l21P := P.lt
              replace P := P.alloc (.cells #[.int .i64 (0), .int .u64 (0), .int .i64 (0), .int .u64 (0), .int .i64 (0), .int .i64 (0), .int .i64 (0)] 38)
              replace T2 := T2.alloc (.cells #[.int .i64 (0), .int .u64 (0), .int .i64 (0), .int .u64 (0), .int .i64 (0), .int .i64 (0), .int .i64 (0)] 38)
              replace hB := bal hB (.cells #[.int .i64 (0), .int .u64 (0), .int .i64 (0), .int .u64 (0), .int .i64 (0), .int .i64 (0), .int .i64 (0)] 38)
              have S := Blk.new w21 38 #[.int .i64 (0), .int .u64 (0), .int .i64 (0), .int .u64 (0), .int .i64 (0), .int .i64 (0), .int .i64 (0)]
              obtain ⟨c00, c01, c02, c03, c04, c05, c06, c07, c08⟩ := S.open7
              go_wp2_with fail
              refine (least_no _ _ _ F _ T2 H.out).mono ?_
              rw [C.out]
              rintro e w22 ⟨rfl, hb⟩
              clear c00 c01 c02 c03 c04 c05 c06 c07 c08
              replace P := P.keep hb
              replace S := S.keep hb
              replace T2 := T2.keep hb
              replace hB := bt hB hb
              clear hb
              have hz22 := hB.size
              have l22P := P.lt
              have l22S := S.lt
              replace P := P.alloc (.cells #[.int .i64 (0), .int .u64 (0)] 34)
              replace S := S.alloc (.cells #[.int .i64 (0), .int .u64 (0)] 34)
              replace T2 := T2.alloc (.cells #[.int .i64 (0), .int .u64 (0)] 34)
              replace hB := bal hB (.cells #[.int .i64 (0), .int .u64 (0)] 34)
              have N := Blk.new w22 34 #[.int .i64 (0), .int .u64 (0)]
              obtain ⟨c00, c01, c02, c03⟩ := P.open2
              obtain ⟨c10, c11, c12, c13, c14, c15, c16, c17, c18⟩ := S.open7
              obtain ⟨c20, c21, c22, c23⟩ := N.open2
              go_wp2_with fail
              refine (res_ok _ _ _ F _ _ _ T2 HR.out).mono ?_
              rintro e w23 ⟨rfl, hb⟩
              clear c00 c01 c02 c03 c10 c11 c12 c13 c14 c15 c16 c17 c18 c20 c21 c22 c23
              replace P := P.keep hb
              replace S := S.keep hb
              replace N := N.keep hb
              replace T2 := T2.keep hb
              replace hB := bt hB hb
              clear hb
              have hz23 := hB.size
              have l23P := P.lt
              have l23S := S.lt
              have l23N := N.lt
              replace P := P.alloc (.cells #[.int .i64 (Wi.Hq (Lq.qf q F px py 1)), .int .u64 (Wi.Lr (Lq.qf q F px py 1))] 34)
              replace S := S.alloc (.cells #[.int .i64 (Wi.Hq (Lq.qf q F px py 1)), .int .u64 (Wi.Lr (Lq.qf q F px py 1))] 34)
              replace N := N.alloc (.cells #[.int .i64 (Wi.Hq (Lq.qf q F px py 1)), .int .u64 (Wi.Lr (Lq.qf q F px py 1))] 34)
              replace T2 := T2.alloc (.cells #[.int .i64 (Wi.Hq (Lq.qf q F px py 1)), .int .u64 (Wi.Lr (Lq.qf q F px py 1))] 34)
              replace hB := bal hB (.cells #[.int .i64 (Wi.Hq (Lq.qf q F px py 1)), .int .u64 (Wi.Lr (Lq.qf q F px py 1))] 34)
              have Q := Blk.new w23 34 #[.int .i64 (Wi.Hq (Lq.qf q F px py 1)), .int .u64 (Wi.Lr (Lq.qf q F px py 1))]
              go_wp2_with fail
              go_returns
              exact ⟨rfl, hB⟩
            · have C := Lib.hid c
              clear c h1 hee h2
              go_wp2_with fail
              refine (solve_no _ _ _ F _ T2 H.out).mono ?_
              rw [C.out]
              rintro e w21 ⟨rfl, hb⟩
              replace P := P.keep hb
              replace T2 := T2.keep hb
              replace hB := bt hB hb
              clear hb
              have hz21 := hB.size
              have l21P := P.lt
              replace P := P.alloc (.cells #[.int .i64 (0), .int .u64 (0), .int .i64 (0), .int .u64 (0), .int .i64 (0), .int .i64 (0), .int .i64 (0)] 38)
              replace T2 := T2.alloc (.cells #[.int .i64 (0), .int .u64 (0), .int .i64 (0), .int .u64 (0), .int .i64 (0), .int .i64 (0), .int .i64 (0)] 38)
              replace hB := bal hB (.cells #[.int .i64 (0), .int .u64 (0), .int .i64 (0), .int .u64 (0), .int .i64 (0), .int .i64 (0), .int .i64 (0)] 38)
              have S := Blk.new w21 38 #[.int .i64 (0), .int .u64 (0), .int .i64 (0), .int .u64 (0), .int .i64 (0), .int .i64 (0), .int .i64 (0)]
              obtain ⟨c00, c01, c02, c03, c04, c05, c06, c07, c08⟩ := S.open7
              go_wp2_with fail
              refine (least_no _ _ _ F _ T2 H.out).mono ?_
              rw [C.out]
              rintro e w22 ⟨rfl, hb⟩
              clear c00 c01 c02 c03 c04 c05 c06 c07 c08
              replace P := P.keep hb
              replace S := S.keep hb
              replace T2 := T2.keep hb
              replace hB := bt hB hb
              clear hb
              have hz22 := hB.size
              have l22P := P.lt
              have l22S := S.lt
              replace P := P.alloc (.cells #[.int .i64 (0), .int .u64 (0)] 34)
              replace S := S.alloc (.cells #[.int .i64 (0), .int .u64 (0)] 34)
              replace T2 := T2.alloc (.cells #[.int .i64 (0), .int .u64 (0)] 34)
              replace hB := bal hB (.cells #[.int .i64 (0), .int .u64 (0)] 34)
              have N := Blk.new w22 34 #[.int .i64 (0), .int .u64 (0)]
              obtain ⟨c00, c01, c02, c03⟩ := P.open2
              obtain ⟨c10, c11, c12, c13, c14, c15, c16, c17, c18⟩ := S.open7
              obtain ⟨c20, c21, c22, c23⟩ := N.open2
              go_wp2_with fail
              refine (res_ok _ _ _ F _ _ _ T2 HR.out).mono ?_
              rintro e w23 ⟨rfl, hb⟩
              clear c00 c01 c02 c03 c10 c11 c12 c13 c14 c15 c16 c17 c18 c20 c21 c22 c23
              replace P := P.keep hb
              replace S := S.keep hb
              replace N := N.keep hb
              replace T2 := T2.keep hb
              replace hB := bt hB hb
              clear hb
              have hz23 := hB.size
              have l23P := P.lt
              have l23S := S.lt
              have l23N := N.lt
              replace P := P.alloc (.cells #[.int .i64 (Wi.Hq (Lq.qf q F px py 1)), .int .u64 (Wi.Lr (Lq.qf q F px py 1))] 34)
              replace S := S.alloc (.cells #[.int .i64 (Wi.Hq (Lq.qf q F px py 1)), .int .u64 (Wi.Lr (Lq.qf q F px py 1))] 34)
              replace N := N.alloc (.cells #[.int .i64 (Wi.Hq (Lq.qf q F px py 1)), .int .u64 (Wi.Lr (Lq.qf q F px py 1))] 34)
              replace T2 := T2.alloc (.cells #[.int .i64 (Wi.Hq (Lq.qf q F px py 1)), .int .u64 (Wi.Lr (Lq.qf q F px py 1))] 34)
              replace hB := bal hB (.cells #[.int .i64 (Wi.Hq (Lq.qf q F px py 1)), .int .u64 (Wi.Lr (Lq.qf q F px py 1))] 34)
              have Q := Blk.new w23 34 #[.int .i64 (Wi.Hq (Lq.qf q F px py 1)), .int .u64 (Wi.Lr (Lq.qf q F px py 1))]
              go_wp2_with fail
              go_returns
              exact ⟨rfl, hB⟩
          · have HR := Lib.hid h3
            clear h3
            rcases hcs with c | c | c | c | c
            · exact absurd c H.out
            · have C := Lib.hid c
              clear c h1 hee h2
              go_wp2_with fail
              refine (solve_no _ _ _ F _ T2 H.out).mono ?_
              rw [C.out]
              rintro e w21 ⟨rfl, hb⟩
              replace P := P.keep hb
              replace T2 := T2.keep hb
              replace hB := bt hB hb
              clear hb
              have hz21 := hB.size
              have l21P := P.lt
              replace P := P.alloc (.cells #[.int .i64 (0), .int .u64 (0), .int .i64 (0), .int .u64 (0), .int .i64 (0), .int .i64 (0), .int .i64 (0)] 38)
              replace T2 := T2.alloc (.cells #[.int .i64 (0), .int .u64 (0), .int .i64 (0), .int .u64 (0), .int .i64 (0), .int .i64 (0), .int .i64 (0)] 38)
              replace hB := bal hB (.cells #[.int .i64 (0), .int .u64 (0), .int .i64 (0), .int .u64 (0), .int .i64 (0), .int .i64 (0), .int .i64 (0)] 38)
              have S := Blk.new w21 38 #[.int .i64 (0), .int .u64 (0), .int .i64 (0), .int .u64 (0), .int .i64 (0), .int .i64 (0), .int .i64 (0)]
              obtain ⟨c00, c01, c02, c03, c04, c05, c06, c07, c08⟩ := S.open7
              go_wp2_with fail
              refine (least_no _ _ _ F _ T2 H.out).mono ?_
              rw [C.out]
              rintro e w22 ⟨rfl, hb⟩
              clear c00 c01 c02 c03 c04 c05 c06 c07 c08
              replace P := P.keep hb
              replace S := S.keep hb
              replace T2 := T2.keep hb
              replace hB := bt hB hb
              clear hb
              have hz22 := hB.size
              have l22P := P.lt
              have l22S := S.lt
              replace P := P.alloc (.cells #[.int .i64 (0), .int .u64 (0)] 34)
              replace S := S.alloc (.cells #[.int .i64 (0), .int .u64 (0)] 34)
              replace T2 := T2.alloc (.cells #[.int .i64 (0), .int .u64 (0)] 34)
              replace hB := bal hB (.cells #[.int .i64 (0), .int .u64 (0)] 34)
              have N := Blk.new w22 34 #[.int .i64 (0), .int .u64 (0)]
              obtain ⟨c00, c01, c02, c03⟩ := P.open2
              obtain ⟨c10, c11, c12, c13, c14, c15, c16, c17, c18⟩ := S.open7
              obtain ⟨c20, c21, c22, c23⟩ := N.open2
              go_wp2_with fail
              refine (res_no _ _ _ F _ _ _ T2 HR.out).mono ?_
              rintro e w23 ⟨rfl, hb⟩
              clear c00 c01 c02 c03 c10 c11 c12 c13 c14 c15 c16 c17 c18 c20 c21 c22 c23
              replace P := P.keep hb
              replace S := S.keep hb
              replace N := N.keep hb
              replace T2 := T2.keep hb
              replace hB := bt hB hb
              clear hb
              have hz23 := hB.size
              have l23P := P.lt
              have l23S := S.lt
              have l23N := N.lt
              replace P := P.alloc (.cells #[.int .i64 (0), .int .u64 (0)] 34)
              replace S := S.alloc (.cells #[.int .i64 (0), .int .u64 (0)] 34)
              replace N := N.alloc (.cells #[.int .i64 (0), .int .u64 (0)] 34)
              replace T2 := T2.alloc (.cells #[.int .i64 (0), .int .u64 (0)] 34)
              replace hB := bal hB (.cells #[.int .i64 (0), .int .u64 (0)] 34)
              have Q := Blk.new w23 34 #[.int .i64 (0), .int .u64 (0)]
              go_wp2_with fail
              go_returns
              exact ⟨rfl, hB⟩
            · exact absurd c h2
            · have C := Lib.hid c
              clear c h1 hee h2
              go_wp2_with fail
              refine (solve_no _ _ _ F _ T2 H.out).mono ?_
              rw [C.out]
              rintro e w21 ⟨rfl, hb⟩
              replace P := P.keep hb
              replace T2 := T2.keep hb
              replace hB := bt hB hb
              clear hb
              have hz21 := hB.size
              have l21P := P.lt
              replace P := P.alloc (.cells #[.int .i64 (0), .int .u64 (0), .int .i64 (0), .int .u64 (0), .int .i64 (0), .int .i64 (0), .int .i64 (0)] 38)
              replace T2 := T2.alloc (.cells #[.int .i64 (0), .int .u64 (0), .int .i64 (0), .int .u64 (0), .int .i64 (0), .int .i64 (0), .int .i64 (0)] 38)
              replace hB := bal hB (.cells #[.int .i64 (0), .int .u64 (0), .int .i64 (0), .int .u64 (0), .int .i64 (0), .int .i64 (0), .int .i64 (0)] 38)
              have S := Blk.new w21 38 #[.int .i64 (0), .int .u64 (0), .int .i64 (0), .int .u64 (0), .int .i64 (0), .int .i64 (0), .int .i64 (0)]
              obtain ⟨c00, c01, c02, c03, c04, c05, c06, c07, c08⟩ := S.open7
              go_wp2_with fail
              refine (least_no _ _ _ F _ T2 H.out).mono ?_
              rw [C.out]
              rintro e w22 ⟨rfl, hb⟩
              clear c00 c01 c02 c03 c04 c05 c06 c07 c08
              replace P := P.keep hb
              replace S := S.keep hb
              replace T2 := T2.keep hb
              replace hB := bt hB hb
              clear hb
              have hz22 := hB.size
              have l22P := P.lt
              have l22S := S.lt
              replace P := P.alloc (.cells #[.int .i64 (0), .int .u64 (0)] 34)
              replace S := S.alloc (.cells #[.int .i64 (0), .int .u64 (0)] 34)
              replace T2 := T2.alloc (.cells #[.int .i64 (0), .int .u64 (0)] 34)
              replace hB := bal hB (.cells #[.int .i64 (0), .int .u64 (0)] 34)
              have N := Blk.new w22 34 #[.int .i64 (0), .int .u64 (0)]
              obtain ⟨c00, c01, c02, c03⟩ := P.open2
              obtain ⟨c10, c11, c12, c13, c14, c15, c16, c17, c18⟩ := S.open7
              obtain ⟨c20, c21, c22, c23⟩ := N.open2
              go_wp2_with fail
              refine (res_no _ _ _ F _ _ _ T2 HR.out).mono ?_
              rintro e w23 ⟨rfl, hb⟩
              clear c00 c01 c02 c03 c10 c11 c12 c13 c14 c15 c16 c17 c18 c20 c21 c22 c23
              replace P := P.keep hb
              replace S := S.keep hb
              replace N := N.keep hb
              replace T2 := T2.keep hb
              replace hB := bt hB hb
              clear hb
              have hz23 := hB.size
              have l23P := P.lt
              have l23S := S.lt
              have l23N := N.lt
              replace P := P.alloc (.cells #[.int .i64 (0), .int .u64 (0)] 34)
              replace S := S.alloc (.cells #[.int .i64 (0), .int .u64 (0)] 34)
              replace N := N.alloc (.cells #[.int .i64 (0), .int .u64 (0)] 34)
              replace T2 := T2.alloc (.cells #[.int .i64 (0), .int .u64 (0)] 34)
              replace hB := bal hB (.cells #[.int .i64 (0), .int .u64 (0)] 34)
              have Q := Blk.new w23 34 #[.int .i64 (0), .int .u64 (0)]
              go_wp2_with fail
              go_returns
              exact ⟨rfl, hB⟩
            · have C := Lib.hid c
              clear c h1 hee h2
              go_wp2_with fail
              refine (solve_no _ _ _ F _ T2 H.out).mono ?_
              rw [C.out]
              rintro e w21 ⟨rfl, hb⟩
              replace P := P.keep hb
              replace T2 := T2.keep hb
              replace hB := bt hB hb
              clear hb
              have hz21 := hB.size
              have l21P := P.lt
              replace P := P.alloc (.cells #[.int .i64 (0), .int .u64 (0), .int .i64 (0), .int .u64 (0), .int .i64 (0), .int .i64 (0), .int .i64 (0)] 38)
              replace T2 := T2.alloc (.cells #[.int .i64 (0), .int .u64 (0), .int .i64 (0), .int .u64 (0), .int .i64 (0), .int .i64 (0), .int .i64 (0)] 38)
              replace hB := bal hB (.cells #[.int .i64 (0), .int .u64 (0), .int .i64 (0), .int .u64 (0), .int .i64 (0), .int .i64 (0), .int .i64 (0)] 38)
              have S := Blk.new w21 38 #[.int .i64 (0), .int .u64 (0), .int .i64 (0), .int .u64 (0), .int .i64 (0), .int .i64 (0), .int .i64 (0)]
              obtain ⟨c00, c01, c02, c03, c04, c05, c06, c07, c08⟩ := S.open7
              go_wp2_with fail
              refine (least_no _ _ _ F _ T2 H.out).mono ?_
              rw [C.out]
              rintro e w22 ⟨rfl, hb⟩
              clear c00 c01 c02 c03 c04 c05 c06 c07 c08
              replace P := P.keep hb
              replace S := S.keep hb
              replace T2 := T2.keep hb
              replace hB := bt hB hb
              clear hb
              have hz22 := hB.size
              have l22P := P.lt
              have l22S := S.lt
              replace P := P.alloc (.cells #[.int .i64 (0), .int .u64 (0)] 34)
              replace S := S.alloc (.cells #[.int .i64 (0), .int .u64 (0)] 34)
              replace T2 := T2.alloc (.cells #[.int .i64 (0), .int .u64 (0)] 34)
              replace hB := bal hB (.cells #[.int .i64 (0), .int .u64 (0)] 34)
              have N := Blk.new w22 34 #[.int .i64 (0), .int .u64 (0)]
              obtain ⟨c00, c01, c02, c03⟩ := P.open2
              obtain ⟨c10, c11, c12, c13, c14, c15, c16, c17, c18⟩ := S.open7
              obtain ⟨c20, c21, c22, c23⟩ := N.open2
              go_wp2_with fail
              refine (res_no _ _ _ F _ _ _ T2 HR.out).mono ?_
              rintro e w23 ⟨rfl, hb⟩
              clear c00 c01 c02 c03 c10 c11 c12 c13 c14 c15 c16 c17 c18 c20 c21 c22 c23
              replace P := P.keep hb
              replace S := S.keep hb
              replace N := N.keep hb
              replace T2 := T2.keep hb
              replace hB := bt hB hb
              clear hb
              have hz23 := hB.size
              have l23P := P.lt
              have l23S := S.lt
              have l23N := N.lt
              replace P := P.alloc (.cells #[.int .i64 (0), .int .u64 (0)] 34)
              replace S := S.alloc (.cells #[.int .i64 (0), .int .u64 (0)] 34)
              replace N := N.alloc (.cells #[.int .i64 (0), .int .u64 (0)] 34)
              replace T2 := T2.alloc (.cells #[.int .i64 (0), .int .u64 (0)] 34)
              replace hB := bal hB (.cells #[.int .i64 (0), .int .u64 (0)] 34)
              have Q := Blk.new w23 34 #[.int .i64 (0), .int .u64 (0)]
              go_wp2_with fail
              go_returns
              exact ⟨rfl, hB⟩
end Go.Proofs.Ytcgcocingfhleaa
