/-
  Contracts: the quotient.
-/
import Derived.Test.YtclohghongpfkaaI7
import Derived.Test.YtclohghongpfkaaI10
namespace Go.Proofs.Ytclohghongpfkaa
set_option linter.unusedVariables false
set_option linter.unusedSimpArgs false
open Go.RowKit

theorem fl_bd {a c : Int} (h1 : -4611686018427387904 ≤ a) (h2 : a ≤ 4611686018427387904) (hc : c ≠ 0) : -4611686018427387904 ≤ Iv.fl a c ∧ Iv.fl a c ≤ 4611686018427387904 := by
  have k1 : (-4611686018427387904 : Int) ≤ Iv.fl a c := by
    rcases Int.lt_or_gt_of_ne hc with h | h
    · rw [Iv.le_fl_neg h]; omega
    · rw [Iv.le_fl_pos h]; omega
  refine ⟨k1, Classical.byContradiction fun q => ?_⟩
  have k2 : (4611686018427387905 : Int) ≤ Iv.fl a c := by omega
  rcases Int.lt_or_gt_of_ne hc with h | h
  · rw [Iv.le_fl_neg h] at k2; omega
  · rw [Iv.le_fl_pos h] at k2; omega
theorem cl_bd {a c : Int} (h1 : -4611686018427387904 ≤ a) (h2 : a ≤ 4611686018427387904) (hc : c ≠ 0) : -4611686018427387904 ≤ Iv.cl a c ∧ Iv.cl a c ≤ 4611686018427387904 := by
  have := fl_bd (a := -a) (c := c) (by omega) (by omega) hc
  rw [Iv.cl_fl]; omega
theorem ie_ok {v : Int} (h1 : -4611686018427387904 ≤ v) (h2 : v ≤ 4611686018427387904) : Wi.iv v = v ∧ Wi.er v = 0 := by
  have q : Wi.in64 v := by unfold Wi.in64; omega
  refine ⟨Wi.iv_yes q, ?_⟩
  unfold Wi.er; rw [Wi.ib_yes q]; rfl
theorem floor_ok (a c : Int) (w : World) (h1 : -4611686018427387904 ≤ a) (h2 : a ≤ 4611686018427387904) (c1 : -9223372036854775808 ≤ c) (c2 : c ≤ 9223372036854775807) (hc : c ≠ 0) :
    Calls Try.prog 60 #[.int .i64 a, .int .i64 c] w fun e w' => e = .returned (.tuple #[.int .i64 (Iv.fl a c), .int .i64 0]) ∧ Below w.heap.size w w' := by
  have b := fl_bd h1 h2 hc
  have K := floor_c a c w (by omega) (by omega) c1 c2
  rw [if_neg hc, if_neg hc, Int.mul_one] at K
  unfold Iv.fl at b ⊢
  rw [(ie_ok b.1 b.2).1, (ie_ok b.1 b.2).2] at K
  exact K
theorem ceil_ok (a c : Int) (w : World) (h1 : -4611686018427387904 ≤ a) (h2 : a ≤ 4611686018427387904) (c1 : -9223372036854775808 ≤ c) (c2 : c ≤ 9223372036854775807) (hc : c ≠ 0) :
    Calls Try.prog 61 #[.int .i64 a, .int .i64 c] w fun e w' => e = .returned (.tuple #[.int .i64 (Iv.cl a c), .int .i64 0]) ∧ Below w.heap.size w w' := by
  have b := cl_bd h1 h2 hc
  have K := ceil_c a c w (by omega) (by omega) c1 c2
  rw [if_neg hc, if_neg hc, Int.mul_one] at K
  unfold Iv.cl at b ⊢
  rw [(ie_ok b.1 b.2).1, (ie_ok b.1 b.2).2] at K
  exact K
theorem jx0 (a b c d e f : Value) (w : World) : (Instr.index 71 (.agg #[a, b, c, d, e, f]) (.int .i64 0)).run Try.prog w = .ok (.agg #[a, b]) w := by kernel_rfl
theorem jx1 (a b c d e f : Value) (w : World) : (Instr.index 71 (.agg #[a, b, c, d, e, f]) (.int .i64 1)).run Try.prog w = .ok (.agg #[c, d]) w := by kernel_rfl
theorem jx2 (a b c d e f : Value) (w : World) : (Instr.index 71 (.agg #[a, b, c, d, e, f]) (.int .i64 2)).run Try.prog w = .ok (.agg #[e, f]) w := by kernel_rfl
theorem mn_one' (a b c d : Int) : Iv.mnU (four a b c d) 1 = a := by simp [Iv.mnU, four]
theorem mx_one' (a b c d : Int) : Iv.mxU (four a b c d) 1 = a := by simp [Iv.mxU, four]

set_option maxRecDepth 100000 in
set_option maxHeartbeats 4000000 in
theorem quo_ci (l h l' h' : Int) (w : World) : Calls Try.prog 17 #[.agg #[.int .i64 l, .int .i64 h], .agg #[.int .i64 l', .int .i64 h']] w fun e w' =>
    e = .returned (.tuple #[.agg #[.int .i64 (Iv.quo l h l' h').lo, .int .i64 (Iv.quo l h l' h').hi], .int .i64 (Iv.quo l h l' h').er]) ∧ Below w.heap.size w w' := by
  unfold Iv.quo
  by_cases v : Iv.Vd l h
  rotate_left
  · rw [if_neg (fun q => by unfold Iv.Qo at q; exact v q.1)]
    have e1 := Lib.hid (Iv.vb_no v)
    clear v
    go_enter Try.func17, Try.ntmps17
    have X := Blk.new w 23 #[.int .i64 (l), .int .i64 (h)]
    have hB := ba w (.cells #[.int .i64 (l), .int .i64 (h)] 23)
    have Y := Blk.new1 w (.cells #[.int .i64 (l), .int .i64 (h)] 23) 23 #[.int .i64 (l'), .int .i64 (h')]
    replace X := X.alloc (.cells #[.int .i64 (l'), .int .i64 (h')] 23)
    replace hB := bal hB (.cells #[.int .i64 (l'), .int .i64 (h')] 23)
    have R := Blk.new2 w (.cells #[.int .i64 (l), .int .i64 (h)] 23) (.cells #[.int .i64 (l'), .int .i64 (h')] 23) 23 #[.int .i64 (0), .int .i64 (0)]
    replace X := X.alloc (.cells #[.int .i64 (0), .int .i64 (0)] 23)
    replace Y := Y.alloc (.cells #[.int .i64 (0), .int .i64 (0)] 23)
    replace hB := bal hB (.cells #[.int .i64 (0), .int .i64 (0)] 23)
    obtain ⟨c00, c01, c02, c03⟩ := X.open2
    go_wp2_with fail
    refine (valid_c _ _ _).mono ?_
    rw [e1.out]
    rintro e w1 ⟨rfl, hb⟩
    clear c00 c01 c02 c03
    replace X := X.keep hb
    replace Y := Y.keep hb
    replace R := R.keep hb
    replace hB := bt hB hb
    clear hb
    obtain ⟨r00, r01, r02, r03⟩ := R.open2
    go_wp2_with fail
    refine bodyPost_ret (by simp [results, Try.results17, go_sem, r00, r01, r02, r03]; try rfl) rfl ?_
    exact ⟨rfl, by repeat (first | exact Below.refl _ _ | (with_reducible assumption) | (with_reducible apply bal) | (with_reducible apply bdr) | (with_reducible apply bdnl) | (with_reducible refine bst ?_ (by first | (simp; done) | (simp; omega) | omega) _) | (with_reducible refine bt ?_ (by with_reducible assumption)))⟩
  by_cases v2 : Iv.Vd l' h'
  rotate_left
  · rw [if_neg (fun q => by unfold Iv.Qo at q; exact v2 q.2.1)]
    have e1 := Lib.hid (Iv.vb_yes v)
    have e2 := Lib.hid (Iv.vb_no v2)
    clear v v2
    go_enter Try.func17, Try.ntmps17
    have X := Blk.new w 23 #[.int .i64 (l), .int .i64 (h)]
    have hB := ba w (.cells #[.int .i64 (l), .int .i64 (h)] 23)
    have Y := Blk.new1 w (.cells #[.int .i64 (l), .int .i64 (h)] 23) 23 #[.int .i64 (l'), .int .i64 (h')]
    replace X := X.alloc (.cells #[.int .i64 (l'), .int .i64 (h')] 23)
    replace hB := bal hB (.cells #[.int .i64 (l'), .int .i64 (h')] 23)
    have R := Blk.new2 w (.cells #[.int .i64 (l), .int .i64 (h)] 23) (.cells #[.int .i64 (l'), .int .i64 (h')] 23) 23 #[.int .i64 (0), .int .i64 (0)]
    replace X := X.alloc (.cells #[.int .i64 (0), .int .i64 (0)] 23)
    replace Y := Y.alloc (.cells #[.int .i64 (0), .int .i64 (0)] 23)
    replace hB := bal hB (.cells #[.int .i64 (0), .int .i64 (0)] 23)
    obtain ⟨c00, c01, c02, c03⟩ := X.open2
    go_wp2_with fail
    refine (valid_c _ _ _).mono ?_
    rw [e1.out]
    rintro e w1 ⟨rfl, hb⟩
    clear c00 c01 c02 c03
    replace X := X.keep hb
    replace Y := Y.keep hb
    replace R := R.keep hb
    replace hB := bt hB hb
    clear hb
    obtain ⟨c00, c01, c02, c03⟩ := Y.open2
    go_wp2_with fail
    refine (valid_c _ _ _).mono ?_
    rw [e2.out]
    rintro e w2 ⟨rfl, hb⟩
    clear c00 c01 c02 c03
    replace X := X.keep hb
    replace Y := Y.keep hb
    replace R := R.keep hb
    replace hB := bt hB hb
    clear hb
    obtain ⟨r00, r01, r02, r03⟩ := R.open2
    go_wp2_with fail
    refine bodyPost_ret (by simp [results, Try.results17, go_sem, r00, r01, r02, r03]; try rfl) rfl ?_
    exact ⟨rfl, by repeat (first | exact Below.refl _ _ | (with_reducible assumption) | (with_reducible apply bal) | (with_reducible apply bdr) | (with_reducible apply bdnl) | (with_reducible refine bst ?_ (by first | (simp; done) | (simp; omega) | omega) _) | (with_reducible refine bt ?_ (by with_reducible assumption)))⟩
  by_cases hz : 0 < l' ∨ h' < 0
  rotate_left
  · rw [if_neg (fun q => by unfold Iv.Qo at q; exact hz q.2.2)]
    have e1 := Lib.hid (Iv.vb_yes v)
    have e2 := Lib.hid (Iv.vb_yes v2)
    have e3 := Lib.hid (show Iv.hs l' h' 0 = true from by unfold Iv.hs; rw [Iv.vb_yes v2]; simp; omega)
    clear v v2 hz
    go_enter Try.func17, Try.ntmps17
    have X := Blk.new w 23 #[.int .i64 (l), .int .i64 (h)]
    have hB := ba w (.cells #[.int .i64 (l), .int .i64 (h)] 23)
    have Y := Blk.new1 w (.cells #[.int .i64 (l), .int .i64 (h)] 23) 23 #[.int .i64 (l'), .int .i64 (h')]
    replace X := X.alloc (.cells #[.int .i64 (l'), .int .i64 (h')] 23)
    replace hB := bal hB (.cells #[.int .i64 (l'), .int .i64 (h')] 23)
    have R := Blk.new2 w (.cells #[.int .i64 (l), .int .i64 (h)] 23) (.cells #[.int .i64 (l'), .int .i64 (h')] 23) 23 #[.int .i64 (0), .int .i64 (0)]
    replace X := X.alloc (.cells #[.int .i64 (0), .int .i64 (0)] 23)
    replace Y := Y.alloc (.cells #[.int .i64 (0), .int .i64 (0)] 23)
    replace hB := bal hB (.cells #[.int .i64 (0), .int .i64 (0)] 23)
    obtain ⟨c00, c01, c02, c03⟩ := X.open2
    go_wp2_with fail
    refine (valid_c _ _ _).mono ?_
    rw [e1.out]
    rintro e w1 ⟨rfl, hb⟩
    clear c00 c01 c02 c03
    replace X := X.keep hb
    replace Y := Y.keep hb
    replace R := R.keep hb
    replace hB := bt hB hb
    clear hb
    obtain ⟨c00, c01, c02, c03⟩ := Y.open2
    go_wp2_with fail
    refine (valid_c _ _ _).mono ?_
    rw [e2.out]
    rintro e w2 ⟨rfl, hb⟩
    clear c00 c01 c02 c03
    replace X := X.keep hb
    replace Y := Y.keep hb
    replace R := R.keep hb
    replace hB := bt hB hb
    clear hb
    obtain ⟨c00, c01, c02, c03⟩ := Y.open2
    go_wp2_with fail
    refine (has_c _ _ _ _).mono ?_
    rw [e3.out]
    rintro e w3 ⟨rfl, hb⟩
    clear c00 c01 c02 c03
    replace X := X.keep hb
    replace Y := Y.keep hb
    replace R := R.keep hb
    replace hB := bt hB hb
    clear hb
    obtain ⟨r00, r01, r02, r03⟩ := R.open2
    go_wp2_with fail
    refine bodyPost_ret (by simp [results, Try.results17, go_sem, r00, r01, r02, r03]; try rfl) rfl ?_
    exact ⟨rfl, by repeat (first | exact Below.refl _ _ | (with_reducible assumption) | (with_reducible apply bal) | (with_reducible apply bdr) | (with_reducible apply bdnl) | (with_reducible refine bst ?_ (by first | (simp; done) | (simp; omega) | omega) _) | (with_reducible refine bt ?_ (by with_reducible assumption)))⟩
  rw [if_pos (by unfold Iv.Qo; exact ⟨v, v2, hz⟩), ← mn_four, ← mx_four]
  have e1 := Lib.hid (Iv.vb_yes v)
  have e2 := Lib.hid (Iv.vb_yes v2)
  have e3 := Lib.hid (show Iv.hs l' h' 0 = false from by unfold Iv.hs; rw [Iv.vb_yes v2]; simp; omega)
  have z1 : l' ≠ 0 := by unfold Iv.Vd at v2; omega
  have z2 : h' ≠ 0 := by unfold Iv.Vd at v2; omega
  have x1 : -4611686018427387904 ≤ l := by unfold Iv.Vd at v; omega
  have x2 : l ≤ 4611686018427387904 := by unfold Iv.Vd at v; omega
  have xx1 : -4611686018427387904 ≤ h := by unfold Iv.Vd at v; omega
  have xx2 : h ≤ 4611686018427387904 := by unfold Iv.Vd at v; omega
  have y1 : -9223372036854775808 ≤ l' := by unfold Iv.Vd at v2; omega
  have y2 : l' ≤ 9223372036854775807 := by unfold Iv.Vd at v2; omega
  have yy1 : -9223372036854775808 ≤ h' := by unfold Iv.Vd at v2; omega
  have yy2 : h' ≤ 9223372036854775807 := by unfold Iv.Vd at v2; omega
  clear v v2 hz
  go_enter Try.func17, Try.ntmps17
  have X := Blk.new w 23 #[.int .i64 (l), .int .i64 (h)]
  have hB := ba w (.cells #[.int .i64 (l), .int .i64 (h)] 23)
  have Y := Blk.new1 w (.cells #[.int .i64 (l), .int .i64 (h)] 23) 23 #[.int .i64 (l'), .int .i64 (h')]
  replace X := X.alloc (.cells #[.int .i64 (l'), .int .i64 (h')] 23)
  replace hB := bal hB (.cells #[.int .i64 (l'), .int .i64 (h')] 23)
  have R := Blk.new2 w (.cells #[.int .i64 (l), .int .i64 (h)] 23) (.cells #[.int .i64 (l'), .int .i64 (h')] 23) 23 #[.int .i64 (0), .int .i64 (0)]
  replace X := X.alloc (.cells #[.int .i64 (0), .int .i64 (0)] 23)
  replace Y := Y.alloc (.cells #[.int .i64 (0), .int .i64 (0)] 23)
  replace hB := bal hB (.cells #[.int .i64 (0), .int .i64 (0)] 23)
  obtain ⟨c00, c01, c02, c03⟩ := X.open2
  go_wp2_with fail
  refine (valid_c _ _ _).mono ?_
  rw [e1.out]
  rintro e w1 ⟨rfl, hb⟩
  clear c00 c01 c02 c03
  replace X := X.keep hb
  replace Y := Y.keep hb
  replace R := R.keep hb
  replace hB := bt hB hb
  clear hb
  obtain ⟨c00, c01, c02, c03⟩ := Y.open2
  go_wp2_with fail
  refine (valid_c _ _ _).mono ?_
  rw [e2.out]
  rintro e w2 ⟨rfl, hb⟩
  clear c00 c01 c02 c03
  replace X := X.keep hb
  replace Y := Y.keep hb
  replace R := R.keep hb
  replace hB := bt hB hb
  clear hb
  obtain ⟨c00, c01, c02, c03⟩ := Y.open2
  go_wp2_with fail
  refine (has_c _ _ _ _).mono ?_
  rw [e3.out]
  rintro e w3 ⟨rfl, hb⟩
  clear c00 c01 c02 c03
  replace X := X.keep hb
  replace Y := Y.keep hb
  replace R := R.keep hb
  replace hB := bt hB hb
  clear hb
  obtain ⟨c00, c01, c02, c03⟩ := X.open2
  obtain ⟨c10, c11, c12, c13⟩ := Y.open2
  go_wp2_with fail
  refine (floor_ok _ _ _ x1 x2 y1 y2 z1).mono ?_
  rintro e w4 ⟨rfl, hb⟩
  clear c00 c01 c02 c03 c10 c11 c12 c13
  replace X := X.keep hb
  replace Y := Y.keep hb
  replace R := R.keep hb
  replace hB := bt hB hb
  clear hb
  obtain ⟨c00, c01, c02, c03⟩ := X.open2
  obtain ⟨c10, c11, c12, c13⟩ := Y.open2
  go_wp2_with fail
  refine (ceil_ok _ _ _ x1 x2 y1 y2 z1).mono ?_
  rintro e w5 ⟨rfl, hb⟩
  clear c00 c01 c02 c03 c10 c11 c12 c13
  replace X := X.keep hb
  replace Y := Y.keep hb
  replace R := R.keep hb
  replace hB := bt hB hb
  clear hb
  obtain ⟨c00, c01, c02, c03⟩ := X.open2
  obtain ⟨c10, c11, c12, c13⟩ := Y.open2
  go_wp2_with fail
  go_loopw [6, 8, 61] (fun a b i wr => ∃ (k : Nat) (u v : Int), k ≤ 3 ∧ i = .int .i64 k ∧ a = .int .i64 u ∧ b = .int .i64 v ∧ Hid (u = Iv.mnU (four (Iv.fl l l') (Iv.fl l h') (Iv.fl h l') (Iv.fl h h')) (k + 1) ∧ v = Iv.mxU (four (Iv.cl l l') (Iv.cl l h') (Iv.cl h l') (Iv.cl h h')) (k + 1)) ∧ Blk wr (w.heap.size + 1 + 1) 23 #[.int .i64 (0), .int .i64 (0)] ∧ Below w.heap.size w wr) (fun _ _ i _ => 3 - (intOf i).toNat)
  case atStart => exact ⟨0, _, _, by omega, rfl, rfl, rfl, Lib.hid ⟨(mn_one' _ _ _ _).symm, (mx_one' _ _ _ _).symm⟩, R, hB⟩
  case round =>
    clear X Y R hB c00 c01 c02 c03 c10 c11 c12 c13
    obtain ⟨k, u, v, hk, rfl, rfl, rfl, huv, R, hB⟩ := hrel
    generalize wr = w0 at R hB ⊢
    rcases (show k = 0 ∨ k = 1 ∨ k = 2 ∨ k = 3 by omega) with rfl | rfl | rfl | rfl
    · obtain ⟨f, hf⟩ : ∃ f, Hid (Iv.fl l h' = f) := ⟨_, Lib.hid rfl⟩
      obtain ⟨cc, hc⟩ : ∃ f, Hid (Iv.cl l h' = f) := ⟨_, Lib.hid rfl⟩
      by_cases q1 : f < u <;> by_cases q2 : v < cc
      · have f1 : (if f < u then f else u) = f := if_pos (by omega)
        have f2 : (if v < cc then cc else v) = cc := if_pos (by omega)
        have HU : Hid (f = Iv.mnU (four (Iv.fl l l') (Iv.fl l h') (Iv.fl h l') (Iv.fl h h')) (1 + 1) ∧ cc = Iv.mxU (four (Iv.cl l l') (Iv.cl l h') (Iv.cl h l') (Iv.cl h h')) (1 + 1)) := Lib.hid ⟨by rw [Iv.mnU_yes (show  ((four (Iv.fl l l') (Iv.fl l h') (Iv.fl h l') (Iv.fl h h')) 1 < Iv.mnU (four (Iv.fl l l') (Iv.fl l h') (Iv.fl h l') (Iv.fl h h')) 1) from by rw [← huv.out.1]; exact (by rw [show (four (Iv.fl l l') (Iv.fl l h') (Iv.fl h l') (Iv.fl h h')) 1 = f from hf.out]; exact q1))]; exact hf.out.symm, by rw [Iv.mxU_yes (show  (Iv.mxU (four (Iv.cl l l') (Iv.cl l h') (Iv.cl h l') (Iv.cl h h')) 1 < (four (Iv.cl l l') (Iv.cl l h') (Iv.cl h l') (Iv.cl h h')) 1) from by rw [← huv.out.2]; exact (by rw [show (four (Iv.cl l l') (Iv.cl l h') (Iv.cl h l') (Iv.cl h h')) 1 = cc from hc.out]; exact q2))]; exact hc.out.symm⟩
        clear huv
        have hz0 := hB.size
        have l0R := R.lt
        replace R := R.alloc (.cells #[.int .i64 l, .int .i64 h'] 70)
        replace hB := bal hB (.cells #[.int .i64 l, .int .i64 h'] 70)
        have PP := Blk.new w0 70 #[.int .i64 l, .int .i64 h']
        obtain ⟨c00, c01, c02, c03⟩ := PP.open2
        go_wp2_with (first | simp only [jx0] | simp only [jx1] | simp only [jx2])
        refine (floor_ok _ _ _ x1 x2 yy1 yy2 z2).mono ?_
        rw [hf.out]
        rintro e w1 ⟨rfl, hb⟩
        clear c00 c01 c02 c03
        replace R := R.keep hb
        replace PP := PP.keep hb
        replace hB := bt hB hb
        clear hb
        obtain ⟨c00, c01, c02, c03⟩ := PP.open2
        go_wp2_with fail
        refine (ceil_ok _ _ _ x1 x2 yy1 yy2 z2).mono ?_
        rw [hc.out]
        rintro e w2 ⟨rfl, hb⟩
        clear c00 c01 c02 c03
        replace R := R.keep hb
        replace PP := PP.keep hb
        replace hB := bt hB hb
        clear hb
        go_wp2_with fail
        go_roundw
        case rel => exact ⟨1, f, cc, by omega, by go_num, by first | exact rfl | exact congrArg (Value.int IntKind.i64) (by omega), by first | exact rfl | exact congrArg (Value.int IntKind.i64) (by omega), HU, R, hB⟩
        case measure => first | (simp [intOf]; done) | (simp [intOf]; omega)
      · have f1 : (if f < u then f else u) = f := if_pos (by omega)
        have f2 : (if v < cc then cc else v) = v := if_neg (by omega)
        have HU : Hid (f = Iv.mnU (four (Iv.fl l l') (Iv.fl l h') (Iv.fl h l') (Iv.fl h h')) (1 + 1) ∧ v = Iv.mxU (four (Iv.cl l l') (Iv.cl l h') (Iv.cl h l') (Iv.cl h h')) (1 + 1)) := Lib.hid ⟨by rw [Iv.mnU_yes (show  ((four (Iv.fl l l') (Iv.fl l h') (Iv.fl h l') (Iv.fl h h')) 1 < Iv.mnU (four (Iv.fl l l') (Iv.fl l h') (Iv.fl h l') (Iv.fl h h')) 1) from by rw [← huv.out.1]; exact (by rw [show (four (Iv.fl l l') (Iv.fl l h') (Iv.fl h l') (Iv.fl h h')) 1 = f from hf.out]; exact q1))]; exact hf.out.symm, by rw [Iv.mxU_no (show ¬ (Iv.mxU (four (Iv.cl l l') (Iv.cl l h') (Iv.cl h l') (Iv.cl h h')) 1 < (four (Iv.cl l l') (Iv.cl l h') (Iv.cl h l') (Iv.cl h h')) 1) from by rw [← huv.out.2]; exact (by rw [show (four (Iv.cl l l') (Iv.cl l h') (Iv.cl h l') (Iv.cl h h')) 1 = cc from hc.out]; exact q2))]; exact huv.out.2⟩
        clear huv
        have hz0 := hB.size
        have l0R := R.lt
        replace R := R.alloc (.cells #[.int .i64 l, .int .i64 h'] 70)
        replace hB := bal hB (.cells #[.int .i64 l, .int .i64 h'] 70)
        have PP := Blk.new w0 70 #[.int .i64 l, .int .i64 h']
        obtain ⟨c00, c01, c02, c03⟩ := PP.open2
        go_wp2_with (first | simp only [jx0] | simp only [jx1] | simp only [jx2])
        refine (floor_ok _ _ _ x1 x2 yy1 yy2 z2).mono ?_
        rw [hf.out]
        rintro e w1 ⟨rfl, hb⟩
        clear c00 c01 c02 c03
        replace R := R.keep hb
        replace PP := PP.keep hb
        replace hB := bt hB hb
        clear hb
        obtain ⟨c00, c01, c02, c03⟩ := PP.open2
        go_wp2_with fail
        refine (ceil_ok _ _ _ x1 x2 yy1 yy2 z2).mono ?_
        rw [hc.out]
        rintro e w2 ⟨rfl, hb⟩
        clear c00 c01 c02 c03
        replace R := R.keep hb
        replace PP := PP.keep hb
        replace hB := bt hB hb
        clear hb
        go_wp2_with fail
        go_roundw
        case rel => exact ⟨1, f, v, by omega, by go_num, by first | exact rfl | exact congrArg (Value.int IntKind.i64) (by omega), by first | exact rfl | exact congrArg (Value.int IntKind.i64) (by omega), HU, R, hB⟩
        case measure => first | (simp [intOf]; done) | (simp [intOf]; omega)
      · have f1 : (if f < u then f else u) = u := if_neg (by omega)
        have f2 : (if v < cc then cc else v) = cc := if_pos (by omega)
        have HU : Hid (u = Iv.mnU (four (Iv.fl l l') (Iv.fl l h') (Iv.fl h l') (Iv.fl h h')) (1 + 1) ∧ cc = Iv.mxU (four (Iv.cl l l') (Iv.cl l h') (Iv.cl h l') (Iv.cl h h')) (1 + 1)) := Lib.hid ⟨by rw [Iv.mnU_no (show ¬ ((four (Iv.fl l l') (Iv.fl l h') (Iv.fl h l') (Iv.fl h h')) 1 < Iv.mnU (four (Iv.fl l l') (Iv.fl l h') (Iv.fl h l') (Iv.fl h h')) 1) from by rw [← huv.out.1]; exact (by rw [show (four (Iv.fl l l') (Iv.fl l h') (Iv.fl h l') (Iv.fl h h')) 1 = f from hf.out]; exact q1))]; exact huv.out.1, by rw [Iv.mxU_yes (show  (Iv.mxU (four (Iv.cl l l') (Iv.cl l h') (Iv.cl h l') (Iv.cl h h')) 1 < (four (Iv.cl l l') (Iv.cl l h') (Iv.cl h l') (Iv.cl h h')) 1) from by rw [← huv.out.2]; exact (by rw [show (four (Iv.cl l l') (Iv.cl l h') (Iv.cl h l') (Iv.cl h h')) 1 = cc from hc.out]; exact q2))]; exact hc.out.symm⟩
        clear huv
        have hz0 := hB.size
        have l0R := R.lt
        replace R := R.alloc (.cells #[.int .i64 l, .int .i64 h'] 70)
        replace hB := bal hB (.cells #[.int .i64 l, .int .i64 h'] 70)
        have PP := Blk.new w0 70 #[.int .i64 l, .int .i64 h']
        obtain ⟨c00, c01, c02, c03⟩ := PP.open2
        go_wp2_with (first | simp only [jx0] | simp only [jx1] | simp only [jx2])
        refine (floor_ok _ _ _ x1 x2 yy1 yy2 z2).mono ?_
        rw [hf.out]
        rintro e w1 ⟨rfl, hb⟩
        clear c00 c01 c02 c03
        replace R := R.keep hb
        replace PP := PP.keep hb
        replace hB := bt hB hb
        clear hb
        obtain ⟨c00, c01, c02, c03⟩ := PP.open2
        go_wp2_with fail
        refine (ceil_ok _ _ _ x1 x2 yy1 yy2 z2).mono ?_
        rw [hc.out]
        rintro e w2 ⟨rfl, hb⟩
        clear c00 c01 c02 c03
        replace R := R.keep hb
        replace PP := PP.keep hb
        replace hB := bt hB hb
        clear hb
        go_wp2_with fail
        go_roundw
        case rel => exact ⟨1, u, cc, by omega, by go_num, by first | exact rfl | exact congrArg (Value.int IntKind.i64) (by omega), by first | exact rfl | exact congrArg (Value.int IntKind.i64) (by omega), HU, R, hB⟩
        case measure => first | (simp [intOf]; done) | (simp [intOf]; omega)
      · have f1 : (if f < u then f else u) = u := if_neg (by omega)
        have f2 : (if v < cc then cc else v) = v := if_neg (by omega)
        have HU : Hid (u = Iv.mnU (four (Iv.fl l l') (Iv.fl l h') (Iv.fl h l') (Iv.fl h h')) (1 + 1) ∧ v = Iv.mxU (four (Iv.cl l l') (Iv.cl l h') (Iv.cl h l') (Iv.cl h h')) (1 + 1)) := Lib.hid ⟨by rw [Iv.mnU_no (show ¬ ((four (Iv.fl l l') (Iv.fl l h') (Iv.fl h l') (Iv.fl h h')) 1 < Iv.mnU (four (Iv.fl l l') (Iv.fl l h') (Iv.fl h l') (Iv.fl h h')) 1) from by rw [← huv.out.1]; exact (by rw [show (four (Iv.fl l l') (Iv.fl l h') (Iv.fl h l') (Iv.fl h h')) 1 = f from hf.out]; exact q1))]; exact huv.out.1, by rw [Iv.mxU_no (show ¬ (Iv.mxU (four (Iv.cl l l') (Iv.cl l h') (Iv.cl h l') (Iv.cl h h')) 1 < (four (Iv.cl l l') (Iv.cl l h') (Iv.cl h l') (Iv.cl h h')) 1) from by rw [← huv.out.2]; exact (by rw [show (four (Iv.cl l l') (Iv.cl l h') (Iv.cl h l') (Iv.cl h h')) 1 = cc from hc.out]; exact q2))]; exact huv.out.2⟩
        clear huv
        have hz0 := hB.size
        have l0R := R.lt
        replace R := R.alloc (.cells #[.int .i64 l, .int .i64 h'] 70)
        replace hB := bal hB (.cells #[.int .i64 l, .int .i64 h'] 70)
        have PP := Blk.new w0 70 #[.int .i64 l, .int .i64 h']
        obtain ⟨c00, c01, c02, c03⟩ := PP.open2
        go_wp2_with (first | simp only [jx0] | simp only [jx1] | simp only [jx2])
        refine (floor_ok _ _ _ x1 x2 yy1 yy2 z2).mono ?_
        rw [hf.out]
        rintro e w1 ⟨rfl, hb⟩
        clear c00 c01 c02 c03
        replace R := R.keep hb
        replace PP := PP.keep hb
        replace hB := bt hB hb
        clear hb
        obtain ⟨c00, c01, c02, c03⟩ := PP.open2
        go_wp2_with fail
        refine (ceil_ok _ _ _ x1 x2 yy1 yy2 z2).mono ?_
        rw [hc.out]
        rintro e w2 ⟨rfl, hb⟩
        clear c00 c01 c02 c03
        replace R := R.keep hb
        replace PP := PP.keep hb
        replace hB := bt hB hb
        clear hb
        go_wp2_with fail
        go_roundw
        case rel => exact ⟨1, u, v, by omega, by go_num, by first | exact rfl | exact congrArg (Value.int IntKind.i64) (by omega), by first | exact rfl | exact congrArg (Value.int IntKind.i64) (by omega), HU, R, hB⟩
        case measure => first | (simp [intOf]; done) | (simp [intOf]; omega)
    · obtain ⟨f, hf⟩ : ∃ f, Hid (Iv.fl h l' = f) := ⟨_, Lib.hid rfl⟩
      obtain ⟨cc, hc⟩ : ∃ f, Hid (Iv.cl h l' = f) := ⟨_, Lib.hid rfl⟩
      by_cases q1 : f < u <;> by_cases q2 : v < cc
      · have f1 : (if f < u then f else u) = f := if_pos (by omega)
        have f2 : (if v < cc then cc else v) = cc := if_pos (by omega)
        have HU : Hid (f = Iv.mnU (four (Iv.fl l l') (Iv.fl l h') (Iv.fl h l') (Iv.fl h h')) (2 + 1) ∧ cc = Iv.mxU (four (Iv.cl l l') (Iv.cl l h') (Iv.cl h l') (Iv.cl h h')) (2 + 1)) := Lib.hid ⟨by rw [Iv.mnU_yes (show  ((four (Iv.fl l l') (Iv.fl l h') (Iv.fl h l') (Iv.fl h h')) 2 < Iv.mnU (four (Iv.fl l l') (Iv.fl l h') (Iv.fl h l') (Iv.fl h h')) 2) from by rw [← huv.out.1]; exact (by rw [show (four (Iv.fl l l') (Iv.fl l h') (Iv.fl h l') (Iv.fl h h')) 2 = f from hf.out]; exact q1))]; exact hf.out.symm, by rw [Iv.mxU_yes (show  (Iv.mxU (four (Iv.cl l l') (Iv.cl l h') (Iv.cl h l') (Iv.cl h h')) 2 < (four (Iv.cl l l') (Iv.cl l h') (Iv.cl h l') (Iv.cl h h')) 2) from by rw [← huv.out.2]; exact (by rw [show (four (Iv.cl l l') (Iv.cl l h') (Iv.cl h l') (Iv.cl h h')) 2 = cc from hc.out]; exact q2))]; exact hc.out.symm⟩
        clear huv
        have hz0 := hB.size
        have l0R := R.lt
        replace R := R.alloc (.cells #[.int .i64 h, .int .i64 l'] 70)
        replace hB := bal hB (.cells #[.int .i64 h, .int .i64 l'] 70)
        have PP := Blk.new w0 70 #[.int .i64 h, .int .i64 l']
        obtain ⟨c00, c01, c02, c03⟩ := PP.open2
        go_wp2_with (first | simp only [jx0] | simp only [jx1] | simp only [jx2])
        refine (floor_ok _ _ _ xx1 xx2 y1 y2 z1).mono ?_
        rw [hf.out]
        rintro e w1 ⟨rfl, hb⟩
        clear c00 c01 c02 c03
        replace R := R.keep hb
        replace PP := PP.keep hb
        replace hB := bt hB hb
        clear hb
        obtain ⟨c00, c01, c02, c03⟩ := PP.open2
        go_wp2_with fail
        refine (ceil_ok _ _ _ xx1 xx2 y1 y2 z1).mono ?_
        rw [hc.out]
        rintro e w2 ⟨rfl, hb⟩
        clear c00 c01 c02 c03
        replace R := R.keep hb
        replace PP := PP.keep hb
        replace hB := bt hB hb
        clear hb
        go_wp2_with fail
        go_roundw
        case rel => exact ⟨2, f, cc, by omega, by go_num, by first | exact rfl | exact congrArg (Value.int IntKind.i64) (by omega), by first | exact rfl | exact congrArg (Value.int IntKind.i64) (by omega), HU, R, hB⟩
        case measure => first | (simp [intOf]; done) | (simp [intOf]; omega)
      · have f1 : (if f < u then f else u) = f := if_pos (by omega)
        have f2 : (if v < cc then cc else v) = v := if_neg (by omega)
        have HU : Hid (f = Iv.mnU (four (Iv.fl l l') (Iv.fl l h') (Iv.fl h l') (Iv.fl h h')) (2 + 1) ∧ v = Iv.mxU (four (Iv.cl l l') (Iv.cl l h') (Iv.cl h l') (Iv.cl h h')) (2 + 1)) := Lib.hid ⟨by rw [Iv.mnU_yes (show  ((four (Iv.fl l l') (Iv.fl l h') (Iv.fl h l') (Iv.fl h h')) 2 < Iv.mnU (four (Iv.fl l l') (Iv.fl l h') (Iv.fl h l') (Iv.fl h h')) 2) from by rw [← huv.out.1]; exact (by rw [show (four (Iv.fl l l') (Iv.fl l h') (Iv.fl h l') (Iv.fl h h')) 2 = f from hf.out]; exact q1))]; exact hf.out.symm, by rw [Iv.mxU_no (show ¬ (Iv.mxU (four (Iv.cl l l') (Iv.cl l h') (Iv.cl h l') (Iv.cl h h')) 2 < (four (Iv.cl l l') (Iv.cl l h') (Iv.cl h l') (Iv.cl h h')) 2) from by rw [← huv.out.2]; exact (by rw [show (four (Iv.cl l l') (Iv.cl l h') (Iv.cl h l') (Iv.cl h h')) 2 = cc from hc.out]; exact q2))]; exact huv.out.2⟩
        clear huv
        have hz0 := hB.size
        have l0R := R.lt
        replace R := R.alloc (.cells #[.int .i64 h, .int .i64 l'] 70)
        replace hB := bal hB (.cells #[.int .i64 h, .int .i64 l'] 70)
        have PP := Blk.new w0 70 #[.int .i64 h, .int .i64 l']
        obtain ⟨c00, c01, c02, c03⟩ := PP.open2
        go_wp2_with (first | simp only [jx0] | simp only [jx1] | simp only [jx2])
        refine (floor_ok _ _ _ xx1 xx2 y1 y2 z1).mono ?_
        rw [hf.out]
        rintro e w1 ⟨rfl, hb⟩
        clear c00 c01 c02 c03
        replace R := R.keep hb
        replace PP := PP.keep hb
        replace hB := bt hB hb
        clear hb
        obtain ⟨c00, c01, c02, c03⟩ := PP.open2
        go_wp2_with fail
        refine (ceil_ok _ _ _ xx1 xx2 y1 y2 z1).mono ?_
        rw [hc.out]
        rintro e w2 ⟨rfl, hb⟩
        clear c00 c01 c02 c03
        replace R := R.keep hb
        replace PP := PP.keep hb
        replace hB := bt hB hb
        clear hb
        go_wp2_with fail
        go_roundw
        case rel => exact ⟨2, f, v, by omega, by go_num, by first | exact rfl | exact congrArg (Value.int IntKind.i64) (by omega), by first | exact rfl | exact congrArg (Value.int IntKind.i64) (by omega), HU, R, hB⟩
        case measure => first | (simp [intOf]; done) | (simp [intOf]; omega)
      · have f1 : (if f < u then f else u) = u := if_neg (by omega)
        have f2 : (if v < cc then cc else v) = cc := if_pos (by omega)
        have HU : Hid (u = Iv.mnU (four (Iv.fl l l') (Iv.fl l h') (Iv.fl h l') (Iv.fl h h')) (2 + 1) ∧ cc = Iv.mxU (four (Iv.cl l l') (Iv.cl l h') (Iv.cl h l') (Iv.cl h h')) (2 + 1)) := Lib.hid ⟨by rw [Iv.mnU_no (show ¬ ((four (Iv.fl l l') (Iv.fl l h') (Iv.fl h l') (Iv.fl h h')) 2 < Iv.mnU (four (Iv.fl l l') (Iv.fl l h') (Iv.fl h l') (Iv.fl h h')) 2) from by rw [← huv.out.1]; exact (by rw [show (four (Iv.fl l l') (Iv.fl l h') (Iv.fl h l') (Iv.fl h h')) 2 = f from hf.out]; exact q1))]; exact huv.out.1, by rw [Iv.mxU_yes (show  (Iv.mxU (four (Iv.cl l l') (Iv.cl l h') (Iv.cl h l') (Iv.cl h h')) 2 < (four (Iv.cl l l') (Iv.cl l h') (Iv.cl h l') (Iv.cl h h')) 2) from by rw [← huv.out.2]; exact (by rw [show (four (Iv.cl l l') (Iv.cl l h') (Iv.cl h l') (Iv.cl h h')) 2 = cc from hc.out]; exact q2))]; exact hc.out.symm⟩
        clear huv
        have hz0 := hB.size
        have l0R := R.lt
        replace R := R.alloc (.cells #[.int .i64 h, .int .i64 l'] 70)
        replace hB := bal hB (.cells #[.int .i64 h, .int .i64 l'] 70)
        have PP := Blk.new w0 70 #[.int .i64 h, .int .i64 l']
        obtain ⟨c00, c01, c02, c03⟩ := PP.open2
        go_wp2_with (first | simp only [jx0] | simp only [jx1] | simp only [jx2])
        refine (floor_ok _ _ _ xx1 xx2 y1 y2 z1).mono ?_
        rw [hf.out]
        rintro e w1 ⟨rfl, hb⟩
        clear c00 c01 c02 c03
        replace R := R.keep hb
        replace PP := PP.keep hb
        replace hB := bt hB hb
        clear hb
        obtain ⟨c00, c01, c02, c03⟩ := PP.open2
        go_wp2_with fail
        refine (ceil_ok _ _ _ xx1 xx2 y1 y2 z1).mono ?_
        rw [hc.out]
        rintro e w2 ⟨rfl, hb⟩
        clear c00 c01 c02 c03
        replace R := R.keep hb
        replace PP := PP.keep hb
        replace hB := bt hB hb
        clear hb
        go_wp2_with fail
        go_roundw
        case rel => exact ⟨2, u, cc, by omega, by go_num, by first | exact rfl | exact congrArg (Value.int IntKind.i64) (by omega), by first | exact rfl | exact congrArg (Value.int IntKind.i64) (by omega), HU, R, hB⟩
        case measure => first | (simp [intOf]; done) | (simp [intOf]; omega)
      · have f1 : (if f < u then f else u) = u := if_neg (by omega)
        have f2 : (if v < cc then cc else v) = v := if_neg (by omega)
        have HU : Hid (u = Iv.mnU (four (Iv.fl l l') (Iv.fl l h') (Iv.fl h l') (Iv.fl h h')) (2 + 1) ∧ v = Iv.mxU (four (Iv.cl l l') (Iv.cl l h') (Iv.cl h l') (Iv.cl h h')) (2 + 1)) := Lib.hid ⟨by rw [Iv.mnU_no (show ¬ ((four (Iv.fl l l') (Iv.fl l h') (Iv.fl h l') (Iv.fl h h')) 2 < Iv.mnU (four (Iv.fl l l') (Iv.fl l h') (Iv.fl h l') (Iv.fl h h')) 2) from by rw [← huv.out.1]; exact (by rw [show (four (Iv.fl l l') (Iv.fl l h') (Iv.fl h l') (Iv.fl h h')) 2 = f from hf.out]; exact q1))]; exact huv.out.1, by rw [Iv.mxU_no (show ¬ (Iv.mxU (four (Iv.cl l l') (Iv.cl l h') (Iv.cl h l') (Iv.cl h h')) 2 < (four (Iv.cl l l') (Iv.cl l h') (Iv.cl h l') (Iv.cl h h')) 2) from by rw [← huv.out.2]; exact (by rw [show (four (Iv.cl l l') (Iv.cl l h') (Iv.cl h l') (Iv.cl h h')) 2 = cc from hc.out]; exact q2))]; exact huv.out.2⟩
        clear huv
        have hz0 := hB.size
        have l0R := R.lt
        replace R := R.alloc (.cells #[.int .i64 h, .int .i64 l'] 70)
        replace hB := bal hB (.cells #[.int .i64 h, .int .i64 l'] 70)
        have PP := Blk.new w0 70 #[.int .i64 h, .int .i64 l']
        obtain ⟨c00, c01, c02, c03⟩ := PP.open2
        go_wp2_with (first | simp only [jx0] | simp only [jx1] | simp only [jx2])
        refine (floor_ok _ _ _ xx1 xx2 y1 y2 z1).mono ?_
        rw [hf.out]
        rintro e w1 ⟨rfl, hb⟩
        clear c00 c01 c02 c03
        replace R := R.keep hb
        replace PP := PP.keep hb
        replace hB := bt hB hb
        clear hb
        obtain ⟨c00, c01, c02, c03⟩ := PP.open2
        go_wp2_with fail
        refine (ceil_ok _ _ _ xx1 xx2 y1 y2 z1).mono ?_
        rw [hc.out]
        rintro e w2 ⟨rfl, hb⟩
        clear c00 c01 c02 c03
        replace R := R.keep hb
        replace PP := PP.keep hb
        replace hB := bt hB hb
        clear hb
        go_wp2_with fail
        go_roundw
        case rel => exact ⟨2, u, v, by omega, by go_num, by first | exact rfl | exact congrArg (Value.int IntKind.i64) (by omega), by first | exact rfl | exact congrArg (Value.int IntKind.i64) (by omega), HU, R, hB⟩
        case measure => first | (simp [intOf]; done) | (simp [intOf]; omega)
    · obtain ⟨f, hf⟩ : ∃ f, Hid (Iv.fl h h' = f) := ⟨_, Lib.hid rfl⟩
      obtain ⟨cc, hc⟩ : ∃ f, Hid (Iv.cl h h' = f) := ⟨_, Lib.hid rfl⟩
      by_cases q1 : f < u <;> by_cases q2 : v < cc
      · have f1 : (if f < u then f else u) = f := if_pos (by omega)
        have f2 : (if v < cc then cc else v) = cc := if_pos (by omega)
        have HU : Hid (f = Iv.mnU (four (Iv.fl l l') (Iv.fl l h') (Iv.fl h l') (Iv.fl h h')) (3 + 1) ∧ cc = Iv.mxU (four (Iv.cl l l') (Iv.cl l h') (Iv.cl h l') (Iv.cl h h')) (3 + 1)) := Lib.hid ⟨by rw [Iv.mnU_yes (show  ((four (Iv.fl l l') (Iv.fl l h') (Iv.fl h l') (Iv.fl h h')) 3 < Iv.mnU (four (Iv.fl l l') (Iv.fl l h') (Iv.fl h l') (Iv.fl h h')) 3) from by rw [← huv.out.1]; exact (by rw [show (four (Iv.fl l l') (Iv.fl l h') (Iv.fl h l') (Iv.fl h h')) 3 = f from hf.out]; exact q1))]; exact hf.out.symm, by rw [Iv.mxU_yes (show  (Iv.mxU (four (Iv.cl l l') (Iv.cl l h') (Iv.cl h l') (Iv.cl h h')) 3 < (four (Iv.cl l l') (Iv.cl l h') (Iv.cl h l') (Iv.cl h h')) 3) from by rw [← huv.out.2]; exact (by rw [show (four (Iv.cl l l') (Iv.cl l h') (Iv.cl h l') (Iv.cl h h')) 3 = cc from hc.out]; exact q2))]; exact hc.out.symm⟩
        clear huv
        have hz0 := hB.size
        have l0R := R.lt
        replace R := R.alloc (.cells #[.int .i64 h, .int .i64 h'] 70)
        replace hB := bal hB (.cells #[.int .i64 h, .int .i64 h'] 70)
        have PP := Blk.new w0 70 #[.int .i64 h, .int .i64 h']
        obtain ⟨c00, c01, c02, c03⟩ := PP.open2
        go_wp2_with (first | simp only [jx0] | simp only [jx1] | simp only [jx2])
        refine (floor_ok _ _ _ xx1 xx2 yy1 yy2 z2).mono ?_
        rw [hf.out]
        rintro e w1 ⟨rfl, hb⟩
        clear c00 c01 c02 c03
        replace R := R.keep hb
        replace PP := PP.keep hb
        replace hB := bt hB hb
        clear hb
        obtain ⟨c00, c01, c02, c03⟩ := PP.open2
        go_wp2_with fail
        refine (ceil_ok _ _ _ xx1 xx2 yy1 yy2 z2).mono ?_
        rw [hc.out]
        rintro e w2 ⟨rfl, hb⟩
        clear c00 c01 c02 c03
        replace R := R.keep hb
        replace PP := PP.keep hb
        replace hB := bt hB hb
        clear hb
        go_wp2_with fail
        go_roundw
        case rel => exact ⟨3, f, cc, by omega, by go_num, by first | exact rfl | exact congrArg (Value.int IntKind.i64) (by omega), by first | exact rfl | exact congrArg (Value.int IntKind.i64) (by omega), HU, R, hB⟩
        case measure => first | (simp [intOf]; done) | (simp [intOf]; omega)
      · have f1 : (if f < u then f else u) = f := if_pos (by omega)
        have f2 : (if v < cc then cc else v) = v := if_neg (by omega)
        have HU : Hid (f = Iv.mnU (four (Iv.fl l l') (Iv.fl l h') (Iv.fl h l') (Iv.fl h h')) (3 + 1) ∧ v = Iv.mxU (four (Iv.cl l l') (Iv.cl l h') (Iv.cl h l') (Iv.cl h h')) (3 + 1)) := Lib.hid ⟨by rw [Iv.mnU_yes (show  ((four (Iv.fl l l') (Iv.fl l h') (Iv.fl h l') (Iv.fl h h')) 3 < Iv.mnU (four (Iv.fl l l') (Iv.fl l h') (Iv.fl h l') (Iv.fl h h')) 3) from by rw [← huv.out.1]; exact (by rw [show (four (Iv.fl l l') (Iv.fl l h') (Iv.fl h l') (Iv.fl h h')) 3 = f from hf.out]; exact q1))]; exact hf.out.symm, by rw [Iv.mxU_no (show ¬ (Iv.mxU (four (Iv.cl l l') (Iv.cl l h') (Iv.cl h l') (Iv.cl h h')) 3 < (four (Iv.cl l l') (Iv.cl l h') (Iv.cl h l') (Iv.cl h h')) 3) from by rw [← huv.out.2]; exact (by rw [show (four (Iv.cl l l') (Iv.cl l h') (Iv.cl h l') (Iv.cl h h')) 3 = cc from hc.out]; exact q2))]; exact huv.out.2⟩
        clear huv
        have hz0 := hB.size
        have l0R := R.lt
        replace R := R.alloc (.cells #[.int .i64 h, .int .i64 h'] 70)
        replace hB := bal hB (.cells #[.int .i64 h, .int .i64 h'] 70)
        have PP := Blk.new w0 70 #[.int .i64 h, .int .i64 h']
        obtain ⟨c00, c01, c02, c03⟩ := PP.open2
        go_wp2_with (first | simp only [jx0] | simp only [jx1] | simp only [jx2])
        refine (floor_ok _ _ _ xx1 xx2 yy1 yy2 z2).mono ?_
        rw [hf.out]
        rintro e w1 ⟨rfl, hb⟩
        clear c00 c01 c02 c03
        replace R := R.keep hb
        replace PP := PP.keep hb
        replace hB := bt hB hb
        clear hb
        obtain ⟨c00, c01, c02, c03⟩ := PP.open2
        go_wp2_with fail
        refine (ceil_ok _ _ _ xx1 xx2 yy1 yy2 z2).mono ?_
        rw [hc.out]
        rintro e w2 ⟨rfl, hb⟩
        clear c00 c01 c02 c03
        replace R := R.keep hb
        replace PP := PP.keep hb
        replace hB := bt hB hb
        clear hb
        go_wp2_with fail
        go_roundw
        case rel => exact ⟨3, f, v, by omega, by go_num, by first | exact rfl | exact congrArg (Value.int IntKind.i64) (by omega), by first | exact rfl | exact congrArg (Value.int IntKind.i64) (by omega), HU, R, hB⟩
        case measure => first | (simp [intOf]; done) | (simp [intOf]; omega)
      · have f1 : (if f < u then f else u) = u := if_neg (by omega)
        have f2 : (if v < cc then cc else v) = cc := if_pos (by omega)
        have HU : Hid (u = Iv.mnU (four (Iv.fl l l') (Iv.fl l h') (Iv.fl h l') (Iv.fl h h')) (3 + 1) ∧ cc = Iv.mxU (four (Iv.cl l l') (Iv.cl l h') (Iv.cl h l') (Iv.cl h h')) (3 + 1)) := Lib.hid ⟨by rw [Iv.mnU_no (show ¬ ((four (Iv.fl l l') (Iv.fl l h') (Iv.fl h l') (Iv.fl h h')) 3 < Iv.mnU (four (Iv.fl l l') (Iv.fl l h') (Iv.fl h l') (Iv.fl h h')) 3) from by rw [← huv.out.1]; exact (by rw [show (four (Iv.fl l l') (Iv.fl l h') (Iv.fl h l') (Iv.fl h h')) 3 = f from hf.out]; exact q1))]; exact huv.out.1, by rw [Iv.mxU_yes (show  (Iv.mxU (four (Iv.cl l l') (Iv.cl l h') (Iv.cl h l') (Iv.cl h h')) 3 < (four (Iv.cl l l') (Iv.cl l h') (Iv.cl h l') (Iv.cl h h')) 3) from by rw [← huv.out.2]; exact (by rw [show (four (Iv.cl l l') (Iv.cl l h') (Iv.cl h l') (Iv.cl h h')) 3 = cc from hc.out]; exact q2))]; exact hc.out.symm⟩
        clear huv
        have hz0 := hB.size
        have l0R := R.lt
        replace R := R.alloc (.cells #[.int .i64 h, .int .i64 h'] 70)
        replace hB := bal hB (.cells #[.int .i64 h, .int .i64 h'] 70)
        have PP := Blk.new w0 70 #[.int .i64 h, .int .i64 h']
        obtain ⟨c00, c01, c02, c03⟩ := PP.open2
        go_wp2_with (first | simp only [jx0] | simp only [jx1] | simp only [jx2])
        refine (floor_ok _ _ _ xx1 xx2 yy1 yy2 z2).mono ?_
        rw [hf.out]
        rintro e w1 ⟨rfl, hb⟩
        clear c00 c01 c02 c03
        replace R := R.keep hb
        replace PP := PP.keep hb
        replace hB := bt hB hb
        clear hb
        obtain ⟨c00, c01, c02, c03⟩ := PP.open2
        go_wp2_with fail
        refine (ceil_ok _ _ _ xx1 xx2 yy1 yy2 z2).mono ?_
        rw [hc.out]
        rintro e w2 ⟨rfl, hb⟩
        clear c00 c01 c02 c03
        replace R := R.keep hb
        replace PP := PP.keep hb
        replace hB := bt hB hb
        clear hb
        go_wp2_with fail
        go_roundw
        case rel => exact ⟨3, u, cc, by omega, by go_num, by first | exact rfl | exact congrArg (Value.int IntKind.i64) (by omega), by first | exact rfl | exact congrArg (Value.int IntKind.i64) (by omega), HU, R, hB⟩
        case measure => first | (simp [intOf]; done) | (simp [intOf]; omega)
      · have f1 : (if f < u then f else u) = u := if_neg (by omega)
        have f2 : (if v < cc then cc else v) = v := if_neg (by omega)
        have HU : Hid (u = Iv.mnU (four (Iv.fl l l') (Iv.fl l h') (Iv.fl h l') (Iv.fl h h')) (3 + 1) ∧ v = Iv.mxU (four (Iv.cl l l') (Iv.cl l h') (Iv.cl h l') (Iv.cl h h')) (3 + 1)) := Lib.hid ⟨by rw [Iv.mnU_no (show ¬ ((four (Iv.fl l l') (Iv.fl l h') (Iv.fl h l') (Iv.fl h h')) 3 < Iv.mnU (four (Iv.fl l l') (Iv.fl l h') (Iv.fl h l') (Iv.fl h h')) 3) from by rw [← huv.out.1]; exact (by rw [show (four (Iv.fl l l') (Iv.fl l h') (Iv.fl h l') (Iv.fl h h')) 3 = f from hf.out]; exact q1))]; exact huv.out.1, by rw [Iv.mxU_no (show ¬ (Iv.mxU (four (Iv.cl l l') (Iv.cl l h') (Iv.cl h l') (Iv.cl h h')) 3 < (four (Iv.cl l l') (Iv.cl l h') (Iv.cl h l') (Iv.cl h h')) 3) from by rw [← huv.out.2]; exact (by rw [show (four (Iv.cl l l') (Iv.cl l h') (Iv.cl h l') (Iv.cl h h')) 3 = cc from hc.out]; exact q2))]; exact huv.out.2⟩
        clear huv
        have hz0 := hB.size
        have l0R := R.lt
        replace R := R.alloc (.cells #[.int .i64 h, .int .i64 h'] 70)
        replace hB := bal hB (.cells #[.int .i64 h, .int .i64 h'] 70)
        have PP := Blk.new w0 70 #[.int .i64 h, .int .i64 h']
        obtain ⟨c00, c01, c02, c03⟩ := PP.open2
        go_wp2_with (first | simp only [jx0] | simp only [jx1] | simp only [jx2])
        refine (floor_ok _ _ _ xx1 xx2 yy1 yy2 z2).mono ?_
        rw [hf.out]
        rintro e w1 ⟨rfl, hb⟩
        clear c00 c01 c02 c03
        replace R := R.keep hb
        replace PP := PP.keep hb
        replace hB := bt hB hb
        clear hb
        obtain ⟨c00, c01, c02, c03⟩ := PP.open2
        go_wp2_with fail
        refine (ceil_ok _ _ _ xx1 xx2 yy1 yy2 z2).mono ?_
        rw [hc.out]
        rintro e w2 ⟨rfl, hb⟩
        clear c00 c01 c02 c03
        replace R := R.keep hb
        replace PP := PP.keep hb
        replace hB := bt hB hb
        clear hb
        go_wp2_with fail
        go_roundw
        case rel => exact ⟨3, u, v, by omega, by go_num, by first | exact rfl | exact congrArg (Value.int IntKind.i64) (by omega), by first | exact rfl | exact congrArg (Value.int IntKind.i64) (by omega), HU, R, hB⟩
        case measure => first | (simp [intOf]; done) | (simp [intOf]; omega)
    · obtain ⟨c00, c01, c02, c03⟩ := R.open2
      go_wp2_with fail
      refine (result_c _ _ _).mono ?_
      rw [huv.out.1, huv.out.2]
      rintro e w1 ⟨rfl, hb⟩
      clear c00 c01 c02 c03
      replace R := R.keep hb
      replace hB := bt hB hb
      clear hb
      obtain ⟨r00, r01, r02, r03⟩ := R.open2
      go_wp2_with fail
      refine bodyPost_ret (by simp [results, Try.results17, go_sem, r00, r01, r02, r03]; try rfl) rfl ?_
      exact ⟨rfl, by repeat (first | exact Below.refl _ _ | (with_reducible assumption) | (with_reducible apply bal) | (with_reducible apply bdr) | (with_reducible apply bdnl) | (with_reducible refine bst ?_ (by first | (simp; done) | (simp; omega) | omega) _) | (with_reducible refine bt ?_ (by with_reducible assumption)))⟩
end Go.Proofs.Ytclohghongpfkaa
