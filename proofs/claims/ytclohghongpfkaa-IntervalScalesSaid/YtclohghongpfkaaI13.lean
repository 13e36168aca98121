/-
  Contracts: scaled intervals.
-/
import Derived.Test.YtclohghongpfkaaI7
import Derived.Test.YtclohghongpfkaaI10
namespace Go.Proofs.Ytclohghongpfkaa
set_option linter.unusedVariables false
set_option linter.unusedSimpArgs false
open Go.RowKit

theorem er_yes {v : Int} (q : Wi.in64 v) : Wi.er v = 0 := by unfold Wi.er; rw [Wi.ib_yes q]; rfl
theorem er_no {v : Int} (q : ¬ Wi.in64 v) : Wi.er v = 2 := by unfold Wi.er; rw [Wi.ib_no q]; rfl
/-- Where the interval of the rounded quotients is valid, so are these. -/
theorem sc_in {a b c e : Int} (h1 : a ≤ b) (h2 : c ≤ e) (v : Iv.Vd (min a c) (max b e)) : Wi.in64 a ∧ Wi.in64 b ∧ Wi.in64 c ∧ Wi.in64 e := by
  unfold Iv.Vd at v; unfold Wi.in64; omega

set_option maxRecDepth 100000 in
set_option maxHeartbeats 4000000 in
theorem scale_ci (l h n d : Int) (w : World) (n1 : -9223372036854775808 ≤ n) (n2 : n ≤ 9223372036854775807) (d1 : -9223372036854775808 ≤ d) (d2 : d ≤ 9223372036854775807) : Calls Try.prog 19 #[.agg #[.int .i64 l, .int .i64 h], .int .i64 n, .int .i64 d] w fun e w' =>
    e = .returned (.tuple #[.agg #[.int .i64 (Iv.scale l h n d).lo, .int .i64 (Iv.scale l h n d).hi], .int .i64 (Iv.scale l h n d).er]) ∧ Below w.heap.size w w' := by
  unfold Iv.scale
  by_cases v : Iv.Vd l h
  rotate_left
  · rw [if_neg (fun q => v q.1)]
    have e1 := Lib.hid (Iv.vb_no v)
    clear v
    go_enter Try.func19, Try.ntmps19
    have X := Blk.new w 23 #[.int .i64 (l), .int .i64 (h)]
    have hB := ba w (.cells #[.int .i64 (l), .int .i64 (h)] 23)
    have R := Blk.new1 w (.cells #[.int .i64 (l), .int .i64 (h)] 23) 23 #[.int .i64 (0), .int .i64 (0)]
    replace X := X.alloc (.cells #[.int .i64 (0), .int .i64 (0)] 23)
    replace hB := bal hB (.cells #[.int .i64 (0), .int .i64 (0)] 23)
    obtain ⟨c00, c01, c02, c03⟩ := X.open2
    go_wp2_with fail
    refine (valid_c _ _ _).mono ?_
    rw [e1.out]
    rintro e w1 ⟨rfl, hb⟩
    clear c00 c01 c02 c03
    replace X := X.keep hb
    replace R := R.keep hb
    replace hB := bt hB hb
    clear hb
    obtain ⟨r00, r01, r02, r03⟩ := R.open2
    go_wp2_with fail
    refine bodyPost_ret (by simp [results, Try.results19, go_sem, r00, r01, r02, r03]; try rfl) rfl ?_
    exact ⟨rfl, by repeat (first | exact Below.refl _ _ | (with_reducible assumption) | (with_reducible apply bal) | (with_reducible apply bdr) | (with_reducible apply bdnl) | (with_reducible refine bst ?_ (by first | (simp; done) | (simp; omega) | omega) _) | (with_reducible refine bt ?_ (by with_reducible assumption)))⟩
  by_cases k0 : d = 0
  · rw [if_neg (fun q => q.2 k0)]
    have e1 := Lib.hid (Iv.vb_yes v)
    subst k0
    clear v
    go_enter Try.func19, Try.ntmps19
    have X := Blk.new w 23 #[.int .i64 (l), .int .i64 (h)]
    have hB := ba w (.cells #[.int .i64 (l), .int .i64 (h)] 23)
    have R := Blk.new1 w (.cells #[.int .i64 (l), .int .i64 (h)] 23) 23 #[.int .i64 (0), .int .i64 (0)]
    replace X := X.alloc (.cells #[.int .i64 (0), .int .i64 (0)] 23)
    replace hB := bal hB (.cells #[.int .i64 (0), .int .i64 (0)] 23)
    obtain ⟨c00, c01, c02, c03⟩ := X.open2
    go_wp2_with fail
    refine (valid_c _ _ _).mono ?_
    rw [e1.out]
    rintro e w1 ⟨rfl, hb⟩
    clear c00 c01 c02 c03
    replace X := X.keep hb
    replace R := R.keep hb
    replace hB := bt hB hb
    clear hb
    obtain ⟨r00, r01, r02, r03⟩ := R.open2
    go_wp2_with fail
    refine bodyPost_ret (by simp [results, Try.results19, go_sem, r00, r01, r02, r03]; try rfl) rfl ?_
    exact ⟨rfl, by repeat (first | exact Below.refl _ _ | (with_reducible assumption) | (with_reducible apply bal) | (with_reducible apply bdr) | (with_reducible apply bdnl) | (with_reducible refine bst ?_ (by first | (simp; done) | (simp; omega) | omega) _) | (with_reducible refine bt ?_ (by with_reducible assumption)))⟩
  rw [if_pos ⟨v, k0⟩]
  have e1 := Lib.hid (Iv.vb_yes v)
  have x1 : -9223372036854775808 ≤ l := by unfold Iv.Vd at *; omega
  have x2 : l ≤ 9223372036854775807 := by unfold Iv.Vd at *; omega
  have xx1 : -9223372036854775808 ≤ h := by unfold Iv.Vd at *; omega
  have xx2 : h ≤ 9223372036854775807 := by unfold Iv.Vd at *; omega
  have kb : (d == 0) = false := by simpa using k0
  by_cases i1 : Wi.in64 (Wi.dv (l * n) d (-1))
  rotate_left
  · have r0 := Lib.hid (er_no i1)
    have E := Lib.hid (Iv.rs_no (l := min (Iv.fl (l * n) d) (Iv.fl (h * n) d)) (h := max (Iv.cl (l * n) d) (Iv.cl (h * n) d)) (fun z => i1 (sc_in (Iv.fl_le_cl k0) (Iv.fl_le_cl k0) z).1))
    clear v i1
    unfold Iv.fl Iv.cl at E ⊢
    replace k0 := Lib.hid k0
    go_enter Try.func19, Try.ntmps19
    have X := Blk.new w 23 #[.int .i64 (l), .int .i64 (h)]
    have hB := ba w (.cells #[.int .i64 (l), .int .i64 (h)] 23)
    have R := Blk.new1 w (.cells #[.int .i64 (l), .int .i64 (h)] 23) 23 #[.int .i64 (0), .int .i64 (0)]
    replace X := X.alloc (.cells #[.int .i64 (0), .int .i64 (0)] 23)
    replace hB := bal hB (.cells #[.int .i64 (0), .int .i64 (0)] 23)
    obtain ⟨c00, c01, c02, c03⟩ := X.open2
    go_wp2_with fail
    refine (valid_c _ _ _).mono ?_
    rw [e1.out]
    rintro e w1 ⟨rfl, hb⟩
    clear c00 c01 c02 c03
    replace X := X.keep hb
    replace R := R.keep hb
    replace hB := bt hB hb
    clear hb
    obtain ⟨c00, c01, c02, c03⟩ := X.open2
    go_wp2_with fail
    refine (muldiv_c _ _ _ _ x1 x2 n1 n2 d1 d2).mono ?_
    rw [if_neg k0.out, if_neg k0.out, r0.out]
    rintro e w2 ⟨rfl, hb⟩
    clear c00 c01 c02 c03
    replace X := X.keep hb
    replace R := R.keep hb
    replace hB := bt hB hb
    clear hb
    obtain ⟨c00, c01, c02, c03⟩ := X.open2
    go_wp2_with fail
    refine (muldivup_c _ _ _ _ x1 x2 n1 n2 d1 d2).mono ?_
    rw [if_neg k0.out, if_neg k0.out]
    rintro e w3 ⟨rfl, hb⟩
    clear c00 c01 c02 c03
    replace X := X.keep hb
    replace R := R.keep hb
    replace hB := bt hB hb
    clear hb
    obtain ⟨c00, c01, c02, c03⟩ := X.open2
    go_wp2_with fail
    refine (muldiv_c _ _ _ _ xx1 xx2 n1 n2 d1 d2).mono ?_
    rw [if_neg k0.out, if_neg k0.out]
    rintro e w4 ⟨rfl, hb⟩
    clear c00 c01 c02 c03
    replace X := X.keep hb
    replace R := R.keep hb
    replace hB := bt hB hb
    clear hb
    obtain ⟨c00, c01, c02, c03⟩ := X.open2
    go_wp2_with fail
    refine (muldivup_c _ _ _ _ xx1 xx2 n1 n2 d1 d2).mono ?_
    rw [if_neg k0.out, if_neg k0.out]
    rintro e w5 ⟨rfl, hb⟩
    clear c00 c01 c02 c03
    replace X := X.keep hb
    replace R := R.keep hb
    replace hB := bt hB hb
    clear hb
    obtain ⟨r00, r01, r02, r03⟩ := R.open2
    go_wp2_with fail
    refine bodyPost_ret (by simp [results, Try.results19, go_sem, r00, r01, r02, r03]; try rfl) rfl ?_
    exact ⟨by rw [E.out] <;> rfl, by repeat (first | exact Below.refl _ _ | (with_reducible assumption) | (with_reducible apply bal) | (with_reducible apply bdr) | (with_reducible apply bdnl) | (with_reducible refine bst ?_ (by first | (simp; done) | (simp; omega) | omega) _) | (with_reducible refine bt ?_ (by with_reducible assumption)))⟩
  by_cases i2 : Wi.in64 (Wi.dv (l * n) d 1)
  rotate_left
  · have r0 := Lib.hid (er_yes i1)
    have r1 := Lib.hid (er_no i2)
    have E := Lib.hid (Iv.rs_no (l := min (Iv.fl (l * n) d) (Iv.fl (h * n) d)) (h := max (Iv.cl (l * n) d) (Iv.cl (h * n) d)) (fun z => i2 (sc_in (Iv.fl_le_cl k0) (Iv.fl_le_cl k0) z).2.1))
    clear v i1 i2
    unfold Iv.fl Iv.cl at E ⊢
    replace k0 := Lib.hid k0
    go_enter Try.func19, Try.ntmps19
    have X := Blk.new w 23 #[.int .i64 (l), .int .i64 (h)]
    have hB := ba w (.cells #[.int .i64 (l), .int .i64 (h)] 23)
    have R := Blk.new1 w (.cells #[.int .i64 (l), .int .i64 (h)] 23) 23 #[.int .i64 (0), .int .i64 (0)]
    replace X := X.alloc (.cells #[.int .i64 (0), .int .i64 (0)] 23)
    replace hB := bal hB (.cells #[.int .i64 (0), .int .i64 (0)] 23)
    obtain ⟨c00, c01, c02, c03⟩ := X.open2
    go_wp2_with fail
    refine (valid_c _ _ _).mono ?_
    rw [e1.out]
    rintro e w1 ⟨rfl, hb⟩
    clear c00 c01 c02 c03
    replace X := X.keep hb
    replace R := R.keep hb
    replace hB := bt hB hb
    clear hb
    obtain ⟨c00, c01, c02, c03⟩ := X.open2
    go_wp2_with fail
    refine (muldiv_c _ _ _ _ x1 x2 n1 n2 d1 d2).mono ?_
    rw [if_neg k0.out, if_neg k0.out, r0.out]
    rintro e w2 ⟨rfl, hb⟩
    clear c00 c01 c02 c03
    replace X := X.keep hb
    replace R := R.keep hb
    replace hB := bt hB hb
    clear hb
    obtain ⟨c00, c01, c02, c03⟩ := X.open2
    go_wp2_with fail
    refine (muldivup_c _ _ _ _ x1 x2 n1 n2 d1 d2).mono ?_
    rw [if_neg k0.out, if_neg k0.out, r1.out]
    rintro e w3 ⟨rfl, hb⟩
    clear c00 c01 c02 c03
    replace X := X.keep hb
    replace R := R.keep hb
    replace hB := bt hB hb
    clear hb
    obtain ⟨c00, c01, c02, c03⟩ := X.open2
    go_wp2_with fail
    refine (muldiv_c _ _ _ _ xx1 xx2 n1 n2 d1 d2).mono ?_
    rw [if_neg k0.out, if_neg k0.out]
    rintro e w4 ⟨rfl, hb⟩
    clear c00 c01 c02 c03
    replace X := X.keep hb
    replace R := R.keep hb
    replace hB := bt hB hb
    clear hb
    obtain ⟨c00, c01, c02, c03⟩ := X.open2
    go_wp2_with fail
    refine (muldivup_c _ _ _ _ xx1 xx2 n1 n2 d1 d2).mono ?_
    rw [if_neg k0.out, if_neg k0.out]
    rintro e w5 ⟨rfl, hb⟩
    clear c00 c01 c02 c03
    replace X := X.keep hb
    replace R := R.keep hb
    replace hB := bt hB hb
    clear hb
    obtain ⟨r00, r01, r02, r03⟩ := R.open2
    go_wp2_with fail
    refine bodyPost_ret (by simp [results, Try.results19, go_sem, r00, r01, r02, r03]; try rfl) rfl ?_
    exact ⟨by rw [E.out] <;> rfl, by repeat (first | exact Below.refl _ _ | (with_reducible assumption) | (with_reducible apply bal) | (with_reducible apply bdr) | (with_reducible apply bdnl) | (with_reducible refine bst ?_ (by first | (simp; done) | (simp; omega) | omega) _) | (with_reducible refine bt ?_ (by with_reducible assumption)))⟩
  by_cases i3 : Wi.in64 (Wi.dv (h * n) d (-1))
  rotate_left
  · have r0 := Lib.hid (er_yes i1)
    have r1 := Lib.hid (er_yes i2)
    have r2 := Lib.hid (er_no i3)
    have E := Lib.hid (Iv.rs_no (l := min (Iv.fl (l * n) d) (Iv.fl (h * n) d)) (h := max (Iv.cl (l * n) d) (Iv.cl (h * n) d)) (fun z => i3 (sc_in (Iv.fl_le_cl k0) (Iv.fl_le_cl k0) z).2.2.1))
    clear v i1 i2 i3
    unfold Iv.fl Iv.cl at E ⊢
    replace k0 := Lib.hid k0
    go_enter Try.func19, Try.ntmps19
    have X := Blk.new w 23 #[.int .i64 (l), .int .i64 (h)]
    have hB := ba w (.cells #[.int .i64 (l), .int .i64 (h)] 23)
    have R := Blk.new1 w (.cells #[.int .i64 (l), .int .i64 (h)] 23) 23 #[.int .i64 (0), .int .i64 (0)]
    replace X := X.alloc (.cells #[.int .i64 (0), .int .i64 (0)] 23)
    replace hB := bal hB (.cells #[.int .i64 (0), .int .i64 (0)] 23)
    obtain ⟨c00, c01, c02, c03⟩ := X.open2
    go_wp2_with fail
    refine (valid_c _ _ _).mono ?_
    rw [e1.out]
    rintro e w1 ⟨rfl, hb⟩
    clear c00 c01 c02 c03
    replace X := X.keep hb
    replace R := R.keep hb
    replace hB := bt hB hb
    clear hb
    obtain ⟨c00, c01, c02, c03⟩ := X.open2
    go_wp2_with fail
    refine (muldiv_c _ _ _ _ x1 x2 n1 n2 d1 d2).mono ?_
    rw [if_neg k0.out, if_neg k0.out, r0.out]
    rintro e w2 ⟨rfl, hb⟩
    clear c00 c01 c02 c03
    replace X := X.keep hb
    replace R := R.keep hb
    replace hB := bt hB hb
    clear hb
    obtain ⟨c00, c01, c02, c03⟩ := X.open2
    go_wp2_with fail
    refine (muldivup_c _ _ _ _ x1 x2 n1 n2 d1 d2).mono ?_
    rw [if_neg k0.out, if_neg k0.out, r1.out]
    rintro e w3 ⟨rfl, hb⟩
    clear c00 c01 c02 c03
    replace X := X.keep hb
    replace R := R.keep hb
    replace hB := bt hB hb
    clear hb
    obtain ⟨c00, c01, c02, c03⟩ := X.open2
    go_wp2_with fail
    refine (muldiv_c _ _ _ _ xx1 xx2 n1 n2 d1 d2).mono ?_
    rw [if_neg k0.out, if_neg k0.out, r2.out]
    rintro e w4 ⟨rfl, hb⟩
    clear c00 c01 c02 c03
    replace X := X.keep hb
    replace R := R.keep hb
    replace hB := bt hB hb
    clear hb
    obtain ⟨c00, c01, c02, c03⟩ := X.open2
    go_wp2_with fail
    refine (muldivup_c _ _ _ _ xx1 xx2 n1 n2 d1 d2).mono ?_
    rw [if_neg k0.out, if_neg k0.out]
    rintro e w5 ⟨rfl, hb⟩
    clear c00 c01 c02 c03
    replace X := X.keep hb
    replace R := R.keep hb
    replace hB := bt hB hb
    clear hb
    obtain ⟨r00, r01, r02, r03⟩ := R.open2
    go_wp2_with fail
    refine bodyPost_ret (by simp [results, Try.results19, go_sem, r00, r01, r02, r03]; try rfl) rfl ?_
    exact ⟨by rw [E.out] <;> rfl, by repeat (first | exact Below.refl _ _ | (with_reducible assumption) | (with_reducible apply bal) | (with_reducible apply bdr) | (with_reducible apply bdnl) | (with_reducible refine bst ?_ (by first | (simp; done) | (simp; omega) | omega) _) | (with_reducible refine bt ?_ (by with_reducible assumption)))⟩
  by_cases i4 : Wi.in64 (Wi.dv (h * n) d 1)
  rotate_left
  · have r0 := Lib.hid (er_yes i1)
    have r1 := Lib.hid (er_yes i2)
    have r2 := Lib.hid (er_yes i3)
    have r3 := Lib.hid (er_no i4)
    have E := Lib.hid (Iv.rs_no (l := min (Iv.fl (l * n) d) (Iv.fl (h * n) d)) (h := max (Iv.cl (l * n) d) (Iv.cl (h * n) d)) (fun z => i4 (sc_in (Iv.fl_le_cl k0) (Iv.fl_le_cl k0) z).2.2.2))
    clear v i1 i2 i3 i4
    unfold Iv.fl Iv.cl at E ⊢
    replace k0 := Lib.hid k0
    go_enter Try.func19, Try.ntmps19
    have X := Blk.new w 23 #[.int .i64 (l), .int .i64 (h)]
    have hB := ba w (.cells #[.int .i64 (l), .int .i64 (h)] 23)
    have R := Blk.new1 w (.cells #[.int .i64 (l), .int .i64 (h)] 23) 23 #[.int .i64 (0), .int .i64 (0)]
    replace X := X.alloc (.cells #[.int .i64 (0), .int .i64 (0)] 23)
    replace hB := bal hB (.cells #[.int .i64 (0), .int .i64 (0)] 23)
    obtain ⟨c00, c01, c02, c03⟩ := X.open2
    go_wp2_with fail
    refine (valid_c _ _ _).mono ?_
    rw [e1.out]
    rintro e w1 ⟨rfl, hb⟩
    clear c00 c01 c02 c03
    replace X := X.keep hb
    replace R := R.keep hb
    replace hB := bt hB hb
    clear hb
    obtain ⟨c00, c01, c02, c03⟩ := X.open2
    go_wp2_with fail
    refine (muldiv_c _ _ _ _ x1 x2 n1 n2 d1 d2).mono ?_
    rw [if_neg k0.out, if_neg k0.out, r0.out]
    rintro e w2 ⟨rfl, hb⟩
    clear c00 c01 c02 c03
    replace X := X.keep hb
    replace R := R.keep hb
    replace hB := bt hB hb
    clear hb
    obtain ⟨c00, c01, c02, c03⟩ := X.open2
    go_wp2_with fail
    refine (muldivup_c _ _ _ _ x1 x2 n1 n2 d1 d2).mono ?_
    rw [if_neg k0.out, if_neg k0.out, r1.out]
    rintro e w3 ⟨rfl, hb⟩
    clear c00 c01 c02 c03
    replace X := X.keep hb
    replace R := R.keep hb
    replace hB := bt hB hb
    clear hb
    obtain ⟨c00, c01, c02, c03⟩ := X.open2
    go_wp2_with fail
    refine (muldiv_c _ _ _ _ xx1 xx2 n1 n2 d1 d2).mono ?_
    rw [if_neg k0.out, if_neg k0.out, r2.out]
    rintro e w4 ⟨rfl, hb⟩
    clear c00 c01 c02 c03
    replace X := X.keep hb
    replace R := R.keep hb
    replace hB := bt hB hb
    clear hb
    obtain ⟨c00, c01, c02, c03⟩ := X.open2
    go_wp2_with fail
    refine (muldivup_c _ _ _ _ xx1 xx2 n1 n2 d1 d2).mono ?_
    rw [if_neg k0.out, if_neg k0.out, r3.out]
    rintro e w5 ⟨rfl, hb⟩
    clear c00 c01 c02 c03
    replace X := X.keep hb
    replace R := R.keep hb
    replace hB := bt hB hb
    clear hb
    obtain ⟨r00, r01, r02, r03⟩ := R.open2
    go_wp2_with fail
    refine bodyPost_ret (by simp [results, Try.results19, go_sem, r00, r01, r02, r03]; try rfl) rfl ?_
    exact ⟨by rw [E.out] <;> rfl, by repeat (first | exact Below.refl _ _ | (with_reducible assumption) | (with_reducible apply bal) | (with_reducible apply bdr) | (with_reducible apply bdnl) | (with_reducible refine bst ?_ (by first | (simp; done) | (simp; omega) | omega) _) | (with_reducible refine bt ?_ (by with_reducible assumption)))⟩
  have r0 := Lib.hid (er_yes i1)
  have r1 := Lib.hid (er_yes i2)
  have r2 := Lib.hid (er_yes i3)
  have r3 := Lib.hid (er_yes i4)
  have s0 := Lib.hid (Wi.iv_yes i1)
  have s1 := Lib.hid (Wi.iv_yes i2)
  have s2 := Lib.hid (Wi.iv_yes i3)
  have s3 := Lib.hid (Wi.iv_yes i4)
  have EE : ∀ x y : Int, x = min (Iv.fl (l * n) d) (Iv.fl (h * n) d) → y = max (Iv.cl (l * n) d) (Iv.cl (h * n) d) → Iv.rs x y = Iv.rs (min (Iv.fl (l * n) d) (Iv.fl (h * n) d)) (max (Iv.cl (l * n) d) (Iv.cl (h * n) d)) := fun x y e1 e2 => by rw [e1, e2]
  clear v i1 i2 i3 i4
  unfold Iv.fl Iv.cl at EE ⊢
  replace k0 := Lib.hid k0
  go_enter Try.func19, Try.ntmps19
  have X := Blk.new w 23 #[.int .i64 (l), .int .i64 (h)]
  have hB := ba w (.cells #[.int .i64 (l), .int .i64 (h)] 23)
  have R := Blk.new1 w (.cells #[.int .i64 (l), .int .i64 (h)] 23) 23 #[.int .i64 (0), .int .i64 (0)]
  replace X := X.alloc (.cells #[.int .i64 (0), .int .i64 (0)] 23)
  replace hB := bal hB (.cells #[.int .i64 (0), .int .i64 (0)] 23)
  obtain ⟨c00, c01, c02, c03⟩ := X.open2
  go_wp2_with fail
  refine (valid_c _ _ _).mono ?_
  rw [e1.out]
  rintro e w1 ⟨rfl, hb⟩
  clear c00 c01 c02 c03
  replace X := X.keep hb
  replace R := R.keep hb
  replace hB := bt hB hb
  clear hb
  obtain ⟨c00, c01, c02, c03⟩ := X.open2
  go_wp2_with fail
  refine (muldiv_c _ _ _ _ x1 x2 n1 n2 d1 d2).mono ?_
  rw [if_neg k0.out, if_neg k0.out, r0.out, s0.out]
  rintro e w2 ⟨rfl, hb⟩
  clear c00 c01 c02 c03
  replace X := X.keep hb
  replace R := R.keep hb
  replace hB := bt hB hb
  clear hb
  obtain ⟨c00, c01, c02, c03⟩ := X.open2
  go_wp2_with fail
  refine (muldivup_c _ _ _ _ x1 x2 n1 n2 d1 d2).mono ?_
  rw [if_neg k0.out, if_neg k0.out, r1.out, s1.out]
  rintro e w3 ⟨rfl, hb⟩
  clear c00 c01 c02 c03
  replace X := X.keep hb
  replace R := R.keep hb
  replace hB := bt hB hb
  clear hb
  obtain ⟨c00, c01, c02, c03⟩ := X.open2
  go_wp2_with fail
  refine (muldiv_c _ _ _ _ xx1 xx2 n1 n2 d1 d2).mono ?_
  rw [if_neg k0.out, if_neg k0.out, r2.out, s2.out]
  rintro e w4 ⟨rfl, hb⟩
  clear c00 c01 c02 c03
  replace X := X.keep hb
  replace R := R.keep hb
  replace hB := bt hB hb
  clear hb
  obtain ⟨c00, c01, c02, c03⟩ := X.open2
  go_wp2_with fail
  refine (muldivup_c _ _ _ _ xx1 xx2 n1 n2 d1 d2).mono ?_
  rw [if_neg k0.out, if_neg k0.out, r3.out, s3.out]
  rintro e w5 ⟨rfl, hb⟩
  clear c00 c01 c02 c03
  replace X := X.keep hb
  replace R := R.keep hb
  replace hB := bt hB hb
  clear hb
  obtain ⟨c00, c01, c02, c03⟩ := R.open2
  go_wp2_with fail
  all_goals
    refine (result_c _ _ _).mono ?_
    rw [EE _ _ ?ha ?hb]
    case ha => omega
    case hb => omega
    rintro e w6 ⟨rfl, hb⟩
    replace R := R.keep hb
    replace hB := bt hB hb
    clear c00 c01 c02 c03 hb
    obtain ⟨r00, r01, r02, r03⟩ := R.open2
    go_wp2_with fail
    refine bodyPost_ret (by simp [results, Try.results19, go_sem, r00, r01, r02, r03]; try rfl) rfl ?_
    exact ⟨rfl, by repeat (first | exact Below.refl _ _ | (with_reducible assumption) | (with_reducible apply bal) | (with_reducible apply bdr) | (with_reducible apply bdnl) | (with_reducible refine bst ?_ (by first | (simp; done) | (simp; omega) | omega) _) | (with_reducible refine bt ?_ (by with_reducible assumption)))⟩
end Go.Proofs.Ytclohghongpfkaa
