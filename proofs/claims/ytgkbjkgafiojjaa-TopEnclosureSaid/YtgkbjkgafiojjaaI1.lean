/-
  Contracts: valid, made, member, within, width; of the program and of the reference.
-/
import Derived.Test.YtgkbjkgafiojjaaIPlain
import Derived.Test.YtgkbjkgafiojjaaW1
namespace Go.Proofs.Ytgkbjkgafiojjaa
set_option linter.unusedVariables false
set_option linter.unusedSimpArgs false
open Go.RowKit

set_option maxRecDepth 100000 in
set_option maxHeartbeats 4000000 in
theorem valid_c (l h : Int) (w : World) : Calls Try.prog 10 #[.agg #[.int .i64 l, .int .i64 h]] w fun e w' =>
    e = .returned (.bool (Iv.vb l h)) ∧ Below w.heap.size w w' := by
  rcases (show ¬ l ≤ h ∨ (l ≤ h ∧ ¬ -4611686018427387904 ≤ l) ∨ (l ≤ h ∧ -4611686018427387904 ≤ l ∧ ¬ h ≤ 4611686018427387904) ∨ (l ≤ h ∧ -4611686018427387904 ≤ l ∧ h ≤ 4611686018427387904) from by omega) with q | ⟨q1, q⟩ | ⟨q1, q2, q⟩ | ⟨q1, q2, q⟩
  · have E := Lib.hid (Iv.vb_no (l := l) (h := h) (by unfold Iv.Vd; omega))
    go_enter Try.func10, Try.ntmps10
    go_wp2_with fail
    go_returns
    exact ⟨ret_bool E.out.symm, by go_grown⟩
  · have E := Lib.hid (Iv.vb_no (l := l) (h := h) (by unfold Iv.Vd; omega))
    go_enter Try.func10, Try.ntmps10
    go_wp2_with fail
    go_returns
    exact ⟨ret_bool E.out.symm, by go_grown⟩
  · have E := Lib.hid (Iv.vb_no (l := l) (h := h) (by unfold Iv.Vd; omega))
    go_enter Try.func10, Try.ntmps10
    go_wp2_with fail
    go_returns
    exact ⟨ret_bool E.out.symm, by go_grown⟩
  · have E := Lib.hid (Iv.vb_yes (l := l) (h := h) (by unfold Iv.Vd; omega))
    go_enter Try.func10, Try.ntmps10
    go_wp2_with fail
    go_returns
    exact ⟨ret_bool E.out.symm, by go_grown⟩
set_option maxRecDepth 100000 in
set_option maxHeartbeats 4000000 in
theorem result_c (l h : Int) (w : World) : Calls Try.prog 11 #[.int .i64 l, .int .i64 h] w fun e w' =>
    e = .returned (.tuple #[.agg #[.int .i64 (Iv.rs l h).lo, .int .i64 (Iv.rs l h).hi], .int .i64 (Iv.rs l h).er]) ∧ Below w.heap.size w w' := by
  by_cases v : Iv.Vd l h
  · have e1 := Lib.hid (Iv.vb_yes v)
    rw [Iv.rs_yes v]
    clear v
    go_enter Try.func11, Try.ntmps11
    have R := Blk.new w 24 #[.int .i64 (0), .int .i64 (0)]
    have hB := ba w (.cells #[.int .i64 (0), .int .i64 (0)] 24)
    have X := Blk.new1 w (.cells #[.int .i64 (0), .int .i64 (0)] 24) 24 #[.int .i64 (l), .int .i64 (h)]
    replace R := R.alloc (.cells #[.int .i64 (l), .int .i64 (h)] 24)
    replace hB := bal hB (.cells #[.int .i64 (l), .int .i64 (h)] 24)
    obtain ⟨c00, c01, c02, c03⟩ := X.open2
    obtain ⟨c10, c11, c12, c13⟩ := R.open2
    go_wp2_with fail
    refine (valid_c _ _ _).mono ?_
    rw [e1.out]
    rintro e w1 ⟨rfl, hb⟩
    clear c00 c01 c02 c03 c10 c11 c12 c13
    replace R := R.keep hb
    replace X := X.keep hb
    replace hB := bt hB hb
    clear hb
    obtain ⟨c00, c01, c02, c03⟩ := X.open2
    obtain ⟨r00, r01, r02, r03⟩ := R.open2
    go_wp2_with fail
    refine bodyPost_ret (by simp [results, Try.results11, go_sem, r00, r01, r02, r03]; try rfl) rfl ?_
    exact ⟨rfl, by repeat (first | exact Below.refl _ _ | (with_reducible assumption) | (with_reducible apply bal) | (with_reducible apply bdr) | (with_reducible apply bdnl) | (with_reducible refine bst ?_ (by first | (simp; done) | (simp; omega) | omega) _) | (with_reducible refine bt ?_ (by with_reducible assumption)))⟩
  · have e1 := Lib.hid (Iv.vb_no v)
    rw [Iv.rs_no v]
    clear v
    go_enter Try.func11, Try.ntmps11
    have R := Blk.new w 24 #[.int .i64 (0), .int .i64 (0)]
    have hB := ba w (.cells #[.int .i64 (0), .int .i64 (0)] 24)
    have X := Blk.new1 w (.cells #[.int .i64 (0), .int .i64 (0)] 24) 24 #[.int .i64 (l), .int .i64 (h)]
    replace R := R.alloc (.cells #[.int .i64 (l), .int .i64 (h)] 24)
    replace hB := bal hB (.cells #[.int .i64 (l), .int .i64 (h)] 24)
    obtain ⟨c00, c01, c02, c03⟩ := X.open2
    obtain ⟨c10, c11, c12, c13⟩ := R.open2
    go_wp2_with fail
    refine (valid_c _ _ _).mono ?_
    rw [e1.out]
    rintro e w1 ⟨rfl, hb⟩
    clear c00 c01 c02 c03 c10 c11 c12 c13
    replace R := R.keep hb
    replace X := X.keep hb
    replace hB := bt hB hb
    clear hb
    obtain ⟨r00, r01, r02, r03⟩ := R.open2
    go_wp2_with fail
    refine bodyPost_ret (by simp [results, Try.results11, go_sem, r00, r01, r02, r03]; try rfl) rfl ?_
    exact ⟨rfl, by repeat (first | exact Below.refl _ _ | (with_reducible assumption) | (with_reducible apply bal) | (with_reducible apply bdr) | (with_reducible apply bdnl) | (with_reducible refine bst ?_ (by first | (simp; done) | (simp; omega) | omega) _) | (with_reducible refine bt ?_ (by with_reducible assumption)))⟩
set_option maxRecDepth 100000 in
set_option maxHeartbeats 4000000 in
theorem make_c (l h : Int) (w : World) : Calls Try.prog 5 #[.int .i64 l, .int .i64 h] w fun e w' =>
    e = .returned (.tuple #[.agg #[.int .i64 (Iv.mk l h).lo, .int .i64 (Iv.mk l h).hi], .int .i64 (Iv.mk l h).er]) ∧ Below w.heap.size w w' := by
  by_cases a : h < l
  · rw [show Iv.mk l h = Iv.bad 1 from if_pos a]
    go_enter Try.func5, Try.ntmps5
    go_wp2_with fail
    go_returns
    exact ⟨rfl, by go_grown⟩
  · rw [show Iv.mk l h = Iv.rs l h from if_neg a]
    go_enter Try.func5, Try.ntmps5
    have R := Blk.new w 24 #[.int .i64 (0), .int .i64 (0)]
    have hB := ba w (.cells #[.int .i64 (0), .int .i64 (0)] 24)
    obtain ⟨c00, c01, c02, c03⟩ := R.open2
    go_wp2_with fail
    refine (result_c _ _ _).mono ?_
    rintro e w1 ⟨rfl, hb⟩
    clear c00 c01 c02 c03
    replace R := R.keep hb
    replace hB := bt hB hb
    clear hb
    obtain ⟨r00, r01, r02, r03⟩ := R.open2
    go_wp2_with fail
    refine bodyPost_ret (by simp [results, Try.results5, go_sem, r00, r01, r02, r03]; try rfl) rfl ?_
    exact ⟨rfl, by repeat (first | exact Below.refl _ _ | (with_reducible assumption) | (with_reducible apply bal) | (with_reducible apply bdr) | (with_reducible apply bdnl) | (with_reducible refine bst ?_ (by first | (simp; done) | (simp; omega) | omega) _) | (with_reducible refine bt ?_ (by with_reducible assumption)))⟩
set_option maxRecDepth 100000 in
set_option maxHeartbeats 4000000 in
theorem has_c (l h u : Int) (w : World) : Calls Try.prog 9 #[.agg #[.int .i64 l, .int .i64 h], .int .i64 u] w fun e w' =>
    e = .returned (.bool (Iv.hs l h u)) ∧ Below w.heap.size w w' := by
  by_cases v : Iv.Vd l h
  · by_cases a : l ≤ u
    · by_cases c : u ≤ h
      · have e1 := Lib.hid (Iv.vb_yes v)
        have E := Lib.hid (show Iv.hs l h u = true from by unfold Iv.hs; rw [Iv.vb_yes v]; simp; omega)
        clear v
        go_enter Try.func9, Try.ntmps9
        have X := Blk.new w 24 #[.int .i64 (l), .int .i64 (h)]
        have hB := ba w (.cells #[.int .i64 (l), .int .i64 (h)] 24)
        obtain ⟨c00, c01, c02, c03⟩ := X.open2
        go_wp2_with fail
        refine (valid_c _ _ _).mono ?_
        rw [e1.out]
        rintro e w1 ⟨rfl, hb⟩
        clear c00 c01 c02 c03
        replace X := X.keep hb
        replace hB := bt hB hb
        clear hb
        obtain ⟨c00, c01, c02, c03⟩ := X.open2
        go_wp2_with fail
        go_returns
        exact ⟨ret_bool E.out.symm, hB⟩
      · have d1 : decide (u ≤ h) = false := decide_eq_false c
        have e1 := Lib.hid (Iv.vb_yes v)
        have E := Lib.hid (show Iv.hs l h u = false from by unfold Iv.hs; rw [Iv.vb_yes v]; simp; omega)
        clear v
        go_enter Try.func9, Try.ntmps9
        have X := Blk.new w 24 #[.int .i64 (l), .int .i64 (h)]
        have hB := ba w (.cells #[.int .i64 (l), .int .i64 (h)] 24)
        obtain ⟨c00, c01, c02, c03⟩ := X.open2
        go_wp2_with fail
        refine (valid_c _ _ _).mono ?_
        rw [e1.out]
        rintro e w1 ⟨rfl, hb⟩
        clear c00 c01 c02 c03
        replace X := X.keep hb
        replace hB := bt hB hb
        clear hb
        obtain ⟨c00, c01, c02, c03⟩ := X.open2
        go_wp2_with fail
        go_returns
        exact ⟨ret_bool E.out.symm, hB⟩
    · have e1 := Lib.hid (Iv.vb_yes v)
      have E := Lib.hid (show Iv.hs l h u = false from by unfold Iv.hs; rw [Iv.vb_yes v]; simp; omega)
      clear v
      go_enter Try.func9, Try.ntmps9
      have X := Blk.new w 24 #[.int .i64 (l), .int .i64 (h)]
      have hB := ba w (.cells #[.int .i64 (l), .int .i64 (h)] 24)
      obtain ⟨c00, c01, c02, c03⟩ := X.open2
      go_wp2_with fail
      refine (valid_c _ _ _).mono ?_
      rw [e1.out]
      rintro e w1 ⟨rfl, hb⟩
      clear c00 c01 c02 c03
      replace X := X.keep hb
      replace hB := bt hB hb
      clear hb
      obtain ⟨c00, c01, c02, c03⟩ := X.open2
      go_wp2_with fail
      go_returns
      exact ⟨ret_bool E.out.symm, hB⟩
  · have e1 := Lib.hid (Iv.vb_no v)
    have E := Lib.hid (show Iv.hs l h u = false from by unfold Iv.hs; rw [Iv.vb_no v]; simp)
    clear v
    go_enter Try.func9, Try.ntmps9
    have X := Blk.new w 24 #[.int .i64 (l), .int .i64 (h)]
    have hB := ba w (.cells #[.int .i64 (l), .int .i64 (h)] 24)
    obtain ⟨c00, c01, c02, c03⟩ := X.open2
    go_wp2_with fail
    refine (valid_c _ _ _).mono ?_
    rw [e1.out]
    rintro e w1 ⟨rfl, hb⟩
    clear c00 c01 c02 c03
    replace X := X.keep hb
    replace hB := bt hB hb
    clear hb
    go_wp2_with fail
    go_returns
    exact ⟨ret_bool E.out.symm, hB⟩
set_option maxRecDepth 100000 in
set_option maxHeartbeats 4000000 in
theorem width_c (l h : Int) (w : World) : Calls Try.prog 6 #[.agg #[.int .i64 l, .int .i64 h]] w fun e w' =>
    e = .returned (.int .u64 (Iv.wd l h)) ∧ Below w.heap.size w w' := by
  by_cases v : Iv.Vd l h
  · have e1 := Lib.hid (Iv.vb_yes v)
    have E := Lib.hid (show Iv.wd l h = h - l from if_pos v)
    obtain ⟨a, ea, ha⟩ : ∃ a, IntKind.u64.wrap h = a ∧ Hid (a = h % 18446744073709551616) := ⟨_, rfl, Lib.hid (by rw [IntKind.wrap_u64])⟩
    obtain ⟨b, eb, hb2⟩ : ∃ b, IntKind.u64.wrap l = b ∧ Hid (b = l % 18446744073709551616) := ⟨_, rfl, Lib.hid (by rw [IntKind.wrap_u64])⟩
    have e3 : IntKind.u64.wrap (a - b) = h - l := by have := ha.out; have := hb2.out; unfold Iv.Vd at v; rw [IntKind.wrap_u64]; omega
    clear v
    go_enter Try.func6, Try.ntmps6
    have X := Blk.new w 24 #[.int .i64 (l), .int .i64 (h)]
    have hB := ba w (.cells #[.int .i64 (l), .int .i64 (h)] 24)
    obtain ⟨c00, c01, c02, c03⟩ := X.open2
    go_wp2_with fail
    refine (valid_c _ _ _).mono ?_
    rw [e1.out]
    rintro e w1 ⟨rfl, hb⟩
    clear c00 c01 c02 c03
    replace X := X.keep hb
    replace hB := bt hB hb
    clear hb
    obtain ⟨c00, c01, c02, c03⟩ := X.open2
    go_wp2_with fail
    go_returns
    exact ⟨ret_int E.out.symm, hB⟩
  · have e1 := Lib.hid (Iv.vb_no v)
    have E := Lib.hid (show Iv.wd l h = 0 from if_neg v)
    clear v
    go_enter Try.func6, Try.ntmps6
    have X := Blk.new w 24 #[.int .i64 (l), .int .i64 (h)]
    have hB := ba w (.cells #[.int .i64 (l), .int .i64 (h)] 24)
    obtain ⟨c00, c01, c02, c03⟩ := X.open2
    go_wp2_with fail
    refine (valid_c _ _ _).mono ?_
    rw [e1.out]
    rintro e w1 ⟨rfl, hb⟩
    clear c00 c01 c02 c03
    replace X := X.keep hb
    replace hB := bt hB hb
    clear hb
    go_wp2_with fail
    go_returns
    exact ⟨ret_int E.out.symm, hB⟩
end Go.Proofs.Ytgkbjkgafiojjaa
