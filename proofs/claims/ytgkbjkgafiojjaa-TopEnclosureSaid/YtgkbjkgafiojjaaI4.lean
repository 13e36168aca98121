/-
  Contracts: negated, absolute, hull.
-/
import Derived.Test.YtgkbjkgafiojjaaI1
import Derived.Test.YtgkbjkgafiojjaaI2
import Derived.Test.YtgkbjkgafiojjaaInv
namespace Go.Proofs.Ytgkbjkgafiojjaa
set_option linter.unusedVariables false
set_option linter.unusedSimpArgs false
open Go.RowKit

set_option maxRecDepth 100000 in
set_option maxHeartbeats 4000000 in
theorem neg_ci (l h : Int) (w : World) : Calls Try.prog 17 #[.agg #[.int .i64 l, .int .i64 h]] w fun e w' =>
    e = .returned (.tuple #[.agg #[.int .i64 (Iv.neg l h).lo, .int .i64 (Iv.neg l h).hi], .int .i64 (Iv.neg l h).er]) ∧ Below w.heap.size w w' := by
  unfold Iv.neg
  by_cases v : Iv.Vd l h
  rotate_left
  · rw [if_neg v]
    have e1 := Lib.hid (Iv.vb_no v)
    clear v
    go_enter Try.func17, Try.ntmps17
    have X := Blk.new w 24 #[.int .i64 (l), .int .i64 (h)]
    have hB := ba w (.cells #[.int .i64 (l), .int .i64 (h)] 24)
    have R := Blk.new1 w (.cells #[.int .i64 (l), .int .i64 (h)] 24) 24 #[.int .i64 (0), .int .i64 (0)]
    replace X := X.alloc (.cells #[.int .i64 (0), .int .i64 (0)] 24)
    replace hB := bal hB (.cells #[.int .i64 (0), .int .i64 (0)] 24)
    obtain ⟨c00, c01, c02, c03⟩ := X.open2
    go_wp2_with fail
    refine (valid_c _ _ _).mono ?_
    rw [e1.out]
    rintro e w1 ⟨rfl, hb⟩
    clear c00 c01 c02 c03
    replace X := X.keep hb
    replace R := R.keep hb
    replace hB := bt hB hb
    clear hb
    obtain ⟨r00, r01, r02, r03⟩ := R.open2
    go_wp2_with fail
    refine bodyPost_ret (by simp [results, Try.results17, go_sem, r00, r01, r02, r03]; try rfl) rfl ?_
    exact ⟨rfl, by repeat (first | exact Below.refl _ _ | (with_reducible assumption) | (with_reducible apply bal) | (with_reducible apply bdr) | (with_reducible apply bdnl) | (with_reducible refine bst ?_ (by first | (simp; done) | (simp; omega) | omega) _) | (with_reducible refine bt ?_ (by with_reducible assumption)))⟩
  rw [if_pos v]
  have e1 := Lib.hid (Iv.vb_yes v)
  have wl : IntKind.i64.wrap (-l) = -l := IntWalk.i64_in _ (by unfold Iv.Vd at v; omega)
  have wh : IntKind.i64.wrap (-h) = -h := IntWalk.i64_in _ (by unfold Iv.Vd at v; omega)
  have E := Lib.hid (Iv.rs_yes (l := -h) (h := -l) (by unfold Iv.Vd at *; omega))
  clear v
  go_enter Try.func17, Try.ntmps17
  have X := Blk.new w 24 #[.int .i64 (l), .int .i64 (h)]
  have hB := ba w (.cells #[.int .i64 (l), .int .i64 (h)] 24)
  have R := Blk.new1 w (.cells #[.int .i64 (l), .int .i64 (h)] 24) 24 #[.int .i64 (0), .int .i64 (0)]
  replace X := X.alloc (.cells #[.int .i64 (0), .int .i64 (0)] 24)
  replace hB := bal hB (.cells #[.int .i64 (0), .int .i64 (0)] 24)
  obtain ⟨c00, c01, c02, c03⟩ := X.open2
  go_wp2_with fail
  refine (valid_c _ _ _).mono ?_
  rw [e1.out]
  rintro e w1 ⟨rfl, hb⟩
  clear c00 c01 c02 c03
  replace X := X.keep hb
  replace R := R.keep hb
  replace hB := bt hB hb
  clear hb
  obtain ⟨c00, c01, c02, c03⟩ := X.open2
  obtain ⟨c10, c11, c12, c13⟩ := R.open2
  go_wp2_with fail
  refine (result_c _ _ _).mono ?_
  rw [E.out]
  rintro e w2 ⟨rfl, hb⟩
  clear c00 c01 c02 c03 c10 c11 c12 c13
  replace X := X.keep hb
  replace R := R.keep hb
  replace hB := bt hB hb
  clear hb
  obtain ⟨r00, r01, r02, r03⟩ := R.open2
  go_wp2_with fail
  refine bodyPost_ret (by simp [results, Try.results17, go_sem, r00, r01, r02, r03]; try rfl) rfl ?_
  exact ⟨rfl, by repeat (first | exact Below.refl _ _ | (with_reducible assumption) | (with_reducible apply bal) | (with_reducible apply bdr) | (with_reducible apply bdnl) | (with_reducible refine bst ?_ (by first | (simp; done) | (simp; omega) | omega) _) | (with_reducible refine bt ?_ (by with_reducible assumption)))⟩
set_option maxRecDepth 100000 in
set_option maxHeartbeats 4000000 in
theorem abs_ci (l h : Int) (w : World) : Calls Try.prog 18 #[.agg #[.int .i64 l, .int .i64 h]] w fun e w' =>
    e = .returned (.tuple #[.agg #[.int .i64 (Iv.abs l h).lo, .int .i64 (Iv.abs l h).hi], .int .i64 (Iv.abs l h).er]) ∧ Below w.heap.size w w' := by
  unfold Iv.abs
  by_cases v : Iv.Vd l h
  rotate_left
  · rw [if_neg v]
    have e1 := Lib.hid (Iv.vb_no v)
    clear v
    go_enter Try.func18, Try.ntmps18
    have X := Blk.new w 24 #[.int .i64 (l), .int .i64 (h)]
    have hB := ba w (.cells #[.int .i64 (l), .int .i64 (h)] 24)
    have R := Blk.new1 w (.cells #[.int .i64 (l), .int .i64 (h)] 24) 24 #[.int .i64 (0), .int .i64 (0)]
    replace X := X.alloc (.cells #[.int .i64 (0), .int .i64 (0)] 24)
    replace hB := bal hB (.cells #[.int .i64 (0), .int .i64 (0)] 24)
    obtain ⟨c00, c01, c02, c03⟩ := X.open2
    go_wp2_with fail
    refine (valid_c _ _ _).mono ?_
    rw [e1.out]
    rintro e w1 ⟨rfl, hb⟩
    clear c00 c01 c02 c03
    replace X := X.keep hb
    replace R := R.keep hb
    replace hB := bt hB hb
    clear hb
    obtain ⟨r00, r01, r02, r03⟩ := R.open2
    go_wp2_with fail
    refine bodyPost_ret (by simp [results, Try.results18, go_sem, r00, r01, r02, r03]; try rfl) rfl ?_
    exact ⟨rfl, by repeat (first | exact Below.refl _ _ | (with_reducible assumption) | (with_reducible apply bal) | (with_reducible apply bdr) | (with_reducible apply bdnl) | (with_reducible refine bst ?_ (by first | (simp; done) | (simp; omega) | omega) _) | (with_reducible refine bt ?_ (by with_reducible assumption)))⟩
  rw [if_pos v]
  by_cases a : 0 ≤ l
  · rw [if_pos a]
    have e1 := Lib.hid (Iv.vb_yes v)
    clear v
    go_enter Try.func18, Try.ntmps18
    have X := Blk.new w 24 #[.int .i64 (l), .int .i64 (h)]
    have hB := ba w (.cells #[.int .i64 (l), .int .i64 (h)] 24)
    have R := Blk.new1 w (.cells #[.int .i64 (l), .int .i64 (h)] 24) 24 #[.int .i64 (0), .int .i64 (0)]
    replace X := X.alloc (.cells #[.int .i64 (0), .int .i64 (0)] 24)
    replace hB := bal hB (.cells #[.int .i64 (0), .int .i64 (0)] 24)
    obtain ⟨c00, c01, c02, c03⟩ := X.open2
    go_wp2_with fail
    refine (valid_c _ _ _).mono ?_
    rw [e1.out]
    rintro e w1 ⟨rfl, hb⟩
    clear c00 c01 c02 c03
    replace X := X.keep hb
    replace R := R.keep hb
    replace hB := bt hB hb
    clear hb
    obtain ⟨c00, c01, c02, c03⟩ := X.open2
    obtain ⟨r00, r01, r02, r03⟩ := R.open2
    go_wp2_with fail
    refine bodyPost_ret (by simp [results, Try.results18, go_sem, r00, r01, r02, r03]; try rfl) rfl ?_
    exact ⟨rfl, by repeat (first | exact Below.refl _ _ | (with_reducible assumption) | (with_reducible apply bal) | (with_reducible apply bdr) | (with_reducible apply bdnl) | (with_reducible refine bst ?_ (by first | (simp; done) | (simp; omega) | omega) _) | (with_reducible refine bt ?_ (by with_reducible assumption)))⟩
  · by_cases c : h ≤ 0
    · rw [if_neg a, if_pos c]
      have e1 := Lib.hid (Iv.vb_yes v)
      have wl : IntKind.i64.wrap (-l) = -l := IntWalk.i64_in _ (by unfold Iv.Vd at v; omega)
      have wh : IntKind.i64.wrap (-h) = -h := IntWalk.i64_in _ (by unfold Iv.Vd at v; omega)
      have E := Lib.hid (Iv.rs_yes (l := -h) (h := -l) (by unfold Iv.Vd at *; omega))
      clear v
      go_enter Try.func18, Try.ntmps18
      have X := Blk.new w 24 #[.int .i64 (l), .int .i64 (h)]
      have hB := ba w (.cells #[.int .i64 (l), .int .i64 (h)] 24)
      have R := Blk.new1 w (.cells #[.int .i64 (l), .int .i64 (h)] 24) 24 #[.int .i64 (0), .int .i64 (0)]
      replace X := X.alloc (.cells #[.int .i64 (0), .int .i64 (0)] 24)
      replace hB := bal hB (.cells #[.int .i64 (0), .int .i64 (0)] 24)
      obtain ⟨c00, c01, c02, c03⟩ := X.open2
      go_wp2_with fail
      refine (valid_c _ _ _).mono ?_
      rw [e1.out]
      rintro e w1 ⟨rfl, hb⟩
      clear c00 c01 c02 c03
      replace X := X.keep hb
      replace R := R.keep hb
      replace hB := bt hB hb
      clear hb
      obtain ⟨c00, c01, c02, c03⟩ := X.open2
      obtain ⟨c10, c11, c12, c13⟩ := R.open2
      go_wp2_with fail
      refine (result_c _ _ _).mono ?_
      rw [E.out]
      rintro e w2 ⟨rfl, hb⟩
      clear c00 c01 c02 c03 c10 c11 c12 c13
      replace X := X.keep hb
      replace R := R.keep hb
      replace hB := bt hB hb
      clear hb
      obtain ⟨r00, r01, r02, r03⟩ := R.open2
      go_wp2_with fail
      refine bodyPost_ret (by simp [results, Try.results18, go_sem, r00, r01, r02, r03]; try rfl) rfl ?_
      exact ⟨rfl, by repeat (first | exact Below.refl _ _ | (with_reducible assumption) | (with_reducible apply bal) | (with_reducible apply bdr) | (with_reducible apply bdnl) | (with_reducible refine bst ?_ (by first | (simp; done) | (simp; omega) | omega) _) | (with_reducible refine bt ?_ (by with_reducible assumption)))⟩
    · by_cases m : -l < h
      · rw [if_neg a, if_neg c, show max (-l) h = h from by omega]
        have e1 := Lib.hid (Iv.vb_yes v)
        have wl : IntKind.i64.wrap (-l) = -l := IntWalk.i64_in _ (by unfold Iv.Vd at v; omega)
        have E := Lib.hid (Iv.rs_yes (l := 0) (h := h) (by unfold Iv.Vd at *; omega))
        clear v
        go_enter Try.func18, Try.ntmps18
        have X := Blk.new w 24 #[.int .i64 (l), .int .i64 (h)]
        have hB := ba w (.cells #[.int .i64 (l), .int .i64 (h)] 24)
        have R := Blk.new1 w (.cells #[.int .i64 (l), .int .i64 (h)] 24) 24 #[.int .i64 (0), .int .i64 (0)]
        replace X := X.alloc (.cells #[.int .i64 (0), .int .i64 (0)] 24)
        replace hB := bal hB (.cells #[.int .i64 (0), .int .i64 (0)] 24)
        obtain ⟨c00, c01, c02, c03⟩ := X.open2
        go_wp2_with fail
        refine (valid_c _ _ _).mono ?_
        rw [e1.out]
        rintro e w1 ⟨rfl, hb⟩
        clear c00 c01 c02 c03
        replace X := X.keep hb
        replace R := R.keep hb
        replace hB := bt hB hb
        clear hb
        obtain ⟨c00, c01, c02, c03⟩ := X.open2
        obtain ⟨c10, c11, c12, c13⟩ := R.open2
        go_wp2_with fail
        refine (result_c _ _ _).mono ?_
        rw [E.out]
        rintro e w2 ⟨rfl, hb⟩
        clear c00 c01 c02 c03 c10 c11 c12 c13
        replace X := X.keep hb
        replace R := R.keep hb
        replace hB := bt hB hb
        clear hb
        obtain ⟨r00, r01, r02, r03⟩ := R.open2
        go_wp2_with fail
        refine bodyPost_ret (by simp [results, Try.results18, go_sem, r00, r01, r02, r03]; try rfl) rfl ?_
        exact ⟨rfl, by repeat (first | exact Below.refl _ _ | (with_reducible assumption) | (with_reducible apply bal) | (with_reducible apply bdr) | (with_reducible apply bdnl) | (with_reducible refine bst ?_ (by first | (simp; done) | (simp; omega) | omega) _) | (with_reducible refine bt ?_ (by with_reducible assumption)))⟩
      · rw [if_neg a, if_neg c, show max (-l) h = (-l) from by omega]
        have e1 := Lib.hid (Iv.vb_yes v)
        have wl : IntKind.i64.wrap (-l) = -l := IntWalk.i64_in _ (by unfold Iv.Vd at v; omega)
        have E := Lib.hid (Iv.rs_yes (l := 0) (h := (-l)) (by unfold Iv.Vd at *; omega))
        clear v
        go_enter Try.func18, Try.ntmps18
        have X := Blk.new w 24 #[.int .i64 (l), .int .i64 (h)]
        have hB := ba w (.cells #[.int .i64 (l), .int .i64 (h)] 24)
        have R := Blk.new1 w (.cells #[.int .i64 (l), .int .i64 (h)] 24) 24 #[.int .i64 (0), .int .i64 (0)]
        replace X := X.alloc (.cells #[.int .i64 (0), .int .i64 (0)] 24)
        replace hB := bal hB (.cells #[.int .i64 (0), .int .i64 (0)] 24)
        obtain ⟨c00, c01, c02, c03⟩ := X.open2
        go_wp2_with fail
        refine (valid_c _ _ _).mono ?_
        rw [e1.out]
        rintro e w1 ⟨rfl, hb⟩
        clear c00 c01 c02 c03
        replace X := X.keep hb
        replace R := R.keep hb
        replace hB := bt hB hb
        clear hb
        obtain ⟨c00, c01, c02, c03⟩ := X.open2
        obtain ⟨c10, c11, c12, c13⟩ := R.open2
        go_wp2_with fail
        refine (result_c _ _ _).mono ?_
        rw [E.out]
        rintro e w2 ⟨rfl, hb⟩
        clear c00 c01 c02 c03 c10 c11 c12 c13
        replace X := X.keep hb
        replace R := R.keep hb
        replace hB := bt hB hb
        clear hb
        obtain ⟨r00, r01, r02, r03⟩ := R.open2
        go_wp2_with fail
        refine bodyPost_ret (by simp [results, Try.results18, go_sem, r00, r01, r02, r03]; try rfl) rfl ?_
        exact ⟨rfl, by repeat (first | exact Below.refl _ _ | (with_reducible assumption) | (with_reducible apply bal) | (with_reducible apply bdr) | (with_reducible apply bdnl) | (with_reducible refine bst ?_ (by first | (simp; done) | (simp; omega) | omega) _) | (with_reducible refine bt ?_ (by with_reducible assumption)))⟩
end Go.Proofs.Ytgkbjkgafiojjaa
