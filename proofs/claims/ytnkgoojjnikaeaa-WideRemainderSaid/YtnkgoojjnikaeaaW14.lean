/-
  Contracts: the reference's Div, DivUp, Nearest.
-/
import Derived.Test.YtnkgoojjnikaeaaW13b
import Derived.Test.YtnkgoojjnikaeaaW13c
import Derived.Test.YtnkgoojjnikaeaaW14a
import Derived.Test.YtnkgoojjnikaeaaW14b
import Derived.Deep.DeepCutAuto
namespace Go.Proofs.Ytnkgoojjnikaeaa
set_option linter.unusedVariables false
set_option linter.unusedSimpArgs false
open Go.RowKit

theorem rnear_n (h l x h' l' y : Int) (w : World) (H : Wi.Wd h l x) (H' : Wi.Wd h' l' y) (h0 : y ≠ 0) : Calls Try.prog 48 #[.agg #[.int .i64 h, .int .u64 l], .agg #[.int .i64 h', .int .u64 l'], .int .i64 2] w fun e w' =>
    e = .returned (.tuple #[.agg #[.int .i64 (Wi.Hq (Wi.rv (Wi.dv x y (0)))), .int .u64 (Wi.Lr (Wi.rv (Wi.dv x y (0))))], .bool (Wi.okb (Wi.dv x y (0)))]) ∧ Below w.heap.size w w' := by
  cases hn : (!Wi.ngb x == Wi.ngb y)
  · exact rnear_a h l x h' l' y w H H' h0 hn
  · exact rnear_b h l x h' l' y w H H' h0 hn
set_option maxHeartbeats 1000000 in
theorem rdiv_c (h l x h' l' y : Int) (w : World) (H : Wi.Wd h l x) (H' : Wi.Wd h' l' y) : Calls Try.prog 15 #[.agg #[.int .i64 h, .int .u64 l], .agg #[.int .i64 h', .int .u64 l']] w fun e w' =>
    e = .returned (.tuple #[.agg #[.int .i64 (Wi.Hq (Wi.dV x y (-1))), .int .u64 (Wi.Lr (Wi.dV x y (-1)))], .bool (Wi.dB x y (-1))]) ∧ Below w.heap.size w w' := by
  by_cases h0 : y = 0
  · subst h0
    rw [Wi.dV_0, Wi.dB_0]
    go_enter Try.func15, Try.ntmps15
    go_wp2_with fail
    refine (rquot_0 _ _ _ _ _ _ _ H H').mono ?_
    rintro e w1 ⟨rfl, hb⟩
    have R := (Blk.new2 w _ _ _ _).keep hb
    obtain ⟨r0, r1, r2, r3⟩ := R.open2
    go_wp2_with fail
    refine bodyPost_ret (by simp [results, Try.results15, go_sem, r0, r1, r2, r3]; try rfl) rfl ?_
    exact ⟨rfl, by repeat (first | exact Below.refl _ _ | (with_reducible assumption) | (with_reducible apply bal) | (with_reducible apply bdr) | (with_reducible apply bdnl) | (with_reducible refine bst ?_ (by first | (simp; done) | (simp; omega) | omega) _) | (with_reducible refine bt ?_ (by with_reducible assumption)))⟩
  · rw [Wi.dV_n h0, Wi.dB_n h0]
    go_enter Try.func15, Try.ntmps15
    go_wp2_with fail
    refine (rdiv_n _ _ _ _ _ _ _ H H' h0).mono ?_
    rintro e w1 ⟨rfl, hb⟩
    have R := (Blk.new2 w _ _ _ _).keep hb
    obtain ⟨r0, r1, r2, r3⟩ := R.open2
    go_wp2_with fail
    refine bodyPost_ret (by simp [results, Try.results15, go_sem, r0, r1, r2, r3]; try rfl) rfl ?_
    exact ⟨rfl, by repeat (first | exact Below.refl _ _ | (with_reducible assumption) | (with_reducible apply bal) | (with_reducible apply bdr) | (with_reducible apply bdnl) | (with_reducible refine bst ?_ (by first | (simp; done) | (simp; omega) | omega) _) | (with_reducible refine bt ?_ (by with_reducible assumption)))⟩
set_option maxHeartbeats 1000000 in
theorem rdivup_c (h l x h' l' y : Int) (w : World) (H : Wi.Wd h l x) (H' : Wi.Wd h' l' y) : Calls Try.prog 18 #[.agg #[.int .i64 h, .int .u64 l], .agg #[.int .i64 h', .int .u64 l']] w fun e w' =>
    e = .returned (.tuple #[.agg #[.int .i64 (Wi.Hq (Wi.dV x y (1))), .int .u64 (Wi.Lr (Wi.dV x y (1)))], .bool (Wi.dB x y (1))]) ∧ Below w.heap.size w w' := by
  by_cases h0 : y = 0
  · subst h0
    rw [Wi.dV_0, Wi.dB_0]
    go_enter Try.func18, Try.ntmps18
    go_wp2_with fail
    refine (rquot_0 _ _ _ _ _ _ _ H H').mono ?_
    rintro e w1 ⟨rfl, hb⟩
    have R := (Blk.new2 w _ _ _ _).keep hb
    obtain ⟨r0, r1, r2, r3⟩ := R.open2
    go_wp2_with fail
    refine bodyPost_ret (by simp [results, Try.results18, go_sem, r0, r1, r2, r3]; try rfl) rfl ?_
    exact ⟨rfl, by repeat (first | exact Below.refl _ _ | (with_reducible assumption) | (with_reducible apply bal) | (with_reducible apply bdr) | (with_reducible apply bdnl) | (with_reducible refine bst ?_ (by first | (simp; done) | (simp; omega) | omega) _) | (with_reducible refine bt ?_ (by with_reducible assumption)))⟩
  · rw [Wi.dV_n h0, Wi.dB_n h0]
    go_enter Try.func18, Try.ntmps18
    go_wp2_with fail
    refine (rdivup_n _ _ _ _ _ _ _ H H' h0).mono ?_
    rintro e w1 ⟨rfl, hb⟩
    have R := (Blk.new2 w _ _ _ _).keep hb
    obtain ⟨r0, r1, r2, r3⟩ := R.open2
    go_wp2_with fail
    refine bodyPost_ret (by simp [results, Try.results18, go_sem, r0, r1, r2, r3]; try rfl) rfl ?_
    exact ⟨rfl, by repeat (first | exact Below.refl _ _ | (with_reducible assumption) | (with_reducible apply bal) | (with_reducible apply bdr) | (with_reducible apply bdnl) | (with_reducible refine bst ?_ (by first | (simp; done) | (simp; omega) | omega) _) | (with_reducible refine bt ?_ (by with_reducible assumption)))⟩
set_option maxHeartbeats 1000000 in
theorem rnear_c (h l x h' l' y : Int) (w : World) (H : Wi.Wd h l x) (H' : Wi.Wd h' l' y) : Calls Try.prog 20 #[.agg #[.int .i64 h, .int .u64 l], .agg #[.int .i64 h', .int .u64 l']] w fun e w' =>
    e = .returned (.tuple #[.agg #[.int .i64 (Wi.Hq (Wi.dV x y (0))), .int .u64 (Wi.Lr (Wi.dV x y (0)))], .bool (Wi.dB x y (0))]) ∧ Below w.heap.size w w' := by
  by_cases h0 : y = 0
  · subst h0
    rw [Wi.dV_0, Wi.dB_0]
    go_enter Try.func20, Try.ntmps20
    go_wp2_with fail
    refine (rquot_0 _ _ _ _ _ _ _ H H').mono ?_
    rintro e w1 ⟨rfl, hb⟩
    have R := (Blk.new2 w _ _ _ _).keep hb
    obtain ⟨r0, r1, r2, r3⟩ := R.open2
    go_wp2_with fail
    refine bodyPost_ret (by simp [results, Try.results20, go_sem, r0, r1, r2, r3]; try rfl) rfl ?_
    exact ⟨rfl, by repeat (first | exact Below.refl _ _ | (with_reducible assumption) | (with_reducible apply bal) | (with_reducible apply bdr) | (with_reducible apply bdnl) | (with_reducible refine bst ?_ (by first | (simp; done) | (simp; omega) | omega) _) | (with_reducible refine bt ?_ (by with_reducible assumption)))⟩
  · rw [Wi.dV_n h0, Wi.dB_n h0]
    go_enter Try.func20, Try.ntmps20
    go_wp2_with fail
    refine (rnear_n _ _ _ _ _ _ _ H H' h0).mono ?_
    rintro e w1 ⟨rfl, hb⟩
    have R := (Blk.new2 w _ _ _ _).keep hb
    obtain ⟨r0, r1, r2, r3⟩ := R.open2
    go_wp2_with fail
    refine bodyPost_ret (by simp [results, Try.results20, go_sem, r0, r1, r2, r3]; try rfl) rfl ?_
    exact ⟨rfl, by repeat (first | exact Below.refl _ _ | (with_reducible assumption) | (with_reducible apply bal) | (with_reducible apply bdr) | (with_reducible apply bdnl) | (with_reducible refine bst ?_ (by first | (simp; done) | (simp; omega) | omega) _) | (with_reducible refine bt ?_ (by with_reducible assumption)))⟩
end Go.Proofs.Ytnkgoojjnikaeaa
