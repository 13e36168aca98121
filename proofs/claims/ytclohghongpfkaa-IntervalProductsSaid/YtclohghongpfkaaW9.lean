/-
  Contracts: the reference's negated numbers, absolute values, comparisons, multiples.
-/
import Derived.Test.YtclohghongpfkaaW8
namespace Go.Proofs.Ytclohghongpfkaa
set_option linter.unusedVariables false
set_option linter.unusedSimpArgs false
open Go.RowKit

set_option maxHeartbeats 1000000 in
theorem rcmp_c (h l x h' l' y : Int) (w : World) (H : Wi.Wd h l x) (H' : Wi.Wd h' l' y) : Calls Try.prog 99 #[.agg #[.int .i64 h, .int .u64 l], .agg #[.int .i64 h', .int .u64 l']] w fun e w' =>
    e = .returned (.int .i64 (Wi.cm x y)) ∧ Below w.heap.size w w' := by
  have b1 := H.bd
  have b2 := H'.bd
  rcases Int.lt_trichotomy h h' with q | q | q
  · have E := Lib.hid (@Wi.cm_lt x y (by omega))
    clear b1 b2
    go_enter Try.func99, Try.ntmps99
    go_wp2_with fail
    go_returns
    exact ⟨ret_int E.out.symm, by go_grown⟩
  · subst q
    rcases Int.lt_trichotomy l l' with q | q | q
    · have E := Lib.hid (@Wi.cm_lt x y (by omega))
      clear b1 b2
      go_enter Try.func99, Try.ntmps99
      go_wp2_with fail
      go_returns
      exact ⟨ret_int E.out.symm, by go_grown⟩
    · subst q
      have E := Lib.hid (@Wi.cm_eq x y (by omega))
      clear b1 b2
      go_enter Try.func99, Try.ntmps99
      go_wp2_with fail
      go_returns
      exact ⟨ret_int E.out.symm, by go_grown⟩
    · have E := Lib.hid (@Wi.cm_gt x y (by omega))
      have hb : (l == l') = false := by simp; omega
      have hb2 : ¬ l < l' := by omega
      clear b1 b2
      go_enter Try.func99, Try.ntmps99
      go_wp2_with fail
      go_returns
      exact ⟨ret_int E.out.symm, by go_grown⟩
  · have E := Lib.hid (@Wi.cm_gt x y (by omega))
    have hb : (h == h') = false := by simp; omega
    have hb2 : ¬ h < h' := by omega
    clear b1 b2
    go_enter Try.func99, Try.ntmps99
    go_wp2_with fail
    go_returns
    exact ⟨ret_int E.out.symm, by go_grown⟩
set_option maxHeartbeats 1000000 in
theorem rsign_c (h l x : Int) (w : World) (H : Wi.Wd h l x) : Calls Try.prog 107 #[.agg #[.int .i64 h, .int .u64 l]] w fun e w' =>
    e = .returned (.int .i64 (Wi.cm x 0)) ∧ Below w.heap.size w w' := by
  go_enter Try.func107, Try.ntmps107
  go_wp2_with fail
  refine (rcmp_c _ _ _ _ _ _ _ H wd0).mono ?_
  rintro e w1 ⟨rfl, hb⟩
  go_wp2_with fail
  go_returns
  exact ⟨rfl, by repeat (first | exact Below.refl _ _ | (with_reducible assumption) | (with_reducible apply bal) | (with_reducible apply bdr) | (with_reducible apply bdnl) | (with_reducible refine bst ?_ (by first | (simp; done) | (simp; omega) | omega) _) | (with_reducible refine bt ?_ (by with_reducible assumption)))⟩

theorem sg_zero (n : Bool) : Wi.sg 0 n = 0 := by cases n <;> rfl
end Go.Proofs.Ytclohghongpfkaa
