/-
  Contracts: negated numbers, absolute values, comparisons; Mul64.
-/
import Derived.Test.YtcgcocingfhleaaW3
namespace Go.Proofs.Ytcgcocingfhleaa
set_option linter.unusedVariables false
set_option linter.unusedSimpArgs false
open Go.RowKit

theorem wd0 : Wi.Wd 0 0 0 := ⟨rfl, rfl, by unfold Wi.inW; omega⟩
set_option maxHeartbeats 1000000 in
theorem cmp_c (h l x h' l' y : Int) (w : World) (H : Wi.Wd h l x) (H' : Wi.Wd h' l' y) : Calls Try.prog 28 #[.agg #[.int .i64 h, .int .u64 l], .agg #[.int .i64 h', .int .u64 l']] w fun e w' =>
    e = .returned (.int .i64 (Wi.cm x y)) ∧ Below w.heap.size w w' := by
  have b1 := H.bd
  have b2 := H'.bd
  by_cases hh : h = h'
  · subst hh
    by_cases hl : l = l'
    · subst hl
      have e : Wi.cm x y = 0 := Wi.cm_eq (by omega)
      rw [e]
      clear b1 b2 e
      go_enter Try.func28, Try.ntmps28
      go_wp2_with fail
      go_returns
      exact ⟨rfl, by go_grown⟩
    · have e : Wi.cm l l' = Wi.cm x y := by
        rcases Int.lt_trichotomy l l' with q | q | q
        · rw [Wi.cm_lt q, Wi.cm_lt (by omega)]
        · rw [Wi.cm_eq q, Wi.cm_eq (by omega)]
        · rw [Wi.cm_gt q, Wi.cm_gt (by omega)]
      have E := Lib.hid e
      have hb : (l == l') = false := by simpa using hl
      clear e b1 b2 hl
      go_enter Try.func28, Try.ntmps28
      go_wp2_with (go_at_call 56; refine (cmpu_c _ _ _).mono ?_; rintro e w' ⟨rfl, rfl⟩)
      go_returns
      exact ⟨ret_int E.out, by go_grown⟩
  · have e : Wi.cm h h' = Wi.cm x y := by
      rcases Int.lt_trichotomy h h' with q | q | q
      · rw [Wi.cm_lt q, Wi.cm_lt (by omega)]
      · exact absurd q hh
      · rw [Wi.cm_gt q, Wi.cm_gt (by omega)]
    have hb : (h == h') = false := by simpa using hh
    have E := Lib.hid e
    clear e b1 b2 hh
    go_enter Try.func28, Try.ntmps28
    go_wp2_with (go_at_call 55; refine (cmpi_c _ _ _).mono ?_; rintro e w' ⟨rfl, rfl⟩)
    go_returns
    exact ⟨ret_int E.out, by go_grown⟩
set_option maxHeartbeats 1000000 in
theorem sign_c (h l x : Int) (w : World) (H : Wi.Wd h l x) : Calls Try.prog 25 #[.agg #[.int .i64 h, .int .u64 l]] w fun e w' =>
    e = .returned (.int .i64 (Wi.cm x 0)) ∧ Below w.heap.size w w' := by
  go_enter Try.func25, Try.ntmps25
  go_wp2_with fail
  refine (cmp_c _ _ _ _ _ _ _ H wd0).mono ?_
  rintro e w1 ⟨rfl, hb⟩
  go_wp2_with fail
  go_returns
  exact ⟨rfl, by repeat (first | exact Below.refl _ _ | (with_reducible assumption) | (with_reducible apply bal) | (with_reducible apply bdr) | (with_reducible apply bdnl) | (with_reducible refine bst ?_ (by first | (simp; done) | (simp; omega) | omega) _) | (with_reducible refine bt ?_ (by with_reducible assumption)))⟩
end Go.Proofs.Ytcgcocingfhleaa
