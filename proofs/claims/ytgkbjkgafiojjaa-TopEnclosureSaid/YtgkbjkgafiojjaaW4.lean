/-
  Contracts: negated numbers, absolute values, comparisons; Mul64.
-/
import Derived.Test.YtgkbjkgafiojjaaW3
namespace Go.Proofs.Ytgkbjkgafiojjaa
set_option linter.unusedVariables false
set_option linter.unusedSimpArgs false
open Go.RowKit

theorem wd0 : Wi.Wd 0 0 0 := ⟨rfl, rfl, by unfold Wi.inW; omega⟩
set_option maxHeartbeats 1000000 in
theorem cmp_c (h l x h' l' y : Int) (w : World) (H : Wi.Wd h l x) (H' : Wi.Wd h' l' y) : Calls Try.prog 23 #[.agg #[.int .i64 h, .int .u64 l], .agg #[.int .i64 h', .int .u64 l']] w fun e w' =>
    e = .returned (.int .i64 (Wi.cm x y)) ∧ Below w.heap.size w w' := by
  have b1 := H.bd
  have b2 := H'.bd
  by_cases hh : h = h'
  · subst hh
    by_cases hl : l = l'
    · subst hl
      have e : Wi.cm x y = 0 := Wi.cm_eq (by omega)
      rw [e]
      clear b1 b2 e
      go_enter Try.func23, Try.ntmps23
      go_wp2_with fail
      go_returns
      exact ⟨rfl, by go_grown⟩
    · have e : Wi.cm l l' = Wi.cm x y := by
        rcases Int.lt_trichotomy l l' with q | q | q
        · rw [Wi.cm_lt q, Wi.cm_lt (by omega)]
        · rw [Wi.cm_eq q, Wi.cm_eq (by omega)]
        · rw [Wi.cm_gt q, Wi.cm_gt (by omega)]
      have E := Lib.hid e
      have hb : (l == l') = false := by simpa using hl
      clear e b1 b2 hl
      go_enter Try.func23, Try.ntmps23
      go_wp2_with (go_at_call 28; refine (cmpu_c _ _ _).mono ?_; rintro e w' ⟨rfl, rfl⟩)
      go_returns
      exact ⟨ret_int E.out, by go_grown⟩
  · have e : Wi.cm h h' = Wi.cm x y := by
      rcases Int.lt_trichotomy h h' with q | q | q
      · rw [Wi.cm_lt q, Wi.cm_lt (by omega)]
      · exact absurd q hh
      · rw [Wi.cm_gt q, Wi.cm_gt (by omega)]
    have hb : (h == h') = false := by simpa using hh
    have E := Lib.hid e
    clear e b1 b2 hh
    go_enter Try.func23, Try.ntmps23
    go_wp2_with (go_at_call 27; refine (cmpi_c _ _ _).mono ?_; rintro e w' ⟨rfl, rfl⟩)
    go_returns
    exact ⟨ret_int E.out, by go_grown⟩
end Go.Proofs.Ytgkbjkgafiojjaa
