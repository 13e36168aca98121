/-
  Contracts: sums, differences, negated numbers, absolute values, comparisons; the same of the reference.
-/
import Derived.Test.YtgkbjkgafiojjaaW2
namespace Go.Proofs.Ytgkbjkgafiojjaa
set_option linter.unusedVariables false
set_option linter.unusedSimpArgs false
open Go.RowKit

/-- A sum of two uint64, wrapped. -/
theorem wadd_ex (x y : Int) (hx : 0 ≤ x) (hx' : x ≤ 18446744073709551615) (hy : 0 ≤ y) (hy' : y ≤ 18446744073709551615) :
    ∃ s k : Int, 0 ≤ s ∧ s ≤ 18446744073709551615 ∧ Hid (x + y = s + k * 18446744073709551616 ∧ 0 ≤ k ∧ k ≤ 1 ∧ (k = 1 ↔ s < x)) ∧ IntKind.u64.wrap (x + y) = s := by
  by_cases h : x + y < 18446744073709551616
  · exact ⟨x + y, 0, by omega, by omega, Lib.hid (by omega), by rw [IntKind.wrap_u64]; omega⟩
  · exact ⟨x + y - 18446744073709551616, 1, by omega, by omega, Lib.hid (by omega), by rw [IntKind.wrap_u64]; omega⟩
/-- A difference of two uint64, wrapped. -/
theorem wsub_ex (x y : Int) (hx : 0 ≤ x) (hx' : x ≤ 18446744073709551615) (hy : 0 ≤ y) (hy' : y ≤ 18446744073709551615) :
    ∃ s k : Int, 0 ≤ s ∧ s ≤ 18446744073709551615 ∧ Hid (x - y = s - k * 18446744073709551616 ∧ 0 ≤ k ∧ k ≤ 1 ∧ (k = 1 ↔ x < y)) ∧ IntKind.u64.wrap (x - y) = s := by
  by_cases h : x < y
  · exact ⟨x - y + 18446744073709551616, 1, by omega, by omega, Lib.hid (by omega), by rw [IntKind.wrap_u64]; omega⟩
  · exact ⟨x - y, 0, by omega, by omega, Lib.hid (by omega), by rw [IntKind.wrap_u64]; omega⟩

end Go.Proofs.Ytgkbjkgafiojjaa
