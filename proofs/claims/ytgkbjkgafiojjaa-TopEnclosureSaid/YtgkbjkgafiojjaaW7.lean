/-
  Contracts: the reference's words for sizes and signs.
-/
import Derived.Test.YtgkbjkgafiojjaaW6
namespace Go.Proofs.Ytgkbjkgafiojjaa
set_option linter.unusedVariables false
set_option linter.unusedSimpArgs false
open Go.RowKit

/-! The reference's. -/
theorem ret_u {a b : Int} (h : a = b) : Ending.returned (.int .u64 a) = .returned (.int .u64 b) := by rw [h]
end Go.Proofs.Ytgkbjkgafiojjaa
