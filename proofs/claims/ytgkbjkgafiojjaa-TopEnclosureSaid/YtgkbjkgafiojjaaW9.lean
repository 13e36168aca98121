/-
  Contracts: the reference's negated numbers, absolute values, comparisons, multiples.
-/
import Derived.Test.YtgkbjkgafiojjaaW8
namespace Go.Proofs.Ytgkbjkgafiojjaa
set_option linter.unusedVariables false
set_option linter.unusedSimpArgs false
open Go.RowKit

theorem sg_zero (n : Bool) : Wi.sg 0 n = 0 := by cases n <;> rfl
end Go.Proofs.Ytgkbjkgafiojjaa
