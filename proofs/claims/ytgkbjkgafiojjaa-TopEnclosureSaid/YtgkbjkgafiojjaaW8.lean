/-
  Contracts: the reference's sums, differences, products and comparisons.
-/
import Derived.Test.YtgkbjkgafiojjaaW7
namespace Go.Proofs.Ytgkbjkgafiojjaa
set_option linter.unusedVariables false
set_option linter.unusedSimpArgs false
open Go.RowKit

end Go.Proofs.Ytgkbjkgafiojjaa
