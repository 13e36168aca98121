/-
  The walks of ConstraintMeets, ConstraintFinds, ConstraintTight.
-/
import Derived.Test.YtpipjpgcnbpllaaW14
namespace Go.Proofs.Ytpipjpgcnbpllaa
set_option linter.unusedVariables false
set_option linter.unusedSimpArgs false
open Go.RowKit

end Go.Proofs.Ytpipjpgcnbpllaa
