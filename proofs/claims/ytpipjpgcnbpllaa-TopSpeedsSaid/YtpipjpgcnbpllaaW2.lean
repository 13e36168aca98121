/-
  Contract: the reference's Check.
-/
import Derived.Test.YtpipjpgcnbpllaaW1
namespace Go.Proofs.Ytpipjpgcnbpllaa
set_option linter.unusedVariables false
set_option linter.unusedSimpArgs false
open Go.RowKit

end Go.Proofs.Ytpipjpgcnbpllaa
