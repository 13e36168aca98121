/-
  Contract: the reference's excess.
-/
import Derived.Test.YtpipjpgcnbpllaaW6
namespace Go.Proofs.Ytpipjpgcnbpllaa
set_option linter.unusedVariables false
set_option linter.unusedSimpArgs false
open Go.RowKit

end Go.Proofs.Ytpipjpgcnbpllaa
