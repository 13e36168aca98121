/-
  Contract: the program's Meets.
-/
import Derived.Test.YtpipjpgcnbpllaaW2
namespace Go.Proofs.Ytpipjpgcnbpllaa
set_option linter.unusedVariables false
set_option linter.unusedSimpArgs false
open Go.RowKit

end Go.Proofs.Ytpipjpgcnbpllaa
