/- Layer 10 (pus): the document's example. -/
import Derived.Test.YtpblllkkcpahgaaPaq
import Derived.Test.YtpblllkkcpahgaaBzq
namespace Go.Proofs.Ytpblllkkcpahgaa
set_option linter.unusedSimpArgs false
set_option linter.unusedVariables false
set_option linter.unnecessarySimpa false
set_option maxRecDepth 100000
open Go.RowKit

end Go.Proofs.Ytpblllkkcpahgaa
