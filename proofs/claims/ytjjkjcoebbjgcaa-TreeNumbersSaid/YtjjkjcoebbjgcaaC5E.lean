/- A program's error: the document's Check; two programs that are the same. -/
import Derived.Test.YtjjkjcoebbjgcaaC5D
namespace Go.Proofs.Ytjjkjcoebbjgcaa
open Go Go.RowKit
set_option maxRecDepth 100000
set_option maxHeartbeats 1000000
set_option linter.unusedVariables false
set_option linter.unusedSimpArgs false

end Go.Proofs.Ytjjkjcoebbjgcaa
