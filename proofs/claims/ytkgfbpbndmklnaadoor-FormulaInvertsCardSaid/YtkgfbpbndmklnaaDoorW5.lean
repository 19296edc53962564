/- Own work. -/
import Derived.Test.YtkgfbpbndmklnaaDoorW4
set_option linter.unusedSimpArgs false
set_option linter.unusedVariables false
set_option maxRecDepth 100000
namespace Go.Proofs.YtkgfbpbndmklnaaDoor
open Go.Abs
end Go.Proofs.YtkgfbpbndmklnaaDoor
