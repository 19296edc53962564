/- Own work. -/
import Derived.Test.YtkgfbpbndmklnaaDoorPrC
import Derived.Test.YtkgfbpbndmklnaaDoorW1
set_option linter.unusedSimpArgs false
set_option linter.unusedVariables false
namespace Go.Proofs.YtkgfbpbndmklnaaDoor
open Go.Abs
end Go.Proofs.YtkgfbpbndmklnaaDoor
