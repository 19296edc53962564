/- Own work. -/
import Derived.Test.YtkgfbpbndmklnaaDoorApi1
import Derived.Test.YtkgfbpbndmklnaaDoorChecked
import Derived.Test.YtkgfbpbndmklnaaDoorLayP
set_option linter.unusedSimpArgs false
set_option linter.unusedVariables false
namespace Go.Proofs.YtkgfbpbndmklnaaDoor
open Go.Shelf Go.Abs Go.RowKit
end Go.Proofs.YtkgfbpbndmklnaaDoor
