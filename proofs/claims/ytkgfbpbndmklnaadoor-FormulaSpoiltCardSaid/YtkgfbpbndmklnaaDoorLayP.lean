/- Own work. -/
import Derived.Shelf.SlGeneric
import Derived.Shelf.Strconv.AppendIntPublic10
import Derived.Test.YtkgfbpbndmklnaaDoorChecked
set_option linter.unusedSimpArgs false
set_option linter.unusedVariables false
namespace Go.Proofs.YtkgfbpbndmklnaaDoor
open Go.Shelf
end Go.Proofs.YtkgfbpbndmklnaaDoor
