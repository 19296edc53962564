/- Own work. -/
import Derived.Shelf.Strconv.AppendIntPublic10
import Derived.Lib.AppendIntMem
import Derived.Test.YtkgfbpbndmklnaaDoorGen34
set_option linter.unusedSimpArgs false
set_option linter.unusedVariables false
namespace Go.Proofs
section
open Go.Shelf Go.RowKit Go.Sort Go.Lib Go.Abs
variable {P : Program} {ρ : Ren}
set_option maxHeartbeats 6400000 in
set_option maxRecDepth 100000 in
set_option maxHeartbeats 12800000 in
set_option maxRecDepth 100000 in
set_option maxHeartbeats 6400000 in
set_option maxRecDepth 100000 in
set_option maxRecDepth 100000 in
end
end Go.Proofs
