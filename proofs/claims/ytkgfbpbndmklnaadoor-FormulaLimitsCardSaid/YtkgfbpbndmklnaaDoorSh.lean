/- Own work. -/
import Derived.Test.YtkgfbpbndmklnaaDoorLibC
import Derived.Test.YtkgfbpbndmklnaaDoorW3
set_option linter.unusedSimpArgs false
set_option linter.unusedVariables false
set_option maxRecDepth 100000
namespace Go.Proofs.YtkgfbpbndmklnaaDoor
open Go.Abs
theorem ty5 : Typ Tryd.prog 5 (eI .u8) (okInt .u8) := Typ.int (by kernel_rfl)
theorem ty24 : Typ Tryd.prog 24 (eL (eI .u8)) (okList (okInt .u8)) := Typ.sl (by kernel_rfl) ty5
end Go.Proofs.YtkgfbpbndmklnaaDoor
