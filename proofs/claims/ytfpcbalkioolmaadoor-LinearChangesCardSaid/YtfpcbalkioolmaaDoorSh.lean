/- Own work. -/
import Derived.Test.YtfpcbalkioolmaaDoorLibC
import Derived.Test.YtfpcbalkioolmaaDoorW6
set_option linter.unusedSimpArgs false
set_option linter.unusedVariables false
set_option maxRecDepth 100000
namespace Go.Proofs.YtfpcbalkioolmaaDoor
open Go.Abs
theorem ty5 : Typ Tryd.prog 5 (eI .u8) (okInt .u8) := Typ.int (by kernel_rfl)
theorem ty22 : Typ Tryd.prog 22 (eL (eI .u8)) (okList (okInt .u8)) := Typ.sl (by kernel_rfl) ty5
theorem ty34 : Typ Tryd.prog 34 (fun l => l.flatMap (eI .u8)) (okArr 2 (okInt .u8)) := Typ.arr (by kernel_rfl) ty5
end Go.Proofs.YtfpcbalkioolmaaDoor
