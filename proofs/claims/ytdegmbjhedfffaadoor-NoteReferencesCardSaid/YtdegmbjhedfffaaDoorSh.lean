/-
  Written by lawgen.py (own work): the arguments of the laws as typed values.
-/
import Derived.Test.YtdegmbjhedfffaaDoorGen7
import Derived.Test.YtdegmbjhedfffaaDoorW3
set_option linter.unusedSimpArgs false
set_option linter.unusedVariables false
set_option maxRecDepth 100000
namespace Go.Proofs.YtdegmbjhedfffaaDoor
open Go.Abs
theorem ty5 : Typ Tryd.prog 5 (eI .u8) (okInt .u8) := Typ.int (by kernel_rfl)
theorem ty22 : Typ Tryd.prog 22 (eL (eI .u8)) (okList (okInt .u8)) := Typ.sl (by kernel_rfl) ty5
theorem ty3 : Typ Tryd.prog 3 (eI .i64) (okInt .i64) := Typ.int (by kernel_rfl)
theorem ty23 : Typ Tryd.prog 23 (eL (eI .i64)) (okList (okInt .i64)) := Typ.sl (by kernel_rfl) ty3
theorem ty32 : Typ Tryd.prog 32 (eL (eL (eI .u8))) (okList (okList (okInt .u8))) := Typ.sl (by kernel_rfl) ty22
theorem ty33 : Typ Tryd.prog 33 (eI .u32) (okInt .u32) := Typ.int (by kernel_rfl)
theorem ty47 : Typ Tryd.prog 47 (fun l => l.flatMap (eI .u8)) (okArr 3 (okInt .u8)) := Typ.arr (by kernel_rfl) ty5
end Go.Proofs.YtdegmbjhedfffaaDoor
