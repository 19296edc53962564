/-
  Written by lawgen.py (own work): the arguments of the laws as typed values.
-/
import Derived.Test.YthfdgicfcjkfgaaGen7
import Derived.Test.YthfdgicfcjkfgaaW3
set_option linter.unusedSimpArgs false
set_option linter.unusedVariables false
set_option maxRecDepth 100000
namespace Go.Proofs.Ythfdgicfcjkfgaa
open Go.Abs
theorem ty5 : Typ Try.prog 5 (eI .u8) (okInt .u8) := Typ.int (by kernel_rfl)
theorem ty22 : Typ Try.prog 22 (eL (eI .u8)) (okList (okInt .u8)) := Typ.sl (by kernel_rfl) ty5
theorem ty23 : Typ Try.prog 23 (eI .i8) (okInt .i8) := Typ.int (by kernel_rfl)
theorem ty24 : Typ Try.prog 24 (fun l => l.flatMap (eI .i8)) (okArr 2 (okInt .i8)) := Typ.arr (by kernel_rfl) ty23
theorem ty25 : Typ Try.prog 25 (eL (eI .i8)) (okList (okInt .i8)) := Typ.sl (by kernel_rfl) ty23
theorem ty43 : Typ Try.prog 43 (fun l => l.flatMap (eI .u8)) (okArr 3 (okInt .u8)) := Typ.arr (by kernel_rfl) ty5
theorem ty47 : Typ Try.prog 47 (fun l => l.flatMap (eI .u8)) (okArr 2 (okInt .u8)) := Typ.arr (by kernel_rfl) ty5
end Go.Proofs.Ythfdgicfcjkfgaa
