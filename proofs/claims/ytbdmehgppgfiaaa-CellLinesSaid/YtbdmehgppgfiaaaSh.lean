/-
  Written by lawgen.py (own work): the arguments of the laws as typed values.
-/
import Derived.Test.YtbdmehgppgfiaaaGen7
import Derived.Test.YtbdmehgppgfiaaaW3
set_option linter.unusedSimpArgs false
set_option linter.unusedVariables false
set_option maxRecDepth 100000
namespace Go.Proofs.Ytbdmehgppgfiaaa
open Go.Abs
theorem ty5 : Typ Try.prog 5 (eI .u8) (okInt .u8) := Typ.int (by kernel_rfl)
theorem ty22 : Typ Try.prog 22 (fun l => l.flatMap (eI .u8)) (okArr 2 (okInt .u8)) := Typ.arr (by kernel_rfl) ty5
theorem ty9 : Typ Try.prog 9 eS okStr := Typ.str (by kernel_rfl)
theorem ty45 : Typ Try.prog 45 (eL (eI .u8)) (okList (okInt .u8)) := Typ.sl (by kernel_rfl) ty5
end Go.Proofs.Ytbdmehgppgfiaaa
