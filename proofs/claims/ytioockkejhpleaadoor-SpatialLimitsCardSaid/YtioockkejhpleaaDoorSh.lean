/-
  Written by lawgen.py (own work): the arguments of the laws as typed values.
-/
import Derived.Test.YtioockkejhpleaaDoorLibC
import Derived.Test.YtioockkejhpleaaDoorW6
set_option linter.unusedSimpArgs false
set_option linter.unusedVariables false
set_option maxRecDepth 100000
namespace Go.Proofs.YtioockkejhpleaaDoor
open Go.Abs
theorem ty5 : Typ Tryd.prog 5 (eI .u8) (okInt .u8) := Typ.int (by kernel_rfl)
end Go.Proofs.YtioockkejhpleaaDoor
