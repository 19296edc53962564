/-
  Own work. What linear.Read answers for a letter within parentheses: runs of the abstract machine.
-/
import Derived.Test.YtfpcbalkioolmaaDoorRun7
import Derived.Test.YtfpcbalkioolmaaDoorW1
import Derived.Test.YtfpcbalkioolmaaDoorSan
set_option linter.unusedSimpArgs false
set_option linter.unusedVariables false
set_option maxRecDepth 100000
namespace Go.Proofs.YtfpcbalkioolmaaDoor
open Go.Abs
theorem rd_26 : QSpec Tryd.prog 15 [slA (eI .u8) [55, 55, 55, 55, 55, 55, 55, 55, 55, 55, 55, 55, 55, 55, 55, 55, 55, 55, 55, 55, 55, 55, 55, 55, 55, 55, 48, 1, 62, 62, 62, 62, 62, 62, 62, 62, 62, 62, 62, 62, 62, 62, 62, 62, 62, 62, 62, 62, 62, 62, 62, 62, 62, 62]] (.tup [slA eS_Node [], .int .i64 0, .int .i64 2]) := QSpec.runF (hints := hints) orc_ok 1000000 (by kernel_rfl)
theorem rd_27 : QSpec Tryd.prog 15 [slA (eI .u8) [55, 55, 55, 55, 55, 55, 55, 55, 55, 55, 55, 55, 55, 55, 55, 55, 55, 55, 55, 55, 55, 55, 55, 55, 55, 55, 55, 48, 1, 62, 62, 62, 62, 62, 62, 62, 62, 62, 62, 62, 62, 62, 62, 62, 62, 62, 62, 62, 62, 62, 62, 62, 62, 62, 62, 62]] (.tup [slA eS_Node [], .int .i64 0, .int .i64 2]) := QSpec.runF (hints := hints) orc_ok 1000000 (by kernel_rfl)
theorem rd_28 : QSpec Tryd.prog 15 [slA (eI .u8) [55, 55, 55, 55, 55, 55, 55, 55, 55, 55, 55, 55, 55, 55, 55, 55, 55, 55, 55, 55, 55, 55, 55, 55, 55, 55, 55, 55, 48, 1, 62, 62, 62, 62, 62, 62, 62, 62, 62, 62, 62, 62, 62, 62, 62, 62, 62, 62, 62, 62, 62, 62, 62, 62, 62, 62, 62, 62]] (.tup [slA eS_Node [], .int .i64 0, .int .i64 2]) := QSpec.runF (hints := hints) orc_ok 1000000 (by kernel_rfl)
end Go.Proofs.YtfpcbalkioolmaaDoor
