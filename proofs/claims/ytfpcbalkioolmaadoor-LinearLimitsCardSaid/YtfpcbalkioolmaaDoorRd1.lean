/-
  Own work. What linear.Read answers for a letter within parentheses: runs of the abstract machine.
-/
import Derived.Test.YtfpcbalkioolmaaDoorRun7
import Derived.Test.YtfpcbalkioolmaaDoorW1
import Derived.Test.YtfpcbalkioolmaaDoorSan
set_option linter.unusedSimpArgs false
set_option linter.unusedVariables false
set_option maxRecDepth 100000
namespace Go.Proofs.YtfpcbalkioolmaaDoor
open Go.Abs
theorem rd_0 : QSpec Tryd.prog 15 [slA (eI .u8) [48, 1]] (.tup [slA eS_Node [⟨1, 0⟩], .int .i64 2, .int .i64 0]) := QSpec.runF (hints := hints) orc_ok 1000000 (by kernel_rfl)
theorem rd_1 : QSpec Tryd.prog 15 [slA (eI .u8) [55, 48, 1, 62]] (.tup [slA eS_Node [⟨10, 0⟩, ⟨1, 0⟩], .int .i64 4, .int .i64 0]) := QSpec.runF (hints := hints) orc_ok 1000000 (by kernel_rfl)
theorem rd_2 : QSpec Tryd.prog 15 [slA (eI .u8) [55, 55, 48, 1, 62, 62]] (.tup [slA eS_Node [⟨10, 0⟩, ⟨10, 0⟩, ⟨1, 0⟩], .int .i64 6, .int .i64 0]) := QSpec.runF (hints := hints) orc_ok 1000000 (by kernel_rfl)
theorem rd_3 : QSpec Tryd.prog 15 [slA (eI .u8) [55, 55, 55, 48, 1, 62, 62, 62]] (.tup [slA eS_Node [⟨10, 0⟩, ⟨10, 0⟩, ⟨10, 0⟩, ⟨1, 0⟩], .int .i64 8, .int .i64 0]) := QSpec.runF (hints := hints) orc_ok 1000000 (by kernel_rfl)
theorem rd_4 : QSpec Tryd.prog 15 [slA (eI .u8) [55, 55, 55, 55, 48, 1, 62, 62, 62, 62]] (.tup [slA eS_Node [⟨10, 0⟩, ⟨10, 0⟩, ⟨10, 0⟩, ⟨10, 0⟩, ⟨1, 0⟩], .int .i64 10, .int .i64 0]) := QSpec.runF (hints := hints) orc_ok 1000000 (by kernel_rfl)
theorem rd_5 : QSpec Tryd.prog 15 [slA (eI .u8) [55, 55, 55, 55, 55, 48, 1, 62, 62, 62, 62, 62]] (.tup [slA eS_Node [⟨10, 0⟩, ⟨10, 0⟩, ⟨10, 0⟩, ⟨10, 0⟩, ⟨10, 0⟩, ⟨1, 0⟩], .int .i64 12, .int .i64 0]) := QSpec.runF (hints := hints) orc_ok 1000000 (by kernel_rfl)
theorem rd_6 : QSpec Tryd.prog 15 [slA (eI .u8) [55, 55, 55, 55, 55, 55, 48, 1, 62, 62, 62, 62, 62, 62]] (.tup [slA eS_Node [⟨10, 0⟩, ⟨10, 0⟩, ⟨10, 0⟩, ⟨10, 0⟩, ⟨10, 0⟩, ⟨10, 0⟩, ⟨1, 0⟩], .int .i64 14, .int .i64 0]) := QSpec.runF (hints := hints) orc_ok 1000000 (by kernel_rfl)
theorem rd_7 : QSpec Tryd.prog 15 [slA (eI .u8) [55, 55, 55, 55, 55, 55, 55, 48, 1, 62, 62, 62, 62, 62, 62, 62]] (.tup [slA eS_Node [⟨10, 0⟩, ⟨10, 0⟩, ⟨10, 0⟩, ⟨10, 0⟩, ⟨10, 0⟩, ⟨10, 0⟩, ⟨10, 0⟩, ⟨1, 0⟩], .int .i64 16, .int .i64 0]) := QSpec.runF (hints := hints) orc_ok 1000000 (by kernel_rfl)
theorem rd_8 : QSpec Tryd.prog 15 [slA (eI .u8) [55, 55, 55, 55, 55, 55, 55, 55, 48, 1, 62, 62, 62, 62, 62, 62, 62, 62]] (.tup [slA eS_Node [], .int .i64 0, .int .i64 2]) := QSpec.runF (hints := hints) orc_ok 1000000 (by kernel_rfl)
theorem rd_9 : QSpec Tryd.prog 15 [slA (eI .u8) [55, 55, 55, 55, 55, 55, 55, 55, 55, 48, 1, 62, 62, 62, 62, 62, 62, 62, 62, 62]] (.tup [slA eS_Node [], .int .i64 0, .int .i64 2]) := QSpec.runF (hints := hints) orc_ok 1000000 (by kernel_rfl)
theorem rd_10 : QSpec Tryd.prog 15 [slA (eI .u8) [55, 55, 55, 55, 55, 55, 55, 55, 55, 55, 48, 1, 62, 62, 62, 62, 62, 62, 62, 62, 62, 62]] (.tup [slA eS_Node [], .int .i64 0, .int .i64 2]) := QSpec.runF (hints := hints) orc_ok 1000000 (by kernel_rfl)
theorem rd_11 : QSpec Tryd.prog 15 [slA (eI .u8) [55, 55, 55, 55, 55, 55, 55, 55, 55, 55, 55, 48, 1, 62, 62, 62, 62, 62, 62, 62, 62, 62, 62, 62]] (.tup [slA eS_Node [], .int .i64 0, .int .i64 2]) := QSpec.runF (hints := hints) orc_ok 1000000 (by kernel_rfl)
theorem rd_12 : QSpec Tryd.prog 15 [slA (eI .u8) [55, 55, 55, 55, 55, 55, 55, 55, 55, 55, 55, 55, 48, 1, 62, 62, 62, 62, 62, 62, 62, 62, 62, 62, 62, 62]] (.tup [slA eS_Node [], .int .i64 0, .int .i64 2]) := QSpec.runF (hints := hints) orc_ok 1000000 (by kernel_rfl)
theorem rd_13 : QSpec Tryd.prog 15 [slA (eI .u8) [55, 55, 55, 55, 55, 55, 55, 55, 55, 55, 55, 55, 55, 48, 1, 62, 62, 62, 62, 62, 62, 62, 62, 62, 62, 62, 62, 62]] (.tup [slA eS_Node [], .int .i64 0, .int .i64 2]) := QSpec.runF (hints := hints) orc_ok 1000000 (by kernel_rfl)
theorem rd_14 : QSpec Tryd.prog 15 [slA (eI .u8) [55, 55, 55, 55, 55, 55, 55, 55, 55, 55, 55, 55, 55, 55, 48, 1, 62, 62, 62, 62, 62, 62, 62, 62, 62, 62, 62, 62, 62, 62]] (.tup [slA eS_Node [], .int .i64 0, .int .i64 2]) := QSpec.runF (hints := hints) orc_ok 1000000 (by kernel_rfl)
theorem rd_15 : QSpec Tryd.prog 15 [slA (eI .u8) [55, 55, 55, 55, 55, 55, 55, 55, 55, 55, 55, 55, 55, 55, 55, 48, 1, 62, 62, 62, 62, 62, 62, 62, 62, 62, 62, 62, 62, 62, 62, 62]] (.tup [slA eS_Node [], .int .i64 0, .int .i64 2]) := QSpec.runF (hints := hints) orc_ok 1000000 (by kernel_rfl)
theorem rd_16 : QSpec Tryd.prog 15 [slA (eI .u8) [55, 55, 55, 55, 55, 55, 55, 55, 55, 55, 55, 55, 55, 55, 55, 55, 48, 1, 62, 62, 62, 62, 62, 62, 62, 62, 62, 62, 62, 62, 62, 62, 62, 62]] (.tup [slA eS_Node [], .int .i64 0, .int .i64 2]) := QSpec.runF (hints := hints) orc_ok 1000000 (by kernel_rfl)
end Go.Proofs.YtfpcbalkioolmaaDoor
