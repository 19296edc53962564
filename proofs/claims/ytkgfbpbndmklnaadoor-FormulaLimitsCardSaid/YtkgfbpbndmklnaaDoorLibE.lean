/- Own work. -/
import Derived.Lib.Builder
import Derived.Lib.UnsafeStr
import Derived.LaidEqlPtr
import Derived.Laws.Externs
import Derived.Test.YtkgfbpbndmklnaaDoorLibD
set_option linter.unusedSimpArgs false
set_option linter.unusedVariables false
namespace Go.Abs
open Go.RowKit
end Go.Abs
