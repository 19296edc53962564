/- Own work. -/
import Derived.Test.YtkgfbpbndmklnaaDoorRunB
set_option linter.unusedSimpArgs false
set_option linter.unusedVariables false
namespace Go.Abs
end Go.Abs
