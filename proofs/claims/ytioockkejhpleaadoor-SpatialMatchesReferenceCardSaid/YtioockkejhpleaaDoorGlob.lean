/- Own work. -/
import Derived.Test.YtioockkejhpleaaDoorAbs1
set_option linter.unusedSimpArgs false
set_option linter.unusedVariables false
namespace Go.Abs
def Yf : List Int := [1, 3, 9, 25, 17, 11, 27, 19, 10, 26, 5, 7, 13, 29, 21, 15, 31, 23, 14, 30, 37, 39, 58, 45, 61, 53]
def globs : List (Nat × List IV) := [(0, Yf.flatMap (eI .u8))]
end Go.Abs
