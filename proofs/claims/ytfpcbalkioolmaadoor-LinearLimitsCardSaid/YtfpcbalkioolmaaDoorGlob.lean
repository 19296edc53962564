/-
  Written by globgen.py (own work): the tables of the program that a statement may read.
-/
import Derived.Test.YtfpcbalkioolmaaDoorAbs1
set_option linter.unusedSimpArgs false
set_option linter.unusedVariables false
namespace Go.Abs
def tab_linear_letters : List Int := [1, 3, 9, 25, 17, 11, 27, 19, 10, 26, 5, 7, 13, 29, 21, 15, 31, 23, 14, 30, 37, 39, 58, 45, 61, 53]
def globs : List (Nat × List IV) := [(0, tab_linear_letters.flatMap (eI .u8))]
end Go.Abs
