/- Own work. -/
import Derived.Lib.Builder
import Derived.Lib.UnsafeStr
import Derived.LaidEqlPtr
import Derived.Laws.Externs
import Derived.Test.YtfpcbalkioolmaaDoorLibD
set_option linter.unusedSimpArgs false
set_option linter.unusedVariables false
namespace Go.Abs
open Go.RowKit
inductive FM where
 |same (R:Nat)
 |nil
 |put (R i q:Nat)
def FM.src:FM→Option Nat
 | .same R=>some R
 | .nil=>none
 | .put R _ _=>some R
def FM.q:FM→Option Nat
 | .put _ _ q=>some q
 |_=>none
end Go.Abs
