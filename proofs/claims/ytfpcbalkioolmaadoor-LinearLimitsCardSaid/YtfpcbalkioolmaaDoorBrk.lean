/-
  Own work. linear.brackets: a literal map.
-/
import Derived.Test.YtfpcbalkioolmaaDoorRun6
import Derived.Test.YtfpcbalkioolmaaDoorChecked
set_option linter.unusedSimpArgs false
set_option linter.unusedVariables false
namespace Go.Proofs.YtfpcbalkioolmaaDoor
open Go.Abs
def brTab : List (Int × List Int) := [(6, [57, 12, 47]), (9, [28, 0, 59]), (10, [55, 0, 62]), (11, [42, 0, 46]), (12, [56, 32, 34]), (13, [41, 32, 43])]
def f_linear_brackets : Option Unit := some ()
theorem f_linear_brackets_ok {r : Unit} (H : f_linear_brackets = some r) : QSpec Tryd.prog 23 [] (.im (.mp (mapV brTab))) := litMapE_sound (by kernel_rfl)
def orc : Orc := mapOrc [(23, mapV brTab)]
theorem orc_ok : OrcOK Tryd.prog orc := mapOrc_ok (by
  intro p hp
  rw [List.mem_singleton] at hp
  subst hp
  exact f_linear_brackets_ok (r := ()) rfl)
end Go.Proofs.YtfpcbalkioolmaaDoor
