/- Own work. -/
import Derived.Test.YtioockkejhpleaaDoorRun6
import Derived.Test.YtioockkejhpleaaDoorChecked
set_option linter.unusedSimpArgs false
set_option linter.unusedVariables false
namespace Go.Proofs.YtioockkejhpleaaDoor
open Go.Abs
def Y7 : List (Int × List Int) := [(6, [57, 12, 47]), (9, [28, 0, 59]), (10, [55, 0, 62]), (11, [42, 0, 46]), (12, [56, 32, 34]), (13, [41, 32, 43])]
def Y5d : Option Unit := some ()
theorem f_linear_brackets_ok {r : Unit} (H : Y5d = some r) : QSpec Tryd.prog 62 [] (.im (.mp (mapV Y7))) := litMapE_sound (by kernel_rfl)
def orc : Orc := mapOrc [(62, mapV Y7)]
theorem orc_ok : OrcOK Tryd.prog orc := mapOrc_ok (by
 intro p hp
 rw [List.mem_singleton] at hp
 subst hp
 exact f_linear_brackets_ok (r := ()) rfl)
end Go.Proofs.YtioockkejhpleaaDoor
