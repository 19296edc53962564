/- Own work. -/
import Derived.Test.YtfpcbalkioolmaaDoorRunC
import Derived.Test.YtfpcbalkioolmaaDoorChecked
set_option linter.unusedSimpArgs false
set_option linter.unusedVariables false
namespace Go.Proofs.YtfpcbalkioolmaaDoor
open Go.Abs
def Y0f:List (Int×List Int):=[(6,[57,12,47]),(9,[28,0,59]),(10,[55,0,62]),(11,[42,0,46]),(12,[56,32,34]),(13,[41,32,43])]
def f_linear_brackets:Option Unit:=some ()
theorem Y5p{r:Unit}(H:f_linear_brackets=some r):QSpec Tryd.prog 23 [] (.im (.mp (mapV Y0f))):=litMapE_sound (by kernel_rfl)
def orc:Orc:=mapOrc [(23,mapV Y0f)]
theorem orc_ok:OrcOK Tryd.prog orc:=mapOrc_ok (by
 intro p hp;rw[Xf] at hp;subst hp;exact Y5p (r:=()) rfl)
end Go.Proofs.YtfpcbalkioolmaaDoor
