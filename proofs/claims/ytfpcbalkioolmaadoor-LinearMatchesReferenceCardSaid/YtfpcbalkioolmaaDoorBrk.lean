/- Own work. -/
import Derived.Test.YtfpcbalkioolmaaDoorRunC
import Derived.Test.YtfpcbalkioolmaaDoorChecked
set_option linter.unusedSimpArgs false
set_option linter.unusedVariables false
namespace Go.Proofs.YtfpcbalkioolmaaDoor
open Go.Abs
def Y57:List (Int×List Int):=[(6,[57,12,47]),(9,[28,0,59]),(10,[55,0,62]),(11,[42,0,46]),(12,[56,32,34]),(13,[41,32,43])]
def Y89:Option Unit:=some ()
theorem f_linear_brackets_ok{r:Unit}(H:Y89=some r):QSpec Tryd.prog 23 [] (.im (.mp (mapV Y57))):=litMapE_sound (by kernel_rfl)
end Go.Proofs.YtfpcbalkioolmaaDoor
