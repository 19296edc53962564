/- Own work. -/
import Derived.Test.YtfpcbalkioolmaaDoorLsA
set_option linter.unusedSimpArgs false
set_option linter.unusedVariables false
namespace Go.Proofs.YtfpcbalkioolmaaDoor
open Go.Abs
section
variable {t:List Int} {q:Qs} {g:Qf} {x:Tr} {u:Cu}
end
section
variable {t:List Int} {q:Qs} {g:Qf} {x:Tr}
end
section
variable {t u:List Int}
end
end Go.Proofs.YtfpcbalkioolmaaDoor
