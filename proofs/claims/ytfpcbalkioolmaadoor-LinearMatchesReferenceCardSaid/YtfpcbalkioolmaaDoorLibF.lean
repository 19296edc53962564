/- Own work. -/
import Derived.Test.YtfpcbalkioolmaaDoorLibE
set_option linter.unusedSimpArgs false
set_option linter.unusedVariables false
namespace Go.Abs
open Go.RowKit
section
variable {P:Program} {N:Nat} {ops:Array Oper} {env:Env} {h:Hp}
end
section
variable {P:Program} {N:Nat} {ops:Array Oper} {env:Env} {h h':Hp} {φ:Nat→Option Nat} {X:Ctx} {ι:Nat→Bk} {w:World}
end
section
variable {P:Program} {N:Nat} {ops:Array Oper} {env:Env} {h:Hp}
end
end Go.Abs
