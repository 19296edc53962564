/-
 Own work. Chapter 25: the sanity function.
-/
import Derived.Test.YtbcfmhoaocifoaaDoorPl4
import Derived.Test.YtbcfmhoaocifoaaDoorW12
set_option linter.unusedSimpArgs false
set_option linter.unusedVariables false
set_option maxRecDepth 100000
set_option linter.unusedSimpArgs false
set_option linter.unusedVariables false
namespace Go.Proofs.YtbcfmhoaocifoaaDoor
open Go.Abs
theorem sanity_true : f_L25_sanity = some true := by kernel_rfl
end Go.Proofs.YtbcfmhoaocifoaaDoor
