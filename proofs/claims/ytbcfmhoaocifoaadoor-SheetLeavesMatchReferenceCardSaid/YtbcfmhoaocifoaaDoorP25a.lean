/- Own work. -/
import Derived.Test.YtbcfmhoaocifoaaDoorPl3
import Derived.Test.YtbcfmhoaocifoaaDoorW12
set_option linter.unusedSimpArgs false
set_option linter.unusedVariables false
set_option maxRecDepth 100000
namespace Go.Proofs.YtbcfmhoaocifoaaDoor
open Go.Abs
theorem sanity_true : f_L25_sanity = some true := by kernel_rfl
end Go.Proofs.YtbcfmhoaocifoaaDoor
