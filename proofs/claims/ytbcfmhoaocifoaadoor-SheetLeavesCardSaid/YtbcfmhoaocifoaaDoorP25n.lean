/-
 Own work. Chapter 25, plain part: the law SheetLeavesMatchReference.
-/
import Derived.Test.YtbcfmhoaocifoaaDoorP25m
set_option linter.unusedSimpArgs false
set_option linter.unusedVariables false
set_option maxRecDepth 10000
set_option linter.unusedSimpArgs false
set_option linter.unusedVariables false
namespace Go.Proofs.YtbcfmhoaocifoaaDoor
open Go.Abs
end Go.Proofs.YtbcfmhoaocifoaaDoor
