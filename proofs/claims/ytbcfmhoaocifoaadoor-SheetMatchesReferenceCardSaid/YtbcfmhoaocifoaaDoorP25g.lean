/-
  Own work. Chapter 25, plain part: pages from dots.
-/
import Derived.Test.YtbcfmhoaocifoaaDoorP25f
set_option linter.unusedSimpArgs false
set_option linter.unusedVariables false
set_option maxRecDepth 10000
set_option linter.unusedSimpArgs false
set_option linter.unusedVariables false
namespace Go.Proofs.YtbcfmhoaocifoaaDoor
open Go.Abs
def cells (u : Nat → Nat → Bool) (r c : Nat) : Int := cellOf fun k => u (3 * r + k % 3) (2 * c + k / 3)
end Go.Proofs.YtbcfmhoaocifoaaDoor
