/-
  Own work. Formulas as prefix lists, part 3: what the reference's maker makes are trees.
-/
import Derived.Test.YtfpcbalkioolmaaDoorFm2
set_option linter.unusedSimpArgs false
set_option linter.unusedVariables false
namespace Go.Proofs.YtfpcbalkioolmaaDoor
open Go.Abs
theorem tmod_n {v : Int} (h : 0 ≤ v) (n : Int) : Int.tmod v n = v % n := Int.tmod_eq_emod_of_nonneg h
end Go.Proofs.YtfpcbalkioolmaaDoor
