/-
  Own work. Chapter 02, plain part: valid tables; TableCounts.
-/
import Derived.Test.YtlhpkjgpcenfdaaDoorP02d
import Derived.Test.YtlhpkjgpcenfdaaDoorWN1
import Derived.Test.YtlhpkjgpcenfdaaDoorLibC
import Derived.Test.YtlhpkjgpcenfdaaDoorSh
set_option linter.unusedSimpArgs false
set_option linter.unusedVariables false
set_option linter.unusedSimpArgs false
set_option linter.unusedVariables false
namespace Go.Proofs.YtlhpkjgpcenfdaaDoor
open Go.Abs
theorem chk_ok (m : Int) (l : List S_Rule) : ∀ (n k : Nat), (∀ i, k ≤ i → i < k + n → badR m l i = false) → chk m l k n = (0, 0)
  | 0, k, _ => rfl
  | n + 1, k, h => by
    rw [chk, if_neg (by rw [h k (by omega) (by omega)]; simp)]
    exact chk_ok m l n (k + 1) fun i h1 h2 => h i (by omega) (by omega)
end Go.Proofs.YtlhpkjgpcenfdaaDoor
