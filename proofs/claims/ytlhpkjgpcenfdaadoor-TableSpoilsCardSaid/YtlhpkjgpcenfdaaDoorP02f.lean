/-
  Own work. Chapter 02, plain part: valid tables; TableCounts.
-/
import Derived.Test.YtlhpkjgpcenfdaaDoorP02d
import Derived.Test.YtlhpkjgpcenfdaaDoorWN1
import Derived.Test.YtlhpkjgpcenfdaaDoorLibC
import Derived.Test.YtlhpkjgpcenfdaaDoorSh
set_option linter.unusedSimpArgs false
set_option linter.unusedVariables false
set_option linter.unusedSimpArgs false
set_option linter.unusedVariables false
namespace Go.Proofs.YtlhpkjgpcenfdaaDoor
open Go.Abs
theorem chk_ok (m : Int) (l : List S_Rule) : ∀ (n k : Nat), (∀ i, k ≤ i → i < k + n → badR m l i = false) → chk m l k n = (0, 0)
  | 0, k, _ => rfl
  | n + 1, k, h => by
    rw [chk, if_neg (by rw [h k (by omega) (by omega)]; simp)]
    exact chk_ok m l n (k + 1) fun i h1 h2 => h i (by omega) (by omega)
theorem chk_bad (m : Int) (l : List S_Rule) (j : Nat) (hj : badR m l j = true) : ∀ (n k : Nat), k ≤ j → j < k + n → (∀ i, k ≤ i → i < j → badR m l i = false) → chk m l k n = ((j : Int), 20)
  | 0, k, h1, h2, _ => by omega
  | n + 1, k, h1, h2, h => by
    rw [chk]
    by_cases e : k = j
    · rw [e, if_pos hj]
    · rw [if_neg (by rw [h k (by omega) (by omega)]; simp)]
      exact chk_bad m l j hj n (k + 1) (by omega) (by omega) fun i h1 h2 => h i (by omega) (by omega)
end Go.Proofs.YtlhpkjgpcenfdaaDoor
