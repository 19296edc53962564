/-
  Own work. Chapter 25, plain part: rows, valid plates, equal plates and pages.
-/
import Derived.Test.YtbcfmhoaocifoaaDoorP25a
set_option linter.unusedSimpArgs false
set_option linter.unusedVariables false
set_option linter.unusedSimpArgs false
set_option linter.unusedVariables false
namespace Go.Proofs.YtbcfmhoaocifoaaDoor
open Go.Abs
theorem loop_all {b : (Int → Option Bool) → Int → Option Bool} (n : Nat) (P : Nat → Prop) [DecidablePred P] (hn : n < 900000)
    (h : ∀ (loop : Int → Option Bool) (k : Nat), k < n → b loop (k : Int) = if P k then loop ((k + 1 : Nat) : Int) else some false)
    (h0 : ∀ (loop : Int → Option Bool), b loop (n : Int) = some true) : iter b 1000000 (0 : Int) = some (decide (∀ k, k < n → P k)) := by
  have := iter_ind (b := b) (fun s => ∃ k : Nat, s = (k : Int) ∧ k ≤ n) (fun s => n - s.toNat) (fun s => some (decide (∀ k, k < n → s.toNat ≤ k → P k))) (fun loop s hs ih => by
    obtain ⟨k, rfl, hk⟩ := hs
    by_cases hkn : k = n
    · subst hkn
      rw [h0, decide_eq_true (fun i h1 h2 => absurd h1 (by omega))]
    · rw [h loop k (by omega)]
      by_cases hp : P k
      · rw [if_pos hp, ih _ ⟨k + 1, rfl, by omega⟩ (by omega)]
        congr 1
        rw [decide_eq_decide]
        constructor
        · intro hx i h2 h1
          by_cases hik : i = k
          · subst hik; exact hp
          · exact hx i h2 (by omega)
        · intro hx i h2 h1
          exact hx i h2 (by omega)
      · rw [if_neg hp, decide_eq_false (fun hx => hp (hx k (by omega) (by omega)))]) 1000000 0 ⟨0, rfl, by omega⟩ (by omega)
  rw [this]
  simp
def rowsOk {α : Type} (d : List (List α)) (w : Int) : Prop := ∀ k, k < d.length → ((d.getD k []).length : Int) = w
instance {α : Type} (d : List (List α)) (w : Int) : Decidable (rowsOk d w) := inferInstanceAs (Decidable (∀ k, k < d.length → ((d.getD k []).length : Int) = w))
end Go.Proofs.YtbcfmhoaocifoaaDoor
