/- Own work. -/
import Derived.Test.YtbcfmhoaocifoaaDoorPl2
set_option linter.unusedSimpArgs false
set_option linter.unusedVariables false
namespace Go.Abs
theorem iter_ind {S R : Type} {b : (S → Option R) → S → Option R} (I : S → Prop) (μ : S → Nat) (F : S → Option R)
  (h : ∀ (loop : S → Option R) (s : S), I s → (∀ s', I s' → μ s' < μ s → loop s' = F s') → b loop s = F s) :
  ∀ (n : Nat) (s : S), I s → μ s < n → iter b n s = F s
 | 0, s, _, hn => absurd hn (by omega)
 | n + 1, s, hi, hn => h _ s hi fun s' hi' hm => iter_ind I μ F h n s' hi' (by omega)
def WP {α : Type} (t : Option α) (Q : α → Prop) : Prop := ∃ a, t = some a ∧ Q a
theorem WP.some {α : Type} {a : α} {Q : α → Prop} (h : Q a) : WP (some a) Q := ⟨a, rfl, h⟩
theorem WP.bind {α β : Type} {o : Option α} {a : α} {f : α → Option β} {Q : β → Prop} (h : o = Option.some a) (k : WP (f a) Q) : WP (o.bind f) Q := by
 rw [h]
 exact k
theorem WP.cond {α : Type} {b : Bool} {x y : Option α} {Q : α → Prop} (h1 : b = true → WP x Q) (h2 : b = false → WP y Q) : WP (cond b x y) Q := by
 cases b
 ·exact h2 rfl
 ·exact h1 rfl
theorem WP.iter {S R : Type} {b : (S → Option R) → S → Option R} {Q : R → Prop} (I : S → Prop) (μ : S → Nat)
  (h : ∀ (loop : S → Option R) (s : S), I s → (∀ s', I s' → μ s' < μ s → WP (loop s') Q) → WP (b loop s) Q) :
  ∀ (n : Nat) (s : S), I s → μ s < n → WP (iter b n s) Q
 | 0, s, _, hn => absurd hn (by omega)
 | n + 1, s, hi, hn => h _ s hi fun s' hi' hm => WP.iter I μ h n s' hi' (by omega)
theorem nat_of {x : Int} (h : 0 ≤ x) : ∃ k : Nat, x = (k : Int) := ⟨x.toNat, by omega⟩
theorem Y11 (k : Nat) : (k : Int) + 1 = ((k + 1 : Nat) : Int) := by omega
end Go.Abs
