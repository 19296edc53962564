/- Own work. -/
import Derived.Test.YtkgfbpbndmklnaaDoorPl2
set_option linter.unusedSimpArgs false
set_option linter.unusedVariables false
namespace Go.Abs
def WP {α : Type} (t : Option α) (Q : α → Prop) : Prop := ∃ a, t = some a ∧ Q a
theorem WP.some {α : Type} {a : α} {Q : α → Prop} (h : Q a) : WP (some a) Q := ⟨a, rfl, h⟩
theorem WP.G {α : Type} {p : Prop} [Decidable p] {x : Option α} {Q : α → Prop} (h : p) (k : WP x Q) : WP (G p x) Q := by
  rw [Y2y h]
  exact k
theorem WP.bind {α β : Type} {o : Option α} {a : α} {f : α → Option β} {Q : β → Prop} (h : o = Option.some a) (k : WP (f a) Q) : WP (o.bind f) Q := by
  rw [h]
  exact k
theorem WP.cond {α : Type} {b : Bool} {x y : Option α} {Q : α → Prop} (h1 : b = true → WP x Q) (h2 : b = false → WP y Q) : WP (cond b x y) Q := by
  cases b
  · exact h2 rfl
  · exact h1 rfl
theorem WP.of {α : Type} {t : Option α} {a : α} (h : t = Option.some a) : WP t (· = a) := ⟨a, h, rfl⟩
end Go.Abs
