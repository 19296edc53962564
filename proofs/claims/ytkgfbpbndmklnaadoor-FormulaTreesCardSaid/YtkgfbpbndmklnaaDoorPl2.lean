/- Own work. -/
import Derived.Test.YtkgfbpbndmklnaaDoorPl
set_option linter.unusedSimpArgs false
set_option linter.unusedVariables false
namespace Go.Abs
theorem Y3c {p : Prop} [Decidable p] {α : Type} {x y : α} (h : p) : cond (decide p) x y = x := by rw [decide_eq_true h]; rfl
theorem Y28 {p : Prop} [Decidable p] {α : Type} {x y : α} (h : ¬ p) : cond (decide p) x y = y := by rw [decide_eq_false h]; rfl
theorem cb_pos {α : Type} {a b : Int} {x y : α} (h : a = b) : cond (a == b) x y = x := by rw [beq_iff_eq.2 h]; rfl
theorem cb_neg {α : Type} {a b : Int} {x y : α} (h : ¬ a = b) : cond (a == b) x y = y := by rw [beq_eq_false_iff_ne.2 h]; rfl
theorem cn_neg {α : Type} {a b : Int} {x y : α} (h : a = b) : cond (a != b) x y = y := by rw [h, bne_self_eq_false]; rfl
end Go.Abs
