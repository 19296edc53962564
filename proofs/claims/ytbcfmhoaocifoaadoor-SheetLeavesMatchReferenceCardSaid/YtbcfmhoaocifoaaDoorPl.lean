/- Own work. -/
import Derived.Test.YtbcfmhoaocifoaaDoorLibC
set_option linter.unusedSimpArgs false
set_option linter.unusedVariables false
namespace Go.Abs
theorem Yx {n : Int} {α : Type} {x : Option α} (h : -9223372036854775808 ≤ n ∧ n ≤ 9223372036854775807) : G (inR n) x = x := if_pos h
theorem Y4s {b n : Nat} {α : Type} {x : Option α} (h : n * b ≤ 140737488355328 ∧ n ≤ 140737488355328) : G (room b n) x = x := if_pos h
theorem G_imp {c : Bool} {p : Prop} [Decidable p] {α : Type} {x : Option α} (h : c = true → p) : G (c = true → p) x = x := if_pos h
theorem inR_of {n : Int} (h : -9223372036854775808 ≤ n ∧ n ≤ 9223372036854775807) : inR n := h
theorem Yv {α β : Type} {o : Option α} {a : α} {f : α → Option β} (h : o = some a) : o.bind f = f a := by rw [h]; rfl
theorem Y03 {b : Bool} {α : Type} {x y : α} (h : b = true) : cond b x y = x := by rw [h]; rfl
theorem Y00 {b : Bool} {α : Type} {x y : α} (h : b = false) : cond b x y = y := by rw [h]; rfl
theorem Y2g {n : Int} (h : -9223372036854775808 ≤ n ∧ n ≤ 9223372036854775807) : IntKind.wrap .i64 n = n := IntWalk.i64_in n h
theorem getD_drop {α : Type} (l : List α) (i : Nat) (d : α) (h : i < l.length) : l.drop i = l.getD i d :: l.drop (i + 1) := by
 rw [X11 h]
 simp [Xc, X4 h]
end Go.Abs
