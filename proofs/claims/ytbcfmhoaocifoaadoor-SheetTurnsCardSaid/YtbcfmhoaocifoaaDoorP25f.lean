/-
  Own work. Chapter 25, plain part: grids from cells; Press.
-/
import Derived.Test.YtbcfmhoaocifoaaDoorP25e
set_option linter.unusedSimpArgs false
set_option linter.unusedVariables false
set_option maxRecDepth 10000
set_option linter.unusedSimpArgs false
set_option linter.unusedVariables false
namespace Go.Proofs.YtbcfmhoaocifoaaDoor
open Go.Abs
theorem tabY (k : Nat) (h : k < 6) : (tabS_0.getD k zS_Point).Y = ((k % 3 : Nat) : Int) := by
  match k, h with
  | 0, _ => rfl
  | 1, _ => rfl
  | 2, _ => rfl
  | 3, _ => rfl
  | 4, _ => rfl
  | 5, _ => rfl
theorem tabX (k : Nat) (h : k < 6) : (tabS_0.getD k zS_Point).X = ((k / 3 : Nat) : Int) := by
  match k, h with
  | 0, _ => rfl
  | 1, _ => rfl
  | 2, _ => rfl
  | 3, _ => rfl
  | 4, _ => rfl
  | 5, _ => rfl
def prog (r i k y x : Nat) : Prop := y / 3 < r ∨ (y / 3 = r ∧ (x / 2 < i ∨ (x / 2 = i ∧ x % 2 * 3 + y % 3 < k)))
instance (r i k y x : Nat) : Decidable (prog r i k y x) := inferInstanceAs (Decidable (y / 3 < r ∨ (y / 3 = r ∧ (x / 2 < i ∨ (x / 2 = i ∧ x % 2 * 3 + y % 3 < k)))))
def sizeOk (w h : Int) : Prop := 24 ≤ w ∧ w ≤ 60 ∧ 4 ≤ h ∧ h ≤ 40
instance (w h : Int) : Decidable (sizeOk w h) := inferInstanceAs (Decidable (24 ≤ w ∧ w ≤ 60 ∧ 4 ≤ h ∧ h ≤ 40))
end Go.Proofs.YtbcfmhoaocifoaaDoor
