/-
 Own work. Chapter 25, plain part: plates with some dots; the law SheetPlates.
-/
import Derived.Test.YtbcfmhoaocifoaaDoorP25i
set_option linter.unusedSimpArgs false
set_option linter.unusedVariables false
set_option maxRecDepth 10000
set_option linter.unusedSimpArgs false
set_option linter.unusedVariables false
namespace Go.Proofs.YtbcfmhoaocifoaaDoor
open Go.Abs
theorem tmodN (a : Int) (n : Nat) (h : 0 ≤ a) (hn : 0 < n) : ∃ m : Nat, Int.tmod a (n : Int) = (m : Int) ∧ m < n := by
 obtain ⟨b, rfl⟩ := nat_of h
 exact ⟨b % n, by rw [Int.tmod_eq_emod_of_nonneg (by omega)]; rfl, Nat.mod_lt _ hn⟩
def rev (W : Nat) (v : Nat → Nat → Bool) : Nat → Nat → Bool := fun y x => v y (W - 1 - x)
end Go.Proofs.YtbcfmhoaocifoaaDoor
