/-
  Own work. Chapter 01, plain part: tables.
-/
import Derived.Test.YtbdmehgppgfiaaaPl
import Derived.Test.YtbdmehgppgfiaaaW3
set_option linter.unusedSimpArgs false
set_option linter.unusedVariables false
set_option maxRecDepth 100000
set_option linter.unusedSimpArgs false
set_option linter.unusedVariables false
namespace Go.Proofs.Ytbdmehgppgfiaaa
open Go.Abs
theorem sanity_true : f_L01_sanity = some true := by kernel_rfl
theorem all_of {n : Nat} {p : Nat → Bool} (h : (List.range n).all p = true) (k : Nat) (hk : k < n) : p k = true := List.all_eq_true.1 h k (List.mem_range.2 hk)
theorem all_of2 {n m : Nat} {p : Nat → Nat → Bool} (h : ((List.range n).all fun a => (List.range m).all (p a)) = true) (a b : Nat) (ha : a < n) (hb : b < m) : p a b = true := all_of (all_of h a ha) b hb
def tbl : List Int := [255, 255, 255, 255, 255, 255, 255, 255, 255, 255, 255, 255, 255, 255, 255, 255, 255, 255, 255, 255, 255, 255, 255, 255, 255, 255, 255, 255, 255, 255, 255, 255, 0, 46, 16, 60, 43, 41, 47, 4, 55, 62, 33, 44, 32, 36, 40, 12, 52, 2, 6, 18, 50, 34, 22, 54, 38, 20, 49, 48, 35, 63, 28, 57, 8, 1, 3, 9, 25, 17, 11, 27, 19, 10, 26, 5, 7, 13, 29, 21, 15, 31, 23, 14, 30, 37, 39, 58, 45, 61, 53, 42, 51, 59, 24, 56, 255, 255, 255, 255, 255, 255, 255, 255, 255, 255, 255, 255, 255, 255, 255, 255, 255, 255, 255, 255, 255, 255, 255, 255, 255, 255, 255, 255, 255, 255, 255, 255, 255, 255, 255, 255, 255, 255, 255, 255, 255, 255, 255, 255, 255, 255, 255, 255, 255, 255, 255, 255, 255, 255, 255, 255, 255, 255, 255, 255, 255, 255, 255, 255, 255, 255, 255, 255, 255, 255, 255, 255, 255, 255, 255, 255, 255, 255, 255, 255, 255, 255, 255, 255, 255, 255, 255, 255, 255, 255, 255, 255, 255, 255, 255, 255, 255, 255, 255, 255, 255, 255, 255, 255, 255, 255, 255, 255, 255, 255, 255, 255, 255, 255, 255, 255, 255, 255, 255, 255, 255, 255, 255, 255, 255, 255, 255, 255, 255, 255, 255, 255, 255, 255, 255, 255, 255, 255, 255, 255, 255, 255, 255, 255, 255, 255, 255, 255, 255, 255, 255, 255, 255, 255, 255, 255, 255, 255, 255, 255]
theorem byBytes_eq : f_cell_byBytes = some tbl := by kernel_rfl
theorem tbl_len : tbl.length = 256 := by kernel_rfl
/-- What a byte is read as. -/
def fa (b : Nat) : Int × Int := if tbl.getD b 0 = 255 then (0, 10) else (tbl.getD b 0, 0)
theorem f_fa (b : Nat) (hb : b < 256) : f_cell_FromAscii b = some (fa b) := by
  unfold f_cell_FromAscii fa
  rw [bind_some' byBytes_eq, G_pos (by omega), G_pos tbl_len]
  simp only [Int.toNat_natCast]
  by_cases h : tbl.getD b 0 = 255
  · rw [if_pos h, cond_pos (by rw [h]; rfl)]
  · rw [if_neg h, cond_neg (by simpa using h)]
theorem f_refFa (b : Nat) (hb : b < 256) : f_R01_FromAscii b = some (fa b) := by
  have := all_of (n := 256) (p := fun b => decide (f_R01_FromAscii b = some (fa b))) (by kernel_rfl) b hb
  simpa using this
/-- The dots and the character of a cell. -/
def dots (c : Nat) : ByteArray := (f_cell_Dots c).getD ByteArray.empty
def asc (c : Nat) : Int := (f_cell_Ascii c).getD 0
theorem f_dots (c : Nat) (hc : c < 64) : f_cell_Dots c = some (dots c) := by
  have := all_of (n := 64) (p := fun c => (f_cell_Dots c).isSome) (by kernel_rfl) c hc
  obtain ⟨x, hx⟩ := Option.isSome_iff_exists.1 this
  unfold dots; rw [hx]; rfl
theorem f_refDots (c : Nat) (hc : c < 64) : f_R01_Dots c = some (dots c) := by
  have := all_of (n := 64) (p := fun c => decide ((f_R01_Dots c).map (fun x => x.data.toList) = some (dots c).data.toList)) (by kernel_rfl) c hc
  simp only [decide_eq_true_eq] at this
  cases hx : f_R01_Dots c with
  | none => rw [hx] at this; cases this
  | some x =>
    rw [hx] at this
    simp only [Option.map_some, Option.some.injEq] at this
    rw [WideShapes.bytes_inj this]
theorem f_asc (c : Nat) (hc : c < 64) : f_cell_Ascii c = some (asc c) ∧ f_R01_Ascii c = some (asc c) ∧ fa (asc c).toNat = ((c : Int), 0) ∧ 0 ≤ asc c ∧ asc c < 256 := by
  have := all_of (n := 64) (p := fun c => decide (f_cell_Ascii c = some (asc c) ∧ f_R01_Ascii c = some (asc c) ∧ fa (asc c).toNat = ((c : Int), 0) ∧ 0 ≤ asc c ∧ asc c < 256)) (by kernel_rfl) c hc
  simpa using this
theorem fa_asc (b : Nat) (hb : b < 256) : fa b = (0, 10) ∨ ∃ c : Nat, c < 64 ∧ fa b = ((c : Int), 0) ∧ asc c = b := by
  have := all_of (n := 256) (p := fun b => decide (fa b = (0, 10) ∨ ((fa b).1.toNat < 64 ∧ fa b = (((fa b).1.toNat : Int), 0) ∧ asc (fa b).1.toNat = b))) (by kernel_rfl) b hb
  simp only [decide_eq_true_eq] at this
  rcases this with h | ⟨h1, h2, h3⟩
  · exact .inl h
  · exact .inr ⟨_, h1, h2, h3⟩
end Go.Proofs.Ytbdmehgppgfiaaa
