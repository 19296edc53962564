/-
  Own work. Chapter 01, plain part: dots, distances.
-/
import Derived.Test.YtbdmehgppgfiaaaP01a
set_option linter.unusedSimpArgs false
set_option linter.unusedVariables false
set_option maxRecDepth 100000
set_option linter.unusedSimpArgs false
set_option linter.unusedVariables false
namespace Go.Proofs.Ytbdmehgppgfiaaa
open Go.Abs

theorem wrap_u8 {n : Int} (h : 0 ≤ n ∧ n ≤ 255) : IntKind.wrap .u8 n = n := by
  simp only [IntKind.wrap, IntKind.signed, IntKind.bits]
  simp
  omega
theorem tmod64 (n : Int) (h : 0 ≤ n ∧ n ≤ 255) : ∃ c : Nat, c < 64 ∧ Int.tmod n 64 = c := by
  have := Int.tmod_eq_emod_of_nonneg (b := 64) h.1
  exact ⟨(n % 64).toNat, by omega, by omega⟩

/- Distances. -/
def D (a b : Nat) : Int := (f_cell_Distance a b).getD 0
theorem f_D (a b : Nat) (ha : a < 64) (hb : b < 64) : f_cell_Distance a b = some (D a b) ∧ f_R01_Distance a b = some (D a b) ∧ D a b = D (a ^^^ b) 0 ∧ D b a = D a b ∧ (D a b = 0 ↔ a = b) ∧ 0 ≤ D a b ∧ D a b ≤ 6 := by
  have := all_of2 (n := 64) (m := 64) (p := fun a b => decide (f_cell_Distance a b = some (D a b) ∧ f_R01_Distance a b = some (D a b) ∧ D a b = D (a ^^^ b) 0 ∧ D b a = D a b ∧ (D a b = 0 ↔ a = b) ∧ 0 ≤ D a b ∧ D a b ≤ 6)) (by kernel_rfl) a b ha hb
  simpa using this
theorem D_add (u v : Nat) (ha : u < 64) (hb : v < 64) : D (u ^^^ v) 0 ≤ D u 0 + D v 0 := by
  have := all_of2 (n := 64) (m := 64) (p := fun u v => decide (D (u ^^^ v) 0 ≤ D u 0 + D v 0)) (by kernel_rfl) u v ha hb
  simpa using this
theorem xor_lt (a b : Nat) (ha : a < 64) (hb : b < 64) : a ^^^ b < 64 := Nat.xor_lt_two_pow (n := 6) ha hb
theorem D_tri (a b c : Nat) (ha : a < 64) (hb : b < 64) (hc : c < 64) : D a b ≤ D a c + D c b := by
  have h1 := (f_D a b ha hb).2.2.1
  have h2 := (f_D a c ha hc).2.2.1
  have h3 := (f_D c b hc hb).2.2.1
  have h4 := D_add (a ^^^ c) (c ^^^ b) (xor_lt a c ha hc) (xor_lt c b hc hb)
  rw [show (a ^^^ c) ^^^ (c ^^^ b) = a ^^^ b from by rw [Nat.xor_assoc, ← Nat.xor_assoc c c b, Nat.xor_self, Nat.zero_xor]] at h4
  omega
def M (a : Nat) : Nat := ((f_cell_Mirror a).getD 0).toNat
theorem f_M (a : Nat) (ha : a < 64) : f_cell_Mirror a = some ((M a : Nat) : Int) ∧ f_R01_Mirror a = some ((M a : Nat) : Int) ∧ M a < 64 ∧ M (M a) = a ∧ D (M a) 0 = D a 0 := by
  have := all_of (n := 64) (p := fun a => decide (f_cell_Mirror a = some ((M a : Nat) : Int) ∧ f_R01_Mirror a = some ((M a : Nat) : Int) ∧ M a < 64 ∧ M (M a) = a ∧ D (M a) 0 = D a 0)) (by kernel_rfl) a ha
  simpa using this
theorem D_M (a b : Nat) (ha : a < 64) (hb : b < 64) : D (M a) (M b) = D a b := by
  have := all_of2 (n := 64) (m := 64) (p := fun a b => decide (D (M a) (M b) = D a b)) (by kernel_rfl) a b ha hb
  simpa using this

/- Costs. -/
/-- The cost of what differs in the dots `u`, where those of `m` are doubtful. -/
def C (m u : Nat) : Int := (f_bits_OnesCount8 (bAndNot .u8 u m)).getD 0
theorem bXor_nat (a b : Nat) (ha : a < 64) (hb : b < 64) : bXor .u8 a b = ((a ^^^ b : Nat) : Int) := by
  have := all_of2 (n := 64) (m := 64) (p := fun a b => decide (bXor .u8 a b = ((a ^^^ b : Nat) : Int))) (by kernel_rfl) a b ha hb
  simpa using this
theorem f_C (m u : Nat) (hm : m < 64) (hu : u < 64) : f_bits_OnesCount8 (bAndNot .u8 u m) = some (C m u) ∧ 0 ≤ C m u ∧ C m u ≤ D u 0 ∧ D u 0 ≤ C m u + D m 0 ∧ C m u = (List.range 6).countP (fun i => !m.testBit i && u.testBit i) := by
  have := all_of2 (n := 64) (m := 64) (p := fun m u => decide (f_bits_OnesCount8 (bAndNot .u8 u m) = some (C m u) ∧ 0 ≤ C m u ∧ C m u ≤ D u 0 ∧ D u 0 ≤ C m u + D m 0 ∧ C m u = (List.range 6).countP (fun i => !m.testBit i && u.testBit i))) (by kernel_rfl) m u hm hu
  simpa using this
theorem f_has (c : Nat) (hc : c < 64) (k : Nat) (hk : k < 6) : f_R01_Has c ((k : Int) + 1) = some (c.testBit k) := by
  have := all_of2 (n := 64) (m := 6) (p := fun c k => decide (f_R01_Has c ((k : Int) + 1) = some (c.testBit k))) (by kernel_rfl) c k hc hk
  simpa using this
end Go.Proofs.Ytbdmehgppgfiaaa
