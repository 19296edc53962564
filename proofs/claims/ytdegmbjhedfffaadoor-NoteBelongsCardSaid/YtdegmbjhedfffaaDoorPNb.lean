/-
  Own work. Numbers, plain part: what is written can be told apart.
-/
import Derived.Test.YtdegmbjhedfffaaDoorPNa
set_option linter.unusedSimpArgs false
set_option linter.unusedVariables false
set_option maxRecDepth 100000
set_option linter.unusedSimpArgs false
set_option linter.unusedVariables false
namespace Go.Proofs.YtdegmbjhedfffaaDoor
open Go.Abs
theorem all_of {n : Nat} {p : Nat → Bool} (h : (List.range n).all p = true) (k : Nat) (hk : k < n) : p k = true := List.all_eq_true.1 h k (List.mem_range.2 hk)
theorem decs_val : ∀ (k n : Nat), n < 10 ^ k → 0 < k → (decs k n).foldl (fun a x => 10 * a + (x - 48)) 0 = (n : Int)
  | 0, n, h, h0 => by omega
  | k + 1, n, h, _ => by
    rw [decs]
    by_cases hn : n < 10
    · rw [if_pos hn]; simp; omega
    · rw [if_neg hn]
      have hk : 0 < k := by
        rcases Nat.eq_zero_or_pos k with e | e
        · subst e; simp at h; omega
        · exact e
      have h1 : n / 10 < 10 ^ k := by rw [Nat.div_lt_iff_lt_mul (by omega)]; rw [Nat.pow_succ] at h; exact h
      rw [List.foldl_append, decs_val k (n / 10) h1 hk]
      simp only [List.foldl_cons, List.foldl_nil]
      omega
def inv (c : Int) : Int := 48 + ((tab_number_digits.idxOf c : Nat) : Int)
theorem inv_dg (d : Nat) (h : d < 10) : inv (dg d) = 48 + (d : Int) ∧ dg d ≠ 48 ∧ dg d ≠ 0 ∧ dg d ≠ 60 ∧ 0 ≤ dg d ∧ dg d < 64 := by
  have := all_of (n := 10) (p := fun d => decide (inv (dg d) = 48 + (d : Int) ∧ dg d ≠ 48 ∧ dg d ≠ 0 ∧ dg d ≠ 60 ∧ 0 ≤ dg d ∧ dg d < 64)) (by kernel_rfl) d h
  simpa using this
theorem wr_inv (n : Nat) : (wr n).tail.map inv = decs 5 n := by
  unfold wr
  rw [List.tail_cons, List.map_map]
  conv => rhs; rw [← List.map_id (decs 5 n)]
  refine List.map_congr_left fun x hx => ?_
  have h := decs_in 5 n x hx
  simp only [Function.comp, id]
  rw [(inv_dg (x - 48).toNat (by omega)).1]
  omega
theorem wr_inj (a b : Nat) (ha : a ≤ 99999) (hb : b ≤ 99999) (h : wr a = wr b) : a = b := by
  have h1 : decs 5 a = decs 5 b := by rw [← wr_inv, ← wr_inv, h]
  have h2 := decs_val 5 a (by omega) (by omega)
  rw [h1, decs_val 5 b (by omega) (by omega)] at h2
  omega
theorem wr_cells (n : Nat) (c : Int) (h : c ∈ wr n) : c ≠ 48 ∧ c ≠ 0 ∧ 0 ≤ c ∧ c < 64 := by
  unfold wr at h
  rcases List.mem_cons.1 h with rfl | h
  · decide
  · obtain ⟨x, hx, rfl⟩ := List.mem_map.1 h
    have := decs_in 5 n x hx
    have := inv_dg (x - 48).toNat (by omega)
    exact ⟨this.2.1, this.2.2.1, this.2.2.2.2.1, this.2.2.2.2.2⟩
theorem wr_len (n : Nat) : 2 ≤ (wr n).length ∧ (wr n).length ≤ 6 := by
  unfold wr
  have := decs_len 5 n
  have h1 : 1 ≤ (decs 5 n).length := by
    rw [decs]; split <;> simp
  simp
  omega
end Go.Proofs.YtdegmbjhedfffaaDoor
