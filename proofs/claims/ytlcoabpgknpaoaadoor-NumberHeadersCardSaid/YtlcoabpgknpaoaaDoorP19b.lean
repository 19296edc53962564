/-
  Own work. Chapter 19, plain part: what is written can be told apart.
-/
import Derived.Test.YtlcoabpgknpaoaaDoorP19a
set_option linter.unusedSimpArgs false
set_option linter.unusedVariables false
set_option maxRecDepth 100000
set_option linter.unusedSimpArgs false
set_option linter.unusedVariables false
namespace Go.Proofs.YtlcoabpgknpaoaaDoor
open Go.Abs
theorem all_of {n : Nat} {p : Nat → Bool} (h : (List.range n).all p = true) (k : Nat) (hk : k < n) : p k = true := List.all_eq_true.1 h k (List.mem_range.2 hk)
theorem decs_val : ∀ (k n : Nat), n < 10 ^ k → 0 < k → (decs k n).foldl (fun a x => 10 * a + (x - 48)) 0 = (n : Int)
  | 0, n, h, h0 => by omega
  | k + 1, n, h, _ => by
    rw [decs]
    by_cases hn : n < 10
    · rw [if_pos hn]; simp; omega
    · rw [if_neg hn]
      have hk : 0 < k := by
        rcases Nat.eq_zero_or_pos k with e | e
        · subst e; simp at h; omega
        · exact e
      have h1 : n / 10 < 10 ^ k := by rw [Nat.div_lt_iff_lt_mul (by omega)]; rw [Nat.pow_succ] at h; exact h
      rw [List.foldl_append, decs_val k (n / 10) h1 hk]
      simp only [List.foldl_cons, List.foldl_nil]
      omega
def inv (c : Int) : Int := 48 + ((tab_number_digits.idxOf c : Nat) : Int)
theorem inv_dg (d : Nat) (h : d < 10) : inv (dg d) = 48 + (d : Int) ∧ dg d ≠ 48 ∧ dg d ≠ 0 ∧ dg d ≠ 60 ∧ 0 ≤ dg d ∧ dg d < 64 := by
  have := all_of (n := 10) (p := fun d => decide (inv (dg d) = 48 + (d : Int) ∧ dg d ≠ 48 ∧ dg d ≠ 0 ∧ dg d ≠ 60 ∧ 0 ≤ dg d ∧ dg d < 64)) (by kernel_rfl) d h
  simpa using this
theorem wr_inv (n : Nat) : (wr n).tail.map inv = decs 5 n := by
  unfold wr
  rw [List.tail_cons, List.map_map]
  conv => rhs; rw [← List.map_id (decs 5 n)]
  refine List.map_congr_left fun x hx => ?_
  have h := decs_in 5 n x hx
  simp only [Function.comp, id]
  rw [(inv_dg (x - 48).toNat (by omega)).1]
  omega
theorem wr_inj (a b : Nat) (ha : a ≤ 99999) (hb : b ≤ 99999) (h : wr a = wr b) : a = b := by
  have h1 : decs 5 a = decs 5 b := by rw [← wr_inv, ← wr_inv, h]
  have h2 := decs_val 5 a (by omega) (by omega)
  rw [h1, decs_val 5 b (by omega) (by omega)] at h2
  omega
theorem wr_cells (n : Nat) (c : Int) (h : c ∈ wr n) : c ≠ 48 ∧ c ≠ 0 ∧ 0 ≤ c ∧ c < 64 := by
  unfold wr at h
  rcases List.mem_cons.1 h with rfl | h
  · decide
  · obtain ⟨x, hx, rfl⟩ := List.mem_map.1 h
    have := decs_in 5 n x hx
    have := inv_dg (x - 48).toNat (by omega)
    exact ⟨this.2.1, this.2.2.1, this.2.2.2.2.1, this.2.2.2.2.2⟩
theorem wr_len (n : Nat) : 2 ≤ (wr n).length ∧ (wr n).length ≤ 6 := by
  unfold wr
  have := decs_len 5 n
  have h1 : 1 ≤ (decs 5 n).length := by
    rw [decs]; split <;> simp
  simp
  omega
/-- The mark behind the number of a page. -/
def mk (k : Nat) : List Int := if k = 0 then [] else [48, tab_number_letters.getD (k - 1) 0]
def pg (n k : Nat) (back : Bool) : List Int := wr (if back then 2 * n else 2 * n - 1) ++ mk k
theorem f_page (n k : Nat) (back : Bool) (h1 : 1 ≤ n) (h2 : n ≤ 9999) (h3 : k ≤ 2) : f_number_Page ⟨n, k⟩ back = some (pg n k back, 0) := by
  unfold f_number_Page
  rw [cond_neg (b := cond _ _ _) (by simp; omega), G_inR (by show _ ∧ _; simp; omega)]
  have key : ∀ m : Nat, m ≤ 99999 → f_number_Page_k2 ⟨n, k⟩ (m : Int) = some (wr m ++ mk k, 0) := by
    intro m hm
    have hlen := wr_len m
    unfold f_number_Page_k2
    rw [bind_some' (f_write m hm)]
    dsimp only
    by_cases hk : k = 0
    · subst hk
      rw [cond_neg (b := cond _ _ _) (by simp)]
      unfold f_number_Page_k1 mk
      simp
    · rw [cond_pos (b := cond _ _ _) (by simp; omega), G_inR (by omega), G_pos (by omega), G_room (by omega)]
      unfold f_number_Page_k1 mk
      rw [if_neg hk, show ((k : Int) - 1).toNat = k - 1 from by omega]
  cases back
  · rw [cond_pos (b := !false) rfl, G_inR (by show _ ∧ _; simp; omega)]
    have := key (2 * n - 1) (by omega)
    rw [show ((2 * n - 1 : Nat) : Int) = 2 * (n : Int) - 1 from by omega] at this
    exact this
  · rw [cond_neg (b := !true) rfl]
    have := key (2 * n) (by omega)
    rw [show ((2 * n : Nat) : Int) = 2 * (n : Int) from by omega] at this
    exact this
theorem split48 {a b s t : List Int} (ha : ∀ c ∈ a, c ≠ 48) (hb : ∀ c ∈ b, c ≠ 48) (hs : s = [] ∨ ∃ r, s = 48 :: r) (ht : t = [] ∨ ∃ r, t = 48 :: r) (h : a ++ s = b ++ t) : a = b ∧ s = t := by
  have key : ∀ (a s : List Int), (∀ c ∈ a, c ≠ 48) → (s = [] ∨ ∃ r, s = 48 :: r) → (a ++ s).takeWhile (fun c => decide (c ≠ 48)) = a := by
    intro a s ha hs
    rw [List.takeWhile_append_of_pos (fun c hc => decide_eq_true (ha c hc))]
    rcases hs with rfl | ⟨r, rfl⟩
    · simp
    · rw [List.takeWhile_cons_of_neg (by simp)]; simp
  have h1 := key a s ha hs
  rw [h, key b t hb ht] at h1
  subst h1
  exact ⟨rfl, List.append_cancel_left h⟩
end Go.Proofs.YtlcoabpgknpaoaaDoor
