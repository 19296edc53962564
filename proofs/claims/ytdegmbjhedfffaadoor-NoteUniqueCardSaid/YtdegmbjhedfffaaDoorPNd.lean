/-
  Own work. Numbers, plain part: the reference writes the same.
-/
import Derived.Test.YtdegmbjhedfffaaDoorPNb
set_option linter.unusedSimpArgs false
set_option linter.unusedVariables false
set_option maxRecDepth 100000
set_option linter.unusedSimpArgs false
set_option linter.unusedVariables false
namespace Go.Proofs.YtdegmbjhedfffaaDoor
open Go.Abs
theorem decs_fuel : ∀ (k n : Nat), n < 10 ^ k → 0 < k → decs (k + 1) n = decs k n
  | 0, n, h, h0 => by omega
  | k + 1, n, h, _ => by
    have e1 : ∀ k, decs (k + 1) n = if n < 10 then [48 + (n : Int)] else decs k (n / 10) ++ [48 + ((n % 10 : Nat) : Int)] := fun k => by rw [decs]
    rw [e1, e1]
    by_cases hn : n < 10
    · rw [if_pos hn, if_pos hn]
    · have hk : 0 < k := by
        rcases Nat.eq_zero_or_pos k with e | e
        · subst e; simp at h; omega
        · exact e
      have h1 : n / 10 < 10 ^ k := by rw [Nat.div_lt_iff_lt_mul (by omega)]; rw [Nat.pow_succ] at h; exact h
      rw [if_neg hn, if_neg hn, decs_fuel k (n / 10) h1 hk]
theorem decs_ten (n : Nat) (h : 10 ≤ n) (h1 : n < 100000) : decs 5 n = decs 5 (n / 10) ++ [48 + ((n % 10 : Nat) : Int)] := by
  rw [decs, if_neg (by omega), decs_fuel 4 (n / 10) (by omega) (by omega)]
theorem decs_one (n : Nat) (h : n < 10) : decs 5 n = [48 + (n : Int)] := by rw [decs, if_pos h]
theorem f_digit (d : Nat) (h : d < 10) : f_R19_Digit d = some (dg d) := by
  have := all_of (n := 10) (p := fun d => decide (f_R19_Digit d = some (dg d))) (by kernel_rfl) d h
  simpa using this
theorem refWrite_step (n p : Nat) (v : List Int) (loop : (List Int) × Int → Option ((List Int) × Int)) (hp : 0 < p) (hp2 : p ≤ 10000) (hn : n ≤ 99999) (hv : v.length ≤ 10) :
    f_R19_Write_b1 n loop v (p : Int) = if 1 ≤ n / p ∨ p = 1 then loop (v ++ [dg (n / p % 10)], ((p / 10 : Nat) : Int)) else loop (v, ((p / 10 : Nat) : Int)) := by
  unfold f_R19_Write_b1
  have e1 : Int.tdiv (p : Int) 10 = ((p / 10 : Nat) : Int) := by rw [Int.tdiv_eq_ediv_of_nonneg (by omega)]; rfl
  have e2 : Int.tdiv (n : Int) (p : Int) = ((n / p : Nat) : Int) := by rw [Int.tdiv_eq_ediv_of_nonneg (by omega)]; rfl
  have hq0 : (0 : Int) ≤ ((n / p : Nat) : Int) := Int.natCast_nonneg _
  have e3 : Int.tmod ((n / p : Nat) : Int) 10 = ((n / p % 10 : Nat) : Int) := by rw [Int.tmod_eq_emod_of_nonneg hq0]; rfl
  have hle : n / p ≤ n := Nat.div_le_self n p
  have hiff : 1 ≤ n / p ↔ p ≤ n := by rw [Nat.le_div_iff_mul_le hp]; omega
  have hk : ∀ x, f_R19_Write_k1 loop (p : Int) x = loop (x, ((p / 10 : Nat) : Int)) := fun x => by
    unfold f_R19_Write_k1
    rw [e1, G_inR (by omega)]
  rw [cond_pos (by simp; omega), hk, e2, e3]
  by_cases h : 1 ≤ n / p ∨ p = 1
  · rw [if_pos h, cond_pos (b := cond _ _ _) (by rw [hiff] at h; rcases h with h | h <;> simp [h]), G_pos (by omega), G_inR (by generalize n / p = q at hle hq0 ⊢; omega), bind_some' (f_digit _ (by omega)), G_room (by omega), hk]
  · rw [if_neg h, cond_neg (b := cond _ _ _) (by rw [hiff] at h; simp; omega)]
/-- What is written of a number, nothing for zero. -/
def wz (m : Nat) : List Int := if m = 0 then [] else (decs 5 m).map fun x => dg (x - 48).toNat
theorem wz_step (m : Nat) (h : 1 ≤ m) (h1 : m < 100000) : wz (m / 10) ++ [dg (m % 10)] = wz m := by
  unfold wz
  rw [if_neg (show ¬ m = 0 by omega)]
  by_cases hm : m < 10
  · rw [if_pos (by omega), decs_one m hm]
    simp
    rw [show ((48 : Int) + (m : Int) - 48).toNat = m from by omega, Nat.mod_eq_of_lt hm]
  · rw [if_neg (by omega), decs_ten m (by omega) h1, List.map_append]
    simp only [List.map_cons, List.map_nil]
    rw [show ((48 : Int) + ((m % 10 : Nat) : Int) - 48).toNat = m % 10 from by omega]
theorem f_refWrite (n : Nat) (hn : n ≤ 99999) : f_R19_Write n = some (wr n, 0) := by
  have step : ∀ (f p : Nat), 0 < p → p ≤ 10000 → ∀ q, q = p / 10 → (p = 1 ∨ n / p / 10 = n / (p * 10)) →
      (p ≠ 1 → iter (fun loop (s : (List Int) × Int) => f_R19_Write_b1 n loop s.1 s.2) (f + 1) (60 :: wz (n / (p * 10)), (p : Int)) = iter (fun loop (s : (List Int) × Int) => f_R19_Write_b1 n loop s.1 s.2) f (60 :: wz (n / p), (q : Int))) := by
    intro f p hp hp2 q hq hdd hne
    rw [iter_succ]
    dsimp only
    have hle : n / p ≤ n := Nat.div_le_self n p
    have hlen : (wz (n / (p * 10))).length ≤ 5 := by
      unfold wz; split
      · simp
      · have := decs_len 5 (n / (p * 10)); simpa using this
    rw [refWrite_step n p _ _ hp hp2 hn (by simp; omega), hq]
    have hd : n / (p * 10) = n / p / 10 := (Nat.div_div_eq_div_mul n p 10).symm
    by_cases h : 1 ≤ n / p
    · rw [if_pos (.inl h), hd, List.cons_append, wz_step (n / p) h (by omega)]
    · have hz : n / p = 0 := by generalize n / p = q at h; omega
      rw [if_neg (fun x => x.elim h hne), hd, hz]
  unfold f_R19_Write
  rw [cond_neg (b := cond _ _ _) (by simp; omega)]
  have h0 : wz (n / (10000 * 10)) = [] := by rw [show n / (10000 * 10) = 0 from by omega]; rfl
  have s1 := step 999999 10000 (by omega) (by omega) 1000 rfl (.inr (by omega)) (by omega)
  have s2 := step 999998 1000 (by omega) (by omega) 100 rfl (.inr (by omega)) (by omega)
  have s3 := step 999997 100 (by omega) (by omega) 10 rfl (.inr (by omega)) (by omega)
  have s4 := step 999996 10 (by omega) (by omega) 1 rfl (.inr (by omega)) (by omega)
  rw [h0] at s1
  rw [show (1000 : Nat) * 10 = 10000 from rfl] at s2
  rw [show (100 : Nat) * 10 = 1000 from rfl] at s3
  rw [show (10 : Nat) * 10 = 100 from rfl] at s4
  refine s1.trans (s2.trans (s3.trans (s4.trans ?_)))
  rw [iter_succ]
  dsimp only
  have hlen : (wz (n / 10)).length ≤ 5 := by
    unfold wz; split
    · simp
    · have := decs_len 5 (n / 10); simpa using this
  rw [refWrite_step n 1 _ _ (by omega) (by omega) hn (by simp; omega), if_pos (.inr rfl), Nat.div_one, iter_succ, f_R19_Write_b1]
  dsimp only
  rw [cond_neg (by rfl)]
  congr 2
  unfold wr
  rw [List.cons_append]
  congr 1
  by_cases h : 1 ≤ n
  · rw [wz_step n h (by omega)]
    unfold wz
    rw [if_neg (by omega)]
  · rw [show n = 0 from by omega]; kernel_rfl
theorem f_refWrite_bad (n : Int) (hn : n < 0 ∨ 99999 < n) : f_R19_Write n = some ([], 190) := by
  unfold f_R19_Write
  rw [cond_pos (b := cond _ _ _) (by rcases hn with h | h <;> simp [h])]
end Go.Proofs.YtdegmbjhedfffaaDoor
