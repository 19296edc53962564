/- Own work. -/
import Derived.Test.YtioockkejhpleaaDoorFm4
set_option linter.unusedSimpArgs false
set_option linter.unusedVariables false
namespace Go.Proofs.YtioockkejhpleaaDoor
open Go.Abs
def dg (d : Int) : Int := Y9.getD ((d + 9) % 10).toNat 0
def dgIf (p n : Int) : List Int := if p ≤ n then [dg (n / p % 10)] else []
def digs (n : Int) : List Int := dgIf 10000 n ++ (dgIf 1000 n ++ (dgIf 100 n ++ (dgIf 10 n ++ [dg (n % 10)])))
theorem dgIf_div {p q n : Int} (hn : 0 ≤ n) (hp : 1 ≤ p) (hq : q = p * 10) : dgIf p (n / 10) = dgIf q n := by
  subst hq
  unfold dgIf
  have e : n / 10 / p = n / (p * 10) := by rw [Int.ediv_ediv_of_nonneg (by omega), Int.mul_comm]
  rw [e]
  by_cases h : p ≤ n / 10
  · rw [if_pos h, if_pos (by omega)]
  · rw [if_neg h, if_neg (by omega)]
theorem digs_step {n : Int} (h : 10 ≤ n) (h9 : n ≤ 99999) : digs n = digs (n / 10) ++ [dg (n % 10)] := by
  have d1 : dgIf 10000 (n / 10) = dgIf 100000 n := dgIf_div (by omega) (by omega) (by omega)
  have d2 : dgIf 1000 (n / 10) = dgIf 10000 n := dgIf_div (by omega) (by omega) (by omega)
  have d3 : dgIf 100 (n / 10) = dgIf 1000 n := dgIf_div (by omega) (by omega) (by omega)
  have d4 : dgIf 10 (n / 10) = dgIf 100 n := dgIf_div (by omega) (by omega) (by omega)
  have e1 : dgIf 100000 n = [] := by unfold dgIf; rw [if_neg (by omega)]
  have e2 : dgIf 10 n = [dg (n / 10 % 10)] := by unfold dgIf; rw [if_pos h]
  show dgIf 10000 n ++ (dgIf 1000 n ++ (dgIf 100 n ++ (dgIf 10 n ++ [dg (n % 10)]))) = (dgIf 10000 (n / 10) ++ (dgIf 1000 (n / 10) ++ (dgIf 100 (n / 10) ++ (dgIf 10 (n / 10) ++ [dg (n / 10 % 10)])))) ++ [dg (n % 10)]
  rw [d1, d2, d3, d4, e1, e2, X02, Xb, Xb, Xb]
theorem digs_one {n : Int} (h0 : 0 ≤ n) (h : n < 10) : digs n = [dg n] := by
  unfold digs dgIf
  rw [if_neg (by omega), if_neg (by omega), if_neg (by omega), if_neg (by omega), Int.emod_eq_of_lt h0 h]
  rfl
theorem lin_last {f : List Y4} {i : Nat} {l : List Int} (n : Int) (c : List Int) (hn : 0 ≤ n) (hc : c.length + 1 ≤ 10000000) : Y00 n (W f i l c) = some (W f i l (c ++ [dg (n % 10)])) := by
  have h1 : Int.tmod n 10 = n % 10 := tmod_n hn 10
  have h2 : Int.tmod (n % 10 + 9) 10 = (n % 10 + 9) % 10 := tmod_n (by omega) 10
  unfold Y00
  rw [h1, h2, Y09 (by omega), Y01 (by omega)]
  rw [Y4n (by simp only [X7, X8]; omega), X0]
  rfl
theorem lin_num {f : List Y4} {i : Nat} {l : List Int} : ∀ (k m : Nat) (n : Int) (c : List Int), 0 ≤ n → n < (10 : Int) ^ (k + 1) → n ≤ 99999 → c.length + (k + 1) ≤ 10000000 →
    Yq (m + (k + 1)) (W f i l c) n = some (W f i l (c ++ digs n)) ∧ (digs n).length ≤ k + 1 := by
  intro k
  induction k with
  | zero =>
    intro m n c hn hlt h9 hc
    have h10 : n < 10 := by simpa using hlt
    rw [digs_one hn h10]
    refine ⟨?_, by simp⟩
    rw [show m + (0 + 1) = m + 1 by omega, Yq]
    unfold Y0j
    rw [Y07 (by omega)]
    have := lin_last (f := f) (i := i) (l := l) n c hn hc
    rw [Int.emod_eq_of_lt hn h10] at this
    exact this
  | succ k ih =>
    intro m n c hn hlt h9 hc
    rw [show m + (k + 1 + 1) = (m + (k + 1)) + 1 by omega, Yq]
    unfold Y0j
    by_cases h10 : 10 ≤ n
    · have hd : Int.tdiv n 10 = n / 10 := X0c hn
      have hp : (10 : Int) ^ (k + 1 + 1) = 10 ^ (k + 1) * 10 := Int.pow_succ 10 (k + 1)
      rw [hp] at hlt
      generalize hP : (10 : Int) ^ (k + 1) = P at hlt ih
      rw [Y0b h10, hd, Y09 (by omega)]
      obtain ⟨e1, e3⟩ := ih m (n / 10) c (by omega) (by omega) (by omega) (by omega)
      have e1' : Yq (m + (k + 1)) ⟨f, (i : Int), l, c, ()⟩ (n / 10) = _ := e1
      rw [e1', X0, digs_step h10 h9]
      refine ⟨?_, by simp only [X2, X7, X8]; omega⟩
      rw [← Xb]
      exact lin_last n _ hn (by simp only [X2]; omega)
    · rw [Y07 h10, digs_one hn (by omega)]
      refine ⟨?_, by simp⟩
      have := lin_last (f := f) (i := i) (l := l) n c hn (by omega)
      rw [Int.emod_eq_of_lt hn (by omega)] at this
      exact this
theorem R10_letter_ok {i : Int} (h : 0 ≤ i ∧ i < 26) : f_R10_letter i = some (Y9.getD i.toNat 0) := by
  unfold f_R10_letter
  exact Y01 h _
theorem R10_digit_ok {d : Int} (h : 0 ≤ d ∧ d < 10) : f_R10_digit d = some (dg d) := by
  unfold f_R10_digit
  rw [Y09 (by omega), tmod_n (by omega) 10, R10_letter_ok (by omega), X0]
  rfl
theorem R10_num_step {n p : Int} (hn : 0 ≤ n ∧ n ≤ 99999) (hp : 1 < p ∧ p ≤ 10000) (v : List Int) (hv : v.length ≤ 1000) (loop : List Int × Int → Option (List Int)) : f_R10_number_b1 n loop v p = loop (v ++ dgIf p n, p / 10) := by
  unfold f_R10_number_b1 f_R10_number_k1
  have ht : Int.tdiv p 10 = p / 10 := X0c (by omega)
  have c1 : (p == 1) = false := beq_eq_false_iff_ne.2 (by omega)
  rw [Y0b (by omega), c1, ht]
  unfold dgIf
  by_cases h : p ≤ n
  · have hq : Int.tdiv n p = n / p := X0c hn.1
    have hq0 : 0 ≤ n / p := Int.ediv_nonneg hn.1 (by omega)
    have hqn : n / p ≤ n := Int.ediv_le_self p hn.1
    rw [decide_eq_true h, if_pos h]
    rw [cond_true, cond_true, Y01 (by omega), hq, Y09 (by omega), tmod_n hq0, R10_digit_ok (by omega), X0, Y0e (by omega), Y09 (by omega)]
  · rw [decide_eq_false h, if_neg h]
    rw [cond_false, cond_false, Y09 (by omega), X09]
theorem R10_number_ok {n : Int} (hn : 0 ≤ n ∧ n ≤ 99999) : f_R10_number n = some (60 :: digs n) := by
  have l1 : ∀ p, (dgIf p n).length ≤ 1 := fun p => by unfold dgIf; split <;> simp
  have a1 := l1 10000
  have a2 := l1 1000
  have a3 := l1 100
  have a4 := l1 10
  unfold f_R10_number
  rw [show (1000000 : Nat) = 999994 + 1 + 1 + 1 + 1 + 1 + 1 from rfl]
  rw [Yy, R10_num_step hn (by omega) _ (by simp)]
  rw [show (10000 : Int) / 10 = 1000 from rfl, Yy, R10_num_step hn (by omega) _ (by simp only [X2, X7, X8]; omega)]
  rw [show (1000 : Int) / 10 = 100 from rfl, Yy, R10_num_step hn (by omega) _ (by simp only [X2, X7, X8]; omega)]
  rw [show (100 : Int) / 10 = 10 from rfl, Yy, R10_num_step hn (by omega) _ (by simp only [X2, X7, X8]; omega)]
  rw [show (10 : Int) / 10 = 1 from rfl, Yy]
  unfold f_R10_number_b1 f_R10_number_k1
  have hq : Int.tdiv n 1 = n := by rw [Int.tdiv_one]
  have c1 : (bif decide ((1 : Int) ≤ n) then true else (1 : Int) == 1) = true := by cases decide ((1 : Int) ≤ n) <;> rfl
  simp only
  rw [Y0b (by omega), c1, cond_true, Y01 (by omega), hq, Y09 (by omega), tmod_n hn.1, R10_digit_ok (by omega), X0]
  rw [Y0e (by simp only [X2, X7, X8]; omega), show Int.tdiv 1 10 = 0 from rfl, Y09 (by omega), Yy]
  unfold digs
  rw [Y07 (by omega)]
  generalize dgIf 10000 n = a
  generalize dgIf 1000 n = b
  generalize dgIf 100 n = c
  generalize dgIf 10 n = d
  simp only [Xb, X06, X02]
end Go.Proofs.YtioockkejhpleaaDoor
