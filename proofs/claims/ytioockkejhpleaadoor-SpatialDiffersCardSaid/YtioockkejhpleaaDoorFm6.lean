/- Own work. -/
import Derived.Test.YtioockkejhpleaaDoorFm2
set_option linter.unusedSimpArgs false
set_option linter.unusedVariables false
namespace Go.Proofs.YtioockkejhpleaaDoor
open Go.Abs
def okN (n : Y4) : Prop := (-9223372036854775808 ≤ n.Op ∧ n.Op ≤ 9223372036854775807) ∧ -9223372036854775808 ≤ n.N ∧ n.N ≤ 9223372036854775807
theorem tdiv8_le {n : Int} (h : -9223372036854775808 ≤ n ∧ n ≤ 9223372036854775807) : -9223372036854775808 ≤ Int.tdiv n 8 ∧ Int.tdiv n 8 ≤ 9223372036854775807 := by
  by_cases h0 : 0 ≤ n
  · rw [tdiv8 h0]; omega
  · have : Int.tdiv n 8 = -(Int.tdiv (-n) 8) := by rw [Int.neg_tdiv]; omega
    rw [this, tdiv8 (by omega)]
    omega
theorem ar_none_mat {n : Y4} (h : ar n = none) (h13 : n.Op = 13) : ¬ (8 ≤ n.N ∧ n.N < 40 ∧ 1 ≤ n.N % 8 ∧ n.N % 8 ≤ 4) := by
  unfold ar at h
  rw [if_neg (by omega), if_neg (by omega), if_neg (by omega), if_neg (by omega), if_neg (by omega), if_pos h13] at h
  split at h
  · cases h
  · assumption
theorem cond_and (a b : Bool) : cond a b false = (a && b) := by cases a <;> rfl
theorem mat_cond {N : Int} (h : ¬ (8 ≤ N ∧ N < 40 ∧ 1 ≤ N % 8 ∧ N % 8 ≤ 4)) (h0 : 0 ≤ N) :
    (bif bif bif decide ((1 : Int) ≤ (Int.tdiv N (8 : Int))) then decide ((Int.tdiv N (8 : Int)) ≤ (4 : Int)) else false then decide ((1 : Int) ≤ (Int.tmod N (8 : Int))) else false then decide ((Int.tmod N (8 : Int)) ≤ (4 : Int)) else false) = false := by
  rw [tdiv8 h0, tmod8 h0]
  simp only [cond_and]
  rw [← X0n]
  simp only [X3, decide_eq_true_eq]
  omega
theorem formula_arity_none {n : Y4} (h : ar n = none) (hn : okN n) : ∃ k : Int, Y10 n = some (k, false) := by
  obtain ⟨o, N⟩ := n
  have hN := hn.2
  simp only at hN
  by_cases h0 : o = 0
  · subst h0
    have hc : ¬ (0 ≤ N ∧ N ≤ 99999) := by
      unfold ar at h; simp only [if_true] at h
      split at h
      · cases h
      · assumption
    refine ⟨0, ?_⟩
    unfold Y10
    simp only [cond_and]
    rw [Yo rfl]
    congr 2
    rw [← X0n]; simpa using hc
  by_cases h1 : o = 1
  · subst h1
    have hc : ¬ (0 ≤ N ∧ N ≤ 25) := by
      unfold ar at h; simp only [if_true] at h
      rw [if_neg (by omega)] at h
      split at h
      · cases h
      · assumption
    refine ⟨0, ?_⟩
    unfold Y10
    simp only [cond_and]
    rw [Yi (by omega), Yo rfl]
    congr 2
    rw [← X0n]; simpa using hc
  have k2 : ∀ b : Bool, (b = true → 9 ≤ o ∧ o ≤ 11) → (b = false → ¬ (9 ≤ o ∧ o ≤ 11)) → ¬ (2 ≤ o ∧ o ≤ 8) → ∃ k : Int, Y0x ⟨o, N⟩ b = some (k, false) := by
    intro b hb hb' h28
    unfold Y0x Y4p
    cases b with
    | true =>
      have := hb rfl
      unfold ar at h; simp only at h
      rw [if_neg h0, if_neg h1, if_neg h28, if_pos this] at h
      rw [cond_true]
      refine ⟨1, ?_⟩
      split at h
      · cases h
      · rename_i hz; rw [beq_eq_false_iff_ne.2 hz]
    | false =>
      have h911 := hb' rfl
      rw [cond_false]
      simp only
      by_cases h12 : o = 12
      · unfold ar at h; simp only at h
        rw [if_neg h0, if_neg h1, if_neg h28, if_neg h911, if_pos h12] at h
        rw [Yo h12]
        have hz : ¬ (2 ≤ N ∧ N ≤ 5) := by
          split at h
          · cases h
          · assumption
        have hc : (bif decide (N < 2) then true else decide ((5 : Int) < N)) = true := by
          by_cases hx : N < 2
          · rw [decide_eq_true hx]; rfl
          · rw [decide_eq_false hx, decide_eq_true (by omega)]; rfl
        rw [hc, cond_true]
        exact ⟨0, rfl⟩
      rw [Yi h12]
      by_cases h13 : o = 13
      · have hz := ar_none_mat h h13
        rw [Yo h13]
        by_cases hneg : N < 0
        · rw [Y0b hneg]; exact ⟨0, rfl⟩
        rw [Y07 hneg]
        have h8 : 0 ≤ N := by omega
        have hm : 0 ≤ N / 8 * (N % 8) ∧ N / 8 * (N % 8) ≤ 9223372036854775807 := by
          have a1 : N / 8 ≤ 1152921504606846975 := by omega
          have a2 : N % 8 ≤ 7 := by omega
          have := Int.mul_le_mul a1 a2 (by omega) (by omega : (0 : Int) ≤ 1152921504606846975)
          exact ⟨Int.mul_nonneg (by omega) (by omega), by omega⟩
        rw [mat_cond hz h8, Y09 (tdiv8_le hN), tdiv8 h8, tmod8 h8, Y09 (by omega)]
        exact ⟨_, rfl⟩
      · rw [Yi h13]; exact ⟨0, rfl⟩
  have k3 : ∀ b : Bool, (b = true → 2 ≤ o ∧ o ≤ 8) → (b = false → ¬ (2 ≤ o ∧ o ≤ 8)) → ∃ k : Int, Y04 ⟨o, N⟩ b = some (k, false) := by
    intro b hb hb'
    unfold Y04
    cases b with
    | true =>
      have := hb rfl
      unfold ar at h; simp only at h
      rw [if_neg h0, if_neg h1, if_pos this] at h
      rw [cond_true]
      refine ⟨2, ?_⟩
      split at h
      · cases h
      · rename_i hz; rw [beq_eq_false_iff_ne.2 hz]
    | false =>
      have h28 := hb' rfl
      rw [cond_false]
      simp only
      by_cases h9 : o = 9
      · rw [Yo h9]; exact k2 _ (fun _ => by omega) (fun hx => absurd h9 (beq_eq_false_iff_ne.1 hx)) h28
      rw [Yi h9]
      by_cases h10 : o = 10
      · rw [Yo h10]; exact k2 _ (fun _ => by omega) (fun hx => absurd h10 (beq_eq_false_iff_ne.1 hx)) h28
      rw [Yi h10]
      exact k2 _ (fun hx => by have := beq_iff_eq.1 hx; omega) (fun hx => by have := beq_eq_false_iff_ne.1 hx; omega) h28
  unfold Y10
  simp only
  rw [Yi h0, Yi h1]
  by_cases h2 : o = 2
  · rw [Yo h2]; exact k3 _ (fun _ => by omega) (fun hx => absurd h2 (beq_eq_false_iff_ne.1 hx))
  rw [Yi h2]
  by_cases h2 : o = 3
  · rw [Yo h2]; exact k3 _ (fun _ => by omega) (fun hx => absurd h2 (beq_eq_false_iff_ne.1 hx))
  rw [Yi h2]
  by_cases h2 : o = 4
  · rw [Yo h2]; exact k3 _ (fun _ => by omega) (fun hx => absurd h2 (beq_eq_false_iff_ne.1 hx))
  rw [Yi h2]
  by_cases h2 : o = 5
  · rw [Yo h2]; exact k3 _ (fun _ => by omega) (fun hx => absurd h2 (beq_eq_false_iff_ne.1 hx))
  rw [Yi h2]
  by_cases h2 : o = 6
  · rw [Yo h2]; exact k3 _ (fun _ => by omega) (fun hx => absurd h2 (beq_eq_false_iff_ne.1 hx))
  rw [Yi h2]
  by_cases h2 : o = 7
  · rw [Yo h2]; exact k3 _ (fun _ => by omega) (fun hx => absurd h2 (beq_eq_false_iff_ne.1 hx))
  rw [Yi h2]
  exact k3 _ (fun hx => by have := beq_iff_eq.1 hx; omega) (fun hx => by have := beq_eq_false_iff_ne.1 hx; omega)
theorem measure_tot {f : List Y4} (hl : f.length ≤ 60) (hN : ∀ n ∈ f, okN n) : ∀ (r i m : Nat), i ≤ f.length → f.length - i ≤ r →
    ∃ (e v : Int) (ok : Bool), Yj (m + r + 1) f (i : Int) = some (e, v, ok) ∧ (ok = true → ∃ (t pre post : List Y4) (d : Nat), f = pre ++ t ++ post ∧ pre.length = i ∧ e = ((i + t.length : Nat) : Int) ∧ v = (d : Int) ∧ 1 ≤ d ∧ d ≤ t.length ∧ IsT d t) := by
  intro r
  induction r with
  | zero =>
    intro i m hi hr
    refine ⟨0, 0, false, ?_, fun h => by cases h⟩
    rw [Yj]
    unfold Y1m
    rw [Y0b (by omega)]
  | succ r ih =>
    intro i m hi hr
    rw [Yj]
    unfold Y1m
    by_cases hiL : f.length ≤ i
    · rw [Y0b (by omega)]
      exact ⟨0, 0, false, rfl, fun h => by cases h⟩
    rw [Y07 (by omega), Y01 (by omega)]
    have hlt : i < f.length := by omega
    obtain ⟨pre, n, post, hf, hpl⟩ : ∃ (pre : List Y4) (n : Y4) (post : List Y4), f = pre ++ n :: post ∧ pre.length = i :=
      ⟨f.take i, f[i], f.drop (i + 1), by rw [List.getElem_cons_drop, X0k], by rw [Xt]; omega⟩
    have hg : f.getD i Y7 = n := by rw [hf, ← hpl]; exact Y3v _ _ _
    rw [Xa, hg]
    have hnN := hN n (by rw [hf]; simp)
    cases har : ar n with
    | none =>
      obtain ⟨k, hk⟩ := formula_arity_none har hnN
      rw [hk, X0]
      exact ⟨0, 0, false, rfl, fun h => by cases h⟩
    | some c =>
      have h16 := ar_le har
      rw [formula_arity_ok har, X0, show (!((c : Int), true).2) = false from rfl, cond_false, Y09 (by omega)]
      have run : ∀ (j q : Nat) (ks : List (List Y4)) (d : Nat) (rest : List Y4), post = ks.flatten ++ rest → ks.length + j = c → (∀ k ∈ ks, IsT d k) → (∀ (i : Nat) (k : List Y4), ks[i]? = some k → adm n i (hd k) = true) → d ≤ ks.flatten.length →
          ∃ (e v : Int) (ok : Bool), iter (meB f (i : Int) ((c : Int), true) (Yj (m + (r + 1)))) (q + 1 + j) (((i + 1 + ks.flatten.length : Nat) : Int), ((d + 1 : Nat) : Int), (ks.length : Int)) = some (e, v, ok) ∧ (ok = true → ∃ (t pre post : List Y4) (d : Nat), f = pre ++ t ++ post ∧ pre.length = i ∧ e = ((i + t.length : Nat) : Int) ∧ v = (d : Int) ∧ 1 ≤ d ∧ d ≤ t.length ∧ IsT d t) := by
        intro j
        induction j with
        | zero =>
          intro q ks d rest hp hk hT hA hdl
          refine ⟨((i + 1 + ks.flatten.length : Nat) : Int), ((d + 1 : Nat) : Int), true, ?_, fun _ => ⟨n :: ks.flatten, pre, rest, d + 1, ?_, hpl, ?_, rfl, by omega, by simp only [X7]; omega, ⟨n, ks, rfl, by rw [har]; congr 1; omega, hT, hA⟩⟩⟩
          · rw [X0d, Yy]
            show Yt _ f (i : Int) ((c : Int), true) _ ((i + 1 + ks.flatten.length : Nat) : Int) ((d + 1 : Nat) : Int) (ks.length : Int) = _
            unfold Yt
            rw [Y07 (by simp only; omega)]
          · rw [hf, hp]; simp
          · rw [X7]; omega
        | succ j ihj =>
          intro q ks d rest hp hk hT hA hdl
          rw [show q + 1 + (j + 1) = (q + 1 + j) + 1 by omega, Yy]
          have hfr : f = (pre ++ n :: ks.flatten) ++ rest := by rw [hf, hp]; simp
          have hprl : (pre ++ n :: ks.flatten).length = i + 1 + ks.flatten.length := by rw [X2, X7]; omega
          show ∃ (e v : Int) (ok : Bool), Yt (Yj (m + (r + 1))) f (i : Int) ((c : Int), true) (iter (meB f (i : Int) ((c : Int), true) (Yj (m + (r + 1)))) (q + 1 + j)) ((i + 1 + ks.flatten.length : Nat) : Int) ((d + 1 : Nat) : Int) (ks.length : Int) = some (e, v, ok) ∧ _
          generalize hI : iter (meB f (i : Int) ((c : Int), true) (Yj (m + (r + 1)))) (q + 1 + j) = I
          unfold Yt
          rw [Y0b (by simp only; omega)]
          by_cases hpL : f.length ≤ i + 1 + ks.flatten.length
          · have c1 : decide ((f.length : Int) ≤ ((i + 1 + ks.flatten.length : Nat) : Int)) = true := by rw [decide_eq_true_iff]; omega
            rw [c1]
            exact ⟨0, 0, false, rfl, fun h => by cases h⟩
          · have c1 : decide ((f.length : Int) ≤ ((i + 1 + ks.flatten.length : Nat) : Int)) = false := by rw [decide_eq_false_iff_not]; omega
            cases rest with
            | nil => rw [hfr, X2, hprl] at hpL; simp at hpL
            | cons x rest' =>
              have hgx : f.getD (i + 1 + ks.flatten.length) Y7 = x := by rw [hfr, ← hprl]; exact Y3v _ _ _
              simp only [c1, X0q, cond_true, cond_false, Xa, hg, hgx, formula_adm]
              rw [Y01 (fun _ => by omega), X0]
              cases hadm : adm n ks.length x with
              | false => exact ⟨0, 0, false, rfl, fun h => by cases h⟩
              | true =>
                rw [X17, cond_false]
                obtain ⟨e1, v1, ok1, r1, r2⟩ := ih (i + 1 + ks.flatten.length) m (by omega) (by omega)
                rw [show m + (r + 1) = m + r + 1 by omega, r1, X0]
                cases ok1 with
                | false => exact ⟨0, 0, false, rfl, fun h => by cases h⟩
                | true =>
                  obtain ⟨t1, pre1, post1, d1, q1, q2, q3, q4, q5, q6, q7⟩ := r2 rfl
                  have hrest : x :: rest' = t1 ++ post1 := by
                    have h1 : (pre ++ n :: ks.flatten) ++ (x :: rest') = pre1 ++ (t1 ++ post1) := by rw [← hfr, q1, Xb]
                    exact (List.append_inj h1 (by rw [hprl, q2])).2
                  have htl : i + 1 + ks.flatten.length + t1.length ≤ f.length := by rw [q1, X2, X2, q2]; omega
                  have hhd : hd t1 = x := by
                    have := q7.pos
                    cases t1 with
                    | nil => simp at this
                    | cons y t => simp only [X06, List.cons.injEq] at hrest; exact hrest.1.symm
                  have hfl : (ks ++ [t1]).flatten.length = ks.flatten.length + t1.length := by
                    simp only [X0b, Xr, X0e, X09, X2]
                  obtain ⟨e, v, ok, s1, s2⟩ := ihj q (ks ++ [t1]) (max d d1) post1 (by rw [hp, hrest]; simp) (by simp; omega) (fun k hk' => by
                    rcases X07.1 hk' with h | h
                    · exact (hT k h).le (by omega)
                    · have : k = t1 := by simpa using h
                      rw [this]; exact q7.le (by omega)) (fun i k hik => by
                    by_cases hil : i < ks.length
                    · rw [List.getElem?_append_left hil] at hik; exact hA i k hik
                    · rw [X1g (by omega)] at hik
                      have hi0 : i - ks.length = 0 := by
                        rcases Nat.eq_zero_or_pos (i - ks.length) with h | h
                        · exact h
                        · rw [List.getElem?_eq_none (by simp; omega)] at hik; cases hik
                      rw [hi0] at hik
                      have : t1 = k := by simpa using hik
                      rw [← this, hhd, show i = ks.length by omega]; exact hadm) (by rw [hfl]; omega)
                  refine ⟨e, v, ok, ?_, s2⟩
                  rw [← s1, hI]
                  simp only [X17, cond_false]
                  rw [Y09 (by omega), Y09 (by omega), hfl]
                  have e0 : (if v1 + 1 > ((d + 1 : Nat) : Int) then v1 + 1 else ((d + 1 : Nat) : Int)) = ((max d d1 + 1 : Nat) : Int) := by
                    split <;> omega
                  rw [e0, q3, ← X0h]
                  simp
      have := run c (999999 - c) [] 0 post rfl (by simp) (fun k hk => by simp at hk) (fun i k hk => by simp at hk) (by simp)
      rw [show 999999 - c + 1 + c = 1000000 by omega] at this
      exact this
theorem formula_Valid_tot {f : List Y4} (hN : ∀ n ∈ f, okN n) : ∃ b : Bool, Y0t f = some b ∧ (b = true → f.length ≤ 60 ∧ ∃ d, d ≤ 8 ∧ IsT d f) := by
  unfold Y0t Y4u
  by_cases h60 : f.length ≤ 60
  · rw [Y07 (by omega)]
    obtain ⟨e, v, ok, r1, r2⟩ := measure_tot h60 hN (f.length) 0 (999999 - f.length) (by omega) (by omega)
    rw [show 999999 - f.length + f.length + 1 = 1000000 by omega] at r1
    have r1' : Y1s f 0 = some (e, v, ok) := r1
    rw [r1', X0]
    simp only
    cases hc : (bif bif !ok then true else e != (f.length : Int) then true else decide ((8 : Int) < v)) with
    | true => rw [cond_true, X0]; exact ⟨_, rfl, fun h => by simp at h⟩
    | false =>
      rw [cond_false, X0]
      refine ⟨_, rfl, fun _ => ⟨h60, ?_⟩⟩
      cases ok with
      | false => simp at hc
      | true =>
        obtain ⟨t, pre, post, d, q1, q2, q3, q4, q5, q6, q7⟩ := r2 rfl
        have hp0 : pre = [] := X0o.1 q2
        subst hp0
        have hc2 : (e != (f.length : Int)) = false ∧ decide ((8 : Int) < v) = false := by
          revert hc
          cases (e != (f.length : Int)) <;> cases decide ((8 : Int) < v) <;> simp
        have he : e = (f.length : Int) := by simpa using hc2.1
        have hv : ¬ (8 : Int) < v := of_decide_eq_false hc2.2
        have hpost : post = [] := by
          have hfl : f.length = t.length + post.length := by rw [q1]; simp
          exact X0o.1 (by omega)
        subst hpost
        have : f = t := by rw [q1]; simp
        exact ⟨d, by omega, by rw [this]; exact q7⟩
  · rw [Y0b (by omega), X0]
    exact ⟨_, rfl, fun h => by simp at h⟩
end Go.Proofs.YtioockkejhpleaaDoor
