/-
  Own work. Chapter 19, plain part: pages.
-/
import Derived.Test.YtlcoabpgknpaoaaDoorP19b
import Derived.Test.YtlcoabpgknpaoaaDoorSh
set_option linter.unusedSimpArgs false
set_option linter.unusedVariables false
set_option maxRecDepth 100000
set_option linter.unusedSimpArgs false
set_option linter.unusedVariables false
namespace Go.Proofs.YtlcoabpgknpaoaaDoor
open Go.Abs
theorem tmodN {x : Int} {m : Nat} (h : 0 ≤ x) (hm : 0 < m) : ∃ c : Nat, c < m ∧ Int.tmod x m = (c : Int) := by
  rw [Int.tmod_eq_emod_of_nonneg h]
  have a1 := Int.emod_nonneg x (b := (m : Int)) (by omega)
  have a2 := Int.emod_lt_of_pos x (b := (m : Int)) (by omega)
  exact ⟨(x % (m : Int)).toNat, by omega, by omega⟩
theorem f_made (t0 : S_Raw) (h : okS_Raw t0) : ∃ W n k ink part : Nat, 24 ≤ W ∧ W ≤ 60 ∧ 1 ≤ n ∧ n ≤ 9999 ∧ k ≤ 2 ∧ ink ≤ 9999 ∧ part ≤ 26 ∧ (ink = 0 → part = 0) ∧ f_R19_Made t0 = some ⟨W, ⟨n, k⟩, t0.Back, ink, part⟩ := by
  obtain ⟨⟨w1, w2⟩, ⟨n1, n2⟩, ⟨k1, k2⟩, _, ⟨i1, i2⟩, ⟨p1, p2⟩⟩ := h
  obtain ⟨w, hw, ew⟩ := tmodN (m := 37) w1 (by omega)
  obtain ⟨n, hn, en⟩ := tmodN (m := 9999) n1 (by omega)
  obtain ⟨k, hk, ek⟩ := tmodN (m := 3) k1 (by omega)
  obtain ⟨i, hi, ei⟩ := tmodN (m := 10000) i1 (by omega)
  obtain ⟨p, hp, ep⟩ := tmodN (m := 27) p1 (by omega)
  have ew' : Int.tmod t0.Width 37 = (w : Int) := ew
  have en' : Int.tmod t0.N 9999 = (n : Int) := en
  have ek' : Int.tmod t0.K 3 = (k : Int) := ek
  have ei' : Int.tmod t0.Ink 10000 = (i : Int) := ei
  have ep' : Int.tmod t0.Part 27 = (p : Int) := ep
  refine ⟨24 + w, 1 + n, k, i, if i = 0 then 0 else p, by omega, by omega, by omega, by omega, by omega, by omega, by split <;> omega, fun h => if_pos h, ?_⟩
  unfold f_R19_Made
  rw [wrap_i64 (n := t0.N) (by omega), ew', en', ek', ei', ep', wrap_i64 (n := (w : Int)) (by omega), wrap_i64 (n := (k : Int)) (by omega), wrap_i64 (n := (i : Int)) (by omega), wrap_i64 (n := (p : Int)) (by omega), G_inR (by omega), G_inR (by omega)]
  by_cases h0 : i = 0
  · rw [cond_neg (by simp; omega), if_pos h0, h0]
    unfold f_R19_Made_k1
    simp
  · rw [cond_pos (by simp; omega), if_neg h0]
    unfold f_R19_Made_k1
    simp
theorem mk_inj (a b : Nat) (ha : a ≤ 2) (hb : b ≤ 2) (h : mk a = mk b) : a = b := by
  have : ∀ a b : Fin 3, mk a.val = mk b.val → a = b := by decide
  have := this ⟨a, by omega⟩ ⟨b, by omega⟩ h
  simpa using this
theorem mk_form (k : Nat) : mk k = [] ∨ ∃ r, mk k = 48 :: r := by
  unfold mk; split
  · exact .inl rfl
  · exact .inr ⟨_, rfl⟩
theorem pg_inj (n k n' k' : Nat) (b b' : Bool) (h1 : 1 ≤ n) (h2 : n ≤ 9999) (h3 : k ≤ 2) (h1' : 1 ≤ n') (h2' : n' ≤ 9999) (h3' : k' ≤ 2) (h : pg n k b = pg n' k' b') : n = n' ∧ k = k' ∧ b = b' := by
  unfold pg at h
  obtain ⟨e1, e2⟩ := split48 (fun c hc => (wr_cells _ c hc).1) (fun c hc => (wr_cells _ c hc).1) (mk_form k) (mk_form k') h
  have e3 := wr_inj _ _ (by split <;> omega) (by split <;> omega) e1
  have e4 := mk_inj k k' h3 h3' e2
  refine ⟨?_, e4, ?_⟩
  · cases b <;> cases b' <;> simp at e3 <;> omega
  · cases b <;> cases b' <;> simp at e3 ⊢ <;> omega
theorem pg_len (n k : Nat) (b : Bool) : (pg n k b).length ≤ 8 := by
  unfold pg
  have h1 := wr_len (if b then 2 * n else 2 * n - 1)
  have h2 : (mk k).length ≤ 2 := by unfold mk; split <;> simp
  rw [List.length_append]
  omega
theorem plain_NumberPages {t0 t1 : S_Raw} (h0 : okS_Raw t0) (h1 : okS_Raw t1) : f_L19_NumberPages t0 t1 = some true := by
  obtain ⟨W, n, k, ink, part, _, _, a3, a4, a5, _, _, _, e⟩ := f_made t0 h0
  obtain ⟨W', n', k', ink', part', _, _, b3, b4, b5, _, _, _, e'⟩ := f_made t1 h1
  unfold f_L19_NumberPages
  rw [bind_some' sanity_true, bind_some' e, bind_some' e', bind_some' (f_page n k _ a3 a4 a5), bind_some' (f_page n' k' _ b3 b4 b5)]
  have hsame := f_same (pg n k t0.Back) (pg n' k' t1.Back) (by have := pg_len n k t0.Back; omega)
  rw [bind_some' (by exact hsame)]
  dsimp only
  by_cases heq : pg n k t0.Back = pg n' k' t1.Back
  · obtain ⟨rfl, rfl, hb⟩ := pg_inj n k n' k' _ _ a3 a4 a5 b3 b4 b5 heq
    rw [decide_eq_true heq, hb]
    simp
  · rw [decide_eq_false heq]
    have : ¬ (n = n' ∧ k = k' ∧ t0.Back = t1.Back) := fun ⟨x, y, z⟩ => heq (by rw [x, y, z])
    by_cases c1 : n = n' <;> by_cases c2 : k = k' <;> by_cases c3 : t0.Back = t1.Back <;> simp_all <;> omega
end Go.Proofs.YtlcoabpgknpaoaaDoor
