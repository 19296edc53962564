/- Own work. -/
import Derived.Test.YtkgfbpbndmklnaaDoorFm2
set_option linter.unusedSimpArgs false
set_option linter.unusedVariables false
namespace Go.Proofs.YtkgfbpbndmklnaaDoor
open Go.Abs
def upMax (v u : Int) : Int := if u + 1 > v then u + 1 else v
def MeasAt (d : Nat) (t : List Y2) (v : Int) : Prop := 1 ≤ v ∧ v ≤ d ∧ ∀ (f pre post : List Y2) (m : Nat), f.length ≤ 100000 → f = pre ++ t ++ post → Yc (m + d) f (pre.length : Int) = some (((pre.length + t.length : Nat) : Int), v, true)
theorem upMax_fold {d : Nat} : ∀ (vs : List Int) (v : Int), 1 ≤ v → v ≤ ((d + 1 : Nat) : Int) → (∀ u ∈ vs, 1 ≤ u ∧ u ≤ d) → 1 ≤ vs.foldl upMax v ∧ vs.foldl upMax v ≤ ((d + 1 : Nat) : Int)
  | [], v, h1, h2, _ => ⟨h1, h2⟩
  | u :: vs, v, h1, h2, h3 => by
    have := h3 u (by simp)
    rw [X1b]
    refine upMax_fold vs _ ?_ ?_ (fun x hx => h3 x (by simp [hx]))
    · unfold upMax; split <;> omega
    · unfold upMax; split <;> omega
theorem measure_node {d : Nat} (hd99 : d ≤ 99) {n : Y2} {ks : List (List Y2)} {vs : List Int} (ha : ar n = some ks.length) (hks : ∀ k ∈ ks, IsT d k) (had : ∀ (i : Nat) (k : List Y2), ks[i]? = some k → adm n i (hd k) = true)
    (hvl : vs.length = ks.length) (hv : ∀ (i : Nat) (k : List Y2) (v : Int), ks[i]? = some k → vs[i]? = some v → MeasAt d k v) : MeasAt (d + 1) (n :: ks.flatten) (vs.foldl upMax 1) := by
  have hb : ∀ u ∈ vs, 1 ≤ u ∧ u ≤ (d : Int) := fun u hu => by
    obtain ⟨i, hi, rfl⟩ := List.getElem_of_mem hu
    have := hv i ks[i] vs[i] (X2 (by omega)) (X2 hi)
    exact ⟨this.1, this.2.1⟩
  have hf2 := upMax_fold (d := d) vs 1 (by omega) (by omega) hb
  refine ⟨hf2.1, hf2.2, fun f pre post m hl hf => ?_⟩
  have hlt : pre.length < f.length := by rw [hf]; simp
  have hg : f.getD pre.length Yf = n := by rw [hf, Xv]; exact getD_mid _ _ _
  have h16 := ar_le ha
  rw [show m + (d + 1) = (m + d) + 1 by omega, Yc]
  unfold Y1c
  rw [Y28 (by omega), Y2y (by omega)]
  rw [Xt, hg, formula_arity_ok ha, X8, show (!((ks.length : Int), true).2) = false from rfl, cond_false]
  rw [Y32 (by omega)]
  have run : ∀ (j i q : Nat), i + j = ks.length → iter (meB f (pre.length : Int) ((ks.length : Int), true) (Yc (m + d))) (q + 1 + j) (((pre.length + 1 + (ks.take i).flatten.length : Nat) : Int), (vs.take i).foldl upMax 1, (i : Int)) =
      some (((pre.length + 1 + ks.flatten.length : Nat) : Int), vs.foldl upMax 1, true) := by
    intro j
    induction j with
    | zero =>
      intro i q hi
      rw [X05, Y05]
      show Yd _ _ _ _ _ _ _ _ = _
      unfold Yd
      rw [Y28 (by simp only; omega), Xm (by omega), Xm (by omega)]
    | succ j ih =>
      intro i q hi
      rw [show q + 1 + (j + 1) = (q + 1 + j) + 1 by omega, Y05]
      have hik : i < ks.length := by omega
      have hiv : i < vs.length := by omega
      have kk := kid_at (i := i) (k := ks[i]) hf hks (X2 hik)
      have aa := had i _ (X2 hik)
      have hm := hv i ks[i] vs[i] (X2 hik) (X2 hiv)
      have u3 := hm.2.2 f _ _ m hl kk.1
      rw [kk.2.1] at u3
      have htk : (ks.take (i + 1)).flatten.length = (ks.take i).flatten.length + ks[i].length := by
        rw [X0s hik]
        simp only [X0w, X01, X13, X0k, Xa]
      have hfo : (vs.take (i + 1)).foldl upMax 1 = upMax ((vs.take i).foldl upMax 1) vs[i] := by
        rw [X0s hiv, List.foldl_append]; rfl
      have e : meB f (pre.length : Int) ((ks.length : Int), true) (Yc (m + d)) (iter (meB f (pre.length : Int) ((ks.length : Int), true) (Yc (m + d))) (q + 1 + j)) (((pre.length + 1 + (ks.take i).flatten.length : Nat) : Int), (vs.take i).foldl upMax 1, (i : Int)) =
          iter (meB f (pre.length : Int) ((ks.length : Int), true) (Yc (m + d))) (q + 1 + j) (((pre.length + 1 + (ks.take (i + 1)).flatten.length : Nat) : Int), (vs.take (i + 1)).foldl upMax 1, ((i + 1 : Nat) : Int)) := by
        show Yd _ _ _ _ _ _ _ _ = _
        unfold Yd
        have c1 : decide ((f.length : Int) ≤ ((pre.length + 1 + (ks.take i).flatten.length : Nat) : Int)) = false := by rw [decide_eq_false_iff_not]; omega
        have aa' : adm n i (hd ks[i]) = true := aa
        simp only [c1, X0r, cond_true, cond_false, Xt, hg, kk.2.2.1, formula_adm, aa', X8, X1c, u3]
        rw [Y3c (by omega), Y2y (fun _ => by omega), Y32 (by have := hm.2.1; have := hm.1; omega), Y32 (by omega), htk, hfo]
        congr 3
        omega
      rw [e]
      exact ih (i + 1) q (by omega)
  have r3 := run ks.length 0 (999999 - ks.length) (by omega)
  rw [show 999999 - ks.length + 1 + ks.length = 1000000 by omega] at r3
  have e0 : (pre.length : Int) + 1 = ((pre.length + 1 + (ks.take 0).flatten.length : Nat) : Int) := by simp
  rw [e0, show pre.length + (n :: ks.flatten).length = pre.length + 1 + ks.flatten.length by simp; omega]
  exact r3
theorem measure_dep : ∀ (d : Nat) (t : List Y2), d ≤ 100 → IsT d t → ∃ v : Int, MeasAt d t v
  | 0, _, _, h => h.elim
  | d + 1, t, hd100, h => by
    obtain ⟨n, ks, rfl, ha, hks, had⟩ := h
    have vals : ∀ ls : List (List Y2), (∀ k ∈ ls, IsT d k) → ∃ vs : List Int, vs.length = ls.length ∧ ∀ (i : Nat) (k : List Y2) (v : Int), ls[i]? = some k → vs[i]? = some v → MeasAt d k v := by
      intro ls
      induction ls with
      | nil => intro _; exact ⟨[], rfl, fun i k v hk => by simp at hk⟩
      | cons l ls ih =>
        intro hl
        obtain ⟨v, hv⟩ := measure_dep d l (by omega) (hl l (by simp))
        obtain ⟨vs, hvl, hvs⟩ := ih (fun k hk => hl k (by simp [hk]))
        refine ⟨v :: vs, by simp [hvl], fun i k u hk hu => ?_⟩
        cases i with
        | zero => simp only [X08, X0] at hk hu; subst hk; subst hu; exact hv
        | succ i => simp only [X09] at hk hu; exact hvs i k u hk hu
    obtain ⟨vs, hvl, hvs⟩ := vals ks hks
    exact ⟨_, measure_node (by omega) ha hks had hvl hvs⟩
end Go.Proofs.YtkgfbpbndmklnaaDoor
