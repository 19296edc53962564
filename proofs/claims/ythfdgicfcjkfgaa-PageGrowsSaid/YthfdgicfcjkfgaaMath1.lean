/- Own work. A part of the proof of this claim. -/
import Derived.Test.YthfdgicfcjkfgaaPage5
set_option linter.unusedSimpArgs false
set_option linter.unusedVariables false
namespace Go.Proofs.Ythfdgicfcjkfgaa

theorem sel_congr {R R' : List Row} {a b : Nat} (h : ∀ e, a ≤ e → e < b → okEnd R e = okEnd R' e) : sel R a b = sel R' a b := by
  unfold sel
  congr 1
  refine List.filter_congr fun e he => ?_
  simp only [List.mem_range'_1] at he
  exact h e he.1 (by omega)
theorem last_append (xs : List Int) (x : Int) : last (xs ++ [x]) = x := by simp [last]
theorem okEnd_len (R : List Row) : okEnd R R.length = true := by simp [okEnd]
theorem keepAt_append (R S : List Row) (i : Nat) (h : i < R.length) : keepAt (R ++ S) i = keepAt R i := by
  unfold keepAt
  rw [List.getElem?_append_left h]
theorem height_bounds (n : Int) (hn : 0 ≤ n ∧ n ≤ 255) : 4 ≤ height n ∧ height n ≤ 11 := by
  unfold height
  have := Int.tmod_eq_emod_of_nonneg (b := 8) hn.1
  omega

theorem next_append (R : List Row) (r : Row) (f : Nat) (h : Int) (hf : f < R.length) (hh : 2 ≤ h) (hl : last (next R f h) < R.length) : next (R ++ [r]) f h = next R f h := by
  unfold next at hl ⊢
  rw [if_neg (by omega)] at hl
  rw [if_neg (by simp; omega), if_neg (by omega)]
  simp only [Int.toNat_natCast, List.length_append, List.length_singleton] at hl ⊢
  have h1 : f + 1 + min (h - 1).toNat (R.length - f) ≤ R.length := by
    rcases Nat.lt_or_ge R.length (f + 1 + min (h - 1).toNat (R.length - f)) with hx | hx
    · exfalso
      rw [show f + 1 + min (h - 1).toNat (R.length - f) = R.length + 1 from by omega, sel_succ R (f + 1) R.length (by omega), okEnd_len] at hl
      simp only [if_true, last_append] at hl
      omega
    · exact hx
  rw [show min (h - 1).toNat (R.length + 1 - f) = min (h - 1).toNat (R.length - f) from by omega]
  refine sel_congr fun e he1 he2 => ?_
  unfold okEnd
  rw [keepAt_append R [r] (e - 1) (by omega)]
  congr 1
  rw [Bool.eq_iff_iff, beq_iff_eq, beq_iff_eq]
  simp
  omega

theorem fillGo_grow (R : List Row) (r : Row) (h : Int) (hh : 2 ≤ h) : ∀ (m m' f : Nat), R.length + 1 ≤ m + f → R.length + 2 ≤ m' + f → (fillGo R h m f).2 = none → (fillGo (R ++ [r]) h m' f).2 = none → (fillGo R h m f).1 ≠ [] →
    (fillGo R h m f).1.length ≤ (fillGo (R ++ [r]) h m' f).1.length ∧ (fillGo (R ++ [r]) h m' f).1.take ((fillGo R h m f).1.length - 1) = (fillGo R h m f).1.take ((fillGo R h m f).1.length - 1)
  | 0, m', f, hm, hm', _, _, hne => by simp [fillGo] at hne
  | m + 1, m', f, hm, hm', h1, h2, hne => by
    by_cases hf : f < R.length
    · obtain ⟨m', rfl⟩ : ∃ k, m' = k + 1 := ⟨m' - 1, by omega⟩
      have hf' : f < (R ++ [r]).length := by simp; omega
      by_cases hn : next R f h = []
      · simp [fillGo, hf, hn] at h1
      by_cases hn' : next (R ++ [r]) f h = []
      · simp only [fillGo, if_pos hf', if_pos hn'] at h2
        cases h2
      simp only [fillGo, if_pos hf, if_pos hf', if_neg hn, if_neg hn'] at h1 h2 hne ⊢
      obtain ⟨e, he, he1, he2, _⟩ := next_mem (last_mem hn)
      rw [he] at h1 ⊢
      simp only [Int.toNat_natCast] at h1 ⊢
      rcases Nat.lt_or_ge e R.length with hlt | hge
      · have hna := next_append R r f h hf hh (by omega)
        rw [hna, he] at h2 ⊢
        simp only [Int.toNat_natCast] at h2 ⊢
        have hne2 : (fillGo R h m e).1 ≠ [] := by
          obtain ⟨m, rfl⟩ : ∃ k, m = k + 1 := ⟨m - 1, by omega⟩
          by_cases hn2 : next R e h = []
          · simp [fillGo, hlt, hn2] at h1
          · simp [fillGo, hlt, hn2]
        obtain ⟨i1, i2⟩ := fillGo_grow R r h hh m m' e (by omega) (by omega) h1 h2 hne2
        have hpos : 1 ≤ (fillGo R h m e).1.length := by
          have := List.length_pos_iff.2 hne2
          omega
        obtain ⟨k, hk⟩ : ∃ k, (fillGo R h m e).1.length = k + 1 := ⟨_, (Nat.sub_add_cancel hpos).symm⟩
        rw [hk] at i1 i2
        simp only [List.length_cons, hk, Nat.add_sub_cancel, List.take_succ_cons] at i1 i2 ⊢
        exact ⟨by omega, by rw [i2]⟩
      · have hg : fillGo R h m e = ([], none) := by
          cases m with
          | zero => rfl
          | succ m => simp [fillGo, show ¬ e < R.length from by omega]
        rw [hg]
        simp
    · simp [fillGo, hf] at hne

theorem fill_grow (R : List Row) (r : Row) (h : Int) (hh : 4 ≤ h ∧ h ≤ 40) (h1 : (fill R h).2.2 = 0) (h2 : (fill (R ++ [r]) h).2.2 = 0) (hne : (fill R h).1 ≠ []) :
    (fill R h).1.length ≤ (fill (R ++ [r]) h).1.length ∧ (fill (R ++ [r]) h).1.take ((fill R h).1.length - 1) = (fill R h).1.take ((fill R h).1.length - 1) := by
  unfold fill at h1 h2 hne ⊢
  rw [if_neg (by omega)] at h1 h2 hne ⊢
  rw [if_neg (by omega)]
  cases e1 : (fillR R h).2 with
  | some f => simp [e1] at h1
  | none =>
    cases e2 : (fillR (R ++ [r]) h).2 with
    | some f => simp [e2] at h2
    | none =>
      simp only [e1, e2] at hne ⊢
      exact fillGo_grow R r h (by omega) _ _ 0 (by simp) (by simp) e1 e2 hne
theorem fill_err (R : List Row) (h : Int) (hh : 4 ≤ h ∧ h ≤ 40) : (fill R h).2.2 = 0 ∨ (fill R h).2.2 = 210 := by
  unfold fill
  rw [if_neg (by omega)]
  split <;> simp
theorem fillGo_len (R : List Row) (h : Int) : ∀ m f, (fillGo R h m f).1.length ≤ m
  | 0, f => by simp [fillGo]
  | m + 1, f => by
    unfold fillGo
    split
    · split
      · simp
      · have := fillGo_len R h m (last (next R f h)).toNat
        simp; omega
    · simp
theorem fill_len (R : List Row) (h : Int) : (fill R h).1.length ≤ R.length + 1 := by
  unfold fill
  split
  · simp
  · split
    · exact fillGo_len R h _ _
    · simp
end Go.Proofs.Ythfdgicfcjkfgaa
