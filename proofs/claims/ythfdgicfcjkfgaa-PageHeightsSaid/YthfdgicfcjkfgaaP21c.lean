/-
  Own work. Chapter 21, plain part: what the typed functions compute.
-/
import Derived.Test.YthfdgicfcjkfgaaP21b
set_option linter.unusedSimpArgs false
set_option linter.unusedVariables false
set_option linter.unusedSimpArgs false
set_option linter.unusedVariables false
namespace Go.Proofs.Ythfdgicfcjkfgaa
open Go.Abs

theorem f_last (xs : List Int) (h : xs.length < 1000000) : f_page_last xs = some (last xs) := by
  unfold f_page_last
  by_cases h0 : xs = []
  · subst h0; rfl
  · have hp := List.length_pos_iff.2 h0
    rw [cond_neg (by simp; omega), G_inR (by omega), G_pos (by omega)]
    have := getLast_get xs h0
    rw [show ((xs.length : Int) - 1).toNat = xs.length - 1 from by omega, List.getD_eq_getElem?_getD, this]
    rfl

/-- The end of the ends that `next` looks at. -/
def nb (rows : List S_Row) (f : Nat) (h : Int) : Nat := f + 1 + min (h - 1).toNat (rows.length - f)
theorem ok_end (rows : List S_Row) (e : Nat) (he : 1 ≤ e) : cond ((e : Int) == (rows.length : Int)) true (!((rows.getD ((e : Int) - 1).toNat zS_Row).Keep)) = okEnd rows e := by
  unfold okEnd keepAt
  rw [show ((e : Int) - 1).toNat = e - 1 from by omega]
  by_cases h : e = rows.length
  · simp [h]
  · have h1 : ((e : Int) == (rows.length : Int)) = false := by simp; omega
    have h2 : (e == rows.length) = false := by simp; omega
    rw [h1, h2]; rfl
theorem next_loop (rows : List S_Row) (f : Nat) (h : Int) (hr : rows.length < 100000) (hf : f < rows.length) (hh : 2 ≤ h ∧ h < 100000) : ∀ (n e : Nat), f + 1 ≤ e → e ≤ nb rows f h → nb rows f h < n + e →
    iter (fun loop (s : (List Int) × Int) => f_page_Next_b1 rows f h loop s.1 s.2) n (sel rows (f + 1) e, (e : Int)) = some (sel rows (f + 1) (nb rows f h))
  | 0, e, h1, h2, h3 => by omega
  | n + 1, e, h1, h2, h3 => by
    have ih := next_loop rows f h hr hf hh n (e + 1)
    rw [iter_succ, f_page_Next_b1]
    dsimp only
    have hnb : nb rows f h = f + 1 + min (h - 1).toNat (rows.length - f) := rfl
    rw [G_inR (by omega), G_inR (by omega), G_inR (by omega)]
    by_cases he : e < nb rows f h
    · have hle := sel_len rows (f + 1) e
      rw [cond_pos (by simp only [decide_eq_true_eq]; omega), G_imp (fun hc => inR_of (by omega)), G_imp (fun hc => by simp at hc; omega), ok_end rows e (by omega)]
      have hs := sel_succ rows (f + 1) e h1
      have ih' := ih (by omega) (by omega) (by omega)
      rw [hs] at ih'
      by_cases hok : okEnd rows e = true
      · rw [cond_pos hok, G_room (by omega), f_page_Next_k1, G_inR (by omega)]
        rw [if_pos hok] at ih'
        exact ih'
      · rw [cond_neg (by simpa using hok), f_page_Next_k1, G_inR (by omega)]
        rw [if_neg hok, List.append_nil] at ih'
        exact ih'
    · rw [cond_neg (by simp only [decide_eq_false_iff_not]; omega), show e = nb rows f h from by omega]
theorem f_next (rows : List S_Row) (f h : Int) (hr : rows.length < 100000) (hf : -100000 < f ∧ f < 100000) (hh : -100000 < h ∧ h < 100000) : f_page_Next rows f h = some (next rows f h) := by
  unfold f_page_Next next
  by_cases hc : f < 0 ∨ (rows.length : Int) ≤ f ∨ h < 2
  · rw [if_pos hc, cond_pos]
    rcases hc with hc | hc | hc <;> simp [hc]
  · rw [if_neg hc, cond_neg (by simp; omega), G_inR (by omega)]
    obtain ⟨n, rfl⟩ : ∃ n : Nat, f = n := ⟨f.toNat, by omega⟩
    have := next_loop rows n h hr (by omega) (by omega) 1000000 (n + 1) (by omega) (by unfold nb; omega) (by unfold nb; omega)
    rw [sel_self] at this
    exact this
theorem refNext_loop (rows : List S_Row) (f : Nat) (h : Int) (hr : rows.length < 100000) (hf : f < 100000) (hh : 2 ≤ h ∧ h < 100000) : ∀ (n e : Nat), f + 1 ≤ e → e ≤ nb rows f h → nb rows f h < n + e →
    iter (fun loop (s : (List Int) × Int) => f_R21_Next_b1 rows f h loop s.1 s.2) n (sel rows (f + 1) e, (e : Int)) = some (sel rows (f + 1) (nb rows f h))
  | 0, e, h1, h2, h3 => by omega
  | n + 1, e, h1, h2, h3 => by
    have ih := refNext_loop rows f h hr hf hh n (e + 1)
    rw [iter_succ, f_R21_Next_b1]
    dsimp only
    have hnb : nb rows f h = f + 1 + min (h - 1).toNat (rows.length - f) := rfl
    rw [G_imp (fun _ => inR_of (by omega)), G_imp (fun _ => inR_of (by omega))]
    by_cases he : e < nb rows f h
    · have hle := sel_len rows (f + 1) e
      rw [cond_pos (b := cond _ _ _) (by simp; omega), G_imp (fun hc => inR_of (by omega)), G_imp (fun hc => by simp at hc; omega), ok_end rows e (by omega)]
      have hs := sel_succ rows (f + 1) e h1
      have ih' := ih (by omega) (by omega) (by omega)
      rw [hs] at ih'
      by_cases hok : okEnd rows e = true
      · rw [cond_pos hok, G_room (by omega), f_R21_Next_k1, G_inR (by omega)]
        rw [if_pos hok] at ih'
        exact ih'
      · rw [cond_neg (by simpa using hok), f_R21_Next_k1, G_inR (by omega)]
        rw [if_neg hok, List.append_nil] at ih'
        exact ih'
    · rw [cond_neg (b := cond _ _ _) (by simp; omega), show e = nb rows f h from by omega]
theorem f_refNext (rows : List S_Row) (f h : Int) (hr : rows.length < 100000) (hf : -100000 < f ∧ f < 100000) (hh : -100000 < h ∧ h < 100000) : f_R21_Next rows f h = some (next rows f h) := by
  unfold f_R21_Next next
  by_cases hc : f < 0 ∨ h < 2
  · rw [if_pos (by omega), cond_pos]
    rcases hc with hc | hc <;> simp [hc]
  · rw [cond_neg (by simp; omega), G_inR (by omega)]
    obtain ⟨n, rfl⟩ : ∃ n : Nat, f = n := ⟨f.toNat, by omega⟩
    have := refNext_loop rows n h hr (by omega) (by omega) 1000000 (n + 1) (by omega) (by unfold nb; omega) (by unfold nb; omega)
    rw [sel_self] at this
    by_cases hl : (rows.length : Int) ≤ n
    · rw [if_pos (by omega)]
      rw [show nb rows n h = n + 1 from by unfold nb; omega, sel_self] at this
      exact this
    · rw [if_neg (by omega)]
      exact this

theorem legal_loop (rows : List S_Row) (ends : List Int) (h : Int) (hr : rows.length < 100000) (hl : ends.length < 100000) (hs : small ends) (hh : -100000 < h ∧ h < 100000) : ∀ (n i : Nat) (f : Int), i ≤ ends.length → ends.length < n + i → 0 ≤ f ∧ f < 1000000000000 →
    iter (fun loop (s : Int × Int) => f_page_Legal_b1 rows ends h loop s.1 s.2) n (f, (i : Int)) = some (legalFrom rows h f (ends.drop i))
  | 0, i, f, h1, h2, h3 => by omega
  | n + 1, i, f, h1, h2, h3 => by
    rw [iter_succ, f_page_Legal_b1]
    dsimp only
    by_cases hi : i < ends.length
    · have he := hs.get i
      have ih := legal_loop rows ends h hr hl hs hh n (i + 1) (ends.getD i 0) (by omega) (by omega)
      rw [cond_pos (by simpa using hi), G_pos (by omega), getD_drop ends i 0 hi]
      have hE : ends.getD ((i : Int)).toNat 0 = ends.getD i 0 := rfl
      generalize ends.getD ((i : Int)).toNat 0 = e at hE ⊢
      rw [← hE] at he ih ⊢
      rw [legalFrom]
      rw [G_imp (fun _ => inR_of (by omega))]
      by_cases hc : e ≤ f ∨ (rows.length : Int) < e ∨ h ≤ e - f
      · rw [if_pos hc, cond_pos]
        rcases hc with hc | hc | hc <;> simp [hc]
      · rw [if_neg hc, cond_neg (b := cond _ _ _) (by simp; omega), G_imp (fun _ => inR_of (by omega))]
        by_cases hk : e < rows.length ∧ keepAt rows (e - 1).toNat = true
        · rw [if_pos hk, G_imp (fun hc => by simp at hc; omega), cond_pos]
          have hk2 : (rows.getD (e - 1).toNat zS_Row).Keep = true := hk.2
          rw [hk2]
          simp [hk.1]
        · rw [if_neg hk, G_imp (fun hc2 => by
            simp at hc2
            omega), cond_neg, G_inR (by omega)]
          · exact ih (by omega)
          · by_cases hlt : e < rows.length
            · have hk2 : (rows.getD (e - 1).toNat zS_Row).Keep = false := by
                have : ¬ keepAt rows (e - 1).toNat = true := fun h => hk ⟨hlt, h⟩
                simpa [keepAt] using this
              rw [hk2]
              simp
            · simp [hlt]
    · rw [cond_neg (by simpa using hi), List.drop_eq_nil_of_le (by omega)]
      rfl
theorem f_legal (rows : List S_Row) (ends : List Int) (h : Int) (hr : rows.length < 100000) (hl : ends.length < 100000) (hs : small ends) (hh : -100000 < h ∧ h < 100000) : f_page_Legal rows ends h = some (legal rows ends h) := by
  have := legal_loop rows ends h hr hl hs hh 1000000 0 0 (by omega) (by omega) (by omega)
  exact this

theorem refLegal_loop (rows : List S_Row) (ends : List Int) (h : Int) (hr : rows.length < 100000) (hl : ends.length < 100000) (hs : small ends) (hh : -100000 < h ∧ h < 100000) : ∀ (n i : Nat) (f : Int), i ≤ ends.length → ends.length < n + i → 0 ≤ f ∧ f < 1000000000000 →
    iter (fun loop (s : Int × Int) => f_R21_Legal_b1 rows ends h loop s.1 s.2) n (f, (i : Int)) = some (legalFrom rows h f (ends.drop i))
  | 0, i, f, h1, h2, h3 => by omega
  | n + 1, i, f, h1, h2, h3 => by
    rw [iter_succ, f_R21_Legal_b1]
    dsimp only
    by_cases hi : i < ends.length
    · have he := hs.get i
      have ih := refLegal_loop rows ends h hr hl hs hh n (i + 1) (ends.getD i 0) (by omega) (by omega)
      rw [cond_pos (by simpa using hi), G_pos (by omega), getD_drop ends i 0 hi]
      have hE : ends.getD ((i : Int)).toNat 0 = ends.getD i 0 := rfl
      generalize ends.getD ((i : Int)).toNat 0 = e at hE ⊢
      rw [← hE] at he ih ⊢
      rw [legalFrom]
      rw [G_imp (fun _ => inR_of (by omega)), G_imp (fun _ => inR_of (by omega)), G_imp (fun _ => inR_of (by omega)), G_imp (fun hc => by simp at hc; omega)]
      by_cases hc : e ≤ f ∨ (rows.length : Int) < e ∨ h ≤ e - f
      · rw [if_pos hc, cond_pos]
        rcases hc with hc | hc | hc
        · simp [hc]
        · simp [hc]
        · have : h - 1 < e - f := by omega
          simp [this]
      · rw [if_neg hc]
        have h1 : ¬ e ≤ f := by omega
        have h2 : ¬ (rows.length : Int) < e := by omega
        have h3 : ¬ h - 1 < e - f := by omega
        by_cases hk : e < rows.length ∧ keepAt rows (e - 1).toNat = true
        · rw [if_pos hk, cond_pos]
          have hk2 : (rows.getD (e - 1).toNat zS_Row).Keep = true := hk.2
          rw [hk2]
          simp [hk.1]
        · rw [if_neg hk, cond_neg, G_inR (by omega)]
          · exact ih (by omega)
          · by_cases hlt : e < rows.length
            · have hk2 : (rows.getD (e - 1).toNat zS_Row).Keep = false := by
                have : ¬ keepAt rows (e - 1).toNat = true := fun h => hk ⟨hlt, h⟩
                simpa [keepAt] using this
              rw [hk2]
              simp [h1, h2, h3]
            · simp [hlt, h1, h2, h3]
    · rw [cond_neg (by simpa using hi), List.drop_eq_nil_of_le (by omega)]
      rfl
theorem f_refLegal (rows : List S_Row) (ends : List Int) (h : Int) (hr : rows.length < 100000) (hl : ends.length < 100000) (hs : small ends) (hh : -100000 < h ∧ h < 100000) : f_R21_Legal rows ends h = some (legal rows ends h) :=
  refLegal_loop rows ends h hr hl hs hh 1000000 0 0 (by omega) (by omega) (by omega)

theorem next_last_le (rows : List S_Row) (f h : Int) (hn : next rows f h ≠ []) : ∃ e : Nat, last (next rows f h) = e ∧ f < e ∧ e ≤ rows.length := by
  obtain ⟨n, h1, h2, h3, _⟩ := next_mem (last_mem hn)
  exact ⟨n, h1, h2, h3⟩
/-- What the filling's loop returns. -/
def fillOut (acc : List Int) (x : List Int × Option Nat) : List Int × Int × Int := match x.2 with
  | none => (acc ++ x.1, 0, 0)
  | some g => ([], g, 210)
theorem fill_loop (rows : List S_Row) (h : Int) (hr : rows.length < 100000) (hh : -100000 < h ∧ h < 100000) : ∀ (m n f : Nat) (acc : List Int), f ≤ rows.length → rows.length + 1 ≤ m + f → m ≤ n → acc.length ≤ f →
    iter (fun loop (s : (List Int) × Int) => f_page_Fill_b1 rows h loop s.1 s.2) n (acc, (f : Int)) = some (fillOut acc (fillGo rows h m f))
  | 0, n, f, acc, h1, h2, h3, h4 => by omega
  | m + 1, 0, f, acc, h1, h2, h3, h4 => by omega
  | m + 1, n + 1, f, acc, h1, h2, h3, h4 => by
    rw [iter_succ, f_page_Fill_b1]
    dsimp only
    unfold fillGo
    by_cases hf : f < rows.length
    · rw [if_pos hf, cond_pos (by simpa using hf), bind_some' (f_next rows f h hr (by omega) hh), bind_some' (f_last _ (by have := next_len rows f h; omega))]
      by_cases hn : next rows f h = []
      · rw [if_pos hn, cond_pos (by rw [hn]; rfl)]
        rfl
      · obtain ⟨e, he, he1, he2⟩ := next_last_le rows f h hn
        have ih := fill_loop rows h hr hh m n e (acc ++ [(e : Int)]) he2 (by omega) (by omega) (by simp; omega)
        rw [if_neg hn, cond_neg (by rw [he]; simp; omega), he, G_room (by omega)]
        simp only [Int.toNat_natCast]
        rw [ih]
        unfold fillOut
        cases hx : (fillGo rows h m e).2 <;> simp [hx]
    · rw [if_neg hf, cond_neg (by simpa using hf)]
      simp [fillOut]
theorem f_fill (rows : List S_Row) (h : Int) (hr : rows.length < 100000) (hh : -100000 < h ∧ h < 100000) : f_page_Fill rows h = some (fill rows h) := by
  unfold f_page_Fill fill
  by_cases hc : h < 4 ∨ 40 < h
  · rw [if_pos hc, cond_pos]
    rcases hc with hc | hc <;> simp [hc]
  · rw [if_neg hc, cond_neg (by simp; omega)]
    have := fill_loop rows h hr hh (rows.length + 1) 1000000 0 [] (by omega) (by omega) (by omega) (by simp)
    rw [show ((0 : Nat) : Int) = 0 from rfl] at this
    rw [this]
    unfold fillOut fillR
    cases hx : (fillGo rows h (rows.length + 1) 0).2 <;> simp [hx]
def fillRec (acc : List Int) (x : List Int × Option Nat) : S_Filled := match x.2 with
  | none => ⟨acc ++ x.1, 0, 0⟩
  | some g => ⟨[], g, 210⟩
theorem refFill_loop (rows : List S_Row) (h : Int) (z : S_Filled) (hr : rows.length < 100000) (hh : -100000 < h ∧ h < 100000) : ∀ (m n f : Nat) (acc : List Int), f ≤ rows.length → rows.length + 1 ≤ m + f → m ≤ n → acc.length ≤ f →
    iter (fun loop (s : S_Filled × (List Int) × Int) => f_R21_Fill_b1 rows h loop s.1 s.2.1 s.2.2) n (z, acc, (f : Int)) = some (fillRec acc (fillGo rows h m f))
  | 0, n, f, acc, h1, h2, h3, h4 => by omega
  | m + 1, 0, f, acc, h1, h2, h3, h4 => by omega
  | m + 1, n + 1, f, acc, h1, h2, h3, h4 => by
    rw [iter_succ, f_R21_Fill_b1]
    dsimp only
    unfold fillGo
    by_cases hf : f < rows.length
    · rw [if_pos hf, cond_pos (by simpa using hf), bind_some' (f_refNext rows f h hr (by omega) hh)]
      by_cases hn : next rows f h = []
      · rw [if_pos hn, cond_pos (by rw [hn]; rfl)]
        rfl
      · obtain ⟨e, he, he1, he2⟩ := next_last_le rows f h hn
        have ih := refFill_loop rows h z hr hh m n e (acc ++ [(e : Int)]) he2 (by omega) (by omega) (by simp; omega)
        have hp := List.length_pos_iff.2 hn
        have hlen := next_len rows f h
        have hg : (next rows f h).getD (((next rows f h).length : Int) - 1).toNat 0 = e := by
          rw [← he, show (((next rows f h).length : Int) - 1).toNat = (next rows f h).length - 1 from by omega, List.getD_eq_getElem?_getD, getLast_get _ hn]
          rfl
        rw [if_neg hn, cond_neg (by simp; omega), G_inR (by omega), G_pos (by omega), G_room (by omega), hg, he]
        simp only [Int.toNat_natCast]
        rw [ih]
        unfold fillRec
        cases hx : (fillGo rows h m e).2 <;> simp [hx]
    · rw [if_neg hf, cond_neg (by simpa using hf)]
      simp [fillRec]
theorem f_refFill (rows : List S_Row) (h : Int) (hr : rows.length < 100000) (hh : -100000 < h ∧ h < 100000) : f_R21_Fill rows h = some ⟨(fill rows h).1, (fill rows h).2.1, (fill rows h).2.2⟩ := by
  unfold f_R21_Fill fill
  by_cases hc : h < 4 ∨ 40 < h
  · rw [if_pos hc, cond_pos]
    rcases hc with hc | hc <;> simp [hc]
  · rw [if_neg hc, cond_neg (by simp; omega)]
    have := refFill_loop rows h ⟨[], 0, 0⟩ hr hh (rows.length + 1) 1000000 0 [] (by omega) (by omega) (by omega) (by simp)
    rw [show ((0 : Nat) : Int) = 0 from rfl] at this
    rw [this]
    unfold fillRec fillR
    cases hx : (fillGo rows h (rows.length + 1) 0).2 <;> simp [hx]

theorem f_height (n : Int) (hn : 0 ≤ n ∧ n ≤ 255) : f_R21_Height n = some (height n) := by
  unfold f_R21_Height height
  have := Int.tmod_eq_emod_of_nonneg (b := 8) hn.1
  rw [wrap_i64 (by omega), G_inR (by omega)]
end Go.Proofs.Ythfdgicfcjkfgaa
