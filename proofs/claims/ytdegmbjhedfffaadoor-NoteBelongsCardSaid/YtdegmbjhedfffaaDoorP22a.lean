/-
  Own work. Chapter 22, plain part: numbers of notes; lists of numbers are compared.
-/
import Derived.Test.YtdegmbjhedfffaaDoorPNg
set_option linter.unusedSimpArgs false
set_option linter.unusedVariables false
set_option maxRecDepth 100000
set_option linter.unusedSimpArgs false
set_option linter.unusedVariables false
namespace Go.Proofs.YtdegmbjhedfffaaDoor
open Go.Abs
theorem sanity_true : f_L22_sanity = some true := by kernel_rfl
theorem ints_loop (t0 t1 : List Int) (hl : t0.length = t1.length) (hb : t0.length < 1000000000) : ∀ (n i : Nat), t0.length < n + i → i ≤ t0.length →
    iter (fun loop (s : Int) => f_R22_Ints_b1 t0 t1 loop s) n (i : Int) = some (decide (t0.drop i = t1.drop i))
  | 0, i, h1, h2 => by omega
  | n + 1, i, h1, h2 => by
    rw [iter_succ]
    rw [f_R22_Ints_b1]
    by_cases h : i < t0.length
    · have ih := ints_loop t0 t1 hl hb n (i + 1) (by omega) (by omega)
      rw [cond_pos (by simpa using h), G_pos (by omega), G_pos (by omega), G_inR (by omega)]
      rw [getD_drop t0 i 0 h, getD_drop t1 i 0 (by omega)]
      simp only [Int.toNat_natCast]
      by_cases he : t0.getD i 0 = t1.getD i 0
      · rw [cond_neg (by rw [he]; exact bne_self_eq_false _)]
        rw [show ((i : Int) + 1) = ((i + 1 : Nat) : Int) from by omega, ih]
        simp only [he, List.cons.injEq, true_and]
      · rw [cond_pos (bne_iff_ne.2 he)]
        have : ¬ (t0.getD i 0 :: t0.drop (i + 1) = t1.getD i 0 :: t1.drop (i + 1)) := fun e => he (List.cons.inj e).1
        rw [decide_eq_false this]
    · rw [cond_neg (by simpa using h)]
      have e : i = t0.length := by omega
      rw [List.drop_eq_nil_of_le (by omega), List.drop_eq_nil_of_le (by omega)]
      simp
theorem f_ints (t0 t1 : List Int) (hb : t0.length < 900000) : f_R22_Ints t0 t1 = some (decide (t0 = t1)) := by
  unfold f_R22_Ints
  by_cases hl : t0.length = t1.length
  · rw [cond_neg (by simp [hl])]
    have := ints_loop t0 t1 hl (by omega) 1000000 0 (by omega) (by omega)
    simpa using this
  · rw [cond_pos (by simp; omega)]
    have : ¬ t0 = t1 := fun e => hl (by rw [e])
    simp [this]
theorem ints_self (l : List Int) (hb : l.length < 900000) : f_R22_Ints l l = some true := by rw [f_ints l l hb]; simp
/-- The numbers of the notes, from a count on. -/
def nb (c : Nat) : List Int → List Int
  | [] => []
  | k :: r => if k = 4 then ((c + 1 : Nat) : Int) :: nb (c + 1) r else 0 :: nb c r
theorem nb_len (c : Nat) (l : List Int) : (nb c l).length = l.length := by
  induction l generalizing c with
  | nil => rfl
  | cons k r ih => rw [nb]; split <;> simp [ih]
theorem refNumbers_loop (t0 : List Int) (hb : t0.length < 100000) : ∀ (n i : Nat) (v : List Int) (c : Nat), t0.length < n + i → i ≤ t0.length → v.length = i → c ≤ i →
    iter (fun loop (s : (List Int) × Int × Int) => f_R22_Numbers_b1 t0 loop s.1 s.2.1 s.2.2) n (v, (c : Int), (i : Int)) = some (v ++ nb c (t0.drop i))
  | 0, i, v, c, h1, h2, h3, h4 => by omega
  | n + 1, i, v, c, h1, h2, h3, h4 => by
    rw [iter_succ]
    dsimp only
    rw [f_R22_Numbers_b1]
    by_cases h : i < t0.length
    · rw [cond_pos (by simpa using h), G_pos (by omega), getD_drop t0 i 0 h]
      simp only [Int.toNat_natCast]
      by_cases he : t0.getD i 0 = 4
      · rw [cb_pos he, G_inR (by omega), G_room (by omega), f_R22_Numbers_k1, G_inR (by omega), nb, if_pos he]
        rw [show ((i : Int) + 1) = ((i + 1 : Nat) : Int) from by omega, show ((c : Int) + 1) = ((c + 1 : Nat) : Int) from by omega]
        rw [refNumbers_loop t0 hb n (i + 1) _ (c + 1) (by omega) (by omega) (by simp [h3]) (by omega)]
        simp
      · rw [cb_neg he, G_room (by omega), f_R22_Numbers_k1, G_inR (by omega), nb, if_neg he]
        rw [show ((i : Int) + 1) = ((i + 1 : Nat) : Int) from by omega]
        rw [refNumbers_loop t0 hb n (i + 1) _ c (by omega) (by omega) (by simp [h3]) (by omega)]
        simp
    · rw [cond_neg (by simpa using h), List.drop_eq_nil_of_le (by omega), nb]
      simp
theorem f_refNumbers (t0 : List Int) (hb : t0.length < 100000) : f_R22_Numbers t0 = some (nb 0 t0) := by
  have := refNumbers_loop t0 hb 1000000 0 [] 0 (by omega) (by omega) rfl (by omega)
  simpa [f_R22_Numbers] using this
theorem set_app {α : Type} (a : List α) (x y : α) (r : List α) : (a ++ x :: r).set a.length y = a ++ y :: r := by
  rw [List.set_append, if_neg (by omega)]
  simp
theorem numbers_loop (t0 : List Int) (hb : t0.length < 100000) : ∀ (n i : Nat) (v : List Int) (c : Nat), t0.length < n + i → i ≤ t0.length → v.length = i → c ≤ i →
    iter (fun loop (s : (List Int) × Int × Int) => f_note_Numbers_b1 t0 loop s.1 s.2.1 s.2.2) n (v ++ List.replicate (t0.length - i) 0, (c : Int), (i : Int)) = some (v ++ nb c (t0.drop i))
  | 0, i, v, c, h1, h2, h3, h4 => by omega
  | n + 1, i, v, c, h1, h2, h3, h4 => by
    rw [iter_succ]
    dsimp only
    rw [f_note_Numbers_b1]
    by_cases h : i < t0.length
    · have hrep : List.replicate (t0.length - i) (0 : Int) = 0 :: List.replicate (t0.length - (i + 1)) 0 := by
        rw [show t0.length - i = (t0.length - (i + 1)) + 1 from by omega, List.replicate_succ]
      rw [cond_pos (by simpa using h), G_pos (by omega), getD_drop t0 i 0 h, hrep]
      simp only [Int.toNat_natCast]
      by_cases he : t0.getD i 0 = 4
      · rw [cb_pos he, G_inR (by omega), G_pos (by simp; omega), f_note_Numbers_k1, G_inR (by omega), nb, if_pos he]
        rw [show ((i : Int) + 1) = ((i + 1 : Nat) : Int) from by omega, show ((c : Int) + 1) = ((c + 1 : Nat) : Int) from by omega]
        have hs := set_app v 0 ((c + 1 : Nat) : Int) (List.replicate (t0.length - (i + 1)) 0)
        rw [h3] at hs
        rw [hs]
        have ih := numbers_loop t0 hb n (i + 1) (v ++ [((c + 1 : Nat) : Int)]) (c + 1) (by omega) (by omega) (by simp [h3]) (by omega)
        rw [List.append_assoc, List.append_assoc] at ih
        exact ih
      · rw [cb_neg he, f_note_Numbers_k1, G_inR (by omega), nb, if_neg he]
        rw [show ((i : Int) + 1) = ((i + 1 : Nat) : Int) from by omega]
        have ih := numbers_loop t0 hb n (i + 1) (v ++ [0]) c (by omega) (by omega) (by simp [h3]) (by omega)
        rw [List.append_assoc, List.append_assoc] at ih
        exact ih
    · rw [cond_neg (by simpa using h), List.drop_eq_nil_of_le (by omega), nb, show t0.length - i = 0 from by omega]
      simp
theorem f_numbers (t0 : List Int) (hb : t0.length < 100000) : f_note_Numbers t0 = some (nb 0 t0) := by
  unfold f_note_Numbers
  rw [G_pos (by omega)]
  have := numbers_loop t0 hb 1000000 0 [] 0 (by omega) (by omega) rfl (by omega)
  simpa using this
/-- The first notes among kinds. -/
def lead : List Int → Nat
  | [] => 0
  | k :: r => if k = 4 then lead r + 1 else 0
theorem run_lead (ks : List Int) (i : Nat) : run ks i = lead (ks.drop (i + 1)) := by
  unfold run
  generalize ks.drop (i + 1) = l
  induction l with
  | nil => rfl
  | cons k r ih =>
    rw [lead, List.takeWhile_cons]
    by_cases h : k = 4
    · simp [h, ih]
    · simp [h]
theorem nb_drop : ∀ (l : List Int) (c i : Nat), (nb c l).drop i = nb (c + cnt l i) (l.drop i)
  | [], c, i => by simp [nb]
  | k :: r, c, 0 => by simp [cnt]
  | k :: r, c, i + 1 => by
    rw [nb, List.drop_succ_cons]
    have hc : cnt (k :: r) (i + 1) = (if k = 4 then 1 else 0) + cnt r i := by
      unfold cnt
      rw [List.take_succ_cons, List.filter_cons]
      by_cases h : k = 4
      · simp [h]; omega
      · simp [h]
    by_cases h : k = 4
    · rw [if_pos h, List.drop_succ_cons, nb_drop r (c + 1) i, hc, if_pos h, Nat.add_assoc]
    · rw [if_neg h, List.drop_succ_cons, nb_drop r c i, hc, if_neg h, Nat.zero_add]
theorem refAfter_loop (t0 : List Int) (hb : t0.length < 100000) : ∀ (n i : Nat) (v : List Int) (c : Nat), t0.length < n + i → i ≤ t0.length → v.length ≤ i → (nb 0 t0).drop i = nb c (t0.drop i) →
    iter (fun loop (s : (List Int) × Int) => f_R22_After_b1 t0 (nb 0 t0) loop s.1 s.2) n (v, (i : Int)) = some (v ++ nums c (lead (t0.drop i)))
  | 0, i, v, c, h1, h2, h3, h4 => by omega
  | n + 1, i, v, c, h1, h2, h3, h4 => by
    rw [iter_succ]
    dsimp only
    rw [f_R22_After_b1]
    have hl := nb_len 0 t0
    by_cases h : i < t0.length
    · rw [G_pos (by simp <;> omega), and_tt, getD_drop t0 i 0 h]
      simp only [Int.toNat_natCast]
      by_cases he : t0.getD i 0 = 4
      · have h5 := h4
        rw [getD_drop t0 i 0 h, nb, if_pos he, getD_drop (nb 0 t0) i 0 (by omega)] at h5
        obtain ⟨h6, h7⟩ := List.cons.inj h5
        rw [cond_pos (by rw [Bool.and_eq_true]; exact ⟨by simpa using h, beq_iff_eq.2 he⟩), G_pos (by omega), G_room (by omega), G_inR (by omega), h6, lead, if_pos he, show ((i : Int) + 1) = ((i + 1 : Nat) : Int) from by omega]
        rw [refAfter_loop t0 hb n (i + 1) _ (c + 1) (by omega) (by omega) (by simp; omega) h7]
        have : nums c (lead (t0.drop (i + 1)) + 1) = ((c + 1 : Nat) : Int) :: nums (c + 1) (lead (t0.drop (i + 1))) := by
          unfold nums upto
          rw [List.range_succ_eq_map, List.map_cons, List.map_map]
          congr 1
          refine List.map_congr_left fun j _ => ?_
          simp only [Function.comp]
          congr 1
          omega
        rw [this]
        simp
      · rw [cond_neg (by simp only [Bool.and_eq_false_iff]; exact .inr (beq_eq_false_iff_ne.2 he)), lead, if_neg he]
        simp [nums, upto]
    · rw [G_pos (by simp <;> omega), and_tt, cond_neg (by simp <;> omega), List.drop_eq_nil_of_le (by omega), lead]
      simp [nums, upto]
theorem f_refAfter (t0 : List Int) (i : Int) (hb : t0.length ≤ 1000) : f_R22_After t0 i = f_note_After t0 i := by
  unfold f_R22_After f_note_After
  rw [G_pos hb]
  by_cases h : 0 ≤ i ∧ i < t0.length ∧ t0[i.toNat]?.getD 0 ≠ 4
  · rw [if_pos h, G_pos (by simp <;> omega), or_tt, or_tt]
    have hg : t0.getD i.toNat 0 = t0[i.toNat]?.getD 0 := by rw [List.getD_eq_getElem?_getD]
    rw [cond_neg (by simp only [Bool.or_eq_false_iff, decide_eq_false_iff_not, hg]; exact ⟨⟨by omega, by omega⟩, beq_eq_false_iff_ne.2 h.2.2⟩), bind_some' (f_refNumbers t0 (by omega)), G_inR (by omega)]
    rw [show i + 1 = ((i.toNat + 1 : Nat) : Int) from by omega]
    have := refAfter_loop t0 (by omega) 1000000 (i.toNat + 1) [] (cnt t0 (i.toNat + 1)) (by omega) (by omega) (by simp) (by rw [nb_drop, Nat.zero_add])
    rw [this, run_lead, cnt_succ t0 i.toNat (by omega), if_neg h.2.2]
    simp
  · rw [if_neg h]
    by_cases h1 : i < 0 ∨ (t0.length : Int) ≤ i
    · rw [G_pos (by simp <;> omega), or_tt, or_tt, cond_pos (by simp; omega)]
    · have hg : t0.getD i.toNat 0 = t0[i.toNat]?.getD 0 := by rw [List.getD_eq_getElem?_getD]
      have h4 : t0[i.toNat]?.getD 0 = 4 := by
        by_cases h4 : t0[i.toNat]?.getD 0 = 4
        · exact h4
        · exact absurd ⟨by omega, by omega, h4⟩ h
      rw [G_pos (by simp <;> omega), or_tt, or_tt, cond_pos (by simp [hg, h4])]
end Go.Proofs.YtdegmbjhedfffaaDoor
