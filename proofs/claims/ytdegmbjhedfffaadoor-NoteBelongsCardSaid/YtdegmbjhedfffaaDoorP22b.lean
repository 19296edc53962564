/-
  Own work. Chapter 22, plain part: the laws NoteNumbersMatchReference and NoteBelongs.
-/
import Derived.Test.YtdegmbjhedfffaaDoorP22a
import Derived.Test.YtdegmbjhedfffaaDoorSh
set_option linter.unusedSimpArgs false
set_option linter.unusedVariables false
set_option maxRecDepth 100000
set_option linter.unusedSimpArgs false
set_option linter.unusedVariables false
namespace Go.Proofs.YtdegmbjhedfffaaDoor
open Go.Abs
theorem wrap_rem {n m : Int} (h0 : 0 ≤ n) (hm : 0 < m) (hm2 : m < 1000000) : IntKind.wrap .i64 (Int.tmod n m) = n % m ∧ 0 ≤ n % m ∧ n % m < m := by
  have h1 := Int.emod_nonneg n (show m ≠ 0 by omega)
  have h2 := Int.emod_lt_of_pos n hm
  rw [Int.tmod_eq_emod_of_nonneg h0]
  exact ⟨wrap_i64 (by omega), h1, h2⟩
theorem kinds_loop (t : List Int) (ht : ∀ x ∈ t, 0 ≤ x) : ∀ (n i : Nat) (v : List Int), 20 < n + i → i ≤ t.length → i ≤ 20 → v.length = i →
    ∃ r, iter (fun loop (s : (List Int) × Int) => f_R22_Kinds_b1 t 20 loop s.1 s.2) n (v, (i : Int)) = some r ∧ r.length ≤ 20
  | 0, i, v, h1, h2, h3, h4 => by omega
  | n + 1, i, v, h1, h2, h3, h4 => by
    rw [iter_succ]
    dsimp only
    rw [f_R22_Kinds_b1]
    by_cases h : i < t.length ∧ i < 20
    · obtain ⟨e1, e2, e3⟩ := wrap_rem (n := t.getD i 0) (m := 12) (ht _ (getD_mem t i h.1)) (by omega) (by omega)
      rw [cond_pos (by rw [and_tt]; simp; omega), G_pos (by omega), Int.toNat_natCast, e1, G_inR (by omega)]
      have key : ∀ x : Int, ∃ r, f_R22_Kinds_k2 (iter (fun loop (s : (List Int) × Int) => f_R22_Kinds_b1 t 20 loop s.1 s.2) n) v (i : Int) x = some r ∧ r.length ≤ 20 := fun x => by
        rw [f_R22_Kinds_k2, G_room (by omega), f_R22_Kinds_k1, G_inR (by omega), show (i : Int) + 1 = ((i + 1 : Nat) : Int) from by omega]
        exact kinds_loop t ht n (i + 1) _ (by omega) (by omega) (by omega) (by simp [h4])
      rw [cond_dec]
      split
      · exact key _
      · exact key _
    · rw [cond_neg (by rw [and_tt]; simp; omega)]
      exact ⟨v, rfl, by omega⟩
theorem f_kinds {t : List Int} (ht : okList (okInt .u8) t) : ∃ r, f_R22_Kinds t 20 = some r ∧ r.length ≤ 20 :=
  kinds_loop t (fun x hx => (ht.1 x hx).1) 1000000 0 [] (by omega) (by omega) (by omega) rfl
theorem after_some (t : List Int) (i : Int) (h : t.length ≤ 1000) : ∃ r, f_note_After t i = some r ∧ r.length ≤ 1000 := by
  unfold f_note_After
  rw [G_pos h]
  refine ⟨_, rfl, ?_⟩
  split
  · unfold nums
    rw [upto_length]
    have := run_le t i.toNat
    omega
  · simp
theorem nnm_inner (t1 x3 : List Int) (k : Nat) (loop5 : Int → Option Bool) (L : List Int) (hL : [x3, t1].getD k [] = L) (hb : L.length ≤ 20) (hk : k ≤ 2) : ∀ (n i : Nat), L.length < n + i → i ≤ L.length →
    iter (fun loop (s : Int) => f_L22_NoteNumbersMatchReference_b1 t1 x3 loop5 (k : Int) loop s) n (i : Int) = loop5 ((k + 1 : Nat) : Int)
  | 0, i, h1, h2 => by omega
  | n + 1, i, h1, h2 => by
    rw [iter_succ, f_L22_NoteNumbersMatchReference_b1, Int.toNat_natCast, hL]
    by_cases h : i < L.length
    · obtain ⟨r, hr, hrl⟩ := after_some L (i : Int) (by omega)
      rw [cond_pos (by simpa using h), bind_some' hr, f_refAfter L _ (by omega), bind_some' hr, bind_some' (ints_self r (by omega)), cond_neg (by rfl), G_inR (by omega), show (i : Int) + 1 = ((i + 1 : Nat) : Int) from by omega]
      exact nnm_inner t1 x3 k loop5 L hL hb hk n (i + 1) (by omega) (by omega)
    · rw [cond_neg (by simpa using h), G_inR (by omega)]
      rfl
theorem nnm_outer (t1 x3 : List Int) (t2 : Int) (h1 : t1.length ≤ 20) (h3 : x3.length ≤ 20) : ∀ (n k : Nat), 2 < n + k → k ≤ 2 →
    iter (fun loop (s : Int) => f_L22_NoteNumbersMatchReference_b2 t1 t2 true x3 loop s) n (k : Int) = some true
  | 0, k, e1, e2 => by omega
  | n + 1, k, e1, e2 => by
    rw [iter_succ, f_L22_NoteNumbersMatchReference_b2]
    by_cases h : k < 2
    · obtain ⟨L, hL, hLl⟩ : ∃ L, [x3, t1].getD k [] = L ∧ L.length ≤ 20 := by
        match k, h with
        | 0, _ => exact ⟨x3, rfl, h3⟩
        | 1, _ => exact ⟨t1, rfl, h1⟩
      obtain ⟨r, hr, hrl⟩ := after_some L t2 (by omega)
      have hnl := nb_len 0 L
      rw [cond_pos (by simp; omega), G_pos (by simp; omega), Int.toNat_natCast, hL, bind_some' (f_numbers L (by omega)), bind_some' (f_refNumbers L (by omega)), bind_some' (ints_self _ (by omega))]
      rw [bind_some' (a := r) (by rw [cond_pos (by rfl), hr]), bind_some' (a := r) (by rw [cond_pos (by rfl), f_refAfter L _ (by omega), hr]), bind_some' (a := true) (by rw [cond_pos (by rfl), ints_self r (by omega)])]
      rw [cond_neg (b := cond _ _ _) (by rfl)]
      refine (nnm_inner t1 x3 k _ L hL hLl (by omega) 1000000 0 (by omega) (by omega)).trans ?_
      exact nnm_outer t1 x3 t2 h1 h3 n (k + 1) (by omega) (by omega)
    · rw [cond_neg (by simp; omega)]
theorem plain_NoteNumbersMatchReference {t0 t1 : List Int} {t2 : Int} (h0 : okList (okInt .u8) t0) (h1 : okList (okInt .i64) t1) (h2 : okInt .i64 t2) : f_L22_NoteNumbersMatchReference t0 t1 t2 = some true := by
  unfold f_L22_NoteNumbersMatchReference
  rw [bind_some' sanity_true]
  by_cases h : 20 < t1.length
  · rw [cond_pos (by simp; omega)]
  · obtain ⟨r, hr, hl⟩ := f_kinds h0
    rw [cond_neg (by simp; omega), bind_some' hr]
    exact nnm_outer t1 r t2 (by omega) hl 1000000 0 (by omega) (by omega)
theorem nums_getD (c m i : Nat) (h : i < m) : (nums c m).getD i 0 = ((c + 1 + i : Nat) : Int) := by
  unfold nums upto
  rw [List.getD_eq_getElem?_getD, List.getElem?_map, List.getElem?_range h]
  rfl
theorem nums_len (c m : Nat) : (nums c m).length = m := by unfold nums; rw [upto_length]
theorem bel_inner (loop7 : Int × Int × Int → Option Bool) (i c m v12 : Nat) (hb : c + m < 1000) (hi : i < 1000) : ∀ (n j : Nat), m < n + j → j ≤ m →
    iter (fun loop (s : Int × Int) => f_L22_NoteBelongs_b1 loop7 (i : Int) (v12 : Int) (nums c m) loop s.1 s.2) n (((c + 1 + j : Nat) : Int), (j : Int)) = loop7 ((v12 : Int), ((c + 1 + m : Nat) : Int), ((i + 1 : Nat) : Int))
  | 0, j, h1, h2 => by omega
  | n + 1, j, h1, h2 => by
    rw [iter_succ]
    dsimp only
    rw [f_L22_NoteBelongs_b1, nums_len]
    by_cases h : j < m
    · rw [cond_pos (by simpa using h), G_pos (by omega), Int.toNat_natCast, nums_getD c m j h, cn_neg rfl, G_inR (by omega), G_inR (by omega)]
      have := bel_inner loop7 i c m v12 hb hi n (j + 1) (by omega) (by omega)
      rw [show c + 1 + (j + 1) = c + 1 + j + 1 from by omega] at this
      exact this
    · obtain rfl : j = m := by omega
      rw [cond_neg (by simp), f_L22_NoteBelongs_k1, G_inR (by omega)]
      rfl
theorem lead_le : ∀ l : List Int, lead l ≤ l.length
  | [] => by simp [lead]
  | k :: r => by rw [lead]; have := lead_le r; split <;> simp <;> omega
theorem cnt_lead (ks : List Int) : ∀ (m i : Nat), m ≤ lead (ks.drop i) → i ≤ ks.length → cnt ks (i + m) = cnt ks i + m
  | 0, i, _, _ => rfl
  | m + 1, i, h, hi => by
    by_cases hl : i < ks.length
    · rw [getD_drop ks i 0 hl, lead] at h
      split at h
      · rename_i h4
        have h5 := cnt_succ ks i hl
        rw [← List.getD_eq_getElem?_getD, if_pos h4] at h5
        have := cnt_lead ks m (i + 1) (by omega) (by omega)
        rw [show i + (m + 1) = i + 1 + m from by omega, this, h5]
        omega
      · omega
    · rw [List.drop_eq_nil_of_le (by omega)] at h
      simp [lead] at h
theorem lead_stop (ks : List Int) (i : Nat) (h : i + lead (ks.drop i) < ks.length) : ks.getD (i + lead (ks.drop i)) 0 ≠ 4 := by
  generalize hd : ks.drop i = d at h
  have hg : ∀ m, ks.getD (i + m) 0 = d.getD m 0 := fun m => by rw [← hd, List.getD_eq_getElem?_getD, List.getD_eq_getElem?_getD, List.getElem?_drop]
  have hlen : d.length = ks.length - i := by rw [← hd, List.length_drop]
  rw [hg]
  have hl : lead d < d.length := by omega
  clear hd hg hlen h
  induction d with
  | nil => simp at hl
  | cons k r ih =>
    rw [lead] at hl ⊢
    split
    · rename_i h4
      rw [if_pos h4] at hl
      simp at hl
      simpa using ih hl
    · simpa
/-- The count of the notes ahead of the block i that are given by then: all ahead of i, and those that follow the last block. -/
def given (ks : List Int) (i : Nat) : Nat := cnt ks (i + lead (ks.drop i))
theorem given_step (ks : List Int) (i : Nat) (h0 : ks.getD 0 0 ≠ 4) (hi : i < ks.length) : given ks (i + 1) = if ks.getD i 0 = 4 then given ks i else cnt ks i + run ks i := by
  unfold given
  split
  · rename_i h4
    rw [getD_drop ks i 0 hi, lead, if_pos h4, show i + (lead (ks.drop (i + 1)) + 1) = i + 1 + lead (ks.drop (i + 1)) from by omega]
  · rename_i h4
    rw [cnt_lead ks _ (i + 1) (Nat.le_refl _) (by omega), run_lead]
    have h5 := cnt_succ ks i hi
    rw [← List.getD_eq_getElem?_getD, if_neg h4] at h5
    omega
theorem given_at (ks : List Int) (i : Nat) (hi : i < ks.length) (h4 : ks.getD i 0 ≠ 4) : given ks i = cnt ks i := by
  unfold given
  rw [getD_drop ks i 0 hi, lead, if_neg h4]
  rfl
theorem bel_outer (ks : List Int) (h0 : ks.getD 0 0 ≠ 4) (hb : ks.length ≤ 20) : ∀ (n i : Nat), ks.length < n + i → i ≤ ks.length →
    iter (fun loop (s : Int × Int × Int) => f_L22_NoteBelongs_b2 true ks loop s.1 s.2.1 s.2.2) n ((cnt ks i : Int), ((given ks i + 1 : Nat) : Int), (i : Int)) = some true
  | 0, i, h1, h2 => by omega
  | n + 1, i, h1, h2 => by
    rw [iter_succ]
    dsimp only
    rw [f_L22_NoteBelongs_b2]
    have hc := cnt_le ks i
    by_cases hi : i < ks.length
    · have ih := bel_outer ks h0 hb n (i + 1) (by omega) (by omega)
      have h5 := cnt_succ ks i hi
      have h6 := given_step ks i h0 hi
      rw [← List.getD_eq_getElem?_getD] at h5
      rw [cond_pos (by simpa using hi), G_pos (by omega), Int.toNat_natCast]
      by_cases h4 : ks.getD i 0 = 4
      · rw [cb_pos h4, G_inR (by omega), f_L22_NoteBelongs_k2]
        rw [if_pos h4] at h5 h6
        have ha : f_note_After ks (i : Int) = some (nums 0 0) := by
          unfold f_note_After
          rw [G_pos (by omega), if_neg (fun h => h.2.2 (by rw [Int.toNat_natCast, ← List.getD_eq_getElem?_getD]; exact h4))]
          rfl
        have hg : given ks i + 0 < 1000 := by
          have := cnt_le ks (i + lead (ks.drop i))
          have := lead_le (ks.drop i)
          simp at this
          unfold given
          omega
        rw [bind_some' ha]
        have e : iter (fun loop (s : Int × Int) => f_L22_NoteBelongs_b1 (iter (fun loop (s : Int × Int × Int) => f_L22_NoteBelongs_b2 true ks loop s.1 s.2.1 s.2.2) n) (i : Int) ((cnt ks i : Int) + 1) (nums 0 0) loop s.1 s.2) 1000000 (((given ks i + 1 : Nat) : Int), 0) = iter (fun loop (s : Int × Int × Int) => f_L22_NoteBelongs_b2 true ks loop s.1 s.2.1 s.2.2) n ((cnt ks i : Int) + 1, ((given ks i + 1 : Nat) : Int), ((i + 1 : Nat) : Int)) := by
          rw [iter_succ]
          dsimp only
          rw [f_L22_NoteBelongs_b1, nums_len, cond_neg (by simp), f_L22_NoteBelongs_k1, G_inR (by omega)]
          rfl
        rw [e, show (cnt ks i : Int) + 1 = ((cnt ks (i + 1) : Nat) : Int) from by omega, ← h6]
        exact ih
      · rw [cb_neg h4, f_L22_NoteBelongs_k2]
        rw [if_neg h4] at h5 h6
        have ha : f_note_After ks (i : Int) = some (nums (cnt ks i) (run ks i)) := by
          unfold f_note_After
          rw [G_pos (by omega), if_pos ⟨by omega, by omega, by rw [Int.toNat_natCast, ← List.getD_eq_getElem?_getD]; exact h4⟩, Int.toNat_natCast]
        rw [bind_some' ha, given_at ks i hi h4]
        have hr := run_le ks i
        have key := bel_inner (iter (fun loop (s : Int × Int × Int) => f_L22_NoteBelongs_b2 true ks loop s.1 s.2.1 s.2.2) n) i (cnt ks i) (run ks i) (cnt ks i) (by omega) (by omega) 1000000 0 (by omega) (by omega)
        rw [Nat.add_zero] at key
        refine key.trans ?_
        rw [show cnt ks i + 1 + run ks i = given ks (i + 1) + 1 from by omega, show cnt ks i = cnt ks (i + 1) from by omega]
        exact ih
    · obtain rfl : i = ks.length := by omega
      rw [cond_neg (by simp), G_pos (fun _ => by unfold inR; omega)]
      have : given ks ks.length = cnt ks ks.length := by
        unfold given
        rw [List.drop_eq_nil_of_le (Nat.le_refl _)]
        rfl
      rw [this]
      simp
theorem plain_NoteBelongs {t0 : List Int} (h0 : okList (okInt .u8) t0) : f_L22_NoteBelongs t0 = some true := by
  unfold f_L22_NoteBelongs
  obtain ⟨r, hr, hl⟩ := f_kinds h0
  rw [bind_some' sanity_true, bind_some' hr, G_pos (by simp)]
  have fin : ∀ ks : List Int, ks.getD 0 0 ≠ 4 → ks.length ≤ 20 → f_L22_NoteBelongs_k3 true ks = some true := fun ks k0 kl => by
    unfold f_L22_NoteBelongs_k3
    have := bel_outer ks k0 kl 1000000 0 (by omega) (by omega)
    have e : given ks 0 = 0 := by
      unfold given
      cases ks with
      | nil => rfl
      | cons k r => rw [List.drop_zero, lead, if_neg (by simpa using k0)]; rfl
    rw [e] at this
    exact this
  rw [and_tt]
  by_cases h : 0 < r.length ∧ r.getD 0 0 = 4
  · rw [cond_pos (by rw [Bool.and_eq_true]; exact ⟨by simpa using h.1, beq_iff_eq.2 h.2⟩), G_pos (by have := h.1; omega)]
    refine fin _ ?_ (by simpa using hl)
    cases r with
    | nil => simp at h
    | cons k r => simp
  · rw [cond_neg (by
      rw [Bool.and_eq_false_iff]
      by_cases h1 : 0 < r.length
      · exact .inr (beq_eq_false_iff_ne.2 fun e => h ⟨h1, e⟩)
      · exact .inl (decide_eq_false (by omega)))]
    refine fin _ (fun e => ?_) hl
    cases r with
    | nil => simp at e
    | cons k r => exact h ⟨by simp, e⟩
end Go.Proofs.YtdegmbjhedfffaaDoor
