/-
  Own work. Chapter 02, plain part: TableSpoils.
-/
import Derived.Test.YtlhpkjgpcenfdaaDoorP02g
import Derived.Test.YtlhpkjgpcenfdaaDoorWS1
set_option linter.unusedSimpArgs false
set_option linter.unusedVariables false
set_option linter.unusedSimpArgs false
set_option linter.unusedVariables false
namespace Go.Proofs.YtlhpkjgpcenfdaaDoor
open Go.Abs
theorem any_take {α : Type} (l : List α) (d : α) (j : Nat) (hj : j ≤ l.length) (p : α → Bool) : (l.take j).any p = true ↔ ∃ k, k < j ∧ p (l.getD k d) = true := by
  rw [List.any_eq_true]
  constructor
  · rintro ⟨x, hx, hp⟩
    obtain ⟨k, hk, rfl⟩ := List.mem_iff_getElem.1 hx
    rw [List.length_take] at hk
    refine ⟨k, by omega, ?_⟩
    rw [List.getElem_take] at hp
    rw [List.getD_eq_getElem?_getD, List.getElem?_eq_getElem (by omega)]
    exact hp
  · rintro ⟨k, hk, hp⟩
    refine ⟨l.getD k d, ?_, hp⟩
    rw [← getD_take' l j k d hk]
    exact getD_mem' _ _ _ (by rw [List.length_take]; omega)
theorem badR_iff (m : Int) (l : List S_Rule) (j : Nat) (hj : j < l.length) : badR m l j = true ↔ soundB (l.getD j zS_Rule) m = false ∨ ∃ k, k < j ∧ l.getD k zS_Rule = l.getD j zS_Rule := by
  unfold badR
  rw [Bool.or_eq_true, any_take l zS_Rule j (by omega)]
  unfold sameB
  simp only [Bool.not_eq_true', decide_eq_true_eq]
theorem badR_not (m : Int) (l : List S_Rule) (j : Nat) (hj : j < l.length) : badR m l j = false ↔ soundB (l.getD j zS_Rule) m = true ∧ ∀ k, k < j → l.getD k zS_Rule ≠ l.getD j zS_Rule := by
  constructor
  · intro h
    have h2 : ¬ badR m l j = true := by rw [h]; simp
    rw [badR_iff m l j hj] at h2
    refine ⟨?_, fun k hk e => h2 (.inr ⟨k, hk, e⟩)⟩
    cases hs : soundB (l.getD j zS_Rule) m with
    | true => rfl
    | false => exact absurd (Or.inl hs) h2
  · rintro ⟨h1, h2⟩
    rw [Bool.eq_false_iff]
    intro h
    rcases (badR_iff m l j hj).1 h with h | ⟨k, hk, e⟩
    · rw [h1] at h
      exact absurd h (by simp)
    · exact h2 k hk e
theorem getD_set_ne {α : Type} (l : List α) (i j : Nat) (x d : α) (h : j ≠ i) : (l.set i x).getD j d = l.getD j d := by
  rw [List.getD_eq_getElem?_getD, List.getD_eq_getElem?_getD, List.getElem?_set_ne (Ne.symm h)]
theorem getD_set_eq {α : Type} (l : List α) (i : Nat) (x d : α) (h : i < l.length) : (l.set i x).getD i d = x := by
  rw [List.getD_eq_getElem?_getD, List.getElem?_set_self h]
  rfl
section
variable {m : Int} {l : List S_Rule} {x : S_Rule} {i : Nat}
theorem sp_low (hg : good m l) (hi : i < l.length) (j : Nat) (hj : j < i) : badR m (l.set i x) j = false := by
  have hl : (l.set i x).length = l.length := List.length_set
  obtain ⟨a, b⟩ := (badR_not m l j (by omega)).1 (good_fine hg j (by omega))
  refine (badR_not m _ j (by omega)).2 ⟨?_, fun k hk => ?_⟩
  · rw [getD_set_ne _ _ _ _ _ (by omega)]
    exact a
  · rw [getD_set_ne _ _ _ _ _ (by omega), getD_set_ne _ _ _ _ _ (by omega)]
    exact b k hk
theorem sp_at (hg : good m l) (hi : i < l.length) (hs : soundB x m = true) (h : ∀ k, k < i → l.getD k zS_Rule ≠ x) : badR m (l.set i x) i = false := by
  have hl : (l.set i x).length = l.length := List.length_set
  refine (badR_not m _ i (by omega)).2 ⟨?_, fun k hk => ?_⟩
  · rw [getD_set_eq _ _ _ _ hi]
    exact hs
  · rw [getD_set_eq _ _ _ _ hi, getD_set_ne _ _ _ _ _ (by omega)]
    exact h k hk
theorem sp_high (hg : good m l) (hi : i < l.length) (j : Nat) (hj : i < j) (hjl : j < l.length) (h : l.getD j zS_Rule ≠ x) : badR m (l.set i x) j = false := by
  have hl : (l.set i x).length = l.length := List.length_set
  obtain ⟨a, b⟩ := (badR_not m l j (by omega)).1 (good_fine hg j (by omega))
  refine (badR_not m _ j (by omega)).2 ⟨?_, fun k hk => ?_⟩
  · rw [getD_set_ne _ _ _ _ _ (by omega)]
    exact a
  · rw [getD_set_ne l i j x _ (by omega)]
    by_cases e : k = i
    · rw [e, getD_set_eq _ _ _ _ hi]
      exact fun e => h e.symm
    · rw [getD_set_ne _ _ _ _ _ e]
      exact b k hk
theorem sp_chk (hg : good m l) (hi : i < l.length) (want : Int) (fine : Bool)
    (h : (soundB x m = false ∧ want = (i : Int) ∧ fine = false) ∨ (soundB x m = true ∧ ((fine = true ∧ want = 0 ∧ ∀ j, j < l.length → j ≠ i → l.getD j zS_Rule ≠ x) ∨
      (fine = false ∧ ∃ j, j < l.length ∧ j ≠ i ∧ l.getD j zS_Rule = x ∧ want = (if (i : Int) > (j : Int) then (i : Int) else (j : Int)) ∧ ∀ k, k < j → k ≠ i → l.getD k zS_Rule ≠ x)))) :
    chk m (l.set i x) 0 (l.set i x).length = (want, if fine then 0 else 20) := by
  have hl : (l.set i x).length = l.length := List.length_set
  rw [hl]
  rcases h with ⟨hs, rfl, rfl⟩ | ⟨hs, ⟨rfl, rfl, hn⟩ | ⟨rfl, j, hj, hji, hx, hw, hmin⟩⟩
  · refine chk_bad m _ i ((badR_iff m _ i (by omega)).2 (.inl ?_)) _ 0 (by omega) (by omega) fun k _ hk => sp_low hg hi k hk
    rw [getD_set_eq _ _ _ _ hi]
    exact hs
  · refine chk_ok m _ _ 0 fun k _ hk => ?_
    rcases Nat.lt_trichotomy k i with h | rfl | h
    · exact sp_low hg hi k h
    · exact sp_at hg hi hs fun k' hk' => hn k' (by omega) (by omega)
    · exact sp_high hg hi k h (by omega) (hn k (by omega) (by omega))
  · rcases Nat.lt_or_ge j i with h | h
    · rw [if_pos (by omega)] at hw
      rw [hw]
      refine chk_bad m _ i ((badR_iff m _ i (by omega)).2 (.inr ⟨j, h, ?_⟩)) _ 0 (by omega) (by omega) fun k _ hk => sp_low hg hi k hk
      rw [getD_set_eq _ _ _ _ hi, getD_set_ne _ _ _ _ _ hji]
      exact hx
    · rw [if_neg (by omega)] at hw
      rw [hw]
      refine chk_bad m _ j ((badR_iff m _ j (by omega)).2 (.inr ⟨i, by omega, ?_⟩)) _ 0 (by omega) (by omega) fun k _ hk => ?_
      · rw [getD_set_eq _ _ _ _ hi, getD_set_ne _ _ _ _ _ hji]
        exact hx.symm
      · rcases Nat.lt_trichotomy k i with h | rfl | h
        · exact sp_low hg hi k h
        · exact sp_at hg hi hs fun k' hk' => hmin k' (by omega) (by omega)
        · exact sp_high hg hi k h (by omega) (hmin k hk (by omega))
end
theorem strOf_one (b : Int) : (strOf [b]).size = 1 := rfl
theorem spoilt_total (r : S_Rule) (w : S_Spoil) (m : Int) (hm : m ≤ 8) (h : soundB r m = true) (hw : okS_Spoil w) : WP (f_L02_spoilt r w) (fun q => q.Print.size ≤ 999999 ∧ q.Cells.length ≤ 999999) := by
  unfold soundB masks at h
  simp only [Bool.and_eq_true, decide_eq_true_eq] at h
  obtain ⟨⟨h1, h2, h3⟩, _, ⟨h4, h5, h6, h7, h8, h9, h10, h11⟩, _⟩ := h
  obtain ⟨hA, hW, hB, hN⟩ := hw
  have bB : 0 ≤ w.B ∧ w.B ≤ 255 := hB
  have bN : -128 ≤ w.N ∧ w.N ≤ 127 := hN
  have ht := tmod_small w.B 6 bB.1 (by omega)
  unfold f_L02_spoilt f_L02_spoilt_k1
  rw [wrap_i64 (n := w.N) (by omega)]
  refine WP.cond (fun _ => ?_) (fun _ => WP.cond (fun _ => ?_) (fun _ => WP.cond (fun _ => ?_) (fun _ => WP.cond (fun _ => ?_) (fun _ => WP.cond (fun _ => ?_) (fun _ => WP.cond (fun _ => ?_) (fun _ => WP.cond (fun _ => ?_) (fun _ => ?_)))))))
  · refine WP.G (by rw [strOf_one]; omega) (WP.some ⟨?_, by dsimp only; omega⟩)
    dsimp only
    rw [ByteArray.size_append, strOf_one]
    omega
  · refine WP.G ⟨ht.1, by have := ht.2; show Int.tmod w.B 6 ≤ 5; exact Int.le_of_lt_add_one this⟩ (WP.some ⟨?_, by dsimp only; omega⟩)
    dsimp only
    rw [ByteArray.size_extract]
    have : (⟨#[97, 98, 99, 100, 101]⟩ : ByteArray).size = 5 := rfl
    omega
  · refine WP.G (room_of (by simp; omega)) (WP.G (room_of (by simp; omega)) (WP.some ⟨by dsimp only; omega, by simp; omega⟩))
  · refine WP.G (inR_of (by omega)) (WP.G (by omega) (WP.some ⟨by dsimp only; omega, by simp; omega⟩))
  · exact WP.some ⟨by dsimp only; omega, by dsimp only; omega⟩
  · exact WP.some ⟨by dsimp only; omega, by dsimp only; omega⟩
  · exact WP.G (inR_of (by omega)) (WP.some ⟨by dsimp only; omega, by dsimp only; omega⟩)
  · exact WP.G (inR_of (by omega)) (WP.some ⟨by dsimp only; omega, by dsimp only; omega⟩)
theorem small_set {l : List S_Rule} {x : S_Rule} {i : Nat} (h : small l) (hx : x.Print.size ≤ 999999 ∧ x.Cells.length ≤ 999999) : small (l.set i x) := by
  intro r hr
  rcases List.mem_or_eq_of_mem_set hr with h1 | rfl
  · exact h r h1
  · exact hx
theorem plain_TableSpoils {t0 : S_Raw} {t1 : S_Spoil} (h0 : okS_Raw t0) (h1 : okS_Spoil t1) : f_L02_TableSpoils t0 t1 = some true := by
  apply WP.eq
  unfold f_L02_TableSpoils
  refine WP.bind sanity_true (WP.bindW ?_)
  refine (made_ok t0 h0).imp fun t ht => ?_
  obtain ⟨hv, hl, ha, _⟩ := ht
  have hh := hv.1
  unfold hdr at hh
  have hsm := good_small hv.2
  have bA : 0 ≤ t1.At ∧ t1.At ≤ 255 := h1.1
  refine WP.bind (valid_t t hsm (by omega)) ?_
  rw [validT_check hv]
  rw [wrap_i64 (n := t1.At) (by omega)]
  refine WP.cond (fun hc => absurd hc (by simp)) (fun _ => ?_)
  have hi := tmod_small t1.At t.Rules.length bA.1 (by omega)
  obtain ⟨i, hie⟩ := nat_of hi.1
  rw [hie] at hi ⊢
  rw [Int.toNat_natCast]
  have hi' : i < t.Rules.length := by omega
  refine WP.G (by omega) (WP.G (room_of (by simp; omega)) (WP.G (by omega) (WP.bindW ?_)))
  have hso := hv.2.1 _ (getD_mem' t.Rules i zS_Rule hi')
  refine (spoilt_total _ t1 t.Modes (by omega) hso h1).imp fun x hx => ?_
  have hlen : (([] ++ t.Rules).set i x).length = t.Rules.length := by rw [List.nil_append, List.length_set]
  rw [hlen]
  refine WP.G (by rw [List.nil_append]; omega) (WP.G (inR_of (by omega)) ?_)
  refine WP.iter (fun s => -1 ≤ s.2.2 ∧ s.2.2 < (t.Rules.length : Int) ∧ ((s.2.1 = true ∧ s.1 = 0 ∧ ∀ j : Nat, s.2.2 < (j : Int) → j < t.Rules.length → j ≠ i → t.Rules.getD j zS_Rule ≠ x) ∨
      (s.2.1 = false ∧ ∃ j : Nat, s.2.2 < (j : Int) ∧ j < t.Rules.length ∧ j ≠ i ∧ t.Rules.getD j zS_Rule = x ∧ s.1 = (if (i : Int) > (j : Int) then (i : Int) else (j : Int)) ∧ ∀ k : Nat, s.2.2 < (k : Int) → k < j → k ≠ i → t.Rules.getD k zS_Rule ≠ x))) (fun s => (s.2.2 + 1).toNat) ?_ 1000000 _ ⟨by dsimp only; omega, by dsimp only; omega, .inl ⟨rfl, rfl, by dsimp only; intro j h1 h2; omega⟩⟩ (by dsimp only; omega)
  rintro loop ⟨want, fine, v⟩ ⟨g1, g2, g3⟩ ih
  dsimp only at g1 g2 g3 ih ⊢
  unfold f_L02_TableSpoils_b1
  rw [wrap_i64 (n := t1.At) (by omega), hie, List.nil_append, List.length_set, Int.toNat_natCast, getD_set_eq _ _ _ _ hi']
  have hk2 : ∀ (w : Int) (f : Bool), chk t.Modes (t.Rules.set i x) 0 (t.Rules.set i x).length = (w, if f then 0 else 20) → WP (f_L02_TableSpoils_k2 t1 true t x w f) (· = true) := by
    intro w f hc
    unfold f_L02_TableSpoils_k2
    rw [wrap_i64 (n := t1.At) (by omega), hie, List.nil_append, Int.toNat_natCast]
    refine WP.bind (check_t _ (small_set hsm hx) (by dsimp only; omega)) (WP.some ?_)
    unfold checkB
    rw [if_pos (by unfold hdr; dsimp only; rw [List.length_set]; exact hh)]
    dsimp only
    rw [hc]
    cases f
    · dsimp only
      rw [beq_self_eq_true]
      rfl
    · dsimp only
      rw [beq_self_eq_true]
      rfl
  refine WP.cond (fun hc => ?_) (fun hc => ?_)
  · rw [decide_eq_true_eq] at hc
    obtain ⟨k, rfl⟩ := nat_of hc
    rw [Int.toNat_natCast]
    refine WP.G (fun _ => by omega) (WP.G (fun _ => by omega) ?_)
    by_cases e : k = i
    · rw [e, bne_self_eq_false, cond_false, Option.bind_some, cond_false, cond_false]
      refine WP.G (inR_of (by omega)) ?_
      refine ih _ ⟨by dsimp only; omega, by dsimp only; omega, ?_⟩ (by dsimp only; omega)
      dsimp only
      rcases g3 with ⟨a, b, c⟩ | ⟨a, j, h1, h2, h3, h4, h5, h6⟩
      · exact .inl ⟨a, b, fun j hj hjl hji => c j (by omega) hjl hji⟩
      · exact .inr ⟨a, j, by omega, h2, h3, h4, h5, fun q hq hqj hqi => h6 q (by omega) hqj hqi⟩
    · have hb : (((k : Int)) != (i : Int)) = true := by rw [bne_iff_ne]; omega
      have hsk := hsm _ (getD_mem' t.Rules k zS_Rule (by omega))
      rw [hb, cond_true, getD_set_ne _ _ _ _ _ e, same_r _ _ hsk.2, Option.bind_some, cond_true]
      unfold sameB
      refine WP.cond (fun hc => ?_) (fun hc => ?_)
      · rw [decide_eq_true_eq] at hc
        refine WP.G (inR_of (by omega)) ?_
        refine ih _ ⟨by dsimp only; omega, by dsimp only; omega, .inr ⟨rfl, k, by dsimp only; omega, by omega, e, hc, rfl, fun q h1 h2 => by dsimp only at h1; omega⟩⟩ (by dsimp only; omega)
      · rw [decide_eq_false_iff_not] at hc
        refine WP.G (inR_of (by omega)) ?_
        refine ih _ ⟨by dsimp only; omega, by dsimp only; omega, ?_⟩ (by dsimp only; omega)
        dsimp only
        rcases g3 with ⟨a, b, c⟩ | ⟨a, j, h1, h2, h3, h4, h5, h6⟩
        · exact .inl ⟨a, b, fun j hj hjl hji => by
            by_cases e2 : j = k
            · rw [e2]; exact hc
            · exact c j (by omega) hjl hji⟩
        · exact .inr ⟨a, j, by omega, h2, h3, h4, h5, fun q hq hqj hqi => by
            by_cases e2 : q = k
            · rw [e2]; exact hc
            · exact h6 q (by omega) hqj hqi⟩
  · rw [decide_eq_false_iff_not] at hc
    have ev : v = -1 := by omega
    subst ev
    refine WP.G (by omega) (WP.bind (sound_r _ _ hx.1) ?_)
    cases hs : soundB x t.Modes with
    | false => exact hk2 _ _ (sp_chk hv.2 hi' _ _ (.inl ⟨hs, rfl, rfl⟩))
    | true =>
      refine hk2 _ _ (sp_chk hv.2 hi' _ _ (.inr ⟨hs, ?_⟩))
      rcases g3 with ⟨a, b, c⟩ | ⟨a, j, h1, h2, h3, h4, h5, h6⟩
      · exact .inl ⟨a, b, fun j hj => c j (by omega) hj⟩
      · exact .inr ⟨a, j, h2, h3, h4, h5, fun q hq => h6 q (by omega) hq⟩
end Go.Proofs.YtlhpkjgpcenfdaaDoor
