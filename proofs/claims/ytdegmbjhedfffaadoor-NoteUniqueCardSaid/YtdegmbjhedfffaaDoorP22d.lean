/-
  Own work. Chapter 22, plain part: references are read.
-/
import Derived.Test.YtdegmbjhedfffaaDoorP22c
set_option linter.unusedSimpArgs false
set_option linter.unusedVariables false
set_option maxRecDepth 100000
set_option linter.unusedSimpArgs false
set_option linter.unusedVariables false
namespace Go.Proofs.YtdegmbjhedfffaaDoor
open Go.Abs
theorem dg_63 (d : Nat) (h : d < 10) : dg d ≠ 63 := by
  have := all_of (n := 10) (p := fun d => decide (dg d ≠ 63)) (by kernel_rfl) d h
  simpa using this
theorem wr_63 (n : Nat) : (63 : Int) ∉ wr n := by
  intro h
  unfold wr at h
  rcases List.mem_cons.1 h with h | h
  · exact absurd h (by decide)
  · obtain ⟨x, hx, e⟩ := List.mem_map.1 h
    have := decs_in 5 n x hx
    exact dg_63 (x - 48).toNat (by omega) e
theorem wr_0 (n : Nat) : (0 : Int) ∉ wr n := fun h => (wr_cells n 0 h).2.1 rfl
theorem nd_nil : nd [] := fun c r h => by simp at h
theorem nd_zero (r : List Int) : nd (0 :: r) := fun c s h => by
  obtain ⟨rfl, rfl⟩ := List.cons.inj h
  decide
/-- Cells with their references. -/
def decS (l text ns : List Int) : Prop := plB text = true ∧ okF none ns = true ∧ l = text ++ tl ns
theorem tl_nil : tl [] = [] := rfl
theorem tl_cons (n : Int) (r : List Int) : tl (n :: r) = 0 :: 63 :: (wr n.toNat ++ tl r) := by
  unfold tl
  rw [List.flatMap_cons]
  rfl
theorem tl_append (a b : List Int) : tl (a ++ b) = tl a ++ tl b := by unfold tl; rw [List.flatMap_append]
theorem tl_nd (ns : List Int) : nd (tl ns) := by
  cases ns with
  | nil => exact nd_nil
  | cons n r => rw [tl_cons]; exact nd_zero _
theorem okF_some (n : Int) (R : List Int) : okF (some n) R = (okF none R && R.head?.all (fun m => decide (m = n + 1))) := by
  cases R with
  | nil => rfl
  | cons m R =>
    rw [okF, okF]
    simp only [Option.all_some, Option.all_none, List.head?_cons, Bool.and_true]
    cases decide (1 ≤ m) <;> cases decide (m ≤ 99999) <;> cases decide (m = n + 1) <;> simp
theorem okF_mid : ∀ (p : Option Int) (a : List Int) (m : Int) (R : List Int), okF p (a ++ m :: R) = true → 1 ≤ m ∧ m ≤ 99999 ∧ okF (some m) R = true
  | p, [], m, R, h => by
    rw [List.nil_append, okF] at h
    simp only [Bool.and_eq_true, decide_eq_true_eq] at h
    exact ⟨h.1.1.1, h.1.1.2, h.2⟩
  | p, b :: a, m, R, h => by
    rw [List.cons_append, okF] at h
    simp only [Bool.and_eq_true, decide_eq_true_eq] at h
    exact okF_mid _ a m R h.2
theorem okF_len_tl : ∀ (ns : List Int), ns.length * 4 ≤ (tl ns).length
  | [] => by simp [tl]
  | n :: r => by
    have := okF_len_tl r
    have := wr_len n.toNat
    rw [tl_cons]
    simp
    omega
theorem scan_front : ∀ (z : Bool) (p w : List Int), scan z (p ++ 0 :: w) = true → scan z p = true ∧ w ≠ []
  | z, [], w, h => by
    rw [List.nil_append, scan] at h
    simp only [Bool.and_eq_true] at h
    refine ⟨?_, ?_⟩
    · have := h.1.2
      simpa [scan] using this
    · rintro rfl
      have := h.2
      simp [scan] at this
  | z, c :: p, w, h => by
    rw [List.cons_append, scan] at h
    simp only [Bool.and_eq_true] at h
    obtain ⟨h1, h2⟩ := scan_front _ p w h.2
    refine ⟨?_, h2⟩
    rw [scan]
    simp only [Bool.and_eq_true]
    exact ⟨h.1, h1⟩
theorem split0 : ∀ l : List Int, (0 : Int) ∉ l ∨ ∃ p w, l = p ++ 0 :: w ∧ (0 : Int) ∉ w
  | [] => .inl (by simp)
  | c :: r => by
    rcases split0 r with h | ⟨p, w, rfl, h⟩
    · by_cases hc : c = 0
      · exact .inr ⟨[], r, by rw [hc]; rfl, h⟩
      · exact .inl (fun e => by
          rcases List.mem_cons.1 e with e | e
          · exact hc e.symm
          · exact h e)
    · exact .inr ⟨c :: p, w, rfl, h⟩
theorem getD_app_right (p : List Int) (w : List Int) (k : Nat) : (p ++ w).getD (p.length + k) 0 = w.getD k 0 := by
  rw [List.getD_eq_getElem?_getD, List.getD_eq_getElem?_getD, List.getElem?_append_right (by omega), Nat.add_sub_cancel_left]
/-- Where the last word begins. -/
theorem inner_at (loop33 : (List Int) × (List Int) → Option ((List Int) × (List Int) × Int)) (p w v32 : List Int) (hb : (p ++ 0 :: w).length < 900000) (hw : (0 : Int) ∉ w) : ∀ (k n : Nat), k ≤ w.length → k < n →
    iter (fun loop (s : Int) => f_note_Strip_b3 loop33 (p ++ 0 :: w) v32 loop s) n ((p.length + k : Nat) : Int) = f_note_Strip_b3 loop33 (p ++ 0 :: w) v32 (fun _ => none) (p.length : Int)
  | 0, n + 1, h1, h2 => by
    have h0 : (p ++ 0 :: w).getD (p.length + 0) 0 = 0 := getD_app_right p (0 :: w) 0
    rw [Nat.add_zero] at h0
    simp only [List.length_append, List.length_cons] at hb
    rw [iter_succ, f_note_Strip_b3, f_note_Strip_b3, Nat.add_zero]
    rw [cond_neg (b := cond _ _ _) (by rw [Int.toNat_natCast, h0]; simp), cond_neg (b := cond _ _ _) (by rw [Int.toNat_natCast, h0]; simp)]
  | k + 1, n + 1, h1, h2 => by
    have h0 : (p ++ 0 :: w).getD (p.length + (k + 1)) 0 = w.getD k 0 := by rw [getD_app_right]; rfl
    have hne : w.getD k 0 ≠ 0 := fun e => hw (e ▸ getD_mem w k (by omega))
    rw [iter_succ, f_note_Strip_b3]
    have hl : (p ++ 0 :: w).length = p.length + w.length + 1 := by simp; omega
    rw [G_pos (fun _ => by omega), cond_pos (b := cond _ _ _) (by rw [Int.toNat_natCast, h0, cond_pos (by simp; omega)]; exact bne_iff_ne.2 hne), G_inR (by omega), show ((p.length + (k + 1) : Nat) : Int) - 1 = ((p.length + k : Nat) : Int) from by omega]
    exact inner_at loop33 p w v32 hb hw k n (by omega) (by omega)
theorem inner_none (loop33 : (List Int) × (List Int) → Option ((List Int) × (List Int) × Int)) (v31 v32 : List Int) (hb : v31.length < 900000) (hw : (0 : Int) ∉ v31) : ∀ (k n : Nat), k ≤ v31.length → k < n →
    iter (fun loop (s : Int) => f_note_Strip_b3 loop33 v31 v32 loop s) n ((k : Int) - 1) = f_note_Strip_b3 loop33 v31 v32 (fun _ => none) (-1)
  | 0, n + 1, h1, h2 => by
    rw [iter_succ, f_note_Strip_b3, f_note_Strip_b3]
    rfl
  | k + 1, n + 1, h1, h2 => by
    have hne : v31.getD k 0 ≠ 0 := fun e => hw (e ▸ getD_mem v31 k (by omega))
    rw [iter_succ, f_note_Strip_b3]
    rw [show ((k + 1 : Nat) : Int) - 1 = (k : Int) from by omega]
    rw [G_pos (fun _ => by omega), cond_pos (b := cond _ _ _) (by rw [Int.toNat_natCast, cond_pos (by simp)]; exact bne_iff_ne.2 hne), G_inR (by omega)]
    exact inner_none loop33 v31 v32 hb hw k n (by omega) (by omega)
/-- A word that is no reference. -/
theorem word_text (loop33 : (List Int) × (List Int) → Option ((List Int) × (List Int) × Int)) (v31 v32 : List Int) (a : Int) (c : Int) (cs : List Int) (hb : v31.length < 900000) (ha : -1 ≤ a) (ha2 : a < v31.length) (hst : a = -1 ∨ v31.getD a.toNat 0 = 0)
    (hd : v31.drop (a + 1).toNat = c :: cs) (hc : c ≠ 63) : f_note_Strip_b3 loop33 v31 v32 (fun _ => none) a = some (if (63 : Int) ∈ v31 then ([], [], 220) else (v31, v32.reverse, 0)) := by
  rw [f_note_Strip_b3]
  rw [G_pos (fun h => by have := of_decide_eq_true h; omega), cond_neg (b := cond _ _ _) (by
    rcases hst with rfl | h0
    · rfl
    · rw [h0, and_tt]; simp), G_inR (by omega), G_pos (by omega), hd, G_pos (by simp), cn_pos (by simpa using hc), bind_some' (f_contains v31 63 hb)]
  by_cases h : (63 : Int) ∈ v31
  · rw [cond_pos (by simpa using h), if_pos h]
  · rw [cond_neg (by simpa using h), if_neg h, bind_some' (f_clone v31 hb)]
/-- A word that begins as a reference does. -/
theorem word_ref (loop33 : (List Int) × (List Int) → Option ((List Int) × (List Int) × Int)) (v31 R : List Int) (a : Int) (cs : List Int) (hb : v31.length < 900000) (hR : R.length < 900000) (ha : -1 ≤ a) (ha2 : a < v31.length) (hst : a = -1 ∨ v31.getD a.toNat 0 = 0)
    (hd : v31.drop (a + 1).toNat = 63 :: cs) :
    (f_note_Strip_b3 loop33 v31 R.reverse (fun _ => none) a = some ([], [], 220) ∧ ∀ n : Nat, cs = wr n → 1 ≤ n → n ≤ 99999 → 0 ≤ a → R.head?.all (fun m => decide (m = (n : Int) + 1)) = true → False) ∨
      ∃ n : Nat, cs = wr n ∧ 1 ≤ n ∧ n ≤ 99999 ∧ 0 ≤ a ∧ R.head?.all (fun m => decide (m = (n : Int) + 1)) = true ∧ f_note_Strip_b3 loop33 v31 R.reverse (fun _ => none) a = loop33 (v31.take a.toNat, ((n : Int) :: R).reverse) := by
  have hcl : cs.length < 900000 := by
    have := congrArg List.length hd
    simp at this
    omega
  have hlast : (R.reverse).getD ((R.reverse.length : Int) - 1).toNat 0 = R.getD 0 0 := by
    cases R with
    | nil => rfl
    | cons m R =>
      rw [List.reverse_cons, List.getD_eq_getElem?_getD]
      simp
  rw [f_note_Strip_b3]
  rw [G_pos (fun h => by have := of_decide_eq_true h; omega), cond_neg (b := cond _ _ _) (by
    rcases hst with rfl | h0
    · rfl
    · rw [h0, and_tt]; simp), G_inR (by omega), G_pos (by omega), hd, G_pos (by simp), cn_neg (by rfl), G_pos (by simp; omega)]
  have e1 : ((63 :: cs).drop (1 : Int).toNat) = cs := rfl
  rw [e1, List.length_cons]
  rcases number_rs cs hcl with ⟨h1, h2⟩ | ⟨n, r, ⟨h1, h2, h3⟩, h4⟩
  · rw [bind_some' h1, G_pos (fun _ => by unfold inR; omega), or_tt, or_tt, or_tt]
    rw [cond_pos (by simp)]
    exact .inl ⟨rfl, fun n e _ hn _ _ => h2 n [] ⟨by rw [e, List.append_nil], hn, nd_nil⟩⟩
  · have huniq : ∀ q : Nat, cs = wr q → q ≤ 99999 → q = n ∧ r = [] := fun q e hq => by
      obtain ⟨e1, e2⟩ := Dec.unique (l := cs) (n := q) (r := []) ⟨by rw [e, List.append_nil], hq, nd_nil⟩ ⟨h1, h2, h3⟩
      exact ⟨e1, e2.symm⟩
    rw [bind_some' h4, G_pos (fun _ => by unfold inR; omega), or_tt, or_tt, or_tt]
    dsimp only
    by_cases hok : 0 ≤ a ∧ r = [] ∧ 1 ≤ n
    · obtain ⟨hok1, rfl, hok2⟩ := hok
      rw [List.append_nil] at h1
      subst h1
      rw [cond_neg (by
        simp only [Bool.or_eq_false_iff, decide_eq_false_iff_not]
        exact ⟨⟨⟨by omega, by rfl⟩, by simp⟩, by omega⟩)]
      rw [G_pos (fun _ => by unfold inR; omega), G_pos (fun _ => by simp; unfold inR; omega), G_pos (fun h => by have := of_decide_eq_true h; omega), and_tt, hlast]
      cases hRc : R with
      | nil =>
        rw [cond_neg (by rfl), G_room (by simp), G_pos (by omega)]
        exact .inr ⟨n, rfl, hok2, h2, hok1, rfl, by simp⟩
      | cons m R' =>
        by_cases hm : m = (n : Int) + 1
        · rw [cond_neg (by
            rw [Bool.and_eq_false_iff]
            refine .inr ?_
            show ((n : Int) + 1 != m) = false
            rw [hm]; exact bne_self_eq_false _), G_room (by rw [hRc] at hR; simp at hR ⊢; omega), G_pos (by omega)]
          exact .inr ⟨n, rfl, hok2, h2, hok1, by simp [hm], by simp⟩
        · rw [cond_pos (by
            rw [Bool.and_eq_true]
            refine ⟨by simp, ?_⟩
            show ((n : Int) + 1 != m) = true
            exact bne_iff_ne.2 fun e => hm e.symm)]
          refine .inl ⟨rfl, fun q e _ hq _ ha => ?_⟩
          obtain ⟨rfl, _⟩ := huniq q e hq
          simp only [List.head?_cons, Option.all_some, decide_eq_true_eq] at ha
          exact hm ha
    · rw [cond_pos (by
        simp only [Bool.or_eq_true, decide_eq_true_eq]
        by_cases h5 : a < 0
        · exact .inl (.inl (.inl h5))
        · by_cases h6 : r = []
          · exact .inr (by
              have : ¬ 1 ≤ n := fun h => hok ⟨by omega, h6, h⟩
              omega)
          · refine .inl (.inr (bne_iff_ne.2 fun e => h6 ?_))
            rw [h1] at e
            simp at e
            exact List.length_eq_zero_iff.1 (by omega))]
      refine .inl ⟨rfl, fun q e hq1 hq h0 _ => ?_⟩
      obtain ⟨rfl, hr⟩ := huniq q e hq
      exact hok ⟨h0, hr, hq1⟩
/-- One round. -/
theorem strip_round (loop33 : (List Int) × (List Int) → Option ((List Int) × (List Int) × Int)) (v31 R : List Int) (hb : v31.length < 900000) (hR : R.length < 900000) (hc : cl v31 = true) :
    f_note_Strip_b4 loop33 v31 R.reverse = some ([], [], 220) ∨ ((63 : Int) ∉ v31 ∧ f_note_Strip_b4 loop33 v31 R.reverse = some (v31, R, 0)) ∨
      ∃ (n : Nat) (p : List Int), v31 = p ++ 0 :: 63 :: wr n ∧ 1 ≤ n ∧ n ≤ 99999 ∧ R.head?.all (fun m => decide (m = (n : Int) + 1)) = true ∧ f_note_Strip_b4 loop33 v31 R.reverse = loop33 (p, ((n : Int) :: R).reverse) := by
  rw [f_note_Strip_b4, G_inR (by omega)]
  rcases split0 v31 with h0 | ⟨p, w, rfl, hw⟩
  · rw [inner_none loop33 v31 R.reverse hb h0 v31.length 1000000 (Nat.le_refl _) (by omega)]
    cases hv : v31 with
    | nil => rw [hv] at hc; simp [cl, scan] at hc
    | cons c cs =>
      rw [← hv]
      by_cases h63 : c = 63
      · rcases word_ref loop33 v31 R (-1) cs hb hR (by omega) (by omega) (.inl rfl) (by rw [hv, h63]; rfl) with ⟨h, _⟩ | ⟨n, _, _, _, h, _⟩
        · exact .inl h
        · omega
      · rw [word_text loop33 v31 R.reverse (-1) c cs hb (by omega) (by omega) (.inl rfl) (by rw [hv]; rfl) h63, List.reverse_reverse]
        by_cases h : (63 : Int) ∈ v31
        · rw [if_pos h]; exact .inl rfl
        · rw [if_neg h]; exact .inr (.inl ⟨h, rfl⟩)
  · obtain ⟨hs, hne⟩ := scan_front true p w hc
    have hl : (p ++ 0 :: w).length = p.length + w.length + 1 := by simp; omega
    have e := inner_at loop33 p w R.reverse hb hw w.length 1000000 (Nat.le_refl _) (by omega)
    rw [show ((p.length + w.length : Nat) : Int) = ((p ++ 0 :: w).length : Int) - 1 from by omega] at e
    rw [e]
    have hg0 : (p ++ 0 :: w).getD (p.length : Int).toNat 0 = 0 := by
      rw [Int.toNat_natCast]
      exact getD_app_right p (0 :: w) 0
    have hdr : (p ++ 0 :: w).drop ((p.length : Int) + 1).toNat = w := by
      rw [show ((p.length : Int) + 1).toNat = p.length + 1 from by omega, ← List.drop_drop]
      simp
    cases hv : w with
    | nil => exact absurd hv hne
    | cons c cs =>
      rw [← hv]
      by_cases h63 : c = 63
      · rcases word_ref loop33 (p ++ 0 :: w) R p.length cs hb hR (by omega) (by omega) (.inr hg0) (by rw [hdr, hv, h63]) with ⟨h, _⟩ | ⟨n, h1, h2, h3, _, h4, h5⟩
        · exact .inl h
        · refine .inr (.inr ⟨n, p, by rw [hv, h63, h1], h2, h3, h4, ?_⟩)
          rw [h5, Int.toNat_natCast]
          simp
      · rw [word_text loop33 (p ++ 0 :: w) R.reverse p.length c cs hb (by omega) (by omega) (.inr hg0) (by rw [hdr, hv]) h63, List.reverse_reverse]
        by_cases h : (63 : Int) ∈ (p ++ 0 :: w)
        · rw [if_pos h]; exact .inl rfl
        · rw [if_neg h]; exact .inr (.inl ⟨h, rfl⟩)
theorem okF_cons {n : Nat} {R : List Int} (h1 : 1 ≤ n) (h2 : n ≤ 99999) (h3 : R.head?.all (fun m => decide (m = (n : Int) + 1)) = true) (h : okF none R = true) : okF none ((n : Int) :: R) = true := by
  rw [okF, okF_some, h, h3]
  simp
  omega
theorem strip_total (l : List Int) : ∀ (k : Nat) (v R : List Int) (n : Nat), v.length ≤ k → k < n → v.length < 900000 → R.length + v.length < 900000 → cl v = true → okF none R = true → l = v ++ tl R →
    iter (fun loop (s : (List Int) × (List Int)) => f_note_Strip_b4 loop s.1 s.2) n (v, R.reverse) = some ([], [], 220) ∨
      ∃ text ns, decS l text ns ∧ iter (fun loop (s : (List Int) × (List Int)) => f_note_Strip_b4 loop s.1 s.2) n (v, R.reverse) = some (text, ns, 0)
  | k, v, R, n + 1, h1, h2, h3, h4, h5, h6, h7 => by
    rw [iter_succ]
    dsimp only
    rcases strip_round (iter (fun loop (s : (List Int) × (List Int)) => f_note_Strip_b4 loop s.1 s.2) n) v R h3 (by omega) h5 with h | ⟨h8, h9⟩ | ⟨m, p, rfl, g1, g2, g3, g4⟩
    · exact .inl h
    · exact .inr ⟨v, R, ⟨by unfold plB; simp [h5, h8], h6, h7⟩, h9⟩
    · rw [g4]
      have hl : (p ++ 0 :: 63 :: wr m).length = p.length + (wr m).length + 2 := by simp; omega
      have hc := (scan_front true p _ h5).1
      match k with
      | 0 => omega
      | k + 1 =>
        refine strip_total l k p ((m : Int) :: R) n (by omega) (by omega) (by omega) (by simp; omega) hc (okF_cons g1 g2 g3 h6) ?_
        rw [h7, tl_cons, Int.toNat_natCast]
        simp
theorem note_total (l : List Int) (hl : l.length < 400000) (hc : cl l = true) : f_note_Strip l = some ([], [], 220) ∨ ∃ text ns, decS l text ns ∧ f_note_Strip l = some (text, ns, 0) := by
  unfold f_note_Strip
  obtain ⟨k, hk⟩ := f_clean l (by omega)
  rw [bind_some' hk]
  dsimp only
  rw [hc, cond_neg (by rfl)]
  exact strip_total l l.length l [] 1000000 (Nat.le_refl _) (by omega) (by omega) (by simp; omega) hc rfl (by rw [tl_nil, List.append_nil])
theorem strip_dec (text : List Int) (ht : plB text = true) : ∀ (k : Nat) (ns R : List Int) (n : Nat), ns.length = k → k < n → (text ++ tl ns).length < 400000 → R.length + ns.length < 400000 → cl (text ++ tl ns) = true → okF none (ns ++ R) = true →
    iter (fun loop (s : (List Int) × (List Int)) => f_note_Strip_b4 loop s.1 s.2) n (text ++ tl ns, R.reverse) = some (text, ns ++ R, 0)
  | 0, ns, R, n + 1, h1, h2, h3, h4, h5, h6 => by
    obtain rfl := List.length_eq_zero_iff.1 h1
    rw [tl_nil, List.append_nil] at h3 h5 ⊢
    have h63 : (63 : Int) ∉ text := by unfold plB at ht; simp at ht; exact ht.2
    rw [iter_succ]
    dsimp only
    rcases strip_round (iter (fun loop (s : (List Int) × (List Int)) => f_note_Strip_b4 loop s.1 s.2) n) text R (by omega) (by simp at h4; omega) h5 with h | ⟨h8, h9⟩ | ⟨m, p, e, _⟩
    · exfalso
      rw [f_note_Strip_b4, G_inR (by omega)] at h
      rcases split0 text with h0 | ⟨p, w, e, hw⟩
      · rw [inner_none _ text R.reverse (by omega) h0 text.length 1000000 (Nat.le_refl _) (by omega)] at h
        cases hv : text with
        | nil => rw [hv] at h5; simp [cl, scan] at h5
        | cons c cs =>
          rw [word_text _ text R.reverse (-1) c cs (by omega) (by omega) (by omega) (.inl rfl) (by rw [hv]; rfl) (fun e => h63 (by rw [hv, e]; simp)), if_neg h63] at h
          simp at h
      · have hl := congrArg List.length e
        simp only [List.length_append, List.length_cons] at hl
        have hne := (scan_front true p w (e ▸ h5)).2
        have e2 := inner_at (iter (fun loop (s : (List Int) × (List Int)) => f_note_Strip_b4 loop s.1 s.2) n) p w R.reverse (by rw [← e]; omega) hw w.length 1000000 (Nat.le_refl _) (by omega)
        rw [← e, show ((p.length + w.length : Nat) : Int) = (text.length : Int) - 1 from by omega] at e2
        rw [e2] at h
        have hg0 : text.getD (p.length : Int).toNat 0 = 0 := by
          have := getD_app_right p (0 :: w) 0
          rw [← e] at this
          simpa using this
        have hdr : text.drop ((p.length : Int) + 1).toNat = w := by
          rw [e, show ((p.length : Int) + 1).toNat = p.length + 1 from by omega, ← List.drop_drop]
          simp
        cases hv : w with
        | nil => exact absurd hv hne
        | cons c cs =>
          rw [word_text _ text R.reverse p.length c cs (by omega) (by omega) (by omega) (.inr hg0) (by rw [hdr, hv]) (fun e3 => h63 (by rw [e, hv, e3]; simp)), if_neg h63] at h
          simp at h
    · exact h9
    · exact absurd (by rw [e]; simp : (63 : Int) ∈ text) h63
  | k + 1, ns, R, n + 1, h1, h2, h3, h4, h5, h6 => by
    obtain ⟨ns', m, rfl⟩ : ∃ ns' m, ns = ns' ++ [m] := by
      rcases List.eq_nil_or_concat ns with rfl | ⟨a, b, rfl⟩
      · simp at h1
      · exact ⟨a, b, by simp⟩
    have hk : ns'.length = k := by simpa using h1
    have hmid := okF_mid none ns' m R (by simpa using h6)
    have hspl : text ++ tl (ns' ++ [m]) = (text ++ tl ns') ++ 0 :: 63 :: wr m.toNat := by
      rw [tl_append, tl_cons, tl_nil]
      simp
    rw [hspl] at h3 h5 ⊢
    rw [iter_succ]
    dsimp only
    have hl : ((text ++ tl ns') ++ 0 :: 63 :: wr m.toNat).length = (text ++ tl ns').length + (wr m.toNat).length + 2 := by simp; omega
    have hcl := (scan_front true (text ++ tl ns') _ h5).1
    have hw0 : (0 : Int) ∉ (63 :: wr m.toNat) := by
      rw [List.mem_cons]
      rintro (e | e)
      · exact absurd e (by decide)
      · exact wr_0 _ e
    rw [f_note_Strip_b4, G_inR (by omega)]
    have e2 := inner_at (iter (fun loop (s : (List Int) × (List Int)) => f_note_Strip_b4 loop s.1 s.2) n) (text ++ tl ns') (63 :: wr m.toNat) R.reverse (by omega) hw0 (63 :: wr m.toNat).length 1000000 (Nat.le_refl _) (by have := wr_len m.toNat; simp; omega)
    rw [show (((text ++ tl ns').length + (63 :: wr m.toNat).length : Nat) : Int) = (((text ++ tl ns') ++ 0 :: 63 :: wr m.toNat).length : Int) - 1 from by simp; omega] at e2
    rw [e2]
    have hg0 : ((text ++ tl ns') ++ 0 :: 63 :: wr m.toNat).getD ((text ++ tl ns').length : Int).toNat 0 = 0 := by
      rw [Int.toNat_natCast]
      exact getD_app_right (text ++ tl ns') (0 :: 63 :: wr m.toNat) 0
    have hdr : ((text ++ tl ns') ++ 0 :: 63 :: wr m.toNat).drop (((text ++ tl ns').length : Int) + 1).toNat = 63 :: wr m.toNat := by
      rw [show (((text ++ tl ns').length : Int) + 1).toNat = (text ++ tl ns').length + 1 from by omega, ← List.drop_drop]
      simp
    have hdec : Dec (wr m.toNat) m.toNat [] := ⟨by simp, by omega, nd_nil⟩
    have ih := strip_dec text ht k ns' (m :: R) n hk (by omega) (by omega) (by simp at h4 ⊢; omega) hcl (by simpa using h6)
    have hhead : R.head?.all (fun x => decide (x = m + 1)) = true := by
      have := hmid.2.2
      rw [okF_some] at this
      simp only [Bool.and_eq_true] at this
      exact this.2
    rcases word_ref (iter (fun loop (s : (List Int) × (List Int)) => f_note_Strip_b4 loop s.1 s.2) n) ((text ++ tl ns') ++ 0 :: 63 :: wr m.toNat) R (text ++ tl ns').length (wr m.toNat) (by omega) (by omega) (by omega) (by omega) (.inr hg0) hdr with ⟨_, h⟩ | ⟨q, g1, g2, g3, _, g4, g5⟩
    · exact (h m.toNat rfl (by omega) (by omega) (by omega) (by rw [show ((m.toNat : Nat) : Int) = m from by omega]; exact hhead)).elim
    · obtain rfl : q = m.toNat := (wr_inj _ _ (by omega) g3 g1).symm
      rw [g5, Int.toNat_natCast, List.take_left' rfl, show ((m.toNat : Nat) : Int) = m from by omega, ih]
      simp
end Go.Proofs.YtdegmbjhedfffaaDoor
