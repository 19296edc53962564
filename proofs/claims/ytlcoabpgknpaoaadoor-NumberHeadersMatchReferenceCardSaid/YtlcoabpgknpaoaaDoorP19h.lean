/-
  Own work. Chapter 19, plain part: headers are written.
-/
import Derived.Test.YtlcoabpgknpaoaaDoorP19g
set_option linter.unusedSimpArgs false
set_option linter.unusedVariables false
set_option maxRecDepth 100000
set_option linter.unusedSimpArgs false
set_option linter.unusedVariables false
namespace Go.Proofs.YtlcoabpgknpaoaaDoor
open Go.Abs
theorem drop_stepL {α : Type} (t : List (List α)) (i : Nat) (h : i < t.length) : t.drop i = t.getD i [] :: t.drop (i + 1) := by
  rw [List.drop_eq_getElem_cons h]
  simp [List.getD_eq_getElem?_getD, List.getElem?_eq_getElem h]
theorem concat_loop1 (t : List (List Int)) (ht : t.length < 1000) : ∀ (n i : Nat) (acc : List Int), t.length < n + i → i ≤ t.length → acc.length + (t.drop i).flatten.length < 1000000 →
    iter (fun loop (s : (List Int) × Int) => f_slices_Concat_api_Cell_b1 t loop s.1 s.2) n (acc, (i : Int)) = some (acc ++ (t.drop i).flatten)
  | 0, i, acc, h1, h2, h3 => by omega
  | n + 1, i, acc, h1, h2, h3 => by
    rw [iter_succ, f_slices_Concat_api_Cell_b1]
    dsimp only
    by_cases hi : i < t.length
    · have e := drop_stepL t i hi
      rw [e, List.flatten_cons, List.length_append] at h3
      have ih := concat_loop1 t ht n (i + 1) (acc ++ t.getD i []) (by omega) (by omega) (by rw [List.length_append]; omega)
      rw [cd_pos (by omega), G_pos (by omega), Int.toNat_natCast, G_room (by omega), G_inR (by omega)]
      refine Eq.trans ih ?_
      rw [e, List.flatten_cons, List.append_assoc]
    · rw [cd_neg (by omega), List.drop_eq_nil_of_le (by omega)]
      simp
theorem f_grow (n : Nat) (h : n < 1000000) : f_slices_Grow_api_Cell (n : Int) = some [] := by
  unfold f_slices_Grow_api_Cell
  rw [cd_neg (by omega), G_inR (by omega), G_inR (by omega)]
  by_cases h0 : 0 < n
  · rw [cd_pos (by omega), G_pos (by omega), G_room (by omega), G_pos (by omega)]; rfl
  · rw [cd_neg (by omega)]; rfl
theorem concat_loop2 (t : List (List Int)) (ht : t.length < 1000) : ∀ (n i v : Nat), t.length < n + i → i ≤ t.length → v + (t.drop i).flatten.length < 1000000 →
    iter (fun loop (s : Int × Int) => f_slices_Concat_api_Cell_b2 t loop s.1 s.2) n ((v : Int), (i : Int)) = (f_slices_Grow_api_Cell ((v + (t.drop i).flatten.length : Nat) : Int)).bind fun x9 => iter (fun loop (s : (List Int) × Int) => f_slices_Concat_api_Cell_b1 t loop s.1 s.2) 1000000 (x9, (0 : Int))
  | 0, i, v, h1, h2, h3 => by omega
  | n + 1, i, v, h1, h2, h3 => by
    rw [iter_succ, f_slices_Concat_api_Cell_b2]
    dsimp only
    by_cases hi : i < t.length
    · have e := drop_stepL t i hi
      rw [e, List.flatten_cons, List.length_append] at h3
      have ih := concat_loop2 t ht n (i + 1) (v + (t.getD i []).length) (by omega) (by omega) (by omega)
      rw [cd_pos (by omega), G_pos (by omega), Int.toNat_natCast, G_inR (by omega), cd_neg (by omega), G_inR (by omega)]
      refine Eq.trans ?_ (ih.trans ?_)
      · congr 1
      · rw [e, List.flatten_cons, List.length_append, Nat.add_assoc]
    · rw [cd_neg (by omega), List.drop_eq_nil_of_le (by omega)]
      rfl
theorem f_concat (t : List (List Int)) (ht : t.length < 1000) (hl : t.flatten.length < 1000000) : f_slices_Concat_api_Cell t = some t.flatten := by
  have := concat_loop2 t ht 1000000 0 0 (by omega) (by omega) (by rw [List.drop_zero]; omega)
  unfold f_slices_Concat_api_Cell
  refine Eq.trans this ?_
  rw [bind_some' (f_grow _ (by rw [List.drop_zero]; omega))]
  have h2 := concat_loop1 t ht 1000000 0 [] (by omega) (by omega) (by rw [List.drop_zero]; simp only [List.length_nil]; omega)
  rw [List.drop_zero, List.nil_append] at h2
  exact h2
theorem f_join (a b c : List Int) (h : a.length + b.length + c.length < 1000000) : f_number_join [a, b, c] = some (a ++ b ++ c) := by
  unfold f_number_join
  rw [bind_some' (f_concat _ (by simp) (by simp; omega))]
  simp
/-- Headers. -/
def hl (ink part : Int) : List Int := if ink = 0 ∧ part = 0 then [] else ik ink.toNat part.toNat
def okH (h : S_Header) : Prop := (24 ≤ h.Width ∧ h.Width ≤ 60) ∧ okL h.Label.N h.Label.K ∧ ((h.Ink = 0 ∧ h.Part = 0) ∨ okI h.Ink h.Part)
instance (h : S_Header) : Decidable (okH h) := by unfold okH; infer_instance
def pgh (h : S_Header) : List Int := pg h.Label.N.toNat h.Label.K.toNat h.Back
def hd (h : S_Header) : List Int := hl h.Ink h.Part ++ (List.replicate (h.Width.toNat - (hl h.Ink h.Part).length - (pgh h).length) 0 ++ pgh h)
def headerS (h : S_Header) : List Int × Int := if okH h then (hd h, 0) else if 24 ≤ h.Width ∧ h.Width ≤ 60 then ([], 190) else ([], 1)
theorem hl_len (i p : Int) : (hl i p).length ≤ 8 := by
  unfold hl; split
  · simp
  · exact ik_len _ _
theorem pgh_len (h : S_Header) : (pgh h).length ≤ 8 := pg_len _ _ _
theorem header_k1 (h : S_Header) (l : List Int) (hw : 24 ≤ h.Width ∧ h.Width ≤ 60) (hl8 : l.length ≤ 8) : f_number_Header_k1 h l = some (if okL h.Label.N h.Label.K then (l ++ (List.replicate (h.Width.toNat - l.length - (pgh h).length) 0 ++ pgh h), 0) else ([], 190)) := by
  unfold f_number_Header_k1
  obtain ⟨W, ⟨N, K⟩, B, I, P⟩ := h
  dsimp only at hw ⊢
  rw [bind_some' (n_page N K B)]
  unfold pageS pgh
  dsimp only
  by_cases hok : okL N K
  · rw [if_pos hok, if_pos hok]
    dsimp only
    have hp := pg_len N.toNat K.toNat B
    generalize pg N.toNat K.toNat B = q at hp
    rw [cn_neg rfl, G_inR (by omega), G_inR (by omega), G_pos (by omega)]
    rw [bind_some' (f_join _ _ _ (by rw [List.length_replicate]; omega))]
    rw [List.append_assoc, show (W - (l.length : Int) - (q.length : Int)).toNat = W.toNat - l.length - q.length from by omega]
  · rw [if_neg hok, if_neg hok]
    rfl
theorem n_header (h : S_Header) : f_number_Header h = some (headerS h) := by
  unfold f_number_Header headerS
  by_cases hw : 24 ≤ h.Width ∧ h.Width ≤ 60
  · rw [cond_neg (b := cond _ _ _) (by rw [or_tt]; simp; omega), if_pos hw]
    by_cases h0 : h.Ink = 0 ∧ h.Part = 0
    · rw [cond_neg (b := cond _ _ _) (by rw [or_tt, h0.1, h0.2]; rfl), header_k1 h [] hw (by simp)]
      have e : hl h.Ink h.Part = [] := if_pos h0
      by_cases hok : okL h.Label.N h.Label.K
      · rw [if_pos hok, if_pos ⟨hw, hok, .inl h0⟩]
        unfold hd
        rw [e]
      · rw [if_neg hok, if_neg (fun x => hok x.2.1)]
    · rw [cond_pos (b := cond _ _ _) (by rw [or_tt]; simp; omega), bind_some' (n_ink _ _)]
      unfold inkS
      by_cases hi : okI h.Ink h.Part
      · rw [if_pos hi]
        dsimp only
        have e : hl h.Ink h.Part = ik h.Ink.toNat h.Part.toNat := if_neg h0
        rw [cn_neg rfl, header_k1 h _ hw (ik_len _ _)]
        by_cases hok : okL h.Label.N h.Label.K
        · rw [if_pos hok, if_pos ⟨hw, hok, .inr hi⟩]
          unfold hd
          rw [e]
        · rw [if_neg hok, if_neg (fun x => hok x.2.1)]
      · rw [if_neg hi, if_neg (fun x => x.2.2.elim h0 hi)]
        rfl
  · rw [cond_pos (b := cond _ _ _) (by rw [or_tt]; simp; omega), if_neg hw, if_neg (fun x => hw x.1)]
theorem rheader_loop (h : S_Header) (q : List Int) (e : Int) (hw : 24 ≤ h.Width ∧ h.Width ≤ 60) (hq : q.length ≤ 8) (l : List Int) (hl8 : l.length ≤ 8) : ∀ n i : Nat, 60 < n + i → i ≤ h.Width.toNat - l.length - q.length →
    iter (fun loop (s : S_Header × (List Int)) => f_R19_Header_b1 (q, e) loop s.1 s.2) n (h, l ++ List.replicate i 0) = some (l ++ (List.replicate (h.Width.toNat - l.length - q.length) 0 ++ q), 0)
  | 0, i, h1, h2 => by omega
  | n + 1, i, h1, h2 => by
    rw [iter_succ, f_R19_Header_b1]
    dsimp only
    have el : (l ++ List.replicate i (0 : Int)).length = l.length + i := by simp
    rw [el, G_inR (by omega)]
    by_cases hi : i < h.Width.toNat - l.length - q.length
    · have ih := rheader_loop h q e hw hq l hl8 n (i + 1) (by omega) (by omega)
      rw [cd_pos (by omega), G_room (by omega), List.append_assoc, ← List.replicate_succ']
      exact ih
    · rw [cd_neg (by omega), G_room (by omega), List.append_assoc, show i = h.Width.toNat - l.length - q.length from by omega]
theorem rheader_k1 (h : S_Header) (l : List Int) (e : Int) (hw : 24 ≤ h.Width ∧ h.Width ≤ 60) (hl8 : l.length ≤ 8) : f_R19_Header_k1 h (pageS h.Label.N h.Label.K h.Back) l e = some (if okL h.Label.N h.Label.K ∧ e = 0 then (l ++ (List.replicate (h.Width.toNat - l.length - (pgh h).length) 0 ++ pgh h), 0) else ([], 190)) := by
  unfold f_R19_Header_k1 pageS
  by_cases hok : okL h.Label.N h.Label.K
  · rw [if_pos hok]
    dsimp only
    by_cases he : e = 0
    · subst he
      rw [if_pos ⟨hok, rfl⟩, cond_neg (b := cond _ _ _) rfl, G_room (by simp; omega), List.nil_append]
      have := rheader_loop h (pgh h) 0 hw (pgh_len h) l hl8 1000000 0 (by omega) (by omega)
      rw [List.replicate_zero, List.append_nil] at this
      exact this
    · rw [if_neg (fun x => he x.2), cond_pos (b := cond _ _ _) (by rw [or_tt]; simp [he])]
  · rw [if_neg hok, if_neg (fun x => hok x.1)]
    rfl
theorem r_header (h : S_Header) : f_R19_Header h = some (headerS h) := by
  unfold f_R19_Header headerS
  by_cases hw : 24 ≤ h.Width ∧ h.Width ≤ 60
  · have hp : f_R19_Page h.Label h.Back = some (pageS h.Label.N h.Label.K h.Back) := r_page _ _ _
    rw [cond_neg (b := cond _ _ _) (by rw [or_tt]; simp; omega), if_pos hw, bind_some' hp]
    by_cases h0 : h.Ink = 0 ∧ h.Part = 0
    · rw [cond_neg (b := cond _ _ _) (by rw [or_tt, h0.1, h0.2]; rfl), rheader_k1 h [] 0 hw (by simp)]
      have e : hl h.Ink h.Part = [] := if_pos h0
      by_cases hok : okL h.Label.N h.Label.K
      · rw [if_pos ⟨hok, rfl⟩, if_pos ⟨hw, hok, .inl h0⟩]
        unfold hd
        rw [e]
      · rw [if_neg (fun x => hok x.1), if_neg (fun x => hok x.2.1)]
    · rw [cond_pos (b := cond _ _ _) (by rw [or_tt]; simp; omega), bind_some' (r_ink _ _)]
      unfold inkS
      by_cases hi : okI h.Ink h.Part
      · rw [if_pos hi]
        dsimp only
        have e : hl h.Ink h.Part = ik h.Ink.toNat h.Part.toNat := if_neg h0
        rw [rheader_k1 h _ 0 hw (ik_len _ _)]
        by_cases hok : okL h.Label.N h.Label.K
        · rw [if_pos ⟨hok, rfl⟩, if_pos ⟨hw, hok, .inr hi⟩]
          unfold hd
          rw [e]
        · rw [if_neg (fun x => hok x.1), if_neg (fun x => hok x.2.1)]
      · rw [if_neg hi, if_neg (fun x => x.2.2.elim h0 hi)]
        dsimp only
        rw [rheader_k1 h _ 190 hw (by simp), if_neg (by simp)]
  · rw [cond_pos (b := cond _ _ _) (by rw [or_tt]; simp; omega), if_neg hw, if_neg (fun x => hw x.1)]
theorem hd_len (h : S_Header) (hk : okH h) : (hd h).length = h.Width.toNat := by
  unfold hd
  have := hl_len h.Ink h.Part
  have := pgh_len h
  have := hk.1
  simp
  omega
/-- The letters. -/
def lt (c : Int) : Int := if tab_number_letters.idxOf c < 26 then ((tab_number_letters.idxOf c + 1 : Nat) : Int) else 0
theorem letters_nodup (j : Nat) (h : j < 26) : tab_number_letters.idxOf (tab_number_letters.getD j 0) = j ∧ tab_number_letters.getD j 0 ≠ 0 := by
  have := all_of (n := 26) (p := fun j => decide (tab_number_letters.idxOf (tab_number_letters.getD j 0) = j ∧ tab_number_letters.getD j 0 ≠ 0)) (by kernel_rfl) j h
  simpa using this
theorem letter_eq {c : Int} {j : Nat} (h : j < 26) : tab_number_letters.getD j 0 = c ↔ tab_number_letters.idxOf c = j := by
  constructor
  · intro e; rw [← e]; exact (letters_nodup j h).1
  · intro e
    have h' : tab_number_letters.idxOf c < tab_number_letters.length := by rw [e]; exact h
    have e2 : tab_number_letters[tab_number_letters.idxOf c] = c := List.getElem_idxOf h'
    rw [← e, List.getD_eq_getElem?_getD, List.getElem?_eq_getElem h', e2]
    rfl
theorem letter_loop (c : Int) : ∀ n j : Nat, 26 < n + j → j ≤ tab_number_letters.idxOf c → iter (fun loop (s : Int) => f_number_letter_b1 c loop s) n (j : Int) = some (lt c)
  | 0, j, h1, h2 => by have : tab_number_letters.idxOf c ≤ tab_number_letters.length := List.idxOf_le_length; have : tab_number_letters.length = 26 := rfl; omega
  | n + 1, j, h1, h2 => by
    rw [iter_succ, f_number_letter_b1]
    have hle : tab_number_letters.idxOf c ≤ 26 := List.idxOf_le_length
    by_cases hj : j < 26
    · rw [cd_pos (by omega), G_pos (by omega), G_pos (by rfl), Int.toNat_natCast]
      by_cases he : tab_number_letters.idxOf c = j
      · rw [cb_pos ((letter_eq hj).2 he), G_inR (by omega)]
        unfold lt
        rw [if_pos (by omega), he]
        rfl
      · rw [cb_neg (fun e => he ((letter_eq hj).1 e)), G_inR (by omega)]
        exact letter_loop c n (j + 1) (by omega) (by omega)
    · rw [cd_neg (by omega)]
      unfold lt
      rw [if_neg (by omega)]
theorem f_letter (c : Int) : f_number_letter c = some (lt c) := letter_loop c 1000000 0 (by omega) (by omega)
theorem lt_mk (k : Nat) (h1 : 1 ≤ k) (h2 : k ≤ 26) : lt (tab_number_letters.getD (k - 1) 0) = (k : Int) := by
  unfold lt
  rw [(letters_nodup (k - 1) (by omega)).1, if_pos (by omega)]
  omega
/-- The parts of a line. -/
def lft (l : List Int) : List Int := l.takeWhile fun c => decide (c ≠ 0)
def rgt (l : List Int) : List Int := (l.reverse.takeWhile fun c => decide (c ≠ 0)).reverse
theorem lft_take (l : List Int) : l.take (lft l).length = lft l := by
  have : lft l ++ l.dropWhile (fun c => decide (c ≠ 0)) = l := List.takeWhile_append_dropWhile
  conv => lhs; rw [← this]
  exact List.take_left' (by rw [this])
theorem rgt_app (l : List Int) : (l.reverse.dropWhile fun c => decide (c ≠ 0)).reverse ++ rgt l = l := by
  unfold rgt
  rw [← List.reverse_append, List.takeWhile_append_dropWhile, List.reverse_reverse]
theorem rgt_drop (l : List Int) : l.drop (l.length - (rgt l).length) = rgt l ∧ (rgt l).length ≤ l.length := by
  have h := rgt_app l
  have hl : (l.reverse.dropWhile fun c => decide (c ≠ 0)).reverse.length + (rgt l).length = l.length := by
    rw [← List.length_append, h]
  refine ⟨?_, by omega⟩
  have e : l.length - (rgt l).length = (l.reverse.dropWhile fun c => decide (c ≠ 0)).reverse.length := by omega
  rw [e]
  conv => lhs; arg 2; rw [← h]
  exact List.drop_left' rfl
theorem lft_le (l : List Int) : (lft l).length ≤ l.length := by
  have : (lft l).length + (l.dropWhile (fun c => decide (c ≠ 0))).length = l.length := by
    unfold lft; rw [← List.length_append, List.takeWhile_append_dropWhile]
  omega
theorem lft_step (l : List Int) (i : Nat) (hi : i < l.length) (hle : i ≤ (lft l).length) : l.getD i 0 ≠ 0 ↔ i < (lft l).length := by
  constructor
  · intro h
    refine Decidable.byContradiction fun hn => ?_
    have e : i = (lft l).length := by omega
    have h1 : lft l ++ l.dropWhile (fun c => decide (c ≠ 0)) = l := List.takeWhile_append_dropWhile
    have h2 := List.head?_dropWhile_not (p := fun c : Int => decide (c ≠ 0)) (l := l)
    have e3 : l.drop i = l.dropWhile (fun c => decide (c ≠ 0)) := by
      conv => lhs; rw [← h1]
      exact List.drop_left' e.symm
    rw [getD_drop l i 0 hi] at e3
    rw [← e3] at h2
    simp at h2
    exact h (by simpa using h2)
  · intro h
    have hm : (lft l).getD i 0 ∈ lft l := getD_mem (lft l) i h
    have e : (lft l).getD i 0 = l.getD i 0 := by
      rw [← lft_take l, List.getD_eq_getElem?_getD, List.getD_eq_getElem?_getD, List.getElem?_take, if_pos h]
    have h2 : (lft l).all (fun c => decide (c ≠ 0)) = true := List.all_takeWhile
    have := List.all_eq_true.1 h2 _ hm
    rw [e] at this
    simpa using this
theorem rgt_step (l : List Int) (k : Nat) (hk : k < l.length) (hle : k + 1 + (rgt l).length ≥ l.length) : l.getD k 0 ≠ 0 ↔ l.length < k + 1 + (rgt l).length := by
  have h := lft_step l.reverse (l.length - 1 - k) (by rw [List.length_reverse]; omega) (by
    have : (lft l.reverse).length = (rgt l).length := by unfold rgt lft; rw [List.length_reverse]
    omega)
  have e : l.reverse.getD (l.length - 1 - k) 0 = l.getD k 0 := by
    rw [List.getD_eq_getElem?_getD, List.getD_eq_getElem?_getD, List.getElem?_reverse (by omega), show l.length - 1 - (l.length - 1 - k) = k from by omega]
  have e2 : (lft l.reverse).length = (rgt l).length := by unfold rgt lft; rw [List.length_reverse]
  rw [e, e2] at h
  rw [h]
  omega
end Go.Proofs.YtlcoabpgknpaoaaDoor
