/-
  Own work. Chapter 19, plain part: headers are read; the laws NumberHeaders and NumberHeadersMatchReference.
-/
import Derived.Test.YtlcoabpgknpaoaaDoorP19h
set_option linter.unusedSimpArgs false
set_option linter.unusedVariables false
set_option maxRecDepth 100000
set_option linter.unusedSimpArgs false
set_option linter.unusedVariables false
namespace Go.Proofs.YtlcoabpgknpaoaaDoor
open Go.Abs
/-- What is read, as a value. -/
def rdv (l : List Int) : Int × Int × Int := (f_number_Read l).getD (0, 0, 0)
theorem n_rdv (l : List Int) (h : l.length < 900000) : f_number_Read l = some (rdv l) ∧ f_R19_Read l = some (rdv l) := by
  obtain ⟨x, e1, e2⟩ := rs_eq number_rs ref_rs l h
  unfold rdv
  rw [e1, e2]
  exact ⟨rfl, rfl⟩
theorem rdv_bounds (l : List Int) (h : l.length < 900000) : 0 ≤ (rdv l).1 ∧ (rdv l).1 ≤ 99999 ∧ 0 ≤ (rdv l).2.1 ∧ (rdv l).2.1 ≤ (l.length : Int) := by
  unfold rdv
  rcases number_rs l h with ⟨e, _⟩ | ⟨n, r, d, e⟩
  · rw [e]; simp
  · rw [e]
    have := d.2.1
    have h2 : l.length = (wr n).length + r.length := by rw [d.1, List.length_append]
    dsimp only [Option.getD_some]
    omega
theorem rdv_wr (n : Nat) (hn : n ≤ 99999) (r : List Int) (hr : nd r) (hl : r.length < 800000) : rdv (wr n ++ r) = ((n : Int), ((wr n).length : Int), 0) := by
  unfold rdv
  have hw := wr_len n
  have d : Dec (wr n ++ r) n r := ⟨rfl, hn, hr⟩
  rcases number_rs (wr n ++ r) (by rw [List.length_append]; omega) with ⟨e, h⟩ | ⟨m, s, d', e⟩
  · exact absurd d (h n r)
  · obtain ⟨rfl, rfl⟩ := d.unique d'
    rw [e]; rfl
def zeroH : S_Header := ⟨0, ⟨0, 0⟩, false, 0, 0⟩
/-- The candidates: left part and right part. -/
def cL (l : List Int) : Int × Int :=
  if (lft l).length = 0 then (0, 0) else if 2 < (lft l).length ∧ (lft l).getD 0 0 = 48 then ((rdv ((lft l).drop 2)).1, lt ((lft l).getD 1 0)) else ((rdv (lft l)).1, 0)
def candN (l : List Int) : S_Header :=
  let x := rdv (rgt l)
  ⟨l.length, ⟨Int.tdiv (x.1 + 1) 2, if ((rgt l).drop x.2.1.toNat).length = 2 then lt (((rgt l).drop x.2.1.toNat).getD 1 0) else 0⟩, Int.tmod x.1 2 == 0, (cL l).1, (cL l).2⟩
def answer (l : List Int) (h : S_Header) : S_Header × Int := if okH h ∧ hd h = l then (h, 0) else (zeroH, 190)
theorem equal_loop (t0 t1 : List Int) (hl : t0.length = t1.length) (hb : t0.length < 1000000000) : ∀ (n i : Nat), t0.length < n + i → i ≤ t0.length →
    iter (fun loop (s : Int) => f_slices_Equal_api_Cell_b1 t0 t1 loop s) n (i : Int) = some (decide (t0.drop i = t1.drop i)) := same_loop t0 t1 hl hb
theorem f_equal (t0 t1 : List Int) (hb : t0.length < 900000) : f_slices_Equal_api_Cell t0 t1 = some (decide (t0 = t1)) := f_same t0 t1 hb
theorem headerS_len (h : S_Header) : (headerS h).1.length ≤ 60 := by
  unfold headerS
  split
  · next hk => have := hd_len h hk; have := hk.1; dsimp only; omega
  · split <;> simp
theorem rh_k1 (l : List Int) (v h : S_Header) : f_number_ReadHeader_k1 l v h = some (answer l h) := by
  unfold f_number_ReadHeader_k1 answer
  rw [bind_some' (n_header h)]
  have hlen := headerS_len h
  unfold headerS at hlen ⊢
  by_cases hk : okH h
  · rw [if_pos hk] at hlen ⊢
    dsimp only at hlen ⊢
    have he := f_equal (hd h) l (by omega)
    rw [show (!((0 : Int) != 0)) = true from rfl, cond_true, bind_some' he]
    by_cases e : hd h = l
    · rw [decide_eq_true e, if_pos ⟨hk, e⟩]; rfl
    · rw [decide_eq_false e, if_neg (fun x => e x.2)]; rfl
  · rw [if_neg hk, if_neg (fun x : okH h ∧ hd h = l => hk x.1)]
    split <;> rfl
theorem rrh_k1 (l : List Int) (v h : S_Header) : f_R19_ReadHeader_k1 l v h = some (answer l h) := by
  unfold f_R19_ReadHeader_k1 answer
  rw [bind_some' (r_header h)]
  have hlen := headerS_len h
  unfold headerS at hlen ⊢
  by_cases hk : okH h
  · rw [if_pos hk] at hlen ⊢
    dsimp only at hlen ⊢
    have he := f_same (hd h) l (by omega)
    rw [show (!((0 : Int) != 0)) = true from rfl, cond_true, bind_some' he]
    by_cases e : hd h = l
    · rw [decide_eq_true e, if_pos ⟨hk, e⟩]; rfl
    · rw [decide_eq_false e, if_neg (fun x => e x.2)]; rfl
  · rw [if_neg hk, if_neg (fun x : okH h ∧ hd h = l => hk x.1)]
    split <;> rfl
theorem index_loop (t : List Int) (ht : t.length < 900000) : ∀ n i : Nat, t.length < n + i → i ≤ (lft t).length → iter (fun loop (s : Int) => f_slices_Index_api_Cell_b1 t 0 loop s) n (i : Int) = some (if (lft t).length < t.length then ((lft t).length : Int) else -1)
  | 0, i, h1, h2 => by have := lft_le t; omega
  | n + 1, i, h1, h2 => by
    rw [iter_succ, f_slices_Index_api_Cell_b1]
    have hle := lft_le t
    by_cases hi : i < t.length
    · have hs := lft_step t i hi h2
      rw [cd_pos (by omega), G_pos (by omega), Int.toNat_natCast]
      by_cases h0 : t.getD i 0 = 0
      · have : ¬ i < (lft t).length := fun x => hs.2 x h0
        rw [cb_pos h0.symm, if_pos (by omega), show i = (lft t).length from by omega]
      · have := hs.1 h0
        rw [cb_neg (fun e => h0 e.symm), G_inR (by omega)]
        exact index_loop t ht n (i + 1) (by omega) (by omega)
    · rw [cd_neg (by omega), if_neg (by omega)]
theorem rh_k2 (l : List Int) (hl : l.length < 900000) (hlt : (rgt l).length < l.length) (v : S_Header) (I P : Int) : f_number_ReadHeader_k2 l ((l.length - 1 - (rgt l).length : Nat) : Int) v ⟨(l.length : Int), ⟨0, 0⟩, false, I, P⟩ = some (answer l ⟨l.length, (candN l).Label, (candN l).Back, I, P⟩) := by
  unfold f_number_ReadHeader_k2
  have hd := (rgt_drop l).1
  rw [G_inR (by omega), G_pos (by omega), show (((l.length - 1 - (rgt l).length : Nat) : Int) + 1).toNat = l.length - (rgt l).length from by omega, hd]
  have hb := rdv_bounds (rgt l) (by omega)
  rw [bind_some' (n_rdv (rgt l) (by omega)).1]
  have ht : Int.tdiv ((rdv (rgt l)).1 + 1) 2 = ((rdv (rgt l)).1 + 1) / 2 := Int.tdiv_eq_ediv_of_nonneg (by omega)
  rw [G_inR (by omega), G_inR (by rw [ht]; omega), G_pos (by omega)]
  by_cases h2 : ((rgt l).drop (rdv (rgt l)).2.1.toNat).length = 2
  · rw [cb_pos (by omega), G_pos (by omega), bind_some' (f_letter _), rh_k1]
    unfold candN
    dsimp only
    rw [if_pos h2]
    rfl
  · rw [cb_neg (by omega), rh_k1]
    unfold candN
    dsimp only
    rw [if_neg h2]
theorem rh_k3 (l : List Int) (hl : l.length < 900000) (hlt : (rgt l).length < l.length) (v : S_Header) (P : Int) (x : List Int) (hx : x.length < 900000) : f_number_ReadHeader_k3 l ((l.length - 1 - (rgt l).length : Nat) : Int) v ⟨(l.length : Int), ⟨0, 0⟩, false, 0, P⟩ x = some (answer l ⟨l.length, (candN l).Label, (candN l).Back, (rdv x).1, P⟩) := by
  unfold f_number_ReadHeader_k3
  rw [bind_some' (n_rdv x hx).1]
  exact rh_k2 l hl hlt v _ _
theorem rh_loop (l : List Int) (hl : l.length < 900000) (hlt : (lft l).length < l.length) (hr : (rgt l).length < l.length) : ∀ n k : Nat, k < n → k < l.length → l.length ≤ k + 1 + (rgt l).length →
    iter (fun loop (s : Int) => f_number_ReadHeader_b1 l ((lft l).length : Int) loop s) n (k : Int) = some (answer l (candN l))
  | 0, k, h1, h2, h3 => by omega
  | n + 1, k, h1, h2, h3 => by
    rw [iter_succ, f_number_ReadHeader_b1]
    have hs := rgt_step l k h2 h3
    rw [G_pos (by omega), Int.toNat_natCast]
    by_cases h0 : l.getD k 0 = 0
    · have hk : k = l.length - 1 - (rgt l).length := by
        have : ¬ l.length < k + 1 + (rgt l).length := fun x => hs.2 x h0
        omega
      rw [cn_neg h0, G_pos (by omega), hk, Int.toNat_natCast, lft_take]
      have hc : candN l = ⟨l.length, (candN l).Label, (candN l).Back, (cL l).1, (cL l).2⟩ := rfl
      rw [hc]
      unfold cL
      by_cases he : (lft l).length = 0
      · rw [cd_neg (by omega), if_pos he]
        exact rh_k2 l hl hr _ 0 0
      · rw [cd_pos (by omega), if_neg he, G_pos (fun _ => by omega)]
        by_cases hm : 2 < (lft l).length ∧ (lft l).getD 0 0 = 48
        · rw [cond_pos (b := cond _ _ _) (by rw [and_tt]; simp; exact ⟨by omega, by simpa using hm.2⟩), if_pos hm, G_pos (by omega), bind_some' (f_letter _), G_pos (by omega)]
          exact rh_k3 l hl hr _ _ _ (by simp; omega)
        · rw [cond_neg (b := cond _ _ _) (by
            rw [and_tt]
            refine Bool.and_eq_false_iff.2 ?_
            by_cases h1 : 2 < (lft l).length
            · right; exact beq_eq_false_iff_ne.2 fun e => hm ⟨h1, e⟩
            · left; exact decide_eq_false (by omega)), if_neg hm]
          exact rh_k3 l hl hr _ _ _ (by omega)
    · have := hs.1 h0
      rw [cn_pos h0, G_inR (by omega), show (k : Int) - 1 = ((k - 1 : Nat) : Int) from by omega]
      exact rh_loop l hl hlt hr n (k - 1) (by omega) (by omega) (by omega)
theorem rgt_lt (l : List Int) : (lft l).length < l.length ↔ (rgt l).length < l.length := by
  have key : ∀ l : List Int, (lft l).length < l.length ↔ 0 ∈ l := by
    intro l
    induction l with
    | nil => simp [lft]
    | cons c l ih =>
      unfold lft at ih ⊢
      by_cases hc : c = 0
      · subst hc; simp
      · rw [List.takeWhile_cons_of_pos (by simpa using hc)]
        simp only [List.length_cons, List.mem_cons]
        constructor
        · intro h; exact .inr (ih.1 (by omega))
        · rintro (h | h)
          · exact absurd h.symm hc
          · have := ih.2 h; omega
  have e2 : (lft l.reverse).length = (rgt l).length := by unfold rgt lft; rw [List.length_reverse]
  rw [key l, ← e2]
  have := key l.reverse
  rw [List.length_reverse, List.mem_reverse] at this
  exact this.symm
theorem n_readHeader (l : List Int) (hl : l.length < 900000) : f_number_ReadHeader l = some (if (lft l).length < l.length then answer l (candN l) else (zeroH, 190)) := by
  unfold f_number_ReadHeader
  have hi := index_loop l hl 1000000 0 (by omega) (by omega)
  rw [bind_some' (by exact hi)]
  by_cases h : (lft l).length < l.length
  · rw [if_pos h, if_pos h, cd_neg (by omega), G_inR (by omega)]
    have := rh_loop l hl h ((rgt_lt l).1 h) 1000000 (l.length - 1) (by omega) (by omega) (by omega)
    rw [show ((l.length - 1 : Nat) : Int) = (l.length : Int) - 1 from by omega] at this
    exact this
  · rw [if_neg h, if_neg h, cd_pos (by omega)]
    rfl
theorem split_loop2 (t : List Int) (ht : t.length < 900000) (v : Nat) (hv : v ≤ t.length) : ∀ n k : Nat, k < n → k ≤ t.length → t.length ≤ k + (rgt t).length → iter (fun loop (s : Int) => f_R19_split_b1 t (v : Int) loop s) n (k : Int) = some (t.take v, rgt t)
  | 0, k, h1, h2, h3 => by omega
  | n + 1, k, h1, h2, h3 => by
    rw [iter_succ, f_R19_split_b1]
    rw [G_pos (fun h => inR_of (by omega)), G_pos (fun h => by simp at h; omega)]
    have hd := rgt_drop t
    by_cases h0 : 0 < k
    · have hs := rgt_step t (k - 1) (by omega) (by omega)
      rw [show ((k : Int) - 1).toNat = k - 1 from by omega]
      by_cases hc : t.getD (k - 1) 0 = 0
      · have : ¬ t.length < k - 1 + 1 + (rgt t).length := fun x => hs.2 x hc
        rw [cond_neg (b := cond _ _ _) (by rw [and_tt, hc]; simp), G_pos (by omega), G_pos (by omega), Int.toNat_natCast, Int.toNat_natCast, show k = t.length - (rgt t).length from by omega, hd.1]
      · have := hs.1 hc
        rw [cond_pos (b := cond _ _ _) (by rw [and_tt]; simp; exact ⟨h0, by simpa using hc⟩), G_inR (by omega), show (k : Int) - 1 = ((k - 1 : Nat) : Int) from by omega]
        exact split_loop2 t ht v hv n (k - 1) (by omega) (by omega) (by omega)
    · rw [cond_neg (b := cond _ _ _) (by rw [and_tt]; simp; omega), G_pos (by omega), G_pos (by omega), Int.toNat_natCast, Int.toNat_natCast, show k = t.length - (rgt t).length from by omega, hd.1]
theorem split_loop1 (t : List Int) (ht : t.length < 900000) : ∀ n i : Nat, t.length < n + i → i ≤ (lft t).length → iter (fun loop (s : Int) => f_R19_split_b2 t loop s) n (i : Int) = some (lft t, rgt t)
  | 0, i, h1, h2 => by have := lft_le t; omega
  | n + 1, i, h1, h2 => by
    rw [iter_succ, f_R19_split_b2]
    have hle := lft_le t
    rw [G_pos (fun h => by simp at h; omega), Int.toNat_natCast]
    have fin : i = (lft t).length → iter (fun loop (s : Int) => f_R19_split_b1 t (i : Int) loop s) 1000000 (t.length : Int) = some (lft t, rgt t) := by
      intro e
      rw [split_loop2 t ht i (by omega) 1000000 t.length (by omega) (by omega) (by omega), e, lft_take]
    by_cases hi : i < t.length
    · have hs := lft_step t i hi h2
      by_cases h0 : t.getD i 0 = 0
      · have : ¬ i < (lft t).length := fun x => hs.2 x h0
        rw [cond_neg (b := cond _ _ _) (by rw [and_tt, h0]; simp)]
        exact fin (by omega)
      · have := hs.1 h0
        rw [cond_pos (b := cond _ _ _) (by rw [and_tt]; simp; exact ⟨by omega, by simpa using h0⟩), G_inR (by omega)]
        exact split_loop1 t ht n (i + 1) (by omega) (by omega)
    · rw [cond_neg (b := cond _ _ _) (by rw [and_tt]; simp; omega)]
      exact fin (by omega)
theorem f_split (t : List Int) (ht : t.length < 900000) : f_R19_split t = some (lft t, rgt t) := split_loop1 t ht 1000000 0 (by omega) (by omega)
/-- The reference's candidate. -/
def kR (c : Int) : Int := if c = tab_number_letters.getD 1 0 then 2 else if c = tab_number_letters.getD 0 0 then 1 else 0
def cLR (l : List Int) : Int × Int :=
  if 2 < (lft l).length ∧ (lft l).getD 0 0 = 48 then ((rdv ((lft l).drop 2)).1, lt ((lft l).getD 1 0)) else if (lft l).length = 0 then (0, 0) else ((rdv (lft l)).1, 0)
theorem cLR_eq (l : List Int) : cLR l = cL l := by
  unfold cLR cL
  by_cases h : 2 < (lft l).length ∧ (lft l).getD 0 0 = 48
  · rw [if_pos h, if_neg (by omega), if_pos h]
  · rw [if_neg h]
    by_cases h0 : (lft l).length = 0
    · rw [if_pos h0, if_pos h0]
    · rw [if_neg h0, if_neg h0, if_neg h]
def candR (l : List Int) : S_Header :=
  let x := rdv (rgt l)
  ⟨l.length, ⟨Int.tdiv (x.1 + 1) 2, if x.2.1 < ((rgt l).length : Int) then kR ((rgt l).getD ((rgt l).length - 1) 0) else 0⟩, Int.tmod x.1 2 == 0, (cL l).1, (cL l).2⟩
theorem rrh_k2 (l : List Int) (v : S_Header) (x : List Int) (hx : x.length < 900000) (W : Int) (L : S_Label) (B : Bool) (P : Int) : f_R19_ReadHeader_k2 l v x ⟨W, L, B, 0, P⟩ = some (answer l ⟨W, L, B, if x.length = 0 then 0 else (rdv x).1, P⟩) := by
  unfold f_R19_ReadHeader_k2
  by_cases h : x.length = 0
  · rw [cd_neg (by omega), if_pos h, rrh_k1]
  · rw [cd_pos (by omega), if_neg h, bind_some' (n_rdv x hx).2, rrh_k1]
theorem rrh_loop1 (l : List Int) (r : List Int) (hl : (lft l).length < 900000) (h2 : 2 < (lft l).length) (v : S_Header) (W : Int) (L : S_Label) (B : Bool) : ∀ n j : Nat, 27 < n + j → 1 ≤ j → j ≤ 27 →
    iter (fun loop (s : S_Header × S_Header × Int) => f_R19_ReadHeader_b1 l (lft l, r) loop s.1 s.2.1 s.2.2) n (v, ⟨W, L, B, 0, if lt ((lft l).getD 1 0) < (j : Int) then lt ((lft l).getD 1 0) else 0⟩, (j : Int)) = some (answer l ⟨W, L, B, (rdv ((lft l).drop 2)).1, lt ((lft l).getD 1 0)⟩)
  | 0, j, h1, h3, h4 => by omega
  | n + 1, j, h1, h3, h4 => by
    rw [iter_succ, f_R19_ReadHeader_b1]
    dsimp only
    have e1 : (1 : Int).toNat = 1 := rfl
    have hlt : 0 ≤ lt ((lft l).getD 1 0) ∧ lt ((lft l).getD 1 0) ≤ 26 := by unfold lt; split <;> omega
    by_cases hj : j ≤ 26
    · have ih := rrh_loop1 l r hl h2 v W L B n (j + 1) (by omega) (by omega) (by omega)
      rw [cd_pos (by omega), G_pos (by omega), bind_some' letters_eq, G_inR (by omega), G_pos (by have : tab_number_letters.length = 26 := rfl; omega), e1, show ((j : Int) - 1).toNat = j - 1 from by omega]
      by_cases hc : tab_number_letters.idxOf ((lft l).getD 1 0) = j - 1
      · have el : lt ((lft l).getD 1 0) = (j : Int) := by
          unfold lt; rw [hc, if_pos (by omega)]; omega
        rw [cb_pos ((letter_eq (by omega)).2 hc).symm]
        unfold f_R19_ReadHeader_k3
        rw [G_inR (by omega)]
        rw [if_pos (by omega)] at ih
        rw [el] at ih ⊢
        exact ih
      · rw [cb_neg (fun e => hc ((letter_eq (by omega)).1 e.symm))]
        unfold f_R19_ReadHeader_k3
        rw [G_inR (by omega)]
        have el : lt ((lft l).getD 1 0) ≠ (j : Int) := by
          unfold lt; split <;> omega
        have e : (if lt ((lft l).getD 1 0) < ((j + 1 : Nat) : Int) then lt ((lft l).getD 1 0) else 0) = if lt ((lft l).getD 1 0) < (j : Int) then lt ((lft l).getD 1 0) else 0 := by
          by_cases h : lt ((lft l).getD 1 0) < (j : Int)
          · rw [if_pos h, if_pos (by omega)]
          · rw [if_neg h, if_neg (by omega)]
        rw [e] at ih
        exact ih
    · rw [cd_neg (by omega), G_pos (by omega), rrh_k2 l _ _ (by simp; omega), if_pos (show lt ((lft l).getD 1 0) < (j : Int) by omega)]
      rw [if_neg (by simp; omega)]
      rfl
theorem rrh_k4 (l : List Int) (r : List Int) (hl : (lft l).length < 900000) (v : S_Header) (W : Int) (L : S_Label) (B : Bool) : f_R19_ReadHeader_k4 l (lft l, r) v ⟨W, L, B, 0, 0⟩ = some (answer l ⟨W, L, B, (cL l).1, (cL l).2⟩) := by
  unfold f_R19_ReadHeader_k4
  dsimp only
  rw [← cLR_eq]
  unfold cLR
  rw [G_pos (fun h => by simp at h; omega)]
  by_cases hm : 2 < (lft l).length ∧ (lft l).getD 0 0 = 48
  · rw [cond_pos (b := cond _ _ _) (by rw [and_tt]; simp; exact ⟨by omega, by simpa using hm.2⟩), if_pos hm]
    have := rrh_loop1 l r hl hm.1 v W L B 1000000 1 (by omega) (by omega) (by omega)
    have e : (if lt ((lft l).getD 1 0) < ((1 : Nat) : Int) then lt ((lft l).getD 1 0) else 0) = 0 := by
      have hlt : 0 ≤ lt ((lft l).getD 1 0) ∧ lt ((lft l).getD 1 0) ≤ 26 := by unfold lt; split <;> omega
      split <;> omega
    rw [e] at this
    exact this
  · rw [cond_neg (b := cond _ _ _) (by
      rw [and_tt]
      refine Bool.and_eq_false_iff.2 ?_
      by_cases h1 : 2 < (lft l).length
      · right; exact beq_eq_false_iff_ne.2 fun e => hm ⟨h1, e⟩
      · left; exact decide_eq_false (by omega)), if_neg hm, rrh_k2 l _ _ hl]
    by_cases h0 : (lft l).length = 0
    · rw [if_pos h0, if_pos h0]
    · rw [if_neg h0, if_neg h0]
theorem rrh_loop2 (l : List Int) (hl : l.length < 900000) (h0 : 0 < (rgt l).length) (v : S_Header) (W N : Int) (B : Bool) : 
    iter (fun loop (s : S_Header × S_Header × Int) => f_R19_ReadHeader_b2 l (lft l, rgt l) loop s.1 s.2.1 s.2.2) 1000000 (v, ⟨W, ⟨N, 0⟩, B, 0, 0⟩, 1) = some (answer l ⟨W, ⟨N, kR ((rgt l).getD ((rgt l).length - 1) 0)⟩, B, (cL l).1, (cL l).2⟩) := by
  have hle := lft_le l
  have hlr := (rgt_drop l).2
  have step : ∀ (n : Nat) (j K : Int) (v : S_Header), 1 ≤ j → j ≤ 2 → iter (fun loop (s : S_Header × S_Header × Int) => f_R19_ReadHeader_b2 l (lft l, rgt l) loop s.1 s.2.1 s.2.2) (n + 1) (v, ⟨W, ⟨N, K⟩, B, 0, 0⟩, j) = iter (fun loop (s : S_Header × S_Header × Int) => f_R19_ReadHeader_b2 l (lft l, rgt l) loop s.1 s.2.1 s.2.2) n (v, ⟨W, ⟨N, if (rgt l).getD ((rgt l).length - 1) 0 = tab_number_letters.getD (j - 1).toNat 0 then j else K⟩, B, 0, 0⟩, j + 1) := by
    intro n j K v h1 h2
    rw [iter_succ, f_R19_ReadHeader_b2]
    dsimp only
    rw [cd_pos (by omega), G_inR (by omega), G_pos (by omega), bind_some' letters_eq, G_inR (by omega), G_pos (by have : tab_number_letters.length = 26 := rfl; omega), show (((rgt l).length : Int) - 1).toNat = (rgt l).length - 1 from by omega]
    unfold f_R19_ReadHeader_k5
    by_cases h : (rgt l).getD ((rgt l).length - 1) 0 = tab_number_letters.getD (j - 1).toNat 0
    · rw [cb_pos h, if_pos h, G_inR (by omega)]
    · rw [cb_neg h, if_neg h, G_inR (by omega)]
  rw [show (1000000 : Nat) = 999997 + 1 + 1 + 1 from rfl, step _ 1 0 v (by omega) (by omega), show (1 : Int) + 1 = 2 from rfl, step _ 2 _ v (by omega) (by omega)]
  rw [iter_succ, f_R19_ReadHeader_b2]
  dsimp only
  rw [cd_neg (by omega), rrh_k4 l _ (by omega)]
  rfl
theorem r_readHeader (l : List Int) (hl : l.length < 900000) : f_R19_ReadHeader l = some (if (rdv (rgt l)).2.2 = 0 ∧ (rdv (rgt l)).1 ≠ 0 then answer l (candR l) else (zeroH, 190)) := by
  unfold f_R19_ReadHeader
  have hlr := (rgt_drop l).2
  have hb := rdv_bounds (rgt l) (by omega)
  rw [bind_some' (f_split l hl)]
  dsimp only
  rw [bind_some' (n_rdv (rgt l) (by omega)).2]
  by_cases h : (rdv (rgt l)).2.2 = 0 ∧ (rdv (rgt l)).1 ≠ 0
  · have ht : Int.tdiv ((rdv (rgt l)).1 + 1) 2 = ((rdv (rgt l)).1 + 1) / 2 := Int.tdiv_eq_ediv_of_nonneg (by omega)
    rw [cond_neg (b := cond _ _ _) (by rw [or_tt, h.1]; simp [h.2]), if_pos h, G_inR (by omega), G_inR (by rw [ht]; omega)]
    unfold candR
    dsimp only
    by_cases hk : (rdv (rgt l)).2.1 < ((rgt l).length : Int)
    · rw [cd_pos hk, if_pos hk]
      exact rrh_loop2 l hl (by omega) _ _ _ _
    · rw [cd_neg hk, if_neg hk]
      exact rrh_k4 l _ (by have := lft_le l; omega) _ _ _ _
  · rw [if_neg h, cond_pos (b := cond _ _ _) (by
      rw [or_tt]
      refine Bool.or_eq_true_iff.2 ?_
      by_cases h1 : (rdv (rgt l)).2.2 = 0
      · right; exact beq_iff_eq.2 (Decidable.byContradiction fun e => h ⟨h1, e⟩)
      · left; exact bne_iff_ne.2 h1)]
    rfl
end Go.Proofs.YtlcoabpgknpaoaaDoor
