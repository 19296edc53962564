/-
  Own work. Chapter 19, plain part: the laws NumberHeaders and NumberHeadersMatchReference.
-/
import Derived.Test.YtlcoabpgknpaoaaDoorP19i
set_option linter.unusedSimpArgs false
set_option linter.unusedVariables false
set_option maxRecDepth 100000
set_option linter.unusedSimpArgs false
set_option linter.unusedVariables false
namespace Go.Proofs.YtlcoabpgknpaoaaDoor
open Go.Abs
theorem mk_nz (k : Nat) (h : k ≤ 26) (c : Int) (hc : c ∈ mk k) : c ≠ 0 := by
  unfold mk at hc
  split at hc
  · simp at hc
  · simp only [List.mem_cons, List.not_mem_nil, or_false] at hc
    rcases hc with rfl | rfl
    · decide
    · exact (letters_nodup (k - 1) (by omega)).2
theorem hl_nz (h : S_Header) (hk : okH h) (c : Int) (hc : c ∈ hl h.Ink h.Part) : c ≠ 0 := by
  unfold hl at hc
  split at hc
  · simp at hc
  · next hn =>
    have hi : okI h.Ink h.Part := hk.2.2.resolve_left hn
    unfold okI at hi
    unfold ik at hc
    rcases List.mem_append.1 hc with hc | hc
    · exact mk_nz _ (by omega) c hc
    · exact (wr_cells _ c hc).2.1
theorem pgh_nz (h : S_Header) (hk : okH h) (c : Int) (hc : c ∈ pgh h) : c ≠ 0 := by
  have hi := hk.2.1
  unfold okL at hi
  unfold pgh pg at hc
  rcases List.mem_append.1 hc with hc | hc
  · exact (wr_cells _ c hc).2.1
  · exact mk_nz _ (by omega) c hc
theorem hd_gap (h : S_Header) (hk : okH h) : ∃ m, hd h = hl h.Ink h.Part ++ (0 :: (List.replicate m 0 ++ pgh h)) ∧ hd h = hl h.Ink h.Part ++ List.replicate m 0 ++ 0 :: pgh h := by
  have h1 := hl_len h.Ink h.Part
  have h2 := pgh_len h
  have h3 := hk.1
  refine ⟨h.Width.toNat - (hl h.Ink h.Part).length - (pgh h).length - 1, ?_, ?_⟩
  · unfold hd
    rw [show h.Width.toNat - (hl h.Ink h.Part).length - (pgh h).length = (h.Width.toNat - (hl h.Ink h.Part).length - (pgh h).length - 1) + 1 from by omega, List.replicate_succ]
    rfl
  · unfold hd
    conv => lhs; rw [show h.Width.toNat - (hl h.Ink h.Part).length - (pgh h).length = (h.Width.toNat - (hl h.Ink h.Part).length - (pgh h).length - 1) + 1 from by omega, List.replicate_succ']
    simp
theorem hd_lft (h : S_Header) (hk : okH h) : lft (hd h) = hl h.Ink h.Part := by
  obtain ⟨m, e, _⟩ := hd_gap h hk
  rw [e]
  exact takeWhile_app _ _ _ (fun c hc => decide_eq_true (hl_nz h hk c hc)) (fun c r he => by rw [← (List.cons.inj he).1]; rfl)
theorem hd_rgt (h : S_Header) (hk : okH h) : rgt (hd h) = pgh h := by
  obtain ⟨m, _, e⟩ := hd_gap h hk
  unfold rgt
  rw [e, List.reverse_append, List.reverse_cons, List.append_assoc]
  rw [takeWhile_app _ _ _ (fun c hc => decide_eq_true (pgh_nz h hk c (List.mem_reverse.1 hc))) (fun c r he => by rw [← (List.cons.inj he).1]; rfl), List.reverse_reverse]
theorem nd_mk (k : Nat) : nd (mk k) := by
  intro c r e
  rcases mk_form k with h | ⟨s, h⟩
  · rw [h] at e; simp at e
  · rw [h] at e
    rw [← (List.cons.inj e).1]
    decide
theorem nd_nil : nd [] := fun c r e => by simp at e
theorem rdv_self (n : Nat) (hn : n ≤ 99999) : rdv (wr n) = ((n : Int), ((wr n).length : Int), 0) := by
  have := rdv_wr n hn [] nd_nil (by simp)
  rw [List.append_nil] at this
  exact this
theorem hd_cL (h : S_Header) (hk : okH h) : cL (hd h) = (h.Ink, h.Part) := by
  unfold cL
  rw [hd_lft h hk]
  unfold hl
  by_cases h0 : h.Ink = 0 ∧ h.Part = 0
  · rw [if_pos h0, if_pos (by rfl), h0.1, h0.2]
  · rw [if_neg h0]
    have hi : okI h.Ink h.Part := hk.2.2.resolve_left h0
    unfold okI at hi
    have hw := wr_len h.Ink.toNat
    unfold ik
    by_cases hp : h.Part = 0
    · have e : mk h.Part.toNat = [] := by unfold mk; rw [if_pos (by omega)]
      rw [e, List.nil_append, if_neg (by omega), if_neg (by rw [wr_cons]; intro x; exact absurd x.2 (show ¬ (60 : Int) = 48 by decide)), rdv_self _ (by omega), hp]
      dsimp only
      rw [show ((h.Ink.toNat : Nat) : Int) = h.Ink from by omega]
    · have e : mk h.Part.toNat = [48, tab_number_letters.getD (h.Part.toNat - 1) 0] := by unfold mk; rw [if_neg (by omega)]
      rw [e, if_neg (by simp), if_pos (by simp; omega)]
      have e2 : ([48, tab_number_letters.getD (h.Part.toNat - 1) 0] ++ wr h.Ink.toNat).drop 2 = wr h.Ink.toNat := rfl
      have e3 : ([48, tab_number_letters.getD (h.Part.toNat - 1) 0] ++ wr h.Ink.toNat).getD 1 0 = tab_number_letters.getD (h.Part.toNat - 1) 0 := rfl
      rw [e2, e3, rdv_self _ (by omega), lt_mk _ (by omega) (by omega)]
      dsimp only
      rw [show ((h.Ink.toNat : Nat) : Int) = h.Ink from by omega, show ((h.Part.toNat : Nat) : Int) = h.Part from by omega]
def pn (h : S_Header) : Nat := if h.Back then 2 * h.Label.N.toNat else 2 * h.Label.N.toNat - 1
theorem hd_rdv (h : S_Header) (hk : okH h) : rdv (rgt (hd h)) = ((pn h : Int), ((wr (pn h)).length : Int), 0) ∧ pgh h = wr (pn h) ++ mk h.Label.K.toNat := by
  rw [hd_rgt h hk]
  have hi := hk.2.1
  unfold okL at hi
  have e : pgh h = wr (pn h) ++ mk h.Label.K.toNat := rfl
  refine ⟨?_, e⟩
  rw [e]
  exact rdv_wr _ (by unfold pn; split <;> omega) _ (nd_mk _) (by unfold mk; split <;> simp)
theorem pn_back (h : S_Header) (hk : okH h) : Int.tdiv ((pn h : Int) + 1) 2 = h.Label.N ∧ (Int.tmod (pn h : Int) 2 == 0) = h.Back ∧ pn h ≠ 0 := by
  have hi := hk.2.1
  unfold okL at hi
  rw [Int.tdiv_eq_ediv_of_nonneg (by omega), Int.tmod_eq_emod_of_nonneg (by omega)]
  unfold pn
  cases hb : h.Back
  · simp only [Bool.false_eq_true, if_false]
    refine ⟨by omega, ?_, by omega⟩
    exact beq_eq_false_iff_ne.2 (by omega)
  · simp only [if_true]
    refine ⟨by omega, ?_, by omega⟩
    exact beq_iff_eq.2 (by omega)
theorem hd_candN (h : S_Header) (hk : okH h) : candN (hd h) = h := by
  unfold candN
  obtain ⟨e1, e2⟩ := hd_rdv h hk
  obtain ⟨p1, p2, p3⟩ := pn_back h hk
  have hi := hk.2.1
  unfold okL at hi
  have hw := hk.1
  dsimp only
  rw [e1, hd_cL h hk, hd_len h hk, hd_rgt h hk]
  dsimp only
  rw [p1, p2, Int.toNat_natCast, e2, List.drop_left' rfl]
  have ek : (if (mk h.Label.K.toNat).length = 2 then lt ((mk h.Label.K.toNat).getD 1 0) else 0) = h.Label.K := by
    by_cases hk0 : h.Label.K = 0
    · have e : mk h.Label.K.toNat = [] := by unfold mk; rw [if_pos (by omega)]
      rw [e, if_neg (by simp), hk0]
    · have e : mk h.Label.K.toNat = [48, tab_number_letters.getD (h.Label.K.toNat - 1) 0] := by unfold mk; rw [if_neg (by omega)]
      rw [e, if_pos (by rfl)]
      have := lt_mk h.Label.K.toNat (by omega) (by omega)
      refine Eq.trans this ?_
      omega
  rw [ek, show ((h.Width.toNat : Nat) : Int) = h.Width from by omega]
theorem hd_candR (h : S_Header) (hk : okH h) : candR (hd h) = h := by
  unfold candR
  obtain ⟨e1, e2⟩ := hd_rdv h hk
  obtain ⟨p1, p2, p3⟩ := pn_back h hk
  have hi := hk.2.1
  unfold okL at hi
  have hw := hk.1
  dsimp only
  rw [e1, hd_cL h hk, hd_len h hk, hd_rgt h hk]
  dsimp only
  rw [p1, p2, e2]
  have ek : (if ((wr (pn h)).length : Int) < ((wr (pn h) ++ mk h.Label.K.toNat).length : Int) then kR ((wr (pn h) ++ mk h.Label.K.toNat).getD ((wr (pn h) ++ mk h.Label.K.toNat).length - 1) 0) else 0) = h.Label.K := by
    by_cases hk0 : h.Label.K = 0
    · have e : mk h.Label.K.toNat = [] := by unfold mk; rw [if_pos (by omega)]
      rw [e, List.append_nil, if_neg (by omega), hk0]
    · have e : mk h.Label.K.toNat = [48, tab_number_letters.getD (h.Label.K.toNat - 1) 0] := by unfold mk; rw [if_neg (by omega)]
      rw [e, List.length_append, if_pos (by simp only [List.length_cons, List.length_nil]; omega)]
      rw [List.getD_eq_getElem?_getD, List.getElem?_append_right (by simp)]
      rw [show (wr (pn h)).length + [48, tab_number_letters.getD (h.Label.K.toNat - 1) 0].length - 1 - (wr (pn h)).length = 1 from by simp only [List.length_cons, List.length_nil]; omega]
      have h12 : h.Label.K = 1 ∨ h.Label.K = 2 := by omega
      rcases h12 with h12 | h12 <;> rw [h12] <;> rfl
  rw [ek, show ((h.Width.toNat : Nat) : Int) = h.Width from by omega]
def HS (f : List Int → Option (S_Header × Int)) : Prop := ∀ l, l.length < 900000 → (∃ h, okH h ∧ hd h = l ∧ f l = some (h, 0)) ∨ (f l = some (zeroH, 190) ∧ ∀ h, okH h → hd h ≠ l)
theorem answer_cases (l : List Int) (h' : S_Header) (hb : ∀ h, okH h → hd h = l → h' = h) : (∃ h, okH h ∧ hd h = l ∧ answer l h' = (h, 0)) ∨ (answer l h' = (zeroH, 190) ∧ ∀ h, okH h → hd h ≠ l) := by
  unfold answer
  by_cases hc : okH h' ∧ hd h' = l
  · rw [if_pos hc]; exact .inl ⟨h', hc.1, hc.2, rfl⟩
  · rw [if_neg hc]
    exact .inr ⟨rfl, fun h hk e => hc (by rw [hb h hk e]; exact ⟨hk, e⟩)⟩
theorem n_hs : HS f_number_ReadHeader := by
  intro l hl
  rw [n_readHeader l hl]
  by_cases h : (lft l).length < l.length
  · rw [if_pos h]
    rcases answer_cases l (candN l) (fun h hk e => by rw [← e, hd_candN h hk]) with ⟨h, a, b, c⟩ | ⟨a, b⟩
    · rw [c]; exact .inl ⟨h, a, b, rfl⟩
    · rw [a]; exact .inr ⟨rfl, b⟩
  · rw [if_neg h]
    refine .inr ⟨rfl, fun h' hk e => h ?_⟩
    subst e
    rw [hd_lft h' hk, hd_len h' hk]
    have := hl_len h'.Ink h'.Part
    have := hk.1
    omega
theorem r_hs : HS f_R19_ReadHeader := by
  intro l hl
  rw [r_readHeader l hl]
  by_cases h : (rdv (rgt l)).2.2 = 0 ∧ (rdv (rgt l)).1 ≠ 0
  · rw [if_pos h]
    rcases answer_cases l (candR l) (fun h hk e => by rw [← e, hd_candR h hk]) with ⟨h, a, b, c⟩ | ⟨a, b⟩
    · rw [c]; exact .inl ⟨h, a, b, rfl⟩
    · rw [a]; exact .inr ⟨rfl, b⟩
  · rw [if_neg h]
    refine .inr ⟨rfl, fun h' hk e => h ?_⟩
    subst e
    rw [(hd_rdv h' hk).1]
    have := (pn_back h' hk).2.2
    exact ⟨rfl, by dsimp only; omega⟩
theorem hd_inj (h h' : S_Header) (hk : okH h) (hk' : okH h') (e : hd h = hd h') : h = h' := by
  rw [← hd_candN h hk, e, hd_candN h' hk']
theorem hs_eq (l : List Int) (hl : l.length < 900000) : ∃ x, f_number_ReadHeader l = some x ∧ f_R19_ReadHeader l = some x := by
  rcases n_hs l hl with ⟨h, a, b, c⟩ | ⟨a, b⟩
  · rcases r_hs l hl with ⟨h', a', b', c'⟩ | ⟨a', b'⟩
    · have := hd_inj h h' a a' (b.trans b'.symm)
      subst this
      exact ⟨_, c, c'⟩
    · exact absurd b (b' h a)
  · rcases r_hs l hl with ⟨h', a', b', c'⟩ | ⟨a', b'⟩
    · exact absurd b' (b h' a')
    · exact ⟨_, a, a'⟩
theorem all_eq (a b : S_Header) : ([a.Width == b.Width, a.Label.N == b.Label.N, a.Label.K == b.Label.K, a.Back == b.Back, a.Ink == b.Ink, a.Part == b.Part].all id) = decide (a = b) := by
  by_cases e : a = b
  · subst e; simp
  · rw [decide_eq_false e]
    refine Bool.eq_false_iff.2 fun h => e ?_
    simp at h
    obtain ⟨W, ⟨N, K⟩, B, I, P⟩ := a
    obtain ⟨W', ⟨N', K'⟩, B', I', P'⟩ := b
    dsimp only at h
    obtain ⟨rfl, rfl, rfl, rfl, rfl, rfl⟩ := h
    rfl
theorem made_ok (t0 : S_Raw) (h : okS_Raw t0) : ∃ x, f_R19_Made t0 = some x ∧ okH x := by
  obtain ⟨W, n, k, ink, part, a1, a2, a3, a4, a5, a6, a7, a8, e⟩ := f_made t0 h
  refine ⟨_, e, ⟨by dsimp only; omega, ?_, ?_⟩⟩
  · unfold okL; dsimp only; omega
  · unfold okI; dsimp only
    by_cases h0 : ink = 0
    · left; have := a8 h0; omega
    · right; omega
theorem plain_NumberHeaders {t0 : S_Raw} {t1 t2 : Int} (h0 : okS_Raw t0) (h1 : okInt .u8 t1) (h2 : okInt .u8 t2) : f_L19_NumberHeaders t0 t1 t2 = some true := by
  unfold f_L19_NumberHeaders
  obtain ⟨x, ex, hx⟩ := made_ok t0 h0
  have hS : headerS x = (hd x, 0) := if_pos hx
  have hlen := hd_len x hx
  have hw := hx.1
  rw [bind_some' sanity_true, bind_some' ex, bind_some' (n_header x), hS]
  dsimp only
  rw [cond_neg (b := cond _ _ _) (by rw [or_tt]; simp; omega)]
  have hrb : f_number_ReadHeader (hd x) = some (x, 0) := by
    rcases n_hs (hd x) (by omega) with ⟨h, a, b, c⟩ | ⟨a, b⟩
    · rw [hd_inj h x a hx b] at c; exact c
    · exact absurd rfl (b x hx)
  rw [bind_some' hrb]
  dsimp only
  rw [all_eq, cond_neg (b := cond _ _ _) (by rw [or_tt]; simp), List.nil_append, G_room (by simp; omega)]
  have hu : IntKind.wrap .i64 t1 = t1 := wrap_i64 (by have := h1.1; have := h1.2; omega)
  obtain ⟨i, hi, ei⟩ := tmodN (m := (hd x).length) h1.1 (by omega)
  obtain ⟨c, hc, ec⟩ := tmodN (m := 64) h2.1 (by omega)
  have ec' : Int.tmod t2 64 = (c : Int) := ec
  rw [G_pos (by omega), hu, ei, ec', Int.toNat_natCast, G_pos (by omega)]
  have hlen2 : ((hd x).set i (c : Int)).length = (hd x).length := List.length_set
  have eget : ((hd x).set i (c : Int)).getD i 0 = (c : Int) := by
    rw [List.getD_eq_getElem?_getD, List.getElem?_set_self (by omega)]; rfl
  have eself : (hd x).getD i 0 = (c : Int) → (hd x).set i (c : Int) = hd x := by
    intro e
    rw [← e]
    apply List.ext_getElem?
    intro j
    by_cases hj : i = j
    · subst hj; rw [List.getElem?_set_self (by omega), List.getD_eq_getElem?_getD, List.getElem?_eq_getElem hi]; rfl
    · rw [List.getElem?_set_ne hj]
  rcases n_hs ((hd x).set i (c : Int)) (by omega) with ⟨d, a, b, e⟩ | ⟨e, b⟩
  · rw [bind_some' e]
    dsimp only
    have hSd : headerS d = (hd d, 0) := if_pos a
    rw [cn_neg rfl, bind_some' (n_header d), hSd, b]
    dsimp only
    rw [show (cond true ((0 : Int) == 0) false) = true from rfl, cond_true, bind_some' (same_self _ (by omega)), cond_true, G_pos (fun _ => by omega), G_pos (fun _ => by omega), eget, all_eq]
    have hwd : d.Width = x.Width := by
      have h5 := hd_len d a
      have h6 := a.1
      rw [b, hlen2] at h5
      omega
    rw [hwd]
    by_cases hdx : d = x
    · subst hdx
      have : (hd d).getD i 0 = (c : Int) := by rw [b]; exact eget
      rw [this]
      simp
    · have : ¬ (c : Int) = (hd x).getD i 0 := fun e' => hdx (hd_inj d x a hx (b.trans (eself e'.symm)))
      rw [decide_eq_false hdx, beq_eq_false_iff_ne.2 this]
      simp
  · rw [bind_some' e]
    dsimp only
    rw [cn_pos (by decide), show (cond true ((190 : Int) == 190) false) = true from rfl, G_pos (fun _ => by omega), G_pos (fun _ => by omega), eget, cond_true]
    have : ¬ (c : Int) = (hd x).getD i 0 := fun e' => b x hx (eself e'.symm).symm
    rw [bne_iff_ne.2 this]
theorem plain_NumberHeadersMatchReference {t0 : S_Raw} {t1 : S_Header} {t2 : List Int} (h0 : okS_Raw t0) (h1 : okS_Header t1) (h2 : okList (okInt .u8) t2) : f_L19_NumberHeadersMatchReference t0 t1 t2 = some true := by
  unfold f_L19_NumberHeadersMatchReference
  obtain ⟨x, ex, hx⟩ := made_ok t0 h0
  have hS : headerS x = (hd x, 0) := if_pos hx
  have hlen := hd_len x hx
  have hw := hx.1
  rw [bind_some' sanity_true, bind_some' (n_header t1), bind_some' (r_header t1), bind_some' (same_self _ (by have := headerS_len t1; omega)), cond_neg (b := cond _ _ _) (by simp), bind_some' ex, bind_some' (r_header x), hS]
  dsimp only
  have inner : ∀ (a b : List Int), a.length < 1000 → b.length < 1000 → ∀ (k i : Nat), 3 < k + i → i ≤ 3 → iter (fun loop (s : Int) => f_L19_NumberHeadersMatchReference_b1 true a b loop s) k (i : Int) = some true := by
    intro a b ha hb k
    induction k with
    | zero => intro i h1 h2; omega
    | succ k ih =>
      intro i h1 h2
      rw [iter_succ, f_L19_NumberHeadersMatchReference_b1]
      by_cases hi : i < 3
      · rw [cd_pos (by omega), G_pos (by simp; omega), Int.toNat_natCast]
        have hl : ([a, b, ([] : List Int) ++ a ++ [0]].getD i []).length < 900000 := by
          match i, hi with
          | 0, _ => simp; omega
          | 1, _ => simp; omega
          | 2, _ => simp; omega
        obtain ⟨y, e1, e2⟩ := hs_eq _ hl
        rw [bind_some' e1, bind_some' e2, all_eq, cond_neg (b := cond _ _ _) (by rw [or_tt]; simp), G_inR (by omega)]
        exact ih (i + 1) (by omega) (by omega)
      · rw [cd_neg (by omega)]
  have outer : ∀ (k i : Nat) (v : List Int), 3 < k + i → i ≤ 3 → v.length = (hd x).length → iter (fun loop (s : (List Int) × Int) => f_L19_NumberHeadersMatchReference_b2 t2 true loop s.1 s.2) k (v, (i : Int)) = some true := by
    intro k
    induction k with
    | zero => intro i v h1 h2; omega
    | succ k ih =>
      intro i v h1' h2' hv
      rw [iter_succ, f_L19_NumberHeadersMatchReference_b2]
      dsimp only
      by_cases hi : i < t2.length ∧ i < 3
      · have hm := h2.1 _ (getD_mem t2 i hi.1)
        have hu : IntKind.wrap .i64 (t2.getD i 0) = t2.getD i 0 := wrap_i64 (by have := hm.1; have := hm.2; omega)
        obtain ⟨j, hj, ej⟩ := tmodN (m := v.length) hm.1 (by omega)
        rw [cond_pos (b := cond _ _ _) (by rw [and_tt]; simp; omega), G_pos (by omega), G_pos (by omega), Int.toNat_natCast, hu, ej, G_pos (by omega), G_inR (by omega)]
        exact ih (i + 1) _ (by omega) (by omega) (by rw [List.length_set]; exact hv)
      · rw [cond_neg (b := cond _ _ _) (by rw [and_tt]; simp; omega), G_room (by simp; omega), G_room (by simp; omega)]
        have hc := f_cells t2 64 (by omega)
        rw [bind_some' (by exact hc)]
        exact inner v _ (by omega) (by simp; omega) 1000000 0 (by omega) (by omega)
  exact outer 1000000 0 _ (by omega) (by omega) rfl
end Go.Proofs.YtlcoabpgknpaoaaDoor
