/-
 Own work. Chapter 25, plain part: leaves with headers; the law SheetLeaves.
-/
import Derived.Test.YtbcfmhoaocifoaaDoorP25l
set_option linter.unusedSimpArgs false
set_option linter.unusedVariables false
set_option maxRecDepth 10000
set_option linter.unusedSimpArgs false
set_option linter.unusedVariables false
namespace Go.Proofs.YtbcfmhoaocifoaaDoor
open Go.Abs
theorem letters_tab : tab_number_letters.all (fun c => decide (0 ≤ c ∧ c < 64)) = true := by kernel_rfl
theorem mk_range (k : Nat) (c : Int) (hc : c ∈ mk k) : 0 ≤ c ∧ c < 64 := by
 unfold mk at hc
 split at hc
 ·simp at hc
 ·simp only [List.mem_cons, List.not_mem_nil, or_false] at hc
  rcases hc with rfl | rfl
  ·omega
  ·by_cases h : k - 1 < tab_number_letters.length
   ·exact of_decide_eq_true (List.all_eq_true.1 letters_tab _ (getD_in _ _ 0 h))
   ·rw [getD_nil _ _ 0 (by omega)]
    omega
theorem hd_range (h : S_Header) (c : Int) (hc : c ∈ hd h) : 0 ≤ c ∧ c < 64 := by
 unfold hd hl pgh pg ik at hc
 simp only [List.mem_append, List.mem_replicate] at hc
 rcases hc with hc | hc | hc | hc
 ·split at hc
  ·simp at hc
  ·rcases List.mem_append.1 hc with hc | hc
   ·exact mk_range _ _ hc
   ·exact (wr_cells _ _ hc).2.2
 ·omega
 ·exact (wr_cells _ _ hc).2.2
 ·exact mk_range _ _ hc
theorem pgh_pos (h : S_Header) : 0 < (pgh h).length := by
 unfold pgh pg
 have := wr_len (if h.Back then 2 * h.Label.N.toNat else 2 * h.Label.N.toNat - 1)
 rw [List.length_append]
 omega
theorem hd_line (h : S_Header) (k : okH h) (w : Int) (hw : h.Width = w) : lineOk (hd h) w := by
 have hl := hd_len h k
 have hw' := k.1
 refine ⟨by omega, fun hp => ?_, fun i hi => (hd_range h _ (getD_in _ i 0 hi)).2⟩
 have e : (hd h).getD ((hd h).length - 1) 0 ∈ pgh h := by
  obtain ⟨m, e1, _⟩ := hd_gap h k
  have e2 : hd h = (Go.Proofs.YtbcfmhoaocifoaaDoor.hl h.Ink h.Part ++ (0 :: List.replicate m 0)) ++ pgh h := by
   rw [e1]
   simp
  have hp := pgh_pos h
  generalize (Go.Proofs.YtbcfmhoaocifoaaDoor.hl h.Ink h.Part ++ (0 :: List.replicate m 0)) = a at e2
  rw [e2, List.getD_eq_getElem?_getD, List.length_append, List.getElem?_append_right (by omega), List.getElem?_eq_getElem (by omega)]
  exact List.getElem_mem _
 have := pgh_nz h k _ e
 exact Bool.eq_false_iff.2 fun a => this ((z0_iff _).1 a)
theorem head_fits (h : S_Header) (k : okH h) (l : List (List Int)) (w m : Nat) (hw : h.Width = (w : Int)) (hm : 1 ≤ m) (f : fitsP l (w : Int) ((m - 1 : Nat) : Int)) : fitsP (hd h :: l) (w : Int) (m : Int) := by
 have hl := hd_line h k w hw
 have hlen := hd_len h k
 have hw' := k.1
 refine ⟨by have := f.1; rw [List.length_cons]; omega, fun i hi => ?_, fun hp => ?_⟩
 ·cases i with
  | zero => exact hl
  | succ i => exact f.2.1 i (by rw [List.length_cons] at hi; omega)
 ·rw [List.length_cons, Nat.add_sub_cancel]
  cases hll : l.length with
  | zero =>
   refine Bool.eq_false_iff.2 fun a => ?_
   have : hd h = [] := (zE_iff _).1 a
   rw [this] at hlen
   simp at hlen
   omega
  | succ n =>
   have := f.2.2 (by omega)
   rw [hll, Nat.add_sub_cancel] at this
   exact this
theorem head_pos (h : S_Header) (l : List (List Int)) (p : posP l) : posP (hd h :: l) := by
 intro r c
 cases r with
 | zero =>
  show 0 ≤ (hd h).getD c 0
  by_cases hc : c < (hd h).length
  ·exact (hd_range h _ (getD_in _ c 0 hc)).1
  ·rw [getD_nil _ c 0 (by omega)]
   exact Int.le_refl _
 | succ r => exact p r c
theorem nil_fits (w h : Int) (hh : 0 ≤ h) : fitsP [] w h := ⟨by simpa using hh, fun i hi => absurd hi (by simp), can_nil _ _⟩
theorem nil_pos : posP [] := fun r c => by
 rw [cell_far1 _ _ _ (by simp)]
 exact Int.le_refl _
structure MadeL (x : S_Raw) (l : S_Leaf) : Prop where
 ff : fitsP l.Front (fW x : Int) (fH x : Int)
 fb : fitsP l.Back (fW x : Int) (fH x : Int)
 pf : posP l.Front
 pb : posP l.Back
 le : leafP l.Front l.Back (fW x : Int) = (l, 0)
theorem headP_hd (h : S_Header) (k : okH h) (l : List (List Int)) (w : Int) (hw : h.Width = w) : headP (hd h :: l) w = (h, true) := by
 unfold headP
 rw [if_neg (by simp), show (hd h :: l).getD 0 [] = hd h from rfl, rh_hd h k, hw]
 simp
theorem r_made {t0 : S_Raw} (k : okS_Raw t0) : ∃ l, f_R25_Made t0 = some l ∧ MadeL t0 l := by
 have hw := fW_in t0
 have hh := fH_in t0
 obtain ⟨x2, e2, k2⟩ := made_ok t0.Head k.2.2.2.2
 have kF : okH ⟨(fW t0 : Int), x2.Label, false, x2.Ink, x2.Part⟩ := ⟨by dsimp only; omega, k2.2.1, k2.2.2⟩
 have kB : okH ⟨(fW t0 : Int), x2.Label, true, x2.Ink, x2.Part⟩ := ⟨by dsimp only; omega, k2.2.1, k2.2.2⟩
 have f1 := linesP_fits t0.Front (fW t0) (fH t0 - 1)
 have f2 := linesP_fits t0.Back (fW t0) (fH t0 - 1)
 have n1 := linesP_len t0.Front (fW t0) (fH t0 - 1)
 have n2 := linesP_len t0.Back (fW t0) (fH t0 - 1)
 have p1 := linesP_pos k.2.2.1 (fW t0) (fH t0 - 1)
 have p2 := linesP_pos k.2.2.2.1 (fW t0) (fH t0 - 1)
 unfold f_R25_Made f_R25_Made_k1
 rw [r_format k, Option.bind_some, e2, Option.bind_some]
 dsimp only
 rw [r_header, Option.bind_some, r_header, Option.bind_some, show headerS ⟨(fW t0 : Int), x2.Label, false, x2.Ink, x2.Part⟩ = (hd ⟨(fW t0 : Int), x2.Label, false, x2.Ink, x2.Part⟩, 0) from if_pos kF, show headerS ⟨(fW t0 : Int), x2.Label, true, x2.Ink, x2.Part⟩ = (hd ⟨(fW t0 : Int), x2.Label, true, x2.Ink, x2.Part⟩, 0) from if_pos kB, G_inR (by omega), show (fH t0 : Int) - 1 = ((fH t0 - 1 : Nat) : Int) by omega, r_lines _ _ _ (by omega) (by omega), Option.bind_some, G_room (by simp only [List.length_cons, List.length_nil]; omega)]
 have hF := headP_hd _ kF (linesP t0.Front (fW t0) (fH t0 - 1)) (fW t0) rfl
 by_cases e : 0 < t0.Back.length
 ·rw [cd_pos (by omega), r_lines _ _ _ (by omega) (by omega), Option.bind_some, G_room (by simp only [List.length_cons, List.length_nil]; omega)]
  dsimp only
  rw [List.singleton_append, List.singleton_append]
  refine ⟨_, rfl, head_fits _ kF _ _ _ rfl (by omega) f1, head_fits _ kB _ _ _ rfl (by omega) f2, head_pos _ _ p1, head_pos _ _ p2, ?_⟩
  have hB := headP_hd _ kB (linesP t0.Back (fW t0) (fH t0 - 1)) (fW t0) rfl
  show leafP (hd _ :: _) (hd _ :: _) _ = _
  unfold leafP badL
  rw [hF, hB, sameL_iff]
  simp
 ·rw [cd_neg (by omega)]
  dsimp only
  rw [List.singleton_append]
  refine ⟨_, rfl, head_fits _ kF _ _ _ rfl (by omega) f1, nil_fits _ _ (by omega), head_pos _ _ p1, nil_pos, ?_⟩
  show leafP (hd _ :: _) [] _ = _
  unfold leafP badL
  rw [hF]
  simp
theorem leaf_PL (w h : Nat) (u v : Nat → Nat → Bool) (hw : 24 ≤ w ∧ w ≤ 60) (hh : 4 ≤ h ∧ h ≤ 40) : f_sheet_Leaf (PL (2 * w) (3 * h) u v) = some (leafP (pageOf u w h) (pageOf (rev (2 * w) v) w h) (w : Int)) := by
 rw [s_leaf _ _ _ _ (okWH_of w h hw hh), show 2 * w / 2 = w by omega, show 3 * h / 3 = h by omega]
theorem pages_plateOf (l : S_Leaf) (w h : Nat) (f1 : fitsP l.Front w h) (p1 : posP l.Front) (f2 : fitsP l.Back w h) (p2 : posP l.Back) :
  pageOf (dot l.Front) w h = l.Front ∧ pageOf (rev (2 * w) fun y x => dot l.Back y (2 * w - 1 - x)) w h = l.Back := by
 refine ⟨pageOf_dot f1 p1, Eq.trans (pageOf_congr (v := dot l.Back) fun y x _ hx => ?_) (pageOf_dot f2 p2)⟩
 show dot l.Back y (2 * w - 1 - (2 * w - 1 - x)) = _
 rw [show 2 * w - 1 - (2 * w - 1 - x) = x by omega]
theorem turned_twice (W H : Nat) (u v : Nat → Nat → Bool) (hw : W < 900000) (hh : H < 900000) : (f_R25_Turned (PL W H u v)).bind f_R25_Turned = some (PL W H u v) := by
 rw [r_turned W H u v hw hh, Option.bind_some, r_turned W H _ _ hw hh]
 refine congrArg some (PL_congr (fun y x _ hx => ?_) (fun y x _ hx => ?_))
 ·show u y (W - 1 - (W - 1 - x)) = _
  rw [show W - 1 - (W - 1 - x) = x by omega]
 ·show v y (W - 1 - (W - 1 - x)) = _
  rw [show W - 1 - (W - 1 - x) = x by omega]
theorem leafP_bad {f b : List (List Int)} {w : Int} (h : (leafP f b w).2 ≠ 0) : leafP f b w = (zLeaf, 250) := by
 unfold leafP at *
 split
 ·rfl
 ·rename_i e
  rw [if_neg e] at h
  exact absurd rfl h
theorem leafP_good {f b : List (List Int)} {w : Int} (h : (leafP f b w).2 = 0) : (leafP f b w).1.Front = f ∧ (leafP f b w).1.Back = b := by
 unfold leafP at *
 split
 ·rename_i e
  rw [if_pos e] at h
  cases h
 ·exact ⟨rfl, rfl⟩
theorem other_leaf (x : S_Raw) (l : S_Leaf) (m : MadeL x l) (u' v' : Nat → Nat → Bool) (y c : Nat) (hy : y < 3 * fH x) (hc : c < 2 * fW x)
  (hne : u' y c ≠ dot l.Front y c ∨ v' y c ≠ dot l.Back y (2 * fW x - 1 - c)) : f_L25_SheetLeaves_k1 true l (PL (2 * fW x) (3 * fH x) u' v') = some true := by
 have hw := fW_in x
 have hh := fH_in x
 unfold f_L25_SheetLeaves_k1
 rw [leaf_PL _ _ _ _ (by omega) (by omega), Option.bind_some]
 have hs : shortLeaf (leafP (pageOf u' (fW x) (fH x)) (pageOf (rev (2 * fW x) v') (fW x) (fH x)) (fW x : Int)).1 := leafP_short _ _ _ (pageOf_short _ _ _ (by omega) (by omega)) (pageOf_short _ _ _ (by omega) (by omega))
 by_cases e : (leafP (pageOf u' (fW x) (fH x)) (pageOf (rev (2 * fW x) v') (fW x) (fH x)) (fW x : Int)).2 = 0
 ·have g := leafP_good e
  rw [cn_neg e, cond_true, r_sameLeaf _ _ hs, Option.bind_some, decide_eq_false, Bool.not_false, cond_true]
  intro a
  rw [a] at g
  have q := pages_plateOf l (fW x) (fH x) m.ff m.pf m.fb m.pb
  rcases hne with hne | hne
  ·exact hne (pageOf_inj (g.1.symm.trans q.1.symm) y c hy hc)
  ·have := pageOf_inj (g.2.symm.trans q.2.symm) y (2 * fW x - 1 - c) hy (by omega)
   unfold rev at this
   rw [show 2 * fW x - 1 - (2 * fW x - 1 - c) = c by omega] at this
   exact hne this
 ·rw [leafP_bad e]
  rfl
theorem mat_setR (h w : Nat) (f : Nat → Nat → Bool) (y x : Nat) (v : Bool) (hy : y < h) : (mat h w f).set y ((row w (f y)).set x v) = mat h w (fun y' x' => if y' = y ∧ x' = x then v else f y' x') := by
 rw [← mat_set h w f y x v hy, mat_row h w f y hy]
theorem ne_not (b : Bool) : (!b) ≠ b := by cases b <;> decide
theorem plain_SheetLeaves {t0 : S_Raw} {t1 : List Int} (k : okS_Raw t0) (k1 : okArr 3 (okInt .u8) t1) : f_L25_SheetLeaves t0 t1 = some true := by
 have hw := fW_in t0
 have hh := fH_in t0
 obtain ⟨l, el, m⟩ := r_made k
 have sl : shortLeaf l := ⟨fits_short m.ff (by omega) (by omega), fits_short m.fb (by omega) (by omega)⟩
 have o := okWH_of (fW t0) (fH t0) (by omega) (by omega)
 have hpr := s_press l ⟨(fW t0 : Int), (fH t0 : Int), 1⟩ sl.1 sl.2
 rw [pressP_ok l _ _ _ (by omega) (by omega) m.ff m.fb] at hpr
 have hv : f_R25_Valid (plateOf l (fW t0) (fH t0)) = some true := r_validPL _ _ _ _ o
 have hlf : f_sheet_Leaf (plateOf l (fW t0) (fH t0)) = some (l, 0) := by
  have q := pages_plateOf l (fW t0) (fH t0) m.ff m.pf m.fb m.pb
  unfold plateOf
  rw [leaf_PL _ _ _ _ (by omega) (by omega), q.1, q.2, m.le]
 have hsm : f_R25_Same l l = some true := by rw [r_sameLeaf _ _ sl, decide_eq_true rfl]
 unfold f_L25_SheetLeaves
 rw [sanity_true, Option.bind_some, el, Option.bind_some, r_format k, Option.bind_some, hpr, Option.bind_some]
 dsimp only
 rw [bne_self_eq_false, Bool.not_false, cond_true, hv, Option.bind_some, Bool.not_true, cond_false, cond_false, hlf, Option.bind_some]
 dsimp only
 rw [bne_self_eq_false, Bool.not_false, cond_true, hsm, Option.bind_some, Bool.not_true, cond_false, cond_false]
 have ht := turned_twice (2 * fW t0) (3 * fH t0) (dot l.Front) (fun y x => dot l.Back y (2 * fW t0 - 1 - x)) (by omega) (by omega)
 rw [r_turned _ _ _ _ (by omega) (by omega), Option.bind_some] at ht
 unfold plateOf
 rw [r_turned _ _ _ _ (by omega) (by omega), Option.bind_some, ht, Option.bind_some]
 have o0 : 0 ≤ t1.getD 0 0 ∧ t1.getD 0 0 ≤ 255 := k1.1 _ (getD_in t1 0 0 (by rw [k1.2]; omega))
 have o1 : 0 ≤ t1.getD 1 0 ∧ t1.getD 1 0 ≤ 255 := k1.1 _ (getD_in t1 1 0 (by rw [k1.2]; omega))
 obtain ⟨y, hy, hy'⟩ := tmodN (t1.getD 1 0) (3 * fH t0) (by omega) (by omega)
 obtain ⟨x, hx, hx'⟩ := tmodN (t1.getD 0 0) (2 * fW t0) (by omega) (by omega)
 have other := other_leaf t0 l m
 rw [wrap_i64 (n := t1.getD 1 0) (by omega), wrap_i64 (n := t1.getD 0 0) (by omega)]
 generalize hW : 2 * fW t0 = W at *
 generalize hH : 3 * fH t0 = H at *
 dsimp only [PL]
 rw [hy, hx, Int.toNat_natCast, Int.toNat_natCast, mat_len, mat_len, mat_row _ _ _ _ hy', mat_row _ _ _ _ hy', row_len, row_len, G_pos (show ((H : Nat) : Int) ≠ 0 by omega), G_pos (show ((W : Nat) : Int) ≠ 0 by omega), G_pos (by omega), G_pos (by omega), G_pos (by omega), G_pos (by omega), row_get _ _ _ _ hx', row_get _ _ _ _ hx', mat_setR _ _ _ _ _ _ hy', mat_setR _ _ _ _ _ _ hy']
 cases Int.tmod (t1.getD 2 0) 2 == 0 with
 | true =>
  rw [cond_true]
  refine other _ _ y x hy' hx' (.inl ?_)
  rw [if_pos ⟨rfl, rfl⟩]
  exact ne_not _
 | false =>
  rw [cond_false]
  refine other _ _ y x hy' hx' (.inr ?_)
  rw [if_pos ⟨rfl, rfl⟩]
  exact ne_not _
end Go.Proofs.YtbcfmhoaocifoaaDoor
