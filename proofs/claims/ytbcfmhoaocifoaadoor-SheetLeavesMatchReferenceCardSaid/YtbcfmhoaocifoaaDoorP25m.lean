/- Own work. -/
import Derived.Test.YtbcfmhoaocifoaaDoorP25l
set_option linter.unusedSimpArgs false
set_option linter.unusedVariables false
set_option maxRecDepth 10000
namespace Go.Proofs.YtbcfmhoaocifoaaDoor
open Go.Abs
theorem letters_tab : Y7.all (fun c => decide (0 ≤ c ∧ c < 64)) = true := by kernel_rfl
theorem mk_range (k : Nat) (c : Int) (hc : c ∈ mk k) : 0 ≤ c ∧ c < 64 := by
 unfold mk at hc
 split at hc
 ·simp at hc
 ·simp only [X0n, List.not_mem_nil, or_false] at hc
  rcases hc with rfl | rfl
  ·omega
  ·by_cases h : k - 1 < Y7.length
   ·exact of_decide_eq_true (X7.1 letters_tab _ (getD_in _ _ 0 h))
   ·rw [getD_nil _ _ 0 (by omega)]
    omega
theorem hd_range (h : Y3) (c : Int) (hc : c ∈ hd h) : 0 ≤ c ∧ c < 64 := by
 unfold hd hl pgh pg ik at hc
 simp only [X0p, List.mem_replicate] at hc
 rcases hc with hc | hc | hc | hc
 ·split at hc
  ·simp at hc
  ·rcases X0p.1 hc with hc | hc
   ·exact mk_range _ _ hc
   ·exact (wr_cells _ _ hc).2.2
 ·omega
 ·exact (wr_cells _ _ hc).2.2
 ·exact mk_range _ _ hc
theorem pgh_pos (h : Y3) : 0 < (pgh h).length := by
 unfold pgh pg
 have := wr_len (if h.Back then 2 * h.Label.N.toNat else 2 * h.Label.N.toNat - 1)
 rw [Xu]
 omega
theorem hd_line (h : Y3) (k : okH h) (w : Int) (hw : h.Width = w) : lineOk (hd h) w := by
 have hl := hd_len h k
 have hw' := k.1
 refine ⟨by omega, fun hp => ?_, fun i hi => (hd_range h _ (getD_in _ i 0 hi)).2⟩
 have e : (hd h).getD ((hd h).length - 1) 0 ∈ pgh h := by
  obtain ⟨m, e1, _⟩ := hd_gap h k
  have e2 : hd h = (Go.Proofs.YtbcfmhoaocifoaaDoor.hl h.Ink h.Part ++ (0 :: List.replicate m 0)) ++ pgh h := by
   rw [e1]
   simp
  have hp := pgh_pos h
  generalize (Go.Proofs.YtbcfmhoaocifoaaDoor.hl h.Ink h.Part ++ (0 :: List.replicate m 0)) = a at e2
  rw [e2, Xc, Xu, X09 (by omega), X4 (by omega)]
  exact List.getElem_mem _
 have := pgh_nz h k _ e
 exact Bool.eq_false_iff.2 fun a => this ((z0_iff _).1 a)
theorem head_fits (h : Y3) (k : okH h) (l : List (List Int)) (w m : Nat) (hw : h.Width = (w : Int)) (hm : 1 ≤ m) (f : fitsP l (w : Int) ((m - 1 : Nat) : Int)) : fitsP (hd h :: l) (w : Int) (m : Int) := by
 have hl := hd_line h k w hw
 have hlen := hd_len h k
 have hw' := k.1
 refine ⟨by have := f.1; rw [Xw]; omega, fun i hi => ?_, fun hp => ?_⟩
 ·cases i with
  | zero => exact hl
  | succ i => exact f.2.1 i (by rw [Xw] at hi; omega)
 ·rw [Xw, Nat.add_sub_cancel]
  cases hll : l.length with
  | zero =>
   refine Bool.eq_false_iff.2 fun a => ?_
   have : hd h = [] := (zE_iff _).1 a
   rw [this] at hlen
   simp at hlen
   omega
  | succ n =>
   have := f.2.2 (by omega)
   rw [hll, Nat.add_sub_cancel] at this
   exact this
theorem head_pos (h : Y3) (l : List (List Int)) (p : posP l) : posP (hd h :: l) := by
 intro r c
 cases r with
 | zero =>
  show 0 ≤ (hd h).getD c 0
  by_cases hc : c < (hd h).length
  ·exact (hd_range h _ (getD_in _ c 0 hc)).1
  ·rw [getD_nil _ c 0 (by omega)]
   exact Int.le_refl _
 | succ r => exact p r c
theorem nil_fits (w h : Int) (hh : 0 ≤ h) : fitsP [] w h := ⟨by simpa using hh, fun i hi => absurd hi (by simp), can_nil _ _⟩
theorem nil_pos : posP [] := fun r c => by
 rw [cell_far1 _ _ _ (by simp)]
 exact Int.le_refl _
structure MadeL (x : S_Raw) (l : Yr) : Prop where
 ff : fitsP l.Front (fW x : Int) (fH x : Int)
 fb : fitsP l.Back (fW x : Int) (fH x : Int)
 pf : posP l.Front
 pb : posP l.Back
 le : leafP l.Front l.Back (fW x : Int) = (l, 0)
theorem headP_hd (h : Y3) (k : okH h) (l : List (List Int)) (w : Int) (hw : h.Width = w) : headP (hd h :: l) w = (h, true) := by
 unfold headP
 rw [if_neg (by simp), show (hd h :: l).getD 0 [] = hd h from rfl, rh_hd h k, hw]
 simp
theorem r_made {t0 : S_Raw} (k : okS_Raw t0) : ∃ l, f_R25_Made t0 = some l ∧ MadeL t0 l := by
 have hw := fW_in t0
 have hh := fH_in t0
 obtain ⟨x2, e2, k2⟩ := made_ok t0.Head k.2.2.2.2
 have kF : okH ⟨(fW t0 : Int), x2.Label, false, x2.Ink, x2.Part⟩ := ⟨by dsimp only; omega, k2.2.1, k2.2.2⟩
 have kB : okH ⟨(fW t0 : Int), x2.Label, true, x2.Ink, x2.Part⟩ := ⟨by dsimp only; omega, k2.2.1, k2.2.2⟩
 have f1 := linesP_fits t0.Front (fW t0) (fH t0 - 1)
 have f2 := linesP_fits t0.Back (fW t0) (fH t0 - 1)
 have n1 := linesP_len t0.Front (fW t0) (fH t0 - 1)
 have n2 := linesP_len t0.Back (fW t0) (fH t0 - 1)
 have p1 := linesP_pos k.2.2.1 (fW t0) (fH t0 - 1)
 have p2 := linesP_pos k.2.2.2.1 (fW t0) (fH t0 - 1)
 unfold f_R25_Made f_R25_Made_k1
 rw [r_format k, X8, e2, X8]
 dsimp only
 rw [r_header, X8, r_header, X8, show headerS ⟨(fW t0 : Int), x2.Label, false, x2.Ink, x2.Part⟩ = (hd ⟨(fW t0 : Int), x2.Label, false, x2.Ink, x2.Part⟩, 0) from if_pos kF, show headerS ⟨(fW t0 : Int), x2.Label, true, x2.Ink, x2.Part⟩ = (hd ⟨(fW t0 : Int), x2.Label, true, x2.Ink, x2.Part⟩, 0) from if_pos kB, Yx (by omega), show (fH t0 : Int) - 1 = ((fH t0 - 1 : Nat) : Int) by omega, r_lines _ _ _ (by omega) (by omega), X8, Y4s (by simp only [Xw, X1j]; omega)]
 have hF := headP_hd _ kF (linesP t0.Front (fW t0) (fH t0 - 1)) (fW t0) rfl
 by_cases e : 0 < t0.Back.length
 ·rw [Y09 (by omega), r_lines _ _ _ (by omega) (by omega), X8, Y4s (by simp only [Xw, X1j]; omega)]
  dsimp only
  rw [List.singleton_append, List.singleton_append]
  refine ⟨_, rfl, head_fits _ kF _ _ _ rfl (by omega) f1, head_fits _ kB _ _ _ rfl (by omega) f2, head_pos _ _ p1, head_pos _ _ p2, ?_⟩
  have hB := headP_hd _ kB (linesP t0.Back (fW t0) (fH t0 - 1)) (fW t0) rfl
  show leafP (hd _ :: _) (hd _ :: _) _ = _
  unfold leafP badL
  rw [hF, hB, sameL_iff]
  simp
 ·rw [Y0b (by omega)]
  dsimp only
  rw [List.singleton_append]
  refine ⟨_, rfl, head_fits _ kF _ _ _ rfl (by omega) f1, nil_fits _ _ (by omega), head_pos _ _ p1, nil_pos, ?_⟩
  show leafP (hd _ :: _) [] _ = _
  unfold leafP badL
  rw [hF]
  simp
theorem turned_twice (W H : Nat) (u v : Nat → Nat → Bool) (hw : W < 900000) (hh : H < 900000) : (Y20 (PL W H u v)).bind Y20 = some (PL W H u v) := by
 rw [r_turned W H u v hw hh, X8, r_turned W H _ _ hw hh]
 refine congrArg some (PL_congr (fun y x _ hx => ?_) (fun y x _ hx => ?_))
 ·show u y (W - 1 - (W - 1 - x)) = _
  rw [show W - 1 - (W - 1 - x) = x by omega]
 ·show v y (W - 1 - (W - 1 - x)) = _
  rw [show W - 1 - (W - 1 - x) = x by omega]
theorem mat_setR (h w : Nat) (f : Nat → Nat → Bool) (y x : Nat) (v : Bool) (hy : y < h) : (mat h w f).set y ((row w (f y)).set x v) = mat h w (fun y' x' => if y' = y ∧ x' = x then v else f y' x') := by
 rw [← mat_set h w f y x v hy, Y1r h w f y hy]
end Go.Proofs.YtbcfmhoaocifoaaDoor
