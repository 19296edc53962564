/- Own work. -/
import Derived.Test.YtbcfmhoaocifoaaDoorP25m
set_option linter.unusedSimpArgs false
set_option linter.unusedVariables false
set_option maxRecDepth 10000
namespace Go.Proofs.YtbcfmhoaocifoaaDoor
open Go.Abs
def smallP (p : Y4) : Prop := small p.W ∧ small p.H ∧ p.Up.length < 900000 ∧ p.Down.length < 900000
theorem vpl_form (p : Y4) (h : vpl p = true) : ∃ (W H : Nat) (u v : Nat → Nat → Bool), p = PL W H u v ∧ okWH W H := by
 unfold vpl vsz at h
 simp only [X3, Xy, Bool.or_eq_false_iff, decide_eq_false_iff_not, decide_eq_true_eq, bne_eq_false_iff_eq] at h
 obtain ⟨⟨⟨⟨a1, a2⟩, a3⟩, ⟨b1, b2⟩, b3⟩, hu, hv⟩ := h
 have hW0 : 0 ≤ p.W := by
  by_cases e : 0 ≤ p.W
  ·exact e
  ·have : Int.tdiv p.W 2 ≤ 0 := by
    rw [show p.W = -(-p.W) by omega, Int.neg_tdiv, Xp (by omega)]
    omega
   omega
 obtain ⟨W, hW⟩ := nat_of hW0
 have hH0 : 0 ≤ p.H := by have := hu.1; omega
 obtain ⟨H, hH⟩ := nat_of hH0
 rw [hW] at a1 a2 a3 hu hv
 rw [hH] at b1 b2 b3 hu hv
 rw [Xp (by omega)] at a2 a3 b2 b3
 rw [Xr (by omega)] at a1 b1
 refine ⟨W, H, fun y x => (p.Up.getD y []).getD x false, fun y x => (p.Down.getD y []).getD x false, ?_, by omega, by omega, by omega, by omega, by omega, by omega⟩
 rw [plate_ext]
 exact ⟨⟨hW, hH⟩, mat_of p.Up W H hu, mat_of p.Down W H hv⟩
theorem leaf_eq (p : Y4) (h : smallP p) : ∃ x, Y31 p = some x ∧ f_R25_Leaf p = some x ∧ shortLeaf x.1 ∧ Y0h p = some (vpl p) ∧ Y46 p = some (vpl p) := by
 have hs := s_valid p h.1 h.2.1 h.2.2.1 h.2.2.2
 have hr := r_valid p h.1 h.2.1 h.2.2.1 h.2.2.2
 cases hv : vpl p with
 | true =>
  obtain ⟨W, H, u, v, rfl, o⟩ := vpl_form p hv
  obtain ⟨a, b, c, d, e, f⟩ := o
  rw [hv] at hs hr
  exact ⟨_, s_leaf W H u v ⟨a, b, c, d, e, f⟩, r_leaf W H u v ⟨a, b, c, d, e, f⟩, leafP_short _ _ _ (Y5l _ _ _ (by omega) (by omega)) (Y5l _ _ _ (by omega) (by omega)), hs, hr⟩
 | false =>
  rw [hv] at hs hr
  have z : shortP [] := ⟨by simp, fun i => by simp⟩
  refine ⟨(zLeaf, 250), ?_, ?_, ⟨z, z⟩, hs, hr⟩
  ·unfold Y31
   rw [hs, X8]
   rfl
  ·unfold f_R25_Leaf
   rw [hr, X8]
   rfl
theorem small_PL (W H : Nat) (u v : Nat → Nat → Bool) (hw : W < 900000) (hh : H < 900000) : smallP (PL W H u v) := by
 refine ⟨?_, ?_, ?_, ?_⟩
 ·unfold small
  simp only [PL]
  omega
 ·unfold small
  simp only [PL]
  omega
 ·simp only [PL, Y12]
  exact hh
 ·simp only [PL, Y12]
  exact hh
theorem lm_inner (x1 : Bool) (v8 : List Int) (v9 v10 v11 odd : Y4) (h9 : smallP v9) (h10 : smallP v10) (h11 : smallP v11) (ho : smallP odd)
  (eo : odd = (⟨v9.W + (IntKind.wrap .i64 (v8.getD 0 (0 : Int))), v9.H + (IntKind.wrap .i64 (v8.getD 1 (0 : Int))), v9.Up, v9.Down.take (((v9.Down.length : Int) - (IntKind.wrap .i64 (Int.tmod (IntKind.wrap .u8 (v8.getD 0 (0 : Int))) (2 : Int)))).toNat)⟩ : Y4)) :
  iter (fun loop (s : Int) => Yz x1 v8 v9 v10 v11 loop s) 1000000 (0 : Int) = some x1 := by
 have hall : ∀ i, i < 4 → smallP ([v9, v10, v11, odd].getD i Y33) := by
  intro i hi
  match i, hi with
  | 0, _ => exact h9
  | 1, _ => exact h10
  | 2, _ => exact h11
  | 3, _ => exact ho
 refine Y36 (fun k => (k : Int)) 4 _ (by omega) ?_ ?_
 ·intro loop k hk
  unfold Yz
  rw [← eo, X5, Y09 (by omega), Yw (show 0 ≤ (k : Int) ∧ (k : Int) < (([v9, v10, v11, odd].length : Nat) : Int) by simp only [Xw, X1j]; omega)]
  obtain ⟨x, e1, e2, sx, e3, e4⟩ := leaf_eq _ (hall k hk)
  rw [e1, X8, e2, X8, r_sameLeaf _ _ sx, X8, decide_eq_true rfl, bne_self_eq_false, Bool.not_true, cond_false, Bool.not_false, cond_true, cond_true, e3, X8, e4, X8, bne_self_eq_false, cond_false, cond_false, Yx (by omega), Y11]
 ·intro loop
  unfold Yz
  rw [Y0b (by omega)]
theorem i8_u8 (n : Int) (h : -128 ≤ n ∧ n ≤ 127) : ∃ m : Nat, Int.tmod (IntKind.wrap .u8 n) 2 = (m : Int) ∧ m ≤ 1 := by
 obtain ⟨k, e, _⟩ := wrap_u8_nat n
 rw [e, Xr (by omega)]
 exact ⟨k % 2, rfl, by omega⟩
theorem plain_SheetLeavesMatchReference {t0 : S_Raw} {t1 : List (List Int)} {t2 : List Int} (k : okS_Raw t0) (k1 : okList (okArr 3 (okInt .u8)) t1) (k2 : okArr 2 (okInt .i8) t2) : Y0i t0 t1 t2 = some true := by
 have hw := fW_in t0
 have hh := fH_in t0
 obtain ⟨l, el, m⟩ := r_made k
 have sl : shortLeaf l := ⟨fits_short m.ff (by omega) (by omega), fits_short m.fb (by omega) (by omega)⟩
 have hpr := r_press l ⟨(fW t0 : Int), (fH t0 : Int), 1⟩ sl.1 sl.2
 rw [pressP_ok l _ _ _ (by omega) (by omega) m.ff m.fb] at hpr
 obtain ⟨u2, v2, hq⟩ := r_plate k t1 k1
 have o0 : -128 ≤ t2.getD 0 0 ∧ t2.getD 0 0 ≤ 127 := k2.1 _ (getD_in t2 0 0 (by rw [k2.2]; omega))
 have o1 : -128 ≤ t2.getD 1 0 ∧ t2.getD 1 0 ≤ 127 := k2.1 _ (getD_in t2 1 0 (by rw [k2.2]; omega))
 have ht := turned_twice (2 * fW t0) (3 * fH t0) (dot l.Front) (fun y x => dot l.Back y (2 * fW t0 - 1 - x)) (by omega) (by omega)
 rw [r_turned _ _ _ _ (by omega) (by omega), X8] at ht
 unfold Y0i
 rw [sanity_true, X8, el, X8, r_format k, X8, hpr, X8, hq, X8]
 unfold plateOf
 dsimp only
 rw [r_turned _ _ _ _ (by omega) (by omega), X8, ht, X8]
 have hW1 : 0 < 2 * fW t0 := by omega
 have hW2 : 2 * fW t0 ≤ 60 := by omega
 have hH1 : 0 < 3 * fH t0 := by omega
 have hH2 : 3 * fH t0 ≤ 24 := by omega
 generalize (dot l.Front) = u at *
 generalize (fun y x => dot l.Back y (2 * fW t0 - 1 - x)) = v at *
 generalize 2 * fW t0 = W at *
 generalize 3 * fH t0 = H at *
 refine iter_ind (b := fun loop (s : List Int × Y4 × Y4 × Y4 × Int) => Y01 t1 true loop s.1 s.2.1 s.2.2.1 s.2.2.2.1 s.2.2.2.2) (fun s => s.1 = [t2.getD 0 0, t2.getD 1 0] ∧ s.2.1 = PL W H u v ∧ s.2.2.1 = PL W H u2 v2 ∧ (∃ u3 v3, s.2.2.2.1 = PL W H u3 v3) ∧ ∃ i : Nat, s.2.2.2.2 = (i : Int) ∧ i ≤ 3) (fun s => 3 - s.2.2.2.2.toNat) (fun _ => some true) ?_ 1000000 _ ⟨rfl, rfl, rfl, ⟨u, v, rfl⟩, 0, rfl, by omega⟩ (by simp)
 intro loop s hs ih
 obtain ⟨v8, v9, v10, v11, v12⟩ := s
 obtain ⟨h1, h2, h3, ⟨u3, v3, h4⟩, i, h5, hi⟩ := hs
 dsimp only at h1 h2 h3 h4 h5
 subst h1 h2 h3 h4 h5
 unfold Y01
 dsimp only
 rw [and_tt]
 cases hc : (decide ((i : Int) < (t1.length : Int)) && decide ((i : Int) < 3)) with
 | true =>
  rw [X3] at hc
  have c1 := of_decide_eq_true hc.1
  have c2 := of_decide_eq_true hc.2
  have a0 := ok3 k1 i 0 (by omega) (by omega)
  have a1 := ok3 k1 i 1 (by omega) (by omega)
  rw [cond_true, Yw (by omega), Yw (show ((H : Nat) : Int) ≠ 0 by omega), Yw (show ((W : Nat) : Int) ≠ 0 by omega), X5]
  generalize (t1.getD i (List.replicate 3 (0 : Int))).getD 0 0 = b0 at *
  generalize (t1.getD i (List.replicate 3 (0 : Int))).getD 1 0 = b1 at *
  generalize (t1.getD i (List.replicate 3 (0 : Int))).getD 2 0 = b2 at *
  rw [Y2g (n := b0) (by omega), Y2g (n := b1) (by omega)]
  obtain ⟨y, hy, hy'⟩ := tmodN b1 H (by omega) hH1
  obtain ⟨x, hx, hx'⟩ := tmodN b0 W (by omega) hW1
  rw [hy, hx, X5, X5, Y12, Y12, Y1r _ _ _ _ hy', Y1r _ _ _ _ hy', Y02, Y02, Yw (by omega), Yw (by omega), Yw (by omega), Yw (by omega), mat_setR _ _ _ _ _ _ hy', mat_setR _ _ _ _ _ _ hy', Yx (by omega), Y11]
  exact ih _ ⟨rfl, rfl, rfl, ⟨_, _, rfl⟩, i + 1, rfl, by omega⟩ (by simp; omega)
 | false =>
  obtain ⟨n, hn, hn1⟩ := i8_u8 (t2.getD 0 0) o0
  rw [cond_false]
  rw [show ([t2.getD 0 0, t2.getD 1 0].getD 0 0) = t2.getD 0 0 from rfl, show ([t2.getD 0 0, t2.getD 1 0].getD 1 0) = t2.getD 1 0 from rfl, hn, Y2g (n := t2.getD 0 0) (by omega), Y2g (n := t2.getD 1 0) (by omega), Y2g (n := (n : Int)) (by omega), Y12, Yx (by omega), Yx (by omega), Yx (by omega), Yw (by omega)]
  refine lm_inner true _ (PL W H u v) _ _ ⟨(W : Int) + t2.getD 0 0, (H : Int) + t2.getD 1 0, mat H W u, (mat H W v).take (((H : Int) - (n : Int))).toNat⟩ (small_PL _ _ _ _ (by omega) (by omega)) (small_PL _ _ _ _ (by omega) (by omega)) (small_PL _ _ _ _ (by omega) (by omega)) ?_ ?_
  ·refine ⟨?_, ?_, ?_, ?_⟩
   ·unfold small
    dsimp only
    omega
   ·unfold small
    dsimp only
    omega
   ·dsimp only
    rw [Y12]
    omega
   ·dsimp only
    rw [Xq, Y12]
    omega
  ·rw [show ([t2.getD 0 0, t2.getD 1 0].getD 0 0) = t2.getD 0 0 from rfl, show ([t2.getD 0 0, t2.getD 1 0].getD 1 0) = t2.getD 1 0 from rfl, hn, Y2g (n := t2.getD 0 0) (by omega), Y2g (n := t2.getD 1 0) (by omega), Y2g (n := (n : Int)) (by omega)]
   dsimp only [PL]
   rw [Y12]
end Go.Proofs.YtbcfmhoaocifoaaDoor
