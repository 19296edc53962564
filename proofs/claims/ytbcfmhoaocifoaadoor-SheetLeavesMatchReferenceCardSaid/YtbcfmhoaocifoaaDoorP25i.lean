/- Own work. -/
import Derived.Test.YtbcfmhoaocifoaaDoorP25h
import Derived.Test.YtbcfmhoaocifoaaDoorSh
set_option linter.unusedSimpArgs false
set_option linter.unusedVariables false
set_option maxRecDepth 10000
namespace Go.Proofs.YtbcfmhoaocifoaaDoor
open Go.Abs
def fW (x : S_Raw) : Nat := 24 + x.W.toNat % 7
def fH (x : S_Raw) : Nat := 4 + x.H.toNat % 5
theorem fW_in (x : S_Raw) : 24 ≤ fW x ∧ fW x ≤ 30 := by unfold fW; omega
theorem fH_in (x : S_Raw) : 4 ≤ fH x ∧ fH x ≤ 8 := by unfold fH; omega
theorem r_format {x : S_Raw} (k : okS_Raw x) : Y49 x = some ⟨(fW x : Int), (fH x : Int), 1⟩ := by
 obtain ⟨⟨a, b⟩, ⟨c, d⟩, _⟩ := k
 have e1 : Int.tmod x.W 7 = ((x.W.toNat % 7 : Nat) : Int) := by rw [Xr a]; omega
 have e2 : Int.tmod x.H 5 = ((x.H.toNat % 5 : Nat) : Int) := by rw [Xr c]; omega
 unfold Y49
 rw [e1, e2, Y2g (by omega), Y2g (by omega), Yx (by omega), Yx (by omega), show (24 : Int) + ((x.W.toNat % 7 : Nat) : Int) = (fW x : Int) by unfold fW; omega, show (4 : Int) + ((x.H.toNat % 5 : Nat) : Int) = (fH x : Int) by unfold fH; omega]
theorem getD_in {α : Type} (l : List α) (i : Nat) (d : α) (h : i < l.length) : l.getD i d ∈ l := by
 rw [Xc, X4 h]
 exact List.getElem_mem h
theorem ok_cell {l : List (List Int)} (k : okList (okList (okInt .u8)) l) (r c : Nat) : 0 ≤ (l.getD r []).getD c 0 ∧ (l.getD r []).getD c 0 ≤ 255 := by
 by_cases hr : r < l.length
 ·by_cases hc : c < (l.getD r []).length
  ·exact (k.1 _ (getD_in l r [] hr)).1 _ (getD_in _ c 0 hc)
  ·rw [getD_nil _ c 0 (by omega)]
   omega
 ·rw [getD_nil l r [] (by omega)]
  simp
theorem linesP_line (l : List (List Int)) (w h i : Nat) : (linesP l w h).getD i [] = if i < min l.length h then trim z0 (cellsP (l.getD i []) w) else [] := by
 unfold linesP
 rw [trim_getD zE_iff]
 by_cases e : i < min l.length h
 ·rw [Y4t _ _ _ _ e, if_pos e]
 ·rw [row_get0 _ _ _ _ (by omega), if_neg e]
theorem linesP_len (l : List (List Int)) (w h : Nat) : (linesP l w h).length ≤ min l.length h := by
 have := lend_le zE (row (min l.length h) fun i => trim z0 (cellsP (l.getD i []) w))
 rw [Y02] at this
 rw [linesP, trim_len]
 exact this
theorem cellsP_len (l : List Int) (w : Nat) : (trim z0 (cellsP l w)).length ≤ w := by
 have := lend_le z0 (cellsP l w)
 rw [trim_len]
 rw [cellsP, Y02] at this
 rw [cellsP]
 omega
theorem linesP_fits (l : List (List Int)) (w h : Nat) : fitsP (linesP l w h) (w : Int) (h : Int) := by
 have hl := linesP_len l w h
 refine ⟨by omega, fun i hi => ?_, trim_can _ _ _⟩
 rw [linesP_line, if_pos (by omega)]
 refine ⟨by have := cellsP_len (l.getD i []) w; omega, trim_can _ _ _, fun k hk => ?_⟩
 rw [trim_getD z0_iff]
 have hm : ∀ n : Int, Int.tmod n 64 < 64 := fun n => Int.tmod_lt_of_pos n (by omega)
 unfold cellsP
 by_cases e : k < min (l.getD i []).length w
 ·rw [Y4t _ _ _ _ e]
  exact hm _
 ·rw [row_get0 _ _ _ _ (by omega)]
  omega
theorem linesP_pos {l : List (List Int)} (k : okList (okList (okInt .u8)) l) (w h : Nat) : posP (linesP l w h) := by
 intro r c
 unfold cellAt
 rw [linesP_line]
 split
 ·rw [trim_getD z0_iff]
  unfold cellsP
  by_cases e : c < min (l.getD r []).length w
  ·rw [Y4t _ _ _ _ e]
   have := (ok_cell k r c).1
   rw [Xr this]
   omega
  ·rw [row_get0 _ _ _ _ (by omega)]
   exact Int.le_refl _
 ·exact Int.le_refl _
theorem fits_short {p : List (List Int)} {w h : Int} (f : fitsP p w h) (hw : w < 900000) (hh : h < 900000) : shortP p := by
 refine ⟨by have := f.1; omega, fun i => ?_⟩
 by_cases hi : i < p.length
 ·have := (f.2.1 i hi).1
  omega
 ·rw [getD_nil p i [] (by omega)]
  simp
theorem pressP_ok (l : Yr) (w h : Nat) (b : Int) (hw : 24 ≤ w ∧ w ≤ 60) (hh : 4 ≤ h ∧ h ≤ 40) (f1 : fitsP l.Front w h) (f2 : fitsP l.Back w h) : pressP l ⟨(w : Int), (h : Int), b⟩ = (plateOf l w h, 0) := by
 unfold pressP
 rw [if_pos (show sizeOk (w : Int) (h : Int) from ⟨by omega, by omega, by omega, by omega⟩), if_pos ⟨f1, f2⟩, X5, X5]
def shortLeaf (l : Yr) : Prop := shortP l.Front ∧ shortP l.Back
theorem wrap_u8_nat (n : Int) : ∃ m : Nat, IntKind.wrap .u8 n = (m : Int) ∧ m ≤ 255 := by
 have : 0 ≤ IntKind.wrap .u8 n ∧ IntKind.wrap .u8 n ≤ 255 := by
  show 0 ≤ n % 256 ∧ n % 256 ≤ 255
  omega
 exact ⟨(IntKind.wrap .u8 n).toNat, by omega, by omega⟩
theorem ok3 {t1 : List (List Int)} (k : okList (okArr 3 (okInt .u8)) t1) (i j : Nat) (hi : i < t1.length) (hj : j < 3) : 0 ≤ (t1.getD i (List.replicate 3 (0 : Int))).getD j 0 ∧ (t1.getD i (List.replicate 3 (0 : Int))).getD j 0 ≤ 255 := by
 have h1 := k.1 _ (getD_in t1 i (List.replicate 3 (0 : Int)) hi)
 exact h1.1 _ (getD_in _ j 0 (by rw [h1.2]; exact hj))
theorem tmodN (a : Int) (n : Nat) (h : 0 ≤ a) (hn : 0 < n) : ∃ m : Nat, Int.tmod a (n : Int) = (m : Int) ∧ m < n := by
 obtain ⟨b, rfl⟩ := nat_of h
 exact ⟨b % n, by rw [Xr (by omega)]; rfl, Nat.mod_lt _ hn⟩
theorem r_plate {t0 : S_Raw} (k : okS_Raw t0) (t1 : List (List Int)) (k1 : okList (okArr 3 (okInt .u8)) t1) : ∃ u v, f_R25_Plate t0 t1 = some (PL (2 * fW t0) (3 * fH t0) u v) := by
 have hw := fW_in t0
 have hh := fH_in t0
 unfold f_R25_Plate
 rw [r_format k, X8]
 dsimp only
 rw [show (2 : Int) * (fW t0 : Int) = ((2 * fW t0 : Nat) : Int) by omega, show (3 : Int) * (fH t0 : Int) = ((3 * fH t0 : Nat) : Int) by omega, Yx (by omega), Yx (by omega), r_empty _ _ (by omega) (by omega), X8]
 have hW0 : 0 < 2 * fW t0 := by omega
 have hH0 : 0 < 3 * fH t0 := by omega
 generalize 2 * fW t0 = W at *
 generalize 3 * fH t0 = H at *
 have key := WP.iter (b := fun loop (s : Y4 × Y4 × Int) => Y51 t1 loop s.1 s.2.1 s.2.2) (Q := fun p => ∃ u v, p = PL W H u v) (fun s => (∃ u v, s.2.1 = PL W H u v) ∧ ∃ i : Nat, s.2.2 = (i : Int) ∧ i ≤ 40) (fun s => 40 - s.2.2.toNat) (fun loop s hs ih => by
  obtain ⟨v5, v6, v7⟩ := s
  obtain ⟨⟨u, v, hv6⟩, i, hv7, hi⟩ := hs
  dsimp only at hv6 hv7
  subst hv6
  subst hv7
  unfold Y51 Y50
  rw [and_tt]
  cases hc : (decide ((i : Int) < (t1.length : Int)) && decide ((i : Int) < 40)) with
  | false =>
   rw [Y00 rfl]
   exact WP.some ⟨u, v, rfl⟩
  | true =>
   rw [X3] at hc
   have c1 := of_decide_eq_true hc.1
   have c2 := of_decide_eq_true hc.2
   have o0 := ok3 k1 i 0 (by omega) (by omega)
   have o1 := ok3 k1 i 1 (by omega) (by omega)
   dsimp only
   rw [Y03 rfl, Yw (by omega), Yw (show ((H : Nat) : Int) ≠ 0 by omega), Yw (show ((W : Nat) : Int) ≠ 0 by omega), X5]
   generalize (t1.getD i (List.replicate 3 (0 : Int))).getD 0 0 = a0 at *
   generalize (t1.getD i (List.replicate 3 (0 : Int))).getD 1 0 = a1 at *
   rw [Y2g (by omega), Y2g (by omega)]
   obtain ⟨y, hy, hy'⟩ := tmodN a1 H (by omega) hH0
   obtain ⟨x, hx, hx'⟩ := tmodN a0 W (by omega) hW0
   dsimp only [PL]
   rw [hy, hx, X5, X5, Y12, Y12, Y1r _ _ _ _ hy', Y1r _ _ _ _ hy', Y02, Y02, ← Y1r H W _ y hy', ← Y1r H W _ y hy', mat_set _ _ _ _ _ _ hy', mat_set _ _ _ _ _ _ hy']
   refine WP.cond (fun _ => ?_) (fun _ => ?_)
   ·rw [Yw (by omega), Yw (by omega), Yx (by omega), Y11]
    exact ih _ ⟨⟨_, _, rfl⟩, i + 1, rfl, by omega⟩ (by simp; omega)
   ·rw [Yw (by omega), Yw (by omega), Yx (by omega), Y11]
    exact ih _ ⟨⟨_, _, rfl⟩, i + 1, rfl, by omega⟩ (by simp; omega)) 1000000 ((⟨0, 0, [], []⟩ : Y4), PL W H (fun _ _ => false) (fun _ _ => false), 0) ⟨⟨_, _, rfl⟩, 0, rfl, by omega⟩ (by simp)
 obtain ⟨p, e, u, v, rfl⟩ := key
 exact ⟨u, v, e⟩
def rev (W : Nat) (v : Nat → Nat → Bool) : Nat → Nat → Bool := fun y x => v y (W - 1 - x)
end Go.Proofs.YtbcfmhoaocifoaaDoor
