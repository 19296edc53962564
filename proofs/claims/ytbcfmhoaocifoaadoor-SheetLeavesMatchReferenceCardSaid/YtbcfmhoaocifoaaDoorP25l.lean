/- Own work. -/
import Derived.Test.YtbcfmhoaocifoaaDoorP25i
import Derived.Test.YtbcfmhoaocifoaaDoorPH
set_option linter.unusedSimpArgs false
set_option linter.unusedVariables false
set_option maxRecDepth 10000
namespace Go.Proofs.YtbcfmhoaocifoaaDoor
open Go.Abs
theorem lend_rowI (g : Nat → Int) (k : Nat) : lend z0 (row (k + 1) g) = if z0 (g k) then lend z0 (row k g) else k + 1 := by
 rw [← row_snoc, lend_snoc, Y02]
theorem r_page25 (W H : Nat) (u : Nat → Nat → Bool) (h2 : W % 2 = 0) (h3 : H % 3 = 0) (hw : W ≤ 200) (hh : H ≤ 200) : f_R25_page (mat H W u) (W : Int) (H : Int) = some (Y30 u (W / 2) (H / 3)) := by
 have e2 : Int.tdiv (H : Int) 3 = ((H / 3 : Nat) : Int) := by rw [Xp (by omega)]; omega
 have e1 : Int.tdiv (W : Int) 2 = ((W / 2 : Nat) : Int) := by rw [Xp (by omega)]; omega
 have hWW : W = 2 * (W / 2) := by omega
 have hHH : H = 3 * (H / 3) := by omega
 unfold f_R25_page
 generalize W / 2 = w at *
 generalize H / 3 = h at *
 refine Y36 (fun r => (row r (Y13 u w), ((lend zE (row r (Y13 u w)) : Nat) : Int), (r : Int))) h _ (by omega) ?_ ?_
 ·intro loop r hr
  show Y2k (mat H W u) (W : Int) (H : Int) loop (row r (Y13 u w)) ((lend zE (row r (Y13 u w)) : Nat) : Int) (r : Int) = _
  unfold Y2k
  rw [e2, Yx (by omega), Y09 (by omega)]
  refine Y36 (fun c => (row r (Y13 u w), row c (cells u r), ((lend z0 (row c (cells u r)) : Nat) : Int), (c : Int))) w _ (by omega) ?_ ?_
  ·intro loop2 c hc
   show Y2l (mat H W u) (W : Int) loop ((lend zE (row r (Y13 u w)) : Nat) : Int) (r : Int) loop2 (row r (Y13 u w)) (row c (cells u r)) ((lend z0 (row c (cells u r)) : Nat) : Int) (c : Int) = _
   unfold Y2l
   rw [e1, Yx (by omega), Y09 (by omega)]
   refine Y36 (fun k => (cellU (fun k => u (3 * r + k % 3) (2 * c + k / 3)) k, (k : Int))) 6 _ (by omega) ?_ ?_
   ·intro loop3 k hk
    show Y2m (mat H W u) (r : Int) loop2 (row r (Y13 u w)) (row c (cells u r)) ((lend z0 (row c (cells u r)) : Nat) : Int) (c : Int) loop3 (cellU (fun k => u (3 * r + k % 3) (2 * c + k / 3)) k) (k : Int) = _
    unfold Y2m Y4f
    have d3 : Int.tdiv (k : Int) 3 = ((k / 3 : Nat) : Int) := by rw [Xp (by omega)]; omega
    have d4 : Int.tmod (k : Int) 3 = ((k % 3 : Nat) : Int) := by rw [Xr (by omega)]; omega
    rw [d3, d4, Y09 (by omega), show ((3 : Int) * (r : Int)) + ((k % 3 : Nat) : Int) = ((3 * r + k % 3 : Nat) : Int) by push_cast; rfl, show ((2 : Int) * (c : Int)) + ((k / 3 : Nat) : Int) = ((2 * c + k / 3 : Nat) : Int) by push_cast; rfl, X5, X5, Y12, Y1r H W u (3 * r + k % 3) (by omega), Y02, Y4t W _ _ _ (by omega),
     Yx (n := (3 : Int) * (r : Int)) (by omega), Yx (n := ((3 * r + k % 3 : Nat) : Int)) (by omega), Yw (p := 0 ≤ ((3 * r + k % 3 : Nat) : Int) ∧ ((3 * r + k % 3 : Nat) : Int) < (H : Int)) (by omega), Yx (n := (2 : Int) * (c : Int)) (by omega), Yx (n := ((k / 3 : Nat) : Int)) (by omega), Yx (n := ((2 * c + k / 3 : Nat) : Int)) (by omega), Yw (p := 0 ≤ ((2 * c + k / 3 : Nat) : Int) ∧ ((2 * c + k / 3 : Nat) : Int) < (W : Int)) (by omega), Y11]
    cases hb : u (3 * r + k % 3) (2 * c + k / 3) with
    | true =>
     rw [cond_true, Yw (by omega), Yx (by omega), (cellU_step (fun k => u (3 * r + k % 3) (2 * c + k / 3)) k hk hb).2]
    | false =>
     rw [cond_false, Yx (by omega)]
     have : cellU (fun k => u (3 * r + k % 3) (2 * c + k / 3)) (k + 1) = cellU (fun k => u (3 * r + k % 3) (2 * c + k / 3)) k := by simp [cellU, hb]
     rw [this]
   ·intro loop3
    show Y2m (mat H W u) (r : Int) loop2 (row r (Y13 u w)) (row c (cells u r)) ((lend z0 (row c (cells u r)) : Nat) : Int) (c : Int) loop3 (cells u r c) 6 = _
    unfold Y2m Y4g
    rw [Y0b (by omega), Y02, Y4s (by omega), row_snoc, lend_rowI, Y11, Yx (by omega)]
    cases hz : z0 (cells u r c) with
    | true =>
     rw [cn_neg ((z0_iff _).1 hz), if_pos rfl, Yx (by omega)]
    | false =>
     rw [cn_pos (fun e => by rw [(z0_iff _).2 e] at hz; cases hz), if_neg (by simp), Yx (by omega)]
  ·intro loop2
   show Y2l (mat H W u) (W : Int) loop ((lend zE (row r (Y13 u w)) : Nat) : Int) (r : Int) loop2 (row r (Y13 u w)) (row w (cells u r)) ((lend z0 (row w (cells u r)) : Nat) : Int) (w : Int) = _
   unfold Y2l Y4h
   have hl := lend_le z0 (row w (cells u r))
   rw [Y02] at hl
   rw [e1, Yx (by omega), Y0b (by omega), Y02, Y02, Yw (by omega), Y4s (by omega), X5, show (row w (cells u r)).take (lend z0 (row w (cells u r))) = Y13 u w r from rfl, row_snoc, lend_row, Y11, Yx (by omega)]
   have hll : (Y13 u w r).length = lend z0 (row w (cells u r)) := trim_len _ _
   cases hz : zE (Y13 u w r) with
   | true =>
    have := (zE_iff _).1 hz
    rw [this] at hll
    rw [Y0b (by rw [← hll]; simp), if_pos rfl, Yx (by omega)]
   | false =>
    have : ¬ lend z0 (row w (cells u r)) = 0 := fun e => by
     rw [e] at hll
     rw [(zE_iff _).2 (Xj hll)] at hz
     cases hz
    rw [Y09 (by omega), if_neg (by simp), Yx (by omega)]
 ·intro loop
  show Y2k (mat H W u) (W : Int) (H : Int) loop (row h (Y13 u w)) ((lend zE (row h (Y13 u w)) : Nat) : Int) (h : Int) = _
  unfold Y2k
  have hl := lend_le zE (row h (Y13 u w))
  rw [Y02] at hl
  rw [e2, Yx (by omega), Y0b (by omega), Y02, Yw (by omega), X5]
  rfl
theorem r_front (W H : Nat) (u v : Nat → Nat → Bool) (h : okWH W H) : f_R25_Front (PL W H u v) = some (Y30 u (W / 2) (H / 3)) := by
 obtain ⟨a, b, c, d, e, f⟩ := h
 unfold f_R25_Front
 rw [r_page25 W H u a b (by omega) (by omega), X8]
theorem r_back (W H : Nat) (u v : Nat → Nat → Bool) (h : okWH W H) : f_R25_Back (PL W H u v) = some (Y30 (rev W v) (W / 2) (H / 3)) := by
 have hh := h
 obtain ⟨a, b, c, d, e, f⟩ := hh
 unfold f_R25_Back
 rw [r_turned W H u v (by omega) (by omega), X8, r_front W H _ _ h, X8]
 rfl
def rh (l : List Int) : Y3 × Int := (Y07 l).getD (zeroH, 0)
theorem rh_both (l : List Int) (hl : l.length < 900000) : Y07 l = some (rh l) ∧ Y16 l = some (rh l) := by
 obtain ⟨x, a, b⟩ := hs_eq l hl
 unfold rh
 rw [a]
 exact ⟨rfl, b⟩
theorem rh_hd (h : Y3) (k : okH h) : rh (hd h) = (h, 0) := by
 have hl : (hd h).length < 900000 := by
  rw [hd_len h k]
  have := k.1
  omega
 rcases n_hs (hd h) hl with ⟨h', k', e, f⟩ | ⟨_, f⟩
 ·unfold rh
  rw [f, hd_inj h' h k' k e]
  rfl
 ·exact absurd rfl (f h k)
def headP (p : List (List Int)) (w : Int) : Y3 × Bool := if p.length = 0 then (zeroH, false) else ((rh (p.getD 0 [])).1, (rh (p.getD 0 [])).2 == 0 && (rh (p.getD 0 [])).1.Width == w)
theorem s_header (p : List (List Int)) (w : Int) (h : shortP p) : Y3l p w = some (headP p w) := by
 unfold Y3l headP
 by_cases e : p.length = 0
 ·rw [cb_pos (by omega), if_pos e]
  rfl
 ·rw [cb_neg (by omega), if_neg e, Yw (by omega), show (0 : Int).toNat = 0 from rfl, (rh_both _ (h.2 0)).1, X8, and_tt]
theorem r_header25 (p : List (List Int)) (w : Int) (h : shortP p) : Y5q p w = some (headP p w) := by
 unfold Y5q headP
 by_cases e : p.length = 0
 ·rw [cb_pos (by omega), if_pos e]
  rfl
 ·rw [cb_neg (by omega), if_neg e, Yw (by omega), show (0 : Int).toNat = 0 from rfl, (rh_both _ (h.2 0)).2, X8, and_tt]
def zLeaf : Yr := ⟨⟨0, 0⟩, [], []⟩
def sameL (a b : Yu) : Bool := [a.N == b.N, a.K == b.K].all id
def badL (f b : List (List Int)) (w : Int) : Bool := !(headP f w).2 || (headP f w).1.Back || (decide ((0 : Int) < (b.length : Int)) && (!(headP b w).2 || !(headP b w).1.Back || !(sameL (headP b w).1.Label (headP f w).1.Label)))
def leafP (f b : List (List Int)) (w : Int) : Yr × Int := if badL f b w then (zLeaf, 250) else (⟨(headP f w).1.Label, f, b⟩, 0)
theorem s_leaf (W H : Nat) (u v : Nat → Nat → Bool) (h : okWH W H) : Y31 (PL W H u v) = some (leafP (Y30 u (W / 2) (H / 3)) (Y30 (rev W v) (W / 2) (H / 3)) ((W / 2 : Nat) : Int)) := by
 have hh := h
 obtain ⟨a, b, c, d, e, f⟩ := hh
 have e1 : Int.tdiv (W : Int) 2 = ((W / 2 : Nat) : Int) := by rw [Xp (by omega)]; omega
 have k1 := s_header (Y30 u (W / 2) (H / 3)) ((W / 2 : Nat) : Int) (Y5l _ _ _ (by omega) (by omega))
 have k2 := s_header (Y30 (rev W v) (W / 2) (H / 3)) ((W / 2 : Nat) : Int) (Y5l _ _ _ (by omega) (by omega))
 unfold Y31 Y41
 rw [s_validPL W H u v h, X8, Bool.not_true, cond_false, s_front W H u v h, X8, s_back W H u v h, X8, show (PL W H u v).W = (W : Int) from rfl, e1, Yx (by omega), show Y30 (fun y x => v y (W - 1 - x)) (W / 2) (H / 3) = Y30 (rev W v) (W / 2) (H / 3) from rfl, k1, X8, k2, X8]
 unfold leafP badL sameL zLeaf
 try dsimp only
 generalize Y30 u (W / 2) (H / 3) = p
 generalize Y30 (rev W v) (W / 2) (H / 3) = q
 generalize headP p ((W / 2 : Nat) : Int) = x
 generalize headP q ((W / 2 : Nat) : Int) = y
 generalize ([y.1.Label.N == x.1.Label.N, y.1.Label.K == x.1.Label.K].all id) = s
 generalize decide ((0 : Int) < (q.length : Int)) = t
 obtain ⟨x1, x2⟩ := x
 obtain ⟨y1, y2⟩ := y
 dsimp only
 generalize hb : x1.Back = xb
 generalize y1.Back = yb
 cases x2 <;> cases xb <;> cases t <;> cases y2 <;> cases yb <;> cases s <;> rfl
theorem r_leaf (W H : Nat) (u v : Nat → Nat → Bool) (h : okWH W H) : f_R25_Leaf (PL W H u v) = some (leafP (Y30 u (W / 2) (H / 3)) (Y30 (rev W v) (W / 2) (H / 3)) ((W / 2 : Nat) : Int)) := by
 have hh := h
 obtain ⟨a, b, c, d, e, f⟩ := hh
 have e1 : Int.tdiv (W : Int) 2 = ((W / 2 : Nat) : Int) := by rw [Xp (by omega)]; omega
 have k1 := r_header25 (Y30 u (W / 2) (H / 3)) ((W / 2 : Nat) : Int) (Y5l _ _ _ (by omega) (by omega))
 have k2 := r_header25 (Y30 (rev W v) (W / 2) (H / 3)) ((W / 2 : Nat) : Int) (Y5l _ _ _ (by omega) (by omega))
 unfold f_R25_Leaf
 rw [r_validPL W H u v h, X8, Bool.not_true, cond_false, r_front W H u v h, X8, r_back W H u v h, X8, show (PL W H u v).W = (W : Int) from rfl, e1, Yx (by omega), k1, X8, k2, X8]
 unfold leafP badL sameL zLeaf
 try dsimp only
 generalize Y30 u (W / 2) (H / 3) = p
 generalize Y30 (rev W v) (W / 2) (H / 3) = q
 generalize headP p ((W / 2 : Nat) : Int) = x
 generalize headP q ((W / 2 : Nat) : Int) = y
 generalize ([y.1.Label.N == x.1.Label.N, y.1.Label.K == x.1.Label.K].all id) = s
 generalize decide ((0 : Int) < (q.length : Int)) = t
 obtain ⟨x1, x2⟩ := x
 obtain ⟨y1, y2⟩ := y
 dsimp only
 generalize hb : x1.Back = xb
 generalize y1.Back = yb
 cases x2 <;> cases xb <;> cases t <;> cases y2 <;> cases yb <;> cases s <;> rfl
theorem sameL_iff (a b : Yu) : sameL a b = decide (a = b) := by
 obtain ⟨n, k⟩ := a
 obtain ⟨n', k'⟩ := b
 rw [Bool.eq_iff_iff]
 simp [sameL]
theorem r_sameLeaf (a b : Yr) (h : shortLeaf a) : f_R25_Same a b = some (decide (a = b)) := by
 have e : a = b ↔ a.Label = b.Label ∧ a.Front = b.Front ∧ a.Back = b.Back := by
  cases a
  cases b
  simp
 unfold f_R25_Same
 rw [r_samePage _ _ h.1, r_samePage _ _ h.2, show [a.Label.N == b.Label.N, a.Label.K == b.Label.K].all id = decide (a.Label = b.Label) from sameL_iff _ _]
 have : decide (a = b) = (decide (a.Label = b.Label) && decide (a.Front = b.Front) && decide (a.Back = b.Back)) := by
  rw [Bool.eq_iff_iff]
  simp only [decide_eq_true_eq, X3, e, and_assoc]
 rw [this]
 generalize decide (a.Label = b.Label) = x
 generalize decide (a.Front = b.Front) = y
 generalize decide (a.Back = b.Back) = z
 cases x <;> cases y <;> cases z <;> rfl
theorem leafP_short (f b : List (List Int)) (w : Int) (h1 : shortP f) (h2 : shortP b) : shortLeaf (leafP f b w).1 := by
 have z : shortP [] := ⟨by simp, fun i => by simp⟩
 unfold leafP
 split
 ·exact ⟨z, z⟩
 ·exact ⟨h1, h2⟩
end Go.Proofs.YtbcfmhoaocifoaaDoor
