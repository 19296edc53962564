/- Own work. -/
import Derived.Test.YtbcfmhoaocifoaaDoorP25e
set_option linter.unusedSimpArgs false
set_option linter.unusedVariables false
set_option maxRecDepth 10000
namespace Go.Proofs.YtbcfmhoaocifoaaDoor
open Go.Abs
theorem tabY (k : Nat) (h : k < 6) : (Y26.getD k Y0c).Y = ((k % 3 : Nat) : Int) := by
 match k, h with
 | 0, _ => rfl
 | 1, _ => rfl
 | 2, _ => rfl
 | 3, _ => rfl
 | 4, _ => rfl
 | 5, _ => rfl
theorem tabX (k : Nat) (h : k < 6) : (Y26.getD k Y0c).X = ((k / 3 : Nat) : Int) := by
 match k, h with
 | 0, _ => rfl
 | 1, _ => rfl
 | 2, _ => rfl
 | 3, _ => rfl
 | 4, _ => rfl
 | 5, _ => rfl
def prog (r i k y x : Nat) : Prop := y / 3 < r ∨ (y / 3 = r ∧ (x / 2 < i ∨ (x / 2 = i ∧ x % 2 * 3 + y % 3 < k)))
instance (r i k y x : Nat) : Decidable (prog r i k y x) := inferInstanceAs (Decidable (y / 3 < r ∨ (y / 3 = r ∧ (x / 2 < i ∨ (x / 2 = i ∧ x % 2 * 3 + y % 3 < k)))))
theorem cell_far1 (p : List (List Int)) (r c : Nat) (h : p.length ≤ r) : cellAt p r c = 0 := by
 unfold cellAt
 rw [getD_nil p r [] h]
 rfl
theorem cell_far2 (p : List (List Int)) (r c : Nat) (h : (p.getD r []).length ≤ c) : cellAt p r c = 0 := getD_nil _ _ _ h
def plateOf (l : Yr) (w h : Nat) : Y4 := PL (2 * w) (3 * h) (dot l.Front) (fun y x => dot l.Back y (2 * w - 1 - x))
def sizeOk (w h : Int) : Prop := 24 ≤ w ∧ w ≤ 60 ∧ 4 ≤ h ∧ h ≤ 40
instance (w h : Int) : Decidable (sizeOk w h) := inferInstanceAs (Decidable (24 ≤ w ∧ w ≤ 60 ∧ 4 ≤ h ∧ h ≤ 40))
def pressP (l : Yr) (f : Y0k) : Y4 × Int :=
 if sizeOk f.Width f.Height then (if fitsP l.Front f.Width f.Height ∧ fitsP l.Back f.Width f.Height then (plateOf l f.Width.toNat f.Height.toNat, 0) else (⟨0, 0, [], []⟩, 250)) else (⟨0, 0, [], []⟩, 1)
theorem size_cond {w h : Int} {α : Type} {a b : α} : cond (cond (cond (cond (decide (w < (24 : Int))) true (decide ((60 : Int) < w))) true (decide (h < (4 : Int)))) true (decide ((40 : Int) < h))) a b = if sizeOk w h then b else a := by
 by_cases h1 : sizeOk w h
 ·obtain ⟨a, b, c, d⟩ := h1
  rw [if_pos ⟨a, b, c, d⟩, decide_eq_false (by omega), decide_eq_false (by omega), decide_eq_false (by omega), decide_eq_false (by omega)]
  rfl
 ·rw [if_neg h1]
  by_cases q1 : w < 24
  ·rw [decide_eq_true q1]; simp
  ·by_cases q2 : 60 < w
   ·rw [decide_eq_true q2]; simp
   ·by_cases q3 : h < 4
    ·rw [decide_eq_true q3]; simp
    ·by_cases q4 : 40 < h
     ·rw [decide_eq_true q4]; simp
     ·exact absurd ⟨by omega, by omega, by omega, by omega⟩ h1
theorem r_cell (p : List (List Int)) (r c : Nat) : f_R25_cell p (r : Int) (c : Int) = some (cellAt p r c) := by
 unfold f_R25_cell
 by_cases h1 : (p.length : Int) ≤ (r : Int)
 ·rw [decide_eq_true h1, G_imp (fun a => absurd a (by decide)), cell_far1 _ _ _ (by omega)]
  rfl
 ·rw [decide_eq_false h1, cI_pos (by omega), X5, X5]
  by_cases h2 : ((p.getD r []).length : Int) ≤ (c : Int)
  ·rw [decide_eq_true h2, cell_far2 _ _ _ (by omega)]
   rfl
  ·rw [decide_eq_false h2, Yw (by omega), Yw (by omega)]
   rfl
theorem r_raised (p : List (List Int)) (x y : Nat) (hx : x < 900000) (hy : y < 900000) : Y5p p (x : Int) (y : Int) = some (dot p y x) := by
 have e2 : Int.tdiv (y : Int) 3 = ((y / 3 : Nat) : Int) := by rw [Xp (by omega)]; omega
 have e1 : Int.tdiv (x : Int) 2 = ((x / 2 : Nat) : Int) := by rw [Xp (by omega)]; omega
 have m2 : Int.tmod (y : Int) 3 = ((y % 3 : Nat) : Int) := by rw [Xr (by omega)]; omega
 have m1 : Int.tmod (x : Int) 2 = ((x % 2 : Nat) : Int) := by rw [Xr (by omega)]; omega
 unfold Y5p f_R01_Has
 rw [e1, e2, m1, m2, Yx (by omega), Yx (by omega), r_cell, X8, Yx (by omega), Yx (by omega), Yx (by omega), Yx (by omega), Yw (by omega), X8, show ((x % 2 : Nat) : Int) * 3 + ((y % 3 : Nat) : Int) + 1 - 1 = ((x % 2 * 3 + y % 3 : Nat) : Int) by push_cast; omega]
 rfl
theorem r_press (l : Yr) (f : Y0k) (h1 : shortP l.Front) (h2 : shortP l.Back) : f_R25_Press l f = some (pressP l f) := by
 unfold f_R25_Press pressP
 rw [size_cond]
 by_cases hs : sizeOk f.Width f.Height
 ·rw [if_pos hs, if_pos hs, r_fits _ _ _ h1, X8, r_fits _ _ _ h2, X8]
  by_cases q1 : fitsP l.Front f.Width f.Height
  ·rw [decide_eq_true q1]
   by_cases q2 : fitsP l.Back f.Width f.Height
   ·rw [decide_eq_true q2, if_pos ⟨q1, q2⟩]
    obtain ⟨a, b, c, d⟩ := hs
    obtain ⟨w, hw⟩ := nat_of (x := f.Width) (by omega)
    obtain ⟨h, hh⟩ := nat_of (x := f.Height) (by omega)
    rw [hw, hh] at q1 q2 ⊢
    rw [hw] at a b
    rw [hh] at c d
    show G _ _ = _
    have hW : 2 * w ≤ 120 := by omega
    have hH : 3 * h ≤ 120 := by omega
    rw [show (2 : Int) * (w : Int) = ((2 * w : Nat) : Int) by push_cast; rfl, show (3 : Int) * (h : Int) = ((3 * h : Nat) : Int) by push_cast; rfl, Yx (by omega), Yx (by omega), r_empty _ _ (by omega) (by omega), X8, X5, X5, plateOf]
    generalize 2 * w = W at *
    generalize 3 * h = H at *
    rw [show PL W H (fun _ _ => false) (fun _ _ => false) = PL W H (upto 0 0 (dot l.Front)) (uptoR W 0 0 fun y x => dot l.Back y (W - 1 - x)) from PL_congr (fun y x _ _ => by simp [upto]) (fun y x _ _ => by simp [uptoR])]
    refine Y36 (fun k => (l, (⟨0, 0, [], []⟩ : Y4), PL W H (upto k 0 (dot l.Front)) (uptoR W k 0 fun y x => dot l.Back y (W - 1 - x)), (k : Int))) H _ (by omega) ?_ ?_
    ·intro loop k hk
     unfold Y4y
     rw [Y09 (show (k : Int) < (H : Int) by omega)]
     refine Y36 (fun j => (l, (⟨0, 0, [], []⟩ : Y4), PL W H (upto k j (dot l.Front)) (uptoR W k j fun y x => dot l.Back y (W - 1 - x)), (j : Int))) W _ (by omega) ?_ ?_
     ·intro loop2 j hj
      unfold Y4z
      simp only [PL, X5, natSub1 W j hj, Y12]
      rw [Y09 (by omega), Yw (by omega), r_raised _ _ _ (by omega) (by omega), X8, Y1r H W (upto k j _) k hk, Y02, Yw (by omega), Yw (by omega), Yx (by omega), Yx (by omega), r_raised _ _ _ (by omega) (by omega), X8, Y1r H W (uptoR W k j _) k hk, Y02, Yw (by omega), Yx (by omega),
       ← Y1r H W _ k hk, ← Y1r H W _ k hk, mat_uptoS _ _ _ _ _ _ hk rfl, mat_uptoRS _ _ _ _ _ _ hk hj (by rw [show W - 1 - (W - 1 - j) = j by omega]), Y11]
     ·intro loop2
      unfold Y4z
      simp only [PL]
      rw [Y0b (by omega), Yx (by omega), mat_uptoE, mat_uptoRE, Y11]
    ·intro loop
     unfold Y4y
     simp only [PL]
     rw [Y0b (by omega), mat_uptoH, mat_uptoRH]
   ·rw [decide_eq_false q2, if_neg (fun a => q2 a.2)]
    rfl
  ·rw [decide_eq_false q1, if_neg (fun a => q1 a.1)]
   rfl
 ·rw [if_neg hs, if_neg hs]
end Go.Proofs.YtbcfmhoaocifoaaDoor
