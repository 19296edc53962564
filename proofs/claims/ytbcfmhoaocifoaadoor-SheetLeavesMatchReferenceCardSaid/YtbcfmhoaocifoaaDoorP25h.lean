/- Own work. -/
import Derived.Test.YtbcfmhoaocifoaaDoorP25g
set_option linter.unusedSimpArgs false
set_option linter.unusedVariables false
set_option maxRecDepth 10000
namespace Go.Proofs.YtbcfmhoaocifoaaDoor
open Go.Abs
theorem z0_iff (c : Int) : z0 c = true ↔ c = 0 := beq_iff_eq
theorem zE_iff (l : List Int) : zE l = true ↔ l = [] := by
 unfold zE
 rw [beq_iff_eq]
 constructor
 ·intro h
  exact Xj (by omega)
 ·intro h
  rw [h]
  rfl
theorem trim_getD {α : Type} {z : α → Bool} {d : α} (hz : ∀ x, z x = true ↔ x = d) (l : List α) (k : Nat) : (trim z l).getD k d = l.getD k d := by
 by_cases h : k < lend z l
 ·exact trim_get z l k d h
 ·rw [getD_nil (trim z l) k d (by rw [trim_len]; omega)]
  by_cases h2 : k < l.length
  ·exact ((hz _).1 (lend_in z d l k (by omega) h2)).symm
  ·exact (getD_nil l k d (by omega)).symm
theorem can_nil {α : Type} (z : α → Bool) (d : α) : canL z d [] := fun h => absurd h (by simp)
theorem pageOf_line (u : Nat → Nat → Bool) (w h i : Nat) : (Y30 u w h).getD i [] = if i < h then Y13 u w i else [] := by
 unfold Y30
 rw [trim_getD zE_iff]
 by_cases hr : i < h
 ·rw [Y4t _ _ _ _ hr, if_pos hr]
 ·rw [row_get0 _ _ _ _ (by omega), if_neg hr]
theorem lineOf_len (u : Nat → Nat → Bool) (w i : Nat) : (Y13 u w i).length ≤ w := by
 have := lend_le z0 (row w (cells u i))
 rw [Y02] at this
 rw [Y13, trim_len]
 exact this
theorem pageOf_len (u : Nat → Nat → Bool) (w h : Nat) : (Y30 u w h).length ≤ h := by
 have := lend_le zE (row h (Y13 u w))
 rw [Y02] at this
 rw [Y30, trim_len]
 exact this
theorem Y5l (u : Nat → Nat → Bool) (w h : Nat) (hw : w < 900000) (hh : h < 900000) : shortP (Y30 u w h) := by
 refine ⟨by have := pageOf_len u w h; omega, fun i => ?_⟩
 rw [pageOf_line]
 by_cases e : i < h
 ·rw [if_pos e]
  have := lineOf_len u w i
  omega
 ·rw [if_neg e]
  simp
def posP (p : List (List Int)) : Prop := ∀ r c, 0 ≤ cellAt p r c
/-! Comparisons. -/
theorem ext_iff {α : Type} [DecidableEq α] (a b : List α) (d : α) (hl : a.length = b.length) : (∀ k, k < a.length → a.getD k d = b.getD k d) ↔ a = b :=
 ⟨fun h => row_ext d hl h, fun h => by subst h; exact fun _ _ => rfl⟩
theorem ite_dec {p : Prop} [Decidable p] : (if p then some true else some false) = some (decide p) := by
 by_cases h : p
 ·rw [if_pos h, decide_eq_true h]
 ·rw [if_neg h, decide_eq_false h]
theorem r_same (a b : List Int) (h : a.length < 900000) : Y3r a b = some (decide (a = b)) := by
 unfold Y3r
 by_cases hl : a.length = b.length
 ·rw [cn_neg (by omega), loop_allO a.length (fun k => a.getD k 0 = b.getD k 0) (some true) (some false) h, ite_dec]
  ·congr 1
   rw [decide_eq_decide]
   exact ext_iff a b 0 hl
  ·intro loop k hk
   unfold Y3b
   rw [X5, Y09 (by omega), Yw (by omega), Yw (by omega)]
   by_cases e : a.getD k 0 = b.getD k 0
   ·rw [cn_neg e, if_pos e, Yx (by omega), Y11]
   ·rw [cn_pos e, if_neg e]
  ·intro loop
   unfold Y3b
   rw [Y0b (by omega)]
 ·rw [cn_pos (by omega), decide_eq_false (fun e => hl (by rw [e]))]
theorem r_samePage (p q : List (List Int)) (h : shortP p) : Y21 p q = some (decide (p = q)) := by
 have h1 := h.1
 unfold Y21
 by_cases hl : p.length = q.length
 ·rw [cn_neg (by omega), loop_allO p.length (fun k => p.getD k [] = q.getD k []) (some true) (some false) h1, ite_dec]
  ·congr 1
   rw [decide_eq_decide]
   exact ext_iff p q [] hl
  ·intro loop k hk
   unfold Y2v
   rw [X5, Y09 (by omega), Yw (by omega), Yw (by omega), r_same _ _ (h.2 k), X8]
   by_cases e : p.getD k [] = q.getD k []
   ·rw [decide_eq_true e, if_pos e, Yx (by omega), Y11]
    rfl
   ·rw [decide_eq_false e, if_neg e]
    rfl
  ·intro loop
   unfold Y2v
   rw [Y0b (by omega)]
 ·rw [cn_pos (by omega), decide_eq_false (fun e => hl (by rw [e]))]
theorem plate_ext (p q : Y4) : p = q ↔ (p.W = q.W ∧ p.H = q.H) ∧ p.Up = q.Up ∧ p.Down = q.Down := by
 cases p
 cases q
 simp [and_assoc]
/-! Lines of a description. -/
def cellsP (l : List Int) (w : Nat) : List Int := row (min l.length w) fun i => Int.tmod (l.getD i 0) 64
def linesP (l : List (List Int)) (w h : Nat) : List (List Int) := trim zE (row (min l.length h) fun i => trim z0 (cellsP (l.getD i []) w))
theorem r_cells (l : List Int) (w : Nat) (h : w < 900000) : f_R01_Cells l (w : Int) = some (cellsP l w) := by
 unfold f_R01_Cells
 refine Y36 (fun k => (row k (fun i => Int.tmod (l.getD i 0) 64), (k : Int))) (min l.length w) _ (by omega) ?_ ?_
 ·intro loop k hk
  unfold Y55
  simp only []
  rw [X5, decide_eq_true (show (k : Int) < (l.length : Int) by omega), decide_eq_true (show (k : Int) < (w : Int) by omega), Y02, Yw (by omega), Y4s (by omega), Yx (by omega), Y11, row_snoc k (fun i => Int.tmod (l.getD i 0) 64)]
  rfl
 ·intro loop
  unfold Y55
  simp only []
  by_cases e : (((min l.length w : Nat) : Int)) < (l.length : Int)
  ·rw [decide_eq_true e, decide_eq_false (show ¬ (((min l.length w : Nat) : Int)) < (w : Int) by omega)]
   rfl
  ·rw [decide_eq_false e]
   rfl
theorem r_linesDrop (loop17 : List (List Int) → Option (List (List Int))) : ∀ v : List (List Int), v.length < 900000 → iter (fun loop (s : List (List Int)) => Y3o loop s) 1000000 v = some (trim zE v) := by
 intro v hv
 refine iter_ind (b := fun loop (s : List (List Int)) => Y3o loop s) (fun s => s.length < 900000) (fun s => s.length) (fun s => some (trim zE s)) ?_ 1000000 v hv (by omega)
 intro loop s hs ih
 unfold Y3o
 rw [cI_pos (inR_of (by omega)), G_imp (fun a => by have := of_decide_eq_true a; omega)]
 by_cases h0 : 0 < s.length
 ·have e1 : ((s.length : Int) - 1).toNat = s.length - 1 := by omega
  rw [Y09 (by omega), e1]
  have es : s = s.take (s.length - 1) ++ [s.getD (s.length - 1) []] := by
   have := take_snoc s (s.length - 1) [] (by omega)
   rw [show s.length - 1 + 1 = s.length by omega, X1e] at this
   exact this
  have el : lend zE s = if zE (s.getD (s.length - 1) []) then lend zE (s.take (s.length - 1)) else s.length := by
   have := lend_snoc zE (s.getD (s.length - 1) []) (s.take (s.length - 1))
   rw [← es, Xq, show min (s.length - 1) s.length + 1 = s.length by omega] at this
   exact this
  show cond (zE (s.getD (s.length - 1) [])) _ _ = _
  cases hz : zE (s.getD (s.length - 1) []) with
  | true =>
   rw [Y03 rfl, Yx (by omega), Yw (by omega)]
   rw [ih (s.take (s.length - 1)) (by rw [Xq]; omega) (by rw [Xq]; omega)]
   rw [hz, if_pos rfl] at el
   have := lend_le zE (s.take (s.length - 1))
   rw [Xq] at this
   rw [trim, trim, el, X0h, show min (lend zE (s.take (s.length - 1))) (s.length - 1) = lend zE (s.take (s.length - 1)) by omega]
  | false =>
   rw [hz, if_neg (by simp)] at el
   rw [Y00 rfl, trim, el, X1e]
 ·have : s = [] := Xj (by omega)
  subst this
  rfl
theorem r_lines (l : List (List Int)) (w h : Nat) (hw : w < 900000) (hh : h < 900000) : Y5i l (w : Int) (h : Int) = some (linesP l w h) := by
 unfold Y5i
 refine Y36 (fun k => (row k (fun i => trim z0 (cellsP (l.getD i []) w)), (k : Int))) (min l.length h) _ (by omega) ?_ ?_
 ·intro loop k hk
  unfold Y4w
  simp only []
  rw [X5, decide_eq_true (show (k : Int) < (l.length : Int) by omega), decide_eq_true (show (k : Int) < (h : Int) by omega), Yw (by omega), r_cells _ _ hw, X8]
  show iter _ _ _ = _
  have hc : (cellsP (l.getD k []) w).length < 900000 := by rw [cellsP, Y02]; omega
  generalize hx : cellsP (l.getD k []) w = x at *
  have key := iter_ind (b := fun loop8 (s : Int) => Y4x loop (row k (fun i => trim z0 (cellsP (l.getD i []) w))) (k : Int) x loop8 s) (fun s => ∃ j : Nat, s = (j : Int) ∧ j ≤ x.length) (fun s => s.toNat) (fun s => loop (row k (fun i => trim z0 (cellsP (l.getD i []) w)) ++ [x.take (lend z0 (x.take s.toNat))], ((k + 1 : Nat) : Int))) (fun loop8 s hs ih => by
   obtain ⟨j, rfl, hj⟩ := hs
   unfold Y4x
   rw [X5]
   cases j with
   | zero =>
    rw [G_imp (fun a => absurd a (by decide)), G_imp (fun a => absurd a (by decide)), Y00 (by simp), Yw (by omega), Y02, Y4s (by omega), Yx (by omega), Y11]
    rfl
   | succ j =>
    rw [cI_pos (inR_of (by omega)), cI_pos (by omega), show ((j + 1 : Nat) : Int) - 1 = (j : Int) by omega, X5, take_snoc x j 0 (by omega), lend_snoc, Y09 (by omega)]
    show cond (z0 (x.getD j 0)) _ _ = _
    cases hz : z0 (x.getD j 0) with
    | true =>
     rw [Y03 rfl, Yx (by omega), ih _ ⟨j, rfl, by omega⟩ (by omega), X5, if_pos rfl]
    | false =>
     rw [Y00 rfl, Yw (by omega), Y02, Y4s (by omega), Yx (by omega), Y11, if_neg (by simp), Xq, show min j x.length + 1 = j + 1 by omega, take_snoc x j 0 (by omega)]) 1000000 (x.length : Int) ⟨x.length, rfl, Xi _⟩ (by omega)
  rw [key, X5, X1e]
  rw [← row_snoc, ← hx]
  rfl
 ·intro loop
  unfold Y4w
  simp only []
  have : cond (decide (((min l.length h : Nat) : Int) < (l.length : Int))) (decide (((min l.length h : Nat) : Int) < (h : Int))) false = false := by
   by_cases e : (((min l.length h : Nat) : Int)) < (l.length : Int)
   ·rw [decide_eq_true e, decide_eq_false (show ¬ (((min l.length h : Nat) : Int)) < (h : Int) by omega)]
    rfl
   ·rw [decide_eq_false e]
    rfl
  rw [Y00 this, r_linesDrop (fun _ => none) _ (by rw [Y02]; omega)]
  rfl
end Go.Proofs.YtbcfmhoaocifoaaDoor
