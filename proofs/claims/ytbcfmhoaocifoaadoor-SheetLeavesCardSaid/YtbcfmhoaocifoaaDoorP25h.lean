/-
 Own work. Chapter 25, plain part: pages are known by their cells; lines of a description; comparisons.
-/
import Derived.Test.YtbcfmhoaocifoaaDoorP25g
set_option linter.unusedSimpArgs false
set_option linter.unusedVariables false
set_option maxRecDepth 10000
set_option linter.unusedSimpArgs false
set_option linter.unusedVariables false
namespace Go.Proofs.YtbcfmhoaocifoaaDoor
open Go.Abs
theorem z0_iff (c : Int) : z0 c = true ↔ c = 0 := beq_iff_eq
theorem zE_iff (l : List Int) : zE l = true ↔ l = [] := by
 unfold zE
 rw [beq_iff_eq]
 constructor
 ·intro h
  exact List.eq_nil_of_length_eq_zero (by omega)
 ·intro h
  rw [h]
  rfl
theorem can_ext {α : Type} {z : α → Bool} {d : α} (hz : ∀ x, z x = true ↔ x = d) {l l' : List α} (h : canL z d l) (h' : canL z d l') (e : ∀ k, l.getD k d = l'.getD k d) : l = l' := by
 have aux : ∀ a b : List α, canL z d b → (∀ k, a.getD k d = b.getD k d) → b.length ≤ a.length := by
  intro a b hb e
  by_cases hl : b.length ≤ a.length
  ·exact hl
  ·have := hb (by omega)
   rw [← e, getD_nil a _ d (by omega), (hz d).2 rfl] at this
   cases this
 refine row_ext d ?_ (fun k _ => e k)
 have := aux l l' h' e
 have := aux l' l h (fun k => (e k).symm)
 omega
theorem trim_getD {α : Type} {z : α → Bool} {d : α} (hz : ∀ x, z x = true ↔ x = d) (l : List α) (k : Nat) : (trim z l).getD k d = l.getD k d := by
 by_cases h : k < lend z l
 ·exact trim_get z l k d h
 ·rw [getD_nil (trim z l) k d (by rw [trim_len]; omega)]
  by_cases h2 : k < l.length
  ·exact ((hz _).1 (lend_in z d l k (by omega) h2)).symm
  ·exact (getD_nil l k d (by omega)).symm
theorem can_nil {α : Type} (z : α → Bool) (d : α) : canL z d [] := fun h => absurd h (by simp)
def canP (p : List (List Int)) : Prop := (∀ i, canL z0 0 (p.getD i [])) ∧ canL zE [] p
theorem page_ext {p q : List (List Int)} (hp : canP p) (hq : canP q) (e : ∀ r c, cellAt p r c = cellAt q r c) : p = q :=
 can_ext zE_iff hp.2 hq.2 fun r => can_ext z0_iff (hp.1 r) (hq.1 r) fun c => e r c
theorem fits_can {p : List (List Int)} {w h : Int} (f : fitsP p w h) : canP p := by
 refine ⟨fun i => ?_, f.2.2⟩
 by_cases hi : i < p.length
 ·exact (f.2.1 i hi).2.1
 ·rw [getD_nil p i [] (by omega)]
  exact can_nil _ _
theorem cellAt_pageOf (u : Nat → Nat → Bool) (w h r c : Nat) : cellAt (pageOf u w h) r c = if r < h ∧ c < w then cells u r c else 0 := by
 unfold cellAt pageOf
 rw [trim_getD zE_iff]
 by_cases hr : r < h
 ·rw [row_get _ _ _ _ hr, lineOf, trim_getD z0_iff]
  by_cases hc : c < w
  ·rw [row_get _ _ _ _ hc, if_pos ⟨hr, hc⟩]
  ·rw [row_get0 _ _ _ _ (by omega), if_neg (fun a => hc a.2)]
 ·rw [row_get0 _ _ _ _ (by omega), if_neg (fun a => hr a.1)]
  rfl
theorem pageOf_line (u : Nat → Nat → Bool) (w h i : Nat) : (pageOf u w h).getD i [] = if i < h then lineOf u w i else [] := by
 unfold pageOf
 rw [trim_getD zE_iff]
 by_cases hr : i < h
 ·rw [row_get _ _ _ _ hr, if_pos hr]
 ·rw [row_get0 _ _ _ _ (by omega), if_neg hr]
theorem lineOf_len (u : Nat → Nat → Bool) (w i : Nat) : (lineOf u w i).length ≤ w := by
 have := lend_le z0 (row w (cells u i))
 rw [row_len] at this
 rw [lineOf, trim_len]
 exact this
theorem pageOf_len (u : Nat → Nat → Bool) (w h : Nat) : (pageOf u w h).length ≤ h := by
 have := lend_le zE (row h (lineOf u w))
 rw [row_len] at this
 rw [pageOf, trim_len]
 exact this
theorem pageOf_fits (u : Nat → Nat → Bool) (w h : Nat) : fitsP (pageOf u w h) (w : Int) (h : Int) := by
 refine ⟨by have := pageOf_len u w h; omega, fun i hi => ?_, trim_can _ _ _⟩
 have hh : i < h := by have := pageOf_len u w h; omega
 rw [pageOf_line, if_pos hh]
 refine ⟨by have := lineOf_len u w i; omega, trim_can _ _ _, fun k hk => ?_⟩
 have := lineOf_len u w i
 rw [lineOf, trim_getD z0_iff, row_get _ _ _ _ (by omega)]
 exact (cellOf_range _).2
theorem pageOf_can (u : Nat → Nat → Bool) (w h : Nat) : canP (pageOf u w h) := fits_can (pageOf_fits u w h)
theorem pageOf_short (u : Nat → Nat → Bool) (w h : Nat) (hw : w < 900000) (hh : h < 900000) : shortP (pageOf u w h) := by
 refine ⟨by have := pageOf_len u w h; omega, fun i => ?_⟩
 rw [pageOf_line]
 by_cases e : i < h
 ·rw [if_pos e]
  have := lineOf_len u w i
  omega
 ·rw [if_neg e]
  simp
theorem dot_pageOf (u : Nat → Nat → Bool) (w h y x : Nat) (hy : y < 3 * h) (hx : x < 2 * w) : dot (pageOf u w h) y x = u y x := by
 unfold dot
 rw [cellAt_pageOf, if_pos ⟨by omega, by omega⟩, cells, bit_cellOf _ _ (by omega)]
 rw [show 3 * (y / 3) + (x % 2 * 3 + y % 3) % 3 = y by omega, show 2 * (x / 2) + (x % 2 * 3 + y % 3) / 3 = x by omega]
def posP (p : List (List Int)) : Prop := ∀ r c, 0 ≤ cellAt p r c
theorem cells_dot (p : List (List Int)) (r c : Nat) (h : 0 ≤ cellAt p r c ∧ cellAt p r c < 64) : cells (dot p) r c = cellAt p r c := by
 unfold cells cellOf
 rw [cellU_congr 6 (fun k hk => dot_at p r c k hk)]
 exact cellOf_bit _ h
theorem fits_cell {p : List (List Int)} {w h : Nat} (f : fitsP p (w : Int) (h : Int)) (r c : Nat) : cellAt p r c < 64 ∧ (¬ (r < h ∧ c < w) → cellAt p r c = 0) := by
 have hl := f.1
 by_cases hr : r < p.length
 ·have := f.2.1 r hr
  by_cases hc : c < (p.getD r []).length
  ·refine ⟨this.2.2 c hc, fun a => absurd ⟨by omega, by have := this.1; omega⟩ a⟩
  ·have := cell_far2 p r c (by omega)
   exact ⟨by omega, fun _ => this⟩
 ·have := cell_far1 p r c (by omega)
  exact ⟨by omega, fun _ => this⟩
theorem pageOf_dot {p : List (List Int)} {w h : Nat} (f : fitsP p (w : Int) (h : Int)) (hp : posP p) : pageOf (dot p) w h = p := by
 refine page_ext (pageOf_can _ _ _) (fits_can f) fun r c => ?_
 rw [cellAt_pageOf]
 by_cases e : r < h ∧ c < w
 ·rw [if_pos e, cells_dot _ _ _ ⟨hp r c, (fits_cell f r c).1⟩]
 ·rw [if_neg e, (fits_cell f r c).2 e]
theorem pageOf_congr {u v : Nat → Nat → Bool} {w h : Nat} (e : ∀ y x, y < 3 * h → x < 2 * w → u y x = v y x) : pageOf u w h = pageOf v w h := by
 refine page_ext (pageOf_can _ _ _) (pageOf_can _ _ _) fun r c => ?_
 rw [cellAt_pageOf, cellAt_pageOf]
 by_cases a : r < h ∧ c < w
 ·rw [if_pos a, if_pos a]
  exact cellU_congr 6 fun k hk => e _ _ (by omega) (by omega)
 ·rw [if_neg a, if_neg a]
theorem pageOf_inj {u v : Nat → Nat → Bool} {w h : Nat} (e : pageOf u w h = pageOf v w h) (y x : Nat) (hy : y < 3 * h) (hx : x < 2 * w) : u y x = v y x := by
 rw [← dot_pageOf u w h y x hy hx, e, dot_pageOf v w h y x hy hx]
/-! Comparisons. -/
theorem ext_iff {α : Type} [DecidableEq α] (a b : List α) (d : α) (hl : a.length = b.length) : (∀ k, k < a.length → a.getD k d = b.getD k d) ↔ a = b :=
 ⟨fun h => row_ext d hl h, fun h => by subst h; exact fun _ _ => rfl⟩
theorem ite_dec {p : Prop} [Decidable p] : (if p then some true else some false) = some (decide p) := by
 by_cases h : p
 ·rw [if_pos h, decide_eq_true h]
 ·rw [if_neg h, decide_eq_false h]
theorem r_same (a b : List Int) (h : a.length < 900000) : f_R01_Same a b = some (decide (a = b)) := by
 unfold f_R01_Same
 by_cases hl : a.length = b.length
 ·rw [cn_neg (by omega), loop_allO a.length (fun k => a.getD k 0 = b.getD k 0) (some true) (some false) h, ite_dec]
  ·congr 1
   rw [decide_eq_decide]
   exact ext_iff a b 0 hl
  ·intro loop k hk
   unfold f_R01_Same_b1
   rw [Int.toNat_natCast, cd_pos (by omega), G_pos (by omega), G_pos (by omega)]
   by_cases e : a.getD k 0 = b.getD k 0
   ·rw [cn_neg e, if_pos e, G_inR (by omega), natAdd1]
   ·rw [cn_pos e, if_neg e]
  ·intro loop
   unfold f_R01_Same_b1
   rw [cd_neg (by omega)]
 ·rw [cn_pos (by omega), decide_eq_false (fun e => hl (by rw [e]))]
theorem r_samePage (p q : List (List Int)) (h : shortP p) : f_R25_SamePage p q = some (decide (p = q)) := by
 have h1 := h.1
 unfold f_R25_SamePage
 by_cases hl : p.length = q.length
 ·rw [cn_neg (by omega), loop_allO p.length (fun k => p.getD k [] = q.getD k []) (some true) (some false) h1, ite_dec]
  ·congr 1
   rw [decide_eq_decide]
   exact ext_iff p q [] hl
  ·intro loop k hk
   unfold f_R25_SamePage_b1
   rw [Int.toNat_natCast, cd_pos (by omega), G_pos (by omega), G_pos (by omega), r_same _ _ (h.2 k), Option.bind_some]
   by_cases e : p.getD k [] = q.getD k []
   ·rw [decide_eq_true e, if_pos e, G_inR (by omega), natAdd1]
    rfl
   ·rw [decide_eq_false e, if_neg e]
    rfl
  ·intro loop
   unfold f_R25_SamePage_b1
   rw [cd_neg (by omega)]
 ·rw [cn_pos (by omega), decide_eq_false (fun e => hl (by rw [e]))]
/-! Lines of a description. -/
def cellsP (l : List Int) (w : Nat) : List Int := row (min l.length w) fun i => Int.tmod (l.getD i 0) 64
def linesP (l : List (List Int)) (w h : Nat) : List (List Int) := trim zE (row (min l.length h) fun i => trim z0 (cellsP (l.getD i []) w))
theorem r_cells (l : List Int) (w : Nat) (h : w < 900000) : f_R01_Cells l (w : Int) = some (cellsP l w) := by
 unfold f_R01_Cells
 refine loop_up (fun k => (row k (fun i => Int.tmod (l.getD i 0) 64), (k : Int))) (min l.length w) _ (by omega) ?_ ?_
 ·intro loop k hk
  unfold f_R01_Cells_b1
  simp only []
  rw [Int.toNat_natCast, decide_eq_true (show (k : Int) < (l.length : Int) by omega), decide_eq_true (show (k : Int) < (w : Int) by omega), row_len, G_pos (by omega), G_room (by omega), G_inR (by omega), natAdd1, row_snoc k (fun i => Int.tmod (l.getD i 0) 64)]
  rfl
 ·intro loop
  unfold f_R01_Cells_b1
  simp only []
  by_cases e : (((min l.length w : Nat) : Int)) < (l.length : Int)
  ·rw [decide_eq_true e, decide_eq_false (show ¬ (((min l.length w : Nat) : Int)) < (w : Int) by omega)]
   rfl
  ·rw [decide_eq_false e]
   rfl
theorem r_linesDrop (loop17 : List (List Int) → Option (List (List Int))) : ∀ v : List (List Int), v.length < 900000 → iter (fun loop (s : List (List Int)) => f_R25_lines_b2 loop s) 1000000 v = some (trim zE v) := by
 intro v hv
 refine iter_ind (b := fun loop (s : List (List Int)) => f_R25_lines_b2 loop s) (fun s => s.length < 900000) (fun s => s.length) (fun s => some (trim zE s)) ?_ 1000000 v hv (by omega)
 intro loop s hs ih
 unfold f_R25_lines_b2
 rw [cI_pos (inR_of (by omega)), G_imp (fun a => by have := of_decide_eq_true a; omega)]
 by_cases h0 : 0 < s.length
 ·have e1 : ((s.length : Int) - 1).toNat = s.length - 1 := by omega
  rw [cd_pos (by omega), e1]
  have es : s = s.take (s.length - 1) ++ [s.getD (s.length - 1) []] := by
   have := take_snoc s (s.length - 1) [] (by omega)
   rw [show s.length - 1 + 1 = s.length by omega, List.take_length] at this
   exact this
  have el : lend zE s = if zE (s.getD (s.length - 1) []) then lend zE (s.take (s.length - 1)) else s.length := by
   have := lend_snoc zE (s.getD (s.length - 1) []) (s.take (s.length - 1))
   rw [← es, List.length_take, show min (s.length - 1) s.length + 1 = s.length by omega] at this
   exact this
  show cond (zE (s.getD (s.length - 1) [])) _ _ = _
  cases hz : zE (s.getD (s.length - 1) []) with
  | true =>
   rw [cond_pos rfl, G_inR (by omega), G_pos (by omega)]
   rw [ih (s.take (s.length - 1)) (by rw [List.length_take]; omega) (by rw [List.length_take]; omega)]
   rw [hz, if_pos rfl] at el
   have := lend_le zE (s.take (s.length - 1))
   rw [List.length_take] at this
   rw [trim, trim, el, List.take_take, show min (lend zE (s.take (s.length - 1))) (s.length - 1) = lend zE (s.take (s.length - 1)) by omega]
  | false =>
   rw [hz, if_neg (by simp)] at el
   rw [cond_neg rfl, trim, el, List.take_length]
 ·have : s = [] := List.eq_nil_of_length_eq_zero (by omega)
  subst this
  rfl
theorem r_lines (l : List (List Int)) (w h : Nat) (hw : w < 900000) (hh : h < 900000) : f_R25_lines l (w : Int) (h : Int) = some (linesP l w h) := by
 unfold f_R25_lines
 refine loop_up (fun k => (row k (fun i => trim z0 (cellsP (l.getD i []) w)), (k : Int))) (min l.length h) _ (by omega) ?_ ?_
 ·intro loop k hk
  unfold f_R25_lines_b3
  simp only []
  rw [Int.toNat_natCast, decide_eq_true (show (k : Int) < (l.length : Int) by omega), decide_eq_true (show (k : Int) < (h : Int) by omega), G_pos (by omega), r_cells _ _ hw, Option.bind_some]
  show iter _ _ _ = _
  have hc : (cellsP (l.getD k []) w).length < 900000 := by rw [cellsP, row_len]; omega
  generalize hx : cellsP (l.getD k []) w = x at *
  have key := iter_ind (b := fun loop8 (s : Int) => f_R25_lines_b1 loop (row k (fun i => trim z0 (cellsP (l.getD i []) w))) (k : Int) x loop8 s) (fun s => ∃ j : Nat, s = (j : Int) ∧ j ≤ x.length) (fun s => s.toNat) (fun s => loop (row k (fun i => trim z0 (cellsP (l.getD i []) w)) ++ [x.take (lend z0 (x.take s.toNat))], ((k + 1 : Nat) : Int))) (fun loop8 s hs ih => by
   obtain ⟨j, rfl, hj⟩ := hs
   unfold f_R25_lines_b1
   rw [Int.toNat_natCast]
   cases j with
   | zero =>
    rw [G_imp (fun a => absurd a (by decide)), G_imp (fun a => absurd a (by decide)), cond_neg (by simp), G_pos (by omega), row_len, G_room (by omega), G_inR (by omega), natAdd1]
    rfl
   | succ j =>
    rw [cI_pos (inR_of (by omega)), cI_pos (by omega), show ((j + 1 : Nat) : Int) - 1 = (j : Int) by omega, Int.toNat_natCast, take_snoc x j 0 (by omega), lend_snoc, cd_pos (by omega)]
    show cond (z0 (x.getD j 0)) _ _ = _
    cases hz : z0 (x.getD j 0) with
    | true =>
     rw [cond_pos rfl, G_inR (by omega), ih _ ⟨j, rfl, by omega⟩ (by omega), Int.toNat_natCast, if_pos rfl]
    | false =>
     rw [cond_neg rfl, G_pos (by omega), row_len, G_room (by omega), G_inR (by omega), natAdd1, if_neg (by simp), List.length_take, show min j x.length + 1 = j + 1 by omega, take_snoc x j 0 (by omega)]) 1000000 (x.length : Int) ⟨x.length, rfl, Nat.le_refl _⟩ (by omega)
  rw [key, Int.toNat_natCast, List.take_length]
  rw [← row_snoc, ← hx]
  rfl
 ·intro loop
  unfold f_R25_lines_b3
  simp only []
  have : cond (decide (((min l.length h : Nat) : Int) < (l.length : Int))) (decide (((min l.length h : Nat) : Int) < (h : Int))) false = false := by
   by_cases e : (((min l.length h : Nat) : Int)) < (l.length : Int)
   ·rw [decide_eq_true e, decide_eq_false (show ¬ (((min l.length h : Nat) : Int)) < (h : Int) by omega)]
    rfl
   ·rw [decide_eq_false e]
    rfl
  rw [cond_neg this, r_linesDrop (fun _ => none) _ (by rw [row_len]; omega)]
  rfl
end Go.Proofs.YtbcfmhoaocifoaaDoor
