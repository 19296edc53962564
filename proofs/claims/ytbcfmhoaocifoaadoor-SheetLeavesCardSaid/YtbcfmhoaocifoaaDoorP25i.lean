/-
 Own work. Chapter 25, plain part: descriptions; the laws SheetReads and SheetMatchesReference.
-/
import Derived.Test.YtbcfmhoaocifoaaDoorP25h
import Derived.Test.YtbcfmhoaocifoaaDoorSh
set_option linter.unusedSimpArgs false
set_option linter.unusedVariables false
set_option maxRecDepth 10000
set_option linter.unusedSimpArgs false
set_option linter.unusedVariables false
namespace Go.Proofs.YtbcfmhoaocifoaaDoor
open Go.Abs
def fW (x : S_Raw) : Nat := 24 + x.W.toNat % 7
def fH (x : S_Raw) : Nat := 4 + x.H.toNat % 5
theorem fW_in (x : S_Raw) : 24 ≤ fW x ∧ fW x ≤ 30 := by unfold fW; omega
theorem fH_in (x : S_Raw) : 4 ≤ fH x ∧ fH x ≤ 8 := by unfold fH; omega
theorem r_format {x : S_Raw} (k : okS_Raw x) : f_R25_Format x = some ⟨(fW x : Int), (fH x : Int), 1⟩ := by
 obtain ⟨⟨a, b⟩, ⟨c, d⟩, _⟩ := k
 have e1 : Int.tmod x.W 7 = ((x.W.toNat % 7 : Nat) : Int) := by rw [Int.tmod_eq_emod_of_nonneg a]; omega
 have e2 : Int.tmod x.H 5 = ((x.H.toNat % 5 : Nat) : Int) := by rw [Int.tmod_eq_emod_of_nonneg c]; omega
 unfold f_R25_Format
 rw [e1, e2, wrap_i64 (by omega), wrap_i64 (by omega), G_inR (by omega), G_inR (by omega), show (24 : Int) + ((x.W.toNat % 7 : Nat) : Int) = (fW x : Int) by unfold fW; omega, show (4 : Int) + ((x.H.toNat % 5 : Nat) : Int) = (fH x : Int) by unfold fH; omega]
theorem getD_in {α : Type} (l : List α) (i : Nat) (d : α) (h : i < l.length) : l.getD i d ∈ l := by
 rw [List.getD_eq_getElem?_getD, List.getElem?_eq_getElem h]
 exact List.getElem_mem h
theorem ok_cell {l : List (List Int)} (k : okList (okList (okInt .u8)) l) (r c : Nat) : 0 ≤ (l.getD r []).getD c 0 ∧ (l.getD r []).getD c 0 ≤ 255 := by
 by_cases hr : r < l.length
 ·by_cases hc : c < (l.getD r []).length
  ·exact (k.1 _ (getD_in l r [] hr)).1 _ (getD_in _ c 0 hc)
  ·rw [getD_nil _ c 0 (by omega)]
   omega
 ·rw [getD_nil l r [] (by omega)]
  simp
theorem linesP_line (l : List (List Int)) (w h i : Nat) : (linesP l w h).getD i [] = if i < min l.length h then trim z0 (cellsP (l.getD i []) w) else [] := by
 unfold linesP
 rw [trim_getD zE_iff]
 by_cases e : i < min l.length h
 ·rw [row_get _ _ _ _ e, if_pos e]
 ·rw [row_get0 _ _ _ _ (by omega), if_neg e]
theorem linesP_len (l : List (List Int)) (w h : Nat) : (linesP l w h).length ≤ min l.length h := by
 have := lend_le zE (row (min l.length h) fun i => trim z0 (cellsP (l.getD i []) w))
 rw [row_len] at this
 rw [linesP, trim_len]
 exact this
theorem cellsP_len (l : List Int) (w : Nat) : (trim z0 (cellsP l w)).length ≤ w := by
 have := lend_le z0 (cellsP l w)
 rw [trim_len]
 rw [cellsP, row_len] at this
 rw [cellsP]
 omega
theorem linesP_fits (l : List (List Int)) (w h : Nat) : fitsP (linesP l w h) (w : Int) (h : Int) := by
 have hl := linesP_len l w h
 refine ⟨by omega, fun i hi => ?_, trim_can _ _ _⟩
 rw [linesP_line, if_pos (by omega)]
 refine ⟨by have := cellsP_len (l.getD i []) w; omega, trim_can _ _ _, fun k hk => ?_⟩
 rw [trim_getD z0_iff]
 have hm : ∀ n : Int, Int.tmod n 64 < 64 := fun n => Int.tmod_lt_of_pos n (by omega)
 unfold cellsP
 by_cases e : k < min (l.getD i []).length w
 ·rw [row_get _ _ _ _ e]
  exact hm _
 ·rw [row_get0 _ _ _ _ (by omega)]
  omega
theorem linesP_pos {l : List (List Int)} (k : okList (okList (okInt .u8)) l) (w h : Nat) : posP (linesP l w h) := by
 intro r c
 unfold cellAt
 rw [linesP_line]
 split
 ·rw [trim_getD z0_iff]
  unfold cellsP
  by_cases e : c < min (l.getD r []).length w
  ·rw [row_get _ _ _ _ e]
   have := (ok_cell k r c).1
   rw [Int.tmod_eq_emod_of_nonneg this]
   omega
  ·rw [row_get0 _ _ _ _ (by omega)]
   exact Int.le_refl _
 ·exact Int.le_refl _
theorem fits_short {p : List (List Int)} {w h : Int} (f : fitsP p w h) (hw : w < 900000) (hh : h < 900000) : shortP p := by
 refine ⟨by have := f.1; omega, fun i => ?_⟩
 by_cases hi : i < p.length
 ·have := (f.2.1 i hi).1
  omega
 ·rw [getD_nil p i [] (by omega)]
  simp
theorem okWH_of (w h : Nat) (hw : 24 ≤ w ∧ w ≤ 60) (hh : 4 ≤ h ∧ h ≤ 40) : okWH (2 * w) (3 * h) := ⟨by omega, by omega, by omega, by omega, by omega, by omega⟩
theorem pressP_ok (l : S_Leaf) (w h : Nat) (b : Int) (hw : 24 ≤ w ∧ w ≤ 60) (hh : 4 ≤ h ∧ h ≤ 40) (f1 : fitsP l.Front w h) (f2 : fitsP l.Back w h) : pressP l ⟨(w : Int), (h : Int), b⟩ = (plateOf l w h, 0) := by
 unfold pressP
 rw [if_pos (show sizeOk (w : Int) (h : Int) from ⟨by omega, by omega, by omega, by omega⟩), if_pos ⟨f1, f2⟩, Int.toNat_natCast, Int.toNat_natCast]
def shortLeaf (l : S_Leaf) : Prop := shortP l.Front ∧ shortP l.Back
end Go.Proofs.YtbcfmhoaocifoaaDoor
