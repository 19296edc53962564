/-
  Own work. Chapter 25, plain part: descriptions; the laws SheetReads and SheetMatchesReference.
-/
import Derived.Test.YtbcfmhoaocifoaaDoorP25h
import Derived.Test.YtbcfmhoaocifoaaDoorSh
set_option linter.unusedSimpArgs false
set_option linter.unusedVariables false
set_option maxRecDepth 10000
set_option linter.unusedSimpArgs false
set_option linter.unusedVariables false
namespace Go.Proofs.YtbcfmhoaocifoaaDoor
open Go.Abs
def fW (x : S_Raw) : Nat := 24 + x.W.toNat % 7
def fH (x : S_Raw) : Nat := 4 + x.H.toNat % 5
theorem fW_in (x : S_Raw) : 24 ≤ fW x ∧ fW x ≤ 30 := by unfold fW; omega
theorem fH_in (x : S_Raw) : 4 ≤ fH x ∧ fH x ≤ 8 := by unfold fH; omega
theorem r_format {x : S_Raw} (k : okS_Raw x) : f_R25_Format x = some ⟨(fW x : Int), (fH x : Int), 1⟩ := by
  obtain ⟨⟨a, b⟩, ⟨c, d⟩, _⟩ := k
  have e1 : Int.tmod x.W 7 = ((x.W.toNat % 7 : Nat) : Int) := by rw [Int.tmod_eq_emod_of_nonneg a]; omega
  have e2 : Int.tmod x.H 5 = ((x.H.toNat % 5 : Nat) : Int) := by rw [Int.tmod_eq_emod_of_nonneg c]; omega
  unfold f_R25_Format
  rw [e1, e2, wrap_i64 (by omega), wrap_i64 (by omega), G_inR (by omega), G_inR (by omega), show (24 : Int) + ((x.W.toNat % 7 : Nat) : Int) = (fW x : Int) by unfold fW; omega, show (4 : Int) + ((x.H.toNat % 5 : Nat) : Int) = (fH x : Int) by unfold fH; omega]
theorem getD_in {α : Type} (l : List α) (i : Nat) (d : α) (h : i < l.length) : l.getD i d ∈ l := by
  rw [List.getD_eq_getElem?_getD, List.getElem?_eq_getElem h]
  exact List.getElem_mem h
theorem okWH_of (w h : Nat) (hw : 24 ≤ w ∧ w ≤ 60) (hh : 4 ≤ h ∧ h ≤ 40) : okWH (2 * w) (3 * h) := ⟨by omega, by omega, by omega, by omega, by omega, by omega⟩
end Go.Proofs.YtbcfmhoaocifoaaDoor
