/-
  Own work. Numbers, plain part: all results, for all arguments; the laws NumberMatchesReference and NumberReads.
-/
import Derived.Test.YtdegmbjhedfffaaDoorPNf
set_option linter.unusedSimpArgs false
set_option linter.unusedVariables false
set_option maxRecDepth 100000
set_option linter.unusedSimpArgs false
set_option linter.unusedVariables false
namespace Go.Proofs.YtdegmbjhedfffaaDoor
open Go.Abs
def writeS (n : Int) : List Int × Int := if 0 ≤ n ∧ n ≤ 99999 then (wr n.toNat, 0) else ([], 190)
theorem writeS_pos {n : Int} (h : 0 ≤ n ∧ n ≤ 99999) : writeS n = (wr n.toNat, 0) := if_pos h
theorem writeS_neg {n : Int} (h : ¬ (0 ≤ n ∧ n ≤ 99999)) : writeS n = ([], 190) := if_neg h
theorem n_write (n : Int) : f_number_Write n = some (writeS n) := by
  by_cases h : 0 ≤ n ∧ n ≤ 99999
  · rw [writeS_pos h]
    have := f_write n.toNat (by omega)
    rw [show ((n.toNat : Nat) : Int) = n from by omega] at this
    exact this
  · rw [writeS_neg h, f_write_bad n (by omega)]
theorem r_write (n : Int) : f_R19_Write n = some (writeS n) := by
  by_cases h : 0 ≤ n ∧ n ≤ 99999
  · rw [writeS_pos h]
    have := f_refWrite n.toNat (by omega)
    rw [show ((n.toNat : Nat) : Int) = n from by omega] at this
    exact this
  · rw [writeS_neg h, f_refWrite_bad n (by omega)]
theorem writeS_len (n : Int) : (writeS n).1.length ≤ 6 := by
  unfold writeS; split
  · exact (wr_len _).2
  · simp
theorem same_self (l : List Int) (h : l.length < 900000) : f_R01_Same l l = some true := by
  rw [f_same l l h]; simp
theorem cells_loop (t : List Int) (m : Nat) (hm : m < 100000) : ∀ (n i : Nat), m < n + i → i ≤ t.length → i ≤ m →
    iter (fun loop (s : (List Int) × Int) => f_R01_Cells_b1 t (m : Int) loop s.1 s.2) n ((t.take i).map (Int.tmod · 64), (i : Int)) = some ((t.take m).map (Int.tmod · 64))
  | 0, i, h1, h2, h3 => by omega
  | n + 1, i, h1, h2, h3 => by
    rw [iter_succ, f_R01_Cells_b1]
    dsimp only
    by_cases hi : i < t.length ∧ i < m
    · have ih := cells_loop t m hm n (i + 1) (by omega) (by omega) (by omega)
      rw [take_stepI t i hi.1, List.map_append, List.map_singleton] at ih
      rw [cond_pos (by rw [and_tt]; simp; omega), G_pos (by omega), G_room (by simp; omega), G_inR (by omega), Int.toNat_natCast]
      exact ih
    · rw [cond_neg (by rw [and_tt]; simp; omega)]
      by_cases h : i = m
      · rw [h]
      · rw [List.take_of_length_le (by omega), List.take_of_length_le (by omega)]
theorem f_cells (t : List Int) (m : Nat) (hm : m < 100000) : f_R01_Cells t (m : Int) = some ((t.take m).map (Int.tmod · 64)) := by
  have := cells_loop t m hm 1000000 0 (by omega) (by omega) (by omega)
  exact this
end Go.Proofs.YtdegmbjhedfffaaDoor
