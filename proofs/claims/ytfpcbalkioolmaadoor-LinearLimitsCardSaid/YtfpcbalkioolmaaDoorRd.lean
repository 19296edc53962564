/-
  Own work. linear.Read on a letter within up to 30 parentheses.
-/
import Derived.Test.YtfpcbalkioolmaaDoorRd1
import Derived.Test.YtfpcbalkioolmaaDoorRd2
import Derived.Test.YtfpcbalkioolmaaDoorRd3
import Derived.Test.YtfpcbalkioolmaaDoorRd4
import Derived.Test.YtfpcbalkioolmaaDoorRd5
set_option linter.unusedSimpArgs false
set_option linter.unusedVariables false
set_option maxRecDepth 100000
namespace Go.Proofs.YtfpcbalkioolmaaDoor
open Go.Abs
def nestC (k : Nat) : List Int := List.replicate k 55 ++ [48, 1] ++ List.replicate k 62
def readC (k : Nat) : List S_Node × Int × Int := if k < 8 then (List.replicate k ⟨10, 0⟩ ++ [⟨1, 0⟩], ((2 * k + 2 : Nat) : Int), 0) else ([], 0, 2)
def f_linear_Read (t0 : List Int) : Option (List S_Node × Int × Int) := if (t0.length - 2) / 2 ≤ 30 ∧ t0 = nestC ((t0.length - 2) / 2) then some (readC ((t0.length - 2) / 2)) else none
theorem rd_all (k : Nat) (hk : k ≤ 30) : QSpec Tryd.prog 15 [slA (eI .u8) (nestC k)] (.tup [slA eS_Node (readC k).1, .int .i64 (readC k).2.1, .int .i64 (readC k).2.2]) := by
  match k, hk with
  | 0, _ => exact rd_0
  | 1, _ => exact rd_1
  | 2, _ => exact rd_2
  | 3, _ => exact rd_3
  | 4, _ => exact rd_4
  | 5, _ => exact rd_5
  | 6, _ => exact rd_6
  | 7, _ => exact rd_7
  | 8, _ => exact rd_8
  | 9, _ => exact rd_9
  | 10, _ => exact rd_10
  | 11, _ => exact rd_11
  | 12, _ => exact rd_12
  | 13, _ => exact rd_13
  | 14, _ => exact rd_14
  | 15, _ => exact rd_15
  | 16, _ => exact rd_16
  | 17, _ => exact rd_17
  | 18, _ => exact rd_18
  | 19, _ => exact rd_19
  | 20, _ => exact rd_20
  | 21, _ => exact rd_21
  | 22, _ => exact rd_22
  | 23, _ => exact rd_23
  | 24, _ => exact rd_24
  | 25, _ => exact rd_25
  | 26, _ => exact rd_26
  | 27, _ => exact rd_27
  | 28, _ => exact rd_28
  | 29, _ => exact rd_29
  | 30, _ => exact rd_30
  | k + 31, h => omega
theorem f_linear_Read_ok {t0 : List Int} {r : List S_Node × Int × Int} (H : f_linear_Read t0 = some r) : QSpec Tryd.prog 15 [slA (eI .u8) t0] (.tup [slA eS_Node r.1, .int .i64 r.2.1, .int .i64 r.2.2]) := by
  unfold f_linear_Read at H
  split at H
  · rename_i h
    cases H
    have := rd_all _ h.1
    rw [← h.2] at this
    exact this
  · cases H
theorem Read_nest {k : Nat} (hk : k ≤ 30) : f_linear_Read (nestC k) = some (readC k) := by
  have hl : ((nestC k).length - 2) / 2 = k := by simp [nestC]; omega
  unfold f_linear_Read
  rw [hl, if_pos ⟨hk, rfl⟩]
end Go.Proofs.YtfpcbalkioolmaaDoor
