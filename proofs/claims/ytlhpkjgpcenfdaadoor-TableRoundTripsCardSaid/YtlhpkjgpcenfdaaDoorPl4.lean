/-
  Own work. Strings as lists of bytes, for the laws' plain part.
-/
import Derived.Test.YtlhpkjgpcenfdaaDoorPl3
import Derived.Test.YtlhpkjgpcenfdaaDoorLibC
import Derived.Lib.Bytealg
set_option linter.unusedSimpArgs false
set_option linter.unusedVariables false
set_option linter.unusedSimpArgs false
set_option linter.unusedVariables false
namespace Go.Abs
def B (l : List UInt8) : ByteArray := ⟨l.toArray⟩
theorem B_data (l : List UInt8) : (B l).data.toList = l := rfl
theorem B_size (l : List UInt8) : (B l).size = l.length := rfl
theorem B_app (a b : List UInt8) : B a ++ B b = B (a ++ b) := by
  apply WideShapes.bytes_inj
  rw [ByteArray.data_append]
  simp [B]
theorem B_at (l : List UInt8) (k : Nat) : bAt (B l) (k : Int) = ((l.getD k 0).toNat : Int) := rfl
theorem B_extract (l : List UInt8) (a b : Nat) : (B l).extract a b = B ((l.drop a).take (b - a)) := by
  apply WideShapes.bytes_inj
  rw [ByteArray.data_extract, Array.toList_extract]
  rfl
theorem B_beq (a b : List UInt8) : ((B a).toList == (B b).toList) = decide (a = b) := by
  rw [toList_data, toList_data, B_data, B_data, Bool.eq_iff_iff]
  simp
def lnt (l : List UInt8) : List Int := l.map fun b => ((b.toNat : Nat) : Int)
def toU (l : List Int) : List UInt8 := l.map fun n => UInt8.ofNat n.toNat
theorem lnt_len (l : List UInt8) : (lnt l).length = l.length := by simp [lnt]
theorem lnt_app (a b : List UInt8) : lnt (a ++ b) = lnt a ++ lnt b := by simp [lnt]
theorem bytesOf_B (l : List UInt8) : bytesOf (B l) = lnt l := rfl
theorem strOf_B (l : List Int) : strOf l = B (toU l) := by
  apply WideShapes.bytes_inj
  rw [strOf_data]
  rfl
theorem toU_lnt (l : List UInt8) : toU (lnt l) = l := by
  unfold toU lnt
  rw [List.map_map]
  conv => rhs; rw [← List.map_id l]
  apply List.map_congr_left
  intro b _
  simp
theorem strOf_lnt (l : List UInt8) : strOf (lnt l) = B l := by rw [strOf_B, toU_lnt]
theorem lnt_bytes (l : List UInt8) : ((lnt l).all fun n => decide (0 ≤ n) && decide (n < 256)) = true := by
  rw [List.all_eq_true]
  intro n hn
  obtain ⟨b, _, rfl⟩ := List.mem_map.1 hn
  have := b.toNat_lt
  simp
  omega
theorem indexByte_mid (c : UInt8) (b : List UInt8) : ∀ a : List UInt8, c ∉ a → Lib.indexByte (a ++ c :: b) c = (a.length : Int)
  | [], _ => by simp [Lib.indexByte]
  | x :: a, h => by
    rw [List.mem_cons, not_or] at h
    have ih := indexByte_mid c b a h.2
    rw [List.cons_append, Lib.indexByte, ih]
    have e : (x == c) = false := by rw [beq_eq_false_iff_ne]; exact fun e => h.1 e.symm
    rw [e, if_neg (by simp), if_neg (by rw [beq_iff_eq]; omega)]
    simp
theorem indexByte_no (c : UInt8) : ∀ a : List UInt8, c ∉ a → Lib.indexByte a c = -1
  | [], _ => rfl
  | x :: a, h => by
    rw [List.mem_cons, not_or] at h
    have ih := indexByte_no c a h.2
    rw [Lib.indexByte, ih]
    have e : (x == c) = false := by rw [beq_eq_false_iff_ne]; exact fun e => h.1 e.symm
    rw [e, if_neg (by simp)]
    rfl
theorem wrap_u8' {n : Int} (h : 0 ≤ n ∧ n ≤ 255) : IntKind.wrap .u8 n = n := IntWalk.u8_in n h
end Go.Abs
