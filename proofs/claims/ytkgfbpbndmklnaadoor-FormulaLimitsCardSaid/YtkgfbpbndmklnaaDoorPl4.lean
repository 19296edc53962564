/- Own work. -/
import Derived.Test.YtkgfbpbndmklnaaDoorFmX
import Derived.Test.YtkgfbpbndmklnaaDoorLibG
import Derived.Lib.Bytealg
set_option linter.unusedSimpArgs false
set_option linter.unusedVariables false
namespace Go.Abs
def B (l : List UInt8) : ByteArray := ⟨l.toArray⟩
theorem B_inj {a b : List UInt8} (h : B a = B b) : a = b := by
  have := congrArg (fun s : ByteArray => s.data.toList) h
  exact this
theorem B_size (l : List UInt8) : (B l).size = l.length := rfl
theorem B_app (a b : List UInt8) : B a ++ B b = B (a ++ b) := by
  apply WideShapes.bytes_inj
  rw [ByteArray.data_append]
  simp [B]
def toU (l : List Int) : List UInt8 := l.map fun n => UInt8.ofNat n.toNat
theorem strOf_B (l : List Int) : strOf l = B (toU l) := by
  apply WideShapes.bytes_inj
  rw [strOf_data]
  rfl
theorem wrap_u8' {n : Int} (h : 0 ≤ n ∧ n ≤ 255) : IntKind.wrap .u8 n = n := IntWalk.u8_in n h
end Go.Abs
