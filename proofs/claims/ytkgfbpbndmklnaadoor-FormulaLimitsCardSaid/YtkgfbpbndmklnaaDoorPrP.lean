/- Own work. -/
import Derived.Test.YtkgfbpbndmklnaaDoorPrC
import Derived.Test.YtkgfbpbndmklnaaDoorW1
set_option linter.unusedSimpArgs false
set_option linter.unusedVariables false
namespace Go.Proofs.YtkgfbpbndmklnaaDoor
open Go.Abs
def toN (a : Int × Int) : Y4 := ⟨a.1, a.2⟩
def Y31 (t0 : ByteArray) : Option (List Y4 × Int × Int) := G (t0.size ≤ 1000000) <| some ((mParse t0).1.map toN, (mParse t0).2.1, (mParse t0).2.2)
theorem nodeI_map : ∀ l : List (Int × Int), (l.map toN).flatMap Y3 = l.flatMap nodeI
 | [] => rfl
 | a :: l => by rw [Xp, Xq, Xq, nodeI_map l]; rfl
theorem f_formula_Parse_ok {t0 : ByteArray} {r : List Y4 × Int × Int} (H : Y31 t0 = some r) : QSpec Tryd.prog 16 [.string t0] (.tup [slA Y3 r.1, .int .i64 r.2.1, .int .i64 r.2.2]) := by
 unfold Y31 at H
 obtain ⟨h, H⟩ := Yt H
 obtain rfl := X7 H
 have := q_Parse h
 simp only [slA, nodeI_map, X02] at this ⊢
 exact this
end Go.Proofs.YtkgfbpbndmklnaaDoor
