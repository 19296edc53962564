/-
  Own work. internal/stringslite.IndexByte, by the kit's shelf.
-/
import Derived.Shelf.Strings.Search1
import Derived.Test.YtlhpkjgpcenfdaaDoorGen10
import Derived.Test.YtlhpkjgpcenfdaaDoorChecked
import Derived.Test.YtlhpkjgpcenfdaaDoorLayP
set_option linter.unusedSimpArgs false
set_option linter.unusedVariables false
namespace Go.Proofs.YtlhpkjgpcenfdaaDoor
open Go.Shelf Go.Abs Go.RowKit
def f_IndexByte (s : ByteArray) (c : Int) : Option Int := some (Lib.indexByte s.data.toList c.toNat.toUInt8)
theorem f_IndexByte_ok {s : ByteArray} {c : Int} {r : Int} (H : f_IndexByte s c = some r) : QSpec Tryd.prog 73 [.string s, .int .u8 c] (.int .i64 r) := by
  unfold f_IndexByte at H
  obtain rfl := Option.some.inj H
  refine QSpec.of_calls fun w ι B vs hg hv => ?_
  simp only [VRL] at hv
  obtain ⟨v1, l1, rfl, h1, v2, l2, rfl, h2, rfl⟩ := hv
  rw [VR.val_iff] at h1 h2
  subst h1 h2
  refine (Any.stringslite_IndexByte Tryd.lays217 s c w).mono ?_
  rintro e w' ⟨rfl, rfl⟩
  exact ⟨rfl, Below.refl _ _⟩
end Go.Proofs.YtlhpkjgpcenfdaaDoor
