/-
  Written by lawgen.py (own work): the arguments of the laws as typed values.
-/
import Derived.Test.YtfpcbalkioolmaaDoorLibC
import Derived.Test.YtfpcbalkioolmaaDoorW6
set_option linter.unusedSimpArgs false
set_option linter.unusedVariables false
set_option maxRecDepth 100000
namespace Go.Proofs.YtfpcbalkioolmaaDoor
open Go.Abs
theorem ty5 : Typ Tryd.prog 5 (eI .u8) (okInt .u8) := Typ.int (by kernel_rfl)
theorem ty3 : Typ Tryd.prog 3 (eI .i64) (okInt .i64) := Typ.int (by kernel_rfl)
def okS_Node (x : S_Node) : Prop := okInt .i64 x.Op ∧ okInt .i64 x.N
theorem ty50 : Typ Tryd.prog 50 eS_Node okS_Node := fun xs hs => by
  obtain ⟨xss, rfl, hl⟩ := hs.fields (fs := #[{ name := "Op", type := 3, offset := 0, embedded := false, tag := "", pkgPath := "", byteOffset := 0 }, { name := "N", type := 3, offset := 1, embedded := false, tag := "", pkgPath := "", byteOffset := 8 }]) (by kernel_rfl) [3, 3] rfl
  match xss, hl with
  | [y0, y1], ⟨h0, h1, _⟩ =>
    obtain ⟨v0, rfl, k0⟩ := ty3 _ h0
    obtain ⟨v1, rfl, k1⟩ := ty3 _ h1
    exact ⟨⟨v0, v1⟩, rfl, ⟨k0, k1⟩⟩
theorem ty26 : Typ Tryd.prog 26 (eL eS_Node) (okList okS_Node) := Typ.sl (by kernel_rfl) ty50
end Go.Proofs.YtfpcbalkioolmaaDoor
