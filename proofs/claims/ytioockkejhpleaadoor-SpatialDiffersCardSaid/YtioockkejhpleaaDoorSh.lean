/- Own work. -/
import Derived.Test.YtioockkejhpleaaDoorLibC
import Derived.Test.YtioockkejhpleaaDoorW6
set_option linter.unusedSimpArgs false
set_option linter.unusedVariables false
set_option maxRecDepth 100000
namespace Go.Proofs.YtioockkejhpleaaDoor
open Go.Abs
theorem ty5 : Typ Tryd.prog 5 (eI .u8) (okInt .u8) := Typ.int (by kernel_rfl)
theorem ty43 : Typ Tryd.prog 43 (fun l => l.flatMap (eI .u8)) (okArr 2 (okInt .u8)) := Typ.arr (by kernel_rfl) ty5
theorem tyA43 : Typ Tryd.prog 43 eA43 (okArr 2 (okInt .u8)) := fun xs hs => by
  obtain ⟨v, rfl, k⟩ := ty43 _ hs
  obtain ⟨b0, b1, rfl⟩ : ∃ b0 b1, v = [b0, b1] := by
    match v, k.2 with
    | [b0, b1], _ => exact ⟨b0, b1, rfl⟩
  exact ⟨[b0, b1], rfl, k⟩
theorem ty22 : Typ Tryd.prog 22 (eL eA43) (okList (okArr 2 (okInt .u8))) := Typ.sl (by kernel_rfl) tyA43
def okS_Raw (x : Y39) : Prop := okInt .u8 x.Kind ∧ okInt .u8 x.N ∧ okList (okArr 2 (okInt .u8)) x.L
theorem ty24 : Typ Tryd.prog 24 eS_Raw okS_Raw := fun xs hs => by
  obtain ⟨xss, rfl, hl⟩ := hs.fields (fs := #[{ name := "Kind", type := 5, offset := 0, embedded := false, tag := "", pkgPath := "", byteOffset := 0 }, { name := "N", type := 5, offset := 1, embedded := false, tag := "", pkgPath := "", byteOffset := 1 }, { name := "L", type := 22, offset := 2, embedded := false, tag := "", pkgPath := "", byteOffset := 8 }]) (by kernel_rfl) [5, 5, 22] rfl
  match xss, hl with
  | [y0, y1, y2], ⟨h0, h1, h2, _⟩ =>
    obtain ⟨v0, rfl, k0⟩ := ty5 _ h0
    obtain ⟨v1, rfl, k1⟩ := ty5 _ h1
    obtain ⟨v2, rfl, k2⟩ := ty22 _ h2
    exact ⟨⟨v0, v1, v2⟩, rfl, ⟨k0, k1, k2⟩⟩
end Go.Proofs.YtioockkejhpleaaDoor
