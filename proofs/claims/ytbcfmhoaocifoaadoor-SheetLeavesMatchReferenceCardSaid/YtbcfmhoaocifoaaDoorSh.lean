/- Own work. -/
import Derived.Test.YtbcfmhoaocifoaaDoorLibC
import Derived.Test.YtbcfmhoaocifoaaDoorW12
set_option linter.unusedSimpArgs false
set_option linter.unusedVariables false
set_option maxRecDepth 100000
namespace Go.Proofs.YtbcfmhoaocifoaaDoor
open Go.Abs
theorem ty5 : Typ Tryd.prog 5 (eI .u8) (okInt .u8) := Typ.int (by kernel_rfl)
theorem ty93 : Typ Tryd.prog 93 (eL (eI .u8)) (okList (okInt .u8)) := Typ.sl (by kernel_rfl) ty5
theorem ty22 : Typ Tryd.prog 22 (eL (eL (eI .u8))) (okList (okList (okInt .u8))) := Typ.sl (by kernel_rfl) ty93
theorem ty23 : Typ Tryd.prog 23 (eI .u16) (okInt .u16) := Typ.int (by kernel_rfl)
theorem ty4 : Typ Tryd.prog 4 eB okAny := Typ.bool (by kernel_rfl)
def okS_Raw' (x : S_Raw') : Prop := okInt .u8 x.Width ∧ okInt .u16 x.N ∧ okInt .u8 x.K ∧ okAny x.Back ∧ okInt .u16 x.Ink ∧ okInt .u8 x.Part
theorem ty25 : Typ Tryd.prog 25 eS_Raw' okS_Raw' := fun xs hs => by
 obtain ⟨xss, rfl, hl⟩ := hs.fields (fs := #[{ name := "Width", type := 5, offset := 0, embedded := false, tag := "", pkgPath := "", byteOffset := 0 }, { name := "N", type := 23, offset := 1, embedded := false, tag := "", pkgPath := "", byteOffset := 2 }, { name := "K", type := 5, offset := 2, embedded := false, tag := "", pkgPath := "", byteOffset := 4 }, { name := "Back", type := 4, offset := 3, embedded := false, tag := "", pkgPath := "", byteOffset := 5 }, { name := "Ink", type := 23, offset := 4, embedded := false, tag := "", pkgPath := "", byteOffset := 6 }, { name := "Part", type := 5, offset := 5, embedded := false, tag := "", pkgPath := "", byteOffset := 8 }]) (by kernel_rfl) [5, 23, 5, 4, 23, 5] rfl
 match xss, hl with
 | [y0, y1, y2, y3, y4, y5], ⟨h0, h1, h2, h3, h4, h5, _⟩ =>
  obtain ⟨v0, rfl, k0⟩ := ty5 _ h0
  obtain ⟨v1, rfl, k1⟩ := ty23 _ h1
  obtain ⟨v2, rfl, k2⟩ := ty5 _ h2
  obtain ⟨v3, rfl, k3⟩ := ty4 _ h3
  obtain ⟨v4, rfl, k4⟩ := ty23 _ h4
  obtain ⟨v5, rfl, k5⟩ := ty5 _ h5
  exact ⟨⟨v0, v1, v2, v3, v4, v5⟩, rfl, ⟨k0, k1, k2, k3, k4, k5⟩⟩
def okS_Raw (x : S_Raw) : Prop := okInt .u8 x.W ∧ okInt .u8 x.H ∧ okList (okList (okInt .u8)) x.Front ∧ okList (okList (okInt .u8)) x.Back ∧ okS_Raw' x.Head
theorem ty27 : Typ Tryd.prog 27 eS_Raw okS_Raw := fun xs hs => by
 obtain ⟨xss, rfl, hl⟩ := hs.fields (fs := #[{ name := "W", type := 5, offset := 0, embedded := false, tag := "", pkgPath := "", byteOffset := 0 }, { name := "H", type := 5, offset := 1, embedded := false, tag := "", pkgPath := "", byteOffset := 1 }, { name := "Front", type := 22, offset := 2, embedded := false, tag := "", pkgPath := "", byteOffset := 8 }, { name := "Back", type := 22, offset := 3, embedded := false, tag := "", pkgPath := "", byteOffset := 32 }, { name := "Head", type := 25, offset := 4, embedded := false, tag := "", pkgPath := "", byteOffset := 56 }]) (by kernel_rfl) [5, 5, 22, 22, 25] rfl
 match xss, hl with
 | [y0, y1, y2, y3, y4], ⟨h0, h1, h2, h3, h4, _⟩ =>
  obtain ⟨v0, rfl, k0⟩ := ty5 _ h0
  obtain ⟨v1, rfl, k1⟩ := ty5 _ h1
  obtain ⟨v2, rfl, k2⟩ := ty22 _ h2
  obtain ⟨v3, rfl, k3⟩ := ty22 _ h3
  obtain ⟨v4, rfl, k4⟩ := ty25 _ h4
  exact ⟨⟨v0, v1, v2, v3, v4⟩, rfl, ⟨k0, k1, k2, k3, k4⟩⟩
theorem ty28 : Typ Tryd.prog 28 (eI .i8) (okInt .i8) := Typ.int (by kernel_rfl)
theorem ty65 : Typ Tryd.prog 65 (fun l => l.flatMap (eI .u8)) (okArr 3 (okInt .u8)) := Typ.arr (by kernel_rfl) ty5
theorem tyA65 : Typ Tryd.prog 65 eA65 (okArr 3 (okInt .u8)) := fun xs hs => by
 obtain ⟨v, rfl, k⟩ := ty65 _ hs
 obtain ⟨b0, b1, b2, rfl⟩ : ∃ b0 b1 b2, v = [b0, b1, b2] := by
  match v, k.2 with
  | [b0, b1, b2], _ => exact ⟨b0, b1, b2, rfl⟩
 exact ⟨[b0, b1, b2], rfl, k⟩
theorem ty57 : Typ Tryd.prog 57 (eL eA65) (okList (okArr 3 (okInt .u8))) := Typ.sl (by kernel_rfl) tyA65
theorem ty70 : Typ Tryd.prog 70 (fun l => l.flatMap (eI .i8)) (okArr 2 (okInt .i8)) := Typ.arr (by kernel_rfl) ty28
end Go.Proofs.YtbcfmhoaocifoaaDoor
