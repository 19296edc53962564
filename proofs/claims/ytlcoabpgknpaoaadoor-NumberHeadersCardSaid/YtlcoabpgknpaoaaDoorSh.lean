/-
  Written by lawgen.py (own work): the arguments of the laws as typed values.
-/
import Derived.Test.YtlcoabpgknpaoaaDoorGen7
import Derived.Test.YtlcoabpgknpaoaaDoorW4
set_option linter.unusedSimpArgs false
set_option linter.unusedVariables false
set_option maxRecDepth 100000
namespace Go.Proofs.YtlcoabpgknpaoaaDoor
open Go.Abs
theorem ty3 : Typ Tryd.prog 3 (eI .i64) (okInt .i64) := Typ.int (by kernel_rfl)
theorem ty22 : Typ Tryd.prog 22 (fun l => l.flatMap (eI .i64)) (okArr 3 (okInt .i64)) := Typ.arr (by kernel_rfl) ty3
theorem ty5 : Typ Tryd.prog 5 (eI .u8) (okInt .u8) := Typ.int (by kernel_rfl)
theorem ty23 : Typ Tryd.prog 23 (eL (eI .u8)) (okList (okInt .u8)) := Typ.sl (by kernel_rfl) ty5
theorem ty40 : Typ Tryd.prog 40 (eI .u32) (okInt .u32) := Typ.int (by kernel_rfl)
theorem ty44 : Typ Tryd.prog 44 (eI .u16) (okInt .u16) := Typ.int (by kernel_rfl)
theorem ty4 : Typ Tryd.prog 4 eB okAny := Typ.bool (by kernel_rfl)
def okS_Raw (x : S_Raw) : Prop := okInt .u8 x.Width ∧ okInt .u16 x.N ∧ okInt .u8 x.K ∧ okAny x.Back ∧ okInt .u16 x.Ink ∧ okInt .u8 x.Part
theorem ty46 : Typ Tryd.prog 46 eS_Raw okS_Raw := fun xs hs => by
  obtain ⟨xss, rfl, hl⟩ := hs.fields (fs := #[{ name := "Width", type := 5, offset := 0, embedded := false, tag := "", pkgPath := "", byteOffset := 0 }, { name := "N", type := 44, offset := 1, embedded := false, tag := "", pkgPath := "", byteOffset := 2 }, { name := "K", type := 5, offset := 2, embedded := false, tag := "", pkgPath := "", byteOffset := 4 }, { name := "Back", type := 4, offset := 3, embedded := false, tag := "", pkgPath := "", byteOffset := 5 }, { name := "Ink", type := 44, offset := 4, embedded := false, tag := "", pkgPath := "", byteOffset := 6 }, { name := "Part", type := 5, offset := 5, embedded := false, tag := "", pkgPath := "", byteOffset := 8 }]) (by kernel_rfl) [5, 44, 5, 4, 44, 5] rfl
  match xss, hl with
  | [y0, y1, y2, y3, y4, y5], ⟨h0, h1, h2, h3, h4, h5, _⟩ =>
    obtain ⟨v0, rfl, k0⟩ := ty5 _ h0
    obtain ⟨v1, rfl, k1⟩ := ty44 _ h1
    obtain ⟨v2, rfl, k2⟩ := ty5 _ h2
    obtain ⟨v3, rfl, k3⟩ := ty4 _ h3
    obtain ⟨v4, rfl, k4⟩ := ty44 _ h4
    obtain ⟨v5, rfl, k5⟩ := ty5 _ h5
    exact ⟨⟨v0, v1, v2, v3, v4, v5⟩, rfl, ⟨k0, k1, k2, k3, k4, k5⟩⟩
def okS_Label (x : S_Label) : Prop := okInt .i64 x.N ∧ okInt .i64 x.K
theorem ty35 : Typ Tryd.prog 35 eS_Label okS_Label := fun xs hs => by
  obtain ⟨xss, rfl, hl⟩ := hs.fields (fs := #[{ name := "N", type := 3, offset := 0, embedded := false, tag := "", pkgPath := "", byteOffset := 0 }, { name := "K", type := 3, offset := 1, embedded := false, tag := "", pkgPath := "", byteOffset := 8 }]) (by kernel_rfl) [3, 3] rfl
  match xss, hl with
  | [y0, y1], ⟨h0, h1, _⟩ =>
    obtain ⟨v0, rfl, k0⟩ := ty3 _ h0
    obtain ⟨v1, rfl, k1⟩ := ty3 _ h1
    exact ⟨⟨v0, v1⟩, rfl, ⟨k0, k1⟩⟩
def okS_Header (x : S_Header) : Prop := okInt .i64 x.Width ∧ okS_Label x.Label ∧ okAny x.Back ∧ okInt .i64 x.Ink ∧ okInt .i64 x.Part
theorem ty48 : Typ Tryd.prog 48 eS_Header okS_Header := fun xs hs => by
  obtain ⟨xss, rfl, hl⟩ := hs.fields (fs := #[{ name := "Width", type := 3, offset := 0, embedded := false, tag := "", pkgPath := "", byteOffset := 0 }, { name := "Label", type := 35, offset := 1, embedded := false, tag := "", pkgPath := "", byteOffset := 8 }, { name := "Back", type := 4, offset := 3, embedded := false, tag := "", pkgPath := "", byteOffset := 24 }, { name := "Ink", type := 3, offset := 4, embedded := false, tag := "", pkgPath := "", byteOffset := 32 }, { name := "Part", type := 3, offset := 5, embedded := false, tag := "", pkgPath := "", byteOffset := 40 }]) (by kernel_rfl) [3, 35, 4, 3, 3] rfl
  match xss, hl with
  | [y0, y1, y2, y3, y4], ⟨h0, h1, h2, h3, h4, _⟩ =>
    obtain ⟨v0, rfl, k0⟩ := ty3 _ h0
    obtain ⟨v1, rfl, k1⟩ := ty35 _ h1
    obtain ⟨v2, rfl, k2⟩ := ty4 _ h2
    obtain ⟨v3, rfl, k3⟩ := ty3 _ h3
    obtain ⟨v4, rfl, k4⟩ := ty3 _ h4
    exact ⟨⟨v0, v1, v2, v3, v4⟩, rfl, ⟨k0, k1, k2, k3, k4⟩⟩
end Go.Proofs.YtlcoabpgknpaoaaDoor
