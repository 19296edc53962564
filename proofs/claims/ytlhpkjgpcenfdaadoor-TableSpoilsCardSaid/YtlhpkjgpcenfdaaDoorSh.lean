/-
  Written by lawgen.py (own work): the arguments of the laws as typed values.
-/
import Derived.Test.YtlhpkjgpcenfdaaDoorLibC
import Derived.Test.YtlhpkjgpcenfdaaDoorW1
set_option linter.unusedSimpArgs false
set_option linter.unusedVariables false
set_option maxRecDepth 100000
namespace Go.Proofs.YtlhpkjgpcenfdaaDoor
open Go.Abs
theorem ty5 : Typ Tryd.prog 5 (eI .u8) (okInt .u8) := Typ.int (by kernel_rfl)
theorem ty51 : Typ Tryd.prog 51 (eL (eI .u8)) (okList (okInt .u8)) := Typ.sl (by kernel_rfl) ty5
theorem ty60 : Typ Tryd.prog 60 (fun l => l.flatMap (eI .u8)) (okArr 2 (okInt .u8)) := Typ.arr (by kernel_rfl) ty5
def okS_RawRule (x : S_RawRule) : Prop := okList (okInt .u8) x.P ∧ okList (okInt .u8) x.C ∧ okInt .u8 x.L ∧ okInt .u8 x.R ∧ okArr 2 (okInt .u8) x.W
theorem ty62 : Typ Tryd.prog 62 eS_RawRule okS_RawRule := fun xs hs => by
  obtain ⟨xss, rfl, hl⟩ := hs.fields (fs := #[{ name := "P", type := 51, offset := 0, embedded := false, tag := "", pkgPath := "", byteOffset := 0 }, { name := "C", type := 51, offset := 1, embedded := false, tag := "", pkgPath := "", byteOffset := 24 }, { name := "L", type := 5, offset := 2, embedded := false, tag := "", pkgPath := "", byteOffset := 48 }, { name := "R", type := 5, offset := 3, embedded := false, tag := "", pkgPath := "", byteOffset := 49 }, { name := "W", type := 60, offset := 4, embedded := false, tag := "", pkgPath := "", byteOffset := 50 }]) (by kernel_rfl) [51, 51, 5, 5, 60] rfl
  match xss, hl with
  | [y0, y1, y2, y3, y4], ⟨h0, h1, h2, h3, h4, _⟩ =>
    obtain ⟨v0, rfl, k0⟩ := ty51 _ h0
    obtain ⟨v1, rfl, k1⟩ := ty51 _ h1
    obtain ⟨v2, rfl, k2⟩ := ty5 _ h2
    obtain ⟨v3, rfl, k3⟩ := ty5 _ h3
    obtain ⟨v4, rfl, k4⟩ := ty60 _ h4
    obtain ⟨b4_0, b4_1, rfl⟩ : ∃ b4_0 b4_1, v4 = [b4_0, b4_1] := by
      match v4, k4.2 with
      | [b4_0, b4_1], _ => exact ⟨b4_0, b4_1, rfl⟩
    exact ⟨⟨v0, v1, v2, v3, [b4_0, b4_1]⟩, rfl, ⟨k0, k1, k2, k3, k4⟩⟩
theorem ty39 : Typ Tryd.prog 39 (eL eS_RawRule) (okList okS_RawRule) := Typ.sl (by kernel_rfl) ty62
def okS_Raw (x : S_Raw) : Prop := okInt .u8 x.Base ∧ okInt .u8 x.Drop ∧ okList okS_RawRule x.More
theorem ty41 : Typ Tryd.prog 41 eS_Raw okS_Raw := fun xs hs => by
  obtain ⟨xss, rfl, hl⟩ := hs.fields (fs := #[{ name := "Base", type := 5, offset := 0, embedded := false, tag := "", pkgPath := "", byteOffset := 0 }, { name := "Drop", type := 5, offset := 1, embedded := false, tag := "", pkgPath := "", byteOffset := 1 }, { name := "More", type := 39, offset := 2, embedded := false, tag := "", pkgPath := "", byteOffset := 8 }]) (by kernel_rfl) [5, 5, 39] rfl
  match xss, hl with
  | [y0, y1, y2], ⟨h0, h1, h2, _⟩ =>
    obtain ⟨v0, rfl, k0⟩ := ty5 _ h0
    obtain ⟨v1, rfl, k1⟩ := ty5 _ h1
    obtain ⟨v2, rfl, k2⟩ := ty39 _ h2
    exact ⟨⟨v0, v1, v2⟩, rfl, ⟨k0, k1, k2⟩⟩
theorem ty42 : Typ Tryd.prog 42 (eI .i8) (okInt .i8) := Typ.int (by kernel_rfl)
def okS_Spoil (x : S_Spoil) : Prop := okInt .u8 x.At ∧ okInt .u8 x.What ∧ okInt .u8 x.B ∧ okInt .i8 x.N
theorem ty44 : Typ Tryd.prog 44 eS_Spoil okS_Spoil := fun xs hs => by
  obtain ⟨xss, rfl, hl⟩ := hs.fields (fs := #[{ name := "At", type := 5, offset := 0, embedded := false, tag := "", pkgPath := "", byteOffset := 0 }, { name := "What", type := 5, offset := 1, embedded := false, tag := "", pkgPath := "", byteOffset := 1 }, { name := "B", type := 5, offset := 2, embedded := false, tag := "", pkgPath := "", byteOffset := 2 }, { name := "N", type := 42, offset := 3, embedded := false, tag := "", pkgPath := "", byteOffset := 3 }]) (by kernel_rfl) [5, 5, 5, 42] rfl
  match xss, hl with
  | [y0, y1, y2, y3], ⟨h0, h1, h2, h3, _⟩ =>
    obtain ⟨v0, rfl, k0⟩ := ty5 _ h0
    obtain ⟨v1, rfl, k1⟩ := ty5 _ h1
    obtain ⟨v2, rfl, k2⟩ := ty5 _ h2
    obtain ⟨v3, rfl, k3⟩ := ty42 _ h3
    exact ⟨⟨v0, v1, v2, v3⟩, rfl, ⟨k0, k1, k2, k3⟩⟩
end Go.Proofs.YtlhpkjgpcenfdaaDoor
