/-
  Written by lawgen.py (own work): the law SheetPlates, from its plain form.
-/
import Derived.Test.YtbcfmhoaocifoaaDoorSh
import Derived.Test.YtbcfmhoaocifoaaDoorP25j
set_option linter.unusedSimpArgs false
set_option linter.unusedVariables false
set_option maxRecDepth 100000
namespace Go.Proofs.YtbcfmhoaocifoaaDoor
open Go.Abs
theorem law_SheetPlates (xss : List (List IV)) (hs : ShpL Tryd.prog [27, 57, 57] xss) : QSpec Tryd.prog 5 (argsA Tryd.prog [27, 57, 57] xss) (.bool true) := by
  match xss, hs with
  | [x0, x1, x2], ⟨h0, h1, h2, _⟩ =>
    obtain ⟨t0, rfl, k0⟩ := ty27 _ h0
    obtain ⟨t1, rfl, k1⟩ := ty57 _ h1
    obtain ⟨t2, rfl, k2⟩ := ty57 _ h2
    have H := f_L25_SheetPlates_ok (plain_SheetPlates k0 k1 k2)
    have e : argsA Tryd.prog [27, 57, 57] [(eS_Raw) t0, (eL eA65) t1, (eL eA65) t2] = [.agg [.int .u8 t0.W, .int .u8 t0.H, slA (eL (eI .u8)) t0.Front, slA (eL (eI .u8)) t0.Back, .int .u8 t0.Head.Width, .int .u16 t0.Head.N, .int .u8 t0.Head.K, .bool t0.Head.Back, .int .u16 t0.Head.Ink, .int .u8 t0.Head.Part], slA eA65 t1, slA eA65 t2] := by
      kernel_rfl
    rw [e]
    exact H
end Go.Proofs.YtbcfmhoaocifoaaDoor
