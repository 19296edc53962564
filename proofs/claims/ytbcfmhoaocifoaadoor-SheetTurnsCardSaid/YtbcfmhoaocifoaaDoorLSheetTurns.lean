/-
  Written by lawgen.py (own work): the law SheetTurns, from its plain form.
-/
import Derived.Test.YtbcfmhoaocifoaaDoorSh
import Derived.Test.YtbcfmhoaocifoaaDoorP25k
set_option linter.unusedSimpArgs false
set_option linter.unusedVariables false
set_option maxRecDepth 100000
namespace Go.Proofs.YtbcfmhoaocifoaaDoor
open Go.Abs
theorem law_SheetTurns (xss : List (List IV)) (hs : ShpL Tryd.prog [27, 57] xss) : QSpec Tryd.prog 6 (argsA Tryd.prog [27, 57] xss) (.bool true) := by
  match xss, hs with
  | [x0, x1], ⟨h0, h1, _⟩ =>
    obtain ⟨t0, rfl, k0⟩ := ty27 _ h0
    obtain ⟨t1, rfl, k1⟩ := ty57 _ h1
    have H := f_L25_SheetTurns_ok (plain_SheetTurns k0 k1)
    have e : argsA Tryd.prog [27, 57] [(eS_Raw) t0, (eL eA65) t1] = [.agg [.int .u8 t0.W, .int .u8 t0.H, slA (eL (eI .u8)) t0.Front, slA (eL (eI .u8)) t0.Back, .int .u8 t0.Head.Width, .int .u16 t0.Head.N, .int .u8 t0.Head.K, .bool t0.Head.Back, .int .u16 t0.Head.Ink, .int .u8 t0.Head.Part], slA eA65 t1] := by
      kernel_rfl
    rw [e]
    exact H
end Go.Proofs.YtbcfmhoaocifoaaDoor
