/-
  Written by lawgen.py (own work): the law SheetReads, from its plain form.
-/
import Derived.Test.YtbcfmhoaocifoaaDoorSh
import Derived.Test.YtbcfmhoaocifoaaDoorP25i
set_option linter.unusedSimpArgs false
set_option linter.unusedVariables false
set_option maxRecDepth 100000
namespace Go.Proofs.YtbcfmhoaocifoaaDoor
open Go.Abs
theorem law_SheetReads (xss : List (List IV)) (hs : ShpL Tryd.prog [27] xss) : QSpec Tryd.prog 4 (argsA Tryd.prog [27] xss) (.bool true) := by
  match xss, hs with
  | [x0], ⟨h0, _⟩ =>
    obtain ⟨t0, rfl, k0⟩ := ty27 _ h0
    have H := f_L25_SheetReads_ok (plain_SheetReads k0)
    have e : argsA Tryd.prog [27] [(eS_Raw) t0] = [.agg [.int .u8 t0.W, .int .u8 t0.H, slA (eL (eI .u8)) t0.Front, slA (eL (eI .u8)) t0.Back, .int .u8 t0.Head.Width, .int .u16 t0.Head.N, .int .u8 t0.Head.K, .bool t0.Head.Back, .int .u16 t0.Head.Ink, .int .u8 t0.Head.Part]] := by
      kernel_rfl
    rw [e]
    exact H
end Go.Proofs.YtbcfmhoaocifoaaDoor
