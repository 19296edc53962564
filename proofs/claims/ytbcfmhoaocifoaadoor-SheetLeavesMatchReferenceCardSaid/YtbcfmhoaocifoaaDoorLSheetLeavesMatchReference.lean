/- Own work. -/
import Derived.Test.YtbcfmhoaocifoaaDoorSh
import Derived.Test.YtbcfmhoaocifoaaDoorP25n
set_option linter.unusedSimpArgs false
set_option linter.unusedVariables false
set_option maxRecDepth 100000
namespace Go.Proofs.YtbcfmhoaocifoaaDoor
open Go.Abs
theorem law_SheetLeavesMatchReference (xss : List (List IV)) (hs : ShpL Tryd.prog [27, 57, 70] xss) : QSpec Tryd.prog 8 (argsA Tryd.prog [27, 57, 70] xss) (.bool true) := by
 match xss, hs with
 | [x0, x1, x2], ⟨h0, h1, h2, _⟩ =>
  obtain ⟨t0, rfl, k0⟩ := ty27 _ h0
  obtain ⟨t1, rfl, k1⟩ := ty57 _ h1
  obtain ⟨t2, rfl, k2⟩ := ty70 _ h2
  have H := Y5t (plain_SheetLeavesMatchReference k0 k1 k2)
  obtain ⟨a2_0, a2_1, rfl⟩ : ∃ a2_0 a2_1, t2 = [a2_0, a2_1] := by
   match t2, k2.2 with
   | [a2_0, a2_1], _ => exact ⟨a2_0, a2_1, rfl⟩
  have e : argsA Tryd.prog [27, 57, 70] [(eS_Raw) t0, (eL eA65) t1, (fun l => l.flatMap (eI .i8)) [a2_0, a2_1]] = [.agg [.int .u8 t0.W, .int .u8 t0.H, slA (eL (eI .u8)) t0.Front, slA (eL (eI .u8)) t0.Back, .int .u8 t0.Head.Width, .int .u16 t0.Head.N, .int .u8 t0.Head.K, .bool t0.Head.Back, .int .u16 t0.Head.Ink, .int .u8 t0.Head.Part], slA eA65 t1, .agg [.int .i8 ([a2_0, a2_1].getD 0 (0 : Int)), .int .i8 ([a2_0, a2_1].getD 1 (0 : Int))]] := by
   kernel_rfl
  rw [e]
  exact H
end Go.Proofs.YtbcfmhoaocifoaaDoor
