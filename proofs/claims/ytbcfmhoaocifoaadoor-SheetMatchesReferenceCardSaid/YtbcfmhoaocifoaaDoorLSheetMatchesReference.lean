/-
  Written by lawgen.py (own work): the law SheetMatchesReference, from its plain form.
-/
import Derived.Test.YtbcfmhoaocifoaaDoorSh
import Derived.Test.YtbcfmhoaocifoaaDoorP25i
set_option linter.unusedSimpArgs false
set_option linter.unusedVariables false
set_option maxRecDepth 100000
namespace Go.Proofs.YtbcfmhoaocifoaaDoor
open Go.Abs
theorem law_SheetMatchesReference (xss : List (List IV)) (hs : ShpL Tryd.prog [27, 29, 4] xss) : QSpec Tryd.prog 3 (argsA Tryd.prog [27, 29, 4] xss) (.bool true) := by
  match xss, hs with
  | [x0, x1, x2], ⟨h0, h1, h2, _⟩ =>
    obtain ⟨t0, rfl, k0⟩ := ty27 _ h0
    obtain ⟨t1, rfl, k1⟩ := ty29 _ h1
    obtain ⟨t2, rfl, k2⟩ := ty4 _ h2
    have H := f_L25_SheetMatchesReference_ok (plain_SheetMatchesReference k0 k1 k2)
    obtain ⟨a1_0, a1_1, a1_2, a1_3, rfl⟩ : ∃ a1_0 a1_1 a1_2 a1_3, t1 = [a1_0, a1_1, a1_2, a1_3] := by
      match t1, k1.2 with
      | [a1_0, a1_1, a1_2, a1_3], _ => exact ⟨a1_0, a1_1, a1_2, a1_3, rfl⟩
    have e : argsA Tryd.prog [27, 29, 4] [(eS_Raw) t0, (fun l => l.flatMap (eI .i8)) [a1_0, a1_1, a1_2, a1_3], (eB) t2] = [.agg [.int .u8 t0.W, .int .u8 t0.H, slA (eL (eI .u8)) t0.Front, slA (eL (eI .u8)) t0.Back, .int .u8 t0.Head.Width, .int .u16 t0.Head.N, .int .u8 t0.Head.K, .bool t0.Head.Back, .int .u16 t0.Head.Ink, .int .u8 t0.Head.Part], .agg [.int .i8 ([a1_0, a1_1, a1_2, a1_3].getD 0 (0 : Int)), .int .i8 ([a1_0, a1_1, a1_2, a1_3].getD 1 (0 : Int)), .int .i8 ([a1_0, a1_1, a1_2, a1_3].getD 2 (0 : Int)), .int .i8 ([a1_0, a1_1, a1_2, a1_3].getD 3 (0 : Int))], .bool t2] := by
      kernel_rfl
    rw [e]
    exact H
end Go.Proofs.YtbcfmhoaocifoaaDoor
