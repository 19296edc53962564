/-
 Written by lawgen.py (own work): the law SheetLeaves, from its plain form.
-/
import Derived.Test.YtbcfmhoaocifoaaDoorSh
import Derived.Test.YtbcfmhoaocifoaaDoorP25n
set_option linter.unusedSimpArgs false
set_option linter.unusedVariables false
set_option maxRecDepth 100000
namespace Go.Proofs.YtbcfmhoaocifoaaDoor
open Go.Abs
theorem law_SheetLeaves (xss : List (List IV)) (hs : ShpL Tryd.prog [27, 65] xss) : QSpec Tryd.prog 7 (argsA Tryd.prog [27, 65] xss) (.bool true) := by
 match xss, hs with
 | [x0, x1], ⟨h0, h1, _⟩ =>
  obtain ⟨t0, rfl, k0⟩ := ty27 _ h0
  obtain ⟨t1, rfl, k1⟩ := ty65 _ h1
  have H := f_L25_SheetLeaves_ok (plain_SheetLeaves k0 k1)
  obtain ⟨a1_0, a1_1, a1_2, rfl⟩ : ∃ a1_0 a1_1 a1_2, t1 = [a1_0, a1_1, a1_2] := by
   match t1, k1.2 with
   | [a1_0, a1_1, a1_2], _ => exact ⟨a1_0, a1_1, a1_2, rfl⟩
  have e : argsA Tryd.prog [27, 65] [(eS_Raw) t0, (fun l => l.flatMap (eI .u8)) [a1_0, a1_1, a1_2]] = [.agg [.int .u8 t0.W, .int .u8 t0.H, slA (eL (eI .u8)) t0.Front, slA (eL (eI .u8)) t0.Back, .int .u8 t0.Head.Width, .int .u16 t0.Head.N, .int .u8 t0.Head.K, .bool t0.Head.Back, .int .u16 t0.Head.Ink, .int .u8 t0.Head.Part], .agg [.int .u8 ([a1_0, a1_1, a1_2].getD 0 (0 : Int)), .int .u8 ([a1_0, a1_1, a1_2].getD 1 (0 : Int)), .int .u8 ([a1_0, a1_1, a1_2].getD 2 (0 : Int))]] := by
   kernel_rfl
  rw [e]
  exact H
end Go.Proofs.YtbcfmhoaocifoaaDoor
