/-
  Written by lawgen.py (own work): the law NumberMatchesReference, from its plain form.
-/
import Derived.Test.YtlcoabpgknpaoaaDoorSh
import Derived.Test.YtlcoabpgknpaoaaDoorP19g
set_option linter.unusedSimpArgs false
set_option linter.unusedVariables false
set_option maxRecDepth 100000
namespace Go.Proofs.YtlcoabpgknpaoaaDoor
open Go.Abs
theorem law_NumberMatchesReference (xss : List (List IV)) (hs : ShpL Tryd.prog [3, 22, 23] xss) : QSpec Tryd.prog 3 (argsA Tryd.prog [3, 22, 23] xss) (.bool true) := by
  match xss, hs with
  | [x0, x1, x2], ⟨h0, h1, h2, _⟩ =>
    obtain ⟨t0, rfl, k0⟩ := ty3 _ h0
    obtain ⟨t1, rfl, k1⟩ := ty22 _ h1
    obtain ⟨t2, rfl, k2⟩ := ty23 _ h2
    have H := f_L19_NumberMatchesReference_ok (plain_NumberMatchesReference k0 k1 k2)
    obtain ⟨a1_0, a1_1, a1_2, rfl⟩ : ∃ a1_0 a1_1 a1_2, t1 = [a1_0, a1_1, a1_2] := by
      match t1, k1.2 with
      | [a1_0, a1_1, a1_2], _ => exact ⟨a1_0, a1_1, a1_2, rfl⟩
    have e : argsA Tryd.prog [3, 22, 23] [(eI .i64) t0, (fun l => l.flatMap (eI .i64)) [a1_0, a1_1, a1_2], (eL (eI .u8)) t2] = [.int .i64 t0, .agg [.int .i64 ([a1_0, a1_1, a1_2].getD 0 (0 : Int)), .int .i64 ([a1_0, a1_1, a1_2].getD 1 (0 : Int)), .int .i64 ([a1_0, a1_1, a1_2].getD 2 (0 : Int))], slA (eI .u8) t2] := by
      kernel_rfl
    rw [e]
    exact H
end Go.Proofs.YtlcoabpgknpaoaaDoor
