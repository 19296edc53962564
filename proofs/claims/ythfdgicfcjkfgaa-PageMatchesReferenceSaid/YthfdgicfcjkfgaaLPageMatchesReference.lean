/-
  Written by lawgen.py (own work): the law PageMatchesReference, from its plain form.
-/
import Derived.Test.YthfdgicfcjkfgaaSh
import Derived.Test.YthfdgicfcjkfgaaP21g
set_option linter.unusedSimpArgs false
set_option linter.unusedVariables false
set_option maxRecDepth 100000
namespace Go.Proofs.Ythfdgicfcjkfgaa
open Go.Abs
theorem law_PageMatchesReference (xss : List (List IV)) (hs : ShpL Try.prog [22, 24, 25] xss) : QSpec Try.prog 3 (argsA Try.prog [22, 24, 25] xss) (.bool true) := by
  match xss, hs with
  | [x0, x1, x2], ⟨h0, h1, h2, _⟩ =>
    obtain ⟨t0, rfl, k0⟩ := ty22 _ h0
    obtain ⟨t1, rfl, k1⟩ := ty24 _ h1
    obtain ⟨t2, rfl, k2⟩ := ty25 _ h2
    have H := f_L21_PageMatchesReference_ok (plain_PageMatchesReference k0 k1 k2)
    obtain ⟨a1_0, a1_1, rfl⟩ : ∃ a1_0 a1_1, t1 = [a1_0, a1_1] := by
      match t1, k1.2 with
      | [a1_0, a1_1], _ => exact ⟨a1_0, a1_1, rfl⟩
    have e : argsA Try.prog [22, 24, 25] [(eL (eI .u8)) t0, (fun l => l.flatMap (eI .i8)) [a1_0, a1_1], (eL (eI .i8)) t2] = [slA (eI .u8) t0, .agg [.int .i8 ([a1_0, a1_1].getD 0 (0 : Int)), .int .i8 ([a1_0, a1_1].getD 1 (0 : Int))], slA (eI .i8) t2] := by
      kernel_rfl
    rw [e]
    exact H
end Go.Proofs.Ythfdgicfcjkfgaa
