/-
  Written by lawgen.py (own work): the law CellMatchesReference, from its plain form.
-/
import Derived.Test.YtbdmehgppgfiaaaSh
import Derived.Test.YtbdmehgppgfiaaaP01f
set_option linter.unusedSimpArgs false
set_option linter.unusedVariables false
set_option maxRecDepth 100000
namespace Go.Proofs.Ytbdmehgppgfiaaa
open Go.Abs
theorem law_CellMatchesReference (xss : List (List IV)) (hs : ShpL Try.prog [22, 9, 5] xss) : QSpec Try.prog 3 (argsA Try.prog [22, 9, 5] xss) (.bool true) := by
  match xss, hs with
  | [x0, x1, x2], ⟨h0, h1, h2, _⟩ =>
    obtain ⟨t0, rfl, k0⟩ := ty22 _ h0
    obtain ⟨t1, rfl, k1⟩ := ty9 _ h1
    obtain ⟨t2, rfl, k2⟩ := ty5 _ h2
    have H := f_L01_CellMatchesReference_ok (plain_CellMatchesReference k0 k1 k2)
    obtain ⟨a0_0, a0_1, rfl⟩ : ∃ a0_0 a0_1, t0 = [a0_0, a0_1] := by
      match t0, k0.2 with
      | [a0_0, a0_1], _ => exact ⟨a0_0, a0_1, rfl⟩
    have e : argsA Try.prog [22, 9, 5] [(fun l => l.flatMap (eI .u8)) [a0_0, a0_1], (eS) t1, (eI .u8) t2] = [.agg [.int .u8 ([a0_0, a0_1].getD 0 (0 : Int)), .int .u8 ([a0_0, a0_1].getD 1 (0 : Int))], .string t1, .int .u8 t2] := by
      kernel_rfl
    rw [e]
    exact H
end Go.Proofs.Ytbdmehgppgfiaaa
