/-
  Written by lawgen.py (own work): the law CellDoubt, from its plain form.
-/
import Derived.Test.YtbdmehgppgfiaaaSh
import Derived.Test.YtbdmehgppgfiaaaP01m
set_option linter.unusedSimpArgs false
set_option linter.unusedVariables false
set_option maxRecDepth 100000
namespace Go.Proofs.Ytbdmehgppgfiaaa
open Go.Abs
theorem law_CellDoubt (xss : List (List IV)) (hs : ShpL Try.prog [22] xss) : QSpec Try.prog 7 (argsA Try.prog [22] xss) (.bool true) := by
  match xss, hs with
  | [x0], ⟨h0, _⟩ =>
    obtain ⟨t0, rfl, k0⟩ := ty22 _ h0
    have H := f_L01_CellDoubt_ok (plain_CellDoubt k0)
    obtain ⟨a0_0, a0_1, rfl⟩ : ∃ a0_0 a0_1, t0 = [a0_0, a0_1] := by
      match t0, k0.2 with
      | [a0_0, a0_1], _ => exact ⟨a0_0, a0_1, rfl⟩
    have e : argsA Try.prog [22] [(fun l => l.flatMap (eI .u8)) [a0_0, a0_1]] = [.agg [.int .u8 ([a0_0, a0_1].getD 0 (0 : Int)), .int .u8 ([a0_0, a0_1].getD 1 (0 : Int))]] := by
      kernel_rfl
    rw [e]
    exact H
end Go.Proofs.Ytbdmehgppgfiaaa
