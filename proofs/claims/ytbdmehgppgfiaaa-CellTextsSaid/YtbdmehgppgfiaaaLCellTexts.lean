/-
  Written by lawgen.py (own work): the law CellTexts, from its plain form.
-/
import Derived.Test.YtbdmehgppgfiaaaSh
import Derived.Test.YtbdmehgppgfiaaaP01f
set_option linter.unusedSimpArgs false
set_option linter.unusedVariables false
set_option maxRecDepth 100000
namespace Go.Proofs.Ytbdmehgppgfiaaa
open Go.Abs
theorem law_CellTexts (xss : List (List IV)) (hs : ShpL Try.prog [9, 5] xss) : QSpec Try.prog 4 (argsA Try.prog [9, 5] xss) (.bool true) := by
  match xss, hs with
  | [x0, x1], ⟨h0, h1, _⟩ =>
    obtain ⟨t0, rfl, k0⟩ := ty9 _ h0
    obtain ⟨t1, rfl, k1⟩ := ty5 _ h1
    have H := f_L01_CellTexts_ok (plain_CellTexts k0 k1)
    have e : argsA Try.prog [9, 5] [(eS) t0, (eI .u8) t1] = [.string t0, .int .u8 t1] := by
      kernel_rfl
    rw [e]
    exact H
end Go.Proofs.Ytbdmehgppgfiaaa
