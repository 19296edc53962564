/-
  Written by lawgen.py (own work): the law CellLines, from its plain form.
-/
import Derived.Test.YtbdmehgppgfiaaaSh
import Derived.Test.YtbdmehgppgfiaaaP01f
set_option linter.unusedSimpArgs false
set_option linter.unusedVariables false
set_option maxRecDepth 100000
namespace Go.Proofs.Ytbdmehgppgfiaaa
open Go.Abs
theorem law_CellLines (xss : List (List IV)) (hs : ShpL Try.prog [45, 9, 5] xss) : QSpec Try.prog 5 (argsA Try.prog [45, 9, 5] xss) (.bool true) := by
  match xss, hs with
  | [x0, x1, x2], ⟨h0, h1, h2, _⟩ =>
    obtain ⟨t0, rfl, k0⟩ := ty45 _ h0
    obtain ⟨t1, rfl, k1⟩ := ty9 _ h1
    obtain ⟨t2, rfl, k2⟩ := ty5 _ h2
    have H := f_L01_CellLines_ok (plain_CellLines k0 k1 k2)
    have e : argsA Try.prog [45, 9, 5] [(eL (eI .u8)) t0, (eS) t1, (eI .u8) t2] = [slA (eI .u8) t0, .string t1, .int .u8 t2] := by
      kernel_rfl
    rw [e]
    exact H
end Go.Proofs.Ytbdmehgppgfiaaa
