/-
  Written by lawgen.py (own work): the law TableTexts, from its plain form.
-/
import Derived.Test.YtlhpkjgpcenfdaaDoorSh
import Derived.Test.YtlhpkjgpcenfdaaDoorP02b
set_option linter.unusedSimpArgs false
set_option linter.unusedVariables false
set_option maxRecDepth 100000
namespace Go.Proofs.YtlhpkjgpcenfdaaDoor
open Go.Abs
theorem law_TableTexts (xss : List (List IV)) (hs : ShpL Tryd.prog [9, 5, 22] xss) : QSpec Tryd.prog 3 (argsA Tryd.prog [9, 5, 22] xss) (.bool true) := by
  match xss, hs with
  | [x0, x1, x2], ⟨h0, h1, h2, _⟩ =>
    obtain ⟨t0, rfl, k0⟩ := ty9 _ h0
    obtain ⟨t1, rfl, k1⟩ := ty5 _ h1
    obtain ⟨t2, rfl, k2⟩ := ty22 _ h2
    have H := f_L02_TableTexts_ok (plain_TableTexts k0 k1 k2)
    have e : argsA Tryd.prog [9, 5, 22] [(eS) t0, (eI .u8) t1, (eI .u16) t2] = [.string t0, .int .u8 t1, .int .u16 t2] := by
      kernel_rfl
    rw [e]
    exact H
end Go.Proofs.YtlhpkjgpcenfdaaDoor
