/-
  Written by lawgen.py (own work): the law NumberReads, from its plain form.
-/
import Derived.Test.YtlcoabpgknpaoaaDoorSh
import Derived.Test.YtlcoabpgknpaoaaDoorP19g
set_option linter.unusedSimpArgs false
set_option linter.unusedVariables false
set_option maxRecDepth 100000
namespace Go.Proofs.YtlcoabpgknpaoaaDoor
open Go.Abs
theorem law_NumberReads (xss : List (List IV)) (hs : ShpL Tryd.prog [40, 23] xss) : QSpec Tryd.prog 4 (argsA Tryd.prog [40, 23] xss) (.bool true) := by
  match xss, hs with
  | [x0, x1], ⟨h0, h1, _⟩ =>
    obtain ⟨t0, rfl, k0⟩ := ty40 _ h0
    obtain ⟨t1, rfl, k1⟩ := ty23 _ h1
    have H := f_L19_NumberReads_ok (plain_NumberReads k0 k1)
    have e : argsA Tryd.prog [40, 23] [(eI .u32) t0, (eL (eI .u8)) t1] = [.int .u32 t0, slA (eI .u8) t1] := by
      kernel_rfl
    rw [e]
    exact H
end Go.Proofs.YtlcoabpgknpaoaaDoor
