/-
  Written by lawgen.py (own work): the law NoteUnique, from its plain form.
-/
import Derived.Test.YtdegmbjhedfffaaDoorSh
import Derived.Test.YtdegmbjhedfffaaDoorP22f
set_option linter.unusedSimpArgs false
set_option linter.unusedVariables false
set_option maxRecDepth 100000
namespace Go.Proofs.YtdegmbjhedfffaaDoor
open Go.Abs
theorem law_NoteUnique (xss : List (List IV)) (hs : ShpL Tryd.prog [32, 22, 47] xss) : QSpec Tryd.prog 7 (argsA Tryd.prog [32, 22, 47] xss) (.bool true) := by
  match xss, hs with
  | [x0, x1, x2], ⟨h0, h1, h2, _⟩ =>
    obtain ⟨t0, rfl, k0⟩ := ty32 _ h0
    obtain ⟨t1, rfl, k1⟩ := ty22 _ h1
    obtain ⟨t2, rfl, k2⟩ := ty47 _ h2
    have H := f_L22_NoteUnique_ok (plain_NoteUnique k0 k1 k2)
    obtain ⟨a2_0, a2_1, a2_2, rfl⟩ : ∃ a2_0 a2_1 a2_2, t2 = [a2_0, a2_1, a2_2] := by
      match t2, k2.2 with
      | [a2_0, a2_1, a2_2], _ => exact ⟨a2_0, a2_1, a2_2, rfl⟩
    have e : argsA Tryd.prog [32, 22, 47] [(eL (eL (eI .u8))) t0, (eL (eI .u8)) t1, (fun l => l.flatMap (eI .u8)) [a2_0, a2_1, a2_2]] = [slA (eL (eI .u8)) t0, slA (eI .u8) t1, .agg [.int .u8 ([a2_0, a2_1, a2_2].getD 0 (0 : Int)), .int .u8 ([a2_0, a2_1, a2_2].getD 1 (0 : Int)), .int .u8 ([a2_0, a2_1, a2_2].getD 2 (0 : Int))]] := by
      kernel_rfl
    rw [e]
    exact H
end Go.Proofs.YtdegmbjhedfffaaDoor
