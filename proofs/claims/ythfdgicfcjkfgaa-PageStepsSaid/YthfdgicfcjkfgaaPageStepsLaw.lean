/-
  The law PageSteps: for every input that can be read as data the call returns true and changes nothing that was there. No condition.
-/
import Derived.Test.YthfdgicfcjkfgaaRows
import Derived.Test.YthfdgicfcjkfgaaLPageSteps
import Derived.Test.YthfdgicfcjkfgaaAbs13
set_option linter.unusedSimpArgs false
set_option linter.unusedVariables false
namespace Go.Proofs.Ythfdgicfcjkfgaa.pageSteps
open Go.Abs Go.ChangeShapes Go.WideShapes Go.ChangeAt Go.RowKit

theorem own : ownKnob Try.prog.godebug = none := by kernel_rfl
theorem laidOut : laidOutB Try.prog = true := by kernel_rfl

set_option maxRecDepth 100000 in
theorem lifted (os : Os) (started : os.Started) (H : Type) (enc : TypeId × Value → H) :
    ReturnsInHanded {} Try.checked os 5 .any (Rows.pageStepsSpec.pre6 enc Try.prog Try.f5 Rows.pageStepsRow.domain false) (Rows.pageStepsSpec.post enc Try.prog Try.f5 false true false false) := by
  refine returnsInHanded_of_change (C := Try.checked) own started (by kernel_rfl) Try.func5
    (ChangeSpec.witness6 (enc := enc) (C := Try.checked) false ⟨#[], #[.slice none 0 0, .slice none 0 0, .agg #[.int .u8 0, .int .u8 0, .int .u8 0]], []⟩ 8 (by kernel_rfl) (by kernel_rfl) (by kernel_rfl) (by kernel_rfl)) ?_
  intro W base args ds gs before hval0 hW hcnd _
  have hval : ∀ (j : Nat) t v, Try.f5.params[j]? = some t → args[j]? = some v → Value.okWide Try.prog W .any base t v := hval0
  have hW' := hW
  obtain ⟨p, q, hA0, hV, rfl, hfz, hnd⟩ := hW
  have hA : DataW.TrodAll enc Try.prog W 0 (fun _ => true) true Try.f5.params.toList args.toList ds p := hA0
  rw [Try.params5] at hA hval
  obtain ⟨rfl, rfl⟩ := trodVars_none hV
  obtain ⟨xss, hs, hvr⟩ := args_read [22, 22, 43] args.toList ds p (by kernel_rfl) (fun j t v hj hv => Value.okWide_any_base (hval j t v (by simpa using hj) (by simpa using hv))) hA
  have hcalls := (law_PageSteps xss hs).calls hvr
  simp only [Array.toArray_toList] at hcalls
  refine hcalls.mono fun e W' ⟨he, bel⟩ => ?_
  subst he
  have hback := trodAll_below laidOut bel [22, 22, 43] args.toList ds p (by kernel_rfl) hA
  obtain ⟨v0, vs0, d0, ds0, p0, q0, hargs, rfl, rfl, -, r0⟩ := trodAll_cons hA
  obtain ⟨v1, vs1, d1, ds1, p1, q1, rfl, rfl, rfl, -, r1⟩ := trodAll_cons r0
  obtain ⟨v2, vs2, d2, ds2, p2, q2, rfl, rfl, rfl, -, r2⟩ := trodAll_cons r1
  obtain ⟨rfl, rfl, rfl⟩ := trodAll_nil r2
  exact ⟨_, rfl, _, _, _, [], _, [], hW', trodAll_mk1 (shut_bool Try.underlying4 _), hback, rfl, bel.frame _, fun h => by cases h⟩

theorem over : Rows.pageStepsRow.holds Try.pinned (OpenSpec.ofChange Rows.pageStepsSpec) :=
  OpenClaim.holds_of_wide 5 Try.f5 rfl rfl rfl rfl rfl rfl rfl ⟨rfl, rfl, rfl, rfl, rfl⟩ rfl rfl rfl rfl rfl (by kernel_rfl) Try.func5 (by kernel_rfl)
    (of_decide_eq_true (by kernel_rfl)) (by unfold Func.isWrapper; first | (rw [if_pos (by decide +kernel)]; kernel_rfl) | (rw [if_neg (by decide +kernel)]; exact ⟨rfl, rfl⟩))
    (fun os started H enc _ => lifted os started H enc)
end Go.Proofs.Ythfdgicfcjkfgaa.pageSteps

namespace Go.Proofs.Ythfdgicfcjkfgaa
theorem pageSteps_holds : Rows.PageStepsSaid := pageSteps.over
end Go.Proofs.Ythfdgicfcjkfgaa
