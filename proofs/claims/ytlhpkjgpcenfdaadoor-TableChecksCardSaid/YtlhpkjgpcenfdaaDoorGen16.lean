/-
  Own work. The generated walks, part 16: pointers.
-/
import Derived.Test.YtlhpkjgpcenfdaaDoorGen15
set_option linter.unusedSimpArgs false
set_option linter.unusedVariables false
set_option linter.unusedSimpArgs false
set_option linter.unusedVariables false
namespace Go.Abs
open Go.RowKit
section
variable {P : Program} {N : Nat} {ops : Array Oper} {env : Env} {h : Hp}
/-- The pointer to a root is not nil. -/
theorem Quiet.nilCheck {o : Oper} {x : Operand} {r ver off : Nat} (ho : o.op = .nilCheck x) (hg : gpo ops env o (gd (rdo env x) ∧ st (rdo env x) = .ref r ver off ∧ (h.at r).map (·.ver) = some ver)) :
    Quiet P ops o env h (gav ops env o (.ref r ver off)) :=
  Quiet.guarded hg fun ⟨hgd, hsl, hn⟩ X a w ι Q H hop next hnx => by
    have hv := (hop x (by simp [ho, Op.operands])).st hgd
    rw [hsl] at hv
    have hv' := hv
    obtain ⟨rt, g, _, _, _, hp⟩ := VR.ref_now hv hn
    have hex : (execOp a.eval o).run P w = .ok (.value (.pointer (some ⟨g, off, none⟩))) w := by simp [execOp, ho, hp]
    simp only [Oper.wp, hex, Oper.upon]
    refine hnx _ _ (Below.refl _ _) ?_
    rw [← hp]
    exact hv'
theorem Quiet.nilCheckI {o : Oper} {x : Operand} {cs : List IV} {off : Nat} (ho : o.op = .nilCheck x) (hg : gpo ops env o (gd (rdo env x) ∧ st (rdo env x) = .ipt cs off)) :
    Quiet P ops o env h (gav ops env o (.ipt cs off)) :=
  Quiet.guarded hg fun ⟨hgd, hsl⟩ X a w ι Q H hop next hnx => by
    have hv := (hop x (by simp [ho, Op.operands])).st hgd
    rw [hsl] at hv
    have hv' := hv
    simp only [VR] at hv
    obtain ⟨b, l, hp, _⟩ := hv
    have hex : (execOp a.eval o).run P w = .ok (.value (.pointer (some (b.add off)))) w := by simp [execOp, ho, hp]
    simp only [Oper.wp, hex, Oper.upon]
    refine hnx _ _ (Below.refl _ _) ?_
    rw [← hp]
    exact hv'
end
end Go.Abs
