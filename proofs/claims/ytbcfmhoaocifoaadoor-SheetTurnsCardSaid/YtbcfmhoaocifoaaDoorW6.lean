/-
  Written by gen.py (own work): typed functions, and that the program computes them.
-/
import Derived.Test.YtbcfmhoaocifoaaDoorW5
set_option linter.unusedSimpArgs false
set_option linter.unusedVariables false
set_option maxRecDepth 100000
namespace Go.Proofs.YtbcfmhoaocifoaaDoor
open Go.Abs
section
variable (t0 : List (List Int)) (t1 : Int) (v2 : Int) (x6 : Bool)
end
section
variable (t0 : List (List Int)) (t1 : Int) (t2 : Int)
end
def f_R01_Has (t0 : Int) (t1 : Int) : Option Bool :=
  G (inR (t1 - 1)) <|
  G (0 ≤ (t1 - 1)) <|
  some ((bAnd .u8 (bShr .u8 t0 (t1 - 1)) (1 : Int)) == 1)
theorem f_R01_Has_ok  {t0 : Int} {t1 : Int} {r : Bool} (H : f_R01_Has t0 t1 = some r) : QSpec Tryd.prog 42 [.int .u8 t0, .int .i64 t1] (.bool r) := by
  refine Spec.of_AW Tryd.func42 rfl (by simp [Tryd.ntmps42]) ?_
  rw [Tryd.ntmps42]
  unfold f_R01_Has at H
  change AW _ _ _ [(0, .int .u8 t0), (1, .int .i64 t1)] [] _
  refine AW.regionSeq (OpsW.sg 1 [0, 1] [(0, .int .u8 t0), (1, .int .i64 t1)] ?_)
  refine OpsW.nil (AW.regionSeq ?_)
  obtain ⟨g1, H⟩ := G_some H
  obtain ⟨g2, H⟩ := G_some H
  refine OpsW.sq 7 [4] [inR (t1 - 1), 0 ≤ (t1 - 1)] [(4, .bool ((bAnd .u8 (bShr .u8 t0 (t1 - 1)) (1 : Int)) == 1))] ⟨g1, g2, trivial⟩ ?_
  refine OpsW.nil ?_
  obtain rfl := Option.some.inj H
  refine AW.recast (env' := [(4, .bool ((bAnd .u8 (bShr .u8 t0 (t1 - 1)) (1 : Int)) == 1))]) (h' := []) (StC.pure (.cons .im .nil)) ?_
  refine AW.ret ?_
  refine Done.gen rfl (.tmp .nil) ?_
  show _ = _
  kernel_rfl
section
variable (t1 : Int) (t2 : Int)
end
section
variable (t0 : S_Leaf) (t1 : S_Format) (v8 : S_Leaf) (v9 : S_Plate) (v10 : S_Plate) (v11 : Int) (v14 : S_Leaf) (v15 : S_Plate) (v16 : S_Plate) (v17 : Int) (x7 : S_Plate) (x21 : Bool) (x26 : Bool)
end
end Go.Proofs.YtbcfmhoaocifoaaDoor
