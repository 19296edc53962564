/-
  Written by gen.py (own work): typed functions, and that the program computes them.
-/
import Derived.Test.YtlhpkjgpcenfdaaDoorWD1
set_option linter.unusedSimpArgs false
set_option linter.unusedVariables false
set_option maxRecDepth 100000
namespace Go.Proofs.YtlhpkjgpcenfdaaDoor
open Go.Abs
def f_R02_Check_b1 (t0 : S_Table) (loop4 : (Int) → Option (Int × Int)) (v3 : Int) (loop10 : (Int) → Option (Int × Int)) (v9 : Int) : Option (Int × Int) :=
  cond (decide (v9 < v3)) (
    G (0 ≤ v9 ∧ v9 < (t0.Rules.length : Int)) <|
    (f_R02_SameRule (t0.Rules.getD v9.toNat zS_Rule) (t0.Rules.getD v3.toNat zS_Rule)).bind fun x13 =>
    cond x13 (
      some (v3, (20 : Int))) (
      G (inR (v9 + (1 : Int))) <|
      loop10 (v9 + (1 : Int)))) (
    G (inR (v3 + (1 : Int))) <|
    loop4 (v3 + (1 : Int)))
def f_R02_Check_b2 (t0 : S_Table) (loop4 : (Int) → Option (Int × Int)) (v3 : Int) : Option (Int × Int) :=
  cond (decide (v3 < (t0.Rules.length : Int))) (
    G (0 ≤ v3 ∧ v3 < (t0.Rules.length : Int)) <|
    (f_R02_Sound (t0.Rules.getD v3.toNat zS_Rule) t0.Modes).bind fun x7 =>
    cond (!x7) (
      some (v3, (20 : Int))) (
      iter (fun loop (s : Int) => f_R02_Check_b1 t0 loop4 v3 loop s) 1000000 (0 : Int))) (
    some ((0 : Int), (0 : Int)))
def f_R02_Check (t0 : S_Table) : Option (Int × Int) :=
  G ((!(cond (cond (decide (t0.Modes < (1 : Int))) true (decide ((8 : Int) < t0.Modes))) true (t0.Accept == (0 : Int)))) = true → 0 ≤ t0.Modes) <|
  cond (cond (cond (cond (cond (cond (decide (t0.Modes < (1 : Int))) true (decide ((8 : Int) < t0.Modes))) true (t0.Accept == (0 : Int))) true (decide ((bShl .i64 (1 : Int) t0.Modes) ≤ (IntKind.wrap .i64 t0.Accept)))) true (decide ((t0.Rules.length : Int) < (1 : Int)))) true (decide ((64 : Int) < (t0.Rules.length : Int)))) (
    some ((-1 : Int), (1 : Int))) (
    iter (fun loop (s : Int) => f_R02_Check_b2 t0 loop s) 1000000 (0 : Int))
theorem f_R02_Check_ok  {t0 : S_Table} {r : Int × Int} (H : f_R02_Check t0 = some r) : QSpec Tryd.prog 19 [.agg [.int .i64 t0.Modes, .int .u8 t0.Accept, slA eS_Rule t0.Rules]] (.tup [.int .i64 r.1, .int .i64 r.2]) := by
  refine Spec.of_AW Tryd.func19 rfl (by simp [Tryd.ntmps19]) ?_
  rw [Tryd.ntmps19]
  unfold f_R02_Check at H
  change AW _ _ _ [(0, .agg [.int .i64 t0.Modes, .int .u8 t0.Accept, slA eS_Rule t0.Rules])] [] _
  refine AW.regionSeq ?_
  refine OpsW.box rfl rfl rfl 1 rfl (okCb_sound (by kernel_rfl)) ?_
  change OpsW _ _ _ _ _ [(1, ⟨0, true, 33, 3, [.int .i64 t0.Modes, .int .u8 t0.Accept, slA eS_Rule t0.Rules]⟩)] _
  refine OpsW.seg 2 [1] [] [(1, .ref 1 0 0)] (by kernel_rfl) trivial ?_
  refine OpsW.recast (env' := [(1, .ref 1 0 0)]) (h' := [(1, ⟨0, true, 33, 3, [.int .i64 t0.Modes, .int .u8 t0.Accept, slA eS_Rule t0.Rules]⟩)]) (StC.mk (phi [(1, some 1)]) (.old rfl rfl rfl rfl rfl (.cons .im (.cons .im (.cons .im .nil))) .nil) rfl (.cons (.ref rfl rfl rfl rfl rfl) .nil)) ?_
  refine OpsW.nil ?_
  refine AW.seq ?_
  refine AW.drawSeq Tryd.checked.mixed (by kernel_rfl) ?_
  obtain ⟨g1, H⟩ := G_some H
  refine QOps.seg (N := 74) 34 [(!(decide (t0.Modes < (1 : Int)))) = true → (!(decide (t0.Modes < (1 : Int)))) = true, (!(decide (t0.Modes < (1 : Int)))) = true → (!(decide (t0.Modes < (1 : Int)))) = true, (decide (t0.Modes < (1 : Int))) = false → (!(decide (t0.Modes < (1 : Int)))) = true, (!(cond (decide (t0.Modes < (1 : Int))) true (decide ((8 : Int) < t0.Modes)))) = true → (!(cond (decide (t0.Modes < (1 : Int))) true (decide ((8 : Int) < t0.Modes)))) = true, (!(cond (decide (t0.Modes < (1 : Int))) true (decide ((8 : Int) < t0.Modes)))) = true → (!(cond (decide (t0.Modes < (1 : Int))) true (decide ((8 : Int) < t0.Modes)))) = true, (cond (decide (t0.Modes < (1 : Int))) true (decide ((8 : Int) < t0.Modes))) = false → (!(cond (decide (t0.Modes < (1 : Int))) true (decide ((8 : Int) < t0.Modes)))) = true, (!(cond (cond (decide (t0.Modes < (1 : Int))) true (decide ((8 : Int) < t0.Modes))) true (t0.Accept == (0 : Int)))) = true → (!(cond (cond (decide (t0.Modes < (1 : Int))) true (decide ((8 : Int) < t0.Modes))) true (t0.Accept == (0 : Int)))) = true, (!(cond (cond (decide (t0.Modes < (1 : Int))) true (decide ((8 : Int) < t0.Modes))) true (t0.Accept == (0 : Int)))) = true → (!(cond (cond (decide (t0.Modes < (1 : Int))) true (decide ((8 : Int) < t0.Modes))) true (t0.Accept == (0 : Int)))) = true, (!(cond (cond (decide (t0.Modes < (1 : Int))) true (decide ((8 : Int) < t0.Modes))) true (t0.Accept == (0 : Int)))) = true → (!(cond (cond (decide (t0.Modes < (1 : Int))) true (decide ((8 : Int) < t0.Modes))) true (t0.Accept == (0 : Int)))) = true, (!(cond (cond (decide (t0.Modes < (1 : Int))) true (decide ((8 : Int) < t0.Modes))) true (t0.Accept == (0 : Int)))) = true → (!(cond (cond (decide (t0.Modes < (1 : Int))) true (decide ((8 : Int) < t0.Modes))) true (t0.Accept == (0 : Int)))) = true, (!(cond (cond (decide (t0.Modes < (1 : Int))) true (decide ((8 : Int) < t0.Modes))) true (t0.Accept == (0 : Int)))) = true → 0 ≤ t0.Modes, (!(cond (cond (decide (t0.Modes < (1 : Int))) true (decide ((8 : Int) < t0.Modes))) true (t0.Accept == (0 : Int)))) = true → (!(cond (cond (decide (t0.Modes < (1 : Int))) true (decide ((8 : Int) < t0.Modes))) true (t0.Accept == (0 : Int)))) = true, (!(cond (cond (decide (t0.Modes < (1 : Int))) true (decide ((8 : Int) < t0.Modes))) true (t0.Accept == (0 : Int)))) = true → (!(cond (cond (decide (t0.Modes < (1 : Int))) true (decide ((8 : Int) < t0.Modes))) true (t0.Accept == (0 : Int)))) = true, (cond (cond (decide (t0.Modes < (1 : Int))) true (decide ((8 : Int) < t0.Modes))) true (t0.Accept == (0 : Int))) = false → (!(cond (cond (decide (t0.Modes < (1 : Int))) true (decide ((8 : Int) < t0.Modes))) true (t0.Accept == (0 : Int)))) = true, (!(cond (cond (cond (decide (t0.Modes < (1 : Int))) true (decide ((8 : Int) < t0.Modes))) true (t0.Accept == (0 : Int))) true (decide ((bShl .i64 (1 : Int) t0.Modes) ≤ (IntKind.wrap .i64 t0.Accept))))) = true → (!(cond (cond (cond (decide (t0.Modes < (1 : Int))) true (decide ((8 : Int) < t0.Modes))) true (t0.Accept == (0 : Int))) true (decide ((bShl .i64 (1 : Int) t0.Modes) ≤ (IntKind.wrap .i64 t0.Accept))))) = true, (!(cond (cond (cond (decide (t0.Modes < (1 : Int))) true (decide ((8 : Int) < t0.Modes))) true (t0.Accept == (0 : Int))) true (decide ((bShl .i64 (1 : Int) t0.Modes) ≤ (IntKind.wrap .i64 t0.Accept))))) = true → (!(cond (cond (cond (decide (t0.Modes < (1 : Int))) true (decide ((8 : Int) < t0.Modes))) true (t0.Accept == (0 : Int))) true (decide ((bShl .i64 (1 : Int) t0.Modes) ≤ (IntKind.wrap .i64 t0.Accept))))) = true, (!(cond (cond (cond (decide (t0.Modes < (1 : Int))) true (decide ((8 : Int) < t0.Modes))) true (t0.Accept == (0 : Int))) true (decide ((bShl .i64 (1 : Int) t0.Modes) ≤ (IntKind.wrap .i64 t0.Accept))))) = true → (!(cond (cond (cond (decide (t0.Modes < (1 : Int))) true (decide ((8 : Int) < t0.Modes))) true (t0.Accept == (0 : Int))) true (decide ((bShl .i64 (1 : Int) t0.Modes) ≤ (IntKind.wrap .i64 t0.Accept))))) = true, (cond (cond (cond (decide (t0.Modes < (1 : Int))) true (decide ((8 : Int) < t0.Modes))) true (t0.Accept == (0 : Int))) true (decide ((bShl .i64 (1 : Int) t0.Modes) ≤ (IntKind.wrap .i64 t0.Accept)))) = false → (!(cond (cond (cond (decide (t0.Modes < (1 : Int))) true (decide ((8 : Int) < t0.Modes))) true (t0.Accept == (0 : Int))) true (decide ((bShl .i64 (1 : Int) t0.Modes) ≤ (IntKind.wrap .i64 t0.Accept))))) = true, (!(cond (cond (cond (cond (decide (t0.Modes < (1 : Int))) true (decide ((8 : Int) < t0.Modes))) true (t0.Accept == (0 : Int))) true (decide ((bShl .i64 (1 : Int) t0.Modes) ≤ (IntKind.wrap .i64 t0.Accept)))) true (decide ((t0.Rules.length : Int) < (1 : Int))))) = true → (!(cond (cond (cond (cond (decide (t0.Modes < (1 : Int))) true (decide ((8 : Int) < t0.Modes))) true (t0.Accept == (0 : Int))) true (decide ((bShl .i64 (1 : Int) t0.Modes) ≤ (IntKind.wrap .i64 t0.Accept)))) true (decide ((t0.Rules.length : Int) < (1 : Int))))) = true, (!(cond (cond (cond (cond (decide (t0.Modes < (1 : Int))) true (decide ((8 : Int) < t0.Modes))) true (t0.Accept == (0 : Int))) true (decide ((bShl .i64 (1 : Int) t0.Modes) ≤ (IntKind.wrap .i64 t0.Accept)))) true (decide ((t0.Rules.length : Int) < (1 : Int))))) = true → (!(cond (cond (cond (cond (decide (t0.Modes < (1 : Int))) true (decide ((8 : Int) < t0.Modes))) true (t0.Accept == (0 : Int))) true (decide ((bShl .i64 (1 : Int) t0.Modes) ≤ (IntKind.wrap .i64 t0.Accept)))) true (decide ((t0.Rules.length : Int) < (1 : Int))))) = true, (!(cond (cond (cond (cond (decide (t0.Modes < (1 : Int))) true (decide ((8 : Int) < t0.Modes))) true (t0.Accept == (0 : Int))) true (decide ((bShl .i64 (1 : Int) t0.Modes) ≤ (IntKind.wrap .i64 t0.Accept)))) true (decide ((t0.Rules.length : Int) < (1 : Int))))) = true → (!(cond (cond (cond (cond (decide (t0.Modes < (1 : Int))) true (decide ((8 : Int) < t0.Modes))) true (t0.Accept == (0 : Int))) true (decide ((bShl .i64 (1 : Int) t0.Modes) ≤ (IntKind.wrap .i64 t0.Accept)))) true (decide ((t0.Rules.length : Int) < (1 : Int))))) = true, (cond (cond (cond (cond (decide (t0.Modes < (1 : Int))) true (decide ((8 : Int) < t0.Modes))) true (t0.Accept == (0 : Int))) true (decide ((bShl .i64 (1 : Int) t0.Modes) ≤ (IntKind.wrap .i64 t0.Accept)))) true (decide ((t0.Rules.length : Int) < (1 : Int)))) = false → (!(cond (cond (cond (cond (decide (t0.Modes < (1 : Int))) true (decide ((8 : Int) < t0.Modes))) true (t0.Accept == (0 : Int))) true (decide ((bShl .i64 (1 : Int) t0.Modes) ≤ (IntKind.wrap .i64 t0.Accept)))) true (decide ((t0.Rules.length : Int) < (1 : Int))))) = true] [(39, .bool (cond (cond (cond (cond (cond (decide (t0.Modes < (1 : Int))) true (decide ((8 : Int) < t0.Modes))) true (t0.Accept == (0 : Int))) true (decide ((bShl .i64 (1 : Int) t0.Modes) ≤ (IntKind.wrap .i64 t0.Accept)))) true (decide ((t0.Rules.length : Int) < (1 : Int)))) true (decide ((64 : Int) < (t0.Rules.length : Int))))), (38, .cnd (!(cond (cond (cond (cond (decide (t0.Modes < (1 : Int))) true (decide ((8 : Int) < t0.Modes))) true (t0.Accept == (0 : Int))) true (decide ((bShl .i64 (1 : Int) t0.Modes) ≤ (IntKind.wrap .i64 t0.Accept)))) true (decide ((t0.Rules.length : Int) < (1 : Int))))) (.bool (decide ((64 : Int) < (t0.Rules.length : Int))))), (37, .cnd (!(cond (cond (cond (cond (decide (t0.Modes < (1 : Int))) true (decide ((8 : Int) < t0.Modes))) true (t0.Accept == (0 : Int))) true (decide ((bShl .i64 (1 : Int) t0.Modes) ≤ (IntKind.wrap .i64 t0.Accept)))) true (decide ((t0.Rules.length : Int) < (1 : Int))))) (.int .i64 (t0.Rules.length : Int))), (36, .cnd (!(cond (cond (cond (cond (decide (t0.Modes < (1 : Int))) true (decide ((8 : Int) < t0.Modes))) true (t0.Accept == (0 : Int))) true (decide ((bShl .i64 (1 : Int) t0.Modes) ≤ (IntKind.wrap .i64 t0.Accept)))) true (decide ((t0.Rules.length : Int) < (1 : Int))))) (slA eS_Rule t0.Rules)), (35, .cnd (!(cond (cond (cond (cond (decide (t0.Modes < (1 : Int))) true (decide ((8 : Int) < t0.Modes))) true (t0.Accept == (0 : Int))) true (decide ((bShl .i64 (1 : Int) t0.Modes) ≤ (IntKind.wrap .i64 t0.Accept)))) true (decide ((t0.Rules.length : Int) < (1 : Int))))) (.ref 1 0 2)), (34, .bool (cond (cond (cond (cond (decide (t0.Modes < (1 : Int))) true (decide ((8 : Int) < t0.Modes))) true (t0.Accept == (0 : Int))) true (decide ((bShl .i64 (1 : Int) t0.Modes) ≤ (IntKind.wrap .i64 t0.Accept)))) true (decide ((t0.Rules.length : Int) < (1 : Int))))), (33, .bool (cond (cond (cond (cond (decide (t0.Modes < (1 : Int))) true (decide ((8 : Int) < t0.Modes))) true (t0.Accept == (0 : Int))) true (decide ((bShl .i64 (1 : Int) t0.Modes) ≤ (IntKind.wrap .i64 t0.Accept)))) true (decide ((t0.Rules.length : Int) < (1 : Int))))), (32, .cnd (!(cond (cond (cond (decide (t0.Modes < (1 : Int))) true (decide ((8 : Int) < t0.Modes))) true (t0.Accept == (0 : Int))) true (decide ((bShl .i64 (1 : Int) t0.Modes) ≤ (IntKind.wrap .i64 t0.Accept))))) (.bool (decide ((t0.Rules.length : Int) < (1 : Int))))), (31, .cnd (!(cond (cond (cond (decide (t0.Modes < (1 : Int))) true (decide ((8 : Int) < t0.Modes))) true (t0.Accept == (0 : Int))) true (decide ((bShl .i64 (1 : Int) t0.Modes) ≤ (IntKind.wrap .i64 t0.Accept))))) (.int .i64 (t0.Rules.length : Int))), (30, .cnd (!(cond (cond (cond (decide (t0.Modes < (1 : Int))) true (decide ((8 : Int) < t0.Modes))) true (t0.Accept == (0 : Int))) true (decide ((bShl .i64 (1 : Int) t0.Modes) ≤ (IntKind.wrap .i64 t0.Accept))))) (slA eS_Rule t0.Rules)), (29, .cnd (!(cond (cond (cond (decide (t0.Modes < (1 : Int))) true (decide ((8 : Int) < t0.Modes))) true (t0.Accept == (0 : Int))) true (decide ((bShl .i64 (1 : Int) t0.Modes) ≤ (IntKind.wrap .i64 t0.Accept))))) (.ref 1 0 2)), (28, .bool (cond (cond (cond (decide (t0.Modes < (1 : Int))) true (decide ((8 : Int) < t0.Modes))) true (t0.Accept == (0 : Int))) true (decide ((bShl .i64 (1 : Int) t0.Modes) ≤ (IntKind.wrap .i64 t0.Accept))))), (27, .bool (cond (cond (cond (decide (t0.Modes < (1 : Int))) true (decide ((8 : Int) < t0.Modes))) true (t0.Accept == (0 : Int))) true (decide ((bShl .i64 (1 : Int) t0.Modes) ≤ (IntKind.wrap .i64 t0.Accept))))), (26, .cnd (!(cond (cond (decide (t0.Modes < (1 : Int))) true (decide ((8 : Int) < t0.Modes))) true (t0.Accept == (0 : Int)))) (.bool (decide ((bShl .i64 (1 : Int) t0.Modes) ≤ (IntKind.wrap .i64 t0.Accept))))), (25, .cnd (!(cond (cond (decide (t0.Modes < (1 : Int))) true (decide ((8 : Int) < t0.Modes))) true (t0.Accept == (0 : Int)))) (.int .i64 (bShl .i64 (1 : Int) t0.Modes))), (24, .cnd (!(cond (cond (decide (t0.Modes < (1 : Int))) true (decide ((8 : Int) < t0.Modes))) true (t0.Accept == (0 : Int)))) (.int .i64 t0.Modes)), (23, .cnd (!(cond (cond (decide (t0.Modes < (1 : Int))) true (decide ((8 : Int) < t0.Modes))) true (t0.Accept == (0 : Int)))) (.ref 1 0 0)), (22, .cnd (!(cond (cond (decide (t0.Modes < (1 : Int))) true (decide ((8 : Int) < t0.Modes))) true (t0.Accept == (0 : Int)))) (.int .i64 (IntKind.wrap .i64 t0.Accept))), (21, .cnd (!(cond (cond (decide (t0.Modes < (1 : Int))) true (decide ((8 : Int) < t0.Modes))) true (t0.Accept == (0 : Int)))) (.int .u8 t0.Accept)), (20, .cnd (!(cond (cond (decide (t0.Modes < (1 : Int))) true (decide ((8 : Int) < t0.Modes))) true (t0.Accept == (0 : Int)))) (.ref 1 0 1)), (19, .bool (cond (cond (decide (t0.Modes < (1 : Int))) true (decide ((8 : Int) < t0.Modes))) true (t0.Accept == (0 : Int)))), (18, .bool (cond (cond (decide (t0.Modes < (1 : Int))) true (decide ((8 : Int) < t0.Modes))) true (t0.Accept == (0 : Int)))), (17, .cnd (!(cond (decide (t0.Modes < (1 : Int))) true (decide ((8 : Int) < t0.Modes)))) (.bool (t0.Accept == (0 : Int)))), (16, .cnd (!(cond (decide (t0.Modes < (1 : Int))) true (decide ((8 : Int) < t0.Modes)))) (.int .u8 t0.Accept)), (15, .cnd (!(cond (decide (t0.Modes < (1 : Int))) true (decide ((8 : Int) < t0.Modes)))) (.ref 1 0 1)), (14, .bool (cond (decide (t0.Modes < (1 : Int))) true (decide ((8 : Int) < t0.Modes)))), (13, .bool (cond (decide (t0.Modes < (1 : Int))) true (decide ((8 : Int) < t0.Modes)))), (12, .cnd (!(decide (t0.Modes < (1 : Int)))) (.bool (decide ((8 : Int) < t0.Modes)))), (11, .cnd (!(decide (t0.Modes < (1 : Int)))) (.int .i64 t0.Modes)), (10, .cnd (!(decide (t0.Modes < (1 : Int)))) (.ref 1 0 0)), (9, .bool (decide (t0.Modes < (1 : Int)))), (8, .bool (decide (t0.Modes < (1 : Int)))), (7, .int .i64 t0.Modes), (6, .ref 1 0 0), (1, .ref 1 0 0)] (by kernel_rfl) ⟨(fun h => h), (fun h => h), (fun h => by first | exact h | simpa using h), (fun h => h), (fun h => h), (fun h => by first | exact h | simpa using h), (fun h => h), (fun h => h), (fun h => h), (fun h => h), g1, (fun h => h), (fun h => h), (fun h => by first | exact h | simpa using h), (fun h => h), (fun h => h), (fun h => h), (fun h => by first | exact h | simpa using h), (fun h => h), (fun h => h), (fun h => h), (fun h => by first | exact h | simpa using h), trivial⟩ ?_
  refine QOps.nil ?_
  refine AW.trim [39, 1] [(39, .bool (cond (cond (cond (cond (cond (decide (t0.Modes < (1 : Int))) true (decide ((8 : Int) < t0.Modes))) true (t0.Accept == (0 : Int))) true (decide ((bShl .i64 (1 : Int) t0.Modes) ≤ (IntKind.wrap .i64 t0.Accept)))) true (decide ((t0.Rules.length : Int) < (1 : Int)))) true (decide ((64 : Int) < (t0.Rules.length : Int))))), (1, .ref 1 0 0)] (by kernel_rfl) ?_
  refine AW.cond (b := cond (cond (cond (cond (cond (decide (t0.Modes < (1 : Int))) true (decide ((8 : Int) < t0.Modes))) true (t0.Accept == (0 : Int))) true (decide ((bShl .i64 (1 : Int) t0.Modes) ≤ (IntKind.wrap .i64 t0.Accept)))) true (decide ((t0.Rules.length : Int) < (1 : Int)))) true (decide ((64 : Int) < (t0.Rules.length : Int)))) rfl (fun c2 => ?_) (fun c2 => ?_)
  · replace H := condT c2 H
    refine AW.regionSeq ?_
    refine OpsW.seg 2 [3, 2] [] [(3, .int .i64 1), (2, .int .i64 (-1 : Int))] (by kernel_rfl) trivial ?_
    refine OpsW.nil ?_
    obtain rfl := Option.some.inj H
    refine AW.recast (env' := [(2, .int .i64 (-1 : Int)), (3, .int .i64 1)]) (h' := []) (StC.pure (.cons .im (.cons .im .nil))) ?_
    refine AW.ret ?_
    try simp only [Ex.then, Ex.inBlock, Ex.noGoto, Ex.jump, reduceIte, Nat.reduceEqDiff, reduceCtorEq]
    refine Done.gen rfl (.tmp (.tmp .nil)) ?_
    show _ = _
    kernel_rfl
  · replace H := condF c2 H
    refine AW.skip ?_
    refine AW.seq ?_
    refine AW.regionSeq ?_
    refine OpsW.seg 1 [4, 1] [] [(4, .int .i64 0), (1, .ref 1 0 0)] (by kernel_rfl) trivial ?_
    refine OpsW.nil ?_
    refine AW.block ?_
    refine AW.iterK (fun loop (s : Int) => f_R02_Check_b2 t0 loop s) r (fun (s : Int) => [(1, .ref 1 0 0), (4, .int .i64 s)]) (fun (s : Int) => [(1, ⟨0, true, 33, 3, [.int .i64 t0.Modes, .int .u8 t0.Accept, slA eS_Rule t0.Rules]⟩)]) ?_ 1000000 (0 : Int) H (StC.mk (phi [(1, some 1)]) (.old rfl rfl rfl rfl rfl (.cons .im (.cons .im (.cons .im .nil))) .nil) rfl (.cons (.ref rfl rfl rfl rfl rfl) (.cons .im .nil)))
    intro loop4 v3 H
    change f_R02_Check_b2 t0 loop4 v3 = some r at H
    unfold f_R02_Check_b2 at H
    change AW _ _ _ [(1, .ref 1 0 0), (4, .int .i64 v3)] [(1, ⟨0, true, 33, 3, [.int .i64 t0.Modes, .int .u8 t0.Accept, slA eS_Rule t0.Rules]⟩)] _
    refine AW.seq ?_
    refine AW.regionSeq ?_
    refine OpsW.seg 5 [44, 1, 4] [] [(44, .bool (decide (v3 < (t0.Rules.length : Int)))), (1, .ref 1 0 0), (4, .int .i64 v3)] (by kernel_rfl) trivial ?_
    refine OpsW.nil ?_
    refine AW.cond (b := decide (v3 < (t0.Rules.length : Int))) rfl (fun c5 => ?_) (fun c5 => ?_)
    · replace H := condT c5 H
      refine AW.skip ?_
      refine AW.seq ?_
      refine AW.block ?_
      refine AW.seq ?_
      refine AW.drawSeq Tryd.checked.mixed (by kernel_rfl) ?_
      obtain ⟨g6, H⟩ := G_some H
      refine QOps.seg (N := 74) 4 [0 ≤ v3 ∧ v3 < (t0.Rules.length : Int)] [(50, .ipt (t0.Rules.flatMap eS_Rule) (v3.toNat * 6)), (49, .int .i64 v3), (48, slA eS_Rule t0.Rules), (47, .ref 1 0 2), (44, .bool (decide (v3 < (t0.Rules.length : Int)))), (1, .ref 1 0 0), (4, .int .i64 v3)] (by kernel_rfl) ⟨g6, trivial⟩ ?_
      refine QOps.asU (.agg [.string ((t0.Rules.getD v3.toNat zS_Rule).Print), slA (eI .u8) ((t0.Rules.getD v3.toNat zS_Rule).Cells), .int .u8 ((t0.Rules.getD v3.toNat zS_Rule).Left), .int .u8 ((t0.Rules.getD v3.toNat zS_Rule).Right), .int .i64 ((t0.Rules.getD v3.toNat zS_Rule).From), .int .i64 ((t0.Rules.getD v3.toNat zS_Rule).To)]) rfl (T.loadAgg (cs := t0.Rules.flatMap eS_Rule) (off := v3.toNat * 6) (ds := eS_Rule (t0.Rules.getD v3.toNat zS_Rule)) rfl trivial (by kernel_rfl) (by have := fm_length eS_Rule 6 (fun _ => rfl) t0.Rules; have := (ltN g6); omega) (fm_elem eS_Rule 6 (fun _ => rfl) t0.Rules zS_Rule v3.toNat (ltN g6))) ?_
      refine QOps.seg (N := 74) 2 [] [(53, .int .i64 t0.Modes), (52, .ref 1 0 0), (51, .agg [.string ((t0.Rules.getD v3.toNat zS_Rule).Print), slA (eI .u8) ((t0.Rules.getD v3.toNat zS_Rule).Cells), .int .u8 ((t0.Rules.getD v3.toNat zS_Rule).Left), .int .u8 ((t0.Rules.getD v3.toNat zS_Rule).Right), .int .i64 ((t0.Rules.getD v3.toNat zS_Rule).From), .int .i64 ((t0.Rules.getD v3.toNat zS_Rule).To)]), (50, .ipt (t0.Rules.flatMap eS_Rule) (v3.toNat * 6)), (49, .int .i64 v3), (48, slA eS_Rule t0.Rules), (47, .ref 1 0 2), (44, .bool (decide (v3 < (t0.Rules.length : Int)))), (1, .ref 1 0 0), (4, .int .i64 v3)] (by kernel_rfl) trivial ?_
      obtain ⟨x7, hx7, H⟩ := bindS H
      refine QOps.qcall rfl (by kernel_rfl) rfl (glAll_sound trivial) (.cons (.pur rfl) (.cons (.pur rfl) .nil)) (f_R02_Sound_ok hx7) rfl ?_
      refine QOps.seg (N := 74) 1 [] [(55, .bool (!x7)), (54, .bool x7), (53, .int .i64 t0.Modes), (52, .ref 1 0 0), (51, .agg [.string ((t0.Rules.getD v3.toNat zS_Rule).Print), slA (eI .u8) ((t0.Rules.getD v3.toNat zS_Rule).Cells), .int .u8 ((t0.Rules.getD v3.toNat zS_Rule).Left), .int .u8 ((t0.Rules.getD v3.toNat zS_Rule).Right), .int .i64 ((t0.Rules.getD v3.toNat zS_Rule).From), .int .i64 ((t0.Rules.getD v3.toNat zS_Rule).To)]), (50, .ipt (t0.Rules.flatMap eS_Rule) (v3.toNat * 6)), (49, .int .i64 v3), (48, slA eS_Rule t0.Rules), (47, .ref 1 0 2), (44, .bool (decide (v3 < (t0.Rules.length : Int)))), (1, .ref 1 0 0), (4, .int .i64 v3)] (by kernel_rfl) trivial ?_
      refine QOps.nil ?_
      refine AW.trim [55, 1, 4] [(55, .bool (!x7)), (1, .ref 1 0 0), (4, .int .i64 v3)] (by kernel_rfl) ?_
      refine AW.cond (b := !x7) rfl (fun c8 => ?_) (fun c8 => ?_)
      · replace H := condT c8 H
        refine AW.regionSeq ?_
        refine OpsW.seg 3 [3, 2] [] [(3, .int .i64 20), (2, .int .i64 v3)] (by kernel_rfl) trivial ?_
        refine OpsW.nil ?_
        obtain rfl := Option.some.inj H
        refine AW.recast (env' := [(2, .int .i64 v3), (3, .int .i64 20)]) (h' := []) (StC.pure (.cons .im (.cons .im .nil))) ?_
        refine AW.ret ?_
        try simp only [Ex.then, Ex.inBlock, Ex.noGoto, Ex.jump, reduceIte, Nat.reduceEqDiff, reduceCtorEq]
        refine Done.gen rfl (.tmp (.tmp .nil)) ?_
        show _ = _
        kernel_rfl
      · replace H := condF c8 H
        refine AW.skip ?_
        refine AW.regionSeq ?_
        refine OpsW.seg 1 [5, 1, 4] [] [(5, .int .i64 0), (1, .ref 1 0 0), (4, .int .i64 v3)] (by kernel_rfl) trivial ?_
        refine OpsW.nil ?_
        refine AW.block ?_
        refine AW.iterK (fun loop (s : Int) => f_R02_Check_b1 t0 loop4 v3 loop s) r (fun (s : Int) => [(1, .ref 1 0 0), (4, .int .i64 v3), (5, .int .i64 s)]) (fun (s : Int) => [(1, ⟨0, true, 33, 3, [.int .i64 t0.Modes, .int .u8 t0.Accept, slA eS_Rule t0.Rules]⟩)]) ?_ 1000000 (0 : Int) H (StC.mk (phi [(1, some 1)]) (.old rfl rfl rfl rfl rfl (.cons .im (.cons .im (.cons .im .nil))) .nil) rfl (.cons (.ref rfl rfl rfl rfl rfl) (.cons .im (.cons .im .nil))))
        intro loop10 v9 H
        change f_R02_Check_b1 t0 loop4 v3 loop10 v9 = some r at H
        unfold f_R02_Check_b1 at H
        change AW _ _ _ [(1, .ref 1 0 0), (4, .int .i64 v3), (5, .int .i64 v9)] [(1, ⟨0, true, 33, 3, [.int .i64 t0.Modes, .int .u8 t0.Accept, slA eS_Rule t0.Rules]⟩)] _
        refine AW.seq ?_
        refine AW.regionSeq ?_
        refine OpsW.seg 3 [59, 1, 4, 5] [] [(59, .bool (decide (v9 < v3))), (1, .ref 1 0 0), (4, .int .i64 v3), (5, .int .i64 v9)] (by kernel_rfl) trivial ?_
        refine OpsW.nil ?_
        refine AW.cond (b := decide (v9 < v3)) rfl (fun c11 => ?_) (fun c11 => ?_)
        · replace H := condT c11 H
          refine AW.skip ?_
          refine AW.seq ?_
          refine AW.block ?_
          refine AW.drawSeq Tryd.checked.mixed (by kernel_rfl) ?_
          obtain ⟨g12, H⟩ := G_some H
          refine QOps.seg (N := 74) 4 [0 ≤ v9 ∧ v9 < (t0.Rules.length : Int)] [(65, .ipt (t0.Rules.flatMap eS_Rule) (v9.toNat * 6)), (64, .int .i64 v9), (63, slA eS_Rule t0.Rules), (62, .ref 1 0 2), (59, .bool (decide (v9 < v3))), (1, .ref 1 0 0), (4, .int .i64 v3), (5, .int .i64 v9)] (by kernel_rfl) ⟨g12, trivial⟩ ?_
          refine QOps.asU (.agg [.string ((t0.Rules.getD v9.toNat zS_Rule).Print), slA (eI .u8) ((t0.Rules.getD v9.toNat zS_Rule).Cells), .int .u8 ((t0.Rules.getD v9.toNat zS_Rule).Left), .int .u8 ((t0.Rules.getD v9.toNat zS_Rule).Right), .int .i64 ((t0.Rules.getD v9.toNat zS_Rule).From), .int .i64 ((t0.Rules.getD v9.toNat zS_Rule).To)]) rfl (T.loadAgg (cs := t0.Rules.flatMap eS_Rule) (off := v9.toNat * 6) (ds := eS_Rule (t0.Rules.getD v9.toNat zS_Rule)) rfl trivial (by kernel_rfl) (by have := fm_length eS_Rule 6 (fun _ => rfl) t0.Rules; have := (ltN g12); omega) (fm_elem eS_Rule 6 (fun _ => rfl) t0.Rules zS_Rule v9.toNat (ltN g12))) ?_
          refine QOps.seg (N := 74) 4 [0 ≤ v3 ∧ v3 < (t0.Rules.length : Int)] [(70, .ipt (t0.Rules.flatMap eS_Rule) (v3.toNat * 6)), (69, .int .i64 v3), (68, slA eS_Rule t0.Rules), (67, .ref 1 0 2), (66, .agg [.string ((t0.Rules.getD v9.toNat zS_Rule).Print), slA (eI .u8) ((t0.Rules.getD v9.toNat zS_Rule).Cells), .int .u8 ((t0.Rules.getD v9.toNat zS_Rule).Left), .int .u8 ((t0.Rules.getD v9.toNat zS_Rule).Right), .int .i64 ((t0.Rules.getD v9.toNat zS_Rule).From), .int .i64 ((t0.Rules.getD v9.toNat zS_Rule).To)]), (65, .ipt (t0.Rules.flatMap eS_Rule) (v9.toNat * 6)), (64, .int .i64 v9), (63, slA eS_Rule t0.Rules), (62, .ref 1 0 2), (59, .bool (decide (v9 < v3))), (1, .ref 1 0 0), (4, .int .i64 v3), (5, .int .i64 v9)] (by kernel_rfl) ⟨g6, trivial⟩ ?_
          refine QOps.asU (.agg [.string ((t0.Rules.getD v3.toNat zS_Rule).Print), slA (eI .u8) ((t0.Rules.getD v3.toNat zS_Rule).Cells), .int .u8 ((t0.Rules.getD v3.toNat zS_Rule).Left), .int .u8 ((t0.Rules.getD v3.toNat zS_Rule).Right), .int .i64 ((t0.Rules.getD v3.toNat zS_Rule).From), .int .i64 ((t0.Rules.getD v3.toNat zS_Rule).To)]) rfl (T.loadAgg (cs := t0.Rules.flatMap eS_Rule) (off := v3.toNat * 6) (ds := eS_Rule (t0.Rules.getD v3.toNat zS_Rule)) rfl trivial (by kernel_rfl) (by have := fm_length eS_Rule 6 (fun _ => rfl) t0.Rules; have := (ltN g6); omega) (fm_elem eS_Rule 6 (fun _ => rfl) t0.Rules zS_Rule v3.toNat (ltN g6))) ?_
          obtain ⟨x13, hx13, H⟩ := bindS H
          refine QOps.qcall rfl (by kernel_rfl) rfl (glAll_sound trivial) (.cons (.pur rfl) (.cons (.pur rfl) .nil)) (f_R02_SameRule_ok hx13) rfl ?_
          refine QOps.nil ?_
          refine AW.trim [72, 1, 4, 5] [(72, .bool x13), (1, .ref 1 0 0), (4, .int .i64 v3), (5, .int .i64 v9)] (by kernel_rfl) ?_
          refine AW.cond (b := x13) rfl (fun c14 => ?_) (fun c14 => ?_)
          · replace H := condT c14 H
            refine AW.regionSeq ?_
            refine OpsW.seg 3 [3, 2] [] [(3, .int .i64 20), (2, .int .i64 v3)] (by kernel_rfl) trivial ?_
            refine OpsW.nil ?_
            obtain rfl := Option.some.inj H
            refine AW.recast (env' := [(2, .int .i64 v3), (3, .int .i64 20)]) (h' := []) (StC.pure (.cons .im (.cons .im .nil))) ?_
            refine AW.ret ?_
            try simp only [Ex.then, Ex.inBlock, Ex.noGoto, Ex.jump, reduceIte, Nat.reduceEqDiff, reduceCtorEq]
            refine Done.gen rfl (.tmp (.tmp .nil)) ?_
            show _ = _
            kernel_rfl
          · replace H := condF c14 H
            refine AW.skip ?_
            refine AW.region ?_
            obtain ⟨g15, H⟩ := G_some H
            refine OpsW.seg 3 [5, 1, 4] [inR (v9 + (1 : Int))] [(5, .int .i64 (v9 + (1 : Int))), (1, .ref 1 0 0), (4, .int .i64 v3)] (by kernel_rfl) ⟨g15, trivial⟩ ?_
            refine OpsW.nil ?_
            show ∃ y, _ ∧ StC _ _ _ _
            exact ⟨v9 + (1 : Int), H, (StC.mk (phi [(1, some 1)]) (.old rfl rfl rfl rfl rfl (.cons .im (.cons .im (.cons .im .nil))) .nil) rfl (.cons (.ref rfl rfl rfl rfl rfl) (.cons .im (.cons .im .nil))))⟩
        · replace H := condF c11 H
          refine AW.exit ?_
          refine AW.region ?_
          obtain ⟨g16, H⟩ := G_some H
          refine OpsW.seg 3 [4, 1] [inR (v3 + (1 : Int))] [(4, .int .i64 (v3 + (1 : Int))), (1, .ref 1 0 0)] (by kernel_rfl) ⟨g16, trivial⟩ ?_
          refine OpsW.nil ?_
          show ∃ y, _ ∧ StC _ _ _ _
          exact ⟨v3 + (1 : Int), H, (StC.mk (phi [(1, some 1)]) (.old rfl rfl rfl rfl rfl (.cons .im (.cons .im (.cons .im .nil))) .nil) rfl (.cons (.ref rfl rfl rfl rfl rfl) (.cons .im .nil)))⟩
    · replace H := condF c5 H
      refine AW.exit ?_
      refine AW.regionSeq ?_
      refine OpsW.seg 2 [3, 2] [] [(3, .int .i64 0), (2, .int .i64 0)] (by kernel_rfl) trivial ?_
      refine OpsW.nil ?_
      obtain rfl := Option.some.inj H
      refine AW.recast (env' := [(2, .int .i64 0), (3, .int .i64 0)]) (h' := []) (StC.pure (.cons .im (.cons .im .nil))) ?_
      refine AW.ret ?_
      try simp only [Ex.then, Ex.inBlock, Ex.noGoto, Ex.jump, reduceIte, Nat.reduceEqDiff, reduceCtorEq]
      refine Done.gen rfl (.tmp (.tmp .nil)) ?_
      show _ = _
      kernel_rfl
def f_R02_Valid (t0 : S_Table) : Option Bool :=
  (f_R02_Check t0).bind fun x1 =>
  some (x1.2 == (0 : Int))
theorem f_R02_Valid_ok  {t0 : S_Table} {r : Bool} (H : f_R02_Valid t0 = some r) : QSpec Tryd.prog 35 [.agg [.int .i64 t0.Modes, .int .u8 t0.Accept, slA eS_Rule t0.Rules]] (.bool r) := by
  refine Spec.of_AW Tryd.func35 rfl (by simp [Tryd.ntmps35]) ?_
  rw [Tryd.ntmps35]
  unfold f_R02_Valid at H
  change AW _ _ _ [(0, .agg [.int .i64 t0.Modes, .int .u8 t0.Accept, slA eS_Rule t0.Rules])] [] _
  refine AW.regionSeq ?_
  refine OpsW.box rfl rfl rfl 1 rfl (okCb_sound (by kernel_rfl)) ?_
  change OpsW _ _ _ _ _ [(1, ⟨0, true, 33, 3, [.int .i64 t0.Modes, .int .u8 t0.Accept, slA eS_Rule t0.Rules]⟩)] _
  refine OpsW.seg 1 [1] [] [(1, .ref 1 0 0)] (by kernel_rfl) trivial ?_
  refine OpsW.recast (env' := [(1, .ref 1 0 0)]) (h' := [(1, ⟨0, true, 33, 3, [.int .i64 t0.Modes, .int .u8 t0.Accept, slA eS_Rule t0.Rules]⟩)]) (StC.mk (phi [(1, some 1)]) (.old rfl rfl rfl rfl rfl (.cons .im (.cons .im (.cons .im .nil))) .nil) rfl (.cons (.ref rfl rfl rfl rfl rfl) .nil)) ?_
  refine OpsW.nil ?_
  refine AW.regionSeq ?_
  refine OpsW.seg 1 [6] [] [(6, .agg [.int .i64 t0.Modes, .int .u8 t0.Accept, slA eS_Rule t0.Rules])] (by kernel_rfl) trivial ?_
  obtain ⟨x1, hx1, H⟩ := bindS H
  refine OpsW.qcall rfl (by kernel_rfl) rfl rfl (glAll_sound trivial) (.cons (.pur rfl) .nil) (f_R02_Check_ok hx1) rfl ?_
  refine OpsW.seg 5 [4] [] [(4, .int .i64 x1.2)] (by kernel_rfl) trivial ?_
  refine OpsW.nil ?_
  refine AW.regionSeq ?_
  refine OpsW.seg 3 [2] [] [(2, .bool (x1.2 == (0 : Int)))] (by kernel_rfl) trivial ?_
  refine OpsW.nil ?_
  obtain rfl := Option.some.inj H
  refine AW.recast (env' := [(2, .bool (x1.2 == (0 : Int)))]) (h' := []) (StC.pure (.cons .im .nil)) ?_
  refine AW.ret ?_
  try simp only [Ex.then, Ex.inBlock, Ex.noGoto, Ex.jump, reduceIte, Nat.reduceEqDiff, reduceCtorEq]
  refine Done.gen rfl (.tmp .nil) ?_
  show _ = _
  kernel_rfl
end Go.Proofs.YtlhpkjgpcenfdaaDoor
