/-
  Written by gen.py (own work): typed functions, and that the program computes them.
-/
import Derived.Test.YtfpcbalkioolmaaDoorW1
set_option linter.unusedSimpArgs false
set_option linter.unusedVariables false
set_option maxRecDepth 100000
namespace Go.Proofs.YtfpcbalkioolmaaDoor
open Go.Abs
def f_formula_arity_k1  : Option (Int × Bool) :=
  some ((0 : Int), false)
def f_formula_arity_k2 (t0 : S_Node) (v5 : Bool) : Option (Int × Bool) :=
  cond v5 (
    some ((1 : Int), t0.N == (0 : Int))) (
    cond (t0.Op == (12 : Int)) (
      cond (cond (decide (t0.N < (2 : Int))) true (decide ((5 : Int) < t0.N))) (
        some ((0 : Int), false)) (
        G (inR (t0.N + (1 : Int))) <|
        some (t0.N + (1 : Int), true))) (
      cond (t0.Op == (13 : Int)) (
        cond (decide (t0.N < (0 : Int))) (
          some ((0 : Int), false)) (
          G (inR (Int.tdiv t0.N (8 : Int))) <|
          G (inR ((Int.tdiv t0.N (8 : Int)) * (Int.tmod t0.N (8 : Int)))) <|
          some ((Int.tdiv t0.N (8 : Int)) * (Int.tmod t0.N (8 : Int)), cond (cond (cond (decide ((1 : Int) ≤ (Int.tdiv t0.N (8 : Int)))) (decide ((Int.tdiv t0.N (8 : Int)) ≤ (4 : Int))) false) (decide ((1 : Int) ≤ (Int.tmod t0.N (8 : Int)))) false) (decide ((Int.tmod t0.N (8 : Int)) ≤ (4 : Int))) false))) (
        f_formula_arity_k1)))
def f_formula_arity_k3 (t0 : S_Node) (v3 : Bool) : Option (Int × Bool) :=
  cond v3 (
    some ((2 : Int), t0.N == (0 : Int))) (
    cond (t0.Op == (9 : Int)) (
      f_formula_arity_k2 t0 (t0.Op == (9 : Int))) (
      cond (t0.Op == (10 : Int)) (
        f_formula_arity_k2 t0 (t0.Op == (10 : Int))) (
        f_formula_arity_k2 t0 (t0.Op == (11 : Int)))))
def f_formula_arity (t0 : S_Node) : Option (Int × Bool) :=
  cond (t0.Op == (0 : Int)) (
    some ((0 : Int), cond (decide ((0 : Int) ≤ t0.N)) (decide (t0.N ≤ (99999 : Int))) false)) (
    cond (t0.Op == (1 : Int)) (
      some ((0 : Int), cond (decide ((0 : Int) ≤ t0.N)) (decide (t0.N ≤ (25 : Int))) false)) (
      cond (t0.Op == (2 : Int)) (
        f_formula_arity_k3 t0 (t0.Op == (2 : Int))) (
        cond (t0.Op == (3 : Int)) (
          f_formula_arity_k3 t0 (t0.Op == (3 : Int))) (
          cond (t0.Op == (4 : Int)) (
            f_formula_arity_k3 t0 (t0.Op == (4 : Int))) (
            cond (t0.Op == (5 : Int)) (
              f_formula_arity_k3 t0 (t0.Op == (5 : Int))) (
              cond (t0.Op == (6 : Int)) (
                f_formula_arity_k3 t0 (t0.Op == (6 : Int))) (
                cond (t0.Op == (7 : Int)) (
                  f_formula_arity_k3 t0 (t0.Op == (7 : Int))) (
                  f_formula_arity_k3 t0 (t0.Op == (8 : Int))))))))))
theorem f_formula_arity_ok  {t0 : S_Node} {r : Int × Bool} (H : f_formula_arity t0 = some r) : QSpec Tryd.prog 83 [.agg [.int .i64 t0.Op, .int .i64 t0.N]] (.tup [.int .i64 r.1, .bool r.2]) := by
  refine Spec.of_AW Tryd.func83 rfl (by simp [Tryd.ntmps83]) ?_
  rw [Tryd.ntmps83]
  unfold f_formula_arity at H
  change AW _ _ _ [(0, .agg [.int .i64 t0.Op, .int .i64 t0.N])] [] _
  refine AW.regionSeq ?_
  refine OpsW.box rfl rfl rfl 1 rfl (okCb_sound (by kernel_rfl)) ?_
  change OpsW _ _ _ _ _ [(1, ⟨0, true, 50, 2, [.int .i64 t0.Op, .int .i64 t0.N]⟩)] _
  refine OpsW.seg 2 [1] [] [(1, .ref 1 0 0)] (by kernel_rfl) trivial ?_
  refine OpsW.recast (env' := [(1, .ref 1 0 0)]) (h' := [(1, ⟨0, true, 50, 2, [.int .i64 t0.Op, .int .i64 t0.N]⟩)]) (StC.mk (phi [(1, some 1)]) (.old rfl rfl rfl rfl rfl (.cons .im (.cons .im .nil)) .nil) rfl (.cons (.ref rfl rfl rfl rfl rfl) .nil)) ?_
  refine OpsW.nil ?_
  refine AW.joinK (fun (y : Unit) => f_formula_arity_k1) r (fun (y : Unit) => []) (fun (y : Unit) => []) ?_ ?_
  · refine AW.regionSeq ?_
    refine OpsW.seg 2 [7, 1] [] [(7, .int .i64 t0.Op), (1, .ref 1 0 0)] (by kernel_rfl) trivial ?_
    refine OpsW.nil ?_
    refine AW.block ?_
    refine AW.regionSeq ?_
    refine OpsW.seg 2 [8, 7, 1] [] [(8, .bool (t0.Op == (0 : Int))), (7, .int .i64 t0.Op), (1, .ref 1 0 0)] (by kernel_rfl) trivial ?_
    refine OpsW.nil ?_
    refine AW.cond (b := t0.Op == (0 : Int)) rfl (fun c1 => ?_) (fun c1 => ?_)
    · replace H := condT c1 H
      refine AW.drawSeq Tryd.checked.mixed (by kernel_rfl) ?_
      refine QOps.seg (N := 87) 10 [(decide ((0 : Int) ≤ t0.N)) = true → (decide ((0 : Int) ≤ t0.N)) = true, (decide ((0 : Int) ≤ t0.N)) = true → (decide ((0 : Int) ≤ t0.N)) = true, (decide ((0 : Int) ≤ t0.N)) = true → (decide ((0 : Int) ≤ t0.N)) = true] [(3, .bool (cond (decide ((0 : Int) ≤ t0.N)) (decide (t0.N ≤ (99999 : Int))) false)), (2, .int .i64 0), (17, .bool (cond (decide ((0 : Int) ≤ t0.N)) (decide (t0.N ≤ (99999 : Int))) false)), (16, .cnd (decide ((0 : Int) ≤ t0.N)) (.bool (decide (t0.N ≤ (99999 : Int))))), (15, .cnd (decide ((0 : Int) ≤ t0.N)) (.int .i64 t0.N)), (14, .cnd (decide ((0 : Int) ≤ t0.N)) (.ref 1 0 1)), (13, .bool (decide ((0 : Int) ≤ t0.N))), (12, .bool (decide ((0 : Int) ≤ t0.N))), (11, .int .i64 t0.N), (10, .ref 1 0 1), (8, .bool (t0.Op == (0 : Int))), (7, .int .i64 t0.Op), (1, .ref 1 0 0)] (by kernel_rfl) ⟨(fun h => h), (fun h => h), (fun h => by first | exact h | (simpa using h) | grind), trivial⟩ ?_
      refine QOps.nil ?_
      refine AW.trim [3, 2] [(3, .bool (cond (decide ((0 : Int) ≤ t0.N)) (decide (t0.N ≤ (99999 : Int))) false)), (2, .int .i64 0)] (by kernel_rfl) ?_
      obtain rfl := Option.some.inj H
      refine AW.recast (env' := [(2, .int .i64 0), (3, .bool (cond (decide ((0 : Int) ≤ t0.N)) (decide (t0.N ≤ (99999 : Int))) false))]) (h' := []) (StC.pure (.cons .im (.cons .im .nil))) ?_
      refine AW.ret ?_
      try simp only [Ex.then, Ex.inBlock, Ex.noGoto, Ex.jump, reduceIte, Nat.reduceEqDiff, reduceCtorEq]
      refine Done.gen rfl (.tmp (.tmp .nil)) ?_
      show _ = _
      kernel_rfl
    · replace H := condF c1 H
      refine AW.regionSeq ?_
      refine OpsW.seg 2 [18, 7, 1] [] [(18, .bool (t0.Op == (1 : Int))), (7, .int .i64 t0.Op), (1, .ref 1 0 0)] (by kernel_rfl) trivial ?_
      refine OpsW.nil ?_
      refine AW.cond (b := t0.Op == (1 : Int)) rfl (fun c2 => ?_) (fun c2 => ?_)
      · replace H := condT c2 H
        refine AW.drawSeq Tryd.checked.mixed (by kernel_rfl) ?_
        refine QOps.seg (N := 87) 10 [(decide ((0 : Int) ≤ t0.N)) = true → (decide ((0 : Int) ≤ t0.N)) = true, (decide ((0 : Int) ≤ t0.N)) = true → (decide ((0 : Int) ≤ t0.N)) = true, (decide ((0 : Int) ≤ t0.N)) = true → (decide ((0 : Int) ≤ t0.N)) = true] [(3, .bool (cond (decide ((0 : Int) ≤ t0.N)) (decide (t0.N ≤ (25 : Int))) false)), (2, .int .i64 0), (27, .bool (cond (decide ((0 : Int) ≤ t0.N)) (decide (t0.N ≤ (25 : Int))) false)), (26, .cnd (decide ((0 : Int) ≤ t0.N)) (.bool (decide (t0.N ≤ (25 : Int))))), (25, .cnd (decide ((0 : Int) ≤ t0.N)) (.int .i64 t0.N)), (24, .cnd (decide ((0 : Int) ≤ t0.N)) (.ref 1 0 1)), (23, .bool (decide ((0 : Int) ≤ t0.N))), (22, .bool (decide ((0 : Int) ≤ t0.N))), (21, .int .i64 t0.N), (20, .ref 1 0 1), (18, .bool (t0.Op == (1 : Int))), (7, .int .i64 t0.Op), (1, .ref 1 0 0)] (by kernel_rfl) ⟨(fun h => h), (fun h => h), (fun h => by first | exact h | (simpa using h) | grind), trivial⟩ ?_
        refine QOps.nil ?_
        refine AW.trim [3, 2] [(3, .bool (cond (decide ((0 : Int) ≤ t0.N)) (decide (t0.N ≤ (25 : Int))) false)), (2, .int .i64 0)] (by kernel_rfl) ?_
        obtain rfl := Option.some.inj H
        refine AW.recast (env' := [(2, .int .i64 0), (3, .bool (cond (decide ((0 : Int) ≤ t0.N)) (decide (t0.N ≤ (25 : Int))) false))]) (h' := []) (StC.pure (.cons .im (.cons .im .nil))) ?_
        refine AW.ret ?_
        try simp only [Ex.then, Ex.inBlock, Ex.noGoto, Ex.jump, reduceIte, Nat.reduceEqDiff, reduceCtorEq]
        refine Done.gen rfl (.tmp (.tmp .nil)) ?_
        show _ = _
        kernel_rfl
      · replace H := condF c2 H
        refine AW.joinK (fun (y : Bool) => f_formula_arity_k3 t0 y) r (fun (y : Bool) => [(1, .ref 1 0 0), (7, .int .i64 t0.Op), (28, .bool y)]) (fun (y : Bool) => [(1, ⟨0, true, 50, 2, [.int .i64 t0.Op, .int .i64 t0.N]⟩)]) ?_ ?_
        · refine AW.regionSeq ?_
          refine OpsW.seg 2 [28, 7, 1] [] [(28, .bool (t0.Op == (2 : Int))), (7, .int .i64 t0.Op), (1, .ref 1 0 0)] (by kernel_rfl) trivial ?_
          refine OpsW.nil ?_
          refine AW.cond (b := t0.Op == (2 : Int)) rfl (fun c16 => ?_) (fun c16 => ?_)
          · replace H := condT c16 H
            refine AW.skip ?_
            show ∃ y, _ ∧ StC _ _ _ _
            exact ⟨t0.Op == (2 : Int), H, (StC.mk (phi [(1, some 1)]) (.old rfl rfl rfl rfl rfl (.cons .im (.cons .im .nil)) .nil) rfl (.cons (.ref rfl rfl rfl rfl rfl) (.cons .im (.cons .im .nil))))⟩
          · replace H := condF c16 H
            refine AW.regionSeq ?_
            refine OpsW.seg 2 [28, 7, 1] [] [(28, .bool (t0.Op == (3 : Int))), (7, .int .i64 t0.Op), (1, .ref 1 0 0)] (by kernel_rfl) trivial ?_
            refine OpsW.nil ?_
            refine AW.cond (b := t0.Op == (3 : Int)) rfl (fun c17 => ?_) (fun c17 => ?_)
            · replace H := condT c17 H
              refine AW.skip ?_
              show ∃ y, _ ∧ StC _ _ _ _
              exact ⟨t0.Op == (3 : Int), H, (StC.mk (phi [(1, some 1)]) (.old rfl rfl rfl rfl rfl (.cons .im (.cons .im .nil)) .nil) rfl (.cons (.ref rfl rfl rfl rfl rfl) (.cons .im (.cons .im .nil))))⟩
            · replace H := condF c17 H
              refine AW.regionSeq ?_
              refine OpsW.seg 2 [28, 7, 1] [] [(28, .bool (t0.Op == (4 : Int))), (7, .int .i64 t0.Op), (1, .ref 1 0 0)] (by kernel_rfl) trivial ?_
              refine OpsW.nil ?_
              refine AW.cond (b := t0.Op == (4 : Int)) rfl (fun c18 => ?_) (fun c18 => ?_)
              · replace H := condT c18 H
                refine AW.skip ?_
                show ∃ y, _ ∧ StC _ _ _ _
                exact ⟨t0.Op == (4 : Int), H, (StC.mk (phi [(1, some 1)]) (.old rfl rfl rfl rfl rfl (.cons .im (.cons .im .nil)) .nil) rfl (.cons (.ref rfl rfl rfl rfl rfl) (.cons .im (.cons .im .nil))))⟩
              · replace H := condF c18 H
                refine AW.regionSeq ?_
                refine OpsW.seg 2 [28, 7, 1] [] [(28, .bool (t0.Op == (5 : Int))), (7, .int .i64 t0.Op), (1, .ref 1 0 0)] (by kernel_rfl) trivial ?_
                refine OpsW.nil ?_
                refine AW.cond (b := t0.Op == (5 : Int)) rfl (fun c19 => ?_) (fun c19 => ?_)
                · replace H := condT c19 H
                  refine AW.skip ?_
                  show ∃ y, _ ∧ StC _ _ _ _
                  exact ⟨t0.Op == (5 : Int), H, (StC.mk (phi [(1, some 1)]) (.old rfl rfl rfl rfl rfl (.cons .im (.cons .im .nil)) .nil) rfl (.cons (.ref rfl rfl rfl rfl rfl) (.cons .im (.cons .im .nil))))⟩
                · replace H := condF c19 H
                  refine AW.regionSeq ?_
                  refine OpsW.seg 2 [28, 7, 1] [] [(28, .bool (t0.Op == (6 : Int))), (7, .int .i64 t0.Op), (1, .ref 1 0 0)] (by kernel_rfl) trivial ?_
                  refine OpsW.nil ?_
                  refine AW.cond (b := t0.Op == (6 : Int)) rfl (fun c20 => ?_) (fun c20 => ?_)
                  · replace H := condT c20 H
                    refine AW.skip ?_
                    show ∃ y, _ ∧ StC _ _ _ _
                    exact ⟨t0.Op == (6 : Int), H, (StC.mk (phi [(1, some 1)]) (.old rfl rfl rfl rfl rfl (.cons .im (.cons .im .nil)) .nil) rfl (.cons (.ref rfl rfl rfl rfl rfl) (.cons .im (.cons .im .nil))))⟩
                  · replace H := condF c20 H
                    refine AW.regionSeq ?_
                    refine OpsW.seg 2 [28, 7, 1] [] [(28, .bool (t0.Op == (7 : Int))), (7, .int .i64 t0.Op), (1, .ref 1 0 0)] (by kernel_rfl) trivial ?_
                    refine OpsW.nil ?_
                    refine AW.cond (b := t0.Op == (7 : Int)) rfl (fun c21 => ?_) (fun c21 => ?_)
                    · replace H := condT c21 H
                      refine AW.skip ?_
                      show ∃ y, _ ∧ StC _ _ _ _
                      exact ⟨t0.Op == (7 : Int), H, (StC.mk (phi [(1, some 1)]) (.old rfl rfl rfl rfl rfl (.cons .im (.cons .im .nil)) .nil) rfl (.cons (.ref rfl rfl rfl rfl rfl) (.cons .im (.cons .im .nil))))⟩
                    · replace H := condF c21 H
                      refine AW.region ?_
                      refine OpsW.seg 2 [28, 7, 1] [] [(28, .bool (t0.Op == (8 : Int))), (7, .int .i64 t0.Op), (1, .ref 1 0 0)] (by kernel_rfl) trivial ?_
                      refine OpsW.nil ?_
                      show ∃ y, _ ∧ StC _ _ _ _
                      exact ⟨t0.Op == (8 : Int), H, (StC.mk (phi [(1, some 1)]) (.old rfl rfl rfl rfl rfl (.cons .im (.cons .im .nil)) .nil) rfl (.cons (.ref rfl rfl rfl rfl rfl) (.cons .im (.cons .im .nil))))⟩
        · intro v3 H
          change f_formula_arity_k3 t0 v3 = some r at H
          unfold f_formula_arity_k3 at H
          change AW _ _ _ [(1, .ref 1 0 0), (7, .int .i64 t0.Op), (28, .bool v3)] [(1, ⟨0, true, 50, 2, [.int .i64 t0.Op, .int .i64 t0.N]⟩)] _
          refine AW.cond (b := v3) rfl (fun c4 => ?_) (fun c4 => ?_)
          · replace H := condT c4 H
            refine AW.drawSeq Tryd.checked.mixed (by kernel_rfl) ?_
            refine QOps.seg (N := 87) 5 [] [(3, .bool (t0.N == (0 : Int))), (2, .int .i64 2), (38, .bool (t0.N == (0 : Int))), (37, .int .i64 t0.N), (36, .ref 1 0 1), (1, .ref 1 0 0), (7, .int .i64 t0.Op), (28, .bool v3)] (by kernel_rfl) trivial ?_
            refine QOps.nil ?_
            refine AW.trim [3, 2] [(3, .bool (t0.N == (0 : Int))), (2, .int .i64 2)] (by kernel_rfl) ?_
            obtain rfl := Option.some.inj H
            refine AW.recast (env' := [(2, .int .i64 2), (3, .bool (t0.N == (0 : Int)))]) (h' := []) (StC.pure (.cons .im (.cons .im .nil))) ?_
            refine AW.ret ?_
            try simp only [Ex.then, Ex.inBlock, Ex.noGoto, Ex.jump, reduceIte, Nat.reduceEqDiff, reduceCtorEq]
            refine Done.gen rfl (.tmp (.tmp .nil)) ?_
            show _ = _
            kernel_rfl
          · replace H := condF c4 H
            refine AW.joinK (fun (y : Bool) => f_formula_arity_k2 t0 y) r (fun (y : Bool) => [(1, .ref 1 0 0), (7, .int .i64 t0.Op), (39, .bool y)]) (fun (y : Bool) => [(1, ⟨0, true, 50, 2, [.int .i64 t0.Op, .int .i64 t0.N]⟩)]) ?_ ?_
            · refine AW.regionSeq ?_
              refine OpsW.seg 2 [39, 1, 7] [] [(39, .bool (t0.Op == (9 : Int))), (1, .ref 1 0 0), (7, .int .i64 t0.Op)] (by kernel_rfl) trivial ?_
              refine OpsW.nil ?_
              refine AW.cond (b := t0.Op == (9 : Int)) rfl (fun c14 => ?_) (fun c14 => ?_)
              · replace H := condT c14 H
                refine AW.skip ?_
                show ∃ y, _ ∧ StC _ _ _ _
                exact ⟨t0.Op == (9 : Int), H, (StC.mk (phi [(1, some 1)]) (.old rfl rfl rfl rfl rfl (.cons .im (.cons .im .nil)) .nil) rfl (.cons (.ref rfl rfl rfl rfl rfl) (.cons .im (.cons .im .nil))))⟩
              · replace H := condF c14 H
                refine AW.regionSeq ?_
                refine OpsW.seg 2 [39, 1, 7] [] [(39, .bool (t0.Op == (10 : Int))), (1, .ref 1 0 0), (7, .int .i64 t0.Op)] (by kernel_rfl) trivial ?_
                refine OpsW.nil ?_
                refine AW.cond (b := t0.Op == (10 : Int)) rfl (fun c15 => ?_) (fun c15 => ?_)
                · replace H := condT c15 H
                  refine AW.skip ?_
                  show ∃ y, _ ∧ StC _ _ _ _
                  exact ⟨t0.Op == (10 : Int), H, (StC.mk (phi [(1, some 1)]) (.old rfl rfl rfl rfl rfl (.cons .im (.cons .im .nil)) .nil) rfl (.cons (.ref rfl rfl rfl rfl rfl) (.cons .im (.cons .im .nil))))⟩
                · replace H := condF c15 H
                  refine AW.region ?_
                  refine OpsW.seg 2 [39, 1, 7] [] [(39, .bool (t0.Op == (11 : Int))), (1, .ref 1 0 0), (7, .int .i64 t0.Op)] (by kernel_rfl) trivial ?_
                  refine OpsW.nil ?_
                  show ∃ y, _ ∧ StC _ _ _ _
                  exact ⟨t0.Op == (11 : Int), H, (StC.mk (phi [(1, some 1)]) (.old rfl rfl rfl rfl rfl (.cons .im (.cons .im .nil)) .nil) rfl (.cons (.ref rfl rfl rfl rfl rfl) (.cons .im (.cons .im .nil))))⟩
            · intro v5 H
              change f_formula_arity_k2 t0 v5 = some r at H
              unfold f_formula_arity_k2 at H
              change AW _ _ _ [(1, .ref 1 0 0), (7, .int .i64 t0.Op), (39, .bool v5)] [(1, ⟨0, true, 50, 2, [.int .i64 t0.Op, .int .i64 t0.N]⟩)] _
              refine AW.cond (b := v5) rfl (fun c6 => ?_) (fun c6 => ?_)
              · replace H := condT c6 H
                refine AW.drawSeq Tryd.checked.mixed (by kernel_rfl) ?_
                refine QOps.seg (N := 87) 5 [] [(3, .bool (t0.N == (0 : Int))), (2, .int .i64 1), (45, .bool (t0.N == (0 : Int))), (44, .int .i64 t0.N), (43, .ref 1 0 1), (1, .ref 1 0 0), (7, .int .i64 t0.Op), (39, .bool v5)] (by kernel_rfl) trivial ?_
                refine QOps.nil ?_
                refine AW.trim [3, 2] [(3, .bool (t0.N == (0 : Int))), (2, .int .i64 1)] (by kernel_rfl) ?_
                obtain rfl := Option.some.inj H
                refine AW.recast (env' := [(2, .int .i64 1), (3, .bool (t0.N == (0 : Int)))]) (h' := []) (StC.pure (.cons .im (.cons .im .nil))) ?_
                refine AW.ret ?_
                try simp only [Ex.then, Ex.inBlock, Ex.noGoto, Ex.jump, reduceIte, Nat.reduceEqDiff, reduceCtorEq]
                refine Done.gen rfl (.tmp (.tmp .nil)) ?_
                show _ = _
                kernel_rfl
              · replace H := condF c6 H
                refine AW.regionSeq ?_
                refine OpsW.seg 2 [46, 1, 7] [] [(46, .bool (t0.Op == (12 : Int))), (1, .ref 1 0 0), (7, .int .i64 t0.Op)] (by kernel_rfl) trivial ?_
                refine OpsW.nil ?_
                refine AW.cond (b := t0.Op == (12 : Int)) rfl (fun c7 => ?_) (fun c7 => ?_)
                · replace H := condT c7 H
                  refine AW.seq ?_
                  refine AW.regionSeq ?_
                  refine OpsW.seg 8 [55, 1] [(!(decide (t0.N < (2 : Int)))) = true → (!(decide (t0.N < (2 : Int)))) = true, (!(decide (t0.N < (2 : Int)))) = true → (!(decide (t0.N < (2 : Int)))) = true, (decide (t0.N < (2 : Int))) = false → (!(decide (t0.N < (2 : Int)))) = true] [(55, .bool (cond (decide (t0.N < (2 : Int))) true (decide ((5 : Int) < t0.N)))), (1, .ref 1 0 0)] (by kernel_rfl) ⟨(fun h => h), (fun h => h), (fun h => by first | exact h | (simpa using h) | grind), trivial⟩ ?_
                  refine OpsW.nil ?_
                  refine AW.cond (b := cond (decide (t0.N < (2 : Int))) true (decide ((5 : Int) < t0.N))) rfl (fun c8 => ?_) (fun c8 => ?_)
                  · replace H := condT c8 H
                    refine AW.regionSeq ?_
                    refine OpsW.seg 2 [3, 2] [] [(3, .bool false), (2, .int .i64 0)] (by kernel_rfl) trivial ?_
                    refine OpsW.nil ?_
                    obtain rfl := Option.some.inj H
                    refine AW.recast (env' := [(2, .int .i64 0), (3, .bool false)]) (h' := []) (StC.pure (.cons .im (.cons .im .nil))) ?_
                    refine AW.ret ?_
                    try simp only [Ex.then, Ex.inBlock, Ex.noGoto, Ex.jump, reduceIte, Nat.reduceEqDiff, reduceCtorEq]
                    refine Done.gen rfl (.tmp (.tmp .nil)) ?_
                    show _ = _
                    kernel_rfl
                  · replace H := condF c8 H
                    refine AW.skip ?_
                    refine AW.regionSeq ?_
                    obtain ⟨g9, H⟩ := G_some H
                    refine OpsW.seg 5 [3, 2] [inR (t0.N + (1 : Int))] [(3, .bool true), (2, .int .i64 (t0.N + (1 : Int)))] (by kernel_rfl) ⟨g9, trivial⟩ ?_
                    refine OpsW.nil ?_
                    obtain rfl := Option.some.inj H
                    refine AW.recast (env' := [(2, .int .i64 (t0.N + (1 : Int))), (3, .bool true)]) (h' := []) (StC.pure (.cons .im (.cons .im .nil))) ?_
                    refine AW.ret ?_
                    try simp only [Ex.then, Ex.inBlock, Ex.noGoto, Ex.jump, reduceIte, Nat.reduceEqDiff, reduceCtorEq]
                    refine Done.gen rfl (.tmp (.tmp .nil)) ?_
                    show _ = _
                    kernel_rfl
                · replace H := condF c7 H
                  refine AW.regionSeq ?_
                  refine OpsW.seg 2 [59, 1] [] [(59, .bool (t0.Op == (13 : Int))), (1, .ref 1 0 0)] (by kernel_rfl) trivial ?_
                  refine OpsW.nil ?_
                  refine AW.cond (b := t0.Op == (13 : Int)) rfl (fun c10 => ?_) (fun c10 => ?_)
                  · replace H := condT c10 H
                    refine AW.seq ?_
                    refine AW.regionSeq ?_
                    refine OpsW.seg 3 [63, 1] [] [(63, .bool (decide (t0.N < (0 : Int)))), (1, .ref 1 0 0)] (by kernel_rfl) trivial ?_
                    refine OpsW.nil ?_
                    refine AW.cond (b := decide (t0.N < (0 : Int))) rfl (fun c11 => ?_) (fun c11 => ?_)
                    · replace H := condT c11 H
                      refine AW.regionSeq ?_
                      refine OpsW.seg 2 [3, 2] [] [(3, .bool false), (2, .int .i64 0)] (by kernel_rfl) trivial ?_
                      refine OpsW.nil ?_
                      obtain rfl := Option.some.inj H
                      refine AW.recast (env' := [(2, .int .i64 0), (3, .bool false)]) (h' := []) (StC.pure (.cons .im (.cons .im .nil))) ?_
                      refine AW.ret ?_
                      try simp only [Ex.then, Ex.inBlock, Ex.noGoto, Ex.jump, reduceIte, Nat.reduceEqDiff, reduceCtorEq]
                      refine Done.gen rfl (.tmp (.tmp .nil)) ?_
                      show _ = _
                      kernel_rfl
                    · replace H := condF c11 H
                      refine AW.skip ?_
                      refine AW.drawSeq Tryd.checked.mixed (by kernel_rfl) ?_
                      obtain ⟨g12, H⟩ := G_some H
                      refine QOps.seg (N := 87) 8 [(8 : Int) ≠ 0, inR (Int.tdiv t0.N (8 : Int)), (8 : Int) ≠ 0] [(5, .int .i64 (Int.tmod t0.N (8 : Int))), (4, .int .i64 (Int.tdiv t0.N (8 : Int))), (69, .int .i64 (Int.tmod t0.N (8 : Int))), (68, .int .i64 t0.N), (67, .ref 1 0 1), (66, .int .i64 (Int.tdiv t0.N (8 : Int))), (65, .int .i64 t0.N), (64, .ref 1 0 1), (63, .bool (decide (t0.N < (0 : Int)))), (1, .ref 1 0 0)] (by kernel_rfl) ⟨(by decide), g12, (by decide), trivial⟩ ?_
                      refine QOps.nil ?_
                      refine AW.trim [5, 4] [(5, .int .i64 (Int.tmod t0.N (8 : Int))), (4, .int .i64 (Int.tdiv t0.N (8 : Int)))] (by kernel_rfl) ?_
                      refine AW.regionSeq ?_
                      obtain ⟨g13, H⟩ := G_some H
                      refine OpsW.seg 19 [3, 2] [inR ((Int.tdiv t0.N (8 : Int)) * (Int.tmod t0.N (8 : Int))), (decide ((1 : Int) ≤ (Int.tdiv t0.N (8 : Int)))) = true → (decide ((1 : Int) ≤ (Int.tdiv t0.N (8 : Int)))) = true, (decide ((1 : Int) ≤ (Int.tdiv t0.N (8 : Int)))) = true → (decide ((1 : Int) ≤ (Int.tdiv t0.N (8 : Int)))) = true, (cond (decide ((1 : Int) ≤ (Int.tdiv t0.N (8 : Int)))) (decide ((Int.tdiv t0.N (8 : Int)) ≤ (4 : Int))) false) = true → (cond (decide ((1 : Int) ≤ (Int.tdiv t0.N (8 : Int)))) (decide ((Int.tdiv t0.N (8 : Int)) ≤ (4 : Int))) false) = true, (cond (decide ((1 : Int) ≤ (Int.tdiv t0.N (8 : Int)))) (decide ((Int.tdiv t0.N (8 : Int)) ≤ (4 : Int))) false) = true → (cond (decide ((1 : Int) ≤ (Int.tdiv t0.N (8 : Int)))) (decide ((Int.tdiv t0.N (8 : Int)) ≤ (4 : Int))) false) = true, (cond (cond (decide ((1 : Int) ≤ (Int.tdiv t0.N (8 : Int)))) (decide ((Int.tdiv t0.N (8 : Int)) ≤ (4 : Int))) false) (decide ((1 : Int) ≤ (Int.tmod t0.N (8 : Int)))) false) = true → (cond (cond (decide ((1 : Int) ≤ (Int.tdiv t0.N (8 : Int)))) (decide ((Int.tdiv t0.N (8 : Int)) ≤ (4 : Int))) false) (decide ((1 : Int) ≤ (Int.tmod t0.N (8 : Int)))) false) = true, (cond (cond (decide ((1 : Int) ≤ (Int.tdiv t0.N (8 : Int)))) (decide ((Int.tdiv t0.N (8 : Int)) ≤ (4 : Int))) false) (decide ((1 : Int) ≤ (Int.tmod t0.N (8 : Int)))) false) = true → (cond (cond (decide ((1 : Int) ≤ (Int.tdiv t0.N (8 : Int)))) (decide ((Int.tdiv t0.N (8 : Int)) ≤ (4 : Int))) false) (decide ((1 : Int) ≤ (Int.tmod t0.N (8 : Int)))) false) = true] [(3, .bool (cond (cond (cond (decide ((1 : Int) ≤ (Int.tdiv t0.N (8 : Int)))) (decide ((Int.tdiv t0.N (8 : Int)) ≤ (4 : Int))) false) (decide ((1 : Int) ≤ (Int.tmod t0.N (8 : Int)))) false) (decide ((Int.tmod t0.N (8 : Int)) ≤ (4 : Int))) false)), (2, .int .i64 ((Int.tdiv t0.N (8 : Int)) * (Int.tmod t0.N (8 : Int))))] (by kernel_rfl) ⟨g13, (fun h => h), (fun h => by first | exact h | (simpa using h) | grind), (fun h => h), (fun h => by first | exact h | (simpa using h) | grind), (fun h => h), (fun h => by first | exact h | (simpa using h) | grind), trivial⟩ ?_
                      refine OpsW.nil ?_
                      obtain rfl := Option.some.inj H
                      refine AW.recast (env' := [(2, .int .i64 ((Int.tdiv t0.N (8 : Int)) * (Int.tmod t0.N (8 : Int)))), (3, .bool (cond (cond (cond (decide ((1 : Int) ≤ (Int.tdiv t0.N (8 : Int)))) (decide ((Int.tdiv t0.N (8 : Int)) ≤ (4 : Int))) false) (decide ((1 : Int) ≤ (Int.tmod t0.N (8 : Int)))) false) (decide ((Int.tmod t0.N (8 : Int)) ≤ (4 : Int))) false))]) (h' := []) (StC.pure (.cons .im (.cons .im .nil))) ?_
                      refine AW.ret ?_
                      try simp only [Ex.then, Ex.inBlock, Ex.noGoto, Ex.jump, reduceIte, Nat.reduceEqDiff, reduceCtorEq]
                      refine Done.gen rfl (.tmp (.tmp .nil)) ?_
                      show _ = _
                      kernel_rfl
                  · replace H := condF c10 H
                    refine AW.skip ?_
                    show ∃ y, _ ∧ StC _ _ _ _
                    exact ⟨(), H, (StC.pure .nil)⟩
  · rintro ⟨⟩ H
    change f_formula_arity_k1 = some r at H
    unfold f_formula_arity_k1 at H
    change AW _ _ _ [] [] _
    refine AW.regionSeq ?_
    refine OpsW.seg 2 [3, 2] [] [(3, .bool false), (2, .int .i64 0)] (by kernel_rfl) trivial ?_
    refine OpsW.nil ?_
    obtain rfl := Option.some.inj H
    refine AW.recast (env' := [(2, .int .i64 0), (3, .bool false)]) (h' := []) (StC.pure (.cons .im (.cons .im .nil))) ?_
    refine AW.ret ?_
    try simp only [Ex.then, Ex.inBlock, Ex.noGoto, Ex.jump, reduceIte, Nat.reduceEqDiff, reduceCtorEq]
    refine Done.gen rfl (.tmp (.tmp .nil)) ?_
    show _ = _
    kernel_rfl
def f_formula_precedence_k1  : Option Int :=
  some (4 : Int)
def f_formula_precedence_k2 (t0 : Int) (v2 : Bool) : Option Int :=
  cond v2 (
    some (2 : Int)) (
    cond (t0 == (4 : Int)) (
      some (3 : Int)) (
      f_formula_precedence_k1))
def f_formula_precedence (t0 : Int) : Option Int :=
  cond (t0 == (5 : Int)) (
    some (1 : Int)) (
    cond (t0 == (2 : Int)) (
      f_formula_precedence_k2 t0 (t0 == (2 : Int))) (
      f_formula_precedence_k2 t0 (t0 == (3 : Int))))
theorem f_formula_precedence_ok  {t0 : Int} {r : Int} (H : f_formula_precedence t0 = some r) : QSpec Tryd.prog 89 [.int .i64 t0] (.int .i64 r) := by
  refine Spec.of_AW Tryd.func89 rfl (by simp [Tryd.ntmps89]) ?_
  rw [Tryd.ntmps89]
  unfold f_formula_precedence at H
  change AW _ _ _ [(0, .int .i64 t0)] [] _
  refine AW.regionSeq ?_
  refine OpsW.seg 1 [0] [] [(0, .int .i64 t0)] (by kernel_rfl) trivial ?_
  refine OpsW.nil ?_
  refine AW.joinK (fun (y : Unit) => f_formula_precedence_k1) r (fun (y : Unit) => []) (fun (y : Unit) => []) ?_ ?_
  · refine AW.regionSeq ?_
    refine OpsW.seg 1 [3] [] [(3, .int .i64 t0)] (by kernel_rfl) trivial ?_
    refine OpsW.nil ?_
    refine AW.block ?_
    refine AW.regionSeq ?_
    refine OpsW.seg 2 [4, 3] [] [(4, .bool (t0 == (5 : Int))), (3, .int .i64 t0)] (by kernel_rfl) trivial ?_
    refine OpsW.nil ?_
    refine AW.cond (b := t0 == (5 : Int)) rfl (fun c1 => ?_) (fun c1 => ?_)
    · replace H := condT c1 H
      refine AW.regionSeq ?_
      refine OpsW.seg 1 [2] [] [(2, .int .i64 1)] (by kernel_rfl) trivial ?_
      refine OpsW.nil ?_
      obtain rfl := Option.some.inj H
      refine AW.recast (env' := [(2, .int .i64 1)]) (h' := []) (StC.pure (.cons .im .nil)) ?_
      refine AW.ret ?_
      try simp only [Ex.then, Ex.inBlock, Ex.noGoto, Ex.jump, reduceIte, Nat.reduceEqDiff, reduceCtorEq]
      refine Done.gen rfl (.tmp .nil) ?_
      show _ = _
      kernel_rfl
    · replace H := condF c1 H
      refine AW.joinK (fun (y : Bool) => f_formula_precedence_k2 t0 y) r (fun (y : Bool) => [(3, .int .i64 t0), (6, .bool y)]) (fun (y : Bool) => []) ?_ ?_
      · refine AW.regionSeq ?_
        refine OpsW.seg 2 [6, 3] [] [(6, .bool (t0 == (2 : Int))), (3, .int .i64 t0)] (by kernel_rfl) trivial ?_
        refine OpsW.nil ?_
        refine AW.cond (b := t0 == (2 : Int)) rfl (fun c5 => ?_) (fun c5 => ?_)
        · replace H := condT c5 H
          refine AW.skip ?_
          show ∃ y, _ ∧ StC _ _ _ _
          exact ⟨t0 == (2 : Int), H, (StC.pure (.cons .im (.cons .im .nil)))⟩
        · replace H := condF c5 H
          refine AW.region ?_
          refine OpsW.seg 2 [6, 3] [] [(6, .bool (t0 == (3 : Int))), (3, .int .i64 t0)] (by kernel_rfl) trivial ?_
          refine OpsW.nil ?_
          show ∃ y, _ ∧ StC _ _ _ _
          exact ⟨t0 == (3 : Int), H, (StC.pure (.cons .im (.cons .im .nil)))⟩
      · intro v2 H
        change f_formula_precedence_k2 t0 v2 = some r at H
        unfold f_formula_precedence_k2 at H
        change AW _ _ _ [(3, .int .i64 t0), (6, .bool v2)] [] _
        refine AW.cond (b := v2) rfl (fun c3 => ?_) (fun c3 => ?_)
        · replace H := condT c3 H
          refine AW.regionSeq ?_
          refine OpsW.seg 1 [2] [] [(2, .int .i64 2)] (by kernel_rfl) trivial ?_
          refine OpsW.nil ?_
          obtain rfl := Option.some.inj H
          refine AW.recast (env' := [(2, .int .i64 2)]) (h' := []) (StC.pure (.cons .im .nil)) ?_
          refine AW.ret ?_
          try simp only [Ex.then, Ex.inBlock, Ex.noGoto, Ex.jump, reduceIte, Nat.reduceEqDiff, reduceCtorEq]
          refine Done.gen rfl (.tmp .nil) ?_
          show _ = _
          kernel_rfl
        · replace H := condF c3 H
          refine AW.regionSeq ?_
          refine OpsW.seg 2 [9] [] [(9, .bool (t0 == (4 : Int)))] (by kernel_rfl) trivial ?_
          refine OpsW.nil ?_
          refine AW.cond (b := t0 == (4 : Int)) rfl (fun c4 => ?_) (fun c4 => ?_)
          · replace H := condT c4 H
            refine AW.regionSeq ?_
            refine OpsW.seg 1 [2] [] [(2, .int .i64 3)] (by kernel_rfl) trivial ?_
            refine OpsW.nil ?_
            obtain rfl := Option.some.inj H
            refine AW.recast (env' := [(2, .int .i64 3)]) (h' := []) (StC.pure (.cons .im .nil)) ?_
            refine AW.ret ?_
            try simp only [Ex.then, Ex.inBlock, Ex.noGoto, Ex.jump, reduceIte, Nat.reduceEqDiff, reduceCtorEq]
            refine Done.gen rfl (.tmp .nil) ?_
            show _ = _
            kernel_rfl
          · replace H := condF c4 H
            refine AW.skip ?_
            show ∃ y, _ ∧ StC _ _ _ _
            exact ⟨(), H, (StC.pure .nil)⟩
  · rintro ⟨⟩ H
    change f_formula_precedence_k1 = some r at H
    unfold f_formula_precedence_k1 at H
    change AW _ _ _ [] [] _
    refine AW.regionSeq ?_
    refine OpsW.seg 1 [2] [] [(2, .int .i64 4)] (by kernel_rfl) trivial ?_
    refine OpsW.nil ?_
    obtain rfl := Option.some.inj H
    refine AW.recast (env' := [(2, .int .i64 4)]) (h' := []) (StC.pure (.cons .im .nil)) ?_
    refine AW.ret ?_
    try simp only [Ex.then, Ex.inBlock, Ex.noGoto, Ex.jump, reduceIte, Nat.reduceEqDiff, reduceCtorEq]
    refine Done.gen rfl (.tmp .nil) ?_
    show _ = _
    kernel_rfl
def f_formula_admits_k1  : Option Bool :=
  some true
def f_formula_admits_k2 (t0 : S_Node) (t1 : Int) (t2 : S_Node) (v1 : Bool) : Option Bool :=
  cond v1 (
    cond (t1 == (0 : Int)) (
      (f_formula_precedence t2.Op).bind fun x4 =>
      (f_formula_precedence t0.Op).bind fun x5 =>
      some (decide (x5 ≤ x4))) (
      (f_formula_precedence t2.Op).bind fun x6 =>
      (f_formula_precedence t0.Op).bind fun x7 =>
      some (decide (x7 < x6)))) (
    cond (t0.Op == (12 : Int)) (
      some (t2.Op == (0 : Int))) (
      f_formula_admits_k1))
def f_formula_admits (t0 : S_Node) (t1 : Int) (t2 : S_Node) : Option Bool :=
  cond (t0.Op == (2 : Int)) (
    f_formula_admits_k2 t0 t1 t2 (t0.Op == (2 : Int))) (
    cond (t0.Op == (3 : Int)) (
      f_formula_admits_k2 t0 t1 t2 (t0.Op == (3 : Int))) (
      cond (t0.Op == (4 : Int)) (
        f_formula_admits_k2 t0 t1 t2 (t0.Op == (4 : Int))) (
        f_formula_admits_k2 t0 t1 t2 (t0.Op == (5 : Int)))))
theorem f_formula_admits_ok  {t0 : S_Node} {t1 : Int} {t2 : S_Node} {r : Bool} (H : f_formula_admits t0 t1 t2 = some r) : QSpec Tryd.prog 84 [.agg [.int .i64 t0.Op, .int .i64 t0.N], .int .i64 t1, .agg [.int .i64 t2.Op, .int .i64 t2.N]] (.bool r) := by
  refine Spec.of_AW Tryd.func84 rfl (by simp [Tryd.ntmps84]) ?_
  rw [Tryd.ntmps84]
  unfold f_formula_admits at H
  change AW _ _ _ [(0, .agg [.int .i64 t0.Op, .int .i64 t0.N]), (1, .int .i64 t1), (2, .agg [.int .i64 t2.Op, .int .i64 t2.N])] [] _
  refine AW.regionSeq ?_
  refine OpsW.box rfl rfl rfl 3 rfl (okCb_sound (by kernel_rfl)) ?_
  change OpsW _ _ _ _ _ [(3, ⟨0, true, 50, 2, [.int .i64 t0.Op, .int .i64 t0.N]⟩)] _
  refine OpsW.box rfl rfl rfl 5 rfl (okCb_sound (by kernel_rfl)) ?_
  change OpsW _ _ _ _ _ [(5, ⟨0, true, 50, 2, [.int .i64 t2.Op, .int .i64 t2.N]⟩), (3, ⟨0, true, 50, 2, [.int .i64 t0.Op, .int .i64 t0.N]⟩)] _
  refine OpsW.seg 1 [5, 3, 1] [] [(5, .ref 5 0 0), (3, .ref 3 0 0), (1, .int .i64 t1)] (by kernel_rfl) trivial ?_
  refine OpsW.recast (env' := [(5, .ref 5 0 0), (3, .ref 3 0 0), (1, .int .i64 t1)]) (h' := [(3, ⟨0, true, 50, 2, [.int .i64 t0.Op, .int .i64 t0.N]⟩), (5, ⟨0, true, 50, 2, [.int .i64 t2.Op, .int .i64 t2.N]⟩)]) (StC.mk (phi [(3, some 3), (5, some 5)]) (.old rfl rfl rfl rfl rfl (.cons .im (.cons .im .nil)) (.old rfl rfl rfl rfl rfl (.cons .im (.cons .im .nil)) .nil)) rfl (.cons (.ref rfl rfl rfl rfl rfl) (.cons (.ref rfl rfl rfl rfl rfl) (.cons .im .nil)))) ?_
  refine OpsW.nil ?_
  refine AW.joinK (fun (y : Unit) => f_formula_admits_k1) r (fun (y : Unit) => []) (fun (y : Unit) => []) ?_ ?_
  · refine AW.regionSeq ?_
    refine OpsW.seg 2 [8, 5, 3, 1] [] [(8, .int .i64 t0.Op), (5, .ref 5 0 0), (3, .ref 3 0 0), (1, .int .i64 t1)] (by kernel_rfl) trivial ?_
    refine OpsW.nil ?_
    refine AW.block ?_
    refine AW.joinK (fun (y : Bool) => f_formula_admits_k2 t0 t1 t2 y) r (fun (y : Bool) => [(1, .int .i64 t1), (3, .ref 3 0 0), (5, .ref 5 0 0), (8, .int .i64 t0.Op), (9, .bool y)]) (fun (y : Bool) => [(3, ⟨0, true, 50, 2, [.int .i64 t0.Op, .int .i64 t0.N]⟩), (5, ⟨0, true, 50, 2, [.int .i64 t2.Op, .int .i64 t2.N]⟩)]) ?_ ?_
    · refine AW.regionSeq ?_
      refine OpsW.seg 2 [9, 8, 5, 3, 1] [] [(9, .bool (t0.Op == (2 : Int))), (8, .int .i64 t0.Op), (5, .ref 5 0 0), (3, .ref 3 0 0), (1, .int .i64 t1)] (by kernel_rfl) trivial ?_
      refine OpsW.nil ?_
      refine AW.cond (b := t0.Op == (2 : Int)) rfl (fun c9 => ?_) (fun c9 => ?_)
      · replace H := condT c9 H
        refine AW.skip ?_
        show ∃ y, _ ∧ StC _ _ _ _
        exact ⟨t0.Op == (2 : Int), H, (StC.mk (phi [(3, some 3), (5, some 5)]) (.old rfl rfl rfl rfl rfl (.cons .im (.cons .im .nil)) (.old rfl rfl rfl rfl rfl (.cons .im (.cons .im .nil)) .nil)) rfl (.cons .im (.cons (.ref rfl rfl rfl rfl rfl) (.cons (.ref rfl rfl rfl rfl rfl) (.cons .im (.cons .im .nil))))))⟩
      · replace H := condF c9 H
        refine AW.regionSeq ?_
        refine OpsW.seg 2 [9, 8, 5, 3, 1] [] [(9, .bool (t0.Op == (3 : Int))), (8, .int .i64 t0.Op), (5, .ref 5 0 0), (3, .ref 3 0 0), (1, .int .i64 t1)] (by kernel_rfl) trivial ?_
        refine OpsW.nil ?_
        refine AW.cond (b := t0.Op == (3 : Int)) rfl (fun c10 => ?_) (fun c10 => ?_)
        · replace H := condT c10 H
          refine AW.skip ?_
          show ∃ y, _ ∧ StC _ _ _ _
          exact ⟨t0.Op == (3 : Int), H, (StC.mk (phi [(3, some 3), (5, some 5)]) (.old rfl rfl rfl rfl rfl (.cons .im (.cons .im .nil)) (.old rfl rfl rfl rfl rfl (.cons .im (.cons .im .nil)) .nil)) rfl (.cons .im (.cons (.ref rfl rfl rfl rfl rfl) (.cons (.ref rfl rfl rfl rfl rfl) (.cons .im (.cons .im .nil))))))⟩
        · replace H := condF c10 H
          refine AW.regionSeq ?_
          refine OpsW.seg 2 [9, 8, 5, 3, 1] [] [(9, .bool (t0.Op == (4 : Int))), (8, .int .i64 t0.Op), (5, .ref 5 0 0), (3, .ref 3 0 0), (1, .int .i64 t1)] (by kernel_rfl) trivial ?_
          refine OpsW.nil ?_
          refine AW.cond (b := t0.Op == (4 : Int)) rfl (fun c11 => ?_) (fun c11 => ?_)
          · replace H := condT c11 H
            refine AW.skip ?_
            show ∃ y, _ ∧ StC _ _ _ _
            exact ⟨t0.Op == (4 : Int), H, (StC.mk (phi [(3, some 3), (5, some 5)]) (.old rfl rfl rfl rfl rfl (.cons .im (.cons .im .nil)) (.old rfl rfl rfl rfl rfl (.cons .im (.cons .im .nil)) .nil)) rfl (.cons .im (.cons (.ref rfl rfl rfl rfl rfl) (.cons (.ref rfl rfl rfl rfl rfl) (.cons .im (.cons .im .nil))))))⟩
          · replace H := condF c11 H
            refine AW.region ?_
            refine OpsW.seg 2 [9, 8, 5, 3, 1] [] [(9, .bool (t0.Op == (5 : Int))), (8, .int .i64 t0.Op), (5, .ref 5 0 0), (3, .ref 3 0 0), (1, .int .i64 t1)] (by kernel_rfl) trivial ?_
            refine OpsW.nil ?_
            show ∃ y, _ ∧ StC _ _ _ _
            exact ⟨t0.Op == (5 : Int), H, (StC.mk (phi [(3, some 3), (5, some 5)]) (.old rfl rfl rfl rfl rfl (.cons .im (.cons .im .nil)) (.old rfl rfl rfl rfl rfl (.cons .im (.cons .im .nil)) .nil)) rfl (.cons .im (.cons (.ref rfl rfl rfl rfl rfl) (.cons (.ref rfl rfl rfl rfl rfl) (.cons .im (.cons .im .nil))))))⟩
    · intro v1 H
      change f_formula_admits_k2 t0 t1 t2 v1 = some r at H
      unfold f_formula_admits_k2 at H
      change AW _ _ _ [(1, .int .i64 t1), (3, .ref 3 0 0), (5, .ref 5 0 0), (8, .int .i64 t0.Op), (9, .bool v1)] [(3, ⟨0, true, 50, 2, [.int .i64 t0.Op, .int .i64 t0.N]⟩), (5, ⟨0, true, 50, 2, [.int .i64 t2.Op, .int .i64 t2.N]⟩)] _
      refine AW.cond (b := v1) rfl (fun c2 => ?_) (fun c2 => ?_)
      · replace H := condT c2 H
        refine AW.seq ?_
        refine AW.regionSeq ?_
        refine OpsW.seg 2 [15, 3, 5] [] [(15, .bool (t1 == (0 : Int))), (3, .ref 3 0 0), (5, .ref 5 0 0)] (by kernel_rfl) trivial ?_
        refine OpsW.nil ?_
        refine AW.cond (b := t1 == (0 : Int)) rfl (fun c3 => ?_) (fun c3 => ?_)
        · replace H := condT c3 H
          refine AW.drawSeq Tryd.checked.mixed (by kernel_rfl) ?_
          refine QOps.seg (N := 35) 2 [] [(17, .int .i64 t2.Op), (16, .ref 5 0 0), (15, .bool (t1 == (0 : Int))), (3, .ref 3 0 0), (5, .ref 5 0 0)] (by kernel_rfl) trivial ?_
          obtain ⟨x4, hx4, H⟩ := bindS H
          refine QOps.qcall rfl (by kernel_rfl) rfl (glAll_sound trivial) (.cons (.pur rfl) .nil) (f_formula_precedence_ok hx4) rfl ?_
          refine QOps.seg (N := 35) 2 [] [(20, .int .i64 t0.Op), (19, .ref 3 0 0), (18, .int .i64 x4), (17, .int .i64 t2.Op), (16, .ref 5 0 0), (15, .bool (t1 == (0 : Int))), (3, .ref 3 0 0), (5, .ref 5 0 0)] (by kernel_rfl) trivial ?_
          obtain ⟨x5, hx5, H⟩ := bindS H
          refine QOps.qcall rfl (by kernel_rfl) rfl (glAll_sound trivial) (.cons (.pur rfl) .nil) (f_formula_precedence_ok hx5) rfl ?_
          refine QOps.seg (N := 35) 2 [] [(6, .bool (decide (x5 ≤ x4))), (22, .bool (decide (x5 ≤ x4))), (21, .int .i64 x5), (20, .int .i64 t0.Op), (19, .ref 3 0 0), (18, .int .i64 x4), (17, .int .i64 t2.Op), (16, .ref 5 0 0), (15, .bool (t1 == (0 : Int))), (3, .ref 3 0 0), (5, .ref 5 0 0)] (by kernel_rfl) trivial ?_
          refine QOps.nil ?_
          refine AW.trim [6] [(6, .bool (decide (x5 ≤ x4)))] (by kernel_rfl) ?_
          obtain rfl := Option.some.inj H
          refine AW.recast (env' := [(6, .bool (decide (x5 ≤ x4)))]) (h' := []) (StC.pure (.cons .im .nil)) ?_
          refine AW.ret ?_
          try simp only [Ex.then, Ex.inBlock, Ex.noGoto, Ex.jump, reduceIte, Nat.reduceEqDiff, reduceCtorEq]
          refine Done.gen rfl (.tmp .nil) ?_
          show _ = _
          kernel_rfl
        · replace H := condF c3 H
          refine AW.skip ?_
          refine AW.drawSeq Tryd.checked.mixed (by kernel_rfl) ?_
          refine QOps.seg (N := 35) 2 [] [(24, .int .i64 t2.Op), (23, .ref 5 0 0), (15, .bool (t1 == (0 : Int))), (3, .ref 3 0 0), (5, .ref 5 0 0)] (by kernel_rfl) trivial ?_
          obtain ⟨x6, hx6, H⟩ := bindS H
          refine QOps.qcall rfl (by kernel_rfl) rfl (glAll_sound trivial) (.cons (.pur rfl) .nil) (f_formula_precedence_ok hx6) rfl ?_
          refine QOps.seg (N := 35) 2 [] [(27, .int .i64 t0.Op), (26, .ref 3 0 0), (25, .int .i64 x6), (24, .int .i64 t2.Op), (23, .ref 5 0 0), (15, .bool (t1 == (0 : Int))), (3, .ref 3 0 0), (5, .ref 5 0 0)] (by kernel_rfl) trivial ?_
          obtain ⟨x7, hx7, H⟩ := bindS H
          refine QOps.qcall rfl (by kernel_rfl) rfl (glAll_sound trivial) (.cons (.pur rfl) .nil) (f_formula_precedence_ok hx7) rfl ?_
          refine QOps.seg (N := 35) 2 [] [(6, .bool (decide (x7 < x6))), (29, .bool (decide (x7 < x6))), (28, .int .i64 x7), (27, .int .i64 t0.Op), (26, .ref 3 0 0), (25, .int .i64 x6), (24, .int .i64 t2.Op), (23, .ref 5 0 0), (15, .bool (t1 == (0 : Int))), (3, .ref 3 0 0), (5, .ref 5 0 0)] (by kernel_rfl) trivial ?_
          refine QOps.nil ?_
          refine AW.trim [6] [(6, .bool (decide (x7 < x6)))] (by kernel_rfl) ?_
          obtain rfl := Option.some.inj H
          refine AW.recast (env' := [(6, .bool (decide (x7 < x6)))]) (h' := []) (StC.pure (.cons .im .nil)) ?_
          refine AW.ret ?_
          try simp only [Ex.then, Ex.inBlock, Ex.noGoto, Ex.jump, reduceIte, Nat.reduceEqDiff, reduceCtorEq]
          refine Done.gen rfl (.tmp .nil) ?_
          show _ = _
          kernel_rfl
      · replace H := condF c2 H
        refine AW.regionSeq ?_
        refine OpsW.seg 2 [30, 5] [] [(30, .bool (t0.Op == (12 : Int))), (5, .ref 5 0 0)] (by kernel_rfl) trivial ?_
        refine OpsW.nil ?_
        refine AW.cond (b := t0.Op == (12 : Int)) rfl (fun c8 => ?_) (fun c8 => ?_)
        · replace H := condT c8 H
          refine AW.regionSeq ?_
          refine OpsW.seg 4 [6] [] [(6, .bool (t2.Op == (0 : Int)))] (by kernel_rfl) trivial ?_
          refine OpsW.nil ?_
          obtain rfl := Option.some.inj H
          refine AW.recast (env' := [(6, .bool (t2.Op == (0 : Int)))]) (h' := []) (StC.pure (.cons .im .nil)) ?_
          refine AW.ret ?_
          try simp only [Ex.then, Ex.inBlock, Ex.noGoto, Ex.jump, reduceIte, Nat.reduceEqDiff, reduceCtorEq]
          refine Done.gen rfl (.tmp .nil) ?_
          show _ = _
          kernel_rfl
        · replace H := condF c8 H
          refine AW.skip ?_
          show ∃ y, _ ∧ StC _ _ _ _
          exact ⟨(), H, (StC.pure .nil)⟩
  · rintro ⟨⟩ H
    change f_formula_admits_k1 = some r at H
    unfold f_formula_admits_k1 at H
    change AW _ _ _ [] [] _
    refine AW.regionSeq ?_
    refine OpsW.seg 1 [6] [] [(6, .bool true)] (by kernel_rfl) trivial ?_
    refine OpsW.nil ?_
    obtain rfl := Option.some.inj H
    refine AW.recast (env' := [(6, .bool true)]) (h' := []) (StC.pure (.cons .im .nil)) ?_
    refine AW.ret ?_
    try simp only [Ex.then, Ex.inBlock, Ex.noGoto, Ex.jump, reduceIte, Nat.reduceEqDiff, reduceCtorEq]
    refine Done.gen rfl (.tmp .nil) ?_
    show _ = _
    kernel_rfl
def f_formula_measure_body_b1 (rec_f_formula_measure : (List S_Node) → Int → Option (Int × Int × Bool)) (t0 : List S_Node) (t1 : Int) (x3 : Int × Bool) (loop9 : (Int × Int × Int) → Option (Int × Int × Bool)) (v6 : Int) (v7 : Int) (v8 : Int) : Option (Int × Int × Bool) :=
  cond (decide (v8 < x3.1)) (
    G ((!(decide ((t0.length : Int) ≤ v6))) = true → (0 ≤ v6 ∧ v6 < (t0.length : Int))) <|
    (cond (!(decide ((t0.length : Int) ≤ v6))) (f_formula_admits (t0.getD t1.toNat zS_Node) v8 (t0.getD v6.toNat zS_Node)) (some false)).bind fun x12 =>
    cond (cond (decide ((t0.length : Int) ≤ v6)) true (!x12)) (
      some ((0 : Int), (0 : Int), false)) (
      (rec_f_formula_measure t0 v6).bind fun x14 =>
      cond (!x14.2.2) (
        some ((0 : Int), (0 : Int), false)) (
        G (inR (x14.2.1 + (1 : Int))) <|
        G (inR (v8 + (1 : Int))) <|
        loop9 (x14.1, (if (x14.2.1 + (1 : Int)) > v7 then (x14.2.1 + (1 : Int)) else v7), v8 + (1 : Int))))) (
    some (v6, v7, true))
def f_formula_measure_body (rec_f_formula_measure : (List S_Node) → Int → Option (Int × Int × Bool)) (t0 : List S_Node) (t1 : Int) : Option (Int × Int × Bool) :=
  cond (decide ((t0.length : Int) ≤ t1)) (
    some ((0 : Int), (0 : Int), false)) (
    G (0 ≤ t1 ∧ t1 < (t0.length : Int)) <|
    (f_formula_arity (t0.getD t1.toNat zS_Node)).bind fun x3 =>
    cond (!x3.2) (
      some ((0 : Int), (0 : Int), false)) (
      G (inR (t1 + (1 : Int))) <|
      iter (fun loop (s : Int × Int × Int) => f_formula_measure_body_b1 rec_f_formula_measure t0 t1 x3 loop s.1 s.2.1 s.2.2) 1000000 (t1 + (1 : Int), (1 : Int), (0 : Int))))
theorem f_formula_measure_body_ok {rec_f_formula_measure : (List S_Node) → Int → Option (Int × Int × Bool)} (hrec_f_formula_measure : ∀ (t0 : List S_Node) (t1 : Int) (r : Int × Int × Bool), rec_f_formula_measure t0 t1 = some r → QSpec Tryd.prog 73 [slA eS_Node t0, .int .i64 t1] (.tup [.int .i64 r.1, .int .i64 r.2.1, .bool r.2.2])) {t0 : List S_Node} {t1 : Int} {r : Int × Int × Bool} (H : f_formula_measure_body rec_f_formula_measure t0 t1 = some r) : QSpec Tryd.prog 73 [slA eS_Node t0, .int .i64 t1] (.tup [.int .i64 r.1, .int .i64 r.2.1, .bool r.2.2]) := by
  refine Spec.of_AW Tryd.func73 rfl (by simp [Tryd.ntmps73]) ?_
  rw [Tryd.ntmps73]
  unfold f_formula_measure_body at H
  change AW _ _ _ [(0, slA eS_Node t0), (1, .int .i64 t1)] [] _
  refine AW.regionSeq ?_
  refine OpsW.seg 3 [0, 1] [] [(0, slA eS_Node t0), (1, .int .i64 t1)] (by kernel_rfl) trivial ?_
  refine OpsW.nil ?_
  refine AW.seq ?_
  refine AW.regionSeq ?_
  refine OpsW.seg 4 [18, 0, 1] [] [(18, .bool (decide ((t0.length : Int) ≤ t1))), (0, slA eS_Node t0), (1, .int .i64 t1)] (by kernel_rfl) trivial ?_
  refine OpsW.nil ?_
  refine AW.cond (b := decide ((t0.length : Int) ≤ t1)) rfl (fun c1 => ?_) (fun c1 => ?_)
  · replace H := condT c1 H
    refine AW.regionSeq ?_
    refine OpsW.seg 3 [6, 5, 4] [] [(6, .bool false), (5, .int .i64 0), (4, .int .i64 0)] (by kernel_rfl) trivial ?_
    refine OpsW.nil ?_
    obtain rfl := Option.some.inj H
    refine AW.recast (env' := [(4, .int .i64 0), (5, .int .i64 0), (6, .bool false)]) (h' := []) (StC.pure (.cons .im (.cons .im (.cons .im .nil)))) ?_
    refine AW.ret ?_
    try simp only [Ex.then, Ex.inBlock, Ex.noGoto, Ex.jump, reduceIte, Nat.reduceEqDiff, reduceCtorEq]
    refine Done.gen rfl (.tmp (.tmp (.tmp .nil))) ?_
    show _ = _
    kernel_rfl
  · replace H := condF c1 H
    refine AW.skip ?_
    refine AW.regionSeq ?_
    obtain ⟨g2, H⟩ := G_some H
    refine OpsW.seg 3 [22, 0, 1] [0 ≤ t1 ∧ t1 < (t0.length : Int)] [(22, .ipt (t0.flatMap eS_Node) (t1.toNat * 2)), (0, slA eS_Node t0), (1, .int .i64 t1)] (by kernel_rfl) ⟨g2, trivial⟩ ?_
    refine OpsW.asU (.agg [.int .i64 ((t0.getD t1.toNat zS_Node).Op), .int .i64 ((t0.getD t1.toNat zS_Node).N)]) rfl rfl (T.loadAgg (cs := t0.flatMap eS_Node) (off := t1.toNat * 2) (ds := eS_Node (t0.getD t1.toNat zS_Node)) rfl trivial (by kernel_rfl) (by have := fm_length eS_Node 2 (fun _ => rfl) t0; have := (ltN g2); omega) (fm_elem eS_Node 2 (fun _ => rfl) t0 zS_Node t1.toNat (ltN g2))) ?_
    obtain ⟨x3, hx3, H⟩ := bindS H
    refine OpsW.qcall rfl (by kernel_rfl) rfl rfl (glAll_sound trivial) (.cons (.pur rfl) .nil) (f_formula_arity_ok hx3) rfl ?_
    refine OpsW.seg 5 [8, 7, 0, 1] [] [(8, .bool x3.2), (7, .int .i64 x3.1), (0, slA eS_Node t0), (1, .int .i64 t1)] (by kernel_rfl) trivial ?_
    refine OpsW.nil ?_
    refine AW.seq ?_
    refine AW.regionSeq ?_
    refine OpsW.seg 2 [28, 7, 0, 1] [] [(28, .bool (!x3.2)), (7, .int .i64 x3.1), (0, slA eS_Node t0), (1, .int .i64 t1)] (by kernel_rfl) trivial ?_
    refine OpsW.nil ?_
    refine AW.cond (b := !x3.2) rfl (fun c4 => ?_) (fun c4 => ?_)
    · replace H := condT c4 H
      refine AW.regionSeq ?_
      refine OpsW.seg 3 [6, 5, 4] [] [(6, .bool false), (5, .int .i64 0), (4, .int .i64 0)] (by kernel_rfl) trivial ?_
      refine OpsW.nil ?_
      obtain rfl := Option.some.inj H
      refine AW.recast (env' := [(4, .int .i64 0), (5, .int .i64 0), (6, .bool false)]) (h' := []) (StC.pure (.cons .im (.cons .im (.cons .im .nil)))) ?_
      refine AW.ret ?_
      try simp only [Ex.then, Ex.inBlock, Ex.noGoto, Ex.jump, reduceIte, Nat.reduceEqDiff, reduceCtorEq]
      refine Done.gen rfl (.tmp (.tmp (.tmp .nil))) ?_
      show _ = _
      kernel_rfl
    · replace H := condF c4 H
      refine AW.skip ?_
      refine AW.regionSeq ?_
      obtain ⟨g5, H⟩ := G_some H
      refine OpsW.seg 4 [10, 9, 7, 0, 1] [inR (t1 + (1 : Int))] [(10, .int .i64 1), (9, .int .i64 (t1 + (1 : Int))), (7, .int .i64 x3.1), (0, slA eS_Node t0), (1, .int .i64 t1)] (by kernel_rfl) ⟨g5, trivial⟩ ?_
      refine OpsW.nil ?_
      refine AW.seq ?_
      refine AW.regionSeq ?_
      refine OpsW.seg 2 [32, 31, 10, 9, 0, 1] [] [(32, .int .i64 0), (31, .int .i64 x3.1), (10, .int .i64 1), (9, .int .i64 (t1 + (1 : Int))), (0, slA eS_Node t0), (1, .int .i64 t1)] (by kernel_rfl) trivial ?_
      refine OpsW.nil ?_
      refine AW.block ?_
      refine AW.iterK (fun loop (s : Int × Int × Int) => f_formula_measure_body_b1 rec_f_formula_measure t0 t1 x3 loop s.1 s.2.1 s.2.2) r (fun (s : Int × Int × Int) => [(0, slA eS_Node t0), (1, .int .i64 t1), (9, .int .i64 s.1), (10, .int .i64 s.2.1), (31, .int .i64 x3.1), (32, .int .i64 s.2.2)]) (fun (s : Int × Int × Int) => []) ?_ 1000000 (t1 + (1 : Int), (1 : Int), (0 : Int)) H (StC.pure (.cons .im (.cons .im (.cons .im (.cons .im (.cons .im (.cons .im .nil)))))))
      intro loop9 s H
      obtain ⟨v6, v7, v8⟩ := s
      change f_formula_measure_body_b1 rec_f_formula_measure t0 t1 x3 loop9 v6 v7 v8 = some r at H
      unfold f_formula_measure_body_b1 at H
      change AW _ _ _ [(0, slA eS_Node t0), (1, .int .i64 t1), (9, .int .i64 v6), (10, .int .i64 v7), (31, .int .i64 x3.1), (32, .int .i64 v8)] [] _
      refine AW.regionSeq ?_
      refine OpsW.seg 1 [33, 0, 1, 9, 10, 31, 32] [] [(33, .bool (decide (v8 < x3.1))), (0, slA eS_Node t0), (1, .int .i64 t1), (9, .int .i64 v6), (10, .int .i64 v7), (31, .int .i64 x3.1), (32, .int .i64 v8)] (by kernel_rfl) trivial ?_
      refine OpsW.nil ?_
      refine AW.seq ?_
      refine AW.cond (b := decide (v8 < x3.1)) rfl (fun c10 => ?_) (fun c10 => ?_)
      · replace H := condT c10 H
        refine AW.skip ?_
        refine AW.seq ?_
        refine AW.block ?_
        refine AW.regionSeq ?_
        refine OpsW.seg 2 [11, 0, 1, 9, 10, 31, 32] [] [(11, .int .i64 v8), (0, slA eS_Node t0), (1, .int .i64 t1), (9, .int .i64 v6), (10, .int .i64 v7), (31, .int .i64 x3.1), (32, .int .i64 v8)] (by kernel_rfl) trivial ?_
        refine OpsW.nil ?_
        refine AW.seq ?_
        refine AW.drawSeq Tryd.checked.mixed (by kernel_rfl) ?_
        refine QOps.seg (N := 69) 8 [(!(decide ((t0.length : Int) ≤ v6))) = true → (!(decide ((t0.length : Int) ≤ v6))) = true, (!(decide ((t0.length : Int) ≤ v6))) = true → (!(decide ((t0.length : Int) ≤ v6))) = true, (!(decide ((t0.length : Int) ≤ v6))) = true → (0 ≤ t1 ∧ t1 < (t0.length : Int))] [(42, .cnd (!(decide ((t0.length : Int) ≤ v6))) (.ipt (t0.flatMap eS_Node) (t1.toNat * 2))), (41, .cnd (!(decide ((t0.length : Int) ≤ v6))) (.int .i64 t1)), (40, .cnd (!(decide ((t0.length : Int) ≤ v6))) (slA eS_Node t0)), (39, .bool (decide ((t0.length : Int) ≤ v6))), (38, .bool (decide ((t0.length : Int) ≤ v6))), (37, .int .i64 (t0.length : Int)), (36, slA eS_Node t0), (35, .int .i64 v6), (11, .int .i64 v8), (0, slA eS_Node t0), (1, .int .i64 t1), (9, .int .i64 v6), (10, .int .i64 v7), (31, .int .i64 x3.1), (32, .int .i64 v8)] (by kernel_rfl) ⟨(fun h => h), (fun h => h), (fun _ => g2), trivial⟩ ?_
        refine QOps.asG (c := !(decide ((t0.length : Int) ≤ v6))) (.agg [.int .i64 ((t0.getD t1.toNat zS_Node).Op), .int .i64 ((t0.getD t1.toNat zS_Node).N)]) rfl rfl rfl (fun hc => T.loadAgg (cs := t0.flatMap eS_Node) (off := t1.toNat * 2) (ds := eS_Node (t0.getD t1.toNat zS_Node)) rfl hc (by kernel_rfl) (by have := fm_length eS_Node 2 (fun _ => rfl) t0; have := (ltN g2); omega) (fm_elem eS_Node 2 (fun _ => rfl) t0 zS_Node t1.toNat (ltN g2))) ?_
        obtain ⟨g11, H⟩ := G_some H
        refine QOps.seg (N := 69) 4 [(!(decide ((t0.length : Int) ≤ v6))) = true → (!(decide ((t0.length : Int) ≤ v6))) = true, (!(decide ((t0.length : Int) ≤ v6))) = true → (!(decide ((t0.length : Int) ≤ v6))) = true, (!(decide ((t0.length : Int) ≤ v6))) = true → (0 ≤ v6 ∧ v6 < (t0.length : Int))] [(47, .cnd (!(decide ((t0.length : Int) ≤ v6))) (.ipt (t0.flatMap eS_Node) (v6.toNat * 2))), (46, .cnd (!(decide ((t0.length : Int) ≤ v6))) (.int .i64 v6)), (45, .cnd (!(decide ((t0.length : Int) ≤ v6))) (slA eS_Node t0)), (44, .cnd (!(decide ((t0.length : Int) ≤ v6))) (.int .i64 v8)), (43, .cnd (!(decide ((t0.length : Int) ≤ v6))) (.agg [.int .i64 ((t0.getD t1.toNat zS_Node).Op), .int .i64 ((t0.getD t1.toNat zS_Node).N)])), (42, .cnd (!(decide ((t0.length : Int) ≤ v6))) (.ipt (t0.flatMap eS_Node) (t1.toNat * 2))), (41, .cnd (!(decide ((t0.length : Int) ≤ v6))) (.int .i64 t1)), (40, .cnd (!(decide ((t0.length : Int) ≤ v6))) (slA eS_Node t0)), (39, .bool (decide ((t0.length : Int) ≤ v6))), (38, .bool (decide ((t0.length : Int) ≤ v6))), (37, .int .i64 (t0.length : Int)), (36, slA eS_Node t0), (35, .int .i64 v6), (11, .int .i64 v8), (0, slA eS_Node t0), (1, .int .i64 t1), (9, .int .i64 v6), (10, .int .i64 v7), (31, .int .i64 x3.1), (32, .int .i64 v8)] (by kernel_rfl) ⟨(fun h => h), (fun h => h), g11, trivial⟩ ?_
        refine QOps.asG (c := !(decide ((t0.length : Int) ≤ v6))) (.agg [.int .i64 ((t0.getD v6.toNat zS_Node).Op), .int .i64 ((t0.getD v6.toNat zS_Node).N)]) rfl rfl rfl (fun hc => T.loadAgg (cs := t0.flatMap eS_Node) (off := v6.toNat * 2) (ds := eS_Node (t0.getD v6.toNat zS_Node)) rfl hc (by kernel_rfl) (by have := fm_length eS_Node 2 (fun _ => rfl) t0; have := (ltN (g11 hc)); omega) (fm_elem eS_Node 2 (fun _ => rfl) t0 zS_Node v6.toNat (ltN (g11 hc)))) ?_
        obtain ⟨x12, hx12, H⟩ := bindS H
        refine QOps.gcall (c := !(decide ((t0.length : Int) ≤ v6))) (r := .bool x12) [] rfl (by kernel_rfl) rfl rfl rfl (fun hc => ⟨glAll_sound ⟨hc, hc, hc, trivial⟩, (.cons (.pur rfl) (.cons (.pur rfl) (.cons (.pur rfl) .nil))), f_formula_admits_ok (condT hc hx12), .inl ⟨rfl, rfl⟩⟩) ?_
        refine QOps.seg (N := 69) 2 [(!(decide ((t0.length : Int) ≤ v6))) = true → (!(decide ((t0.length : Int) ≤ v6))) = true, (decide ((t0.length : Int) ≤ v6)) = false → (!(decide ((t0.length : Int) ≤ v6))) = true] [(51, .bool (cond (decide ((t0.length : Int) ≤ v6)) true (!x12))), (50, .cnd (!(decide ((t0.length : Int) ≤ v6))) (.bool (!x12))), (49, .cnd (!(decide ((t0.length : Int) ≤ v6))) (.bool x12)), (48, .cnd (!(decide ((t0.length : Int) ≤ v6))) (.agg [.int .i64 ((t0.getD v6.toNat zS_Node).Op), .int .i64 ((t0.getD v6.toNat zS_Node).N)])), (47, .cnd (!(decide ((t0.length : Int) ≤ v6))) (.ipt (t0.flatMap eS_Node) (v6.toNat * 2))), (46, .cnd (!(decide ((t0.length : Int) ≤ v6))) (.int .i64 v6)), (45, .cnd (!(decide ((t0.length : Int) ≤ v6))) (slA eS_Node t0)), (44, .cnd (!(decide ((t0.length : Int) ≤ v6))) (.int .i64 v8)), (43, .cnd (!(decide ((t0.length : Int) ≤ v6))) (.agg [.int .i64 ((t0.getD t1.toNat zS_Node).Op), .int .i64 ((t0.getD t1.toNat zS_Node).N)])), (42, .cnd (!(decide ((t0.length : Int) ≤ v6))) (.ipt (t0.flatMap eS_Node) (t1.toNat * 2))), (41, .cnd (!(decide ((t0.length : Int) ≤ v6))) (.int .i64 t1)), (40, .cnd (!(decide ((t0.length : Int) ≤ v6))) (slA eS_Node t0)), (39, .bool (decide ((t0.length : Int) ≤ v6))), (38, .bool (decide ((t0.length : Int) ≤ v6))), (37, .int .i64 (t0.length : Int)), (36, slA eS_Node t0), (35, .int .i64 v6), (11, .int .i64 v8), (0, slA eS_Node t0), (1, .int .i64 t1), (9, .int .i64 v6), (10, .int .i64 v7), (31, .int .i64 x3.1), (32, .int .i64 v8)] (by kernel_rfl) ⟨(fun h => h), (fun h => by first | exact h | (simpa using h) | grind), trivial⟩ ?_
        refine QOps.nil ?_
        refine AW.trim [51, 0, 1, 9, 10, 31, 32] [(51, .bool (cond (decide ((t0.length : Int) ≤ v6)) true (!x12))), (0, slA eS_Node t0), (1, .int .i64 t1), (9, .int .i64 v6), (10, .int .i64 v7), (31, .int .i64 x3.1), (32, .int .i64 v8)] (by kernel_rfl) ?_
        refine AW.cond (b := cond (decide ((t0.length : Int) ≤ v6)) true (!x12)) rfl (fun c13 => ?_) (fun c13 => ?_)
        · replace H := condT c13 H
          refine AW.regionSeq ?_
          refine OpsW.seg 3 [6, 5, 4] [] [(6, .bool false), (5, .int .i64 0), (4, .int .i64 0)] (by kernel_rfl) trivial ?_
          refine OpsW.nil ?_
          obtain rfl := Option.some.inj H
          refine AW.recast (env' := [(4, .int .i64 0), (5, .int .i64 0), (6, .bool false)]) (h' := []) (StC.pure (.cons .im (.cons .im (.cons .im .nil)))) ?_
          refine AW.ret ?_
          try simp only [Ex.then, Ex.inBlock, Ex.noGoto, Ex.jump, reduceIte, Nat.reduceEqDiff, reduceCtorEq]
          refine Done.gen rfl (.tmp (.tmp (.tmp .nil))) ?_
          show _ = _
          kernel_rfl
        · replace H := condF c13 H
          refine AW.skip ?_
          refine AW.regionSeq ?_
          refine OpsW.seg 2 [54, 53, 0, 1, 10, 31, 32] [] [(54, .int .i64 v6), (53, slA eS_Node t0), (0, slA eS_Node t0), (1, .int .i64 t1), (10, .int .i64 v7), (31, .int .i64 x3.1), (32, .int .i64 v8)] (by kernel_rfl) trivial ?_
          obtain ⟨x14, hx14, H⟩ := bindS H
          refine OpsW.qcall rfl (by kernel_rfl) rfl rfl (glAll_sound trivial) (.cons (.pur rfl) (.cons (.pur rfl) .nil)) (hrec_f_formula_measure _ _ _ hx14) rfl ?_
          refine OpsW.seg 7 [14, 13, 12, 0, 1, 10, 31, 32] [] [(14, .bool x14.2.2), (13, .int .i64 x14.2.1), (12, .int .i64 x14.1), (0, slA eS_Node t0), (1, .int .i64 t1), (10, .int .i64 v7), (31, .int .i64 x3.1), (32, .int .i64 v8)] (by kernel_rfl) trivial ?_
          refine OpsW.nil ?_
          refine AW.seq ?_
          refine AW.regionSeq ?_
          refine OpsW.seg 2 [60, 13, 12, 0, 1, 10, 31, 32] [] [(60, .bool (!x14.2.2)), (13, .int .i64 x14.2.1), (12, .int .i64 x14.1), (0, slA eS_Node t0), (1, .int .i64 t1), (10, .int .i64 v7), (31, .int .i64 x3.1), (32, .int .i64 v8)] (by kernel_rfl) trivial ?_
          refine OpsW.nil ?_
          refine AW.cond (b := !x14.2.2) rfl (fun c15 => ?_) (fun c15 => ?_)
          · replace H := condT c15 H
            refine AW.regionSeq ?_
            refine OpsW.seg 3 [6, 5, 4] [] [(6, .bool false), (5, .int .i64 0), (4, .int .i64 0)] (by kernel_rfl) trivial ?_
            refine OpsW.nil ?_
            obtain rfl := Option.some.inj H
            refine AW.recast (env' := [(4, .int .i64 0), (5, .int .i64 0), (6, .bool false)]) (h' := []) (StC.pure (.cons .im (.cons .im (.cons .im .nil)))) ?_
            refine AW.ret ?_
            try simp only [Ex.then, Ex.inBlock, Ex.noGoto, Ex.jump, reduceIte, Nat.reduceEqDiff, reduceCtorEq]
            refine Done.gen rfl (.tmp (.tmp (.tmp .nil))) ?_
            show _ = _
            kernel_rfl
          · replace H := condF c15 H
            refine AW.skip ?_
            refine AW.region ?_
            obtain ⟨g16, H⟩ := G_some H
            refine OpsW.seg 7 [10, 9, 0, 1, 31, 32] [inR (x14.2.1 + (1 : Int))] [(10, .int .i64 (if (x14.2.1 + (1 : Int)) > v7 then (x14.2.1 + (1 : Int)) else v7)), (9, .int .i64 x14.1), (0, slA eS_Node t0), (1, .int .i64 t1), (31, .int .i64 x3.1), (32, .int .i64 v8)] (by kernel_rfl) ⟨g16, trivial⟩ ?_
            refine OpsW.nil ?_
            refine AW.region ?_
            obtain ⟨g17, H⟩ := G_some H
            refine OpsW.seg 2 [32, 10, 9, 0, 1, 31] [inR (v8 + (1 : Int))] [(32, .int .i64 (v8 + (1 : Int))), (10, .int .i64 (if (x14.2.1 + (1 : Int)) > v7 then (x14.2.1 + (1 : Int)) else v7)), (9, .int .i64 x14.1), (0, slA eS_Node t0), (1, .int .i64 t1), (31, .int .i64 x3.1)] (by kernel_rfl) ⟨g17, trivial⟩ ?_
            refine OpsW.nil ?_
            show ∃ y, _ ∧ StC _ _ _ _
            exact ⟨(x14.1, (if (x14.2.1 + (1 : Int)) > v7 then (x14.2.1 + (1 : Int)) else v7), v8 + (1 : Int)), H, (StC.pure (.cons .im (.cons .im (.cons .im (.cons .im (.cons .im (.cons .im .nil)))))))⟩
      · replace H := condF c10 H
        refine AW.exit ?_
        refine AW.regionSeq ?_
        refine OpsW.seg 5 [6, 5, 4] [] [(6, .bool true), (5, .int .i64 v7), (4, .int .i64 v6)] (by kernel_rfl) trivial ?_
        refine OpsW.nil ?_
        obtain rfl := Option.some.inj H
        refine AW.recast (env' := [(4, .int .i64 v6), (5, .int .i64 v7), (6, .bool true)]) (h' := []) (StC.pure (.cons .im (.cons .im (.cons .im .nil)))) ?_
        refine AW.ret ?_
        try simp only [Ex.then, Ex.inBlock, Ex.noGoto, Ex.jump, reduceIte, Nat.reduceEqDiff, reduceCtorEq]
        refine Done.gen rfl (.tmp (.tmp (.tmp .nil))) ?_
        show _ = _
        kernel_rfl
def f_formula_measure_f : Nat → (List S_Node) → Int → Option (Int × Int × Bool)
  | 0, _, _ => none
  | n + 1, t0, t1 => f_formula_measure_body (f_formula_measure_f n) t0 t1
theorem f_formula_measure_all : ∀ n : Nat, (∀ (t0 : List S_Node) (t1 : Int) (r : Int × Int × Bool), f_formula_measure_f n t0 t1 = some r → QSpec Tryd.prog 73 [slA eS_Node t0, .int .i64 t1] (.tup [.int .i64 r.1, .int .i64 r.2.1, .bool r.2.2])) ∧ True
  | 0 => by
    refine ⟨?_, trivial⟩
    · intro t0 t1 r H; rw [f_formula_measure_f] at H; cases H
  | n + 1 => by
    have ih := f_formula_measure_all n
    refine ⟨?_, trivial⟩
    · intro t0 t1 r H; rw [f_formula_measure_f] at H; exact f_formula_measure_body_ok ih.1 H
def f_formula_measure (t0 : List S_Node) (t1 : Int) : Option (Int × Int × Bool) := f_formula_measure_f 1000000 t0 t1
theorem f_formula_measure_ok {t0 : List S_Node} {t1 : Int} {r : Int × Int × Bool} (H : f_formula_measure t0 t1 = some r) : QSpec Tryd.prog 73 [slA eS_Node t0, .int .i64 t1] (.tup [.int .i64 r.1, .int .i64 r.2.1, .bool r.2.2]) :=
  (f_formula_measure_all 1000000).1 t0 t1 r H
def f_formula_Depth (t0 : List S_Node) : Option Int :=
  cond (decide ((60 : Int) < (t0.length : Int))) (
    some (0 : Int)) (
    (f_formula_measure t0 (0 : Int)).bind fun x2 =>
    cond (cond (cond (!x2.2.2) true (x2.1 != (t0.length : Int))) true (decide ((8 : Int) < x2.2.1))) (
      some (0 : Int)) (
      some x2.2.1))
theorem f_formula_Depth_ok  {t0 : List S_Node} {r : Int} (H : f_formula_Depth t0 = some r) : QSpec Tryd.prog 39 [slA eS_Node t0] (.int .i64 r) := by
  refine Spec.of_AW Tryd.func39 rfl (by simp [Tryd.ntmps39]) ?_
  rw [Tryd.ntmps39]
  unfold f_formula_Depth at H
  change AW _ _ _ [(0, slA eS_Node t0)] [] _
  refine AW.regionSeq ?_
  refine OpsW.seg 1 [0] [] [(0, slA eS_Node t0)] (by kernel_rfl) trivial ?_
  refine OpsW.nil ?_
  refine AW.seq ?_
  refine AW.regionSeq ?_
  refine OpsW.seg 3 [8, 0] [] [(8, .bool (decide ((60 : Int) < (t0.length : Int)))), (0, slA eS_Node t0)] (by kernel_rfl) trivial ?_
  refine OpsW.nil ?_
  refine AW.cond (b := decide ((60 : Int) < (t0.length : Int))) rfl (fun c1 => ?_) (fun c1 => ?_)
  · replace H := condT c1 H
    refine AW.regionSeq ?_
    refine OpsW.seg 1 [2] [] [(2, .int .i64 0)] (by kernel_rfl) trivial ?_
    refine OpsW.nil ?_
    obtain rfl := Option.some.inj H
    refine AW.recast (env' := [(2, .int .i64 0)]) (h' := []) (StC.pure (.cons .im .nil)) ?_
    refine AW.ret ?_
    try simp only [Ex.then, Ex.inBlock, Ex.noGoto, Ex.jump, reduceIte, Nat.reduceEqDiff, reduceCtorEq]
    refine Done.gen rfl (.tmp .nil) ?_
    show _ = _
    kernel_rfl
  · replace H := condF c1 H
    refine AW.skip ?_
    refine AW.regionSeq ?_
    refine OpsW.seg 1 [10, 0] [] [(10, slA eS_Node t0), (0, slA eS_Node t0)] (by kernel_rfl) trivial ?_
    obtain ⟨x2, hx2, H⟩ := bindS H
    refine OpsW.qcall rfl (by kernel_rfl) rfl rfl (glAll_sound trivial) (.cons (.pur rfl) (.cons (.pur rfl) .nil)) (f_formula_measure_ok hx2) rfl ?_
    refine OpsW.seg 7 [5, 4, 3, 0] [] [(5, .bool x2.2.2), (4, .int .i64 x2.2.1), (3, .int .i64 x2.1), (0, slA eS_Node t0)] (by kernel_rfl) trivial ?_
    refine OpsW.nil ?_
    refine AW.seq ?_
    refine AW.regionSeq ?_
    refine OpsW.seg 12 [26, 4] [(!(!x2.2.2)) = true → (!(!x2.2.2)) = true, (!(!x2.2.2)) = true → (!(!x2.2.2)) = true, (!(!x2.2.2)) = true → (!(!x2.2.2)) = true, (!x2.2.2) = false → (!(!x2.2.2)) = true, (!(cond (!x2.2.2) true (x2.1 != (t0.length : Int)))) = true → (!(cond (!x2.2.2) true (x2.1 != (t0.length : Int)))) = true, (cond (!x2.2.2) true (x2.1 != (t0.length : Int))) = false → (!(cond (!x2.2.2) true (x2.1 != (t0.length : Int)))) = true] [(26, .bool (cond (cond (!x2.2.2) true (x2.1 != (t0.length : Int))) true (decide ((8 : Int) < x2.2.1)))), (4, .int .i64 x2.2.1)] (by kernel_rfl) ⟨(fun h => h), (fun h => h), (fun h => h), (fun h => by first | exact h | (simpa using h) | grind), (fun h => h), (fun h => by first | exact h | (simpa using h) | grind), trivial⟩ ?_
    refine OpsW.nil ?_
    refine AW.cond (b := cond (cond (!x2.2.2) true (x2.1 != (t0.length : Int))) true (decide ((8 : Int) < x2.2.1))) rfl (fun c3 => ?_) (fun c3 => ?_)
    · replace H := condT c3 H
      refine AW.regionSeq ?_
      refine OpsW.seg 1 [2] [] [(2, .int .i64 0)] (by kernel_rfl) trivial ?_
      refine OpsW.nil ?_
      obtain rfl := Option.some.inj H
      refine AW.recast (env' := [(2, .int .i64 0)]) (h' := []) (StC.pure (.cons .im .nil)) ?_
      refine AW.ret ?_
      try simp only [Ex.then, Ex.inBlock, Ex.noGoto, Ex.jump, reduceIte, Nat.reduceEqDiff, reduceCtorEq]
      refine Done.gen rfl (.tmp .nil) ?_
      show _ = _
      kernel_rfl
    · replace H := condF c3 H
      refine AW.skip ?_
      refine AW.regionSeq ?_
      refine OpsW.seg 2 [2] [] [(2, .int .i64 x2.2.1)] (by kernel_rfl) trivial ?_
      refine OpsW.nil ?_
      obtain rfl := Option.some.inj H
      refine AW.recast (env' := [(2, .int .i64 x2.2.1)]) (h' := []) (StC.pure (.cons .im .nil)) ?_
      refine AW.ret ?_
      try simp only [Ex.then, Ex.inBlock, Ex.noGoto, Ex.jump, reduceIte, Nat.reduceEqDiff, reduceCtorEq]
      refine Done.gen rfl (.tmp .nil) ?_
      show _ = _
      kernel_rfl
def f_formula_Valid (t0 : List S_Node) : Option Bool :=
  (f_formula_Depth t0).bind fun x1 =>
  some (decide ((0 : Int) < x1))
theorem f_formula_Valid_ok  {t0 : List S_Node} {r : Bool} (H : f_formula_Valid t0 = some r) : QSpec Tryd.prog 22 [slA eS_Node t0] (.bool r) := by
  refine Spec.of_AW Tryd.func22 rfl (by simp [Tryd.ntmps22]) ?_
  rw [Tryd.ntmps22]
  unfold f_formula_Valid at H
  change AW _ _ _ [(0, slA eS_Node t0)] [] _
  refine AW.regionSeq ?_
  refine OpsW.seg 1 [0] [] [(0, slA eS_Node t0)] (by kernel_rfl) trivial ?_
  refine OpsW.nil ?_
  refine AW.regionSeq ?_
  refine OpsW.seg 1 [3] [] [(3, slA eS_Node t0)] (by kernel_rfl) trivial ?_
  obtain ⟨x1, hx1, H⟩ := bindS H
  refine OpsW.qcall rfl (by kernel_rfl) rfl rfl (glAll_sound trivial) (.cons (.pur rfl) .nil) (f_formula_Depth_ok hx1) rfl ?_
  refine OpsW.seg 2 [2] [] [(2, .bool (decide ((0 : Int) < x1)))] (by kernel_rfl) trivial ?_
  refine OpsW.nil ?_
  obtain rfl := Option.some.inj H
  refine AW.recast (env' := [(2, .bool (decide ((0 : Int) < x1)))]) (h' := []) (StC.pure (.cons .im .nil)) ?_
  refine AW.ret ?_
  try simp only [Ex.then, Ex.inBlock, Ex.noGoto, Ex.jump, reduceIte, Nat.reduceEqDiff, reduceCtorEq]
  refine Done.gen rfl (.tmp .nil) ?_
  show _ = _
  kernel_rfl
def f_linear_sign (t0 : Int) : Option (List Int) :=
  cond (t0 == (2 : Int)) (
    some [(44 : Int)]) (
    cond (t0 == (3 : Int)) (
      some [(36 : Int)]) (
      cond (t0 == (4 : Int)) (
        some [(33 : Int)]) (
        some [(0 : Int), (54 : Int), (0 : Int)])))
theorem f_linear_sign_ok  {t0 : Int} {r : List Int} (H : f_linear_sign t0 = some r) : QSpec Tryd.prog 42 [.int .i64 t0] (slA (eI .u8) r) := by
  refine Spec.of_AW Tryd.func42 rfl (by simp [Tryd.ntmps42]) ?_
  rw [Tryd.ntmps42]
  unfold f_linear_sign at H
  change AW _ _ _ [(0, .int .i64 t0)] [] _
  refine AW.regionSeq ?_
  refine OpsW.seg 1 [0] [] [(0, .int .i64 t0)] (by kernel_rfl) trivial ?_
  refine OpsW.nil ?_
  refine AW.seq ?_
  refine AW.regionSeq ?_
  refine OpsW.seg 1 [3] [] [(3, .int .i64 t0)] (by kernel_rfl) trivial ?_
  refine OpsW.nil ?_
  refine AW.block ?_
  refine AW.regionSeq ?_
  refine OpsW.seg 2 [4, 3] [] [(4, .bool (t0 == (2 : Int))), (3, .int .i64 t0)] (by kernel_rfl) trivial ?_
  refine OpsW.nil ?_
  refine AW.cond (b := t0 == (2 : Int)) rfl (fun c1 => ?_) (fun c1 => ?_)
  · replace H := condT c1 H
    refine AW.regionSeq ?_
    refine OpsW.buildTI (enc := eI .u8) [(44 : Int)] rfl rfl rfl E28 (fun _ => rfl) (by decide) ⟨trivial, by kernel_rfl, by kernel_rfl, by kernel_rfl, rfl⟩ ?_
    refine OpsW.seg 1 [2] [] [(2, slA (eI .u8) [(44 : Int)])] (by kernel_rfl) trivial ?_
    refine OpsW.nil ?_
    obtain rfl := Option.some.inj H
    refine AW.recast (env' := [(2, slA (eI .u8) [(44 : Int)])]) (h' := []) (StC.pure (.cons .im .nil)) ?_
    refine AW.ret ?_
    try simp only [Ex.then, Ex.inBlock, Ex.noGoto, Ex.jump, reduceIte, Nat.reduceEqDiff, reduceCtorEq]
    refine Done.gen rfl (.tmp .nil) ?_
    show _ = _
    kernel_rfl
  · replace H := condF c1 H
    refine AW.regionSeq ?_
    refine OpsW.seg 2 [7, 3] [] [(7, .bool (t0 == (3 : Int))), (3, .int .i64 t0)] (by kernel_rfl) trivial ?_
    refine OpsW.nil ?_
    refine AW.cond (b := t0 == (3 : Int)) rfl (fun c2 => ?_) (fun c2 => ?_)
    · replace H := condT c2 H
      refine AW.regionSeq ?_
      refine OpsW.buildTI (enc := eI .u8) [(36 : Int)] rfl rfl rfl E28 (fun _ => rfl) (by decide) ⟨trivial, by kernel_rfl, by kernel_rfl, by kernel_rfl, rfl⟩ ?_
      refine OpsW.seg 1 [2] [] [(2, slA (eI .u8) [(36 : Int)])] (by kernel_rfl) trivial ?_
      refine OpsW.nil ?_
      obtain rfl := Option.some.inj H
      refine AW.recast (env' := [(2, slA (eI .u8) [(36 : Int)])]) (h' := []) (StC.pure (.cons .im .nil)) ?_
      refine AW.ret ?_
      try simp only [Ex.then, Ex.inBlock, Ex.noGoto, Ex.jump, reduceIte, Nat.reduceEqDiff, reduceCtorEq]
      refine Done.gen rfl (.tmp .nil) ?_
      show _ = _
      kernel_rfl
    · replace H := condF c2 H
      refine AW.regionSeq ?_
      refine OpsW.seg 2 [10] [] [(10, .bool (t0 == (4 : Int)))] (by kernel_rfl) trivial ?_
      refine OpsW.nil ?_
      refine AW.cond (b := t0 == (4 : Int)) rfl (fun c3 => ?_) (fun c3 => ?_)
      · replace H := condT c3 H
        refine AW.regionSeq ?_
        refine OpsW.buildTI (enc := eI .u8) [(33 : Int)] rfl rfl rfl E28 (fun _ => rfl) (by decide) ⟨trivial, by kernel_rfl, by kernel_rfl, by kernel_rfl, rfl⟩ ?_
        refine OpsW.seg 1 [2] [] [(2, slA (eI .u8) [(33 : Int)])] (by kernel_rfl) trivial ?_
        refine OpsW.nil ?_
        obtain rfl := Option.some.inj H
        refine AW.recast (env' := [(2, slA (eI .u8) [(33 : Int)])]) (h' := []) (StC.pure (.cons .im .nil)) ?_
        refine AW.ret ?_
        try simp only [Ex.then, Ex.inBlock, Ex.noGoto, Ex.jump, reduceIte, Nat.reduceEqDiff, reduceCtorEq]
        refine Done.gen rfl (.tmp .nil) ?_
        show _ = _
        kernel_rfl
      · replace H := condF c3 H
        refine AW.skip ?_
        refine AW.regionSeq ?_
        refine OpsW.buildTI (enc := eI .u8) [(0 : Int), (54 : Int), (0 : Int)] rfl rfl rfl E28 (fun _ => rfl) (by decide) ⟨trivial, by kernel_rfl, by kernel_rfl, by kernel_rfl, rfl⟩ ?_
        refine OpsW.seg 1 [2] [] [(2, slA (eI .u8) [(0 : Int), (54 : Int), (0 : Int)])] (by kernel_rfl) trivial ?_
        refine OpsW.nil ?_
        obtain rfl := Option.some.inj H
        refine AW.recast (env' := [(2, slA (eI .u8) [(0 : Int), (54 : Int), (0 : Int)])]) (h' := []) (StC.pure (.cons .im .nil)) ?_
        refine AW.ret ?_
        try simp only [Ex.then, Ex.inBlock, Ex.noGoto, Ex.jump, reduceIte, Nat.reduceEqDiff, reduceCtorEq]
        refine Done.gen rfl (.tmp .nil) ?_
        show _ = _
        kernel_rfl
def f_linear_simple_k1  : Option Bool :=
  some false
def f_linear_simple_k2 (v1 : Bool) : Option Bool :=
  cond v1 (
    some true) (
    f_linear_simple_k1)
def f_linear_simple (t0 : Int) : Option Bool :=
  cond (t0 == (0 : Int)) (
    f_linear_simple_k2 (t0 == (0 : Int))) (
    cond (t0 == (1 : Int)) (
      f_linear_simple_k2 (t0 == (1 : Int))) (
      cond (t0 == (6 : Int)) (
        f_linear_simple_k2 (t0 == (6 : Int))) (
        cond (t0 == (9 : Int)) (
          f_linear_simple_k2 (t0 == (9 : Int))) (
          cond (t0 == (10 : Int)) (
            f_linear_simple_k2 (t0 == (10 : Int))) (
            cond (t0 == (11 : Int)) (
              f_linear_simple_k2 (t0 == (11 : Int))) (
              cond (t0 == (12 : Int)) (
                f_linear_simple_k2 (t0 == (12 : Int))) (
                f_linear_simple_k2 (t0 == (13 : Int)))))))))
theorem f_linear_simple_ok  {t0 : Int} {r : Bool} (H : f_linear_simple t0 = some r) : QSpec Tryd.prog 74 [.int .i64 t0] (.bool r) := by
  refine Spec.of_AW Tryd.func74 rfl (by simp [Tryd.ntmps74]) ?_
  rw [Tryd.ntmps74]
  unfold f_linear_simple at H
  change AW _ _ _ [(0, .int .i64 t0)] [] _
  refine AW.regionSeq ?_
  refine OpsW.seg 1 [0] [] [(0, .int .i64 t0)] (by kernel_rfl) trivial ?_
  refine OpsW.nil ?_
  refine AW.joinK (fun (y : Unit) => f_linear_simple_k1) r (fun (y : Unit) => []) (fun (y : Unit) => []) ?_ ?_
  · refine AW.regionSeq ?_
    refine OpsW.seg 1 [3] [] [(3, .int .i64 t0)] (by kernel_rfl) trivial ?_
    refine OpsW.nil ?_
    refine AW.block ?_
    refine AW.joinK (fun (y : Bool) => f_linear_simple_k2 y) r (fun (y : Bool) => [(4, .bool y)]) (fun (y : Bool) => []) ?_ ?_
    · refine AW.regionSeq ?_
      refine OpsW.seg 2 [4, 3] [] [(4, .bool (t0 == (0 : Int))), (3, .int .i64 t0)] (by kernel_rfl) trivial ?_
      refine OpsW.nil ?_
      refine AW.cond (b := t0 == (0 : Int)) rfl (fun c3 => ?_) (fun c3 => ?_)
      · replace H := condT c3 H
        refine AW.skip ?_
        show ∃ y, _ ∧ StC _ _ _ _
        exact ⟨t0 == (0 : Int), H, (StC.pure (.cons .im .nil))⟩
      · replace H := condF c3 H
        refine AW.regionSeq ?_
        refine OpsW.seg 2 [4, 3] [] [(4, .bool (t0 == (1 : Int))), (3, .int .i64 t0)] (by kernel_rfl) trivial ?_
        refine OpsW.nil ?_
        refine AW.cond (b := t0 == (1 : Int)) rfl (fun c4 => ?_) (fun c4 => ?_)
        · replace H := condT c4 H
          refine AW.skip ?_
          show ∃ y, _ ∧ StC _ _ _ _
          exact ⟨t0 == (1 : Int), H, (StC.pure (.cons .im .nil))⟩
        · replace H := condF c4 H
          refine AW.regionSeq ?_
          refine OpsW.seg 2 [4, 3] [] [(4, .bool (t0 == (6 : Int))), (3, .int .i64 t0)] (by kernel_rfl) trivial ?_
          refine OpsW.nil ?_
          refine AW.cond (b := t0 == (6 : Int)) rfl (fun c5 => ?_) (fun c5 => ?_)
          · replace H := condT c5 H
            refine AW.skip ?_
            show ∃ y, _ ∧ StC _ _ _ _
            exact ⟨t0 == (6 : Int), H, (StC.pure (.cons .im .nil))⟩
          · replace H := condF c5 H
            refine AW.regionSeq ?_
            refine OpsW.seg 2 [4, 3] [] [(4, .bool (t0 == (9 : Int))), (3, .int .i64 t0)] (by kernel_rfl) trivial ?_
            refine OpsW.nil ?_
            refine AW.cond (b := t0 == (9 : Int)) rfl (fun c6 => ?_) (fun c6 => ?_)
            · replace H := condT c6 H
              refine AW.skip ?_
              show ∃ y, _ ∧ StC _ _ _ _
              exact ⟨t0 == (9 : Int), H, (StC.pure (.cons .im .nil))⟩
            · replace H := condF c6 H
              refine AW.regionSeq ?_
              refine OpsW.seg 2 [4, 3] [] [(4, .bool (t0 == (10 : Int))), (3, .int .i64 t0)] (by kernel_rfl) trivial ?_
              refine OpsW.nil ?_
              refine AW.cond (b := t0 == (10 : Int)) rfl (fun c7 => ?_) (fun c7 => ?_)
              · replace H := condT c7 H
                refine AW.skip ?_
                show ∃ y, _ ∧ StC _ _ _ _
                exact ⟨t0 == (10 : Int), H, (StC.pure (.cons .im .nil))⟩
              · replace H := condF c7 H
                refine AW.regionSeq ?_
                refine OpsW.seg 2 [4, 3] [] [(4, .bool (t0 == (11 : Int))), (3, .int .i64 t0)] (by kernel_rfl) trivial ?_
                refine OpsW.nil ?_
                refine AW.cond (b := t0 == (11 : Int)) rfl (fun c8 => ?_) (fun c8 => ?_)
                · replace H := condT c8 H
                  refine AW.skip ?_
                  show ∃ y, _ ∧ StC _ _ _ _
                  exact ⟨t0 == (11 : Int), H, (StC.pure (.cons .im .nil))⟩
                · replace H := condF c8 H
                  refine AW.regionSeq ?_
                  refine OpsW.seg 2 [4, 3] [] [(4, .bool (t0 == (12 : Int))), (3, .int .i64 t0)] (by kernel_rfl) trivial ?_
                  refine OpsW.nil ?_
                  refine AW.cond (b := t0 == (12 : Int)) rfl (fun c9 => ?_) (fun c9 => ?_)
                  · replace H := condT c9 H
                    refine AW.skip ?_
                    show ∃ y, _ ∧ StC _ _ _ _
                    exact ⟨t0 == (12 : Int), H, (StC.pure (.cons .im .nil))⟩
                  · replace H := condF c9 H
                    refine AW.region ?_
                    refine OpsW.seg 2 [4] [] [(4, .bool (t0 == (13 : Int)))] (by kernel_rfl) trivial ?_
                    refine OpsW.nil ?_
                    show ∃ y, _ ∧ StC _ _ _ _
                    exact ⟨t0 == (13 : Int), H, (StC.pure (.cons .im .nil))⟩
    · intro v1 H
      change f_linear_simple_k2 v1 = some r at H
      unfold f_linear_simple_k2 at H
      change AW _ _ _ [(4, .bool v1)] [] _
      refine AW.cond (b := v1) rfl (fun c2 => ?_) (fun c2 => ?_)
      · replace H := condT c2 H
        refine AW.regionSeq ?_
        refine OpsW.seg 1 [2] [] [(2, .bool true)] (by kernel_rfl) trivial ?_
        refine OpsW.nil ?_
        obtain rfl := Option.some.inj H
        refine AW.recast (env' := [(2, .bool true)]) (h' := []) (StC.pure (.cons .im .nil)) ?_
        refine AW.ret ?_
        try simp only [Ex.then, Ex.inBlock, Ex.noGoto, Ex.jump, reduceIte, Nat.reduceEqDiff, reduceCtorEq]
        refine Done.gen rfl (.tmp .nil) ?_
        show _ = _
        kernel_rfl
      · replace H := condF c2 H
        refine AW.skip ?_
        show ∃ y, _ ∧ StC _ _ _ _
        exact ⟨(), H, (StC.pure .nil)⟩
  · rintro ⟨⟩ H
    change f_linear_simple_k1 = some r at H
    unfold f_linear_simple_k1 at H
    change AW _ _ _ [] [] _
    refine AW.regionSeq ?_
    refine OpsW.seg 1 [2] [] [(2, .bool false)] (by kernel_rfl) trivial ?_
    refine OpsW.nil ?_
    obtain rfl := Option.some.inj H
    refine AW.recast (env' := [(2, .bool false)]) (h' := []) (StC.pure (.cons .im .nil)) ?_
    refine AW.ret ?_
    try simp only [Ex.then, Ex.inBlock, Ex.noGoto, Ex.jump, reduceIte, Nat.reduceEqDiff, reduceCtorEq]
    refine Done.gen rfl (.tmp .nil) ?_
    show _ = _
    kernel_rfl
def f_linear_exponent (t0 : Int) : Option Int :=
  cond (t0 == (7 : Int)) (
    some (24 : Int)) (
    some (6 : Int))
theorem f_linear_exponent_ok  {t0 : Int} {r : Int} (H : f_linear_exponent t0 = some r) : QSpec Tryd.prog 75 [.int .i64 t0] (.int .u8 r) := by
  refine Spec.of_AW Tryd.func75 rfl (by simp [Tryd.ntmps75]) ?_
  rw [Tryd.ntmps75]
  unfold f_linear_exponent at H
  change AW _ _ _ [(0, .int .i64 t0)] [] _
  refine AW.regionSeq ?_
  refine OpsW.seg 1 [0] [] [(0, .int .i64 t0)] (by kernel_rfl) trivial ?_
  refine OpsW.nil ?_
  refine AW.seq ?_
  refine AW.regionSeq ?_
  refine OpsW.seg 2 [4] [] [(4, .bool (t0 == (7 : Int)))] (by kernel_rfl) trivial ?_
  refine OpsW.nil ?_
  refine AW.cond (b := t0 == (7 : Int)) rfl (fun c1 => ?_) (fun c1 => ?_)
  · replace H := condT c1 H
    refine AW.regionSeq ?_
    refine OpsW.seg 1 [2] [] [(2, .int .u8 24)] (by kernel_rfl) trivial ?_
    refine OpsW.nil ?_
    obtain rfl := Option.some.inj H
    refine AW.recast (env' := [(2, .int .u8 24)]) (h' := []) (StC.pure (.cons .im .nil)) ?_
    refine AW.ret ?_
    try simp only [Ex.then, Ex.inBlock, Ex.noGoto, Ex.jump, reduceIte, Nat.reduceEqDiff, reduceCtorEq]
    refine Done.gen rfl (.tmp .nil) ?_
    show _ = _
    kernel_rfl
  · replace H := condF c1 H
    refine AW.skip ?_
    refine AW.regionSeq ?_
    refine OpsW.seg 1 [2] [] [(2, .int .u8 6)] (by kernel_rfl) trivial ?_
    refine OpsW.nil ?_
    obtain rfl := Option.some.inj H
    refine AW.recast (env' := [(2, .int .u8 6)]) (h' := []) (StC.pure (.cons .im .nil)) ?_
    refine AW.ret ?_
    try simp only [Ex.then, Ex.inBlock, Ex.noGoto, Ex.jump, reduceIte, Nat.reduceEqDiff, reduceCtorEq]
    refine Done.gen rfl (.tmp .nil) ?_
    show _ = _
    kernel_rfl
def f_linear_writer_put (t0 : S_writer) (t1 : List Int) : Option S_writer :=
  G (room 1 (t0.cells_.length + t1.length)) <|
  some (⟨t0.f_, t0.at_, t0.level_, t0.cells_ ++ t1, ()⟩ : S_writer)
theorem f_linear_writer_put_io  {t0 : S_writer} {t1 : List Int} {r : S_writer} (H : f_linear_writer_put t0 t1 = some r) : Abs.Spec Tryd.prog 40 [.ref 2010 0 0, slA (eI .u8) t1] [(2010, ⟨0, true, 58, 5, [slA eS_Node t0.f_, .int .i64 t0.at_, .rsl 3010 0 0 t0.level_.length, .rsl 3011 0 0 t0.cells_.length, .im (.mp (mapV brTab))]⟩), (3010, rtA 0 33 1 (eI .u8) t0.level_), (3011, rtA 0 33 1 (eI .u8) t0.cells_)] (fun x h => x = .tup [] ∧ h = [(2010, ⟨0, true, 58, 5, [slA eS_Node r.f_, .int .i64 r.at_, .rsl 3010 1 0 r.level_.length, .rsl 3011 1 0 r.cells_.length, .im (.mp (mapV brTab))]⟩), (3010, rtA 1 33 1 (eI .u8) r.level_), (3011, rtA 1 33 1 (eI .u8) r.cells_)]) := by
  refine Spec.of_AW Tryd.func40 rfl (by simp [Tryd.ntmps40]) ?_
  rw [Tryd.ntmps40]
  unfold f_linear_writer_put at H
  change AW _ _ _ [(0, .ref 2010 0 0), (1, slA (eI .u8) t1)] [(2010, ⟨0, true, 58, 5, [slA eS_Node t0.f_, .int .i64 t0.at_, .rsl 3010 0 0 t0.level_.length, .rsl 3011 0 0 t0.cells_.length, .im (.mp (mapV brTab))]⟩), (3010, rtA 0 33 1 (eI .u8) t0.level_), (3011, rtA 0 33 1 (eI .u8) t0.cells_)] _
  refine AW.endcast ?_
  refine AW.region ?_
  refine OpsW.seg 2 [5, 4, 1] [] [(5, .ref 2010 0 0), (4, .ref 2010 0 0), (1, slA (eI .u8) t1)] (by kernel_rfl) trivial ?_
  refine OpsW.quietU (.ref 2010 0 0) rfl rfl (Quiet.nilCheck rfl (gpoU rfl ⟨trivial, rfl, rfl⟩)) ?_
  refine OpsW.seg 3 [9, 8, 4] [] [(9, slA (eI .u8) t1), (8, .rsl 3011 0 0 t0.cells_.length), (4, .ref 2010 0 0)] (by kernel_rfl) trivial ?_
  obtain ⟨g1, H⟩ := G_some H
  refine OpsW.appendF (enc := eI .u8) (ys := t1) rfl rfl rfl E28 (fun _ => rfl) rfl rfl trivial (SrcA.typed (enc := eI .u8) (fun _ => rfl) (by kernel_rfl) t1) rfl g1 ?_
  refine OpsW.quietU (.ref 2010 0 0) rfl rfl (Quiet.nilCheck rfl (gpoU rfl ⟨trivial, rfl, rfl⟩)) ?_
  refine OpsW.seg 1 [12, 10] [] [(12, .ref 2010 0 3), (10, .rsl 3011 1 0 ((t0.cells_ ++ t1).length))] (by kernel_rfl) trivial ?_
  refine OpsW.store rfl rfl rfl rfl trivial trivial rfl rfl rfl (by kernel_rfl) (okCb_sound (by kernel_rfl)) (Nat.le_of_ble_eq_true (by kernel_rfl)) ?_
  change OpsW _ _ _ _ _ [(2010, ⟨0, true, 58, 5, [slA eS_Node t0.f_, .int .i64 t0.at_, .rsl 3010 0 0 t0.level_.length, .rsl 3011 1 0 ((t0.cells_ ++ t1).length), .im (.mp (mapV brTab))]⟩), (3011, rtA 1 33 1 (eI .u8) (t0.cells_ ++ t1)), (2010, ⟨0, true, 58, 5, [slA eS_Node t0.f_, .int .i64 t0.at_, .rsl 3010 0 0 t0.level_.length, .rsl 3011 0 0 t0.cells_.length, .im (.mp (mapV brTab))]⟩), (3010, rtA 0 33 1 (eI .u8) t0.level_), (3011, rtA 0 33 1 (eI .u8) t0.cells_)] _
  refine OpsW.seg 0 [] [] [] (by kernel_rfl) trivial ?_
  refine OpsW.recast (env' := []) (h' := [(2010, ⟨0, true, 58, 5, [slA eS_Node t0.f_, .int .i64 t0.at_, .rsl 3010 0 0 t0.level_.length, .rsl 3011 0 0 ((t0.cells_ ++ t1).length), .im (.mp (mapV brTab))]⟩), (3010, rtA 0 33 1 (eI .u8) t0.level_), (3011, rtA 0 33 1 (eI .u8) (t0.cells_ ++ t1))]) (StC.mk (phi [(2010, some 2010), (3010, some 3010), (3011, some 3011)]) (.old rfl rfl rfl rfl rfl (.cons .im (.cons .im (.cons (.rsl rfl rfl rfl rfl rfl rfl) (.cons (.rsl rfl rfl rfl rfl rfl rfl) (.cons .im .nil))))) (.old rfl rfl rfl rfl rfl (CstL.ims _) (.old rfl rfl rfl rfl rfl (CstL.ims _) .nil))) rfl .nil) ?_
  refine OpsW.nil ?_
  obtain rfl := Option.some.inj H
  show ∃ en' hp', StC _ _ en' hp' ∧ Done _ _ _ .normal en' hp'
  refine ⟨[], [(2010, ⟨0, true, 58, 5, [slA eS_Node t0.f_, .int .i64 t0.at_, .rsl 3010 1 0 t0.level_.length, .rsl 3011 1 0 ((t0.cells_ ++ t1).length), .im (.mp (mapV brTab))]⟩), (3010, rtA 1 33 1 (eI .u8) t0.level_), (3011, rtA 1 33 1 (eI .u8) (t0.cells_ ++ t1))], (StC.mk (phi [(2010, some 2010), (3010, some 3010), (3011, some 3011)]) (.old rfl rfl rfl rfl rfl (.cons .im (.cons .im (.cons (.rsl rfl rfl rfl rfl rfl rfl) (.cons (.rsl rfl rfl rfl rfl rfl rfl) (.cons .im .nil))))) (.old rfl rfl rfl rfl rfl (CstL.ims _) (.old rfl rfl rfl rfl rfl (CstL.ims _) .nil))) rfl .nil), ?_⟩
  refine Done.genN rfl .nil ?_
  exact ⟨by kernel_rfl, by kernel_rfl⟩
end Go.Proofs.YtfpcbalkioolmaaDoor
