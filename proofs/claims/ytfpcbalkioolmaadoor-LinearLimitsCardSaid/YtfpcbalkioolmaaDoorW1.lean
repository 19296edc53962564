/-
  Written by gen.py (own work): typed functions, and that the program computes them.
-/
import Derived.Test.YtfpcbalkioolmaaDoorLibG
import Derived.Test.YtfpcbalkioolmaaDoorChecked
import Derived.Test.YtfpcbalkioolmaaDoorSan
set_option linter.unusedSimpArgs false
set_option linter.unusedVariables false
set_option maxRecDepth 100000
namespace Go.Proofs.YtfpcbalkioolmaaDoor
open Go.Abs
structure S_Node where
  Op : Int
  N : Int
  deriving DecidableEq
def eS_Node (x : S_Node) : List IV := [.val (.int .i64 x.Op), .val (.int .i64 x.N)]
def zS_Node : S_Node := ⟨(0 : Int), (0 : Int)⟩
structure S_writer where
  f_ : List S_Node
  at_ : Int
  level_ : List Int
  cells_ : List Int
  brackets_ : Unit
  deriving DecidableEq
theorem E28 : Elem Tryd.prog 28 33 1 1 [.int .u8 0] := ⟨by kernel_rfl, by kernel_rfl, by kernel_rfl, rfl, rfl, by decide⟩
theorem E61 : Elem Tryd.prog 61 3 1 8 [.int .i64 0] := ⟨by kernel_rfl, by kernel_rfl, by kernel_rfl, rfl, rfl, by decide⟩
def f_R09_Precedence_k1  : Option Int :=
  some (4 : Int)
def f_R09_Precedence_k2 (t0 : Int) (v2 : Bool) : Option Int :=
  cond v2 (
    some (2 : Int)) (
    cond (t0 == (4 : Int)) (
      some (3 : Int)) (
      f_R09_Precedence_k1))
def f_R09_Precedence (t0 : Int) : Option Int :=
  cond (t0 == (5 : Int)) (
    some (1 : Int)) (
    cond (t0 == (2 : Int)) (
      f_R09_Precedence_k2 t0 (t0 == (2 : Int))) (
      f_R09_Precedence_k2 t0 (t0 == (3 : Int))))
theorem f_R09_Precedence_ok  {t0 : Int} {r : Int} (H : f_R09_Precedence t0 = some r) : QSpec Tryd.prog 36 [.int .i64 t0] (.int .i64 r) := by
  refine Spec.of_AW Tryd.func36 rfl (by simp [Tryd.ntmps36]) ?_
  rw [Tryd.ntmps36]
  unfold f_R09_Precedence at H
  change AW _ _ _ [(0, .int .i64 t0)] [] _
  refine AW.regionSeq ?_
  refine OpsW.seg 1 [0] [] [(0, .int .i64 t0)] (by kernel_rfl) trivial ?_
  refine OpsW.nil ?_
  refine AW.joinK (fun (y : Unit) => f_R09_Precedence_k1) r (fun (y : Unit) => []) (fun (y : Unit) => []) ?_ ?_
  · refine AW.regionSeq ?_
    refine OpsW.seg 1 [3] [] [(3, .int .i64 t0)] (by kernel_rfl) trivial ?_
    refine OpsW.nil ?_
    refine AW.block ?_
    refine AW.regionSeq ?_
    refine OpsW.seg 2 [4, 3] [] [(4, .bool (t0 == (5 : Int))), (3, .int .i64 t0)] (by kernel_rfl) trivial ?_
    refine OpsW.nil ?_
    refine AW.cond (b := t0 == (5 : Int)) rfl (fun c1 => ?_) (fun c1 => ?_)
    · replace H := condT c1 H
      refine AW.regionSeq ?_
      refine OpsW.seg 1 [2] [] [(2, .int .i64 1)] (by kernel_rfl) trivial ?_
      refine OpsW.nil ?_
      obtain rfl := Option.some.inj H
      refine AW.recast (env' := [(2, .int .i64 1)]) (h' := []) (StC.pure (.cons .im .nil)) ?_
      refine AW.ret ?_
      try simp only [Ex.then, Ex.inBlock, Ex.noGoto, Ex.jump, reduceIte, Nat.reduceEqDiff, reduceCtorEq]
      refine Done.gen rfl (.tmp .nil) ?_
      show _ = _
      kernel_rfl
    · replace H := condF c1 H
      refine AW.joinK (fun (y : Bool) => f_R09_Precedence_k2 t0 y) r (fun (y : Bool) => [(3, .int .i64 t0), (6, .bool y)]) (fun (y : Bool) => []) ?_ ?_
      · refine AW.regionSeq ?_
        refine OpsW.seg 2 [6, 3] [] [(6, .bool (t0 == (2 : Int))), (3, .int .i64 t0)] (by kernel_rfl) trivial ?_
        refine OpsW.nil ?_
        refine AW.cond (b := t0 == (2 : Int)) rfl (fun c5 => ?_) (fun c5 => ?_)
        · replace H := condT c5 H
          refine AW.skip ?_
          show ∃ y, _ ∧ StC _ _ _ _
          exact ⟨t0 == (2 : Int), H, (StC.pure (.cons .im (.cons .im .nil)))⟩
        · replace H := condF c5 H
          refine AW.region ?_
          refine OpsW.seg 2 [6, 3] [] [(6, .bool (t0 == (3 : Int))), (3, .int .i64 t0)] (by kernel_rfl) trivial ?_
          refine OpsW.nil ?_
          show ∃ y, _ ∧ StC _ _ _ _
          exact ⟨t0 == (3 : Int), H, (StC.pure (.cons .im (.cons .im .nil)))⟩
      · intro v2 H
        change f_R09_Precedence_k2 t0 v2 = some r at H
        unfold f_R09_Precedence_k2 at H
        change AW _ _ _ [(3, .int .i64 t0), (6, .bool v2)] [] _
        refine AW.cond (b := v2) rfl (fun c3 => ?_) (fun c3 => ?_)
        · replace H := condT c3 H
          refine AW.regionSeq ?_
          refine OpsW.seg 1 [2] [] [(2, .int .i64 2)] (by kernel_rfl) trivial ?_
          refine OpsW.nil ?_
          obtain rfl := Option.some.inj H
          refine AW.recast (env' := [(2, .int .i64 2)]) (h' := []) (StC.pure (.cons .im .nil)) ?_
          refine AW.ret ?_
          try simp only [Ex.then, Ex.inBlock, Ex.noGoto, Ex.jump, reduceIte, Nat.reduceEqDiff, reduceCtorEq]
          refine Done.gen rfl (.tmp .nil) ?_
          show _ = _
          kernel_rfl
        · replace H := condF c3 H
          refine AW.regionSeq ?_
          refine OpsW.seg 2 [9] [] [(9, .bool (t0 == (4 : Int)))] (by kernel_rfl) trivial ?_
          refine OpsW.nil ?_
          refine AW.cond (b := t0 == (4 : Int)) rfl (fun c4 => ?_) (fun c4 => ?_)
          · replace H := condT c4 H
            refine AW.regionSeq ?_
            refine OpsW.seg 1 [2] [] [(2, .int .i64 3)] (by kernel_rfl) trivial ?_
            refine OpsW.nil ?_
            obtain rfl := Option.some.inj H
            refine AW.recast (env' := [(2, .int .i64 3)]) (h' := []) (StC.pure (.cons .im .nil)) ?_
            refine AW.ret ?_
            try simp only [Ex.then, Ex.inBlock, Ex.noGoto, Ex.jump, reduceIte, Nat.reduceEqDiff, reduceCtorEq]
            refine Done.gen rfl (.tmp .nil) ?_
            show _ = _
            kernel_rfl
          · replace H := condF c4 H
            refine AW.skip ?_
            show ∃ y, _ ∧ StC _ _ _ _
            exact ⟨(), H, (StC.pure .nil)⟩
  · rintro ⟨⟩ H
    change f_R09_Precedence_k1 = some r at H
    unfold f_R09_Precedence_k1 at H
    change AW _ _ _ [] [] _
    refine AW.regionSeq ?_
    refine OpsW.seg 1 [2] [] [(2, .int .i64 4)] (by kernel_rfl) trivial ?_
    refine OpsW.nil ?_
    obtain rfl := Option.some.inj H
    refine AW.recast (env' := [(2, .int .i64 4)]) (h' := []) (StC.pure (.cons .im .nil)) ?_
    refine AW.ret ?_
    try simp only [Ex.then, Ex.inBlock, Ex.noGoto, Ex.jump, reduceIte, Nat.reduceEqDiff, reduceCtorEq]
    refine Done.gen rfl (.tmp .nil) ?_
    show _ = _
    kernel_rfl
def f_R09_Arity_k1  : Option Int :=
  some (-1 : Int)
def f_R09_Arity_k2 (t0 : S_Node) (v8 : Bool) : Option Int :=
  cond v8 (
    cond (t0.N == (0 : Int)) (
      some (1 : Int)) (
      f_R09_Arity_k1)) (
    cond (t0.Op == (12 : Int)) (
      cond (cond (decide ((2 : Int) ≤ t0.N)) (decide (t0.N ≤ (5 : Int))) false) (
        G (inR (t0.N + (1 : Int))) <|
        some (t0.N + (1 : Int))) (
        f_R09_Arity_k1)) (
      cond (t0.Op == (13 : Int)) (
        G (inR (Int.tdiv t0.N (8 : Int))) <|
        cond (cond (cond (cond (cond (decide ((0 : Int) < t0.N)) (decide ((1 : Int) ≤ (Int.tdiv t0.N (8 : Int)))) false) (decide ((Int.tdiv t0.N (8 : Int)) ≤ (4 : Int))) false) (decide ((1 : Int) ≤ (Int.tmod t0.N (8 : Int)))) false) (decide ((Int.tmod t0.N (8 : Int)) ≤ (4 : Int))) false) (
          G (inR ((Int.tdiv t0.N (8 : Int)) * (Int.tmod t0.N (8 : Int)))) <|
          some ((Int.tdiv t0.N (8 : Int)) * (Int.tmod t0.N (8 : Int)))) (
          f_R09_Arity_k1)) (
        f_R09_Arity_k1)))
def f_R09_Arity_k3 (t0 : S_Node) (v5 : Bool) : Option Int :=
  cond v5 (
    cond (t0.N == (0 : Int)) (
      some (2 : Int)) (
      f_R09_Arity_k1)) (
    cond (t0.Op == (9 : Int)) (
      f_R09_Arity_k2 t0 (t0.Op == (9 : Int))) (
      cond (t0.Op == (10 : Int)) (
        f_R09_Arity_k2 t0 (t0.Op == (10 : Int))) (
        f_R09_Arity_k2 t0 (t0.Op == (11 : Int)))))
def f_R09_Arity (t0 : S_Node) : Option Int :=
  cond (t0.Op == (0 : Int)) (
    cond (cond (decide ((0 : Int) ≤ t0.N)) (decide (t0.N ≤ (99999 : Int))) false) (
      some (0 : Int)) (
      f_R09_Arity_k1)) (
    cond (t0.Op == (1 : Int)) (
      cond (cond (decide ((0 : Int) ≤ t0.N)) (decide (t0.N ≤ (25 : Int))) false) (
        some (0 : Int)) (
        f_R09_Arity_k1)) (
      cond (t0.Op == (2 : Int)) (
        f_R09_Arity_k3 t0 (t0.Op == (2 : Int))) (
        cond (t0.Op == (3 : Int)) (
          f_R09_Arity_k3 t0 (t0.Op == (3 : Int))) (
          cond (t0.Op == (4 : Int)) (
            f_R09_Arity_k3 t0 (t0.Op == (4 : Int))) (
            cond (t0.Op == (5 : Int)) (
              f_R09_Arity_k3 t0 (t0.Op == (5 : Int))) (
              cond (t0.Op == (6 : Int)) (
                f_R09_Arity_k3 t0 (t0.Op == (6 : Int))) (
                cond (t0.Op == (7 : Int)) (
                  f_R09_Arity_k3 t0 (t0.Op == (7 : Int))) (
                  f_R09_Arity_k3 t0 (t0.Op == (8 : Int))))))))))
theorem f_R09_Arity_ok  {t0 : S_Node} {r : Int} (H : f_R09_Arity t0 = some r) : QSpec Tryd.prog 76 [.agg [.int .i64 t0.Op, .int .i64 t0.N]] (.int .i64 r) := by
  refine Spec.of_AW Tryd.func76 rfl (by simp [Tryd.ntmps76]) ?_
  rw [Tryd.ntmps76]
  unfold f_R09_Arity at H
  change AW _ _ _ [(0, .agg [.int .i64 t0.Op, .int .i64 t0.N])] [] _
  refine AW.regionSeq ?_
  refine OpsW.box rfl rfl rfl 1 rfl (okCb_sound (by kernel_rfl)) ?_
  change OpsW _ _ _ _ _ [(1, ⟨0, true, 50, 2, [.int .i64 t0.Op, .int .i64 t0.N]⟩)] _
  refine OpsW.seg 1 [1] [] [(1, .ref 1 0 0)] (by kernel_rfl) trivial ?_
  refine OpsW.recast (env' := [(1, .ref 1 0 0)]) (h' := [(1, ⟨0, true, 50, 2, [.int .i64 t0.Op, .int .i64 t0.N]⟩)]) (StC.mk (phi [(1, some 1)]) (.old rfl rfl rfl rfl rfl (.cons .im (.cons .im .nil)) .nil) rfl (.cons (.ref rfl rfl rfl rfl rfl) .nil)) ?_
  refine OpsW.nil ?_
  refine AW.joinK (fun (y : Unit) => f_R09_Arity_k1) r (fun (y : Unit) => []) (fun (y : Unit) => []) ?_ ?_
  · refine AW.regionSeq ?_
    refine OpsW.seg 2 [6, 1] [] [(6, .int .i64 t0.Op), (1, .ref 1 0 0)] (by kernel_rfl) trivial ?_
    refine OpsW.nil ?_
    refine AW.block ?_
    refine AW.regionSeq ?_
    refine OpsW.seg 2 [7, 6, 1] [] [(7, .bool (t0.Op == (0 : Int))), (6, .int .i64 t0.Op), (1, .ref 1 0 0)] (by kernel_rfl) trivial ?_
    refine OpsW.nil ?_
    refine AW.cond (b := t0.Op == (0 : Int)) rfl (fun c1 => ?_) (fun c1 => ?_)
    · replace H := condT c1 H
      refine AW.regionSeq ?_
      refine OpsW.seg 8 [16] [(decide ((0 : Int) ≤ t0.N)) = true → (decide ((0 : Int) ≤ t0.N)) = true, (decide ((0 : Int) ≤ t0.N)) = true → (decide ((0 : Int) ≤ t0.N)) = true, (decide ((0 : Int) ≤ t0.N)) = true → (decide ((0 : Int) ≤ t0.N)) = true] [(16, .bool (cond (decide ((0 : Int) ≤ t0.N)) (decide (t0.N ≤ (99999 : Int))) false))] (by kernel_rfl) ⟨(fun h => h), (fun h => h), (fun h => by first | exact h | (simpa using h) | grind), trivial⟩ ?_
      refine OpsW.nil ?_
      refine AW.cond (b := cond (decide ((0 : Int) ≤ t0.N)) (decide (t0.N ≤ (99999 : Int))) false) rfl (fun c2 => ?_) (fun c2 => ?_)
      · replace H := condT c2 H
        refine AW.regionSeq ?_
        refine OpsW.seg 1 [2] [] [(2, .int .i64 0)] (by kernel_rfl) trivial ?_
        refine OpsW.nil ?_
        obtain rfl := Option.some.inj H
        refine AW.recast (env' := [(2, .int .i64 0)]) (h' := []) (StC.pure (.cons .im .nil)) ?_
        refine AW.ret ?_
        try simp only [Ex.then, Ex.inBlock, Ex.noGoto, Ex.jump, reduceIte, Nat.reduceEqDiff, reduceCtorEq]
        refine Done.gen rfl (.tmp .nil) ?_
        show _ = _
        kernel_rfl
      · replace H := condF c2 H
        refine AW.skip ?_
        show ∃ y, _ ∧ StC _ _ _ _
        exact ⟨(), H, (StC.pure .nil)⟩
    · replace H := condF c1 H
      refine AW.regionSeq ?_
      refine OpsW.seg 2 [17, 6, 1] [] [(17, .bool (t0.Op == (1 : Int))), (6, .int .i64 t0.Op), (1, .ref 1 0 0)] (by kernel_rfl) trivial ?_
      refine OpsW.nil ?_
      refine AW.cond (b := t0.Op == (1 : Int)) rfl (fun c3 => ?_) (fun c3 => ?_)
      · replace H := condT c3 H
        refine AW.regionSeq ?_
        refine OpsW.seg 8 [26] [(decide ((0 : Int) ≤ t0.N)) = true → (decide ((0 : Int) ≤ t0.N)) = true, (decide ((0 : Int) ≤ t0.N)) = true → (decide ((0 : Int) ≤ t0.N)) = true, (decide ((0 : Int) ≤ t0.N)) = true → (decide ((0 : Int) ≤ t0.N)) = true] [(26, .bool (cond (decide ((0 : Int) ≤ t0.N)) (decide (t0.N ≤ (25 : Int))) false))] (by kernel_rfl) ⟨(fun h => h), (fun h => h), (fun h => by first | exact h | (simpa using h) | grind), trivial⟩ ?_
        refine OpsW.nil ?_
        refine AW.cond (b := cond (decide ((0 : Int) ≤ t0.N)) (decide (t0.N ≤ (25 : Int))) false) rfl (fun c4 => ?_) (fun c4 => ?_)
        · replace H := condT c4 H
          refine AW.regionSeq ?_
          refine OpsW.seg 1 [2] [] [(2, .int .i64 0)] (by kernel_rfl) trivial ?_
          refine OpsW.nil ?_
          obtain rfl := Option.some.inj H
          refine AW.recast (env' := [(2, .int .i64 0)]) (h' := []) (StC.pure (.cons .im .nil)) ?_
          refine AW.ret ?_
          try simp only [Ex.then, Ex.inBlock, Ex.noGoto, Ex.jump, reduceIte, Nat.reduceEqDiff, reduceCtorEq]
          refine Done.gen rfl (.tmp .nil) ?_
          show _ = _
          kernel_rfl
        · replace H := condF c4 H
          refine AW.skip ?_
          show ∃ y, _ ∧ StC _ _ _ _
          exact ⟨(), H, (StC.pure .nil)⟩
      · replace H := condF c3 H
        refine AW.joinK (fun (y : Bool) => f_R09_Arity_k3 t0 y) r (fun (y : Bool) => [(1, .ref 1 0 0), (6, .int .i64 t0.Op), (27, .bool y)]) (fun (y : Bool) => [(1, ⟨0, true, 50, 2, [.int .i64 t0.Op, .int .i64 t0.N]⟩)]) ?_ ?_
        · refine AW.regionSeq ?_
          refine OpsW.seg 2 [27, 6, 1] [] [(27, .bool (t0.Op == (2 : Int))), (6, .int .i64 t0.Op), (1, .ref 1 0 0)] (by kernel_rfl) trivial ?_
          refine OpsW.nil ?_
          refine AW.cond (b := t0.Op == (2 : Int)) rfl (fun c20 => ?_) (fun c20 => ?_)
          · replace H := condT c20 H
            refine AW.skip ?_
            show ∃ y, _ ∧ StC _ _ _ _
            exact ⟨t0.Op == (2 : Int), H, (StC.mk (phi [(1, some 1)]) (.old rfl rfl rfl rfl rfl (.cons .im (.cons .im .nil)) .nil) rfl (.cons (.ref rfl rfl rfl rfl rfl) (.cons .im (.cons .im .nil))))⟩
          · replace H := condF c20 H
            refine AW.regionSeq ?_
            refine OpsW.seg 2 [27, 6, 1] [] [(27, .bool (t0.Op == (3 : Int))), (6, .int .i64 t0.Op), (1, .ref 1 0 0)] (by kernel_rfl) trivial ?_
            refine OpsW.nil ?_
            refine AW.cond (b := t0.Op == (3 : Int)) rfl (fun c21 => ?_) (fun c21 => ?_)
            · replace H := condT c21 H
              refine AW.skip ?_
              show ∃ y, _ ∧ StC _ _ _ _
              exact ⟨t0.Op == (3 : Int), H, (StC.mk (phi [(1, some 1)]) (.old rfl rfl rfl rfl rfl (.cons .im (.cons .im .nil)) .nil) rfl (.cons (.ref rfl rfl rfl rfl rfl) (.cons .im (.cons .im .nil))))⟩
            · replace H := condF c21 H
              refine AW.regionSeq ?_
              refine OpsW.seg 2 [27, 6, 1] [] [(27, .bool (t0.Op == (4 : Int))), (6, .int .i64 t0.Op), (1, .ref 1 0 0)] (by kernel_rfl) trivial ?_
              refine OpsW.nil ?_
              refine AW.cond (b := t0.Op == (4 : Int)) rfl (fun c22 => ?_) (fun c22 => ?_)
              · replace H := condT c22 H
                refine AW.skip ?_
                show ∃ y, _ ∧ StC _ _ _ _
                exact ⟨t0.Op == (4 : Int), H, (StC.mk (phi [(1, some 1)]) (.old rfl rfl rfl rfl rfl (.cons .im (.cons .im .nil)) .nil) rfl (.cons (.ref rfl rfl rfl rfl rfl) (.cons .im (.cons .im .nil))))⟩
              · replace H := condF c22 H
                refine AW.regionSeq ?_
                refine OpsW.seg 2 [27, 6, 1] [] [(27, .bool (t0.Op == (5 : Int))), (6, .int .i64 t0.Op), (1, .ref 1 0 0)] (by kernel_rfl) trivial ?_
                refine OpsW.nil ?_
                refine AW.cond (b := t0.Op == (5 : Int)) rfl (fun c23 => ?_) (fun c23 => ?_)
                · replace H := condT c23 H
                  refine AW.skip ?_
                  show ∃ y, _ ∧ StC _ _ _ _
                  exact ⟨t0.Op == (5 : Int), H, (StC.mk (phi [(1, some 1)]) (.old rfl rfl rfl rfl rfl (.cons .im (.cons .im .nil)) .nil) rfl (.cons (.ref rfl rfl rfl rfl rfl) (.cons .im (.cons .im .nil))))⟩
                · replace H := condF c23 H
                  refine AW.regionSeq ?_
                  refine OpsW.seg 2 [27, 6, 1] [] [(27, .bool (t0.Op == (6 : Int))), (6, .int .i64 t0.Op), (1, .ref 1 0 0)] (by kernel_rfl) trivial ?_
                  refine OpsW.nil ?_
                  refine AW.cond (b := t0.Op == (6 : Int)) rfl (fun c24 => ?_) (fun c24 => ?_)
                  · replace H := condT c24 H
                    refine AW.skip ?_
                    show ∃ y, _ ∧ StC _ _ _ _
                    exact ⟨t0.Op == (6 : Int), H, (StC.mk (phi [(1, some 1)]) (.old rfl rfl rfl rfl rfl (.cons .im (.cons .im .nil)) .nil) rfl (.cons (.ref rfl rfl rfl rfl rfl) (.cons .im (.cons .im .nil))))⟩
                  · replace H := condF c24 H
                    refine AW.regionSeq ?_
                    refine OpsW.seg 2 [27, 6, 1] [] [(27, .bool (t0.Op == (7 : Int))), (6, .int .i64 t0.Op), (1, .ref 1 0 0)] (by kernel_rfl) trivial ?_
                    refine OpsW.nil ?_
                    refine AW.cond (b := t0.Op == (7 : Int)) rfl (fun c25 => ?_) (fun c25 => ?_)
                    · replace H := condT c25 H
                      refine AW.skip ?_
                      show ∃ y, _ ∧ StC _ _ _ _
                      exact ⟨t0.Op == (7 : Int), H, (StC.mk (phi [(1, some 1)]) (.old rfl rfl rfl rfl rfl (.cons .im (.cons .im .nil)) .nil) rfl (.cons (.ref rfl rfl rfl rfl rfl) (.cons .im (.cons .im .nil))))⟩
                    · replace H := condF c25 H
                      refine AW.region ?_
                      refine OpsW.seg 2 [27, 6, 1] [] [(27, .bool (t0.Op == (8 : Int))), (6, .int .i64 t0.Op), (1, .ref 1 0 0)] (by kernel_rfl) trivial ?_
                      refine OpsW.nil ?_
                      show ∃ y, _ ∧ StC _ _ _ _
                      exact ⟨t0.Op == (8 : Int), H, (StC.mk (phi [(1, some 1)]) (.old rfl rfl rfl rfl rfl (.cons .im (.cons .im .nil)) .nil) rfl (.cons (.ref rfl rfl rfl rfl rfl) (.cons .im (.cons .im .nil))))⟩
        · intro v5 H
          change f_R09_Arity_k3 t0 v5 = some r at H
          unfold f_R09_Arity_k3 at H
          change AW _ _ _ [(1, .ref 1 0 0), (6, .int .i64 t0.Op), (27, .bool v5)] [(1, ⟨0, true, 50, 2, [.int .i64 t0.Op, .int .i64 t0.N]⟩)] _
          refine AW.cond (b := v5) rfl (fun c6 => ?_) (fun c6 => ?_)
          · replace H := condT c6 H
            refine AW.regionSeq ?_
            refine OpsW.seg 3 [37] [] [(37, .bool (t0.N == (0 : Int)))] (by kernel_rfl) trivial ?_
            refine OpsW.nil ?_
            refine AW.cond (b := t0.N == (0 : Int)) rfl (fun c7 => ?_) (fun c7 => ?_)
            · replace H := condT c7 H
              refine AW.regionSeq ?_
              refine OpsW.seg 1 [2] [] [(2, .int .i64 2)] (by kernel_rfl) trivial ?_
              refine OpsW.nil ?_
              obtain rfl := Option.some.inj H
              refine AW.recast (env' := [(2, .int .i64 2)]) (h' := []) (StC.pure (.cons .im .nil)) ?_
              refine AW.ret ?_
              try simp only [Ex.then, Ex.inBlock, Ex.noGoto, Ex.jump, reduceIte, Nat.reduceEqDiff, reduceCtorEq]
              refine Done.gen rfl (.tmp .nil) ?_
              show _ = _
              kernel_rfl
            · replace H := condF c7 H
              refine AW.skip ?_
              show ∃ y, _ ∧ StC _ _ _ _
              exact ⟨(), H, (StC.pure .nil)⟩
          · replace H := condF c6 H
            refine AW.joinK (fun (y : Bool) => f_R09_Arity_k2 t0 y) r (fun (y : Bool) => [(1, .ref 1 0 0), (6, .int .i64 t0.Op), (38, .bool y)]) (fun (y : Bool) => [(1, ⟨0, true, 50, 2, [.int .i64 t0.Op, .int .i64 t0.N]⟩)]) ?_ ?_
            · refine AW.regionSeq ?_
              refine OpsW.seg 2 [38, 1, 6] [] [(38, .bool (t0.Op == (9 : Int))), (1, .ref 1 0 0), (6, .int .i64 t0.Op)] (by kernel_rfl) trivial ?_
              refine OpsW.nil ?_
              refine AW.cond (b := t0.Op == (9 : Int)) rfl (fun c18 => ?_) (fun c18 => ?_)
              · replace H := condT c18 H
                refine AW.skip ?_
                show ∃ y, _ ∧ StC _ _ _ _
                exact ⟨t0.Op == (9 : Int), H, (StC.mk (phi [(1, some 1)]) (.old rfl rfl rfl rfl rfl (.cons .im (.cons .im .nil)) .nil) rfl (.cons (.ref rfl rfl rfl rfl rfl) (.cons .im (.cons .im .nil))))⟩
              · replace H := condF c18 H
                refine AW.regionSeq ?_
                refine OpsW.seg 2 [38, 1, 6] [] [(38, .bool (t0.Op == (10 : Int))), (1, .ref 1 0 0), (6, .int .i64 t0.Op)] (by kernel_rfl) trivial ?_
                refine OpsW.nil ?_
                refine AW.cond (b := t0.Op == (10 : Int)) rfl (fun c19 => ?_) (fun c19 => ?_)
                · replace H := condT c19 H
                  refine AW.skip ?_
                  show ∃ y, _ ∧ StC _ _ _ _
                  exact ⟨t0.Op == (10 : Int), H, (StC.mk (phi [(1, some 1)]) (.old rfl rfl rfl rfl rfl (.cons .im (.cons .im .nil)) .nil) rfl (.cons (.ref rfl rfl rfl rfl rfl) (.cons .im (.cons .im .nil))))⟩
                · replace H := condF c19 H
                  refine AW.region ?_
                  refine OpsW.seg 2 [38, 1, 6] [] [(38, .bool (t0.Op == (11 : Int))), (1, .ref 1 0 0), (6, .int .i64 t0.Op)] (by kernel_rfl) trivial ?_
                  refine OpsW.nil ?_
                  show ∃ y, _ ∧ StC _ _ _ _
                  exact ⟨t0.Op == (11 : Int), H, (StC.mk (phi [(1, some 1)]) (.old rfl rfl rfl rfl rfl (.cons .im (.cons .im .nil)) .nil) rfl (.cons (.ref rfl rfl rfl rfl rfl) (.cons .im (.cons .im .nil))))⟩
            · intro v8 H
              change f_R09_Arity_k2 t0 v8 = some r at H
              unfold f_R09_Arity_k2 at H
              change AW _ _ _ [(1, .ref 1 0 0), (6, .int .i64 t0.Op), (38, .bool v8)] [(1, ⟨0, true, 50, 2, [.int .i64 t0.Op, .int .i64 t0.N]⟩)] _
              refine AW.cond (b := v8) rfl (fun c9 => ?_) (fun c9 => ?_)
              · replace H := condT c9 H
                refine AW.regionSeq ?_
                refine OpsW.seg 3 [44] [] [(44, .bool (t0.N == (0 : Int)))] (by kernel_rfl) trivial ?_
                refine OpsW.nil ?_
                refine AW.cond (b := t0.N == (0 : Int)) rfl (fun c10 => ?_) (fun c10 => ?_)
                · replace H := condT c10 H
                  refine AW.regionSeq ?_
                  refine OpsW.seg 1 [2] [] [(2, .int .i64 1)] (by kernel_rfl) trivial ?_
                  refine OpsW.nil ?_
                  obtain rfl := Option.some.inj H
                  refine AW.recast (env' := [(2, .int .i64 1)]) (h' := []) (StC.pure (.cons .im .nil)) ?_
                  refine AW.ret ?_
                  try simp only [Ex.then, Ex.inBlock, Ex.noGoto, Ex.jump, reduceIte, Nat.reduceEqDiff, reduceCtorEq]
                  refine Done.gen rfl (.tmp .nil) ?_
                  show _ = _
                  kernel_rfl
                · replace H := condF c10 H
                  refine AW.skip ?_
                  show ∃ y, _ ∧ StC _ _ _ _
                  exact ⟨(), H, (StC.pure .nil)⟩
              · replace H := condF c9 H
                refine AW.regionSeq ?_
                refine OpsW.seg 2 [45, 1, 6] [] [(45, .bool (t0.Op == (12 : Int))), (1, .ref 1 0 0), (6, .int .i64 t0.Op)] (by kernel_rfl) trivial ?_
                refine OpsW.nil ?_
                refine AW.cond (b := t0.Op == (12 : Int)) rfl (fun c11 => ?_) (fun c11 => ?_)
                · replace H := condT c11 H
                  refine AW.regionSeq ?_
                  refine OpsW.seg 8 [54, 1] [(decide ((2 : Int) ≤ t0.N)) = true → (decide ((2 : Int) ≤ t0.N)) = true, (decide ((2 : Int) ≤ t0.N)) = true → (decide ((2 : Int) ≤ t0.N)) = true, (decide ((2 : Int) ≤ t0.N)) = true → (decide ((2 : Int) ≤ t0.N)) = true] [(54, .bool (cond (decide ((2 : Int) ≤ t0.N)) (decide (t0.N ≤ (5 : Int))) false)), (1, .ref 1 0 0)] (by kernel_rfl) ⟨(fun h => h), (fun h => h), (fun h => by first | exact h | (simpa using h) | grind), trivial⟩ ?_
                  refine OpsW.nil ?_
                  refine AW.cond (b := cond (decide ((2 : Int) ≤ t0.N)) (decide (t0.N ≤ (5 : Int))) false) rfl (fun c12 => ?_) (fun c12 => ?_)
                  · replace H := condT c12 H
                    refine AW.regionSeq ?_
                    obtain ⟨g13, H⟩ := G_some H
                    refine OpsW.seg 4 [2] [inR (t0.N + (1 : Int))] [(2, .int .i64 (t0.N + (1 : Int)))] (by kernel_rfl) ⟨g13, trivial⟩ ?_
                    refine OpsW.nil ?_
                    obtain rfl := Option.some.inj H
                    refine AW.recast (env' := [(2, .int .i64 (t0.N + (1 : Int)))]) (h' := []) (StC.pure (.cons .im .nil)) ?_
                    refine AW.ret ?_
                    try simp only [Ex.then, Ex.inBlock, Ex.noGoto, Ex.jump, reduceIte, Nat.reduceEqDiff, reduceCtorEq]
                    refine Done.gen rfl (.tmp .nil) ?_
                    show _ = _
                    kernel_rfl
                  · replace H := condF c12 H
                    refine AW.skip ?_
                    show ∃ y, _ ∧ StC _ _ _ _
                    exact ⟨(), H, (StC.pure .nil)⟩
                · replace H := condF c11 H
                  refine AW.regionSeq ?_
                  refine OpsW.seg 2 [58, 1] [] [(58, .bool (t0.Op == (13 : Int))), (1, .ref 1 0 0)] (by kernel_rfl) trivial ?_
                  refine OpsW.nil ?_
                  refine AW.cond (b := t0.Op == (13 : Int)) rfl (fun c14 => ?_) (fun c14 => ?_)
                  · replace H := condT c14 H
                    refine AW.drawSeq Tryd.checked.mixed (by kernel_rfl) ?_
                    obtain ⟨g15, H⟩ := G_some H
                    refine QOps.seg (N := 88) 8 [(8 : Int) ≠ 0, inR (Int.tdiv t0.N (8 : Int)), (8 : Int) ≠ 0] [(4, .int .i64 (Int.tmod t0.N (8 : Int))), (3, .int .i64 (Int.tdiv t0.N (8 : Int))), (65, .int .i64 (Int.tmod t0.N (8 : Int))), (64, .int .i64 t0.N), (63, .ref 1 0 1), (62, .int .i64 (Int.tdiv t0.N (8 : Int))), (61, .int .i64 t0.N), (60, .ref 1 0 1), (58, .bool (t0.Op == (13 : Int))), (1, .ref 1 0 0)] (by kernel_rfl) ⟨(by decide), g15, (by decide), trivial⟩ ?_
                    refine QOps.nil ?_
                    refine AW.trim [4, 3, 1] [(4, .int .i64 (Int.tmod t0.N (8 : Int))), (3, .int .i64 (Int.tdiv t0.N (8 : Int))), (1, .ref 1 0 0)] (by kernel_rfl) ?_
                    refine AW.regionSeq ?_
                    refine OpsW.seg 19 [84, 4, 3] [(decide ((0 : Int) < t0.N)) = true → (decide ((0 : Int) < t0.N)) = true, (decide ((0 : Int) < t0.N)) = true → (decide ((0 : Int) < t0.N)) = true, (cond (decide ((0 : Int) < t0.N)) (decide ((1 : Int) ≤ (Int.tdiv t0.N (8 : Int)))) false) = true → (cond (decide ((0 : Int) < t0.N)) (decide ((1 : Int) ≤ (Int.tdiv t0.N (8 : Int)))) false) = true, (cond (decide ((0 : Int) < t0.N)) (decide ((1 : Int) ≤ (Int.tdiv t0.N (8 : Int)))) false) = true → (cond (decide ((0 : Int) < t0.N)) (decide ((1 : Int) ≤ (Int.tdiv t0.N (8 : Int)))) false) = true, (cond (cond (decide ((0 : Int) < t0.N)) (decide ((1 : Int) ≤ (Int.tdiv t0.N (8 : Int)))) false) (decide ((Int.tdiv t0.N (8 : Int)) ≤ (4 : Int))) false) = true → (cond (cond (decide ((0 : Int) < t0.N)) (decide ((1 : Int) ≤ (Int.tdiv t0.N (8 : Int)))) false) (decide ((Int.tdiv t0.N (8 : Int)) ≤ (4 : Int))) false) = true, (cond (cond (decide ((0 : Int) < t0.N)) (decide ((1 : Int) ≤ (Int.tdiv t0.N (8 : Int)))) false) (decide ((Int.tdiv t0.N (8 : Int)) ≤ (4 : Int))) false) = true → (cond (cond (decide ((0 : Int) < t0.N)) (decide ((1 : Int) ≤ (Int.tdiv t0.N (8 : Int)))) false) (decide ((Int.tdiv t0.N (8 : Int)) ≤ (4 : Int))) false) = true, (cond (cond (cond (decide ((0 : Int) < t0.N)) (decide ((1 : Int) ≤ (Int.tdiv t0.N (8 : Int)))) false) (decide ((Int.tdiv t0.N (8 : Int)) ≤ (4 : Int))) false) (decide ((1 : Int) ≤ (Int.tmod t0.N (8 : Int)))) false) = true → (cond (cond (cond (decide ((0 : Int) < t0.N)) (decide ((1 : Int) ≤ (Int.tdiv t0.N (8 : Int)))) false) (decide ((Int.tdiv t0.N (8 : Int)) ≤ (4 : Int))) false) (decide ((1 : Int) ≤ (Int.tmod t0.N (8 : Int)))) false) = true, (cond (cond (cond (decide ((0 : Int) < t0.N)) (decide ((1 : Int) ≤ (Int.tdiv t0.N (8 : Int)))) false) (decide ((Int.tdiv t0.N (8 : Int)) ≤ (4 : Int))) false) (decide ((1 : Int) ≤ (Int.tmod t0.N (8 : Int)))) false) = true → (cond (cond (cond (decide ((0 : Int) < t0.N)) (decide ((1 : Int) ≤ (Int.tdiv t0.N (8 : Int)))) false) (decide ((Int.tdiv t0.N (8 : Int)) ≤ (4 : Int))) false) (decide ((1 : Int) ≤ (Int.tmod t0.N (8 : Int)))) false) = true] [(84, .bool (cond (cond (cond (cond (decide ((0 : Int) < t0.N)) (decide ((1 : Int) ≤ (Int.tdiv t0.N (8 : Int)))) false) (decide ((Int.tdiv t0.N (8 : Int)) ≤ (4 : Int))) false) (decide ((1 : Int) ≤ (Int.tmod t0.N (8 : Int)))) false) (decide ((Int.tmod t0.N (8 : Int)) ≤ (4 : Int))) false)), (4, .int .i64 (Int.tmod t0.N (8 : Int))), (3, .int .i64 (Int.tdiv t0.N (8 : Int)))] (by kernel_rfl) ⟨(fun h => h), (fun h => by first | exact h | (simpa using h) | grind), (fun h => h), (fun h => by first | exact h | (simpa using h) | grind), (fun h => h), (fun h => by first | exact h | (simpa using h) | grind), (fun h => h), (fun h => by first | exact h | (simpa using h) | grind), trivial⟩ ?_
                    refine OpsW.nil ?_
                    refine AW.cond (b := cond (cond (cond (cond (decide ((0 : Int) < t0.N)) (decide ((1 : Int) ≤ (Int.tdiv t0.N (8 : Int)))) false) (decide ((Int.tdiv t0.N (8 : Int)) ≤ (4 : Int))) false) (decide ((1 : Int) ≤ (Int.tmod t0.N (8 : Int)))) false) (decide ((Int.tmod t0.N (8 : Int)) ≤ (4 : Int))) false) rfl (fun c16 => ?_) (fun c16 => ?_)
                    · replace H := condT c16 H
                      refine AW.regionSeq ?_
                      obtain ⟨g17, H⟩ := G_some H
                      refine OpsW.seg 4 [2] [inR ((Int.tdiv t0.N (8 : Int)) * (Int.tmod t0.N (8 : Int)))] [(2, .int .i64 ((Int.tdiv t0.N (8 : Int)) * (Int.tmod t0.N (8 : Int))))] (by kernel_rfl) ⟨g17, trivial⟩ ?_
                      refine OpsW.nil ?_
                      obtain rfl := Option.some.inj H
                      refine AW.recast (env' := [(2, .int .i64 ((Int.tdiv t0.N (8 : Int)) * (Int.tmod t0.N (8 : Int))))]) (h' := []) (StC.pure (.cons .im .nil)) ?_
                      refine AW.ret ?_
                      try simp only [Ex.then, Ex.inBlock, Ex.noGoto, Ex.jump, reduceIte, Nat.reduceEqDiff, reduceCtorEq]
                      refine Done.gen rfl (.tmp .nil) ?_
                      show _ = _
                      kernel_rfl
                    · replace H := condF c16 H
                      refine AW.skip ?_
                      show ∃ y, _ ∧ StC _ _ _ _
                      exact ⟨(), H, (StC.pure .nil)⟩
                  · replace H := condF c14 H
                    refine AW.skip ?_
                    show ∃ y, _ ∧ StC _ _ _ _
                    exact ⟨(), H, (StC.pure .nil)⟩
  · rintro ⟨⟩ H
    change f_R09_Arity_k1 = some r at H
    unfold f_R09_Arity_k1 at H
    change AW _ _ _ [] [] _
    refine AW.regionSeq ?_
    refine OpsW.seg 1 [2] [] [(2, .int .i64 (-1 : Int))] (by kernel_rfl) trivial ?_
    refine OpsW.nil ?_
    obtain rfl := Option.some.inj H
    refine AW.recast (env' := [(2, .int .i64 (-1 : Int))]) (h' := []) (StC.pure (.cons .im .nil)) ?_
    refine AW.ret ?_
    try simp only [Ex.then, Ex.inBlock, Ex.noGoto, Ex.jump, reduceIte, Nat.reduceEqDiff, reduceCtorEq]
    refine Done.gen rfl (.tmp .nil) ?_
    show _ = _
    kernel_rfl
def f_R09_End_b1 (t0 : List S_Node) (loop3 : (Int × Int) → Option Int) (v1 : Int) (v2 : Int) : Option Int :=
  cond (decide ((0 : Int) < v2)) (
    G ((!(cond (decide (v1 < (0 : Int))) true (decide ((t0.length : Int) ≤ v1)))) = true → (0 ≤ v1 ∧ v1 < (t0.length : Int))) <|
    (cond (!(cond (decide (v1 < (0 : Int))) true (decide ((t0.length : Int) ≤ v1)))) (f_R09_Arity (t0.getD v1.toNat zS_Node)) (some (0 : Int))).bind fun x6 =>
    cond (cond (cond (decide (v1 < (0 : Int))) true (decide ((t0.length : Int) ≤ v1))) true (decide (x6 < (0 : Int)))) (
      some (-1 : Int)) (
      G (0 ≤ v1 ∧ v1 < (t0.length : Int)) <|
      (f_R09_Arity (t0.getD v1.toNat zS_Node)).bind fun x9 =>
      G (inR (x9 - (1 : Int))) <|
      G (inR (v2 + (x9 - (1 : Int)))) <|
      G (inR (v1 + (1 : Int))) <|
      loop3 (v1 + (1 : Int), v2 + (x9 - (1 : Int))))) (
    some v1)
def f_R09_End (t0 : List S_Node) (t1 : Int) : Option Int :=
  iter (fun loop (s : Int × Int) => f_R09_End_b1 t0 loop s.1 s.2) 1000000 (t1, (1 : Int))
theorem f_R09_End_ok  {t0 : List S_Node} {t1 : Int} {r : Int} (H : f_R09_End t0 t1 = some r) : QSpec Tryd.prog 70 [slA eS_Node t0, .int .i64 t1] (.int .i64 r) := by
  refine Spec.of_AW Tryd.func70 rfl (by simp [Tryd.ntmps70]) ?_
  rw [Tryd.ntmps70]
  unfold f_R09_End at H
  change AW _ _ _ [(0, slA eS_Node t0), (1, .int .i64 t1)] [] _
  refine AW.regionSeq ?_
  refine OpsW.seg 1 [0, 1] [] [(0, slA eS_Node t0), (1, .int .i64 t1)] (by kernel_rfl) trivial ?_
  refine OpsW.nil ?_
  refine AW.regionSeq ?_
  refine OpsW.seg 1 [5, 0, 1] [] [(5, .int .i64 1), (0, slA eS_Node t0), (1, .int .i64 t1)] (by kernel_rfl) trivial ?_
  refine OpsW.nil ?_
  refine AW.seq ?_
  refine AW.block ?_
  refine AW.iterK (fun loop (s : Int × Int) => f_R09_End_b1 t0 loop s.1 s.2) r (fun (s : Int × Int) => [(0, slA eS_Node t0), (1, .int .i64 s.1), (5, .int .i64 s.2)]) (fun (s : Int × Int) => []) ?_ 1000000 (t1, (1 : Int)) H (StC.pure (.cons .im (.cons .im (.cons .im .nil))))
  intro loop3 s H
  obtain ⟨v1, v2⟩ := s
  change f_R09_End_b1 t0 loop3 v1 v2 = some r at H
  unfold f_R09_End_b1 at H
  change AW _ _ _ [(0, slA eS_Node t0), (1, .int .i64 v1), (5, .int .i64 v2)] [] _
  refine AW.seq ?_
  refine AW.regionSeq ?_
  refine OpsW.seg 2 [7, 0, 1, 5] [] [(7, .bool (decide ((0 : Int) < v2))), (0, slA eS_Node t0), (1, .int .i64 v1), (5, .int .i64 v2)] (by kernel_rfl) trivial ?_
  refine OpsW.nil ?_
  refine AW.cond (b := decide ((0 : Int) < v2)) rfl (fun c4 => ?_) (fun c4 => ?_)
  · replace H := condT c4 H
    refine AW.skip ?_
    refine AW.block ?_
    refine AW.seq ?_
    refine AW.regionSeq ?_
    obtain ⟨g5, H⟩ := G_some H
    refine OpsW.seg 12 [19, 16, 0, 1, 5] [(!(decide (v1 < (0 : Int)))) = true → (!(decide (v1 < (0 : Int)))) = true, (!(decide (v1 < (0 : Int)))) = true → (!(decide (v1 < (0 : Int)))) = true, (!(decide (v1 < (0 : Int)))) = true → (!(decide (v1 < (0 : Int)))) = true, (decide (v1 < (0 : Int))) = false → (!(decide (v1 < (0 : Int)))) = true, (!(cond (decide (v1 < (0 : Int))) true (decide ((t0.length : Int) ≤ v1)))) = true → (!(cond (decide (v1 < (0 : Int))) true (decide ((t0.length : Int) ≤ v1)))) = true, (!(cond (decide (v1 < (0 : Int))) true (decide ((t0.length : Int) ≤ v1)))) = true → (!(cond (decide (v1 < (0 : Int))) true (decide ((t0.length : Int) ≤ v1)))) = true, (!(cond (decide (v1 < (0 : Int))) true (decide ((t0.length : Int) ≤ v1)))) = true → (0 ≤ v1 ∧ v1 < (t0.length : Int))] [(19, .cnd (!(cond (decide (v1 < (0 : Int))) true (decide ((t0.length : Int) ≤ v1)))) (.ipt (t0.flatMap eS_Node) (v1.toNat * 2))), (16, .bool (cond (decide (v1 < (0 : Int))) true (decide ((t0.length : Int) ≤ v1)))), (0, slA eS_Node t0), (1, .int .i64 v1), (5, .int .i64 v2)] (by kernel_rfl) ⟨(fun h => h), (fun h => h), (fun h => h), (fun h => by first | exact h | (simpa using h) | grind), (fun h => h), (fun h => h), g5, trivial⟩ ?_
    refine OpsW.asG (c := !(cond (decide (v1 < (0 : Int))) true (decide ((t0.length : Int) ≤ v1)))) (.agg [.int .i64 ((t0.getD v1.toNat zS_Node).Op), .int .i64 ((t0.getD v1.toNat zS_Node).N)]) rfl rfl rfl rfl (fun hc => T.loadAgg (cs := t0.flatMap eS_Node) (off := v1.toNat * 2) (ds := eS_Node (t0.getD v1.toNat zS_Node)) rfl hc (by kernel_rfl) (by have := fm_length eS_Node 2 (fun _ => rfl) t0; have := (ltN (g5 hc)); omega) (fm_elem eS_Node 2 (fun _ => rfl) t0 zS_Node v1.toNat (ltN (g5 hc)))) ?_
    obtain ⟨x6, hx6, H⟩ := bindS H
    refine OpsW.gcall (c := !(cond (decide (v1 < (0 : Int))) true (decide ((t0.length : Int) ≤ v1)))) (r := .int .i64 x6) [] rfl (by kernel_rfl) rfl rfl rfl rfl (fun hc => ⟨glAll_sound ⟨hc, trivial⟩, (.cons (.pur rfl) .nil), f_R09_Arity_ok (condT hc hx6), .inl ⟨rfl, rfl⟩⟩) ?_
    refine OpsW.seg 2 [23, 0, 1, 5] [(!(cond (decide (v1 < (0 : Int))) true (decide ((t0.length : Int) ≤ v1)))) = true → (!(cond (decide (v1 < (0 : Int))) true (decide ((t0.length : Int) ≤ v1)))) = true, (cond (decide (v1 < (0 : Int))) true (decide ((t0.length : Int) ≤ v1))) = false → (!(cond (decide (v1 < (0 : Int))) true (decide ((t0.length : Int) ≤ v1)))) = true] [(23, .bool (cond (cond (decide (v1 < (0 : Int))) true (decide ((t0.length : Int) ≤ v1))) true (decide (x6 < (0 : Int))))), (0, slA eS_Node t0), (1, .int .i64 v1), (5, .int .i64 v2)] (by kernel_rfl) ⟨(fun h => h), (fun h => by first | exact h | (simpa using h) | grind), trivial⟩ ?_
    refine OpsW.nil ?_
    refine AW.cond (b := cond (cond (decide (v1 < (0 : Int))) true (decide ((t0.length : Int) ≤ v1))) true (decide (x6 < (0 : Int)))) rfl (fun c7 => ?_) (fun c7 => ?_)
    · replace H := condT c7 H
      refine AW.regionSeq ?_
      refine OpsW.seg 1 [4] [] [(4, .int .i64 (-1 : Int))] (by kernel_rfl) trivial ?_
      refine OpsW.nil ?_
      obtain rfl := Option.some.inj H
      refine AW.recast (env' := [(4, .int .i64 (-1 : Int))]) (h' := []) (StC.pure (.cons .im .nil)) ?_
      refine AW.ret ?_
      try simp only [Ex.then, Ex.inBlock, Ex.noGoto, Ex.jump, reduceIte, Nat.reduceEqDiff, reduceCtorEq]
      refine Done.gen rfl (.tmp .nil) ?_
      show _ = _
      kernel_rfl
    · replace H := condF c7 H
      refine AW.skip ?_
      refine AW.regionSeq ?_
      obtain ⟨g8, H⟩ := G_some H
      refine OpsW.seg 4 [27, 24, 0, 1, 5] [0 ≤ v1 ∧ v1 < (t0.length : Int)] [(27, .ipt (t0.flatMap eS_Node) (v1.toNat * 2)), (24, .int .i64 v2), (0, slA eS_Node t0), (1, .int .i64 v1), (5, .int .i64 v2)] (by kernel_rfl) ⟨g8, trivial⟩ ?_
      refine OpsW.asU (.agg [.int .i64 ((t0.getD v1.toNat zS_Node).Op), .int .i64 ((t0.getD v1.toNat zS_Node).N)]) rfl rfl (T.loadAgg (cs := t0.flatMap eS_Node) (off := v1.toNat * 2) (ds := eS_Node (t0.getD v1.toNat zS_Node)) rfl trivial (by kernel_rfl) (by have := fm_length eS_Node 2 (fun _ => rfl) t0; have := (ltN g8); omega) (fm_elem eS_Node 2 (fun _ => rfl) t0 zS_Node v1.toNat (ltN g8))) ?_
      obtain ⟨x9, hx9, H⟩ := bindS H
      refine OpsW.qcall rfl (by kernel_rfl) rfl rfl (glAll_sound trivial) (.cons (.pur rfl) .nil) (f_R09_Arity_ok hx9) rfl ?_
      obtain ⟨g10, H⟩ := G_some H
      obtain ⟨g11, H⟩ := G_some H
      refine OpsW.seg 3 [5, 0, 1] [inR (x9 - (1 : Int)), inR (v2 + (x9 - (1 : Int)))] [(5, .int .i64 (v2 + (x9 - (1 : Int)))), (0, slA eS_Node t0), (1, .int .i64 v1)] (by kernel_rfl) ⟨g10, g11, trivial⟩ ?_
      refine OpsW.nil ?_
      refine AW.region ?_
      obtain ⟨g12, H⟩ := G_some H
      refine OpsW.seg 3 [1, 5, 0] [inR (v1 + (1 : Int))] [(1, .int .i64 (v1 + (1 : Int))), (5, .int .i64 (v2 + (x9 - (1 : Int)))), (0, slA eS_Node t0)] (by kernel_rfl) ⟨g12, trivial⟩ ?_
      refine OpsW.nil ?_
      show ∃ y, _ ∧ StC _ _ _ _
      exact ⟨(v1 + (1 : Int), v2 + (x9 - (1 : Int))), H, (StC.pure (.cons .im (.cons .im (.cons .im .nil))))⟩
  · replace H := condF c4 H
    refine AW.exit ?_
    refine AW.regionSeq ?_
    refine OpsW.seg 2 [4] [] [(4, .int .i64 v1)] (by kernel_rfl) trivial ?_
    refine OpsW.nil ?_
    obtain rfl := Option.some.inj H
    refine AW.recast (env' := [(4, .int .i64 v1)]) (h' := []) (StC.pure (.cons .im .nil)) ?_
    refine AW.ret ?_
    try simp only [Ex.then, Ex.inBlock, Ex.noGoto, Ex.jump, reduceIte, Nat.reduceEqDiff, reduceCtorEq]
    refine Done.gen rfl (.tmp .nil) ?_
    show _ = _
    kernel_rfl
def f_R09_Operands_b1 (t0 : List S_Node) (t1 : Int) (loop5 : ((List Int) × Int × Int) → Option (List Int)) (v2 : List Int) (v3 : Int) (v4 : Int) : Option (List Int) :=
  G (0 ≤ t1 ∧ t1 < (t0.length : Int)) <|
  (f_R09_Arity (t0.getD t1.toNat zS_Node)).bind fun x7 =>
  cond (decide (v4 < x7)) (
    G (room 8 (v2.length + 1)) <|
    (f_R09_End t0 v3).bind fun x10 =>
    G (inR (v4 + (1 : Int))) <|
    loop5 (v2 ++ [v3], x10, v4 + (1 : Int))) (
    some v2)
def f_R09_Operands (t0 : List S_Node) (t1 : Int) : Option (List Int) :=
  G (inR (t1 + (1 : Int))) <|
  iter (fun loop (s : (List Int) × Int × Int) => f_R09_Operands_b1 t0 t1 loop s.1 s.2.1 s.2.2) 1000000 (([] : List Int), t1 + (1 : Int), (0 : Int))
theorem f_R09_Operands_ok  {t0 : List S_Node} {t1 : Int} {r : List Int} (H : f_R09_Operands t0 t1 = some r) : QSpec Tryd.prog 45 [slA eS_Node t0, .int .i64 t1] (slA (eI .i64) r) := by
  refine Spec.of_AW Tryd.func45 rfl (by simp [Tryd.ntmps45]) ?_
  rw [Tryd.ntmps45]
  unfold f_R09_Operands at H
  change AW _ _ _ [(0, slA eS_Node t0), (1, .int .i64 t1)] [] _
  refine AW.regionSeq ?_
  refine OpsW.seg 1 [0, 1] [] [(0, slA eS_Node t0), (1, .int .i64 t1)] (by kernel_rfl) trivial ?_
  refine OpsW.nil ?_
  refine AW.regionSeq ?_
  refine OpsW.buildT (enc := eI .i64) ([] : List Int) rfl rfl rfl 8 rfl E61 (fun _ => rfl) (by decide) trivial (by kernel_rfl) (by kernel_rfl) (by kernel_rfl) rfl ?_
  obtain ⟨g1, H⟩ := G_some H
  refine OpsW.seg 4 [6, 5, 0, 1] [inR (t1 + (1 : Int))] [(6, .int .i64 (t1 + (1 : Int))), (5, .rsl 8 0 0 (([] : List Int).length)), (0, slA eS_Node t0), (1, .int .i64 t1)] (by kernel_rfl) ⟨g1, trivial⟩ ?_
  refine OpsW.recast (env' := [(6, .int .i64 (t1 + (1 : Int))), (5, .rsl 5 0 0 (([] : List Int).length)), (0, slA eS_Node t0), (1, .int .i64 t1)]) (h' := [(5, rtA 0 3 1 (eI .i64) ([] : List Int))]) (StC.mk (phi [(5, some 8)]) (.old rfl rfl rfl rfl rfl (CstL.ims _) .nil) rfl (.cons .im (.cons (.rsl rfl rfl rfl rfl rfl rfl) (.cons .im (.cons .im .nil))))) ?_
  refine OpsW.nil ?_
  refine AW.seq ?_
  refine AW.regionSeq ?_
  refine OpsW.seg 1 [7, 6, 5, 0, 1] [] [(7, .int .i64 0), (6, .int .i64 (t1 + (1 : Int))), (5, .rsl 5 0 0 (([] : List Int).length)), (0, slA eS_Node t0), (1, .int .i64 t1)] (by kernel_rfl) trivial ?_
  refine OpsW.nil ?_
  refine AW.block ?_
  refine AW.iterK (fun loop (s : (List Int) × Int × Int) => f_R09_Operands_b1 t0 t1 loop s.1 s.2.1 s.2.2) r (fun (s : (List Int) × Int × Int) => [(0, slA eS_Node t0), (1, .int .i64 t1), (5, .rsl 5 0 0 s.1.length), (6, .int .i64 s.2.1), (7, .int .i64 s.2.2)]) (fun (s : (List Int) × Int × Int) => [(5, rtA 0 3 1 (eI .i64) s.1)]) ?_ 1000000 (([] : List Int), t1 + (1 : Int), (0 : Int)) H (StC.mk (phi [(5, some 5)]) (.old rfl rfl rfl rfl rfl (CstL.ims _) .nil) rfl (.cons .im (.cons .im (.cons (.rsl rfl rfl rfl rfl rfl rfl) (.cons .im (.cons .im .nil))))))
  intro loop5 s H
  obtain ⟨v2, v3, v4⟩ := s
  change f_R09_Operands_b1 t0 t1 loop5 v2 v3 v4 = some r at H
  unfold f_R09_Operands_b1 at H
  change AW _ _ _ [(0, slA eS_Node t0), (1, .int .i64 t1), (5, .rsl 5 0 0 v2.length), (6, .int .i64 v3), (7, .int .i64 v4)] [(5, rtA 0 3 1 (eI .i64) v2)] _
  refine AW.seq ?_
  refine AW.regionSeq ?_
  obtain ⟨g6, H⟩ := G_some H
  refine OpsW.seg 4 [14, 11, 0, 1, 5, 6, 7] [0 ≤ t1 ∧ t1 < (t0.length : Int)] [(14, .ipt (t0.flatMap eS_Node) (t1.toNat * 2)), (11, .int .i64 v4), (0, slA eS_Node t0), (1, .int .i64 t1), (5, .rsl 5 0 0 v2.length), (6, .int .i64 v3), (7, .int .i64 v4)] (by kernel_rfl) ⟨g6, trivial⟩ ?_
  refine OpsW.asU (.agg [.int .i64 ((t0.getD t1.toNat zS_Node).Op), .int .i64 ((t0.getD t1.toNat zS_Node).N)]) rfl rfl (T.loadAgg (cs := t0.flatMap eS_Node) (off := t1.toNat * 2) (ds := eS_Node (t0.getD t1.toNat zS_Node)) rfl trivial (by kernel_rfl) (by have := fm_length eS_Node 2 (fun _ => rfl) t0; have := (ltN g6); omega) (fm_elem eS_Node 2 (fun _ => rfl) t0 zS_Node t1.toNat (ltN g6))) ?_
  obtain ⟨x7, hx7, H⟩ := bindS H
  refine OpsW.qcall rfl (by kernel_rfl) rfl rfl (glAll_sound trivial) (.cons (.pur rfl) .nil) (f_R09_Arity_ok hx7) rfl ?_
  refine OpsW.seg 1 [17, 0, 1, 5, 6, 7] [] [(17, .bool (decide (v4 < x7))), (0, slA eS_Node t0), (1, .int .i64 t1), (5, .rsl 5 0 0 v2.length), (6, .int .i64 v3), (7, .int .i64 v4)] (by kernel_rfl) trivial ?_
  refine OpsW.nil ?_
  refine AW.cond (b := decide (v4 < x7)) rfl (fun c8 => ?_) (fun c8 => ?_)
  · replace H := condT c8 H
    refine AW.skip ?_
    refine AW.seq ?_
    refine AW.block ?_
    refine AW.regionSeq ?_
    refine OpsW.seg 2 [21, 20, 0, 1, 5, 6, 7] [] [(21, .int .i64 v3), (20, .rsl 5 0 0 v2.length), (0, slA eS_Node t0), (1, .int .i64 t1), (5, .rsl 5 0 0 v2.length), (6, .int .i64 v3), (7, .int .i64 v4)] (by kernel_rfl) trivial ?_
    obtain ⟨g9, H⟩ := G_some H
    refine OpsW.appendLF (enc := eI .i64) [v3] rfl rfl rfl (by decide) rfl rfl rfl (by simp) E61 (fun _ => rfl) (by decide) trivial (by kernel_rfl) (by kernel_rfl) (by kernel_rfl) rfl rfl rfl g9 ?_
    refine OpsW.seg 1 [5, 0, 1, 6, 7] [] [(5, .rsl 5 1 0 ((v2 ++ [v3]).length)), (0, slA eS_Node t0), (1, .int .i64 t1), (6, .int .i64 v3), (7, .int .i64 v4)] (by kernel_rfl) trivial ?_
    refine OpsW.recast (env' := [(5, .rsl 5 0 0 ((v2 ++ [v3]).length)), (0, slA eS_Node t0), (1, .int .i64 t1), (6, .int .i64 v3), (7, .int .i64 v4)]) (h' := [(5, rtA 0 3 1 (eI .i64) (v2 ++ [v3]))]) (StC.mk (phi [(5, some 5)]) (.old rfl rfl rfl rfl rfl (CstL.ims _) .nil) rfl (.cons (.rsl rfl rfl rfl rfl rfl rfl) (.cons .im (.cons .im (.cons .im (.cons .im .nil)))))) ?_
    refine OpsW.nil ?_
    refine AW.region ?_
    refine OpsW.seg 2 [25, 24, 5, 0, 1, 6, 7] [] [(25, .int .i64 v3), (24, slA eS_Node t0), (5, .rsl 5 0 0 ((v2 ++ [v3]).length)), (0, slA eS_Node t0), (1, .int .i64 t1), (6, .int .i64 v3), (7, .int .i64 v4)] (by kernel_rfl) trivial ?_
    obtain ⟨x10, hx10, H⟩ := bindS H
    refine OpsW.qcall rfl (by kernel_rfl) rfl rfl (glAll_sound trivial) (.cons (.pur rfl) (.cons (.pur rfl) .nil)) (f_R09_End_ok hx10) rfl ?_
    refine OpsW.seg 1 [6, 5, 0, 1, 7] [] [(6, .int .i64 x10), (5, .rsl 5 0 0 ((v2 ++ [v3]).length)), (0, slA eS_Node t0), (1, .int .i64 t1), (7, .int .i64 v4)] (by kernel_rfl) trivial ?_
    refine OpsW.nil ?_
    refine AW.region ?_
    obtain ⟨g11, H⟩ := G_some H
    refine OpsW.seg 3 [7, 6, 5, 0, 1] [inR (v4 + (1 : Int))] [(7, .int .i64 (v4 + (1 : Int))), (6, .int .i64 x10), (5, .rsl 5 0 0 ((v2 ++ [v3]).length)), (0, slA eS_Node t0), (1, .int .i64 t1)] (by kernel_rfl) ⟨g11, trivial⟩ ?_
    refine OpsW.nil ?_
    show ∃ y, _ ∧ StC _ _ _ _
    exact ⟨(v2 ++ [v3], x10, v4 + (1 : Int)), H, (StC.mk (phi [(5, some 5)]) (.old rfl rfl rfl rfl rfl (CstL.ims _) .nil) rfl (.cons .im (.cons .im (.cons (.rsl rfl rfl rfl rfl rfl rfl) (.cons .im (.cons .im .nil))))))⟩
  · replace H := condF c8 H
    refine AW.exit ?_
    refine AW.regionSeq ?_
    refine OpsW.seg 2 [4] [] [(4, .rsl 5 0 0 v2.length)] (by kernel_rfl) trivial ?_
    refine OpsW.recast (env' := [(4, slA (eI .i64) v2)]) (h' := []) (StC.mk (phi []) .nil rfl (.cons (.frz rfl rfl rfl (frz_all (eI .i64) 1 (fun _ => rfl) v2) (fm_length (eI .i64) 1 (fun _ => rfl) v2) (phi_ne rfl)) .nil)) ?_
    refine OpsW.nil ?_
    obtain rfl := Option.some.inj H
    refine AW.recast (env' := [(4, slA (eI .i64) v2)]) (h' := []) (StC.pure (.cons .im .nil)) ?_
    refine AW.ret ?_
    try simp only [Ex.then, Ex.inBlock, Ex.noGoto, Ex.jump, reduceIte, Nat.reduceEqDiff, reduceCtorEq]
    refine Done.gen rfl (.tmp .nil) ?_
    show _ = _
    kernel_rfl
def f_R09_sound_k1  : Option Bool :=
  some true
def f_R09_sound_b1 (t0 : List S_Node) (x1 : List Int) (loop14 : (Int) → Option Bool) (v13 : Int) : Option Bool :=
  cond (decide (v13 < (x1.length : Int))) (
    G (0 ≤ v13 ∧ v13 < (x1.length : Int)) <|
    G (0 ≤ (x1.getD v13.toNat (0 : Int)) ∧ (x1.getD v13.toNat (0 : Int)) < (t0.length : Int)) <|
    cond (((t0.getD (x1.getD v13.toNat (0 : Int)).toNat zS_Node).Op) != (0 : Int)) (
      some false) (
      G (inR (v13 + (1 : Int))) <|
      loop14 (v13 + (1 : Int)))) (
    f_R09_sound_k1)
def f_R09_sound_k2 (t0 : List S_Node) (t1 : Int) (x1 : List Int) (v3 : Bool) : Option Bool :=
  cond v3 (
    (f_R09_Precedence ((t0.getD t1.toNat zS_Node).Op)).bind fun x5 =>
    G (0 ≤ (0 : Int) ∧ (0 : Int) < (x1.length : Int)) <|
    G (0 ≤ (x1.getD (0 : Int).toNat (0 : Int)) ∧ (x1.getD (0 : Int).toNat (0 : Int)) < (t0.length : Int)) <|
    (f_R09_Precedence ((t0.getD (x1.getD (0 : Int).toNat (0 : Int)).toNat zS_Node).Op)).bind fun x8 =>
    G ((decide (x5 ≤ x8)) = true → (0 ≤ (1 : Int) ∧ (1 : Int) < (x1.length : Int))) <|
    G ((decide (x5 ≤ x8)) = true → (0 ≤ (x1.getD (1 : Int).toNat (0 : Int)) ∧ (x1.getD (1 : Int).toNat (0 : Int)) < (t0.length : Int))) <|
    (cond (decide (x5 ≤ x8)) (f_R09_Precedence ((t0.getD (x1.getD (1 : Int).toNat (0 : Int)).toNat zS_Node).Op)) (some (0 : Int))).bind fun x11 =>
    some (cond (decide (x5 ≤ x8)) (decide (x5 < x11)) false)) (
    cond (((t0.getD t1.toNat zS_Node).Op) == (12 : Int)) (
      iter (fun loop (s : Int) => f_R09_sound_b1 t0 x1 loop s) 1000000 (0 : Int)) (
      f_R09_sound_k1))
def f_R09_sound (t0 : List S_Node) (t1 : Int) : Option Bool :=
  (f_R09_Operands t0 t1).bind fun x1 =>
  G (0 ≤ t1 ∧ t1 < (t0.length : Int)) <|
  cond (((t0.getD t1.toNat zS_Node).Op) == (2 : Int)) (
    f_R09_sound_k2 t0 t1 x1 (((t0.getD t1.toNat zS_Node).Op) == (2 : Int))) (
    cond (((t0.getD t1.toNat zS_Node).Op) == (3 : Int)) (
      f_R09_sound_k2 t0 t1 x1 (((t0.getD t1.toNat zS_Node).Op) == (3 : Int))) (
      cond (((t0.getD t1.toNat zS_Node).Op) == (4 : Int)) (
        f_R09_sound_k2 t0 t1 x1 (((t0.getD t1.toNat zS_Node).Op) == (4 : Int))) (
        f_R09_sound_k2 t0 t1 x1 (((t0.getD t1.toNat zS_Node).Op) == (5 : Int)))))
theorem f_R09_sound_ok  {t0 : List S_Node} {t1 : Int} {r : Bool} (H : f_R09_sound t0 t1 = some r) : QSpec Tryd.prog 71 [slA eS_Node t0, .int .i64 t1] (.bool r) := by
  refine Spec.of_AW Tryd.func71 rfl (by simp [Tryd.ntmps71]) ?_
  rw [Tryd.ntmps71]
  unfold f_R09_sound at H
  change AW _ _ _ [(0, slA eS_Node t0), (1, .int .i64 t1)] [] _
  refine AW.regionSeq ?_
  refine OpsW.seg 1 [0, 1] [] [(0, slA eS_Node t0), (1, .int .i64 t1)] (by kernel_rfl) trivial ?_
  refine OpsW.nil ?_
  refine AW.regionSeq ?_
  refine OpsW.seg 2 [9, 8, 0, 1] [] [(9, .int .i64 t1), (8, slA eS_Node t0), (0, slA eS_Node t0), (1, .int .i64 t1)] (by kernel_rfl) trivial ?_
  obtain ⟨x1, hx1, H⟩ := bindS H
  refine OpsW.qcall rfl (by kernel_rfl) rfl rfl (glAll_sound trivial) (.cons (.pur rfl) (.cons (.pur rfl) .nil)) (f_R09_Operands_ok hx1) rfl ?_
  refine OpsW.seg 1 [5, 0, 1] [] [(5, slA (eI .i64) x1), (0, slA eS_Node t0), (1, .int .i64 t1)] (by kernel_rfl) trivial ?_
  refine OpsW.nil ?_
  refine AW.joinK (fun (y : Unit) => f_R09_sound_k1) r (fun (y : Unit) => []) (fun (y : Unit) => []) ?_ ?_
  · refine AW.regionSeq ?_
    obtain ⟨g2, H⟩ := G_some H
    refine OpsW.seg 4 [14, 5, 0, 1] [0 ≤ t1 ∧ t1 < (t0.length : Int)] [(14, .ipt (t0.flatMap eS_Node) (t1.toNat * 2 + 0)), (5, slA (eI .i64) x1), (0, slA eS_Node t0), (1, .int .i64 t1)] (by kernel_rfl) ⟨g2, trivial⟩ ?_
    refine OpsW.asU (.int .i64 ((t0.getD t1.toNat zS_Node).Op)) rfl rfl (T.load rfl trivial (by kernel_rfl) (fm_cell eS_Node 2 (fun _ => rfl) t0 zS_Node t1.toNat (ltN g2) 0 (fun a => .val (.int .i64 a.Op)) (fun _ => rfl))) ?_
    refine OpsW.seg 0 [15, 5, 0, 1] [] [(15, .int .i64 ((t0.getD t1.toNat zS_Node).Op)), (5, slA (eI .i64) x1), (0, slA eS_Node t0), (1, .int .i64 t1)] (by kernel_rfl) trivial ?_
    refine OpsW.nil ?_
    refine AW.block ?_
    refine AW.joinK (fun (y : Bool) => f_R09_sound_k2 t0 t1 x1 y) r (fun (y : Bool) => [(0, slA eS_Node t0), (1, .int .i64 t1), (5, slA (eI .i64) x1), (15, .int .i64 ((t0.getD t1.toNat zS_Node).Op)), (16, .bool y)]) (fun (y : Bool) => []) ?_ ?_
    · refine AW.regionSeq ?_
      refine OpsW.seg 2 [16, 15, 5, 0, 1] [] [(16, .bool (((t0.getD t1.toNat zS_Node).Op) == (2 : Int))), (15, .int .i64 ((t0.getD t1.toNat zS_Node).Op)), (5, slA (eI .i64) x1), (0, slA eS_Node t0), (1, .int .i64 t1)] (by kernel_rfl) trivial ?_
      refine OpsW.nil ?_
      refine AW.cond (b := ((t0.getD t1.toNat zS_Node).Op) == (2 : Int)) rfl (fun c20 => ?_) (fun c20 => ?_)
      · replace H := condT c20 H
        refine AW.skip ?_
        show ∃ y, _ ∧ StC _ _ _ _
        exact ⟨((t0.getD t1.toNat zS_Node).Op) == (2 : Int), H, (StC.pure (.cons .im (.cons .im (.cons .im (.cons .im (.cons .im .nil))))))⟩
      · replace H := condF c20 H
        refine AW.regionSeq ?_
        refine OpsW.seg 2 [16, 15, 5, 0, 1] [] [(16, .bool (((t0.getD t1.toNat zS_Node).Op) == (3 : Int))), (15, .int .i64 ((t0.getD t1.toNat zS_Node).Op)), (5, slA (eI .i64) x1), (0, slA eS_Node t0), (1, .int .i64 t1)] (by kernel_rfl) trivial ?_
        refine OpsW.nil ?_
        refine AW.cond (b := ((t0.getD t1.toNat zS_Node).Op) == (3 : Int)) rfl (fun c21 => ?_) (fun c21 => ?_)
        · replace H := condT c21 H
          refine AW.skip ?_
          show ∃ y, _ ∧ StC _ _ _ _
          exact ⟨((t0.getD t1.toNat zS_Node).Op) == (3 : Int), H, (StC.pure (.cons .im (.cons .im (.cons .im (.cons .im (.cons .im .nil))))))⟩
        · replace H := condF c21 H
          refine AW.regionSeq ?_
          refine OpsW.seg 2 [16, 15, 5, 0, 1] [] [(16, .bool (((t0.getD t1.toNat zS_Node).Op) == (4 : Int))), (15, .int .i64 ((t0.getD t1.toNat zS_Node).Op)), (5, slA (eI .i64) x1), (0, slA eS_Node t0), (1, .int .i64 t1)] (by kernel_rfl) trivial ?_
          refine OpsW.nil ?_
          refine AW.cond (b := ((t0.getD t1.toNat zS_Node).Op) == (4 : Int)) rfl (fun c22 => ?_) (fun c22 => ?_)
          · replace H := condT c22 H
            refine AW.skip ?_
            show ∃ y, _ ∧ StC _ _ _ _
            exact ⟨((t0.getD t1.toNat zS_Node).Op) == (4 : Int), H, (StC.pure (.cons .im (.cons .im (.cons .im (.cons .im (.cons .im .nil))))))⟩
          · replace H := condF c22 H
            refine AW.region ?_
            refine OpsW.seg 2 [16, 15, 5, 0, 1] [] [(16, .bool (((t0.getD t1.toNat zS_Node).Op) == (5 : Int))), (15, .int .i64 ((t0.getD t1.toNat zS_Node).Op)), (5, slA (eI .i64) x1), (0, slA eS_Node t0), (1, .int .i64 t1)] (by kernel_rfl) trivial ?_
            refine OpsW.nil ?_
            show ∃ y, _ ∧ StC _ _ _ _
            exact ⟨((t0.getD t1.toNat zS_Node).Op) == (5 : Int), H, (StC.pure (.cons .im (.cons .im (.cons .im (.cons .im (.cons .im .nil))))))⟩
    · intro v3 H
      change f_R09_sound_k2 t0 t1 x1 v3 = some r at H
      unfold f_R09_sound_k2 at H
      change AW _ _ _ [(0, slA eS_Node t0), (1, .int .i64 t1), (5, slA (eI .i64) x1), (15, .int .i64 ((t0.getD t1.toNat zS_Node).Op)), (16, .bool v3)] [] _
      refine AW.cond (b := v3) rfl (fun c4 => ?_) (fun c4 => ?_)
      · replace H := condT c4 H
        refine AW.regionSeq ?_
        refine OpsW.seg 4 [24, 0, 5] [0 ≤ t1 ∧ t1 < (t0.length : Int)] [(24, .ipt (t0.flatMap eS_Node) (t1.toNat * 2 + 0)), (0, slA eS_Node t0), (5, slA (eI .i64) x1)] (by kernel_rfl) ⟨g2, trivial⟩ ?_
        refine OpsW.asU (.int .i64 ((t0.getD t1.toNat zS_Node).Op)) rfl rfl (T.load rfl trivial (by kernel_rfl) (fm_cell eS_Node 2 (fun _ => rfl) t0 zS_Node t1.toNat (ltN g2) 0 (fun a => .val (.int .i64 a.Op)) (fun _ => rfl))) ?_
        obtain ⟨x5, hx5, H⟩ := bindS H
        refine OpsW.qcall rfl (by kernel_rfl) rfl rfl (glAll_sound trivial) (.cons (.pur rfl) .nil) (f_R09_Precedence_ok hx5) rfl ?_
        refine OpsW.seg 1 [6, 0, 5] [] [(6, .int .i64 x5), (0, slA eS_Node t0), (5, slA (eI .i64) x1)] (by kernel_rfl) trivial ?_
        refine OpsW.nil ?_
        refine AW.regionSeq ?_
        obtain ⟨g6, H⟩ := G_some H
        refine OpsW.seg 3 [29, 27, 6, 0, 5] [0 ≤ (0 : Int) ∧ (0 : Int) < (x1.length : Int)] [(29, .ipt (x1.flatMap (eI .i64)) ((0 : Int).toNat * 1)), (27, slA eS_Node t0), (6, .int .i64 x5), (0, slA eS_Node t0), (5, slA (eI .i64) x1)] (by kernel_rfl) ⟨g6, trivial⟩ ?_
        refine OpsW.asU (.int .i64 (x1.getD (0 : Int).toNat (0 : Int))) rfl rfl (T.load rfl trivial (by kernel_rfl) (fm_cell0 (eI .i64) 1 (fun _ => rfl) x1 (0 : Int) (0 : Int).toNat (ltN g6) (fun a => .val (.int .i64 a)) (fun _ => rfl))) ?_
        obtain ⟨g7, H⟩ := G_some H
        refine OpsW.seg 2 [32, 6, 0, 5] [0 ≤ (x1.getD (0 : Int).toNat (0 : Int)) ∧ (x1.getD (0 : Int).toNat (0 : Int)) < (t0.length : Int)] [(32, .ipt (t0.flatMap eS_Node) ((x1.getD (0 : Int).toNat (0 : Int)).toNat * 2 + 0)), (6, .int .i64 x5), (0, slA eS_Node t0), (5, slA (eI .i64) x1)] (by kernel_rfl) ⟨g7, trivial⟩ ?_
        refine OpsW.asU (.int .i64 ((t0.getD (x1.getD (0 : Int).toNat (0 : Int)).toNat zS_Node).Op)) rfl rfl (T.load rfl trivial (by kernel_rfl) (fm_cell eS_Node 2 (fun _ => rfl) t0 zS_Node (x1.getD (0 : Int).toNat (0 : Int)).toNat (ltN g7) 0 (fun a => .val (.int .i64 a.Op)) (fun _ => rfl))) ?_
        obtain ⟨x8, hx8, H⟩ := bindS H
        refine OpsW.qcall rfl (by kernel_rfl) rfl rfl (glAll_sound trivial) (.cons (.pur rfl) .nil) (f_R09_Precedence_ok hx8) rfl ?_
        obtain ⟨g9, H⟩ := G_some H
        refine OpsW.seg 6 [40, 38, 37, 6] [(decide (x5 ≤ x8)) = true → (decide (x5 ≤ x8)) = true, (decide (x5 ≤ x8)) = true → (0 ≤ (1 : Int) ∧ (1 : Int) < (x1.length : Int))] [(40, .cnd (decide (x5 ≤ x8)) (.ipt (x1.flatMap (eI .i64)) ((1 : Int).toNat * 1))), (38, .cnd (decide (x5 ≤ x8)) (slA eS_Node t0)), (37, .bool (decide (x5 ≤ x8))), (6, .int .i64 x5)] (by kernel_rfl) ⟨(fun h => h), g9, trivial⟩ ?_
        refine OpsW.asG (c := decide (x5 ≤ x8)) (.int .i64 (x1.getD (1 : Int).toNat (0 : Int))) rfl rfl rfl rfl (fun hc => T.load rfl hc (by kernel_rfl) (fm_cell0 (eI .i64) 1 (fun _ => rfl) x1 (0 : Int) (1 : Int).toNat (ltN (g9 hc)) (fun a => .val (.int .i64 a)) (fun _ => rfl))) ?_
        obtain ⟨g10, H⟩ := G_some H
        refine OpsW.seg 2 [43, 37, 6] [(decide (x5 ≤ x8)) = true → (decide (x5 ≤ x8)) = true, (decide (x5 ≤ x8)) = true → (decide (x5 ≤ x8)) = true, (decide (x5 ≤ x8)) = true → (0 ≤ (x1.getD (1 : Int).toNat (0 : Int)) ∧ (x1.getD (1 : Int).toNat (0 : Int)) < (t0.length : Int)), (decide (x5 ≤ x8)) = true → (decide (x5 ≤ x8)) = true] [(43, .cnd (decide (x5 ≤ x8)) (.ipt (t0.flatMap eS_Node) ((x1.getD (1 : Int).toNat (0 : Int)).toNat * 2 + 0))), (37, .bool (decide (x5 ≤ x8))), (6, .int .i64 x5)] (by kernel_rfl) ⟨(fun h => h), (fun h => h), g10, (fun h => h), trivial⟩ ?_
        refine OpsW.asG (c := decide (x5 ≤ x8)) (.int .i64 ((t0.getD (x1.getD (1 : Int).toNat (0 : Int)).toNat zS_Node).Op)) rfl rfl rfl rfl (fun hc => T.load rfl hc (by kernel_rfl) (fm_cell eS_Node 2 (fun _ => rfl) t0 zS_Node (x1.getD (1 : Int).toNat (0 : Int)).toNat (ltN (g10 hc)) 0 (fun a => .val (.int .i64 a.Op)) (fun _ => rfl))) ?_
        obtain ⟨x11, hx11, H⟩ := bindS H
        refine OpsW.gcall (c := decide (x5 ≤ x8)) (r := .int .i64 x11) [] rfl (by kernel_rfl) rfl rfl rfl rfl (fun hc => ⟨glAll_sound ⟨hc, trivial⟩, (.cons (.pur rfl) .nil), f_R09_Precedence_ok (condT hc hx11), .inl ⟨rfl, rfl⟩⟩) ?_
        refine OpsW.seg 4 [4] [(decide (x5 ≤ x8)) = true → (decide (x5 ≤ x8)) = true, (decide (x5 ≤ x8)) = true → (decide (x5 ≤ x8)) = true, (decide (x5 ≤ x8)) = true → (decide (x5 ≤ x8)) = true] [(4, .bool (cond (decide (x5 ≤ x8)) (decide (x5 < x11)) false))] (by kernel_rfl) ⟨(fun h => h), (fun h => h), (fun h => by first | exact h | (simpa using h) | grind), trivial⟩ ?_
        refine OpsW.nil ?_
        obtain rfl := Option.some.inj H
        refine AW.recast (env' := [(4, .bool (cond (decide (x5 ≤ x8)) (decide (x5 < x11)) false))]) (h' := []) (StC.pure (.cons .im .nil)) ?_
        refine AW.ret ?_
        try simp only [Ex.then, Ex.inBlock, Ex.noGoto, Ex.jump, reduceIte, Nat.reduceEqDiff, reduceCtorEq]
        refine Done.gen rfl (.tmp .nil) ?_
        show _ = _
        kernel_rfl
      · replace H := condF c4 H
        refine AW.regionSeq ?_
        refine OpsW.seg 2 [49, 0, 5] [] [(49, .bool (((t0.getD t1.toNat zS_Node).Op) == (12 : Int))), (0, slA eS_Node t0), (5, slA (eI .i64) x1)] (by kernel_rfl) trivial ?_
        refine OpsW.nil ?_
        refine AW.cond (b := ((t0.getD t1.toNat zS_Node).Op) == (12 : Int)) rfl (fun c12 => ?_) (fun c12 => ?_)
        · replace H := condT c12 H
          refine AW.regionSeq ?_
          refine OpsW.seg 1 [7, 0, 5] [] [(7, .int .i64 0), (0, slA eS_Node t0), (5, slA (eI .i64) x1)] (by kernel_rfl) trivial ?_
          refine OpsW.nil ?_
          refine AW.block ?_
          refine AW.iterK (fun loop (s : Int) => f_R09_sound_b1 t0 x1 loop s) r (fun (s : Int) => [(0, slA eS_Node t0), (5, slA (eI .i64) x1), (7, .int .i64 s)]) (fun (s : Int) => []) ?_ 1000000 (0 : Int) H (StC.pure (.cons .im (.cons .im (.cons .im .nil))))
          intro loop14 v13 H
          change f_R09_sound_b1 t0 x1 loop14 v13 = some r at H
          unfold f_R09_sound_b1 at H
          change AW _ _ _ [(0, slA eS_Node t0), (5, slA (eI .i64) x1), (7, .int .i64 v13)] [] _
          refine AW.seq ?_
          refine AW.regionSeq ?_
          refine OpsW.seg 4 [54, 0, 5, 7] [] [(54, .bool (decide (v13 < (x1.length : Int)))), (0, slA eS_Node t0), (5, slA (eI .i64) x1), (7, .int .i64 v13)] (by kernel_rfl) trivial ?_
          refine OpsW.nil ?_
          refine AW.cond (b := decide (v13 < (x1.length : Int))) rfl (fun c15 => ?_) (fun c15 => ?_)
          · replace H := condT c15 H
            refine AW.skip ?_
            refine AW.seq ?_
            refine AW.block ?_
            refine AW.regionSeq ?_
            obtain ⟨g16, H⟩ := G_some H
            refine OpsW.seg 4 [60, 57, 0, 5, 7] [0 ≤ v13 ∧ v13 < (x1.length : Int)] [(60, .ipt (x1.flatMap (eI .i64)) (v13.toNat * 1)), (57, slA eS_Node t0), (0, slA eS_Node t0), (5, slA (eI .i64) x1), (7, .int .i64 v13)] (by kernel_rfl) ⟨g16, trivial⟩ ?_
            refine OpsW.asU (.int .i64 (x1.getD v13.toNat (0 : Int))) rfl rfl (T.load rfl trivial (by kernel_rfl) (fm_cell0 (eI .i64) 1 (fun _ => rfl) x1 (0 : Int) v13.toNat (ltN g16) (fun a => .val (.int .i64 a)) (fun _ => rfl))) ?_
            obtain ⟨g17, H⟩ := G_some H
            refine OpsW.seg 2 [63, 0, 5, 7] [0 ≤ (x1.getD v13.toNat (0 : Int)) ∧ (x1.getD v13.toNat (0 : Int)) < (t0.length : Int)] [(63, .ipt (t0.flatMap eS_Node) ((x1.getD v13.toNat (0 : Int)).toNat * 2 + 0)), (0, slA eS_Node t0), (5, slA (eI .i64) x1), (7, .int .i64 v13)] (by kernel_rfl) ⟨g17, trivial⟩ ?_
            refine OpsW.asU (.int .i64 ((t0.getD (x1.getD v13.toNat (0 : Int)).toNat zS_Node).Op)) rfl rfl (T.load rfl trivial (by kernel_rfl) (fm_cell eS_Node 2 (fun _ => rfl) t0 zS_Node (x1.getD v13.toNat (0 : Int)).toNat (ltN g17) 0 (fun a => .val (.int .i64 a.Op)) (fun _ => rfl))) ?_
            refine OpsW.seg 1 [65, 0, 5, 7] [] [(65, .bool (((t0.getD (x1.getD v13.toNat (0 : Int)).toNat zS_Node).Op) != (0 : Int))), (0, slA eS_Node t0), (5, slA (eI .i64) x1), (7, .int .i64 v13)] (by kernel_rfl) trivial ?_
            refine OpsW.nil ?_
            refine AW.cond (b := ((t0.getD (x1.getD v13.toNat (0 : Int)).toNat zS_Node).Op) != (0 : Int)) rfl (fun c18 => ?_) (fun c18 => ?_)
            · replace H := condT c18 H
              refine AW.regionSeq ?_
              refine OpsW.seg 1 [4] [] [(4, .bool false)] (by kernel_rfl) trivial ?_
              refine OpsW.nil ?_
              obtain rfl := Option.some.inj H
              refine AW.recast (env' := [(4, .bool false)]) (h' := []) (StC.pure (.cons .im .nil)) ?_
              refine AW.ret ?_
              try simp only [Ex.then, Ex.inBlock, Ex.noGoto, Ex.jump, reduceIte, Nat.reduceEqDiff, reduceCtorEq]
              refine Done.gen rfl (.tmp .nil) ?_
              show _ = _
              kernel_rfl
            · replace H := condF c18 H
              refine AW.skip ?_
              refine AW.region ?_
              obtain ⟨g19, H⟩ := G_some H
              refine OpsW.seg 3 [7, 0, 5] [inR (v13 + (1 : Int))] [(7, .int .i64 (v13 + (1 : Int))), (0, slA eS_Node t0), (5, slA (eI .i64) x1)] (by kernel_rfl) ⟨g19, trivial⟩ ?_
              refine OpsW.nil ?_
              show ∃ y, _ ∧ StC _ _ _ _
              exact ⟨v13 + (1 : Int), H, (StC.pure (.cons .im (.cons .im (.cons .im .nil))))⟩
          · replace H := condF c15 H
            refine AW.exit ?_
            show ∃ y, _ ∧ StC _ _ _ _
            exact ⟨(), H, (StC.pure .nil)⟩
        · replace H := condF c12 H
          refine AW.skip ?_
          show ∃ y, _ ∧ StC _ _ _ _
          exact ⟨(), H, (StC.pure .nil)⟩
  · rintro ⟨⟩ H
    change f_R09_sound_k1 = some r at H
    unfold f_R09_sound_k1 at H
    change AW _ _ _ [] [] _
    refine AW.regionSeq ?_
    refine OpsW.seg 1 [4] [] [(4, .bool true)] (by kernel_rfl) trivial ?_
    refine OpsW.nil ?_
    obtain rfl := Option.some.inj H
    refine AW.recast (env' := [(4, .bool true)]) (h' := []) (StC.pure (.cons .im .nil)) ?_
    refine AW.ret ?_
    try simp only [Ex.then, Ex.inBlock, Ex.noGoto, Ex.jump, reduceIte, Nat.reduceEqDiff, reduceCtorEq]
    refine Done.gen rfl (.tmp .nil) ?_
    show _ = _
    kernel_rfl
def f_R09_Tree_b1 (t0 : List S_Node) (loop4 : (Int) → Option Bool) (v3 : Int) : Option Bool :=
  cond (decide (v3 < (t0.length : Int))) (
    (f_R09_sound t0 v3).bind fun x6 =>
    cond (!x6) (
      some false) (
      G (inR (v3 + (1 : Int))) <|
      loop4 (v3 + (1 : Int)))) (
    some true)
def f_R09_Tree (t0 : List S_Node) : Option Bool :=
  (cond (!(cond ((t0.length : Int) == (0 : Int)) true (decide ((200 : Int) < (t0.length : Int))))) (f_R09_End t0 (0 : Int)) (some (0 : Int))).bind fun x1 =>
  cond (cond (cond ((t0.length : Int) == (0 : Int)) true (decide ((200 : Int) < (t0.length : Int)))) true (x1 != (t0.length : Int))) (
    some false) (
    iter (fun loop (s : Int) => f_R09_Tree_b1 t0 loop s) 1000000 (0 : Int))
theorem f_R09_Tree_ok  {t0 : List S_Node} {r : Bool} (H : f_R09_Tree t0 = some r) : QSpec Tryd.prog 32 [slA eS_Node t0] (.bool r) := by
  refine Spec.of_AW Tryd.func32 rfl (by simp [Tryd.ntmps32]) ?_
  rw [Tryd.ntmps32]
  unfold f_R09_Tree at H
  change AW _ _ _ [(0, slA eS_Node t0)] [] _
  refine AW.regionSeq ?_
  refine OpsW.seg 1 [0] [] [(0, slA eS_Node t0)] (by kernel_rfl) trivial ?_
  refine OpsW.nil ?_
  refine AW.seq ?_
  refine AW.regionSeq ?_
  refine OpsW.seg 10 [13, 12, 0] [(!((t0.length : Int) == (0 : Int))) = true → (!((t0.length : Int) == (0 : Int))) = true, (!((t0.length : Int) == (0 : Int))) = true → (!((t0.length : Int) == (0 : Int))) = true, ((t0.length : Int) == (0 : Int)) = false → (!((t0.length : Int) == (0 : Int))) = true] [(13, .cnd (!(cond ((t0.length : Int) == (0 : Int)) true (decide ((200 : Int) < (t0.length : Int))))) (slA eS_Node t0)), (12, .bool (cond ((t0.length : Int) == (0 : Int)) true (decide ((200 : Int) < (t0.length : Int))))), (0, slA eS_Node t0)] (by kernel_rfl) ⟨(fun h => h), (fun h => h), (fun h => by first | exact h | (simpa using h) | grind), trivial⟩ ?_
  obtain ⟨x1, hx1, H⟩ := bindS H
  refine OpsW.gcall (c := !(cond ((t0.length : Int) == (0 : Int)) true (decide ((200 : Int) < (t0.length : Int))))) (r := .int .i64 x1) [] rfl (by kernel_rfl) rfl rfl rfl rfl (fun hc => ⟨glAll_sound ⟨hc, trivial⟩, (.cons (.pur rfl) (.cons (.pur rfl) .nil)), f_R09_End_ok (condT hc hx1), .inl ⟨rfl, rfl⟩⟩) ?_
  refine OpsW.seg 4 [18, 0] [(!(cond ((t0.length : Int) == (0 : Int)) true (decide ((200 : Int) < (t0.length : Int))))) = true → (!(cond ((t0.length : Int) == (0 : Int)) true (decide ((200 : Int) < (t0.length : Int))))) = true, (!(cond ((t0.length : Int) == (0 : Int)) true (decide ((200 : Int) < (t0.length : Int))))) = true → (!(cond ((t0.length : Int) == (0 : Int)) true (decide ((200 : Int) < (t0.length : Int))))) = true, (!(cond ((t0.length : Int) == (0 : Int)) true (decide ((200 : Int) < (t0.length : Int))))) = true → (!(cond ((t0.length : Int) == (0 : Int)) true (decide ((200 : Int) < (t0.length : Int))))) = true, (cond ((t0.length : Int) == (0 : Int)) true (decide ((200 : Int) < (t0.length : Int)))) = false → (!(cond ((t0.length : Int) == (0 : Int)) true (decide ((200 : Int) < (t0.length : Int))))) = true] [(18, .bool (cond (cond ((t0.length : Int) == (0 : Int)) true (decide ((200 : Int) < (t0.length : Int)))) true (x1 != (t0.length : Int)))), (0, slA eS_Node t0)] (by kernel_rfl) ⟨(fun h => h), (fun h => h), (fun h => h), (fun h => by first | exact h | (simpa using h) | grind), trivial⟩ ?_
  refine OpsW.nil ?_
  refine AW.cond (b := cond (cond ((t0.length : Int) == (0 : Int)) true (decide ((200 : Int) < (t0.length : Int)))) true (x1 != (t0.length : Int))) rfl (fun c2 => ?_) (fun c2 => ?_)
  · replace H := condT c2 H
    refine AW.regionSeq ?_
    refine OpsW.seg 1 [2] [] [(2, .bool false)] (by kernel_rfl) trivial ?_
    refine OpsW.nil ?_
    obtain rfl := Option.some.inj H
    refine AW.recast (env' := [(2, .bool false)]) (h' := []) (StC.pure (.cons .im .nil)) ?_
    refine AW.ret ?_
    try simp only [Ex.then, Ex.inBlock, Ex.noGoto, Ex.jump, reduceIte, Nat.reduceEqDiff, reduceCtorEq]
    refine Done.gen rfl (.tmp .nil) ?_
    show _ = _
    kernel_rfl
  · replace H := condF c2 H
    refine AW.skip ?_
    refine AW.seq ?_
    refine AW.regionSeq ?_
    refine OpsW.seg 1 [3, 0] [] [(3, .int .i64 0), (0, slA eS_Node t0)] (by kernel_rfl) trivial ?_
    refine OpsW.nil ?_
    refine AW.block ?_
    refine AW.iterK (fun loop (s : Int) => f_R09_Tree_b1 t0 loop s) r (fun (s : Int) => [(0, slA eS_Node t0), (3, .int .i64 s)]) (fun (s : Int) => []) ?_ 1000000 (0 : Int) H (StC.pure (.cons .im (.cons .im .nil)))
    intro loop4 v3 H
    change f_R09_Tree_b1 t0 loop4 v3 = some r at H
    unfold f_R09_Tree_b1 at H
    change AW _ _ _ [(0, slA eS_Node t0), (3, .int .i64 v3)] [] _
    refine AW.seq ?_
    refine AW.regionSeq ?_
    refine OpsW.seg 4 [22, 0, 3] [] [(22, .bool (decide (v3 < (t0.length : Int)))), (0, slA eS_Node t0), (3, .int .i64 v3)] (by kernel_rfl) trivial ?_
    refine OpsW.nil ?_
    refine AW.cond (b := decide (v3 < (t0.length : Int))) rfl (fun c5 => ?_) (fun c5 => ?_)
    · replace H := condT c5 H
      refine AW.skip ?_
      refine AW.seq ?_
      refine AW.block ?_
      refine AW.regionSeq ?_
      refine OpsW.seg 2 [26, 25, 0, 3] [] [(26, .int .i64 v3), (25, slA eS_Node t0), (0, slA eS_Node t0), (3, .int .i64 v3)] (by kernel_rfl) trivial ?_
      obtain ⟨x6, hx6, H⟩ := bindS H
      refine OpsW.qcall rfl (by kernel_rfl) rfl rfl (glAll_sound trivial) (.cons (.pur rfl) (.cons (.pur rfl) .nil)) (f_R09_sound_ok hx6) rfl ?_
      refine OpsW.seg 1 [28, 0, 3] [] [(28, .bool (!x6)), (0, slA eS_Node t0), (3, .int .i64 v3)] (by kernel_rfl) trivial ?_
      refine OpsW.nil ?_
      refine AW.cond (b := !x6) rfl (fun c7 => ?_) (fun c7 => ?_)
      · replace H := condT c7 H
        refine AW.regionSeq ?_
        refine OpsW.seg 1 [2] [] [(2, .bool false)] (by kernel_rfl) trivial ?_
        refine OpsW.nil ?_
        obtain rfl := Option.some.inj H
        refine AW.recast (env' := [(2, .bool false)]) (h' := []) (StC.pure (.cons .im .nil)) ?_
        refine AW.ret ?_
        try simp only [Ex.then, Ex.inBlock, Ex.noGoto, Ex.jump, reduceIte, Nat.reduceEqDiff, reduceCtorEq]
        refine Done.gen rfl (.tmp .nil) ?_
        show _ = _
        kernel_rfl
      · replace H := condF c7 H
        refine AW.skip ?_
        refine AW.region ?_
        obtain ⟨g8, H⟩ := G_some H
        refine OpsW.seg 3 [3, 0] [inR (v3 + (1 : Int))] [(3, .int .i64 (v3 + (1 : Int))), (0, slA eS_Node t0)] (by kernel_rfl) ⟨g8, trivial⟩ ?_
        refine OpsW.nil ?_
        show ∃ y, _ ∧ StC _ _ _ _
        exact ⟨v3 + (1 : Int), H, (StC.pure (.cons .im (.cons .im .nil)))⟩
    · replace H := condF c5 H
      refine AW.exit ?_
      refine AW.regionSeq ?_
      refine OpsW.seg 1 [2] [] [(2, .bool true)] (by kernel_rfl) trivial ?_
      refine OpsW.nil ?_
      obtain rfl := Option.some.inj H
      refine AW.recast (env' := [(2, .bool true)]) (h' := []) (StC.pure (.cons .im .nil)) ?_
      refine AW.ret ?_
      try simp only [Ex.then, Ex.inBlock, Ex.noGoto, Ex.jump, reduceIte, Nat.reduceEqDiff, reduceCtorEq]
      refine Done.gen rfl (.tmp .nil) ?_
      show _ = _
      kernel_rfl
def f_R09_depth_body_b1 (rec_f_R09_depth : (List S_Node) → Int → Option Int) (t0 : List S_Node) (x1 : List Int) (loop4 : (Int × Int) → Option Int) (v2 : Int) (v3 : Int) : Option Int :=
  cond (decide (v3 < (x1.length : Int))) (
    G (0 ≤ v3 ∧ v3 < (x1.length : Int)) <|
    (rec_f_R09_depth t0 (x1.getD v3.toNat (0 : Int))).bind fun x7 =>
    G (inR (v3 + (1 : Int))) <|
    loop4 ((if x7 > v2 then x7 else v2), v3 + (1 : Int))) (
    G (inR (v2 + (1 : Int))) <|
    some (v2 + (1 : Int)))
def f_R09_depth_body (rec_f_R09_depth : (List S_Node) → Int → Option Int) (t0 : List S_Node) (t1 : Int) : Option Int :=
  (f_R09_Operands t0 t1).bind fun x1 =>
  iter (fun loop (s : Int × Int) => f_R09_depth_body_b1 rec_f_R09_depth t0 x1 loop s.1 s.2) 1000000 ((0 : Int), (0 : Int))
theorem f_R09_depth_body_ok {rec_f_R09_depth : (List S_Node) → Int → Option Int} (hrec_f_R09_depth : ∀ (t0 : List S_Node) (t1 : Int) (r : Int), rec_f_R09_depth t0 t1 = some r → QSpec Tryd.prog 72 [slA eS_Node t0, .int .i64 t1] (.int .i64 r)) {t0 : List S_Node} {t1 : Int} {r : Int} (H : f_R09_depth_body rec_f_R09_depth t0 t1 = some r) : QSpec Tryd.prog 72 [slA eS_Node t0, .int .i64 t1] (.int .i64 r) := by
  refine Spec.of_AW Tryd.func72 rfl (by simp [Tryd.ntmps72]) ?_
  rw [Tryd.ntmps72]
  unfold f_R09_depth_body at H
  change AW _ _ _ [(0, slA eS_Node t0), (1, .int .i64 t1)] [] _
  refine AW.regionSeq ?_
  refine OpsW.seg 1 [0, 1] [] [(0, slA eS_Node t0), (1, .int .i64 t1)] (by kernel_rfl) trivial ?_
  refine OpsW.nil ?_
  refine AW.regionSeq ?_
  refine OpsW.seg 2 [9, 8, 0] [] [(9, .int .i64 t1), (8, slA eS_Node t0), (0, slA eS_Node t0)] (by kernel_rfl) trivial ?_
  obtain ⟨x1, hx1, H⟩ := bindS H
  refine OpsW.qcall rfl (by kernel_rfl) rfl rfl (glAll_sound trivial) (.cons (.pur rfl) (.cons (.pur rfl) .nil)) (f_R09_Operands_ok hx1) rfl ?_
  refine OpsW.seg 2 [6, 5, 0] [] [(6, slA (eI .i64) x1), (5, .int .i64 0), (0, slA eS_Node t0)] (by kernel_rfl) trivial ?_
  refine OpsW.nil ?_
  refine AW.seq ?_
  refine AW.regionSeq ?_
  refine OpsW.seg 1 [7, 6, 5, 0] [] [(7, .int .i64 0), (6, slA (eI .i64) x1), (5, .int .i64 0), (0, slA eS_Node t0)] (by kernel_rfl) trivial ?_
  refine OpsW.nil ?_
  refine AW.block ?_
  refine AW.iterK (fun loop (s : Int × Int) => f_R09_depth_body_b1 rec_f_R09_depth t0 x1 loop s.1 s.2) r (fun (s : Int × Int) => [(0, slA eS_Node t0), (5, .int .i64 s.1), (6, slA (eI .i64) x1), (7, .int .i64 s.2)]) (fun (s : Int × Int) => []) ?_ 1000000 ((0 : Int), (0 : Int)) H (StC.pure (.cons .im (.cons .im (.cons .im (.cons .im .nil)))))
  intro loop4 s H
  obtain ⟨v2, v3⟩ := s
  change f_R09_depth_body_b1 rec_f_R09_depth t0 x1 loop4 v2 v3 = some r at H
  unfold f_R09_depth_body_b1 at H
  change AW _ _ _ [(0, slA eS_Node t0), (5, .int .i64 v2), (6, slA (eI .i64) x1), (7, .int .i64 v3)] [] _
  refine AW.seq ?_
  refine AW.regionSeq ?_
  refine OpsW.seg 4 [14, 0, 5, 6, 7] [] [(14, .bool (decide (v3 < (x1.length : Int)))), (0, slA eS_Node t0), (5, .int .i64 v2), (6, slA (eI .i64) x1), (7, .int .i64 v3)] (by kernel_rfl) trivial ?_
  refine OpsW.nil ?_
  refine AW.cond (b := decide (v3 < (x1.length : Int))) rfl (fun c5 => ?_) (fun c5 => ?_)
  · replace H := condT c5 H
    refine AW.skip ?_
    refine AW.seq ?_
    refine AW.block ?_
    refine AW.region ?_
    obtain ⟨g6, H⟩ := G_some H
    refine OpsW.seg 5 [21, 18, 17, 0, 5, 6, 7] [0 ≤ v3 ∧ v3 < (x1.length : Int)] [(21, .ipt (x1.flatMap (eI .i64)) (v3.toNat * 1)), (18, slA eS_Node t0), (17, .int .i64 v2), (0, slA eS_Node t0), (5, .int .i64 v2), (6, slA (eI .i64) x1), (7, .int .i64 v3)] (by kernel_rfl) ⟨g6, trivial⟩ ?_
    refine OpsW.asU (.int .i64 (x1.getD v3.toNat (0 : Int))) rfl rfl (T.load rfl trivial (by kernel_rfl) (fm_cell0 (eI .i64) 1 (fun _ => rfl) x1 (0 : Int) v3.toNat (ltN g6) (fun a => .val (.int .i64 a)) (fun _ => rfl))) ?_
    obtain ⟨x7, hx7, H⟩ := bindS H
    refine OpsW.qcall rfl (by kernel_rfl) rfl rfl (glAll_sound trivial) (.cons (.pur rfl) (.cons (.pur rfl) .nil)) (hrec_f_R09_depth _ _ _ hx7) rfl ?_
    refine OpsW.seg 2 [5, 0, 6, 7] [] [(5, .int .i64 (if x7 > v2 then x7 else v2)), (0, slA eS_Node t0), (6, slA (eI .i64) x1), (7, .int .i64 v3)] (by kernel_rfl) trivial ?_
    refine OpsW.nil ?_
    refine AW.region ?_
    obtain ⟨g8, H⟩ := G_some H
    refine OpsW.seg 3 [7, 5, 0, 6] [inR (v3 + (1 : Int))] [(7, .int .i64 (v3 + (1 : Int))), (5, .int .i64 (if x7 > v2 then x7 else v2)), (0, slA eS_Node t0), (6, slA (eI .i64) x1)] (by kernel_rfl) ⟨g8, trivial⟩ ?_
    refine OpsW.nil ?_
    show ∃ y, _ ∧ StC _ _ _ _
    exact ⟨((if x7 > v2 then x7 else v2), v3 + (1 : Int)), H, (StC.pure (.cons .im (.cons .im (.cons .im (.cons .im .nil)))))⟩
  · replace H := condF c5 H
    refine AW.exit ?_
    refine AW.regionSeq ?_
    obtain ⟨g9, H⟩ := G_some H
    refine OpsW.seg 3 [4] [inR (v2 + (1 : Int))] [(4, .int .i64 (v2 + (1 : Int)))] (by kernel_rfl) ⟨g9, trivial⟩ ?_
    refine OpsW.nil ?_
    obtain rfl := Option.some.inj H
    refine AW.recast (env' := [(4, .int .i64 (v2 + (1 : Int)))]) (h' := []) (StC.pure (.cons .im .nil)) ?_
    refine AW.ret ?_
    try simp only [Ex.then, Ex.inBlock, Ex.noGoto, Ex.jump, reduceIte, Nat.reduceEqDiff, reduceCtorEq]
    refine Done.gen rfl (.tmp .nil) ?_
    show _ = _
    kernel_rfl
def f_R09_depth_f : Nat → (List S_Node) → Int → Option Int
  | 0, _, _ => none
  | n + 1, t0, t1 => f_R09_depth_body (f_R09_depth_f n) t0 t1
theorem f_R09_depth_all : ∀ n : Nat, (∀ (t0 : List S_Node) (t1 : Int) (r : Int), f_R09_depth_f n t0 t1 = some r → QSpec Tryd.prog 72 [slA eS_Node t0, .int .i64 t1] (.int .i64 r)) ∧ True
  | 0 => by
    refine ⟨?_, trivial⟩
    · intro t0 t1 r H; rw [f_R09_depth_f] at H; cases H
  | n + 1 => by
    have ih := f_R09_depth_all n
    refine ⟨?_, trivial⟩
    · intro t0 t1 r H; rw [f_R09_depth_f] at H; exact f_R09_depth_body_ok ih.1 H
def f_R09_depth (t0 : List S_Node) (t1 : Int) : Option Int := f_R09_depth_f 1000000 t0 t1
theorem f_R09_depth_ok {t0 : List S_Node} {t1 : Int} {r : Int} (H : f_R09_depth t0 t1 = some r) : QSpec Tryd.prog 72 [slA eS_Node t0, .int .i64 t1] (.int .i64 r) :=
  (f_R09_depth_all 1000000).1 t0 t1 r H
def f_R09_Depth (t0 : List S_Node) : Option Int :=
  (f_R09_depth t0 (0 : Int)).bind fun x1 =>
  some x1
theorem f_R09_Depth_ok  {t0 : List S_Node} {r : Int} (H : f_R09_Depth t0 = some r) : QSpec Tryd.prog 33 [slA eS_Node t0] (.int .i64 r) := by
  refine Spec.of_AW Tryd.func33 rfl (by simp [Tryd.ntmps33]) ?_
  rw [Tryd.ntmps33]
  unfold f_R09_Depth at H
  change AW _ _ _ [(0, slA eS_Node t0)] [] _
  refine AW.regionSeq ?_
  refine OpsW.seg 1 [0] [] [(0, slA eS_Node t0)] (by kernel_rfl) trivial ?_
  refine OpsW.nil ?_
  refine AW.regionSeq ?_
  refine OpsW.seg 1 [3] [] [(3, slA eS_Node t0)] (by kernel_rfl) trivial ?_
  obtain ⟨x1, hx1, H⟩ := bindS H
  refine OpsW.qcall rfl (by kernel_rfl) rfl rfl (glAll_sound trivial) (.cons (.pur rfl) (.cons (.pur rfl) .nil)) (f_R09_depth_ok hx1) rfl ?_
  refine OpsW.seg 1 [2] [] [(2, .int .i64 x1)] (by kernel_rfl) trivial ?_
  refine OpsW.nil ?_
  obtain rfl := Option.some.inj H
  refine AW.recast (env' := [(2, .int .i64 x1)]) (h' := []) (StC.pure (.cons .im .nil)) ?_
  refine AW.ret ?_
  try simp only [Ex.then, Ex.inBlock, Ex.noGoto, Ex.jump, reduceIte, Nat.reduceEqDiff, reduceCtorEq]
  refine Done.gen rfl (.tmp .nil) ?_
  show _ = _
  kernel_rfl
def f_R09_Valid (t0 : List S_Node) : Option Bool :=
  (cond (decide ((t0.length : Int) ≤ (60 : Int))) (f_R09_Tree t0) (some false)).bind fun x1 =>
  (cond (cond (decide ((t0.length : Int) ≤ (60 : Int))) x1 false) (f_R09_Depth t0) (some (0 : Int))).bind fun x2 =>
  some (cond (cond (decide ((t0.length : Int) ≤ (60 : Int))) x1 false) (decide (x2 ≤ (8 : Int))) false)
theorem f_R09_Valid_ok  {t0 : List S_Node} {r : Bool} (H : f_R09_Valid t0 = some r) : QSpec Tryd.prog 20 [slA eS_Node t0] (.bool r) := by
  refine Spec.of_AW Tryd.func20 rfl (by simp [Tryd.ntmps20]) ?_
  rw [Tryd.ntmps20]
  unfold f_R09_Valid at H
  change AW _ _ _ [(0, slA eS_Node t0)] [] _
  refine AW.regionSeq ?_
  refine OpsW.seg 1 [0] [] [(0, slA eS_Node t0)] (by kernel_rfl) trivial ?_
  refine OpsW.nil ?_
  refine AW.regionSeq ?_
  refine OpsW.seg 5 [7, 6, 0] [] [(7, .cnd (decide ((t0.length : Int) ≤ (60 : Int))) (slA eS_Node t0)), (6, .bool (decide ((t0.length : Int) ≤ (60 : Int)))), (0, slA eS_Node t0)] (by kernel_rfl) trivial ?_
  obtain ⟨x1, hx1, H⟩ := bindS H
  refine OpsW.gcall (c := decide ((t0.length : Int) ≤ (60 : Int))) (r := .bool x1) [] rfl (by kernel_rfl) rfl rfl rfl rfl (fun hc => ⟨glAll_sound ⟨hc, trivial⟩, (.cons (.pur rfl) .nil), f_R09_Tree_ok (condT hc hx1), .inl ⟨rfl, rfl⟩⟩) ?_
  refine OpsW.seg 3 [11, 10] [(decide ((t0.length : Int) ≤ (60 : Int))) = true → (decide ((t0.length : Int) ≤ (60 : Int))) = true] [(11, .cnd (cond (decide ((t0.length : Int) ≤ (60 : Int))) x1 false) (slA eS_Node t0)), (10, .bool (cond (decide ((t0.length : Int) ≤ (60 : Int))) x1 false))] (by kernel_rfl) ⟨(fun h => by first | exact h | (simpa using h) | grind), trivial⟩ ?_
  obtain ⟨x2, hx2, H⟩ := bindS H
  refine OpsW.gcall (c := cond (decide ((t0.length : Int) ≤ (60 : Int))) x1 false) (r := .int .i64 x2) [] rfl (by kernel_rfl) rfl rfl rfl rfl (fun hc => ⟨glAll_sound ⟨hc, trivial⟩, (.cons (.pur rfl) .nil), f_R09_Depth_ok (condT hc hx2), .inl ⟨rfl, rfl⟩⟩) ?_
  refine OpsW.seg 3 [2] [(cond (decide ((t0.length : Int) ≤ (60 : Int))) x1 false) = true → (cond (decide ((t0.length : Int) ≤ (60 : Int))) x1 false) = true, (cond (decide ((t0.length : Int) ≤ (60 : Int))) x1 false) = true → (cond (decide ((t0.length : Int) ≤ (60 : Int))) x1 false) = true] [(2, .bool (cond (cond (decide ((t0.length : Int) ≤ (60 : Int))) x1 false) (decide (x2 ≤ (8 : Int))) false))] (by kernel_rfl) ⟨(fun h => h), (fun h => by first | exact h | (simpa using h) | grind), trivial⟩ ?_
  refine OpsW.nil ?_
  obtain rfl := Option.some.inj H
  refine AW.recast (env' := [(2, .bool (cond (cond (decide ((t0.length : Int) ≤ (60 : Int))) x1 false) (decide (x2 ≤ (8 : Int))) false))]) (h' := []) (StC.pure (.cons .im .nil)) ?_
  refine AW.ret ?_
  try simp only [Ex.then, Ex.inBlock, Ex.noGoto, Ex.jump, reduceIte, Nat.reduceEqDiff, reduceCtorEq]
  refine Done.gen rfl (.tmp .nil) ?_
  show _ = _
  kernel_rfl
end Go.Proofs.YtfpcbalkioolmaaDoor
