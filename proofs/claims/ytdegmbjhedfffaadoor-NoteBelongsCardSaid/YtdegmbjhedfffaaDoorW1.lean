/-
  Written by gen.py (own work): typed functions, and that the program computes them.
-/
import Derived.Test.YtdegmbjhedfffaaDoorGen13
import Derived.Test.YtdegmbjhedfffaaDoorChecked
import Derived.Test.YtdegmbjhedfffaaDoorItoa
import Derived.Test.YtdegmbjhedfffaaDoorAfter
import Derived.Test.YtdegmbjhedfffaaDoorLayP
set_option linter.unusedSimpArgs false
set_option linter.unusedVariables false
set_option maxRecDepth 100000
namespace Go.Proofs.YtdegmbjhedfffaaDoor
open Go.Abs
theorem E23 : Elem Tryd.prog 23 3 1 8 [.int .i64 0] := ⟨by kernel_rfl, by kernel_rfl, by kernel_rfl, rfl, rfl, by decide⟩
theorem E26 : Elem Tryd.prog 26 23 1 24 [.slice none 0 0] := ⟨by kernel_rfl, by kernel_rfl, by kernel_rfl, rfl, rfl, by decide⟩
theorem E34 : Elem Tryd.prog 34 43 1 1 [.int .u8 0] := ⟨by kernel_rfl, by kernel_rfl, by kernel_rfl, rfl, rfl, by decide⟩
theorem E45 : Elem Tryd.prog 45 34 1 24 [.slice none 0 0] := ⟨by kernel_rfl, by kernel_rfl, by kernel_rfl, rfl, rfl, by decide⟩
def f_R22_Kinds_k1 (loop3 : ((List Int) × Int) → Option (List Int)) (v2 : Int) (v5 : List Int) : Option (List Int) :=
  G (inR (v2 + (1 : Int))) <|
  loop3 (v5, v2 + (1 : Int))
def f_R22_Kinds_k2 (loop3 : ((List Int) × Int) → Option (List Int)) (v1 : List Int) (v2 : Int) (v9 : Int) : Option (List Int) :=
  G (room 8 (v1.length + 1)) <|
  f_R22_Kinds_k1 loop3 v2 (v1 ++ [v9])
def f_R22_Kinds_b1 (t0 : List Int) (t1 : Int) (loop3 : ((List Int) × Int) → Option (List Int)) (v1 : List Int) (v2 : Int) : Option (List Int) :=
  cond (cond (decide (v2 < (t0.length : Int))) (decide (v2 < t1)) false) (
    G (0 ≤ v2 ∧ v2 < (t0.length : Int)) <|
    G (inR ((IntKind.wrap .i64 (Int.tmod (t0.getD v2.toNat (0 : Int)) (12 : Int))) + (1 : Int))) <|
    cond (decide ((7 : Int) < ((IntKind.wrap .i64 (Int.tmod (t0.getD v2.toNat (0 : Int)) (12 : Int))) + (1 : Int)))) (
      f_R22_Kinds_k2 loop3 v1 v2 (4 : Int)) (
      f_R22_Kinds_k2 loop3 v1 v2 ((IntKind.wrap .i64 (Int.tmod (t0.getD v2.toNat (0 : Int)) (12 : Int))) + (1 : Int)))) (
    some v1)
def f_R22_Kinds (t0 : List Int) (t1 : Int) : Option (List Int) :=
  iter (fun loop (s : (List Int) × Int) => f_R22_Kinds_b1 t0 t1 loop s.1 s.2) 1000000 (([] : List Int), (0 : Int))
theorem f_R22_Kinds_own {t0 : List Int} {t1 : Int} {r : List Int} (H : f_R22_Kinds t0 t1 = some r) : Abs.Spec Tryd.prog 9 [slA (eI .u8) t0, .int .i64 t1] [] (fun x h => x = .rsl 1000 0 0 r.length ∧ h = [(1000, rtA 0 3 1 (eI .i64) r)]) := by
  refine Spec.of_AW Tryd.func9 rfl (by simp [Tryd.ntmps9]) ?_
  rw [Tryd.ntmps9]
  unfold f_R22_Kinds at H
  change AW _ _ _ [(0, slA (eI .u8) t0), (1, .int .i64 t1)] [] _
  refine AW.regionSeq ?_
  refine OpsW.seg 1 [0, 1] [] [(0, slA (eI .u8) t0), (1, .int .i64 t1)] (by kernel_rfl) trivial ?_
  refine OpsW.nil ?_
  refine AW.regionSeq ?_
  refine OpsW.buildT (enc := eI .i64) ([] : List Int) rfl rfl rfl 8 rfl E23 (fun _ => rfl) (by decide) trivial (by kernel_rfl) (by kernel_rfl) (by kernel_rfl) rfl ?_
  refine OpsW.seg 1 [5, 0, 1] [] [(5, .rsl 8 0 0 (([] : List Int).length)), (0, slA (eI .u8) t0), (1, .int .i64 t1)] (by kernel_rfl) trivial ?_
  refine OpsW.recast (env' := [(5, .rsl 5 0 0 (([] : List Int).length)), (0, slA (eI .u8) t0), (1, .int .i64 t1)]) (h' := [(5, rtA 0 3 1 (eI .i64) ([] : List Int))]) (StC.mk (phi [(5, some 8)]) (.old rfl rfl rfl rfl rfl (CstL.ims _) .nil) rfl (.cons (.rsl rfl rfl rfl rfl rfl rfl) (.cons .im (.cons .im .nil)))) ?_
  refine OpsW.nil ?_
  refine AW.seq ?_
  refine AW.regionSeq ?_
  refine OpsW.seg 1 [6, 5, 0, 1] [] [(6, .int .i64 (0 : Int)), (5, .rsl 5 0 0 (([] : List Int).length)), (0, slA (eI .u8) t0), (1, .int .i64 t1)] (by kernel_rfl) trivial ?_
  refine OpsW.nil ?_
  refine AW.block ?_
  refine AW.iterK (fun loop (s : (List Int) × Int) => f_R22_Kinds_b1 t0 t1 loop s.1 s.2) r (fun (s : (List Int) × Int) => [(0, slA (eI .u8) t0), (1, .int .i64 t1), (5, .rsl 5 0 0 s.1.length), (6, .int .i64 s.2)]) (fun (s : (List Int) × Int) => [(5, rtA 0 3 1 (eI .i64) s.1)]) ?_ 1000000 (([] : List Int), (0 : Int)) H (StC.mk (phi [(5, some 5)]) (.old rfl rfl rfl rfl rfl (CstL.ims _) .nil) rfl (.cons .im (.cons .im (.cons (.rsl rfl rfl rfl rfl rfl rfl) (.cons .im .nil)))))
  intro loop3 s H
  obtain ⟨v1, v2⟩ := s
  change f_R22_Kinds_b1 t0 t1 loop3 v1 v2 = some r at H
  unfold f_R22_Kinds_b1 at H
  change AW _ _ _ [(0, slA (eI .u8) t0), (1, .int .i64 t1), (5, .rsl 5 0 0 v1.length), (6, .int .i64 v2)] [(5, rtA 0 3 1 (eI .i64) v1)] _
  refine AW.seq ?_
  refine AW.regionSeq ?_
  refine OpsW.seg 9 [17, 0, 1, 5, 6] [(decide (v2 < (t0.length : Int))) = true → (decide (v2 < (t0.length : Int))) = true, (decide (v2 < (t0.length : Int))) = true → (decide (v2 < (t0.length : Int))) = true, (decide (v2 < (t0.length : Int))) = true → (decide (v2 < (t0.length : Int))) = true] [(17, .bool (cond (decide (v2 < (t0.length : Int))) (decide (v2 < t1)) false)), (0, slA (eI .u8) t0), (1, .int .i64 t1), (5, .rsl 5 0 0 v1.length), (6, .int .i64 v2)] (by kernel_rfl) ⟨(fun h => h), (fun h => h), (fun h => by first | exact h | simpa using h), trivial⟩ ?_
  refine OpsW.nil ?_
  refine AW.cond (b := cond (decide (v2 < (t0.length : Int))) (decide (v2 < t1)) false) rfl (fun c4 => ?_) (fun c4 => ?_)
  · replace H := condT c4 H
    refine AW.skip ?_
    refine AW.joinK (fun (y : (List Int)) => f_R22_Kinds_k1 loop3 v2 y) r (fun (y : (List Int)) => [(0, slA (eI .u8) t0), (1, .int .i64 t1), (5, .rsl 5 0 0 y.length), (6, .int .i64 v2)]) (fun (y : (List Int)) => [(5, rtA 0 3 1 (eI .i64) y)]) ?_ ?_
    · refine AW.block ?_
      refine AW.regionSeq ?_
      obtain ⟨g7, H⟩ := G_some H
      refine OpsW.seg 3 [22, 0, 1, 5, 6] [0 ≤ v2 ∧ v2 < (t0.length : Int)] [(22, .ipt (t0.flatMap (eI .u8)) (v2.toNat * 1)), (0, slA (eI .u8) t0), (1, .int .i64 t1), (5, .rsl 5 0 0 v1.length), (6, .int .i64 v2)] (by kernel_rfl) ⟨g7, trivial⟩ ?_
      refine OpsW.asU (.int .u8 (t0.getD v2.toNat (0 : Int))) rfl rfl (T.load rfl trivial (by kernel_rfl) (fm_cell0 (eI .u8) 1 (fun _ => rfl) t0 (0 : Int) v2.toNat (ltN g7) (fun a => .val (.int .u8 a)) (fun _ => rfl))) ?_
      obtain ⟨g8, H⟩ := G_some H
      refine OpsW.seg 4 [7, 0, 1, 5, 6] [(12 : Int) ≠ 0, inR ((IntKind.wrap .i64 (Int.tmod (t0.getD v2.toNat (0 : Int)) (12 : Int))) + (1 : Int))] [(7, .int .i64 ((IntKind.wrap .i64 (Int.tmod (t0.getD v2.toNat (0 : Int)) (12 : Int))) + (1 : Int))), (0, slA (eI .u8) t0), (1, .int .i64 t1), (5, .rsl 5 0 0 v1.length), (6, .int .i64 v2)] (by kernel_rfl) ⟨(by decide), g8, trivial⟩ ?_
      refine OpsW.nil ?_
      refine AW.joinK (fun (y : Int) => f_R22_Kinds_k2 loop3 v1 v2 y) r (fun (y : Int) => [(0, slA (eI .u8) t0), (1, .int .i64 t1), (5, .rsl 5 0 0 v1.length), (6, .int .i64 v2), (7, .int .i64 y)]) (fun (y : Int) => [(5, rtA 0 3 1 (eI .i64) v1)]) ?_ ?_
      · refine AW.regionSeq ?_
        refine OpsW.seg 2 [28, 7, 0, 1, 5, 6] [] [(28, .bool (decide ((7 : Int) < ((IntKind.wrap .i64 (Int.tmod (t0.getD v2.toNat (0 : Int)) (12 : Int))) + (1 : Int))))), (7, .int .i64 ((IntKind.wrap .i64 (Int.tmod (t0.getD v2.toNat (0 : Int)) (12 : Int))) + (1 : Int))), (0, slA (eI .u8) t0), (1, .int .i64 t1), (5, .rsl 5 0 0 v1.length), (6, .int .i64 v2)] (by kernel_rfl) trivial ?_
        refine OpsW.nil ?_
        refine AW.cond (b := decide ((7 : Int) < ((IntKind.wrap .i64 (Int.tmod (t0.getD v2.toNat (0 : Int)) (12 : Int))) + (1 : Int)))) rfl (fun c11 => ?_) (fun c11 => ?_)
        · replace H := condT c11 H
          refine AW.region ?_
          refine OpsW.seg 1 [7, 0, 1, 5, 6] [] [(7, .int .i64 (4 : Int)), (0, slA (eI .u8) t0), (1, .int .i64 t1), (5, .rsl 5 0 0 v1.length), (6, .int .i64 v2)] (by kernel_rfl) trivial ?_
          refine OpsW.nil ?_
          show ∃ y, _ ∧ StC _ _ _ _
          exact ⟨(4 : Int), H, (StC.mk (phi [(5, some 5)]) (.old rfl rfl rfl rfl rfl (CstL.ims _) .nil) rfl (.cons .im (.cons .im (.cons (.rsl rfl rfl rfl rfl rfl rfl) (.cons .im (.cons .im .nil))))))⟩
        · replace H := condF c11 H
          refine AW.skip ?_
          show ∃ y, _ ∧ StC _ _ _ _
          exact ⟨(IntKind.wrap .i64 (Int.tmod (t0.getD v2.toNat (0 : Int)) (12 : Int))) + (1 : Int), H, (StC.mk (phi [(5, some 5)]) (.old rfl rfl rfl rfl rfl (CstL.ims _) .nil) rfl (.cons .im (.cons .im (.cons (.rsl rfl rfl rfl rfl rfl rfl) (.cons .im (.cons .im .nil))))))⟩
      · intro v9 H
        change f_R22_Kinds_k2 loop3 v1 v2 v9 = some r at H
        unfold f_R22_Kinds_k2 at H
        change AW _ _ _ [(0, slA (eI .u8) t0), (1, .int .i64 t1), (5, .rsl 5 0 0 v1.length), (6, .int .i64 v2), (7, .int .i64 v9)] [(5, rtA 0 3 1 (eI .i64) v1)] _
        refine AW.region ?_
        refine OpsW.seg 2 [30, 29, 0, 1, 5, 6] [] [(30, .int .i64 v9), (29, .rsl 5 0 0 v1.length), (0, slA (eI .u8) t0), (1, .int .i64 t1), (5, .rsl 5 0 0 v1.length), (6, .int .i64 v2)] (by kernel_rfl) trivial ?_
        obtain ⟨g10, H⟩ := G_some H
        refine OpsW.appendLF (enc := eI .i64) [v9] rfl rfl rfl (by decide) rfl rfl rfl (by simp) E23 (fun _ => rfl) (by decide) trivial (by kernel_rfl) (by kernel_rfl) (by kernel_rfl) rfl rfl rfl g10 ?_
        refine OpsW.seg 1 [5, 0, 1, 6] [] [(5, .rsl 5 1 0 ((v1 ++ [v9]).length)), (0, slA (eI .u8) t0), (1, .int .i64 t1), (6, .int .i64 v2)] (by kernel_rfl) trivial ?_
        refine OpsW.recast (env' := [(5, .rsl 5 0 0 ((v1 ++ [v9]).length)), (0, slA (eI .u8) t0), (1, .int .i64 t1), (6, .int .i64 v2)]) (h' := [(5, rtA 0 3 1 (eI .i64) (v1 ++ [v9]))]) (StC.mk (phi [(5, some 5)]) (.old rfl rfl rfl rfl rfl (CstL.ims _) .nil) rfl (.cons (.rsl rfl rfl rfl rfl rfl rfl) (.cons .im (.cons .im (.cons .im .nil))))) ?_
        refine OpsW.nil ?_
        show ∃ y, _ ∧ StC _ _ _ _
        exact ⟨v1 ++ [v9], H, (StC.mk (phi [(5, some 5)]) (.old rfl rfl rfl rfl rfl (CstL.ims _) .nil) rfl (.cons .im (.cons .im (.cons (.rsl rfl rfl rfl rfl rfl rfl) (.cons .im .nil)))))⟩
    · intro v5 H
      change f_R22_Kinds_k1 loop3 v2 v5 = some r at H
      unfold f_R22_Kinds_k1 at H
      change AW _ _ _ [(0, slA (eI .u8) t0), (1, .int .i64 t1), (5, .rsl 5 0 0 v5.length), (6, .int .i64 v2)] [(5, rtA 0 3 1 (eI .i64) v5)] _
      refine AW.region ?_
      obtain ⟨g6, H⟩ := G_some H
      refine OpsW.seg 3 [6, 0, 1, 5] [inR (v2 + (1 : Int))] [(6, .int .i64 (v2 + (1 : Int))), (0, slA (eI .u8) t0), (1, .int .i64 t1), (5, .rsl 5 0 0 v5.length)] (by kernel_rfl) ⟨g6, trivial⟩ ?_
      refine OpsW.nil ?_
      show ∃ y, _ ∧ StC _ _ _ _
      exact ⟨(v5, v2 + (1 : Int)), H, (StC.mk (phi [(5, some 5)]) (.old rfl rfl rfl rfl rfl (CstL.ims _) .nil) rfl (.cons .im (.cons .im (.cons (.rsl rfl rfl rfl rfl rfl rfl) (.cons .im .nil)))))⟩
  · replace H := condF c4 H
    refine AW.exit ?_
    refine AW.regionSeq ?_
    refine OpsW.seg 2 [4] [] [(4, .rsl 5 0 0 v1.length)] (by kernel_rfl) trivial ?_
    refine OpsW.nil ?_
    obtain rfl := Option.some.inj H
    refine AW.recast (env' := [(4, .rsl 1000 0 0 v1.length)]) (h' := [(1000, rtA 0 3 1 (eI .i64) v1)]) (StC.mk (phi [(1000, some 5)]) (.old rfl rfl rfl rfl rfl (CstL.ims _) .nil) rfl (.cons (.rsl rfl rfl rfl rfl rfl rfl) .nil)) ?_
    refine AW.ret ?_
    try simp only [Ex.then, Ex.inBlock, Ex.noGoto, Ex.jump, reduceIte, Nat.reduceEqDiff, reduceCtorEq]
    refine Done.gen rfl (.tmp .nil) ?_
    exact ⟨by kernel_rfl, rfl⟩
theorem f_R22_Kinds_ok {t0 : List Int} {t1 : Int} {r : List Int} (H : f_R22_Kinds t0 t1 = some r) : QSpec Tryd.prog 9 [slA (eI .u8) t0, .int .i64 t1] (slA (eI .i64) r) := by
  exact QSpec.of_own (f_R22_Kinds_own H) (.frz rfl rfl rfl (frz_all (eI .i64) 1 (fun _ => rfl) r) (fm_length (eI .i64) 1 (fun _ => rfl) r) (phi_ne rfl))
def f_R22_Ints_b1 (t0 : List Int) (t1 : List Int) (loop3 : (Int) → Option Bool) (v2 : Int) : Option Bool :=
  cond (decide (v2 < (t0.length : Int))) (
    G (0 ≤ v2 ∧ v2 < (t0.length : Int)) <|
    G (0 ≤ v2 ∧ v2 < (t1.length : Int)) <|
    cond ((t0.getD v2.toNat (0 : Int)) != (t1.getD v2.toNat (0 : Int))) (
      some false) (
      G (inR (v2 + (1 : Int))) <|
      loop3 (v2 + (1 : Int)))) (
    some true)
def f_R22_Ints (t0 : List Int) (t1 : List Int) : Option Bool :=
  cond ((t0.length : Int) != (t1.length : Int)) (
    some false) (
    iter (fun loop (s : Int) => f_R22_Ints_b1 t0 t1 loop s) 1000000 (0 : Int))
theorem f_R22_Ints_ok {t0 : List Int} {t1 : List Int} {r : Bool} (H : f_R22_Ints t0 t1 = some r) : QSpec Tryd.prog 10 [slA (eI .i64) t0, slA (eI .i64) t1] (.bool r) := by
  refine Spec.of_AW Tryd.func10 rfl (by simp [Tryd.ntmps10]) ?_
  rw [Tryd.ntmps10]
  unfold f_R22_Ints at H
  change AW _ _ _ [(0, slA (eI .i64) t0), (1, slA (eI .i64) t1)] [] _
  refine AW.regionSeq ?_
  refine OpsW.seg 1 [0, 1] [] [(0, slA (eI .i64) t0), (1, slA (eI .i64) t1)] (by kernel_rfl) trivial ?_
  refine OpsW.nil ?_
  refine AW.seq ?_
  refine AW.regionSeq ?_
  refine OpsW.seg 5 [10, 0, 1] [] [(10, .bool ((t0.length : Int) != (t1.length : Int))), (0, slA (eI .i64) t0), (1, slA (eI .i64) t1)] (by kernel_rfl) trivial ?_
  refine OpsW.nil ?_
  refine AW.cond (b := (t0.length : Int) != (t1.length : Int)) rfl (fun c1 => ?_) (fun c1 => ?_)
  · replace H := condT c1 H
    refine AW.regionSeq ?_
    refine OpsW.seg 1 [4] [] [(4, .bool false)] (by kernel_rfl) trivial ?_
    refine OpsW.nil ?_
    obtain rfl := Option.some.inj H
    refine AW.recast (env' := [(4, .bool false)]) (h' := []) (StC.pure (.cons .im .nil)) ?_
    refine AW.ret ?_
    try simp only [Ex.then, Ex.inBlock, Ex.noGoto, Ex.jump, reduceIte, Nat.reduceEqDiff, reduceCtorEq]
    refine Done.gen rfl (.tmp .nil) ?_
    show _ = _
    kernel_rfl
  · replace H := condF c1 H
    refine AW.skip ?_
    refine AW.seq ?_
    refine AW.regionSeq ?_
    refine OpsW.seg 1 [5, 0, 1] [] [(5, .int .i64 (0 : Int)), (0, slA (eI .i64) t0), (1, slA (eI .i64) t1)] (by kernel_rfl) trivial ?_
    refine OpsW.nil ?_
    refine AW.block ?_
    refine AW.iterK (fun loop (s : Int) => f_R22_Ints_b1 t0 t1 loop s) r (fun (s : Int) => [(0, slA (eI .i64) t0), (1, slA (eI .i64) t1), (5, .int .i64 s)]) (fun (s : Int) => []) ?_ 1000000 (0 : Int) H (StC.pure (.cons .im (.cons .im (.cons .im .nil))))
    intro loop3 v2 H
    change f_R22_Ints_b1 t0 t1 loop3 v2 = some r at H
    unfold f_R22_Ints_b1 at H
    change AW _ _ _ [(0, slA (eI .i64) t0), (1, slA (eI .i64) t1), (5, .int .i64 v2)] [] _
    refine AW.seq ?_
    refine AW.regionSeq ?_
    refine OpsW.seg 4 [14, 0, 1, 5] [] [(14, .bool (decide (v2 < (t0.length : Int)))), (0, slA (eI .i64) t0), (1, slA (eI .i64) t1), (5, .int .i64 v2)] (by kernel_rfl) trivial ?_
    refine OpsW.nil ?_
    refine AW.cond (b := decide (v2 < (t0.length : Int))) rfl (fun c4 => ?_) (fun c4 => ?_)
    · replace H := condT c4 H
      refine AW.skip ?_
      refine AW.seq ?_
      refine AW.block ?_
      refine AW.drawSeq Tryd.checked.mixed (by kernel_rfl) ?_
      obtain ⟨g5, H⟩ := G_some H
      refine QOps.seg (N := 26) 3 [0 ≤ v2 ∧ v2 < (t0.length : Int)] [(19, .ipt (t0.flatMap (eI .i64)) (v2.toNat * 1)), (18, .int .i64 v2), (17, slA (eI .i64) t0), (14, .bool (decide (v2 < (t0.length : Int)))), (0, slA (eI .i64) t0), (1, slA (eI .i64) t1), (5, .int .i64 v2)] (by kernel_rfl) ⟨g5, trivial⟩ ?_
      refine QOps.asU (.int .i64 (t0.getD v2.toNat (0 : Int))) rfl (T.load rfl trivial (by kernel_rfl) (fm_cell0 (eI .i64) 1 (fun _ => rfl) t0 (0 : Int) v2.toNat (ltN g5) (fun a => .val (.int .i64 a)) (fun _ => rfl))) ?_
      obtain ⟨g6, H⟩ := G_some H
      refine QOps.seg (N := 26) 3 [0 ≤ v2 ∧ v2 < (t1.length : Int)] [(23, .ipt (t1.flatMap (eI .i64)) (v2.toNat * 1)), (22, .int .i64 v2), (21, slA (eI .i64) t1), (20, .int .i64 (t0.getD v2.toNat (0 : Int))), (19, .ipt (t0.flatMap (eI .i64)) (v2.toNat * 1)), (18, .int .i64 v2), (17, slA (eI .i64) t0), (14, .bool (decide (v2 < (t0.length : Int)))), (0, slA (eI .i64) t0), (1, slA (eI .i64) t1), (5, .int .i64 v2)] (by kernel_rfl) ⟨g6, trivial⟩ ?_
      refine QOps.asU (.int .i64 (t1.getD v2.toNat (0 : Int))) rfl (T.load rfl trivial (by kernel_rfl) (fm_cell0 (eI .i64) 1 (fun _ => rfl) t1 (0 : Int) v2.toNat (ltN g6) (fun a => .val (.int .i64 a)) (fun _ => rfl))) ?_
      refine QOps.seg (N := 26) 1 [] [(25, .bool ((t0.getD v2.toNat (0 : Int)) != (t1.getD v2.toNat (0 : Int)))), (24, .int .i64 (t1.getD v2.toNat (0 : Int))), (23, .ipt (t1.flatMap (eI .i64)) (v2.toNat * 1)), (22, .int .i64 v2), (21, slA (eI .i64) t1), (20, .int .i64 (t0.getD v2.toNat (0 : Int))), (19, .ipt (t0.flatMap (eI .i64)) (v2.toNat * 1)), (18, .int .i64 v2), (17, slA (eI .i64) t0), (14, .bool (decide (v2 < (t0.length : Int)))), (0, slA (eI .i64) t0), (1, slA (eI .i64) t1), (5, .int .i64 v2)] (by kernel_rfl) trivial ?_
      refine QOps.nil ?_
      refine AW.trim [25, 0, 1, 5] [(25, .bool ((t0.getD v2.toNat (0 : Int)) != (t1.getD v2.toNat (0 : Int)))), (0, slA (eI .i64) t0), (1, slA (eI .i64) t1), (5, .int .i64 v2)] (by kernel_rfl) ?_
      refine AW.cond (b := (t0.getD v2.toNat (0 : Int)) != (t1.getD v2.toNat (0 : Int))) rfl (fun c7 => ?_) (fun c7 => ?_)
      · replace H := condT c7 H
        refine AW.regionSeq ?_
        refine OpsW.seg 1 [4] [] [(4, .bool false)] (by kernel_rfl) trivial ?_
        refine OpsW.nil ?_
        obtain rfl := Option.some.inj H
        refine AW.recast (env' := [(4, .bool false)]) (h' := []) (StC.pure (.cons .im .nil)) ?_
        refine AW.ret ?_
        try simp only [Ex.then, Ex.inBlock, Ex.noGoto, Ex.jump, reduceIte, Nat.reduceEqDiff, reduceCtorEq]
        refine Done.gen rfl (.tmp .nil) ?_
        show _ = _
        kernel_rfl
      · replace H := condF c7 H
        refine AW.skip ?_
        refine AW.region ?_
        obtain ⟨g8, H⟩ := G_some H
        refine OpsW.seg 3 [5, 0, 1] [inR (v2 + (1 : Int))] [(5, .int .i64 (v2 + (1 : Int))), (0, slA (eI .i64) t0), (1, slA (eI .i64) t1)] (by kernel_rfl) ⟨g8, trivial⟩ ?_
        refine OpsW.nil ?_
        show ∃ y, _ ∧ StC _ _ _ _
        exact ⟨v2 + (1 : Int), H, (StC.pure (.cons .im (.cons .im (.cons .im .nil))))⟩
    · replace H := condF c4 H
      refine AW.exit ?_
      refine AW.regionSeq ?_
      refine OpsW.seg 1 [4] [] [(4, .bool true)] (by kernel_rfl) trivial ?_
      refine OpsW.nil ?_
      obtain rfl := Option.some.inj H
      refine AW.recast (env' := [(4, .bool true)]) (h' := []) (StC.pure (.cons .im .nil)) ?_
      refine AW.ret ?_
      try simp only [Ex.then, Ex.inBlock, Ex.noGoto, Ex.jump, reduceIte, Nat.reduceEqDiff, reduceCtorEq]
      refine Done.gen rfl (.tmp .nil) ?_
      show _ = _
      kernel_rfl
def f_note_Numbers_k1 (loop5 : ((List Int) × Int × Int) → Option (List Int)) (v4 : Int) (v7 : List Int) (v8 : Int) : Option (List Int) :=
  G (inR (v4 + (1 : Int))) <|
  loop5 (v7, v8, v4 + (1 : Int))
def f_note_Numbers_b1 (t0 : List Int) (loop5 : ((List Int) × Int × Int) → Option (List Int)) (v2 : List Int) (v3 : Int) (v4 : Int) : Option (List Int) :=
  cond (decide (v4 < (t0.length : Int))) (
    G (0 ≤ v4 ∧ v4 < (t0.length : Int)) <|
    cond ((t0.getD v4.toNat (0 : Int)) == (4 : Int)) (
      G (inR (v3 + (1 : Int))) <|
      G (0 ≤ v4 ∧ v4 < (v2.length : Int)) <|
      f_note_Numbers_k1 loop5 v4 (v2.set v4.toNat (v3 + (1 : Int))) (v3 + (1 : Int))) (
      f_note_Numbers_k1 loop5 v4 v2 v3)) (
    some v2)
def f_note_Numbers (t0 : List Int) : Option (List Int) :=
  G (0 ≤ (t0.length : Int) ∧ (t0.length : Int) ≤ (t0.length : Int) ∧ ((8 : Nat) : Int) * (t0.length : Int) ≤ 281474976710656 ∧ (t0.length : Int) ≤ 9223372036854775807) <|
  iter (fun loop (s : (List Int) × Int × Int) => f_note_Numbers_b1 t0 loop s.1 s.2.1 s.2.2) 1000000 (List.replicate (t0.length : Int).toNat (0 : Int), (0 : Int), (0 : Int))
theorem f_note_Numbers_ok {t0 : List Int} {r : List Int} (H : f_note_Numbers t0 = some r) : QSpec Tryd.prog 11 [slA (eI .i64) t0] (slA (eI .i64) r) := by
  refine Spec.of_AW Tryd.func11 rfl (by simp [Tryd.ntmps11]) ?_
  rw [Tryd.ntmps11]
  unfold f_note_Numbers at H
  change AW _ _ _ [(0, slA (eI .i64) t0)] [] _
  refine AW.regionSeq ?_
  refine OpsW.seg 1 [0] [] [(0, slA (eI .i64) t0)] (by kernel_rfl) trivial ?_
  refine OpsW.nil ?_
  refine AW.regionSeq ?_
  refine OpsW.seg 2 [8, 0] [] [(8, .int .i64 (t0.length : Int)), (0, slA (eI .i64) t0)] (by kernel_rfl) trivial ?_
  obtain ⟨g1, H⟩ := G_some H
  refine OpsW.makeT (enc := eI .i64) (0 : Int) rfl rfl rfl 9 rfl E23 rfl rfl rfl g1 ?_
  refine OpsW.seg 1 [3, 0] [] [(3, .rsl 9 0 0 ((List.replicate (t0.length : Int).toNat (0 : Int)).length)), (0, slA (eI .i64) t0)] (by kernel_rfl) trivial ?_
  refine OpsW.recast (env' := [(3, .rsl 3 0 0 ((List.replicate (t0.length : Int).toNat (0 : Int)).length)), (0, slA (eI .i64) t0)]) (h' := [(3, rtA 0 3 1 (eI .i64) (List.replicate (t0.length : Int).toNat (0 : Int)))]) (StC.mk (phi [(3, some 9)]) (.old rfl rfl rfl rfl rfl (CstL.ims _) .nil) rfl (.cons (.rsl rfl rfl rfl rfl rfl rfl) (.cons .im .nil))) ?_
  refine OpsW.nil ?_
  refine AW.regionSeq ?_
  refine OpsW.seg 1 [4, 3, 0] [] [(4, .int .i64 (0 : Int)), (3, .rsl 3 0 0 ((List.replicate (t0.length : Int).toNat (0 : Int)).length)), (0, slA (eI .i64) t0)] (by kernel_rfl) trivial ?_
  refine OpsW.nil ?_
  refine AW.seq ?_
  refine AW.regionSeq ?_
  refine OpsW.seg 3 [12, 11, 10, 4, 3] [] [(12, .int .i64 (0 : Int)), (11, .int .i64 (t0.length : Int)), (10, slA (eI .i64) t0), (4, .int .i64 (0 : Int)), (3, .rsl 3 0 0 ((List.replicate (t0.length : Int).toNat (0 : Int)).length))] (by kernel_rfl) trivial ?_
  refine OpsW.nil ?_
  refine AW.block ?_
  refine AW.iterK (fun loop (s : (List Int) × Int × Int) => f_note_Numbers_b1 t0 loop s.1 s.2.1 s.2.2) r (fun (s : (List Int) × Int × Int) => [(3, .rsl 3 0 0 s.1.length), (4, .int .i64 s.2.1), (10, slA (eI .i64) t0), (11, .int .i64 (t0.length : Int)), (12, .int .i64 s.2.2)]) (fun (s : (List Int) × Int × Int) => [(3, rtA 0 3 1 (eI .i64) s.1)]) ?_ 1000000 (List.replicate (t0.length : Int).toNat (0 : Int), (0 : Int), (0 : Int)) H (StC.mk (phi [(3, some 3)]) (.old rfl rfl rfl rfl rfl (CstL.ims _) .nil) rfl (.cons (.rsl rfl rfl rfl rfl rfl rfl) (.cons .im (.cons .im (.cons .im (.cons .im .nil))))))
  intro loop5 s H
  obtain ⟨v2, v3, v4⟩ := s
  change f_note_Numbers_b1 t0 loop5 v2 v3 v4 = some r at H
  unfold f_note_Numbers_b1 at H
  change AW _ _ _ [(3, .rsl 3 0 0 v2.length), (4, .int .i64 v3), (10, slA (eI .i64) t0), (11, .int .i64 (t0.length : Int)), (12, .int .i64 v4)] [(3, rtA 0 3 1 (eI .i64) v2)] _
  refine AW.regionSeq ?_
  refine OpsW.seg 1 [13, 3, 4, 10, 11, 12] [] [(13, .bool (decide (v4 < (t0.length : Int)))), (3, .rsl 3 0 0 v2.length), (4, .int .i64 v3), (10, slA (eI .i64) t0), (11, .int .i64 (t0.length : Int)), (12, .int .i64 v4)] (by kernel_rfl) trivial ?_
  refine OpsW.nil ?_
  refine AW.seq ?_
  refine AW.cond (b := decide (v4 < (t0.length : Int))) rfl (fun c6 => ?_) (fun c6 => ?_)
  · replace H := condT c6 H
    refine AW.skip ?_
    refine AW.joinK (fun (y : (List Int) × Int) => f_note_Numbers_k1 loop5 v4 y.1 y.2) r (fun (y : (List Int) × Int) => [(3, .rsl 3 0 0 y.1.length), (4, .int .i64 y.2), (10, slA (eI .i64) t0), (11, .int .i64 (t0.length : Int)), (12, .int .i64 v4)]) (fun (y : (List Int) × Int) => [(3, rtA 0 3 1 (eI .i64) y.1)]) ?_ ?_
    · refine AW.block ?_
      refine AW.regionSeq ?_
      obtain ⟨g10, H⟩ := G_some H
      refine OpsW.seg 2 [15, 14, 3, 4, 10, 11, 12] [0 ≤ v4 ∧ v4 < (t0.length : Int)] [(15, .ipt (t0.flatMap (eI .i64)) (v4.toNat * 1)), (14, .int .i64 v4), (3, .rsl 3 0 0 v2.length), (4, .int .i64 v3), (10, slA (eI .i64) t0), (11, .int .i64 (t0.length : Int)), (12, .int .i64 v4)] (by kernel_rfl) ⟨g10, trivial⟩ ?_
      refine OpsW.asU (.int .i64 (t0.getD v4.toNat (0 : Int))) rfl rfl (T.load rfl trivial (by kernel_rfl) (fm_cell0 (eI .i64) 1 (fun _ => rfl) t0 (0 : Int) v4.toNat (ltN g10) (fun a => .val (.int .i64 a)) (fun _ => rfl))) ?_
      refine OpsW.seg 2 [6, 5, 3, 4, 10, 11, 12] [] [(6, .int .i64 (t0.getD v4.toNat (0 : Int))), (5, .int .i64 v4), (3, .rsl 3 0 0 v2.length), (4, .int .i64 v3), (10, slA (eI .i64) t0), (11, .int .i64 (t0.length : Int)), (12, .int .i64 v4)] (by kernel_rfl) trivial ?_
      refine OpsW.nil ?_
      refine AW.regionSeq ?_
      refine OpsW.seg 2 [18, 5, 3, 4, 10, 11, 12] [] [(18, .bool ((t0.getD v4.toNat (0 : Int)) == (4 : Int))), (5, .int .i64 v4), (3, .rsl 3 0 0 v2.length), (4, .int .i64 v3), (10, slA (eI .i64) t0), (11, .int .i64 (t0.length : Int)), (12, .int .i64 v4)] (by kernel_rfl) trivial ?_
      refine OpsW.nil ?_
      refine AW.cond (b := (t0.getD v4.toNat (0 : Int)) == (4 : Int)) rfl (fun c11 => ?_) (fun c11 => ?_)
      · replace H := condT c11 H
        refine AW.regionSeq ?_
        obtain ⟨g12, H⟩ := G_some H
        refine OpsW.seg 3 [4, 5, 3, 10, 11, 12] [inR (v3 + (1 : Int))] [(4, .int .i64 (v3 + (1 : Int))), (5, .int .i64 v4), (3, .rsl 3 0 0 v2.length), (10, slA (eI .i64) t0), (11, .int .i64 (t0.length : Int)), (12, .int .i64 v4)] (by kernel_rfl) ⟨g12, trivial⟩ ?_
        refine OpsW.nil ?_
        refine AW.region ?_
        obtain ⟨g13, H⟩ := G_some H
        refine OpsW.seg 4 [24, 23, 4, 3, 10, 11, 12] [0 ≤ v4 ∧ v4 < (v2.length : Int)] [(24, .ref 3 0 (0 + v4.toNat * 1)), (23, .int .i64 (v3 + (1 : Int))), (4, .int .i64 (v3 + (1 : Int))), (3, .rsl 3 0 0 v2.length), (10, slA (eI .i64) t0), (11, .int .i64 (t0.length : Int)), (12, .int .i64 v4)] (by kernel_rfl) ⟨g13, trivial⟩ ?_
        refine OpsW.storeT (enc := eI .i64) (k := 1) (0 : Int) (v3 + (1 : Int)) [.val (.int .i64 (v3 + (1 : Int)))] v4.toNat 0 rfl rfl rfl (by exact congrArg (AV.ref 3 0) (by first | omega | rfl | (simp; omega))) trivial trivial rfl (fun _ => rfl) rfl (by kernel_rfl) (okCb_sound (by kernel_rfl)) (ltN g13) (Nat.le_of_ble_eq_true (by kernel_rfl)) rfl ?_
        refine OpsW.weaken [(24, .ref 3 0 (0 + v4.toNat * 1)), (23, .int .i64 (v3 + (1 : Int))), (4, .int .i64 (v3 + (1 : Int))), (3, .rsl 3 0 0 ((v2.set v4.toNat (v3 + (1 : Int))).length)), (10, slA (eI .i64) t0), (11, .int .i64 (t0.length : Int)), (12, .int .i64 v4)] (Env.le_of_eq (by simp only [List.length_set, List.length_reverse])) ?_
        refine OpsW.seg 0 [4, 3, 10, 11, 12] [] [(4, .int .i64 (v3 + (1 : Int))), (3, .rsl 3 0 0 ((v2.set v4.toNat (v3 + (1 : Int))).length)), (10, slA (eI .i64) t0), (11, .int .i64 (t0.length : Int)), (12, .int .i64 v4)] (by kernel_rfl) trivial ?_
        refine OpsW.recast (env' := [(4, .int .i64 (v3 + (1 : Int))), (3, .rsl 3 0 0 ((v2.set v4.toNat (v3 + (1 : Int))).length)), (10, slA (eI .i64) t0), (11, .int .i64 (t0.length : Int)), (12, .int .i64 v4)]) (h' := [(3, rtA 0 3 1 (eI .i64) (v2.set v4.toNat (v3 + (1 : Int))))]) (StC.mk (phi [(3, some 3)]) (.old rfl rfl rfl rfl rfl (CstL.ims _) .nil) rfl (.cons .im (.cons (.rsl rfl rfl rfl rfl rfl rfl) (.cons .im (.cons .im (.cons .im .nil)))))) ?_
        refine OpsW.nil ?_
        show ∃ y, _ ∧ StC _ _ _ _
        exact ⟨(v2.set v4.toNat (v3 + (1 : Int)), v3 + (1 : Int)), H, (StC.mk (phi [(3, some 3)]) (.old rfl rfl rfl rfl rfl (CstL.ims _) .nil) rfl (.cons (.rsl rfl rfl rfl rfl rfl rfl) (.cons .im (.cons .im (.cons .im (.cons .im .nil))))))⟩
      · replace H := condF c11 H
        refine AW.skip ?_
        show ∃ y, _ ∧ StC _ _ _ _
        exact ⟨(v2, v3), H, (StC.mk (phi [(3, some 3)]) (.old rfl rfl rfl rfl rfl (CstL.ims _) .nil) rfl (.cons (.rsl rfl rfl rfl rfl rfl rfl) (.cons .im (.cons .im (.cons .im (.cons .im .nil))))))⟩
    · rintro ⟨v7, v8⟩ H
      change f_note_Numbers_k1 loop5 v4 v7 v8 = some r at H
      unfold f_note_Numbers_k1 at H
      change AW _ _ _ [(3, .rsl 3 0 0 v7.length), (4, .int .i64 v8), (10, slA (eI .i64) t0), (11, .int .i64 (t0.length : Int)), (12, .int .i64 v4)] [(3, rtA 0 3 1 (eI .i64) v7)] _
      refine AW.region ?_
      obtain ⟨g9, H⟩ := G_some H
      refine OpsW.seg 2 [12, 3, 4, 10, 11] [inR (v4 + (1 : Int))] [(12, .int .i64 (v4 + (1 : Int))), (3, .rsl 3 0 0 v7.length), (4, .int .i64 v8), (10, slA (eI .i64) t0), (11, .int .i64 (t0.length : Int))] (by kernel_rfl) ⟨g9, trivial⟩ ?_
      refine OpsW.nil ?_
      show ∃ y, _ ∧ StC _ _ _ _
      exact ⟨(v7, v8, v4 + (1 : Int)), H, (StC.mk (phi [(3, some 3)]) (.old rfl rfl rfl rfl rfl (CstL.ims _) .nil) rfl (.cons (.rsl rfl rfl rfl rfl rfl rfl) (.cons .im (.cons .im (.cons .im (.cons .im .nil))))))⟩
  · replace H := condF c6 H
    refine AW.exit ?_
    refine AW.regionSeq ?_
    refine OpsW.seg 2 [2] [] [(2, .rsl 3 0 0 v2.length)] (by kernel_rfl) trivial ?_
    refine OpsW.recast (env' := [(2, slA (eI .i64) v2)]) (h' := []) (StC.mk (phi []) .nil rfl (.cons (.frz rfl rfl rfl (frz_all (eI .i64) 1 (fun _ => rfl) v2) (fm_length (eI .i64) 1 (fun _ => rfl) v2) (phi_ne rfl)) .nil)) ?_
    refine OpsW.nil ?_
    obtain rfl := Option.some.inj H
    refine AW.recast (env' := [(2, slA (eI .i64) v2)]) (h' := []) (StC.pure (.cons .im .nil)) ?_
    refine AW.ret ?_
    try simp only [Ex.then, Ex.inBlock, Ex.noGoto, Ex.jump, reduceIte, Nat.reduceEqDiff, reduceCtorEq]
    refine Done.gen rfl (.tmp .nil) ?_
    show _ = _
    kernel_rfl
def f_R22_Numbers_k1 (loop4 : ((List Int) × Int × Int) → Option (List Int)) (v3 : Int) (v6 : List Int) (v7 : Int) : Option (List Int) :=
  G (inR (v3 + (1 : Int))) <|
  loop4 (v6, v7, v3 + (1 : Int))
def f_R22_Numbers_b1 (t0 : List Int) (loop4 : ((List Int) × Int × Int) → Option (List Int)) (v1 : List Int) (v2 : Int) (v3 : Int) : Option (List Int) :=
  cond (decide (v3 < (t0.length : Int))) (
    G (0 ≤ v3 ∧ v3 < (t0.length : Int)) <|
    cond ((t0.getD v3.toNat (0 : Int)) == (4 : Int)) (
      G (inR (v2 + (1 : Int))) <|
      G (room 8 (v1.length + 1)) <|
      f_R22_Numbers_k1 loop4 v3 (v1 ++ [v2 + (1 : Int)]) (v2 + (1 : Int))) (
      G (room 8 (v1.length + 1)) <|
      f_R22_Numbers_k1 loop4 v3 (v1 ++ [(0 : Int)]) v2)) (
    some v1)
def f_R22_Numbers (t0 : List Int) : Option (List Int) :=
  iter (fun loop (s : (List Int) × Int × Int) => f_R22_Numbers_b1 t0 loop s.1 s.2.1 s.2.2) 1000000 (([] : List Int), (0 : Int), (0 : Int))
theorem f_R22_Numbers_ok {t0 : List Int} {r : List Int} (H : f_R22_Numbers t0 = some r) : QSpec Tryd.prog 12 [slA (eI .i64) t0] (slA (eI .i64) r) := by
  refine Spec.of_AW Tryd.func12 rfl (by simp [Tryd.ntmps12]) ?_
  rw [Tryd.ntmps12]
  unfold f_R22_Numbers at H
  change AW _ _ _ [(0, slA (eI .i64) t0)] [] _
  refine AW.regionSeq ?_
  refine OpsW.seg 1 [0] [] [(0, slA (eI .i64) t0)] (by kernel_rfl) trivial ?_
  refine OpsW.nil ?_
  refine AW.regionSeq ?_
  refine OpsW.buildT (enc := eI .i64) ([] : List Int) rfl rfl rfl 6 rfl E23 (fun _ => rfl) (by decide) trivial (by kernel_rfl) (by kernel_rfl) (by kernel_rfl) rfl ?_
  refine OpsW.seg 1 [3, 0] [] [(3, .rsl 6 0 0 (([] : List Int).length)), (0, slA (eI .i64) t0)] (by kernel_rfl) trivial ?_
  refine OpsW.recast (env' := [(3, .rsl 3 0 0 (([] : List Int).length)), (0, slA (eI .i64) t0)]) (h' := [(3, rtA 0 3 1 (eI .i64) ([] : List Int))]) (StC.mk (phi [(3, some 6)]) (.old rfl rfl rfl rfl rfl (CstL.ims _) .nil) rfl (.cons (.rsl rfl rfl rfl rfl rfl rfl) (.cons .im .nil))) ?_
  refine OpsW.nil ?_
  refine AW.regionSeq ?_
  refine OpsW.seg 1 [4, 3, 0] [] [(4, .int .i64 (0 : Int)), (3, .rsl 3 0 0 (([] : List Int).length)), (0, slA (eI .i64) t0)] (by kernel_rfl) trivial ?_
  refine OpsW.nil ?_
  refine AW.seq ?_
  refine AW.regionSeq ?_
  refine OpsW.seg 1 [5, 4, 3, 0] [] [(5, .int .i64 (0 : Int)), (4, .int .i64 (0 : Int)), (3, .rsl 3 0 0 (([] : List Int).length)), (0, slA (eI .i64) t0)] (by kernel_rfl) trivial ?_
  refine OpsW.nil ?_
  refine AW.block ?_
  refine AW.iterK (fun loop (s : (List Int) × Int × Int) => f_R22_Numbers_b1 t0 loop s.1 s.2.1 s.2.2) r (fun (s : (List Int) × Int × Int) => [(0, slA (eI .i64) t0), (3, .rsl 3 0 0 s.1.length), (4, .int .i64 s.2.1), (5, .int .i64 s.2.2)]) (fun (s : (List Int) × Int × Int) => [(3, rtA 0 3 1 (eI .i64) s.1)]) ?_ 1000000 (([] : List Int), (0 : Int), (0 : Int)) H (StC.mk (phi [(3, some 3)]) (.old rfl rfl rfl rfl rfl (CstL.ims _) .nil) rfl (.cons .im (.cons (.rsl rfl rfl rfl rfl rfl rfl) (.cons .im (.cons .im .nil)))))
  intro loop4 s H
  obtain ⟨v1, v2, v3⟩ := s
  change f_R22_Numbers_b1 t0 loop4 v1 v2 v3 = some r at H
  unfold f_R22_Numbers_b1 at H
  change AW _ _ _ [(0, slA (eI .i64) t0), (3, .rsl 3 0 0 v1.length), (4, .int .i64 v2), (5, .int .i64 v3)] [(3, rtA 0 3 1 (eI .i64) v1)] _
  refine AW.seq ?_
  refine AW.regionSeq ?_
  refine OpsW.seg 4 [10, 0, 3, 4, 5] [] [(10, .bool (decide (v3 < (t0.length : Int)))), (0, slA (eI .i64) t0), (3, .rsl 3 0 0 v1.length), (4, .int .i64 v2), (5, .int .i64 v3)] (by kernel_rfl) trivial ?_
  refine OpsW.nil ?_
  refine AW.cond (b := decide (v3 < (t0.length : Int))) rfl (fun c5 => ?_) (fun c5 => ?_)
  · replace H := condT c5 H
    refine AW.skip ?_
    refine AW.joinK (fun (y : (List Int) × Int) => f_R22_Numbers_k1 loop4 v3 y.1 y.2) r (fun (y : (List Int) × Int) => [(0, slA (eI .i64) t0), (3, .rsl 3 0 0 y.1.length), (4, .int .i64 y.2), (5, .int .i64 v3)]) (fun (y : (List Int) × Int) => [(3, rtA 0 3 1 (eI .i64) y.1)]) ?_ ?_
    · refine AW.block ?_
      refine AW.regionSeq ?_
      obtain ⟨g9, H⟩ := G_some H
      refine OpsW.seg 3 [15, 0, 3, 4, 5] [0 ≤ v3 ∧ v3 < (t0.length : Int)] [(15, .ipt (t0.flatMap (eI .i64)) (v3.toNat * 1)), (0, slA (eI .i64) t0), (3, .rsl 3 0 0 v1.length), (4, .int .i64 v2), (5, .int .i64 v3)] (by kernel_rfl) ⟨g9, trivial⟩ ?_
      refine OpsW.asU (.int .i64 (t0.getD v3.toNat (0 : Int))) rfl rfl (T.load rfl trivial (by kernel_rfl) (fm_cell0 (eI .i64) 1 (fun _ => rfl) t0 (0 : Int) v3.toNat (ltN g9) (fun a => .val (.int .i64 a)) (fun _ => rfl))) ?_
      refine OpsW.seg 1 [17, 0, 3, 4, 5] [] [(17, .bool ((t0.getD v3.toNat (0 : Int)) == (4 : Int))), (0, slA (eI .i64) t0), (3, .rsl 3 0 0 v1.length), (4, .int .i64 v2), (5, .int .i64 v3)] (by kernel_rfl) trivial ?_
      refine OpsW.nil ?_
      refine AW.cond (b := (t0.getD v3.toNat (0 : Int)) == (4 : Int)) rfl (fun c10 => ?_) (fun c10 => ?_)
      · replace H := condT c10 H
        refine AW.regionSeq ?_
        obtain ⟨g11, H⟩ := G_some H
        refine OpsW.seg 3 [4, 0, 3, 5] [inR (v2 + (1 : Int))] [(4, .int .i64 (v2 + (1 : Int))), (0, slA (eI .i64) t0), (3, .rsl 3 0 0 v1.length), (5, .int .i64 v3)] (by kernel_rfl) ⟨g11, trivial⟩ ?_
        refine OpsW.nil ?_
        refine AW.region ?_
        refine OpsW.seg 2 [21, 20, 4, 0, 3, 5] [] [(21, .int .i64 (v2 + (1 : Int))), (20, .rsl 3 0 0 v1.length), (4, .int .i64 (v2 + (1 : Int))), (0, slA (eI .i64) t0), (3, .rsl 3 0 0 v1.length), (5, .int .i64 v3)] (by kernel_rfl) trivial ?_
        obtain ⟨g12, H⟩ := G_some H
        refine OpsW.appendLF (enc := eI .i64) [v2 + (1 : Int)] rfl rfl rfl (by decide) rfl rfl rfl (by simp) E23 (fun _ => rfl) (by decide) trivial (by kernel_rfl) (by kernel_rfl) (by kernel_rfl) rfl rfl rfl g12 ?_
        refine OpsW.seg 1 [3, 4, 0, 5] [] [(3, .rsl 3 1 0 ((v1 ++ [v2 + (1 : Int)]).length)), (4, .int .i64 (v2 + (1 : Int))), (0, slA (eI .i64) t0), (5, .int .i64 v3)] (by kernel_rfl) trivial ?_
        refine OpsW.recast (env' := [(3, .rsl 3 0 0 ((v1 ++ [v2 + (1 : Int)]).length)), (4, .int .i64 (v2 + (1 : Int))), (0, slA (eI .i64) t0), (5, .int .i64 v3)]) (h' := [(3, rtA 0 3 1 (eI .i64) (v1 ++ [v2 + (1 : Int)]))]) (StC.mk (phi [(3, some 3)]) (.old rfl rfl rfl rfl rfl (CstL.ims _) .nil) rfl (.cons (.rsl rfl rfl rfl rfl rfl rfl) (.cons .im (.cons .im (.cons .im .nil))))) ?_
        refine OpsW.nil ?_
        show ∃ y, _ ∧ StC _ _ _ _
        exact ⟨(v1 ++ [v2 + (1 : Int)], v2 + (1 : Int)), H, (StC.mk (phi [(3, some 3)]) (.old rfl rfl rfl rfl rfl (CstL.ims _) .nil) rfl (.cons .im (.cons (.rsl rfl rfl rfl rfl rfl rfl) (.cons .im (.cons .im .nil)))))⟩
      · replace H := condF c10 H
        refine AW.region ?_
        refine OpsW.seg 1 [24, 0, 3, 4, 5] [] [(24, .rsl 3 0 0 v1.length), (0, slA (eI .i64) t0), (3, .rsl 3 0 0 v1.length), (4, .int .i64 v2), (5, .int .i64 v3)] (by kernel_rfl) trivial ?_
        obtain ⟨g13, H⟩ := G_some H
        refine OpsW.appendLF (enc := eI .i64) [(0 : Int)] rfl rfl rfl (by decide) rfl rfl rfl (by simp) E23 (fun _ => rfl) (by decide) trivial (by kernel_rfl) (by kernel_rfl) (by kernel_rfl) rfl rfl rfl g13 ?_
        refine OpsW.seg 1 [3, 0, 4, 5] [] [(3, .rsl 3 1 0 ((v1 ++ [(0 : Int)]).length)), (0, slA (eI .i64) t0), (4, .int .i64 v2), (5, .int .i64 v3)] (by kernel_rfl) trivial ?_
        refine OpsW.recast (env' := [(3, .rsl 3 0 0 ((v1 ++ [(0 : Int)]).length)), (0, slA (eI .i64) t0), (4, .int .i64 v2), (5, .int .i64 v3)]) (h' := [(3, rtA 0 3 1 (eI .i64) (v1 ++ [(0 : Int)]))]) (StC.mk (phi [(3, some 3)]) (.old rfl rfl rfl rfl rfl (CstL.ims _) .nil) rfl (.cons (.rsl rfl rfl rfl rfl rfl rfl) (.cons .im (.cons .im (.cons .im .nil))))) ?_
        refine OpsW.nil ?_
        show ∃ y, _ ∧ StC _ _ _ _
        exact ⟨(v1 ++ [(0 : Int)], v2), H, (StC.mk (phi [(3, some 3)]) (.old rfl rfl rfl rfl rfl (CstL.ims _) .nil) rfl (.cons .im (.cons (.rsl rfl rfl rfl rfl rfl rfl) (.cons .im (.cons .im .nil)))))⟩
    · rintro ⟨v6, v7⟩ H
      change f_R22_Numbers_k1 loop4 v3 v6 v7 = some r at H
      unfold f_R22_Numbers_k1 at H
      change AW _ _ _ [(0, slA (eI .i64) t0), (3, .rsl 3 0 0 v6.length), (4, .int .i64 v7), (5, .int .i64 v3)] [(3, rtA 0 3 1 (eI .i64) v6)] _
      refine AW.region ?_
      obtain ⟨g8, H⟩ := G_some H
      refine OpsW.seg 3 [5, 0, 3, 4] [inR (v3 + (1 : Int))] [(5, .int .i64 (v3 + (1 : Int))), (0, slA (eI .i64) t0), (3, .rsl 3 0 0 v6.length), (4, .int .i64 v7)] (by kernel_rfl) ⟨g8, trivial⟩ ?_
      refine OpsW.nil ?_
      show ∃ y, _ ∧ StC _ _ _ _
      exact ⟨(v6, v7, v3 + (1 : Int)), H, (StC.mk (phi [(3, some 3)]) (.old rfl rfl rfl rfl rfl (CstL.ims _) .nil) rfl (.cons .im (.cons (.rsl rfl rfl rfl rfl rfl rfl) (.cons .im (.cons .im .nil)))))⟩
  · replace H := condF c5 H
    refine AW.exit ?_
    refine AW.regionSeq ?_
    refine OpsW.seg 2 [2] [] [(2, .rsl 3 0 0 v1.length)] (by kernel_rfl) trivial ?_
    refine OpsW.recast (env' := [(2, slA (eI .i64) v1)]) (h' := []) (StC.mk (phi []) .nil rfl (.cons (.frz rfl rfl rfl (frz_all (eI .i64) 1 (fun _ => rfl) v1) (fm_length (eI .i64) 1 (fun _ => rfl) v1) (phi_ne rfl)) .nil)) ?_
    refine OpsW.nil ?_
    obtain rfl := Option.some.inj H
    refine AW.recast (env' := [(2, slA (eI .i64) v1)]) (h' := []) (StC.pure (.cons .im .nil)) ?_
    refine AW.ret ?_
    try simp only [Ex.then, Ex.inBlock, Ex.noGoto, Ex.jump, reduceIte, Nat.reduceEqDiff, reduceCtorEq]
    refine Done.gen rfl (.tmp .nil) ?_
    show _ = _
    kernel_rfl
def f_R22_After_b1 (t0 : List Int) (x3 : List Int) (loop7 : ((List Int) × Int) → Option (List Int)) (v5 : List Int) (v6 : Int) : Option (List Int) :=
  G ((decide (v6 < (t0.length : Int))) = true → (0 ≤ v6 ∧ v6 < (t0.length : Int))) <|
  cond (cond (decide (v6 < (t0.length : Int))) ((t0.getD v6.toNat (0 : Int)) == (4 : Int)) false) (
    G (0 ≤ v6 ∧ v6 < (x3.length : Int)) <|
    G (room 8 (v5.length + 1)) <|
    G (inR (v6 + (1 : Int))) <|
    loop7 (v5 ++ [x3.getD v6.toNat (0 : Int)], v6 + (1 : Int))) (
    some v5)
def f_R22_After (t0 : List Int) (t1 : Int) : Option (List Int) :=
  G ((!(cond (decide (t1 < (0 : Int))) true (decide ((t0.length : Int) ≤ t1)))) = true → (0 ≤ t1 ∧ t1 < (t0.length : Int))) <|
  cond (cond (cond (decide (t1 < (0 : Int))) true (decide ((t0.length : Int) ≤ t1))) true ((t0.getD t1.toNat (0 : Int)) == (4 : Int))) (
    some ([] : List Int)) (
    (f_R22_Numbers t0).bind fun x3 =>
    G (inR (t1 + (1 : Int))) <|
    iter (fun loop (s : (List Int) × Int) => f_R22_After_b1 t0 x3 loop s.1 s.2) 1000000 (([] : List Int), t1 + (1 : Int)))
theorem f_R22_After_ok {t0 : List Int} {t1 : Int} {r : List Int} (H : f_R22_After t0 t1 = some r) : QSpec Tryd.prog 14 [slA (eI .i64) t0, .int .i64 t1] (slA (eI .i64) r) := by
  refine Spec.of_AW Tryd.func14 rfl (by simp [Tryd.ntmps14]) ?_
  rw [Tryd.ntmps14]
  unfold f_R22_After at H
  change AW _ _ _ [(0, slA (eI .i64) t0), (1, .int .i64 t1)] [] _
  refine AW.regionSeq ?_
  refine OpsW.seg 1 [0, 1] [] [(0, slA (eI .i64) t0), (1, .int .i64 t1)] (by kernel_rfl) trivial ?_
  refine OpsW.nil ?_
  refine AW.regionSeq ?_
  refine OpsW.buildT (enc := eI .i64) ([] : List Int) rfl rfl rfl 8 rfl E23 (fun _ => rfl) (by decide) trivial (by kernel_rfl) (by kernel_rfl) (by kernel_rfl) rfl ?_
  refine OpsW.seg 1 [5, 0, 1] [] [(5, .rsl 8 0 0 (([] : List Int).length)), (0, slA (eI .i64) t0), (1, .int .i64 t1)] (by kernel_rfl) trivial ?_
  refine OpsW.recast (env' := [(5, .rsl 5 0 0 (([] : List Int).length)), (0, slA (eI .i64) t0), (1, .int .i64 t1)]) (h' := [(5, rtA 0 3 1 (eI .i64) ([] : List Int))]) (StC.mk (phi [(5, some 8)]) (.old rfl rfl rfl rfl rfl (CstL.ims _) .nil) rfl (.cons (.rsl rfl rfl rfl rfl rfl rfl) (.cons .im (.cons .im .nil)))) ?_
  refine OpsW.nil ?_
  refine AW.seq ?_
  refine AW.regionSeq ?_
  obtain ⟨g1, H⟩ := G_some H
  refine OpsW.seg 12 [20, 17, 5, 0, 1] [(!(decide (t1 < (0 : Int)))) = true → (!(decide (t1 < (0 : Int)))) = true, (!(decide (t1 < (0 : Int)))) = true → (!(decide (t1 < (0 : Int)))) = true, (!(decide (t1 < (0 : Int)))) = true → (!(decide (t1 < (0 : Int)))) = true, (decide (t1 < (0 : Int))) = false → (!(decide (t1 < (0 : Int)))) = true, (!(cond (decide (t1 < (0 : Int))) true (decide ((t0.length : Int) ≤ t1)))) = true → (!(cond (decide (t1 < (0 : Int))) true (decide ((t0.length : Int) ≤ t1)))) = true, (!(cond (decide (t1 < (0 : Int))) true (decide ((t0.length : Int) ≤ t1)))) = true → (!(cond (decide (t1 < (0 : Int))) true (decide ((t0.length : Int) ≤ t1)))) = true, (!(cond (decide (t1 < (0 : Int))) true (decide ((t0.length : Int) ≤ t1)))) = true → (0 ≤ t1 ∧ t1 < (t0.length : Int))] [(20, .cnd (!(cond (decide (t1 < (0 : Int))) true (decide ((t0.length : Int) ≤ t1)))) (.ipt (t0.flatMap (eI .i64)) (t1.toNat * 1))), (17, .bool (cond (decide (t1 < (0 : Int))) true (decide ((t0.length : Int) ≤ t1)))), (5, .rsl 5 0 0 (([] : List Int).length)), (0, slA (eI .i64) t0), (1, .int .i64 t1)] (by kernel_rfl) ⟨(fun h => h), (fun h => h), (fun h => h), (fun h => by first | exact h | simpa using h), (fun h => h), (fun h => h), g1, trivial⟩ ?_
  refine OpsW.asG (c := !(cond (decide (t1 < (0 : Int))) true (decide ((t0.length : Int) ≤ t1)))) (.int .i64 (t0.getD t1.toNat (0 : Int))) rfl rfl rfl rfl (fun hc => T.load rfl hc (by kernel_rfl) (fm_cell0 (eI .i64) 1 (fun _ => rfl) t0 (0 : Int) t1.toNat (ltN (g1 hc)) (fun a => .val (.int .i64 a)) (fun _ => rfl))) ?_
  refine OpsW.seg 2 [23, 5, 0, 1] [(!(cond (decide (t1 < (0 : Int))) true (decide ((t0.length : Int) ≤ t1)))) = true → (!(cond (decide (t1 < (0 : Int))) true (decide ((t0.length : Int) ≤ t1)))) = true, (cond (decide (t1 < (0 : Int))) true (decide ((t0.length : Int) ≤ t1))) = false → (!(cond (decide (t1 < (0 : Int))) true (decide ((t0.length : Int) ≤ t1)))) = true] [(23, .bool (cond (cond (decide (t1 < (0 : Int))) true (decide ((t0.length : Int) ≤ t1))) true ((t0.getD t1.toNat (0 : Int)) == (4 : Int)))), (5, .rsl 5 0 0 (([] : List Int).length)), (0, slA (eI .i64) t0), (1, .int .i64 t1)] (by kernel_rfl) ⟨(fun h => h), (fun h => by first | exact h | simpa using h), trivial⟩ ?_
  refine OpsW.nil ?_
  refine AW.cond (b := cond (cond (decide (t1 < (0 : Int))) true (decide ((t0.length : Int) ≤ t1))) true ((t0.getD t1.toNat (0 : Int)) == (4 : Int))) rfl (fun c2 => ?_) (fun c2 => ?_)
  · replace H := condT c2 H
    refine AW.regionSeq ?_
    refine OpsW.seg 2 [4] [] [(4, .rsl 5 0 0 (([] : List Int).length))] (by kernel_rfl) trivial ?_
    refine OpsW.recast (env' := [(4, slA (eI .i64) ([] : List Int))]) (h' := []) (StC.mk (phi []) .nil rfl (.cons (.frz rfl rfl rfl (frz_all (eI .i64) 1 (fun _ => rfl) ([] : List Int)) (fm_length (eI .i64) 1 (fun _ => rfl) ([] : List Int)) (phi_ne rfl)) .nil)) ?_
    refine OpsW.nil ?_
    obtain rfl := Option.some.inj H
    refine AW.recast (env' := [(4, slA (eI .i64) ([] : List Int))]) (h' := []) (StC.pure (.cons .im .nil)) ?_
    refine AW.ret ?_
    try simp only [Ex.then, Ex.inBlock, Ex.noGoto, Ex.jump, reduceIte, Nat.reduceEqDiff, reduceCtorEq]
    refine Done.gen rfl (.tmp .nil) ?_
    show _ = _
    kernel_rfl
  · replace H := condF c2 H
    refine AW.skip ?_
    refine AW.regionSeq ?_
    refine OpsW.seg 1 [25, 5, 0, 1] [] [(25, slA (eI .i64) t0), (5, .rsl 5 0 0 (([] : List Int).length)), (0, slA (eI .i64) t0), (1, .int .i64 t1)] (by kernel_rfl) trivial ?_
    obtain ⟨x3, hx3, H⟩ := bindS H
    refine OpsW.qcall rfl (by kernel_rfl) rfl rfl (glAll_sound trivial) (.cons (.pur rfl) .nil) (f_R22_Numbers_ok hx3) rfl ?_
    refine OpsW.seg 1 [6, 5, 0, 1] [] [(6, slA (eI .i64) x3), (5, .rsl 5 0 0 (([] : List Int).length)), (0, slA (eI .i64) t0), (1, .int .i64 t1)] (by kernel_rfl) trivial ?_
    refine OpsW.nil ?_
    refine AW.seq ?_
    refine AW.regionSeq ?_
    obtain ⟨g4, H⟩ := G_some H
    refine OpsW.seg 3 [7, 6, 5, 0] [inR (t1 + (1 : Int))] [(7, .int .i64 (t1 + (1 : Int))), (6, slA (eI .i64) x3), (5, .rsl 5 0 0 (([] : List Int).length)), (0, slA (eI .i64) t0)] (by kernel_rfl) ⟨g4, trivial⟩ ?_
    refine OpsW.nil ?_
    refine AW.block ?_
    refine AW.iterK (fun loop (s : (List Int) × Int) => f_R22_After_b1 t0 x3 loop s.1 s.2) r (fun (s : (List Int) × Int) => [(0, slA (eI .i64) t0), (5, .rsl 5 0 0 s.1.length), (6, slA (eI .i64) x3), (7, .int .i64 s.2)]) (fun (s : (List Int) × Int) => [(5, rtA 0 3 1 (eI .i64) s.1)]) ?_ 1000000 (([] : List Int), t1 + (1 : Int)) H (StC.mk (phi [(5, some 5)]) (.old rfl rfl rfl rfl rfl (CstL.ims _) .nil) rfl (.cons .im (.cons (.rsl rfl rfl rfl rfl rfl rfl) (.cons .im (.cons .im .nil)))))
    intro loop7 s H
    obtain ⟨v5, v6⟩ := s
    change f_R22_After_b1 t0 x3 loop7 v5 v6 = some r at H
    unfold f_R22_After_b1 at H
    change AW _ _ _ [(0, slA (eI .i64) t0), (5, .rsl 5 0 0 v5.length), (6, slA (eI .i64) x3), (7, .int .i64 v6)] [(5, rtA 0 3 1 (eI .i64) v5)] _
    refine AW.seq ?_
    refine AW.regionSeq ?_
    obtain ⟨g8, H⟩ := G_some H
    refine OpsW.seg 8 [36, 33, 0, 5, 6, 7] [(decide (v6 < (t0.length : Int))) = true → (decide (v6 < (t0.length : Int))) = true, (decide (v6 < (t0.length : Int))) = true → (decide (v6 < (t0.length : Int))) = true, (decide (v6 < (t0.length : Int))) = true → (0 ≤ v6 ∧ v6 < (t0.length : Int))] [(36, .cnd (decide (v6 < (t0.length : Int))) (.ipt (t0.flatMap (eI .i64)) (v6.toNat * 1))), (33, .bool (decide (v6 < (t0.length : Int)))), (0, slA (eI .i64) t0), (5, .rsl 5 0 0 v5.length), (6, slA (eI .i64) x3), (7, .int .i64 v6)] (by kernel_rfl) ⟨(fun h => h), (fun h => h), g8, trivial⟩ ?_
    refine OpsW.asG (c := decide (v6 < (t0.length : Int))) (.int .i64 (t0.getD v6.toNat (0 : Int))) rfl rfl rfl rfl (fun hc => T.load rfl hc (by kernel_rfl) (fm_cell0 (eI .i64) 1 (fun _ => rfl) t0 (0 : Int) v6.toNat (ltN (g8 hc)) (fun a => .val (.int .i64 a)) (fun _ => rfl))) ?_
    refine OpsW.seg 2 [39, 0, 5, 6, 7] [(decide (v6 < (t0.length : Int))) = true → (decide (v6 < (t0.length : Int))) = true, (decide (v6 < (t0.length : Int))) = true → (decide (v6 < (t0.length : Int))) = true] [(39, .bool (cond (decide (v6 < (t0.length : Int))) ((t0.getD v6.toNat (0 : Int)) == (4 : Int)) false)), (0, slA (eI .i64) t0), (5, .rsl 5 0 0 v5.length), (6, slA (eI .i64) x3), (7, .int .i64 v6)] (by kernel_rfl) ⟨(fun h => h), (fun h => by first | exact h | simpa using h), trivial⟩ ?_
    refine OpsW.nil ?_
    refine AW.cond (b := cond (decide (v6 < (t0.length : Int))) ((t0.getD v6.toNat (0 : Int)) == (4 : Int)) false) rfl (fun c9 => ?_) (fun c9 => ?_)
    · replace H := condT c9 H
      refine AW.skip ?_
      refine AW.seq ?_
      refine AW.block ?_
      refine AW.region ?_
      obtain ⟨g10, H⟩ := G_some H
      refine OpsW.seg 4 [45, 42, 0, 5, 6, 7] [0 ≤ v6 ∧ v6 < (x3.length : Int)] [(45, .ipt (x3.flatMap (eI .i64)) (v6.toNat * 1)), (42, .rsl 5 0 0 v5.length), (0, slA (eI .i64) t0), (5, .rsl 5 0 0 v5.length), (6, slA (eI .i64) x3), (7, .int .i64 v6)] (by kernel_rfl) ⟨g10, trivial⟩ ?_
      refine OpsW.asU (.int .i64 (x3.getD v6.toNat (0 : Int))) rfl rfl (T.load rfl trivial (by kernel_rfl) (fm_cell0 (eI .i64) 1 (fun _ => rfl) x3 (0 : Int) v6.toNat (ltN g10) (fun a => .val (.int .i64 a)) (fun _ => rfl))) ?_
      obtain ⟨g11, H⟩ := G_some H
      refine OpsW.appendLF (enc := eI .i64) [x3.getD v6.toNat (0 : Int)] rfl rfl rfl (by decide) rfl rfl rfl (by simp) E23 (fun _ => rfl) (by decide) trivial (by kernel_rfl) (by kernel_rfl) (by kernel_rfl) rfl rfl rfl g11 ?_
      refine OpsW.seg 1 [5, 0, 6, 7] [] [(5, .rsl 5 1 0 ((v5 ++ [x3.getD v6.toNat (0 : Int)]).length)), (0, slA (eI .i64) t0), (6, slA (eI .i64) x3), (7, .int .i64 v6)] (by kernel_rfl) trivial ?_
      refine OpsW.recast (env' := [(5, .rsl 5 0 0 ((v5 ++ [x3.getD v6.toNat (0 : Int)]).length)), (0, slA (eI .i64) t0), (6, slA (eI .i64) x3), (7, .int .i64 v6)]) (h' := [(5, rtA 0 3 1 (eI .i64) (v5 ++ [x3.getD v6.toNat (0 : Int)]))]) (StC.mk (phi [(5, some 5)]) (.old rfl rfl rfl rfl rfl (CstL.ims _) .nil) rfl (.cons (.rsl rfl rfl rfl rfl rfl rfl) (.cons .im (.cons .im (.cons .im .nil))))) ?_
      refine OpsW.nil ?_
      refine AW.region ?_
      obtain ⟨g12, H⟩ := G_some H
      refine OpsW.seg 3 [7, 5, 0, 6] [inR (v6 + (1 : Int))] [(7, .int .i64 (v6 + (1 : Int))), (5, .rsl 5 0 0 ((v5 ++ [x3.getD v6.toNat (0 : Int)]).length)), (0, slA (eI .i64) t0), (6, slA (eI .i64) x3)] (by kernel_rfl) ⟨g12, trivial⟩ ?_
      refine OpsW.nil ?_
      show ∃ y, _ ∧ StC _ _ _ _
      exact ⟨(v5 ++ [x3.getD v6.toNat (0 : Int)], v6 + (1 : Int)), H, (StC.mk (phi [(5, some 5)]) (.old rfl rfl rfl rfl rfl (CstL.ims _) .nil) rfl (.cons .im (.cons (.rsl rfl rfl rfl rfl rfl rfl) (.cons .im (.cons .im .nil)))))⟩
    · replace H := condF c9 H
      refine AW.exit ?_
      refine AW.regionSeq ?_
      refine OpsW.seg 2 [4] [] [(4, .rsl 5 0 0 v5.length)] (by kernel_rfl) trivial ?_
      refine OpsW.recast (env' := [(4, slA (eI .i64) v5)]) (h' := []) (StC.mk (phi []) .nil rfl (.cons (.frz rfl rfl rfl (frz_all (eI .i64) 1 (fun _ => rfl) v5) (fm_length (eI .i64) 1 (fun _ => rfl) v5) (phi_ne rfl)) .nil)) ?_
      refine OpsW.nil ?_
      obtain rfl := Option.some.inj H
      refine AW.recast (env' := [(4, slA (eI .i64) v5)]) (h' := []) (StC.pure (.cons .im .nil)) ?_
      refine AW.ret ?_
      try simp only [Ex.then, Ex.inBlock, Ex.noGoto, Ex.jump, reduceIte, Nat.reduceEqDiff, reduceCtorEq]
      refine Done.gen rfl (.tmp .nil) ?_
      show _ = _
      kernel_rfl
def f_R22_Made_k1 (loop3 : ((List Int) × Int) → Option (List Int)) (v2 : Int) (v5 : List Int) : Option (List Int) :=
  G (inR (v2 + (1 : Int))) <|
  loop3 (v5, v2 + (1 : Int))
def f_R22_Made_b1 (t0 : List (List Int)) (loop3 : ((List Int) × Int) → Option (List Int)) (v2 : Int) (loop12 : ((List Int) × Int) → Option (List Int)) (v10 : List Int) (v11 : Int) : Option (List Int) :=
  cond (cond (decide (v11 < ((t0.getD v2.toNat []).length : Int))) (decide (v11 < (4 : Int))) false) (
    G (0 ≤ v11 ∧ v11 < ((t0.getD v2.toNat []).length : Int)) <|
    G (room 1 (v10.length + 1)) <|
    G (inR (v11 + (1 : Int))) <|
    loop12 (v10 ++ [IntKind.wrap .u8 ((1 : Int) + (Int.tmod ((t0.getD v2.toNat []).getD v11.toNat (0 : Int)) (62 : Int)))], v11 + (1 : Int))) (
    f_R22_Made_k1 loop3 v2 v10)
def f_R22_Made_k2 (t0 : List (List Int)) (loop3 : ((List Int) × Int) → Option (List Int)) (v2 : Int) (v9 : List Int) : Option (List Int) :=
  iter (fun loop (s : (List Int) × Int) => f_R22_Made_b1 t0 loop3 v2 loop s.1 s.2) 1000000 (v9, (0 : Int))
def f_R22_Made_b2 (t0 : List (List Int)) (t1 : Int) (loop3 : ((List Int) × Int) → Option (List Int)) (v1 : List Int) (v2 : Int) : Option (List Int) :=
  cond (cond (decide (v2 < (t0.length : Int))) (decide (v2 < t1)) false) (
    G (0 ≤ v2 ∧ v2 < (t0.length : Int)) <|
    cond (((t0.getD v2.toNat []).length : Int) == (0 : Int)) (
      f_R22_Made_k1 loop3 v2 v1) (
      cond (decide ((0 : Int) < v2)) (
        G (room 1 (v1.length + 1)) <|
        f_R22_Made_k2 t0 loop3 v2 (v1 ++ [(0 : Int)])) (
        f_R22_Made_k2 t0 loop3 v2 v1))) (
    some v1)
def f_R22_Made (t0 : List (List Int)) (t1 : Int) : Option (List Int) :=
  iter (fun loop (s : (List Int) × Int) => f_R22_Made_b2 t0 t1 loop s.1 s.2) 1000000 ([IntKind.wrap .u8 ((1 : Int) + (Int.tmod (IntKind.wrap .u8 (t0.length : Int)) (61 : Int)))], (0 : Int))
theorem f_R22_Made_ok {t0 : List (List Int)} {t1 : Int} {r : List Int} (H : f_R22_Made t0 t1 = some r) : QSpec Tryd.prog 15 [slA (eL (eI .u8)) t0, .int .i64 t1] (slA (eI .u8) r) := by
  refine Spec.of_AW Tryd.func15 rfl (by simp [Tryd.ntmps15]) ?_
  rw [Tryd.ntmps15]
  unfold f_R22_Made at H
  change AW _ _ _ [(0, slA (eL (eI .u8)) t0), (1, .int .i64 t1)] [] _
  refine AW.regionSeq ?_
  refine OpsW.seg 1 [0, 1] [] [(0, slA (eL (eI .u8)) t0), (1, .int .i64 t1)] (by kernel_rfl) trivial ?_
  refine OpsW.nil ?_
  refine AW.regionSeq ?_
  refine OpsW.seg 5 [12, 0, 1] [(61 : Int) ≠ 0] [(12, .int .u8 (IntKind.wrap .u8 ((1 : Int) + (Int.tmod (IntKind.wrap .u8 (t0.length : Int)) (61 : Int))))), (0, slA (eL (eI .u8)) t0), (1, .int .i64 t1)] (by kernel_rfl) ⟨(by decide), trivial⟩ ?_
  refine OpsW.buildT (enc := eI .u8) [IntKind.wrap .u8 ((1 : Int) + (Int.tmod (IntKind.wrap .u8 (t0.length : Int)) (61 : Int)))] rfl rfl rfl 13 rfl E34 (fun _ => rfl) (by decide) trivial (by kernel_rfl) (by kernel_rfl) (by kernel_rfl) rfl ?_
  refine OpsW.seg 1 [5, 0, 1] [] [(5, .rsl 13 0 0 ([IntKind.wrap .u8 ((1 : Int) + (Int.tmod (IntKind.wrap .u8 (t0.length : Int)) (61 : Int)))].length)), (0, slA (eL (eI .u8)) t0), (1, .int .i64 t1)] (by kernel_rfl) trivial ?_
  refine OpsW.recast (env' := [(5, .rsl 5 0 0 ([IntKind.wrap .u8 ((1 : Int) + (Int.tmod (IntKind.wrap .u8 (t0.length : Int)) (61 : Int)))].length)), (0, slA (eL (eI .u8)) t0), (1, .int .i64 t1)]) (h' := [(5, rtA 0 43 1 (eI .u8) [IntKind.wrap .u8 ((1 : Int) + (Int.tmod (IntKind.wrap .u8 (t0.length : Int)) (61 : Int)))])]) (StC.mk (phi [(5, some 13)]) (.old rfl rfl rfl rfl rfl (CstL.ims _) .nil) rfl (.cons (.rsl rfl rfl rfl rfl rfl rfl) (.cons .im (.cons .im .nil)))) ?_
  refine OpsW.nil ?_
  refine AW.seq ?_
  refine AW.regionSeq ?_
  refine OpsW.seg 1 [6, 5, 0, 1] [] [(6, .int .i64 (0 : Int)), (5, .rsl 5 0 0 ([IntKind.wrap .u8 ((1 : Int) + (Int.tmod (IntKind.wrap .u8 (t0.length : Int)) (61 : Int)))].length)), (0, slA (eL (eI .u8)) t0), (1, .int .i64 t1)] (by kernel_rfl) trivial ?_
  refine OpsW.nil ?_
  refine AW.block ?_
  refine AW.iterK (fun loop (s : (List Int) × Int) => f_R22_Made_b2 t0 t1 loop s.1 s.2) r (fun (s : (List Int) × Int) => [(0, slA (eL (eI .u8)) t0), (1, .int .i64 t1), (5, .rsl 5 0 0 s.1.length), (6, .int .i64 s.2)]) (fun (s : (List Int) × Int) => [(5, rtA 0 43 1 (eI .u8) s.1)]) ?_ 1000000 ([IntKind.wrap .u8 ((1 : Int) + (Int.tmod (IntKind.wrap .u8 (t0.length : Int)) (61 : Int)))], (0 : Int)) H (StC.mk (phi [(5, some 5)]) (.old rfl rfl rfl rfl rfl (CstL.ims _) .nil) rfl (.cons .im (.cons .im (.cons (.rsl rfl rfl rfl rfl rfl rfl) (.cons .im .nil)))))
  intro loop3 s H
  obtain ⟨v1, v2⟩ := s
  change f_R22_Made_b2 t0 t1 loop3 v1 v2 = some r at H
  unfold f_R22_Made_b2 at H
  change AW _ _ _ [(0, slA (eL (eI .u8)) t0), (1, .int .i64 t1), (5, .rsl 5 0 0 v1.length), (6, .int .i64 v2)] [(5, rtA 0 43 1 (eI .u8) v1)] _
  refine AW.seq ?_
  refine AW.regionSeq ?_
  refine OpsW.seg 9 [22, 0, 1, 5, 6] [(decide (v2 < (t0.length : Int))) = true → (decide (v2 < (t0.length : Int))) = true, (decide (v2 < (t0.length : Int))) = true → (decide (v2 < (t0.length : Int))) = true, (decide (v2 < (t0.length : Int))) = true → (decide (v2 < (t0.length : Int))) = true] [(22, .bool (cond (decide (v2 < (t0.length : Int))) (decide (v2 < t1)) false)), (0, slA (eL (eI .u8)) t0), (1, .int .i64 t1), (5, .rsl 5 0 0 v1.length), (6, .int .i64 v2)] (by kernel_rfl) ⟨(fun h => h), (fun h => h), (fun h => by first | exact h | simpa using h), trivial⟩ ?_
  refine OpsW.nil ?_
  refine AW.cond (b := cond (decide (v2 < (t0.length : Int))) (decide (v2 < t1)) false) rfl (fun c4 => ?_) (fun c4 => ?_)
  · replace H := condT c4 H
    refine AW.skip ?_
    refine AW.joinK (fun (y : (List Int)) => f_R22_Made_k1 loop3 v2 y) r (fun (y : (List Int)) => [(0, slA (eL (eI .u8)) t0), (1, .int .i64 t1), (5, .rsl 5 0 0 y.length), (6, .int .i64 v2)]) (fun (y : (List Int)) => [(5, rtA 0 43 1 (eI .u8) y)]) ?_ ?_
    · refine AW.block ?_
      refine AW.seq ?_
      refine AW.regionSeq ?_
      obtain ⟨g7, H⟩ := G_some H
      refine OpsW.seg 3 [27, 0, 1, 5, 6] [0 ≤ v2 ∧ v2 < (t0.length : Int)] [(27, .ipt (t0.flatMap (eL (eI .u8))) (v2.toNat * 1)), (0, slA (eL (eI .u8)) t0), (1, .int .i64 t1), (5, .rsl 5 0 0 v1.length), (6, .int .i64 v2)] (by kernel_rfl) ⟨g7, trivial⟩ ?_
      refine OpsW.asU (slA (eI .u8) (t0.getD v2.toNat [])) rfl rfl (T.load rfl trivial (by kernel_rfl) (fm_cell0 (eL (eI .u8)) 1 (fun _ => rfl) t0 [] v2.toNat (ltN g7) (fun a => .sl (a.flatMap (eI .u8)) a.length) (fun _ => rfl))) ?_
      refine OpsW.seg 2 [30, 0, 1, 5, 6] [] [(30, .bool (((t0.getD v2.toNat []).length : Int) == (0 : Int))), (0, slA (eL (eI .u8)) t0), (1, .int .i64 t1), (5, .rsl 5 0 0 v1.length), (6, .int .i64 v2)] (by kernel_rfl) trivial ?_
      refine OpsW.nil ?_
      refine AW.cond (b := ((t0.getD v2.toNat []).length : Int) == (0 : Int)) rfl (fun c8 => ?_) (fun c8 => ?_)
      · replace H := condT c8 H
        refine AW.exit ?_
        show ∃ y, _ ∧ StC _ _ _ _
        exact ⟨v1, H, (StC.mk (phi [(5, some 5)]) (.old rfl rfl rfl rfl rfl (CstL.ims _) .nil) rfl (.cons .im (.cons .im (.cons (.rsl rfl rfl rfl rfl rfl rfl) (.cons .im .nil)))))⟩
      · replace H := condF c8 H
        refine AW.skip ?_
        refine AW.joinK (fun (y : (List Int)) => f_R22_Made_k2 t0 loop3 v2 y) r (fun (y : (List Int)) => [(0, slA (eL (eI .u8)) t0), (1, .int .i64 t1), (5, .rsl 5 0 0 y.length), (6, .int .i64 v2)]) (fun (y : (List Int)) => [(5, rtA 0 43 1 (eI .u8) y)]) ?_ ?_
        · refine AW.regionSeq ?_
          refine OpsW.seg 2 [32, 0, 1, 5, 6] [] [(32, .bool (decide ((0 : Int) < v2))), (0, slA (eL (eI .u8)) t0), (1, .int .i64 t1), (5, .rsl 5 0 0 v1.length), (6, .int .i64 v2)] (by kernel_rfl) trivial ?_
          refine OpsW.nil ?_
          refine AW.cond (b := decide ((0 : Int) < v2)) rfl (fun c17 => ?_) (fun c17 => ?_)
          · replace H := condT c17 H
            refine AW.region ?_
            refine OpsW.seg 1 [33, 0, 1, 5, 6] [] [(33, .rsl 5 0 0 v1.length), (0, slA (eL (eI .u8)) t0), (1, .int .i64 t1), (5, .rsl 5 0 0 v1.length), (6, .int .i64 v2)] (by kernel_rfl) trivial ?_
            obtain ⟨g18, H⟩ := G_some H
            refine OpsW.appendLF (enc := eI .u8) [(0 : Int)] rfl rfl rfl (by decide) rfl rfl rfl (by simp) E34 (fun _ => rfl) (by decide) trivial (by kernel_rfl) (by kernel_rfl) (by kernel_rfl) rfl rfl rfl g18 ?_
            refine OpsW.seg 1 [5, 0, 1, 6] [] [(5, .rsl 5 1 0 ((v1 ++ [(0 : Int)]).length)), (0, slA (eL (eI .u8)) t0), (1, .int .i64 t1), (6, .int .i64 v2)] (by kernel_rfl) trivial ?_
            refine OpsW.recast (env' := [(5, .rsl 5 0 0 ((v1 ++ [(0 : Int)]).length)), (0, slA (eL (eI .u8)) t0), (1, .int .i64 t1), (6, .int .i64 v2)]) (h' := [(5, rtA 0 43 1 (eI .u8) (v1 ++ [(0 : Int)]))]) (StC.mk (phi [(5, some 5)]) (.old rfl rfl rfl rfl rfl (CstL.ims _) .nil) rfl (.cons (.rsl rfl rfl rfl rfl rfl rfl) (.cons .im (.cons .im (.cons .im .nil))))) ?_
            refine OpsW.nil ?_
            show ∃ y, _ ∧ StC _ _ _ _
            exact ⟨v1 ++ [(0 : Int)], H, (StC.mk (phi [(5, some 5)]) (.old rfl rfl rfl rfl rfl (CstL.ims _) .nil) rfl (.cons .im (.cons .im (.cons (.rsl rfl rfl rfl rfl rfl rfl) (.cons .im .nil)))))⟩
          · replace H := condF c17 H
            refine AW.skip ?_
            show ∃ y, _ ∧ StC _ _ _ _
            exact ⟨v1, H, (StC.mk (phi [(5, some 5)]) (.old rfl rfl rfl rfl rfl (CstL.ims _) .nil) rfl (.cons .im (.cons .im (.cons (.rsl rfl rfl rfl rfl rfl rfl) (.cons .im .nil)))))⟩
        · intro v9 H
          change f_R22_Made_k2 t0 loop3 v2 v9 = some r at H
          unfold f_R22_Made_k2 at H
          change AW _ _ _ [(0, slA (eL (eI .u8)) t0), (1, .int .i64 t1), (5, .rsl 5 0 0 v9.length), (6, .int .i64 v2)] [(5, rtA 0 43 1 (eI .u8) v9)] _
          refine AW.regionSeq ?_
          refine OpsW.seg 1 [7, 0, 1, 5, 6] [] [(7, .int .i64 (0 : Int)), (0, slA (eL (eI .u8)) t0), (1, .int .i64 t1), (5, .rsl 5 0 0 v9.length), (6, .int .i64 v2)] (by kernel_rfl) trivial ?_
          refine OpsW.nil ?_
          refine AW.block ?_
          refine AW.iterK (fun loop (s : (List Int) × Int) => f_R22_Made_b1 t0 loop3 v2 loop s.1 s.2) r (fun (s : (List Int) × Int) => [(0, slA (eL (eI .u8)) t0), (1, .int .i64 t1), (5, .rsl 5 0 0 s.1.length), (6, .int .i64 v2), (7, .int .i64 s.2)]) (fun (s : (List Int) × Int) => [(5, rtA 0 43 1 (eI .u8) s.1)]) ?_ 1000000 (v9, (0 : Int)) H (StC.mk (phi [(5, some 5)]) (.old rfl rfl rfl rfl rfl (CstL.ims _) .nil) rfl (.cons .im (.cons .im (.cons (.rsl rfl rfl rfl rfl rfl rfl) (.cons .im (.cons .im .nil))))))
          intro loop12 s H
          obtain ⟨v10, v11⟩ := s
          change f_R22_Made_b1 t0 loop3 v2 loop12 v10 v11 = some r at H
          unfold f_R22_Made_b1 at H
          change AW _ _ _ [(0, slA (eL (eI .u8)) t0), (1, .int .i64 t1), (5, .rsl 5 0 0 v10.length), (6, .int .i64 v2), (7, .int .i64 v11)] [(5, rtA 0 43 1 (eI .u8) v10)] _
          refine AW.seq ?_
          refine AW.regionSeq ?_
          refine OpsW.seg 4 [39, 36, 0, 1, 5, 6, 7] [0 ≤ v2 ∧ v2 < (t0.length : Int)] [(39, .ipt (t0.flatMap (eL (eI .u8))) (v2.toNat * 1)), (36, .int .i64 v11), (0, slA (eL (eI .u8)) t0), (1, .int .i64 t1), (5, .rsl 5 0 0 v10.length), (6, .int .i64 v2), (7, .int .i64 v11)] (by kernel_rfl) ⟨g7, trivial⟩ ?_
          refine OpsW.asU (slA (eI .u8) (t0.getD v2.toNat [])) rfl rfl (T.load rfl trivial (by kernel_rfl) (fm_cell0 (eL (eI .u8)) 1 (fun _ => rfl) t0 [] v2.toNat (ltN g7) (fun a => .sl (a.flatMap (eI .u8)) a.length) (fun _ => rfl))) ?_
          refine OpsW.seg 6 [46, 0, 1, 5, 6, 7] [(decide (v11 < ((t0.getD v2.toNat []).length : Int))) = true → (decide (v11 < ((t0.getD v2.toNat []).length : Int))) = true, (decide (v11 < ((t0.getD v2.toNat []).length : Int))) = true → (decide (v11 < ((t0.getD v2.toNat []).length : Int))) = true] [(46, .bool (cond (decide (v11 < ((t0.getD v2.toNat []).length : Int))) (decide (v11 < (4 : Int))) false)), (0, slA (eL (eI .u8)) t0), (1, .int .i64 t1), (5, .rsl 5 0 0 v10.length), (6, .int .i64 v2), (7, .int .i64 v11)] (by kernel_rfl) ⟨(fun h => h), (fun h => by first | exact h | simpa using h), trivial⟩ ?_
          refine OpsW.nil ?_
          refine AW.cond (b := cond (decide (v11 < ((t0.getD v2.toNat []).length : Int))) (decide (v11 < (4 : Int))) false) rfl (fun c13 => ?_) (fun c13 => ?_)
          · replace H := condT c13 H
            refine AW.skip ?_
            refine AW.seq ?_
            refine AW.block ?_
            refine AW.region ?_
            refine OpsW.seg 4 [52, 49, 0, 1, 5, 6, 7] [0 ≤ v2 ∧ v2 < (t0.length : Int)] [(52, .ipt (t0.flatMap (eL (eI .u8))) (v2.toNat * 1)), (49, .rsl 5 0 0 v10.length), (0, slA (eL (eI .u8)) t0), (1, .int .i64 t1), (5, .rsl 5 0 0 v10.length), (6, .int .i64 v2), (7, .int .i64 v11)] (by kernel_rfl) ⟨g7, trivial⟩ ?_
            refine OpsW.asU (slA (eI .u8) (t0.getD v2.toNat [])) rfl rfl (T.load rfl trivial (by kernel_rfl) (fm_cell0 (eL (eI .u8)) 1 (fun _ => rfl) t0 [] v2.toNat (ltN g7) (fun a => .sl (a.flatMap (eI .u8)) a.length) (fun _ => rfl))) ?_
            obtain ⟨g14, H⟩ := G_some H
            refine OpsW.seg 2 [55, 49, 0, 1, 5, 6, 7] [0 ≤ v11 ∧ v11 < ((t0.getD v2.toNat []).length : Int)] [(55, .ipt ((t0.getD v2.toNat []).flatMap (eI .u8)) (v11.toNat * 1)), (49, .rsl 5 0 0 v10.length), (0, slA (eL (eI .u8)) t0), (1, .int .i64 t1), (5, .rsl 5 0 0 v10.length), (6, .int .i64 v2), (7, .int .i64 v11)] (by kernel_rfl) ⟨g14, trivial⟩ ?_
            refine OpsW.asU (.int .u8 ((t0.getD v2.toNat []).getD v11.toNat (0 : Int))) rfl rfl (T.load rfl trivial (by kernel_rfl) (fm_cell0 (eI .u8) 1 (fun _ => rfl) (t0.getD v2.toNat []) (0 : Int) v11.toNat (ltN g14) (fun a => .val (.int .u8 a)) (fun _ => rfl))) ?_
            refine OpsW.seg 2 [58, 49, 0, 1, 5, 6, 7] [(62 : Int) ≠ 0] [(58, .int .u8 (IntKind.wrap .u8 ((1 : Int) + (Int.tmod ((t0.getD v2.toNat []).getD v11.toNat (0 : Int)) (62 : Int))))), (49, .rsl 5 0 0 v10.length), (0, slA (eL (eI .u8)) t0), (1, .int .i64 t1), (5, .rsl 5 0 0 v10.length), (6, .int .i64 v2), (7, .int .i64 v11)] (by kernel_rfl) ⟨(by decide), trivial⟩ ?_
            obtain ⟨g15, H⟩ := G_some H
            refine OpsW.appendLF (enc := eI .u8) [IntKind.wrap .u8 ((1 : Int) + (Int.tmod ((t0.getD v2.toNat []).getD v11.toNat (0 : Int)) (62 : Int)))] rfl rfl rfl (by decide) rfl rfl rfl (by simp) E34 (fun _ => rfl) (by decide) trivial (by kernel_rfl) (by kernel_rfl) (by kernel_rfl) rfl rfl rfl g15 ?_
            refine OpsW.seg 1 [5, 0, 1, 6, 7] [] [(5, .rsl 5 1 0 ((v10 ++ [IntKind.wrap .u8 ((1 : Int) + (Int.tmod ((t0.getD v2.toNat []).getD v11.toNat (0 : Int)) (62 : Int)))]).length)), (0, slA (eL (eI .u8)) t0), (1, .int .i64 t1), (6, .int .i64 v2), (7, .int .i64 v11)] (by kernel_rfl) trivial ?_
            refine OpsW.recast (env' := [(5, .rsl 5 0 0 ((v10 ++ [IntKind.wrap .u8 ((1 : Int) + (Int.tmod ((t0.getD v2.toNat []).getD v11.toNat (0 : Int)) (62 : Int)))]).length)), (0, slA (eL (eI .u8)) t0), (1, .int .i64 t1), (6, .int .i64 v2), (7, .int .i64 v11)]) (h' := [(5, rtA 0 43 1 (eI .u8) (v10 ++ [IntKind.wrap .u8 ((1 : Int) + (Int.tmod ((t0.getD v2.toNat []).getD v11.toNat (0 : Int)) (62 : Int)))]))]) (StC.mk (phi [(5, some 5)]) (.old rfl rfl rfl rfl rfl (CstL.ims _) .nil) rfl (.cons (.rsl rfl rfl rfl rfl rfl rfl) (.cons .im (.cons .im (.cons .im (.cons .im .nil)))))) ?_
            refine OpsW.nil ?_
            refine AW.region ?_
            obtain ⟨g16, H⟩ := G_some H
            refine OpsW.seg 3 [7, 5, 0, 1, 6] [inR (v11 + (1 : Int))] [(7, .int .i64 (v11 + (1 : Int))), (5, .rsl 5 0 0 ((v10 ++ [IntKind.wrap .u8 ((1 : Int) + (Int.tmod ((t0.getD v2.toNat []).getD v11.toNat (0 : Int)) (62 : Int)))]).length)), (0, slA (eL (eI .u8)) t0), (1, .int .i64 t1), (6, .int .i64 v2)] (by kernel_rfl) ⟨g16, trivial⟩ ?_
            refine OpsW.nil ?_
            show ∃ y, _ ∧ StC _ _ _ _
            exact ⟨(v10 ++ [IntKind.wrap .u8 ((1 : Int) + (Int.tmod ((t0.getD v2.toNat []).getD v11.toNat (0 : Int)) (62 : Int)))], v11 + (1 : Int)), H, (StC.mk (phi [(5, some 5)]) (.old rfl rfl rfl rfl rfl (CstL.ims _) .nil) rfl (.cons .im (.cons .im (.cons (.rsl rfl rfl rfl rfl rfl rfl) (.cons .im (.cons .im .nil))))))⟩
          · replace H := condF c13 H
            refine AW.exit ?_
            show ∃ y, _ ∧ StC _ _ _ _
            exact ⟨v10, H, (StC.mk (phi [(5, some 5)]) (.old rfl rfl rfl rfl rfl (CstL.ims _) .nil) rfl (.cons .im (.cons .im (.cons (.rsl rfl rfl rfl rfl rfl rfl) (.cons .im .nil)))))⟩
    · intro v5 H
      change f_R22_Made_k1 loop3 v2 v5 = some r at H
      unfold f_R22_Made_k1 at H
      change AW _ _ _ [(0, slA (eL (eI .u8)) t0), (1, .int .i64 t1), (5, .rsl 5 0 0 v5.length), (6, .int .i64 v2)] [(5, rtA 0 43 1 (eI .u8) v5)] _
      refine AW.region ?_
      obtain ⟨g6, H⟩ := G_some H
      refine OpsW.seg 3 [6, 0, 1, 5] [inR (v2 + (1 : Int))] [(6, .int .i64 (v2 + (1 : Int))), (0, slA (eL (eI .u8)) t0), (1, .int .i64 t1), (5, .rsl 5 0 0 v5.length)] (by kernel_rfl) ⟨g6, trivial⟩ ?_
      refine OpsW.nil ?_
      show ∃ y, _ ∧ StC _ _ _ _
      exact ⟨(v5, v2 + (1 : Int)), H, (StC.mk (phi [(5, some 5)]) (.old rfl rfl rfl rfl rfl (CstL.ims _) .nil) rfl (.cons .im (.cons .im (.cons (.rsl rfl rfl rfl rfl rfl rfl) (.cons .im .nil)))))⟩
  · replace H := condF c4 H
    refine AW.exit ?_
    refine AW.regionSeq ?_
    refine OpsW.seg 2 [4] [] [(4, .rsl 5 0 0 v1.length)] (by kernel_rfl) trivial ?_
    refine OpsW.recast (env' := [(4, slA (eI .u8) v1)]) (h' := []) (StC.mk (phi []) .nil rfl (.cons (.frz rfl rfl rfl (frz_all (eI .u8) 1 (fun _ => rfl) v1) (fm_length (eI .u8) 1 (fun _ => rfl) v1) (phi_ne rfl)) .nil)) ?_
    refine OpsW.nil ?_
    obtain rfl := Option.some.inj H
    refine AW.recast (env' := [(4, slA (eI .u8) v1)]) (h' := []) (StC.pure (.cons .im .nil)) ?_
    refine AW.ret ?_
    try simp only [Ex.then, Ex.inBlock, Ex.noGoto, Ex.jump, reduceIte, Nat.reduceEqDiff, reduceCtorEq]
    refine Done.gen rfl (.tmp .nil) ?_
    show _ = _
    kernel_rfl
def f_cell_Valid (t0 : Int) : Option Bool :=
  some (decide (t0 < (64 : Int)))
theorem f_cell_Valid_ok {t0 : Int} {r : Bool} (H : f_cell_Valid t0 = some r) : QSpec Tryd.prog 34 [.int .u8 t0] (.bool r) := by
  refine Spec.of_AW Tryd.func34 rfl (by simp [Tryd.ntmps34]) ?_
  rw [Tryd.ntmps34]
  unfold f_cell_Valid at H
  change AW _ _ _ [(0, .int .u8 t0)] [] _
  refine AW.regionSeq ?_
  refine OpsW.seg 1 [0] [] [(0, .int .u8 t0)] (by kernel_rfl) trivial ?_
  refine OpsW.nil ?_
  refine AW.regionSeq ?_
  refine OpsW.seg 3 [2] [] [(2, .bool (decide (t0 < (64 : Int))))] (by kernel_rfl) trivial ?_
  refine OpsW.nil ?_
  obtain rfl := Option.some.inj H
  refine AW.recast (env' := [(2, .bool (decide (t0 < (64 : Int))))]) (h' := []) (StC.pure (.cons .im .nil)) ?_
  refine AW.ret ?_
  try simp only [Ex.then, Ex.inBlock, Ex.noGoto, Ex.jump, reduceIte, Nat.reduceEqDiff, reduceCtorEq]
  refine Done.gen rfl (.tmp .nil) ?_
  show _ = _
  kernel_rfl
def f_line_Clean_b1 (t0 : List Int) (loop2 : (Int) → Option (Int × Bool)) (v1 : Int) : Option (Int × Bool) :=
  cond (decide (v1 < (t0.length : Int))) (
    G (0 ≤ v1 ∧ v1 < (t0.length : Int)) <|
    (f_cell_Valid (t0.getD v1.toNat (0 : Int))).bind fun x5 =>
    G ((((!(!x5)) && ((t0.getD v1.toNat (0 : Int)) == (0 : Int))) && (!(v1 == (0 : Int)))) = true → inR (v1 - (1 : Int))) <|
    G ((((!(!x5)) && ((t0.getD v1.toNat (0 : Int)) == (0 : Int))) && (!(v1 == (0 : Int)))) = true → (0 ≤ (v1 - (1 : Int)) ∧ (v1 - (1 : Int)) < (t0.length : Int))) <|
    cond (cond (!x5) true (cond ((t0.getD v1.toNat (0 : Int)) == (0 : Int)) (cond (v1 == (0 : Int)) true ((t0.getD (v1 - (1 : Int)).toNat (0 : Int)) == (0 : Int))) false)) (
      some (v1, false)) (
      G (inR (v1 + (1 : Int))) <|
      loop2 (v1 + (1 : Int)))) (
    cond ((t0.length : Int) == (0 : Int)) (
      some ((0 : Int), false)) (
      G (inR ((t0.length : Int) - (1 : Int))) <|
      G (0 ≤ ((t0.length : Int) - (1 : Int)) ∧ ((t0.length : Int) - (1 : Int)) < (t0.length : Int)) <|
      cond ((t0.getD ((t0.length : Int) - (1 : Int)).toNat (0 : Int)) == (0 : Int)) (
        some ((t0.length : Int) - (1 : Int), false)) (
        some ((t0.length : Int), true))))
def f_line_Clean (t0 : List Int) : Option (Int × Bool) :=
  iter (fun loop (s : Int) => f_line_Clean_b1 t0 loop s) 1000000 (0 : Int)
theorem f_line_Clean_ok {t0 : List Int} {r : Int × Bool} (H : f_line_Clean t0 = some r) : QSpec Tryd.prog 23 [slA (eI .u8) t0] (.tup [.int .i64 r.1, .bool r.2]) := by
  refine Spec.of_AW Tryd.func23 rfl (by simp [Tryd.ntmps23]) ?_
  rw [Tryd.ntmps23]
  unfold f_line_Clean at H
  change AW _ _ _ [(0, slA (eI .u8) t0)] [] _
  refine AW.regionSeq ?_
  refine OpsW.seg 2 [0] [] [(0, slA (eI .u8) t0)] (by kernel_rfl) trivial ?_
  refine OpsW.nil ?_
  refine AW.seq ?_
  refine AW.regionSeq ?_
  refine OpsW.seg 3 [8, 7, 6, 0] [] [(8, .int .i64 (0 : Int)), (7, .int .i64 (t0.length : Int)), (6, slA (eI .u8) t0), (0, slA (eI .u8) t0)] (by kernel_rfl) trivial ?_
  refine OpsW.nil ?_
  refine AW.block ?_
  refine AW.iterK (fun loop (s : Int) => f_line_Clean_b1 t0 loop s) r (fun (s : Int) => [(0, slA (eI .u8) t0), (6, slA (eI .u8) t0), (7, .int .i64 (t0.length : Int)), (8, .int .i64 s)]) (fun (s : Int) => []) ?_ 1000000 (0 : Int) H (StC.pure (.cons .im (.cons .im (.cons .im (.cons .im .nil)))))
  intro loop2 v1 H
  change f_line_Clean_b1 t0 loop2 v1 = some r at H
  unfold f_line_Clean_b1 at H
  change AW _ _ _ [(0, slA (eI .u8) t0), (6, slA (eI .u8) t0), (7, .int .i64 (t0.length : Int)), (8, .int .i64 v1)] [] _
  refine AW.regionSeq ?_
  refine OpsW.seg 1 [9, 0, 6, 7, 8] [] [(9, .bool (decide (v1 < (t0.length : Int)))), (0, slA (eI .u8) t0), (6, slA (eI .u8) t0), (7, .int .i64 (t0.length : Int)), (8, .int .i64 v1)] (by kernel_rfl) trivial ?_
  refine OpsW.nil ?_
  refine AW.seq ?_
  refine AW.cond (b := decide (v1 < (t0.length : Int))) rfl (fun c3 => ?_) (fun c3 => ?_)
  · replace H := condT c3 H
    refine AW.skip ?_
    refine AW.seq ?_
    refine AW.block ?_
    refine AW.regionSeq ?_
    obtain ⟨g4, H⟩ := G_some H
    refine OpsW.seg 2 [11, 10, 0, 6, 7, 8] [0 ≤ v1 ∧ v1 < (t0.length : Int)] [(11, .ipt (t0.flatMap (eI .u8)) (v1.toNat * 1)), (10, .int .i64 v1), (0, slA (eI .u8) t0), (6, slA (eI .u8) t0), (7, .int .i64 (t0.length : Int)), (8, .int .i64 v1)] (by kernel_rfl) ⟨g4, trivial⟩ ?_
    refine OpsW.asU (.int .u8 (t0.getD v1.toNat (0 : Int))) rfl rfl (T.load rfl trivial (by kernel_rfl) (fm_cell0 (eI .u8) 1 (fun _ => rfl) t0 (0 : Int) v1.toNat (ltN g4) (fun a => .val (.int .u8 a)) (fun _ => rfl))) ?_
    refine OpsW.seg 2 [5, 4, 0, 6, 7, 8] [] [(5, .int .u8 (t0.getD v1.toNat (0 : Int))), (4, .int .i64 v1), (0, slA (eI .u8) t0), (6, slA (eI .u8) t0), (7, .int .i64 (t0.length : Int)), (8, .int .i64 v1)] (by kernel_rfl) trivial ?_
    refine OpsW.nil ?_
    refine AW.regionSeq ?_
    refine OpsW.seg 1 [13, 5, 4, 0, 6, 7, 8] [] [(13, .int .u8 (t0.getD v1.toNat (0 : Int))), (5, .int .u8 (t0.getD v1.toNat (0 : Int))), (4, .int .i64 v1), (0, slA (eI .u8) t0), (6, slA (eI .u8) t0), (7, .int .i64 (t0.length : Int)), (8, .int .i64 v1)] (by kernel_rfl) trivial ?_
    obtain ⟨x5, hx5, H⟩ := bindS H
    refine OpsW.qcall rfl (by kernel_rfl) rfl rfl (glAll_sound trivial) (.cons (.pur rfl) .nil) (f_cell_Valid_ok hx5) rfl ?_
    obtain ⟨g6, H⟩ := G_some H
    obtain ⟨g7, H⟩ := G_some H
    refine OpsW.seg 12 [26, 22, 19, 16, 4, 0, 6, 7, 8] [(!(!x5)) = true → (!(!x5)) = true, (!(!x5)) = true → (!(!x5)) = true, ((!(!x5)) && ((t0.getD v1.toNat (0 : Int)) == (0 : Int))) = true → ((!(!x5)) && ((t0.getD v1.toNat (0 : Int)) == (0 : Int))) = true, ((!(!x5)) && ((t0.getD v1.toNat (0 : Int)) == (0 : Int))) = true → ((!(!x5)) && ((t0.getD v1.toNat (0 : Int)) == (0 : Int))) = true, (((!(!x5)) && ((t0.getD v1.toNat (0 : Int)) == (0 : Int))) && (!(v1 == (0 : Int)))) = true → (((!(!x5)) && ((t0.getD v1.toNat (0 : Int)) == (0 : Int))) && (!(v1 == (0 : Int)))) = true, (((!(!x5)) && ((t0.getD v1.toNat (0 : Int)) == (0 : Int))) && (!(v1 == (0 : Int)))) = true → inR (v1 - (1 : Int)), (((!(!x5)) && ((t0.getD v1.toNat (0 : Int)) == (0 : Int))) && (!(v1 == (0 : Int)))) = true → (((!(!x5)) && ((t0.getD v1.toNat (0 : Int)) == (0 : Int))) && (!(v1 == (0 : Int)))) = true, (((!(!x5)) && ((t0.getD v1.toNat (0 : Int)) == (0 : Int))) && (!(v1 == (0 : Int)))) = true → (((!(!x5)) && ((t0.getD v1.toNat (0 : Int)) == (0 : Int))) && (!(v1 == (0 : Int)))) = true, (((!(!x5)) && ((t0.getD v1.toNat (0 : Int)) == (0 : Int))) && (!(v1 == (0 : Int)))) = true → (0 ≤ (v1 - (1 : Int)) ∧ (v1 - (1 : Int)) < (t0.length : Int))] [(26, .cnd (((!(!x5)) && ((t0.getD v1.toNat (0 : Int)) == (0 : Int))) && (!(v1 == (0 : Int)))) (.ipt (t0.flatMap (eI .u8)) ((v1 - (1 : Int)).toNat * 1))), (22, .cnd ((!(!x5)) && ((t0.getD v1.toNat (0 : Int)) == (0 : Int))) (.bool (v1 == (0 : Int)))), (19, .cnd (!(!x5)) (.bool ((t0.getD v1.toNat (0 : Int)) == (0 : Int)))), (16, .bool (!x5)), (4, .int .i64 v1), (0, slA (eI .u8) t0), (6, slA (eI .u8) t0), (7, .int .i64 (t0.length : Int)), (8, .int .i64 v1)] (by kernel_rfl) ⟨(fun h => h), (fun h => h), (fun h => h), (fun h => h), (fun h => h), g6, (fun h => h), (fun h => h), g7, trivial⟩ ?_
    refine OpsW.asG (c := ((!(!x5)) && ((t0.getD v1.toNat (0 : Int)) == (0 : Int))) && (!(v1 == (0 : Int)))) (.int .u8 (t0.getD (v1 - (1 : Int)).toNat (0 : Int))) rfl rfl rfl rfl (fun hc => T.load rfl hc (by kernel_rfl) (fm_cell0 (eI .u8) 1 (fun _ => rfl) t0 (0 : Int) (v1 - (1 : Int)).toNat (ltN (g7 hc)) (fun a => .val (.int .u8 a)) (fun _ => rfl))) ?_
    refine OpsW.seg 4 [31, 4, 0, 6, 7, 8] [(((!(!x5)) && ((t0.getD v1.toNat (0 : Int)) == (0 : Int))) && (!(v1 == (0 : Int)))) = true → (((!(!x5)) && ((t0.getD v1.toNat (0 : Int)) == (0 : Int))) && (!(v1 == (0 : Int)))) = true, ((!(!x5)) && ((t0.getD v1.toNat (0 : Int)) == (0 : Int))) = true → ((!(!x5)) && ((t0.getD v1.toNat (0 : Int)) == (0 : Int))) = true, ((!(!x5)) && ((t0.getD v1.toNat (0 : Int)) == (0 : Int))) = true → ((v1 == (0 : Int)) = false → (((!(!x5)) && ((t0.getD v1.toNat (0 : Int)) == (0 : Int))) && (!(v1 == (0 : Int)))) = true), (!(!x5)) = true → (!(!x5)) = true, (!(!x5)) = true → (((t0.getD v1.toNat (0 : Int)) == (0 : Int)) = true → ((!(!x5)) && ((t0.getD v1.toNat (0 : Int)) == (0 : Int))) = true), (!x5) = false → (!(!x5)) = true] [(31, .bool (cond (!x5) true (cond ((t0.getD v1.toNat (0 : Int)) == (0 : Int)) (cond (v1 == (0 : Int)) true ((t0.getD (v1 - (1 : Int)).toNat (0 : Int)) == (0 : Int))) false))), (4, .int .i64 v1), (0, slA (eI .u8) t0), (6, slA (eI .u8) t0), (7, .int .i64 (t0.length : Int)), (8, .int .i64 v1)] (by kernel_rfl) ⟨(fun h => h), (fun h => h), (fun h0 h => by first | exact h | (simp [h0, h]; done) | (simp at h0 h ⊢; simp [h0, h]; done) | (simp_all; done)), (fun h => h), (fun h0 h => by first | exact h | (simp [h0, h]; done) | (simp at h0 h ⊢; simp [h0, h]; done) | (simp_all; done)), (fun h => by first | exact h | simpa using h), trivial⟩ ?_
    refine OpsW.nil ?_
    refine AW.cond (b := cond (!x5) true (cond ((t0.getD v1.toNat (0 : Int)) == (0 : Int)) (cond (v1 == (0 : Int)) true ((t0.getD (v1 - (1 : Int)).toNat (0 : Int)) == (0 : Int))) false)) rfl (fun c8 => ?_) (fun c8 => ?_)
    · replace H := condT c8 H
      refine AW.regionSeq ?_
      refine OpsW.seg 3 [3, 2] [] [(3, .bool false), (2, .int .i64 v1)] (by kernel_rfl) trivial ?_
      refine OpsW.nil ?_
      obtain rfl := Option.some.inj H
      refine AW.recast (env' := [(2, .int .i64 v1), (3, .bool false)]) (h' := []) (StC.pure (.cons .im (.cons .im .nil))) ?_
      refine AW.ret ?_
      try simp only [Ex.then, Ex.inBlock, Ex.noGoto, Ex.jump, reduceIte, Nat.reduceEqDiff, reduceCtorEq]
      refine Done.gen rfl (.tmp (.tmp .nil)) ?_
      show _ = _
      kernel_rfl
    · replace H := condF c8 H
      refine AW.skip ?_
      refine AW.region ?_
      obtain ⟨g9, H⟩ := G_some H
      refine OpsW.seg 2 [8, 0, 6, 7] [inR (v1 + (1 : Int))] [(8, .int .i64 (v1 + (1 : Int))), (0, slA (eI .u8) t0), (6, slA (eI .u8) t0), (7, .int .i64 (t0.length : Int))] (by kernel_rfl) ⟨g9, trivial⟩ ?_
      refine OpsW.nil ?_
      show ∃ y, _ ∧ StC _ _ _ _
      exact ⟨v1 + (1 : Int), H, (StC.pure (.cons .im (.cons .im (.cons .im (.cons .im .nil)))))⟩
  · replace H := condF c3 H
    refine AW.exit ?_
    refine AW.seq ?_
    refine AW.regionSeq ?_
    refine OpsW.seg 3 [36, 0] [] [(36, .bool ((t0.length : Int) == (0 : Int))), (0, slA (eI .u8) t0)] (by kernel_rfl) trivial ?_
    refine OpsW.nil ?_
    refine AW.cond (b := (t0.length : Int) == (0 : Int)) rfl (fun c10 => ?_) (fun c10 => ?_)
    · replace H := condT c10 H
      refine AW.regionSeq ?_
      refine OpsW.seg 2 [3, 2] [] [(3, .bool false), (2, .int .i64 (0 : Int))] (by kernel_rfl) trivial ?_
      refine OpsW.nil ?_
      obtain rfl := Option.some.inj H
      refine AW.recast (env' := [(2, .int .i64 (0 : Int)), (3, .bool false)]) (h' := []) (StC.pure (.cons .im (.cons .im .nil))) ?_
      refine AW.ret ?_
      try simp only [Ex.then, Ex.inBlock, Ex.noGoto, Ex.jump, reduceIte, Nat.reduceEqDiff, reduceCtorEq]
      refine Done.gen rfl (.tmp (.tmp .nil)) ?_
      show _ = _
      kernel_rfl
    · replace H := condF c10 H
      refine AW.skip ?_
      refine AW.seq ?_
      refine AW.regionSeq ?_
      obtain ⟨g11, H⟩ := G_some H
      obtain ⟨g12, H⟩ := G_some H
      refine OpsW.seg 5 [41, 0] [inR ((t0.length : Int) - (1 : Int)), 0 ≤ ((t0.length : Int) - (1 : Int)) ∧ ((t0.length : Int) - (1 : Int)) < (t0.length : Int)] [(41, .ipt (t0.flatMap (eI .u8)) (((t0.length : Int) - (1 : Int)).toNat * 1)), (0, slA (eI .u8) t0)] (by kernel_rfl) ⟨g11, g12, trivial⟩ ?_
      refine OpsW.asU (.int .u8 (t0.getD ((t0.length : Int) - (1 : Int)).toNat (0 : Int))) rfl rfl (T.load rfl trivial (by kernel_rfl) (fm_cell0 (eI .u8) 1 (fun _ => rfl) t0 (0 : Int) ((t0.length : Int) - (1 : Int)).toNat (ltN g12) (fun a => .val (.int .u8 a)) (fun _ => rfl))) ?_
      refine OpsW.seg 1 [43, 0] [] [(43, .bool ((t0.getD ((t0.length : Int) - (1 : Int)).toNat (0 : Int)) == (0 : Int))), (0, slA (eI .u8) t0)] (by kernel_rfl) trivial ?_
      refine OpsW.nil ?_
      refine AW.cond (b := (t0.getD ((t0.length : Int) - (1 : Int)).toNat (0 : Int)) == (0 : Int)) rfl (fun c13 => ?_) (fun c13 => ?_)
      · replace H := condT c13 H
        refine AW.regionSeq ?_
        refine OpsW.seg 5 [3, 2] [inR ((t0.length : Int) - (1 : Int))] [(3, .bool false), (2, .int .i64 ((t0.length : Int) - (1 : Int)))] (by kernel_rfl) ⟨g11, trivial⟩ ?_
        refine OpsW.nil ?_
        obtain rfl := Option.some.inj H
        refine AW.recast (env' := [(2, .int .i64 ((t0.length : Int) - (1 : Int))), (3, .bool false)]) (h' := []) (StC.pure (.cons .im (.cons .im .nil))) ?_
        refine AW.ret ?_
        try simp only [Ex.then, Ex.inBlock, Ex.noGoto, Ex.jump, reduceIte, Nat.reduceEqDiff, reduceCtorEq]
        refine Done.gen rfl (.tmp (.tmp .nil)) ?_
        show _ = _
        kernel_rfl
      · replace H := condF c13 H
        refine AW.skip ?_
        refine AW.regionSeq ?_
        refine OpsW.seg 4 [3, 2] [] [(3, .bool true), (2, .int .i64 (t0.length : Int))] (by kernel_rfl) trivial ?_
        refine OpsW.nil ?_
        obtain rfl := Option.some.inj H
        refine AW.recast (env' := [(2, .int .i64 (t0.length : Int)), (3, .bool true)]) (h' := []) (StC.pure (.cons .im (.cons .im .nil))) ?_
        refine AW.ret ?_
        try simp only [Ex.then, Ex.inBlock, Ex.noGoto, Ex.jump, reduceIte, Nat.reduceEqDiff, reduceCtorEq]
        refine Done.gen rfl (.tmp (.tmp .nil)) ?_
        show _ = _
        kernel_rfl
def f_slices_Index_api_Cell_b1 (t0 : List Int) (t1 : Int) (loop2 : (Int) → Option Int) (v1 : Int) : Option Int :=
  cond (decide (v1 < (t0.length : Int))) (
    G (0 ≤ v1 ∧ v1 < (t0.length : Int)) <|
    cond (t1 == (t0.getD v1.toNat (0 : Int))) (
      some v1) (
      G (inR (v1 + (1 : Int))) <|
      loop2 (v1 + (1 : Int)))) (
    some (-1 : Int))
def f_slices_Index_api_Cell (t0 : List Int) (t1 : Int) : Option Int :=
  iter (fun loop (s : Int) => f_slices_Index_api_Cell_b1 t0 t1 loop s) 1000000 (0 : Int)
theorem f_slices_Index_api_Cell_ok {t0 : List Int} {t1 : Int} {r : Int} (H : f_slices_Index_api_Cell t0 t1 = some r) : QSpec Tryd.prog 35 [slA (eI .u8) t0, .int .u8 t1] (.int .i64 r) := by
  refine Spec.of_AW Tryd.func35 rfl (by simp [Tryd.ntmps35]) ?_
  rw [Tryd.ntmps35]
  unfold f_slices_Index_api_Cell at H
  change AW _ _ _ [(0, slA (eI .u8) t0), (1, .int .u8 t1)] [] _
  refine AW.regionSeq ?_
  refine OpsW.seg 1 [0, 1] [] [(0, slA (eI .u8) t0), (1, .int .u8 t1)] (by kernel_rfl) trivial ?_
  refine OpsW.nil ?_
  refine AW.seq ?_
  refine AW.regionSeq ?_
  refine OpsW.seg 3 [8, 7, 0, 1] [] [(8, .int .i64 (0 : Int)), (7, .int .i64 (t0.length : Int)), (0, slA (eI .u8) t0), (1, .int .u8 t1)] (by kernel_rfl) trivial ?_
  refine OpsW.nil ?_
  refine AW.block ?_
  refine AW.iterK (fun loop (s : Int) => f_slices_Index_api_Cell_b1 t0 t1 loop s) r (fun (s : Int) => [(0, slA (eI .u8) t0), (1, .int .u8 t1), (7, .int .i64 (t0.length : Int)), (8, .int .i64 s)]) (fun (s : Int) => []) ?_ 1000000 (0 : Int) H (StC.pure (.cons .im (.cons .im (.cons .im (.cons .im .nil)))))
  intro loop2 v1 H
  change f_slices_Index_api_Cell_b1 t0 t1 loop2 v1 = some r at H
  unfold f_slices_Index_api_Cell_b1 at H
  change AW _ _ _ [(0, slA (eI .u8) t0), (1, .int .u8 t1), (7, .int .i64 (t0.length : Int)), (8, .int .i64 v1)] [] _
  refine AW.regionSeq ?_
  refine OpsW.seg 1 [9, 0, 1, 7, 8] [] [(9, .bool (decide (v1 < (t0.length : Int)))), (0, slA (eI .u8) t0), (1, .int .u8 t1), (7, .int .i64 (t0.length : Int)), (8, .int .i64 v1)] (by kernel_rfl) trivial ?_
  refine OpsW.nil ?_
  refine AW.seq ?_
  refine AW.cond (b := decide (v1 < (t0.length : Int))) rfl (fun c3 => ?_) (fun c3 => ?_)
  · replace H := condT c3 H
    refine AW.skip ?_
    refine AW.seq ?_
    refine AW.block ?_
    refine AW.regionSeq ?_
    refine OpsW.seg 2 [5, 0, 1, 7, 8] [] [(5, .int .i64 v1), (0, slA (eI .u8) t0), (1, .int .u8 t1), (7, .int .i64 (t0.length : Int)), (8, .int .i64 v1)] (by kernel_rfl) trivial ?_
    refine OpsW.nil ?_
    refine AW.regionSeq ?_
    obtain ⟨g4, H⟩ := G_some H
    refine OpsW.seg 4 [14, 11, 5, 0, 1, 7, 8] [0 ≤ v1 ∧ v1 < (t0.length : Int)] [(14, .ipt (t0.flatMap (eI .u8)) (v1.toNat * 1)), (11, .int .u8 t1), (5, .int .i64 v1), (0, slA (eI .u8) t0), (1, .int .u8 t1), (7, .int .i64 (t0.length : Int)), (8, .int .i64 v1)] (by kernel_rfl) ⟨g4, trivial⟩ ?_
    refine OpsW.asU (.int .u8 (t0.getD v1.toNat (0 : Int))) rfl rfl (T.load rfl trivial (by kernel_rfl) (fm_cell0 (eI .u8) 1 (fun _ => rfl) t0 (0 : Int) v1.toNat (ltN g4) (fun a => .val (.int .u8 a)) (fun _ => rfl))) ?_
    refine OpsW.seg 1 [16, 5, 0, 1, 7, 8] [] [(16, .bool (t1 == (t0.getD v1.toNat (0 : Int)))), (5, .int .i64 v1), (0, slA (eI .u8) t0), (1, .int .u8 t1), (7, .int .i64 (t0.length : Int)), (8, .int .i64 v1)] (by kernel_rfl) trivial ?_
    refine OpsW.nil ?_
    refine AW.cond (b := t1 == (t0.getD v1.toNat (0 : Int))) rfl (fun c5 => ?_) (fun c5 => ?_)
    · replace H := condT c5 H
      refine AW.regionSeq ?_
      refine OpsW.seg 2 [4] [] [(4, .int .i64 v1)] (by kernel_rfl) trivial ?_
      refine OpsW.nil ?_
      obtain rfl := Option.some.inj H
      refine AW.recast (env' := [(4, .int .i64 v1)]) (h' := []) (StC.pure (.cons .im .nil)) ?_
      refine AW.ret ?_
      try simp only [Ex.then, Ex.inBlock, Ex.noGoto, Ex.jump, reduceIte, Nat.reduceEqDiff, reduceCtorEq]
      refine Done.gen rfl (.tmp .nil) ?_
      show _ = _
      kernel_rfl
    · replace H := condF c5 H
      refine AW.skip ?_
      refine AW.region ?_
      obtain ⟨g6, H⟩ := G_some H
      refine OpsW.seg 2 [8, 0, 1, 7] [inR (v1 + (1 : Int))] [(8, .int .i64 (v1 + (1 : Int))), (0, slA (eI .u8) t0), (1, .int .u8 t1), (7, .int .i64 (t0.length : Int))] (by kernel_rfl) ⟨g6, trivial⟩ ?_
      refine OpsW.nil ?_
      show ∃ y, _ ∧ StC _ _ _ _
      exact ⟨v1 + (1 : Int), H, (StC.pure (.cons .im (.cons .im (.cons .im (.cons .im .nil)))))⟩
  · replace H := condF c3 H
    refine AW.exit ?_
    refine AW.regionSeq ?_
    refine OpsW.seg 1 [4] [] [(4, .int .i64 (-1 : Int))] (by kernel_rfl) trivial ?_
    refine OpsW.nil ?_
    obtain rfl := Option.some.inj H
    refine AW.recast (env' := [(4, .int .i64 (-1 : Int))]) (h' := []) (StC.pure (.cons .im .nil)) ?_
    refine AW.ret ?_
    try simp only [Ex.then, Ex.inBlock, Ex.noGoto, Ex.jump, reduceIte, Nat.reduceEqDiff, reduceCtorEq]
    refine Done.gen rfl (.tmp .nil) ?_
    show _ = _
    kernel_rfl
def f_slices_Contains_api_Cell (t0 : List Int) (t1 : Int) : Option Bool :=
  (f_slices_Index_api_Cell t0 t1).bind fun x1 =>
  some (decide ((0 : Int) ≤ x1))
theorem f_slices_Contains_api_Cell_ok {t0 : List Int} {t1 : Int} {r : Bool} (H : f_slices_Contains_api_Cell t0 t1 = some r) : QSpec Tryd.prog 24 [slA (eI .u8) t0, .int .u8 t1] (.bool r) := by
  refine Spec.of_AW Tryd.func24 rfl (by simp [Tryd.ntmps24]) ?_
  rw [Tryd.ntmps24]
  unfold f_slices_Contains_api_Cell at H
  change AW _ _ _ [(0, slA (eI .u8) t0), (1, .int .u8 t1)] [] _
  refine AW.regionSeq ?_
  refine OpsW.seg 1 [0, 1] [] [(0, slA (eI .u8) t0), (1, .int .u8 t1)] (by kernel_rfl) trivial ?_
  refine OpsW.nil ?_
  refine AW.regionSeq ?_
  refine OpsW.seg 2 [6, 5] [] [(6, .int .u8 t1), (5, slA (eI .u8) t0)] (by kernel_rfl) trivial ?_
  obtain ⟨x1, hx1, H⟩ := bindS H
  refine OpsW.qcall rfl (by kernel_rfl) rfl rfl (glAll_sound trivial) (.cons (.pur rfl) (.cons (.pur rfl) .nil)) (f_slices_Index_api_Cell_ok hx1) rfl ?_
  refine OpsW.seg 2 [4] [] [(4, .bool (decide ((0 : Int) ≤ x1)))] (by kernel_rfl) trivial ?_
  refine OpsW.nil ?_
  obtain rfl := Option.some.inj H
  refine AW.recast (env' := [(4, .bool (decide ((0 : Int) ≤ x1)))]) (h' := []) (StC.pure (.cons .im .nil)) ?_
  refine AW.ret ?_
  try simp only [Ex.then, Ex.inBlock, Ex.noGoto, Ex.jump, reduceIte, Nat.reduceEqDiff, reduceCtorEq]
  refine Done.gen rfl (.tmp .nil) ?_
  show _ = _
  kernel_rfl
def f_slices_Clone_api_Cell (t0 : List Int) : Option (List Int) :=
  G (room 1 (([] : List Int).length + t0.length)) <|
  some (([] : List Int) ++ t0)
theorem f_slices_Clone_api_Cell_own {t0 : List Int} {r : List Int} (H : f_slices_Clone_api_Cell t0 = some r) : Abs.Spec Tryd.prog 25 [slA (eI .u8) t0] [] (fun x h => x = .rsl 1000 0 0 r.length ∧ h = [(1000, rtA 0 43 1 (eI .u8) r)]) := by
  refine Spec.of_AW Tryd.func25 rfl (by simp [Tryd.ntmps25]) ?_
  rw [Tryd.ntmps25]
  unfold f_slices_Clone_api_Cell at H
  change AW _ _ _ [(0, slA (eI .u8) t0)] [] _
  refine AW.regionSeq ?_
  refine OpsW.seg 1 [0] [] [(0, slA (eI .u8) t0)] (by kernel_rfl) trivial ?_
  refine OpsW.nil ?_
  refine AW.seq ?_
  refine AW.regionSeq ?_
  refine OpsW.seg 1 [3, 0] [] [(3, slA (eI .u8) t0), (0, slA (eI .u8) t0)] (by kernel_rfl) trivial ?_
  refine OpsW.nilq (e := 43) (enc := (eI .u8)) (l := t0) false rfl rfl rfl rfl (by kernel_rfl) rfl (fun b1 hb1 => ?_)
  change OpsW _ _ _ _ [(4, .bool b1), (3, slA (eI .u8) t0), (0, slA (eI .u8) t0)] [] _
  refine OpsW.seg 0 [4, 0] [] [(4, .bool b1), (0, slA (eI .u8) t0)] (by kernel_rfl) trivial ?_
  refine OpsW.nil ?_
  refine AW.cond (b := b1) rfl (fun c2 => ?_) (fun c2 => ?_)
  · have hl4 : t0 = [] := hb1 c2
    replace H : (some []) = some r := by first | (rw [hl4] at H; exact H) | (rw [hl4] at H; obtain ⟨_, H⟩ := G_some H; exact H)
    refine AW.regionSeq ?_
    refine OpsW.seg 1 [2] [] [(2, .im (.val (.slice none 0 0)))] (by kernel_rfl) trivial ?_
    refine OpsW.nil ?_
    obtain rfl := Option.some.inj H
    refine AW.recast (env' := [(2, .rsl 1000 0 0 0)]) (h' := [(1000, rtA 0 43 1 (eI .u8) ([] : List Int))]) (StC.mk (phi [(1000, none)]) (.new rfl .nil) rfl (.cons (.nilr rfl rfl rfl) .nil)) ?_
    refine AW.ret ?_
    try simp only [Ex.then, Ex.inBlock, Ex.noGoto, Ex.jump, reduceIte, Nat.reduceEqDiff, reduceCtorEq]
    refine Done.gen rfl (.tmp .nil) ?_
    exact ⟨by kernel_rfl, rfl⟩
  · refine AW.skip ?_
    refine AW.regionSeq ?_
    refine OpsW.buildT (enc := eI .u8) ([] : List Int) rfl rfl rfl 5 rfl E34 (fun _ => rfl) (by decide) trivial (by kernel_rfl) (by kernel_rfl) (by kernel_rfl) rfl ?_
    refine OpsW.seg 1 [6, 5] [] [(6, slA (eI .u8) t0), (5, .rsl 5 0 0 (([] : List Int).length))] (by kernel_rfl) trivial ?_
    obtain ⟨g3, H⟩ := G_some H
    refine OpsW.appendF (enc := eI .u8) (ys := t0) rfl rfl rfl E34 (fun _ => rfl) rfl rfl trivial (SrcA.typed (enc := eI .u8) (fun _ => rfl) (by kernel_rfl) t0) rfl g3 ?_
    refine OpsW.seg 1 [2] [] [(2, .rsl 5 1 0 ((([] : List Int) ++ t0).length))] (by kernel_rfl) trivial ?_
    refine OpsW.recast (env' := [(2, .rsl 2 0 0 ((([] : List Int) ++ t0).length))]) (h' := [(2, rtA 0 43 1 (eI .u8) (([] : List Int) ++ t0))]) (StC.mk (phi [(2, some 5)]) (.old rfl rfl rfl rfl rfl (CstL.ims _) .nil) rfl (.cons (.rsl rfl rfl rfl rfl rfl rfl) .nil)) ?_
    refine OpsW.nil ?_
    obtain rfl := Option.some.inj H
    refine AW.recast (env' := [(2, .rsl 1000 0 0 ((([] : List Int) ++ t0).length))]) (h' := [(1000, rtA 0 43 1 (eI .u8) (([] : List Int) ++ t0))]) (StC.mk (phi [(1000, some 2)]) (.old rfl rfl rfl rfl rfl (CstL.ims _) .nil) rfl (.cons (.rsl rfl rfl rfl rfl rfl rfl) .nil)) ?_
    refine AW.ret ?_
    try simp only [Ex.then, Ex.inBlock, Ex.noGoto, Ex.jump, reduceIte, Nat.reduceEqDiff, reduceCtorEq]
    refine Done.gen rfl (.tmp .nil) ?_
    exact ⟨by kernel_rfl, rfl⟩
theorem f_slices_Clone_api_Cell_ok {t0 : List Int} {r : List Int} (H : f_slices_Clone_api_Cell t0 = some r) : QSpec Tryd.prog 25 [slA (eI .u8) t0] (slA (eI .u8) r) := by
  exact QSpec.of_own (f_slices_Clone_api_Cell_own H) (.frz rfl rfl rfl (frz_all (eI .u8) 1 (fun _ => rfl) r) (fm_length (eI .u8) 1 (fun _ => rfl) r) (phi_ne rfl))
def f_number_Write_b1 (x2 : ByteArray) (loop5 : ((List Int) × Int) → Option ((List Int) × Int)) (v3 : List Int) (v4 : Int) : Option ((List Int) × Int) :=
  cond (decide (v4 < ((bytesOf x2).length : Int))) (
    G (0 ≤ v4 ∧ v4 < ((bytesOf x2).length : Int)) <|
    G (0 ≤ (IntKind.wrap .u8 (((bytesOf x2).getD v4.toNat (0 : Int)) - (48 : Int))) ∧ (IntKind.wrap .u8 (((bytesOf x2).getD v4.toNat (0 : Int)) - (48 : Int))) < (10 : Int)) <|
    G (room 1 (v3.length + 1)) <|
    G (inR (v4 + (1 : Int))) <|
    loop5 (v3 ++ [tab_number_digits.getD (IntKind.wrap .u8 (((bytesOf x2).getD v4.toNat (0 : Int)) - (48 : Int))).toNat (0 : Int)], v4 + (1 : Int))) (
    some (v3, (0 : Int)))
def f_number_Write (t0 : Int) : Option ((List Int) × Int) :=
  cond (cond (decide (t0 < (0 : Int))) true (decide ((99999 : Int) < t0))) (
    some ([], (190 : Int))) (
    (f_strconv_Itoa t0).bind fun x2 =>
    iter (fun loop (s : (List Int) × Int) => f_number_Write_b1 x2 loop s.1 s.2) 1000000 ([(60 : Int)], (0 : Int)))
theorem f_number_Write_ok {t0 : Int} {r : (List Int) × Int} (H : f_number_Write t0 = some r) : QSpec Tryd.prog 26 [.int .i64 t0] (.tup [slA (eI .u8) r.1, .int .i64 r.2]) := by
  refine Spec.of_AW Tryd.func26 rfl (by simp [Tryd.ntmps26]) ?_
  rw [Tryd.ntmps26]
  unfold f_number_Write at H
  change AW _ _ _ [(0, .int .i64 t0)] [] _
  refine AW.regionSeq ?_
  refine OpsW.seg 2 [0] [] [(0, .int .i64 t0)] (by kernel_rfl) trivial ?_
  refine OpsW.nil ?_
  refine AW.seq ?_
  refine AW.regionSeq ?_
  refine OpsW.seg 6 [12, 0] [(!(decide (t0 < (0 : Int)))) = true → (!(decide (t0 < (0 : Int)))) = true, (decide (t0 < (0 : Int))) = false → (!(decide (t0 < (0 : Int)))) = true] [(12, .bool (cond (decide (t0 < (0 : Int))) true (decide ((99999 : Int) < t0)))), (0, .int .i64 t0)] (by kernel_rfl) ⟨(fun h => h), (fun h => by first | exact h | simpa using h), trivial⟩ ?_
  refine OpsW.nil ?_
  refine AW.cond (b := cond (decide (t0 < (0 : Int))) true (decide ((99999 : Int) < t0))) rfl (fun c1 => ?_) (fun c1 => ?_)
  · replace H := condT c1 H
    refine AW.regionSeq ?_
    refine OpsW.seg 2 [3, 2] [] [(3, .int .i64 (190 : Int)), (2, .im (.val (.slice none 0 0)))] (by kernel_rfl) trivial ?_
    refine OpsW.nil ?_
    obtain rfl := Option.some.inj H
    refine AW.recast (env' := [(2, slA (eI .u8) []), (3, .int .i64 (190 : Int))]) (h' := []) (StC.pure (.cons .nil (.cons .im .nil))) ?_
    refine AW.ret ?_
    try simp only [Ex.then, Ex.inBlock, Ex.noGoto, Ex.jump, reduceIte, Nat.reduceEqDiff, reduceCtorEq]
    refine Done.gen rfl (.tmp (.tmp .nil)) ?_
    show _ = _
    kernel_rfl
  · replace H := condF c1 H
    refine AW.skip ?_
    refine AW.regionSeq ?_
    refine OpsW.buildT (enc := eI .u8) [(60 : Int)] rfl rfl rfl 13 rfl E34 (fun _ => rfl) (by decide) trivial (by kernel_rfl) (by kernel_rfl) (by kernel_rfl) rfl ?_
    refine OpsW.seg 1 [4, 0] [] [(4, .rsl 13 0 0 ([(60 : Int)].length)), (0, .int .i64 t0)] (by kernel_rfl) trivial ?_
    refine OpsW.recast (env' := [(4, .rsl 4 0 0 ([(60 : Int)].length)), (0, .int .i64 t0)]) (h' := [(4, rtA 0 43 1 (eI .u8) [(60 : Int)])]) (StC.mk (phi [(4, some 13)]) (.old rfl rfl rfl rfl rfl (CstL.ims _) .nil) rfl (.cons (.rsl rfl rfl rfl rfl rfl rfl) (.cons .im .nil))) ?_
    refine OpsW.nil ?_
    refine AW.seq ?_
    refine AW.regionSeq ?_
    refine OpsW.seg 1 [14, 4] [] [(14, .int .i64 t0), (4, .rsl 4 0 0 ([(60 : Int)].length))] (by kernel_rfl) trivial ?_
    obtain ⟨x2, hx2, H⟩ := bindS H
    refine OpsW.qcall rfl (by kernel_rfl) rfl rfl (glAll_sound trivial) (.cons (.pur rfl) .nil) (f_strconv_Itoa_ok hx2) rfl ?_
    refine OpsW.quietU (slA (eI .u8) (bytesOf x2)) rfl rfl (Quiet.toBytes (e := 5) x2 rfl (by kernel_rfl) (by kernel_rfl) (by kernel_rfl) (gpoU rfl ⟨trivial, rfl⟩)) ?_
    refine OpsW.seg 2 [18, 17, 16, 4] [] [(18, .int .i64 (0 : Int)), (17, .int .i64 ((bytesOf x2).length : Int)), (16, slA (eI .u8) (bytesOf x2)), (4, .rsl 4 0 0 ([(60 : Int)].length))] (by kernel_rfl) trivial ?_
    refine OpsW.nil ?_
    refine AW.block ?_
    refine AW.iterK (fun loop (s : (List Int) × Int) => f_number_Write_b1 x2 loop s.1 s.2) r (fun (s : (List Int) × Int) => [(4, .rsl 4 0 0 s.1.length), (16, slA (eI .u8) (bytesOf x2)), (17, .int .i64 ((bytesOf x2).length : Int)), (18, .int .i64 s.2)]) (fun (s : (List Int) × Int) => [(4, rtA 0 43 1 (eI .u8) s.1)]) ?_ 1000000 ([(60 : Int)], (0 : Int)) H (StC.mk (phi [(4, some 4)]) (.old rfl rfl rfl rfl rfl (CstL.ims _) .nil) rfl (.cons (.rsl rfl rfl rfl rfl rfl rfl) (.cons .im (.cons .im (.cons .im .nil)))))
    intro loop5 s H
    obtain ⟨v3, v4⟩ := s
    change f_number_Write_b1 x2 loop5 v3 v4 = some r at H
    unfold f_number_Write_b1 at H
    change AW _ _ _ [(4, .rsl 4 0 0 v3.length), (16, slA (eI .u8) (bytesOf x2)), (17, .int .i64 ((bytesOf x2).length : Int)), (18, .int .i64 v4)] [(4, rtA 0 43 1 (eI .u8) v3)] _
    refine AW.regionSeq ?_
    refine OpsW.seg 1 [19, 4, 16, 17, 18] [] [(19, .bool (decide (v4 < ((bytesOf x2).length : Int)))), (4, .rsl 4 0 0 v3.length), (16, slA (eI .u8) (bytesOf x2)), (17, .int .i64 ((bytesOf x2).length : Int)), (18, .int .i64 v4)] (by kernel_rfl) trivial ?_
    refine OpsW.nil ?_
    refine AW.seq ?_
    refine AW.cond (b := decide (v4 < ((bytesOf x2).length : Int))) rfl (fun c6 => ?_) (fun c6 => ?_)
    · replace H := condT c6 H
      refine AW.skip ?_
      refine AW.seq ?_
      refine AW.block ?_
      refine AW.regionSeq ?_
      obtain ⟨g7, H⟩ := G_some H
      refine OpsW.seg 1 [20, 4, 16, 17, 18] [0 ≤ v4 ∧ v4 < ((bytesOf x2).length : Int)] [(20, .ipt ((bytesOf x2).flatMap (eI .u8)) (v4.toNat * 1)), (4, .rsl 4 0 0 v3.length), (16, slA (eI .u8) (bytesOf x2)), (17, .int .i64 ((bytesOf x2).length : Int)), (18, .int .i64 v4)] (by kernel_rfl) ⟨g7, trivial⟩ ?_
      refine OpsW.asU (.int .u8 ((bytesOf x2).getD v4.toNat (0 : Int))) rfl rfl (T.load rfl trivial (by kernel_rfl) (fm_cell0 (eI .u8) 1 (fun _ => rfl) (bytesOf x2) (0 : Int) v4.toNat (ltN g7) (fun a => .val (.int .u8 a)) (fun _ => rfl))) ?_
      refine OpsW.seg 1 [6, 4, 16, 17, 18] [] [(6, .int .u8 ((bytesOf x2).getD v4.toNat (0 : Int))), (4, .rsl 4 0 0 v3.length), (16, slA (eI .u8) (bytesOf x2)), (17, .int .i64 ((bytesOf x2).length : Int)), (18, .int .i64 v4)] (by kernel_rfl) trivial ?_
      refine OpsW.nil ?_
      refine AW.region ?_
      obtain ⟨g8, H⟩ := G_some H
      refine OpsW.seg 4 [25, 22, 4, 16, 17, 18] [0 ≤ (IntKind.wrap .u8 (((bytesOf x2).getD v4.toNat (0 : Int)) - (48 : Int))) ∧ (IntKind.wrap .u8 (((bytesOf x2).getD v4.toNat (0 : Int)) - (48 : Int))) < (10 : Int)] [(25, .ipt (tab_number_digits.flatMap (eI .u8)) (0 + (IntKind.wrap .u8 (((bytesOf x2).getD v4.toNat (0 : Int)) - (48 : Int))).toNat * 1)), (22, .rsl 4 0 0 v3.length), (4, .rsl 4 0 0 v3.length), (16, slA (eI .u8) (bytesOf x2)), (17, .int .i64 ((bytesOf x2).length : Int)), (18, .int .i64 v4)] (by kernel_rfl) ⟨g8, trivial⟩ ?_
      refine OpsW.asU (.int .u8 (tab_number_digits.getD (IntKind.wrap .u8 (((bytesOf x2).getD v4.toNat (0 : Int)) - (48 : Int))).toNat (0 : Int))) rfl rfl (T.load rfl trivial (by kernel_rfl) (tabOff (fm_cell0 (eI .u8) 1 (fun _ => rfl) tab_number_digits (0 : Int) (IntKind.wrap .u8 (((bytesOf x2).getD v4.toNat (0 : Int)) - (48 : Int))).toNat (ltA (n := 10) g8 rfl) (fun a => .val (.int .u8 a)) (fun _ => rfl)))) ?_
      obtain ⟨g9, H⟩ := G_some H
      refine OpsW.appendLF (enc := eI .u8) [tab_number_digits.getD (IntKind.wrap .u8 (((bytesOf x2).getD v4.toNat (0 : Int)) - (48 : Int))).toNat (0 : Int)] rfl rfl rfl (by decide) rfl rfl rfl (by simp) E34 (fun _ => rfl) (by decide) trivial (by kernel_rfl) (by kernel_rfl) (by kernel_rfl) rfl rfl rfl g9 ?_
      refine OpsW.seg 1 [4, 16, 17, 18] [] [(4, .rsl 4 1 0 ((v3 ++ [tab_number_digits.getD (IntKind.wrap .u8 (((bytesOf x2).getD v4.toNat (0 : Int)) - (48 : Int))).toNat (0 : Int)]).length)), (16, slA (eI .u8) (bytesOf x2)), (17, .int .i64 ((bytesOf x2).length : Int)), (18, .int .i64 v4)] (by kernel_rfl) trivial ?_
      refine OpsW.recast (env' := [(4, .rsl 4 0 0 ((v3 ++ [tab_number_digits.getD (IntKind.wrap .u8 (((bytesOf x2).getD v4.toNat (0 : Int)) - (48 : Int))).toNat (0 : Int)]).length)), (16, slA (eI .u8) (bytesOf x2)), (17, .int .i64 ((bytesOf x2).length : Int)), (18, .int .i64 v4)]) (h' := [(4, rtA 0 43 1 (eI .u8) (v3 ++ [tab_number_digits.getD (IntKind.wrap .u8 (((bytesOf x2).getD v4.toNat (0 : Int)) - (48 : Int))).toNat (0 : Int)]))]) (StC.mk (phi [(4, some 4)]) (.old rfl rfl rfl rfl rfl (CstL.ims _) .nil) rfl (.cons (.rsl rfl rfl rfl rfl rfl rfl) (.cons .im (.cons .im (.cons .im .nil))))) ?_
      refine OpsW.nil ?_
      refine AW.region ?_
      obtain ⟨g10, H⟩ := G_some H
      refine OpsW.seg 2 [18, 4, 16, 17] [inR (v4 + (1 : Int))] [(18, .int .i64 (v4 + (1 : Int))), (4, .rsl 4 0 0 ((v3 ++ [tab_number_digits.getD (IntKind.wrap .u8 (((bytesOf x2).getD v4.toNat (0 : Int)) - (48 : Int))).toNat (0 : Int)]).length)), (16, slA (eI .u8) (bytesOf x2)), (17, .int .i64 ((bytesOf x2).length : Int))] (by kernel_rfl) ⟨g10, trivial⟩ ?_
      refine OpsW.nil ?_
      show ∃ y, _ ∧ StC _ _ _ _
      exact ⟨(v3 ++ [tab_number_digits.getD (IntKind.wrap .u8 (((bytesOf x2).getD v4.toNat (0 : Int)) - (48 : Int))).toNat (0 : Int)], v4 + (1 : Int)), H, (StC.mk (phi [(4, some 4)]) (.old rfl rfl rfl rfl rfl (CstL.ims _) .nil) rfl (.cons (.rsl rfl rfl rfl rfl rfl rfl) (.cons .im (.cons .im (.cons .im .nil)))))⟩
    · replace H := condF c6 H
      refine AW.exit ?_
      refine AW.regionSeq ?_
      refine OpsW.seg 3 [3, 2] [] [(3, .int .i64 (0 : Int)), (2, .rsl 4 0 0 v3.length)] (by kernel_rfl) trivial ?_
      refine OpsW.recast (env' := [(3, .int .i64 (0 : Int)), (2, slA (eI .u8) v3)]) (h' := []) (StC.mk (phi []) .nil rfl (.cons .im (.cons (.frz rfl rfl rfl (frz_all (eI .u8) 1 (fun _ => rfl) v3) (fm_length (eI .u8) 1 (fun _ => rfl) v3) (phi_ne rfl)) .nil))) ?_
      refine OpsW.nil ?_
      obtain rfl := Option.some.inj H
      refine AW.recast (env' := [(2, slA (eI .u8) v3), (3, .int .i64 (0 : Int))]) (h' := []) (StC.pure (.cons .im (.cons .im .nil))) ?_
      refine AW.ret ?_
      try simp only [Ex.then, Ex.inBlock, Ex.noGoto, Ex.jump, reduceIte, Nat.reduceEqDiff, reduceCtorEq]
      refine Done.gen rfl (.tmp (.tmp .nil)) ?_
      show _ = _
      kernel_rfl
def f_note_Refer_b1 (t1 : List Int) (loop7 : ((List Int) × Int) → Option ((List Int) × Int)) (v5 : List Int) (v6 : Int) : Option ((List Int) × Int) :=
  cond (decide (v6 < (t1.length : Int))) (
    G (0 ≤ v6 ∧ v6 < (t1.length : Int)) <|
    G (((!(cond (decide ((t1.getD v6.toNat (0 : Int)) < (1 : Int))) true (decide ((99999 : Int) < (t1.getD v6.toNat (0 : Int)))))) && (decide ((0 : Int) < v6))) = true → inR (v6 - (1 : Int))) <|
    G (((!(cond (decide ((t1.getD v6.toNat (0 : Int)) < (1 : Int))) true (decide ((99999 : Int) < (t1.getD v6.toNat (0 : Int)))))) && (decide ((0 : Int) < v6))) = true → (0 ≤ (v6 - (1 : Int)) ∧ (v6 - (1 : Int)) < (t1.length : Int))) <|
    G (((!(cond (decide ((t1.getD v6.toNat (0 : Int)) < (1 : Int))) true (decide ((99999 : Int) < (t1.getD v6.toNat (0 : Int)))))) && (decide ((0 : Int) < v6))) = true → inR ((t1.getD (v6 - (1 : Int)).toNat (0 : Int)) + (1 : Int))) <|
    cond (cond (cond (decide ((t1.getD v6.toNat (0 : Int)) < (1 : Int))) true (decide ((99999 : Int) < (t1.getD v6.toNat (0 : Int))))) true (cond (decide ((0 : Int) < v6)) ((t1.getD v6.toNat (0 : Int)) != ((t1.getD (v6 - (1 : Int)).toNat (0 : Int)) + (1 : Int))) false)) (
      some ([], (220 : Int))) (
      (f_number_Write (t1.getD v6.toNat (0 : Int))).bind fun x14 =>
      cond (x14.2 != (0 : Int)) (
        some ([], (220 : Int))) (
        G (room 1 (v5.length + 2)) <|
        G (room 1 ((v5 ++ [(0 : Int), (63 : Int)]).length + x14.1.length)) <|
        G (inR (v6 + (1 : Int))) <|
        loop7 ((v5 ++ [(0 : Int), (63 : Int)]) ++ x14.1, v6 + (1 : Int))))) (
    some (v5, (0 : Int)))
def f_note_Refer (t0 : List Int) (t1 : List Int) : Option ((List Int) × Int) :=
  (f_line_Clean t0).bind fun x1 =>
  (cond (!(!x1.2)) (f_slices_Contains_api_Cell t0 (63 : Int)) (some false)).bind fun x2 =>
  cond (cond (!x1.2) true x2) (
    some ([], (180 : Int))) (
    (f_slices_Clone_api_Cell t0).bind fun x4 =>
    iter (fun loop (s : (List Int) × Int) => f_note_Refer_b1 t1 loop s.1 s.2) 1000000 (x4, (0 : Int)))
theorem f_note_Refer_ok {t0 : List Int} {t1 : List Int} {r : (List Int) × Int} (H : f_note_Refer t0 t1 = some r) : QSpec Tryd.prog 16 [slA (eI .u8) t0, slA (eI .i64) t1] (.tup [slA (eI .u8) r.1, .int .i64 r.2]) := by
  refine Spec.of_AW Tryd.func16 rfl (by simp [Tryd.ntmps16]) ?_
  rw [Tryd.ntmps16]
  unfold f_note_Refer at H
  change AW _ _ _ [(0, slA (eI .u8) t0), (1, slA (eI .i64) t1)] [] _
  refine AW.regionSeq ?_
  refine OpsW.seg 2 [0, 1] [] [(0, slA (eI .u8) t0), (1, slA (eI .i64) t1)] (by kernel_rfl) trivial ?_
  refine OpsW.nil ?_
  refine AW.seq ?_
  refine AW.regionSeq ?_
  refine OpsW.seg 1 [14, 0, 1] [] [(14, slA (eI .u8) t0), (0, slA (eI .u8) t0), (1, slA (eI .i64) t1)] (by kernel_rfl) trivial ?_
  obtain ⟨x1, hx1, H⟩ := bindS H
  refine OpsW.qcall rfl (by kernel_rfl) rfl rfl (glAll_sound trivial) (.cons (.pur rfl) .nil) (f_line_Clean_ok hx1) rfl ?_
  refine OpsW.seg 5 [7, 0, 1] [] [(7, .bool x1.2), (0, slA (eI .u8) t0), (1, slA (eI .i64) t1)] (by kernel_rfl) trivial ?_
  refine OpsW.nil ?_
  refine AW.regionSeq ?_
  refine OpsW.seg 4 [21, 20, 0, 1] [] [(21, .cnd (!(!x1.2)) (slA (eI .u8) t0)), (20, .bool (!x1.2)), (0, slA (eI .u8) t0), (1, slA (eI .i64) t1)] (by kernel_rfl) trivial ?_
  obtain ⟨x2, hx2, H⟩ := bindS H
  refine OpsW.gcall (c := !(!x1.2)) (r := .bool x2) [] rfl (by kernel_rfl) rfl rfl rfl rfl (fun hc => ⟨glAll_sound ⟨hc, trivial⟩, (.cons (.pur rfl) (.cons (.pur rfl) .nil)), f_slices_Contains_api_Cell_ok (condT hc hx2), .inl ⟨rfl, rfl⟩⟩) ?_
  refine OpsW.seg 1 [23, 0, 1] [(!x1.2) = false → (!(!x1.2)) = true] [(23, .bool (cond (!x1.2) true x2)), (0, slA (eI .u8) t0), (1, slA (eI .i64) t1)] (by kernel_rfl) ⟨(fun h => by first | exact h | simpa using h), trivial⟩ ?_
  refine OpsW.nil ?_
  refine AW.cond (b := cond (!x1.2) true x2) rfl (fun c3 => ?_) (fun c3 => ?_)
  · replace H := condT c3 H
    refine AW.regionSeq ?_
    refine OpsW.seg 2 [5, 4] [] [(5, .int .i64 (180 : Int)), (4, .im (.val (.slice none 0 0)))] (by kernel_rfl) trivial ?_
    refine OpsW.nil ?_
    obtain rfl := Option.some.inj H
    refine AW.recast (env' := [(4, slA (eI .u8) []), (5, .int .i64 (180 : Int))]) (h' := []) (StC.pure (.cons .nil (.cons .im .nil))) ?_
    refine AW.ret ?_
    try simp only [Ex.then, Ex.inBlock, Ex.noGoto, Ex.jump, reduceIte, Nat.reduceEqDiff, reduceCtorEq]
    refine Done.gen rfl (.tmp (.tmp .nil)) ?_
    show _ = _
    kernel_rfl
  · replace H := condF c3 H
    refine AW.skip ?_
    refine AW.regionSeq ?_
    refine OpsW.seg 1 [24, 1] [] [(24, slA (eI .u8) t0), (1, slA (eI .i64) t1)] (by kernel_rfl) trivial ?_
    obtain ⟨x4, hx4, H⟩ := bindS H
    refine OpsW.call rfl rfl (by kernel_rfl) [] _ _ rfl (glAll_sound trivial) (.cons (.pur rfl) .nil) (f_slices_Clone_api_Cell_own hx4) ?_
    rintro _ _ ⟨rfl, rfl⟩
    refine ⟨fresh_of (by kernel_rfl), .inl rfl, ?_⟩
    change OpsW _ _ _ _ [(25, .rsl 1000 0 0 x4.length), (24, slA (eI .u8) t0), (1, slA (eI .i64) t1)] [(1000, rtA 0 43 1 (eI .u8) x4)] _
    refine OpsW.recast (env' := [(25, .rsl 600 0 0 x4.length), (24, slA (eI .u8) t0), (1, slA (eI .i64) t1)]) (h' := [(600, rtA 0 43 1 (eI .u8) x4)]) (StC.mk (phi [(600, some 1000)]) (.old rfl rfl rfl rfl rfl (CstL.ims _) .nil) rfl (.cons (.rsl rfl rfl rfl rfl rfl rfl) (.cons .im (.cons .im .nil)))) ?_
    refine OpsW.seg 1 [8, 1] [] [(8, .rsl 600 0 0 x4.length), (1, slA (eI .i64) t1)] (by kernel_rfl) trivial ?_
    refine OpsW.recast (env' := [(8, .rsl 8 0 0 x4.length), (1, slA (eI .i64) t1)]) (h' := [(8, rtA 0 43 1 (eI .u8) x4)]) (StC.mk (phi [(8, some 600)]) (.old rfl rfl rfl rfl rfl (CstL.ims _) .nil) rfl (.cons (.rsl rfl rfl rfl rfl rfl rfl) (.cons .im .nil))) ?_
    refine OpsW.nil ?_
    refine AW.seq ?_
    refine AW.regionSeq ?_
    refine OpsW.seg 3 [28, 27, 26, 8, 1] [] [(28, .int .i64 (0 : Int)), (27, .int .i64 (t1.length : Int)), (26, slA (eI .i64) t1), (8, .rsl 8 0 0 x4.length), (1, slA (eI .i64) t1)] (by kernel_rfl) trivial ?_
    refine OpsW.nil ?_
    refine AW.block ?_
    refine AW.iterK (fun loop (s : (List Int) × Int) => f_note_Refer_b1 t1 loop s.1 s.2) r (fun (s : (List Int) × Int) => [(1, slA (eI .i64) t1), (8, .rsl 8 0 0 s.1.length), (26, slA (eI .i64) t1), (27, .int .i64 (t1.length : Int)), (28, .int .i64 s.2)]) (fun (s : (List Int) × Int) => [(8, rtA 0 43 1 (eI .u8) s.1)]) ?_ 1000000 (x4, (0 : Int)) H (StC.mk (phi [(8, some 8)]) (.old rfl rfl rfl rfl rfl (CstL.ims _) .nil) rfl (.cons .im (.cons (.rsl rfl rfl rfl rfl rfl rfl) (.cons .im (.cons .im (.cons .im .nil))))))
    intro loop7 s H
    obtain ⟨v5, v6⟩ := s
    change f_note_Refer_b1 t1 loop7 v5 v6 = some r at H
    unfold f_note_Refer_b1 at H
    change AW _ _ _ [(1, slA (eI .i64) t1), (8, .rsl 8 0 0 v5.length), (26, slA (eI .i64) t1), (27, .int .i64 (t1.length : Int)), (28, .int .i64 v6)] [(8, rtA 0 43 1 (eI .u8) v5)] _
    refine AW.regionSeq ?_
    refine OpsW.seg 1 [29, 1, 8, 26, 27, 28] [] [(29, .bool (decide (v6 < (t1.length : Int)))), (1, slA (eI .i64) t1), (8, .rsl 8 0 0 v5.length), (26, slA (eI .i64) t1), (27, .int .i64 (t1.length : Int)), (28, .int .i64 v6)] (by kernel_rfl) trivial ?_
    refine OpsW.nil ?_
    refine AW.seq ?_
    refine AW.cond (b := decide (v6 < (t1.length : Int))) rfl (fun c8 => ?_) (fun c8 => ?_)
    · replace H := condT c8 H
      refine AW.skip ?_
      refine AW.seq ?_
      refine AW.block ?_
      refine AW.regionSeq ?_
      obtain ⟨g9, H⟩ := G_some H
      refine OpsW.seg 2 [31, 30, 1, 8, 26, 27, 28] [0 ≤ v6 ∧ v6 < (t1.length : Int)] [(31, .ipt (t1.flatMap (eI .i64)) (v6.toNat * 1)), (30, .int .i64 v6), (1, slA (eI .i64) t1), (8, .rsl 8 0 0 v5.length), (26, slA (eI .i64) t1), (27, .int .i64 (t1.length : Int)), (28, .int .i64 v6)] (by kernel_rfl) ⟨g9, trivial⟩ ?_
      refine OpsW.asU (.int .i64 (t1.getD v6.toNat (0 : Int))) rfl rfl (T.load rfl trivial (by kernel_rfl) (fm_cell0 (eI .i64) 1 (fun _ => rfl) t1 (0 : Int) v6.toNat (ltN g9) (fun a => .val (.int .i64 a)) (fun _ => rfl))) ?_
      refine OpsW.seg 2 [10, 9, 1, 8, 26, 27, 28] [] [(10, .int .i64 (t1.getD v6.toNat (0 : Int))), (9, .int .i64 v6), (1, slA (eI .i64) t1), (8, .rsl 8 0 0 v5.length), (26, slA (eI .i64) t1), (27, .int .i64 (t1.length : Int)), (28, .int .i64 v6)] (by kernel_rfl) trivial ?_
      refine OpsW.nil ?_
      refine AW.seq ?_
      refine AW.regionSeq ?_
      obtain ⟨g10, H⟩ := G_some H
      obtain ⟨g11, H⟩ := G_some H
      refine OpsW.seg 15 [47, 43, 42, 39, 10, 1, 8, 26, 27, 28] [(!(decide ((t1.getD v6.toNat (0 : Int)) < (1 : Int)))) = true → (!(decide ((t1.getD v6.toNat (0 : Int)) < (1 : Int)))) = true, (decide ((t1.getD v6.toNat (0 : Int)) < (1 : Int))) = false → (!(decide ((t1.getD v6.toNat (0 : Int)) < (1 : Int)))) = true, (!(cond (decide ((t1.getD v6.toNat (0 : Int)) < (1 : Int))) true (decide ((99999 : Int) < (t1.getD v6.toNat (0 : Int)))))) = true → (!(cond (decide ((t1.getD v6.toNat (0 : Int)) < (1 : Int))) true (decide ((99999 : Int) < (t1.getD v6.toNat (0 : Int)))))) = true, (!(cond (decide ((t1.getD v6.toNat (0 : Int)) < (1 : Int))) true (decide ((99999 : Int) < (t1.getD v6.toNat (0 : Int)))))) = true → (!(cond (decide ((t1.getD v6.toNat (0 : Int)) < (1 : Int))) true (decide ((99999 : Int) < (t1.getD v6.toNat (0 : Int)))))) = true, ((!(cond (decide ((t1.getD v6.toNat (0 : Int)) < (1 : Int))) true (decide ((99999 : Int) < (t1.getD v6.toNat (0 : Int)))))) && (decide ((0 : Int) < v6))) = true → ((!(cond (decide ((t1.getD v6.toNat (0 : Int)) < (1 : Int))) true (decide ((99999 : Int) < (t1.getD v6.toNat (0 : Int)))))) && (decide ((0 : Int) < v6))) = true, ((!(cond (decide ((t1.getD v6.toNat (0 : Int)) < (1 : Int))) true (decide ((99999 : Int) < (t1.getD v6.toNat (0 : Int)))))) && (decide ((0 : Int) < v6))) = true → inR (v6 - (1 : Int)), ((!(cond (decide ((t1.getD v6.toNat (0 : Int)) < (1 : Int))) true (decide ((99999 : Int) < (t1.getD v6.toNat (0 : Int)))))) && (decide ((0 : Int) < v6))) = true → ((!(cond (decide ((t1.getD v6.toNat (0 : Int)) < (1 : Int))) true (decide ((99999 : Int) < (t1.getD v6.toNat (0 : Int)))))) && (decide ((0 : Int) < v6))) = true, ((!(cond (decide ((t1.getD v6.toNat (0 : Int)) < (1 : Int))) true (decide ((99999 : Int) < (t1.getD v6.toNat (0 : Int)))))) && (decide ((0 : Int) < v6))) = true → ((!(cond (decide ((t1.getD v6.toNat (0 : Int)) < (1 : Int))) true (decide ((99999 : Int) < (t1.getD v6.toNat (0 : Int)))))) && (decide ((0 : Int) < v6))) = true, ((!(cond (decide ((t1.getD v6.toNat (0 : Int)) < (1 : Int))) true (decide ((99999 : Int) < (t1.getD v6.toNat (0 : Int)))))) && (decide ((0 : Int) < v6))) = true → (0 ≤ (v6 - (1 : Int)) ∧ (v6 - (1 : Int)) < (t1.length : Int))] [(47, .cnd ((!(cond (decide ((t1.getD v6.toNat (0 : Int)) < (1 : Int))) true (decide ((99999 : Int) < (t1.getD v6.toNat (0 : Int)))))) && (decide ((0 : Int) < v6))) (.ipt (t1.flatMap (eI .i64)) ((v6 - (1 : Int)).toNat * 1))), (43, .cnd ((!(cond (decide ((t1.getD v6.toNat (0 : Int)) < (1 : Int))) true (decide ((99999 : Int) < (t1.getD v6.toNat (0 : Int)))))) && (decide ((0 : Int) < v6))) (.int .i64 (t1.getD v6.toNat (0 : Int)))), (42, .cnd (!(cond (decide ((t1.getD v6.toNat (0 : Int)) < (1 : Int))) true (decide ((99999 : Int) < (t1.getD v6.toNat (0 : Int)))))) (.bool (decide ((0 : Int) < v6)))), (39, .bool (cond (decide ((t1.getD v6.toNat (0 : Int)) < (1 : Int))) true (decide ((99999 : Int) < (t1.getD v6.toNat (0 : Int)))))), (10, .int .i64 (t1.getD v6.toNat (0 : Int))), (1, slA (eI .i64) t1), (8, .rsl 8 0 0 v5.length), (26, slA (eI .i64) t1), (27, .int .i64 (t1.length : Int)), (28, .int .i64 v6)] (by kernel_rfl) ⟨(fun h => h), (fun h => by first | exact h | simpa using h), (fun h => h), (fun h => h), (fun h => h), g10, (fun h => h), (fun h => h), g11, trivial⟩ ?_
      refine OpsW.asG (c := (!(cond (decide ((t1.getD v6.toNat (0 : Int)) < (1 : Int))) true (decide ((99999 : Int) < (t1.getD v6.toNat (0 : Int)))))) && (decide ((0 : Int) < v6))) (.int .i64 (t1.getD (v6 - (1 : Int)).toNat (0 : Int))) rfl rfl rfl rfl (fun hc => T.load rfl hc (by kernel_rfl) (fm_cell0 (eI .i64) 1 (fun _ => rfl) t1 (0 : Int) (v6 - (1 : Int)).toNat (ltN (g11 hc)) (fun a => .val (.int .i64 a)) (fun _ => rfl))) ?_
      obtain ⟨g12, H⟩ := G_some H
      refine OpsW.seg 4 [52, 10, 1, 8, 26, 27, 28] [((!(cond (decide ((t1.getD v6.toNat (0 : Int)) < (1 : Int))) true (decide ((99999 : Int) < (t1.getD v6.toNat (0 : Int)))))) && (decide ((0 : Int) < v6))) = true → ((!(cond (decide ((t1.getD v6.toNat (0 : Int)) < (1 : Int))) true (decide ((99999 : Int) < (t1.getD v6.toNat (0 : Int)))))) && (decide ((0 : Int) < v6))) = true, ((!(cond (decide ((t1.getD v6.toNat (0 : Int)) < (1 : Int))) true (decide ((99999 : Int) < (t1.getD v6.toNat (0 : Int)))))) && (decide ((0 : Int) < v6))) = true → inR ((t1.getD (v6 - (1 : Int)).toNat (0 : Int)) + (1 : Int)), ((!(cond (decide ((t1.getD v6.toNat (0 : Int)) < (1 : Int))) true (decide ((99999 : Int) < (t1.getD v6.toNat (0 : Int)))))) && (decide ((0 : Int) < v6))) = true → ((!(cond (decide ((t1.getD v6.toNat (0 : Int)) < (1 : Int))) true (decide ((99999 : Int) < (t1.getD v6.toNat (0 : Int)))))) && (decide ((0 : Int) < v6))) = true, ((!(cond (decide ((t1.getD v6.toNat (0 : Int)) < (1 : Int))) true (decide ((99999 : Int) < (t1.getD v6.toNat (0 : Int)))))) && (decide ((0 : Int) < v6))) = true → ((!(cond (decide ((t1.getD v6.toNat (0 : Int)) < (1 : Int))) true (decide ((99999 : Int) < (t1.getD v6.toNat (0 : Int)))))) && (decide ((0 : Int) < v6))) = true, (!(cond (decide ((t1.getD v6.toNat (0 : Int)) < (1 : Int))) true (decide ((99999 : Int) < (t1.getD v6.toNat (0 : Int)))))) = true → (!(cond (decide ((t1.getD v6.toNat (0 : Int)) < (1 : Int))) true (decide ((99999 : Int) < (t1.getD v6.toNat (0 : Int)))))) = true, (!(cond (decide ((t1.getD v6.toNat (0 : Int)) < (1 : Int))) true (decide ((99999 : Int) < (t1.getD v6.toNat (0 : Int)))))) = true → ((decide ((0 : Int) < v6)) = true → ((!(cond (decide ((t1.getD v6.toNat (0 : Int)) < (1 : Int))) true (decide ((99999 : Int) < (t1.getD v6.toNat (0 : Int)))))) && (decide ((0 : Int) < v6))) = true), (cond (decide ((t1.getD v6.toNat (0 : Int)) < (1 : Int))) true (decide ((99999 : Int) < (t1.getD v6.toNat (0 : Int))))) = false → (!(cond (decide ((t1.getD v6.toNat (0 : Int)) < (1 : Int))) true (decide ((99999 : Int) < (t1.getD v6.toNat (0 : Int)))))) = true] [(52, .bool (cond (cond (decide ((t1.getD v6.toNat (0 : Int)) < (1 : Int))) true (decide ((99999 : Int) < (t1.getD v6.toNat (0 : Int))))) true (cond (decide ((0 : Int) < v6)) ((t1.getD v6.toNat (0 : Int)) != ((t1.getD (v6 - (1 : Int)).toNat (0 : Int)) + (1 : Int))) false))), (10, .int .i64 (t1.getD v6.toNat (0 : Int))), (1, slA (eI .i64) t1), (8, .rsl 8 0 0 v5.length), (26, slA (eI .i64) t1), (27, .int .i64 (t1.length : Int)), (28, .int .i64 v6)] (by kernel_rfl) ⟨(fun h => h), g12, (fun h => h), (fun h => h), (fun h => h), (fun h0 h => by first | exact h | (simp [h0, h]; done) | (simp at h0 h ⊢; simp [h0, h]; done) | (simp_all; done)), (fun h => by first | exact h | simpa using h), trivial⟩ ?_
      refine OpsW.nil ?_
      refine AW.cond (b := cond (cond (decide ((t1.getD v6.toNat (0 : Int)) < (1 : Int))) true (decide ((99999 : Int) < (t1.getD v6.toNat (0 : Int))))) true (cond (decide ((0 : Int) < v6)) ((t1.getD v6.toNat (0 : Int)) != ((t1.getD (v6 - (1 : Int)).toNat (0 : Int)) + (1 : Int))) false)) rfl (fun c13 => ?_) (fun c13 => ?_)
      · replace H := condT c13 H
        refine AW.regionSeq ?_
        refine OpsW.seg 2 [5, 4] [] [(5, .int .i64 (220 : Int)), (4, .im (.val (.slice none 0 0)))] (by kernel_rfl) trivial ?_
        refine OpsW.nil ?_
        obtain rfl := Option.some.inj H
        refine AW.recast (env' := [(4, slA (eI .u8) []), (5, .int .i64 (220 : Int))]) (h' := []) (StC.pure (.cons .nil (.cons .im .nil))) ?_
        refine AW.ret ?_
        try simp only [Ex.then, Ex.inBlock, Ex.noGoto, Ex.jump, reduceIte, Nat.reduceEqDiff, reduceCtorEq]
        refine Done.gen rfl (.tmp (.tmp .nil)) ?_
        show _ = _
        kernel_rfl
      · replace H := condF c13 H
        refine AW.skip ?_
        refine AW.regionSeq ?_
        refine OpsW.seg 1 [54, 1, 8, 26, 27, 28] [] [(54, .int .i64 (t1.getD v6.toNat (0 : Int))), (1, slA (eI .i64) t1), (8, .rsl 8 0 0 v5.length), (26, slA (eI .i64) t1), (27, .int .i64 (t1.length : Int)), (28, .int .i64 v6)] (by kernel_rfl) trivial ?_
        obtain ⟨x14, hx14, H⟩ := bindS H
        refine OpsW.qcall rfl (by kernel_rfl) rfl rfl (glAll_sound trivial) (.cons (.pur rfl) .nil) (f_number_Write_ok hx14) rfl ?_
        refine OpsW.seg 5 [12, 11, 1, 8, 26, 27, 28] [] [(12, .int .i64 x14.2), (11, slA (eI .u8) x14.1), (1, slA (eI .i64) t1), (8, .rsl 8 0 0 v5.length), (26, slA (eI .i64) t1), (27, .int .i64 (t1.length : Int)), (28, .int .i64 v6)] (by kernel_rfl) trivial ?_
        refine OpsW.nil ?_
        refine AW.seq ?_
        refine AW.regionSeq ?_
        refine OpsW.seg 2 [59, 11, 1, 8, 26, 27, 28] [] [(59, .bool (x14.2 != (0 : Int))), (11, slA (eI .u8) x14.1), (1, slA (eI .i64) t1), (8, .rsl 8 0 0 v5.length), (26, slA (eI .i64) t1), (27, .int .i64 (t1.length : Int)), (28, .int .i64 v6)] (by kernel_rfl) trivial ?_
        refine OpsW.nil ?_
        refine AW.cond (b := x14.2 != (0 : Int)) rfl (fun c15 => ?_) (fun c15 => ?_)
        · replace H := condT c15 H
          refine AW.regionSeq ?_
          refine OpsW.seg 2 [5, 4] [] [(5, .int .i64 (220 : Int)), (4, .im (.val (.slice none 0 0)))] (by kernel_rfl) trivial ?_
          refine OpsW.nil ?_
          obtain rfl := Option.some.inj H
          refine AW.recast (env' := [(4, slA (eI .u8) []), (5, .int .i64 (220 : Int))]) (h' := []) (StC.pure (.cons .nil (.cons .im .nil))) ?_
          refine AW.ret ?_
          try simp only [Ex.then, Ex.inBlock, Ex.noGoto, Ex.jump, reduceIte, Nat.reduceEqDiff, reduceCtorEq]
          refine Done.gen rfl (.tmp (.tmp .nil)) ?_
          show _ = _
          kernel_rfl
        · replace H := condF c15 H
          refine AW.skip ?_
          refine AW.region ?_
          refine OpsW.seg 1 [60, 11, 1, 8, 26, 27, 28] [] [(60, .rsl 8 0 0 v5.length), (11, slA (eI .u8) x14.1), (1, slA (eI .i64) t1), (8, .rsl 8 0 0 v5.length), (26, slA (eI .i64) t1), (27, .int .i64 (t1.length : Int)), (28, .int .i64 v6)] (by kernel_rfl) trivial ?_
          obtain ⟨g16, H⟩ := G_some H
          refine OpsW.appendLF (enc := eI .u8) [(0 : Int), (63 : Int)] rfl rfl rfl (by decide) rfl rfl rfl (by simp) E34 (fun _ => rfl) (by decide) trivial (by kernel_rfl) (by kernel_rfl) (by kernel_rfl) rfl rfl rfl g16 ?_
          refine OpsW.seg 1 [63, 62, 1, 8, 26, 27, 28] [] [(63, slA (eI .u8) x14.1), (62, .rsl 8 1 0 ((v5 ++ [(0 : Int), (63 : Int)]).length)), (1, slA (eI .i64) t1), (8, .rsl 8 0 0 v5.length), (26, slA (eI .i64) t1), (27, .int .i64 (t1.length : Int)), (28, .int .i64 v6)] (by kernel_rfl) trivial ?_
          obtain ⟨g17, H⟩ := G_some H
          refine OpsW.appendF (enc := eI .u8) (ys := x14.1) rfl rfl rfl E34 (fun _ => rfl) rfl rfl trivial (SrcA.typed (enc := eI .u8) (fun _ => rfl) (by kernel_rfl) x14.1) rfl g17 ?_
          refine OpsW.seg 1 [8, 1, 26, 27, 28] [] [(8, .rsl 8 2 0 (((v5 ++ [(0 : Int), (63 : Int)]) ++ x14.1).length)), (1, slA (eI .i64) t1), (26, slA (eI .i64) t1), (27, .int .i64 (t1.length : Int)), (28, .int .i64 v6)] (by kernel_rfl) trivial ?_
          refine OpsW.recast (env' := [(8, .rsl 8 0 0 (((v5 ++ [(0 : Int), (63 : Int)]) ++ x14.1).length)), (1, slA (eI .i64) t1), (26, slA (eI .i64) t1), (27, .int .i64 (t1.length : Int)), (28, .int .i64 v6)]) (h' := [(8, rtA 0 43 1 (eI .u8) ((v5 ++ [(0 : Int), (63 : Int)]) ++ x14.1))]) (StC.mk (phi [(8, some 8)]) (.old rfl rfl rfl rfl rfl (CstL.ims _) .nil) rfl (.cons (.rsl rfl rfl rfl rfl rfl rfl) (.cons .im (.cons .im (.cons .im (.cons .im .nil)))))) ?_
          refine OpsW.nil ?_
          refine AW.region ?_
          obtain ⟨g18, H⟩ := G_some H
          refine OpsW.seg 2 [28, 8, 1, 26, 27] [inR (v6 + (1 : Int))] [(28, .int .i64 (v6 + (1 : Int))), (8, .rsl 8 0 0 (((v5 ++ [(0 : Int), (63 : Int)]) ++ x14.1).length)), (1, slA (eI .i64) t1), (26, slA (eI .i64) t1), (27, .int .i64 (t1.length : Int))] (by kernel_rfl) ⟨g18, trivial⟩ ?_
          refine OpsW.nil ?_
          show ∃ y, _ ∧ StC _ _ _ _
          exact ⟨((v5 ++ [(0 : Int), (63 : Int)]) ++ x14.1, v6 + (1 : Int)), H, (StC.mk (phi [(8, some 8)]) (.old rfl rfl rfl rfl rfl (CstL.ims _) .nil) rfl (.cons .im (.cons (.rsl rfl rfl rfl rfl rfl rfl) (.cons .im (.cons .im (.cons .im .nil))))))⟩
    · replace H := condF c8 H
      refine AW.exit ?_
      refine AW.regionSeq ?_
      refine OpsW.seg 3 [5, 4] [] [(5, .int .i64 (0 : Int)), (4, .rsl 8 0 0 v5.length)] (by kernel_rfl) trivial ?_
      refine OpsW.recast (env' := [(5, .int .i64 (0 : Int)), (4, slA (eI .u8) v5)]) (h' := []) (StC.mk (phi []) .nil rfl (.cons .im (.cons (.frz rfl rfl rfl (frz_all (eI .u8) 1 (fun _ => rfl) v5) (fm_length (eI .u8) 1 (fun _ => rfl) v5) (phi_ne rfl)) .nil))) ?_
      refine OpsW.nil ?_
      obtain rfl := Option.some.inj H
      refine AW.recast (env' := [(4, slA (eI .u8) v5), (5, .int .i64 (0 : Int))]) (h' := []) (StC.pure (.cons .im (.cons .im .nil))) ?_
      refine AW.ret ?_
      try simp only [Ex.then, Ex.inBlock, Ex.noGoto, Ex.jump, reduceIte, Nat.reduceEqDiff, reduceCtorEq]
      refine Done.gen rfl (.tmp (.tmp .nil)) ?_
      show _ = _
      kernel_rfl
def f_R01_Same_b1 (t0 : List Int) (t1 : List Int) (loop3 : (Int) → Option Bool) (v2 : Int) : Option Bool :=
  cond (decide (v2 < (t0.length : Int))) (
    G (0 ≤ v2 ∧ v2 < (t0.length : Int)) <|
    G (0 ≤ v2 ∧ v2 < (t1.length : Int)) <|
    cond ((t0.getD v2.toNat (0 : Int)) != (t1.getD v2.toNat (0 : Int))) (
      some false) (
      G (inR (v2 + (1 : Int))) <|
      loop3 (v2 + (1 : Int)))) (
    some true)
def f_R01_Same (t0 : List Int) (t1 : List Int) : Option Bool :=
  cond ((t0.length : Int) != (t1.length : Int)) (
    some false) (
    iter (fun loop (s : Int) => f_R01_Same_b1 t0 t1 loop s) 1000000 (0 : Int))
theorem f_R01_Same_ok {t0 : List Int} {t1 : List Int} {r : Bool} (H : f_R01_Same t0 t1 = some r) : QSpec Tryd.prog 17 [slA (eI .u8) t0, slA (eI .u8) t1] (.bool r) := by
  refine Spec.of_AW Tryd.func17 rfl (by simp [Tryd.ntmps17]) ?_
  rw [Tryd.ntmps17]
  unfold f_R01_Same at H
  change AW _ _ _ [(0, slA (eI .u8) t0), (1, slA (eI .u8) t1)] [] _
  refine AW.regionSeq ?_
  refine OpsW.seg 1 [0, 1] [] [(0, slA (eI .u8) t0), (1, slA (eI .u8) t1)] (by kernel_rfl) trivial ?_
  refine OpsW.nil ?_
  refine AW.seq ?_
  refine AW.regionSeq ?_
  refine OpsW.seg 5 [10, 0, 1] [] [(10, .bool ((t0.length : Int) != (t1.length : Int))), (0, slA (eI .u8) t0), (1, slA (eI .u8) t1)] (by kernel_rfl) trivial ?_
  refine OpsW.nil ?_
  refine AW.cond (b := (t0.length : Int) != (t1.length : Int)) rfl (fun c1 => ?_) (fun c1 => ?_)
  · replace H := condT c1 H
    refine AW.regionSeq ?_
    refine OpsW.seg 1 [4] [] [(4, .bool false)] (by kernel_rfl) trivial ?_
    refine OpsW.nil ?_
    obtain rfl := Option.some.inj H
    refine AW.recast (env' := [(4, .bool false)]) (h' := []) (StC.pure (.cons .im .nil)) ?_
    refine AW.ret ?_
    try simp only [Ex.then, Ex.inBlock, Ex.noGoto, Ex.jump, reduceIte, Nat.reduceEqDiff, reduceCtorEq]
    refine Done.gen rfl (.tmp .nil) ?_
    show _ = _
    kernel_rfl
  · replace H := condF c1 H
    refine AW.skip ?_
    refine AW.seq ?_
    refine AW.regionSeq ?_
    refine OpsW.seg 1 [5, 0, 1] [] [(5, .int .i64 (0 : Int)), (0, slA (eI .u8) t0), (1, slA (eI .u8) t1)] (by kernel_rfl) trivial ?_
    refine OpsW.nil ?_
    refine AW.block ?_
    refine AW.iterK (fun loop (s : Int) => f_R01_Same_b1 t0 t1 loop s) r (fun (s : Int) => [(0, slA (eI .u8) t0), (1, slA (eI .u8) t1), (5, .int .i64 s)]) (fun (s : Int) => []) ?_ 1000000 (0 : Int) H (StC.pure (.cons .im (.cons .im (.cons .im .nil))))
    intro loop3 v2 H
    change f_R01_Same_b1 t0 t1 loop3 v2 = some r at H
    unfold f_R01_Same_b1 at H
    change AW _ _ _ [(0, slA (eI .u8) t0), (1, slA (eI .u8) t1), (5, .int .i64 v2)] [] _
    refine AW.seq ?_
    refine AW.regionSeq ?_
    refine OpsW.seg 4 [14, 0, 1, 5] [] [(14, .bool (decide (v2 < (t0.length : Int)))), (0, slA (eI .u8) t0), (1, slA (eI .u8) t1), (5, .int .i64 v2)] (by kernel_rfl) trivial ?_
    refine OpsW.nil ?_
    refine AW.cond (b := decide (v2 < (t0.length : Int))) rfl (fun c4 => ?_) (fun c4 => ?_)
    · replace H := condT c4 H
      refine AW.skip ?_
      refine AW.seq ?_
      refine AW.block ?_
      refine AW.drawSeq Tryd.checked.mixed (by kernel_rfl) ?_
      obtain ⟨g5, H⟩ := G_some H
      refine QOps.seg (N := 26) 3 [0 ≤ v2 ∧ v2 < (t0.length : Int)] [(19, .ipt (t0.flatMap (eI .u8)) (v2.toNat * 1)), (18, .int .i64 v2), (17, slA (eI .u8) t0), (14, .bool (decide (v2 < (t0.length : Int)))), (0, slA (eI .u8) t0), (1, slA (eI .u8) t1), (5, .int .i64 v2)] (by kernel_rfl) ⟨g5, trivial⟩ ?_
      refine QOps.asU (.int .u8 (t0.getD v2.toNat (0 : Int))) rfl (T.load rfl trivial (by kernel_rfl) (fm_cell0 (eI .u8) 1 (fun _ => rfl) t0 (0 : Int) v2.toNat (ltN g5) (fun a => .val (.int .u8 a)) (fun _ => rfl))) ?_
      obtain ⟨g6, H⟩ := G_some H
      refine QOps.seg (N := 26) 3 [0 ≤ v2 ∧ v2 < (t1.length : Int)] [(23, .ipt (t1.flatMap (eI .u8)) (v2.toNat * 1)), (22, .int .i64 v2), (21, slA (eI .u8) t1), (20, .int .u8 (t0.getD v2.toNat (0 : Int))), (19, .ipt (t0.flatMap (eI .u8)) (v2.toNat * 1)), (18, .int .i64 v2), (17, slA (eI .u8) t0), (14, .bool (decide (v2 < (t0.length : Int)))), (0, slA (eI .u8) t0), (1, slA (eI .u8) t1), (5, .int .i64 v2)] (by kernel_rfl) ⟨g6, trivial⟩ ?_
      refine QOps.asU (.int .u8 (t1.getD v2.toNat (0 : Int))) rfl (T.load rfl trivial (by kernel_rfl) (fm_cell0 (eI .u8) 1 (fun _ => rfl) t1 (0 : Int) v2.toNat (ltN g6) (fun a => .val (.int .u8 a)) (fun _ => rfl))) ?_
      refine QOps.seg (N := 26) 1 [] [(25, .bool ((t0.getD v2.toNat (0 : Int)) != (t1.getD v2.toNat (0 : Int)))), (24, .int .u8 (t1.getD v2.toNat (0 : Int))), (23, .ipt (t1.flatMap (eI .u8)) (v2.toNat * 1)), (22, .int .i64 v2), (21, slA (eI .u8) t1), (20, .int .u8 (t0.getD v2.toNat (0 : Int))), (19, .ipt (t0.flatMap (eI .u8)) (v2.toNat * 1)), (18, .int .i64 v2), (17, slA (eI .u8) t0), (14, .bool (decide (v2 < (t0.length : Int)))), (0, slA (eI .u8) t0), (1, slA (eI .u8) t1), (5, .int .i64 v2)] (by kernel_rfl) trivial ?_
      refine QOps.nil ?_
      refine AW.trim [25, 0, 1, 5] [(25, .bool ((t0.getD v2.toNat (0 : Int)) != (t1.getD v2.toNat (0 : Int)))), (0, slA (eI .u8) t0), (1, slA (eI .u8) t1), (5, .int .i64 v2)] (by kernel_rfl) ?_
      refine AW.cond (b := (t0.getD v2.toNat (0 : Int)) != (t1.getD v2.toNat (0 : Int))) rfl (fun c7 => ?_) (fun c7 => ?_)
      · replace H := condT c7 H
        refine AW.regionSeq ?_
        refine OpsW.seg 1 [4] [] [(4, .bool false)] (by kernel_rfl) trivial ?_
        refine OpsW.nil ?_
        obtain rfl := Option.some.inj H
        refine AW.recast (env' := [(4, .bool false)]) (h' := []) (StC.pure (.cons .im .nil)) ?_
        refine AW.ret ?_
        try simp only [Ex.then, Ex.inBlock, Ex.noGoto, Ex.jump, reduceIte, Nat.reduceEqDiff, reduceCtorEq]
        refine Done.gen rfl (.tmp .nil) ?_
        show _ = _
        kernel_rfl
      · replace H := condF c7 H
        refine AW.skip ?_
        refine AW.region ?_
        obtain ⟨g8, H⟩ := G_some H
        refine OpsW.seg 3 [5, 0, 1] [inR (v2 + (1 : Int))] [(5, .int .i64 (v2 + (1 : Int))), (0, slA (eI .u8) t0), (1, slA (eI .u8) t1)] (by kernel_rfl) ⟨g8, trivial⟩ ?_
        refine OpsW.nil ?_
        show ∃ y, _ ∧ StC _ _ _ _
        exact ⟨v2 + (1 : Int), H, (StC.pure (.cons .im (.cons .im (.cons .im .nil))))⟩
    · replace H := condF c4 H
      refine AW.exit ?_
      refine AW.regionSeq ?_
      refine OpsW.seg 1 [4] [] [(4, .bool true)] (by kernel_rfl) trivial ?_
      refine OpsW.nil ?_
      obtain rfl := Option.some.inj H
      refine AW.recast (env' := [(4, .bool true)]) (h' := []) (StC.pure (.cons .im .nil)) ?_
      refine AW.ret ?_
      try simp only [Ex.then, Ex.inBlock, Ex.noGoto, Ex.jump, reduceIte, Nat.reduceEqDiff, reduceCtorEq]
      refine Done.gen rfl (.tmp .nil) ?_
      show _ = _
      kernel_rfl
def f_number_Read_k1 (t0 : List Int) (v3 : Int) (v4 : Int) : Option (Int × Int × Int) :=
  G (((!(v4 == (1 : Int))) && (decide ((2 : Int) < v4))) = true → (0 ≤ (1 : Int) ∧ (1 : Int) < (t0.length : Int))) <|
  cond (cond (v4 == (1 : Int)) true (cond (decide ((2 : Int) < v4)) ((t0.getD (1 : Int).toNat (0 : Int)) == (tab_number_digits.getD (0 : Int).toNat (0 : Int))) false)) (
    some ((0 : Int), (0 : Int), (190 : Int))) (
    some (v3, v4, (0 : Int)))
def f_number_Read_b1 (t0 : List Int) (loop9 : (Int × Int) → Option (Int × Int × Int)) (loop14 : (Int × Int × Int) → Option (Int × Int × Int)) (v11 : Int) (v12 : Int) (v13 : Int) : Option (Int × Int × Int) :=
  cond (decide (v13 < (10 : Int))) (
    G (0 ≤ v13 ∧ v13 < (10 : Int)) <|
    G (tab_number_digits.length = 10) <|
    G (0 ≤ v12 ∧ v12 < (t0.length : Int)) <|
    cond ((tab_number_digits.getD v13.toNat (0 : Int)) == (t0.getD v12.toNat (0 : Int))) (
      cond (decide ((5 : Int) < v12)) (
        some ((0 : Int), (0 : Int), (190 : Int))) (
        G (inR ((10 : Int) * v11)) <|
        G (inR (((10 : Int) * v11) + v13)) <|
        G (inR (v12 + (1 : Int))) <|
        loop9 (((10 : Int) * v11) + v13, v12 + (1 : Int)))) (
      G (inR (v13 + (1 : Int))) <|
      loop14 (v11, v12, v13 + (1 : Int)))) (
    f_number_Read_k1 t0 v11 v12)
def f_number_Read_b2 (t0 : List Int) (loop9 : (Int × Int) → Option (Int × Int × Int)) (v7 : Int) (v8 : Int) : Option (Int × Int × Int) :=
  cond (decide (v8 < (t0.length : Int))) (
    iter (fun loop (s : Int × Int × Int) => f_number_Read_b1 t0 loop9 loop s.1 s.2.1 s.2.2) 1000000 (v7, v8, (0 : Int))) (
    f_number_Read_k1 t0 v7 v8)
def f_number_Read_k2 (t0 : List Int) (v1 : Int) (v2 : Int) : Option (Int × Int × Int) :=
  iter (fun loop (s : Int × Int) => f_number_Read_b2 t0 loop s.1 s.2) 1000000 (v1, v2)
def f_number_Read_k3 (t0 : List Int) (v27 : Int) (v28 : Int) : Option (Int × Int × Int) :=
  G (((!(v28 == (1 : Int))) && (decide ((2 : Int) < v28))) = true → (0 ≤ (1 : Int) ∧ (1 : Int) < (t0.length : Int))) <|
  cond (cond (v28 == (1 : Int)) true (cond (decide ((2 : Int) < v28)) ((t0.getD (1 : Int).toNat (0 : Int)) == (tab_number_digits.getD (0 : Int).toNat (0 : Int))) false)) (
    some ((0 : Int), (0 : Int), (190 : Int))) (
    some (v27, v28, (0 : Int)))
def f_number_Read_b3 (t0 : List Int) (loop33 : (Int × Int) → Option (Int × Int × Int)) (loop38 : (Int × Int × Int) → Option (Int × Int × Int)) (v35 : Int) (v36 : Int) (v37 : Int) : Option (Int × Int × Int) :=
  cond (decide (v37 < (10 : Int))) (
    G (0 ≤ v37 ∧ v37 < (10 : Int)) <|
    G (tab_number_digits.length = 10) <|
    G (0 ≤ v36 ∧ v36 < (t0.length : Int)) <|
    cond ((tab_number_digits.getD v37.toNat (0 : Int)) == (t0.getD v36.toNat (0 : Int))) (
      cond (decide ((5 : Int) < v36)) (
        some ((0 : Int), (0 : Int), (190 : Int))) (
        G (inR ((10 : Int) * v35)) <|
        G (inR (((10 : Int) * v35) + v37)) <|
        G (inR (v36 + (1 : Int))) <|
        loop33 (((10 : Int) * v35) + v37, v36 + (1 : Int)))) (
      G (inR (v37 + (1 : Int))) <|
      loop38 (v35, v36, v37 + (1 : Int)))) (
    f_number_Read_k3 t0 v35 v36)
def f_number_Read_b4 (t0 : List Int) (loop33 : (Int × Int) → Option (Int × Int × Int)) (v31 : Int) (v32 : Int) : Option (Int × Int × Int) :=
  cond (decide (v32 < (t0.length : Int))) (
    iter (fun loop (s : Int × Int × Int) => f_number_Read_b3 t0 loop33 loop s.1 s.2.1 s.2.2) 1000000 (v31, v32, (0 : Int))) (
    f_number_Read_k3 t0 v31 v32)
def f_number_Read (t0 : List Int) : Option (Int × Int × Int) :=
  G ((!((t0.length : Int) == (0 : Int))) = true → (0 ≤ (0 : Int) ∧ (0 : Int) < (t0.length : Int))) <|
  cond (cond ((t0.length : Int) == (0 : Int)) true ((t0.getD (0 : Int).toNat (0 : Int)) != (60 : Int))) (
    some ((0 : Int), (0 : Int), (190 : Int))) (
    iter (fun loop (s : Int × Int) => f_number_Read_b4 t0 loop s.1 s.2) 1000000 ((0 : Int), (1 : Int)))
theorem f_number_Read_ok {t0 : List Int} {r : Int × Int × Int} (H : f_number_Read t0 = some r) : QSpec Tryd.prog 27 [slA (eI .u8) t0] (.tup [.int .i64 r.1, .int .i64 r.2.1, .int .i64 r.2.2]) := by
  refine Spec.of_AW Tryd.func27 rfl (by simp [Tryd.ntmps27]) ?_
  rw [Tryd.ntmps27]
  unfold f_number_Read at H
  change AW _ _ _ [(0, slA (eI .u8) t0)] [] _
  refine AW.regionSeq ?_
  refine OpsW.seg 3 [0] [] [(0, slA (eI .u8) t0)] (by kernel_rfl) trivial ?_
  refine OpsW.nil ?_
  refine AW.scopeK 0 (fun (y : Int × Int) => f_number_Read_k2 t0 y.1 y.2) r (fun (y : Int × Int) => [(0, slA (eI .u8) t0), (5, .int .i64 y.1), (6, .int .i64 y.2)]) (fun (y : Int × Int) => []) rfl ?_ ?_
  · refine AW.seq ?_
    refine AW.regionSeq ?_
    obtain ⟨g25, H⟩ := G_some H
    refine OpsW.seg 6 [14, 12, 0] [(!((t0.length : Int) == (0 : Int))) = true → (!((t0.length : Int) == (0 : Int))) = true, (!((t0.length : Int) == (0 : Int))) = true → (0 ≤ (0 : Int) ∧ (0 : Int) < (t0.length : Int))] [(14, .cnd (!((t0.length : Int) == (0 : Int))) (.ipt (t0.flatMap (eI .u8)) ((0 : Int).toNat * 1))), (12, .bool ((t0.length : Int) == (0 : Int))), (0, slA (eI .u8) t0)] (by kernel_rfl) ⟨(fun h => h), g25, trivial⟩ ?_
    refine OpsW.asG (c := !((t0.length : Int) == (0 : Int))) (.int .u8 (t0.getD (0 : Int).toNat (0 : Int))) rfl rfl rfl rfl (fun hc => T.load rfl hc (by kernel_rfl) (fm_cell0 (eI .u8) 1 (fun _ => rfl) t0 (0 : Int) (0 : Int).toNat (ltN (g25 hc)) (fun a => .val (.int .u8 a)) (fun _ => rfl))) ?_
    refine OpsW.seg 2 [17, 0] [(!((t0.length : Int) == (0 : Int))) = true → (!((t0.length : Int) == (0 : Int))) = true, ((t0.length : Int) == (0 : Int)) = false → (!((t0.length : Int) == (0 : Int))) = true] [(17, .bool (cond ((t0.length : Int) == (0 : Int)) true ((t0.getD (0 : Int).toNat (0 : Int)) != (60 : Int)))), (0, slA (eI .u8) t0)] (by kernel_rfl) ⟨(fun h => h), (fun h => by first | exact h | simpa using h), trivial⟩ ?_
    refine OpsW.nil ?_
    refine AW.cond (b := cond ((t0.length : Int) == (0 : Int)) true ((t0.getD (0 : Int).toNat (0 : Int)) != (60 : Int))) rfl (fun c26 => ?_) (fun c26 => ?_)
    · replace H := condT c26 H
      refine AW.regionSeq ?_
      refine OpsW.seg 3 [4, 3, 2] [] [(4, .int .i64 (190 : Int)), (3, .int .i64 (0 : Int)), (2, .int .i64 (0 : Int))] (by kernel_rfl) trivial ?_
      refine OpsW.nil ?_
      obtain rfl := Option.some.inj H
      refine AW.recast (env' := [(2, .int .i64 (0 : Int)), (3, .int .i64 (0 : Int)), (4, .int .i64 (190 : Int))]) (h' := []) (StC.pure (.cons .im (.cons .im (.cons .im .nil)))) ?_
      refine AW.ret ?_
      try simp only [Ex.then, Ex.inBlock, Ex.noGoto, Ex.jump, reduceIte, Nat.reduceEqDiff, reduceCtorEq]
      refine Done.gen rfl (.tmp (.tmp (.tmp .nil))) ?_
      show _ = _
      kernel_rfl
    · replace H := condF c26 H
      refine AW.skip ?_
      refine AW.regionSeq ?_
      refine OpsW.seg 2 [6, 5, 0] [] [(6, .int .i64 (1 : Int)), (5, .int .i64 (0 : Int)), (0, slA (eI .u8) t0)] (by kernel_rfl) trivial ?_
      refine OpsW.nil ?_
      refine AW.labelSeq ?_
      refine AW.joinK (fun (y : Int × Int) => f_number_Read_k3 t0 y.1 y.2) r (fun (y : Int × Int) => [(0, slA (eI .u8) t0), (5, .int .i64 y.1), (6, .int .i64 y.2)]) (fun (y : Int × Int) => []) ?_ ?_
      · refine AW.block ?_
        refine AW.iterK (fun loop (s : Int × Int) => f_number_Read_b4 t0 loop s.1 s.2) r (fun (s : Int × Int) => [(0, slA (eI .u8) t0), (5, .int .i64 s.1), (6, .int .i64 s.2)]) (fun (s : Int × Int) => []) ?_ 1000000 ((0 : Int), (1 : Int)) H (StC.pure (.cons .im (.cons .im (.cons .im .nil))))
        intro loop33 s H
        obtain ⟨v31, v32⟩ := s
        change f_number_Read_b4 t0 loop33 v31 v32 = some r at H
        unfold f_number_Read_b4 at H
        change AW _ _ _ [(0, slA (eI .u8) t0), (5, .int .i64 v31), (6, .int .i64 v32)] [] _
        refine AW.seq ?_
        refine AW.regionSeq ?_
        refine OpsW.seg 4 [21, 0, 5, 6] [] [(21, .bool (decide (v32 < (t0.length : Int)))), (0, slA (eI .u8) t0), (5, .int .i64 v31), (6, .int .i64 v32)] (by kernel_rfl) trivial ?_
        refine OpsW.nil ?_
        refine AW.cond (b := decide (v32 < (t0.length : Int))) rfl (fun c34 => ?_) (fun c34 => ?_)
        · replace H := condT c34 H
          refine AW.skip ?_
          refine AW.block ?_
          refine AW.seq ?_
          refine AW.regionSeq ?_
          refine OpsW.asU (.agg ((tab_number_digits.flatMap (eI .u8)).map .im)) rfl rfl (T.loadAgg (n := 10) rfl trivial (by kernel_rfl) (Nat.le_of_ble_eq_true (by kernel_rfl)) (by kernel_rfl)) ?_
          refine OpsW.seg 1 [23, 22, 0, 5, 6] [] [(23, .int .i64 (0 : Int)), (22, .agg ((tab_number_digits.flatMap (eI .u8)).map .im)), (0, slA (eI .u8) t0), (5, .int .i64 v31), (6, .int .i64 v32)] (by kernel_rfl) trivial ?_
          refine OpsW.nil ?_
          refine AW.block ?_
          refine AW.iterK (fun loop (s : Int × Int × Int) => f_number_Read_b3 t0 loop33 loop s.1 s.2.1 s.2.2) r (fun (s : Int × Int × Int) => [(0, slA (eI .u8) t0), (5, .int .i64 s.1), (6, .int .i64 s.2.1), (22, .agg ((tab_number_digits.flatMap (eI .u8)).map .im)), (23, .int .i64 s.2.2)]) (fun (s : Int × Int × Int) => []) ?_ 1000000 (v31, v32, (0 : Int)) H (StC.pure (.cons .im (.cons .im (.cons .im (.cons (.agg (CstL.ims _)) (.cons .im .nil))))))
          intro loop38 s H
          obtain ⟨v35, v36, v37⟩ := s
          change f_number_Read_b3 t0 loop33 loop38 v35 v36 v37 = some r at H
          unfold f_number_Read_b3 at H
          change AW _ _ _ [(0, slA (eI .u8) t0), (5, .int .i64 v35), (6, .int .i64 v36), (22, .agg ((tab_number_digits.flatMap (eI .u8)).map .im)), (23, .int .i64 v37)] [] _
          refine AW.regionSeq ?_
          refine OpsW.seg 1 [24, 0, 5, 6, 22, 23] [] [(24, .bool (decide (v37 < (10 : Int)))), (0, slA (eI .u8) t0), (5, .int .i64 v35), (6, .int .i64 v36), (22, .agg ((tab_number_digits.flatMap (eI .u8)).map .im)), (23, .int .i64 v37)] (by kernel_rfl) trivial ?_
          refine OpsW.nil ?_
          refine AW.seq ?_
          refine AW.cond (b := decide (v37 < (10 : Int))) rfl (fun c39 => ?_) (fun c39 => ?_)
          · replace H := condT c39 H
            refine AW.skip ?_
            refine AW.seq ?_
            refine AW.block ?_
            refine AW.regionSeq ?_
            refine OpsW.seg 1 [25, 0, 5, 6, 22, 23] [] [(25, .int .i64 v37), (0, slA (eI .u8) t0), (5, .int .i64 v35), (6, .int .i64 v36), (22, .agg ((tab_number_digits.flatMap (eI .u8)).map .im)), (23, .int .i64 v37)] (by kernel_rfl) trivial ?_
            obtain ⟨g40, H⟩ := G_some H
            obtain ⟨g41, H⟩ := G_some H
            refine OpsW.asU (.int .u8 (tab_number_digits.getD v37.toNat (0 : Int))) rfl rfl (T.indexA (e := 43) rfl rfl trivial trivial (by kernel_rfl) (by kernel_rfl) (by kernel_rfl) (by kernel_rfl) g40 (map_get (fm_cell0 (eI .u8) 1 (fun _ => rfl) tab_number_digits (0 : Int) v37.toNat (ltA (n := 10) g40 g41) (fun a => .val (.int .u8 a)) (fun _ => rfl)))) ?_
            refine OpsW.seg 2 [8, 7, 0, 5, 6, 22, 23] [] [(8, .int .u8 (tab_number_digits.getD v37.toNat (0 : Int))), (7, .int .i64 v37), (0, slA (eI .u8) t0), (5, .int .i64 v35), (6, .int .i64 v36), (22, .agg ((tab_number_digits.flatMap (eI .u8)).map .im)), (23, .int .i64 v37)] (by kernel_rfl) trivial ?_
            refine OpsW.nil ?_
            refine AW.regionSeq ?_
            obtain ⟨g42, H⟩ := G_some H
            refine OpsW.seg 4 [30, 27, 7, 0, 5, 6, 22, 23] [0 ≤ v36 ∧ v36 < (t0.length : Int)] [(30, .ipt (t0.flatMap (eI .u8)) (v36.toNat * 1)), (27, .int .u8 (tab_number_digits.getD v37.toNat (0 : Int))), (7, .int .i64 v37), (0, slA (eI .u8) t0), (5, .int .i64 v35), (6, .int .i64 v36), (22, .agg ((tab_number_digits.flatMap (eI .u8)).map .im)), (23, .int .i64 v37)] (by kernel_rfl) ⟨g42, trivial⟩ ?_
            refine OpsW.asU (.int .u8 (t0.getD v36.toNat (0 : Int))) rfl rfl (T.load rfl trivial (by kernel_rfl) (fm_cell0 (eI .u8) 1 (fun _ => rfl) t0 (0 : Int) v36.toNat (ltN g42) (fun a => .val (.int .u8 a)) (fun _ => rfl))) ?_
            refine OpsW.seg 1 [32, 7, 0, 5, 6, 22, 23] [] [(32, .bool ((tab_number_digits.getD v37.toNat (0 : Int)) == (t0.getD v36.toNat (0 : Int)))), (7, .int .i64 v37), (0, slA (eI .u8) t0), (5, .int .i64 v35), (6, .int .i64 v36), (22, .agg ((tab_number_digits.flatMap (eI .u8)).map .im)), (23, .int .i64 v37)] (by kernel_rfl) trivial ?_
            refine OpsW.nil ?_
            refine AW.cond (b := (tab_number_digits.getD v37.toNat (0 : Int)) == (t0.getD v36.toNat (0 : Int))) rfl (fun c43 => ?_) (fun c43 => ?_)
            · replace H := condT c43 H
              refine AW.seq ?_
              refine AW.regionSeq ?_
              refine OpsW.seg 2 [34, 7, 0, 5, 6] [] [(34, .bool (decide ((5 : Int) < v36))), (7, .int .i64 v37), (0, slA (eI .u8) t0), (5, .int .i64 v35), (6, .int .i64 v36)] (by kernel_rfl) trivial ?_
              refine OpsW.nil ?_
              refine AW.cond (b := decide ((5 : Int) < v36)) rfl (fun c44 => ?_) (fun c44 => ?_)
              · replace H := condT c44 H
                refine AW.regionSeq ?_
                refine OpsW.seg 3 [4, 3, 2] [] [(4, .int .i64 (190 : Int)), (3, .int .i64 (0 : Int)), (2, .int .i64 (0 : Int))] (by kernel_rfl) trivial ?_
                refine OpsW.nil ?_
                obtain rfl := Option.some.inj H
                refine AW.recast (env' := [(2, .int .i64 (0 : Int)), (3, .int .i64 (0 : Int)), (4, .int .i64 (190 : Int))]) (h' := []) (StC.pure (.cons .im (.cons .im (.cons .im .nil)))) ?_
                refine AW.ret ?_
                try simp only [Ex.then, Ex.inBlock, Ex.noGoto, Ex.jump, reduceIte, Nat.reduceEqDiff, reduceCtorEq]
                refine Done.gen rfl (.tmp (.tmp (.tmp .nil))) ?_
                show _ = _
                kernel_rfl
              · replace H := condF c44 H
                refine AW.skip ?_
                refine AW.regionSeq ?_
                obtain ⟨g45, H⟩ := G_some H
                obtain ⟨g46, H⟩ := G_some H
                refine OpsW.seg 5 [5, 0, 6] [inR ((10 : Int) * v35), inR (((10 : Int) * v35) + v37)] [(5, .int .i64 (((10 : Int) * v35) + v37)), (0, slA (eI .u8) t0), (6, .int .i64 v36)] (by kernel_rfl) ⟨g45, g46, trivial⟩ ?_
                refine OpsW.nil ?_
                refine AW.regionSeq ?_
                obtain ⟨g47, H⟩ := G_some H
                refine OpsW.seg 3 [6, 5, 0] [inR (v36 + (1 : Int))] [(6, .int .i64 (v36 + (1 : Int))), (5, .int .i64 (((10 : Int) * v35) + v37)), (0, slA (eI .u8) t0)] (by kernel_rfl) ⟨g47, trivial⟩ ?_
                refine OpsW.nil ?_
                refine AW.exit ?_
                show ∃ y, _ ∧ StC _ _ _ _
                exact ⟨(((10 : Int) * v35) + v37, v36 + (1 : Int)), H, (StC.pure (.cons .im (.cons .im (.cons .im .nil))))⟩
            · replace H := condF c43 H
              refine AW.skip ?_
              refine AW.region ?_
              obtain ⟨g48, H⟩ := G_some H
              refine OpsW.seg 2 [23, 0, 5, 6, 22] [inR (v37 + (1 : Int))] [(23, .int .i64 (v37 + (1 : Int))), (0, slA (eI .u8) t0), (5, .int .i64 v35), (6, .int .i64 v36), (22, .agg ((tab_number_digits.flatMap (eI .u8)).map .im))] (by kernel_rfl) ⟨g48, trivial⟩ ?_
              refine OpsW.nil ?_
              show ∃ y, _ ∧ StC _ _ _ _
              exact ⟨(v35, v36, v37 + (1 : Int)), H, (StC.pure (.cons .im (.cons .im (.cons .im (.cons (.agg (CstL.ims _)) (.cons .im .nil))))))⟩
          · replace H := condF c39 H
            refine AW.exit ?_
            refine AW.exit ?_
            show ∃ y, _ ∧ StC _ _ _ _
            exact ⟨(v35, v36), H, (StC.pure (.cons .im (.cons .im (.cons .im .nil))))⟩
        · replace H := condF c34 H
          refine AW.exit ?_
          show ∃ y, _ ∧ StC _ _ _ _
          exact ⟨(v31, v32), H, (StC.pure (.cons .im (.cons .im (.cons .im .nil))))⟩
      · rintro ⟨v27, v28⟩ H
        change f_number_Read_k3 t0 v27 v28 = some r at H
        unfold f_number_Read_k3 at H
        change AW _ _ _ [(0, slA (eI .u8) t0), (5, .int .i64 v27), (6, .int .i64 v28)] [] _
        refine AW.seq ?_
        refine AW.drawSeq Tryd.checked.mixed (by kernel_rfl) ?_
        obtain ⟨g29, H⟩ := G_some H
        refine QOps.seg (N := 58) 8 [(!(v28 == (1 : Int))) = true → (!(v28 == (1 : Int))) = true, (!(v28 == (1 : Int))) = true → (!(v28 == (1 : Int))) = true, ((!(v28 == (1 : Int))) && (decide ((2 : Int) < v28))) = true → ((!(v28 == (1 : Int))) && (decide ((2 : Int) < v28))) = true, ((!(v28 == (1 : Int))) && (decide ((2 : Int) < v28))) = true → (0 ≤ (1 : Int) ∧ (1 : Int) < (t0.length : Int))] [(49, .cnd ((!(v28 == (1 : Int))) && (decide ((2 : Int) < v28))) (.ipt (t0.flatMap (eI .u8)) ((1 : Int).toNat * 1))), (48, .cnd ((!(v28 == (1 : Int))) && (decide ((2 : Int) < v28))) (slA (eI .u8) t0)), (47, .cnd (!(v28 == (1 : Int))) (.bool (decide ((2 : Int) < v28)))), (46, .cnd (!(v28 == (1 : Int))) (.bool (decide ((2 : Int) < v28)))), (45, .cnd (!(v28 == (1 : Int))) (.int .i64 v28)), (44, .bool (v28 == (1 : Int))), (43, .bool (v28 == (1 : Int))), (42, .int .i64 v28), (0, slA (eI .u8) t0), (5, .int .i64 v27), (6, .int .i64 v28)] (by kernel_rfl) ⟨(fun h => h), (fun h => h), (fun h => h), g29, trivial⟩ ?_
        refine QOps.asG (c := (!(v28 == (1 : Int))) && (decide ((2 : Int) < v28))) (.int .u8 (t0.getD (1 : Int).toNat (0 : Int))) rfl rfl rfl (fun hc => T.load rfl hc (by kernel_rfl) (fm_cell0 (eI .u8) 1 (fun _ => rfl) t0 (0 : Int) (1 : Int).toNat (ltN (g29 hc)) (fun a => .val (.int .u8 a)) (fun _ => rfl))) ?_
        refine QOps.seg (N := 58) 1 [((!(v28 == (1 : Int))) && (decide ((2 : Int) < v28))) = true → (0 ≤ (0 : Int) ∧ (0 : Int) < (10 : Int))] [(51, .cnd ((!(v28 == (1 : Int))) && (decide ((2 : Int) < v28))) (.ipt (tab_number_digits.flatMap (eI .u8)) (0 + (0 : Int).toNat * 1))), (50, .cnd ((!(v28 == (1 : Int))) && (decide ((2 : Int) < v28))) (.int .u8 (t0.getD (1 : Int).toNat (0 : Int)))), (49, .cnd ((!(v28 == (1 : Int))) && (decide ((2 : Int) < v28))) (.ipt (t0.flatMap (eI .u8)) ((1 : Int).toNat * 1))), (48, .cnd ((!(v28 == (1 : Int))) && (decide ((2 : Int) < v28))) (slA (eI .u8) t0)), (47, .cnd (!(v28 == (1 : Int))) (.bool (decide ((2 : Int) < v28)))), (46, .cnd (!(v28 == (1 : Int))) (.bool (decide ((2 : Int) < v28)))), (45, .cnd (!(v28 == (1 : Int))) (.int .i64 v28)), (44, .bool (v28 == (1 : Int))), (43, .bool (v28 == (1 : Int))), (42, .int .i64 v28), (0, slA (eI .u8) t0), (5, .int .i64 v27), (6, .int .i64 v28)] (by kernel_rfl) ⟨(fun _ => by decide), trivial⟩ ?_
        refine QOps.asG (c := (!(v28 == (1 : Int))) && (decide ((2 : Int) < v28))) (.int .u8 (tab_number_digits.getD (0 : Int).toNat (0 : Int))) rfl rfl rfl (fun hc => T.load rfl hc (by kernel_rfl) (tabOff (fm_cell0 (eI .u8) 1 (fun _ => rfl) tab_number_digits (0 : Int) (0 : Int).toNat (ltA (n := 10) (by decide) rfl) (fun a => .val (.int .u8 a)) (fun _ => rfl)))) ?_
        refine QOps.seg (N := 58) 3 [((!(v28 == (1 : Int))) && (decide ((2 : Int) < v28))) = true → ((!(v28 == (1 : Int))) && (decide ((2 : Int) < v28))) = true, ((!(v28 == (1 : Int))) && (decide ((2 : Int) < v28))) = true → ((!(v28 == (1 : Int))) && (decide ((2 : Int) < v28))) = true, (!(v28 == (1 : Int))) = true → (!(v28 == (1 : Int))) = true, (!(v28 == (1 : Int))) = true → ((decide ((2 : Int) < v28)) = true → ((!(v28 == (1 : Int))) && (decide ((2 : Int) < v28))) = true), (v28 == (1 : Int)) = false → (!(v28 == (1 : Int))) = true] [(55, .bool (cond (v28 == (1 : Int)) true (cond (decide ((2 : Int) < v28)) ((t0.getD (1 : Int).toNat (0 : Int)) == (tab_number_digits.getD (0 : Int).toNat (0 : Int))) false))), (54, .cnd (!(v28 == (1 : Int))) (.bool (cond (decide ((2 : Int) < v28)) ((t0.getD (1 : Int).toNat (0 : Int)) == (tab_number_digits.getD (0 : Int).toNat (0 : Int))) false))), (53, .cnd ((!(v28 == (1 : Int))) && (decide ((2 : Int) < v28))) (.bool ((t0.getD (1 : Int).toNat (0 : Int)) == (tab_number_digits.getD (0 : Int).toNat (0 : Int))))), (52, .cnd ((!(v28 == (1 : Int))) && (decide ((2 : Int) < v28))) (.int .u8 (tab_number_digits.getD (0 : Int).toNat (0 : Int)))), (51, .cnd ((!(v28 == (1 : Int))) && (decide ((2 : Int) < v28))) (.ipt (tab_number_digits.flatMap (eI .u8)) (0 + (0 : Int).toNat * 1))), (50, .cnd ((!(v28 == (1 : Int))) && (decide ((2 : Int) < v28))) (.int .u8 (t0.getD (1 : Int).toNat (0 : Int)))), (49, .cnd ((!(v28 == (1 : Int))) && (decide ((2 : Int) < v28))) (.ipt (t0.flatMap (eI .u8)) ((1 : Int).toNat * 1))), (48, .cnd ((!(v28 == (1 : Int))) && (decide ((2 : Int) < v28))) (slA (eI .u8) t0)), (47, .cnd (!(v28 == (1 : Int))) (.bool (decide ((2 : Int) < v28)))), (46, .cnd (!(v28 == (1 : Int))) (.bool (decide ((2 : Int) < v28)))), (45, .cnd (!(v28 == (1 : Int))) (.int .i64 v28)), (44, .bool (v28 == (1 : Int))), (43, .bool (v28 == (1 : Int))), (42, .int .i64 v28), (0, slA (eI .u8) t0), (5, .int .i64 v27), (6, .int .i64 v28)] (by kernel_rfl) ⟨(fun h => h), (fun h => h), (fun h => h), (fun h0 h => by first | exact h | (simp [h0, h]; done) | (simp at h0 h ⊢; simp [h0, h]; done) | (simp_all; done)), (fun h => by first | exact h | simpa using h), trivial⟩ ?_
        refine QOps.nil ?_
        refine AW.trim [55, 5, 6] [(55, .bool (cond (v28 == (1 : Int)) true (cond (decide ((2 : Int) < v28)) ((t0.getD (1 : Int).toNat (0 : Int)) == (tab_number_digits.getD (0 : Int).toNat (0 : Int))) false))), (5, .int .i64 v27), (6, .int .i64 v28)] (by kernel_rfl) ?_
        refine AW.cond (b := cond (v28 == (1 : Int)) true (cond (decide ((2 : Int) < v28)) ((t0.getD (1 : Int).toNat (0 : Int)) == (tab_number_digits.getD (0 : Int).toNat (0 : Int))) false)) rfl (fun c30 => ?_) (fun c30 => ?_)
        · replace H := condT c30 H
          refine AW.regionSeq ?_
          refine OpsW.seg 3 [4, 3, 2] [] [(4, .int .i64 (190 : Int)), (3, .int .i64 (0 : Int)), (2, .int .i64 (0 : Int))] (by kernel_rfl) trivial ?_
          refine OpsW.nil ?_
          obtain rfl := Option.some.inj H
          refine AW.recast (env' := [(2, .int .i64 (0 : Int)), (3, .int .i64 (0 : Int)), (4, .int .i64 (190 : Int))]) (h' := []) (StC.pure (.cons .im (.cons .im (.cons .im .nil)))) ?_
          refine AW.ret ?_
          try simp only [Ex.then, Ex.inBlock, Ex.noGoto, Ex.jump, reduceIte, Nat.reduceEqDiff, reduceCtorEq]
          refine Done.gen rfl (.tmp (.tmp (.tmp .nil))) ?_
          show _ = _
          kernel_rfl
        · replace H := condF c30 H
          refine AW.skip ?_
          refine AW.regionSeq ?_
          refine OpsW.seg 5 [4, 3, 2] [] [(4, .int .i64 (0 : Int)), (3, .int .i64 v28), (2, .int .i64 v27)] (by kernel_rfl) trivial ?_
          refine OpsW.nil ?_
          obtain rfl := Option.some.inj H
          refine AW.recast (env' := [(2, .int .i64 v27), (3, .int .i64 v28), (4, .int .i64 (0 : Int))]) (h' := []) (StC.pure (.cons .im (.cons .im (.cons .im .nil)))) ?_
          refine AW.ret ?_
          try simp only [Ex.then, Ex.inBlock, Ex.noGoto, Ex.jump, reduceIte, Nat.reduceEqDiff, reduceCtorEq]
          refine Done.gen rfl (.tmp (.tmp (.tmp .nil))) ?_
          show _ = _
          kernel_rfl
  · rintro ⟨v1, v2⟩ H
    change f_number_Read_k2 t0 v1 v2 = some r at H
    unfold f_number_Read_k2 at H
    change AW _ _ _ [(0, slA (eI .u8) t0), (5, .int .i64 v1), (6, .int .i64 v2)] [] _
    refine AW.skipSeq ?_
    refine AW.joinK (fun (y : Int × Int) => f_number_Read_k1 t0 y.1 y.2) r (fun (y : Int × Int) => [(0, slA (eI .u8) t0), (5, .int .i64 y.1), (6, .int .i64 y.2)]) (fun (y : Int × Int) => []) ?_ ?_
    · refine AW.block ?_
      refine AW.iterK (fun loop (s : Int × Int) => f_number_Read_b2 t0 loop s.1 s.2) r (fun (s : Int × Int) => [(0, slA (eI .u8) t0), (5, .int .i64 s.1), (6, .int .i64 s.2)]) (fun (s : Int × Int) => []) ?_ 1000000 (v1, v2) H (StC.pure (.cons .im (.cons .im (.cons .im .nil))))
      intro loop9 s H
      obtain ⟨v7, v8⟩ := s
      change f_number_Read_b2 t0 loop9 v7 v8 = some r at H
      unfold f_number_Read_b2 at H
      change AW _ _ _ [(0, slA (eI .u8) t0), (5, .int .i64 v7), (6, .int .i64 v8)] [] _
      refine AW.seq ?_
      refine AW.regionSeq ?_
      refine OpsW.seg 4 [21, 0, 5, 6] [] [(21, .bool (decide (v8 < (t0.length : Int)))), (0, slA (eI .u8) t0), (5, .int .i64 v7), (6, .int .i64 v8)] (by kernel_rfl) trivial ?_
      refine OpsW.nil ?_
      refine AW.cond (b := decide (v8 < (t0.length : Int))) rfl (fun c10 => ?_) (fun c10 => ?_)
      · replace H := condT c10 H
        refine AW.skip ?_
        refine AW.block ?_
        refine AW.seq ?_
        refine AW.regionSeq ?_
        refine OpsW.asU (.agg ((tab_number_digits.flatMap (eI .u8)).map .im)) rfl rfl (T.loadAgg (n := 10) rfl trivial (by kernel_rfl) (Nat.le_of_ble_eq_true (by kernel_rfl)) (by kernel_rfl)) ?_
        refine OpsW.seg 1 [23, 22, 0, 5, 6] [] [(23, .int .i64 (0 : Int)), (22, .agg ((tab_number_digits.flatMap (eI .u8)).map .im)), (0, slA (eI .u8) t0), (5, .int .i64 v7), (6, .int .i64 v8)] (by kernel_rfl) trivial ?_
        refine OpsW.nil ?_
        refine AW.block ?_
        refine AW.iterK (fun loop (s : Int × Int × Int) => f_number_Read_b1 t0 loop9 loop s.1 s.2.1 s.2.2) r (fun (s : Int × Int × Int) => [(0, slA (eI .u8) t0), (5, .int .i64 s.1), (6, .int .i64 s.2.1), (22, .agg ((tab_number_digits.flatMap (eI .u8)).map .im)), (23, .int .i64 s.2.2)]) (fun (s : Int × Int × Int) => []) ?_ 1000000 (v7, v8, (0 : Int)) H (StC.pure (.cons .im (.cons .im (.cons .im (.cons (.agg (CstL.ims _)) (.cons .im .nil))))))
        intro loop14 s H
        obtain ⟨v11, v12, v13⟩ := s
        change f_number_Read_b1 t0 loop9 loop14 v11 v12 v13 = some r at H
        unfold f_number_Read_b1 at H
        change AW _ _ _ [(0, slA (eI .u8) t0), (5, .int .i64 v11), (6, .int .i64 v12), (22, .agg ((tab_number_digits.flatMap (eI .u8)).map .im)), (23, .int .i64 v13)] [] _
        refine AW.regionSeq ?_
        refine OpsW.seg 1 [24, 0, 5, 6, 22, 23] [] [(24, .bool (decide (v13 < (10 : Int)))), (0, slA (eI .u8) t0), (5, .int .i64 v11), (6, .int .i64 v12), (22, .agg ((tab_number_digits.flatMap (eI .u8)).map .im)), (23, .int .i64 v13)] (by kernel_rfl) trivial ?_
        refine OpsW.nil ?_
        refine AW.seq ?_
        refine AW.cond (b := decide (v13 < (10 : Int))) rfl (fun c15 => ?_) (fun c15 => ?_)
        · replace H := condT c15 H
          refine AW.skip ?_
          refine AW.seq ?_
          refine AW.block ?_
          refine AW.regionSeq ?_
          refine OpsW.seg 1 [25, 0, 5, 6, 22, 23] [] [(25, .int .i64 v13), (0, slA (eI .u8) t0), (5, .int .i64 v11), (6, .int .i64 v12), (22, .agg ((tab_number_digits.flatMap (eI .u8)).map .im)), (23, .int .i64 v13)] (by kernel_rfl) trivial ?_
          obtain ⟨g16, H⟩ := G_some H
          obtain ⟨g17, H⟩ := G_some H
          refine OpsW.asU (.int .u8 (tab_number_digits.getD v13.toNat (0 : Int))) rfl rfl (T.indexA (e := 43) rfl rfl trivial trivial (by kernel_rfl) (by kernel_rfl) (by kernel_rfl) (by kernel_rfl) g16 (map_get (fm_cell0 (eI .u8) 1 (fun _ => rfl) tab_number_digits (0 : Int) v13.toNat (ltA (n := 10) g16 g17) (fun a => .val (.int .u8 a)) (fun _ => rfl)))) ?_
          refine OpsW.seg 2 [8, 7, 0, 5, 6, 22, 23] [] [(8, .int .u8 (tab_number_digits.getD v13.toNat (0 : Int))), (7, .int .i64 v13), (0, slA (eI .u8) t0), (5, .int .i64 v11), (6, .int .i64 v12), (22, .agg ((tab_number_digits.flatMap (eI .u8)).map .im)), (23, .int .i64 v13)] (by kernel_rfl) trivial ?_
          refine OpsW.nil ?_
          refine AW.regionSeq ?_
          obtain ⟨g18, H⟩ := G_some H
          refine OpsW.seg 4 [30, 27, 7, 0, 5, 6, 22, 23] [0 ≤ v12 ∧ v12 < (t0.length : Int)] [(30, .ipt (t0.flatMap (eI .u8)) (v12.toNat * 1)), (27, .int .u8 (tab_number_digits.getD v13.toNat (0 : Int))), (7, .int .i64 v13), (0, slA (eI .u8) t0), (5, .int .i64 v11), (6, .int .i64 v12), (22, .agg ((tab_number_digits.flatMap (eI .u8)).map .im)), (23, .int .i64 v13)] (by kernel_rfl) ⟨g18, trivial⟩ ?_
          refine OpsW.asU (.int .u8 (t0.getD v12.toNat (0 : Int))) rfl rfl (T.load rfl trivial (by kernel_rfl) (fm_cell0 (eI .u8) 1 (fun _ => rfl) t0 (0 : Int) v12.toNat (ltN g18) (fun a => .val (.int .u8 a)) (fun _ => rfl))) ?_
          refine OpsW.seg 1 [32, 7, 0, 5, 6, 22, 23] [] [(32, .bool ((tab_number_digits.getD v13.toNat (0 : Int)) == (t0.getD v12.toNat (0 : Int)))), (7, .int .i64 v13), (0, slA (eI .u8) t0), (5, .int .i64 v11), (6, .int .i64 v12), (22, .agg ((tab_number_digits.flatMap (eI .u8)).map .im)), (23, .int .i64 v13)] (by kernel_rfl) trivial ?_
          refine OpsW.nil ?_
          refine AW.cond (b := (tab_number_digits.getD v13.toNat (0 : Int)) == (t0.getD v12.toNat (0 : Int))) rfl (fun c19 => ?_) (fun c19 => ?_)
          · replace H := condT c19 H
            refine AW.seq ?_
            refine AW.regionSeq ?_
            refine OpsW.seg 2 [34, 7, 0, 5, 6] [] [(34, .bool (decide ((5 : Int) < v12))), (7, .int .i64 v13), (0, slA (eI .u8) t0), (5, .int .i64 v11), (6, .int .i64 v12)] (by kernel_rfl) trivial ?_
            refine OpsW.nil ?_
            refine AW.cond (b := decide ((5 : Int) < v12)) rfl (fun c20 => ?_) (fun c20 => ?_)
            · replace H := condT c20 H
              refine AW.regionSeq ?_
              refine OpsW.seg 3 [4, 3, 2] [] [(4, .int .i64 (190 : Int)), (3, .int .i64 (0 : Int)), (2, .int .i64 (0 : Int))] (by kernel_rfl) trivial ?_
              refine OpsW.nil ?_
              obtain rfl := Option.some.inj H
              refine AW.recast (env' := [(2, .int .i64 (0 : Int)), (3, .int .i64 (0 : Int)), (4, .int .i64 (190 : Int))]) (h' := []) (StC.pure (.cons .im (.cons .im (.cons .im .nil)))) ?_
              refine AW.ret ?_
              try simp only [Ex.then, Ex.inBlock, Ex.noGoto, Ex.jump, reduceIte, Nat.reduceEqDiff, reduceCtorEq]
              refine Done.gen rfl (.tmp (.tmp (.tmp .nil))) ?_
              show _ = _
              kernel_rfl
            · replace H := condF c20 H
              refine AW.skip ?_
              refine AW.regionSeq ?_
              obtain ⟨g21, H⟩ := G_some H
              obtain ⟨g22, H⟩ := G_some H
              refine OpsW.seg 5 [5, 0, 6] [inR ((10 : Int) * v11), inR (((10 : Int) * v11) + v13)] [(5, .int .i64 (((10 : Int) * v11) + v13)), (0, slA (eI .u8) t0), (6, .int .i64 v12)] (by kernel_rfl) ⟨g21, g22, trivial⟩ ?_
              refine OpsW.nil ?_
              refine AW.regionSeq ?_
              obtain ⟨g23, H⟩ := G_some H
              refine OpsW.seg 3 [6, 5, 0] [inR (v12 + (1 : Int))] [(6, .int .i64 (v12 + (1 : Int))), (5, .int .i64 (((10 : Int) * v11) + v13)), (0, slA (eI .u8) t0)] (by kernel_rfl) ⟨g23, trivial⟩ ?_
              refine OpsW.nil ?_
              refine AW.exit ?_
              show ∃ y, _ ∧ StC _ _ _ _
              exact ⟨(((10 : Int) * v11) + v13, v12 + (1 : Int)), H, (StC.pure (.cons .im (.cons .im (.cons .im .nil))))⟩
          · replace H := condF c19 H
            refine AW.skip ?_
            refine AW.region ?_
            obtain ⟨g24, H⟩ := G_some H
            refine OpsW.seg 2 [23, 0, 5, 6, 22] [inR (v13 + (1 : Int))] [(23, .int .i64 (v13 + (1 : Int))), (0, slA (eI .u8) t0), (5, .int .i64 v11), (6, .int .i64 v12), (22, .agg ((tab_number_digits.flatMap (eI .u8)).map .im))] (by kernel_rfl) ⟨g24, trivial⟩ ?_
            refine OpsW.nil ?_
            show ∃ y, _ ∧ StC _ _ _ _
            exact ⟨(v11, v12, v13 + (1 : Int)), H, (StC.pure (.cons .im (.cons .im (.cons .im (.cons (.agg (CstL.ims _)) (.cons .im .nil))))))⟩
        · replace H := condF c15 H
          refine AW.exit ?_
          refine AW.exit ?_
          show ∃ y, _ ∧ StC _ _ _ _
          exact ⟨(v11, v12), H, (StC.pure (.cons .im (.cons .im (.cons .im .nil))))⟩
      · replace H := condF c10 H
        refine AW.exit ?_
        show ∃ y, _ ∧ StC _ _ _ _
        exact ⟨(v7, v8), H, (StC.pure (.cons .im (.cons .im (.cons .im .nil))))⟩
    · rintro ⟨v3, v4⟩ H
      change f_number_Read_k1 t0 v3 v4 = some r at H
      unfold f_number_Read_k1 at H
      change AW _ _ _ [(0, slA (eI .u8) t0), (5, .int .i64 v3), (6, .int .i64 v4)] [] _
      refine AW.seq ?_
      refine AW.drawSeq Tryd.checked.mixed (by kernel_rfl) ?_
      obtain ⟨g5, H⟩ := G_some H
      refine QOps.seg (N := 58) 8 [(!(v4 == (1 : Int))) = true → (!(v4 == (1 : Int))) = true, (!(v4 == (1 : Int))) = true → (!(v4 == (1 : Int))) = true, ((!(v4 == (1 : Int))) && (decide ((2 : Int) < v4))) = true → ((!(v4 == (1 : Int))) && (decide ((2 : Int) < v4))) = true, ((!(v4 == (1 : Int))) && (decide ((2 : Int) < v4))) = true → (0 ≤ (1 : Int) ∧ (1 : Int) < (t0.length : Int))] [(49, .cnd ((!(v4 == (1 : Int))) && (decide ((2 : Int) < v4))) (.ipt (t0.flatMap (eI .u8)) ((1 : Int).toNat * 1))), (48, .cnd ((!(v4 == (1 : Int))) && (decide ((2 : Int) < v4))) (slA (eI .u8) t0)), (47, .cnd (!(v4 == (1 : Int))) (.bool (decide ((2 : Int) < v4)))), (46, .cnd (!(v4 == (1 : Int))) (.bool (decide ((2 : Int) < v4)))), (45, .cnd (!(v4 == (1 : Int))) (.int .i64 v4)), (44, .bool (v4 == (1 : Int))), (43, .bool (v4 == (1 : Int))), (42, .int .i64 v4), (0, slA (eI .u8) t0), (5, .int .i64 v3), (6, .int .i64 v4)] (by kernel_rfl) ⟨(fun h => h), (fun h => h), (fun h => h), g5, trivial⟩ ?_
      refine QOps.asG (c := (!(v4 == (1 : Int))) && (decide ((2 : Int) < v4))) (.int .u8 (t0.getD (1 : Int).toNat (0 : Int))) rfl rfl rfl (fun hc => T.load rfl hc (by kernel_rfl) (fm_cell0 (eI .u8) 1 (fun _ => rfl) t0 (0 : Int) (1 : Int).toNat (ltN (g5 hc)) (fun a => .val (.int .u8 a)) (fun _ => rfl))) ?_
      refine QOps.seg (N := 58) 1 [((!(v4 == (1 : Int))) && (decide ((2 : Int) < v4))) = true → (0 ≤ (0 : Int) ∧ (0 : Int) < (10 : Int))] [(51, .cnd ((!(v4 == (1 : Int))) && (decide ((2 : Int) < v4))) (.ipt (tab_number_digits.flatMap (eI .u8)) (0 + (0 : Int).toNat * 1))), (50, .cnd ((!(v4 == (1 : Int))) && (decide ((2 : Int) < v4))) (.int .u8 (t0.getD (1 : Int).toNat (0 : Int)))), (49, .cnd ((!(v4 == (1 : Int))) && (decide ((2 : Int) < v4))) (.ipt (t0.flatMap (eI .u8)) ((1 : Int).toNat * 1))), (48, .cnd ((!(v4 == (1 : Int))) && (decide ((2 : Int) < v4))) (slA (eI .u8) t0)), (47, .cnd (!(v4 == (1 : Int))) (.bool (decide ((2 : Int) < v4)))), (46, .cnd (!(v4 == (1 : Int))) (.bool (decide ((2 : Int) < v4)))), (45, .cnd (!(v4 == (1 : Int))) (.int .i64 v4)), (44, .bool (v4 == (1 : Int))), (43, .bool (v4 == (1 : Int))), (42, .int .i64 v4), (0, slA (eI .u8) t0), (5, .int .i64 v3), (6, .int .i64 v4)] (by kernel_rfl) ⟨(fun _ => by decide), trivial⟩ ?_
      refine QOps.asG (c := (!(v4 == (1 : Int))) && (decide ((2 : Int) < v4))) (.int .u8 (tab_number_digits.getD (0 : Int).toNat (0 : Int))) rfl rfl rfl (fun hc => T.load rfl hc (by kernel_rfl) (tabOff (fm_cell0 (eI .u8) 1 (fun _ => rfl) tab_number_digits (0 : Int) (0 : Int).toNat (ltA (n := 10) (by decide) rfl) (fun a => .val (.int .u8 a)) (fun _ => rfl)))) ?_
      refine QOps.seg (N := 58) 3 [((!(v4 == (1 : Int))) && (decide ((2 : Int) < v4))) = true → ((!(v4 == (1 : Int))) && (decide ((2 : Int) < v4))) = true, ((!(v4 == (1 : Int))) && (decide ((2 : Int) < v4))) = true → ((!(v4 == (1 : Int))) && (decide ((2 : Int) < v4))) = true, (!(v4 == (1 : Int))) = true → (!(v4 == (1 : Int))) = true, (!(v4 == (1 : Int))) = true → ((decide ((2 : Int) < v4)) = true → ((!(v4 == (1 : Int))) && (decide ((2 : Int) < v4))) = true), (v4 == (1 : Int)) = false → (!(v4 == (1 : Int))) = true] [(55, .bool (cond (v4 == (1 : Int)) true (cond (decide ((2 : Int) < v4)) ((t0.getD (1 : Int).toNat (0 : Int)) == (tab_number_digits.getD (0 : Int).toNat (0 : Int))) false))), (54, .cnd (!(v4 == (1 : Int))) (.bool (cond (decide ((2 : Int) < v4)) ((t0.getD (1 : Int).toNat (0 : Int)) == (tab_number_digits.getD (0 : Int).toNat (0 : Int))) false))), (53, .cnd ((!(v4 == (1 : Int))) && (decide ((2 : Int) < v4))) (.bool ((t0.getD (1 : Int).toNat (0 : Int)) == (tab_number_digits.getD (0 : Int).toNat (0 : Int))))), (52, .cnd ((!(v4 == (1 : Int))) && (decide ((2 : Int) < v4))) (.int .u8 (tab_number_digits.getD (0 : Int).toNat (0 : Int)))), (51, .cnd ((!(v4 == (1 : Int))) && (decide ((2 : Int) < v4))) (.ipt (tab_number_digits.flatMap (eI .u8)) (0 + (0 : Int).toNat * 1))), (50, .cnd ((!(v4 == (1 : Int))) && (decide ((2 : Int) < v4))) (.int .u8 (t0.getD (1 : Int).toNat (0 : Int)))), (49, .cnd ((!(v4 == (1 : Int))) && (decide ((2 : Int) < v4))) (.ipt (t0.flatMap (eI .u8)) ((1 : Int).toNat * 1))), (48, .cnd ((!(v4 == (1 : Int))) && (decide ((2 : Int) < v4))) (slA (eI .u8) t0)), (47, .cnd (!(v4 == (1 : Int))) (.bool (decide ((2 : Int) < v4)))), (46, .cnd (!(v4 == (1 : Int))) (.bool (decide ((2 : Int) < v4)))), (45, .cnd (!(v4 == (1 : Int))) (.int .i64 v4)), (44, .bool (v4 == (1 : Int))), (43, .bool (v4 == (1 : Int))), (42, .int .i64 v4), (0, slA (eI .u8) t0), (5, .int .i64 v3), (6, .int .i64 v4)] (by kernel_rfl) ⟨(fun h => h), (fun h => h), (fun h => h), (fun h0 h => by first | exact h | (simp [h0, h]; done) | (simp at h0 h ⊢; simp [h0, h]; done) | (simp_all; done)), (fun h => by first | exact h | simpa using h), trivial⟩ ?_
      refine QOps.nil ?_
      refine AW.trim [55, 5, 6] [(55, .bool (cond (v4 == (1 : Int)) true (cond (decide ((2 : Int) < v4)) ((t0.getD (1 : Int).toNat (0 : Int)) == (tab_number_digits.getD (0 : Int).toNat (0 : Int))) false))), (5, .int .i64 v3), (6, .int .i64 v4)] (by kernel_rfl) ?_
      refine AW.cond (b := cond (v4 == (1 : Int)) true (cond (decide ((2 : Int) < v4)) ((t0.getD (1 : Int).toNat (0 : Int)) == (tab_number_digits.getD (0 : Int).toNat (0 : Int))) false)) rfl (fun c6 => ?_) (fun c6 => ?_)
      · replace H := condT c6 H
        refine AW.regionSeq ?_
        refine OpsW.seg 3 [4, 3, 2] [] [(4, .int .i64 (190 : Int)), (3, .int .i64 (0 : Int)), (2, .int .i64 (0 : Int))] (by kernel_rfl) trivial ?_
        refine OpsW.nil ?_
        obtain rfl := Option.some.inj H
        refine AW.recast (env' := [(2, .int .i64 (0 : Int)), (3, .int .i64 (0 : Int)), (4, .int .i64 (190 : Int))]) (h' := []) (StC.pure (.cons .im (.cons .im (.cons .im .nil)))) ?_
        refine AW.ret ?_
        try simp only [Ex.then, Ex.inBlock, Ex.noGoto, Ex.jump, reduceIte, Nat.reduceEqDiff, reduceCtorEq]
        refine Done.gen rfl (.tmp (.tmp (.tmp .nil))) ?_
        show _ = _
        kernel_rfl
      · replace H := condF c6 H
        refine AW.skip ?_
        refine AW.regionSeq ?_
        refine OpsW.seg 5 [4, 3, 2] [] [(4, .int .i64 (0 : Int)), (3, .int .i64 v4), (2, .int .i64 v3)] (by kernel_rfl) trivial ?_
        refine OpsW.nil ?_
        obtain rfl := Option.some.inj H
        refine AW.recast (env' := [(2, .int .i64 v3), (3, .int .i64 v4), (4, .int .i64 (0 : Int))]) (h' := []) (StC.pure (.cons .im (.cons .im (.cons .im .nil)))) ?_
        refine AW.ret ?_
        try simp only [Ex.then, Ex.inBlock, Ex.noGoto, Ex.jump, reduceIte, Nat.reduceEqDiff, reduceCtorEq]
        refine Done.gen rfl (.tmp (.tmp (.tmp .nil))) ?_
        show _ = _
        kernel_rfl
end Go.Proofs.YtdegmbjhedfffaaDoor
