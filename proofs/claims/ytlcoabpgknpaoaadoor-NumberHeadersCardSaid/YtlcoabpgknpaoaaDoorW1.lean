/-
  Written by gen.py (own work): typed functions, and that the program computes them.
-/
import Derived.Test.YtlcoabpgknpaoaaDoorGen13
import Derived.Test.YtlcoabpgknpaoaaDoorChecked
import Derived.Test.YtlcoabpgknpaoaaDoorItoa
set_option linter.unusedSimpArgs false
set_option linter.unusedVariables false
set_option maxRecDepth 100000
namespace Go.Proofs.YtlcoabpgknpaoaaDoor
open Go.Abs
structure S_Label where
  N : Int
  K : Int
  deriving DecidableEq
def eS_Label (x : S_Label) : List IV := [.val (.int .i64 x.N), .val (.int .i64 x.K)]
def zS_Label : S_Label := ⟨(0 : Int), (0 : Int)⟩
structure S_Header where
  Width : Int
  Label : S_Label
  Back : Bool
  Ink : Int
  Part : Int
  deriving DecidableEq
def eS_Header (x : S_Header) : List IV := [.val (.int .i64 x.Width), .val (.int .i64 x.Label.N), .val (.int .i64 x.Label.K), .val (.bool x.Back), .val (.int .i64 x.Ink), .val (.int .i64 x.Part)]
def zS_Header : S_Header := ⟨(0 : Int), zS_Label, false, (0 : Int), (0 : Int)⟩
structure S_Raw where
  Width : Int
  N : Int
  K : Int
  Back : Bool
  Ink : Int
  Part : Int
  deriving DecidableEq
def eS_Raw (x : S_Raw) : List IV := [.val (.int .u8 x.Width), .val (.int .u16 x.N), .val (.int .u8 x.K), .val (.bool x.Back), .val (.int .u16 x.Ink), .val (.int .u8 x.Part)]
def zS_Raw : S_Raw := ⟨(0 : Int), (0 : Int), (0 : Int), false, (0 : Int), (0 : Int)⟩
theorem E25 : Elem Tryd.prog 25 3 1 8 [.int .i64 0] := ⟨by kernel_rfl, by kernel_rfl, by kernel_rfl, rfl, rfl, by decide⟩
theorem E26 : Elem Tryd.prog 26 42 1 1 [.int .u8 0] := ⟨by kernel_rfl, by kernel_rfl, by kernel_rfl, rfl, rfl, by decide⟩
theorem E36 : Elem Tryd.prog 36 35 2 16 [.int .i64 0, .int .i64 0] := ⟨by kernel_rfl, by kernel_rfl, by kernel_rfl, rfl, rfl, by decide⟩
theorem E55 : Elem Tryd.prog 55 26 1 24 [.slice none 0 0] := ⟨by kernel_rfl, by kernel_rfl, by kernel_rfl, rfl, rfl, by decide⟩
def f_R01_Same_b1 (t0 : List Int) (t1 : List Int) (loop3 : (Int) → Option Bool) (v2 : Int) : Option Bool :=
  cond (decide (v2 < (t0.length : Int))) (
    G (0 ≤ v2 ∧ v2 < (t0.length : Int)) <|
    G (0 ≤ v2 ∧ v2 < (t1.length : Int)) <|
    cond ((t0.getD v2.toNat (0 : Int)) != (t1.getD v2.toNat (0 : Int))) (
      some false) (
      G (inR (v2 + (1 : Int))) <|
      loop3 (v2 + (1 : Int)))) (
    some true)
def f_R01_Same (t0 : List Int) (t1 : List Int) : Option Bool :=
  cond ((t0.length : Int) != (t1.length : Int)) (
    some false) (
    iter (fun loop (s : Int) => f_R01_Same_b1 t0 t1 loop s) 1000000 (0 : Int))
theorem f_R01_Same_ok {t0 : List Int} {t1 : List Int} {r : Bool} (H : f_R01_Same t0 t1 = some r) : QSpec Tryd.prog 11 [slA (eI .u8) t0, slA (eI .u8) t1] (.bool r) := by
  refine Spec.of_AW Tryd.func11 rfl (by simp [Tryd.ntmps11]) ?_
  rw [Tryd.ntmps11]
  unfold f_R01_Same at H
  change AW _ _ _ [(0, slA (eI .u8) t0), (1, slA (eI .u8) t1)] [] _
  refine AW.regionSeq ?_
  refine OpsW.seg 1 [0, 1] [] [(0, slA (eI .u8) t0), (1, slA (eI .u8) t1)] (by kernel_rfl) trivial ?_
  refine OpsW.nil ?_
  refine AW.seq ?_
  refine AW.regionSeq ?_
  refine OpsW.seg 5 [10, 0, 1] [] [(10, .bool ((t0.length : Int) != (t1.length : Int))), (0, slA (eI .u8) t0), (1, slA (eI .u8) t1)] (by kernel_rfl) trivial ?_
  refine OpsW.nil ?_
  refine AW.cond (b := (t0.length : Int) != (t1.length : Int)) rfl (fun c1 => ?_) (fun c1 => ?_)
  · replace H := condT c1 H
    refine AW.regionSeq ?_
    refine OpsW.seg 1 [4] [] [(4, .bool false)] (by kernel_rfl) trivial ?_
    refine OpsW.nil ?_
    obtain rfl := Option.some.inj H
    refine AW.recast (env' := [(4, .bool false)]) (h' := []) (StC.pure (.cons .im .nil)) ?_
    refine AW.ret ?_
    try simp only [Ex.then, Ex.inBlock, Ex.noGoto, Ex.jump, reduceIte, Nat.reduceEqDiff, reduceCtorEq]
    refine Done.gen rfl (.tmp .nil) ?_
    show _ = _
    kernel_rfl
  · replace H := condF c1 H
    refine AW.skip ?_
    refine AW.seq ?_
    refine AW.regionSeq ?_
    refine OpsW.seg 1 [5, 0, 1] [] [(5, .int .i64 (0 : Int)), (0, slA (eI .u8) t0), (1, slA (eI .u8) t1)] (by kernel_rfl) trivial ?_
    refine OpsW.nil ?_
    refine AW.block ?_
    refine AW.iterK (fun loop (s : Int) => f_R01_Same_b1 t0 t1 loop s) r (fun (s : Int) => [(0, slA (eI .u8) t0), (1, slA (eI .u8) t1), (5, .int .i64 s)]) (fun (s : Int) => []) ?_ 1000000 (0 : Int) H (StC.pure (.cons .im (.cons .im (.cons .im .nil))))
    intro loop3 v2 H
    change f_R01_Same_b1 t0 t1 loop3 v2 = some r at H
    unfold f_R01_Same_b1 at H
    change AW _ _ _ [(0, slA (eI .u8) t0), (1, slA (eI .u8) t1), (5, .int .i64 v2)] [] _
    refine AW.seq ?_
    refine AW.regionSeq ?_
    refine OpsW.seg 4 [14, 0, 1, 5] [] [(14, .bool (decide (v2 < (t0.length : Int)))), (0, slA (eI .u8) t0), (1, slA (eI .u8) t1), (5, .int .i64 v2)] (by kernel_rfl) trivial ?_
    refine OpsW.nil ?_
    refine AW.cond (b := decide (v2 < (t0.length : Int))) rfl (fun c4 => ?_) (fun c4 => ?_)
    · replace H := condT c4 H
      refine AW.skip ?_
      refine AW.seq ?_
      refine AW.block ?_
      refine AW.drawSeq Tryd.checked.mixed (by kernel_rfl) ?_
      obtain ⟨g5, H⟩ := G_some H
      refine QOps.seg (N := 26) 3 [0 ≤ v2 ∧ v2 < (t0.length : Int)] [(19, .ipt (t0.flatMap (eI .u8)) (v2.toNat * 1)), (18, .int .i64 v2), (17, slA (eI .u8) t0), (14, .bool (decide (v2 < (t0.length : Int)))), (0, slA (eI .u8) t0), (1, slA (eI .u8) t1), (5, .int .i64 v2)] (by kernel_rfl) ⟨g5, trivial⟩ ?_
      refine QOps.asU (.int .u8 (t0.getD v2.toNat (0 : Int))) rfl (T.load rfl trivial (by kernel_rfl) (fm_cell0 (eI .u8) 1 (fun _ => rfl) t0 (0 : Int) v2.toNat (ltN g5) (fun a => .val (.int .u8 a)) (fun _ => rfl))) ?_
      obtain ⟨g6, H⟩ := G_some H
      refine QOps.seg (N := 26) 3 [0 ≤ v2 ∧ v2 < (t1.length : Int)] [(23, .ipt (t1.flatMap (eI .u8)) (v2.toNat * 1)), (22, .int .i64 v2), (21, slA (eI .u8) t1), (20, .int .u8 (t0.getD v2.toNat (0 : Int))), (19, .ipt (t0.flatMap (eI .u8)) (v2.toNat * 1)), (18, .int .i64 v2), (17, slA (eI .u8) t0), (14, .bool (decide (v2 < (t0.length : Int)))), (0, slA (eI .u8) t0), (1, slA (eI .u8) t1), (5, .int .i64 v2)] (by kernel_rfl) ⟨g6, trivial⟩ ?_
      refine QOps.asU (.int .u8 (t1.getD v2.toNat (0 : Int))) rfl (T.load rfl trivial (by kernel_rfl) (fm_cell0 (eI .u8) 1 (fun _ => rfl) t1 (0 : Int) v2.toNat (ltN g6) (fun a => .val (.int .u8 a)) (fun _ => rfl))) ?_
      refine QOps.seg (N := 26) 1 [] [(25, .bool ((t0.getD v2.toNat (0 : Int)) != (t1.getD v2.toNat (0 : Int)))), (24, .int .u8 (t1.getD v2.toNat (0 : Int))), (23, .ipt (t1.flatMap (eI .u8)) (v2.toNat * 1)), (22, .int .i64 v2), (21, slA (eI .u8) t1), (20, .int .u8 (t0.getD v2.toNat (0 : Int))), (19, .ipt (t0.flatMap (eI .u8)) (v2.toNat * 1)), (18, .int .i64 v2), (17, slA (eI .u8) t0), (14, .bool (decide (v2 < (t0.length : Int)))), (0, slA (eI .u8) t0), (1, slA (eI .u8) t1), (5, .int .i64 v2)] (by kernel_rfl) trivial ?_
      refine QOps.nil ?_
      refine AW.trim [25, 0, 1, 5] [(25, .bool ((t0.getD v2.toNat (0 : Int)) != (t1.getD v2.toNat (0 : Int)))), (0, slA (eI .u8) t0), (1, slA (eI .u8) t1), (5, .int .i64 v2)] (by kernel_rfl) ?_
      refine AW.cond (b := (t0.getD v2.toNat (0 : Int)) != (t1.getD v2.toNat (0 : Int))) rfl (fun c7 => ?_) (fun c7 => ?_)
      · replace H := condT c7 H
        refine AW.regionSeq ?_
        refine OpsW.seg 1 [4] [] [(4, .bool false)] (by kernel_rfl) trivial ?_
        refine OpsW.nil ?_
        obtain rfl := Option.some.inj H
        refine AW.recast (env' := [(4, .bool false)]) (h' := []) (StC.pure (.cons .im .nil)) ?_
        refine AW.ret ?_
        try simp only [Ex.then, Ex.inBlock, Ex.noGoto, Ex.jump, reduceIte, Nat.reduceEqDiff, reduceCtorEq]
        refine Done.gen rfl (.tmp .nil) ?_
        show _ = _
        kernel_rfl
      · replace H := condF c7 H
        refine AW.skip ?_
        refine AW.region ?_
        obtain ⟨g8, H⟩ := G_some H
        refine OpsW.seg 3 [5, 0, 1] [inR (v2 + (1 : Int))] [(5, .int .i64 (v2 + (1 : Int))), (0, slA (eI .u8) t0), (1, slA (eI .u8) t1)] (by kernel_rfl) ⟨g8, trivial⟩ ?_
        refine OpsW.nil ?_
        show ∃ y, _ ∧ StC _ _ _ _
        exact ⟨v2 + (1 : Int), H, (StC.pure (.cons .im (.cons .im (.cons .im .nil))))⟩
    · replace H := condF c4 H
      refine AW.exit ?_
      refine AW.regionSeq ?_
      refine OpsW.seg 1 [4] [] [(4, .bool true)] (by kernel_rfl) trivial ?_
      refine OpsW.nil ?_
      obtain rfl := Option.some.inj H
      refine AW.recast (env' := [(4, .bool true)]) (h' := []) (StC.pure (.cons .im .nil)) ?_
      refine AW.ret ?_
      try simp only [Ex.then, Ex.inBlock, Ex.noGoto, Ex.jump, reduceIte, Nat.reduceEqDiff, reduceCtorEq]
      refine Done.gen rfl (.tmp .nil) ?_
      show _ = _
      kernel_rfl
def f_R01_Cells_b1 (t0 : List Int) (t1 : Int) (loop3 : ((List Int) × Int) → Option (List Int)) (v1 : List Int) (v2 : Int) : Option (List Int) :=
  cond (cond (decide (v2 < (t0.length : Int))) (decide (v2 < t1)) false) (
    G (0 ≤ v2 ∧ v2 < (t0.length : Int)) <|
    G (room 1 (v1.length + 1)) <|
    G (inR (v2 + (1 : Int))) <|
    loop3 (v1 ++ [Int.tmod (t0.getD v2.toNat (0 : Int)) (64 : Int)], v2 + (1 : Int))) (
    some v1)
def f_R01_Cells (t0 : List Int) (t1 : Int) : Option (List Int) :=
  iter (fun loop (s : (List Int) × Int) => f_R01_Cells_b1 t0 t1 loop s.1 s.2) 1000000 (([] : List Int), (0 : Int))
theorem f_R01_Cells_ok {t0 : List Int} {t1 : Int} {r : List Int} (H : f_R01_Cells t0 t1 = some r) : QSpec Tryd.prog 12 [slA (eI .u8) t0, .int .i64 t1] (slA (eI .u8) r) := by
  refine Spec.of_AW Tryd.func12 rfl (by simp [Tryd.ntmps12]) ?_
  rw [Tryd.ntmps12]
  unfold f_R01_Cells at H
  change AW _ _ _ [(0, slA (eI .u8) t0), (1, .int .i64 t1)] [] _
  refine AW.regionSeq ?_
  refine OpsW.seg 1 [0, 1] [] [(0, slA (eI .u8) t0), (1, .int .i64 t1)] (by kernel_rfl) trivial ?_
  refine OpsW.nil ?_
  refine AW.regionSeq ?_
  refine OpsW.buildT (enc := eI .u8) ([] : List Int) rfl rfl rfl 7 rfl E26 (fun _ => rfl) (by decide) trivial (by kernel_rfl) (by kernel_rfl) (by kernel_rfl) rfl ?_
  refine OpsW.seg 1 [5, 0, 1] [] [(5, .rsl 7 0 0 (([] : List Int).length)), (0, slA (eI .u8) t0), (1, .int .i64 t1)] (by kernel_rfl) trivial ?_
  refine OpsW.recast (env' := [(5, .rsl 5 0 0 (([] : List Int).length)), (0, slA (eI .u8) t0), (1, .int .i64 t1)]) (h' := [(5, rtA 0 42 1 (eI .u8) ([] : List Int))]) (StC.mk (phi [(5, some 7)]) (.old rfl rfl rfl rfl rfl (CstL.ims _) .nil) rfl (.cons (.rsl rfl rfl rfl rfl rfl rfl) (.cons .im (.cons .im .nil)))) ?_
  refine OpsW.nil ?_
  refine AW.seq ?_
  refine AW.regionSeq ?_
  refine OpsW.seg 1 [6, 5, 0, 1] [] [(6, .int .i64 (0 : Int)), (5, .rsl 5 0 0 (([] : List Int).length)), (0, slA (eI .u8) t0), (1, .int .i64 t1)] (by kernel_rfl) trivial ?_
  refine OpsW.nil ?_
  refine AW.block ?_
  refine AW.iterK (fun loop (s : (List Int) × Int) => f_R01_Cells_b1 t0 t1 loop s.1 s.2) r (fun (s : (List Int) × Int) => [(0, slA (eI .u8) t0), (1, .int .i64 t1), (5, .rsl 5 0 0 s.1.length), (6, .int .i64 s.2)]) (fun (s : (List Int) × Int) => [(5, rtA 0 42 1 (eI .u8) s.1)]) ?_ 1000000 (([] : List Int), (0 : Int)) H (StC.mk (phi [(5, some 5)]) (.old rfl rfl rfl rfl rfl (CstL.ims _) .nil) rfl (.cons .im (.cons .im (.cons (.rsl rfl rfl rfl rfl rfl rfl) (.cons .im .nil)))))
  intro loop3 s H
  obtain ⟨v1, v2⟩ := s
  change f_R01_Cells_b1 t0 t1 loop3 v1 v2 = some r at H
  unfold f_R01_Cells_b1 at H
  change AW _ _ _ [(0, slA (eI .u8) t0), (1, .int .i64 t1), (5, .rsl 5 0 0 v1.length), (6, .int .i64 v2)] [(5, rtA 0 42 1 (eI .u8) v1)] _
  refine AW.seq ?_
  refine AW.regionSeq ?_
  refine OpsW.seg 9 [16, 0, 1, 5, 6] [(decide (v2 < (t0.length : Int))) = true → (decide (v2 < (t0.length : Int))) = true, (decide (v2 < (t0.length : Int))) = true → (decide (v2 < (t0.length : Int))) = true, (decide (v2 < (t0.length : Int))) = true → (decide (v2 < (t0.length : Int))) = true] [(16, .bool (cond (decide (v2 < (t0.length : Int))) (decide (v2 < t1)) false)), (0, slA (eI .u8) t0), (1, .int .i64 t1), (5, .rsl 5 0 0 v1.length), (6, .int .i64 v2)] (by kernel_rfl) ⟨(fun h => h), (fun h => h), (fun h => by first | exact h | simpa using h), trivial⟩ ?_
  refine OpsW.nil ?_
  refine AW.cond (b := cond (decide (v2 < (t0.length : Int))) (decide (v2 < t1)) false) rfl (fun c4 => ?_) (fun c4 => ?_)
  · replace H := condT c4 H
    refine AW.skip ?_
    refine AW.seq ?_
    refine AW.block ?_
    refine AW.region ?_
    obtain ⟨g5, H⟩ := G_some H
    refine OpsW.seg 4 [22, 19, 0, 1, 5, 6] [0 ≤ v2 ∧ v2 < (t0.length : Int)] [(22, .ipt (t0.flatMap (eI .u8)) (v2.toNat * 1)), (19, .rsl 5 0 0 v1.length), (0, slA (eI .u8) t0), (1, .int .i64 t1), (5, .rsl 5 0 0 v1.length), (6, .int .i64 v2)] (by kernel_rfl) ⟨g5, trivial⟩ ?_
    refine OpsW.asU (.int .u8 (t0.getD v2.toNat (0 : Int))) rfl rfl (T.load rfl trivial (by kernel_rfl) (fm_cell0 (eI .u8) 1 (fun _ => rfl) t0 (0 : Int) v2.toNat (ltN g5) (fun a => .val (.int .u8 a)) (fun _ => rfl))) ?_
    refine OpsW.seg 1 [24, 19, 0, 1, 5, 6] [(64 : Int) ≠ 0] [(24, .int .u8 (Int.tmod (t0.getD v2.toNat (0 : Int)) (64 : Int))), (19, .rsl 5 0 0 v1.length), (0, slA (eI .u8) t0), (1, .int .i64 t1), (5, .rsl 5 0 0 v1.length), (6, .int .i64 v2)] (by kernel_rfl) ⟨(by decide), trivial⟩ ?_
    obtain ⟨g6, H⟩ := G_some H
    refine OpsW.appendLF (enc := eI .u8) [Int.tmod (t0.getD v2.toNat (0 : Int)) (64 : Int)] rfl rfl rfl (by decide) rfl rfl rfl (by simp) E26 (fun _ => rfl) (by decide) trivial (by kernel_rfl) (by kernel_rfl) (by kernel_rfl) rfl rfl rfl g6 ?_
    refine OpsW.seg 1 [5, 0, 1, 6] [] [(5, .rsl 5 1 0 ((v1 ++ [Int.tmod (t0.getD v2.toNat (0 : Int)) (64 : Int)]).length)), (0, slA (eI .u8) t0), (1, .int .i64 t1), (6, .int .i64 v2)] (by kernel_rfl) trivial ?_
    refine OpsW.recast (env' := [(5, .rsl 5 0 0 ((v1 ++ [Int.tmod (t0.getD v2.toNat (0 : Int)) (64 : Int)]).length)), (0, slA (eI .u8) t0), (1, .int .i64 t1), (6, .int .i64 v2)]) (h' := [(5, rtA 0 42 1 (eI .u8) (v1 ++ [Int.tmod (t0.getD v2.toNat (0 : Int)) (64 : Int)]))]) (StC.mk (phi [(5, some 5)]) (.old rfl rfl rfl rfl rfl (CstL.ims _) .nil) rfl (.cons (.rsl rfl rfl rfl rfl rfl rfl) (.cons .im (.cons .im (.cons .im .nil))))) ?_
    refine OpsW.nil ?_
    refine AW.region ?_
    obtain ⟨g7, H⟩ := G_some H
    refine OpsW.seg 3 [6, 5, 0, 1] [inR (v2 + (1 : Int))] [(6, .int .i64 (v2 + (1 : Int))), (5, .rsl 5 0 0 ((v1 ++ [Int.tmod (t0.getD v2.toNat (0 : Int)) (64 : Int)]).length)), (0, slA (eI .u8) t0), (1, .int .i64 t1)] (by kernel_rfl) ⟨g7, trivial⟩ ?_
    refine OpsW.nil ?_
    show ∃ y, _ ∧ StC _ _ _ _
    exact ⟨(v1 ++ [Int.tmod (t0.getD v2.toNat (0 : Int)) (64 : Int)], v2 + (1 : Int)), H, (StC.mk (phi [(5, some 5)]) (.old rfl rfl rfl rfl rfl (CstL.ims _) .nil) rfl (.cons .im (.cons .im (.cons (.rsl rfl rfl rfl rfl rfl rfl) (.cons .im .nil)))))⟩
  · replace H := condF c4 H
    refine AW.exit ?_
    refine AW.regionSeq ?_
    refine OpsW.seg 2 [4] [] [(4, .rsl 5 0 0 v1.length)] (by kernel_rfl) trivial ?_
    refine OpsW.recast (env' := [(4, slA (eI .u8) v1)]) (h' := []) (StC.mk (phi []) .nil rfl (.cons (.frz rfl rfl rfl (frz_all (eI .u8) 1 (fun _ => rfl) v1) (fm_length (eI .u8) 1 (fun _ => rfl) v1) (phi_ne rfl)) .nil)) ?_
    refine OpsW.nil ?_
    obtain rfl := Option.some.inj H
    refine AW.recast (env' := [(4, slA (eI .u8) v1)]) (h' := []) (StC.pure (.cons .im .nil)) ?_
    refine AW.ret ?_
    try simp only [Ex.then, Ex.inBlock, Ex.noGoto, Ex.jump, reduceIte, Nat.reduceEqDiff, reduceCtorEq]
    refine Done.gen rfl (.tmp .nil) ?_
    show _ = _
    kernel_rfl
def f_number_letter_b1 (t0 : Int) (loop2 : (Int) → Option Int) (v1 : Int) : Option Int :=
  cond (decide (v1 < (26 : Int))) (
    G (0 ≤ v1 ∧ v1 < (26 : Int)) <|
    G (tab_number_letters.length = 26) <|
    cond ((tab_number_letters.getD v1.toNat (0 : Int)) == t0) (
      G (inR (v1 + (1 : Int))) <|
      some (v1 + (1 : Int))) (
      G (inR (v1 + (1 : Int))) <|
      loop2 (v1 + (1 : Int)))) (
    some (0 : Int))
def f_number_letter (t0 : Int) : Option Int :=
  iter (fun loop (s : Int) => f_number_letter_b1 t0 loop s) 1000000 (0 : Int)
theorem f_number_letter_ok {t0 : Int} {r : Int} (H : f_number_letter t0 = some r) : QSpec Tryd.prog 31 [.int .u8 t0] (.int .i64 r) := by
  refine Spec.of_AW Tryd.func31 rfl (by simp [Tryd.ntmps31]) ?_
  rw [Tryd.ntmps31]
  unfold f_number_letter at H
  change AW _ _ _ [(0, .int .u8 t0)] [] _
  refine AW.regionSeq ?_
  refine OpsW.seg 1 [0] [] [(0, .int .u8 t0)] (by kernel_rfl) trivial ?_
  refine OpsW.nil ?_
  refine AW.seq ?_
  refine AW.regionSeq ?_
  refine OpsW.asU (.agg ((tab_number_letters.flatMap (eI .u8)).map .im)) rfl rfl (T.loadAgg (n := 26) rfl trivial (by kernel_rfl) (Nat.le_of_ble_eq_true (by kernel_rfl)) (by kernel_rfl)) ?_
  refine OpsW.seg 1 [6, 5, 0] [] [(6, .int .i64 (0 : Int)), (5, .agg ((tab_number_letters.flatMap (eI .u8)).map .im)), (0, .int .u8 t0)] (by kernel_rfl) trivial ?_
  refine OpsW.nil ?_
  refine AW.block ?_
  refine AW.iterK (fun loop (s : Int) => f_number_letter_b1 t0 loop s) r (fun (s : Int) => [(0, .int .u8 t0), (5, .agg ((tab_number_letters.flatMap (eI .u8)).map .im)), (6, .int .i64 s)]) (fun (s : Int) => []) ?_ 1000000 (0 : Int) H (StC.pure (.cons .im (.cons (.agg (CstL.ims _)) (.cons .im .nil))))
  intro loop2 v1 H
  change f_number_letter_b1 t0 loop2 v1 = some r at H
  unfold f_number_letter_b1 at H
  change AW _ _ _ [(0, .int .u8 t0), (5, .agg ((tab_number_letters.flatMap (eI .u8)).map .im)), (6, .int .i64 v1)] [] _
  refine AW.regionSeq ?_
  refine OpsW.seg 1 [7, 0, 5, 6] [] [(7, .bool (decide (v1 < (26 : Int)))), (0, .int .u8 t0), (5, .agg ((tab_number_letters.flatMap (eI .u8)).map .im)), (6, .int .i64 v1)] (by kernel_rfl) trivial ?_
  refine OpsW.nil ?_
  refine AW.seq ?_
  refine AW.cond (b := decide (v1 < (26 : Int))) rfl (fun c3 => ?_) (fun c3 => ?_)
  · replace H := condT c3 H
    refine AW.skip ?_
    refine AW.seq ?_
    refine AW.block ?_
    refine AW.regionSeq ?_
    refine OpsW.seg 1 [8, 0, 5, 6] [] [(8, .int .i64 v1), (0, .int .u8 t0), (5, .agg ((tab_number_letters.flatMap (eI .u8)).map .im)), (6, .int .i64 v1)] (by kernel_rfl) trivial ?_
    obtain ⟨g4, H⟩ := G_some H
    obtain ⟨g5, H⟩ := G_some H
    refine OpsW.asU (.int .u8 (tab_number_letters.getD v1.toNat (0 : Int))) rfl rfl (T.indexA (e := 42) rfl rfl trivial trivial (by kernel_rfl) (by kernel_rfl) (by kernel_rfl) (by kernel_rfl) g4 (map_get (fm_cell0 (eI .u8) 1 (fun _ => rfl) tab_number_letters (0 : Int) v1.toNat (ltA (n := 26) g4 g5) (fun a => .val (.int .u8 a)) (fun _ => rfl)))) ?_
    refine OpsW.seg 2 [4, 3, 0, 5, 6] [] [(4, .int .u8 (tab_number_letters.getD v1.toNat (0 : Int))), (3, .int .i64 v1), (0, .int .u8 t0), (5, .agg ((tab_number_letters.flatMap (eI .u8)).map .im)), (6, .int .i64 v1)] (by kernel_rfl) trivial ?_
    refine OpsW.nil ?_
    refine AW.regionSeq ?_
    refine OpsW.seg 3 [12, 3, 0, 5, 6] [] [(12, .bool ((tab_number_letters.getD v1.toNat (0 : Int)) == t0)), (3, .int .i64 v1), (0, .int .u8 t0), (5, .agg ((tab_number_letters.flatMap (eI .u8)).map .im)), (6, .int .i64 v1)] (by kernel_rfl) trivial ?_
    refine OpsW.nil ?_
    refine AW.cond (b := (tab_number_letters.getD v1.toNat (0 : Int)) == t0) rfl (fun c6 => ?_) (fun c6 => ?_)
    · replace H := condT c6 H
      refine AW.regionSeq ?_
      obtain ⟨g7, H⟩ := G_some H
      refine OpsW.seg 3 [2] [inR (v1 + (1 : Int))] [(2, .int .i64 (v1 + (1 : Int)))] (by kernel_rfl) ⟨g7, trivial⟩ ?_
      refine OpsW.nil ?_
      obtain rfl := Option.some.inj H
      refine AW.recast (env' := [(2, .int .i64 (v1 + (1 : Int)))]) (h' := []) (StC.pure (.cons .im .nil)) ?_
      refine AW.ret ?_
      try simp only [Ex.then, Ex.inBlock, Ex.noGoto, Ex.jump, reduceIte, Nat.reduceEqDiff, reduceCtorEq]
      refine Done.gen rfl (.tmp .nil) ?_
      show _ = _
      kernel_rfl
    · replace H := condF c6 H
      refine AW.skip ?_
      refine AW.region ?_
      obtain ⟨g8, H⟩ := G_some H
      refine OpsW.seg 2 [6, 0, 5] [inR (v1 + (1 : Int))] [(6, .int .i64 (v1 + (1 : Int))), (0, .int .u8 t0), (5, .agg ((tab_number_letters.flatMap (eI .u8)).map .im))] (by kernel_rfl) ⟨g8, trivial⟩ ?_
      refine OpsW.nil ?_
      show ∃ y, _ ∧ StC _ _ _ _
      exact ⟨v1 + (1 : Int), H, (StC.pure (.cons .im (.cons (.agg (CstL.ims _)) (.cons .im .nil))))⟩
  · replace H := condF c3 H
    refine AW.exit ?_
    refine AW.regionSeq ?_
    refine OpsW.seg 1 [2] [] [(2, .int .i64 (0 : Int))] (by kernel_rfl) trivial ?_
    refine OpsW.nil ?_
    obtain rfl := Option.some.inj H
    refine AW.recast (env' := [(2, .int .i64 (0 : Int))]) (h' := []) (StC.pure (.cons .im .nil)) ?_
    refine AW.ret ?_
    try simp only [Ex.then, Ex.inBlock, Ex.noGoto, Ex.jump, reduceIte, Nat.reduceEqDiff, reduceCtorEq]
    refine Done.gen rfl (.tmp .nil) ?_
    show _ = _
    kernel_rfl
def f_number_Read_k1 (t0 : List Int) (v3 : Int) (v4 : Int) : Option (Int × Int × Int) :=
  G (((!(v4 == (1 : Int))) && (decide ((2 : Int) < v4))) = true → (0 ≤ (1 : Int) ∧ (1 : Int) < (t0.length : Int))) <|
  cond (cond (v4 == (1 : Int)) true (cond (decide ((2 : Int) < v4)) ((t0.getD (1 : Int).toNat (0 : Int)) == (tab_number_digits.getD (0 : Int).toNat (0 : Int))) false)) (
    some ((0 : Int), (0 : Int), (190 : Int))) (
    some (v3, v4, (0 : Int)))
def f_number_Read_b1 (t0 : List Int) (loop9 : (Int × Int) → Option (Int × Int × Int)) (loop14 : (Int × Int × Int) → Option (Int × Int × Int)) (v11 : Int) (v12 : Int) (v13 : Int) : Option (Int × Int × Int) :=
  cond (decide (v13 < (10 : Int))) (
    G (0 ≤ v13 ∧ v13 < (10 : Int)) <|
    G (tab_number_digits.length = 10) <|
    G (0 ≤ v12 ∧ v12 < (t0.length : Int)) <|
    cond ((tab_number_digits.getD v13.toNat (0 : Int)) == (t0.getD v12.toNat (0 : Int))) (
      cond (decide ((5 : Int) < v12)) (
        some ((0 : Int), (0 : Int), (190 : Int))) (
        G (inR ((10 : Int) * v11)) <|
        G (inR (((10 : Int) * v11) + v13)) <|
        G (inR (v12 + (1 : Int))) <|
        loop9 (((10 : Int) * v11) + v13, v12 + (1 : Int)))) (
      G (inR (v13 + (1 : Int))) <|
      loop14 (v11, v12, v13 + (1 : Int)))) (
    f_number_Read_k1 t0 v11 v12)
def f_number_Read_b2 (t0 : List Int) (loop9 : (Int × Int) → Option (Int × Int × Int)) (v7 : Int) (v8 : Int) : Option (Int × Int × Int) :=
  cond (decide (v8 < (t0.length : Int))) (
    iter (fun loop (s : Int × Int × Int) => f_number_Read_b1 t0 loop9 loop s.1 s.2.1 s.2.2) 1000000 (v7, v8, (0 : Int))) (
    f_number_Read_k1 t0 v7 v8)
def f_number_Read_k2 (t0 : List Int) (v1 : Int) (v2 : Int) : Option (Int × Int × Int) :=
  iter (fun loop (s : Int × Int) => f_number_Read_b2 t0 loop s.1 s.2) 1000000 (v1, v2)
def f_number_Read_k3 (t0 : List Int) (v27 : Int) (v28 : Int) : Option (Int × Int × Int) :=
  G (((!(v28 == (1 : Int))) && (decide ((2 : Int) < v28))) = true → (0 ≤ (1 : Int) ∧ (1 : Int) < (t0.length : Int))) <|
  cond (cond (v28 == (1 : Int)) true (cond (decide ((2 : Int) < v28)) ((t0.getD (1 : Int).toNat (0 : Int)) == (tab_number_digits.getD (0 : Int).toNat (0 : Int))) false)) (
    some ((0 : Int), (0 : Int), (190 : Int))) (
    some (v27, v28, (0 : Int)))
def f_number_Read_b3 (t0 : List Int) (loop33 : (Int × Int) → Option (Int × Int × Int)) (loop38 : (Int × Int × Int) → Option (Int × Int × Int)) (v35 : Int) (v36 : Int) (v37 : Int) : Option (Int × Int × Int) :=
  cond (decide (v37 < (10 : Int))) (
    G (0 ≤ v37 ∧ v37 < (10 : Int)) <|
    G (tab_number_digits.length = 10) <|
    G (0 ≤ v36 ∧ v36 < (t0.length : Int)) <|
    cond ((tab_number_digits.getD v37.toNat (0 : Int)) == (t0.getD v36.toNat (0 : Int))) (
      cond (decide ((5 : Int) < v36)) (
        some ((0 : Int), (0 : Int), (190 : Int))) (
        G (inR ((10 : Int) * v35)) <|
        G (inR (((10 : Int) * v35) + v37)) <|
        G (inR (v36 + (1 : Int))) <|
        loop33 (((10 : Int) * v35) + v37, v36 + (1 : Int)))) (
      G (inR (v37 + (1 : Int))) <|
      loop38 (v35, v36, v37 + (1 : Int)))) (
    f_number_Read_k3 t0 v35 v36)
def f_number_Read_b4 (t0 : List Int) (loop33 : (Int × Int) → Option (Int × Int × Int)) (v31 : Int) (v32 : Int) : Option (Int × Int × Int) :=
  cond (decide (v32 < (t0.length : Int))) (
    iter (fun loop (s : Int × Int × Int) => f_number_Read_b3 t0 loop33 loop s.1 s.2.1 s.2.2) 1000000 (v31, v32, (0 : Int))) (
    f_number_Read_k3 t0 v31 v32)
def f_number_Read (t0 : List Int) : Option (Int × Int × Int) :=
  G ((!((t0.length : Int) == (0 : Int))) = true → (0 ≤ (0 : Int) ∧ (0 : Int) < (t0.length : Int))) <|
  cond (cond ((t0.length : Int) == (0 : Int)) true ((t0.getD (0 : Int).toNat (0 : Int)) != (60 : Int))) (
    some ((0 : Int), (0 : Int), (190 : Int))) (
    iter (fun loop (s : Int × Int) => f_number_Read_b4 t0 loop s.1 s.2) 1000000 ((0 : Int), (1 : Int)))
theorem f_number_Read_ok {t0 : List Int} {r : Int × Int × Int} (H : f_number_Read t0 = some r) : QSpec Tryd.prog 13 [slA (eI .u8) t0] (.tup [.int .i64 r.1, .int .i64 r.2.1, .int .i64 r.2.2]) := by
  refine Spec.of_AW Tryd.func13 rfl (by simp [Tryd.ntmps13]) ?_
  rw [Tryd.ntmps13]
  unfold f_number_Read at H
  change AW _ _ _ [(0, slA (eI .u8) t0)] [] _
  refine AW.regionSeq ?_
  refine OpsW.seg 3 [0] [] [(0, slA (eI .u8) t0)] (by kernel_rfl) trivial ?_
  refine OpsW.nil ?_
  refine AW.scopeK 0 (fun (y : Int × Int) => f_number_Read_k2 t0 y.1 y.2) r (fun (y : Int × Int) => [(0, slA (eI .u8) t0), (5, .int .i64 y.1), (6, .int .i64 y.2)]) (fun (y : Int × Int) => []) rfl ?_ ?_
  · refine AW.seq ?_
    refine AW.regionSeq ?_
    obtain ⟨g25, H⟩ := G_some H
    refine OpsW.seg 6 [14, 12, 0] [(!((t0.length : Int) == (0 : Int))) = true → (!((t0.length : Int) == (0 : Int))) = true, (!((t0.length : Int) == (0 : Int))) = true → (0 ≤ (0 : Int) ∧ (0 : Int) < (t0.length : Int))] [(14, .cnd (!((t0.length : Int) == (0 : Int))) (.ipt (t0.flatMap (eI .u8)) ((0 : Int).toNat * 1))), (12, .bool ((t0.length : Int) == (0 : Int))), (0, slA (eI .u8) t0)] (by kernel_rfl) ⟨(fun h => h), g25, trivial⟩ ?_
    refine OpsW.asG (c := !((t0.length : Int) == (0 : Int))) (.int .u8 (t0.getD (0 : Int).toNat (0 : Int))) rfl rfl rfl rfl (fun hc => T.load rfl hc (by kernel_rfl) (fm_cell0 (eI .u8) 1 (fun _ => rfl) t0 (0 : Int) (0 : Int).toNat (ltN (g25 hc)) (fun a => .val (.int .u8 a)) (fun _ => rfl))) ?_
    refine OpsW.seg 2 [17, 0] [(!((t0.length : Int) == (0 : Int))) = true → (!((t0.length : Int) == (0 : Int))) = true, ((t0.length : Int) == (0 : Int)) = false → (!((t0.length : Int) == (0 : Int))) = true] [(17, .bool (cond ((t0.length : Int) == (0 : Int)) true ((t0.getD (0 : Int).toNat (0 : Int)) != (60 : Int)))), (0, slA (eI .u8) t0)] (by kernel_rfl) ⟨(fun h => h), (fun h => by first | exact h | simpa using h), trivial⟩ ?_
    refine OpsW.nil ?_
    refine AW.cond (b := cond ((t0.length : Int) == (0 : Int)) true ((t0.getD (0 : Int).toNat (0 : Int)) != (60 : Int))) rfl (fun c26 => ?_) (fun c26 => ?_)
    · replace H := condT c26 H
      refine AW.regionSeq ?_
      refine OpsW.seg 3 [4, 3, 2] [] [(4, .int .i64 (190 : Int)), (3, .int .i64 (0 : Int)), (2, .int .i64 (0 : Int))] (by kernel_rfl) trivial ?_
      refine OpsW.nil ?_
      obtain rfl := Option.some.inj H
      refine AW.recast (env' := [(2, .int .i64 (0 : Int)), (3, .int .i64 (0 : Int)), (4, .int .i64 (190 : Int))]) (h' := []) (StC.pure (.cons .im (.cons .im (.cons .im .nil)))) ?_
      refine AW.ret ?_
      try simp only [Ex.then, Ex.inBlock, Ex.noGoto, Ex.jump, reduceIte, Nat.reduceEqDiff, reduceCtorEq]
      refine Done.gen rfl (.tmp (.tmp (.tmp .nil))) ?_
      show _ = _
      kernel_rfl
    · replace H := condF c26 H
      refine AW.skip ?_
      refine AW.regionSeq ?_
      refine OpsW.seg 2 [6, 5, 0] [] [(6, .int .i64 (1 : Int)), (5, .int .i64 (0 : Int)), (0, slA (eI .u8) t0)] (by kernel_rfl) trivial ?_
      refine OpsW.nil ?_
      refine AW.labelSeq ?_
      refine AW.joinK (fun (y : Int × Int) => f_number_Read_k3 t0 y.1 y.2) r (fun (y : Int × Int) => [(0, slA (eI .u8) t0), (5, .int .i64 y.1), (6, .int .i64 y.2)]) (fun (y : Int × Int) => []) ?_ ?_
      · refine AW.block ?_
        refine AW.iterK (fun loop (s : Int × Int) => f_number_Read_b4 t0 loop s.1 s.2) r (fun (s : Int × Int) => [(0, slA (eI .u8) t0), (5, .int .i64 s.1), (6, .int .i64 s.2)]) (fun (s : Int × Int) => []) ?_ 1000000 ((0 : Int), (1 : Int)) H (StC.pure (.cons .im (.cons .im (.cons .im .nil))))
        intro loop33 s H
        obtain ⟨v31, v32⟩ := s
        change f_number_Read_b4 t0 loop33 v31 v32 = some r at H
        unfold f_number_Read_b4 at H
        change AW _ _ _ [(0, slA (eI .u8) t0), (5, .int .i64 v31), (6, .int .i64 v32)] [] _
        refine AW.seq ?_
        refine AW.regionSeq ?_
        refine OpsW.seg 4 [21, 0, 5, 6] [] [(21, .bool (decide (v32 < (t0.length : Int)))), (0, slA (eI .u8) t0), (5, .int .i64 v31), (6, .int .i64 v32)] (by kernel_rfl) trivial ?_
        refine OpsW.nil ?_
        refine AW.cond (b := decide (v32 < (t0.length : Int))) rfl (fun c34 => ?_) (fun c34 => ?_)
        · replace H := condT c34 H
          refine AW.skip ?_
          refine AW.block ?_
          refine AW.seq ?_
          refine AW.regionSeq ?_
          refine OpsW.asU (.agg ((tab_number_digits.flatMap (eI .u8)).map .im)) rfl rfl (T.loadAgg (n := 10) rfl trivial (by kernel_rfl) (Nat.le_of_ble_eq_true (by kernel_rfl)) (by kernel_rfl)) ?_
          refine OpsW.seg 1 [23, 22, 0, 5, 6] [] [(23, .int .i64 (0 : Int)), (22, .agg ((tab_number_digits.flatMap (eI .u8)).map .im)), (0, slA (eI .u8) t0), (5, .int .i64 v31), (6, .int .i64 v32)] (by kernel_rfl) trivial ?_
          refine OpsW.nil ?_
          refine AW.block ?_
          refine AW.iterK (fun loop (s : Int × Int × Int) => f_number_Read_b3 t0 loop33 loop s.1 s.2.1 s.2.2) r (fun (s : Int × Int × Int) => [(0, slA (eI .u8) t0), (5, .int .i64 s.1), (6, .int .i64 s.2.1), (22, .agg ((tab_number_digits.flatMap (eI .u8)).map .im)), (23, .int .i64 s.2.2)]) (fun (s : Int × Int × Int) => []) ?_ 1000000 (v31, v32, (0 : Int)) H (StC.pure (.cons .im (.cons .im (.cons .im (.cons (.agg (CstL.ims _)) (.cons .im .nil))))))
          intro loop38 s H
          obtain ⟨v35, v36, v37⟩ := s
          change f_number_Read_b3 t0 loop33 loop38 v35 v36 v37 = some r at H
          unfold f_number_Read_b3 at H
          change AW _ _ _ [(0, slA (eI .u8) t0), (5, .int .i64 v35), (6, .int .i64 v36), (22, .agg ((tab_number_digits.flatMap (eI .u8)).map .im)), (23, .int .i64 v37)] [] _
          refine AW.regionSeq ?_
          refine OpsW.seg 1 [24, 0, 5, 6, 22, 23] [] [(24, .bool (decide (v37 < (10 : Int)))), (0, slA (eI .u8) t0), (5, .int .i64 v35), (6, .int .i64 v36), (22, .agg ((tab_number_digits.flatMap (eI .u8)).map .im)), (23, .int .i64 v37)] (by kernel_rfl) trivial ?_
          refine OpsW.nil ?_
          refine AW.seq ?_
          refine AW.cond (b := decide (v37 < (10 : Int))) rfl (fun c39 => ?_) (fun c39 => ?_)
          · replace H := condT c39 H
            refine AW.skip ?_
            refine AW.seq ?_
            refine AW.block ?_
            refine AW.regionSeq ?_
            refine OpsW.seg 1 [25, 0, 5, 6, 22, 23] [] [(25, .int .i64 v37), (0, slA (eI .u8) t0), (5, .int .i64 v35), (6, .int .i64 v36), (22, .agg ((tab_number_digits.flatMap (eI .u8)).map .im)), (23, .int .i64 v37)] (by kernel_rfl) trivial ?_
            obtain ⟨g40, H⟩ := G_some H
            obtain ⟨g41, H⟩ := G_some H
            refine OpsW.asU (.int .u8 (tab_number_digits.getD v37.toNat (0 : Int))) rfl rfl (T.indexA (e := 42) rfl rfl trivial trivial (by kernel_rfl) (by kernel_rfl) (by kernel_rfl) (by kernel_rfl) g40 (map_get (fm_cell0 (eI .u8) 1 (fun _ => rfl) tab_number_digits (0 : Int) v37.toNat (ltA (n := 10) g40 g41) (fun a => .val (.int .u8 a)) (fun _ => rfl)))) ?_
            refine OpsW.seg 2 [8, 7, 0, 5, 6, 22, 23] [] [(8, .int .u8 (tab_number_digits.getD v37.toNat (0 : Int))), (7, .int .i64 v37), (0, slA (eI .u8) t0), (5, .int .i64 v35), (6, .int .i64 v36), (22, .agg ((tab_number_digits.flatMap (eI .u8)).map .im)), (23, .int .i64 v37)] (by kernel_rfl) trivial ?_
            refine OpsW.nil ?_
            refine AW.regionSeq ?_
            obtain ⟨g42, H⟩ := G_some H
            refine OpsW.seg 4 [30, 27, 7, 0, 5, 6, 22, 23] [0 ≤ v36 ∧ v36 < (t0.length : Int)] [(30, .ipt (t0.flatMap (eI .u8)) (v36.toNat * 1)), (27, .int .u8 (tab_number_digits.getD v37.toNat (0 : Int))), (7, .int .i64 v37), (0, slA (eI .u8) t0), (5, .int .i64 v35), (6, .int .i64 v36), (22, .agg ((tab_number_digits.flatMap (eI .u8)).map .im)), (23, .int .i64 v37)] (by kernel_rfl) ⟨g42, trivial⟩ ?_
            refine OpsW.asU (.int .u8 (t0.getD v36.toNat (0 : Int))) rfl rfl (T.load rfl trivial (by kernel_rfl) (fm_cell0 (eI .u8) 1 (fun _ => rfl) t0 (0 : Int) v36.toNat (ltN g42) (fun a => .val (.int .u8 a)) (fun _ => rfl))) ?_
            refine OpsW.seg 1 [32, 7, 0, 5, 6, 22, 23] [] [(32, .bool ((tab_number_digits.getD v37.toNat (0 : Int)) == (t0.getD v36.toNat (0 : Int)))), (7, .int .i64 v37), (0, slA (eI .u8) t0), (5, .int .i64 v35), (6, .int .i64 v36), (22, .agg ((tab_number_digits.flatMap (eI .u8)).map .im)), (23, .int .i64 v37)] (by kernel_rfl) trivial ?_
            refine OpsW.nil ?_
            refine AW.cond (b := (tab_number_digits.getD v37.toNat (0 : Int)) == (t0.getD v36.toNat (0 : Int))) rfl (fun c43 => ?_) (fun c43 => ?_)
            · replace H := condT c43 H
              refine AW.seq ?_
              refine AW.regionSeq ?_
              refine OpsW.seg 2 [34, 7, 0, 5, 6] [] [(34, .bool (decide ((5 : Int) < v36))), (7, .int .i64 v37), (0, slA (eI .u8) t0), (5, .int .i64 v35), (6, .int .i64 v36)] (by kernel_rfl) trivial ?_
              refine OpsW.nil ?_
              refine AW.cond (b := decide ((5 : Int) < v36)) rfl (fun c44 => ?_) (fun c44 => ?_)
              · replace H := condT c44 H
                refine AW.regionSeq ?_
                refine OpsW.seg 3 [4, 3, 2] [] [(4, .int .i64 (190 : Int)), (3, .int .i64 (0 : Int)), (2, .int .i64 (0 : Int))] (by kernel_rfl) trivial ?_
                refine OpsW.nil ?_
                obtain rfl := Option.some.inj H
                refine AW.recast (env' := [(2, .int .i64 (0 : Int)), (3, .int .i64 (0 : Int)), (4, .int .i64 (190 : Int))]) (h' := []) (StC.pure (.cons .im (.cons .im (.cons .im .nil)))) ?_
                refine AW.ret ?_
                try simp only [Ex.then, Ex.inBlock, Ex.noGoto, Ex.jump, reduceIte, Nat.reduceEqDiff, reduceCtorEq]
                refine Done.gen rfl (.tmp (.tmp (.tmp .nil))) ?_
                show _ = _
                kernel_rfl
              · replace H := condF c44 H
                refine AW.skip ?_
                refine AW.regionSeq ?_
                obtain ⟨g45, H⟩ := G_some H
                obtain ⟨g46, H⟩ := G_some H
                refine OpsW.seg 5 [5, 0, 6] [inR ((10 : Int) * v35), inR (((10 : Int) * v35) + v37)] [(5, .int .i64 (((10 : Int) * v35) + v37)), (0, slA (eI .u8) t0), (6, .int .i64 v36)] (by kernel_rfl) ⟨g45, g46, trivial⟩ ?_
                refine OpsW.nil ?_
                refine AW.regionSeq ?_
                obtain ⟨g47, H⟩ := G_some H
                refine OpsW.seg 3 [6, 5, 0] [inR (v36 + (1 : Int))] [(6, .int .i64 (v36 + (1 : Int))), (5, .int .i64 (((10 : Int) * v35) + v37)), (0, slA (eI .u8) t0)] (by kernel_rfl) ⟨g47, trivial⟩ ?_
                refine OpsW.nil ?_
                refine AW.exit ?_
                show ∃ y, _ ∧ StC _ _ _ _
                exact ⟨(((10 : Int) * v35) + v37, v36 + (1 : Int)), H, (StC.pure (.cons .im (.cons .im (.cons .im .nil))))⟩
            · replace H := condF c43 H
              refine AW.skip ?_
              refine AW.region ?_
              obtain ⟨g48, H⟩ := G_some H
              refine OpsW.seg 2 [23, 0, 5, 6, 22] [inR (v37 + (1 : Int))] [(23, .int .i64 (v37 + (1 : Int))), (0, slA (eI .u8) t0), (5, .int .i64 v35), (6, .int .i64 v36), (22, .agg ((tab_number_digits.flatMap (eI .u8)).map .im))] (by kernel_rfl) ⟨g48, trivial⟩ ?_
              refine OpsW.nil ?_
              show ∃ y, _ ∧ StC _ _ _ _
              exact ⟨(v35, v36, v37 + (1 : Int)), H, (StC.pure (.cons .im (.cons .im (.cons .im (.cons (.agg (CstL.ims _)) (.cons .im .nil))))))⟩
          · replace H := condF c39 H
            refine AW.exit ?_
            refine AW.exit ?_
            show ∃ y, _ ∧ StC _ _ _ _
            exact ⟨(v35, v36), H, (StC.pure (.cons .im (.cons .im (.cons .im .nil))))⟩
        · replace H := condF c34 H
          refine AW.exit ?_
          show ∃ y, _ ∧ StC _ _ _ _
          exact ⟨(v31, v32), H, (StC.pure (.cons .im (.cons .im (.cons .im .nil))))⟩
      · rintro ⟨v27, v28⟩ H
        change f_number_Read_k3 t0 v27 v28 = some r at H
        unfold f_number_Read_k3 at H
        change AW _ _ _ [(0, slA (eI .u8) t0), (5, .int .i64 v27), (6, .int .i64 v28)] [] _
        refine AW.seq ?_
        refine AW.drawSeq Tryd.checked.mixed (by kernel_rfl) ?_
        obtain ⟨g29, H⟩ := G_some H
        refine QOps.seg (N := 58) 8 [(!(v28 == (1 : Int))) = true → (!(v28 == (1 : Int))) = true, (!(v28 == (1 : Int))) = true → (!(v28 == (1 : Int))) = true, ((!(v28 == (1 : Int))) && (decide ((2 : Int) < v28))) = true → ((!(v28 == (1 : Int))) && (decide ((2 : Int) < v28))) = true, ((!(v28 == (1 : Int))) && (decide ((2 : Int) < v28))) = true → (0 ≤ (1 : Int) ∧ (1 : Int) < (t0.length : Int))] [(49, .cnd ((!(v28 == (1 : Int))) && (decide ((2 : Int) < v28))) (.ipt (t0.flatMap (eI .u8)) ((1 : Int).toNat * 1))), (48, .cnd ((!(v28 == (1 : Int))) && (decide ((2 : Int) < v28))) (slA (eI .u8) t0)), (47, .cnd (!(v28 == (1 : Int))) (.bool (decide ((2 : Int) < v28)))), (46, .cnd (!(v28 == (1 : Int))) (.bool (decide ((2 : Int) < v28)))), (45, .cnd (!(v28 == (1 : Int))) (.int .i64 v28)), (44, .bool (v28 == (1 : Int))), (43, .bool (v28 == (1 : Int))), (42, .int .i64 v28), (0, slA (eI .u8) t0), (5, .int .i64 v27), (6, .int .i64 v28)] (by kernel_rfl) ⟨(fun h => h), (fun h => h), (fun h => h), g29, trivial⟩ ?_
        refine QOps.asG (c := (!(v28 == (1 : Int))) && (decide ((2 : Int) < v28))) (.int .u8 (t0.getD (1 : Int).toNat (0 : Int))) rfl rfl rfl (fun hc => T.load rfl hc (by kernel_rfl) (fm_cell0 (eI .u8) 1 (fun _ => rfl) t0 (0 : Int) (1 : Int).toNat (ltN (g29 hc)) (fun a => .val (.int .u8 a)) (fun _ => rfl))) ?_
        refine QOps.seg (N := 58) 1 [((!(v28 == (1 : Int))) && (decide ((2 : Int) < v28))) = true → (0 ≤ (0 : Int) ∧ (0 : Int) < (10 : Int))] [(51, .cnd ((!(v28 == (1 : Int))) && (decide ((2 : Int) < v28))) (.ipt (tab_number_digits.flatMap (eI .u8)) (0 + (0 : Int).toNat * 1))), (50, .cnd ((!(v28 == (1 : Int))) && (decide ((2 : Int) < v28))) (.int .u8 (t0.getD (1 : Int).toNat (0 : Int)))), (49, .cnd ((!(v28 == (1 : Int))) && (decide ((2 : Int) < v28))) (.ipt (t0.flatMap (eI .u8)) ((1 : Int).toNat * 1))), (48, .cnd ((!(v28 == (1 : Int))) && (decide ((2 : Int) < v28))) (slA (eI .u8) t0)), (47, .cnd (!(v28 == (1 : Int))) (.bool (decide ((2 : Int) < v28)))), (46, .cnd (!(v28 == (1 : Int))) (.bool (decide ((2 : Int) < v28)))), (45, .cnd (!(v28 == (1 : Int))) (.int .i64 v28)), (44, .bool (v28 == (1 : Int))), (43, .bool (v28 == (1 : Int))), (42, .int .i64 v28), (0, slA (eI .u8) t0), (5, .int .i64 v27), (6, .int .i64 v28)] (by kernel_rfl) ⟨(fun _ => by decide), trivial⟩ ?_
        refine QOps.asG (c := (!(v28 == (1 : Int))) && (decide ((2 : Int) < v28))) (.int .u8 (tab_number_digits.getD (0 : Int).toNat (0 : Int))) rfl rfl rfl (fun hc => T.load rfl hc (by kernel_rfl) (tabOff (fm_cell0 (eI .u8) 1 (fun _ => rfl) tab_number_digits (0 : Int) (0 : Int).toNat (ltA (n := 10) (by decide) rfl) (fun a => .val (.int .u8 a)) (fun _ => rfl)))) ?_
        refine QOps.seg (N := 58) 3 [((!(v28 == (1 : Int))) && (decide ((2 : Int) < v28))) = true → ((!(v28 == (1 : Int))) && (decide ((2 : Int) < v28))) = true, ((!(v28 == (1 : Int))) && (decide ((2 : Int) < v28))) = true → ((!(v28 == (1 : Int))) && (decide ((2 : Int) < v28))) = true, (!(v28 == (1 : Int))) = true → (!(v28 == (1 : Int))) = true, (!(v28 == (1 : Int))) = true → ((decide ((2 : Int) < v28)) = true → ((!(v28 == (1 : Int))) && (decide ((2 : Int) < v28))) = true), (v28 == (1 : Int)) = false → (!(v28 == (1 : Int))) = true] [(55, .bool (cond (v28 == (1 : Int)) true (cond (decide ((2 : Int) < v28)) ((t0.getD (1 : Int).toNat (0 : Int)) == (tab_number_digits.getD (0 : Int).toNat (0 : Int))) false))), (54, .cnd (!(v28 == (1 : Int))) (.bool (cond (decide ((2 : Int) < v28)) ((t0.getD (1 : Int).toNat (0 : Int)) == (tab_number_digits.getD (0 : Int).toNat (0 : Int))) false))), (53, .cnd ((!(v28 == (1 : Int))) && (decide ((2 : Int) < v28))) (.bool ((t0.getD (1 : Int).toNat (0 : Int)) == (tab_number_digits.getD (0 : Int).toNat (0 : Int))))), (52, .cnd ((!(v28 == (1 : Int))) && (decide ((2 : Int) < v28))) (.int .u8 (tab_number_digits.getD (0 : Int).toNat (0 : Int)))), (51, .cnd ((!(v28 == (1 : Int))) && (decide ((2 : Int) < v28))) (.ipt (tab_number_digits.flatMap (eI .u8)) (0 + (0 : Int).toNat * 1))), (50, .cnd ((!(v28 == (1 : Int))) && (decide ((2 : Int) < v28))) (.int .u8 (t0.getD (1 : Int).toNat (0 : Int)))), (49, .cnd ((!(v28 == (1 : Int))) && (decide ((2 : Int) < v28))) (.ipt (t0.flatMap (eI .u8)) ((1 : Int).toNat * 1))), (48, .cnd ((!(v28 == (1 : Int))) && (decide ((2 : Int) < v28))) (slA (eI .u8) t0)), (47, .cnd (!(v28 == (1 : Int))) (.bool (decide ((2 : Int) < v28)))), (46, .cnd (!(v28 == (1 : Int))) (.bool (decide ((2 : Int) < v28)))), (45, .cnd (!(v28 == (1 : Int))) (.int .i64 v28)), (44, .bool (v28 == (1 : Int))), (43, .bool (v28 == (1 : Int))), (42, .int .i64 v28), (0, slA (eI .u8) t0), (5, .int .i64 v27), (6, .int .i64 v28)] (by kernel_rfl) ⟨(fun h => h), (fun h => h), (fun h => h), (fun h0 h => by first | exact h | (simp [h0, h]; done) | (simp at h0 h ⊢; simp [h0, h]; done) | (simp_all; done)), (fun h => by first | exact h | simpa using h), trivial⟩ ?_
        refine QOps.nil ?_
        refine AW.trim [55, 5, 6] [(55, .bool (cond (v28 == (1 : Int)) true (cond (decide ((2 : Int) < v28)) ((t0.getD (1 : Int).toNat (0 : Int)) == (tab_number_digits.getD (0 : Int).toNat (0 : Int))) false))), (5, .int .i64 v27), (6, .int .i64 v28)] (by kernel_rfl) ?_
        refine AW.cond (b := cond (v28 == (1 : Int)) true (cond (decide ((2 : Int) < v28)) ((t0.getD (1 : Int).toNat (0 : Int)) == (tab_number_digits.getD (0 : Int).toNat (0 : Int))) false)) rfl (fun c30 => ?_) (fun c30 => ?_)
        · replace H := condT c30 H
          refine AW.regionSeq ?_
          refine OpsW.seg 3 [4, 3, 2] [] [(4, .int .i64 (190 : Int)), (3, .int .i64 (0 : Int)), (2, .int .i64 (0 : Int))] (by kernel_rfl) trivial ?_
          refine OpsW.nil ?_
          obtain rfl := Option.some.inj H
          refine AW.recast (env' := [(2, .int .i64 (0 : Int)), (3, .int .i64 (0 : Int)), (4, .int .i64 (190 : Int))]) (h' := []) (StC.pure (.cons .im (.cons .im (.cons .im .nil)))) ?_
          refine AW.ret ?_
          try simp only [Ex.then, Ex.inBlock, Ex.noGoto, Ex.jump, reduceIte, Nat.reduceEqDiff, reduceCtorEq]
          refine Done.gen rfl (.tmp (.tmp (.tmp .nil))) ?_
          show _ = _
          kernel_rfl
        · replace H := condF c30 H
          refine AW.skip ?_
          refine AW.regionSeq ?_
          refine OpsW.seg 5 [4, 3, 2] [] [(4, .int .i64 (0 : Int)), (3, .int .i64 v28), (2, .int .i64 v27)] (by kernel_rfl) trivial ?_
          refine OpsW.nil ?_
          obtain rfl := Option.some.inj H
          refine AW.recast (env' := [(2, .int .i64 v27), (3, .int .i64 v28), (4, .int .i64 (0 : Int))]) (h' := []) (StC.pure (.cons .im (.cons .im (.cons .im .nil)))) ?_
          refine AW.ret ?_
          try simp only [Ex.then, Ex.inBlock, Ex.noGoto, Ex.jump, reduceIte, Nat.reduceEqDiff, reduceCtorEq]
          refine Done.gen rfl (.tmp (.tmp (.tmp .nil))) ?_
          show _ = _
          kernel_rfl
  · rintro ⟨v1, v2⟩ H
    change f_number_Read_k2 t0 v1 v2 = some r at H
    unfold f_number_Read_k2 at H
    change AW _ _ _ [(0, slA (eI .u8) t0), (5, .int .i64 v1), (6, .int .i64 v2)] [] _
    refine AW.skipSeq ?_
    refine AW.joinK (fun (y : Int × Int) => f_number_Read_k1 t0 y.1 y.2) r (fun (y : Int × Int) => [(0, slA (eI .u8) t0), (5, .int .i64 y.1), (6, .int .i64 y.2)]) (fun (y : Int × Int) => []) ?_ ?_
    · refine AW.block ?_
      refine AW.iterK (fun loop (s : Int × Int) => f_number_Read_b2 t0 loop s.1 s.2) r (fun (s : Int × Int) => [(0, slA (eI .u8) t0), (5, .int .i64 s.1), (6, .int .i64 s.2)]) (fun (s : Int × Int) => []) ?_ 1000000 (v1, v2) H (StC.pure (.cons .im (.cons .im (.cons .im .nil))))
      intro loop9 s H
      obtain ⟨v7, v8⟩ := s
      change f_number_Read_b2 t0 loop9 v7 v8 = some r at H
      unfold f_number_Read_b2 at H
      change AW _ _ _ [(0, slA (eI .u8) t0), (5, .int .i64 v7), (6, .int .i64 v8)] [] _
      refine AW.seq ?_
      refine AW.regionSeq ?_
      refine OpsW.seg 4 [21, 0, 5, 6] [] [(21, .bool (decide (v8 < (t0.length : Int)))), (0, slA (eI .u8) t0), (5, .int .i64 v7), (6, .int .i64 v8)] (by kernel_rfl) trivial ?_
      refine OpsW.nil ?_
      refine AW.cond (b := decide (v8 < (t0.length : Int))) rfl (fun c10 => ?_) (fun c10 => ?_)
      · replace H := condT c10 H
        refine AW.skip ?_
        refine AW.block ?_
        refine AW.seq ?_
        refine AW.regionSeq ?_
        refine OpsW.asU (.agg ((tab_number_digits.flatMap (eI .u8)).map .im)) rfl rfl (T.loadAgg (n := 10) rfl trivial (by kernel_rfl) (Nat.le_of_ble_eq_true (by kernel_rfl)) (by kernel_rfl)) ?_
        refine OpsW.seg 1 [23, 22, 0, 5, 6] [] [(23, .int .i64 (0 : Int)), (22, .agg ((tab_number_digits.flatMap (eI .u8)).map .im)), (0, slA (eI .u8) t0), (5, .int .i64 v7), (6, .int .i64 v8)] (by kernel_rfl) trivial ?_
        refine OpsW.nil ?_
        refine AW.block ?_
        refine AW.iterK (fun loop (s : Int × Int × Int) => f_number_Read_b1 t0 loop9 loop s.1 s.2.1 s.2.2) r (fun (s : Int × Int × Int) => [(0, slA (eI .u8) t0), (5, .int .i64 s.1), (6, .int .i64 s.2.1), (22, .agg ((tab_number_digits.flatMap (eI .u8)).map .im)), (23, .int .i64 s.2.2)]) (fun (s : Int × Int × Int) => []) ?_ 1000000 (v7, v8, (0 : Int)) H (StC.pure (.cons .im (.cons .im (.cons .im (.cons (.agg (CstL.ims _)) (.cons .im .nil))))))
        intro loop14 s H
        obtain ⟨v11, v12, v13⟩ := s
        change f_number_Read_b1 t0 loop9 loop14 v11 v12 v13 = some r at H
        unfold f_number_Read_b1 at H
        change AW _ _ _ [(0, slA (eI .u8) t0), (5, .int .i64 v11), (6, .int .i64 v12), (22, .agg ((tab_number_digits.flatMap (eI .u8)).map .im)), (23, .int .i64 v13)] [] _
        refine AW.regionSeq ?_
        refine OpsW.seg 1 [24, 0, 5, 6, 22, 23] [] [(24, .bool (decide (v13 < (10 : Int)))), (0, slA (eI .u8) t0), (5, .int .i64 v11), (6, .int .i64 v12), (22, .agg ((tab_number_digits.flatMap (eI .u8)).map .im)), (23, .int .i64 v13)] (by kernel_rfl) trivial ?_
        refine OpsW.nil ?_
        refine AW.seq ?_
        refine AW.cond (b := decide (v13 < (10 : Int))) rfl (fun c15 => ?_) (fun c15 => ?_)
        · replace H := condT c15 H
          refine AW.skip ?_
          refine AW.seq ?_
          refine AW.block ?_
          refine AW.regionSeq ?_
          refine OpsW.seg 1 [25, 0, 5, 6, 22, 23] [] [(25, .int .i64 v13), (0, slA (eI .u8) t0), (5, .int .i64 v11), (6, .int .i64 v12), (22, .agg ((tab_number_digits.flatMap (eI .u8)).map .im)), (23, .int .i64 v13)] (by kernel_rfl) trivial ?_
          obtain ⟨g16, H⟩ := G_some H
          obtain ⟨g17, H⟩ := G_some H
          refine OpsW.asU (.int .u8 (tab_number_digits.getD v13.toNat (0 : Int))) rfl rfl (T.indexA (e := 42) rfl rfl trivial trivial (by kernel_rfl) (by kernel_rfl) (by kernel_rfl) (by kernel_rfl) g16 (map_get (fm_cell0 (eI .u8) 1 (fun _ => rfl) tab_number_digits (0 : Int) v13.toNat (ltA (n := 10) g16 g17) (fun a => .val (.int .u8 a)) (fun _ => rfl)))) ?_
          refine OpsW.seg 2 [8, 7, 0, 5, 6, 22, 23] [] [(8, .int .u8 (tab_number_digits.getD v13.toNat (0 : Int))), (7, .int .i64 v13), (0, slA (eI .u8) t0), (5, .int .i64 v11), (6, .int .i64 v12), (22, .agg ((tab_number_digits.flatMap (eI .u8)).map .im)), (23, .int .i64 v13)] (by kernel_rfl) trivial ?_
          refine OpsW.nil ?_
          refine AW.regionSeq ?_
          obtain ⟨g18, H⟩ := G_some H
          refine OpsW.seg 4 [30, 27, 7, 0, 5, 6, 22, 23] [0 ≤ v12 ∧ v12 < (t0.length : Int)] [(30, .ipt (t0.flatMap (eI .u8)) (v12.toNat * 1)), (27, .int .u8 (tab_number_digits.getD v13.toNat (0 : Int))), (7, .int .i64 v13), (0, slA (eI .u8) t0), (5, .int .i64 v11), (6, .int .i64 v12), (22, .agg ((tab_number_digits.flatMap (eI .u8)).map .im)), (23, .int .i64 v13)] (by kernel_rfl) ⟨g18, trivial⟩ ?_
          refine OpsW.asU (.int .u8 (t0.getD v12.toNat (0 : Int))) rfl rfl (T.load rfl trivial (by kernel_rfl) (fm_cell0 (eI .u8) 1 (fun _ => rfl) t0 (0 : Int) v12.toNat (ltN g18) (fun a => .val (.int .u8 a)) (fun _ => rfl))) ?_
          refine OpsW.seg 1 [32, 7, 0, 5, 6, 22, 23] [] [(32, .bool ((tab_number_digits.getD v13.toNat (0 : Int)) == (t0.getD v12.toNat (0 : Int)))), (7, .int .i64 v13), (0, slA (eI .u8) t0), (5, .int .i64 v11), (6, .int .i64 v12), (22, .agg ((tab_number_digits.flatMap (eI .u8)).map .im)), (23, .int .i64 v13)] (by kernel_rfl) trivial ?_
          refine OpsW.nil ?_
          refine AW.cond (b := (tab_number_digits.getD v13.toNat (0 : Int)) == (t0.getD v12.toNat (0 : Int))) rfl (fun c19 => ?_) (fun c19 => ?_)
          · replace H := condT c19 H
            refine AW.seq ?_
            refine AW.regionSeq ?_
            refine OpsW.seg 2 [34, 7, 0, 5, 6] [] [(34, .bool (decide ((5 : Int) < v12))), (7, .int .i64 v13), (0, slA (eI .u8) t0), (5, .int .i64 v11), (6, .int .i64 v12)] (by kernel_rfl) trivial ?_
            refine OpsW.nil ?_
            refine AW.cond (b := decide ((5 : Int) < v12)) rfl (fun c20 => ?_) (fun c20 => ?_)
            · replace H := condT c20 H
              refine AW.regionSeq ?_
              refine OpsW.seg 3 [4, 3, 2] [] [(4, .int .i64 (190 : Int)), (3, .int .i64 (0 : Int)), (2, .int .i64 (0 : Int))] (by kernel_rfl) trivial ?_
              refine OpsW.nil ?_
              obtain rfl := Option.some.inj H
              refine AW.recast (env' := [(2, .int .i64 (0 : Int)), (3, .int .i64 (0 : Int)), (4, .int .i64 (190 : Int))]) (h' := []) (StC.pure (.cons .im (.cons .im (.cons .im .nil)))) ?_
              refine AW.ret ?_
              try simp only [Ex.then, Ex.inBlock, Ex.noGoto, Ex.jump, reduceIte, Nat.reduceEqDiff, reduceCtorEq]
              refine Done.gen rfl (.tmp (.tmp (.tmp .nil))) ?_
              show _ = _
              kernel_rfl
            · replace H := condF c20 H
              refine AW.skip ?_
              refine AW.regionSeq ?_
              obtain ⟨g21, H⟩ := G_some H
              obtain ⟨g22, H⟩ := G_some H
              refine OpsW.seg 5 [5, 0, 6] [inR ((10 : Int) * v11), inR (((10 : Int) * v11) + v13)] [(5, .int .i64 (((10 : Int) * v11) + v13)), (0, slA (eI .u8) t0), (6, .int .i64 v12)] (by kernel_rfl) ⟨g21, g22, trivial⟩ ?_
              refine OpsW.nil ?_
              refine AW.regionSeq ?_
              obtain ⟨g23, H⟩ := G_some H
              refine OpsW.seg 3 [6, 5, 0] [inR (v12 + (1 : Int))] [(6, .int .i64 (v12 + (1 : Int))), (5, .int .i64 (((10 : Int) * v11) + v13)), (0, slA (eI .u8) t0)] (by kernel_rfl) ⟨g23, trivial⟩ ?_
              refine OpsW.nil ?_
              refine AW.exit ?_
              show ∃ y, _ ∧ StC _ _ _ _
              exact ⟨(((10 : Int) * v11) + v13, v12 + (1 : Int)), H, (StC.pure (.cons .im (.cons .im (.cons .im .nil))))⟩
          · replace H := condF c19 H
            refine AW.skip ?_
            refine AW.region ?_
            obtain ⟨g24, H⟩ := G_some H
            refine OpsW.seg 2 [23, 0, 5, 6, 22] [inR (v13 + (1 : Int))] [(23, .int .i64 (v13 + (1 : Int))), (0, slA (eI .u8) t0), (5, .int .i64 v11), (6, .int .i64 v12), (22, .agg ((tab_number_digits.flatMap (eI .u8)).map .im))] (by kernel_rfl) ⟨g24, trivial⟩ ?_
            refine OpsW.nil ?_
            show ∃ y, _ ∧ StC _ _ _ _
            exact ⟨(v11, v12, v13 + (1 : Int)), H, (StC.pure (.cons .im (.cons .im (.cons .im (.cons (.agg (CstL.ims _)) (.cons .im .nil))))))⟩
        · replace H := condF c15 H
          refine AW.exit ?_
          refine AW.exit ?_
          show ∃ y, _ ∧ StC _ _ _ _
          exact ⟨(v11, v12), H, (StC.pure (.cons .im (.cons .im (.cons .im .nil))))⟩
      · replace H := condF c10 H
        refine AW.exit ?_
        show ∃ y, _ ∧ StC _ _ _ _
        exact ⟨(v7, v8), H, (StC.pure (.cons .im (.cons .im (.cons .im .nil))))⟩
    · rintro ⟨v3, v4⟩ H
      change f_number_Read_k1 t0 v3 v4 = some r at H
      unfold f_number_Read_k1 at H
      change AW _ _ _ [(0, slA (eI .u8) t0), (5, .int .i64 v3), (6, .int .i64 v4)] [] _
      refine AW.seq ?_
      refine AW.drawSeq Tryd.checked.mixed (by kernel_rfl) ?_
      obtain ⟨g5, H⟩ := G_some H
      refine QOps.seg (N := 58) 8 [(!(v4 == (1 : Int))) = true → (!(v4 == (1 : Int))) = true, (!(v4 == (1 : Int))) = true → (!(v4 == (1 : Int))) = true, ((!(v4 == (1 : Int))) && (decide ((2 : Int) < v4))) = true → ((!(v4 == (1 : Int))) && (decide ((2 : Int) < v4))) = true, ((!(v4 == (1 : Int))) && (decide ((2 : Int) < v4))) = true → (0 ≤ (1 : Int) ∧ (1 : Int) < (t0.length : Int))] [(49, .cnd ((!(v4 == (1 : Int))) && (decide ((2 : Int) < v4))) (.ipt (t0.flatMap (eI .u8)) ((1 : Int).toNat * 1))), (48, .cnd ((!(v4 == (1 : Int))) && (decide ((2 : Int) < v4))) (slA (eI .u8) t0)), (47, .cnd (!(v4 == (1 : Int))) (.bool (decide ((2 : Int) < v4)))), (46, .cnd (!(v4 == (1 : Int))) (.bool (decide ((2 : Int) < v4)))), (45, .cnd (!(v4 == (1 : Int))) (.int .i64 v4)), (44, .bool (v4 == (1 : Int))), (43, .bool (v4 == (1 : Int))), (42, .int .i64 v4), (0, slA (eI .u8) t0), (5, .int .i64 v3), (6, .int .i64 v4)] (by kernel_rfl) ⟨(fun h => h), (fun h => h), (fun h => h), g5, trivial⟩ ?_
      refine QOps.asG (c := (!(v4 == (1 : Int))) && (decide ((2 : Int) < v4))) (.int .u8 (t0.getD (1 : Int).toNat (0 : Int))) rfl rfl rfl (fun hc => T.load rfl hc (by kernel_rfl) (fm_cell0 (eI .u8) 1 (fun _ => rfl) t0 (0 : Int) (1 : Int).toNat (ltN (g5 hc)) (fun a => .val (.int .u8 a)) (fun _ => rfl))) ?_
      refine QOps.seg (N := 58) 1 [((!(v4 == (1 : Int))) && (decide ((2 : Int) < v4))) = true → (0 ≤ (0 : Int) ∧ (0 : Int) < (10 : Int))] [(51, .cnd ((!(v4 == (1 : Int))) && (decide ((2 : Int) < v4))) (.ipt (tab_number_digits.flatMap (eI .u8)) (0 + (0 : Int).toNat * 1))), (50, .cnd ((!(v4 == (1 : Int))) && (decide ((2 : Int) < v4))) (.int .u8 (t0.getD (1 : Int).toNat (0 : Int)))), (49, .cnd ((!(v4 == (1 : Int))) && (decide ((2 : Int) < v4))) (.ipt (t0.flatMap (eI .u8)) ((1 : Int).toNat * 1))), (48, .cnd ((!(v4 == (1 : Int))) && (decide ((2 : Int) < v4))) (slA (eI .u8) t0)), (47, .cnd (!(v4 == (1 : Int))) (.bool (decide ((2 : Int) < v4)))), (46, .cnd (!(v4 == (1 : Int))) (.bool (decide ((2 : Int) < v4)))), (45, .cnd (!(v4 == (1 : Int))) (.int .i64 v4)), (44, .bool (v4 == (1 : Int))), (43, .bool (v4 == (1 : Int))), (42, .int .i64 v4), (0, slA (eI .u8) t0), (5, .int .i64 v3), (6, .int .i64 v4)] (by kernel_rfl) ⟨(fun _ => by decide), trivial⟩ ?_
      refine QOps.asG (c := (!(v4 == (1 : Int))) && (decide ((2 : Int) < v4))) (.int .u8 (tab_number_digits.getD (0 : Int).toNat (0 : Int))) rfl rfl rfl (fun hc => T.load rfl hc (by kernel_rfl) (tabOff (fm_cell0 (eI .u8) 1 (fun _ => rfl) tab_number_digits (0 : Int) (0 : Int).toNat (ltA (n := 10) (by decide) rfl) (fun a => .val (.int .u8 a)) (fun _ => rfl)))) ?_
      refine QOps.seg (N := 58) 3 [((!(v4 == (1 : Int))) && (decide ((2 : Int) < v4))) = true → ((!(v4 == (1 : Int))) && (decide ((2 : Int) < v4))) = true, ((!(v4 == (1 : Int))) && (decide ((2 : Int) < v4))) = true → ((!(v4 == (1 : Int))) && (decide ((2 : Int) < v4))) = true, (!(v4 == (1 : Int))) = true → (!(v4 == (1 : Int))) = true, (!(v4 == (1 : Int))) = true → ((decide ((2 : Int) < v4)) = true → ((!(v4 == (1 : Int))) && (decide ((2 : Int) < v4))) = true), (v4 == (1 : Int)) = false → (!(v4 == (1 : Int))) = true] [(55, .bool (cond (v4 == (1 : Int)) true (cond (decide ((2 : Int) < v4)) ((t0.getD (1 : Int).toNat (0 : Int)) == (tab_number_digits.getD (0 : Int).toNat (0 : Int))) false))), (54, .cnd (!(v4 == (1 : Int))) (.bool (cond (decide ((2 : Int) < v4)) ((t0.getD (1 : Int).toNat (0 : Int)) == (tab_number_digits.getD (0 : Int).toNat (0 : Int))) false))), (53, .cnd ((!(v4 == (1 : Int))) && (decide ((2 : Int) < v4))) (.bool ((t0.getD (1 : Int).toNat (0 : Int)) == (tab_number_digits.getD (0 : Int).toNat (0 : Int))))), (52, .cnd ((!(v4 == (1 : Int))) && (decide ((2 : Int) < v4))) (.int .u8 (tab_number_digits.getD (0 : Int).toNat (0 : Int)))), (51, .cnd ((!(v4 == (1 : Int))) && (decide ((2 : Int) < v4))) (.ipt (tab_number_digits.flatMap (eI .u8)) (0 + (0 : Int).toNat * 1))), (50, .cnd ((!(v4 == (1 : Int))) && (decide ((2 : Int) < v4))) (.int .u8 (t0.getD (1 : Int).toNat (0 : Int)))), (49, .cnd ((!(v4 == (1 : Int))) && (decide ((2 : Int) < v4))) (.ipt (t0.flatMap (eI .u8)) ((1 : Int).toNat * 1))), (48, .cnd ((!(v4 == (1 : Int))) && (decide ((2 : Int) < v4))) (slA (eI .u8) t0)), (47, .cnd (!(v4 == (1 : Int))) (.bool (decide ((2 : Int) < v4)))), (46, .cnd (!(v4 == (1 : Int))) (.bool (decide ((2 : Int) < v4)))), (45, .cnd (!(v4 == (1 : Int))) (.int .i64 v4)), (44, .bool (v4 == (1 : Int))), (43, .bool (v4 == (1 : Int))), (42, .int .i64 v4), (0, slA (eI .u8) t0), (5, .int .i64 v3), (6, .int .i64 v4)] (by kernel_rfl) ⟨(fun h => h), (fun h => h), (fun h => h), (fun h0 h => by first | exact h | (simp [h0, h]; done) | (simp at h0 h ⊢; simp [h0, h]; done) | (simp_all; done)), (fun h => by first | exact h | simpa using h), trivial⟩ ?_
      refine QOps.nil ?_
      refine AW.trim [55, 5, 6] [(55, .bool (cond (v4 == (1 : Int)) true (cond (decide ((2 : Int) < v4)) ((t0.getD (1 : Int).toNat (0 : Int)) == (tab_number_digits.getD (0 : Int).toNat (0 : Int))) false))), (5, .int .i64 v3), (6, .int .i64 v4)] (by kernel_rfl) ?_
      refine AW.cond (b := cond (v4 == (1 : Int)) true (cond (decide ((2 : Int) < v4)) ((t0.getD (1 : Int).toNat (0 : Int)) == (tab_number_digits.getD (0 : Int).toNat (0 : Int))) false)) rfl (fun c6 => ?_) (fun c6 => ?_)
      · replace H := condT c6 H
        refine AW.regionSeq ?_
        refine OpsW.seg 3 [4, 3, 2] [] [(4, .int .i64 (190 : Int)), (3, .int .i64 (0 : Int)), (2, .int .i64 (0 : Int))] (by kernel_rfl) trivial ?_
        refine OpsW.nil ?_
        obtain rfl := Option.some.inj H
        refine AW.recast (env' := [(2, .int .i64 (0 : Int)), (3, .int .i64 (0 : Int)), (4, .int .i64 (190 : Int))]) (h' := []) (StC.pure (.cons .im (.cons .im (.cons .im .nil)))) ?_
        refine AW.ret ?_
        try simp only [Ex.then, Ex.inBlock, Ex.noGoto, Ex.jump, reduceIte, Nat.reduceEqDiff, reduceCtorEq]
        refine Done.gen rfl (.tmp (.tmp (.tmp .nil))) ?_
        show _ = _
        kernel_rfl
      · replace H := condF c6 H
        refine AW.skip ?_
        refine AW.regionSeq ?_
        refine OpsW.seg 5 [4, 3, 2] [] [(4, .int .i64 (0 : Int)), (3, .int .i64 v4), (2, .int .i64 v3)] (by kernel_rfl) trivial ?_
        refine OpsW.nil ?_
        obtain rfl := Option.some.inj H
        refine AW.recast (env' := [(2, .int .i64 v3), (3, .int .i64 v4), (4, .int .i64 (0 : Int))]) (h' := []) (StC.pure (.cons .im (.cons .im (.cons .im .nil)))) ?_
        refine AW.ret ?_
        try simp only [Ex.then, Ex.inBlock, Ex.noGoto, Ex.jump, reduceIte, Nat.reduceEqDiff, reduceCtorEq]
        refine Done.gen rfl (.tmp (.tmp (.tmp .nil))) ?_
        show _ = _
        kernel_rfl
def f_R19_Letters  : Option (List Int) :=
  some [(1 : Int), (3 : Int), (9 : Int), (25 : Int), (17 : Int), (11 : Int), (27 : Int), (19 : Int), (10 : Int), (26 : Int), (5 : Int), (7 : Int), (13 : Int), (29 : Int), (21 : Int), (15 : Int), (31 : Int), (23 : Int), (14 : Int), (30 : Int), (37 : Int), (39 : Int), (58 : Int), (45 : Int), (61 : Int), (53 : Int)]
theorem f_R19_Letters_ok  {r : List Int} (H : f_R19_Letters = some r) : QSpec Tryd.prog 28 [] (slA (eI .u8) r) := by
  refine Spec.of_AW Tryd.func28 rfl (by simp [Tryd.ntmps28]) ?_
  rw [Tryd.ntmps28]
  unfold f_R19_Letters at H
  change AW _ _ _ [] [] _
  refine AW.regionSeq ?_
  refine OpsW.seg 1 [] [] [] (by kernel_rfl) trivial ?_
  refine OpsW.nil ?_
  refine AW.regionSeq ?_
  refine OpsW.buildTI (enc := eI .u8) [(1 : Int), (3 : Int), (9 : Int), (25 : Int), (17 : Int), (11 : Int), (27 : Int), (19 : Int), (10 : Int), (26 : Int), (5 : Int), (7 : Int), (13 : Int), (29 : Int), (21 : Int), (15 : Int), (31 : Int), (23 : Int), (14 : Int), (30 : Int), (37 : Int), (39 : Int), (58 : Int), (45 : Int), (61 : Int), (53 : Int)] rfl rfl rfl E26 (fun _ => rfl) (by decide) ⟨trivial, by kernel_rfl, by kernel_rfl, by kernel_rfl, rfl⟩ ?_
  refine OpsW.seg 1 [0] [] [(0, slA (eI .u8) [(1 : Int), (3 : Int), (9 : Int), (25 : Int), (17 : Int), (11 : Int), (27 : Int), (19 : Int), (10 : Int), (26 : Int), (5 : Int), (7 : Int), (13 : Int), (29 : Int), (21 : Int), (15 : Int), (31 : Int), (23 : Int), (14 : Int), (30 : Int), (37 : Int), (39 : Int), (58 : Int), (45 : Int), (61 : Int), (53 : Int)])] (by kernel_rfl) trivial ?_
  refine OpsW.nil ?_
  obtain rfl := Option.some.inj H
  refine AW.recast (env' := [(0, slA (eI .u8) [(1 : Int), (3 : Int), (9 : Int), (25 : Int), (17 : Int), (11 : Int), (27 : Int), (19 : Int), (10 : Int), (26 : Int), (5 : Int), (7 : Int), (13 : Int), (29 : Int), (21 : Int), (15 : Int), (31 : Int), (23 : Int), (14 : Int), (30 : Int), (37 : Int), (39 : Int), (58 : Int), (45 : Int), (61 : Int), (53 : Int)])]) (h' := []) (StC.pure (.cons .im .nil)) ?_
  refine AW.ret ?_
  try simp only [Ex.then, Ex.inBlock, Ex.noGoto, Ex.jump, reduceIte, Nat.reduceEqDiff, reduceCtorEq]
  refine Done.gen rfl (.tmp .nil) ?_
  show _ = _
  kernel_rfl
def f_R19_Digit (t0 : Int) : Option Int :=
  (f_R19_Letters).bind fun x1 =>
  G (inR (t0 + (9 : Int))) <|
  G (0 ≤ (Int.tmod (t0 + (9 : Int)) (10 : Int)) ∧ (Int.tmod (t0 + (9 : Int)) (10 : Int)) < (x1.length : Int)) <|
  some (x1.getD (Int.tmod (t0 + (9 : Int)) (10 : Int)).toNat (0 : Int))
theorem f_R19_Digit_ok {t0 : Int} {r : Int} (H : f_R19_Digit t0 = some r) : QSpec Tryd.prog 26 [.int .i64 t0] (.int .u8 r) := by
  refine Spec.of_AW Tryd.func26 rfl (by simp [Tryd.ntmps26]) ?_
  rw [Tryd.ntmps26]
  unfold f_R19_Digit at H
  change AW _ _ _ [(0, .int .i64 t0)] [] _
  refine AW.regionSeq ?_
  refine OpsW.seg 1 [0] [] [(0, .int .i64 t0)] (by kernel_rfl) trivial ?_
  refine OpsW.nil ?_
  refine AW.regionSeq ?_
  obtain ⟨x1, hx1, H⟩ := bindS H
  refine OpsW.qcall rfl (by kernel_rfl) rfl rfl (glAll_sound trivial) .nil (f_R19_Letters_ok hx1) rfl ?_
  obtain ⟨g2, H⟩ := G_some H
  obtain ⟨g3, H⟩ := G_some H
  refine OpsW.seg 4 [7] [inR (t0 + (9 : Int)), (10 : Int) ≠ 0, 0 ≤ (Int.tmod (t0 + (9 : Int)) (10 : Int)) ∧ (Int.tmod (t0 + (9 : Int)) (10 : Int)) < (x1.length : Int)] [(7, .ipt (x1.flatMap (eI .u8)) ((Int.tmod (t0 + (9 : Int)) (10 : Int)).toNat * 1))] (by kernel_rfl) ⟨g2, (by decide), g3, trivial⟩ ?_
  refine OpsW.asU (.int .u8 (x1.getD (Int.tmod (t0 + (9 : Int)) (10 : Int)).toNat (0 : Int))) rfl rfl (T.load rfl trivial (by kernel_rfl) (fm_cell (eI .u8) 1 (fun _ => rfl) x1 (0 : Int) (Int.tmod (t0 + (9 : Int)) (10 : Int)).toNat (ltN g3) 0 (fun a => .val (.int .u8 a)) (fun _ => rfl))) ?_
  refine OpsW.seg 1 [2] [] [(2, .int .u8 (x1.getD (Int.tmod (t0 + (9 : Int)) (10 : Int)).toNat (0 : Int)))] (by kernel_rfl) trivial ?_
  refine OpsW.nil ?_
  obtain rfl := Option.some.inj H
  refine AW.recast (env' := [(2, .int .u8 (x1.getD (Int.tmod (t0 + (9 : Int)) (10 : Int)).toNat (0 : Int)))]) (h' := []) (StC.pure (.cons .im .nil)) ?_
  refine AW.ret ?_
  try simp only [Ex.then, Ex.inBlock, Ex.noGoto, Ex.jump, reduceIte, Nat.reduceEqDiff, reduceCtorEq]
  refine Done.gen rfl (.tmp .nil) ?_
  show _ = _
  kernel_rfl
def f_R19_IsDigit_b1 (t0 : Int) (loop2 : (Int) → Option Bool) (v1 : Int) : Option Bool :=
  cond (decide (v1 < (10 : Int))) (
    (f_R19_Digit v1).bind fun x4 =>
    cond (x4 == t0) (
      some true) (
      G (inR (v1 + (1 : Int))) <|
      loop2 (v1 + (1 : Int)))) (
    some false)
def f_R19_IsDigit (t0 : Int) : Option Bool :=
  iter (fun loop (s : Int) => f_R19_IsDigit_b1 t0 loop s) 1000000 (0 : Int)
theorem f_R19_IsDigit_ok {t0 : Int} {r : Bool} (H : f_R19_IsDigit t0 = some r) : QSpec Tryd.prog 19 [.int .u8 t0] (.bool r) := by
  refine Spec.of_AW Tryd.func19 rfl (by simp [Tryd.ntmps19]) ?_
  rw [Tryd.ntmps19]
  unfold f_R19_IsDigit at H
  change AW _ _ _ [(0, .int .u8 t0)] [] _
  refine AW.regionSeq ?_
  refine OpsW.seg 1 [0] [] [(0, .int .u8 t0)] (by kernel_rfl) trivial ?_
  refine OpsW.nil ?_
  refine AW.seq ?_
  refine AW.regionSeq ?_
  refine OpsW.seg 1 [3, 0] [] [(3, .int .i64 (0 : Int)), (0, .int .u8 t0)] (by kernel_rfl) trivial ?_
  refine OpsW.nil ?_
  refine AW.block ?_
  refine AW.iterK (fun loop (s : Int) => f_R19_IsDigit_b1 t0 loop s) r (fun (s : Int) => [(0, .int .u8 t0), (3, .int .i64 s)]) (fun (s : Int) => []) ?_ 1000000 (0 : Int) H (StC.pure (.cons .im (.cons .im .nil)))
  intro loop2 v1 H
  change f_R19_IsDigit_b1 t0 loop2 v1 = some r at H
  unfold f_R19_IsDigit_b1 at H
  change AW _ _ _ [(0, .int .u8 t0), (3, .int .i64 v1)] [] _
  refine AW.seq ?_
  refine AW.regionSeq ?_
  refine OpsW.seg 2 [5, 0, 3] [] [(5, .bool (decide (v1 < (10 : Int)))), (0, .int .u8 t0), (3, .int .i64 v1)] (by kernel_rfl) trivial ?_
  refine OpsW.nil ?_
  refine AW.cond (b := decide (v1 < (10 : Int))) rfl (fun c3 => ?_) (fun c3 => ?_)
  · replace H := condT c3 H
    refine AW.skip ?_
    refine AW.seq ?_
    refine AW.block ?_
    refine AW.regionSeq ?_
    refine OpsW.seg 1 [8, 0, 3] [] [(8, .int .i64 v1), (0, .int .u8 t0), (3, .int .i64 v1)] (by kernel_rfl) trivial ?_
    obtain ⟨x4, hx4, H⟩ := bindS H
    refine OpsW.qcall rfl (by kernel_rfl) rfl rfl (glAll_sound trivial) (.cons (.pur rfl) .nil) (f_R19_Digit_ok hx4) rfl ?_
    refine OpsW.seg 2 [11, 0, 3] [] [(11, .bool (x4 == t0)), (0, .int .u8 t0), (3, .int .i64 v1)] (by kernel_rfl) trivial ?_
    refine OpsW.nil ?_
    refine AW.cond (b := x4 == t0) rfl (fun c5 => ?_) (fun c5 => ?_)
    · replace H := condT c5 H
      refine AW.regionSeq ?_
      refine OpsW.seg 1 [2] [] [(2, .bool true)] (by kernel_rfl) trivial ?_
      refine OpsW.nil ?_
      obtain rfl := Option.some.inj H
      refine AW.recast (env' := [(2, .bool true)]) (h' := []) (StC.pure (.cons .im .nil)) ?_
      refine AW.ret ?_
      try simp only [Ex.then, Ex.inBlock, Ex.noGoto, Ex.jump, reduceIte, Nat.reduceEqDiff, reduceCtorEq]
      refine Done.gen rfl (.tmp .nil) ?_
      show _ = _
      kernel_rfl
    · replace H := condF c5 H
      refine AW.skip ?_
      refine AW.region ?_
      obtain ⟨g6, H⟩ := G_some H
      refine OpsW.seg 3 [3, 0] [inR (v1 + (1 : Int))] [(3, .int .i64 (v1 + (1 : Int))), (0, .int .u8 t0)] (by kernel_rfl) ⟨g6, trivial⟩ ?_
      refine OpsW.nil ?_
      show ∃ y, _ ∧ StC _ _ _ _
      exact ⟨v1 + (1 : Int), H, (StC.pure (.cons .im (.cons .im .nil)))⟩
  · replace H := condF c3 H
    refine AW.exit ?_
    refine AW.regionSeq ?_
    refine OpsW.seg 1 [2] [] [(2, .bool false)] (by kernel_rfl) trivial ?_
    refine OpsW.nil ?_
    obtain rfl := Option.some.inj H
    refine AW.recast (env' := [(2, .bool false)]) (h' := []) (StC.pure (.cons .im .nil)) ?_
    refine AW.ret ?_
    try simp only [Ex.then, Ex.inBlock, Ex.noGoto, Ex.jump, reduceIte, Nat.reduceEqDiff, reduceCtorEq]
    refine Done.gen rfl (.tmp .nil) ?_
    show _ = _
    kernel_rfl
def f_R19_ValidLabel (t0 : S_Label) : Option Bool :=
  some (cond (cond (cond (decide ((1 : Int) ≤ t0.N)) (decide (t0.N ≤ (9999 : Int))) false) (decide ((0 : Int) ≤ t0.K)) false) (decide (t0.K ≤ (2 : Int))) false)
theorem f_R19_ValidLabel_ok {t0 : S_Label} {r : Bool} (H : f_R19_ValidLabel t0 = some r) : QSpec Tryd.prog 27 [.agg [.int .i64 t0.N, .int .i64 t0.K]] (.bool r) := by
  refine Spec.of_AW Tryd.func27 rfl (by simp [Tryd.ntmps27]) ?_
  rw [Tryd.ntmps27]
  unfold f_R19_ValidLabel at H
  change AW _ _ _ [(0, .agg [.int .i64 t0.N, .int .i64 t0.K])] [] _
  refine AW.regionSeq ?_
  refine OpsW.box rfl rfl rfl 1 rfl (okCb_sound (by kernel_rfl)) ?_
  change OpsW _ _ _ _ _ [(1, ⟨0, true, 35, 2, [.int .i64 t0.N, .int .i64 t0.K]⟩)] _
  refine OpsW.seg 1 [1] [] [(1, .ref 1 0 0)] (by kernel_rfl) trivial ?_
  refine OpsW.recast (env' := [(1, .ref 1 0 0)]) (h' := [(1, ⟨0, true, 35, 2, [.int .i64 t0.N, .int .i64 t0.K]⟩)]) (StC.mk (phi [(1, some 1)]) (.old rfl rfl rfl rfl rfl (.cons .im (.cons .im .nil)) .nil) rfl (.cons (.ref rfl rfl rfl rfl rfl) .nil)) ?_
  refine OpsW.nil ?_
  refine AW.regionSeq ?_
  refine OpsW.seg 19 [2] [(decide ((1 : Int) ≤ t0.N)) = true → (decide ((1 : Int) ≤ t0.N)) = true, (decide ((1 : Int) ≤ t0.N)) = true → (decide ((1 : Int) ≤ t0.N)) = true, (decide ((1 : Int) ≤ t0.N)) = true → (decide ((1 : Int) ≤ t0.N)) = true, (cond (decide ((1 : Int) ≤ t0.N)) (decide (t0.N ≤ (9999 : Int))) false) = true → (cond (decide ((1 : Int) ≤ t0.N)) (decide (t0.N ≤ (9999 : Int))) false) = true, (cond (decide ((1 : Int) ≤ t0.N)) (decide (t0.N ≤ (9999 : Int))) false) = true → (cond (decide ((1 : Int) ≤ t0.N)) (decide (t0.N ≤ (9999 : Int))) false) = true, (cond (decide ((1 : Int) ≤ t0.N)) (decide (t0.N ≤ (9999 : Int))) false) = true → (cond (decide ((1 : Int) ≤ t0.N)) (decide (t0.N ≤ (9999 : Int))) false) = true, (cond (cond (decide ((1 : Int) ≤ t0.N)) (decide (t0.N ≤ (9999 : Int))) false) (decide ((0 : Int) ≤ t0.K)) false) = true → (cond (cond (decide ((1 : Int) ≤ t0.N)) (decide (t0.N ≤ (9999 : Int))) false) (decide ((0 : Int) ≤ t0.K)) false) = true, (cond (cond (decide ((1 : Int) ≤ t0.N)) (decide (t0.N ≤ (9999 : Int))) false) (decide ((0 : Int) ≤ t0.K)) false) = true → (cond (cond (decide ((1 : Int) ≤ t0.N)) (decide (t0.N ≤ (9999 : Int))) false) (decide ((0 : Int) ≤ t0.K)) false) = true, (cond (cond (decide ((1 : Int) ≤ t0.N)) (decide (t0.N ≤ (9999 : Int))) false) (decide ((0 : Int) ≤ t0.K)) false) = true → (cond (cond (decide ((1 : Int) ≤ t0.N)) (decide (t0.N ≤ (9999 : Int))) false) (decide ((0 : Int) ≤ t0.K)) false) = true] [(2, .bool (cond (cond (cond (decide ((1 : Int) ≤ t0.N)) (decide (t0.N ≤ (9999 : Int))) false) (decide ((0 : Int) ≤ t0.K)) false) (decide (t0.K ≤ (2 : Int))) false))] (by kernel_rfl) ⟨(fun h => h), (fun h => h), (fun h => by first | exact h | simpa using h), (fun h => h), (fun h => h), (fun h => by first | exact h | simpa using h), (fun h => h), (fun h => h), (fun h => by first | exact h | simpa using h), trivial⟩ ?_
  refine OpsW.nil ?_
  obtain rfl := Option.some.inj H
  refine AW.recast (env' := [(2, .bool (cond (cond (cond (decide ((1 : Int) ≤ t0.N)) (decide (t0.N ≤ (9999 : Int))) false) (decide ((0 : Int) ≤ t0.K)) false) (decide (t0.K ≤ (2 : Int))) false))]) (h' := []) (StC.pure (.cons .im .nil)) ?_
  refine AW.ret ?_
  try simp only [Ex.then, Ex.inBlock, Ex.noGoto, Ex.jump, reduceIte, Nat.reduceEqDiff, reduceCtorEq]
  refine Done.gen rfl (.tmp .nil) ?_
  show _ = _
  kernel_rfl
def f_slices_Index_api_Cell_b1 (t0 : List Int) (t1 : Int) (loop2 : (Int) → Option Int) (v1 : Int) : Option Int :=
  cond (decide (v1 < (t0.length : Int))) (
    G (0 ≤ v1 ∧ v1 < (t0.length : Int)) <|
    cond (t1 == (t0.getD v1.toNat (0 : Int))) (
      some v1) (
      G (inR (v1 + (1 : Int))) <|
      loop2 (v1 + (1 : Int)))) (
    some (-1 : Int))
def f_slices_Index_api_Cell (t0 : List Int) (t1 : Int) : Option Int :=
  iter (fun loop (s : Int) => f_slices_Index_api_Cell_b1 t0 t1 loop s) 1000000 (0 : Int)
theorem f_slices_Index_api_Cell_ok {t0 : List Int} {t1 : Int} {r : Int} (H : f_slices_Index_api_Cell t0 t1 = some r) : QSpec Tryd.prog 30 [slA (eI .u8) t0, .int .u8 t1] (.int .i64 r) := by
  refine Spec.of_AW Tryd.func30 rfl (by simp [Tryd.ntmps30]) ?_
  rw [Tryd.ntmps30]
  unfold f_slices_Index_api_Cell at H
  change AW _ _ _ [(0, slA (eI .u8) t0), (1, .int .u8 t1)] [] _
  refine AW.regionSeq ?_
  refine OpsW.seg 1 [0, 1] [] [(0, slA (eI .u8) t0), (1, .int .u8 t1)] (by kernel_rfl) trivial ?_
  refine OpsW.nil ?_
  refine AW.seq ?_
  refine AW.regionSeq ?_
  refine OpsW.seg 3 [8, 7, 0, 1] [] [(8, .int .i64 (0 : Int)), (7, .int .i64 (t0.length : Int)), (0, slA (eI .u8) t0), (1, .int .u8 t1)] (by kernel_rfl) trivial ?_
  refine OpsW.nil ?_
  refine AW.block ?_
  refine AW.iterK (fun loop (s : Int) => f_slices_Index_api_Cell_b1 t0 t1 loop s) r (fun (s : Int) => [(0, slA (eI .u8) t0), (1, .int .u8 t1), (7, .int .i64 (t0.length : Int)), (8, .int .i64 s)]) (fun (s : Int) => []) ?_ 1000000 (0 : Int) H (StC.pure (.cons .im (.cons .im (.cons .im (.cons .im .nil)))))
  intro loop2 v1 H
  change f_slices_Index_api_Cell_b1 t0 t1 loop2 v1 = some r at H
  unfold f_slices_Index_api_Cell_b1 at H
  change AW _ _ _ [(0, slA (eI .u8) t0), (1, .int .u8 t1), (7, .int .i64 (t0.length : Int)), (8, .int .i64 v1)] [] _
  refine AW.regionSeq ?_
  refine OpsW.seg 1 [9, 0, 1, 7, 8] [] [(9, .bool (decide (v1 < (t0.length : Int)))), (0, slA (eI .u8) t0), (1, .int .u8 t1), (7, .int .i64 (t0.length : Int)), (8, .int .i64 v1)] (by kernel_rfl) trivial ?_
  refine OpsW.nil ?_
  refine AW.seq ?_
  refine AW.cond (b := decide (v1 < (t0.length : Int))) rfl (fun c3 => ?_) (fun c3 => ?_)
  · replace H := condT c3 H
    refine AW.skip ?_
    refine AW.seq ?_
    refine AW.block ?_
    refine AW.regionSeq ?_
    refine OpsW.seg 2 [5, 0, 1, 7, 8] [] [(5, .int .i64 v1), (0, slA (eI .u8) t0), (1, .int .u8 t1), (7, .int .i64 (t0.length : Int)), (8, .int .i64 v1)] (by kernel_rfl) trivial ?_
    refine OpsW.nil ?_
    refine AW.regionSeq ?_
    obtain ⟨g4, H⟩ := G_some H
    refine OpsW.seg 4 [14, 11, 5, 0, 1, 7, 8] [0 ≤ v1 ∧ v1 < (t0.length : Int)] [(14, .ipt (t0.flatMap (eI .u8)) (v1.toNat * 1)), (11, .int .u8 t1), (5, .int .i64 v1), (0, slA (eI .u8) t0), (1, .int .u8 t1), (7, .int .i64 (t0.length : Int)), (8, .int .i64 v1)] (by kernel_rfl) ⟨g4, trivial⟩ ?_
    refine OpsW.asU (.int .u8 (t0.getD v1.toNat (0 : Int))) rfl rfl (T.load rfl trivial (by kernel_rfl) (fm_cell0 (eI .u8) 1 (fun _ => rfl) t0 (0 : Int) v1.toNat (ltN g4) (fun a => .val (.int .u8 a)) (fun _ => rfl))) ?_
    refine OpsW.seg 1 [16, 5, 0, 1, 7, 8] [] [(16, .bool (t1 == (t0.getD v1.toNat (0 : Int)))), (5, .int .i64 v1), (0, slA (eI .u8) t0), (1, .int .u8 t1), (7, .int .i64 (t0.length : Int)), (8, .int .i64 v1)] (by kernel_rfl) trivial ?_
    refine OpsW.nil ?_
    refine AW.cond (b := t1 == (t0.getD v1.toNat (0 : Int))) rfl (fun c5 => ?_) (fun c5 => ?_)
    · replace H := condT c5 H
      refine AW.regionSeq ?_
      refine OpsW.seg 2 [4] [] [(4, .int .i64 v1)] (by kernel_rfl) trivial ?_
      refine OpsW.nil ?_
      obtain rfl := Option.some.inj H
      refine AW.recast (env' := [(4, .int .i64 v1)]) (h' := []) (StC.pure (.cons .im .nil)) ?_
      refine AW.ret ?_
      try simp only [Ex.then, Ex.inBlock, Ex.noGoto, Ex.jump, reduceIte, Nat.reduceEqDiff, reduceCtorEq]
      refine Done.gen rfl (.tmp .nil) ?_
      show _ = _
      kernel_rfl
    · replace H := condF c5 H
      refine AW.skip ?_
      refine AW.region ?_
      obtain ⟨g6, H⟩ := G_some H
      refine OpsW.seg 2 [8, 0, 1, 7] [inR (v1 + (1 : Int))] [(8, .int .i64 (v1 + (1 : Int))), (0, slA (eI .u8) t0), (1, .int .u8 t1), (7, .int .i64 (t0.length : Int))] (by kernel_rfl) ⟨g6, trivial⟩ ?_
      refine OpsW.nil ?_
      show ∃ y, _ ∧ StC _ _ _ _
      exact ⟨v1 + (1 : Int), H, (StC.pure (.cons .im (.cons .im (.cons .im (.cons .im .nil)))))⟩
  · replace H := condF c3 H
    refine AW.exit ?_
    refine AW.regionSeq ?_
    refine OpsW.seg 1 [4] [] [(4, .int .i64 (-1 : Int))] (by kernel_rfl) trivial ?_
    refine OpsW.nil ?_
    obtain rfl := Option.some.inj H
    refine AW.recast (env' := [(4, .int .i64 (-1 : Int))]) (h' := []) (StC.pure (.cons .im .nil)) ?_
    refine AW.ret ?_
    try simp only [Ex.then, Ex.inBlock, Ex.noGoto, Ex.jump, reduceIte, Nat.reduceEqDiff, reduceCtorEq]
    refine Done.gen rfl (.tmp .nil) ?_
    show _ = _
    kernel_rfl
def f_slices_Equal_api_Cell_b1 (t0 : List Int) (t1 : List Int) (loop3 : (Int) → Option Bool) (v2 : Int) : Option Bool :=
  cond (decide (v2 < (t0.length : Int))) (
    G (0 ≤ v2 ∧ v2 < (t0.length : Int)) <|
    G (0 ≤ v2 ∧ v2 < (t1.length : Int)) <|
    cond ((t0.getD v2.toNat (0 : Int)) != (t1.getD v2.toNat (0 : Int))) (
      some false) (
      G (inR (v2 + (1 : Int))) <|
      loop3 (v2 + (1 : Int)))) (
    some true)
def f_slices_Equal_api_Cell (t0 : List Int) (t1 : List Int) : Option Bool :=
  cond ((t0.length : Int) != (t1.length : Int)) (
    some false) (
    iter (fun loop (s : Int) => f_slices_Equal_api_Cell_b1 t0 t1 loop s) 1000000 (0 : Int))
theorem f_slices_Equal_api_Cell_ok {t0 : List Int} {t1 : List Int} {r : Bool} (H : f_slices_Equal_api_Cell t0 t1 = some r) : QSpec Tryd.prog 32 [slA (eI .u8) t0, slA (eI .u8) t1] (.bool r) := by
  refine Spec.of_AW Tryd.func32 rfl (by simp [Tryd.ntmps32]) ?_
  rw [Tryd.ntmps32]
  unfold f_slices_Equal_api_Cell at H
  change AW _ _ _ [(0, slA (eI .u8) t0), (1, slA (eI .u8) t1)] [] _
  refine AW.regionSeq ?_
  refine OpsW.seg 1 [0, 1] [] [(0, slA (eI .u8) t0), (1, slA (eI .u8) t1)] (by kernel_rfl) trivial ?_
  refine OpsW.nil ?_
  refine AW.seq ?_
  refine AW.regionSeq ?_
  refine OpsW.seg 5 [10, 0, 1] [] [(10, .bool ((t0.length : Int) != (t1.length : Int))), (0, slA (eI .u8) t0), (1, slA (eI .u8) t1)] (by kernel_rfl) trivial ?_
  refine OpsW.nil ?_
  refine AW.cond (b := (t0.length : Int) != (t1.length : Int)) rfl (fun c1 => ?_) (fun c1 => ?_)
  · replace H := condT c1 H
    refine AW.regionSeq ?_
    refine OpsW.seg 1 [4] [] [(4, .bool false)] (by kernel_rfl) trivial ?_
    refine OpsW.nil ?_
    obtain rfl := Option.some.inj H
    refine AW.recast (env' := [(4, .bool false)]) (h' := []) (StC.pure (.cons .im .nil)) ?_
    refine AW.ret ?_
    try simp only [Ex.then, Ex.inBlock, Ex.noGoto, Ex.jump, reduceIte, Nat.reduceEqDiff, reduceCtorEq]
    refine Done.gen rfl (.tmp .nil) ?_
    show _ = _
    kernel_rfl
  · replace H := condF c1 H
    refine AW.skip ?_
    refine AW.seq ?_
    refine AW.regionSeq ?_
    refine OpsW.seg 3 [13, 12, 0, 1] [] [(13, .int .i64 (0 : Int)), (12, .int .i64 (t0.length : Int)), (0, slA (eI .u8) t0), (1, slA (eI .u8) t1)] (by kernel_rfl) trivial ?_
    refine OpsW.nil ?_
    refine AW.block ?_
    refine AW.iterK (fun loop (s : Int) => f_slices_Equal_api_Cell_b1 t0 t1 loop s) r (fun (s : Int) => [(0, slA (eI .u8) t0), (1, slA (eI .u8) t1), (12, .int .i64 (t0.length : Int)), (13, .int .i64 s)]) (fun (s : Int) => []) ?_ 1000000 (0 : Int) H (StC.pure (.cons .im (.cons .im (.cons .im (.cons .im .nil)))))
    intro loop3 v2 H
    change f_slices_Equal_api_Cell_b1 t0 t1 loop3 v2 = some r at H
    unfold f_slices_Equal_api_Cell_b1 at H
    change AW _ _ _ [(0, slA (eI .u8) t0), (1, slA (eI .u8) t1), (12, .int .i64 (t0.length : Int)), (13, .int .i64 v2)] [] _
    refine AW.regionSeq ?_
    refine OpsW.seg 1 [14, 0, 1, 12, 13] [] [(14, .bool (decide (v2 < (t0.length : Int)))), (0, slA (eI .u8) t0), (1, slA (eI .u8) t1), (12, .int .i64 (t0.length : Int)), (13, .int .i64 v2)] (by kernel_rfl) trivial ?_
    refine OpsW.nil ?_
    refine AW.seq ?_
    refine AW.cond (b := decide (v2 < (t0.length : Int))) rfl (fun c4 => ?_) (fun c4 => ?_)
    · replace H := condT c4 H
      refine AW.skip ?_
      refine AW.seq ?_
      refine AW.block ?_
      refine AW.regionSeq ?_
      refine OpsW.seg 2 [5, 0, 1, 12, 13] [] [(5, .int .i64 v2), (0, slA (eI .u8) t0), (1, slA (eI .u8) t1), (12, .int .i64 (t0.length : Int)), (13, .int .i64 v2)] (by kernel_rfl) trivial ?_
      refine OpsW.nil ?_
      refine AW.drawSeq Tryd.checked.mixed (by kernel_rfl) ?_
      obtain ⟨g5, H⟩ := G_some H
      refine QOps.seg (N := 26) 3 [0 ≤ v2 ∧ v2 < (t0.length : Int)] [(18, .ipt (t0.flatMap (eI .u8)) (v2.toNat * 1)), (17, .int .i64 v2), (16, slA (eI .u8) t0), (5, .int .i64 v2), (0, slA (eI .u8) t0), (1, slA (eI .u8) t1), (12, .int .i64 (t0.length : Int)), (13, .int .i64 v2)] (by kernel_rfl) ⟨g5, trivial⟩ ?_
      refine QOps.asU (.int .u8 (t0.getD v2.toNat (0 : Int))) rfl (T.load rfl trivial (by kernel_rfl) (fm_cell0 (eI .u8) 1 (fun _ => rfl) t0 (0 : Int) v2.toNat (ltN g5) (fun a => .val (.int .u8 a)) (fun _ => rfl))) ?_
      obtain ⟨g6, H⟩ := G_some H
      refine QOps.seg (N := 26) 3 [0 ≤ v2 ∧ v2 < (t1.length : Int)] [(22, .ipt (t1.flatMap (eI .u8)) (v2.toNat * 1)), (21, .int .i64 v2), (20, slA (eI .u8) t1), (19, .int .u8 (t0.getD v2.toNat (0 : Int))), (18, .ipt (t0.flatMap (eI .u8)) (v2.toNat * 1)), (17, .int .i64 v2), (16, slA (eI .u8) t0), (5, .int .i64 v2), (0, slA (eI .u8) t0), (1, slA (eI .u8) t1), (12, .int .i64 (t0.length : Int)), (13, .int .i64 v2)] (by kernel_rfl) ⟨g6, trivial⟩ ?_
      refine QOps.asU (.int .u8 (t1.getD v2.toNat (0 : Int))) rfl (T.load rfl trivial (by kernel_rfl) (fm_cell0 (eI .u8) 1 (fun _ => rfl) t1 (0 : Int) v2.toNat (ltN g6) (fun a => .val (.int .u8 a)) (fun _ => rfl))) ?_
      refine QOps.seg (N := 26) 1 [] [(24, .bool ((t0.getD v2.toNat (0 : Int)) != (t1.getD v2.toNat (0 : Int)))), (23, .int .u8 (t1.getD v2.toNat (0 : Int))), (22, .ipt (t1.flatMap (eI .u8)) (v2.toNat * 1)), (21, .int .i64 v2), (20, slA (eI .u8) t1), (19, .int .u8 (t0.getD v2.toNat (0 : Int))), (18, .ipt (t0.flatMap (eI .u8)) (v2.toNat * 1)), (17, .int .i64 v2), (16, slA (eI .u8) t0), (5, .int .i64 v2), (0, slA (eI .u8) t0), (1, slA (eI .u8) t1), (12, .int .i64 (t0.length : Int)), (13, .int .i64 v2)] (by kernel_rfl) trivial ?_
      refine QOps.nil ?_
      refine AW.trim [24, 0, 1, 12, 13] [(24, .bool ((t0.getD v2.toNat (0 : Int)) != (t1.getD v2.toNat (0 : Int)))), (0, slA (eI .u8) t0), (1, slA (eI .u8) t1), (12, .int .i64 (t0.length : Int)), (13, .int .i64 v2)] (by kernel_rfl) ?_
      refine AW.cond (b := (t0.getD v2.toNat (0 : Int)) != (t1.getD v2.toNat (0 : Int))) rfl (fun c7 => ?_) (fun c7 => ?_)
      · replace H := condT c7 H
        refine AW.regionSeq ?_
        refine OpsW.seg 1 [4] [] [(4, .bool false)] (by kernel_rfl) trivial ?_
        refine OpsW.nil ?_
        obtain rfl := Option.some.inj H
        refine AW.recast (env' := [(4, .bool false)]) (h' := []) (StC.pure (.cons .im .nil)) ?_
        refine AW.ret ?_
        try simp only [Ex.then, Ex.inBlock, Ex.noGoto, Ex.jump, reduceIte, Nat.reduceEqDiff, reduceCtorEq]
        refine Done.gen rfl (.tmp .nil) ?_
        show _ = _
        kernel_rfl
      · replace H := condF c7 H
        refine AW.skip ?_
        refine AW.region ?_
        obtain ⟨g8, H⟩ := G_some H
        refine OpsW.seg 2 [13, 0, 1, 12] [inR (v2 + (1 : Int))] [(13, .int .i64 (v2 + (1 : Int))), (0, slA (eI .u8) t0), (1, slA (eI .u8) t1), (12, .int .i64 (t0.length : Int))] (by kernel_rfl) ⟨g8, trivial⟩ ?_
        refine OpsW.nil ?_
        show ∃ y, _ ∧ StC _ _ _ _
        exact ⟨v2 + (1 : Int), H, (StC.pure (.cons .im (.cons .im (.cons .im (.cons .im .nil)))))⟩
    · replace H := condF c4 H
      refine AW.exit ?_
      refine AW.regionSeq ?_
      refine OpsW.seg 1 [4] [] [(4, .bool true)] (by kernel_rfl) trivial ?_
      refine OpsW.nil ?_
      obtain rfl := Option.some.inj H
      refine AW.recast (env' := [(4, .bool true)]) (h' := []) (StC.pure (.cons .im .nil)) ?_
      refine AW.ret ?_
      try simp only [Ex.then, Ex.inBlock, Ex.noGoto, Ex.jump, reduceIte, Nat.reduceEqDiff, reduceCtorEq]
      refine Done.gen rfl (.tmp .nil) ?_
      show _ = _
      kernel_rfl
def f_R19_Write_k1 (loop4 : ((List Int) × Int) → Option ((List Int) × Int)) (v3 : Int) (v6 : List Int) : Option ((List Int) × Int) :=
  G (inR (Int.tdiv v3 (10 : Int))) <|
  loop4 (v6, Int.tdiv v3 (10 : Int))
def f_R19_Write_b1 (t0 : Int) (loop4 : ((List Int) × Int) → Option ((List Int) × Int)) (v2 : List Int) (v3 : Int) : Option ((List Int) × Int) :=
  cond (decide ((0 : Int) < v3)) (
    cond (cond (decide (v3 ≤ t0)) true (v3 == (1 : Int))) (
      G (v3 ≠ 0) <|
      G (inR (Int.tdiv t0 v3)) <|
      (f_R19_Digit (Int.tmod (Int.tdiv t0 v3) (10 : Int))).bind fun x11 =>
      G (room 1 (v2.length + 1)) <|
      f_R19_Write_k1 loop4 v3 (v2 ++ [x11])) (
      f_R19_Write_k1 loop4 v3 v2)) (
    some (v2, (0 : Int)))
def f_R19_Write (t0 : Int) : Option ((List Int) × Int) :=
  cond (cond (decide (t0 < (0 : Int))) true (decide ((99999 : Int) < t0))) (
    some ([], (190 : Int))) (
    iter (fun loop (s : (List Int) × Int) => f_R19_Write_b1 t0 loop s.1 s.2) 1000000 ([(60 : Int)], (10000 : Int)))
theorem f_R19_Write_own {t0 : Int} {r : (List Int) × Int} (H : f_R19_Write t0 = some r) : Abs.Spec Tryd.prog 10 [.int .i64 t0] [] (fun x h => x = .tup [.rsl 1000 0 0 r.1.length, .int .i64 r.2] ∧ h = [(1000, rtA 0 42 1 (eI .u8) r.1)]) := by
  refine Spec.of_AW Tryd.func10 rfl (by simp [Tryd.ntmps10]) ?_
  rw [Tryd.ntmps10]
  unfold f_R19_Write at H
  change AW _ _ _ [(0, .int .i64 t0)] [] _
  refine AW.regionSeq ?_
  refine OpsW.seg 2 [0] [] [(0, .int .i64 t0)] (by kernel_rfl) trivial ?_
  refine OpsW.nil ?_
  refine AW.seq ?_
  refine AW.regionSeq ?_
  refine OpsW.seg 6 [11, 0] [(!(decide (t0 < (0 : Int)))) = true → (!(decide (t0 < (0 : Int)))) = true, (decide (t0 < (0 : Int))) = false → (!(decide (t0 < (0 : Int)))) = true] [(11, .bool (cond (decide (t0 < (0 : Int))) true (decide ((99999 : Int) < t0)))), (0, .int .i64 t0)] (by kernel_rfl) ⟨(fun h => h), (fun h => by first | exact h | simpa using h), trivial⟩ ?_
  refine OpsW.nil ?_
  refine AW.cond (b := cond (decide (t0 < (0 : Int))) true (decide ((99999 : Int) < t0))) rfl (fun c1 => ?_) (fun c1 => ?_)
  · replace H := condT c1 H
    refine AW.regionSeq ?_
    refine OpsW.seg 2 [3, 2] [] [(3, .int .i64 (190 : Int)), (2, .im (.val (.slice none 0 0)))] (by kernel_rfl) trivial ?_
    refine OpsW.nil ?_
    obtain rfl := Option.some.inj H
    refine AW.recast (env' := [(2, .rsl 1000 0 0 0), (3, .int .i64 (190 : Int))]) (h' := [(1000, rtA 0 42 1 (eI .u8) ([] : List Int))]) (StC.mk (phi [(1000, none)]) (.new rfl .nil) rfl (.cons (.nilr rfl rfl rfl) (.cons .im .nil))) ?_
    refine AW.ret ?_
    try simp only [Ex.then, Ex.inBlock, Ex.noGoto, Ex.jump, reduceIte, Nat.reduceEqDiff, reduceCtorEq]
    refine Done.gen rfl (.tmp (.tmp .nil)) ?_
    exact ⟨by kernel_rfl, rfl⟩
  · replace H := condF c1 H
    refine AW.skip ?_
    refine AW.regionSeq ?_
    refine OpsW.buildT (enc := eI .u8) [(60 : Int)] rfl rfl rfl 12 rfl E26 (fun _ => rfl) (by decide) trivial (by kernel_rfl) (by kernel_rfl) (by kernel_rfl) rfl ?_
    refine OpsW.seg 1 [4, 0] [] [(4, .rsl 12 0 0 ([(60 : Int)].length)), (0, .int .i64 t0)] (by kernel_rfl) trivial ?_
    refine OpsW.recast (env' := [(4, .rsl 4 0 0 ([(60 : Int)].length)), (0, .int .i64 t0)]) (h' := [(4, rtA 0 42 1 (eI .u8) [(60 : Int)])]) (StC.mk (phi [(4, some 12)]) (.old rfl rfl rfl rfl rfl (CstL.ims _) .nil) rfl (.cons (.rsl rfl rfl rfl rfl rfl rfl) (.cons .im .nil))) ?_
    refine OpsW.nil ?_
    refine AW.seq ?_
    refine AW.regionSeq ?_
    refine OpsW.seg 1 [5, 4, 0] [] [(5, .int .i64 (10000 : Int)), (4, .rsl 4 0 0 ([(60 : Int)].length)), (0, .int .i64 t0)] (by kernel_rfl) trivial ?_
    refine OpsW.nil ?_
    refine AW.block ?_
    refine AW.iterK (fun loop (s : (List Int) × Int) => f_R19_Write_b1 t0 loop s.1 s.2) r (fun (s : (List Int) × Int) => [(0, .int .i64 t0), (4, .rsl 4 0 0 s.1.length), (5, .int .i64 s.2)]) (fun (s : (List Int) × Int) => [(4, rtA 0 42 1 (eI .u8) s.1)]) ?_ 1000000 ([(60 : Int)], (10000 : Int)) H (StC.mk (phi [(4, some 4)]) (.old rfl rfl rfl rfl rfl (CstL.ims _) .nil) rfl (.cons .im (.cons (.rsl rfl rfl rfl rfl rfl rfl) (.cons .im .nil))))
    intro loop4 s H
    obtain ⟨v2, v3⟩ := s
    change f_R19_Write_b1 t0 loop4 v2 v3 = some r at H
    unfold f_R19_Write_b1 at H
    change AW _ _ _ [(0, .int .i64 t0), (4, .rsl 4 0 0 v2.length), (5, .int .i64 v3)] [(4, rtA 0 42 1 (eI .u8) v2)] _
    refine AW.seq ?_
    refine AW.regionSeq ?_
    refine OpsW.seg 2 [14, 0, 4, 5] [] [(14, .bool (decide ((0 : Int) < v3))), (0, .int .i64 t0), (4, .rsl 4 0 0 v2.length), (5, .int .i64 v3)] (by kernel_rfl) trivial ?_
    refine OpsW.nil ?_
    refine AW.cond (b := decide ((0 : Int) < v3)) rfl (fun c5 => ?_) (fun c5 => ?_)
    · replace H := condT c5 H
      refine AW.skip ?_
      refine AW.joinK (fun (y : (List Int)) => f_R19_Write_k1 loop4 v3 y) r (fun (y : (List Int)) => [(0, .int .i64 t0), (4, .rsl 4 0 0 y.length), (5, .int .i64 v3)]) (fun (y : (List Int)) => [(4, rtA 0 42 1 (eI .u8) y)]) ?_ ?_
      · refine AW.block ?_
        refine AW.regionSeq ?_
        refine OpsW.seg 7 [23, 0, 4, 5] [(!(decide (v3 ≤ t0))) = true → (!(decide (v3 ≤ t0))) = true, (decide (v3 ≤ t0)) = false → (!(decide (v3 ≤ t0))) = true] [(23, .bool (cond (decide (v3 ≤ t0)) true (v3 == (1 : Int)))), (0, .int .i64 t0), (4, .rsl 4 0 0 v2.length), (5, .int .i64 v3)] (by kernel_rfl) ⟨(fun h => h), (fun h => by first | exact h | simpa using h), trivial⟩ ?_
        refine OpsW.nil ?_
        refine AW.cond (b := cond (decide (v3 ≤ t0)) true (v3 == (1 : Int))) rfl (fun c8 => ?_) (fun c8 => ?_)
        · replace H := condT c8 H
          refine AW.region ?_
          obtain ⟨g9, H⟩ := G_some H
          obtain ⟨g10, H⟩ := G_some H
          refine OpsW.seg 5 [28, 24, 0, 4, 5] [v3 ≠ 0, inR (Int.tdiv t0 v3), (10 : Int) ≠ 0] [(28, .int .i64 (Int.tmod (Int.tdiv t0 v3) (10 : Int))), (24, .rsl 4 0 0 v2.length), (0, .int .i64 t0), (4, .rsl 4 0 0 v2.length), (5, .int .i64 v3)] (by kernel_rfl) ⟨g9, g10, (by decide), trivial⟩ ?_
          obtain ⟨x11, hx11, H⟩ := bindS H
          refine OpsW.qcall rfl (by kernel_rfl) rfl rfl (glAll_sound trivial) (.cons (.pur rfl) .nil) (f_R19_Digit_ok hx11) rfl ?_
          obtain ⟨g12, H⟩ := G_some H
          refine OpsW.appendLF (enc := eI .u8) [x11] rfl rfl rfl (by decide) rfl rfl rfl (by simp) E26 (fun _ => rfl) (by decide) trivial (by kernel_rfl) (by kernel_rfl) (by kernel_rfl) rfl rfl rfl g12 ?_
          refine OpsW.seg 1 [4, 0, 5] [] [(4, .rsl 4 1 0 ((v2 ++ [x11]).length)), (0, .int .i64 t0), (5, .int .i64 v3)] (by kernel_rfl) trivial ?_
          refine OpsW.recast (env' := [(4, .rsl 4 0 0 ((v2 ++ [x11]).length)), (0, .int .i64 t0), (5, .int .i64 v3)]) (h' := [(4, rtA 0 42 1 (eI .u8) (v2 ++ [x11]))]) (StC.mk (phi [(4, some 4)]) (.old rfl rfl rfl rfl rfl (CstL.ims _) .nil) rfl (.cons (.rsl rfl rfl rfl rfl rfl rfl) (.cons .im (.cons .im .nil)))) ?_
          refine OpsW.nil ?_
          show ∃ y, _ ∧ StC _ _ _ _
          exact ⟨v2 ++ [x11], H, (StC.mk (phi [(4, some 4)]) (.old rfl rfl rfl rfl rfl (CstL.ims _) .nil) rfl (.cons .im (.cons (.rsl rfl rfl rfl rfl rfl rfl) (.cons .im .nil))))⟩
        · replace H := condF c8 H
          refine AW.skip ?_
          show ∃ y, _ ∧ StC _ _ _ _
          exact ⟨v2, H, (StC.mk (phi [(4, some 4)]) (.old rfl rfl rfl rfl rfl (CstL.ims _) .nil) rfl (.cons .im (.cons (.rsl rfl rfl rfl rfl rfl rfl) (.cons .im .nil))))⟩
      · intro v6 H
        change f_R19_Write_k1 loop4 v3 v6 = some r at H
        unfold f_R19_Write_k1 at H
        change AW _ _ _ [(0, .int .i64 t0), (4, .rsl 4 0 0 v6.length), (5, .int .i64 v3)] [(4, rtA 0 42 1 (eI .u8) v6)] _
        refine AW.region ?_
        obtain ⟨g7, H⟩ := G_some H
        refine OpsW.seg 3 [5, 0, 4] [(10 : Int) ≠ 0, inR (Int.tdiv v3 (10 : Int))] [(5, .int .i64 (Int.tdiv v3 (10 : Int))), (0, .int .i64 t0), (4, .rsl 4 0 0 v6.length)] (by kernel_rfl) ⟨(by decide), g7, trivial⟩ ?_
        refine OpsW.nil ?_
        show ∃ y, _ ∧ StC _ _ _ _
        exact ⟨(v6, Int.tdiv v3 (10 : Int)), H, (StC.mk (phi [(4, some 4)]) (.old rfl rfl rfl rfl rfl (CstL.ims _) .nil) rfl (.cons .im (.cons (.rsl rfl rfl rfl rfl rfl rfl) (.cons .im .nil))))⟩
    · replace H := condF c5 H
      refine AW.exit ?_
      refine AW.regionSeq ?_
      refine OpsW.seg 3 [3, 2] [] [(3, .int .i64 (0 : Int)), (2, .rsl 4 0 0 v2.length)] (by kernel_rfl) trivial ?_
      refine OpsW.nil ?_
      obtain rfl := Option.some.inj H
      refine AW.recast (env' := [(2, .rsl 1000 0 0 v2.length), (3, .int .i64 (0 : Int))]) (h' := [(1000, rtA 0 42 1 (eI .u8) v2)]) (StC.mk (phi [(1000, some 4)]) (.old rfl rfl rfl rfl rfl (CstL.ims _) .nil) rfl (.cons (.rsl rfl rfl rfl rfl rfl rfl) (.cons .im .nil))) ?_
      refine AW.ret ?_
      try simp only [Ex.then, Ex.inBlock, Ex.noGoto, Ex.jump, reduceIte, Nat.reduceEqDiff, reduceCtorEq]
      refine Done.gen rfl (.tmp (.tmp .nil)) ?_
      exact ⟨by kernel_rfl, rfl⟩
theorem f_R19_Write_ok {t0 : Int} {r : (List Int) × Int} (H : f_R19_Write t0 = some r) : QSpec Tryd.prog 10 [.int .i64 t0] (.tup [slA (eI .u8) r.1, .int .i64 r.2]) := by
  exact QSpec.of_own (f_R19_Write_own H) (.tup (.cons (.frz rfl rfl rfl (frz_all (eI .u8) 1 (fun _ => rfl) r.1) (fm_length (eI .u8) 1 (fun _ => rfl) r.1) (phi_ne rfl)) (.cons .im .nil)))
def f_R19_Read_k1 (loop11 : (Int × Int) → Option (Int × Int × Int)) (v10 : Int) (v13 : Int) : Option (Int × Int × Int) :=
  G (inR (v10 + (1 : Int))) <|
  loop11 (v13, v10 + (1 : Int))
def f_R19_Read_b1 (t0 : List Int) (loop5 : (Int × Int) → Option (Int × Int × Int)) (v3 : Int) (loop11 : (Int × Int) → Option (Int × Int × Int)) (v9 : Int) (v10 : Int) : Option (Int × Int × Int) :=
  cond (decide (v10 < (10 : Int))) (
    (f_R19_Digit v10).bind fun x15 =>
    G (0 ≤ v3 ∧ v3 < (t0.length : Int)) <|
    cond (x15 == (t0.getD v3.toNat (0 : Int))) (
      G (inR ((10 : Int) * v9)) <|
      G (inR (((10 : Int) * v9) + v10)) <|
      f_R19_Read_k1 loop11 v10 (((10 : Int) * v9) + v10)) (
      f_R19_Read_k1 loop11 v10 v9)) (
    G (inR (v3 + (1 : Int))) <|
    loop5 (v3 + (1 : Int), v9))
def f_R19_Read_b2 (t0 : List Int) (loop5 : (Int × Int) → Option (Int × Int × Int)) (v3 : Int) (v4 : Int) : Option (Int × Int × Int) :=
  G ((decide (v3 < (t0.length : Int))) = true → (0 ≤ v3 ∧ v3 < (t0.length : Int))) <|
  (cond (decide (v3 < (t0.length : Int))) (f_R19_IsDigit (t0.getD v3.toNat (0 : Int))) (some false)).bind fun x7 =>
  cond (cond (cond (decide (v3 < (t0.length : Int))) x7 false) (decide (v3 < (7 : Int))) false) (
    iter (fun loop (s : Int × Int) => f_R19_Read_b1 t0 loop5 v3 loop s.1 s.2) 1000000 (v4, (0 : Int))) (
    (f_R19_Write v4).bind fun x21 =>
    G ((!(cond (cond (x21.2 != (0 : Int)) true (v3 == (1 : Int))) true (decide ((6 : Int) < v3)))) = true → (0 ≤ v3 ∧ v3 ≤ (t0.length : Int))) <|
    (cond (!(cond (cond (x21.2 != (0 : Int)) true (v3 == (1 : Int))) true (decide ((6 : Int) < v3)))) (f_R01_Same x21.1 (t0.take v3.toNat)) (some false)).bind fun x23 =>
    cond (cond (cond (cond (x21.2 != (0 : Int)) true (v3 == (1 : Int))) true (decide ((6 : Int) < v3))) true (!x23)) (
      some ((0 : Int), (0 : Int), (190 : Int))) (
      some (v4, v3, (0 : Int))))
def f_R19_Read (t0 : List Int) : Option (Int × Int × Int) :=
  G ((!(decide ((t0.length : Int) < (2 : Int)))) = true → (0 ≤ (0 : Int) ∧ (0 : Int) < (t0.length : Int))) <|
  cond (cond (decide ((t0.length : Int) < (2 : Int))) true ((t0.getD (0 : Int).toNat (0 : Int)) != (60 : Int))) (
    some ((0 : Int), (0 : Int), (190 : Int))) (
    iter (fun loop (s : Int × Int) => f_R19_Read_b2 t0 loop s.1 s.2) 1000000 ((1 : Int), (0 : Int)))
theorem f_R19_Read_ok {t0 : List Int} {r : Int × Int × Int} (H : f_R19_Read t0 = some r) : QSpec Tryd.prog 14 [slA (eI .u8) t0] (.tup [.int .i64 r.1, .int .i64 r.2.1, .int .i64 r.2.2]) := by
  refine Spec.of_AW Tryd.func14 rfl (by simp [Tryd.ntmps14]) ?_
  rw [Tryd.ntmps14]
  unfold f_R19_Read at H
  change AW _ _ _ [(0, slA (eI .u8) t0)] [] _
  refine AW.regionSeq ?_
  refine OpsW.seg 3 [0] [] [(0, slA (eI .u8) t0)] (by kernel_rfl) trivial ?_
  refine OpsW.nil ?_
  refine AW.seq ?_
  refine AW.regionSeq ?_
  obtain ⟨g1, H⟩ := G_some H
  refine OpsW.seg 6 [15, 13, 0] [(!(decide ((t0.length : Int) < (2 : Int)))) = true → (!(decide ((t0.length : Int) < (2 : Int)))) = true, (!(decide ((t0.length : Int) < (2 : Int)))) = true → (0 ≤ (0 : Int) ∧ (0 : Int) < (t0.length : Int))] [(15, .cnd (!(decide ((t0.length : Int) < (2 : Int)))) (.ipt (t0.flatMap (eI .u8)) ((0 : Int).toNat * 1))), (13, .bool (decide ((t0.length : Int) < (2 : Int)))), (0, slA (eI .u8) t0)] (by kernel_rfl) ⟨(fun h => h), g1, trivial⟩ ?_
  refine OpsW.asG (c := !(decide ((t0.length : Int) < (2 : Int)))) (.int .u8 (t0.getD (0 : Int).toNat (0 : Int))) rfl rfl rfl rfl (fun hc => T.load rfl hc (by kernel_rfl) (fm_cell0 (eI .u8) 1 (fun _ => rfl) t0 (0 : Int) (0 : Int).toNat (ltN (g1 hc)) (fun a => .val (.int .u8 a)) (fun _ => rfl))) ?_
  refine OpsW.seg 2 [18, 0] [(!(decide ((t0.length : Int) < (2 : Int)))) = true → (!(decide ((t0.length : Int) < (2 : Int)))) = true, (decide ((t0.length : Int) < (2 : Int))) = false → (!(decide ((t0.length : Int) < (2 : Int)))) = true] [(18, .bool (cond (decide ((t0.length : Int) < (2 : Int))) true ((t0.getD (0 : Int).toNat (0 : Int)) != (60 : Int)))), (0, slA (eI .u8) t0)] (by kernel_rfl) ⟨(fun h => h), (fun h => by first | exact h | simpa using h), trivial⟩ ?_
  refine OpsW.nil ?_
  refine AW.cond (b := cond (decide ((t0.length : Int) < (2 : Int))) true ((t0.getD (0 : Int).toNat (0 : Int)) != (60 : Int))) rfl (fun c2 => ?_) (fun c2 => ?_)
  · replace H := condT c2 H
    refine AW.regionSeq ?_
    refine OpsW.seg 3 [4, 3, 2] [] [(4, .int .i64 (190 : Int)), (3, .int .i64 (0 : Int)), (2, .int .i64 (0 : Int))] (by kernel_rfl) trivial ?_
    refine OpsW.nil ?_
    obtain rfl := Option.some.inj H
    refine AW.recast (env' := [(2, .int .i64 (0 : Int)), (3, .int .i64 (0 : Int)), (4, .int .i64 (190 : Int))]) (h' := []) (StC.pure (.cons .im (.cons .im (.cons .im .nil)))) ?_
    refine AW.ret ?_
    try simp only [Ex.then, Ex.inBlock, Ex.noGoto, Ex.jump, reduceIte, Nat.reduceEqDiff, reduceCtorEq]
    refine Done.gen rfl (.tmp (.tmp (.tmp .nil))) ?_
    show _ = _
    kernel_rfl
  · replace H := condF c2 H
    refine AW.skip ?_
    refine AW.regionSeq ?_
    refine OpsW.seg 1 [5, 0] [] [(5, .int .i64 (1 : Int)), (0, slA (eI .u8) t0)] (by kernel_rfl) trivial ?_
    refine OpsW.nil ?_
    refine AW.regionSeq ?_
    refine OpsW.seg 1 [6, 5, 0] [] [(6, .int .i64 (0 : Int)), (5, .int .i64 (1 : Int)), (0, slA (eI .u8) t0)] (by kernel_rfl) trivial ?_
    refine OpsW.nil ?_
    refine AW.seq ?_
    refine AW.block ?_
    refine AW.iterK (fun loop (s : Int × Int) => f_R19_Read_b2 t0 loop s.1 s.2) r (fun (s : Int × Int) => [(0, slA (eI .u8) t0), (5, .int .i64 s.1), (6, .int .i64 s.2)]) (fun (s : Int × Int) => []) ?_ 1000000 ((1 : Int), (0 : Int)) H (StC.pure (.cons .im (.cons .im (.cons .im .nil))))
    intro loop5 s H
    obtain ⟨v3, v4⟩ := s
    change f_R19_Read_b2 t0 loop5 v3 v4 = some r at H
    unfold f_R19_Read_b2 at H
    change AW _ _ _ [(0, slA (eI .u8) t0), (5, .int .i64 v3), (6, .int .i64 v4)] [] _
    refine AW.seq ?_
    refine AW.regionSeq ?_
    obtain ⟨g6, H⟩ := G_some H
    refine OpsW.seg 8 [26, 23, 0, 5, 6] [(decide (v3 < (t0.length : Int))) = true → (decide (v3 < (t0.length : Int))) = true, (decide (v3 < (t0.length : Int))) = true → (decide (v3 < (t0.length : Int))) = true, (decide (v3 < (t0.length : Int))) = true → (0 ≤ v3 ∧ v3 < (t0.length : Int))] [(26, .cnd (decide (v3 < (t0.length : Int))) (.ipt (t0.flatMap (eI .u8)) (v3.toNat * 1))), (23, .bool (decide (v3 < (t0.length : Int)))), (0, slA (eI .u8) t0), (5, .int .i64 v3), (6, .int .i64 v4)] (by kernel_rfl) ⟨(fun h => h), (fun h => h), g6, trivial⟩ ?_
    refine OpsW.asG (c := decide (v3 < (t0.length : Int))) (.int .u8 (t0.getD v3.toNat (0 : Int))) rfl rfl rfl rfl (fun hc => T.load rfl hc (by kernel_rfl) (fm_cell0 (eI .u8) 1 (fun _ => rfl) t0 (0 : Int) v3.toNat (ltN (g6 hc)) (fun a => .val (.int .u8 a)) (fun _ => rfl))) ?_
    obtain ⟨x7, hx7, H⟩ := bindS H
    refine OpsW.gcall (c := decide (v3 < (t0.length : Int))) (r := .bool x7) [] rfl (by kernel_rfl) rfl rfl rfl rfl (fun hc => ⟨glAll_sound ⟨hc, trivial⟩, (.cons (.pur rfl) .nil), f_R19_IsDigit_ok (condT hc hx7), .inl ⟨rfl, rfl⟩⟩) ?_
    refine OpsW.seg 5 [33, 0, 5, 6] [(decide (v3 < (t0.length : Int))) = true → (decide (v3 < (t0.length : Int))) = true, (cond (decide (v3 < (t0.length : Int))) x7 false) = true → (cond (decide (v3 < (t0.length : Int))) x7 false) = true, (cond (decide (v3 < (t0.length : Int))) x7 false) = true → (cond (decide (v3 < (t0.length : Int))) x7 false) = true] [(33, .bool (cond (cond (decide (v3 < (t0.length : Int))) x7 false) (decide (v3 < (7 : Int))) false)), (0, slA (eI .u8) t0), (5, .int .i64 v3), (6, .int .i64 v4)] (by kernel_rfl) ⟨(fun h => by first | exact h | simpa using h), (fun h => h), (fun h => by first | exact h | simpa using h), trivial⟩ ?_
    refine OpsW.nil ?_
    refine AW.cond (b := cond (cond (decide (v3 < (t0.length : Int))) x7 false) (decide (v3 < (7 : Int))) false) rfl (fun c8 => ?_) (fun c8 => ?_)
    · replace H := condT c8 H
      refine AW.skip ?_
      refine AW.block ?_
      refine AW.seq ?_
      refine AW.regionSeq ?_
      refine OpsW.seg 1 [7, 0, 5, 6] [] [(7, .int .i64 (0 : Int)), (0, slA (eI .u8) t0), (5, .int .i64 v3), (6, .int .i64 v4)] (by kernel_rfl) trivial ?_
      refine OpsW.nil ?_
      refine AW.block ?_
      refine AW.iterK (fun loop (s : Int × Int) => f_R19_Read_b1 t0 loop5 v3 loop s.1 s.2) r (fun (s : Int × Int) => [(0, slA (eI .u8) t0), (5, .int .i64 v3), (6, .int .i64 s.1), (7, .int .i64 s.2)]) (fun (s : Int × Int) => []) ?_ 1000000 (v4, (0 : Int)) H (StC.pure (.cons .im (.cons .im (.cons .im (.cons .im .nil)))))
      intro loop11 s H
      obtain ⟨v9, v10⟩ := s
      change f_R19_Read_b1 t0 loop5 v3 loop11 v9 v10 = some r at H
      unfold f_R19_Read_b1 at H
      change AW _ _ _ [(0, slA (eI .u8) t0), (5, .int .i64 v3), (6, .int .i64 v9), (7, .int .i64 v10)] [] _
      refine AW.seq ?_
      refine AW.regionSeq ?_
      refine OpsW.seg 2 [35, 0, 5, 6, 7] [] [(35, .bool (decide (v10 < (10 : Int)))), (0, slA (eI .u8) t0), (5, .int .i64 v3), (6, .int .i64 v9), (7, .int .i64 v10)] (by kernel_rfl) trivial ?_
      refine OpsW.nil ?_
      refine AW.cond (b := decide (v10 < (10 : Int))) rfl (fun c12 => ?_) (fun c12 => ?_)
      · replace H := condT c12 H
        refine AW.skip ?_
        refine AW.joinK (fun (y : Int) => f_R19_Read_k1 loop11 v10 y) r (fun (y : Int) => [(0, slA (eI .u8) t0), (5, .int .i64 v3), (6, .int .i64 y), (7, .int .i64 v10)]) (fun (y : Int) => []) ?_ ?_
        · refine AW.block ?_
          refine AW.drawSeq Tryd.checked.mixed (by kernel_rfl) ?_
          refine QOps.seg (N := 76) 1 [] [(38, .int .i64 v10), (35, .bool (decide (v10 < (10 : Int)))), (0, slA (eI .u8) t0), (5, .int .i64 v3), (6, .int .i64 v9), (7, .int .i64 v10)] (by kernel_rfl) trivial ?_
          obtain ⟨x15, hx15, H⟩ := bindS H
          refine QOps.qcall rfl (by kernel_rfl) rfl (glAll_sound trivial) (.cons (.pur rfl) .nil) (f_R19_Digit_ok hx15) rfl ?_
          obtain ⟨g16, H⟩ := G_some H
          refine QOps.seg (N := 76) 3 [0 ≤ v3 ∧ v3 < (t0.length : Int)] [(42, .ipt (t0.flatMap (eI .u8)) (v3.toNat * 1)), (41, .int .i64 v3), (40, slA (eI .u8) t0), (39, .int .u8 x15), (38, .int .i64 v10), (35, .bool (decide (v10 < (10 : Int)))), (0, slA (eI .u8) t0), (5, .int .i64 v3), (6, .int .i64 v9), (7, .int .i64 v10)] (by kernel_rfl) ⟨g16, trivial⟩ ?_
          refine QOps.asU (.int .u8 (t0.getD v3.toNat (0 : Int))) rfl (T.load rfl trivial (by kernel_rfl) (fm_cell0 (eI .u8) 1 (fun _ => rfl) t0 (0 : Int) v3.toNat (ltN g16) (fun a => .val (.int .u8 a)) (fun _ => rfl))) ?_
          refine QOps.seg (N := 76) 1 [] [(44, .bool (x15 == (t0.getD v3.toNat (0 : Int)))), (43, .int .u8 (t0.getD v3.toNat (0 : Int))), (42, .ipt (t0.flatMap (eI .u8)) (v3.toNat * 1)), (41, .int .i64 v3), (40, slA (eI .u8) t0), (39, .int .u8 x15), (38, .int .i64 v10), (35, .bool (decide (v10 < (10 : Int)))), (0, slA (eI .u8) t0), (5, .int .i64 v3), (6, .int .i64 v9), (7, .int .i64 v10)] (by kernel_rfl) trivial ?_
          refine QOps.nil ?_
          refine AW.trim [44, 0, 5, 6, 7] [(44, .bool (x15 == (t0.getD v3.toNat (0 : Int)))), (0, slA (eI .u8) t0), (5, .int .i64 v3), (6, .int .i64 v9), (7, .int .i64 v10)] (by kernel_rfl) ?_
          refine AW.cond (b := x15 == (t0.getD v3.toNat (0 : Int))) rfl (fun c17 => ?_) (fun c17 => ?_)
          · replace H := condT c17 H
            refine AW.region ?_
            obtain ⟨g18, H⟩ := G_some H
            obtain ⟨g19, H⟩ := G_some H
            refine OpsW.seg 5 [6, 0, 5, 7] [inR ((10 : Int) * v9), inR (((10 : Int) * v9) + v10)] [(6, .int .i64 (((10 : Int) * v9) + v10)), (0, slA (eI .u8) t0), (5, .int .i64 v3), (7, .int .i64 v10)] (by kernel_rfl) ⟨g18, g19, trivial⟩ ?_
            refine OpsW.nil ?_
            show ∃ y, _ ∧ StC _ _ _ _
            exact ⟨((10 : Int) * v9) + v10, H, (StC.pure (.cons .im (.cons .im (.cons .im (.cons .im .nil)))))⟩
          · replace H := condF c17 H
            refine AW.skip ?_
            show ∃ y, _ ∧ StC _ _ _ _
            exact ⟨v9, H, (StC.pure (.cons .im (.cons .im (.cons .im (.cons .im .nil)))))⟩
        · intro v13 H
          change f_R19_Read_k1 loop11 v10 v13 = some r at H
          unfold f_R19_Read_k1 at H
          change AW _ _ _ [(0, slA (eI .u8) t0), (5, .int .i64 v3), (6, .int .i64 v13), (7, .int .i64 v10)] [] _
          refine AW.region ?_
          obtain ⟨g14, H⟩ := G_some H
          refine OpsW.seg 3 [7, 0, 5, 6] [inR (v10 + (1 : Int))] [(7, .int .i64 (v10 + (1 : Int))), (0, slA (eI .u8) t0), (5, .int .i64 v3), (6, .int .i64 v13)] (by kernel_rfl) ⟨g14, trivial⟩ ?_
          refine OpsW.nil ?_
          show ∃ y, _ ∧ StC _ _ _ _
          exact ⟨(v13, v10 + (1 : Int)), H, (StC.pure (.cons .im (.cons .im (.cons .im (.cons .im .nil)))))⟩
      · replace H := condF c12 H
        refine AW.exit ?_
        refine AW.region ?_
        obtain ⟨g20, H⟩ := G_some H
        refine OpsW.seg 3 [5, 0, 6] [inR (v3 + (1 : Int))] [(5, .int .i64 (v3 + (1 : Int))), (0, slA (eI .u8) t0), (6, .int .i64 v9)] (by kernel_rfl) ⟨g20, trivial⟩ ?_
        refine OpsW.nil ?_
        show ∃ y, _ ∧ StC _ _ _ _
        exact ⟨(v3 + (1 : Int), v9), H, (StC.pure (.cons .im (.cons .im (.cons .im .nil))))⟩
    · replace H := condF c8 H
      refine AW.exit ?_
      refine AW.regionSeq ?_
      refine OpsW.seg 1 [52, 0, 5, 6] [] [(52, .int .i64 v4), (0, slA (eI .u8) t0), (5, .int .i64 v3), (6, .int .i64 v4)] (by kernel_rfl) trivial ?_
      obtain ⟨x21, hx21, H⟩ := bindS H
      refine OpsW.qcall rfl (by kernel_rfl) rfl rfl (glAll_sound trivial) (.cons (.pur rfl) .nil) (f_R19_Write_ok hx21) rfl ?_
      refine OpsW.seg 5 [9, 8, 0, 5, 6] [] [(9, .int .i64 x21.2), (8, slA (eI .u8) x21.1), (0, slA (eI .u8) t0), (5, .int .i64 v3), (6, .int .i64 v4)] (by kernel_rfl) trivial ?_
      refine OpsW.nil ?_
      refine AW.seq ?_
      refine AW.regionSeq ?_
      refine OpsW.seg 14 [69, 68, 67, 66, 5, 6] [(!(x21.2 != (0 : Int))) = true → (!(x21.2 != (0 : Int))) = true, (x21.2 != (0 : Int)) = false → (!(x21.2 != (0 : Int))) = true, (!(cond (x21.2 != (0 : Int)) true (v3 == (1 : Int)))) = true → (!(cond (x21.2 != (0 : Int)) true (v3 == (1 : Int)))) = true, (cond (x21.2 != (0 : Int)) true (v3 == (1 : Int))) = false → (!(cond (x21.2 != (0 : Int)) true (v3 == (1 : Int)))) = true] [(69, .cnd (!(cond (cond (x21.2 != (0 : Int)) true (v3 == (1 : Int))) true (decide ((6 : Int) < v3)))) (.int .i64 v3)), (68, .cnd (!(cond (cond (x21.2 != (0 : Int)) true (v3 == (1 : Int))) true (decide ((6 : Int) < v3)))) (slA (eI .u8) t0)), (67, .cnd (!(cond (cond (x21.2 != (0 : Int)) true (v3 == (1 : Int))) true (decide ((6 : Int) < v3)))) (slA (eI .u8) x21.1)), (66, .bool (cond (cond (x21.2 != (0 : Int)) true (v3 == (1 : Int))) true (decide ((6 : Int) < v3)))), (5, .int .i64 v3), (6, .int .i64 v4)] (by kernel_rfl) ⟨(fun h => h), (fun h => by first | exact h | simpa using h), (fun h => h), (fun h => by first | exact h | simpa using h), trivial⟩ ?_
      obtain ⟨g22, H⟩ := G_some H
      refine OpsW.asG (c := !(cond (cond (x21.2 != (0 : Int)) true (v3 == (1 : Int))) true (decide ((6 : Int) < v3)))) (slA (eI .u8) (t0.take v3.toNat)) rfl rfl rfl rfl (fun hc => T.slice' rfl hc trivial hc (by kernel_rfl) (by kernel_rfl) (g22 hc) trivial (sl_hi (eI .u8) 1 (fun _ => rfl) t0 v3 (g22 hc))) ?_
      obtain ⟨x23, hx23, H⟩ := bindS H
      refine OpsW.gcall (c := !(cond (cond (x21.2 != (0 : Int)) true (v3 == (1 : Int))) true (decide ((6 : Int) < v3)))) (r := .bool x23) [] rfl (by kernel_rfl) rfl rfl rfl rfl (fun hc => ⟨glAll_sound ⟨hc, hc, trivial⟩, (.cons (.pur rfl) (.cons (.pur rfl) .nil)), f_R01_Same_ok (condT hc hx23), .inl ⟨rfl, rfl⟩⟩) ?_
      refine OpsW.seg 2 [73, 5, 6] [(!(cond (cond (x21.2 != (0 : Int)) true (v3 == (1 : Int))) true (decide ((6 : Int) < v3)))) = true → (!(cond (cond (x21.2 != (0 : Int)) true (v3 == (1 : Int))) true (decide ((6 : Int) < v3)))) = true, (cond (cond (x21.2 != (0 : Int)) true (v3 == (1 : Int))) true (decide ((6 : Int) < v3))) = false → (!(cond (cond (x21.2 != (0 : Int)) true (v3 == (1 : Int))) true (decide ((6 : Int) < v3)))) = true] [(73, .bool (cond (cond (cond (x21.2 != (0 : Int)) true (v3 == (1 : Int))) true (decide ((6 : Int) < v3))) true (!x23))), (5, .int .i64 v3), (6, .int .i64 v4)] (by kernel_rfl) ⟨(fun h => h), (fun h => by first | exact h | simpa using h), trivial⟩ ?_
      refine OpsW.nil ?_
      refine AW.cond (b := cond (cond (cond (x21.2 != (0 : Int)) true (v3 == (1 : Int))) true (decide ((6 : Int) < v3))) true (!x23)) rfl (fun c24 => ?_) (fun c24 => ?_)
      · replace H := condT c24 H
        refine AW.regionSeq ?_
        refine OpsW.seg 3 [4, 3, 2] [] [(4, .int .i64 (190 : Int)), (3, .int .i64 (0 : Int)), (2, .int .i64 (0 : Int))] (by kernel_rfl) trivial ?_
        refine OpsW.nil ?_
        obtain rfl := Option.some.inj H
        refine AW.recast (env' := [(2, .int .i64 (0 : Int)), (3, .int .i64 (0 : Int)), (4, .int .i64 (190 : Int))]) (h' := []) (StC.pure (.cons .im (.cons .im (.cons .im .nil)))) ?_
        refine AW.ret ?_
        try simp only [Ex.then, Ex.inBlock, Ex.noGoto, Ex.jump, reduceIte, Nat.reduceEqDiff, reduceCtorEq]
        refine Done.gen rfl (.tmp (.tmp (.tmp .nil))) ?_
        show _ = _
        kernel_rfl
      · replace H := condF c24 H
        refine AW.skip ?_
        refine AW.regionSeq ?_
        refine OpsW.seg 5 [4, 3, 2] [] [(4, .int .i64 (0 : Int)), (3, .int .i64 v3), (2, .int .i64 v4)] (by kernel_rfl) trivial ?_
        refine OpsW.nil ?_
        obtain rfl := Option.some.inj H
        refine AW.recast (env' := [(2, .int .i64 v4), (3, .int .i64 v3), (4, .int .i64 (0 : Int))]) (h' := []) (StC.pure (.cons .im (.cons .im (.cons .im .nil)))) ?_
        refine AW.ret ?_
        try simp only [Ex.then, Ex.inBlock, Ex.noGoto, Ex.jump, reduceIte, Nat.reduceEqDiff, reduceCtorEq]
        refine Done.gen rfl (.tmp (.tmp (.tmp .nil))) ?_
        show _ = _
        kernel_rfl
def f_R19_Page_k1 (v7 : List Int) : Option ((List Int) × Int) :=
  some (v7, (0 : Int))
def f_R19_Page_k2 (t0 : S_Label) (v5 : Int) : Option ((List Int) × Int) :=
  (f_R19_Write v5).bind fun x6 =>
  cond (decide ((0 : Int) < t0.K)) (
    (f_R19_Letters).bind fun x9 =>
    G (inR (t0.K - (1 : Int))) <|
    G (0 ≤ (t0.K - (1 : Int)) ∧ (t0.K - (1 : Int)) < (x9.length : Int)) <|
    G (room 1 (x6.1.length + [(48 : Int), x9.getD (t0.K - (1 : Int)).toNat (0 : Int)].length)) <|
    f_R19_Page_k1 (x6.1 ++ [(48 : Int), x9.getD (t0.K - (1 : Int)).toNat (0 : Int)])) (
    f_R19_Page_k1 x6.1)
def f_R19_Page (t0 : S_Label) (t1 : Bool) : Option ((List Int) × Int) :=
  (f_R19_ValidLabel t0).bind fun x1 =>
  cond (!x1) (
    some ([], (190 : Int))) (
    G (inR ((2 : Int) * t0.N)) <|
    G (inR (((2 : Int) * t0.N) - (1 : Int))) <|
    cond t1 (
      f_R19_Page_k2 t0 ((2 : Int) * t0.N)) (
      f_R19_Page_k2 t0 (((2 : Int) * t0.N) - (1 : Int))))
theorem f_R19_Page_ok {t0 : S_Label} {t1 : Bool} {r : (List Int) × Int} (H : f_R19_Page t0 t1 = some r) : QSpec Tryd.prog 16 [.agg [.int .i64 t0.N, .int .i64 t0.K], .bool t1] (.tup [slA (eI .u8) r.1, .int .i64 r.2]) := by
  refine Spec.of_AW Tryd.func16 rfl (by simp [Tryd.ntmps16]) ?_
  rw [Tryd.ntmps16]
  unfold f_R19_Page at H
  change AW _ _ _ [(0, .agg [.int .i64 t0.N, .int .i64 t0.K]), (1, .bool t1)] [] _
  refine AW.regionSeq ?_
  refine OpsW.box rfl rfl rfl 2 rfl (okCb_sound (by kernel_rfl)) ?_
  change OpsW _ _ _ _ _ [(2, ⟨0, true, 35, 2, [.int .i64 t0.N, .int .i64 t0.K]⟩)] _
  refine OpsW.seg 2 [2, 1] [] [(2, .ref 2 0 0), (1, .bool t1)] (by kernel_rfl) trivial ?_
  refine OpsW.recast (env' := [(2, .ref 2 0 0), (1, .bool t1)]) (h' := [(2, ⟨0, true, 35, 2, [.int .i64 t0.N, .int .i64 t0.K]⟩)]) (StC.mk (phi [(2, some 2)]) (.old rfl rfl rfl rfl rfl (.cons .im (.cons .im .nil)) .nil) rfl (.cons (.ref rfl rfl rfl rfl rfl) (.cons .im .nil))) ?_
  refine OpsW.nil ?_
  refine AW.seq ?_
  refine AW.regionSeq ?_
  refine OpsW.seg 1 [9, 2, 1] [] [(9, .agg [.int .i64 t0.N, .int .i64 t0.K]), (2, .ref 2 0 0), (1, .bool t1)] (by kernel_rfl) trivial ?_
  obtain ⟨x1, hx1, H⟩ := bindS H
  refine OpsW.qcall rfl (by kernel_rfl) rfl rfl (glAll_sound trivial) (.cons (.pur rfl) .nil) (f_R19_ValidLabel_ok hx1) rfl ?_
  refine OpsW.seg 1 [11, 2, 1] [] [(11, .bool (!x1)), (2, .ref 2 0 0), (1, .bool t1)] (by kernel_rfl) trivial ?_
  refine OpsW.nil ?_
  refine AW.cond (b := !x1) rfl (fun c2 => ?_) (fun c2 => ?_)
  · replace H := condT c2 H
    refine AW.regionSeq ?_
    refine OpsW.seg 2 [5, 4] [] [(5, .int .i64 (190 : Int)), (4, .im (.val (.slice none 0 0)))] (by kernel_rfl) trivial ?_
    refine OpsW.nil ?_
    obtain rfl := Option.some.inj H
    refine AW.recast (env' := [(4, slA (eI .u8) []), (5, .int .i64 (190 : Int))]) (h' := []) (StC.pure (.cons .nil (.cons .im .nil))) ?_
    refine AW.ret ?_
    try simp only [Ex.then, Ex.inBlock, Ex.noGoto, Ex.jump, reduceIte, Nat.reduceEqDiff, reduceCtorEq]
    refine Done.gen rfl (.tmp (.tmp .nil)) ?_
    show _ = _
    kernel_rfl
  · replace H := condF c2 H
    refine AW.skip ?_
    refine AW.regionSeq ?_
    obtain ⟨g3, H⟩ := G_some H
    obtain ⟨g4, H⟩ := G_some H
    refine OpsW.seg 5 [6, 2, 1] [inR ((2 : Int) * t0.N), inR (((2 : Int) * t0.N) - (1 : Int))] [(6, .int .i64 (((2 : Int) * t0.N) - (1 : Int))), (2, .ref 2 0 0), (1, .bool t1)] (by kernel_rfl) ⟨g3, g4, trivial⟩ ?_
    refine OpsW.nil ?_
    refine AW.joinK (fun (y : Int) => f_R19_Page_k2 t0 y) r (fun (y : Int) => [(2, .ref 2 0 0), (6, .int .i64 y)]) (fun (y : Int) => [(2, ⟨0, true, 35, 2, [.int .i64 t0.N, .int .i64 t0.K]⟩)]) ?_ ?_
    · refine AW.regionSeq ?_
      refine OpsW.seg 1 [16, 6, 2] [] [(16, .bool t1), (6, .int .i64 (((2 : Int) * t0.N) - (1 : Int))), (2, .ref 2 0 0)] (by kernel_rfl) trivial ?_
      refine OpsW.nil ?_
      refine AW.cond (b := t1) rfl (fun c13 => ?_) (fun c13 => ?_)
      · replace H := condT c13 H
        refine AW.region ?_
        refine OpsW.seg 4 [6, 2] [inR ((2 : Int) * t0.N)] [(6, .int .i64 ((2 : Int) * t0.N)), (2, .ref 2 0 0)] (by kernel_rfl) ⟨g3, trivial⟩ ?_
        refine OpsW.nil ?_
        show ∃ y, _ ∧ StC _ _ _ _
        exact ⟨(2 : Int) * t0.N, H, (StC.mk (phi [(2, some 2)]) (.old rfl rfl rfl rfl rfl (.cons .im (.cons .im .nil)) .nil) rfl (.cons (.ref rfl rfl rfl rfl rfl) (.cons .im .nil)))⟩
      · replace H := condF c13 H
        refine AW.skip ?_
        show ∃ y, _ ∧ StC _ _ _ _
        exact ⟨((2 : Int) * t0.N) - (1 : Int), H, (StC.mk (phi [(2, some 2)]) (.old rfl rfl rfl rfl rfl (.cons .im (.cons .im .nil)) .nil) rfl (.cons (.ref rfl rfl rfl rfl rfl) (.cons .im .nil)))⟩
    · intro v5 H
      change f_R19_Page_k2 t0 v5 = some r at H
      unfold f_R19_Page_k2 at H
      change AW _ _ _ [(2, .ref 2 0 0), (6, .int .i64 v5)] [(2, ⟨0, true, 35, 2, [.int .i64 t0.N, .int .i64 t0.K]⟩)] _
      refine AW.regionSeq ?_
      refine OpsW.seg 1 [21, 2] [] [(21, .int .i64 v5), (2, .ref 2 0 0)] (by kernel_rfl) trivial ?_
      obtain ⟨x6, hx6, H⟩ := bindS H
      refine OpsW.call rfl rfl (by kernel_rfl) [] _ _ rfl (glAll_sound trivial) (.cons (.pur rfl) .nil) (f_R19_Write_own hx6) ?_
      rintro _ _ ⟨rfl, rfl⟩
      refine ⟨fresh_of (by kernel_rfl), .inl rfl, ?_⟩
      change OpsW _ _ _ _ [(22, .tup [.rsl 1000 0 0 x6.1.length, .int .i64 x6.2]), (21, .int .i64 v5), (2, .ref 2 0 0)] [(1000, rtA 0 42 1 (eI .u8) x6.1), (2, ⟨0, true, 35, 2, [.int .i64 t0.N, .int .i64 t0.K]⟩)] _
      refine OpsW.recast (env' := [(22, .tup [.rsl 600 0 0 x6.1.length, .int .i64 x6.2]), (21, .int .i64 v5), (2, .ref 2 0 0)]) (h' := [(600, rtA 0 42 1 (eI .u8) x6.1), (2, ⟨0, true, 35, 2, [.int .i64 t0.N, .int .i64 t0.K]⟩)]) (StC.mk (phi [(600, some 1000), (2, some 2)]) (.old rfl rfl rfl rfl rfl (CstL.ims _) (.old rfl rfl rfl rfl rfl (.cons .im (.cons .im .nil)) .nil)) rfl (.cons (.tup (.cons (.rsl rfl rfl rfl rfl rfl rfl) (.cons .im .nil))) (.cons .im (.cons (.ref rfl rfl rfl rfl rfl) .nil)))) ?_
      refine OpsW.seg 5 [7, 2] [] [(7, .rsl 600 0 0 x6.1.length), (2, .ref 2 0 0)] (by kernel_rfl) trivial ?_
      refine OpsW.recast (env' := [(7, .rsl 7 0 0 x6.1.length), (2, .ref 2 0 0)]) (h' := [(2, ⟨0, true, 35, 2, [.int .i64 t0.N, .int .i64 t0.K]⟩), (7, rtA 0 42 1 (eI .u8) x6.1)]) (StC.mk (phi [(2, some 2), (7, some 600)]) (.old rfl rfl rfl rfl rfl (.cons .im (.cons .im .nil)) (.old rfl rfl rfl rfl rfl (CstL.ims _) .nil)) rfl (.cons (.rsl rfl rfl rfl rfl rfl rfl) (.cons (.ref rfl rfl rfl rfl rfl) .nil))) ?_
      refine OpsW.nil ?_
      refine AW.joinK (fun (y : (List Int)) => f_R19_Page_k1 y) r (fun (y : (List Int)) => [(7, slA (eI .u8) y)]) (fun (y : (List Int)) => []) ?_ ?_
      · refine AW.regionSeq ?_
        refine OpsW.seg 3 [27, 7, 2] [] [(27, .bool (decide ((0 : Int) < t0.K))), (7, .rsl 7 0 0 x6.1.length), (2, .ref 2 0 0)] (by kernel_rfl) trivial ?_
        refine OpsW.nil ?_
        refine AW.cond (b := decide ((0 : Int) < t0.K)) rfl (fun c8 => ?_) (fun c8 => ?_)
        · replace H := condT c8 H
          refine AW.drawT 8 Tryd.checked.mixed (by kernel_rfl) ?_
          refine QOps.seg (N := 38) 1 [] [(28, .rsl 7 0 0 x6.1.length), (27, .bool (decide ((0 : Int) < t0.K))), (7, .rsl 7 0 0 x6.1.length), (2, .ref 2 0 0)] (by kernel_rfl) trivial ?_
          obtain ⟨x9, hx9, H⟩ := bindS H
          refine QOps.qcall rfl (by kernel_rfl) rfl (glAll_sound trivial) .nil (f_R19_Letters_ok hx9) rfl ?_
          obtain ⟨g10, H⟩ := G_some H
          obtain ⟨g11, H⟩ := G_some H
          refine QOps.seg (N := 38) 4 [inR (t0.K - (1 : Int)), 0 ≤ (t0.K - (1 : Int)) ∧ (t0.K - (1 : Int)) < (x9.length : Int)] [(33, .ipt (x9.flatMap (eI .u8)) ((t0.K - (1 : Int)).toNat * 1)), (32, .int .i64 (t0.K - (1 : Int))), (31, .int .i64 t0.K), (30, .ref 2 0 1), (29, slA (eI .u8) x9), (28, .rsl 7 0 0 x6.1.length), (27, .bool (decide ((0 : Int) < t0.K))), (7, .rsl 7 0 0 x6.1.length), (2, .ref 2 0 0)] (by kernel_rfl) ⟨g10, g11, trivial⟩ ?_
          refine QOps.asU (.int .u8 (x9.getD (t0.K - (1 : Int)).toNat (0 : Int))) rfl (T.load rfl trivial (by kernel_rfl) (fm_cell0 (eI .u8) 1 (fun _ => rfl) x9 (0 : Int) (t0.K - (1 : Int)).toNat (ltN g11) (fun a => .val (.int .u8 a)) (fun _ => rfl))) ?_
          refine QOps.buildTI (enc := eI .u8) [(48 : Int), x9.getD (t0.K - (1 : Int)).toNat (0 : Int)] rfl rfl E26 (fun _ => rfl) (by decide) ⟨trivial, by kernel_rfl, by kernel_rfl, by kernel_rfl, rfl⟩ ?_
          refine QOps.nil ?_
          refine OpsW.seg 0 [35, 28, 7] [] [(35, slA (eI .u8) [(48 : Int), x9.getD (t0.K - (1 : Int)).toNat (0 : Int)]), (28, .rsl 7 0 0 x6.1.length), (7, .rsl 7 0 0 x6.1.length)] (by kernel_rfl) trivial ?_
          obtain ⟨g12, H⟩ := G_some H
          refine OpsW.appendF (enc := eI .u8) (ys := [(48 : Int), x9.getD (t0.K - (1 : Int)).toNat (0 : Int)]) rfl rfl rfl E26 (fun _ => rfl) rfl rfl trivial (SrcA.typed (enc := eI .u8) (fun _ => rfl) (by kernel_rfl) [(48 : Int), x9.getD (t0.K - (1 : Int)).toNat (0 : Int)]) rfl g12 ?_
          refine OpsW.seg 1 [7] [] [(7, .rsl 7 1 0 ((x6.1 ++ [(48 : Int), x9.getD (t0.K - (1 : Int)).toNat (0 : Int)]).length))] (by kernel_rfl) trivial ?_
          refine OpsW.recast (env' := [(7, slA (eI .u8) (x6.1 ++ [(48 : Int), x9.getD (t0.K - (1 : Int)).toNat (0 : Int)]))]) (h' := []) (StC.mk (phi []) .nil rfl (.cons (.frz rfl rfl rfl (frz_all (eI .u8) 1 (fun _ => rfl) (x6.1 ++ [(48 : Int), x9.getD (t0.K - (1 : Int)).toNat (0 : Int)])) (fm_length (eI .u8) 1 (fun _ => rfl) (x6.1 ++ [(48 : Int), x9.getD (t0.K - (1 : Int)).toNat (0 : Int)])) (phi_ne rfl)) .nil)) ?_
          refine OpsW.nil ?_
          show ∃ y, _ ∧ StC _ _ _ _
          exact ⟨x6.1 ++ [(48 : Int), x9.getD (t0.K - (1 : Int)).toNat (0 : Int)], H, (StC.pure (.cons .im .nil))⟩
        · replace H := condF c8 H
          refine AW.skip ?_
          show ∃ y, _ ∧ StC _ _ _ _
          exact ⟨x6.1, H, (StC.mk (phi []) .nil rfl (.cons (.frz rfl rfl rfl (frz_all (eI .u8) 1 (fun _ => rfl) x6.1) (fm_length (eI .u8) 1 (fun _ => rfl) x6.1) (phi_ne rfl)) .nil))⟩
      · intro v7 H
        change f_R19_Page_k1 v7 = some r at H
        unfold f_R19_Page_k1 at H
        change AW _ _ _ [(7, slA (eI .u8) v7)] [] _
        refine AW.regionSeq ?_
        refine OpsW.seg 3 [5, 4] [] [(5, .int .i64 (0 : Int)), (4, slA (eI .u8) v7)] (by kernel_rfl) trivial ?_
        refine OpsW.nil ?_
        obtain rfl := Option.some.inj H
        refine AW.recast (env' := [(4, slA (eI .u8) v7), (5, .int .i64 (0 : Int))]) (h' := []) (StC.pure (.cons .im (.cons .im .nil))) ?_
        refine AW.ret ?_
        try simp only [Ex.then, Ex.inBlock, Ex.noGoto, Ex.jump, reduceIte, Nat.reduceEqDiff, reduceCtorEq]
        refine Done.gen rfl (.tmp (.tmp .nil)) ?_
        show _ = _
        kernel_rfl
def f_R19_Ink (t0 : Int) (t1 : Int) : Option ((List Int) × Int) :=
  cond (cond (cond (cond (decide (t0 < (1 : Int))) true (decide ((9999 : Int) < t0))) true (decide (t1 < (0 : Int)))) true (decide ((26 : Int) < t1))) (
    some ([], (190 : Int))) (
    (f_R19_Write t0).bind fun x2 =>
    cond (t1 == (0 : Int)) (
      some (x2.1, (0 : Int))) (
      (f_R19_Letters).bind fun x4 =>
      G (inR (t1 - (1 : Int))) <|
      G (0 ≤ (t1 - (1 : Int)) ∧ (t1 - (1 : Int)) < (x4.length : Int)) <|
      G (room 1 ([(48 : Int), x4.getD (t1 - (1 : Int)).toNat (0 : Int)].length + x2.1.length)) <|
      some ([(48 : Int), x4.getD (t1 - (1 : Int)).toNat (0 : Int)] ++ x2.1, (0 : Int))))
theorem f_R19_Ink_ok {t0 : Int} {t1 : Int} {r : (List Int) × Int} (H : f_R19_Ink t0 t1 = some r) : QSpec Tryd.prog 18 [.int .i64 t0, .int .i64 t1] (.tup [slA (eI .u8) r.1, .int .i64 r.2]) := by
  refine Spec.of_AW Tryd.func18 rfl (by simp [Tryd.ntmps18]) ?_
  rw [Tryd.ntmps18]
  unfold f_R19_Ink at H
  change AW _ _ _ [(0, .int .i64 t0), (1, .int .i64 t1)] [] _
  refine AW.regionSeq ?_
  refine OpsW.seg 2 [0, 1] [] [(0, .int .i64 t0), (1, .int .i64 t1)] (by kernel_rfl) trivial ?_
  refine OpsW.nil ?_
  refine AW.seq ?_
  refine AW.regionSeq ?_
  refine OpsW.seg 14 [22, 0, 1] [(!(decide (t0 < (1 : Int)))) = true → (!(decide (t0 < (1 : Int)))) = true, (decide (t0 < (1 : Int))) = false → (!(decide (t0 < (1 : Int)))) = true, (!(cond (decide (t0 < (1 : Int))) true (decide ((9999 : Int) < t0)))) = true → (!(cond (decide (t0 < (1 : Int))) true (decide ((9999 : Int) < t0)))) = true, (cond (decide (t0 < (1 : Int))) true (decide ((9999 : Int) < t0))) = false → (!(cond (decide (t0 < (1 : Int))) true (decide ((9999 : Int) < t0)))) = true, (!(cond (cond (decide (t0 < (1 : Int))) true (decide ((9999 : Int) < t0))) true (decide (t1 < (0 : Int))))) = true → (!(cond (cond (decide (t0 < (1 : Int))) true (decide ((9999 : Int) < t0))) true (decide (t1 < (0 : Int))))) = true, (cond (cond (decide (t0 < (1 : Int))) true (decide ((9999 : Int) < t0))) true (decide (t1 < (0 : Int)))) = false → (!(cond (cond (decide (t0 < (1 : Int))) true (decide ((9999 : Int) < t0))) true (decide (t1 < (0 : Int))))) = true] [(22, .bool (cond (cond (cond (decide (t0 < (1 : Int))) true (decide ((9999 : Int) < t0))) true (decide (t1 < (0 : Int)))) true (decide ((26 : Int) < t1)))), (0, .int .i64 t0), (1, .int .i64 t1)] (by kernel_rfl) ⟨(fun h => h), (fun h => by first | exact h | simpa using h), (fun h => h), (fun h => by first | exact h | simpa using h), (fun h => h), (fun h => by first | exact h | simpa using h), trivial⟩ ?_
  refine OpsW.nil ?_
  refine AW.cond (b := cond (cond (cond (decide (t0 < (1 : Int))) true (decide ((9999 : Int) < t0))) true (decide (t1 < (0 : Int)))) true (decide ((26 : Int) < t1))) rfl (fun c1 => ?_) (fun c1 => ?_)
  · replace H := condT c1 H
    refine AW.regionSeq ?_
    refine OpsW.seg 2 [5, 4] [] [(5, .int .i64 (190 : Int)), (4, .im (.val (.slice none 0 0)))] (by kernel_rfl) trivial ?_
    refine OpsW.nil ?_
    obtain rfl := Option.some.inj H
    refine AW.recast (env' := [(4, slA (eI .u8) []), (5, .int .i64 (190 : Int))]) (h' := []) (StC.pure (.cons .nil (.cons .im .nil))) ?_
    refine AW.ret ?_
    try simp only [Ex.then, Ex.inBlock, Ex.noGoto, Ex.jump, reduceIte, Nat.reduceEqDiff, reduceCtorEq]
    refine Done.gen rfl (.tmp (.tmp .nil)) ?_
    show _ = _
    kernel_rfl
  · replace H := condF c1 H
    refine AW.skip ?_
    refine AW.regionSeq ?_
    refine OpsW.seg 1 [24, 1] [] [(24, .int .i64 t0), (1, .int .i64 t1)] (by kernel_rfl) trivial ?_
    obtain ⟨x2, hx2, H⟩ := bindS H
    refine OpsW.qcall rfl (by kernel_rfl) rfl rfl (glAll_sound trivial) (.cons (.pur rfl) .nil) (f_R19_Write_ok hx2) rfl ?_
    refine OpsW.seg 5 [6, 1] [] [(6, slA (eI .u8) x2.1), (1, .int .i64 t1)] (by kernel_rfl) trivial ?_
    refine OpsW.nil ?_
    refine AW.seq ?_
    refine AW.regionSeq ?_
    refine OpsW.seg 2 [29, 6, 1] [] [(29, .bool (t1 == (0 : Int))), (6, slA (eI .u8) x2.1), (1, .int .i64 t1)] (by kernel_rfl) trivial ?_
    refine OpsW.nil ?_
    refine AW.cond (b := t1 == (0 : Int)) rfl (fun c3 => ?_) (fun c3 => ?_)
    · replace H := condT c3 H
      refine AW.regionSeq ?_
      refine OpsW.seg 3 [5, 4] [] [(5, .int .i64 (0 : Int)), (4, slA (eI .u8) x2.1)] (by kernel_rfl) trivial ?_
      refine OpsW.nil ?_
      obtain rfl := Option.some.inj H
      refine AW.recast (env' := [(4, slA (eI .u8) x2.1), (5, .int .i64 (0 : Int))]) (h' := []) (StC.pure (.cons .im (.cons .im .nil))) ?_
      refine AW.ret ?_
      try simp only [Ex.then, Ex.inBlock, Ex.noGoto, Ex.jump, reduceIte, Nat.reduceEqDiff, reduceCtorEq]
      refine Done.gen rfl (.tmp (.tmp .nil)) ?_
      show _ = _
      kernel_rfl
    · replace H := condF c3 H
      refine AW.skip ?_
      refine AW.regionSeq ?_
      obtain ⟨x4, hx4, H⟩ := bindS H
      refine OpsW.qcall rfl (by kernel_rfl) rfl rfl (glAll_sound trivial) .nil (f_R19_Letters_ok hx4) rfl ?_
      obtain ⟨g5, H⟩ := G_some H
      obtain ⟨g6, H⟩ := G_some H
      refine OpsW.seg 3 [34, 6] [inR (t1 - (1 : Int)), 0 ≤ (t1 - (1 : Int)) ∧ (t1 - (1 : Int)) < (x4.length : Int)] [(34, .ipt (x4.flatMap (eI .u8)) ((t1 - (1 : Int)).toNat * 1)), (6, slA (eI .u8) x2.1)] (by kernel_rfl) ⟨g5, g6, trivial⟩ ?_
      refine OpsW.asU (.int .u8 (x4.getD (t1 - (1 : Int)).toNat (0 : Int))) rfl rfl (T.load rfl trivial (by kernel_rfl) (fm_cell0 (eI .u8) 1 (fun _ => rfl) x4 (0 : Int) (t1 - (1 : Int)).toNat (ltN g6) (fun a => .val (.int .u8 a)) (fun _ => rfl))) ?_
      refine OpsW.buildT (enc := eI .u8) [(48 : Int), x4.getD (t1 - (1 : Int)).toNat (0 : Int)] rfl rfl rfl 36 rfl E26 (fun _ => rfl) (by decide) trivial (by kernel_rfl) (by kernel_rfl) (by kernel_rfl) rfl ?_
      refine OpsW.seg 1 [8, 6] [] [(8, .rsl 36 0 0 ([(48 : Int), x4.getD (t1 - (1 : Int)).toNat (0 : Int)].length)), (6, slA (eI .u8) x2.1)] (by kernel_rfl) trivial ?_
      refine OpsW.recast (env' := [(8, .rsl 8 0 0 ([(48 : Int), x4.getD (t1 - (1 : Int)).toNat (0 : Int)].length)), (6, slA (eI .u8) x2.1)]) (h' := [(8, rtA 0 42 1 (eI .u8) [(48 : Int), x4.getD (t1 - (1 : Int)).toNat (0 : Int)])]) (StC.mk (phi [(8, some 36)]) (.old rfl rfl rfl rfl rfl (CstL.ims _) .nil) rfl (.cons (.rsl rfl rfl rfl rfl rfl rfl) (.cons .im .nil))) ?_
      refine OpsW.nil ?_
      refine AW.regionSeq ?_
      refine OpsW.seg 2 [38, 37] [] [(38, slA (eI .u8) x2.1), (37, .rsl 8 0 0 ([(48 : Int), x4.getD (t1 - (1 : Int)).toNat (0 : Int)].length))] (by kernel_rfl) trivial ?_
      obtain ⟨g7, H⟩ := G_some H
      refine OpsW.appendF (enc := eI .u8) (ys := x2.1) rfl rfl rfl E26 (fun _ => rfl) rfl rfl trivial (SrcA.typed (enc := eI .u8) (fun _ => rfl) (by kernel_rfl) x2.1) rfl g7 ?_
      refine OpsW.seg 2 [5, 4] [] [(5, .int .i64 (0 : Int)), (4, .rsl 8 1 0 (([(48 : Int), x4.getD (t1 - (1 : Int)).toNat (0 : Int)] ++ x2.1).length))] (by kernel_rfl) trivial ?_
      refine OpsW.recast (env' := [(5, .int .i64 (0 : Int)), (4, slA (eI .u8) ([(48 : Int), x4.getD (t1 - (1 : Int)).toNat (0 : Int)] ++ x2.1))]) (h' := []) (StC.mk (phi []) .nil rfl (.cons .im (.cons (.frz rfl rfl rfl (frz_all (eI .u8) 1 (fun _ => rfl) ([(48 : Int), x4.getD (t1 - (1 : Int)).toNat (0 : Int)] ++ x2.1)) (fm_length (eI .u8) 1 (fun _ => rfl) ([(48 : Int), x4.getD (t1 - (1 : Int)).toNat (0 : Int)] ++ x2.1)) (phi_ne rfl)) .nil))) ?_
      refine OpsW.nil ?_
      obtain rfl := Option.some.inj H
      refine AW.recast (env' := [(4, slA (eI .u8) ([(48 : Int), x4.getD (t1 - (1 : Int)).toNat (0 : Int)] ++ x2.1)), (5, .int .i64 (0 : Int))]) (h' := []) (StC.pure (.cons .im (.cons .im .nil))) ?_
      refine AW.ret ?_
      try simp only [Ex.then, Ex.inBlock, Ex.noGoto, Ex.jump, reduceIte, Nat.reduceEqDiff, reduceCtorEq]
      refine Done.gen rfl (.tmp (.tmp .nil)) ?_
      show _ = _
      kernel_rfl
def f_R19_Made_k1 (v3 : S_Header) (v4 : S_Header) : Option S_Header :=
  some v4
def f_R19_Made (t0 : S_Raw) : Option S_Header :=
  G (inR ((24 : Int) + (IntKind.wrap .i64 (Int.tmod t0.Width (37 : Int))))) <|
  G (inR ((1 : Int) + (Int.tmod (IntKind.wrap .i64 t0.N) (9999 : Int)))) <|
  cond (decide ((0 : Int) < (IntKind.wrap .i64 (Int.tmod t0.Ink (10000 : Int))))) (
    f_R19_Made_k1 (⟨(0 : Int), (⟨(0 : Int), (0 : Int)⟩ : S_Label), false, (0 : Int), (0 : Int)⟩ : S_Header) (⟨(24 : Int) + (IntKind.wrap .i64 (Int.tmod t0.Width (37 : Int))), (⟨(1 : Int) + (Int.tmod (IntKind.wrap .i64 t0.N) (9999 : Int)), IntKind.wrap .i64 (Int.tmod t0.K (3 : Int))⟩ : S_Label), t0.Back, IntKind.wrap .i64 (Int.tmod t0.Ink (10000 : Int)), IntKind.wrap .i64 (Int.tmod t0.Part (27 : Int))⟩ : S_Header)) (
    f_R19_Made_k1 (⟨(0 : Int), (⟨(0 : Int), (0 : Int)⟩ : S_Label), false, (0 : Int), (0 : Int)⟩ : S_Header) (⟨(24 : Int) + (IntKind.wrap .i64 (Int.tmod t0.Width (37 : Int))), (⟨(1 : Int) + (Int.tmod (IntKind.wrap .i64 t0.N) (9999 : Int)), IntKind.wrap .i64 (Int.tmod t0.K (3 : Int))⟩ : S_Label), t0.Back, IntKind.wrap .i64 (Int.tmod t0.Ink (10000 : Int)), (0 : Int)⟩ : S_Header))
theorem f_R19_Made_ok {t0 : S_Raw} {r : S_Header} (H : f_R19_Made t0 = some r) : QSpec Tryd.prog 20 [.agg [.int .u8 t0.Width, .int .u16 t0.N, .int .u8 t0.K, .bool t0.Back, .int .u16 t0.Ink, .int .u8 t0.Part]] (.agg [.int .i64 r.Width, .int .i64 r.Label.N, .int .i64 r.Label.K, .bool r.Back, .int .i64 r.Ink, .int .i64 r.Part]) := by
  refine Spec.of_AW Tryd.func20 rfl (by simp [Tryd.ntmps20]) ?_
  rw [Tryd.ntmps20]
  unfold f_R19_Made at H
  change AW _ _ _ [(0, .agg [.int .u8 t0.Width, .int .u16 t0.N, .int .u8 t0.K, .bool t0.Back, .int .u16 t0.Ink, .int .u8 t0.Part])] [] _
  refine AW.regionSeq ?_
  refine OpsW.box rfl rfl rfl 1 rfl (okCb_sound (by kernel_rfl)) ?_
  change OpsW _ _ _ _ _ [(1, ⟨0, true, 46, 6, [.int .u8 t0.Width, .int .u16 t0.N, .int .u8 t0.K, .bool t0.Back, .int .u16 t0.Ink, .int .u8 t0.Part]⟩)] _
  refine OpsW.alloc' rfl rfl rfl 2 rfl (by kernel_rfl : zc Tryd.prog 48 = some [.int .i64 0, .int .i64 0, .int .i64 0, .bool false, .int .i64 0, .int .i64 0]) (by kernel_rfl) ?_
  refine OpsW.seg 0 [2, 1] [] [(2, .ref 2 0 0), (1, .ref 1 0 0)] (by kernel_rfl) trivial ?_
  refine OpsW.recast (env' := [(2, .ref 2 0 0), (1, .ref 1 0 0)]) (h' := [(1, ⟨0, true, 46, 6, [.int .u8 t0.Width, .int .u16 t0.N, .int .u8 t0.K, .bool t0.Back, .int .u16 t0.Ink, .int .u8 t0.Part]⟩), (2, ⟨0, true, 48, 6, [.int .i64 (0 : Int), .int .i64 (0 : Int), .int .i64 (0 : Int), .bool false, .int .i64 (0 : Int), .int .i64 (0 : Int)]⟩)]) (StC.mk (phi [(1, some 1), (2, some 2)]) (.old rfl rfl rfl rfl rfl (.cons .im (.cons .im (.cons .im (.cons .im (.cons .im (.cons .im .nil)))))) (.old rfl rfl rfl rfl rfl (.cons .im (.cons .im (.cons .im (.cons .im (.cons .im (.cons .im .nil)))))) .nil)) rfl (.cons (.ref rfl rfl rfl rfl rfl) (.cons (.ref rfl rfl rfl rfl rfl) .nil))) ?_
  refine OpsW.nil ?_
  refine AW.regionSeq ?_
  obtain ⟨g1, H⟩ := G_some H
  obtain ⟨g2, H⟩ := G_some H
  refine OpsW.seg 22 [25, 2, 1] [(37 : Int) ≠ 0, inR ((24 : Int) + (IntKind.wrap .i64 (Int.tmod t0.Width (37 : Int)))), (9999 : Int) ≠ 0, inR ((1 : Int) + (Int.tmod (IntKind.wrap .i64 t0.N) (9999 : Int))), (3 : Int) ≠ 0, (10000 : Int) ≠ 0] [(25, .agg [.int .i64 ((24 : Int) + (IntKind.wrap .i64 (Int.tmod t0.Width (37 : Int)))), .int .i64 ((1 : Int) + (Int.tmod (IntKind.wrap .i64 t0.N) (9999 : Int))), .int .i64 (IntKind.wrap .i64 (Int.tmod t0.K (3 : Int))), .bool t0.Back, .int .i64 (IntKind.wrap .i64 (Int.tmod t0.Ink (10000 : Int))), .int .i64 (0 : Int)]), (2, .ref 2 0 0), (1, .ref 1 0 0)] (by kernel_rfl) ⟨(by decide), g1, (by decide), g2, (by decide), (by decide), trivial⟩ ?_
  refine OpsW.alloc' rfl rfl rfl 3 rfl (by kernel_rfl : zc Tryd.prog 48 = some [.int .i64 0, .int .i64 0, .int .i64 0, .bool false, .int .i64 0, .int .i64 0]) (by kernel_rfl) ?_
  refine OpsW.store rfl rfl rfl rfl trivial trivial rfl rfl rfl (by kernel_rfl) (okCb_sound (by kernel_rfl)) (Nat.le_of_ble_eq_true (by kernel_rfl)) ?_
  change OpsW _ _ _ _ _ [(3, ⟨0, true, 48, 6, [.int .i64 ((24 : Int) + (IntKind.wrap .i64 (Int.tmod t0.Width (37 : Int)))), .int .i64 ((1 : Int) + (Int.tmod (IntKind.wrap .i64 t0.N) (9999 : Int))), .int .i64 (IntKind.wrap .i64 (Int.tmod t0.K (3 : Int))), .bool t0.Back, .int .i64 (IntKind.wrap .i64 (Int.tmod t0.Ink (10000 : Int))), .int .i64 (0 : Int)]⟩), (3, ⟨0, true, 48, 6, [.int .i64 (0 : Int), .int .i64 (0 : Int), .int .i64 (0 : Int), .bool false, .int .i64 (0 : Int), .int .i64 (0 : Int)]⟩), (1, ⟨0, true, 46, 6, [.int .u8 t0.Width, .int .u16 t0.N, .int .u8 t0.K, .bool t0.Back, .int .u16 t0.Ink, .int .u8 t0.Part]⟩), (2, ⟨0, true, 48, 6, [.int .i64 (0 : Int), .int .i64 (0 : Int), .int .i64 (0 : Int), .bool false, .int .i64 (0 : Int), .int .i64 (0 : Int)]⟩)] _
  refine OpsW.seg 0 [3, 2, 1] [] [(3, .ref 3 0 0), (2, .ref 2 0 0), (1, .ref 1 0 0)] (by kernel_rfl) trivial ?_
  refine OpsW.recast (env' := [(3, .ref 3 0 0), (2, .ref 2 0 0), (1, .ref 1 0 0)]) (h' := [(1, ⟨0, true, 46, 6, [.int .u8 t0.Width, .int .u16 t0.N, .int .u8 t0.K, .bool t0.Back, .int .u16 t0.Ink, .int .u8 t0.Part]⟩), (2, ⟨0, true, 48, 6, [.int .i64 (0 : Int), .int .i64 (0 : Int), .int .i64 (0 : Int), .bool false, .int .i64 (0 : Int), .int .i64 (0 : Int)]⟩), (3, ⟨0, true, 48, 6, [.int .i64 ((24 : Int) + (IntKind.wrap .i64 (Int.tmod t0.Width (37 : Int)))), .int .i64 ((1 : Int) + (Int.tmod (IntKind.wrap .i64 t0.N) (9999 : Int))), .int .i64 (IntKind.wrap .i64 (Int.tmod t0.K (3 : Int))), .bool t0.Back, .int .i64 (IntKind.wrap .i64 (Int.tmod t0.Ink (10000 : Int))), .int .i64 (0 : Int)]⟩)]) (StC.mk (phi [(1, some 1), (2, some 2), (3, some 3)]) (.old rfl rfl rfl rfl rfl (.cons .im (.cons .im (.cons .im (.cons .im (.cons .im (.cons .im .nil)))))) (.old rfl rfl rfl rfl rfl (.cons .im (.cons .im (.cons .im (.cons .im (.cons .im (.cons .im .nil)))))) (.old rfl rfl rfl rfl rfl (.cons .im (.cons .im (.cons .im (.cons .im (.cons .im (.cons .im .nil)))))) .nil))) rfl (.cons (.ref rfl rfl rfl rfl rfl) (.cons (.ref rfl rfl rfl rfl rfl) (.cons (.ref rfl rfl rfl rfl rfl) .nil)))) ?_
  refine OpsW.nil ?_
  refine AW.joinK (fun (y : S_Header × S_Header) => f_R19_Made_k1 y.1 y.2) r (fun (y : S_Header × S_Header) => [(2, .ref 2 0 0), (3, .ref 3 0 0)]) (fun (y : S_Header × S_Header) => [(2, ⟨0, true, 48, 6, [.int .i64 y.1.Width, .int .i64 y.1.Label.N, .int .i64 y.1.Label.K, .bool y.1.Back, .int .i64 y.1.Ink, .int .i64 y.1.Part]⟩), (3, ⟨0, true, 48, 6, [.int .i64 y.2.Width, .int .i64 y.2.Label.N, .int .i64 y.2.Label.K, .bool y.2.Back, .int .i64 y.2.Ink, .int .i64 y.2.Part]⟩)]) ?_ ?_
  · refine AW.regionSeq ?_
    refine OpsW.seg 3 [28, 3, 2, 1] [] [(28, .bool (decide ((0 : Int) < (IntKind.wrap .i64 (Int.tmod t0.Ink (10000 : Int)))))), (3, .ref 3 0 0), (2, .ref 2 0 0), (1, .ref 1 0 0)] (by kernel_rfl) trivial ?_
    refine OpsW.nil ?_
    refine AW.cond (b := decide ((0 : Int) < (IntKind.wrap .i64 (Int.tmod t0.Ink (10000 : Int))))) rfl (fun c5 => ?_) (fun c5 => ?_)
    · replace H := condT c5 H
      refine AW.region ?_
      refine OpsW.seg 5 [33, 32, 3, 2] [(27 : Int) ≠ 0] [(33, .ref 3 0 5), (32, .int .i64 (IntKind.wrap .i64 (Int.tmod t0.Part (27 : Int)))), (3, .ref 3 0 0), (2, .ref 2 0 0)] (by kernel_rfl) ⟨(by decide), trivial⟩ ?_
      refine OpsW.store rfl rfl rfl rfl trivial trivial rfl rfl rfl (by kernel_rfl) (okCb_sound (by kernel_rfl)) (Nat.le_of_ble_eq_true (by kernel_rfl)) ?_
      change OpsW _ _ _ _ _ [(3, ⟨0, true, 48, 6, [.int .i64 ((24 : Int) + (IntKind.wrap .i64 (Int.tmod t0.Width (37 : Int)))), .int .i64 ((1 : Int) + (Int.tmod (IntKind.wrap .i64 t0.N) (9999 : Int))), .int .i64 (IntKind.wrap .i64 (Int.tmod t0.K (3 : Int))), .bool t0.Back, .int .i64 (IntKind.wrap .i64 (Int.tmod t0.Ink (10000 : Int))), .int .i64 (IntKind.wrap .i64 (Int.tmod t0.Part (27 : Int)))]⟩), (1, ⟨0, true, 46, 6, [.int .u8 t0.Width, .int .u16 t0.N, .int .u8 t0.K, .bool t0.Back, .int .u16 t0.Ink, .int .u8 t0.Part]⟩), (2, ⟨0, true, 48, 6, [.int .i64 (0 : Int), .int .i64 (0 : Int), .int .i64 (0 : Int), .bool false, .int .i64 (0 : Int), .int .i64 (0 : Int)]⟩), (3, ⟨0, true, 48, 6, [.int .i64 ((24 : Int) + (IntKind.wrap .i64 (Int.tmod t0.Width (37 : Int)))), .int .i64 ((1 : Int) + (Int.tmod (IntKind.wrap .i64 t0.N) (9999 : Int))), .int .i64 (IntKind.wrap .i64 (Int.tmod t0.K (3 : Int))), .bool t0.Back, .int .i64 (IntKind.wrap .i64 (Int.tmod t0.Ink (10000 : Int))), .int .i64 (0 : Int)]⟩)] _
      refine OpsW.seg 0 [3, 2] [] [(3, .ref 3 0 0), (2, .ref 2 0 0)] (by kernel_rfl) trivial ?_
      refine OpsW.recast (env' := [(3, .ref 3 0 0), (2, .ref 2 0 0)]) (h' := [(2, ⟨0, true, 48, 6, [.int .i64 (0 : Int), .int .i64 (0 : Int), .int .i64 (0 : Int), .bool false, .int .i64 (0 : Int), .int .i64 (0 : Int)]⟩), (3, ⟨0, true, 48, 6, [.int .i64 ((24 : Int) + (IntKind.wrap .i64 (Int.tmod t0.Width (37 : Int)))), .int .i64 ((1 : Int) + (Int.tmod (IntKind.wrap .i64 t0.N) (9999 : Int))), .int .i64 (IntKind.wrap .i64 (Int.tmod t0.K (3 : Int))), .bool t0.Back, .int .i64 (IntKind.wrap .i64 (Int.tmod t0.Ink (10000 : Int))), .int .i64 (IntKind.wrap .i64 (Int.tmod t0.Part (27 : Int)))]⟩)]) (StC.mk (phi [(2, some 2), (3, some 3)]) (.old rfl rfl rfl rfl rfl (.cons .im (.cons .im (.cons .im (.cons .im (.cons .im (.cons .im .nil)))))) (.old rfl rfl rfl rfl rfl (.cons .im (.cons .im (.cons .im (.cons .im (.cons .im (.cons .im .nil)))))) .nil)) rfl (.cons (.ref rfl rfl rfl rfl rfl) (.cons (.ref rfl rfl rfl rfl rfl) .nil))) ?_
      refine OpsW.nil ?_
      show ∃ y, _ ∧ StC _ _ _ _
      exact ⟨((⟨(0 : Int), (⟨(0 : Int), (0 : Int)⟩ : S_Label), false, (0 : Int), (0 : Int)⟩ : S_Header), (⟨(24 : Int) + (IntKind.wrap .i64 (Int.tmod t0.Width (37 : Int))), (⟨(1 : Int) + (Int.tmod (IntKind.wrap .i64 t0.N) (9999 : Int)), IntKind.wrap .i64 (Int.tmod t0.K (3 : Int))⟩ : S_Label), t0.Back, IntKind.wrap .i64 (Int.tmod t0.Ink (10000 : Int)), IntKind.wrap .i64 (Int.tmod t0.Part (27 : Int))⟩ : S_Header)), H, (StC.mk (phi [(2, some 2), (3, some 3)]) (.old rfl rfl rfl rfl rfl (.cons .im (.cons .im (.cons .im (.cons .im (.cons .im (.cons .im .nil)))))) (.old rfl rfl rfl rfl rfl (.cons .im (.cons .im (.cons .im (.cons .im (.cons .im (.cons .im .nil)))))) .nil)) rfl (.cons (.ref rfl rfl rfl rfl rfl) (.cons (.ref rfl rfl rfl rfl rfl) .nil)))⟩
    · replace H := condF c5 H
      refine AW.skip ?_
      show ∃ y, _ ∧ StC _ _ _ _
      exact ⟨((⟨(0 : Int), (⟨(0 : Int), (0 : Int)⟩ : S_Label), false, (0 : Int), (0 : Int)⟩ : S_Header), (⟨(24 : Int) + (IntKind.wrap .i64 (Int.tmod t0.Width (37 : Int))), (⟨(1 : Int) + (Int.tmod (IntKind.wrap .i64 t0.N) (9999 : Int)), IntKind.wrap .i64 (Int.tmod t0.K (3 : Int))⟩ : S_Label), t0.Back, IntKind.wrap .i64 (Int.tmod t0.Ink (10000 : Int)), (0 : Int)⟩ : S_Header)), H, (StC.mk (phi [(2, some 2), (3, some 3)]) (.old rfl rfl rfl rfl rfl (.cons .im (.cons .im (.cons .im (.cons .im (.cons .im (.cons .im .nil)))))) (.old rfl rfl rfl rfl rfl (.cons .im (.cons .im (.cons .im (.cons .im (.cons .im (.cons .im .nil)))))) .nil)) rfl (.cons (.ref rfl rfl rfl rfl rfl) (.cons (.ref rfl rfl rfl rfl rfl) .nil)))⟩
  · rintro ⟨v3, v4⟩ H
    change f_R19_Made_k1 v3 v4 = some r at H
    unfold f_R19_Made_k1 at H
    change AW _ _ _ [(2, .ref 2 0 0), (3, .ref 3 0 0)] [(2, ⟨0, true, 48, 6, [.int .i64 v3.Width, .int .i64 v3.Label.N, .int .i64 v3.Label.K, .bool v3.Back, .int .i64 v3.Ink, .int .i64 v3.Part]⟩), (3, ⟨0, true, 48, 6, [.int .i64 v4.Width, .int .i64 v4.Label.N, .int .i64 v4.Label.K, .bool v4.Back, .int .i64 v4.Ink, .int .i64 v4.Part]⟩)] _
    refine AW.regionSeq ?_
    refine OpsW.seg 1 [34, 2] [] [(34, .agg [.int .i64 v4.Width, .int .i64 v4.Label.N, .int .i64 v4.Label.K, .bool v4.Back, .int .i64 v4.Ink, .int .i64 v4.Part]), (2, .ref 2 0 0)] (by kernel_rfl) trivial ?_
    refine OpsW.store rfl rfl rfl rfl trivial trivial rfl rfl rfl (by kernel_rfl) (okCb_sound (by kernel_rfl)) (Nat.le_of_ble_eq_true (by kernel_rfl)) ?_
    change OpsW _ _ _ _ _ [(2, ⟨0, true, 48, 6, [.int .i64 v4.Width, .int .i64 v4.Label.N, .int .i64 v4.Label.K, .bool v4.Back, .int .i64 v4.Ink, .int .i64 v4.Part]⟩), (2, ⟨0, true, 48, 6, [.int .i64 v3.Width, .int .i64 v3.Label.N, .int .i64 v3.Label.K, .bool v3.Back, .int .i64 v3.Ink, .int .i64 v3.Part]⟩), (3, ⟨0, true, 48, 6, [.int .i64 v4.Width, .int .i64 v4.Label.N, .int .i64 v4.Label.K, .bool v4.Back, .int .i64 v4.Ink, .int .i64 v4.Part]⟩)] _
    refine OpsW.seg 0 [2] [] [(2, .ref 2 0 0)] (by kernel_rfl) trivial ?_
    refine OpsW.recast (env' := [(2, .ref 2 0 0)]) (h' := [(2, ⟨0, true, 48, 6, [.int .i64 v4.Width, .int .i64 v4.Label.N, .int .i64 v4.Label.K, .bool v4.Back, .int .i64 v4.Ink, .int .i64 v4.Part]⟩)]) (StC.mk (phi [(2, some 2)]) (.old rfl rfl rfl rfl rfl (.cons .im (.cons .im (.cons .im (.cons .im (.cons .im (.cons .im .nil)))))) .nil) rfl (.cons (.ref rfl rfl rfl rfl rfl) .nil)) ?_
    refine OpsW.nil ?_
    obtain rfl := Option.some.inj H
    refine AW.recast (env' := [(2, .ref 2 0 0)]) (h' := [(2, ⟨0, true, 48, 6, [.int .i64 v4.Width, .int .i64 v4.Label.N, .int .i64 v4.Label.K, .bool v4.Back, .int .i64 v4.Ink, .int .i64 v4.Part]⟩)]) (StC.mk (phi [(2, some 2)]) (.old rfl rfl rfl rfl rfl (.cons .im (.cons .im (.cons .im (.cons .im (.cons .im (.cons .im .nil)))))) .nil) rfl (.cons (.ref rfl rfl rfl rfl rfl) .nil)) ?_
    refine AW.ret ?_
    try simp only [Ex.then, Ex.inBlock, Ex.noGoto, Ex.jump, reduceIte, Nat.reduceEqDiff, reduceCtorEq]
    refine Done.gen rfl (.cell rfl (by kernel_rfl) .nil) ?_
    show _ = _
    kernel_rfl
def f_R19_split_b1 (t0 : List Int) (v1 : Int) (loop7 : (Int) → Option ((List Int) × (List Int))) (v6 : Int) : Option ((List Int) × (List Int)) :=
  G ((decide ((0 : Int) < v6)) = true → inR (v6 - (1 : Int))) <|
  G ((decide ((0 : Int) < v6)) = true → (0 ≤ (v6 - (1 : Int)) ∧ (v6 - (1 : Int)) < (t0.length : Int))) <|
  cond (cond (decide ((0 : Int) < v6)) ((t0.getD (v6 - (1 : Int)).toNat (0 : Int)) != (0 : Int)) false) (
    G (inR (v6 - (1 : Int))) <|
    loop7 (v6 - (1 : Int))) (
    G (0 ≤ v1 ∧ v1 ≤ (t0.length : Int)) <|
    G (0 ≤ v6 ∧ v6 ≤ (t0.length : Int)) <|
    some (t0.take v1.toNat, t0.drop v6.toNat))
def f_R19_split_b2 (t0 : List Int) (loop2 : (Int) → Option ((List Int) × (List Int))) (v1 : Int) : Option ((List Int) × (List Int)) :=
  G ((decide (v1 < (t0.length : Int))) = true → (0 ≤ v1 ∧ v1 < (t0.length : Int))) <|
  cond (cond (decide (v1 < (t0.length : Int))) ((t0.getD v1.toNat (0 : Int)) != (0 : Int)) false) (
    G (inR (v1 + (1 : Int))) <|
    loop2 (v1 + (1 : Int))) (
    iter (fun loop (s : Int) => f_R19_split_b1 t0 v1 loop s) 1000000 (t0.length : Int))
def f_R19_split (t0 : List Int) : Option ((List Int) × (List Int)) :=
  iter (fun loop (s : Int) => f_R19_split_b2 t0 loop s) 1000000 (0 : Int)
theorem f_R19_split_ok {t0 : List Int} {r : (List Int) × (List Int)} (H : f_R19_split t0 = some r) : QSpec Tryd.prog 33 [slA (eI .u8) t0] (.tup [slA (eI .u8) r.1, slA (eI .u8) r.2]) := by
  refine Spec.of_AW Tryd.func33 rfl (by simp [Tryd.ntmps33]) ?_
  rw [Tryd.ntmps33]
  unfold f_R19_split at H
  change AW _ _ _ [(0, slA (eI .u8) t0)] [] _
  refine AW.regionSeq ?_
  refine OpsW.seg 2 [0] [] [(0, slA (eI .u8) t0)] (by kernel_rfl) trivial ?_
  refine OpsW.nil ?_
  refine AW.regionSeq ?_
  refine OpsW.seg 1 [4, 0] [] [(4, .int .i64 (0 : Int)), (0, slA (eI .u8) t0)] (by kernel_rfl) trivial ?_
  refine OpsW.nil ?_
  refine AW.seq ?_
  refine AW.block ?_
  refine AW.iterK (fun loop (s : Int) => f_R19_split_b2 t0 loop s) r (fun (s : Int) => [(0, slA (eI .u8) t0), (4, .int .i64 s)]) (fun (s : Int) => []) ?_ 1000000 (0 : Int) H (StC.pure (.cons .im (.cons .im .nil)))
  intro loop2 v1 H
  change f_R19_split_b2 t0 loop2 v1 = some r at H
  unfold f_R19_split_b2 at H
  change AW _ _ _ [(0, slA (eI .u8) t0), (4, .int .i64 v1)] [] _
  refine AW.seq ?_
  refine AW.regionSeq ?_
  obtain ⟨g3, H⟩ := G_some H
  refine OpsW.seg 8 [13, 10, 0, 4] [(decide (v1 < (t0.length : Int))) = true → (decide (v1 < (t0.length : Int))) = true, (decide (v1 < (t0.length : Int))) = true → (decide (v1 < (t0.length : Int))) = true, (decide (v1 < (t0.length : Int))) = true → (0 ≤ v1 ∧ v1 < (t0.length : Int))] [(13, .cnd (decide (v1 < (t0.length : Int))) (.ipt (t0.flatMap (eI .u8)) (v1.toNat * 1))), (10, .bool (decide (v1 < (t0.length : Int)))), (0, slA (eI .u8) t0), (4, .int .i64 v1)] (by kernel_rfl) ⟨(fun h => h), (fun h => h), g3, trivial⟩ ?_
  refine OpsW.asG (c := decide (v1 < (t0.length : Int))) (.int .u8 (t0.getD v1.toNat (0 : Int))) rfl rfl rfl rfl (fun hc => T.load rfl hc (by kernel_rfl) (fm_cell0 (eI .u8) 1 (fun _ => rfl) t0 (0 : Int) v1.toNat (ltN (g3 hc)) (fun a => .val (.int .u8 a)) (fun _ => rfl))) ?_
  refine OpsW.seg 2 [16, 0, 4] [(decide (v1 < (t0.length : Int))) = true → (decide (v1 < (t0.length : Int))) = true, (decide (v1 < (t0.length : Int))) = true → (decide (v1 < (t0.length : Int))) = true] [(16, .bool (cond (decide (v1 < (t0.length : Int))) ((t0.getD v1.toNat (0 : Int)) != (0 : Int)) false)), (0, slA (eI .u8) t0), (4, .int .i64 v1)] (by kernel_rfl) ⟨(fun h => h), (fun h => by first | exact h | simpa using h), trivial⟩ ?_
  refine OpsW.nil ?_
  refine AW.cond (b := cond (decide (v1 < (t0.length : Int))) ((t0.getD v1.toNat (0 : Int)) != (0 : Int)) false) rfl (fun c4 => ?_) (fun c4 => ?_)
  · replace H := condT c4 H
    refine AW.skip ?_
    refine AW.block ?_
    refine AW.region ?_
    obtain ⟨g5, H⟩ := G_some H
    refine OpsW.seg 3 [4, 0] [inR (v1 + (1 : Int))] [(4, .int .i64 (v1 + (1 : Int))), (0, slA (eI .u8) t0)] (by kernel_rfl) ⟨g5, trivial⟩ ?_
    refine OpsW.nil ?_
    show ∃ y, _ ∧ StC _ _ _ _
    exact ⟨v1 + (1 : Int), H, (StC.pure (.cons .im (.cons .im .nil)))⟩
  · replace H := condF c4 H
    refine AW.exit ?_
    refine AW.regionSeq ?_
    refine OpsW.seg 3 [5, 0, 4] [] [(5, .int .i64 (t0.length : Int)), (0, slA (eI .u8) t0), (4, .int .i64 v1)] (by kernel_rfl) trivial ?_
    refine OpsW.nil ?_
    refine AW.seq ?_
    refine AW.block ?_
    refine AW.iterK (fun loop (s : Int) => f_R19_split_b1 t0 v1 loop s) r (fun (s : Int) => [(0, slA (eI .u8) t0), (4, .int .i64 v1), (5, .int .i64 s)]) (fun (s : Int) => []) ?_ 1000000 (t0.length : Int) H (StC.pure (.cons .im (.cons .im (.cons .im .nil))))
    intro loop7 v6 H
    change f_R19_split_b1 t0 v1 loop7 v6 = some r at H
    unfold f_R19_split_b1 at H
    change AW _ _ _ [(0, slA (eI .u8) t0), (4, .int .i64 v1), (5, .int .i64 v6)] [] _
    refine AW.seq ?_
    refine AW.regionSeq ?_
    obtain ⟨g8, H⟩ := G_some H
    obtain ⟨g9, H⟩ := G_some H
    refine OpsW.seg 7 [27, 23, 0, 4, 5] [(decide ((0 : Int) < v6)) = true → (decide ((0 : Int) < v6)) = true, (decide ((0 : Int) < v6)) = true → inR (v6 - (1 : Int)), (decide ((0 : Int) < v6)) = true → (decide ((0 : Int) < v6)) = true, (decide ((0 : Int) < v6)) = true → (decide ((0 : Int) < v6)) = true, (decide ((0 : Int) < v6)) = true → (0 ≤ (v6 - (1 : Int)) ∧ (v6 - (1 : Int)) < (t0.length : Int))] [(27, .cnd (decide ((0 : Int) < v6)) (.ipt (t0.flatMap (eI .u8)) ((v6 - (1 : Int)).toNat * 1))), (23, .bool (decide ((0 : Int) < v6))), (0, slA (eI .u8) t0), (4, .int .i64 v1), (5, .int .i64 v6)] (by kernel_rfl) ⟨(fun h => h), g8, (fun h => h), (fun h => h), g9, trivial⟩ ?_
    refine OpsW.asG (c := decide ((0 : Int) < v6)) (.int .u8 (t0.getD (v6 - (1 : Int)).toNat (0 : Int))) rfl rfl rfl rfl (fun hc => T.load rfl hc (by kernel_rfl) (fm_cell0 (eI .u8) 1 (fun _ => rfl) t0 (0 : Int) (v6 - (1 : Int)).toNat (ltN (g9 hc)) (fun a => .val (.int .u8 a)) (fun _ => rfl))) ?_
    refine OpsW.seg 2 [30, 0, 4, 5] [(decide ((0 : Int) < v6)) = true → (decide ((0 : Int) < v6)) = true, (decide ((0 : Int) < v6)) = true → (decide ((0 : Int) < v6)) = true] [(30, .bool (cond (decide ((0 : Int) < v6)) ((t0.getD (v6 - (1 : Int)).toNat (0 : Int)) != (0 : Int)) false)), (0, slA (eI .u8) t0), (4, .int .i64 v1), (5, .int .i64 v6)] (by kernel_rfl) ⟨(fun h => h), (fun h => by first | exact h | simpa using h), trivial⟩ ?_
    refine OpsW.nil ?_
    refine AW.cond (b := cond (decide ((0 : Int) < v6)) ((t0.getD (v6 - (1 : Int)).toNat (0 : Int)) != (0 : Int)) false) rfl (fun c10 => ?_) (fun c10 => ?_)
    · replace H := condT c10 H
      refine AW.skip ?_
      refine AW.block ?_
      refine AW.region ?_
      obtain ⟨g11, H⟩ := G_some H
      refine OpsW.seg 3 [5, 0, 4] [inR (v6 - (1 : Int))] [(5, .int .i64 (v6 - (1 : Int))), (0, slA (eI .u8) t0), (4, .int .i64 v1)] (by kernel_rfl) ⟨g11, trivial⟩ ?_
      refine OpsW.nil ?_
      show ∃ y, _ ∧ StC _ _ _ _
      exact ⟨v6 - (1 : Int), H, (StC.pure (.cons .im (.cons .im (.cons .im .nil))))⟩
    · replace H := condF c10 H
      refine AW.exit ?_
      refine AW.drawSeq Tryd.checked.mixed (by kernel_rfl) ?_
      refine QOps.seg (N := 39) 2 [] [(34, .int .i64 v1), (33, slA (eI .u8) t0), (30, .bool (cond (decide ((0 : Int) < v6)) ((t0.getD (v6 - (1 : Int)).toNat (0 : Int)) != (0 : Int)) false)), (0, slA (eI .u8) t0), (4, .int .i64 v1), (5, .int .i64 v6)] (by kernel_rfl) trivial ?_
      obtain ⟨g12, H⟩ := G_some H
      refine QOps.asU (slA (eI .u8) (t0.take v1.toNat)) rfl (T.slice' rfl trivial trivial trivial (by kernel_rfl) (by kernel_rfl) g12 trivial (sl_hi (eI .u8) 1 (fun _ => rfl) t0 v1 g12)) ?_
      refine QOps.seg (N := 39) 2 [] [(37, .int .i64 v6), (36, slA (eI .u8) t0), (35, slA (eI .u8) (t0.take v1.toNat)), (34, .int .i64 v1), (33, slA (eI .u8) t0), (30, .bool (cond (decide ((0 : Int) < v6)) ((t0.getD (v6 - (1 : Int)).toNat (0 : Int)) != (0 : Int)) false)), (0, slA (eI .u8) t0), (4, .int .i64 v1), (5, .int .i64 v6)] (by kernel_rfl) trivial ?_
      obtain ⟨g13, H⟩ := G_some H
      refine QOps.asU (slA (eI .u8) (t0.drop v6.toNat)) rfl (T.slice' rfl trivial trivial trivial (by kernel_rfl) (by kernel_rfl) trivial g13 (sl_lo (eI .u8) 1 (fun _ => rfl) t0 v6 g13)) ?_
      refine QOps.seg (N := 39) 2 [] [(3, slA (eI .u8) (t0.drop v6.toNat)), (2, slA (eI .u8) (t0.take v1.toNat)), (38, slA (eI .u8) (t0.drop v6.toNat)), (37, .int .i64 v6), (36, slA (eI .u8) t0), (35, slA (eI .u8) (t0.take v1.toNat)), (34, .int .i64 v1), (33, slA (eI .u8) t0), (30, .bool (cond (decide ((0 : Int) < v6)) ((t0.getD (v6 - (1 : Int)).toNat (0 : Int)) != (0 : Int)) false)), (0, slA (eI .u8) t0), (4, .int .i64 v1), (5, .int .i64 v6)] (by kernel_rfl) trivial ?_
      refine QOps.nil ?_
      refine AW.trim [3, 2] [(3, slA (eI .u8) (t0.drop v6.toNat)), (2, slA (eI .u8) (t0.take v1.toNat))] (by kernel_rfl) ?_
      obtain rfl := Option.some.inj H
      refine AW.recast (env' := [(2, slA (eI .u8) (t0.take v1.toNat)), (3, slA (eI .u8) (t0.drop v6.toNat))]) (h' := []) (StC.pure (.cons .im (.cons .im .nil))) ?_
      refine AW.ret ?_
      try simp only [Ex.then, Ex.inBlock, Ex.noGoto, Ex.jump, reduceIte, Nat.reduceEqDiff, reduceCtorEq]
      refine Done.gen rfl (.tmp (.tmp .nil)) ?_
      show _ = _
      kernel_rfl
def f_R19_Header_b1 (x2 : (List Int) × Int) (loop9 : (S_Header × (List Int)) → Option ((List Int) × Int)) (v7 : S_Header) (v8 : List Int) : Option ((List Int) × Int) :=
  G (inR (v7.Width - (x2.1.length : Int))) <|
  cond (decide ((v8.length : Int) < (v7.Width - (x2.1.length : Int)))) (
    G (room 1 (v8.length + 1)) <|
    loop9 (v7, v8 ++ [(0 : Int)])) (
    G (room 1 (v8.length + x2.1.length)) <|
    some (v8 ++ x2.1, (0 : Int)))
def f_R19_Header_k1 (t0 : S_Header) (x2 : (List Int) × Int) (v3 : List Int) (v4 : Int) : Option ((List Int) × Int) :=
  cond (cond (x2.2 != (0 : Int)) true (v4 != (0 : Int))) (
    some ([], (190 : Int))) (
    G (room 1 (([] : List Int).length + v3.length)) <|
    iter (fun loop (s : S_Header × (List Int)) => f_R19_Header_b1 x2 loop s.1 s.2) 1000000 (t0, ([] : List Int) ++ v3))
def f_R19_Header (t0 : S_Header) : Option ((List Int) × Int) :=
  cond (cond (decide (t0.Width < (24 : Int))) true (decide ((60 : Int) < t0.Width))) (
    some ([], (1 : Int))) (
    (f_R19_Page t0.Label t0.Back).bind fun x2 =>
    cond (cond (t0.Ink != (0 : Int)) true (t0.Part != (0 : Int))) (
      (f_R19_Ink t0.Ink t0.Part).bind fun x15 =>
      f_R19_Header_k1 t0 x2 x15.1 x15.2) (
      f_R19_Header_k1 t0 x2 ([] : List Int) (0 : Int)))
theorem f_R19_Header_own {t0 : S_Header} {r : (List Int) × Int} (H : f_R19_Header t0 = some r) : Abs.Spec Tryd.prog 23 [.agg [.int .i64 t0.Width, .int .i64 t0.Label.N, .int .i64 t0.Label.K, .bool t0.Back, .int .i64 t0.Ink, .int .i64 t0.Part]] [] (fun x h => x = .tup [.rsl 1000 0 0 r.1.length, .int .i64 r.2] ∧ h = [(1000, rtA 0 42 1 (eI .u8) r.1)]) := by
  refine Spec.of_AW Tryd.func23 rfl (by simp [Tryd.ntmps23]) ?_
  rw [Tryd.ntmps23]
  unfold f_R19_Header at H
  change AW _ _ _ [(0, .agg [.int .i64 t0.Width, .int .i64 t0.Label.N, .int .i64 t0.Label.K, .bool t0.Back, .int .i64 t0.Ink, .int .i64 t0.Part])] [] _
  refine AW.regionSeq ?_
  refine OpsW.box rfl rfl rfl 1 rfl (okCb_sound (by kernel_rfl)) ?_
  change OpsW _ _ _ _ _ [(1, ⟨0, true, 48, 6, [.int .i64 t0.Width, .int .i64 t0.Label.N, .int .i64 t0.Label.K, .bool t0.Back, .int .i64 t0.Ink, .int .i64 t0.Part]⟩)] _
  refine OpsW.seg 2 [1] [] [(1, .ref 1 0 0)] (by kernel_rfl) trivial ?_
  refine OpsW.recast (env' := [(1, .ref 1 0 0)]) (h' := [(1, ⟨0, true, 48, 6, [.int .i64 t0.Width, .int .i64 t0.Label.N, .int .i64 t0.Label.K, .bool t0.Back, .int .i64 t0.Ink, .int .i64 t0.Part]⟩)]) (StC.mk (phi [(1, some 1)]) (.old rfl rfl rfl rfl rfl (.cons .im (.cons .im (.cons .im (.cons .im (.cons .im (.cons .im .nil)))))) .nil) rfl (.cons (.ref rfl rfl rfl rfl rfl) .nil)) ?_
  refine OpsW.nil ?_
  refine AW.seq ?_
  refine AW.regionSeq ?_
  refine OpsW.seg 8 [16, 1] [(!(decide (t0.Width < (24 : Int)))) = true → (!(decide (t0.Width < (24 : Int)))) = true, (!(decide (t0.Width < (24 : Int)))) = true → (!(decide (t0.Width < (24 : Int)))) = true, (decide (t0.Width < (24 : Int))) = false → (!(decide (t0.Width < (24 : Int)))) = true] [(16, .bool (cond (decide (t0.Width < (24 : Int))) true (decide ((60 : Int) < t0.Width)))), (1, .ref 1 0 0)] (by kernel_rfl) ⟨(fun h => h), (fun h => h), (fun h => by first | exact h | simpa using h), trivial⟩ ?_
  refine OpsW.nil ?_
  refine AW.cond (b := cond (decide (t0.Width < (24 : Int))) true (decide ((60 : Int) < t0.Width))) rfl (fun c1 => ?_) (fun c1 => ?_)
  · replace H := condT c1 H
    refine AW.regionSeq ?_
    refine OpsW.seg 2 [3, 2] [] [(3, .int .i64 (1 : Int)), (2, .im (.val (.slice none 0 0)))] (by kernel_rfl) trivial ?_
    refine OpsW.nil ?_
    obtain rfl := Option.some.inj H
    refine AW.recast (env' := [(2, .rsl 1000 0 0 0), (3, .int .i64 (1 : Int))]) (h' := [(1000, rtA 0 42 1 (eI .u8) ([] : List Int))]) (StC.mk (phi [(1000, none)]) (.new rfl .nil) rfl (.cons (.nilr rfl rfl rfl) (.cons .im .nil))) ?_
    refine AW.ret ?_
    try simp only [Ex.then, Ex.inBlock, Ex.noGoto, Ex.jump, reduceIte, Nat.reduceEqDiff, reduceCtorEq]
    refine Done.gen rfl (.tmp (.tmp .nil)) ?_
    exact ⟨by kernel_rfl, rfl⟩
  · replace H := condF c1 H
    refine AW.skip ?_
    refine AW.regionSeq ?_
    refine OpsW.seg 4 [21, 19, 1] [] [(21, .bool t0.Back), (19, .agg [.int .i64 t0.Label.N, .int .i64 t0.Label.K]), (1, .ref 1 0 0)] (by kernel_rfl) trivial ?_
    obtain ⟨x2, hx2, H⟩ := bindS H
    refine OpsW.qcall rfl (by kernel_rfl) rfl rfl (glAll_sound trivial) (.cons (.pur rfl) (.cons (.pur rfl) .nil)) (f_R19_Page_ok hx2) rfl ?_
    refine OpsW.seg 5 [5, 4, 1] [] [(5, .int .i64 x2.2), (4, slA (eI .u8) x2.1), (1, .ref 1 0 0)] (by kernel_rfl) trivial ?_
    refine OpsW.nil ?_
    refine AW.regionSeq ?_
    refine OpsW.buildTI (enc := eI .u8) ([] : List Int) rfl rfl rfl E26 (fun _ => rfl) (by decide) ⟨trivial, by kernel_rfl, by kernel_rfl, by kernel_rfl, rfl⟩ ?_
    refine OpsW.seg 1 [6, 5, 4, 1] [] [(6, slA (eI .u8) ([] : List Int)), (5, .int .i64 x2.2), (4, slA (eI .u8) x2.1), (1, .ref 1 0 0)] (by kernel_rfl) trivial ?_
    refine OpsW.nil ?_
    refine AW.regionSeq ?_
    refine OpsW.seg 1 [7, 6, 5, 4, 1] [] [(7, .int .i64 (0 : Int)), (6, slA (eI .u8) ([] : List Int)), (5, .int .i64 x2.2), (4, slA (eI .u8) x2.1), (1, .ref 1 0 0)] (by kernel_rfl) trivial ?_
    refine OpsW.nil ?_
    refine AW.joinK (fun (y : (List Int) × Int) => f_R19_Header_k1 t0 x2 y.1 y.2) r (fun (y : (List Int) × Int) => [(1, .ref 1 0 0), (4, slA (eI .u8) x2.1), (5, .int .i64 x2.2), (6, slA (eI .u8) y.1), (7, .int .i64 y.2)]) (fun (y : (List Int) × Int) => [(1, ⟨0, true, 48, 6, [.int .i64 t0.Width, .int .i64 t0.Label.N, .int .i64 t0.Label.K, .bool t0.Back, .int .i64 t0.Ink, .int .i64 t0.Part]⟩)]) ?_ ?_
    · refine AW.regionSeq ?_
      refine OpsW.seg 8 [33, 7, 6, 5, 4, 1] [(!(t0.Ink != (0 : Int))) = true → (!(t0.Ink != (0 : Int))) = true, (!(t0.Ink != (0 : Int))) = true → (!(t0.Ink != (0 : Int))) = true, (t0.Ink != (0 : Int)) = false → (!(t0.Ink != (0 : Int))) = true] [(33, .bool (cond (t0.Ink != (0 : Int)) true (t0.Part != (0 : Int)))), (7, .int .i64 (0 : Int)), (6, slA (eI .u8) ([] : List Int)), (5, .int .i64 x2.2), (4, slA (eI .u8) x2.1), (1, .ref 1 0 0)] (by kernel_rfl) ⟨(fun h => h), (fun h => h), (fun h => by first | exact h | simpa using h), trivial⟩ ?_
      refine OpsW.nil ?_
      refine AW.cond (b := cond (t0.Ink != (0 : Int)) true (t0.Part != (0 : Int))) rfl (fun c14 => ?_) (fun c14 => ?_)
      · replace H := condT c14 H
        refine AW.region ?_
        refine OpsW.seg 4 [38, 36, 7, 6, 5, 4, 1] [] [(38, .int .i64 t0.Part), (36, .int .i64 t0.Ink), (7, .int .i64 (0 : Int)), (6, slA (eI .u8) ([] : List Int)), (5, .int .i64 x2.2), (4, slA (eI .u8) x2.1), (1, .ref 1 0 0)] (by kernel_rfl) trivial ?_
        obtain ⟨x15, hx15, H⟩ := bindS H
        refine OpsW.qcall rfl (by kernel_rfl) rfl rfl (glAll_sound trivial) (.cons (.pur rfl) (.cons (.pur rfl) .nil)) (f_R19_Ink_ok hx15) rfl ?_
        refine OpsW.seg 5 [7, 6, 5, 4, 1] [] [(7, .int .i64 x15.2), (6, slA (eI .u8) x15.1), (5, .int .i64 x2.2), (4, slA (eI .u8) x2.1), (1, .ref 1 0 0)] (by kernel_rfl) trivial ?_
        refine OpsW.nil ?_
        show ∃ y, _ ∧ StC _ _ _ _
        exact ⟨(x15.1, x15.2), H, (StC.mk (phi [(1, some 1)]) (.old rfl rfl rfl rfl rfl (.cons .im (.cons .im (.cons .im (.cons .im (.cons .im (.cons .im .nil)))))) .nil) rfl (.cons (.ref rfl rfl rfl rfl rfl) (.cons .im (.cons .im (.cons .im (.cons .im .nil))))))⟩
      · replace H := condF c14 H
        refine AW.skip ?_
        show ∃ y, _ ∧ StC _ _ _ _
        exact ⟨(([] : List Int), (0 : Int)), H, (StC.mk (phi [(1, some 1)]) (.old rfl rfl rfl rfl rfl (.cons .im (.cons .im (.cons .im (.cons .im (.cons .im (.cons .im .nil)))))) .nil) rfl (.cons (.ref rfl rfl rfl rfl rfl) (.cons .im (.cons .im (.cons .im (.cons .im .nil))))))⟩
    · rintro ⟨v3, v4⟩ H
      change f_R19_Header_k1 t0 x2 v3 v4 = some r at H
      unfold f_R19_Header_k1 at H
      change AW _ _ _ [(1, .ref 1 0 0), (4, slA (eI .u8) x2.1), (5, .int .i64 x2.2), (6, slA (eI .u8) v3), (7, .int .i64 v4)] [(1, ⟨0, true, 48, 6, [.int .i64 t0.Width, .int .i64 t0.Label.N, .int .i64 t0.Label.K, .bool t0.Back, .int .i64 t0.Ink, .int .i64 t0.Part]⟩)] _
      refine AW.seq ?_
      refine AW.regionSeq ?_
      refine OpsW.seg 6 [47, 1, 4, 6] [(!(x2.2 != (0 : Int))) = true → (!(x2.2 != (0 : Int))) = true, (x2.2 != (0 : Int)) = false → (!(x2.2 != (0 : Int))) = true] [(47, .bool (cond (x2.2 != (0 : Int)) true (v4 != (0 : Int)))), (1, .ref 1 0 0), (4, slA (eI .u8) x2.1), (6, slA (eI .u8) v3)] (by kernel_rfl) ⟨(fun h => h), (fun h => by first | exact h | simpa using h), trivial⟩ ?_
      refine OpsW.nil ?_
      refine AW.cond (b := cond (x2.2 != (0 : Int)) true (v4 != (0 : Int))) rfl (fun c5 => ?_) (fun c5 => ?_)
      · replace H := condT c5 H
        refine AW.regionSeq ?_
        refine OpsW.seg 2 [3, 2] [] [(3, .int .i64 (190 : Int)), (2, .im (.val (.slice none 0 0)))] (by kernel_rfl) trivial ?_
        refine OpsW.nil ?_
        obtain rfl := Option.some.inj H
        refine AW.recast (env' := [(2, .rsl 1000 0 0 0), (3, .int .i64 (190 : Int))]) (h' := [(1000, rtA 0 42 1 (eI .u8) ([] : List Int))]) (StC.mk (phi [(1000, none)]) (.new rfl .nil) rfl (.cons (.nilr rfl rfl rfl) (.cons .im .nil))) ?_
        refine AW.ret ?_
        try simp only [Ex.then, Ex.inBlock, Ex.noGoto, Ex.jump, reduceIte, Nat.reduceEqDiff, reduceCtorEq]
        refine Done.gen rfl (.tmp (.tmp .nil)) ?_
        exact ⟨by kernel_rfl, rfl⟩
      · replace H := condF c5 H
        refine AW.skip ?_
        refine AW.regionSeq ?_
        refine OpsW.buildT (enc := eI .u8) ([] : List Int) rfl rfl rfl 48 rfl E26 (fun _ => rfl) (by decide) trivial (by kernel_rfl) (by kernel_rfl) (by kernel_rfl) rfl ?_
        refine OpsW.seg 1 [49, 48, 1, 4] [] [(49, slA (eI .u8) v3), (48, .rsl 48 0 0 (([] : List Int).length)), (1, .ref 1 0 0), (4, slA (eI .u8) x2.1)] (by kernel_rfl) trivial ?_
        obtain ⟨g6, H⟩ := G_some H
        refine OpsW.appendF (enc := eI .u8) (ys := v3) rfl rfl rfl E26 (fun _ => rfl) rfl rfl trivial (SrcA.typed (enc := eI .u8) (fun _ => rfl) (by kernel_rfl) v3) rfl g6 ?_
        refine OpsW.seg 1 [8, 1, 4] [] [(8, .rsl 48 1 0 ((([] : List Int) ++ v3).length)), (1, .ref 1 0 0), (4, slA (eI .u8) x2.1)] (by kernel_rfl) trivial ?_
        refine OpsW.recast (env' := [(8, .rsl 8 0 0 ((([] : List Int) ++ v3).length)), (1, .ref 1 0 0), (4, slA (eI .u8) x2.1)]) (h' := [(1, ⟨0, true, 48, 6, [.int .i64 t0.Width, .int .i64 t0.Label.N, .int .i64 t0.Label.K, .bool t0.Back, .int .i64 t0.Ink, .int .i64 t0.Part]⟩), (8, rtA 0 42 1 (eI .u8) (([] : List Int) ++ v3))]) (StC.mk (phi [(1, some 1), (8, some 48)]) (.old rfl rfl rfl rfl rfl (.cons .im (.cons .im (.cons .im (.cons .im (.cons .im (.cons .im .nil)))))) (.old rfl rfl rfl rfl rfl (CstL.ims _) .nil)) rfl (.cons (.rsl rfl rfl rfl rfl rfl rfl) (.cons (.ref rfl rfl rfl rfl rfl) (.cons .im .nil)))) ?_
        refine OpsW.nil ?_
        refine AW.seq ?_
        refine AW.block ?_
        refine AW.iterK (fun loop (s : S_Header × (List Int)) => f_R19_Header_b1 x2 loop s.1 s.2) r (fun (s : S_Header × (List Int)) => [(1, .ref 1 0 0), (4, slA (eI .u8) x2.1), (8, .rsl 8 0 0 s.2.length)]) (fun (s : S_Header × (List Int)) => [(1, ⟨0, true, 48, 6, [.int .i64 s.1.Width, .int .i64 s.1.Label.N, .int .i64 s.1.Label.K, .bool s.1.Back, .int .i64 s.1.Ink, .int .i64 s.1.Part]⟩), (8, rtA 0 42 1 (eI .u8) s.2)]) ?_ 1000000 (t0, ([] : List Int) ++ v3) H (StC.mk (phi [(1, some 1), (8, some 8)]) (.old rfl rfl rfl rfl rfl (.cons .im (.cons .im (.cons .im (.cons .im (.cons .im (.cons .im .nil)))))) (.old rfl rfl rfl rfl rfl (CstL.ims _) .nil)) rfl (.cons (.ref rfl rfl rfl rfl rfl) (.cons .im (.cons (.rsl rfl rfl rfl rfl rfl rfl) .nil))))
        intro loop9 s H
        obtain ⟨v7, v8⟩ := s
        change f_R19_Header_b1 x2 loop9 v7 v8 = some r at H
        unfold f_R19_Header_b1 at H
        change AW _ _ _ [(1, .ref 1 0 0), (4, slA (eI .u8) x2.1), (8, .rsl 8 0 0 v8.length)] [(1, ⟨0, true, 48, 6, [.int .i64 v7.Width, .int .i64 v7.Label.N, .int .i64 v7.Label.K, .bool v7.Back, .int .i64 v7.Ink, .int .i64 v7.Part]⟩), (8, rtA 0 42 1 (eI .u8) v8)] _
        refine AW.seq ?_
        refine AW.regionSeq ?_
        obtain ⟨g10, H⟩ := G_some H
        refine OpsW.seg 8 [58, 1, 4, 8] [inR (v7.Width - (x2.1.length : Int))] [(58, .bool (decide ((v8.length : Int) < (v7.Width - (x2.1.length : Int))))), (1, .ref 1 0 0), (4, slA (eI .u8) x2.1), (8, .rsl 8 0 0 v8.length)] (by kernel_rfl) ⟨g10, trivial⟩ ?_
        refine OpsW.nil ?_
        refine AW.cond (b := decide ((v8.length : Int) < (v7.Width - (x2.1.length : Int)))) rfl (fun c11 => ?_) (fun c11 => ?_)
        · replace H := condT c11 H
          refine AW.skip ?_
          refine AW.block ?_
          refine AW.region ?_
          refine OpsW.seg 1 [59, 1, 4, 8] [] [(59, .rsl 8 0 0 v8.length), (1, .ref 1 0 0), (4, slA (eI .u8) x2.1), (8, .rsl 8 0 0 v8.length)] (by kernel_rfl) trivial ?_
          obtain ⟨g12, H⟩ := G_some H
          refine OpsW.appendLF (enc := eI .u8) [(0 : Int)] rfl rfl rfl (by decide) rfl rfl rfl (by simp) E26 (fun _ => rfl) (by decide) trivial (by kernel_rfl) (by kernel_rfl) (by kernel_rfl) rfl rfl rfl g12 ?_
          refine OpsW.seg 1 [8, 1, 4] [] [(8, .rsl 8 1 0 ((v8 ++ [(0 : Int)]).length)), (1, .ref 1 0 0), (4, slA (eI .u8) x2.1)] (by kernel_rfl) trivial ?_
          refine OpsW.recast (env' := [(8, .rsl 8 0 0 ((v8 ++ [(0 : Int)]).length)), (1, .ref 1 0 0), (4, slA (eI .u8) x2.1)]) (h' := [(1, ⟨0, true, 48, 6, [.int .i64 v7.Width, .int .i64 v7.Label.N, .int .i64 v7.Label.K, .bool v7.Back, .int .i64 v7.Ink, .int .i64 v7.Part]⟩), (8, rtA 0 42 1 (eI .u8) (v8 ++ [(0 : Int)]))]) (StC.mk (phi [(1, some 1), (8, some 8)]) (.old rfl rfl rfl rfl rfl (.cons .im (.cons .im (.cons .im (.cons .im (.cons .im (.cons .im .nil)))))) (.old rfl rfl rfl rfl rfl (CstL.ims _) .nil)) rfl (.cons (.rsl rfl rfl rfl rfl rfl rfl) (.cons (.ref rfl rfl rfl rfl rfl) (.cons .im .nil)))) ?_
          refine OpsW.nil ?_
          show ∃ y, _ ∧ StC _ _ _ _
          exact ⟨(v7, v8 ++ [(0 : Int)]), H, (StC.mk (phi [(1, some 1), (8, some 8)]) (.old rfl rfl rfl rfl rfl (.cons .im (.cons .im (.cons .im (.cons .im (.cons .im (.cons .im .nil)))))) (.old rfl rfl rfl rfl rfl (CstL.ims _) .nil)) rfl (.cons (.ref rfl rfl rfl rfl rfl) (.cons .im (.cons (.rsl rfl rfl rfl rfl rfl rfl) .nil))))⟩
        · replace H := condF c11 H
          refine AW.exit ?_
          refine AW.regionSeq ?_
          refine OpsW.seg 2 [63, 62] [] [(63, slA (eI .u8) x2.1), (62, .rsl 8 0 0 v8.length)] (by kernel_rfl) trivial ?_
          obtain ⟨g13, H⟩ := G_some H
          refine OpsW.appendF (enc := eI .u8) (ys := x2.1) rfl rfl rfl E26 (fun _ => rfl) rfl rfl trivial (SrcA.typed (enc := eI .u8) (fun _ => rfl) (by kernel_rfl) x2.1) rfl g13 ?_
          refine OpsW.seg 2 [3, 2] [] [(3, .int .i64 (0 : Int)), (2, .rsl 8 1 0 ((v8 ++ x2.1).length))] (by kernel_rfl) trivial ?_
          refine OpsW.recast (env' := [(3, .int .i64 (0 : Int)), (2, .rsl 2 0 0 ((v8 ++ x2.1).length))]) (h' := [(2, rtA 0 42 1 (eI .u8) (v8 ++ x2.1))]) (StC.mk (phi [(2, some 8)]) (.old rfl rfl rfl rfl rfl (CstL.ims _) .nil) rfl (.cons .im (.cons (.rsl rfl rfl rfl rfl rfl rfl) .nil))) ?_
          refine OpsW.nil ?_
          obtain rfl := Option.some.inj H
          refine AW.recast (env' := [(2, .rsl 1000 0 0 ((v8 ++ x2.1).length)), (3, .int .i64 (0 : Int))]) (h' := [(1000, rtA 0 42 1 (eI .u8) (v8 ++ x2.1))]) (StC.mk (phi [(1000, some 2)]) (.old rfl rfl rfl rfl rfl (CstL.ims _) .nil) rfl (.cons (.rsl rfl rfl rfl rfl rfl rfl) (.cons .im .nil))) ?_
          refine AW.ret ?_
          try simp only [Ex.then, Ex.inBlock, Ex.noGoto, Ex.jump, reduceIte, Nat.reduceEqDiff, reduceCtorEq]
          refine Done.gen rfl (.tmp (.tmp .nil)) ?_
          exact ⟨by kernel_rfl, rfl⟩
theorem f_R19_Header_ok {t0 : S_Header} {r : (List Int) × Int} (H : f_R19_Header t0 = some r) : QSpec Tryd.prog 23 [.agg [.int .i64 t0.Width, .int .i64 t0.Label.N, .int .i64 t0.Label.K, .bool t0.Back, .int .i64 t0.Ink, .int .i64 t0.Part]] (.tup [slA (eI .u8) r.1, .int .i64 r.2]) := by
  exact QSpec.of_own (f_R19_Header_own H) (.tup (.cons (.frz rfl rfl rfl (frz_all (eI .u8) 1 (fun _ => rfl) r.1) (fm_length (eI .u8) 1 (fun _ => rfl) r.1) (phi_ne rfl)) (.cons .im .nil)))
end Go.Proofs.YtlcoabpgknpaoaaDoor
