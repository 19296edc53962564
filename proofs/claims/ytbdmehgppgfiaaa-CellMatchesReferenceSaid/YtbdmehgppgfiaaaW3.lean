/-
  Written by gen.py (own work): typed functions, and that the program computes them.
-/
import Derived.Test.YtbdmehgppgfiaaaW2
set_option linter.unusedSimpArgs false
set_option linter.unusedVariables false
set_option maxRecDepth 100000
namespace Go.Proofs.Ytbdmehgppgfiaaa
open Go.Abs
def f_L01_CellLines (t0 : List Int) (t1 : ByteArray) (t2 : Int) : Option Bool :=
  (f_L01_sanity).bind fun x1 =>
  (f_R01_Cells t0 (20 : Int)).bind fun x2 =>
  (f_cell_Show x2).bind fun x3 =>
  (f_cell_Line x3).bind fun x4 =>
  (cond (!(cond (x4.2.2 != (0 : Int)) true (x4.2.1 != (x2.length : Int)))) (f_R01_Same x4.1 x2) (some false)).bind fun x5 =>
  cond (cond (cond (cond (x4.2.2 != (0 : Int)) true (x4.2.1 != (x2.length : Int))) true (!x5)) true (decide ((20 : Int) < (t1.size : Int)))) (
    (cond (cond (x4.2.2 == (0 : Int)) (x4.2.1 == (x2.length : Int)) false) (f_R01_Same x4.1 x2) (some false)).bind fun x7 =>
    some (cond (cond (cond (x4.2.2 == (0 : Int)) (x4.2.1 == (x2.length : Int)) false) x7 false) x1 false)) (
    (f_cell_Line t1).bind fun x8 =>
    cond (x8.2.2 != (0 : Int)) (
      cond (cond (cond (decide (x8.2.1 < (0 : Int))) true (decide ((t1.size : Int) ≤ x8.2.1))) true (decide ((0 : Int) < (x8.1.length : Int)))) (
        some false) (
        G (0 ≤ x8.2.1 ∧ x8.2.1 < (t1.size : Int)) <|
        (f_cell_FromAscii (bAt t1 x8.2.1)).bind fun x12 =>
        G (0 ≤ x8.2.1 ∧ x8.2.1 ≤ (t1.size : Int)) <|
        (f_cell_Line (t1.extract 0 x8.2.1.toNat)).bind fun x14 =>
        some (cond (cond (cond x1 (x12.2 == (10 : Int)) false) (x14.2.2 == (0 : Int)) false) (x14.2.1 == x8.2.1) false))) (
      G (inR ((t1.size : Int) + (1 : Int))) <|
      G (((t1.size : Int) + (1 : Int)) ≠ 0) <|
      G (0 ≤ (Int.tmod (IntKind.wrap .i64 t2) ((t1.size : Int) + (1 : Int))) ∧ (Int.tmod (IntKind.wrap .i64 t2) ((t1.size : Int) + (1 : Int))) ≤ (t1.size : Int)) <|
      (f_cell_Line (t1.extract 0 ((Int.tmod (IntKind.wrap .i64 t2) ((t1.size : Int) + (1 : Int))).toNat))).bind fun x18 =>
      (f_cell_Line (t1.extract ((Int.tmod (IntKind.wrap .i64 t2) ((t1.size : Int) + (1 : Int))).toNat) t1.size)).bind fun x19 =>
      G (room 1 (([] : List Int).length + x18.1.length)) <|
      G (room 1 ((([] : List Int) ++ x18.1).length + x19.1.length)) <|
      (cond x1 (f_R01_ValidAll x8.1) (some false)).bind fun x22 =>
      (cond (cond x1 x22 false) (f_cell_Show x8.1) (some ByteArray.empty)).bind fun x23 =>
      (cond (cond (cond (cond (cond x1 x22 false) (x23.toList == t1.toList) false) (x18.2.2 == (0 : Int)) false) (x19.2.2 == (0 : Int)) false) (f_R01_Same ((([] : List Int) ++ x18.1) ++ x19.1) x8.1) (some false)).bind fun x24 =>
      some (cond (cond (cond (cond (cond x1 x22 false) (x23.toList == t1.toList) false) (x18.2.2 == (0 : Int)) false) (x19.2.2 == (0 : Int)) false) x24 false)))
theorem f_L01_CellLines_ok {t0 : List Int} {t1 : ByteArray} {t2 : Int} {r : Bool} (H : f_L01_CellLines t0 t1 t2 = some r) : QSpec Try.prog 5 [slA (eI .u8) t0, .string t1, .int .u8 t2] (.bool r) := by
  refine Spec.of_AW Try.func5 rfl (by simp [Try.ntmps5]) ?_
  rw [Try.ntmps5]
  unfold f_L01_CellLines at H
  change AW _ _ _ [(0, slA (eI .u8) t0), (1, .string t1), (2, .int .u8 t2)] [] _
  refine AW.regionSeq ?_
  refine OpsW.seg 1 [0, 1, 2] [] [(0, slA (eI .u8) t0), (1, .string t1), (2, .int .u8 t2)] (by kernel_rfl) trivial ?_
  refine OpsW.nil ?_
  refine AW.regionSeq ?_
  obtain ⟨x1, hx1, H⟩ := bindS H
  refine OpsW.qcall rfl (by kernel_rfl) rfl rfl (glAll_sound trivial) .nil (f_L01_sanity_ok hx1) rfl ?_
  refine OpsW.seg 1 [7, 0, 1, 2] [] [(7, .bool x1), (0, slA (eI .u8) t0), (1, .string t1), (2, .int .u8 t2)] (by kernel_rfl) trivial ?_
  refine OpsW.nil ?_
  refine AW.regionSeq ?_
  refine OpsW.seg 1 [30, 7, 1, 2] [] [(30, slA (eI .u8) t0), (7, .bool x1), (1, .string t1), (2, .int .u8 t2)] (by kernel_rfl) trivial ?_
  obtain ⟨x2, hx2, H⟩ := bindS H
  refine OpsW.qcall rfl (by kernel_rfl) rfl rfl (glAll_sound trivial) (.cons (.pur rfl) (.cons (.pur rfl) .nil)) (f_R01_Cells_ok hx2) rfl ?_
  refine OpsW.seg 1 [8, 7, 1, 2] [] [(8, slA (eI .u8) x2), (7, .bool x1), (1, .string t1), (2, .int .u8 t2)] (by kernel_rfl) trivial ?_
  refine OpsW.nil ?_
  refine AW.regionSeq ?_
  refine OpsW.seg 1 [32, 8, 7, 1, 2] [] [(32, slA (eI .u8) x2), (8, slA (eI .u8) x2), (7, .bool x1), (1, .string t1), (2, .int .u8 t2)] (by kernel_rfl) trivial ?_
  obtain ⟨x3, hx3, H⟩ := bindS H
  refine OpsW.qcall rfl (by kernel_rfl) rfl rfl (glAll_sound trivial) (.cons (.pur rfl) .nil) (f_cell_Show_ok hx3) rfl ?_
  refine OpsW.seg 1 [9, 8, 7, 1, 2] [] [(9, .string x3), (8, slA (eI .u8) x2), (7, .bool x1), (1, .string t1), (2, .int .u8 t2)] (by kernel_rfl) trivial ?_
  refine OpsW.nil ?_
  refine AW.regionSeq ?_
  refine OpsW.seg 1 [35, 8, 7, 1, 2] [] [(35, .string x3), (8, slA (eI .u8) x2), (7, .bool x1), (1, .string t1), (2, .int .u8 t2)] (by kernel_rfl) trivial ?_
  obtain ⟨x4, hx4, H⟩ := bindS H
  refine OpsW.qcall rfl (by kernel_rfl) rfl rfl (glAll_sound trivial) (.cons (.pur rfl) .nil) (f_cell_Line_ok hx4) rfl ?_
  refine OpsW.seg 7 [12, 11, 10, 8, 7, 1, 2] [] [(12, .int .i64 x4.2.2), (11, .int .i64 x4.2.1), (10, slA (eI .u8) x4.1), (8, slA (eI .u8) x2), (7, .bool x1), (1, .string t1), (2, .int .u8 t2)] (by kernel_rfl) trivial ?_
  refine OpsW.nil ?_
  refine AW.seq ?_
  refine AW.regionSeq ?_
  refine OpsW.seg 11 [50, 49, 48, 12, 11, 10, 8, 7, 1, 2] [(!(x4.2.2 != (0 : Int))) = true → (!(x4.2.2 != (0 : Int))) = true, (!(x4.2.2 != (0 : Int))) = true → (!(x4.2.2 != (0 : Int))) = true, (!(x4.2.2 != (0 : Int))) = true → (!(x4.2.2 != (0 : Int))) = true, (x4.2.2 != (0 : Int)) = false → (!(x4.2.2 != (0 : Int))) = true] [(50, .cnd (!(cond (x4.2.2 != (0 : Int)) true (x4.2.1 != (x2.length : Int)))) (slA (eI .u8) x2)), (49, .cnd (!(cond (x4.2.2 != (0 : Int)) true (x4.2.1 != (x2.length : Int)))) (slA (eI .u8) x4.1)), (48, .bool (cond (x4.2.2 != (0 : Int)) true (x4.2.1 != (x2.length : Int)))), (12, .int .i64 x4.2.2), (11, .int .i64 x4.2.1), (10, slA (eI .u8) x4.1), (8, slA (eI .u8) x2), (7, .bool x1), (1, .string t1), (2, .int .u8 t2)] (by kernel_rfl) ⟨(fun h => h), (fun h => h), (fun h => h), (fun h => by first | exact h | simpa using h), trivial⟩ ?_
  obtain ⟨x5, hx5, H⟩ := bindS H
  refine OpsW.gcall (c := !(cond (x4.2.2 != (0 : Int)) true (x4.2.1 != (x2.length : Int)))) (r := .bool x5) [] rfl (by kernel_rfl) rfl rfl rfl rfl (fun hc => ⟨glAll_sound ⟨hc, hc, trivial⟩, (.cons (.pur rfl) (.cons (.pur rfl) .nil)), f_R01_Same_ok (condT hc hx5), .inl ⟨rfl, rfl⟩⟩) ?_
  refine OpsW.seg 7 [58, 12, 11, 10, 8, 7, 1, 2] [(!(cond (x4.2.2 != (0 : Int)) true (x4.2.1 != (x2.length : Int)))) = true → (!(cond (x4.2.2 != (0 : Int)) true (x4.2.1 != (x2.length : Int)))) = true, (cond (x4.2.2 != (0 : Int)) true (x4.2.1 != (x2.length : Int))) = false → (!(cond (x4.2.2 != (0 : Int)) true (x4.2.1 != (x2.length : Int)))) = true, (!(cond (cond (x4.2.2 != (0 : Int)) true (x4.2.1 != (x2.length : Int))) true (!x5))) = true → (!(cond (cond (x4.2.2 != (0 : Int)) true (x4.2.1 != (x2.length : Int))) true (!x5))) = true, (!(cond (cond (x4.2.2 != (0 : Int)) true (x4.2.1 != (x2.length : Int))) true (!x5))) = true → (!(cond (cond (x4.2.2 != (0 : Int)) true (x4.2.1 != (x2.length : Int))) true (!x5))) = true, (cond (cond (x4.2.2 != (0 : Int)) true (x4.2.1 != (x2.length : Int))) true (!x5)) = false → (!(cond (cond (x4.2.2 != (0 : Int)) true (x4.2.1 != (x2.length : Int))) true (!x5))) = true] [(58, .bool (cond (cond (cond (x4.2.2 != (0 : Int)) true (x4.2.1 != (x2.length : Int))) true (!x5)) true (decide ((20 : Int) < (t1.size : Int))))), (12, .int .i64 x4.2.2), (11, .int .i64 x4.2.1), (10, slA (eI .u8) x4.1), (8, slA (eI .u8) x2), (7, .bool x1), (1, .string t1), (2, .int .u8 t2)] (by kernel_rfl) ⟨(fun h => h), (fun h => by first | exact h | simpa using h), (fun h => h), (fun h => h), (fun h => by first | exact h | simpa using h), trivial⟩ ?_
  refine OpsW.nil ?_
  refine AW.cond (b := cond (cond (cond (x4.2.2 != (0 : Int)) true (x4.2.1 != (x2.length : Int))) true (!x5)) true (decide ((20 : Int) < (t1.size : Int)))) rfl (fun c6 => ?_) (fun c6 => ?_)
  · replace H := condT c6 H
    refine AW.regionSeq ?_
    refine OpsW.seg 11 [69, 68, 67, 7] [(x4.2.2 == (0 : Int)) = true → (x4.2.2 == (0 : Int)) = true, (x4.2.2 == (0 : Int)) = true → (x4.2.2 == (0 : Int)) = true, (x4.2.2 == (0 : Int)) = true → (x4.2.2 == (0 : Int)) = true, (x4.2.2 == (0 : Int)) = true → (x4.2.2 == (0 : Int)) = true] [(69, .cnd (cond (x4.2.2 == (0 : Int)) (x4.2.1 == (x2.length : Int)) false) (slA (eI .u8) x2)), (68, .cnd (cond (x4.2.2 == (0 : Int)) (x4.2.1 == (x2.length : Int)) false) (slA (eI .u8) x4.1)), (67, .bool (cond (x4.2.2 == (0 : Int)) (x4.2.1 == (x2.length : Int)) false)), (7, .bool x1)] (by kernel_rfl) ⟨(fun h => h), (fun h => h), (fun h => h), (fun h => by first | exact h | simpa using h), trivial⟩ ?_
    obtain ⟨x7, hx7, H⟩ := bindS H
    refine OpsW.gcall (c := cond (x4.2.2 == (0 : Int)) (x4.2.1 == (x2.length : Int)) false) (r := .bool x7) [] rfl (by kernel_rfl) rfl rfl rfl rfl (fun hc => ⟨glAll_sound ⟨hc, hc, trivial⟩, (.cons (.pur rfl) (.cons (.pur rfl) .nil)), f_R01_Same_ok (condT hc hx7), .inl ⟨rfl, rfl⟩⟩) ?_
    refine OpsW.seg 5 [6] [(cond (x4.2.2 == (0 : Int)) (x4.2.1 == (x2.length : Int)) false) = true → (cond (x4.2.2 == (0 : Int)) (x4.2.1 == (x2.length : Int)) false) = true, (cond (cond (x4.2.2 == (0 : Int)) (x4.2.1 == (x2.length : Int)) false) x7 false) = true → (cond (cond (x4.2.2 == (0 : Int)) (x4.2.1 == (x2.length : Int)) false) x7 false) = true] [(6, .bool (cond (cond (cond (x4.2.2 == (0 : Int)) (x4.2.1 == (x2.length : Int)) false) x7 false) x1 false))] (by kernel_rfl) ⟨(fun h => by first | exact h | simpa using h), (fun h => by first | exact h | simpa using h), trivial⟩ ?_
    refine OpsW.nil ?_
    obtain rfl := Option.some.inj H
    refine AW.recast (env' := [(6, .bool (cond (cond (cond (x4.2.2 == (0 : Int)) (x4.2.1 == (x2.length : Int)) false) x7 false) x1 false))]) (h' := []) (StC.pure (.cons .im .nil)) ?_
    refine AW.ret ?_
    try simp only [Ex.then, Ex.inBlock, Ex.noGoto, Ex.jump, reduceIte, Nat.reduceEqDiff, reduceCtorEq]
    refine Done.gen rfl (.tmp .nil) ?_
    show _ = _
    kernel_rfl
  · replace H := condF c6 H
    refine AW.skip ?_
    refine AW.regionSeq ?_
    refine OpsW.seg 1 [76, 7, 1, 2] [] [(76, .string t1), (7, .bool x1), (1, .string t1), (2, .int .u8 t2)] (by kernel_rfl) trivial ?_
    obtain ⟨x8, hx8, H⟩ := bindS H
    refine OpsW.qcall rfl (by kernel_rfl) rfl rfl (glAll_sound trivial) (.cons (.pur rfl) .nil) (f_cell_Line_ok hx8) rfl ?_
    refine OpsW.seg 7 [15, 14, 13, 7, 1, 2] [] [(15, .int .i64 x8.2.2), (14, .int .i64 x8.2.1), (13, slA (eI .u8) x8.1), (7, .bool x1), (1, .string t1), (2, .int .u8 t2)] (by kernel_rfl) trivial ?_
    refine OpsW.nil ?_
    refine AW.seq ?_
    refine AW.regionSeq ?_
    refine OpsW.seg 2 [82, 14, 13, 7, 1, 2] [] [(82, .bool (x8.2.2 != (0 : Int))), (14, .int .i64 x8.2.1), (13, slA (eI .u8) x8.1), (7, .bool x1), (1, .string t1), (2, .int .u8 t2)] (by kernel_rfl) trivial ?_
    refine OpsW.nil ?_
    refine AW.cond (b := x8.2.2 != (0 : Int)) rfl (fun c9 => ?_) (fun c9 => ?_)
    · replace H := condT c9 H
      refine AW.seq ?_
      refine AW.regionSeq ?_
      refine OpsW.seg 13 [95, 14, 7, 1] [(!(decide (x8.2.1 < (0 : Int)))) = true → (!(decide (x8.2.1 < (0 : Int)))) = true, (!(decide (x8.2.1 < (0 : Int)))) = true → (!(decide (x8.2.1 < (0 : Int)))) = true, (!(decide (x8.2.1 < (0 : Int)))) = true → (!(decide (x8.2.1 < (0 : Int)))) = true, (decide (x8.2.1 < (0 : Int))) = false → (!(decide (x8.2.1 < (0 : Int)))) = true, (!(cond (decide (x8.2.1 < (0 : Int))) true (decide ((t1.size : Int) ≤ x8.2.1)))) = true → (!(cond (decide (x8.2.1 < (0 : Int))) true (decide ((t1.size : Int) ≤ x8.2.1)))) = true, (!(cond (decide (x8.2.1 < (0 : Int))) true (decide ((t1.size : Int) ≤ x8.2.1)))) = true → (!(cond (decide (x8.2.1 < (0 : Int))) true (decide ((t1.size : Int) ≤ x8.2.1)))) = true, (cond (decide (x8.2.1 < (0 : Int))) true (decide ((t1.size : Int) ≤ x8.2.1))) = false → (!(cond (decide (x8.2.1 < (0 : Int))) true (decide ((t1.size : Int) ≤ x8.2.1)))) = true] [(95, .bool (cond (cond (decide (x8.2.1 < (0 : Int))) true (decide ((t1.size : Int) ≤ x8.2.1))) true (decide ((0 : Int) < (x8.1.length : Int))))), (14, .int .i64 x8.2.1), (7, .bool x1), (1, .string t1)] (by kernel_rfl) ⟨(fun h => h), (fun h => h), (fun h => h), (fun h => by first | exact h | simpa using h), (fun h => h), (fun h => h), (fun h => by first | exact h | simpa using h), trivial⟩ ?_
      refine OpsW.nil ?_
      refine AW.cond (b := cond (cond (decide (x8.2.1 < (0 : Int))) true (decide ((t1.size : Int) ≤ x8.2.1))) true (decide ((0 : Int) < (x8.1.length : Int)))) rfl (fun c10 => ?_) (fun c10 => ?_)
      · replace H := condT c10 H
        refine AW.regionSeq ?_
        refine OpsW.seg 1 [6] [] [(6, .bool false)] (by kernel_rfl) trivial ?_
        refine OpsW.nil ?_
        obtain rfl := Option.some.inj H
        refine AW.recast (env' := [(6, .bool false)]) (h' := []) (StC.pure (.cons .im .nil)) ?_
        refine AW.ret ?_
        try simp only [Ex.then, Ex.inBlock, Ex.noGoto, Ex.jump, reduceIte, Nat.reduceEqDiff, reduceCtorEq]
        refine Done.gen rfl (.tmp .nil) ?_
        show _ = _
        kernel_rfl
      · replace H := condF c10 H
        refine AW.skip ?_
        refine AW.regionSeq ?_
        obtain ⟨g11, H⟩ := G_some H
        refine OpsW.seg 3 [99, 14, 7, 1] [0 ≤ x8.2.1 ∧ x8.2.1 < (t1.size : Int)] [(99, .int .u8 (bAt t1 x8.2.1)), (14, .int .i64 x8.2.1), (7, .bool x1), (1, .string t1)] (by kernel_rfl) ⟨g11, trivial⟩ ?_
        obtain ⟨x12, hx12, H⟩ := bindS H
        refine OpsW.qcall rfl (by kernel_rfl) rfl rfl (glAll_sound trivial) (.cons (.pur rfl) .nil) (f_cell_FromAscii_ok hx12) rfl ?_
        refine OpsW.seg 5 [17, 14, 7, 1] [] [(17, .int .i64 x12.2), (14, .int .i64 x8.2.1), (7, .bool x1), (1, .string t1)] (by kernel_rfl) trivial ?_
        refine OpsW.nil ?_
        refine AW.regionSeq ?_
        obtain ⟨g13, H⟩ := G_some H
        refine OpsW.seg 3 [106, 17, 14, 7] [0 ≤ x8.2.1 ∧ x8.2.1 ≤ (t1.size : Int)] [(106, .string (t1.extract 0 x8.2.1.toNat)), (17, .int .i64 x12.2), (14, .int .i64 x8.2.1), (7, .bool x1)] (by kernel_rfl) ⟨g13, trivial⟩ ?_
        obtain ⟨x14, hx14, H⟩ := bindS H
        refine OpsW.qcall rfl (by kernel_rfl) rfl rfl (glAll_sound trivial) (.cons (.pur rfl) .nil) (f_cell_Line_ok hx14) rfl ?_
        refine OpsW.seg 7 [20, 19, 17, 14, 7] [] [(20, .int .i64 x14.2.2), (19, .int .i64 x14.2.1), (17, .int .i64 x12.2), (14, .int .i64 x8.2.1), (7, .bool x1)] (by kernel_rfl) trivial ?_
        refine OpsW.nil ?_
        refine AW.regionSeq ?_
        refine OpsW.seg 15 [6] [x1 = true → x1 = true, x1 = true → x1 = true, (cond x1 (x12.2 == (10 : Int)) false) = true → (cond x1 (x12.2 == (10 : Int)) false) = true, (cond x1 (x12.2 == (10 : Int)) false) = true → (cond x1 (x12.2 == (10 : Int)) false) = true, (cond (cond x1 (x12.2 == (10 : Int)) false) (x14.2.2 == (0 : Int)) false) = true → (cond (cond x1 (x12.2 == (10 : Int)) false) (x14.2.2 == (0 : Int)) false) = true, (cond (cond x1 (x12.2 == (10 : Int)) false) (x14.2.2 == (0 : Int)) false) = true → (cond (cond x1 (x12.2 == (10 : Int)) false) (x14.2.2 == (0 : Int)) false) = true, (cond (cond x1 (x12.2 == (10 : Int)) false) (x14.2.2 == (0 : Int)) false) = true → (cond (cond x1 (x12.2 == (10 : Int)) false) (x14.2.2 == (0 : Int)) false) = true] [(6, .bool (cond (cond (cond x1 (x12.2 == (10 : Int)) false) (x14.2.2 == (0 : Int)) false) (x14.2.1 == x8.2.1) false))] (by kernel_rfl) ⟨(fun h => h), (fun h => by first | exact h | simpa using h), (fun h => h), (fun h => by first | exact h | simpa using h), (fun h => h), (fun h => h), (fun h => by first | exact h | simpa using h), trivial⟩ ?_
        refine OpsW.nil ?_
        obtain rfl := Option.some.inj H
        refine AW.recast (env' := [(6, .bool (cond (cond (cond x1 (x12.2 == (10 : Int)) false) (x14.2.2 == (0 : Int)) false) (x14.2.1 == x8.2.1) false))]) (h' := []) (StC.pure (.cons .im .nil)) ?_
        refine AW.ret ?_
        try simp only [Ex.then, Ex.inBlock, Ex.noGoto, Ex.jump, reduceIte, Nat.reduceEqDiff, reduceCtorEq]
        refine Done.gen rfl (.tmp .nil) ?_
        show _ = _
        kernel_rfl
    · replace H := condF c9 H
      refine AW.skip ?_
      refine AW.regionSeq ?_
      obtain ⟨g15, H⟩ := G_some H
      obtain ⟨g16, H⟩ := G_some H
      refine OpsW.seg 7 [21, 13, 7, 1] [inR ((t1.size : Int) + (1 : Int)), ((t1.size : Int) + (1 : Int)) ≠ 0] [(21, .int .i64 (Int.tmod (IntKind.wrap .i64 t2) ((t1.size : Int) + (1 : Int)))), (13, slA (eI .u8) x8.1), (7, .bool x1), (1, .string t1)] (by kernel_rfl) ⟨g15, g16, trivial⟩ ?_
      refine OpsW.nil ?_
      refine AW.regionSeq ?_
      obtain ⟨g17, H⟩ := G_some H
      refine OpsW.seg 3 [134, 21, 13, 7, 1] [0 ≤ (Int.tmod (IntKind.wrap .i64 t2) ((t1.size : Int) + (1 : Int))) ∧ (Int.tmod (IntKind.wrap .i64 t2) ((t1.size : Int) + (1 : Int))) ≤ (t1.size : Int)] [(134, .string (t1.extract 0 ((Int.tmod (IntKind.wrap .i64 t2) ((t1.size : Int) + (1 : Int))).toNat))), (21, .int .i64 (Int.tmod (IntKind.wrap .i64 t2) ((t1.size : Int) + (1 : Int)))), (13, slA (eI .u8) x8.1), (7, .bool x1), (1, .string t1)] (by kernel_rfl) ⟨g17, trivial⟩ ?_
      obtain ⟨x18, hx18, H⟩ := bindS H
      refine OpsW.qcall rfl (by kernel_rfl) rfl rfl (glAll_sound trivial) (.cons (.pur rfl) .nil) (f_cell_Line_ok hx18) rfl ?_
      refine OpsW.seg 7 [24, 22, 21, 13, 7, 1] [] [(24, .int .i64 x18.2.2), (22, slA (eI .u8) x18.1), (21, .int .i64 (Int.tmod (IntKind.wrap .i64 t2) ((t1.size : Int) + (1 : Int)))), (13, slA (eI .u8) x8.1), (7, .bool x1), (1, .string t1)] (by kernel_rfl) trivial ?_
      refine OpsW.nil ?_
      refine AW.regionSeq ?_
      refine OpsW.seg 3 [142, 24, 22, 13, 7, 1] [0 ≤ (Int.tmod (IntKind.wrap .i64 t2) ((t1.size : Int) + (1 : Int))) ∧ (Int.tmod (IntKind.wrap .i64 t2) ((t1.size : Int) + (1 : Int))) ≤ (t1.size : Int)] [(142, .string (t1.extract ((Int.tmod (IntKind.wrap .i64 t2) ((t1.size : Int) + (1 : Int))).toNat) t1.size)), (24, .int .i64 x18.2.2), (22, slA (eI .u8) x18.1), (13, slA (eI .u8) x8.1), (7, .bool x1), (1, .string t1)] (by kernel_rfl) ⟨g17, trivial⟩ ?_
      obtain ⟨x19, hx19, H⟩ := bindS H
      refine OpsW.qcall rfl (by kernel_rfl) rfl rfl (glAll_sound trivial) (.cons (.pur rfl) .nil) (f_cell_Line_ok hx19) rfl ?_
      refine OpsW.seg 7 [27, 25, 24, 22, 13, 7, 1] [] [(27, .int .i64 x19.2.2), (25, slA (eI .u8) x19.1), (24, .int .i64 x18.2.2), (22, slA (eI .u8) x18.1), (13, slA (eI .u8) x8.1), (7, .bool x1), (1, .string t1)] (by kernel_rfl) trivial ?_
      refine OpsW.nil ?_
      refine AW.regionSeq ?_
      refine OpsW.buildT (enc := eI .u8) ([] : List Int) rfl rfl rfl 147 rfl E29 (fun _ => rfl) (by decide) trivial (by kernel_rfl) (by kernel_rfl) (by kernel_rfl) rfl ?_
      refine OpsW.seg 1 [148, 147, 27, 25, 24, 13, 7, 1] [] [(148, slA (eI .u8) x18.1), (147, .rsl 147 0 0 (([] : List Int).length)), (27, .int .i64 x19.2.2), (25, slA (eI .u8) x19.1), (24, .int .i64 x18.2.2), (13, slA (eI .u8) x8.1), (7, .bool x1), (1, .string t1)] (by kernel_rfl) trivial ?_
      obtain ⟨g20, H⟩ := G_some H
      refine OpsW.appendF (enc := eI .u8) (ys := x18.1) rfl rfl rfl E29 (fun _ => rfl) rfl rfl trivial (SrcA.typed (enc := eI .u8) (fun _ => rfl) (by kernel_rfl) x18.1) rfl g20 ?_
      refine OpsW.seg 1 [28, 27, 25, 24, 13, 7, 1] [] [(28, .rsl 147 1 0 ((([] : List Int) ++ x18.1).length)), (27, .int .i64 x19.2.2), (25, slA (eI .u8) x19.1), (24, .int .i64 x18.2.2), (13, slA (eI .u8) x8.1), (7, .bool x1), (1, .string t1)] (by kernel_rfl) trivial ?_
      refine OpsW.recast (env' := [(28, .rsl 28 0 0 ((([] : List Int) ++ x18.1).length)), (27, .int .i64 x19.2.2), (25, slA (eI .u8) x19.1), (24, .int .i64 x18.2.2), (13, slA (eI .u8) x8.1), (7, .bool x1), (1, .string t1)]) (h' := [(28, rtA 0 24 1 (eI .u8) (([] : List Int) ++ x18.1))]) (StC.mk (phi [(28, some 147)]) (.old rfl rfl rfl rfl rfl (CstL.ims _) .nil) rfl (.cons (.rsl rfl rfl rfl rfl rfl rfl) (.cons .im (.cons .im (.cons .im (.cons .im (.cons .im (.cons .im .nil)))))))) ?_
      refine OpsW.nil ?_
      refine AW.regionSeq ?_
      refine OpsW.seg 2 [151, 150, 28, 27, 24, 13, 7, 1] [] [(151, slA (eI .u8) x19.1), (150, .rsl 28 0 0 ((([] : List Int) ++ x18.1).length)), (28, .rsl 28 0 0 ((([] : List Int) ++ x18.1).length)), (27, .int .i64 x19.2.2), (24, .int .i64 x18.2.2), (13, slA (eI .u8) x8.1), (7, .bool x1), (1, .string t1)] (by kernel_rfl) trivial ?_
      obtain ⟨g21, H⟩ := G_some H
      refine OpsW.appendF (enc := eI .u8) (ys := x19.1) rfl rfl rfl E29 (fun _ => rfl) rfl rfl trivial (SrcA.typed (enc := eI .u8) (fun _ => rfl) (by kernel_rfl) x19.1) rfl g21 ?_
      refine OpsW.seg 1 [28, 27, 24, 13, 7, 1] [] [(28, .rsl 28 1 0 (((([] : List Int) ++ x18.1) ++ x19.1).length)), (27, .int .i64 x19.2.2), (24, .int .i64 x18.2.2), (13, slA (eI .u8) x8.1), (7, .bool x1), (1, .string t1)] (by kernel_rfl) trivial ?_
      refine OpsW.recast (env' := [(28, slA (eI .u8) ((([] : List Int) ++ x18.1) ++ x19.1)), (27, .int .i64 x19.2.2), (24, .int .i64 x18.2.2), (13, slA (eI .u8) x8.1), (7, .bool x1), (1, .string t1)]) (h' := []) (StC.mk (phi []) .nil rfl (.cons (.frz rfl rfl rfl (frz_all (eI .u8) 1 (fun _ => rfl) ((([] : List Int) ++ x18.1) ++ x19.1)) (fm_length (eI .u8) 1 (fun _ => rfl) ((([] : List Int) ++ x18.1) ++ x19.1)) (phi_ne rfl)) (.cons .im (.cons .im (.cons .im (.cons .im (.cons .im .nil))))))) ?_
      refine OpsW.nil ?_
      refine AW.regionSeq ?_
      refine OpsW.seg 3 [155, 154, 28, 27, 24, 13, 1] [] [(155, .cnd x1 (slA (eI .u8) x8.1)), (154, .bool x1), (28, slA (eI .u8) ((([] : List Int) ++ x18.1) ++ x19.1)), (27, .int .i64 x19.2.2), (24, .int .i64 x18.2.2), (13, slA (eI .u8) x8.1), (1, .string t1)] (by kernel_rfl) trivial ?_
      obtain ⟨x22, hx22, H⟩ := bindS H
      refine OpsW.gcall (c := x1) (r := .bool x22) [] rfl (by kernel_rfl) rfl rfl rfl rfl (fun hc => ⟨glAll_sound ⟨hc, trivial⟩, (.cons (.pur rfl) .nil), f_R01_ValidAll_ok (condT hc hx22), .inl ⟨rfl, rfl⟩⟩) ?_
      refine OpsW.seg 3 [159, 158, 28, 27, 24, 13, 1] [x1 = true → x1 = true] [(159, .cnd (cond x1 x22 false) (slA (eI .u8) x8.1)), (158, .bool (cond x1 x22 false)), (28, slA (eI .u8) ((([] : List Int) ++ x18.1) ++ x19.1)), (27, .int .i64 x19.2.2), (24, .int .i64 x18.2.2), (13, slA (eI .u8) x8.1), (1, .string t1)] (by kernel_rfl) ⟨(fun h => by first | exact h | simpa using h), trivial⟩ ?_
      obtain ⟨x23, hx23, H⟩ := bindS H
      refine OpsW.gcall (c := cond x1 x22 false) (r := .string x23) [] rfl (by kernel_rfl) rfl rfl rfl rfl (fun hc => ⟨glAll_sound ⟨hc, trivial⟩, (.cons (.pur rfl) .nil), f_cell_Show_ok (condT hc hx23), .inl ⟨rfl, rfl⟩⟩) ?_
      refine OpsW.seg 14 [174, 173, 172] [(cond x1 x22 false) = true → (cond x1 x22 false) = true, (cond x1 x22 false) = true → (cond x1 x22 false) = true, (cond x1 x22 false) = true → (cond x1 x22 false) = true, (cond (cond x1 x22 false) (x23.toList == t1.toList) false) = true → (cond (cond x1 x22 false) (x23.toList == t1.toList) false) = true, (cond (cond x1 x22 false) (x23.toList == t1.toList) false) = true → (cond (cond x1 x22 false) (x23.toList == t1.toList) false) = true, (cond (cond (cond x1 x22 false) (x23.toList == t1.toList) false) (x18.2.2 == (0 : Int)) false) = true → (cond (cond (cond x1 x22 false) (x23.toList == t1.toList) false) (x18.2.2 == (0 : Int)) false) = true, (cond (cond (cond x1 x22 false) (x23.toList == t1.toList) false) (x18.2.2 == (0 : Int)) false) = true → (cond (cond (cond x1 x22 false) (x23.toList == t1.toList) false) (x18.2.2 == (0 : Int)) false) = true] [(174, .cnd (cond (cond (cond (cond x1 x22 false) (x23.toList == t1.toList) false) (x18.2.2 == (0 : Int)) false) (x19.2.2 == (0 : Int)) false) (slA (eI .u8) x8.1)), (173, .cnd (cond (cond (cond (cond x1 x22 false) (x23.toList == t1.toList) false) (x18.2.2 == (0 : Int)) false) (x19.2.2 == (0 : Int)) false) (slA (eI .u8) ((([] : List Int) ++ x18.1) ++ x19.1))), (172, .bool (cond (cond (cond (cond x1 x22 false) (x23.toList == t1.toList) false) (x18.2.2 == (0 : Int)) false) (x19.2.2 == (0 : Int)) false))] (by kernel_rfl) ⟨(fun h => h), (fun h => h), (fun h => by first | exact h | simpa using h), (fun h => h), (fun h => by first | exact h | simpa using h), (fun h => h), (fun h => by first | exact h | simpa using h), trivial⟩ ?_
      obtain ⟨x24, hx24, H⟩ := bindS H
      refine OpsW.gcall (c := cond (cond (cond (cond x1 x22 false) (x23.toList == t1.toList) false) (x18.2.2 == (0 : Int)) false) (x19.2.2 == (0 : Int)) false) (r := .bool x24) [] rfl (by kernel_rfl) rfl rfl rfl rfl (fun hc => ⟨glAll_sound ⟨hc, hc, trivial⟩, (.cons (.pur rfl) (.cons (.pur rfl) .nil)), f_R01_Same_ok (condT hc hx24), .inl ⟨rfl, rfl⟩⟩) ?_
      refine OpsW.seg 2 [6] [(cond (cond (cond (cond x1 x22 false) (x23.toList == t1.toList) false) (x18.2.2 == (0 : Int)) false) (x19.2.2 == (0 : Int)) false) = true → (cond (cond (cond (cond x1 x22 false) (x23.toList == t1.toList) false) (x18.2.2 == (0 : Int)) false) (x19.2.2 == (0 : Int)) false) = true] [(6, .bool (cond (cond (cond (cond (cond x1 x22 false) (x23.toList == t1.toList) false) (x18.2.2 == (0 : Int)) false) (x19.2.2 == (0 : Int)) false) x24 false))] (by kernel_rfl) ⟨(fun h => by first | exact h | simpa using h), trivial⟩ ?_
      refine OpsW.nil ?_
      obtain rfl := Option.some.inj H
      refine AW.recast (env' := [(6, .bool (cond (cond (cond (cond (cond x1 x22 false) (x23.toList == t1.toList) false) (x18.2.2 == (0 : Int)) false) (x19.2.2 == (0 : Int)) false) x24 false))]) (h' := []) (StC.pure (.cons .im .nil)) ?_
      refine AW.ret ?_
      try simp only [Ex.then, Ex.inBlock, Ex.noGoto, Ex.jump, reduceIte, Nat.reduceEqDiff, reduceCtorEq]
      refine Done.gen rfl (.tmp .nil) ?_
      show _ = _
      kernel_rfl
def f_L01_CellMetric (t0 : Int) (t1 : Int) (t2 : Int) : Option Bool :=
  (f_L01_sanity).bind fun x1 =>
  (f_cell_Distance (Int.tmod t0 (64 : Int)) (Int.tmod t1 (64 : Int))).bind fun x2 =>
  (f_cell_Mirror (Int.tmod t0 (64 : Int))).bind fun x3 =>
  cond (decide ((64 : Int) ≤ x3)) (
    some false) (
    (f_cell_Distance (Int.tmod t1 (64 : Int)) (Int.tmod t0 (64 : Int))).bind fun x5 =>
    (cond (cond (x2 == x5) ((x2 == (0 : Int)) == ((Int.tmod t0 (64 : Int)) == (Int.tmod t1 (64 : Int)))) false) (f_cell_Distance (Int.tmod t0 (64 : Int)) (Int.tmod t2 (64 : Int))) (some (0 : Int))).bind fun x6 =>
    (cond (cond (x2 == x5) ((x2 == (0 : Int)) == ((Int.tmod t0 (64 : Int)) == (Int.tmod t1 (64 : Int)))) false) (f_cell_Distance (Int.tmod t2 (64 : Int)) (Int.tmod t1 (64 : Int))) (some (0 : Int))).bind fun x7 =>
    G ((cond (x2 == x5) ((x2 == (0 : Int)) == ((Int.tmod t0 (64 : Int)) == (Int.tmod t1 (64 : Int)))) false) = true → inR (x6 + x7)) <|
    (cond (cond x1 (cond (cond (cond (cond (x2 == x5) ((x2 == (0 : Int)) == ((Int.tmod t0 (64 : Int)) == (Int.tmod t1 (64 : Int)))) false) (decide (x2 ≤ (x6 + x7))) false) (decide ((0 : Int) ≤ x2)) false) (decide (x2 ≤ (6 : Int))) false) false) (f_cell_Mirror x3) (some (0 : Int))).bind fun x9 =>
    (cond (cond (cond x1 (cond (cond (cond (cond (x2 == x5) ((x2 == (0 : Int)) == ((Int.tmod t0 (64 : Int)) == (Int.tmod t1 (64 : Int)))) false) (decide (x2 ≤ (x6 + x7))) false) (decide ((0 : Int) ≤ x2)) false) (decide (x2 ≤ (6 : Int))) false) false) (x9 == (Int.tmod t0 (64 : Int))) false) (f_cell_Mirror (Int.tmod t1 (64 : Int))) (some (0 : Int))).bind fun x10 =>
    (cond (cond (cond x1 (cond (cond (cond (cond (x2 == x5) ((x2 == (0 : Int)) == ((Int.tmod t0 (64 : Int)) == (Int.tmod t1 (64 : Int)))) false) (decide (x2 ≤ (x6 + x7))) false) (decide ((0 : Int) ≤ x2)) false) (decide (x2 ≤ (6 : Int))) false) false) (x9 == (Int.tmod t0 (64 : Int))) false) (f_cell_Distance x3 x10) (some (0 : Int))).bind fun x11 =>
    (cond (cond (cond (cond x1 (cond (cond (cond (cond (x2 == x5) ((x2 == (0 : Int)) == ((Int.tmod t0 (64 : Int)) == (Int.tmod t1 (64 : Int)))) false) (decide (x2 ≤ (x6 + x7))) false) (decide ((0 : Int) ≤ x2)) false) (decide (x2 ≤ (6 : Int))) false) false) (x9 == (Int.tmod t0 (64 : Int))) false) (x11 == x2) false) (f_cell_Distance x3 (0 : Int)) (some (0 : Int))).bind fun x12 =>
    (cond (cond (cond (cond x1 (cond (cond (cond (cond (x2 == x5) ((x2 == (0 : Int)) == ((Int.tmod t0 (64 : Int)) == (Int.tmod t1 (64 : Int)))) false) (decide (x2 ≤ (x6 + x7))) false) (decide ((0 : Int) ≤ x2)) false) (decide (x2 ≤ (6 : Int))) false) false) (x9 == (Int.tmod t0 (64 : Int))) false) (x11 == x2) false) (f_cell_Distance (Int.tmod t0 (64 : Int)) (0 : Int)) (some (0 : Int))).bind fun x13 =>
    some (cond (cond (cond (cond x1 (cond (cond (cond (cond (x2 == x5) ((x2 == (0 : Int)) == ((Int.tmod t0 (64 : Int)) == (Int.tmod t1 (64 : Int)))) false) (decide (x2 ≤ (x6 + x7))) false) (decide ((0 : Int) ≤ x2)) false) (decide (x2 ≤ (6 : Int))) false) false) (x9 == (Int.tmod t0 (64 : Int))) false) (x11 == x2) false) (x12 == x13) false))
theorem f_L01_CellMetric_ok {t0 : Int} {t1 : Int} {t2 : Int} {r : Bool} (H : f_L01_CellMetric t0 t1 t2 = some r) : QSpec Try.prog 6 [.int .u8 t0, .int .u8 t1, .int .u8 t2] (.bool r) := by
  refine Spec.of_AW Try.func6 rfl (by simp [Try.ntmps6]) ?_
  rw [Try.ntmps6]
  unfold f_L01_CellMetric at H
  change AW _ _ _ [(0, .int .u8 t0), (1, .int .u8 t1), (2, .int .u8 t2)] [] _
  refine AW.regionSeq ?_
  refine OpsW.seg 1 [0, 1, 2] [] [(0, .int .u8 t0), (1, .int .u8 t1), (2, .int .u8 t2)] (by kernel_rfl) trivial ?_
  refine OpsW.nil ?_
  refine AW.regionSeq ?_
  obtain ⟨x1, hx1, H⟩ := bindS H
  refine OpsW.qcall rfl (by kernel_rfl) rfl rfl (glAll_sound trivial) .nil (f_L01_sanity_ok hx1) rfl ?_
  refine OpsW.seg 1 [7, 0, 1, 2] [] [(7, .bool x1), (0, .int .u8 t0), (1, .int .u8 t1), (2, .int .u8 t2)] (by kernel_rfl) trivial ?_
  refine OpsW.nil ?_
  refine AW.regionSeq ?_
  refine OpsW.seg 3 [8, 7, 1, 2] [(64 : Int) ≠ 0] [(8, .int .u8 (Int.tmod t0 (64 : Int))), (7, .bool x1), (1, .int .u8 t1), (2, .int .u8 t2)] (by kernel_rfl) ⟨(by decide), trivial⟩ ?_
  refine OpsW.nil ?_
  refine AW.regionSeq ?_
  refine OpsW.seg 3 [9, 8, 7, 2] [(64 : Int) ≠ 0] [(9, .int .u8 (Int.tmod t1 (64 : Int))), (8, .int .u8 (Int.tmod t0 (64 : Int))), (7, .bool x1), (2, .int .u8 t2)] (by kernel_rfl) ⟨(by decide), trivial⟩ ?_
  refine OpsW.nil ?_
  refine AW.regionSeq ?_
  refine OpsW.seg 3 [10, 9, 8, 7] [(64 : Int) ≠ 0] [(10, .int .u8 (Int.tmod t2 (64 : Int))), (9, .int .u8 (Int.tmod t1 (64 : Int))), (8, .int .u8 (Int.tmod t0 (64 : Int))), (7, .bool x1)] (by kernel_rfl) ⟨(by decide), trivial⟩ ?_
  refine OpsW.nil ?_
  refine AW.regionSeq ?_
  refine OpsW.seg 2 [22, 21, 10, 9, 8, 7] [] [(22, .int .u8 (Int.tmod t1 (64 : Int))), (21, .int .u8 (Int.tmod t0 (64 : Int))), (10, .int .u8 (Int.tmod t2 (64 : Int))), (9, .int .u8 (Int.tmod t1 (64 : Int))), (8, .int .u8 (Int.tmod t0 (64 : Int))), (7, .bool x1)] (by kernel_rfl) trivial ?_
  obtain ⟨x2, hx2, H⟩ := bindS H
  refine OpsW.qcall rfl (by kernel_rfl) rfl rfl (glAll_sound trivial) (.cons (.pur rfl) (.cons (.pur rfl) .nil)) (f_cell_Distance_ok hx2) rfl ?_
  refine OpsW.seg 1 [11, 10, 9, 8, 7] [] [(11, .int .i64 x2), (10, .int .u8 (Int.tmod t2 (64 : Int))), (9, .int .u8 (Int.tmod t1 (64 : Int))), (8, .int .u8 (Int.tmod t0 (64 : Int))), (7, .bool x1)] (by kernel_rfl) trivial ?_
  refine OpsW.nil ?_
  refine AW.regionSeq ?_
  refine OpsW.seg 1 [24, 11, 10, 9, 8, 7] [] [(24, .int .u8 (Int.tmod t0 (64 : Int))), (11, .int .i64 x2), (10, .int .u8 (Int.tmod t2 (64 : Int))), (9, .int .u8 (Int.tmod t1 (64 : Int))), (8, .int .u8 (Int.tmod t0 (64 : Int))), (7, .bool x1)] (by kernel_rfl) trivial ?_
  obtain ⟨x3, hx3, H⟩ := bindS H
  refine OpsW.qcall rfl (by kernel_rfl) rfl rfl (glAll_sound trivial) (.cons (.pur rfl) .nil) (f_cell_Mirror_ok hx3) rfl ?_
  refine OpsW.seg 1 [12, 11, 10, 9, 8, 7] [] [(12, .int .u8 x3), (11, .int .i64 x2), (10, .int .u8 (Int.tmod t2 (64 : Int))), (9, .int .u8 (Int.tmod t1 (64 : Int))), (8, .int .u8 (Int.tmod t0 (64 : Int))), (7, .bool x1)] (by kernel_rfl) trivial ?_
  refine OpsW.nil ?_
  refine AW.seq ?_
  refine AW.regionSeq ?_
  refine OpsW.seg 2 [27, 12, 11, 10, 9, 8, 7] [] [(27, .bool (decide ((64 : Int) ≤ x3))), (12, .int .u8 x3), (11, .int .i64 x2), (10, .int .u8 (Int.tmod t2 (64 : Int))), (9, .int .u8 (Int.tmod t1 (64 : Int))), (8, .int .u8 (Int.tmod t0 (64 : Int))), (7, .bool x1)] (by kernel_rfl) trivial ?_
  refine OpsW.nil ?_
  refine AW.cond (b := decide ((64 : Int) ≤ x3)) rfl (fun c4 => ?_) (fun c4 => ?_)
  · replace H := condT c4 H
    refine AW.regionSeq ?_
    refine OpsW.seg 1 [6] [] [(6, .bool false)] (by kernel_rfl) trivial ?_
    refine OpsW.nil ?_
    obtain rfl := Option.some.inj H
    refine AW.recast (env' := [(6, .bool false)]) (h' := []) (StC.pure (.cons .im .nil)) ?_
    refine AW.ret ?_
    try simp only [Ex.then, Ex.inBlock, Ex.noGoto, Ex.jump, reduceIte, Nat.reduceEqDiff, reduceCtorEq]
    refine Done.gen rfl (.tmp .nil) ?_
    show _ = _
    kernel_rfl
  · replace H := condF c4 H
    refine AW.skip ?_
    refine AW.regionSeq ?_
    refine OpsW.seg 3 [30, 29, 28, 12, 11, 10, 9, 8, 7] [] [(30, .int .u8 (Int.tmod t0 (64 : Int))), (29, .int .u8 (Int.tmod t1 (64 : Int))), (28, .int .i64 x2), (12, .int .u8 x3), (11, .int .i64 x2), (10, .int .u8 (Int.tmod t2 (64 : Int))), (9, .int .u8 (Int.tmod t1 (64 : Int))), (8, .int .u8 (Int.tmod t0 (64 : Int))), (7, .bool x1)] (by kernel_rfl) trivial ?_
    obtain ⟨x5, hx5, H⟩ := bindS H
    refine OpsW.qcall rfl (by kernel_rfl) rfl rfl (glAll_sound trivial) (.cons (.pur rfl) (.cons (.pur rfl) .nil)) (f_cell_Distance_ok hx5) rfl ?_
    refine OpsW.seg 13 [44, 43, 42, 41, 12, 11, 10, 9, 8, 7] [(x2 == x5) = true → (x2 == x5) = true, (x2 == x5) = true → (x2 == x5) = true, (x2 == x5) = true → (x2 == x5) = true, (x2 == x5) = true → (x2 == x5) = true, (x2 == x5) = true → (x2 == x5) = true, (x2 == x5) = true → (x2 == x5) = true] [(44, .cnd (cond (x2 == x5) ((x2 == (0 : Int)) == ((Int.tmod t0 (64 : Int)) == (Int.tmod t1 (64 : Int)))) false) (.int .u8 (Int.tmod t2 (64 : Int)))), (43, .cnd (cond (x2 == x5) ((x2 == (0 : Int)) == ((Int.tmod t0 (64 : Int)) == (Int.tmod t1 (64 : Int)))) false) (.int .u8 (Int.tmod t0 (64 : Int)))), (42, .cnd (cond (x2 == x5) ((x2 == (0 : Int)) == ((Int.tmod t0 (64 : Int)) == (Int.tmod t1 (64 : Int)))) false) (.int .i64 x2)), (41, .bool (cond (x2 == x5) ((x2 == (0 : Int)) == ((Int.tmod t0 (64 : Int)) == (Int.tmod t1 (64 : Int)))) false)), (12, .int .u8 x3), (11, .int .i64 x2), (10, .int .u8 (Int.tmod t2 (64 : Int))), (9, .int .u8 (Int.tmod t1 (64 : Int))), (8, .int .u8 (Int.tmod t0 (64 : Int))), (7, .bool x1)] (by kernel_rfl) ⟨(fun h => h), (fun h => h), (fun h => h), (fun h => h), (fun h => h), (fun h => by first | exact h | simpa using h), trivial⟩ ?_
    obtain ⟨x6, hx6, H⟩ := bindS H
    refine OpsW.gcall (c := cond (x2 == x5) ((x2 == (0 : Int)) == ((Int.tmod t0 (64 : Int)) == (Int.tmod t1 (64 : Int)))) false) (r := .int .i64 x6) [] rfl (by kernel_rfl) rfl rfl rfl rfl (fun hc => ⟨glAll_sound ⟨hc, hc, trivial⟩, (.cons (.pur rfl) (.cons (.pur rfl) .nil)), f_cell_Distance_ok (condT hc hx6), .inl ⟨rfl, rfl⟩⟩) ?_
    refine OpsW.seg 2 [47, 46, 45, 42, 41, 12, 11, 9, 8, 7] [] [(47, .cnd (cond (x2 == x5) ((x2 == (0 : Int)) == ((Int.tmod t0 (64 : Int)) == (Int.tmod t1 (64 : Int)))) false) (.int .u8 (Int.tmod t1 (64 : Int)))), (46, .cnd (cond (x2 == x5) ((x2 == (0 : Int)) == ((Int.tmod t0 (64 : Int)) == (Int.tmod t1 (64 : Int)))) false) (.int .u8 (Int.tmod t2 (64 : Int)))), (45, .cnd (cond (x2 == x5) ((x2 == (0 : Int)) == ((Int.tmod t0 (64 : Int)) == (Int.tmod t1 (64 : Int)))) false) (.int .i64 x6)), (42, .cnd (cond (x2 == x5) ((x2 == (0 : Int)) == ((Int.tmod t0 (64 : Int)) == (Int.tmod t1 (64 : Int)))) false) (.int .i64 x2)), (41, .bool (cond (x2 == x5) ((x2 == (0 : Int)) == ((Int.tmod t0 (64 : Int)) == (Int.tmod t1 (64 : Int)))) false)), (12, .int .u8 x3), (11, .int .i64 x2), (9, .int .u8 (Int.tmod t1 (64 : Int))), (8, .int .u8 (Int.tmod t0 (64 : Int))), (7, .bool x1)] (by kernel_rfl) trivial ?_
    obtain ⟨x7, hx7, H⟩ := bindS H
    refine OpsW.gcall (c := cond (x2 == x5) ((x2 == (0 : Int)) == ((Int.tmod t0 (64 : Int)) == (Int.tmod t1 (64 : Int)))) false) (r := .int .i64 x7) [] rfl (by kernel_rfl) rfl rfl rfl rfl (fun hc => ⟨glAll_sound ⟨hc, hc, trivial⟩, (.cons (.pur rfl) (.cons (.pur rfl) .nil)), f_cell_Distance_ok (condT hc hx7), .inl ⟨rfl, rfl⟩⟩) ?_
    obtain ⟨g8, H⟩ := G_some H
    refine OpsW.seg 12 [13, 12, 11, 9, 8, 7] [(cond (x2 == x5) ((x2 == (0 : Int)) == ((Int.tmod t0 (64 : Int)) == (Int.tmod t1 (64 : Int)))) false) = true → (cond (x2 == x5) ((x2 == (0 : Int)) == ((Int.tmod t0 (64 : Int)) == (Int.tmod t1 (64 : Int)))) false) = true, (cond (x2 == x5) ((x2 == (0 : Int)) == ((Int.tmod t0 (64 : Int)) == (Int.tmod t1 (64 : Int)))) false) = true → (cond (x2 == x5) ((x2 == (0 : Int)) == ((Int.tmod t0 (64 : Int)) == (Int.tmod t1 (64 : Int)))) false) = true, (cond (x2 == x5) ((x2 == (0 : Int)) == ((Int.tmod t0 (64 : Int)) == (Int.tmod t1 (64 : Int)))) false) = true → inR (x6 + x7), (cond (x2 == x5) ((x2 == (0 : Int)) == ((Int.tmod t0 (64 : Int)) == (Int.tmod t1 (64 : Int)))) false) = true → (cond (x2 == x5) ((x2 == (0 : Int)) == ((Int.tmod t0 (64 : Int)) == (Int.tmod t1 (64 : Int)))) false) = true, (cond (x2 == x5) ((x2 == (0 : Int)) == ((Int.tmod t0 (64 : Int)) == (Int.tmod t1 (64 : Int)))) false) = true → (cond (x2 == x5) ((x2 == (0 : Int)) == ((Int.tmod t0 (64 : Int)) == (Int.tmod t1 (64 : Int)))) false) = true, (cond (x2 == x5) ((x2 == (0 : Int)) == ((Int.tmod t0 (64 : Int)) == (Int.tmod t1 (64 : Int)))) false) = true → (cond (x2 == x5) ((x2 == (0 : Int)) == ((Int.tmod t0 (64 : Int)) == (Int.tmod t1 (64 : Int)))) false) = true, (cond (cond (x2 == x5) ((x2 == (0 : Int)) == ((Int.tmod t0 (64 : Int)) == (Int.tmod t1 (64 : Int)))) false) (decide (x2 ≤ (x6 + x7))) false) = true → (cond (cond (x2 == x5) ((x2 == (0 : Int)) == ((Int.tmod t0 (64 : Int)) == (Int.tmod t1 (64 : Int)))) false) (decide (x2 ≤ (x6 + x7))) false) = true, (cond (cond (x2 == x5) ((x2 == (0 : Int)) == ((Int.tmod t0 (64 : Int)) == (Int.tmod t1 (64 : Int)))) false) (decide (x2 ≤ (x6 + x7))) false) = true → (cond (cond (x2 == x5) ((x2 == (0 : Int)) == ((Int.tmod t0 (64 : Int)) == (Int.tmod t1 (64 : Int)))) false) (decide (x2 ≤ (x6 + x7))) false) = true, (cond (cond (cond (x2 == x5) ((x2 == (0 : Int)) == ((Int.tmod t0 (64 : Int)) == (Int.tmod t1 (64 : Int)))) false) (decide (x2 ≤ (x6 + x7))) false) (decide ((0 : Int) ≤ x2)) false) = true → (cond (cond (cond (x2 == x5) ((x2 == (0 : Int)) == ((Int.tmod t0 (64 : Int)) == (Int.tmod t1 (64 : Int)))) false) (decide (x2 ≤ (x6 + x7))) false) (decide ((0 : Int) ≤ x2)) false) = true, (cond (cond (cond (x2 == x5) ((x2 == (0 : Int)) == ((Int.tmod t0 (64 : Int)) == (Int.tmod t1 (64 : Int)))) false) (decide (x2 ≤ (x6 + x7))) false) (decide ((0 : Int) ≤ x2)) false) = true → (cond (cond (cond (x2 == x5) ((x2 == (0 : Int)) == ((Int.tmod t0 (64 : Int)) == (Int.tmod t1 (64 : Int)))) false) (decide (x2 ≤ (x6 + x7))) false) (decide ((0 : Int) ≤ x2)) false) = true] [(13, .bool (cond (cond (cond (cond (x2 == x5) ((x2 == (0 : Int)) == ((Int.tmod t0 (64 : Int)) == (Int.tmod t1 (64 : Int)))) false) (decide (x2 ≤ (x6 + x7))) false) (decide ((0 : Int) ≤ x2)) false) (decide (x2 ≤ (6 : Int))) false)), (12, .int .u8 x3), (11, .int .i64 x2), (9, .int .u8 (Int.tmod t1 (64 : Int))), (8, .int .u8 (Int.tmod t0 (64 : Int))), (7, .bool x1)] (by kernel_rfl) ⟨(fun h => h), (fun h => h), g8, (fun h => h), (fun h => h), (fun h => by first | exact h | simpa using h), (fun h => h), (fun h => by first | exact h | simpa using h), (fun h => h), (fun h => by first | exact h | simpa using h), trivial⟩ ?_
    refine OpsW.nil ?_
    refine AW.regionSeq ?_
    refine OpsW.seg 6 [65, 64, 12, 11, 9, 8] [x1 = true → x1 = true] [(65, .cnd (cond x1 (cond (cond (cond (cond (x2 == x5) ((x2 == (0 : Int)) == ((Int.tmod t0 (64 : Int)) == (Int.tmod t1 (64 : Int)))) false) (decide (x2 ≤ (x6 + x7))) false) (decide ((0 : Int) ≤ x2)) false) (decide (x2 ≤ (6 : Int))) false) false) (.int .u8 x3)), (64, .bool (cond x1 (cond (cond (cond (cond (x2 == x5) ((x2 == (0 : Int)) == ((Int.tmod t0 (64 : Int)) == (Int.tmod t1 (64 : Int)))) false) (decide (x2 ≤ (x6 + x7))) false) (decide ((0 : Int) ≤ x2)) false) (decide (x2 ≤ (6 : Int))) false) false)), (12, .int .u8 x3), (11, .int .i64 x2), (9, .int .u8 (Int.tmod t1 (64 : Int))), (8, .int .u8 (Int.tmod t0 (64 : Int)))] (by kernel_rfl) ⟨(fun h => by first | exact h | simpa using h), trivial⟩ ?_
    obtain ⟨x9, hx9, H⟩ := bindS H
    refine OpsW.gcall (c := cond x1 (cond (cond (cond (cond (x2 == x5) ((x2 == (0 : Int)) == ((Int.tmod t0 (64 : Int)) == (Int.tmod t1 (64 : Int)))) false) (decide (x2 ≤ (x6 + x7))) false) (decide ((0 : Int) ≤ x2)) false) (decide (x2 ≤ (6 : Int))) false) false) (r := .int .u8 x9) [] rfl (by kernel_rfl) rfl rfl rfl rfl (fun hc => ⟨glAll_sound ⟨hc, trivial⟩, (.cons (.pur rfl) .nil), f_cell_Mirror_ok (condT hc hx9), .inl ⟨rfl, rfl⟩⟩) ?_
    refine OpsW.seg 6 [72, 71, 70, 12, 11, 8] [(cond x1 (cond (cond (cond (cond (x2 == x5) ((x2 == (0 : Int)) == ((Int.tmod t0 (64 : Int)) == (Int.tmod t1 (64 : Int)))) false) (decide (x2 ≤ (x6 + x7))) false) (decide ((0 : Int) ≤ x2)) false) (decide (x2 ≤ (6 : Int))) false) false) = true → (cond x1 (cond (cond (cond (cond (x2 == x5) ((x2 == (0 : Int)) == ((Int.tmod t0 (64 : Int)) == (Int.tmod t1 (64 : Int)))) false) (decide (x2 ≤ (x6 + x7))) false) (decide ((0 : Int) ≤ x2)) false) (decide (x2 ≤ (6 : Int))) false) false) = true, (cond x1 (cond (cond (cond (cond (x2 == x5) ((x2 == (0 : Int)) == ((Int.tmod t0 (64 : Int)) == (Int.tmod t1 (64 : Int)))) false) (decide (x2 ≤ (x6 + x7))) false) (decide ((0 : Int) ≤ x2)) false) (decide (x2 ≤ (6 : Int))) false) false) = true → (cond x1 (cond (cond (cond (cond (x2 == x5) ((x2 == (0 : Int)) == ((Int.tmod t0 (64 : Int)) == (Int.tmod t1 (64 : Int)))) false) (decide (x2 ≤ (x6 + x7))) false) (decide ((0 : Int) ≤ x2)) false) (decide (x2 ≤ (6 : Int))) false) false) = true, (cond x1 (cond (cond (cond (cond (x2 == x5) ((x2 == (0 : Int)) == ((Int.tmod t0 (64 : Int)) == (Int.tmod t1 (64 : Int)))) false) (decide (x2 ≤ (x6 + x7))) false) (decide ((0 : Int) ≤ x2)) false) (decide (x2 ≤ (6 : Int))) false) false) = true → (cond x1 (cond (cond (cond (cond (x2 == x5) ((x2 == (0 : Int)) == ((Int.tmod t0 (64 : Int)) == (Int.tmod t1 (64 : Int)))) false) (decide (x2 ≤ (x6 + x7))) false) (decide ((0 : Int) ≤ x2)) false) (decide (x2 ≤ (6 : Int))) false) false) = true] [(72, .cnd (cond (cond x1 (cond (cond (cond (cond (x2 == x5) ((x2 == (0 : Int)) == ((Int.tmod t0 (64 : Int)) == (Int.tmod t1 (64 : Int)))) false) (decide (x2 ≤ (x6 + x7))) false) (decide ((0 : Int) ≤ x2)) false) (decide (x2 ≤ (6 : Int))) false) false) (x9 == (Int.tmod t0 (64 : Int))) false) (.int .u8 (Int.tmod t1 (64 : Int)))), (71, .cnd (cond (cond x1 (cond (cond (cond (cond (x2 == x5) ((x2 == (0 : Int)) == ((Int.tmod t0 (64 : Int)) == (Int.tmod t1 (64 : Int)))) false) (decide (x2 ≤ (x6 + x7))) false) (decide ((0 : Int) ≤ x2)) false) (decide (x2 ≤ (6 : Int))) false) false) (x9 == (Int.tmod t0 (64 : Int))) false) (.int .u8 x3)), (70, .bool (cond (cond x1 (cond (cond (cond (cond (x2 == x5) ((x2 == (0 : Int)) == ((Int.tmod t0 (64 : Int)) == (Int.tmod t1 (64 : Int)))) false) (decide (x2 ≤ (x6 + x7))) false) (decide ((0 : Int) ≤ x2)) false) (decide (x2 ≤ (6 : Int))) false) false) (x9 == (Int.tmod t0 (64 : Int))) false)), (12, .int .u8 x3), (11, .int .i64 x2), (8, .int .u8 (Int.tmod t0 (64 : Int)))] (by kernel_rfl) ⟨(fun h => h), (fun h => h), (fun h => by first | exact h | simpa using h), trivial⟩ ?_
    obtain ⟨x10, hx10, H⟩ := bindS H
    refine OpsW.gcall (c := cond (cond x1 (cond (cond (cond (cond (x2 == x5) ((x2 == (0 : Int)) == ((Int.tmod t0 (64 : Int)) == (Int.tmod t1 (64 : Int)))) false) (decide (x2 ≤ (x6 + x7))) false) (decide ((0 : Int) ≤ x2)) false) (decide (x2 ≤ (6 : Int))) false) false) (x9 == (Int.tmod t0 (64 : Int))) false) (r := .int .u8 x10) [] rfl (by kernel_rfl) rfl rfl rfl rfl (fun hc => ⟨glAll_sound ⟨hc, trivial⟩, (.cons (.pur rfl) .nil), f_cell_Mirror_ok (condT hc hx10), .inl ⟨rfl, rfl⟩⟩) ?_
    obtain ⟨x11, hx11, H⟩ := bindS H
    refine OpsW.gcall (c := cond (cond x1 (cond (cond (cond (cond (x2 == x5) ((x2 == (0 : Int)) == ((Int.tmod t0 (64 : Int)) == (Int.tmod t1 (64 : Int)))) false) (decide (x2 ≤ (x6 + x7))) false) (decide ((0 : Int) ≤ x2)) false) (decide (x2 ≤ (6 : Int))) false) false) (x9 == (Int.tmod t0 (64 : Int))) false) (r := .int .i64 x11) [] rfl (by kernel_rfl) rfl rfl rfl rfl (fun hc => ⟨glAll_sound ⟨hc, hc, trivial⟩, (.cons (.pur rfl) (.cons (.pur rfl) .nil)), f_cell_Distance_ok (condT hc hx11), .inl ⟨rfl, rfl⟩⟩) ?_
    refine OpsW.seg 5 [79, 78, 8] [(cond (cond x1 (cond (cond (cond (cond (x2 == x5) ((x2 == (0 : Int)) == ((Int.tmod t0 (64 : Int)) == (Int.tmod t1 (64 : Int)))) false) (decide (x2 ≤ (x6 + x7))) false) (decide ((0 : Int) ≤ x2)) false) (decide (x2 ≤ (6 : Int))) false) false) (x9 == (Int.tmod t0 (64 : Int))) false) = true → (cond (cond x1 (cond (cond (cond (cond (x2 == x5) ((x2 == (0 : Int)) == ((Int.tmod t0 (64 : Int)) == (Int.tmod t1 (64 : Int)))) false) (decide (x2 ≤ (x6 + x7))) false) (decide ((0 : Int) ≤ x2)) false) (decide (x2 ≤ (6 : Int))) false) false) (x9 == (Int.tmod t0 (64 : Int))) false) = true, (cond (cond x1 (cond (cond (cond (cond (x2 == x5) ((x2 == (0 : Int)) == ((Int.tmod t0 (64 : Int)) == (Int.tmod t1 (64 : Int)))) false) (decide (x2 ≤ (x6 + x7))) false) (decide ((0 : Int) ≤ x2)) false) (decide (x2 ≤ (6 : Int))) false) false) (x9 == (Int.tmod t0 (64 : Int))) false) = true → (cond (cond x1 (cond (cond (cond (cond (x2 == x5) ((x2 == (0 : Int)) == ((Int.tmod t0 (64 : Int)) == (Int.tmod t1 (64 : Int)))) false) (decide (x2 ≤ (x6 + x7))) false) (decide ((0 : Int) ≤ x2)) false) (decide (x2 ≤ (6 : Int))) false) false) (x9 == (Int.tmod t0 (64 : Int))) false) = true, (cond (cond x1 (cond (cond (cond (cond (x2 == x5) ((x2 == (0 : Int)) == ((Int.tmod t0 (64 : Int)) == (Int.tmod t1 (64 : Int)))) false) (decide (x2 ≤ (x6 + x7))) false) (decide ((0 : Int) ≤ x2)) false) (decide (x2 ≤ (6 : Int))) false) false) (x9 == (Int.tmod t0 (64 : Int))) false) = true → (cond (cond x1 (cond (cond (cond (cond (x2 == x5) ((x2 == (0 : Int)) == ((Int.tmod t0 (64 : Int)) == (Int.tmod t1 (64 : Int)))) false) (decide (x2 ≤ (x6 + x7))) false) (decide ((0 : Int) ≤ x2)) false) (decide (x2 ≤ (6 : Int))) false) false) (x9 == (Int.tmod t0 (64 : Int))) false) = true] [(79, .cnd (cond (cond (cond x1 (cond (cond (cond (cond (x2 == x5) ((x2 == (0 : Int)) == ((Int.tmod t0 (64 : Int)) == (Int.tmod t1 (64 : Int)))) false) (decide (x2 ≤ (x6 + x7))) false) (decide ((0 : Int) ≤ x2)) false) (decide (x2 ≤ (6 : Int))) false) false) (x9 == (Int.tmod t0 (64 : Int))) false) (x11 == x2) false) (.int .u8 x3)), (78, .bool (cond (cond (cond x1 (cond (cond (cond (cond (x2 == x5) ((x2 == (0 : Int)) == ((Int.tmod t0 (64 : Int)) == (Int.tmod t1 (64 : Int)))) false) (decide (x2 ≤ (x6 + x7))) false) (decide ((0 : Int) ≤ x2)) false) (decide (x2 ≤ (6 : Int))) false) false) (x9 == (Int.tmod t0 (64 : Int))) false) (x11 == x2) false)), (8, .int .u8 (Int.tmod t0 (64 : Int)))] (by kernel_rfl) ⟨(fun h => h), (fun h => h), (fun h => by first | exact h | simpa using h), trivial⟩ ?_
    obtain ⟨x12, hx12, H⟩ := bindS H
    refine OpsW.gcall (c := cond (cond (cond x1 (cond (cond (cond (cond (x2 == x5) ((x2 == (0 : Int)) == ((Int.tmod t0 (64 : Int)) == (Int.tmod t1 (64 : Int)))) false) (decide (x2 ≤ (x6 + x7))) false) (decide ((0 : Int) ≤ x2)) false) (decide (x2 ≤ (6 : Int))) false) false) (x9 == (Int.tmod t0 (64 : Int))) false) (x11 == x2) false) (r := .int .i64 x12) [] rfl (by kernel_rfl) rfl rfl rfl rfl (fun hc => ⟨glAll_sound ⟨hc, trivial⟩, (.cons (.pur rfl) (.cons (.pur rfl) .nil)), f_cell_Distance_ok (condT hc hx12), .inl ⟨rfl, rfl⟩⟩) ?_
    refine OpsW.seg 1 [81, 80, 78] [] [(81, .cnd (cond (cond (cond x1 (cond (cond (cond (cond (x2 == x5) ((x2 == (0 : Int)) == ((Int.tmod t0 (64 : Int)) == (Int.tmod t1 (64 : Int)))) false) (decide (x2 ≤ (x6 + x7))) false) (decide ((0 : Int) ≤ x2)) false) (decide (x2 ≤ (6 : Int))) false) false) (x9 == (Int.tmod t0 (64 : Int))) false) (x11 == x2) false) (.int .u8 (Int.tmod t0 (64 : Int)))), (80, .cnd (cond (cond (cond x1 (cond (cond (cond (cond (x2 == x5) ((x2 == (0 : Int)) == ((Int.tmod t0 (64 : Int)) == (Int.tmod t1 (64 : Int)))) false) (decide (x2 ≤ (x6 + x7))) false) (decide ((0 : Int) ≤ x2)) false) (decide (x2 ≤ (6 : Int))) false) false) (x9 == (Int.tmod t0 (64 : Int))) false) (x11 == x2) false) (.int .i64 x12)), (78, .bool (cond (cond (cond x1 (cond (cond (cond (cond (x2 == x5) ((x2 == (0 : Int)) == ((Int.tmod t0 (64 : Int)) == (Int.tmod t1 (64 : Int)))) false) (decide (x2 ≤ (x6 + x7))) false) (decide ((0 : Int) ≤ x2)) false) (decide (x2 ≤ (6 : Int))) false) false) (x9 == (Int.tmod t0 (64 : Int))) false) (x11 == x2) false))] (by kernel_rfl) trivial ?_
    obtain ⟨x13, hx13, H⟩ := bindS H
    refine OpsW.gcall (c := cond (cond (cond x1 (cond (cond (cond (cond (x2 == x5) ((x2 == (0 : Int)) == ((Int.tmod t0 (64 : Int)) == (Int.tmod t1 (64 : Int)))) false) (decide (x2 ≤ (x6 + x7))) false) (decide ((0 : Int) ≤ x2)) false) (decide (x2 ≤ (6 : Int))) false) false) (x9 == (Int.tmod t0 (64 : Int))) false) (x11 == x2) false) (r := .int .i64 x13) [] rfl (by kernel_rfl) rfl rfl rfl rfl (fun hc => ⟨glAll_sound ⟨hc, trivial⟩, (.cons (.pur rfl) (.cons (.pur rfl) .nil)), f_cell_Distance_ok (condT hc hx13), .inl ⟨rfl, rfl⟩⟩) ?_
    refine OpsW.seg 3 [6] [(cond (cond (cond x1 (cond (cond (cond (cond (x2 == x5) ((x2 == (0 : Int)) == ((Int.tmod t0 (64 : Int)) == (Int.tmod t1 (64 : Int)))) false) (decide (x2 ≤ (x6 + x7))) false) (decide ((0 : Int) ≤ x2)) false) (decide (x2 ≤ (6 : Int))) false) false) (x9 == (Int.tmod t0 (64 : Int))) false) (x11 == x2) false) = true → (cond (cond (cond x1 (cond (cond (cond (cond (x2 == x5) ((x2 == (0 : Int)) == ((Int.tmod t0 (64 : Int)) == (Int.tmod t1 (64 : Int)))) false) (decide (x2 ≤ (x6 + x7))) false) (decide ((0 : Int) ≤ x2)) false) (decide (x2 ≤ (6 : Int))) false) false) (x9 == (Int.tmod t0 (64 : Int))) false) (x11 == x2) false) = true, (cond (cond (cond x1 (cond (cond (cond (cond (x2 == x5) ((x2 == (0 : Int)) == ((Int.tmod t0 (64 : Int)) == (Int.tmod t1 (64 : Int)))) false) (decide (x2 ≤ (x6 + x7))) false) (decide ((0 : Int) ≤ x2)) false) (decide (x2 ≤ (6 : Int))) false) false) (x9 == (Int.tmod t0 (64 : Int))) false) (x11 == x2) false) = true → (cond (cond (cond x1 (cond (cond (cond (cond (x2 == x5) ((x2 == (0 : Int)) == ((Int.tmod t0 (64 : Int)) == (Int.tmod t1 (64 : Int)))) false) (decide (x2 ≤ (x6 + x7))) false) (decide ((0 : Int) ≤ x2)) false) (decide (x2 ≤ (6 : Int))) false) false) (x9 == (Int.tmod t0 (64 : Int))) false) (x11 == x2) false) = true, (cond (cond (cond x1 (cond (cond (cond (cond (x2 == x5) ((x2 == (0 : Int)) == ((Int.tmod t0 (64 : Int)) == (Int.tmod t1 (64 : Int)))) false) (decide (x2 ≤ (x6 + x7))) false) (decide ((0 : Int) ≤ x2)) false) (decide (x2 ≤ (6 : Int))) false) false) (x9 == (Int.tmod t0 (64 : Int))) false) (x11 == x2) false) = true → (cond (cond (cond x1 (cond (cond (cond (cond (x2 == x5) ((x2 == (0 : Int)) == ((Int.tmod t0 (64 : Int)) == (Int.tmod t1 (64 : Int)))) false) (decide (x2 ≤ (x6 + x7))) false) (decide ((0 : Int) ≤ x2)) false) (decide (x2 ≤ (6 : Int))) false) false) (x9 == (Int.tmod t0 (64 : Int))) false) (x11 == x2) false) = true] [(6, .bool (cond (cond (cond (cond x1 (cond (cond (cond (cond (x2 == x5) ((x2 == (0 : Int)) == ((Int.tmod t0 (64 : Int)) == (Int.tmod t1 (64 : Int)))) false) (decide (x2 ≤ (x6 + x7))) false) (decide ((0 : Int) ≤ x2)) false) (decide (x2 ≤ (6 : Int))) false) false) (x9 == (Int.tmod t0 (64 : Int))) false) (x11 == x2) false) (x12 == x13) false))] (by kernel_rfl) ⟨(fun h => h), (fun h => h), (fun h => by first | exact h | simpa using h), trivial⟩ ?_
    refine OpsW.nil ?_
    obtain rfl := Option.some.inj H
    refine AW.recast (env' := [(6, .bool (cond (cond (cond (cond x1 (cond (cond (cond (cond (x2 == x5) ((x2 == (0 : Int)) == ((Int.tmod t0 (64 : Int)) == (Int.tmod t1 (64 : Int)))) false) (decide (x2 ≤ (x6 + x7))) false) (decide ((0 : Int) ≤ x2)) false) (decide (x2 ≤ (6 : Int))) false) false) (x9 == (Int.tmod t0 (64 : Int))) false) (x11 == x2) false) (x12 == x13) false))]) (h' := []) (StC.pure (.cons .im .nil)) ?_
    refine AW.ret ?_
    try simp only [Ex.then, Ex.inBlock, Ex.noGoto, Ex.jump, reduceIte, Nat.reduceEqDiff, reduceCtorEq]
    refine Done.gen rfl (.tmp .nil) ?_
    show _ = _
    kernel_rfl
def f_L01_CellDoubt_k1 (loop7 : (Int × Int) → Option Bool) (v6 : Int) (v9 : Int) : Option Bool :=
  G (inR (v6 + (1 : Int))) <|
  loop7 (v9, v6 + (1 : Int))
def f_L01_CellDoubt_b1 (x1 : Bool) (x2 : S_Felt) (x3 : Int) (loop7 : (Int × Int) → Option Bool) (v5 : Int) (v6 : Int) : Option Bool :=
  cond (decide (v6 < (64 : Int))) (
    (f_cell_Cost x2 (IntKind.wrap .u8 v6)).bind fun x11 =>
    (f_cell_Distance x2.Up (IntKind.wrap .u8 v6)).bind fun x12 =>
    (f_cell_Fits x2 (IntKind.wrap .u8 v6)).bind fun x13 =>
    G ((!(cond (cond (x13 != (x11 == (0 : Int))) true (decide (x11 < (0 : Int)))) true (decide (x12 < x11)))) = true → inR (x11 + x3)) <|
    cond (cond (cond (cond (x13 != (x11 == (0 : Int))) true (decide (x11 < (0 : Int)))) true (decide (x12 < x11))) true (decide ((x11 + x3) < x12))) (
      some false) (
      cond (x11 == (0 : Int)) (
        G (inR (v5 + (1 : Int))) <|
        f_L01_CellDoubt_k1 loop7 v6 (v5 + (1 : Int))) (
        f_L01_CellDoubt_k1 loop7 v6 v5))) (
    G (x1 = true → 0 ≤ x3) <|
    some (cond x1 (v5 == (bShl .i64 (1 : Int) x3)) false))
def f_L01_CellDoubt (t0 : List Int) : Option Bool :=
  (f_L01_sanity).bind fun x1 =>
  (f_R01_Felt (t0.getD 0 (0 : Int)) (t0.getD 1 (0 : Int))).bind fun x2 =>
  (f_cell_Distance x2.Maybe (0 : Int)).bind fun x3 =>
  cond (cond (decide (x3 < (0 : Int))) true (decide ((6 : Int) < x3))) (
    some false) (
    iter (fun loop (s : Int × Int) => f_L01_CellDoubt_b1 x1 x2 x3 loop s.1 s.2) 1000000 ((0 : Int), (0 : Int)))
theorem f_L01_CellDoubt_ok {t0 : List Int} {r : Bool} (H : f_L01_CellDoubt t0 = some r) : QSpec Try.prog 7 [.agg [.int .u8 (t0.getD 0 (0 : Int)), .int .u8 (t0.getD 1 (0 : Int))]] (.bool r) := by
  refine Spec.of_AW Try.func7 rfl (by simp [Try.ntmps7]) ?_
  rw [Try.ntmps7]
  unfold f_L01_CellDoubt at H
  change AW _ _ _ [(0, .agg [.int .u8 (t0.getD 0 (0 : Int)), .int .u8 (t0.getD 1 (0 : Int))])] [] _
  refine AW.regionSeq ?_
  refine OpsW.box rfl rfl rfl 1 rfl (okCb_sound (by kernel_rfl)) ?_
  change OpsW _ _ _ _ _ [(1, ⟨0, true, 22, 2, [.int .u8 (t0.getD 0 (0 : Int)), .int .u8 (t0.getD 1 (0 : Int))]⟩)] _
  refine OpsW.seg 1 [1] [] [(1, .ref 1 0 0)] (by kernel_rfl) trivial ?_
  refine OpsW.recast (env' := [(1, .ref 1 0 0)]) (h' := [(1, ⟨0, true, 22, 2, [.int .u8 (t0.getD 0 (0 : Int)), .int .u8 (t0.getD 1 (0 : Int))]⟩)]) (StC.mk (phi [(1, some 1)]) (.old rfl rfl rfl rfl rfl (.cons .im (.cons .im .nil)) .nil) rfl (.cons (.ref rfl rfl rfl rfl rfl) .nil)) ?_
  refine OpsW.nil ?_
  refine AW.regionSeq ?_
  obtain ⟨x1, hx1, H⟩ := bindS H
  refine OpsW.qcall rfl (by kernel_rfl) rfl rfl (glAll_sound trivial) .nil (f_L01_sanity_ok hx1) rfl ?_
  refine OpsW.seg 1 [3, 1] [] [(3, .bool x1), (1, .ref 1 0 0)] (by kernel_rfl) trivial ?_
  refine OpsW.nil ?_
  refine AW.regionSeq ?_
  refine OpsW.seg 4 [15, 13, 3] [0 ≤ (0 : Int) ∧ (0 : Int) < (2 : Int), 0 ≤ (1 : Int) ∧ (1 : Int) < (2 : Int)] [(15, .int .u8 (t0.getD 1 (0 : Int))), (13, .int .u8 (t0.getD 0 (0 : Int))), (3, .bool x1)] (by kernel_rfl) ⟨(by decide), (by decide), trivial⟩ ?_
  obtain ⟨x2, hx2, H⟩ := bindS H
  refine OpsW.qcall rfl (by kernel_rfl) rfl rfl (glAll_sound trivial) (.cons (.pur rfl) (.cons (.pur rfl) .nil)) (f_R01_Felt_ok hx2) rfl ?_
  refine OpsW.alloc' rfl rfl rfl 4 rfl (by kernel_rfl : zc Try.prog 34 = some [.int .u8 0, .int .u8 0]) (by kernel_rfl) ?_
  refine OpsW.store rfl rfl rfl rfl trivial trivial rfl rfl rfl (by kernel_rfl) (okCb_sound (by kernel_rfl)) (Nat.le_of_ble_eq_true (by kernel_rfl)) ?_
  change OpsW _ _ _ _ _ [(4, ⟨0, true, 34, 2, [.int .u8 x2.Up, .int .u8 x2.Maybe]⟩), (4, ⟨0, true, 34, 2, [.int .u8 (0 : Int), .int .u8 (0 : Int)]⟩), (1, ⟨0, true, 22, 2, [.int .u8 (t0.getD 0 (0 : Int)), .int .u8 (t0.getD 1 (0 : Int))]⟩)] _
  refine OpsW.seg 0 [4, 3] [] [(4, .ref 4 0 0), (3, .bool x1)] (by kernel_rfl) trivial ?_
  refine OpsW.recast (env' := [(4, .ref 4 0 0), (3, .bool x1)]) (h' := [(4, ⟨0, true, 34, 2, [.int .u8 x2.Up, .int .u8 x2.Maybe]⟩)]) (StC.mk (phi [(4, some 4)]) (.old rfl rfl rfl rfl rfl (.cons .im (.cons .im .nil)) .nil) rfl (.cons (.ref rfl rfl rfl rfl rfl) (.cons .im .nil))) ?_
  refine OpsW.nil ?_
  refine AW.regionSeq ?_
  refine OpsW.seg 2 [18, 4, 3] [] [(18, .int .u8 x2.Maybe), (4, .ref 4 0 0), (3, .bool x1)] (by kernel_rfl) trivial ?_
  obtain ⟨x3, hx3, H⟩ := bindS H
  refine OpsW.qcall rfl (by kernel_rfl) rfl rfl (glAll_sound trivial) (.cons (.pur rfl) (.cons (.pur rfl) .nil)) (f_cell_Distance_ok hx3) rfl ?_
  refine OpsW.seg 1 [5, 4, 3] [] [(5, .int .i64 x3), (4, .ref 4 0 0), (3, .bool x1)] (by kernel_rfl) trivial ?_
  refine OpsW.nil ?_
  refine AW.seq ?_
  refine AW.regionSeq ?_
  refine OpsW.seg 6 [25, 5, 4, 3] [(!(decide (x3 < (0 : Int)))) = true → (!(decide (x3 < (0 : Int)))) = true, (decide (x3 < (0 : Int))) = false → (!(decide (x3 < (0 : Int)))) = true] [(25, .bool (cond (decide (x3 < (0 : Int))) true (decide ((6 : Int) < x3)))), (5, .int .i64 x3), (4, .ref 4 0 0), (3, .bool x1)] (by kernel_rfl) ⟨(fun h => h), (fun h => by first | exact h | simpa using h), trivial⟩ ?_
  refine OpsW.nil ?_
  refine AW.cond (b := cond (decide (x3 < (0 : Int))) true (decide ((6 : Int) < x3))) rfl (fun c4 => ?_) (fun c4 => ?_)
  · replace H := condT c4 H
    refine AW.regionSeq ?_
    refine OpsW.seg 1 [2] [] [(2, .bool false)] (by kernel_rfl) trivial ?_
    refine OpsW.nil ?_
    obtain rfl := Option.some.inj H
    refine AW.recast (env' := [(2, .bool false)]) (h' := []) (StC.pure (.cons .im .nil)) ?_
    refine AW.ret ?_
    try simp only [Ex.then, Ex.inBlock, Ex.noGoto, Ex.jump, reduceIte, Nat.reduceEqDiff, reduceCtorEq]
    refine Done.gen rfl (.tmp .nil) ?_
    show _ = _
    kernel_rfl
  · replace H := condF c4 H
    refine AW.skip ?_
    refine AW.regionSeq ?_
    refine OpsW.seg 1 [6, 5, 4, 3] [] [(6, .int .i64 (0 : Int)), (5, .int .i64 x3), (4, .ref 4 0 0), (3, .bool x1)] (by kernel_rfl) trivial ?_
    refine OpsW.nil ?_
    refine AW.seq ?_
    refine AW.regionSeq ?_
    refine OpsW.seg 1 [7, 6, 5, 4, 3] [] [(7, .int .i64 (0 : Int)), (6, .int .i64 (0 : Int)), (5, .int .i64 x3), (4, .ref 4 0 0), (3, .bool x1)] (by kernel_rfl) trivial ?_
    refine OpsW.nil ?_
    refine AW.block ?_
    refine AW.iterK (fun loop (s : Int × Int) => f_L01_CellDoubt_b1 x1 x2 x3 loop s.1 s.2) r (fun (s : Int × Int) => [(3, .bool x1), (4, .ref 4 0 0), (5, .int .i64 x3), (6, .int .i64 s.1), (7, .int .i64 s.2)]) (fun (s : Int × Int) => [(4, ⟨0, true, 34, 2, [.int .u8 x2.Up, .int .u8 x2.Maybe]⟩)]) ?_ 1000000 ((0 : Int), (0 : Int)) H (StC.mk (phi [(4, some 4)]) (.old rfl rfl rfl rfl rfl (.cons .im (.cons .im .nil)) .nil) rfl (.cons .im (.cons (.ref rfl rfl rfl rfl rfl) (.cons .im (.cons .im (.cons .im .nil))))))
    intro loop7 s H
    obtain ⟨v5, v6⟩ := s
    change f_L01_CellDoubt_b1 x1 x2 x3 loop7 v5 v6 = some r at H
    unfold f_L01_CellDoubt_b1 at H
    change AW _ _ _ [(3, .bool x1), (4, .ref 4 0 0), (5, .int .i64 x3), (6, .int .i64 v5), (7, .int .i64 v6)] [(4, ⟨0, true, 34, 2, [.int .u8 x2.Up, .int .u8 x2.Maybe]⟩)] _
    refine AW.seq ?_
    refine AW.regionSeq ?_
    refine OpsW.seg 2 [27, 3, 4, 5, 6, 7] [] [(27, .bool (decide (v6 < (64 : Int)))), (3, .bool x1), (4, .ref 4 0 0), (5, .int .i64 x3), (6, .int .i64 v5), (7, .int .i64 v6)] (by kernel_rfl) trivial ?_
    refine OpsW.nil ?_
    refine AW.cond (b := decide (v6 < (64 : Int))) rfl (fun c8 => ?_) (fun c8 => ?_)
    · replace H := condT c8 H
      refine AW.skip ?_
      refine AW.joinK (fun (y : Int) => f_L01_CellDoubt_k1 loop7 v6 y) r (fun (y : Int) => [(3, .bool x1), (4, .ref 4 0 0), (5, .int .i64 x3), (6, .int .i64 y), (7, .int .i64 v6)]) (fun (y : Int) => [(4, ⟨0, true, 34, 2, [.int .u8 x2.Up, .int .u8 x2.Maybe]⟩)]) ?_ ?_
      · refine AW.block ?_
        refine AW.regionSeq ?_
        refine OpsW.seg 3 [8, 3, 4, 5, 6, 7] [] [(8, .int .u8 (IntKind.wrap .u8 v6)), (3, .bool x1), (4, .ref 4 0 0), (5, .int .i64 x3), (6, .int .i64 v5), (7, .int .i64 v6)] (by kernel_rfl) trivial ?_
        refine OpsW.nil ?_
        refine AW.regionSeq ?_
        refine OpsW.seg 2 [33, 32, 8, 3, 4, 5, 6, 7] [] [(33, .int .u8 (IntKind.wrap .u8 v6)), (32, .agg [.int .u8 x2.Up, .int .u8 x2.Maybe]), (8, .int .u8 (IntKind.wrap .u8 v6)), (3, .bool x1), (4, .ref 4 0 0), (5, .int .i64 x3), (6, .int .i64 v5), (7, .int .i64 v6)] (by kernel_rfl) trivial ?_
        obtain ⟨x11, hx11, H⟩ := bindS H
        refine OpsW.qcall rfl (by kernel_rfl) rfl rfl (glAll_sound trivial) (.cons (.pur rfl) (.cons (.pur rfl) .nil)) (f_cell_Cost_ok hx11) rfl ?_
        refine OpsW.seg 1 [9, 8, 3, 4, 5, 6, 7] [] [(9, .int .i64 x11), (8, .int .u8 (IntKind.wrap .u8 v6)), (3, .bool x1), (4, .ref 4 0 0), (5, .int .i64 x3), (6, .int .i64 v5), (7, .int .i64 v6)] (by kernel_rfl) trivial ?_
        refine OpsW.nil ?_
        refine AW.regionSeq ?_
        refine OpsW.seg 3 [37, 36, 9, 8, 3, 4, 5, 6, 7] [] [(37, .int .u8 (IntKind.wrap .u8 v6)), (36, .int .u8 x2.Up), (9, .int .i64 x11), (8, .int .u8 (IntKind.wrap .u8 v6)), (3, .bool x1), (4, .ref 4 0 0), (5, .int .i64 x3), (6, .int .i64 v5), (7, .int .i64 v6)] (by kernel_rfl) trivial ?_
        obtain ⟨x12, hx12, H⟩ := bindS H
        refine OpsW.qcall rfl (by kernel_rfl) rfl rfl (glAll_sound trivial) (.cons (.pur rfl) (.cons (.pur rfl) .nil)) (f_cell_Distance_ok hx12) rfl ?_
        refine OpsW.seg 1 [10, 9, 8, 3, 4, 5, 6, 7] [] [(10, .int .i64 x12), (9, .int .i64 x11), (8, .int .u8 (IntKind.wrap .u8 v6)), (3, .bool x1), (4, .ref 4 0 0), (5, .int .i64 x3), (6, .int .i64 v5), (7, .int .i64 v6)] (by kernel_rfl) trivial ?_
        refine OpsW.nil ?_
        refine AW.seq ?_
        refine AW.regionSeq ?_
        refine OpsW.seg 2 [40, 39, 10, 9, 3, 4, 5, 6, 7] [] [(40, .int .u8 (IntKind.wrap .u8 v6)), (39, .agg [.int .u8 x2.Up, .int .u8 x2.Maybe]), (10, .int .i64 x12), (9, .int .i64 x11), (3, .bool x1), (4, .ref 4 0 0), (5, .int .i64 x3), (6, .int .i64 v5), (7, .int .i64 v6)] (by kernel_rfl) trivial ?_
        obtain ⟨x13, hx13, H⟩ := bindS H
        refine OpsW.qcall rfl (by kernel_rfl) rfl rfl (glAll_sound trivial) (.cons (.pur rfl) (.cons (.pur rfl) .nil)) (f_cell_Fits_ok hx13) rfl ?_
        obtain ⟨g14, H⟩ := G_some H
        refine OpsW.seg 19 [60, 9, 3, 4, 5, 6, 7] [(!(x13 != (x11 == (0 : Int)))) = true → (!(x13 != (x11 == (0 : Int)))) = true, (x13 != (x11 == (0 : Int))) = false → (!(x13 != (x11 == (0 : Int)))) = true, (!(cond (x13 != (x11 == (0 : Int))) true (decide (x11 < (0 : Int))))) = true → (!(cond (x13 != (x11 == (0 : Int))) true (decide (x11 < (0 : Int))))) = true, (!(cond (x13 != (x11 == (0 : Int))) true (decide (x11 < (0 : Int))))) = true → (!(cond (x13 != (x11 == (0 : Int))) true (decide (x11 < (0 : Int))))) = true, (cond (x13 != (x11 == (0 : Int))) true (decide (x11 < (0 : Int)))) = false → (!(cond (x13 != (x11 == (0 : Int))) true (decide (x11 < (0 : Int))))) = true, (!(cond (cond (x13 != (x11 == (0 : Int))) true (decide (x11 < (0 : Int)))) true (decide (x12 < x11)))) = true → (!(cond (cond (x13 != (x11 == (0 : Int))) true (decide (x11 < (0 : Int)))) true (decide (x12 < x11)))) = true, (!(cond (cond (x13 != (x11 == (0 : Int))) true (decide (x11 < (0 : Int)))) true (decide (x12 < x11)))) = true → (!(cond (cond (x13 != (x11 == (0 : Int))) true (decide (x11 < (0 : Int)))) true (decide (x12 < x11)))) = true, (!(cond (cond (x13 != (x11 == (0 : Int))) true (decide (x11 < (0 : Int)))) true (decide (x12 < x11)))) = true → inR (x11 + x3), (!(cond (cond (x13 != (x11 == (0 : Int))) true (decide (x11 < (0 : Int)))) true (decide (x12 < x11)))) = true → (!(cond (cond (x13 != (x11 == (0 : Int))) true (decide (x11 < (0 : Int)))) true (decide (x12 < x11)))) = true, (!(cond (cond (x13 != (x11 == (0 : Int))) true (decide (x11 < (0 : Int)))) true (decide (x12 < x11)))) = true → (!(cond (cond (x13 != (x11 == (0 : Int))) true (decide (x11 < (0 : Int)))) true (decide (x12 < x11)))) = true, (cond (cond (x13 != (x11 == (0 : Int))) true (decide (x11 < (0 : Int)))) true (decide (x12 < x11))) = false → (!(cond (cond (x13 != (x11 == (0 : Int))) true (decide (x11 < (0 : Int)))) true (decide (x12 < x11)))) = true] [(60, .bool (cond (cond (cond (x13 != (x11 == (0 : Int))) true (decide (x11 < (0 : Int)))) true (decide (x12 < x11))) true (decide ((x11 + x3) < x12)))), (9, .int .i64 x11), (3, .bool x1), (4, .ref 4 0 0), (5, .int .i64 x3), (6, .int .i64 v5), (7, .int .i64 v6)] (by kernel_rfl) ⟨(fun h => h), (fun h => by first | exact h | simpa using h), (fun h => h), (fun h => h), (fun h => by first | exact h | simpa using h), (fun h => h), (fun h => h), g14, (fun h => h), (fun h => h), (fun h => by first | exact h | simpa using h), trivial⟩ ?_
        refine OpsW.nil ?_
        refine AW.cond (b := cond (cond (cond (x13 != (x11 == (0 : Int))) true (decide (x11 < (0 : Int)))) true (decide (x12 < x11))) true (decide ((x11 + x3) < x12))) rfl (fun c15 => ?_) (fun c15 => ?_)
        · replace H := condT c15 H
          refine AW.regionSeq ?_
          refine OpsW.seg 1 [2] [] [(2, .bool false)] (by kernel_rfl) trivial ?_
          refine OpsW.nil ?_
          obtain rfl := Option.some.inj H
          refine AW.recast (env' := [(2, .bool false)]) (h' := []) (StC.pure (.cons .im .nil)) ?_
          refine AW.ret ?_
          try simp only [Ex.then, Ex.inBlock, Ex.noGoto, Ex.jump, reduceIte, Nat.reduceEqDiff, reduceCtorEq]
          refine Done.gen rfl (.tmp .nil) ?_
          show _ = _
          kernel_rfl
        · replace H := condF c15 H
          refine AW.skip ?_
          refine AW.regionSeq ?_
          refine OpsW.seg 2 [62, 3, 4, 5, 6, 7] [] [(62, .bool (x11 == (0 : Int))), (3, .bool x1), (4, .ref 4 0 0), (5, .int .i64 x3), (6, .int .i64 v5), (7, .int .i64 v6)] (by kernel_rfl) trivial ?_
          refine OpsW.nil ?_
          refine AW.cond (b := x11 == (0 : Int)) rfl (fun c16 => ?_) (fun c16 => ?_)
          · replace H := condT c16 H
            refine AW.region ?_
            obtain ⟨g17, H⟩ := G_some H
            refine OpsW.seg 3 [6, 3, 4, 5, 7] [inR (v5 + (1 : Int))] [(6, .int .i64 (v5 + (1 : Int))), (3, .bool x1), (4, .ref 4 0 0), (5, .int .i64 x3), (7, .int .i64 v6)] (by kernel_rfl) ⟨g17, trivial⟩ ?_
            refine OpsW.nil ?_
            show ∃ y, _ ∧ StC _ _ _ _
            exact ⟨v5 + (1 : Int), H, (StC.mk (phi [(4, some 4)]) (.old rfl rfl rfl rfl rfl (.cons .im (.cons .im .nil)) .nil) rfl (.cons .im (.cons (.ref rfl rfl rfl rfl rfl) (.cons .im (.cons .im (.cons .im .nil))))))⟩
          · replace H := condF c16 H
            refine AW.skip ?_
            show ∃ y, _ ∧ StC _ _ _ _
            exact ⟨v5, H, (StC.mk (phi [(4, some 4)]) (.old rfl rfl rfl rfl rfl (.cons .im (.cons .im .nil)) .nil) rfl (.cons .im (.cons (.ref rfl rfl rfl rfl rfl) (.cons .im (.cons .im (.cons .im .nil))))))⟩
      · intro v9 H
        change f_L01_CellDoubt_k1 loop7 v6 v9 = some r at H
        unfold f_L01_CellDoubt_k1 at H
        change AW _ _ _ [(3, .bool x1), (4, .ref 4 0 0), (5, .int .i64 x3), (6, .int .i64 v9), (7, .int .i64 v6)] [(4, ⟨0, true, 34, 2, [.int .u8 x2.Up, .int .u8 x2.Maybe]⟩)] _
        refine AW.region ?_
        obtain ⟨g10, H⟩ := G_some H
        refine OpsW.seg 3 [7, 3, 4, 5, 6] [inR (v6 + (1 : Int))] [(7, .int .i64 (v6 + (1 : Int))), (3, .bool x1), (4, .ref 4 0 0), (5, .int .i64 x3), (6, .int .i64 v9)] (by kernel_rfl) ⟨g10, trivial⟩ ?_
        refine OpsW.nil ?_
        show ∃ y, _ ∧ StC _ _ _ _
        exact ⟨(v9, v6 + (1 : Int)), H, (StC.mk (phi [(4, some 4)]) (.old rfl rfl rfl rfl rfl (.cons .im (.cons .im .nil)) .nil) rfl (.cons .im (.cons (.ref rfl rfl rfl rfl rfl) (.cons .im (.cons .im (.cons .im .nil))))))⟩
    · replace H := condF c8 H
      refine AW.exit ?_
      refine AW.regionSeq ?_
      obtain ⟨g18, H⟩ := G_some H
      refine OpsW.seg 8 [2] [x1 = true → x1 = true, x1 = true → 0 ≤ x3, x1 = true → x1 = true, x1 = true → x1 = true, x1 = true → x1 = true] [(2, .bool (cond x1 (v5 == (bShl .i64 (1 : Int) x3)) false))] (by kernel_rfl) ⟨(fun h => h), g18, (fun h => h), (fun h => h), (fun h => by first | exact h | simpa using h), trivial⟩ ?_
      refine OpsW.nil ?_
      obtain rfl := Option.some.inj H
      refine AW.recast (env' := [(2, .bool (cond x1 (v5 == (bShl .i64 (1 : Int) x3)) false))]) (h' := []) (StC.pure (.cons .im .nil)) ?_
      refine AW.ret ?_
      try simp only [Ex.then, Ex.inBlock, Ex.noGoto, Ex.jump, reduceIte, Nat.reduceEqDiff, reduceCtorEq]
      refine Done.gen rfl (.tmp .nil) ?_
      show _ = _
      kernel_rfl
end Go.Proofs.Ytbdmehgppgfiaaa
