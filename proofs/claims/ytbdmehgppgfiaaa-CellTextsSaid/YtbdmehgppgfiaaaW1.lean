/-
  Written by gen.py (own work): typed functions, and that the program computes them.
-/
import Derived.Test.YtbdmehgppgfiaaaGen9
import Derived.Test.YtbdmehgppgfiaaaChecked
set_option linter.unusedSimpArgs false
set_option linter.unusedVariables false
set_option maxRecDepth 100000
namespace Go.Proofs.Ytbdmehgppgfiaaa
open Go.Abs
structure S_Felt where
  Up : Int
  Maybe : Int
  deriving DecidableEq
def eS_Felt (x : S_Felt) : List IV := [.val (.int .u8 x.Up), .val (.int .u8 x.Maybe)]
def zS_Felt : S_Felt := ⟨(0 : Int), (0 : Int)⟩
theorem E29 : Elem Try.prog 29 24 1 1 [.int .u8 0] := ⟨by kernel_rfl, by kernel_rfl, by kernel_rfl, rfl, rfl, by decide⟩
theorem E45 : Elem Try.prog 45 5 1 1 [.int .u8 0] := ⟨by kernel_rfl, by kernel_rfl, by kernel_rfl, rfl, rfl, by decide⟩
def f_cell_Valid (t0 : Int) : Option Bool :=
  some (decide (t0 < (64 : Int)))
theorem f_cell_Valid_ok {t0 : Int} {r : Bool} (H : f_cell_Valid t0 = some r) : QSpec Try.prog 17 [.int .u8 t0] (.bool r) := by
  refine Spec.of_AW Try.func17 rfl (by simp [Try.ntmps17]) ?_
  rw [Try.ntmps17]
  unfold f_cell_Valid at H
  change AW _ _ _ [(0, .int .u8 t0)] [] _
  refine AW.regionSeq ?_
  refine OpsW.seg 1 [0] [] [(0, .int .u8 t0)] (by kernel_rfl) trivial ?_
  refine OpsW.nil ?_
  refine AW.regionSeq ?_
  refine OpsW.seg 3 [2] [] [(2, .bool (decide (t0 < (64 : Int))))] (by kernel_rfl) trivial ?_
  refine OpsW.nil ?_
  obtain rfl := Option.some.inj H
  refine AW.recast (env' := [(2, .bool (decide (t0 < (64 : Int))))]) (h' := []) (StC.pure (.cons .im .nil)) ?_
  refine AW.ret ?_
  try simp only [Ex.then, Ex.inBlock, Ex.noGoto, Ex.jump, reduceIte, Nat.reduceEqDiff, reduceCtorEq]
  refine Done.gen rfl (.tmp .nil) ?_
  show _ = _
  kernel_rfl
def f_R01_Valid (t0 : Int) : Option Bool :=
  some (decide (t0 < (64 : Int)))
theorem f_R01_Valid_ok {t0 : Int} {r : Bool} (H : f_R01_Valid t0 = some r) : QSpec Try.prog 18 [.int .u8 t0] (.bool r) := by
  refine Spec.of_AW Try.func18 rfl (by simp [Try.ntmps18]) ?_
  rw [Try.ntmps18]
  unfold f_R01_Valid at H
  change AW _ _ _ [(0, .int .u8 t0)] [] _
  refine AW.regionSeq ?_
  refine OpsW.seg 1 [0] [] [(0, .int .u8 t0)] (by kernel_rfl) trivial ?_
  refine OpsW.nil ?_
  refine AW.regionSeq ?_
  refine OpsW.seg 3 [2] [] [(2, .bool (decide (t0 < (64 : Int))))] (by kernel_rfl) trivial ?_
  refine OpsW.nil ?_
  obtain rfl := Option.some.inj H
  refine AW.recast (env' := [(2, .bool (decide (t0 < (64 : Int))))]) (h' := []) (StC.pure (.cons .im .nil)) ?_
  refine AW.ret ?_
  try simp only [Ex.then, Ex.inBlock, Ex.noGoto, Ex.jump, reduceIte, Nat.reduceEqDiff, reduceCtorEq]
  refine Done.gen rfl (.tmp .nil) ?_
  show _ = _
  kernel_rfl
def f_R01_Has (t0 : Int) (t1 : Int) : Option Bool :=
  G (inR (t1 - (1 : Int))) <|
  G (0 ≤ (t1 - (1 : Int))) <|
  some ((bAnd .u8 (bShr .u8 t0 (t1 - (1 : Int))) (1 : Int)) == (1 : Int))
theorem f_R01_Has_ok {t0 : Int} {t1 : Int} {r : Bool} (H : f_R01_Has t0 t1 = some r) : QSpec Try.prog 35 [.int .u8 t0, .int .i64 t1] (.bool r) := by
  refine Spec.of_AW Try.func35 rfl (by simp [Try.ntmps35]) ?_
  rw [Try.ntmps35]
  unfold f_R01_Has at H
  change AW _ _ _ [(0, .int .u8 t0), (1, .int .i64 t1)] [] _
  refine AW.regionSeq ?_
  refine OpsW.seg 1 [0, 1] [] [(0, .int .u8 t0), (1, .int .i64 t1)] (by kernel_rfl) trivial ?_
  refine OpsW.nil ?_
  refine AW.regionSeq ?_
  obtain ⟨g1, H⟩ := G_some H
  obtain ⟨g2, H⟩ := G_some H
  refine OpsW.seg 7 [4] [inR (t1 - (1 : Int)), 0 ≤ (t1 - (1 : Int))] [(4, .bool ((bAnd .u8 (bShr .u8 t0 (t1 - (1 : Int))) (1 : Int)) == (1 : Int)))] (by kernel_rfl) ⟨g1, g2, trivial⟩ ?_
  refine OpsW.nil ?_
  obtain rfl := Option.some.inj H
  refine AW.recast (env' := [(4, .bool ((bAnd .u8 (bShr .u8 t0 (t1 - (1 : Int))) (1 : Int)) == (1 : Int)))]) (h' := []) (StC.pure (.cons .im .nil)) ?_
  refine AW.ret ?_
  try simp only [Ex.then, Ex.inBlock, Ex.noGoto, Ex.jump, reduceIte, Nat.reduceEqDiff, reduceCtorEq]
  refine Done.gen rfl (.tmp .nil) ?_
  show _ = _
  kernel_rfl
def f_R01_characters  : Option ByteArray :=
  some (⟨#[32, 65, 49, 66, 39, 75, 50, 76, 64, 67, 73, 70, 47, 77, 83, 80, 34, 69, 51, 72, 57, 79, 54, 82, 94, 68, 74, 71, 62, 78, 84, 81, 44, 42, 53, 60, 45, 85, 56, 86, 46, 37, 91, 36, 43, 88, 33, 38, 59, 58, 52, 92, 48, 90, 55, 40, 95, 63, 87, 93, 35, 89, 41, 61]⟩ : ByteArray)
theorem f_R01_characters_ok  {r : ByteArray} (H : f_R01_characters = some r) : QSpec Try.prog 36 [] (.string r) := by
  refine Spec.of_AW Try.func36 rfl (by simp [Try.ntmps36]) ?_
  rw [Try.ntmps36]
  unfold f_R01_characters at H
  change AW _ _ _ [] [] _
  refine AW.regionSeq ?_
  refine OpsW.seg 1 [] [] [] (by kernel_rfl) trivial ?_
  refine OpsW.nil ?_
  refine AW.regionSeq ?_
  refine OpsW.seg 1 [0] [] [(0, .string (⟨#[32, 65, 49, 66, 39, 75, 50, 76, 64, 67, 73, 70, 47, 77, 83, 80, 34, 69, 51, 72, 57, 79, 54, 82, 94, 68, 74, 71, 62, 78, 84, 81, 44, 42, 53, 60, 45, 85, 56, 86, 46, 37, 91, 36, 43, 88, 33, 38, 59, 58, 52, 92, 48, 90, 55, 40, 95, 63, 87, 93, 35, 89, 41, 61]⟩ : ByteArray))] (by kernel_rfl) trivial ?_
  refine OpsW.nil ?_
  obtain rfl := Option.some.inj H
  refine AW.recast (env' := [(0, .string (⟨#[32, 65, 49, 66, 39, 75, 50, 76, 64, 67, 73, 70, 47, 77, 83, 80, 34, 69, 51, 72, 57, 79, 54, 82, 94, 68, 74, 71, 62, 78, 84, 81, 44, 42, 53, 60, 45, 85, 56, 86, 46, 37, 91, 36, 43, 88, 33, 38, 59, 58, 52, 92, 48, 90, 55, 40, 95, 63, 87, 93, 35, 89, 41, 61]⟩ : ByteArray))]) (h' := []) (StC.pure (.cons .im .nil)) ?_
  refine AW.ret ?_
  try simp only [Ex.then, Ex.inBlock, Ex.noGoto, Ex.jump, reduceIte, Nat.reduceEqDiff, reduceCtorEq]
  refine Done.gen rfl (.tmp .nil) ?_
  show _ = _
  kernel_rfl
def f_cell_Ascii (t0 : Int) : Option Int :=
  G (0 ≤ (bAnd .u8 t0 (63 : Int)) ∧ (bAnd .u8 t0 (63 : Int)) < ((⟨#[32, 65, 49, 66, 39, 75, 50, 76, 64, 67, 73, 70, 47, 77, 83, 80, 34, 69, 51, 72, 57, 79, 54, 82, 94, 68, 74, 71, 62, 78, 84, 81, 44, 42, 53, 60, 45, 85, 56, 86, 46, 37, 91, 36, 43, 88, 33, 38, 59, 58, 52, 92, 48, 90, 55, 40, 95, 63, 87, 93, 35, 89, 41, 61]⟩ : ByteArray).size : Int)) <|
  some (bAt (⟨#[32, 65, 49, 66, 39, 75, 50, 76, 64, 67, 73, 70, 47, 77, 83, 80, 34, 69, 51, 72, 57, 79, 54, 82, 94, 68, 74, 71, 62, 78, 84, 81, 44, 42, 53, 60, 45, 85, 56, 86, 46, 37, 91, 36, 43, 88, 33, 38, 59, 58, 52, 92, 48, 90, 55, 40, 95, 63, 87, 93, 35, 89, 41, 61]⟩ : ByteArray) (bAnd .u8 t0 (63 : Int)))
theorem f_cell_Ascii_ok {t0 : Int} {r : Int} (H : f_cell_Ascii t0 = some r) : QSpec Try.prog 21 [.int .u8 t0] (.int .u8 r) := by
  refine Spec.of_AW Try.func21 rfl (by simp [Try.ntmps21]) ?_
  rw [Try.ntmps21]
  unfold f_cell_Ascii at H
  change AW _ _ _ [(0, .int .u8 t0)] [] _
  refine AW.regionSeq ?_
  refine OpsW.seg 1 [0] [] [(0, .int .u8 t0)] (by kernel_rfl) trivial ?_
  refine OpsW.nil ?_
  refine AW.regionSeq ?_
  obtain ⟨g1, H⟩ := G_some H
  refine OpsW.seg 4 [2] [0 ≤ (bAnd .u8 t0 (63 : Int)) ∧ (bAnd .u8 t0 (63 : Int)) < ((⟨#[32, 65, 49, 66, 39, 75, 50, 76, 64, 67, 73, 70, 47, 77, 83, 80, 34, 69, 51, 72, 57, 79, 54, 82, 94, 68, 74, 71, 62, 78, 84, 81, 44, 42, 53, 60, 45, 85, 56, 86, 46, 37, 91, 36, 43, 88, 33, 38, 59, 58, 52, 92, 48, 90, 55, 40, 95, 63, 87, 93, 35, 89, 41, 61]⟩ : ByteArray).size : Int)] [(2, .int .u8 (bAt (⟨#[32, 65, 49, 66, 39, 75, 50, 76, 64, 67, 73, 70, 47, 77, 83, 80, 34, 69, 51, 72, 57, 79, 54, 82, 94, 68, 74, 71, 62, 78, 84, 81, 44, 42, 53, 60, 45, 85, 56, 86, 46, 37, 91, 36, 43, 88, 33, 38, 59, 58, 52, 92, 48, 90, 55, 40, 95, 63, 87, 93, 35, 89, 41, 61]⟩ : ByteArray) (bAnd .u8 t0 (63 : Int))))] (by kernel_rfl) ⟨g1, trivial⟩ ?_
  refine OpsW.nil ?_
  obtain rfl := Option.some.inj H
  refine AW.recast (env' := [(2, .int .u8 (bAt (⟨#[32, 65, 49, 66, 39, 75, 50, 76, 64, 67, 73, 70, 47, 77, 83, 80, 34, 69, 51, 72, 57, 79, 54, 82, 94, 68, 74, 71, 62, 78, 84, 81, 44, 42, 53, 60, 45, 85, 56, 86, 46, 37, 91, 36, 43, 88, 33, 38, 59, 58, 52, 92, 48, 90, 55, 40, 95, 63, 87, 93, 35, 89, 41, 61]⟩ : ByteArray) (bAnd .u8 t0 (63 : Int))))]) (h' := []) (StC.pure (.cons .im .nil)) ?_
  refine AW.ret ?_
  try simp only [Ex.then, Ex.inBlock, Ex.noGoto, Ex.jump, reduceIte, Nat.reduceEqDiff, reduceCtorEq]
  refine Done.gen rfl (.tmp .nil) ?_
  show _ = _
  kernel_rfl
def f_R01_Ascii (t0 : Int) : Option Int :=
  (f_R01_characters).bind fun x1 =>
  G (0 ≤ (Int.tmod t0 (64 : Int)) ∧ (Int.tmod t0 (64 : Int)) < (x1.size : Int)) <|
  some (bAt x1 (Int.tmod t0 (64 : Int)))
theorem f_R01_Ascii_ok {t0 : Int} {r : Int} (H : f_R01_Ascii t0 = some r) : QSpec Try.prog 22 [.int .u8 t0] (.int .u8 r) := by
  refine Spec.of_AW Try.func22 rfl (by simp [Try.ntmps22]) ?_
  rw [Try.ntmps22]
  unfold f_R01_Ascii at H
  change AW _ _ _ [(0, .int .u8 t0)] [] _
  refine AW.regionSeq ?_
  refine OpsW.seg 1 [0] [] [(0, .int .u8 t0)] (by kernel_rfl) trivial ?_
  refine OpsW.nil ?_
  refine AW.regionSeq ?_
  obtain ⟨x1, hx1, H⟩ := bindS H
  refine OpsW.qcall rfl (by kernel_rfl) rfl rfl (glAll_sound trivial) .nil (f_R01_characters_ok hx1) rfl ?_
  obtain ⟨g2, H⟩ := G_some H
  refine OpsW.seg 4 [2] [(64 : Int) ≠ 0, 0 ≤ (Int.tmod t0 (64 : Int)) ∧ (Int.tmod t0 (64 : Int)) < (x1.size : Int)] [(2, .int .u8 (bAt x1 (Int.tmod t0 (64 : Int))))] (by kernel_rfl) ⟨(by decide), g2, trivial⟩ ?_
  refine OpsW.nil ?_
  obtain rfl := Option.some.inj H
  refine AW.recast (env' := [(2, .int .u8 (bAt x1 (Int.tmod t0 (64 : Int))))]) (h' := []) (StC.pure (.cons .im .nil)) ?_
  refine AW.ret ?_
  try simp only [Ex.then, Ex.inBlock, Ex.noGoto, Ex.jump, reduceIte, Nat.reduceEqDiff, reduceCtorEq]
  refine Done.gen rfl (.tmp .nil) ?_
  show _ = _
  kernel_rfl
def f_cell_byBytes_s1 : ByteArray := (⟨#[32, 65, 49, 66, 39, 75, 50, 76, 64, 67, 73, 70, 47, 77, 83, 80, 34, 69, 51, 72, 57, 79, 54, 82, 94, 68, 74, 71, 62, 78, 84, 81, 44, 42, 53, 60, 45, 85, 56, 86, 46, 37, 91, 36, 43, 88, 33, 38, 59, 58, 52, 92, 48, 90, 55, 40, 95, 63, 87, 93, 35, 89, 41, 61]⟩ : ByteArray)
def f_cell_byBytes_k1 (v9 : List Int) (v10 : List Int) : Option (List Int) :=
  G (v10.length = 256) <|
  G (v9.length = 256) <|
  some v10
def f_cell_byBytes_b1 (loop13 : (Nat × ((List Int) × (List Int))) → Option (List Int)) (p14 : Nat) (v9 : List Int) (v10 : List Int) : Option (List Int) :=
  cond (decide (p14 < f_cell_byBytes_s1.size)) (
    G (0 ≤ (IntKind.wrap .u8 ((Utf8.decode f_cell_byBytes_s1 p14).1)) ∧ (IntKind.wrap .u8 ((Utf8.decode f_cell_byBytes_s1 p14).1)) < (256 : Int)) <|
    G (v10.length = 256) <|
    loop13 (p14 + (Utf8.decode f_cell_byBytes_s1 p14).2, v9, v10.set (IntKind.wrap .u8 ((Utf8.decode f_cell_byBytes_s1 p14).1)).toNat (IntKind.wrap .u8 (p14 : Int)))) (
    f_cell_byBytes_k1 v9 v10)
def f_cell_byBytes_b2 (loop4 : ((List Int) × (List Int) × Int) → Option (List Int)) (v1 : List Int) (v2 : List Int) (v3 : Int) : Option (List Int) :=
  cond (decide (v3 < (256 : Int))) (
    G (0 ≤ v3 ∧ v3 < (256 : Int)) <|
    G (v2.length = 256) <|
    G (inR (v3 + (1 : Int))) <|
    loop4 (v1, v2.set v3.toNat (255 : Int), v3 + (1 : Int))) (
    iter (fun loop (s : Nat × ((List Int) × (List Int))) => f_cell_byBytes_b1 loop s.1 s.2.1 s.2.2) 1000000 (0, v1, v2))
def f_cell_byBytes  : Option (List Int) :=
  iter (fun loop (s : (List Int) × (List Int) × Int) => f_cell_byBytes_b2 loop s.1 s.2.1 s.2.2) 1000000 (List.replicate 256 (0 : Int), List.replicate 256 (0 : Int), (0 : Int))
theorem f_cell_byBytes_ok  {r : List Int} (H : f_cell_byBytes = some r) : QSpec Try.prog 34 [] (.agg ((r.flatMap (eI .u8)).map .im)) := by
  refine Spec.of_AW Try.func34 rfl (by simp [Try.ntmps34]) ?_
  rw [Try.ntmps34]
  unfold f_cell_byBytes at H
  change AW _ _ _ [] [] _
  refine AW.regionSeq ?_
  refine OpsW.allocT (z := (zc Try.prog 52).getD []) (enc := eI .u8) (0 : Int) 256 256 rfl rfl rfl 0 rfl (by kernel_rfl) (by kernel_rfl) (by kernel_rfl) (by kernel_rfl) ?_
  refine OpsW.recast (env' := [(0, .ref 0 0 0)]) (h' := [(0, ⟨0, true, 52, 256, ((List.replicate 256 (0 : Int)).flatMap (eI .u8)).map .im⟩)]) (StC.mk (phi [(0, some 0)]) (.old rfl rfl rfl rfl rfl (CstL.ims _) .nil) rfl (.cons (.ref rfl rfl rfl rfl rfl) .nil)) ?_
  refine OpsW.nil ?_
  refine AW.regionSeq ?_
  refine OpsW.allocT (z := (zc Try.prog 52).getD []) (enc := eI .u8) (0 : Int) 256 256 rfl rfl rfl 1 rfl (by kernel_rfl) (by kernel_rfl) (by kernel_rfl) (by kernel_rfl) ?_
  refine OpsW.recast (env' := [(1, .ref 1 0 0), (0, .ref 0 0 0)]) (h' := [(0, ⟨0, true, 52, 256, ((List.replicate 256 (0 : Int)).flatMap (eI .u8)).map .im⟩), (1, ⟨0, true, 52, 256, ((List.replicate 256 (0 : Int)).flatMap (eI .u8)).map .im⟩)]) (StC.mk (phi [(0, some 0), (1, some 1)]) (.old rfl rfl rfl rfl rfl (CstL.ims _) (.old rfl rfl rfl rfl rfl (CstL.ims _) .nil)) rfl (.cons (.ref rfl rfl rfl rfl rfl) (.cons (.ref rfl rfl rfl rfl rfl) .nil))) ?_
  refine OpsW.nil ?_
  refine AW.seq ?_
  refine AW.regionSeq ?_
  refine OpsW.seg 1 [5, 1, 0] [] [(5, .int .i64 (0 : Int)), (1, .ref 1 0 0), (0, .ref 0 0 0)] (by kernel_rfl) trivial ?_
  refine OpsW.nil ?_
  refine AW.block ?_
  refine AW.iterK (fun loop (s : (List Int) × (List Int) × Int) => f_cell_byBytes_b2 loop s.1 s.2.1 s.2.2) r (fun (s : (List Int) × (List Int) × Int) => [(0, .ref 0 0 0), (1, .ref 1 0 0), (5, .int .i64 s.2.2)]) (fun (s : (List Int) × (List Int) × Int) => [(0, ⟨0, true, 52, 256, (s.1.flatMap (eI .u8)).map .im⟩), (1, ⟨0, true, 52, 256, (s.2.1.flatMap (eI .u8)).map .im⟩)]) ?_ 1000000 (List.replicate 256 (0 : Int), List.replicate 256 (0 : Int), (0 : Int)) H (StC.mk (phi [(0, some 0), (1, some 1)]) (.old rfl rfl rfl rfl rfl (CstL.ims _) (.old rfl rfl rfl rfl rfl (CstL.ims _) .nil)) rfl (.cons (.ref rfl rfl rfl rfl rfl) (.cons (.ref rfl rfl rfl rfl rfl) (.cons .im .nil))))
  intro loop4 s H
  obtain ⟨v1, v2, v3⟩ := s
  change f_cell_byBytes_b2 loop4 v1 v2 v3 = some r at H
  unfold f_cell_byBytes_b2 at H
  change AW _ _ _ [(0, .ref 0 0 0), (1, .ref 1 0 0), (5, .int .i64 v3)] [(0, ⟨0, true, 52, 256, (v1.flatMap (eI .u8)).map .im⟩), (1, ⟨0, true, 52, 256, (v2.flatMap (eI .u8)).map .im⟩)] _
  refine AW.regionSeq ?_
  refine OpsW.seg 1 [6, 0, 1, 5] [] [(6, .bool (decide (v3 < (256 : Int)))), (0, .ref 0 0 0), (1, .ref 1 0 0), (5, .int .i64 v3)] (by kernel_rfl) trivial ?_
  refine OpsW.nil ?_
  refine AW.seq ?_
  refine AW.cond (b := decide (v3 < (256 : Int))) rfl (fun c5 => ?_) (fun c5 => ?_)
  · replace H := condT c5 H
    refine AW.skip ?_
    refine AW.seq ?_
    refine AW.block ?_
    refine AW.regionSeq ?_
    refine OpsW.seg 2 [2, 0, 1, 5] [] [(2, .int .i64 v3), (0, .ref 0 0 0), (1, .ref 1 0 0), (5, .int .i64 v3)] (by kernel_rfl) trivial ?_
    refine OpsW.nil ?_
    refine AW.region ?_
    obtain ⟨g6, H⟩ := G_some H
    refine OpsW.seg 2 [9, 0, 1, 5] [0 ≤ v3 ∧ v3 < (256 : Int)] [(9, .ref 1 0 (0 + v3.toNat * 1)), (0, .ref 0 0 0), (1, .ref 1 0 0), (5, .int .i64 v3)] (by kernel_rfl) ⟨g6, trivial⟩ ?_
    obtain ⟨g7, H⟩ := G_some H
    refine OpsW.storeA (enc := eI .u8) (k := 1) (0 : Int) (255 : Int) [.val (.int .u8 (255 : Int))] v3.toNat 0 rfl rfl rfl (by exact congrArg (AV.ref 1 0) (by first | omega | rfl | (simp; omega))) trivial trivial rfl (fun _ => rfl) rfl (by kernel_rfl) (okCb_sound (by kernel_rfl)) (ltA (n := 256) g6 g7) (Nat.le_of_ble_eq_true (by kernel_rfl)) rfl ?_
    refine OpsW.seg 0 [0, 1, 5] [] [(0, .ref 0 0 0), (1, .ref 1 0 0), (5, .int .i64 v3)] (by kernel_rfl) trivial ?_
    refine OpsW.recast (env' := [(0, .ref 0 0 0), (1, .ref 1 0 0), (5, .int .i64 v3)]) (h' := [(0, ⟨0, true, 52, 256, (v1.flatMap (eI .u8)).map .im⟩), (1, ⟨0, true, 52, 256, ((v2.set v3.toNat (255 : Int)).flatMap (eI .u8)).map .im⟩)]) (StC.mk (phi [(0, some 0), (1, some 1)]) (.old rfl rfl rfl rfl rfl (CstL.ims _) (.old rfl rfl rfl rfl rfl (CstL.ims _) .nil)) rfl (.cons (.ref rfl rfl rfl rfl rfl) (.cons (.ref rfl rfl rfl rfl rfl) (.cons .im .nil)))) ?_
    refine OpsW.nil ?_
    refine AW.region ?_
    obtain ⟨g8, H⟩ := G_some H
    refine OpsW.seg 2 [5, 0, 1] [inR (v3 + (1 : Int))] [(5, .int .i64 (v3 + (1 : Int))), (0, .ref 0 0 0), (1, .ref 1 0 0)] (by kernel_rfl) ⟨g8, trivial⟩ ?_
    refine OpsW.nil ?_
    show ∃ y, _ ∧ StC _ _ _ _
    exact ⟨(v1, v2.set v3.toNat (255 : Int), v3 + (1 : Int)), H, (StC.mk (phi [(0, some 0), (1, some 1)]) (.old rfl rfl rfl rfl rfl (CstL.ims _) (.old rfl rfl rfl rfl rfl (CstL.ims _) .nil)) rfl (.cons (.ref rfl rfl rfl rfl rfl) (.cons (.ref rfl rfl rfl rfl rfl) (.cons .im .nil))))⟩
  · replace H := condF c5 H
    refine AW.exit ?_
    refine AW.joinK (fun (y : (List Int) × (List Int)) => f_cell_byBytes_k1 y.1 y.2) r (fun (y : (List Int) × (List Int)) => [(0, .ref 0 0 0), (1, .ref 1 0 0)]) (fun (y : (List Int) × (List Int)) => [(0, ⟨0, true, 52, 256, (y.1.flatMap (eI .u8)).map .im⟩), (1, ⟨0, true, 52, 256, (y.2.flatMap (eI .u8)).map .im⟩)]) ?_ ?_
    · refine AW.strLoop f_cell_byBytes_s1 (fun loop (s : Nat × ((List Int) × (List Int))) => f_cell_byBytes_b1 loop s.1 s.2.1 s.2.2) r (fun (s : (List Int) × (List Int)) => [(0, .ref 0 0 0), (1, .ref 1 0 0)]) (fun (s : (List Int) × (List Int)) => [(0, ⟨0, true, 52, 256, (s.1.flatMap (eI .u8)).map .im⟩), (1, ⟨0, true, 52, 256, (s.2.flatMap (eI .u8)).map .im⟩)]) (fun (y : (List Int) × (List Int)) => f_cell_byBytes_k1 y.1 y.2) rfl rfl rfl rfl (by kernel_rfl) rfl rfl rfl rfl rfl rfl (by decide) (by decide) (by decide) (by decide) (fun s => ⟨rfl, rfl, rfl⟩) (fun s => (StC.mk (phi [(0, some 0), (1, some 1)]) (.old rfl rfl rfl rfl rfl (CstL.ims _) (.old rfl rfl rfl rfl rfl (CstL.ims _) .nil)) rfl (.cons (.ref rfl rfl rfl rfl rfl) (.cons (.ref rfl rfl rfl rfl rfl) .nil)))) ?_ ?_ 1000000 (v1, v2) H (StC.mk (phi [(0, some 0), (1, some 1)]) (.old rfl rfl rfl rfl rfl (CstL.ims _) (.old rfl rfl rfl rfl rfl (CstL.ims _) .nil)) rfl (.cons (.ref rfl rfl rfl rfl rfl) (.cons (.ref rfl rfl rfl rfl rfl) .nil)))
      · intro loop pos s hp H
        exact condF (decide_eq_false hp) H
      · intro g15 loop13 p14 s hp H
        obtain ⟨v9, v10⟩ := s
        change f_cell_byBytes_b1 loop13 p14 v9 v10 = some r at H
        unfold f_cell_byBytes_b1 at H
        replace H := condT (decide_eq_true hp) H
        change AW _ _ _ [(13, .bool true), (12, .tup [.bool true, .int .i64 (p14 : Int), .int .i32 ((Utf8.decode f_cell_byBytes_s1 p14).1)]), (11, ptrV g15), (0, .ref 0 0 0), (1, .ref 1 0 0)] [(0, ⟨0, true, 52, 256, (v9.flatMap (eI .u8)).map .im⟩), (1, ⟨0, true, 52, 256, (v10.flatMap (eI .u8)).map .im⟩)] _
        refine AW.block ?_
        refine AW.regionSeq ?_
        refine OpsW.seg 4 [4, 3, 11, 0, 1] [] [(4, .int .i32 ((Utf8.decode f_cell_byBytes_s1 p14).1)), (3, .int .i64 (p14 : Int)), (11, ptrV g15), (0, .ref 0 0 0), (1, .ref 1 0 0)] (by kernel_rfl) trivial ?_
        refine OpsW.nil ?_
        refine AW.region ?_
        obtain ⟨g16, H⟩ := G_some H
        refine OpsW.seg 5 [20, 19, 11, 0, 1] [0 ≤ (IntKind.wrap .u8 ((Utf8.decode f_cell_byBytes_s1 p14).1)) ∧ (IntKind.wrap .u8 ((Utf8.decode f_cell_byBytes_s1 p14).1)) < (256 : Int)] [(20, .ref 1 0 (0 + (IntKind.wrap .u8 ((Utf8.decode f_cell_byBytes_s1 p14).1)).toNat * 1)), (19, .int .u8 (IntKind.wrap .u8 (p14 : Int))), (11, ptrV g15), (0, .ref 0 0 0), (1, .ref 1 0 0)] (by kernel_rfl) ⟨g16, trivial⟩ ?_
        obtain ⟨g17, H⟩ := G_some H
        refine OpsW.storeA (enc := eI .u8) (k := 1) (0 : Int) (IntKind.wrap .u8 (p14 : Int)) [.val (.int .u8 (IntKind.wrap .u8 (p14 : Int)))] (IntKind.wrap .u8 ((Utf8.decode f_cell_byBytes_s1 p14).1)).toNat 0 rfl rfl rfl (by exact congrArg (AV.ref 1 0) (by first | omega | rfl | (simp; omega))) trivial trivial rfl (fun _ => rfl) rfl (by kernel_rfl) (okCb_sound (by kernel_rfl)) (ltA (n := 256) g16 g17) (Nat.le_of_ble_eq_true (by kernel_rfl)) rfl ?_
        refine OpsW.seg 0 [11, 0, 1] [] [(11, ptrV g15), (0, .ref 0 0 0), (1, .ref 1 0 0)] (by kernel_rfl) trivial ?_
        refine OpsW.recast (env' := [(11, ptrV g15), (0, .ref 0 0 0), (1, .ref 1 0 0)]) (h' := [(0, ⟨0, true, 52, 256, (v9.flatMap (eI .u8)).map .im⟩), (1, ⟨0, true, 52, 256, ((v10.set (IntKind.wrap .u8 ((Utf8.decode f_cell_byBytes_s1 p14).1)).toNat (IntKind.wrap .u8 (p14 : Int))).flatMap (eI .u8)).map .im⟩)]) (StC.mk (phi [(0, some 0), (1, some 1)]) (.old rfl rfl rfl rfl rfl (CstL.ims _) (.old rfl rfl rfl rfl rfl (CstL.ims _) .nil)) rfl (.cons .im (.cons (.ref rfl rfl rfl rfl rfl) (.cons (.ref rfl rfl rfl rfl rfl) .nil)))) ?_
        refine OpsW.nil ?_
        show ∃ y, _ ∧ StC _ _ _ _
        exact ⟨(v9, v10.set (IntKind.wrap .u8 ((Utf8.decode f_cell_byBytes_s1 p14).1)).toNat (IntKind.wrap .u8 (p14 : Int))), H, (StC.mk (phi [(0, some 0), (1, some 1)]) (.old rfl rfl rfl rfl rfl (CstL.ims _) (.old rfl rfl rfl rfl rfl (CstL.ims _) .nil)) rfl (.cons .im (.cons (.ref rfl rfl rfl rfl rfl) (.cons (.ref rfl rfl rfl rfl rfl) .nil))))⟩
    · rintro ⟨v9, v10⟩ H
      change f_cell_byBytes_k1 v9 v10 = some r at H
      unfold f_cell_byBytes_k1 at H
      change AW _ _ _ [(0, .ref 0 0 0), (1, .ref 1 0 0)] [(0, ⟨0, true, 52, 256, (v9.flatMap (eI .u8)).map .im⟩), (1, ⟨0, true, 52, 256, (v10.flatMap (eI .u8)).map .im⟩)] _
      refine AW.regionSeq ?_
      obtain ⟨g11, H⟩ := G_some H
      refine OpsW.asU (.agg ((v10.flatMap (eI .u8)).map .im)) rfl rfl (T.loadW (rt := ⟨0, true, 52, 256, (v10.flatMap (eI .u8)).map .im⟩) rfl trivial (by kernel_rfl) rfl rfl rfl (arr_len (eI .u8) 1 (fun _ => rfl) v10 g11 rfl)) ?_
      obtain ⟨g12, H⟩ := G_some H
      refine OpsW.storeW (enc := eI .u8) (k := 1) (n := 256) rfl rfl rfl rfl trivial trivial rfl rfl rfl (fun _ => rfl) rfl (by kernel_rfl) g11 (arr_len (eI .u8) 1 (fun _ => rfl) v9 g12 rfl) (fun _ => rfl) ?_
      refine OpsW.seg 0 [0] [] [(0, .ref 0 0 0)] (by kernel_rfl) trivial ?_
      refine OpsW.recast (env' := [(0, .ref 0 0 0)]) (h' := [(0, ⟨0, true, 52, 256, (v10.flatMap (eI .u8)).map .im⟩)]) (StC.mk (phi [(0, some 0)]) (.old rfl rfl rfl rfl rfl (CstL.ims _) .nil) rfl (.cons (.ref rfl rfl rfl rfl rfl) .nil)) ?_
      refine OpsW.nil ?_
      obtain rfl := Option.some.inj H
      refine AW.recast (env' := [(0, .ref 0 0 0)]) (h' := [(0, ⟨0, true, 52, 256, (v10.flatMap (eI .u8)).map .im⟩)]) (StC.mk (phi [(0, some 0)]) (.old rfl rfl rfl rfl rfl (CstL.ims _) .nil) rfl (.cons (.ref rfl rfl rfl rfl rfl) .nil)) ?_
      refine AW.ret ?_
      try simp only [Ex.then, Ex.inBlock, Ex.noGoto, Ex.jump, reduceIte, Nat.reduceEqDiff, reduceCtorEq]
      refine Done.gen rfl (.cellW rfl (by kernel_rfl) rfl rfl rfl (arr_len (eI .u8) 1 (fun _ => rfl) v10 g11 rfl) .nil) ?_
      show _ = _
      kernel_rfl
def f_cell_FromAscii (t0 : Int) : Option (Int × Int) :=
  (f_cell_byBytes).bind fun x1 =>
  G (0 ≤ t0 ∧ t0 < (256 : Int)) <|
  G (x1.length = 256) <|
  cond ((x1.getD t0.toNat (0 : Int)) == (255 : Int)) (
    some ((0 : Int), (10 : Int))) (
    some (x1.getD t0.toNat (0 : Int), (0 : Int)))
theorem f_cell_FromAscii_ok {t0 : Int} {r : Int × Int} (H : f_cell_FromAscii t0 = some r) : QSpec Try.prog 9 [.int .u8 t0] (.tup [.int .u8 r.1, .int .i64 r.2]) := by
  refine Spec.of_AW Try.func9 rfl (by simp [Try.ntmps9]) ?_
  rw [Try.ntmps9]
  unfold f_cell_FromAscii at H
  change AW _ _ _ [(0, .int .u8 t0)] [] _
  refine AW.regionSeq ?_
  refine OpsW.seg 2 [0] [] [(0, .int .u8 t0)] (by kernel_rfl) trivial ?_
  refine OpsW.nil ?_
  refine AW.regionSeq ?_
  obtain ⟨x1, hx1, H⟩ := bindS H
  refine OpsW.qcall rfl (by kernel_rfl) rfl rfl (glAll_sound trivial) .nil (f_cell_byBytes_ok hx1) (pur_agg _) ?_
  refine OpsW.seg 1 [6, 5] [] [(6, .int .u8 t0), (5, .agg ((x1.flatMap (eI .u8)).map .im))] (by kernel_rfl) trivial ?_
  obtain ⟨g2, H⟩ := G_some H
  obtain ⟨g3, H⟩ := G_some H
  refine OpsW.asU (.int .u8 (x1.getD t0.toNat (0 : Int))) rfl rfl (T.indexA (e := 24) rfl rfl trivial trivial (by kernel_rfl) (by kernel_rfl) (by kernel_rfl) (by kernel_rfl) g2 (map_get (fm_cell0 (eI .u8) 1 (fun _ => rfl) x1 (0 : Int) t0.toNat (ltA (n := 256) g2 g3) (fun a => .val (.int .u8 a)) (fun _ => rfl)))) ?_
  refine OpsW.seg 1 [4] [] [(4, .int .u8 (x1.getD t0.toNat (0 : Int)))] (by kernel_rfl) trivial ?_
  refine OpsW.nil ?_
  refine AW.seq ?_
  refine AW.regionSeq ?_
  refine OpsW.seg 2 [9, 4] [] [(9, .bool ((x1.getD t0.toNat (0 : Int)) == (255 : Int))), (4, .int .u8 (x1.getD t0.toNat (0 : Int)))] (by kernel_rfl) trivial ?_
  refine OpsW.nil ?_
  refine AW.cond (b := (x1.getD t0.toNat (0 : Int)) == (255 : Int)) rfl (fun c4 => ?_) (fun c4 => ?_)
  · replace H := condT c4 H
    refine AW.regionSeq ?_
    refine OpsW.seg 2 [3, 2] [] [(3, .int .i64 (10 : Int)), (2, .int .u8 (0 : Int))] (by kernel_rfl) trivial ?_
    refine OpsW.nil ?_
    obtain rfl := Option.some.inj H
    refine AW.recast (env' := [(2, .int .u8 (0 : Int)), (3, .int .i64 (10 : Int))]) (h' := []) (StC.pure (.cons .im (.cons .im .nil))) ?_
    refine AW.ret ?_
    try simp only [Ex.then, Ex.inBlock, Ex.noGoto, Ex.jump, reduceIte, Nat.reduceEqDiff, reduceCtorEq]
    refine Done.gen rfl (.tmp (.tmp .nil)) ?_
    show _ = _
    kernel_rfl
  · replace H := condF c4 H
    refine AW.skip ?_
    refine AW.regionSeq ?_
    refine OpsW.seg 3 [3, 2] [] [(3, .int .i64 (0 : Int)), (2, .int .u8 (x1.getD t0.toNat (0 : Int)))] (by kernel_rfl) trivial ?_
    refine OpsW.nil ?_
    obtain rfl := Option.some.inj H
    refine AW.recast (env' := [(2, .int .u8 (x1.getD t0.toNat (0 : Int))), (3, .int .i64 (0 : Int))]) (h' := []) (StC.pure (.cons .im (.cons .im .nil))) ?_
    refine AW.ret ?_
    try simp only [Ex.then, Ex.inBlock, Ex.noGoto, Ex.jump, reduceIte, Nat.reduceEqDiff, reduceCtorEq]
    refine Done.gen rfl (.tmp (.tmp .nil)) ?_
    show _ = _
    kernel_rfl
def f_R01_FromAscii_b1 (t0 : Int) (loop2 : (Int) → Option (Int × Int)) (v1 : Int) : Option (Int × Int) :=
  cond (decide (v1 < (64 : Int))) (
    (f_R01_Ascii v1).bind fun x4 =>
    cond (x4 == t0) (
      some (v1, (0 : Int))) (
      loop2 (IntKind.wrap .u8 (v1 + (1 : Int))))) (
    some ((0 : Int), (10 : Int)))
def f_R01_FromAscii (t0 : Int) : Option (Int × Int) :=
  iter (fun loop (s : Int) => f_R01_FromAscii_b1 t0 loop s) 1000000 (0 : Int)
theorem f_R01_FromAscii_ok {t0 : Int} {r : Int × Int} (H : f_R01_FromAscii t0 = some r) : QSpec Try.prog 10 [.int .u8 t0] (.tup [.int .u8 r.1, .int .i64 r.2]) := by
  refine Spec.of_AW Try.func10 rfl (by simp [Try.ntmps10]) ?_
  rw [Try.ntmps10]
  unfold f_R01_FromAscii at H
  change AW _ _ _ [(0, .int .u8 t0)] [] _
  refine AW.regionSeq ?_
  refine OpsW.seg 2 [0] [] [(0, .int .u8 t0)] (by kernel_rfl) trivial ?_
  refine OpsW.nil ?_
  refine AW.seq ?_
  refine AW.regionSeq ?_
  refine OpsW.seg 1 [4, 0] [] [(4, .int .u8 (0 : Int)), (0, .int .u8 t0)] (by kernel_rfl) trivial ?_
  refine OpsW.nil ?_
  refine AW.block ?_
  refine AW.iterK (fun loop (s : Int) => f_R01_FromAscii_b1 t0 loop s) r (fun (s : Int) => [(0, .int .u8 t0), (4, .int .u8 s)]) (fun (s : Int) => []) ?_ 1000000 (0 : Int) H (StC.pure (.cons .im (.cons .im .nil)))
  intro loop2 v1 H
  change f_R01_FromAscii_b1 t0 loop2 v1 = some r at H
  unfold f_R01_FromAscii_b1 at H
  change AW _ _ _ [(0, .int .u8 t0), (4, .int .u8 v1)] [] _
  refine AW.seq ?_
  refine AW.regionSeq ?_
  refine OpsW.seg 2 [6, 0, 4] [] [(6, .bool (decide (v1 < (64 : Int)))), (0, .int .u8 t0), (4, .int .u8 v1)] (by kernel_rfl) trivial ?_
  refine OpsW.nil ?_
  refine AW.cond (b := decide (v1 < (64 : Int))) rfl (fun c3 => ?_) (fun c3 => ?_)
  · replace H := condT c3 H
    refine AW.skip ?_
    refine AW.seq ?_
    refine AW.block ?_
    refine AW.regionSeq ?_
    refine OpsW.seg 1 [9, 0, 4] [] [(9, .int .u8 v1), (0, .int .u8 t0), (4, .int .u8 v1)] (by kernel_rfl) trivial ?_
    obtain ⟨x4, hx4, H⟩ := bindS H
    refine OpsW.qcall rfl (by kernel_rfl) rfl rfl (glAll_sound trivial) (.cons (.pur rfl) .nil) (f_R01_Ascii_ok hx4) rfl ?_
    refine OpsW.seg 2 [12, 0, 4] [] [(12, .bool (x4 == t0)), (0, .int .u8 t0), (4, .int .u8 v1)] (by kernel_rfl) trivial ?_
    refine OpsW.nil ?_
    refine AW.cond (b := x4 == t0) rfl (fun c5 => ?_) (fun c5 => ?_)
    · replace H := condT c5 H
      refine AW.regionSeq ?_
      refine OpsW.seg 3 [3, 2] [] [(3, .int .i64 (0 : Int)), (2, .int .u8 v1)] (by kernel_rfl) trivial ?_
      refine OpsW.nil ?_
      obtain rfl := Option.some.inj H
      refine AW.recast (env' := [(2, .int .u8 v1), (3, .int .i64 (0 : Int))]) (h' := []) (StC.pure (.cons .im (.cons .im .nil))) ?_
      refine AW.ret ?_
      try simp only [Ex.then, Ex.inBlock, Ex.noGoto, Ex.jump, reduceIte, Nat.reduceEqDiff, reduceCtorEq]
      refine Done.gen rfl (.tmp (.tmp .nil)) ?_
      show _ = _
      kernel_rfl
    · replace H := condF c5 H
      refine AW.skip ?_
      refine AW.region ?_
      refine OpsW.seg 3 [4, 0] [] [(4, .int .u8 (IntKind.wrap .u8 (v1 + (1 : Int)))), (0, .int .u8 t0)] (by kernel_rfl) trivial ?_
      refine OpsW.nil ?_
      show ∃ y, _ ∧ StC _ _ _ _
      exact ⟨IntKind.wrap .u8 (v1 + (1 : Int)), H, (StC.pure (.cons .im (.cons .im .nil)))⟩
  · replace H := condF c3 H
    refine AW.exit ?_
    refine AW.regionSeq ?_
    refine OpsW.seg 2 [3, 2] [] [(3, .int .i64 (10 : Int)), (2, .int .u8 (0 : Int))] (by kernel_rfl) trivial ?_
    refine OpsW.nil ?_
    obtain rfl := Option.some.inj H
    refine AW.recast (env' := [(2, .int .u8 (0 : Int)), (3, .int .i64 (10 : Int))]) (h' := []) (StC.pure (.cons .im (.cons .im .nil))) ?_
    refine AW.ret ?_
    try simp only [Ex.then, Ex.inBlock, Ex.noGoto, Ex.jump, reduceIte, Nat.reduceEqDiff, reduceCtorEq]
    refine Done.gen rfl (.tmp (.tmp .nil)) ?_
    show _ = _
    kernel_rfl
def f_cell_Dots_k1 (loop3 : ((List Int) × Int) → Option ByteArray) (v2 : Int) (v5 : List Int) : Option ByteArray :=
  G (inR (v2 + (1 : Int))) <|
  loop3 (v5, v2 + (1 : Int))
def f_cell_Dots_b1 (t0 : Int) (loop3 : ((List Int) × Int) → Option ByteArray) (v1 : List Int) (v2 : Int) : Option ByteArray :=
  cond (decide (v2 < (6 : Int))) (
    G (0 ≤ v2) <|
    cond ((bAnd .u8 (bShr .u8 t0 v2) (1 : Int)) == (1 : Int)) (
      G (inR ((49 : Int) + v2)) <|
      G (room 1 (v1.length + 1)) <|
      f_cell_Dots_k1 loop3 v2 (v1 ++ [IntKind.wrap .u8 ((49 : Int) + v2)])) (
      f_cell_Dots_k1 loop3 v2 v1)) (
    cond ((v1.length : Int) == (0 : Int)) (
      some (⟨#[48]⟩ : ByteArray)) (
      some (strOf v1)))
def f_cell_Dots (t0 : Int) : Option ByteArray :=
  iter (fun loop (s : (List Int) × Int) => f_cell_Dots_b1 t0 loop s.1 s.2) 1000000 ([], (0 : Int))
theorem f_cell_Dots_ok {t0 : Int} {r : ByteArray} (H : f_cell_Dots t0 = some r) : QSpec Try.prog 19 [.int .u8 t0] (.string r) := by
  refine Spec.of_AW Try.func19 rfl (by simp [Try.ntmps19]) ?_
  rw [Try.ntmps19]
  unfold f_cell_Dots at H
  change AW _ _ _ [(0, .int .u8 t0)] [] _
  refine AW.regionSeq ?_
  refine OpsW.seg 1 [0] [] [(0, .int .u8 t0)] (by kernel_rfl) trivial ?_
  refine OpsW.nil ?_
  refine AW.regionSeq ?_
  refine OpsW.seg 1 [3, 0] [] [(3, .im (.val (.slice none 0 0))), (0, .int .u8 t0)] (by kernel_rfl) trivial ?_
  refine OpsW.nil ?_
  refine AW.seq ?_
  refine AW.regionSeq ?_
  refine OpsW.seg 1 [5, 3, 0] [] [(5, .int .i64 (0 : Int)), (3, .im (.val (.slice none 0 0))), (0, .int .u8 t0)] (by kernel_rfl) trivial ?_
  refine OpsW.nil ?_
  refine AW.block ?_
  refine AW.iterK (fun loop (s : (List Int) × Int) => f_cell_Dots_b1 t0 loop s.1 s.2) r (fun (s : (List Int) × Int) => [(0, .int .u8 t0), (3, .rsl 3 0 0 s.1.length), (5, .int .i64 s.2)]) (fun (s : (List Int) × Int) => [(3, rtA 0 5 1 (eI .u8) s.1)]) ?_ 1000000 ([], (0 : Int)) H (StC.mk (phi [(3, none)]) (.new rfl .nil) rfl (.cons .im (.cons (.nilr rfl rfl rfl) (.cons .im .nil))))
  intro loop3 s H
  obtain ⟨v1, v2⟩ := s
  change f_cell_Dots_b1 t0 loop3 v1 v2 = some r at H
  unfold f_cell_Dots_b1 at H
  change AW _ _ _ [(0, .int .u8 t0), (3, .rsl 3 0 0 v1.length), (5, .int .i64 v2)] [(3, rtA 0 5 1 (eI .u8) v1)] _
  refine AW.regionSeq ?_
  refine OpsW.seg 1 [6, 0, 3, 5] [] [(6, .bool (decide (v2 < (6 : Int)))), (0, .int .u8 t0), (3, .rsl 3 0 0 v1.length), (5, .int .i64 v2)] (by kernel_rfl) trivial ?_
  refine OpsW.nil ?_
  refine AW.seq ?_
  refine AW.cond (b := decide (v2 < (6 : Int))) rfl (fun c4 => ?_) (fun c4 => ?_)
  · replace H := condT c4 H
    refine AW.skip ?_
    refine AW.joinK (fun (y : (List Int)) => f_cell_Dots_k1 loop3 v2 y) r (fun (y : (List Int)) => [(0, .int .u8 t0), (3, .rsl 3 0 0 y.length), (5, .int .i64 v2)]) (fun (y : (List Int)) => [(3, rtA 0 5 1 (eI .u8) y)]) ?_ ?_
    · refine AW.block ?_
      refine AW.regionSeq ?_
      refine OpsW.seg 2 [4, 0, 3, 5] [] [(4, .int .i64 v2), (0, .int .u8 t0), (3, .rsl 3 0 0 v1.length), (5, .int .i64 v2)] (by kernel_rfl) trivial ?_
      refine OpsW.nil ?_
      refine AW.regionSeq ?_
      obtain ⟨g7, H⟩ := G_some H
      refine OpsW.seg 5 [12, 4, 0, 3, 5] [0 ≤ v2] [(12, .bool ((bAnd .u8 (bShr .u8 t0 v2) (1 : Int)) == (1 : Int))), (4, .int .i64 v2), (0, .int .u8 t0), (3, .rsl 3 0 0 v1.length), (5, .int .i64 v2)] (by kernel_rfl) ⟨g7, trivial⟩ ?_
      refine OpsW.nil ?_
      refine AW.cond (b := (bAnd .u8 (bShr .u8 t0 v2) (1 : Int)) == (1 : Int)) rfl (fun c8 => ?_) (fun c8 => ?_)
      · replace H := condT c8 H
        refine AW.region ?_
        obtain ⟨g9, H⟩ := G_some H
        refine OpsW.seg 4 [16, 13, 0, 3, 5] [inR ((49 : Int) + v2)] [(16, .int .u8 (IntKind.wrap .u8 ((49 : Int) + v2))), (13, .rsl 3 0 0 v1.length), (0, .int .u8 t0), (3, .rsl 3 0 0 v1.length), (5, .int .i64 v2)] (by kernel_rfl) ⟨g9, trivial⟩ ?_
        obtain ⟨g10, H⟩ := G_some H
        refine OpsW.appendLF (enc := eI .u8) [IntKind.wrap .u8 ((49 : Int) + v2)] rfl rfl rfl (by decide) rfl rfl rfl (by simp) E45 (fun _ => rfl) (by decide) trivial (by kernel_rfl) (by kernel_rfl) (by kernel_rfl) rfl rfl rfl g10 ?_
        refine OpsW.seg 1 [3, 0, 5] [] [(3, .rsl 3 1 0 ((v1 ++ [IntKind.wrap .u8 ((49 : Int) + v2)]).length)), (0, .int .u8 t0), (5, .int .i64 v2)] (by kernel_rfl) trivial ?_
        refine OpsW.recast (env' := [(3, .rsl 3 0 0 ((v1 ++ [IntKind.wrap .u8 ((49 : Int) + v2)]).length)), (0, .int .u8 t0), (5, .int .i64 v2)]) (h' := [(3, rtA 0 5 1 (eI .u8) (v1 ++ [IntKind.wrap .u8 ((49 : Int) + v2)]))]) (StC.mk (phi [(3, some 3)]) (.old rfl rfl rfl rfl rfl (CstL.ims _) .nil) rfl (.cons (.rsl rfl rfl rfl rfl rfl rfl) (.cons .im (.cons .im .nil)))) ?_
        refine OpsW.nil ?_
        show ∃ y, _ ∧ StC _ _ _ _
        exact ⟨v1 ++ [IntKind.wrap .u8 ((49 : Int) + v2)], H, (StC.mk (phi [(3, some 3)]) (.old rfl rfl rfl rfl rfl (CstL.ims _) .nil) rfl (.cons .im (.cons (.rsl rfl rfl rfl rfl rfl rfl) (.cons .im .nil))))⟩
      · replace H := condF c8 H
        refine AW.skip ?_
        show ∃ y, _ ∧ StC _ _ _ _
        exact ⟨v1, H, (StC.mk (phi [(3, some 3)]) (.old rfl rfl rfl rfl rfl (CstL.ims _) .nil) rfl (.cons .im (.cons (.rsl rfl rfl rfl rfl rfl rfl) (.cons .im .nil))))⟩
    · intro v5 H
      change f_cell_Dots_k1 loop3 v2 v5 = some r at H
      unfold f_cell_Dots_k1 at H
      change AW _ _ _ [(0, .int .u8 t0), (3, .rsl 3 0 0 v5.length), (5, .int .i64 v2)] [(3, rtA 0 5 1 (eI .u8) v5)] _
      refine AW.region ?_
      obtain ⟨g6, H⟩ := G_some H
      refine OpsW.seg 2 [5, 0, 3] [inR (v2 + (1 : Int))] [(5, .int .i64 (v2 + (1 : Int))), (0, .int .u8 t0), (3, .rsl 3 0 0 v5.length)] (by kernel_rfl) ⟨g6, trivial⟩ ?_
      refine OpsW.nil ?_
      show ∃ y, _ ∧ StC _ _ _ _
      exact ⟨(v5, v2 + (1 : Int)), H, (StC.mk (phi [(3, some 3)]) (.old rfl rfl rfl rfl rfl (CstL.ims _) .nil) rfl (.cons .im (.cons (.rsl rfl rfl rfl rfl rfl rfl) (.cons .im .nil))))⟩
  · replace H := condF c4 H
    refine AW.exit ?_
    refine AW.seq ?_
    refine AW.regionSeq ?_
    refine OpsW.seg 3 [22, 3] [] [(22, .bool ((v1.length : Int) == (0 : Int))), (3, .rsl 3 0 0 v1.length)] (by kernel_rfl) trivial ?_
    refine OpsW.recast (env' := [(22, .bool ((v1.length : Int) == (0 : Int))), (3, slA (eI .u8) v1)]) (h' := []) (StC.mk (phi []) .nil rfl (.cons .im (.cons (.frz rfl rfl rfl (frz_all (eI .u8) 1 (fun _ => rfl) v1) (fm_length (eI .u8) 1 (fun _ => rfl) v1) (phi_ne rfl)) .nil))) ?_
    refine OpsW.nil ?_
    refine AW.cond (b := (v1.length : Int) == (0 : Int)) rfl (fun c11 => ?_) (fun c11 => ?_)
    · replace H := condT c11 H
      refine AW.regionSeq ?_
      refine OpsW.seg 1 [2] [] [(2, .string (⟨#[48]⟩ : ByteArray))] (by kernel_rfl) trivial ?_
      refine OpsW.nil ?_
      obtain rfl := Option.some.inj H
      refine AW.recast (env' := [(2, .string (⟨#[48]⟩ : ByteArray))]) (h' := []) (StC.pure (.cons .im .nil)) ?_
      refine AW.ret ?_
      try simp only [Ex.then, Ex.inBlock, Ex.noGoto, Ex.jump, reduceIte, Nat.reduceEqDiff, reduceCtorEq]
      refine Done.gen rfl (.tmp .nil) ?_
      show _ = _
      kernel_rfl
    · replace H := condF c11 H
      refine AW.skip ?_
      refine AW.regionSeq ?_
      refine OpsW.seg 1 [23] [] [(23, slA (eI .u8) v1)] (by kernel_rfl) trivial ?_
      refine OpsW.quietU (.string (strOf v1)) rfl rfl (Quiet.toStr (e := 5) v1 rfl (by kernel_rfl) (by kernel_rfl) (by kernel_rfl) (gpoU rfl ⟨trivial, SlV.im, SrcA.typed (enc := eI .u8) (fun _ => rfl) (by kernel_rfl) v1⟩)) ?_
      refine OpsW.seg 1 [2] [] [(2, .string (strOf v1))] (by kernel_rfl) trivial ?_
      refine OpsW.nil ?_
      obtain rfl := Option.some.inj H
      refine AW.recast (env' := [(2, .string (strOf v1))]) (h' := []) (StC.pure (.cons .im .nil)) ?_
      refine AW.ret ?_
      try simp only [Ex.then, Ex.inBlock, Ex.noGoto, Ex.jump, reduceIte, Nat.reduceEqDiff, reduceCtorEq]
      refine Done.gen rfl (.tmp .nil) ?_
      show _ = _
      kernel_rfl
def f_R01_Dots_k1 (loop3 : (ByteArray × Int) → Option ByteArray) (v2 : Int) (v5 : ByteArray) : Option ByteArray :=
  G (inR (v2 + (1 : Int))) <|
  loop3 (v5, v2 + (1 : Int))
def f_R01_Dots_b1 (t0 : Int) (loop3 : (ByteArray × Int) → Option ByteArray) (v1 : ByteArray) (v2 : Int) : Option ByteArray :=
  cond (decide (v2 ≤ (6 : Int))) (
    (f_R01_Has t0 v2).bind fun x7 =>
    cond x7 (
      G (inR (v2 + (1 : Int))) <|
      G (0 ≤ (v2 + (1 : Int)) ∧ (v2 + (1 : Int)) ≤ ((⟨#[48, 49, 50, 51, 52, 53, 54]⟩ : ByteArray).size : Int)) <|
      G (0 ≤ v2 ∧ v2 ≤ ((v2 + (1 : Int)).toNat : Int)) <|
      G (v1.size + ((⟨#[48, 49, 50, 51, 52, 53, 54]⟩ : ByteArray).extract v2.toNat ((v2 + (1 : Int)).toNat)).size ≤ 9223372036854775807) <|
      f_R01_Dots_k1 loop3 v2 (v1 ++ ((⟨#[48, 49, 50, 51, 52, 53, 54]⟩ : ByteArray).extract v2.toNat ((v2 + (1 : Int)).toNat)))) (
      f_R01_Dots_k1 loop3 v2 v1)) (
    cond (v1.toList == (⟨#[]⟩ : ByteArray).toList) (
      some (⟨#[48]⟩ : ByteArray)) (
      some v1))
def f_R01_Dots (t0 : Int) : Option ByteArray :=
  iter (fun loop (s : ByteArray × Int) => f_R01_Dots_b1 t0 loop s.1 s.2) 1000000 ((⟨#[]⟩ : ByteArray), (1 : Int))
theorem f_R01_Dots_ok {t0 : Int} {r : ByteArray} (H : f_R01_Dots t0 = some r) : QSpec Try.prog 20 [.int .u8 t0] (.string r) := by
  refine Spec.of_AW Try.func20 rfl (by simp [Try.ntmps20]) ?_
  rw [Try.ntmps20]
  unfold f_R01_Dots at H
  change AW _ _ _ [(0, .int .u8 t0)] [] _
  refine AW.regionSeq ?_
  refine OpsW.seg 1 [0] [] [(0, .int .u8 t0)] (by kernel_rfl) trivial ?_
  refine OpsW.nil ?_
  refine AW.regionSeq ?_
  refine OpsW.seg 1 [3, 0] [] [(3, .string (⟨#[]⟩ : ByteArray)), (0, .int .u8 t0)] (by kernel_rfl) trivial ?_
  refine OpsW.nil ?_
  refine AW.regionSeq ?_
  refine OpsW.seg 1 [4, 3, 0] [] [(4, .string (⟨#[48, 49, 50, 51, 52, 53, 54]⟩ : ByteArray)), (3, .string (⟨#[]⟩ : ByteArray)), (0, .int .u8 t0)] (by kernel_rfl) trivial ?_
  refine OpsW.nil ?_
  refine AW.seq ?_
  refine AW.regionSeq ?_
  refine OpsW.seg 1 [5, 4, 3, 0] [] [(5, .int .i64 (1 : Int)), (4, .string (⟨#[48, 49, 50, 51, 52, 53, 54]⟩ : ByteArray)), (3, .string (⟨#[]⟩ : ByteArray)), (0, .int .u8 t0)] (by kernel_rfl) trivial ?_
  refine OpsW.nil ?_
  refine AW.block ?_
  refine AW.iterK (fun loop (s : ByteArray × Int) => f_R01_Dots_b1 t0 loop s.1 s.2) r (fun (s : ByteArray × Int) => [(0, .int .u8 t0), (3, .string s.1), (4, .string (⟨#[48, 49, 50, 51, 52, 53, 54]⟩ : ByteArray)), (5, .int .i64 s.2)]) (fun (s : ByteArray × Int) => []) ?_ 1000000 ((⟨#[]⟩ : ByteArray), (1 : Int)) H (StC.pure (.cons .im (.cons .im (.cons .im (.cons .im .nil)))))
  intro loop3 s H
  obtain ⟨v1, v2⟩ := s
  change f_R01_Dots_b1 t0 loop3 v1 v2 = some r at H
  unfold f_R01_Dots_b1 at H
  change AW _ _ _ [(0, .int .u8 t0), (3, .string v1), (4, .string (⟨#[48, 49, 50, 51, 52, 53, 54]⟩ : ByteArray)), (5, .int .i64 v2)] [] _
  refine AW.seq ?_
  refine AW.regionSeq ?_
  refine OpsW.seg 2 [7, 0, 3, 4, 5] [] [(7, .bool (decide (v2 ≤ (6 : Int)))), (0, .int .u8 t0), (3, .string v1), (4, .string (⟨#[48, 49, 50, 51, 52, 53, 54]⟩ : ByteArray)), (5, .int .i64 v2)] (by kernel_rfl) trivial ?_
  refine OpsW.nil ?_
  refine AW.cond (b := decide (v2 ≤ (6 : Int))) rfl (fun c4 => ?_) (fun c4 => ?_)
  · replace H := condT c4 H
    refine AW.skip ?_
    refine AW.joinK (fun (y : ByteArray) => f_R01_Dots_k1 loop3 v2 y) r (fun (y : ByteArray) => [(0, .int .u8 t0), (3, .string y), (4, .string (⟨#[48, 49, 50, 51, 52, 53, 54]⟩ : ByteArray)), (5, .int .i64 v2)]) (fun (y : ByteArray) => []) ?_ ?_
    · refine AW.block ?_
      refine AW.regionSeq ?_
      refine OpsW.seg 2 [11, 10, 0, 3, 4, 5] [] [(11, .int .i64 v2), (10, .int .u8 t0), (0, .int .u8 t0), (3, .string v1), (4, .string (⟨#[48, 49, 50, 51, 52, 53, 54]⟩ : ByteArray)), (5, .int .i64 v2)] (by kernel_rfl) trivial ?_
      obtain ⟨x7, hx7, H⟩ := bindS H
      refine OpsW.qcall rfl (by kernel_rfl) rfl rfl (glAll_sound trivial) (.cons (.pur rfl) (.cons (.pur rfl) .nil)) (f_R01_Has_ok hx7) rfl ?_
      refine OpsW.seg 0 [12, 0, 3, 4, 5] [] [(12, .bool x7), (0, .int .u8 t0), (3, .string v1), (4, .string (⟨#[48, 49, 50, 51, 52, 53, 54]⟩ : ByteArray)), (5, .int .i64 v2)] (by kernel_rfl) trivial ?_
      refine OpsW.nil ?_
      refine AW.cond (b := x7) rfl (fun c8 => ?_) (fun c8 => ?_)
      · replace H := condT c8 H
        refine AW.region ?_
        obtain ⟨g9, H⟩ := G_some H
        obtain ⟨g10, H⟩ := G_some H
        obtain ⟨g11, H⟩ := G_some H
        obtain ⟨g12, H⟩ := G_some H
        refine OpsW.seg 8 [3, 0, 4, 5] [inR (v2 + (1 : Int)), 0 ≤ (v2 + (1 : Int)) ∧ (v2 + (1 : Int)) ≤ ((⟨#[48, 49, 50, 51, 52, 53, 54]⟩ : ByteArray).size : Int), 0 ≤ v2 ∧ v2 ≤ ((v2 + (1 : Int)).toNat : Int), v1.size + ((⟨#[48, 49, 50, 51, 52, 53, 54]⟩ : ByteArray).extract v2.toNat ((v2 + (1 : Int)).toNat)).size ≤ 9223372036854775807] [(3, .string (v1 ++ ((⟨#[48, 49, 50, 51, 52, 53, 54]⟩ : ByteArray).extract v2.toNat ((v2 + (1 : Int)).toNat)))), (0, .int .u8 t0), (4, .string (⟨#[48, 49, 50, 51, 52, 53, 54]⟩ : ByteArray)), (5, .int .i64 v2)] (by kernel_rfl) ⟨g9, g10, g11, g12, trivial⟩ ?_
        refine OpsW.nil ?_
        show ∃ y, _ ∧ StC _ _ _ _
        exact ⟨v1 ++ ((⟨#[48, 49, 50, 51, 52, 53, 54]⟩ : ByteArray).extract v2.toNat ((v2 + (1 : Int)).toNat)), H, (StC.pure (.cons .im (.cons .im (.cons .im (.cons .im .nil)))))⟩
      · replace H := condF c8 H
        refine AW.skip ?_
        show ∃ y, _ ∧ StC _ _ _ _
        exact ⟨v1, H, (StC.pure (.cons .im (.cons .im (.cons .im (.cons .im .nil)))))⟩
    · intro v5 H
      change f_R01_Dots_k1 loop3 v2 v5 = some r at H
      unfold f_R01_Dots_k1 at H
      change AW _ _ _ [(0, .int .u8 t0), (3, .string v5), (4, .string (⟨#[48, 49, 50, 51, 52, 53, 54]⟩ : ByteArray)), (5, .int .i64 v2)] [] _
      refine AW.region ?_
      obtain ⟨g6, H⟩ := G_some H
      refine OpsW.seg 3 [5, 0, 3, 4] [inR (v2 + (1 : Int))] [(5, .int .i64 (v2 + (1 : Int))), (0, .int .u8 t0), (3, .string v5), (4, .string (⟨#[48, 49, 50, 51, 52, 53, 54]⟩ : ByteArray))] (by kernel_rfl) ⟨g6, trivial⟩ ?_
      refine OpsW.nil ?_
      show ∃ y, _ ∧ StC _ _ _ _
      exact ⟨(v5, v2 + (1 : Int)), H, (StC.pure (.cons .im (.cons .im (.cons .im (.cons .im .nil)))))⟩
  · replace H := condF c4 H
    refine AW.exit ?_
    refine AW.seq ?_
    refine AW.regionSeq ?_
    refine OpsW.seg 2 [21, 3] [] [(21, .bool (v1.toList == (⟨#[]⟩ : ByteArray).toList)), (3, .string v1)] (by kernel_rfl) trivial ?_
    refine OpsW.nil ?_
    refine AW.cond (b := v1.toList == (⟨#[]⟩ : ByteArray).toList) rfl (fun c13 => ?_) (fun c13 => ?_)
    · replace H := condT c13 H
      refine AW.regionSeq ?_
      refine OpsW.seg 1 [2] [] [(2, .string (⟨#[48]⟩ : ByteArray))] (by kernel_rfl) trivial ?_
      refine OpsW.nil ?_
      obtain rfl := Option.some.inj H
      refine AW.recast (env' := [(2, .string (⟨#[48]⟩ : ByteArray))]) (h' := []) (StC.pure (.cons .im .nil)) ?_
      refine AW.ret ?_
      try simp only [Ex.then, Ex.inBlock, Ex.noGoto, Ex.jump, reduceIte, Nat.reduceEqDiff, reduceCtorEq]
      refine Done.gen rfl (.tmp .nil) ?_
      show _ = _
      kernel_rfl
    · replace H := condF c13 H
      refine AW.skip ?_
      refine AW.regionSeq ?_
      refine OpsW.seg 2 [2] [] [(2, .string v1)] (by kernel_rfl) trivial ?_
      refine OpsW.nil ?_
      obtain rfl := Option.some.inj H
      refine AW.recast (env' := [(2, .string v1)]) (h' := []) (StC.pure (.cons .im .nil)) ?_
      refine AW.ret ?_
      try simp only [Ex.then, Ex.inBlock, Ex.noGoto, Ex.jump, reduceIte, Nat.reduceEqDiff, reduceCtorEq]
      refine Done.gen rfl (.tmp .nil) ?_
      show _ = _
      kernel_rfl
def f_cell_Parse_b1 (t0 : ByteArray) (loop6 : (Int × Int × Int) → Option (Int × Int)) (v3 : Int) (v4 : Int) (v5 : Int) : Option (Int × Int) :=
  cond (decide (v5 < (t0.size : Int))) (
    G (0 ≤ v5 ∧ v5 < (t0.size : Int)) <|
    cond (cond (decide ((bAt t0 v5) ≤ v4)) true (decide ((54 : Int) < (bAt t0 v5)))) (
      some ((0 : Int), (10 : Int))) (
      G (0 ≤ (IntKind.wrap .u8 ((bAt t0 v5) - (49 : Int)))) <|
      G (inR (v5 + (1 : Int))) <|
      loop6 (bOr .u8 v3 (bShl .u8 (1 : Int) (IntKind.wrap .u8 ((bAt t0 v5) - (49 : Int)))), bAt t0 v5, v5 + (1 : Int)))) (
    some (v3, (0 : Int)))
def f_cell_Parse (t0 : ByteArray) : Option (Int × Int) :=
  cond (t0.toList == (⟨#[48]⟩ : ByteArray).toList) (
    some ((0 : Int), (0 : Int))) (
    cond (t0.toList == (⟨#[]⟩ : ByteArray).toList) (
      some ((0 : Int), (10 : Int))) (
      iter (fun loop (s : Int × Int × Int) => f_cell_Parse_b1 t0 loop s.1 s.2.1 s.2.2) 1000000 ((0 : Int), (48 : Int), (0 : Int))))
theorem f_cell_Parse_ok {t0 : ByteArray} {r : Int × Int} (H : f_cell_Parse t0 = some r) : QSpec Try.prog 11 [.string t0] (.tup [.int .u8 r.1, .int .i64 r.2]) := by
  refine Spec.of_AW Try.func11 rfl (by simp [Try.ntmps11]) ?_
  rw [Try.ntmps11]
  unfold f_cell_Parse at H
  change AW _ _ _ [(0, .string t0)] [] _
  refine AW.regionSeq ?_
  refine OpsW.seg 2 [0] [] [(0, .string t0)] (by kernel_rfl) trivial ?_
  refine OpsW.nil ?_
  refine AW.seq ?_
  refine AW.regionSeq ?_
  refine OpsW.seg 2 [8, 0] [] [(8, .bool (t0.toList == (⟨#[48]⟩ : ByteArray).toList)), (0, .string t0)] (by kernel_rfl) trivial ?_
  refine OpsW.nil ?_
  refine AW.cond (b := t0.toList == (⟨#[48]⟩ : ByteArray).toList) rfl (fun c1 => ?_) (fun c1 => ?_)
  · replace H := condT c1 H
    refine AW.regionSeq ?_
    refine OpsW.seg 2 [3, 2] [] [(3, .int .i64 (0 : Int)), (2, .int .u8 (0 : Int))] (by kernel_rfl) trivial ?_
    refine OpsW.nil ?_
    obtain rfl := Option.some.inj H
    refine AW.recast (env' := [(2, .int .u8 (0 : Int)), (3, .int .i64 (0 : Int))]) (h' := []) (StC.pure (.cons .im (.cons .im .nil))) ?_
    refine AW.ret ?_
    try simp only [Ex.then, Ex.inBlock, Ex.noGoto, Ex.jump, reduceIte, Nat.reduceEqDiff, reduceCtorEq]
    refine Done.gen rfl (.tmp (.tmp .nil)) ?_
    show _ = _
    kernel_rfl
  · replace H := condF c1 H
    refine AW.skip ?_
    refine AW.seq ?_
    refine AW.regionSeq ?_
    refine OpsW.seg 2 [10, 0] [] [(10, .bool (t0.toList == (⟨#[]⟩ : ByteArray).toList)), (0, .string t0)] (by kernel_rfl) trivial ?_
    refine OpsW.nil ?_
    refine AW.cond (b := t0.toList == (⟨#[]⟩ : ByteArray).toList) rfl (fun c2 => ?_) (fun c2 => ?_)
    · replace H := condT c2 H
      refine AW.regionSeq ?_
      refine OpsW.seg 2 [3, 2] [] [(3, .int .i64 (10 : Int)), (2, .int .u8 (0 : Int))] (by kernel_rfl) trivial ?_
      refine OpsW.nil ?_
      obtain rfl := Option.some.inj H
      refine AW.recast (env' := [(2, .int .u8 (0 : Int)), (3, .int .i64 (10 : Int))]) (h' := []) (StC.pure (.cons .im (.cons .im .nil))) ?_
      refine AW.ret ?_
      try simp only [Ex.then, Ex.inBlock, Ex.noGoto, Ex.jump, reduceIte, Nat.reduceEqDiff, reduceCtorEq]
      refine Done.gen rfl (.tmp (.tmp .nil)) ?_
      show _ = _
      kernel_rfl
    · replace H := condF c2 H
      refine AW.skip ?_
      refine AW.regionSeq ?_
      refine OpsW.seg 1 [4, 0] [] [(4, .int .u8 (0 : Int)), (0, .string t0)] (by kernel_rfl) trivial ?_
      refine OpsW.nil ?_
      refine AW.regionSeq ?_
      refine OpsW.seg 1 [5, 4, 0] [] [(5, .int .u8 (48 : Int)), (4, .int .u8 (0 : Int)), (0, .string t0)] (by kernel_rfl) trivial ?_
      refine OpsW.nil ?_
      refine AW.seq ?_
      refine AW.regionSeq ?_
      refine OpsW.seg 3 [13, 12, 5, 4, 0] [] [(13, .int .i64 (0 : Int)), (12, .int .i64 (t0.size : Int)), (5, .int .u8 (48 : Int)), (4, .int .u8 (0 : Int)), (0, .string t0)] (by kernel_rfl) trivial ?_
      refine OpsW.nil ?_
      refine AW.block ?_
      refine AW.iterK (fun loop (s : Int × Int × Int) => f_cell_Parse_b1 t0 loop s.1 s.2.1 s.2.2) r (fun (s : Int × Int × Int) => [(0, .string t0), (4, .int .u8 s.1), (5, .int .u8 s.2.1), (12, .int .i64 (t0.size : Int)), (13, .int .i64 s.2.2)]) (fun (s : Int × Int × Int) => []) ?_ 1000000 ((0 : Int), (48 : Int), (0 : Int)) H (StC.pure (.cons .im (.cons .im (.cons .im (.cons .im (.cons .im .nil))))))
      intro loop6 s H
      obtain ⟨v3, v4, v5⟩ := s
      change f_cell_Parse_b1 t0 loop6 v3 v4 v5 = some r at H
      unfold f_cell_Parse_b1 at H
      change AW _ _ _ [(0, .string t0), (4, .int .u8 v3), (5, .int .u8 v4), (12, .int .i64 (t0.size : Int)), (13, .int .i64 v5)] [] _
      refine AW.regionSeq ?_
      refine OpsW.seg 1 [14, 0, 4, 5, 12, 13] [] [(14, .bool (decide (v5 < (t0.size : Int)))), (0, .string t0), (4, .int .u8 v3), (5, .int .u8 v4), (12, .int .i64 (t0.size : Int)), (13, .int .i64 v5)] (by kernel_rfl) trivial ?_
      refine OpsW.nil ?_
      refine AW.seq ?_
      refine AW.cond (b := decide (v5 < (t0.size : Int))) rfl (fun c7 => ?_) (fun c7 => ?_)
      · replace H := condT c7 H
        refine AW.skip ?_
        refine AW.seq ?_
        refine AW.block ?_
        refine AW.regionSeq ?_
        refine OpsW.seg 2 [6, 0, 4, 5, 12, 13] [] [(6, .int .i64 v5), (0, .string t0), (4, .int .u8 v3), (5, .int .u8 v4), (12, .int .i64 (t0.size : Int)), (13, .int .i64 v5)] (by kernel_rfl) trivial ?_
        refine OpsW.nil ?_
        refine AW.seq ?_
        refine AW.regionSeq ?_
        obtain ⟨g8, H⟩ := G_some H
        refine OpsW.seg 11 [26, 6, 0, 4, 12, 13] [0 ≤ v5 ∧ v5 < (t0.size : Int), (!(decide ((bAt t0 v5) ≤ v4))) = true → (!(decide ((bAt t0 v5) ≤ v4))) = true, (!(decide ((bAt t0 v5) ≤ v4))) = true → (!(decide ((bAt t0 v5) ≤ v4))) = true, (!(decide ((bAt t0 v5) ≤ v4))) = true → (0 ≤ v5 ∧ v5 < (t0.size : Int)), (!(decide ((bAt t0 v5) ≤ v4))) = true → (!(decide ((bAt t0 v5) ≤ v4))) = true, (decide ((bAt t0 v5) ≤ v4)) = false → (!(decide ((bAt t0 v5) ≤ v4))) = true] [(26, .bool (cond (decide ((bAt t0 v5) ≤ v4)) true (decide ((54 : Int) < (bAt t0 v5))))), (6, .int .i64 v5), (0, .string t0), (4, .int .u8 v3), (12, .int .i64 (t0.size : Int)), (13, .int .i64 v5)] (by kernel_rfl) ⟨g8, (fun h => h), (fun h => h), (fun _ => g8), (fun h => h), (fun h => by first | exact h | simpa using h), trivial⟩ ?_
        refine OpsW.nil ?_
        refine AW.cond (b := cond (decide ((bAt t0 v5) ≤ v4)) true (decide ((54 : Int) < (bAt t0 v5)))) rfl (fun c9 => ?_) (fun c9 => ?_)
        · replace H := condT c9 H
          refine AW.regionSeq ?_
          refine OpsW.seg 2 [3, 2] [] [(3, .int .i64 (10 : Int)), (2, .int .u8 (0 : Int))] (by kernel_rfl) trivial ?_
          refine OpsW.nil ?_
          obtain rfl := Option.some.inj H
          refine AW.recast (env' := [(2, .int .u8 (0 : Int)), (3, .int .i64 (10 : Int))]) (h' := []) (StC.pure (.cons .im (.cons .im .nil))) ?_
          refine AW.ret ?_
          try simp only [Ex.then, Ex.inBlock, Ex.noGoto, Ex.jump, reduceIte, Nat.reduceEqDiff, reduceCtorEq]
          refine Done.gen rfl (.tmp (.tmp .nil)) ?_
          show _ = _
          kernel_rfl
        · replace H := condF c9 H
          refine AW.skip ?_
          refine AW.regionSeq ?_
          refine OpsW.seg 4 [5, 0, 4, 12, 13] [0 ≤ v5 ∧ v5 < (t0.size : Int)] [(5, .int .u8 (bAt t0 v5)), (0, .string t0), (4, .int .u8 v3), (12, .int .i64 (t0.size : Int)), (13, .int .i64 v5)] (by kernel_rfl) ⟨g8, trivial⟩ ?_
          refine OpsW.nil ?_
          refine AW.region ?_
          obtain ⟨g10, H⟩ := G_some H
          refine OpsW.seg 6 [4, 5, 0, 12, 13] [0 ≤ (IntKind.wrap .u8 ((bAt t0 v5) - (49 : Int)))] [(4, .int .u8 (bOr .u8 v3 (bShl .u8 (1 : Int) (IntKind.wrap .u8 ((bAt t0 v5) - (49 : Int)))))), (5, .int .u8 (bAt t0 v5)), (0, .string t0), (12, .int .i64 (t0.size : Int)), (13, .int .i64 v5)] (by kernel_rfl) ⟨g10, trivial⟩ ?_
          refine OpsW.nil ?_
          refine AW.region ?_
          obtain ⟨g11, H⟩ := G_some H
          refine OpsW.seg 2 [13, 4, 5, 0, 12] [inR (v5 + (1 : Int))] [(13, .int .i64 (v5 + (1 : Int))), (4, .int .u8 (bOr .u8 v3 (bShl .u8 (1 : Int) (IntKind.wrap .u8 ((bAt t0 v5) - (49 : Int)))))), (5, .int .u8 (bAt t0 v5)), (0, .string t0), (12, .int .i64 (t0.size : Int))] (by kernel_rfl) ⟨g11, trivial⟩ ?_
          refine OpsW.nil ?_
          show ∃ y, _ ∧ StC _ _ _ _
          exact ⟨(bOr .u8 v3 (bShl .u8 (1 : Int) (IntKind.wrap .u8 ((bAt t0 v5) - (49 : Int)))), bAt t0 v5, v5 + (1 : Int)), H, (StC.pure (.cons .im (.cons .im (.cons .im (.cons .im (.cons .im .nil))))))⟩
      · replace H := condF c7 H
        refine AW.exit ?_
        refine AW.regionSeq ?_
        refine OpsW.seg 3 [3, 2] [] [(3, .int .i64 (0 : Int)), (2, .int .u8 v3)] (by kernel_rfl) trivial ?_
        refine OpsW.nil ?_
        obtain rfl := Option.some.inj H
        refine AW.recast (env' := [(2, .int .u8 v3), (3, .int .i64 (0 : Int))]) (h' := []) (StC.pure (.cons .im (.cons .im .nil))) ?_
        refine AW.ret ?_
        try simp only [Ex.then, Ex.inBlock, Ex.noGoto, Ex.jump, reduceIte, Nat.reduceEqDiff, reduceCtorEq]
        refine Done.gen rfl (.tmp (.tmp .nil)) ?_
        show _ = _
        kernel_rfl
def f_R01_Parse_b1 (t0 : ByteArray) (loop2 : (Int) → Option (Int × Int)) (v1 : Int) : Option (Int × Int) :=
  cond (decide (v1 < (64 : Int))) (
    (f_R01_Dots v1).bind fun x4 =>
    cond (x4.toList == t0.toList) (
      some (v1, (0 : Int))) (
      loop2 (IntKind.wrap .u8 (v1 + (1 : Int))))) (
    some ((0 : Int), (10 : Int)))
def f_R01_Parse (t0 : ByteArray) : Option (Int × Int) :=
  iter (fun loop (s : Int) => f_R01_Parse_b1 t0 loop s) 1000000 (0 : Int)
theorem f_R01_Parse_ok {t0 : ByteArray} {r : Int × Int} (H : f_R01_Parse t0 = some r) : QSpec Try.prog 12 [.string t0] (.tup [.int .u8 r.1, .int .i64 r.2]) := by
  refine Spec.of_AW Try.func12 rfl (by simp [Try.ntmps12]) ?_
  rw [Try.ntmps12]
  unfold f_R01_Parse at H
  change AW _ _ _ [(0, .string t0)] [] _
  refine AW.regionSeq ?_
  refine OpsW.seg 2 [0] [] [(0, .string t0)] (by kernel_rfl) trivial ?_
  refine OpsW.nil ?_
  refine AW.seq ?_
  refine AW.regionSeq ?_
  refine OpsW.seg 1 [4, 0] [] [(4, .int .u8 (0 : Int)), (0, .string t0)] (by kernel_rfl) trivial ?_
  refine OpsW.nil ?_
  refine AW.block ?_
  refine AW.iterK (fun loop (s : Int) => f_R01_Parse_b1 t0 loop s) r (fun (s : Int) => [(0, .string t0), (4, .int .u8 s)]) (fun (s : Int) => []) ?_ 1000000 (0 : Int) H (StC.pure (.cons .im (.cons .im .nil)))
  intro loop2 v1 H
  change f_R01_Parse_b1 t0 loop2 v1 = some r at H
  unfold f_R01_Parse_b1 at H
  change AW _ _ _ [(0, .string t0), (4, .int .u8 v1)] [] _
  refine AW.seq ?_
  refine AW.regionSeq ?_
  refine OpsW.seg 2 [6, 0, 4] [] [(6, .bool (decide (v1 < (64 : Int)))), (0, .string t0), (4, .int .u8 v1)] (by kernel_rfl) trivial ?_
  refine OpsW.nil ?_
  refine AW.cond (b := decide (v1 < (64 : Int))) rfl (fun c3 => ?_) (fun c3 => ?_)
  · replace H := condT c3 H
    refine AW.skip ?_
    refine AW.seq ?_
    refine AW.block ?_
    refine AW.regionSeq ?_
    refine OpsW.seg 1 [9, 0, 4] [] [(9, .int .u8 v1), (0, .string t0), (4, .int .u8 v1)] (by kernel_rfl) trivial ?_
    obtain ⟨x4, hx4, H⟩ := bindS H
    refine OpsW.qcall rfl (by kernel_rfl) rfl rfl (glAll_sound trivial) (.cons (.pur rfl) .nil) (f_R01_Dots_ok hx4) rfl ?_
    refine OpsW.seg 2 [12, 0, 4] [] [(12, .bool (x4.toList == t0.toList)), (0, .string t0), (4, .int .u8 v1)] (by kernel_rfl) trivial ?_
    refine OpsW.nil ?_
    refine AW.cond (b := x4.toList == t0.toList) rfl (fun c5 => ?_) (fun c5 => ?_)
    · replace H := condT c5 H
      refine AW.regionSeq ?_
      refine OpsW.seg 3 [3, 2] [] [(3, .int .i64 (0 : Int)), (2, .int .u8 v1)] (by kernel_rfl) trivial ?_
      refine OpsW.nil ?_
      obtain rfl := Option.some.inj H
      refine AW.recast (env' := [(2, .int .u8 v1), (3, .int .i64 (0 : Int))]) (h' := []) (StC.pure (.cons .im (.cons .im .nil))) ?_
      refine AW.ret ?_
      try simp only [Ex.then, Ex.inBlock, Ex.noGoto, Ex.jump, reduceIte, Nat.reduceEqDiff, reduceCtorEq]
      refine Done.gen rfl (.tmp (.tmp .nil)) ?_
      show _ = _
      kernel_rfl
    · replace H := condF c5 H
      refine AW.skip ?_
      refine AW.region ?_
      refine OpsW.seg 3 [4, 0] [] [(4, .int .u8 (IntKind.wrap .u8 (v1 + (1 : Int)))), (0, .string t0)] (by kernel_rfl) trivial ?_
      refine OpsW.nil ?_
      show ∃ y, _ ∧ StC _ _ _ _
      exact ⟨IntKind.wrap .u8 (v1 + (1 : Int)), H, (StC.pure (.cons .im (.cons .im .nil)))⟩
  · replace H := condF c3 H
    refine AW.exit ?_
    refine AW.regionSeq ?_
    refine OpsW.seg 2 [3, 2] [] [(3, .int .i64 (10 : Int)), (2, .int .u8 (0 : Int))] (by kernel_rfl) trivial ?_
    refine OpsW.nil ?_
    obtain rfl := Option.some.inj H
    refine AW.recast (env' := [(2, .int .u8 (0 : Int)), (3, .int .i64 (10 : Int))]) (h' := []) (StC.pure (.cons .im (.cons .im .nil))) ?_
    refine AW.ret ?_
    try simp only [Ex.then, Ex.inBlock, Ex.noGoto, Ex.jump, reduceIte, Nat.reduceEqDiff, reduceCtorEq]
    refine Done.gen rfl (.tmp (.tmp .nil)) ?_
    show _ = _
    kernel_rfl
def f_cell_Line_b1 (t0 : ByteArray) (loop8 : ((List Int) × (List Int) × Int) → Option ((List Int) × Int × Int)) (v5 : List Int) (v6 : List Int) (v7 : Int) : Option ((List Int) × Int × Int) :=
  cond (decide (v7 < (t0.size : Int))) (
    G (0 ≤ v7 ∧ v7 < (t0.size : Int)) <|
    G (0 ≤ (bAt t0 v7) ∧ (bAt t0 v7) < (256 : Int)) <|
    G (v5.length = 256) <|
    G (0 ≤ v7 ∧ v7 < (v6.length : Int)) <|
    G (0 ≤ v7 ∧ v7 < ((v6.set v7.toNat (v5.getD (bAt t0 v7).toNat (0 : Int))).length : Int)) <|
    cond (((v6.set v7.toNat (v5.getD (bAt t0 v7).toNat (0 : Int))).getD v7.toNat (0 : Int)) == (255 : Int)) (
      some ([], v7, (10 : Int))) (
      G (inR (v7 + (1 : Int))) <|
      loop8 (v5, v6.set v7.toNat (v5.getD (bAt t0 v7).toNat (0 : Int)), v7 + (1 : Int)))) (
    some (v6, (t0.size : Int), (0 : Int)))
def f_cell_Line (t0 : ByteArray) : Option ((List Int) × Int × Int) :=
  (f_cell_byBytes).bind fun x1 =>
  G ((List.replicate 256 (0 : Int)).length = 256) <|
  G (x1.length = 256) <|
  G (0 ≤ (t0.size : Int) ∧ (t0.size : Int) ≤ (t0.size : Int) ∧ ((1 : Nat) : Int) * (t0.size : Int) ≤ 281474976710656 ∧ (t0.size : Int) ≤ 9223372036854775807) <|
  iter (fun loop (s : (List Int) × (List Int) × Int) => f_cell_Line_b1 t0 loop s.1 s.2.1 s.2.2) 1000000 (x1, List.replicate (t0.size : Int).toNat (0 : Int), (0 : Int))
theorem f_cell_Line_ok {t0 : ByteArray} {r : (List Int) × Int × Int} (H : f_cell_Line t0 = some r) : QSpec Try.prog 13 [.string t0] (.tup [slA (eI .u8) r.1, .int .i64 r.2.1, .int .i64 r.2.2]) := by
  refine Spec.of_AW Try.func13 rfl (by simp [Try.ntmps13]) ?_
  rw [Try.ntmps13]
  unfold f_cell_Line at H
  change AW _ _ _ [(0, .string t0)] [] _
  refine AW.regionSeq ?_
  refine OpsW.seg 3 [0] [] [(0, .string t0)] (by kernel_rfl) trivial ?_
  refine OpsW.nil ?_
  refine AW.regionSeq ?_
  obtain ⟨x1, hx1, H⟩ := bindS H
  refine OpsW.qcall rfl (by kernel_rfl) rfl rfl (glAll_sound trivial) .nil (f_cell_byBytes_ok hx1) (pur_agg _) ?_
  refine OpsW.allocT (z := (zc Try.prog 52).getD []) (enc := eI .u8) (0 : Int) 256 256 rfl rfl rfl 5 rfl (by kernel_rfl) (by kernel_rfl) (by kernel_rfl) (by kernel_rfl) ?_
  obtain ⟨g2, H⟩ := G_some H
  obtain ⟨g3, H⟩ := G_some H
  refine OpsW.storeW (enc := eI .u8) (k := 1) (n := 256) rfl rfl rfl rfl trivial trivial rfl rfl rfl (fun _ => rfl) rfl (by kernel_rfl) g3 (arr_len (eI .u8) 1 (fun _ => rfl) (List.replicate 256 (0 : Int)) g2 rfl) (fun _ => rfl) ?_
  refine OpsW.seg 0 [5, 0] [] [(5, .ref 5 0 0), (0, .string t0)] (by kernel_rfl) trivial ?_
  refine OpsW.recast (env' := [(5, .ref 5 0 0), (0, .string t0)]) (h' := [(5, ⟨0, true, 52, 256, (x1.flatMap (eI .u8)).map .im⟩)]) (StC.mk (phi [(5, some 5)]) (.old rfl rfl rfl rfl rfl (CstL.ims _) .nil) rfl (.cons (.ref rfl rfl rfl rfl rfl) (.cons .im .nil))) ?_
  refine OpsW.nil ?_
  refine AW.regionSeq ?_
  refine OpsW.seg 2 [10, 5, 0] [] [(10, .int .i64 (t0.size : Int)), (5, .ref 5 0 0), (0, .string t0)] (by kernel_rfl) trivial ?_
  obtain ⟨g4, H⟩ := G_some H
  refine OpsW.makeT (enc := eI .u8) (0 : Int) rfl rfl rfl 11 rfl E29 rfl rfl rfl g4 ?_
  refine OpsW.seg 1 [6, 5, 0] [] [(6, .rsl 11 0 0 ((List.replicate (t0.size : Int).toNat (0 : Int)).length)), (5, .ref 5 0 0), (0, .string t0)] (by kernel_rfl) trivial ?_
  refine OpsW.recast (env' := [(6, .rsl 6 0 0 ((List.replicate (t0.size : Int).toNat (0 : Int)).length)), (5, .ref 5 0 0), (0, .string t0)]) (h' := [(5, ⟨0, true, 52, 256, (x1.flatMap (eI .u8)).map .im⟩), (6, rtA 0 24 1 (eI .u8) (List.replicate (t0.size : Int).toNat (0 : Int)))]) (StC.mk (phi [(5, some 5), (6, some 11)]) (.old rfl rfl rfl rfl rfl (CstL.ims _) (.old rfl rfl rfl rfl rfl (CstL.ims _) .nil)) rfl (.cons (.rsl rfl rfl rfl rfl rfl rfl) (.cons (.ref rfl rfl rfl rfl rfl) (.cons .im .nil)))) ?_
  refine OpsW.nil ?_
  refine AW.seq ?_
  refine AW.regionSeq ?_
  refine OpsW.seg 3 [14, 13, 6, 5, 0] [] [(14, .int .i64 (0 : Int)), (13, .int .i64 (t0.size : Int)), (6, .rsl 6 0 0 ((List.replicate (t0.size : Int).toNat (0 : Int)).length)), (5, .ref 5 0 0), (0, .string t0)] (by kernel_rfl) trivial ?_
  refine OpsW.nil ?_
  refine AW.block ?_
  refine AW.iterK (fun loop (s : (List Int) × (List Int) × Int) => f_cell_Line_b1 t0 loop s.1 s.2.1 s.2.2) r (fun (s : (List Int) × (List Int) × Int) => [(0, .string t0), (5, .ref 5 0 0), (6, .rsl 6 0 0 s.2.1.length), (13, .int .i64 (t0.size : Int)), (14, .int .i64 s.2.2)]) (fun (s : (List Int) × (List Int) × Int) => [(5, ⟨0, true, 52, 256, (s.1.flatMap (eI .u8)).map .im⟩), (6, rtA 0 24 1 (eI .u8) s.2.1)]) ?_ 1000000 (x1, List.replicate (t0.size : Int).toNat (0 : Int), (0 : Int)) H (StC.mk (phi [(5, some 5), (6, some 6)]) (.old rfl rfl rfl rfl rfl (CstL.ims _) (.old rfl rfl rfl rfl rfl (CstL.ims _) .nil)) rfl (.cons .im (.cons (.ref rfl rfl rfl rfl rfl) (.cons (.rsl rfl rfl rfl rfl rfl rfl) (.cons .im (.cons .im .nil))))))
  intro loop8 s H
  obtain ⟨v5, v6, v7⟩ := s
  change f_cell_Line_b1 t0 loop8 v5 v6 v7 = some r at H
  unfold f_cell_Line_b1 at H
  change AW _ _ _ [(0, .string t0), (5, .ref 5 0 0), (6, .rsl 6 0 0 v6.length), (13, .int .i64 (t0.size : Int)), (14, .int .i64 v7)] [(5, ⟨0, true, 52, 256, (v5.flatMap (eI .u8)).map .im⟩), (6, rtA 0 24 1 (eI .u8) v6)] _
  refine AW.regionSeq ?_
  refine OpsW.seg 1 [15, 0, 5, 6, 13, 14] [] [(15, .bool (decide (v7 < (t0.size : Int)))), (0, .string t0), (5, .ref 5 0 0), (6, .rsl 6 0 0 v6.length), (13, .int .i64 (t0.size : Int)), (14, .int .i64 v7)] (by kernel_rfl) trivial ?_
  refine OpsW.nil ?_
  refine AW.seq ?_
  refine AW.cond (b := decide (v7 < (t0.size : Int))) rfl (fun c9 => ?_) (fun c9 => ?_)
  · replace H := condT c9 H
    refine AW.skip ?_
    refine AW.seq ?_
    refine AW.block ?_
    refine AW.regionSeq ?_
    refine OpsW.seg 2 [7, 0, 5, 6, 13, 14] [] [(7, .int .i64 v7), (0, .string t0), (5, .ref 5 0 0), (6, .rsl 6 0 0 v6.length), (13, .int .i64 (t0.size : Int)), (14, .int .i64 v7)] (by kernel_rfl) trivial ?_
    refine OpsW.nil ?_
    refine AW.regionSeq ?_
    obtain ⟨g10, H⟩ := G_some H
    obtain ⟨g11, H⟩ := G_some H
    refine OpsW.seg 6 [22, 18, 17, 7, 0, 5, 6, 13, 14] [0 ≤ v7 ∧ v7 < (t0.size : Int), 0 ≤ (bAt t0 v7) ∧ (bAt t0 v7) < (256 : Int)] [(22, .ref 5 0 (0 + (bAt t0 v7).toNat * 1)), (18, .int .i64 v7), (17, .rsl 6 0 0 v6.length), (7, .int .i64 v7), (0, .string t0), (5, .ref 5 0 0), (6, .rsl 6 0 0 v6.length), (13, .int .i64 (t0.size : Int)), (14, .int .i64 v7)] (by kernel_rfl) ⟨g10, g11, trivial⟩ ?_
    obtain ⟨g12, H⟩ := G_some H
    refine OpsW.asU (.int .u8 (v5.getD (bAt t0 v7).toNat (0 : Int))) rfl rfl (T.loadR rfl trivial (by kernel_rfl) rfl rfl rfl (rt_cell (eI .u8) 1 (fun _ => rfl) v5 (0 : Int) (bAt t0 v7).toNat (ltA (n := 256) g11 g12) 0 (fun a => .val (.int .u8 a)) (fun _ => rfl) (by omega))) ?_
    obtain ⟨g13, H⟩ := G_some H
    refine OpsW.seg 1 [24, 23, 7, 0, 5, 6, 13, 14] [0 ≤ v7 ∧ v7 < (v6.length : Int)] [(24, .ref 6 0 (0 + v7.toNat * 1)), (23, .int .u8 (v5.getD (bAt t0 v7).toNat (0 : Int))), (7, .int .i64 v7), (0, .string t0), (5, .ref 5 0 0), (6, .rsl 6 0 0 v6.length), (13, .int .i64 (t0.size : Int)), (14, .int .i64 v7)] (by kernel_rfl) ⟨g13, trivial⟩ ?_
    refine OpsW.storeT (enc := eI .u8) (k := 1) (0 : Int) (v5.getD (bAt t0 v7).toNat (0 : Int)) [.val (.int .u8 (v5.getD (bAt t0 v7).toNat (0 : Int)))] v7.toNat 0 rfl rfl rfl (by exact congrArg (AV.ref 6 0) (by first | omega | rfl | (simp; omega))) trivial trivial rfl (fun _ => rfl) rfl (by kernel_rfl) (okCb_sound (by kernel_rfl)) (ltN g13) (Nat.le_of_ble_eq_true (by kernel_rfl)) rfl ?_
    refine OpsW.weaken [(24, .ref 6 0 (0 + v7.toNat * 1)), (23, .int .u8 (v5.getD (bAt t0 v7).toNat (0 : Int))), (7, .int .i64 v7), (0, .string t0), (5, .ref 5 0 0), (6, .rsl 6 0 0 ((v6.set v7.toNat (v5.getD (bAt t0 v7).toNat (0 : Int))).length)), (13, .int .i64 (t0.size : Int)), (14, .int .i64 v7)] (Env.le_of_eq (by simp only [List.length_set])) ?_
    refine OpsW.seg 0 [7, 0, 5, 6, 13, 14] [] [(7, .int .i64 v7), (0, .string t0), (5, .ref 5 0 0), (6, .rsl 6 0 0 ((v6.set v7.toNat (v5.getD (bAt t0 v7).toNat (0 : Int))).length)), (13, .int .i64 (t0.size : Int)), (14, .int .i64 v7)] (by kernel_rfl) trivial ?_
    refine OpsW.recast (env' := [(7, .int .i64 v7), (0, .string t0), (5, .ref 5 0 0), (6, .rsl 6 0 0 ((v6.set v7.toNat (v5.getD (bAt t0 v7).toNat (0 : Int))).length)), (13, .int .i64 (t0.size : Int)), (14, .int .i64 v7)]) (h' := [(5, ⟨0, true, 52, 256, (v5.flatMap (eI .u8)).map .im⟩), (6, rtA 0 24 1 (eI .u8) (v6.set v7.toNat (v5.getD (bAt t0 v7).toNat (0 : Int))))]) (StC.mk (phi [(5, some 5), (6, some 6)]) (.old rfl rfl rfl rfl rfl (CstL.ims _) (.old rfl rfl rfl rfl rfl (CstL.ims _) .nil)) rfl (.cons .im (.cons .im (.cons (.ref rfl rfl rfl rfl rfl) (.cons (.rsl rfl rfl rfl rfl rfl rfl) (.cons .im (.cons .im .nil))))))) ?_
    refine OpsW.nil ?_
    refine AW.regionSeq ?_
    obtain ⟨g14, H⟩ := G_some H
    refine OpsW.seg 3 [27, 7, 0, 5, 6, 13, 14] [0 ≤ v7 ∧ v7 < ((v6.set v7.toNat (v5.getD (bAt t0 v7).toNat (0 : Int))).length : Int)] [(27, .ref 6 0 (0 + v7.toNat * 1)), (7, .int .i64 v7), (0, .string t0), (5, .ref 5 0 0), (6, .rsl 6 0 0 ((v6.set v7.toNat (v5.getD (bAt t0 v7).toNat (0 : Int))).length)), (13, .int .i64 (t0.size : Int)), (14, .int .i64 v7)] (by kernel_rfl) ⟨g14, trivial⟩ ?_
    refine OpsW.asU (.int .u8 ((v6.set v7.toNat (v5.getD (bAt t0 v7).toNat (0 : Int))).getD v7.toNat (0 : Int))) rfl rfl (T.loadR rfl trivial (by kernel_rfl) rfl rfl rfl (rt_cell (eI .u8) 1 (fun _ => rfl) (v6.set v7.toNat (v5.getD (bAt t0 v7).toNat (0 : Int))) (0 : Int) v7.toNat (ltN g14) 0 (fun a => .val (.int .u8 a)) (fun _ => rfl) (by omega))) ?_
    refine OpsW.seg 1 [29, 7, 0, 5, 6, 13, 14] [] [(29, .bool (((v6.set v7.toNat (v5.getD (bAt t0 v7).toNat (0 : Int))).getD v7.toNat (0 : Int)) == (255 : Int))), (7, .int .i64 v7), (0, .string t0), (5, .ref 5 0 0), (6, .rsl 6 0 0 ((v6.set v7.toNat (v5.getD (bAt t0 v7).toNat (0 : Int))).length)), (13, .int .i64 (t0.size : Int)), (14, .int .i64 v7)] (by kernel_rfl) trivial ?_
    refine OpsW.nil ?_
    refine AW.cond (b := ((v6.set v7.toNat (v5.getD (bAt t0 v7).toNat (0 : Int))).getD v7.toNat (0 : Int)) == (255 : Int)) rfl (fun c15 => ?_) (fun c15 => ?_)
    · replace H := condT c15 H
      refine AW.regionSeq ?_
      refine OpsW.seg 4 [4, 3, 2] [] [(4, .int .i64 (10 : Int)), (3, .int .i64 v7), (2, .im (.val (.slice none 0 0)))] (by kernel_rfl) trivial ?_
      refine OpsW.nil ?_
      obtain rfl := Option.some.inj H
      refine AW.recast (env' := [(2, slA (eI .u8) []), (3, .int .i64 v7), (4, .int .i64 (10 : Int))]) (h' := []) (StC.pure (.cons .nil (.cons .im (.cons .im .nil)))) ?_
      refine AW.ret ?_
      try simp only [Ex.then, Ex.inBlock, Ex.noGoto, Ex.jump, reduceIte, Nat.reduceEqDiff, reduceCtorEq]
      refine Done.gen rfl (.tmp (.tmp (.tmp .nil))) ?_
      show _ = _
      kernel_rfl
    · replace H := condF c15 H
      refine AW.skip ?_
      refine AW.region ?_
      obtain ⟨g16, H⟩ := G_some H
      refine OpsW.seg 2 [14, 0, 5, 6, 13] [inR (v7 + (1 : Int))] [(14, .int .i64 (v7 + (1 : Int))), (0, .string t0), (5, .ref 5 0 0), (6, .rsl 6 0 0 ((v6.set v7.toNat (v5.getD (bAt t0 v7).toNat (0 : Int))).length)), (13, .int .i64 (t0.size : Int))] (by kernel_rfl) ⟨g16, trivial⟩ ?_
      refine OpsW.nil ?_
      show ∃ y, _ ∧ StC _ _ _ _
      exact ⟨(v5, v6.set v7.toNat (v5.getD (bAt t0 v7).toNat (0 : Int)), v7 + (1 : Int)), H, (StC.mk (phi [(5, some 5), (6, some 6)]) (.old rfl rfl rfl rfl rfl (CstL.ims _) (.old rfl rfl rfl rfl rfl (CstL.ims _) .nil)) rfl (.cons .im (.cons (.ref rfl rfl rfl rfl rfl) (.cons (.rsl rfl rfl rfl rfl rfl rfl) (.cons .im (.cons .im .nil))))))⟩
  · replace H := condF c9 H
    refine AW.exit ?_
    refine AW.regionSeq ?_
    refine OpsW.seg 6 [4, 3, 2] [] [(4, .int .i64 (0 : Int)), (3, .int .i64 (t0.size : Int)), (2, .rsl 6 0 0 v6.length)] (by kernel_rfl) trivial ?_
    refine OpsW.recast (env' := [(4, .int .i64 (0 : Int)), (3, .int .i64 (t0.size : Int)), (2, slA (eI .u8) v6)]) (h' := []) (StC.mk (phi []) .nil rfl (.cons .im (.cons .im (.cons (.frz rfl rfl rfl (frz_all (eI .u8) 1 (fun _ => rfl) v6) (fm_length (eI .u8) 1 (fun _ => rfl) v6) (phi_ne rfl)) .nil)))) ?_
    refine OpsW.nil ?_
    obtain rfl := Option.some.inj H
    refine AW.recast (env' := [(2, slA (eI .u8) v6), (3, .int .i64 (t0.size : Int)), (4, .int .i64 (0 : Int))]) (h' := []) (StC.pure (.cons .im (.cons .im (.cons .im .nil)))) ?_
    refine AW.ret ?_
    try simp only [Ex.then, Ex.inBlock, Ex.noGoto, Ex.jump, reduceIte, Nat.reduceEqDiff, reduceCtorEq]
    refine Done.gen rfl (.tmp (.tmp (.tmp .nil))) ?_
    show _ = _
    kernel_rfl
def f_R01_Line_b1 (t0 : ByteArray) (loop3 : ((List Int) × Int) → Option ((List Int) × Int × Int)) (v1 : List Int) (v2 : Int) : Option ((List Int) × Int × Int) :=
  cond (decide (v2 < (t0.size : Int))) (
    G (0 ≤ v2 ∧ v2 < (t0.size : Int)) <|
    (f_R01_FromAscii (bAt t0 v2)).bind fun x6 =>
    cond (x6.2 != (0 : Int)) (
      some ([], v2, x6.2)) (
      G (room 1 (v1.length + 1)) <|
      G (inR (v2 + (1 : Int))) <|
      loop3 (v1 ++ [x6.1], v2 + (1 : Int)))) (
    some (v1, (t0.size : Int), (0 : Int)))
def f_R01_Line (t0 : ByteArray) : Option ((List Int) × Int × Int) :=
  iter (fun loop (s : (List Int) × Int) => f_R01_Line_b1 t0 loop s.1 s.2) 1000000 (([] : List Int), (0 : Int))
theorem f_R01_Line_ok {t0 : ByteArray} {r : (List Int) × Int × Int} (H : f_R01_Line t0 = some r) : QSpec Try.prog 14 [.string t0] (.tup [slA (eI .u8) r.1, .int .i64 r.2.1, .int .i64 r.2.2]) := by
  refine Spec.of_AW Try.func14 rfl (by simp [Try.ntmps14]) ?_
  rw [Try.ntmps14]
  unfold f_R01_Line at H
  change AW _ _ _ [(0, .string t0)] [] _
  refine AW.regionSeq ?_
  refine OpsW.seg 3 [0] [] [(0, .string t0)] (by kernel_rfl) trivial ?_
  refine OpsW.nil ?_
  refine AW.regionSeq ?_
  refine OpsW.buildT (enc := eI .u8) ([] : List Int) rfl rfl rfl 9 rfl E29 (fun _ => rfl) (by decide) trivial (by kernel_rfl) (by kernel_rfl) (by kernel_rfl) rfl ?_
  refine OpsW.seg 1 [5, 0] [] [(5, .rsl 9 0 0 (([] : List Int).length)), (0, .string t0)] (by kernel_rfl) trivial ?_
  refine OpsW.recast (env' := [(5, .rsl 5 0 0 (([] : List Int).length)), (0, .string t0)]) (h' := [(5, rtA 0 24 1 (eI .u8) ([] : List Int))]) (StC.mk (phi [(5, some 9)]) (.old rfl rfl rfl rfl rfl (CstL.ims _) .nil) rfl (.cons (.rsl rfl rfl rfl rfl rfl rfl) (.cons .im .nil))) ?_
  refine OpsW.nil ?_
  refine AW.seq ?_
  refine AW.regionSeq ?_
  refine OpsW.seg 1 [6, 5, 0] [] [(6, .int .i64 (0 : Int)), (5, .rsl 5 0 0 (([] : List Int).length)), (0, .string t0)] (by kernel_rfl) trivial ?_
  refine OpsW.nil ?_
  refine AW.block ?_
  refine AW.iterK (fun loop (s : (List Int) × Int) => f_R01_Line_b1 t0 loop s.1 s.2) r (fun (s : (List Int) × Int) => [(0, .string t0), (5, .rsl 5 0 0 s.1.length), (6, .int .i64 s.2)]) (fun (s : (List Int) × Int) => [(5, rtA 0 24 1 (eI .u8) s.1)]) ?_ 1000000 (([] : List Int), (0 : Int)) H (StC.mk (phi [(5, some 5)]) (.old rfl rfl rfl rfl rfl (CstL.ims _) .nil) rfl (.cons .im (.cons (.rsl rfl rfl rfl rfl rfl rfl) (.cons .im .nil))))
  intro loop3 s H
  obtain ⟨v1, v2⟩ := s
  change f_R01_Line_b1 t0 loop3 v1 v2 = some r at H
  unfold f_R01_Line_b1 at H
  change AW _ _ _ [(0, .string t0), (5, .rsl 5 0 0 v1.length), (6, .int .i64 v2)] [(5, rtA 0 24 1 (eI .u8) v1)] _
  refine AW.seq ?_
  refine AW.regionSeq ?_
  refine OpsW.seg 4 [13, 0, 5, 6] [] [(13, .bool (decide (v2 < (t0.size : Int)))), (0, .string t0), (5, .rsl 5 0 0 v1.length), (6, .int .i64 v2)] (by kernel_rfl) trivial ?_
  refine OpsW.nil ?_
  refine AW.cond (b := decide (v2 < (t0.size : Int))) rfl (fun c4 => ?_) (fun c4 => ?_)
  · replace H := condT c4 H
    refine AW.skip ?_
    refine AW.seq ?_
    refine AW.block ?_
    refine AW.regionSeq ?_
    obtain ⟨g5, H⟩ := G_some H
    refine OpsW.seg 3 [19, 0, 5, 6] [0 ≤ v2 ∧ v2 < (t0.size : Int)] [(19, .int .u8 (bAt t0 v2)), (0, .string t0), (5, .rsl 5 0 0 v1.length), (6, .int .i64 v2)] (by kernel_rfl) ⟨g5, trivial⟩ ?_
    obtain ⟨x6, hx6, H⟩ := bindS H
    refine OpsW.qcall rfl (by kernel_rfl) rfl rfl (glAll_sound trivial) (.cons (.pur rfl) .nil) (f_R01_FromAscii_ok hx6) rfl ?_
    refine OpsW.seg 5 [8, 7, 0, 5, 6] [] [(8, .int .i64 x6.2), (7, .int .u8 x6.1), (0, .string t0), (5, .rsl 5 0 0 v1.length), (6, .int .i64 v2)] (by kernel_rfl) trivial ?_
    refine OpsW.nil ?_
    refine AW.seq ?_
    refine AW.regionSeq ?_
    refine OpsW.seg 2 [24, 8, 7, 0, 5, 6] [] [(24, .bool (x6.2 != (0 : Int))), (8, .int .i64 x6.2), (7, .int .u8 x6.1), (0, .string t0), (5, .rsl 5 0 0 v1.length), (6, .int .i64 v2)] (by kernel_rfl) trivial ?_
    refine OpsW.nil ?_
    refine AW.cond (b := x6.2 != (0 : Int)) rfl (fun c7 => ?_) (fun c7 => ?_)
    · replace H := condT c7 H
      refine AW.regionSeq ?_
      refine OpsW.seg 5 [4, 3, 2] [] [(4, .int .i64 x6.2), (3, .int .i64 v2), (2, .im (.val (.slice none 0 0)))] (by kernel_rfl) trivial ?_
      refine OpsW.nil ?_
      obtain rfl := Option.some.inj H
      refine AW.recast (env' := [(2, slA (eI .u8) []), (3, .int .i64 v2), (4, .int .i64 x6.2)]) (h' := []) (StC.pure (.cons .nil (.cons .im (.cons .im .nil)))) ?_
      refine AW.ret ?_
      try simp only [Ex.then, Ex.inBlock, Ex.noGoto, Ex.jump, reduceIte, Nat.reduceEqDiff, reduceCtorEq]
      refine Done.gen rfl (.tmp (.tmp (.tmp .nil))) ?_
      show _ = _
      kernel_rfl
    · replace H := condF c7 H
      refine AW.skip ?_
      refine AW.region ?_
      refine OpsW.seg 2 [28, 27, 0, 5, 6] [] [(28, .int .u8 x6.1), (27, .rsl 5 0 0 v1.length), (0, .string t0), (5, .rsl 5 0 0 v1.length), (6, .int .i64 v2)] (by kernel_rfl) trivial ?_
      obtain ⟨g8, H⟩ := G_some H
      refine OpsW.appendLF (enc := eI .u8) [x6.1] rfl rfl rfl (by decide) rfl rfl rfl (by simp) E29 (fun _ => rfl) (by decide) trivial (by kernel_rfl) (by kernel_rfl) (by kernel_rfl) rfl rfl rfl g8 ?_
      refine OpsW.seg 1 [5, 0, 6] [] [(5, .rsl 5 1 0 ((v1 ++ [x6.1]).length)), (0, .string t0), (6, .int .i64 v2)] (by kernel_rfl) trivial ?_
      refine OpsW.recast (env' := [(5, .rsl 5 0 0 ((v1 ++ [x6.1]).length)), (0, .string t0), (6, .int .i64 v2)]) (h' := [(5, rtA 0 24 1 (eI .u8) (v1 ++ [x6.1]))]) (StC.mk (phi [(5, some 5)]) (.old rfl rfl rfl rfl rfl (CstL.ims _) .nil) rfl (.cons (.rsl rfl rfl rfl rfl rfl rfl) (.cons .im (.cons .im .nil)))) ?_
      refine OpsW.nil ?_
      refine AW.region ?_
      obtain ⟨g9, H⟩ := G_some H
      refine OpsW.seg 3 [6, 5, 0] [inR (v2 + (1 : Int))] [(6, .int .i64 (v2 + (1 : Int))), (5, .rsl 5 0 0 ((v1 ++ [x6.1]).length)), (0, .string t0)] (by kernel_rfl) ⟨g9, trivial⟩ ?_
      refine OpsW.nil ?_
      show ∃ y, _ ∧ StC _ _ _ _
      exact ⟨(v1 ++ [x6.1], v2 + (1 : Int)), H, (StC.mk (phi [(5, some 5)]) (.old rfl rfl rfl rfl rfl (CstL.ims _) .nil) rfl (.cons .im (.cons (.rsl rfl rfl rfl rfl rfl rfl) (.cons .im .nil))))⟩
  · replace H := condF c4 H
    refine AW.exit ?_
    refine AW.regionSeq ?_
    refine OpsW.seg 6 [4, 3, 2] [] [(4, .int .i64 (0 : Int)), (3, .int .i64 (t0.size : Int)), (2, .rsl 5 0 0 v1.length)] (by kernel_rfl) trivial ?_
    refine OpsW.recast (env' := [(4, .int .i64 (0 : Int)), (3, .int .i64 (t0.size : Int)), (2, slA (eI .u8) v1)]) (h' := []) (StC.mk (phi []) .nil rfl (.cons .im (.cons .im (.cons (.frz rfl rfl rfl (frz_all (eI .u8) 1 (fun _ => rfl) v1) (fm_length (eI .u8) 1 (fun _ => rfl) v1) (phi_ne rfl)) .nil)))) ?_
    refine OpsW.nil ?_
    obtain rfl := Option.some.inj H
    refine AW.recast (env' := [(2, slA (eI .u8) v1), (3, .int .i64 (t0.size : Int)), (4, .int .i64 (0 : Int))]) (h' := []) (StC.pure (.cons .im (.cons .im (.cons .im .nil)))) ?_
    refine AW.ret ?_
    try simp only [Ex.then, Ex.inBlock, Ex.noGoto, Ex.jump, reduceIte, Nat.reduceEqDiff, reduceCtorEq]
    refine Done.gen rfl (.tmp (.tmp (.tmp .nil))) ?_
    show _ = _
    kernel_rfl
def f_R01_Same_b1 (t0 : List Int) (t1 : List Int) (loop3 : (Int) → Option Bool) (v2 : Int) : Option Bool :=
  cond (decide (v2 < (t0.length : Int))) (
    G (0 ≤ v2 ∧ v2 < (t0.length : Int)) <|
    G (0 ≤ v2 ∧ v2 < (t1.length : Int)) <|
    cond ((t0.getD v2.toNat (0 : Int)) != (t1.getD v2.toNat (0 : Int))) (
      some false) (
      G (inR (v2 + (1 : Int))) <|
      loop3 (v2 + (1 : Int)))) (
    some true)
def f_R01_Same (t0 : List Int) (t1 : List Int) : Option Bool :=
  cond ((t0.length : Int) != (t1.length : Int)) (
    some false) (
    iter (fun loop (s : Int) => f_R01_Same_b1 t0 t1 loop s) 1000000 (0 : Int))
theorem f_R01_Same_ok {t0 : List Int} {t1 : List Int} {r : Bool} (H : f_R01_Same t0 t1 = some r) : QSpec Try.prog 15 [slA (eI .u8) t0, slA (eI .u8) t1] (.bool r) := by
  refine Spec.of_AW Try.func15 rfl (by simp [Try.ntmps15]) ?_
  rw [Try.ntmps15]
  unfold f_R01_Same at H
  change AW _ _ _ [(0, slA (eI .u8) t0), (1, slA (eI .u8) t1)] [] _
  refine AW.regionSeq ?_
  refine OpsW.seg 1 [0, 1] [] [(0, slA (eI .u8) t0), (1, slA (eI .u8) t1)] (by kernel_rfl) trivial ?_
  refine OpsW.nil ?_
  refine AW.seq ?_
  refine AW.regionSeq ?_
  refine OpsW.seg 5 [10, 0, 1] [] [(10, .bool ((t0.length : Int) != (t1.length : Int))), (0, slA (eI .u8) t0), (1, slA (eI .u8) t1)] (by kernel_rfl) trivial ?_
  refine OpsW.nil ?_
  refine AW.cond (b := (t0.length : Int) != (t1.length : Int)) rfl (fun c1 => ?_) (fun c1 => ?_)
  · replace H := condT c1 H
    refine AW.regionSeq ?_
    refine OpsW.seg 1 [4] [] [(4, .bool false)] (by kernel_rfl) trivial ?_
    refine OpsW.nil ?_
    obtain rfl := Option.some.inj H
    refine AW.recast (env' := [(4, .bool false)]) (h' := []) (StC.pure (.cons .im .nil)) ?_
    refine AW.ret ?_
    try simp only [Ex.then, Ex.inBlock, Ex.noGoto, Ex.jump, reduceIte, Nat.reduceEqDiff, reduceCtorEq]
    refine Done.gen rfl (.tmp .nil) ?_
    show _ = _
    kernel_rfl
  · replace H := condF c1 H
    refine AW.skip ?_
    refine AW.seq ?_
    refine AW.regionSeq ?_
    refine OpsW.seg 1 [5, 0, 1] [] [(5, .int .i64 (0 : Int)), (0, slA (eI .u8) t0), (1, slA (eI .u8) t1)] (by kernel_rfl) trivial ?_
    refine OpsW.nil ?_
    refine AW.block ?_
    refine AW.iterK (fun loop (s : Int) => f_R01_Same_b1 t0 t1 loop s) r (fun (s : Int) => [(0, slA (eI .u8) t0), (1, slA (eI .u8) t1), (5, .int .i64 s)]) (fun (s : Int) => []) ?_ 1000000 (0 : Int) H (StC.pure (.cons .im (.cons .im (.cons .im .nil))))
    intro loop3 v2 H
    change f_R01_Same_b1 t0 t1 loop3 v2 = some r at H
    unfold f_R01_Same_b1 at H
    change AW _ _ _ [(0, slA (eI .u8) t0), (1, slA (eI .u8) t1), (5, .int .i64 v2)] [] _
    refine AW.seq ?_
    refine AW.regionSeq ?_
    refine OpsW.seg 4 [14, 0, 1, 5] [] [(14, .bool (decide (v2 < (t0.length : Int)))), (0, slA (eI .u8) t0), (1, slA (eI .u8) t1), (5, .int .i64 v2)] (by kernel_rfl) trivial ?_
    refine OpsW.nil ?_
    refine AW.cond (b := decide (v2 < (t0.length : Int))) rfl (fun c4 => ?_) (fun c4 => ?_)
    · replace H := condT c4 H
      refine AW.skip ?_
      refine AW.seq ?_
      refine AW.block ?_
      refine AW.drawSeq Try.checked.mixed (by kernel_rfl) ?_
      obtain ⟨g5, H⟩ := G_some H
      refine QOps.seg (N := 26) 3 [0 ≤ v2 ∧ v2 < (t0.length : Int)] [(19, .ipt (t0.flatMap (eI .u8)) (v2.toNat * 1)), (18, .int .i64 v2), (17, slA (eI .u8) t0), (14, .bool (decide (v2 < (t0.length : Int)))), (0, slA (eI .u8) t0), (1, slA (eI .u8) t1), (5, .int .i64 v2)] (by kernel_rfl) ⟨g5, trivial⟩ ?_
      refine QOps.asU (.int .u8 (t0.getD v2.toNat (0 : Int))) rfl (T.load rfl trivial (by kernel_rfl) (fm_cell0 (eI .u8) 1 (fun _ => rfl) t0 (0 : Int) v2.toNat (ltN g5) (fun a => .val (.int .u8 a)) (fun _ => rfl))) ?_
      obtain ⟨g6, H⟩ := G_some H
      refine QOps.seg (N := 26) 3 [0 ≤ v2 ∧ v2 < (t1.length : Int)] [(23, .ipt (t1.flatMap (eI .u8)) (v2.toNat * 1)), (22, .int .i64 v2), (21, slA (eI .u8) t1), (20, .int .u8 (t0.getD v2.toNat (0 : Int))), (19, .ipt (t0.flatMap (eI .u8)) (v2.toNat * 1)), (18, .int .i64 v2), (17, slA (eI .u8) t0), (14, .bool (decide (v2 < (t0.length : Int)))), (0, slA (eI .u8) t0), (1, slA (eI .u8) t1), (5, .int .i64 v2)] (by kernel_rfl) ⟨g6, trivial⟩ ?_
      refine QOps.asU (.int .u8 (t1.getD v2.toNat (0 : Int))) rfl (T.load rfl trivial (by kernel_rfl) (fm_cell0 (eI .u8) 1 (fun _ => rfl) t1 (0 : Int) v2.toNat (ltN g6) (fun a => .val (.int .u8 a)) (fun _ => rfl))) ?_
      refine QOps.seg (N := 26) 1 [] [(25, .bool ((t0.getD v2.toNat (0 : Int)) != (t1.getD v2.toNat (0 : Int)))), (24, .int .u8 (t1.getD v2.toNat (0 : Int))), (23, .ipt (t1.flatMap (eI .u8)) (v2.toNat * 1)), (22, .int .i64 v2), (21, slA (eI .u8) t1), (20, .int .u8 (t0.getD v2.toNat (0 : Int))), (19, .ipt (t0.flatMap (eI .u8)) (v2.toNat * 1)), (18, .int .i64 v2), (17, slA (eI .u8) t0), (14, .bool (decide (v2 < (t0.length : Int)))), (0, slA (eI .u8) t0), (1, slA (eI .u8) t1), (5, .int .i64 v2)] (by kernel_rfl) trivial ?_
      refine QOps.nil ?_
      refine AW.trim [25, 0, 1, 5] [(25, .bool ((t0.getD v2.toNat (0 : Int)) != (t1.getD v2.toNat (0 : Int)))), (0, slA (eI .u8) t0), (1, slA (eI .u8) t1), (5, .int .i64 v2)] (by kernel_rfl) ?_
      refine AW.cond (b := (t0.getD v2.toNat (0 : Int)) != (t1.getD v2.toNat (0 : Int))) rfl (fun c7 => ?_) (fun c7 => ?_)
      · replace H := condT c7 H
        refine AW.regionSeq ?_
        refine OpsW.seg 1 [4] [] [(4, .bool false)] (by kernel_rfl) trivial ?_
        refine OpsW.nil ?_
        obtain rfl := Option.some.inj H
        refine AW.recast (env' := [(4, .bool false)]) (h' := []) (StC.pure (.cons .im .nil)) ?_
        refine AW.ret ?_
        try simp only [Ex.then, Ex.inBlock, Ex.noGoto, Ex.jump, reduceIte, Nat.reduceEqDiff, reduceCtorEq]
        refine Done.gen rfl (.tmp .nil) ?_
        show _ = _
        kernel_rfl
      · replace H := condF c7 H
        refine AW.skip ?_
        refine AW.region ?_
        obtain ⟨g8, H⟩ := G_some H
        refine OpsW.seg 3 [5, 0, 1] [inR (v2 + (1 : Int))] [(5, .int .i64 (v2 + (1 : Int))), (0, slA (eI .u8) t0), (1, slA (eI .u8) t1)] (by kernel_rfl) ⟨g8, trivial⟩ ?_
        refine OpsW.nil ?_
        show ∃ y, _ ∧ StC _ _ _ _
        exact ⟨v2 + (1 : Int), H, (StC.pure (.cons .im (.cons .im (.cons .im .nil))))⟩
    · replace H := condF c4 H
      refine AW.exit ?_
      refine AW.regionSeq ?_
      refine OpsW.seg 1 [4] [] [(4, .bool true)] (by kernel_rfl) trivial ?_
      refine OpsW.nil ?_
      obtain rfl := Option.some.inj H
      refine AW.recast (env' := [(4, .bool true)]) (h' := []) (StC.pure (.cons .im .nil)) ?_
      refine AW.ret ?_
      try simp only [Ex.then, Ex.inBlock, Ex.noGoto, Ex.jump, reduceIte, Nat.reduceEqDiff, reduceCtorEq]
      refine Done.gen rfl (.tmp .nil) ?_
      show _ = _
      kernel_rfl
def f_R01_Felt (t0 : Int) (t1 : Int) : Option S_Felt :=
  some (⟨Int.tmod t0 (64 : Int), Int.tmod t1 (64 : Int)⟩ : S_Felt)
theorem f_R01_Felt_ok {t0 : Int} {t1 : Int} {r : S_Felt} (H : f_R01_Felt t0 t1 = some r) : QSpec Try.prog 16 [.int .u8 t0, .int .u8 t1] (.agg [.int .u8 r.Up, .int .u8 r.Maybe]) := by
  refine Spec.of_AW Try.func16 rfl (by simp [Try.ntmps16]) ?_
  rw [Try.ntmps16]
  unfold f_R01_Felt at H
  change AW _ _ _ [(0, .int .u8 t0), (1, .int .u8 t1)] [] _
  refine AW.regionSeq ?_
  refine OpsW.alloc' rfl rfl rfl 4 rfl (by kernel_rfl : zc Try.prog 34 = some [.int .u8 0, .int .u8 0]) (by kernel_rfl) ?_
  refine OpsW.recast (env' := [(4, .ref 4 0 0), (0, .int .u8 t0), (1, .int .u8 t1)]) (h' := [(4, ⟨0, true, 34, 2, [.int .u8 (0 : Int), .int .u8 (0 : Int)]⟩)]) (StC.mk (phi [(4, some 4)]) (.old rfl rfl rfl rfl rfl (.cons .im (.cons .im .nil)) .nil) rfl (.cons (.ref rfl rfl rfl rfl rfl) (.cons .im (.cons .im .nil)))) ?_
  refine OpsW.nil ?_
  refine AW.regionSeq ?_
  refine OpsW.seg 5 [9, 4] [(64 : Int) ≠ 0, (64 : Int) ≠ 0] [(9, .agg [.int .u8 (Int.tmod t0 (64 : Int)), .int .u8 (Int.tmod t1 (64 : Int))]), (4, .ref 4 0 0)] (by kernel_rfl) ⟨(by decide), (by decide), trivial⟩ ?_
  refine OpsW.store rfl rfl rfl rfl trivial trivial rfl rfl rfl (by kernel_rfl) (okCb_sound (by kernel_rfl)) (Nat.le_of_ble_eq_true (by kernel_rfl)) ?_
  change OpsW _ _ _ _ _ [(4, ⟨0, true, 34, 2, [.int .u8 (Int.tmod t0 (64 : Int)), .int .u8 (Int.tmod t1 (64 : Int))]⟩), (4, ⟨0, true, 34, 2, [.int .u8 (0 : Int), .int .u8 (0 : Int)]⟩)] _
  refine OpsW.seg 0 [4] [] [(4, .ref 4 0 0)] (by kernel_rfl) trivial ?_
  refine OpsW.recast (env' := [(4, .ref 4 0 0)]) (h' := [(4, ⟨0, true, 34, 2, [.int .u8 (Int.tmod t0 (64 : Int)), .int .u8 (Int.tmod t1 (64 : Int))]⟩)]) (StC.mk (phi [(4, some 4)]) (.old rfl rfl rfl rfl rfl (.cons .im (.cons .im .nil)) .nil) rfl (.cons (.ref rfl rfl rfl rfl rfl) .nil)) ?_
  refine OpsW.nil ?_
  obtain rfl := Option.some.inj H
  refine AW.recast (env' := [(4, .ref 4 0 0)]) (h' := [(4, ⟨0, true, 34, 2, [.int .u8 (Int.tmod t0 (64 : Int)), .int .u8 (Int.tmod t1 (64 : Int))]⟩)]) (StC.mk (phi [(4, some 4)]) (.old rfl rfl rfl rfl rfl (.cons .im (.cons .im .nil)) .nil) rfl (.cons (.ref rfl rfl rfl rfl rfl) .nil)) ?_
  refine AW.ret ?_
  try simp only [Ex.then, Ex.inBlock, Ex.noGoto, Ex.jump, reduceIte, Nat.reduceEqDiff, reduceCtorEq]
  refine Done.gen rfl (.cell rfl (by kernel_rfl) .nil) ?_
  show _ = _
  kernel_rfl
def f_bits_OnesCount8 (t0 : Int) : Option Int :=
  G (0 ≤ t0 ∧ t0 < ((⟨#[0, 1, 1, 2, 1, 2, 2, 3, 1, 2, 2, 3, 2, 3, 3, 4, 1, 2, 2, 3, 2, 3, 3, 4, 2, 3, 3, 4, 3, 4, 4, 5, 1, 2, 2, 3, 2, 3, 3, 4, 2, 3, 3, 4, 3, 4, 4, 5, 2, 3, 3, 4, 3, 4, 4, 5, 3, 4, 4, 5, 4, 5, 5, 6, 1, 2, 2, 3, 2, 3, 3, 4, 2, 3, 3, 4, 3, 4, 4, 5, 2, 3, 3, 4, 3, 4, 4, 5, 3, 4, 4, 5, 4, 5, 5, 6, 2, 3, 3, 4, 3, 4, 4, 5, 3, 4, 4, 5, 4, 5, 5, 6, 3, 4, 4, 5, 4, 5, 5, 6, 4, 5, 5, 6, 5, 6, 6, 7, 1, 2, 2, 3, 2, 3, 3, 4, 2, 3, 3, 4, 3, 4, 4, 5, 2, 3, 3, 4, 3, 4, 4, 5, 3, 4, 4, 5, 4, 5, 5, 6, 2, 3, 3, 4, 3, 4, 4, 5, 3, 4, 4, 5, 4, 5, 5, 6, 3, 4, 4, 5, 4, 5, 5, 6, 4, 5, 5, 6, 5, 6, 6, 7, 2, 3, 3, 4, 3, 4, 4, 5, 3, 4, 4, 5, 4, 5, 5, 6, 3, 4, 4, 5, 4, 5, 5, 6, 4, 5, 5, 6, 5, 6, 6, 7, 3, 4, 4, 5, 4, 5, 5, 6, 4, 5, 5, 6, 5, 6, 6, 7, 4, 5, 5, 6, 5, 6, 6, 7, 5, 6, 6, 7, 6, 7, 7, 8]⟩ : ByteArray).size : Int)) <|
  some (IntKind.wrap .i64 (bAt (⟨#[0, 1, 1, 2, 1, 2, 2, 3, 1, 2, 2, 3, 2, 3, 3, 4, 1, 2, 2, 3, 2, 3, 3, 4, 2, 3, 3, 4, 3, 4, 4, 5, 1, 2, 2, 3, 2, 3, 3, 4, 2, 3, 3, 4, 3, 4, 4, 5, 2, 3, 3, 4, 3, 4, 4, 5, 3, 4, 4, 5, 4, 5, 5, 6, 1, 2, 2, 3, 2, 3, 3, 4, 2, 3, 3, 4, 3, 4, 4, 5, 2, 3, 3, 4, 3, 4, 4, 5, 3, 4, 4, 5, 4, 5, 5, 6, 2, 3, 3, 4, 3, 4, 4, 5, 3, 4, 4, 5, 4, 5, 5, 6, 3, 4, 4, 5, 4, 5, 5, 6, 4, 5, 5, 6, 5, 6, 6, 7, 1, 2, 2, 3, 2, 3, 3, 4, 2, 3, 3, 4, 3, 4, 4, 5, 2, 3, 3, 4, 3, 4, 4, 5, 3, 4, 4, 5, 4, 5, 5, 6, 2, 3, 3, 4, 3, 4, 4, 5, 3, 4, 4, 5, 4, 5, 5, 6, 3, 4, 4, 5, 4, 5, 5, 6, 4, 5, 5, 6, 5, 6, 6, 7, 2, 3, 3, 4, 3, 4, 4, 5, 3, 4, 4, 5, 4, 5, 5, 6, 3, 4, 4, 5, 4, 5, 5, 6, 4, 5, 5, 6, 5, 6, 6, 7, 3, 4, 4, 5, 4, 5, 5, 6, 4, 5, 5, 6, 5, 6, 6, 7, 4, 5, 5, 6, 5, 6, 6, 7, 5, 6, 6, 7, 6, 7, 7, 8]⟩ : ByteArray) t0))
theorem f_bits_OnesCount8_ok {t0 : Int} {r : Int} (H : f_bits_OnesCount8 t0 = some r) : QSpec Try.prog 37 [.int .u8 t0] (.int .i64 r) := by
  refine Spec.of_AW Try.func37 rfl (by simp [Try.ntmps37]) ?_
  rw [Try.ntmps37]
  unfold f_bits_OnesCount8 at H
  change AW _ _ _ [(0, .int .u8 t0)] [] _
  refine AW.regionSeq ?_
  refine OpsW.seg 1 [0] [] [(0, .int .u8 t0)] (by kernel_rfl) trivial ?_
  refine OpsW.nil ?_
  refine AW.regionSeq ?_
  obtain ⟨g1, H⟩ := G_some H
  refine OpsW.seg 4 [2] [0 ≤ t0 ∧ t0 < ((⟨#[0, 1, 1, 2, 1, 2, 2, 3, 1, 2, 2, 3, 2, 3, 3, 4, 1, 2, 2, 3, 2, 3, 3, 4, 2, 3, 3, 4, 3, 4, 4, 5, 1, 2, 2, 3, 2, 3, 3, 4, 2, 3, 3, 4, 3, 4, 4, 5, 2, 3, 3, 4, 3, 4, 4, 5, 3, 4, 4, 5, 4, 5, 5, 6, 1, 2, 2, 3, 2, 3, 3, 4, 2, 3, 3, 4, 3, 4, 4, 5, 2, 3, 3, 4, 3, 4, 4, 5, 3, 4, 4, 5, 4, 5, 5, 6, 2, 3, 3, 4, 3, 4, 4, 5, 3, 4, 4, 5, 4, 5, 5, 6, 3, 4, 4, 5, 4, 5, 5, 6, 4, 5, 5, 6, 5, 6, 6, 7, 1, 2, 2, 3, 2, 3, 3, 4, 2, 3, 3, 4, 3, 4, 4, 5, 2, 3, 3, 4, 3, 4, 4, 5, 3, 4, 4, 5, 4, 5, 5, 6, 2, 3, 3, 4, 3, 4, 4, 5, 3, 4, 4, 5, 4, 5, 5, 6, 3, 4, 4, 5, 4, 5, 5, 6, 4, 5, 5, 6, 5, 6, 6, 7, 2, 3, 3, 4, 3, 4, 4, 5, 3, 4, 4, 5, 4, 5, 5, 6, 3, 4, 4, 5, 4, 5, 5, 6, 4, 5, 5, 6, 5, 6, 6, 7, 3, 4, 4, 5, 4, 5, 5, 6, 4, 5, 5, 6, 5, 6, 6, 7, 4, 5, 5, 6, 5, 6, 6, 7, 5, 6, 6, 7, 6, 7, 7, 8]⟩ : ByteArray).size : Int)] [(2, .int .i64 (IntKind.wrap .i64 (bAt (⟨#[0, 1, 1, 2, 1, 2, 2, 3, 1, 2, 2, 3, 2, 3, 3, 4, 1, 2, 2, 3, 2, 3, 3, 4, 2, 3, 3, 4, 3, 4, 4, 5, 1, 2, 2, 3, 2, 3, 3, 4, 2, 3, 3, 4, 3, 4, 4, 5, 2, 3, 3, 4, 3, 4, 4, 5, 3, 4, 4, 5, 4, 5, 5, 6, 1, 2, 2, 3, 2, 3, 3, 4, 2, 3, 3, 4, 3, 4, 4, 5, 2, 3, 3, 4, 3, 4, 4, 5, 3, 4, 4, 5, 4, 5, 5, 6, 2, 3, 3, 4, 3, 4, 4, 5, 3, 4, 4, 5, 4, 5, 5, 6, 3, 4, 4, 5, 4, 5, 5, 6, 4, 5, 5, 6, 5, 6, 6, 7, 1, 2, 2, 3, 2, 3, 3, 4, 2, 3, 3, 4, 3, 4, 4, 5, 2, 3, 3, 4, 3, 4, 4, 5, 3, 4, 4, 5, 4, 5, 5, 6, 2, 3, 3, 4, 3, 4, 4, 5, 3, 4, 4, 5, 4, 5, 5, 6, 3, 4, 4, 5, 4, 5, 5, 6, 4, 5, 5, 6, 5, 6, 6, 7, 2, 3, 3, 4, 3, 4, 4, 5, 3, 4, 4, 5, 4, 5, 5, 6, 3, 4, 4, 5, 4, 5, 5, 6, 4, 5, 5, 6, 5, 6, 6, 7, 3, 4, 4, 5, 4, 5, 5, 6, 4, 5, 5, 6, 5, 6, 6, 7, 4, 5, 5, 6, 5, 6, 6, 7, 5, 6, 6, 7, 6, 7, 7, 8]⟩ : ByteArray) t0)))] (by kernel_rfl) ⟨g1, trivial⟩ ?_
  refine OpsW.nil ?_
  obtain rfl := Option.some.inj H
  refine AW.recast (env' := [(2, .int .i64 (IntKind.wrap .i64 (bAt (⟨#[0, 1, 1, 2, 1, 2, 2, 3, 1, 2, 2, 3, 2, 3, 3, 4, 1, 2, 2, 3, 2, 3, 3, 4, 2, 3, 3, 4, 3, 4, 4, 5, 1, 2, 2, 3, 2, 3, 3, 4, 2, 3, 3, 4, 3, 4, 4, 5, 2, 3, 3, 4, 3, 4, 4, 5, 3, 4, 4, 5, 4, 5, 5, 6, 1, 2, 2, 3, 2, 3, 3, 4, 2, 3, 3, 4, 3, 4, 4, 5, 2, 3, 3, 4, 3, 4, 4, 5, 3, 4, 4, 5, 4, 5, 5, 6, 2, 3, 3, 4, 3, 4, 4, 5, 3, 4, 4, 5, 4, 5, 5, 6, 3, 4, 4, 5, 4, 5, 5, 6, 4, 5, 5, 6, 5, 6, 6, 7, 1, 2, 2, 3, 2, 3, 3, 4, 2, 3, 3, 4, 3, 4, 4, 5, 2, 3, 3, 4, 3, 4, 4, 5, 3, 4, 4, 5, 4, 5, 5, 6, 2, 3, 3, 4, 3, 4, 4, 5, 3, 4, 4, 5, 4, 5, 5, 6, 3, 4, 4, 5, 4, 5, 5, 6, 4, 5, 5, 6, 5, 6, 6, 7, 2, 3, 3, 4, 3, 4, 4, 5, 3, 4, 4, 5, 4, 5, 5, 6, 3, 4, 4, 5, 4, 5, 5, 6, 4, 5, 5, 6, 5, 6, 6, 7, 3, 4, 4, 5, 4, 5, 5, 6, 4, 5, 5, 6, 5, 6, 6, 7, 4, 5, 5, 6, 5, 6, 6, 7, 5, 6, 6, 7, 6, 7, 7, 8]⟩ : ByteArray) t0)))]) (h' := []) (StC.pure (.cons .im .nil)) ?_
  refine AW.ret ?_
  try simp only [Ex.then, Ex.inBlock, Ex.noGoto, Ex.jump, reduceIte, Nat.reduceEqDiff, reduceCtorEq]
  refine Done.gen rfl (.tmp .nil) ?_
  show _ = _
  kernel_rfl
def f_cell_Distance (t0 : Int) (t1 : Int) : Option Int :=
  (f_bits_OnesCount8 (bXor .u8 t0 t1)).bind fun x1 =>
  some x1
theorem f_cell_Distance_ok {t0 : Int} {t1 : Int} {r : Int} (H : f_cell_Distance t0 t1 = some r) : QSpec Try.prog 23 [.int .u8 t0, .int .u8 t1] (.int .i64 r) := by
  refine Spec.of_AW Try.func23 rfl (by simp [Try.ntmps23]) ?_
  rw [Try.ntmps23]
  unfold f_cell_Distance at H
  change AW _ _ _ [(0, .int .u8 t0), (1, .int .u8 t1)] [] _
  refine AW.regionSeq ?_
  refine OpsW.seg 1 [0, 1] [] [(0, .int .u8 t0), (1, .int .u8 t1)] (by kernel_rfl) trivial ?_
  refine OpsW.nil ?_
  refine AW.regionSeq ?_
  refine OpsW.seg 3 [7] [] [(7, .int .u8 (bXor .u8 t0 t1))] (by kernel_rfl) trivial ?_
  obtain ⟨x1, hx1, H⟩ := bindS H
  refine OpsW.qcall rfl (by kernel_rfl) rfl rfl (glAll_sound trivial) (.cons (.pur rfl) .nil) (f_bits_OnesCount8_ok hx1) rfl ?_
  refine OpsW.seg 1 [4] [] [(4, .int .i64 x1)] (by kernel_rfl) trivial ?_
  refine OpsW.nil ?_
  obtain rfl := Option.some.inj H
  refine AW.recast (env' := [(4, .int .i64 x1)]) (h' := []) (StC.pure (.cons .im .nil)) ?_
  refine AW.ret ?_
  try simp only [Ex.then, Ex.inBlock, Ex.noGoto, Ex.jump, reduceIte, Nat.reduceEqDiff, reduceCtorEq]
  refine Done.gen rfl (.tmp .nil) ?_
  show _ = _
  kernel_rfl
def f_R01_Distance_k1 (loop3 : (Int × Int) → Option Int) (v2 : Int) (v5 : Int) : Option Int :=
  G (inR (v2 + (1 : Int))) <|
  loop3 (v5, v2 + (1 : Int))
def f_R01_Distance_b1 (t0 : Int) (t1 : Int) (loop3 : (Int × Int) → Option Int) (v1 : Int) (v2 : Int) : Option Int :=
  cond (decide (v2 ≤ (6 : Int))) (
    (f_R01_Has t0 v2).bind fun x7 =>
    (f_R01_Has t1 v2).bind fun x8 =>
    cond (x7 != x8) (
      G (inR (v1 + (1 : Int))) <|
      f_R01_Distance_k1 loop3 v2 (v1 + (1 : Int))) (
      f_R01_Distance_k1 loop3 v2 v1)) (
    some v1)
def f_R01_Distance (t0 : Int) (t1 : Int) : Option Int :=
  iter (fun loop (s : Int × Int) => f_R01_Distance_b1 t0 t1 loop s.1 s.2) 1000000 ((0 : Int), (1 : Int))
theorem f_R01_Distance_ok {t0 : Int} {t1 : Int} {r : Int} (H : f_R01_Distance t0 t1 = some r) : QSpec Try.prog 24 [.int .u8 t0, .int .u8 t1] (.int .i64 r) := by
  refine Spec.of_AW Try.func24 rfl (by simp [Try.ntmps24]) ?_
  rw [Try.ntmps24]
  unfold f_R01_Distance at H
  change AW _ _ _ [(0, .int .u8 t0), (1, .int .u8 t1)] [] _
  refine AW.regionSeq ?_
  refine OpsW.seg 1 [0, 1] [] [(0, .int .u8 t0), (1, .int .u8 t1)] (by kernel_rfl) trivial ?_
  refine OpsW.nil ?_
  refine AW.regionSeq ?_
  refine OpsW.seg 1 [5, 0, 1] [] [(5, .int .i64 (0 : Int)), (0, .int .u8 t0), (1, .int .u8 t1)] (by kernel_rfl) trivial ?_
  refine OpsW.nil ?_
  refine AW.seq ?_
  refine AW.regionSeq ?_
  refine OpsW.seg 1 [6, 5, 0, 1] [] [(6, .int .i64 (1 : Int)), (5, .int .i64 (0 : Int)), (0, .int .u8 t0), (1, .int .u8 t1)] (by kernel_rfl) trivial ?_
  refine OpsW.nil ?_
  refine AW.block ?_
  refine AW.iterK (fun loop (s : Int × Int) => f_R01_Distance_b1 t0 t1 loop s.1 s.2) r (fun (s : Int × Int) => [(0, .int .u8 t0), (1, .int .u8 t1), (5, .int .i64 s.1), (6, .int .i64 s.2)]) (fun (s : Int × Int) => []) ?_ 1000000 ((0 : Int), (1 : Int)) H (StC.pure (.cons .im (.cons .im (.cons .im (.cons .im .nil)))))
  intro loop3 s H
  obtain ⟨v1, v2⟩ := s
  change f_R01_Distance_b1 t0 t1 loop3 v1 v2 = some r at H
  unfold f_R01_Distance_b1 at H
  change AW _ _ _ [(0, .int .u8 t0), (1, .int .u8 t1), (5, .int .i64 v1), (6, .int .i64 v2)] [] _
  refine AW.seq ?_
  refine AW.regionSeq ?_
  refine OpsW.seg 2 [8, 0, 1, 5, 6] [] [(8, .bool (decide (v2 ≤ (6 : Int)))), (0, .int .u8 t0), (1, .int .u8 t1), (5, .int .i64 v1), (6, .int .i64 v2)] (by kernel_rfl) trivial ?_
  refine OpsW.nil ?_
  refine AW.cond (b := decide (v2 ≤ (6 : Int))) rfl (fun c4 => ?_) (fun c4 => ?_)
  · replace H := condT c4 H
    refine AW.skip ?_
    refine AW.joinK (fun (y : Int) => f_R01_Distance_k1 loop3 v2 y) r (fun (y : Int) => [(0, .int .u8 t0), (1, .int .u8 t1), (5, .int .i64 y), (6, .int .i64 v2)]) (fun (y : Int) => []) ?_ ?_
    · refine AW.block ?_
      refine AW.regionSeq ?_
      refine OpsW.seg 2 [12, 11, 0, 1, 5, 6] [] [(12, .int .i64 v2), (11, .int .u8 t0), (0, .int .u8 t0), (1, .int .u8 t1), (5, .int .i64 v1), (6, .int .i64 v2)] (by kernel_rfl) trivial ?_
      obtain ⟨x7, hx7, H⟩ := bindS H
      refine OpsW.qcall rfl (by kernel_rfl) rfl rfl (glAll_sound trivial) (.cons (.pur rfl) (.cons (.pur rfl) .nil)) (f_R01_Has_ok hx7) rfl ?_
      refine OpsW.seg 2 [15, 14, 13, 0, 1, 5, 6] [] [(15, .int .i64 v2), (14, .int .u8 t1), (13, .bool x7), (0, .int .u8 t0), (1, .int .u8 t1), (5, .int .i64 v1), (6, .int .i64 v2)] (by kernel_rfl) trivial ?_
      obtain ⟨x8, hx8, H⟩ := bindS H
      refine OpsW.qcall rfl (by kernel_rfl) rfl rfl (glAll_sound trivial) (.cons (.pur rfl) (.cons (.pur rfl) .nil)) (f_R01_Has_ok hx8) rfl ?_
      refine OpsW.seg 1 [17, 0, 1, 5, 6] [] [(17, .bool (x7 != x8)), (0, .int .u8 t0), (1, .int .u8 t1), (5, .int .i64 v1), (6, .int .i64 v2)] (by kernel_rfl) trivial ?_
      refine OpsW.nil ?_
      refine AW.cond (b := x7 != x8) rfl (fun c9 => ?_) (fun c9 => ?_)
      · replace H := condT c9 H
        refine AW.region ?_
        obtain ⟨g10, H⟩ := G_some H
        refine OpsW.seg 3 [5, 0, 1, 6] [inR (v1 + (1 : Int))] [(5, .int .i64 (v1 + (1 : Int))), (0, .int .u8 t0), (1, .int .u8 t1), (6, .int .i64 v2)] (by kernel_rfl) ⟨g10, trivial⟩ ?_
        refine OpsW.nil ?_
        show ∃ y, _ ∧ StC _ _ _ _
        exact ⟨v1 + (1 : Int), H, (StC.pure (.cons .im (.cons .im (.cons .im (.cons .im .nil)))))⟩
      · replace H := condF c9 H
        refine AW.skip ?_
        show ∃ y, _ ∧ StC _ _ _ _
        exact ⟨v1, H, (StC.pure (.cons .im (.cons .im (.cons .im (.cons .im .nil)))))⟩
    · intro v5 H
      change f_R01_Distance_k1 loop3 v2 v5 = some r at H
      unfold f_R01_Distance_k1 at H
      change AW _ _ _ [(0, .int .u8 t0), (1, .int .u8 t1), (5, .int .i64 v5), (6, .int .i64 v2)] [] _
      refine AW.region ?_
      obtain ⟨g6, H⟩ := G_some H
      refine OpsW.seg 3 [6, 0, 1, 5] [inR (v2 + (1 : Int))] [(6, .int .i64 (v2 + (1 : Int))), (0, .int .u8 t0), (1, .int .u8 t1), (5, .int .i64 v5)] (by kernel_rfl) ⟨g6, trivial⟩ ?_
      refine OpsW.nil ?_
      show ∃ y, _ ∧ StC _ _ _ _
      exact ⟨(v5, v2 + (1 : Int)), H, (StC.pure (.cons .im (.cons .im (.cons .im (.cons .im .nil)))))⟩
  · replace H := condF c4 H
    refine AW.exit ?_
    refine AW.regionSeq ?_
    refine OpsW.seg 2 [4] [] [(4, .int .i64 v1)] (by kernel_rfl) trivial ?_
    refine OpsW.nil ?_
    obtain rfl := Option.some.inj H
    refine AW.recast (env' := [(4, .int .i64 v1)]) (h' := []) (StC.pure (.cons .im .nil)) ?_
    refine AW.ret ?_
    try simp only [Ex.then, Ex.inBlock, Ex.noGoto, Ex.jump, reduceIte, Nat.reduceEqDiff, reduceCtorEq]
    refine Done.gen rfl (.tmp .nil) ?_
    show _ = _
    kernel_rfl
def f_cell_Mirror (t0 : Int) : Option Int :=
  some (bOr .u8 (bShl .u8 (bAnd .u8 t0 (7 : Int)) (3 : Int)) (bAnd .u8 (bShr .u8 t0 (3 : Int)) (7 : Int)))
theorem f_cell_Mirror_ok {t0 : Int} {r : Int} (H : f_cell_Mirror t0 = some r) : QSpec Try.prog 25 [.int .u8 t0] (.int .u8 r) := by
  refine Spec.of_AW Try.func25 rfl (by simp [Try.ntmps25]) ?_
  rw [Try.ntmps25]
  unfold f_cell_Mirror at H
  change AW _ _ _ [(0, .int .u8 t0)] [] _
  refine AW.regionSeq ?_
  refine OpsW.seg 1 [0] [] [(0, .int .u8 t0)] (by kernel_rfl) trivial ?_
  refine OpsW.nil ?_
  refine AW.regionSeq ?_
  refine OpsW.seg 8 [2] [0 ≤ (3 : Int), 0 ≤ (3 : Int)] [(2, .int .u8 (bOr .u8 (bShl .u8 (bAnd .u8 t0 (7 : Int)) (3 : Int)) (bAnd .u8 (bShr .u8 t0 (3 : Int)) (7 : Int))))] (by kernel_rfl) ⟨(by decide), (by decide), trivial⟩ ?_
  refine OpsW.nil ?_
  obtain rfl := Option.some.inj H
  refine AW.recast (env' := [(2, .int .u8 (bOr .u8 (bShl .u8 (bAnd .u8 t0 (7 : Int)) (3 : Int)) (bAnd .u8 (bShr .u8 t0 (3 : Int)) (7 : Int))))]) (h' := []) (StC.pure (.cons .im .nil)) ?_
  refine AW.ret ?_
  try simp only [Ex.then, Ex.inBlock, Ex.noGoto, Ex.jump, reduceIte, Nat.reduceEqDiff, reduceCtorEq]
  refine Done.gen rfl (.tmp .nil) ?_
  show _ = _
  kernel_rfl
def f_R01_Mirror (t0 : Int) : Option Int :=
  some (IntKind.wrap .u8 ((IntKind.wrap .u8 ((Int.tmod t0 (8 : Int)) * (8 : Int))) + (IntKind.wrap .u8 (Int.tdiv t0 (8 : Int)))))
theorem f_R01_Mirror_ok {t0 : Int} {r : Int} (H : f_R01_Mirror t0 = some r) : QSpec Try.prog 26 [.int .u8 t0] (.int .u8 r) := by
  refine Spec.of_AW Try.func26 rfl (by simp [Try.ntmps26]) ?_
  rw [Try.ntmps26]
  unfold f_R01_Mirror at H
  change AW _ _ _ [(0, .int .u8 t0)] [] _
  refine AW.regionSeq ?_
  refine OpsW.seg 1 [0] [] [(0, .int .u8 t0)] (by kernel_rfl) trivial ?_
  refine OpsW.nil ?_
  refine AW.regionSeq ?_
  refine OpsW.seg 7 [2] [(8 : Int) ≠ 0, (8 : Int) ≠ 0] [(2, .int .u8 (IntKind.wrap .u8 ((IntKind.wrap .u8 ((Int.tmod t0 (8 : Int)) * (8 : Int))) + (IntKind.wrap .u8 (Int.tdiv t0 (8 : Int))))))] (by kernel_rfl) ⟨(by decide), (by decide), trivial⟩ ?_
  refine OpsW.nil ?_
  obtain rfl := Option.some.inj H
  refine AW.recast (env' := [(2, .int .u8 (IntKind.wrap .u8 ((IntKind.wrap .u8 ((Int.tmod t0 (8 : Int)) * (8 : Int))) + (IntKind.wrap .u8 (Int.tdiv t0 (8 : Int))))))]) (h' := []) (StC.pure (.cons .im .nil)) ?_
  refine AW.ret ?_
  try simp only [Ex.then, Ex.inBlock, Ex.noGoto, Ex.jump, reduceIte, Nat.reduceEqDiff, reduceCtorEq]
  refine Done.gen rfl (.tmp .nil) ?_
  show _ = _
  kernel_rfl
def f_cell_Cost (t0 : S_Felt) (t1 : Int) : Option Int :=
  (f_bits_OnesCount8 (bAndNot .u8 (bXor .u8 t0.Up t1) t0.Maybe)).bind fun x1 =>
  some x1
theorem f_cell_Cost_ok {t0 : S_Felt} {t1 : Int} {r : Int} (H : f_cell_Cost t0 t1 = some r) : QSpec Try.prog 29 [.agg [.int .u8 t0.Up, .int .u8 t0.Maybe], .int .u8 t1] (.int .i64 r) := by
  refine Spec.of_AW Try.func29 rfl (by simp [Try.ntmps29]) ?_
  rw [Try.ntmps29]
  unfold f_cell_Cost at H
  change AW _ _ _ [(0, .agg [.int .u8 t0.Up, .int .u8 t0.Maybe]), (1, .int .u8 t1)] [] _
  refine AW.regionSeq ?_
  refine OpsW.box rfl rfl rfl 2 rfl (okCb_sound (by kernel_rfl)) ?_
  change OpsW _ _ _ _ _ [(2, ⟨0, true, 34, 2, [.int .u8 t0.Up, .int .u8 t0.Maybe]⟩)] _
  refine OpsW.seg 1 [2, 1] [] [(2, .ref 2 0 0), (1, .int .u8 t1)] (by kernel_rfl) trivial ?_
  refine OpsW.recast (env' := [(2, .ref 2 0 0), (1, .int .u8 t1)]) (h' := [(2, ⟨0, true, 34, 2, [.int .u8 t0.Up, .int .u8 t0.Maybe]⟩)]) (StC.mk (phi [(2, some 2)]) (.old rfl rfl rfl rfl rfl (.cons .im (.cons .im .nil)) .nil) rfl (.cons (.ref rfl rfl rfl rfl rfl) (.cons .im .nil))) ?_
  refine OpsW.nil ?_
  refine AW.regionSeq ?_
  refine OpsW.seg 7 [11] [] [(11, .int .u8 (bAndNot .u8 (bXor .u8 t0.Up t1) t0.Maybe))] (by kernel_rfl) trivial ?_
  obtain ⟨x1, hx1, H⟩ := bindS H
  refine OpsW.qcall rfl (by kernel_rfl) rfl rfl (glAll_sound trivial) (.cons (.pur rfl) .nil) (f_bits_OnesCount8_ok hx1) rfl ?_
  refine OpsW.seg 1 [4] [] [(4, .int .i64 x1)] (by kernel_rfl) trivial ?_
  refine OpsW.nil ?_
  obtain rfl := Option.some.inj H
  refine AW.recast (env' := [(4, .int .i64 x1)]) (h' := []) (StC.pure (.cons .im .nil)) ?_
  refine AW.ret ?_
  try simp only [Ex.then, Ex.inBlock, Ex.noGoto, Ex.jump, reduceIte, Nat.reduceEqDiff, reduceCtorEq]
  refine Done.gen rfl (.tmp .nil) ?_
  show _ = _
  kernel_rfl
def f_cell_Fits (t0 : S_Felt) (t1 : Int) : Option Bool :=
  (f_cell_Cost t0 t1).bind fun x1 =>
  some (x1 == (0 : Int))
theorem f_cell_Fits_ok {t0 : S_Felt} {t1 : Int} {r : Bool} (H : f_cell_Fits t0 t1 = some r) : QSpec Try.prog 27 [.agg [.int .u8 t0.Up, .int .u8 t0.Maybe], .int .u8 t1] (.bool r) := by
  refine Spec.of_AW Try.func27 rfl (by simp [Try.ntmps27]) ?_
  rw [Try.ntmps27]
  unfold f_cell_Fits at H
  change AW _ _ _ [(0, .agg [.int .u8 t0.Up, .int .u8 t0.Maybe]), (1, .int .u8 t1)] [] _
  refine AW.regionSeq ?_
  refine OpsW.box rfl rfl rfl 2 rfl (okCb_sound (by kernel_rfl)) ?_
  change OpsW _ _ _ _ _ [(2, ⟨0, true, 34, 2, [.int .u8 t0.Up, .int .u8 t0.Maybe]⟩)] _
  refine OpsW.seg 1 [2, 1] [] [(2, .ref 2 0 0), (1, .int .u8 t1)] (by kernel_rfl) trivial ?_
  refine OpsW.recast (env' := [(2, .ref 2 0 0), (1, .int .u8 t1)]) (h' := [(2, ⟨0, true, 34, 2, [.int .u8 t0.Up, .int .u8 t0.Maybe]⟩)]) (StC.mk (phi [(2, some 2)]) (.old rfl rfl rfl rfl rfl (.cons .im (.cons .im .nil)) .nil) rfl (.cons (.ref rfl rfl rfl rfl rfl) (.cons .im .nil))) ?_
  refine OpsW.nil ?_
  refine AW.regionSeq ?_
  refine OpsW.seg 2 [6, 5] [] [(6, .int .u8 t1), (5, .agg [.int .u8 t0.Up, .int .u8 t0.Maybe])] (by kernel_rfl) trivial ?_
  obtain ⟨x1, hx1, H⟩ := bindS H
  refine OpsW.qcall rfl (by kernel_rfl) rfl rfl (glAll_sound trivial) (.cons (.pur rfl) (.cons (.pur rfl) .nil)) (f_cell_Cost_ok hx1) rfl ?_
  refine OpsW.seg 2 [4] [] [(4, .bool (x1 == (0 : Int)))] (by kernel_rfl) trivial ?_
  refine OpsW.nil ?_
  obtain rfl := Option.some.inj H
  refine AW.recast (env' := [(4, .bool (x1 == (0 : Int)))]) (h' := []) (StC.pure (.cons .im .nil)) ?_
  refine AW.ret ?_
  try simp only [Ex.then, Ex.inBlock, Ex.noGoto, Ex.jump, reduceIte, Nat.reduceEqDiff, reduceCtorEq]
  refine Done.gen rfl (.tmp .nil) ?_
  show _ = _
  kernel_rfl
def f_R01_Fits_b1 (t0 : S_Felt) (t1 : Int) (loop2 : (Int) → Option Bool) (v1 : Int) : Option Bool :=
  cond (decide (v1 ≤ (6 : Int))) (
    (f_R01_Has t0.Maybe v1).bind fun x4 =>
    (cond (!x4) (f_R01_Has t0.Up v1) (some false)).bind fun x5 =>
    (cond (!x4) (f_R01_Has t1 v1) (some false)).bind fun x6 =>
    cond (cond (!x4) (x5 != x6) false) (
      some false) (
      G (inR (v1 + (1 : Int))) <|
      loop2 (v1 + (1 : Int)))) (
    some true)
def f_R01_Fits (t0 : S_Felt) (t1 : Int) : Option Bool :=
  iter (fun loop (s : Int) => f_R01_Fits_b1 t0 t1 loop s) 1000000 (1 : Int)
theorem f_R01_Fits_ok {t0 : S_Felt} {t1 : Int} {r : Bool} (H : f_R01_Fits t0 t1 = some r) : QSpec Try.prog 28 [.agg [.int .u8 t0.Up, .int .u8 t0.Maybe], .int .u8 t1] (.bool r) := by
  refine Spec.of_AW Try.func28 rfl (by simp [Try.ntmps28]) ?_
  rw [Try.ntmps28]
  unfold f_R01_Fits at H
  change AW _ _ _ [(0, .agg [.int .u8 t0.Up, .int .u8 t0.Maybe]), (1, .int .u8 t1)] [] _
  refine AW.regionSeq ?_
  refine OpsW.box rfl rfl rfl 2 rfl (okCb_sound (by kernel_rfl)) ?_
  change OpsW _ _ _ _ _ [(2, ⟨0, true, 34, 2, [.int .u8 t0.Up, .int .u8 t0.Maybe]⟩)] _
  refine OpsW.seg 1 [2, 1] [] [(2, .ref 2 0 0), (1, .int .u8 t1)] (by kernel_rfl) trivial ?_
  refine OpsW.recast (env' := [(2, .ref 2 0 0), (1, .int .u8 t1)]) (h' := [(2, ⟨0, true, 34, 2, [.int .u8 t0.Up, .int .u8 t0.Maybe]⟩)]) (StC.mk (phi [(2, some 2)]) (.old rfl rfl rfl rfl rfl (.cons .im (.cons .im .nil)) .nil) rfl (.cons (.ref rfl rfl rfl rfl rfl) (.cons .im .nil))) ?_
  refine OpsW.nil ?_
  refine AW.seq ?_
  refine AW.regionSeq ?_
  refine OpsW.seg 1 [5, 2, 1] [] [(5, .int .i64 (1 : Int)), (2, .ref 2 0 0), (1, .int .u8 t1)] (by kernel_rfl) trivial ?_
  refine OpsW.nil ?_
  refine AW.block ?_
  refine AW.iterK (fun loop (s : Int) => f_R01_Fits_b1 t0 t1 loop s) r (fun (s : Int) => [(1, .int .u8 t1), (2, .ref 2 0 0), (5, .int .i64 s)]) (fun (s : Int) => [(2, ⟨0, true, 34, 2, [.int .u8 t0.Up, .int .u8 t0.Maybe]⟩)]) ?_ 1000000 (1 : Int) H (StC.mk (phi [(2, some 2)]) (.old rfl rfl rfl rfl rfl (.cons .im (.cons .im .nil)) .nil) rfl (.cons .im (.cons (.ref rfl rfl rfl rfl rfl) (.cons .im .nil))))
  intro loop2 v1 H
  change f_R01_Fits_b1 t0 t1 loop2 v1 = some r at H
  unfold f_R01_Fits_b1 at H
  change AW _ _ _ [(1, .int .u8 t1), (2, .ref 2 0 0), (5, .int .i64 v1)] [(2, ⟨0, true, 34, 2, [.int .u8 t0.Up, .int .u8 t0.Maybe]⟩)] _
  refine AW.seq ?_
  refine AW.regionSeq ?_
  refine OpsW.seg 2 [7, 1, 2, 5] [] [(7, .bool (decide (v1 ≤ (6 : Int)))), (1, .int .u8 t1), (2, .ref 2 0 0), (5, .int .i64 v1)] (by kernel_rfl) trivial ?_
  refine OpsW.nil ?_
  refine AW.cond (b := decide (v1 ≤ (6 : Int))) rfl (fun c3 => ?_) (fun c3 => ?_)
  · replace H := condT c3 H
    refine AW.skip ?_
    refine AW.seq ?_
    refine AW.block ?_
    refine AW.regionSeq ?_
    refine OpsW.seg 3 [12, 11, 1, 2, 5] [] [(12, .int .i64 v1), (11, .int .u8 t0.Maybe), (1, .int .u8 t1), (2, .ref 2 0 0), (5, .int .i64 v1)] (by kernel_rfl) trivial ?_
    obtain ⟨x4, hx4, H⟩ := bindS H
    refine OpsW.qcall rfl (by kernel_rfl) rfl rfl (glAll_sound trivial) (.cons (.pur rfl) (.cons (.pur rfl) .nil)) (f_R01_Has_ok hx4) rfl ?_
    refine OpsW.seg 5 [18, 17, 15, 1, 2, 5] [(!x4) = true → (!x4) = true] [(18, .cnd (!x4) (.int .i64 v1)), (17, .cnd (!x4) (.int .u8 t0.Up)), (15, .bool (!x4)), (1, .int .u8 t1), (2, .ref 2 0 0), (5, .int .i64 v1)] (by kernel_rfl) ⟨(fun h => h), trivial⟩ ?_
    obtain ⟨x5, hx5, H⟩ := bindS H
    refine OpsW.gcall (c := !x4) (r := .bool x5) [] rfl (by kernel_rfl) rfl rfl rfl rfl (fun hc => ⟨glAll_sound ⟨hc, hc, trivial⟩, (.cons (.pur rfl) (.cons (.pur rfl) .nil)), f_R01_Has_ok (condT hc hx5), .inl ⟨rfl, rfl⟩⟩) ?_
    refine OpsW.seg 2 [21, 20, 19, 15, 1, 2, 5] [] [(21, .cnd (!x4) (.int .i64 v1)), (20, .cnd (!x4) (.int .u8 t1)), (19, .cnd (!x4) (.bool x5)), (15, .bool (!x4)), (1, .int .u8 t1), (2, .ref 2 0 0), (5, .int .i64 v1)] (by kernel_rfl) trivial ?_
    obtain ⟨x6, hx6, H⟩ := bindS H
    refine OpsW.gcall (c := !x4) (r := .bool x6) [] rfl (by kernel_rfl) rfl rfl rfl rfl (fun hc => ⟨glAll_sound ⟨hc, hc, trivial⟩, (.cons (.pur rfl) (.cons (.pur rfl) .nil)), f_R01_Has_ok (condT hc hx6), .inl ⟨rfl, rfl⟩⟩) ?_
    refine OpsW.seg 2 [24, 1, 2, 5] [(!x4) = true → (!x4) = true, (!x4) = true → (!x4) = true, (!x4) = true → (!x4) = true] [(24, .bool (cond (!x4) (x5 != x6) false)), (1, .int .u8 t1), (2, .ref 2 0 0), (5, .int .i64 v1)] (by kernel_rfl) ⟨(fun h => h), (fun h => h), (fun h => by first | exact h | simpa using h), trivial⟩ ?_
    refine OpsW.nil ?_
    refine AW.cond (b := cond (!x4) (x5 != x6) false) rfl (fun c7 => ?_) (fun c7 => ?_)
    · replace H := condT c7 H
      refine AW.regionSeq ?_
      refine OpsW.seg 1 [4] [] [(4, .bool false)] (by kernel_rfl) trivial ?_
      refine OpsW.nil ?_
      obtain rfl := Option.some.inj H
      refine AW.recast (env' := [(4, .bool false)]) (h' := []) (StC.pure (.cons .im .nil)) ?_
      refine AW.ret ?_
      try simp only [Ex.then, Ex.inBlock, Ex.noGoto, Ex.jump, reduceIte, Nat.reduceEqDiff, reduceCtorEq]
      refine Done.gen rfl (.tmp .nil) ?_
      show _ = _
      kernel_rfl
    · replace H := condF c7 H
      refine AW.skip ?_
      refine AW.region ?_
      obtain ⟨g8, H⟩ := G_some H
      refine OpsW.seg 3 [5, 1, 2] [inR (v1 + (1 : Int))] [(5, .int .i64 (v1 + (1 : Int))), (1, .int .u8 t1), (2, .ref 2 0 0)] (by kernel_rfl) ⟨g8, trivial⟩ ?_
      refine OpsW.nil ?_
      show ∃ y, _ ∧ StC _ _ _ _
      exact ⟨v1 + (1 : Int), H, (StC.mk (phi [(2, some 2)]) (.old rfl rfl rfl rfl rfl (.cons .im (.cons .im .nil)) .nil) rfl (.cons .im (.cons (.ref rfl rfl rfl rfl rfl) (.cons .im .nil))))⟩
  · replace H := condF c3 H
    refine AW.exit ?_
    refine AW.regionSeq ?_
    refine OpsW.seg 1 [4] [] [(4, .bool true)] (by kernel_rfl) trivial ?_
    refine OpsW.nil ?_
    obtain rfl := Option.some.inj H
    refine AW.recast (env' := [(4, .bool true)]) (h' := []) (StC.pure (.cons .im .nil)) ?_
    refine AW.ret ?_
    try simp only [Ex.then, Ex.inBlock, Ex.noGoto, Ex.jump, reduceIte, Nat.reduceEqDiff, reduceCtorEq]
    refine Done.gen rfl (.tmp .nil) ?_
    show _ = _
    kernel_rfl
def f_R01_Cost_k1 (loop3 : (Int × Int) → Option Int) (v2 : Int) (v5 : Int) : Option Int :=
  G (inR (v2 + (1 : Int))) <|
  loop3 (v5, v2 + (1 : Int))
def f_R01_Cost_b1 (t0 : S_Felt) (t1 : Int) (loop3 : (Int × Int) → Option Int) (v1 : Int) (v2 : Int) : Option Int :=
  cond (decide (v2 ≤ (6 : Int))) (
    (f_R01_Has t0.Maybe v2).bind fun x7 =>
    (cond (!x7) (f_R01_Has t0.Up v2) (some false)).bind fun x8 =>
    (cond (!x7) (f_R01_Has t1 v2) (some false)).bind fun x9 =>
    cond (cond (!x7) (x8 != x9) false) (
      G (inR (v1 + (1 : Int))) <|
      f_R01_Cost_k1 loop3 v2 (v1 + (1 : Int))) (
      f_R01_Cost_k1 loop3 v2 v1)) (
    some v1)
def f_R01_Cost (t0 : S_Felt) (t1 : Int) : Option Int :=
  iter (fun loop (s : Int × Int) => f_R01_Cost_b1 t0 t1 loop s.1 s.2) 1000000 ((0 : Int), (1 : Int))
theorem f_R01_Cost_ok {t0 : S_Felt} {t1 : Int} {r : Int} (H : f_R01_Cost t0 t1 = some r) : QSpec Try.prog 30 [.agg [.int .u8 t0.Up, .int .u8 t0.Maybe], .int .u8 t1] (.int .i64 r) := by
  refine Spec.of_AW Try.func30 rfl (by simp [Try.ntmps30]) ?_
  rw [Try.ntmps30]
  unfold f_R01_Cost at H
  change AW _ _ _ [(0, .agg [.int .u8 t0.Up, .int .u8 t0.Maybe]), (1, .int .u8 t1)] [] _
  refine AW.regionSeq ?_
  refine OpsW.box rfl rfl rfl 2 rfl (okCb_sound (by kernel_rfl)) ?_
  change OpsW _ _ _ _ _ [(2, ⟨0, true, 34, 2, [.int .u8 t0.Up, .int .u8 t0.Maybe]⟩)] _
  refine OpsW.seg 1 [2, 1] [] [(2, .ref 2 0 0), (1, .int .u8 t1)] (by kernel_rfl) trivial ?_
  refine OpsW.recast (env' := [(2, .ref 2 0 0), (1, .int .u8 t1)]) (h' := [(2, ⟨0, true, 34, 2, [.int .u8 t0.Up, .int .u8 t0.Maybe]⟩)]) (StC.mk (phi [(2, some 2)]) (.old rfl rfl rfl rfl rfl (.cons .im (.cons .im .nil)) .nil) rfl (.cons (.ref rfl rfl rfl rfl rfl) (.cons .im .nil))) ?_
  refine OpsW.nil ?_
  refine AW.regionSeq ?_
  refine OpsW.seg 1 [5, 2, 1] [] [(5, .int .i64 (0 : Int)), (2, .ref 2 0 0), (1, .int .u8 t1)] (by kernel_rfl) trivial ?_
  refine OpsW.nil ?_
  refine AW.seq ?_
  refine AW.regionSeq ?_
  refine OpsW.seg 1 [6, 5, 2, 1] [] [(6, .int .i64 (1 : Int)), (5, .int .i64 (0 : Int)), (2, .ref 2 0 0), (1, .int .u8 t1)] (by kernel_rfl) trivial ?_
  refine OpsW.nil ?_
  refine AW.block ?_
  refine AW.iterK (fun loop (s : Int × Int) => f_R01_Cost_b1 t0 t1 loop s.1 s.2) r (fun (s : Int × Int) => [(1, .int .u8 t1), (2, .ref 2 0 0), (5, .int .i64 s.1), (6, .int .i64 s.2)]) (fun (s : Int × Int) => [(2, ⟨0, true, 34, 2, [.int .u8 t0.Up, .int .u8 t0.Maybe]⟩)]) ?_ 1000000 ((0 : Int), (1 : Int)) H (StC.mk (phi [(2, some 2)]) (.old rfl rfl rfl rfl rfl (.cons .im (.cons .im .nil)) .nil) rfl (.cons .im (.cons (.ref rfl rfl rfl rfl rfl) (.cons .im (.cons .im .nil)))))
  intro loop3 s H
  obtain ⟨v1, v2⟩ := s
  change f_R01_Cost_b1 t0 t1 loop3 v1 v2 = some r at H
  unfold f_R01_Cost_b1 at H
  change AW _ _ _ [(1, .int .u8 t1), (2, .ref 2 0 0), (5, .int .i64 v1), (6, .int .i64 v2)] [(2, ⟨0, true, 34, 2, [.int .u8 t0.Up, .int .u8 t0.Maybe]⟩)] _
  refine AW.seq ?_
  refine AW.regionSeq ?_
  refine OpsW.seg 2 [8, 1, 2, 5, 6] [] [(8, .bool (decide (v2 ≤ (6 : Int)))), (1, .int .u8 t1), (2, .ref 2 0 0), (5, .int .i64 v1), (6, .int .i64 v2)] (by kernel_rfl) trivial ?_
  refine OpsW.nil ?_
  refine AW.cond (b := decide (v2 ≤ (6 : Int))) rfl (fun c4 => ?_) (fun c4 => ?_)
  · replace H := condT c4 H
    refine AW.skip ?_
    refine AW.joinK (fun (y : Int) => f_R01_Cost_k1 loop3 v2 y) r (fun (y : Int) => [(1, .int .u8 t1), (2, .ref 2 0 0), (5, .int .i64 y), (6, .int .i64 v2)]) (fun (y : Int) => [(2, ⟨0, true, 34, 2, [.int .u8 t0.Up, .int .u8 t0.Maybe]⟩)]) ?_ ?_
    · refine AW.block ?_
      refine AW.regionSeq ?_
      refine OpsW.seg 3 [13, 12, 1, 2, 5, 6] [] [(13, .int .i64 v2), (12, .int .u8 t0.Maybe), (1, .int .u8 t1), (2, .ref 2 0 0), (5, .int .i64 v1), (6, .int .i64 v2)] (by kernel_rfl) trivial ?_
      obtain ⟨x7, hx7, H⟩ := bindS H
      refine OpsW.qcall rfl (by kernel_rfl) rfl rfl (glAll_sound trivial) (.cons (.pur rfl) (.cons (.pur rfl) .nil)) (f_R01_Has_ok hx7) rfl ?_
      refine OpsW.seg 5 [19, 18, 16, 1, 2, 5, 6] [(!x7) = true → (!x7) = true] [(19, .cnd (!x7) (.int .i64 v2)), (18, .cnd (!x7) (.int .u8 t0.Up)), (16, .bool (!x7)), (1, .int .u8 t1), (2, .ref 2 0 0), (5, .int .i64 v1), (6, .int .i64 v2)] (by kernel_rfl) ⟨(fun h => h), trivial⟩ ?_
      obtain ⟨x8, hx8, H⟩ := bindS H
      refine OpsW.gcall (c := !x7) (r := .bool x8) [] rfl (by kernel_rfl) rfl rfl rfl rfl (fun hc => ⟨glAll_sound ⟨hc, hc, trivial⟩, (.cons (.pur rfl) (.cons (.pur rfl) .nil)), f_R01_Has_ok (condT hc hx8), .inl ⟨rfl, rfl⟩⟩) ?_
      refine OpsW.seg 2 [22, 21, 20, 16, 1, 2, 5, 6] [] [(22, .cnd (!x7) (.int .i64 v2)), (21, .cnd (!x7) (.int .u8 t1)), (20, .cnd (!x7) (.bool x8)), (16, .bool (!x7)), (1, .int .u8 t1), (2, .ref 2 0 0), (5, .int .i64 v1), (6, .int .i64 v2)] (by kernel_rfl) trivial ?_
      obtain ⟨x9, hx9, H⟩ := bindS H
      refine OpsW.gcall (c := !x7) (r := .bool x9) [] rfl (by kernel_rfl) rfl rfl rfl rfl (fun hc => ⟨glAll_sound ⟨hc, hc, trivial⟩, (.cons (.pur rfl) (.cons (.pur rfl) .nil)), f_R01_Has_ok (condT hc hx9), .inl ⟨rfl, rfl⟩⟩) ?_
      refine OpsW.seg 2 [25, 1, 2, 5, 6] [(!x7) = true → (!x7) = true, (!x7) = true → (!x7) = true, (!x7) = true → (!x7) = true] [(25, .bool (cond (!x7) (x8 != x9) false)), (1, .int .u8 t1), (2, .ref 2 0 0), (5, .int .i64 v1), (6, .int .i64 v2)] (by kernel_rfl) ⟨(fun h => h), (fun h => h), (fun h => by first | exact h | simpa using h), trivial⟩ ?_
      refine OpsW.nil ?_
      refine AW.cond (b := cond (!x7) (x8 != x9) false) rfl (fun c10 => ?_) (fun c10 => ?_)
      · replace H := condT c10 H
        refine AW.region ?_
        obtain ⟨g11, H⟩ := G_some H
        refine OpsW.seg 3 [5, 1, 2, 6] [inR (v1 + (1 : Int))] [(5, .int .i64 (v1 + (1 : Int))), (1, .int .u8 t1), (2, .ref 2 0 0), (6, .int .i64 v2)] (by kernel_rfl) ⟨g11, trivial⟩ ?_
        refine OpsW.nil ?_
        show ∃ y, _ ∧ StC _ _ _ _
        exact ⟨v1 + (1 : Int), H, (StC.mk (phi [(2, some 2)]) (.old rfl rfl rfl rfl rfl (.cons .im (.cons .im .nil)) .nil) rfl (.cons .im (.cons (.ref rfl rfl rfl rfl rfl) (.cons .im (.cons .im .nil)))))⟩
      · replace H := condF c10 H
        refine AW.skip ?_
        show ∃ y, _ ∧ StC _ _ _ _
        exact ⟨v1, H, (StC.mk (phi [(2, some 2)]) (.old rfl rfl rfl rfl rfl (.cons .im (.cons .im .nil)) .nil) rfl (.cons .im (.cons (.ref rfl rfl rfl rfl rfl) (.cons .im (.cons .im .nil)))))⟩
    · intro v5 H
      change f_R01_Cost_k1 loop3 v2 v5 = some r at H
      unfold f_R01_Cost_k1 at H
      change AW _ _ _ [(1, .int .u8 t1), (2, .ref 2 0 0), (5, .int .i64 v5), (6, .int .i64 v2)] [(2, ⟨0, true, 34, 2, [.int .u8 t0.Up, .int .u8 t0.Maybe]⟩)] _
      refine AW.region ?_
      obtain ⟨g6, H⟩ := G_some H
      refine OpsW.seg 3 [6, 1, 2, 5] [inR (v2 + (1 : Int))] [(6, .int .i64 (v2 + (1 : Int))), (1, .int .u8 t1), (2, .ref 2 0 0), (5, .int .i64 v5)] (by kernel_rfl) ⟨g6, trivial⟩ ?_
      refine OpsW.nil ?_
      show ∃ y, _ ∧ StC _ _ _ _
      exact ⟨(v5, v2 + (1 : Int)), H, (StC.mk (phi [(2, some 2)]) (.old rfl rfl rfl rfl rfl (.cons .im (.cons .im .nil)) .nil) rfl (.cons .im (.cons (.ref rfl rfl rfl rfl rfl) (.cons .im (.cons .im .nil)))))⟩
  · replace H := condF c4 H
    refine AW.exit ?_
    refine AW.regionSeq ?_
    refine OpsW.seg 2 [4] [] [(4, .int .i64 v1)] (by kernel_rfl) trivial ?_
    refine OpsW.nil ?_
    obtain rfl := Option.some.inj H
    refine AW.recast (env' := [(4, .int .i64 v1)]) (h' := []) (StC.pure (.cons .im .nil)) ?_
    refine AW.ret ?_
    try simp only [Ex.then, Ex.inBlock, Ex.noGoto, Ex.jump, reduceIte, Nat.reduceEqDiff, reduceCtorEq]
    refine Done.gen rfl (.tmp .nil) ?_
    show _ = _
    kernel_rfl
def f_R01_Cells_b1 (t0 : List Int) (t1 : Int) (loop3 : ((List Int) × Int) → Option (List Int)) (v1 : List Int) (v2 : Int) : Option (List Int) :=
  cond (cond (decide (v2 < (t0.length : Int))) (decide (v2 < t1)) false) (
    G (0 ≤ v2 ∧ v2 < (t0.length : Int)) <|
    G (room 1 (v1.length + 1)) <|
    G (inR (v2 + (1 : Int))) <|
    loop3 (v1 ++ [Int.tmod (t0.getD v2.toNat (0 : Int)) (64 : Int)], v2 + (1 : Int))) (
    some v1)
def f_R01_Cells (t0 : List Int) (t1 : Int) : Option (List Int) :=
  iter (fun loop (s : (List Int) × Int) => f_R01_Cells_b1 t0 t1 loop s.1 s.2) 1000000 (([] : List Int), (0 : Int))
theorem f_R01_Cells_ok {t0 : List Int} {t1 : Int} {r : List Int} (H : f_R01_Cells t0 t1 = some r) : QSpec Try.prog 31 [slA (eI .u8) t0, .int .i64 t1] (slA (eI .u8) r) := by
  refine Spec.of_AW Try.func31 rfl (by simp [Try.ntmps31]) ?_
  rw [Try.ntmps31]
  unfold f_R01_Cells at H
  change AW _ _ _ [(0, slA (eI .u8) t0), (1, .int .i64 t1)] [] _
  refine AW.regionSeq ?_
  refine OpsW.seg 1 [0, 1] [] [(0, slA (eI .u8) t0), (1, .int .i64 t1)] (by kernel_rfl) trivial ?_
  refine OpsW.nil ?_
  refine AW.regionSeq ?_
  refine OpsW.buildT (enc := eI .u8) ([] : List Int) rfl rfl rfl 7 rfl E29 (fun _ => rfl) (by decide) trivial (by kernel_rfl) (by kernel_rfl) (by kernel_rfl) rfl ?_
  refine OpsW.seg 1 [5, 0, 1] [] [(5, .rsl 7 0 0 (([] : List Int).length)), (0, slA (eI .u8) t0), (1, .int .i64 t1)] (by kernel_rfl) trivial ?_
  refine OpsW.recast (env' := [(5, .rsl 5 0 0 (([] : List Int).length)), (0, slA (eI .u8) t0), (1, .int .i64 t1)]) (h' := [(5, rtA 0 24 1 (eI .u8) ([] : List Int))]) (StC.mk (phi [(5, some 7)]) (.old rfl rfl rfl rfl rfl (CstL.ims _) .nil) rfl (.cons (.rsl rfl rfl rfl rfl rfl rfl) (.cons .im (.cons .im .nil)))) ?_
  refine OpsW.nil ?_
  refine AW.seq ?_
  refine AW.regionSeq ?_
  refine OpsW.seg 1 [6, 5, 0, 1] [] [(6, .int .i64 (0 : Int)), (5, .rsl 5 0 0 (([] : List Int).length)), (0, slA (eI .u8) t0), (1, .int .i64 t1)] (by kernel_rfl) trivial ?_
  refine OpsW.nil ?_
  refine AW.block ?_
  refine AW.iterK (fun loop (s : (List Int) × Int) => f_R01_Cells_b1 t0 t1 loop s.1 s.2) r (fun (s : (List Int) × Int) => [(0, slA (eI .u8) t0), (1, .int .i64 t1), (5, .rsl 5 0 0 s.1.length), (6, .int .i64 s.2)]) (fun (s : (List Int) × Int) => [(5, rtA 0 24 1 (eI .u8) s.1)]) ?_ 1000000 (([] : List Int), (0 : Int)) H (StC.mk (phi [(5, some 5)]) (.old rfl rfl rfl rfl rfl (CstL.ims _) .nil) rfl (.cons .im (.cons .im (.cons (.rsl rfl rfl rfl rfl rfl rfl) (.cons .im .nil)))))
  intro loop3 s H
  obtain ⟨v1, v2⟩ := s
  change f_R01_Cells_b1 t0 t1 loop3 v1 v2 = some r at H
  unfold f_R01_Cells_b1 at H
  change AW _ _ _ [(0, slA (eI .u8) t0), (1, .int .i64 t1), (5, .rsl 5 0 0 v1.length), (6, .int .i64 v2)] [(5, rtA 0 24 1 (eI .u8) v1)] _
  refine AW.seq ?_
  refine AW.regionSeq ?_
  refine OpsW.seg 9 [16, 0, 1, 5, 6] [(decide (v2 < (t0.length : Int))) = true → (decide (v2 < (t0.length : Int))) = true, (decide (v2 < (t0.length : Int))) = true → (decide (v2 < (t0.length : Int))) = true, (decide (v2 < (t0.length : Int))) = true → (decide (v2 < (t0.length : Int))) = true] [(16, .bool (cond (decide (v2 < (t0.length : Int))) (decide (v2 < t1)) false)), (0, slA (eI .u8) t0), (1, .int .i64 t1), (5, .rsl 5 0 0 v1.length), (6, .int .i64 v2)] (by kernel_rfl) ⟨(fun h => h), (fun h => h), (fun h => by first | exact h | simpa using h), trivial⟩ ?_
  refine OpsW.nil ?_
  refine AW.cond (b := cond (decide (v2 < (t0.length : Int))) (decide (v2 < t1)) false) rfl (fun c4 => ?_) (fun c4 => ?_)
  · replace H := condT c4 H
    refine AW.skip ?_
    refine AW.seq ?_
    refine AW.block ?_
    refine AW.region ?_
    obtain ⟨g5, H⟩ := G_some H
    refine OpsW.seg 4 [22, 19, 0, 1, 5, 6] [0 ≤ v2 ∧ v2 < (t0.length : Int)] [(22, .ipt (t0.flatMap (eI .u8)) (v2.toNat * 1)), (19, .rsl 5 0 0 v1.length), (0, slA (eI .u8) t0), (1, .int .i64 t1), (5, .rsl 5 0 0 v1.length), (6, .int .i64 v2)] (by kernel_rfl) ⟨g5, trivial⟩ ?_
    refine OpsW.asU (.int .u8 (t0.getD v2.toNat (0 : Int))) rfl rfl (T.load rfl trivial (by kernel_rfl) (fm_cell0 (eI .u8) 1 (fun _ => rfl) t0 (0 : Int) v2.toNat (ltN g5) (fun a => .val (.int .u8 a)) (fun _ => rfl))) ?_
    refine OpsW.seg 1 [24, 19, 0, 1, 5, 6] [(64 : Int) ≠ 0] [(24, .int .u8 (Int.tmod (t0.getD v2.toNat (0 : Int)) (64 : Int))), (19, .rsl 5 0 0 v1.length), (0, slA (eI .u8) t0), (1, .int .i64 t1), (5, .rsl 5 0 0 v1.length), (6, .int .i64 v2)] (by kernel_rfl) ⟨(by decide), trivial⟩ ?_
    obtain ⟨g6, H⟩ := G_some H
    refine OpsW.appendLF (enc := eI .u8) [Int.tmod (t0.getD v2.toNat (0 : Int)) (64 : Int)] rfl rfl rfl (by decide) rfl rfl rfl (by simp) E29 (fun _ => rfl) (by decide) trivial (by kernel_rfl) (by kernel_rfl) (by kernel_rfl) rfl rfl rfl g6 ?_
    refine OpsW.seg 1 [5, 0, 1, 6] [] [(5, .rsl 5 1 0 ((v1 ++ [Int.tmod (t0.getD v2.toNat (0 : Int)) (64 : Int)]).length)), (0, slA (eI .u8) t0), (1, .int .i64 t1), (6, .int .i64 v2)] (by kernel_rfl) trivial ?_
    refine OpsW.recast (env' := [(5, .rsl 5 0 0 ((v1 ++ [Int.tmod (t0.getD v2.toNat (0 : Int)) (64 : Int)]).length)), (0, slA (eI .u8) t0), (1, .int .i64 t1), (6, .int .i64 v2)]) (h' := [(5, rtA 0 24 1 (eI .u8) (v1 ++ [Int.tmod (t0.getD v2.toNat (0 : Int)) (64 : Int)]))]) (StC.mk (phi [(5, some 5)]) (.old rfl rfl rfl rfl rfl (CstL.ims _) .nil) rfl (.cons (.rsl rfl rfl rfl rfl rfl rfl) (.cons .im (.cons .im (.cons .im .nil))))) ?_
    refine OpsW.nil ?_
    refine AW.region ?_
    obtain ⟨g7, H⟩ := G_some H
    refine OpsW.seg 3 [6, 5, 0, 1] [inR (v2 + (1 : Int))] [(6, .int .i64 (v2 + (1 : Int))), (5, .rsl 5 0 0 ((v1 ++ [Int.tmod (t0.getD v2.toNat (0 : Int)) (64 : Int)]).length)), (0, slA (eI .u8) t0), (1, .int .i64 t1)] (by kernel_rfl) ⟨g7, trivial⟩ ?_
    refine OpsW.nil ?_
    show ∃ y, _ ∧ StC _ _ _ _
    exact ⟨(v1 ++ [Int.tmod (t0.getD v2.toNat (0 : Int)) (64 : Int)], v2 + (1 : Int)), H, (StC.mk (phi [(5, some 5)]) (.old rfl rfl rfl rfl rfl (CstL.ims _) .nil) rfl (.cons .im (.cons .im (.cons (.rsl rfl rfl rfl rfl rfl rfl) (.cons .im .nil)))))⟩
  · replace H := condF c4 H
    refine AW.exit ?_
    refine AW.regionSeq ?_
    refine OpsW.seg 2 [4] [] [(4, .rsl 5 0 0 v1.length)] (by kernel_rfl) trivial ?_
    refine OpsW.recast (env' := [(4, slA (eI .u8) v1)]) (h' := []) (StC.mk (phi []) .nil rfl (.cons (.frz rfl rfl rfl (frz_all (eI .u8) 1 (fun _ => rfl) v1) (fm_length (eI .u8) 1 (fun _ => rfl) v1) (phi_ne rfl)) .nil)) ?_
    refine OpsW.nil ?_
    obtain rfl := Option.some.inj H
    refine AW.recast (env' := [(4, slA (eI .u8) v1)]) (h' := []) (StC.pure (.cons .im .nil)) ?_
    refine AW.ret ?_
    try simp only [Ex.then, Ex.inBlock, Ex.noGoto, Ex.jump, reduceIte, Nat.reduceEqDiff, reduceCtorEq]
    refine Done.gen rfl (.tmp .nil) ?_
    show _ = _
    kernel_rfl
def f_cell_Show_b1 (t0 : List Int) (loop4 : ((List Int) × Int) → Option ByteArray) (v2 : List Int) (v3 : Int) : Option ByteArray :=
  cond (decide (v3 < (t0.length : Int))) (
    G (0 ≤ v3 ∧ v3 < (t0.length : Int)) <|
    (f_cell_Ascii (t0.getD v3.toNat (0 : Int))).bind fun x7 =>
    G (0 ≤ v3 ∧ v3 < (v2.length : Int)) <|
    G (inR (v3 + (1 : Int))) <|
    loop4 (v2.set v3.toNat x7, v3 + (1 : Int))) (
    some (strOf v2))
def f_cell_Show (t0 : List Int) : Option ByteArray :=
  G (0 ≤ (t0.length : Int) ∧ (t0.length : Int) ≤ (t0.length : Int) ∧ ((1 : Nat) : Int) * (t0.length : Int) ≤ 281474976710656 ∧ (t0.length : Int) ≤ 9223372036854775807) <|
  iter (fun loop (s : (List Int) × Int) => f_cell_Show_b1 t0 loop s.1 s.2) 1000000 (List.replicate (t0.length : Int).toNat (0 : Int), (0 : Int))
theorem f_cell_Show_ok {t0 : List Int} {r : ByteArray} (H : f_cell_Show t0 = some r) : QSpec Try.prog 32 [slA (eI .u8) t0] (.string r) := by
  refine Spec.of_AW Try.func32 rfl (by simp [Try.ntmps32]) ?_
  rw [Try.ntmps32]
  unfold f_cell_Show at H
  change AW _ _ _ [(0, slA (eI .u8) t0)] [] _
  refine AW.regionSeq ?_
  refine OpsW.seg 1 [0] [] [(0, slA (eI .u8) t0)] (by kernel_rfl) trivial ?_
  refine OpsW.nil ?_
  refine AW.regionSeq ?_
  refine OpsW.seg 2 [7, 0] [] [(7, .int .i64 (t0.length : Int)), (0, slA (eI .u8) t0)] (by kernel_rfl) trivial ?_
  obtain ⟨g1, H⟩ := G_some H
  refine OpsW.makeT (enc := eI .u8) (0 : Int) rfl rfl rfl 8 rfl E45 rfl rfl rfl g1 ?_
  refine OpsW.seg 1 [3, 0] [] [(3, .rsl 8 0 0 ((List.replicate (t0.length : Int).toNat (0 : Int)).length)), (0, slA (eI .u8) t0)] (by kernel_rfl) trivial ?_
  refine OpsW.recast (env' := [(3, .rsl 3 0 0 ((List.replicate (t0.length : Int).toNat (0 : Int)).length)), (0, slA (eI .u8) t0)]) (h' := [(3, rtA 0 5 1 (eI .u8) (List.replicate (t0.length : Int).toNat (0 : Int)))]) (StC.mk (phi [(3, some 8)]) (.old rfl rfl rfl rfl rfl (CstL.ims _) .nil) rfl (.cons (.rsl rfl rfl rfl rfl rfl rfl) (.cons .im .nil))) ?_
  refine OpsW.nil ?_
  refine AW.seq ?_
  refine AW.regionSeq ?_
  refine OpsW.seg 3 [11, 10, 9, 3] [] [(11, .int .i64 (0 : Int)), (10, .int .i64 (t0.length : Int)), (9, slA (eI .u8) t0), (3, .rsl 3 0 0 ((List.replicate (t0.length : Int).toNat (0 : Int)).length))] (by kernel_rfl) trivial ?_
  refine OpsW.nil ?_
  refine AW.block ?_
  refine AW.iterK (fun loop (s : (List Int) × Int) => f_cell_Show_b1 t0 loop s.1 s.2) r (fun (s : (List Int) × Int) => [(3, .rsl 3 0 0 s.1.length), (9, slA (eI .u8) t0), (10, .int .i64 (t0.length : Int)), (11, .int .i64 s.2)]) (fun (s : (List Int) × Int) => [(3, rtA 0 5 1 (eI .u8) s.1)]) ?_ 1000000 (List.replicate (t0.length : Int).toNat (0 : Int), (0 : Int)) H (StC.mk (phi [(3, some 3)]) (.old rfl rfl rfl rfl rfl (CstL.ims _) .nil) rfl (.cons (.rsl rfl rfl rfl rfl rfl rfl) (.cons .im (.cons .im (.cons .im .nil)))))
  intro loop4 s H
  obtain ⟨v2, v3⟩ := s
  change f_cell_Show_b1 t0 loop4 v2 v3 = some r at H
  unfold f_cell_Show_b1 at H
  change AW _ _ _ [(3, .rsl 3 0 0 v2.length), (9, slA (eI .u8) t0), (10, .int .i64 (t0.length : Int)), (11, .int .i64 v3)] [(3, rtA 0 5 1 (eI .u8) v2)] _
  refine AW.regionSeq ?_
  refine OpsW.seg 1 [12, 3, 9, 10, 11] [] [(12, .bool (decide (v3 < (t0.length : Int)))), (3, .rsl 3 0 0 v2.length), (9, slA (eI .u8) t0), (10, .int .i64 (t0.length : Int)), (11, .int .i64 v3)] (by kernel_rfl) trivial ?_
  refine OpsW.nil ?_
  refine AW.seq ?_
  refine AW.cond (b := decide (v3 < (t0.length : Int))) rfl (fun c5 => ?_) (fun c5 => ?_)
  · replace H := condT c5 H
    refine AW.skip ?_
    refine AW.seq ?_
    refine AW.block ?_
    refine AW.regionSeq ?_
    obtain ⟨g6, H⟩ := G_some H
    refine OpsW.seg 2 [14, 13, 3, 9, 10, 11] [0 ≤ v3 ∧ v3 < (t0.length : Int)] [(14, .ipt (t0.flatMap (eI .u8)) (v3.toNat * 1)), (13, .int .i64 v3), (3, .rsl 3 0 0 v2.length), (9, slA (eI .u8) t0), (10, .int .i64 (t0.length : Int)), (11, .int .i64 v3)] (by kernel_rfl) ⟨g6, trivial⟩ ?_
    refine OpsW.asU (.int .u8 (t0.getD v3.toNat (0 : Int))) rfl rfl (T.load rfl trivial (by kernel_rfl) (fm_cell0 (eI .u8) 1 (fun _ => rfl) t0 (0 : Int) v3.toNat (ltN g6) (fun a => .val (.int .u8 a)) (fun _ => rfl))) ?_
    refine OpsW.seg 2 [5, 4, 3, 9, 10, 11] [] [(5, .int .u8 (t0.getD v3.toNat (0 : Int))), (4, .int .i64 v3), (3, .rsl 3 0 0 v2.length), (9, slA (eI .u8) t0), (10, .int .i64 (t0.length : Int)), (11, .int .i64 v3)] (by kernel_rfl) trivial ?_
    refine OpsW.nil ?_
    refine AW.region ?_
    refine OpsW.seg 3 [18, 17, 16, 3, 9, 10, 11] [] [(18, .int .u8 (t0.getD v3.toNat (0 : Int))), (17, .int .i64 v3), (16, .rsl 3 0 0 v2.length), (3, .rsl 3 0 0 v2.length), (9, slA (eI .u8) t0), (10, .int .i64 (t0.length : Int)), (11, .int .i64 v3)] (by kernel_rfl) trivial ?_
    obtain ⟨x7, hx7, H⟩ := bindS H
    refine OpsW.qcall rfl (by kernel_rfl) rfl rfl (glAll_sound trivial) (.cons (.pur rfl) .nil) (f_cell_Ascii_ok hx7) rfl ?_
    obtain ⟨g8, H⟩ := G_some H
    refine OpsW.seg 1 [20, 19, 3, 9, 10, 11] [0 ≤ v3 ∧ v3 < (v2.length : Int)] [(20, .ref 3 0 (0 + v3.toNat * 1)), (19, .int .u8 x7), (3, .rsl 3 0 0 v2.length), (9, slA (eI .u8) t0), (10, .int .i64 (t0.length : Int)), (11, .int .i64 v3)] (by kernel_rfl) ⟨g8, trivial⟩ ?_
    refine OpsW.storeT (enc := eI .u8) (k := 1) (0 : Int) x7 [.val (.int .u8 x7)] v3.toNat 0 rfl rfl rfl (by exact congrArg (AV.ref 3 0) (by first | omega | rfl | (simp; omega))) trivial trivial rfl (fun _ => rfl) rfl (by kernel_rfl) (okCb_sound (by kernel_rfl)) (ltN g8) (Nat.le_of_ble_eq_true (by kernel_rfl)) rfl ?_
    refine OpsW.weaken [(20, .ref 3 0 (0 + v3.toNat * 1)), (19, .int .u8 x7), (3, .rsl 3 0 0 ((v2.set v3.toNat x7).length)), (9, slA (eI .u8) t0), (10, .int .i64 (t0.length : Int)), (11, .int .i64 v3)] (Env.le_of_eq (by simp only [List.length_set])) ?_
    refine OpsW.seg 0 [3, 9, 10, 11] [] [(3, .rsl 3 0 0 ((v2.set v3.toNat x7).length)), (9, slA (eI .u8) t0), (10, .int .i64 (t0.length : Int)), (11, .int .i64 v3)] (by kernel_rfl) trivial ?_
    refine OpsW.recast (env' := [(3, .rsl 3 0 0 ((v2.set v3.toNat x7).length)), (9, slA (eI .u8) t0), (10, .int .i64 (t0.length : Int)), (11, .int .i64 v3)]) (h' := [(3, rtA 0 5 1 (eI .u8) (v2.set v3.toNat x7))]) (StC.mk (phi [(3, some 3)]) (.old rfl rfl rfl rfl rfl (CstL.ims _) .nil) rfl (.cons (.rsl rfl rfl rfl rfl rfl rfl) (.cons .im (.cons .im (.cons .im .nil))))) ?_
    refine OpsW.nil ?_
    refine AW.region ?_
    obtain ⟨g9, H⟩ := G_some H
    refine OpsW.seg 2 [11, 3, 9, 10] [inR (v3 + (1 : Int))] [(11, .int .i64 (v3 + (1 : Int))), (3, .rsl 3 0 0 ((v2.set v3.toNat x7).length)), (9, slA (eI .u8) t0), (10, .int .i64 (t0.length : Int))] (by kernel_rfl) ⟨g9, trivial⟩ ?_
    refine OpsW.nil ?_
    show ∃ y, _ ∧ StC _ _ _ _
    exact ⟨(v2.set v3.toNat x7, v3 + (1 : Int)), H, (StC.mk (phi [(3, some 3)]) (.old rfl rfl rfl rfl rfl (CstL.ims _) .nil) rfl (.cons (.rsl rfl rfl rfl rfl rfl rfl) (.cons .im (.cons .im (.cons .im .nil)))))⟩
  · replace H := condF c5 H
    refine AW.exit ?_
    refine AW.regionSeq ?_
    refine OpsW.seg 1 [22] [] [(22, .rsl 3 0 0 v2.length)] (by kernel_rfl) trivial ?_
    refine OpsW.quietU (.string (strOf v2)) rfl rfl (Quiet.toStr (e := 5) v2 rfl (by kernel_rfl) (by kernel_rfl) (by kernel_rfl) (gpoU rfl ⟨trivial, SlV.rsl rfl rfl, SrcA.rootF (enc := eI .u8) (fun _ => rfl) (by kernel_rfl) rfl⟩)) ?_
    refine OpsW.seg 1 [2] [] [(2, .string (strOf v2))] (by kernel_rfl) trivial ?_
    refine OpsW.nil ?_
    obtain rfl := Option.some.inj H
    refine AW.recast (env' := [(2, .string (strOf v2))]) (h' := []) (StC.pure (.cons .im .nil)) ?_
    refine AW.ret ?_
    try simp only [Ex.then, Ex.inBlock, Ex.noGoto, Ex.jump, reduceIte, Nat.reduceEqDiff, reduceCtorEq]
    refine Done.gen rfl (.tmp .nil) ?_
    show _ = _
    kernel_rfl
def f_R01_ValidAll_b1 (t0 : List Int) (loop2 : (Int) → Option Bool) (v1 : Int) : Option Bool :=
  cond (decide (v1 < (t0.length : Int))) (
    G (0 ≤ v1 ∧ v1 < (t0.length : Int)) <|
    cond (decide ((64 : Int) ≤ (t0.getD v1.toNat (0 : Int)))) (
      some false) (
      G (inR (v1 + (1 : Int))) <|
      loop2 (v1 + (1 : Int)))) (
    some true)
def f_R01_ValidAll (t0 : List Int) : Option Bool :=
  iter (fun loop (s : Int) => f_R01_ValidAll_b1 t0 loop s) 1000000 (0 : Int)
theorem f_R01_ValidAll_ok {t0 : List Int} {r : Bool} (H : f_R01_ValidAll t0 = some r) : QSpec Try.prog 33 [slA (eI .u8) t0] (.bool r) := by
  refine Spec.of_AW Try.func33 rfl (by simp [Try.ntmps33]) ?_
  rw [Try.ntmps33]
  unfold f_R01_ValidAll at H
  change AW _ _ _ [(0, slA (eI .u8) t0)] [] _
  refine AW.regionSeq ?_
  refine OpsW.seg 1 [0] [] [(0, slA (eI .u8) t0)] (by kernel_rfl) trivial ?_
  refine OpsW.nil ?_
  refine AW.seq ?_
  refine AW.regionSeq ?_
  refine OpsW.seg 1 [3, 0] [] [(3, .int .i64 (0 : Int)), (0, slA (eI .u8) t0)] (by kernel_rfl) trivial ?_
  refine OpsW.nil ?_
  refine AW.block ?_
  refine AW.iterK (fun loop (s : Int) => f_R01_ValidAll_b1 t0 loop s) r (fun (s : Int) => [(0, slA (eI .u8) t0), (3, .int .i64 s)]) (fun (s : Int) => []) ?_ 1000000 (0 : Int) H (StC.pure (.cons .im (.cons .im .nil)))
  intro loop2 v1 H
  change f_R01_ValidAll_b1 t0 loop2 v1 = some r at H
  unfold f_R01_ValidAll_b1 at H
  change AW _ _ _ [(0, slA (eI .u8) t0), (3, .int .i64 v1)] [] _
  refine AW.seq ?_
  refine AW.regionSeq ?_
  refine OpsW.seg 4 [7, 0, 3] [] [(7, .bool (decide (v1 < (t0.length : Int)))), (0, slA (eI .u8) t0), (3, .int .i64 v1)] (by kernel_rfl) trivial ?_
  refine OpsW.nil ?_
  refine AW.cond (b := decide (v1 < (t0.length : Int))) rfl (fun c3 => ?_) (fun c3 => ?_)
  · replace H := condT c3 H
    refine AW.skip ?_
    refine AW.seq ?_
    refine AW.block ?_
    refine AW.regionSeq ?_
    obtain ⟨g4, H⟩ := G_some H
    refine OpsW.seg 3 [12, 0, 3] [0 ≤ v1 ∧ v1 < (t0.length : Int)] [(12, .ipt (t0.flatMap (eI .u8)) (v1.toNat * 1)), (0, slA (eI .u8) t0), (3, .int .i64 v1)] (by kernel_rfl) ⟨g4, trivial⟩ ?_
    refine OpsW.asU (.int .u8 (t0.getD v1.toNat (0 : Int))) rfl rfl (T.load rfl trivial (by kernel_rfl) (fm_cell0 (eI .u8) 1 (fun _ => rfl) t0 (0 : Int) v1.toNat (ltN g4) (fun a => .val (.int .u8 a)) (fun _ => rfl))) ?_
    refine OpsW.seg 1 [14, 0, 3] [] [(14, .bool (decide ((64 : Int) ≤ (t0.getD v1.toNat (0 : Int))))), (0, slA (eI .u8) t0), (3, .int .i64 v1)] (by kernel_rfl) trivial ?_
    refine OpsW.nil ?_
    refine AW.cond (b := decide ((64 : Int) ≤ (t0.getD v1.toNat (0 : Int)))) rfl (fun c5 => ?_) (fun c5 => ?_)
    · replace H := condT c5 H
      refine AW.regionSeq ?_
      refine OpsW.seg 1 [2] [] [(2, .bool false)] (by kernel_rfl) trivial ?_
      refine OpsW.nil ?_
      obtain rfl := Option.some.inj H
      refine AW.recast (env' := [(2, .bool false)]) (h' := []) (StC.pure (.cons .im .nil)) ?_
      refine AW.ret ?_
      try simp only [Ex.then, Ex.inBlock, Ex.noGoto, Ex.jump, reduceIte, Nat.reduceEqDiff, reduceCtorEq]
      refine Done.gen rfl (.tmp .nil) ?_
      show _ = _
      kernel_rfl
    · replace H := condF c5 H
      refine AW.skip ?_
      refine AW.region ?_
      obtain ⟨g6, H⟩ := G_some H
      refine OpsW.seg 3 [3, 0] [inR (v1 + (1 : Int))] [(3, .int .i64 (v1 + (1 : Int))), (0, slA (eI .u8) t0)] (by kernel_rfl) ⟨g6, trivial⟩ ?_
      refine OpsW.nil ?_
      show ∃ y, _ ∧ StC _ _ _ _
      exact ⟨v1 + (1 : Int), H, (StC.pure (.cons .im (.cons .im .nil)))⟩
  · replace H := condF c3 H
    refine AW.exit ?_
    refine AW.regionSeq ?_
    refine OpsW.seg 1 [2] [] [(2, .bool true)] (by kernel_rfl) trivial ?_
    refine OpsW.nil ?_
    obtain rfl := Option.some.inj H
    refine AW.recast (env' := [(2, .bool true)]) (h' := []) (StC.pure (.cons .im .nil)) ?_
    refine AW.ret ?_
    try simp only [Ex.then, Ex.inBlock, Ex.noGoto, Ex.jump, reduceIte, Nat.reduceEqDiff, reduceCtorEq]
    refine Done.gen rfl (.tmp .nil) ?_
    show _ = _
    kernel_rfl
end Go.Proofs.Ytbdmehgppgfiaaa
