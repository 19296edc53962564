/-
  Written by gen.py (own work): typed functions, and that the program computes them.
-/
import Derived.Test.YtlhpkjgpcenfdaaDoorW4
set_option linter.unusedSimpArgs false
set_option linter.unusedVariables false
set_option maxRecDepth 100000
namespace Go.Proofs.YtlhpkjgpcenfdaaDoor
open Go.Abs
def f_R02_Character (t0 : Int) : Option Bool :=
  some (cond (decide ((32 : Int) ≤ (bAnd .u8 t0 (127 : Int)))) (decide ((bAnd .u8 t0 (127 : Int)) ≤ (126 : Int))) false)
theorem f_R02_Character_ok  {t0 : Int} {r : Bool} (H : f_R02_Character t0 = some r) : QSpec Tryd.prog 16 [.int .u8 t0] (.bool r) := by
  refine Spec.of_AW Tryd.func16 rfl (by simp [Tryd.ntmps16]) ?_
  rw [Tryd.ntmps16]
  unfold f_R02_Character at H
  change AW _ _ _ [(0, .int .u8 t0)] [] _
  refine AW.regionSeq ?_
  refine OpsW.seg 1 [0] [] [(0, .int .u8 t0)] (by kernel_rfl) trivial ?_
  refine OpsW.nil ?_
  refine AW.regionSeq ?_
  refine OpsW.seg 9 [2] [(decide ((32 : Int) ≤ (bAnd .u8 t0 (127 : Int)))) = true → (decide ((32 : Int) ≤ (bAnd .u8 t0 (127 : Int)))) = true, (decide ((32 : Int) ≤ (bAnd .u8 t0 (127 : Int)))) = true → (decide ((32 : Int) ≤ (bAnd .u8 t0 (127 : Int)))) = true, (decide ((32 : Int) ≤ (bAnd .u8 t0 (127 : Int)))) = true → (decide ((32 : Int) ≤ (bAnd .u8 t0 (127 : Int)))) = true] [(2, .bool (cond (decide ((32 : Int) ≤ (bAnd .u8 t0 (127 : Int)))) (decide ((bAnd .u8 t0 (127 : Int)) ≤ (126 : Int))) false))] (by kernel_rfl) ⟨(fun h => h), (fun h => h), (fun h => by first | exact h | simpa using h), trivial⟩ ?_
  refine OpsW.nil ?_
  obtain rfl := Option.some.inj H
  refine AW.recast (env' := [(2, .bool (cond (decide ((32 : Int) ≤ (bAnd .u8 t0 (127 : Int)))) (decide ((bAnd .u8 t0 (127 : Int)) ≤ (126 : Int))) false))]) (h' := []) (StC.pure (.cons .im .nil)) ?_
  refine AW.ret ?_
  try simp only [Ex.then, Ex.inBlock, Ex.noGoto, Ex.jump, reduceIte, Nat.reduceEqDiff, reduceCtorEq]
  refine Done.gen rfl (.tmp .nil) ?_
  show _ = _
  kernel_rfl
def f_R02_Text_b1 (t0 : ByteArray) (loop2 : (Int) → Option (Int × Int)) (v1 : Int) : Option (Int × Int) :=
  cond (decide (v1 < (t0.size : Int))) (
    G (0 ≤ v1 ∧ v1 < (t0.size : Int)) <|
    (f_R02_Character (bAt t0 v1)).bind fun x5 =>
    cond (!x5) (
      some (v1, (60 : Int))) (
      G (inR (v1 + (1 : Int))) <|
      loop2 (v1 + (1 : Int)))) (
    some ((t0.size : Int), (0 : Int)))
def f_R02_Text (t0 : ByteArray) : Option (Int × Int) :=
  iter (fun loop (s : Int) => f_R02_Text_b1 t0 loop s) 1000000 (0 : Int)
theorem f_R02_Text_ok  {t0 : ByteArray} {r : Int × Int} (H : f_R02_Text t0 = some r) : QSpec Tryd.prog 11 [.string t0] (.tup [.int .i64 r.1, .int .i64 r.2]) := by
  refine Spec.of_AW Tryd.func11 rfl (by simp [Tryd.ntmps11]) ?_
  rw [Tryd.ntmps11]
  unfold f_R02_Text at H
  change AW _ _ _ [(0, .string t0)] [] _
  refine AW.regionSeq ?_
  refine OpsW.seg 2 [0] [] [(0, .string t0)] (by kernel_rfl) trivial ?_
  refine OpsW.nil ?_
  refine AW.seq ?_
  refine AW.regionSeq ?_
  refine OpsW.seg 1 [4, 0] [] [(4, .int .i64 0), (0, .string t0)] (by kernel_rfl) trivial ?_
  refine OpsW.nil ?_
  refine AW.block ?_
  refine AW.iterK (fun loop (s : Int) => f_R02_Text_b1 t0 loop s) r (fun (s : Int) => [(0, .string t0), (4, .int .i64 s)]) (fun (s : Int) => []) ?_ 1000000 (0 : Int) H (StC.pure (.cons .im (.cons .im .nil)))
  intro loop2 v1 H
  change f_R02_Text_b1 t0 loop2 v1 = some r at H
  unfold f_R02_Text_b1 at H
  change AW _ _ _ [(0, .string t0), (4, .int .i64 v1)] [] _
  refine AW.seq ?_
  refine AW.regionSeq ?_
  refine OpsW.seg 4 [8, 0, 4] [] [(8, .bool (decide (v1 < (t0.size : Int)))), (0, .string t0), (4, .int .i64 v1)] (by kernel_rfl) trivial ?_
  refine OpsW.nil ?_
  refine AW.cond (b := decide (v1 < (t0.size : Int))) rfl (fun c3 => ?_) (fun c3 => ?_)
  · replace H := condT c3 H
    refine AW.skip ?_
    refine AW.seq ?_
    refine AW.block ?_
    refine AW.regionSeq ?_
    obtain ⟨g4, H⟩ := G_some H
    refine OpsW.seg 3 [13, 0, 4] [0 ≤ v1 ∧ v1 < (t0.size : Int)] [(13, .int .u8 (bAt t0 v1)), (0, .string t0), (4, .int .i64 v1)] (by kernel_rfl) ⟨g4, trivial⟩ ?_
    obtain ⟨x5, hx5, H⟩ := bindS H
    refine OpsW.qcall rfl (by kernel_rfl) rfl rfl (glAll_sound trivial) (.cons (.pur rfl) .nil) (f_R02_Character_ok hx5) rfl ?_
    refine OpsW.seg 1 [15, 0, 4] [] [(15, .bool (!x5)), (0, .string t0), (4, .int .i64 v1)] (by kernel_rfl) trivial ?_
    refine OpsW.nil ?_
    refine AW.cond (b := !x5) rfl (fun c6 => ?_) (fun c6 => ?_)
    · replace H := condT c6 H
      refine AW.regionSeq ?_
      refine OpsW.seg 3 [3, 2] [] [(3, .int .i64 60), (2, .int .i64 v1)] (by kernel_rfl) trivial ?_
      refine OpsW.nil ?_
      obtain rfl := Option.some.inj H
      refine AW.recast (env' := [(2, .int .i64 v1), (3, .int .i64 60)]) (h' := []) (StC.pure (.cons .im (.cons .im .nil))) ?_
      refine AW.ret ?_
      try simp only [Ex.then, Ex.inBlock, Ex.noGoto, Ex.jump, reduceIte, Nat.reduceEqDiff, reduceCtorEq]
      refine Done.gen rfl (.tmp (.tmp .nil)) ?_
      show _ = _
      kernel_rfl
    · replace H := condF c6 H
      refine AW.skip ?_
      refine AW.region ?_
      obtain ⟨g7, H⟩ := G_some H
      refine OpsW.seg 3 [4, 0] [inR (v1 + (1 : Int))] [(4, .int .i64 (v1 + (1 : Int))), (0, .string t0)] (by kernel_rfl) ⟨g7, trivial⟩ ?_
      refine OpsW.nil ?_
      show ∃ y, _ ∧ StC _ _ _ _
      exact ⟨v1 + (1 : Int), H, (StC.pure (.cons .im (.cons .im .nil)))⟩
  · replace H := condF c3 H
    refine AW.exit ?_
    refine AW.regionSeq ?_
    refine OpsW.seg 4 [3, 2] [] [(3, .int .i64 0), (2, .int .i64 (t0.size : Int))] (by kernel_rfl) trivial ?_
    refine OpsW.nil ?_
    obtain rfl := Option.some.inj H
    refine AW.recast (env' := [(2, .int .i64 (t0.size : Int)), (3, .int .i64 0)]) (h' := []) (StC.pure (.cons .im (.cons .im .nil))) ?_
    refine AW.ret ?_
    try simp only [Ex.then, Ex.inBlock, Ex.noGoto, Ex.jump, reduceIte, Nat.reduceEqDiff, reduceCtorEq]
    refine Done.gen rfl (.tmp (.tmp .nil)) ?_
    show _ = _
    kernel_rfl
def f_R02_IsText (t0 : ByteArray) : Option Bool :=
  (f_R02_Text t0).bind fun x1 =>
  some (x1.2 == (0 : Int))
theorem f_R02_IsText_ok  {t0 : ByteArray} {r : Bool} (H : f_R02_IsText t0 = some r) : QSpec Tryd.prog 31 [.string t0] (.bool r) := by
  refine Spec.of_AW Tryd.func31 rfl (by simp [Tryd.ntmps31]) ?_
  rw [Tryd.ntmps31]
  unfold f_R02_IsText at H
  change AW _ _ _ [(0, .string t0)] [] _
  refine AW.regionSeq ?_
  refine OpsW.seg 1 [0] [] [(0, .string t0)] (by kernel_rfl) trivial ?_
  refine OpsW.nil ?_
  refine AW.regionSeq ?_
  refine OpsW.seg 1 [6] [] [(6, .string t0)] (by kernel_rfl) trivial ?_
  obtain ⟨x1, hx1, H⟩ := bindS H
  refine OpsW.qcall rfl (by kernel_rfl) rfl rfl (glAll_sound trivial) (.cons (.pur rfl) .nil) (f_R02_Text_ok hx1) rfl ?_
  refine OpsW.seg 5 [4] [] [(4, .int .i64 x1.2)] (by kernel_rfl) trivial ?_
  refine OpsW.nil ?_
  refine AW.regionSeq ?_
  refine OpsW.seg 3 [2] [] [(2, .bool (x1.2 == (0 : Int)))] (by kernel_rfl) trivial ?_
  refine OpsW.nil ?_
  obtain rfl := Option.some.inj H
  refine AW.recast (env' := [(2, .bool (x1.2 == (0 : Int)))]) (h' := []) (StC.pure (.cons .im .nil)) ?_
  refine AW.ret ?_
  try simp only [Ex.then, Ex.inBlock, Ex.noGoto, Ex.jump, reduceIte, Nat.reduceEqDiff, reduceCtorEq]
  refine Done.gen rfl (.tmp .nil) ?_
  show _ = _
  kernel_rfl
def f_R02_Space (t0 : Int) : Option Bool :=
  some ((bAnd .u8 t0 (127 : Int)) == (32 : Int))
theorem f_R02_Space_ok  {t0 : Int} {r : Bool} (H : f_R02_Space t0 = some r) : QSpec Tryd.prog 17 [.int .u8 t0] (.bool r) := by
  refine Spec.of_AW Tryd.func17 rfl (by simp [Tryd.ntmps17]) ?_
  rw [Tryd.ntmps17]
  unfold f_R02_Space at H
  change AW _ _ _ [(0, .int .u8 t0)] [] _
  refine AW.regionSeq ?_
  refine OpsW.seg 1 [0] [] [(0, .int .u8 t0)] (by kernel_rfl) trivial ?_
  refine OpsW.nil ?_
  refine AW.regionSeq ?_
  refine OpsW.seg 4 [2] [] [(2, .bool ((bAnd .u8 t0 (127 : Int)) == (32 : Int)))] (by kernel_rfl) trivial ?_
  refine OpsW.nil ?_
  obtain rfl := Option.some.inj H
  refine AW.recast (env' := [(2, .bool ((bAnd .u8 t0 (127 : Int)) == (32 : Int)))]) (h' := []) (StC.pure (.cons .im .nil)) ?_
  refine AW.ret ?_
  try simp only [Ex.then, Ex.inBlock, Ex.noGoto, Ex.jump, reduceIte, Nat.reduceEqDiff, reduceCtorEq]
  refine Done.gen rfl (.tmp .nil) ?_
  show _ = _
  kernel_rfl
def f_R02_Sound_b1 (t0 : S_Rule) (v4 : Bool) (loop13 : (Bool × Int) → Option Bool) (v11 : Bool) (v12 : Int) : Option Bool :=
  cond (decide (v12 < (t0.Cells.length : Int))) (
    G (0 ≤ v12 ∧ v12 < (t0.Cells.length : Int)) <|
    cond (decide ((63 : Int) ≤ (t0.Cells.getD v12.toNat (0 : Int)))) (
      some false) (
      G (inR (v12 + (1 : Int))) <|
      loop13 (cond v11 true ((t0.Cells.getD v12.toNat (0 : Int)) == (0 : Int)), v12 + (1 : Int)))) (
    cond (!v4) (
      some (!v11)) (
      some (cond (cond ((t0.Print.size : Int) == (1 : Int)) ((t0.Cells.length : Int) == (1 : Int)) false) v11 false)))
def f_R02_Sound_b2 (t0 : S_Rule) (loop6 : (Bool × Int) → Option Bool) (v4 : Bool) (v5 : Int) : Option Bool :=
  cond (decide (v5 < (t0.Print.size : Int))) (
    G ((!v4) = true → (0 ≤ v5 ∧ v5 < (t0.Print.size : Int))) <|
    (cond (!v4) (f_R02_Space (bAt t0.Print v5)) (some false)).bind fun x9 =>
    G (inR (v5 + (1 : Int))) <|
    loop6 (cond v4 true x9, v5 + (1 : Int))) (
    iter (fun loop (s : Bool × Int) => f_R02_Sound_b1 t0 v4 loop s.1 s.2) 1000000 (false, (0 : Int)))
def f_R02_Sound (t0 : S_Rule) (t1 : Int) : Option Bool :=
  (f_R02_IsText t0.Print).bind fun x1 =>
  cond (cond (cond (cond (!x1) true (decide ((4 : Int) < (t0.Print.size : Int)))) true (decide ((t0.Cells.length : Int) < (1 : Int)))) true (decide ((4 : Int) < (t0.Cells.length : Int)))) (
    some false) (
    cond (cond (cond (cond (cond (cond (cond (cond (decide (t0.Left < (1 : Int))) true (decide ((63 : Int) < t0.Left))) true (decide (t0.Right < (1 : Int)))) true (decide ((63 : Int) < t0.Right))) true (decide (t0.From < (0 : Int)))) true (decide (t1 ≤ t0.From))) true (decide (t0.To < (0 : Int)))) true (decide (t1 ≤ t0.To))) (
      some false) (
      iter (fun loop (s : Bool × Int) => f_R02_Sound_b2 t0 loop s.1 s.2) 1000000 (false, (0 : Int))))
theorem f_R02_Sound_ok  {t0 : S_Rule} {t1 : Int} {r : Bool} (H : f_R02_Sound t0 t1 = some r) : QSpec Tryd.prog 24 [.agg [.string t0.Print, slA (eI .u8) t0.Cells, .int .u8 t0.Left, .int .u8 t0.Right, .int .i64 t0.From, .int .i64 t0.To], .int .i64 t1] (.bool r) := by
  refine Spec.of_AW Tryd.func24 rfl (by simp [Tryd.ntmps24]) ?_
  rw [Tryd.ntmps24]
  unfold f_R02_Sound at H
  change AW _ _ _ [(0, .agg [.string t0.Print, slA (eI .u8) t0.Cells, .int .u8 t0.Left, .int .u8 t0.Right, .int .i64 t0.From, .int .i64 t0.To]), (1, .int .i64 t1)] [] _
  refine AW.regionSeq ?_
  refine OpsW.box rfl rfl rfl 2 rfl (okCb_sound (by kernel_rfl)) ?_
  change OpsW _ _ _ _ _ [(2, ⟨0, true, 36, 6, [.string t0.Print, slA (eI .u8) t0.Cells, .int .u8 t0.Left, .int .u8 t0.Right, .int .i64 t0.From, .int .i64 t0.To]⟩)] _
  refine OpsW.seg 1 [2, 1] [] [(2, .ref 2 0 0), (1, .int .i64 t1)] (by kernel_rfl) trivial ?_
  refine OpsW.recast (env' := [(2, .ref 2 0 0), (1, .int .i64 t1)]) (h' := [(2, ⟨0, true, 36, 6, [.string t0.Print, slA (eI .u8) t0.Cells, .int .u8 t0.Left, .int .u8 t0.Right, .int .i64 t0.From, .int .i64 t0.To]⟩)]) (StC.mk (phi [(2, some 2)]) (.old rfl rfl rfl rfl rfl (.cons .im (.cons .im (.cons .im (.cons .im (.cons .im (.cons .im .nil)))))) .nil) rfl (.cons (.ref rfl rfl rfl rfl rfl) (.cons .im .nil))) ?_
  refine OpsW.nil ?_
  refine AW.seq ?_
  refine AW.regionSeq ?_
  refine OpsW.seg 2 [10, 2, 1] [] [(10, .string t0.Print), (2, .ref 2 0 0), (1, .int .i64 t1)] (by kernel_rfl) trivial ?_
  obtain ⟨x1, hx1, H⟩ := bindS H
  refine OpsW.qcall rfl (by kernel_rfl) rfl rfl (glAll_sound trivial) (.cons (.pur rfl) .nil) (f_R02_IsText_ok hx1) rfl ?_
  refine OpsW.seg 19 [30, 2, 1] [(!(!x1)) = true → (!(!x1)) = true, (!(!x1)) = true → (!(!x1)) = true, (!(!x1)) = true → (!(!x1)) = true, (!x1) = false → (!(!x1)) = true, (!(cond (!x1) true (decide ((4 : Int) < (t0.Print.size : Int))))) = true → (!(cond (!x1) true (decide ((4 : Int) < (t0.Print.size : Int))))) = true, (!(cond (!x1) true (decide ((4 : Int) < (t0.Print.size : Int))))) = true → (!(cond (!x1) true (decide ((4 : Int) < (t0.Print.size : Int))))) = true, (!(cond (!x1) true (decide ((4 : Int) < (t0.Print.size : Int))))) = true → (!(cond (!x1) true (decide ((4 : Int) < (t0.Print.size : Int))))) = true, (cond (!x1) true (decide ((4 : Int) < (t0.Print.size : Int)))) = false → (!(cond (!x1) true (decide ((4 : Int) < (t0.Print.size : Int))))) = true, (!(cond (cond (!x1) true (decide ((4 : Int) < (t0.Print.size : Int)))) true (decide ((t0.Cells.length : Int) < (1 : Int))))) = true → (!(cond (cond (!x1) true (decide ((4 : Int) < (t0.Print.size : Int)))) true (decide ((t0.Cells.length : Int) < (1 : Int))))) = true, (!(cond (cond (!x1) true (decide ((4 : Int) < (t0.Print.size : Int)))) true (decide ((t0.Cells.length : Int) < (1 : Int))))) = true → (!(cond (cond (!x1) true (decide ((4 : Int) < (t0.Print.size : Int)))) true (decide ((t0.Cells.length : Int) < (1 : Int))))) = true, (!(cond (cond (!x1) true (decide ((4 : Int) < (t0.Print.size : Int)))) true (decide ((t0.Cells.length : Int) < (1 : Int))))) = true → (!(cond (cond (!x1) true (decide ((4 : Int) < (t0.Print.size : Int)))) true (decide ((t0.Cells.length : Int) < (1 : Int))))) = true, (cond (cond (!x1) true (decide ((4 : Int) < (t0.Print.size : Int)))) true (decide ((t0.Cells.length : Int) < (1 : Int)))) = false → (!(cond (cond (!x1) true (decide ((4 : Int) < (t0.Print.size : Int)))) true (decide ((t0.Cells.length : Int) < (1 : Int))))) = true] [(30, .bool (cond (cond (cond (!x1) true (decide ((4 : Int) < (t0.Print.size : Int)))) true (decide ((t0.Cells.length : Int) < (1 : Int)))) true (decide ((4 : Int) < (t0.Cells.length : Int))))), (2, .ref 2 0 0), (1, .int .i64 t1)] (by kernel_rfl) ⟨(fun h => h), (fun h => h), (fun h => h), (fun h => by first | exact h | simpa using h), (fun h => h), (fun h => h), (fun h => h), (fun h => by first | exact h | simpa using h), (fun h => h), (fun h => h), (fun h => h), (fun h => by first | exact h | simpa using h), trivial⟩ ?_
  refine OpsW.nil ?_
  refine AW.cond (b := cond (cond (cond (!x1) true (decide ((4 : Int) < (t0.Print.size : Int)))) true (decide ((t0.Cells.length : Int) < (1 : Int)))) true (decide ((4 : Int) < (t0.Cells.length : Int)))) rfl (fun c2 => ?_) (fun c2 => ?_)
  · replace H := condT c2 H
    refine AW.regionSeq ?_
    refine OpsW.seg 1 [4] [] [(4, .bool false)] (by kernel_rfl) trivial ?_
    refine OpsW.nil ?_
    obtain rfl := Option.some.inj H
    refine AW.recast (env' := [(4, .bool false)]) (h' := []) (StC.pure (.cons .im .nil)) ?_
    refine AW.ret ?_
    try simp only [Ex.then, Ex.inBlock, Ex.noGoto, Ex.jump, reduceIte, Nat.reduceEqDiff, reduceCtorEq]
    refine Done.gen rfl (.tmp .nil) ?_
    show _ = _
    kernel_rfl
  · replace H := condF c2 H
    refine AW.skip ?_
    refine AW.seq ?_
    refine AW.regionSeq ?_
    refine OpsW.seg 40 [70, 2] [(!(decide (t0.Left < (1 : Int)))) = true → (!(decide (t0.Left < (1 : Int)))) = true, (!(decide (t0.Left < (1 : Int)))) = true → (!(decide (t0.Left < (1 : Int)))) = true, (decide (t0.Left < (1 : Int))) = false → (!(decide (t0.Left < (1 : Int)))) = true, (!(cond (decide (t0.Left < (1 : Int))) true (decide ((63 : Int) < t0.Left)))) = true → (!(cond (decide (t0.Left < (1 : Int))) true (decide ((63 : Int) < t0.Left)))) = true, (!(cond (decide (t0.Left < (1 : Int))) true (decide ((63 : Int) < t0.Left)))) = true → (!(cond (decide (t0.Left < (1 : Int))) true (decide ((63 : Int) < t0.Left)))) = true, (cond (decide (t0.Left < (1 : Int))) true (decide ((63 : Int) < t0.Left))) = false → (!(cond (decide (t0.Left < (1 : Int))) true (decide ((63 : Int) < t0.Left)))) = true, (!(cond (cond (decide (t0.Left < (1 : Int))) true (decide ((63 : Int) < t0.Left))) true (decide (t0.Right < (1 : Int))))) = true → (!(cond (cond (decide (t0.Left < (1 : Int))) true (decide ((63 : Int) < t0.Left))) true (decide (t0.Right < (1 : Int))))) = true, (!(cond (cond (decide (t0.Left < (1 : Int))) true (decide ((63 : Int) < t0.Left))) true (decide (t0.Right < (1 : Int))))) = true → (!(cond (cond (decide (t0.Left < (1 : Int))) true (decide ((63 : Int) < t0.Left))) true (decide (t0.Right < (1 : Int))))) = true, (cond (cond (decide (t0.Left < (1 : Int))) true (decide ((63 : Int) < t0.Left))) true (decide (t0.Right < (1 : Int)))) = false → (!(cond (cond (decide (t0.Left < (1 : Int))) true (decide ((63 : Int) < t0.Left))) true (decide (t0.Right < (1 : Int))))) = true, (!(cond (cond (cond (decide (t0.Left < (1 : Int))) true (decide ((63 : Int) < t0.Left))) true (decide (t0.Right < (1 : Int)))) true (decide ((63 : Int) < t0.Right)))) = true → (!(cond (cond (cond (decide (t0.Left < (1 : Int))) true (decide ((63 : Int) < t0.Left))) true (decide (t0.Right < (1 : Int)))) true (decide ((63 : Int) < t0.Right)))) = true, (!(cond (cond (cond (decide (t0.Left < (1 : Int))) true (decide ((63 : Int) < t0.Left))) true (decide (t0.Right < (1 : Int)))) true (decide ((63 : Int) < t0.Right)))) = true → (!(cond (cond (cond (decide (t0.Left < (1 : Int))) true (decide ((63 : Int) < t0.Left))) true (decide (t0.Right < (1 : Int)))) true (decide ((63 : Int) < t0.Right)))) = true, (cond (cond (cond (decide (t0.Left < (1 : Int))) true (decide ((63 : Int) < t0.Left))) true (decide (t0.Right < (1 : Int)))) true (decide ((63 : Int) < t0.Right))) = false → (!(cond (cond (cond (decide (t0.Left < (1 : Int))) true (decide ((63 : Int) < t0.Left))) true (decide (t0.Right < (1 : Int)))) true (decide ((63 : Int) < t0.Right)))) = true, (!(cond (cond (cond (cond (decide (t0.Left < (1 : Int))) true (decide ((63 : Int) < t0.Left))) true (decide (t0.Right < (1 : Int)))) true (decide ((63 : Int) < t0.Right))) true (decide (t0.From < (0 : Int))))) = true → (!(cond (cond (cond (cond (decide (t0.Left < (1 : Int))) true (decide ((63 : Int) < t0.Left))) true (decide (t0.Right < (1 : Int)))) true (decide ((63 : Int) < t0.Right))) true (decide (t0.From < (0 : Int))))) = true, (!(cond (cond (cond (cond (decide (t0.Left < (1 : Int))) true (decide ((63 : Int) < t0.Left))) true (decide (t0.Right < (1 : Int)))) true (decide ((63 : Int) < t0.Right))) true (decide (t0.From < (0 : Int))))) = true → (!(cond (cond (cond (cond (decide (t0.Left < (1 : Int))) true (decide ((63 : Int) < t0.Left))) true (decide (t0.Right < (1 : Int)))) true (decide ((63 : Int) < t0.Right))) true (decide (t0.From < (0 : Int))))) = true, (!(cond (cond (cond (cond (decide (t0.Left < (1 : Int))) true (decide ((63 : Int) < t0.Left))) true (decide (t0.Right < (1 : Int)))) true (decide ((63 : Int) < t0.Right))) true (decide (t0.From < (0 : Int))))) = true → (!(cond (cond (cond (cond (decide (t0.Left < (1 : Int))) true (decide ((63 : Int) < t0.Left))) true (decide (t0.Right < (1 : Int)))) true (decide ((63 : Int) < t0.Right))) true (decide (t0.From < (0 : Int))))) = true, (cond (cond (cond (cond (decide (t0.Left < (1 : Int))) true (decide ((63 : Int) < t0.Left))) true (decide (t0.Right < (1 : Int)))) true (decide ((63 : Int) < t0.Right))) true (decide (t0.From < (0 : Int)))) = false → (!(cond (cond (cond (cond (decide (t0.Left < (1 : Int))) true (decide ((63 : Int) < t0.Left))) true (decide (t0.Right < (1 : Int)))) true (decide ((63 : Int) < t0.Right))) true (decide (t0.From < (0 : Int))))) = true, (!(cond (cond (cond (cond (cond (decide (t0.Left < (1 : Int))) true (decide ((63 : Int) < t0.Left))) true (decide (t0.Right < (1 : Int)))) true (decide ((63 : Int) < t0.Right))) true (decide (t0.From < (0 : Int)))) true (decide (t1 ≤ t0.From)))) = true → (!(cond (cond (cond (cond (cond (decide (t0.Left < (1 : Int))) true (decide ((63 : Int) < t0.Left))) true (decide (t0.Right < (1 : Int)))) true (decide ((63 : Int) < t0.Right))) true (decide (t0.From < (0 : Int)))) true (decide (t1 ≤ t0.From)))) = true, (!(cond (cond (cond (cond (cond (decide (t0.Left < (1 : Int))) true (decide ((63 : Int) < t0.Left))) true (decide (t0.Right < (1 : Int)))) true (decide ((63 : Int) < t0.Right))) true (decide (t0.From < (0 : Int)))) true (decide (t1 ≤ t0.From)))) = true → (!(cond (cond (cond (cond (cond (decide (t0.Left < (1 : Int))) true (decide ((63 : Int) < t0.Left))) true (decide (t0.Right < (1 : Int)))) true (decide ((63 : Int) < t0.Right))) true (decide (t0.From < (0 : Int)))) true (decide (t1 ≤ t0.From)))) = true, (cond (cond (cond (cond (cond (decide (t0.Left < (1 : Int))) true (decide ((63 : Int) < t0.Left))) true (decide (t0.Right < (1 : Int)))) true (decide ((63 : Int) < t0.Right))) true (decide (t0.From < (0 : Int)))) true (decide (t1 ≤ t0.From))) = false → (!(cond (cond (cond (cond (cond (decide (t0.Left < (1 : Int))) true (decide ((63 : Int) < t0.Left))) true (decide (t0.Right < (1 : Int)))) true (decide ((63 : Int) < t0.Right))) true (decide (t0.From < (0 : Int)))) true (decide (t1 ≤ t0.From)))) = true, (!(cond (cond (cond (cond (cond (cond (decide (t0.Left < (1 : Int))) true (decide ((63 : Int) < t0.Left))) true (decide (t0.Right < (1 : Int)))) true (decide ((63 : Int) < t0.Right))) true (decide (t0.From < (0 : Int)))) true (decide (t1 ≤ t0.From))) true (decide (t0.To < (0 : Int))))) = true → (!(cond (cond (cond (cond (cond (cond (decide (t0.Left < (1 : Int))) true (decide ((63 : Int) < t0.Left))) true (decide (t0.Right < (1 : Int)))) true (decide ((63 : Int) < t0.Right))) true (decide (t0.From < (0 : Int)))) true (decide (t1 ≤ t0.From))) true (decide (t0.To < (0 : Int))))) = true, (!(cond (cond (cond (cond (cond (cond (decide (t0.Left < (1 : Int))) true (decide ((63 : Int) < t0.Left))) true (decide (t0.Right < (1 : Int)))) true (decide ((63 : Int) < t0.Right))) true (decide (t0.From < (0 : Int)))) true (decide (t1 ≤ t0.From))) true (decide (t0.To < (0 : Int))))) = true → (!(cond (cond (cond (cond (cond (cond (decide (t0.Left < (1 : Int))) true (decide ((63 : Int) < t0.Left))) true (decide (t0.Right < (1 : Int)))) true (decide ((63 : Int) < t0.Right))) true (decide (t0.From < (0 : Int)))) true (decide (t1 ≤ t0.From))) true (decide (t0.To < (0 : Int))))) = true, (!(cond (cond (cond (cond (cond (cond (decide (t0.Left < (1 : Int))) true (decide ((63 : Int) < t0.Left))) true (decide (t0.Right < (1 : Int)))) true (decide ((63 : Int) < t0.Right))) true (decide (t0.From < (0 : Int)))) true (decide (t1 ≤ t0.From))) true (decide (t0.To < (0 : Int))))) = true → (!(cond (cond (cond (cond (cond (cond (decide (t0.Left < (1 : Int))) true (decide ((63 : Int) < t0.Left))) true (decide (t0.Right < (1 : Int)))) true (decide ((63 : Int) < t0.Right))) true (decide (t0.From < (0 : Int)))) true (decide (t1 ≤ t0.From))) true (decide (t0.To < (0 : Int))))) = true, (cond (cond (cond (cond (cond (cond (decide (t0.Left < (1 : Int))) true (decide ((63 : Int) < t0.Left))) true (decide (t0.Right < (1 : Int)))) true (decide ((63 : Int) < t0.Right))) true (decide (t0.From < (0 : Int)))) true (decide (t1 ≤ t0.From))) true (decide (t0.To < (0 : Int)))) = false → (!(cond (cond (cond (cond (cond (cond (decide (t0.Left < (1 : Int))) true (decide ((63 : Int) < t0.Left))) true (decide (t0.Right < (1 : Int)))) true (decide ((63 : Int) < t0.Right))) true (decide (t0.From < (0 : Int)))) true (decide (t1 ≤ t0.From))) true (decide (t0.To < (0 : Int))))) = true] [(70, .bool (cond (cond (cond (cond (cond (cond (cond (decide (t0.Left < (1 : Int))) true (decide ((63 : Int) < t0.Left))) true (decide (t0.Right < (1 : Int)))) true (decide ((63 : Int) < t0.Right))) true (decide (t0.From < (0 : Int)))) true (decide (t1 ≤ t0.From))) true (decide (t0.To < (0 : Int)))) true (decide (t1 ≤ t0.To)))), (2, .ref 2 0 0)] (by kernel_rfl) ⟨(fun h => h), (fun h => h), (fun h => by first | exact h | simpa using h), (fun h => h), (fun h => h), (fun h => by first | exact h | simpa using h), (fun h => h), (fun h => h), (fun h => by first | exact h | simpa using h), (fun h => h), (fun h => h), (fun h => by first | exact h | simpa using h), (fun h => h), (fun h => h), (fun h => h), (fun h => by first | exact h | simpa using h), (fun h => h), (fun h => h), (fun h => by first | exact h | simpa using h), (fun h => h), (fun h => h), (fun h => h), (fun h => by first | exact h | simpa using h), trivial⟩ ?_
    refine OpsW.nil ?_
    refine AW.cond (b := cond (cond (cond (cond (cond (cond (cond (decide (t0.Left < (1 : Int))) true (decide ((63 : Int) < t0.Left))) true (decide (t0.Right < (1 : Int)))) true (decide ((63 : Int) < t0.Right))) true (decide (t0.From < (0 : Int)))) true (decide (t1 ≤ t0.From))) true (decide (t0.To < (0 : Int)))) true (decide (t1 ≤ t0.To))) rfl (fun c3 => ?_) (fun c3 => ?_)
    · replace H := condT c3 H
      refine AW.regionSeq ?_
      refine OpsW.seg 1 [4] [] [(4, .bool false)] (by kernel_rfl) trivial ?_
      refine OpsW.nil ?_
      obtain rfl := Option.some.inj H
      refine AW.recast (env' := [(4, .bool false)]) (h' := []) (StC.pure (.cons .im .nil)) ?_
      refine AW.ret ?_
      try simp only [Ex.then, Ex.inBlock, Ex.noGoto, Ex.jump, reduceIte, Nat.reduceEqDiff, reduceCtorEq]
      refine Done.gen rfl (.tmp .nil) ?_
      show _ = _
      kernel_rfl
    · replace H := condF c3 H
      refine AW.skip ?_
      refine AW.regionSeq ?_
      refine OpsW.seg 2 [6, 5, 2] [] [(6, .bool false), (5, .bool false), (2, .ref 2 0 0)] (by kernel_rfl) trivial ?_
      refine OpsW.nil ?_
      refine AW.seq ?_
      refine AW.regionSeq ?_
      refine OpsW.seg 1 [7, 6, 5, 2] [] [(7, .int .i64 0), (6, .bool false), (5, .bool false), (2, .ref 2 0 0)] (by kernel_rfl) trivial ?_
      refine OpsW.nil ?_
      refine AW.block ?_
      refine AW.iterK (fun loop (s : Bool × Int) => f_R02_Sound_b2 t0 loop s.1 s.2) r (fun (s : Bool × Int) => [(2, .ref 2 0 0), (5, .bool s.1), (6, .bool false), (7, .int .i64 s.2)]) (fun (s : Bool × Int) => [(2, ⟨0, true, 36, 6, [.string t0.Print, slA (eI .u8) t0.Cells, .int .u8 t0.Left, .int .u8 t0.Right, .int .i64 t0.From, .int .i64 t0.To]⟩)]) ?_ 1000000 (false, (0 : Int)) H (StC.mk (phi [(2, some 2)]) (.old rfl rfl rfl rfl rfl (.cons .im (.cons .im (.cons .im (.cons .im (.cons .im (.cons .im .nil)))))) .nil) rfl (.cons (.ref rfl rfl rfl rfl rfl) (.cons .im (.cons .im (.cons .im .nil)))))
      intro loop6 s H
      obtain ⟨v4, v5⟩ := s
      change f_R02_Sound_b2 t0 loop6 v4 v5 = some r at H
      unfold f_R02_Sound_b2 at H
      change AW _ _ _ [(2, .ref 2 0 0), (5, .bool v4), (6, .bool false), (7, .int .i64 v5)] [(2, ⟨0, true, 36, 6, [.string t0.Print, slA (eI .u8) t0.Cells, .int .u8 t0.Left, .int .u8 t0.Right, .int .i64 t0.From, .int .i64 t0.To]⟩)] _
      refine AW.seq ?_
      refine AW.regionSeq ?_
      refine OpsW.seg 5 [75, 2, 5, 6, 7] [] [(75, .bool (decide (v5 < (t0.Print.size : Int)))), (2, .ref 2 0 0), (5, .bool v4), (6, .bool false), (7, .int .i64 v5)] (by kernel_rfl) trivial ?_
      refine OpsW.nil ?_
      refine AW.cond (b := decide (v5 < (t0.Print.size : Int))) rfl (fun c7 => ?_) (fun c7 => ?_)
      · replace H := condT c7 H
        refine AW.skip ?_
        refine AW.seq ?_
        refine AW.block ?_
        refine AW.region ?_
        obtain ⟨g8, H⟩ := G_some H
        refine OpsW.seg 6 [83, 79, 2, 5, 6, 7] [(!v4) = true → (!v4) = true, (!v4) = true → (!v4) = true, (!v4) = true → (!v4) = true, (!v4) = true → (0 ≤ v5 ∧ v5 < (t0.Print.size : Int))] [(83, .cnd (!v4) (.int .u8 (bAt t0.Print v5))), (79, .bool v4), (2, .ref 2 0 0), (5, .bool v4), (6, .bool false), (7, .int .i64 v5)] (by kernel_rfl) ⟨(fun h => h), (fun h => h), (fun h => h), g8, trivial⟩ ?_
        obtain ⟨x9, hx9, H⟩ := bindS H
        refine OpsW.gcall (c := !v4) (r := .bool x9) [] rfl (by kernel_rfl) rfl rfl rfl rfl (fun hc => ⟨glAll_sound ⟨hc, trivial⟩, (.cons (.pur rfl) .nil), f_R02_Space_ok (condT hc hx9), .inl ⟨rfl, rfl⟩⟩) ?_
        refine OpsW.seg 2 [5, 2, 6, 7] [v4 = false → (!v4) = true] [(5, .bool (cond v4 true x9)), (2, .ref 2 0 0), (6, .bool false), (7, .int .i64 v5)] (by kernel_rfl) ⟨(fun h => by first | exact h | simpa using h), trivial⟩ ?_
        refine OpsW.nil ?_
        refine AW.region ?_
        obtain ⟨g10, H⟩ := G_some H
        refine OpsW.seg 3 [7, 5, 2, 6] [inR (v5 + (1 : Int))] [(7, .int .i64 (v5 + (1 : Int))), (5, .bool (cond v4 true x9)), (2, .ref 2 0 0), (6, .bool false)] (by kernel_rfl) ⟨g10, trivial⟩ ?_
        refine OpsW.nil ?_
        show ∃ y, _ ∧ StC _ _ _ _
        exact ⟨(cond v4 true x9, v5 + (1 : Int)), H, (StC.mk (phi [(2, some 2)]) (.old rfl rfl rfl rfl rfl (.cons .im (.cons .im (.cons .im (.cons .im (.cons .im (.cons .im .nil)))))) .nil) rfl (.cons (.ref rfl rfl rfl rfl rfl) (.cons .im (.cons .im (.cons .im .nil)))))⟩
      · replace H := condF c7 H
        refine AW.exit ?_
        refine AW.seq ?_
        refine AW.regionSeq ?_
        refine OpsW.seg 1 [8, 2, 5, 6] [] [(8, .int .i64 0), (2, .ref 2 0 0), (5, .bool v4), (6, .bool false)] (by kernel_rfl) trivial ?_
        refine OpsW.nil ?_
        refine AW.block ?_
        refine AW.iterK (fun loop (s : Bool × Int) => f_R02_Sound_b1 t0 v4 loop s.1 s.2) r (fun (s : Bool × Int) => [(2, .ref 2 0 0), (5, .bool v4), (6, .bool s.1), (8, .int .i64 s.2)]) (fun (s : Bool × Int) => [(2, ⟨0, true, 36, 6, [.string t0.Print, slA (eI .u8) t0.Cells, .int .u8 t0.Left, .int .u8 t0.Right, .int .i64 t0.From, .int .i64 t0.To]⟩)]) ?_ 1000000 (false, (0 : Int)) H (StC.mk (phi [(2, some 2)]) (.old rfl rfl rfl rfl rfl (.cons .im (.cons .im (.cons .im (.cons .im (.cons .im (.cons .im .nil)))))) .nil) rfl (.cons (.ref rfl rfl rfl rfl rfl) (.cons .im (.cons .im (.cons .im .nil)))))
        intro loop13 s H
        obtain ⟨v11, v12⟩ := s
        change f_R02_Sound_b1 t0 v4 loop13 v11 v12 = some r at H
        unfold f_R02_Sound_b1 at H
        change AW _ _ _ [(2, .ref 2 0 0), (5, .bool v4), (6, .bool v11), (8, .int .i64 v12)] [(2, ⟨0, true, 36, 6, [.string t0.Print, slA (eI .u8) t0.Cells, .int .u8 t0.Left, .int .u8 t0.Right, .int .i64 t0.From, .int .i64 t0.To]⟩)] _
        refine AW.seq ?_
        refine AW.regionSeq ?_
        refine OpsW.seg 5 [90, 2, 5, 6, 8] [] [(90, .bool (decide (v12 < (t0.Cells.length : Int)))), (2, .ref 2 0 0), (5, .bool v4), (6, .bool v11), (8, .int .i64 v12)] (by kernel_rfl) trivial ?_
        refine OpsW.nil ?_
        refine AW.cond (b := decide (v12 < (t0.Cells.length : Int))) rfl (fun c14 => ?_) (fun c14 => ?_)
        · replace H := condT c14 H
          refine AW.skip ?_
          refine AW.seq ?_
          refine AW.block ?_
          refine AW.seq ?_
          refine AW.regionSeq ?_
          obtain ⟨g15, H⟩ := G_some H
          refine OpsW.seg 4 [96, 2, 5, 6, 8] [0 ≤ v12 ∧ v12 < (t0.Cells.length : Int)] [(96, .ipt (t0.Cells.flatMap (eI .u8)) (v12.toNat * 1)), (2, .ref 2 0 0), (5, .bool v4), (6, .bool v11), (8, .int .i64 v12)] (by kernel_rfl) ⟨g15, trivial⟩ ?_
          refine OpsW.asU (.int .u8 (t0.Cells.getD v12.toNat (0 : Int))) rfl rfl (T.load rfl trivial (by kernel_rfl) (fm_cell0 (eI .u8) 1 (fun _ => rfl) t0.Cells (0 : Int) v12.toNat (ltN g15) (fun a => .val (.int .u8 a)) (fun _ => rfl))) ?_
          refine OpsW.seg 1 [98, 2, 5, 6, 8] [] [(98, .bool (decide ((63 : Int) ≤ (t0.Cells.getD v12.toNat (0 : Int))))), (2, .ref 2 0 0), (5, .bool v4), (6, .bool v11), (8, .int .i64 v12)] (by kernel_rfl) trivial ?_
          refine OpsW.nil ?_
          refine AW.cond (b := decide ((63 : Int) ≤ (t0.Cells.getD v12.toNat (0 : Int)))) rfl (fun c16 => ?_) (fun c16 => ?_)
          · replace H := condT c16 H
            refine AW.regionSeq ?_
            refine OpsW.seg 1 [4] [] [(4, .bool false)] (by kernel_rfl) trivial ?_
            refine OpsW.nil ?_
            obtain rfl := Option.some.inj H
            refine AW.recast (env' := [(4, .bool false)]) (h' := []) (StC.pure (.cons .im .nil)) ?_
            refine AW.ret ?_
            try simp only [Ex.then, Ex.inBlock, Ex.noGoto, Ex.jump, reduceIte, Nat.reduceEqDiff, reduceCtorEq]
            refine Done.gen rfl (.tmp .nil) ?_
            show _ = _
            kernel_rfl
          · replace H := condF c16 H
            refine AW.skip ?_
            refine AW.region ?_
            refine OpsW.seg 6 [104, 100, 2, 5, 6, 8] [(!v11) = true → (!v11) = true, (!v11) = true → (!v11) = true, (!v11) = true → (!v11) = true, (!v11) = true → (0 ≤ v12 ∧ v12 < (t0.Cells.length : Int))] [(104, .cnd (!v11) (.ipt (t0.Cells.flatMap (eI .u8)) (v12.toNat * 1))), (100, .bool v11), (2, .ref 2 0 0), (5, .bool v4), (6, .bool v11), (8, .int .i64 v12)] (by kernel_rfl) ⟨(fun h => h), (fun h => h), (fun h => h), (fun _ => g15), trivial⟩ ?_
            refine OpsW.asG (c := !v11) (.int .u8 (t0.Cells.getD v12.toNat (0 : Int))) rfl rfl rfl rfl (fun hc => T.load rfl hc (by kernel_rfl) (fm_cell0 (eI .u8) 1 (fun _ => rfl) t0.Cells (0 : Int) v12.toNat (ltN g15) (fun a => .val (.int .u8 a)) (fun _ => rfl))) ?_
            refine OpsW.seg 3 [6, 2, 5, 8] [(!v11) = true → (!v11) = true, v11 = false → (!v11) = true] [(6, .bool (cond v11 true ((t0.Cells.getD v12.toNat (0 : Int)) == (0 : Int)))), (2, .ref 2 0 0), (5, .bool v4), (8, .int .i64 v12)] (by kernel_rfl) ⟨(fun h => h), (fun h => by first | exact h | simpa using h), trivial⟩ ?_
            refine OpsW.nil ?_
            refine AW.region ?_
            obtain ⟨g17, H⟩ := G_some H
            refine OpsW.seg 3 [8, 6, 2, 5] [inR (v12 + (1 : Int))] [(8, .int .i64 (v12 + (1 : Int))), (6, .bool (cond v11 true ((t0.Cells.getD v12.toNat (0 : Int)) == (0 : Int)))), (2, .ref 2 0 0), (5, .bool v4)] (by kernel_rfl) ⟨g17, trivial⟩ ?_
            refine OpsW.nil ?_
            show ∃ y, _ ∧ StC _ _ _ _
            exact ⟨(cond v11 true ((t0.Cells.getD v12.toNat (0 : Int)) == (0 : Int)), v12 + (1 : Int)), H, (StC.mk (phi [(2, some 2)]) (.old rfl rfl rfl rfl rfl (.cons .im (.cons .im (.cons .im (.cons .im (.cons .im (.cons .im .nil)))))) .nil) rfl (.cons (.ref rfl rfl rfl rfl rfl) (.cons .im (.cons .im (.cons .im .nil)))))⟩
        · replace H := condF c14 H
          refine AW.exit ?_
          refine AW.seq ?_
          refine AW.regionSeq ?_
          refine OpsW.seg 2 [109, 2, 6] [] [(109, .bool (!v4)), (2, .ref 2 0 0), (6, .bool v11)] (by kernel_rfl) trivial ?_
          refine OpsW.nil ?_
          refine AW.cond (b := !v4) rfl (fun c18 => ?_) (fun c18 => ?_)
          · replace H := condT c18 H
            refine AW.regionSeq ?_
            refine OpsW.seg 3 [4] [] [(4, .bool (!v11))] (by kernel_rfl) trivial ?_
            refine OpsW.nil ?_
            obtain rfl := Option.some.inj H
            refine AW.recast (env' := [(4, .bool (!v11))]) (h' := []) (StC.pure (.cons .im .nil)) ?_
            refine AW.ret ?_
            try simp only [Ex.then, Ex.inBlock, Ex.noGoto, Ex.jump, reduceIte, Nat.reduceEqDiff, reduceCtorEq]
            refine Done.gen rfl (.tmp .nil) ?_
            show _ = _
            kernel_rfl
          · replace H := condF c18 H
            refine AW.skip ?_
            refine AW.regionSeq ?_
            refine OpsW.seg 14 [4] [((t0.Print.size : Int) == (1 : Int)) = true → ((t0.Print.size : Int) == (1 : Int)) = true, ((t0.Print.size : Int) == (1 : Int)) = true → ((t0.Print.size : Int) == (1 : Int)) = true, ((t0.Print.size : Int) == (1 : Int)) = true → ((t0.Print.size : Int) == (1 : Int)) = true, ((t0.Print.size : Int) == (1 : Int)) = true → ((t0.Print.size : Int) == (1 : Int)) = true, (cond ((t0.Print.size : Int) == (1 : Int)) ((t0.Cells.length : Int) == (1 : Int)) false) = true → (cond ((t0.Print.size : Int) == (1 : Int)) ((t0.Cells.length : Int) == (1 : Int)) false) = true] [(4, .bool (cond (cond ((t0.Print.size : Int) == (1 : Int)) ((t0.Cells.length : Int) == (1 : Int)) false) v11 false))] (by kernel_rfl) ⟨(fun h => h), (fun h => h), (fun h => h), (fun h => by first | exact h | simpa using h), (fun h => by first | exact h | simpa using h), trivial⟩ ?_
            refine OpsW.nil ?_
            obtain rfl := Option.some.inj H
            refine AW.recast (env' := [(4, .bool (cond (cond ((t0.Print.size : Int) == (1 : Int)) ((t0.Cells.length : Int) == (1 : Int)) false) v11 false))]) (h' := []) (StC.pure (.cons .im .nil)) ?_
            refine AW.ret ?_
            try simp only [Ex.then, Ex.inBlock, Ex.noGoto, Ex.jump, reduceIte, Nat.reduceEqDiff, reduceCtorEq]
            refine Done.gen rfl (.tmp .nil) ?_
            show _ = _
            kernel_rfl
def f_R02_SameCells_b1 (t0 : List Int) (t1 : List Int) (loop3 : (Int) → Option Bool) (v2 : Int) : Option Bool :=
  cond (decide (v2 < (t0.length : Int))) (
    G (0 ≤ v2 ∧ v2 < (t0.length : Int)) <|
    G (0 ≤ v2 ∧ v2 < (t1.length : Int)) <|
    cond ((t0.getD v2.toNat (0 : Int)) != (t1.getD v2.toNat (0 : Int))) (
      some false) (
      G (inR (v2 + (1 : Int))) <|
      loop3 (v2 + (1 : Int)))) (
    some true)
def f_R02_SameCells (t0 : List Int) (t1 : List Int) : Option Bool :=
  cond ((t0.length : Int) != (t1.length : Int)) (
    some false) (
    iter (fun loop (s : Int) => f_R02_SameCells_b1 t0 t1 loop s) 1000000 (0 : Int))
theorem f_R02_SameCells_ok  {t0 : List Int} {t1 : List Int} {r : Bool} (H : f_R02_SameCells t0 t1 = some r) : QSpec Tryd.prog 36 [slA (eI .u8) t0, slA (eI .u8) t1] (.bool r) := by
  refine Spec.of_AW Tryd.func36 rfl (by simp [Tryd.ntmps36]) ?_
  rw [Tryd.ntmps36]
  unfold f_R02_SameCells at H
  change AW _ _ _ [(0, slA (eI .u8) t0), (1, slA (eI .u8) t1)] [] _
  refine AW.regionSeq ?_
  refine OpsW.seg 1 [0, 1] [] [(0, slA (eI .u8) t0), (1, slA (eI .u8) t1)] (by kernel_rfl) trivial ?_
  refine OpsW.nil ?_
  refine AW.seq ?_
  refine AW.regionSeq ?_
  refine OpsW.seg 5 [10, 0, 1] [] [(10, .bool ((t0.length : Int) != (t1.length : Int))), (0, slA (eI .u8) t0), (1, slA (eI .u8) t1)] (by kernel_rfl) trivial ?_
  refine OpsW.nil ?_
  refine AW.cond (b := (t0.length : Int) != (t1.length : Int)) rfl (fun c1 => ?_) (fun c1 => ?_)
  · replace H := condT c1 H
    refine AW.regionSeq ?_
    refine OpsW.seg 1 [4] [] [(4, .bool false)] (by kernel_rfl) trivial ?_
    refine OpsW.nil ?_
    obtain rfl := Option.some.inj H
    refine AW.recast (env' := [(4, .bool false)]) (h' := []) (StC.pure (.cons .im .nil)) ?_
    refine AW.ret ?_
    try simp only [Ex.then, Ex.inBlock, Ex.noGoto, Ex.jump, reduceIte, Nat.reduceEqDiff, reduceCtorEq]
    refine Done.gen rfl (.tmp .nil) ?_
    show _ = _
    kernel_rfl
  · replace H := condF c1 H
    refine AW.skip ?_
    refine AW.seq ?_
    refine AW.regionSeq ?_
    refine OpsW.seg 1 [5, 0, 1] [] [(5, .int .i64 0), (0, slA (eI .u8) t0), (1, slA (eI .u8) t1)] (by kernel_rfl) trivial ?_
    refine OpsW.nil ?_
    refine AW.block ?_
    refine AW.iterK (fun loop (s : Int) => f_R02_SameCells_b1 t0 t1 loop s) r (fun (s : Int) => [(0, slA (eI .u8) t0), (1, slA (eI .u8) t1), (5, .int .i64 s)]) (fun (s : Int) => []) ?_ 1000000 (0 : Int) H (StC.pure (.cons .im (.cons .im (.cons .im .nil))))
    intro loop3 v2 H
    change f_R02_SameCells_b1 t0 t1 loop3 v2 = some r at H
    unfold f_R02_SameCells_b1 at H
    change AW _ _ _ [(0, slA (eI .u8) t0), (1, slA (eI .u8) t1), (5, .int .i64 v2)] [] _
    refine AW.seq ?_
    refine AW.regionSeq ?_
    refine OpsW.seg 4 [14, 0, 1, 5] [] [(14, .bool (decide (v2 < (t0.length : Int)))), (0, slA (eI .u8) t0), (1, slA (eI .u8) t1), (5, .int .i64 v2)] (by kernel_rfl) trivial ?_
    refine OpsW.nil ?_
    refine AW.cond (b := decide (v2 < (t0.length : Int))) rfl (fun c4 => ?_) (fun c4 => ?_)
    · replace H := condT c4 H
      refine AW.skip ?_
      refine AW.seq ?_
      refine AW.block ?_
      refine AW.drawSeq Tryd.checked.mixed (by kernel_rfl) ?_
      obtain ⟨g5, H⟩ := G_some H
      refine QOps.seg (N := 26) 3 [0 ≤ v2 ∧ v2 < (t0.length : Int)] [(19, .ipt (t0.flatMap (eI .u8)) (v2.toNat * 1)), (18, .int .i64 v2), (17, slA (eI .u8) t0), (14, .bool (decide (v2 < (t0.length : Int)))), (0, slA (eI .u8) t0), (1, slA (eI .u8) t1), (5, .int .i64 v2)] (by kernel_rfl) ⟨g5, trivial⟩ ?_
      refine QOps.asU (.int .u8 (t0.getD v2.toNat (0 : Int))) rfl (T.load rfl trivial (by kernel_rfl) (fm_cell0 (eI .u8) 1 (fun _ => rfl) t0 (0 : Int) v2.toNat (ltN g5) (fun a => .val (.int .u8 a)) (fun _ => rfl))) ?_
      obtain ⟨g6, H⟩ := G_some H
      refine QOps.seg (N := 26) 3 [0 ≤ v2 ∧ v2 < (t1.length : Int)] [(23, .ipt (t1.flatMap (eI .u8)) (v2.toNat * 1)), (22, .int .i64 v2), (21, slA (eI .u8) t1), (20, .int .u8 (t0.getD v2.toNat (0 : Int))), (19, .ipt (t0.flatMap (eI .u8)) (v2.toNat * 1)), (18, .int .i64 v2), (17, slA (eI .u8) t0), (14, .bool (decide (v2 < (t0.length : Int)))), (0, slA (eI .u8) t0), (1, slA (eI .u8) t1), (5, .int .i64 v2)] (by kernel_rfl) ⟨g6, trivial⟩ ?_
      refine QOps.asU (.int .u8 (t1.getD v2.toNat (0 : Int))) rfl (T.load rfl trivial (by kernel_rfl) (fm_cell0 (eI .u8) 1 (fun _ => rfl) t1 (0 : Int) v2.toNat (ltN g6) (fun a => .val (.int .u8 a)) (fun _ => rfl))) ?_
      refine QOps.seg (N := 26) 1 [] [(25, .bool ((t0.getD v2.toNat (0 : Int)) != (t1.getD v2.toNat (0 : Int)))), (24, .int .u8 (t1.getD v2.toNat (0 : Int))), (23, .ipt (t1.flatMap (eI .u8)) (v2.toNat * 1)), (22, .int .i64 v2), (21, slA (eI .u8) t1), (20, .int .u8 (t0.getD v2.toNat (0 : Int))), (19, .ipt (t0.flatMap (eI .u8)) (v2.toNat * 1)), (18, .int .i64 v2), (17, slA (eI .u8) t0), (14, .bool (decide (v2 < (t0.length : Int)))), (0, slA (eI .u8) t0), (1, slA (eI .u8) t1), (5, .int .i64 v2)] (by kernel_rfl) trivial ?_
      refine QOps.nil ?_
      refine AW.trim [25, 0, 1, 5] [(25, .bool ((t0.getD v2.toNat (0 : Int)) != (t1.getD v2.toNat (0 : Int)))), (0, slA (eI .u8) t0), (1, slA (eI .u8) t1), (5, .int .i64 v2)] (by kernel_rfl) ?_
      refine AW.cond (b := (t0.getD v2.toNat (0 : Int)) != (t1.getD v2.toNat (0 : Int))) rfl (fun c7 => ?_) (fun c7 => ?_)
      · replace H := condT c7 H
        refine AW.regionSeq ?_
        refine OpsW.seg 1 [4] [] [(4, .bool false)] (by kernel_rfl) trivial ?_
        refine OpsW.nil ?_
        obtain rfl := Option.some.inj H
        refine AW.recast (env' := [(4, .bool false)]) (h' := []) (StC.pure (.cons .im .nil)) ?_
        refine AW.ret ?_
        try simp only [Ex.then, Ex.inBlock, Ex.noGoto, Ex.jump, reduceIte, Nat.reduceEqDiff, reduceCtorEq]
        refine Done.gen rfl (.tmp .nil) ?_
        show _ = _
        kernel_rfl
      · replace H := condF c7 H
        refine AW.skip ?_
        refine AW.region ?_
        obtain ⟨g8, H⟩ := G_some H
        refine OpsW.seg 3 [5, 0, 1] [inR (v2 + (1 : Int))] [(5, .int .i64 (v2 + (1 : Int))), (0, slA (eI .u8) t0), (1, slA (eI .u8) t1)] (by kernel_rfl) ⟨g8, trivial⟩ ?_
        refine OpsW.nil ?_
        show ∃ y, _ ∧ StC _ _ _ _
        exact ⟨v2 + (1 : Int), H, (StC.pure (.cons .im (.cons .im (.cons .im .nil))))⟩
    · replace H := condF c4 H
      refine AW.exit ?_
      refine AW.regionSeq ?_
      refine OpsW.seg 1 [4] [] [(4, .bool true)] (by kernel_rfl) trivial ?_
      refine OpsW.nil ?_
      obtain rfl := Option.some.inj H
      refine AW.recast (env' := [(4, .bool true)]) (h' := []) (StC.pure (.cons .im .nil)) ?_
      refine AW.ret ?_
      try simp only [Ex.then, Ex.inBlock, Ex.noGoto, Ex.jump, reduceIte, Nat.reduceEqDiff, reduceCtorEq]
      refine Done.gen rfl (.tmp .nil) ?_
      show _ = _
      kernel_rfl
def f_R02_SameRule (t0 : S_Rule) (t1 : S_Rule) : Option Bool :=
  (cond (t0.Print.toList == t1.Print.toList) (f_R02_SameCells t0.Cells t1.Cells) (some false)).bind fun x1 =>
  some (cond (cond (cond (cond (cond (t0.Print.toList == t1.Print.toList) x1 false) (t0.Left == t1.Left) false) (t0.Right == t1.Right) false) (t0.From == t1.From) false) (t0.To == t1.To) false)
theorem f_R02_SameRule_ok  {t0 : S_Rule} {t1 : S_Rule} {r : Bool} (H : f_R02_SameRule t0 t1 = some r) : QSpec Tryd.prog 23 [.agg [.string t0.Print, slA (eI .u8) t0.Cells, .int .u8 t0.Left, .int .u8 t0.Right, .int .i64 t0.From, .int .i64 t0.To], .agg [.string t1.Print, slA (eI .u8) t1.Cells, .int .u8 t1.Left, .int .u8 t1.Right, .int .i64 t1.From, .int .i64 t1.To]] (.bool r) := by
  refine Spec.of_AW Tryd.func23 rfl (by simp [Tryd.ntmps23]) ?_
  rw [Tryd.ntmps23]
  unfold f_R02_SameRule at H
  change AW _ _ _ [(0, .agg [.string t0.Print, slA (eI .u8) t0.Cells, .int .u8 t0.Left, .int .u8 t0.Right, .int .i64 t0.From, .int .i64 t0.To]), (1, .agg [.string t1.Print, slA (eI .u8) t1.Cells, .int .u8 t1.Left, .int .u8 t1.Right, .int .i64 t1.From, .int .i64 t1.To])] [] _
  refine AW.regionSeq ?_
  refine OpsW.box rfl rfl rfl 2 rfl (okCb_sound (by kernel_rfl)) ?_
  change OpsW _ _ _ _ _ [(2, ⟨0, true, 36, 6, [.string t0.Print, slA (eI .u8) t0.Cells, .int .u8 t0.Left, .int .u8 t0.Right, .int .i64 t0.From, .int .i64 t0.To]⟩)] _
  refine OpsW.box rfl rfl rfl 3 rfl (okCb_sound (by kernel_rfl)) ?_
  change OpsW _ _ _ _ _ [(3, ⟨0, true, 36, 6, [.string t1.Print, slA (eI .u8) t1.Cells, .int .u8 t1.Left, .int .u8 t1.Right, .int .i64 t1.From, .int .i64 t1.To]⟩), (2, ⟨0, true, 36, 6, [.string t0.Print, slA (eI .u8) t0.Cells, .int .u8 t0.Left, .int .u8 t0.Right, .int .i64 t0.From, .int .i64 t0.To]⟩)] _
  refine OpsW.seg 1 [3, 2] [] [(3, .ref 3 0 0), (2, .ref 2 0 0)] (by kernel_rfl) trivial ?_
  refine OpsW.recast (env' := [(3, .ref 3 0 0), (2, .ref 2 0 0)]) (h' := [(2, ⟨0, true, 36, 6, [.string t0.Print, slA (eI .u8) t0.Cells, .int .u8 t0.Left, .int .u8 t0.Right, .int .i64 t0.From, .int .i64 t0.To]⟩), (3, ⟨0, true, 36, 6, [.string t1.Print, slA (eI .u8) t1.Cells, .int .u8 t1.Left, .int .u8 t1.Right, .int .i64 t1.From, .int .i64 t1.To]⟩)]) (StC.mk (phi [(2, some 2), (3, some 3)]) (.old rfl rfl rfl rfl rfl (.cons .im (.cons .im (.cons .im (.cons .im (.cons .im (.cons .im .nil)))))) (.old rfl rfl rfl rfl rfl (.cons .im (.cons .im (.cons .im (.cons .im (.cons .im (.cons .im .nil)))))) .nil)) rfl (.cons (.ref rfl rfl rfl rfl rfl) (.cons (.ref rfl rfl rfl rfl rfl) .nil))) ?_
  refine OpsW.nil ?_
  refine AW.regionSeq ?_
  refine OpsW.seg 10 [14, 12, 10, 3, 2] [(t0.Print.toList == t1.Print.toList) = true → (t0.Print.toList == t1.Print.toList) = true, (t0.Print.toList == t1.Print.toList) = true → (t0.Print.toList == t1.Print.toList) = true] [(14, .cnd (t0.Print.toList == t1.Print.toList) (slA (eI .u8) t1.Cells)), (12, .cnd (t0.Print.toList == t1.Print.toList) (slA (eI .u8) t0.Cells)), (10, .bool (t0.Print.toList == t1.Print.toList)), (3, .ref 3 0 0), (2, .ref 2 0 0)] (by kernel_rfl) ⟨(fun h => h), (fun h => h), trivial⟩ ?_
  obtain ⟨x1, hx1, H⟩ := bindS H
  refine OpsW.gcall (c := t0.Print.toList == t1.Print.toList) (r := .bool x1) [] rfl (by kernel_rfl) rfl rfl rfl rfl (fun hc => ⟨glAll_sound ⟨hc, hc, trivial⟩, (.cons (.pur rfl) (.cons (.pur rfl) .nil)), f_R02_SameCells_ok (condT hc hx1), .inl ⟨rfl, rfl⟩⟩) ?_
  refine OpsW.seg 30 [4] [(t0.Print.toList == t1.Print.toList) = true → (t0.Print.toList == t1.Print.toList) = true, (cond (t0.Print.toList == t1.Print.toList) x1 false) = true → (cond (t0.Print.toList == t1.Print.toList) x1 false) = true, (cond (t0.Print.toList == t1.Print.toList) x1 false) = true → (cond (t0.Print.toList == t1.Print.toList) x1 false) = true, (cond (t0.Print.toList == t1.Print.toList) x1 false) = true → (cond (t0.Print.toList == t1.Print.toList) x1 false) = true, (cond (t0.Print.toList == t1.Print.toList) x1 false) = true → (cond (t0.Print.toList == t1.Print.toList) x1 false) = true, (cond (t0.Print.toList == t1.Print.toList) x1 false) = true → (cond (t0.Print.toList == t1.Print.toList) x1 false) = true, (cond (cond (t0.Print.toList == t1.Print.toList) x1 false) (t0.Left == t1.Left) false) = true → (cond (cond (t0.Print.toList == t1.Print.toList) x1 false) (t0.Left == t1.Left) false) = true, (cond (cond (t0.Print.toList == t1.Print.toList) x1 false) (t0.Left == t1.Left) false) = true → (cond (cond (t0.Print.toList == t1.Print.toList) x1 false) (t0.Left == t1.Left) false) = true, (cond (cond (t0.Print.toList == t1.Print.toList) x1 false) (t0.Left == t1.Left) false) = true → (cond (cond (t0.Print.toList == t1.Print.toList) x1 false) (t0.Left == t1.Left) false) = true, (cond (cond (t0.Print.toList == t1.Print.toList) x1 false) (t0.Left == t1.Left) false) = true → (cond (cond (t0.Print.toList == t1.Print.toList) x1 false) (t0.Left == t1.Left) false) = true, (cond (cond (t0.Print.toList == t1.Print.toList) x1 false) (t0.Left == t1.Left) false) = true → (cond (cond (t0.Print.toList == t1.Print.toList) x1 false) (t0.Left == t1.Left) false) = true, (cond (cond (cond (t0.Print.toList == t1.Print.toList) x1 false) (t0.Left == t1.Left) false) (t0.Right == t1.Right) false) = true → (cond (cond (cond (t0.Print.toList == t1.Print.toList) x1 false) (t0.Left == t1.Left) false) (t0.Right == t1.Right) false) = true, (cond (cond (cond (t0.Print.toList == t1.Print.toList) x1 false) (t0.Left == t1.Left) false) (t0.Right == t1.Right) false) = true → (cond (cond (cond (t0.Print.toList == t1.Print.toList) x1 false) (t0.Left == t1.Left) false) (t0.Right == t1.Right) false) = true, (cond (cond (cond (t0.Print.toList == t1.Print.toList) x1 false) (t0.Left == t1.Left) false) (t0.Right == t1.Right) false) = true → (cond (cond (cond (t0.Print.toList == t1.Print.toList) x1 false) (t0.Left == t1.Left) false) (t0.Right == t1.Right) false) = true, (cond (cond (cond (t0.Print.toList == t1.Print.toList) x1 false) (t0.Left == t1.Left) false) (t0.Right == t1.Right) false) = true → (cond (cond (cond (t0.Print.toList == t1.Print.toList) x1 false) (t0.Left == t1.Left) false) (t0.Right == t1.Right) false) = true, (cond (cond (cond (t0.Print.toList == t1.Print.toList) x1 false) (t0.Left == t1.Left) false) (t0.Right == t1.Right) false) = true → (cond (cond (cond (t0.Print.toList == t1.Print.toList) x1 false) (t0.Left == t1.Left) false) (t0.Right == t1.Right) false) = true, (cond (cond (cond (cond (t0.Print.toList == t1.Print.toList) x1 false) (t0.Left == t1.Left) false) (t0.Right == t1.Right) false) (t0.From == t1.From) false) = true → (cond (cond (cond (cond (t0.Print.toList == t1.Print.toList) x1 false) (t0.Left == t1.Left) false) (t0.Right == t1.Right) false) (t0.From == t1.From) false) = true, (cond (cond (cond (cond (t0.Print.toList == t1.Print.toList) x1 false) (t0.Left == t1.Left) false) (t0.Right == t1.Right) false) (t0.From == t1.From) false) = true → (cond (cond (cond (cond (t0.Print.toList == t1.Print.toList) x1 false) (t0.Left == t1.Left) false) (t0.Right == t1.Right) false) (t0.From == t1.From) false) = true, (cond (cond (cond (cond (t0.Print.toList == t1.Print.toList) x1 false) (t0.Left == t1.Left) false) (t0.Right == t1.Right) false) (t0.From == t1.From) false) = true → (cond (cond (cond (cond (t0.Print.toList == t1.Print.toList) x1 false) (t0.Left == t1.Left) false) (t0.Right == t1.Right) false) (t0.From == t1.From) false) = true, (cond (cond (cond (cond (t0.Print.toList == t1.Print.toList) x1 false) (t0.Left == t1.Left) false) (t0.Right == t1.Right) false) (t0.From == t1.From) false) = true → (cond (cond (cond (cond (t0.Print.toList == t1.Print.toList) x1 false) (t0.Left == t1.Left) false) (t0.Right == t1.Right) false) (t0.From == t1.From) false) = true, (cond (cond (cond (cond (t0.Print.toList == t1.Print.toList) x1 false) (t0.Left == t1.Left) false) (t0.Right == t1.Right) false) (t0.From == t1.From) false) = true → (cond (cond (cond (cond (t0.Print.toList == t1.Print.toList) x1 false) (t0.Left == t1.Left) false) (t0.Right == t1.Right) false) (t0.From == t1.From) false) = true] [(4, .bool (cond (cond (cond (cond (cond (t0.Print.toList == t1.Print.toList) x1 false) (t0.Left == t1.Left) false) (t0.Right == t1.Right) false) (t0.From == t1.From) false) (t0.To == t1.To) false))] (by kernel_rfl) ⟨(fun h => by first | exact h | simpa using h), (fun h => h), (fun h => h), (fun h => h), (fun h => h), (fun h => by first | exact h | simpa using h), (fun h => h), (fun h => h), (fun h => h), (fun h => h), (fun h => by first | exact h | simpa using h), (fun h => h), (fun h => h), (fun h => h), (fun h => h), (fun h => by first | exact h | simpa using h), (fun h => h), (fun h => h), (fun h => h), (fun h => h), (fun h => by first | exact h | simpa using h), trivial⟩ ?_
  refine OpsW.nil ?_
  obtain rfl := Option.some.inj H
  refine AW.recast (env' := [(4, .bool (cond (cond (cond (cond (cond (t0.Print.toList == t1.Print.toList) x1 false) (t0.Left == t1.Left) false) (t0.Right == t1.Right) false) (t0.From == t1.From) false) (t0.To == t1.To) false))]) (h' := []) (StC.pure (.cons .im .nil)) ?_
  refine AW.ret ?_
  try simp only [Ex.then, Ex.inBlock, Ex.noGoto, Ex.jump, reduceIte, Nat.reduceEqDiff, reduceCtorEq]
  refine Done.gen rfl (.tmp .nil) ?_
  show _ = _
  kernel_rfl
end Go.Proofs.YtlhpkjgpcenfdaaDoor
