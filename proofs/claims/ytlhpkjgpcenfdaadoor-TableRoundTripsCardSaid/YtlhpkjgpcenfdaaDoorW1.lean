/-
  Written by gen.py (own work): typed functions, and that the program computes them.
-/
import Derived.Test.YtlhpkjgpcenfdaaDoorLibE
import Derived.Test.YtlhpkjgpcenfdaaDoorChecked
import Derived.Test.YtlhpkjgpcenfdaaDoorItoa
import Derived.Test.YtlhpkjgpcenfdaaDoorIdx
set_option linter.unusedSimpArgs false
set_option linter.unusedVariables false
set_option maxRecDepth 100000
namespace Go.Proofs.YtlhpkjgpcenfdaaDoor
open Go.Abs
structure S_Rule where
  Print : ByteArray
  Cells : List Int
  Left : Int
  Right : Int
  From : Int
  To : Int
  deriving DecidableEq
def eS_Rule (x : S_Rule) : List IV := [.val (.string x.Print), .sl (x.Cells.flatMap (eI .u8)) x.Cells.length, .val (.int .u8 x.Left), .val (.int .u8 x.Right), .val (.int .i64 x.From), .val (.int .i64 x.To)]
def zS_Rule : S_Rule := ⟨ByteArray.empty, [], (0 : Int), (0 : Int), (0 : Int), (0 : Int)⟩
structure S_Table where
  Modes : Int
  Accept : Int
  Rules : List S_Rule
  deriving DecidableEq
structure S_RawRule where
  P : List Int
  C : List Int
  L : Int
  R : Int
  W : List Int
  deriving DecidableEq
def eS_RawRule (x : S_RawRule) : List IV := [.sl (x.P.flatMap (eI .u8)) x.P.length, .sl (x.C.flatMap (eI .u8)) x.C.length, .val (.int .u8 x.L), .val (.int .u8 x.R), .val (.int .u8 (x.W.getD 0 (0 : Int))), .val (.int .u8 (x.W.getD 1 (0 : Int)))]
def zS_RawRule : S_RawRule := ⟨[], [], (0 : Int), (0 : Int), (List.replicate 2 (0 : Int))⟩
structure S_Raw where
  Base : Int
  Drop : Int
  More : List S_RawRule
  deriving DecidableEq
def eS_Raw (x : S_Raw) : List IV := [.val (.int .u8 x.Base), .val (.int .u8 x.Drop), .sl (x.More.flatMap eS_RawRule) x.More.length]
structure S_text where
  rest_ : ByteArray
  none_ : Bool
  deriving DecidableEq
structure S_fields where
  text_ : S_text
  wrong_ : Bool
  deriving DecidableEq
theorem E31 : Elem Tryd.prog 31 36 6 64 [.string ⟨#[]⟩, .slice none 0 0, .int .u8 0, .int .u8 0, .int .i64 0, .int .i64 0] := ⟨by kernel_rfl, by kernel_rfl, by kernel_rfl, rfl, rfl, by decide⟩
theorem E34 : Elem Tryd.prog 34 50 1 1 [.int .u8 0] := ⟨by kernel_rfl, by kernel_rfl, by kernel_rfl, rfl, rfl, by decide⟩
theorem E51 : Elem Tryd.prog 51 5 1 1 [.int .u8 0] := ⟨by kernel_rfl, by kernel_rfl, by kernel_rfl, rfl, rfl, by decide⟩
theorem E72 : Elem Tryd.prog 72 3 1 8 [.int .i64 0] := ⟨by kernel_rfl, by kernel_rfl, by kernel_rfl, rfl, rfl, by decide⟩
def f_stringslite_Index (t0 : ByteArray) (t1 : ByteArray) : Option Int :=
  cond (cond ((t1.size : Int) == (0 : Int)) true (t1.toList == t0.toList)) (
    some (0 : Int)) (
    cond ((t1.size : Int) == (1 : Int)) (
      G (0 ≤ (0 : Int) ∧ (0 : Int) < (t1.size : Int)) <|
      (f_IndexByte t0 (bAt t1 (0 : Int))).bind fun x4 =>
      some x4) (
      none))
theorem f_stringslite_Index_ok  {t0 : ByteArray} {t1 : ByteArray} {r : Int} (H : f_stringslite_Index t0 t1 = some r) : QSpec Tryd.prog 65 [.string t0, .string t1] (.int .i64 r) := by
  refine Spec.of_AW Tryd.func65 rfl (by simp [Tryd.ntmps65]) ?_
  rw [Tryd.ntmps65]
  unfold f_stringslite_Index at H
  change AW _ _ _ [(0, .string t0), (1, .string t1)] [] _
  refine AW.regionSeq ?_
  refine OpsW.seg 1 [0, 1] [] [(0, .string t0), (1, .string t1)] (by kernel_rfl) trivial ?_
  refine OpsW.nil ?_
  refine AW.regionSeq ?_
  refine OpsW.seg 3 [5, 0, 1] [] [(5, .int .i64 (t1.size : Int)), (0, .string t0), (1, .string t1)] (by kernel_rfl) trivial ?_
  refine OpsW.nil ?_
  refine AW.seq ?_
  refine AW.block ?_
  refine AW.regionSeq ?_
  refine OpsW.seg 8 [16, 5, 0, 1] [(!((t1.size : Int) == (0 : Int))) = true → (!((t1.size : Int) == (0 : Int))) = true, (!((t1.size : Int) == (0 : Int))) = true → (!((t1.size : Int) == (0 : Int))) = true, ((t1.size : Int) == (0 : Int)) = false → (!((t1.size : Int) == (0 : Int))) = true] [(16, .bool (cond ((t1.size : Int) == (0 : Int)) true (t1.toList == t0.toList))), (5, .int .i64 (t1.size : Int)), (0, .string t0), (1, .string t1)] (by kernel_rfl) ⟨(fun h => h), (fun h => h), (fun h => by first | exact h | simpa using h), trivial⟩ ?_
  refine OpsW.nil ?_
  refine AW.cond (b := cond ((t1.size : Int) == (0 : Int)) true (t1.toList == t0.toList)) rfl (fun c1 => ?_) (fun c1 => ?_)
  · replace H := condT c1 H
    refine AW.regionSeq ?_
    refine OpsW.seg 1 [4] [] [(4, .int .i64 0)] (by kernel_rfl) trivial ?_
    refine OpsW.nil ?_
    obtain rfl := Option.some.inj H
    refine AW.recast (env' := [(4, .int .i64 0)]) (h' := []) (StC.pure (.cons .im .nil)) ?_
    refine AW.ret ?_
    try simp only [Ex.then, Ex.inBlock, Ex.noGoto, Ex.jump, reduceIte, Nat.reduceEqDiff, reduceCtorEq]
    refine Done.gen rfl (.tmp .nil) ?_
    show _ = _
    kernel_rfl
  · replace H := condF c1 H
    refine AW.regionSeq ?_
    refine OpsW.seg 3 [24, 0, 1] [] [(24, .bool ((t1.size : Int) == (1 : Int))), (0, .string t0), (1, .string t1)] (by kernel_rfl) trivial ?_
    refine OpsW.nil ?_
    refine AW.cond (b := (t1.size : Int) == (1 : Int)) rfl (fun c2 => ?_) (fun c2 => ?_)
    · replace H := condT c2 H
      refine AW.regionSeq ?_
      obtain ⟨g3, H⟩ := G_some H
      refine OpsW.seg 3 [29, 27] [0 ≤ (0 : Int) ∧ (0 : Int) < (t1.size : Int)] [(29, .int .u8 (bAt t1 (0 : Int))), (27, .string t0)] (by kernel_rfl) ⟨g3, trivial⟩ ?_
      obtain ⟨x4, hx4, H⟩ := bindS H
      refine OpsW.qcall rfl (by kernel_rfl) rfl rfl (glAll_sound trivial) (.cons (.pur rfl) (.cons (.pur rfl) .nil)) (f_IndexByte_ok hx4) rfl ?_
      refine OpsW.seg 1 [4] [] [(4, .int .i64 x4)] (by kernel_rfl) trivial ?_
      refine OpsW.nil ?_
      obtain rfl := Option.some.inj H
      refine AW.recast (env' := [(4, .int .i64 x4)]) (h' := []) (StC.pure (.cons .im .nil)) ?_
      refine AW.ret ?_
      try simp only [Ex.then, Ex.inBlock, Ex.noGoto, Ex.jump, reduceIte, Nat.reduceEqDiff, reduceCtorEq]
      refine Done.gen rfl (.tmp .nil) ?_
      show _ = _
      kernel_rfl
    · replace H := condF c2 H
      cases H
def f_stringslite_Cut (t0 : ByteArray) (t1 : ByteArray) : Option (ByteArray × ByteArray × Bool) :=
  (f_stringslite_Index t0 t1).bind fun x1 =>
  cond (decide ((0 : Int) ≤ x1)) (
    G (0 ≤ x1 ∧ x1 ≤ (t0.size : Int)) <|
    G (inR (x1 + (t1.size : Int))) <|
    G (0 ≤ (x1 + (t1.size : Int)) ∧ (x1 + (t1.size : Int)) ≤ (t0.size : Int)) <|
    some (t0.extract 0 x1.toNat, t0.extract ((x1 + (t1.size : Int)).toNat) t0.size, true)) (
    some (t0, (⟨#[]⟩ : ByteArray), false))
theorem f_stringslite_Cut_ok  {t0 : ByteArray} {t1 : ByteArray} {r : ByteArray × ByteArray × Bool} (H : f_stringslite_Cut t0 t1 = some r) : QSpec Tryd.prog 56 [.string t0, .string t1] (.tup [.string r.1, .string r.2.1, .bool r.2.2]) := by
  refine Spec.of_AW Tryd.func56 rfl (by simp [Tryd.ntmps56]) ?_
  rw [Tryd.ntmps56]
  unfold f_stringslite_Cut at H
  change AW _ _ _ [(0, .string t0), (1, .string t1)] [] _
  refine AW.regionSeq ?_
  refine OpsW.seg 3 [0, 1] [] [(0, .string t0), (1, .string t1)] (by kernel_rfl) trivial ?_
  refine OpsW.nil ?_
  refine AW.seq ?_
  refine AW.regionSeq ?_
  refine OpsW.seg 2 [9, 8, 0, 1] [] [(9, .string t1), (8, .string t0), (0, .string t0), (1, .string t1)] (by kernel_rfl) trivial ?_
  obtain ⟨x1, hx1, H⟩ := bindS H
  refine OpsW.qcall rfl (by kernel_rfl) rfl rfl (glAll_sound trivial) (.cons (.pur rfl) (.cons (.pur rfl) .nil)) (f_stringslite_Index_ok hx1) rfl ?_
  refine OpsW.seg 1 [7, 0, 1] [] [(7, .int .i64 x1), (0, .string t0), (1, .string t1)] (by kernel_rfl) trivial ?_
  refine OpsW.nil ?_
  refine AW.regionSeq ?_
  refine OpsW.seg 2 [12, 7, 0, 1] [] [(12, .bool (decide ((0 : Int) ≤ x1))), (7, .int .i64 x1), (0, .string t0), (1, .string t1)] (by kernel_rfl) trivial ?_
  refine OpsW.nil ?_
  refine AW.cond (b := decide ((0 : Int) ≤ x1)) rfl (fun c2 => ?_) (fun c2 => ?_)
  · replace H := condT c2 H
    refine AW.drawSeq Tryd.checked.mixed (by kernel_rfl) ?_
    obtain ⟨g3, H⟩ := G_some H
    obtain ⟨g4, H⟩ := G_some H
    obtain ⟨g5, H⟩ := G_some H
    refine QOps.seg (N := 23) 12 [0 ≤ x1 ∧ x1 ≤ (t0.size : Int), inR (x1 + (t1.size : Int)), 0 ≤ (x1 + (t1.size : Int)) ∧ (x1 + (t1.size : Int)) ≤ (t0.size : Int)] [(6, .bool true), (5, .string (t0.extract ((x1 + (t1.size : Int)).toNat) t0.size)), (4, .string (t0.extract 0 x1.toNat)), (21, .string (t0.extract ((x1 + (t1.size : Int)).toNat) t0.size)), (20, .int .i64 (x1 + (t1.size : Int))), (19, .int .i64 (t1.size : Int)), (18, .string t1), (17, .int .i64 x1), (16, .string t0), (15, .string (t0.extract 0 x1.toNat)), (14, .int .i64 x1), (13, .string t0), (12, .bool (decide ((0 : Int) ≤ x1))), (7, .int .i64 x1), (0, .string t0), (1, .string t1)] (by kernel_rfl) ⟨g3, g4, g5, trivial⟩ ?_
    refine QOps.nil ?_
    refine AW.trim [6, 5, 4] [(6, .bool true), (5, .string (t0.extract ((x1 + (t1.size : Int)).toNat) t0.size)), (4, .string (t0.extract 0 x1.toNat))] (by kernel_rfl) ?_
    obtain rfl := Option.some.inj H
    refine AW.recast (env' := [(4, .string (t0.extract 0 x1.toNat)), (5, .string (t0.extract ((x1 + (t1.size : Int)).toNat) t0.size)), (6, .bool true)]) (h' := []) (StC.pure (.cons .im (.cons .im (.cons .im .nil)))) ?_
    refine AW.ret ?_
    try simp only [Ex.then, Ex.inBlock, Ex.noGoto, Ex.jump, reduceIte, Nat.reduceEqDiff, reduceCtorEq]
    refine Done.gen rfl (.tmp (.tmp (.tmp .nil))) ?_
    show _ = _
    kernel_rfl
  · replace H := condF c2 H
    refine AW.skip ?_
    refine AW.regionSeq ?_
    refine OpsW.seg 4 [6, 5, 4] [] [(6, .bool false), (5, .string (⟨#[]⟩ : ByteArray)), (4, .string t0)] (by kernel_rfl) trivial ?_
    refine OpsW.nil ?_
    obtain rfl := Option.some.inj H
    refine AW.recast (env' := [(4, .string t0), (5, .string (⟨#[]⟩ : ByteArray)), (6, .bool false)]) (h' := []) (StC.pure (.cons .im (.cons .im (.cons .im .nil)))) ?_
    refine AW.ret ?_
    try simp only [Ex.then, Ex.inBlock, Ex.noGoto, Ex.jump, reduceIte, Nat.reduceEqDiff, reduceCtorEq]
    refine Done.gen rfl (.tmp (.tmp (.tmp .nil))) ?_
    show _ = _
    kernel_rfl
def f_strings_Cut (t0 : ByteArray) (t1 : ByteArray) : Option (ByteArray × ByteArray × Bool) :=
  (f_stringslite_Cut t0 t1).bind fun x1 =>
  some (x1.1, x1.2.1, x1.2.2)
theorem f_strings_Cut_ok  {t0 : ByteArray} {t1 : ByteArray} {r : ByteArray × ByteArray × Bool} (H : f_strings_Cut t0 t1 = some r) : QSpec Tryd.prog 43 [.string t0, .string t1] (.tup [.string r.1, .string r.2.1, .bool r.2.2]) := by
  refine Spec.of_AW Tryd.func43 rfl (by simp [Tryd.ntmps43]) ?_
  rw [Tryd.ntmps43]
  unfold f_strings_Cut at H
  change AW _ _ _ [(0, .string t0), (1, .string t1)] [] _
  refine AW.regionSeq ?_
  refine OpsW.seg 3 [0, 1] [] [(0, .string t0), (1, .string t1)] (by kernel_rfl) trivial ?_
  refine OpsW.nil ?_
  refine AW.regionSeq ?_
  refine OpsW.seg 2 [8, 7] [] [(8, .string t1), (7, .string t0)] (by kernel_rfl) trivial ?_
  obtain ⟨x1, hx1, H⟩ := bindS H
  refine OpsW.qcall rfl (by kernel_rfl) rfl rfl (glAll_sound trivial) (.cons (.pur rfl) (.cons (.pur rfl) .nil)) (f_stringslite_Cut_ok hx1) rfl ?_
  refine OpsW.seg 6 [6, 5, 4] [] [(6, .bool x1.2.2), (5, .string x1.2.1), (4, .string x1.1)] (by kernel_rfl) trivial ?_
  refine OpsW.nil ?_
  obtain rfl := Option.some.inj H
  refine AW.recast (env' := [(4, .string x1.1), (5, .string x1.2.1), (6, .bool x1.2.2)]) (h' := []) (StC.pure (.cons .im (.cons .im (.cons .im .nil)))) ?_
  refine AW.ret ?_
  try simp only [Ex.then, Ex.inBlock, Ex.noGoto, Ex.jump, reduceIte, Nat.reduceEqDiff, reduceCtorEq]
  refine Done.gen rfl (.tmp (.tmp (.tmp .nil))) ?_
  show _ = _
  kernel_rfl
def f_table_isCharacter (t0 : Int) : Option Bool :=
  some (cond (decide ((32 : Int) ≤ (bAnd .u8 t0 (127 : Int)))) (decide ((bAnd .u8 t0 (127 : Int)) ≤ (126 : Int))) false)
theorem f_table_isCharacter_ok  {t0 : Int} {r : Bool} (H : f_table_isCharacter t0 = some r) : QSpec Tryd.prog 30 [.int .u8 t0] (.bool r) := by
  refine Spec.of_AW Tryd.func30 rfl (by simp [Tryd.ntmps30]) ?_
  rw [Tryd.ntmps30]
  unfold f_table_isCharacter at H
  change AW _ _ _ [(0, .int .u8 t0)] [] _
  refine AW.regionSeq ?_
  refine OpsW.seg 1 [0] [] [(0, .int .u8 t0)] (by kernel_rfl) trivial ?_
  refine OpsW.nil ?_
  refine AW.regionSeq ?_
  refine OpsW.seg 3 [3] [] [(3, .int .u8 (bAnd .u8 t0 (127 : Int)))] (by kernel_rfl) trivial ?_
  refine OpsW.nil ?_
  refine AW.regionSeq ?_
  refine OpsW.seg 7 [2] [(decide ((32 : Int) ≤ (bAnd .u8 t0 (127 : Int)))) = true → (decide ((32 : Int) ≤ (bAnd .u8 t0 (127 : Int)))) = true, (decide ((32 : Int) ≤ (bAnd .u8 t0 (127 : Int)))) = true → (decide ((32 : Int) ≤ (bAnd .u8 t0 (127 : Int)))) = true] [(2, .bool (cond (decide ((32 : Int) ≤ (bAnd .u8 t0 (127 : Int)))) (decide ((bAnd .u8 t0 (127 : Int)) ≤ (126 : Int))) false))] (by kernel_rfl) ⟨(fun h => h), (fun h => by first | exact h | simpa using h), trivial⟩ ?_
  refine OpsW.nil ?_
  obtain rfl := Option.some.inj H
  refine AW.recast (env' := [(2, .bool (cond (decide ((32 : Int) ≤ (bAnd .u8 t0 (127 : Int)))) (decide ((bAnd .u8 t0 (127 : Int)) ≤ (126 : Int))) false))]) (h' := []) (StC.pure (.cons .im .nil)) ?_
  refine AW.ret ?_
  try simp only [Ex.then, Ex.inBlock, Ex.noGoto, Ex.jump, reduceIte, Nat.reduceEqDiff, reduceCtorEq]
  refine Done.gen rfl (.tmp .nil) ?_
  show _ = _
  kernel_rfl
def f_table_Text_b1 (t0 : ByteArray) (loop2 : (Int) → Option (Int × Int)) (v1 : Int) : Option (Int × Int) :=
  cond (decide (v1 < (t0.size : Int))) (
    G (0 ≤ v1 ∧ v1 < (t0.size : Int)) <|
    (f_table_isCharacter (bAt t0 v1)).bind fun x5 =>
    cond (!x5) (
      some (v1, (60 : Int))) (
      G (inR (v1 + (1 : Int))) <|
      loop2 (v1 + (1 : Int)))) (
    some ((t0.size : Int), (0 : Int)))
def f_table_Text (t0 : ByteArray) : Option (Int × Int) :=
  iter (fun loop (s : Int) => f_table_Text_b1 t0 loop s) 1000000 (0 : Int)
theorem f_table_Text_ok  {t0 : ByteArray} {r : Int × Int} (H : f_table_Text t0 = some r) : QSpec Tryd.prog 10 [.string t0] (.tup [.int .i64 r.1, .int .i64 r.2]) := by
  refine Spec.of_AW Tryd.func10 rfl (by simp [Tryd.ntmps10]) ?_
  rw [Tryd.ntmps10]
  unfold f_table_Text at H
  change AW _ _ _ [(0, .string t0)] [] _
  refine AW.regionSeq ?_
  refine OpsW.seg 2 [0] [] [(0, .string t0)] (by kernel_rfl) trivial ?_
  refine OpsW.nil ?_
  refine AW.seq ?_
  refine AW.regionSeq ?_
  refine OpsW.seg 3 [7, 6, 0] [] [(7, .int .i64 0), (6, .int .i64 (t0.size : Int)), (0, .string t0)] (by kernel_rfl) trivial ?_
  refine OpsW.nil ?_
  refine AW.block ?_
  refine AW.iterK (fun loop (s : Int) => f_table_Text_b1 t0 loop s) r (fun (s : Int) => [(0, .string t0), (6, .int .i64 (t0.size : Int)), (7, .int .i64 s)]) (fun (s : Int) => []) ?_ 1000000 (0 : Int) H (StC.pure (.cons .im (.cons .im (.cons .im .nil))))
  intro loop2 v1 H
  change f_table_Text_b1 t0 loop2 v1 = some r at H
  unfold f_table_Text_b1 at H
  change AW _ _ _ [(0, .string t0), (6, .int .i64 (t0.size : Int)), (7, .int .i64 v1)] [] _
  refine AW.regionSeq ?_
  refine OpsW.seg 1 [8, 0, 6, 7] [] [(8, .bool (decide (v1 < (t0.size : Int)))), (0, .string t0), (6, .int .i64 (t0.size : Int)), (7, .int .i64 v1)] (by kernel_rfl) trivial ?_
  refine OpsW.nil ?_
  refine AW.seq ?_
  refine AW.cond (b := decide (v1 < (t0.size : Int))) rfl (fun c3 => ?_) (fun c3 => ?_)
  · replace H := condT c3 H
    refine AW.skip ?_
    refine AW.seq ?_
    refine AW.block ?_
    refine AW.regionSeq ?_
    refine OpsW.seg 2 [4, 0, 6, 7] [] [(4, .int .i64 v1), (0, .string t0), (6, .int .i64 (t0.size : Int)), (7, .int .i64 v1)] (by kernel_rfl) trivial ?_
    refine OpsW.nil ?_
    refine AW.regionSeq ?_
    obtain ⟨g4, H⟩ := G_some H
    refine OpsW.seg 3 [12, 4, 0, 6, 7] [0 ≤ v1 ∧ v1 < (t0.size : Int)] [(12, .int .u8 (bAt t0 v1)), (4, .int .i64 v1), (0, .string t0), (6, .int .i64 (t0.size : Int)), (7, .int .i64 v1)] (by kernel_rfl) ⟨g4, trivial⟩ ?_
    obtain ⟨x5, hx5, H⟩ := bindS H
    refine OpsW.qcall rfl (by kernel_rfl) rfl rfl (glAll_sound trivial) (.cons (.pur rfl) .nil) (f_table_isCharacter_ok hx5) rfl ?_
    refine OpsW.seg 1 [14, 4, 0, 6, 7] [] [(14, .bool (!x5)), (4, .int .i64 v1), (0, .string t0), (6, .int .i64 (t0.size : Int)), (7, .int .i64 v1)] (by kernel_rfl) trivial ?_
    refine OpsW.nil ?_
    refine AW.cond (b := !x5) rfl (fun c6 => ?_) (fun c6 => ?_)
    · replace H := condT c6 H
      refine AW.regionSeq ?_
      refine OpsW.seg 3 [3, 2] [] [(3, .int .i64 60), (2, .int .i64 v1)] (by kernel_rfl) trivial ?_
      refine OpsW.nil ?_
      obtain rfl := Option.some.inj H
      refine AW.recast (env' := [(2, .int .i64 v1), (3, .int .i64 60)]) (h' := []) (StC.pure (.cons .im (.cons .im .nil))) ?_
      refine AW.ret ?_
      try simp only [Ex.then, Ex.inBlock, Ex.noGoto, Ex.jump, reduceIte, Nat.reduceEqDiff, reduceCtorEq]
      refine Done.gen rfl (.tmp (.tmp .nil)) ?_
      show _ = _
      kernel_rfl
    · replace H := condF c6 H
      refine AW.skip ?_
      refine AW.region ?_
      obtain ⟨g7, H⟩ := G_some H
      refine OpsW.seg 2 [7, 0, 6] [inR (v1 + (1 : Int))] [(7, .int .i64 (v1 + (1 : Int))), (0, .string t0), (6, .int .i64 (t0.size : Int))] (by kernel_rfl) ⟨g7, trivial⟩ ?_
      refine OpsW.nil ?_
      show ∃ y, _ ∧ StC _ _ _ _
      exact ⟨v1 + (1 : Int), H, (StC.pure (.cons .im (.cons .im (.cons .im .nil))))⟩
  · replace H := condF c3 H
    refine AW.exit ?_
    refine AW.regionSeq ?_
    refine OpsW.seg 4 [3, 2] [] [(3, .int .i64 0), (2, .int .i64 (t0.size : Int))] (by kernel_rfl) trivial ?_
    refine OpsW.nil ?_
    obtain rfl := Option.some.inj H
    refine AW.recast (env' := [(2, .int .i64 (t0.size : Int)), (3, .int .i64 0)]) (h' := []) (StC.pure (.cons .im (.cons .im .nil))) ?_
    refine AW.ret ?_
    try simp only [Ex.then, Ex.inBlock, Ex.noGoto, Ex.jump, reduceIte, Nat.reduceEqDiff, reduceCtorEq]
    refine Done.gen rfl (.tmp (.tmp .nil)) ?_
    show _ = _
    kernel_rfl
def f_table_Class (t0 : Int) : Option Int :=
  cond (cond (decide ((97 : Int) ≤ (bAnd .u8 t0 (127 : Int)))) (decide ((bAnd .u8 t0 (127 : Int)) ≤ (122 : Int))) false) (
    some (1 : Int)) (
    cond (cond (decide ((65 : Int) ≤ (bAnd .u8 t0 (127 : Int)))) (decide ((bAnd .u8 t0 (127 : Int)) ≤ (90 : Int))) false) (
      some (2 : Int)) (
      cond (cond (decide ((48 : Int) ≤ (bAnd .u8 t0 (127 : Int)))) (decide ((bAnd .u8 t0 (127 : Int)) ≤ (57 : Int))) false) (
        some (3 : Int)) (
        cond ((bAnd .u8 t0 (127 : Int)) == (32 : Int)) (
          some (4 : Int)) (
          some (5 : Int)))))
theorem f_table_Class_ok  {t0 : Int} {r : Int} (H : f_table_Class t0 = some r) : QSpec Tryd.prog 12 [.int .u8 t0] (.int .i64 r) := by
  refine Spec.of_AW Tryd.func12 rfl (by simp [Tryd.ntmps12]) ?_
  rw [Tryd.ntmps12]
  unfold f_table_Class at H
  change AW _ _ _ [(0, .int .u8 t0)] [] _
  refine AW.regionSeq ?_
  refine OpsW.seg 1 [0] [] [(0, .int .u8 t0)] (by kernel_rfl) trivial ?_
  refine OpsW.nil ?_
  refine AW.regionSeq ?_
  refine OpsW.seg 3 [3] [] [(3, .int .u8 (bAnd .u8 t0 (127 : Int)))] (by kernel_rfl) trivial ?_
  refine OpsW.nil ?_
  refine AW.seq ?_
  refine AW.block ?_
  refine AW.regionSeq ?_
  refine OpsW.seg 7 [6, 3] [(decide ((97 : Int) ≤ (bAnd .u8 t0 (127 : Int)))) = true → (decide ((97 : Int) ≤ (bAnd .u8 t0 (127 : Int)))) = true, (decide ((97 : Int) ≤ (bAnd .u8 t0 (127 : Int)))) = true → (decide ((97 : Int) ≤ (bAnd .u8 t0 (127 : Int)))) = true] [(6, .bool (cond (decide ((97 : Int) ≤ (bAnd .u8 t0 (127 : Int)))) (decide ((bAnd .u8 t0 (127 : Int)) ≤ (122 : Int))) false)), (3, .int .u8 (bAnd .u8 t0 (127 : Int)))] (by kernel_rfl) ⟨(fun h => h), (fun h => by first | exact h | simpa using h), trivial⟩ ?_
  refine OpsW.nil ?_
  refine AW.cond (b := cond (decide ((97 : Int) ≤ (bAnd .u8 t0 (127 : Int)))) (decide ((bAnd .u8 t0 (127 : Int)) ≤ (122 : Int))) false) rfl (fun c1 => ?_) (fun c1 => ?_)
  · replace H := condT c1 H
    refine AW.regionSeq ?_
    refine OpsW.seg 1 [2] [] [(2, .int .i64 1)] (by kernel_rfl) trivial ?_
    refine OpsW.nil ?_
    obtain rfl := Option.some.inj H
    refine AW.recast (env' := [(2, .int .i64 1)]) (h' := []) (StC.pure (.cons .im .nil)) ?_
    refine AW.ret ?_
    try simp only [Ex.then, Ex.inBlock, Ex.noGoto, Ex.jump, reduceIte, Nat.reduceEqDiff, reduceCtorEq]
    refine Done.gen rfl (.tmp .nil) ?_
    show _ = _
    kernel_rfl
  · replace H := condF c1 H
    refine AW.regionSeq ?_
    refine OpsW.seg 7 [13, 3] [(decide ((65 : Int) ≤ (bAnd .u8 t0 (127 : Int)))) = true → (decide ((65 : Int) ≤ (bAnd .u8 t0 (127 : Int)))) = true, (decide ((65 : Int) ≤ (bAnd .u8 t0 (127 : Int)))) = true → (decide ((65 : Int) ≤ (bAnd .u8 t0 (127 : Int)))) = true] [(13, .bool (cond (decide ((65 : Int) ≤ (bAnd .u8 t0 (127 : Int)))) (decide ((bAnd .u8 t0 (127 : Int)) ≤ (90 : Int))) false)), (3, .int .u8 (bAnd .u8 t0 (127 : Int)))] (by kernel_rfl) ⟨(fun h => h), (fun h => by first | exact h | simpa using h), trivial⟩ ?_
    refine OpsW.nil ?_
    refine AW.cond (b := cond (decide ((65 : Int) ≤ (bAnd .u8 t0 (127 : Int)))) (decide ((bAnd .u8 t0 (127 : Int)) ≤ (90 : Int))) false) rfl (fun c2 => ?_) (fun c2 => ?_)
    · replace H := condT c2 H
      refine AW.regionSeq ?_
      refine OpsW.seg 1 [2] [] [(2, .int .i64 2)] (by kernel_rfl) trivial ?_
      refine OpsW.nil ?_
      obtain rfl := Option.some.inj H
      refine AW.recast (env' := [(2, .int .i64 2)]) (h' := []) (StC.pure (.cons .im .nil)) ?_
      refine AW.ret ?_
      try simp only [Ex.then, Ex.inBlock, Ex.noGoto, Ex.jump, reduceIte, Nat.reduceEqDiff, reduceCtorEq]
      refine Done.gen rfl (.tmp .nil) ?_
      show _ = _
      kernel_rfl
    · replace H := condF c2 H
      refine AW.regionSeq ?_
      refine OpsW.seg 7 [20, 3] [(decide ((48 : Int) ≤ (bAnd .u8 t0 (127 : Int)))) = true → (decide ((48 : Int) ≤ (bAnd .u8 t0 (127 : Int)))) = true, (decide ((48 : Int) ≤ (bAnd .u8 t0 (127 : Int)))) = true → (decide ((48 : Int) ≤ (bAnd .u8 t0 (127 : Int)))) = true] [(20, .bool (cond (decide ((48 : Int) ≤ (bAnd .u8 t0 (127 : Int)))) (decide ((bAnd .u8 t0 (127 : Int)) ≤ (57 : Int))) false)), (3, .int .u8 (bAnd .u8 t0 (127 : Int)))] (by kernel_rfl) ⟨(fun h => h), (fun h => by first | exact h | simpa using h), trivial⟩ ?_
      refine OpsW.nil ?_
      refine AW.cond (b := cond (decide ((48 : Int) ≤ (bAnd .u8 t0 (127 : Int)))) (decide ((bAnd .u8 t0 (127 : Int)) ≤ (57 : Int))) false) rfl (fun c3 => ?_) (fun c3 => ?_)
      · replace H := condT c3 H
        refine AW.regionSeq ?_
        refine OpsW.seg 1 [2] [] [(2, .int .i64 3)] (by kernel_rfl) trivial ?_
        refine OpsW.nil ?_
        obtain rfl := Option.some.inj H
        refine AW.recast (env' := [(2, .int .i64 3)]) (h' := []) (StC.pure (.cons .im .nil)) ?_
        refine AW.ret ?_
        try simp only [Ex.then, Ex.inBlock, Ex.noGoto, Ex.jump, reduceIte, Nat.reduceEqDiff, reduceCtorEq]
        refine Done.gen rfl (.tmp .nil) ?_
        show _ = _
        kernel_rfl
      · replace H := condF c3 H
        refine AW.regionSeq ?_
        refine OpsW.seg 3 [27] [] [(27, .bool ((bAnd .u8 t0 (127 : Int)) == (32 : Int)))] (by kernel_rfl) trivial ?_
        refine OpsW.nil ?_
        refine AW.cond (b := (bAnd .u8 t0 (127 : Int)) == (32 : Int)) rfl (fun c4 => ?_) (fun c4 => ?_)
        · replace H := condT c4 H
          refine AW.regionSeq ?_
          refine OpsW.seg 1 [2] [] [(2, .int .i64 4)] (by kernel_rfl) trivial ?_
          refine OpsW.nil ?_
          obtain rfl := Option.some.inj H
          refine AW.recast (env' := [(2, .int .i64 4)]) (h' := []) (StC.pure (.cons .im .nil)) ?_
          refine AW.ret ?_
          try simp only [Ex.then, Ex.inBlock, Ex.noGoto, Ex.jump, reduceIte, Nat.reduceEqDiff, reduceCtorEq]
          refine Done.gen rfl (.tmp .nil) ?_
          show _ = _
          kernel_rfl
        · replace H := condF c4 H
          refine AW.skip ?_
          refine AW.regionSeq ?_
          refine OpsW.seg 1 [2] [] [(2, .int .i64 5)] (by kernel_rfl) trivial ?_
          refine OpsW.nil ?_
          obtain rfl := Option.some.inj H
          refine AW.recast (env' := [(2, .int .i64 5)]) (h' := []) (StC.pure (.cons .im .nil)) ?_
          refine AW.ret ?_
          try simp only [Ex.then, Ex.inBlock, Ex.noGoto, Ex.jump, reduceIte, Nat.reduceEqDiff, reduceCtorEq]
          refine Done.gen rfl (.tmp .nil) ?_
          show _ = _
          kernel_rfl
def f_table_Clean_b1 (t0 : ByteArray) (loop6 : (Int × Int) → Option Bool) (v4 : Int) (v5 : Int) : Option Bool :=
  cond (decide (v5 < (t0.size : Int))) (
    G (0 ≤ v5 ∧ v5 < (t0.size : Int)) <|
    (f_table_Class (bAt t0 v5)).bind fun x9 =>
    cond (cond (x9 == (4 : Int)) (cond (v4 == (0 : Int)) true (v4 == (4 : Int))) false) (
      some false) (
      G (inR (v5 + (1 : Int))) <|
      loop6 (x9, v5 + (1 : Int)))) (
    some (v4 != (4 : Int)))
def f_table_Clean (t0 : ByteArray) : Option Bool :=
  cond (cond (decide ((t0.size : Int) < (1 : Int))) true (decide ((400 : Int) < (t0.size : Int)))) (
    some false) (
    (f_table_Text t0).bind fun x2 =>
    cond (x2.2 != (0 : Int)) (
      some false) (
      iter (fun loop (s : Int × Int) => f_table_Clean_b1 t0 loop s.1 s.2) 1000000 ((0 : Int), (0 : Int))))
theorem f_table_Clean_ok  {t0 : ByteArray} {r : Bool} (H : f_table_Clean t0 = some r) : QSpec Tryd.prog 14 [.string t0] (.bool r) := by
  refine Spec.of_AW Tryd.func14 rfl (by simp [Tryd.ntmps14]) ?_
  rw [Tryd.ntmps14]
  unfold f_table_Clean at H
  change AW _ _ _ [(0, .string t0)] [] _
  refine AW.regionSeq ?_
  refine OpsW.seg 1 [0] [] [(0, .string t0)] (by kernel_rfl) trivial ?_
  refine OpsW.nil ?_
  refine AW.seq ?_
  refine AW.regionSeq ?_
  refine OpsW.seg 8 [15, 0] [(!(decide ((t0.size : Int) < (1 : Int)))) = true → (!(decide ((t0.size : Int) < (1 : Int)))) = true, (!(decide ((t0.size : Int) < (1 : Int)))) = true → (!(decide ((t0.size : Int) < (1 : Int)))) = true, (decide ((t0.size : Int) < (1 : Int))) = false → (!(decide ((t0.size : Int) < (1 : Int)))) = true] [(15, .bool (cond (decide ((t0.size : Int) < (1 : Int))) true (decide ((400 : Int) < (t0.size : Int))))), (0, .string t0)] (by kernel_rfl) ⟨(fun h => h), (fun h => h), (fun h => by first | exact h | simpa using h), trivial⟩ ?_
  refine OpsW.nil ?_
  refine AW.cond (b := cond (decide ((t0.size : Int) < (1 : Int))) true (decide ((400 : Int) < (t0.size : Int)))) rfl (fun c1 => ?_) (fun c1 => ?_)
  · replace H := condT c1 H
    refine AW.regionSeq ?_
    refine OpsW.seg 1 [2] [] [(2, .bool false)] (by kernel_rfl) trivial ?_
    refine OpsW.nil ?_
    obtain rfl := Option.some.inj H
    refine AW.recast (env' := [(2, .bool false)]) (h' := []) (StC.pure (.cons .im .nil)) ?_
    refine AW.ret ?_
    try simp only [Ex.then, Ex.inBlock, Ex.noGoto, Ex.jump, reduceIte, Nat.reduceEqDiff, reduceCtorEq]
    refine Done.gen rfl (.tmp .nil) ?_
    show _ = _
    kernel_rfl
  · replace H := condF c1 H
    refine AW.skip ?_
    refine AW.seq ?_
    refine AW.regionSeq ?_
    refine OpsW.seg 1 [17, 0] [] [(17, .string t0), (0, .string t0)] (by kernel_rfl) trivial ?_
    obtain ⟨x2, hx2, H⟩ := bindS H
    refine OpsW.qcall rfl (by kernel_rfl) rfl rfl (glAll_sound trivial) (.cons (.pur rfl) .nil) (f_table_Text_ok hx2) rfl ?_
    refine OpsW.seg 5 [4, 0] [] [(4, .int .i64 x2.2), (0, .string t0)] (by kernel_rfl) trivial ?_
    refine OpsW.nil ?_
    refine AW.regionSeq ?_
    refine OpsW.seg 2 [22, 0] [] [(22, .bool (x2.2 != (0 : Int))), (0, .string t0)] (by kernel_rfl) trivial ?_
    refine OpsW.nil ?_
    refine AW.cond (b := x2.2 != (0 : Int)) rfl (fun c3 => ?_) (fun c3 => ?_)
    · replace H := condT c3 H
      refine AW.regionSeq ?_
      refine OpsW.seg 1 [2] [] [(2, .bool false)] (by kernel_rfl) trivial ?_
      refine OpsW.nil ?_
      obtain rfl := Option.some.inj H
      refine AW.recast (env' := [(2, .bool false)]) (h' := []) (StC.pure (.cons .im .nil)) ?_
      refine AW.ret ?_
      try simp only [Ex.then, Ex.inBlock, Ex.noGoto, Ex.jump, reduceIte, Nat.reduceEqDiff, reduceCtorEq]
      refine Done.gen rfl (.tmp .nil) ?_
      show _ = _
      kernel_rfl
    · replace H := condF c3 H
      refine AW.skip ?_
      refine AW.regionSeq ?_
      refine OpsW.seg 1 [5, 0] [] [(5, .int .i64 0), (0, .string t0)] (by kernel_rfl) trivial ?_
      refine OpsW.nil ?_
      refine AW.seq ?_
      refine AW.regionSeq ?_
      refine OpsW.seg 3 [25, 24, 5, 0] [] [(25, .int .i64 0), (24, .int .i64 (t0.size : Int)), (5, .int .i64 0), (0, .string t0)] (by kernel_rfl) trivial ?_
      refine OpsW.nil ?_
      refine AW.block ?_
      refine AW.iterK (fun loop (s : Int × Int) => f_table_Clean_b1 t0 loop s.1 s.2) r (fun (s : Int × Int) => [(0, .string t0), (5, .int .i64 s.1), (24, .int .i64 (t0.size : Int)), (25, .int .i64 s.2)]) (fun (s : Int × Int) => []) ?_ 1000000 ((0 : Int), (0 : Int)) H (StC.pure (.cons .im (.cons .im (.cons .im (.cons .im .nil)))))
      intro loop6 s H
      obtain ⟨v4, v5⟩ := s
      change f_table_Clean_b1 t0 loop6 v4 v5 = some r at H
      unfold f_table_Clean_b1 at H
      change AW _ _ _ [(0, .string t0), (5, .int .i64 v4), (24, .int .i64 (t0.size : Int)), (25, .int .i64 v5)] [] _
      refine AW.regionSeq ?_
      refine OpsW.seg 1 [26, 0, 5, 24, 25] [] [(26, .bool (decide (v5 < (t0.size : Int)))), (0, .string t0), (5, .int .i64 v4), (24, .int .i64 (t0.size : Int)), (25, .int .i64 v5)] (by kernel_rfl) trivial ?_
      refine OpsW.nil ?_
      refine AW.seq ?_
      refine AW.cond (b := decide (v5 < (t0.size : Int))) rfl (fun c7 => ?_) (fun c7 => ?_)
      · replace H := condT c7 H
        refine AW.skip ?_
        refine AW.seq ?_
        refine AW.block ?_
        refine AW.regionSeq ?_
        refine OpsW.seg 2 [6, 0, 5, 24, 25] [] [(6, .int .i64 v5), (0, .string t0), (5, .int .i64 v4), (24, .int .i64 (t0.size : Int)), (25, .int .i64 v5)] (by kernel_rfl) trivial ?_
        refine OpsW.nil ?_
        refine AW.regionSeq ?_
        obtain ⟨g8, H⟩ := G_some H
        refine OpsW.seg 3 [30, 0, 5, 24, 25] [0 ≤ v5 ∧ v5 < (t0.size : Int)] [(30, .int .u8 (bAt t0 v5)), (0, .string t0), (5, .int .i64 v4), (24, .int .i64 (t0.size : Int)), (25, .int .i64 v5)] (by kernel_rfl) ⟨g8, trivial⟩ ?_
        obtain ⟨x9, hx9, H⟩ := bindS H
        refine OpsW.qcall rfl (by kernel_rfl) rfl rfl (glAll_sound trivial) (.cons (.pur rfl) .nil) (f_table_Class_ok hx9) rfl ?_
        refine OpsW.seg 1 [7, 0, 5, 24, 25] [] [(7, .int .i64 x9), (0, .string t0), (5, .int .i64 v4), (24, .int .i64 (t0.size : Int)), (25, .int .i64 v5)] (by kernel_rfl) trivial ?_
        refine OpsW.nil ?_
        refine AW.seq ?_
        refine AW.regionSeq ?_
        refine OpsW.seg 10 [41, 7, 0, 24, 25] [(x9 == (4 : Int)) = true → (x9 == (4 : Int)) = true, (x9 == (4 : Int)) = true → (x9 == (4 : Int)) = true, ((x9 == (4 : Int)) && (!(v4 == (0 : Int)))) = true → ((x9 == (4 : Int)) && (!(v4 == (0 : Int)))) = true, (x9 == (4 : Int)) = true → (x9 == (4 : Int)) = true, (x9 == (4 : Int)) = true → ((v4 == (0 : Int)) = false → ((x9 == (4 : Int)) && (!(v4 == (0 : Int)))) = true), (x9 == (4 : Int)) = true → (x9 == (4 : Int)) = true] [(41, .bool (cond (x9 == (4 : Int)) (cond (v4 == (0 : Int)) true (v4 == (4 : Int))) false)), (7, .int .i64 x9), (0, .string t0), (24, .int .i64 (t0.size : Int)), (25, .int .i64 v5)] (by kernel_rfl) ⟨(fun h => h), (fun h => h), (fun h => h), (fun h => h), (fun h0 h => by first | exact h | (simp [h0, h]; done) | (simp at h0 h ⊢; simp [h0, h]; done) | (simp_all; done)), (fun h => by first | exact h | simpa using h), trivial⟩ ?_
        refine OpsW.nil ?_
        refine AW.cond (b := cond (x9 == (4 : Int)) (cond (v4 == (0 : Int)) true (v4 == (4 : Int))) false) rfl (fun c10 => ?_) (fun c10 => ?_)
        · replace H := condT c10 H
          refine AW.regionSeq ?_
          refine OpsW.seg 1 [2] [] [(2, .bool false)] (by kernel_rfl) trivial ?_
          refine OpsW.nil ?_
          obtain rfl := Option.some.inj H
          refine AW.recast (env' := [(2, .bool false)]) (h' := []) (StC.pure (.cons .im .nil)) ?_
          refine AW.ret ?_
          try simp only [Ex.then, Ex.inBlock, Ex.noGoto, Ex.jump, reduceIte, Nat.reduceEqDiff, reduceCtorEq]
          refine Done.gen rfl (.tmp .nil) ?_
          show _ = _
          kernel_rfl
        · replace H := condF c10 H
          refine AW.skip ?_
          refine AW.region ?_
          refine OpsW.seg 2 [5, 0, 24, 25] [] [(5, .int .i64 x9), (0, .string t0), (24, .int .i64 (t0.size : Int)), (25, .int .i64 v5)] (by kernel_rfl) trivial ?_
          refine OpsW.nil ?_
          refine AW.region ?_
          obtain ⟨g11, H⟩ := G_some H
          refine OpsW.seg 2 [25, 5, 0, 24] [inR (v5 + (1 : Int))] [(25, .int .i64 (v5 + (1 : Int))), (5, .int .i64 x9), (0, .string t0), (24, .int .i64 (t0.size : Int))] (by kernel_rfl) ⟨g11, trivial⟩ ?_
          refine OpsW.nil ?_
          show ∃ y, _ ∧ StC _ _ _ _
          exact ⟨(x9, v5 + (1 : Int)), H, (StC.pure (.cons .im (.cons .im (.cons .im (.cons .im .nil)))))⟩
      · replace H := condF c7 H
        refine AW.exit ?_
        refine AW.regionSeq ?_
        refine OpsW.seg 3 [2] [] [(2, .bool (v4 != (4 : Int)))] (by kernel_rfl) trivial ?_
        refine OpsW.nil ?_
        obtain rfl := Option.some.inj H
        refine AW.recast (env' := [(2, .bool (v4 != (4 : Int)))]) (h' := []) (StC.pure (.cons .im .nil)) ?_
        refine AW.ret ?_
        try simp only [Ex.then, Ex.inBlock, Ex.noGoto, Ex.jump, reduceIte, Nat.reduceEqDiff, reduceCtorEq]
        refine Done.gen rfl (.tmp .nil) ?_
        show _ = _
        kernel_rfl
def f_table_hasSpace_b1 (t0 : ByteArray) (loop2 : (Int) → Option Bool) (v1 : Int) : Option Bool :=
  cond (decide (v1 < (t0.size : Int))) (
    G (0 ≤ v1 ∧ v1 < (t0.size : Int)) <|
    (f_table_Class (bAt t0 v1)).bind fun x5 =>
    cond (x5 == (4 : Int)) (
      some true) (
      G (inR (v1 + (1 : Int))) <|
      loop2 (v1 + (1 : Int)))) (
    some false)
def f_table_hasSpace (t0 : ByteArray) : Option Bool :=
  iter (fun loop (s : Int) => f_table_hasSpace_b1 t0 loop s) 1000000 (0 : Int)
theorem f_table_hasSpace_ok  {t0 : ByteArray} {r : Bool} (H : f_table_hasSpace t0 = some r) : QSpec Tryd.prog 51 [.string t0] (.bool r) := by
  refine Spec.of_AW Tryd.func51 rfl (by simp [Tryd.ntmps51]) ?_
  rw [Tryd.ntmps51]
  unfold f_table_hasSpace at H
  change AW _ _ _ [(0, .string t0)] [] _
  refine AW.regionSeq ?_
  refine OpsW.seg 1 [0] [] [(0, .string t0)] (by kernel_rfl) trivial ?_
  refine OpsW.nil ?_
  refine AW.seq ?_
  refine AW.regionSeq ?_
  refine OpsW.seg 3 [6, 5, 0] [] [(6, .int .i64 0), (5, .int .i64 (t0.size : Int)), (0, .string t0)] (by kernel_rfl) trivial ?_
  refine OpsW.nil ?_
  refine AW.block ?_
  refine AW.iterK (fun loop (s : Int) => f_table_hasSpace_b1 t0 loop s) r (fun (s : Int) => [(0, .string t0), (5, .int .i64 (t0.size : Int)), (6, .int .i64 s)]) (fun (s : Int) => []) ?_ 1000000 (0 : Int) H (StC.pure (.cons .im (.cons .im (.cons .im .nil))))
  intro loop2 v1 H
  change f_table_hasSpace_b1 t0 loop2 v1 = some r at H
  unfold f_table_hasSpace_b1 at H
  change AW _ _ _ [(0, .string t0), (5, .int .i64 (t0.size : Int)), (6, .int .i64 v1)] [] _
  refine AW.regionSeq ?_
  refine OpsW.seg 1 [7, 0, 5, 6] [] [(7, .bool (decide (v1 < (t0.size : Int)))), (0, .string t0), (5, .int .i64 (t0.size : Int)), (6, .int .i64 v1)] (by kernel_rfl) trivial ?_
  refine OpsW.nil ?_
  refine AW.seq ?_
  refine AW.cond (b := decide (v1 < (t0.size : Int))) rfl (fun c3 => ?_) (fun c3 => ?_)
  · replace H := condT c3 H
    refine AW.skip ?_
    refine AW.seq ?_
    refine AW.block ?_
    refine AW.regionSeq ?_
    refine OpsW.seg 2 [3, 0, 5, 6] [] [(3, .int .i64 v1), (0, .string t0), (5, .int .i64 (t0.size : Int)), (6, .int .i64 v1)] (by kernel_rfl) trivial ?_
    refine OpsW.nil ?_
    refine AW.regionSeq ?_
    obtain ⟨g4, H⟩ := G_some H
    refine OpsW.seg 3 [11, 0, 5, 6] [0 ≤ v1 ∧ v1 < (t0.size : Int)] [(11, .int .u8 (bAt t0 v1)), (0, .string t0), (5, .int .i64 (t0.size : Int)), (6, .int .i64 v1)] (by kernel_rfl) ⟨g4, trivial⟩ ?_
    obtain ⟨x5, hx5, H⟩ := bindS H
    refine OpsW.qcall rfl (by kernel_rfl) rfl rfl (glAll_sound trivial) (.cons (.pur rfl) .nil) (f_table_Class_ok hx5) rfl ?_
    refine OpsW.seg 1 [13, 0, 5, 6] [] [(13, .bool (x5 == (4 : Int))), (0, .string t0), (5, .int .i64 (t0.size : Int)), (6, .int .i64 v1)] (by kernel_rfl) trivial ?_
    refine OpsW.nil ?_
    refine AW.cond (b := x5 == (4 : Int)) rfl (fun c6 => ?_) (fun c6 => ?_)
    · replace H := condT c6 H
      refine AW.regionSeq ?_
      refine OpsW.seg 1 [2] [] [(2, .bool true)] (by kernel_rfl) trivial ?_
      refine OpsW.nil ?_
      obtain rfl := Option.some.inj H
      refine AW.recast (env' := [(2, .bool true)]) (h' := []) (StC.pure (.cons .im .nil)) ?_
      refine AW.ret ?_
      try simp only [Ex.then, Ex.inBlock, Ex.noGoto, Ex.jump, reduceIte, Nat.reduceEqDiff, reduceCtorEq]
      refine Done.gen rfl (.tmp .nil) ?_
      show _ = _
      kernel_rfl
    · replace H := condF c6 H
      refine AW.skip ?_
      refine AW.region ?_
      obtain ⟨g7, H⟩ := G_some H
      refine OpsW.seg 2 [6, 0, 5] [inR (v1 + (1 : Int))] [(6, .int .i64 (v1 + (1 : Int))), (0, .string t0), (5, .int .i64 (t0.size : Int))] (by kernel_rfl) ⟨g7, trivial⟩ ?_
      refine OpsW.nil ?_
      show ∃ y, _ ∧ StC _ _ _ _
      exact ⟨v1 + (1 : Int), H, (StC.pure (.cons .im (.cons .im (.cons .im .nil))))⟩
  · replace H := condF c3 H
    refine AW.exit ?_
    refine AW.regionSeq ?_
    refine OpsW.seg 1 [2] [] [(2, .bool false)] (by kernel_rfl) trivial ?_
    refine OpsW.nil ?_
    obtain rfl := Option.some.inj H
    refine AW.recast (env' := [(2, .bool false)]) (h' := []) (StC.pure (.cons .im .nil)) ?_
    refine AW.ret ?_
    try simp only [Ex.then, Ex.inBlock, Ex.noGoto, Ex.jump, reduceIte, Nat.reduceEqDiff, reduceCtorEq]
    refine Done.gen rfl (.tmp .nil) ?_
    show _ = _
    kernel_rfl
def f_cell_Valid (t0 : Int) : Option Bool :=
  some (decide (t0 < (64 : Int)))
theorem f_cell_Valid_ok  {t0 : Int} {r : Bool} (H : f_cell_Valid t0 = some r) : QSpec Tryd.prog 52 [.int .u8 t0] (.bool r) := by
  refine Spec.of_AW Tryd.func52 rfl (by simp [Tryd.ntmps52]) ?_
  rw [Tryd.ntmps52]
  unfold f_cell_Valid at H
  change AW _ _ _ [(0, .int .u8 t0)] [] _
  refine AW.regionSeq ?_
  refine OpsW.seg 1 [0] [] [(0, .int .u8 t0)] (by kernel_rfl) trivial ?_
  refine OpsW.nil ?_
  refine AW.regionSeq ?_
  refine OpsW.seg 3 [2] [] [(2, .bool (decide (t0 < (64 : Int))))] (by kernel_rfl) trivial ?_
  refine OpsW.nil ?_
  obtain rfl := Option.some.inj H
  refine AW.recast (env' := [(2, .bool (decide (t0 < (64 : Int))))]) (h' := []) (StC.pure (.cons .im .nil)) ?_
  refine AW.ret ?_
  try simp only [Ex.then, Ex.inBlock, Ex.noGoto, Ex.jump, reduceIte, Nat.reduceEqDiff, reduceCtorEq]
  refine Done.gen rfl (.tmp .nil) ?_
  show _ = _
  kernel_rfl
def f_table_sound_b1 (t0 : S_Rule) (loop10 : (Int) → Option Bool) (v9 : Int) : Option Bool :=
  cond (decide (v9 < (t0.Cells.length : Int))) (
    G (0 ≤ v9 ∧ v9 < (t0.Cells.length : Int)) <|
    (f_cell_Valid (t0.Cells.getD v9.toNat (0 : Int))).bind fun x13 =>
    cond (cond (cond (!x13) true ((t0.Cells.getD v9.toNat (0 : Int)) == (63 : Int))) true ((t0.Cells.getD v9.toNat (0 : Int)) == (0 : Int))) (
      some false) (
      G (inR (v9 + (1 : Int))) <|
      loop10 (v9 + (1 : Int)))) (
    some true)
def f_table_sound (t0 : S_Rule) (t1 : Int) : Option Bool :=
  cond (cond (cond (decide ((4 : Int) < (t0.Print.size : Int))) true (decide ((t0.Cells.length : Int) < (1 : Int)))) true (decide ((4 : Int) < (t0.Cells.length : Int)))) (
    some false) (
    (f_table_Text t0.Print).bind fun x2 =>
    cond (x2.2 != (0 : Int)) (
      some false) (
      cond (cond (cond (cond (decide (t0.Left < (1 : Int))) true (decide ((63 : Int) < t0.Left))) true (decide (t0.Right < (1 : Int)))) true (decide ((63 : Int) < t0.Right))) (
        some false) (
        cond (cond (cond (cond (decide (t0.From < (0 : Int))) true (decide (t1 ≤ t0.From))) true (decide (t0.To < (0 : Int)))) true (decide (t1 ≤ t0.To))) (
          some false) (
          (f_table_hasSpace t0.Print).bind fun x6 =>
          cond x6 (
            G ((cond ((t0.Print.size : Int) == (1 : Int)) ((t0.Cells.length : Int) == (1 : Int)) false) = true → (0 ≤ (0 : Int) ∧ (0 : Int) < (t0.Cells.length : Int))) <|
            some (cond (cond ((t0.Print.size : Int) == (1 : Int)) ((t0.Cells.length : Int) == (1 : Int)) false) ((t0.Cells.getD (0 : Int).toNat (0 : Int)) == (0 : Int)) false)) (
            iter (fun loop (s : Int) => f_table_sound_b1 t0 loop s) 1000000 (0 : Int))))))
theorem f_table_sound_ok  {t0 : S_Rule} {t1 : Int} {r : Bool} (H : f_table_sound t0 t1 = some r) : QSpec Tryd.prog 32 [.agg [.string t0.Print, slA (eI .u8) t0.Cells, .int .u8 t0.Left, .int .u8 t0.Right, .int .i64 t0.From, .int .i64 t0.To], .int .i64 t1] (.bool r) := by
  refine Spec.of_AW Tryd.func32 rfl (by simp [Tryd.ntmps32]) ?_
  rw [Tryd.ntmps32]
  unfold f_table_sound at H
  change AW _ _ _ [(0, .agg [.string t0.Print, slA (eI .u8) t0.Cells, .int .u8 t0.Left, .int .u8 t0.Right, .int .i64 t0.From, .int .i64 t0.To]), (1, .int .i64 t1)] [] _
  refine AW.regionSeq ?_
  refine OpsW.box rfl rfl rfl 2 rfl (okCb_sound (by kernel_rfl)) ?_
  change OpsW _ _ _ _ _ [(2, ⟨0, true, 36, 6, [.string t0.Print, slA (eI .u8) t0.Cells, .int .u8 t0.Left, .int .u8 t0.Right, .int .i64 t0.From, .int .i64 t0.To]⟩)] _
  refine OpsW.seg 1 [2, 1] [] [(2, .ref 2 0 0), (1, .int .i64 t1)] (by kernel_rfl) trivial ?_
  refine OpsW.recast (env' := [(2, .ref 2 0 0), (1, .int .i64 t1)]) (h' := [(2, ⟨0, true, 36, 6, [.string t0.Print, slA (eI .u8) t0.Cells, .int .u8 t0.Left, .int .u8 t0.Right, .int .i64 t0.From, .int .i64 t0.To]⟩)]) (StC.mk (phi [(2, some 2)]) (.old rfl rfl rfl rfl rfl (.cons .im (.cons .im (.cons .im (.cons .im (.cons .im (.cons .im .nil)))))) .nil) rfl (.cons (.ref rfl rfl rfl rfl rfl) (.cons .im .nil))) ?_
  refine OpsW.nil ?_
  refine AW.seq ?_
  refine AW.regionSeq ?_
  refine OpsW.seg 16 [24, 2, 1] [(!(decide ((4 : Int) < (t0.Print.size : Int)))) = true → (!(decide ((4 : Int) < (t0.Print.size : Int)))) = true, (!(decide ((4 : Int) < (t0.Print.size : Int)))) = true → (!(decide ((4 : Int) < (t0.Print.size : Int)))) = true, (!(decide ((4 : Int) < (t0.Print.size : Int)))) = true → (!(decide ((4 : Int) < (t0.Print.size : Int)))) = true, (decide ((4 : Int) < (t0.Print.size : Int))) = false → (!(decide ((4 : Int) < (t0.Print.size : Int)))) = true, (!(cond (decide ((4 : Int) < (t0.Print.size : Int))) true (decide ((t0.Cells.length : Int) < (1 : Int))))) = true → (!(cond (decide ((4 : Int) < (t0.Print.size : Int))) true (decide ((t0.Cells.length : Int) < (1 : Int))))) = true, (!(cond (decide ((4 : Int) < (t0.Print.size : Int))) true (decide ((t0.Cells.length : Int) < (1 : Int))))) = true → (!(cond (decide ((4 : Int) < (t0.Print.size : Int))) true (decide ((t0.Cells.length : Int) < (1 : Int))))) = true, (!(cond (decide ((4 : Int) < (t0.Print.size : Int))) true (decide ((t0.Cells.length : Int) < (1 : Int))))) = true → (!(cond (decide ((4 : Int) < (t0.Print.size : Int))) true (decide ((t0.Cells.length : Int) < (1 : Int))))) = true, (cond (decide ((4 : Int) < (t0.Print.size : Int))) true (decide ((t0.Cells.length : Int) < (1 : Int)))) = false → (!(cond (decide ((4 : Int) < (t0.Print.size : Int))) true (decide ((t0.Cells.length : Int) < (1 : Int))))) = true] [(24, .bool (cond (cond (decide ((4 : Int) < (t0.Print.size : Int))) true (decide ((t0.Cells.length : Int) < (1 : Int)))) true (decide ((4 : Int) < (t0.Cells.length : Int))))), (2, .ref 2 0 0), (1, .int .i64 t1)] (by kernel_rfl) ⟨(fun h => h), (fun h => h), (fun h => h), (fun h => by first | exact h | simpa using h), (fun h => h), (fun h => h), (fun h => h), (fun h => by first | exact h | simpa using h), trivial⟩ ?_
  refine OpsW.nil ?_
  refine AW.cond (b := cond (cond (decide ((4 : Int) < (t0.Print.size : Int))) true (decide ((t0.Cells.length : Int) < (1 : Int)))) true (decide ((4 : Int) < (t0.Cells.length : Int)))) rfl (fun c1 => ?_) (fun c1 => ?_)
  · replace H := condT c1 H
    refine AW.regionSeq ?_
    refine OpsW.seg 1 [4] [] [(4, .bool false)] (by kernel_rfl) trivial ?_
    refine OpsW.nil ?_
    obtain rfl := Option.some.inj H
    refine AW.recast (env' := [(4, .bool false)]) (h' := []) (StC.pure (.cons .im .nil)) ?_
    refine AW.ret ?_
    try simp only [Ex.then, Ex.inBlock, Ex.noGoto, Ex.jump, reduceIte, Nat.reduceEqDiff, reduceCtorEq]
    refine Done.gen rfl (.tmp .nil) ?_
    show _ = _
    kernel_rfl
  · replace H := condF c1 H
    refine AW.skip ?_
    refine AW.seq ?_
    refine AW.regionSeq ?_
    refine OpsW.seg 2 [27, 2, 1] [] [(27, .string t0.Print), (2, .ref 2 0 0), (1, .int .i64 t1)] (by kernel_rfl) trivial ?_
    obtain ⟨x2, hx2, H⟩ := bindS H
    refine OpsW.qcall rfl (by kernel_rfl) rfl rfl (glAll_sound trivial) (.cons (.pur rfl) .nil) (f_table_Text_ok hx2) rfl ?_
    refine OpsW.seg 5 [6, 2, 1] [] [(6, .int .i64 x2.2), (2, .ref 2 0 0), (1, .int .i64 t1)] (by kernel_rfl) trivial ?_
    refine OpsW.nil ?_
    refine AW.regionSeq ?_
    refine OpsW.seg 2 [32, 2, 1] [] [(32, .bool (x2.2 != (0 : Int))), (2, .ref 2 0 0), (1, .int .i64 t1)] (by kernel_rfl) trivial ?_
    refine OpsW.nil ?_
    refine AW.cond (b := x2.2 != (0 : Int)) rfl (fun c3 => ?_) (fun c3 => ?_)
    · replace H := condT c3 H
      refine AW.regionSeq ?_
      refine OpsW.seg 1 [4] [] [(4, .bool false)] (by kernel_rfl) trivial ?_
      refine OpsW.nil ?_
      obtain rfl := Option.some.inj H
      refine AW.recast (env' := [(4, .bool false)]) (h' := []) (StC.pure (.cons .im .nil)) ?_
      refine AW.ret ?_
      try simp only [Ex.then, Ex.inBlock, Ex.noGoto, Ex.jump, reduceIte, Nat.reduceEqDiff, reduceCtorEq]
      refine Done.gen rfl (.tmp .nil) ?_
      show _ = _
      kernel_rfl
    · replace H := condF c3 H
      refine AW.skip ?_
      refine AW.seq ?_
      refine AW.regionSeq ?_
      refine OpsW.seg 18 [50, 2, 1] [(!(decide (t0.Left < (1 : Int)))) = true → (!(decide (t0.Left < (1 : Int)))) = true, (!(decide (t0.Left < (1 : Int)))) = true → (!(decide (t0.Left < (1 : Int)))) = true, (decide (t0.Left < (1 : Int))) = false → (!(decide (t0.Left < (1 : Int)))) = true, (!(cond (decide (t0.Left < (1 : Int))) true (decide ((63 : Int) < t0.Left)))) = true → (!(cond (decide (t0.Left < (1 : Int))) true (decide ((63 : Int) < t0.Left)))) = true, (!(cond (decide (t0.Left < (1 : Int))) true (decide ((63 : Int) < t0.Left)))) = true → (!(cond (decide (t0.Left < (1 : Int))) true (decide ((63 : Int) < t0.Left)))) = true, (cond (decide (t0.Left < (1 : Int))) true (decide ((63 : Int) < t0.Left))) = false → (!(cond (decide (t0.Left < (1 : Int))) true (decide ((63 : Int) < t0.Left)))) = true, (!(cond (cond (decide (t0.Left < (1 : Int))) true (decide ((63 : Int) < t0.Left))) true (decide (t0.Right < (1 : Int))))) = true → (!(cond (cond (decide (t0.Left < (1 : Int))) true (decide ((63 : Int) < t0.Left))) true (decide (t0.Right < (1 : Int))))) = true, (!(cond (cond (decide (t0.Left < (1 : Int))) true (decide ((63 : Int) < t0.Left))) true (decide (t0.Right < (1 : Int))))) = true → (!(cond (cond (decide (t0.Left < (1 : Int))) true (decide ((63 : Int) < t0.Left))) true (decide (t0.Right < (1 : Int))))) = true, (cond (cond (decide (t0.Left < (1 : Int))) true (decide ((63 : Int) < t0.Left))) true (decide (t0.Right < (1 : Int)))) = false → (!(cond (cond (decide (t0.Left < (1 : Int))) true (decide ((63 : Int) < t0.Left))) true (decide (t0.Right < (1 : Int))))) = true] [(50, .bool (cond (cond (cond (decide (t0.Left < (1 : Int))) true (decide ((63 : Int) < t0.Left))) true (decide (t0.Right < (1 : Int)))) true (decide ((63 : Int) < t0.Right)))), (2, .ref 2 0 0), (1, .int .i64 t1)] (by kernel_rfl) ⟨(fun h => h), (fun h => h), (fun h => by first | exact h | simpa using h), (fun h => h), (fun h => h), (fun h => by first | exact h | simpa using h), (fun h => h), (fun h => h), (fun h => by first | exact h | simpa using h), trivial⟩ ?_
      refine OpsW.nil ?_
      refine AW.cond (b := cond (cond (cond (decide (t0.Left < (1 : Int))) true (decide ((63 : Int) < t0.Left))) true (decide (t0.Right < (1 : Int)))) true (decide ((63 : Int) < t0.Right))) rfl (fun c4 => ?_) (fun c4 => ?_)
      · replace H := condT c4 H
        refine AW.regionSeq ?_
        refine OpsW.seg 1 [4] [] [(4, .bool false)] (by kernel_rfl) trivial ?_
        refine OpsW.nil ?_
        obtain rfl := Option.some.inj H
        refine AW.recast (env' := [(4, .bool false)]) (h' := []) (StC.pure (.cons .im .nil)) ?_
        refine AW.ret ?_
        try simp only [Ex.then, Ex.inBlock, Ex.noGoto, Ex.jump, reduceIte, Nat.reduceEqDiff, reduceCtorEq]
        refine Done.gen rfl (.tmp .nil) ?_
        show _ = _
        kernel_rfl
      · replace H := condF c4 H
        refine AW.skip ?_
        refine AW.seq ?_
        refine AW.regionSeq ?_
        refine OpsW.seg 20 [70, 2] [(!(decide (t0.From < (0 : Int)))) = true → (!(decide (t0.From < (0 : Int)))) = true, (!(decide (t0.From < (0 : Int)))) = true → (!(decide (t0.From < (0 : Int)))) = true, (!(decide (t0.From < (0 : Int)))) = true → (!(decide (t0.From < (0 : Int)))) = true, (decide (t0.From < (0 : Int))) = false → (!(decide (t0.From < (0 : Int)))) = true, (!(cond (decide (t0.From < (0 : Int))) true (decide (t1 ≤ t0.From)))) = true → (!(cond (decide (t0.From < (0 : Int))) true (decide (t1 ≤ t0.From)))) = true, (!(cond (decide (t0.From < (0 : Int))) true (decide (t1 ≤ t0.From)))) = true → (!(cond (decide (t0.From < (0 : Int))) true (decide (t1 ≤ t0.From)))) = true, (cond (decide (t0.From < (0 : Int))) true (decide (t1 ≤ t0.From))) = false → (!(cond (decide (t0.From < (0 : Int))) true (decide (t1 ≤ t0.From)))) = true, (!(cond (cond (decide (t0.From < (0 : Int))) true (decide (t1 ≤ t0.From))) true (decide (t0.To < (0 : Int))))) = true → (!(cond (cond (decide (t0.From < (0 : Int))) true (decide (t1 ≤ t0.From))) true (decide (t0.To < (0 : Int))))) = true, (!(cond (cond (decide (t0.From < (0 : Int))) true (decide (t1 ≤ t0.From))) true (decide (t0.To < (0 : Int))))) = true → (!(cond (cond (decide (t0.From < (0 : Int))) true (decide (t1 ≤ t0.From))) true (decide (t0.To < (0 : Int))))) = true, (!(cond (cond (decide (t0.From < (0 : Int))) true (decide (t1 ≤ t0.From))) true (decide (t0.To < (0 : Int))))) = true → (!(cond (cond (decide (t0.From < (0 : Int))) true (decide (t1 ≤ t0.From))) true (decide (t0.To < (0 : Int))))) = true, (cond (cond (decide (t0.From < (0 : Int))) true (decide (t1 ≤ t0.From))) true (decide (t0.To < (0 : Int)))) = false → (!(cond (cond (decide (t0.From < (0 : Int))) true (decide (t1 ≤ t0.From))) true (decide (t0.To < (0 : Int))))) = true] [(70, .bool (cond (cond (cond (decide (t0.From < (0 : Int))) true (decide (t1 ≤ t0.From))) true (decide (t0.To < (0 : Int)))) true (decide (t1 ≤ t0.To)))), (2, .ref 2 0 0)] (by kernel_rfl) ⟨(fun h => h), (fun h => h), (fun h => h), (fun h => by first | exact h | simpa using h), (fun h => h), (fun h => h), (fun h => by first | exact h | simpa using h), (fun h => h), (fun h => h), (fun h => h), (fun h => by first | exact h | simpa using h), trivial⟩ ?_
        refine OpsW.nil ?_
        refine AW.cond (b := cond (cond (cond (decide (t0.From < (0 : Int))) true (decide (t1 ≤ t0.From))) true (decide (t0.To < (0 : Int)))) true (decide (t1 ≤ t0.To))) rfl (fun c5 => ?_) (fun c5 => ?_)
        · replace H := condT c5 H
          refine AW.regionSeq ?_
          refine OpsW.seg 1 [4] [] [(4, .bool false)] (by kernel_rfl) trivial ?_
          refine OpsW.nil ?_
          obtain rfl := Option.some.inj H
          refine AW.recast (env' := [(4, .bool false)]) (h' := []) (StC.pure (.cons .im .nil)) ?_
          refine AW.ret ?_
          try simp only [Ex.then, Ex.inBlock, Ex.noGoto, Ex.jump, reduceIte, Nat.reduceEqDiff, reduceCtorEq]
          refine Done.gen rfl (.tmp .nil) ?_
          show _ = _
          kernel_rfl
        · replace H := condF c5 H
          refine AW.skip ?_
          refine AW.seq ?_
          refine AW.regionSeq ?_
          refine OpsW.seg 2 [72, 2] [] [(72, .string t0.Print), (2, .ref 2 0 0)] (by kernel_rfl) trivial ?_
          obtain ⟨x6, hx6, H⟩ := bindS H
          refine OpsW.qcall rfl (by kernel_rfl) rfl rfl (glAll_sound trivial) (.cons (.pur rfl) .nil) (f_table_hasSpace_ok hx6) rfl ?_
          refine OpsW.seg 0 [73, 2] [] [(73, .bool x6), (2, .ref 2 0 0)] (by kernel_rfl) trivial ?_
          refine OpsW.nil ?_
          refine AW.cond (b := x6) rfl (fun c7 => ?_) (fun c7 => ?_)
          · replace H := condT c7 H
            refine AW.regionSeq ?_
            obtain ⟨g8, H⟩ := G_some H
            refine OpsW.seg 14 [87, 84] [((t0.Print.size : Int) == (1 : Int)) = true → ((t0.Print.size : Int) == (1 : Int)) = true, ((t0.Print.size : Int) == (1 : Int)) = true → ((t0.Print.size : Int) == (1 : Int)) = true, ((t0.Print.size : Int) == (1 : Int)) = true → ((t0.Print.size : Int) == (1 : Int)) = true, ((t0.Print.size : Int) == (1 : Int)) = true → ((t0.Print.size : Int) == (1 : Int)) = true, (cond ((t0.Print.size : Int) == (1 : Int)) ((t0.Cells.length : Int) == (1 : Int)) false) = true → (cond ((t0.Print.size : Int) == (1 : Int)) ((t0.Cells.length : Int) == (1 : Int)) false) = true, (cond ((t0.Print.size : Int) == (1 : Int)) ((t0.Cells.length : Int) == (1 : Int)) false) = true → (cond ((t0.Print.size : Int) == (1 : Int)) ((t0.Cells.length : Int) == (1 : Int)) false) = true, (cond ((t0.Print.size : Int) == (1 : Int)) ((t0.Cells.length : Int) == (1 : Int)) false) = true → (0 ≤ (0 : Int) ∧ (0 : Int) < (t0.Cells.length : Int))] [(87, .cnd (cond ((t0.Print.size : Int) == (1 : Int)) ((t0.Cells.length : Int) == (1 : Int)) false) (.ipt (t0.Cells.flatMap (eI .u8)) ((0 : Int).toNat * 1))), (84, .bool (cond ((t0.Print.size : Int) == (1 : Int)) ((t0.Cells.length : Int) == (1 : Int)) false))] (by kernel_rfl) ⟨(fun h => h), (fun h => h), (fun h => h), (fun h => by first | exact h | simpa using h), (fun h => h), (fun h => h), g8, trivial⟩ ?_
            refine OpsW.asG (c := cond ((t0.Print.size : Int) == (1 : Int)) ((t0.Cells.length : Int) == (1 : Int)) false) (.int .u8 (t0.Cells.getD (0 : Int).toNat (0 : Int))) rfl rfl rfl rfl (fun hc => T.load rfl hc (by kernel_rfl) (fm_cell0 (eI .u8) 1 (fun _ => rfl) t0.Cells (0 : Int) (0 : Int).toNat (ltN (g8 hc)) (fun a => .val (.int .u8 a)) (fun _ => rfl))) ?_
            refine OpsW.seg 3 [4] [(cond ((t0.Print.size : Int) == (1 : Int)) ((t0.Cells.length : Int) == (1 : Int)) false) = true → (cond ((t0.Print.size : Int) == (1 : Int)) ((t0.Cells.length : Int) == (1 : Int)) false) = true, (cond ((t0.Print.size : Int) == (1 : Int)) ((t0.Cells.length : Int) == (1 : Int)) false) = true → (cond ((t0.Print.size : Int) == (1 : Int)) ((t0.Cells.length : Int) == (1 : Int)) false) = true] [(4, .bool (cond (cond ((t0.Print.size : Int) == (1 : Int)) ((t0.Cells.length : Int) == (1 : Int)) false) ((t0.Cells.getD (0 : Int).toNat (0 : Int)) == (0 : Int)) false))] (by kernel_rfl) ⟨(fun h => h), (fun h => by first | exact h | simpa using h), trivial⟩ ?_
            refine OpsW.nil ?_
            obtain rfl := Option.some.inj H
            refine AW.recast (env' := [(4, .bool (cond (cond ((t0.Print.size : Int) == (1 : Int)) ((t0.Cells.length : Int) == (1 : Int)) false) ((t0.Cells.getD (0 : Int).toNat (0 : Int)) == (0 : Int)) false))]) (h' := []) (StC.pure (.cons .im .nil)) ?_
            refine AW.ret ?_
            try simp only [Ex.then, Ex.inBlock, Ex.noGoto, Ex.jump, reduceIte, Nat.reduceEqDiff, reduceCtorEq]
            refine Done.gen rfl (.tmp .nil) ?_
            show _ = _
            kernel_rfl
          · replace H := condF c7 H
            refine AW.skip ?_
            refine AW.seq ?_
            refine AW.regionSeq ?_
            refine OpsW.seg 4 [94, 93, 92] [] [(94, .int .i64 0), (93, .int .i64 (t0.Cells.length : Int)), (92, slA (eI .u8) t0.Cells)] (by kernel_rfl) trivial ?_
            refine OpsW.nil ?_
            refine AW.block ?_
            refine AW.iterK (fun loop (s : Int) => f_table_sound_b1 t0 loop s) r (fun (s : Int) => [(92, slA (eI .u8) t0.Cells), (93, .int .i64 (t0.Cells.length : Int)), (94, .int .i64 s)]) (fun (s : Int) => []) ?_ 1000000 (0 : Int) H (StC.pure (.cons .im (.cons .im (.cons .im .nil))))
            intro loop10 v9 H
            change f_table_sound_b1 t0 loop10 v9 = some r at H
            unfold f_table_sound_b1 at H
            change AW _ _ _ [(92, slA (eI .u8) t0.Cells), (93, .int .i64 (t0.Cells.length : Int)), (94, .int .i64 v9)] [] _
            refine AW.regionSeq ?_
            refine OpsW.seg 1 [95, 92, 93, 94] [] [(95, .bool (decide (v9 < (t0.Cells.length : Int)))), (92, slA (eI .u8) t0.Cells), (93, .int .i64 (t0.Cells.length : Int)), (94, .int .i64 v9)] (by kernel_rfl) trivial ?_
            refine OpsW.nil ?_
            refine AW.seq ?_
            refine AW.cond (b := decide (v9 < (t0.Cells.length : Int))) rfl (fun c11 => ?_) (fun c11 => ?_)
            · replace H := condT c11 H
              refine AW.skip ?_
              refine AW.seq ?_
              refine AW.block ?_
              refine AW.regionSeq ?_
              obtain ⟨g12, H⟩ := G_some H
              refine OpsW.seg 1 [96, 92, 93, 94] [0 ≤ v9 ∧ v9 < (t0.Cells.length : Int)] [(96, .ipt (t0.Cells.flatMap (eI .u8)) (v9.toNat * 1)), (92, slA (eI .u8) t0.Cells), (93, .int .i64 (t0.Cells.length : Int)), (94, .int .i64 v9)] (by kernel_rfl) ⟨g12, trivial⟩ ?_
              refine OpsW.asU (.int .u8 (t0.Cells.getD v9.toNat (0 : Int))) rfl rfl (T.load rfl trivial (by kernel_rfl) (fm_cell0 (eI .u8) 1 (fun _ => rfl) t0.Cells (0 : Int) v9.toNat (ltN g12) (fun a => .val (.int .u8 a)) (fun _ => rfl))) ?_
              refine OpsW.seg 1 [8, 92, 93, 94] [] [(8, .int .u8 (t0.Cells.getD v9.toNat (0 : Int))), (92, slA (eI .u8) t0.Cells), (93, .int .i64 (t0.Cells.length : Int)), (94, .int .i64 v9)] (by kernel_rfl) trivial ?_
              refine OpsW.nil ?_
              refine AW.regionSeq ?_
              refine OpsW.seg 1 [98, 8, 92, 93, 94] [] [(98, .int .u8 (t0.Cells.getD v9.toNat (0 : Int))), (8, .int .u8 (t0.Cells.getD v9.toNat (0 : Int))), (92, slA (eI .u8) t0.Cells), (93, .int .i64 (t0.Cells.length : Int)), (94, .int .i64 v9)] (by kernel_rfl) trivial ?_
              obtain ⟨x13, hx13, H⟩ := bindS H
              refine OpsW.qcall rfl (by kernel_rfl) rfl rfl (glAll_sound trivial) (.cons (.pur rfl) .nil) (f_cell_Valid_ok hx13) rfl ?_
              refine OpsW.seg 9 [108, 92, 93, 94] [(!(!x13)) = true → (!(!x13)) = true, (!x13) = false → (!(!x13)) = true, (!(cond (!x13) true ((t0.Cells.getD v9.toNat (0 : Int)) == (63 : Int)))) = true → (!(cond (!x13) true ((t0.Cells.getD v9.toNat (0 : Int)) == (63 : Int)))) = true, (cond (!x13) true ((t0.Cells.getD v9.toNat (0 : Int)) == (63 : Int))) = false → (!(cond (!x13) true ((t0.Cells.getD v9.toNat (0 : Int)) == (63 : Int)))) = true] [(108, .bool (cond (cond (!x13) true ((t0.Cells.getD v9.toNat (0 : Int)) == (63 : Int))) true ((t0.Cells.getD v9.toNat (0 : Int)) == (0 : Int)))), (92, slA (eI .u8) t0.Cells), (93, .int .i64 (t0.Cells.length : Int)), (94, .int .i64 v9)] (by kernel_rfl) ⟨(fun h => h), (fun h => by first | exact h | simpa using h), (fun h => h), (fun h => by first | exact h | simpa using h), trivial⟩ ?_
              refine OpsW.nil ?_
              refine AW.cond (b := cond (cond (!x13) true ((t0.Cells.getD v9.toNat (0 : Int)) == (63 : Int))) true ((t0.Cells.getD v9.toNat (0 : Int)) == (0 : Int))) rfl (fun c14 => ?_) (fun c14 => ?_)
              · replace H := condT c14 H
                refine AW.regionSeq ?_
                refine OpsW.seg 1 [4] [] [(4, .bool false)] (by kernel_rfl) trivial ?_
                refine OpsW.nil ?_
                obtain rfl := Option.some.inj H
                refine AW.recast (env' := [(4, .bool false)]) (h' := []) (StC.pure (.cons .im .nil)) ?_
                refine AW.ret ?_
                try simp only [Ex.then, Ex.inBlock, Ex.noGoto, Ex.jump, reduceIte, Nat.reduceEqDiff, reduceCtorEq]
                refine Done.gen rfl (.tmp .nil) ?_
                show _ = _
                kernel_rfl
              · replace H := condF c14 H
                refine AW.skip ?_
                refine AW.region ?_
                obtain ⟨g15, H⟩ := G_some H
                refine OpsW.seg 2 [94, 92, 93] [inR (v9 + (1 : Int))] [(94, .int .i64 (v9 + (1 : Int))), (92, slA (eI .u8) t0.Cells), (93, .int .i64 (t0.Cells.length : Int))] (by kernel_rfl) ⟨g15, trivial⟩ ?_
                refine OpsW.nil ?_
                show ∃ y, _ ∧ StC _ _ _ _
                exact ⟨v9 + (1 : Int), H, (StC.pure (.cons .im (.cons .im (.cons .im .nil))))⟩
            · replace H := condF c11 H
              refine AW.exit ?_
              refine AW.regionSeq ?_
              refine OpsW.seg 1 [4] [] [(4, .bool true)] (by kernel_rfl) trivial ?_
              refine OpsW.nil ?_
              obtain rfl := Option.some.inj H
              refine AW.recast (env' := [(4, .bool true)]) (h' := []) (StC.pure (.cons .im .nil)) ?_
              refine AW.ret ?_
              try simp only [Ex.then, Ex.inBlock, Ex.noGoto, Ex.jump, reduceIte, Nat.reduceEqDiff, reduceCtorEq]
              refine Done.gen rfl (.tmp .nil) ?_
              show _ = _
              kernel_rfl
def f_slices_Equal_api_Cell_b1 (t0 : List Int) (t1 : List Int) (loop3 : (Int) → Option Bool) (v2 : Int) : Option Bool :=
  cond (decide (v2 < (t0.length : Int))) (
    G (0 ≤ v2 ∧ v2 < (t0.length : Int)) <|
    G (0 ≤ v2 ∧ v2 < (t1.length : Int)) <|
    cond ((t0.getD v2.toNat (0 : Int)) != (t1.getD v2.toNat (0 : Int))) (
      some false) (
      G (inR (v2 + (1 : Int))) <|
      loop3 (v2 + (1 : Int)))) (
    some true)
def f_slices_Equal_api_Cell (t0 : List Int) (t1 : List Int) : Option Bool :=
  cond ((t0.length : Int) != (t1.length : Int)) (
    some false) (
    iter (fun loop (s : Int) => f_slices_Equal_api_Cell_b1 t0 t1 loop s) 1000000 (0 : Int))
theorem f_slices_Equal_api_Cell_ok  {t0 : List Int} {t1 : List Int} {r : Bool} (H : f_slices_Equal_api_Cell t0 t1 = some r) : QSpec Tryd.prog 53 [slA (eI .u8) t0, slA (eI .u8) t1] (.bool r) := by
  refine Spec.of_AW Tryd.func53 rfl (by simp [Tryd.ntmps53]) ?_
  rw [Tryd.ntmps53]
  unfold f_slices_Equal_api_Cell at H
  change AW _ _ _ [(0, slA (eI .u8) t0), (1, slA (eI .u8) t1)] [] _
  refine AW.regionSeq ?_
  refine OpsW.seg 1 [0, 1] [] [(0, slA (eI .u8) t0), (1, slA (eI .u8) t1)] (by kernel_rfl) trivial ?_
  refine OpsW.nil ?_
  refine AW.seq ?_
  refine AW.regionSeq ?_
  refine OpsW.seg 5 [10, 0, 1] [] [(10, .bool ((t0.length : Int) != (t1.length : Int))), (0, slA (eI .u8) t0), (1, slA (eI .u8) t1)] (by kernel_rfl) trivial ?_
  refine OpsW.nil ?_
  refine AW.cond (b := (t0.length : Int) != (t1.length : Int)) rfl (fun c1 => ?_) (fun c1 => ?_)
  · replace H := condT c1 H
    refine AW.regionSeq ?_
    refine OpsW.seg 1 [4] [] [(4, .bool false)] (by kernel_rfl) trivial ?_
    refine OpsW.nil ?_
    obtain rfl := Option.some.inj H
    refine AW.recast (env' := [(4, .bool false)]) (h' := []) (StC.pure (.cons .im .nil)) ?_
    refine AW.ret ?_
    try simp only [Ex.then, Ex.inBlock, Ex.noGoto, Ex.jump, reduceIte, Nat.reduceEqDiff, reduceCtorEq]
    refine Done.gen rfl (.tmp .nil) ?_
    show _ = _
    kernel_rfl
  · replace H := condF c1 H
    refine AW.skip ?_
    refine AW.seq ?_
    refine AW.regionSeq ?_
    refine OpsW.seg 3 [13, 12, 0, 1] [] [(13, .int .i64 0), (12, .int .i64 (t0.length : Int)), (0, slA (eI .u8) t0), (1, slA (eI .u8) t1)] (by kernel_rfl) trivial ?_
    refine OpsW.nil ?_
    refine AW.block ?_
    refine AW.iterK (fun loop (s : Int) => f_slices_Equal_api_Cell_b1 t0 t1 loop s) r (fun (s : Int) => [(0, slA (eI .u8) t0), (1, slA (eI .u8) t1), (12, .int .i64 (t0.length : Int)), (13, .int .i64 s)]) (fun (s : Int) => []) ?_ 1000000 (0 : Int) H (StC.pure (.cons .im (.cons .im (.cons .im (.cons .im .nil)))))
    intro loop3 v2 H
    change f_slices_Equal_api_Cell_b1 t0 t1 loop3 v2 = some r at H
    unfold f_slices_Equal_api_Cell_b1 at H
    change AW _ _ _ [(0, slA (eI .u8) t0), (1, slA (eI .u8) t1), (12, .int .i64 (t0.length : Int)), (13, .int .i64 v2)] [] _
    refine AW.regionSeq ?_
    refine OpsW.seg 1 [14, 0, 1, 12, 13] [] [(14, .bool (decide (v2 < (t0.length : Int)))), (0, slA (eI .u8) t0), (1, slA (eI .u8) t1), (12, .int .i64 (t0.length : Int)), (13, .int .i64 v2)] (by kernel_rfl) trivial ?_
    refine OpsW.nil ?_
    refine AW.seq ?_
    refine AW.cond (b := decide (v2 < (t0.length : Int))) rfl (fun c4 => ?_) (fun c4 => ?_)
    · replace H := condT c4 H
      refine AW.skip ?_
      refine AW.seq ?_
      refine AW.block ?_
      refine AW.regionSeq ?_
      refine OpsW.seg 2 [5, 0, 1, 12, 13] [] [(5, .int .i64 v2), (0, slA (eI .u8) t0), (1, slA (eI .u8) t1), (12, .int .i64 (t0.length : Int)), (13, .int .i64 v2)] (by kernel_rfl) trivial ?_
      refine OpsW.nil ?_
      refine AW.drawSeq Tryd.checked.mixed (by kernel_rfl) ?_
      obtain ⟨g5, H⟩ := G_some H
      refine QOps.seg (N := 26) 3 [0 ≤ v2 ∧ v2 < (t0.length : Int)] [(18, .ipt (t0.flatMap (eI .u8)) (v2.toNat * 1)), (17, .int .i64 v2), (16, slA (eI .u8) t0), (5, .int .i64 v2), (0, slA (eI .u8) t0), (1, slA (eI .u8) t1), (12, .int .i64 (t0.length : Int)), (13, .int .i64 v2)] (by kernel_rfl) ⟨g5, trivial⟩ ?_
      refine QOps.asU (.int .u8 (t0.getD v2.toNat (0 : Int))) rfl (T.load rfl trivial (by kernel_rfl) (fm_cell0 (eI .u8) 1 (fun _ => rfl) t0 (0 : Int) v2.toNat (ltN g5) (fun a => .val (.int .u8 a)) (fun _ => rfl))) ?_
      obtain ⟨g6, H⟩ := G_some H
      refine QOps.seg (N := 26) 3 [0 ≤ v2 ∧ v2 < (t1.length : Int)] [(22, .ipt (t1.flatMap (eI .u8)) (v2.toNat * 1)), (21, .int .i64 v2), (20, slA (eI .u8) t1), (19, .int .u8 (t0.getD v2.toNat (0 : Int))), (18, .ipt (t0.flatMap (eI .u8)) (v2.toNat * 1)), (17, .int .i64 v2), (16, slA (eI .u8) t0), (5, .int .i64 v2), (0, slA (eI .u8) t0), (1, slA (eI .u8) t1), (12, .int .i64 (t0.length : Int)), (13, .int .i64 v2)] (by kernel_rfl) ⟨g6, trivial⟩ ?_
      refine QOps.asU (.int .u8 (t1.getD v2.toNat (0 : Int))) rfl (T.load rfl trivial (by kernel_rfl) (fm_cell0 (eI .u8) 1 (fun _ => rfl) t1 (0 : Int) v2.toNat (ltN g6) (fun a => .val (.int .u8 a)) (fun _ => rfl))) ?_
      refine QOps.seg (N := 26) 1 [] [(24, .bool ((t0.getD v2.toNat (0 : Int)) != (t1.getD v2.toNat (0 : Int)))), (23, .int .u8 (t1.getD v2.toNat (0 : Int))), (22, .ipt (t1.flatMap (eI .u8)) (v2.toNat * 1)), (21, .int .i64 v2), (20, slA (eI .u8) t1), (19, .int .u8 (t0.getD v2.toNat (0 : Int))), (18, .ipt (t0.flatMap (eI .u8)) (v2.toNat * 1)), (17, .int .i64 v2), (16, slA (eI .u8) t0), (5, .int .i64 v2), (0, slA (eI .u8) t0), (1, slA (eI .u8) t1), (12, .int .i64 (t0.length : Int)), (13, .int .i64 v2)] (by kernel_rfl) trivial ?_
      refine QOps.nil ?_
      refine AW.trim [24, 0, 1, 12, 13] [(24, .bool ((t0.getD v2.toNat (0 : Int)) != (t1.getD v2.toNat (0 : Int)))), (0, slA (eI .u8) t0), (1, slA (eI .u8) t1), (12, .int .i64 (t0.length : Int)), (13, .int .i64 v2)] (by kernel_rfl) ?_
      refine AW.cond (b := (t0.getD v2.toNat (0 : Int)) != (t1.getD v2.toNat (0 : Int))) rfl (fun c7 => ?_) (fun c7 => ?_)
      · replace H := condT c7 H
        refine AW.regionSeq ?_
        refine OpsW.seg 1 [4] [] [(4, .bool false)] (by kernel_rfl) trivial ?_
        refine OpsW.nil ?_
        obtain rfl := Option.some.inj H
        refine AW.recast (env' := [(4, .bool false)]) (h' := []) (StC.pure (.cons .im .nil)) ?_
        refine AW.ret ?_
        try simp only [Ex.then, Ex.inBlock, Ex.noGoto, Ex.jump, reduceIte, Nat.reduceEqDiff, reduceCtorEq]
        refine Done.gen rfl (.tmp .nil) ?_
        show _ = _
        kernel_rfl
      · replace H := condF c7 H
        refine AW.skip ?_
        refine AW.region ?_
        obtain ⟨g8, H⟩ := G_some H
        refine OpsW.seg 2 [13, 0, 1, 12] [inR (v2 + (1 : Int))] [(13, .int .i64 (v2 + (1 : Int))), (0, slA (eI .u8) t0), (1, slA (eI .u8) t1), (12, .int .i64 (t0.length : Int))] (by kernel_rfl) ⟨g8, trivial⟩ ?_
        refine OpsW.nil ?_
        show ∃ y, _ ∧ StC _ _ _ _
        exact ⟨v2 + (1 : Int), H, (StC.pure (.cons .im (.cons .im (.cons .im (.cons .im .nil)))))⟩
    · replace H := condF c4 H
      refine AW.exit ?_
      refine AW.regionSeq ?_
      refine OpsW.seg 1 [4] [] [(4, .bool true)] (by kernel_rfl) trivial ?_
      refine OpsW.nil ?_
      obtain rfl := Option.some.inj H
      refine AW.recast (env' := [(4, .bool true)]) (h' := []) (StC.pure (.cons .im .nil)) ?_
      refine AW.ret ?_
      try simp only [Ex.then, Ex.inBlock, Ex.noGoto, Ex.jump, reduceIte, Nat.reduceEqDiff, reduceCtorEq]
      refine Done.gen rfl (.tmp .nil) ?_
      show _ = _
      kernel_rfl
def f_table_equal (t0 : S_Rule) (t1 : S_Rule) : Option Bool :=
  (cond (cond (cond (cond (cond (t0.From == t1.From) (t0.To == t1.To) false) (t0.Left == t1.Left) false) (t0.Right == t1.Right) false) (t0.Print.toList == t1.Print.toList) false) (f_slices_Equal_api_Cell t0.Cells t1.Cells) (some false)).bind fun x1 =>
  some (cond (cond (cond (cond (cond (t0.From == t1.From) (t0.To == t1.To) false) (t0.Left == t1.Left) false) (t0.Right == t1.Right) false) (t0.Print.toList == t1.Print.toList) false) x1 false)
theorem f_table_equal_ok  {t0 : S_Rule} {t1 : S_Rule} {r : Bool} (H : f_table_equal t0 t1 = some r) : QSpec Tryd.prog 33 [.agg [.string t0.Print, slA (eI .u8) t0.Cells, .int .u8 t0.Left, .int .u8 t0.Right, .int .i64 t0.From, .int .i64 t0.To], .agg [.string t1.Print, slA (eI .u8) t1.Cells, .int .u8 t1.Left, .int .u8 t1.Right, .int .i64 t1.From, .int .i64 t1.To]] (.bool r) := by
  refine Spec.of_AW Tryd.func33 rfl (by simp [Tryd.ntmps33]) ?_
  rw [Tryd.ntmps33]
  unfold f_table_equal at H
  change AW _ _ _ [(0, .agg [.string t0.Print, slA (eI .u8) t0.Cells, .int .u8 t0.Left, .int .u8 t0.Right, .int .i64 t0.From, .int .i64 t0.To]), (1, .agg [.string t1.Print, slA (eI .u8) t1.Cells, .int .u8 t1.Left, .int .u8 t1.Right, .int .i64 t1.From, .int .i64 t1.To])] [] _
  refine AW.regionSeq ?_
  refine OpsW.box rfl rfl rfl 2 rfl (okCb_sound (by kernel_rfl)) ?_
  change OpsW _ _ _ _ _ [(2, ⟨0, true, 36, 6, [.string t0.Print, slA (eI .u8) t0.Cells, .int .u8 t0.Left, .int .u8 t0.Right, .int .i64 t0.From, .int .i64 t0.To]⟩)] _
  refine OpsW.box rfl rfl rfl 3 rfl (okCb_sound (by kernel_rfl)) ?_
  change OpsW _ _ _ _ _ [(3, ⟨0, true, 36, 6, [.string t1.Print, slA (eI .u8) t1.Cells, .int .u8 t1.Left, .int .u8 t1.Right, .int .i64 t1.From, .int .i64 t1.To]⟩), (2, ⟨0, true, 36, 6, [.string t0.Print, slA (eI .u8) t0.Cells, .int .u8 t0.Left, .int .u8 t0.Right, .int .i64 t0.From, .int .i64 t0.To]⟩)] _
  refine OpsW.seg 1 [3, 2] [] [(3, .ref 3 0 0), (2, .ref 2 0 0)] (by kernel_rfl) trivial ?_
  refine OpsW.recast (env' := [(3, .ref 3 0 0), (2, .ref 2 0 0)]) (h' := [(2, ⟨0, true, 36, 6, [.string t0.Print, slA (eI .u8) t0.Cells, .int .u8 t0.Left, .int .u8 t0.Right, .int .i64 t0.From, .int .i64 t0.To]⟩), (3, ⟨0, true, 36, 6, [.string t1.Print, slA (eI .u8) t1.Cells, .int .u8 t1.Left, .int .u8 t1.Right, .int .i64 t1.From, .int .i64 t1.To]⟩)]) (StC.mk (phi [(2, some 2), (3, some 3)]) (.old rfl rfl rfl rfl rfl (.cons .im (.cons .im (.cons .im (.cons .im (.cons .im (.cons .im .nil)))))) (.old rfl rfl rfl rfl rfl (.cons .im (.cons .im (.cons .im (.cons .im (.cons .im (.cons .im .nil)))))) .nil)) rfl (.cons (.ref rfl rfl rfl rfl rfl) (.cons (.ref rfl rfl rfl rfl rfl) .nil))) ?_
  refine OpsW.nil ?_
  refine AW.regionSeq ?_
  refine OpsW.seg 38 [42, 40, 38] [(t0.From == t1.From) = true → (t0.From == t1.From) = true, (t0.From == t1.From) = true → (t0.From == t1.From) = true, (t0.From == t1.From) = true → (t0.From == t1.From) = true, (t0.From == t1.From) = true → (t0.From == t1.From) = true, (t0.From == t1.From) = true → (t0.From == t1.From) = true, (cond (t0.From == t1.From) (t0.To == t1.To) false) = true → (cond (t0.From == t1.From) (t0.To == t1.To) false) = true, (cond (t0.From == t1.From) (t0.To == t1.To) false) = true → (cond (t0.From == t1.From) (t0.To == t1.To) false) = true, (cond (t0.From == t1.From) (t0.To == t1.To) false) = true → (cond (t0.From == t1.From) (t0.To == t1.To) false) = true, (cond (t0.From == t1.From) (t0.To == t1.To) false) = true → (cond (t0.From == t1.From) (t0.To == t1.To) false) = true, (cond (t0.From == t1.From) (t0.To == t1.To) false) = true → (cond (t0.From == t1.From) (t0.To == t1.To) false) = true, (cond (cond (t0.From == t1.From) (t0.To == t1.To) false) (t0.Left == t1.Left) false) = true → (cond (cond (t0.From == t1.From) (t0.To == t1.To) false) (t0.Left == t1.Left) false) = true, (cond (cond (t0.From == t1.From) (t0.To == t1.To) false) (t0.Left == t1.Left) false) = true → (cond (cond (t0.From == t1.From) (t0.To == t1.To) false) (t0.Left == t1.Left) false) = true, (cond (cond (t0.From == t1.From) (t0.To == t1.To) false) (t0.Left == t1.Left) false) = true → (cond (cond (t0.From == t1.From) (t0.To == t1.To) false) (t0.Left == t1.Left) false) = true, (cond (cond (t0.From == t1.From) (t0.To == t1.To) false) (t0.Left == t1.Left) false) = true → (cond (cond (t0.From == t1.From) (t0.To == t1.To) false) (t0.Left == t1.Left) false) = true, (cond (cond (t0.From == t1.From) (t0.To == t1.To) false) (t0.Left == t1.Left) false) = true → (cond (cond (t0.From == t1.From) (t0.To == t1.To) false) (t0.Left == t1.Left) false) = true, (cond (cond (cond (t0.From == t1.From) (t0.To == t1.To) false) (t0.Left == t1.Left) false) (t0.Right == t1.Right) false) = true → (cond (cond (cond (t0.From == t1.From) (t0.To == t1.To) false) (t0.Left == t1.Left) false) (t0.Right == t1.Right) false) = true, (cond (cond (cond (t0.From == t1.From) (t0.To == t1.To) false) (t0.Left == t1.Left) false) (t0.Right == t1.Right) false) = true → (cond (cond (cond (t0.From == t1.From) (t0.To == t1.To) false) (t0.Left == t1.Left) false) (t0.Right == t1.Right) false) = true, (cond (cond (cond (t0.From == t1.From) (t0.To == t1.To) false) (t0.Left == t1.Left) false) (t0.Right == t1.Right) false) = true → (cond (cond (cond (t0.From == t1.From) (t0.To == t1.To) false) (t0.Left == t1.Left) false) (t0.Right == t1.Right) false) = true, (cond (cond (cond (t0.From == t1.From) (t0.To == t1.To) false) (t0.Left == t1.Left) false) (t0.Right == t1.Right) false) = true → (cond (cond (cond (t0.From == t1.From) (t0.To == t1.To) false) (t0.Left == t1.Left) false) (t0.Right == t1.Right) false) = true, (cond (cond (cond (t0.From == t1.From) (t0.To == t1.To) false) (t0.Left == t1.Left) false) (t0.Right == t1.Right) false) = true → (cond (cond (cond (t0.From == t1.From) (t0.To == t1.To) false) (t0.Left == t1.Left) false) (t0.Right == t1.Right) false) = true, (cond (cond (cond (cond (t0.From == t1.From) (t0.To == t1.To) false) (t0.Left == t1.Left) false) (t0.Right == t1.Right) false) (t0.Print.toList == t1.Print.toList) false) = true → (cond (cond (cond (cond (t0.From == t1.From) (t0.To == t1.To) false) (t0.Left == t1.Left) false) (t0.Right == t1.Right) false) (t0.Print.toList == t1.Print.toList) false) = true, (cond (cond (cond (cond (t0.From == t1.From) (t0.To == t1.To) false) (t0.Left == t1.Left) false) (t0.Right == t1.Right) false) (t0.Print.toList == t1.Print.toList) false) = true → (cond (cond (cond (cond (t0.From == t1.From) (t0.To == t1.To) false) (t0.Left == t1.Left) false) (t0.Right == t1.Right) false) (t0.Print.toList == t1.Print.toList) false) = true] [(42, .cnd (cond (cond (cond (cond (t0.From == t1.From) (t0.To == t1.To) false) (t0.Left == t1.Left) false) (t0.Right == t1.Right) false) (t0.Print.toList == t1.Print.toList) false) (slA (eI .u8) t1.Cells)), (40, .cnd (cond (cond (cond (cond (t0.From == t1.From) (t0.To == t1.To) false) (t0.Left == t1.Left) false) (t0.Right == t1.Right) false) (t0.Print.toList == t1.Print.toList) false) (slA (eI .u8) t0.Cells)), (38, .bool (cond (cond (cond (cond (t0.From == t1.From) (t0.To == t1.To) false) (t0.Left == t1.Left) false) (t0.Right == t1.Right) false) (t0.Print.toList == t1.Print.toList) false))] (by kernel_rfl) ⟨(fun h => h), (fun h => h), (fun h => h), (fun h => h), (fun h => by first | exact h | simpa using h), (fun h => h), (fun h => h), (fun h => h), (fun h => h), (fun h => by first | exact h | simpa using h), (fun h => h), (fun h => h), (fun h => h), (fun h => h), (fun h => by first | exact h | simpa using h), (fun h => h), (fun h => h), (fun h => h), (fun h => h), (fun h => by first | exact h | simpa using h), (fun h => h), (fun h => h), trivial⟩ ?_
  obtain ⟨x1, hx1, H⟩ := bindS H
  refine OpsW.gcall (c := cond (cond (cond (cond (t0.From == t1.From) (t0.To == t1.To) false) (t0.Left == t1.Left) false) (t0.Right == t1.Right) false) (t0.Print.toList == t1.Print.toList) false) (r := .bool x1) [] rfl (by kernel_rfl) rfl rfl rfl rfl (fun hc => ⟨glAll_sound ⟨hc, hc, trivial⟩, (.cons (.pur rfl) (.cons (.pur rfl) .nil)), f_slices_Equal_api_Cell_ok (condT hc hx1), .inl ⟨rfl, rfl⟩⟩) ?_
  refine OpsW.seg 2 [4] [(cond (cond (cond (cond (t0.From == t1.From) (t0.To == t1.To) false) (t0.Left == t1.Left) false) (t0.Right == t1.Right) false) (t0.Print.toList == t1.Print.toList) false) = true → (cond (cond (cond (cond (t0.From == t1.From) (t0.To == t1.To) false) (t0.Left == t1.Left) false) (t0.Right == t1.Right) false) (t0.Print.toList == t1.Print.toList) false) = true] [(4, .bool (cond (cond (cond (cond (cond (t0.From == t1.From) (t0.To == t1.To) false) (t0.Left == t1.Left) false) (t0.Right == t1.Right) false) (t0.Print.toList == t1.Print.toList) false) x1 false))] (by kernel_rfl) ⟨(fun h => by first | exact h | simpa using h), trivial⟩ ?_
  refine OpsW.nil ?_
  obtain rfl := Option.some.inj H
  refine AW.recast (env' := [(4, .bool (cond (cond (cond (cond (cond (t0.From == t1.From) (t0.To == t1.To) false) (t0.Left == t1.Left) false) (t0.Right == t1.Right) false) (t0.Print.toList == t1.Print.toList) false) x1 false))]) (h' := []) (StC.pure (.cons .im .nil)) ?_
  refine AW.ret ?_
  try simp only [Ex.then, Ex.inBlock, Ex.noGoto, Ex.jump, reduceIte, Nat.reduceEqDiff, reduceCtorEq]
  refine Done.gen rfl (.tmp .nil) ?_
  show _ = _
  kernel_rfl
def f_table_Check_b1 (loop7 : (S_Table × Int) → Option (Int × Int)) (v5 : S_Table) (v6 : Int) (loop16 : (S_Table × S_Rule × Int) → Option (Int × Int)) (v13 : S_Table) (v14 : S_Rule) (v15 : Int) : Option (Int × Int) :=
  cond (decide (v15 < ((v5.Rules.take v6.toNat).length : Int))) (
    G (0 ≤ v15 ∧ v15 < ((v5.Rules.take v6.toNat).length : Int)) <|
    (f_table_equal ((v5.Rules.take v6.toNat).getD v15.toNat zS_Rule) v14).bind fun x19 =>
    cond x19 (
      some (v6, (20 : Int))) (
      G (inR (v15 + (1 : Int))) <|
      loop16 (v13, v14, v15 + (1 : Int)))) (
    G (inR (v6 + (1 : Int))) <|
    loop7 (v13, v6 + (1 : Int)))
def f_table_Check_b2 (t0 : S_Table) (loop7 : (S_Table × Int) → Option (Int × Int)) (v5 : S_Table) (v6 : Int) : Option (Int × Int) :=
  cond (decide (v6 < (t0.Rules.length : Int))) (
    G (0 ≤ v6 ∧ v6 < (t0.Rules.length : Int)) <|
    (f_table_sound (t0.Rules.getD v6.toNat zS_Rule) v5.Modes).bind fun x10 =>
    cond (!x10) (
      some (v6, (20 : Int))) (
      G (0 ≤ v6 ∧ v6 ≤ (v5.Rules.length : Int)) <|
      iter (fun loop (s : S_Table × S_Rule × Int) => f_table_Check_b1 loop7 v5 v6 loop s.1 s.2.1 s.2.2) 1000000 (v5, (t0.Rules.getD v6.toNat zS_Rule), (0 : Int)))) (
    some ((0 : Int), (0 : Int)))
def f_table_Check (t0 : S_Table) : Option (Int × Int) :=
  cond (cond (decide (t0.Modes < (1 : Int))) true (decide ((8 : Int) < t0.Modes))) (
    some ((-1 : Int), (1 : Int))) (
    G ((!(t0.Accept == (0 : Int))) = true → 0 ≤ t0.Modes) <|
    cond (cond (t0.Accept == (0 : Int)) true (decide ((bShl .i64 (1 : Int) t0.Modes) ≤ (IntKind.wrap .i64 t0.Accept)))) (
      some ((-1 : Int), (1 : Int))) (
      cond (cond (decide ((t0.Rules.length : Int) < (1 : Int))) true (decide ((64 : Int) < (t0.Rules.length : Int)))) (
        some ((-1 : Int), (1 : Int))) (
        iter (fun loop (s : S_Table × Int) => f_table_Check_b2 t0 loop s.1 s.2) 1000000 (t0, (0 : Int)))))
theorem f_table_Check_ok  {t0 : S_Table} {r : Int × Int} (H : f_table_Check t0 = some r) : QSpec Tryd.prog 18 [.agg [.int .i64 t0.Modes, .int .u8 t0.Accept, slA eS_Rule t0.Rules]] (.tup [.int .i64 r.1, .int .i64 r.2]) := by
  refine Spec.of_AW Tryd.func18 rfl (by simp [Tryd.ntmps18]) ?_
  rw [Tryd.ntmps18]
  unfold f_table_Check at H
  change AW _ _ _ [(0, .agg [.int .i64 t0.Modes, .int .u8 t0.Accept, slA eS_Rule t0.Rules])] [] _
  refine AW.regionSeq ?_
  refine OpsW.box rfl rfl rfl 1 rfl (okCb_sound (by kernel_rfl)) ?_
  change OpsW _ _ _ _ _ [(1, ⟨0, true, 33, 3, [.int .i64 t0.Modes, .int .u8 t0.Accept, slA eS_Rule t0.Rules]⟩)] _
  refine OpsW.seg 2 [1] [] [(1, .ref 1 0 0)] (by kernel_rfl) trivial ?_
  refine OpsW.recast (env' := [(1, .ref 1 0 0)]) (h' := [(1, ⟨0, true, 33, 3, [.int .i64 t0.Modes, .int .u8 t0.Accept, slA eS_Rule t0.Rules]⟩)]) (StC.mk (phi [(1, some 1)]) (.old rfl rfl rfl rfl rfl (.cons .im (.cons .im (.cons .im .nil))) .nil) rfl (.cons (.ref rfl rfl rfl rfl rfl) .nil)) ?_
  refine OpsW.nil ?_
  refine AW.seq ?_
  refine AW.regionSeq ?_
  refine OpsW.seg 8 [15, 1] [(!(decide (t0.Modes < (1 : Int)))) = true → (!(decide (t0.Modes < (1 : Int)))) = true, (!(decide (t0.Modes < (1 : Int)))) = true → (!(decide (t0.Modes < (1 : Int)))) = true, (decide (t0.Modes < (1 : Int))) = false → (!(decide (t0.Modes < (1 : Int)))) = true] [(15, .bool (cond (decide (t0.Modes < (1 : Int))) true (decide ((8 : Int) < t0.Modes)))), (1, .ref 1 0 0)] (by kernel_rfl) ⟨(fun h => h), (fun h => h), (fun h => by first | exact h | simpa using h), trivial⟩ ?_
  refine OpsW.nil ?_
  refine AW.cond (b := cond (decide (t0.Modes < (1 : Int))) true (decide ((8 : Int) < t0.Modes))) rfl (fun c1 => ?_) (fun c1 => ?_)
  · replace H := condT c1 H
    refine AW.regionSeq ?_
    refine OpsW.seg 2 [3, 2] [] [(3, .int .i64 1), (2, .int .i64 (-1 : Int))] (by kernel_rfl) trivial ?_
    refine OpsW.nil ?_
    obtain rfl := Option.some.inj H
    refine AW.recast (env' := [(2, .int .i64 (-1 : Int)), (3, .int .i64 1)]) (h' := []) (StC.pure (.cons .im (.cons .im .nil))) ?_
    refine AW.ret ?_
    try simp only [Ex.then, Ex.inBlock, Ex.noGoto, Ex.jump, reduceIte, Nat.reduceEqDiff, reduceCtorEq]
    refine Done.gen rfl (.tmp (.tmp .nil)) ?_
    show _ = _
    kernel_rfl
  · replace H := condF c1 H
    refine AW.skip ?_
    refine AW.seq ?_
    refine AW.drawSeq Tryd.checked.mixed (by kernel_rfl) ?_
    obtain ⟨g2, H⟩ := G_some H
    refine QOps.seg (N := 67) 12 [(!(t0.Accept == (0 : Int))) = true → (!(t0.Accept == (0 : Int))) = true, (!(t0.Accept == (0 : Int))) = true → (!(t0.Accept == (0 : Int))) = true, (!(t0.Accept == (0 : Int))) = true → (!(t0.Accept == (0 : Int))) = true, (!(t0.Accept == (0 : Int))) = true → (!(t0.Accept == (0 : Int))) = true, (!(t0.Accept == (0 : Int))) = true → 0 ≤ t0.Modes, (!(t0.Accept == (0 : Int))) = true → (!(t0.Accept == (0 : Int))) = true, (!(t0.Accept == (0 : Int))) = true → (!(t0.Accept == (0 : Int))) = true, (t0.Accept == (0 : Int)) = false → (!(t0.Accept == (0 : Int))) = true] [(27, .bool (cond (t0.Accept == (0 : Int)) true (decide ((bShl .i64 (1 : Int) t0.Modes) ≤ (IntKind.wrap .i64 t0.Accept))))), (26, .cnd (!(t0.Accept == (0 : Int))) (.bool (decide ((bShl .i64 (1 : Int) t0.Modes) ≤ (IntKind.wrap .i64 t0.Accept))))), (25, .cnd (!(t0.Accept == (0 : Int))) (.int .i64 (bShl .i64 (1 : Int) t0.Modes))), (24, .cnd (!(t0.Accept == (0 : Int))) (.int .i64 t0.Modes)), (23, .cnd (!(t0.Accept == (0 : Int))) (.ref 1 0 0)), (22, .cnd (!(t0.Accept == (0 : Int))) (.int .i64 (IntKind.wrap .i64 t0.Accept))), (21, .cnd (!(t0.Accept == (0 : Int))) (.int .u8 t0.Accept)), (20, .cnd (!(t0.Accept == (0 : Int))) (.ref 1 0 1)), (19, .bool (t0.Accept == (0 : Int))), (18, .bool (t0.Accept == (0 : Int))), (17, .int .u8 t0.Accept), (16, .ref 1 0 1), (15, .bool (cond (decide (t0.Modes < (1 : Int))) true (decide ((8 : Int) < t0.Modes)))), (1, .ref 1 0 0)] (by kernel_rfl) ⟨(fun h => h), (fun h => h), (fun h => h), (fun h => h), g2, (fun h => h), (fun h => h), (fun h => by first | exact h | simpa using h), trivial⟩ ?_
    refine QOps.nil ?_
    refine AW.trim [27, 1] [(27, .bool (cond (t0.Accept == (0 : Int)) true (decide ((bShl .i64 (1 : Int) t0.Modes) ≤ (IntKind.wrap .i64 t0.Accept))))), (1, .ref 1 0 0)] (by kernel_rfl) ?_
    refine AW.cond (b := cond (t0.Accept == (0 : Int)) true (decide ((bShl .i64 (1 : Int) t0.Modes) ≤ (IntKind.wrap .i64 t0.Accept)))) rfl (fun c3 => ?_) (fun c3 => ?_)
    · replace H := condT c3 H
      refine AW.regionSeq ?_
      refine OpsW.seg 2 [3, 2] [] [(3, .int .i64 1), (2, .int .i64 (-1 : Int))] (by kernel_rfl) trivial ?_
      refine OpsW.nil ?_
      obtain rfl := Option.some.inj H
      refine AW.recast (env' := [(2, .int .i64 (-1 : Int)), (3, .int .i64 1)]) (h' := []) (StC.pure (.cons .im (.cons .im .nil))) ?_
      refine AW.ret ?_
      try simp only [Ex.then, Ex.inBlock, Ex.noGoto, Ex.jump, reduceIte, Nat.reduceEqDiff, reduceCtorEq]
      refine Done.gen rfl (.tmp (.tmp .nil)) ?_
      show _ = _
      kernel_rfl
    · replace H := condF c3 H
      refine AW.skip ?_
      refine AW.seq ?_
      refine AW.regionSeq ?_
      refine OpsW.seg 10 [37, 1] [(!(decide ((t0.Rules.length : Int) < (1 : Int)))) = true → (!(decide ((t0.Rules.length : Int) < (1 : Int)))) = true, (!(decide ((t0.Rules.length : Int) < (1 : Int)))) = true → (!(decide ((t0.Rules.length : Int) < (1 : Int)))) = true, (!(decide ((t0.Rules.length : Int) < (1 : Int)))) = true → (!(decide ((t0.Rules.length : Int) < (1 : Int)))) = true, (decide ((t0.Rules.length : Int) < (1 : Int))) = false → (!(decide ((t0.Rules.length : Int) < (1 : Int)))) = true] [(37, .bool (cond (decide ((t0.Rules.length : Int) < (1 : Int))) true (decide ((64 : Int) < (t0.Rules.length : Int))))), (1, .ref 1 0 0)] (by kernel_rfl) ⟨(fun h => h), (fun h => h), (fun h => h), (fun h => by first | exact h | simpa using h), trivial⟩ ?_
      refine OpsW.nil ?_
      refine AW.cond (b := cond (decide ((t0.Rules.length : Int) < (1 : Int))) true (decide ((64 : Int) < (t0.Rules.length : Int)))) rfl (fun c4 => ?_) (fun c4 => ?_)
      · replace H := condT c4 H
        refine AW.regionSeq ?_
        refine OpsW.seg 2 [3, 2] [] [(3, .int .i64 1), (2, .int .i64 (-1 : Int))] (by kernel_rfl) trivial ?_
        refine OpsW.nil ?_
        obtain rfl := Option.some.inj H
        refine AW.recast (env' := [(2, .int .i64 (-1 : Int)), (3, .int .i64 1)]) (h' := []) (StC.pure (.cons .im (.cons .im .nil))) ?_
        refine AW.ret ?_
        try simp only [Ex.then, Ex.inBlock, Ex.noGoto, Ex.jump, reduceIte, Nat.reduceEqDiff, reduceCtorEq]
        refine Done.gen rfl (.tmp (.tmp .nil)) ?_
        show _ = _
        kernel_rfl
      · replace H := condF c4 H
        refine AW.skip ?_
        refine AW.seq ?_
        refine AW.regionSeq ?_
        refine OpsW.seg 4 [41, 40, 39, 1] [] [(41, .int .i64 0), (40, .int .i64 (t0.Rules.length : Int)), (39, slA eS_Rule t0.Rules), (1, .ref 1 0 0)] (by kernel_rfl) trivial ?_
        refine OpsW.nil ?_
        refine AW.block ?_
        refine AW.iterK (fun loop (s : S_Table × Int) => f_table_Check_b2 t0 loop s.1 s.2) r (fun (s : S_Table × Int) => [(1, .ref 1 0 0), (39, slA eS_Rule t0.Rules), (40, .int .i64 (t0.Rules.length : Int)), (41, .int .i64 s.2)]) (fun (s : S_Table × Int) => [(1, ⟨0, true, 33, 3, [.int .i64 s.1.Modes, .int .u8 s.1.Accept, slA eS_Rule s.1.Rules]⟩)]) ?_ 1000000 (t0, (0 : Int)) H (StC.mk (phi [(1, some 1)]) (.old rfl rfl rfl rfl rfl (.cons .im (.cons .im (.cons .im .nil))) .nil) rfl (.cons (.ref rfl rfl rfl rfl rfl) (.cons .im (.cons .im (.cons .im .nil)))))
        intro loop7 s H
        obtain ⟨v5, v6⟩ := s
        change f_table_Check_b2 t0 loop7 v5 v6 = some r at H
        unfold f_table_Check_b2 at H
        change AW _ _ _ [(1, .ref 1 0 0), (39, slA eS_Rule t0.Rules), (40, .int .i64 (t0.Rules.length : Int)), (41, .int .i64 v6)] [(1, ⟨0, true, 33, 3, [.int .i64 v5.Modes, .int .u8 v5.Accept, slA eS_Rule v5.Rules]⟩)] _
        refine AW.regionSeq ?_
        refine OpsW.seg 1 [42, 1, 39, 40, 41] [] [(42, .bool (decide (v6 < (t0.Rules.length : Int)))), (1, .ref 1 0 0), (39, slA eS_Rule t0.Rules), (40, .int .i64 (t0.Rules.length : Int)), (41, .int .i64 v6)] (by kernel_rfl) trivial ?_
        refine OpsW.nil ?_
        refine AW.seq ?_
        refine AW.cond (b := decide (v6 < (t0.Rules.length : Int))) rfl (fun c8 => ?_) (fun c8 => ?_)
        · replace H := condT c8 H
          refine AW.skip ?_
          refine AW.seq ?_
          refine AW.block ?_
          refine AW.regionSeq ?_
          obtain ⟨g9, H⟩ := G_some H
          refine OpsW.seg 2 [44, 43, 1, 39, 40, 41] [0 ≤ v6 ∧ v6 < (t0.Rules.length : Int)] [(44, .ipt (t0.Rules.flatMap eS_Rule) (v6.toNat * 6)), (43, .int .i64 v6), (1, .ref 1 0 0), (39, slA eS_Rule t0.Rules), (40, .int .i64 (t0.Rules.length : Int)), (41, .int .i64 v6)] (by kernel_rfl) ⟨g9, trivial⟩ ?_
          refine OpsW.asU (.agg [.string ((t0.Rules.getD v6.toNat zS_Rule).Print), slA (eI .u8) ((t0.Rules.getD v6.toNat zS_Rule).Cells), .int .u8 ((t0.Rules.getD v6.toNat zS_Rule).Left), .int .u8 ((t0.Rules.getD v6.toNat zS_Rule).Right), .int .i64 ((t0.Rules.getD v6.toNat zS_Rule).From), .int .i64 ((t0.Rules.getD v6.toNat zS_Rule).To)]) rfl rfl (T.loadAgg (cs := t0.Rules.flatMap eS_Rule) (off := v6.toNat * 6) (ds := eS_Rule (t0.Rules.getD v6.toNat zS_Rule)) rfl trivial (by kernel_rfl) (by have := fm_length eS_Rule 6 (fun _ => rfl) t0.Rules; have := (ltN g9); omega) (fm_elem eS_Rule 6 (fun _ => rfl) t0.Rules zS_Rule v6.toNat (ltN g9))) ?_
          refine OpsW.alloc' rfl rfl rfl 5 rfl (by kernel_rfl : zc Tryd.prog 36 = some [.string ⟨#[]⟩, .slice none 0 0, .int .u8 0, .int .u8 0, .int .i64 0, .int .i64 0]) (by kernel_rfl) ?_
          refine OpsW.seg 1 [4, 5, 45, 1, 39, 40, 41] [] [(4, .int .i64 v6), (5, .ref 5 0 0), (45, .agg [.string ((t0.Rules.getD v6.toNat zS_Rule).Print), slA (eI .u8) ((t0.Rules.getD v6.toNat zS_Rule).Cells), .int .u8 ((t0.Rules.getD v6.toNat zS_Rule).Left), .int .u8 ((t0.Rules.getD v6.toNat zS_Rule).Right), .int .i64 ((t0.Rules.getD v6.toNat zS_Rule).From), .int .i64 ((t0.Rules.getD v6.toNat zS_Rule).To)]), (1, .ref 1 0 0), (39, slA eS_Rule t0.Rules), (40, .int .i64 (t0.Rules.length : Int)), (41, .int .i64 v6)] (by kernel_rfl) trivial ?_
          refine OpsW.store rfl rfl rfl rfl trivial trivial rfl rfl rfl (by kernel_rfl) (okCb_sound (by kernel_rfl)) (Nat.le_of_ble_eq_true (by kernel_rfl)) ?_
          change OpsW _ _ _ _ _ [(5, ⟨0, true, 36, 6, [.string ((t0.Rules.getD v6.toNat zS_Rule).Print), slA (eI .u8) ((t0.Rules.getD v6.toNat zS_Rule).Cells), .int .u8 ((t0.Rules.getD v6.toNat zS_Rule).Left), .int .u8 ((t0.Rules.getD v6.toNat zS_Rule).Right), .int .i64 ((t0.Rules.getD v6.toNat zS_Rule).From), .int .i64 ((t0.Rules.getD v6.toNat zS_Rule).To)]⟩), (5, ⟨0, true, 36, 6, [.string (⟨#[]⟩ : ByteArray), .im (.val (.slice none 0 0)), .int .u8 0, .int .u8 0, .int .i64 0, .int .i64 0]⟩), (1, ⟨0, true, 33, 3, [.int .i64 v5.Modes, .int .u8 v5.Accept, slA eS_Rule v5.Rules]⟩)] _
          refine OpsW.seg 0 [4, 5, 1, 39, 40, 41] [] [(4, .int .i64 v6), (5, .ref 5 0 0), (1, .ref 1 0 0), (39, slA eS_Rule t0.Rules), (40, .int .i64 (t0.Rules.length : Int)), (41, .int .i64 v6)] (by kernel_rfl) trivial ?_
          refine OpsW.recast (env' := [(4, .int .i64 v6), (5, .ref 5 0 0), (1, .ref 1 0 0), (39, slA eS_Rule t0.Rules), (40, .int .i64 (t0.Rules.length : Int)), (41, .int .i64 v6)]) (h' := [(1, ⟨0, true, 33, 3, [.int .i64 v5.Modes, .int .u8 v5.Accept, slA eS_Rule v5.Rules]⟩), (5, ⟨0, true, 36, 6, [.string ((t0.Rules.getD v6.toNat zS_Rule).Print), slA (eI .u8) ((t0.Rules.getD v6.toNat zS_Rule).Cells), .int .u8 ((t0.Rules.getD v6.toNat zS_Rule).Left), .int .u8 ((t0.Rules.getD v6.toNat zS_Rule).Right), .int .i64 ((t0.Rules.getD v6.toNat zS_Rule).From), .int .i64 ((t0.Rules.getD v6.toNat zS_Rule).To)]⟩)]) (StC.mk (phi [(1, some 1), (5, some 5)]) (.old rfl rfl rfl rfl rfl (.cons .im (.cons .im (.cons .im .nil))) (.old rfl rfl rfl rfl rfl (.cons .im (.cons .im (.cons .im (.cons .im (.cons .im (.cons .im .nil)))))) .nil)) rfl (.cons .im (.cons (.ref rfl rfl rfl rfl rfl) (.cons (.ref rfl rfl rfl rfl rfl) (.cons .im (.cons .im (.cons .im .nil))))))) ?_
          refine OpsW.nil ?_
          refine AW.seq ?_
          refine AW.regionSeq ?_
          refine OpsW.seg 3 [48, 46, 4, 5, 1, 39, 40, 41] [] [(48, .int .i64 v5.Modes), (46, .agg [.string ((t0.Rules.getD v6.toNat zS_Rule).Print), slA (eI .u8) ((t0.Rules.getD v6.toNat zS_Rule).Cells), .int .u8 ((t0.Rules.getD v6.toNat zS_Rule).Left), .int .u8 ((t0.Rules.getD v6.toNat zS_Rule).Right), .int .i64 ((t0.Rules.getD v6.toNat zS_Rule).From), .int .i64 ((t0.Rules.getD v6.toNat zS_Rule).To)]), (4, .int .i64 v6), (5, .ref 5 0 0), (1, .ref 1 0 0), (39, slA eS_Rule t0.Rules), (40, .int .i64 (t0.Rules.length : Int)), (41, .int .i64 v6)] (by kernel_rfl) trivial ?_
          obtain ⟨x10, hx10, H⟩ := bindS H
          refine OpsW.qcall rfl (by kernel_rfl) rfl rfl (glAll_sound trivial) (.cons (.pur rfl) (.cons (.pur rfl) .nil)) (f_table_sound_ok hx10) rfl ?_
          refine OpsW.seg 1 [50, 4, 5, 1, 39, 40, 41] [] [(50, .bool (!x10)), (4, .int .i64 v6), (5, .ref 5 0 0), (1, .ref 1 0 0), (39, slA eS_Rule t0.Rules), (40, .int .i64 (t0.Rules.length : Int)), (41, .int .i64 v6)] (by kernel_rfl) trivial ?_
          refine OpsW.nil ?_
          refine AW.cond (b := !x10) rfl (fun c11 => ?_) (fun c11 => ?_)
          · replace H := condT c11 H
            refine AW.regionSeq ?_
            refine OpsW.seg 3 [3, 2] [] [(3, .int .i64 20), (2, .int .i64 v6)] (by kernel_rfl) trivial ?_
            refine OpsW.nil ?_
            obtain rfl := Option.some.inj H
            refine AW.recast (env' := [(2, .int .i64 v6), (3, .int .i64 20)]) (h' := []) (StC.pure (.cons .im (.cons .im .nil))) ?_
            refine AW.ret ?_
            try simp only [Ex.then, Ex.inBlock, Ex.noGoto, Ex.jump, reduceIte, Nat.reduceEqDiff, reduceCtorEq]
            refine Done.gen rfl (.tmp (.tmp .nil)) ?_
            show _ = _
            kernel_rfl
          · replace H := condF c11 H
            refine AW.skip ?_
            refine AW.regionSeq ?_
            refine OpsW.seg 3 [54, 53, 4, 5, 1, 39, 40, 41] [] [(54, .int .i64 v6), (53, slA eS_Rule v5.Rules), (4, .int .i64 v6), (5, .ref 5 0 0), (1, .ref 1 0 0), (39, slA eS_Rule t0.Rules), (40, .int .i64 (t0.Rules.length : Int)), (41, .int .i64 v6)] (by kernel_rfl) trivial ?_
            obtain ⟨g12, H⟩ := G_some H
            refine OpsW.asU (slA eS_Rule (v5.Rules.take v6.toNat)) rfl rfl (T.slice' rfl trivial trivial trivial (by kernel_rfl) (by kernel_rfl) g12 trivial (sl_hi eS_Rule 6 (fun _ => rfl) v5.Rules v6 g12)) ?_
            refine OpsW.seg 2 [57, 56, 55, 4, 5, 1, 39, 40, 41] [] [(57, .int .i64 0), (56, .int .i64 ((v5.Rules.take v6.toNat).length : Int)), (55, slA eS_Rule (v5.Rules.take v6.toNat)), (4, .int .i64 v6), (5, .ref 5 0 0), (1, .ref 1 0 0), (39, slA eS_Rule t0.Rules), (40, .int .i64 (t0.Rules.length : Int)), (41, .int .i64 v6)] (by kernel_rfl) trivial ?_
            refine OpsW.nil ?_
            refine AW.block ?_
            refine AW.iterK (fun loop (s : S_Table × S_Rule × Int) => f_table_Check_b1 loop7 v5 v6 loop s.1 s.2.1 s.2.2) r (fun (s : S_Table × S_Rule × Int) => [(1, .ref 1 0 0), (4, .int .i64 v6), (5, .ref 5 0 0), (39, slA eS_Rule t0.Rules), (40, .int .i64 (t0.Rules.length : Int)), (41, .int .i64 v6), (55, slA eS_Rule (v5.Rules.take v6.toNat)), (56, .int .i64 ((v5.Rules.take v6.toNat).length : Int)), (57, .int .i64 s.2.2)]) (fun (s : S_Table × S_Rule × Int) => [(1, ⟨0, true, 33, 3, [.int .i64 s.1.Modes, .int .u8 s.1.Accept, slA eS_Rule s.1.Rules]⟩), (5, ⟨0, true, 36, 6, [.string s.2.1.Print, slA (eI .u8) s.2.1.Cells, .int .u8 s.2.1.Left, .int .u8 s.2.1.Right, .int .i64 s.2.1.From, .int .i64 s.2.1.To]⟩)]) ?_ 1000000 (v5, (t0.Rules.getD v6.toNat zS_Rule), (0 : Int)) H (StC.mk (phi [(1, some 1), (5, some 5)]) (.old rfl rfl rfl rfl rfl (.cons .im (.cons .im (.cons .im .nil))) (.old rfl rfl rfl rfl rfl (.cons .im (.cons .im (.cons .im (.cons .im (.cons .im (.cons .im .nil)))))) .nil)) rfl (.cons (.ref rfl rfl rfl rfl rfl) (.cons .im (.cons (.ref rfl rfl rfl rfl rfl) (.cons .im (.cons .im (.cons .im (.cons .im (.cons .im (.cons .im .nil))))))))))
            intro loop16 s H
            obtain ⟨v13, v14, v15⟩ := s
            change f_table_Check_b1 loop7 v5 v6 loop16 v13 v14 v15 = some r at H
            unfold f_table_Check_b1 at H
            change AW _ _ _ [(1, .ref 1 0 0), (4, .int .i64 v6), (5, .ref 5 0 0), (39, slA eS_Rule t0.Rules), (40, .int .i64 (t0.Rules.length : Int)), (41, .int .i64 v6), (55, slA eS_Rule (v5.Rules.take v6.toNat)), (56, .int .i64 ((v5.Rules.take v6.toNat).length : Int)), (57, .int .i64 v15)] [(1, ⟨0, true, 33, 3, [.int .i64 v13.Modes, .int .u8 v13.Accept, slA eS_Rule v13.Rules]⟩), (5, ⟨0, true, 36, 6, [.string v14.Print, slA (eI .u8) v14.Cells, .int .u8 v14.Left, .int .u8 v14.Right, .int .i64 v14.From, .int .i64 v14.To]⟩)] _
            refine AW.regionSeq ?_
            refine OpsW.seg 1 [58, 1, 4, 5, 39, 40, 41, 55, 56, 57] [] [(58, .bool (decide (v15 < ((v5.Rules.take v6.toNat).length : Int)))), (1, .ref 1 0 0), (4, .int .i64 v6), (5, .ref 5 0 0), (39, slA eS_Rule t0.Rules), (40, .int .i64 (t0.Rules.length : Int)), (41, .int .i64 v6), (55, slA eS_Rule (v5.Rules.take v6.toNat)), (56, .int .i64 ((v5.Rules.take v6.toNat).length : Int)), (57, .int .i64 v15)] (by kernel_rfl) trivial ?_
            refine OpsW.nil ?_
            refine AW.seq ?_
            refine AW.cond (b := decide (v15 < ((v5.Rules.take v6.toNat).length : Int))) rfl (fun c17 => ?_) (fun c17 => ?_)
            · replace H := condT c17 H
              refine AW.skip ?_
              refine AW.seq ?_
              refine AW.block ?_
              refine AW.regionSeq ?_
              obtain ⟨g18, H⟩ := G_some H
              refine OpsW.seg 1 [59, 1, 4, 5, 39, 40, 41, 55, 56, 57] [0 ≤ v15 ∧ v15 < ((v5.Rules.take v6.toNat).length : Int)] [(59, .ipt ((v5.Rules.take v6.toNat).flatMap eS_Rule) (v15.toNat * 6)), (1, .ref 1 0 0), (4, .int .i64 v6), (5, .ref 5 0 0), (39, slA eS_Rule t0.Rules), (40, .int .i64 (t0.Rules.length : Int)), (41, .int .i64 v6), (55, slA eS_Rule (v5.Rules.take v6.toNat)), (56, .int .i64 ((v5.Rules.take v6.toNat).length : Int)), (57, .int .i64 v15)] (by kernel_rfl) ⟨g18, trivial⟩ ?_
              refine OpsW.asU (.agg [.string (((v5.Rules.take v6.toNat).getD v15.toNat zS_Rule).Print), slA (eI .u8) (((v5.Rules.take v6.toNat).getD v15.toNat zS_Rule).Cells), .int .u8 (((v5.Rules.take v6.toNat).getD v15.toNat zS_Rule).Left), .int .u8 (((v5.Rules.take v6.toNat).getD v15.toNat zS_Rule).Right), .int .i64 (((v5.Rules.take v6.toNat).getD v15.toNat zS_Rule).From), .int .i64 (((v5.Rules.take v6.toNat).getD v15.toNat zS_Rule).To)]) rfl rfl (T.loadAgg (cs := (v5.Rules.take v6.toNat).flatMap eS_Rule) (off := v15.toNat * 6) (ds := eS_Rule ((v5.Rules.take v6.toNat).getD v15.toNat zS_Rule)) rfl trivial (by kernel_rfl) (by have := fm_length eS_Rule 6 (fun _ => rfl) (v5.Rules.take v6.toNat); have := (ltN g18); omega) (fm_elem eS_Rule 6 (fun _ => rfl) (v5.Rules.take v6.toNat) zS_Rule v15.toNat (ltN g18))) ?_
              refine OpsW.alloc' rfl rfl rfl 7 rfl (by kernel_rfl : zc Tryd.prog 36 = some [.string ⟨#[]⟩, .slice none 0 0, .int .u8 0, .int .u8 0, .int .i64 0, .int .i64 0]) (by kernel_rfl) ?_
              refine OpsW.store rfl rfl rfl rfl trivial trivial rfl rfl rfl (by kernel_rfl) (okCb_sound (by kernel_rfl)) (Nat.le_of_ble_eq_true (by kernel_rfl)) ?_
              change OpsW _ _ _ _ _ [(7, ⟨0, true, 36, 6, [.string (((v5.Rules.take v6.toNat).getD v15.toNat zS_Rule).Print), slA (eI .u8) (((v5.Rules.take v6.toNat).getD v15.toNat zS_Rule).Cells), .int .u8 (((v5.Rules.take v6.toNat).getD v15.toNat zS_Rule).Left), .int .u8 (((v5.Rules.take v6.toNat).getD v15.toNat zS_Rule).Right), .int .i64 (((v5.Rules.take v6.toNat).getD v15.toNat zS_Rule).From), .int .i64 (((v5.Rules.take v6.toNat).getD v15.toNat zS_Rule).To)]⟩), (7, ⟨0, true, 36, 6, [.string (⟨#[]⟩ : ByteArray), .im (.val (.slice none 0 0)), .int .u8 0, .int .u8 0, .int .i64 0, .int .i64 0]⟩), (1, ⟨0, true, 33, 3, [.int .i64 v13.Modes, .int .u8 v13.Accept, slA eS_Rule v13.Rules]⟩), (5, ⟨0, true, 36, 6, [.string v14.Print, slA (eI .u8) v14.Cells, .int .u8 v14.Left, .int .u8 v14.Right, .int .i64 v14.From, .int .i64 v14.To]⟩)] _
              refine OpsW.seg 0 [7, 1, 4, 5, 39, 40, 41, 55, 56, 57] [] [(7, .ref 7 0 0), (1, .ref 1 0 0), (4, .int .i64 v6), (5, .ref 5 0 0), (39, slA eS_Rule t0.Rules), (40, .int .i64 (t0.Rules.length : Int)), (41, .int .i64 v6), (55, slA eS_Rule (v5.Rules.take v6.toNat)), (56, .int .i64 ((v5.Rules.take v6.toNat).length : Int)), (57, .int .i64 v15)] (by kernel_rfl) trivial ?_
              refine OpsW.recast (env' := [(7, .ref 7 0 0), (1, .ref 1 0 0), (4, .int .i64 v6), (5, .ref 5 0 0), (39, slA eS_Rule t0.Rules), (40, .int .i64 (t0.Rules.length : Int)), (41, .int .i64 v6), (55, slA eS_Rule (v5.Rules.take v6.toNat)), (56, .int .i64 ((v5.Rules.take v6.toNat).length : Int)), (57, .int .i64 v15)]) (h' := [(1, ⟨0, true, 33, 3, [.int .i64 v13.Modes, .int .u8 v13.Accept, slA eS_Rule v13.Rules]⟩), (5, ⟨0, true, 36, 6, [.string v14.Print, slA (eI .u8) v14.Cells, .int .u8 v14.Left, .int .u8 v14.Right, .int .i64 v14.From, .int .i64 v14.To]⟩), (7, ⟨0, true, 36, 6, [.string (((v5.Rules.take v6.toNat).getD v15.toNat zS_Rule).Print), slA (eI .u8) (((v5.Rules.take v6.toNat).getD v15.toNat zS_Rule).Cells), .int .u8 (((v5.Rules.take v6.toNat).getD v15.toNat zS_Rule).Left), .int .u8 (((v5.Rules.take v6.toNat).getD v15.toNat zS_Rule).Right), .int .i64 (((v5.Rules.take v6.toNat).getD v15.toNat zS_Rule).From), .int .i64 (((v5.Rules.take v6.toNat).getD v15.toNat zS_Rule).To)]⟩)]) (StC.mk (phi [(1, some 1), (5, some 5), (7, some 7)]) (.old rfl rfl rfl rfl rfl (.cons .im (.cons .im (.cons .im .nil))) (.old rfl rfl rfl rfl rfl (.cons .im (.cons .im (.cons .im (.cons .im (.cons .im (.cons .im .nil)))))) (.old rfl rfl rfl rfl rfl (.cons .im (.cons .im (.cons .im (.cons .im (.cons .im (.cons .im .nil)))))) .nil))) rfl (.cons (.ref rfl rfl rfl rfl rfl) (.cons (.ref rfl rfl rfl rfl rfl) (.cons .im (.cons (.ref rfl rfl rfl rfl rfl) (.cons .im (.cons .im (.cons .im (.cons .im (.cons .im (.cons .im .nil))))))))))) ?_
              refine OpsW.nil ?_
              refine AW.regionSeq ?_
              refine OpsW.seg 2 [62, 61, 1, 4, 5, 39, 40, 41, 55, 56, 57] [] [(62, .agg [.string v14.Print, slA (eI .u8) v14.Cells, .int .u8 v14.Left, .int .u8 v14.Right, .int .i64 v14.From, .int .i64 v14.To]), (61, .agg [.string (((v5.Rules.take v6.toNat).getD v15.toNat zS_Rule).Print), slA (eI .u8) (((v5.Rules.take v6.toNat).getD v15.toNat zS_Rule).Cells), .int .u8 (((v5.Rules.take v6.toNat).getD v15.toNat zS_Rule).Left), .int .u8 (((v5.Rules.take v6.toNat).getD v15.toNat zS_Rule).Right), .int .i64 (((v5.Rules.take v6.toNat).getD v15.toNat zS_Rule).From), .int .i64 (((v5.Rules.take v6.toNat).getD v15.toNat zS_Rule).To)]), (1, .ref 1 0 0), (4, .int .i64 v6), (5, .ref 5 0 0), (39, slA eS_Rule t0.Rules), (40, .int .i64 (t0.Rules.length : Int)), (41, .int .i64 v6), (55, slA eS_Rule (v5.Rules.take v6.toNat)), (56, .int .i64 ((v5.Rules.take v6.toNat).length : Int)), (57, .int .i64 v15)] (by kernel_rfl) trivial ?_
              obtain ⟨x19, hx19, H⟩ := bindS H
              refine OpsW.qcall rfl (by kernel_rfl) rfl rfl (glAll_sound trivial) (.cons (.pur rfl) (.cons (.pur rfl) .nil)) (f_table_equal_ok hx19) rfl ?_
              refine OpsW.seg 0 [63, 1, 4, 5, 39, 40, 41, 55, 56, 57] [] [(63, .bool x19), (1, .ref 1 0 0), (4, .int .i64 v6), (5, .ref 5 0 0), (39, slA eS_Rule t0.Rules), (40, .int .i64 (t0.Rules.length : Int)), (41, .int .i64 v6), (55, slA eS_Rule (v5.Rules.take v6.toNat)), (56, .int .i64 ((v5.Rules.take v6.toNat).length : Int)), (57, .int .i64 v15)] (by kernel_rfl) trivial ?_
              refine OpsW.nil ?_
              refine AW.cond (b := x19) rfl (fun c20 => ?_) (fun c20 => ?_)
              · replace H := condT c20 H
                refine AW.regionSeq ?_
                refine OpsW.seg 3 [3, 2] [] [(3, .int .i64 20), (2, .int .i64 v6)] (by kernel_rfl) trivial ?_
                refine OpsW.nil ?_
                obtain rfl := Option.some.inj H
                refine AW.recast (env' := [(2, .int .i64 v6), (3, .int .i64 20)]) (h' := []) (StC.pure (.cons .im (.cons .im .nil))) ?_
                refine AW.ret ?_
                try simp only [Ex.then, Ex.inBlock, Ex.noGoto, Ex.jump, reduceIte, Nat.reduceEqDiff, reduceCtorEq]
                refine Done.gen rfl (.tmp (.tmp .nil)) ?_
                show _ = _
                kernel_rfl
              · replace H := condF c20 H
                refine AW.skip ?_
                refine AW.region ?_
                obtain ⟨g21, H⟩ := G_some H
                refine OpsW.seg 2 [57, 1, 4, 5, 39, 40, 41, 55, 56] [inR (v15 + (1 : Int))] [(57, .int .i64 (v15 + (1 : Int))), (1, .ref 1 0 0), (4, .int .i64 v6), (5, .ref 5 0 0), (39, slA eS_Rule t0.Rules), (40, .int .i64 (t0.Rules.length : Int)), (41, .int .i64 v6), (55, slA eS_Rule (v5.Rules.take v6.toNat)), (56, .int .i64 ((v5.Rules.take v6.toNat).length : Int))] (by kernel_rfl) ⟨g21, trivial⟩ ?_
                refine OpsW.nil ?_
                show ∃ y, _ ∧ StC _ _ _ _
                exact ⟨(v13, v14, v15 + (1 : Int)), H, (StC.mk (phi [(1, some 1), (5, some 5)]) (.old rfl rfl rfl rfl rfl (.cons .im (.cons .im (.cons .im .nil))) (.old rfl rfl rfl rfl rfl (.cons .im (.cons .im (.cons .im (.cons .im (.cons .im (.cons .im .nil)))))) .nil)) rfl (.cons (.ref rfl rfl rfl rfl rfl) (.cons .im (.cons (.ref rfl rfl rfl rfl rfl) (.cons .im (.cons .im (.cons .im (.cons .im (.cons .im (.cons .im .nil))))))))))⟩
            · replace H := condF c17 H
              refine AW.exit ?_
              refine AW.region ?_
              obtain ⟨g22, H⟩ := G_some H
              refine OpsW.seg 2 [41, 1, 39, 40] [inR (v6 + (1 : Int))] [(41, .int .i64 (v6 + (1 : Int))), (1, .ref 1 0 0), (39, slA eS_Rule t0.Rules), (40, .int .i64 (t0.Rules.length : Int))] (by kernel_rfl) ⟨g22, trivial⟩ ?_
              refine OpsW.nil ?_
              show ∃ y, _ ∧ StC _ _ _ _
              exact ⟨(v13, v6 + (1 : Int)), H, (StC.mk (phi [(1, some 1)]) (.old rfl rfl rfl rfl rfl (.cons .im (.cons .im (.cons .im .nil))) .nil) rfl (.cons (.ref rfl rfl rfl rfl rfl) (.cons .im (.cons .im (.cons .im .nil)))))⟩
        · replace H := condF c8 H
          refine AW.exit ?_
          refine AW.regionSeq ?_
          refine OpsW.seg 2 [3, 2] [] [(3, .int .i64 0), (2, .int .i64 0)] (by kernel_rfl) trivial ?_
          refine OpsW.nil ?_
          obtain rfl := Option.some.inj H
          refine AW.recast (env' := [(2, .int .i64 0), (3, .int .i64 0)]) (h' := []) (StC.pure (.cons .im (.cons .im .nil))) ?_
          refine AW.ret ?_
          try simp only [Ex.then, Ex.inBlock, Ex.noGoto, Ex.jump, reduceIte, Nat.reduceEqDiff, reduceCtorEq]
          refine Done.gen rfl (.tmp (.tmp .nil)) ?_
          show _ = _
          kernel_rfl
def f_table_Valid (t0 : S_Table) : Option Bool :=
  (f_table_Check t0).bind fun x1 =>
  some (x1.2 == (0 : Int))
theorem f_table_Valid_ok  {t0 : S_Table} {r : Bool} (H : f_table_Valid t0 = some r) : QSpec Tryd.prog 20 [.agg [.int .i64 t0.Modes, .int .u8 t0.Accept, slA eS_Rule t0.Rules]] (.bool r) := by
  refine Spec.of_AW Tryd.func20 rfl (by simp [Tryd.ntmps20]) ?_
  rw [Tryd.ntmps20]
  unfold f_table_Valid at H
  change AW _ _ _ [(0, .agg [.int .i64 t0.Modes, .int .u8 t0.Accept, slA eS_Rule t0.Rules])] [] _
  refine AW.regionSeq ?_
  refine OpsW.box rfl rfl rfl 1 rfl (okCb_sound (by kernel_rfl)) ?_
  change OpsW _ _ _ _ _ [(1, ⟨0, true, 33, 3, [.int .i64 t0.Modes, .int .u8 t0.Accept, slA eS_Rule t0.Rules]⟩)] _
  refine OpsW.seg 1 [1] [] [(1, .ref 1 0 0)] (by kernel_rfl) trivial ?_
  refine OpsW.recast (env' := [(1, .ref 1 0 0)]) (h' := [(1, ⟨0, true, 33, 3, [.int .i64 t0.Modes, .int .u8 t0.Accept, slA eS_Rule t0.Rules]⟩)]) (StC.mk (phi [(1, some 1)]) (.old rfl rfl rfl rfl rfl (.cons .im (.cons .im (.cons .im .nil))) .nil) rfl (.cons (.ref rfl rfl rfl rfl rfl) .nil)) ?_
  refine OpsW.nil ?_
  refine AW.regionSeq ?_
  refine OpsW.seg 1 [6] [] [(6, .agg [.int .i64 t0.Modes, .int .u8 t0.Accept, slA eS_Rule t0.Rules])] (by kernel_rfl) trivial ?_
  obtain ⟨x1, hx1, H⟩ := bindS H
  refine OpsW.qcall rfl (by kernel_rfl) rfl rfl (glAll_sound trivial) (.cons (.pur rfl) .nil) (f_table_Check_ok hx1) rfl ?_
  refine OpsW.seg 5 [4] [] [(4, .int .i64 x1.2)] (by kernel_rfl) trivial ?_
  refine OpsW.nil ?_
  refine AW.regionSeq ?_
  refine OpsW.seg 3 [2] [] [(2, .bool (x1.2 == (0 : Int)))] (by kernel_rfl) trivial ?_
  refine OpsW.nil ?_
  obtain rfl := Option.some.inj H
  refine AW.recast (env' := [(2, .bool (x1.2 == (0 : Int)))]) (h' := []) (StC.pure (.cons .im .nil)) ?_
  refine AW.ret ?_
  try simp only [Ex.then, Ex.inBlock, Ex.noGoto, Ex.jump, reduceIte, Nat.reduceEqDiff, reduceCtorEq]
  refine Done.gen rfl (.tmp .nil) ?_
  show _ = _
  kernel_rfl
def f_R02_simple (t0 : ByteArray) (t1 : List Int) (t2 : List Int) : Option S_Rule :=
  some (⟨t0, t1, (63 : Int), (63 : Int), (t2.getD 0 (0 : Int)), (t2.getD 1 (0 : Int))⟩ : S_Rule)
theorem f_R02_simple_ok  {t0 : ByteArray} {t1 : List Int} {t2 : List Int} {r : S_Rule} (H : f_R02_simple t0 t1 t2 = some r) : QSpec Tryd.prog 50 [.string t0, slA (eI .u8) t1, .agg [.int .i64 (t2.getD 0 (0 : Int)), .int .i64 (t2.getD 1 (0 : Int))]] (.agg [.string r.Print, slA (eI .u8) r.Cells, .int .u8 r.Left, .int .u8 r.Right, .int .i64 r.From, .int .i64 r.To]) := by
  refine Spec.of_AW Tryd.func50 rfl (by simp [Tryd.ntmps50]) ?_
  rw [Tryd.ntmps50]
  unfold f_R02_simple at H
  change AW _ _ _ [(0, .string t0), (1, slA (eI .u8) t1), (2, .agg [.int .i64 (t2.getD 0 (0 : Int)), .int .i64 (t2.getD 1 (0 : Int))])] [] _
  refine AW.regionSeq ?_
  refine OpsW.box rfl rfl rfl 5 rfl (okCb_sound (by kernel_rfl)) ?_
  change OpsW _ _ _ _ _ [(5, ⟨0, true, 82, 2, [.int .i64 (t2.getD 0 (0 : Int)), .int .i64 (t2.getD 1 (0 : Int))]⟩)] _
  refine OpsW.alloc' rfl rfl rfl 6 rfl (by kernel_rfl : zc Tryd.prog 36 = some [.string ⟨#[]⟩, .slice none 0 0, .int .u8 0, .int .u8 0, .int .i64 0, .int .i64 0]) (by kernel_rfl) ?_
  refine OpsW.seg 0 [6, 5, 0, 1] [] [(6, .ref 6 0 0), (5, .ref 5 0 0), (0, .string t0), (1, slA (eI .u8) t1)] (by kernel_rfl) trivial ?_
  refine OpsW.recast (env' := [(6, .ref 6 0 0), (5, .ref 5 0 0), (0, .string t0), (1, slA (eI .u8) t1)]) (h' := [(5, ⟨0, true, 82, 2, [.int .i64 (t2.getD 0 (0 : Int)), .int .i64 (t2.getD 1 (0 : Int))]⟩), (6, ⟨0, true, 36, 6, [.string (⟨#[]⟩ : ByteArray), .im (.val (.slice none 0 0)), .int .u8 0, .int .u8 0, .int .i64 0, .int .i64 0]⟩)]) (StC.mk (phi [(5, some 5), (6, some 6)]) (.old rfl rfl rfl rfl rfl (.cons .im (.cons .im .nil)) (.old rfl rfl rfl rfl rfl (.cons .im (.cons .im (.cons .im (.cons .im (.cons .im (.cons .im .nil)))))) .nil)) rfl (.cons (.ref rfl rfl rfl rfl rfl) (.cons (.ref rfl rfl rfl rfl rfl) (.cons .im (.cons .im .nil))))) ?_
  refine OpsW.nil ?_
  refine AW.regionSeq ?_
  refine OpsW.seg 7 [13, 6] [0 ≤ (0 : Int) ∧ (0 : Int) < (2 : Int), 0 ≤ (1 : Int) ∧ (1 : Int) < (2 : Int)] [(13, .agg [.string t0, slA (eI .u8) t1, .int .u8 63, .int .u8 63, .int .i64 (t2.getD 0 (0 : Int)), .int .i64 (t2.getD 1 (0 : Int))]), (6, .ref 6 0 0)] (by kernel_rfl) ⟨(by decide), (by decide), trivial⟩ ?_
  refine OpsW.store rfl rfl rfl rfl trivial trivial rfl rfl rfl (by kernel_rfl) (okCb_sound (by kernel_rfl)) (Nat.le_of_ble_eq_true (by kernel_rfl)) ?_
  change OpsW _ _ _ _ _ [(6, ⟨0, true, 36, 6, [.string t0, slA (eI .u8) t1, .int .u8 63, .int .u8 63, .int .i64 (t2.getD 0 (0 : Int)), .int .i64 (t2.getD 1 (0 : Int))]⟩), (5, ⟨0, true, 82, 2, [.int .i64 (t2.getD 0 (0 : Int)), .int .i64 (t2.getD 1 (0 : Int))]⟩), (6, ⟨0, true, 36, 6, [.string (⟨#[]⟩ : ByteArray), .im (.val (.slice none 0 0)), .int .u8 0, .int .u8 0, .int .i64 0, .int .i64 0]⟩)] _
  refine OpsW.seg 0 [6] [] [(6, .ref 6 0 0)] (by kernel_rfl) trivial ?_
  refine OpsW.recast (env' := [(6, .ref 6 0 0)]) (h' := [(6, ⟨0, true, 36, 6, [.string t0, slA (eI .u8) t1, .int .u8 63, .int .u8 63, .int .i64 (t2.getD 0 (0 : Int)), .int .i64 (t2.getD 1 (0 : Int))]⟩)]) (StC.mk (phi [(6, some 6)]) (.old rfl rfl rfl rfl rfl (.cons .im (.cons .im (.cons .im (.cons .im (.cons .im (.cons .im .nil)))))) .nil) rfl (.cons (.ref rfl rfl rfl rfl rfl) .nil)) ?_
  refine OpsW.nil ?_
  obtain rfl := Option.some.inj H
  refine AW.recast (env' := [(6, .ref 6 0 0)]) (h' := [(6, ⟨0, true, 36, 6, [.string t0, slA (eI .u8) t1, .int .u8 63, .int .u8 63, .int .i64 (t2.getD 0 (0 : Int)), .int .i64 (t2.getD 1 (0 : Int))]⟩)]) (StC.mk (phi [(6, some 6)]) (.old rfl rfl rfl rfl rfl (.cons .im (.cons .im (.cons .im (.cons .im (.cons .im (.cons .im .nil)))))) .nil) rfl (.cons (.ref rfl rfl rfl rfl rfl) .nil)) ?_
  refine AW.ret ?_
  try simp only [Ex.then, Ex.inBlock, Ex.noGoto, Ex.jump, reduceIte, Nat.reduceEqDiff, reduceCtorEq]
  refine Done.gen rfl (.cell rfl (by kernel_rfl) .nil) ?_
  show _ = _
  kernel_rfl
def f_R02_letters  : Option (List S_Rule) :=
  (f_R02_simple (⟨#[97]⟩ : ByteArray) [(1 : Int)] [(0 : Int), (0 : Int)]).bind fun x1 =>
  (f_R02_simple (⟨#[98]⟩ : ByteArray) [(3 : Int)] [(0 : Int), (0 : Int)]).bind fun x2 =>
  (f_R02_simple (⟨#[99]⟩ : ByteArray) [(9 : Int)] [(0 : Int), (0 : Int)]).bind fun x3 =>
  (f_R02_simple (⟨#[32]⟩ : ByteArray) [(0 : Int)] [(0 : Int), (0 : Int)]).bind fun x4 =>
  some [x1, x2, x3, x4]
theorem f_R02_letters_own  {r : List S_Rule} (H : f_R02_letters = some r) : Abs.Spec Tryd.prog 48 [] [] (fun x h => x = .rsl 1000 0 0 r.length ∧ h = [(1000, rtA 0 36 6 eS_Rule r)]) := by
  refine Spec.of_AW Tryd.func48 rfl (by simp [Tryd.ntmps48]) ?_
  rw [Tryd.ntmps48]
  unfold f_R02_letters at H
  change AW _ _ _ [] [] _
  refine AW.regionSeq ?_
  refine OpsW.seg 1 [] [] [] (by kernel_rfl) trivial ?_
  refine OpsW.nil ?_
  refine AW.regionSeq ?_
  refine OpsW.seg 1 [2] [] [(2, .agg [.int .i64 0, .int .i64 0])] (by kernel_rfl) trivial ?_
  refine OpsW.alloc' rfl rfl rfl 1 rfl (by kernel_rfl : zc Tryd.prog 82 = some [.int .i64 0, .int .i64 0]) (by kernel_rfl) ?_
  refine OpsW.store rfl rfl rfl rfl trivial trivial rfl rfl rfl (by kernel_rfl) (okCb_sound (by kernel_rfl)) (Nat.le_of_ble_eq_true (by kernel_rfl)) ?_
  change OpsW _ _ _ _ _ [(1, ⟨0, true, 82, 2, [.int .i64 0, .int .i64 0]⟩), (1, ⟨0, true, 82, 2, [.int .i64 0, .int .i64 0]⟩)] _
  refine OpsW.seg 0 [1] [] [(1, .ref 1 0 0)] (by kernel_rfl) trivial ?_
  refine OpsW.recast (env' := [(1, .ref 1 0 0)]) (h' := [(1, ⟨0, true, 82, 2, [.int .i64 0, .int .i64 0]⟩)]) (StC.mk (phi [(1, some 1)]) (.old rfl rfl rfl rfl rfl (.cons .im (.cons .im .nil)) .nil) rfl (.cons (.ref rfl rfl rfl rfl rfl) .nil)) ?_
  refine OpsW.nil ?_
  refine AW.drawTSeq 11 Tryd.checked.mixed (by kernel_rfl) ?_
  refine QOps.buildTI (enc := eI .u8) [(1 : Int)] rfl rfl E34 (fun _ => rfl) (by decide) ⟨trivial, by kernel_rfl, by kernel_rfl, by kernel_rfl, rfl⟩ ?_
  refine QOps.seg (N := 16) 1 [] [(4, .agg [.int .i64 0, .int .i64 0]), (3, slA (eI .u8) [(1 : Int)]), (1, .ref 1 0 0)] (by kernel_rfl) trivial ?_
  obtain ⟨x1, hx1, H⟩ := bindS H
  refine QOps.qcall rfl (by kernel_rfl) rfl (glAll_sound trivial) (.cons (.pur rfl) (.cons (.pur rfl) (.cons (.pur rfl) .nil))) (f_R02_simple_ok hx1) rfl ?_
  refine QOps.buildTI (enc := eI .u8) [(3 : Int)] rfl rfl E34 (fun _ => rfl) (by decide) ⟨trivial, by kernel_rfl, by kernel_rfl, by kernel_rfl, rfl⟩ ?_
  refine QOps.seg (N := 16) 1 [] [(7, .agg [.int .i64 0, .int .i64 0]), (6, slA (eI .u8) [(3 : Int)]), (5, .agg [.string x1.Print, slA (eI .u8) x1.Cells, .int .u8 x1.Left, .int .u8 x1.Right, .int .i64 x1.From, .int .i64 x1.To]), (4, .agg [.int .i64 0, .int .i64 0]), (3, slA (eI .u8) [(1 : Int)]), (1, .ref 1 0 0)] (by kernel_rfl) trivial ?_
  obtain ⟨x2, hx2, H⟩ := bindS H
  refine QOps.qcall rfl (by kernel_rfl) rfl (glAll_sound trivial) (.cons (.pur rfl) (.cons (.pur rfl) (.cons (.pur rfl) .nil))) (f_R02_simple_ok hx2) rfl ?_
  refine QOps.buildTI (enc := eI .u8) [(9 : Int)] rfl rfl E34 (fun _ => rfl) (by decide) ⟨trivial, by kernel_rfl, by kernel_rfl, by kernel_rfl, rfl⟩ ?_
  refine QOps.seg (N := 16) 1 [] [(10, .agg [.int .i64 0, .int .i64 0]), (9, slA (eI .u8) [(9 : Int)]), (8, .agg [.string x2.Print, slA (eI .u8) x2.Cells, .int .u8 x2.Left, .int .u8 x2.Right, .int .i64 x2.From, .int .i64 x2.To]), (7, .agg [.int .i64 0, .int .i64 0]), (6, slA (eI .u8) [(3 : Int)]), (5, .agg [.string x1.Print, slA (eI .u8) x1.Cells, .int .u8 x1.Left, .int .u8 x1.Right, .int .i64 x1.From, .int .i64 x1.To]), (4, .agg [.int .i64 0, .int .i64 0]), (3, slA (eI .u8) [(1 : Int)]), (1, .ref 1 0 0)] (by kernel_rfl) trivial ?_
  obtain ⟨x3, hx3, H⟩ := bindS H
  refine QOps.qcall rfl (by kernel_rfl) rfl (glAll_sound trivial) (.cons (.pur rfl) (.cons (.pur rfl) (.cons (.pur rfl) .nil))) (f_R02_simple_ok hx3) rfl ?_
  refine QOps.buildTI (enc := eI .u8) [(0 : Int)] rfl rfl E34 (fun _ => rfl) (by decide) ⟨trivial, by kernel_rfl, by kernel_rfl, by kernel_rfl, rfl⟩ ?_
  refine QOps.seg (N := 16) 1 [] [(13, .agg [.int .i64 0, .int .i64 0]), (12, slA (eI .u8) [(0 : Int)]), (11, .agg [.string x3.Print, slA (eI .u8) x3.Cells, .int .u8 x3.Left, .int .u8 x3.Right, .int .i64 x3.From, .int .i64 x3.To]), (10, .agg [.int .i64 0, .int .i64 0]), (9, slA (eI .u8) [(9 : Int)]), (8, .agg [.string x2.Print, slA (eI .u8) x2.Cells, .int .u8 x2.Left, .int .u8 x2.Right, .int .i64 x2.From, .int .i64 x2.To]), (7, .agg [.int .i64 0, .int .i64 0]), (6, slA (eI .u8) [(3 : Int)]), (5, .agg [.string x1.Print, slA (eI .u8) x1.Cells, .int .u8 x1.Left, .int .u8 x1.Right, .int .i64 x1.From, .int .i64 x1.To]), (4, .agg [.int .i64 0, .int .i64 0]), (3, slA (eI .u8) [(1 : Int)]), (1, .ref 1 0 0)] (by kernel_rfl) trivial ?_
  refine QOps.nil ?_
  refine OpsW.seg 0 [13, 12, 11, 8, 5] [] [(13, .agg [.int .i64 0, .int .i64 0]), (12, slA (eI .u8) [(0 : Int)]), (11, .agg [.string x3.Print, slA (eI .u8) x3.Cells, .int .u8 x3.Left, .int .u8 x3.Right, .int .i64 x3.From, .int .i64 x3.To]), (8, .agg [.string x2.Print, slA (eI .u8) x2.Cells, .int .u8 x2.Left, .int .u8 x2.Right, .int .i64 x2.From, .int .i64 x2.To]), (5, .agg [.string x1.Print, slA (eI .u8) x1.Cells, .int .u8 x1.Left, .int .u8 x1.Right, .int .i64 x1.From, .int .i64 x1.To])] (by kernel_rfl) trivial ?_
  obtain ⟨x4, hx4, H⟩ := bindS H
  refine OpsW.qcall rfl (by kernel_rfl) rfl rfl (glAll_sound trivial) (.cons (.pur rfl) (.cons (.pur rfl) (.cons (.pur rfl) .nil))) (f_R02_simple_ok hx4) rfl ?_
  refine OpsW.buildT (enc := eS_Rule) [x1, x2, x3, x4] rfl rfl rfl 15 rfl E31 (fun _ => rfl) (by decide) trivial (by kernel_rfl) (by kernel_rfl) (by kernel_rfl) rfl ?_
  refine OpsW.seg 1 [0] [] [(0, .rsl 15 0 0 ([x1, x2, x3, x4].length))] (by kernel_rfl) trivial ?_
  refine OpsW.recast (env' := [(0, .rsl 0 0 0 ([x1, x2, x3, x4].length))]) (h' := [(0, rtA 0 36 6 eS_Rule [x1, x2, x3, x4])]) (StC.mk (phi [(0, some 15)]) (.old rfl rfl rfl rfl rfl (CstL.ims _) .nil) rfl (.cons (.rsl rfl rfl rfl rfl rfl rfl) .nil)) ?_
  refine OpsW.nil ?_
  obtain rfl := Option.some.inj H
  refine AW.recast (env' := [(0, .rsl 1000 0 0 ([x1, x2, x3, x4].length))]) (h' := [(1000, rtA 0 36 6 eS_Rule [x1, x2, x3, x4])]) (StC.mk (phi [(1000, some 0)]) (.old rfl rfl rfl rfl rfl (CstL.ims _) .nil) rfl (.cons (.rsl rfl rfl rfl rfl rfl rfl) .nil)) ?_
  refine AW.ret ?_
  try simp only [Ex.then, Ex.inBlock, Ex.noGoto, Ex.jump, reduceIte, Nat.reduceEqDiff, reduceCtorEq]
  refine Done.gen rfl (.tmp .nil) ?_
  exact ⟨by kernel_rfl, rfl⟩
def f_R02_indicator (t0 : Int) (t1 : Int) (t2 : List Int) : Option S_Rule :=
  (f_R02_simple (⟨#[]⟩ : ByteArray) [t0] [(t2.getD 0 (0 : Int)), (t2.getD 1 (0 : Int))]).bind fun x1 =>
  G (0 ≤ t1) <|
  some (⟨x1.Print, x1.Cells, x1.Left, bShl .u8 (1 : Int) t1, x1.From, x1.To⟩ : S_Rule)
theorem f_R02_indicator_ok  {t0 : Int} {t1 : Int} {t2 : List Int} {r : S_Rule} (H : f_R02_indicator t0 t1 t2 = some r) : QSpec Tryd.prog 49 [.int .u8 t0, .int .i64 t1, .agg [.int .i64 (t2.getD 0 (0 : Int)), .int .i64 (t2.getD 1 (0 : Int))]] (.agg [.string r.Print, slA (eI .u8) r.Cells, .int .u8 r.Left, .int .u8 r.Right, .int .i64 r.From, .int .i64 r.To]) := by
  refine Spec.of_AW Tryd.func49 rfl (by simp [Tryd.ntmps49]) ?_
  rw [Tryd.ntmps49]
  unfold f_R02_indicator at H
  change AW _ _ _ [(0, .int .u8 t0), (1, .int .i64 t1), (2, .agg [.int .i64 (t2.getD 0 (0 : Int)), .int .i64 (t2.getD 1 (0 : Int))])] [] _
  refine AW.regionSeq ?_
  refine OpsW.box rfl rfl rfl 5 rfl (okCb_sound (by kernel_rfl)) ?_
  change OpsW _ _ _ _ _ [(5, ⟨0, true, 82, 2, [.int .i64 (t2.getD 0 (0 : Int)), .int .i64 (t2.getD 1 (0 : Int))]⟩)] _
  refine OpsW.alloc' rfl rfl rfl 6 rfl (by kernel_rfl : zc Tryd.prog 36 = some [.string ⟨#[]⟩, .slice none 0 0, .int .u8 0, .int .u8 0, .int .i64 0, .int .i64 0]) (by kernel_rfl) ?_
  refine OpsW.seg 0 [6, 5, 0, 1] [] [(6, .ref 6 0 0), (5, .ref 5 0 0), (0, .int .u8 t0), (1, .int .i64 t1)] (by kernel_rfl) trivial ?_
  refine OpsW.recast (env' := [(6, .ref 6 0 0), (5, .ref 5 0 0), (0, .int .u8 t0), (1, .int .i64 t1)]) (h' := [(5, ⟨0, true, 82, 2, [.int .i64 (t2.getD 0 (0 : Int)), .int .i64 (t2.getD 1 (0 : Int))]⟩), (6, ⟨0, true, 36, 6, [.string (⟨#[]⟩ : ByteArray), .im (.val (.slice none 0 0)), .int .u8 0, .int .u8 0, .int .i64 0, .int .i64 0]⟩)]) (StC.mk (phi [(5, some 5), (6, some 6)]) (.old rfl rfl rfl rfl rfl (.cons .im (.cons .im .nil)) (.old rfl rfl rfl rfl rfl (.cons .im (.cons .im (.cons .im (.cons .im (.cons .im (.cons .im .nil)))))) .nil)) rfl (.cons (.ref rfl rfl rfl rfl rfl) (.cons (.ref rfl rfl rfl rfl rfl) (.cons .im (.cons .im .nil))))) ?_
  refine OpsW.nil ?_
  refine AW.regionSeq ?_
  refine OpsW.seg 1 [8, 6, 5, 1] [] [(8, .int .u8 t0), (6, .ref 6 0 0), (5, .ref 5 0 0), (1, .int .i64 t1)] (by kernel_rfl) trivial ?_
  refine OpsW.buildTI (enc := eI .u8) [t0] rfl rfl rfl E34 (fun _ => rfl) (by decide) ⟨trivial, by kernel_rfl, by kernel_rfl, by kernel_rfl, rfl⟩ ?_
  refine OpsW.seg 1 [10, 9, 6, 1] [] [(10, .agg [.int .i64 (t2.getD 0 (0 : Int)), .int .i64 (t2.getD 1 (0 : Int))]), (9, slA (eI .u8) [t0]), (6, .ref 6 0 0), (1, .int .i64 t1)] (by kernel_rfl) trivial ?_
  obtain ⟨x1, hx1, H⟩ := bindS H
  refine OpsW.qcall rfl (by kernel_rfl) rfl rfl (glAll_sound trivial) (.cons (.pur rfl) (.cons (.pur rfl) (.cons (.pur rfl) .nil))) (f_R02_simple_ok hx1) rfl ?_
  refine OpsW.alloc' rfl rfl rfl 7 rfl (by kernel_rfl : zc Tryd.prog 36 = some [.string ⟨#[]⟩, .slice none 0 0, .int .u8 0, .int .u8 0, .int .i64 0, .int .i64 0]) (by kernel_rfl) ?_
  refine OpsW.store rfl rfl rfl rfl trivial trivial rfl rfl rfl (by kernel_rfl) (okCb_sound (by kernel_rfl)) (Nat.le_of_ble_eq_true (by kernel_rfl)) ?_
  change OpsW _ _ _ _ _ [(7, ⟨0, true, 36, 6, [.string x1.Print, slA (eI .u8) x1.Cells, .int .u8 x1.Left, .int .u8 x1.Right, .int .i64 x1.From, .int .i64 x1.To]⟩), (7, ⟨0, true, 36, 6, [.string (⟨#[]⟩ : ByteArray), .im (.val (.slice none 0 0)), .int .u8 0, .int .u8 0, .int .i64 0, .int .i64 0]⟩), (5, ⟨0, true, 82, 2, [.int .i64 (t2.getD 0 (0 : Int)), .int .i64 (t2.getD 1 (0 : Int))]⟩), (6, ⟨0, true, 36, 6, [.string (⟨#[]⟩ : ByteArray), .im (.val (.slice none 0 0)), .int .u8 0, .int .u8 0, .int .i64 0, .int .i64 0]⟩)] _
  refine OpsW.seg 0 [7, 6, 1] [] [(7, .ref 7 0 0), (6, .ref 6 0 0), (1, .int .i64 t1)] (by kernel_rfl) trivial ?_
  refine OpsW.recast (env' := [(7, .ref 7 0 0), (6, .ref 6 0 0), (1, .int .i64 t1)]) (h' := [(6, ⟨0, true, 36, 6, [.string (⟨#[]⟩ : ByteArray), .im (.val (.slice none 0 0)), .int .u8 0, .int .u8 0, .int .i64 0, .int .i64 0]⟩), (7, ⟨0, true, 36, 6, [.string x1.Print, slA (eI .u8) x1.Cells, .int .u8 x1.Left, .int .u8 x1.Right, .int .i64 x1.From, .int .i64 x1.To]⟩)]) (StC.mk (phi [(6, some 6), (7, some 7)]) (.old rfl rfl rfl rfl rfl (.cons .im (.cons .im (.cons .im (.cons .im (.cons .im (.cons .im .nil)))))) (.old rfl rfl rfl rfl rfl (.cons .im (.cons .im (.cons .im (.cons .im (.cons .im (.cons .im .nil)))))) .nil)) rfl (.cons (.ref rfl rfl rfl rfl rfl) (.cons (.ref rfl rfl rfl rfl rfl) (.cons .im .nil)))) ?_
  refine OpsW.nil ?_
  refine AW.regionSeq ?_
  obtain ⟨g2, H⟩ := G_some H
  refine OpsW.seg 3 [14, 13, 7, 6] [0 ≤ t1] [(14, .ref 7 0 3), (13, .int .u8 (bShl .u8 (1 : Int) t1)), (7, .ref 7 0 0), (6, .ref 6 0 0)] (by kernel_rfl) ⟨g2, trivial⟩ ?_
  refine OpsW.store rfl rfl rfl rfl trivial trivial rfl rfl rfl (by kernel_rfl) (okCb_sound (by kernel_rfl)) (Nat.le_of_ble_eq_true (by kernel_rfl)) ?_
  change OpsW _ _ _ _ _ [(7, ⟨0, true, 36, 6, [.string x1.Print, slA (eI .u8) x1.Cells, .int .u8 x1.Left, .int .u8 (bShl .u8 (1 : Int) t1), .int .i64 x1.From, .int .i64 x1.To]⟩), (6, ⟨0, true, 36, 6, [.string (⟨#[]⟩ : ByteArray), .im (.val (.slice none 0 0)), .int .u8 0, .int .u8 0, .int .i64 0, .int .i64 0]⟩), (7, ⟨0, true, 36, 6, [.string x1.Print, slA (eI .u8) x1.Cells, .int .u8 x1.Left, .int .u8 x1.Right, .int .i64 x1.From, .int .i64 x1.To]⟩)] _
  refine OpsW.seg 0 [7, 6] [] [(7, .ref 7 0 0), (6, .ref 6 0 0)] (by kernel_rfl) trivial ?_
  refine OpsW.recast (env' := [(7, .ref 7 0 0), (6, .ref 6 0 0)]) (h' := [(6, ⟨0, true, 36, 6, [.string (⟨#[]⟩ : ByteArray), .im (.val (.slice none 0 0)), .int .u8 0, .int .u8 0, .int .i64 0, .int .i64 0]⟩), (7, ⟨0, true, 36, 6, [.string x1.Print, slA (eI .u8) x1.Cells, .int .u8 x1.Left, .int .u8 (bShl .u8 (1 : Int) t1), .int .i64 x1.From, .int .i64 x1.To]⟩)]) (StC.mk (phi [(6, some 6), (7, some 7)]) (.old rfl rfl rfl rfl rfl (.cons .im (.cons .im (.cons .im (.cons .im (.cons .im (.cons .im .nil)))))) (.old rfl rfl rfl rfl rfl (.cons .im (.cons .im (.cons .im (.cons .im (.cons .im (.cons .im .nil)))))) .nil)) rfl (.cons (.ref rfl rfl rfl rfl rfl) (.cons (.ref rfl rfl rfl rfl rfl) .nil))) ?_
  refine OpsW.nil ?_
  refine AW.regionSeq ?_
  refine OpsW.seg 1 [15, 6] [] [(15, .agg [.string x1.Print, slA (eI .u8) x1.Cells, .int .u8 x1.Left, .int .u8 (bShl .u8 (1 : Int) t1), .int .i64 x1.From, .int .i64 x1.To]), (6, .ref 6 0 0)] (by kernel_rfl) trivial ?_
  refine OpsW.store rfl rfl rfl rfl trivial trivial rfl rfl rfl (by kernel_rfl) (okCb_sound (by kernel_rfl)) (Nat.le_of_ble_eq_true (by kernel_rfl)) ?_
  change OpsW _ _ _ _ _ [(6, ⟨0, true, 36, 6, [.string x1.Print, slA (eI .u8) x1.Cells, .int .u8 x1.Left, .int .u8 (bShl .u8 (1 : Int) t1), .int .i64 x1.From, .int .i64 x1.To]⟩), (6, ⟨0, true, 36, 6, [.string (⟨#[]⟩ : ByteArray), .im (.val (.slice none 0 0)), .int .u8 0, .int .u8 0, .int .i64 0, .int .i64 0]⟩), (7, ⟨0, true, 36, 6, [.string x1.Print, slA (eI .u8) x1.Cells, .int .u8 x1.Left, .int .u8 (bShl .u8 (1 : Int) t1), .int .i64 x1.From, .int .i64 x1.To]⟩)] _
  refine OpsW.seg 0 [6] [] [(6, .ref 6 0 0)] (by kernel_rfl) trivial ?_
  refine OpsW.recast (env' := [(6, .ref 6 0 0)]) (h' := [(6, ⟨0, true, 36, 6, [.string x1.Print, slA (eI .u8) x1.Cells, .int .u8 x1.Left, .int .u8 (bShl .u8 (1 : Int) t1), .int .i64 x1.From, .int .i64 x1.To]⟩)]) (StC.mk (phi [(6, some 6)]) (.old rfl rfl rfl rfl rfl (.cons .im (.cons .im (.cons .im (.cons .im (.cons .im (.cons .im .nil)))))) .nil) rfl (.cons (.ref rfl rfl rfl rfl rfl) .nil)) ?_
  refine OpsW.nil ?_
  obtain rfl := Option.some.inj H
  refine AW.recast (env' := [(6, .ref 6 0 0)]) (h' := [(6, ⟨0, true, 36, 6, [.string x1.Print, slA (eI .u8) x1.Cells, .int .u8 x1.Left, .int .u8 (bShl .u8 (1 : Int) t1), .int .i64 x1.From, .int .i64 x1.To]⟩)]) (StC.mk (phi [(6, some 6)]) (.old rfl rfl rfl rfl rfl (.cons .im (.cons .im (.cons .im (.cons .im (.cons .im (.cons .im .nil)))))) .nil) rfl (.cons (.ref rfl rfl rfl rfl rfl) .nil)) ?_
  refine AW.ret ?_
  try simp only [Ex.then, Ex.inBlock, Ex.noGoto, Ex.jump, reduceIte, Nat.reduceEqDiff, reduceCtorEq]
  refine Done.gen rfl (.cell rfl (by kernel_rfl) .nil) ?_
  show _ = _
  kernel_rfl
end Go.Proofs.YtlhpkjgpcenfdaaDoor
