/-
  Written by gen.py (own work): typed functions, and that the program computes them.
-/
import Derived.Test.YtlhpkjgpcenfdaaDoorWD1
set_option linter.unusedSimpArgs false
set_option linter.unusedVariables false
set_option maxRecDepth 100000
namespace Go.Proofs.YtlhpkjgpcenfdaaDoor
open Go.Abs
def f_R02_Class (t0 : Int) : Option Int :=
  cond (cond (decide ((97 : Int) ≤ (bAnd .u8 t0 (127 : Int)))) (decide ((bAnd .u8 t0 (127 : Int)) ≤ (122 : Int))) false) (
    some (1 : Int)) (
    cond (cond (decide ((65 : Int) ≤ (bAnd .u8 t0 (127 : Int)))) (decide ((bAnd .u8 t0 (127 : Int)) ≤ (90 : Int))) false) (
      some (2 : Int)) (
      cond (cond (decide ((48 : Int) ≤ (bAnd .u8 t0 (127 : Int)))) (decide ((bAnd .u8 t0 (127 : Int)) ≤ (57 : Int))) false) (
        some (3 : Int)) (
        cond ((bAnd .u8 t0 (127 : Int)) == (32 : Int)) (
          some (4 : Int)) (
          some (5 : Int)))))
theorem f_R02_Class_ok  {t0 : Int} {r : Int} (H : f_R02_Class t0 = some r) : QSpec Tryd.prog 13 [.int .u8 t0] (.int .i64 r) := by
  refine Spec.of_AW Tryd.func13 rfl (by simp [Tryd.ntmps13]) ?_
  rw [Tryd.ntmps13]
  unfold f_R02_Class at H
  change AW _ _ _ [(0, .int .u8 t0)] [] _
  refine AW.regionSeq ?_
  refine OpsW.seg 1 [0] [] [(0, .int .u8 t0)] (by kernel_rfl) trivial ?_
  refine OpsW.nil ?_
  refine AW.regionSeq ?_
  refine OpsW.seg 3 [3] [] [(3, .int .u8 (bAnd .u8 t0 (127 : Int)))] (by kernel_rfl) trivial ?_
  refine OpsW.nil ?_
  refine AW.seq ?_
  refine AW.regionSeq ?_
  refine OpsW.seg 6 [11, 3] [(decide ((97 : Int) ≤ (bAnd .u8 t0 (127 : Int)))) = true → (decide ((97 : Int) ≤ (bAnd .u8 t0 (127 : Int)))) = true, (decide ((97 : Int) ≤ (bAnd .u8 t0 (127 : Int)))) = true → (decide ((97 : Int) ≤ (bAnd .u8 t0 (127 : Int)))) = true] [(11, .bool (cond (decide ((97 : Int) ≤ (bAnd .u8 t0 (127 : Int)))) (decide ((bAnd .u8 t0 (127 : Int)) ≤ (122 : Int))) false)), (3, .int .u8 (bAnd .u8 t0 (127 : Int)))] (by kernel_rfl) ⟨(fun h => h), (fun h => by first | exact h | simpa using h), trivial⟩ ?_
  refine OpsW.nil ?_
  refine AW.cond (b := cond (decide ((97 : Int) ≤ (bAnd .u8 t0 (127 : Int)))) (decide ((bAnd .u8 t0 (127 : Int)) ≤ (122 : Int))) false) rfl (fun c1 => ?_) (fun c1 => ?_)
  · replace H := condT c1 H
    refine AW.regionSeq ?_
    refine OpsW.seg 1 [2] [] [(2, .int .i64 (1 : Int))] (by kernel_rfl) trivial ?_
    refine OpsW.nil ?_
    obtain rfl := Option.some.inj H
    refine AW.recast (env' := [(2, .int .i64 (1 : Int))]) (h' := []) (StC.pure (.cons .im .nil)) ?_
    refine AW.ret ?_
    try simp only [Ex.then, Ex.inBlock, Ex.noGoto, Ex.jump, reduceIte, Nat.reduceEqDiff, reduceCtorEq]
    refine Done.gen rfl (.tmp .nil) ?_
    show _ = _
    kernel_rfl
  · replace H := condF c1 H
    refine AW.skip ?_
    refine AW.seq ?_
    refine AW.regionSeq ?_
    refine OpsW.seg 6 [17, 3] [(decide ((65 : Int) ≤ (bAnd .u8 t0 (127 : Int)))) = true → (decide ((65 : Int) ≤ (bAnd .u8 t0 (127 : Int)))) = true, (decide ((65 : Int) ≤ (bAnd .u8 t0 (127 : Int)))) = true → (decide ((65 : Int) ≤ (bAnd .u8 t0 (127 : Int)))) = true] [(17, .bool (cond (decide ((65 : Int) ≤ (bAnd .u8 t0 (127 : Int)))) (decide ((bAnd .u8 t0 (127 : Int)) ≤ (90 : Int))) false)), (3, .int .u8 (bAnd .u8 t0 (127 : Int)))] (by kernel_rfl) ⟨(fun h => h), (fun h => by first | exact h | simpa using h), trivial⟩ ?_
    refine OpsW.nil ?_
    refine AW.cond (b := cond (decide ((65 : Int) ≤ (bAnd .u8 t0 (127 : Int)))) (decide ((bAnd .u8 t0 (127 : Int)) ≤ (90 : Int))) false) rfl (fun c2 => ?_) (fun c2 => ?_)
    · replace H := condT c2 H
      refine AW.regionSeq ?_
      refine OpsW.seg 1 [2] [] [(2, .int .i64 (2 : Int))] (by kernel_rfl) trivial ?_
      refine OpsW.nil ?_
      obtain rfl := Option.some.inj H
      refine AW.recast (env' := [(2, .int .i64 (2 : Int))]) (h' := []) (StC.pure (.cons .im .nil)) ?_
      refine AW.ret ?_
      try simp only [Ex.then, Ex.inBlock, Ex.noGoto, Ex.jump, reduceIte, Nat.reduceEqDiff, reduceCtorEq]
      refine Done.gen rfl (.tmp .nil) ?_
      show _ = _
      kernel_rfl
    · replace H := condF c2 H
      refine AW.skip ?_
      refine AW.seq ?_
      refine AW.regionSeq ?_
      refine OpsW.seg 6 [23, 3] [(decide ((48 : Int) ≤ (bAnd .u8 t0 (127 : Int)))) = true → (decide ((48 : Int) ≤ (bAnd .u8 t0 (127 : Int)))) = true, (decide ((48 : Int) ≤ (bAnd .u8 t0 (127 : Int)))) = true → (decide ((48 : Int) ≤ (bAnd .u8 t0 (127 : Int)))) = true] [(23, .bool (cond (decide ((48 : Int) ≤ (bAnd .u8 t0 (127 : Int)))) (decide ((bAnd .u8 t0 (127 : Int)) ≤ (57 : Int))) false)), (3, .int .u8 (bAnd .u8 t0 (127 : Int)))] (by kernel_rfl) ⟨(fun h => h), (fun h => by first | exact h | simpa using h), trivial⟩ ?_
      refine OpsW.nil ?_
      refine AW.cond (b := cond (decide ((48 : Int) ≤ (bAnd .u8 t0 (127 : Int)))) (decide ((bAnd .u8 t0 (127 : Int)) ≤ (57 : Int))) false) rfl (fun c3 => ?_) (fun c3 => ?_)
      · replace H := condT c3 H
        refine AW.regionSeq ?_
        refine OpsW.seg 1 [2] [] [(2, .int .i64 (3 : Int))] (by kernel_rfl) trivial ?_
        refine OpsW.nil ?_
        obtain rfl := Option.some.inj H
        refine AW.recast (env' := [(2, .int .i64 (3 : Int))]) (h' := []) (StC.pure (.cons .im .nil)) ?_
        refine AW.ret ?_
        try simp only [Ex.then, Ex.inBlock, Ex.noGoto, Ex.jump, reduceIte, Nat.reduceEqDiff, reduceCtorEq]
        refine Done.gen rfl (.tmp .nil) ?_
        show _ = _
        kernel_rfl
      · replace H := condF c3 H
        refine AW.skip ?_
        refine AW.seq ?_
        refine AW.regionSeq ?_
        refine OpsW.seg 2 [25] [] [(25, .bool ((bAnd .u8 t0 (127 : Int)) == (32 : Int)))] (by kernel_rfl) trivial ?_
        refine OpsW.nil ?_
        refine AW.cond (b := (bAnd .u8 t0 (127 : Int)) == (32 : Int)) rfl (fun c4 => ?_) (fun c4 => ?_)
        · replace H := condT c4 H
          refine AW.regionSeq ?_
          refine OpsW.seg 1 [2] [] [(2, .int .i64 (4 : Int))] (by kernel_rfl) trivial ?_
          refine OpsW.nil ?_
          obtain rfl := Option.some.inj H
          refine AW.recast (env' := [(2, .int .i64 (4 : Int))]) (h' := []) (StC.pure (.cons .im .nil)) ?_
          refine AW.ret ?_
          try simp only [Ex.then, Ex.inBlock, Ex.noGoto, Ex.jump, reduceIte, Nat.reduceEqDiff, reduceCtorEq]
          refine Done.gen rfl (.tmp .nil) ?_
          show _ = _
          kernel_rfl
        · replace H := condF c4 H
          refine AW.skip ?_
          refine AW.regionSeq ?_
          refine OpsW.seg 1 [2] [] [(2, .int .i64 (5 : Int))] (by kernel_rfl) trivial ?_
          refine OpsW.nil ?_
          obtain rfl := Option.some.inj H
          refine AW.recast (env' := [(2, .int .i64 (5 : Int))]) (h' := []) (StC.pure (.cons .im .nil)) ?_
          refine AW.ret ?_
          try simp only [Ex.then, Ex.inBlock, Ex.noGoto, Ex.jump, reduceIte, Nat.reduceEqDiff, reduceCtorEq]
          refine Done.gen rfl (.tmp .nil) ?_
          show _ = _
          kernel_rfl
def f_R02_Clean_b1 (t0 : ByteArray) (loop9 : (Int) → Option Bool) (v8 : Int) : Option Bool :=
  cond (decide (v8 < (t0.size : Int))) (
    G (0 ≤ v8 ∧ v8 < (t0.size : Int)) <|
    (f_R02_Space (bAt t0 v8)).bind fun x12 =>
    G (x12 = true → inR (v8 - (1 : Int))) <|
    G (x12 = true → (0 ≤ (v8 - (1 : Int)) ∧ (v8 - (1 : Int)) < (t0.size : Int))) <|
    (cond x12 (f_R02_Space (bAt t0 (v8 - (1 : Int)))) (some false)).bind fun x15 =>
    cond (cond x12 x15 false) (
      some false) (
      G (inR (v8 + (1 : Int))) <|
      loop9 (v8 + (1 : Int)))) (
    some true)
def f_R02_Clean (t0 : ByteArray) : Option Bool :=
  (f_R02_IsText t0).bind fun x1 =>
  G ((!(cond (cond (!x1) true ((t0.size : Int) == (0 : Int))) true (decide ((400 : Int) < (t0.size : Int))))) = true → (0 ≤ (0 : Int) ∧ (0 : Int) < (t0.size : Int))) <|
  (cond (!(cond (cond (!x1) true ((t0.size : Int) == (0 : Int))) true (decide ((400 : Int) < (t0.size : Int))))) (f_R02_Space (bAt t0 (0 : Int))) (some false)).bind fun x3 =>
  G ((!(cond (cond (cond (!x1) true ((t0.size : Int) == (0 : Int))) true (decide ((400 : Int) < (t0.size : Int)))) true x3)) = true → inR ((t0.size : Int) - (1 : Int))) <|
  G ((!(cond (cond (cond (!x1) true ((t0.size : Int) == (0 : Int))) true (decide ((400 : Int) < (t0.size : Int)))) true x3)) = true → (0 ≤ ((t0.size : Int) - (1 : Int)) ∧ ((t0.size : Int) - (1 : Int)) < (t0.size : Int))) <|
  (cond (!(cond (cond (cond (!x1) true ((t0.size : Int) == (0 : Int))) true (decide ((400 : Int) < (t0.size : Int)))) true x3)) (f_R02_Space (bAt t0 ((t0.size : Int) - (1 : Int)))) (some false)).bind fun x6 =>
  cond (cond (cond (cond (cond (!x1) true ((t0.size : Int) == (0 : Int))) true (decide ((400 : Int) < (t0.size : Int)))) true x3) true x6) (
    some false) (
    iter (fun loop (s : Int) => f_R02_Clean_b1 t0 loop s) 1000000 (1 : Int))
theorem f_R02_Clean_ok  {t0 : ByteArray} {r : Bool} (H : f_R02_Clean t0 = some r) : QSpec Tryd.prog 15 [.string t0] (.bool r) := by
  refine Spec.of_AW Tryd.func15 rfl (by simp [Tryd.ntmps15]) ?_
  rw [Tryd.ntmps15]
  unfold f_R02_Clean at H
  change AW _ _ _ [(0, .string t0)] [] _
  refine AW.regionSeq ?_
  refine OpsW.seg 1 [0] [] [(0, .string t0)] (by kernel_rfl) trivial ?_
  refine OpsW.nil ?_
  refine AW.seq ?_
  refine AW.regionSeq ?_
  refine OpsW.seg 1 [4, 0] [] [(4, .string t0), (0, .string t0)] (by kernel_rfl) trivial ?_
  obtain ⟨x1, hx1, H⟩ := bindS H
  refine OpsW.qcall rfl (by kernel_rfl) rfl rfl (glAll_sound trivial) (.cons (.pur rfl) .nil) (f_R02_IsText_ok hx1) rfl ?_
  obtain ⟨g2, H⟩ := G_some H
  refine OpsW.seg 14 [19, 17, 0] [(!(!x1)) = true → (!(!x1)) = true, (!(!x1)) = true → (!(!x1)) = true, (!x1) = false → (!(!x1)) = true, (!(cond (!x1) true ((t0.size : Int) == (0 : Int)))) = true → (!(cond (!x1) true ((t0.size : Int) == (0 : Int)))) = true, (!(cond (!x1) true ((t0.size : Int) == (0 : Int)))) = true → (!(cond (!x1) true ((t0.size : Int) == (0 : Int)))) = true, (cond (!x1) true ((t0.size : Int) == (0 : Int))) = false → (!(cond (!x1) true ((t0.size : Int) == (0 : Int)))) = true, (!(cond (cond (!x1) true ((t0.size : Int) == (0 : Int))) true (decide ((400 : Int) < (t0.size : Int))))) = true → (!(cond (cond (!x1) true ((t0.size : Int) == (0 : Int))) true (decide ((400 : Int) < (t0.size : Int))))) = true, (!(cond (cond (!x1) true ((t0.size : Int) == (0 : Int))) true (decide ((400 : Int) < (t0.size : Int))))) = true → (0 ≤ (0 : Int) ∧ (0 : Int) < (t0.size : Int))] [(19, .cnd (!(cond (cond (!x1) true ((t0.size : Int) == (0 : Int))) true (decide ((400 : Int) < (t0.size : Int))))) (.int .u8 (bAt t0 (0 : Int)))), (17, .bool (cond (cond (!x1) true ((t0.size : Int) == (0 : Int))) true (decide ((400 : Int) < (t0.size : Int))))), (0, .string t0)] (by kernel_rfl) ⟨(fun h => h), (fun h => h), (fun h => by first | exact h | simpa using h), (fun h => h), (fun h => h), (fun h => by first | exact h | simpa using h), (fun h => h), g2, trivial⟩ ?_
  obtain ⟨x3, hx3, H⟩ := bindS H
  refine OpsW.gcall (c := !(cond (cond (!x1) true ((t0.size : Int) == (0 : Int))) true (decide ((400 : Int) < (t0.size : Int))))) (r := .bool x3) [] rfl (by kernel_rfl) rfl rfl rfl rfl (fun hc => ⟨glAll_sound ⟨hc, trivial⟩, (.cons (.pur rfl) .nil), f_R02_Space_ok (condT hc hx3), .inl ⟨rfl, rfl⟩⟩) ?_
  obtain ⟨g4, H⟩ := G_some H
  obtain ⟨g5, H⟩ := G_some H
  refine OpsW.seg 7 [27, 22, 0] [(cond (cond (!x1) true ((t0.size : Int) == (0 : Int))) true (decide ((400 : Int) < (t0.size : Int)))) = false → (!(cond (cond (!x1) true ((t0.size : Int) == (0 : Int))) true (decide ((400 : Int) < (t0.size : Int))))) = true, (!(cond (cond (cond (!x1) true ((t0.size : Int) == (0 : Int))) true (decide ((400 : Int) < (t0.size : Int)))) true x3)) = true → (!(cond (cond (cond (!x1) true ((t0.size : Int) == (0 : Int))) true (decide ((400 : Int) < (t0.size : Int)))) true x3)) = true, (!(cond (cond (cond (!x1) true ((t0.size : Int) == (0 : Int))) true (decide ((400 : Int) < (t0.size : Int)))) true x3)) = true → (!(cond (cond (cond (!x1) true ((t0.size : Int) == (0 : Int))) true (decide ((400 : Int) < (t0.size : Int)))) true x3)) = true, (!(cond (cond (cond (!x1) true ((t0.size : Int) == (0 : Int))) true (decide ((400 : Int) < (t0.size : Int)))) true x3)) = true → inR ((t0.size : Int) - (1 : Int)), (!(cond (cond (cond (!x1) true ((t0.size : Int) == (0 : Int))) true (decide ((400 : Int) < (t0.size : Int)))) true x3)) = true → (!(cond (cond (cond (!x1) true ((t0.size : Int) == (0 : Int))) true (decide ((400 : Int) < (t0.size : Int)))) true x3)) = true, (!(cond (cond (cond (!x1) true ((t0.size : Int) == (0 : Int))) true (decide ((400 : Int) < (t0.size : Int)))) true x3)) = true → (!(cond (cond (cond (!x1) true ((t0.size : Int) == (0 : Int))) true (decide ((400 : Int) < (t0.size : Int)))) true x3)) = true, (!(cond (cond (cond (!x1) true ((t0.size : Int) == (0 : Int))) true (decide ((400 : Int) < (t0.size : Int)))) true x3)) = true → (0 ≤ ((t0.size : Int) - (1 : Int)) ∧ ((t0.size : Int) - (1 : Int)) < (t0.size : Int))] [(27, .cnd (!(cond (cond (cond (!x1) true ((t0.size : Int) == (0 : Int))) true (decide ((400 : Int) < (t0.size : Int)))) true x3)) (.int .u8 (bAt t0 ((t0.size : Int) - (1 : Int))))), (22, .bool (cond (cond (cond (!x1) true ((t0.size : Int) == (0 : Int))) true (decide ((400 : Int) < (t0.size : Int)))) true x3)), (0, .string t0)] (by kernel_rfl) ⟨(fun h => by first | exact h | simpa using h), (fun h => h), (fun h => h), g4, (fun h => h), (fun h => h), g5, trivial⟩ ?_
  obtain ⟨x6, hx6, H⟩ := bindS H
  refine OpsW.gcall (c := !(cond (cond (cond (!x1) true ((t0.size : Int) == (0 : Int))) true (decide ((400 : Int) < (t0.size : Int)))) true x3)) (r := .bool x6) [] rfl (by kernel_rfl) rfl rfl rfl rfl (fun hc => ⟨glAll_sound ⟨hc, trivial⟩, (.cons (.pur rfl) .nil), f_R02_Space_ok (condT hc hx6), .inl ⟨rfl, rfl⟩⟩) ?_
  refine OpsW.seg 1 [29, 0] [(cond (cond (cond (!x1) true ((t0.size : Int) == (0 : Int))) true (decide ((400 : Int) < (t0.size : Int)))) true x3) = false → (!(cond (cond (cond (!x1) true ((t0.size : Int) == (0 : Int))) true (decide ((400 : Int) < (t0.size : Int)))) true x3)) = true] [(29, .bool (cond (cond (cond (cond (!x1) true ((t0.size : Int) == (0 : Int))) true (decide ((400 : Int) < (t0.size : Int)))) true x3) true x6)), (0, .string t0)] (by kernel_rfl) ⟨(fun h => by first | exact h | simpa using h), trivial⟩ ?_
  refine OpsW.nil ?_
  refine AW.cond (b := cond (cond (cond (cond (!x1) true ((t0.size : Int) == (0 : Int))) true (decide ((400 : Int) < (t0.size : Int)))) true x3) true x6) rfl (fun c7 => ?_) (fun c7 => ?_)
  · replace H := condT c7 H
    refine AW.regionSeq ?_
    refine OpsW.seg 1 [2] [] [(2, .bool false)] (by kernel_rfl) trivial ?_
    refine OpsW.nil ?_
    obtain rfl := Option.some.inj H
    refine AW.recast (env' := [(2, .bool false)]) (h' := []) (StC.pure (.cons .im .nil)) ?_
    refine AW.ret ?_
    try simp only [Ex.then, Ex.inBlock, Ex.noGoto, Ex.jump, reduceIte, Nat.reduceEqDiff, reduceCtorEq]
    refine Done.gen rfl (.tmp .nil) ?_
    show _ = _
    kernel_rfl
  · replace H := condF c7 H
    refine AW.skip ?_
    refine AW.seq ?_
    refine AW.regionSeq ?_
    refine OpsW.seg 1 [3, 0] [] [(3, .int .i64 (1 : Int)), (0, .string t0)] (by kernel_rfl) trivial ?_
    refine OpsW.nil ?_
    refine AW.block ?_
    refine AW.iterK (fun loop (s : Int) => f_R02_Clean_b1 t0 loop s) r (fun (s : Int) => [(0, .string t0), (3, .int .i64 s)]) (fun (s : Int) => []) ?_ 1000000 (1 : Int) H (StC.pure (.cons .im (.cons .im .nil)))
    intro loop9 v8 H
    change f_R02_Clean_b1 t0 loop9 v8 = some r at H
    unfold f_R02_Clean_b1 at H
    change AW _ _ _ [(0, .string t0), (3, .int .i64 v8)] [] _
    refine AW.seq ?_
    refine AW.regionSeq ?_
    refine OpsW.seg 4 [33, 0, 3] [] [(33, .bool (decide (v8 < (t0.size : Int)))), (0, .string t0), (3, .int .i64 v8)] (by kernel_rfl) trivial ?_
    refine OpsW.nil ?_
    refine AW.cond (b := decide (v8 < (t0.size : Int))) rfl (fun c10 => ?_) (fun c10 => ?_)
    · replace H := condT c10 H
      refine AW.skip ?_
      refine AW.seq ?_
      refine AW.block ?_
      refine AW.regionSeq ?_
      obtain ⟨g11, H⟩ := G_some H
      refine OpsW.seg 3 [38, 0, 3] [0 ≤ v8 ∧ v8 < (t0.size : Int)] [(38, .int .u8 (bAt t0 v8)), (0, .string t0), (3, .int .i64 v8)] (by kernel_rfl) ⟨g11, trivial⟩ ?_
      obtain ⟨x12, hx12, H⟩ := bindS H
      refine OpsW.qcall rfl (by kernel_rfl) rfl rfl (glAll_sound trivial) (.cons (.pur rfl) .nil) (f_R02_Space_ok hx12) rfl ?_
      obtain ⟨g13, H⟩ := G_some H
      obtain ⟨g14, H⟩ := G_some H
      refine OpsW.seg 5 [44, 40, 0, 3] [x12 = true → x12 = true, x12 = true → inR (v8 - (1 : Int)), x12 = true → x12 = true, x12 = true → x12 = true, x12 = true → (0 ≤ (v8 - (1 : Int)) ∧ (v8 - (1 : Int)) < (t0.size : Int))] [(44, .cnd x12 (.int .u8 (bAt t0 (v8 - (1 : Int))))), (40, .bool x12), (0, .string t0), (3, .int .i64 v8)] (by kernel_rfl) ⟨(fun h => h), g13, (fun h => h), (fun h => h), g14, trivial⟩ ?_
      obtain ⟨x15, hx15, H⟩ := bindS H
      refine OpsW.gcall (c := x12) (r := .bool x15) [] rfl (by kernel_rfl) rfl rfl rfl rfl (fun hc => ⟨glAll_sound ⟨hc, trivial⟩, (.cons (.pur rfl) .nil), f_R02_Space_ok (condT hc hx15), .inl ⟨rfl, rfl⟩⟩) ?_
      refine OpsW.seg 1 [46, 0, 3] [x12 = true → x12 = true] [(46, .bool (cond x12 x15 false)), (0, .string t0), (3, .int .i64 v8)] (by kernel_rfl) ⟨(fun h => by first | exact h | simpa using h), trivial⟩ ?_
      refine OpsW.nil ?_
      refine AW.cond (b := cond x12 x15 false) rfl (fun c16 => ?_) (fun c16 => ?_)
      · replace H := condT c16 H
        refine AW.regionSeq ?_
        refine OpsW.seg 1 [2] [] [(2, .bool false)] (by kernel_rfl) trivial ?_
        refine OpsW.nil ?_
        obtain rfl := Option.some.inj H
        refine AW.recast (env' := [(2, .bool false)]) (h' := []) (StC.pure (.cons .im .nil)) ?_
        refine AW.ret ?_
        try simp only [Ex.then, Ex.inBlock, Ex.noGoto, Ex.jump, reduceIte, Nat.reduceEqDiff, reduceCtorEq]
        refine Done.gen rfl (.tmp .nil) ?_
        show _ = _
        kernel_rfl
      · replace H := condF c16 H
        refine AW.skip ?_
        refine AW.region ?_
        obtain ⟨g17, H⟩ := G_some H
        refine OpsW.seg 3 [3, 0] [inR (v8 + (1 : Int))] [(3, .int .i64 (v8 + (1 : Int))), (0, .string t0)] (by kernel_rfl) ⟨g17, trivial⟩ ?_
        refine OpsW.nil ?_
        show ∃ y, _ ∧ StC _ _ _ _
        exact ⟨v8 + (1 : Int), H, (StC.pure (.cons .im (.cons .im .nil)))⟩
    · replace H := condF c10 H
      refine AW.exit ?_
      refine AW.regionSeq ?_
      refine OpsW.seg 1 [2] [] [(2, .bool true)] (by kernel_rfl) trivial ?_
      refine OpsW.nil ?_
      obtain rfl := Option.some.inj H
      refine AW.recast (env' := [(2, .bool true)]) (h' := []) (StC.pure (.cons .im .nil)) ?_
      refine AW.ret ?_
      try simp only [Ex.then, Ex.inBlock, Ex.noGoto, Ex.jump, reduceIte, Nat.reduceEqDiff, reduceCtorEq]
      refine Done.gen rfl (.tmp .nil) ?_
      show _ = _
      kernel_rfl
def f_L02_TableTexts (t0 : ByteArray) (t1 : Int) (t2 : Int) : Option Bool :=
  (f_L02_sanity).bind fun x1 =>
  cond (decide ((500 : Int) < (t0.size : Int))) (
    some x1) (
    (f_table_Text t0).bind fun x3 =>
    (f_R02_Text t0).bind fun x4 =>
    (f_table_Class t1).bind fun x5 =>
    (f_R02_Class t1).bind fun x6 =>
    (cond (!(cond (cond (x5 != x6) true (x3.1 != x4.1)) true (x3.2 != x4.2))) (f_table_Clean t0) (some false)).bind fun x7 =>
    (cond (!(cond (cond (x5 != x6) true (x3.1 != x4.1)) true (x3.2 != x4.2))) (f_R02_Clean t0) (some false)).bind fun x8 =>
    cond (cond (cond (cond (x5 != x6) true (x3.1 != x4.1)) true (x3.2 != x4.2)) true (x7 != x8)) (
      some false) (
      G (inR ((t0.size : Int) + (1 : Int))) <|
      G (((t0.size : Int) + (1 : Int)) ≠ 0) <|
      G (0 ≤ (Int.tmod (IntKind.wrap .i64 t2) ((t0.size : Int) + (1 : Int))) ∧ (Int.tmod (IntKind.wrap .i64 t2) ((t0.size : Int) + (1 : Int))) ≤ (t0.size : Int)) <|
      (f_table_Text (t0.extract 0 ((Int.tmod (IntKind.wrap .i64 t2) ((t0.size : Int) + (1 : Int))).toNat))).bind fun x13 =>
      (f_table_Text (t0.extract ((Int.tmod (IntKind.wrap .i64 t2) ((t0.size : Int) + (1 : Int))).toNat) t0.size)).bind fun x14 =>
      some (cond ((x3.2 == (0 : Int)) == (cond (x13.2 == (0 : Int)) (x14.2 == (0 : Int)) false)) x1 false)))
theorem f_L02_TableTexts_ok  {t0 : ByteArray} {t1 : Int} {t2 : Int} {r : Bool} (H : f_L02_TableTexts t0 t1 t2 = some r) : QSpec Tryd.prog 3 [.string t0, .int .u8 t1, .int .u16 t2] (.bool r) := by
  refine Spec.of_AW Tryd.func3 rfl (by simp [Tryd.ntmps3]) ?_
  rw [Tryd.ntmps3]
  unfold f_L02_TableTexts at H
  change AW _ _ _ [(0, .string t0), (1, .int .u8 t1), (2, .int .u16 t2)] [] _
  refine AW.regionSeq ?_
  refine OpsW.seg 1 [0, 1, 2] [] [(0, .string t0), (1, .int .u8 t1), (2, .int .u16 t2)] (by kernel_rfl) trivial ?_
  refine OpsW.nil ?_
  refine AW.regionSeq ?_
  obtain ⟨x1, hx1, H⟩ := bindS H
  refine OpsW.qcall rfl (by kernel_rfl) rfl rfl (glAll_sound trivial) .nil (f_L02_sanity_ok hx1) rfl ?_
  refine OpsW.seg 1 [7, 0, 1, 2] [] [(7, .bool x1), (0, .string t0), (1, .int .u8 t1), (2, .int .u16 t2)] (by kernel_rfl) trivial ?_
  refine OpsW.nil ?_
  refine AW.seq ?_
  refine AW.regionSeq ?_
  refine OpsW.seg 3 [20, 7, 0, 1, 2] [] [(20, .bool (decide ((500 : Int) < (t0.size : Int)))), (7, .bool x1), (0, .string t0), (1, .int .u8 t1), (2, .int .u16 t2)] (by kernel_rfl) trivial ?_
  refine OpsW.nil ?_
  refine AW.cond (b := decide ((500 : Int) < (t0.size : Int))) rfl (fun c2 => ?_) (fun c2 => ?_)
  · replace H := condT c2 H
    refine AW.regionSeq ?_
    refine OpsW.seg 2 [6] [] [(6, .bool x1)] (by kernel_rfl) trivial ?_
    refine OpsW.nil ?_
    obtain rfl := Option.some.inj H
    refine AW.recast (env' := [(6, .bool x1)]) (h' := []) (StC.pure (.cons .im .nil)) ?_
    refine AW.ret ?_
    try simp only [Ex.then, Ex.inBlock, Ex.noGoto, Ex.jump, reduceIte, Nat.reduceEqDiff, reduceCtorEq]
    refine Done.gen rfl (.tmp .nil) ?_
    show _ = _
    kernel_rfl
  · replace H := condF c2 H
    refine AW.skip ?_
    refine AW.regionSeq ?_
    refine OpsW.seg 1 [23, 7, 0, 1, 2] [] [(23, .string t0), (7, .bool x1), (0, .string t0), (1, .int .u8 t1), (2, .int .u16 t2)] (by kernel_rfl) trivial ?_
    obtain ⟨x3, hx3, H⟩ := bindS H
    refine OpsW.qcall rfl (by kernel_rfl) rfl rfl (glAll_sound trivial) (.cons (.pur rfl) .nil) (f_table_Text_ok hx3) rfl ?_
    refine OpsW.seg 5 [9, 8, 7, 0, 1, 2] [] [(9, .int .i64 x3.2), (8, .int .i64 x3.1), (7, .bool x1), (0, .string t0), (1, .int .u8 t1), (2, .int .u16 t2)] (by kernel_rfl) trivial ?_
    refine OpsW.nil ?_
    refine AW.regionSeq ?_
    refine OpsW.seg 1 [28, 9, 8, 7, 0, 1, 2] [] [(28, .string t0), (9, .int .i64 x3.2), (8, .int .i64 x3.1), (7, .bool x1), (0, .string t0), (1, .int .u8 t1), (2, .int .u16 t2)] (by kernel_rfl) trivial ?_
    obtain ⟨x4, hx4, H⟩ := bindS H
    refine OpsW.qcall rfl (by kernel_rfl) rfl rfl (glAll_sound trivial) (.cons (.pur rfl) .nil) (f_R02_Text_ok hx4) rfl ?_
    refine OpsW.seg 5 [11, 10, 9, 8, 7, 0, 1, 2] [] [(11, .int .i64 x4.2), (10, .int .i64 x4.1), (9, .int .i64 x3.2), (8, .int .i64 x3.1), (7, .bool x1), (0, .string t0), (1, .int .u8 t1), (2, .int .u16 t2)] (by kernel_rfl) trivial ?_
    refine OpsW.nil ?_
    refine AW.seq ?_
    refine AW.regionSeq ?_
    refine OpsW.seg 1 [32, 11, 10, 9, 8, 7, 0, 1, 2] [] [(32, .int .u8 t1), (11, .int .i64 x4.2), (10, .int .i64 x4.1), (9, .int .i64 x3.2), (8, .int .i64 x3.1), (7, .bool x1), (0, .string t0), (1, .int .u8 t1), (2, .int .u16 t2)] (by kernel_rfl) trivial ?_
    obtain ⟨x5, hx5, H⟩ := bindS H
    refine OpsW.qcall rfl (by kernel_rfl) rfl rfl (glAll_sound trivial) (.cons (.pur rfl) .nil) (f_table_Class_ok hx5) rfl ?_
    refine OpsW.seg 1 [34, 33, 11, 10, 9, 8, 7, 0, 2] [] [(34, .int .u8 t1), (33, .int .i64 x5), (11, .int .i64 x4.2), (10, .int .i64 x4.1), (9, .int .i64 x3.2), (8, .int .i64 x3.1), (7, .bool x1), (0, .string t0), (2, .int .u16 t2)] (by kernel_rfl) trivial ?_
    obtain ⟨x6, hx6, H⟩ := bindS H
    refine OpsW.qcall rfl (by kernel_rfl) rfl rfl (glAll_sound trivial) (.cons (.pur rfl) .nil) (f_R02_Class_ok hx6) rfl ?_
    refine OpsW.seg 13 [48, 47, 9, 7, 0, 2] [(!(x5 != x6)) = true → (!(x5 != x6)) = true, (!(x5 != x6)) = true → (!(x5 != x6)) = true, (x5 != x6) = false → (!(x5 != x6)) = true, (!(cond (x5 != x6) true (x3.1 != x4.1))) = true → (!(cond (x5 != x6) true (x3.1 != x4.1))) = true, (!(cond (x5 != x6) true (x3.1 != x4.1))) = true → (!(cond (x5 != x6) true (x3.1 != x4.1))) = true, (cond (x5 != x6) true (x3.1 != x4.1)) = false → (!(cond (x5 != x6) true (x3.1 != x4.1))) = true] [(48, .cnd (!(cond (cond (x5 != x6) true (x3.1 != x4.1)) true (x3.2 != x4.2))) (.string t0)), (47, .bool (cond (cond (x5 != x6) true (x3.1 != x4.1)) true (x3.2 != x4.2))), (9, .int .i64 x3.2), (7, .bool x1), (0, .string t0), (2, .int .u16 t2)] (by kernel_rfl) ⟨(fun h => h), (fun h => h), (fun h => by first | exact h | simpa using h), (fun h => h), (fun h => h), (fun h => by first | exact h | simpa using h), trivial⟩ ?_
    obtain ⟨x7, hx7, H⟩ := bindS H
    refine OpsW.gcall (c := !(cond (cond (x5 != x6) true (x3.1 != x4.1)) true (x3.2 != x4.2))) (r := .bool x7) [] rfl (by kernel_rfl) rfl rfl rfl rfl (fun hc => ⟨glAll_sound ⟨hc, trivial⟩, (.cons (.pur rfl) .nil), f_table_Clean_ok (condT hc hx7), .inl ⟨rfl, rfl⟩⟩) ?_
    refine OpsW.seg 1 [50, 49, 47, 9, 7, 0, 2] [] [(50, .cnd (!(cond (cond (x5 != x6) true (x3.1 != x4.1)) true (x3.2 != x4.2))) (.string t0)), (49, .cnd (!(cond (cond (x5 != x6) true (x3.1 != x4.1)) true (x3.2 != x4.2))) (.bool x7)), (47, .bool (cond (cond (x5 != x6) true (x3.1 != x4.1)) true (x3.2 != x4.2))), (9, .int .i64 x3.2), (7, .bool x1), (0, .string t0), (2, .int .u16 t2)] (by kernel_rfl) trivial ?_
    obtain ⟨x8, hx8, H⟩ := bindS H
    refine OpsW.gcall (c := !(cond (cond (x5 != x6) true (x3.1 != x4.1)) true (x3.2 != x4.2))) (r := .bool x8) [] rfl (by kernel_rfl) rfl rfl rfl rfl (fun hc => ⟨glAll_sound ⟨hc, trivial⟩, (.cons (.pur rfl) .nil), f_R02_Clean_ok (condT hc hx8), .inl ⟨rfl, rfl⟩⟩) ?_
    refine OpsW.seg 2 [53, 9, 7, 0, 2] [(!(cond (cond (x5 != x6) true (x3.1 != x4.1)) true (x3.2 != x4.2))) = true → (!(cond (cond (x5 != x6) true (x3.1 != x4.1)) true (x3.2 != x4.2))) = true, (!(cond (cond (x5 != x6) true (x3.1 != x4.1)) true (x3.2 != x4.2))) = true → (!(cond (cond (x5 != x6) true (x3.1 != x4.1)) true (x3.2 != x4.2))) = true, (cond (cond (x5 != x6) true (x3.1 != x4.1)) true (x3.2 != x4.2)) = false → (!(cond (cond (x5 != x6) true (x3.1 != x4.1)) true (x3.2 != x4.2))) = true] [(53, .bool (cond (cond (cond (x5 != x6) true (x3.1 != x4.1)) true (x3.2 != x4.2)) true (x7 != x8))), (9, .int .i64 x3.2), (7, .bool x1), (0, .string t0), (2, .int .u16 t2)] (by kernel_rfl) ⟨(fun h => h), (fun h => h), (fun h => by first | exact h | simpa using h), trivial⟩ ?_
    refine OpsW.nil ?_
    refine AW.cond (b := cond (cond (cond (x5 != x6) true (x3.1 != x4.1)) true (x3.2 != x4.2)) true (x7 != x8)) rfl (fun c9 => ?_) (fun c9 => ?_)
    · replace H := condT c9 H
      refine AW.regionSeq ?_
      refine OpsW.seg 1 [6] [] [(6, .bool false)] (by kernel_rfl) trivial ?_
      refine OpsW.nil ?_
      obtain rfl := Option.some.inj H
      refine AW.recast (env' := [(6, .bool false)]) (h' := []) (StC.pure (.cons .im .nil)) ?_
      refine AW.ret ?_
      try simp only [Ex.then, Ex.inBlock, Ex.noGoto, Ex.jump, reduceIte, Nat.reduceEqDiff, reduceCtorEq]
      refine Done.gen rfl (.tmp .nil) ?_
      show _ = _
      kernel_rfl
    · replace H := condF c9 H
      refine AW.skip ?_
      refine AW.regionSeq ?_
      obtain ⟨g10, H⟩ := G_some H
      obtain ⟨g11, H⟩ := G_some H
      refine OpsW.seg 7 [12, 9, 7, 0] [inR ((t0.size : Int) + (1 : Int)), ((t0.size : Int) + (1 : Int)) ≠ 0] [(12, .int .i64 (Int.tmod (IntKind.wrap .i64 t2) ((t0.size : Int) + (1 : Int)))), (9, .int .i64 x3.2), (7, .bool x1), (0, .string t0)] (by kernel_rfl) ⟨g10, g11, trivial⟩ ?_
      refine OpsW.nil ?_
      refine AW.regionSeq ?_
      obtain ⟨g12, H⟩ := G_some H
      refine OpsW.seg 3 [63, 12, 9, 7, 0] [0 ≤ (Int.tmod (IntKind.wrap .i64 t2) ((t0.size : Int) + (1 : Int))) ∧ (Int.tmod (IntKind.wrap .i64 t2) ((t0.size : Int) + (1 : Int))) ≤ (t0.size : Int)] [(63, .string (t0.extract 0 ((Int.tmod (IntKind.wrap .i64 t2) ((t0.size : Int) + (1 : Int))).toNat))), (12, .int .i64 (Int.tmod (IntKind.wrap .i64 t2) ((t0.size : Int) + (1 : Int)))), (9, .int .i64 x3.2), (7, .bool x1), (0, .string t0)] (by kernel_rfl) ⟨g12, trivial⟩ ?_
      obtain ⟨x13, hx13, H⟩ := bindS H
      refine OpsW.qcall rfl (by kernel_rfl) rfl rfl (glAll_sound trivial) (.cons (.pur rfl) .nil) (f_table_Text_ok hx13) rfl ?_
      refine OpsW.seg 5 [14, 12, 9, 7, 0] [] [(14, .int .i64 x13.2), (12, .int .i64 (Int.tmod (IntKind.wrap .i64 t2) ((t0.size : Int) + (1 : Int)))), (9, .int .i64 x3.2), (7, .bool x1), (0, .string t0)] (by kernel_rfl) trivial ?_
      refine OpsW.nil ?_
      refine AW.regionSeq ?_
      refine OpsW.seg 3 [70, 14, 9, 7] [0 ≤ (Int.tmod (IntKind.wrap .i64 t2) ((t0.size : Int) + (1 : Int))) ∧ (Int.tmod (IntKind.wrap .i64 t2) ((t0.size : Int) + (1 : Int))) ≤ (t0.size : Int)] [(70, .string (t0.extract ((Int.tmod (IntKind.wrap .i64 t2) ((t0.size : Int) + (1 : Int))).toNat) t0.size)), (14, .int .i64 x13.2), (9, .int .i64 x3.2), (7, .bool x1)] (by kernel_rfl) ⟨g12, trivial⟩ ?_
      obtain ⟨x14, hx14, H⟩ := bindS H
      refine OpsW.qcall rfl (by kernel_rfl) rfl rfl (glAll_sound trivial) (.cons (.pur rfl) .nil) (f_table_Text_ok hx14) rfl ?_
      refine OpsW.seg 5 [16, 14, 9, 7] [] [(16, .int .i64 x14.2), (14, .int .i64 x13.2), (9, .int .i64 x3.2), (7, .bool x1)] (by kernel_rfl) trivial ?_
      refine OpsW.nil ?_
      refine AW.regionSeq ?_
      refine OpsW.seg 13 [6] [(x13.2 == (0 : Int)) = true → (x13.2 == (0 : Int)) = true, (x13.2 == (0 : Int)) = true → (x13.2 == (0 : Int)) = true, ((x3.2 == (0 : Int)) == (cond (x13.2 == (0 : Int)) (x14.2 == (0 : Int)) false)) = true → ((x3.2 == (0 : Int)) == (cond (x13.2 == (0 : Int)) (x14.2 == (0 : Int)) false)) = true] [(6, .bool (cond ((x3.2 == (0 : Int)) == (cond (x13.2 == (0 : Int)) (x14.2 == (0 : Int)) false)) x1 false))] (by kernel_rfl) ⟨(fun h => h), (fun h => by first | exact h | simpa using h), (fun h => by first | exact h | simpa using h), trivial⟩ ?_
      refine OpsW.nil ?_
      obtain rfl := Option.some.inj H
      refine AW.recast (env' := [(6, .bool (cond ((x3.2 == (0 : Int)) == (cond (x13.2 == (0 : Int)) (x14.2 == (0 : Int)) false)) x1 false))]) (h' := []) (StC.pure (.cons .im .nil)) ?_
      refine AW.ret ?_
      try simp only [Ex.then, Ex.inBlock, Ex.noGoto, Ex.jump, reduceIte, Nat.reduceEqDiff, reduceCtorEq]
      refine Done.gen rfl (.tmp .nil) ?_
      show _ = _
      kernel_rfl
def f_L02_TableCleanWords_k1 (loop6 : (Int × Bool × Int) → Option Bool) (v5 : Int) (v8 : Int) (v9 : Bool) : Option Bool :=
  G (inR (v5 + (1 : Int))) <|
  loop6 (v8, v9, v5 + (1 : Int))
def f_L02_TableCleanWords_k2 (t0 : ByteArray) (loop6 : (Int × Bool × Int) → Option Bool) (v3 : Int) (v5 : Int) (v11 : Bool) : Option Bool :=
  G (0 ≤ v5 ∧ v5 < (t0.size : Int)) <|
  (f_R02_Space (bAt t0 v5)).bind fun x13 =>
  cond (!x13) (
    G (inR (v3 + (1 : Int))) <|
    f_L02_TableCleanWords_k1 loop6 v5 (v3 + (1 : Int)) v11) (
    f_L02_TableCleanWords_k1 loop6 v5 (0 : Int) (cond v11 (decide ((0 : Int) < v3)) false))
def f_L02_TableCleanWords_b1 (t0 : ByteArray) (x1 : Bool) (loop6 : (Int × Bool × Int) → Option Bool) (v3 : Int) (v4 : Bool) (v5 : Int) : Option Bool :=
  cond (decide (v5 < (t0.size : Int))) (
    G (0 ≤ v5 ∧ v5 < (t0.size : Int)) <|
    (f_R02_Character (bAt t0 v5)).bind fun x17 =>
    cond (!x17) (
      f_L02_TableCleanWords_k2 t0 loop6 v3 v5 false) (
      f_L02_TableCleanWords_k2 t0 loop6 v3 v5 v4)) (
    (f_table_Clean t0).bind fun x19 =>
    some (cond (x19 == (cond v4 (decide ((0 : Int) < v3)) false)) x1 false))
def f_L02_TableCleanWords (t0 : ByteArray) : Option Bool :=
  (f_L02_sanity).bind fun x1 =>
  cond (decide ((500 : Int) < (t0.size : Int))) (
    some x1) (
    iter (fun loop (s : Int × Bool × Int) => f_L02_TableCleanWords_b1 t0 x1 loop s.1 s.2.1 s.2.2) 1000000 ((0 : Int), decide ((t0.size : Int) ≤ (400 : Int)), (0 : Int)))
theorem f_L02_TableCleanWords_ok  {t0 : ByteArray} {r : Bool} (H : f_L02_TableCleanWords t0 = some r) : QSpec Tryd.prog 4 [.string t0] (.bool r) := by
  refine Spec.of_AW Tryd.func4 rfl (by simp [Tryd.ntmps4]) ?_
  rw [Tryd.ntmps4]
  unfold f_L02_TableCleanWords at H
  change AW _ _ _ [(0, .string t0)] [] _
  refine AW.regionSeq ?_
  refine OpsW.seg 1 [0] [] [(0, .string t0)] (by kernel_rfl) trivial ?_
  refine OpsW.nil ?_
  refine AW.regionSeq ?_
  obtain ⟨x1, hx1, H⟩ := bindS H
  refine OpsW.qcall rfl (by kernel_rfl) rfl rfl (glAll_sound trivial) .nil (f_L02_sanity_ok hx1) rfl ?_
  refine OpsW.seg 1 [3, 0] [] [(3, .bool x1), (0, .string t0)] (by kernel_rfl) trivial ?_
  refine OpsW.nil ?_
  refine AW.seq ?_
  refine AW.regionSeq ?_
  refine OpsW.seg 3 [10, 3, 0] [] [(10, .bool (decide ((500 : Int) < (t0.size : Int)))), (3, .bool x1), (0, .string t0)] (by kernel_rfl) trivial ?_
  refine OpsW.nil ?_
  refine AW.cond (b := decide ((500 : Int) < (t0.size : Int))) rfl (fun c2 => ?_) (fun c2 => ?_)
  · replace H := condT c2 H
    refine AW.regionSeq ?_
    refine OpsW.seg 2 [2] [] [(2, .bool x1)] (by kernel_rfl) trivial ?_
    refine OpsW.nil ?_
    obtain rfl := Option.some.inj H
    refine AW.recast (env' := [(2, .bool x1)]) (h' := []) (StC.pure (.cons .im .nil)) ?_
    refine AW.ret ?_
    try simp only [Ex.then, Ex.inBlock, Ex.noGoto, Ex.jump, reduceIte, Nat.reduceEqDiff, reduceCtorEq]
    refine Done.gen rfl (.tmp .nil) ?_
    show _ = _
    kernel_rfl
  · replace H := condF c2 H
    refine AW.skip ?_
    refine AW.regionSeq ?_
    refine OpsW.seg 5 [5, 4, 3, 0] [] [(5, .bool (decide ((t0.size : Int) ≤ (400 : Int)))), (4, .int .i64 (0 : Int)), (3, .bool x1), (0, .string t0)] (by kernel_rfl) trivial ?_
    refine OpsW.nil ?_
    refine AW.seq ?_
    refine AW.regionSeq ?_
    refine OpsW.seg 1 [6, 5, 4, 3, 0] [] [(6, .int .i64 (0 : Int)), (5, .bool (decide ((t0.size : Int) ≤ (400 : Int)))), (4, .int .i64 (0 : Int)), (3, .bool x1), (0, .string t0)] (by kernel_rfl) trivial ?_
    refine OpsW.nil ?_
    refine AW.block ?_
    refine AW.iterK (fun loop (s : Int × Bool × Int) => f_L02_TableCleanWords_b1 t0 x1 loop s.1 s.2.1 s.2.2) r (fun (s : Int × Bool × Int) => [(0, .string t0), (3, .bool x1), (4, .int .i64 s.1), (5, .bool s.2.1), (6, .int .i64 s.2.2)]) (fun (s : Int × Bool × Int) => []) ?_ 1000000 ((0 : Int), decide ((t0.size : Int) ≤ (400 : Int)), (0 : Int)) H (StC.pure (.cons .im (.cons .im (.cons .im (.cons .im (.cons .im .nil))))))
    intro loop6 s H
    obtain ⟨v3, v4, v5⟩ := s
    change f_L02_TableCleanWords_b1 t0 x1 loop6 v3 v4 v5 = some r at H
    unfold f_L02_TableCleanWords_b1 at H
    change AW _ _ _ [(0, .string t0), (3, .bool x1), (4, .int .i64 v3), (5, .bool v4), (6, .int .i64 v5)] [] _
    refine AW.seq ?_
    refine AW.regionSeq ?_
    refine OpsW.seg 4 [18, 0, 3, 4, 5, 6] [] [(18, .bool (decide (v5 < (t0.size : Int)))), (0, .string t0), (3, .bool x1), (4, .int .i64 v3), (5, .bool v4), (6, .int .i64 v5)] (by kernel_rfl) trivial ?_
    refine OpsW.nil ?_
    refine AW.cond (b := decide (v5 < (t0.size : Int))) rfl (fun c7 => ?_) (fun c7 => ?_)
    · replace H := condT c7 H
      refine AW.skip ?_
      refine AW.joinK (fun (y : Int × Bool) => f_L02_TableCleanWords_k1 loop6 v5 y.1 y.2) r (fun (y : Int × Bool) => [(0, .string t0), (3, .bool x1), (4, .int .i64 y.1), (5, .bool y.2), (6, .int .i64 v5)]) (fun (y : Int × Bool) => []) ?_ ?_
      · refine AW.block ?_
        refine AW.joinK (fun (y : Bool) => f_L02_TableCleanWords_k2 t0 loop6 v3 v5 y) r (fun (y : Bool) => [(0, .string t0), (3, .bool x1), (4, .int .i64 v3), (5, .bool y), (6, .int .i64 v5)]) (fun (y : Bool) => []) ?_ ?_
        · refine AW.regionSeq ?_
          obtain ⟨g16, H⟩ := G_some H
          refine OpsW.seg 3 [23, 0, 3, 4, 5, 6] [0 ≤ v5 ∧ v5 < (t0.size : Int)] [(23, .int .u8 (bAt t0 v5)), (0, .string t0), (3, .bool x1), (4, .int .i64 v3), (5, .bool v4), (6, .int .i64 v5)] (by kernel_rfl) ⟨g16, trivial⟩ ?_
          obtain ⟨x17, hx17, H⟩ := bindS H
          refine OpsW.qcall rfl (by kernel_rfl) rfl rfl (glAll_sound trivial) (.cons (.pur rfl) .nil) (f_R02_Character_ok hx17) rfl ?_
          refine OpsW.seg 1 [25, 0, 3, 4, 5, 6] [] [(25, .bool (!x17)), (0, .string t0), (3, .bool x1), (4, .int .i64 v3), (5, .bool v4), (6, .int .i64 v5)] (by kernel_rfl) trivial ?_
          refine OpsW.nil ?_
          refine AW.cond (b := !x17) rfl (fun c18 => ?_) (fun c18 => ?_)
          · replace H := condT c18 H
            refine AW.region ?_
            refine OpsW.seg 1 [5, 0, 3, 4, 6] [] [(5, .bool false), (0, .string t0), (3, .bool x1), (4, .int .i64 v3), (6, .int .i64 v5)] (by kernel_rfl) trivial ?_
            refine OpsW.nil ?_
            show ∃ y, _ ∧ StC _ _ _ _
            exact ⟨false, H, (StC.pure (.cons .im (.cons .im (.cons .im (.cons .im (.cons .im .nil))))))⟩
          · replace H := condF c18 H
            refine AW.skip ?_
            show ∃ y, _ ∧ StC _ _ _ _
            exact ⟨v4, H, (StC.pure (.cons .im (.cons .im (.cons .im (.cons .im (.cons .im .nil))))))⟩
        · intro v11 H
          change f_L02_TableCleanWords_k2 t0 loop6 v3 v5 v11 = some r at H
          unfold f_L02_TableCleanWords_k2 at H
          change AW _ _ _ [(0, .string t0), (3, .bool x1), (4, .int .i64 v3), (5, .bool v11), (6, .int .i64 v5)] [] _
          refine AW.seq ?_
          refine AW.regionSeq ?_
          obtain ⟨g12, H⟩ := G_some H
          refine OpsW.seg 3 [28, 0, 3, 4, 5, 6] [0 ≤ v5 ∧ v5 < (t0.size : Int)] [(28, .int .u8 (bAt t0 v5)), (0, .string t0), (3, .bool x1), (4, .int .i64 v3), (5, .bool v11), (6, .int .i64 v5)] (by kernel_rfl) ⟨g12, trivial⟩ ?_
          obtain ⟨x13, hx13, H⟩ := bindS H
          refine OpsW.qcall rfl (by kernel_rfl) rfl rfl (glAll_sound trivial) (.cons (.pur rfl) .nil) (f_R02_Space_ok hx13) rfl ?_
          refine OpsW.seg 1 [30, 0, 3, 4, 5, 6] [] [(30, .bool (!x13)), (0, .string t0), (3, .bool x1), (4, .int .i64 v3), (5, .bool v11), (6, .int .i64 v5)] (by kernel_rfl) trivial ?_
          refine OpsW.nil ?_
          refine AW.cond (b := !x13) rfl (fun c14 => ?_) (fun c14 => ?_)
          · replace H := condT c14 H
            refine AW.regionSeq ?_
            obtain ⟨g15, H⟩ := G_some H
            refine OpsW.seg 3 [4, 0, 3, 5, 6] [inR (v3 + (1 : Int))] [(4, .int .i64 (v3 + (1 : Int))), (0, .string t0), (3, .bool x1), (5, .bool v11), (6, .int .i64 v5)] (by kernel_rfl) ⟨g15, trivial⟩ ?_
            refine OpsW.nil ?_
            refine AW.exit ?_
            show ∃ y, _ ∧ StC _ _ _ _
            exact ⟨(v3 + (1 : Int), v11), H, (StC.pure (.cons .im (.cons .im (.cons .im (.cons .im (.cons .im .nil))))))⟩
          · replace H := condF c14 H
            refine AW.skip ?_
            refine AW.regionSeq ?_
            refine OpsW.seg 6 [5, 0, 3, 6] [v11 = true → v11 = true, v11 = true → v11 = true] [(5, .bool (cond v11 (decide ((0 : Int) < v3)) false)), (0, .string t0), (3, .bool x1), (6, .int .i64 v5)] (by kernel_rfl) ⟨(fun h => h), (fun h => by first | exact h | simpa using h), trivial⟩ ?_
            refine OpsW.nil ?_
            refine AW.region ?_
            refine OpsW.seg 1 [4, 5, 0, 3, 6] [] [(4, .int .i64 (0 : Int)), (5, .bool (cond v11 (decide ((0 : Int) < v3)) false)), (0, .string t0), (3, .bool x1), (6, .int .i64 v5)] (by kernel_rfl) trivial ?_
            refine OpsW.nil ?_
            show ∃ y, _ ∧ StC _ _ _ _
            exact ⟨((0 : Int), cond v11 (decide ((0 : Int) < v3)) false), H, (StC.pure (.cons .im (.cons .im (.cons .im (.cons .im (.cons .im .nil))))))⟩
      · rintro ⟨v8, v9⟩ H
        change f_L02_TableCleanWords_k1 loop6 v5 v8 v9 = some r at H
        unfold f_L02_TableCleanWords_k1 at H
        change AW _ _ _ [(0, .string t0), (3, .bool x1), (4, .int .i64 v8), (5, .bool v9), (6, .int .i64 v5)] [] _
        refine AW.region ?_
        obtain ⟨g10, H⟩ := G_some H
        refine OpsW.seg 3 [6, 0, 3, 4, 5] [inR (v5 + (1 : Int))] [(6, .int .i64 (v5 + (1 : Int))), (0, .string t0), (3, .bool x1), (4, .int .i64 v8), (5, .bool v9)] (by kernel_rfl) ⟨g10, trivial⟩ ?_
        refine OpsW.nil ?_
        show ∃ y, _ ∧ StC _ _ _ _
        exact ⟨(v8, v9, v5 + (1 : Int)), H, (StC.pure (.cons .im (.cons .im (.cons .im (.cons .im (.cons .im .nil))))))⟩
    · replace H := condF c7 H
      refine AW.exit ?_
      refine AW.regionSeq ?_
      refine OpsW.seg 1 [38, 3, 4, 5] [] [(38, .string t0), (3, .bool x1), (4, .int .i64 v3), (5, .bool v4)] (by kernel_rfl) trivial ?_
      obtain ⟨x19, hx19, H⟩ := bindS H
      refine OpsW.qcall rfl (by kernel_rfl) rfl rfl (glAll_sound trivial) (.cons (.pur rfl) .nil) (f_table_Clean_ok hx19) rfl ?_
      refine OpsW.seg 10 [2] [v4 = true → v4 = true, v4 = true → v4 = true, (x19 == (cond v4 (decide ((0 : Int) < v3)) false)) = true → (x19 == (cond v4 (decide ((0 : Int) < v3)) false)) = true] [(2, .bool (cond (x19 == (cond v4 (decide ((0 : Int) < v3)) false)) x1 false))] (by kernel_rfl) ⟨(fun h => h), (fun h => by first | exact h | simpa using h), (fun h => by first | exact h | simpa using h), trivial⟩ ?_
      refine OpsW.nil ?_
      obtain rfl := Option.some.inj H
      refine AW.recast (env' := [(2, .bool (cond (x19 == (cond v4 (decide ((0 : Int) < v3)) false)) x1 false))]) (h' := []) (StC.pure (.cons .im .nil)) ?_
      refine AW.ret ?_
      try simp only [Ex.then, Ex.inBlock, Ex.noGoto, Ex.jump, reduceIte, Nat.reduceEqDiff, reduceCtorEq]
      refine Done.gen rfl (.tmp .nil) ?_
      show _ = _
      kernel_rfl
end Go.Proofs.YtlhpkjgpcenfdaaDoor
