/-
  Written by gen.py (own work): typed functions, and that the program computes them.
-/
import Derived.Test.YtlhpkjgpcenfdaaDoorWM1
set_option linter.unusedSimpArgs false
set_option linter.unusedVariables false
set_option maxRecDepth 100000
namespace Go.Proofs.YtlhpkjgpcenfdaaDoor
open Go.Abs
def f_R02_Decimal_body (rec_f_R02_Decimal : Int → Option ByteArray) (t0 : Int) : Option ByteArray :=
  G (inR ((Int.tmod t0 (10 : Int)) + (1 : Int))) <|
  G (0 ≤ ((Int.tmod t0 (10 : Int)) + (1 : Int)) ∧ ((Int.tmod t0 (10 : Int)) + (1 : Int)) ≤ ((⟨#[48, 49, 50, 51, 52, 53, 54, 55, 56, 57]⟩ : ByteArray).size : Int)) <|
  G (0 ≤ (Int.tmod t0 (10 : Int)) ∧ (Int.tmod t0 (10 : Int)) ≤ (((Int.tmod t0 (10 : Int)) + (1 : Int)).toNat : Int)) <|
  cond (decide ((10 : Int) ≤ t0)) (
    G (inR (Int.tdiv t0 (10 : Int))) <|
    (rec_f_R02_Decimal (Int.tdiv t0 (10 : Int))).bind fun x6 =>
    G (x6.size + ((⟨#[48, 49, 50, 51, 52, 53, 54, 55, 56, 57]⟩ : ByteArray).extract ((Int.tmod t0 (10 : Int)).toNat) (((Int.tmod t0 (10 : Int)) + (1 : Int)).toNat)).size ≤ 9223372036854775807) <|
    some (x6 ++ ((⟨#[48, 49, 50, 51, 52, 53, 54, 55, 56, 57]⟩ : ByteArray).extract ((Int.tmod t0 (10 : Int)).toNat) (((Int.tmod t0 (10 : Int)) + (1 : Int)).toNat)))) (
    some ((⟨#[48, 49, 50, 51, 52, 53, 54, 55, 56, 57]⟩ : ByteArray).extract ((Int.tmod t0 (10 : Int)).toNat) (((Int.tmod t0 (10 : Int)) + (1 : Int)).toNat)))
theorem f_R02_Decimal_body_ok {rec_f_R02_Decimal : Int → Option ByteArray} (hrec_f_R02_Decimal : ∀ (t0 : Int) (r : ByteArray), rec_f_R02_Decimal t0 = some r → QSpec Tryd.prog 46 [.int .i64 t0] (.string r)) {t0 : Int} {r : ByteArray} (H : f_R02_Decimal_body rec_f_R02_Decimal t0 = some r) : QSpec Tryd.prog 46 [.int .i64 t0] (.string r) := by
  refine Spec.of_AW Tryd.func46 rfl (by simp [Tryd.ntmps46]) ?_
  rw [Tryd.ntmps46]
  unfold f_R02_Decimal_body at H
  change AW _ _ _ [(0, .int .i64 t0)] [] _
  refine AW.regionSeq ?_
  refine OpsW.seg 1 [0] [] [(0, .int .i64 t0)] (by kernel_rfl) trivial ?_
  refine OpsW.nil ?_
  refine AW.regionSeq ?_
  refine OpsW.seg 1 [3, 0] [] [(3, .string (⟨#[48, 49, 50, 51, 52, 53, 54, 55, 56, 57]⟩ : ByteArray)), (0, .int .i64 t0)] (by kernel_rfl) trivial ?_
  refine OpsW.nil ?_
  refine AW.regionSeq ?_
  obtain ⟨g1, H⟩ := G_some H
  obtain ⟨g2, H⟩ := G_some H
  obtain ⟨g3, H⟩ := G_some H
  refine OpsW.seg 8 [4, 0] [(10 : Int) ≠ 0, (10 : Int) ≠ 0, inR ((Int.tmod t0 (10 : Int)) + (1 : Int)), 0 ≤ ((Int.tmod t0 (10 : Int)) + (1 : Int)) ∧ ((Int.tmod t0 (10 : Int)) + (1 : Int)) ≤ ((⟨#[48, 49, 50, 51, 52, 53, 54, 55, 56, 57]⟩ : ByteArray).size : Int), 0 ≤ (Int.tmod t0 (10 : Int)) ∧ (Int.tmod t0 (10 : Int)) ≤ (((Int.tmod t0 (10 : Int)) + (1 : Int)).toNat : Int)] [(4, .string ((⟨#[48, 49, 50, 51, 52, 53, 54, 55, 56, 57]⟩ : ByteArray).extract ((Int.tmod t0 (10 : Int)).toNat) (((Int.tmod t0 (10 : Int)) + (1 : Int)).toNat))), (0, .int .i64 t0)] (by kernel_rfl) ⟨(by decide), (by decide), g1, g2, g3, trivial⟩ ?_
  refine OpsW.nil ?_
  refine AW.seq ?_
  refine AW.regionSeq ?_
  refine OpsW.seg 2 [13, 4, 0] [] [(13, .bool (decide ((10 : Int) ≤ t0))), (4, .string ((⟨#[48, 49, 50, 51, 52, 53, 54, 55, 56, 57]⟩ : ByteArray).extract ((Int.tmod t0 (10 : Int)).toNat) (((Int.tmod t0 (10 : Int)) + (1 : Int)).toNat))), (0, .int .i64 t0)] (by kernel_rfl) trivial ?_
  refine OpsW.nil ?_
  refine AW.cond (b := decide ((10 : Int) ≤ t0)) rfl (fun c4 => ?_) (fun c4 => ?_)
  · replace H := condT c4 H
    refine AW.regionSeq ?_
    obtain ⟨g5, H⟩ := G_some H
    refine OpsW.seg 2 [15, 4] [(10 : Int) ≠ 0, inR (Int.tdiv t0 (10 : Int))] [(15, .int .i64 (Int.tdiv t0 (10 : Int))), (4, .string ((⟨#[48, 49, 50, 51, 52, 53, 54, 55, 56, 57]⟩ : ByteArray).extract ((Int.tmod t0 (10 : Int)).toNat) (((Int.tmod t0 (10 : Int)) + (1 : Int)).toNat)))] (by kernel_rfl) ⟨(by decide), g5, trivial⟩ ?_
    obtain ⟨x6, hx6, H⟩ := bindS H
    refine OpsW.qcall rfl (by kernel_rfl) rfl rfl (glAll_sound trivial) (.cons (.pur rfl) .nil) (hrec_f_R02_Decimal _ _ hx6) rfl ?_
    obtain ⟨g7, H⟩ := G_some H
    refine OpsW.seg 3 [2] [x6.size + ((⟨#[48, 49, 50, 51, 52, 53, 54, 55, 56, 57]⟩ : ByteArray).extract ((Int.tmod t0 (10 : Int)).toNat) (((Int.tmod t0 (10 : Int)) + (1 : Int)).toNat)).size ≤ 9223372036854775807] [(2, .string (x6 ++ ((⟨#[48, 49, 50, 51, 52, 53, 54, 55, 56, 57]⟩ : ByteArray).extract ((Int.tmod t0 (10 : Int)).toNat) (((Int.tmod t0 (10 : Int)) + (1 : Int)).toNat))))] (by kernel_rfl) ⟨g7, trivial⟩ ?_
    refine OpsW.nil ?_
    obtain rfl := Option.some.inj H
    refine AW.recast (env' := [(2, .string (x6 ++ ((⟨#[48, 49, 50, 51, 52, 53, 54, 55, 56, 57]⟩ : ByteArray).extract ((Int.tmod t0 (10 : Int)).toNat) (((Int.tmod t0 (10 : Int)) + (1 : Int)).toNat))))]) (h' := []) (StC.pure (.cons .im .nil)) ?_
    refine AW.ret ?_
    try simp only [Ex.then, Ex.inBlock, Ex.noGoto, Ex.jump, reduceIte, Nat.reduceEqDiff, reduceCtorEq]
    refine Done.gen rfl (.tmp .nil) ?_
    show _ = _
    kernel_rfl
  · replace H := condF c4 H
    refine AW.skip ?_
    refine AW.regionSeq ?_
    refine OpsW.seg 2 [2] [] [(2, .string ((⟨#[48, 49, 50, 51, 52, 53, 54, 55, 56, 57]⟩ : ByteArray).extract ((Int.tmod t0 (10 : Int)).toNat) (((Int.tmod t0 (10 : Int)) + (1 : Int)).toNat)))] (by kernel_rfl) trivial ?_
    refine OpsW.nil ?_
    obtain rfl := Option.some.inj H
    refine AW.recast (env' := [(2, .string ((⟨#[48, 49, 50, 51, 52, 53, 54, 55, 56, 57]⟩ : ByteArray).extract ((Int.tmod t0 (10 : Int)).toNat) (((Int.tmod t0 (10 : Int)) + (1 : Int)).toNat)))]) (h' := []) (StC.pure (.cons .im .nil)) ?_
    refine AW.ret ?_
    try simp only [Ex.then, Ex.inBlock, Ex.noGoto, Ex.jump, reduceIte, Nat.reduceEqDiff, reduceCtorEq]
    refine Done.gen rfl (.tmp .nil) ?_
    show _ = _
    kernel_rfl
def f_R02_Decimal_f : Nat → Int → Option ByteArray
  | 0, _ => none
  | n + 1, t0 => f_R02_Decimal_body (f_R02_Decimal_f n) t0
theorem f_R02_Decimal_all : ∀ n : Nat, (∀ (t0 : Int) (r : ByteArray), f_R02_Decimal_f n t0 = some r → QSpec Tryd.prog 46 [.int .i64 t0] (.string r)) ∧ True
  | 0 => by
    refine ⟨?_, trivial⟩
    · intro t0 r H; rw [f_R02_Decimal_f] at H; cases H
  | n + 1 => by
    have ih := f_R02_Decimal_all n
    refine ⟨?_, trivial⟩
    · intro t0 r H; rw [f_R02_Decimal_f] at H; exact f_R02_Decimal_body_ok ih.1 H
def f_R02_Decimal (t0 : Int) : Option ByteArray := f_R02_Decimal_f 1000000 t0
theorem f_R02_Decimal_ok {t0 : Int} {r : ByteArray} (H : f_R02_Decimal t0 = some r) : QSpec Tryd.prog 46 [.int .i64 t0] (.string r) :=
  (f_R02_Decimal_all 1000000).1 t0 r H
def f_R01_Has (t0 : Int) (t1 : Int) : Option Bool :=
  G (inR (t1 - (1 : Int))) <|
  G (0 ≤ (t1 - (1 : Int))) <|
  some ((bAnd .u8 (bShr .u8 t0 (t1 - (1 : Int))) (1 : Int)) == (1 : Int))
theorem f_R01_Has_ok  {t0 : Int} {t1 : Int} {r : Bool} (H : f_R01_Has t0 t1 = some r) : QSpec Tryd.prog 62 [.int .u8 t0, .int .i64 t1] (.bool r) := by
  refine Spec.of_AW Tryd.func62 rfl (by simp [Tryd.ntmps62]) ?_
  rw [Tryd.ntmps62]
  unfold f_R01_Has at H
  change AW _ _ _ [(0, .int .u8 t0), (1, .int .i64 t1)] [] _
  refine AW.regionSeq ?_
  refine OpsW.seg 1 [0, 1] [] [(0, .int .u8 t0), (1, .int .i64 t1)] (by kernel_rfl) trivial ?_
  refine OpsW.nil ?_
  refine AW.regionSeq ?_
  obtain ⟨g1, H⟩ := G_some H
  obtain ⟨g2, H⟩ := G_some H
  refine OpsW.seg 7 [4] [inR (t1 - (1 : Int)), 0 ≤ (t1 - (1 : Int))] [(4, .bool ((bAnd .u8 (bShr .u8 t0 (t1 - (1 : Int))) (1 : Int)) == (1 : Int)))] (by kernel_rfl) ⟨g1, g2, trivial⟩ ?_
  refine OpsW.nil ?_
  obtain rfl := Option.some.inj H
  refine AW.recast (env' := [(4, .bool ((bAnd .u8 (bShr .u8 t0 (t1 - (1 : Int))) (1 : Int)) == (1 : Int)))]) (h' := []) (StC.pure (.cons .im .nil)) ?_
  refine AW.ret ?_
  try simp only [Ex.then, Ex.inBlock, Ex.noGoto, Ex.jump, reduceIte, Nat.reduceEqDiff, reduceCtorEq]
  refine Done.gen rfl (.tmp .nil) ?_
  show _ = _
  kernel_rfl
def f_R01_Dots_k1 (loop3 : (ByteArray × Int) → Option ByteArray) (v2 : Int) (v5 : ByteArray) : Option ByteArray :=
  G (inR (v2 + (1 : Int))) <|
  loop3 (v5, v2 + (1 : Int))
def f_R01_Dots_b1 (t0 : Int) (loop3 : (ByteArray × Int) → Option ByteArray) (v1 : ByteArray) (v2 : Int) : Option ByteArray :=
  cond (decide (v2 ≤ (6 : Int))) (
    (f_R01_Has t0 v2).bind fun x7 =>
    cond x7 (
      G (inR (v2 + (1 : Int))) <|
      G (0 ≤ (v2 + (1 : Int)) ∧ (v2 + (1 : Int)) ≤ ((⟨#[48, 49, 50, 51, 52, 53, 54]⟩ : ByteArray).size : Int)) <|
      G (0 ≤ v2 ∧ v2 ≤ ((v2 + (1 : Int)).toNat : Int)) <|
      G (v1.size + ((⟨#[48, 49, 50, 51, 52, 53, 54]⟩ : ByteArray).extract v2.toNat ((v2 + (1 : Int)).toNat)).size ≤ 9223372036854775807) <|
      f_R01_Dots_k1 loop3 v2 (v1 ++ ((⟨#[48, 49, 50, 51, 52, 53, 54]⟩ : ByteArray).extract v2.toNat ((v2 + (1 : Int)).toNat)))) (
      f_R01_Dots_k1 loop3 v2 v1)) (
    cond (v1.toList == (⟨#[]⟩ : ByteArray).toList) (
      some (⟨#[48]⟩ : ByteArray)) (
      some v1))
def f_R01_Dots (t0 : Int) : Option ByteArray :=
  iter (fun loop (s : ByteArray × Int) => f_R01_Dots_b1 t0 loop s.1 s.2) 1000000 ((⟨#[]⟩ : ByteArray), (1 : Int))
theorem f_R01_Dots_ok  {t0 : Int} {r : ByteArray} (H : f_R01_Dots t0 = some r) : QSpec Tryd.prog 47 [.int .u8 t0] (.string r) := by
  refine Spec.of_AW Tryd.func47 rfl (by simp [Tryd.ntmps47]) ?_
  rw [Tryd.ntmps47]
  unfold f_R01_Dots at H
  change AW _ _ _ [(0, .int .u8 t0)] [] _
  refine AW.regionSeq ?_
  refine OpsW.seg 1 [0] [] [(0, .int .u8 t0)] (by kernel_rfl) trivial ?_
  refine OpsW.nil ?_
  refine AW.regionSeq ?_
  refine OpsW.seg 1 [3, 0] [] [(3, .string (⟨#[]⟩ : ByteArray)), (0, .int .u8 t0)] (by kernel_rfl) trivial ?_
  refine OpsW.nil ?_
  refine AW.regionSeq ?_
  refine OpsW.seg 1 [4, 3, 0] [] [(4, .string (⟨#[48, 49, 50, 51, 52, 53, 54]⟩ : ByteArray)), (3, .string (⟨#[]⟩ : ByteArray)), (0, .int .u8 t0)] (by kernel_rfl) trivial ?_
  refine OpsW.nil ?_
  refine AW.seq ?_
  refine AW.regionSeq ?_
  refine OpsW.seg 1 [5, 4, 3, 0] [] [(5, .int .i64 1), (4, .string (⟨#[48, 49, 50, 51, 52, 53, 54]⟩ : ByteArray)), (3, .string (⟨#[]⟩ : ByteArray)), (0, .int .u8 t0)] (by kernel_rfl) trivial ?_
  refine OpsW.nil ?_
  refine AW.block ?_
  refine AW.iterK (fun loop (s : ByteArray × Int) => f_R01_Dots_b1 t0 loop s.1 s.2) r (fun (s : ByteArray × Int) => [(0, .int .u8 t0), (3, .string s.1), (4, .string (⟨#[48, 49, 50, 51, 52, 53, 54]⟩ : ByteArray)), (5, .int .i64 s.2)]) (fun (s : ByteArray × Int) => []) ?_ 1000000 ((⟨#[]⟩ : ByteArray), (1 : Int)) H (StC.pure (.cons .im (.cons .im (.cons .im (.cons .im .nil)))))
  intro loop3 s H
  obtain ⟨v1, v2⟩ := s
  change f_R01_Dots_b1 t0 loop3 v1 v2 = some r at H
  unfold f_R01_Dots_b1 at H
  change AW _ _ _ [(0, .int .u8 t0), (3, .string v1), (4, .string (⟨#[48, 49, 50, 51, 52, 53, 54]⟩ : ByteArray)), (5, .int .i64 v2)] [] _
  refine AW.seq ?_
  refine AW.regionSeq ?_
  refine OpsW.seg 2 [7, 0, 3, 4, 5] [] [(7, .bool (decide (v2 ≤ (6 : Int)))), (0, .int .u8 t0), (3, .string v1), (4, .string (⟨#[48, 49, 50, 51, 52, 53, 54]⟩ : ByteArray)), (5, .int .i64 v2)] (by kernel_rfl) trivial ?_
  refine OpsW.nil ?_
  refine AW.cond (b := decide (v2 ≤ (6 : Int))) rfl (fun c4 => ?_) (fun c4 => ?_)
  · replace H := condT c4 H
    refine AW.skip ?_
    refine AW.joinK (fun (y : ByteArray) => f_R01_Dots_k1 loop3 v2 y) r (fun (y : ByteArray) => [(0, .int .u8 t0), (3, .string y), (4, .string (⟨#[48, 49, 50, 51, 52, 53, 54]⟩ : ByteArray)), (5, .int .i64 v2)]) (fun (y : ByteArray) => []) ?_ ?_
    · refine AW.block ?_
      refine AW.regionSeq ?_
      refine OpsW.seg 2 [11, 10, 0, 3, 4, 5] [] [(11, .int .i64 v2), (10, .int .u8 t0), (0, .int .u8 t0), (3, .string v1), (4, .string (⟨#[48, 49, 50, 51, 52, 53, 54]⟩ : ByteArray)), (5, .int .i64 v2)] (by kernel_rfl) trivial ?_
      obtain ⟨x7, hx7, H⟩ := bindS H
      refine OpsW.qcall rfl (by kernel_rfl) rfl rfl (glAll_sound trivial) (.cons (.pur rfl) (.cons (.pur rfl) .nil)) (f_R01_Has_ok hx7) rfl ?_
      refine OpsW.seg 0 [12, 0, 3, 4, 5] [] [(12, .bool x7), (0, .int .u8 t0), (3, .string v1), (4, .string (⟨#[48, 49, 50, 51, 52, 53, 54]⟩ : ByteArray)), (5, .int .i64 v2)] (by kernel_rfl) trivial ?_
      refine OpsW.nil ?_
      refine AW.cond (b := x7) rfl (fun c8 => ?_) (fun c8 => ?_)
      · replace H := condT c8 H
        refine AW.region ?_
        obtain ⟨g9, H⟩ := G_some H
        obtain ⟨g10, H⟩ := G_some H
        obtain ⟨g11, H⟩ := G_some H
        obtain ⟨g12, H⟩ := G_some H
        refine OpsW.seg 8 [3, 0, 4, 5] [inR (v2 + (1 : Int)), 0 ≤ (v2 + (1 : Int)) ∧ (v2 + (1 : Int)) ≤ ((⟨#[48, 49, 50, 51, 52, 53, 54]⟩ : ByteArray).size : Int), 0 ≤ v2 ∧ v2 ≤ ((v2 + (1 : Int)).toNat : Int), v1.size + ((⟨#[48, 49, 50, 51, 52, 53, 54]⟩ : ByteArray).extract v2.toNat ((v2 + (1 : Int)).toNat)).size ≤ 9223372036854775807] [(3, .string (v1 ++ ((⟨#[48, 49, 50, 51, 52, 53, 54]⟩ : ByteArray).extract v2.toNat ((v2 + (1 : Int)).toNat)))), (0, .int .u8 t0), (4, .string (⟨#[48, 49, 50, 51, 52, 53, 54]⟩ : ByteArray)), (5, .int .i64 v2)] (by kernel_rfl) ⟨g9, g10, g11, g12, trivial⟩ ?_
        refine OpsW.nil ?_
        show ∃ y, _ ∧ StC _ _ _ _
        exact ⟨v1 ++ ((⟨#[48, 49, 50, 51, 52, 53, 54]⟩ : ByteArray).extract v2.toNat ((v2 + (1 : Int)).toNat)), H, (StC.pure (.cons .im (.cons .im (.cons .im (.cons .im .nil)))))⟩
      · replace H := condF c8 H
        refine AW.skip ?_
        show ∃ y, _ ∧ StC _ _ _ _
        exact ⟨v1, H, (StC.pure (.cons .im (.cons .im (.cons .im (.cons .im .nil)))))⟩
    · intro v5 H
      change f_R01_Dots_k1 loop3 v2 v5 = some r at H
      unfold f_R01_Dots_k1 at H
      change AW _ _ _ [(0, .int .u8 t0), (3, .string v5), (4, .string (⟨#[48, 49, 50, 51, 52, 53, 54]⟩ : ByteArray)), (5, .int .i64 v2)] [] _
      refine AW.region ?_
      obtain ⟨g6, H⟩ := G_some H
      refine OpsW.seg 3 [5, 0, 3, 4] [inR (v2 + (1 : Int))] [(5, .int .i64 (v2 + (1 : Int))), (0, .int .u8 t0), (3, .string v5), (4, .string (⟨#[48, 49, 50, 51, 52, 53, 54]⟩ : ByteArray))] (by kernel_rfl) ⟨g6, trivial⟩ ?_
      refine OpsW.nil ?_
      show ∃ y, _ ∧ StC _ _ _ _
      exact ⟨(v5, v2 + (1 : Int)), H, (StC.pure (.cons .im (.cons .im (.cons .im (.cons .im .nil)))))⟩
  · replace H := condF c4 H
    refine AW.exit ?_
    refine AW.seq ?_
    refine AW.regionSeq ?_
    refine OpsW.seg 2 [21, 3] [] [(21, .bool (v1.toList == (⟨#[]⟩ : ByteArray).toList)), (3, .string v1)] (by kernel_rfl) trivial ?_
    refine OpsW.nil ?_
    refine AW.cond (b := v1.toList == (⟨#[]⟩ : ByteArray).toList) rfl (fun c13 => ?_) (fun c13 => ?_)
    · replace H := condT c13 H
      refine AW.regionSeq ?_
      refine OpsW.seg 1 [2] [] [(2, .string (⟨#[48]⟩ : ByteArray))] (by kernel_rfl) trivial ?_
      refine OpsW.nil ?_
      obtain rfl := Option.some.inj H
      refine AW.recast (env' := [(2, .string (⟨#[48]⟩ : ByteArray))]) (h' := []) (StC.pure (.cons .im .nil)) ?_
      refine AW.ret ?_
      try simp only [Ex.then, Ex.inBlock, Ex.noGoto, Ex.jump, reduceIte, Nat.reduceEqDiff, reduceCtorEq]
      refine Done.gen rfl (.tmp .nil) ?_
      show _ = _
      kernel_rfl
    · replace H := condF c13 H
      refine AW.skip ?_
      refine AW.regionSeq ?_
      refine OpsW.seg 2 [2] [] [(2, .string v1)] (by kernel_rfl) trivial ?_
      refine OpsW.nil ?_
      obtain rfl := Option.some.inj H
      refine AW.recast (env' := [(2, .string v1)]) (h' := []) (StC.pure (.cons .im .nil)) ?_
      refine AW.ret ?_
      try simp only [Ex.then, Ex.inBlock, Ex.noGoto, Ex.jump, reduceIte, Nat.reduceEqDiff, reduceCtorEq]
      refine Done.gen rfl (.tmp .nil) ?_
      show _ = _
      kernel_rfl
def f_R02_Format_k1 (loop10 : (S_Table × ByteArray × Int) → Option ByteArray) (v9 : Int) (v12 : S_Table) (v13 : ByteArray) : Option ByteArray :=
  G (inR (v9 + (1 : Int))) <|
  loop10 (v12, v13, v9 + (1 : Int))
def f_R02_Format_k2 (loop30 : (ByteArray × Int) → Option ByteArray) (v29 : Int) (v32 : ByteArray) : Option ByteArray :=
  G (inR (v29 + (1 : Int))) <|
  loop30 (v32, v29 + (1 : Int))
def f_R02_Format_k3 (v7 : S_Table) (v9 : Int) (loop30 : (ByteArray × Int) → Option ByteArray) (v29 : Int) (v34 : ByteArray) : Option ByteArray :=
  G (0 ≤ v29 ∧ v29 < (((v7.Rules.getD v9.toNat zS_Rule).Cells).length : Int)) <|
  (f_R01_Dots (((v7.Rules.getD v9.toNat zS_Rule).Cells).getD v29.toNat (0 : Int))).bind fun x36 =>
  G (v34.size + x36.size ≤ 9223372036854775807) <|
  f_R02_Format_k2 loop30 v29 (v34 ++ x36)
def f_R02_Format_k4 (loop10 : (S_Table × ByteArray × Int) → Option ByteArray) (v7 : S_Table) (v9 : Int) (v56 : ByteArray) : Option ByteArray :=
  G (v56.size + (⟨#[10]⟩ : ByteArray).size ≤ 9223372036854775807) <|
  f_R02_Format_k1 loop10 v9 v7 (v56 ++ (⟨#[10]⟩ : ByteArray))
def f_R02_Format_b1 (loop10 : (S_Table × ByteArray × Int) → Option ByteArray) (v7 : S_Table) (v9 : Int) (loop43 : (ByteArray × Int) → Option ByteArray) (v41 : ByteArray) (v42 : Int) : Option ByteArray :=
  cond (decide (v42 < (((v7.Rules.getD v9.toNat zS_Rule).Print).size : Int))) (
    G (0 ≤ v42 ∧ v42 < (((v7.Rules.getD v9.toNat zS_Rule).Print).size : Int)) <|
    G (inR (Int.tdiv (IntKind.wrap .i64 (bAt ((v7.Rules.getD v9.toNat zS_Rule).Print) v42)) (16 : Int))) <|
    G (inR ((Int.tdiv (IntKind.wrap .i64 (bAt ((v7.Rules.getD v9.toNat zS_Rule).Print) v42)) (16 : Int)) + (1 : Int))) <|
    G (0 ≤ ((Int.tdiv (IntKind.wrap .i64 (bAt ((v7.Rules.getD v9.toNat zS_Rule).Print) v42)) (16 : Int)) + (1 : Int)) ∧ ((Int.tdiv (IntKind.wrap .i64 (bAt ((v7.Rules.getD v9.toNat zS_Rule).Print) v42)) (16 : Int)) + (1 : Int)) ≤ ((⟨#[48, 49, 50, 51, 52, 53, 54, 55, 56, 57, 97, 98, 99, 100, 101, 102]⟩ : ByteArray).size : Int)) <|
    G (0 ≤ (Int.tdiv (IntKind.wrap .i64 (bAt ((v7.Rules.getD v9.toNat zS_Rule).Print) v42)) (16 : Int)) ∧ (Int.tdiv (IntKind.wrap .i64 (bAt ((v7.Rules.getD v9.toNat zS_Rule).Print) v42)) (16 : Int)) ≤ (((Int.tdiv (IntKind.wrap .i64 (bAt ((v7.Rules.getD v9.toNat zS_Rule).Print) v42)) (16 : Int)) + (1 : Int)).toNat : Int)) <|
    G (inR ((Int.tmod (IntKind.wrap .i64 (bAt ((v7.Rules.getD v9.toNat zS_Rule).Print) v42)) (16 : Int)) + (1 : Int))) <|
    G (0 ≤ ((Int.tmod (IntKind.wrap .i64 (bAt ((v7.Rules.getD v9.toNat zS_Rule).Print) v42)) (16 : Int)) + (1 : Int)) ∧ ((Int.tmod (IntKind.wrap .i64 (bAt ((v7.Rules.getD v9.toNat zS_Rule).Print) v42)) (16 : Int)) + (1 : Int)) ≤ ((⟨#[48, 49, 50, 51, 52, 53, 54, 55, 56, 57, 97, 98, 99, 100, 101, 102]⟩ : ByteArray).size : Int)) <|
    G (0 ≤ (Int.tmod (IntKind.wrap .i64 (bAt ((v7.Rules.getD v9.toNat zS_Rule).Print) v42)) (16 : Int)) ∧ (Int.tmod (IntKind.wrap .i64 (bAt ((v7.Rules.getD v9.toNat zS_Rule).Print) v42)) (16 : Int)) ≤ (((Int.tmod (IntKind.wrap .i64 (bAt ((v7.Rules.getD v9.toNat zS_Rule).Print) v42)) (16 : Int)) + (1 : Int)).toNat : Int)) <|
    G (((⟨#[48, 49, 50, 51, 52, 53, 54, 55, 56, 57, 97, 98, 99, 100, 101, 102]⟩ : ByteArray).extract ((Int.tdiv (IntKind.wrap .i64 (bAt ((v7.Rules.getD v9.toNat zS_Rule).Print) v42)) (16 : Int)).toNat) (((Int.tdiv (IntKind.wrap .i64 (bAt ((v7.Rules.getD v9.toNat zS_Rule).Print) v42)) (16 : Int)) + (1 : Int)).toNat)).size + ((⟨#[48, 49, 50, 51, 52, 53, 54, 55, 56, 57, 97, 98, 99, 100, 101, 102]⟩ : ByteArray).extract ((Int.tmod (IntKind.wrap .i64 (bAt ((v7.Rules.getD v9.toNat zS_Rule).Print) v42)) (16 : Int)).toNat) (((Int.tmod (IntKind.wrap .i64 (bAt ((v7.Rules.getD v9.toNat zS_Rule).Print) v42)) (16 : Int)) + (1 : Int)).toNat)).size ≤ 9223372036854775807) <|
    G (v41.size + (((⟨#[48, 49, 50, 51, 52, 53, 54, 55, 56, 57, 97, 98, 99, 100, 101, 102]⟩ : ByteArray).extract ((Int.tdiv (IntKind.wrap .i64 (bAt ((v7.Rules.getD v9.toNat zS_Rule).Print) v42)) (16 : Int)).toNat) (((Int.tdiv (IntKind.wrap .i64 (bAt ((v7.Rules.getD v9.toNat zS_Rule).Print) v42)) (16 : Int)) + (1 : Int)).toNat)) ++ ((⟨#[48, 49, 50, 51, 52, 53, 54, 55, 56, 57, 97, 98, 99, 100, 101, 102]⟩ : ByteArray).extract ((Int.tmod (IntKind.wrap .i64 (bAt ((v7.Rules.getD v9.toNat zS_Rule).Print) v42)) (16 : Int)).toNat) (((Int.tmod (IntKind.wrap .i64 (bAt ((v7.Rules.getD v9.toNat zS_Rule).Print) v42)) (16 : Int)) + (1 : Int)).toNat))).size ≤ 9223372036854775807) <|
    G (inR (v42 + (1 : Int))) <|
    loop43 (v41 ++ (((⟨#[48, 49, 50, 51, 52, 53, 54, 55, 56, 57, 97, 98, 99, 100, 101, 102]⟩ : ByteArray).extract ((Int.tdiv (IntKind.wrap .i64 (bAt ((v7.Rules.getD v9.toNat zS_Rule).Print) v42)) (16 : Int)).toNat) (((Int.tdiv (IntKind.wrap .i64 (bAt ((v7.Rules.getD v9.toNat zS_Rule).Print) v42)) (16 : Int)) + (1 : Int)).toNat)) ++ ((⟨#[48, 49, 50, 51, 52, 53, 54, 55, 56, 57, 97, 98, 99, 100, 101, 102]⟩ : ByteArray).extract ((Int.tmod (IntKind.wrap .i64 (bAt ((v7.Rules.getD v9.toNat zS_Rule).Print) v42)) (16 : Int)).toNat) (((Int.tmod (IntKind.wrap .i64 (bAt ((v7.Rules.getD v9.toNat zS_Rule).Print) v42)) (16 : Int)) + (1 : Int)).toNat))), v42 + (1 : Int))) (
    cond ((((v7.Rules.getD v9.toNat zS_Rule).Print).size : Int) == (0 : Int)) (
      G (v41.size + (⟨#[46]⟩ : ByteArray).size ≤ 9223372036854775807) <|
      f_R02_Format_k4 loop10 v7 v9 (v41 ++ (⟨#[46]⟩ : ByteArray))) (
      f_R02_Format_k4 loop10 v7 v9 v41))
def f_R02_Format_b2 (loop10 : (S_Table × ByteArray × Int) → Option ByteArray) (v7 : S_Table) (v9 : Int) (loop30 : (ByteArray × Int) → Option ByteArray) (v28 : ByteArray) (v29 : Int) : Option ByteArray :=
  cond (decide (v29 < (((v7.Rules.getD v9.toNat zS_Rule).Cells).length : Int))) (
    cond (decide ((0 : Int) < v29)) (
      G (v28.size + (⟨#[45]⟩ : ByteArray).size ≤ 9223372036854775807) <|
      f_R02_Format_k3 v7 v9 loop30 v29 (v28 ++ (⟨#[45]⟩ : ByteArray))) (
      f_R02_Format_k3 v7 v9 loop30 v29 v28)) (
    G (v28.size + (⟨#[32]⟩ : ByteArray).size ≤ 9223372036854775807) <|
    iter (fun loop (s : ByteArray × Int) => f_R02_Format_b1 loop10 v7 v9 loop s.1 s.2) 1000000 (v28 ++ (⟨#[32]⟩ : ByteArray), (0 : Int)))
def f_R02_Format_b3 (loop10 : (S_Table × ByteArray × Int) → Option ByteArray) (v7 : S_Table) (v8 : ByteArray) (v9 : Int) : Option ByteArray :=
  cond (decide (v9 < (v7.Rules.length : Int))) (
    G (0 ≤ v9 ∧ v9 < (v7.Rules.length : Int)) <|
    (f_R02_Decimal ((v7.Rules.getD v9.toNat zS_Rule).From)).bind fun x16 =>
    G (x16.size + (⟨#[32]⟩ : ByteArray).size ≤ 9223372036854775807) <|
    (f_R02_Decimal ((v7.Rules.getD v9.toNat zS_Rule).To)).bind fun x18 =>
    G ((x16 ++ (⟨#[32]⟩ : ByteArray)).size + x18.size ≤ 9223372036854775807) <|
    G (((x16 ++ (⟨#[32]⟩ : ByteArray)) ++ x18).size + (⟨#[32]⟩ : ByteArray).size ≤ 9223372036854775807) <|
    (f_R02_Decimal (IntKind.wrap .i64 ((v7.Rules.getD v9.toNat zS_Rule).Left))).bind fun x21 =>
    G ((((x16 ++ (⟨#[32]⟩ : ByteArray)) ++ x18) ++ (⟨#[32]⟩ : ByteArray)).size + x21.size ≤ 9223372036854775807) <|
    G (((((x16 ++ (⟨#[32]⟩ : ByteArray)) ++ x18) ++ (⟨#[32]⟩ : ByteArray)) ++ x21).size + (⟨#[32]⟩ : ByteArray).size ≤ 9223372036854775807) <|
    (f_R02_Decimal (IntKind.wrap .i64 ((v7.Rules.getD v9.toNat zS_Rule).Right))).bind fun x24 =>
    G ((((((x16 ++ (⟨#[32]⟩ : ByteArray)) ++ x18) ++ (⟨#[32]⟩ : ByteArray)) ++ x21) ++ (⟨#[32]⟩ : ByteArray)).size + x24.size ≤ 9223372036854775807) <|
    G (((((((x16 ++ (⟨#[32]⟩ : ByteArray)) ++ x18) ++ (⟨#[32]⟩ : ByteArray)) ++ x21) ++ (⟨#[32]⟩ : ByteArray)) ++ x24).size + (⟨#[32]⟩ : ByteArray).size ≤ 9223372036854775807) <|
    G (v8.size + (((((((x16 ++ (⟨#[32]⟩ : ByteArray)) ++ x18) ++ (⟨#[32]⟩ : ByteArray)) ++ x21) ++ (⟨#[32]⟩ : ByteArray)) ++ x24) ++ (⟨#[32]⟩ : ByteArray)).size ≤ 9223372036854775807) <|
    iter (fun loop (s : ByteArray × Int) => f_R02_Format_b2 loop10 v7 v9 loop s.1 s.2) 1000000 (v8 ++ (((((((x16 ++ (⟨#[32]⟩ : ByteArray)) ++ x18) ++ (⟨#[32]⟩ : ByteArray)) ++ x21) ++ (⟨#[32]⟩ : ByteArray)) ++ x24) ++ (⟨#[32]⟩ : ByteArray)), (0 : Int))) (
    some v8)
def f_R02_Format (t0 : S_Table) : Option ByteArray :=
  (f_R02_Decimal t0.Modes).bind fun x1 =>
  G ((⟨#[109, 111, 100, 101, 115, 32]⟩ : ByteArray).size + x1.size ≤ 9223372036854775807) <|
  G (((⟨#[109, 111, 100, 101, 115, 32]⟩ : ByteArray) ++ x1).size + (⟨#[32, 97, 99, 99, 101, 112, 116, 32]⟩ : ByteArray).size ≤ 9223372036854775807) <|
  (f_R02_Decimal (IntKind.wrap .i64 t0.Accept)).bind fun x4 =>
  G ((((⟨#[109, 111, 100, 101, 115, 32]⟩ : ByteArray) ++ x1) ++ (⟨#[32, 97, 99, 99, 101, 112, 116, 32]⟩ : ByteArray)).size + x4.size ≤ 9223372036854775807) <|
  G (((((⟨#[109, 111, 100, 101, 115, 32]⟩ : ByteArray) ++ x1) ++ (⟨#[32, 97, 99, 99, 101, 112, 116, 32]⟩ : ByteArray)) ++ x4).size + (⟨#[10]⟩ : ByteArray).size ≤ 9223372036854775807) <|
  iter (fun loop (s : S_Table × ByteArray × Int) => f_R02_Format_b3 loop s.1 s.2.1 s.2.2) 1000000 (t0, ((((⟨#[109, 111, 100, 101, 115, 32]⟩ : ByteArray) ++ x1) ++ (⟨#[32, 97, 99, 99, 101, 112, 116, 32]⟩ : ByteArray)) ++ x4) ++ (⟨#[10]⟩ : ByteArray), (0 : Int))
theorem f_R02_Format_ok  {t0 : S_Table} {r : ByteArray} (H : f_R02_Format t0 = some r) : QSpec Tryd.prog 27 [.agg [.int .i64 t0.Modes, .int .u8 t0.Accept, slA eS_Rule t0.Rules]] (.string r) := by
  refine Spec.of_AW Tryd.func27 rfl (by simp [Tryd.ntmps27]) ?_
  rw [Tryd.ntmps27]
  unfold f_R02_Format at H
  change AW _ _ _ [(0, .agg [.int .i64 t0.Modes, .int .u8 t0.Accept, slA eS_Rule t0.Rules])] [] _
  refine AW.regionSeq ?_
  refine OpsW.box rfl rfl rfl 1 rfl (okCb_sound (by kernel_rfl)) ?_
  change OpsW _ _ _ _ _ [(1, ⟨0, true, 33, 3, [.int .i64 t0.Modes, .int .u8 t0.Accept, slA eS_Rule t0.Rules]⟩)] _
  refine OpsW.seg 1 [1] [] [(1, .ref 1 0 0)] (by kernel_rfl) trivial ?_
  refine OpsW.recast (env' := [(1, .ref 1 0 0)]) (h' := [(1, ⟨0, true, 33, 3, [.int .i64 t0.Modes, .int .u8 t0.Accept, slA eS_Rule t0.Rules]⟩)]) (StC.mk (phi [(1, some 1)]) (.old rfl rfl rfl rfl rfl (.cons .im (.cons .im (.cons .im .nil))) .nil) rfl (.cons (.ref rfl rfl rfl rfl rfl) .nil)) ?_
  refine OpsW.nil ?_
  refine AW.regionSeq ?_
  refine OpsW.seg 1 [3, 1] [] [(3, .string (⟨#[48, 49, 50, 51, 52, 53, 54, 55, 56, 57, 97, 98, 99, 100, 101, 102]⟩ : ByteArray)), (1, .ref 1 0 0)] (by kernel_rfl) trivial ?_
  refine OpsW.nil ?_
  refine AW.drawSeq Tryd.checked.mixed (by kernel_rfl) ?_
  refine QOps.seg (N := 115) 2 [] [(11, .int .i64 t0.Modes), (10, .ref 1 0 0), (3, .string (⟨#[48, 49, 50, 51, 52, 53, 54, 55, 56, 57, 97, 98, 99, 100, 101, 102]⟩ : ByteArray)), (1, .ref 1 0 0)] (by kernel_rfl) trivial ?_
  obtain ⟨x1, hx1, H⟩ := bindS H
  refine QOps.qcall rfl (by kernel_rfl) rfl (glAll_sound trivial) (.cons (.pur rfl) .nil) (f_R02_Decimal_ok hx1) rfl ?_
  obtain ⟨g2, H⟩ := G_some H
  obtain ⟨g3, H⟩ := G_some H
  refine QOps.seg (N := 115) 5 [(⟨#[109, 111, 100, 101, 115, 32]⟩ : ByteArray).size + x1.size ≤ 9223372036854775807, ((⟨#[109, 111, 100, 101, 115, 32]⟩ : ByteArray) ++ x1).size + (⟨#[32, 97, 99, 99, 101, 112, 116, 32]⟩ : ByteArray).size ≤ 9223372036854775807] [(17, .int .i64 (IntKind.wrap .i64 t0.Accept)), (16, .int .u8 t0.Accept), (15, .ref 1 0 1), (14, .string (((⟨#[109, 111, 100, 101, 115, 32]⟩ : ByteArray) ++ x1) ++ (⟨#[32, 97, 99, 99, 101, 112, 116, 32]⟩ : ByteArray))), (13, .string ((⟨#[109, 111, 100, 101, 115, 32]⟩ : ByteArray) ++ x1)), (12, .string x1), (11, .int .i64 t0.Modes), (10, .ref 1 0 0), (3, .string (⟨#[48, 49, 50, 51, 52, 53, 54, 55, 56, 57, 97, 98, 99, 100, 101, 102]⟩ : ByteArray)), (1, .ref 1 0 0)] (by kernel_rfl) ⟨g2, g3, trivial⟩ ?_
  obtain ⟨x4, hx4, H⟩ := bindS H
  refine QOps.qcall rfl (by kernel_rfl) rfl (glAll_sound trivial) (.cons (.pur rfl) .nil) (f_R02_Decimal_ok hx4) rfl ?_
  obtain ⟨g5, H⟩ := G_some H
  obtain ⟨g6, H⟩ := G_some H
  refine QOps.seg (N := 115) 3 [(((⟨#[109, 111, 100, 101, 115, 32]⟩ : ByteArray) ++ x1) ++ (⟨#[32, 97, 99, 99, 101, 112, 116, 32]⟩ : ByteArray)).size + x4.size ≤ 9223372036854775807, ((((⟨#[109, 111, 100, 101, 115, 32]⟩ : ByteArray) ++ x1) ++ (⟨#[32, 97, 99, 99, 101, 112, 116, 32]⟩ : ByteArray)) ++ x4).size + (⟨#[10]⟩ : ByteArray).size ≤ 9223372036854775807] [(4, .string (((((⟨#[109, 111, 100, 101, 115, 32]⟩ : ByteArray) ++ x1) ++ (⟨#[32, 97, 99, 99, 101, 112, 116, 32]⟩ : ByteArray)) ++ x4) ++ (⟨#[10]⟩ : ByteArray))), (20, .string (((((⟨#[109, 111, 100, 101, 115, 32]⟩ : ByteArray) ++ x1) ++ (⟨#[32, 97, 99, 99, 101, 112, 116, 32]⟩ : ByteArray)) ++ x4) ++ (⟨#[10]⟩ : ByteArray))), (19, .string ((((⟨#[109, 111, 100, 101, 115, 32]⟩ : ByteArray) ++ x1) ++ (⟨#[32, 97, 99, 99, 101, 112, 116, 32]⟩ : ByteArray)) ++ x4)), (18, .string x4), (17, .int .i64 (IntKind.wrap .i64 t0.Accept)), (16, .int .u8 t0.Accept), (15, .ref 1 0 1), (14, .string (((⟨#[109, 111, 100, 101, 115, 32]⟩ : ByteArray) ++ x1) ++ (⟨#[32, 97, 99, 99, 101, 112, 116, 32]⟩ : ByteArray))), (13, .string ((⟨#[109, 111, 100, 101, 115, 32]⟩ : ByteArray) ++ x1)), (12, .string x1), (11, .int .i64 t0.Modes), (10, .ref 1 0 0), (3, .string (⟨#[48, 49, 50, 51, 52, 53, 54, 55, 56, 57, 97, 98, 99, 100, 101, 102]⟩ : ByteArray)), (1, .ref 1 0 0)] (by kernel_rfl) ⟨g5, g6, trivial⟩ ?_
  refine QOps.nil ?_
  refine AW.trim [4, 3, 1] [(4, .string (((((⟨#[109, 111, 100, 101, 115, 32]⟩ : ByteArray) ++ x1) ++ (⟨#[32, 97, 99, 99, 101, 112, 116, 32]⟩ : ByteArray)) ++ x4) ++ (⟨#[10]⟩ : ByteArray))), (3, .string (⟨#[48, 49, 50, 51, 52, 53, 54, 55, 56, 57, 97, 98, 99, 100, 101, 102]⟩ : ByteArray)), (1, .ref 1 0 0)] (by kernel_rfl) ?_
  refine AW.seq ?_
  refine AW.regionSeq ?_
  refine OpsW.seg 1 [5, 4, 3, 1] [] [(5, .int .i64 0), (4, .string (((((⟨#[109, 111, 100, 101, 115, 32]⟩ : ByteArray) ++ x1) ++ (⟨#[32, 97, 99, 99, 101, 112, 116, 32]⟩ : ByteArray)) ++ x4) ++ (⟨#[10]⟩ : ByteArray))), (3, .string (⟨#[48, 49, 50, 51, 52, 53, 54, 55, 56, 57, 97, 98, 99, 100, 101, 102]⟩ : ByteArray)), (1, .ref 1 0 0)] (by kernel_rfl) trivial ?_
  refine OpsW.nil ?_
  refine AW.block ?_
  refine AW.iterK (fun loop (s : S_Table × ByteArray × Int) => f_R02_Format_b3 loop s.1 s.2.1 s.2.2) r (fun (s : S_Table × ByteArray × Int) => [(1, .ref 1 0 0), (3, .string (⟨#[48, 49, 50, 51, 52, 53, 54, 55, 56, 57, 97, 98, 99, 100, 101, 102]⟩ : ByteArray)), (4, .string s.2.1), (5, .int .i64 s.2.2)]) (fun (s : S_Table × ByteArray × Int) => [(1, ⟨0, true, 33, 3, [.int .i64 s.1.Modes, .int .u8 s.1.Accept, slA eS_Rule s.1.Rules]⟩)]) ?_ 1000000 (t0, ((((⟨#[109, 111, 100, 101, 115, 32]⟩ : ByteArray) ++ x1) ++ (⟨#[32, 97, 99, 99, 101, 112, 116, 32]⟩ : ByteArray)) ++ x4) ++ (⟨#[10]⟩ : ByteArray), (0 : Int)) H (StC.mk (phi [(1, some 1)]) (.old rfl rfl rfl rfl rfl (.cons .im (.cons .im (.cons .im .nil))) .nil) rfl (.cons (.ref rfl rfl rfl rfl rfl) (.cons .im (.cons .im (.cons .im .nil)))))
  intro loop10 s H
  obtain ⟨v7, v8, v9⟩ := s
  change f_R02_Format_b3 loop10 v7 v8 v9 = some r at H
  unfold f_R02_Format_b3 at H
  change AW _ _ _ [(1, .ref 1 0 0), (3, .string (⟨#[48, 49, 50, 51, 52, 53, 54, 55, 56, 57, 97, 98, 99, 100, 101, 102]⟩ : ByteArray)), (4, .string v8), (5, .int .i64 v9)] [(1, ⟨0, true, 33, 3, [.int .i64 v7.Modes, .int .u8 v7.Accept, slA eS_Rule v7.Rules]⟩)] _
  refine AW.seq ?_
  refine AW.regionSeq ?_
  refine OpsW.seg 5 [25, 1, 3, 4, 5] [] [(25, .bool (decide (v9 < (v7.Rules.length : Int)))), (1, .ref 1 0 0), (3, .string (⟨#[48, 49, 50, 51, 52, 53, 54, 55, 56, 57, 97, 98, 99, 100, 101, 102]⟩ : ByteArray)), (4, .string v8), (5, .int .i64 v9)] (by kernel_rfl) trivial ?_
  refine OpsW.nil ?_
  refine AW.cond (b := decide (v9 < (v7.Rules.length : Int))) rfl (fun c11 => ?_) (fun c11 => ?_)
  · replace H := condT c11 H
    refine AW.skip ?_
    refine AW.joinK (fun (y : S_Table × ByteArray) => f_R02_Format_k1 loop10 v9 y.1 y.2) r (fun (y : S_Table × ByteArray) => [(1, .ref 1 0 0), (3, .string (⟨#[48, 49, 50, 51, 52, 53, 54, 55, 56, 57, 97, 98, 99, 100, 101, 102]⟩ : ByteArray)), (4, .string y.2), (5, .int .i64 v9)]) (fun (y : S_Table × ByteArray) => [(1, ⟨0, true, 33, 3, [.int .i64 y.1.Modes, .int .u8 y.1.Accept, slA eS_Rule y.1.Rules]⟩)]) ?_ ?_
    · refine AW.block ?_
      refine AW.regionSeq ?_
      obtain ⟨g15, H⟩ := G_some H
      refine OpsW.seg 4 [31, 1, 3, 4, 5] [0 ≤ v9 ∧ v9 < (v7.Rules.length : Int)] [(31, .ipt (v7.Rules.flatMap eS_Rule) (v9.toNat * 6)), (1, .ref 1 0 0), (3, .string (⟨#[48, 49, 50, 51, 52, 53, 54, 55, 56, 57, 97, 98, 99, 100, 101, 102]⟩ : ByteArray)), (4, .string v8), (5, .int .i64 v9)] (by kernel_rfl) ⟨g15, trivial⟩ ?_
      refine OpsW.asU (.agg [.string ((v7.Rules.getD v9.toNat zS_Rule).Print), slA (eI .u8) ((v7.Rules.getD v9.toNat zS_Rule).Cells), .int .u8 ((v7.Rules.getD v9.toNat zS_Rule).Left), .int .u8 ((v7.Rules.getD v9.toNat zS_Rule).Right), .int .i64 ((v7.Rules.getD v9.toNat zS_Rule).From), .int .i64 ((v7.Rules.getD v9.toNat zS_Rule).To)]) rfl rfl (T.loadAgg (cs := v7.Rules.flatMap eS_Rule) (off := v9.toNat * 6) (ds := eS_Rule (v7.Rules.getD v9.toNat zS_Rule)) rfl trivial (by kernel_rfl) (by have := fm_length eS_Rule 6 (fun _ => rfl) v7.Rules; have := (ltN g15); omega) (fm_elem eS_Rule 6 (fun _ => rfl) v7.Rules zS_Rule v9.toNat (ltN g15))) ?_
      refine OpsW.alloc' rfl rfl rfl 6 rfl (by kernel_rfl : zc Tryd.prog 36 = some [.string ⟨#[]⟩, .slice none 0 0, .int .u8 0, .int .u8 0, .int .i64 0, .int .i64 0]) (by kernel_rfl) ?_
      refine OpsW.store rfl rfl rfl rfl trivial trivial rfl rfl rfl (by kernel_rfl) (okCb_sound (by kernel_rfl)) (Nat.le_of_ble_eq_true (by kernel_rfl)) ?_
      change OpsW _ _ _ _ _ [(6, ⟨0, true, 36, 6, [.string ((v7.Rules.getD v9.toNat zS_Rule).Print), slA (eI .u8) ((v7.Rules.getD v9.toNat zS_Rule).Cells), .int .u8 ((v7.Rules.getD v9.toNat zS_Rule).Left), .int .u8 ((v7.Rules.getD v9.toNat zS_Rule).Right), .int .i64 ((v7.Rules.getD v9.toNat zS_Rule).From), .int .i64 ((v7.Rules.getD v9.toNat zS_Rule).To)]⟩), (6, ⟨0, true, 36, 6, [.string (⟨#[]⟩ : ByteArray), .im (.val (.slice none 0 0)), .int .u8 0, .int .u8 0, .int .i64 0, .int .i64 0]⟩), (1, ⟨0, true, 33, 3, [.int .i64 v7.Modes, .int .u8 v7.Accept, slA eS_Rule v7.Rules]⟩)] _
      refine OpsW.seg 0 [6, 1, 3, 4, 5] [] [(6, .ref 6 0 0), (1, .ref 1 0 0), (3, .string (⟨#[48, 49, 50, 51, 52, 53, 54, 55, 56, 57, 97, 98, 99, 100, 101, 102]⟩ : ByteArray)), (4, .string v8), (5, .int .i64 v9)] (by kernel_rfl) trivial ?_
      refine OpsW.recast (env' := [(6, .ref 6 0 0), (1, .ref 1 0 0), (3, .string (⟨#[48, 49, 50, 51, 52, 53, 54, 55, 56, 57, 97, 98, 99, 100, 101, 102]⟩ : ByteArray)), (4, .string v8), (5, .int .i64 v9)]) (h' := [(1, ⟨0, true, 33, 3, [.int .i64 v7.Modes, .int .u8 v7.Accept, slA eS_Rule v7.Rules]⟩), (6, ⟨0, true, 36, 6, [.string ((v7.Rules.getD v9.toNat zS_Rule).Print), slA (eI .u8) ((v7.Rules.getD v9.toNat zS_Rule).Cells), .int .u8 ((v7.Rules.getD v9.toNat zS_Rule).Left), .int .u8 ((v7.Rules.getD v9.toNat zS_Rule).Right), .int .i64 ((v7.Rules.getD v9.toNat zS_Rule).From), .int .i64 ((v7.Rules.getD v9.toNat zS_Rule).To)]⟩)]) (StC.mk (phi [(1, some 1), (6, some 6)]) (.old rfl rfl rfl rfl rfl (.cons .im (.cons .im (.cons .im .nil))) (.old rfl rfl rfl rfl rfl (.cons .im (.cons .im (.cons .im (.cons .im (.cons .im (.cons .im .nil)))))) .nil)) rfl (.cons (.ref rfl rfl rfl rfl rfl) (.cons (.ref rfl rfl rfl rfl rfl) (.cons .im (.cons .im (.cons .im .nil)))))) ?_
      refine OpsW.nil ?_
      refine AW.drawSeq Tryd.checked.mixed (by kernel_rfl) ?_
      refine QOps.seg (N := 115) 3 [] [(35, .int .i64 ((v7.Rules.getD v9.toNat zS_Rule).From)), (34, .ref 6 0 4), (33, .string v8), (6, .ref 6 0 0), (1, .ref 1 0 0), (3, .string (⟨#[48, 49, 50, 51, 52, 53, 54, 55, 56, 57, 97, 98, 99, 100, 101, 102]⟩ : ByteArray)), (4, .string v8), (5, .int .i64 v9)] (by kernel_rfl) trivial ?_
      obtain ⟨x16, hx16, H⟩ := bindS H
      refine QOps.qcall rfl (by kernel_rfl) rfl (glAll_sound trivial) (.cons (.pur rfl) .nil) (f_R02_Decimal_ok hx16) rfl ?_
      obtain ⟨g17, H⟩ := G_some H
      refine QOps.seg (N := 115) 3 [x16.size + (⟨#[32]⟩ : ByteArray).size ≤ 9223372036854775807] [(39, .int .i64 ((v7.Rules.getD v9.toNat zS_Rule).To)), (38, .ref 6 0 5), (37, .string (x16 ++ (⟨#[32]⟩ : ByteArray))), (36, .string x16), (35, .int .i64 ((v7.Rules.getD v9.toNat zS_Rule).From)), (34, .ref 6 0 4), (33, .string v8), (6, .ref 6 0 0), (1, .ref 1 0 0), (3, .string (⟨#[48, 49, 50, 51, 52, 53, 54, 55, 56, 57, 97, 98, 99, 100, 101, 102]⟩ : ByteArray)), (4, .string v8), (5, .int .i64 v9)] (by kernel_rfl) ⟨g17, trivial⟩ ?_
      obtain ⟨x18, hx18, H⟩ := bindS H
      refine QOps.qcall rfl (by kernel_rfl) rfl (glAll_sound trivial) (.cons (.pur rfl) .nil) (f_R02_Decimal_ok hx18) rfl ?_
      obtain ⟨g19, H⟩ := G_some H
      obtain ⟨g20, H⟩ := G_some H
      refine QOps.seg (N := 115) 5 [(x16 ++ (⟨#[32]⟩ : ByteArray)).size + x18.size ≤ 9223372036854775807, ((x16 ++ (⟨#[32]⟩ : ByteArray)) ++ x18).size + (⟨#[32]⟩ : ByteArray).size ≤ 9223372036854775807] [(45, .int .i64 (IntKind.wrap .i64 ((v7.Rules.getD v9.toNat zS_Rule).Left))), (44, .int .u8 ((v7.Rules.getD v9.toNat zS_Rule).Left)), (43, .ref 6 0 2), (42, .string (((x16 ++ (⟨#[32]⟩ : ByteArray)) ++ x18) ++ (⟨#[32]⟩ : ByteArray))), (41, .string ((x16 ++ (⟨#[32]⟩ : ByteArray)) ++ x18)), (40, .string x18), (39, .int .i64 ((v7.Rules.getD v9.toNat zS_Rule).To)), (38, .ref 6 0 5), (37, .string (x16 ++ (⟨#[32]⟩ : ByteArray))), (36, .string x16), (35, .int .i64 ((v7.Rules.getD v9.toNat zS_Rule).From)), (34, .ref 6 0 4), (33, .string v8), (6, .ref 6 0 0), (1, .ref 1 0 0), (3, .string (⟨#[48, 49, 50, 51, 52, 53, 54, 55, 56, 57, 97, 98, 99, 100, 101, 102]⟩ : ByteArray)), (4, .string v8), (5, .int .i64 v9)] (by kernel_rfl) ⟨g19, g20, trivial⟩ ?_
      obtain ⟨x21, hx21, H⟩ := bindS H
      refine QOps.qcall rfl (by kernel_rfl) rfl (glAll_sound trivial) (.cons (.pur rfl) .nil) (f_R02_Decimal_ok hx21) rfl ?_
      obtain ⟨g22, H⟩ := G_some H
      obtain ⟨g23, H⟩ := G_some H
      refine QOps.seg (N := 115) 5 [(((x16 ++ (⟨#[32]⟩ : ByteArray)) ++ x18) ++ (⟨#[32]⟩ : ByteArray)).size + x21.size ≤ 9223372036854775807, ((((x16 ++ (⟨#[32]⟩ : ByteArray)) ++ x18) ++ (⟨#[32]⟩ : ByteArray)) ++ x21).size + (⟨#[32]⟩ : ByteArray).size ≤ 9223372036854775807] [(51, .int .i64 (IntKind.wrap .i64 ((v7.Rules.getD v9.toNat zS_Rule).Right))), (50, .int .u8 ((v7.Rules.getD v9.toNat zS_Rule).Right)), (49, .ref 6 0 3), (48, .string (((((x16 ++ (⟨#[32]⟩ : ByteArray)) ++ x18) ++ (⟨#[32]⟩ : ByteArray)) ++ x21) ++ (⟨#[32]⟩ : ByteArray))), (47, .string ((((x16 ++ (⟨#[32]⟩ : ByteArray)) ++ x18) ++ (⟨#[32]⟩ : ByteArray)) ++ x21)), (46, .string x21), (45, .int .i64 (IntKind.wrap .i64 ((v7.Rules.getD v9.toNat zS_Rule).Left))), (44, .int .u8 ((v7.Rules.getD v9.toNat zS_Rule).Left)), (43, .ref 6 0 2), (42, .string (((x16 ++ (⟨#[32]⟩ : ByteArray)) ++ x18) ++ (⟨#[32]⟩ : ByteArray))), (41, .string ((x16 ++ (⟨#[32]⟩ : ByteArray)) ++ x18)), (40, .string x18), (39, .int .i64 ((v7.Rules.getD v9.toNat zS_Rule).To)), (38, .ref 6 0 5), (37, .string (x16 ++ (⟨#[32]⟩ : ByteArray))), (36, .string x16), (35, .int .i64 ((v7.Rules.getD v9.toNat zS_Rule).From)), (34, .ref 6 0 4), (33, .string v8), (6, .ref 6 0 0), (1, .ref 1 0 0), (3, .string (⟨#[48, 49, 50, 51, 52, 53, 54, 55, 56, 57, 97, 98, 99, 100, 101, 102]⟩ : ByteArray)), (4, .string v8), (5, .int .i64 v9)] (by kernel_rfl) ⟨g22, g23, trivial⟩ ?_
      obtain ⟨x24, hx24, H⟩ := bindS H
      refine QOps.qcall rfl (by kernel_rfl) rfl (glAll_sound trivial) (.cons (.pur rfl) .nil) (f_R02_Decimal_ok hx24) rfl ?_
      obtain ⟨g25, H⟩ := G_some H
      obtain ⟨g26, H⟩ := G_some H
      obtain ⟨g27, H⟩ := G_some H
      refine QOps.seg (N := 115) 4 [(((((x16 ++ (⟨#[32]⟩ : ByteArray)) ++ x18) ++ (⟨#[32]⟩ : ByteArray)) ++ x21) ++ (⟨#[32]⟩ : ByteArray)).size + x24.size ≤ 9223372036854775807, ((((((x16 ++ (⟨#[32]⟩ : ByteArray)) ++ x18) ++ (⟨#[32]⟩ : ByteArray)) ++ x21) ++ (⟨#[32]⟩ : ByteArray)) ++ x24).size + (⟨#[32]⟩ : ByteArray).size ≤ 9223372036854775807, v8.size + (((((((x16 ++ (⟨#[32]⟩ : ByteArray)) ++ x18) ++ (⟨#[32]⟩ : ByteArray)) ++ x21) ++ (⟨#[32]⟩ : ByteArray)) ++ x24) ++ (⟨#[32]⟩ : ByteArray)).size ≤ 9223372036854775807] [(4, .string (v8 ++ (((((((x16 ++ (⟨#[32]⟩ : ByteArray)) ++ x18) ++ (⟨#[32]⟩ : ByteArray)) ++ x21) ++ (⟨#[32]⟩ : ByteArray)) ++ x24) ++ (⟨#[32]⟩ : ByteArray)))), (55, .string (v8 ++ (((((((x16 ++ (⟨#[32]⟩ : ByteArray)) ++ x18) ++ (⟨#[32]⟩ : ByteArray)) ++ x21) ++ (⟨#[32]⟩ : ByteArray)) ++ x24) ++ (⟨#[32]⟩ : ByteArray)))), (54, .string (((((((x16 ++ (⟨#[32]⟩ : ByteArray)) ++ x18) ++ (⟨#[32]⟩ : ByteArray)) ++ x21) ++ (⟨#[32]⟩ : ByteArray)) ++ x24) ++ (⟨#[32]⟩ : ByteArray))), (53, .string ((((((x16 ++ (⟨#[32]⟩ : ByteArray)) ++ x18) ++ (⟨#[32]⟩ : ByteArray)) ++ x21) ++ (⟨#[32]⟩ : ByteArray)) ++ x24)), (52, .string x24), (51, .int .i64 (IntKind.wrap .i64 ((v7.Rules.getD v9.toNat zS_Rule).Right))), (50, .int .u8 ((v7.Rules.getD v9.toNat zS_Rule).Right)), (49, .ref 6 0 3), (48, .string (((((x16 ++ (⟨#[32]⟩ : ByteArray)) ++ x18) ++ (⟨#[32]⟩ : ByteArray)) ++ x21) ++ (⟨#[32]⟩ : ByteArray))), (47, .string ((((x16 ++ (⟨#[32]⟩ : ByteArray)) ++ x18) ++ (⟨#[32]⟩ : ByteArray)) ++ x21)), (46, .string x21), (45, .int .i64 (IntKind.wrap .i64 ((v7.Rules.getD v9.toNat zS_Rule).Left))), (44, .int .u8 ((v7.Rules.getD v9.toNat zS_Rule).Left)), (43, .ref 6 0 2), (42, .string (((x16 ++ (⟨#[32]⟩ : ByteArray)) ++ x18) ++ (⟨#[32]⟩ : ByteArray))), (41, .string ((x16 ++ (⟨#[32]⟩ : ByteArray)) ++ x18)), (40, .string x18), (39, .int .i64 ((v7.Rules.getD v9.toNat zS_Rule).To)), (38, .ref 6 0 5), (37, .string (x16 ++ (⟨#[32]⟩ : ByteArray))), (36, .string x16), (35, .int .i64 ((v7.Rules.getD v9.toNat zS_Rule).From)), (34, .ref 6 0 4), (33, .string v8), (6, .ref 6 0 0), (1, .ref 1 0 0), (3, .string (⟨#[48, 49, 50, 51, 52, 53, 54, 55, 56, 57, 97, 98, 99, 100, 101, 102]⟩ : ByteArray)), (4, .string v8), (5, .int .i64 v9)] (by kernel_rfl) ⟨g25, g26, g27, trivial⟩ ?_
      refine QOps.nil ?_
      refine AW.trim [4, 6, 1, 3, 5] [(4, .string (v8 ++ (((((((x16 ++ (⟨#[32]⟩ : ByteArray)) ++ x18) ++ (⟨#[32]⟩ : ByteArray)) ++ x21) ++ (⟨#[32]⟩ : ByteArray)) ++ x24) ++ (⟨#[32]⟩ : ByteArray)))), (6, .ref 6 0 0), (1, .ref 1 0 0), (3, .string (⟨#[48, 49, 50, 51, 52, 53, 54, 55, 56, 57, 97, 98, 99, 100, 101, 102]⟩ : ByteArray)), (5, .int .i64 v9)] (by kernel_rfl) ?_
      refine AW.seq ?_
      refine AW.regionSeq ?_
      refine OpsW.seg 1 [7, 4, 6, 1, 3, 5] [] [(7, .int .i64 0), (4, .string (v8 ++ (((((((x16 ++ (⟨#[32]⟩ : ByteArray)) ++ x18) ++ (⟨#[32]⟩ : ByteArray)) ++ x21) ++ (⟨#[32]⟩ : ByteArray)) ++ x24) ++ (⟨#[32]⟩ : ByteArray)))), (6, .ref 6 0 0), (1, .ref 1 0 0), (3, .string (⟨#[48, 49, 50, 51, 52, 53, 54, 55, 56, 57, 97, 98, 99, 100, 101, 102]⟩ : ByteArray)), (5, .int .i64 v9)] (by kernel_rfl) trivial ?_
      refine OpsW.nil ?_
      refine AW.block ?_
      refine AW.iterK (fun loop (s : ByteArray × Int) => f_R02_Format_b2 loop10 v7 v9 loop s.1 s.2) r (fun (s : ByteArray × Int) => [(1, .ref 1 0 0), (3, .string (⟨#[48, 49, 50, 51, 52, 53, 54, 55, 56, 57, 97, 98, 99, 100, 101, 102]⟩ : ByteArray)), (4, .string s.1), (5, .int .i64 v9), (6, .ref 6 0 0), (7, .int .i64 s.2)]) (fun (s : ByteArray × Int) => [(1, ⟨0, true, 33, 3, [.int .i64 v7.Modes, .int .u8 v7.Accept, slA eS_Rule v7.Rules]⟩), (6, ⟨0, true, 36, 6, [.string ((v7.Rules.getD v9.toNat zS_Rule).Print), slA (eI .u8) ((v7.Rules.getD v9.toNat zS_Rule).Cells), .int .u8 ((v7.Rules.getD v9.toNat zS_Rule).Left), .int .u8 ((v7.Rules.getD v9.toNat zS_Rule).Right), .int .i64 ((v7.Rules.getD v9.toNat zS_Rule).From), .int .i64 ((v7.Rules.getD v9.toNat zS_Rule).To)]⟩)]) ?_ 1000000 (v8 ++ (((((((x16 ++ (⟨#[32]⟩ : ByteArray)) ++ x18) ++ (⟨#[32]⟩ : ByteArray)) ++ x21) ++ (⟨#[32]⟩ : ByteArray)) ++ x24) ++ (⟨#[32]⟩ : ByteArray)), (0 : Int)) H (StC.mk (phi [(1, some 1), (6, some 6)]) (.old rfl rfl rfl rfl rfl (.cons .im (.cons .im (.cons .im .nil))) (.old rfl rfl rfl rfl rfl (.cons .im (.cons .im (.cons .im (.cons .im (.cons .im (.cons .im .nil)))))) .nil)) rfl (.cons (.ref rfl rfl rfl rfl rfl) (.cons .im (.cons .im (.cons .im (.cons (.ref rfl rfl rfl rfl rfl) (.cons .im .nil)))))))
      intro loop30 s H
      obtain ⟨v28, v29⟩ := s
      change f_R02_Format_b2 loop10 v7 v9 loop30 v28 v29 = some r at H
      unfold f_R02_Format_b2 at H
      change AW _ _ _ [(1, .ref 1 0 0), (3, .string (⟨#[48, 49, 50, 51, 52, 53, 54, 55, 56, 57, 97, 98, 99, 100, 101, 102]⟩ : ByteArray)), (4, .string v28), (5, .int .i64 v9), (6, .ref 6 0 0), (7, .int .i64 v29)] [(1, ⟨0, true, 33, 3, [.int .i64 v7.Modes, .int .u8 v7.Accept, slA eS_Rule v7.Rules]⟩), (6, ⟨0, true, 36, 6, [.string ((v7.Rules.getD v9.toNat zS_Rule).Print), slA (eI .u8) ((v7.Rules.getD v9.toNat zS_Rule).Cells), .int .u8 ((v7.Rules.getD v9.toNat zS_Rule).Left), .int .u8 ((v7.Rules.getD v9.toNat zS_Rule).Right), .int .i64 ((v7.Rules.getD v9.toNat zS_Rule).From), .int .i64 ((v7.Rules.getD v9.toNat zS_Rule).To)]⟩)] _
      refine AW.seq ?_
      refine AW.regionSeq ?_
      refine OpsW.seg 5 [60, 1, 3, 4, 5, 6, 7] [] [(60, .bool (decide (v29 < (((v7.Rules.getD v9.toNat zS_Rule).Cells).length : Int)))), (1, .ref 1 0 0), (3, .string (⟨#[48, 49, 50, 51, 52, 53, 54, 55, 56, 57, 97, 98, 99, 100, 101, 102]⟩ : ByteArray)), (4, .string v28), (5, .int .i64 v9), (6, .ref 6 0 0), (7, .int .i64 v29)] (by kernel_rfl) trivial ?_
      refine OpsW.nil ?_
      refine AW.cond (b := decide (v29 < (((v7.Rules.getD v9.toNat zS_Rule).Cells).length : Int))) rfl (fun c31 => ?_) (fun c31 => ?_)
      · replace H := condT c31 H
        refine AW.skip ?_
        refine AW.joinK (fun (y : ByteArray) => f_R02_Format_k2 loop30 v29 y) r (fun (y : ByteArray) => [(1, .ref 1 0 0), (3, .string (⟨#[48, 49, 50, 51, 52, 53, 54, 55, 56, 57, 97, 98, 99, 100, 101, 102]⟩ : ByteArray)), (4, .string y), (5, .int .i64 v9), (6, .ref 6 0 0), (7, .int .i64 v29)]) (fun (y : ByteArray) => [(1, ⟨0, true, 33, 3, [.int .i64 v7.Modes, .int .u8 v7.Accept, slA eS_Rule v7.Rules]⟩), (6, ⟨0, true, 36, 6, [.string ((v7.Rules.getD v9.toNat zS_Rule).Print), slA (eI .u8) ((v7.Rules.getD v9.toNat zS_Rule).Cells), .int .u8 ((v7.Rules.getD v9.toNat zS_Rule).Left), .int .u8 ((v7.Rules.getD v9.toNat zS_Rule).Right), .int .i64 ((v7.Rules.getD v9.toNat zS_Rule).From), .int .i64 ((v7.Rules.getD v9.toNat zS_Rule).To)]⟩)]) ?_ ?_
        · refine AW.block ?_
          refine AW.joinK (fun (y : ByteArray) => f_R02_Format_k3 v7 v9 loop30 v29 y) r (fun (y : ByteArray) => [(1, .ref 1 0 0), (3, .string (⟨#[48, 49, 50, 51, 52, 53, 54, 55, 56, 57, 97, 98, 99, 100, 101, 102]⟩ : ByteArray)), (4, .string y), (5, .int .i64 v9), (6, .ref 6 0 0), (7, .int .i64 v29)]) (fun (y : ByteArray) => [(1, ⟨0, true, 33, 3, [.int .i64 v7.Modes, .int .u8 v7.Accept, slA eS_Rule v7.Rules]⟩), (6, ⟨0, true, 36, 6, [.string ((v7.Rules.getD v9.toNat zS_Rule).Print), slA (eI .u8) ((v7.Rules.getD v9.toNat zS_Rule).Cells), .int .u8 ((v7.Rules.getD v9.toNat zS_Rule).Left), .int .u8 ((v7.Rules.getD v9.toNat zS_Rule).Right), .int .i64 ((v7.Rules.getD v9.toNat zS_Rule).From), .int .i64 ((v7.Rules.getD v9.toNat zS_Rule).To)]⟩)]) ?_ ?_
          · refine AW.regionSeq ?_
            refine OpsW.seg 2 [64, 1, 3, 4, 5, 6, 7] [] [(64, .bool (decide ((0 : Int) < v29))), (1, .ref 1 0 0), (3, .string (⟨#[48, 49, 50, 51, 52, 53, 54, 55, 56, 57, 97, 98, 99, 100, 101, 102]⟩ : ByteArray)), (4, .string v28), (5, .int .i64 v9), (6, .ref 6 0 0), (7, .int .i64 v29)] (by kernel_rfl) trivial ?_
            refine OpsW.nil ?_
            refine AW.cond (b := decide ((0 : Int) < v29)) rfl (fun c38 => ?_) (fun c38 => ?_)
            · replace H := condT c38 H
              refine AW.region ?_
              obtain ⟨g39, H⟩ := G_some H
              refine OpsW.seg 3 [4, 1, 3, 5, 6, 7] [v28.size + (⟨#[45]⟩ : ByteArray).size ≤ 9223372036854775807] [(4, .string (v28 ++ (⟨#[45]⟩ : ByteArray))), (1, .ref 1 0 0), (3, .string (⟨#[48, 49, 50, 51, 52, 53, 54, 55, 56, 57, 97, 98, 99, 100, 101, 102]⟩ : ByteArray)), (5, .int .i64 v9), (6, .ref 6 0 0), (7, .int .i64 v29)] (by kernel_rfl) ⟨g39, trivial⟩ ?_
              refine OpsW.nil ?_
              show ∃ y, _ ∧ StC _ _ _ _
              exact ⟨v28 ++ (⟨#[45]⟩ : ByteArray), H, (StC.mk (phi [(1, some 1), (6, some 6)]) (.old rfl rfl rfl rfl rfl (.cons .im (.cons .im (.cons .im .nil))) (.old rfl rfl rfl rfl rfl (.cons .im (.cons .im (.cons .im (.cons .im (.cons .im (.cons .im .nil)))))) .nil)) rfl (.cons (.ref rfl rfl rfl rfl rfl) (.cons .im (.cons .im (.cons .im (.cons (.ref rfl rfl rfl rfl rfl) (.cons .im .nil)))))))⟩
            · replace H := condF c38 H
              refine AW.skip ?_
              show ∃ y, _ ∧ StC _ _ _ _
              exact ⟨v28, H, (StC.mk (phi [(1, some 1), (6, some 6)]) (.old rfl rfl rfl rfl rfl (.cons .im (.cons .im (.cons .im .nil))) (.old rfl rfl rfl rfl rfl (.cons .im (.cons .im (.cons .im (.cons .im (.cons .im (.cons .im .nil)))))) .nil)) rfl (.cons (.ref rfl rfl rfl rfl rfl) (.cons .im (.cons .im (.cons .im (.cons (.ref rfl rfl rfl rfl rfl) (.cons .im .nil)))))))⟩
          · intro v34 H
            change f_R02_Format_k3 v7 v9 loop30 v29 v34 = some r at H
            unfold f_R02_Format_k3 at H
            change AW _ _ _ [(1, .ref 1 0 0), (3, .string (⟨#[48, 49, 50, 51, 52, 53, 54, 55, 56, 57, 97, 98, 99, 100, 101, 102]⟩ : ByteArray)), (4, .string v34), (5, .int .i64 v9), (6, .ref 6 0 0), (7, .int .i64 v29)] [(1, ⟨0, true, 33, 3, [.int .i64 v7.Modes, .int .u8 v7.Accept, slA eS_Rule v7.Rules]⟩), (6, ⟨0, true, 36, 6, [.string ((v7.Rules.getD v9.toNat zS_Rule).Print), slA (eI .u8) ((v7.Rules.getD v9.toNat zS_Rule).Cells), .int .u8 ((v7.Rules.getD v9.toNat zS_Rule).Left), .int .u8 ((v7.Rules.getD v9.toNat zS_Rule).Right), .int .i64 ((v7.Rules.getD v9.toNat zS_Rule).From), .int .i64 ((v7.Rules.getD v9.toNat zS_Rule).To)]⟩)] _
            refine AW.region ?_
            obtain ⟨g35, H⟩ := G_some H
            refine OpsW.seg 5 [71, 67, 1, 3, 4, 5, 6, 7] [0 ≤ v29 ∧ v29 < (((v7.Rules.getD v9.toNat zS_Rule).Cells).length : Int)] [(71, .ipt (((v7.Rules.getD v9.toNat zS_Rule).Cells).flatMap (eI .u8)) (v29.toNat * 1)), (67, .string v34), (1, .ref 1 0 0), (3, .string (⟨#[48, 49, 50, 51, 52, 53, 54, 55, 56, 57, 97, 98, 99, 100, 101, 102]⟩ : ByteArray)), (4, .string v34), (5, .int .i64 v9), (6, .ref 6 0 0), (7, .int .i64 v29)] (by kernel_rfl) ⟨g35, trivial⟩ ?_
            refine OpsW.asU (.int .u8 (((v7.Rules.getD v9.toNat zS_Rule).Cells).getD v29.toNat (0 : Int))) rfl rfl (T.load rfl trivial (by kernel_rfl) (fm_cell0 (eI .u8) 1 (fun _ => rfl) ((v7.Rules.getD v9.toNat zS_Rule).Cells) (0 : Int) v29.toNat (ltN g35) (fun a => .val (.int .u8 a)) (fun _ => rfl))) ?_
            obtain ⟨x36, hx36, H⟩ := bindS H
            refine OpsW.qcall rfl (by kernel_rfl) rfl rfl (glAll_sound trivial) (.cons (.pur rfl) .nil) (f_R01_Dots_ok hx36) rfl ?_
            obtain ⟨g37, H⟩ := G_some H
            refine OpsW.seg 2 [4, 1, 3, 5, 6, 7] [v34.size + x36.size ≤ 9223372036854775807] [(4, .string (v34 ++ x36)), (1, .ref 1 0 0), (3, .string (⟨#[48, 49, 50, 51, 52, 53, 54, 55, 56, 57, 97, 98, 99, 100, 101, 102]⟩ : ByteArray)), (5, .int .i64 v9), (6, .ref 6 0 0), (7, .int .i64 v29)] (by kernel_rfl) ⟨g37, trivial⟩ ?_
            refine OpsW.nil ?_
            show ∃ y, _ ∧ StC _ _ _ _
            exact ⟨v34 ++ x36, H, (StC.mk (phi [(1, some 1), (6, some 6)]) (.old rfl rfl rfl rfl rfl (.cons .im (.cons .im (.cons .im .nil))) (.old rfl rfl rfl rfl rfl (.cons .im (.cons .im (.cons .im (.cons .im (.cons .im (.cons .im .nil)))))) .nil)) rfl (.cons (.ref rfl rfl rfl rfl rfl) (.cons .im (.cons .im (.cons .im (.cons (.ref rfl rfl rfl rfl rfl) (.cons .im .nil)))))))⟩
        · intro v32 H
          change f_R02_Format_k2 loop30 v29 v32 = some r at H
          unfold f_R02_Format_k2 at H
          change AW _ _ _ [(1, .ref 1 0 0), (3, .string (⟨#[48, 49, 50, 51, 52, 53, 54, 55, 56, 57, 97, 98, 99, 100, 101, 102]⟩ : ByteArray)), (4, .string v32), (5, .int .i64 v9), (6, .ref 6 0 0), (7, .int .i64 v29)] [(1, ⟨0, true, 33, 3, [.int .i64 v7.Modes, .int .u8 v7.Accept, slA eS_Rule v7.Rules]⟩), (6, ⟨0, true, 36, 6, [.string ((v7.Rules.getD v9.toNat zS_Rule).Print), slA (eI .u8) ((v7.Rules.getD v9.toNat zS_Rule).Cells), .int .u8 ((v7.Rules.getD v9.toNat zS_Rule).Left), .int .u8 ((v7.Rules.getD v9.toNat zS_Rule).Right), .int .i64 ((v7.Rules.getD v9.toNat zS_Rule).From), .int .i64 ((v7.Rules.getD v9.toNat zS_Rule).To)]⟩)] _
          refine AW.region ?_
          obtain ⟨g33, H⟩ := G_some H
          refine OpsW.seg 3 [7, 1, 3, 4, 5, 6] [inR (v29 + (1 : Int))] [(7, .int .i64 (v29 + (1 : Int))), (1, .ref 1 0 0), (3, .string (⟨#[48, 49, 50, 51, 52, 53, 54, 55, 56, 57, 97, 98, 99, 100, 101, 102]⟩ : ByteArray)), (4, .string v32), (5, .int .i64 v9), (6, .ref 6 0 0)] (by kernel_rfl) ⟨g33, trivial⟩ ?_
          refine OpsW.nil ?_
          show ∃ y, _ ∧ StC _ _ _ _
          exact ⟨(v32, v29 + (1 : Int)), H, (StC.mk (phi [(1, some 1), (6, some 6)]) (.old rfl rfl rfl rfl rfl (.cons .im (.cons .im (.cons .im .nil))) (.old rfl rfl rfl rfl rfl (.cons .im (.cons .im (.cons .im (.cons .im (.cons .im (.cons .im .nil)))))) .nil)) rfl (.cons (.ref rfl rfl rfl rfl rfl) (.cons .im (.cons .im (.cons .im (.cons (.ref rfl rfl rfl rfl rfl) (.cons .im .nil)))))))⟩
      · replace H := condF c31 H
        refine AW.exit ?_
        refine AW.regionSeq ?_
        obtain ⟨g40, H⟩ := G_some H
        refine OpsW.seg 3 [4, 1, 3, 5, 6] [v28.size + (⟨#[32]⟩ : ByteArray).size ≤ 9223372036854775807] [(4, .string (v28 ++ (⟨#[32]⟩ : ByteArray))), (1, .ref 1 0 0), (3, .string (⟨#[48, 49, 50, 51, 52, 53, 54, 55, 56, 57, 97, 98, 99, 100, 101, 102]⟩ : ByteArray)), (5, .int .i64 v9), (6, .ref 6 0 0)] (by kernel_rfl) ⟨g40, trivial⟩ ?_
        refine OpsW.nil ?_
        refine AW.seq ?_
        refine AW.regionSeq ?_
        refine OpsW.seg 1 [8, 4, 1, 3, 5, 6] [] [(8, .int .i64 0), (4, .string (v28 ++ (⟨#[32]⟩ : ByteArray))), (1, .ref 1 0 0), (3, .string (⟨#[48, 49, 50, 51, 52, 53, 54, 55, 56, 57, 97, 98, 99, 100, 101, 102]⟩ : ByteArray)), (5, .int .i64 v9), (6, .ref 6 0 0)] (by kernel_rfl) trivial ?_
        refine OpsW.nil ?_
        refine AW.block ?_
        refine AW.iterK (fun loop (s : ByteArray × Int) => f_R02_Format_b1 loop10 v7 v9 loop s.1 s.2) r (fun (s : ByteArray × Int) => [(1, .ref 1 0 0), (3, .string (⟨#[48, 49, 50, 51, 52, 53, 54, 55, 56, 57, 97, 98, 99, 100, 101, 102]⟩ : ByteArray)), (4, .string s.1), (5, .int .i64 v9), (6, .ref 6 0 0), (8, .int .i64 s.2)]) (fun (s : ByteArray × Int) => [(1, ⟨0, true, 33, 3, [.int .i64 v7.Modes, .int .u8 v7.Accept, slA eS_Rule v7.Rules]⟩), (6, ⟨0, true, 36, 6, [.string ((v7.Rules.getD v9.toNat zS_Rule).Print), slA (eI .u8) ((v7.Rules.getD v9.toNat zS_Rule).Cells), .int .u8 ((v7.Rules.getD v9.toNat zS_Rule).Left), .int .u8 ((v7.Rules.getD v9.toNat zS_Rule).Right), .int .i64 ((v7.Rules.getD v9.toNat zS_Rule).From), .int .i64 ((v7.Rules.getD v9.toNat zS_Rule).To)]⟩)]) ?_ 1000000 (v28 ++ (⟨#[32]⟩ : ByteArray), (0 : Int)) H (StC.mk (phi [(1, some 1), (6, some 6)]) (.old rfl rfl rfl rfl rfl (.cons .im (.cons .im (.cons .im .nil))) (.old rfl rfl rfl rfl rfl (.cons .im (.cons .im (.cons .im (.cons .im (.cons .im (.cons .im .nil)))))) .nil)) rfl (.cons (.ref rfl rfl rfl rfl rfl) (.cons .im (.cons .im (.cons .im (.cons (.ref rfl rfl rfl rfl rfl) (.cons .im .nil)))))))
        intro loop43 s H
        obtain ⟨v41, v42⟩ := s
        change f_R02_Format_b1 loop10 v7 v9 loop43 v41 v42 = some r at H
        unfold f_R02_Format_b1 at H
        change AW _ _ _ [(1, .ref 1 0 0), (3, .string (⟨#[48, 49, 50, 51, 52, 53, 54, 55, 56, 57, 97, 98, 99, 100, 101, 102]⟩ : ByteArray)), (4, .string v41), (5, .int .i64 v9), (6, .ref 6 0 0), (8, .int .i64 v42)] [(1, ⟨0, true, 33, 3, [.int .i64 v7.Modes, .int .u8 v7.Accept, slA eS_Rule v7.Rules]⟩), (6, ⟨0, true, 36, 6, [.string ((v7.Rules.getD v9.toNat zS_Rule).Print), slA (eI .u8) ((v7.Rules.getD v9.toNat zS_Rule).Cells), .int .u8 ((v7.Rules.getD v9.toNat zS_Rule).Left), .int .u8 ((v7.Rules.getD v9.toNat zS_Rule).Right), .int .i64 ((v7.Rules.getD v9.toNat zS_Rule).From), .int .i64 ((v7.Rules.getD v9.toNat zS_Rule).To)]⟩)] _
        refine AW.seq ?_
        refine AW.regionSeq ?_
        refine OpsW.seg 5 [81, 1, 3, 4, 5, 6, 8] [] [(81, .bool (decide (v42 < (((v7.Rules.getD v9.toNat zS_Rule).Print).size : Int)))), (1, .ref 1 0 0), (3, .string (⟨#[48, 49, 50, 51, 52, 53, 54, 55, 56, 57, 97, 98, 99, 100, 101, 102]⟩ : ByteArray)), (4, .string v41), (5, .int .i64 v9), (6, .ref 6 0 0), (8, .int .i64 v42)] (by kernel_rfl) trivial ?_
        refine OpsW.nil ?_
        refine AW.cond (b := decide (v42 < (((v7.Rules.getD v9.toNat zS_Rule).Print).size : Int))) rfl (fun c44 => ?_) (fun c44 => ?_)
        · replace H := condT c44 H
          refine AW.skip ?_
          refine AW.seq ?_
          refine AW.block ?_
          refine AW.regionSeq ?_
          obtain ⟨g45, H⟩ := G_some H
          refine OpsW.seg 6 [9, 1, 3, 4, 5, 6, 8] [0 ≤ v42 ∧ v42 < (((v7.Rules.getD v9.toNat zS_Rule).Print).size : Int)] [(9, .int .i64 (IntKind.wrap .i64 (bAt ((v7.Rules.getD v9.toNat zS_Rule).Print) v42))), (1, .ref 1 0 0), (3, .string (⟨#[48, 49, 50, 51, 52, 53, 54, 55, 56, 57, 97, 98, 99, 100, 101, 102]⟩ : ByteArray)), (4, .string v41), (5, .int .i64 v9), (6, .ref 6 0 0), (8, .int .i64 v42)] (by kernel_rfl) ⟨g45, trivial⟩ ?_
          refine OpsW.nil ?_
          refine AW.draw Tryd.checked.mixed (by kernel_rfl) ?_
          obtain ⟨g46, H⟩ := G_some H
          obtain ⟨g47, H⟩ := G_some H
          obtain ⟨g48, H⟩ := G_some H
          obtain ⟨g49, H⟩ := G_some H
          obtain ⟨g50, H⟩ := G_some H
          obtain ⟨g51, H⟩ := G_some H
          obtain ⟨g52, H⟩ := G_some H
          obtain ⟨g53, H⟩ := G_some H
          obtain ⟨g54, H⟩ := G_some H
          refine QOps.seg (N := 115) 18 [(16 : Int) ≠ 0, inR (Int.tdiv (IntKind.wrap .i64 (bAt ((v7.Rules.getD v9.toNat zS_Rule).Print) v42)) (16 : Int)), (16 : Int) ≠ 0, inR (Int.tdiv (IntKind.wrap .i64 (bAt ((v7.Rules.getD v9.toNat zS_Rule).Print) v42)) (16 : Int)), inR ((Int.tdiv (IntKind.wrap .i64 (bAt ((v7.Rules.getD v9.toNat zS_Rule).Print) v42)) (16 : Int)) + (1 : Int)), 0 ≤ ((Int.tdiv (IntKind.wrap .i64 (bAt ((v7.Rules.getD v9.toNat zS_Rule).Print) v42)) (16 : Int)) + (1 : Int)) ∧ ((Int.tdiv (IntKind.wrap .i64 (bAt ((v7.Rules.getD v9.toNat zS_Rule).Print) v42)) (16 : Int)) + (1 : Int)) ≤ ((⟨#[48, 49, 50, 51, 52, 53, 54, 55, 56, 57, 97, 98, 99, 100, 101, 102]⟩ : ByteArray).size : Int), 0 ≤ (Int.tdiv (IntKind.wrap .i64 (bAt ((v7.Rules.getD v9.toNat zS_Rule).Print) v42)) (16 : Int)) ∧ (Int.tdiv (IntKind.wrap .i64 (bAt ((v7.Rules.getD v9.toNat zS_Rule).Print) v42)) (16 : Int)) ≤ (((Int.tdiv (IntKind.wrap .i64 (bAt ((v7.Rules.getD v9.toNat zS_Rule).Print) v42)) (16 : Int)) + (1 : Int)).toNat : Int), (16 : Int) ≠ 0, (16 : Int) ≠ 0, inR ((Int.tmod (IntKind.wrap .i64 (bAt ((v7.Rules.getD v9.toNat zS_Rule).Print) v42)) (16 : Int)) + (1 : Int)), 0 ≤ ((Int.tmod (IntKind.wrap .i64 (bAt ((v7.Rules.getD v9.toNat zS_Rule).Print) v42)) (16 : Int)) + (1 : Int)) ∧ ((Int.tmod (IntKind.wrap .i64 (bAt ((v7.Rules.getD v9.toNat zS_Rule).Print) v42)) (16 : Int)) + (1 : Int)) ≤ ((⟨#[48, 49, 50, 51, 52, 53, 54, 55, 56, 57, 97, 98, 99, 100, 101, 102]⟩ : ByteArray).size : Int), 0 ≤ (Int.tmod (IntKind.wrap .i64 (bAt ((v7.Rules.getD v9.toNat zS_Rule).Print) v42)) (16 : Int)) ∧ (Int.tmod (IntKind.wrap .i64 (bAt ((v7.Rules.getD v9.toNat zS_Rule).Print) v42)) (16 : Int)) ≤ (((Int.tmod (IntKind.wrap .i64 (bAt ((v7.Rules.getD v9.toNat zS_Rule).Print) v42)) (16 : Int)) + (1 : Int)).toNat : Int), ((⟨#[48, 49, 50, 51, 52, 53, 54, 55, 56, 57, 97, 98, 99, 100, 101, 102]⟩ : ByteArray).extract ((Int.tdiv (IntKind.wrap .i64 (bAt ((v7.Rules.getD v9.toNat zS_Rule).Print) v42)) (16 : Int)).toNat) (((Int.tdiv (IntKind.wrap .i64 (bAt ((v7.Rules.getD v9.toNat zS_Rule).Print) v42)) (16 : Int)) + (1 : Int)).toNat)).size + ((⟨#[48, 49, 50, 51, 52, 53, 54, 55, 56, 57, 97, 98, 99, 100, 101, 102]⟩ : ByteArray).extract ((Int.tmod (IntKind.wrap .i64 (bAt ((v7.Rules.getD v9.toNat zS_Rule).Print) v42)) (16 : Int)).toNat) (((Int.tmod (IntKind.wrap .i64 (bAt ((v7.Rules.getD v9.toNat zS_Rule).Print) v42)) (16 : Int)) + (1 : Int)).toNat)).size ≤ 9223372036854775807, v41.size + (((⟨#[48, 49, 50, 51, 52, 53, 54, 55, 56, 57, 97, 98, 99, 100, 101, 102]⟩ : ByteArray).extract ((Int.tdiv (IntKind.wrap .i64 (bAt ((v7.Rules.getD v9.toNat zS_Rule).Print) v42)) (16 : Int)).toNat) (((Int.tdiv (IntKind.wrap .i64 (bAt ((v7.Rules.getD v9.toNat zS_Rule).Print) v42)) (16 : Int)) + (1 : Int)).toNat)) ++ ((⟨#[48, 49, 50, 51, 52, 53, 54, 55, 56, 57, 97, 98, 99, 100, 101, 102]⟩ : ByteArray).extract ((Int.tmod (IntKind.wrap .i64 (bAt ((v7.Rules.getD v9.toNat zS_Rule).Print) v42)) (16 : Int)).toNat) (((Int.tmod (IntKind.wrap .i64 (bAt ((v7.Rules.getD v9.toNat zS_Rule).Print) v42)) (16 : Int)) + (1 : Int)).toNat))).size ≤ 9223372036854775807] [(4, .string (v41 ++ (((⟨#[48, 49, 50, 51, 52, 53, 54, 55, 56, 57, 97, 98, 99, 100, 101, 102]⟩ : ByteArray).extract ((Int.tdiv (IntKind.wrap .i64 (bAt ((v7.Rules.getD v9.toNat zS_Rule).Print) v42)) (16 : Int)).toNat) (((Int.tdiv (IntKind.wrap .i64 (bAt ((v7.Rules.getD v9.toNat zS_Rule).Print) v42)) (16 : Int)) + (1 : Int)).toNat)) ++ ((⟨#[48, 49, 50, 51, 52, 53, 54, 55, 56, 57, 97, 98, 99, 100, 101, 102]⟩ : ByteArray).extract ((Int.tmod (IntKind.wrap .i64 (bAt ((v7.Rules.getD v9.toNat zS_Rule).Print) v42)) (16 : Int)).toNat) (((Int.tmod (IntKind.wrap .i64 (bAt ((v7.Rules.getD v9.toNat zS_Rule).Print) v42)) (16 : Int)) + (1 : Int)).toNat))))), (105, .string (v41 ++ (((⟨#[48, 49, 50, 51, 52, 53, 54, 55, 56, 57, 97, 98, 99, 100, 101, 102]⟩ : ByteArray).extract ((Int.tdiv (IntKind.wrap .i64 (bAt ((v7.Rules.getD v9.toNat zS_Rule).Print) v42)) (16 : Int)).toNat) (((Int.tdiv (IntKind.wrap .i64 (bAt ((v7.Rules.getD v9.toNat zS_Rule).Print) v42)) (16 : Int)) + (1 : Int)).toNat)) ++ ((⟨#[48, 49, 50, 51, 52, 53, 54, 55, 56, 57, 97, 98, 99, 100, 101, 102]⟩ : ByteArray).extract ((Int.tmod (IntKind.wrap .i64 (bAt ((v7.Rules.getD v9.toNat zS_Rule).Print) v42)) (16 : Int)).toNat) (((Int.tmod (IntKind.wrap .i64 (bAt ((v7.Rules.getD v9.toNat zS_Rule).Print) v42)) (16 : Int)) + (1 : Int)).toNat))))), (104, .string (((⟨#[48, 49, 50, 51, 52, 53, 54, 55, 56, 57, 97, 98, 99, 100, 101, 102]⟩ : ByteArray).extract ((Int.tdiv (IntKind.wrap .i64 (bAt ((v7.Rules.getD v9.toNat zS_Rule).Print) v42)) (16 : Int)).toNat) (((Int.tdiv (IntKind.wrap .i64 (bAt ((v7.Rules.getD v9.toNat zS_Rule).Print) v42)) (16 : Int)) + (1 : Int)).toNat)) ++ ((⟨#[48, 49, 50, 51, 52, 53, 54, 55, 56, 57, 97, 98, 99, 100, 101, 102]⟩ : ByteArray).extract ((Int.tmod (IntKind.wrap .i64 (bAt ((v7.Rules.getD v9.toNat zS_Rule).Print) v42)) (16 : Int)).toNat) (((Int.tmod (IntKind.wrap .i64 (bAt ((v7.Rules.getD v9.toNat zS_Rule).Print) v42)) (16 : Int)) + (1 : Int)).toNat)))), (103, .string ((⟨#[48, 49, 50, 51, 52, 53, 54, 55, 56, 57, 97, 98, 99, 100, 101, 102]⟩ : ByteArray).extract ((Int.tmod (IntKind.wrap .i64 (bAt ((v7.Rules.getD v9.toNat zS_Rule).Print) v42)) (16 : Int)).toNat) (((Int.tmod (IntKind.wrap .i64 (bAt ((v7.Rules.getD v9.toNat zS_Rule).Print) v42)) (16 : Int)) + (1 : Int)).toNat))), (102, .int .i64 ((Int.tmod (IntKind.wrap .i64 (bAt ((v7.Rules.getD v9.toNat zS_Rule).Print) v42)) (16 : Int)) + (1 : Int))), (101, .int .i64 (Int.tmod (IntKind.wrap .i64 (bAt ((v7.Rules.getD v9.toNat zS_Rule).Print) v42)) (16 : Int))), (100, .int .i64 (IntKind.wrap .i64 (bAt ((v7.Rules.getD v9.toNat zS_Rule).Print) v42))), (99, .int .i64 (Int.tmod (IntKind.wrap .i64 (bAt ((v7.Rules.getD v9.toNat zS_Rule).Print) v42)) (16 : Int))), (98, .int .i64 (IntKind.wrap .i64 (bAt ((v7.Rules.getD v9.toNat zS_Rule).Print) v42))), (97, .string (⟨#[48, 49, 50, 51, 52, 53, 54, 55, 56, 57, 97, 98, 99, 100, 101, 102]⟩ : ByteArray)), (96, .string ((⟨#[48, 49, 50, 51, 52, 53, 54, 55, 56, 57, 97, 98, 99, 100, 101, 102]⟩ : ByteArray).extract ((Int.tdiv (IntKind.wrap .i64 (bAt ((v7.Rules.getD v9.toNat zS_Rule).Print) v42)) (16 : Int)).toNat) (((Int.tdiv (IntKind.wrap .i64 (bAt ((v7.Rules.getD v9.toNat zS_Rule).Print) v42)) (16 : Int)) + (1 : Int)).toNat))), (95, .int .i64 ((Int.tdiv (IntKind.wrap .i64 (bAt ((v7.Rules.getD v9.toNat zS_Rule).Print) v42)) (16 : Int)) + (1 : Int))), (94, .int .i64 (Int.tdiv (IntKind.wrap .i64 (bAt ((v7.Rules.getD v9.toNat zS_Rule).Print) v42)) (16 : Int))), (93, .int .i64 (IntKind.wrap .i64 (bAt ((v7.Rules.getD v9.toNat zS_Rule).Print) v42))), (92, .int .i64 (Int.tdiv (IntKind.wrap .i64 (bAt ((v7.Rules.getD v9.toNat zS_Rule).Print) v42)) (16 : Int))), (91, .int .i64 (IntKind.wrap .i64 (bAt ((v7.Rules.getD v9.toNat zS_Rule).Print) v42))), (90, .string (⟨#[48, 49, 50, 51, 52, 53, 54, 55, 56, 57, 97, 98, 99, 100, 101, 102]⟩ : ByteArray)), (89, .string v41), (9, .int .i64 (IntKind.wrap .i64 (bAt ((v7.Rules.getD v9.toNat zS_Rule).Print) v42))), (1, .ref 1 0 0), (3, .string (⟨#[48, 49, 50, 51, 52, 53, 54, 55, 56, 57, 97, 98, 99, 100, 101, 102]⟩ : ByteArray)), (4, .string v41), (5, .int .i64 v9), (6, .ref 6 0 0), (8, .int .i64 v42)] (by kernel_rfl) ⟨(by decide), g46, (by decide), g46, g47, g48, g49, (by decide), (by decide), g50, g51, g52, g53, g54, trivial⟩ ?_
          refine QOps.nil ?_
          refine AW.region ?_
          obtain ⟨g55, H⟩ := G_some H
          refine OpsW.seg 3 [8, 4, 1, 3, 5, 6] [inR (v42 + (1 : Int))] [(8, .int .i64 (v42 + (1 : Int))), (4, .string (v41 ++ (((⟨#[48, 49, 50, 51, 52, 53, 54, 55, 56, 57, 97, 98, 99, 100, 101, 102]⟩ : ByteArray).extract ((Int.tdiv (IntKind.wrap .i64 (bAt ((v7.Rules.getD v9.toNat zS_Rule).Print) v42)) (16 : Int)).toNat) (((Int.tdiv (IntKind.wrap .i64 (bAt ((v7.Rules.getD v9.toNat zS_Rule).Print) v42)) (16 : Int)) + (1 : Int)).toNat)) ++ ((⟨#[48, 49, 50, 51, 52, 53, 54, 55, 56, 57, 97, 98, 99, 100, 101, 102]⟩ : ByteArray).extract ((Int.tmod (IntKind.wrap .i64 (bAt ((v7.Rules.getD v9.toNat zS_Rule).Print) v42)) (16 : Int)).toNat) (((Int.tmod (IntKind.wrap .i64 (bAt ((v7.Rules.getD v9.toNat zS_Rule).Print) v42)) (16 : Int)) + (1 : Int)).toNat))))), (1, .ref 1 0 0), (3, .string (⟨#[48, 49, 50, 51, 52, 53, 54, 55, 56, 57, 97, 98, 99, 100, 101, 102]⟩ : ByteArray)), (5, .int .i64 v9), (6, .ref 6 0 0)] (by kernel_rfl) ⟨g55, trivial⟩ ?_
          refine OpsW.nil ?_
          show ∃ y, _ ∧ StC _ _ _ _
          exact ⟨(v41 ++ (((⟨#[48, 49, 50, 51, 52, 53, 54, 55, 56, 57, 97, 98, 99, 100, 101, 102]⟩ : ByteArray).extract ((Int.tdiv (IntKind.wrap .i64 (bAt ((v7.Rules.getD v9.toNat zS_Rule).Print) v42)) (16 : Int)).toNat) (((Int.tdiv (IntKind.wrap .i64 (bAt ((v7.Rules.getD v9.toNat zS_Rule).Print) v42)) (16 : Int)) + (1 : Int)).toNat)) ++ ((⟨#[48, 49, 50, 51, 52, 53, 54, 55, 56, 57, 97, 98, 99, 100, 101, 102]⟩ : ByteArray).extract ((Int.tmod (IntKind.wrap .i64 (bAt ((v7.Rules.getD v9.toNat zS_Rule).Print) v42)) (16 : Int)).toNat) (((Int.tmod (IntKind.wrap .i64 (bAt ((v7.Rules.getD v9.toNat zS_Rule).Print) v42)) (16 : Int)) + (1 : Int)).toNat))), v42 + (1 : Int)), H, (StC.mk (phi [(1, some 1), (6, some 6)]) (.old rfl rfl rfl rfl rfl (.cons .im (.cons .im (.cons .im .nil))) (.old rfl rfl rfl rfl rfl (.cons .im (.cons .im (.cons .im (.cons .im (.cons .im (.cons .im .nil)))))) .nil)) rfl (.cons (.ref rfl rfl rfl rfl rfl) (.cons .im (.cons .im (.cons .im (.cons (.ref rfl rfl rfl rfl rfl) (.cons .im .nil)))))))⟩
        · replace H := condF c44 H
          refine AW.exit ?_
          refine AW.joinK (fun (y : ByteArray) => f_R02_Format_k4 loop10 v7 v9 y) r (fun (y : ByteArray) => [(1, .ref 1 0 0), (3, .string (⟨#[48, 49, 50, 51, 52, 53, 54, 55, 56, 57, 97, 98, 99, 100, 101, 102]⟩ : ByteArray)), (4, .string y), (5, .int .i64 v9)]) (fun (y : ByteArray) => [(1, ⟨0, true, 33, 3, [.int .i64 v7.Modes, .int .u8 v7.Accept, slA eS_Rule v7.Rules]⟩)]) ?_ ?_
          · refine AW.regionSeq ?_
            refine OpsW.seg 4 [109, 1, 3, 4, 5] [] [(109, .bool ((((v7.Rules.getD v9.toNat zS_Rule).Print).size : Int) == (0 : Int))), (1, .ref 1 0 0), (3, .string (⟨#[48, 49, 50, 51, 52, 53, 54, 55, 56, 57, 97, 98, 99, 100, 101, 102]⟩ : ByteArray)), (4, .string v41), (5, .int .i64 v9)] (by kernel_rfl) trivial ?_
            refine OpsW.nil ?_
            refine AW.cond (b := (((v7.Rules.getD v9.toNat zS_Rule).Print).size : Int) == (0 : Int)) rfl (fun c58 => ?_) (fun c58 => ?_)
            · replace H := condT c58 H
              refine AW.region ?_
              obtain ⟨g59, H⟩ := G_some H
              refine OpsW.seg 3 [4, 1, 3, 5] [v41.size + (⟨#[46]⟩ : ByteArray).size ≤ 9223372036854775807] [(4, .string (v41 ++ (⟨#[46]⟩ : ByteArray))), (1, .ref 1 0 0), (3, .string (⟨#[48, 49, 50, 51, 52, 53, 54, 55, 56, 57, 97, 98, 99, 100, 101, 102]⟩ : ByteArray)), (5, .int .i64 v9)] (by kernel_rfl) ⟨g59, trivial⟩ ?_
              refine OpsW.nil ?_
              show ∃ y, _ ∧ StC _ _ _ _
              exact ⟨v41 ++ (⟨#[46]⟩ : ByteArray), H, (StC.mk (phi [(1, some 1)]) (.old rfl rfl rfl rfl rfl (.cons .im (.cons .im (.cons .im .nil))) .nil) rfl (.cons (.ref rfl rfl rfl rfl rfl) (.cons .im (.cons .im (.cons .im .nil)))))⟩
            · replace H := condF c58 H
              refine AW.skip ?_
              show ∃ y, _ ∧ StC _ _ _ _
              exact ⟨v41, H, (StC.mk (phi [(1, some 1)]) (.old rfl rfl rfl rfl rfl (.cons .im (.cons .im (.cons .im .nil))) .nil) rfl (.cons (.ref rfl rfl rfl rfl rfl) (.cons .im (.cons .im (.cons .im .nil)))))⟩
          · intro v56 H
            change f_R02_Format_k4 loop10 v7 v9 v56 = some r at H
            unfold f_R02_Format_k4 at H
            change AW _ _ _ [(1, .ref 1 0 0), (3, .string (⟨#[48, 49, 50, 51, 52, 53, 54, 55, 56, 57, 97, 98, 99, 100, 101, 102]⟩ : ByteArray)), (4, .string v56), (5, .int .i64 v9)] [(1, ⟨0, true, 33, 3, [.int .i64 v7.Modes, .int .u8 v7.Accept, slA eS_Rule v7.Rules]⟩)] _
            refine AW.region ?_
            obtain ⟨g57, H⟩ := G_some H
            refine OpsW.seg 3 [4, 1, 3, 5] [v56.size + (⟨#[10]⟩ : ByteArray).size ≤ 9223372036854775807] [(4, .string (v56 ++ (⟨#[10]⟩ : ByteArray))), (1, .ref 1 0 0), (3, .string (⟨#[48, 49, 50, 51, 52, 53, 54, 55, 56, 57, 97, 98, 99, 100, 101, 102]⟩ : ByteArray)), (5, .int .i64 v9)] (by kernel_rfl) ⟨g57, trivial⟩ ?_
            refine OpsW.nil ?_
            show ∃ y, _ ∧ StC _ _ _ _
            exact ⟨(v7, v56 ++ (⟨#[10]⟩ : ByteArray)), H, (StC.mk (phi [(1, some 1)]) (.old rfl rfl rfl rfl rfl (.cons .im (.cons .im (.cons .im .nil))) .nil) rfl (.cons (.ref rfl rfl rfl rfl rfl) (.cons .im (.cons .im (.cons .im .nil)))))⟩
    · rintro ⟨v12, v13⟩ H
      change f_R02_Format_k1 loop10 v9 v12 v13 = some r at H
      unfold f_R02_Format_k1 at H
      change AW _ _ _ [(1, .ref 1 0 0), (3, .string (⟨#[48, 49, 50, 51, 52, 53, 54, 55, 56, 57, 97, 98, 99, 100, 101, 102]⟩ : ByteArray)), (4, .string v13), (5, .int .i64 v9)] [(1, ⟨0, true, 33, 3, [.int .i64 v12.Modes, .int .u8 v12.Accept, slA eS_Rule v12.Rules]⟩)] _
      refine AW.region ?_
      obtain ⟨g14, H⟩ := G_some H
      refine OpsW.seg 3 [5, 1, 3, 4] [inR (v9 + (1 : Int))] [(5, .int .i64 (v9 + (1 : Int))), (1, .ref 1 0 0), (3, .string (⟨#[48, 49, 50, 51, 52, 53, 54, 55, 56, 57, 97, 98, 99, 100, 101, 102]⟩ : ByteArray)), (4, .string v13)] (by kernel_rfl) ⟨g14, trivial⟩ ?_
      refine OpsW.nil ?_
      show ∃ y, _ ∧ StC _ _ _ _
      exact ⟨(v12, v13, v9 + (1 : Int)), H, (StC.mk (phi [(1, some 1)]) (.old rfl rfl rfl rfl rfl (.cons .im (.cons .im (.cons .im .nil))) .nil) rfl (.cons (.ref rfl rfl rfl rfl rfl) (.cons .im (.cons .im (.cons .im .nil)))))⟩
  · replace H := condF c11 H
    refine AW.exit ?_
    refine AW.regionSeq ?_
    refine OpsW.seg 2 [2] [] [(2, .string v8)] (by kernel_rfl) trivial ?_
    refine OpsW.nil ?_
    obtain rfl := Option.some.inj H
    refine AW.recast (env' := [(2, .string v8)]) (h' := []) (StC.pure (.cons .im .nil)) ?_
    refine AW.ret ?_
    try simp only [Ex.then, Ex.inBlock, Ex.noGoto, Ex.jump, reduceIte, Nat.reduceEqDiff, reduceCtorEq]
    refine Done.gen rfl (.tmp .nil) ?_
    show _ = _
    kernel_rfl
def f_R02_Same_b1 (t0 : S_Table) (t1 : S_Table) (loop3 : (Int) → Option Bool) (v2 : Int) : Option Bool :=
  cond (decide (v2 < (t0.Rules.length : Int))) (
    G (0 ≤ v2 ∧ v2 < (t0.Rules.length : Int)) <|
    G (0 ≤ v2 ∧ v2 < (t1.Rules.length : Int)) <|
    (f_R02_SameRule (t0.Rules.getD v2.toNat zS_Rule) (t1.Rules.getD v2.toNat zS_Rule)).bind fun x7 =>
    cond (!x7) (
      some false) (
      G (inR (v2 + (1 : Int))) <|
      loop3 (v2 + (1 : Int)))) (
    some true)
def f_R02_Same (t0 : S_Table) (t1 : S_Table) : Option Bool :=
  cond (cond (cond (t0.Modes != t1.Modes) true (t0.Accept != t1.Accept)) true ((t0.Rules.length : Int) != (t1.Rules.length : Int))) (
    some false) (
    iter (fun loop (s : Int) => f_R02_Same_b1 t0 t1 loop s) 1000000 (0 : Int))
theorem f_R02_Same_ok  {t0 : S_Table} {t1 : S_Table} {r : Bool} (H : f_R02_Same t0 t1 = some r) : QSpec Tryd.prog 28 [.agg [.int .i64 t0.Modes, .int .u8 t0.Accept, slA eS_Rule t0.Rules], .agg [.int .i64 t1.Modes, .int .u8 t1.Accept, slA eS_Rule t1.Rules]] (.bool r) := by
  refine Spec.of_AW Tryd.func28 rfl (by simp [Tryd.ntmps28]) ?_
  rw [Tryd.ntmps28]
  unfold f_R02_Same at H
  change AW _ _ _ [(0, .agg [.int .i64 t0.Modes, .int .u8 t0.Accept, slA eS_Rule t0.Rules]), (1, .agg [.int .i64 t1.Modes, .int .u8 t1.Accept, slA eS_Rule t1.Rules])] [] _
  refine AW.regionSeq ?_
  refine OpsW.box rfl rfl rfl 2 rfl (okCb_sound (by kernel_rfl)) ?_
  change OpsW _ _ _ _ _ [(2, ⟨0, true, 33, 3, [.int .i64 t0.Modes, .int .u8 t0.Accept, slA eS_Rule t0.Rules]⟩)] _
  refine OpsW.box rfl rfl rfl 3 rfl (okCb_sound (by kernel_rfl)) ?_
  change OpsW _ _ _ _ _ [(3, ⟨0, true, 33, 3, [.int .i64 t1.Modes, .int .u8 t1.Accept, slA eS_Rule t1.Rules]⟩), (2, ⟨0, true, 33, 3, [.int .i64 t0.Modes, .int .u8 t0.Accept, slA eS_Rule t0.Rules]⟩)] _
  refine OpsW.seg 1 [3, 2] [] [(3, .ref 3 0 0), (2, .ref 2 0 0)] (by kernel_rfl) trivial ?_
  refine OpsW.recast (env' := [(3, .ref 3 0 0), (2, .ref 2 0 0)]) (h' := [(2, ⟨0, true, 33, 3, [.int .i64 t0.Modes, .int .u8 t0.Accept, slA eS_Rule t0.Rules]⟩), (3, ⟨0, true, 33, 3, [.int .i64 t1.Modes, .int .u8 t1.Accept, slA eS_Rule t1.Rules]⟩)]) (StC.mk (phi [(2, some 2), (3, some 3)]) (.old rfl rfl rfl rfl rfl (.cons .im (.cons .im (.cons .im .nil))) (.old rfl rfl rfl rfl rfl (.cons .im (.cons .im (.cons .im .nil))) .nil)) rfl (.cons (.ref rfl rfl rfl rfl rfl) (.cons (.ref rfl rfl rfl rfl rfl) .nil))) ?_
  refine OpsW.nil ?_
  refine AW.seq ?_
  refine AW.regionSeq ?_
  refine OpsW.seg 21 [26, 3, 2] [(!(t0.Modes != t1.Modes)) = true → (!(t0.Modes != t1.Modes)) = true, (!(t0.Modes != t1.Modes)) = true → (!(t0.Modes != t1.Modes)) = true, (!(t0.Modes != t1.Modes)) = true → (!(t0.Modes != t1.Modes)) = true, (!(t0.Modes != t1.Modes)) = true → (!(t0.Modes != t1.Modes)) = true, (t0.Modes != t1.Modes) = false → (!(t0.Modes != t1.Modes)) = true, (!(cond (t0.Modes != t1.Modes) true (t0.Accept != t1.Accept))) = true → (!(cond (t0.Modes != t1.Modes) true (t0.Accept != t1.Accept))) = true, (!(cond (t0.Modes != t1.Modes) true (t0.Accept != t1.Accept))) = true → (!(cond (t0.Modes != t1.Modes) true (t0.Accept != t1.Accept))) = true, (!(cond (t0.Modes != t1.Modes) true (t0.Accept != t1.Accept))) = true → (!(cond (t0.Modes != t1.Modes) true (t0.Accept != t1.Accept))) = true, (!(cond (t0.Modes != t1.Modes) true (t0.Accept != t1.Accept))) = true → (!(cond (t0.Modes != t1.Modes) true (t0.Accept != t1.Accept))) = true, (!(cond (t0.Modes != t1.Modes) true (t0.Accept != t1.Accept))) = true → (!(cond (t0.Modes != t1.Modes) true (t0.Accept != t1.Accept))) = true, (!(cond (t0.Modes != t1.Modes) true (t0.Accept != t1.Accept))) = true → (!(cond (t0.Modes != t1.Modes) true (t0.Accept != t1.Accept))) = true, (cond (t0.Modes != t1.Modes) true (t0.Accept != t1.Accept)) = false → (!(cond (t0.Modes != t1.Modes) true (t0.Accept != t1.Accept))) = true] [(26, .bool (cond (cond (t0.Modes != t1.Modes) true (t0.Accept != t1.Accept)) true ((t0.Rules.length : Int) != (t1.Rules.length : Int)))), (3, .ref 3 0 0), (2, .ref 2 0 0)] (by kernel_rfl) ⟨(fun h => h), (fun h => h), (fun h => h), (fun h => h), (fun h => by first | exact h | simpa using h), (fun h => h), (fun h => h), (fun h => h), (fun h => h), (fun h => h), (fun h => h), (fun h => by first | exact h | simpa using h), trivial⟩ ?_
  refine OpsW.nil ?_
  refine AW.cond (b := cond (cond (t0.Modes != t1.Modes) true (t0.Accept != t1.Accept)) true ((t0.Rules.length : Int) != (t1.Rules.length : Int))) rfl (fun c1 => ?_) (fun c1 => ?_)
  · replace H := condT c1 H
    refine AW.regionSeq ?_
    refine OpsW.seg 1 [4] [] [(4, .bool false)] (by kernel_rfl) trivial ?_
    refine OpsW.nil ?_
    obtain rfl := Option.some.inj H
    refine AW.recast (env' := [(4, .bool false)]) (h' := []) (StC.pure (.cons .im .nil)) ?_
    refine AW.ret ?_
    try simp only [Ex.then, Ex.inBlock, Ex.noGoto, Ex.jump, reduceIte, Nat.reduceEqDiff, reduceCtorEq]
    refine Done.gen rfl (.tmp .nil) ?_
    show _ = _
    kernel_rfl
  · replace H := condF c1 H
    refine AW.skip ?_
    refine AW.seq ?_
    refine AW.regionSeq ?_
    refine OpsW.seg 1 [5, 3, 2] [] [(5, .int .i64 0), (3, .ref 3 0 0), (2, .ref 2 0 0)] (by kernel_rfl) trivial ?_
    refine OpsW.nil ?_
    refine AW.block ?_
    refine AW.iterK (fun loop (s : Int) => f_R02_Same_b1 t0 t1 loop s) r (fun (s : Int) => [(2, .ref 2 0 0), (3, .ref 3 0 0), (5, .int .i64 s)]) (fun (s : Int) => [(2, ⟨0, true, 33, 3, [.int .i64 t0.Modes, .int .u8 t0.Accept, slA eS_Rule t0.Rules]⟩), (3, ⟨0, true, 33, 3, [.int .i64 t1.Modes, .int .u8 t1.Accept, slA eS_Rule t1.Rules]⟩)]) ?_ 1000000 (0 : Int) H (StC.mk (phi [(2, some 2), (3, some 3)]) (.old rfl rfl rfl rfl rfl (.cons .im (.cons .im (.cons .im .nil))) (.old rfl rfl rfl rfl rfl (.cons .im (.cons .im (.cons .im .nil))) .nil)) rfl (.cons (.ref rfl rfl rfl rfl rfl) (.cons (.ref rfl rfl rfl rfl rfl) (.cons .im .nil))))
    intro loop3 v2 H
    change f_R02_Same_b1 t0 t1 loop3 v2 = some r at H
    unfold f_R02_Same_b1 at H
    change AW _ _ _ [(2, .ref 2 0 0), (3, .ref 3 0 0), (5, .int .i64 v2)] [(2, ⟨0, true, 33, 3, [.int .i64 t0.Modes, .int .u8 t0.Accept, slA eS_Rule t0.Rules]⟩), (3, ⟨0, true, 33, 3, [.int .i64 t1.Modes, .int .u8 t1.Accept, slA eS_Rule t1.Rules]⟩)] _
    refine AW.seq ?_
    refine AW.regionSeq ?_
    refine OpsW.seg 5 [31, 2, 3, 5] [] [(31, .bool (decide (v2 < (t0.Rules.length : Int)))), (2, .ref 2 0 0), (3, .ref 3 0 0), (5, .int .i64 v2)] (by kernel_rfl) trivial ?_
    refine OpsW.nil ?_
    refine AW.cond (b := decide (v2 < (t0.Rules.length : Int))) rfl (fun c4 => ?_) (fun c4 => ?_)
    · replace H := condT c4 H
      refine AW.skip ?_
      refine AW.seq ?_
      refine AW.block ?_
      refine AW.drawSeq Tryd.checked.mixed (by kernel_rfl) ?_
      obtain ⟨g5, H⟩ := G_some H
      refine QOps.seg (N := 46) 4 [0 ≤ v2 ∧ v2 < (t0.Rules.length : Int)] [(37, .ipt (t0.Rules.flatMap eS_Rule) (v2.toNat * 6)), (36, .int .i64 v2), (35, slA eS_Rule t0.Rules), (34, .ref 2 0 2), (31, .bool (decide (v2 < (t0.Rules.length : Int)))), (2, .ref 2 0 0), (3, .ref 3 0 0), (5, .int .i64 v2)] (by kernel_rfl) ⟨g5, trivial⟩ ?_
      refine QOps.asU (.agg [.string ((t0.Rules.getD v2.toNat zS_Rule).Print), slA (eI .u8) ((t0.Rules.getD v2.toNat zS_Rule).Cells), .int .u8 ((t0.Rules.getD v2.toNat zS_Rule).Left), .int .u8 ((t0.Rules.getD v2.toNat zS_Rule).Right), .int .i64 ((t0.Rules.getD v2.toNat zS_Rule).From), .int .i64 ((t0.Rules.getD v2.toNat zS_Rule).To)]) rfl (T.loadAgg (cs := t0.Rules.flatMap eS_Rule) (off := v2.toNat * 6) (ds := eS_Rule (t0.Rules.getD v2.toNat zS_Rule)) rfl trivial (by kernel_rfl) (by have := fm_length eS_Rule 6 (fun _ => rfl) t0.Rules; have := (ltN g5); omega) (fm_elem eS_Rule 6 (fun _ => rfl) t0.Rules zS_Rule v2.toNat (ltN g5))) ?_
      obtain ⟨g6, H⟩ := G_some H
      refine QOps.seg (N := 46) 4 [0 ≤ v2 ∧ v2 < (t1.Rules.length : Int)] [(42, .ipt (t1.Rules.flatMap eS_Rule) (v2.toNat * 6)), (41, .int .i64 v2), (40, slA eS_Rule t1.Rules), (39, .ref 3 0 2), (38, .agg [.string ((t0.Rules.getD v2.toNat zS_Rule).Print), slA (eI .u8) ((t0.Rules.getD v2.toNat zS_Rule).Cells), .int .u8 ((t0.Rules.getD v2.toNat zS_Rule).Left), .int .u8 ((t0.Rules.getD v2.toNat zS_Rule).Right), .int .i64 ((t0.Rules.getD v2.toNat zS_Rule).From), .int .i64 ((t0.Rules.getD v2.toNat zS_Rule).To)]), (37, .ipt (t0.Rules.flatMap eS_Rule) (v2.toNat * 6)), (36, .int .i64 v2), (35, slA eS_Rule t0.Rules), (34, .ref 2 0 2), (31, .bool (decide (v2 < (t0.Rules.length : Int)))), (2, .ref 2 0 0), (3, .ref 3 0 0), (5, .int .i64 v2)] (by kernel_rfl) ⟨g6, trivial⟩ ?_
      refine QOps.asU (.agg [.string ((t1.Rules.getD v2.toNat zS_Rule).Print), slA (eI .u8) ((t1.Rules.getD v2.toNat zS_Rule).Cells), .int .u8 ((t1.Rules.getD v2.toNat zS_Rule).Left), .int .u8 ((t1.Rules.getD v2.toNat zS_Rule).Right), .int .i64 ((t1.Rules.getD v2.toNat zS_Rule).From), .int .i64 ((t1.Rules.getD v2.toNat zS_Rule).To)]) rfl (T.loadAgg (cs := t1.Rules.flatMap eS_Rule) (off := v2.toNat * 6) (ds := eS_Rule (t1.Rules.getD v2.toNat zS_Rule)) rfl trivial (by kernel_rfl) (by have := fm_length eS_Rule 6 (fun _ => rfl) t1.Rules; have := (ltN g6); omega) (fm_elem eS_Rule 6 (fun _ => rfl) t1.Rules zS_Rule v2.toNat (ltN g6))) ?_
      obtain ⟨x7, hx7, H⟩ := bindS H
      refine QOps.qcall rfl (by kernel_rfl) rfl (glAll_sound trivial) (.cons (.pur rfl) (.cons (.pur rfl) .nil)) (f_R02_SameRule_ok hx7) rfl ?_
      refine QOps.seg (N := 46) 1 [] [(45, .bool (!x7)), (44, .bool x7), (43, .agg [.string ((t1.Rules.getD v2.toNat zS_Rule).Print), slA (eI .u8) ((t1.Rules.getD v2.toNat zS_Rule).Cells), .int .u8 ((t1.Rules.getD v2.toNat zS_Rule).Left), .int .u8 ((t1.Rules.getD v2.toNat zS_Rule).Right), .int .i64 ((t1.Rules.getD v2.toNat zS_Rule).From), .int .i64 ((t1.Rules.getD v2.toNat zS_Rule).To)]), (42, .ipt (t1.Rules.flatMap eS_Rule) (v2.toNat * 6)), (41, .int .i64 v2), (40, slA eS_Rule t1.Rules), (39, .ref 3 0 2), (38, .agg [.string ((t0.Rules.getD v2.toNat zS_Rule).Print), slA (eI .u8) ((t0.Rules.getD v2.toNat zS_Rule).Cells), .int .u8 ((t0.Rules.getD v2.toNat zS_Rule).Left), .int .u8 ((t0.Rules.getD v2.toNat zS_Rule).Right), .int .i64 ((t0.Rules.getD v2.toNat zS_Rule).From), .int .i64 ((t0.Rules.getD v2.toNat zS_Rule).To)]), (37, .ipt (t0.Rules.flatMap eS_Rule) (v2.toNat * 6)), (36, .int .i64 v2), (35, slA eS_Rule t0.Rules), (34, .ref 2 0 2), (31, .bool (decide (v2 < (t0.Rules.length : Int)))), (2, .ref 2 0 0), (3, .ref 3 0 0), (5, .int .i64 v2)] (by kernel_rfl) trivial ?_
      refine QOps.nil ?_
      refine AW.trim [45, 2, 3, 5] [(45, .bool (!x7)), (2, .ref 2 0 0), (3, .ref 3 0 0), (5, .int .i64 v2)] (by kernel_rfl) ?_
      refine AW.cond (b := !x7) rfl (fun c8 => ?_) (fun c8 => ?_)
      · replace H := condT c8 H
        refine AW.regionSeq ?_
        refine OpsW.seg 1 [4] [] [(4, .bool false)] (by kernel_rfl) trivial ?_
        refine OpsW.nil ?_
        obtain rfl := Option.some.inj H
        refine AW.recast (env' := [(4, .bool false)]) (h' := []) (StC.pure (.cons .im .nil)) ?_
        refine AW.ret ?_
        try simp only [Ex.then, Ex.inBlock, Ex.noGoto, Ex.jump, reduceIte, Nat.reduceEqDiff, reduceCtorEq]
        refine Done.gen rfl (.tmp .nil) ?_
        show _ = _
        kernel_rfl
      · replace H := condF c8 H
        refine AW.skip ?_
        refine AW.region ?_
        obtain ⟨g9, H⟩ := G_some H
        refine OpsW.seg 3 [5, 2, 3] [inR (v2 + (1 : Int))] [(5, .int .i64 (v2 + (1 : Int))), (2, .ref 2 0 0), (3, .ref 3 0 0)] (by kernel_rfl) ⟨g9, trivial⟩ ?_
        refine OpsW.nil ?_
        show ∃ y, _ ∧ StC _ _ _ _
        exact ⟨v2 + (1 : Int), H, (StC.mk (phi [(2, some 2), (3, some 3)]) (.old rfl rfl rfl rfl rfl (.cons .im (.cons .im (.cons .im .nil))) (.old rfl rfl rfl rfl rfl (.cons .im (.cons .im (.cons .im .nil))) .nil)) rfl (.cons (.ref rfl rfl rfl rfl rfl) (.cons (.ref rfl rfl rfl rfl rfl) (.cons .im .nil))))⟩
    · replace H := condF c4 H
      refine AW.exit ?_
      refine AW.regionSeq ?_
      refine OpsW.seg 1 [4] [] [(4, .bool true)] (by kernel_rfl) trivial ?_
      refine OpsW.nil ?_
      obtain rfl := Option.some.inj H
      refine AW.recast (env' := [(4, .bool true)]) (h' := []) (StC.pure (.cons .im .nil)) ?_
      refine AW.ret ?_
      try simp only [Ex.then, Ex.inBlock, Ex.noGoto, Ex.jump, reduceIte, Nat.reduceEqDiff, reduceCtorEq]
      refine Done.gen rfl (.tmp .nil) ?_
      show _ = _
      kernel_rfl
def f_L02_TableRoundTrips (t0 : S_Raw) : Option Bool :=
  (f_L02_sanity).bind fun x1 =>
  (f_R02_Made t0).bind fun x2 =>
  (f_table_Format x2).bind fun x3 =>
  (f_table_Parse x3).bind fun x4 =>
  (f_R02_Format x2).bind fun x5 =>
  (cond (cond (cond (x3.toList == x5.toList) (x4.2.2 == (0 : Int)) false) (x4.2.1 == (0 : Int)) false) (f_R02_Same x4.1 x2) (some false)).bind fun x6 =>
  some (cond (cond (cond (cond (x3.toList == x5.toList) (x4.2.2 == (0 : Int)) false) (x4.2.1 == (0 : Int)) false) x6 false) x1 false)
theorem f_L02_TableRoundTrips_ok  {t0 : S_Raw} {r : Bool} (H : f_L02_TableRoundTrips t0 = some r) : QSpec Tryd.prog 8 [.agg [.int .u8 t0.Base, .int .u8 t0.Drop, slA eS_RawRule t0.More]] (.bool r) := by
  refine Spec.of_AW Tryd.func8 rfl (by simp [Tryd.ntmps8]) ?_
  rw [Tryd.ntmps8]
  unfold f_L02_TableRoundTrips at H
  change AW _ _ _ [(0, .agg [.int .u8 t0.Base, .int .u8 t0.Drop, slA eS_RawRule t0.More])] [] _
  refine AW.regionSeq ?_
  refine OpsW.box rfl rfl rfl 1 rfl (okCb_sound (by kernel_rfl)) ?_
  change OpsW _ _ _ _ _ [(1, ⟨0, true, 41, 3, [.int .u8 t0.Base, .int .u8 t0.Drop, slA eS_RawRule t0.More]⟩)] _
  refine OpsW.seg 1 [1] [] [(1, .ref 1 0 0)] (by kernel_rfl) trivial ?_
  refine OpsW.recast (env' := [(1, .ref 1 0 0)]) (h' := [(1, ⟨0, true, 41, 3, [.int .u8 t0.Base, .int .u8 t0.Drop, slA eS_RawRule t0.More]⟩)]) (StC.mk (phi [(1, some 1)]) (.old rfl rfl rfl rfl rfl (.cons .im (.cons .im (.cons .im .nil))) .nil) rfl (.cons (.ref rfl rfl rfl rfl rfl) .nil)) ?_
  refine OpsW.nil ?_
  refine AW.regionSeq ?_
  obtain ⟨x1, hx1, H⟩ := bindS H
  refine OpsW.qcall rfl (by kernel_rfl) rfl rfl (glAll_sound trivial) .nil (f_L02_sanity_ok hx1) rfl ?_
  refine OpsW.seg 1 [3, 1] [] [(3, .bool x1), (1, .ref 1 0 0)] (by kernel_rfl) trivial ?_
  refine OpsW.nil ?_
  refine AW.regionSeq ?_
  refine OpsW.seg 1 [10, 3] [] [(10, .agg [.int .u8 t0.Base, .int .u8 t0.Drop, slA eS_RawRule t0.More]), (3, .bool x1)] (by kernel_rfl) trivial ?_
  obtain ⟨x2, hx2, H⟩ := bindS H
  refine OpsW.qcall rfl (by kernel_rfl) rfl rfl (glAll_sound trivial) (.cons (.pur rfl) .nil) (f_R02_Made_ok hx2) rfl ?_
  refine OpsW.alloc' rfl rfl rfl 4 rfl (by kernel_rfl : zc Tryd.prog 33 = some [.int .i64 0, .int .u8 0, .slice none 0 0]) (by kernel_rfl) ?_
  refine OpsW.store rfl rfl rfl rfl trivial trivial rfl rfl rfl (by kernel_rfl) (okCb_sound (by kernel_rfl)) (Nat.le_of_ble_eq_true (by kernel_rfl)) ?_
  change OpsW _ _ _ _ _ [(4, ⟨0, true, 33, 3, [.int .i64 x2.Modes, .int .u8 x2.Accept, slA eS_Rule x2.Rules]⟩), (4, ⟨0, true, 33, 3, [.int .i64 0, .int .u8 0, .im (.val (.slice none 0 0))]⟩), (1, ⟨0, true, 41, 3, [.int .u8 t0.Base, .int .u8 t0.Drop, slA eS_RawRule t0.More]⟩)] _
  refine OpsW.seg 0 [4, 3] [] [(4, .ref 4 0 0), (3, .bool x1)] (by kernel_rfl) trivial ?_
  refine OpsW.recast (env' := [(4, .ref 4 0 0), (3, .bool x1)]) (h' := [(4, ⟨0, true, 33, 3, [.int .i64 x2.Modes, .int .u8 x2.Accept, slA eS_Rule x2.Rules]⟩)]) (StC.mk (phi [(4, some 4)]) (.old rfl rfl rfl rfl rfl (.cons .im (.cons .im (.cons .im .nil))) .nil) rfl (.cons (.ref rfl rfl rfl rfl rfl) (.cons .im .nil))) ?_
  refine OpsW.nil ?_
  refine AW.regionSeq ?_
  refine OpsW.seg 1 [12, 4, 3] [] [(12, .agg [.int .i64 x2.Modes, .int .u8 x2.Accept, slA eS_Rule x2.Rules]), (4, .ref 4 0 0), (3, .bool x1)] (by kernel_rfl) trivial ?_
  obtain ⟨x3, hx3, H⟩ := bindS H
  refine OpsW.qcall rfl (by kernel_rfl) rfl rfl (glAll_sound trivial) (.cons (.pur rfl) .nil) (f_table_Format_ok hx3) rfl ?_
  refine OpsW.seg 1 [5, 4, 3] [] [(5, .string x3), (4, .ref 4 0 0), (3, .bool x1)] (by kernel_rfl) trivial ?_
  refine OpsW.nil ?_
  refine AW.regionSeq ?_
  refine OpsW.seg 1 [15, 5, 4, 3] [] [(15, .string x3), (5, .string x3), (4, .ref 4 0 0), (3, .bool x1)] (by kernel_rfl) trivial ?_
  obtain ⟨x4, hx4, H⟩ := bindS H
  refine OpsW.qcall rfl (by kernel_rfl) rfl rfl (glAll_sound trivial) (.cons (.pur rfl) .nil) (f_table_Parse_ok hx4) rfl ?_
  refine OpsW.seg 4 [19, 18, 17, 5, 4, 3] [] [(19, .int .i64 x4.2.2), (18, .int .i64 x4.2.1), (17, .agg [.int .i64 x4.1.Modes, .int .u8 x4.1.Accept, slA eS_Rule x4.1.Rules]), (5, .string x3), (4, .ref 4 0 0), (3, .bool x1)] (by kernel_rfl) trivial ?_
  refine OpsW.alloc' rfl rfl rfl 6 rfl (by kernel_rfl : zc Tryd.prog 33 = some [.int .i64 0, .int .u8 0, .slice none 0 0]) (by kernel_rfl) ?_
  refine OpsW.store rfl rfl rfl rfl trivial trivial rfl rfl rfl (by kernel_rfl) (okCb_sound (by kernel_rfl)) (Nat.le_of_ble_eq_true (by kernel_rfl)) ?_
  change OpsW _ _ _ _ _ [(6, ⟨0, true, 33, 3, [.int .i64 x4.1.Modes, .int .u8 x4.1.Accept, slA eS_Rule x4.1.Rules]⟩), (6, ⟨0, true, 33, 3, [.int .i64 0, .int .u8 0, .im (.val (.slice none 0 0))]⟩), (4, ⟨0, true, 33, 3, [.int .i64 x2.Modes, .int .u8 x2.Accept, slA eS_Rule x2.Rules]⟩)] _
  refine OpsW.seg 2 [8, 7, 6, 5, 4, 3] [] [(8, .int .i64 x4.2.2), (7, .int .i64 x4.2.1), (6, .ref 6 0 0), (5, .string x3), (4, .ref 4 0 0), (3, .bool x1)] (by kernel_rfl) trivial ?_
  refine OpsW.recast (env' := [(8, .int .i64 x4.2.2), (7, .int .i64 x4.2.1), (6, .ref 6 0 0), (5, .string x3), (4, .ref 4 0 0), (3, .bool x1)]) (h' := [(4, ⟨0, true, 33, 3, [.int .i64 x2.Modes, .int .u8 x2.Accept, slA eS_Rule x2.Rules]⟩), (6, ⟨0, true, 33, 3, [.int .i64 x4.1.Modes, .int .u8 x4.1.Accept, slA eS_Rule x4.1.Rules]⟩)]) (StC.mk (phi [(4, some 4), (6, some 6)]) (.old rfl rfl rfl rfl rfl (.cons .im (.cons .im (.cons .im .nil))) (.old rfl rfl rfl rfl rfl (.cons .im (.cons .im (.cons .im .nil))) .nil)) rfl (.cons .im (.cons .im (.cons (.ref rfl rfl rfl rfl rfl) (.cons .im (.cons (.ref rfl rfl rfl rfl rfl) (.cons .im .nil))))))) ?_
  refine OpsW.nil ?_
  refine AW.regionSeq ?_
  refine OpsW.seg 2 [21, 20, 8, 7, 6, 4, 3] [] [(21, .agg [.int .i64 x2.Modes, .int .u8 x2.Accept, slA eS_Rule x2.Rules]), (20, .string x3), (8, .int .i64 x4.2.2), (7, .int .i64 x4.2.1), (6, .ref 6 0 0), (4, .ref 4 0 0), (3, .bool x1)] (by kernel_rfl) trivial ?_
  obtain ⟨x5, hx5, H⟩ := bindS H
  refine OpsW.qcall rfl (by kernel_rfl) rfl rfl (glAll_sound trivial) (.cons (.pur rfl) .nil) (f_R02_Format_ok hx5) rfl ?_
  refine OpsW.seg 12 [34, 33, 32, 3] [(x3.toList == x5.toList) = true → (x3.toList == x5.toList) = true, (x3.toList == x5.toList) = true → (x3.toList == x5.toList) = true, (cond (x3.toList == x5.toList) (x4.2.2 == (0 : Int)) false) = true → (cond (x3.toList == x5.toList) (x4.2.2 == (0 : Int)) false) = true, (cond (x3.toList == x5.toList) (x4.2.2 == (0 : Int)) false) = true → (cond (x3.toList == x5.toList) (x4.2.2 == (0 : Int)) false) = true] [(34, .cnd (cond (cond (x3.toList == x5.toList) (x4.2.2 == (0 : Int)) false) (x4.2.1 == (0 : Int)) false) (.agg [.int .i64 x2.Modes, .int .u8 x2.Accept, slA eS_Rule x2.Rules])), (33, .cnd (cond (cond (x3.toList == x5.toList) (x4.2.2 == (0 : Int)) false) (x4.2.1 == (0 : Int)) false) (.agg [.int .i64 x4.1.Modes, .int .u8 x4.1.Accept, slA eS_Rule x4.1.Rules])), (32, .bool (cond (cond (x3.toList == x5.toList) (x4.2.2 == (0 : Int)) false) (x4.2.1 == (0 : Int)) false)), (3, .bool x1)] (by kernel_rfl) ⟨(fun h => h), (fun h => by first | exact h | simpa using h), (fun h => h), (fun h => by first | exact h | simpa using h), trivial⟩ ?_
  obtain ⟨x6, hx6, H⟩ := bindS H
  refine OpsW.gcall (c := cond (cond (x3.toList == x5.toList) (x4.2.2 == (0 : Int)) false) (x4.2.1 == (0 : Int)) false) (r := .bool x6) [] rfl (by kernel_rfl) rfl rfl rfl rfl (fun hc => ⟨glAll_sound ⟨hc, hc, trivial⟩, (.cons (.pur rfl) (.cons (.pur rfl) .nil)), f_R02_Same_ok (condT hc hx6), .inl ⟨rfl, rfl⟩⟩) ?_
  refine OpsW.seg 5 [2] [(cond (cond (x3.toList == x5.toList) (x4.2.2 == (0 : Int)) false) (x4.2.1 == (0 : Int)) false) = true → (cond (cond (x3.toList == x5.toList) (x4.2.2 == (0 : Int)) false) (x4.2.1 == (0 : Int)) false) = true, (cond (cond (cond (x3.toList == x5.toList) (x4.2.2 == (0 : Int)) false) (x4.2.1 == (0 : Int)) false) x6 false) = true → (cond (cond (cond (x3.toList == x5.toList) (x4.2.2 == (0 : Int)) false) (x4.2.1 == (0 : Int)) false) x6 false) = true] [(2, .bool (cond (cond (cond (cond (x3.toList == x5.toList) (x4.2.2 == (0 : Int)) false) (x4.2.1 == (0 : Int)) false) x6 false) x1 false))] (by kernel_rfl) ⟨(fun h => by first | exact h | simpa using h), (fun h => by first | exact h | simpa using h), trivial⟩ ?_
  refine OpsW.nil ?_
  obtain rfl := Option.some.inj H
  refine AW.recast (env' := [(2, .bool (cond (cond (cond (cond (x3.toList == x5.toList) (x4.2.2 == (0 : Int)) false) (x4.2.1 == (0 : Int)) false) x6 false) x1 false))]) (h' := []) (StC.pure (.cons .im .nil)) ?_
  refine AW.ret ?_
  try simp only [Ex.then, Ex.inBlock, Ex.noGoto, Ex.jump, reduceIte, Nat.reduceEqDiff, reduceCtorEq]
  refine Done.gen rfl (.tmp .nil) ?_
  show _ = _
  kernel_rfl
end Go.Proofs.YtlhpkjgpcenfdaaDoor
