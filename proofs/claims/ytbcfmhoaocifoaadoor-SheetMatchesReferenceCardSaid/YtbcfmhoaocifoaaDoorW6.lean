/-
  Written by gen.py (own work): typed functions, and that the program computes them.
-/
import Derived.Test.YtbcfmhoaocifoaaDoorW5
set_option linter.unusedSimpArgs false
set_option linter.unusedVariables false
set_option maxRecDepth 100000
namespace Go.Proofs.YtbcfmhoaocifoaaDoor
open Go.Abs
def f_R25_Fits_b1 (t0 : List (List Int)) (t1 : Int) (loop3 : (Int) → Option Bool) (v2 : Int) : Option Bool :=
  cond (decide (v2 < (t0.length : Int))) (
    G (0 ≤ v2 ∧ v2 < (t0.length : Int)) <|
    (f_R01_ValidAll (t0.getD v2.toNat [])).bind fun x6 =>
    G (((!(cond (decide (t1 < ((t0.getD v2.toNat []).length : Int))) true (!x6))) && (decide (0 < ((t0.getD v2.toNat []).length : Int)))) = true → inR (((t0.getD v2.toNat []).length : Int) - (1 : Int))) <|
    G (((!(cond (decide (t1 < ((t0.getD v2.toNat []).length : Int))) true (!x6))) && (decide (0 < ((t0.getD v2.toNat []).length : Int)))) = true → (0 ≤ (((t0.getD v2.toNat []).length : Int) - (1 : Int)) ∧ (((t0.getD v2.toNat []).length : Int) - (1 : Int)) < ((t0.getD v2.toNat []).length : Int))) <|
    G (((!(cond (cond (decide (t1 < ((t0.getD v2.toNat []).length : Int))) true (!x6)) true (cond (decide (0 < ((t0.getD v2.toNat []).length : Int))) (((t0.getD v2.toNat []).getD (((t0.getD v2.toNat []).length : Int) - (1 : Int)).toNat (0 : Int)) == 0) false))) && (((t0.getD v2.toNat []).length : Int) == (0 : Int))) = true → inR ((t0.length : Int) - 1)) <|
    cond (cond (cond (cond (decide (t1 < ((t0.getD v2.toNat []).length : Int))) true (!x6)) true (cond (decide (0 < ((t0.getD v2.toNat []).length : Int))) (((t0.getD v2.toNat []).getD (((t0.getD v2.toNat []).length : Int) - (1 : Int)).toNat (0 : Int)) == 0) false)) true (cond (((t0.getD v2.toNat []).length : Int) == (0 : Int)) (v2 == ((t0.length : Int) - 1)) false)) (
      some false) (
      G (inR (v2 + 1)) <|
      loop3 (v2 + 1))) (
    some true)
def f_R25_Fits (t0 : List (List Int)) (t1 : Int) (t2 : Int) : Option Bool :=
  cond (decide (t2 < (t0.length : Int))) (
    some false) (
    iter (fun loop (s : Int) => f_R25_Fits_b1 t0 t1 loop s) 1000000 (0 : Int))
section
variable (t0 : List (List Int)) (t1 : Int) (v2 : Int) (x6 : Bool)
abbrev qZgh := (cond (cond (decide (t1 < ((t0.getD v2.toNat []).length : Int))) true (!x6)) true (cond (decide (0 < ((t0.getD v2.toNat []).length : Int))) (((t0.getD v2.toNat []).getD (((t0.getD v2.toNat []).length : Int) - (1 : Int)).toNat (0 : Int)) == 0) false))
abbrev qZgi := ((!(cond (decide (t1 < ((t0.getD v2.toNat []).length : Int))) true (!x6))) && (decide (0 < ((t0.getD v2.toNat []).length : Int))))
abbrev qZgj := ((t0.getD v2.toNat []).length : Int)
abbrev qZgk := cond (decide (t1 < (qZgj t0 v2))) true (!x6)
abbrev qZgl := ((!(qZgh t0 t1 v2 x6)) && ((qZgj t0 v2) == (0 : Int)))
abbrev qZgm : Nat × AV := (0, slA (eL (eI .u8)) t0)
abbrev qZgn := (t0.length : Int)
abbrev qZgo := ((qZgj t0 v2) - (1 : Int))
abbrev qZge : Env := [(8, .int .i64 (qZgj t0 v2)), (qZgm t0), (1, .int .i64 t1), (7, .int .i64 v2)]
abbrev qZgf : Env := (40, .cnd (!(qZgk t0 t1 v2 x6)) (.bool (decide (0 < (qZgj t0 v2))))) :: (37, .bool (qZgk t0 t1 v2 x6)) :: (qZge t0 t1 v2)
abbrev qZgg : Env := [(qZgm t0), (1, .int .i64 t1), (7, .int .i64 v2)]
end
theorem f_R25_Fits_ok  {t0 : List (List Int)} {t1 : Int} {t2 : Int} {r : Bool} (H : f_R25_Fits t0 t1 t2 = some r) : QSpec Tryd.prog 34 [slA (eL (eI .u8)) t0, .int .i64 t1, .int .i64 t2] (.bool r) := by
  refine Spec.of_AW Tryd.func34 rfl (by simp [Tryd.ntmps34]) ?_
  rw [Tryd.ntmps34]
  unfold f_R25_Fits at H
  change AW _ _ _ [(qZgm t0), (1, .int .i64 t1), (2, .int .i64 t2)] [] _
  refine AW.regionSeq (OpsW.sg 1 [0, 1, 2] [(qZgm t0), (1, .int .i64 t1), (2, .int .i64 t2)] ?_)
  refine OpsW.nil (AW.seq (AW.regionSeq (OpsW.sg 4 [13, 0, 1] [(13, .bool (decide (t2 < (qZgn t0)))), (qZgm t0), (1, .int .i64 t1)] ?_)))
  refine OpsW.nil (AW.cond (b := decide (t2 < (qZgn t0))) rfl (fun c1 => ?_) (fun c1 => ?_))
  · replace H := condT c1 H
    refine AW.regionSeq (OpsW.sg 1 [6] [(6, .bool false)] ?_)
    refine OpsW.nil ?_
    obtain rfl := Option.some.inj H
    refine AW.recast (env' := [(6, .bool false)]) (h' := []) (StC.pure (.cons .im .nil)) ?_
    refine AW.ret ?_
    try simp only [Ex.then, Ex.inBlock, Ex.noGoto, Ex.jump, reduceIte, Nat.reduceEqDiff, reduceCtorEq]
    refine Done.gen rfl (.tmp .nil) ?_
    show _ = _
    kernel_rfl
  replace H := condF c1 H
  refine AW.skip (AW.seq (AW.regionSeq (OpsW.sg 1 [7, 0, 1] [(7, .int .i64 0), (qZgm t0), (1, .int .i64 t1)] ?_)))
  refine OpsW.nil (AW.block ?_)
  refine AW.iterK (fun loop (s : Int) => f_R25_Fits_b1 t0 t1 loop s) r (fun (s : Int) => [(qZgm t0), (1, .int .i64 t1), (7, .int .i64 s)]) (fun (s : Int) => []) ?_ 1000000 (0 : Int) H (StC.pure (.i3 .nil))
  intro loop3 v2 H
  change f_R25_Fits_b1 t0 t1 loop3 v2 = some r at H
  unfold f_R25_Fits_b1 at H
  change AW _ _ _ (qZgg t0 t1 v2) [] _
  refine AW.seq (AW.regionSeq (OpsW.sg 4 [17, 0, 1, 7] ((17, .bool (decide (v2 < (qZgn t0)))) :: (qZgg t0 t1 v2)) ?_))
  refine OpsW.nil (AW.cond (b := decide (v2 < (qZgn t0))) rfl (fun c4 => ?_) (fun c4 => ?_))
  · replace H := condT c4 H
    refine AW.skip (AW.seq (AW.block (AW.regionSeq ?_)))
    obtain ⟨g5, H⟩ := G_some H
    refine OpsW.sq 3 [22, 0, 1, 7] [0 ≤ v2 ∧ v2 < (qZgn t0)] ((22, .ipt (t0.flatMap (eL (eI .u8))) (v2.toNat * 1)) :: (qZgg t0 t1 v2)) ⟨g5, trivial⟩ ?_
    refine OpsW.asU (slA (eI .u8) (t0.getD v2.toNat [])) rfl rfl (T.load rfl trivial (by kernel_rfl) (fm_cell0 (eL (eI .u8)) 1 (fun _ => rfl) t0 [] v2.toNat (ltN g5) (fun a => .sl (a.flatMap (eI .u8)) a.length) (fun _ => rfl))) ?_
    refine OpsW.sg 2 [8, 0, 1, 7] (qZge t0 t1 v2) ?_
    refine OpsW.nil (AW.regionSeq (OpsW.sq 3 [27, 8, 0, 1, 7] [0 ≤ v2 ∧ v2 < (qZgn t0)] ((27, .ipt (t0.flatMap (eL (eI .u8))) (v2.toNat * 1)) :: (qZge t0 t1 v2)) ⟨g5, trivial⟩ ?_))
    refine OpsW.asU (slA (eI .u8) (t0.getD v2.toNat [])) rfl rfl (T.load rfl trivial (by kernel_rfl) (fm_cell0 (eL (eI .u8)) 1 (fun _ => rfl) t0 [] v2.toNat (ltN g5) (fun a => .sl (a.flatMap (eI .u8)) a.length) (fun _ => rfl))) ?_
    obtain ⟨x6, hx6, H⟩ := bindS H
    refine OpsW.qcall rfl (by kernel_rfl) rfl rfl (glAll_sound trivial) (.cons (.pur rfl) .nil) (f_R01_ValidAll_ok hx6) rfl ?_
    refine OpsW.sg 1 [9, 8, 0, 1, 7] ((9, .bool x6) :: (qZge t0 t1 v2)) ?_
    refine OpsW.nil (AW.regionSeq (OpsW.sq 14 [43, 40, 37, 8, 0, 1, 7] [(!(decide (t1 < (qZgj t0 v2)))) = true → (!(decide (t1 < (qZgj t0 v2)))) = true, (decide (t1 < (qZgj t0 v2))) = false → (!(decide (t1 < (qZgj t0 v2)))) = true, (!(qZgk t0 t1 v2 x6)) = true → (!(qZgk t0 t1 v2 x6)) = true, (!(qZgk t0 t1 v2 x6)) = true → (!(qZgk t0 t1 v2 x6)) = true, (qZgi t0 t1 v2 x6) = true → (qZgi t0 t1 v2 x6) = true, (qZgi t0 t1 v2 x6) = true → (qZgi t0 t1 v2 x6) = true, (qZgi t0 t1 v2 x6) = true → (0 ≤ v2 ∧ v2 < (qZgn t0))] ((43, .cnd (qZgi t0 t1 v2 x6) (.ipt (t0.flatMap (eL (eI .u8))) (v2.toNat * 1))) :: (qZgf t0 t1 v2 x6)) ⟨(fun h => h), (fun h => by first | exact h | (simpa using h) | grind), (fun h => h), (fun h => h), (fun h => h), (fun h => h), (fun _ => g5), trivial⟩ ?_))
    refine OpsW.asG (c := (!(qZgk t0 t1 v2 x6)) && (decide (0 < (qZgj t0 v2)))) (slA (eI .u8) (t0.getD v2.toNat [])) rfl rfl rfl rfl (fun hc => T.load rfl hc (by kernel_rfl) (fm_cell0 (eL (eI .u8)) 1 (fun _ => rfl) t0 [] v2.toNat (ltN g5) (fun a => .sl (a.flatMap (eI .u8)) a.length) (fun _ => rfl))) ?_
    obtain ⟨g7, H⟩ := G_some H
    obtain ⟨g8, H⟩ := G_some H
    refine OpsW.sq 3 [47, 40, 37, 8, 0, 1, 7] [(qZgi t0 t1 v2 x6) = true → (qZgi t0 t1 v2 x6) = true, (qZgi t0 t1 v2 x6) = true → inR (qZgo t0 v2), (qZgi t0 t1 v2 x6) = true → (qZgi t0 t1 v2 x6) = true, (qZgi t0 t1 v2 x6) = true → (qZgi t0 t1 v2 x6) = true, (qZgi t0 t1 v2 x6) = true → (0 ≤ (qZgo t0 v2) ∧ (qZgo t0 v2) < (qZgj t0 v2))] ((47, .cnd (qZgi t0 t1 v2 x6) (.ipt ((t0.getD v2.toNat []).flatMap (eI .u8)) ((qZgo t0 v2).toNat * 1))) :: (qZgf t0 t1 v2 x6)) ⟨(fun h => h), g7, (fun h => h), (fun h => h), g8, trivial⟩ ?_
    refine OpsW.asG (c := (!(qZgk t0 t1 v2 x6)) && (decide (0 < (qZgj t0 v2)))) (.int .u8 ((t0.getD v2.toNat []).getD (qZgo t0 v2).toNat (0 : Int))) rfl rfl rfl rfl (fun hc => T.load rfl hc (by kernel_rfl) (fm_cell0 (eI .u8) 1 (fun _ => rfl) (t0.getD v2.toNat []) (0 : Int) (qZgo t0 v2).toNat (ltN (g8 hc)) (fun a => .val (.int .u8 a)) (fun _ => rfl))) ?_
    obtain ⟨g9, H⟩ := G_some H
    refine OpsW.sq 14 [62, 0, 1, 7] [(qZgi t0 t1 v2 x6) = true → (qZgi t0 t1 v2 x6) = true, (!(qZgk t0 t1 v2 x6)) = true → (!(qZgk t0 t1 v2 x6)) = true, (!(qZgk t0 t1 v2 x6)) = true → ((decide (0 < (qZgj t0 v2))) = true → (qZgi t0 t1 v2 x6) = true), (qZgk t0 t1 v2 x6) = false → (!(qZgk t0 t1 v2 x6)) = true, (!(qZgh t0 t1 v2 x6)) = true → (!(qZgh t0 t1 v2 x6)) = true, (!(qZgh t0 t1 v2 x6)) = true → (!(qZgh t0 t1 v2 x6)) = true, (qZgl t0 t1 v2 x6) = true → (qZgl t0 t1 v2 x6) = true, (qZgl t0 t1 v2 x6) = true → (qZgl t0 t1 v2 x6) = true, (qZgl t0 t1 v2 x6) = true → inR ((qZgn t0) - 1), (qZgl t0 t1 v2 x6) = true → (qZgl t0 t1 v2 x6) = true, (qZgl t0 t1 v2 x6) = true → (qZgl t0 t1 v2 x6) = true, (!(qZgh t0 t1 v2 x6)) = true → (!(qZgh t0 t1 v2 x6)) = true, (!(qZgh t0 t1 v2 x6)) = true → (((qZgj t0 v2) == (0 : Int)) = true → (qZgl t0 t1 v2 x6) = true), (qZgh t0 t1 v2 x6) = false → (!(qZgh t0 t1 v2 x6)) = true] ((62, .bool (cond (qZgh t0 t1 v2 x6) true (cond ((qZgj t0 v2) == (0 : Int)) (v2 == ((qZgn t0) - 1)) false))) :: (qZgg t0 t1 v2)) ⟨(fun h => h), (fun h => h), (fun h0 h => by first | exact h | (simp [h0, h]; done) | (simp at h0 h ⊢; simp [h0, h]; done) | (simp_all; done) | grind), (fun h => by first | exact h | (simpa using h) | grind), (fun h => h), (fun h => h), (fun h => h), (fun h => h), g9, (fun h => h), (fun h => h), (fun h => h), (fun h0 h => by first | exact h | (simp [h0, h]; done) | (simp at h0 h ⊢; simp [h0, h]; done) | (simp_all; done) | grind), (fun h => by first | exact h | (simpa using h) | grind), trivial⟩ ?_
    refine OpsW.nil (AW.cond (b := cond (qZgh t0 t1 v2 x6) true (cond ((qZgj t0 v2) == (0 : Int)) (v2 == ((qZgn t0) - 1)) false)) rfl (fun c10 => ?_) (fun c10 => ?_))
    · replace H := condT c10 H
      refine AW.regionSeq (OpsW.sg 1 [6] [(6, .bool false)] ?_)
      refine OpsW.nil ?_
      obtain rfl := Option.some.inj H
      refine AW.recast (env' := [(6, .bool false)]) (h' := []) (StC.pure (.cons .im .nil)) ?_
      refine AW.ret ?_
      try simp only [Ex.then, Ex.inBlock, Ex.noGoto, Ex.jump, reduceIte, Nat.reduceEqDiff, reduceCtorEq]
      refine Done.gen rfl (.tmp .nil) ?_
      show _ = _
      kernel_rfl
    replace H := condF c10 H
    refine AW.skip (AW.region ?_)
    obtain ⟨g11, H⟩ := G_some H
    refine OpsW.sq 3 [7, 0, 1] [inR (v2 + 1)] [(7, .int .i64 (v2 + 1)), (qZgm t0), (1, .int .i64 t1)] ⟨g11, trivial⟩ ?_
    refine OpsW.nil ?_
    show ∃ y, _ ∧ StC _ _ _ _
    exact ⟨v2 + 1, H, (StC.pure (.i3 .nil))⟩
  replace H := condF c4 H
  refine AW.exit ?_
  refine AW.regionSeq (OpsW.sg 1 [6] [(6, .bool true)] ?_)
  refine OpsW.nil ?_
  obtain rfl := Option.some.inj H
  refine AW.recast (env' := [(6, .bool true)]) (h' := []) (StC.pure (.cons .im .nil)) ?_
  refine AW.ret ?_
  try simp only [Ex.then, Ex.inBlock, Ex.noGoto, Ex.jump, reduceIte, Nat.reduceEqDiff, reduceCtorEq]
  refine Done.gen rfl (.tmp .nil) ?_
  show _ = _
  kernel_rfl
def f_R25_cell (t0 : List (List Int)) (t1 : Int) (t2 : Int) : Option Int :=
  G ((!(decide ((t0.length : Int) ≤ t1))) = true → (0 ≤ t1 ∧ t1 < (t0.length : Int))) <|
  cond (cond (decide ((t0.length : Int) ≤ t1)) true (decide (((t0.getD t1.toNat []).length : Int) ≤ t2))) (
    some (0 : Int)) (
    G (0 ≤ t1 ∧ t1 < (t0.length : Int)) <|
    G (0 ≤ t2 ∧ t2 < ((t0.getD t1.toNat []).length : Int)) <|
    some ((t0.getD t1.toNat []).getD t2.toNat 0))
section
variable (t0 : List (List Int)) (t1 : Int) (t2 : Int)
abbrev qZgq := (decide ((t0.length : Int) ≤ t1))
abbrev qZgr := t0.getD t1.toNat []
abbrev qZgp : Env := [(0, slA (eL (eI .u8)) t0), (1, .int .i64 t1), (2, .int .i64 t2)]
end
theorem f_R25_cell_ok  {t0 : List (List Int)} {t1 : Int} {t2 : Int} {r : Int} (H : f_R25_cell t0 t1 t2 = some r) : QSpec Tryd.prog 54 [slA (eL (eI .u8)) t0, .int .i64 t1, .int .i64 t2] (.int .u8 r) := by
  refine Spec.of_AW Tryd.func54 rfl (by simp [Tryd.ntmps54]) ?_
  rw [Tryd.ntmps54]
  unfold f_R25_cell at H
  change AW _ _ _ (qZgp t0 t1 t2) [] _
  refine AW.regionSeq (OpsW.sg 1 [0, 1, 2] (qZgp t0 t1 t2) ?_)
  refine OpsW.nil (AW.seq (AW.regionSeq ?_))
  obtain ⟨g1, H⟩ := G_some H
  refine OpsW.sq 9 [15, 12, 11, 0, 1, 2] [(!(qZgq t0 t1)) = true → (!(qZgq t0 t1)) = true, (!(qZgq t0 t1)) = true → (!(qZgq t0 t1)) = true, (!(qZgq t0 t1)) = true → (0 ≤ t1 ∧ t1 < (t0.length : Int))] ((15, .cnd (!(qZgq t0 t1)) (.ipt (t0.flatMap (eL (eI .u8))) (t1.toNat * 1))) :: (12, .cnd (!(qZgq t0 t1)) (.int .i64 t2)) :: (11, .bool (qZgq t0 t1)) :: (qZgp t0 t1 t2)) ⟨(fun h => h), (fun h => h), g1, trivial⟩ ?_
  refine OpsW.asG (c := !(qZgq t0 t1)) (slA (eI .u8) (qZgr t0 t1)) rfl rfl rfl rfl (fun hc => T.load rfl hc (by kernel_rfl) (fm_cell0 (eL (eI .u8)) 1 (fun _ => rfl) t0 [] t1.toNat (ltN (g1 hc)) (fun a => .sl (a.flatMap (eI .u8)) a.length) (fun _ => rfl))) ?_
  refine OpsW.sq 3 [19, 0, 1, 2] [(!(qZgq t0 t1)) = true → (!(qZgq t0 t1)) = true, (!(qZgq t0 t1)) = true → (!(qZgq t0 t1)) = true, (!(qZgq t0 t1)) = true → (!(qZgq t0 t1)) = true, (qZgq t0 t1) = false → (!(qZgq t0 t1)) = true] ((19, .bool (cond (qZgq t0 t1) true (decide (((qZgr t0 t1).length : Int) ≤ t2)))) :: (qZgp t0 t1 t2)) ⟨(fun h => h), (fun h => h), (fun h => h), (fun h => by first | exact h | (simpa using h) | grind), trivial⟩ ?_
  refine OpsW.nil (AW.cond (b := cond (qZgq t0 t1) true (decide (((qZgr t0 t1).length : Int) ≤ t2))) rfl (fun c2 => ?_) (fun c2 => ?_))
  · replace H := condT c2 H
    refine AW.regionSeq (OpsW.sg 1 [6] [(6, .int .u8 0)] ?_)
    refine OpsW.nil ?_
    obtain rfl := Option.some.inj H
    refine AW.recast (env' := [(6, .int .u8 0)]) (h' := []) (StC.pure (.cons .im .nil)) ?_
    refine AW.ret ?_
    try simp only [Ex.then, Ex.inBlock, Ex.noGoto, Ex.jump, reduceIte, Nat.reduceEqDiff, reduceCtorEq]
    refine Done.gen rfl (.tmp .nil) ?_
    show _ = _
    kernel_rfl
  replace H := condF c2 H
  refine AW.skip (AW.regionSeq ?_)
  obtain ⟨g3, H⟩ := G_some H
  refine OpsW.sq 3 [22, 2] [0 ≤ t1 ∧ t1 < (t0.length : Int)] [(22, .ipt (t0.flatMap (eL (eI .u8))) (t1.toNat * 1)), (2, .int .i64 t2)] ⟨g3, trivial⟩ ?_
  refine OpsW.asU (slA (eI .u8) (qZgr t0 t1)) rfl rfl (T.load rfl trivial (by kernel_rfl) (fm_cell0 (eL (eI .u8)) 1 (fun _ => rfl) t0 [] t1.toNat (ltN g3) (fun a => .sl (a.flatMap (eI .u8)) a.length) (fun _ => rfl))) ?_
  obtain ⟨g4, H⟩ := G_some H
  refine OpsW.sq 2 [25] [0 ≤ t2 ∧ t2 < ((qZgr t0 t1).length : Int)] [(25, .ipt ((qZgr t0 t1).flatMap (eI .u8)) (t2.toNat * 1))] ⟨g4, trivial⟩ ?_
  refine OpsW.asU (.int .u8 ((qZgr t0 t1).getD t2.toNat 0)) rfl rfl (T.load rfl trivial (by kernel_rfl) (fm_cell0 (eI .u8) 1 (fun _ => rfl) (qZgr t0 t1) (0 : Int) t2.toNat (ltN g4) (fun a => .val (.int .u8 a)) (fun _ => rfl))) ?_
  refine OpsW.sg 1 [6] [(6, .int .u8 ((qZgr t0 t1).getD t2.toNat 0))] ?_
  refine OpsW.nil ?_
  obtain rfl := Option.some.inj H
  refine AW.recast (env' := [(6, .int .u8 ((qZgr t0 t1).getD t2.toNat 0))]) (h' := []) (StC.pure (.cons .im .nil)) ?_
  refine AW.ret ?_
  try simp only [Ex.then, Ex.inBlock, Ex.noGoto, Ex.jump, reduceIte, Nat.reduceEqDiff, reduceCtorEq]
  refine Done.gen rfl (.tmp .nil) ?_
  show _ = _
  kernel_rfl
def f_R01_Has (t0 : Int) (t1 : Int) : Option Bool :=
  G (inR (t1 - 1)) <|
  G (0 ≤ (t1 - 1)) <|
  some ((bAnd .u8 (bShr .u8 t0 (t1 - 1)) (1 : Int)) == 1)
theorem f_R01_Has_ok  {t0 : Int} {t1 : Int} {r : Bool} (H : f_R01_Has t0 t1 = some r) : QSpec Tryd.prog 42 [.int .u8 t0, .int .i64 t1] (.bool r) := by
  refine Spec.of_AW Tryd.func42 rfl (by simp [Tryd.ntmps42]) ?_
  rw [Tryd.ntmps42]
  unfold f_R01_Has at H
  change AW _ _ _ [(0, .int .u8 t0), (1, .int .i64 t1)] [] _
  refine AW.regionSeq (OpsW.sg 1 [0, 1] [(0, .int .u8 t0), (1, .int .i64 t1)] ?_)
  refine OpsW.nil (AW.regionSeq ?_)
  obtain ⟨g1, H⟩ := G_some H
  obtain ⟨g2, H⟩ := G_some H
  refine OpsW.sq 7 [4] [inR (t1 - 1), 0 ≤ (t1 - 1)] [(4, .bool ((bAnd .u8 (bShr .u8 t0 (t1 - 1)) (1 : Int)) == 1))] ⟨g1, g2, trivial⟩ ?_
  refine OpsW.nil ?_
  obtain rfl := Option.some.inj H
  refine AW.recast (env' := [(4, .bool ((bAnd .u8 (bShr .u8 t0 (t1 - 1)) (1 : Int)) == 1))]) (h' := []) (StC.pure (.cons .im .nil)) ?_
  refine AW.ret ?_
  refine Done.gen rfl (.tmp .nil) ?_
  show _ = _
  kernel_rfl
def f_R25_raised (t0 : List (List Int)) (t1 : Int) (t2 : Int) : Option Bool :=
  G (inR (Int.tdiv t2 (3 : Int))) <|
  G (inR (Int.tdiv t1 (2 : Int))) <|
  (f_R25_cell t0 (Int.tdiv t2 (3 : Int)) (Int.tdiv t1 (2 : Int))).bind fun x3 =>
  G (inR ((Int.tmod t1 (2 : Int)) * 3)) <|
  G (inR (((Int.tmod t1 (2 : Int)) * 3) + (Int.tmod t2 (3 : Int)))) <|
  G (inR ((((Int.tmod t1 (2 : Int)) * 3) + (Int.tmod t2 (3 : Int))) + 1)) <|
  (f_R01_Has x3 ((((Int.tmod t1 (2 : Int)) * 3) + (Int.tmod t2 (3 : Int))) + 1)).bind fun x7 =>
  some x7
section
variable (t1 : Int) (t2 : Int)
abbrev qZgs := (((Int.tmod t1 (2 : Int)) * 3) + (Int.tmod t2 (3 : Int)))
end
theorem f_R25_raised_ok  {t0 : List (List Int)} {t1 : Int} {t2 : Int} {r : Bool} (H : f_R25_raised t0 t1 t2 = some r) : QSpec Tryd.prog 35 [slA (eL (eI .u8)) t0, .int .i64 t1, .int .i64 t2] (.bool r) := by
  refine Spec.of_AW Tryd.func35 rfl (by simp [Tryd.ntmps35]) ?_
  rw [Tryd.ntmps35]
  unfold f_R25_raised at H
  change AW _ _ _ [(0, slA (eL (eI .u8)) t0), (1, .int .i64 t1), (2, .int .i64 t2)] [] _
  refine AW.regionSeq (OpsW.sg 1 [0, 1, 2] [(0, slA (eL (eI .u8)) t0), (1, .int .i64 t1), (2, .int .i64 t2)] ?_)
  refine OpsW.nil (AW.regionSeq ?_)
  obtain ⟨g1, H⟩ := G_some H
  obtain ⟨g2, H⟩ := G_some H
  refine OpsW.sq 5 [11, 9, 7, 1, 2] [(3 : Int) ≠ 0, inR (Int.tdiv t2 (3 : Int)), (2 : Int) ≠ 0, inR (Int.tdiv t1 (2 : Int))] [(11, .int .i64 (Int.tdiv t1 (2 : Int))), (9, .int .i64 (Int.tdiv t2 (3 : Int))), (7, slA (eL (eI .u8)) t0), (1, .int .i64 t1), (2, .int .i64 t2)] ⟨(by decide), g1, (by decide), g2, trivial⟩ ?_
  obtain ⟨x3, hx3, H⟩ := bindS H
  refine OpsW.qcall rfl (by kernel_rfl) rfl rfl (glAll_sound trivial) (.cons (.pur rfl) (.cons (.pur rfl) (.cons (.pur rfl) .nil))) (f_R25_cell_ok hx3) rfl ?_
  obtain ⟨g4, H⟩ := G_some H
  obtain ⟨g5, H⟩ := G_some H
  obtain ⟨g6, H⟩ := G_some H
  refine OpsW.sq 7 [19, 12] [(2 : Int) ≠ 0, inR ((Int.tmod t1 (2 : Int)) * 3), (3 : Int) ≠ 0, inR (qZgs t1 t2), inR ((qZgs t1 t2) + 1)] [(19, .int .i64 ((qZgs t1 t2) + 1)), (12, .int .u8 x3)] ⟨(by decide), g4, (by decide), g5, g6, trivial⟩ ?_
  obtain ⟨x7, hx7, H⟩ := bindS H
  refine OpsW.qcall rfl (by kernel_rfl) rfl rfl (glAll_sound trivial) (.cons (.pur rfl) (.cons (.pur rfl) .nil)) (f_R01_Has_ok hx7) rfl ?_
  refine OpsW.sg 1 [6] [(6, .bool x7)] ?_
  refine OpsW.nil ?_
  obtain rfl := Option.some.inj H
  refine AW.recast (env' := [(6, .bool x7)]) (h' := []) (StC.pure (.cons .im .nil)) ?_
  refine AW.ret ?_
  refine Done.gen rfl (.tmp .nil) ?_
  show _ = _
  kernel_rfl
def f_R25_Press_b1 (loop12 : (S_Leaf × S_Plate × S_Plate × Int) → Option (S_Plate × Int)) (v11 : Int) (loop18 : (S_Leaf × S_Plate × S_Plate × Int) → Option (S_Plate × Int)) (v14 : S_Leaf) (v15 : S_Plate) (v16 : S_Plate) (v17 : Int) : Option (S_Plate × Int) :=
  cond (decide (v17 < v16.W)) (
    G (0 ≤ v11 ∧ v11 < (v16.Up.length : Int)) <|
    (f_R25_raised v14.Front v17 v11).bind fun x21 =>
    G (0 ≤ v17 ∧ v17 < ((v16.Up.getD v11.toNat []).length : Int)) <|
    G (0 ≤ v11 ∧ v11 < (v16.Down.length : Int)) <|
    G (inR (v16.W - 1)) <|
    G (inR ((v16.W - 1) - v17)) <|
    (f_R25_raised v14.Back v17 v11).bind fun x26 =>
    G (0 ≤ ((v16.W - 1) - v17) ∧ ((v16.W - 1) - v17) < ((v16.Down.getD v11.toNat []).length : Int)) <|
    G (inR (v17 + 1)) <|
    loop18 (v14, v15, (⟨v16.W, v16.H, v16.Up.set v11.toNat ((v16.Up.getD v11.toNat []).set v17.toNat x21), v16.Down.set v11.toNat ((v16.Down.getD v11.toNat []).set ((v16.W - 1) - v17).toNat x26)⟩ : S_Plate), v17 + 1)) (
    G (inR (v11 + 1)) <|
    loop12 (v14, v15, v16, v11 + 1))
def f_R25_Press_b2 (loop12 : (S_Leaf × S_Plate × S_Plate × Int) → Option (S_Plate × Int)) (v8 : S_Leaf) (v9 : S_Plate) (v10 : S_Plate) (v11 : Int) : Option (S_Plate × Int) :=
  cond (decide (v11 < v10.H)) (
    iter (fun loop (s : S_Leaf × S_Plate × S_Plate × Int) => f_R25_Press_b1 loop12 v11 loop s.1 s.2.1 s.2.2.1 s.2.2.2) 1000000 (v8, v9, v10, (0 : Int))) (
    some (v10, (0 : Int)))
def f_R25_Press (t0 : S_Leaf) (t1 : S_Format) : Option (S_Plate × Int) :=
  cond (cond (cond (cond (decide (t1.Width < 24)) true (decide (60 < t1.Width))) true (decide (t1.Height < 4))) true (decide (40 < t1.Height))) (
    some ((⟨(0 : Int), (0 : Int), [], []⟩ : S_Plate), (1 : Int))) (
    (f_R25_Fits t0.Front t1.Width t1.Height).bind fun x2 =>
    (f_R25_Fits t0.Back t1.Width t1.Height).bind fun x3 =>
    cond (cond (!x2) true (!x3)) (
      some ((⟨(0 : Int), (0 : Int), [], []⟩ : S_Plate), (250 : Int))) (
      G (inR (2 * t1.Width)) <|
      G (inR (3 * t1.Height)) <|
      (f_R25_Empty (2 * t1.Width) (3 * t1.Height)).bind fun x7 =>
      iter (fun loop (s : S_Leaf × S_Plate × S_Plate × Int) => f_R25_Press_b2 loop s.1 s.2.1 s.2.2.1 s.2.2.2) 1000000 (t0, (⟨(0 : Int), (0 : Int), [], []⟩ : S_Plate), x7, (0 : Int))))
section
variable (t0 : S_Leaf) (t1 : S_Format) (v8 : S_Leaf) (v9 : S_Plate) (v10 : S_Plate) (v11 : Int) (v14 : S_Leaf) (v15 : S_Plate) (v16 : S_Plate) (v17 : Int) (x7 : S_Plate) (x21 : Bool) (x26 : Bool)
abbrev qZhl := (⟨v16.W, v16.H, v16.Up.set v11.toNat ((v16.Up.getD v11.toNat []).set v17.toNat x21), v16.Down.set v11.toNat ((v16.Down.getD v11.toNat []).set ((v16.W - 1) - v17).toNat x26)⟩ : S_Plate)
abbrev qZhm := cond (decide (t1.Width < 24)) true (decide (60 < t1.Width))
abbrev qZhn := [fmA 15080 4 1 eB (v16.Up.set v11.toNat ((v16.Up.getD v11.toNat []).set v17.toNat x21)), fmA 15081 4 1 eB (v16.Down.set v11.toNat ((v16.Down.getD v11.toNat []).set ((v16.W - 1) - v17).toNat x26))]
abbrev qZho : List AV := [.int .i64 0, .int .i64 0, .im (.val (.slice none 0 0)), .im (.val (.slice none 0 0))]
abbrev qZhp := [fmA 15080 4 1 eB (v16.Up.set v11.toNat ((v16.Up.getD v11.toNat []).set v17.toNat x21)), fmA 15081 4 1 eB v16.Down]
abbrev qZhq : List AV := [.int .i64 t0.Label.N, .int .i64 t0.Label.K, slA (eL (eI .u8)) t0.Front, slA (eL (eI .u8)) t0.Back]
abbrev qZhr : List AV := [.int .i64 v14.Label.N, .int .i64 v14.Label.K, slA (eL (eI .u8)) v14.Front, slA (eL (eI .u8)) v14.Back]
abbrev qZhs := cond (qZhm t1) true (decide (t1.Height < 4))
abbrev qZht : List AV := [.int .i64 v15.W, .int .i64 v15.H, slA (eL eB) v15.Up, slA (eL eB) v15.Down]
abbrev qZhu := [fmA 15080 4 1 eB v10.Up, fmA 15081 4 1 eB v10.Down]
abbrev qZhv := [fmA 15080 4 1 eB v16.Up, fmA 15081 4 1 eB v16.Down]
abbrev qZhw := [fmA 10601 4 1 eB x7.Up, fmA 10602 4 1 eB x7.Down]
abbrev qZhx : List AV := [.int .i64 v10.W, .int .i64 v10.H, .rsl 5080 0 0 v10.Up.length, .rsl 5081 0 0 v10.Down.length]
abbrev qZhy := (⟨(0 : Int), (0 : Int), [], []⟩ : S_Plate)
abbrev qZhz := v16.Up.set v11.toNat ((v16.Up.getD v11.toNat []).set v17.toNat x21)
abbrev qZi0 := [fmA 15080 4 1 eB x7.Up, fmA 15081 4 1 eB x7.Down]
abbrev qZi1 : List AV := [.int .i64 t1.Width, .int .i64 t1.Height, .int .i64 t1.Binding]
abbrev qZi2 : Nat × AV := (4, .ref 4 0 0)
abbrev qZi3 := [fmA 15040 4 1 eB v10.Up, fmA 15041 4 1 eB v10.Down]
abbrev qZi4 := decide (t1.Width < 24)
abbrev qZi5 : List AV := [.int .i64 x7.W, .int .i64 x7.H, .rsl 5080 0 0 x7.Up.length, .rsl 5081 0 0 x7.Down.length]
abbrev qZi6 : List AV := [.int .i64 x7.W, .int .i64 x7.H, .rsl 1500 0 0 x7.Up.length, .rsl 1501 0 0 x7.Down.length]
abbrev qZi7 : List AV := [.int .i64 x7.W, .int .i64 x7.H, .rsl 601 0 0 x7.Up.length, .rsl 602 0 0 x7.Down.length]
abbrev qZi8 := fid 15081 v11.toNat
abbrev qZi9 := fid 15080 v11.toNat
abbrev qZia : Nat × AV := (2, .ref 2 0 0)
abbrev qZib := v16.Down.set v11.toNat ((v16.Down.getD v11.toNat []).set ((v16.W - 1) - v17).toNat x26)
abbrev qZgt : Hp := [(2, ⟨0, true, 39, 4, (qZhr v14)⟩), (4, ⟨0, true, 47, 4, (qZht v15)⟩), (8, ⟨0, true, 47, 4, [.int .i64 v16.W, .int .i64 v16.H, .rsl 5080 0 0 ((qZhz v11 v16 v17 x21).length), .rsl 5081 0 0 ((qZib v11 v16 v17 x26).length)]⟩), (5080, nsA 0 61 15080 (qZhz v11 v16 v17 x21)), (5081, nsA 0 61 15081 (qZib v11 v16 v17 x26))]
abbrev qZgu : Hp := [(2, ⟨0, true, 39, 4, (qZhr v14)⟩), (4, ⟨0, true, 47, 4, (qZht v15)⟩), (8, ⟨0, true, 47, 4, [.int .i64 v16.W, .int .i64 v16.H, .rsl 5080 0 0 ((qZhz v11 v16 v17 x21).length), .rsl 5081 0 0 v16.Down.length]⟩), (5080, nsA 0 61 15080 (qZhz v11 v16 v17 x21)), (5081, nsA 0 61 15081 v16.Down)]
abbrev qZgv : Hp := [(2, ⟨0, true, 39, 4, (qZhq t0)⟩), (3, ⟨0, true, 32, 3, (qZi1 t1)⟩), (4, ⟨0, true, 47, 4, qZho⟩)]
abbrev qZgw : Hp := [(2, ⟨0, true, 39, 4, (qZhr v14)⟩), (4, ⟨0, true, 47, 4, (qZht v15)⟩), (8, ⟨0, true, 47, 4, [.int .i64 v16.W, .int .i64 v16.H, .rsl 5080 0 0 v16.Up.length, .rsl 5081 0 0 v16.Down.length]⟩), (5080, nsA 0 61 15080 v16.Up), (5081, nsA 0 61 15081 v16.Down)]
abbrev qZgx : Hp := [(2, ⟨0, true, 39, 4, [.int .i64 v8.Label.N, .int .i64 v8.Label.K, slA (eL (eI .u8)) v8.Front, slA (eL (eI .u8)) v8.Back]⟩), (4, ⟨0, true, 47, 4, [.int .i64 v9.W, .int .i64 v9.H, slA (eL eB) v9.Up, slA (eL eB) v9.Down]⟩), (8, ⟨0, true, 47, 4, (qZhx v10)⟩), (5080, nsA 0 61 15080 v10.Up), (5081, nsA 0 61 15081 v10.Down)]
abbrev qZgy : Env := [qZia, qZi2, (8, .ref 8 0 0), (9, .int .i64 v11), (10, .int .i64 v17)]
abbrev qZgz : Hp := [(2, ⟨0, true, 39, 4, (qZhq t0)⟩), (4, ⟨0, true, 47, 4, qZho⟩), (8, ⟨0, true, 47, 4, (qZi5 x7)⟩), (5080, nsA 0 61 15080 x7.Up), (5081, nsA 0 61 15081 x7.Down)]
abbrev qZh0 : Env := (96, .bool x26) :: (91, .int .i64 ((v16.W - 1) - v17)) :: (86, .rsl (qZi8 v11) 0 0 ((v16.Down.getD v11.toNat []).length)) :: (qZgy v11 v17)
abbrev qZh1 : Hp := [(4, ⟨0, true, 47, 4, [.int .i64 v10.W, .int .i64 v10.H, .rsl 5040 0 0 v10.Up.length, .rsl 5041 0 0 v10.Down.length]⟩), (5040, nsA 0 61 15040 v10.Up), (5041, nsA 0 61 15041 v10.Down)]
abbrev qZh2 : Env := [qZi2, (3, .ref 3 0 0), qZia]
abbrev qZh3 : Env := (80, .bool x21) :: (75, .int .i64 v17) :: (74, .rsl (qZi9 v11) 0 0 ((v16.Up.getD v11.toNat []).length)) :: (qZgy v11 v17)
abbrev qZh4 : Hp := (8, ⟨0, true, 47, 4, (qZi7 x7)⟩) :: (8, ⟨0, true, 47, 4, qZho⟩) :: (601, nsA 0 61 10601 x7.Up) :: (602, nsA 0 61 10602 x7.Down) :: (qZgv t0 t1)
abbrev qZh5 : Env := [(56, .int .i64 (3 * t1.Height)), (53, .int .i64 (2 * t1.Width)), qZi2, qZia]
abbrev qZh6 : List (Nat × FM) := [(15080, .same 15080), (15081, .same 15081)]
abbrev qZh7 : Env := [qZia, qZi2, (8, .ref 8 0 0), (9, .int .i64 v11)]
abbrev qZh8 : Hp := (1000, ⟨0, true, 47, 4, (qZi6 x7)⟩) :: (1500, nsA 0 61 11500 x7.Up) :: (1501, nsA 0 61 11501 x7.Down) :: (qZgv t0 t1)
abbrev qZh9 : Env := (73, .ref 5080 0 (0 + v11.toNat * 1)) :: (72, .int .i64 v11) :: (71, .rsl 5080 0 0 v16.Up.length) :: (70, .ref 8 0 2) :: (67, .bool (decide (v17 < v16.W))) :: (qZgy v11 v17)
abbrev qZha : Hp := [(2, ⟨0, true, 39, 4, (qZhq t0)⟩)]
abbrev qZhb : Hp := (4, ⟨0, true, 47, 4, (qZhx v10)⟩) :: (qZgx v8 v9 v10)
abbrev qZhc : Hp := (4, ⟨0, true, 47, 4, qZho⟩) :: (qZgv t0 t1)
abbrev qZhd : Hp := [(4, ⟨0, true, 47, 4, qZho⟩)]
abbrev qZhe : Hp := (601, nsA 0 61 10601 x7.Up) :: (602, nsA 0 61 10602 x7.Down) :: (qZgv t0 t1)
abbrev qZhf : Env := (85, .ref 5081 0 (0 + v11.toNat * 1)) :: (84, .int .i64 v11) :: (83, .rsl 5081 0 0 v16.Down.length) :: (82, .ref 8 0 3) :: (qZgy v11 v17)
abbrev qZhg : Env := (57, .agg (qZi7 x7)) :: (qZh5 t1)
abbrev qZhh : Hp := [(4, ⟨0, true, 47, 4, [.int .i64 v10.W, .int .i64 v10.H, slA (eL eB) v10.Up, slA (eL eB) v10.Down]⟩)]
abbrev qZhi : Env := [(8, .ref 8 0 0), qZi2, qZia]
abbrev qZhj : Hp := [(4, ⟨0, true, 47, 4, [.int .i64 0, .int .i64 0, slA (eL eB) [], slA (eL eB) []]⟩)]
abbrev qZhk : Env := [qZi2]
end
theorem f_R25_Press_ok  {t0 : S_Leaf} {t1 : S_Format} {r : S_Plate × Int} (H : f_R25_Press t0 t1 = some r) : QSpec Tryd.prog 13 [.agg [.int .i64 t0.Label.N, .int .i64 t0.Label.K, slA (eL (eI .u8)) t0.Front, slA (eL (eI .u8)) t0.Back], .agg [.int .i64 t1.Width, .int .i64 t1.Height, .int .i64 t1.Binding]] (.tup [.agg [.int .i64 r.1.W, .int .i64 r.1.H, slA (eL eB) r.1.Up, slA (eL eB) r.1.Down], .int .i64 r.2]) := by
  refine Spec.of_AW Tryd.func13 rfl (by simp [Tryd.ntmps13]) ?_
  rw [Tryd.ntmps13]
  unfold f_R25_Press at H
  change AW _ _ _ [(0, .agg (qZhq t0)), (1, .agg (qZi1 t1))] [] _
  refine AW.regionSeq (OpsW.box rfl rfl rfl 2 rfl (okCb_sound (by kernel_rfl)) ?_)
  change OpsW _ _ _ _ _ (qZha t0) _
  refine OpsW.box rfl rfl rfl 3 rfl (okCb_sound (by kernel_rfl)) ?_
  change OpsW _ _ _ _ _ ((3, ⟨0, true, 32, 3, (qZi1 t1)⟩) :: (qZha t0)) _
  refine OpsW.alloc' rfl rfl rfl 4 rfl (by kernel_rfl : zc Tryd.prog 47 = some [.int .i64 0, .int .i64 0, .slice none 0 0, .slice none 0 0]) (by kernel_rfl) ?_
  refine OpsW.sg 1 [4, 3, 2] qZh2 ?_
  refine OpsW.recast (env' := qZh2) (h' := (qZgv t0 t1)) (StC.mk (phi [(2, some 2), (3, some 3), (4, some 4)]) (.o rfl (.i4 .nil) (.o rfl (.i3 .nil) (.o rfl (.i4 .nil) .nil))) rfl (.cons (.r rfl) (.cons (.r rfl) (.cons (.r rfl) .nil)))) ?_
  refine OpsW.nil (AW.seq (AW.regionSeq (OpsW.sq 18 [28, 4, 3, 2] [(!(qZi4 t1)) = true → (!(qZi4 t1)) = true, (!(qZi4 t1)) = true → (!(qZi4 t1)) = true, (qZi4 t1) = false → (!(qZi4 t1)) = true, (!(qZhm t1)) = true → (!(qZhm t1)) = true, (!(qZhm t1)) = true → (!(qZhm t1)) = true, (qZhm t1) = false → (!(qZhm t1)) = true, (!(qZhs t1)) = true → (!(qZhs t1)) = true, (!(qZhs t1)) = true → (!(qZhs t1)) = true, (qZhs t1) = false → (!(qZhs t1)) = true] ((28, .bool (cond (qZhs t1) true (decide (40 < t1.Height)))) :: qZh2) ⟨(fun h => h), (fun h => h), (fun h => by first | exact h | (simpa using h) | grind), (fun h => h), (fun h => h), (fun h => by first | exact h | (simpa using h) | grind), (fun h => h), (fun h => h), (fun h => by first | exact h | (simpa using h) | grind), trivial⟩ ?_)))
  refine OpsW.nil (AW.cond (b := cond (qZhs t1) true (decide (40 < t1.Height))) rfl (fun c1 => ?_) (fun c1 => ?_))
  · replace H := condT c1 H
    refine AW.regionSeq (OpsW.sg 1 [29, 4] ((29, .agg qZho) :: qZhk) ?_)
    refine OpsW.store rfl rfl rfl rfl trivial trivial rfl rfl rfl (by kernel_rfl) (okCb_sound (by kernel_rfl)) (Nat.le_of_ble_eq_true (by kernel_rfl)) ?_
    change OpsW _ _ _ _ _ (qZhc t0 t1) _
    refine OpsW.sg 1 [5, 4] ((5, .int .i64 1) :: qZhk) ?_
    refine OpsW.recast (env' := ((5, .int .i64 1) :: qZhk)) (h' := qZhd) (StC.mk (phi [(4, some 4)]) (.o rfl (.i4 .nil) .nil) rfl (.cons .im (.cons (.r rfl) .nil))) ?_
    refine OpsW.nil ?_
    obtain rfl := Option.some.inj H
    refine AW.recast (env' := [qZi2, (5, .int .i64 1)]) (h' := qZhj) (StC.mk (phi [(4, some 4)]) (.o rfl (.i2 (.cons .nil (.cons .nil .nil))) .nil) rfl (.cons (.r rfl) (.cons .im .nil))) ?_
    refine AW.ret ?_
    try simp only [Ex.then, Ex.inBlock, Ex.noGoto, Ex.jump, reduceIte, Nat.reduceEqDiff, reduceCtorEq]
    refine Done.gen rfl (.cell rfl (by kernel_rfl) (.tmp .nil)) ?_
    show _ = _
    kernel_rfl
  replace H := condF c1 H
  refine AW.skip (AW.regionSeq (OpsW.sg 6 [35, 33, 31, 4, 3, 2] ((35, .int .i64 t1.Height) :: (33, .int .i64 t1.Width) :: (31, slA (eL (eI .u8)) t0.Front) :: qZh2) ?_))
  obtain ⟨x2, hx2, H⟩ := bindS H
  refine OpsW.qcall rfl (by kernel_rfl) rfl rfl (glAll_sound trivial) (.cons (.pur rfl) (.cons (.pur rfl) (.cons (.pur rfl) .nil))) (f_R25_Fits_ok hx2) rfl ?_
  refine OpsW.sg 1 [6, 4, 3, 2] ((6, .bool x2) :: qZh2) ?_
  refine OpsW.nil (AW.regionSeq (OpsW.sg 6 [42, 40, 38, 6, 4, 3, 2] ((42, .int .i64 t1.Height) :: (40, .int .i64 t1.Width) :: (38, slA (eL (eI .u8)) t0.Back) :: (6, .bool x2) :: qZh2) ?_))
  obtain ⟨x3, hx3, H⟩ := bindS H
  refine OpsW.qcall rfl (by kernel_rfl) rfl rfl (glAll_sound trivial) (.cons (.pur rfl) (.cons (.pur rfl) (.cons (.pur rfl) .nil))) (f_R25_Fits_ok hx3) rfl ?_
  refine OpsW.sg 1 [7, 6, 4, 3, 2] ((7, .bool x3) :: (6, .bool x2) :: qZh2) ?_
  refine OpsW.nil (AW.seq (AW.regionSeq (OpsW.sq 6 [49, 4, 3, 2] [(!(!x2)) = true → (!(!x2)) = true, (!x2) = false → (!(!x2)) = true] ((49, .bool (cond (!x2) true (!x3))) :: qZh2) ⟨(fun h => h), (fun h => by first | exact h | (simpa using h) | grind), trivial⟩ ?_)))
  refine OpsW.nil (AW.cond (b := cond (!x2) true (!x3)) rfl (fun c4 => ?_) (fun c4 => ?_))
  · replace H := condT c4 H
    refine AW.regionSeq (OpsW.sg 1 [50, 4] ((50, .agg qZho) :: qZhk) ?_)
    refine OpsW.store rfl rfl rfl rfl trivial trivial rfl rfl rfl (by kernel_rfl) (okCb_sound (by kernel_rfl)) (Nat.le_of_ble_eq_true (by kernel_rfl)) ?_
    change OpsW _ _ _ _ _ (qZhc t0 t1) _
    refine OpsW.sg 1 [5, 4] ((5, .int .i64 250) :: qZhk) ?_
    refine OpsW.recast (env' := ((5, .int .i64 250) :: qZhk)) (h' := qZhd) (StC.mk (phi [(4, some 4)]) (.o rfl (.i4 .nil) .nil) rfl (.cons .im (.cons (.r rfl) .nil))) ?_
    refine OpsW.nil ?_
    obtain rfl := Option.some.inj H
    refine AW.recast (env' := [qZi2, (5, .int .i64 250)]) (h' := qZhj) (StC.mk (phi [(4, some 4)]) (.o rfl (.i2 (.cons .nil (.cons .nil .nil))) .nil) rfl (.cons (.r rfl) (.cons .im .nil))) ?_
    refine AW.ret ?_
    try simp only [Ex.then, Ex.inBlock, Ex.noGoto, Ex.jump, reduceIte, Nat.reduceEqDiff, reduceCtorEq]
    refine Done.gen rfl (.cell rfl (by kernel_rfl) (.tmp .nil)) ?_
    show _ = _
    kernel_rfl
  replace H := condF c4 H
  refine AW.skip (AW.regionSeq ?_)
  obtain ⟨g5, H⟩ := G_some H
  obtain ⟨g6, H⟩ := G_some H
  refine OpsW.sq 6 [56, 53, 4, 2] [inR (2 * t1.Width), inR (3 * t1.Height)] (qZh5 t1) ⟨g5, g6, trivial⟩ ?_
  obtain ⟨x7, hx7, H⟩ := bindS H
  refine OpsW.call rfl rfl (by kernel_rfl) [] _ _ rfl (glAll_sound trivial) (.cons (.pur rfl) (.cons (.pur rfl) .nil)) (f_R25_Empty_own hx7) ?_
  rintro _ _ ⟨rfl, rfl⟩
  refine ⟨(fresh_F0 rfl rfl), .inl rfl, ?_⟩
  refine OpsW.heapEq (heap_mid0 rfl) ?_
  change OpsW _ _ _ _ ((57, .agg (qZi6 x7)) :: (qZh5 t1)) ((qZh8 t0 t1 x7) ++ fmsH [fmA 11500 4 1 eB x7.Up, fmA 11501 4 1 eB x7.Down]) _
  refine OpsW.recast (env' := (qZhg t1 x7)) (h' := ((qZhe t0 t1 x7) ++ fmsH (qZhw x7))) (StC.mkF (hc := (qZh8 t0 t1 x7)) (fs := [fmA 11500 4 1 eB x7.Up, fmA 11501 4 1 eB x7.Down]) (hc' := (qZhe t0 t1 x7)) (fs' := (qZhw x7)) rfl [(601, some 1500), (602, some 1501), (2, some 2), (3, some 3), (4, some 4)] [(10601, .same 11500), (10602, .same 11501)] rfl (.o rfl (nsSameA rfl rfl (by decide) rfl rfl rfl) (.o rfl (nsSameA rfl rfl (by decide) rfl rfl rfl) (.o rfl (.i4 .nil) (.o rfl (.i3 .nil) (.o rfl (.i4 .nil) .nil))))) rfl (.cons rfl (fmSame rfl) (.cons rfl (fmSame rfl) .nil)) (.cons (.agg (.i2 (.cons (.s rfl) (.cons (.s rfl) .nil)))) (.i2 (.cons (.r rfl) (.cons (.r rfl) .nil))))) ?_
  change OpsW _ _ _ _ (qZhg t1 x7) ((qZhe t0 t1 x7) ++ fmsH (qZhw x7)) _
  refine OpsW.alloc' rfl rfl rfl 8 (free_f rfl) (by kernel_rfl : zc Tryd.prog 47 = some [.int .i64 0, .int .i64 0, .slice none 0 0, .slice none 0 0]) (by kernel_rfl) ?_
  refine OpsW.store rfl rfl rfl rfl trivial trivial rfl rfl rfl (by kernel_rfl) (okCb_sound (by kernel_rfl)) (Nat.le_of_ble_eq_true (by kernel_rfl)) ?_
  change OpsW _ _ _ _ _ ((qZh4 t0 t1 x7) ++ fmsH (qZhw x7)) _
  refine OpsW.sg 0 [8, 4, 2] qZhi ?_
  refine OpsW.recast (env' := qZhi) (h' := ((qZgz t0 x7) ++ fmsH (qZi0 x7))) (StC.mkF (hc := (qZh4 t0 t1 x7)) (fs := (qZhw x7)) (hc' := (qZgz t0 x7)) (fs' := (qZi0 x7)) rfl [(2, some 2), (4, some 4), (8, some 8), (5080, some 601), (5081, some 602)] [(15080, .same 10601), (15081, .same 10602)] rfl (.o rfl (.i4 .nil) (.o rfl (.i4 .nil) (.o rfl (.i2 (.cons (.s rfl) (.cons (.s rfl) .nil))) (.o rfl (nsSameA rfl rfl (by decide) rfl rfl rfl) (.o rfl (nsSameA rfl rfl (by decide) rfl rfl rfl) .nil))))) rfl (.cons rfl (fmSame rfl) (.cons rfl (fmSame rfl) .nil)) (.cons (.r rfl) (.cons (.r rfl) (.cons (.r rfl) .nil)))) ?_
  refine OpsW.nil (AW.seq (AW.regionSeq (OpsW.sg 1 [9, 8, 4, 2] ((9, .int .i64 0) :: qZhi) ?_)))
  refine OpsW.nil (AW.block ?_)
  refine AW.iterK (fun loop (s : S_Leaf × S_Plate × S_Plate × Int) => f_R25_Press_b2 loop s.1 s.2.1 s.2.2.1 s.2.2.2) r (fun (s : S_Leaf × S_Plate × S_Plate × Int) => [qZia, qZi2, (8, .ref 8 0 0), (9, .int .i64 s.2.2.2)]) (fun (s : S_Leaf × S_Plate × S_Plate × Int) => ([(2, ⟨0, true, 39, 4, [.int .i64 s.1.Label.N, .int .i64 s.1.Label.K, slA (eL (eI .u8)) s.1.Front, slA (eL (eI .u8)) s.1.Back]⟩), (4, ⟨0, true, 47, 4, [.int .i64 s.2.1.W, .int .i64 s.2.1.H, slA (eL eB) s.2.1.Up, slA (eL eB) s.2.1.Down]⟩), (8, ⟨0, true, 47, 4, [.int .i64 s.2.2.1.W, .int .i64 s.2.2.1.H, .rsl 5080 0 0 s.2.2.1.Up.length, .rsl 5081 0 0 s.2.2.1.Down.length]⟩), (5080, nsA 0 61 15080 s.2.2.1.Up), (5081, nsA 0 61 15081 s.2.2.1.Down)] ++ fmsH [fmA 15080 4 1 eB s.2.2.1.Up, fmA 15081 4 1 eB s.2.2.1.Down])) ?_ 1000000 (t0, qZhy, x7, (0 : Int)) H (StC.mkF (hc := (qZgz t0 x7)) (fs := (qZi0 x7)) (hc' := [(2, ⟨0, true, 39, 4, (qZhq t0)⟩), (4, ⟨0, true, 47, 4, [.int .i64 qZhy.W, .int .i64 qZhy.H, slA (eL eB) qZhy.Up, slA (eL eB) qZhy.Down]⟩), (8, ⟨0, true, 47, 4, (qZi5 x7)⟩), (5080, nsA 0 61 15080 x7.Up), (5081, nsA 0 61 15081 x7.Down)]) (fs' := (qZi0 x7)) rfl [(2, some 2), (4, some 4), (8, some 8), (5080, some 5080), (5081, some 5081)] qZh6 rfl (.o rfl (.i4 .nil) (.o rfl (.i2 (.cons .nil (.cons .nil .nil))) (.o rfl (.i2 (.cons (.s rfl) (.cons (.s rfl) .nil))) (.o rfl (nsSameA rfl rfl (by decide) rfl rfl rfl) (.o rfl (nsSameA rfl rfl (by decide) rfl rfl rfl) .nil))))) rfl (.cons rfl (fmSame rfl) (.cons rfl (fmSame rfl) .nil)) (.cons (.r rfl) (.cons (.r rfl) (.cons (.r rfl) (.cons .im .nil)))))
  intro loop12 s H
  obtain ⟨v8, v9, v10, v11⟩ := s
  change f_R25_Press_b2 loop12 v8 v9 v10 v11 = some r at H
  unfold f_R25_Press_b2 at H
  change AW _ _ _ (qZh7 v11) ((qZgx v8 v9 v10) ++ fmsH (qZhu v10)) _
  refine AW.seq (AW.regionSeq (OpsW.sg 4 [61, 2, 4, 8, 9] ((61, .bool (decide (v11 < v10.H))) :: (qZh7 v11)) ?_))
  refine OpsW.nil (AW.cond (b := decide (v11 < v10.H)) rfl (fun c13 => ?_) (fun c13 => ?_))
  · replace H := condT c13 H
    refine AW.skip (AW.seq (AW.block (AW.regionSeq (OpsW.sg 1 [10, 2, 4, 8, 9] ((10, .int .i64 0) :: (qZh7 v11)) ?_))))
    refine OpsW.nil (AW.block ?_)
    refine AW.iterK (fun loop (s : S_Leaf × S_Plate × S_Plate × Int) => f_R25_Press_b1 loop12 v11 loop s.1 s.2.1 s.2.2.1 s.2.2.2) r (fun (s : S_Leaf × S_Plate × S_Plate × Int) => [qZia, qZi2, (8, .ref 8 0 0), (9, .int .i64 v11), (10, .int .i64 s.2.2.2)]) (fun (s : S_Leaf × S_Plate × S_Plate × Int) => ([(2, ⟨0, true, 39, 4, [.int .i64 s.1.Label.N, .int .i64 s.1.Label.K, slA (eL (eI .u8)) s.1.Front, slA (eL (eI .u8)) s.1.Back]⟩), (4, ⟨0, true, 47, 4, [.int .i64 s.2.1.W, .int .i64 s.2.1.H, slA (eL eB) s.2.1.Up, slA (eL eB) s.2.1.Down]⟩), (8, ⟨0, true, 47, 4, [.int .i64 s.2.2.1.W, .int .i64 s.2.2.1.H, .rsl 5080 0 0 s.2.2.1.Up.length, .rsl 5081 0 0 s.2.2.1.Down.length]⟩), (5080, nsA 0 61 15080 s.2.2.1.Up), (5081, nsA 0 61 15081 s.2.2.1.Down)] ++ fmsH [fmA 15080 4 1 eB s.2.2.1.Up, fmA 15081 4 1 eB s.2.2.1.Down])) ?_ 1000000 (v8, v9, v10, (0 : Int)) H (StC.mkF (hc := (qZgx v8 v9 v10)) (fs := (qZhu v10)) (hc' := (qZgx v8 v9 v10)) (fs' := (qZhu v10)) rfl [(2, some 2), (4, some 4), (8, some 8), (5080, some 5080), (5081, some 5081)] qZh6 rfl (.o rfl (.i4 .nil) (.o rfl (.i4 .nil) (.o rfl (.i2 (.cons (.s rfl) (.cons (.s rfl) .nil))) (.o rfl (nsSameA rfl rfl (by decide) rfl rfl rfl) (.o rfl (nsSameA rfl rfl (by decide) rfl rfl rfl) .nil))))) rfl (.cons rfl (fmSame rfl) (.cons rfl (fmSame rfl) .nil)) (.cons (.r rfl) (.cons (.r rfl) (.cons (.r rfl) (.i2 .nil)))))
    intro loop18 s H
    obtain ⟨v14, v15, v16, v17⟩ := s
    change f_R25_Press_b1 loop12 v11 loop18 v14 v15 v16 v17 = some r at H
    unfold f_R25_Press_b1 at H
    change AW _ _ _ (qZgy v11 v17) ((qZgw v14 v15 v16) ++ fmsH (qZhv v16)) _
    refine AW.seq (AW.regionSeq (OpsW.sg 4 [67, 2, 4, 8, 9, 10] ((67, .bool (decide (v17 < v16.W))) :: (qZgy v11 v17)) ?_))
    refine OpsW.nil (AW.cond (b := decide (v17 < v16.W)) rfl (fun c19 => ?_) (fun c19 => ?_))
    · replace H := condT c19 H
      refine AW.skip (AW.seq (AW.block (AW.drawTSeq 11 Tryd.checked.mixed (by kernel_rfl) ?_)))
      obtain ⟨g20, H⟩ := G_some H
      refine QOps.seg (N := 99) 4 [0 ≤ v11 ∧ v11 < (v16.Up.length : Int)] (qZh9 v11 v16 v17) (by kernel_rfl) ⟨g20, trivial⟩ ?_
      refine QOps.asU (.rsl (qZi9 v11) 0 0 ((v16.Up.getD v11.toNat []).length)) rfl (T.loadR rfl trivial (by kernel_rfl) rfl rfl rfl (ns_cell (ltN g20) (by first | omega | (simp only [qZi9]; omega)))) ?_
      refine QOps.seg (N := 99) 5 [] ((79, .int .i64 v11) :: (78, .int .i64 v17) :: (77, slA (eL (eI .u8)) v14.Front) :: (76, .ref 2 0 2) :: (75, .int .i64 v17) :: (74, .rsl (qZi9 v11) 0 0 ((v16.Up.getD v11.toNat []).length)) :: (qZh9 v11 v16 v17)) (by kernel_rfl) trivial ?_
      obtain ⟨x21, hx21, H⟩ := bindS H
      refine QOps.qcall rfl (by kernel_rfl) rfl (glAll_sound trivial) (.cons (.pur rfl) (.cons (.pur rfl) (.cons (.pur rfl) .nil))) (f_R25_raised_ok hx21) rfl ?_
      refine QOps.nil (OpsW.sg 0 [80, 75, 74, 2, 4, 8, 9, 10] (qZh3 v11 v16 v17 x21) ?_)
      obtain ⟨g22, H⟩ := G_some H
      change OpsW _ _ _ _ (qZh3 v11 v16 v17 x21) ((qZgw v14 v15 v16) ++ fmsH (qZhv v16)) _
      refine OpsW.asU (.ref (qZi9 v11) 0 (0 + v17.toNat * 1)) rfl rfl (T.idxF rfl rfl trivial trivial (by kernel_rfl) (by kernel_rfl) (row_f rfl rfl (ltN g20)) rfl rfl g22) ?_
      change OpsW _ _ _ _ ((81, .ref (qZi9 v11) 0 (0 + v17.toNat * 1)) :: (qZh3 v11 v16 v17 x21)) ((qZgw v14 v15 v16) ++ fmsH (qZhv v16)) _
      refine OpsW.storeN (enc := eB) (k := 1) (xs := v16.Up) (hc' := (qZgu v11 v14 v15 v16 v17 x21)) false x21 [.val (.bool x21)] v11.toNat v17.toNat 0 rfl rfl rfl (by first | rfl | exact congrArg (AV.ref (qZi9 v11) 0) (by first | omega | (simp only [qZhv, qZhz, qZi9]; omega))) trivial trivial rfl rfl (fun _ => rfl) rfl (by kernel_rfl) (okCb_sound (by kernel_rfl)) (ltN g20) (ltN g22) (Nat.le_of_ble_eq_true (by kernel_rfl)) rfl (by simp only [List.length_set, nsA_set, qZhr, qZht, qZhv, qZhz, qZi2, qZi9, qZia, qZgu, qZgw, qZgy, qZh3]) ?_
      change OpsW _ _ _ _ ((81, .ref (qZi9 v11) 0 (0 + v17.toNat * 1)) :: (qZh3 v11 v16 v17 x21)) ((qZgu v11 v14 v15 v16 v17 x21) ++ fmsH (qZhp v11 v16 v17 x21)) _
      refine OpsW.sg 0 [2, 4, 8, 9, 10] (qZgy v11 v17) ?_
      refine OpsW.recast (env' := (qZgy v11 v17)) (h' := ((qZgu v11 v14 v15 v16 v17 x21) ++ fmsH (qZhp v11 v16 v17 x21))) (StC.mkF (hc := (qZgu v11 v14 v15 v16 v17 x21)) (fs := (qZhp v11 v16 v17 x21)) (hc' := (qZgu v11 v14 v15 v16 v17 x21)) (fs' := (qZhp v11 v16 v17 x21)) rfl [(2, some 2), (4, some 4), (8, some 8), (5080, some 5080), (5081, some 5081)] qZh6 rfl (.o rfl (.i4 .nil) (.o rfl (.i4 .nil) (.o rfl (.i2 (.cons (.s rfl) (.cons (.s rfl) .nil))) (.o rfl (nsSameA rfl rfl (by decide) rfl rfl rfl) (.o rfl (nsSameA rfl rfl (by decide) rfl rfl rfl) .nil))))) rfl (.cons rfl (fmSame rfl) (.cons rfl (fmSame rfl) .nil)) (.cons (.r rfl) (.cons (.r rfl) (.cons (.r rfl) (.i2 .nil))))) ?_
      refine OpsW.nil (AW.drawT 15 Tryd.checked.mixed (by kernel_rfl) ?_)
      obtain ⟨g23, H⟩ := G_some H
      refine QOps.seg (N := 99) 4 [0 ≤ v11 ∧ v11 < (v16.Down.length : Int)] (qZhf v11 v16 v17) (by kernel_rfl) ⟨g23, trivial⟩ ?_
      refine QOps.asU (.rsl (qZi8 v11) 0 0 ((v16.Down.getD v11.toNat []).length)) rfl (T.loadR rfl trivial (by kernel_rfl) rfl rfl rfl (ns_cell (ltN g23) (by first | omega | (simp only [qZhp, qZhz, qZi8]; omega)))) ?_
      obtain ⟨g24, H⟩ := G_some H
      obtain ⟨g25, H⟩ := G_some H
      refine QOps.seg (N := 99) 9 [inR (v16.W - 1), inR ((v16.W - 1) - v17)] ((95, .int .i64 v11) :: (94, .int .i64 v17) :: (93, slA (eL (eI .u8)) v14.Back) :: (92, .ref 2 0 3) :: (91, .int .i64 ((v16.W - 1) - v17)) :: (90, .int .i64 v17) :: (89, .int .i64 (v16.W - 1)) :: (88, .int .i64 v16.W) :: (87, .ref 8 0 0) :: (86, .rsl (qZi8 v11) 0 0 ((v16.Down.getD v11.toNat []).length)) :: (qZhf v11 v16 v17)) (by kernel_rfl) ⟨g24, g25, trivial⟩ ?_
      obtain ⟨x26, hx26, H⟩ := bindS H
      refine QOps.qcall rfl (by kernel_rfl) rfl (glAll_sound trivial) (.cons (.pur rfl) (.cons (.pur rfl) (.cons (.pur rfl) .nil))) (f_R25_raised_ok hx26) rfl ?_
      refine QOps.nil (OpsW.sg 0 [96, 91, 86, 2, 4, 8, 9, 10] (qZh0 v11 v16 v17 x26) ?_)
      obtain ⟨g27, H⟩ := G_some H
      change OpsW _ _ _ _ (qZh0 v11 v16 v17 x26) ((qZgu v11 v14 v15 v16 v17 x21) ++ fmsH (qZhp v11 v16 v17 x21)) _
      refine OpsW.asU (.ref (qZi8 v11) 0 (0 + ((v16.W - 1) - v17).toNat * 1)) rfl rfl (T.idxF rfl rfl trivial trivial (by kernel_rfl) (by kernel_rfl) (row_f rfl rfl (ltN g23)) rfl rfl g27) ?_
      change OpsW _ _ _ _ ((97, .ref (qZi8 v11) 0 (0 + ((v16.W - 1) - v17).toNat * 1)) :: (qZh0 v11 v16 v17 x26)) ((qZgu v11 v14 v15 v16 v17 x21) ++ fmsH (qZhp v11 v16 v17 x21)) _
      refine OpsW.storeN (enc := eB) (k := 1) (xs := v16.Down) (hc' := (qZgt v11 v14 v15 v16 v17 x21 x26)) false x26 [.val (.bool x26)] v11.toNat ((v16.W - 1) - v17).toNat 0 rfl rfl rfl (by first | rfl | exact congrArg (AV.ref (qZi8 v11) 0) (by first | omega | (simp only [qZhp, qZhz, qZi8, qZib]; omega))) trivial trivial rfl rfl (fun _ => rfl) rfl (by kernel_rfl) (okCb_sound (by kernel_rfl)) (ltN g23) (ltN g27) (Nat.le_of_ble_eq_true (by kernel_rfl)) rfl (by simp only [List.length_set, nsA_set, qZhp, qZhr, qZht, qZhz, qZi2, qZi8, qZia, qZib, qZgt, qZgu, qZgy, qZh0]) ?_
      change OpsW _ _ _ _ ((97, .ref (qZi8 v11) 0 (0 + ((v16.W - 1) - v17).toNat * 1)) :: (qZh0 v11 v16 v17 x26)) ((qZgt v11 v14 v15 v16 v17 x21 x26) ++ fmsH (qZhn v11 v16 v17 x21 x26)) _
      refine OpsW.sg 0 [2, 4, 8, 9, 10] (qZgy v11 v17) ?_
      refine OpsW.recast (env' := (qZgy v11 v17)) (h' := ((qZgt v11 v14 v15 v16 v17 x21 x26) ++ fmsH (qZhn v11 v16 v17 x21 x26))) (StC.mkF (hc := (qZgt v11 v14 v15 v16 v17 x21 x26)) (fs := (qZhn v11 v16 v17 x21 x26)) (hc' := (qZgt v11 v14 v15 v16 v17 x21 x26)) (fs' := (qZhn v11 v16 v17 x21 x26)) rfl [(2, some 2), (4, some 4), (8, some 8), (5080, some 5080), (5081, some 5081)] qZh6 rfl (.o rfl (.i4 .nil) (.o rfl (.i4 .nil) (.o rfl (.i2 (.cons (.s rfl) (.cons (.s rfl) .nil))) (.o rfl (nsSameA rfl rfl (by decide) rfl rfl rfl) (.o rfl (nsSameA rfl rfl (by decide) rfl rfl rfl) .nil))))) rfl (.cons rfl (fmSame rfl) (.cons rfl (fmSame rfl) .nil)) (.cons (.r rfl) (.cons (.r rfl) (.cons (.r rfl) (.i2 .nil))))) ?_
      refine OpsW.nil (AW.region ?_)
      obtain ⟨g28, H⟩ := G_some H
      refine OpsW.sq 3 [10, 2, 4, 8, 9] [inR (v17 + 1)] ((10, .int .i64 (v17 + 1)) :: (qZh7 v11)) ⟨g28, trivial⟩ ?_
      refine OpsW.nil ?_
      show ∃ y, _ ∧ StC _ _ _ _
      exact ⟨(v14, v15, (qZhl v11 v16 v17 x21 x26), v17 + 1), H, (StC.mkF (hc := (qZgt v11 v14 v15 v16 v17 x21 x26)) (fs := (qZhn v11 v16 v17 x21 x26)) (hc' := [(2, ⟨0, true, 39, 4, (qZhr v14)⟩), (4, ⟨0, true, 47, 4, (qZht v15)⟩), (8, ⟨0, true, 47, 4, [.int .i64 (qZhl v11 v16 v17 x21 x26).W, .int .i64 (qZhl v11 v16 v17 x21 x26).H, .rsl 5080 0 0 (qZhl v11 v16 v17 x21 x26).Up.length, .rsl 5081 0 0 (qZhl v11 v16 v17 x21 x26).Down.length]⟩), (5080, nsA 0 61 15080 (qZhl v11 v16 v17 x21 x26).Up), (5081, nsA 0 61 15081 (qZhl v11 v16 v17 x21 x26).Down)]) (fs' := [fmA 15080 4 1 eB (qZhl v11 v16 v17 x21 x26).Up, fmA 15081 4 1 eB (qZhl v11 v16 v17 x21 x26).Down]) rfl [(2, some 2), (4, some 4), (8, some 8), (5080, some 5080), (5081, some 5081)] qZh6 rfl (.o rfl (.i4 .nil) (.o rfl (.i4 .nil) (.o rfl (.i2 (.cons (.s rfl) (.cons (.s rfl) .nil))) (.o rfl (nsSameA rfl rfl (by decide) rfl rfl rfl) (.o rfl (nsSameA rfl rfl (by decide) rfl rfl rfl) .nil))))) rfl (.cons rfl (fmSame rfl) (.cons rfl (fmSame rfl) .nil)) (.cons (.r rfl) (.cons (.r rfl) (.cons (.r rfl) (.i2 .nil)))))⟩
    replace H := condF c19 H
    refine AW.exit ?_
    refine AW.region ?_
    obtain ⟨g29, H⟩ := G_some H
    refine OpsW.sq 3 [9, 2, 4, 8] [inR (v11 + 1)] [(9, .int .i64 (v11 + 1)), qZia, qZi2, (8, .ref 8 0 0)] ⟨g29, trivial⟩ ?_
    refine OpsW.nil ?_
    show ∃ y, _ ∧ StC _ _ _ _
    exact ⟨(v14, v15, v16, v11 + 1), H, (StC.mkF (hc := (qZgw v14 v15 v16)) (fs := (qZhv v16)) (hc' := (qZgw v14 v15 v16)) (fs' := (qZhv v16)) rfl [(2, some 2), (4, some 4), (8, some 8), (5080, some 5080), (5081, some 5081)] qZh6 rfl (.o rfl (.i4 .nil) (.o rfl (.i4 .nil) (.o rfl (.i2 (.cons (.s rfl) (.cons (.s rfl) .nil))) (.o rfl (nsSameA rfl rfl (by decide) rfl rfl rfl) (.o rfl (nsSameA rfl rfl (by decide) rfl rfl rfl) .nil))))) rfl (.cons rfl (fmSame rfl) (.cons rfl (fmSame rfl) .nil)) (.cons (.r rfl) (.cons (.r rfl) (.cons (.r rfl) (.cons .im .nil)))))⟩
  replace H := condF c13 H
  refine AW.exit ?_
  refine AW.regionSeq (OpsW.sg 1 [98, 4] ((98, .agg (qZhx v10)) :: qZhk) ?_)
  refine OpsW.store rfl rfl rfl rfl trivial trivial rfl rfl rfl (by kernel_rfl) (okCb_sound (by kernel_rfl)) (Nat.le_of_ble_eq_true (by kernel_rfl)) ?_
  change OpsW _ _ _ _ _ ((qZhb v8 v9 v10) ++ fmsH (qZhu v10)) _
  refine OpsW.sg 1 [5, 4] ((5, .int .i64 0) :: qZhk) ?_
  refine OpsW.recast (env' := ((5, .int .i64 0) :: qZhk)) (h' := ((qZh1 v10) ++ fmsH (qZi3 v10))) (StC.mkF (hc := (qZhb v8 v9 v10)) (fs := (qZhu v10)) (hc' := (qZh1 v10)) (fs' := (qZi3 v10)) rfl [(4, some 4), (5040, some 5080), (5041, some 5081)] [(15040, .same 15080), (15041, .same 15081)] rfl (.o rfl (.i2 (.cons (.s rfl) (.cons (.s rfl) .nil))) (.o rfl (nsSameA rfl rfl (by decide) rfl rfl rfl) (.o rfl (nsSameA rfl rfl (by decide) rfl rfl rfl) .nil))) rfl (.cons rfl (fmSame rfl) (.cons rfl (fmSame rfl) .nil)) (.cons .im (.cons (.r rfl) .nil))) ?_
  refine OpsW.nil ?_
  obtain rfl := Option.some.inj H
  refine AW.recast (env' := [qZi2, (5, .int .i64 0)]) (h' := (qZhh v10)) (StC.mkF (hc := (qZh1 v10)) (fs := (qZi3 v10)) (hc' := (qZhh v10)) (fs' := []) rfl [(4, some 4)] [] rfl (.o rfl (.i2 (.cons (Cst.frzN rfl rfl (fun _ => rfl) rfl rfl rfl) (.cons (Cst.frzN rfl rfl (fun _ => rfl) rfl rfl rfl) .nil))) .nil) rfl .nil (.cons (.r rfl) (.cons .im .nil))) ?_
  refine AW.ret ?_
  try simp only [Ex.then, Ex.inBlock, Ex.noGoto, Ex.jump, reduceIte, Nat.reduceEqDiff, reduceCtorEq]
  refine Done.gen rfl (.cell rfl (by kernel_rfl) (.tmp .nil)) ?_
  show _ = _
  kernel_rfl
end Go.Proofs.YtbcfmhoaocifoaaDoor
