/-
 Written by gen.py (own work): typed functions, and that the program computes them.
-/
import Derived.Test.YtbcfmhoaocifoaaDoorW6
set_option linter.unusedSimpArgs false
set_option linter.unusedVariables false
set_option maxRecDepth 100000
namespace Go.Proofs.YtbcfmhoaocifoaaDoor
open Go.Abs
section
variable (t0 : S_Raw) (t1 : List Int) (t2 : Bool) (v7 : List Int) (v8 : S_Format) (v9 : S_Leaf) (v10 : S_Leaf) (v11 : List S_Leaf) (v12 : Int) (v18 : List S_Leaf) (v19 : Int) (x1 : Bool) (x2 : S_Format) (x5 : S_Leaf) (x6 : S_Leaf) (x24 : (S_Plate × Int)) (x25 : (S_Plate × Int))
end
def f_R25_rows_b1 (t0 : List (List Bool)) (t1 : Int) (t2 : Int) (loop3 : (Int) → Option Bool) (v2 : Int) : Option Bool :=
 cond (decide (v2 < t2)) (
  G (0 ≤ v2 ∧ v2 < (t0.length : Int)) <|
  cond (((t0.getD v2.toNat []).length : Int) != t1) (
   some false) (
   G (inR (v2 + 1)) <|
   loop3 (v2 + 1))) (
  some true)
def f_R25_rows (t0 : List (List Bool)) (t1 : Int) (t2 : Int) : Option Bool :=
 cond ((t0.length : Int) != t2) (
  some false) (
  iter (fun loop (s : Int) => f_R25_rows_b1 t0 t1 t2 loop s) 1000000 (0 : Int))
section
variable (t0 : List (List Bool)) (t1 : Int) (t2 : Int) (v2 : Int)
abbrev qZka : Env := [(0, slA (eL eB) t0), (1, .int .i64 t1), (2, .int .i64 t2), (7, .int .i64 v2)]
abbrev qZkb : Env := [(0, slA (eL eB) t0), (1, .int .i64 t1), (2, .int .i64 t2)]
end
theorem f_R25_rows_ok  {t0 : List (List Bool)} {t1 : Int} {t2 : Int} {r : Bool} (H : f_R25_rows t0 t1 t2 = some r) : QSpec Tryd.prog 37 [slA (eL eB) t0, .int .i64 t1, .int .i64 t2] (.bool r) := by
 refine Spec.of_AW Tryd.func37 rfl (by simp [Tryd.ntmps37]) ?_
 rw [Tryd.ntmps37]
 unfold f_R25_rows at H
 change AW _ _ _ (qZkb t0 t1 t2) [] _
 refine AW.regionSeq (OpsW.sg 1 [0, 1, 2] (qZkb t0 t1 t2) ?_)
 refine OpsW.nil (AW.seq (AW.regionSeq (OpsW.sg 4 [11, 0, 1, 2] ((11, .bool ((t0.length : Int) != t2)) :: (qZkb t0 t1 t2)) ?_)))
 refine OpsW.nil (AW.cond (b := (t0.length : Int) != t2) rfl (fun c1 => ?_) (fun c1 => ?_))
 ·replace H := condT c1 H
  refine AW.regionSeq (OpsW.sg 1 [6] [(6, .bool false)] ?_)
  refine OpsW.nil ?_
  obtain rfl := Option.some.inj H
  refine AW.recast (env' := [(6, .bool false)]) (h' := []) (StC.pure (.cons .im .nil)) ?_
  refine AW.ret ?_
  try simp only [Ex.then, Ex.inBlock, Ex.noGoto, Ex.jump, reduceIte, Nat.reduceEqDiff, reduceCtorEq]
  refine Done.gen rfl (.tmp .nil) ?_
  show _ = _
  kernel_rfl
 replace H := condF c1 H
 refine AW.skip (AW.seq (AW.regionSeq (OpsW.sg 1 [7, 0, 1, 2] ((7, .int .i64 0) :: (qZkb t0 t1 t2)) ?_)))
 refine OpsW.nil (AW.block ?_)
 refine AW.iterK (fun loop (s : Int) => f_R25_rows_b1 t0 t1 t2 loop s) r (fun (s : Int) => [(0, slA (eL eB) t0), (1, .int .i64 t1), (2, .int .i64 t2), (7, .int .i64 s)]) (fun (s : Int) => []) ?_ 1000000 (0 : Int) H (StC.pure (.i4 .nil))
 intro loop3 v2 H
 change f_R25_rows_b1 t0 t1 t2 loop3 v2 = some r at H
 unfold f_R25_rows_b1 at H
 change AW _ _ _ (qZka t0 t1 t2 v2) [] _
 refine AW.seq (AW.regionSeq (OpsW.sg 3 [14, 0, 1, 2, 7] ((14, .bool (decide (v2 < t2))) :: (qZka t0 t1 t2 v2)) ?_))
 refine OpsW.nil (AW.cond (b := decide (v2 < t2)) rfl (fun c4 => ?_) (fun c4 => ?_))
 ·replace H := condT c4 H
  refine AW.skip (AW.seq (AW.block (AW.regionSeq ?_)))
  obtain ⟨g5, H⟩ := G_some H
  refine OpsW.sq 3 [19, 0, 1, 2, 7] [0 ≤ v2 ∧ v2 < (t0.length : Int)] ((19, .ipt (t0.flatMap (eL eB)) (v2.toNat * 1)) :: (qZka t0 t1 t2 v2)) ⟨g5, trivial⟩ ?_
  refine OpsW.asU (slA eB (t0.getD v2.toNat [])) rfl rfl (T.load rfl trivial (by kernel_rfl) (fm_cell0 (eL eB) 1 (fun _ => rfl) t0 [] v2.toNat (ltN g5) (fun a => .sl (a.flatMap eB) a.length) (fun _ => rfl))) ?_
  refine OpsW.sg 3 [23, 0, 1, 2, 7] ((23, .bool (((t0.getD v2.toNat []).length : Int) != t1)) :: (qZka t0 t1 t2 v2)) ?_
  refine OpsW.nil (AW.cond (b := ((t0.getD v2.toNat []).length : Int) != t1) rfl (fun c6 => ?_) (fun c6 => ?_))
  ·replace H := condT c6 H
   refine AW.regionSeq (OpsW.sg 1 [6] [(6, .bool false)] ?_)
   refine OpsW.nil ?_
   obtain rfl := Option.some.inj H
   refine AW.recast (env' := [(6, .bool false)]) (h' := []) (StC.pure (.cons .im .nil)) ?_
   refine AW.ret ?_
   try simp only [Ex.then, Ex.inBlock, Ex.noGoto, Ex.jump, reduceIte, Nat.reduceEqDiff, reduceCtorEq]
   refine Done.gen rfl (.tmp .nil) ?_
   show _ = _
   kernel_rfl
  replace H := condF c6 H
  refine AW.skip (AW.region ?_)
  obtain ⟨g7, H⟩ := G_some H
  refine OpsW.sq 3 [7, 0, 1, 2] [inR (v2 + 1)] ((7, .int .i64 (v2 + 1)) :: (qZkb t0 t1 t2)) ⟨g7, trivial⟩ ?_
  refine OpsW.nil ?_
  show ∃ y, _ ∧ StC _ _ _ _
  exact ⟨v2 + 1, H, (StC.pure (.i4 .nil))⟩
 replace H := condF c4 H
 refine AW.exit ?_
 refine AW.regionSeq (OpsW.sg 1 [6] [(6, .bool true)] ?_)
 refine OpsW.nil ?_
 obtain rfl := Option.some.inj H
 refine AW.recast (env' := [(6, .bool true)]) (h' := []) (StC.pure (.cons .im .nil)) ?_
 refine AW.ret ?_
 try simp only [Ex.then, Ex.inBlock, Ex.noGoto, Ex.jump, reduceIte, Nat.reduceEqDiff, reduceCtorEq]
 refine Done.gen rfl (.tmp .nil) ?_
 show _ = _
 kernel_rfl
def f_R25_Valid (t0 : S_Plate) : Option Bool :=
 G ((!((Int.tmod t0.W (2 : Int)) != 0)) = true → inR (Int.tdiv t0.W (2 : Int))) <|
 G ((!(cond ((Int.tmod t0.W (2 : Int)) != 0) true (decide ((Int.tdiv t0.W (2 : Int)) < 24)))) = true → inR (Int.tdiv t0.W (2 : Int))) <|
 G ((!(cond (cond (cond ((Int.tmod t0.W (2 : Int)) != 0) true (decide ((Int.tdiv t0.W (2 : Int)) < 24))) true (decide ((60 : Int) < (Int.tdiv t0.W (2 : Int))))) true ((Int.tmod t0.H (3 : Int)) != 0))) = true → inR (Int.tdiv t0.H (3 : Int))) <|
 G ((!(cond (cond (cond (cond ((Int.tmod t0.W (2 : Int)) != 0) true (decide ((Int.tdiv t0.W (2 : Int)) < 24))) true (decide ((60 : Int) < (Int.tdiv t0.W (2 : Int))))) true ((Int.tmod t0.H (3 : Int)) != 0)) true (decide ((Int.tdiv t0.H (3 : Int)) < 4)))) = true → inR (Int.tdiv t0.H (3 : Int))) <|
 cond (cond (cond (cond (cond (cond ((Int.tmod t0.W (2 : Int)) != 0) true (decide ((Int.tdiv t0.W (2 : Int)) < 24))) true (decide ((60 : Int) < (Int.tdiv t0.W (2 : Int))))) true ((Int.tmod t0.H (3 : Int)) != 0)) true (decide ((Int.tdiv t0.H (3 : Int)) < 4))) true (decide ((40 : Int) < (Int.tdiv t0.H (3 : Int))))) (
  some false) (
  (f_R25_rows t0.Up t0.W t0.H).bind fun x6 =>
  (cond x6 (f_R25_rows t0.Down t0.W t0.H) (some false)).bind fun x7 =>
  some (cond x6 x7 false))
section
variable (t0 : S_Plate)
abbrev qZkd := (cond (cond ((Int.tmod t0.W (2 : Int)) != 0) true (decide ((Int.tdiv t0.W (2 : Int)) < 24))) true (decide ((60 : Int) < (Int.tdiv t0.W (2 : Int)))))
abbrev qZke := (cond (cond (qZkd t0) true ((Int.tmod t0.H (3 : Int)) != 0)) true (decide ((Int.tdiv t0.H (3 : Int)) < 4)))
abbrev qZkf := (cond ((Int.tmod t0.W (2 : Int)) != 0) true (decide ((Int.tdiv t0.W (2 : Int)) < 24)))
abbrev qZkg := (cond (qZkd t0) true ((Int.tmod t0.H (3 : Int)) != 0))
abbrev qZkh := (!((Int.tmod t0.W (2 : Int)) != 0))
abbrev qZki : List AV := [.int .i64 t0.W, .int .i64 t0.H, slA (eL eB) t0.Up, slA (eL eB) t0.Down]
abbrev qZkc : Hp := [(1, ⟨0, true, 47, 4, (qZki t0)⟩)]
end
theorem f_R25_Valid_ok  {t0 : S_Plate} {r : Bool} (H : f_R25_Valid t0 = some r) : QSpec Tryd.prog 15 [.agg [.int .i64 t0.W, .int .i64 t0.H, slA (eL eB) t0.Up, slA (eL eB) t0.Down]] (.bool r) := by
 refine Spec.of_AW Tryd.func15 rfl (by simp [Tryd.ntmps15]) ?_
 rw [Tryd.ntmps15]
 unfold f_R25_Valid at H
 change AW _ _ _ [(0, .agg (qZki t0))] [] _
 refine AW.regionSeq (OpsW.box rfl rfl rfl 1 rfl (okCb_sound (by kernel_rfl)) ?_)
 change OpsW _ _ _ _ _ (qZkc t0) _
 refine OpsW.sg 1 [1] [(1, .ref 1 0 0)] ?_
 refine OpsW.recast (env' := [(1, .ref 1 0 0)]) (h' := (qZkc t0)) (StC.mk (phi [(1, some 1)]) (.o rfl (.i4 .nil) .nil) rfl (.cons (.r rfl) .nil)) ?_
 refine OpsW.nil (AW.seq (AW.regionSeq ?_))
 obtain ⟨g1, H⟩ := G_some H
 obtain ⟨g2, H⟩ := G_some H
 obtain ⟨g3, H⟩ := G_some H
 obtain ⟨g4, H⟩ := G_some H
 refine OpsW.sq 34 [36, 1] [(2 : Int) ≠ 0, (qZkh t0) = true → (qZkh t0) = true, (qZkh t0) = true → (qZkh t0) = true, (qZkh t0) = true → (2 : Int) ≠ 0, (qZkh t0) = true → inR (Int.tdiv t0.W (2 : Int)), (qZkh t0) = true → (qZkh t0) = true, ((Int.tmod t0.W (2 : Int)) != 0) = false → (qZkh t0) = true, (!(qZkf t0)) = true → (!(qZkf t0)) = true, (!(qZkf t0)) = true → (!(qZkf t0)) = true, (!(qZkf t0)) = true → (2 : Int) ≠ 0, (!(qZkf t0)) = true → inR (Int.tdiv t0.W (2 : Int)), (!(qZkf t0)) = true → (!(qZkf t0)) = true, (qZkf t0) = false → (!(qZkf t0)) = true, (!(qZkd t0)) = true → (!(qZkd t0)) = true, (!(qZkd t0)) = true → (!(qZkd t0)) = true, (!(qZkd t0)) = true → (3 : Int) ≠ 0, (!(qZkd t0)) = true → (!(qZkd t0)) = true, (qZkd t0) = false → (!(qZkd t0)) = true, (!(qZkg t0)) = true → (!(qZkg t0)) = true, (!(qZkg t0)) = true → (!(qZkg t0)) = true, (!(qZkg t0)) = true → (3 : Int) ≠ 0, (!(qZkg t0)) = true → inR (Int.tdiv t0.H (3 : Int)), (!(qZkg t0)) = true → (!(qZkg t0)) = true, (qZkg t0) = false → (!(qZkg t0)) = true, (!(qZke t0)) = true → (!(qZke t0)) = true, (!(qZke t0)) = true → (!(qZke t0)) = true, (!(qZke t0)) = true → (3 : Int) ≠ 0, (!(qZke t0)) = true → inR (Int.tdiv t0.H (3 : Int)), (!(qZke t0)) = true → (!(qZke t0)) = true, (qZke t0) = false → (!(qZke t0)) = true] [(36, .bool (cond (qZke t0) true (decide ((40 : Int) < (Int.tdiv t0.H (3 : Int)))))), (1, .ref 1 0 0)] ⟨(by decide), (fun h => h), (fun h => h), (fun _ => by decide), g1, (fun h => h), (fun h => by first | exact h | (simpa using h) | grind), (fun h => h), (fun h => h), (fun _ => by decide), g2, (fun h => h), (fun h => by first | exact h | (simpa using h) | grind), (fun h => h), (fun h => h), (fun _ => by decide), (fun h => h), (fun h => by first | exact h | (simpa using h) | grind), (fun h => h), (fun h => h), (fun _ => by decide), g3, (fun h => h), (fun h => by first | exact h | (simpa using h) | grind), (fun h => h), (fun h => h), (fun _ => by decide), g4, (fun h => h), (fun h => by first | exact h | (simpa using h) | grind), trivial⟩ ?_
 refine OpsW.nil (AW.cond (b := cond (qZke t0) true (decide ((40 : Int) < (Int.tdiv t0.H (3 : Int))))) rfl (fun c5 => ?_) (fun c5 => ?_))
 ·replace H := condT c5 H
  refine AW.regionSeq (OpsW.sg 1 [2] [(2, .bool false)] ?_)
  refine OpsW.nil ?_
  obtain rfl := Option.some.inj H
  refine AW.recast (env' := [(2, .bool false)]) (h' := []) (StC.pure (.cons .im .nil)) ?_
  refine AW.ret ?_
  try simp only [Ex.then, Ex.inBlock, Ex.noGoto, Ex.jump, reduceIte, Nat.reduceEqDiff, reduceCtorEq]
  refine Done.gen rfl (.tmp .nil) ?_
  show _ = _
  kernel_rfl
 replace H := condF c5 H
 refine AW.skip (AW.regionSeq (OpsW.sg 6 [42, 40, 38, 1] [(42, .int .i64 t0.H), (40, .int .i64 t0.W), (38, slA (eL eB) t0.Up), (1, .ref 1 0 0)] ?_))
 obtain ⟨x6, hx6, H⟩ := bindS H
 refine OpsW.qcall rfl (by kernel_rfl) rfl rfl (glAll_sound trivial) (.cons (.pur rfl) (.cons (.pur rfl) (.cons (.pur rfl) .nil))) (f_R25_rows_ok hx6) rfl ?_
 refine OpsW.sq 7 [50, 48, 46, 44] [x6 = true → x6 = true, x6 = true → x6 = true, x6 = true → x6 = true] [(50, .cnd x6 (.int .i64 t0.H)), (48, .cnd x6 (.int .i64 t0.W)), (46, .cnd x6 (slA (eL eB) t0.Down)), (44, .bool x6)] ⟨(fun h => h), (fun h => h), (fun h => h), trivial⟩ ?_
 obtain ⟨x7, hx7, H⟩ := bindS H
 refine OpsW.gcall (c := x6) (r := .bool x7) [] rfl (by kernel_rfl) rfl rfl rfl rfl (fun hc => ⟨glAll_sound ⟨hc, hc, hc, trivial⟩, (.cons (.pur rfl) (.cons (.pur rfl) (.cons (.pur rfl) .nil))), f_R25_rows_ok (condT hc hx7), .inl ⟨rfl, rfl⟩⟩) ?_
 refine OpsW.sq 2 [2] [x6 = true → x6 = true] [(2, .bool (cond x6 x7 false))] ⟨(fun h => by first | exact h | (simpa using h) | grind), trivial⟩ ?_
 refine OpsW.nil ?_
 obtain rfl := Option.some.inj H
 refine AW.recast (env' := [(2, .bool (cond x6 x7 false))]) (h' := []) (StC.pure (.cons .im .nil)) ?_
 refine AW.ret ?_
 try simp only [Ex.then, Ex.inBlock, Ex.noGoto, Ex.jump, reduceIte, Nat.reduceEqDiff, reduceCtorEq]
 refine Done.gen rfl (.tmp .nil) ?_
 show _ = _
 kernel_rfl
section
variable (t0 : S_Raw) (x1 : Bool) (x2 : S_Format) (x3 : S_Leaf) (x4 : (S_Plate × Int)) (x5 : Bool) (x9 : Bool) (x10 : (List (List Int))) (x11 : Bool) (x12 : (List (List Int)))
end
end Go.Proofs.YtbcfmhoaocifoaaDoor
