/-
 Written by gen.py (own work): typed functions, and that the program computes them.
-/
import Derived.Test.YtbcfmhoaocifoaaDoorW4
set_option linter.unusedSimpArgs false
set_option linter.unusedVariables false
set_option maxRecDepth 100000
namespace Go.Proofs.YtbcfmhoaocifoaaDoor
open Go.Abs
def f_slices_EqualFunc__bool_fn58_b1 (t0 : List (List Bool)) (t1 : List (List Bool)) (loop3 : (Int) → Option Bool) (v2 : Int) : Option Bool :=
 cond (decide (v2 < (t0.length : Int))) (
  G (0 ≤ v2 ∧ v2 < (t0.length : Int)) <|
  G (0 ≤ v2 ∧ v2 < (t1.length : Int)) <|
  (f_sheet_sameDots_1 (t0.getD v2.toNat []) (t1.getD v2.toNat [])).bind fun x7 =>
  cond (!x7) (
   some false) (
   G (inR (v2 + 1)) <|
   loop3 (v2 + 1))) (
  some true)
def f_slices_EqualFunc__bool_fn58 (t0 : List (List Bool)) (t1 : List (List Bool)) : Option Bool :=
 cond ((t0.length : Int) != (t1.length : Int)) (
  some false) (
  iter (fun loop (s : Int) => f_slices_EqualFunc__bool_fn58_b1 t0 t1 loop s) 1000000 (0 : Int))
section
variable (t0 : List (List Bool)) (t1 : List (List Bool)) (v2 : Int)
abbrev qZdb : Nat × AV := (1, slA (eL eB) t1)
abbrev qZdc := (t0.length : Int)
abbrev qZda : Env := [(15, slA (eL eB) t0), (16, .int .i64 (qZdc t0)), (17, .int .i64 v2)]
end
theorem f_slices_EqualFunc__bool_fn58_ok  {t0 : List (List Bool)} {t1 : List (List Bool)} {r : Bool} (H : f_slices_EqualFunc__bool_fn58 t0 t1 = some r) : QSpec Tryd.prog 57 [slA (eL eB) t0, slA (eL eB) t1, .im (.val (.func (.func 58) #[] #[]))] (.bool r) := by
 refine Spec.of_AW Tryd.func57 rfl (by simp [Tryd.ntmps57]) ?_
 rw [Tryd.ntmps57]
 unfold f_slices_EqualFunc__bool_fn58 at H
 change AW _ _ _ [(0, slA (eL eB) t0), (qZdb t1), (2, .im (.val (.func (.func 58) #[] #[])))] [] _
 refine AW.regionSeq (OpsW.sg 1 [0, 1, 2] [(0, slA (eL eB) t0), (qZdb t1), (2, .im (.val (.func (.func 58) #[] #[])))] ?_)
 refine OpsW.nil (AW.seq (AW.regionSeq (OpsW.sg 5 [14, 0, 1, 2] [(14, .bool ((qZdc t0) != (t1.length : Int))), (0, slA (eL eB) t0), (qZdb t1), (2, .im (.val (.func (.func 58) #[] #[])))] ?_)))
 refine OpsW.nil (AW.cond (b := (qZdc t0) != (t1.length : Int)) rfl (fun c1 => ?_) (fun c1 => ?_))
 ·replace H := condT c1 H
  refine AW.regionSeq (OpsW.sg 1 [6] [(6, .bool false)] ?_)
  refine OpsW.nil ?_
  obtain rfl := Option.some.inj H
  refine AW.recast (env' := [(6, .bool false)]) (h' := []) (StC.pure (.cons .im .nil)) ?_
  refine AW.ret ?_
  try simp only [Ex.then, Ex.inBlock, Ex.noGoto, Ex.jump, reduceIte, Nat.reduceEqDiff, reduceCtorEq]
  refine Done.gen rfl (.tmp .nil) ?_
  show _ = _
  kernel_rfl
 replace H := condF c1 H
 refine AW.skip (AW.seq (AW.regionSeq (OpsW.sg 3 [17, 16, 15, 1, 2] [(17, .int .i64 0), (16, .int .i64 (qZdc t0)), (15, slA (eL eB) t0), (qZdb t1), (2, .im (.val (.func (.func 58) #[] #[])))] ?_)))
 refine OpsW.nil (AW.block ?_)
 refine AW.iterK (fun loop (s : Int) => f_slices_EqualFunc__bool_fn58_b1 t0 t1 loop s) r (fun (s : Int) => [(qZdb t1), (2, .im (.val (.func (.func 58) #[] #[]))), (15, slA (eL eB) t0), (16, .int .i64 (qZdc t0)), (17, .int .i64 s)]) (fun (s : Int) => []) ?_ 1000000 (0 : Int) H (StC.pure (.i5 .nil))
 intro loop3 v2 H
 change f_slices_EqualFunc__bool_fn58_b1 t0 t1 loop3 v2 = some r at H
 unfold f_slices_EqualFunc__bool_fn58_b1 at H
 change AW _ _ _ ((qZdb t1) :: (2, .im (.val (.func (.func 58) #[] #[]))) :: (qZda t0 v2)) [] _
 refine AW.regionSeq (OpsW.sg 1 [18, 1, 2, 15, 16, 17] ((18, .bool (decide (v2 < (qZdc t0)))) :: (qZdb t1) :: (2, .im (.val (.func (.func 58) #[] #[]))) :: (qZda t0 v2)) ?_)
 refine OpsW.nil (AW.seq (AW.cond (b := decide (v2 < (qZdc t0))) rfl (fun c4 => ?_) (fun c4 => ?_)))
 ·replace H := condT c4 H
  refine AW.skip (AW.seq (AW.block (AW.regionSeq ?_)))
  obtain ⟨g5, H⟩ := G_some H
  refine OpsW.sq 2 [20, 19, 1, 2, 15, 16, 17] [0 ≤ v2 ∧ v2 < (qZdc t0)] ((20, .ipt (t0.flatMap (eL eB)) (v2.toNat * 1)) :: (19, .int .i64 v2) :: (qZdb t1) :: (2, .im (.val (.func (.func 58) #[] #[]))) :: (qZda t0 v2)) ⟨g5, trivial⟩ ?_
  refine OpsW.asU (slA eB (t0.getD v2.toNat [])) rfl rfl (T.load rfl trivial (by kernel_rfl) (fm_cell0 (eL eB) 1 (fun _ => rfl) t0 [] v2.toNat (ltN g5) (fun a => .sl (a.flatMap eB) a.length) (fun _ => rfl))) ?_
  refine OpsW.sg 2 [8, 7, 1, 2, 15, 16, 17] ((8, slA eB (t0.getD v2.toNat [])) :: (7, .int .i64 v2) :: (qZdb t1) :: (2, .im (.val (.func (.func 58) #[] #[]))) :: (qZda t0 v2)) ?_
  refine OpsW.nil (AW.regionSeq ?_)
  obtain ⟨g6, H⟩ := G_some H
  refine OpsW.sq 3 [24, 8, 1, 2, 15, 16, 17] [0 ≤ v2 ∧ v2 < (t1.length : Int)] ((24, .ipt (t1.flatMap (eL eB)) (v2.toNat * 1)) :: (8, slA eB (t0.getD v2.toNat [])) :: (qZdb t1) :: (2, .im (.val (.func (.func 58) #[] #[]))) :: (qZda t0 v2)) ⟨g6, trivial⟩ ?_
  refine OpsW.asU (slA eB (t1.getD v2.toNat [])) rfl rfl (T.load rfl trivial (by kernel_rfl) (fm_cell0 (eL eB) 1 (fun _ => rfl) t1 [] v2.toNat (ltN g6) (fun a => .sl (a.flatMap eB) a.length) (fun _ => rfl))) ?_
  refine OpsW.sg 1 [9, 8, 1, 2, 15, 16, 17] ((9, slA eB (t1.getD v2.toNat [])) :: (8, slA eB (t0.getD v2.toNat [])) :: (qZdb t1) :: (2, .im (.val (.func (.func 58) #[] #[]))) :: (qZda t0 v2)) ?_
  refine OpsW.nil (AW.regionSeq (OpsW.sg 3 [28, 27, 26, 1, 2, 15, 16, 17] ((28, slA eB (t1.getD v2.toNat [])) :: (27, slA eB (t0.getD v2.toNat [])) :: (26, .im (.val (.func (.func 58) #[] #[]))) :: (qZdb t1) :: (2, .im (.val (.func (.func 58) #[] #[]))) :: (qZda t0 v2)) ?_))
  refine OpsW.valF rfl rfl (by kernel_rfl) ?_
  obtain ⟨x7, hx7, H⟩ := bindS H
  refine OpsW.qcall rfl (by kernel_rfl) rfl rfl (glAll_sound trivial) (.cons (.pur rfl) (.cons (.pur rfl) .nil)) (f_sheet_sameDots_1_ok hx7) rfl ?_
  refine OpsW.sg 1 [30, 1, 2, 15, 16, 17] ((30, .bool (!x7)) :: (qZdb t1) :: (2, .im (.val (.func (.func 58) #[] #[]))) :: (qZda t0 v2)) ?_
  refine OpsW.nil (AW.cond (b := !x7) rfl (fun c8 => ?_) (fun c8 => ?_))
  ·replace H := condT c8 H
   refine AW.regionSeq (OpsW.sg 1 [6] [(6, .bool false)] ?_)
   refine OpsW.nil ?_
   obtain rfl := Option.some.inj H
   refine AW.recast (env' := [(6, .bool false)]) (h' := []) (StC.pure (.cons .im .nil)) ?_
   refine AW.ret ?_
   try simp only [Ex.then, Ex.inBlock, Ex.noGoto, Ex.jump, reduceIte, Nat.reduceEqDiff, reduceCtorEq]
   refine Done.gen rfl (.tmp .nil) ?_
   show _ = _
   kernel_rfl
  replace H := condF c8 H
  refine AW.skip (AW.region ?_)
  obtain ⟨g9, H⟩ := G_some H
  refine OpsW.sq 2 [17, 1, 2, 15, 16] [inR (v2 + 1)] [(17, .int .i64 (v2 + 1)), (qZdb t1), (2, .im (.val (.func (.func 58) #[] #[]))), (15, slA (eL eB) t0), (16, .int .i64 (qZdc t0))] ⟨g9, trivial⟩ ?_
  refine OpsW.nil ?_
  show ∃ y, _ ∧ StC _ _ _ _
  exact ⟨v2 + 1, H, (StC.pure (.i5 .nil))⟩
 replace H := condF c4 H
 refine AW.exit ?_
 refine AW.regionSeq (OpsW.sg 1 [6] [(6, .bool true)] ?_)
 refine OpsW.nil ?_
 obtain rfl := Option.some.inj H
 refine AW.recast (env' := [(6, .bool true)]) (h' := []) (StC.pure (.cons .im .nil)) ?_
 refine AW.ret ?_
 try simp only [Ex.then, Ex.inBlock, Ex.noGoto, Ex.jump, reduceIte, Nat.reduceEqDiff, reduceCtorEq]
 refine Done.gen rfl (.tmp .nil) ?_
 show _ = _
 kernel_rfl
def f_sheet_sameDots (t0 : List (List Bool)) (t1 : List (List Bool)) : Option Bool :=
 (f_slices_EqualFunc__bool_fn58 t0 t1).bind fun x1 =>
 some x1
theorem f_sheet_sameDots_ok  {t0 : List (List Bool)} {t1 : List (List Bool)} {r : Bool} (H : f_sheet_sameDots t0 t1 = some r) : QSpec Tryd.prog 41 [slA (eL eB) t0, slA (eL eB) t1] (.bool r) := by
 refine Spec.of_AW Tryd.func41 rfl (by simp [Tryd.ntmps41]) ?_
 rw [Tryd.ntmps41]
 unfold f_sheet_sameDots at H
 change AW _ _ _ [(0, slA (eL eB) t0), (1, slA (eL eB) t1)] [] _
 refine AW.regionSeq (OpsW.sg 1 [0, 1] [(0, slA (eL eB) t0), (1, slA (eL eB) t1)] ?_)
 refine OpsW.nil (AW.regionSeq (OpsW.sg 2 [6, 5] [(6, slA (eL eB) t1), (5, slA (eL eB) t0)] ?_))
 obtain ⟨x1, hx1, H⟩ := bindS H
 refine OpsW.qcall rfl (by kernel_rfl) rfl rfl (glAll_sound trivial) (.cons (.pur rfl) (.cons (.pur rfl) (.cons (.pur rfl) .nil))) (f_slices_EqualFunc__bool_fn58_ok hx1) rfl ?_
 refine OpsW.sg 1 [4] [(4, .bool x1)] ?_
 refine OpsW.nil ?_
 obtain rfl := Option.some.inj H
 refine AW.recast (env' := [(4, .bool x1)]) (h' := []) (StC.pure (.cons .im .nil)) ?_
 refine AW.ret ?_
 refine Done.gen rfl (.tmp .nil) ?_
 show _ = _
 kernel_rfl
def f_sheet_Equal (t0 : S_Plate) (t1 : S_Plate) : Option Bool :=
 (cond (cond (t0.W == t1.W) (t0.H == t1.H) false) (f_sheet_sameDots t0.Up t1.Up) (some false)).bind fun x1 =>
 (cond (cond (cond (t0.W == t1.W) (t0.H == t1.H) false) x1 false) (f_sheet_sameDots t0.Down t1.Down) (some false)).bind fun x2 =>
 some (cond (cond (cond (t0.W == t1.W) (t0.H == t1.H) false) x1 false) x2 false)
section
variable (t0 : S_Plate) (t1 : S_Plate) (x1 : Bool)
abbrev qZde := cond (t0.W == t1.W) (t0.H == t1.H) false
abbrev qZdf := cond (qZde t0 t1) x1 false
abbrev qZdg : List AV := [.int .i64 t0.W, .int .i64 t0.H, slA (eL eB) t0.Up, slA (eL eB) t0.Down]
abbrev qZdh : List AV := [.int .i64 t1.W, .int .i64 t1.H, slA (eL eB) t1.Up, slA (eL eB) t1.Down]
abbrev qZdd : Hp := [(2, ⟨0, true, 47, 4, (qZdg t0)⟩)]
end
theorem f_sheet_Equal_ok  {t0 : S_Plate} {t1 : S_Plate} {r : Bool} (H : f_sheet_Equal t0 t1 = some r) : QSpec Tryd.prog 21 [.agg [.int .i64 t0.W, .int .i64 t0.H, slA (eL eB) t0.Up, slA (eL eB) t0.Down], .agg [.int .i64 t1.W, .int .i64 t1.H, slA (eL eB) t1.Up, slA (eL eB) t1.Down]] (.bool r) := by
 refine Spec.of_AW Tryd.func21 rfl (by simp [Tryd.ntmps21]) ?_
 rw [Tryd.ntmps21]
 unfold f_sheet_Equal at H
 change AW _ _ _ [(0, .agg (qZdg t0)), (1, .agg (qZdh t1))] [] _
 refine AW.regionSeq (OpsW.box rfl rfl rfl 2 rfl (okCb_sound (by kernel_rfl)) ?_)
 change OpsW _ _ _ _ _ (qZdd t0) _
 refine OpsW.box rfl rfl rfl 3 rfl (okCb_sound (by kernel_rfl)) ?_
 change OpsW _ _ _ _ _ ((3, ⟨0, true, 47, 4, (qZdh t1)⟩) :: (qZdd t0)) _
 refine OpsW.sg 1 [3, 2] [(3, .ref 3 0 0), (2, .ref 2 0 0)] ?_
 refine OpsW.recast (env' := [(3, .ref 3 0 0), (2, .ref 2 0 0)]) (h' := [(2, ⟨0, true, 47, 4, (qZdg t0)⟩), (3, ⟨0, true, 47, 4, (qZdh t1)⟩)]) (StC.mk (phi [(2, some 2), (3, some 3)]) (.o rfl (.i4 .nil) (.o rfl (.i4 .nil) .nil)) rfl (.cons (.r rfl) (.cons (.r rfl) .nil))) ?_
 refine OpsW.nil (AW.regionSeq (OpsW.sq 17 [21, 19, 17, 3, 2] [(t0.W == t1.W) = true → (t0.W == t1.W) = true, (t0.W == t1.W) = true → (t0.W == t1.W) = true, (t0.W == t1.W) = true → (t0.W == t1.W) = true, (t0.W == t1.W) = true → (t0.W == t1.W) = true, (t0.W == t1.W) = true → (t0.W == t1.W) = true, (qZde t0 t1) = true → (qZde t0 t1) = true, (qZde t0 t1) = true → (qZde t0 t1) = true] [(21, .cnd (qZde t0 t1) (slA (eL eB) t1.Up)), (19, .cnd (qZde t0 t1) (slA (eL eB) t0.Up)), (17, .bool (qZde t0 t1)), (3, .ref 3 0 0), (2, .ref 2 0 0)] ⟨(fun h => h), (fun h => h), (fun h => h), (fun h => h), (fun h => by first | exact h | (simpa using h) | grind), (fun h => h), (fun h => h), trivial⟩ ?_))
 obtain ⟨x1, hx1, H⟩ := bindS H
 refine OpsW.gcall (c := cond (t0.W == t1.W) (t0.H == t1.H) false) (r := .bool x1) [] rfl (by kernel_rfl) rfl rfl rfl rfl (fun hc => ⟨glAll_sound ⟨hc, hc, trivial⟩, (.cons (.pur rfl) (.cons (.pur rfl) .nil)), f_sheet_sameDots_ok (condT hc hx1), .inl ⟨rfl, rfl⟩⟩) ?_
 refine OpsW.sq 6 [28, 26, 24] [(qZde t0 t1) = true → (qZde t0 t1) = true, (qZdf t0 t1 x1) = true → (qZdf t0 t1 x1) = true, (qZdf t0 t1 x1) = true → (qZdf t0 t1 x1) = true] [(28, .cnd (qZdf t0 t1 x1) (slA (eL eB) t1.Down)), (26, .cnd (qZdf t0 t1 x1) (slA (eL eB) t0.Down)), (24, .bool (qZdf t0 t1 x1))] ⟨(fun h => by first | exact h | (simpa using h) | grind), (fun h => h), (fun h => h), trivial⟩ ?_
 obtain ⟨x2, hx2, H⟩ := bindS H
 refine OpsW.gcall (c := cond (qZde t0 t1) x1 false) (r := .bool x2) [] rfl (by kernel_rfl) rfl rfl rfl rfl (fun hc => ⟨glAll_sound ⟨hc, hc, trivial⟩, (.cons (.pur rfl) (.cons (.pur rfl) .nil)), f_sheet_sameDots_ok (condT hc hx2), .inl ⟨rfl, rfl⟩⟩) ?_
 refine OpsW.sq 2 [4] [(qZdf t0 t1 x1) = true → (qZdf t0 t1 x1) = true] [(4, .bool (cond (qZdf t0 t1 x1) x2 false))] ⟨(fun h => by first | exact h | (simpa using h) | grind), trivial⟩ ?_
 refine OpsW.nil ?_
 obtain rfl := Option.some.inj H
 refine AW.recast (env' := [(4, .bool (cond (qZdf t0 t1 x1) x2 false))]) (h' := []) (StC.pure (.cons .im .nil)) ?_
 refine AW.ret ?_
 refine Done.gen rfl (.tmp .nil) ?_
 show _ = _
 kernel_rfl
def f_R01_Same_b1 (t0 : List Int) (t1 : List Int) (loop3 : (Int) → Option Bool) (v2 : Int) : Option Bool :=
 cond (decide (v2 < (t0.length : Int))) (
  G (0 ≤ v2 ∧ v2 < (t0.length : Int)) <|
  G (0 ≤ v2 ∧ v2 < (t1.length : Int)) <|
  cond ((t0.getD v2.toNat 0) != (t1.getD v2.toNat 0)) (
   some false) (
   G (inR (v2 + 1)) <|
   loop3 (v2 + 1))) (
  some true)
def f_R01_Same (t0 : List Int) (t1 : List Int) : Option Bool :=
 cond ((t0.length : Int) != (t1.length : Int)) (
  some false) (
  iter (fun loop (s : Int) => f_R01_Same_b1 t0 t1 loop s) 1000000 (0 : Int))
section
variable (t0 : List Int) (t1 : List Int) (v2 : Int)
abbrev qZdi : Env := [(19, .ipt (t0.flatMap (eI .u8)) (v2.toNat * 1)), (18, .int .i64 v2), (17, slA (eI .u8) t0), (14, .bool (decide (v2 < (t0.length : Int)))), (0, slA (eI .u8) t0), (1, slA (eI .u8) t1), (5, .int .i64 v2)]
abbrev qZdj : Env := (23, .ipt (t1.flatMap (eI .u8)) (v2.toNat * 1)) :: (22, .int .i64 v2) :: (21, slA (eI .u8) t1) :: (20, .int .u8 (t0.getD v2.toNat 0)) :: (qZdi t0 t1 v2)
abbrev qZdk : Env := [(0, slA (eI .u8) t0), (1, slA (eI .u8) t1)]
abbrev qZdl : Env := [(0, slA (eI .u8) t0), (1, slA (eI .u8) t1), (5, .int .i64 v2)]
end
theorem f_R01_Same_ok  {t0 : List Int} {t1 : List Int} {r : Bool} (H : f_R01_Same t0 t1 = some r) : QSpec Tryd.prog 39 [slA (eI .u8) t0, slA (eI .u8) t1] (.bool r) := by
 refine Spec.of_AW Tryd.func39 rfl (by simp [Tryd.ntmps39]) ?_
 rw [Tryd.ntmps39]
 unfold f_R01_Same at H
 change AW _ _ _ (qZdk t0 t1) [] _
 refine AW.regionSeq (OpsW.sg 1 [0, 1] (qZdk t0 t1) ?_)
 refine OpsW.nil (AW.seq (AW.regionSeq (OpsW.sg 5 [10, 0, 1] ((10, .bool ((t0.length : Int) != (t1.length : Int))) :: (qZdk t0 t1)) ?_)))
 refine OpsW.nil (AW.cond (b := (t0.length : Int) != (t1.length : Int)) rfl (fun c1 => ?_) (fun c1 => ?_))
 ·replace H := condT c1 H
  refine AW.regionSeq (OpsW.sg 1 [4] [(4, .bool false)] ?_)
  refine OpsW.nil ?_
  obtain rfl := Option.some.inj H
  refine AW.recast (env' := [(4, .bool false)]) (h' := []) (StC.pure (.cons .im .nil)) ?_
  refine AW.ret ?_
  try simp only [Ex.then, Ex.inBlock, Ex.noGoto, Ex.jump, reduceIte, Nat.reduceEqDiff, reduceCtorEq]
  refine Done.gen rfl (.tmp .nil) ?_
  show _ = _
  kernel_rfl
 replace H := condF c1 H
 refine AW.skip (AW.seq (AW.regionSeq (OpsW.sg 1 [5, 0, 1] ((5, .int .i64 0) :: (qZdk t0 t1)) ?_)))
 refine OpsW.nil (AW.block ?_)
 refine AW.iterK (fun loop (s : Int) => f_R01_Same_b1 t0 t1 loop s) r (fun (s : Int) => [(0, slA (eI .u8) t0), (1, slA (eI .u8) t1), (5, .int .i64 s)]) (fun (s : Int) => []) ?_ 1000000 (0 : Int) H (StC.pure (.i3 .nil))
 intro loop3 v2 H
 change f_R01_Same_b1 t0 t1 loop3 v2 = some r at H
 unfold f_R01_Same_b1 at H
 change AW _ _ _ (qZdl t0 t1 v2) [] _
 refine AW.seq (AW.regionSeq (OpsW.sg 4 [14, 0, 1, 5] ((14, .bool (decide (v2 < (t0.length : Int)))) :: (qZdl t0 t1 v2)) ?_))
 refine OpsW.nil (AW.cond (b := decide (v2 < (t0.length : Int))) rfl (fun c4 => ?_) (fun c4 => ?_))
 ·replace H := condT c4 H
  refine AW.skip (AW.seq (AW.block (AW.drawSeq Tryd.checked.mixed (by kernel_rfl) ?_)))
  obtain ⟨g5, H⟩ := G_some H
  refine QOps.seg (N := 26) 3 [0 ≤ v2 ∧ v2 < (t0.length : Int)] (qZdi t0 t1 v2) (by kernel_rfl) ⟨g5, trivial⟩ ?_
  refine QOps.asU (.int .u8 (t0.getD v2.toNat 0)) rfl (T.load rfl trivial (by kernel_rfl) (fm_cell0 (eI .u8) 1 (fun _ => rfl) t0 (0 : Int) v2.toNat (ltN g5) (fun a => .val (.int .u8 a)) (fun _ => rfl))) ?_
  obtain ⟨g6, H⟩ := G_some H
  refine QOps.seg (N := 26) 3 [0 ≤ v2 ∧ v2 < (t1.length : Int)] (qZdj t0 t1 v2) (by kernel_rfl) ⟨g6, trivial⟩ ?_
  refine QOps.asU (.int .u8 (t1.getD v2.toNat 0)) rfl (T.load rfl trivial (by kernel_rfl) (fm_cell0 (eI .u8) 1 (fun _ => rfl) t1 (0 : Int) v2.toNat (ltN g6) (fun a => .val (.int .u8 a)) (fun _ => rfl))) ?_
  refine QOps.seg (N := 26) 1 [] ((25, .bool ((t0.getD v2.toNat 0) != (t1.getD v2.toNat 0))) :: (24, .int .u8 (t1.getD v2.toNat 0)) :: (qZdj t0 t1 v2)) (by kernel_rfl) trivial ?_
  refine QOps.nil (AW.trim [25, 0, 1, 5] ((25, .bool ((t0.getD v2.toNat 0) != (t1.getD v2.toNat 0))) :: (qZdl t0 t1 v2)) (by kernel_rfl) ?_)
  refine AW.cond (b := (t0.getD v2.toNat 0) != (t1.getD v2.toNat 0)) rfl (fun c7 => ?_) (fun c7 => ?_)
  ·replace H := condT c7 H
   refine AW.regionSeq (OpsW.sg 1 [4] [(4, .bool false)] ?_)
   refine OpsW.nil ?_
   obtain rfl := Option.some.inj H
   refine AW.recast (env' := [(4, .bool false)]) (h' := []) (StC.pure (.cons .im .nil)) ?_
   refine AW.ret ?_
   try simp only [Ex.then, Ex.inBlock, Ex.noGoto, Ex.jump, reduceIte, Nat.reduceEqDiff, reduceCtorEq]
   refine Done.gen rfl (.tmp .nil) ?_
   show _ = _
   kernel_rfl
  replace H := condF c7 H
  refine AW.skip (AW.region ?_)
  obtain ⟨g8, H⟩ := G_some H
  refine OpsW.sq 3 [5, 0, 1] [inR (v2 + 1)] ((5, .int .i64 (v2 + 1)) :: (qZdk t0 t1)) ⟨g8, trivial⟩ ?_
  refine OpsW.nil ?_
  show ∃ y, _ ∧ StC _ _ _ _
  exact ⟨v2 + 1, H, (StC.pure (.i3 .nil))⟩
 replace H := condF c4 H
 refine AW.exit ?_
 refine AW.regionSeq (OpsW.sg 1 [4] [(4, .bool true)] ?_)
 refine OpsW.nil ?_
 obtain rfl := Option.some.inj H
 refine AW.recast (env' := [(4, .bool true)]) (h' := []) (StC.pure (.cons .im .nil)) ?_
 refine AW.ret ?_
 try simp only [Ex.then, Ex.inBlock, Ex.noGoto, Ex.jump, reduceIte, Nat.reduceEqDiff, reduceCtorEq]
 refine Done.gen rfl (.tmp .nil) ?_
 show _ = _
 kernel_rfl
def f_R25_SamePage_b1 (t0 : List (List Int)) (t1 : List (List Int)) (loop3 : (Int) → Option Bool) (v2 : Int) : Option Bool :=
 cond (decide (v2 < (t0.length : Int))) (
  G (0 ≤ v2 ∧ v2 < (t0.length : Int)) <|
  G (0 ≤ v2 ∧ v2 < (t1.length : Int)) <|
  (f_R01_Same (t0.getD v2.toNat []) (t1.getD v2.toNat [])).bind fun x7 =>
  cond (!x7) (
   some false) (
   G (inR (v2 + 1)) <|
   loop3 (v2 + 1))) (
  some true)
def f_R25_SamePage (t0 : List (List Int)) (t1 : List (List Int)) : Option Bool :=
 cond ((t0.length : Int) != (t1.length : Int)) (
  some false) (
  iter (fun loop (s : Int) => f_R25_SamePage_b1 t0 t1 loop s) 1000000 (0 : Int))
section
variable (t0 : List (List Int)) (t1 : List (List Int)) (v2 : Int)
abbrev qZdm : Env := [(19, .ipt (t0.flatMap (eL (eI .u8))) (v2.toNat * 1)), (18, .int .i64 v2), (17, slA (eL (eI .u8)) t0), (14, .bool (decide (v2 < (t0.length : Int)))), (0, slA (eL (eI .u8)) t0), (1, slA (eL (eI .u8)) t1), (5, .int .i64 v2)]
abbrev qZdn : Env := [(0, slA (eL (eI .u8)) t0), (1, slA (eL (eI .u8)) t1)]
abbrev qZdo : Env := (23, .ipt (t1.flatMap (eL (eI .u8))) (v2.toNat * 1)) :: (22, .int .i64 v2) :: (21, slA (eL (eI .u8)) t1) :: (20, slA (eI .u8) (t0.getD v2.toNat [])) :: (qZdm t0 t1 v2)
abbrev qZdp : Env := [(0, slA (eL (eI .u8)) t0), (1, slA (eL (eI .u8)) t1), (5, .int .i64 v2)]
end
theorem f_R25_SamePage_ok  {t0 : List (List Int)} {t1 : List (List Int)} {r : Bool} (H : f_R25_SamePage t0 t1 = some r) : QSpec Tryd.prog 17 [slA (eL (eI .u8)) t0, slA (eL (eI .u8)) t1] (.bool r) := by
 refine Spec.of_AW Tryd.func17 rfl (by simp [Tryd.ntmps17]) ?_
 rw [Tryd.ntmps17]
 unfold f_R25_SamePage at H
 change AW _ _ _ (qZdn t0 t1) [] _
 refine AW.regionSeq (OpsW.sg 1 [0, 1] (qZdn t0 t1) ?_)
 refine OpsW.nil (AW.seq (AW.regionSeq (OpsW.sg 5 [10, 0, 1] ((10, .bool ((t0.length : Int) != (t1.length : Int))) :: (qZdn t0 t1)) ?_)))
 refine OpsW.nil (AW.cond (b := (t0.length : Int) != (t1.length : Int)) rfl (fun c1 => ?_) (fun c1 => ?_))
 ·replace H := condT c1 H
  refine AW.regionSeq (OpsW.sg 1 [4] [(4, .bool false)] ?_)
  refine OpsW.nil ?_
  obtain rfl := Option.some.inj H
  refine AW.recast (env' := [(4, .bool false)]) (h' := []) (StC.pure (.cons .im .nil)) ?_
  refine AW.ret ?_
  try simp only [Ex.then, Ex.inBlock, Ex.noGoto, Ex.jump, reduceIte, Nat.reduceEqDiff, reduceCtorEq]
  refine Done.gen rfl (.tmp .nil) ?_
  show _ = _
  kernel_rfl
 replace H := condF c1 H
 refine AW.skip (AW.seq (AW.regionSeq (OpsW.sg 1 [5, 0, 1] ((5, .int .i64 0) :: (qZdn t0 t1)) ?_)))
 refine OpsW.nil (AW.block ?_)
 refine AW.iterK (fun loop (s : Int) => f_R25_SamePage_b1 t0 t1 loop s) r (fun (s : Int) => [(0, slA (eL (eI .u8)) t0), (1, slA (eL (eI .u8)) t1), (5, .int .i64 s)]) (fun (s : Int) => []) ?_ 1000000 (0 : Int) H (StC.pure (.i3 .nil))
 intro loop3 v2 H
 change f_R25_SamePage_b1 t0 t1 loop3 v2 = some r at H
 unfold f_R25_SamePage_b1 at H
 change AW _ _ _ (qZdp t0 t1 v2) [] _
 refine AW.seq (AW.regionSeq (OpsW.sg 4 [14, 0, 1, 5] ((14, .bool (decide (v2 < (t0.length : Int)))) :: (qZdp t0 t1 v2)) ?_))
 refine OpsW.nil (AW.cond (b := decide (v2 < (t0.length : Int))) rfl (fun c4 => ?_) (fun c4 => ?_))
 ·replace H := condT c4 H
  refine AW.skip (AW.seq (AW.block (AW.drawSeq Tryd.checked.mixed (by kernel_rfl) ?_)))
  obtain ⟨g5, H⟩ := G_some H
  refine QOps.seg (N := 27) 3 [0 ≤ v2 ∧ v2 < (t0.length : Int)] (qZdm t0 t1 v2) (by kernel_rfl) ⟨g5, trivial⟩ ?_
  refine QOps.asU (slA (eI .u8) (t0.getD v2.toNat [])) rfl (T.load rfl trivial (by kernel_rfl) (fm_cell0 (eL (eI .u8)) 1 (fun _ => rfl) t0 [] v2.toNat (ltN g5) (fun a => .sl (a.flatMap (eI .u8)) a.length) (fun _ => rfl))) ?_
  obtain ⟨g6, H⟩ := G_some H
  refine QOps.seg (N := 27) 3 [0 ≤ v2 ∧ v2 < (t1.length : Int)] (qZdo t0 t1 v2) (by kernel_rfl) ⟨g6, trivial⟩ ?_
  refine QOps.asU (slA (eI .u8) (t1.getD v2.toNat [])) rfl (T.load rfl trivial (by kernel_rfl) (fm_cell0 (eL (eI .u8)) 1 (fun _ => rfl) t1 [] v2.toNat (ltN g6) (fun a => .sl (a.flatMap (eI .u8)) a.length) (fun _ => rfl))) ?_
  obtain ⟨x7, hx7, H⟩ := bindS H
  refine QOps.qcall rfl (by kernel_rfl) rfl (glAll_sound trivial) (.cons (.pur rfl) (.cons (.pur rfl) .nil)) (f_R01_Same_ok hx7) rfl ?_
  refine QOps.seg (N := 27) 1 [] ((26, .bool (!x7)) :: (25, .bool x7) :: (24, slA (eI .u8) (t1.getD v2.toNat [])) :: (qZdo t0 t1 v2)) (by kernel_rfl) trivial ?_
  refine QOps.nil (AW.trim [26, 0, 1, 5] ((26, .bool (!x7)) :: (qZdp t0 t1 v2)) (by kernel_rfl) ?_)
  refine AW.cond (b := !x7) rfl (fun c8 => ?_) (fun c8 => ?_)
  ·replace H := condT c8 H
   refine AW.regionSeq (OpsW.sg 1 [4] [(4, .bool false)] ?_)
   refine OpsW.nil ?_
   obtain rfl := Option.some.inj H
   refine AW.recast (env' := [(4, .bool false)]) (h' := []) (StC.pure (.cons .im .nil)) ?_
   refine AW.ret ?_
   try simp only [Ex.then, Ex.inBlock, Ex.noGoto, Ex.jump, reduceIte, Nat.reduceEqDiff, reduceCtorEq]
   refine Done.gen rfl (.tmp .nil) ?_
   show _ = _
   kernel_rfl
  replace H := condF c8 H
  refine AW.skip (AW.region ?_)
  obtain ⟨g9, H⟩ := G_some H
  refine OpsW.sq 3 [5, 0, 1] [inR (v2 + 1)] ((5, .int .i64 (v2 + 1)) :: (qZdn t0 t1)) ⟨g9, trivial⟩ ?_
  refine OpsW.nil ?_
  show ∃ y, _ ∧ StC _ _ _ _
  exact ⟨v2 + 1, H, (StC.pure (.i3 .nil))⟩
 replace H := condF c4 H
 refine AW.exit ?_
 refine AW.regionSeq (OpsW.sg 1 [4] [(4, .bool true)] ?_)
 refine OpsW.nil ?_
 obtain rfl := Option.some.inj H
 refine AW.recast (env' := [(4, .bool true)]) (h' := []) (StC.pure (.cons .im .nil)) ?_
 refine AW.ret ?_
 try simp only [Ex.then, Ex.inBlock, Ex.noGoto, Ex.jump, reduceIte, Nat.reduceEqDiff, reduceCtorEq]
 refine Done.gen rfl (.tmp .nil) ?_
 show _ = _
 kernel_rfl
def f_L25_sanity  : Option Bool :=
 (f_sheet_Press (⟨(⟨(0 : Int), (0 : Int)⟩ : S_Label), [[(1 : Int)]], []⟩ : S_Leaf) (⟨(24 : Int), (4 : Int), (0 : Int)⟩ : S_Format)).bind fun x1 =>
 (f_sheet_Press (⟨(⟨(0 : Int), (0 : Int)⟩ : S_Label), [], [[(1 : Int)]]⟩ : S_Leaf) (⟨(24 : Int), (4 : Int), (0 : Int)⟩ : S_Format)).bind fun x2 =>
 (f_sheet_Press (⟨(⟨(0 : Int), (0 : Int)⟩ : S_Label), [], []⟩ : S_Leaf) (⟨(23 : Int), (4 : Int), (0 : Int)⟩ : S_Format)).bind fun x3 =>
 (f_sheet_Press (⟨(⟨(0 : Int), (0 : Int)⟩ : S_Label), [[(1 : Int), (0 : Int)]], []⟩ : S_Leaf) (⟨(24 : Int), (4 : Int), (0 : Int)⟩ : S_Format)).bind fun x4 =>
 (f_R25_Empty (48 : Int) (12 : Int)).bind fun x5 =>
 (f_sheet_Leaf x5).bind fun x6 =>
 (f_R25_Empty (48 : Int) (12 : Int)).bind fun x7 =>
 G (0 ≤ (0 : Int) ∧ (0 : Int) < (x7.Up.length : Int)) <|
 G (0 ≤ (0 : Int) ∧ 0 < ((x7.Up.getD (0 : Int).toNat []).length : Int)) <|
 (f_R25_Empty (48 : Int) (12 : Int)).bind fun x10 =>
 G (0 ≤ (0 : Int) ∧ (0 : Int) < (x10.Down.length : Int)) <|
 G (0 ≤ (47 : Int) ∧ 47 < ((x10.Down.getD (0 : Int).toNat []).length : Int)) <|
 (cond (cond (cond (cond (cond (x1.2 == 0) (x2.2 == 0) false) (x3.2 == 1) false) (x4.2 == 250) false) (x6.2 == 250) false) (f_R25_Equal x1.1 (⟨x7.W, x7.H, x7.Up.set (0 : Int).toNat ((x7.Up.getD (0 : Int).toNat []).set (0 : Int).toNat true), x7.Down⟩ : S_Plate)) (some false)).bind fun x13 =>
 (cond (cond (cond (cond (cond (cond (x1.2 == 0) (x2.2 == 0) false) (x3.2 == 1) false) (x4.2 == 250) false) (x6.2 == 250) false) x13 false) (f_R25_Equal x2.1 (⟨x10.W, x10.H, x10.Up, x10.Down.set (0 : Int).toNat ((x10.Down.getD (0 : Int).toNat []).set (47 : Int).toNat true)⟩ : S_Plate)) (some false)).bind fun x14 =>
 (cond (cond (cond (cond (cond (cond (cond (x1.2 == 0) (x2.2 == 0) false) (x3.2 == 1) false) (x4.2 == 250) false) (x6.2 == 250) false) x13 false) x14 false) (f_sheet_Valid (⟨x7.W, x7.H, x7.Up.set (0 : Int).toNat ((x7.Up.getD (0 : Int).toNat []).set (0 : Int).toNat true), x7.Down⟩ : S_Plate)) (some false)).bind fun x15 =>
 (cond (cond (cond (cond (cond (cond (cond (cond (x1.2 == 0) (x2.2 == 0) false) (x3.2 == 1) false) (x4.2 == 250) false) (x6.2 == 250) false) x13 false) x14 false) x15 false) (f_sheet_Valid (⟨(0 : Int), (0 : Int), [], []⟩ : S_Plate)) (some false)).bind fun x16 =>
 (cond (cond (cond (cond (cond (cond (cond (cond (cond (x1.2 == 0) (x2.2 == 0) false) (x3.2 == 1) false) (x4.2 == 250) false) (x6.2 == 250) false) x13 false) x14 false) x15 false) (!x16) false) (f_R25_Empty (47 : Int) (12 : Int)) (some zS_Plate)).bind fun x17 =>
 (cond (cond (cond (cond (cond (cond (cond (cond (cond (x1.2 == 0) (x2.2 == 0) false) (x3.2 == 1) false) (x4.2 == 250) false) (x6.2 == 250) false) x13 false) x14 false) x15 false) (!x16) false) (f_sheet_Valid x17) (some false)).bind fun x18 =>
 (cond (cond (cond (cond (cond (cond (cond (cond (cond (cond (x1.2 == 0) (x2.2 == 0) false) (x3.2 == 1) false) (x4.2 == 250) false) (x6.2 == 250) false) x13 false) x14 false) x15 false) (!x16) false) (!x18) false) (f_sheet_Equal (⟨x7.W, x7.H, x7.Up.set (0 : Int).toNat ((x7.Up.getD (0 : Int).toNat []).set (0 : Int).toNat true), x7.Down⟩ : S_Plate) (⟨x10.W, x10.H, x10.Up, x10.Down.set (0 : Int).toNat ((x10.Down.getD (0 : Int).toNat []).set (47 : Int).toNat true)⟩ : S_Plate)) (some false)).bind fun x19 =>
 (cond (cond (cond (cond (cond (cond (cond (cond (cond (cond (cond (x1.2 == 0) (x2.2 == 0) false) (x3.2 == 1) false) (x4.2 == 250) false) (x6.2 == 250) false) x13 false) x14 false) x15 false) (!x16) false) (!x18) false) (!x19) false) (f_sheet_Front (⟨x7.W, x7.H, x7.Up.set (0 : Int).toNat ((x7.Up.getD (0 : Int).toNat []).set (0 : Int).toNat true), x7.Down⟩ : S_Plate)) (some [])).bind fun x20 =>
 (cond (cond (cond (cond (cond (cond (cond (cond (cond (cond (cond (x1.2 == 0) (x2.2 == 0) false) (x3.2 == 1) false) (x4.2 == 250) false) (x6.2 == 250) false) x13 false) x14 false) x15 false) (!x16) false) (!x18) false) (!x19) false) (f_R25_SamePage x20 [[(1 : Int)]]) (some false)).bind fun x21 =>
 (cond (cond (cond (cond (cond (cond (cond (cond (cond (cond (cond (cond (x1.2 == 0) (x2.2 == 0) false) (x3.2 == 1) false) (x4.2 == 250) false) (x6.2 == 250) false) x13 false) x14 false) x15 false) (!x16) false) (!x18) false) (!x19) false) x21 false) (f_sheet_Back (⟨x10.W, x10.H, x10.Up, x10.Down.set (0 : Int).toNat ((x10.Down.getD (0 : Int).toNat []).set (47 : Int).toNat true)⟩ : S_Plate)) (some [])).bind fun x22 =>
 (cond (cond (cond (cond (cond (cond (cond (cond (cond (cond (cond (cond (x1.2 == 0) (x2.2 == 0) false) (x3.2 == 1) false) (x4.2 == 250) false) (x6.2 == 250) false) x13 false) x14 false) x15 false) (!x16) false) (!x18) false) (!x19) false) x21 false) (f_R25_SamePage x22 [[(1 : Int)]]) (some false)).bind fun x23 =>
 (cond (cond (cond (cond (cond (cond (cond (cond (cond (cond (cond (cond (cond (x1.2 == 0) (x2.2 == 0) false) (x3.2 == 1) false) (x4.2 == 250) false) (x6.2 == 250) false) x13 false) x14 false) x15 false) (!x16) false) (!x18) false) (!x19) false) x21 false) x23 false) (f_sheet_Back (⟨x7.W, x7.H, x7.Up.set (0 : Int).toNat ((x7.Up.getD (0 : Int).toNat []).set (0 : Int).toNat true), x7.Down⟩ : S_Plate)) (some [])).bind fun x24 =>
 some (cond (cond (cond (cond (cond (cond (cond (cond (cond (cond (cond (cond (cond (x1.2 == 0) (x2.2 == 0) false) (x3.2 == 1) false) (x4.2 == 250) false) (x6.2 == 250) false) x13 false) x14 false) x15 false) (!x16) false) (!x18) false) (!x19) false) x21 false) x23 false) ((x24.length : Int) == 0) false)
section
variable (x1 : (S_Plate × Int)) (x2 : (S_Plate × Int)) (x3 : (S_Plate × Int)) (x4 : (S_Plate × Int)) (x5 : S_Plate) (x6 : (S_Leaf × Int)) (x7 : S_Plate) (x10 : S_Plate) (x13 : Bool) (x14 : Bool) (x15 : Bool) (x16 : Bool) (x18 : Bool) (x19 : Bool) (x21 : Bool) (x23 : Bool) (x24 : (List (List Int)))
abbrev qZek := cond (cond (cond (cond (cond (cond (cond (x1.2 == 0) (x2.2 == 0) false) (x3.2 == 1) false) (x4.2 == 250) false) (x6.2 == 250) false) x13 false) x14 false) x15 false
abbrev qZel := (x7.Up.set (0 : Int).toNat ((x7.Up.getD (0 : Int).toNat []).set (0 : Int).toNat true))
abbrev qZem := cond (cond (cond (cond (x1.2 == 0) (x2.2 == 0) false) (x3.2 == 1) false) (x4.2 == 250) false) (x6.2 == 250) false
abbrev qZen := cond (cond (cond (qZek x1 x2 x3 x4 x6 x13 x14 x15) (!x16) false) (!x18) false) (!x19) false
abbrev qZeo := (x10.Down.set (0 : Int).toNat ((x10.Down.getD (0 : Int).toNat []).set (47 : Int).toNat true))
abbrev qZep : List AV := [.int .i64 0, .int .i64 0, .im (.val (.slice none 0 0)), .im (.val (.slice none 0 0))]
abbrev qZeq : List AV := [.int .i64 x1.1.W, .int .i64 x1.1.H, slA (eL eB) x1.1.Up, slA (eL eB) x1.1.Down]
abbrev qZer : List AV := [.int .i64 x2.1.W, .int .i64 x2.1.H, slA (eL eB) x2.1.Up, slA (eL eB) x2.1.Down]
abbrev qZes := [fmA 15130 4 1 eB (qZel x7), fmA 15131 4 1 eB x7.Down, fmA 15140 4 1 eB x10.Up, fmA 15141 4 1 eB (qZeo x10)]
abbrev qZet := [fmA 10601 4 1 eB x10.Up, fmA 10602 4 1 eB x10.Down, fmA 15130 4 1 eB (qZel x7), fmA 15131 4 1 eB x7.Down]
abbrev qZeu := cond (cond (x1.2 == 0) (x2.2 == 0) false) (x3.2 == 1) false
abbrev qZev : List AV := [.int .i64 x7.W, .int .i64 x7.H, slA (eL eB) (qZel x7), slA (eL eB) x7.Down]
abbrev qZew := [fmA 15130 4 1 eB (qZel x7), fmA 15131 4 1 eB x7.Down, fmA 15140 4 1 eB x10.Up, fmA 15141 4 1 eB x10.Down]
abbrev qZex : List AV := [.int .i64 24, .int .i64 4, .int .i64 0]
abbrev qZey := cond (cond (qZek x1 x2 x3 x4 x6 x13 x14 x15) (!x16) false) (!x18) false
abbrev qZez : List AV := [.int .i64 x10.W, .int .i64 x10.H, slA (eL eB) x10.Up, slA (eL eB) (qZeo x10)]
abbrev qZf0 : Nat × AV := (2, slA (eL (eI .u8)) [[(1 : Int)]])
abbrev qZf1 := cond (qZen x1 x2 x3 x4 x6 x13 x14 x15 x16 x18 x19) x21 false
abbrev qZf2 : List AV := [.int .i64 x7.W, .int .i64 x7.H, .rsl 5130 0 0 ((qZel x7).length), .rsl 5131 0 0 x7.Down.length]
abbrev qZf3 := [fmA 10601 4 1 eB x7.Up, fmA 10602 4 1 eB x7.Down]
abbrev qZf4 := [fmA 15130 4 1 eB (qZel x7), fmA 15131 4 1 eB x7.Down]
abbrev qZf5 := [fmA 15130 4 1 eB x7.Up, fmA 15131 4 1 eB x7.Down]
abbrev qZf6 := (0 + (0 : Int).toNat * 1)
abbrev qZf7 := cond (qZem x1 x2 x3 x4 x6) x13 false
abbrev qZf8 := (fid 15141 (0 : Int).toNat)
abbrev qZf9 := (fid 15130 (0 : Int).toNat)
abbrev qZfa := [fmA 11500 4 1 eB x10.Up, fmA 11501 4 1 eB x10.Down, fmA 15130 4 1 eB (qZel x7), fmA 15131 4 1 eB x7.Down]
abbrev qZfb : List AV := [.int .i64 x6.1.Label.N, .int .i64 x6.1.Label.K, slA (eL (eI .u8)) x6.1.Front, slA (eL (eI .u8)) x6.1.Back]
abbrev qZfc := cond (qZeu x1 x2 x3) (x4.2 == 250) false
abbrev qZfd := [fmA 10601 4 1 eB x5.Up, fmA 10602 4 1 eB x5.Down]
abbrev qZfe : List AV := [.int .i64 x10.W, .int .i64 x10.H, .rsl 1500 0 0 x10.Up.length, .rsl 1501 0 0 x10.Down.length]
abbrev qZff : List AV := [.int .i64 x10.W, .int .i64 x10.H, .rsl 601 0 0 x10.Up.length, .rsl 602 0 0 x10.Down.length]
abbrev qZfg : List AV := [.int .i64 x5.W, .int .i64 x5.H, .rsl 1500 0 0 x5.Up.length, .rsl 1501 0 0 x5.Down.length]
abbrev qZfh : List AV := [.int .i64 x7.W, .int .i64 x7.H, .rsl 1500 0 0 x7.Up.length, .rsl 1501 0 0 x7.Down.length]
abbrev qZfi : List AV := [.int .i64 x7.W, .int .i64 x7.H, .rsl 601 0 0 x7.Up.length, .rsl 602 0 0 x7.Down.length]
abbrev qZfj := cond (x1.2 == 0) (x2.2 == 0) false
abbrev qZfk : List AV := [.int .i64 x3.1.W, .int .i64 x3.1.H, slA (eL eB) x3.1.Up, slA (eL eB) x3.1.Down]
abbrev qZfl : List AV := [.int .i64 x4.1.W, .int .i64 x4.1.H, slA (eL eB) x4.1.Up, slA (eL eB) x4.1.Down]
abbrev qZfm := cond (qZf1 x1 x2 x3 x4 x6 x13 x14 x15 x16 x18 x19 x21) x23 false
abbrev qZfn := cond (qZek x1 x2 x3 x4 x6 x13 x14 x15) (!x16) false
abbrev qZdq : Hp := [(3, ⟨0, true, 47, 4, (qZeq x1)⟩), (5, ⟨0, true, 47, 4, (qZer x2)⟩), (13, ⟨0, true, 47, 4, (qZf2 x7)⟩), (5130, nsA 0 61 15130 (qZel x7)), (5131, nsA 0 61 15131 x7.Down)]
abbrev qZdr : Hp := [(3, ⟨0, true, 47, 4, (qZeq x1)⟩), (5, ⟨0, true, 47, 4, (qZer x2)⟩), (13, ⟨0, true, 47, 4, (qZf2 x7)⟩), (14, ⟨0, true, 47, 4, [.int .i64 x10.W, .int .i64 x10.H, .rsl 5140 0 0 x10.Up.length, .rsl 5141 0 0 ((qZeo x10).length)]⟩), (5130, nsA 0 61 15130 (qZel x7)), (5131, nsA 0 61 15131 x7.Down), (5140, nsA 0 61 15140 x10.Up), (5141, nsA 0 61 15141 (qZeo x10))]
abbrev qZds : Env := [(10, .int .i64 x4.2), (8, .int .i64 x3.2), (6, .int .i64 x2.2), (5, .ref 5 0 0), (4, .int .i64 x1.2), (3, .ref 3 0 0), qZf0]
abbrev qZdt : Hp := [(3, ⟨0, true, 47, 4, (qZeq x1)⟩), (5, ⟨0, true, 47, 4, (qZer x2)⟩)]
abbrev qZdu : Hp := [(3, ⟨0, true, 47, 4, (qZeq x1)⟩), (5, ⟨0, true, 47, 4, (qZer x2)⟩), (13, ⟨0, true, 47, 4, (qZf2 x7)⟩), (14, ⟨0, true, 47, 4, [.int .i64 x10.W, .int .i64 x10.H, .rsl 5140 0 0 x10.Up.length, .rsl 5141 0 0 x10.Down.length]⟩), (5130, nsA 0 61 15130 (qZel x7)), (5131, nsA 0 61 15131 x7.Down), (5140, nsA 0 61 15140 x10.Up), (5141, nsA 0 61 15141 x10.Down)]
abbrev qZdv : Hp := [(3, ⟨0, true, 47, 4, (qZeq x1)⟩), (5, ⟨0, true, 47, 4, (qZer x2)⟩), (13, ⟨0, true, 47, 4, [.int .i64 x7.W, .int .i64 x7.H, .rsl 5130 0 0 x7.Up.length, .rsl 5131 0 0 x7.Down.length]⟩), (5130, nsA 0 61 15130 x7.Up), (5131, nsA 0 61 15131 x7.Down)]
abbrev qZdw : Env := [(4, .int .i64 x1.2), (3, .ref 3 0 0), qZf0, (1, .ref 1 0 0)]
abbrev qZdx : Env := (13, .ref 13 0 0) :: (12, .int .i64 x6.2) :: (qZds x1 x2 x3 x4)
abbrev qZdy : Hp := [(3, ⟨0, true, 47, 4, (qZeq x1)⟩), (5, ⟨0, true, 47, 4, (qZer x2)⟩), (13, ⟨0, true, 47, 4, (qZev x7)⟩), (14, ⟨0, true, 47, 4, (qZez x10)⟩)]
abbrev qZdz : Env := [(0, .bool (cond (qZfm x1 x2 x3 x4 x6 x13 x14 x15 x16 x18 x19 x21 x23) ((x24.length : Int) == 0) false))]
abbrev qZe0 : Env := [(14, .ref 14 0 0), (13, .ref 13 0 0), qZf0]
abbrev qZe1 : Hp := (14, ⟨0, true, 47, 4, (qZff x10)⟩) :: (14, ⟨0, true, 47, 4, qZep⟩) :: (601, nsA 0 61 10601 x10.Up) :: (602, nsA 0 61 10602 x10.Down) :: (qZdq x1 x2 x7)
abbrev qZe2 : Hp := (13, ⟨0, true, 47, 4, (qZfi x7)⟩) :: (13, ⟨0, true, 47, 4, qZep⟩) :: (601, nsA 0 61 10601 x7.Up) :: (602, nsA 0 61 10602 x7.Down) :: (qZdt x1 x2)
abbrev qZe3 : Env := (61, .rsl qZf8 0 0 ((x10.Down.getD (0 : Int).toNat []).length)) :: (60, .ref 5141 0 qZf6) :: (14, .ref 14 0 0) :: (qZdx x1 x2 x3 x4 x6)
abbrev qZe4 : Env := (55, .rsl qZf9 0 0 ((x7.Up.getD (0 : Int).toNat []).length)) :: (54, .ref 5130 0 qZf6) :: (qZdx x1 x2 x3 x4 x6)
abbrev qZe5 : Hp := (1, ⟨0, true, 32, 3, qZex⟩) :: (qZdt x1 x2)
abbrev qZe6 : Hp := (1000, ⟨0, true, 47, 4, (qZfe x10)⟩) :: (1500, nsA 0 61 11500 x10.Up) :: (1501, nsA 0 61 11501 x10.Down) :: (qZdq x1 x2 x7)
abbrev qZe7 : Hp := (1000, ⟨0, true, 47, 4, (qZfg x5)⟩) :: (1500, nsA 0 61 11500 x5.Up) :: (1501, nsA 0 61 11501 x5.Down) :: (qZdt x1 x2)
abbrev qZe8 : Hp := (1000, ⟨0, true, 47, 4, (qZfh x7)⟩) :: (1500, nsA 0 61 11500 x7.Up) :: (1501, nsA 0 61 11501 x7.Down) :: (qZdt x1 x2)
abbrev qZe9 : Env := (111, .bool (qZen x1 x2 x3 x4 x6 x13 x14 x15 x16 x18 x19)) :: qZe0
abbrev qZea : Hp := [(1, ⟨0, true, 32, 3, qZex⟩), (3, ⟨0, true, 47, 4, (qZeq x1)⟩)]
abbrev qZeb : Env := (6, .int .i64 x2.2) :: (5, .ref 5 0 0) :: (qZdw x1)
abbrev qZec : Env := [(8, .int .i64 x3.2), (6, .int .i64 x2.2), (5, .ref 5 0 0), (4, .int .i64 x1.2), (3, .ref 3 0 0), qZf0]
abbrev qZed : Hp := (601, nsA 0 61 10601 x5.Up) :: (602, nsA 0 61 10602 x5.Down) :: (qZdt x1 x2)
abbrev qZee : Hp := (601, nsA 0 61 10601 x7.Up) :: (602, nsA 0 61 10602 x7.Down) :: (qZdt x1 x2)
abbrev qZef : Env := (51, .agg (qZfi x7)) :: (12, .int .i64 x6.2) :: (qZds x1 x2 x3 x4)
abbrev qZeg : Hp := (601, nsA 0 61 10601 x10.Up) :: (602, nsA 0 61 10602 x10.Down) :: (qZdq x1 x2 x7)
abbrev qZeh : Env := [qZf0, (1, .ref 1 0 0)]
abbrev qZei : Env := (57, .agg (qZff x10)) :: (qZdx x1 x2 x3 x4 x6)
abbrev qZej : Env := (14, .ref 14 0 0) :: (qZdx x1 x2 x3 x4 x6)
end
theorem f_L25_sanity_ok   {r : Bool} (H : f_L25_sanity = some r) : QSpec Tryd.prog 9 [] (.bool r) := by
 refine Spec.of_AW Tryd.func9 rfl (by simp [Tryd.ntmps9]) ?_
 rw [Tryd.ntmps9]
 unfold f_L25_sanity at H
 change AW _ _ _ [] [] _
 refine AW.regionSeq (OpsW.sg 1 [] [] ?_)
 refine OpsW.nil (AW.regionSeq (OpsW.sg 1 [15] [(15, .agg qZex)] ?_))
 refine OpsW.alloc' rfl rfl rfl 1 rfl (by kernel_rfl : zc Tryd.prog 32 = some [.int .i64 0, .int .i64 0, .int .i64 0]) (by kernel_rfl) ?_
 refine OpsW.store rfl rfl rfl rfl trivial trivial rfl rfl rfl (by kernel_rfl) (okCb_sound (by kernel_rfl)) (Nat.le_of_ble_eq_true (by kernel_rfl)) ?_
 change OpsW _ _ _ _ _ [(1, ⟨0, true, 32, 3, qZex⟩), (1, ⟨0, true, 32, 3, [.int .i64 0, .int .i64 0, .int .i64 0]⟩)] _
 refine OpsW.sg 0 [1] [(1, .ref 1 0 0)] ?_
 refine OpsW.recast (env' := [(1, .ref 1 0 0)]) (h' := [(1, ⟨0, true, 32, 3, qZex⟩)]) (StC.mk (phi [(1, some 1)]) (.o rfl (.i3 .nil) .nil) rfl (.cons (.r rfl) .nil)) ?_
 refine OpsW.nil (AW.regionSeq (OpsW.buildTI (enc := eI .u8) [(1 : Int)] rfl rfl rfl E41 (fun _ => rfl) (by decide) ⟨trivial, by kernel_rfl, by kernel_rfl, by kernel_rfl, rfl⟩ ?_))
 refine OpsW.buildTI (enc := eL (eI .u8)) [[(1 : Int)]] rfl rfl rfl E37 (fun _ => rfl) (by decide) ⟨trivial, by kernel_rfl, by kernel_rfl, by kernel_rfl, rfl⟩ ?_
 refine OpsW.sg 1 [2, 1] qZeh ?_
 refine OpsW.nil (AW.regionSeq (OpsW.sg 3 [21, 20, 2, 1] ((21, .agg qZex) :: (20, .agg [.int .i64 0, .int .i64 0, slA (eL (eI .u8)) [[(1 : Int)]], .im (.val (.slice none 0 0))]) :: qZeh) ?_))
 obtain ⟨x1, hx1, H⟩ := bindS H
 refine OpsW.qcall rfl (by kernel_rfl) rfl rfl (glAll_sound trivial) (.cons (ArgS.agg (.cons (.pur rfl) (.cons (.pur rfl) (.cons (.pur rfl) (.cons .nil .nil))))) (.cons (.pur rfl) .nil)) (f_sheet_Press_ok hx1) rfl ?_
 refine OpsW.sg 3 [24, 23, 2, 1] ((24, .int .i64 x1.2) :: (23, .agg (qZeq x1)) :: qZeh) ?_
 refine OpsW.alloc' rfl rfl rfl 3 rfl (by kernel_rfl : zc Tryd.prog 47 = some [.int .i64 0, .int .i64 0, .slice none 0 0, .slice none 0 0]) (by kernel_rfl) ?_
 refine OpsW.store rfl rfl rfl rfl trivial trivial rfl rfl rfl (by kernel_rfl) (okCb_sound (by kernel_rfl)) (Nat.le_of_ble_eq_true (by kernel_rfl)) ?_
 change OpsW _ _ _ _ _ [(3, ⟨0, true, 47, 4, (qZeq x1)⟩), (3, ⟨0, true, 47, 4, qZep⟩), (1, ⟨0, true, 32, 3, qZex⟩)] _
 refine OpsW.sg 1 [4, 3, 2, 1] (qZdw x1) ?_
 refine OpsW.recast (env' := (qZdw x1)) (h' := (qZea x1)) (StC.mk (phi [(1, some 1), (3, some 3)]) (.o rfl (.i3 .nil) (.o rfl (.i4 .nil) .nil)) rfl (.cons .im (.cons (.r rfl) (.cons .im (.cons (.r rfl) .nil))))) ?_
 refine OpsW.nil (AW.regionSeq (OpsW.sg 3 [28, 27, 4, 3, 2, 1] ((28, .agg qZex) :: (27, .agg [.int .i64 0, .int .i64 0, .im (.val (.slice none 0 0)), slA (eL (eI .u8)) [[(1 : Int)]]]) :: (qZdw x1)) ?_))
 obtain ⟨x2, hx2, H⟩ := bindS H
 refine OpsW.qcall rfl (by kernel_rfl) rfl rfl (glAll_sound trivial) (.cons (ArgS.agg (.cons (.pur rfl) (.cons (.pur rfl) (.cons .nil (.cons (.pur rfl) .nil))))) (.cons (.pur rfl) .nil)) (f_sheet_Press_ok hx2) rfl ?_
 refine OpsW.sg 3 [31, 30, 4, 3, 2, 1] ((31, .int .i64 x2.2) :: (30, .agg (qZer x2)) :: (qZdw x1)) ?_
 refine OpsW.alloc' rfl rfl rfl 5 rfl (by kernel_rfl : zc Tryd.prog 47 = some [.int .i64 0, .int .i64 0, .slice none 0 0, .slice none 0 0]) (by kernel_rfl) ?_
 refine OpsW.store rfl rfl rfl rfl trivial trivial rfl rfl rfl (by kernel_rfl) (okCb_sound (by kernel_rfl)) (Nat.le_of_ble_eq_true (by kernel_rfl)) ?_
 change OpsW _ _ _ _ _ ((5, ⟨0, true, 47, 4, (qZer x2)⟩) :: (5, ⟨0, true, 47, 4, qZep⟩) :: (qZea x1)) _
 refine OpsW.sg 1 [6, 5, 4, 3, 2, 1] (qZeb x1 x2) ?_
 refine OpsW.recast (env' := (qZeb x1 x2)) (h' := (qZe5 x1 x2)) (StC.mk (phi [(1, some 1), (3, some 3), (5, some 5)]) (.o rfl (.i3 .nil) (.o rfl (.i4 .nil) (.o rfl (.i4 .nil) .nil))) rfl (.cons .im (.cons (.r rfl) (.cons .im (.cons (.r rfl) (.cons .im (.cons (.r rfl) .nil))))))) ?_
 refine OpsW.nil (AW.regionSeq (OpsW.sg 2 [34, 33, 6, 5, 4, 3, 2, 1] ((34, .agg [.int .i64 23, .int .i64 4, .int .i64 0]) :: (33, .agg qZep) :: (qZeb x1 x2)) ?_))
 obtain ⟨x3, hx3, H⟩ := bindS H
 refine OpsW.qcall rfl (by kernel_rfl) rfl rfl (glAll_sound trivial) (.cons (ArgS.agg (.cons (.pur rfl) (.cons (.pur rfl) (.cons .nil (.cons .nil .nil))))) (.cons (.pur rfl) .nil)) (f_sheet_Press_ok hx3) rfl ?_
 refine OpsW.sg 3 [37, 36, 6, 5, 4, 3, 2, 1] ((37, .int .i64 x3.2) :: (36, .agg (qZfk x3)) :: (qZeb x1 x2)) ?_
 refine OpsW.alloc' rfl rfl rfl 7 rfl (by kernel_rfl : zc Tryd.prog 47 = some [.int .i64 0, .int .i64 0, .slice none 0 0, .slice none 0 0]) (by kernel_rfl) ?_
 refine OpsW.store rfl rfl rfl rfl trivial trivial rfl rfl rfl (by kernel_rfl) (okCb_sound (by kernel_rfl)) (Nat.le_of_ble_eq_true (by kernel_rfl)) ?_
 change OpsW _ _ _ _ _ ((7, ⟨0, true, 47, 4, (qZfk x3)⟩) :: (7, ⟨0, true, 47, 4, qZep⟩) :: (qZe5 x1 x2)) _
 refine OpsW.sg 1 [8, 6, 5, 4, 3, 2, 1] ((8, .int .i64 x3.2) :: (qZeb x1 x2)) ?_
 refine OpsW.recast (env' := ((8, .int .i64 x3.2) :: (qZeb x1 x2))) (h' := (qZe5 x1 x2)) (StC.mk (phi [(1, some 1), (3, some 3), (5, some 5)]) (.o rfl (.i3 .nil) (.o rfl (.i4 .nil) (.o rfl (.i4 .nil) .nil))) rfl (.i2 (.cons (.r rfl) (.cons .im (.cons (.r rfl) (.cons .im (.cons (.r rfl) .nil))))))) ?_
 refine OpsW.nil (AW.regionSeq (OpsW.buildTI (enc := eI .u8) [(1 : Int), (0 : Int)] rfl rfl rfl E41 (fun _ => rfl) (by decide) ⟨trivial, by kernel_rfl, by kernel_rfl, by kernel_rfl, rfl⟩ ?_))
 refine OpsW.buildTI (enc := eL (eI .u8)) [[(1 : Int), (0 : Int)]] rfl rfl rfl E37 (fun _ => rfl) (by decide) ⟨trivial, by kernel_rfl, by kernel_rfl, by kernel_rfl, rfl⟩ ?_
 refine OpsW.sg 2 [42, 41, 8, 6, 5, 4, 3, 2] ((42, .agg qZex) :: (41, .agg [.int .i64 0, .int .i64 0, slA (eL (eI .u8)) [[(1 : Int), (0 : Int)]], .im (.val (.slice none 0 0))]) :: (qZec x1 x2 x3)) ?_
 obtain ⟨x4, hx4, H⟩ := bindS H
 refine OpsW.qcall rfl (by kernel_rfl) rfl rfl (glAll_sound trivial) (.cons (ArgS.agg (.cons (.pur rfl) (.cons (.pur rfl) (.cons (.pur rfl) (.cons .nil .nil))))) (.cons (.pur rfl) .nil)) (f_sheet_Press_ok hx4) rfl ?_
 refine OpsW.sg 3 [45, 44, 8, 6, 5, 4, 3, 2] ((45, .int .i64 x4.2) :: (44, .agg (qZfl x4)) :: (qZec x1 x2 x3)) ?_
 refine OpsW.alloc' rfl rfl rfl 9 rfl (by kernel_rfl : zc Tryd.prog 47 = some [.int .i64 0, .int .i64 0, .slice none 0 0, .slice none 0 0]) (by kernel_rfl) ?_
 refine OpsW.store rfl rfl rfl rfl trivial trivial rfl rfl rfl (by kernel_rfl) (okCb_sound (by kernel_rfl)) (Nat.le_of_ble_eq_true (by kernel_rfl)) ?_
 change OpsW _ _ _ _ _ ((9, ⟨0, true, 47, 4, (qZfl x4)⟩) :: (9, ⟨0, true, 47, 4, qZep⟩) :: (qZe5 x1 x2)) _
 refine OpsW.sg 1 [10, 8, 6, 5, 4, 3, 2] (qZds x1 x2 x3 x4) ?_
 refine OpsW.recast (env' := (qZds x1 x2 x3 x4)) (h' := (qZdt x1 x2)) (StC.mk (phi [(3, some 3), (5, some 5)]) (.o rfl (.i4 .nil) (.o rfl (.i4 .nil) .nil)) rfl (.i3 (.cons (.r rfl) (.cons .im (.cons (.r rfl) (.cons .im .nil)))))) ?_
 refine OpsW.nil (AW.regionSeq ?_)
 obtain ⟨x5, hx5, H⟩ := bindS H
 refine OpsW.call rfl rfl (by kernel_rfl) [] _ _ rfl (glAll_sound trivial) (.cons (.pur rfl) (.cons (.pur rfl) .nil)) (f_R25_Empty_own hx5) ?_
 rintro _ _ ⟨rfl, rfl⟩
 refine ⟨(fresh_F0 rfl rfl), .inl rfl, ?_⟩
 refine OpsW.heapEq (heap_mid0 rfl) ?_
 change OpsW _ _ _ _ ((47, .agg (qZfg x5)) :: (qZds x1 x2 x3 x4)) ((qZe7 x1 x2 x5) ++ fmsH [fmA 11500 4 1 eB x5.Up, fmA 11501 4 1 eB x5.Down]) _
 refine OpsW.recast (env' := ((47, .agg [.int .i64 x5.W, .int .i64 x5.H, .rsl 601 0 0 x5.Up.length, .rsl 602 0 0 x5.Down.length]) :: (qZds x1 x2 x3 x4))) (h' := ((qZed x1 x2 x5) ++ fmsH (qZfd x5))) (StC.mkF (hc := (qZe7 x1 x2 x5)) (fs := [fmA 11500 4 1 eB x5.Up, fmA 11501 4 1 eB x5.Down]) (hc' := (qZed x1 x2 x5)) (fs' := (qZfd x5)) rfl [(601, some 1500), (602, some 1501), (3, some 3), (5, some 5)] [(10601, .same 11500), (10602, .same 11501)] rfl (.o rfl (nsSameA rfl rfl (by decide) rfl rfl rfl) (.o rfl (nsSameA rfl rfl (by decide) rfl rfl rfl) (.o rfl (.i4 .nil) (.o rfl (.i4 .nil) .nil)))) rfl (.cons rfl (fmSame rfl) (.cons rfl (fmSame rfl) .nil)) (.cons (.agg (.i2 (.cons (.s rfl) (.cons (.s rfl) .nil)))) (.i3 (.cons (.r rfl) (.cons .im (.cons (.r rfl) (.cons .im .nil))))))) ?_
 refine OpsW.recast (env' := ((47, .agg [.int .i64 x5.W, .int .i64 x5.H, slA (eL eB) x5.Up, slA (eL eB) x5.Down]) :: (qZds x1 x2 x3 x4))) (h' := (qZdt x1 x2)) (StC.mkF (hc := (qZed x1 x2 x5)) (fs := (qZfd x5)) (hc' := (qZdt x1 x2)) (fs' := []) rfl [(3, some 3), (5, some 5)] [] rfl (.o rfl (.i4 .nil) (.o rfl (.i4 .nil) .nil)) rfl .nil (.cons (.agg (.i2 (.cons (Cst.frzN rfl rfl (fun _ => rfl) rfl rfl rfl) (.cons (Cst.frzN rfl rfl (fun _ => rfl) rfl rfl rfl) .nil)))) (.i3 (.cons (.r rfl) (.cons .im (.cons (.r rfl) (.cons .im .nil))))))) ?_
 obtain ⟨x6, hx6, H⟩ := bindS H
 refine OpsW.qcall rfl (by kernel_rfl) rfl rfl (glAll_sound trivial) (.cons (.pur rfl) .nil) (f_sheet_Leaf_ok hx6) rfl ?_
 refine OpsW.sg 3 [50, 49, 10, 8, 6, 5, 4, 3, 2] ((50, .int .i64 x6.2) :: (49, .agg (qZfb x6)) :: (qZds x1 x2 x3 x4)) ?_
 refine OpsW.alloc' rfl rfl rfl 11 rfl (by kernel_rfl : zc Tryd.prog 39 = some [.int .i64 0, .int .i64 0, .slice none 0 0, .slice none 0 0]) (by kernel_rfl) ?_
 refine OpsW.store rfl rfl rfl rfl trivial trivial rfl rfl rfl (by kernel_rfl) (okCb_sound (by kernel_rfl)) (Nat.le_of_ble_eq_true (by kernel_rfl)) ?_
 change OpsW _ _ _ _ _ ((11, ⟨0, true, 39, 4, (qZfb x6)⟩) :: (11, ⟨0, true, 39, 4, qZep⟩) :: (qZdt x1 x2)) _
 refine OpsW.sg 1 [12, 10, 8, 6, 5, 4, 3, 2] ((12, .int .i64 x6.2) :: (qZds x1 x2 x3 x4)) ?_
 refine OpsW.recast (env' := ((12, .int .i64 x6.2) :: (qZds x1 x2 x3 x4))) (h' := (qZdt x1 x2)) (StC.mk (phi [(3, some 3), (5, some 5)]) (.o rfl (.i4 .nil) (.o rfl (.i4 .nil) .nil)) rfl (.i4 (.cons (.r rfl) (.cons .im (.cons (.r rfl) (.cons .im .nil)))))) ?_
 refine OpsW.nil (AW.regionSeq ?_)
 obtain ⟨x7, hx7, H⟩ := bindS H
 refine OpsW.call rfl rfl (by kernel_rfl) [] _ _ rfl (glAll_sound trivial) (.cons (.pur rfl) (.cons (.pur rfl) .nil)) (f_R25_Empty_own hx7) ?_
 rintro _ _ ⟨rfl, rfl⟩
 refine ⟨(fresh_F0 rfl rfl), .inl rfl, ?_⟩
 refine OpsW.heapEq (heap_mid0 rfl) ?_
 change OpsW _ _ _ _ ((51, .agg (qZfh x7)) :: (12, .int .i64 x6.2) :: (qZds x1 x2 x3 x4)) ((qZe8 x1 x2 x7) ++ fmsH [fmA 11500 4 1 eB x7.Up, fmA 11501 4 1 eB x7.Down]) _
 refine OpsW.recast (env' := (qZef x1 x2 x3 x4 x6 x7)) (h' := ((qZee x1 x2 x7) ++ fmsH (qZf3 x7))) (StC.mkF (hc := (qZe8 x1 x2 x7)) (fs := [fmA 11500 4 1 eB x7.Up, fmA 11501 4 1 eB x7.Down]) (hc' := (qZee x1 x2 x7)) (fs' := (qZf3 x7)) rfl [(601, some 1500), (602, some 1501), (3, some 3), (5, some 5)] [(10601, .same 11500), (10602, .same 11501)] rfl (.o rfl (nsSameA rfl rfl (by decide) rfl rfl rfl) (.o rfl (nsSameA rfl rfl (by decide) rfl rfl rfl) (.o rfl (.i4 .nil) (.o rfl (.i4 .nil) .nil)))) rfl (.cons rfl (fmSame rfl) (.cons rfl (fmSame rfl) .nil)) (.cons (.agg (.i2 (.cons (.s rfl) (.cons (.s rfl) .nil)))) (.i4 (.cons (.r rfl) (.cons .im (.cons (.r rfl) (.cons .im .nil))))))) ?_
 change OpsW _ _ _ _ (qZef x1 x2 x3 x4 x6 x7) ((qZee x1 x2 x7) ++ fmsH (qZf3 x7)) _
 refine OpsW.alloc' rfl rfl rfl 13 (free_f rfl) (by kernel_rfl : zc Tryd.prog 47 = some [.int .i64 0, .int .i64 0, .slice none 0 0, .slice none 0 0]) (by kernel_rfl) ?_
 refine OpsW.store rfl rfl rfl rfl trivial trivial rfl rfl rfl (by kernel_rfl) (okCb_sound (by kernel_rfl)) (Nat.le_of_ble_eq_true (by kernel_rfl)) ?_
 change OpsW _ _ _ _ _ ((qZe2 x1 x2 x7) ++ fmsH (qZf3 x7)) _
 refine OpsW.sg 0 [13, 12, 10, 8, 6, 5, 4, 3, 2] (qZdx x1 x2 x3 x4 x6) ?_
 refine OpsW.recast (env' := (qZdx x1 x2 x3 x4 x6)) (h' := ((qZdv x1 x2 x7) ++ fmsH (qZf5 x7))) (StC.mkF (hc := (qZe2 x1 x2 x7)) (fs := (qZf3 x7)) (hc' := (qZdv x1 x2 x7)) (fs' := (qZf5 x7)) rfl [(3, some 3), (5, some 5), (13, some 13), (5130, some 601), (5131, some 602)] [(15130, .same 10601), (15131, .same 10602)] rfl (.o rfl (.i4 .nil) (.o rfl (.i4 .nil) (.o rfl (.i2 (.cons (.s rfl) (.cons (.s rfl) .nil))) (.o rfl (nsSameA rfl rfl (by decide) rfl rfl rfl) (.o rfl (nsSameA rfl rfl (by decide) rfl rfl rfl) .nil))))) rfl (.cons rfl (fmSame rfl) (.cons rfl (fmSame rfl) .nil)) (.cons (.r rfl) (.i4 (.cons (.r rfl) (.cons .im (.cons (.r rfl) (.cons .im .nil))))))) ?_
 refine OpsW.nil (AW.regionSeq ?_)
 obtain ⟨g8, H⟩ := G_some H
 refine OpsW.sq 3 [54, 13, 12, 10, 8, 6, 5, 4, 3, 2] [0 ≤ (0 : Int) ∧ (0 : Int) < (x7.Up.length : Int)] ((54, .ref 5130 0 qZf6) :: (qZdx x1 x2 x3 x4 x6)) ⟨g8, trivial⟩ ?_
 refine OpsW.asU (.rsl qZf9 0 0 ((x7.Up.getD (0 : Int).toNat []).length)) rfl rfl (T.loadR rfl trivial (by kernel_rfl) rfl rfl rfl (ns_cell (ltN g8) (by first | omega | (simp only [qZf3, qZf5, qZf6, qZf9]; omega)))) ?_
 obtain ⟨g9, H⟩ := G_some H
 change OpsW _ _ _ _ (qZe4 x1 x2 x3 x4 x6 x7) ((qZdv x1 x2 x7) ++ fmsH (qZf5 x7)) _
 refine OpsW.asU (.ref qZf9 0 qZf6) rfl rfl (T.idxF rfl rfl trivial trivial (by kernel_rfl) (by kernel_rfl) (row_f rfl rfl (ltN g8)) rfl rfl g9) ?_
 change OpsW _ _ _ _ ((56, .ref qZf9 0 qZf6) :: (qZe4 x1 x2 x3 x4 x6 x7)) ((qZdv x1 x2 x7) ++ fmsH (qZf5 x7)) _
 refine OpsW.storeN (enc := eB) (k := 1) (xs := x7.Up) (hc' := (qZdq x1 x2 x7)) false true [.val (.bool true)] (0 : Int).toNat (0 : Int).toNat 0 rfl rfl rfl (by first | rfl | exact congrArg (AV.ref qZf9 0) (by first | omega | (simp only [qZel, qZf5, qZf6, qZf9]; omega))) trivial trivial rfl rfl (fun _ => rfl) rfl (by kernel_rfl) (okCb_sound (by kernel_rfl)) (ltN g8) (ltN g9) (Nat.le_of_ble_eq_true (by kernel_rfl)) rfl (by simp only [List.length_set, nsA_set, qZel, qZeq, qZer, qZf0, qZf2, qZf5, qZf6, qZf9, qZdq, qZds, qZdv, qZdx, qZe4]) ?_
 change OpsW _ _ _ _ ((56, .ref qZf9 0 qZf6) :: (qZe4 x1 x2 x3 x4 x6 x7)) ((qZdq x1 x2 x7) ++ fmsH (qZf4 x7)) _
 refine OpsW.sg 0 [13, 12, 10, 8, 6, 5, 4, 3, 2] (qZdx x1 x2 x3 x4 x6) ?_
 refine OpsW.recast (env' := (qZdx x1 x2 x3 x4 x6)) (h' := ((qZdq x1 x2 x7) ++ fmsH (qZf4 x7))) (StC.mkF (hc := (qZdq x1 x2 x7)) (fs := (qZf4 x7)) (hc' := (qZdq x1 x2 x7)) (fs' := (qZf4 x7)) rfl [(3, some 3), (5, some 5), (13, some 13), (5130, some 5130), (5131, some 5131)] [(15130, .same 15130), (15131, .same 15131)] rfl (.o rfl (.i4 .nil) (.o rfl (.i4 .nil) (.o rfl (.i2 (.cons (.s rfl) (.cons (.s rfl) .nil))) (.o rfl (nsSameA rfl rfl (by decide) rfl rfl rfl) (.o rfl (nsSameA rfl rfl (by decide) rfl rfl rfl) .nil))))) rfl (.cons rfl (fmSame rfl) (.cons rfl (fmSame rfl) .nil)) (.cons (.r rfl) (.i4 (.cons (.r rfl) (.cons .im (.cons (.r rfl) (.cons .im .nil))))))) ?_
 refine OpsW.nil (AW.regionSeq ?_)
 obtain ⟨x10, hx10, H⟩ := bindS H
 refine OpsW.call rfl rfl (by kernel_rfl) [] _ _ rfl (glAll_sound trivial) (.cons (.pur rfl) (.cons (.pur rfl) .nil)) (f_R25_Empty_own hx10) ?_
 rintro _ _ ⟨rfl, rfl⟩
 refine ⟨(fresh_F rfl rfl rfl), .inl rfl, ?_⟩
 refine OpsW.heapEq (heap_mid rfl) ?_
 change OpsW _ _ _ _ ((57, .agg (qZfe x10)) :: (qZdx x1 x2 x3 x4 x6)) ((qZe6 x1 x2 x7 x10) ++ fmsH (qZfa x7 x10)) _
 refine OpsW.recast (env' := (qZei x1 x2 x3 x4 x6 x10)) (h' := ((qZeg x1 x2 x7 x10) ++ fmsH (qZet x7 x10))) (StC.mkF (hc := (qZe6 x1 x2 x7 x10)) (fs := (qZfa x7 x10)) (hc' := (qZeg x1 x2 x7 x10)) (fs' := (qZet x7 x10)) rfl [(601, some 1500), (602, some 1501), (3, some 3), (5, some 5), (13, some 13), (5130, some 5130), (5131, some 5131)] [(10601, .same 11500), (10602, .same 11501), (15130, .same 15130), (15131, .same 15131)] rfl (.o rfl (nsSameA rfl rfl (by decide) rfl rfl rfl) (.o rfl (nsSameA rfl rfl (by decide) rfl rfl rfl) (.o rfl (.i4 .nil) (.o rfl (.i4 .nil) (.o rfl (.i2 (.cons (.s rfl) (.cons (.s rfl) .nil))) (.o rfl (nsSameA rfl rfl (by decide) rfl rfl rfl) (.o rfl (nsSameA rfl rfl (by decide) rfl rfl rfl) .nil))))))) rfl (.cons rfl (fmSame rfl) (.cons rfl (fmSame rfl) (.cons rfl (fmSame rfl) (.cons rfl (fmSame rfl) .nil)))) (.cons (.agg (.i2 (.cons (.s rfl) (.cons (.s rfl) .nil)))) (.cons (.r rfl) (.i4 (.cons (.r rfl) (.cons .im (.cons (.r rfl) (.cons .im .nil)))))))) ?_
 change OpsW _ _ _ _ (qZei x1 x2 x3 x4 x6 x10) ((qZeg x1 x2 x7 x10) ++ fmsH (qZet x7 x10)) _
 refine OpsW.alloc' rfl rfl rfl 14 (free_f rfl) (by kernel_rfl : zc Tryd.prog 47 = some [.int .i64 0, .int .i64 0, .slice none 0 0, .slice none 0 0]) (by kernel_rfl) ?_
 refine OpsW.store rfl rfl rfl rfl trivial trivial rfl rfl rfl (by kernel_rfl) (okCb_sound (by kernel_rfl)) (Nat.le_of_ble_eq_true (by kernel_rfl)) ?_
 change OpsW _ _ _ _ _ ((qZe1 x1 x2 x7 x10) ++ fmsH (qZet x7 x10)) _
 refine OpsW.sg 0 [14, 13, 12, 10, 8, 6, 5, 4, 3, 2] (qZej x1 x2 x3 x4 x6) ?_
 refine OpsW.recast (env' := (qZej x1 x2 x3 x4 x6)) (h' := ((qZdu x1 x2 x7 x10) ++ fmsH (qZew x7 x10))) (StC.mkF (hc := (qZe1 x1 x2 x7 x10)) (fs := (qZet x7 x10)) (hc' := (qZdu x1 x2 x7 x10)) (fs' := (qZew x7 x10)) rfl [(3, some 3), (5, some 5), (13, some 13), (14, some 14), (5130, some 5130), (5131, some 5131), (5140, some 601), (5141, some 602)] [(15130, .same 15130), (15131, .same 15131), (15140, .same 10601), (15141, .same 10602)] rfl (.o rfl (.i4 .nil) (.o rfl (.i4 .nil) (.o rfl (.i2 (.cons (.s rfl) (.cons (.s rfl) .nil))) (.o rfl (.i2 (.cons (.s rfl) (.cons (.s rfl) .nil))) (.o rfl (nsSameA rfl rfl (by decide) rfl rfl rfl) (.o rfl (nsSameA rfl rfl (by decide) rfl rfl rfl) (.o rfl (nsSameA rfl rfl (by decide) rfl rfl rfl) (.o rfl (nsSameA rfl rfl (by decide) rfl rfl rfl) .nil)))))))) rfl (.cons rfl (fmSame rfl) (.cons rfl (fmSame rfl) (.cons rfl (fmSame rfl) (.cons rfl (fmSame rfl) .nil)))) (.cons (.r rfl) (.cons (.r rfl) (.i4 (.cons (.r rfl) (.cons .im (.cons (.r rfl) (.cons .im .nil)))))))) ?_
 refine OpsW.nil (AW.regionSeq ?_)
 obtain ⟨g11, H⟩ := G_some H
 refine OpsW.sq 3 [60, 14, 13, 12, 10, 8, 6, 5, 4, 3, 2] [0 ≤ (0 : Int) ∧ (0 : Int) < (x10.Down.length : Int)] ((60, .ref 5141 0 qZf6) :: (qZej x1 x2 x3 x4 x6)) ⟨g11, trivial⟩ ?_
 refine OpsW.asU (.rsl qZf8 0 0 ((x10.Down.getD (0 : Int).toNat []).length)) rfl rfl (T.loadR rfl trivial (by kernel_rfl) rfl rfl rfl (ns_cell (ltN g11) (by first | omega | (simp only [qZel, qZet, qZew, qZf6, qZf8]; omega)))) ?_
 obtain ⟨g12, H⟩ := G_some H
 change OpsW _ _ _ _ (qZe3 x1 x2 x3 x4 x6 x10) ((qZdu x1 x2 x7 x10) ++ fmsH (qZew x7 x10)) _
 refine OpsW.asU (.ref qZf8 0 (0 + (47 : Int).toNat * 1)) rfl rfl (T.idxF rfl rfl trivial trivial (by kernel_rfl) (by kernel_rfl) (row_f rfl rfl (ltN g11)) rfl rfl g12) ?_
 change OpsW _ _ _ _ ((62, .ref qZf8 0 (0 + (47 : Int).toNat * 1)) :: (qZe3 x1 x2 x3 x4 x6 x10)) ((qZdu x1 x2 x7 x10) ++ fmsH (qZew x7 x10)) _
 refine OpsW.storeN (enc := eB) (k := 1) (xs := x10.Down) (hc' := (qZdr x1 x2 x7 x10)) false true [.val (.bool true)] (0 : Int).toNat (47 : Int).toNat 0 rfl rfl rfl (by first | rfl | exact congrArg (AV.ref qZf8 0) (by first | omega | (simp only [qZel, qZeo, qZew, qZf6, qZf8]; omega))) trivial trivial rfl rfl (fun _ => rfl) rfl (by kernel_rfl) (okCb_sound (by kernel_rfl)) (ltN g11) (ltN g12) (Nat.le_of_ble_eq_true (by kernel_rfl)) rfl (by simp only [List.length_set, nsA_set, qZel, qZeo, qZeq, qZer, qZew, qZf0, qZf2, qZf6, qZf8, qZdr, qZds, qZdu, qZdx, qZe3]) ?_
 change OpsW _ _ _ _ ((62, .ref qZf8 0 (0 + (47 : Int).toNat * 1)) :: (qZe3 x1 x2 x3 x4 x6 x10)) ((qZdr x1 x2 x7 x10) ++ fmsH (qZes x7 x10)) _
 refine OpsW.sg 0 [14, 13, 12, 10, 8, 6, 5, 4, 3, 2] (qZej x1 x2 x3 x4 x6) ?_
 refine OpsW.recast (env' := (qZej x1 x2 x3 x4 x6)) (h' := ((qZdr x1 x2 x7 x10) ++ fmsH (qZes x7 x10))) (StC.mkF (hc := (qZdr x1 x2 x7 x10)) (fs := (qZes x7 x10)) (hc' := (qZdr x1 x2 x7 x10)) (fs' := (qZes x7 x10)) rfl [(3, some 3), (5, some 5), (13, some 13), (14, some 14), (5130, some 5130), (5131, some 5131), (5140, some 5140), (5141, some 5141)] [(15130, .same 15130), (15131, .same 15131), (15140, .same 15140), (15141, .same 15141)] rfl (.o rfl (.i4 .nil) (.o rfl (.i4 .nil) (.o rfl (.i2 (.cons (.s rfl) (.cons (.s rfl) .nil))) (.o rfl (.i2 (.cons (.s rfl) (.cons (.s rfl) .nil))) (.o rfl (nsSameA rfl rfl (by decide) rfl rfl rfl) (.o rfl (nsSameA rfl rfl (by decide) rfl rfl rfl) (.o rfl (nsSameA rfl rfl (by decide) rfl rfl rfl) (.o rfl (nsSameA rfl rfl (by decide) rfl rfl rfl) .nil)))))))) rfl (.cons rfl (fmSame rfl) (.cons rfl (fmSame rfl) (.cons rfl (fmSame rfl) (.cons rfl (fmSame rfl) .nil)))) (.cons (.r rfl) (.cons (.r rfl) (.i4 (.cons (.r rfl) (.cons .im (.cons (.r rfl) (.cons .im .nil)))))))) ?_
 refine OpsW.nil (AW.regionSeq (OpsW.recast (env' := (qZej x1 x2 x3 x4 x6)) (h' := (qZdy x1 x2 x7 x10)) (StC.mkF (hc := (qZdr x1 x2 x7 x10)) (fs := (qZes x7 x10)) (hc' := (qZdy x1 x2 x7 x10)) (fs' := []) rfl [(3, some 3), (5, some 5), (13, some 13), (14, some 14)] [] rfl (.o rfl (.i4 .nil) (.o rfl (.i4 .nil) (.o rfl (.i2 (.cons (Cst.frzN rfl rfl (fun _ => rfl) rfl rfl rfl) (.cons (Cst.frzN rfl rfl (fun _ => rfl) rfl rfl rfl) .nil))) (.o rfl (.i2 (.cons (Cst.frzN rfl rfl (fun _ => rfl) rfl rfl rfl) (.cons (Cst.frzN rfl rfl (fun _ => rfl) rfl rfl rfl) .nil))) .nil)))) rfl .nil (.cons (.r rfl) (.cons (.r rfl) (.i4 (.cons (.r rfl) (.cons .im (.cons (.r rfl) (.cons .im .nil)))))))) ?_))
 refine OpsW.sq 21 [83, 82, 81, 14, 13, 5, 2] [(x1.2 == 0) = true → (x1.2 == 0) = true, (x1.2 == 0) = true → (x1.2 == 0) = true, (qZfj x1 x2) = true → (qZfj x1 x2) = true, (qZfj x1 x2) = true → (qZfj x1 x2) = true, (qZeu x1 x2 x3) = true → (qZeu x1 x2 x3) = true, (qZeu x1 x2 x3) = true → (qZeu x1 x2 x3) = true, (qZfc x1 x2 x3 x4) = true → (qZfc x1 x2 x3 x4) = true, (qZfc x1 x2 x3 x4) = true → (qZfc x1 x2 x3 x4) = true] [(83, .cnd (qZem x1 x2 x3 x4 x6) (.agg (qZev x7))), (82, .cnd (qZem x1 x2 x3 x4 x6) (.agg (qZeq x1))), (81, .bool (qZem x1 x2 x3 x4 x6)), (14, .ref 14 0 0), (13, .ref 13 0 0), (5, .ref 5 0 0), qZf0] ⟨(fun h => h), (fun h => by first | exact h | (simpa using h) | grind), (fun h => h), (fun h => by first | exact h | (simpa using h) | grind), (fun h => h), (fun h => by first | exact h | (simpa using h) | grind), (fun h => h), (fun h => by first | exact h | (simpa using h) | grind), trivial⟩ ?_
 obtain ⟨x13, hx13, H⟩ := bindS H
 refine OpsW.gcall (c := cond (qZfc x1 x2 x3 x4) (x6.2 == 250) false) (r := .bool x13) [] rfl (by kernel_rfl) rfl rfl rfl rfl (fun hc => ⟨glAll_sound ⟨hc, hc, trivial⟩, (.cons (.pur rfl) (.cons (.pur rfl) .nil)), f_R25_Equal_ok (condT hc hx13), .inl ⟨rfl, rfl⟩⟩) ?_
 refine OpsW.sq 4 [88, 87, 86, 14, 13, 2] [(qZem x1 x2 x3 x4 x6) = true → (qZem x1 x2 x3 x4 x6) = true] ((88, .cnd (qZf7 x1 x2 x3 x4 x6 x13) (.agg (qZez x10))) :: (87, .cnd (qZf7 x1 x2 x3 x4 x6 x13) (.agg (qZer x2))) :: (86, .bool (qZf7 x1 x2 x3 x4 x6 x13)) :: qZe0) ⟨(fun h => by first | exact h | (simpa using h) | grind), trivial⟩ ?_
 obtain ⟨x14, hx14, H⟩ := bindS H
 refine OpsW.gcall (c := cond (qZem x1 x2 x3 x4 x6) x13 false) (r := .bool x14) [] rfl (by kernel_rfl) rfl rfl rfl rfl (fun hc => ⟨glAll_sound ⟨hc, hc, trivial⟩, (.cons (.pur rfl) (.cons (.pur rfl) .nil)), f_R25_Equal_ok (condT hc hx14), .inl ⟨rfl, rfl⟩⟩) ?_
 refine OpsW.sq 3 [92, 91, 14, 13, 2] [(qZf7 x1 x2 x3 x4 x6 x13) = true → (qZf7 x1 x2 x3 x4 x6 x13) = true] ((92, .cnd (cond (qZf7 x1 x2 x3 x4 x6 x13) x14 false) (.agg (qZev x7))) :: (91, .bool (cond (qZf7 x1 x2 x3 x4 x6 x13) x14 false)) :: qZe0) ⟨(fun h => by first | exact h | (simpa using h) | grind), trivial⟩ ?_
 obtain ⟨x15, hx15, H⟩ := bindS H
 refine OpsW.gcall (c := cond (qZf7 x1 x2 x3 x4 x6 x13) x14 false) (r := .bool x15) [] rfl (by kernel_rfl) rfl rfl rfl rfl (fun hc => ⟨glAll_sound ⟨hc, trivial⟩, (.cons (.pur rfl) .nil), f_sheet_Valid_ok (condT hc hx15), .inl ⟨rfl, rfl⟩⟩) ?_
 refine OpsW.sq 3 [96, 95, 14, 13, 2] [(cond (qZf7 x1 x2 x3 x4 x6 x13) x14 false) = true → (cond (qZf7 x1 x2 x3 x4 x6 x13) x14 false) = true] ((96, .cnd (qZek x1 x2 x3 x4 x6 x13 x14 x15) (.agg qZep)) :: (95, .bool (qZek x1 x2 x3 x4 x6 x13 x14 x15)) :: qZe0) ⟨(fun h => by first | exact h | (simpa using h) | grind), trivial⟩ ?_
 obtain ⟨x16, hx16, H⟩ := bindS H
 refine OpsW.gcall (c := cond (cond (qZf7 x1 x2 x3 x4 x6 x13) x14 false) x15 false) (r := .bool x16) [] rfl (by kernel_rfl) rfl rfl rfl rfl (fun hc => ⟨glAll_sound ⟨hc, trivial⟩, (.cons (ArgS.agg (.cons (.pur rfl) (.cons (.pur rfl) (.cons .nil (.cons .nil .nil))))) .nil), f_sheet_Valid_ok (condT hc hx16), .inl ⟨rfl, rfl⟩⟩) ?_
 refine OpsW.sq 3 [100, 14, 13, 2] [(qZek x1 x2 x3 x4 x6 x13 x14 x15) = true → (qZek x1 x2 x3 x4 x6 x13 x14 x15) = true, (qZek x1 x2 x3 x4 x6 x13 x14 x15) = true → (qZek x1 x2 x3 x4 x6 x13 x14 x15) = true] ((100, .bool (qZfn x1 x2 x3 x4 x6 x13 x14 x15 x16)) :: qZe0) ⟨(fun h => h), (fun h => by first | exact h | (simpa using h) | grind), trivial⟩ ?_
 obtain ⟨x17, hx17, H⟩ := bindS H
 refine OpsW.gcall (c := cond (qZek x1 x2 x3 x4 x6 x13 x14 x15) (!x16) false) (r := .agg [.int .i64 x17.W, .int .i64 x17.H, slA (eL eB) x17.Up, slA (eL eB) x17.Down]) [] rfl (by kernel_rfl) rfl rfl rfl rfl (fun hc => ⟨glAll_sound trivial, (.cons (.pur rfl) (.cons (.pur rfl) .nil)), f_R25_Empty_ok (condT hc hx17), .inl ⟨rfl, rfl⟩⟩) ?_
 obtain ⟨x18, hx18, H⟩ := bindS H
 refine OpsW.gcall (c := cond (qZek x1 x2 x3 x4 x6 x13 x14 x15) (!x16) false) (r := .bool x18) [] rfl (by kernel_rfl) rfl rfl rfl rfl (fun hc => ⟨glAll_sound ⟨hc, trivial⟩, (.cons (.pur rfl) .nil), f_sheet_Valid_ok (condT hc hx18), .inl ⟨rfl, rfl⟩⟩) ?_
 refine OpsW.sq 5 [107, 106, 105, 14, 13, 2] [(qZfn x1 x2 x3 x4 x6 x13 x14 x15 x16) = true → (qZfn x1 x2 x3 x4 x6 x13 x14 x15 x16) = true, (qZfn x1 x2 x3 x4 x6 x13 x14 x15 x16) = true → (qZfn x1 x2 x3 x4 x6 x13 x14 x15 x16) = true] ((107, .cnd (qZey x1 x2 x3 x4 x6 x13 x14 x15 x16 x18) (.agg (qZez x10))) :: (106, .cnd (qZey x1 x2 x3 x4 x6 x13 x14 x15 x16 x18) (.agg (qZev x7))) :: (105, .bool (qZey x1 x2 x3 x4 x6 x13 x14 x15 x16 x18)) :: qZe0) ⟨(fun h => h), (fun h => by first | exact h | (simpa using h) | grind), trivial⟩ ?_
 obtain ⟨x19, hx19, H⟩ := bindS H
 refine OpsW.gcall (c := cond (qZfn x1 x2 x3 x4 x6 x13 x14 x15 x16) (!x18) false) (r := .bool x19) [] rfl (by kernel_rfl) rfl rfl rfl rfl (fun hc => ⟨glAll_sound ⟨hc, hc, trivial⟩, (.cons (.pur rfl) (.cons (.pur rfl) .nil)), f_sheet_Equal_ok (condT hc hx19), .inl ⟨rfl, rfl⟩⟩) ?_
 refine OpsW.sq 4 [112, 111, 14, 13, 2] [(qZey x1 x2 x3 x4 x6 x13 x14 x15 x16 x18) = true → (qZey x1 x2 x3 x4 x6 x13 x14 x15 x16 x18) = true, (qZey x1 x2 x3 x4 x6 x13 x14 x15 x16 x18) = true → (qZey x1 x2 x3 x4 x6 x13 x14 x15 x16 x18) = true] ((112, .cnd (qZen x1 x2 x3 x4 x6 x13 x14 x15 x16 x18 x19) (.agg (qZev x7))) :: (qZe9 x1 x2 x3 x4 x6 x13 x14 x15 x16 x18 x19)) ⟨(fun h => h), (fun h => by first | exact h | (simpa using h) | grind), trivial⟩ ?_
 obtain ⟨x20, hx20, H⟩ := bindS H
 refine OpsW.gcall (c := cond (qZey x1 x2 x3 x4 x6 x13 x14 x15 x16 x18) (!x19) false) (r := slA (eL (eI .u8)) x20) [] rfl (by kernel_rfl) rfl rfl rfl rfl (fun hc => ⟨glAll_sound ⟨hc, trivial⟩, (.cons (.pur rfl) .nil), f_sheet_Front_ok (condT hc hx20), .inl ⟨rfl, rfl⟩⟩) ?_
 refine OpsW.sg 1 [114, 113, 111, 14, 13, 2] ((114, .cnd (qZen x1 x2 x3 x4 x6 x13 x14 x15 x16 x18 x19) (slA (eL (eI .u8)) [[(1 : Int)]])) :: (113, .cnd (qZen x1 x2 x3 x4 x6 x13 x14 x15 x16 x18 x19) (slA (eL (eI .u8)) x20)) :: (qZe9 x1 x2 x3 x4 x6 x13 x14 x15 x16 x18 x19)) ?_
 obtain ⟨x21, hx21, H⟩ := bindS H
 refine OpsW.gcall (c := cond (qZey x1 x2 x3 x4 x6 x13 x14 x15 x16 x18) (!x19) false) (r := .bool x21) [] rfl (by kernel_rfl) rfl rfl rfl rfl (fun hc => ⟨glAll_sound ⟨hc, hc, trivial⟩, (.cons (.pur rfl) (.cons (.pur rfl) .nil)), f_R25_SamePage_ok (condT hc hx21), .inl ⟨rfl, rfl⟩⟩) ?_
 refine OpsW.sq 3 [118, 117, 13, 2] [(qZen x1 x2 x3 x4 x6 x13 x14 x15 x16 x18 x19) = true → (qZen x1 x2 x3 x4 x6 x13 x14 x15 x16 x18 x19) = true] [(118, .cnd (qZf1 x1 x2 x3 x4 x6 x13 x14 x15 x16 x18 x19 x21) (.agg (qZez x10))), (117, .bool (qZf1 x1 x2 x3 x4 x6 x13 x14 x15 x16 x18 x19 x21)), (13, .ref 13 0 0), qZf0] ⟨(fun h => by first | exact h | (simpa using h) | grind), trivial⟩ ?_
 obtain ⟨x22, hx22, H⟩ := bindS H
 refine OpsW.gcall (c := cond (qZen x1 x2 x3 x4 x6 x13 x14 x15 x16 x18 x19) x21 false) (r := slA (eL (eI .u8)) x22) [] rfl (by kernel_rfl) rfl rfl rfl rfl (fun hc => ⟨glAll_sound ⟨hc, trivial⟩, (.cons (.pur rfl) .nil), f_sheet_Back_ok (condT hc hx22), .inl ⟨rfl, rfl⟩⟩) ?_
 refine OpsW.sg 1 [120, 119, 117, 13] [(120, .cnd (qZf1 x1 x2 x3 x4 x6 x13 x14 x15 x16 x18 x19 x21) (slA (eL (eI .u8)) [[(1 : Int)]])), (119, .cnd (qZf1 x1 x2 x3 x4 x6 x13 x14 x15 x16 x18 x19 x21) (slA (eL (eI .u8)) x22)), (117, .bool (qZf1 x1 x2 x3 x4 x6 x13 x14 x15 x16 x18 x19 x21)), (13, .ref 13 0 0)] ?_
 obtain ⟨x23, hx23, H⟩ := bindS H
 refine OpsW.gcall (c := cond (qZen x1 x2 x3 x4 x6 x13 x14 x15 x16 x18 x19) x21 false) (r := .bool x23) [] rfl (by kernel_rfl) rfl rfl rfl rfl (fun hc => ⟨glAll_sound ⟨hc, hc, trivial⟩, (.cons (.pur rfl) (.cons (.pur rfl) .nil)), f_R25_SamePage_ok (condT hc hx23), .inl ⟨rfl, rfl⟩⟩) ?_
 refine OpsW.sq 3 [124, 123] [(qZf1 x1 x2 x3 x4 x6 x13 x14 x15 x16 x18 x19 x21) = true → (qZf1 x1 x2 x3 x4 x6 x13 x14 x15 x16 x18 x19 x21) = true] [(124, .cnd (qZfm x1 x2 x3 x4 x6 x13 x14 x15 x16 x18 x19 x21 x23) (.agg (qZev x7))), (123, .bool (qZfm x1 x2 x3 x4 x6 x13 x14 x15 x16 x18 x19 x21 x23))] ⟨(fun h => by first | exact h | (simpa using h) | grind), trivial⟩ ?_
 obtain ⟨x24, hx24, H⟩ := bindS H
 refine OpsW.gcall (c := cond (qZf1 x1 x2 x3 x4 x6 x13 x14 x15 x16 x18 x19 x21) x23 false) (r := slA (eL (eI .u8)) x24) [] rfl (by kernel_rfl) rfl rfl rfl rfl (fun hc => ⟨glAll_sound ⟨hc, trivial⟩, (.cons (.pur rfl) .nil), f_sheet_Back_ok (condT hc hx24), .inl ⟨rfl, rfl⟩⟩) ?_
 refine OpsW.sq 4 [0] [(qZfm x1 x2 x3 x4 x6 x13 x14 x15 x16 x18 x19 x21 x23) = true → (qZfm x1 x2 x3 x4 x6 x13 x14 x15 x16 x18 x19 x21 x23) = true, (qZfm x1 x2 x3 x4 x6 x13 x14 x15 x16 x18 x19 x21 x23) = true → (qZfm x1 x2 x3 x4 x6 x13 x14 x15 x16 x18 x19 x21 x23) = true, (qZfm x1 x2 x3 x4 x6 x13 x14 x15 x16 x18 x19 x21 x23) = true → (qZfm x1 x2 x3 x4 x6 x13 x14 x15 x16 x18 x19 x21 x23) = true] (qZdz x1 x2 x3 x4 x6 x13 x14 x15 x16 x18 x19 x21 x23 x24) ⟨(fun h => h), (fun h => h), (fun h => by first | exact h | (simpa using h) | grind), trivial⟩ ?_
 refine OpsW.recast (env' := (qZdz x1 x2 x3 x4 x6 x13 x14 x15 x16 x18 x19 x21 x23 x24)) (h' := []) (StC.pure (.cons .im .nil)) ?_
 refine OpsW.nil ?_
 obtain rfl := Option.some.inj H
 refine AW.recast (env' := (qZdz x1 x2 x3 x4 x6 x13 x14 x15 x16 x18 x19 x21 x23 x24)) (h' := []) (StC.pure (.cons .im .nil)) ?_
 refine AW.ret ?_
 refine Done.gen rfl (.tmp .nil) ?_
 show _ = _
 kernel_rfl
def f_R25_Format (t0 : S_Raw) : Option S_Format :=
 G (inR ((24 : Int) + (IntKind.wrap .i64 (Int.tmod t0.W (7 : Int))))) <|
 G (inR ((4 : Int) + (IntKind.wrap .i64 (Int.tmod t0.H (5 : Int))))) <|
 some (⟨(24 : Int) + (IntKind.wrap .i64 (Int.tmod t0.W (7 : Int))), (4 : Int) + (IntKind.wrap .i64 (Int.tmod t0.H (5 : Int))), (1 : Int)⟩ : S_Format)
section
variable (t0 : S_Raw)
abbrev qZfq : List AV := [.int .u8 t0.W, .int .u8 t0.H, slA (eL (eI .u8)) t0.Front, slA (eL (eI .u8)) t0.Back, .int .u8 t0.Head.Width, .int .u16 t0.Head.N, .int .u8 t0.Head.K, .bool t0.Head.Back, .int .u16 t0.Head.Ink, .int .u8 t0.Head.Part]
abbrev qZfr : List AV := [.int .i64 ((24 : Int) + (IntKind.wrap .i64 (Int.tmod t0.W (7 : Int)))), .int .i64 ((4 : Int) + (IntKind.wrap .i64 (Int.tmod t0.H (5 : Int)))), .int .i64 1]
abbrev qZfo : Hp := [(1, ⟨0, true, 27, 10, (qZfq t0)⟩), (2, ⟨0, true, 32, 3, [.int .i64 0, .int .i64 0, .int .i64 0]⟩)]
abbrev qZfp : Hp := [(2, ⟨0, true, 32, 3, (qZfr t0)⟩)]
end
theorem f_R25_Format_ok  {t0 : S_Raw} {r : S_Format} (H : f_R25_Format t0 = some r) : QSpec Tryd.prog 10 [.agg [.int .u8 t0.W, .int .u8 t0.H, slA (eL (eI .u8)) t0.Front, slA (eL (eI .u8)) t0.Back, .int .u8 t0.Head.Width, .int .u16 t0.Head.N, .int .u8 t0.Head.K, .bool t0.Head.Back, .int .u16 t0.Head.Ink, .int .u8 t0.Head.Part]] (.agg [.int .i64 r.Width, .int .i64 r.Height, .int .i64 r.Binding]) := by
 refine Spec.of_AW Tryd.func10 rfl (by simp [Tryd.ntmps10]) ?_
 rw [Tryd.ntmps10]
 unfold f_R25_Format at H
 change AW _ _ _ [(0, .agg (qZfq t0))] [] _
 refine AW.regionSeq (OpsW.box rfl rfl rfl 1 rfl (okCb_sound (by kernel_rfl)) ?_)
 change OpsW _ _ _ _ _ [(1, ⟨0, true, 27, 10, (qZfq t0)⟩)] _
 refine OpsW.alloc' rfl rfl rfl 2 rfl (by kernel_rfl : zc Tryd.prog 32 = some [.int .i64 0, .int .i64 0, .int .i64 0]) (by kernel_rfl) ?_
 refine OpsW.sg 0 [2, 1] [(2, .ref 2 0 0), (1, .ref 1 0 0)] ?_
 refine OpsW.recast (env' := [(2, .ref 2 0 0), (1, .ref 1 0 0)]) (h' := (qZfo t0)) (StC.mk (phi [(1, some 1), (2, some 2)]) (.o rfl (.i9 (.cons .im .nil)) (.o rfl (.i3 .nil) .nil)) rfl (.cons (.r rfl) (.cons (.r rfl) .nil))) ?_
 refine OpsW.nil (AW.regionSeq ?_)
 obtain ⟨g1, H⟩ := G_some H
 obtain ⟨g2, H⟩ := G_some H
 refine OpsW.sq 11 [13, 2] [(7 : Int) ≠ 0, inR ((24 : Int) + (IntKind.wrap .i64 (Int.tmod t0.W (7 : Int)))), (5 : Int) ≠ 0, inR ((4 : Int) + (IntKind.wrap .i64 (Int.tmod t0.H (5 : Int))))] [(13, .agg (qZfr t0)), (2, .ref 2 0 0)] ⟨(by decide), g1, (by decide), g2, trivial⟩ ?_
 refine OpsW.store rfl rfl rfl rfl trivial trivial rfl rfl rfl (by kernel_rfl) (okCb_sound (by kernel_rfl)) (Nat.le_of_ble_eq_true (by kernel_rfl)) ?_
 change OpsW _ _ _ _ _ ((2, ⟨0, true, 32, 3, (qZfr t0)⟩) :: (qZfo t0)) _
 refine OpsW.sg 0 [2] [(2, .ref 2 0 0)] ?_
 refine OpsW.recast (env' := [(2, .ref 2 0 0)]) (h' := (qZfp t0)) (StC.mk (phi [(2, some 2)]) (.o rfl (.i3 .nil) .nil) rfl (.cons (.r rfl) .nil)) ?_
 refine OpsW.nil ?_
 obtain rfl := Option.some.inj H
 refine AW.recast (env' := [(2, .ref 2 0 0)]) (h' := (qZfp t0)) (StC.mk (phi [(2, some 2)]) (.o rfl (.i3 .nil) .nil) rfl (.cons (.r rfl) .nil)) ?_
 refine AW.ret ?_
 refine Done.gen rfl (.cell rfl (by kernel_rfl) .nil) ?_
 show _ = _
 kernel_rfl
def f_R01_Cells_b1 (t0 : List Int) (t1 : Int) (loop3 : ((List Int) × Int) → Option (List Int)) (v1 : List Int) (v2 : Int) : Option (List Int) :=
 cond (cond (decide (v2 < (t0.length : Int))) (decide (v2 < t1)) false) (
  G (0 ≤ v2 ∧ v2 < (t0.length : Int)) <|
  G (room 1 (v1.length + 1)) <|
  G (inR (v2 + 1)) <|
  loop3 (v1 ++ [Int.tmod (t0.getD v2.toNat 0) (64 : Int)], v2 + 1)) (
  some v1)
def f_R01_Cells (t0 : List Int) (t1 : Int) : Option (List Int) :=
 iter (fun loop (s : (List Int) × Int) => f_R01_Cells_b1 t0 t1 loop s.1 s.2) 1000000 (([] : List Int), (0 : Int))
section
variable (t0 : List Int) (t1 : Int) (v1 : List Int) (v2 : Int)
abbrev qZfu := (decide (v2 < (t0.length : Int)))
abbrev qZfv := (v1 ++ [Int.tmod (t0.getD v2.toNat 0) (64 : Int)])
abbrev qZfs : Env := [(0, slA (eI .u8) t0), (1, .int .i64 t1), (5, .rsl 5 0 0 v1.length), (6, .int .i64 v2)]
abbrev qZft : Env := [(0, slA (eI .u8) t0), (1, .int .i64 t1)]
end
theorem f_R01_Cells_ok  {t0 : List Int} {t1 : Int} {r : List Int} (H : f_R01_Cells t0 t1 = some r) : QSpec Tryd.prog 49 [slA (eI .u8) t0, .int .i64 t1] (slA (eI .u8) r) := by
 refine Spec.of_AW Tryd.func49 rfl (by simp [Tryd.ntmps49]) ?_
 rw [Tryd.ntmps49]
 unfold f_R01_Cells at H
 change AW _ _ _ (qZft t0 t1) [] _
 refine AW.regionSeq (OpsW.sg 1 [0, 1] (qZft t0 t1) ?_)
 refine OpsW.nil (AW.regionSeq (OpsW.buildT (enc := eI .u8) ([] : List Int) rfl rfl rfl 7 rfl E41 (fun _ => rfl) (by decide) trivial (by kernel_rfl) (by kernel_rfl) (by kernel_rfl) rfl ?_))
 refine OpsW.sg 1 [5, 0, 1] ((5, .rsl 7 0 0 (([] : List Int).length)) :: (qZft t0 t1)) ?_
 refine OpsW.recast (env' := ((5, .rsl 5 0 0 (([] : List Int).length)) :: (qZft t0 t1))) (h' := [(5, rtA 0 42 1 (eI .u8) ([] : List Int))]) (StC.mk (phi [(5, some 7)]) (.o rfl (CstL.ims _) .nil) rfl (.cons (.s rfl) (.i2 .nil))) ?_
 refine OpsW.nil (AW.seq (AW.regionSeq (OpsW.sg 1 [6, 5, 0, 1] ((6, .int .i64 0) :: (5, .rsl 5 0 0 (([] : List Int).length)) :: (qZft t0 t1)) ?_)))
 refine OpsW.nil (AW.block ?_)
 refine AW.iterK (fun loop (s : (List Int) × Int) => f_R01_Cells_b1 t0 t1 loop s.1 s.2) r (fun (s : (List Int) × Int) => [(0, slA (eI .u8) t0), (1, .int .i64 t1), (5, .rsl 5 0 0 s.1.length), (6, .int .i64 s.2)]) (fun (s : (List Int) × Int) => [(5, rtA 0 42 1 (eI .u8) s.1)]) ?_ 1000000 (([] : List Int), (0 : Int)) H (StC.mk (phi [(5, some 5)]) (.o rfl (CstL.ims _) .nil) rfl (.i2 (.cons (.s rfl) (.cons .im .nil))))
 intro loop3 s H
 obtain ⟨v1, v2⟩ := s
 change f_R01_Cells_b1 t0 t1 loop3 v1 v2 = some r at H
 unfold f_R01_Cells_b1 at H
 change AW _ _ _ (qZfs t0 t1 v1 v2) [(5, rtA 0 42 1 (eI .u8) v1)] _
 refine AW.seq (AW.regionSeq (OpsW.sq 9 [16, 0, 1, 5, 6] [(qZfu t0 v2) = true → (qZfu t0 v2) = true, (qZfu t0 v2) = true → (qZfu t0 v2) = true, (qZfu t0 v2) = true → (qZfu t0 v2) = true] ((16, .bool (cond (qZfu t0 v2) (decide (v2 < t1)) false)) :: (qZfs t0 t1 v1 v2)) ⟨(fun h => h), (fun h => h), (fun h => by first | exact h | (simpa using h) | grind), trivial⟩ ?_))
 refine OpsW.nil (AW.cond (b := cond (qZfu t0 v2) (decide (v2 < t1)) false) rfl (fun c4 => ?_) (fun c4 => ?_))
 ·replace H := condT c4 H
  refine AW.skip (AW.seq (AW.block (AW.region ?_)))
  obtain ⟨g5, H⟩ := G_some H
  refine OpsW.sq 4 [22, 19, 0, 1, 5, 6] [0 ≤ v2 ∧ v2 < (t0.length : Int)] ((22, .ipt (t0.flatMap (eI .u8)) (v2.toNat * 1)) :: (19, .rsl 5 0 0 v1.length) :: (qZfs t0 t1 v1 v2)) ⟨g5, trivial⟩ ?_
  refine OpsW.asU (.int .u8 (t0.getD v2.toNat 0)) rfl rfl (T.load rfl trivial (by kernel_rfl) (fm_cell0 (eI .u8) 1 (fun _ => rfl) t0 (0 : Int) v2.toNat (ltN g5) (fun a => .val (.int .u8 a)) (fun _ => rfl))) ?_
  refine OpsW.sq 1 [24, 19, 0, 1, 5, 6] [(64 : Int) ≠ 0] ((24, .int .u8 (Int.tmod (t0.getD v2.toNat 0) (64 : Int))) :: (19, .rsl 5 0 0 v1.length) :: (qZfs t0 t1 v1 v2)) ⟨(by decide), trivial⟩ ?_
  obtain ⟨g6, H⟩ := G_some H
  refine OpsW.appendLF (enc := eI .u8) [Int.tmod (t0.getD v2.toNat 0) (64 : Int)] rfl rfl rfl (by decide) rfl rfl rfl (by simp) E41 (fun _ => rfl) (by decide) trivial (by kernel_rfl) (by kernel_rfl) (by kernel_rfl) rfl rfl rfl g6 ?_
  refine OpsW.sg 1 [5, 0, 1, 6] [(5, .rsl 5 1 0 ((qZfv t0 v1 v2).length)), (0, slA (eI .u8) t0), (1, .int .i64 t1), (6, .int .i64 v2)] ?_
  refine OpsW.recast (env' := [(5, .rsl 5 0 0 ((qZfv t0 v1 v2).length)), (0, slA (eI .u8) t0), (1, .int .i64 t1), (6, .int .i64 v2)]) (h' := [(5, rtA 0 42 1 (eI .u8) (qZfv t0 v1 v2))]) (StC.mk (phi [(5, some 5)]) (.o rfl (CstL.ims _) .nil) rfl (.cons (.s rfl) (.i3 .nil))) ?_
  refine OpsW.nil (AW.region ?_)
  obtain ⟨g7, H⟩ := G_some H
  refine OpsW.sq 3 [6, 5, 0, 1] [inR (v2 + 1)] ((6, .int .i64 (v2 + 1)) :: (5, .rsl 5 0 0 ((qZfv t0 v1 v2).length)) :: (qZft t0 t1)) ⟨g7, trivial⟩ ?_
  refine OpsW.nil ?_
  show ∃ y, _ ∧ StC _ _ _ _
  exact ⟨(v1 ++ [Int.tmod (t0.getD v2.toNat 0) (64 : Int)], v2 + 1), H, (StC.mk (phi [(5, some 5)]) (.o rfl (CstL.ims _) .nil) rfl (.i2 (.cons (.s rfl) (.cons .im .nil))))⟩
 replace H := condF c4 H
 refine AW.exit ?_
 refine AW.regionSeq (OpsW.sg 2 [4] [(4, .rsl 5 0 0 v1.length)] ?_)
 refine OpsW.recast (env' := [(4, slA (eI .u8) v1)]) (h' := []) (StC.mk (phi []) .nil rfl (.cons (.frz rfl rfl rfl (frz_all (eI .u8) 1 (fun _ => rfl) v1) (fm_length (eI .u8) 1 (fun _ => rfl) v1) (phi_ne rfl)) .nil)) ?_
 refine OpsW.nil ?_
 obtain rfl := Option.some.inj H
 refine AW.recast (env' := [(4, slA (eI .u8) v1)]) (h' := []) (StC.pure (.cons .im .nil)) ?_
 refine AW.ret ?_
 refine Done.gen rfl (.tmp .nil) ?_
 show _ = _
 kernel_rfl
def f_R25_lines_b1 (loop3 : ((List (List Int)) × Int) → Option (List (List Int))) (v1 : List (List Int)) (v2 : Int) (x6 : List Int) (loop8 : (Int) → Option (List (List Int))) (v7 : Int) : Option (List (List Int)) :=
 G ((decide (0 < v7)) = true → inR (v7 - 1)) <|
 G ((decide (0 < v7)) = true → (0 ≤ (v7 - 1) ∧ (v7 - 1) < (x6.length : Int))) <|
 cond (cond (decide (0 < v7)) ((x6.getD (v7 - 1).toNat (0 : Int)) == 0) false) (
  G (inR (v7 - 1)) <|
  loop8 (v7 - 1)) (
  G (0 ≤ v7 ∧ v7 ≤ (x6.length : Int)) <|
  G (room 24 (v1.length + 1)) <|
  G (inR (v2 + 1)) <|
  loop3 (v1 ++ [x6.take v7.toNat], v2 + 1))
def f_R25_lines_b2 (loop17 : ((List (List Int))) → Option (List (List Int))) (v16 : List (List Int)) : Option (List (List Int)) :=
 G ((decide ((0 : Int) < (v16.length : Int))) = true → inR ((v16.length : Int) - 1)) <|
 G ((decide ((0 : Int) < (v16.length : Int))) = true → (0 ≤ ((v16.length : Int) - 1) ∧ ((v16.length : Int) - 1) < (v16.length : Int))) <|
 cond (cond (decide ((0 : Int) < (v16.length : Int))) (((v16.getD ((v16.length : Int) - 1).toNat []).length : Int) == (0 : Int)) false) (
  G (inR ((v16.length : Int) - 1)) <|
  G (0 ≤ ((v16.length : Int) - 1) ∧ ((v16.length : Int) - 1) ≤ (v16.length : Int)) <|
  loop17 (v16.take (((v16.length : Int) - 1).toNat))) (
  some v16)
def f_R25_lines_b3 (t0 : List (List Int)) (t1 : Int) (t2 : Int) (loop3 : ((List (List Int)) × Int) → Option (List (List Int))) (v1 : List (List Int)) (v2 : Int) : Option (List (List Int)) :=
 cond (cond (decide (v2 < (t0.length : Int))) (decide (v2 < t2)) false) (
  G (0 ≤ v2 ∧ v2 < (t0.length : Int)) <|
  (f_R01_Cells (t0.getD v2.toNat []) t1).bind fun x6 =>
  iter (fun loop (s : Int) => f_R25_lines_b1 loop3 v1 v2 x6 loop s) 1000000 (x6.length : Int)) (
  iter (fun loop (s : (List (List Int))) => f_R25_lines_b2 loop s) 1000000 v1)
def f_R25_lines (t0 : List (List Int)) (t1 : Int) (t2 : Int) : Option (List (List Int)) :=
 iter (fun loop (s : (List (List Int)) × Int) => f_R25_lines_b3 t0 t1 t2 loop s.1 s.2) 1000000 (([] : List (List Int)), (0 : Int))
section
variable (t0 : List (List Int)) (t1 : Int) (t2 : Int) (v1 : List (List Int)) (v2 : Int) (v7 : Int) (v16 : List (List Int)) (x6 : List Int)
abbrev qZfz := (decide ((0 : Int) < (v16.length : Int)))
abbrev qZg0 := ((v16.length : Int) - 1)
abbrev qZg1 := (decide (v2 < (t0.length : Int)))
abbrev qZg2 := decide (0 < v7)
abbrev qZg3 : Nat × AV := (0, slA (eL (eI .u8)) t0)
abbrev qZg4 := ([] : List (List Int))
abbrev qZg5 := List (List Int)
abbrev qZfw : Env := [(qZg3 t0), (1, .int .i64 t1), (2, .int .i64 t2), (7, .rsl 7 0 0 v1.length), (8, .int .i64 v2)]
abbrev qZfx : Env := [(qZg3 t0), (1, .int .i64 t1), (2, .int .i64 t2), (7, .rsl 7 0 0 v1.length), (8, .int .i64 v2), (9, slA (eI .u8) x6), (10, .int .i64 v7)]
abbrev qZfy : Env := [(qZg3 t0), (1, .int .i64 t1), (2, .int .i64 t2)]
end
theorem f_R25_lines_own {t0 : List (List Int)} {t1 : Int} {t2 : Int} {r : List (List Int)} (H : f_R25_lines t0 t1 t2 = some r) : Abs.Spec Tryd.prog 29 [slA (eL (eI .u8)) t0, .int .i64 t1, .int .i64 t2] [] (fun x h => x = .rsl 1000 0 0 r.length ∧ h = [(1000, rtA 0 41 1 (eL (eI .u8)) r)]) := by
 refine Spec.of_AW Tryd.func29 rfl (by simp [Tryd.ntmps29]) ?_
 rw [Tryd.ntmps29]
 unfold f_R25_lines at H
 change AW _ _ _ (qZfy t0 t1 t2) [] _
 refine AW.regionSeq (OpsW.sg 1 [0, 1, 2] (qZfy t0 t1 t2) ?_)
 refine OpsW.nil (AW.regionSeq (OpsW.buildT (enc := eL (eI .u8)) qZg4 rfl rfl rfl 11 rfl E37 (fun _ => rfl) (by decide) trivial (by kernel_rfl) (by kernel_rfl) (by kernel_rfl) rfl ?_))
 refine OpsW.sg 1 [7, 0, 1, 2] ((7, .rsl 11 0 0 (qZg4.length)) :: (qZfy t0 t1 t2)) ?_
 refine OpsW.recast (env' := ((7, .rsl 7 0 0 (qZg4.length)) :: (qZfy t0 t1 t2))) (h' := [(7, rtA 0 41 1 (eL (eI .u8)) qZg4)]) (StC.mk (phi [(7, some 11)]) (.o rfl (CstL.ims _) .nil) rfl (.cons (.s rfl) (.i3 .nil))) ?_
 refine OpsW.nil (AW.seq (AW.regionSeq (OpsW.sg 1 [8, 7, 0, 1, 2] ((8, .int .i64 0) :: (7, .rsl 7 0 0 (qZg4.length)) :: (qZfy t0 t1 t2)) ?_)))
 refine OpsW.nil (AW.block ?_)
 refine AW.iterK (fun loop (s : qZg5 × Int) => f_R25_lines_b3 t0 t1 t2 loop s.1 s.2) r (fun (s : qZg5 × Int) => [(qZg3 t0), (1, .int .i64 t1), (2, .int .i64 t2), (7, .rsl 7 0 0 s.1.length), (8, .int .i64 s.2)]) (fun (s : qZg5 × Int) => [(7, rtA 0 41 1 (eL (eI .u8)) s.1)]) ?_ 1000000 (qZg4, (0 : Int)) H (StC.mk (phi [(7, some 7)]) (.o rfl (CstL.ims _) .nil) rfl (.i3 (.cons (.s rfl) (.cons .im .nil))))
 intro loop3 s H
 obtain ⟨v1, v2⟩ := s
 change f_R25_lines_b3 t0 t1 t2 loop3 v1 v2 = some r at H
 unfold f_R25_lines_b3 at H
 change AW _ _ _ (qZfw t0 t1 t2 v1 v2) [(7, rtA 0 41 1 (eL (eI .u8)) v1)] _
 refine AW.seq (AW.regionSeq (OpsW.sq 9 [20, 0, 1, 2, 7, 8] [(qZg1 t0 v2) = true → (qZg1 t0 v2) = true, (qZg1 t0 v2) = true → (qZg1 t0 v2) = true, (qZg1 t0 v2) = true → (qZg1 t0 v2) = true] ((20, .bool (cond (qZg1 t0 v2) (decide (v2 < t2)) false)) :: (qZfw t0 t1 t2 v1 v2)) ⟨(fun h => h), (fun h => h), (fun h => by first | exact h | (simpa using h) | grind), trivial⟩ ?_))
 refine OpsW.nil (AW.cond (b := cond (qZg1 t0 v2) (decide (v2 < t2)) false) rfl (fun c4 => ?_) (fun c4 => ?_))
 ·replace H := condT c4 H
  refine AW.skip (AW.seq (AW.block (AW.regionSeq ?_)))
  obtain ⟨g5, H⟩ := G_some H
  refine OpsW.sq 3 [25, 0, 1, 2, 7, 8] [0 ≤ v2 ∧ v2 < (t0.length : Int)] ((25, .ipt (t0.flatMap (eL (eI .u8))) (v2.toNat * 1)) :: (qZfw t0 t1 t2 v1 v2)) ⟨g5, trivial⟩ ?_
  refine OpsW.asU (slA (eI .u8) (t0.getD v2.toNat [])) rfl rfl (T.load rfl trivial (by kernel_rfl) (fm_cell0 (eL (eI .u8)) 1 (fun _ => rfl) t0 [] v2.toNat (ltN g5) (fun a => .sl (a.flatMap (eI .u8)) a.length) (fun _ => rfl))) ?_
  refine OpsW.sg 1 [27, 26, 0, 1, 2, 7, 8] ((27, .int .i64 t1) :: (26, slA (eI .u8) (t0.getD v2.toNat [])) :: (qZfw t0 t1 t2 v1 v2)) ?_
  obtain ⟨x6, hx6, H⟩ := bindS H
  refine OpsW.qcall rfl (by kernel_rfl) rfl rfl (glAll_sound trivial) (.cons (.pur rfl) (.cons (.pur rfl) .nil)) (f_R01_Cells_ok hx6) rfl ?_
  refine OpsW.sg 1 [9, 0, 1, 2, 7, 8] ((9, slA (eI .u8) x6) :: (qZfw t0 t1 t2 v1 v2)) ?_
  refine OpsW.nil (AW.regionSeq (OpsW.sg 3 [10, 9, 0, 1, 2, 7, 8] ((10, .int .i64 (x6.length : Int)) :: (9, slA (eI .u8) x6) :: (qZfw t0 t1 t2 v1 v2)) ?_))
  refine OpsW.nil (AW.seq (AW.block ?_))
  refine AW.iterK (fun loop (s : Int) => f_R25_lines_b1 loop3 v1 v2 x6 loop s) r (fun (s : Int) => [(qZg3 t0), (1, .int .i64 t1), (2, .int .i64 t2), (7, .rsl 7 0 0 v1.length), (8, .int .i64 v2), (9, slA (eI .u8) x6), (10, .int .i64 s)]) (fun (s : Int) => [(7, rtA 0 41 1 (eL (eI .u8)) v1)]) ?_ 1000000 (x6.length : Int) H (StC.mk (phi [(7, some 7)]) (.o rfl (CstL.ims _) .nil) rfl (.i3 (.cons (.s rfl) (.i3 .nil))))
  intro loop8 v7 H
  change f_R25_lines_b1 loop3 v1 v2 x6 loop8 v7 = some r at H
  unfold f_R25_lines_b1 at H
  change AW _ _ _ (qZfx t0 t1 t2 v1 v2 v7 x6) [(7, rtA 0 41 1 (eL (eI .u8)) v1)] _
  refine AW.seq (AW.regionSeq ?_)
  obtain ⟨g9, H⟩ := G_some H
  obtain ⟨g10, H⟩ := G_some H
  refine OpsW.sq 7 [37, 33, 0, 1, 2, 7, 8, 9, 10] [(qZg2 v7) = true → (qZg2 v7) = true, (qZg2 v7) = true → inR (v7 - 1), (qZg2 v7) = true → (qZg2 v7) = true, (qZg2 v7) = true → (qZg2 v7) = true, (qZg2 v7) = true → (0 ≤ (v7 - 1) ∧ (v7 - 1) < (x6.length : Int))] ((37, .cnd (qZg2 v7) (.ipt (x6.flatMap (eI .u8)) ((v7 - 1).toNat * 1))) :: (33, .bool (qZg2 v7)) :: (qZfx t0 t1 t2 v1 v2 v7 x6)) ⟨(fun h => h), g9, (fun h => h), (fun h => h), g10, trivial⟩ ?_
  refine OpsW.asG (c := decide (0 < v7)) (.int .u8 (x6.getD (v7 - 1).toNat (0 : Int))) rfl rfl rfl rfl (fun hc => T.load rfl hc (by kernel_rfl) (fm_cell0 (eI .u8) 1 (fun _ => rfl) x6 (0 : Int) (v7 - 1).toNat (ltN (g10 hc)) (fun a => .val (.int .u8 a)) (fun _ => rfl))) ?_
  refine OpsW.sq 2 [40, 0, 1, 2, 7, 8, 9, 10] [(qZg2 v7) = true → (qZg2 v7) = true, (qZg2 v7) = true → (qZg2 v7) = true] ((40, .bool (cond (qZg2 v7) ((x6.getD (v7 - 1).toNat (0 : Int)) == 0) false)) :: (qZfx t0 t1 t2 v1 v2 v7 x6)) ⟨(fun h => h), (fun h => by first | exact h | (simpa using h) | grind), trivial⟩ ?_
  refine OpsW.nil (AW.cond (b := cond (qZg2 v7) ((x6.getD (v7 - 1).toNat (0 : Int)) == 0) false) rfl (fun c11 => ?_) (fun c11 => ?_))
  ·replace H := condT c11 H
   refine AW.skip (AW.block (AW.region ?_))
   obtain ⟨g12, H⟩ := G_some H
   refine OpsW.sq 3 [10, 0, 1, 2, 7, 8, 9] [inR (v7 - 1)] [(10, .int .i64 (v7 - 1)), (qZg3 t0), (1, .int .i64 t1), (2, .int .i64 t2), (7, .rsl 7 0 0 v1.length), (8, .int .i64 v2), (9, slA (eI .u8) x6)] ⟨g12, trivial⟩ ?_
   refine OpsW.nil ?_
   show ∃ y, _ ∧ StC _ _ _ _
   exact ⟨v7 - 1, H, (StC.mk (phi [(7, some 7)]) (.o rfl (CstL.ims _) .nil) rfl (.i3 (.cons (.s rfl) (.i3 .nil))))⟩
  replace H := condF c11 H
  refine AW.exit ?_
  refine AW.region (OpsW.sg 3 [45, 44, 43, 0, 1, 2, 7, 8] ((45, .int .i64 v7) :: (44, slA (eI .u8) x6) :: (43, .rsl 7 0 0 v1.length) :: (qZfw t0 t1 t2 v1 v2)) ?_)
  obtain ⟨g13, H⟩ := G_some H
  refine OpsW.asU (slA (eI .u8) (x6.take v7.toNat)) rfl rfl (T.slice' rfl trivial trivial trivial (by kernel_rfl) (by kernel_rfl) g13 trivial (sl_hi (eI .u8) 1 (fun _ => rfl) x6 v7 g13)) ?_
  obtain ⟨g14, H⟩ := G_some H
  refine OpsW.appendLF (enc := eL (eI .u8)) [x6.take v7.toNat] rfl rfl rfl (by decide) rfl rfl rfl (by simp) E37 (fun _ => rfl) (by decide) trivial (by kernel_rfl) (by kernel_rfl) (by kernel_rfl) rfl rfl rfl g14 ?_
  refine OpsW.sg 1 [7, 0, 1, 2, 8] [(7, .rsl 7 1 0 ((v1 ++ [x6.take v7.toNat]).length)), (qZg3 t0), (1, .int .i64 t1), (2, .int .i64 t2), (8, .int .i64 v2)] ?_
  refine OpsW.recast (env' := [(7, .rsl 7 0 0 ((v1 ++ [x6.take v7.toNat]).length)), (qZg3 t0), (1, .int .i64 t1), (2, .int .i64 t2), (8, .int .i64 v2)]) (h' := [(7, rtA 0 41 1 (eL (eI .u8)) (v1 ++ [x6.take v7.toNat]))]) (StC.mk (phi [(7, some 7)]) (.o rfl (CstL.ims _) .nil) rfl (.cons (.s rfl) (.i4 .nil))) ?_
  refine OpsW.nil (AW.region ?_)
  obtain ⟨g15, H⟩ := G_some H
  refine OpsW.sq 3 [8, 7, 0, 1, 2] [inR (v2 + 1)] ((8, .int .i64 (v2 + 1)) :: (7, .rsl 7 0 0 ((v1 ++ [x6.take v7.toNat]).length)) :: (qZfy t0 t1 t2)) ⟨g15, trivial⟩ ?_
  refine OpsW.nil ?_
  show ∃ y, _ ∧ StC _ _ _ _
  exact ⟨(v1 ++ [x6.take v7.toNat], v2 + 1), H, (StC.mk (phi [(7, some 7)]) (.o rfl (CstL.ims _) .nil) rfl (.i3 (.cons (.s rfl) (.cons .im .nil))))⟩
 replace H := condF c4 H
 refine AW.exit ?_
 refine AW.seq (AW.block ?_)
 refine AW.iterK (fun loop (s : qZg5) => f_R25_lines_b2 loop s) r (fun (s : qZg5) => [(7, .rsl 7 0 0 s.length)]) (fun (s : qZg5) => [(7, rtA 0 41 1 (eL (eI .u8)) s)]) ?_ 1000000 v1 H (StC.mk (phi [(7, some 7)]) (.o rfl (CstL.ims _) .nil) rfl (.cons (.s rfl) .nil))
 intro loop17 v16 H
 change f_R25_lines_b2 loop17 v16 = some r at H
 unfold f_R25_lines_b2 at H
 change AW _ _ _ [(7, .rsl 7 0 0 v16.length)] [(7, rtA 0 41 1 (eL (eI .u8)) v16)] _
 refine AW.seq (AW.regionSeq ?_)
 obtain ⟨g18, H⟩ := G_some H
 obtain ⟨g19, H⟩ := G_some H
 refine OpsW.sq 9 [57, 52, 7] [(qZfz v16) = true → (qZfz v16) = true, (qZfz v16) = true → (qZfz v16) = true, (qZfz v16) = true → inR (qZg0 v16), (qZfz v16) = true → (qZfz v16) = true, (qZfz v16) = true → (qZfz v16) = true, (qZfz v16) = true → (0 ≤ (qZg0 v16) ∧ (qZg0 v16) < (v16.length : Int))] [(57, .cnd (qZfz v16) (.ref 7 0 (0 + (qZg0 v16).toNat * 1))), (52, .bool (qZfz v16)), (7, .rsl 7 0 0 v16.length)] ⟨(fun h => h), (fun h => h), g18, (fun h => h), (fun h => h), g19, trivial⟩ ?_
 refine OpsW.asG (c := decide ((0 : Int) < (v16.length : Int))) (slA (eI .u8) (v16.getD (qZg0 v16).toNat [])) rfl rfl rfl rfl (fun hc => T.loadR rfl hc (by kernel_rfl) rfl rfl rfl (rt_cell (eL (eI .u8)) 1 (fun _ => rfl) v16 [] (qZg0 v16).toNat (ltN (g19 hc)) 0 (fun a => .sl (a.flatMap (eI .u8)) a.length) (fun _ => rfl) (by first | omega | (simp only [qZfz, qZg0]; omega)))) ?_
 refine OpsW.sq 3 [61, 7] [(qZfz v16) = true → (qZfz v16) = true, (qZfz v16) = true → (qZfz v16) = true, (qZfz v16) = true → (qZfz v16) = true] [(61, .bool (cond (qZfz v16) (((v16.getD (qZg0 v16).toNat []).length : Int) == (0 : Int)) false)), (7, .rsl 7 0 0 v16.length)] ⟨(fun h => h), (fun h => h), (fun h => by first | exact h | (simpa using h) | grind), trivial⟩ ?_
 refine OpsW.nil (AW.cond (b := cond (qZfz v16) (((v16.getD (qZg0 v16).toNat []).length : Int) == (0 : Int)) false) rfl (fun c20 => ?_) (fun c20 => ?_))
 ·replace H := condT c20 H
  refine AW.skip (AW.block (AW.region ?_))
  obtain ⟨g21, H⟩ := G_some H
  obtain ⟨g22, H⟩ := G_some H
  refine OpsW.sq 6 [7] [inR (qZg0 v16), 0 ≤ (qZg0 v16) ∧ (qZg0 v16) ≤ (v16.length : Int)] [(7, .rsl 7 0 (0 + 0 * 1) ((qZg0 v16).toNat - 0))] ⟨g21, g22, trivial⟩ ?_
  refine OpsW.cutF (r := 7) (enc := eL (eI .u8)) (l := v16) ((qZg0 v16).toNat) (fun _ => rfl) rfl ?_
  refine OpsW.weaken [(7, .rsl 7 0 0 ((v16.take ((qZg0 v16).toNat)).length))] (Env.le_of_eq (by first | (have := g22; simp only [List.length_take, Nat.sub_zero, Nat.zero_mul, Nat.zero_add]; rw [Nat.min_eq_left (by omega)]; done) | (simp only [qZg0]; have := g22; simp only [List.length_take, Nat.sub_zero, Nat.zero_mul, Nat.zero_add]; rw [Nat.min_eq_left (by omega)]))) ?_
  refine OpsW.recast (env' := [(7, .rsl 7 0 0 ((v16.take ((qZg0 v16).toNat)).length))]) (h' := [(7, rtA 0 41 1 (eL (eI .u8)) (v16.take ((qZg0 v16).toNat)))]) (StC.mk (phi [(7, some 7)]) (.o rfl (CstL.ims _) .nil) rfl (.cons (.s rfl) .nil)) ?_
  refine OpsW.nil ?_
  show ∃ y, _ ∧ StC _ _ _ _
  exact ⟨v16.take ((qZg0 v16).toNat), H, (StC.mk (phi [(7, some 7)]) (.o rfl (CstL.ims _) .nil) rfl (.cons (.s rfl) .nil))⟩
 replace H := condF c20 H
 refine AW.exit ?_
 refine AW.regionSeq (OpsW.sg 2 [6] [(6, .rsl 7 0 0 v16.length)] ?_)
 refine OpsW.nil ?_
 obtain rfl := Option.some.inj H
 refine AW.recast (env' := [(6, .rsl 1000 0 0 v16.length)]) (h' := [(1000, rtA 0 41 1 (eL (eI .u8)) v16)]) (StC.mk (phi [(1000, some 7)]) (.o rfl (CstL.ims _) .nil) rfl (.cons (.s rfl) .nil)) ?_
 refine AW.ret ?_
 refine Done.gen rfl (.tmp .nil) ?_
 exact ⟨by kernel_rfl, rfl⟩
theorem f_R25_lines_ok  {t0 : List (List Int)} {t1 : Int} {t2 : Int} {r : List (List Int)} (H : f_R25_lines t0 t1 t2 = some r) : QSpec Tryd.prog 29 [slA (eL (eI .u8)) t0, .int .i64 t1, .int .i64 t2] (slA (eL (eI .u8)) r) := by
 exact QSpec.of_own (f_R25_lines_own H) (.frz rfl rfl rfl (frz_all (eL (eI .u8)) 1 (fun _ => rfl) r) (fm_length (eL (eI .u8)) 1 (fun _ => rfl) r) (phi_ne rfl))
section
variable (t0 : S_Raw) (x1 : S_Format) (x2 : (List (List Int)))
end
section
variable (t0 : List Int) (v1 : Int)
end
end Go.Proofs.YtbcfmhoaocifoaaDoor
