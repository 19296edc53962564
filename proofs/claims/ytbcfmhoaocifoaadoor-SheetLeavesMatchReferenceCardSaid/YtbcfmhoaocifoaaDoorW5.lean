/- Own work. -/
import Derived.Test.YtbcfmhoaocifoaaDoorW4
set_option linter.unusedSimpArgs false
set_option linter.unusedVariables false
set_option maxRecDepth 100000
namespace Go.Proofs.YtbcfmhoaocifoaaDoor
open Go.Abs
def Y18 (t0 : List (List Bool)) (t1 : List (List Bool)) (loop3 : (Int) → Option Bool) (v2 : Int) : Option Bool :=
 cond (decide (v2 < (t0.length : Int))) (
  G (0 ≤ v2 ∧ v2 < (t0.length : Int)) <|
  G (0 ≤ v2 ∧ v2 < (t1.length : Int)) <|
  (f_sheet_sameDots_1 (t0.getD v2.toNat []) (t1.getD v2.toNat [])).bind fun x7 =>
  cond (!x7) (
   some false) (
   G (inR (v2 + 1)) <|
   loop3 (v2 + 1))) (
  some true)
def Y1s (t0 : List (List Bool)) (t1 : List (List Bool)) : Option Bool :=
 cond ((t0.length : Int) != (t1.length : Int)) (
  some false) (
  iter (fun loop (s : Int) => Y18 t0 t1 loop s) 1000000 (0 : Int))
section
variable (t0 : List (List Bool)) (v2 : Int)
abbrev Zb6 := (t0.length : Int)
abbrev Zb5 : Env := [(15, sD t0), (16, .j (Zb6 t0)), (17, .j v2)]
end
theorem f_slices_EqualFunc__bool_fn58_ok  {t0 : List (List Bool)} {t1 : List (List Bool)} {r : Bool} (H : Y1s t0 t1 = some r) : QSpec Tryd.prog 57 [slA (eL eB) t0, slA (eL eB) t1, .im (.val (.func (.func 58) #[] #[]))] (.bool r) := by
 refine Yj Tryd.func57 rfl (by simp [Tryd.ntmps57]) ?_
 rw [Tryd.ntmps57]
 unfold Y1s at H
 change AW _ _ _ [(0, sD t0), (1, sD t1), (2, .im (.val (.func (.func 58) #[] #[])))] [] _
 refine Y0 (Y2 1 [0, 1, 2] [(0, sD t0), (1, sD t1), (2, .im (.val (.func (.func 58) #[] #[])))] ?_)
 refine Y1 (Yc (Y0 (Y2 5 [14, 0, 1, 2] [(14, .bool ((Zb6 t0) != (t1.length : Int))), (0, sD t0), (1, sD t1), (2, .im (.val (.func (.func 58) #[] #[])))] ?_)))
 refine Y1 (Y9 (b := (Zb6 t0) != (t1.length : Int)) H rfl (fun c1 H => ?_) (fun c1 H => ?_))
 ·refine Y0 (Y2 1 [6] [(6, .bool false)] ?_)
  refine Y1 ?_
  obtain rfl := X1 H
  refine AW.recast (env' := [(6, .bool false)]) (h' := []) (StC.pure (.cons .im .nil)) (Yl ?_)
  try simp only [Ex.t, Ex.b]
  exact Yh rfl (.tmp .nil)
 refine Yb (Yc (Y0 (Y2 3 [17, 16, 15, 1, 2] [(17, .j (0 : Int)), (16, .j (Zb6 t0)), (15, sD t0), (1, sD t1), (2, .im (.val (.func (.func 58) #[] #[])))] ?_)))
 refine Y1 (Yd ?_)
 refine Yq (fun loop (s : Int) => Y18 t0 t1 loop s) r (fun (s : Int) => [(1, sD t1), (2, .im (.val (.func (.func 58) #[] #[]))), (15, sD t0), (16, .j (Zb6 t0)), (17, .j s)]) (fun (s : Int) => []) ?_ 1000000 (0 : Int) H (StC.pure (.i5 .nil))
 intro loop3 v2 H
 unfold Y18 at H
 change AW _ _ _ ((1, sD t1) :: (2, .im (.val (.func (.func 58) #[] #[]))) :: (Zb5 t0 v2)) [] _
 refine Y0 (Y2 1 [18, 1, 2, 15, 16, 17] ((18, .bool (decide (v2 < (Zb6 t0)))) :: (1, sD t1) :: (2, .im (.val (.func (.func 58) #[] #[]))) :: (Zb5 t0 v2)) ?_)
 refine Y1 (Yc (Y9 (b := decide (v2 < (Zb6 t0))) H rfl (fun c4 H => ?_) (fun c4 H => ?_)))
 ·refine Yb (Yc (Yd (Y0 ?_)))
  have ⟨g5, H⟩ := Y6 H
  refine Y8 2 [20, 19, 1, 2, 15, 16, 17] ((20, .ipt (t0.flatMap (eL eB)) (v2.toNat * 1)) :: (19, .j v2) :: (1, sD t1) :: (2, .im (.val (.func (.func 58) #[] #[]))) :: (Zb5 t0 v2)) ⟨g5, trivial⟩ (OpsW.asU (slA eB (t0.getD v2.toNat [])) rfl rfl (T.load rfl trivial (by kernel_rfl) (Yn (eL eB) 1 (fun _ => rfl) t0 [] v2.toNat (ltN g5) (fun a => .sl (a.flatMap eB) a.length) (fun _ => rfl))) (Y2 2 [8, 7, 1, 2, 15, 16, 17] ((8, slA eB (t0.getD v2.toNat [])) :: (7, .j v2) :: (1, sD t1) :: (2, .im (.val (.func (.func 58) #[] #[]))) :: (Zb5 t0 v2)) ?_))
  refine Y1 (Y0 ?_)
  have ⟨g6, H⟩ := Y6 H
  refine Y8 3 [24, 8, 1, 2, 15, 16, 17] ((24, .ipt (t1.flatMap (eL eB)) (v2.toNat * 1)) :: (8, slA eB (t0.getD v2.toNat [])) :: (1, sD t1) :: (2, .im (.val (.func (.func 58) #[] #[]))) :: (Zb5 t0 v2)) ⟨g6, trivial⟩ (OpsW.asU (slA eB (t1.getD v2.toNat [])) rfl rfl (T.load rfl trivial (by kernel_rfl) (Yn (eL eB) 1 (fun _ => rfl) t1 [] v2.toNat (ltN g6) (fun a => .sl (a.flatMap eB) a.length) (fun _ => rfl))) (Y2 1 [9, 8, 1, 2, 15, 16, 17] ((9, slA eB (t1.getD v2.toNat [])) :: (8, slA eB (t0.getD v2.toNat [])) :: (1, sD t1) :: (2, .im (.val (.func (.func 58) #[] #[]))) :: (Zb5 t0 v2)) ?_))
  refine Y1 (Y0 (Y2 3 [28, 27, 26, 1, 2, 15, 16, 17] ((28, slA eB (t1.getD v2.toNat [])) :: (27, slA eB (t0.getD v2.toNat [])) :: (26, .im (.val (.func (.func 58) #[] #[]))) :: (1, sD t1) :: (2, .im (.val (.func (.func 58) #[] #[]))) :: (Zb5 t0 v2)) ?_))
  refine OpsW.valF rfl rfl (by kernel_rfl) ?_
  have ⟨x7, hx7, H⟩ := Yt H
  refine Ys rfl (.cons (.pur rfl) (.cons (.pur rfl) .nil)) (f_sheet_sameDots_1_ok hx7) (Y2 1 [30, 1, 2, 15, 16, 17] ((30, .bool (!x7)) :: (1, sD t1) :: (2, .im (.val (.func (.func 58) #[] #[]))) :: (Zb5 t0 v2)) (Y1 (Y9 (b := !x7) H rfl (fun c8 H => ?_) (fun c8 H => ?_))))
  ·refine Y0 (Y2 1 [6] [(6, .bool false)] ?_)
   refine Y1 ?_
   obtain rfl := X1 H
   refine AW.recast (env' := [(6, .bool false)]) (h' := []) (StC.pure (.cons .im .nil)) (Yl ?_)
   try simp only [Ex.t, Ex.b]
   exact Yh rfl (.tmp .nil)
  refine Yb (Ye ?_)
  have ⟨g9, H⟩ := Y6 H
  refine Y8 2 [17, 1, 2, 15, 16] [(17, .j (v2 + 1)), (1, sD t1), (2, .im (.val (.func (.func 58) #[] #[]))), (15, sD t0), (16, .j (Zb6 t0))] ⟨g9, trivial⟩ (Y1 ?_)
  exact ⟨v2 + 1, H, (StC.pure (.i5 .nil))⟩
 refine AW.exit ?_
 refine Y0 (Y2 1 [6] [(6, .bool true)] ?_)
 refine Y1 ?_
 obtain rfl := X1 H
 refine AW.recast (env' := [(6, .bool true)]) (h' := []) (StC.pure (.cons .im .nil)) (Yl ?_)
 try simp only [Ex.t, Ex.b]
 exact Yh rfl (.tmp .nil)
def Y56 (t0 : List (List Bool)) (t1 : List (List Bool)) : Option Bool :=
 (Y1s t0 t1).bind fun x1 =>
 some x1
theorem f_sheet_sameDots_ok  {t0 : List (List Bool)} {t1 : List (List Bool)} {r : Bool} (H : Y56 t0 t1 = some r) : QSpec Tryd.prog 41 [slA (eL eB) t0, slA (eL eB) t1] (.bool r) := by
 refine Yj Tryd.func41 rfl (by simp [Tryd.ntmps41]) ?_
 rw [Tryd.ntmps41]
 unfold Y56 at H
 change AW _ _ _ [(0, sD t0), (1, sD t1)] [] _
 refine Y0 (Y2 1 [0, 1] [(0, sD t0), (1, sD t1)] ?_)
 refine Y1 (Y0 (Y2 2 [6, 5] [(6, sD t1), (5, sD t0)] ?_))
 have ⟨x1, hx1, H⟩ := Yt H
 refine Ys rfl (.cons (.pur rfl) (.cons (.pur rfl) (.cons (.pur rfl) .nil))) (f_slices_EqualFunc__bool_fn58_ok hx1) (Y2 1 [4] [(4, .bool x1)] (Y1 ?_))
 obtain rfl := X1 H
 refine AW.recast (env' := [(4, .bool x1)]) (h' := []) (StC.pure (.cons .im .nil)) (Yl ?_)
 try simp only [Ex.t, Ex.b]
 exact Yh rfl (.tmp .nil)
def f_sheet_Equal (t0 : Y4) (t1 : Y4) : Option Bool :=
 (cond (cond (t0.W == t1.W) (t0.H == t1.H) false) (Y56 t0.Up t1.Up) (some false)).bind fun x1 =>
 (cond (cond (cond (t0.W == t1.W) (t0.H == t1.H) false) x1 false) (Y56 t0.Down t1.Down) (some false)).bind fun x2 =>
 some (cond (cond (cond (t0.W == t1.W) (t0.H == t1.H) false) x1 false) x2 false)
section
variable (t0 : Y4) (t1 : Y4)
abbrev Zb7 := cond (t0.W == t1.W) (t0.H == t1.H) false
abbrev Zb8 : List AV := [.j t0.W, .j t0.H, sD t0.Up, sD t0.Down]
abbrev Zb9 : List AV := [.j t1.W, .j t1.H, sD t1.Up, sD t1.Down]
end
theorem f_sheet_Equal_ok  {t0 : Y4} {t1 : Y4} {r : Bool} (H : f_sheet_Equal t0 t1 = some r) : QSpec Tryd.prog 21 [.agg [.int .i64 t0.W, .int .i64 t0.H, slA (eL eB) t0.Up, slA (eL eB) t0.Down], .agg [.int .i64 t1.W, .int .i64 t1.H, slA (eL eB) t1.Up, slA (eL eB) t1.Down]] (.bool r) := by
 refine Yj Tryd.func21 rfl (by simp [Tryd.ntmps21]) ?_
 rw [Tryd.ntmps21]
 unfold f_sheet_Equal at H
 change AW _ _ _ [(0, .agg (Zb8 t0)), (1, .agg (Zb9 t1))] [] _
 refine Y0 (OpsW.box rfl rfl rfl 2 rfl (Y5 (by kernel_rfl)) ?_)
 change OpsW _ _ _ _ _ [(2, ⟨0, true, 47, 4, (Zb8 t0)⟩)] _
 refine OpsW.box rfl rfl rfl 3 rfl (Y5 (by kernel_rfl)) ?_
 change OpsW _ _ _ _ _ [(3, ⟨0, true, 47, 4, (Zb9 t1)⟩), (2, ⟨0, true, 47, 4, (Zb8 t0)⟩)] _
 refine Y2 1 [3, 2] [(3, .ref 3 0 0), (2, .ref 2 0 0)] (Ya [(3, .ref 3 0 0), (2, .ref 2 0 0)] [(2, ⟨0, true, 47, 4, (Zb8 t0)⟩), (3, ⟨0, true, 47, 4, (Zb9 t1)⟩)] (StC.mk (phi [(2, some 2), (3, some 3)]) (.o rfl (.i4 .nil) (.o rfl (.i4 .nil) .nil)) rfl (.cons (.r rfl) (.cons (.r rfl) .nil))) ?_)
 refine Y1 (Y0 (Y8 17 [21, 19, 17, 3, 2] [(21, .cnd (Zb7 t0 t1) (sD t1.Up)), (19, .cnd (Zb7 t0 t1) (sD t0.Up)), (17, .bool (Zb7 t0 t1)), (3, .ref 3 0 0), (2, .ref 2 0 0)] ⟨(fun h => h), (fun h => h), (fun h => h), (fun h => h), (fun h => by first | exact h | (simpa using h) | grind), (fun h => h), (fun h => h), trivial⟩ ?_))
 have ⟨x1, hx1, H⟩ := Yt H
 refine OpsW.gcall (c := cond (t0.W == t1.W) (t0.H == t1.H) false) (r := .bool x1) [] rfl (by kernel_rfl) rfl rfl rfl rfl (fun hc => ⟨Yg ⟨hc, hc, trivial⟩, (.cons (.pur rfl) (.cons (.pur rfl) .nil)), f_sheet_sameDots_ok (condT hc hx1), .inl ⟨rfl, rfl⟩⟩) (Y8 6 [28, 26, 24] [(28, .cnd (cond (Zb7 t0 t1) x1 false) (sD t1.Down)), (26, .cnd (cond (Zb7 t0 t1) x1 false) (sD t0.Down)), (24, .bool (cond (Zb7 t0 t1) x1 false))] ⟨(fun h => by first | exact h | (simpa using h) | grind), (fun h => h), (fun h => h), trivial⟩ ?_)
 have ⟨x2, hx2, H⟩ := Yt H
 refine OpsW.gcall (c := cond (Zb7 t0 t1) x1 false) (r := .bool x2) [] rfl (by kernel_rfl) rfl rfl rfl rfl (fun hc => ⟨Yg ⟨hc, hc, trivial⟩, (.cons (.pur rfl) (.cons (.pur rfl) .nil)), f_sheet_sameDots_ok (condT hc hx2), .inl ⟨rfl, rfl⟩⟩) (Y8 2 [4] [(4, .bool (cond (cond (Zb7 t0 t1) x1 false) x2 false))] ⟨(fun h => by first | exact h | (simpa using h) | grind), trivial⟩ (Y1 ?_))
 obtain rfl := X1 H
 refine AW.recast (env' := [(4, .bool (cond (cond (Zb7 t0 t1) x1 false) x2 false))]) (h' := []) (StC.pure (.cons .im .nil)) (Yl ?_)
 try simp only [Ex.t, Ex.b]
 exact Yh rfl (.tmp .nil)
def Y3b (t0 : List Int) (t1 : List Int) (loop3 : (Int) → Option Bool) (v2 : Int) : Option Bool :=
 cond (decide (v2 < (t0.length : Int))) (
  G (0 ≤ v2 ∧ v2 < (t0.length : Int)) <|
  G (0 ≤ v2 ∧ v2 < (t1.length : Int)) <|
  cond ((t0.getD v2.toNat 0) != (t1.getD v2.toNat 0)) (
   some false) (
   G (inR (v2 + 1)) <|
   loop3 (v2 + 1))) (
  some true)
def Y3r (t0 : List Int) (t1 : List Int) : Option Bool :=
 cond ((t0.length : Int) != (t1.length : Int)) (
  some false) (
  iter (fun loop (s : Int) => Y3b t0 t1 loop s) 1000000 (0 : Int))
section
variable (t0 : List Int) (t1 : List Int) (v2 : Int)
abbrev Zba : Env := [(19, .ipt (t0.flatMap (eI .u8)) (v2.toNat * 1)), (18, .j v2), (17, sU t0), (14, .bool (decide (v2 < (t0.length : Int)))), (0, sU t0), (1, sU t1), (5, .j v2)]
abbrev Zbb : Env := (23, .ipt (t1.flatMap (eI .u8)) (v2.toNat * 1)) :: (22, .j v2) :: (21, sU t1) :: (20, .int .u8 (t0.getD v2.toNat 0)) :: (Zba t0 t1 v2)
end
theorem f_R01_Same_ok  {t0 : List Int} {t1 : List Int} {r : Bool} (H : Y3r t0 t1 = some r) : QSpec Tryd.prog 39 [slA (eI .u8) t0, slA (eI .u8) t1] (.bool r) := by
 refine Yj Tryd.func39 rfl (by simp [Tryd.ntmps39]) ?_
 rw [Tryd.ntmps39]
 unfold Y3r at H
 change AW _ _ _ [(0, sU t0), (1, sU t1)] [] _
 refine Y0 (Y2 1 [0, 1] [(0, sU t0), (1, sU t1)] ?_)
 refine Y1 (Yc (Y0 (Y2 5 [10, 0, 1] [(10, .bool ((t0.length : Int) != (t1.length : Int))), (0, sU t0), (1, sU t1)] ?_)))
 refine Y1 (Y9 (b := (t0.length : Int) != (t1.length : Int)) H rfl (fun c1 H => ?_) (fun c1 H => ?_))
 ·refine Y0 (Y2 1 [4] [(4, .bool false)] ?_)
  refine Y1 ?_
  obtain rfl := X1 H
  refine AW.recast (env' := [(4, .bool false)]) (h' := []) (StC.pure (.cons .im .nil)) (Yl ?_)
  try simp only [Ex.t, Ex.b]
  exact Yh rfl (.tmp .nil)
 refine Yb (Yc (Y0 (Y2 1 [5, 0, 1] [(5, .j (0 : Int)), (0, sU t0), (1, sU t1)] ?_)))
 refine Y1 (Yd ?_)
 refine Yq (fun loop (s : Int) => Y3b t0 t1 loop s) r (fun (s : Int) => [(0, sU t0), (1, sU t1), (5, .j s)]) (fun (s : Int) => []) ?_ 1000000 (0 : Int) H (StC.pure (.i3 .nil))
 intro loop3 v2 H
 unfold Y3b at H
 change AW _ _ _ [(0, sU t0), (1, sU t1), (5, .j v2)] [] _
 refine Yc (Y0 (Y2 4 [14, 0, 1, 5] [(14, .bool (decide (v2 < (t0.length : Int)))), (0, sU t0), (1, sU t1), (5, .j v2)] ?_))
 refine Y1 (Y9 (b := decide (v2 < (t0.length : Int))) H rfl (fun c4 H => ?_) (fun c4 H => ?_))
 ·refine Yb (Yc (Yd (Y0q Tryd.checked.mixed (by kernel_rfl) ?_)))
  have ⟨g5, H⟩ := Y6 H
  refine QOps.sz (N := 26) 3 (Zba t0 t1 v2) ⟨g5, trivial⟩ (QOps.asU (.int .u8 (t0.getD v2.toNat 0)) rfl (T.load rfl trivial (by kernel_rfl) (Yn (eI .u8) 1 (fun _ => rfl) t0 (0 : Int) v2.toNat (ltN g5) (fun a => .val (.int .u8 a)) (fun _ => rfl))) ?_)
  have ⟨g6, H⟩ := Y6 H
  refine QOps.sz (N := 26) 3 (Zbb t0 t1 v2) ⟨g6, trivial⟩ (QOps.asU (.int .u8 (t1.getD v2.toNat 0)) rfl (T.load rfl trivial (by kernel_rfl) (Yn (eI .u8) 1 (fun _ => rfl) t1 (0 : Int) v2.toNat (ltN g6) (fun a => .val (.int .u8 a)) (fun _ => rfl))) (QOps.sz (N := 26) 1 ((25, .bool ((t0.getD v2.toNat 0) != (t1.getD v2.toNat 0))) :: (24, .int .u8 (t1.getD v2.toNat 0)) :: (Zbb t0 t1 v2)) trivial ?_))
  refine QOps.nil (AW.trim [25, 0, 1, 5] [(25, .bool ((t0.getD v2.toNat 0) != (t1.getD v2.toNat 0))), (0, sU t0), (1, sU t1), (5, .j v2)] (by kernel_rfl) ?_)
  refine Y9 (b := (t0.getD v2.toNat 0) != (t1.getD v2.toNat 0)) H rfl (fun c7 H => ?_) (fun c7 H => ?_)
  ·refine Y0 (Y2 1 [4] [(4, .bool false)] ?_)
   refine Y1 ?_
   obtain rfl := X1 H
   refine AW.recast (env' := [(4, .bool false)]) (h' := []) (StC.pure (.cons .im .nil)) (Yl ?_)
   try simp only [Ex.t, Ex.b]
   exact Yh rfl (.tmp .nil)
  refine Yb (Ye ?_)
  have ⟨g8, H⟩ := Y6 H
  refine Y8 3 [5, 0, 1] [(5, .j (v2 + 1)), (0, sU t0), (1, sU t1)] ⟨g8, trivial⟩ (Y1 ?_)
  exact ⟨v2 + 1, H, (StC.pure (.i3 .nil))⟩
 refine AW.exit ?_
 refine Y0 (Y2 1 [4] [(4, .bool true)] ?_)
 refine Y1 ?_
 obtain rfl := X1 H
 refine AW.recast (env' := [(4, .bool true)]) (h' := []) (StC.pure (.cons .im .nil)) (Yl ?_)
 try simp only [Ex.t, Ex.b]
 exact Yh rfl (.tmp .nil)
def Y2v (t0 : List (List Int)) (t1 : List (List Int)) (loop3 : (Int) → Option Bool) (v2 : Int) : Option Bool :=
 cond (decide (v2 < (t0.length : Int))) (
  G (0 ≤ v2 ∧ v2 < (t0.length : Int)) <|
  G (0 ≤ v2 ∧ v2 < (t1.length : Int)) <|
  (Y3r (t0.getD v2.toNat []) (t1.getD v2.toNat [])).bind fun x7 =>
  cond (!x7) (
   some false) (
   G (inR (v2 + 1)) <|
   loop3 (v2 + 1))) (
  some true)
def Y21 (t0 : List (List Int)) (t1 : List (List Int)) : Option Bool :=
 cond ((t0.length : Int) != (t1.length : Int)) (
  some false) (
  iter (fun loop (s : Int) => Y2v t0 t1 loop s) 1000000 (0 : Int))
section
variable (t0 : List (List Int)) (t1 : List (List Int)) (v2 : Int)
abbrev Zbc : Env := [(19, .ipt (t0.flatMap (eL (eI .u8))) (v2.toNat * 1)), (18, .j v2), (17, sC t0), (14, .bool (decide (v2 < (t0.length : Int)))), (0, sC t0), (1, sC t1), (5, .j v2)]
abbrev Zbd : Env := (23, .ipt (t1.flatMap (eL (eI .u8))) (v2.toNat * 1)) :: (22, .j v2) :: (21, sC t1) :: (20, sU (t0.getD v2.toNat [])) :: (Zbc t0 t1 v2)
end
theorem Y4i  {t0 : List (List Int)} {t1 : List (List Int)} {r : Bool} (H : Y21 t0 t1 = some r) : QSpec Tryd.prog 17 [slA (eL (eI .u8)) t0, slA (eL (eI .u8)) t1] (.bool r) := by
 refine Yj Tryd.func17 rfl (by simp [Tryd.ntmps17]) ?_
 rw [Tryd.ntmps17]
 unfold Y21 at H
 change AW _ _ _ [(0, sC t0), (1, sC t1)] [] _
 refine Y0 (Y2 1 [0, 1] [(0, sC t0), (1, sC t1)] ?_)
 refine Y1 (Yc (Y0 (Y2 5 [10, 0, 1] [(10, .bool ((t0.length : Int) != (t1.length : Int))), (0, sC t0), (1, sC t1)] ?_)))
 refine Y1 (Y9 (b := (t0.length : Int) != (t1.length : Int)) H rfl (fun c1 H => ?_) (fun c1 H => ?_))
 ·refine Y0 (Y2 1 [4] [(4, .bool false)] ?_)
  refine Y1 ?_
  obtain rfl := X1 H
  refine AW.recast (env' := [(4, .bool false)]) (h' := []) (StC.pure (.cons .im .nil)) (Yl ?_)
  try simp only [Ex.t, Ex.b]
  exact Yh rfl (.tmp .nil)
 refine Yb (Yc (Y0 (Y2 1 [5, 0, 1] [(5, .j (0 : Int)), (0, sC t0), (1, sC t1)] ?_)))
 refine Y1 (Yd ?_)
 refine Yq (fun loop (s : Int) => Y2v t0 t1 loop s) r (fun (s : Int) => [(0, sC t0), (1, sC t1), (5, .j s)]) (fun (s : Int) => []) ?_ 1000000 (0 : Int) H (StC.pure (.i3 .nil))
 intro loop3 v2 H
 unfold Y2v at H
 change AW _ _ _ [(0, sC t0), (1, sC t1), (5, .j v2)] [] _
 refine Yc (Y0 (Y2 4 [14, 0, 1, 5] [(14, .bool (decide (v2 < (t0.length : Int)))), (0, sC t0), (1, sC t1), (5, .j v2)] ?_))
 refine Y1 (Y9 (b := decide (v2 < (t0.length : Int))) H rfl (fun c4 H => ?_) (fun c4 H => ?_))
 ·refine Yb (Yc (Yd (Y0q Tryd.checked.mixed (by kernel_rfl) ?_)))
  have ⟨g5, H⟩ := Y6 H
  refine QOps.sz (N := 27) 3 (Zbc t0 t1 v2) ⟨g5, trivial⟩ (QOps.asU (sU (t0.getD v2.toNat [])) rfl (T.load rfl trivial (by kernel_rfl) (Yn (eL (eI .u8)) 1 (fun _ => rfl) t0 [] v2.toNat (ltN g5) (fun a => .sl (a.flatMap (eI .u8)) a.length) (fun _ => rfl))) ?_)
  have ⟨g6, H⟩ := Y6 H
  refine QOps.sz (N := 27) 3 (Zbd t0 t1 v2) ⟨g6, trivial⟩ (QOps.asU (sU (t1.getD v2.toNat [])) rfl (T.load rfl trivial (by kernel_rfl) (Yn (eL (eI .u8)) 1 (fun _ => rfl) t1 [] v2.toNat (ltN g6) (fun a => .sl (a.flatMap (eI .u8)) a.length) (fun _ => rfl))) ?_)
  have ⟨x7, hx7, H⟩ := Yt H
  refine QOps.qcall rfl (by kernel_rfl) rfl (Yg trivial) (.cons (.pur rfl) (.cons (.pur rfl) .nil)) (f_R01_Same_ok hx7) rfl (QOps.sz (N := 27) 1 ((26, .bool (!x7)) :: (25, .bool x7) :: (24, sU (t1.getD v2.toNat [])) :: (Zbd t0 t1 v2)) trivial ?_)
  refine QOps.nil (AW.trim [26, 0, 1, 5] [(26, .bool (!x7)), (0, sC t0), (1, sC t1), (5, .j v2)] (by kernel_rfl) ?_)
  refine Y9 (b := !x7) H rfl (fun c8 H => ?_) (fun c8 H => ?_)
  ·refine Y0 (Y2 1 [4] [(4, .bool false)] ?_)
   refine Y1 ?_
   obtain rfl := X1 H
   refine AW.recast (env' := [(4, .bool false)]) (h' := []) (StC.pure (.cons .im .nil)) (Yl ?_)
   try simp only [Ex.t, Ex.b]
   exact Yh rfl (.tmp .nil)
  refine Yb (Ye ?_)
  have ⟨g9, H⟩ := Y6 H
  refine Y8 3 [5, 0, 1] [(5, .j (v2 + 1)), (0, sC t0), (1, sC t1)] ⟨g9, trivial⟩ (Y1 ?_)
  exact ⟨v2 + 1, H, (StC.pure (.i3 .nil))⟩
 refine AW.exit ?_
 refine Y0 (Y2 1 [4] [(4, .bool true)] ?_)
 refine Y1 ?_
 obtain rfl := X1 H
 refine AW.recast (env' := [(4, .bool true)]) (h' := []) (StC.pure (.cons .im .nil)) (Yl ?_)
 try simp only [Ex.t, Ex.b]
 exact Yh rfl (.tmp .nil)
def f_L25_sanity  : Option Bool :=
 (Y4d (⟨(⟨(0 : Int), (0 : Int)⟩ : Yu), [[(1 : Int)]], []⟩ : Yr) (⟨(24 : Int), (4 : Int), (0 : Int)⟩ : Y0k)).bind fun x1 =>
 (Y4d (⟨(⟨(0 : Int), (0 : Int)⟩ : Yu), [], [[(1 : Int)]]⟩ : Yr) (⟨(24 : Int), (4 : Int), (0 : Int)⟩ : Y0k)).bind fun x2 =>
 (Y4d (⟨(⟨(0 : Int), (0 : Int)⟩ : Yu), [], []⟩ : Yr) (⟨(23 : Int), (4 : Int), (0 : Int)⟩ : Y0k)).bind fun x3 =>
 (Y4d (⟨(⟨(0 : Int), (0 : Int)⟩ : Yu), [[(1 : Int), (0 : Int)]], []⟩ : Yr) (⟨(24 : Int), (4 : Int), (0 : Int)⟩ : Y0k)).bind fun x4 =>
 (Y1u (48 : Int) (12 : Int)).bind fun x5 =>
 (Y31 x5).bind fun x6 =>
 (Y1u (48 : Int) (12 : Int)).bind fun x7 =>
 G (0 ≤ (0 : Int) ∧ (0 : Int) < (x7.Up.length : Int)) <|
 G (0 ≤ (0 : Int) ∧ 0 < ((x7.Up.getD (0 : Int).toNat []).length : Int)) <|
 (Y1u (48 : Int) (12 : Int)).bind fun x10 =>
 G (0 ≤ (0 : Int) ∧ (0 : Int) < (x10.Down.length : Int)) <|
 G (0 ≤ (47 : Int) ∧ 47 < ((x10.Down.getD (0 : Int).toNat []).length : Int)) <|
 (cond (cond (cond (cond (cond (x1.2 == 0) (x2.2 == 0) false) (x3.2 == 1) false) (x4.2 == 250) false) (x6.2 == 250) false) (f_R25_Equal x1.1 (⟨x7.W, x7.H, x7.Up.set (0 : Int).toNat ((x7.Up.getD (0 : Int).toNat []).set (0 : Int).toNat true), x7.Down⟩ : Y4)) (some false)).bind fun x13 =>
 (cond (cond (cond (cond (cond (cond (x1.2 == 0) (x2.2 == 0) false) (x3.2 == 1) false) (x4.2 == 250) false) (x6.2 == 250) false) x13 false) (f_R25_Equal x2.1 (⟨x10.W, x10.H, x10.Up, x10.Down.set (0 : Int).toNat ((x10.Down.getD (0 : Int).toNat []).set (47 : Int).toNat true)⟩ : Y4)) (some false)).bind fun x14 =>
 (cond (cond (cond (cond (cond (cond (cond (x1.2 == 0) (x2.2 == 0) false) (x3.2 == 1) false) (x4.2 == 250) false) (x6.2 == 250) false) x13 false) x14 false) (Y0h (⟨x7.W, x7.H, x7.Up.set (0 : Int).toNat ((x7.Up.getD (0 : Int).toNat []).set (0 : Int).toNat true), x7.Down⟩ : Y4)) (some false)).bind fun x15 =>
 (cond (cond (cond (cond (cond (cond (cond (cond (x1.2 == 0) (x2.2 == 0) false) (x3.2 == 1) false) (x4.2 == 250) false) (x6.2 == 250) false) x13 false) x14 false) x15 false) (Y0h (⟨(0 : Int), (0 : Int), [], []⟩ : Y4)) (some false)).bind fun x16 =>
 (cond (cond (cond (cond (cond (cond (cond (cond (cond (x1.2 == 0) (x2.2 == 0) false) (x3.2 == 1) false) (x4.2 == 250) false) (x6.2 == 250) false) x13 false) x14 false) x15 false) (!x16) false) (Y1u (47 : Int) (12 : Int)) (some Y33)).bind fun x17 =>
 (cond (cond (cond (cond (cond (cond (cond (cond (cond (x1.2 == 0) (x2.2 == 0) false) (x3.2 == 1) false) (x4.2 == 250) false) (x6.2 == 250) false) x13 false) x14 false) x15 false) (!x16) false) (Y0h x17) (some false)).bind fun x18 =>
 (cond (cond (cond (cond (cond (cond (cond (cond (cond (cond (x1.2 == 0) (x2.2 == 0) false) (x3.2 == 1) false) (x4.2 == 250) false) (x6.2 == 250) false) x13 false) x14 false) x15 false) (!x16) false) (!x18) false) (f_sheet_Equal (⟨x7.W, x7.H, x7.Up.set (0 : Int).toNat ((x7.Up.getD (0 : Int).toNat []).set (0 : Int).toNat true), x7.Down⟩ : Y4) (⟨x10.W, x10.H, x10.Up, x10.Down.set (0 : Int).toNat ((x10.Down.getD (0 : Int).toNat []).set (47 : Int).toNat true)⟩ : Y4)) (some false)).bind fun x19 =>
 (cond (cond (cond (cond (cond (cond (cond (cond (cond (cond (cond (x1.2 == 0) (x2.2 == 0) false) (x3.2 == 1) false) (x4.2 == 250) false) (x6.2 == 250) false) x13 false) x14 false) x15 false) (!x16) false) (!x18) false) (!x19) false) (Y4e (⟨x7.W, x7.H, x7.Up.set (0 : Int).toNat ((x7.Up.getD (0 : Int).toNat []).set (0 : Int).toNat true), x7.Down⟩ : Y4)) (some [])).bind fun x20 =>
 (cond (cond (cond (cond (cond (cond (cond (cond (cond (cond (cond (x1.2 == 0) (x2.2 == 0) false) (x3.2 == 1) false) (x4.2 == 250) false) (x6.2 == 250) false) x13 false) x14 false) x15 false) (!x16) false) (!x18) false) (!x19) false) (Y21 x20 [[(1 : Int)]]) (some false)).bind fun x21 =>
 (cond (cond (cond (cond (cond (cond (cond (cond (cond (cond (cond (cond (x1.2 == 0) (x2.2 == 0) false) (x3.2 == 1) false) (x4.2 == 250) false) (x6.2 == 250) false) x13 false) x14 false) x15 false) (!x16) false) (!x18) false) (!x19) false) x21 false) (Y42 (⟨x10.W, x10.H, x10.Up, x10.Down.set (0 : Int).toNat ((x10.Down.getD (0 : Int).toNat []).set (47 : Int).toNat true)⟩ : Y4)) (some [])).bind fun x22 =>
 (cond (cond (cond (cond (cond (cond (cond (cond (cond (cond (cond (cond (x1.2 == 0) (x2.2 == 0) false) (x3.2 == 1) false) (x4.2 == 250) false) (x6.2 == 250) false) x13 false) x14 false) x15 false) (!x16) false) (!x18) false) (!x19) false) x21 false) (Y21 x22 [[(1 : Int)]]) (some false)).bind fun x23 =>
 (cond (cond (cond (cond (cond (cond (cond (cond (cond (cond (cond (cond (cond (x1.2 == 0) (x2.2 == 0) false) (x3.2 == 1) false) (x4.2 == 250) false) (x6.2 == 250) false) x13 false) x14 false) x15 false) (!x16) false) (!x18) false) (!x19) false) x21 false) x23 false) (Y42 (⟨x7.W, x7.H, x7.Up.set (0 : Int).toNat ((x7.Up.getD (0 : Int).toNat []).set (0 : Int).toNat true), x7.Down⟩ : Y4)) (some [])).bind fun x24 =>
 some (cond (cond (cond (cond (cond (cond (cond (cond (cond (cond (cond (cond (cond (x1.2 == 0) (x2.2 == 0) false) (x3.2 == 1) false) (x4.2 == 250) false) (x6.2 == 250) false) x13 false) x14 false) x15 false) (!x16) false) (!x18) false) (!x19) false) x21 false) x23 false) ((x24.length : Int) == 0) false)
section
variable (x1 : (Y4 × Int)) (x2 : (Y4 × Int)) (x3 : (Y4 × Int)) (x4 : (Y4 × Int)) (x5 : Y4) (x6 : (Yr × Int)) (x7 : Y4) (x10 : Y4) (x13 : Bool) (x14 : Bool) (x15 : Bool) (x16 : Bool) (x18 : Bool) (x19 : Bool) (x21 : Bool) (x23 : Bool) (x24 : (List (List Int)))
abbrev Zc8 := cond (cond (cond (cond (cond (x1.2 == 0) (x2.2 == 0) false) (x3.2 == 1) false) (x4.2 == 250) false) (x6.2 == 250) false) x13 false
abbrev Zc9 := (x7.Up.set (0 : Int).toNat ((x7.Up.getD (0 : Int).toNat []).set (0 : Int).toNat true))
abbrev Zca := cond (cond (cond (cond (Zc8 x1 x2 x3 x4 x6 x13) x14 false) x15 false) (!x16) false) (!x18) false
abbrev Zcb : List AV := [.j (0 : Int), .j (0 : Int), .im (.val (.slice none 0 0)), .im (.val (.slice none 0 0))]
abbrev Zcc := (x10.Down.set (0 : Int).toNat ((x10.Down.getD (0 : Int).toNat []).set (47 : Int).toNat true))
abbrev Zcd := [fmA 10601 4 1 eB x10.Up, fmA 10602 4 1 eB x10.Down, fmA 15130 4 1 eB (Zc9 x7), fmA 15131 4 1 eB x7.Down]
abbrev Zce : List AV := [.j x1.1.W, .j x1.1.H, sD x1.1.Up, sD x1.1.Down]
abbrev Zcf : List AV := [.j x2.1.W, .j x2.1.H, sD x2.1.Up, sD x2.1.Down]
abbrev Zcg := [fmA 15130 4 1 eB (Zc9 x7), fmA 15131 4 1 eB x7.Down, fmA 15140 4 1 eB x10.Up, fmA 15141 4 1 eB x10.Down]
abbrev Zch := cond (cond (cond (x1.2 == 0) (x2.2 == 0) false) (x3.2 == 1) false) (x4.2 == 250) false
abbrev Zci : List AV := [.j (24 : Int), .j (4 : Int), .j (0 : Int)]
abbrev Zcj := cond (cond (Zca x1 x2 x3 x4 x6 x13 x14 x15 x16 x18) (!x19) false) x21 false
abbrev Zck := [fmA 10601 4 1 eB x7.Up, fmA 10602 4 1 eB x7.Down]
abbrev Zcl : List AV := [.j x7.W, .j x7.H, sD (Zc9 x7), sD x7.Down]
abbrev Zcm : List AV := [.j x7.W, .j x7.H, .rsl 5130 0 0 ((Zc9 x7).length), .rsl 5131 0 0 x7.Down.length]
abbrev Zcn := [fmA 15130 4 1 eB x7.Up, fmA 15131 4 1 eB x7.Down]
abbrev Zco := (0 + (0 : Int).toNat * 1)
abbrev Zcp := (fid 15141 (0 : Int).toNat)
abbrev Zcq := (fid 15130 (0 : Int).toNat)
abbrev Zcr := cond (cond (Zc8 x1 x2 x3 x4 x6 x13) x14 false) x15 false
abbrev Zcs : List AV := [.j x10.W, .j x10.H, sD x10.Up, sD (Zcc x10)]
abbrev Zct := [fmA 15130 4 1 eB (Zc9 x7), fmA 15131 4 1 eB x7.Down, fmA 15140 4 1 eB x10.Up, fmA 15141 4 1 eB (Zcc x10)]
abbrev Zcu := [fmA 11500 4 1 eB x10.Up, fmA 11501 4 1 eB x10.Down, fmA 15130 4 1 eB (Zc9 x7), fmA 15131 4 1 eB x7.Down]
abbrev Zcv : Nat × AV := (2, sC [[(1 : Int)]])
abbrev Zcw := [fmA 10601 4 1 eB x5.Up, fmA 10602 4 1 eB x5.Down]
abbrev Zcx : Nat × AV := (14, .ref 14 0 0)
abbrev Zcy : List AV := [.j x10.W, .j x10.H, .rsl 1500 0 0 x10.Up.length, .rsl 1501 0 0 x10.Down.length]
abbrev Zcz : List AV := [.j x10.W, .j x10.H, .rsl 601 0 0 x10.Up.length, .rsl 602 0 0 x10.Down.length]
abbrev Zd0 : List AV := [.j x5.W, .j x5.H, .rsl 1500 0 0 x5.Up.length, .rsl 1501 0 0 x5.Down.length]
abbrev Zd1 : List AV := [.j x7.W, .j x7.H, .rsl 1500 0 0 x7.Up.length, .rsl 1501 0 0 x7.Down.length]
abbrev Zd2 := cond (Zch x1 x2 x3 x4) (x6.2 == 250) false
abbrev Zd3 : List AV := [.j x7.W, .j x7.H, .rsl 601 0 0 x7.Up.length, .rsl 602 0 0 x7.Down.length]
abbrev Zbe : Hp := [(3, ⟨0, true, 47, 4, (Zce x1)⟩), (5, ⟨0, true, 47, 4, (Zcf x2)⟩), (13, ⟨0, true, 47, 4, (Zcm x7)⟩), (5130, nsA 0 61 15130 (Zc9 x7)), (5131, nsA 0 61 15131 x7.Down)]
abbrev Zbf : Hp := [(3, ⟨0, true, 47, 4, (Zce x1)⟩), (5, ⟨0, true, 47, 4, (Zcf x2)⟩)]
abbrev Zbg : Env := [(10, .j x4.2), (8, .j x3.2), (6, .j x2.2), (5, .ref 5 0 0), (4, .j x1.2), (3, .ref 3 0 0), Zcv]
abbrev Zbh : Hp := [(3, ⟨0, true, 47, 4, (Zce x1)⟩), (5, ⟨0, true, 47, 4, (Zcf x2)⟩), (13, ⟨0, true, 47, 4, (Zcm x7)⟩), (14, ⟨0, true, 47, 4, [.j x10.W, .j x10.H, .rsl 5140 0 0 x10.Up.length, .rsl 5141 0 0 x10.Down.length]⟩), (5130, nsA 0 61 15130 (Zc9 x7)), (5131, nsA 0 61 15131 x7.Down), (5140, nsA 0 61 15140 x10.Up), (5141, nsA 0 61 15141 x10.Down)]
abbrev Zbi : Hp := [(3, ⟨0, true, 47, 4, (Zce x1)⟩), (5, ⟨0, true, 47, 4, (Zcf x2)⟩), (13, ⟨0, true, 47, 4, (Zcm x7)⟩), (14, ⟨0, true, 47, 4, [.j x10.W, .j x10.H, .rsl 5140 0 0 x10.Up.length, .rsl 5141 0 0 ((Zcc x10).length)]⟩), (5130, nsA 0 61 15130 (Zc9 x7)), (5131, nsA 0 61 15131 x7.Down), (5140, nsA 0 61 15140 x10.Up), (5141, nsA 0 61 15141 (Zcc x10))]
abbrev Zbj : Hp := [(3, ⟨0, true, 47, 4, (Zce x1)⟩), (5, ⟨0, true, 47, 4, (Zcf x2)⟩), (13, ⟨0, true, 47, 4, [.j x7.W, .j x7.H, .rsl 5130 0 0 x7.Up.length, .rsl 5131 0 0 x7.Down.length]⟩), (5130, nsA 0 61 15130 x7.Up), (5131, nsA 0 61 15131 x7.Down)]
abbrev Zbk : Env := [(4, .j x1.2), (3, .ref 3 0 0), Zcv, (1, .ref 1 0 0)]
abbrev Zbl : Env := [(0, .bool (cond (cond (Zcj x1 x2 x3 x4 x6 x13 x14 x15 x16 x18 x19 x21) x23 false) ((x24.length : Int) == 0) false))]
abbrev Zbm : Env := (13, .ref 13 0 0) :: (12, .j x6.2) :: (Zbg x1 x2 x3 x4)
abbrev Zbn : Hp := [(3, ⟨0, true, 47, 4, (Zce x1)⟩), (5, ⟨0, true, 47, 4, (Zcf x2)⟩), (13, ⟨0, true, 47, 4, (Zcl x7)⟩), (14, ⟨0, true, 47, 4, (Zcs x10)⟩)]
abbrev Zbo : Env := [Zcx, (13, .ref 13 0 0), Zcv]
abbrev Zbp : Env := (61, .rsl Zcp 0 0 ((x10.Down.getD (0 : Int).toNat []).length)) :: (60, .ref 5141 0 Zco) :: Zcx :: (Zbm x1 x2 x3 x4 x6)
abbrev Zbq : Hp := (14, ⟨0, true, 47, 4, (Zcz x10)⟩) :: (14, ⟨0, true, 47, 4, Zcb⟩) :: (601, nsA 0 61 10601 x10.Up) :: (602, nsA 0 61 10602 x10.Down) :: (Zbe x1 x2 x7)
abbrev Zbr : Hp := (13, ⟨0, true, 47, 4, (Zd3 x7)⟩) :: (13, ⟨0, true, 47, 4, Zcb⟩) :: (601, nsA 0 61 10601 x7.Up) :: (602, nsA 0 61 10602 x7.Down) :: (Zbf x1 x2)
abbrev Zbs : Env := (55, .rsl Zcq 0 0 ((x7.Up.getD (0 : Int).toNat []).length)) :: (54, .ref 5130 0 Zco) :: (Zbm x1 x2 x3 x4 x6)
abbrev Zbt : Hp := (1, ⟨0, true, 32, 3, Zci⟩) :: (Zbf x1 x2)
abbrev Zbu : Env := (111, .bool (cond (Zca x1 x2 x3 x4 x6 x13 x14 x15 x16 x18) (!x19) false)) :: Zbo
abbrev Zbv : Hp := (1000, ⟨0, true, 47, 4, (Zcy x10)⟩) :: (1500, nsA 0 61 11500 x10.Up) :: (1501, nsA 0 61 11501 x10.Down) :: (Zbe x1 x2 x7)
abbrev Zbw : Hp := (1000, ⟨0, true, 47, 4, (Zd0 x5)⟩) :: (1500, nsA 0 61 11500 x5.Up) :: (1501, nsA 0 61 11501 x5.Down) :: (Zbf x1 x2)
abbrev Zbx : Hp := (1000, ⟨0, true, 47, 4, (Zd1 x7)⟩) :: (1500, nsA 0 61 11500 x7.Up) :: (1501, nsA 0 61 11501 x7.Down) :: (Zbf x1 x2)
abbrev Zby : Hp := [(1, ⟨0, true, 32, 3, Zci⟩), (3, ⟨0, true, 47, 4, (Zce x1)⟩)]
abbrev Zbz : Env := (6, .j x2.2) :: (5, .ref 5 0 0) :: (Zbk x1)
abbrev Zc0 : Hp := (601, nsA 0 61 10601 x5.Up) :: (602, nsA 0 61 10602 x5.Down) :: (Zbf x1 x2)
abbrev Zc1 : Hp := (601, nsA 0 61 10601 x7.Up) :: (602, nsA 0 61 10602 x7.Down) :: (Zbf x1 x2)
abbrev Zc2 : Hp := (601, nsA 0 61 10601 x10.Up) :: (602, nsA 0 61 10602 x10.Down) :: (Zbe x1 x2 x7)
abbrev Zc3 : Env := (51, .agg (Zd3 x7)) :: (12, .j x6.2) :: (Zbg x1 x2 x3 x4)
abbrev Zc4 : Env := [(8, .j x3.2), (6, .j x2.2), (5, .ref 5 0 0), (4, .j x1.2), (3, .ref 3 0 0), Zcv]
abbrev Zc5 : Env := (57, .agg (Zcz x10)) :: (Zbm x1 x2 x3 x4 x6)
abbrev Zc6 : Env := [Zcv, (1, .ref 1 0 0)]
abbrev Zc7 : Hp := [(1, ⟨0, true, 32, 3, Zci⟩)]
end
theorem f_L25_sanity_ok   {r : Bool} (H : f_L25_sanity = some r) : QSpec Tryd.prog 9 [] (.bool r) := by
 refine Yj Tryd.func9 rfl (by simp [Tryd.ntmps9]) ?_
 rw [Tryd.ntmps9]
 unfold f_L25_sanity at H
 change AW _ _ _ [] [] _
 refine Y0 (Y2 1 [] [] ?_)
 refine Y1 (Y0 (Y2 1 [15] [(15, .agg Zci)] ?_))
 refine Yo rfl rfl rfl 1 rfl (by kernel_rfl : zc Tryd.prog 32 = some [.j 0, .j 0, .j 0]) (by kernel_rfl) (OpsW.store rfl rfl rfl rfl trivial trivial rfl rfl rfl (by kernel_rfl) (Y5 (by kernel_rfl)) (X0 (by kernel_rfl)) ?_)
 change OpsW _ _ _ _ _ [(1, ⟨0, true, 32, 3, Zci⟩), (1, ⟨0, true, 32, 3, [.j (0 : Int), .j (0 : Int), .j (0 : Int)]⟩)] _
 refine Y2 0 [1] [(1, .ref 1 0 0)] (Ya [(1, .ref 1 0 0)] Zc7 (StC.mk (phi [(1, some 1)]) (.o rfl (.i3 .nil) .nil) rfl (.cons (.r rfl) .nil)) ?_)
 refine Y1 (Y0 (OpsW.buildTI (enc := eI .u8) [(1 : Int)] rfl rfl rfl E41 (fun _ => rfl) (by decide) ⟨trivial, by kernel_rfl, by kernel_rfl, by kernel_rfl, rfl⟩ ?_))
 refine OpsW.buildTI (enc := eL (eI .u8)) [[(1 : Int)]] rfl rfl rfl E37 (fun _ => rfl) (by decide) ⟨trivial, by kernel_rfl, by kernel_rfl, by kernel_rfl, rfl⟩ (Y2 1 [2, 1] Zc6 ?_)
 refine Y1 (Y0 (Y2 3 [21, 20, 2, 1] ((21, .agg Zci) :: (20, .agg [.j (0 : Int), .j (0 : Int), sC [[(1 : Int)]], .im (.val (.slice none 0 0))]) :: Zc6) ?_))
 have ⟨x1, hx1, H⟩ := Yt H
 refine Ys rfl (.cons (ArgS.agg (.cons (.pur rfl) (.cons (.pur rfl) (.cons (.pur rfl) (.cons .nil .nil))))) (.cons (.pur rfl) .nil)) (Y57 hx1) (Y2 3 [24, 23, 2, 1] ((24, .j x1.2) :: (23, .agg (Zce x1)) :: Zc6) (Yo rfl rfl rfl 3 rfl (by kernel_rfl : zc Tryd.prog 47 = some [.j 0, .j 0, .slice none 0 0, .slice none 0 0]) (by kernel_rfl) (OpsW.store rfl rfl rfl rfl trivial trivial rfl rfl rfl (by kernel_rfl) (Y5 (by kernel_rfl)) (X0 (by kernel_rfl)) ?_)))
 change OpsW _ _ _ _ _ ((3, ⟨0, true, 47, 4, (Zce x1)⟩) :: (3, ⟨0, true, 47, 4, Zcb⟩) :: Zc7) _
 refine Y2 1 [4, 3, 2, 1] (Zbk x1) (Ya (Zbk x1) (Zby x1) (StC.mk (phi [(1, some 1), (3, some 3)]) (.o rfl (.i3 .nil) (.o rfl (.i4 .nil) .nil)) rfl (.cons .im (.cons (.r rfl) (.cons .im (.cons (.r rfl) .nil))))) ?_)
 refine Y1 (Y0 (Y2 3 [28, 27, 4, 3, 2, 1] ((28, .agg Zci) :: (27, .agg [.j (0 : Int), .j (0 : Int), .im (.val (.slice none 0 0)), sC [[(1 : Int)]]]) :: (Zbk x1)) ?_))
 have ⟨x2, hx2, H⟩ := Yt H
 refine Ys rfl (.cons (ArgS.agg (.cons (.pur rfl) (.cons (.pur rfl) (.cons .nil (.cons (.pur rfl) .nil))))) (.cons (.pur rfl) .nil)) (Y57 hx2) (Y2 3 [31, 30, 4, 3, 2, 1] ((31, .j x2.2) :: (30, .agg (Zcf x2)) :: (Zbk x1)) (Yo rfl rfl rfl 5 rfl (by kernel_rfl : zc Tryd.prog 47 = some [.j 0, .j 0, .slice none 0 0, .slice none 0 0]) (by kernel_rfl) (OpsW.store rfl rfl rfl rfl trivial trivial rfl rfl rfl (by kernel_rfl) (Y5 (by kernel_rfl)) (X0 (by kernel_rfl)) ?_)))
 change OpsW _ _ _ _ _ ((5, ⟨0, true, 47, 4, (Zcf x2)⟩) :: (5, ⟨0, true, 47, 4, Zcb⟩) :: (Zby x1)) _
 refine Y2 1 [6, 5, 4, 3, 2, 1] (Zbz x1 x2) (Ya (Zbz x1 x2) (Zbt x1 x2) (StC.mk (phi [(1, some 1), (3, some 3), (5, some 5)]) (.o rfl (.i3 .nil) (.o rfl (.i4 .nil) (.o rfl (.i4 .nil) .nil))) rfl (.cons .im (.cons (.r rfl) (.cons .im (.cons (.r rfl) (.cons .im (.cons (.r rfl) .nil))))))) ?_)
 refine Y1 (Y0 (Y2 2 [34, 33, 6, 5, 4, 3, 2, 1] ((34, .agg [.j (23 : Int), .j (4 : Int), .j (0 : Int)]) :: (33, .agg Zcb) :: (Zbz x1 x2)) ?_))
 have ⟨x3, hx3, H⟩ := Yt H
 refine Ys rfl (.cons (ArgS.agg (.cons (.pur rfl) (.cons (.pur rfl) (.cons .nil (.cons .nil .nil))))) (.cons (.pur rfl) .nil)) (Y57 hx3) (Y2 3 [37, 36, 6, 5, 4, 3, 2, 1] ((37, .j x3.2) :: (36, .agg [.j x3.1.W, .j x3.1.H, sD x3.1.Up, sD x3.1.Down]) :: (Zbz x1 x2)) (Yo rfl rfl rfl 7 rfl (by kernel_rfl : zc Tryd.prog 47 = some [.j 0, .j 0, .slice none 0 0, .slice none 0 0]) (by kernel_rfl) (OpsW.store rfl rfl rfl rfl trivial trivial rfl rfl rfl (by kernel_rfl) (Y5 (by kernel_rfl)) (X0 (by kernel_rfl)) ?_)))
 change OpsW _ _ _ _ _ ((7, ⟨0, true, 47, 4, [.j x3.1.W, .j x3.1.H, sD x3.1.Up, sD x3.1.Down]⟩) :: (7, ⟨0, true, 47, 4, Zcb⟩) :: (Zbt x1 x2)) _
 refine Y2 1 [8, 6, 5, 4, 3, 2, 1] ((8, .j x3.2) :: (Zbz x1 x2)) (Ya ((8, .j x3.2) :: (Zbz x1 x2)) (Zbt x1 x2) (StC.mk (phi [(1, some 1), (3, some 3), (5, some 5)]) (.o rfl (.i3 .nil) (.o rfl (.i4 .nil) (.o rfl (.i4 .nil) .nil))) rfl (.i2 (.cons (.r rfl) (.cons .im (.cons (.r rfl) (.cons .im (.cons (.r rfl) .nil))))))) ?_)
 refine Y1 (Y0 (OpsW.buildTI (enc := eI .u8) [(1 : Int), (0 : Int)] rfl rfl rfl E41 (fun _ => rfl) (by decide) ⟨trivial, by kernel_rfl, by kernel_rfl, by kernel_rfl, rfl⟩ ?_))
 refine OpsW.buildTI (enc := eL (eI .u8)) [[(1 : Int), (0 : Int)]] rfl rfl rfl E37 (fun _ => rfl) (by decide) ⟨trivial, by kernel_rfl, by kernel_rfl, by kernel_rfl, rfl⟩ (Y2 2 [42, 41, 8, 6, 5, 4, 3, 2] ((42, .agg Zci) :: (41, .agg [.j (0 : Int), .j (0 : Int), sC [[(1 : Int), (0 : Int)]], .im (.val (.slice none 0 0))]) :: (Zc4 x1 x2 x3)) ?_)
 have ⟨x4, hx4, H⟩ := Yt H
 refine Ys rfl (.cons (ArgS.agg (.cons (.pur rfl) (.cons (.pur rfl) (.cons (.pur rfl) (.cons .nil .nil))))) (.cons (.pur rfl) .nil)) (Y57 hx4) (Y2 3 [45, 44, 8, 6, 5, 4, 3, 2] ((45, .j x4.2) :: (44, .agg [.j x4.1.W, .j x4.1.H, sD x4.1.Up, sD x4.1.Down]) :: (Zc4 x1 x2 x3)) (Yo rfl rfl rfl 9 rfl (by kernel_rfl : zc Tryd.prog 47 = some [.j 0, .j 0, .slice none 0 0, .slice none 0 0]) (by kernel_rfl) (OpsW.store rfl rfl rfl rfl trivial trivial rfl rfl rfl (by kernel_rfl) (Y5 (by kernel_rfl)) (X0 (by kernel_rfl)) ?_)))
 change OpsW _ _ _ _ _ ((9, ⟨0, true, 47, 4, [.j x4.1.W, .j x4.1.H, sD x4.1.Up, sD x4.1.Down]⟩) :: (9, ⟨0, true, 47, 4, Zcb⟩) :: (Zbt x1 x2)) _
 refine Y2 1 [10, 8, 6, 5, 4, 3, 2] (Zbg x1 x2 x3 x4) (Ya (Zbg x1 x2 x3 x4) (Zbf x1 x2) (StC.mk (phi [(3, some 3), (5, some 5)]) (.o rfl (.i4 .nil) (.o rfl (.i4 .nil) .nil)) rfl (.i3 (.cons (.r rfl) (.cons .im (.cons (.r rfl) (.cons .im .nil)))))) ?_)
 refine Y1 (Y0 ?_)
 have ⟨x5, hx5, H⟩ := Yt H
 refine OpsW.call rfl rfl (by kernel_rfl) [] _ _ rfl (Yg trivial) (.cons (.pur rfl) (.cons (.pur rfl) .nil)) (Y27 hx5) ?_
 rintro _ _ ⟨rfl, rfl⟩
 refine ⟨(fresh_F0 rfl rfl), .inl rfl, ?_⟩
 refine OpsW.heapEq (heap_mid0 rfl) ?_
 change OpsW _ _ _ _ ((47, .agg (Zd0 x5)) :: (Zbg x1 x2 x3 x4)) ((Zbw x1 x2 x5) ++ fmsH [fmA 11500 4 1 eB x5.Up, fmA 11501 4 1 eB x5.Down]) _
 refine Ya ((47, .agg [.j x5.W, .j x5.H, .rsl 601 0 0 x5.Up.length, .rsl 602 0 0 x5.Down.length]) :: (Zbg x1 x2 x3 x4)) ((Zc0 x1 x2 x5) ++ fmsH (Zcw x5)) (Yp (hc := (Zbw x1 x2 x5)) (fs := [fmA 11500 4 1 eB x5.Up, fmA 11501 4 1 eB x5.Down]) (hc' := (Zc0 x1 x2 x5)) (fs' := (Zcw x5)) rfl [(601, some 1500), (602, some 1501), (3, some 3), (5, some 5)] [(10601, .same 11500), (10602, .same 11501)] rfl (.o rfl (Yf rfl rfl (by decide) rfl rfl rfl) (.o rfl (Yf rfl rfl (by decide) rfl rfl rfl) (.o rfl (.i4 .nil) (.o rfl (.i4 .nil) .nil)))) rfl (.cons rfl (Ym rfl) (.cons rfl (Ym rfl) .nil)) (.cons (.agg (.i2 (.cons (.s rfl) (.cons (.s rfl) .nil)))) (.i3 (.cons (.r rfl) (.cons .im (.cons (.r rfl) (.cons .im .nil))))))) (Ya ((47, .agg [.j x5.W, .j x5.H, sD x5.Up, sD x5.Down]) :: (Zbg x1 x2 x3 x4)) (Zbf x1 x2) (Yp (hc := (Zc0 x1 x2 x5)) (fs := (Zcw x5)) (hc' := (Zbf x1 x2)) (fs' := []) rfl [(3, some 3), (5, some 5)] [] rfl (.o rfl (.i4 .nil) (.o rfl (.i4 .nil) .nil)) rfl .nil (.cons (.agg (.i2 (.cons (Y10 rfl rfl (fun _ => rfl) rfl rfl rfl) (.cons (Y10 rfl rfl (fun _ => rfl) rfl rfl rfl) .nil)))) (.i3 (.cons (.r rfl) (.cons .im (.cons (.r rfl) (.cons .im .nil))))))) ?_)
 have ⟨x6, hx6, H⟩ := Yt H
 refine Ys rfl (.cons (.pur rfl) .nil) (f_sheet_Leaf_ok hx6) (Y2 3 [50, 49, 10, 8, 6, 5, 4, 3, 2] ((50, .j x6.2) :: (49, .agg [.j x6.1.Label.N, .j x6.1.Label.K, sC x6.1.Front, sC x6.1.Back]) :: (Zbg x1 x2 x3 x4)) (Yo rfl rfl rfl 11 rfl (by kernel_rfl : zc Tryd.prog 39 = some [.j 0, .j 0, .slice none 0 0, .slice none 0 0]) (by kernel_rfl) (OpsW.store rfl rfl rfl rfl trivial trivial rfl rfl rfl (by kernel_rfl) (Y5 (by kernel_rfl)) (X0 (by kernel_rfl)) ?_)))
 change OpsW _ _ _ _ _ ((11, ⟨0, true, 39, 4, [.j x6.1.Label.N, .j x6.1.Label.K, sC x6.1.Front, sC x6.1.Back]⟩) :: (11, ⟨0, true, 39, 4, Zcb⟩) :: (Zbf x1 x2)) _
 refine Y2 1 [12, 10, 8, 6, 5, 4, 3, 2] ((12, .j x6.2) :: (Zbg x1 x2 x3 x4)) (Ya ((12, .j x6.2) :: (Zbg x1 x2 x3 x4)) (Zbf x1 x2) (StC.mk (phi [(3, some 3), (5, some 5)]) (.o rfl (.i4 .nil) (.o rfl (.i4 .nil) .nil)) rfl (.i4 (.cons (.r rfl) (.cons .im (.cons (.r rfl) (.cons .im .nil)))))) ?_)
 refine Y1 (Y0 ?_)
 have ⟨x7, hx7, H⟩ := Yt H
 refine OpsW.call rfl rfl (by kernel_rfl) [] _ _ rfl (Yg trivial) (.cons (.pur rfl) (.cons (.pur rfl) .nil)) (Y27 hx7) ?_
 rintro _ _ ⟨rfl, rfl⟩
 refine ⟨(fresh_F0 rfl rfl), .inl rfl, ?_⟩
 refine OpsW.heapEq (heap_mid0 rfl) ?_
 change OpsW _ _ _ _ ((51, .agg (Zd1 x7)) :: (12, .j x6.2) :: (Zbg x1 x2 x3 x4)) ((Zbx x1 x2 x7) ++ fmsH [fmA 11500 4 1 eB x7.Up, fmA 11501 4 1 eB x7.Down]) _
 refine Ya (Zc3 x1 x2 x3 x4 x6 x7) ((Zc1 x1 x2 x7) ++ fmsH (Zck x7)) (Yp (hc := (Zbx x1 x2 x7)) (fs := [fmA 11500 4 1 eB x7.Up, fmA 11501 4 1 eB x7.Down]) (hc' := (Zc1 x1 x2 x7)) (fs' := (Zck x7)) rfl [(601, some 1500), (602, some 1501), (3, some 3), (5, some 5)] [(10601, .same 11500), (10602, .same 11501)] rfl (.o rfl (Yf rfl rfl (by decide) rfl rfl rfl) (.o rfl (Yf rfl rfl (by decide) rfl rfl rfl) (.o rfl (.i4 .nil) (.o rfl (.i4 .nil) .nil)))) rfl (.cons rfl (Ym rfl) (.cons rfl (Ym rfl) .nil)) (.cons (.agg (.i2 (.cons (.s rfl) (.cons (.s rfl) .nil)))) (.i4 (.cons (.r rfl) (.cons .im (.cons (.r rfl) (.cons .im .nil))))))) ?_
 change OpsW _ _ _ _ (Zc3 x1 x2 x3 x4 x6 x7) ((Zc1 x1 x2 x7) ++ fmsH (Zck x7)) _
 refine Yo rfl rfl rfl 13 (Y4r rfl) (by kernel_rfl : zc Tryd.prog 47 = some [.j 0, .j 0, .slice none 0 0, .slice none 0 0]) (by kernel_rfl) (OpsW.store rfl rfl rfl rfl trivial trivial rfl rfl rfl (by kernel_rfl) (Y5 (by kernel_rfl)) (X0 (by kernel_rfl)) ?_)
 change OpsW _ _ _ _ _ ((Zbr x1 x2 x7) ++ fmsH (Zck x7)) _
 refine Y2 0 [13, 12, 10, 8, 6, 5, 4, 3, 2] (Zbm x1 x2 x3 x4 x6) (Ya (Zbm x1 x2 x3 x4 x6) ((Zbj x1 x2 x7) ++ fmsH (Zcn x7)) (Yp (hc := (Zbr x1 x2 x7)) (fs := (Zck x7)) (hc' := (Zbj x1 x2 x7)) (fs' := (Zcn x7)) rfl [(3, some 3), (5, some 5), (13, some 13), (5130, some 601), (5131, some 602)] [(15130, .same 10601), (15131, .same 10602)] rfl (.o rfl (.i4 .nil) (.o rfl (.i4 .nil) (.o rfl (.i2 (.cons (.s rfl) (.cons (.s rfl) .nil))) (.o rfl (Yf rfl rfl (by decide) rfl rfl rfl) (.o rfl (Yf rfl rfl (by decide) rfl rfl rfl) .nil))))) rfl (.cons rfl (Ym rfl) (.cons rfl (Ym rfl) .nil)) (.cons (.r rfl) (.i4 (.cons (.r rfl) (.cons .im (.cons (.r rfl) (.cons .im .nil))))))) ?_)
 refine Y1 (Y0 ?_)
 have ⟨g8, H⟩ := Y6 H
 refine Y8 3 [54, 13, 12, 10, 8, 6, 5, 4, 3, 2] ((54, .ref 5130 0 Zco) :: (Zbm x1 x2 x3 x4 x6)) ⟨g8, trivial⟩ (OpsW.asU (.rsl Zcq 0 0 ((x7.Up.getD (0 : Int).toNat []).length)) rfl rfl (Y2o rfl trivial (by kernel_rfl) rfl rfl rfl (Y5b (ltN g8) (by first | omega | (simp only [Zck, Zcn, Zco, Zcq]; omega)))) ?_)
 have ⟨g9, H⟩ := Y6 H
 change OpsW _ _ _ _ (Zbs x1 x2 x3 x4 x6 x7) ((Zbj x1 x2 x7) ++ fmsH (Zcn x7)) _
 refine OpsW.asU (.ref Zcq 0 Zco) rfl rfl (T.idxF rfl rfl trivial trivial (by kernel_rfl) (by kernel_rfl) (row_f rfl rfl (ltN g8)) rfl rfl g9) ?_
 change OpsW _ _ _ _ ((56, .ref Zcq 0 Zco) :: (Zbs x1 x2 x3 x4 x6 x7)) ((Zbj x1 x2 x7) ++ fmsH (Zcn x7)) _
 refine Y1x (enc := eB) (k := 1) (xs := x7.Up) (hc' := (Zbe x1 x2 x7)) false true [.val (.bool true)] (0 : Int).toNat (0 : Int).toNat 0 rfl rfl rfl (by first | rfl | exact congrArg (AV.ref Zcq 0) (by first | omega | (simp only [Zc9, Zcn, Zco, Zcq]; omega))) trivial trivial rfl rfl (fun _ => rfl) rfl (by kernel_rfl) (Y5 (by kernel_rfl)) (ltN g8) (ltN g9) (X0 (by kernel_rfl)) rfl (by simp only [Xs, nsA_set, Zc9, Zce, Zcf, Zcm, Zcn, Zco, Zcq, Zcv, Zbe, Zbg, Zbj, Zbm, Zbs]) ?_
 change OpsW _ _ _ _ ((56, .ref Zcq 0 Zco) :: (Zbs x1 x2 x3 x4 x6 x7)) ((Zbe x1 x2 x7) ++ fmsH [fmA 15130 4 1 eB (Zc9 x7), fmA 15131 4 1 eB x7.Down]) _
 refine Y2 0 [13, 12, 10, 8, 6, 5, 4, 3, 2] (Zbm x1 x2 x3 x4 x6) ?_
 refine Y1 (Y0 ?_)
 have ⟨x10, hx10, H⟩ := Yt H
 refine OpsW.call rfl rfl (by kernel_rfl) [] _ _ rfl (Yg trivial) (.cons (.pur rfl) (.cons (.pur rfl) .nil)) (Y27 hx10) ?_
 rintro _ _ ⟨rfl, rfl⟩
 refine ⟨(fresh_F rfl rfl rfl), .inl rfl, ?_⟩
 refine OpsW.heapEq (heap_mid rfl) ?_
 change OpsW _ _ _ _ ((57, .agg (Zcy x10)) :: (Zbm x1 x2 x3 x4 x6)) ((Zbv x1 x2 x7 x10) ++ fmsH (Zcu x7 x10)) _
 refine Ya (Zc5 x1 x2 x3 x4 x6 x10) ((Zc2 x1 x2 x7 x10) ++ fmsH (Zcd x7 x10)) (Yp (hc := (Zbv x1 x2 x7 x10)) (fs := (Zcu x7 x10)) (hc' := (Zc2 x1 x2 x7 x10)) (fs' := (Zcd x7 x10)) rfl [(601, some 1500), (602, some 1501), (3, some 3), (5, some 5), (13, some 13), (5130, some 5130), (5131, some 5131)] [(10601, .same 11500), (10602, .same 11501), (15130, .same 15130), (15131, .same 15131)] rfl (.o rfl (Yf rfl rfl (by decide) rfl rfl rfl) (.o rfl (Yf rfl rfl (by decide) rfl rfl rfl) (.o rfl (.i4 .nil) (.o rfl (.i4 .nil) (.o rfl (.i2 (.cons (.s rfl) (.cons (.s rfl) .nil))) (.o rfl (Yf rfl rfl (by decide) rfl rfl rfl) (.o rfl (Yf rfl rfl (by decide) rfl rfl rfl) .nil))))))) rfl (.cons rfl (Ym rfl) (.cons rfl (Ym rfl) (.cons rfl (Ym rfl) (.cons rfl (Ym rfl) .nil)))) (.cons (.agg (.i2 (.cons (.s rfl) (.cons (.s rfl) .nil)))) (.cons (.r rfl) (.i4 (.cons (.r rfl) (.cons .im (.cons (.r rfl) (.cons .im .nil)))))))) ?_
 change OpsW _ _ _ _ (Zc5 x1 x2 x3 x4 x6 x10) ((Zc2 x1 x2 x7 x10) ++ fmsH (Zcd x7 x10)) _
 refine Yo rfl rfl rfl 14 (Y4r rfl) (by kernel_rfl : zc Tryd.prog 47 = some [.j 0, .j 0, .slice none 0 0, .slice none 0 0]) (by kernel_rfl) (OpsW.store rfl rfl rfl rfl trivial trivial rfl rfl rfl (by kernel_rfl) (Y5 (by kernel_rfl)) (X0 (by kernel_rfl)) ?_)
 change OpsW _ _ _ _ _ ((Zbq x1 x2 x7 x10) ++ fmsH (Zcd x7 x10)) _
 refine Y2 0 [14, 13, 12, 10, 8, 6, 5, 4, 3, 2] (Zcx :: (Zbm x1 x2 x3 x4 x6)) (Ya (Zcx :: (Zbm x1 x2 x3 x4 x6)) ((Zbh x1 x2 x7 x10) ++ fmsH (Zcg x7 x10)) (Yp (hc := (Zbq x1 x2 x7 x10)) (fs := (Zcd x7 x10)) (hc' := (Zbh x1 x2 x7 x10)) (fs' := (Zcg x7 x10)) rfl [(3, some 3), (5, some 5), (13, some 13), (14, some 14), (5130, some 5130), (5131, some 5131), (5140, some 601), (5141, some 602)] [(15130, .same 15130), (15131, .same 15131), (15140, .same 10601), (15141, .same 10602)] rfl (.o rfl (.i4 .nil) (.o rfl (.i4 .nil) (.o rfl (.i2 (.cons (.s rfl) (.cons (.s rfl) .nil))) (.o rfl (.i2 (.cons (.s rfl) (.cons (.s rfl) .nil))) (.o rfl (Yf rfl rfl (by decide) rfl rfl rfl) (.o rfl (Yf rfl rfl (by decide) rfl rfl rfl) (.o rfl (Yf rfl rfl (by decide) rfl rfl rfl) (.o rfl (Yf rfl rfl (by decide) rfl rfl rfl) .nil)))))))) rfl (.cons rfl (Ym rfl) (.cons rfl (Ym rfl) (.cons rfl (Ym rfl) (.cons rfl (Ym rfl) .nil)))) (.cons (.r rfl) (.cons (.r rfl) (.i4 (.cons (.r rfl) (.cons .im (.cons (.r rfl) (.cons .im .nil)))))))) ?_)
 refine Y1 (Y0 ?_)
 have ⟨g11, H⟩ := Y6 H
 refine Y8 3 [60, 14, 13, 12, 10, 8, 6, 5, 4, 3, 2] ((60, .ref 5141 0 Zco) :: Zcx :: (Zbm x1 x2 x3 x4 x6)) ⟨g11, trivial⟩ (OpsW.asU (.rsl Zcp 0 0 ((x10.Down.getD (0 : Int).toNat []).length)) rfl rfl (Y2o rfl trivial (by kernel_rfl) rfl rfl rfl (Y5b (ltN g11) (by first | omega | (simp only [Zc9, Zcd, Zcg, Zco, Zcp]; omega)))) ?_)
 have ⟨g12, H⟩ := Y6 H
 change OpsW _ _ _ _ (Zbp x1 x2 x3 x4 x6 x10) ((Zbh x1 x2 x7 x10) ++ fmsH (Zcg x7 x10)) _
 refine OpsW.asU (.ref Zcp 0 (0 + (47 : Int).toNat * 1)) rfl rfl (T.idxF rfl rfl trivial trivial (by kernel_rfl) (by kernel_rfl) (row_f rfl rfl (ltN g11)) rfl rfl g12) ?_
 change OpsW _ _ _ _ ((62, .ref Zcp 0 (0 + (47 : Int).toNat * 1)) :: (Zbp x1 x2 x3 x4 x6 x10)) ((Zbh x1 x2 x7 x10) ++ fmsH (Zcg x7 x10)) _
 refine Y1x (enc := eB) (k := 1) (xs := x10.Down) (hc' := (Zbi x1 x2 x7 x10)) false true [.val (.bool true)] (0 : Int).toNat (47 : Int).toNat 0 rfl rfl rfl (by first | rfl | exact congrArg (AV.ref Zcp 0) (by first | omega | (simp only [Zc9, Zcc, Zcg, Zco, Zcp]; omega))) trivial trivial rfl rfl (fun _ => rfl) rfl (by kernel_rfl) (Y5 (by kernel_rfl)) (ltN g11) (ltN g12) (X0 (by kernel_rfl)) rfl (by simp only [Xs, nsA_set, Zc9, Zcc, Zce, Zcf, Zcg, Zcm, Zco, Zcp, Zcv, Zcx, Zbg, Zbh, Zbi, Zbm, Zbp]) ?_
 change OpsW _ _ _ _ ((62, .ref Zcp 0 (0 + (47 : Int).toNat * 1)) :: (Zbp x1 x2 x3 x4 x6 x10)) ((Zbi x1 x2 x7 x10) ++ fmsH (Zct x7 x10)) _
 refine Y2 0 [14, 13, 12, 10, 8, 6, 5, 4, 3, 2] (Zcx :: (Zbm x1 x2 x3 x4 x6)) ?_
 refine Y1 (Y0 (Ya (Zcx :: (Zbm x1 x2 x3 x4 x6)) (Zbn x1 x2 x7 x10) (Yp (hc := (Zbi x1 x2 x7 x10)) (fs := (Zct x7 x10)) (hc' := (Zbn x1 x2 x7 x10)) (fs' := []) rfl [(3, some 3), (5, some 5), (13, some 13), (14, some 14)] [] rfl (.o rfl (.i4 .nil) (.o rfl (.i4 .nil) (.o rfl (.i2 (.cons (Y10 rfl rfl (fun _ => rfl) rfl rfl rfl) (.cons (Y10 rfl rfl (fun _ => rfl) rfl rfl rfl) .nil))) (.o rfl (.i2 (.cons (Y10 rfl rfl (fun _ => rfl) rfl rfl rfl) (.cons (Y10 rfl rfl (fun _ => rfl) rfl rfl rfl) .nil))) .nil)))) rfl .nil (.cons (.r rfl) (.cons (.r rfl) (.i4 (.cons (.r rfl) (.cons .im (.cons (.r rfl) (.cons .im .nil)))))))) ?_))
 refine Y8 21 [83, 82, 81, 14, 13, 5, 2] [(83, .cnd (Zd2 x1 x2 x3 x4 x6) (.agg (Zcl x7))), (82, .cnd (Zd2 x1 x2 x3 x4 x6) (.agg (Zce x1))), (81, .bool (Zd2 x1 x2 x3 x4 x6)), Zcx, (13, .ref 13 0 0), (5, .ref 5 0 0), Zcv] ⟨(fun h => h), (fun h => by first | exact h | (simpa using h) | grind), (fun h => h), (fun h => by first | exact h | (simpa using h) | grind), (fun h => h), (fun h => by first | exact h | (simpa using h) | grind), (fun h => h), (fun h => by first | exact h | (simpa using h) | grind), trivial⟩ ?_
 have ⟨x13, hx13, H⟩ := Yt H
 refine OpsW.gcall (c := cond (Zch x1 x2 x3 x4) (x6.2 == 250) false) (r := .bool x13) [] rfl (by kernel_rfl) rfl rfl rfl rfl (fun hc => ⟨Yg ⟨hc, hc, trivial⟩, (.cons (.pur rfl) (.cons (.pur rfl) .nil)), f_R25_Equal_ok (condT hc hx13), .inl ⟨rfl, rfl⟩⟩) (Y8 4 [88, 87, 86, 14, 13, 2] ((88, .cnd (Zc8 x1 x2 x3 x4 x6 x13) (.agg (Zcs x10))) :: (87, .cnd (Zc8 x1 x2 x3 x4 x6 x13) (.agg (Zcf x2))) :: (86, .bool (Zc8 x1 x2 x3 x4 x6 x13)) :: Zbo) ⟨(fun h => by first | exact h | (simpa using h) | grind), trivial⟩ ?_)
 have ⟨x14, hx14, H⟩ := Yt H
 refine OpsW.gcall (c := cond (Zd2 x1 x2 x3 x4 x6) x13 false) (r := .bool x14) [] rfl (by kernel_rfl) rfl rfl rfl rfl (fun hc => ⟨Yg ⟨hc, hc, trivial⟩, (.cons (.pur rfl) (.cons (.pur rfl) .nil)), f_R25_Equal_ok (condT hc hx14), .inl ⟨rfl, rfl⟩⟩) (Y8 3 [92, 91, 14, 13, 2] ((92, .cnd (cond (Zc8 x1 x2 x3 x4 x6 x13) x14 false) (.agg (Zcl x7))) :: (91, .bool (cond (Zc8 x1 x2 x3 x4 x6 x13) x14 false)) :: Zbo) ⟨(fun h => by first | exact h | (simpa using h) | grind), trivial⟩ ?_)
 have ⟨x15, hx15, H⟩ := Yt H
 refine OpsW.gcall (c := cond (Zc8 x1 x2 x3 x4 x6 x13) x14 false) (r := .bool x15) [] rfl (by kernel_rfl) rfl rfl rfl rfl (fun hc => ⟨Yg ⟨hc, trivial⟩, (.cons (.pur rfl) .nil), Y1t (condT hc hx15), .inl ⟨rfl, rfl⟩⟩) (Y8 3 [96, 95, 14, 13, 2] ((96, .cnd (Zcr x1 x2 x3 x4 x6 x13 x14 x15) (.agg Zcb)) :: (95, .bool (Zcr x1 x2 x3 x4 x6 x13 x14 x15)) :: Zbo) ⟨(fun h => by first | exact h | (simpa using h) | grind), trivial⟩ ?_)
 have ⟨x16, hx16, H⟩ := Yt H
 refine OpsW.gcall (c := cond (cond (Zc8 x1 x2 x3 x4 x6 x13) x14 false) x15 false) (r := .bool x16) [] rfl (by kernel_rfl) rfl rfl rfl rfl (fun hc => ⟨Yg ⟨hc, trivial⟩, (.cons (ArgS.agg (.cons (.pur rfl) (.cons (.pur rfl) (.cons .nil (.cons .nil .nil))))) .nil), Y1t (condT hc hx16), .inl ⟨rfl, rfl⟩⟩) (Y8 3 [100, 14, 13, 2] ((100, .bool (cond (Zcr x1 x2 x3 x4 x6 x13 x14 x15) (!x16) false)) :: Zbo) ⟨(fun h => h), (fun h => by first | exact h | (simpa using h) | grind), trivial⟩ ?_)
 have ⟨x17, hx17, H⟩ := Yt H
 refine OpsW.gcall (c := cond (Zcr x1 x2 x3 x4 x6 x13 x14 x15) (!x16) false) (r := .agg [.j x17.W, .j x17.H, sD x17.Up, sD x17.Down]) [] rfl (by kernel_rfl) rfl rfl rfl rfl (fun hc => ⟨Yg trivial, (.cons (.pur rfl) (.cons (.pur rfl) .nil)), f_R25_Empty_ok (condT hc hx17), .inl ⟨rfl, rfl⟩⟩) ?_
 have ⟨x18, hx18, H⟩ := Yt H
 refine OpsW.gcall (c := cond (Zcr x1 x2 x3 x4 x6 x13 x14 x15) (!x16) false) (r := .bool x18) [] rfl (by kernel_rfl) rfl rfl rfl rfl (fun hc => ⟨Yg ⟨hc, trivial⟩, (.cons (.pur rfl) .nil), Y1t (condT hc hx18), .inl ⟨rfl, rfl⟩⟩) (Y8 5 [107, 106, 105, 14, 13, 2] ((107, .cnd (Zca x1 x2 x3 x4 x6 x13 x14 x15 x16 x18) (.agg (Zcs x10))) :: (106, .cnd (Zca x1 x2 x3 x4 x6 x13 x14 x15 x16 x18) (.agg (Zcl x7))) :: (105, .bool (Zca x1 x2 x3 x4 x6 x13 x14 x15 x16 x18)) :: Zbo) ⟨(fun h => h), (fun h => by first | exact h | (simpa using h) | grind), trivial⟩ ?_)
 have ⟨x19, hx19, H⟩ := Yt H
 refine OpsW.gcall (c := cond (cond (Zcr x1 x2 x3 x4 x6 x13 x14 x15) (!x16) false) (!x18) false) (r := .bool x19) [] rfl (by kernel_rfl) rfl rfl rfl rfl (fun hc => ⟨Yg ⟨hc, hc, trivial⟩, (.cons (.pur rfl) (.cons (.pur rfl) .nil)), f_sheet_Equal_ok (condT hc hx19), .inl ⟨rfl, rfl⟩⟩) (Y8 4 [112, 111, 14, 13, 2] ((112, .cnd (cond (Zca x1 x2 x3 x4 x6 x13 x14 x15 x16 x18) (!x19) false) (.agg (Zcl x7))) :: (Zbu x1 x2 x3 x4 x6 x13 x14 x15 x16 x18 x19)) ⟨(fun h => h), (fun h => by first | exact h | (simpa using h) | grind), trivial⟩ ?_)
 have ⟨x20, hx20, H⟩ := Yt H
 refine OpsW.gcall (c := cond (Zca x1 x2 x3 x4 x6 x13 x14 x15 x16 x18) (!x19) false) (r := sC x20) [] rfl (by kernel_rfl) rfl rfl rfl rfl (fun hc => ⟨Yg ⟨hc, trivial⟩, (.cons (.pur rfl) .nil), f_sheet_Front_ok (condT hc hx20), .inl ⟨rfl, rfl⟩⟩) (Y2 1 [114, 113, 111, 14, 13, 2] ((114, .cnd (cond (Zca x1 x2 x3 x4 x6 x13 x14 x15 x16 x18) (!x19) false) (sC [[(1 : Int)]])) :: (113, .cnd (cond (Zca x1 x2 x3 x4 x6 x13 x14 x15 x16 x18) (!x19) false) (sC x20)) :: (Zbu x1 x2 x3 x4 x6 x13 x14 x15 x16 x18 x19)) ?_)
 have ⟨x21, hx21, H⟩ := Yt H
 refine OpsW.gcall (c := cond (Zca x1 x2 x3 x4 x6 x13 x14 x15 x16 x18) (!x19) false) (r := .bool x21) [] rfl (by kernel_rfl) rfl rfl rfl rfl (fun hc => ⟨Yg ⟨hc, hc, trivial⟩, (.cons (.pur rfl) (.cons (.pur rfl) .nil)), Y4i (condT hc hx21), .inl ⟨rfl, rfl⟩⟩) (Y8 3 [118, 117, 13, 2] [(118, .cnd (Zcj x1 x2 x3 x4 x6 x13 x14 x15 x16 x18 x19 x21) (.agg (Zcs x10))), (117, .bool (Zcj x1 x2 x3 x4 x6 x13 x14 x15 x16 x18 x19 x21)), (13, .ref 13 0 0), Zcv] ⟨(fun h => by first | exact h | (simpa using h) | grind), trivial⟩ ?_)
 have ⟨x22, hx22, H⟩ := Yt H
 refine OpsW.gcall (c := cond (cond (Zca x1 x2 x3 x4 x6 x13 x14 x15 x16 x18) (!x19) false) x21 false) (r := sC x22) [] rfl (by kernel_rfl) rfl rfl rfl rfl (fun hc => ⟨Yg ⟨hc, trivial⟩, (.cons (.pur rfl) .nil), f_sheet_Back_ok (condT hc hx22), .inl ⟨rfl, rfl⟩⟩) (Y2 1 [120, 119, 117, 13] [(120, .cnd (Zcj x1 x2 x3 x4 x6 x13 x14 x15 x16 x18 x19 x21) (sC [[(1 : Int)]])), (119, .cnd (Zcj x1 x2 x3 x4 x6 x13 x14 x15 x16 x18 x19 x21) (sC x22)), (117, .bool (Zcj x1 x2 x3 x4 x6 x13 x14 x15 x16 x18 x19 x21)), (13, .ref 13 0 0)] ?_)
 have ⟨x23, hx23, H⟩ := Yt H
 refine OpsW.gcall (c := cond (cond (Zca x1 x2 x3 x4 x6 x13 x14 x15 x16 x18) (!x19) false) x21 false) (r := .bool x23) [] rfl (by kernel_rfl) rfl rfl rfl rfl (fun hc => ⟨Yg ⟨hc, hc, trivial⟩, (.cons (.pur rfl) (.cons (.pur rfl) .nil)), Y4i (condT hc hx23), .inl ⟨rfl, rfl⟩⟩) (Y8 3 [124, 123] [(124, .cnd (cond (Zcj x1 x2 x3 x4 x6 x13 x14 x15 x16 x18 x19 x21) x23 false) (.agg (Zcl x7))), (123, .bool (cond (Zcj x1 x2 x3 x4 x6 x13 x14 x15 x16 x18 x19 x21) x23 false))] ⟨(fun h => by first | exact h | (simpa using h) | grind), trivial⟩ ?_)
 have ⟨x24, hx24, H⟩ := Yt H
 refine OpsW.gcall (c := cond (Zcj x1 x2 x3 x4 x6 x13 x14 x15 x16 x18 x19 x21) x23 false) (r := sC x24) [] rfl (by kernel_rfl) rfl rfl rfl rfl (fun hc => ⟨Yg ⟨hc, trivial⟩, (.cons (.pur rfl) .nil), f_sheet_Back_ok (condT hc hx24), .inl ⟨rfl, rfl⟩⟩) (Y8 4 [0] (Zbl x1 x2 x3 x4 x6 x13 x14 x15 x16 x18 x19 x21 x23 x24) ⟨(fun h => h), (fun h => h), (fun h => by first | exact h | (simpa using h) | grind), trivial⟩ (Ya (Zbl x1 x2 x3 x4 x6 x13 x14 x15 x16 x18 x19 x21 x23 x24) [] (StC.pure (.cons .im .nil)) (Y1 ?_)))
 obtain rfl := X1 H
 refine AW.recast (env' := (Zbl x1 x2 x3 x4 x6 x13 x14 x15 x16 x18 x19 x21 x23 x24)) (h' := []) (StC.pure (.cons .im .nil)) (Yl ?_)
 try simp only [Ex.t, Ex.b]
 exact Yh rfl (.tmp .nil)
def Y49 (t0 : S_Raw) : Option Y0k :=
 G (inR ((24 : Int) + (IntKind.wrap .i64 (Int.tmod t0.W (7 : Int))))) <|
 G (inR ((4 : Int) + (IntKind.wrap .i64 (Int.tmod t0.H (5 : Int))))) <|
 some (⟨(24 : Int) + (IntKind.wrap .i64 (Int.tmod t0.W (7 : Int))), (4 : Int) + (IntKind.wrap .i64 (Int.tmod t0.H (5 : Int))), (1 : Int)⟩ : Y0k)
section
variable (t0 : S_Raw)
abbrev Zd6 : List AV := [.int .u8 t0.W, .int .u8 t0.H, sC t0.Front, sC t0.Back, .int .u8 t0.Head.Width, .int .u16 t0.Head.N, .int .u8 t0.Head.K, .bool t0.Head.Back, .int .u16 t0.Head.Ink, .int .u8 t0.Head.Part]
abbrev Zd7 : List AV := [.j ((24 : Int) + (IntKind.wrap .i64 (Int.tmod t0.W (7 : Int)))), .j ((4 : Int) + (IntKind.wrap .i64 (Int.tmod t0.H (5 : Int)))), .j (1 : Int)]
abbrev Zd4 : Hp := [(1, ⟨0, true, 27, 10, (Zd6 t0)⟩), (2, ⟨0, true, 32, 3, [.j (0 : Int), .j (0 : Int), .j (0 : Int)]⟩)]
abbrev Zd5 : Hp := [(2, ⟨0, true, 32, 3, (Zd7 t0)⟩)]
end
theorem f_R25_Format_ok  {t0 : S_Raw} {r : Y0k} (H : Y49 t0 = some r) : QSpec Tryd.prog 10 [.agg [.int .u8 t0.W, .int .u8 t0.H, slA (eL (eI .u8)) t0.Front, slA (eL (eI .u8)) t0.Back, .int .u8 t0.Head.Width, .int .u16 t0.Head.N, .int .u8 t0.Head.K, .bool t0.Head.Back, .int .u16 t0.Head.Ink, .int .u8 t0.Head.Part]] (.agg [.int .i64 r.Width, .int .i64 r.Height, .int .i64 r.Binding]) := by
 refine Yj Tryd.func10 rfl (by simp [Tryd.ntmps10]) ?_
 rw [Tryd.ntmps10]
 unfold Y49 at H
 change AW _ _ _ [(0, .agg (Zd6 t0))] [] _
 refine Y0 (OpsW.box rfl rfl rfl 1 rfl (Y5 (by kernel_rfl)) ?_)
 change OpsW _ _ _ _ _ [(1, ⟨0, true, 27, 10, (Zd6 t0)⟩)] _
 refine Yo rfl rfl rfl 2 rfl (by kernel_rfl : zc Tryd.prog 32 = some [.j 0, .j 0, .j 0]) (by kernel_rfl) (Y2 0 [2, 1] [(2, .ref 2 0 0), (1, .ref 1 0 0)] (Ya [(2, .ref 2 0 0), (1, .ref 1 0 0)] (Zd4 t0) (StC.mk (phi [(1, some 1), (2, some 2)]) (.o rfl (.i9 (.cons .im .nil)) (.o rfl (.i3 .nil) .nil)) rfl (.cons (.r rfl) (.cons (.r rfl) .nil))) ?_))
 refine Y1 (Y0 ?_)
 have ⟨g1, H⟩ := Y6 H
 have ⟨g2, H⟩ := Y6 H
 refine Y8 11 [13, 2] [(13, .agg (Zd7 t0)), (2, .ref 2 0 0)] ⟨(by decide), g1, (by decide), g2, trivial⟩ (OpsW.store rfl rfl rfl rfl trivial trivial rfl rfl rfl (by kernel_rfl) (Y5 (by kernel_rfl)) (X0 (by kernel_rfl)) ?_)
 change OpsW _ _ _ _ _ ((2, ⟨0, true, 32, 3, (Zd7 t0)⟩) :: (Zd4 t0)) _
 refine Y2 0 [2] [(2, .ref 2 0 0)] (Ya [(2, .ref 2 0 0)] (Zd5 t0) (StC.mk (phi [(2, some 2)]) (.o rfl (.i3 .nil) .nil) rfl (.cons (.r rfl) .nil)) (Y1 ?_))
 obtain rfl := X1 H
 refine AW.recast (env' := [(2, .ref 2 0 0)]) (h' := (Zd5 t0)) (StC.mk (phi [(2, some 2)]) (.o rfl (.i3 .nil) .nil) rfl (.cons (.r rfl) .nil)) (Yl ?_)
 try simp only [Ex.t, Ex.b]
 exact Yh rfl (.cell rfl (by kernel_rfl) .nil)
def Y55 (t0 : List Int) (t1 : Int) (loop3 : ((List Int) × Int) → Option (List Int)) (v1 : List Int) (v2 : Int) : Option (List Int) :=
 cond (cond (decide (v2 < (t0.length : Int))) (decide (v2 < t1)) false) (
  G (0 ≤ v2 ∧ v2 < (t0.length : Int)) <|
  G (room 1 (v1.length + 1)) <|
  G (inR (v2 + 1)) <|
  loop3 (v1 ++ [Int.tmod (t0.getD v2.toNat 0) (64 : Int)], v2 + 1)) (
  some v1)
def f_R01_Cells (t0 : List Int) (t1 : Int) : Option (List Int) :=
 iter (fun loop (s : (List Int) × Int) => Y55 t0 t1 loop s.1 s.2) 1000000 (([] : List Int), (0 : Int))
section
variable (t0 : List Int) (t1 : Int) (v1 : List Int) (v2 : Int)
abbrev Zd9 := (v1 ++ [Int.tmod (t0.getD v2.toNat 0) (64 : Int)])
abbrev Zd8 : Env := [(0, sU t0), (1, .j t1), (5, .rsl 5 0 0 v1.length), (6, .j v2)]
end
theorem f_R01_Cells_ok  {t0 : List Int} {t1 : Int} {r : List Int} (H : f_R01_Cells t0 t1 = some r) : QSpec Tryd.prog 49 [slA (eI .u8) t0, .int .i64 t1] (slA (eI .u8) r) := by
 refine Yj Tryd.func49 rfl (by simp [Tryd.ntmps49]) ?_
 rw [Tryd.ntmps49]
 unfold f_R01_Cells at H
 change AW _ _ _ [(0, sU t0), (1, .j t1)] [] _
 refine Y0 (Y2 1 [0, 1] [(0, sU t0), (1, .j t1)] ?_)
 refine Y1 (Y0 (Y2b (enc := eI .u8) ([] : List Int) rfl rfl rfl 7 rfl E41 (fun _ => rfl) (by decide) trivial (by kernel_rfl) (by kernel_rfl) (by kernel_rfl) rfl ?_))
 refine Y2 1 [5, 0, 1] [(5, .rsl 7 0 0 (([] : List Int).length)), (0, sU t0), (1, .j t1)] (Ya [(5, .rsl 5 0 0 (([] : List Int).length)), (0, sU t0), (1, .j t1)] [(5, rtA 0 42 1 (eI .u8) ([] : List Int))] (StC.mk (phi [(5, some 7)]) (.o rfl (CstL.ims _) .nil) rfl (.cons (.s rfl) (.i2 .nil))) ?_)
 refine Y1 (Yc (Y0 (Y2 1 [6, 5, 0, 1] [(6, .j (0 : Int)), (5, .rsl 5 0 0 (([] : List Int).length)), (0, sU t0), (1, .j t1)] ?_)))
 refine Y1 (Yd ?_)
 refine Yq (fun loop (s : (List Int) × Int) => Y55 t0 t1 loop s.1 s.2) r (fun (s : (List Int) × Int) => [(0, sU t0), (1, .j t1), (5, .rsl 5 0 0 s.1.length), (6, .j s.2)]) (fun (s : (List Int) × Int) => [(5, rtA 0 42 1 (eI .u8) s.1)]) ?_ 1000000 (([] : List Int), (0 : Int)) H (StC.mk (phi [(5, some 5)]) (.o rfl (CstL.ims _) .nil) rfl (.i2 (.cons (.s rfl) (.cons .im .nil))))
 intro loop3 s H
 obtain ⟨v1, v2⟩ := s
 unfold Y55 at H
 change AW _ _ _ (Zd8 t0 t1 v1 v2) [(5, rtA 0 42 1 (eI .u8) v1)] _
 refine Yc (Y0 (Y8 9 [16, 0, 1, 5, 6] ((16, .bool (cond (decide (v2 < (t0.length : Int))) (decide (v2 < t1)) false)) :: (Zd8 t0 t1 v1 v2)) ⟨(fun h => h), (fun h => h), (fun h => by first | exact h | (simpa using h) | grind), trivial⟩ ?_))
 refine Y1 (Y9 (b := cond (decide (v2 < (t0.length : Int))) (decide (v2 < t1)) false) H rfl (fun c4 H => ?_) (fun c4 H => ?_))
 ·refine Yb (Yc (Yd (Ye ?_)))
  have ⟨g5, H⟩ := Y6 H
  refine Y8 4 [22, 19, 0, 1, 5, 6] ((22, .ipt (t0.flatMap (eI .u8)) (v2.toNat * 1)) :: (19, .rsl 5 0 0 v1.length) :: (Zd8 t0 t1 v1 v2)) ⟨g5, trivial⟩ (OpsW.asU (.int .u8 (t0.getD v2.toNat 0)) rfl rfl (T.load rfl trivial (by kernel_rfl) (Yn (eI .u8) 1 (fun _ => rfl) t0 (0 : Int) v2.toNat (ltN g5) (fun a => .val (.int .u8 a)) (fun _ => rfl))) (Y8 1 [24, 19, 0, 1, 5, 6] ((24, .int .u8 (Int.tmod (t0.getD v2.toNat 0) (64 : Int))) :: (19, .rsl 5 0 0 v1.length) :: (Zd8 t0 t1 v1 v2)) ⟨(by decide), trivial⟩ ?_))
  have ⟨g6, H⟩ := Y6 H
  refine Y1j (enc := eI .u8) [Int.tmod (t0.getD v2.toNat 0) (64 : Int)] rfl rfl rfl (by decide) rfl rfl rfl (by simp) E41 (fun _ => rfl) (by decide) trivial (by kernel_rfl) (by kernel_rfl) (by kernel_rfl) rfl rfl rfl g6 (Y2 1 [5, 0, 1, 6] [(5, .rsl 5 1 0 ((Zd9 t0 v1 v2).length)), (0, sU t0), (1, .j t1), (6, .j v2)] (Ya [(5, .rsl 5 0 0 ((Zd9 t0 v1 v2).length)), (0, sU t0), (1, .j t1), (6, .j v2)] [(5, rtA 0 42 1 (eI .u8) (Zd9 t0 v1 v2))] (StC.mk (phi [(5, some 5)]) (.o rfl (CstL.ims _) .nil) rfl (.cons (.s rfl) (.i3 .nil))) ?_))
  refine Y1 (Ye ?_)
  have ⟨g7, H⟩ := Y6 H
  refine Y8 3 [6, 5, 0, 1] [(6, .j (v2 + 1)), (5, .rsl 5 0 0 ((Zd9 t0 v1 v2).length)), (0, sU t0), (1, .j t1)] ⟨g7, trivial⟩ (Y1 ?_)
  exact ⟨(v1 ++ [Int.tmod (t0.getD v2.toNat 0) (64 : Int)], v2 + 1), H, (StC.mk (phi [(5, some 5)]) (.o rfl (CstL.ims _) .nil) rfl (.i2 (.cons (.s rfl) (.cons .im .nil))))⟩
 refine AW.exit ?_
 refine Y0 (Y2 2 [4] [(4, .rsl 5 0 0 v1.length)] ?_)
 refine Ya [(4, sU v1)] [] (StC.mk (phi []) .nil rfl (.cons (.frz rfl rfl rfl (Y1b (eI .u8) 1 (fun _ => rfl) v1) (Yy (eI .u8) 1 (fun _ => rfl) v1) (Y3c rfl)) .nil)) (Y1 ?_)
 obtain rfl := X1 H
 refine AW.recast (env' := [(4, sU v1)]) (h' := []) (StC.pure (.cons .im .nil)) (Yl ?_)
 try simp only [Ex.t, Ex.b]
 exact Yh rfl (.tmp .nil)
def Y4x (loop3 : ((List (List Int)) × Int) → Option (List (List Int))) (v1 : List (List Int)) (v2 : Int) (x6 : List Int) (loop8 : (Int) → Option (List (List Int))) (v7 : Int) : Option (List (List Int)) :=
 G ((decide (0 < v7)) = true → inR (v7 - 1)) <|
 G ((decide (0 < v7)) = true → (0 ≤ (v7 - 1) ∧ (v7 - 1) < (x6.length : Int))) <|
 cond (cond (decide (0 < v7)) ((x6.getD (v7 - 1).toNat (0 : Int)) == 0) false) (
  G (inR (v7 - 1)) <|
  loop8 (v7 - 1)) (
  G (0 ≤ v7 ∧ v7 ≤ (x6.length : Int)) <|
  G (room 24 (v1.length + 1)) <|
  G (inR (v2 + 1)) <|
  loop3 (v1 ++ [x6.take v7.toNat], v2 + 1))
def Y3o (loop17 : ((List (List Int))) → Option (List (List Int))) (v16 : List (List Int)) : Option (List (List Int)) :=
 G ((decide ((0 : Int) < (v16.length : Int))) = true → inR ((v16.length : Int) - 1)) <|
 G ((decide ((0 : Int) < (v16.length : Int))) = true → (0 ≤ ((v16.length : Int) - 1) ∧ ((v16.length : Int) - 1) < (v16.length : Int))) <|
 cond (cond (decide ((0 : Int) < (v16.length : Int))) (((v16.getD ((v16.length : Int) - 1).toNat []).length : Int) == (0 : Int)) false) (
  G (inR ((v16.length : Int) - 1)) <|
  G (0 ≤ ((v16.length : Int) - 1) ∧ ((v16.length : Int) - 1) ≤ (v16.length : Int)) <|
  loop17 (v16.take (((v16.length : Int) - 1).toNat))) (
  some v16)
def Y4w (t0 : List (List Int)) (t1 : Int) (t2 : Int) (loop3 : ((List (List Int)) × Int) → Option (List (List Int))) (v1 : List (List Int)) (v2 : Int) : Option (List (List Int)) :=
 cond (cond (decide (v2 < (t0.length : Int))) (decide (v2 < t2)) false) (
  G (0 ≤ v2 ∧ v2 < (t0.length : Int)) <|
  (f_R01_Cells (t0.getD v2.toNat []) t1).bind fun x6 =>
  iter (fun loop (s : Int) => Y4x loop3 v1 v2 x6 loop s) 1000000 (x6.length : Int)) (
  iter (fun loop (s : (List (List Int))) => Y3o loop s) 1000000 v1)
def Y5i (t0 : List (List Int)) (t1 : Int) (t2 : Int) : Option (List (List Int)) :=
 iter (fun loop (s : (List (List Int)) × Int) => Y4w t0 t1 t2 loop s.1 s.2) 1000000 (([] : List (List Int)), (0 : Int))
section
variable (t0 : List (List Int)) (t1 : Int) (t2 : Int) (v1 : List (List Int)) (v2 : Int) (v7 : Int) (v16 : List (List Int)) (x6 : List Int)
abbrev Zdd := ((v16.length : Int) - 1)
abbrev Zde := (decide ((0 : Int) < (v16.length : Int)))
abbrev Zdf := ([] : List (List Int))
abbrev Zdg := List (List Int)
abbrev Zda : Env := [(0, sC t0), (1, .j t1), (2, .j t2), (7, .rsl 7 0 0 v1.length), (8, .j v2)]
abbrev Zdb : Env := [(0, sC t0), (1, .j t1), (2, .j t2), (7, .rsl 7 0 0 v1.length), (8, .j v2), (9, sU x6), (10, .j v7)]
abbrev Zdc : Env := [(0, sC t0), (1, .j t1), (2, .j t2)]
end
theorem f_R25_lines_own {t0 : List (List Int)} {t1 : Int} {t2 : Int} {r : List (List Int)} (H : Y5i t0 t1 t2 = some r) : Abs.Spec Tryd.prog 29 [slA (eL (eI .u8)) t0, .int .i64 t1, .int .i64 t2] [] (fun x h => x = .rsl 1000 0 0 r.length ∧ h = [(1000, rtA 0 41 1 (eL (eI .u8)) r)]) := by
 refine Yj Tryd.func29 rfl (by simp [Tryd.ntmps29]) ?_
 rw [Tryd.ntmps29]
 unfold Y5i at H
 change AW _ _ _ (Zdc t0 t1 t2) [] _
 refine Y0 (Y2 1 [0, 1, 2] (Zdc t0 t1 t2) ?_)
 refine Y1 (Y0 (Y2b (enc := eL (eI .u8)) Zdf rfl rfl rfl 11 rfl E37 (fun _ => rfl) (by decide) trivial (by kernel_rfl) (by kernel_rfl) (by kernel_rfl) rfl ?_))
 refine Y2 1 [7, 0, 1, 2] ((7, .rsl 11 0 0 (Zdf.length)) :: (Zdc t0 t1 t2)) (Ya ((7, .rsl 7 0 0 (Zdf.length)) :: (Zdc t0 t1 t2)) [(7, rtA 0 41 1 (eL (eI .u8)) Zdf)] (StC.mk (phi [(7, some 11)]) (.o rfl (CstL.ims _) .nil) rfl (.cons (.s rfl) (.i3 .nil))) ?_)
 refine Y1 (Yc (Y0 (Y2 1 [8, 7, 0, 1, 2] ((8, .j (0 : Int)) :: (7, .rsl 7 0 0 (Zdf.length)) :: (Zdc t0 t1 t2)) ?_)))
 refine Y1 (Yd ?_)
 refine Yq (fun loop (s : Zdg × Int) => Y4w t0 t1 t2 loop s.1 s.2) r (fun (s : Zdg × Int) => [(0, sC t0), (1, .j t1), (2, .j t2), (7, .rsl 7 0 0 s.1.length), (8, .j s.2)]) (fun (s : Zdg × Int) => [(7, rtA 0 41 1 (eL (eI .u8)) s.1)]) ?_ 1000000 (Zdf, (0 : Int)) H (StC.mk (phi [(7, some 7)]) (.o rfl (CstL.ims _) .nil) rfl (.i3 (.cons (.s rfl) (.cons .im .nil))))
 intro loop3 s H
 obtain ⟨v1, v2⟩ := s
 unfold Y4w at H
 change AW _ _ _ (Zda t0 t1 t2 v1 v2) [(7, rtA 0 41 1 (eL (eI .u8)) v1)] _
 refine Yc (Y0 (Y8 9 [20, 0, 1, 2, 7, 8] ((20, .bool (cond (decide (v2 < (t0.length : Int))) (decide (v2 < t2)) false)) :: (Zda t0 t1 t2 v1 v2)) ⟨(fun h => h), (fun h => h), (fun h => by first | exact h | (simpa using h) | grind), trivial⟩ ?_))
 refine Y1 (Y9 (b := cond (decide (v2 < (t0.length : Int))) (decide (v2 < t2)) false) H rfl (fun c4 H => ?_) (fun c4 H => ?_))
 ·refine Yb (Yc (Yd (Y0 ?_)))
  have ⟨g5, H⟩ := Y6 H
  refine Y8 3 [25, 0, 1, 2, 7, 8] ((25, .ipt (t0.flatMap (eL (eI .u8))) (v2.toNat * 1)) :: (Zda t0 t1 t2 v1 v2)) ⟨g5, trivial⟩ (OpsW.asU (sU (t0.getD v2.toNat [])) rfl rfl (T.load rfl trivial (by kernel_rfl) (Yn (eL (eI .u8)) 1 (fun _ => rfl) t0 [] v2.toNat (ltN g5) (fun a => .sl (a.flatMap (eI .u8)) a.length) (fun _ => rfl))) (Y2 1 [27, 26, 0, 1, 2, 7, 8] ((27, .j t1) :: (26, sU (t0.getD v2.toNat [])) :: (Zda t0 t1 t2 v1 v2)) ?_))
  have ⟨x6, hx6, H⟩ := Yt H
  refine Ys rfl (.cons (.pur rfl) (.cons (.pur rfl) .nil)) (f_R01_Cells_ok hx6) (Y2 1 [9, 0, 1, 2, 7, 8] ((9, sU x6) :: (Zda t0 t1 t2 v1 v2)) ?_)
  refine Y1 (Y0 (Y2 3 [10, 9, 0, 1, 2, 7, 8] ((10, .j (x6.length : Int)) :: (9, sU x6) :: (Zda t0 t1 t2 v1 v2)) ?_))
  refine Y1 (Yc (Yd ?_))
  refine Yq (fun loop (s : Int) => Y4x loop3 v1 v2 x6 loop s) r (fun (s : Int) => [(0, sC t0), (1, .j t1), (2, .j t2), (7, .rsl 7 0 0 v1.length), (8, .j v2), (9, sU x6), (10, .j s)]) (fun (s : Int) => [(7, rtA 0 41 1 (eL (eI .u8)) v1)]) ?_ 1000000 (x6.length : Int) H (StC.mk (phi [(7, some 7)]) (.o rfl (CstL.ims _) .nil) rfl (.i3 (.cons (.s rfl) (.i3 .nil))))
  intro loop8 v7 H
  unfold Y4x at H
  change AW _ _ _ (Zdb t0 t1 t2 v1 v2 v7 x6) [(7, rtA 0 41 1 (eL (eI .u8)) v1)] _
  refine Yc (Y0 ?_)
  have ⟨g9, H⟩ := Y6 H
  have ⟨g10, H⟩ := Y6 H
  refine Y8 7 [37, 33, 0, 1, 2, 7, 8, 9, 10] ((37, .cnd (decide (0 < v7)) (.ipt (x6.flatMap (eI .u8)) ((v7 - 1).toNat * 1))) :: (33, .bool (decide (0 < v7))) :: (Zdb t0 t1 t2 v1 v2 v7 x6)) ⟨(fun h => h), g9, (fun h => h), (fun h => h), g10, trivial⟩ (OpsW.asG (c := decide (0 < v7)) (.int .u8 (x6.getD (v7 - 1).toNat (0 : Int))) rfl rfl rfl rfl (fun hc => T.load rfl hc (by kernel_rfl) (Yn (eI .u8) 1 (fun _ => rfl) x6 (0 : Int) (v7 - 1).toNat (ltN (g10 hc)) (fun a => .val (.int .u8 a)) (fun _ => rfl))) (Y8 2 [40, 0, 1, 2, 7, 8, 9, 10] ((40, .bool (cond (decide (0 < v7)) ((x6.getD (v7 - 1).toNat (0 : Int)) == 0) false)) :: (Zdb t0 t1 t2 v1 v2 v7 x6)) ⟨(fun h => h), (fun h => by first | exact h | (simpa using h) | grind), trivial⟩ (Y1 (Y9 (b := cond (decide (0 < v7)) ((x6.getD (v7 - 1).toNat (0 : Int)) == 0) false) H rfl (fun c11 H => ?_) (fun c11 H => ?_)))))
  ·refine Yb (Yd (Ye ?_))
   have ⟨g12, H⟩ := Y6 H
   refine Y8 3 [10, 0, 1, 2, 7, 8, 9] [(10, .j (v7 - 1)), (0, sC t0), (1, .j t1), (2, .j t2), (7, .rsl 7 0 0 v1.length), (8, .j v2), (9, sU x6)] ⟨g12, trivial⟩ (Y1 ?_)
   exact ⟨v7 - 1, H, (StC.mk (phi [(7, some 7)]) (.o rfl (CstL.ims _) .nil) rfl (.i3 (.cons (.s rfl) (.i3 .nil))))⟩
  refine AW.exit ?_
  refine Ye (Y2 3 [45, 44, 43, 0, 1, 2, 7, 8] ((45, .j v7) :: (44, sU x6) :: (43, .rsl 7 0 0 v1.length) :: (Zda t0 t1 t2 v1 v2)) ?_)
  have ⟨g13, H⟩ := Y6 H
  refine OpsW.asU (sU (x6.take v7.toNat)) rfl rfl (T.slice' rfl trivial trivial trivial (by kernel_rfl) (by kernel_rfl) g13 trivial (sl_hi (eI .u8) 1 (fun _ => rfl) x6 v7 g13)) ?_
  have ⟨g14, H⟩ := Y6 H
  refine Y1j (enc := eL (eI .u8)) [x6.take v7.toNat] rfl rfl rfl (by decide) rfl rfl rfl (by simp) E37 (fun _ => rfl) (by decide) trivial (by kernel_rfl) (by kernel_rfl) (by kernel_rfl) rfl rfl rfl g14 (Y2 1 [7, 0, 1, 2, 8] [(7, .rsl 7 1 0 ((v1 ++ [x6.take v7.toNat]).length)), (0, sC t0), (1, .j t1), (2, .j t2), (8, .j v2)] (Ya [(7, .rsl 7 0 0 ((v1 ++ [x6.take v7.toNat]).length)), (0, sC t0), (1, .j t1), (2, .j t2), (8, .j v2)] [(7, rtA 0 41 1 (eL (eI .u8)) (v1 ++ [x6.take v7.toNat]))] (StC.mk (phi [(7, some 7)]) (.o rfl (CstL.ims _) .nil) rfl (.cons (.s rfl) (.i4 .nil))) ?_))
  refine Y1 (Ye ?_)
  have ⟨g15, H⟩ := Y6 H
  refine Y8 3 [8, 7, 0, 1, 2] ((8, .j (v2 + 1)) :: (7, .rsl 7 0 0 ((v1 ++ [x6.take v7.toNat]).length)) :: (Zdc t0 t1 t2)) ⟨g15, trivial⟩ (Y1 ?_)
  exact ⟨(v1 ++ [x6.take v7.toNat], v2 + 1), H, (StC.mk (phi [(7, some 7)]) (.o rfl (CstL.ims _) .nil) rfl (.i3 (.cons (.s rfl) (.cons .im .nil))))⟩
 refine AW.exit ?_
 refine Yc (Yd ?_)
 refine Yq (fun loop (s : Zdg) => Y3o loop s) r (fun (s : Zdg) => [(7, .rsl 7 0 0 s.length)]) (fun (s : Zdg) => [(7, rtA 0 41 1 (eL (eI .u8)) s)]) ?_ 1000000 v1 H (StC.mk (phi [(7, some 7)]) (.o rfl (CstL.ims _) .nil) rfl (.cons (.s rfl) .nil))
 intro loop17 v16 H
 unfold Y3o at H
 change AW _ _ _ [(7, .rsl 7 0 0 v16.length)] [(7, rtA 0 41 1 (eL (eI .u8)) v16)] _
 refine Yc (Y0 ?_)
 have ⟨g18, H⟩ := Y6 H
 have ⟨g19, H⟩ := Y6 H
 refine Y8 9 [57, 52, 7] [(57, .cnd (Zde v16) (.ref 7 0 (0 + (Zdd v16).toNat * 1))), (52, .bool (Zde v16)), (7, .rsl 7 0 0 v16.length)] ⟨(fun h => h), (fun h => h), g18, (fun h => h), (fun h => h), g19, trivial⟩ (OpsW.asG (c := decide ((0 : Int) < (v16.length : Int))) (sU (v16.getD (Zdd v16).toNat [])) rfl rfl rfl rfl (fun hc => Y2o rfl hc (by kernel_rfl) rfl rfl rfl (rt_cell (eL (eI .u8)) 1 (fun _ => rfl) v16 [] (Zdd v16).toNat (ltN (g19 hc)) 0 (fun a => .sl (a.flatMap (eI .u8)) a.length) (fun _ => rfl) (by first | omega | (simp only [Zdd, Zde]; omega)))) (Y8 3 [61, 7] [(61, .bool (cond (Zde v16) (((v16.getD (Zdd v16).toNat []).length : Int) == (0 : Int)) false)), (7, .rsl 7 0 0 v16.length)] ⟨(fun h => h), (fun h => h), (fun h => by first | exact h | (simpa using h) | grind), trivial⟩ (Y1 (Y9 (b := cond (Zde v16) (((v16.getD (Zdd v16).toNat []).length : Int) == (0 : Int)) false) H rfl (fun c20 H => ?_) (fun c20 H => ?_)))))
 ·refine Yb (Yd (Ye ?_))
  have ⟨g21, H⟩ := Y6 H
  have ⟨g22, H⟩ := Y6 H
  refine Y8 6 [7] [(7, .rsl 7 0 (0 + 0 * 1) ((Zdd v16).toNat - 0))] ⟨g21, g22, trivial⟩ (OpsW.cutF (r := 7) (enc := eL (eI .u8)) (l := v16) ((Zdd v16).toNat) (fun _ => rfl) rfl (OpsW.weaken [(7, .rsl 7 0 0 ((v16.take ((Zdd v16).toNat)).length))] (Y04 (by first | (have := g22; simp only [Xq, X1i, X0z, Xl]; rw [X0v (by omega)]; done) | (simp only [Zdd, Zde]; have := g22; simp only [Xq, X1i, X0z, Xl]; rw [X0v (by omega)]))) (Ya [(7, .rsl 7 0 0 ((v16.take ((Zdd v16).toNat)).length))] [(7, rtA 0 41 1 (eL (eI .u8)) (v16.take ((Zdd v16).toNat)))] (StC.mk (phi [(7, some 7)]) (.o rfl (CstL.ims _) .nil) rfl (.cons (.s rfl) .nil)) (Y1 ?_))))
  exact ⟨v16.take ((Zdd v16).toNat), H, (StC.mk (phi [(7, some 7)]) (.o rfl (CstL.ims _) .nil) rfl (.cons (.s rfl) .nil))⟩
 refine AW.exit ?_
 refine Y0 (Y2 2 [6] [(6, .rsl 7 0 0 v16.length)] ?_)
 refine Y1 ?_
 obtain rfl := X1 H
 refine AW.recast (env' := [(6, .rsl 1000 0 0 v16.length)]) (h' := [(1000, rtA 0 41 1 (eL (eI .u8)) v16)]) (StC.mk (phi [(1000, some 7)]) (.o rfl (CstL.ims _) .nil) rfl (.cons (.s rfl) .nil)) (Yl ?_)
 try simp only [Ex.t, Ex.b]
 refine Y1k rfl (.tmp .nil) ?_
 exact ⟨by kernel_rfl, rfl⟩
theorem f_R25_lines_ok  {t0 : List (List Int)} {t1 : Int} {t2 : Int} {r : List (List Int)} (H : Y5i t0 t1 t2 = some r) : QSpec Tryd.prog 29 [slA (eL (eI .u8)) t0, .int .i64 t1, .int .i64 t2] (slA (eL (eI .u8)) r) := by
 exact QSpec.of_own (f_R25_lines_own H) (.frz rfl rfl rfl (Y1b (eL (eI .u8)) 1 (fun _ => rfl) r) (Yy (eL (eI .u8)) 1 (fun _ => rfl) r) (Y3c rfl))
def Y2x (t0 : List Int) (loop2 : (Int) → Option Bool) (v1 : Int) : Option Bool :=
 cond (decide (v1 < (t0.length : Int))) (
  G (0 ≤ v1 ∧ v1 < (t0.length : Int)) <|
  cond (decide ((64 : Int) ≤ (t0.getD v1.toNat 0))) (
   some false) (
   G (inR (v1 + 1)) <|
   loop2 (v1 + 1))) (
  some true)
def Y54 (t0 : List Int) : Option Bool :=
 iter (fun loop (s : Int) => Y2x t0 loop s) 1000000 (0 : Int)
theorem f_R01_ValidAll_ok  {t0 : List Int} {r : Bool} (H : Y54 t0 = some r) : QSpec Tryd.prog 53 [slA (eI .u8) t0] (.bool r) := by
 refine Yj Tryd.func53 rfl (by simp [Tryd.ntmps53]) ?_
 rw [Tryd.ntmps53]
 unfold Y54 at H
 change AW _ _ _ [(0, sU t0)] [] _
 refine Y0 (Y2 1 [0] [(0, sU t0)] ?_)
 refine Y1 (Yc (Y0 (Y2 1 [3, 0] [(3, .j (0 : Int)), (0, sU t0)] ?_)))
 refine Y1 (Yd ?_)
 refine Yq (fun loop (s : Int) => Y2x t0 loop s) r (fun (s : Int) => [(0, sU t0), (3, .j s)]) (fun (s : Int) => []) ?_ 1000000 (0 : Int) H (StC.pure (.i2 .nil))
 intro loop2 v1 H
 unfold Y2x at H
 change AW _ _ _ [(0, sU t0), (3, .j v1)] [] _
 refine Yc (Y0 (Y2 4 [7, 0, 3] [(7, .bool (decide (v1 < (t0.length : Int)))), (0, sU t0), (3, .j v1)] ?_))
 refine Y1 (Y9 (b := decide (v1 < (t0.length : Int))) H rfl (fun c3 H => ?_) (fun c3 H => ?_))
 ·refine Yb (Yc (Yd (Y0 ?_)))
  have ⟨g4, H⟩ := Y6 H
  refine Y8 3 [12, 0, 3] [(12, .ipt (t0.flatMap (eI .u8)) (v1.toNat * 1)), (0, sU t0), (3, .j v1)] ⟨g4, trivial⟩ (OpsW.asU (.int .u8 (t0.getD v1.toNat 0)) rfl rfl (T.load rfl trivial (by kernel_rfl) (Yn (eI .u8) 1 (fun _ => rfl) t0 (0 : Int) v1.toNat (ltN g4) (fun a => .val (.int .u8 a)) (fun _ => rfl))) (Y2 1 [14, 0, 3] [(14, .bool (decide ((64 : Int) ≤ (t0.getD v1.toNat 0)))), (0, sU t0), (3, .j v1)] (Y1 (Y9 (b := decide ((64 : Int) ≤ (t0.getD v1.toNat 0))) H rfl (fun c5 H => ?_) (fun c5 H => ?_)))))
  ·refine Y0 (Y2 1 [2] [(2, .bool false)] ?_)
   refine Y1 ?_
   obtain rfl := X1 H
   refine AW.recast (env' := [(2, .bool false)]) (h' := []) (StC.pure (.cons .im .nil)) (Yl ?_)
   try simp only [Ex.t, Ex.b]
   exact Yh rfl (.tmp .nil)
  refine Yb (Ye ?_)
  have ⟨g6, H⟩ := Y6 H
  refine Y8 3 [3, 0] [(3, .j (v1 + 1)), (0, sU t0)] ⟨g6, trivial⟩ (Y1 ?_)
  exact ⟨v1 + 1, H, (StC.pure (.i2 .nil))⟩
 refine AW.exit ?_
 refine Y0 (Y2 1 [2] [(2, .bool true)] ?_)
 refine Y1 ?_
 obtain rfl := X1 H
 refine AW.recast (env' := [(2, .bool true)]) (h' := []) (StC.pure (.cons .im .nil)) (Yl ?_)
 try simp only [Ex.t, Ex.b]
 exact Yh rfl (.tmp .nil)
end Go.Proofs.YtbcfmhoaocifoaaDoor
