/- Own work. -/
import Derived.Test.YtbcfmhoaocifoaaDoorW6
set_option linter.unusedSimpArgs false
set_option linter.unusedVariables false
set_option maxRecDepth 100000
namespace Go.Proofs.YtbcfmhoaocifoaaDoor
open Go.Abs
def f_R25_rows_b1 (t0 : List (List Bool)) (t1 : Int) (t2 : Int) (loop3 : (Int) → Option Bool) (v2 : Int) : Option Bool :=
 cond (decide (v2 < t2)) (
  G (0 ≤ v2 ∧ v2 < (t0.length : Int)) <|
  cond (((t0.getD v2.toNat []).length : Int) != t1) (
   some false) (
   G (inR (v2 + 1)) <|
   loop3 (v2 + 1))) (
  some true)
def f_R25_rows (t0 : List (List Bool)) (t1 : Int) (t2 : Int) : Option Bool :=
 cond ((t0.length : Int) != t2) (
  some false) (
  iter (fun loop (s : Int) => f_R25_rows_b1 t0 t1 t2 loop s) 1000000 (0 : Int))
section
variable (t0 : List (List Bool)) (t1 : Int) (t2 : Int) (v2 : Int)
abbrev Zh3 : Env := [(0, sD t0), (1, .j t1), (2, .j t2), (7, .j v2)]
abbrev Zh4 : Env := [(0, sD t0), (1, .j t1), (2, .j t2)]
end
theorem f_R25_rows_ok  {t0 : List (List Bool)} {t1 : Int} {t2 : Int} {r : Bool} (H : f_R25_rows t0 t1 t2 = some r) : QSpec Tryd.prog 37 [slA (eL eB) t0, .int .i64 t1, .int .i64 t2] (.bool r) := by
 refine Yj Tryd.func37 rfl (by simp [Tryd.ntmps37]) ?_
 rw [Tryd.ntmps37]
 unfold f_R25_rows at H
 change AW _ _ _ (Zh4 t0 t1 t2) [] _
 refine Y0 (Y2 1 [0, 1, 2] (Zh4 t0 t1 t2) ?_)
 refine Y1 (Yc (Y0 (Y2 4 [11, 0, 1, 2] ((11, .bool ((t0.length : Int) != t2)) :: (Zh4 t0 t1 t2)) ?_)))
 refine Y1 (Y9 (b := (t0.length : Int) != t2) H rfl (fun c1 H => ?_) (fun c1 H => ?_))
 ·refine Y0 (Y2 1 [6] [(6, .bool false)] ?_)
  refine Y1 ?_
  obtain rfl := X1 H
  refine AW.recast (env' := [(6, .bool false)]) (h' := []) (StC.pure (.cons .im .nil)) (Yl ?_)
  try simp only [Ex.t, Ex.b]
  exact Yh rfl (.tmp .nil)
 refine Yb (Yc (Y0 (Y2 1 [7, 0, 1, 2] ((7, .j (0 : Int)) :: (Zh4 t0 t1 t2)) ?_)))
 refine Y1 (Yd ?_)
 refine Yq (fun loop (s : Int) => f_R25_rows_b1 t0 t1 t2 loop s) r (fun (s : Int) => [(0, sD t0), (1, .j t1), (2, .j t2), (7, .j s)]) (fun (s : Int) => []) ?_ 1000000 (0 : Int) H (StC.pure (.i4 .nil))
 intro loop3 v2 H
 unfold f_R25_rows_b1 at H
 change AW _ _ _ (Zh3 t0 t1 t2 v2) [] _
 refine Yc (Y0 (Y2 3 [14, 0, 1, 2, 7] ((14, .bool (decide (v2 < t2))) :: (Zh3 t0 t1 t2 v2)) ?_))
 refine Y1 (Y9 (b := decide (v2 < t2)) H rfl (fun c4 H => ?_) (fun c4 H => ?_))
 ·refine Yb (Yc (Yd (Y0 ?_)))
  have ⟨g5, H⟩ := Y6 H
  refine Y8 3 [19, 0, 1, 2, 7] ((19, .ipt (t0.flatMap (eL eB)) (v2.toNat * 1)) :: (Zh3 t0 t1 t2 v2)) ⟨g5, trivial⟩ (OpsW.asU (slA eB (t0.getD v2.toNat [])) rfl rfl (T.load rfl trivial (by kernel_rfl) (Yn (eL eB) 1 (fun _ => rfl) t0 [] v2.toNat (ltN g5) (fun a => .sl (a.flatMap eB) a.length) (fun _ => rfl))) (Y2 3 [23, 0, 1, 2, 7] ((23, .bool (((t0.getD v2.toNat []).length : Int) != t1)) :: (Zh3 t0 t1 t2 v2)) (Y1 (Y9 (b := ((t0.getD v2.toNat []).length : Int) != t1) H rfl (fun c6 H => ?_) (fun c6 H => ?_)))))
  ·refine Y0 (Y2 1 [6] [(6, .bool false)] ?_)
   refine Y1 ?_
   obtain rfl := X1 H
   refine AW.recast (env' := [(6, .bool false)]) (h' := []) (StC.pure (.cons .im .nil)) (Yl ?_)
   try simp only [Ex.t, Ex.b]
   exact Yh rfl (.tmp .nil)
  refine Yb (Ye ?_)
  have ⟨g7, H⟩ := Y6 H
  refine Y8 3 [7, 0, 1, 2] ((7, .j (v2 + 1)) :: (Zh4 t0 t1 t2)) ⟨g7, trivial⟩ (Y1 ?_)
  exact ⟨v2 + 1, H, (StC.pure (.i4 .nil))⟩
 refine AW.exit ?_
 refine Y0 (Y2 1 [6] [(6, .bool true)] ?_)
 refine Y1 ?_
 obtain rfl := X1 H
 refine AW.recast (env' := [(6, .bool true)]) (h' := []) (StC.pure (.cons .im .nil)) (Yl ?_)
 try simp only [Ex.t, Ex.b]
 exact Yh rfl (.tmp .nil)
def Y46 (t0 : Y4) : Option Bool :=
 G ((!((Int.tmod t0.W (2 : Int)) != 0)) = true → inR (Int.tdiv t0.W (2 : Int))) <|
 G ((!(cond ((Int.tmod t0.W (2 : Int)) != 0) true (decide ((Int.tdiv t0.W (2 : Int)) < 24)))) = true → inR (Int.tdiv t0.W (2 : Int))) <|
 G ((!(cond (cond (cond ((Int.tmod t0.W (2 : Int)) != 0) true (decide ((Int.tdiv t0.W (2 : Int)) < 24))) true (decide ((60 : Int) < (Int.tdiv t0.W (2 : Int))))) true ((Int.tmod t0.H (3 : Int)) != 0))) = true → inR (Int.tdiv t0.H (3 : Int))) <|
 G ((!(cond (cond (cond (cond ((Int.tmod t0.W (2 : Int)) != 0) true (decide ((Int.tdiv t0.W (2 : Int)) < 24))) true (decide ((60 : Int) < (Int.tdiv t0.W (2 : Int))))) true ((Int.tmod t0.H (3 : Int)) != 0)) true (decide ((Int.tdiv t0.H (3 : Int)) < 4)))) = true → inR (Int.tdiv t0.H (3 : Int))) <|
 cond (cond (cond (cond (cond (cond ((Int.tmod t0.W (2 : Int)) != 0) true (decide ((Int.tdiv t0.W (2 : Int)) < 24))) true (decide ((60 : Int) < (Int.tdiv t0.W (2 : Int))))) true ((Int.tmod t0.H (3 : Int)) != 0)) true (decide ((Int.tdiv t0.H (3 : Int)) < 4))) true (decide ((40 : Int) < (Int.tdiv t0.H (3 : Int))))) (
  some false) (
  (f_R25_rows t0.Up t0.W t0.H).bind fun x6 =>
  (cond x6 (f_R25_rows t0.Down t0.W t0.H) (some false)).bind fun x7 =>
  some (cond x6 x7 false))
section
variable (t0 : Y4)
abbrev Zh5 := (cond (cond (cond (cond ((Int.tmod t0.W (2 : Int)) != 0) true (decide ((Int.tdiv t0.W (2 : Int)) < 24))) true (decide ((60 : Int) < (Int.tdiv t0.W (2 : Int))))) true ((Int.tmod t0.H (3 : Int)) != 0)) true (decide ((Int.tdiv t0.H (3 : Int)) < 4)))
end
theorem f_R25_Valid_ok  {t0 : Y4} {r : Bool} (H : Y46 t0 = some r) : QSpec Tryd.prog 15 [.agg [.int .i64 t0.W, .int .i64 t0.H, slA (eL eB) t0.Up, slA (eL eB) t0.Down]] (.bool r) := by
 refine Yj Tryd.func15 rfl (by simp [Tryd.ntmps15]) ?_
 rw [Tryd.ntmps15]
 unfold Y46 at H
 change AW _ _ _ [(0, .agg [.j t0.W, .j t0.H, sD t0.Up, sD t0.Down])] [] _
 refine Y0 (OpsW.box rfl rfl rfl 1 rfl (Y5 (by kernel_rfl)) ?_)
 change OpsW _ _ _ _ _ [(1, ⟨0, true, 47, 4, [.j t0.W, .j t0.H, sD t0.Up, sD t0.Down]⟩)] _
 refine Y2 1 [1] [(1, .ref 1 0 0)] ?_
 refine Y1 (Yc (Y0 ?_))
 have ⟨g1, H⟩ := Y6 H
 have ⟨g2, H⟩ := Y6 H
 have ⟨g3, H⟩ := Y6 H
 have ⟨g4, H⟩ := Y6 H
 refine Y8 34 [36, 1] [(36, .bool (cond (Zh5 t0) true (decide ((40 : Int) < (Int.tdiv t0.H (3 : Int)))))), (1, .ref 1 0 0)] ⟨(by decide), (fun h => h), (fun h => h), (fun _ => by decide), g1, (fun h => h), (fun h => by first | exact h | (simpa using h) | grind), (fun h => h), (fun h => h), (fun _ => by decide), g2, (fun h => h), (fun h => by first | exact h | (simpa using h) | grind), (fun h => h), (fun h => h), (fun _ => by decide), (fun h => h), (fun h => by first | exact h | (simpa using h) | grind), (fun h => h), (fun h => h), (fun _ => by decide), g3, (fun h => h), (fun h => by first | exact h | (simpa using h) | grind), (fun h => h), (fun h => h), (fun _ => by decide), g4, (fun h => h), (fun h => by first | exact h | (simpa using h) | grind), trivial⟩ (Y1 (Y9 (b := cond (Zh5 t0) true (decide ((40 : Int) < (Int.tdiv t0.H (3 : Int))))) H rfl (fun c5 H => ?_) (fun c5 H => ?_)))
 ·refine Y0 (Y2 1 [2] [(2, .bool false)] ?_)
  refine Y1 ?_
  obtain rfl := X1 H
  refine AW.recast (env' := [(2, .bool false)]) (h' := []) (StC.pure (.cons .im .nil)) (Yl ?_)
  try simp only [Ex.t, Ex.b]
  exact Yh rfl (.tmp .nil)
 refine Yb (Y0 (Y2 6 [42, 40, 38, 1] [(42, .j t0.H), (40, .j t0.W), (38, sD t0.Up), (1, .ref 1 0 0)] ?_))
 have ⟨x6, hx6, H⟩ := Yt H
 refine Ys rfl (.cons (.pur rfl) (.cons (.pur rfl) (.cons (.pur rfl) .nil))) (f_R25_rows_ok hx6) (Y8 7 [50, 48, 46, 44] [(50, .cnd x6 (.j t0.H)), (48, .cnd x6 (.j t0.W)), (46, .cnd x6 (sD t0.Down)), (44, .bool x6)] ⟨(fun h => h), (fun h => h), (fun h => h), trivial⟩ ?_)
 have ⟨x7, hx7, H⟩ := Yt H
 refine OpsW.gcall (c := x6) (r := .bool x7) [] rfl (by kernel_rfl) rfl rfl rfl rfl (fun hc => ⟨Yg ⟨hc, hc, hc, trivial⟩, (.cons (.pur rfl) (.cons (.pur rfl) (.cons (.pur rfl) .nil))), f_R25_rows_ok (condT hc hx7), .inl ⟨rfl, rfl⟩⟩) (Y8 2 [2] [(2, .bool (cond x6 x7 false))] ⟨(fun h => by first | exact h | (simpa using h) | grind), trivial⟩ (Y1 ?_))
 obtain rfl := X1 H
 refine AW.recast (env' := [(2, .bool (cond x6 x7 false))]) (h' := []) (StC.pure (.cons .im .nil)) (Yl ?_)
 try simp only [Ex.t, Ex.b]
 exact Yh rfl (.tmp .nil)
end Go.Proofs.YtbcfmhoaocifoaaDoor
