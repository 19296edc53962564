/- Own work. -/
import Derived.Test.YtbcfmhoaocifoaaDoorW5
set_option linter.unusedSimpArgs false
set_option linter.unusedVariables false
set_option maxRecDepth 100000
namespace Go.Proofs.YtbcfmhoaocifoaaDoor
open Go.Abs
def f_R25_Fits_b1 (t0 : List (List Int)) (t1 : Int) (loop3 : (Int) → Option Bool) (v2 : Int) : Option Bool :=
 cond (decide (v2 < (t0.length : Int))) (
  G (0 ≤ v2 ∧ v2 < (t0.length : Int)) <|
  (Y54 (t0.getD v2.toNat [])).bind fun x6 =>
  G (((!(cond (decide (t1 < ((t0.getD v2.toNat []).length : Int))) true (!x6))) && (decide (0 < ((t0.getD v2.toNat []).length : Int)))) = true → inR (((t0.getD v2.toNat []).length : Int) - (1 : Int))) <|
  G (((!(cond (decide (t1 < ((t0.getD v2.toNat []).length : Int))) true (!x6))) && (decide (0 < ((t0.getD v2.toNat []).length : Int)))) = true → (0 ≤ (((t0.getD v2.toNat []).length : Int) - (1 : Int)) ∧ (((t0.getD v2.toNat []).length : Int) - (1 : Int)) < ((t0.getD v2.toNat []).length : Int))) <|
  G (((!(cond (cond (decide (t1 < ((t0.getD v2.toNat []).length : Int))) true (!x6)) true (cond (decide (0 < ((t0.getD v2.toNat []).length : Int))) (((t0.getD v2.toNat []).getD (((t0.getD v2.toNat []).length : Int) - (1 : Int)).toNat (0 : Int)) == 0) false))) && (((t0.getD v2.toNat []).length : Int) == (0 : Int))) = true → inR ((t0.length : Int) - 1)) <|
  cond (cond (cond (cond (decide (t1 < ((t0.getD v2.toNat []).length : Int))) true (!x6)) true (cond (decide (0 < ((t0.getD v2.toNat []).length : Int))) (((t0.getD v2.toNat []).getD (((t0.getD v2.toNat []).length : Int) - (1 : Int)).toNat (0 : Int)) == 0) false)) true (cond (((t0.getD v2.toNat []).length : Int) == (0 : Int)) (v2 == ((t0.length : Int) - 1)) false)) (
   some false) (
   G (inR (v2 + 1)) <|
   loop3 (v2 + 1))) (
  some true)
def f_R25_Fits (t0 : List (List Int)) (t1 : Int) (t2 : Int) : Option Bool :=
 cond (decide (t2 < (t0.length : Int))) (
  some false) (
  iter (fun loop (s : Int) => f_R25_Fits_b1 t0 t1 loop s) 1000000 (0 : Int))
section
variable (t0 : List (List Int)) (t1 : Int) (v2 : Int) (x6 : Bool)
abbrev Zdq := ((t0.getD v2.toNat []).length : Int)
abbrev Zdr := cond (decide (t1 < (Zdq t0 v2))) true (!x6)
abbrev Zds := (cond (Zdr t0 t1 v2 x6) true (cond (decide (0 < (Zdq t0 v2))) (((t0.getD v2.toNat []).getD ((Zdq t0 v2) - (1 : Int)).toNat (0 : Int)) == 0) false))
abbrev Zdt := (cond ((Zdq t0 v2) == (0 : Int)) (v2 == ((t0.length : Int) - 1)) false)
abbrev Zdu := decide (0 < (Zdq t0 v2))
abbrev Zdo : Env := [(40, .cnd (!(Zdr t0 t1 v2 x6)) (.bool (Zdu t0 v2))), (37, .bool (Zdr t0 t1 v2 x6)), (8, .j (Zdq t0 v2)), (0, sC t0), (1, .j t1), (7, .j v2)]
abbrev Zdp : Env := [(8, .j (Zdq t0 v2)), (0, sC t0), (1, .j t1), (7, .j v2)]
end
theorem f_R25_Fits_ok  {t0 : List (List Int)} {t1 : Int} {t2 : Int} {r : Bool} (H : f_R25_Fits t0 t1 t2 = some r) : QSpec Tryd.prog 34 [slA (eL (eI .u8)) t0, .int .i64 t1, .int .i64 t2] (.bool r) := by
 refine Yj Tryd.func34 rfl (by simp [Tryd.ntmps34]) ?_
 rw [Tryd.ntmps34]
 unfold f_R25_Fits at H
 change AW _ _ _ [(0, sC t0), (1, .j t1), (2, .j t2)] [] _
 refine Y0 (Y2 1 [0, 1, 2] [(0, sC t0), (1, .j t1), (2, .j t2)] ?_)
 refine Y1 (Yc (Y0 (Y2 4 [13, 0, 1] [(13, .bool (decide (t2 < (t0.length : Int)))), (0, sC t0), (1, .j t1)] ?_)))
 refine Y1 (Y9 (b := decide (t2 < (t0.length : Int))) H rfl (fun c1 H => ?_) (fun c1 H => ?_))
 ·refine Y0 (Y2 1 [6] [(6, .bool false)] ?_)
  refine Y1 ?_
  obtain rfl := X1 H
  refine AW.recast (env' := [(6, .bool false)]) (h' := []) (StC.pure (.cons .im .nil)) (Yl ?_)
  try simp only [Ex.t, Ex.b]
  exact Yh rfl (.tmp .nil)
 refine Yb (Yc (Y0 (Y2 1 [7, 0, 1] [(7, .j (0 : Int)), (0, sC t0), (1, .j t1)] ?_)))
 refine Y1 (Yd ?_)
 refine Yq (fun loop (s : Int) => f_R25_Fits_b1 t0 t1 loop s) r (fun (s : Int) => [(0, sC t0), (1, .j t1), (7, .j s)]) (fun (s : Int) => []) ?_ 1000000 (0 : Int) H (StC.pure (.i3 .nil))
 intro loop3 v2 H
 unfold f_R25_Fits_b1 at H
 change AW _ _ _ [(0, sC t0), (1, .j t1), (7, .j v2)] [] _
 refine Yc (Y0 (Y2 4 [17, 0, 1, 7] [(17, .bool (decide (v2 < (t0.length : Int)))), (0, sC t0), (1, .j t1), (7, .j v2)] ?_))
 refine Y1 (Y9 (b := decide (v2 < (t0.length : Int))) H rfl (fun c4 H => ?_) (fun c4 H => ?_))
 ·refine Yb (Yc (Yd (Y0 ?_)))
  have ⟨g5, H⟩ := Y6 H
  refine Y8 3 [22, 0, 1, 7] [(22, .ipt (t0.flatMap (eL (eI .u8))) (v2.toNat * 1)), (0, sC t0), (1, .j t1), (7, .j v2)] ⟨g5, trivial⟩ (OpsW.asU (sU (t0.getD v2.toNat [])) rfl rfl (T.load rfl trivial (by kernel_rfl) (Yn (eL (eI .u8)) 1 (fun _ => rfl) t0 [] v2.toNat (ltN g5) (fun a => .sl (a.flatMap (eI .u8)) a.length) (fun _ => rfl))) (Y2 2 [8, 0, 1, 7] (Zdp t0 t1 v2) ?_))
  refine Y1 (Y0 (Y8 3 [27, 8, 0, 1, 7] ((27, .ipt (t0.flatMap (eL (eI .u8))) (v2.toNat * 1)) :: (Zdp t0 t1 v2)) ⟨g5, trivial⟩ ?_))
  refine OpsW.asU (sU (t0.getD v2.toNat [])) rfl rfl (T.load rfl trivial (by kernel_rfl) (Yn (eL (eI .u8)) 1 (fun _ => rfl) t0 [] v2.toNat (ltN g5) (fun a => .sl (a.flatMap (eI .u8)) a.length) (fun _ => rfl))) ?_
  have ⟨x6, hx6, H⟩ := Yt H
  refine Ys rfl (.cons (.pur rfl) .nil) (f_R01_ValidAll_ok hx6) (Y2 1 [9, 8, 0, 1, 7] ((9, .bool x6) :: (Zdp t0 t1 v2)) ?_)
  refine Y1 (Y0 (Y8 14 [43, 40, 37, 8, 0, 1, 7] ((43, .cnd ((!(Zdr t0 t1 v2 x6)) && (Zdu t0 v2)) (.ipt (t0.flatMap (eL (eI .u8))) (v2.toNat * 1))) :: (Zdo t0 t1 v2 x6)) ⟨(fun h => h), (fun h => by first | exact h | (simpa using h) | grind), (fun h => h), (fun h => h), (fun h => h), (fun h => h), (fun _ => g5), trivial⟩ ?_))
  refine OpsW.asG (c := (!(Zdr t0 t1 v2 x6)) && (Zdu t0 v2)) (sU (t0.getD v2.toNat [])) rfl rfl rfl rfl (fun hc => T.load rfl hc (by kernel_rfl) (Yn (eL (eI .u8)) 1 (fun _ => rfl) t0 [] v2.toNat (ltN g5) (fun a => .sl (a.flatMap (eI .u8)) a.length) (fun _ => rfl))) ?_
  have ⟨g7, H⟩ := Y6 H
  have ⟨g8, H⟩ := Y6 H
  refine Y8 3 [47, 40, 37, 8, 0, 1, 7] ((47, .cnd ((!(Zdr t0 t1 v2 x6)) && (Zdu t0 v2)) (.ipt ((t0.getD v2.toNat []).flatMap (eI .u8)) (((Zdq t0 v2) - (1 : Int)).toNat * 1))) :: (Zdo t0 t1 v2 x6)) ⟨(fun h => h), g7, (fun h => h), (fun h => h), g8, trivial⟩ (OpsW.asG (c := (!(Zdr t0 t1 v2 x6)) && (Zdu t0 v2)) (.int .u8 ((t0.getD v2.toNat []).getD ((Zdq t0 v2) - (1 : Int)).toNat (0 : Int))) rfl rfl rfl rfl (fun hc => T.load rfl hc (by kernel_rfl) (Yn (eI .u8) 1 (fun _ => rfl) (t0.getD v2.toNat []) (0 : Int) ((Zdq t0 v2) - (1 : Int)).toNat (ltN (g8 hc)) (fun a => .val (.int .u8 a)) (fun _ => rfl))) ?_)
  have ⟨g9, H⟩ := Y6 H
  refine Y8 14 [62, 0, 1, 7] [(62, .bool (cond (Zds t0 t1 v2 x6) true (Zdt t0 v2))), (0, sC t0), (1, .j t1), (7, .j v2)] ⟨(fun h => h), (fun h => h), (fun h0 h => by first | exact h | (simp [h0, h]; done) | (simp at h0 h ⊢; simp [h0, h]; done) | (simp_all; done) | grind), (fun h => by first | exact h | (simpa using h) | grind), (fun h => h), (fun h => h), (fun h => h), (fun h => h), g9, (fun h => h), (fun h => h), (fun h => h), (fun h0 h => by first | exact h | (simp [h0, h]; done) | (simp at h0 h ⊢; simp [h0, h]; done) | (simp_all; done) | grind), (fun h => by first | exact h | (simpa using h) | grind), trivial⟩ (Y1 (Y9 (b := cond (Zds t0 t1 v2 x6) true (Zdt t0 v2)) H rfl (fun c10 H => ?_) (fun c10 H => ?_)))
  ·refine Y0 (Y2 1 [6] [(6, .bool false)] ?_)
   refine Y1 ?_
   obtain rfl := X1 H
   refine AW.recast (env' := [(6, .bool false)]) (h' := []) (StC.pure (.cons .im .nil)) (Yl ?_)
   try simp only [Ex.t, Ex.b]
   exact Yh rfl (.tmp .nil)
  refine Yb (Ye ?_)
  have ⟨g11, H⟩ := Y6 H
  refine Y8 3 [7, 0, 1] [(7, .j (v2 + 1)), (0, sC t0), (1, .j t1)] ⟨g11, trivial⟩ (Y1 ?_)
  exact ⟨v2 + 1, H, (StC.pure (.i3 .nil))⟩
 refine AW.exit ?_
 refine Y0 (Y2 1 [6] [(6, .bool true)] ?_)
 refine Y1 ?_
 obtain rfl := X1 H
 refine AW.recast (env' := [(6, .bool true)]) (h' := []) (StC.pure (.cons .im .nil)) (Yl ?_)
 try simp only [Ex.t, Ex.b]
 exact Yh rfl (.tmp .nil)
def f_R25_cell (t0 : List (List Int)) (t1 : Int) (t2 : Int) : Option Int :=
 G ((!(decide ((t0.length : Int) ≤ t1))) = true → (0 ≤ t1 ∧ t1 < (t0.length : Int))) <|
 cond (cond (decide ((t0.length : Int) ≤ t1)) true (decide (((t0.getD t1.toNat []).length : Int) ≤ t2))) (
  some (0 : Int)) (
  G (0 ≤ t1 ∧ t1 < (t0.length : Int)) <|
  G (0 ≤ t2 ∧ t2 < ((t0.getD t1.toNat []).length : Int)) <|
  some ((t0.getD t1.toNat []).getD t2.toNat 0))
section
variable (t0 : List (List Int)) (t1 : Int)
abbrev Zdv := (decide ((t0.length : Int) ≤ t1))
abbrev Zdw := t0.getD t1.toNat []
end
theorem f_R25_cell_ok  {t0 : List (List Int)} {t1 : Int} {t2 : Int} {r : Int} (H : f_R25_cell t0 t1 t2 = some r) : QSpec Tryd.prog 54 [slA (eL (eI .u8)) t0, .int .i64 t1, .int .i64 t2] (.int .u8 r) := by
 refine Yj Tryd.func54 rfl (by simp [Tryd.ntmps54]) ?_
 rw [Tryd.ntmps54]
 unfold f_R25_cell at H
 change AW _ _ _ [(0, sC t0), (1, .j t1), (2, .j t2)] [] _
 refine Y0 (Y2 1 [0, 1, 2] [(0, sC t0), (1, .j t1), (2, .j t2)] ?_)
 refine Y1 (Yc (Y0 ?_))
 have ⟨g1, H⟩ := Y6 H
 refine Y8 9 [15, 12, 11, 0, 1, 2] [(15, .cnd (!(Zdv t0 t1)) (.ipt (t0.flatMap (eL (eI .u8))) (t1.toNat * 1))), (12, .cnd (!(Zdv t0 t1)) (.j t2)), (11, .bool (Zdv t0 t1)), (0, sC t0), (1, .j t1), (2, .j t2)] ⟨(fun h => h), (fun h => h), g1, trivial⟩ (OpsW.asG (c := !(Zdv t0 t1)) (sU (Zdw t0 t1)) rfl rfl rfl rfl (fun hc => T.load rfl hc (by kernel_rfl) (Yn (eL (eI .u8)) 1 (fun _ => rfl) t0 [] t1.toNat (ltN (g1 hc)) (fun a => .sl (a.flatMap (eI .u8)) a.length) (fun _ => rfl))) (Y8 3 [19, 0, 1, 2] [(19, .bool (cond (Zdv t0 t1) true (decide (((Zdw t0 t1).length : Int) ≤ t2)))), (0, sC t0), (1, .j t1), (2, .j t2)] ⟨(fun h => h), (fun h => h), (fun h => h), (fun h => by first | exact h | (simpa using h) | grind), trivial⟩ (Y1 (Y9 (b := cond (Zdv t0 t1) true (decide (((Zdw t0 t1).length : Int) ≤ t2))) H rfl (fun c2 H => ?_) (fun c2 H => ?_)))))
 ·refine Y0 (Y2 1 [6] [(6, .int .u8 0)] ?_)
  refine Y1 ?_
  obtain rfl := X1 H
  refine AW.recast (env' := [(6, .int .u8 0)]) (h' := []) (StC.pure (.cons .im .nil)) (Yl ?_)
  try simp only [Ex.t, Ex.b]
  exact Yh rfl (.tmp .nil)
 refine Yb (Y0 ?_)
 have ⟨g3, H⟩ := Y6 H
 refine Y8 3 [22, 2] [(22, .ipt (t0.flatMap (eL (eI .u8))) (t1.toNat * 1)), (2, .j t2)] ⟨g3, trivial⟩ (OpsW.asU (sU (Zdw t0 t1)) rfl rfl (T.load rfl trivial (by kernel_rfl) (Yn (eL (eI .u8)) 1 (fun _ => rfl) t0 [] t1.toNat (ltN g3) (fun a => .sl (a.flatMap (eI .u8)) a.length) (fun _ => rfl))) ?_)
 have ⟨g4, H⟩ := Y6 H
 refine Y8 2 [25] [(25, .ipt ((Zdw t0 t1).flatMap (eI .u8)) (t2.toNat * 1))] ⟨g4, trivial⟩ (OpsW.asU (.int .u8 ((Zdw t0 t1).getD t2.toNat 0)) rfl rfl (T.load rfl trivial (by kernel_rfl) (Yn (eI .u8) 1 (fun _ => rfl) (Zdw t0 t1) (0 : Int) t2.toNat (ltN g4) (fun a => .val (.int .u8 a)) (fun _ => rfl))) (Y2 1 [6] [(6, .int .u8 ((Zdw t0 t1).getD t2.toNat 0))] (Y1 ?_)))
 obtain rfl := X1 H
 refine AW.recast (env' := [(6, .int .u8 ((Zdw t0 t1).getD t2.toNat 0))]) (h' := []) (StC.pure (.cons .im .nil)) (Yl ?_)
 try simp only [Ex.t, Ex.b]
 exact Yh rfl (.tmp .nil)
def f_R01_Has (t0 : Int) (t1 : Int) : Option Bool :=
 G (inR (t1 - 1)) <|
 G (0 ≤ (t1 - 1)) <|
 some ((bAnd .u8 (bShr .u8 t0 (t1 - 1)) (1 : Int)) == 1)
theorem f_R01_Has_ok  {t0 : Int} {t1 : Int} {r : Bool} (H : f_R01_Has t0 t1 = some r) : QSpec Tryd.prog 42 [.int .u8 t0, .int .i64 t1] (.bool r) := by
 refine Yj Tryd.func42 rfl (by simp [Tryd.ntmps42]) ?_
 rw [Tryd.ntmps42]
 unfold f_R01_Has at H
 change AW _ _ _ [(0, .int .u8 t0), (1, .j t1)] [] _
 refine Y0 (Y2 1 [0, 1] [(0, .int .u8 t0), (1, .j t1)] ?_)
 refine Y1 (Y0 ?_)
 have ⟨g1, H⟩ := Y6 H
 have ⟨g2, H⟩ := Y6 H
 refine Y8 7 [4] [(4, .bool ((bAnd .u8 (bShr .u8 t0 (t1 - 1)) (1 : Int)) == 1))] ⟨g1, g2, trivial⟩ (Y1 ?_)
 obtain rfl := X1 H
 refine AW.recast (env' := [(4, .bool ((bAnd .u8 (bShr .u8 t0 (t1 - 1)) (1 : Int)) == 1))]) (h' := []) (StC.pure (.cons .im .nil)) (Yl ?_)
 try simp only [Ex.t, Ex.b]
 exact Yh rfl (.tmp .nil)
def Y5p (t0 : List (List Int)) (t1 : Int) (t2 : Int) : Option Bool :=
 G (inR (Int.tdiv t2 (3 : Int))) <|
 G (inR (Int.tdiv t1 (2 : Int))) <|
 (f_R25_cell t0 (Int.tdiv t2 (3 : Int)) (Int.tdiv t1 (2 : Int))).bind fun x3 =>
 G (inR ((Int.tmod t1 (2 : Int)) * 3)) <|
 G (inR (((Int.tmod t1 (2 : Int)) * 3) + (Int.tmod t2 (3 : Int)))) <|
 G (inR ((((Int.tmod t1 (2 : Int)) * 3) + (Int.tmod t2 (3 : Int))) + 1)) <|
 (f_R01_Has x3 ((((Int.tmod t1 (2 : Int)) * 3) + (Int.tmod t2 (3 : Int))) + 1)).bind fun x7 =>
 some x7
theorem f_R25_raised_ok  {t0 : List (List Int)} {t1 : Int} {t2 : Int} {r : Bool} (H : Y5p t0 t1 t2 = some r) : QSpec Tryd.prog 35 [slA (eL (eI .u8)) t0, .int .i64 t1, .int .i64 t2] (.bool r) := by
 refine Yj Tryd.func35 rfl (by simp [Tryd.ntmps35]) ?_
 rw [Tryd.ntmps35]
 unfold Y5p at H
 change AW _ _ _ [(0, sC t0), (1, .j t1), (2, .j t2)] [] _
 refine Y0 (Y2 1 [0, 1, 2] [(0, sC t0), (1, .j t1), (2, .j t2)] ?_)
 refine Y1 (Y0 ?_)
 have ⟨g1, H⟩ := Y6 H
 have ⟨g2, H⟩ := Y6 H
 refine Y8 5 [11, 9, 7, 1, 2] [(11, .j (Int.tdiv t1 (2 : Int))), (9, .j (Int.tdiv t2 (3 : Int))), (7, sC t0), (1, .j t1), (2, .j t2)] ⟨(by decide), g1, (by decide), g2, trivial⟩ ?_
 have ⟨x3, hx3, H⟩ := Yt H
 refine Ys rfl (.cons (.pur rfl) (.cons (.pur rfl) (.cons (.pur rfl) .nil))) (f_R25_cell_ok hx3) ?_
 have ⟨g4, H⟩ := Y6 H
 have ⟨g5, H⟩ := Y6 H
 have ⟨g6, H⟩ := Y6 H
 refine Y8 7 [19, 12] [(19, .j ((((Int.tmod t1 (2 : Int)) * 3) + (Int.tmod t2 (3 : Int))) + 1)), (12, .int .u8 x3)] ⟨(by decide), g4, (by decide), g5, g6, trivial⟩ ?_
 have ⟨x7, hx7, H⟩ := Yt H
 refine Ys rfl (.cons (.pur rfl) (.cons (.pur rfl) .nil)) (f_R01_Has_ok hx7) (Y2 1 [6] [(6, .bool x7)] (Y1 ?_))
 obtain rfl := X1 H
 refine AW.recast (env' := [(6, .bool x7)]) (h' := []) (StC.pure (.cons .im .nil)) (Yl ?_)
 try simp only [Ex.t, Ex.b]
 exact Yh rfl (.tmp .nil)
def Y4z (loop12 : (Yr × Y4 × Y4 × Int) → Option (Y4 × Int)) (v11 : Int) (loop18 : (Yr × Y4 × Y4 × Int) → Option (Y4 × Int)) (v14 : Yr) (v15 : Y4) (v16 : Y4) (v17 : Int) : Option (Y4 × Int) :=
 cond (decide (v17 < v16.W)) (
  G (0 ≤ v11 ∧ v11 < (v16.Up.length : Int)) <|
  (Y5p v14.Front v17 v11).bind fun x21 =>
  G (0 ≤ v17 ∧ v17 < ((v16.Up.getD v11.toNat []).length : Int)) <|
  G (0 ≤ v11 ∧ v11 < (v16.Down.length : Int)) <|
  G (inR (v16.W - 1)) <|
  G (inR ((v16.W - 1) - v17)) <|
  (Y5p v14.Back v17 v11).bind fun x26 =>
  G (0 ≤ ((v16.W - 1) - v17) ∧ ((v16.W - 1) - v17) < ((v16.Down.getD v11.toNat []).length : Int)) <|
  G (inR (v17 + 1)) <|
  loop18 (v14, v15, (⟨v16.W, v16.H, v16.Up.set v11.toNat ((v16.Up.getD v11.toNat []).set v17.toNat x21), v16.Down.set v11.toNat ((v16.Down.getD v11.toNat []).set ((v16.W - 1) - v17).toNat x26)⟩ : Y4), v17 + 1)) (
  G (inR (v11 + 1)) <|
  loop12 (v14, v15, v16, v11 + 1))
def Y4y (loop12 : (Yr × Y4 × Y4 × Int) → Option (Y4 × Int)) (v8 : Yr) (v9 : Y4) (v10 : Y4) (v11 : Int) : Option (Y4 × Int) :=
 cond (decide (v11 < v10.H)) (
  iter (fun loop (s : Yr × Y4 × Y4 × Int) => Y4z loop12 v11 loop s.1 s.2.1 s.2.2.1 s.2.2.2) 1000000 (v8, v9, v10, (0 : Int))) (
  some (v10, (0 : Int)))
def f_R25_Press (t0 : Yr) (t1 : Y0k) : Option (Y4 × Int) :=
 cond (cond (cond (cond (decide (t1.Width < 24)) true (decide (60 < t1.Width))) true (decide (t1.Height < 4))) true (decide (40 < t1.Height))) (
  some ((⟨(0 : Int), (0 : Int), [], []⟩ : Y4), (1 : Int))) (
  (f_R25_Fits t0.Front t1.Width t1.Height).bind fun x2 =>
  (f_R25_Fits t0.Back t1.Width t1.Height).bind fun x3 =>
  cond (cond (!x2) true (!x3)) (
   some ((⟨(0 : Int), (0 : Int), [], []⟩ : Y4), (250 : Int))) (
   G (inR (2 * t1.Width)) <|
   G (inR (3 * t1.Height)) <|
   (Y1u (2 * t1.Width) (3 * t1.Height)).bind fun x7 =>
   iter (fun loop (s : Yr × Y4 × Y4 × Int) => Y4y loop s.1 s.2.1 s.2.2.1 s.2.2.2) 1000000 (t0, (⟨(0 : Int), (0 : Int), [], []⟩ : Y4), x7, (0 : Int))))
section
variable (t0 : Yr) (t1 : Y0k) (v8 : Yr) (v9 : Y4) (v10 : Y4) (v11 : Int) (v14 : Yr) (v15 : Y4) (v16 : Y4) (v17 : Int) (x7 : Y4) (x21 : Bool) (x26 : Bool)
abbrev Zeo := (⟨v16.W, v16.H, v16.Up.set v11.toNat ((v16.Up.getD v11.toNat []).set v17.toNat x21), v16.Down.set v11.toNat ((v16.Down.getD v11.toNat []).set ((v16.W - 1) - v17).toNat x26)⟩ : Y4)
abbrev Zep : List AV := [.j (0 : Int), .j (0 : Int), .im (.val (.slice none 0 0)), .im (.val (.slice none 0 0))]
abbrev Zeq := v16.Up.set v11.toNat ((v16.Up.getD v11.toNat []).set v17.toNat x21)
abbrev Zer := v16.Down.set v11.toNat ((v16.Down.getD v11.toNat []).set ((v16.W - 1) - v17).toNat x26)
abbrev Zes : List AV := [.j t0.Label.N, .j t0.Label.K, sC t0.Front, sC t0.Back]
abbrev Zet := [fmA 15080 4 1 eB v10.Up, fmA 15081 4 1 eB v10.Down]
abbrev Zeu := [fmA 15080 4 1 eB v16.Up, fmA 15081 4 1 eB v16.Down]
abbrev Zev := [fmA 10601 4 1 eB x7.Up, fmA 10602 4 1 eB x7.Down]
abbrev Zew := (⟨(0 : Int), (0 : Int), [], []⟩ : Y4)
abbrev Zex : List AV := [.j v14.Label.N, .j v14.Label.K, sC v14.Front, sC v14.Back]
abbrev Zey : List AV := [.j v10.W, .j v10.H, .rsl 5080 0 0 v10.Up.length, .rsl 5081 0 0 v10.Down.length]
abbrev Zez := [fmA 15080 4 1 eB x7.Up, fmA 15081 4 1 eB x7.Down]
abbrev Zf0 : List AV := [.j v15.W, .j v15.H, sD v15.Up, sD v15.Down]
abbrev Zf1 : Nat × AV := (4, .ref 4 0 0)
abbrev Zf2 := cond (cond (decide (t1.Width < 24)) true (decide (60 < t1.Width))) true (decide (t1.Height < 4))
abbrev Zf3 := [fmA 15040 4 1 eB v10.Up, fmA 15041 4 1 eB v10.Down]
abbrev Zf4 := [fmA 15080 4 1 eB (Zeq v11 v16 v17 x21), fmA 15081 4 1 eB v16.Down]
abbrev Zf5 := fid 15081 v11.toNat
abbrev Zf6 := fid 15080 v11.toNat
abbrev Zf7 : List AV := [.j x7.W, .j x7.H, .rsl 5080 0 0 x7.Up.length, .rsl 5081 0 0 x7.Down.length]
abbrev Zf8 : List AV := [.j x7.W, .j x7.H, .rsl 1500 0 0 x7.Up.length, .rsl 1501 0 0 x7.Down.length]
abbrev Zf9 : List AV := [.j t1.Width, .j t1.Height, .j t1.Binding]
abbrev Zfa : Nat × AV := (2, .ref 2 0 0)
abbrev Zfb : List AV := [.j x7.W, .j x7.H, .rsl 601 0 0 x7.Up.length, .rsl 602 0 0 x7.Down.length]
abbrev Zdx : Hp := [(2, ⟨0, true, 39, 4, (Zes t0)⟩), (3, ⟨0, true, 32, 3, (Zf9 t1)⟩), (4, ⟨0, true, 47, 4, Zep⟩)]
abbrev Zdy : Hp := [(2, ⟨0, true, 39, 4, (Zex v14)⟩), (4, ⟨0, true, 47, 4, (Zf0 v15)⟩), (8, ⟨0, true, 47, 4, [.j v16.W, .j v16.H, .rsl 5080 0 0 ((Zeq v11 v16 v17 x21).length), .rsl 5081 0 0 v16.Down.length]⟩), (5080, nsA 0 61 15080 (Zeq v11 v16 v17 x21)), (5081, nsA 0 61 15081 v16.Down)]
abbrev Zdz : Hp := [(2, ⟨0, true, 39, 4, (Zex v14)⟩), (4, ⟨0, true, 47, 4, (Zf0 v15)⟩), (8, ⟨0, true, 47, 4, [.j v16.W, .j v16.H, .rsl 5080 0 0 v16.Up.length, .rsl 5081 0 0 v16.Down.length]⟩), (5080, nsA 0 61 15080 v16.Up), (5081, nsA 0 61 15081 v16.Down)]
abbrev Ze0 : Hp := [(2, ⟨0, true, 39, 4, [.j v8.Label.N, .j v8.Label.K, sC v8.Front, sC v8.Back]⟩), (4, ⟨0, true, 47, 4, [.j v9.W, .j v9.H, sD v9.Up, sD v9.Down]⟩), (8, ⟨0, true, 47, 4, (Zey v10)⟩), (5080, nsA 0 61 15080 v10.Up), (5081, nsA 0 61 15081 v10.Down)]
abbrev Ze1 : Hp := [(2, ⟨0, true, 39, 4, (Zex v14)⟩), (4, ⟨0, true, 47, 4, (Zf0 v15)⟩), (8, ⟨0, true, 47, 4, [.j v16.W, .j v16.H, .rsl 5080 0 0 ((Zeq v11 v16 v17 x21).length), .rsl 5081 0 0 ((Zer v11 v16 v17 x26).length)]⟩), (5080, nsA 0 61 15080 (Zeq v11 v16 v17 x21)), (5081, nsA 0 61 15081 (Zer v11 v16 v17 x26))]
abbrev Ze2 : Env := [Zfa, Zf1, (8, .ref 8 0 0), (9, .j v11), (10, .j v17)]
abbrev Ze3 : Hp := [(2, ⟨0, true, 39, 4, (Zes t0)⟩), (4, ⟨0, true, 47, 4, Zep⟩), (8, ⟨0, true, 47, 4, (Zf7 x7)⟩), (5080, nsA 0 61 15080 x7.Up), (5081, nsA 0 61 15081 x7.Down)]
abbrev Ze4 : Env := (96, .bool x26) :: (91, .j ((v16.W - 1) - v17)) :: (86, .rsl (Zf5 v11) 0 0 ((v16.Down.getD v11.toNat []).length)) :: (Ze2 v11 v17)
abbrev Ze5 : Hp := [(4, ⟨0, true, 47, 4, [.j v10.W, .j v10.H, .rsl 5040 0 0 v10.Up.length, .rsl 5041 0 0 v10.Down.length]⟩), (5040, nsA 0 61 15040 v10.Up), (5041, nsA 0 61 15041 v10.Down)]
abbrev Ze6 : Env := [Zf1, (3, .ref 3 0 0), Zfa]
abbrev Ze7 : Env := (80, .bool x21) :: (75, .j v17) :: (74, .rsl (Zf6 v11) 0 0 ((v16.Up.getD v11.toNat []).length)) :: (Ze2 v11 v17)
abbrev Ze8 : Hp := (8, ⟨0, true, 47, 4, (Zfb x7)⟩) :: (8, ⟨0, true, 47, 4, Zep⟩) :: (601, nsA 0 61 10601 x7.Up) :: (602, nsA 0 61 10602 x7.Down) :: (Zdx t0 t1)
abbrev Ze9 : Env := [(56, .j (3 * t1.Height)), (53, .j (2 * t1.Width)), Zf1, Zfa]
abbrev Zea : Hp := (1000, ⟨0, true, 47, 4, (Zf8 x7)⟩) :: (1500, nsA 0 61 11500 x7.Up) :: (1501, nsA 0 61 11501 x7.Down) :: (Zdx t0 t1)
abbrev Zeb : Env := [Zfa, Zf1, (8, .ref 8 0 0), (9, .j v11)]
abbrev Zec : Env := (73, .ref 5080 0 (0 + v11.toNat * 1)) :: (72, .j v11) :: (71, .rsl 5080 0 0 v16.Up.length) :: (70, .ref 8 0 2) :: (67, .bool (decide (v17 < v16.W))) :: (Ze2 v11 v17)
abbrev Zed : Hp := [(4, ⟨0, true, 47, 4, Zep⟩)]
abbrev Zee : Hp := (4, ⟨0, true, 47, 4, Zep⟩) :: (Zdx t0 t1)
abbrev Zef : List (Nat × FM) := [(15080, .same 15080), (15081, .same 15081)]
abbrev Zeg : Hp := (601, nsA 0 61 10601 x7.Up) :: (602, nsA 0 61 10602 x7.Down) :: (Zdx t0 t1)
abbrev Zeh : Hp := (4, ⟨0, true, 47, 4, (Zey v10)⟩) :: (Ze0 v8 v9 v10)
abbrev Zei : Env := (85, .ref 5081 0 (0 + v11.toNat * 1)) :: (84, .j v11) :: (83, .rsl 5081 0 0 v16.Down.length) :: (82, .ref 8 0 3) :: (Ze2 v11 v17)
abbrev Zej : Env := [(8, .ref 8 0 0), Zf1, Zfa]
abbrev Zek : Env := (57, .agg (Zfb x7)) :: (Ze9 t1)
abbrev Zel : Hp := [(2, ⟨0, true, 39, 4, (Zes t0)⟩)]
abbrev Zem : Hp := [(4, ⟨0, true, 47, 4, [.j (0 : Int), .j (0 : Int), sD [], sD []]⟩)]
abbrev Zen : Env := [Zf1]
end
theorem f_R25_Press_ok  {t0 : Yr} {t1 : Y0k} {r : Y4 × Int} (H : f_R25_Press t0 t1 = some r) : QSpec Tryd.prog 13 [.agg [.int .i64 t0.Label.N, .int .i64 t0.Label.K, slA (eL (eI .u8)) t0.Front, slA (eL (eI .u8)) t0.Back], .agg [.int .i64 t1.Width, .int .i64 t1.Height, .int .i64 t1.Binding]] (.tup [.agg [.int .i64 r.1.W, .int .i64 r.1.H, slA (eL eB) r.1.Up, slA (eL eB) r.1.Down], .int .i64 r.2]) := by
 refine Yj Tryd.func13 rfl (by simp [Tryd.ntmps13]) ?_
 rw [Tryd.ntmps13]
 unfold f_R25_Press at H
 change AW _ _ _ [(0, .agg (Zes t0)), (1, .agg (Zf9 t1))] [] _
 refine Y0 (OpsW.box rfl rfl rfl 2 rfl (Y5 (by kernel_rfl)) ?_)
 change OpsW _ _ _ _ _ (Zel t0) _
 refine OpsW.box rfl rfl rfl 3 rfl (Y5 (by kernel_rfl)) ?_
 change OpsW _ _ _ _ _ ((3, ⟨0, true, 32, 3, (Zf9 t1)⟩) :: (Zel t0)) _
 refine Yo rfl rfl rfl 4 rfl (by kernel_rfl : zc Tryd.prog 47 = some [.j 0, .j 0, .slice none 0 0, .slice none 0 0]) (by kernel_rfl) (Y2 1 [4, 3, 2] Ze6 (Ya Ze6 (Zdx t0 t1) (StC.mk (phi [(2, some 2), (3, some 3), (4, some 4)]) (.o rfl (.i4 .nil) (.o rfl (.i3 .nil) (.o rfl (.i4 .nil) .nil))) rfl (.cons (.r rfl) (.cons (.r rfl) (.cons (.r rfl) .nil)))) ?_))
 refine Y1 (Yc (Y0 (Y8 18 [28, 4, 3, 2] ((28, .bool (cond (Zf2 t1) true (decide (40 < t1.Height)))) :: Ze6) ⟨(fun h => h), (fun h => h), (fun h => by first | exact h | (simpa using h) | grind), (fun h => h), (fun h => h), (fun h => by first | exact h | (simpa using h) | grind), (fun h => h), (fun h => h), (fun h => by first | exact h | (simpa using h) | grind), trivial⟩ ?_)))
 refine Y1 (Y9 (b := cond (Zf2 t1) true (decide (40 < t1.Height))) H rfl (fun c1 H => ?_) (fun c1 H => ?_))
 ·refine Y0 (Y2 1 [29, 4] ((29, .agg Zep) :: Zen) ?_)
  refine OpsW.store rfl rfl rfl rfl trivial trivial rfl rfl rfl (by kernel_rfl) (Y5 (by kernel_rfl)) (X0 (by kernel_rfl)) ?_
  change OpsW _ _ _ _ _ (Zee t0 t1) _
  refine Y2 1 [5, 4] ((5, .j (1 : Int)) :: Zen) (Ya ((5, .j (1 : Int)) :: Zen) Zed (StC.mk (phi [(4, some 4)]) (.o rfl (.i4 .nil) .nil) rfl (.cons .im (.cons (.r rfl) .nil))) (Y1 ?_))
  obtain rfl := X1 H
  refine AW.recast (env' := [Zf1, (5, .j (1 : Int))]) (h' := Zem) (StC.mk (phi [(4, some 4)]) (.o rfl (.i2 (.cons .nil (.cons .nil .nil))) .nil) rfl (.cons (.r rfl) (.cons .im .nil))) (Yl ?_)
  try simp only [Ex.t, Ex.b]
  exact Yh rfl (.cell rfl (by kernel_rfl) (.tmp .nil))
 refine Yb (Y0 (Y2 6 [35, 33, 31, 4, 3, 2] ((35, .j t1.Height) :: (33, .j t1.Width) :: (31, sC t0.Front) :: Ze6) ?_))
 have ⟨x2, hx2, H⟩ := Yt H
 refine Ys rfl (.cons (.pur rfl) (.cons (.pur rfl) (.cons (.pur rfl) .nil))) (f_R25_Fits_ok hx2) (Y2 1 [6, 4, 3, 2] ((6, .bool x2) :: Ze6) ?_)
 refine Y1 (Y0 (Y2 6 [42, 40, 38, 6, 4, 3, 2] ((42, .j t1.Height) :: (40, .j t1.Width) :: (38, sC t0.Back) :: (6, .bool x2) :: Ze6) ?_))
 have ⟨x3, hx3, H⟩ := Yt H
 refine Ys rfl (.cons (.pur rfl) (.cons (.pur rfl) (.cons (.pur rfl) .nil))) (f_R25_Fits_ok hx3) (Y2 1 [7, 6, 4, 3, 2] ((7, .bool x3) :: (6, .bool x2) :: Ze6) ?_)
 refine Y1 (Yc (Y0 (Y8 6 [49, 4, 3, 2] ((49, .bool (cond (!x2) true (!x3))) :: Ze6) ⟨(fun h => h), (fun h => by first | exact h | (simpa using h) | grind), trivial⟩ ?_)))
 refine Y1 (Y9 (b := cond (!x2) true (!x3)) H rfl (fun c4 H => ?_) (fun c4 H => ?_))
 ·refine Y0 (Y2 1 [50, 4] ((50, .agg Zep) :: Zen) ?_)
  refine OpsW.store rfl rfl rfl rfl trivial trivial rfl rfl rfl (by kernel_rfl) (Y5 (by kernel_rfl)) (X0 (by kernel_rfl)) ?_
  change OpsW _ _ _ _ _ (Zee t0 t1) _
  refine Y2 1 [5, 4] ((5, .j (250 : Int)) :: Zen) (Ya ((5, .j (250 : Int)) :: Zen) Zed (StC.mk (phi [(4, some 4)]) (.o rfl (.i4 .nil) .nil) rfl (.cons .im (.cons (.r rfl) .nil))) (Y1 ?_))
  obtain rfl := X1 H
  refine AW.recast (env' := [Zf1, (5, .j (250 : Int))]) (h' := Zem) (StC.mk (phi [(4, some 4)]) (.o rfl (.i2 (.cons .nil (.cons .nil .nil))) .nil) rfl (.cons (.r rfl) (.cons .im .nil))) (Yl ?_)
  try simp only [Ex.t, Ex.b]
  exact Yh rfl (.cell rfl (by kernel_rfl) (.tmp .nil))
 refine Yb (Y0 ?_)
 have ⟨g5, H⟩ := Y6 H
 have ⟨g6, H⟩ := Y6 H
 refine Y8 6 [56, 53, 4, 2] (Ze9 t1) ⟨g5, g6, trivial⟩ ?_
 have ⟨x7, hx7, H⟩ := Yt H
 refine OpsW.call rfl rfl (by kernel_rfl) [] _ _ rfl (Yg trivial) (.cons (.pur rfl) (.cons (.pur rfl) .nil)) (Y27 hx7) ?_
 rintro _ _ ⟨rfl, rfl⟩
 refine ⟨(fresh_F0 rfl rfl), .inl rfl, ?_⟩
 refine OpsW.heapEq (heap_mid0 rfl) ?_
 change OpsW _ _ _ _ ((57, .agg (Zf8 x7)) :: (Ze9 t1)) ((Zea t0 t1 x7) ++ fmsH [fmA 11500 4 1 eB x7.Up, fmA 11501 4 1 eB x7.Down]) _
 refine Ya (Zek t1 x7) ((Zeg t0 t1 x7) ++ fmsH (Zev x7)) (Yp (hc := (Zea t0 t1 x7)) (fs := [fmA 11500 4 1 eB x7.Up, fmA 11501 4 1 eB x7.Down]) (hc' := (Zeg t0 t1 x7)) (fs' := (Zev x7)) rfl [(601, some 1500), (602, some 1501), (2, some 2), (3, some 3), (4, some 4)] [(10601, .same 11500), (10602, .same 11501)] rfl (.o rfl (Yf rfl rfl (by decide) rfl rfl rfl) (.o rfl (Yf rfl rfl (by decide) rfl rfl rfl) (.o rfl (.i4 .nil) (.o rfl (.i3 .nil) (.o rfl (.i4 .nil) .nil))))) rfl (.cons rfl (Ym rfl) (.cons rfl (Ym rfl) .nil)) (.cons (.agg (.i2 (.cons (.s rfl) (.cons (.s rfl) .nil)))) (.i2 (.cons (.r rfl) (.cons (.r rfl) .nil))))) ?_
 change OpsW _ _ _ _ (Zek t1 x7) ((Zeg t0 t1 x7) ++ fmsH (Zev x7)) _
 refine Yo rfl rfl rfl 8 (Y4r rfl) (by kernel_rfl : zc Tryd.prog 47 = some [.j 0, .j 0, .slice none 0 0, .slice none 0 0]) (by kernel_rfl) (OpsW.store rfl rfl rfl rfl trivial trivial rfl rfl rfl (by kernel_rfl) (Y5 (by kernel_rfl)) (X0 (by kernel_rfl)) ?_)
 change OpsW _ _ _ _ _ ((Ze8 t0 t1 x7) ++ fmsH (Zev x7)) _
 refine Y2 0 [8, 4, 2] Zej (Ya Zej ((Ze3 t0 x7) ++ fmsH (Zez x7)) (Yp (hc := (Ze8 t0 t1 x7)) (fs := (Zev x7)) (hc' := (Ze3 t0 x7)) (fs' := (Zez x7)) rfl [(2, some 2), (4, some 4), (8, some 8), (5080, some 601), (5081, some 602)] [(15080, .same 10601), (15081, .same 10602)] rfl (.o rfl (.i4 .nil) (.o rfl (.i4 .nil) (.o rfl (.i2 (.cons (.s rfl) (.cons (.s rfl) .nil))) (.o rfl (Yf rfl rfl (by decide) rfl rfl rfl) (.o rfl (Yf rfl rfl (by decide) rfl rfl rfl) .nil))))) rfl (.cons rfl (Ym rfl) (.cons rfl (Ym rfl) .nil)) (.cons (.r rfl) (.cons (.r rfl) (.cons (.r rfl) .nil)))) ?_)
 refine Y1 (Yc (Y0 (Y2 1 [9, 8, 4, 2] ((9, .j (0 : Int)) :: Zej) ?_)))
 refine Y1 (Yd ?_)
 refine Yq (fun loop (s : Yr × Y4 × Y4 × Int) => Y4y loop s.1 s.2.1 s.2.2.1 s.2.2.2) r (fun (s : Yr × Y4 × Y4 × Int) => [Zfa, Zf1, (8, .ref 8 0 0), (9, .j s.2.2.2)]) (fun (s : Yr × Y4 × Y4 × Int) => ([(2, ⟨0, true, 39, 4, [.j s.1.Label.N, .j s.1.Label.K, sC s.1.Front, sC s.1.Back]⟩), (4, ⟨0, true, 47, 4, [.j s.2.1.W, .j s.2.1.H, sD s.2.1.Up, sD s.2.1.Down]⟩), (8, ⟨0, true, 47, 4, [.j s.2.2.1.W, .j s.2.2.1.H, .rsl 5080 0 0 s.2.2.1.Up.length, .rsl 5081 0 0 s.2.2.1.Down.length]⟩), (5080, nsA 0 61 15080 s.2.2.1.Up), (5081, nsA 0 61 15081 s.2.2.1.Down)] ++ fmsH [fmA 15080 4 1 eB s.2.2.1.Up, fmA 15081 4 1 eB s.2.2.1.Down])) ?_ 1000000 (t0, Zew, x7, (0 : Int)) H (Yp (hc := (Ze3 t0 x7)) (fs := (Zez x7)) (hc' := [(2, ⟨0, true, 39, 4, (Zes t0)⟩), (4, ⟨0, true, 47, 4, [.j Zew.W, .j Zew.H, sD Zew.Up, sD Zew.Down]⟩), (8, ⟨0, true, 47, 4, (Zf7 x7)⟩), (5080, nsA 0 61 15080 x7.Up), (5081, nsA 0 61 15081 x7.Down)]) (fs' := (Zez x7)) rfl [(2, some 2), (4, some 4), (8, some 8), (5080, some 5080), (5081, some 5081)] Zef rfl (.o rfl (.i4 .nil) (.o rfl (.i2 (.cons .nil (.cons .nil .nil))) (.o rfl (.i2 (.cons (.s rfl) (.cons (.s rfl) .nil))) (.o rfl (Yf rfl rfl (by decide) rfl rfl rfl) (.o rfl (Yf rfl rfl (by decide) rfl rfl rfl) .nil))))) rfl (.cons rfl (Ym rfl) (.cons rfl (Ym rfl) .nil)) (.cons (.r rfl) (.cons (.r rfl) (.cons (.r rfl) (.cons .im .nil)))))
 intro loop12 s H
 obtain ⟨v8, v9, v10, v11⟩ := s
 unfold Y4y at H
 change AW _ _ _ (Zeb v11) ((Ze0 v8 v9 v10) ++ fmsH (Zet v10)) _
 refine Yc (Y0 (Y2 4 [61, 2, 4, 8, 9] ((61, .bool (decide (v11 < v10.H))) :: (Zeb v11)) ?_))
 refine Y1 (Y9 (b := decide (v11 < v10.H)) H rfl (fun c13 H => ?_) (fun c13 H => ?_))
 ·refine Yb (Yc (Yd (Y0 (Y2 1 [10, 2, 4, 8, 9] ((10, .j (0 : Int)) :: (Zeb v11)) ?_))))
  refine Y1 (Yd ?_)
  refine Yq (fun loop (s : Yr × Y4 × Y4 × Int) => Y4z loop12 v11 loop s.1 s.2.1 s.2.2.1 s.2.2.2) r (fun (s : Yr × Y4 × Y4 × Int) => [Zfa, Zf1, (8, .ref 8 0 0), (9, .j v11), (10, .j s.2.2.2)]) (fun (s : Yr × Y4 × Y4 × Int) => ([(2, ⟨0, true, 39, 4, [.j s.1.Label.N, .j s.1.Label.K, sC s.1.Front, sC s.1.Back]⟩), (4, ⟨0, true, 47, 4, [.j s.2.1.W, .j s.2.1.H, sD s.2.1.Up, sD s.2.1.Down]⟩), (8, ⟨0, true, 47, 4, [.j s.2.2.1.W, .j s.2.2.1.H, .rsl 5080 0 0 s.2.2.1.Up.length, .rsl 5081 0 0 s.2.2.1.Down.length]⟩), (5080, nsA 0 61 15080 s.2.2.1.Up), (5081, nsA 0 61 15081 s.2.2.1.Down)] ++ fmsH [fmA 15080 4 1 eB s.2.2.1.Up, fmA 15081 4 1 eB s.2.2.1.Down])) ?_ 1000000 (v8, v9, v10, (0 : Int)) H (Yp (hc := (Ze0 v8 v9 v10)) (fs := (Zet v10)) (hc' := (Ze0 v8 v9 v10)) (fs' := (Zet v10)) rfl [(2, some 2), (4, some 4), (8, some 8), (5080, some 5080), (5081, some 5081)] Zef rfl (.o rfl (.i4 .nil) (.o rfl (.i4 .nil) (.o rfl (.i2 (.cons (.s rfl) (.cons (.s rfl) .nil))) (.o rfl (Yf rfl rfl (by decide) rfl rfl rfl) (.o rfl (Yf rfl rfl (by decide) rfl rfl rfl) .nil))))) rfl (.cons rfl (Ym rfl) (.cons rfl (Ym rfl) .nil)) (.cons (.r rfl) (.cons (.r rfl) (.cons (.r rfl) (.i2 .nil)))))
  intro loop18 s H
  obtain ⟨v14, v15, v16, v17⟩ := s
  unfold Y4z at H
  change AW _ _ _ (Ze2 v11 v17) ((Zdz v14 v15 v16) ++ fmsH (Zeu v16)) _
  refine Yc (Y0 (Y2 4 [67, 2, 4, 8, 9, 10] ((67, .bool (decide (v17 < v16.W))) :: (Ze2 v11 v17)) ?_))
  refine Y1 (Y9 (b := decide (v17 < v16.W)) H rfl (fun c19 H => ?_) (fun c19 H => ?_))
  ·refine Yb (Yc (Yd (AW.drawTSeq 11 Tryd.checked.mixed (by kernel_rfl) ?_)))
   have ⟨g20, H⟩ := Y6 H
   refine QOps.sz (N := 99) 4 (Zec v11 v16 v17) ⟨g20, trivial⟩ (QOps.asU (.rsl (Zf6 v11) 0 0 ((v16.Up.getD v11.toNat []).length)) rfl (Y2o rfl trivial (by kernel_rfl) rfl rfl rfl (Y5b (ltN g20) (by first | omega | (simp only [Zeu, Zf6]; omega)))) (QOps.sz (N := 99) 5 ((79, .j v11) :: (78, .j v17) :: (77, sC v14.Front) :: (76, .ref 2 0 2) :: (75, .j v17) :: (74, .rsl (Zf6 v11) 0 0 ((v16.Up.getD v11.toNat []).length)) :: (Zec v11 v16 v17)) trivial ?_))
   have ⟨x21, hx21, H⟩ := Yt H
   refine QOps.qcall rfl (by kernel_rfl) rfl (Yg trivial) (.cons (.pur rfl) (.cons (.pur rfl) (.cons (.pur rfl) .nil))) (f_R25_raised_ok hx21) rfl ?_
   refine QOps.nil (Y2 0 [80, 75, 74, 2, 4, 8, 9, 10] (Ze7 v11 v16 v17 x21) ?_)
   have ⟨g22, H⟩ := Y6 H
   change OpsW _ _ _ _ (Ze7 v11 v16 v17 x21) ((Zdz v14 v15 v16) ++ fmsH (Zeu v16)) _
   refine OpsW.asU (.ref (Zf6 v11) 0 (0 + v17.toNat * 1)) rfl rfl (T.idxF rfl rfl trivial trivial (by kernel_rfl) (by kernel_rfl) (row_f rfl rfl (ltN g20)) rfl rfl g22) ?_
   change OpsW _ _ _ _ ((81, .ref (Zf6 v11) 0 (0 + v17.toNat * 1)) :: (Ze7 v11 v16 v17 x21)) ((Zdz v14 v15 v16) ++ fmsH (Zeu v16)) _
   refine Y1x (enc := eB) (k := 1) (xs := v16.Up) (hc' := (Zdy v11 v14 v15 v16 v17 x21)) false x21 [.val (.bool x21)] v11.toNat v17.toNat 0 rfl rfl rfl (by first | rfl | exact congrArg (AV.ref (Zf6 v11) 0) (by first | omega | (simp only [Zeq, Zeu, Zf6]; omega))) trivial trivial rfl rfl (fun _ => rfl) rfl (by kernel_rfl) (Y5 (by kernel_rfl)) (ltN g20) (ltN g22) (X0 (by kernel_rfl)) rfl (by simp only [Xs, nsA_set, Zeq, Zeu, Zex, Zf0, Zf1, Zf6, Zfa, Zdy, Zdz, Ze2, Ze7]) ?_
   change OpsW _ _ _ _ ((81, .ref (Zf6 v11) 0 (0 + v17.toNat * 1)) :: (Ze7 v11 v16 v17 x21)) ((Zdy v11 v14 v15 v16 v17 x21) ++ fmsH (Zf4 v11 v16 v17 x21)) _
   refine Y2 0 [2, 4, 8, 9, 10] (Ze2 v11 v17) ?_
   refine Y1 (AW.drawT 15 Tryd.checked.mixed (by kernel_rfl) ?_)
   have ⟨g23, H⟩ := Y6 H
   refine QOps.sz (N := 99) 4 (Zei v11 v16 v17) ⟨g23, trivial⟩ (QOps.asU (.rsl (Zf5 v11) 0 0 ((v16.Down.getD v11.toNat []).length)) rfl (Y2o rfl trivial (by kernel_rfl) rfl rfl rfl (Y5b (ltN g23) (by first | omega | (simp only [Zeq, Zf4, Zf5, Zf6]; omega)))) ?_)
   have ⟨g24, H⟩ := Y6 H
   have ⟨g25, H⟩ := Y6 H
   refine QOps.sz (N := 99) 9 ((95, .j v11) :: (94, .j v17) :: (93, sC v14.Back) :: (92, .ref 2 0 3) :: (91, .j ((v16.W - 1) - v17)) :: (90, .j v17) :: (89, .j (v16.W - 1)) :: (88, .j v16.W) :: (87, .ref 8 0 0) :: (86, .rsl (Zf5 v11) 0 0 ((v16.Down.getD v11.toNat []).length)) :: (Zei v11 v16 v17)) ⟨g24, g25, trivial⟩ ?_
   have ⟨x26, hx26, H⟩ := Yt H
   refine QOps.qcall rfl (by kernel_rfl) rfl (Yg trivial) (.cons (.pur rfl) (.cons (.pur rfl) (.cons (.pur rfl) .nil))) (f_R25_raised_ok hx26) rfl ?_
   refine QOps.nil (Y2 0 [96, 91, 86, 2, 4, 8, 9, 10] (Ze4 v11 v16 v17 x26) ?_)
   have ⟨g27, H⟩ := Y6 H
   change OpsW _ _ _ _ (Ze4 v11 v16 v17 x26) ((Zdy v11 v14 v15 v16 v17 x21) ++ fmsH (Zf4 v11 v16 v17 x21)) _
   refine OpsW.asU (.ref (Zf5 v11) 0 (0 + ((v16.W - 1) - v17).toNat * 1)) rfl rfl (T.idxF rfl rfl trivial trivial (by kernel_rfl) (by kernel_rfl) (row_f rfl rfl (ltN g23)) rfl rfl g27) ?_
   change OpsW _ _ _ _ ((97, .ref (Zf5 v11) 0 (0 + ((v16.W - 1) - v17).toNat * 1)) :: (Ze4 v11 v16 v17 x26)) ((Zdy v11 v14 v15 v16 v17 x21) ++ fmsH (Zf4 v11 v16 v17 x21)) _
   refine Y1x (enc := eB) (k := 1) (xs := v16.Down) (hc' := (Ze1 v11 v14 v15 v16 v17 x21 x26)) false x26 [.val (.bool x26)] v11.toNat ((v16.W - 1) - v17).toNat 0 rfl rfl rfl (by first | rfl | exact congrArg (AV.ref (Zf5 v11) 0) (by first | omega | (simp only [Zeq, Zer, Zf4, Zf5]; omega))) trivial trivial rfl rfl (fun _ => rfl) rfl (by kernel_rfl) (Y5 (by kernel_rfl)) (ltN g23) (ltN g27) (X0 (by kernel_rfl)) rfl (by simp only [Xs, nsA_set, Zeq, Zer, Zex, Zf0, Zf1, Zf4, Zf5, Zfa, Zdy, Ze1, Ze2, Ze4]) ?_
   change OpsW _ _ _ _ ((97, .ref (Zf5 v11) 0 (0 + ((v16.W - 1) - v17).toNat * 1)) :: (Ze4 v11 v16 v17 x26)) ((Ze1 v11 v14 v15 v16 v17 x21 x26) ++ fmsH [fmA 15080 4 1 eB (Zeq v11 v16 v17 x21), fmA 15081 4 1 eB (Zer v11 v16 v17 x26)]) _
   refine Y2 0 [2, 4, 8, 9, 10] (Ze2 v11 v17) ?_
   refine Y1 (Ye ?_)
   have ⟨g28, H⟩ := Y6 H
   refine Y8 3 [10, 2, 4, 8, 9] ((10, .j (v17 + 1)) :: (Zeb v11)) ⟨g28, trivial⟩ (Y1 ?_)
   exact ⟨(v14, v15, (Zeo v11 v16 v17 x21 x26), v17 + 1), H, (Yp (hc := (Ze1 v11 v14 v15 v16 v17 x21 x26)) (fs := [fmA 15080 4 1 eB (Zeq v11 v16 v17 x21), fmA 15081 4 1 eB (Zer v11 v16 v17 x26)]) (hc' := [(2, ⟨0, true, 39, 4, (Zex v14)⟩), (4, ⟨0, true, 47, 4, (Zf0 v15)⟩), (8, ⟨0, true, 47, 4, [.j (Zeo v11 v16 v17 x21 x26).W, .j (Zeo v11 v16 v17 x21 x26).H, .rsl 5080 0 0 (Zeo v11 v16 v17 x21 x26).Up.length, .rsl 5081 0 0 (Zeo v11 v16 v17 x21 x26).Down.length]⟩), (5080, nsA 0 61 15080 (Zeo v11 v16 v17 x21 x26).Up), (5081, nsA 0 61 15081 (Zeo v11 v16 v17 x21 x26).Down)]) (fs' := [fmA 15080 4 1 eB (Zeo v11 v16 v17 x21 x26).Up, fmA 15081 4 1 eB (Zeo v11 v16 v17 x21 x26).Down]) rfl [(2, some 2), (4, some 4), (8, some 8), (5080, some 5080), (5081, some 5081)] Zef rfl (.o rfl (.i4 .nil) (.o rfl (.i4 .nil) (.o rfl (.i2 (.cons (.s rfl) (.cons (.s rfl) .nil))) (.o rfl (Yf rfl rfl (by decide) rfl rfl rfl) (.o rfl (Yf rfl rfl (by decide) rfl rfl rfl) .nil))))) rfl (.cons rfl (Ym rfl) (.cons rfl (Ym rfl) .nil)) (.cons (.r rfl) (.cons (.r rfl) (.cons (.r rfl) (.i2 .nil)))))⟩
  refine AW.exit (Ye ?_)
  have ⟨g29, H⟩ := Y6 H
  refine Y8 3 [9, 2, 4, 8] [(9, .j (v11 + 1)), Zfa, Zf1, (8, .ref 8 0 0)] ⟨g29, trivial⟩ (Y1 ?_)
  exact ⟨(v14, v15, v16, v11 + 1), H, (Yp (hc := (Zdz v14 v15 v16)) (fs := (Zeu v16)) (hc' := (Zdz v14 v15 v16)) (fs' := (Zeu v16)) rfl [(2, some 2), (4, some 4), (8, some 8), (5080, some 5080), (5081, some 5081)] Zef rfl (.o rfl (.i4 .nil) (.o rfl (.i4 .nil) (.o rfl (.i2 (.cons (.s rfl) (.cons (.s rfl) .nil))) (.o rfl (Yf rfl rfl (by decide) rfl rfl rfl) (.o rfl (Yf rfl rfl (by decide) rfl rfl rfl) .nil))))) rfl (.cons rfl (Ym rfl) (.cons rfl (Ym rfl) .nil)) (.cons (.r rfl) (.cons (.r rfl) (.cons (.r rfl) (.cons .im .nil)))))⟩
 refine AW.exit ?_
 refine Y0 (Y2 1 [98, 4] ((98, .agg (Zey v10)) :: Zen) ?_)
 refine OpsW.store rfl rfl rfl rfl trivial trivial rfl rfl rfl (by kernel_rfl) (Y5 (by kernel_rfl)) (X0 (by kernel_rfl)) ?_
 change OpsW _ _ _ _ _ ((Zeh v8 v9 v10) ++ fmsH (Zet v10)) _
 refine Y2 1 [5, 4] ((5, .j (0 : Int)) :: Zen) (Ya ((5, .j (0 : Int)) :: Zen) ((Ze5 v10) ++ fmsH (Zf3 v10)) (Yp (hc := (Zeh v8 v9 v10)) (fs := (Zet v10)) (hc' := (Ze5 v10)) (fs' := (Zf3 v10)) rfl [(4, some 4), (5040, some 5080), (5041, some 5081)] [(15040, .same 15080), (15041, .same 15081)] rfl (.o rfl (.i2 (.cons (.s rfl) (.cons (.s rfl) .nil))) (.o rfl (Yf rfl rfl (by decide) rfl rfl rfl) (.o rfl (Yf rfl rfl (by decide) rfl rfl rfl) .nil))) rfl (.cons rfl (Ym rfl) (.cons rfl (Ym rfl) .nil)) (.cons .im (.cons (.r rfl) .nil))) (Y1 ?_))
 obtain rfl := X1 H
 refine AW.recast (env' := [Zf1, (5, .j (0 : Int))]) (h' := [(4, ⟨0, true, 47, 4, [.j v10.W, .j v10.H, sD v10.Up, sD v10.Down]⟩)]) (Yp (hc := (Ze5 v10)) (fs := (Zf3 v10)) (hc' := [(4, ⟨0, true, 47, 4, [.j v10.W, .j v10.H, sD v10.Up, sD v10.Down]⟩)]) (fs' := []) rfl [(4, some 4)] [] rfl (.o rfl (.i2 (.cons (Y10 rfl rfl (fun _ => rfl) rfl rfl rfl) (.cons (Y10 rfl rfl (fun _ => rfl) rfl rfl rfl) .nil))) .nil) rfl .nil (.cons (.r rfl) (.cons .im .nil))) (Yl ?_)
 try simp only [Ex.t, Ex.b]
 exact Yh rfl (.cell rfl (by kernel_rfl) (.tmp .nil))
end Go.Proofs.YtbcfmhoaocifoaaDoor
