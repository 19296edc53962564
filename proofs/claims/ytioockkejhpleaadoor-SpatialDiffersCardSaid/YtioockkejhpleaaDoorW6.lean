/- Own work. -/
import Derived.Test.YtioockkejhpleaaDoorW5
set_option linter.unusedSimpArgs false
set_option linter.unusedVariables false
set_option maxRecDepth 100000
namespace Go.Proofs.YtioockkejhpleaaDoor
open Go.Abs
def f_R11_rows_k1 (loop13 : (Y4 × (List (List Int)) × Int) → Option (List (List Int))) (v12 : Int) (v15 : Y4) (v16 : List (List Int)) : Option (List (List Int)) :=
 G (inR (v12 + 1)) <|
 loop13 (v15, v16, v12 + 1)
def Y31 (t1 : List (List Int)) (v1 : Int) (loop13 : (Y4 × (List (List Int)) × Int) → Option (List (List Int))) (v10 : Y4) (v11 : List (List Int)) (v12 : Int) : Option (List (List Int)) :=
 cond (decide (v12 < ((t1.length : Int) - 1))) (
  cond (v10.Op == 12) (
   G (0 ≤ v12 ∧ v12 < (t1.length : Int)) <|
   (f_R11_left (t1.getD v12.toNat []) v1).bind fun x20 =>
   (Y35 [(44 : Int), (0 : Int)] x20).bind fun x21 =>
   G (room 24 (v11.length + 1)) <|
   f_R11_rows_k1 loop13 v12 v10 (v11 ++ [x21])) (
   G (0 ≤ v12 ∧ v12 < (t1.length : Int)) <|
   (f_R11_right (t1.getD v12.toNat []) v1).bind fun x24 =>
   (Y35 [(57 : Int), (0 : Int)] x24).bind fun x25 =>
   G (room 24 (v11.length + 1)) <|
   f_R11_rows_k1 loop13 v12 v10 (v11 ++ [x25]))) (
  G (inR (v1 + 2)) <|
  (f_R11_bar (v1 + 2)).bind fun x28 =>
  G (room 24 (v11.length + 1)) <|
  cond (v10.Op == 12) (
   (Y5j (2 : Int)).bind fun x31 =>
   G (0 ≤ ((t1.length : Int) - 1) ∧ ((t1.length : Int) - 1) < (t1.length : Int)) <|
   (f_R11_left (t1.getD ((t1.length : Int) - 1).toNat []) v1).bind fun x33 =>
   (Y35 x31 x33).bind fun x34 =>
   G (room 24 ((v11 ++ [x28]).length + [x34].length)) <|
   some ((v11 ++ [x28]) ++ [x34])) (
   (Y5j (2 : Int)).bind fun x36 =>
   G (0 ≤ ((t1.length : Int) - 1) ∧ ((t1.length : Int) - 1) < (t1.length : Int)) <|
   (f_R11_right (t1.getD ((t1.length : Int) - 1).toNat []) v1).bind fun x38 =>
   (Y35 x36 x38).bind fun x39 =>
   G (room 24 ((v11 ++ [x28]).length + [x39].length)) <|
   some ((v11 ++ [x28]) ++ [x39])))
def Y3o (t0 : Y4) (t1 : List (List Int)) (loop3 : (Int × Int) → Option (List (List Int))) (v1 : Int) (v2 : Int) : Option (List (List Int)) :=
 cond (decide (v2 < (t1.length : Int))) (
  G (0 ≤ v2 ∧ v2 < (t1.length : Int)) <|
  G (inR (v2 + 1)) <|
  loop3 ((if ((t1.getD v2.toNat []).length : Int) > v1 then ((t1.getD v2.toNat []).length : Int) else v1), v2 + 1)) (
  cond (t0.Op == 13) (
   (f_R11_matrix t1 (Int.tmod t0.N (8 : Int))).bind fun x8 =>
   some x8) (
   G (inR ((t1.length : Int) - 1)) <|
   iter (fun loop (s : Y4 × (List (List Int)) × Int) => Y31 t1 v1 loop s.1 s.2.1 s.2.2) 1000000 (t0, ([] : List (List Int)), (0 : Int))))
def f_R11_rows (t0 : Y4) (t1 : List (List Int)) : Option (List (List Int)) :=
 iter (fun loop (s : Int × Int) => Y3o t0 t1 loop s.1 s.2) 1000000 ((0 : Int), (0 : Int))
def f_R11_Lay_b1 (t0 : List Y4) (x5 : List (List Y4)) (loop8 : ((List (List Int)) × Int) → Option ((List (List Int)) × Int)) (v6 : List (List Int)) (v7 : Int) : Option ((List (List Int)) × Int) :=
 cond (decide (v7 < (x5.length : Int))) (
  G (0 ≤ v7 ∧ v7 < (x5.length : Int)) <|
  (f_R10_Write (x5.getD v7.toNat [])).bind fun x11 =>
  cond (x11.2 != 0) (
   some ([], (110 : Int))) (
   G (room 24 (v6.length + 1)) <|
   G (inR (v7 + 1)) <|
   loop8 (v6 ++ [x11.1], v7 + 1))) (
  (f_R11_rows (t0.getD (0 : Int).toNat Y7) v6).bind fun x15 =>
  G (0 ≤ (0 : Int) ∧ (0 : Int) < (x15.length : Int)) <|
  cond (decide (24 < ((x15.getD (0 : Int).toNat []).length : Int))) (
   some ([], (110 : Int))) (
   some (x15, (0 : Int))))
def f_R11_Lay (t0 : List Y4) : Option ((List (List Int)) × Int) :=
 (Y2v t0).bind fun x1 =>
 cond (!x1) (
  some ([], (90 : Int))) (
  G (0 ≤ (0 : Int) ∧ (0 : Int) < (t0.length : Int)) <|
  cond (cond (cond (((t0.getD (0 : Int).toNat Y7).Op) != 12) (((t0.getD (0 : Int).toNat Y7).Op) != 13) false) (((t0.getD (0 : Int).toNat Y7).Op) != 6) false) (
   some ([], (110 : Int))) (
   (f_R11_Entries t0).bind fun x5 =>
   iter (fun loop (s : (List (List Int)) × Int) => f_R11_Lay_b1 t0 x5 loop s.1 s.2) 1000000 (([] : List (List Int)), (0 : Int))))
def Y24 (t0 : List Int) (t1 : List Int) (loop3 : (Int) → Option Bool) (v2 : Int) : Option Bool :=
 cond (decide (v2 < (t0.length : Int))) (
  G (0 ≤ v2 ∧ v2 < (t0.length : Int)) <|
  G (0 ≤ v2 ∧ v2 < (t1.length : Int)) <|
  cond ((t0.getD v2.toNat 0) != (t1.getD v2.toNat 0)) (
   some false) (
   G (inR (v2 + 1)) <|
   loop3 (v2 + 1))) (
  some true)
def Y50 (t0 : List Int) (t1 : List Int) : Option Bool :=
 cond ((t0.length : Int) != (t1.length : Int)) (
  some false) (
  iter (fun loop (s : Int) => Y24 t0 t1 loop s) 1000000 (0 : Int))
section
variable (t0 : List Int) (t1 : List Int) (v2 : Int)
abbrev Zaw : Env := [(19, .ipt (t0.flatMap (eI .u8)) (v2.toNat * 1)), (18, .j v2), (17, sU t0), (14, .bool (decide (v2 < (t0.length : Int)))), (0, sU t0), (1, sU t1), (5, .j v2)]
abbrev Zax : Env := (23, .ipt (t1.flatMap (eI .u8)) (v2.toNat * 1)) :: (22, .j v2) :: (21, sU t1) :: (20, .int .u8 (t0.getD v2.toNat 0)) :: (Zaw t0 t1 v2)
end
theorem f_R02_SameCells_ok  {t0 : List Int} {t1 : List Int} {r : Bool} (H : Y50 t0 t1 = some r) : QSpec Tryd.prog 28 [slA (eI .u8) t0, slA (eI .u8) t1] (.bool r) := by
 refine Yh Tryd.func28 rfl (by simp [Tryd.ntmps28]) ?_
 rw [Tryd.ntmps28]
 unfold Y50 at H
 change AW _ _ _ [(0, sU t0), (1, sU t1)] [] _
 refine Y0 (Y3 1 [0, 1] [(0, sU t0), (1, sU t1)] ?_)
 refine Y1 (Ys (Y0 (Y3 5 [10, 0, 1] [(10, .bool ((t0.length : Int) != (t1.length : Int))), (0, sU t0), (1, sU t1)] ?_)))
 refine Y1 (Y6 (b := (t0.length : Int) != (t1.length : Int)) H rfl (fun c1 H => ?_) (fun c1 H => ?_))
 ·refine Y0 (Y3 1 [4] [(4, .bool false)] ?_)
  refine Y1 ?_
  obtain rfl := X5 H
  refine AW.recast (env' := [(4, .bool false)]) (h' := []) (StC.pure (.cons .im .nil)) (Yk ?_)
  try simp only [Ex.t, Ex.b]
  exact Done.eq rfl (.tmp .nil)
 refine Ya (Ys (Y0 (Y3 1 [5, 0, 1] [(5, .j (0 : Int)), (0, sU t0), (1, sU t1)] ?_)))
 refine Y1 (Yp ?_)
 refine Y25 (fun loop (s : Int) => Y24 t0 t1 loop s) r (fun (s : Int) => [(0, sU t0), (1, sU t1), (5, .j s)]) (fun (s : Int) => []) ?_ 1000000 (0 : Int) H (StC.pure (.i3 .nil))
 intro loop3 v2 H
 unfold Y24 at H
 change AW _ _ _ [(0, sU t0), (1, sU t1), (5, .j v2)] [] _
 refine Ys (Y0 (Y3 4 [14, 0, 1, 5] [(14, .bool (decide (v2 < (t0.length : Int)))), (0, sU t0), (1, sU t1), (5, .j v2)] ?_))
 refine Y1 (Y6 (b := decide (v2 < (t0.length : Int))) H rfl (fun c4 H => ?_) (fun c4 H => ?_))
 ·refine Ya (Ys (Yp (Y1j Tryd.checked.mixed (by kernel_rfl) ?_)))
  have ⟨g5, H⟩ := Ye H
  refine QOps.sz (N := 26) 3 (Zaw t0 t1 v2) ⟨g5, trivial⟩ (QOps.asU (.int .u8 (t0.getD v2.toNat 0)) rfl (T.load rfl trivial (by kernel_rfl) (Y2l (eI .u8) 1 (fun _ => rfl) t0 (0 : Int) v2.toNat (ltN g5) (fun a => .val (.int .u8 a)) (fun _ => rfl))) ?_)
  have ⟨g6, H⟩ := Ye H
  refine QOps.sz (N := 26) 3 (Zax t0 t1 v2) ⟨g6, trivial⟩ (QOps.asU (.int .u8 (t1.getD v2.toNat 0)) rfl (T.load rfl trivial (by kernel_rfl) (Y2l (eI .u8) 1 (fun _ => rfl) t1 (0 : Int) v2.toNat (ltN g6) (fun a => .val (.int .u8 a)) (fun _ => rfl))) (QOps.sz (N := 26) 1 ((25, .bool ((t0.getD v2.toNat 0) != (t1.getD v2.toNat 0))) :: (24, .int .u8 (t1.getD v2.toNat 0)) :: (Zax t0 t1 v2)) trivial ?_))
  refine QOps.nil (AW.trim [25, 0, 1, 5] [(25, .bool ((t0.getD v2.toNat 0) != (t1.getD v2.toNat 0))), (0, sU t0), (1, sU t1), (5, .j v2)] (by kernel_rfl) ?_)
  refine Y6 (b := (t0.getD v2.toNat 0) != (t1.getD v2.toNat 0)) H rfl (fun c7 H => ?_) (fun c7 H => ?_)
  ·refine Y0 (Y3 1 [4] [(4, .bool false)] ?_)
   refine Y1 ?_
   obtain rfl := X5 H
   refine AW.recast (env' := [(4, .bool false)]) (h' := []) (StC.pure (.cons .im .nil)) (Yk ?_)
   try simp only [Ex.t, Ex.b]
   exact Done.eq rfl (.tmp .nil)
  refine Ya (Yd ?_)
  have ⟨g8, H⟩ := Ye H
  refine Yb 3 [5, 0, 1] [(5, .j (v2 + 1)), (0, sU t0), (1, sU t1)] ⟨g8, trivial⟩ (Y1 ?_)
  exact ⟨v2 + 1, H, (StC.pure (.i3 .nil))⟩
 refine AW.exit ?_
 refine Y0 (Y3 1 [4] [(4, .bool true)] ?_)
 refine Y1 ?_
 obtain rfl := X5 H
 refine AW.recast (env' := [(4, .bool true)]) (h' := []) (StC.pure (.cons .im .nil)) (Yk ?_)
 try simp only [Ex.t, Ex.b]
 exact Done.eq rfl (.tmp .nil)
def Y1t (t0 : List (List Int)) (t1 : List (List Int)) (loop3 : (Int) → Option Bool) (v2 : Int) : Option Bool :=
 cond (decide (v2 < (t0.length : Int))) (
  G (0 ≤ v2 ∧ v2 < (t0.length : Int)) <|
  (f_R11_Trim (t0.getD v2.toNat [])).bind fun x6 =>
  G (0 ≤ v2 ∧ v2 < (t1.length : Int)) <|
  (f_R11_Trim (t1.getD v2.toNat [])).bind fun x8 =>
  (Y50 x6 x8).bind fun x9 =>
  cond (!x9) (
   some false) (
   G (inR (v2 + 1)) <|
   loop3 (v2 + 1))) (
  some true)
def Y4j (t0 : List (List Int)) (t1 : List (List Int)) : Option Bool :=
 cond ((t0.length : Int) != (t1.length : Int)) (
  some false) (
  iter (fun loop (s : Int) => Y1t t0 t1 loop s) 1000000 (0 : Int))
section
variable (t0 : List (List Int)) (t1 : List (List Int)) (v2 : Int) (x6 : (List Int))
abbrev Zbc : Env := [(19, .ipt (t0.flatMap (eL (eI .u8))) (v2.toNat * 1)), (18, .j v2), (17, sC t0), (14, .bool (decide (v2 < (t0.length : Int)))), (0, sC t0), (1, sC t1), (5, .j v2)]
abbrev Zbd : Env := (24, .ipt (t1.flatMap (eL (eI .u8))) (v2.toNat * 1)) :: (23, .j v2) :: (22, sC t1) :: (21, sU x6) :: (20, sU (t0.getD v2.toNat [])) :: (Zbc t0 t1 v2)
end
theorem f_R11_SameRows_ok  {t0 : List (List Int)} {t1 : List (List Int)} {r : Bool} (H : Y4j t0 t1 = some r) : QSpec Tryd.prog 15 [slA (eL (eI .u8)) t0, slA (eL (eI .u8)) t1] (.bool r) := by
 refine Yh Tryd.func15 rfl (by simp [Tryd.ntmps15]) ?_
 rw [Tryd.ntmps15]
 unfold Y4j at H
 change AW _ _ _ [(0, sC t0), (1, sC t1)] [] _
 refine Y0 (Y3 1 [0, 1] [(0, sC t0), (1, sC t1)] ?_)
 refine Y1 (Ys (Y0 (Y3 5 [10, 0, 1] [(10, .bool ((t0.length : Int) != (t1.length : Int))), (0, sC t0), (1, sC t1)] ?_)))
 refine Y1 (Y6 (b := (t0.length : Int) != (t1.length : Int)) H rfl (fun c1 H => ?_) (fun c1 H => ?_))
 ·refine Y0 (Y3 1 [4] [(4, .bool false)] ?_)
  refine Y1 ?_
  obtain rfl := X5 H
  refine AW.recast (env' := [(4, .bool false)]) (h' := []) (StC.pure (.cons .im .nil)) (Yk ?_)
  try simp only [Ex.t, Ex.b]
  exact Done.eq rfl (.tmp .nil)
 refine Ya (Ys (Y0 (Y3 1 [5, 0, 1] [(5, .j (0 : Int)), (0, sC t0), (1, sC t1)] ?_)))
 refine Y1 (Yp ?_)
 refine Y25 (fun loop (s : Int) => Y1t t0 t1 loop s) r (fun (s : Int) => [(0, sC t0), (1, sC t1), (5, .j s)]) (fun (s : Int) => []) ?_ 1000000 (0 : Int) H (StC.pure (.i3 .nil))
 intro loop3 v2 H
 unfold Y1t at H
 change AW _ _ _ [(0, sC t0), (1, sC t1), (5, .j v2)] [] _
 refine Ys (Y0 (Y3 4 [14, 0, 1, 5] [(14, .bool (decide (v2 < (t0.length : Int)))), (0, sC t0), (1, sC t1), (5, .j v2)] ?_))
 refine Y1 (Y6 (b := decide (v2 < (t0.length : Int))) H rfl (fun c4 H => ?_) (fun c4 H => ?_))
 ·refine Ya (Ys (Yp (Y1j Tryd.checked.mixed (by kernel_rfl) ?_)))
  have ⟨g5, H⟩ := Ye H
  refine QOps.sz (N := 29) 3 (Zbc t0 t1 v2) ⟨g5, trivial⟩ (QOps.asU (sU (t0.getD v2.toNat [])) rfl (T.load rfl trivial (by kernel_rfl) (Y2l (eL (eI .u8)) 1 (fun _ => rfl) t0 [] v2.toNat (ltN g5) (fun a => .sl (a.flatMap (eI .u8)) a.length) (fun _ => rfl))) ?_)
  have ⟨x6, hx6, H⟩ := Y0d H
  refine QOps.qcall rfl (by kernel_rfl) rfl (Yc trivial) (.cons (.pur rfl) .nil) (f_R11_Trim_ok hx6) rfl ?_
  have ⟨g7, H⟩ := Ye H
  refine QOps.sz (N := 29) 3 (Zbd t0 t1 v2 x6) ⟨g7, trivial⟩ (QOps.asU (sU (t1.getD v2.toNat [])) rfl (T.load rfl trivial (by kernel_rfl) (Y2l (eL (eI .u8)) 1 (fun _ => rfl) t1 [] v2.toNat (ltN g7) (fun a => .sl (a.flatMap (eI .u8)) a.length) (fun _ => rfl))) ?_)
  have ⟨x8, hx8, H⟩ := Y0d H
  refine QOps.qcall rfl (by kernel_rfl) rfl (Yc trivial) (.cons (.pur rfl) .nil) (f_R11_Trim_ok hx8) rfl ?_
  have ⟨x9, hx9, H⟩ := Y0d H
  refine QOps.qcall rfl (by kernel_rfl) rfl (Yc trivial) (.cons (.pur rfl) (.cons (.pur rfl) .nil)) (f_R02_SameCells_ok hx9) rfl (QOps.sz (N := 29) 1 ((28, .bool (!x9)) :: (27, .bool x9) :: (26, sU x8) :: (25, sU (t1.getD v2.toNat [])) :: (Zbd t0 t1 v2 x6)) trivial ?_)
  refine QOps.nil (AW.trim [28, 0, 1, 5] [(28, .bool (!x9)), (0, sC t0), (1, sC t1), (5, .j v2)] (by kernel_rfl) ?_)
  refine Y6 (b := !x9) H rfl (fun c10 H => ?_) (fun c10 H => ?_)
  ·refine Y0 (Y3 1 [4] [(4, .bool false)] ?_)
   refine Y1 ?_
   obtain rfl := X5 H
   refine AW.recast (env' := [(4, .bool false)]) (h' := []) (StC.pure (.cons .im .nil)) (Yk ?_)
   try simp only [Ex.t, Ex.b]
   exact Done.eq rfl (.tmp .nil)
  refine Ya (Yd ?_)
  have ⟨g11, H⟩ := Ye H
  refine Yb 3 [5, 0, 1] [(5, .j (v2 + 1)), (0, sC t0), (1, sC t1)] ⟨g11, trivial⟩ (Y1 ?_)
  exact ⟨v2 + 1, H, (StC.pure (.i3 .nil))⟩
 refine AW.exit ?_
 refine Y0 (Y3 1 [4] [(4, .bool true)] ?_)
 refine Y1 ?_
 obtain rfl := X5 H
 refine AW.recast (env' := [(4, .bool true)]) (h' := []) (StC.pure (.cons .im .nil)) (Yk ?_)
 try simp only [Ex.t, Ex.b]
 exact Done.eq rfl (.tmp .nil)
def Y3p (t0 : List Y4) (t1 : List Y4) (loop3 : (Int) → Option Bool) (v2 : Int) : Option Bool :=
 cond (decide (v2 < (t0.length : Int))) (
  G (0 ≤ v2 ∧ v2 < (t0.length : Int)) <|
  G (0 ≤ v2 ∧ v2 < (t1.length : Int)) <|
  cond (xor true ([((t0.getD v2.toNat Y7).Op) == ((t1.getD v2.toNat Y7).Op), ((t0.getD v2.toNat Y7).N) == ((t1.getD v2.toNat Y7).N)].all id)) (
   some false) (
   G (inR (v2 + 1)) <|
   loop3 (v2 + 1))) (
  some true)
def f_R11_Same (t0 : List Y4) (t1 : List Y4) : Option Bool :=
 cond ((t0.length : Int) != (t1.length : Int)) (
  some false) (
  iter (fun loop (s : Int) => Y3p t0 t1 loop s) 1000000 (0 : Int))
section
variable (t0 : List Y4) (t1 : List Y4) (v2 : Int)
abbrev Zbh := [((t0.getD v2.toNat Y7).Op) == ((t1.getD v2.toNat Y7).Op), ((t0.getD v2.toNat Y7).N) == ((t1.getD v2.toNat Y7).N)].all id
abbrev Zbi := t0.getD v2.toNat Y7
abbrev Zbj := t1.getD v2.toNat Y7
abbrev Zbe : Env := [(19, .ipt (t0.flatMap Y2) (v2.toNat * 2)), (18, .j v2), (17, slA Y2 t0), (14, .bool (decide (v2 < (t0.length : Int)))), (0, slA Y2 t0), (1, slA Y2 t1), (5, .j v2)]
abbrev Zbf : Env := [(0, slA Y2 t0), (1, slA Y2 t1)]
abbrev Zbg : Env := [(0, slA Y2 t0), (1, slA Y2 t1), (5, .j v2)]
end
theorem f_R11_Same_ok  {t0 : List Y4} {t1 : List Y4} {r : Bool} (H : f_R11_Same t0 t1 = some r) : QSpec Tryd.prog 16 [slA Y2 t0, slA Y2 t1] (.bool r) := by
 refine Yh Tryd.func16 rfl (by simp [Tryd.ntmps16]) ?_
 rw [Tryd.ntmps16]
 unfold f_R11_Same at H
 change AW _ _ _ (Zbf t0 t1) [] _
 refine Y0 (Y3 1 [0, 1] (Zbf t0 t1) ?_)
 refine Y1 (Ys (Y0 (Y3 5 [10, 0, 1] ((10, .bool ((t0.length : Int) != (t1.length : Int))) :: (Zbf t0 t1)) ?_)))
 refine Y1 (Y6 (b := (t0.length : Int) != (t1.length : Int)) H rfl (fun c1 H => ?_) (fun c1 H => ?_))
 ·refine Y0 (Y3 1 [4] [(4, .bool false)] ?_)
  refine Y1 ?_
  obtain rfl := X5 H
  refine AW.recast (env' := [(4, .bool false)]) (h' := []) (StC.pure (.cons .im .nil)) (Yk ?_)
  try simp only [Ex.t, Ex.b]
  exact Done.eq rfl (.tmp .nil)
 refine Ya (Ys (Y0 (Y3 1 [5, 0, 1] ((5, .j (0 : Int)) :: (Zbf t0 t1)) ?_)))
 refine Y1 (Yp ?_)
 refine Y25 (fun loop (s : Int) => Y3p t0 t1 loop s) r (fun (s : Int) => [(0, slA Y2 t0), (1, slA Y2 t1), (5, .j s)]) (fun (s : Int) => []) ?_ 1000000 (0 : Int) H (StC.pure (.i3 .nil))
 intro loop3 v2 H
 unfold Y3p at H
 change AW _ _ _ (Zbg t0 t1 v2) [] _
 refine Ys (Y0 (Y3 4 [14, 0, 1, 5] ((14, .bool (decide (v2 < (t0.length : Int)))) :: (Zbg t0 t1 v2)) ?_))
 refine Y1 (Y6 (b := decide (v2 < (t0.length : Int))) H rfl (fun c4 H => ?_) (fun c4 H => ?_))
 ·refine Ya (Ys (Yp (Y1j Tryd.checked.mixed (by kernel_rfl) ?_)))
  have ⟨g5, H⟩ := Ye H
  refine QOps.sz (N := 26) 3 (Zbe t0 t1 v2) ⟨g5, trivial⟩ (QOps.asU (.agg [.j ((Zbi t0 v2).Op), .j ((Zbi t0 v2).N)]) rfl (Y44 (cs := t0.flatMap Y2) (off := v2.toNat * 2) (ds := Y2 (Zbi t0 v2)) rfl trivial (by kernel_rfl) (by have := Y05 Y2 2 (fun _ => rfl) t0; have := (ltN g5); first | omega | (simp only [Zbi] at *; omega)) (fm_elem Y2 2 (fun _ => rfl) t0 Y7 v2.toNat (ltN g5))) ?_)
  have ⟨g6, H⟩ := Ye H
  refine QOps.sz (N := 26) 3 ((23, .ipt (t1.flatMap Y2) (v2.toNat * 2)) :: (22, .j v2) :: (21, slA Y2 t1) :: (20, .agg [.j ((Zbi t0 v2).Op), .j ((Zbi t0 v2).N)]) :: (Zbe t0 t1 v2)) ⟨g6, trivial⟩ (QOps.asU (.agg [.j ((Zbj t1 v2).Op), .j ((Zbj t1 v2).N)]) rfl (Y44 (cs := t1.flatMap Y2) (off := v2.toNat * 2) (ds := Y2 (Zbj t1 v2)) rfl trivial (by kernel_rfl) (by have := Y05 Y2 2 (fun _ => rfl) t1; have := (ltN g6); first | omega | (simp only [Zbh, Zbi, Zbj] at *; omega)) (fm_elem Y2 2 (fun _ => rfl) t1 Y7 v2.toNat (ltN g6))) (QOps.quietU (.bool (xor true (Zbh t0 t1 v2))) rfl (Quiet.eqAgg [.j ((Zbi t0 v2).Op), .j ((Zbi t0 v2).N)] [.j ((Zbj t1 v2).Op), .j ((Zbj t1 v2).N)] [((Zbi t0 v2).Op) == ((Zbj t1 v2).Op), ((Zbi t0 v2).N) == ((Zbj t1 v2).N)] true rfl rfl (by kernel_rfl) (by kernel_rfl) (gpoU rfl ⟨trivial, rfl, trivial, rfl⟩)) ?_))
  refine QOps.nil (AW.trim [25, 0, 1, 5] ((25, .bool (xor true (Zbh t0 t1 v2))) :: (Zbg t0 t1 v2)) (by kernel_rfl) ?_)
  refine Y6 (b := xor true (Zbh t0 t1 v2)) H rfl (fun c7 H => ?_) (fun c7 H => ?_)
  ·refine Y0 (Y3 1 [4] [(4, .bool false)] ?_)
   refine Y1 ?_
   obtain rfl := X5 H
   refine AW.recast (env' := [(4, .bool false)]) (h' := []) (StC.pure (.cons .im .nil)) (Yk ?_)
   try simp only [Ex.t, Ex.b]
   exact Done.eq rfl (.tmp .nil)
  refine Ya (Yd ?_)
  have ⟨g8, H⟩ := Ye H
  refine Yb 3 [5, 0, 1] ((5, .j (v2 + 1)) :: (Zbf t0 t1)) ⟨g8, trivial⟩ (Y1 ?_)
  exact ⟨v2 + 1, H, (StC.pure (.i3 .nil))⟩
 refine AW.exit ?_
 refine Y0 (Y3 1 [4] [(4, .bool true)] ?_)
 refine Y1 ?_
 obtain rfl := X5 H
 refine AW.recast (env' := [(4, .bool true)]) (h' := []) (StC.pure (.cons .im .nil)) (Yk ?_)
 try simp only [Ex.t, Ex.b]
 exact Done.eq rfl (.tmp .nil)
def Y1i (x1 : Bool) (x2 : List Y4) (v4 : List Y4) : Option Bool :=
 (Y2m x2).bind fun x5 =>
 (Y2m v4).bind fun x6 =>
 cond (cond (x5.2 != 0) true (x6.2 != 0)) (
  some x1) (
  (Y4j x5.1 x6.1).bind fun x8 =>
  (f_R11_Same x2 v4).bind fun x9 =>
  some (cond (x8 == x9) x1 false))
def Y1h (x1 : Bool) (x2 : List Y4) (v12 : Y39) : Option Bool :=
 (f_R11_Made v12).bind fun x13 =>
 Y1i x1 x2 x13
def Y3y (t0 : Y39) (t1 : Y39) (t2 : Int) : Option Bool :=
 (f_L11_sanity).bind fun x1 =>
 (f_R11_Made t0).bind fun x2 =>
 (f_R11_Made t1).bind fun x3 =>
 cond ((Int.tmod t2 (2 : Int)) == 1) (
  G (room 2 (([] : List (List Int)).length + t0.L.length)) <|
  cond (decide (0 < (((([] : List (List Int)) ++ t0.L).length : Nat) : Int))) (
   G ((((([] : List (List Int)) ++ t0.L).length : Nat) : Int) ≠ 0) <|
   G (0 ≤ (Int.tmod (IntKind.wrap .i64 t2) (((([] : List (List Int)) ++ t0.L).length : Nat) : Int)) ∧ (Int.tmod (IntKind.wrap .i64 t2) (((([] : List (List Int)) ++ t0.L).length : Nat) : Int)) < ((([] : List (List Int)) ++ t0.L).length : Int)) <|
   Y1h x1 x2 (⟨t0.Kind, t0.N, (([] : List (List Int)) ++ t0.L).set (Int.tmod (IntKind.wrap .i64 t2) (((([] : List (List Int)) ++ t0.L).length : Nat) : Int)).toNat [t2, IntKind.wrap .u8 (Int.tdiv t2 (2 : Int))]⟩ : Y39)) (
   Y1h x1 x2 (⟨t0.Kind, t0.N, ([] : List (List Int)) ++ t0.L⟩ : Y39))) (
  Y1i x1 x2 x3)
section
variable (t0 : Y39) (t1 : Y39) (t2 : Int) (v4 : List Y4) (x1 : Bool) (x2 : List Y4)
abbrev Zbv := (Int.tmod (IntKind.wrap .i64 t2) (((([] : List (List Int)) ++ t0.L).length : Nat) : Int))
abbrev Zbw := (([] : List (List Int)) ++ t0.L)
abbrev Zbx : List AV := [.int .u8 t0.Kind, .int .u8 t0.N, slA eA43 t0.L]
abbrev Zby := ((Zbw t0).set (Zbv t0 t2).toNat [t2, IntKind.wrap .u8 (Int.tdiv t2 (2 : Int))])
abbrev Zbz := (IntKind.wrap .u8 (Int.tdiv t2 (2 : Int)))
abbrev Zc0 : List AV := [.int .u8 t1.Kind, .int .u8 t1.N, slA eA43 t1.L]
abbrev Zc1 : Nat × AV := (8, slA Y2 x2)
abbrev Zc2 : Nat × AV := (43, .agg [.int .u8 t2, .int .u8 (Zbz t2)])
abbrev Zc3 : Nat × AV := (4, .ref 4 0 0)
abbrev Zc4 := ([] : List (List Int))
abbrev Zbk : Env := [(7, .bool x1), Zc3, (3, .ref 3 0 0), (2, .int .u8 t2)]
abbrev Zbl : Env := [(Zc1 x2), (7, .bool x1), Zc3, (2, .int .u8 t2)]
abbrev Zbm : Env := [(7, .bool x1), (Zc1 x2), (9, slA Y2 v4)]
abbrev Zbn : Hp := [(4, ⟨0, true, 24, 3, [.int .u8 t0.Kind, .int .u8 t0.N, .rsl 5040 0 0 ((Zbw t0).length)]⟩), (5040, rtA 0 43 2 eA43 (Zbw t0))]
abbrev Zbo : Hp := [(3, ⟨0, true, 24, 3, (Zbx t0)⟩), (4, ⟨0, true, 24, 3, (Zbx t0)⟩)]
abbrev Zbp : Hp := [(3, ⟨0, true, 24, 3, (Zbx t0)⟩), (4, ⟨0, true, 24, 3, (Zc0 t1)⟩)]
abbrev Zbq : Env := (17, .agg (Zc0 t1)) :: (16, slA Y2 x2) :: (15, .agg (Zbx t0)) :: (Zbk t2 x1)
abbrev Zbr : Env := [(Zc1 x2), (7, .bool x1), Zc3]
abbrev Zbs : Env := [(7, .bool x1), (Zc1 x2)]
abbrev Zbt : Env := (31, .bool (decide (0 < (((Zbw t0).length : Nat) : Int)))) :: (Zbl t2 x1 x2)
abbrev Zbu : Hp := [(3, ⟨0, true, 24, 3, (Zbx t0)⟩)]
end
theorem f_L11_SpatialDiffers_ok  {t0 : Y39} {t1 : Y39} {t2 : Int} {r : Bool} (H : Y3y t0 t1 t2 = some r) : QSpec Tryd.prog 5 [.agg [.int .u8 t0.Kind, .int .u8 t0.N, slA eA43 t0.L], .agg [.int .u8 t1.Kind, .int .u8 t1.N, slA eA43 t1.L], .int .u8 t2] (.bool r) := by
 refine Yh Tryd.func5 rfl (by simp [Tryd.ntmps5]) ?_
 rw [Tryd.ntmps5]
 unfold Y3y at H
 change AW _ _ _ [(0, .agg (Zbx t0)), (1, .agg (Zc0 t1)), (2, .int .u8 t2)] [] _
 refine Y0 (OpsW.box rfl rfl rfl 3 rfl (Yx (by kernel_rfl)) ?_)
 change OpsW _ _ _ _ _ (Zbu t0) _
 refine OpsW.box rfl rfl rfl 4 rfl (Yx (by kernel_rfl)) ?_
 change OpsW _ _ _ _ _ ((4, ⟨0, true, 24, 3, (Zc0 t1)⟩) :: (Zbu t0)) _
 refine Y3 1 [4, 3, 2] [Zc3, (3, .ref 3 0 0), (2, .int .u8 t2)] (OpsW.rc [Zc3, (3, .ref 3 0 0), (2, .int .u8 t2)] (Zbp t0 t1) (StC.mk (phi [(3, some 3), (4, some 4)]) (.o rfl (.i3 .nil) (.o rfl (.i3 .nil) .nil)) rfl (.cons (.r rfl) (.cons (.r rfl) (.cons .im .nil)))) ?_)
 refine Y1 (Y0 ?_)
 have ⟨x1, hx1, H⟩ := Y0d H
 refine Y0f rfl .nil (f_L11_sanity_ok hx1) (Y3 1 [7, 4, 3, 2] (Zbk t2 x1) ?_)
 refine Y1 (Y1j Tryd.checked.mixed (by kernel_rfl) ?_)
 refine QOps.sz (N := 74) 1 ((15, .agg (Zbx t0)) :: (Zbk t2 x1)) trivial ?_
 have ⟨x2, hx2, H⟩ := Y0d H
 refine QOps.qcall rfl (by kernel_rfl) rfl (Yc trivial) (.cons (.pur rfl) .nil) (f_R11_Made_ok hx2) rfl (QOps.sz (N := 74) 1 (Zbq t0 t1 t2 x1 x2) trivial ?_)
 have ⟨x3, hx3, H⟩ := Y0d H
 refine QOps.qcall rfl (by kernel_rfl) rfl (Yc trivial) (.cons (.pur rfl) .nil) (f_R11_Made_ok hx3) rfl (QOps.sz (N := 74) 2 ((9, slA Y2 x3) :: (Zc1 x2) :: (18, slA Y2 x3) :: (Zbq t0 t1 t2 x1 x2)) trivial ?_)
 refine QOps.nil (AW.trim [9, 8, 7, 4, 3, 2] ((9, slA Y2 x3) :: (Zc1 x2) :: (Zbk t2 x1)) (by kernel_rfl) ?_)
 refine Y0w (fun (y : (List Y4)) => Y1i x1 x2 y) r (fun (y : (List Y4)) => [(7, .bool x1), (Zc1 x2), (9, slA Y2 y)]) (fun (y : (List Y4)) => []) ?_ ?_
 ·refine Y0 (Yb 3 [21, 9, 8, 7, 4, 3, 2] ((21, .bool ((Int.tmod t2 (2 : Int)) == 1)) :: (9, slA Y2 x3) :: (Zc1 x2) :: (Zbk t2 x1)) ⟨(by decide), trivial⟩ ?_)
  refine Y1 (Y6 (b := (Int.tmod t2 (2 : Int)) == 1) H rfl (fun c10 H => ?_) (fun c10 H => ?_))
  ·refine Y0 (Y3 1 [22, 8, 7, 4, 3, 2] ((22, .agg (Zbx t0)) :: (Zc1 x2) :: (Zbk t2 x1)) ?_)
   refine OpsW.store rfl rfl rfl rfl trivial trivial rfl rfl rfl (by kernel_rfl) (Yx (by kernel_rfl)) (X00 (by kernel_rfl)) ?_
   change OpsW _ _ _ _ _ ((4, ⟨0, true, 24, 3, (Zbx t0)⟩) :: (Zbp t0 t1)) _
   refine Y3 0 [8, 7, 4, 3, 2] ((Zc1 x2) :: (Zbk t2 x1)) (OpsW.rc ((Zc1 x2) :: (Zbk t2 x1)) (Zbo t0) (StC.mk (phi [(3, some 3), (4, some 4)]) (.o rfl (.i3 .nil) (.o rfl (.i3 .nil) .nil)) rfl (.i2 (.cons (.r rfl) (.cons (.r rfl) (.cons .im .nil))))) ?_)
   refine Y1 (Y0 (OpsW.buildT (enc := eA43) Zc4 rfl rfl rfl 23 rfl E22 (fun _ => rfl) (by decide) trivial (by kernel_rfl) (by kernel_rfl) (by kernel_rfl) rfl ?_))
   refine Y3 2 [25, 23, 8, 7, 4, 2] ((25, slA eA43 t0.L) :: (23, .rsl 23 0 0 (Zc4.length)) :: (Zbl t2 x1 x2)) ?_
   have ⟨g11, H⟩ := Ye H
   refine Y46 (enc := eA43) (ys := t0.L) rfl rfl rfl E22 (fun _ => rfl) rfl rfl trivial (SrcA.typed (enc := eA43) (fun _ => rfl) (by kernel_rfl) t0.L) rfl g11 (Y3 1 [27, 26, 8, 7, 4, 2] ((27, .ref 4 0 2) :: (26, .rsl 23 1 0 ((Zbw t0).length)) :: (Zbl t2 x1 x2)) (OpsW.store rfl rfl rfl rfl trivial trivial rfl rfl rfl (by kernel_rfl) (Yx (by kernel_rfl)) (X00 (by kernel_rfl)) ?_))
   change OpsW _ _ _ _ _ ((4, ⟨0, true, 24, 3, [.int .u8 t0.Kind, .int .u8 t0.N, .rsl 23 1 0 ((Zbw t0).length)]⟩) :: (23, rtA 1 43 2 eA43 (Zbw t0)) :: (23, rtA 0 43 2 eA43 Zc4) :: (Zbo t0)) _
   refine Y3 0 [8, 7, 4, 2] (Zbl t2 x1 x2) (OpsW.rc (Zbl t2 x1 x2) (Zbn t0) (StC.mk (phi [(4, some 4), (5040, some 23)]) (.o rfl (.i2 (.cons (.s rfl) .nil)) (.o rfl (CstL.ims _) .nil)) rfl (.i2 (.cons (.r rfl) (.cons .im .nil)))) (Y1 ?_))
   refine Y0w (fun (y : Y39) => Y1h x1 x2 y) r (fun (y : Y39) => (Zc3 :: (Zbs x1 x2))) (fun (y : Y39) => [(4, ⟨0, true, 24, 3, [.int .u8 y.Kind, .int .u8 y.N, .rsl 5040 0 0 y.L.length]⟩), (5040, rtA 0 43 2 eA43 y.L)]) ?_ ?_
   ·refine Y0 (Y3 4 [31, 8, 7, 4, 2] (Zbt t0 t2 x1 x2) ?_)
    refine Y1 (Y6 (b := decide (0 < (((Zbw t0).length : Nat) : Int))) H rfl (fun c14 H => ?_) (fun c14 H => ?_))
    ·refine AW.drawT 12 Tryd.checked.mixed (by kernel_rfl) ?_
     have ⟨g15, H⟩ := Ye H
     refine QOps.sz (N := 74) 12 ((Zc2 t2) :: (42, .int .u8 (Zbz t2)) :: (41, .int .u8 t2) :: (40, .int .u8 t2) :: (39, .j (Zbv t0 t2)) :: (38, .j (((Zbw t0).length : Nat) : Int)) :: (37, .rsl 5040 0 0 ((Zbw t0).length)) :: (36, .ref 4 0 2) :: (35, .j (IntKind.wrap .i64 t2)) :: (34, .int .u8 t2) :: (33, .rsl 5040 0 0 ((Zbw t0).length)) :: (32, .ref 4 0 2) :: (Zbt t0 t2 x1 x2)) ⟨g15, (by decide), trivial⟩ ?_
     refine QOps.nil (Y3 0 [43, 39, 33, 8, 7, 4] ((Zc2 t2) :: (39, .j (Zbv t0 t2)) :: (33, .rsl 5040 0 0 ((Zbw t0).length)) :: (Zbr x1 x2)) ?_)
     have ⟨g16, H⟩ := Ye H
     refine Yb 1 [44, 43, 8, 7, 4] ((44, .ref 5040 0 (0 + (Zbv t0 t2).toNat * 2)) :: (Zc2 t2) :: (Zbr x1 x2)) ⟨g16, trivial⟩ (OpsW.storeT (enc := eA43) (k := 2) (List.replicate 2 (0 : Int)) [t2, IntKind.wrap .u8 (Int.tdiv t2 (2 : Int))] [.val (.int .u8 t2), .val (.int .u8 (Zbz t2))] (Zbv t0 t2).toNat 0 rfl rfl rfl (by exact congrArg (AV.ref 5040 0) (by first | omega | rfl | (simp only [Zbv, Zbw, Zby, Zbz]; omega) | (simp; omega))) trivial trivial rfl (fun _ => rfl) rfl (by kernel_rfl) (Yx (by kernel_rfl)) (ltN g16) (X00 (by kernel_rfl)) rfl (OpsW.heapEq (h := ((5040, rtA 0 43 2 eA43 (Zby t0 t2)) :: (Zbn t0))) (h' := [(5040, rtA 0 43 2 eA43 (Zby t0 t2)), (4, ⟨0, true, 24, 3, [.int .u8 t0.Kind, .int .u8 t0.N, .rsl 5040 0 0 ((Zby t0 t2).length)]⟩), (5040, rtA 0 43 2 eA43 (Zbw t0))]) (fun q_ => by simp only [List.length_set, List.length_reverse, Zbv, Zbw, Zby, Zbz, Zc1, Zc2, Zc3, Zbl, Zbn, Zbr, Zbt]) (Y3 0 [8, 7, 4] (Zbr x1 x2) (OpsW.rc (Zbr x1 x2) [(4, ⟨0, true, 24, 3, [.int .u8 t0.Kind, .int .u8 t0.N, .rsl 5040 0 0 ((Zby t0 t2).length)]⟩), (5040, rtA 0 43 2 eA43 (Zby t0 t2))] (StC.mk (phi [(4, some 4), (5040, some 5040)]) (.o rfl (.i2 (.cons (.s rfl) .nil)) (.o rfl (CstL.ims _) .nil)) rfl (.i2 (.cons (.r rfl) .nil))) (Y1 ?_)))))
     exact ⟨(⟨t0.Kind, t0.N, (Zbw t0).set (Zbv t0 t2).toNat [t2, IntKind.wrap .u8 (Int.tdiv t2 (2 : Int))]⟩ : Y39), H, (StC.mk (phi [(4, some 4), (5040, some 5040)]) (.o rfl (.i2 (.cons (.s rfl) .nil)) (.o rfl (CstL.ims _) .nil)) rfl (.cons (.r rfl) (.i2 .nil)))⟩
    refine Ya ?_
    exact ⟨(⟨t0.Kind, t0.N, Zc4 ++ t0.L⟩ : Y39), H, (StC.mk (phi [(4, some 4), (5040, some 5040)]) (.o rfl (.i2 (.cons (.s rfl) .nil)) (.o rfl (CstL.ims _) .nil)) rfl (.cons (.r rfl) (.i2 .nil)))⟩
   intro v12 H
   unfold Y1h at H
   change AW _ _ _ (Zc3 :: (Zbs x1 x2)) [(4, ⟨0, true, 24, 3, [.int .u8 v12.Kind, .int .u8 v12.N, .rsl 5040 0 0 v12.L.length]⟩), (5040, rtA 0 43 2 eA43 v12.L)] _
   refine Yd (OpsW.rc (Zc3 :: (Zbs x1 x2)) [(4, ⟨0, true, 24, 3, [.int .u8 v12.Kind, .int .u8 v12.N, slA eA43 v12.L]⟩)] (StC.mk (phi [(4, some 4)]) (.o rfl (.i2 (.cons (.frz rfl rfl rfl (frz_all eA43 2 (fun _ => rfl) v12.L) (Y05 eA43 2 (fun _ => rfl) v12.L) (phi_ne rfl)) .nil)) .nil) rfl (.cons (.r rfl) (.i2 .nil))) ?_)
   refine Y3 1 [45, 7, 8] ((45, .agg [.int .u8 v12.Kind, .int .u8 v12.N, slA eA43 v12.L]) :: (Zbs x1 x2)) ?_
   have ⟨x13, hx13, H⟩ := Y0d H
   refine Y0f rfl (.cons (.pur rfl) .nil) (f_R11_Made_ok hx13) (Y3 1 [9, 7, 8] ((9, slA Y2 x13) :: (Zbs x1 x2)) (OpsW.rc ((9, slA Y2 x13) :: (Zbs x1 x2)) [] (StC.pure (.i3 .nil)) (Y1 ?_)))
   exact ⟨x13, H, (StC.pure (.i3 .nil))⟩
  refine Ya ?_
  exact ⟨x3, H, (StC.pure (.i3 .nil))⟩
 intro v4 H
 unfold Y1i at H
 change AW _ _ _ (Zbm v4 x1 x2) [] _
 refine Y0 (Y3 1 [48, 7, 8, 9] ((48, slA Y2 x2) :: (Zbm v4 x1 x2)) ?_)
 have ⟨x5, hx5, H⟩ := Y0d H
 refine Y0f rfl (.cons (.pur rfl) .nil) (f_spatial_Lay_ok hx5) (Y3 5 [11, 10, 7, 8, 9] ((11, .j x5.2) :: (10, sC x5.1) :: (Zbm v4 x1 x2)) ?_)
 refine Y1 (Y0 (Y3 1 [53, 11, 10, 7, 8, 9] ((53, slA Y2 v4) :: (11, .j x5.2) :: (10, sC x5.1) :: (Zbm v4 x1 x2)) ?_))
 have ⟨x6, hx6, H⟩ := Y0d H
 refine Y0f rfl (.cons (.pur rfl) .nil) (f_spatial_Lay_ok hx6) (Y3 5 [13, 12, 11, 10, 7, 8, 9] ((13, .j x6.2) :: (12, sC x6.1) :: (11, .j x5.2) :: (10, sC x5.1) :: (Zbm v4 x1 x2)) ?_)
 refine Y1 (Ys (Y0 (Yb 6 [62, 12, 10, 7, 8, 9] ((62, .bool (cond (x5.2 != 0) true (x6.2 != 0))) :: (12, sC x6.1) :: (10, sC x5.1) :: (Zbm v4 x1 x2)) ⟨(fun h => h), (fun h => by first | exact h | (simpa using h) | grind), trivial⟩ ?_)))
 refine Y1 (Y6 (b := cond (x5.2 != 0) true (x6.2 != 0)) H rfl (fun c7 H => ?_) (fun c7 H => ?_))
 ·refine Y0 (Y3 2 [6] [(6, .bool x1)] ?_)
  refine Y1 ?_
  obtain rfl := X5 H
  refine AW.recast (env' := [(6, .bool x1)]) (h' := []) (StC.pure (.cons .im .nil)) (Yk ?_)
  try simp only [Ex.t, Ex.b]
  exact Done.eq rfl (.tmp .nil)
 refine Ya (Y0 (Y3 2 [65, 64, 7, 8, 9] ((65, sC x6.1) :: (64, sC x5.1) :: (Zbm v4 x1 x2)) ?_))
 have ⟨x8, hx8, H⟩ := Y0d H
 refine Y0f rfl (.cons (.pur rfl) (.cons (.pur rfl) .nil)) (f_R11_SameRows_ok hx8) (Y3 2 [68, 67, 66, 7] [(68, slA Y2 v4), (67, slA Y2 x2), (66, .bool x8), (7, .bool x1)] ?_)
 have ⟨x9, hx9, H⟩ := Y0d H
 refine Y0f rfl (.cons (.pur rfl) (.cons (.pur rfl) .nil)) (f_R11_Same_ok hx9) (Yb 5 [6] [(6, .bool (cond (x8 == x9) x1 false))] ⟨(fun h => by first | exact h | (simpa using h) | grind), trivial⟩ (Y1 ?_))
 obtain rfl := X5 H
 refine AW.recast (env' := [(6, .bool (cond (x8 == x9) x1 false))]) (h' := []) (StC.pure (.cons .im .nil)) (Yk ?_)
 try simp only [Ex.t, Ex.b]
 exact Done.eq rfl (.tmp .nil)
end Go.Proofs.YtioockkejhpleaaDoor
