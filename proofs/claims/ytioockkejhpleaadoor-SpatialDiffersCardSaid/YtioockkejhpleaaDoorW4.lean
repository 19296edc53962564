/- Own work. -/
import Derived.Test.YtioockkejhpleaaDoorW3
set_option linter.unusedSimpArgs false
set_option linter.unusedVariables false
set_option maxRecDepth 100000
namespace Go.Proofs.YtioockkejhpleaaDoor
open Go.Abs
def Y3q (t0 : List Y4) : Option ((List Int) × Int) :=
 (Y0t t0).bind fun x1 =>
 cond (!x1) (
  some ([], (90 : Int))) (
  (Y52).bind fun x3 =>
  (Y3x (⟨t0, (0 : Int), ([] : List Int), ([] : List Int), ()⟩ : Y5)).bind fun x4 =>
  some (x4.cells_, (0 : Int)))
section
variable (x4 : Y5)
abbrev Z6r : Hp := [(5040, rtA 0 41 1 (eI .u8) ([] : List Int)), (5041, rtA 0 41 1 (eI .u8) ([] : List Int))]
abbrev Z6s : Hp := [(5040, rtA 1 41 1 (eI .u8) x4.level_), (5041, rtA 1 41 1 (eI .u8) x4.cells_)]
end
theorem f_linear_Write_ok  {t0 : List Y4} {r : (List Int) × Int} (H : Y3q t0 = some r) : QSpec Tryd.prog 43 [slA Y2 t0] (.tup [slA (eI .u8) r.1, .int .i64 r.2]) := by
 refine Yh Tryd.func43 rfl (by simp [Tryd.ntmps43]) ?_
 rw [Tryd.ntmps43]
 unfold Y3q at H
 change AW _ _ _ [(0, slA Y2 t0)] [] _
 refine Y0 (Y3 2 [0] [(0, slA Y2 t0)] ?_)
 refine Y1 (Ys (Y0 (Y3 1 [5, 0] [(5, slA Y2 t0), (0, slA Y2 t0)] ?_)))
 have ⟨x1, hx1, H⟩ := Y0d H
 refine Y0f rfl (.cons (.pur rfl) .nil) (Y4q hx1) (Y3 1 [7, 0] [(7, .bool (!x1)), (0, slA Y2 t0)] (Y1 (Y6 (b := !x1) H rfl (fun c2 H => ?_) (fun c2 H => ?_))))
 ·refine Y0 (Y3 2 [3, 2] [(3, .j (90 : Int)), (2, .im (.val (.slice none 0 0)))] ?_)
  refine Y1 ?_
  obtain rfl := X5 H
  refine AW.recast (env' := [(2, sU []), (3, .j (90 : Int))]) (h' := []) (StC.pure (.cons .nil (.cons .im .nil))) (Yk ?_)
  try simp only [Ex.t, Ex.b]
  exact Done.eq rfl (.tmp (.tmp .nil))
 refine Ya (Y0 (Y3 1 [8] [(8, slA Y2 t0)] ?_))
 have ⟨x3, hx3, H⟩ := Y0d H
 refine Y0f rfl .nil (f_linear_brackets_ok hx3) (Y3 1 [10] [(10, .agg [slA Y2 t0, .j (0 : Int), .im (.val (.slice none 0 0)), .im (.val (.slice none 0 0)), .im (.mp (mapV Y8))])] (OpsW.alloc' rfl rfl rfl 4 rfl (by kernel_rfl : zc Tryd.prog 104 = some [.slice none 0 0, .j 0, .slice none 0 0, .slice none 0 0, .map none]) (by kernel_rfl) (OpsW.store rfl rfl rfl rfl trivial trivial rfl rfl rfl (by kernel_rfl) (Yx (by kernel_rfl)) (X00 (by kernel_rfl)) ?_)))
 change OpsW _ _ _ _ _ [(4, ⟨0, true, 104, 5, [slA Y2 t0, .j (0 : Int), .im (.val (.slice none 0 0)), .im (.val (.slice none 0 0)), .im (.mp (mapV Y8))]⟩), (4, ⟨0, true, 104, 5, [.im (.val (.slice none 0 0)), .j (0 : Int), .im (.val (.slice none 0 0)), .im (.val (.slice none 0 0)), .im (.val (.map none))]⟩)] _
 refine Y3 0 [4] [(4, .ref 4 0 0)] (OpsW.rc [(4, .ref 4 0 0)] [(4, ⟨0, true, 104, 5, [slA Y2 t0, .j (0 : Int), .im (.val (.slice none 0 0)), .im (.val (.slice none 0 0)), .im (.mp (mapV Y8))]⟩)] (StC.mk (phi [(4, some 4)]) (.o rfl (.i5 .nil) .nil) rfl (.cons (.r rfl) .nil)) ?_)
 refine Y1 (Y0 (OpsW.rc [(4, .ref 4 0 0)] ((4, ⟨0, true, 104, 5, [slA Y2 t0, .j (0 : Int), .rsl 5040 0 0 0, .rsl 5041 0 0 0, .im (.mp (mapV Y8))]⟩) :: Z6r) (StC.mk (phi [(4, some 4), (5040, none), (5041, none)]) (.o rfl (.i2 (.cons (.nilr rfl rfl rfl) (.cons (.nilr rfl rfl rfl) (.cons .im .nil)))) (.new rfl (.new rfl .nil))) rfl (.cons (.r rfl) .nil)) ?_))
 have ⟨x4, hx4, H⟩ := Y0d H
 change OpsW _ _ _ _ [(4, .ref 4 0 0)] (((4, ⟨0, true, 104, 5, [slA Y2 t0, .j (0 : Int), .rsl 5040 0 0 0, .rsl 5041 0 0 0, .im (.mp (mapV Y8))]⟩) :: Z6r) ++ []) _
 refine OpsW.callR ((4, ⟨0, true, 104, 5, [slA Y2 t0, .j (0 : Int), .rsl 5040 0 0 0, .rsl 5041 0 0 0, .im (.mp (mapV Y8))]⟩) :: Z6r) [] [(2000, ⟨0, true, 104, 5, [slA Y2 t0, .j (0 : Int), .rsl 3000 0 0 0, .rsl 3001 0 0 0, .im (.mp (mapV Y8))]⟩), (3000, rtA 0 41 1 (eI .u8) ([] : List Int)), (3001, rtA 0 41 1 (eI .u8) ([] : List Int))] (phi [(2000, some 4), (3000, some 5040), (3001, some 5041)]) rfl rfl (by kernel_rfl) [.ref 2000 0 0] _ rfl (Yc trivial) (.cons (.r rfl) .nil) (f_linear_writer_node_io hx4) (Yr (by kernel_rfl)) (by kernel_rfl) (.cons rfl rfl rfl rfl rfl (.i2 (.cons (.s rfl) (.cons (.s rfl) (.cons .im .nil)))) (.cons rfl rfl rfl rfl rfl (RnL.ims _) (.cons rfl rfl rfl rfl rfl (RnL.ims _) .nil))) ?_
 rintro _ _ ⟨rfl, rfl⟩
 refine ⟨.tup [], ((4, ⟨0, true, 104, 5, [slA Y2 x4.f_, .j x4.at_, .rsl 5040 1 0 x4.level_.length, .rsl 5041 1 0 x4.cells_.length, .im (.mp (mapV Y8))]⟩) :: (Z6s x4)), phi [(4, some 2000), (5040, some 3000), (5041, some 3001)], Yr (by kernel_rfl), by kernel_rfl, by kernel_rfl, (.cons rfl rfl rfl rfl rfl (.i2 (.cons (.s rfl) (.cons (.s rfl) (.cons .im .nil)))) (.cons rfl rfl rfl rfl rfl (RnL.ims _) (.cons rfl rfl rfl rfl rfl (RnL.ims _) .nil))), (.tup .nil .nil), ?_⟩
 change OpsW _ _ _ _ [(11, .tup []), (4, .ref 4 0 0)] ((4, ⟨0, true, 104, 5, [slA Y2 x4.f_, .j x4.at_, .rsl 5040 1 0 x4.level_.length, .rsl 5041 1 0 x4.cells_.length, .im (.mp (mapV Y8))]⟩) :: (Z6s x4)) _
 refine Y3 0 [4] [(4, .ref 4 0 0)] (OpsW.rc [(4, .ref 4 0 0)] [(4, ⟨0, true, 104, 5, [slA Y2 x4.f_, .j x4.at_, .rsl 5040 0 0 x4.level_.length, .rsl 5041 0 0 x4.cells_.length, .im (.mp (mapV Y8))]⟩), (5040, rtA 0 41 1 (eI .u8) x4.level_), (5041, rtA 0 41 1 (eI .u8) x4.cells_)] (StC.mk (phi [(4, some 4), (5040, some 5040), (5041, some 5041)]) (.o rfl (.i2 (.cons (.s rfl) (.cons (.s rfl) (.cons .im .nil)))) (.o rfl (CstL.ims _) (.o rfl (CstL.ims _) .nil))) rfl (.cons (.r rfl) .nil)) ?_)
 refine Y1 (Y0 (Y3 4 [3, 2] [(3, .j (0 : Int)), (2, .rsl 5041 0 0 x4.cells_.length)] ?_))
 refine OpsW.rc [(3, .j (0 : Int)), (2, sU x4.cells_)] [] (StC.mk (phi []) .nil rfl (.cons .im (.cons (.frz rfl rfl rfl (frz_all (eI .u8) 1 (fun _ => rfl) x4.cells_) (Y05 (eI .u8) 1 (fun _ => rfl) x4.cells_) (phi_ne rfl)) .nil))) (Y1 ?_)
 obtain rfl := X5 H
 refine AW.recast (env' := [(2, sU x4.cells_), (3, .j (0 : Int))]) (h' := []) (StC.pure (.i2 .nil)) (Yk ?_)
 try simp only [Ex.t, Ex.b]
 exact Done.eq rfl (.tmp (.tmp .nil))
def Y22 (t0 : List Y4) (x1 : List Int) (loop4 : ((List (List Int)) × Int) → Option ((List (List Int)) × Bool)) (v2 : List (List Int)) (v3 : Int) : Option ((List (List Int)) × Bool) :=
 cond (decide (v3 < (x1.length : Int))) (
  G (0 ≤ v3 ∧ v3 < (x1.length : Int)) <|
  (f_formula_End t0 (x1.getD v3.toNat 0)).bind fun x7 =>
  G (0 ≤ x7 ∧ x7 ≤ (t0.length : Int)) <|
  G (0 ≤ (x1.getD v3.toNat 0) ∧ (x1.getD v3.toNat 0) ≤ (x7.toNat : Int)) <|
  (Y3q ((t0.drop ((x1.getD v3.toNat 0).toNat)).take (x7.toNat - (x1.getD v3.toNat 0).toNat))).bind fun x10 =>
  cond (x10.2 != 0) (
   some ([], false)) (
   G (room 24 (v2.length + 1)) <|
   G (inR (v3 + 1)) <|
   loop4 (v2 ++ [x10.1], v3 + 1))) (
  some (v2, true))
def Y4t (t0 : List Y4) : Option ((List (List Int)) × Bool) :=
 (Y3n t0 (0 : Int)).bind fun x1 =>
 iter (fun loop (s : (List (List Int)) × Int) => Y22 t0 x1 loop s.1 s.2) 1000000 ([], (0 : Int))
section
variable (t0 : List Y4) (v2 : List (List Int)) (v3 : Int) (x1 : List Int)
abbrev Z6w : Nat × AV := (11, .j (x1.length : Int))
abbrev Z6t : Env := [(0, slA Y2 t0), (4, .rsl 4 0 0 v2.length), (10, slA (eI .i64) x1), (Z6w x1), (12, .j v3)]
abbrev Z6u : Env := [(4, .im (.val (.slice none 0 0))), (0, slA Y2 t0)]
abbrev Z6v : Env := [(0, slA Y2 t0), (10, slA (eI .i64) x1), (Z6w x1), (12, .j v3)]
end
theorem f_spatial_cells_ok  {t0 : List Y4} {r : (List (List Int)) × Bool} (H : Y4t t0 = some r) : QSpec Tryd.prog 25 [slA Y2 t0] (.tup [slA (eL (eI .u8)) r.1, .bool r.2]) := by
 refine Yh Tryd.func25 rfl (by simp [Tryd.ntmps25]) ?_
 rw [Tryd.ntmps25]
 unfold Y4t at H
 change AW _ _ _ [(0, slA Y2 t0)] [] _
 refine Y0 (Y3 2 [0] [(0, slA Y2 t0)] ?_)
 refine Y1 (Y0 (Y3 1 [4, 0] (Z6u t0) ?_))
 refine Y1 (Ys (Y0 (Y3 1 [9, 4, 0] ((9, slA Y2 t0) :: (Z6u t0)) ?_)))
 have ⟨x1, hx1, H⟩ := Y0d H
 refine Y0f rfl (.cons (.pur rfl) (.cons (.pur rfl) .nil)) (f_formula_Operands_ok hx1) (Y3 2 [12, 11, 10, 4, 0] ((12, .j (0 : Int)) :: (Z6w x1) :: (10, slA (eI .i64) x1) :: (Z6u t0)) ?_)
 refine Y1 (Yp ?_)
 refine Y25 (fun loop (s : (List (List Int)) × Int) => Y22 t0 x1 loop s.1 s.2) r (fun (s : (List (List Int)) × Int) => [(0, slA Y2 t0), (4, .rsl 4 0 0 s.1.length), (10, slA (eI .i64) x1), (Z6w x1), (12, .j s.2)]) (fun (s : (List (List Int)) × Int) => [(4, rtA 0 39 1 (eL (eI .u8)) s.1)]) ?_ 1000000 ([], (0 : Int)) H (StC.mk (phi [(4, none)]) (.new rfl .nil) rfl (.cons .im (.cons (.nilr rfl rfl rfl) (.i3 .nil))))
 intro loop4 s H
 obtain ⟨v2, v3⟩ := s
 unfold Y22 at H
 change AW _ _ _ (Z6t t0 v2 v3 x1) [(4, rtA 0 39 1 (eL (eI .u8)) v2)] _
 refine Y0 (Y3 1 [13, 0, 4, 10, 11, 12] ((13, .bool (decide (v3 < (x1.length : Int)))) :: (Z6t t0 v2 v3 x1)) ?_)
 refine Y1 (Ys (Y6 (b := decide (v3 < (x1.length : Int))) H rfl (fun c5 H => ?_) (fun c5 H => ?_)))
 ·refine Ya (Ys (Yp (Y0 ?_)))
  have ⟨g6, H⟩ := Ye H
  refine Yb 1 [14, 0, 4, 10, 11, 12] ((14, .ipt (x1.flatMap (eI .i64)) (v3.toNat * 1)) :: (Z6t t0 v2 v3 x1)) ⟨g6, trivial⟩ (OpsW.asU (.j (x1.getD v3.toNat 0)) rfl rfl (T.load rfl trivial (by kernel_rfl) (Y2l (eI .i64) 1 (fun _ => rfl) x1 (0 : Int) v3.toNat (ltN g6) (fun a => .val (.j a)) (fun _ => rfl))) (Y3 1 [6, 0, 4, 10, 11, 12] ((6, .j (x1.getD v3.toNat 0)) :: (Z6t t0 v2 v3 x1)) ?_))
  refine Y1 (Y0 (Y3 4 [20, 19, 18, 17, 0, 4, 10, 11, 12] ((20, .j (x1.getD v3.toNat 0)) :: (19, slA Y2 t0) :: (18, .j (x1.getD v3.toNat 0)) :: (17, slA Y2 t0) :: (Z6t t0 v2 v3 x1)) ?_))
  have ⟨x7, hx7, H⟩ := Y0d H
  refine Y0f rfl (.cons (.pur rfl) (.cons (.pur rfl) .nil)) (f_formula_End_ok hx7) ?_
  have ⟨g8, H⟩ := Ye H
  have ⟨g9, H⟩ := Ye H
  refine OpsW.asU (slA Y2 ((t0.drop ((x1.getD v3.toNat 0).toNat)).take (x7.toNat - (x1.getD v3.toNat 0).toNat))) rfl rfl (T.slice' rfl trivial trivial trivial (by kernel_rfl) (by kernel_rfl) g8 g9 (sl_both Y2 2 (fun _ => rfl) t0 (x1.getD v3.toNat 0) x7 g8 g9)) ?_
  have ⟨x10, hx10, H⟩ := Y0d H
  refine Y0f rfl (.cons (.pur rfl) .nil) (f_linear_Write_ok hx10) (Y3 5 [8, 7, 0, 4, 10, 11, 12] ((8, .j x10.2) :: (7, sU x10.1) :: (Z6t t0 v2 v3 x1)) ?_)
  refine Y1 (Ys (Y0 (Y3 2 [27, 7, 0, 4, 10, 11, 12] ((27, .bool (x10.2 != 0)) :: (7, sU x10.1) :: (Z6t t0 v2 v3 x1)) ?_)))
  refine Y1 (Y6 (b := x10.2 != 0) H rfl (fun c11 H => ?_) (fun c11 H => ?_))
  ·refine Y0 (Y3 2 [3, 2] [(3, .bool false), (2, .im (.val (.slice none 0 0)))] ?_)
   refine Y1 ?_
   obtain rfl := X5 H
   refine AW.recast (env' := [(2, sC []), (3, .bool false)]) (h' := []) (StC.pure (.cons .nil (.cons .im .nil))) (Yk ?_)
   try simp only [Ex.t, Ex.b]
   exact Done.eq rfl (.tmp (.tmp .nil))
  refine Ya (Yd (Y3 2 [29, 28, 0, 4, 10, 11, 12] ((29, sU x10.1) :: (28, .rsl 4 0 0 v2.length) :: (Z6t t0 v2 v3 x1)) ?_))
  have ⟨g12, H⟩ := Ye H
  refine Y2r (enc := eL (eI .u8)) [x10.1] rfl rfl rfl (by decide) rfl rfl rfl (by simp) E30 (fun _ => rfl) (by decide) trivial (by kernel_rfl) (by kernel_rfl) (by kernel_rfl) rfl rfl rfl g12 (Y3 1 [4, 0, 10, 11, 12] ((4, .rsl 4 1 0 ((v2 ++ [x10.1]).length)) :: (Z6v t0 v3 x1)) (OpsW.rc ((4, .rsl 4 0 0 ((v2 ++ [x10.1]).length)) :: (Z6v t0 v3 x1)) [(4, rtA 0 39 1 (eL (eI .u8)) (v2 ++ [x10.1]))] (StC.mk (phi [(4, some 4)]) (.o rfl (CstL.ims _) .nil) rfl (.cons (.s rfl) (.i4 .nil))) ?_))
  refine Y1 (Yd ?_)
  have ⟨g13, H⟩ := Ye H
  refine Yb 2 [12, 4, 0, 10, 11] [(12, .j (v3 + 1)), (4, .rsl 4 0 0 ((v2 ++ [x10.1]).length)), (0, slA Y2 t0), (10, slA (eI .i64) x1), (Z6w x1)] ⟨g13, trivial⟩ (Y1 ?_)
  exact ⟨(v2 ++ [x10.1], v3 + 1), H, (StC.mk (phi [(4, some 4)]) (.o rfl (CstL.ims _) .nil) rfl (.cons .im (.cons (.s rfl) (.i3 .nil))))⟩
 refine AW.exit ?_
 refine Y0 (Y3 3 [3, 2] [(3, .bool true), (2, .rsl 4 0 0 v2.length)] ?_)
 refine OpsW.rc [(3, .bool true), (2, sC v2)] [] (StC.mk (phi []) .nil rfl (.cons .im (.cons (.frz rfl rfl rfl (frz_all (eL (eI .u8)) 1 (fun _ => rfl) v2) (Y05 (eL (eI .u8)) 1 (fun _ => rfl) v2) (phi_ne rfl)) .nil))) (Y1 ?_)
 obtain rfl := X5 H
 refine AW.recast (env' := [(2, sC v2), (3, .bool true)]) (h' := []) (StC.pure (.i2 .nil)) (Yk ?_)
 try simp only [Ex.t, Ex.b]
 exact Done.eq rfl (.tmp (.tmp .nil))
def Y3l (g : Nat) (a0 : Y4) (a1 : List (List Int)) : Option (List (List Int)) := bif Nat.beq g 36 then Y3i a0 a1 else bif Nat.beq g 38 then Y2b a0 a1 else bif Nat.beq g 40 then Y37 a0 a1 else none
theorem f_spatial_Lay_disp_ok {g : Nat} {a0 : Y4} {a1 : List (List Int)} {r : List (List Int)} (H : Y3l g a0 a1 = some r) : Y32 Tryd.prog g = true ∧ QSpec Tryd.prog g [.agg [.int .i64 a0.Op, .int .i64 a0.N], slA (eL (eI .u8)) a1] (slA (eL (eI .u8)) r) := by
 unfold Y3l at H
 refine disp_step H (fun e H => ?_) (fun H => ?_)
 ·subst e; exact ⟨by kernel_rfl, f_spatial_laySum_ok H⟩
 refine disp_step H (fun e H => ?_) (fun H => ?_)
 ·subst e; exact ⟨by kernel_rfl, f_spatial_layMatrix_ok H⟩
 refine disp_step H (fun e H => ?_) (fun H => ?_)
 ·subst e; exact ⟨by kernel_rfl, f_spatial_layFrac_ok H⟩
 cases H
def Y4f  : Option ((List (List Int)) × Int) :=
 some ([], (110 : Int))
def Y1d (t0 : List Y4) (x3 : List S_form) (loop5 : (Int) → Option ((List (List Int)) × Int)) (v4 : Int) : Option ((List (List Int)) × Int) :=
 cond (decide (v4 < (x3.length : Int))) (
  G (0 ≤ v4 ∧ v4 < (x3.length : Int)) <|
  G (0 ≤ (0 : Int) ∧ (0 : Int) < (t0.length : Int)) <|
  cond (((x3.getD v4.toNat zS_form).op_) != ((t0.getD (0 : Int).toNat Y7).Op)) (
   G (inR (v4 + 1)) <|
   loop5 (v4 + 1)) (
   (Y4t t0).bind fun x11 =>
   cond (!x11.2) (
    Y4f) (
    (Y3l ((x3.getD v4.toNat zS_form).lay_) (t0.getD (0 : Int).toNat Y7) x11.1).bind fun x13 =>
    G (0 ≤ (0 : Int) ∧ (0 : Int) < (x13.length : Int)) <|
    cond (decide (24 < ((x13.getD (0 : Int).toNat []).length : Int))) (
     Y4f) (
     some (x13, (0 : Int)))))) (
  Y4f)
def Y2m (t0 : List Y4) : Option ((List (List Int)) × Int) :=
 (Y0t t0).bind fun x1 =>
 cond (!x1) (
  some ([], (90 : Int))) (
  (f_spatial_forms).bind fun x3 =>
  iter (fun loop (s : Int) => Y1d t0 x3 loop s) 1000000 (0 : Int))
section
variable (t0 : List Y4) (v4 : Int) (x3 : List S_form) (x11 : ((List (List Int)) × Bool))
abbrev Z70 := (t0.getD (0 : Int).toNat Y7)
abbrev Z71 := x3.getD v4.toNat zS_form
abbrev Z72 : Nat × AV := (0, slA Y2 t0)
abbrev Z73 : Nat × AV := (35, .ipt (t0.flatMap Y2) ((0 : Int).toNat * 2))
abbrev Z6x : Env := [(Z72 t0), (12, slA eS_form x3), (13, .j (x3.length : Int)), (14, .j v4)]
abbrev Z6y : Env := (22, .ipt (t0.flatMap Y2) ((0 : Int).toNat * 2 + 0)) :: (21, .ipt (t0.flatMap Y2) ((0 : Int).toNat * 2)) :: (20, slA Y2 t0) :: (19, .j ((Z71 v4 x3).op_)) :: (18, .ref 5 0 1) :: (5, .ref 5 0 0) :: (Z6x t0 v4 x3)
abbrev Z6z : Env := [(31, .bool (!x11.2)), (6, sC x11.1), (5, .ref 5 0 0), (Z72 t0)]
end
theorem f_spatial_Lay_ok  {t0 : List Y4} {r : (List (List Int)) × Int} (H : Y2m t0 = some r) : QSpec Tryd.prog 9 [slA Y2 t0] (.tup [slA (eL (eI .u8)) r.1, .int .i64 r.2]) := by
 refine Yh Tryd.func9 rfl (by simp [Tryd.ntmps9]) ?_
 rw [Tryd.ntmps9]
 unfold Y2m at H
 change AW _ _ _ [(Z72 t0)] [] _
 refine Y0 (Y3 2 [0] [(Z72 t0)] ?_)
 refine Y1 (Ys (Y0 (Y3 1 [9, 0] [(9, slA Y2 t0), (Z72 t0)] ?_)))
 have ⟨x1, hx1, H⟩ := Y0d H
 refine Y0f rfl (.cons (.pur rfl) .nil) (Y4q hx1) (Y3 1 [11, 0] [(11, .bool (!x1)), (Z72 t0)] (Y1 (Y6 (b := !x1) H rfl (fun c2 H => ?_) (fun c2 H => ?_))))
 ·refine Y0 (Y3 2 [3, 2] [(3, .j (90 : Int)), (2, .im (.val (.slice none 0 0)))] ?_)
  refine Y1 ?_
  obtain rfl := X5 H
  refine AW.recast (env' := [(2, sC []), (3, .j (90 : Int))]) (h' := []) (StC.pure (.cons .nil (.cons .im .nil))) (Yk ?_)
  try simp only [Ex.t, Ex.b]
  exact Done.eq rfl (.tmp (.tmp .nil))
 refine Ya ?_
 refine Y0w (fun (y : Unit) => Y4f) r (fun (y : Unit) => []) (fun (y : Unit) => []) ?_ ?_
 ·refine Y0 ?_
  have ⟨x3, hx3, H⟩ := Y0d H
  refine Y0f rfl .nil (f_spatial_forms_ok hx3) (Y3 2 [14, 13, 12, 0] [(14, .j (0 : Int)), (13, .j (x3.length : Int)), (12, slA eS_form x3), (Z72 t0)] ?_)
  refine Y1 (Yp ?_)
  refine Y25 (fun loop (s : Int) => Y1d t0 x3 loop s) r (fun (s : Int) => [(Z72 t0), (12, slA eS_form x3), (13, .j (x3.length : Int)), (14, .j s)]) (fun (s : Int) => []) ?_ 1000000 (0 : Int) H (StC.pure (.i4 .nil))
  intro loop5 v4 H
  unfold Y1d at H
  change AW _ _ _ (Z6x t0 v4 x3) [] _
  refine Y0 (Y3 1 [15, 0, 12, 13, 14] ((15, .bool (decide (v4 < (x3.length : Int)))) :: (Z6x t0 v4 x3)) ?_)
  refine Y1 (Ys (Y6 (b := decide (v4 < (x3.length : Int))) H rfl (fun c6 H => ?_) (fun c6 H => ?_)))
  ·refine Ya (Ys (Yp (Y0 ?_)))
   have ⟨g7, H⟩ := Ye H
   refine Yb 1 [16, 0, 12, 13, 14] ((16, .ipt (x3.flatMap eS_form) (v4.toNat * 4)) :: (Z6x t0 v4 x3)) ⟨g7, trivial⟩ (OpsW.asU (.agg [.int .u8 ((Z71 v4 x3).first_), .j ((Z71 v4 x3).op_), .im (.val (.func (.func ((Z71 v4 x3).lay_)) #[] #[])), .im (.val (.func (.func ((Z71 v4 x3).read_)) #[] #[]))]) rfl rfl (Y44 (cs := x3.flatMap eS_form) (off := v4.toNat * 4) (ds := eS_form (Z71 v4 x3)) rfl trivial (by kernel_rfl) (by have := Y05 eS_form 4 (fun _ => rfl) x3; have := (ltN g7); first | omega | (simp only [Z71] at *; omega)) (fm_elem eS_form 4 (fun _ => rfl) x3 zS_form v4.toNat (ltN g7))) (OpsW.alloc' rfl rfl rfl 5 rfl (by kernel_rfl : zc Tryd.prog 60 = some [.int .u8 0, .j 0, .nilFunc, .nilFunc]) (by kernel_rfl) (OpsW.store rfl rfl rfl rfl trivial trivial rfl rfl rfl (by kernel_rfl) (Yx (by kernel_rfl)) (X00 (by kernel_rfl)) ?_)))
   change OpsW _ _ _ _ _ [(5, ⟨0, true, 60, 4, [.int .u8 ((Z71 v4 x3).first_), .j ((Z71 v4 x3).op_), .im (.val (.func (.func ((Z71 v4 x3).lay_)) #[] #[])), .im (.val (.func (.func ((Z71 v4 x3).read_)) #[] #[]))]⟩), (5, ⟨0, true, 60, 4, [.int .u8 0, .j (0 : Int), .im (.val .nilFunc), .im (.val .nilFunc)]⟩)] _
   refine Y3 0 [5, 0, 12, 13, 14] ((5, .ref 5 0 0) :: (Z6x t0 v4 x3)) (OpsW.rc ((5, .ref 5 0 0) :: (Z6x t0 v4 x3)) [(5, ⟨0, true, 60, 4, [.int .u8 ((Z71 v4 x3).first_), .j ((Z71 v4 x3).op_), .im (.val (.func (.func ((Z71 v4 x3).lay_)) #[] #[])), .im (.val (.func (.func ((Z71 v4 x3).read_)) #[] #[]))]⟩)] (StC.mk (phi [(5, some 5)]) (.o rfl (.i4 .nil) .nil) rfl (.cons (.r rfl) (.i4 .nil))) ?_)
   refine Y1 (Ys (Y1j Tryd.checked.mixed (by kernel_rfl) ?_))
   have ⟨g8, H⟩ := Ye H
   refine QOps.sz (N := 46) 5 (Z6y t0 v4 x3) ⟨g8, trivial⟩ (QOps.asU (.j ((Z70 t0).Op)) rfl (T.load rfl trivial (by kernel_rfl) (fm_cell Y2 2 (fun _ => rfl) t0 Y7 (0 : Int).toNat (ltN g8) 0 (fun a => .val (.j a.Op)) (fun _ => rfl))) (QOps.sz (N := 46) 1 ((24, .bool (((Z71 v4 x3).op_) != ((Z70 t0).Op))) :: (23, .j ((Z70 t0).Op)) :: (Z6y t0 v4 x3)) trivial ?_))
   refine QOps.nil (AW.trim [24, 5, 0, 12, 13, 14] ((24, .bool (((Z71 v4 x3).op_) != ((Z70 t0).Op))) :: (5, .ref 5 0 0) :: (Z6x t0 v4 x3)) (by kernel_rfl) ?_)
   refine Y6 (b := ((Z71 v4 x3).op_) != ((Z70 t0).Op)) H rfl (fun c9 H => ?_) (fun c9 H => ?_)
   ·refine AW.exit ?_
    refine Yd ?_
    have ⟨g10, H⟩ := Ye H
    refine Yb 2 [14, 0, 12, 13] [(14, .j (v4 + 1)), (Z72 t0), (12, slA eS_form x3), (13, .j (x3.length : Int))] ⟨g10, trivial⟩ (Y1 ?_)
    exact ⟨v4 + 1, H, (StC.pure (.i4 .nil))⟩
   refine Ya (Y0 (Y3 1 [26, 5, 0] [(26, slA Y2 t0), (5, .ref 5 0 0), (Z72 t0)] ?_))
   have ⟨x11, hx11, H⟩ := Y0d H
   refine Y0f rfl (.cons (.pur rfl) .nil) (f_spatial_cells_ok hx11) (Y3 5 [7, 6, 5, 0] [(7, .bool x11.2), (6, sC x11.1), (5, .ref 5 0 0), (Z72 t0)] ?_)
   refine Y1 (Ys (Y0 (Y3 2 [31, 6, 5, 0] (Z6z t0 x11) ?_)))
   refine Y1 (Y6 (b := !x11.2) H rfl (fun c12 H => ?_) (fun c12 H => ?_))
   ·refine AW.exit ?_
    exact ⟨(), H, (StC.pure .nil)⟩
   refine Ya (Y1j Tryd.checked.mixed (by kernel_rfl) ?_)
   refine QOps.sz (N := 46) 4 ((Z73 t0) :: (34, slA Y2 t0) :: (33, .im (.val (.func (.func ((Z71 v4 x3).lay_)) #[] #[]))) :: (32, .ref 5 0 2) :: (Z6z t0 x11)) ⟨g8, trivial⟩ (QOps.asU (.agg [.j ((Z70 t0).Op), .j ((Z70 t0).N)]) rfl (Y44 (cs := t0.flatMap Y2) (off := (0 : Int).toNat * 2) (ds := Y2 (Z70 t0)) rfl trivial (by kernel_rfl) (by have := Y05 Y2 2 (fun _ => rfl) t0; have := (ltN g8); first | omega | (simp only [Z70, Z71] at *; omega)) (fm_elem Y2 2 (fun _ => rfl) t0 Y7 (0 : Int).toNat (ltN g8))) (QOps.sz (N := 46) 1 ((37, sC x11.1) :: (36, .agg [.j ((Z70 t0).Op), .j ((Z70 t0).N)]) :: (Z73 t0) :: (34, slA Y2 t0) :: (33, .im (.val (.func (.func ((Z71 v4 x3).lay_)) #[] #[]))) :: (32, .ref 5 0 2) :: (Z6z t0 x11)) trivial ?_))
   have ⟨x13, hx13, H⟩ := Y0d H
   refine QOps.qcallV rfl rfl rfl (Yc trivial) (.cons (.pur rfl) (.cons (.pur rfl) .nil)) (f_spatial_Lay_disp_ok hx13) rfl (QOps.sz (N := 46) 1 ((8, sC x13) :: (38, sC x13) :: (37, sC x11.1) :: (36, .agg [.j ((Z70 t0).Op), .j ((Z70 t0).N)]) :: (Z73 t0) :: (34, slA Y2 t0) :: (33, .im (.val (.func (.func ((Z71 v4 x3).lay_)) #[] #[]))) :: (32, .ref 5 0 2) :: (Z6z t0 x11)) trivial ?_)
   refine QOps.nil (AW.trim [8] [(8, sC x13)] (by kernel_rfl) ?_)
   refine Ys (Y0 ?_)
   have ⟨g14, H⟩ := Ye H
   refine Yb 2 [40, 8] [(40, .ipt (x13.flatMap (eL (eI .u8))) ((0 : Int).toNat * 1)), (8, sC x13)] ⟨g14, trivial⟩ (OpsW.asU (sU (x13.getD (0 : Int).toNat [])) rfl rfl (T.load rfl trivial (by kernel_rfl) (Y2l (eL (eI .u8)) 1 (fun _ => rfl) x13 [] (0 : Int).toNat (ltN g14) (fun a => .sl (a.flatMap (eI .u8)) a.length) (fun _ => rfl))) (Y3 2 [43, 8] [(43, .bool (decide (24 < ((x13.getD (0 : Int).toNat []).length : Int)))), (8, sC x13)] (Y1 (Y6 (b := decide (24 < ((x13.getD (0 : Int).toNat []).length : Int))) H rfl (fun c15 H => ?_) (fun c15 H => ?_)))))
   ·refine AW.exit ?_
    exact ⟨(), H, (StC.pure .nil)⟩
   refine Ya (Y0 (Y3 3 [3, 2] [(3, .j (0 : Int)), (2, sC x13)] ?_))
   refine Y1 ?_
   obtain rfl := X5 H
   refine AW.recast (env' := [(2, sC x13), (3, .j (0 : Int))]) (h' := []) (StC.pure (.i2 .nil)) (Yk ?_)
   try simp only [Ex.t, Ex.b]
   exact Done.eq rfl (.tmp (.tmp .nil))
  refine AW.exit ?_
  exact ⟨(), H, (StC.pure .nil)⟩
 rintro ⟨⟩ H
 unfold Y4f at H
 change AW _ _ _ [] [] _
 refine Y0 (Y3 2 [3, 2] [(3, .j (110 : Int)), (2, .im (.val (.slice none 0 0)))] ?_)
 refine Y1 ?_
 obtain rfl := X5 H
 refine AW.recast (env' := [(2, sC []), (3, .j (110 : Int))]) (h' := []) (StC.pure (.cons .nil (.cons .im .nil))) (Yk ?_)
 try simp only [Ex.t, Ex.b]
 exact Done.eq rfl (.tmp (.tmp .nil))
def Y53 (t0 : List Int) (loop2 : (Int) → Option (List Int)) (v1 : Int) : Option (List Int) :=
 G ((decide (0 < v1)) = true → inR (v1 - 1)) <|
 G ((decide (0 < v1)) = true → (0 ≤ (v1 - 1) ∧ (v1 - 1) < (t0.length : Int))) <|
 cond (cond (decide (0 < v1)) ((t0.getD (v1 - 1).toNat (0 : Int)) == 0) false) (
  G (inR (v1 - 1)) <|
  loop2 (v1 - 1)) (
  G (0 ≤ v1 ∧ v1 ≤ (t0.length : Int)) <|
  some (t0.take v1.toNat))
def f_R11_Trim (t0 : List Int) : Option (List Int) :=
 iter (fun loop (s : Int) => Y53 t0 loop s) 1000000 (t0.length : Int)
theorem f_R11_Trim_ok  {t0 : List Int} {r : List Int} (H : f_R11_Trim t0 = some r) : QSpec Tryd.prog 14 [slA (eI .u8) t0] (slA (eI .u8) r) := by
 refine Yh Tryd.func14 rfl (by simp [Tryd.ntmps14]) ?_
 rw [Tryd.ntmps14]
 unfold f_R11_Trim at H
 change AW _ _ _ [(0, sU t0)] [] _
 refine Y0 (Y3 1 [0] [(0, sU t0)] ?_)
 refine Y1 (Y0 (Y3 3 [3, 0] [(3, .j (t0.length : Int)), (0, sU t0)] ?_))
 refine Y1 (Ys (Yp ?_))
 refine Y25 (fun loop (s : Int) => Y53 t0 loop s) r (fun (s : Int) => [(0, sU t0), (3, .j s)]) (fun (s : Int) => []) ?_ 1000000 (t0.length : Int) H (StC.pure (.i2 .nil))
 intro loop2 v1 H
 unfold Y53 at H
 change AW _ _ _ [(0, sU t0), (3, .j v1)] [] _
 refine Ys (Y0 ?_)
 have ⟨g3, H⟩ := Ye H
 have ⟨g4, H⟩ := Ye H
 refine Yb 7 [12, 8, 0, 3] [(12, .cnd (decide (0 < v1)) (.ipt (t0.flatMap (eI .u8)) ((v1 - 1).toNat * 1))), (8, .bool (decide (0 < v1))), (0, sU t0), (3, .j v1)] ⟨(fun h => h), g3, (fun h => h), (fun h => h), g4, trivial⟩ (OpsW.asG (c := decide (0 < v1)) (.int .u8 (t0.getD (v1 - 1).toNat (0 : Int))) rfl rfl rfl rfl (fun hc => T.load rfl hc (by kernel_rfl) (Y2l (eI .u8) 1 (fun _ => rfl) t0 (0 : Int) (v1 - 1).toNat (ltN (g4 hc)) (fun a => .val (.int .u8 a)) (fun _ => rfl))) (Yb 2 [15, 0, 3] [(15, .bool (cond (decide (0 < v1)) ((t0.getD (v1 - 1).toNat (0 : Int)) == 0) false)), (0, sU t0), (3, .j v1)] ⟨(fun h => h), (fun h => by first | exact h | (simpa using h) | grind), trivial⟩ (Y1 (Y6 (b := cond (decide (0 < v1)) ((t0.getD (v1 - 1).toNat (0 : Int)) == 0) false) H rfl (fun c5 H => ?_) (fun c5 H => ?_)))))
 ·refine Ya (Yp (Yd ?_))
  have ⟨g6, H⟩ := Ye H
  refine Yb 3 [3, 0] [(3, .j (v1 - 1)), (0, sU t0)] ⟨g6, trivial⟩ (Y1 ?_)
  exact ⟨v1 - 1, H, (StC.pure (.i2 .nil))⟩
 refine AW.exit ?_
 refine Y0 (Y3 2 [19, 18] [(19, .j v1), (18, sU t0)] ?_)
 have ⟨g7, H⟩ := Ye H
 refine OpsW.asU (sU (t0.take v1.toNat)) rfl rfl (T.slice' rfl trivial trivial trivial (by kernel_rfl) (by kernel_rfl) g7 trivial (sl_hi (eI .u8) 1 (fun _ => rfl) t0 v1 g7)) (Y3 1 [2] [(2, sU (t0.take v1.toNat))] (Y1 ?_))
 obtain rfl := X5 H
 refine AW.recast (env' := [(2, sU (t0.take v1.toNat))]) (h' := []) (StC.pure (.cons .im .nil)) (Yk ?_)
 try simp only [Ex.t, Ex.b]
 exact Done.eq rfl (.tmp .nil)
def f_R10_letter (t0 : Int) : Option Int :=
 G (0 ≤ t0 ∧ t0 < ([(1 : Int), (3 : Int), (9 : Int), (25 : Int), (17 : Int), (11 : Int), (27 : Int), (19 : Int), (10 : Int), (26 : Int), (5 : Int), (7 : Int), (13 : Int), (29 : Int), (21 : Int), (15 : Int), (31 : Int), (23 : Int), (14 : Int), (30 : Int), (37 : Int), (39 : Int), (58 : Int), (45 : Int), (61 : Int), (53 : Int)].length : Int)) <|
 some ([(1 : Int), (3 : Int), (9 : Int), (25 : Int), (17 : Int), (11 : Int), (27 : Int), (19 : Int), (10 : Int), (26 : Int), (5 : Int), (7 : Int), (13 : Int), (29 : Int), (21 : Int), (15 : Int), (31 : Int), (23 : Int), (14 : Int), (30 : Int), (37 : Int), (39 : Int), (58 : Int), (45 : Int), (61 : Int), (53 : Int)].getD t0.toNat 0)
def f_R10_digit (t0 : Int) : Option Int :=
 G (inR (t0 + 9)) <|
 (f_R10_letter (Int.tmod (t0 + 9) (10 : Int))).bind fun x2 =>
 some x2
def f_R10_number_k1 (loop3 : ((List Int) × Int) → Option (List Int)) (v2 : Int) (v5 : List Int) : Option (List Int) :=
 G (inR (Int.tdiv v2 (10 : Int))) <|
 loop3 (v5, Int.tdiv v2 (10 : Int))
def f_R10_number_b1 (t0 : Int) (loop3 : ((List Int) × Int) → Option (List Int)) (v1 : List Int) (v2 : Int) : Option (List Int) :=
 cond (decide (0 < v2)) (
  cond (cond (decide (v2 ≤ t0)) true (v2 == 1)) (
   G (v2 ≠ 0) <|
   G (inR (Int.tdiv t0 v2)) <|
   (f_R10_digit (Int.tmod (Int.tdiv t0 v2) (10 : Int))).bind fun x10 =>
   G (room 1 (v1.length + 1)) <|
   f_R10_number_k1 loop3 v2 (v1 ++ [x10])) (
   f_R10_number_k1 loop3 v2 v1)) (
  some v1)
def f_R10_number (t0 : Int) : Option (List Int) :=
 iter (fun loop (s : (List Int) × Int) => f_R10_number_b1 t0 loop s.1 s.2) 1000000 ([(60 : Int)], (10000 : Int))
def f_R10_operator (t0 : Int) : Option (List Int) :=
 cond (t0 == 2) (
  some [(44 : Int)]) (
  cond (t0 == 3) (
   some [(36 : Int)]) (
   cond (t0 == 4) (
    some [(33 : Int)]) (
    some [(0 : Int), (54 : Int), (0 : Int)])))
def f_R10_Simple (t0 : Int) : Option Bool :=
 some (cond (cond (cond (t0 == 0) true (t0 == 1)) true (t0 == 6)) true (decide (9 ≤ t0)))
def f_R10_under_k1 (t0 : List Int) (v1 : Int) : Option (List Int) :=
 G (room 1 (([] : List Int).length + t0.length)) <|
 G (room 1 ((([] : List Int) ++ t0).length + 1)) <|
 some ((([] : List Int) ++ t0) ++ [v1])
def f_R10_under (t0 : List Int) (t1 : Int) : Option (List Int) :=
 cond (t1 == 8) (
  f_R10_under_k1 t0 (6 : Int)) (
  f_R10_under_k1 t0 (24 : Int))
def f_R10_sign (t0 : List Int) : Option (List Int) :=
 G (room 1 ([(16 : Int)].length + t0.length)) <|
 some ([(16 : Int)] ++ t0)
def f_R10_around (t0 : Int) : Option (List Int) :=
 cond (t0 == 6) (
  some [(57 : Int), (12 : Int), (47 : Int)]) (
  cond (t0 == 9) (
   some [(28 : Int), (0 : Int), (59 : Int)]) (
   cond (t0 == 10) (
    some [(55 : Int), (0 : Int), (62 : Int)]) (
    some [(42 : Int), (0 : Int), (46 : Int)])))
end Go.Proofs.YtioockkejhpleaaDoor
