/- Own work. -/
import Derived.Test.YtbcfmhoaocifoaaDoorW3
set_option linter.unusedSimpArgs false
set_option linter.unusedVariables false
set_option maxRecDepth 100000
namespace Go.Proofs.YtbcfmhoaocifoaaDoor
open Go.Abs
def Y2t (x2 : ByteArray) (loop5 : ((List Int) × Int) → Option ((List Int) × Int)) (v3 : List Int) (v4 : Int) : Option ((List Int) × Int) :=
 cond (decide (v4 < ((Y2a x2).length : Int))) (
  G (0 ≤ v4 ∧ v4 < ((Y2a x2).length : Int)) <|
  G (0 ≤ (IntKind.wrap .u8 (((Y2a x2).getD v4.toNat 0) - 48)) ∧ (IntKind.wrap .u8 (((Y2a x2).getD v4.toNat 0) - 48)) < 10) <|
  G (room 1 (v3.length + 1)) <|
  G (inR (v4 + 1)) <|
  loop5 (v3 ++ [Yi.getD (IntKind.wrap .u8 (((Y2a x2).getD v4.toNat 0) - 48)).toNat (0 : Int)], v4 + 1)) (
  some (v3, (0 : Int)))
def Y14 (t0 : Int) : Option ((List Int) × Int) :=
 cond (cond (decide (t0 < 0)) true (decide (99999 < t0))) (
  some ([], (190 : Int))) (
  (Y4u t0).bind fun x2 =>
  iter (fun loop (s : (List Int) × Int) => Y2t x2 loop s.1 s.2) 1000000 ([(60 : Int)], (0 : Int)))
section
variable (v3 : List Int) (v4 : Int) (x2 : ByteArray)
abbrev Z7z := IntKind.wrap .u8 (((Y2a x2).getD v4.toNat 0) - 48)
abbrev Z80 := (v3 ++ [Yi.getD (Z7z v4 x2).toNat (0 : Int)])
abbrev Z81 := ((Y2a x2).length : Int)
abbrev Z82 : Nat × AV := (4, .rsl 4 0 0 ([(60 : Int)].length))
abbrev Z7x : Env := [(16, sU (Y2a x2)), (17, .j (Z81 x2)), (18, .j v4)]
abbrev Z7y : Env := (4, .rsl 4 0 0 v3.length) :: (Z7x v4 x2)
end
theorem f_number_Write_own {t0 : Int} {r : (List Int) × Int} (H : Y14 t0 = some r) : Abs.Spec Tryd.prog 82 [.int .i64 t0] [] (fun x h => x = .tup [.rsl 1000 0 0 r.1.length, .int .i64 r.2] ∧ h = [(1000, rtA 0 42 1 (eI .u8) r.1)]) := by
 refine Yj Tryd.func82 rfl (by simp [Tryd.ntmps82]) ?_
 rw [Tryd.ntmps82]
 unfold Y14 at H
 change AW _ _ _ [(0, .j t0)] [] _
 refine Y0 (Y2 2 [0] [(0, .j t0)] ?_)
 refine Y1 (Yc (Y0 (Y8 6 [12, 0] [(12, .bool (cond (decide (t0 < 0)) true (decide (99999 < t0)))), (0, .j t0)] ⟨(fun h => h), (fun h => by first | exact h | (simpa using h) | grind), trivial⟩ ?_)))
 refine Y1 (Y9 (b := cond (decide (t0 < 0)) true (decide (99999 < t0))) H rfl (fun c1 H => ?_) (fun c1 H => ?_))
 ·refine Y0 (Y2 2 [3, 2] [(3, .j (190 : Int)), (2, .im (.val (.slice none 0 0)))] ?_)
  refine Y1 ?_
  obtain rfl := X1 H
  refine AW.recast (env' := [(2, .rsl 1000 0 0 0), (3, .j (190 : Int))]) (h' := [(1000, rtA 0 42 1 (eI .u8) ([] : List Int))]) (StC.mk (phi [(1000, none)]) (.new rfl .nil) rfl (.cons (.nilr rfl rfl rfl) (.cons .im .nil))) (Yl ?_)
  try simp only [Ex.t, Ex.b]
  refine Y1k rfl (.tmp (.tmp .nil)) ?_
  exact ⟨by kernel_rfl, rfl⟩
 refine Yb (Y0 (Y2b (enc := eI .u8) [(60 : Int)] rfl rfl rfl 13 rfl E41 (fun _ => rfl) (by decide) trivial (by kernel_rfl) (by kernel_rfl) (by kernel_rfl) rfl ?_))
 refine Y2 1 [4, 0] [(4, .rsl 13 0 0 ([(60 : Int)].length)), (0, .j t0)] (Ya [Z82, (0, .j t0)] [(4, rtA 0 42 1 (eI .u8) [(60 : Int)])] (StC.mk (phi [(4, some 13)]) (.o rfl (CstL.ims _) .nil) rfl (.cons (.s rfl) (.cons .im .nil))) ?_)
 refine Y1 (Yc (Y0 (Y2 1 [14, 4] [(14, .j t0), Z82] ?_)))
 have ⟨x2, hx2, H⟩ := Yt H
 refine Ys rfl (.cons (.pur rfl) .nil) (f_strconv_Itoa_ok hx2) (Y4c (sU (Y2a x2)) rfl rfl (Quiet.toBytes (e := 5) x2 rfl (by kernel_rfl) (by kernel_rfl) (by kernel_rfl) (gpoU rfl ⟨trivial, rfl⟩)) (Y2 2 [18, 17, 16, 4] [(18, .j (0 : Int)), (17, .j (Z81 x2)), (16, sU (Y2a x2)), Z82] ?_))
 refine Y1 (Yd ?_)
 refine Yq (fun loop (s : (List Int) × Int) => Y2t x2 loop s.1 s.2) r (fun (s : (List Int) × Int) => [(4, .rsl 4 0 0 s.1.length), (16, sU (Y2a x2)), (17, .j (Z81 x2)), (18, .j s.2)]) (fun (s : (List Int) × Int) => [(4, rtA 0 42 1 (eI .u8) s.1)]) ?_ 1000000 ([(60 : Int)], (0 : Int)) H (StC.mk (phi [(4, some 4)]) (.o rfl (CstL.ims _) .nil) rfl (.cons (.s rfl) (.i3 .nil)))
 intro loop5 s H
 obtain ⟨v3, v4⟩ := s
 unfold Y2t at H
 change AW _ _ _ (Z7y v3 v4 x2) [(4, rtA 0 42 1 (eI .u8) v3)] _
 refine Y0 (Y2 1 [19, 4, 16, 17, 18] ((19, .bool (decide (v4 < (Z81 x2)))) :: (Z7y v3 v4 x2)) ?_)
 refine Y1 (Yc (Y9 (b := decide (v4 < (Z81 x2))) H rfl (fun c6 H => ?_) (fun c6 H => ?_)))
 ·refine Yb (Yc (Yd (Y0 ?_)))
  have ⟨g7, H⟩ := Y6 H
  refine Y8 1 [20, 4, 16, 17, 18] ((20, .ipt ((Y2a x2).flatMap (eI .u8)) (v4.toNat * 1)) :: (Z7y v3 v4 x2)) ⟨g7, trivial⟩ (OpsW.asU (.int .u8 ((Y2a x2).getD v4.toNat 0)) rfl rfl (T.load rfl trivial (by kernel_rfl) (Yn (eI .u8) 1 (fun _ => rfl) (Y2a x2) (0 : Int) v4.toNat (ltN g7) (fun a => .val (.int .u8 a)) (fun _ => rfl))) (Y2 1 [6, 4, 16, 17, 18] ((6, .int .u8 ((Y2a x2).getD v4.toNat 0)) :: (Z7y v3 v4 x2)) ?_))
  refine Y1 (Ye ?_)
  have ⟨g8, H⟩ := Y6 H
  refine Y8 4 [25, 22, 4, 16, 17, 18] ((25, .ipt (Yi.flatMap (eI .u8)) (0 + (Z7z v4 x2).toNat * 1)) :: (22, .rsl 4 0 0 v3.length) :: (Z7y v3 v4 x2)) ⟨g8, trivial⟩ (OpsW.asU (.int .u8 (Yi.getD (Z7z v4 x2).toNat (0 : Int))) rfl rfl (T.load rfl trivial (by kernel_rfl) (tabOff (Yn (eI .u8) 1 (fun _ => rfl) Yi (0 : Int) (Z7z v4 x2).toNat (ltA (n := 10) g8 rfl) (fun a => .val (.int .u8 a)) (fun _ => rfl)))) ?_)
  have ⟨g9, H⟩ := Y6 H
  refine Y1j (enc := eI .u8) [Yi.getD (Z7z v4 x2).toNat (0 : Int)] rfl rfl rfl (by decide) rfl rfl rfl (by simp) E41 (fun _ => rfl) (by decide) trivial (by kernel_rfl) (by kernel_rfl) (by kernel_rfl) rfl rfl rfl g9 (Y2 1 [4, 16, 17, 18] ((4, .rsl 4 1 0 ((Z80 v3 v4 x2).length)) :: (Z7x v4 x2)) (Ya ((4, .rsl 4 0 0 ((Z80 v3 v4 x2).length)) :: (Z7x v4 x2)) [(4, rtA 0 42 1 (eI .u8) (Z80 v3 v4 x2))] (StC.mk (phi [(4, some 4)]) (.o rfl (CstL.ims _) .nil) rfl (.cons (.s rfl) (.i3 .nil))) ?_))
  refine Y1 (Ye ?_)
  have ⟨g10, H⟩ := Y6 H
  refine Y8 2 [18, 4, 16, 17] [(18, .j (v4 + 1)), (4, .rsl 4 0 0 ((Z80 v3 v4 x2).length)), (16, sU (Y2a x2)), (17, .j (Z81 x2))] ⟨g10, trivial⟩ (Y1 ?_)
  exact ⟨(v3 ++ [Yi.getD (Z7z v4 x2).toNat (0 : Int)], v4 + 1), H, (StC.mk (phi [(4, some 4)]) (.o rfl (CstL.ims _) .nil) rfl (.cons (.s rfl) (.i3 .nil)))⟩
 refine AW.exit ?_
 refine Y0 (Y2 3 [3, 2] [(3, .j (0 : Int)), (2, .rsl 4 0 0 v3.length)] ?_)
 refine Y1 ?_
 obtain rfl := X1 H
 refine AW.recast (env' := [(2, .rsl 1000 0 0 v3.length), (3, .j (0 : Int))]) (h' := [(1000, rtA 0 42 1 (eI .u8) v3)]) (StC.mk (phi [(1000, some 4)]) (.o rfl (CstL.ims _) .nil) rfl (.cons (.s rfl) (.cons .im .nil))) (Yl ?_)
 try simp only [Ex.t, Ex.b]
 refine Y1k rfl (.tmp (.tmp .nil)) ?_
 exact ⟨by kernel_rfl, rfl⟩
theorem f_number_Write_ok  {t0 : Int} {r : (List Int) × Int} (H : Y14 t0 = some r) : QSpec Tryd.prog 82 [.int .i64 t0] (.tup [slA (eI .u8) r.1, .int .i64 r.2]) := by
 exact QSpec.of_own (f_number_Write_own H) (.tup (.cons (.frz rfl rfl rfl (Y1b (eI .u8) 1 (fun _ => rfl) r.1) (Yy (eI .u8) 1 (fun _ => rfl) r.1) (Y3c rfl)) (.cons .im .nil)))
def Y2u (x2 : (List Int) × Int) (v3 : List Int) : Option ((List Int) × Int) :=
 some (v3, x2.2)
def f_number_Ink (t0 : Int) (t1 : Int) : Option ((List Int) × Int) :=
 cond (cond (cond (cond (decide (t0 < 1)) true (decide (9999 < t0))) true (decide (t1 < 0))) true (decide (26 < t1))) (
  some ([], (190 : Int))) (
  (Y14 t0).bind fun x2 =>
  cond (cond (x2.2 == 0) (decide (0 < t1)) false) (
   G (inR (t1 - 1)) <|
   G (0 ≤ (t1 - 1) ∧ (t1 - 1) < 26) <|
   G (room 1 ([(48 : Int), Y7.getD (t1 - 1).toNat (0 : Int)].length + x2.1.length)) <|
   Y2u x2 ([(48 : Int), Y7.getD (t1 - 1).toNat (0 : Int)] ++ x2.1)) (
   Y2u x2 x2.1))
section
variable (t0 : Int) (t1 : Int) (x2 : (List Int) × Int)
abbrev Z83 := ([(48 : Int), Y7.getD (t1 - 1).toNat (0 : Int)] ++ x2.1)
abbrev Z84 := cond (cond (decide (t0 < 1)) true (decide (9999 < t0))) true (decide (t1 < 0))
end
theorem f_number_Ink_ok  {t0 : Int} {t1 : Int} {r : (List Int) × Int} (H : f_number_Ink t0 t1 = some r) : QSpec Tryd.prog 78 [.int .i64 t0, .int .i64 t1] (.tup [slA (eI .u8) r.1, .int .i64 r.2]) := by
 refine Yj Tryd.func78 rfl (by simp [Tryd.ntmps78]) ?_
 rw [Tryd.ntmps78]
 unfold f_number_Ink at H
 change AW _ _ _ [(0, .j t0), (1, .j t1)] [] _
 refine Y0 (Y2 2 [0, 1] [(0, .j t0), (1, .j t1)] ?_)
 refine Y1 (Yc (Y0 (Y8 14 [21, 0, 1] [(21, .bool (cond (Z84 t0 t1) true (decide (26 < t1)))), (0, .j t0), (1, .j t1)] ⟨(fun h => h), (fun h => by first | exact h | (simpa using h) | grind), (fun h => h), (fun h => by first | exact h | (simpa using h) | grind), (fun h => h), (fun h => by first | exact h | (simpa using h) | grind), trivial⟩ ?_)))
 refine Y1 (Y9 (b := cond (Z84 t0 t1) true (decide (26 < t1))) H rfl (fun c1 H => ?_) (fun c1 H => ?_))
 ·refine Y0 (Y2 2 [5, 4] [(5, .j (190 : Int)), (4, .im (.val (.slice none 0 0)))] ?_)
  refine Y1 ?_
  obtain rfl := X1 H
  refine AW.recast (env' := [(4, sU []), (5, .j (190 : Int))]) (h' := []) (StC.pure (.cons .nil (.cons .im .nil))) (Yl ?_)
  try simp only [Ex.t, Ex.b]
  exact Yh rfl (.tmp (.tmp .nil))
 refine Yb (Y0 (Y2 1 [23, 1] [(23, .j t0), (1, .j t1)] ?_))
 have ⟨x2, hx2, H⟩ := Yt H
 refine Ys rfl (.cons (.pur rfl) .nil) (f_number_Write_ok hx2) (Y2 5 [7, 6, 1] [(7, .j x2.2), (6, sU x2.1), (1, .j t1)] (Y1 ?_))
 refine Y08 (fun (y : (List Int)) => Y2u x2 y) r (fun (y : (List Int)) => [(6, sU y), (7, .j x2.2)]) (fun (y : (List Int)) => []) ?_ ?_
 ·refine Y0 (Y8 6 [32, 7, 6, 1] [(32, .bool (cond (x2.2 == 0) (decide (0 < t1)) false)), (7, .j x2.2), (6, sU x2.1), (1, .j t1)] ⟨(fun h => h), (fun h => by first | exact h | (simpa using h) | grind), trivial⟩ ?_)
  refine Y1 (Y9 (b := cond (x2.2 == 0) (decide (0 < t1)) false) H rfl (fun c4 H => ?_) (fun c4 H => ?_))
  ·refine Ye ?_
   have ⟨g5, H⟩ := Y6 H
   have ⟨g6, H⟩ := Y6 H
   refine Y8 3 [35, 7, 6] [(35, .ipt (Y7.flatMap (eI .u8)) (0 + (t1 - 1).toNat * 1)), (7, .j x2.2), (6, sU x2.1)] ⟨g5, g6, trivial⟩ (OpsW.asU (.int .u8 (Y7.getD (t1 - 1).toNat (0 : Int))) rfl rfl (T.load rfl trivial (by kernel_rfl) (tabOff (Yn (eI .u8) 1 (fun _ => rfl) Y7 (0 : Int) (t1 - 1).toNat (ltA (n := 26) g6 rfl) (fun a => .val (.int .u8 a)) (fun _ => rfl)))) (Y2b (enc := eI .u8) [(48 : Int), Y7.getD (t1 - 1).toNat (0 : Int)] rfl rfl rfl 37 rfl E41 (fun _ => rfl) (by decide) trivial (by kernel_rfl) (by kernel_rfl) (by kernel_rfl) rfl (Y2 1 [38, 37, 7, 6] [(38, sU x2.1), (37, .rsl 37 0 0 ([(48 : Int), Y7.getD (t1 - 1).toNat (0 : Int)].length)), (7, .j x2.2), (6, sU x2.1)] ?_)))
   have ⟨g7, H⟩ := Y6 H
   refine Y32 (enc := eI .u8) (ys := x2.1) rfl rfl rfl E41 (fun _ => rfl) rfl rfl trivial (SrcA.typed (enc := eI .u8) (fun _ => rfl) (by kernel_rfl) x2.1) rfl g7 (Y2 1 [6, 7] [(6, .rsl 37 1 0 ((Z83 t1 x2).length)), (7, .j x2.2)] (Ya [(6, sU (Z83 t1 x2)), (7, .j x2.2)] [] (StC.mk (phi []) .nil rfl (.cons (.frz rfl rfl rfl (Y1b (eI .u8) 1 (fun _ => rfl) (Z83 t1 x2)) (Yy (eI .u8) 1 (fun _ => rfl) (Z83 t1 x2)) (Y3c rfl)) (.cons .im .nil))) (Y1 ?_)))
   exact ⟨[(48 : Int), Y7.getD (t1 - 1).toNat (0 : Int)] ++ x2.1, H, (StC.pure (.i2 .nil))⟩
  refine Yb ?_
  exact ⟨x2.1, H, (StC.pure (.i2 .nil))⟩
 intro v3 H
 unfold Y2u at H
 change AW _ _ _ [(6, sU v3), (7, .j x2.2)] [] _
 refine Y0 (Y2 4 [5, 4] [(5, .j x2.2), (4, sU v3)] ?_)
 refine Y1 ?_
 obtain rfl := X1 H
 refine AW.recast (env' := [(4, sU v3), (5, .j x2.2)]) (h' := []) (StC.pure (.i2 .nil)) (Yl ?_)
 try simp only [Ex.t, Ex.b]
 exact Yh rfl (.tmp (.tmp .nil))
def Y2f (x4 : (List Int) × Int) (v5 : List Int) : Option ((List Int) × Int) :=
 some (v5, x4.2)
def Y2e (t0 : Yu) (v3 : Int) : Option ((List Int) × Int) :=
 (Y14 v3).bind fun x4 =>
 cond (cond (x4.2 == 0) (decide (0 < t0.K)) false) (
  G (inR (t0.K - 1)) <|
  G (0 ≤ (t0.K - 1) ∧ (t0.K - 1) < 26) <|
  G (room 1 (x4.1.length + 2)) <|
  Y2f x4 (x4.1 ++ [(48 : Int), Y7.getD (t0.K - 1).toNat (0 : Int)])) (
  Y2f x4 x4.1)
def Y38 (t0 : Yu) (t1 : Bool) : Option ((List Int) × Int) :=
 cond (cond (cond (cond (decide (t0.N < 1)) true (decide (9999 < t0.N))) true (decide (t0.K < 0))) true (decide (2 < t0.K))) (
  some ([], (190 : Int))) (
  G (inR (2 * t0.N)) <|
  cond (!t1) (
   G (inR ((2 * t0.N) - 1)) <|
   Y2e t0 ((2 * t0.N) - 1)) (
   Y2e t0 (2 * t0.N)))
section
variable (t0 : Yu) (x4 : (List Int) × Int)
abbrev Z86 := (x4.1 ++ [(48 : Int), Y7.getD (t0.K - 1).toNat (0 : Int)])
abbrev Z87 : Nat × AV := (2, .ref 2 0 0)
abbrev Z88 := cond (cond (decide (t0.N < 1)) true (decide (9999 < t0.N))) true (decide (t0.K < 0))
abbrev Z85 : Hp := [(2, ⟨0, true, 35, 2, [.j t0.N, .j t0.K]⟩)]
end
theorem f_number_Page_ok  {t0 : Yu} {t1 : Bool} {r : (List Int) × Int} (H : Y38 t0 t1 = some r) : QSpec Tryd.prog 79 [.agg [.int .i64 t0.N, .int .i64 t0.K], .bool t1] (.tup [slA (eI .u8) r.1, .int .i64 r.2]) := by
 refine Yj Tryd.func79 rfl (by simp [Tryd.ntmps79]) ?_
 rw [Tryd.ntmps79]
 unfold Y38 at H
 change AW _ _ _ [(0, .agg [.j t0.N, .j t0.K]), (1, .bool t1)] [] _
 refine Y0 (OpsW.box rfl rfl rfl 2 rfl (Y5 (by kernel_rfl)) ?_)
 change OpsW _ _ _ _ _ (Z85 t0) _
 refine Y2 2 [2, 1] [Z87, (1, .bool t1)] ?_
 refine Y1 (Yc (Y0 (Y8 18 [26, 2, 1] [(26, .bool (cond (Z88 t0) true (decide (2 < t0.K)))), Z87, (1, .bool t1)] ⟨(fun h => h), (fun h => h), (fun h => by first | exact h | (simpa using h) | grind), (fun h => h), (fun h => h), (fun h => by first | exact h | (simpa using h) | grind), (fun h => h), (fun h => h), (fun h => by first | exact h | (simpa using h) | grind), trivial⟩ ?_)))
 refine Y1 (Y9 (b := cond (Z88 t0) true (decide (2 < t0.K))) H rfl (fun c1 H => ?_) (fun c1 H => ?_))
 ·refine Y0 (Y2 2 [5, 4] [(5, .j (190 : Int)), (4, .im (.val (.slice none 0 0)))] ?_)
  refine Y1 ?_
  obtain rfl := X1 H
  refine AW.recast (env' := [(4, sU []), (5, .j (190 : Int))]) (h' := []) (StC.pure (.cons .nil (.cons .im .nil))) (Yl ?_)
  try simp only [Ex.t, Ex.b]
  exact Yh rfl (.tmp (.tmp .nil))
 refine Yb (Y0 ?_)
 have ⟨g2, H⟩ := Y6 H
 refine Y8 4 [6, 2, 1] [(6, .j (2 * t0.N)), Z87, (1, .bool t1)] ⟨g2, trivial⟩ (Y1 ?_)
 refine Y08 (fun (y : Int) => Y2e t0 y) r (fun (y : Int) => [Z87, (6, .j y)]) (fun (y : Int) => (Z85 t0)) ?_ ?_
 ·refine Y0 (Y2 2 [31, 6, 2] [(31, .bool (!t1)), (6, .j (2 * t0.N)), Z87] ?_)
  refine Y1 (Y9 (b := !t1) H rfl (fun c10 H => ?_) (fun c10 H => ?_))
  ·refine Ye ?_
   have ⟨g11, H⟩ := Y6 H
   refine Y8 3 [6, 2] [(6, .j ((2 * t0.N) - 1)), Z87] ⟨g11, trivial⟩ (Y1 ?_)
   exact ⟨(2 * t0.N) - 1, H, (StC.mk (phi [(2, some 2)]) (.o rfl (.i2 .nil) .nil) rfl (.cons (.r rfl) (.cons .im .nil)))⟩
  refine Yb ?_
  exact ⟨2 * t0.N, H, (StC.mk (phi [(2, some 2)]) (.o rfl (.i2 .nil) .nil) rfl (.cons (.r rfl) (.cons .im .nil)))⟩
 intro v3 H
 unfold Y2e at H
 change AW _ _ _ [Z87, (6, .j v3)] (Z85 t0) _
 refine Y0 (Y2 1 [35, 2] [(35, .j v3), Z87] ?_)
 have ⟨x4, hx4, H⟩ := Yt H
 refine OpsW.call rfl rfl (by kernel_rfl) [] _ _ rfl (Yg trivial) (.cons (.pur rfl) .nil) (f_number_Write_own hx4) ?_
 rintro _ _ ⟨rfl, rfl⟩
 refine ⟨fresh_of (by kernel_rfl), .inl rfl, ?_⟩
 change OpsW _ _ _ _ [(36, .tup [.rsl 1000 0 0 x4.1.length, .j x4.2]), (35, .j v3), Z87] ((1000, rtA 0 42 1 (eI .u8) x4.1) :: (Z85 t0)) _
 refine Ya [(36, .tup [.rsl 600 0 0 x4.1.length, .j x4.2]), (35, .j v3), Z87] ((600, rtA 0 42 1 (eI .u8) x4.1) :: (Z85 t0)) (StC.mk (phi [(600, some 1000), (2, some 2)]) (.o rfl (CstL.ims _) (.o rfl (.i2 .nil) .nil)) rfl (.cons (.tup (.cons (.s rfl) (.cons .im .nil))) (.cons .im (.cons (.r rfl) .nil)))) (Y2 5 [8, 7, 2] [(8, .j x4.2), (7, .rsl 600 0 0 x4.1.length), Z87] (Ya [(8, .j x4.2), (7, .rsl 7 0 0 x4.1.length), Z87] [(2, ⟨0, true, 35, 2, [.j t0.N, .j t0.K]⟩), (7, rtA 0 42 1 (eI .u8) x4.1)] (StC.mk (phi [(2, some 2), (7, some 600)]) (.o rfl (.i2 .nil) (.o rfl (CstL.ims _) .nil)) rfl (.cons .im (.cons (.s rfl) (.cons (.r rfl) .nil)))) (Y1 ?_)))
 refine Y08 (fun (y : (List Int)) => Y2f x4 y) r (fun (y : (List Int)) => [(7, sU y), (8, .j x4.2)]) (fun (y : (List Int)) => []) ?_ ?_
 ·refine Y0 (Y8 7 [45, 8, 7, 2] [(45, .bool (cond (x4.2 == 0) (decide (0 < t0.K)) false)), (8, .j x4.2), (7, .rsl 7 0 0 x4.1.length), Z87] ⟨(fun h => h), (fun h => h), (fun h => by first | exact h | (simpa using h) | grind), trivial⟩ ?_)
  refine Y1 (Y9 (b := cond (x4.2 == 0) (decide (0 < t0.K)) false) H rfl (fun c6 H => ?_) (fun c6 H => ?_))
  ·refine Ye ?_
   have ⟨g7, H⟩ := Y6 H
   have ⟨g8, H⟩ := Y6 H
   refine Y8 5 [50, 46, 8, 7] [(50, .ipt (Y7.flatMap (eI .u8)) (0 + (t0.K - 1).toNat * 1)), (46, .rsl 7 0 0 x4.1.length), (8, .j x4.2), (7, .rsl 7 0 0 x4.1.length)] ⟨g7, g8, trivial⟩ (OpsW.asU (.int .u8 (Y7.getD (t0.K - 1).toNat (0 : Int))) rfl rfl (T.load rfl trivial (by kernel_rfl) (tabOff (Yn (eI .u8) 1 (fun _ => rfl) Y7 (0 : Int) (t0.K - 1).toNat (ltA (n := 26) g8 rfl) (fun a => .val (.int .u8 a)) (fun _ => rfl)))) ?_)
   have ⟨g9, H⟩ := Y6 H
   refine Y1j (enc := eI .u8) [(48 : Int), Y7.getD (t0.K - 1).toNat (0 : Int)] rfl rfl rfl (by decide) rfl rfl rfl (by simp) E41 (fun _ => rfl) (by decide) trivial (by kernel_rfl) (by kernel_rfl) (by kernel_rfl) rfl rfl rfl g9 (Y2 1 [7, 8] [(7, .rsl 7 1 0 ((Z86 t0 x4).length)), (8, .j x4.2)] (Ya [(7, sU (Z86 t0 x4)), (8, .j x4.2)] [] (StC.mk (phi []) .nil rfl (.cons (.frz rfl rfl rfl (Y1b (eI .u8) 1 (fun _ => rfl) (Z86 t0 x4)) (Yy (eI .u8) 1 (fun _ => rfl) (Z86 t0 x4)) (Y3c rfl)) (.cons .im .nil))) (Y1 ?_)))
   exact ⟨x4.1 ++ [(48 : Int), Y7.getD (t0.K - 1).toNat (0 : Int)], H, (StC.pure (.i2 .nil))⟩
  refine Yb ?_
  exact ⟨x4.1, H, (StC.mk (phi []) .nil rfl (.cons (.frz rfl rfl rfl (Y1b (eI .u8) 1 (fun _ => rfl) x4.1) (Yy (eI .u8) 1 (fun _ => rfl) x4.1) (Y3c rfl)) (.cons .im .nil)))⟩
 intro v5 H
 unfold Y2f at H
 change AW _ _ _ [(7, sU v5), (8, .j x4.2)] [] _
 refine Y0 (Y2 4 [5, 4] [(5, .j x4.2), (4, sU v5)] ?_)
 refine Y1 ?_
 obtain rfl := X1 H
 refine AW.recast (env' := [(4, sU v5), (5, .j x4.2)]) (h' := []) (StC.pure (.i2 .nil)) (Yl ?_)
 try simp only [Ex.t, Ex.b]
 exact Yh rfl (.tmp (.tmp .nil))
def Y1g (v2 : List Int) : Option (List Int) :=
 some v2
def Y0l (t1 : Int) : Option (List Int) :=
 cond (decide (t1 < 0)) (
  none) (
  G (inR (0 - ((0 : Nat) : Int))) <|
  G (inR (t1 - (0 - ((0 : Nat) : Int)))) <|
  cond (decide ((0 : Int) < (t1 - (0 - ((0 : Nat) : Int))))) (
   G (0 < (t1 - (0 - ((0 : Nat) : Int)))) <|
   G (room 1 (t1 - (0 - ((0 : Nat) : Int))).toNat) <|
   G (0 ≤ ((0 : Nat) : Int) ∧ ((0 : Nat) : Int) ≤ ((t1 - (0 - ((0 : Nat) : Int))).toNat : Int)) <|
   Y1g ([] : List Int)) (
   Y1g []))
section
variable (t1 : Int)
abbrev Z8c := (t1 - (0 - ((0 : Nat) : Int)))
abbrev Z89 : Env := [(1, .j (Z8c t1)), (0, .im (.val (.slice none 0 0)))]
abbrev Z8a : Env := [(0, .im (.val (.slice none 0 0))), (1, .j t1)]
abbrev Z8b : Env := [(21, .j (Z8c t1)), (20, .im (.val (.slice none 0 0))), (0, .im (.val (.slice none 0 0)))]
end
theorem f_slices_Grow_api_Cell_own {t1 : Int} {r : List Int} (H : Y0l t1 = some r) : Abs.Spec Tryd.prog 85 [.im (.val (.slice none 0 0)), .int .i64 t1] [] (fun x h => x = .rsl 1000 0 0 r.length ∧ h = [(1000, rtA 0 42 1 (eI .u8) r)]) := by
 refine Yj Tryd.func85 rfl (by simp [Tryd.ntmps85]) ?_
 rw [Tryd.ntmps85]
 unfold Y0l at H
 change AW _ _ _ (Z8a t1) [] _
 refine Y0 (Y2 1 [0, 1] (Z8a t1) ?_)
 refine Y1 (Yc (Y0 (Y2 2 [6, 0, 1] ((6, .bool (decide (t1 < 0))) :: (Z8a t1)) ?_)))
 refine Y1 (Y9 (b := decide (t1 < 0)) H rfl (fun c1 H => ?_) (fun c1 H => ?_))
 ·cases H
 refine Yb ?_
 refine Y08 (fun (y : (List Int)) => Y1g y) r (fun (y : (List Int)) => [(0, .rsl 0 0 0 y.length)]) (fun (y : (List Int)) => [(0, rtA 0 42 1 (eI .u8) y)]) ?_ ?_
 ·refine Y0 (Y2 2 [9, 8, 0, 1] ((9, .im (.val (.slice none 0 0))) :: (8, .j t1) :: (Z8a t1)) ?_)
  refine Y4c (.j (0 : Int)) rfl rfl (Quiet.capNil rfl (by kernel_rfl) (gpoU rfl ⟨trivial, rfl⟩)) ?_
  have ⟨g3, H⟩ := Y6 H
  have ⟨g4, H⟩ := Y6 H
  refine Y8 5 [1, 0] (Z89 t1) ⟨g3, g4, trivial⟩ ?_
  refine Y1 (Y0 (Y2 2 [16, 1, 0] ((16, .bool (decide ((0 : Int) < (Z8c t1)))) :: (Z89 t1)) ?_))
  refine Y1 (Y9 (b := decide ((0 : Int) < (Z8c t1))) H rfl (fun c5 H => ?_) (fun c5 H => ?_))
  ·refine Ye (Y2 2 [18, 17, 1, 0] ((18, .im (.val (.slice none 0 0))) :: (17, .im (.val (.slice none 0 0))) :: (Z89 t1)) ?_)
   refine Y4c (.j (0 : Int)) rfl rfl (Quiet.capNil rfl (by kernel_rfl) (gpoU rfl ⟨trivial, rfl⟩)) (Y4c (.im (.val (.slice none 0 0))) rfl rfl (Quiet.sliceNil rfl (by kernel_rfl) (by kernel_rfl) (gpoU rfl ⟨trivial, rfl, trivial, rfl⟩)) (Y2 1 [21, 20, 0] (Z8b t1) ?_))
   have ⟨g6, H⟩ := Y6 H
   have ⟨g7, H⟩ := Y6 H
   refine OpsW.growNil rfl rfl rfl 22 rfl E41 (by kernel_rfl) rfl rfl g6 g7 ?_
   change OpsW _ _ _ _ ((22, .rsl 22 0 0 ((Z8c t1).toNat)) :: (Z8b t1)) [(22, rtA 0 42 1 (eI .u8) ([] : List Int))] _
   have ⟨g8, H⟩ := Y6 H
   refine Y8 4 [0] [(0, .rsl 22 0 0 (([] : List Int).length))] ⟨g8, trivial⟩ (Ya [(0, .rsl 0 0 0 (([] : List Int).length))] [(0, rtA 0 42 1 (eI .u8) ([] : List Int))] (StC.mk (phi [(0, some 22)]) (.o rfl (CstL.ims _) .nil) rfl (.cons (.s rfl) .nil)) (Y1 ?_))
   exact ⟨([] : List Int), H, (StC.mk (phi [(0, some 0)]) (.o rfl (CstL.ims _) .nil) rfl (.cons (.s rfl) .nil))⟩
  refine Yb ?_
  exact ⟨[], H, (StC.mk (phi [(0, none)]) (.new rfl .nil) rfl (.cons (.nilr rfl rfl rfl) .nil))⟩
 intro v2 H
 unfold Y1g at H
 change AW _ _ _ [(0, .rsl 0 0 0 v2.length)] [(0, rtA 0 42 1 (eI .u8) v2)] _
 refine Y0 (Y2 2 [4] [(4, .rsl 0 0 0 v2.length)] ?_)
 refine Y1 ?_
 obtain rfl := X1 H
 refine AW.recast (env' := [(4, .rsl 1000 0 0 v2.length)]) (h' := [(1000, rtA 0 42 1 (eI .u8) v2)]) (StC.mk (phi [(1000, some 0)]) (.o rfl (CstL.ims _) .nil) rfl (.cons (.s rfl) .nil)) (Yl ?_)
 try simp only [Ex.t, Ex.b]
 refine Y1k rfl (.tmp .nil) ?_
 exact ⟨by kernel_rfl, rfl⟩
def Y05 (t0 : List (List Int)) (loop12 : ((List Int) × Int) → Option (List Int)) (v10 : List Int) (v11 : Int) : Option (List Int) :=
 cond (decide (v11 < (t0.length : Int))) (
  G (0 ≤ v11 ∧ v11 < (t0.length : Int)) <|
  G (room 1 (v10.length + (t0.getD v11.toNat []).length)) <|
  G (inR (v11 + 1)) <|
  loop12 (v10 ++ (t0.getD v11.toNat []), v11 + 1)) (
  some v10)
def Y0d (t0 : List (List Int)) (loop3 : (Int × Int) → Option (List Int)) (v1 : Int) (v2 : Int) : Option (List Int) :=
 cond (decide (v2 < (t0.length : Int))) (
  G (0 ≤ v2 ∧ v2 < (t0.length : Int)) <|
  G (inR (v1 + ((t0.getD v2.toNat []).length : Int))) <|
  cond (decide ((v1 + ((t0.getD v2.toNat []).length : Int)) < 0)) (
   none) (
   G (inR (v2 + 1)) <|
   loop3 (v1 + ((t0.getD v2.toNat []).length : Int), v2 + 1))) (
  (Y0l v1).bind fun x9 =>
  iter (fun loop (s : (List Int) × Int) => Y05 t0 loop s.1 s.2) 1000000 (x9, (0 : Int)))
def Y0v (t0 : List (List Int)) : Option (List Int) :=
 iter (fun loop (s : Int × Int) => Y0d t0 loop s.1 s.2) 1000000 ((0 : Int), (0 : Int))
section
variable (t0 : List (List Int)) (v2 : Int) (v10 : List Int) (v11 : Int)
abbrev Z8f := ((t0.getD v2.toNat []).length : Int)
abbrev Z8g := (t0.length : Int)
abbrev Z8h := t0.getD v11.toNat []
abbrev Z8d : Env := [(6, .rsl 6 0 0 v10.length), (25, sC t0), (26, .j (Z8g t0)), (27, .j v11)]
abbrev Z8e : Env := [(9, sC t0), (10, .j (Z8g t0)), (11, .j v2)]
end
theorem f_slices_Concat_api_Cell_ok  {t0 : List (List Int)} {r : List Int} (H : Y0v t0 = some r) : QSpec Tryd.prog 83 [slA (eL (eI .u8)) t0] (slA (eI .u8) r) := by
 refine Yj Tryd.func83 rfl (by simp [Tryd.ntmps83]) ?_
 rw [Tryd.ntmps83]
 unfold Y0v at H
 change AW _ _ _ [(0, sC t0)] [] _
 refine Y0 (Y2 1 [0] [(0, sC t0)] ?_)
 refine Y1 (Y0 (Y2 1 [3, 0] [(3, .j (0 : Int)), (0, sC t0)] ?_))
 refine Y1 (Yc (Y0 (Y2 3 [11, 10, 9, 3, 0] [(11, .j (0 : Int)), (10, .j (Z8g t0)), (9, sC t0), (3, .j (0 : Int)), (0, sC t0)] ?_)))
 refine Y1 (Yd ?_)
 refine Yq (fun loop (s : Int × Int) => Y0d t0 loop s.1 s.2) r (fun (s : Int × Int) => [(0, sC t0), (3, .j s.1), (9, sC t0), (10, .j (Z8g t0)), (11, .j s.2)]) (fun (s : Int × Int) => []) ?_ 1000000 ((0 : Int), (0 : Int)) H (StC.pure (.i5 .nil))
 intro loop3 s H
 obtain ⟨v1, v2⟩ := s
 unfold Y0d at H
 change AW _ _ _ ((0, sC t0) :: (3, .j v1) :: (Z8e t0 v2)) [] _
 refine Y0 (Y2 1 [12, 0, 3, 9, 10, 11] ((12, .bool (decide (v2 < (Z8g t0)))) :: (0, sC t0) :: (3, .j v1) :: (Z8e t0 v2)) ?_)
 refine Y1 (Yc (Y9 (b := decide (v2 < (Z8g t0))) H rfl (fun c4 H => ?_) (fun c4 H => ?_)))
 ·refine Yb (Yc (Yd (Y0 ?_)))
  have ⟨g5, H⟩ := Y6 H
  refine Y8 1 [13, 0, 3, 9, 10, 11] ((13, .ipt (t0.flatMap (eL (eI .u8))) (v2.toNat * 1)) :: (0, sC t0) :: (3, .j v1) :: (Z8e t0 v2)) ⟨g5, trivial⟩ (OpsW.asU (sU (t0.getD v2.toNat [])) rfl rfl (T.load rfl trivial (by kernel_rfl) (Yn (eL (eI .u8)) 1 (fun _ => rfl) t0 [] v2.toNat (ltN g5) (fun a => .sl (a.flatMap (eI .u8)) a.length) (fun _ => rfl))) (Y2 1 [5, 0, 3, 9, 10, 11] ((5, sU (t0.getD v2.toNat [])) :: (0, sC t0) :: (3, .j v1) :: (Z8e t0 v2)) ?_))
  refine Y1 (Y0 ?_)
  have ⟨g6, H⟩ := Y6 H
  refine Y8 5 [3, 0, 9, 10, 11] ((3, .j (v1 + (Z8f t0 v2))) :: (0, sC t0) :: (Z8e t0 v2)) ⟨g6, trivial⟩ ?_
  refine Y1 (Y0 (Y2 2 [20, 3, 0, 9, 10, 11] ((20, .bool (decide ((v1 + (Z8f t0 v2)) < 0))) :: (3, .j (v1 + (Z8f t0 v2))) :: (0, sC t0) :: (Z8e t0 v2)) ?_))
  refine Y1 (Y9 (b := decide ((v1 + (Z8f t0 v2)) < 0)) H rfl (fun c7 H => ?_) (fun c7 H => ?_))
  ·cases H
  refine Yb (Ye ?_)
  have ⟨g8, H⟩ := Y6 H
  refine Y8 2 [11, 3, 0, 9, 10] [(11, .j (v2 + 1)), (3, .j (v1 + (Z8f t0 v2))), (0, sC t0), (9, sC t0), (10, .j (Z8g t0))] ⟨g8, trivial⟩ (Y1 ?_)
  exact ⟨(v1 + (Z8f t0 v2), v2 + 1), H, (StC.pure (.i5 .nil))⟩
 refine AW.exit ?_
 refine Y0 (Y2 1 [23, 0] [(23, .j v1), (0, sC t0)] ?_)
 have ⟨x9, hx9, H⟩ := Yt H
 refine OpsW.call rfl rfl (by kernel_rfl) [] _ _ rfl (Yg trivial) (.cons (.pur rfl) (.cons (.pur rfl) .nil)) (f_slices_Grow_api_Cell_own hx9) ?_
 rintro _ _ ⟨rfl, rfl⟩
 refine ⟨fresh_of (by kernel_rfl), .inl rfl, ?_⟩
 change OpsW _ _ _ _ [(24, .rsl 1000 0 0 x9.length), (23, .j v1), (0, sC t0)] [(1000, rtA 0 42 1 (eI .u8) x9)] _
 refine Ya [(24, .rsl 600 0 0 x9.length), (23, .j v1), (0, sC t0)] [(600, rtA 0 42 1 (eI .u8) x9)] (StC.mk (phi [(600, some 1000)]) (.o rfl (CstL.ims _) .nil) rfl (.cons (.s rfl) (.i2 .nil))) (Y2 1 [6, 0] [(6, .rsl 600 0 0 x9.length), (0, sC t0)] (Ya [(6, .rsl 6 0 0 x9.length), (0, sC t0)] [(6, rtA 0 42 1 (eI .u8) x9)] (StC.mk (phi [(6, some 600)]) (.o rfl (CstL.ims _) .nil) rfl (.cons (.s rfl) (.cons .im .nil))) ?_))
 refine Y1 (Yc (Y0 (Y2 3 [27, 26, 25, 6] [(27, .j (0 : Int)), (26, .j (Z8g t0)), (25, sC t0), (6, .rsl 6 0 0 x9.length)] ?_)))
 refine Y1 (Yd ?_)
 refine Yq (fun loop (s : (List Int) × Int) => Y05 t0 loop s.1 s.2) r (fun (s : (List Int) × Int) => [(6, .rsl 6 0 0 s.1.length), (25, sC t0), (26, .j (Z8g t0)), (27, .j s.2)]) (fun (s : (List Int) × Int) => [(6, rtA 0 42 1 (eI .u8) s.1)]) ?_ 1000000 (x9, (0 : Int)) H (StC.mk (phi [(6, some 6)]) (.o rfl (CstL.ims _) .nil) rfl (.cons (.s rfl) (.i3 .nil)))
 intro loop12 s H
 obtain ⟨v10, v11⟩ := s
 unfold Y05 at H
 change AW _ _ _ (Z8d t0 v10 v11) [(6, rtA 0 42 1 (eI .u8) v10)] _
 refine Y0 (Y2 1 [28, 6, 25, 26, 27] ((28, .bool (decide (v11 < (Z8g t0)))) :: (Z8d t0 v10 v11)) ?_)
 refine Y1 (Yc (Y9 (b := decide (v11 < (Z8g t0))) H rfl (fun c13 H => ?_) (fun c13 H => ?_)))
 ·refine Yb (Yc (Yd (Y0 ?_)))
  have ⟨g14, H⟩ := Y6 H
  refine Y8 1 [29, 6, 25, 26, 27] ((29, .ipt (t0.flatMap (eL (eI .u8))) (v11.toNat * 1)) :: (Z8d t0 v10 v11)) ⟨g14, trivial⟩ (OpsW.asU (sU (Z8h t0 v11)) rfl rfl (T.load rfl trivial (by kernel_rfl) (Yn (eL (eI .u8)) 1 (fun _ => rfl) t0 [] v11.toNat (ltN g14) (fun a => .sl (a.flatMap (eI .u8)) a.length) (fun _ => rfl))) (Y2 1 [8, 6, 25, 26, 27] ((8, sU (Z8h t0 v11)) :: (Z8d t0 v10 v11)) ?_))
  refine Y1 (Ye (Y2 2 [32, 31, 6, 25, 26, 27] ((32, sU (Z8h t0 v11)) :: (31, .rsl 6 0 0 v10.length) :: (Z8d t0 v10 v11)) ?_))
  have ⟨g15, H⟩ := Y6 H
  refine Y32 (enc := eI .u8) (ys := t0.getD v11.toNat []) rfl rfl rfl E41 (fun _ => rfl) rfl rfl trivial (SrcA.typed (enc := eI .u8) (fun _ => rfl) (by kernel_rfl) (Z8h t0 v11)) rfl g15 (Y2 1 [6, 25, 26, 27] [(6, .rsl 6 1 0 ((v10 ++ (Z8h t0 v11)).length)), (25, sC t0), (26, .j (Z8g t0)), (27, .j v11)] (Ya [(6, .rsl 6 0 0 ((v10 ++ (Z8h t0 v11)).length)), (25, sC t0), (26, .j (Z8g t0)), (27, .j v11)] [(6, rtA 0 42 1 (eI .u8) (v10 ++ (Z8h t0 v11)))] (StC.mk (phi [(6, some 6)]) (.o rfl (CstL.ims _) .nil) rfl (.cons (.s rfl) (.i3 .nil))) ?_))
  refine Y1 (Ye ?_)
  have ⟨g16, H⟩ := Y6 H
  refine Y8 2 [27, 6, 25, 26] [(27, .j (v11 + 1)), (6, .rsl 6 0 0 ((v10 ++ (Z8h t0 v11)).length)), (25, sC t0), (26, .j (Z8g t0))] ⟨g16, trivial⟩ (Y1 ?_)
  exact ⟨(v10 ++ (Z8h t0 v11), v11 + 1), H, (StC.mk (phi [(6, some 6)]) (.o rfl (CstL.ims _) .nil) rfl (.cons (.s rfl) (.i3 .nil)))⟩
 refine AW.exit ?_
 refine Y0 (Y2 2 [2] [(2, .rsl 6 0 0 v10.length)] ?_)
 refine Ya [(2, sU v10)] [] (StC.mk (phi []) .nil rfl (.cons (.frz rfl rfl rfl (Y1b (eI .u8) 1 (fun _ => rfl) v10) (Yy (eI .u8) 1 (fun _ => rfl) v10) (Y3c rfl)) .nil)) (Y1 ?_)
 obtain rfl := X1 H
 refine AW.recast (env' := [(2, sU v10)]) (h' := []) (StC.pure (.cons .im .nil)) (Yl ?_)
 try simp only [Ex.t, Ex.b]
 exact Yh rfl (.tmp .nil)
def f_number_join (t0 : List (List Int)) : Option (List Int) :=
 (Y0v t0).bind fun x1 =>
 some x1
theorem f_number_join_ok  {t0 : List (List Int)} {r : List Int} (H : f_number_join t0 = some r) : QSpec Tryd.prog 80 [slA (eL (eI .u8)) t0] (slA (eI .u8) r) := by
 refine Yj Tryd.func80 rfl (by simp [Tryd.ntmps80]) ?_
 rw [Tryd.ntmps80]
 unfold f_number_join at H
 change AW _ _ _ [(0, sC t0)] [] _
 refine Y0 (Y2 1 [0] [(0, sC t0)] ?_)
 refine Y1 (Y0 (Y2 1 [3] [(3, sC t0)] ?_))
 have ⟨x1, hx1, H⟩ := Yt H
 refine Ys rfl (.cons (.pur rfl) .nil) (f_slices_Concat_api_Cell_ok hx1) (Y2 1 [2] [(2, sU x1)] (Y1 ?_))
 obtain rfl := X1 H
 refine AW.recast (env' := [(2, sU x1)]) (h' := []) (StC.pure (.cons .im .nil)) (Yl ?_)
 try simp only [Ex.t, Ex.b]
 exact Yh rfl (.tmp .nil)
def Y1q (t0 : Y3) (v2 : List Int) : Option ((List Int) × Int) :=
 (Y38 t0.Label t0.Back).bind fun x3 =>
 cond (x3.2 != 0) (
  some ([], (190 : Int))) (
  G (inR (t0.Width - (v2.length : Int))) <|
  G (inR ((t0.Width - (v2.length : Int)) - (x3.1.length : Int))) <|
  G (0 ≤ ((t0.Width - (v2.length : Int)) - (x3.1.length : Int)) ∧ ((t0.Width - (v2.length : Int)) - (x3.1.length : Int)) ≤ ((t0.Width - (v2.length : Int)) - (x3.1.length : Int)) ∧ ((1 : Nat) : Int) * ((t0.Width - (v2.length : Int)) - (x3.1.length : Int)) ≤ 281474976710656 ∧ ((t0.Width - (v2.length : Int)) - (x3.1.length : Int)) ≤ 9223372036854775807) <|
  (f_number_join [v2, List.replicate ((t0.Width - (v2.length : Int)) - (x3.1.length : Int)).toNat (0 : Int), x3.1]).bind fun x8 =>
  some (x8, (0 : Int)))
def Y44 (t0 : Y3) : Option ((List Int) × Int) :=
 cond (cond (decide (t0.Width < 24)) true (decide (60 < t0.Width))) (
  some ([], (1 : Int))) (
  cond (cond (t0.Ink != 0) true (t0.Part != 0)) (
   (f_number_Ink t0.Ink t0.Part).bind fun x10 =>
   cond (x10.2 != 0) (
    some ([], (190 : Int))) (
    Y1q t0 x10.1)) (
   Y1q t0 []))
section
variable (t0 : Y3) (v2 : List Int) (x3 : ((List Int) × Int))
abbrev Z8j := (List.replicate ((t0.Width - (v2.length : Int)) - (x3.1.length : Int)).toNat (0 : Int))
abbrev Z8k : Nat × AV := (1, .ref 1 0 0)
abbrev Z8l : List AV := [.j t0.Width, .j t0.Label.N, .j t0.Label.K, .bool t0.Back, .j t0.Ink, .j t0.Part]
abbrev Z8i : Hp := [(1, ⟨0, true, 86, 6, (Z8l t0)⟩)]
end
theorem f_number_Header_ok  {t0 : Y3} {r : (List Int) × Int} (H : Y44 t0 = some r) : QSpec Tryd.prog 73 [.agg [.int .i64 t0.Width, .int .i64 t0.Label.N, .int .i64 t0.Label.K, .bool t0.Back, .int .i64 t0.Ink, .int .i64 t0.Part]] (.tup [slA (eI .u8) r.1, .int .i64 r.2]) := by
 refine Yj Tryd.func73 rfl (by simp [Tryd.ntmps73]) ?_
 rw [Tryd.ntmps73]
 unfold Y44 at H
 change AW _ _ _ [(0, .agg (Z8l t0))] [] _
 refine Y0 (OpsW.box rfl rfl rfl 1 rfl (Y5 (by kernel_rfl)) ?_)
 change OpsW _ _ _ _ _ (Z8i t0) _
 refine Y2 2 [1] [Z8k] ?_
 refine Y1 (Yc (Y0 (Y8 8 [16, 1] [(16, .bool (cond (decide (t0.Width < 24)) true (decide (60 < t0.Width)))), Z8k] ⟨(fun h => h), (fun h => h), (fun h => by first | exact h | (simpa using h) | grind), trivial⟩ ?_)))
 refine Y1 (Y9 (b := cond (decide (t0.Width < 24)) true (decide (60 < t0.Width))) H rfl (fun c1 H => ?_) (fun c1 H => ?_))
 ·refine Y0 (Y2 2 [3, 2] [(3, .j (1 : Int)), (2, .im (.val (.slice none 0 0)))] ?_)
  refine Y1 ?_
  obtain rfl := X1 H
  refine AW.recast (env' := [(2, sU []), (3, .j (1 : Int))]) (h' := []) (StC.pure (.cons .nil (.cons .im .nil))) (Yl ?_)
  try simp only [Ex.t, Ex.b]
  exact Yh rfl (.tmp (.tmp .nil))
 refine Yb (Y0 (Y2 1 [4, 1] [(4, .im (.val (.slice none 0 0))), Z8k] ?_))
 refine Y1 ?_
 refine Y08 (fun (y : (List Int)) => Y1q t0 y) r (fun (y : (List Int)) => [Z8k, (4, sU y)]) (fun (y : (List Int)) => (Z8i t0)) ?_ ?_
 ·refine Y0 (Y8 8 [24, 4, 1] [(24, .bool (cond (t0.Ink != 0) true (t0.Part != 0))), (4, .im (.val (.slice none 0 0))), Z8k] ⟨(fun h => h), (fun h => h), (fun h => by first | exact h | (simpa using h) | grind), trivial⟩ ?_)
  refine Y1 (Y9 (b := cond (t0.Ink != 0) true (t0.Part != 0)) H rfl (fun c9 H => ?_) (fun c9 H => ?_))
  ·refine Y0 (Y2 4 [29, 27, 1] [(29, .j t0.Part), (27, .j t0.Ink), Z8k] ?_)
   have ⟨x10, hx10, H⟩ := Yt H
   refine Ys rfl (.cons (.pur rfl) (.cons (.pur rfl) .nil)) (f_number_Ink_ok hx10) (Y2 5 [6, 5, 1] [(6, .j x10.2), (5, sU x10.1), Z8k] ?_)
   refine Y1 (Yc (Y0 (Y2 2 [34, 5, 1] [(34, .bool (x10.2 != 0)), (5, sU x10.1), Z8k] ?_)))
   refine Y1 (Y9 (b := x10.2 != 0) H rfl (fun c11 H => ?_) (fun c11 H => ?_))
   ·refine Y0 (Y2 2 [3, 2] [(3, .j (190 : Int)), (2, .im (.val (.slice none 0 0)))] ?_)
    refine Y1 ?_
    obtain rfl := X1 H
    refine AW.recast (env' := [(2, sU []), (3, .j (190 : Int))]) (h' := []) (StC.pure (.cons .nil (.cons .im .nil))) (Yl ?_)
    try simp only [Ex.t, Ex.b]
    exact Yh rfl (.tmp (.tmp .nil))
   refine Yb (Ye (Y2 2 [4, 1] [(4, sU x10.1), Z8k] ?_))
   refine Y1 ?_
   exact ⟨x10.1, H, (StC.mk (phi [(1, some 1)]) (.o rfl (.i6 .nil) .nil) rfl (.cons (.r rfl) (.cons .im .nil)))⟩
  refine Yb ?_
  exact ⟨[], H, (StC.mk (phi [(1, some 1)]) (.o rfl (.i6 .nil) .nil) rfl (.cons (.r rfl) (.cons .nil .nil)))⟩
 intro v2 H
 unfold Y1q at H
 change AW _ _ _ [Z8k, (4, sU v2)] (Z8i t0) _
 refine Y0 (Y2 4 [40, 38, 1, 4] [(40, .bool t0.Back), (38, .agg [.j t0.Label.N, .j t0.Label.K]), Z8k, (4, sU v2)] ?_)
 have ⟨x3, hx3, H⟩ := Yt H
 refine Ys rfl (.cons (.pur rfl) (.cons (.pur rfl) .nil)) (f_number_Page_ok hx3) (Y2 5 [8, 7, 1, 4] [(8, .j x3.2), (7, sU x3.1), Z8k, (4, sU v2)] ?_)
 refine Y1 (Yc (Y0 (Y2 2 [45, 7, 1, 4] [(45, .bool (x3.2 != 0)), (7, sU x3.1), Z8k, (4, sU v2)] ?_)))
 refine Y1 (Y9 (b := x3.2 != 0) H rfl (fun c4 H => ?_) (fun c4 H => ?_))
 ·refine Y0 (Y2 2 [3, 2] [(3, .j (190 : Int)), (2, .im (.val (.slice none 0 0)))] ?_)
  refine Y1 ?_
  obtain rfl := X1 H
  refine AW.recast (env' := [(2, sU []), (3, .j (190 : Int))]) (h' := []) (StC.pure (.cons .nil (.cons .im .nil))) (Yl ?_)
  try simp only [Ex.t, Ex.b]
  exact Yh rfl (.tmp (.tmp .nil))
 refine Yb (Y0 ?_)
 have ⟨g5, H⟩ := Y6 H
 have ⟨g6, H⟩ := Y6 H
 refine Y8 9 [54, 46, 7] [(54, .j ((t0.Width - (v2.length : Int)) - (x3.1.length : Int))), (46, sU v2), (7, sU x3.1)] ⟨g5, g6, trivial⟩ ?_
 have ⟨g7, H⟩ := Y6 H
 refine OpsW.makeT (enc := eI .u8) (0 : Int) rfl rfl rfl 55 rfl E41 rfl rfl rfl g7 (Y2 1 [56, 55, 46] [(56, sU x3.1), (55, .rsl 55 0 0 ((Z8j t0 v2 x3).length)), (46, sU v2)] (Ya [(56, sU x3.1), (55, sU (Z8j t0 v2 x3)), (46, sU v2)] (Z8i t0) (StC.mk (phi [(1, some 1)]) (.o rfl (.i6 .nil) .nil) rfl (.cons .im (.cons (.frz rfl rfl rfl (Y1b (eI .u8) 1 (fun _ => rfl) (Z8j t0 v2 x3)) (Yy (eI .u8) 1 (fun _ => rfl) (Z8j t0 v2 x3)) (Y3c rfl)) (.cons .im .nil)))) (OpsW.buildTI (enc := eL (eI .u8)) [v2, List.replicate ((t0.Width - (v2.length : Int)) - (x3.1.length : Int)).toNat (0 : Int), x3.1] rfl rfl rfl E36 (fun _ => rfl) (by decide) ⟨trivial, by kernel_rfl, by kernel_rfl, by kernel_rfl, rfl⟩ ?_)))
 have ⟨x8, hx8, H⟩ := Yt H
 refine Ys rfl (.cons (.pur rfl) .nil) (f_number_join_ok hx8) (Y2 2 [3, 2] [(3, .j (0 : Int)), (2, sU x8)] (Y1 ?_))
 obtain rfl := X1 H
 refine AW.recast (env' := [(2, sU x8), (3, .j (0 : Int))]) (h' := []) (StC.pure (.i2 .nil)) (Yl ?_)
 try simp only [Ex.t, Ex.b]
 exact Yh rfl (.tmp (.tmp .nil))
def Y2c (t0 : List Int) (t1 : List Int) (loop3 : (Int) → Option Bool) (v2 : Int) : Option Bool :=
 cond (decide (v2 < (t0.length : Int))) (
  G (0 ≤ v2 ∧ v2 < (t0.length : Int)) <|
  G (0 ≤ v2 ∧ v2 < (t1.length : Int)) <|
  cond ((t0.getD v2.toNat 0) != (t1.getD v2.toNat 0)) (
   some false) (
   G (inR (v2 + 1)) <|
   loop3 (v2 + 1))) (
  some true)
def Y1y (t0 : List Int) (t1 : List Int) : Option Bool :=
 cond ((t0.length : Int) != (t1.length : Int)) (
  some false) (
  iter (fun loop (s : Int) => Y2c t0 t1 loop s) 1000000 (0 : Int))
section
variable (t0 : List Int) (t1 : List Int) (v2 : Int)
abbrev Z8o := (t0.length : Int)
abbrev Z8m : Env := [(0, sU t0), (1, sU t1), (12, .j (Z8o t0)), (13, .j v2)]
abbrev Z8n : Env := (22, .ipt (t1.flatMap (eI .u8)) (v2.toNat * 1)) :: (21, .j v2) :: (20, sU t1) :: (19, .int .u8 (t0.getD v2.toNat 0)) :: (18, .ipt (t0.flatMap (eI .u8)) (v2.toNat * 1)) :: (17, .j v2) :: (16, sU t0) :: (5, .j v2) :: (Z8m t0 t1 v2)
end
theorem f_slices_Equal_api_Cell_ok  {t0 : List Int} {t1 : List Int} {r : Bool} (H : Y1y t0 t1 = some r) : QSpec Tryd.prog 74 [slA (eI .u8) t0, slA (eI .u8) t1] (.bool r) := by
 refine Yj Tryd.func74 rfl (by simp [Tryd.ntmps74]) ?_
 rw [Tryd.ntmps74]
 unfold Y1y at H
 change AW _ _ _ [(0, sU t0), (1, sU t1)] [] _
 refine Y0 (Y2 1 [0, 1] [(0, sU t0), (1, sU t1)] ?_)
 refine Y1 (Yc (Y0 (Y2 5 [10, 0, 1] [(10, .bool ((Z8o t0) != (t1.length : Int))), (0, sU t0), (1, sU t1)] ?_)))
 refine Y1 (Y9 (b := (Z8o t0) != (t1.length : Int)) H rfl (fun c1 H => ?_) (fun c1 H => ?_))
 ·refine Y0 (Y2 1 [4] [(4, .bool false)] ?_)
  refine Y1 ?_
  obtain rfl := X1 H
  refine AW.recast (env' := [(4, .bool false)]) (h' := []) (StC.pure (.cons .im .nil)) (Yl ?_)
  try simp only [Ex.t, Ex.b]
  exact Yh rfl (.tmp .nil)
 refine Yb (Yc (Y0 (Y2 3 [13, 12, 0, 1] [(13, .j (0 : Int)), (12, .j (Z8o t0)), (0, sU t0), (1, sU t1)] ?_)))
 refine Y1 (Yd ?_)
 refine Yq (fun loop (s : Int) => Y2c t0 t1 loop s) r (fun (s : Int) => [(0, sU t0), (1, sU t1), (12, .j (Z8o t0)), (13, .j s)]) (fun (s : Int) => []) ?_ 1000000 (0 : Int) H (StC.pure (.i4 .nil))
 intro loop3 v2 H
 unfold Y2c at H
 change AW _ _ _ (Z8m t0 t1 v2) [] _
 refine Y0 (Y2 1 [14, 0, 1, 12, 13] ((14, .bool (decide (v2 < (Z8o t0)))) :: (Z8m t0 t1 v2)) ?_)
 refine Y1 (Yc (Y9 (b := decide (v2 < (Z8o t0))) H rfl (fun c4 H => ?_) (fun c4 H => ?_)))
 ·refine Yb (Yc (Yd (Y0 (Y2 2 [5, 0, 1, 12, 13] ((5, .j v2) :: (Z8m t0 t1 v2)) ?_))))
  refine Y1 (Y0q Tryd.checked.mixed (by kernel_rfl) ?_)
  have ⟨g5, H⟩ := Y6 H
  refine QOps.sz (N := 26) 3 ((18, .ipt (t0.flatMap (eI .u8)) (v2.toNat * 1)) :: (17, .j v2) :: (16, sU t0) :: (5, .j v2) :: (Z8m t0 t1 v2)) ⟨g5, trivial⟩ (QOps.asU (.int .u8 (t0.getD v2.toNat 0)) rfl (T.load rfl trivial (by kernel_rfl) (Yn (eI .u8) 1 (fun _ => rfl) t0 (0 : Int) v2.toNat (ltN g5) (fun a => .val (.int .u8 a)) (fun _ => rfl))) ?_)
  have ⟨g6, H⟩ := Y6 H
  refine QOps.sz (N := 26) 3 (Z8n t0 t1 v2) ⟨g6, trivial⟩ (QOps.asU (.int .u8 (t1.getD v2.toNat 0)) rfl (T.load rfl trivial (by kernel_rfl) (Yn (eI .u8) 1 (fun _ => rfl) t1 (0 : Int) v2.toNat (ltN g6) (fun a => .val (.int .u8 a)) (fun _ => rfl))) (QOps.sz (N := 26) 1 ((24, .bool ((t0.getD v2.toNat 0) != (t1.getD v2.toNat 0))) :: (23, .int .u8 (t1.getD v2.toNat 0)) :: (Z8n t0 t1 v2)) trivial ?_))
  refine QOps.nil (AW.trim [24, 0, 1, 12, 13] ((24, .bool ((t0.getD v2.toNat 0) != (t1.getD v2.toNat 0))) :: (Z8m t0 t1 v2)) (by kernel_rfl) ?_)
  refine Y9 (b := (t0.getD v2.toNat 0) != (t1.getD v2.toNat 0)) H rfl (fun c7 H => ?_) (fun c7 H => ?_)
  ·refine Y0 (Y2 1 [4] [(4, .bool false)] ?_)
   refine Y1 ?_
   obtain rfl := X1 H
   refine AW.recast (env' := [(4, .bool false)]) (h' := []) (StC.pure (.cons .im .nil)) (Yl ?_)
   try simp only [Ex.t, Ex.b]
   exact Yh rfl (.tmp .nil)
  refine Yb (Ye ?_)
  have ⟨g8, H⟩ := Y6 H
  refine Y8 2 [13, 0, 1, 12] [(13, .j (v2 + 1)), (0, sU t0), (1, sU t1), (12, .j (Z8o t0))] ⟨g8, trivial⟩ (Y1 ?_)
  exact ⟨v2 + 1, H, (StC.pure (.i4 .nil))⟩
 refine AW.exit ?_
 refine Y0 (Y2 1 [4] [(4, .bool true)] ?_)
 refine Y1 ?_
 obtain rfl := X1 H
 refine AW.recast (env' := [(4, .bool true)]) (h' := []) (StC.pure (.cons .im .nil)) (Yl ?_)
 try simp only [Ex.t, Ex.b]
 exact Yh rfl (.tmp .nil)
def Y0o (t0 : List Int) (v16 : Y3) (v17 : Y3) : Option (Y3 × Int) :=
 (Y44 v17).bind fun x18 =>
 (cond (!(x18.2 != 0)) (Y1y x18.1 t0) (some false)).bind fun x19 =>
 cond (cond (x18.2 != 0) true (!x19)) (
  some ((⟨(0 : Int), (⟨(0 : Int), (0 : Int)⟩ : Yu), false, (0 : Int), (0 : Int)⟩ : Y3), (190 : Int))) (
  some (v17, (0 : Int)))
def Y0n (t0 : List Int) (v4 : Int) (v9 : Y3) (v10 : Y3) : Option (Y3 × Int) :=
 G (inR (v4 + 1)) <|
 G (0 ≤ (v4 + 1) ∧ (v4 + 1) ≤ (t0.length : Int)) <|
 (Y1h (t0.drop ((v4 + 1).toNat))).bind fun x13 =>
 G (inR (x13.1 + 1)) <|
 G (inR (Int.tdiv (x13.1 + 1) (2 : Int))) <|
 G (0 ≤ x13.2.1 ∧ x13.2.1 ≤ ((t0.drop ((v4 + 1).toNat)).length : Int)) <|
 cond ((((t0.drop ((v4 + 1).toNat)).drop x13.2.1.toNat).length : Int) == (2 : Int)) (
  G (0 ≤ (1 : Int) ∧ 1 < (((t0.drop ((v4 + 1).toNat)).drop x13.2.1.toNat).length : Int)) <|
  (Y43 (((t0.drop ((v4 + 1).toNat)).drop x13.2.1.toNat).getD (1 : Int).toNat (0 : Int))).bind fun x24 =>
  Y0o t0 v9 (⟨v10.Width, (⟨Int.tdiv (x13.1 + 1) (2 : Int), x24⟩ : Yu), (Int.tmod x13.1 (2 : Int)) == 0, v10.Ink, v10.Part⟩ : Y3)) (
  Y0o t0 v9 (⟨v10.Width, (⟨Int.tdiv (x13.1 + 1) (2 : Int), v10.Label.K⟩ : Yu), (Int.tmod x13.1 (2 : Int)) == 0, v10.Ink, v10.Part⟩ : Y3))
def Y0m (t0 : List Int) (v4 : Int) (v27 : Y3) (v28 : Y3) (v29 : List Int) : Option (Y3 × Int) :=
 (Y1h v29).bind fun x30 =>
 Y0n t0 v4 v27 (⟨v28.Width, v28.Label, v28.Back, x30.1, v28.Part⟩ : Y3)
def Y1a (t0 : List Int) (x1 : Int) (loop5 : (Int) → Option (Y3 × Int)) (v4 : Int) : Option (Y3 × Int) :=
 G (0 ≤ v4 ∧ v4 < (t0.length : Int)) <|
 cond ((t0.getD v4.toNat 0) != 0) (
  G (inR (v4 - 1)) <|
  loop5 (v4 - 1)) (
  G (0 ≤ x1 ∧ x1 ≤ (t0.length : Int)) <|
  cond (decide (0 < ((t0.take x1.toNat).length : Int))) (
   G ((decide (2 < ((t0.take x1.toNat).length : Int))) = true → (0 ≤ (0 : Int) ∧ 0 < ((t0.take x1.toNat).length : Int))) <|
   cond (cond (decide (2 < ((t0.take x1.toNat).length : Int))) (((t0.take x1.toNat).getD (0 : Int).toNat (0 : Int)) == 48) false) (
    G (0 ≤ (1 : Int) ∧ 1 < ((t0.take x1.toNat).length : Int)) <|
    (Y43 ((t0.take x1.toNat).getD (1 : Int).toNat (0 : Int))).bind fun x34 =>
    G (0 ≤ (2 : Int) ∧ 2 ≤ ((t0.take x1.toNat).length : Int)) <|
    Y0m t0 v4 (⟨(0 : Int), (⟨(0 : Int), (0 : Int)⟩ : Yu), false, (0 : Int), (0 : Int)⟩ : Y3) (⟨(t0.length : Int), (⟨(0 : Int), (0 : Int)⟩ : Yu), false, (0 : Int), x34⟩ : Y3) ((t0.take x1.toNat).drop ((2 : Int).toNat))) (
    Y0m t0 v4 (⟨(0 : Int), (⟨(0 : Int), (0 : Int)⟩ : Yu), false, (0 : Int), (0 : Int)⟩ : Y3) (⟨(t0.length : Int), (⟨(0 : Int), (0 : Int)⟩ : Yu), false, (0 : Int), (0 : Int)⟩ : Y3) (t0.take x1.toNat))) (
   Y0n t0 v4 (⟨(0 : Int), (⟨(0 : Int), (0 : Int)⟩ : Yu), false, (0 : Int), (0 : Int)⟩ : Y3) (⟨(t0.length : Int), (⟨(0 : Int), (0 : Int)⟩ : Yu), false, (0 : Int), (0 : Int)⟩ : Y3)))
def Y07 (t0 : List Int) : Option (Y3 × Int) :=
 (Y37 t0 (0 : Int)).bind fun x1 =>
 cond (decide (x1 < 0)) (
  some ((⟨(0 : Int), (⟨(0 : Int), (0 : Int)⟩ : Yu), false, (0 : Int), (0 : Int)⟩ : Y3), (190 : Int))) (
  G (inR ((t0.length : Int) - 1)) <|
  iter (fun loop (s : Int) => Y1a t0 x1 loop s) 1000000 ((t0.length : Int) - 1))
section
variable (t0 : List Int) (v4 : Int) (v9 : Y3) (v10 : Y3) (v16 : Y3) (v17 : Y3) (v27 : Y3) (v28 : Y3) (x1 : Int) (x13 : (Int × Int × Int)) (x30 : (Int × Int × Int)) (x34 : Int)
abbrev Z94 : List AV := [.j (0 : Int), .j (0 : Int), .j (0 : Int), .bool false, .j (0 : Int), .j (0 : Int)]
abbrev Z95 : List AV := [.j v17.Width, .j v17.Label.N, .j v17.Label.K, .bool v17.Back, .j v17.Ink, .j v17.Part]
abbrev Z96 := (t0.drop ((v4 + 1).toNat)).drop x13.2.1.toNat
abbrev Z97 : Nat × AV := (2, .ref 2 0 0)
abbrev Z98 := (⟨(0 : Int), (⟨(0 : Int), (0 : Int)⟩ : Yu), false, (0 : Int), (0 : Int)⟩ : Y3)
abbrev Z99 : List AV := [.j (t0.length : Int), .j (0 : Int), .j (0 : Int), .bool false, .j (0 : Int), .j (0 : Int)]
abbrev Z9a : List AV := [.j v9.Width, .j v9.Label.N, .j v9.Label.K, .bool v9.Back, .j v9.Ink, .j v9.Part]
abbrev Z9b := t0.take x1.toNat
abbrev Z9c := ((Int.tmod x13.1 (2 : Int)) == 0)
abbrev Z9d := (Int.tdiv (x13.1 + 1) (2 : Int))
abbrev Z9e := (⟨(t0.length : Int), (⟨(0 : Int), (0 : Int)⟩ : Yu), false, (0 : Int), (0 : Int)⟩ : Y3)
abbrev Z9f := (decide (2 < ((Z9b t0 x1).length : Int)))
abbrev Z9g : Nat × AV := (6, .ref 6 0 0)
abbrev Z9h : List AV := [.j v27.Width, .j v27.Label.N, .j v27.Label.K, .bool v27.Back, .j v27.Ink, .j v27.Part]
abbrev Z9i := ((Z9b t0 x1).getD (0 : Int).toNat (0 : Int))
abbrev Z9j : List AV := [.j (t0.length : Int), .j (0 : Int), .j (0 : Int), .bool false, .j (0 : Int), .j x34]
abbrev Z9k : List AV := [.j v10.Width, .j (Z9d x13), .j v10.Label.K, .bool (Z9c x13), .j v10.Ink, .j v10.Part]
abbrev Z9l : List AV := [.j v28.Width, .j v28.Label.N, .j v28.Label.K, .bool v28.Back, .j x30.1, .j v28.Part]
abbrev Z9m := t0.drop ((v4 + 1).toNat)
abbrev Z8p : Hp := [(2, ⟨0, true, 86, 6, Z94⟩)]
abbrev Z8q : Env := [(0, sU t0), Z97, Z9g]
abbrev Z8r : Env := [(7, sU (Z9b t0 x1)), Z9g, (0, sU t0), Z97, (5, .j v4)]
abbrev Z8s : Hp := [(2, ⟨0, true, 86, 6, [.j v16.Width, .j v16.Label.N, .j v16.Label.K, .bool v16.Back, .j v16.Ink, .j v16.Part]⟩), (6, ⟨0, true, 86, 6, (Z95 v17)⟩)]
abbrev Z8t : Hp := [(2, ⟨0, true, 86, 6, (Z9a v9)⟩), (6, ⟨0, true, 86, 6, [.j v10.Width, .j v10.Label.N, .j v10.Label.K, .bool v10.Back, .j v10.Ink, .j v10.Part]⟩)]
abbrev Z8u : Hp := [(2, ⟨0, true, 86, 6, (Z9a v9)⟩), (6, ⟨0, true, 86, 6, (Z9k v10 x13)⟩)]
abbrev Z8v : Hp := [(2, ⟨0, true, 86, 6, Z94⟩), (6, ⟨0, true, 86, 6, (Z99 t0)⟩)]
abbrev Z8w : Env := [(0, sU t0), Z97, (5, .j v4), Z9g]
abbrev Z8x : Hp := [(2, ⟨0, true, 86, 6, (Z9h v27)⟩), (6, ⟨0, true, 86, 6, [.j v28.Width, .j v28.Label.N, .j v28.Label.K, .bool v28.Back, .j v28.Ink, .j v28.Part]⟩)]
abbrev Z8y : Env := (8, sU (Z9m t0 v4)) :: (Z8q t0)
abbrev Z8z : Env := [(0, sU t0), Z97, (4, .j x1), (5, .j v4)]
abbrev Z90 : Hp := (6, ⟨0, true, 86, 6, [.j v10.Width, .j (Z9d x13), .j v10.Label.K, .bool v10.Back, .j v10.Ink, .j v10.Part]⟩) :: (Z8t v9 v10)
abbrev Z91 : Hp := [(2, ⟨0, true, 86, 6, (Z95 v17)⟩)]
abbrev Z92 : Env := [(3, .j (190 : Int)), Z97]
abbrev Z93 : Env := [Z97, (0, sU t0)]
end
theorem f_number_ReadHeader_ok  {t0 : List Int} {r : Y3 × Int} (H : Y07 t0 = some r) : QSpec Tryd.prog 62 [slA (eI .u8) t0] (.tup [.agg [.int .i64 r.1.Width, .int .i64 r.1.Label.N, .int .i64 r.1.Label.K, .bool r.1.Back, .int .i64 r.1.Ink, .int .i64 r.1.Part], .int .i64 r.2]) := by
 refine Yj Tryd.func62 rfl (by simp [Tryd.ntmps62]) ?_
 rw [Tryd.ntmps62]
 unfold Y07 at H
 change AW _ _ _ [(0, sU t0)] [] _
 refine Y0 (Yo rfl rfl rfl 2 rfl (by kernel_rfl : zc Tryd.prog 86 = some [.j 0, .j 0, .j 0, .bool false, .j 0, .j 0]) (by kernel_rfl) ?_)
 refine Y2 1 [2, 0] (Z93 t0) (Ya (Z93 t0) Z8p (StC.mk (phi [(2, some 2)]) (.o rfl (.i6 .nil) .nil) rfl (.cons (.r rfl) (.cons .im .nil))) ?_)
 refine Y1 (Y0 (Y2 1 [14, 2, 0] ((14, sU t0) :: (Z93 t0)) ?_))
 have ⟨x1, hx1, H⟩ := Yt H
 refine Ys rfl (.cons (.pur rfl) (.cons (.pur rfl) .nil)) (f_slices_Index_api_Cell_ok hx1) (Y2 1 [4, 2, 0] ((4, .j x1) :: (Z93 t0)) ?_)
 refine Y1 (Yc (Y0 (Y2 2 [17, 4, 2, 0] ((17, .bool (decide (x1 < 0))) :: (4, .j x1) :: (Z93 t0)) ?_)))
 refine Y1 (Y9 (b := decide (x1 < 0)) H rfl (fun c2 H => ?_) (fun c2 H => ?_))
 ·refine Y0 (Y2 1 [18, 2] [(18, .agg Z94), Z97] ?_)
  refine OpsW.store rfl rfl rfl rfl trivial trivial rfl rfl rfl (by kernel_rfl) (Y5 (by kernel_rfl)) (X0 (by kernel_rfl)) ?_
  change OpsW _ _ _ _ _ ((2, ⟨0, true, 86, 6, Z94⟩) :: Z8p) _
  refine Y2 1 [3, 2] Z92 (Ya Z92 Z8p (StC.mk (phi [(2, some 2)]) (.o rfl (.i6 .nil) .nil) rfl (.cons .im (.cons (.r rfl) .nil))) (Y1 ?_))
  obtain rfl := X1 H
  refine AW.recast (env' := [Z97, (3, .j (190 : Int))]) (h' := Z8p) (StC.mk (phi [(2, some 2)]) (.o rfl (.i6 .nil) .nil) rfl (.cons (.r rfl) (.cons .im .nil))) (Yl ?_)
  try simp only [Ex.t, Ex.b]
  exact Yh rfl (.cell rfl (by kernel_rfl) (.tmp .nil))
 refine Yb (Y0 ?_)
 have ⟨g3, H⟩ := Y6 H
 refine Y8 4 [5, 4, 2, 0] ((5, .j ((t0.length : Int) - 1)) :: (4, .j x1) :: (Z93 t0)) ⟨g3, trivial⟩ ?_
 refine Y1 (Yc (Yd ?_))
 refine Yq (fun loop (s : Int) => Y1a t0 x1 loop s) r (fun (s : Int) => [(0, sU t0), Z97, (4, .j x1), (5, .j s)]) (fun (s : Int) => Z8p) ?_ 1000000 ((t0.length : Int) - 1) H (StC.mk (phi [(2, some 2)]) (.o rfl (.i6 .nil) .nil) rfl (.cons .im (.cons (.r rfl) (.i2 .nil))))
 intro loop5 v4 H
 unfold Y1a at H
 change AW _ _ _ (Z8z t0 v4 x1) Z8p _
 refine Yc (Y0 ?_)
 have ⟨g6, H⟩ := Y6 H
 refine Y8 3 [24, 0, 2, 4, 5] ((24, .ipt (t0.flatMap (eI .u8)) (v4.toNat * 1)) :: (Z8z t0 v4 x1)) ⟨g6, trivial⟩ (OpsW.asU (.int .u8 (t0.getD v4.toNat 0)) rfl rfl (T.load rfl trivial (by kernel_rfl) (Yn (eI .u8) 1 (fun _ => rfl) t0 (0 : Int) v4.toNat (ltN g6) (fun a => .val (.int .u8 a)) (fun _ => rfl))) (Y2 1 [26, 0, 2, 4, 5] ((26, .bool ((t0.getD v4.toNat 0) != 0)) :: (Z8z t0 v4 x1)) (Y1 (Y9 (b := (t0.getD v4.toNat 0) != 0) H rfl (fun c7 H => ?_) (fun c7 H => ?_)))))
 ·refine Yb (Yd (Ye ?_))
  have ⟨g8, H⟩ := Y6 H
  refine Y8 3 [5, 0, 2, 4] [(5, .j (v4 - 1)), (0, sU t0), Z97, (4, .j x1)] ⟨g8, trivial⟩ (Y1 ?_)
  exact ⟨v4 - 1, H, (StC.mk (phi [(2, some 2)]) (.o rfl (.i6 .nil) .nil) rfl (.cons .im (.cons (.r rfl) (.i2 .nil))))⟩
 refine AW.exit ?_
 refine Y0 (Y2 3 [31, 0, 2, 4, 5] ((31, .agg (Z99 t0)) :: (Z8z t0 v4 x1)) ?_)
 refine Yo rfl rfl rfl 6 rfl (by kernel_rfl : zc Tryd.prog 86 = some [.j 0, .j 0, .j 0, .bool false, .j 0, .j 0]) (by kernel_rfl) (OpsW.store rfl rfl rfl rfl trivial trivial rfl rfl rfl (by kernel_rfl) (Y5 (by kernel_rfl)) (X0 (by kernel_rfl)) ?_)
 change OpsW _ _ _ _ _ ((6, ⟨0, true, 86, 6, (Z99 t0)⟩) :: (6, ⟨0, true, 86, 6, Z94⟩) :: Z8p) _
 refine Y2 0 [6, 0, 2, 4, 5] (Z9g :: (Z8z t0 v4 x1)) (Ya (Z9g :: (Z8z t0 v4 x1)) (Z8v t0) (StC.mk (phi [(2, some 2), (6, some 6)]) (.o rfl (.i6 .nil) (.o rfl (.i6 .nil) .nil)) rfl (.cons (.r rfl) (.cons .im (.cons (.r rfl) (.i2 .nil))))) (Y1 ?_))
 refine Y08 (fun (y : Y3 × Y3) => Y0n t0 v4 y.1 y.2) r (fun (y : Y3 × Y3) => (Z8w t0 v4)) (fun (y : Y3 × Y3) => [(2, ⟨0, true, 86, 6, [.j y.1.Width, .j y.1.Label.N, .j y.1.Label.K, .bool y.1.Back, .j y.1.Ink, .j y.1.Part]⟩), (6, ⟨0, true, 86, 6, [.j y.2.Width, .j y.2.Label.N, .j y.2.Label.K, .bool y.2.Back, .j y.2.Ink, .j y.2.Part]⟩)]) ?_ ?_
 ·refine Y0 (Y2 2 [33, 32, 6, 0, 2, 5] [(33, .j x1), (32, sU t0), Z9g, (0, sU t0), Z97, (5, .j v4)] ?_)
  have ⟨g25, H⟩ := Y6 H
  refine OpsW.asU (sU (Z9b t0 x1)) rfl rfl (T.slice' rfl trivial trivial trivial (by kernel_rfl) (by kernel_rfl) g25 trivial (sl_hi (eI .u8) 1 (fun _ => rfl) t0 x1 g25)) (Y2 1 [7, 6, 0, 2, 5] (Z8r t0 v4 x1) ?_)
  refine Y1 (Y0 (Y2 3 [37, 7, 6, 0, 2, 5] ((37, .bool (decide (0 < ((Z9b t0 x1).length : Int)))) :: (Z8r t0 v4 x1)) ?_))
  refine Y1 (Y9 (b := decide (0 < ((Z9b t0 x1).length : Int))) H rfl (fun c26 H => ?_) (fun c26 H => ?_))
  ·refine Y08 (fun (y : Y3 × Y3 × (List Int)) => Y0m t0 v4 y.1 y.2.1 y.2.2) r (fun (y : Y3 × Y3 × (List Int)) => [(0, sU t0), Z97, (5, .j v4), Z9g, (7, sU y.2.2)]) (fun (y : Y3 × Y3 × (List Int)) => [(2, ⟨0, true, 86, 6, [.j y.1.Width, .j y.1.Label.N, .j y.1.Label.K, .bool y.1.Back, .j y.1.Ink, .j y.1.Part]⟩), (6, ⟨0, true, 86, 6, [.j y.2.1.Width, .j y.2.1.Label.N, .j y.2.1.Label.K, .bool y.2.1.Back, .j y.2.1.Ink, .j y.2.1.Part]⟩)]) ?_ ?_
   ·refine Y0 ?_
    have ⟨g31, H⟩ := Y6 H
    refine Y8 6 [43, 41, 7, 6, 0, 2, 5] ((43, .cnd (Z9f t0 x1) (.ipt ((Z9b t0 x1).flatMap (eI .u8)) ((0 : Int).toNat * 1))) :: (41, .bool (Z9f t0 x1)) :: (Z8r t0 v4 x1)) ⟨(fun h => h), g31, trivial⟩ (OpsW.asG (c := decide (2 < ((Z9b t0 x1).length : Int))) (.int .u8 (Z9i t0 x1)) rfl rfl rfl rfl (fun hc => T.load rfl hc (by kernel_rfl) (Yn (eI .u8) 1 (fun _ => rfl) (Z9b t0 x1) (0 : Int) (0 : Int).toNat (ltN (g31 hc)) (fun a => .val (.int .u8 a)) (fun _ => rfl))) (Y8 2 [46, 7, 6, 0, 2, 5] ((46, .bool (cond (Z9f t0 x1) ((Z9i t0 x1) == 48) false)) :: (Z8r t0 v4 x1)) ⟨(fun h => h), (fun h => by first | exact h | (simpa using h) | grind), trivial⟩ (Y1 (Y9 (b := cond (Z9f t0 x1) ((Z9i t0 x1) == 48) false) H rfl (fun c32 H => ?_) (fun c32 H => ?_)))))
    ·refine Y0 ?_
     have ⟨g33, H⟩ := Y6 H
     refine Y8 2 [48, 7, 6, 0, 2, 5] ((48, .ipt ((Z9b t0 x1).flatMap (eI .u8)) ((1 : Int).toNat * 1)) :: (Z8r t0 v4 x1)) ⟨g33, trivial⟩ (OpsW.asU (.int .u8 ((Z9b t0 x1).getD (1 : Int).toNat (0 : Int))) rfl rfl (T.load rfl trivial (by kernel_rfl) (Yn (eI .u8) 1 (fun _ => rfl) (Z9b t0 x1) (0 : Int) (1 : Int).toNat (ltN g33) (fun a => .val (.int .u8 a)) (fun _ => rfl))) ?_)
     have ⟨x34, hx34, H⟩ := Yt H
     refine Ys rfl (.cons (.pur rfl) .nil) (f_number_letter_ok hx34) (Y2 1 [51, 50, 7, 6, 0, 2, 5] ((51, .ref 6 0 5) :: (50, .j x34) :: (Z8r t0 v4 x1)) (OpsW.store rfl rfl rfl rfl trivial trivial rfl rfl rfl (by kernel_rfl) (Y5 (by kernel_rfl)) (X0 (by kernel_rfl)) ?_))
     change OpsW _ _ _ _ _ ((6, ⟨0, true, 86, 6, (Z9j t0 x34)⟩) :: (Z8v t0)) _
     refine Y2 0 [7, 6, 0, 2, 5] (Z8r t0 v4 x1) (Ya (Z8r t0 v4 x1) [(2, ⟨0, true, 86, 6, Z94⟩), (6, ⟨0, true, 86, 6, (Z9j t0 x34)⟩)] (StC.mk (phi [(2, some 2), (6, some 6)]) (.o rfl (.i6 .nil) (.o rfl (.i6 .nil) .nil)) rfl (.cons .im (.cons (.r rfl) (.cons .im (.cons (.r rfl) (.cons .im .nil)))))) ?_)
     refine Y1 (Ye (Y2 1 [52, 7, 6, 0, 2, 5] ((52, sU (Z9b t0 x1)) :: (Z8r t0 v4 x1)) ?_))
     have ⟨g35, H⟩ := Y6 H
     refine OpsW.asU (sU ((Z9b t0 x1).drop ((2 : Int).toNat))) rfl rfl (T.slice' rfl trivial trivial trivial (by kernel_rfl) (by kernel_rfl) trivial g35 (sl_lo (eI .u8) 1 (fun _ => rfl) (Z9b t0 x1) (2 : Int) g35)) (Y2 1 [7, 6, 0, 2, 5] [(7, sU ((Z9b t0 x1).drop ((2 : Int).toNat))), Z9g, (0, sU t0), Z97, (5, .j v4)] (Y1 ?_))
     exact ⟨(Z98, (⟨(t0.length : Int), (⟨(0 : Int), (0 : Int)⟩ : Yu), false, (0 : Int), x34⟩ : Y3), (Z9b t0 x1).drop ((2 : Int).toNat)), H, (StC.mk (phi [(2, some 2), (6, some 6)]) (.o rfl (.i6 .nil) (.o rfl (.i6 .nil) .nil)) rfl (.cons .im (.cons (.r rfl) (.cons .im (.cons (.r rfl) (.cons .im .nil))))))⟩
    refine Yb ?_
    exact ⟨(Z98, (Z9e t0), t0.take x1.toNat), H, (StC.mk (phi [(2, some 2), (6, some 6)]) (.o rfl (.i6 .nil) (.o rfl (.i6 .nil) .nil)) rfl (.cons .im (.cons (.r rfl) (.cons .im (.cons (.r rfl) (.cons .im .nil))))))⟩
   rintro ⟨v27, v28, v29⟩ H
   unfold Y0m at H
   change AW _ _ _ [(0, sU t0), Z97, (5, .j v4), Z9g, (7, sU v29)] (Z8x v27 v28) _
   refine Ye (Y2 1 [55, 0, 2, 5, 6] ((55, sU v29) :: (Z8w t0 v4)) ?_)
   have ⟨x30, hx30, H⟩ := Yt H
   refine Ys rfl (.cons (.pur rfl) .nil) (f_number_Read_ok hx30) (Y2 5 [60, 57, 0, 2, 5, 6] ((60, .ref 6 0 4) :: (57, .j x30.1) :: (Z8w t0 v4)) (OpsW.store rfl rfl rfl rfl trivial trivial rfl rfl rfl (by kernel_rfl) (Y5 (by kernel_rfl)) (X0 (by kernel_rfl)) ?_))
   change OpsW _ _ _ _ _ ((6, ⟨0, true, 86, 6, (Z9l v28 x30)⟩) :: (Z8x v27 v28)) _
   refine Y2 0 [0, 2, 5, 6] (Z8w t0 v4) (Ya (Z8w t0 v4) [(2, ⟨0, true, 86, 6, (Z9h v27)⟩), (6, ⟨0, true, 86, 6, (Z9l v28 x30)⟩)] (StC.mk (phi [(2, some 2), (6, some 6)]) (.o rfl (.i6 .nil) (.o rfl (.i6 .nil) .nil)) rfl (.cons .im (.cons (.r rfl) (.cons .im (.cons (.r rfl) .nil))))) (Y1 ?_))
   exact ⟨(v27, (⟨v28.Width, v28.Label, v28.Back, x30.1, v28.Part⟩ : Y3)), H, (StC.mk (phi [(2, some 2), (6, some 6)]) (.o rfl (.i6 .nil) (.o rfl (.i6 .nil) .nil)) rfl (.cons .im (.cons (.r rfl) (.cons .im (.cons (.r rfl) .nil)))))⟩
  refine Yb ?_
  exact ⟨(Z98, (Z9e t0)), H, (StC.mk (phi [(2, some 2), (6, some 6)]) (.o rfl (.i6 .nil) (.o rfl (.i6 .nil) .nil)) rfl (.cons .im (.cons (.r rfl) (.cons .im (.cons (.r rfl) .nil)))))⟩
 rintro ⟨v9, v10⟩ H
 unfold Y0n at H
 change AW _ _ _ (Z8w t0 v4) (Z8t v9 v10) _
 refine Y0 ?_
 have ⟨g11, H⟩ := Y6 H
 refine Y8 3 [63, 61, 0, 2, 6] ((63, .j (v4 + 1)) :: (61, sU t0) :: (Z8q t0)) ⟨g11, trivial⟩ ?_
 have ⟨g12, H⟩ := Y6 H
 refine OpsW.asU (sU (Z9m t0 v4)) rfl rfl (T.slice' rfl trivial trivial trivial (by kernel_rfl) (by kernel_rfl) trivial g12 (sl_lo (eI .u8) 1 (fun _ => rfl) t0 (v4 + 1) g12)) (Y2 1 [8, 0, 2, 6] (Z8y t0 v4) ?_)
 refine Y1 (Y0 (Y2 1 [66, 8, 0, 2, 6] ((66, sU (Z9m t0 v4)) :: (Z8y t0 v4)) ?_))
 have ⟨x13, hx13, H⟩ := Yt H
 refine Ys rfl (.cons (.pur rfl) .nil) (f_number_Read_ok hx13) (Y2 7 [10, 9, 8, 0, 2, 6] ((10, .j x13.2.1) :: (9, .j x13.1) :: (Z8y t0 v4)) ?_)
 refine Y1 (Y0 ?_)
 have ⟨g14, H⟩ := Y6 H
 have ⟨g15, H⟩ := Y6 H
 refine Y8 8 [78, 76, 73, 10, 8, 0, 2, 6] ((78, .ref 6 0 1) :: (76, .bool (Z9c x13)) :: (73, .j (Z9d x13)) :: (10, .j x13.2.1) :: (Z8y t0 v4)) ⟨g14, (by decide), g15, (by decide), trivial⟩ (OpsW.store rfl rfl rfl rfl trivial trivial rfl rfl rfl (by kernel_rfl) (Y5 (by kernel_rfl)) (X0 (by kernel_rfl)) ?_)
 change OpsW _ _ _ _ _ (Z90 v9 v10 x13) _
 refine Y2 1 [79, 76, 10, 8, 0, 2, 6] ((79, .ref 6 0 3) :: (76, .bool (Z9c x13)) :: (10, .j x13.2.1) :: (Z8y t0 v4)) (OpsW.store rfl rfl rfl rfl trivial trivial rfl rfl rfl (by kernel_rfl) (Y5 (by kernel_rfl)) (X0 (by kernel_rfl)) ?_)
 change OpsW _ _ _ _ _ ((6, ⟨0, true, 86, 6, (Z9k v10 x13)⟩) :: (Z90 v9 v10 x13)) _
 refine Y2 0 [10, 8, 0, 2, 6] ((10, .j x13.2.1) :: (Z8y t0 v4)) (Ya ((10, .j x13.2.1) :: (Z8y t0 v4)) (Z8u v9 v10 x13) (StC.mk (phi [(2, some 2), (6, some 6)]) (.o rfl (.i6 .nil) (.o rfl (.i6 .nil) .nil)) rfl (.i3 (.cons (.r rfl) (.cons (.r rfl) .nil)))) (Y1 ?_))
 refine Y08 (fun (y : Y3 × Y3) => Y0o t0 y.1 y.2) r (fun (y : Y3 × Y3) => (Z8q t0)) (fun (y : Y3 × Y3) => [(2, ⟨0, true, 86, 6, [.j y.1.Width, .j y.1.Label.N, .j y.1.Label.K, .bool y.1.Back, .j y.1.Ink, .j y.1.Part]⟩), (6, ⟨0, true, 86, 6, [.j y.2.Width, .j y.2.Label.N, .j y.2.Label.K, .bool y.2.Back, .j y.2.Ink, .j y.2.Part]⟩)]) ?_ ?_
 ·refine Y0 (Y2 2 [81, 80, 8, 0, 2, 6] ((81, .j x13.2.1) :: (80, sU (Z9m t0 v4)) :: (Z8y t0 v4)) ?_)
  have ⟨g21, H⟩ := Y6 H
  refine OpsW.asU (sU (Z96 t0 v4 x13)) rfl rfl (T.slice' rfl trivial trivial trivial (by kernel_rfl) (by kernel_rfl) trivial g21 (sl_lo (eI .u8) 1 (fun _ => rfl) (Z9m t0 v4) x13.2.1 g21)) (Y2 1 [8, 0, 2, 6] ((8, sU (Z96 t0 v4 x13)) :: (Z8q t0)) ?_)
  refine Y1 (Y0 (Y2 3 [85, 8, 0, 2, 6] ((85, .bool (((Z96 t0 v4 x13).length : Int) == (2 : Int))) :: (8, sU (Z96 t0 v4 x13)) :: (Z8q t0)) ?_))
  refine Y1 (Y9 (b := ((Z96 t0 v4 x13).length : Int) == (2 : Int)) H rfl (fun c22 H => ?_) (fun c22 H => ?_))
  ·refine Ye ?_
   have ⟨g23, H⟩ := Y6 H
   refine Y8 2 [87, 0, 2, 6] ((87, .ipt ((Z96 t0 v4 x13).flatMap (eI .u8)) ((1 : Int).toNat * 1)) :: (Z8q t0)) ⟨g23, trivial⟩ (OpsW.asU (.int .u8 ((Z96 t0 v4 x13).getD (1 : Int).toNat (0 : Int))) rfl rfl (T.load rfl trivial (by kernel_rfl) (Yn (eI .u8) 1 (fun _ => rfl) (Z96 t0 v4 x13) (0 : Int) (1 : Int).toNat (ltN g23) (fun a => .val (.int .u8 a)) (fun _ => rfl))) ?_)
   have ⟨x24, hx24, H⟩ := Yt H
   refine Ys rfl (.cons (.pur rfl) .nil) (f_number_letter_ok hx24) (Y2 2 [91, 89, 0, 2, 6] ((91, .ref 6 0 2) :: (89, .j x24) :: (Z8q t0)) (OpsW.store rfl rfl rfl rfl trivial trivial rfl rfl rfl (by kernel_rfl) (Y5 (by kernel_rfl)) (X0 (by kernel_rfl)) ?_))
   change OpsW _ _ _ _ _ ((6, ⟨0, true, 86, 6, [.j v10.Width, .j (Z9d x13), .j x24, .bool (Z9c x13), .j v10.Ink, .j v10.Part]⟩) :: (Z8u v9 v10 x13)) _
   refine Y2 0 [0, 2, 6] (Z8q t0) (Ya (Z8q t0) [(2, ⟨0, true, 86, 6, (Z9a v9)⟩), (6, ⟨0, true, 86, 6, [.j v10.Width, .j (Z9d x13), .j x24, .bool (Z9c x13), .j v10.Ink, .j v10.Part]⟩)] (StC.mk (phi [(2, some 2), (6, some 6)]) (.o rfl (.i6 .nil) (.o rfl (.i6 .nil) .nil)) rfl (.cons .im (.cons (.r rfl) (.cons (.r rfl) .nil)))) (Y1 ?_))
   exact ⟨(v9, (⟨v10.Width, (⟨Int.tdiv (x13.1 + 1) (2 : Int), x24⟩ : Yu), (Int.tmod x13.1 (2 : Int)) == 0, v10.Ink, v10.Part⟩ : Y3)), H, (StC.mk (phi [(2, some 2), (6, some 6)]) (.o rfl (.i6 .nil) (.o rfl (.i6 .nil) .nil)) rfl (.cons .im (.cons (.r rfl) (.cons (.r rfl) .nil))))⟩
  refine Yb ?_
  exact ⟨(v9, (⟨v10.Width, (⟨Int.tdiv (x13.1 + 1) (2 : Int), v10.Label.K⟩ : Yu), (Int.tmod x13.1 (2 : Int)) == 0, v10.Ink, v10.Part⟩ : Y3)), H, (StC.mk (phi [(2, some 2), (6, some 6)]) (.o rfl (.i6 .nil) (.o rfl (.i6 .nil) .nil)) rfl (.cons .im (.cons (.r rfl) (.cons (.r rfl) .nil))))⟩
 rintro ⟨v16, v17⟩ H
 unfold Y0o at H
 change AW _ _ _ (Z8q t0) (Z8s v16 v17) _
 refine Yc (Y0 (Y2 1 [93, 0, 2, 6] ((93, .agg (Z95 v17)) :: (Z8q t0)) ?_))
 have ⟨x18, hx18, H⟩ := Yt H
 refine Ys rfl (.cons (.pur rfl) .nil) (f_number_Header_ok hx18) (Y2 5 [13, 12, 0, 2, 6] ((13, .j x18.2) :: (12, sU x18.1) :: (Z8q t0)) ?_)
 refine Y1 (Y0 (Y2 5 [101, 100, 99, 2, 6] [(101, .cnd (!(x18.2 != 0)) (sU t0)), (100, .cnd (!(x18.2 != 0)) (sU x18.1)), (99, .bool (x18.2 != 0)), Z97, Z9g] ?_))
 have ⟨x19, hx19, H⟩ := Yt H
 refine OpsW.gcall (c := !(x18.2 != 0)) (r := .bool x19) [] rfl (by kernel_rfl) rfl rfl rfl rfl (fun hc => ⟨Yg ⟨hc, hc, trivial⟩, (.cons (.pur rfl) (.cons (.pur rfl) .nil)), f_slices_Equal_api_Cell_ok (condT hc hx19), .inl ⟨rfl, rfl⟩⟩) (Y8 2 [104, 2, 6] [(104, .bool (cond (x18.2 != 0) true (!x19))), Z97, Z9g] ⟨(fun h => h), (fun h => by first | exact h | (simpa using h) | grind), trivial⟩ (Y1 (Y9 (b := cond (x18.2 != 0) true (!x19)) H rfl (fun c20 H => ?_) (fun c20 H => ?_))))
 ·refine Y0 (Y2 1 [105, 2] [(105, .agg Z94), Z97] ?_)
  refine OpsW.store rfl rfl rfl rfl trivial trivial rfl rfl rfl (by kernel_rfl) (Y5 (by kernel_rfl)) (X0 (by kernel_rfl)) ?_
  change OpsW _ _ _ _ _ ((2, ⟨0, true, 86, 6, Z94⟩) :: (Z8s v16 v17)) _
  refine Y2 1 [3, 2] Z92 (Ya Z92 Z8p (StC.mk (phi [(2, some 2)]) (.o rfl (.i6 .nil) .nil) rfl (.cons .im (.cons (.r rfl) .nil))) (Y1 ?_))
  obtain rfl := X1 H
  refine AW.recast (env' := [Z97, (3, .j (190 : Int))]) (h' := Z8p) (StC.mk (phi [(2, some 2)]) (.o rfl (.i6 .nil) .nil) rfl (.cons (.r rfl) (.cons .im .nil))) (Yl ?_)
  try simp only [Ex.t, Ex.b]
  exact Yh rfl (.cell rfl (by kernel_rfl) (.tmp .nil))
 refine Yb (Y0 (Y2 1 [106, 2] [(106, .agg (Z95 v17)), Z97] ?_))
 refine OpsW.store rfl rfl rfl rfl trivial trivial rfl rfl rfl (by kernel_rfl) (Y5 (by kernel_rfl)) (X0 (by kernel_rfl)) ?_
 change OpsW _ _ _ _ _ ((2, ⟨0, true, 86, 6, (Z95 v17)⟩) :: (Z8s v16 v17)) _
 refine Y2 1 [3, 2] [(3, .j (0 : Int)), Z97] (Ya [(3, .j (0 : Int)), Z97] (Z91 v17) (StC.mk (phi [(2, some 2)]) (.o rfl (.i6 .nil) .nil) rfl (.cons .im (.cons (.r rfl) .nil))) (Y1 ?_))
 obtain rfl := X1 H
 refine AW.recast (env' := [Z97, (3, .j (0 : Int))]) (h' := (Z91 v17)) (StC.mk (phi [(2, some 2)]) (.o rfl (.i6 .nil) .nil) rfl (.cons (.r rfl) (.cons .im .nil))) (Yl ?_)
 try simp only [Ex.t, Ex.b]
 exact Yh rfl (.cell rfl (by kernel_rfl) (.tmp .nil))
def Y3l (t0 : List (List Int)) (t1 : Int) : Option (Y3 × Bool) :=
 cond ((t0.length : Int) == 0) (
  some ((⟨(0 : Int), (⟨(0 : Int), (0 : Int)⟩ : Yu), false, (0 : Int), (0 : Int)⟩ : Y3), false)) (
  G (0 ≤ (0 : Int) ∧ (0 : Int) < (t0.length : Int)) <|
  (Y07 (t0.getD (0 : Int).toNat [])).bind fun x3 =>
  some (x3.1, cond (x3.2 == 0) (x3.1.Width == t1) false))
section
variable (t1 : Int) (x3 : (Y3 × Int))
abbrev Z9s : List AV := [.j x3.1.Width, .j x3.1.Label.N, .j x3.1.Label.K, .bool x3.1.Back, .j x3.1.Ink, .j x3.1.Part]
abbrev Z9t : List AV := [.j (0 : Int), .j (0 : Int), .j (0 : Int), .bool false, .j (0 : Int), .j (0 : Int)]
abbrev Z9u := cond (x3.2 == 0) (x3.1.Width == t1) false
abbrev Z9v : Nat × AV := (4, .ref 4 0 0)
abbrev Z9n : Hp := [(6, ⟨0, true, 86, 6, (Z9s x3)⟩)]
abbrev Z9o : Hp := [(4, ⟨0, true, 86, 6, Z9t⟩)]
abbrev Z9p : Hp := (4, ⟨0, true, 86, 6, Z9t⟩) :: (Z9n x3)
abbrev Z9q : Hp := [(4, ⟨0, true, 86, 6, (Z9s x3)⟩)]
abbrev Z9r : Env := [Z9v]
end
theorem f_sheet_header_ok  {t0 : List (List Int)} {t1 : Int} {r : Y3 × Bool} (H : Y3l t0 t1 = some r) : QSpec Tryd.prog 45 [slA (eL (eI .u8)) t0, .int .i64 t1] (.tup [.agg [.int .i64 r.1.Width, .int .i64 r.1.Label.N, .int .i64 r.1.Label.K, .bool r.1.Back, .int .i64 r.1.Ink, .int .i64 r.1.Part], .bool r.2]) := by
 refine Yj Tryd.func45 rfl (by simp [Tryd.ntmps45]) ?_
 rw [Tryd.ntmps45]
 unfold Y3l at H
 change AW _ _ _ [(0, sC t0), (1, .j t1)] [] _
 refine Y0 (Yo rfl rfl rfl 4 rfl (by kernel_rfl : zc Tryd.prog 86 = some [.j 0, .j 0, .j 0, .bool false, .j 0, .j 0]) (by kernel_rfl) ?_)
 refine Y2 1 [4, 0, 1] [Z9v, (0, sC t0), (1, .j t1)] (Ya [Z9v, (0, sC t0), (1, .j t1)] Z9o (StC.mk (phi [(4, some 4)]) (.o rfl (.i6 .nil) .nil) rfl (.cons (.r rfl) (.i2 .nil))) ?_)
 refine Y1 (Yc (Y0 (Y2 3 [10, 4, 0, 1] [(10, .bool ((t0.length : Int) == 0)), Z9v, (0, sC t0), (1, .j t1)] ?_)))
 refine Y1 (Y9 (b := (t0.length : Int) == 0) H rfl (fun c1 H => ?_) (fun c1 H => ?_))
 ·refine Y0 (Y2 1 [11, 4] ((11, .agg Z9t) :: Z9r) ?_)
  refine OpsW.store rfl rfl rfl rfl trivial trivial rfl rfl rfl (by kernel_rfl) (Y5 (by kernel_rfl)) (X0 (by kernel_rfl)) ?_
  change OpsW _ _ _ _ _ ((4, ⟨0, true, 86, 6, Z9t⟩) :: Z9o) _
  refine Y2 1 [5, 4] ((5, .bool false) :: Z9r) (Ya ((5, .bool false) :: Z9r) Z9o (StC.mk (phi [(4, some 4)]) (.o rfl (.i6 .nil) .nil) rfl (.cons .im (.cons (.r rfl) .nil))) (Y1 ?_))
  obtain rfl := X1 H
  refine AW.recast (env' := [Z9v, (5, .bool false)]) (h' := Z9o) (StC.mk (phi [(4, some 4)]) (.o rfl (.i6 .nil) .nil) rfl (.cons (.r rfl) (.cons .im .nil))) (Yl ?_)
  try simp only [Ex.t, Ex.b]
  exact Yh rfl (.cell rfl (by kernel_rfl) (.tmp .nil))
 refine Yb (Y0 ?_)
 have ⟨g2, H⟩ := Y6 H
 refine Y8 2 [14, 4, 1] [(14, .ipt (t0.flatMap (eL (eI .u8))) ((0 : Int).toNat * 1)), Z9v, (1, .j t1)] ⟨g2, trivial⟩ (OpsW.asU (sU (t0.getD (0 : Int).toNat [])) rfl rfl (T.load rfl trivial (by kernel_rfl) (Yn (eL (eI .u8)) 1 (fun _ => rfl) t0 [] (0 : Int).toNat (ltN g2) (fun a => .sl (a.flatMap (eI .u8)) a.length) (fun _ => rfl))) ?_)
 have ⟨x3, hx3, H⟩ := Yt H
 refine Ys rfl (.cons (.pur rfl) .nil) (f_number_ReadHeader_ok hx3) (Y2 3 [18, 17, 4, 1] [(18, .j x3.2), (17, .agg (Z9s x3)), Z9v, (1, .j t1)] (Yo rfl rfl rfl 6 rfl (by kernel_rfl : zc Tryd.prog 86 = some [.j 0, .j 0, .j 0, .bool false, .j 0, .j 0]) (by kernel_rfl) (OpsW.store rfl rfl rfl rfl trivial trivial rfl rfl rfl (by kernel_rfl) (Y5 (by kernel_rfl)) (X0 (by kernel_rfl)) ?_)))
 change OpsW _ _ _ _ _ ((6, ⟨0, true, 86, 6, (Z9s x3)⟩) :: (6, ⟨0, true, 86, 6, Z9t⟩) :: Z9o) _
 refine Y2 1 [7, 6, 4, 1] [(7, .j x3.2), (6, .ref 6 0 0), Z9v, (1, .j t1)] (Ya [(7, .j x3.2), (6, .ref 6 0 0), Z9v, (1, .j t1)] (Z9p x3) (StC.mk (phi [(4, some 4), (6, some 6)]) (.o rfl (.i6 .nil) (.o rfl (.i6 .nil) .nil)) rfl (.cons .im (.cons (.r rfl) (.cons (.r rfl) (.cons .im .nil))))) ?_)
 refine Y1 (AW.trim [7, 6, 1, 4] ((7, .j x3.2) :: (6, .ref 6 0 0) :: (1, .j t1) :: Z9r) (by kernel_rfl) ?_)
 refine AW.drawYSeq (h := (Z9n x3)) (env := [(7, .j x3.2), (6, .ref 6 0 0), (1, .j t1)]) Z9r (Z9p x3) 10 [(9, 4, [])] Tryd.checked.mixed (by kernel_rfl) (by kernel_rfl) (sub_ins (h1 := []) (h2 := (Z9n x3)) rfl) (.cons rfl .nil) (pin_ins (h1 := []) (h2 := (Z9n x3)) rfl) (envIn_rd (by kernel_rfl)) ?_
 refine DOpsY.q 9 (by kernel_rfl) ?_
 refine QOps.sz (N := 28) 9 [(27, .bool (Z9u t1 x3)), (26, .cnd (x3.2 == 0) (.bool (x3.1.Width == t1))), (25, .cnd (x3.2 == 0) (.j t1)), (24, .cnd (x3.2 == 0) (.j x3.1.Width)), (23, .cnd (x3.2 == 0) (.ref 6 0 0)), (22, .bool (x3.2 == 0)), (21, .bool (x3.2 == 0)), (20, .j x3.2), (19, .agg (Z9s x3)), (7, .j x3.2), (6, .ref 6 0 0), (1, .j t1)] ⟨(fun h => h), (fun h => h), (fun h => h), (fun h => by first | exact h | (simpa using h) | grind), trivial⟩ ?_
 refine QOps.nil (DOpsY.e 4 rfl rfl rfl (by exact fun g hg hb => RStep.store rfl rfl (by exact trivial) (by exact trivial) ((hg 4 (List.Mem.head _)).trans rfl) rfl rfl (by kernel_rfl) (Y5 (by kernel_rfl)) (X0 (by kernel_rfl))) ?_)
 refine DOpsY.nil ?_
 change OpsW _ _ _ _ ((27, .bool (Z9u t1 x3)) :: (26, .cnd (x3.2 == 0) (.bool (x3.1.Width == t1))) :: (25, .cnd (x3.2 == 0) (.j t1)) :: (24, .cnd (x3.2 == 0) (.j x3.1.Width)) :: (23, .cnd (x3.2 == 0) (.ref 6 0 0)) :: (22, .bool (x3.2 == 0)) :: (21, .bool (x3.2 == 0)) :: (20, .j x3.2) :: (19, .agg (Z9s x3)) :: (7, .j x3.2) :: (6, .ref 6 0 0) :: (1, .j t1) :: Z9r) ((4, ⟨0, true, 86, 6, (Z9s x3)⟩) :: (Z9p x3)) _
 refine Y2 0 [27, 4] ((27, .bool (Z9u t1 x3)) :: Z9r) (Y2 1 [5, 4] ((5, .bool (Z9u t1 x3)) :: Z9r) (Ya ((5, .bool (Z9u t1 x3)) :: Z9r) (Z9q x3) (StC.mk (phi [(4, some 4)]) (.o rfl (.i6 .nil) .nil) rfl (.cons .im (.cons (.r rfl) .nil))) (Y1 ?_)))
 obtain rfl := X1 H
 refine AW.recast (env' := [Z9v, (5, .bool (Z9u t1 x3))]) (h' := (Z9q x3)) (StC.mk (phi [(4, some 4)]) (.o rfl (.i6 .nil) .nil) rfl (.cons (.r rfl) (.cons .im .nil))) (Yl ?_)
 try simp only [Ex.t, Ex.b]
 exact Yh rfl (.cell rfl (by kernel_rfl) (.tmp .nil))
def Y41 (v8 : Yr) (v9 : Yr) (v10 : Y3) : Option (Yr × Int) :=
 some ((⟨v10.Label, v9.Front, v9.Back⟩ : Yr), (0 : Int))
def Y31 (t0 : Y4) : Option (Yr × Int) :=
 (Y0h t0).bind fun x1 =>
 cond (!x1) (
  some ((⟨(⟨(0 : Int), (0 : Int)⟩ : Yu), [], []⟩ : Yr), (250 : Int))) (
  (Y4e t0).bind fun x3 =>
  (Y42 t0).bind fun x4 =>
  G (inR (Int.tdiv t0.W (2 : Int))) <|
  (Y3l x3 (Int.tdiv t0.W (2 : Int))).bind fun x6 =>
  cond (cond (!x6.2) true x6.1.Back) (
   some ((⟨(⟨(0 : Int), (0 : Int)⟩ : Yu), [], []⟩ : Yr), (250 : Int))) (
   cond (decide ((0 : Int) < (x4.length : Int))) (
    (Y3l x4 (Int.tdiv t0.W (2 : Int))).bind fun x12 =>
    cond (cond (cond (!x12.2) true (!x12.1.Back)) true (xor true ([x12.1.Label.N == x6.1.Label.N, x12.1.Label.K == x6.1.Label.K].all id))) (
     some ((⟨(⟨(0 : Int), (0 : Int)⟩ : Yu), [], []⟩ : Yr), (250 : Int))) (
     Y41 (⟨(⟨(0 : Int), (0 : Int)⟩ : Yu), [], []⟩ : Yr) (⟨(⟨(0 : Int), (0 : Int)⟩ : Yu), x3, x4⟩ : Yr) x6.1)) (
    Y41 (⟨(⟨(0 : Int), (0 : Int)⟩ : Yu), [], []⟩ : Yr) (⟨(⟨(0 : Int), (0 : Int)⟩ : Yu), x3, x4⟩ : Yr) x6.1)))
section
variable (t0 : Y4) (v8 : Yr) (v9 : Yr) (v10 : Y3) (x1 : Bool) (x3 : (List (List Int))) (x4 : (List (List Int))) (x6 : (Y3 × Bool)) (x12 : (Y3 × Bool))
abbrev Zab : List AV := [.j (0 : Int), .j (0 : Int), .im (.val (.slice none 0 0)), .im (.val (.slice none 0 0))]
abbrev Zac : List AV := [.j x6.1.Width, .j x6.1.Label.N, .j x6.1.Label.K, .bool x6.1.Back, .j x6.1.Ink, .j x6.1.Part]
abbrev Zad : List AV := [.j t0.W, .j t0.H, sD t0.Up, sD t0.Down]
abbrev Zae : List AV := [.j x12.1.Width, .j x12.1.Label.N, .j x12.1.Label.K, .bool x12.1.Back, .j x12.1.Ink, .j x12.1.Part]
abbrev Zaf : List AV := [.j v10.Label.N, .j v10.Label.K, sC v9.Front, sC v9.Back]
abbrev Zag := cond (!x12.2) true (!x12.1.Back)
abbrev Zah : List AV := [.j (0 : Int), .j (0 : Int), sC x3, sC x4]
abbrev Zai := xor true ([x12.1.Label.N == x6.1.Label.N, x12.1.Label.K == x6.1.Label.K].all id)
abbrev Zaj : Nat × AV := (2, .ref 2 0 0)
abbrev Zak : Nat × AV := (4, .ref 4 0 0)
abbrev Zal := (⟨(0 : Int), (0 : Int)⟩ : Yu)
abbrev Zam : List AV := [.j (0 : Int), .j (0 : Int), .j (0 : Int), .bool false, .j (0 : Int), .j (0 : Int)]
abbrev Z9w : Hp := [(1, ⟨0, true, 47, 4, (Zad t0)⟩), (2, ⟨0, true, 39, 4, Zab⟩), (4, ⟨0, true, 39, 4, (Zah x3 x4)⟩), (5, ⟨0, true, 86, 6, (Zac x6)⟩)]
abbrev Z9x : Hp := [(2, ⟨0, true, 39, 4, Zab⟩)]
abbrev Z9y : Hp := [(2, ⟨0, true, 39, 4, Zab⟩), (4, ⟨0, true, 39, 4, (Zah x3 x4)⟩), (5, ⟨0, true, 86, 6, (Zac x6)⟩), (7, ⟨0, true, 86, 6, (Zae x12)⟩)]
abbrev Z9z : Env := [Zaj, (1, .ref 1 0 0)]
abbrev Za0 : Hp := [(2, ⟨0, true, 39, 4, [.j v8.Label.N, .j v8.Label.K, sC v8.Front, sC v8.Back]⟩), (4, ⟨0, true, 39, 4, [.j v9.Label.N, .j v9.Label.K, sC v9.Front, sC v9.Back]⟩), (5, ⟨0, true, 86, 6, [.j v10.Width, .j v10.Label.N, .j v10.Label.K, .bool v10.Back, .j v10.Ink, .j v10.Part]⟩)]
abbrev Za1 : Hp := [(1, ⟨0, true, 47, 4, (Zad t0)⟩), (2, ⟨0, true, 39, 4, Zab⟩), (4, ⟨0, true, 39, 4, (Zah x3 x4)⟩)]
abbrev Za2 : Env := [(5, .ref 5 0 0), Zak, Zaj]
abbrev Za3 : Env := [(3, .j (250 : Int)), Zaj]
abbrev Za4 : Hp := [(2, ⟨0, true, 39, 4, [.j v8.Label.N, .j v8.Label.K, sC v8.Front, sC v8.Back]⟩), (4, ⟨0, true, 39, 4, (Zaf v9 v10)⟩)]
abbrev Za5 : Hp := [(2, ⟨0, true, 39, 4, [.j (0 : Int), .j (0 : Int), sC [], sC []]⟩)]
abbrev Za6 : Env := (15, .agg (Zad t0)) :: (14, sC x3) :: (13, .agg (Zad t0)) :: (11, .bool (!x1)) :: Z9z
abbrev Za7 : Hp := (1, ⟨0, true, 47, 4, (Zad t0)⟩) :: Z9x
abbrev Za8 : Env := (5, .ref 5 0 0) :: Zak :: Z9z
abbrev Za9 : Hp := [(2, ⟨0, true, 39, 4, (Zaf v9 v10)⟩)]
abbrev Zaa : Env := [Zaj, (3, .j (250 : Int))]
end
theorem f_sheet_Leaf_ok  {t0 : Y4} {r : Yr × Int} (H : Y31 t0 = some r) : QSpec Tryd.prog 25 [.agg [.int .i64 t0.W, .int .i64 t0.H, slA (eL eB) t0.Up, slA (eL eB) t0.Down]] (.tup [.agg [.int .i64 r.1.Label.N, .int .i64 r.1.Label.K, slA (eL (eI .u8)) r.1.Front, slA (eL (eI .u8)) r.1.Back], .int .i64 r.2]) := by
 refine Yj Tryd.func25 rfl (by simp [Tryd.ntmps25]) ?_
 rw [Tryd.ntmps25]
 unfold Y31 at H
 change AW _ _ _ [(0, .agg (Zad t0))] [] _
 refine Y0 (OpsW.box rfl rfl rfl 1 rfl (Y5 (by kernel_rfl)) ?_)
 change OpsW _ _ _ _ _ [(1, ⟨0, true, 47, 4, (Zad t0)⟩)] _
 refine Yo rfl rfl rfl 2 rfl (by kernel_rfl : zc Tryd.prog 39 = some [.j 0, .j 0, .slice none 0 0, .slice none 0 0]) (by kernel_rfl) (Y2 1 [2, 1] Z9z (Ya Z9z (Za7 t0) (StC.mk (phi [(1, some 1), (2, some 2)]) (.o rfl (.i4 .nil) (.o rfl (.i4 .nil) .nil)) rfl (.cons (.r rfl) (.cons (.r rfl) .nil))) ?_))
 refine Y1 (Yc (Y0 (Y2 1 [9, 2, 1] ((9, .agg (Zad t0)) :: Z9z) ?_)))
 have ⟨x1, hx1, H⟩ := Yt H
 refine Ys rfl (.cons (.pur rfl) .nil) (Y1t hx1) (Y2 1 [11, 2, 1] ((11, .bool (!x1)) :: Z9z) (Y1 (Y9 (b := !x1) H rfl (fun c2 H => ?_) (fun c2 H => ?_))))
 ·refine Y0 (Y2 1 [12, 2] [(12, .agg Zab), Zaj] ?_)
  refine OpsW.store rfl rfl rfl rfl trivial trivial rfl rfl rfl (by kernel_rfl) (Y5 (by kernel_rfl)) (X0 (by kernel_rfl)) ?_
  change OpsW _ _ _ _ _ ((2, ⟨0, true, 39, 4, Zab⟩) :: (Za7 t0)) _
  refine Y2 1 [3, 2] Za3 (Ya Za3 Z9x (StC.mk (phi [(2, some 2)]) (.o rfl (.i4 .nil) .nil) rfl (.cons .im (.cons (.r rfl) .nil))) (Y1 ?_))
  obtain rfl := X1 H
  refine AW.recast (env' := Zaa) (h' := Za5) (StC.mk (phi [(2, some 2)]) (.o rfl (.i2 (.cons .nil (.cons .nil .nil))) .nil) rfl (.cons (.r rfl) (.cons .im .nil))) (Yl ?_)
  try simp only [Ex.t, Ex.b]
  exact Yh rfl (.cell rfl (by kernel_rfl) (.tmp .nil))
 refine Yb (AW.drawGSeq 6 [(5, 4)] Tryd.checked.mixed (by kernel_rfl) (by kernel_rfl) ?_)
 refine DOps.q 5 (by kernel_rfl) ?_
 refine QOps.sz (N := 66) 1 ((13, .agg (Zad t0)) :: (11, .bool (!x1)) :: Z9z) trivial ?_
 have ⟨x3, hx3, H⟩ := Yt H
 refine QOps.qcall rfl (by kernel_rfl) rfl (Yg trivial) (.cons (.pur rfl) .nil) (f_sheet_Front_ok hx3) rfl (QOps.sz (N := 66) 1 (Za6 t0 x1 x3) trivial ?_)
 have ⟨x4, hx4, H⟩ := Yt H
 refine QOps.qcall rfl (by kernel_rfl) rfl (Yg trivial) (.cons (.pur rfl) .nil) (f_sheet_Back_ok hx4) rfl (QOps.sz (N := 66) 1 ((17, .agg (Zah x3 x4)) :: (16, sC x4) :: (Za6 t0 x1 x3)) trivial ?_)
 refine QOps.nil (DOps.e 4 rfl rfl rfl (by exact fun g hg hb => RStep.alloc rfl 4 (hg.trans rfl) (by kernel_rfl : zc Tryd.prog 39 = some [.j 0, .j 0, .slice none 0 0, .slice none 0 0]) (by kernel_rfl)) ?_)
 refine DOps.nil ?_
 refine Y2 0 [4, 17, 2, 1] (Zak :: (17, .agg (Zah x3 x4)) :: Z9z) (OpsW.store rfl rfl rfl rfl trivial trivial rfl rfl rfl (by kernel_rfl) (Y5 (by kernel_rfl)) (X0 (by kernel_rfl)) ?_)
 change OpsW _ _ _ _ _ ((4, ⟨0, true, 39, 4, (Zah x3 x4)⟩) :: (4, ⟨0, true, 39, 4, Zab⟩) :: (Za7 t0)) _
 refine Y2 0 [4, 2, 1] (Zak :: Z9z) (Ya (Zak :: Z9z) (Za1 t0 x3 x4) (StC.mk (phi [(1, some 1), (2, some 2), (4, some 4)]) (.o rfl (.i4 .nil) (.o rfl (.i4 .nil) (.o rfl (.i4 .nil) .nil))) rfl (.cons (.r rfl) (.cons (.r rfl) (.cons (.r rfl) .nil)))) ?_)
 refine Y1 (Y0 ?_)
 have ⟨g5, H⟩ := Y6 H
 refine Y8 5 [23, 20, 4, 2, 1] ((23, .j (Int.tdiv t0.W (2 : Int))) :: (20, sC x3) :: Zak :: Z9z) ⟨(by decide), g5, trivial⟩ ?_
 have ⟨x6, hx6, H⟩ := Yt H
 refine Ys rfl (.cons (.pur rfl) (.cons (.pur rfl) .nil)) (f_sheet_header_ok hx6) (Y2 3 [26, 25, 4, 2, 1] ((26, .bool x6.2) :: (25, .agg (Zac x6)) :: Zak :: Z9z) (Yo rfl rfl rfl 5 rfl (by kernel_rfl : zc Tryd.prog 86 = some [.j 0, .j 0, .j 0, .bool false, .j 0, .j 0]) (by kernel_rfl) (OpsW.store rfl rfl rfl rfl trivial trivial rfl rfl rfl (by kernel_rfl) (Y5 (by kernel_rfl)) (X0 (by kernel_rfl)) ?_)))
 change OpsW _ _ _ _ _ ((5, ⟨0, true, 86, 6, (Zac x6)⟩) :: (5, ⟨0, true, 86, 6, Zam⟩) :: (Za1 t0 x3 x4)) _
 refine Y2 1 [6, 5, 4, 2, 1] ((6, .bool x6.2) :: Za8) (Ya ((6, .bool x6.2) :: Za8) (Z9w t0 x3 x4 x6) (StC.mk (phi [(1, some 1), (2, some 2), (4, some 4), (5, some 5)]) (.o rfl (.i4 .nil) (.o rfl (.i4 .nil) (.o rfl (.i4 .nil) (.o rfl (.i6 .nil) .nil)))) rfl (.cons .im (.cons (.r rfl) (.cons (.r rfl) (.cons (.r rfl) (.cons (.r rfl) .nil)))))) ?_)
 refine Y1 (Yc (Y0 (Y8 6 [32, 5, 4, 2, 1] ((32, .bool (cond (!x6.2) true x6.1.Back)) :: Za8) ⟨(fun h => h), (fun h => by first | exact h | (simpa using h) | grind), trivial⟩ ?_)))
 refine Y1 (Y9 (b := cond (!x6.2) true x6.1.Back) H rfl (fun c7 H => ?_) (fun c7 H => ?_))
 ·refine Y0 (Y2 1 [33, 2] [(33, .agg Zab), Zaj] ?_)
  refine OpsW.store rfl rfl rfl rfl trivial trivial rfl rfl rfl (by kernel_rfl) (Y5 (by kernel_rfl)) (X0 (by kernel_rfl)) ?_
  change OpsW _ _ _ _ _ ((2, ⟨0, true, 39, 4, Zab⟩) :: (Z9w t0 x3 x4 x6)) _
  refine Y2 1 [3, 2] Za3 (Ya Za3 Z9x (StC.mk (phi [(2, some 2)]) (.o rfl (.i4 .nil) .nil) rfl (.cons .im (.cons (.r rfl) .nil))) (Y1 ?_))
  obtain rfl := X1 H
  refine AW.recast (env' := Zaa) (h' := Za5) (StC.mk (phi [(2, some 2)]) (.o rfl (.i2 (.cons .nil (.cons .nil .nil))) .nil) rfl (.cons (.r rfl) (.cons .im .nil))) (Yl ?_)
  try simp only [Ex.t, Ex.b]
  exact Yh rfl (.cell rfl (by kernel_rfl) (.tmp .nil))
 refine Yb ?_
 refine Y08 (fun (y : Yr × Yr × Y3) => Y41 y.1 y.2.1 y.2.2) r (fun (y : Yr × Yr × Y3) => [Zaj, Zak, (5, .ref 5 0 0)]) (fun (y : Yr × Yr × Y3) => [(2, ⟨0, true, 39, 4, [.j y.1.Label.N, .j y.1.Label.K, sC y.1.Front, sC y.1.Back]⟩), (4, ⟨0, true, 39, 4, [.j y.2.1.Label.N, .j y.2.1.Label.K, sC y.2.1.Front, sC y.2.1.Back]⟩), (5, ⟨0, true, 86, 6, [.j y.2.2.Width, .j y.2.2.Label.N, .j y.2.2.Label.K, .bool y.2.2.Back, .j y.2.2.Ink, .j y.2.2.Part]⟩)]) ?_ ?_
 ·refine Y0 (Y2 4 [37, 5, 4, 2, 1] ((37, .bool (decide ((0 : Int) < (x4.length : Int)))) :: Za8) ?_)
  refine Y1 (Y9 (b := decide ((0 : Int) < (x4.length : Int))) H rfl (fun c11 H => ?_) (fun c11 H => ?_))
  ·refine Y0 (Y8 5 [43, 40, 5, 4, 2] ((43, .j (Int.tdiv t0.W (2 : Int))) :: (40, sC x4) :: Za2) ⟨(by decide), g5, trivial⟩ ?_)
   have ⟨x12, hx12, H⟩ := Yt H
   refine Ys rfl (.cons (.pur rfl) (.cons (.pur rfl) .nil)) (f_sheet_header_ok hx12) (Y2 3 [46, 45, 5, 4, 2] ((46, .bool x12.2) :: (45, .agg (Zae x12)) :: Za2) (Yo rfl rfl rfl 7 rfl (by kernel_rfl : zc Tryd.prog 86 = some [.j 0, .j 0, .j 0, .bool false, .j 0, .j 0]) (by kernel_rfl) (OpsW.store rfl rfl rfl rfl trivial trivial rfl rfl rfl (by kernel_rfl) (Y5 (by kernel_rfl)) (X0 (by kernel_rfl)) ?_)))
   change OpsW _ _ _ _ _ ((7, ⟨0, true, 86, 6, (Zae x12)⟩) :: (7, ⟨0, true, 86, 6, Zam⟩) :: (Z9w t0 x3 x4 x6)) _
   refine Y2 1 [8, 7, 5, 4, 2] ((8, .bool x12.2) :: (7, .ref 7 0 0) :: Za2) (Ya ((8, .bool x12.2) :: (7, .ref 7 0 0) :: Za2) (Z9y x3 x4 x6 x12) (StC.mk (phi [(2, some 2), (4, some 4), (5, some 5), (7, some 7)]) (.o rfl (.i4 .nil) (.o rfl (.i4 .nil) (.o rfl (.i6 .nil) (.o rfl (.i6 .nil) .nil)))) rfl (.cons .im (.cons (.r rfl) (.cons (.r rfl) (.cons (.r rfl) (.cons (.r rfl) .nil)))))) ?_)
   refine Y1 (Y0 (Y8 12 [58, 56, 54, 5, 4, 2] ((58, .cnd (!(Zag x12)) (.agg [.j x6.1.Label.N, .j x6.1.Label.K])) :: (56, .cnd (!(Zag x12)) (.agg [.j x12.1.Label.N, .j x12.1.Label.K])) :: (54, .bool (Zag x12)) :: Za2) ⟨(fun h => h), (fun h => h), (fun h => by first | exact h | (simpa using h) | grind), (fun h => h), (fun h => h), trivial⟩ ?_))
   refine OpsW.quietG (c := !(Zag x12)) (.bool (Zai x6 x12)) rfl rfl rfl rfl (Quiet.eqAgg [.j x12.1.Label.N, .j x12.1.Label.K] [.j x6.1.Label.N, .j x6.1.Label.K] [x12.1.Label.N == x6.1.Label.N, x12.1.Label.K == x6.1.Label.K] true rfl rfl (by kernel_rfl) (by kernel_rfl) (gpoG (c := !(Zag x12)) rfl rfl rfl (fun hc => ⟨hc, rfl, hc, rfl⟩))) (Y8 1 [60, 5, 4, 2] ((60, .bool (cond (Zag x12) true (Zai x6 x12))) :: Za2) ⟨(fun h => by first | exact h | (simpa using h) | grind), trivial⟩ (Y1 (Y9 (b := cond (Zag x12) true (Zai x6 x12)) H rfl (fun c13 H => ?_) (fun c13 H => ?_))))
   ·refine Y0 (Y2 1 [61, 2] [(61, .agg Zab), Zaj] ?_)
    refine OpsW.store rfl rfl rfl rfl trivial trivial rfl rfl rfl (by kernel_rfl) (Y5 (by kernel_rfl)) (X0 (by kernel_rfl)) ?_
    change OpsW _ _ _ _ _ ((2, ⟨0, true, 39, 4, Zab⟩) :: (Z9y x3 x4 x6 x12)) _
    refine Y2 1 [3, 2] Za3 (Ya Za3 Z9x (StC.mk (phi [(2, some 2)]) (.o rfl (.i4 .nil) .nil) rfl (.cons .im (.cons (.r rfl) .nil))) (Y1 ?_))
    obtain rfl := X1 H
    refine AW.recast (env' := Zaa) (h' := Za5) (StC.mk (phi [(2, some 2)]) (.o rfl (.i2 (.cons .nil (.cons .nil .nil))) .nil) rfl (.cons (.r rfl) (.cons .im .nil))) (Yl ?_)
    try simp only [Ex.t, Ex.b]
    exact Yh rfl (.cell rfl (by kernel_rfl) (.tmp .nil))
   refine Yb ?_
   exact ⟨((⟨Zal, [], []⟩ : Yr), (⟨Zal, x3, x4⟩ : Yr), x6.1), H, (StC.mk (phi [(2, some 2), (4, some 4), (5, some 5)]) (.o rfl (.i2 (.cons .nil (.cons .nil .nil))) (.o rfl (.i4 .nil) (.o rfl (.i6 .nil) .nil))) rfl (.cons (.r rfl) (.cons (.r rfl) (.cons (.r rfl) .nil))))⟩
  refine Yb ?_
  exact ⟨((⟨Zal, [], []⟩ : Yr), (⟨Zal, x3, x4⟩ : Yr), x6.1), H, (StC.mk (phi [(2, some 2), (4, some 4), (5, some 5)]) (.o rfl (.i2 (.cons .nil (.cons .nil .nil))) (.o rfl (.i4 .nil) (.o rfl (.i6 .nil) .nil))) rfl (.cons (.r rfl) (.cons (.r rfl) (.cons (.r rfl) .nil))))⟩
 rintro ⟨v8, v9, v10⟩ H
 unfold Y41 at H
 change AW _ _ _ [Zaj, Zak, (5, .ref 5 0 0)] (Za0 v8 v9 v10) _
 refine Y0 (Y2 3 [64, 63, 2, 4] [(64, .ref 4 0 0), (63, .agg [.j v10.Label.N, .j v10.Label.K]), Zaj, Zak] ?_)
 refine OpsW.store rfl rfl rfl rfl trivial trivial rfl rfl rfl (by kernel_rfl) (Y5 (by kernel_rfl)) (X0 (by kernel_rfl)) ?_
 change OpsW _ _ _ _ _ ((4, ⟨0, true, 39, 4, (Zaf v9 v10)⟩) :: (Za0 v8 v9 v10)) _
 refine Y2 0 [2, 4] [Zaj, Zak] (Ya [Zaj, Zak] (Za4 v8 v9 v10) (StC.mk (phi [(2, some 2), (4, some 4)]) (.o rfl (.i4 .nil) (.o rfl (.i4 .nil) .nil)) rfl (.cons (.r rfl) (.cons (.r rfl) .nil))) ?_)
 refine Y1 (Y0 (Y2 1 [65, 2] [(65, .agg (Zaf v9 v10)), Zaj] ?_))
 refine OpsW.store rfl rfl rfl rfl trivial trivial rfl rfl rfl (by kernel_rfl) (Y5 (by kernel_rfl)) (X0 (by kernel_rfl)) ?_
 change OpsW _ _ _ _ _ ((2, ⟨0, true, 39, 4, (Zaf v9 v10)⟩) :: (Za4 v8 v9 v10)) _
 refine Y2 1 [3, 2] [(3, .j (0 : Int)), Zaj] (Ya [(3, .j (0 : Int)), Zaj] (Za9 v9 v10) (StC.mk (phi [(2, some 2)]) (.o rfl (.i4 .nil) .nil) rfl (.cons .im (.cons (.r rfl) .nil))) (Y1 ?_))
 obtain rfl := X1 H
 refine AW.recast (env' := [Zaj, (3, .j (0 : Int))]) (h' := (Za9 v9 v10)) (StC.mk (phi [(2, some 2)]) (.o rfl (.i4 .nil) .nil) rfl (.cons (.r rfl) (.cons .im .nil))) (Yl ?_)
 try simp only [Ex.t, Ex.b]
 exact Yh rfl (.cell rfl (by kernel_rfl) (.tmp .nil))
def f_R25_sameRows_b1 (t0 : List (List Bool)) (t1 : List (List Bool)) (loop3 : (Int) → Option Bool) (v2 : Int) (loop9 : (Int) → Option Bool) (v8 : Int) : Option Bool :=
 cond (decide (v8 < ((t0.getD v2.toNat []).length : Int))) (
  G (0 ≤ v8 ∧ v8 < ((t0.getD v2.toNat []).length : Int)) <|
  G (0 ≤ v8 ∧ v8 < ((t1.getD v2.toNat []).length : Int)) <|
  cond (((t0.getD v2.toNat []).getD v8.toNat false) != ((t1.getD v2.toNat []).getD v8.toNat false)) (
   some false) (
   G (inR (v8 + 1)) <|
   loop9 (v8 + 1))) (
  G (inR (v2 + 1)) <|
  loop3 (v2 + 1))
def f_R25_sameRows_b2 (t0 : List (List Bool)) (t1 : List (List Bool)) (loop3 : (Int) → Option Bool) (v2 : Int) : Option Bool :=
 cond (decide (v2 < (t0.length : Int))) (
  G (0 ≤ v2 ∧ v2 < (t0.length : Int)) <|
  G (0 ≤ v2 ∧ v2 < (t1.length : Int)) <|
  cond (((t0.getD v2.toNat []).length : Int) != ((t1.getD v2.toNat []).length : Int)) (
   some false) (
   iter (fun loop (s : Int) => f_R25_sameRows_b1 t0 t1 loop3 v2 loop s) 1000000 (0 : Int))) (
  some true)
def f_R25_sameRows (t0 : List (List Bool)) (t1 : List (List Bool)) : Option Bool :=
 cond ((t0.length : Int) != (t1.length : Int)) (
  some false) (
  iter (fun loop (s : Int) => f_R25_sameRows_b2 t0 t1 loop s) 1000000 (0 : Int))
section
variable (t0 : List (List Bool)) (t1 : List (List Bool)) (v2 : Int) (v8 : Int)
abbrev Zat := t0.getD v2.toNat []
abbrev Zau := t1.getD v2.toNat []
abbrev Zav := ((Zat t0 v2).length : Int)
abbrev Zaw := (Zat t0 v2).getD v8.toNat false
abbrev Zax := (Zau t1 v2).getD v8.toNat false
abbrev Zay : Nat × AV := (15, .bool (decide (v2 < (t0.length : Int))))
abbrev Zan : Env := [(43, .ipt ((Zat t0 v2).flatMap eB) (v8.toNat * 1)), (42, .j v8), (41, slA eB (Zat t0 v2)), (40, .ipt (t0.flatMap (eL eB)) (v2.toNat * 1)), (39, .j v2), (38, sD t0), (35, .bool (decide (v8 < (Zav t0 v2)))), (0, sD t0), (1, sD t1), (5, .j v2), (6, .j v8)]
abbrev Zao : Env := [(25, .ipt (t1.flatMap (eL eB)) (v2.toNat * 1)), (24, .j v2), (23, sD t1), (22, .j (Zav t0 v2)), (21, slA eB (Zat t0 v2)), (20, .ipt (t0.flatMap (eL eB)) (v2.toNat * 1)), (19, .j v2), (18, sD t0), (Zay t0 v2), (0, sD t0), (1, sD t1), (5, .j v2)]
abbrev Zap : Env := (47, .ipt (t1.flatMap (eL eB)) (v2.toNat * 1)) :: (46, .j v2) :: (45, sD t1) :: (44, .bool (Zaw t0 v2 v8)) :: (Zan t0 t1 v2 v8)
abbrev Zaq : Env := (50, .ipt ((Zau t1 v2).flatMap eB) (v8.toNat * 1)) :: (49, .j v8) :: (48, slA eB (Zau t1 v2)) :: (Zap t0 t1 v2 v8)
abbrev Zar : Env := [(0, sD t0), (1, sD t1), (5, .j v2), (6, .j v8)]
abbrev Zas : Env := [(0, sD t0), (1, sD t1), (5, .j v2)]
end
theorem f_R25_sameRows_ok  {t0 : List (List Bool)} {t1 : List (List Bool)} {r : Bool} (H : f_R25_sameRows t0 t1 = some r) : QSpec Tryd.prog 36 [slA (eL eB) t0, slA (eL eB) t1] (.bool r) := by
 refine Yj Tryd.func36 rfl (by simp [Tryd.ntmps36]) ?_
 rw [Tryd.ntmps36]
 unfold f_R25_sameRows at H
 change AW _ _ _ [(0, sD t0), (1, sD t1)] [] _
 refine Y0 (Y2 1 [0, 1] [(0, sD t0), (1, sD t1)] ?_)
 refine Y1 (Yc (Y0 (Y2 5 [11, 0, 1] [(11, .bool ((t0.length : Int) != (t1.length : Int))), (0, sD t0), (1, sD t1)] ?_)))
 refine Y1 (Y9 (b := (t0.length : Int) != (t1.length : Int)) H rfl (fun c1 H => ?_) (fun c1 H => ?_))
 ·refine Y0 (Y2 1 [4] [(4, .bool false)] ?_)
  refine Y1 ?_
  obtain rfl := X1 H
  refine AW.recast (env' := [(4, .bool false)]) (h' := []) (StC.pure (.cons .im .nil)) (Yl ?_)
  try simp only [Ex.t, Ex.b]
  exact Yh rfl (.tmp .nil)
 refine Yb (Yc (Y0 (Y2 1 [5, 0, 1] [(5, .j (0 : Int)), (0, sD t0), (1, sD t1)] ?_)))
 refine Y1 (Yd ?_)
 refine Yq (fun loop (s : Int) => f_R25_sameRows_b2 t0 t1 loop s) r (fun (s : Int) => [(0, sD t0), (1, sD t1), (5, .j s)]) (fun (s : Int) => []) ?_ 1000000 (0 : Int) H (StC.pure (.i3 .nil))
 intro loop3 v2 H
 unfold f_R25_sameRows_b2 at H
 change AW _ _ _ (Zas t0 t1 v2) [] _
 refine Yc (Y0 (Y2 4 [15, 0, 1, 5] ((Zay t0 v2) :: (Zas t0 t1 v2)) ?_))
 refine Y1 (Y9 (b := decide (v2 < (t0.length : Int))) H rfl (fun c4 H => ?_) (fun c4 H => ?_))
 ·refine Yb (Yc (Yd (Yc (Y0q Tryd.checked.mixed (by kernel_rfl) ?_))))
  have ⟨g5, H⟩ := Y6 H
  refine QOps.sz (N := 53) 3 ((20, .ipt (t0.flatMap (eL eB)) (v2.toNat * 1)) :: (19, .j v2) :: (18, sD t0) :: (Zay t0 v2) :: (Zas t0 t1 v2)) ⟨g5, trivial⟩ (QOps.asU (slA eB (Zat t0 v2)) rfl (T.load rfl trivial (by kernel_rfl) (Yn (eL eB) 1 (fun _ => rfl) t0 [] v2.toNat (ltN g5) (fun a => .sl (a.flatMap eB) a.length) (fun _ => rfl))) ?_)
  have ⟨g6, H⟩ := Y6 H
  refine QOps.sz (N := 53) 4 (Zao t0 t1 v2) ⟨g6, trivial⟩ (QOps.asU (slA eB (Zau t1 v2)) rfl (T.load rfl trivial (by kernel_rfl) (Yn (eL eB) 1 (fun _ => rfl) t1 [] v2.toNat (ltN g6) (fun a => .sl (a.flatMap eB) a.length) (fun _ => rfl))) (QOps.sz (N := 53) 2 ((28, .bool ((Zav t0 v2) != ((Zau t1 v2).length : Int))) :: (27, .j ((Zau t1 v2).length : Int)) :: (26, slA eB (Zau t1 v2)) :: (Zao t0 t1 v2)) trivial ?_))
  refine QOps.nil (AW.trim [28, 0, 1, 5] ((28, .bool ((Zav t0 v2) != ((Zau t1 v2).length : Int))) :: (Zas t0 t1 v2)) (by kernel_rfl) ?_)
  refine Y9 (b := (Zav t0 v2) != ((Zau t1 v2).length : Int)) H rfl (fun c7 H => ?_) (fun c7 H => ?_)
  ·refine Y0 (Y2 1 [4] [(4, .bool false)] ?_)
   refine Y1 ?_
   obtain rfl := X1 H
   refine AW.recast (env' := [(4, .bool false)]) (h' := []) (StC.pure (.cons .im .nil)) (Yl ?_)
   try simp only [Ex.t, Ex.b]
   exact Yh rfl (.tmp .nil)
  refine Yb (Y0 (Y2 1 [6, 0, 1, 5] ((6, .j (0 : Int)) :: (Zas t0 t1 v2)) ?_))
  refine Y1 (Yd ?_)
  refine Yq (fun loop (s : Int) => f_R25_sameRows_b1 t0 t1 loop3 v2 loop s) r (fun (s : Int) => [(0, sD t0), (1, sD t1), (5, .j v2), (6, .j s)]) (fun (s : Int) => []) ?_ 1000000 (0 : Int) H (StC.pure (.i4 .nil))
  intro loop9 v8 H
  unfold f_R25_sameRows_b1 at H
  change AW _ _ _ (Zar t0 t1 v2 v8) [] _
  refine Yc (Y0 (Y8 4 [32, 29, 0, 1, 5, 6] ((32, .ipt (t0.flatMap (eL eB)) (v2.toNat * 1)) :: (29, .j v8) :: (Zar t0 t1 v2 v8)) ⟨g5, trivial⟩ ?_))
  refine OpsW.asU (slA eB (Zat t0 v2)) rfl rfl (T.load rfl trivial (by kernel_rfl) (Yn (eL eB) 1 (fun _ => rfl) t0 [] v2.toNat (ltN g5) (fun a => .sl (a.flatMap eB) a.length) (fun _ => rfl))) (Y2 2 [35, 0, 1, 5, 6] ((35, .bool (decide (v8 < (Zav t0 v2)))) :: (Zar t0 t1 v2 v8)) (Y1 (Y9 (b := decide (v8 < (Zav t0 v2))) H rfl (fun c10 H => ?_) (fun c10 H => ?_))))
  ·refine Yb (Yc (Yd (Y0q Tryd.checked.mixed (by kernel_rfl) ?_)))
   refine QOps.sz (N := 53) 3 ((40, .ipt (t0.flatMap (eL eB)) (v2.toNat * 1)) :: (39, .j v2) :: (38, sD t0) :: (35, .bool (decide (v8 < (Zav t0 v2)))) :: (Zar t0 t1 v2 v8)) ⟨g5, trivial⟩ (QOps.asU (slA eB (Zat t0 v2)) rfl (T.load rfl trivial (by kernel_rfl) (Yn (eL eB) 1 (fun _ => rfl) t0 [] v2.toNat (ltN g5) (fun a => .sl (a.flatMap eB) a.length) (fun _ => rfl))) ?_)
   have ⟨g11, H⟩ := Y6 H
   refine QOps.sz (N := 53) 2 (Zan t0 t1 v2 v8) ⟨g11, trivial⟩ (QOps.asU (.bool (Zaw t0 v2 v8)) rfl (T.load rfl trivial (by kernel_rfl) (Yn eB 1 (fun _ => rfl) (Zat t0 v2) false v8.toNat (ltN g11) (fun a => .val (.bool a)) (fun _ => rfl))) (QOps.sz (N := 53) 3 (Zap t0 t1 v2 v8) ⟨g6, trivial⟩ (QOps.asU (slA eB (Zau t1 v2)) rfl (T.load rfl trivial (by kernel_rfl) (Yn (eL eB) 1 (fun _ => rfl) t1 [] v2.toNat (ltN g6) (fun a => .sl (a.flatMap eB) a.length) (fun _ => rfl))) ?_)))
   have ⟨g12, H⟩ := Y6 H
   refine QOps.sz (N := 53) 2 (Zaq t0 t1 v2 v8) ⟨g12, trivial⟩ (QOps.asU (.bool (Zax t1 v2 v8)) rfl (T.load rfl trivial (by kernel_rfl) (Yn eB 1 (fun _ => rfl) (Zau t1 v2) false v8.toNat (ltN g12) (fun a => .val (.bool a)) (fun _ => rfl))) (QOps.sz (N := 53) 1 ((52, .bool ((Zaw t0 v2 v8) != (Zax t1 v2 v8))) :: (51, .bool (Zax t1 v2 v8)) :: (Zaq t0 t1 v2 v8)) trivial ?_))
   refine QOps.nil (AW.trim [52, 0, 1, 5, 6] ((52, .bool ((Zaw t0 v2 v8) != (Zax t1 v2 v8))) :: (Zar t0 t1 v2 v8)) (by kernel_rfl) ?_)
   refine Y9 (b := (Zaw t0 v2 v8) != (Zax t1 v2 v8)) H rfl (fun c13 H => ?_) (fun c13 H => ?_)
   ·refine Y0 (Y2 1 [4] [(4, .bool false)] ?_)
    refine Y1 ?_
    obtain rfl := X1 H
    refine AW.recast (env' := [(4, .bool false)]) (h' := []) (StC.pure (.cons .im .nil)) (Yl ?_)
    try simp only [Ex.t, Ex.b]
    exact Yh rfl (.tmp .nil)
   refine Yb (Ye ?_)
   have ⟨g14, H⟩ := Y6 H
   refine Y8 3 [6, 0, 1, 5] ((6, .j (v8 + 1)) :: (Zas t0 t1 v2)) ⟨g14, trivial⟩ (Y1 ?_)
   exact ⟨v8 + 1, H, (StC.pure (.i4 .nil))⟩
  refine AW.exit (Ye ?_)
  have ⟨g15, H⟩ := Y6 H
  refine Y8 3 [5, 0, 1] [(5, .j (v2 + 1)), (0, sD t0), (1, sD t1)] ⟨g15, trivial⟩ (Y1 ?_)
  exact ⟨v2 + 1, H, (StC.pure (.i3 .nil))⟩
 refine AW.exit ?_
 refine Y0 (Y2 1 [4] [(4, .bool true)] ?_)
 refine Y1 ?_
 obtain rfl := X1 H
 refine AW.recast (env' := [(4, .bool true)]) (h' := []) (StC.pure (.cons .im .nil)) (Yl ?_)
 try simp only [Ex.t, Ex.b]
 exact Yh rfl (.tmp .nil)
def f_R25_Equal (t0 : Y4) (t1 : Y4) : Option Bool :=
 (cond (cond (t0.W == t1.W) (t0.H == t1.H) false) (f_R25_sameRows t0.Up t1.Up) (some false)).bind fun x1 =>
 (cond (cond (cond (t0.W == t1.W) (t0.H == t1.H) false) x1 false) (f_R25_sameRows t0.Down t1.Down) (some false)).bind fun x2 =>
 some (cond (cond (cond (t0.W == t1.W) (t0.H == t1.H) false) x1 false) x2 false)
section
variable (t0 : Y4) (t1 : Y4)
abbrev Zaz := cond (t0.W == t1.W) (t0.H == t1.H) false
abbrev Zb0 : List AV := [.j t0.W, .j t0.H, sD t0.Up, sD t0.Down]
abbrev Zb1 : List AV := [.j t1.W, .j t1.H, sD t1.Up, sD t1.Down]
end
theorem f_R25_Equal_ok  {t0 : Y4} {t1 : Y4} {r : Bool} (H : f_R25_Equal t0 t1 = some r) : QSpec Tryd.prog 14 [.agg [.int .i64 t0.W, .int .i64 t0.H, slA (eL eB) t0.Up, slA (eL eB) t0.Down], .agg [.int .i64 t1.W, .int .i64 t1.H, slA (eL eB) t1.Up, slA (eL eB) t1.Down]] (.bool r) := by
 refine Yj Tryd.func14 rfl (by simp [Tryd.ntmps14]) ?_
 rw [Tryd.ntmps14]
 unfold f_R25_Equal at H
 change AW _ _ _ [(0, .agg (Zb0 t0)), (1, .agg (Zb1 t1))] [] _
 refine Y0 (OpsW.box rfl rfl rfl 2 rfl (Y5 (by kernel_rfl)) ?_)
 change OpsW _ _ _ _ _ [(2, ⟨0, true, 47, 4, (Zb0 t0)⟩)] _
 refine OpsW.box rfl rfl rfl 3 rfl (Y5 (by kernel_rfl)) ?_
 change OpsW _ _ _ _ _ [(3, ⟨0, true, 47, 4, (Zb1 t1)⟩), (2, ⟨0, true, 47, 4, (Zb0 t0)⟩)] _
 refine Y2 1 [3, 2] [(3, .ref 3 0 0), (2, .ref 2 0 0)] (Ya [(3, .ref 3 0 0), (2, .ref 2 0 0)] [(2, ⟨0, true, 47, 4, (Zb0 t0)⟩), (3, ⟨0, true, 47, 4, (Zb1 t1)⟩)] (StC.mk (phi [(2, some 2), (3, some 3)]) (.o rfl (.i4 .nil) (.o rfl (.i4 .nil) .nil)) rfl (.cons (.r rfl) (.cons (.r rfl) .nil))) ?_)
 refine Y1 (Y0 (Y8 17 [21, 19, 17, 3, 2] [(21, .cnd (Zaz t0 t1) (sD t1.Up)), (19, .cnd (Zaz t0 t1) (sD t0.Up)), (17, .bool (Zaz t0 t1)), (3, .ref 3 0 0), (2, .ref 2 0 0)] ⟨(fun h => h), (fun h => h), (fun h => h), (fun h => h), (fun h => by first | exact h | (simpa using h) | grind), (fun h => h), (fun h => h), trivial⟩ ?_))
 have ⟨x1, hx1, H⟩ := Yt H
 refine OpsW.gcall (c := cond (t0.W == t1.W) (t0.H == t1.H) false) (r := .bool x1) [] rfl (by kernel_rfl) rfl rfl rfl rfl (fun hc => ⟨Yg ⟨hc, hc, trivial⟩, (.cons (.pur rfl) (.cons (.pur rfl) .nil)), f_R25_sameRows_ok (condT hc hx1), .inl ⟨rfl, rfl⟩⟩) (Y8 6 [28, 26, 24] [(28, .cnd (cond (Zaz t0 t1) x1 false) (sD t1.Down)), (26, .cnd (cond (Zaz t0 t1) x1 false) (sD t0.Down)), (24, .bool (cond (Zaz t0 t1) x1 false))] ⟨(fun h => by first | exact h | (simpa using h) | grind), (fun h => h), (fun h => h), trivial⟩ ?_)
 have ⟨x2, hx2, H⟩ := Yt H
 refine OpsW.gcall (c := cond (Zaz t0 t1) x1 false) (r := .bool x2) [] rfl (by kernel_rfl) rfl rfl rfl rfl (fun hc => ⟨Yg ⟨hc, hc, trivial⟩, (.cons (.pur rfl) (.cons (.pur rfl) .nil)), f_R25_sameRows_ok (condT hc hx2), .inl ⟨rfl, rfl⟩⟩) (Y8 2 [4] [(4, .bool (cond (cond (Zaz t0 t1) x1 false) x2 false))] ⟨(fun h => by first | exact h | (simpa using h) | grind), trivial⟩ (Y1 ?_))
 obtain rfl := X1 H
 refine AW.recast (env' := [(4, .bool (cond (cond (Zaz t0 t1) x1 false) x2 false))]) (h' := []) (StC.pure (.cons .im .nil)) (Yl ?_)
 try simp only [Ex.t, Ex.b]
 exact Yh rfl (.tmp .nil)
def Y3v (t0 : List Bool) (t1 : List Bool) (loop3 : (Int) → Option Bool) (v2 : Int) : Option Bool :=
 cond (decide (v2 < (t0.length : Int))) (
  G (0 ≤ v2 ∧ v2 < (t0.length : Int)) <|
  G (0 ≤ v2 ∧ v2 < (t1.length : Int)) <|
  cond ((t0.getD v2.toNat false) != (t1.getD v2.toNat false)) (
   some false) (
   G (inR (v2 + 1)) <|
   loop3 (v2 + 1))) (
  some true)
def Y5c (t0 : List Bool) (t1 : List Bool) : Option Bool :=
 cond ((t0.length : Int) != (t1.length : Int)) (
  some false) (
  iter (fun loop (s : Int) => Y3v t0 t1 loop s) 1000000 (0 : Int))
section
variable (t0 : List Bool) (t1 : List Bool) (v2 : Int)
abbrev Zb4 := (t0.length : Int)
abbrev Zb2 : Env := [(0, slA eB t0), (1, slA eB t1), (12, .j (Zb4 t0)), (13, .j v2)]
abbrev Zb3 : Env := (22, .ipt (t1.flatMap eB) (v2.toNat * 1)) :: (21, .j v2) :: (20, slA eB t1) :: (19, .bool (t0.getD v2.toNat false)) :: (18, .ipt (t0.flatMap eB) (v2.toNat * 1)) :: (17, .j v2) :: (16, slA eB t0) :: (5, .j v2) :: (Zb2 t0 t1 v2)
end
theorem f_slices_Equal_bool_ok  {t0 : List Bool} {t1 : List Bool} {r : Bool} (H : Y5c t0 t1 = some r) : QSpec Tryd.prog 59 [slA eB t0, slA eB t1] (.bool r) := by
 refine Yj Tryd.func59 rfl (by simp [Tryd.ntmps59]) ?_
 rw [Tryd.ntmps59]
 unfold Y5c at H
 change AW _ _ _ [(0, slA eB t0), (1, slA eB t1)] [] _
 refine Y0 (Y2 1 [0, 1] [(0, slA eB t0), (1, slA eB t1)] ?_)
 refine Y1 (Yc (Y0 (Y2 5 [10, 0, 1] [(10, .bool ((Zb4 t0) != (t1.length : Int))), (0, slA eB t0), (1, slA eB t1)] ?_)))
 refine Y1 (Y9 (b := (Zb4 t0) != (t1.length : Int)) H rfl (fun c1 H => ?_) (fun c1 H => ?_))
 ·refine Y0 (Y2 1 [4] [(4, .bool false)] ?_)
  refine Y1 ?_
  obtain rfl := X1 H
  refine AW.recast (env' := [(4, .bool false)]) (h' := []) (StC.pure (.cons .im .nil)) (Yl ?_)
  try simp only [Ex.t, Ex.b]
  exact Yh rfl (.tmp .nil)
 refine Yb (Yc (Y0 (Y2 3 [13, 12, 0, 1] [(13, .j (0 : Int)), (12, .j (Zb4 t0)), (0, slA eB t0), (1, slA eB t1)] ?_)))
 refine Y1 (Yd ?_)
 refine Yq (fun loop (s : Int) => Y3v t0 t1 loop s) r (fun (s : Int) => [(0, slA eB t0), (1, slA eB t1), (12, .j (Zb4 t0)), (13, .j s)]) (fun (s : Int) => []) ?_ 1000000 (0 : Int) H (StC.pure (.i4 .nil))
 intro loop3 v2 H
 unfold Y3v at H
 change AW _ _ _ (Zb2 t0 t1 v2) [] _
 refine Y0 (Y2 1 [14, 0, 1, 12, 13] ((14, .bool (decide (v2 < (Zb4 t0)))) :: (Zb2 t0 t1 v2)) ?_)
 refine Y1 (Yc (Y9 (b := decide (v2 < (Zb4 t0))) H rfl (fun c4 H => ?_) (fun c4 H => ?_)))
 ·refine Yb (Yc (Yd (Y0 (Y2 2 [5, 0, 1, 12, 13] ((5, .j v2) :: (Zb2 t0 t1 v2)) ?_))))
  refine Y1 (Y0q Tryd.checked.mixed (by kernel_rfl) ?_)
  have ⟨g5, H⟩ := Y6 H
  refine QOps.sz (N := 26) 3 ((18, .ipt (t0.flatMap eB) (v2.toNat * 1)) :: (17, .j v2) :: (16, slA eB t0) :: (5, .j v2) :: (Zb2 t0 t1 v2)) ⟨g5, trivial⟩ (QOps.asU (.bool (t0.getD v2.toNat false)) rfl (T.load rfl trivial (by kernel_rfl) (Yn eB 1 (fun _ => rfl) t0 false v2.toNat (ltN g5) (fun a => .val (.bool a)) (fun _ => rfl))) ?_)
  have ⟨g6, H⟩ := Y6 H
  refine QOps.sz (N := 26) 3 (Zb3 t0 t1 v2) ⟨g6, trivial⟩ (QOps.asU (.bool (t1.getD v2.toNat false)) rfl (T.load rfl trivial (by kernel_rfl) (Yn eB 1 (fun _ => rfl) t1 false v2.toNat (ltN g6) (fun a => .val (.bool a)) (fun _ => rfl))) (QOps.sz (N := 26) 1 ((24, .bool ((t0.getD v2.toNat false) != (t1.getD v2.toNat false))) :: (23, .bool (t1.getD v2.toNat false)) :: (Zb3 t0 t1 v2)) trivial ?_))
  refine QOps.nil (AW.trim [24, 0, 1, 12, 13] ((24, .bool ((t0.getD v2.toNat false) != (t1.getD v2.toNat false))) :: (Zb2 t0 t1 v2)) (by kernel_rfl) ?_)
  refine Y9 (b := (t0.getD v2.toNat false) != (t1.getD v2.toNat false)) H rfl (fun c7 H => ?_) (fun c7 H => ?_)
  ·refine Y0 (Y2 1 [4] [(4, .bool false)] ?_)
   refine Y1 ?_
   obtain rfl := X1 H
   refine AW.recast (env' := [(4, .bool false)]) (h' := []) (StC.pure (.cons .im .nil)) (Yl ?_)
   try simp only [Ex.t, Ex.b]
   exact Yh rfl (.tmp .nil)
  refine Yb (Ye ?_)
  have ⟨g8, H⟩ := Y6 H
  refine Y8 2 [13, 0, 1, 12] [(13, .j (v2 + 1)), (0, slA eB t0), (1, slA eB t1), (12, .j (Zb4 t0))] ⟨g8, trivial⟩ (Y1 ?_)
  exact ⟨v2 + 1, H, (StC.pure (.i4 .nil))⟩
 refine AW.exit ?_
 refine Y0 (Y2 1 [4] [(4, .bool true)] ?_)
 refine Y1 ?_
 obtain rfl := X1 H
 refine AW.recast (env' := [(4, .bool true)]) (h' := []) (StC.pure (.cons .im .nil)) (Yl ?_)
 try simp only [Ex.t, Ex.b]
 exact Yh rfl (.tmp .nil)
def f_sheet_sameDots_1 (t0 : List Bool) (t1 : List Bool) : Option Bool :=
 (Y5c t0 t1).bind fun x1 =>
 some x1
theorem f_sheet_sameDots_1_ok  {t0 : List Bool} {t1 : List Bool} {r : Bool} (H : f_sheet_sameDots_1 t0 t1 = some r) : QSpec Tryd.prog 58 [slA eB t0, slA eB t1] (.bool r) := by
 refine Yj Tryd.func58 rfl (by simp [Tryd.ntmps58]) ?_
 rw [Tryd.ntmps58]
 unfold f_sheet_sameDots_1 at H
 change AW _ _ _ [(0, slA eB t0), (1, slA eB t1)] [] _
 refine Y0 (Y2 1 [0, 1] [(0, slA eB t0), (1, slA eB t1)] ?_)
 refine Y1 (Y0 (Y2 2 [6, 5] [(6, slA eB t1), (5, slA eB t0)] ?_))
 have ⟨x1, hx1, H⟩ := Yt H
 refine Ys rfl (.cons (.pur rfl) (.cons (.pur rfl) .nil)) (f_slices_Equal_bool_ok hx1) (Y2 1 [4] [(4, .bool x1)] (Y1 ?_))
 obtain rfl := X1 H
 refine AW.recast (env' := [(4, .bool x1)]) (h' := []) (StC.pure (.cons .im .nil)) (Yl ?_)
 try simp only [Ex.t, Ex.b]
 exact Yh rfl (.tmp .nil)
end Go.Proofs.YtbcfmhoaocifoaaDoor
