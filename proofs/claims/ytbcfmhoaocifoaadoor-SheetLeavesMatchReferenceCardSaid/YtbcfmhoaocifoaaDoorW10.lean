/- Own work. -/
import Derived.Test.YtbcfmhoaocifoaaDoorW9
set_option linter.unusedSimpArgs false
set_option linter.unusedVariables false
set_option maxRecDepth 100000
namespace Go.Proofs.YtbcfmhoaocifoaaDoor
open Go.Abs
def f_R25_Made_k1 (v8 : Yr) (v9 : Yr) : Option Yr :=
 some v9
def f_R25_Made (t0 : S_Raw) : Option Yr :=
 (Y49 t0).bind fun x1 =>
 (f_R19_Made t0.Head).bind fun x2 =>
 (Y4b (⟨x1.Width, x2.Label, false, x2.Ink, x2.Part⟩ : Y3)).bind fun x3 =>
 (Y4b (⟨x1.Width, x2.Label, true, x2.Ink, x2.Part⟩ : Y3)).bind fun x4 =>
 G (inR (x1.Height - 1)) <|
 (Y5i t0.Front x1.Width (x1.Height - 1)).bind fun x6 =>
 G (room 24 ([x3.1].length + x6.length)) <|
 cond (decide ((0 : Int) < (t0.Back.length : Int))) (
  (Y5i t0.Back x1.Width (x1.Height - 1)).bind fun x11 =>
  G (room 24 ([x4.1].length + x11.length)) <|
  f_R25_Made_k1 (⟨(⟨(0 : Int), (0 : Int)⟩ : Yu), [], []⟩ : Yr) (⟨x2.Label, [x3.1] ++ x6, [x4.1] ++ x11⟩ : Yr)) (
  f_R25_Made_k1 (⟨(⟨(0 : Int), (0 : Int)⟩ : Yu), [], []⟩ : Yr) (⟨x2.Label, [x3.1] ++ x6, []⟩ : Yr))
section
variable (t0 : S_Raw) (v8 : Yr) (v9 : Yr) (x1 : Y0k) (x2 : Y3) (x3 : ((List Int) × Int)) (x4 : ((List Int) × Int)) (x6 : (List (List Int)))
abbrev Zn0 : List AV := [.int .u8 t0.W, .int .u8 t0.H, sC t0.Front, sC t0.Back, .int .u8 t0.Head.Width, .int .u16 t0.Head.N, .int .u8 t0.Head.K, .bool t0.Head.Back, .int .u16 t0.Head.Ink, .int .u8 t0.Head.Part]
abbrev Zn1 : List AV := [.j (0 : Int), .j (0 : Int), .im (.val (.slice none 0 0)), .im (.val (.slice none 0 0))]
abbrev Zn2 : List AV := [.j x1.Width, .j x1.Height, .j x1.Binding]
abbrev Zn3 : List AV := [.j v9.Label.N, .j v9.Label.K, .rsl 5090 0 0 v9.Front.length, .rsl 5091 0 0 v9.Back.length]
abbrev Zn4 : List AV := [.j x1.Width, .j x2.Label.N, .j x2.Label.K, .bool false, .j x2.Ink, .j x2.Part]
abbrev Zn5 : List AV := [.j x1.Width, .j x2.Label.N, .j x2.Label.K, .bool true, .j x2.Ink, .j x2.Part]
abbrev Zn6 : Nat × AV := (2, .ref 2 0 0)
abbrev Zn7 : List AV := [.j x2.Label.N, .j x2.Label.K, .rsl 33 0 0 ([x3.1].length), .im (.val (.slice none 0 0))]
abbrev Zn8 : List AV := [.j x2.Width, .j x2.Label.N, .j x2.Label.K, .bool x2.Back, .j x2.Ink, .j x2.Part]
abbrev Zn9 : List AV := [.j x1.Width, .j x2.Label.N, .j x2.Label.K, .bool x2.Back, .j x2.Ink, .j x2.Part]
abbrev Zna := (⟨(⟨(0 : Int), (0 : Int)⟩ : Yu), [], []⟩ : Yr)
abbrev Zmn : Env := [(3, .ref 3 0 0), Zn6, (1, .ref 1 0 0)]
abbrev Zmo : Hp := [(1, ⟨0, true, 27, 10, (Zn0 t0)⟩), (2, ⟨0, true, 39, 4, Zn1⟩), (3, ⟨0, true, 32, 3, (Zn2 x1)⟩), (9, ⟨0, true, 39, 4, [.j x2.Label.N, .j x2.Label.K, .rsl 5090 0 0 (([x3.1] ++ x6).length), .im (.val (.slice none 0 0))]⟩), (5090, rtA 0 41 1 (eL (eI .u8)) ([x3.1] ++ x6))]
abbrev Zmp : Hp := [(1, ⟨0, true, 27, 10, (Zn0 t0)⟩), (2, ⟨0, true, 39, 4, Zn1⟩), (3, ⟨0, true, 32, 3, (Zn2 x1)⟩), (9, ⟨0, true, 39, 4, [.j x2.Label.N, .j x2.Label.K, .rsl 5090 0 0 ([x3.1].length), .im (.val (.slice none 0 0))]⟩), (5090, rtA 0 41 1 (eL (eI .u8)) [x3.1])]
abbrev Zmq : Hp := [(1, ⟨0, true, 27, 10, (Zn0 t0)⟩), (2, ⟨0, true, 39, 4, Zn1⟩), (3, ⟨0, true, 32, 3, (Zn2 x1)⟩), (4, ⟨0, true, 86, 6, (Zn8 x2)⟩)]
abbrev Zmr : Hp := [(1, ⟨0, true, 27, 10, (Zn0 t0)⟩), (2, ⟨0, true, 39, 4, Zn1⟩), (3, ⟨0, true, 32, 3, (Zn2 x1)⟩), (4, ⟨0, true, 86, 6, (Zn9 x1 x2)⟩)]
abbrev Zms : Hp := [(1, ⟨0, true, 27, 10, (Zn0 t0)⟩), (2, ⟨0, true, 39, 4, Zn1⟩), (3, ⟨0, true, 32, 3, (Zn2 x1)⟩), (4, ⟨0, true, 86, 6, (Zn4 x1 x2)⟩)]
abbrev Zmt : Hp := [(1, ⟨0, true, 27, 10, (Zn0 t0)⟩), (2, ⟨0, true, 39, 4, Zn1⟩), (3, ⟨0, true, 32, 3, (Zn2 x1)⟩), (4, ⟨0, true, 86, 6, (Zn5 x1 x2)⟩)]
abbrev Zmu : Hp := [(2, ⟨0, true, 39, 4, [.j v8.Label.N, .j v8.Label.K, .rsl 5020 0 0 v8.Front.length, .rsl 5021 0 0 v8.Back.length]⟩), (5020, rtA 0 41 1 (eL (eI .u8)) v8.Front), (5021, rtA 0 41 1 (eL (eI .u8)) v8.Back), (9, ⟨0, true, 39, 4, (Zn3 v9)⟩), (5090, rtA 0 41 1 (eL (eI .u8)) v9.Front), (5091, rtA 0 41 1 (eL (eI .u8)) v9.Back)]
abbrev Zmv : Hp := [(1, ⟨0, true, 27, 10, (Zn0 t0)⟩), (2, ⟨0, true, 39, 4, Zn1⟩), (3, ⟨0, true, 32, 3, (Zn2 x1)⟩)]
abbrev Zmw : Hp := [(1, ⟨0, true, 27, 10, (Zn0 t0)⟩), (2, ⟨0, true, 39, 4, Zn1⟩)]
abbrev Zmx : Env := (9, .ref 9 0 0) :: (7, sU x4.1) :: Zmn
abbrev Zmy : Env := (4, .ref 4 0 0) :: Zmn
abbrev Zmz : Env := [(9, .ref 9 0 0), Zn6]
end
theorem f_R25_Made_ok  {t0 : S_Raw} {r : Yr} (H : f_R25_Made t0 = some r) : QSpec Tryd.prog 24 [.agg [.int .u8 t0.W, .int .u8 t0.H, slA (eL (eI .u8)) t0.Front, slA (eL (eI .u8)) t0.Back, .int .u8 t0.Head.Width, .int .u16 t0.Head.N, .int .u8 t0.Head.K, .bool t0.Head.Back, .int .u16 t0.Head.Ink, .int .u8 t0.Head.Part]] (.agg [.int .i64 r.Label.N, .int .i64 r.Label.K, slA (eL (eI .u8)) r.Front, slA (eL (eI .u8)) r.Back]) := by
 refine Yj Tryd.func24 rfl (by simp [Tryd.ntmps24]) ?_
 rw [Tryd.ntmps24]
 unfold f_R25_Made at H
 change AW _ _ _ [(0, .agg (Zn0 t0))] [] _
 refine Y0 (OpsW.box rfl rfl rfl 1 rfl (Y5 (by kernel_rfl)) ?_)
 change OpsW _ _ _ _ _ [(1, ⟨0, true, 27, 10, (Zn0 t0)⟩)] _
 refine Yo rfl rfl rfl 2 rfl (by kernel_rfl : zc Tryd.prog 39 = some [.j 0, .j 0, .slice none 0 0, .slice none 0 0]) (by kernel_rfl) (Y2 0 [2, 1] [Zn6, (1, .ref 1 0 0)] (Ya [Zn6, (1, .ref 1 0 0)] (Zmw t0) (StC.mk (phi [(1, some 1), (2, some 2)]) (.o rfl (.i9 (.cons .im .nil)) (.o rfl (.i4 .nil) .nil)) rfl (.cons (.r rfl) (.cons (.r rfl) .nil))) ?_))
 refine Y1 (Y0 (Y2 1 [10, 2, 1] [(10, .agg (Zn0 t0)), Zn6, (1, .ref 1 0 0)] ?_))
 have ⟨x1, hx1, H⟩ := Yt H
 refine Ys rfl (.cons (.pur rfl) .nil) (f_R25_Format_ok hx1) (Yo rfl rfl rfl 3 rfl (by kernel_rfl : zc Tryd.prog 32 = some [.j 0, .j 0, .j 0]) (by kernel_rfl) (OpsW.store rfl rfl rfl rfl trivial trivial rfl rfl rfl (by kernel_rfl) (Y5 (by kernel_rfl)) (X0 (by kernel_rfl)) ?_))
 change OpsW _ _ _ _ _ ((3, ⟨0, true, 32, 3, (Zn2 x1)⟩) :: (3, ⟨0, true, 32, 3, [.j (0 : Int), .j (0 : Int), .j (0 : Int)]⟩) :: (Zmw t0)) _
 refine Y2 0 [3, 2, 1] Zmn (Ya Zmn (Zmv t0 x1) (StC.mk (phi [(1, some 1), (2, some 2), (3, some 3)]) (.o rfl (.i9 (.cons .im .nil)) (.o rfl (.i4 .nil) (.o rfl (.i3 .nil) .nil))) rfl (.cons (.r rfl) (.cons (.r rfl) (.cons (.r rfl) .nil)))) ?_)
 refine Y1 (Y0 (Y2 2 [13, 3, 2, 1] ((13, .agg [.int .u8 t0.Head.Width, .int .u16 t0.Head.N, .int .u8 t0.Head.K, .bool t0.Head.Back, .int .u16 t0.Head.Ink, .int .u8 t0.Head.Part]) :: Zmn) ?_))
 have ⟨x2, hx2, H⟩ := Yt H
 refine Ys rfl (.cons (.pur rfl) .nil) (f_R19_Made_ok hx2) (Yo rfl rfl rfl 4 rfl (by kernel_rfl : zc Tryd.prog 86 = some [.j 0, .j 0, .j 0, .bool false, .j 0, .j 0]) (by kernel_rfl) (OpsW.store rfl rfl rfl rfl trivial trivial rfl rfl rfl (by kernel_rfl) (Y5 (by kernel_rfl)) (X0 (by kernel_rfl)) ?_))
 change OpsW _ _ _ _ _ ((4, ⟨0, true, 86, 6, (Zn8 x2)⟩) :: (4, ⟨0, true, 86, 6, [.j (0 : Int), .j (0 : Int), .j (0 : Int), .bool false, .j (0 : Int), .j (0 : Int)]⟩) :: (Zmv t0 x1)) _
 refine Y2 0 [4, 3, 2, 1] Zmy (Ya Zmy (Zmq t0 x1 x2) (StC.mk (phi [(1, some 1), (2, some 2), (3, some 3), (4, some 4)]) (.o rfl (.i9 (.cons .im .nil)) (.o rfl (.i4 .nil) (.o rfl (.i3 .nil) (.o rfl (.i6 .nil) .nil)))) rfl (.cons (.r rfl) (.cons (.r rfl) (.cons (.r rfl) (.cons (.r rfl) .nil))))) ?_)
 refine Y1 (Y0 (Y2 3 [17, 16, 4, 3, 2, 1] ((17, .ref 4 0 0) :: (16, .j x1.Width) :: Zmy) ?_))
 refine OpsW.store rfl rfl rfl rfl trivial trivial rfl rfl rfl (by kernel_rfl) (Y5 (by kernel_rfl)) (X0 (by kernel_rfl)) ?_
 change OpsW _ _ _ _ _ ((4, ⟨0, true, 86, 6, (Zn9 x1 x2)⟩) :: (Zmq t0 x1 x2)) _
 refine Y2 0 [4, 3, 2, 1] Zmy (Ya Zmy (Zmr t0 x1 x2) (StC.mk (phi [(1, some 1), (2, some 2), (3, some 3), (4, some 4)]) (.o rfl (.i9 (.cons .im .nil)) (.o rfl (.i4 .nil) (.o rfl (.i3 .nil) (.o rfl (.i6 .nil) .nil)))) rfl (.cons (.r rfl) (.cons (.r rfl) (.cons (.r rfl) (.cons (.r rfl) .nil))))) ?_)
 refine Y1 (Y0 (Y2 1 [18, 4, 3, 2, 1] ((18, .ref 4 0 3) :: Zmy) ?_))
 refine OpsW.store rfl rfl rfl rfl trivial trivial rfl rfl rfl (by kernel_rfl) (Y5 (by kernel_rfl)) (X0 (by kernel_rfl)) ?_
 change OpsW _ _ _ _ _ ((4, ⟨0, true, 86, 6, (Zn4 x1 x2)⟩) :: (Zmr t0 x1 x2)) _
 refine Y2 0 [4, 3, 2, 1] Zmy (Ya Zmy (Zms t0 x1 x2) (StC.mk (phi [(1, some 1), (2, some 2), (3, some 3), (4, some 4)]) (.o rfl (.i9 (.cons .im .nil)) (.o rfl (.i4 .nil) (.o rfl (.i3 .nil) (.o rfl (.i6 .nil) .nil)))) rfl (.cons (.r rfl) (.cons (.r rfl) (.cons (.r rfl) (.cons (.r rfl) .nil))))) ?_)
 refine Y1 (Y0 (Y2 1 [20, 4, 3, 2, 1] ((20, .agg (Zn4 x1 x2)) :: Zmy) ?_))
 have ⟨x3, hx3, H⟩ := Yt H
 refine Ys rfl (.cons (.pur rfl) .nil) (f_R19_Header_ok hx3) (Y2 5 [5, 4, 3, 2, 1] ((5, sU x3.1) :: Zmy) ?_)
 refine Y1 (Y0 (Y2 1 [24, 5, 4, 3, 2, 1] ((24, .ref 4 0 3) :: (5, sU x3.1) :: Zmy) ?_))
 refine OpsW.store rfl rfl rfl rfl trivial trivial rfl rfl rfl (by kernel_rfl) (Y5 (by kernel_rfl)) (X0 (by kernel_rfl)) ?_
 change OpsW _ _ _ _ _ ((4, ⟨0, true, 86, 6, (Zn5 x1 x2)⟩) :: (Zms t0 x1 x2)) _
 refine Y2 0 [5, 4, 3, 2, 1] ((5, sU x3.1) :: Zmy) (Ya ((5, sU x3.1) :: Zmy) (Zmt t0 x1 x2) (StC.mk (phi [(1, some 1), (2, some 2), (3, some 3), (4, some 4)]) (.o rfl (.i9 (.cons .im .nil)) (.o rfl (.i4 .nil) (.o rfl (.i3 .nil) (.o rfl (.i6 .nil) .nil)))) rfl (.cons .im (.cons (.r rfl) (.cons (.r rfl) (.cons (.r rfl) (.cons (.r rfl) .nil)))))) ?_)
 refine Y1 (Y0 (Y2 1 [26, 5, 4, 3, 2, 1] ((26, .agg (Zn5 x1 x2)) :: (5, sU x3.1) :: Zmy) ?_))
 have ⟨x4, hx4, H⟩ := Yt H
 refine Ys rfl (.cons (.pur rfl) .nil) (f_R19_Header_ok hx4) (Y2 5 [7, 5, 4, 3, 2, 1] ((7, sU x4.1) :: (5, sU x3.1) :: Zmy) ?_)
 refine Y1 (Y0 (Y2 3 [32, 31, 7, 3, 2, 1] ((32, sU x3.1) :: (31, .agg [.j x2.Label.N, .j x2.Label.K]) :: (7, sU x4.1) :: Zmn) ?_))
 refine Y2b (enc := eL (eI .u8)) [x3.1] rfl rfl rfl 33 rfl E37 (fun _ => rfl) (by decide) trivial (by kernel_rfl) (by kernel_rfl) (by kernel_rfl) rfl (Y2 1 [34, 7, 3, 2, 1] ((34, .agg (Zn7 x2 x3)) :: (7, sU x4.1) :: Zmn) (Yo rfl rfl rfl 9 rfl (by kernel_rfl : zc Tryd.prog 39 = some [.j 0, .j 0, .slice none 0 0, .slice none 0 0]) (by kernel_rfl) (OpsW.store rfl rfl rfl rfl trivial trivial rfl rfl rfl (by kernel_rfl) (Y5 (by kernel_rfl)) (X0 (by kernel_rfl)) ?_)))
 change OpsW _ _ _ _ _ ((9, ⟨0, true, 39, 4, (Zn7 x2 x3)⟩) :: (9, ⟨0, true, 39, 4, Zn1⟩) :: (33, rtA 0 41 1 (eL (eI .u8)) [x3.1]) :: (Zmt t0 x1 x2)) _
 refine Y2 0 [9, 7, 3, 2, 1] (Zmx x4) (Ya (Zmx x4) (Zmp t0 x1 x2 x3) (StC.mk (phi [(1, some 1), (2, some 2), (3, some 3), (9, some 9), (5090, some 33)]) (.o rfl (.i9 (.cons .im .nil)) (.o rfl (.i4 .nil) (.o rfl (.i3 .nil) (.o rfl (.i2 (.cons (.s rfl) (.cons .im .nil))) (.o rfl (CstL.ims _) .nil))))) rfl (.cons (.r rfl) (.cons .im (.cons (.r rfl) (.cons (.r rfl) (.cons (.r rfl) .nil)))))) ?_)
 refine Y1 (AW.drawTSeq 10 Tryd.checked.mixed (by kernel_rfl) ?_)
 have ⟨g5, H⟩ := Y6 H
 refine QOps.sz (N := 64) 9 ((43, .j (x1.Height - 1)) :: (42, .j x1.Height) :: (41, .ref 3 0 1) :: (40, .j x1.Width) :: (39, .ref 3 0 0) :: (38, sC t0.Front) :: (37, .ref 1 0 2) :: (36, .rsl 5090 0 0 ([x3.1].length)) :: (35, .ref 9 0 2) :: (Zmx x4)) ⟨g5, trivial⟩ ?_
 have ⟨x6, hx6, H⟩ := Yt H
 refine QOps.qcall rfl (by kernel_rfl) rfl (Yg trivial) (.cons (.pur rfl) (.cons (.pur rfl) (.cons (.pur rfl) .nil))) (f_R25_lines_ok hx6) rfl ?_
 refine QOps.nil (Y2 0 [44, 36, 9, 7, 3, 2, 1] ((44, sC x6) :: (36, .rsl 5090 0 0 ([x3.1].length)) :: (Zmx x4)) ?_)
 have ⟨g7, H⟩ := Y6 H
 refine Y32 (enc := eL (eI .u8)) (ys := x6) rfl rfl rfl E37 (fun _ => rfl) rfl rfl trivial (SrcA.typed (enc := eL (eI .u8)) (fun _ => rfl) (by kernel_rfl) x6) rfl g7 (Y2 1 [46, 45, 9, 7, 3, 2, 1] ((46, .ref 9 0 2) :: (45, .rsl 5090 1 0 (([x3.1] ++ x6).length)) :: (Zmx x4)) (OpsW.store rfl rfl rfl rfl trivial trivial rfl rfl rfl (by kernel_rfl) (Y5 (by kernel_rfl)) (X0 (by kernel_rfl)) ?_))
 change OpsW _ _ _ _ _ ((9, ⟨0, true, 39, 4, [.j x2.Label.N, .j x2.Label.K, .rsl 5090 1 0 (([x3.1] ++ x6).length), .im (.val (.slice none 0 0))]⟩) :: (5090, rtA 1 41 1 (eL (eI .u8)) ([x3.1] ++ x6)) :: (Zmp t0 x1 x2 x3)) _
 refine Y2 0 [9, 7, 3, 2, 1] (Zmx x4) (Ya (Zmx x4) (Zmo t0 x1 x2 x3 x6) (StC.mk (phi [(1, some 1), (2, some 2), (3, some 3), (9, some 9), (5090, some 5090)]) (.o rfl (.i9 (.cons .im .nil)) (.o rfl (.i4 .nil) (.o rfl (.i3 .nil) (.o rfl (.i2 (.cons (.s rfl) (.cons .im .nil))) (.o rfl (CstL.ims _) .nil))))) rfl (.cons (.r rfl) (.cons .im (.cons (.r rfl) (.cons (.r rfl) (.cons (.r rfl) .nil)))))) (Y1 ?_))
 refine Y08 (fun (y : Yr × Yr) => f_R25_Made_k1 y.1 y.2) r (fun (y : Yr × Yr) => [Zn6, (9, .ref 9 0 0)]) (fun (y : Yr × Yr) => [(2, ⟨0, true, 39, 4, [.j y.1.Label.N, .j y.1.Label.K, .rsl 5020 0 0 y.1.Front.length, .rsl 5021 0 0 y.1.Back.length]⟩), (5020, rtA 0 41 1 (eL (eI .u8)) y.1.Front), (5021, rtA 0 41 1 (eL (eI .u8)) y.1.Back), (9, ⟨0, true, 39, 4, [.j y.2.Label.N, .j y.2.Label.K, .rsl 5090 0 0 y.2.Front.length, .rsl 5091 0 0 y.2.Back.length]⟩), (5090, rtA 0 41 1 (eL (eI .u8)) y.2.Front), (5091, rtA 0 41 1 (eL (eI .u8)) y.2.Back)]) ?_ ?_
 ·refine Y0 (Y2 4 [50, 9, 7, 3, 2, 1] ((50, .bool (decide ((0 : Int) < (t0.Back.length : Int)))) :: (Zmx x4)) ?_)
  refine Y1 (Y9 (b := decide ((0 : Int) < (t0.Back.length : Int))) H rfl (fun c10 H => ?_) (fun c10 H => ?_))
  ·refine Ye (Y2 1 [51, 9, 3, 2, 1] ((51, sU x4.1) :: (9, .ref 9 0 0) :: Zmn) ?_)
   refine Y2b (enc := eL (eI .u8)) [x4.1] rfl rfl rfl 52 rfl E37 (fun _ => rfl) (by decide) trivial (by kernel_rfl) (by kernel_rfl) (by kernel_rfl) rfl (Y8 7 [59, 56, 54, 52, 9, 2] ((59, .j (x1.Height - 1)) :: (56, .j x1.Width) :: (54, sC t0.Back) :: (52, .rsl 52 0 0 ([x4.1].length)) :: Zmz) ⟨g5, trivial⟩ ?_)
   have ⟨x11, hx11, H⟩ := Yt H
   refine Ys rfl (.cons (.pur rfl) (.cons (.pur rfl) (.cons (.pur rfl) .nil))) (f_R25_lines_ok hx11) ?_
   have ⟨g12, H⟩ := Y6 H
   refine Y32 (enc := eL (eI .u8)) (ys := x11) rfl rfl rfl E37 (fun _ => rfl) rfl rfl trivial (SrcA.typed (enc := eL (eI .u8)) (fun _ => rfl) (by kernel_rfl) x11) rfl g12 (Y2 1 [62, 61, 9, 2] ((62, .ref 9 0 3) :: (61, .rsl 52 1 0 (([x4.1] ++ x11).length)) :: Zmz) (OpsW.store rfl rfl rfl rfl trivial trivial rfl rfl rfl (by kernel_rfl) (Y5 (by kernel_rfl)) (X0 (by kernel_rfl)) ?_))
   change OpsW _ _ _ _ _ ((9, ⟨0, true, 39, 4, [.j x2.Label.N, .j x2.Label.K, .rsl 5090 0 0 (([x3.1] ++ x6).length), .rsl 52 1 0 (([x4.1] ++ x11).length)]⟩) :: (52, rtA 1 41 1 (eL (eI .u8)) ([x4.1] ++ x11)) :: (52, rtA 0 41 1 (eL (eI .u8)) [x4.1]) :: (Zmo t0 x1 x2 x3 x6)) _
   refine Y2 0 [9, 2] Zmz (Ya Zmz [(2, ⟨0, true, 39, 4, Zn1⟩), (9, ⟨0, true, 39, 4, [.j x2.Label.N, .j x2.Label.K, .rsl 5090 0 0 (([x3.1] ++ x6).length), .rsl 5091 0 0 (([x4.1] ++ x11).length)]⟩), (5090, rtA 0 41 1 (eL (eI .u8)) ([x3.1] ++ x6)), (5091, rtA 0 41 1 (eL (eI .u8)) ([x4.1] ++ x11))] (StC.mk (phi [(2, some 2), (9, some 9), (5090, some 5090), (5091, some 52)]) (.o rfl (.i4 .nil) (.o rfl (.i2 (.cons (.s rfl) (.cons (.s rfl) .nil))) (.o rfl (CstL.ims _) (.o rfl (CstL.ims _) .nil)))) rfl (.cons (.r rfl) (.cons (.r rfl) .nil))) (Y1 ?_))
   exact ⟨(Zna, (⟨x2.Label, [x3.1] ++ x6, [x4.1] ++ x11⟩ : Yr)), H, (StC.mk (phi [(2, some 2), (5020, none), (5021, none), (9, some 9), (5090, some 5090), (5091, some 5091)]) (.o rfl (.i2 (.cons (.nilr rfl rfl rfl) (.cons (.nilr rfl rfl rfl) .nil))) (.new rfl (.new rfl (.o rfl (.i2 (.cons (.s rfl) (.cons (.s rfl) .nil))) (.o rfl (CstL.ims _) (.o rfl (CstL.ims _) .nil)))))) rfl (.cons (.r rfl) (.cons (.r rfl) .nil)))⟩
  refine Yb ?_
  exact ⟨(Zna, (⟨x2.Label, [x3.1] ++ x6, []⟩ : Yr)), H, (StC.mk (phi [(2, some 2), (5020, none), (5021, none), (9, some 9), (5090, some 5090), (5091, none)]) (.o rfl (.i2 (.cons (.nilr rfl rfl rfl) (.cons (.nilr rfl rfl rfl) .nil))) (.new rfl (.new rfl (.o rfl (.i2 (.cons (.s rfl) (.cons (.nilr rfl rfl rfl) .nil))) (.o rfl (CstL.ims _) (.new rfl .nil)))))) rfl (.cons (.r rfl) (.cons (.r rfl) .nil)))⟩
 rintro ⟨v8, v9⟩ H
 unfold f_R25_Made_k1 at H
 change AW _ _ _ [Zn6, (9, .ref 9 0 0)] (Zmu v8 v9) _
 refine Y0 (Y2 1 [63, 2] [(63, .agg (Zn3 v9)), Zn6] ?_)
 refine OpsW.store rfl rfl rfl rfl trivial trivial rfl rfl rfl (by kernel_rfl) (Y5 (by kernel_rfl)) (X0 (by kernel_rfl)) ?_
 change OpsW _ _ _ _ _ ((2, ⟨0, true, 39, 4, (Zn3 v9)⟩) :: (Zmu v8 v9)) _
 refine Y2 0 [2] [Zn6] (Ya [Zn6] [(2, ⟨0, true, 39, 4, [.j v9.Label.N, .j v9.Label.K, .rsl 5020 0 0 v9.Front.length, .rsl 5021 0 0 v9.Back.length]⟩), (5020, rtA 0 41 1 (eL (eI .u8)) v9.Front), (5021, rtA 0 41 1 (eL (eI .u8)) v9.Back)] (StC.mk (phi [(2, some 2), (5020, some 5090), (5021, some 5091)]) (.o rfl (.i2 (.cons (.s rfl) (.cons (.s rfl) .nil))) (.o rfl (CstL.ims _) (.o rfl (CstL.ims _) .nil))) rfl (.cons (.r rfl) .nil)) (Y1 ?_))
 obtain rfl := X1 H
 refine AW.recast (env' := [Zn6]) (h' := [(2, ⟨0, true, 39, 4, [.j v9.Label.N, .j v9.Label.K, sC v9.Front, sC v9.Back]⟩)]) (StC.mk (phi [(2, some 2)]) (.o rfl (.i2 (.cons (.frz rfl rfl rfl (Y1b (eL (eI .u8)) 1 (fun _ => rfl) v9.Front) (Yy (eL (eI .u8)) 1 (fun _ => rfl) v9.Front) (Y3c rfl)) (.cons (.frz rfl rfl rfl (Y1b (eL (eI .u8)) 1 (fun _ => rfl) v9.Back) (Yy (eL (eI .u8)) 1 (fun _ => rfl) v9.Back) (Y3c rfl)) .nil))) .nil) rfl (.cons (.r rfl) .nil)) (Yl ?_)
 try simp only [Ex.t, Ex.b]
 exact Yh rfl (.cell rfl (by kernel_rfl) .nil)
def f_R25_Same (t0 : Yr) (t1 : Yr) : Option Bool :=
 (cond (xor false ([t0.Label.N == t1.Label.N, t0.Label.K == t1.Label.K].all id)) (Y21 t0.Front t1.Front) (some false)).bind fun x1 =>
 (cond (cond (xor false ([t0.Label.N == t1.Label.N, t0.Label.K == t1.Label.K].all id)) x1 false) (Y21 t0.Back t1.Back) (some false)).bind fun x2 =>
 some (cond (cond (xor false ([t0.Label.N == t1.Label.N, t0.Label.K == t1.Label.K].all id)) x1 false) x2 false)
section
variable (t0 : Yr) (t1 : Yr) (x1 : Bool) (x2 : Bool)
abbrev Zne := xor false ([t0.Label.N == t1.Label.N, t0.Label.K == t1.Label.K].all id)
abbrev Znf : List AV := [.j t0.Label.N, .j t0.Label.K, sC t0.Front, sC t0.Back]
abbrev Zng : List AV := [.j t1.Label.N, .j t1.Label.K, sC t1.Front, sC t1.Back]
abbrev Znb : Env := [(4, .bool (cond (cond (Zne t0 t1) x1 false) x2 false))]
abbrev Znc : Env := [(3, .ref 3 0 0), (2, .ref 2 0 0)]
abbrev Znd : Hp := [(2, ⟨0, true, 39, 4, (Znf t0)⟩)]
end
theorem f_R25_Same_ok  {t0 : Yr} {t1 : Yr} {r : Bool} (H : f_R25_Same t0 t1 = some r) : QSpec Tryd.prog 26 [.agg [.int .i64 t0.Label.N, .int .i64 t0.Label.K, slA (eL (eI .u8)) t0.Front, slA (eL (eI .u8)) t0.Back], .agg [.int .i64 t1.Label.N, .int .i64 t1.Label.K, slA (eL (eI .u8)) t1.Front, slA (eL (eI .u8)) t1.Back]] (.bool r) := by
 refine Yj Tryd.func26 rfl (by simp [Tryd.ntmps26]) ?_
 rw [Tryd.ntmps26]
 unfold f_R25_Same at H
 change AW _ _ _ [(0, .agg (Znf t0)), (1, .agg (Zng t1))] [] _
 refine Y0 (OpsW.box rfl rfl rfl 2 rfl (Y5 (by kernel_rfl)) ?_)
 change OpsW _ _ _ _ _ (Znd t0) _
 refine OpsW.box rfl rfl rfl 3 rfl (Y5 (by kernel_rfl)) ?_
 change OpsW _ _ _ _ _ ((3, ⟨0, true, 39, 4, (Zng t1)⟩) :: (Znd t0)) _
 refine Y2 1 [3, 2] Znc (Ya Znc [(2, ⟨0, true, 39, 4, (Znf t0)⟩), (3, ⟨0, true, 39, 4, (Zng t1)⟩)] (StC.mk (phi [(2, some 2), (3, some 3)]) (.o rfl (.i4 .nil) (.o rfl (.i4 .nil) .nil)) rfl (.cons (.r rfl) (.cons (.r rfl) .nil))) ?_)
 refine Y1 (Y0 (Y2 4 [8, 6, 3, 2] ((8, .agg [.j t1.Label.N, .j t1.Label.K]) :: (6, .agg [.j t0.Label.N, .j t0.Label.K]) :: Znc) ?_))
 refine Y4c (.bool (Zne t0 t1)) rfl rfl (Quiet.eqAgg [.j t0.Label.N, .j t0.Label.K] [.j t1.Label.N, .j t1.Label.K] [t0.Label.N == t1.Label.N, t0.Label.K == t1.Label.K] false rfl rfl (by kernel_rfl) (by kernel_rfl) (gpoU rfl ⟨trivial, rfl, trivial, rfl⟩)) (Y8 5 [14, 12, 10, 3, 2] ((14, .cnd (Zne t0 t1) (sC t1.Front)) :: (12, .cnd (Zne t0 t1) (sC t0.Front)) :: (10, .bool (Zne t0 t1)) :: Znc) ⟨(fun h => h), (fun h => h), trivial⟩ ?_)
 have ⟨x1, hx1, H⟩ := Yt H
 refine OpsW.gcall (c := xor false ([t0.Label.N == t1.Label.N, t0.Label.K == t1.Label.K].all id)) (r := .bool x1) [] rfl (by kernel_rfl) rfl rfl rfl rfl (fun hc => ⟨Yg ⟨hc, hc, trivial⟩, (.cons (.pur rfl) (.cons (.pur rfl) .nil)), Y4i (condT hc hx1), .inl ⟨rfl, rfl⟩⟩) (Y8 6 [21, 19, 17] [(21, .cnd (cond (Zne t0 t1) x1 false) (sC t1.Back)), (19, .cnd (cond (Zne t0 t1) x1 false) (sC t0.Back)), (17, .bool (cond (Zne t0 t1) x1 false))] ⟨(fun h => by first | exact h | (simpa using h) | grind), (fun h => h), (fun h => h), trivial⟩ ?_)
 have ⟨x2, hx2, H⟩ := Yt H
 refine OpsW.gcall (c := cond (Zne t0 t1) x1 false) (r := .bool x2) [] rfl (by kernel_rfl) rfl rfl rfl rfl (fun hc => ⟨Yg ⟨hc, hc, trivial⟩, (.cons (.pur rfl) (.cons (.pur rfl) .nil)), Y4i (condT hc hx2), .inl ⟨rfl, rfl⟩⟩) (Y8 2 [4] (Znb t0 t1 x1 x2) ⟨(fun h => by first | exact h | (simpa using h) | grind), trivial⟩ (Y1 ?_))
 obtain rfl := X1 H
 refine AW.recast (env' := (Znb t0 t1 x1 x2)) (h' := []) (StC.pure (.cons .im .nil)) (Yl ?_)
 try simp only [Ex.t, Ex.b]
 exact Yh rfl (.tmp .nil)
end Go.Proofs.YtbcfmhoaocifoaaDoor
