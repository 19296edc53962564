/-
 Written by gen.py (own work): typed functions, and that the program computes them.
-/
import Derived.Test.YtbcfmhoaocifoaaDoorW9
set_option linter.unusedSimpArgs false
set_option linter.unusedVariables false
set_option maxRecDepth 100000
namespace Go.Proofs.YtbcfmhoaocifoaaDoor
open Go.Abs
def f_R25_Made_k1 (v8 : S_Leaf) (v9 : S_Leaf) : Option S_Leaf :=
 some v9
def f_R25_Made (t0 : S_Raw) : Option S_Leaf :=
 (f_R25_Format t0).bind fun x1 =>
 (f_R19_Made t0.Head).bind fun x2 =>
 (f_R19_Header (⟨x1.Width, x2.Label, false, x2.Ink, x2.Part⟩ : S_Header)).bind fun x3 =>
 (f_R19_Header (⟨x1.Width, x2.Label, true, x2.Ink, x2.Part⟩ : S_Header)).bind fun x4 =>
 G (inR (x1.Height - 1)) <|
 (f_R25_lines t0.Front x1.Width (x1.Height - 1)).bind fun x6 =>
 G (room 24 ([x3.1].length + x6.length)) <|
 cond (decide ((0 : Int) < (t0.Back.length : Int))) (
  (f_R25_lines t0.Back x1.Width (x1.Height - 1)).bind fun x11 =>
  G (room 24 ([x4.1].length + x11.length)) <|
  f_R25_Made_k1 (⟨(⟨(0 : Int), (0 : Int)⟩ : S_Label), [], []⟩ : S_Leaf) (⟨x2.Label, [x3.1] ++ x6, [x4.1] ++ x11⟩ : S_Leaf)) (
  f_R25_Made_k1 (⟨(⟨(0 : Int), (0 : Int)⟩ : S_Label), [], []⟩ : S_Leaf) (⟨x2.Label, [x3.1] ++ x6, []⟩ : S_Leaf))
section
variable (t0 : S_Raw) (v8 : S_Leaf) (v9 : S_Leaf) (x1 : S_Format) (x2 : S_Header) (x3 : ((List Int) × Int)) (x4 : ((List Int) × Int)) (x6 : (List (List Int)))
abbrev qZr0 : List AV := [.int .u8 t0.W, .int .u8 t0.H, slA (eL (eI .u8)) t0.Front, slA (eL (eI .u8)) t0.Back, .int .u8 t0.Head.Width, .int .u16 t0.Head.N, .int .u8 t0.Head.K, .bool t0.Head.Back, .int .u16 t0.Head.Ink, .int .u8 t0.Head.Part]
abbrev qZr1 : List AV := [.int .i64 0, .int .i64 0, .im (.val (.slice none 0 0)), .im (.val (.slice none 0 0))]
abbrev qZr2 : List AV := [.int .i64 x1.Width, .int .i64 x1.Height, .int .i64 x1.Binding]
abbrev qZr3 : List AV := [.int .i64 x1.Width, .int .i64 x2.Label.N, .int .i64 x2.Label.K, .bool false, .int .i64 x2.Ink, .int .i64 x2.Part]
abbrev qZr4 : List AV := [.int .i64 x1.Width, .int .i64 x2.Label.N, .int .i64 x2.Label.K, .bool true, .int .i64 x2.Ink, .int .i64 x2.Part]
abbrev qZr5 : List AV := [.int .i64 v9.Label.N, .int .i64 v9.Label.K, .rsl 5090 0 0 v9.Front.length, .rsl 5091 0 0 v9.Back.length]
abbrev qZr6 : List AV := [.int .i64 x2.Width, .int .i64 x2.Label.N, .int .i64 x2.Label.K, .bool x2.Back, .int .i64 x2.Ink, .int .i64 x2.Part]
abbrev qZr7 : List AV := [.int .i64 x1.Width, .int .i64 x2.Label.N, .int .i64 x2.Label.K, .bool x2.Back, .int .i64 x2.Ink, .int .i64 x2.Part]
abbrev qZr8 : Nat × AV := (2, .ref 2 0 0)
abbrev qZr9 : List AV := [.int .i64 x2.Label.N, .int .i64 x2.Label.K, .rsl 33 0 0 ([x3.1].length), .im (.val (.slice none 0 0))]
abbrev qZra := (⟨(⟨(0 : Int), (0 : Int)⟩ : S_Label), [], []⟩ : S_Leaf)
abbrev qZqm : Env := [(3, .ref 3 0 0), qZr8, (1, .ref 1 0 0)]
abbrev qZqn : Hp := [(1, ⟨0, true, 27, 10, (qZr0 t0)⟩), (2, ⟨0, true, 39, 4, qZr1⟩), (3, ⟨0, true, 32, 3, (qZr2 x1)⟩), (9, ⟨0, true, 39, 4, [.int .i64 x2.Label.N, .int .i64 x2.Label.K, .rsl 5090 0 0 (([x3.1] ++ x6).length), .im (.val (.slice none 0 0))]⟩), (5090, rtA 0 41 1 (eL (eI .u8)) ([x3.1] ++ x6))]
abbrev qZqo : Hp := [(1, ⟨0, true, 27, 10, (qZr0 t0)⟩), (2, ⟨0, true, 39, 4, qZr1⟩), (3, ⟨0, true, 32, 3, (qZr2 x1)⟩), (9, ⟨0, true, 39, 4, [.int .i64 x2.Label.N, .int .i64 x2.Label.K, .rsl 5090 0 0 ([x3.1].length), .im (.val (.slice none 0 0))]⟩), (5090, rtA 0 41 1 (eL (eI .u8)) [x3.1])]
abbrev qZqp : Hp := [(1, ⟨0, true, 27, 10, (qZr0 t0)⟩), (2, ⟨0, true, 39, 4, qZr1⟩), (3, ⟨0, true, 32, 3, (qZr2 x1)⟩), (4, ⟨0, true, 86, 6, (qZr6 x2)⟩)]
abbrev qZqq : Hp := [(1, ⟨0, true, 27, 10, (qZr0 t0)⟩), (2, ⟨0, true, 39, 4, qZr1⟩), (3, ⟨0, true, 32, 3, (qZr2 x1)⟩), (4, ⟨0, true, 86, 6, (qZr7 x1 x2)⟩)]
abbrev qZqr : Hp := [(1, ⟨0, true, 27, 10, (qZr0 t0)⟩), (2, ⟨0, true, 39, 4, qZr1⟩), (3, ⟨0, true, 32, 3, (qZr2 x1)⟩), (4, ⟨0, true, 86, 6, (qZr3 x1 x2)⟩)]
abbrev qZqs : Hp := [(1, ⟨0, true, 27, 10, (qZr0 t0)⟩), (2, ⟨0, true, 39, 4, qZr1⟩), (3, ⟨0, true, 32, 3, (qZr2 x1)⟩), (4, ⟨0, true, 86, 6, (qZr4 x1 x2)⟩)]
abbrev qZqt : Hp := [(1, ⟨0, true, 27, 10, (qZr0 t0)⟩), (2, ⟨0, true, 39, 4, qZr1⟩), (3, ⟨0, true, 32, 3, (qZr2 x1)⟩)]
abbrev qZqu : Hp := [(2, ⟨0, true, 39, 4, [.int .i64 v8.Label.N, .int .i64 v8.Label.K, .rsl 5020 0 0 v8.Front.length, .rsl 5021 0 0 v8.Back.length]⟩), (5020, rtA 0 41 1 (eL (eI .u8)) v8.Front), (5021, rtA 0 41 1 (eL (eI .u8)) v8.Back), (9, ⟨0, true, 39, 4, (qZr5 v9)⟩), (5090, rtA 0 41 1 (eL (eI .u8)) v9.Front), (5091, rtA 0 41 1 (eL (eI .u8)) v9.Back)]
abbrev qZqv : Hp := [(1, ⟨0, true, 27, 10, (qZr0 t0)⟩), (2, ⟨0, true, 39, 4, qZr1⟩)]
abbrev qZqw : Env := (9, .ref 9 0 0) :: (7, slA (eI .u8) x4.1) :: qZqm
abbrev qZqx : Env := (5, slA (eI .u8) x3.1) :: (4, .ref 4 0 0) :: qZqm
abbrev qZqy : Env := (4, .ref 4 0 0) :: qZqm
abbrev qZqz : Env := [(9, .ref 9 0 0), qZr8]
end
theorem f_R25_Made_ok  {t0 : S_Raw} {r : S_Leaf} (H : f_R25_Made t0 = some r) : QSpec Tryd.prog 24 [.agg [.int .u8 t0.W, .int .u8 t0.H, slA (eL (eI .u8)) t0.Front, slA (eL (eI .u8)) t0.Back, .int .u8 t0.Head.Width, .int .u16 t0.Head.N, .int .u8 t0.Head.K, .bool t0.Head.Back, .int .u16 t0.Head.Ink, .int .u8 t0.Head.Part]] (.agg [.int .i64 r.Label.N, .int .i64 r.Label.K, slA (eL (eI .u8)) r.Front, slA (eL (eI .u8)) r.Back]) := by
 refine Spec.of_AW Tryd.func24 rfl (by simp [Tryd.ntmps24]) ?_
 rw [Tryd.ntmps24]
 unfold f_R25_Made at H
 change AW _ _ _ [(0, .agg (qZr0 t0))] [] _
 refine AW.regionSeq (OpsW.box rfl rfl rfl 1 rfl (okCb_sound (by kernel_rfl)) ?_)
 change OpsW _ _ _ _ _ [(1, ⟨0, true, 27, 10, (qZr0 t0)⟩)] _
 refine OpsW.alloc' rfl rfl rfl 2 rfl (by kernel_rfl : zc Tryd.prog 39 = some [.int .i64 0, .int .i64 0, .slice none 0 0, .slice none 0 0]) (by kernel_rfl) ?_
 refine OpsW.sg 0 [2, 1] [qZr8, (1, .ref 1 0 0)] ?_
 refine OpsW.recast (env' := [qZr8, (1, .ref 1 0 0)]) (h' := (qZqv t0)) (StC.mk (phi [(1, some 1), (2, some 2)]) (.o rfl (.i9 (.cons .im .nil)) (.o rfl (.i4 .nil) .nil)) rfl (.cons (.r rfl) (.cons (.r rfl) .nil))) ?_
 refine OpsW.nil (AW.regionSeq (OpsW.sg 1 [10, 2, 1] [(10, .agg (qZr0 t0)), qZr8, (1, .ref 1 0 0)] ?_))
 obtain ⟨x1, hx1, H⟩ := bindS H
 refine OpsW.qcall rfl (by kernel_rfl) rfl rfl (glAll_sound trivial) (.cons (.pur rfl) .nil) (f_R25_Format_ok hx1) rfl ?_
 refine OpsW.alloc' rfl rfl rfl 3 rfl (by kernel_rfl : zc Tryd.prog 32 = some [.int .i64 0, .int .i64 0, .int .i64 0]) (by kernel_rfl) ?_
 refine OpsW.store rfl rfl rfl rfl trivial trivial rfl rfl rfl (by kernel_rfl) (okCb_sound (by kernel_rfl)) (Nat.le_of_ble_eq_true (by kernel_rfl)) ?_
 change OpsW _ _ _ _ _ ((3, ⟨0, true, 32, 3, (qZr2 x1)⟩) :: (3, ⟨0, true, 32, 3, [.int .i64 0, .int .i64 0, .int .i64 0]⟩) :: (qZqv t0)) _
 refine OpsW.sg 0 [3, 2, 1] qZqm ?_
 refine OpsW.recast (env' := qZqm) (h' := (qZqt t0 x1)) (StC.mk (phi [(1, some 1), (2, some 2), (3, some 3)]) (.o rfl (.i9 (.cons .im .nil)) (.o rfl (.i4 .nil) (.o rfl (.i3 .nil) .nil))) rfl (.cons (.r rfl) (.cons (.r rfl) (.cons (.r rfl) .nil)))) ?_
 refine OpsW.nil (AW.regionSeq (OpsW.sg 2 [13, 3, 2, 1] ((13, .agg [.int .u8 t0.Head.Width, .int .u16 t0.Head.N, .int .u8 t0.Head.K, .bool t0.Head.Back, .int .u16 t0.Head.Ink, .int .u8 t0.Head.Part]) :: qZqm) ?_))
 obtain ⟨x2, hx2, H⟩ := bindS H
 refine OpsW.qcall rfl (by kernel_rfl) rfl rfl (glAll_sound trivial) (.cons (.pur rfl) .nil) (f_R19_Made_ok hx2) rfl ?_
 refine OpsW.alloc' rfl rfl rfl 4 rfl (by kernel_rfl : zc Tryd.prog 86 = some [.int .i64 0, .int .i64 0, .int .i64 0, .bool false, .int .i64 0, .int .i64 0]) (by kernel_rfl) ?_
 refine OpsW.store rfl rfl rfl rfl trivial trivial rfl rfl rfl (by kernel_rfl) (okCb_sound (by kernel_rfl)) (Nat.le_of_ble_eq_true (by kernel_rfl)) ?_
 change OpsW _ _ _ _ _ ((4, ⟨0, true, 86, 6, (qZr6 x2)⟩) :: (4, ⟨0, true, 86, 6, [.int .i64 0, .int .i64 0, .int .i64 0, .bool false, .int .i64 0, .int .i64 0]⟩) :: (qZqt t0 x1)) _
 refine OpsW.sg 0 [4, 3, 2, 1] qZqy ?_
 refine OpsW.recast (env' := qZqy) (h' := (qZqp t0 x1 x2)) (StC.mk (phi [(1, some 1), (2, some 2), (3, some 3), (4, some 4)]) (.o rfl (.i9 (.cons .im .nil)) (.o rfl (.i4 .nil) (.o rfl (.i3 .nil) (.o rfl (.i6 .nil) .nil)))) rfl (.cons (.r rfl) (.cons (.r rfl) (.cons (.r rfl) (.cons (.r rfl) .nil))))) ?_
 refine OpsW.nil (AW.regionSeq (OpsW.sg 3 [17, 16, 4, 3, 2, 1] ((17, .ref 4 0 0) :: (16, .int .i64 x1.Width) :: qZqy) ?_))
 refine OpsW.store rfl rfl rfl rfl trivial trivial rfl rfl rfl (by kernel_rfl) (okCb_sound (by kernel_rfl)) (Nat.le_of_ble_eq_true (by kernel_rfl)) ?_
 change OpsW _ _ _ _ _ ((4, ⟨0, true, 86, 6, (qZr7 x1 x2)⟩) :: (qZqp t0 x1 x2)) _
 refine OpsW.sg 0 [4, 3, 2, 1] qZqy ?_
 refine OpsW.recast (env' := qZqy) (h' := (qZqq t0 x1 x2)) (StC.mk (phi [(1, some 1), (2, some 2), (3, some 3), (4, some 4)]) (.o rfl (.i9 (.cons .im .nil)) (.o rfl (.i4 .nil) (.o rfl (.i3 .nil) (.o rfl (.i6 .nil) .nil)))) rfl (.cons (.r rfl) (.cons (.r rfl) (.cons (.r rfl) (.cons (.r rfl) .nil))))) ?_
 refine OpsW.nil (AW.regionSeq (OpsW.sg 1 [18, 4, 3, 2, 1] ((18, .ref 4 0 3) :: qZqy) ?_))
 refine OpsW.store rfl rfl rfl rfl trivial trivial rfl rfl rfl (by kernel_rfl) (okCb_sound (by kernel_rfl)) (Nat.le_of_ble_eq_true (by kernel_rfl)) ?_
 change OpsW _ _ _ _ _ ((4, ⟨0, true, 86, 6, (qZr3 x1 x2)⟩) :: (qZqq t0 x1 x2)) _
 refine OpsW.sg 0 [4, 3, 2, 1] qZqy ?_
 refine OpsW.recast (env' := qZqy) (h' := (qZqr t0 x1 x2)) (StC.mk (phi [(1, some 1), (2, some 2), (3, some 3), (4, some 4)]) (.o rfl (.i9 (.cons .im .nil)) (.o rfl (.i4 .nil) (.o rfl (.i3 .nil) (.o rfl (.i6 .nil) .nil)))) rfl (.cons (.r rfl) (.cons (.r rfl) (.cons (.r rfl) (.cons (.r rfl) .nil))))) ?_
 refine OpsW.nil (AW.regionSeq (OpsW.sg 1 [20, 4, 3, 2, 1] ((20, .agg (qZr3 x1 x2)) :: qZqy) ?_))
 obtain ⟨x3, hx3, H⟩ := bindS H
 refine OpsW.qcall rfl (by kernel_rfl) rfl rfl (glAll_sound trivial) (.cons (.pur rfl) .nil) (f_R19_Header_ok hx3) rfl ?_
 refine OpsW.sg 5 [5, 4, 3, 2, 1] (qZqx x3) ?_
 refine OpsW.nil (AW.regionSeq (OpsW.sg 1 [24, 5, 4, 3, 2, 1] ((24, .ref 4 0 3) :: (qZqx x3)) ?_))
 refine OpsW.store rfl rfl rfl rfl trivial trivial rfl rfl rfl (by kernel_rfl) (okCb_sound (by kernel_rfl)) (Nat.le_of_ble_eq_true (by kernel_rfl)) ?_
 change OpsW _ _ _ _ _ ((4, ⟨0, true, 86, 6, (qZr4 x1 x2)⟩) :: (qZqr t0 x1 x2)) _
 refine OpsW.sg 0 [5, 4, 3, 2, 1] (qZqx x3) ?_
 refine OpsW.recast (env' := (qZqx x3)) (h' := (qZqs t0 x1 x2)) (StC.mk (phi [(1, some 1), (2, some 2), (3, some 3), (4, some 4)]) (.o rfl (.i9 (.cons .im .nil)) (.o rfl (.i4 .nil) (.o rfl (.i3 .nil) (.o rfl (.i6 .nil) .nil)))) rfl (.cons .im (.cons (.r rfl) (.cons (.r rfl) (.cons (.r rfl) (.cons (.r rfl) .nil)))))) ?_
 refine OpsW.nil (AW.regionSeq (OpsW.sg 1 [26, 5, 4, 3, 2, 1] ((26, .agg (qZr4 x1 x2)) :: (qZqx x3)) ?_))
 obtain ⟨x4, hx4, H⟩ := bindS H
 refine OpsW.qcall rfl (by kernel_rfl) rfl rfl (glAll_sound trivial) (.cons (.pur rfl) .nil) (f_R19_Header_ok hx4) rfl ?_
 refine OpsW.sg 5 [7, 5, 4, 3, 2, 1] ((7, slA (eI .u8) x4.1) :: (qZqx x3)) ?_
 refine OpsW.nil (AW.regionSeq (OpsW.sg 3 [32, 31, 7, 3, 2, 1] ((32, slA (eI .u8) x3.1) :: (31, .agg [.int .i64 x2.Label.N, .int .i64 x2.Label.K]) :: (7, slA (eI .u8) x4.1) :: qZqm) ?_))
 refine OpsW.buildT (enc := eL (eI .u8)) [x3.1] rfl rfl rfl 33 rfl E37 (fun _ => rfl) (by decide) trivial (by kernel_rfl) (by kernel_rfl) (by kernel_rfl) rfl ?_
 refine OpsW.sg 1 [34, 7, 3, 2, 1] ((34, .agg (qZr9 x2 x3)) :: (7, slA (eI .u8) x4.1) :: qZqm) ?_
 refine OpsW.alloc' rfl rfl rfl 9 rfl (by kernel_rfl : zc Tryd.prog 39 = some [.int .i64 0, .int .i64 0, .slice none 0 0, .slice none 0 0]) (by kernel_rfl) ?_
 refine OpsW.store rfl rfl rfl rfl trivial trivial rfl rfl rfl (by kernel_rfl) (okCb_sound (by kernel_rfl)) (Nat.le_of_ble_eq_true (by kernel_rfl)) ?_
 change OpsW _ _ _ _ _ ((9, ⟨0, true, 39, 4, (qZr9 x2 x3)⟩) :: (9, ⟨0, true, 39, 4, qZr1⟩) :: (33, rtA 0 41 1 (eL (eI .u8)) [x3.1]) :: (qZqs t0 x1 x2)) _
 refine OpsW.sg 0 [9, 7, 3, 2, 1] (qZqw x4) ?_
 refine OpsW.recast (env' := (qZqw x4)) (h' := (qZqo t0 x1 x2 x3)) (StC.mk (phi [(1, some 1), (2, some 2), (3, some 3), (9, some 9), (5090, some 33)]) (.o rfl (.i9 (.cons .im .nil)) (.o rfl (.i4 .nil) (.o rfl (.i3 .nil) (.o rfl (.i2 (.cons (.s rfl) (.cons .im .nil))) (.o rfl (CstL.ims _) .nil))))) rfl (.cons (.r rfl) (.cons .im (.cons (.r rfl) (.cons (.r rfl) (.cons (.r rfl) .nil)))))) ?_
 refine OpsW.nil (AW.drawTSeq 10 Tryd.checked.mixed (by kernel_rfl) ?_)
 obtain ⟨g5, H⟩ := G_some H
 refine QOps.seg (N := 64) 9 [inR (x1.Height - 1)] ((43, .int .i64 (x1.Height - 1)) :: (42, .int .i64 x1.Height) :: (41, .ref 3 0 1) :: (40, .int .i64 x1.Width) :: (39, .ref 3 0 0) :: (38, slA (eL (eI .u8)) t0.Front) :: (37, .ref 1 0 2) :: (36, .rsl 5090 0 0 ([x3.1].length)) :: (35, .ref 9 0 2) :: (qZqw x4)) (by kernel_rfl) ⟨g5, trivial⟩ ?_
 obtain ⟨x6, hx6, H⟩ := bindS H
 refine QOps.qcall rfl (by kernel_rfl) rfl (glAll_sound trivial) (.cons (.pur rfl) (.cons (.pur rfl) (.cons (.pur rfl) .nil))) (f_R25_lines_ok hx6) rfl ?_
 refine QOps.nil (OpsW.sg 0 [44, 36, 9, 7, 3, 2, 1] ((44, slA (eL (eI .u8)) x6) :: (36, .rsl 5090 0 0 ([x3.1].length)) :: (qZqw x4)) ?_)
 obtain ⟨g7, H⟩ := G_some H
 refine OpsW.appendF (enc := eL (eI .u8)) (ys := x6) rfl rfl rfl E37 (fun _ => rfl) rfl rfl trivial (SrcA.typed (enc := eL (eI .u8)) (fun _ => rfl) (by kernel_rfl) x6) rfl g7 ?_
 refine OpsW.sg 1 [46, 45, 9, 7, 3, 2, 1] ((46, .ref 9 0 2) :: (45, .rsl 5090 1 0 (([x3.1] ++ x6).length)) :: (qZqw x4)) ?_
 refine OpsW.store rfl rfl rfl rfl trivial trivial rfl rfl rfl (by kernel_rfl) (okCb_sound (by kernel_rfl)) (Nat.le_of_ble_eq_true (by kernel_rfl)) ?_
 change OpsW _ _ _ _ _ ((9, ⟨0, true, 39, 4, [.int .i64 x2.Label.N, .int .i64 x2.Label.K, .rsl 5090 1 0 (([x3.1] ++ x6).length), .im (.val (.slice none 0 0))]⟩) :: (5090, rtA 1 41 1 (eL (eI .u8)) ([x3.1] ++ x6)) :: (qZqo t0 x1 x2 x3)) _
 refine OpsW.sg 0 [9, 7, 3, 2, 1] (qZqw x4) ?_
 refine OpsW.recast (env' := (qZqw x4)) (h' := (qZqn t0 x1 x2 x3 x6)) (StC.mk (phi [(1, some 1), (2, some 2), (3, some 3), (9, some 9), (5090, some 5090)]) (.o rfl (.i9 (.cons .im .nil)) (.o rfl (.i4 .nil) (.o rfl (.i3 .nil) (.o rfl (.i2 (.cons (.s rfl) (.cons .im .nil))) (.o rfl (CstL.ims _) .nil))))) rfl (.cons (.r rfl) (.cons .im (.cons (.r rfl) (.cons (.r rfl) (.cons (.r rfl) .nil)))))) ?_
 refine OpsW.nil ?_
 refine AW.joinK (fun (y : S_Leaf × S_Leaf) => f_R25_Made_k1 y.1 y.2) r (fun (y : S_Leaf × S_Leaf) => [qZr8, (9, .ref 9 0 0)]) (fun (y : S_Leaf × S_Leaf) => [(2, ⟨0, true, 39, 4, [.int .i64 y.1.Label.N, .int .i64 y.1.Label.K, .rsl 5020 0 0 y.1.Front.length, .rsl 5021 0 0 y.1.Back.length]⟩), (5020, rtA 0 41 1 (eL (eI .u8)) y.1.Front), (5021, rtA 0 41 1 (eL (eI .u8)) y.1.Back), (9, ⟨0, true, 39, 4, [.int .i64 y.2.Label.N, .int .i64 y.2.Label.K, .rsl 5090 0 0 y.2.Front.length, .rsl 5091 0 0 y.2.Back.length]⟩), (5090, rtA 0 41 1 (eL (eI .u8)) y.2.Front), (5091, rtA 0 41 1 (eL (eI .u8)) y.2.Back)]) ?_ ?_
 ·refine AW.regionSeq (OpsW.sg 4 [50, 9, 7, 3, 2, 1] ((50, .bool (decide ((0 : Int) < (t0.Back.length : Int)))) :: (qZqw x4)) ?_)
  refine OpsW.nil (AW.cond (b := decide ((0 : Int) < (t0.Back.length : Int))) rfl (fun c10 => ?_) (fun c10 => ?_))
  ·replace H := condT c10 H
   refine AW.region (OpsW.sg 1 [51, 9, 3, 2, 1] ((51, slA (eI .u8) x4.1) :: (9, .ref 9 0 0) :: qZqm) ?_)
   refine OpsW.buildT (enc := eL (eI .u8)) [x4.1] rfl rfl rfl 52 rfl E37 (fun _ => rfl) (by decide) trivial (by kernel_rfl) (by kernel_rfl) (by kernel_rfl) rfl ?_
   refine OpsW.sq 7 [59, 56, 54, 52, 9, 2] [inR (x1.Height - 1)] ((59, .int .i64 (x1.Height - 1)) :: (56, .int .i64 x1.Width) :: (54, slA (eL (eI .u8)) t0.Back) :: (52, .rsl 52 0 0 ([x4.1].length)) :: qZqz) ⟨g5, trivial⟩ ?_
   obtain ⟨x11, hx11, H⟩ := bindS H
   refine OpsW.qcall rfl (by kernel_rfl) rfl rfl (glAll_sound trivial) (.cons (.pur rfl) (.cons (.pur rfl) (.cons (.pur rfl) .nil))) (f_R25_lines_ok hx11) rfl ?_
   obtain ⟨g12, H⟩ := G_some H
   refine OpsW.appendF (enc := eL (eI .u8)) (ys := x11) rfl rfl rfl E37 (fun _ => rfl) rfl rfl trivial (SrcA.typed (enc := eL (eI .u8)) (fun _ => rfl) (by kernel_rfl) x11) rfl g12 ?_
   refine OpsW.sg 1 [62, 61, 9, 2] ((62, .ref 9 0 3) :: (61, .rsl 52 1 0 (([x4.1] ++ x11).length)) :: qZqz) ?_
   refine OpsW.store rfl rfl rfl rfl trivial trivial rfl rfl rfl (by kernel_rfl) (okCb_sound (by kernel_rfl)) (Nat.le_of_ble_eq_true (by kernel_rfl)) ?_
   change OpsW _ _ _ _ _ ((9, ⟨0, true, 39, 4, [.int .i64 x2.Label.N, .int .i64 x2.Label.K, .rsl 5090 0 0 (([x3.1] ++ x6).length), .rsl 52 1 0 (([x4.1] ++ x11).length)]⟩) :: (52, rtA 1 41 1 (eL (eI .u8)) ([x4.1] ++ x11)) :: (52, rtA 0 41 1 (eL (eI .u8)) [x4.1]) :: (qZqn t0 x1 x2 x3 x6)) _
   refine OpsW.sg 0 [9, 2] qZqz ?_
   refine OpsW.recast (env' := qZqz) (h' := [(2, ⟨0, true, 39, 4, qZr1⟩), (9, ⟨0, true, 39, 4, [.int .i64 x2.Label.N, .int .i64 x2.Label.K, .rsl 5090 0 0 (([x3.1] ++ x6).length), .rsl 5091 0 0 (([x4.1] ++ x11).length)]⟩), (5090, rtA 0 41 1 (eL (eI .u8)) ([x3.1] ++ x6)), (5091, rtA 0 41 1 (eL (eI .u8)) ([x4.1] ++ x11))]) (StC.mk (phi [(2, some 2), (9, some 9), (5090, some 5090), (5091, some 52)]) (.o rfl (.i4 .nil) (.o rfl (.i2 (.cons (.s rfl) (.cons (.s rfl) .nil))) (.o rfl (CstL.ims _) (.o rfl (CstL.ims _) .nil)))) rfl (.cons (.r rfl) (.cons (.r rfl) .nil))) ?_
   refine OpsW.nil ?_
   show ∃ y, _ ∧ StC _ _ _ _
   exact ⟨(qZra, (⟨x2.Label, [x3.1] ++ x6, [x4.1] ++ x11⟩ : S_Leaf)), H, (StC.mk (phi [(2, some 2), (5020, none), (5021, none), (9, some 9), (5090, some 5090), (5091, some 5091)]) (.o rfl (.i2 (.cons (.nilr rfl rfl rfl) (.cons (.nilr rfl rfl rfl) .nil))) (.new rfl (.new rfl (.o rfl (.i2 (.cons (.s rfl) (.cons (.s rfl) .nil))) (.o rfl (CstL.ims _) (.o rfl (CstL.ims _) .nil)))))) rfl (.cons (.r rfl) (.cons (.r rfl) .nil)))⟩
  replace H := condF c10 H
  refine AW.skip ?_
  show ∃ y, _ ∧ StC _ _ _ _
  exact ⟨(qZra, (⟨x2.Label, [x3.1] ++ x6, []⟩ : S_Leaf)), H, (StC.mk (phi [(2, some 2), (5020, none), (5021, none), (9, some 9), (5090, some 5090), (5091, none)]) (.o rfl (.i2 (.cons (.nilr rfl rfl rfl) (.cons (.nilr rfl rfl rfl) .nil))) (.new rfl (.new rfl (.o rfl (.i2 (.cons (.s rfl) (.cons (.nilr rfl rfl rfl) .nil))) (.o rfl (CstL.ims _) (.new rfl .nil)))))) rfl (.cons (.r rfl) (.cons (.r rfl) .nil)))⟩
 rintro ⟨v8, v9⟩ H
 change f_R25_Made_k1 v8 v9 = some r at H
 unfold f_R25_Made_k1 at H
 change AW _ _ _ [qZr8, (9, .ref 9 0 0)] (qZqu v8 v9) _
 refine AW.regionSeq (OpsW.sg 1 [63, 2] [(63, .agg (qZr5 v9)), qZr8] ?_)
 refine OpsW.store rfl rfl rfl rfl trivial trivial rfl rfl rfl (by kernel_rfl) (okCb_sound (by kernel_rfl)) (Nat.le_of_ble_eq_true (by kernel_rfl)) ?_
 change OpsW _ _ _ _ _ ((2, ⟨0, true, 39, 4, (qZr5 v9)⟩) :: (qZqu v8 v9)) _
 refine OpsW.sg 0 [2] [qZr8] ?_
 refine OpsW.recast (env' := [qZr8]) (h' := [(2, ⟨0, true, 39, 4, [.int .i64 v9.Label.N, .int .i64 v9.Label.K, .rsl 5020 0 0 v9.Front.length, .rsl 5021 0 0 v9.Back.length]⟩), (5020, rtA 0 41 1 (eL (eI .u8)) v9.Front), (5021, rtA 0 41 1 (eL (eI .u8)) v9.Back)]) (StC.mk (phi [(2, some 2), (5020, some 5090), (5021, some 5091)]) (.o rfl (.i2 (.cons (.s rfl) (.cons (.s rfl) .nil))) (.o rfl (CstL.ims _) (.o rfl (CstL.ims _) .nil))) rfl (.cons (.r rfl) .nil)) ?_
 refine OpsW.nil ?_
 obtain rfl := Option.some.inj H
 refine AW.recast (env' := [qZr8]) (h' := [(2, ⟨0, true, 39, 4, [.int .i64 v9.Label.N, .int .i64 v9.Label.K, slA (eL (eI .u8)) v9.Front, slA (eL (eI .u8)) v9.Back]⟩)]) (StC.mk (phi [(2, some 2)]) (.o rfl (.i2 (.cons (.frz rfl rfl rfl (frz_all (eL (eI .u8)) 1 (fun _ => rfl) v9.Front) (fm_length (eL (eI .u8)) 1 (fun _ => rfl) v9.Front) (phi_ne rfl)) (.cons (.frz rfl rfl rfl (frz_all (eL (eI .u8)) 1 (fun _ => rfl) v9.Back) (fm_length (eL (eI .u8)) 1 (fun _ => rfl) v9.Back) (phi_ne rfl)) .nil))) .nil) rfl (.cons (.r rfl) .nil)) ?_
 refine AW.ret ?_
 refine Done.gen rfl (.cell rfl (by kernel_rfl) .nil) ?_
 show _ = _
 kernel_rfl
def f_R25_Same (t0 : S_Leaf) (t1 : S_Leaf) : Option Bool :=
 (cond (xor false ([t0.Label.N == t1.Label.N, t0.Label.K == t1.Label.K].all id)) (f_R25_SamePage t0.Front t1.Front) (some false)).bind fun x1 =>
 (cond (cond (xor false ([t0.Label.N == t1.Label.N, t0.Label.K == t1.Label.K].all id)) x1 false) (f_R25_SamePage t0.Back t1.Back) (some false)).bind fun x2 =>
 some (cond (cond (xor false ([t0.Label.N == t1.Label.N, t0.Label.K == t1.Label.K].all id)) x1 false) x2 false)
section
variable (t0 : S_Leaf) (t1 : S_Leaf) (x1 : Bool) (x2 : Bool)
abbrev qZre := xor false ([t0.Label.N == t1.Label.N, t0.Label.K == t1.Label.K].all id)
abbrev qZrf : List AV := [.int .i64 t0.Label.N, .int .i64 t0.Label.K, slA (eL (eI .u8)) t0.Front, slA (eL (eI .u8)) t0.Back]
abbrev qZrg : List AV := [.int .i64 t1.Label.N, .int .i64 t1.Label.K, slA (eL (eI .u8)) t1.Front, slA (eL (eI .u8)) t1.Back]
abbrev qZrh := cond (qZre t0 t1) x1 false
abbrev qZrb : Hp := [(2, ⟨0, true, 39, 4, (qZrf t0)⟩)]
abbrev qZrc : Env := [(4, .bool (cond (qZrh t0 t1 x1) x2 false))]
abbrev qZrd : Env := [(3, .ref 3 0 0), (2, .ref 2 0 0)]
end
theorem f_R25_Same_ok  {t0 : S_Leaf} {t1 : S_Leaf} {r : Bool} (H : f_R25_Same t0 t1 = some r) : QSpec Tryd.prog 26 [.agg [.int .i64 t0.Label.N, .int .i64 t0.Label.K, slA (eL (eI .u8)) t0.Front, slA (eL (eI .u8)) t0.Back], .agg [.int .i64 t1.Label.N, .int .i64 t1.Label.K, slA (eL (eI .u8)) t1.Front, slA (eL (eI .u8)) t1.Back]] (.bool r) := by
 refine Spec.of_AW Tryd.func26 rfl (by simp [Tryd.ntmps26]) ?_
 rw [Tryd.ntmps26]
 unfold f_R25_Same at H
 change AW _ _ _ [(0, .agg (qZrf t0)), (1, .agg (qZrg t1))] [] _
 refine AW.regionSeq (OpsW.box rfl rfl rfl 2 rfl (okCb_sound (by kernel_rfl)) ?_)
 change OpsW _ _ _ _ _ (qZrb t0) _
 refine OpsW.box rfl rfl rfl 3 rfl (okCb_sound (by kernel_rfl)) ?_
 change OpsW _ _ _ _ _ ((3, ⟨0, true, 39, 4, (qZrg t1)⟩) :: (qZrb t0)) _
 refine OpsW.sg 1 [3, 2] qZrd ?_
 refine OpsW.recast (env' := qZrd) (h' := [(2, ⟨0, true, 39, 4, (qZrf t0)⟩), (3, ⟨0, true, 39, 4, (qZrg t1)⟩)]) (StC.mk (phi [(2, some 2), (3, some 3)]) (.o rfl (.i4 .nil) (.o rfl (.i4 .nil) .nil)) rfl (.cons (.r rfl) (.cons (.r rfl) .nil))) ?_
 refine OpsW.nil (AW.regionSeq (OpsW.sg 4 [8, 6, 3, 2] ((8, .agg [.int .i64 t1.Label.N, .int .i64 t1.Label.K]) :: (6, .agg [.int .i64 t0.Label.N, .int .i64 t0.Label.K]) :: qZrd) ?_))
 refine OpsW.quietU (.bool (qZre t0 t1)) rfl rfl (Quiet.eqAgg [.int .i64 t0.Label.N, .int .i64 t0.Label.K] [.int .i64 t1.Label.N, .int .i64 t1.Label.K] [t0.Label.N == t1.Label.N, t0.Label.K == t1.Label.K] false rfl rfl (by kernel_rfl) (by kernel_rfl) (gpoU rfl ⟨trivial, rfl, trivial, rfl⟩)) ?_
 refine OpsW.sq 5 [14, 12, 10, 3, 2] [(qZre t0 t1) = true → (qZre t0 t1) = true, (qZre t0 t1) = true → (qZre t0 t1) = true] ((14, .cnd (qZre t0 t1) (slA (eL (eI .u8)) t1.Front)) :: (12, .cnd (qZre t0 t1) (slA (eL (eI .u8)) t0.Front)) :: (10, .bool (qZre t0 t1)) :: qZrd) ⟨(fun h => h), (fun h => h), trivial⟩ ?_
 obtain ⟨x1, hx1, H⟩ := bindS H
 refine OpsW.gcall (c := xor false ([t0.Label.N == t1.Label.N, t0.Label.K == t1.Label.K].all id)) (r := .bool x1) [] rfl (by kernel_rfl) rfl rfl rfl rfl (fun hc => ⟨glAll_sound ⟨hc, hc, trivial⟩, (.cons (.pur rfl) (.cons (.pur rfl) .nil)), f_R25_SamePage_ok (condT hc hx1), .inl ⟨rfl, rfl⟩⟩) ?_
 refine OpsW.sq 6 [21, 19, 17] [(qZre t0 t1) = true → (qZre t0 t1) = true, (qZrh t0 t1 x1) = true → (qZrh t0 t1 x1) = true, (qZrh t0 t1 x1) = true → (qZrh t0 t1 x1) = true] [(21, .cnd (qZrh t0 t1 x1) (slA (eL (eI .u8)) t1.Back)), (19, .cnd (qZrh t0 t1 x1) (slA (eL (eI .u8)) t0.Back)), (17, .bool (qZrh t0 t1 x1))] ⟨(fun h => by first | exact h | (simpa using h) | grind), (fun h => h), (fun h => h), trivial⟩ ?_
 obtain ⟨x2, hx2, H⟩ := bindS H
 refine OpsW.gcall (c := cond (qZre t0 t1) x1 false) (r := .bool x2) [] rfl (by kernel_rfl) rfl rfl rfl rfl (fun hc => ⟨glAll_sound ⟨hc, hc, trivial⟩, (.cons (.pur rfl) (.cons (.pur rfl) .nil)), f_R25_SamePage_ok (condT hc hx2), .inl ⟨rfl, rfl⟩⟩) ?_
 refine OpsW.sq 2 [4] [(qZrh t0 t1 x1) = true → (qZrh t0 t1 x1) = true] (qZrc t0 t1 x1 x2) ⟨(fun h => by first | exact h | (simpa using h) | grind), trivial⟩ ?_
 refine OpsW.nil ?_
 obtain rfl := Option.some.inj H
 refine AW.recast (env' := (qZrc t0 t1 x1 x2)) (h' := []) (StC.pure (.cons .im .nil)) ?_
 refine AW.ret ?_
 refine Done.gen rfl (.tmp .nil) ?_
 show _ = _
 kernel_rfl
def f_L25_SheetLeaves_k1 (x1 : Bool) (v14 : S_Leaf) (v15 : S_Plate) : Option Bool :=
 (f_sheet_Leaf v15).bind fun x16 =>
 cond (x16.2 != 0) (
  some (cond (cond x1 (x16.2 == 250) false) ((x16.1.Front.length : Int) == 0) false)) (
  (cond x1 (f_R25_Same x16.1 v14) (some false)).bind fun x18 =>
  some (cond x1 (!x18) false))
def f_L25_SheetLeaves (t0 : S_Raw) (t1 : List Int) : Option Bool :=
 (f_L25_sanity).bind fun x1 =>
 (f_R25_Made t0).bind fun x2 =>
 (f_R25_Format t0).bind fun x3 =>
 (f_sheet_Press x2 x3).bind fun x4 =>
 (cond (!(x4.2 != 0)) (f_R25_Valid x4.1) (some false)).bind fun x5 =>
 cond (cond (x4.2 != 0) true (!x5)) (
  some false) (
  (f_sheet_Leaf x4.1).bind fun x7 =>
  (cond (!(x7.2 != 0)) (f_R25_Same x7.1 x2) (some false)).bind fun x8 =>
  cond (cond (x7.2 != 0) true (!x8)) (
   some false) (
   (f_R25_Turned x4.1).bind fun x10 =>
   (f_R25_Turned x10).bind fun x11 =>
   G (x11.H ≠ 0) <|
   G (x11.W ≠ 0) <|
   cond ((Int.tmod (t1.getD 2 0) (2 : Int)) == 0) (
    G (0 ≤ (Int.tmod (IntKind.wrap .i64 (t1.getD 1 0)) x11.H) ∧ (Int.tmod (IntKind.wrap .i64 (t1.getD 1 0)) x11.H) < (x11.Up.length : Int)) <|
    G (0 ≤ (Int.tmod (IntKind.wrap .i64 (t1.getD 0 0)) x11.W) ∧ (Int.tmod (IntKind.wrap .i64 (t1.getD 0 0)) x11.W) < ((x11.Up.getD (Int.tmod (IntKind.wrap .i64 (t1.getD 1 0)) x11.H).toNat []).length : Int)) <|
    f_L25_SheetLeaves_k1 x1 x2 (⟨x11.W, x11.H, x11.Up.set (Int.tmod (IntKind.wrap .i64 (t1.getD 1 0)) x11.H).toNat ((x11.Up.getD (Int.tmod (IntKind.wrap .i64 (t1.getD 1 0)) x11.H).toNat []).set (Int.tmod (IntKind.wrap .i64 (t1.getD 0 0)) x11.W).toNat (!((x11.Up.getD (Int.tmod (IntKind.wrap .i64 (t1.getD 1 0)) x11.H).toNat []).getD (Int.tmod (IntKind.wrap .i64 (t1.getD 0 0)) x11.W).toNat false))), x11.Down⟩ : S_Plate)) (
    G (0 ≤ (Int.tmod (IntKind.wrap .i64 (t1.getD 1 0)) x11.H) ∧ (Int.tmod (IntKind.wrap .i64 (t1.getD 1 0)) x11.H) < (x11.Down.length : Int)) <|
    G (0 ≤ (Int.tmod (IntKind.wrap .i64 (t1.getD 0 0)) x11.W) ∧ (Int.tmod (IntKind.wrap .i64 (t1.getD 0 0)) x11.W) < ((x11.Down.getD (Int.tmod (IntKind.wrap .i64 (t1.getD 1 0)) x11.H).toNat []).length : Int)) <|
    f_L25_SheetLeaves_k1 x1 x2 (⟨x11.W, x11.H, x11.Up, x11.Down.set (Int.tmod (IntKind.wrap .i64 (t1.getD 1 0)) x11.H).toNat ((x11.Down.getD (Int.tmod (IntKind.wrap .i64 (t1.getD 1 0)) x11.H).toNat []).set (Int.tmod (IntKind.wrap .i64 (t1.getD 0 0)) x11.W).toNat (!((x11.Down.getD (Int.tmod (IntKind.wrap .i64 (t1.getD 1 0)) x11.H).toNat []).getD (Int.tmod (IntKind.wrap .i64 (t1.getD 0 0)) x11.W).toNat false)))⟩ : S_Plate))))
section
variable (t0 : S_Raw) (t1 : List Int) (v14 : S_Leaf) (v15 : S_Plate) (x1 : Bool) (x2 : S_Leaf) (x4 : (S_Plate × Int)) (x7 : (S_Leaf × Int)) (x10 : S_Plate) (x11 : S_Plate) (x16 : (S_Leaf × Int))
abbrev qZsj := Int.tmod (IntKind.wrap .i64 (t1.getD 1 0)) x11.H
abbrev qZsk := Int.tmod (IntKind.wrap .i64 (t1.getD 0 0)) x11.W
abbrev qZsl := (x11.Down.getD (qZsj t1 x11).toNat []).set (qZsk t1 x11).toNat (!((x11.Down.getD (qZsj t1 x11).toNat []).getD (qZsk t1 x11).toNat false))
abbrev qZsm := (x11.Up.getD (qZsj t1 x11).toNat []).set (qZsk t1 x11).toNat (!((x11.Up.getD (qZsj t1 x11).toNat []).getD (qZsk t1 x11).toNat false))
abbrev qZsn : List AV := [.int .u8 t0.W, .int .u8 t0.H, slA (eL (eI .u8)) t0.Front, slA (eL (eI .u8)) t0.Back, .int .u8 t0.Head.Width, .int .u16 t0.Head.N, .int .u8 t0.Head.K, .bool t0.Head.Back, .int .u16 t0.Head.Ink, .int .u8 t0.Head.Part]
abbrev qZso : List AV := [.int .i64 x2.Label.N, .int .i64 x2.Label.K, slA (eL (eI .u8)) x2.Front, slA (eL (eI .u8)) x2.Back]
abbrev qZsp := (⟨x11.W, x11.H, x11.Up.set (qZsj t1 x11).toNat (qZsm t1 x11), x11.Down⟩ : S_Plate)
abbrev qZsq := (⟨x11.W, x11.H, x11.Up, x11.Down.set (qZsj t1 x11).toNat (qZsl t1 x11)⟩ : S_Plate)
abbrev qZsr : List AV := [.int .u8 (t1.getD 0 0), .int .u8 (t1.getD 1 0), .int .u8 (t1.getD 2 0)]
abbrev qZss : List AV := [.int .i64 x4.1.W, .int .i64 x4.1.H, slA (eL eB) x4.1.Up, slA (eL eB) x4.1.Down]
abbrev qZst := [fmA 15110 4 1 eB (x11.Up.set (qZsj t1 x11).toNat (qZsm t1 x11)), fmA 15111 4 1 eB x11.Down]
abbrev qZsu := [fmA 15110 4 1 eB x11.Up, fmA 15111 4 1 eB (x11.Down.set (qZsj t1 x11).toNat (qZsl t1 x11))]
abbrev qZsv : List AV := [.int .i64 x16.1.Label.N, .int .i64 x16.1.Label.K, slA (eL (eI .u8)) x16.1.Front, slA (eL (eI .u8)) x16.1.Back]
abbrev qZsw := (x11.Down.getD (qZsj t1 x11).toNat []).getD (qZsk t1 x11).toNat false
abbrev qZsx : List AV := [.int .i64 x7.1.Label.N, .int .i64 x7.1.Label.K, slA (eL (eI .u8)) x7.1.Front, slA (eL (eI .u8)) x7.1.Back]
abbrev qZsy := (x11.Up.getD (qZsj t1 x11).toNat []).getD (qZsk t1 x11).toNat false
abbrev qZsz : List AV := [.int .i64 v14.Label.N, .int .i64 v14.Label.K, slA (eL (eI .u8)) v14.Front, slA (eL (eI .u8)) v14.Back]
abbrev qZt0 : List AV := [.int .i64 0, .int .i64 0, .im (.val (.slice none 0 0)), .im (.val (.slice none 0 0))]
abbrev qZt1 := [fmA 15110 4 1 eB x11.Up, fmA 15111 4 1 eB x11.Down]
abbrev qZt2 := [fmA 10601 4 1 eB x11.Up, fmA 10602 4 1 eB x11.Down]
abbrev qZt3 := fid 15111 (qZsj t1 x11).toNat
abbrev qZt4 := fid 15110 (qZsj t1 x11).toNat
abbrev qZt5 := (x11.Down.getD (qZsj t1 x11).toNat []).length
abbrev qZt6 := cond x1 (x16.2 == 250) false
abbrev qZt7 := (x11.Up.getD (qZsj t1 x11).toNat []).length
abbrev qZt8 : Nat × AV := (6, .ref 6 0 0)
abbrev qZt9 := 0 + (qZsk t1 x11).toNat * 1
abbrev qZta := [fmA 10601 4 1 eB x10.Up, fmA 10602 4 1 eB x10.Down]
abbrev qZtb : Nat × AV := (11, .ref 11 0 0)
abbrev qZtc := 0 + (qZsj t1 x11).toNat * 1
abbrev qZtd : List AV := [.int .i64 v15.W, .int .i64 v15.H, .rsl 5110 0 0 v15.Up.length, .rsl 5111 0 0 v15.Down.length]
abbrev qZte : List AV := [.int .i64 x10.W, .int .i64 x10.H, .rsl 1500 0 0 x10.Up.length, .rsl 1501 0 0 x10.Down.length]
abbrev qZtf : List AV := [.int .i64 x11.W, .int .i64 x11.H, .rsl 1500 0 0 x11.Up.length, .rsl 1501 0 0 x11.Down.length]
abbrev qZtg : List AV := [.int .i64 x11.W, .int .i64 x11.H, .rsl 601 0 0 x11.Up.length, .rsl 602 0 0 x11.Down.length]
abbrev qZth : List AV := [.int .i64 v15.W, .int .i64 v15.H, slA (eL eB) v15.Up, slA (eL eB) v15.Down]
abbrev qZri : Hp := [(3, ⟨0, true, 65, 3, (qZsr t1)⟩), (6, ⟨0, true, 39, 4, (qZso x2)⟩), (7, ⟨0, true, 47, 4, (qZss x4)⟩), (9, ⟨0, true, 39, 4, (qZsx x7)⟩)]
abbrev qZrj : Hp := [(6, ⟨0, true, 39, 4, (qZso x2)⟩), (11, ⟨0, true, 47, 4, [.int .i64 x11.W, .int .i64 x11.H, .rsl 5110 0 0 x11.Up.length, .rsl 5111 0 0 ((x11.Down.set (qZsj t1 x11).toNat (qZsl t1 x11)).length)]⟩), (5110, nsA 0 61 15110 x11.Up), (5111, nsA 0 61 15111 (x11.Down.set (qZsj t1 x11).toNat (qZsl t1 x11)))]
abbrev qZrk : Hp := [(6, ⟨0, true, 39, 4, (qZso x2)⟩), (11, ⟨0, true, 47, 4, [.int .i64 x11.W, .int .i64 x11.H, .rsl 5110 0 0 ((x11.Up.set (qZsj t1 x11).toNat (qZsm t1 x11)).length), .rsl 5111 0 0 x11.Down.length]⟩), (5110, nsA 0 61 15110 (x11.Up.set (qZsj t1 x11).toNat (qZsm t1 x11))), (5111, nsA 0 61 15111 x11.Down)]
abbrev qZrl : Hp := [(3, ⟨0, true, 65, 3, (qZsr t1)⟩), (6, ⟨0, true, 39, 4, (qZso x2)⟩), (11, ⟨0, true, 47, 4, [.int .i64 x11.W, .int .i64 x11.H, .rsl 5110 0 0 x11.Up.length, .rsl 5111 0 0 x11.Down.length]⟩), (5110, nsA 0 61 15110 x11.Up), (5111, nsA 0 61 15111 x11.Down)]
abbrev qZrm : Env := [(64, .bool ((Int.tmod (t1.getD 2 0) (2 : Int)) == 0)), (13, .int .i64 (qZsk t1 x11)), (12, .int .i64 (qZsj t1 x11)), qZtb, qZt8, (5, .bool x1)]
abbrev qZrn : Env := (90, .ref 5111 0 (qZtc t1 x11)) :: (89, .int .i64 (qZsj t1 x11)) :: (88, .rsl 5111 0 0 x11.Down.length) :: (87, .ref 11 0 3) :: (86, .int .i64 (qZsk t1 x11)) :: (85, .rsl (qZt3 t1 x11) 0 0 (qZt5 t1 x11)) :: (84, .ref 5111 0 (qZtc t1 x11)) :: (83, .int .i64 (qZsj t1 x11)) :: (82, .rsl 5111 0 0 x11.Down.length) :: (81, .ref 11 0 3) :: (qZrm t1 x1 x11)
abbrev qZro : Env := (74, .ref 5110 0 (qZtc t1 x11)) :: (73, .int .i64 (qZsj t1 x11)) :: (72, .rsl 5110 0 0 x11.Up.length) :: (71, .ref 11 0 2) :: (70, .int .i64 (qZsk t1 x11)) :: (69, .rsl (qZt4 t1 x11) 0 0 (qZt7 t1 x11)) :: (68, .ref 5110 0 (qZtc t1 x11)) :: (67, .int .i64 (qZsj t1 x11)) :: (66, .rsl 5110 0 0 x11.Up.length) :: (65, .ref 11 0 2) :: (qZrm t1 x1 x11)
abbrev qZrp : Env := [(95, .bool (!(qZsw t1 x11))), (86, .int .i64 (qZsk t1 x11)), (85, .rsl (qZt3 t1 x11) 0 0 (qZt5 t1 x11)), qZtb, qZt8, (5, .bool x1)]
abbrev qZrq : Env := [(79, .bool (!(qZsy t1 x11))), (70, .int .i64 (qZsk t1 x11)), (69, .rsl (qZt4 t1 x11) 0 0 (qZt7 t1 x11)), qZtb, qZt8, (5, .bool x1)]
abbrev qZrr : Env := [qZt8, (5, .bool x1), (3, .ref 3 0 0)]
abbrev qZrs : Env := (46, .agg (qZss x4)) :: (qZrr x1)
abbrev qZrt : Hp := [(6, ⟨0, true, 39, 4, (qZsz v14)⟩), (11, ⟨0, true, 47, 4, (qZth v15)⟩)]
abbrev qZru : Env := [(21, .agg (qZsn t0)), (20, .agg (qZso x2)), qZt8, (5, .bool x1), (3, .ref 3 0 0), (2, .ref 2 0 0)]
abbrev qZrv : Hp := [(2, ⟨0, true, 27, 10, (qZsn t0)⟩), (3, ⟨0, true, 65, 3, (qZsr t1)⟩)]
abbrev qZrw : Hp := [(3, ⟨0, true, 65, 3, (qZsr t1)⟩), (6, ⟨0, true, 39, 4, (qZso x2)⟩), (7, ⟨0, true, 47, 4, (qZss x4)⟩)]
abbrev qZrx : Hp := [(6, ⟨0, true, 39, 4, (qZsz v14)⟩), (11, ⟨0, true, 47, 4, (qZtd v15)⟩), (5110, nsA 0 61 15110 v15.Up), (5111, nsA 0 61 15111 v15.Down)]
abbrev qZry : Hp := (11, ⟨0, true, 47, 4, (qZtg x11)⟩) :: (11, ⟨0, true, 47, 4, qZt0⟩) :: (601, nsA 0 61 10601 x11.Up) :: (602, nsA 0 61 10602 x11.Down) :: (qZri t1 x2 x4 x7)
abbrev qZrz : Env := (47, .agg [.int .i64 x10.W, .int .i64 x10.H, slA (eL eB) x10.Up, slA (eL eB) x10.Down]) :: (qZrs x1 x4)
abbrev qZs0 : Hp := [(2, ⟨0, true, 27, 10, (qZsn t0)⟩)]
abbrev qZs1 : Env := (92, .int .i64 (qZsk t1 x11)) :: (91, .rsl (qZt3 t1 x11) 0 0 (qZt5 t1 x11)) :: (qZrn t1 x1 x11)
abbrev qZs2 : Env := (76, .int .i64 (qZsk t1 x11)) :: (75, .rsl (qZt4 t1 x11) 0 0 (qZt7 t1 x11)) :: (qZro t1 x1 x11)
abbrev qZs3 : Hp := (3, ⟨0, true, 65, 3, (qZsr t1)⟩) :: (qZrk t1 x2 x11)
abbrev qZs4 : Hp := (3, ⟨0, true, 65, 3, (qZsr t1)⟩) :: (qZrj t1 x2 x11)
abbrev qZs5 : Hp := (1000, ⟨0, true, 47, 4, (qZte x10)⟩) :: (1500, nsA 0 61 11500 x10.Up) :: (1501, nsA 0 61 11501 x10.Down) :: (qZri t1 x2 x4 x7)
abbrev qZs6 : Hp := (1000, ⟨0, true, 47, 4, (qZtf x11)⟩) :: (1500, nsA 0 61 11500 x11.Up) :: (1501, nsA 0 61 11501 x11.Down) :: (qZri t1 x2 x4 x7)
abbrev qZs7 : Env := (80, .ref (qZt4 t1 x11) 0 (qZt9 t1 x11)) :: (qZrq t1 x1 x11)
abbrev qZs8 : Env := (96, .ref (qZt3 t1 x11) 0 (qZt9 t1 x11)) :: (qZrp t1 x1 x11)
abbrev qZs9 : Env := [(3, .ref 3 0 0), (2, .ref 2 0 0)]
abbrev qZsa : Env := (7, .ref 7 0 0) :: (qZrr x1)
abbrev qZsb : Env := [qZtb, qZt8, (5, .bool x1)]
abbrev qZsc : Env := [(15, .int .i64 x16.2), (14, .ref 14 0 0), (5, .bool x1), qZt8]
abbrev qZsd : List (Nat × FM) := [(15110, .same 15110), (15111, .same 15111)]
abbrev qZse : Hp := (601, nsA 0 61 10601 x10.Up) :: (602, nsA 0 61 10602 x10.Down) :: (qZri t1 x2 x4 x7)
abbrev qZsf : Hp := (601, nsA 0 61 10601 x11.Up) :: (602, nsA 0 61 10602 x11.Down) :: (qZri t1 x2 x4 x7)
abbrev qZsg : Env := (48, .agg (qZtg x11)) :: (qZrz x1 x4 x10)
abbrev qZsh : Env := (12, .int .i64 (qZsj t1 x11)) :: qZtb :: (qZrr x1)
abbrev qZsi : Env := [(4, .bool (cond (qZt6 x1 x16) ((x16.1.Front.length : Int) == 0) false))]
end
theorem f_L25_SheetLeaves_ok  {t0 : S_Raw} {t1 : List Int} {r : Bool} (H : f_L25_SheetLeaves t0 t1 = some r) : QSpec Tryd.prog 7 [.agg [.int .u8 t0.W, .int .u8 t0.H, slA (eL (eI .u8)) t0.Front, slA (eL (eI .u8)) t0.Back, .int .u8 t0.Head.Width, .int .u16 t0.Head.N, .int .u8 t0.Head.K, .bool t0.Head.Back, .int .u16 t0.Head.Ink, .int .u8 t0.Head.Part], .agg [.int .u8 (t1.getD 0 0), .int .u8 (t1.getD 1 0), .int .u8 (t1.getD 2 0)]] (.bool r) := by
 refine Spec.of_AW Tryd.func7 rfl (by simp [Tryd.ntmps7]) ?_
 rw [Tryd.ntmps7]
 unfold f_L25_SheetLeaves at H
 change AW _ _ _ [(0, .agg (qZsn t0)), (1, .agg (qZsr t1))] [] _
 refine AW.regionSeq (OpsW.box rfl rfl rfl 2 rfl (okCb_sound (by kernel_rfl)) ?_)
 change OpsW _ _ _ _ _ (qZs0 t0) _
 refine OpsW.box rfl rfl rfl 3 rfl (okCb_sound (by kernel_rfl)) ?_
 change OpsW _ _ _ _ _ ((3, ⟨0, true, 65, 3, (qZsr t1)⟩) :: (qZs0 t0)) _
 refine OpsW.sg 1 [3, 2] qZs9 ?_
 refine OpsW.recast (env' := qZs9) (h' := (qZrv t0 t1)) (StC.mk (phi [(2, some 2), (3, some 3)]) (.o rfl (.i9 (.cons .im .nil)) (.o rfl (.i3 .nil) .nil)) rfl (.cons (.r rfl) (.cons (.r rfl) .nil))) ?_
 refine OpsW.nil (AW.regionSeq ?_)
 obtain ⟨x1, hx1, H⟩ := bindS H
 refine OpsW.qcall rfl (by kernel_rfl) rfl rfl (glAll_sound trivial) .nil (f_L25_sanity_ok hx1) rfl ?_
 refine OpsW.sg 1 [5, 3, 2] ((5, .bool x1) :: qZs9) ?_
 refine OpsW.nil (AW.regionSeq (OpsW.sg 1 [17, 5, 3, 2] ((17, .agg (qZsn t0)) :: (5, .bool x1) :: qZs9) ?_))
 obtain ⟨x2, hx2, H⟩ := bindS H
 refine OpsW.qcall rfl (by kernel_rfl) rfl rfl (glAll_sound trivial) (.cons (.pur rfl) .nil) (f_R25_Made_ok hx2) rfl ?_
 refine OpsW.alloc' rfl rfl rfl 6 rfl (by kernel_rfl : zc Tryd.prog 39 = some [.int .i64 0, .int .i64 0, .slice none 0 0, .slice none 0 0]) (by kernel_rfl) ?_
 refine OpsW.store rfl rfl rfl rfl trivial trivial rfl rfl rfl (by kernel_rfl) (okCb_sound (by kernel_rfl)) (Nat.le_of_ble_eq_true (by kernel_rfl)) ?_
 change OpsW _ _ _ _ _ ((6, ⟨0, true, 39, 4, (qZso x2)⟩) :: (6, ⟨0, true, 39, 4, qZt0⟩) :: (qZrv t0 t1)) _
 refine OpsW.sg 0 [6, 5, 3, 2] (qZt8 :: (5, .bool x1) :: qZs9) ?_
 refine OpsW.recast (env' := (qZt8 :: (5, .bool x1) :: qZs9)) (h' := [(2, ⟨0, true, 27, 10, (qZsn t0)⟩), (3, ⟨0, true, 65, 3, (qZsr t1)⟩), (6, ⟨0, true, 39, 4, (qZso x2)⟩)]) (StC.mk (phi [(2, some 2), (3, some 3), (6, some 6)]) (.o rfl (.i9 (.cons .im .nil)) (.o rfl (.i3 .nil) (.o rfl (.i4 .nil) .nil))) rfl (.cons (.r rfl) (.cons .im (.cons (.r rfl) (.cons (.r rfl) .nil))))) ?_
 refine OpsW.nil (AW.drawXSeq 9 [(7, 7, []), (8, 7, [])] Tryd.checked.mixed (by kernel_rfl) (by kernel_rfl) ?_)
 refine DOpsX.q 7 (by kernel_rfl) ?_
 refine QOps.seg (N := 122) 2 [] (qZru t0 x1 x2) (by kernel_rfl) trivial ?_
 obtain ⟨x3, hx3, H⟩ := bindS H
 refine QOps.qcall rfl (by kernel_rfl) rfl (glAll_sound trivial) (.cons (.pur rfl) .nil) (f_R25_Format_ok hx3) rfl ?_
 obtain ⟨x4, hx4, H⟩ := bindS H
 refine QOps.qcall rfl (by kernel_rfl) rfl (glAll_sound trivial) (.cons (.pur rfl) (.cons (.pur rfl) .nil)) (f_sheet_Press_ok hx4) rfl ?_
 refine QOps.seg (N := 122) 3 [] ((25, .int .i64 x4.2) :: (24, .agg (qZss x4)) :: (19, .tup [.agg (qZss x4), .int .i64 x4.2]) :: (23, .tup [.agg (qZss x4), .int .i64 x4.2]) :: (22, .agg [.int .i64 x3.Width, .int .i64 x3.Height, .int .i64 x3.Binding]) :: (qZru t0 x1 x2)) (by kernel_rfl) trivial ?_
 refine QOps.nil (DOpsX.e 7 rfl rfl rfl (by exact fun g hg hb => RStep.alloc rfl 7 ((hg 7 (List.Mem.head _)).trans rfl) (by kernel_rfl : zc Tryd.prog 47 = some [.int .i64 0, .int .i64 0, .slice none 0 0, .slice none 0 0]) (by kernel_rfl)) ?_)
 refine DOpsX.e 7 rfl rfl rfl (by exact fun g hg hb => RStep.store rfl rfl (by exact trivial) (by exact trivial) ((hg 7 (List.Mem.head _)).trans rfl) rfl rfl (by kernel_rfl) (okCb_sound (by kernel_rfl)) (Nat.le_of_ble_eq_true (by kernel_rfl))) ?_
 refine DOpsX.nil ?_
 refine OpsW.sg 0 [7, 25, 6, 5, 3] ((7, .ref 7 0 0) :: (25, .int .i64 x4.2) :: (qZrr x1)) ?_
 refine OpsW.sg 1 [8, 7, 6, 5, 3] ((8, .int .i64 x4.2) :: (qZsa x1)) ?_
 refine OpsW.recast (env' := ((8, .int .i64 x4.2) :: (qZsa x1))) (h' := (qZrw t1 x2 x4)) (StC.mk (phi [(3, some 3), (6, some 6), (7, some 7)]) (.o rfl (.i3 .nil) (.o rfl (.i4 .nil) (.o rfl (.i4 .nil) .nil))) rfl (.cons .im (.cons (.r rfl) (.cons (.r rfl) (.cons .im (.cons (.r rfl) .nil)))))) ?_
 refine OpsW.nil (AW.seq (AW.regionSeq (OpsW.sg 4 [29, 28, 7, 6, 5, 3] ((29, .cnd (!(x4.2 != 0)) (.agg (qZss x4))) :: (28, .bool (x4.2 != 0)) :: (qZsa x1)) ?_)))
 obtain ⟨x5, hx5, H⟩ := bindS H
 refine OpsW.gcall (c := !(x4.2 != 0)) (r := .bool x5) [] rfl (by kernel_rfl) rfl rfl rfl rfl (fun hc => ⟨glAll_sound ⟨hc, trivial⟩, (.cons (.pur rfl) .nil), f_R25_Valid_ok (condT hc hx5), .inl ⟨rfl, rfl⟩⟩) ?_
 refine OpsW.sq 2 [32, 7, 6, 5, 3] [(!(x4.2 != 0)) = true → (!(x4.2 != 0)) = true, (x4.2 != 0) = false → (!(x4.2 != 0)) = true] ((32, .bool (cond (x4.2 != 0) true (!x5))) :: (qZsa x1)) ⟨(fun h => h), (fun h => by first | exact h | (simpa using h) | grind), trivial⟩ ?_
 refine OpsW.nil (AW.cond (b := cond (x4.2 != 0) true (!x5)) rfl (fun c6 => ?_) (fun c6 => ?_))
 ·replace H := condT c6 H
  refine AW.regionSeq (OpsW.sg 1 [4] [(4, .bool false)] ?_)
  refine OpsW.nil ?_
  obtain rfl := Option.some.inj H
  refine AW.recast (env' := [(4, .bool false)]) (h' := []) (StC.pure (.cons .im .nil)) ?_
  refine AW.ret ?_
  try simp only [Ex.then, Ex.inBlock, Ex.noGoto, Ex.jump, reduceIte, Nat.reduceEqDiff, reduceCtorEq]
  refine Done.gen rfl (.tmp .nil) ?_
  show _ = _
  kernel_rfl
 replace H := condF c6 H
 refine AW.skip (AW.regionSeq (OpsW.sg 1 [34, 7, 6, 5, 3] ((34, .agg (qZss x4)) :: (qZsa x1)) ?_))
 obtain ⟨x7, hx7, H⟩ := bindS H
 refine OpsW.qcall rfl (by kernel_rfl) rfl rfl (glAll_sound trivial) (.cons (.pur rfl) .nil) (f_sheet_Leaf_ok hx7) rfl ?_
 refine OpsW.sg 3 [37, 36, 7, 6, 5, 3] ((37, .int .i64 x7.2) :: (36, .agg (qZsx x7)) :: (qZsa x1)) ?_
 refine OpsW.alloc' rfl rfl rfl 9 rfl (by kernel_rfl : zc Tryd.prog 39 = some [.int .i64 0, .int .i64 0, .slice none 0 0, .slice none 0 0]) (by kernel_rfl) ?_
 refine OpsW.store rfl rfl rfl rfl trivial trivial rfl rfl rfl (by kernel_rfl) (okCb_sound (by kernel_rfl)) (Nat.le_of_ble_eq_true (by kernel_rfl)) ?_
 change OpsW _ _ _ _ _ ((9, ⟨0, true, 39, 4, (qZsx x7)⟩) :: (9, ⟨0, true, 39, 4, qZt0⟩) :: (qZrw t1 x2 x4)) _
 refine OpsW.sg 1 [10, 9, 7, 6, 5, 3] ((10, .int .i64 x7.2) :: (9, .ref 9 0 0) :: (qZsa x1)) ?_
 refine OpsW.recast (env' := ((10, .int .i64 x7.2) :: (9, .ref 9 0 0) :: (qZsa x1))) (h' := (qZri t1 x2 x4 x7)) (StC.mk (phi [(3, some 3), (6, some 6), (7, some 7), (9, some 9)]) (.o rfl (.i3 .nil) (.o rfl (.i4 .nil) (.o rfl (.i4 .nil) (.o rfl (.i4 .nil) .nil)))) rfl (.cons .im (.cons (.r rfl) (.cons (.r rfl) (.cons (.r rfl) (.cons .im (.cons (.r rfl) .nil))))))) ?_
 refine OpsW.nil (AW.seq (AW.regionSeq (OpsW.sg 5 [42, 41, 40, 7, 6, 5, 3] ((42, .cnd (!(x7.2 != 0)) (.agg (qZso x2))) :: (41, .cnd (!(x7.2 != 0)) (.agg (qZsx x7))) :: (40, .bool (x7.2 != 0)) :: (qZsa x1)) ?_)))
 obtain ⟨x8, hx8, H⟩ := bindS H
 refine OpsW.gcall (c := !(x7.2 != 0)) (r := .bool x8) [] rfl (by kernel_rfl) rfl rfl rfl rfl (fun hc => ⟨glAll_sound ⟨hc, hc, trivial⟩, (.cons (.pur rfl) (.cons (.pur rfl) .nil)), f_R25_Same_ok (condT hc hx8), .inl ⟨rfl, rfl⟩⟩) ?_
 refine OpsW.sq 2 [45, 7, 6, 5, 3] [(!(x7.2 != 0)) = true → (!(x7.2 != 0)) = true, (x7.2 != 0) = false → (!(x7.2 != 0)) = true] ((45, .bool (cond (x7.2 != 0) true (!x8))) :: (qZsa x1)) ⟨(fun h => h), (fun h => by first | exact h | (simpa using h) | grind), trivial⟩ ?_
 refine OpsW.nil (AW.cond (b := cond (x7.2 != 0) true (!x8)) rfl (fun c9 => ?_) (fun c9 => ?_))
 ·replace H := condT c9 H
  refine AW.regionSeq (OpsW.sg 1 [4] [(4, .bool false)] ?_)
  refine OpsW.nil ?_
  obtain rfl := Option.some.inj H
  refine AW.recast (env' := [(4, .bool false)]) (h' := []) (StC.pure (.cons .im .nil)) ?_
  refine AW.ret ?_
  try simp only [Ex.then, Ex.inBlock, Ex.noGoto, Ex.jump, reduceIte, Nat.reduceEqDiff, reduceCtorEq]
  refine Done.gen rfl (.tmp .nil) ?_
  show _ = _
  kernel_rfl
 replace H := condF c9 H
 refine AW.skip (AW.regionSeq (OpsW.sg 1 [46, 6, 5, 3] (qZrs x1 x4) ?_))
 obtain ⟨x10, hx10, H⟩ := bindS H
 refine OpsW.call rfl rfl (by kernel_rfl) [] _ _ rfl (glAll_sound trivial) (.cons (.pur rfl) .nil) (f_R25_Turned_own hx10) ?_
 rintro _ _ ⟨rfl, rfl⟩
 refine ⟨(fresh_F0 rfl rfl), .inl rfl, ?_⟩
 refine OpsW.heapEq (heap_mid0 rfl) ?_
 change OpsW _ _ _ _ ((47, .agg (qZte x10)) :: (qZrs x1 x4)) ((qZs5 t1 x2 x4 x7 x10) ++ fmsH [fmA 11500 4 1 eB x10.Up, fmA 11501 4 1 eB x10.Down]) _
 refine OpsW.recast (env' := ((47, .agg [.int .i64 x10.W, .int .i64 x10.H, .rsl 601 0 0 x10.Up.length, .rsl 602 0 0 x10.Down.length]) :: (qZrs x1 x4))) (h' := ((qZse t1 x2 x4 x7 x10) ++ fmsH (qZta x10))) (StC.mkF (hc := (qZs5 t1 x2 x4 x7 x10)) (fs := [fmA 11500 4 1 eB x10.Up, fmA 11501 4 1 eB x10.Down]) (hc' := (qZse t1 x2 x4 x7 x10)) (fs' := (qZta x10)) rfl [(601, some 1500), (602, some 1501), (3, some 3), (6, some 6), (7, some 7), (9, some 9)] [(10601, .same 11500), (10602, .same 11501)] rfl (.o rfl (nsSameA rfl rfl (by decide) rfl rfl rfl) (.o rfl (nsSameA rfl rfl (by decide) rfl rfl rfl) (.o rfl (.i3 .nil) (.o rfl (.i4 .nil) (.o rfl (.i4 .nil) (.o rfl (.i4 .nil) .nil)))))) rfl (.cons rfl (fmSame rfl) (.cons rfl (fmSame rfl) .nil)) (.cons (.agg (.i2 (.cons (.s rfl) (.cons (.s rfl) .nil)))) (.cons (.agg (.i4 .nil)) (.cons (.r rfl) (.cons .im (.cons (.r rfl) .nil)))))) ?_
 refine OpsW.recast (env' := (qZrz x1 x4 x10)) (h' := (qZri t1 x2 x4 x7)) (StC.mkF (hc := (qZse t1 x2 x4 x7 x10)) (fs := (qZta x10)) (hc' := (qZri t1 x2 x4 x7)) (fs' := []) rfl [(3, some 3), (6, some 6), (7, some 7), (9, some 9)] [] rfl (.o rfl (.i3 .nil) (.o rfl (.i4 .nil) (.o rfl (.i4 .nil) (.o rfl (.i4 .nil) .nil)))) rfl .nil (.cons (.agg (.i2 (.cons (Cst.frzN rfl rfl (fun _ => rfl) rfl rfl rfl) (.cons (Cst.frzN rfl rfl (fun _ => rfl) rfl rfl rfl) .nil)))) (.cons (.agg (.i4 .nil)) (.cons (.r rfl) (.cons .im (.cons (.r rfl) .nil)))))) ?_
 obtain ⟨x11, hx11, H⟩ := bindS H
 refine OpsW.call rfl rfl (by kernel_rfl) [] _ _ rfl (glAll_sound trivial) (.cons (.pur rfl) .nil) (f_R25_Turned_own hx11) ?_
 rintro _ _ ⟨rfl, rfl⟩
 refine ⟨(fresh_F0 rfl rfl), .inl rfl, ?_⟩
 refine OpsW.heapEq (heap_mid0 rfl) ?_
 change OpsW _ _ _ _ ((48, .agg (qZtf x11)) :: (qZrz x1 x4 x10)) ((qZs6 t1 x2 x4 x7 x11) ++ fmsH [fmA 11500 4 1 eB x11.Up, fmA 11501 4 1 eB x11.Down]) _
 refine OpsW.recast (env' := (qZsg x1 x4 x10 x11)) (h' := ((qZsf t1 x2 x4 x7 x11) ++ fmsH (qZt2 x11))) (StC.mkF (hc := (qZs6 t1 x2 x4 x7 x11)) (fs := [fmA 11500 4 1 eB x11.Up, fmA 11501 4 1 eB x11.Down]) (hc' := (qZsf t1 x2 x4 x7 x11)) (fs' := (qZt2 x11)) rfl [(601, some 1500), (602, some 1501), (3, some 3), (6, some 6), (7, some 7), (9, some 9)] [(10601, .same 11500), (10602, .same 11501)] rfl (.o rfl (nsSameA rfl rfl (by decide) rfl rfl rfl) (.o rfl (nsSameA rfl rfl (by decide) rfl rfl rfl) (.o rfl (.i3 .nil) (.o rfl (.i4 .nil) (.o rfl (.i4 .nil) (.o rfl (.i4 .nil) .nil)))))) rfl (.cons rfl (fmSame rfl) (.cons rfl (fmSame rfl) .nil)) (.cons (.agg (.i2 (.cons (.s rfl) (.cons (.s rfl) .nil)))) (.cons (.agg (.i4 .nil)) (.cons (.agg (.i4 .nil)) (.cons (.r rfl) (.cons .im (.cons (.r rfl) .nil))))))) ?_
 change OpsW _ _ _ _ (qZsg x1 x4 x10 x11) ((qZsf t1 x2 x4 x7 x11) ++ fmsH (qZt2 x11)) _
 refine OpsW.alloc' rfl rfl rfl 11 (free_f rfl) (by kernel_rfl : zc Tryd.prog 47 = some [.int .i64 0, .int .i64 0, .slice none 0 0, .slice none 0 0]) (by kernel_rfl) ?_
 refine OpsW.store rfl rfl rfl rfl trivial trivial rfl rfl rfl (by kernel_rfl) (okCb_sound (by kernel_rfl)) (Nat.le_of_ble_eq_true (by kernel_rfl)) ?_
 change OpsW _ _ _ _ _ ((qZry t1 x2 x4 x7 x11) ++ fmsH (qZt2 x11)) _
 refine OpsW.sg 0 [11, 6, 5, 3] (qZtb :: (qZrr x1)) ?_
 refine OpsW.recast (env' := (qZtb :: (qZrr x1))) (h' := ((qZrl t1 x2 x11) ++ fmsH (qZt1 x11))) (StC.mkF (hc := (qZry t1 x2 x4 x7 x11)) (fs := (qZt2 x11)) (hc' := (qZrl t1 x2 x11)) (fs' := (qZt1 x11)) rfl [(3, some 3), (6, some 6), (11, some 11), (5110, some 601), (5111, some 602)] [(15110, .same 10601), (15111, .same 10602)] rfl (.o rfl (.i3 .nil) (.o rfl (.i4 .nil) (.o rfl (.i2 (.cons (.s rfl) (.cons (.s rfl) .nil))) (.o rfl (nsSameA rfl rfl (by decide) rfl rfl rfl) (.o rfl (nsSameA rfl rfl (by decide) rfl rfl rfl) .nil))))) rfl (.cons rfl (fmSame rfl) (.cons rfl (fmSame rfl) .nil)) (.cons (.r rfl) (.cons (.r rfl) (.cons .im (.cons (.r rfl) .nil))))) ?_
 refine OpsW.nil (AW.regionSeq ?_)
 obtain ⟨g12, H⟩ := G_some H
 refine OpsW.sq 7 [12, 11, 6, 5, 3] [0 ≤ (1 : Int) ∧ (1 : Int) < (3 : Int), x11.H ≠ 0] (qZsh t1 x1 x11) ⟨(by decide), g12, trivial⟩ ?_
 refine OpsW.nil (AW.regionSeq ?_)
 obtain ⟨g13, H⟩ := G_some H
 refine OpsW.sq 7 [13, 12, 11, 6, 5, 3] [0 ≤ (0 : Int) ∧ (0 : Int) < (3 : Int), x11.W ≠ 0] ((13, .int .i64 (qZsk t1 x11)) :: (qZsh t1 x1 x11)) ⟨(by decide), g13, trivial⟩ ?_
 refine OpsW.nil ?_
 refine AW.joinK (fun (y : S_Leaf × S_Plate) => f_L25_SheetLeaves_k1 x1 y.1 y.2) r (fun (y : S_Leaf × S_Plate) => [(5, .bool x1), qZt8, qZtb]) (fun (y : S_Leaf × S_Plate) => ([(6, ⟨0, true, 39, 4, [.int .i64 y.1.Label.N, .int .i64 y.1.Label.K, slA (eL (eI .u8)) y.1.Front, slA (eL (eI .u8)) y.1.Back]⟩), (11, ⟨0, true, 47, 4, [.int .i64 y.2.W, .int .i64 y.2.H, .rsl 5110 0 0 y.2.Up.length, .rsl 5111 0 0 y.2.Down.length]⟩), (5110, nsA 0 61 15110 y.2.Up), (5111, nsA 0 61 15111 y.2.Down)] ++ fmsH [fmA 15110 4 1 eB y.2.Up, fmA 15111 4 1 eB y.2.Down])) ?_ ?_
 ·refine AW.regionSeq (OpsW.sq 4 [64, 13, 12, 11, 6, 5] [0 ≤ (2 : Int) ∧ (2 : Int) < (3 : Int), (2 : Int) ≠ 0] (qZrm t1 x1 x11) ⟨(by decide), (by decide), trivial⟩ ?_)
  refine OpsW.nil (AW.cond (b := (Int.tmod (t1.getD 2 0) (2 : Int)) == 0) rfl (fun c19 => ?_) (fun c19 => ?_))
  ·replace H := condT c19 H
   refine AW.drawT 15 Tryd.checked.mixed (by kernel_rfl) ?_
   obtain ⟨g20, H⟩ := G_some H
   refine QOps.seg (N := 122) 4 [0 ≤ (qZsj t1 x11) ∧ (qZsj t1 x11) < (x11.Up.length : Int)] ((68, .ref 5110 0 (qZtc t1 x11)) :: (67, .int .i64 (qZsj t1 x11)) :: (66, .rsl 5110 0 0 x11.Up.length) :: (65, .ref 11 0 2) :: (qZrm t1 x1 x11)) (by kernel_rfl) ⟨g20, trivial⟩ ?_
   refine QOps.asU (.rsl (qZt4 t1 x11) 0 0 (qZt7 t1 x11)) rfl (T.loadR rfl trivial (by kernel_rfl) rfl rfl rfl (ns_cell (ltN g20) (by first | omega | (simp only [qZsj, qZsk, qZt4, qZt7, qZtc]; omega)))) ?_
   refine QOps.seg (N := 122) 5 [0 ≤ (qZsj t1 x11) ∧ (qZsj t1 x11) < (x11.Up.length : Int)] (qZro t1 x1 x11) (by kernel_rfl) ⟨g20, trivial⟩ ?_
   refine QOps.asU (.rsl (qZt4 t1 x11) 0 0 (qZt7 t1 x11)) rfl (T.loadR rfl trivial (by kernel_rfl) rfl rfl rfl (ns_cell (ltN g20) (by first | omega | (simp only [qZsj, qZsk, qZt4, qZt7, qZtc]; omega)))) ?_
   refine QOps.seg (N := 122) 1 [] (qZs2 t1 x1 x11) (by kernel_rfl) trivial ?_
   obtain ⟨g21, H⟩ := G_some H
   refine QOps.asU (.ref (qZt4 t1 x11) 0 (qZt9 t1 x11)) rfl (T.idxF rfl rfl trivial trivial (by kernel_rfl) (by kernel_rfl) (row_f rfl rfl (ltN g20)) rfl rfl g21) ?_
   refine QOps.asU (.bool (qZsy t1 x11)) rfl (T.loadR rfl trivial (by kernel_rfl) (row_f rfl rfl (ltN g20)) rfl rfl (rt_cell eB 1 (fun _ => rfl) (x11.Up.getD (qZsj t1 x11).toNat []) false (qZsk t1 x11).toNat (ltN g21) 0 (fun a => .val (.bool a)) (fun _ => rfl) (by first | omega | (simp only [qZsj, qZsk, qZsy, qZt4, qZt7, qZt9, qZtc]; omega)))) ?_
   refine QOps.seg (N := 122) 1 [] ((79, .bool (!(qZsy t1 x11))) :: (78, .bool (qZsy t1 x11)) :: (77, .ref (qZt4 t1 x11) 0 (qZt9 t1 x11)) :: (qZs2 t1 x1 x11)) (by kernel_rfl) trivial ?_
   refine QOps.nil (OpsW.sg 0 [79, 70, 69, 11, 6, 5] (qZrq t1 x1 x11) ?_)
   change OpsW _ _ _ _ (qZrq t1 x1 x11) ((qZrl t1 x2 x11) ++ fmsH (qZt1 x11)) _
   refine OpsW.asU (.ref (qZt4 t1 x11) 0 (qZt9 t1 x11)) rfl rfl (T.idxF rfl rfl trivial trivial (by kernel_rfl) (by kernel_rfl) (row_f rfl rfl (ltN g20)) rfl rfl g21) ?_
   change OpsW _ _ _ _ (qZs7 t1 x1 x11) ((qZrl t1 x2 x11) ++ fmsH (qZt1 x11)) _
   refine OpsW.storeN (enc := eB) (k := 1) (xs := x11.Up) (hc' := (qZs3 t1 x2 x11)) false (!(qZsy t1 x11)) [.val (.bool (!(qZsy t1 x11)))] (qZsj t1 x11).toNat (qZsk t1 x11).toNat 0 rfl rfl rfl (by first | rfl | exact congrArg (AV.ref (qZt4 t1 x11) 0) (by first | omega | (simp only [qZsj, qZsk, qZsm, qZsy, qZt1, qZt4, qZt7, qZt9, qZtc]; omega))) trivial trivial rfl rfl (fun _ => rfl) rfl (by kernel_rfl) (okCb_sound (by kernel_rfl)) (ltN g20) (ltN g21) (Nat.le_of_ble_eq_true (by kernel_rfl)) rfl (by simp only [List.length_set, nsA_set, qZsj, qZsk, qZsm, qZso, qZsr, qZsy, qZt1, qZt4, qZt7, qZt8, qZt9, qZtb, qZtc, qZrk, qZrl, qZrm, qZro, qZrq, qZs2, qZs3, qZs7]) ?_
   change OpsW _ _ _ _ (qZs7 t1 x1 x11) ((qZs3 t1 x2 x11) ++ fmsH (qZst t1 x11)) _
   refine OpsW.sg 0 [11, 6, 5] (qZsb x1) ?_
   refine OpsW.recast (env' := (qZsb x1)) (h' := ((qZrk t1 x2 x11) ++ fmsH (qZst t1 x11))) (StC.mkF (hc := (qZs3 t1 x2 x11)) (fs := (qZst t1 x11)) (hc' := (qZrk t1 x2 x11)) (fs' := (qZst t1 x11)) rfl [(6, some 6), (11, some 11), (5110, some 5110), (5111, some 5111)] qZsd rfl (.o rfl (.i4 .nil) (.o rfl (.i2 (.cons (.s rfl) (.cons (.s rfl) .nil))) (.o rfl (nsSameA rfl rfl (by decide) rfl rfl rfl) (.o rfl (nsSameA rfl rfl (by decide) rfl rfl rfl) .nil)))) rfl (.cons rfl (fmSame rfl) (.cons rfl (fmSame rfl) .nil)) (.cons (.r rfl) (.cons (.r rfl) (.cons .im .nil)))) ?_
   refine OpsW.nil ?_
   show ∃ y, _ ∧ StC _ _ _ _
   exact ⟨(x2, (qZsp t1 x11)), H, (StC.mkF (hc := (qZrk t1 x2 x11)) (fs := (qZst t1 x11)) (hc' := [(6, ⟨0, true, 39, 4, (qZso x2)⟩), (11, ⟨0, true, 47, 4, [.int .i64 (qZsp t1 x11).W, .int .i64 (qZsp t1 x11).H, .rsl 5110 0 0 (qZsp t1 x11).Up.length, .rsl 5111 0 0 (qZsp t1 x11).Down.length]⟩), (5110, nsA 0 61 15110 (qZsp t1 x11).Up), (5111, nsA 0 61 15111 (qZsp t1 x11).Down)]) (fs' := [fmA 15110 4 1 eB (qZsp t1 x11).Up, fmA 15111 4 1 eB (qZsp t1 x11).Down]) rfl [(6, some 6), (11, some 11), (5110, some 5110), (5111, some 5111)] qZsd rfl (.o rfl (.i4 .nil) (.o rfl (.i2 (.cons (.s rfl) (.cons (.s rfl) .nil))) (.o rfl (nsSameA rfl rfl (by decide) rfl rfl rfl) (.o rfl (nsSameA rfl rfl (by decide) rfl rfl rfl) .nil)))) rfl (.cons rfl (fmSame rfl) (.cons rfl (fmSame rfl) .nil)) (.cons .im (.cons (.r rfl) (.cons (.r rfl) .nil))))⟩
  replace H := condF c19 H
  refine AW.drawT 15 Tryd.checked.mixed (by kernel_rfl) ?_
  obtain ⟨g22, H⟩ := G_some H
  refine QOps.seg (N := 122) 4 [0 ≤ (qZsj t1 x11) ∧ (qZsj t1 x11) < (x11.Down.length : Int)] ((84, .ref 5111 0 (qZtc t1 x11)) :: (83, .int .i64 (qZsj t1 x11)) :: (82, .rsl 5111 0 0 x11.Down.length) :: (81, .ref 11 0 3) :: (qZrm t1 x1 x11)) (by kernel_rfl) ⟨g22, trivial⟩ ?_
  refine QOps.asU (.rsl (qZt3 t1 x11) 0 0 (qZt5 t1 x11)) rfl (T.loadR rfl trivial (by kernel_rfl) rfl rfl rfl (ns_cell (ltN g22) (by first | omega | (simp only [qZsj, qZsk, qZsm, qZsp, qZst, qZt3, qZt5, qZtc]; omega)))) ?_
  refine QOps.seg (N := 122) 5 [0 ≤ (qZsj t1 x11) ∧ (qZsj t1 x11) < (x11.Down.length : Int)] (qZrn t1 x1 x11) (by kernel_rfl) ⟨g22, trivial⟩ ?_
  refine QOps.asU (.rsl (qZt3 t1 x11) 0 0 (qZt5 t1 x11)) rfl (T.loadR rfl trivial (by kernel_rfl) rfl rfl rfl (ns_cell (ltN g22) (by first | omega | (simp only [qZsj, qZsk, qZt3, qZt5, qZtc]; omega)))) ?_
  refine QOps.seg (N := 122) 1 [] (qZs1 t1 x1 x11) (by kernel_rfl) trivial ?_
  obtain ⟨g23, H⟩ := G_some H
  refine QOps.asU (.ref (qZt3 t1 x11) 0 (qZt9 t1 x11)) rfl (T.idxF rfl rfl trivial trivial (by kernel_rfl) (by kernel_rfl) (row_f rfl rfl (ltN g22)) rfl rfl g23) ?_
  refine QOps.asU (.bool (qZsw t1 x11)) rfl (T.loadR rfl trivial (by kernel_rfl) (row_f rfl rfl (ltN g22)) rfl rfl (rt_cell eB 1 (fun _ => rfl) (x11.Down.getD (qZsj t1 x11).toNat []) false (qZsk t1 x11).toNat (ltN g23) 0 (fun a => .val (.bool a)) (fun _ => rfl) (by first | omega | (simp only [qZsj, qZsk, qZsw, qZt3, qZt5, qZt9, qZtc]; omega)))) ?_
  refine QOps.seg (N := 122) 1 [] ((95, .bool (!(qZsw t1 x11))) :: (94, .bool (qZsw t1 x11)) :: (93, .ref (qZt3 t1 x11) 0 (qZt9 t1 x11)) :: (qZs1 t1 x1 x11)) (by kernel_rfl) trivial ?_
  refine QOps.nil (OpsW.sg 0 [95, 86, 85, 11, 6, 5] (qZrp t1 x1 x11) ?_)
  change OpsW _ _ _ _ (qZrp t1 x1 x11) ((qZrl t1 x2 x11) ++ fmsH (qZt1 x11)) _
  refine OpsW.asU (.ref (qZt3 t1 x11) 0 (qZt9 t1 x11)) rfl rfl (T.idxF rfl rfl trivial trivial (by kernel_rfl) (by kernel_rfl) (row_f rfl rfl (ltN g22)) rfl rfl g23) ?_
  change OpsW _ _ _ _ (qZs8 t1 x1 x11) ((qZrl t1 x2 x11) ++ fmsH (qZt1 x11)) _
  refine OpsW.storeN (enc := eB) (k := 1) (xs := x11.Down) (hc' := (qZs4 t1 x2 x11)) false (!(qZsw t1 x11)) [.val (.bool (!(qZsw t1 x11)))] (qZsj t1 x11).toNat (qZsk t1 x11).toNat 0 rfl rfl rfl (by first | rfl | exact congrArg (AV.ref (qZt3 t1 x11) 0) (by first | omega | (simp only [qZsj, qZsk, qZsl, qZsw, qZt1, qZt3, qZt5, qZt9, qZtc]; omega))) trivial trivial rfl rfl (fun _ => rfl) rfl (by kernel_rfl) (okCb_sound (by kernel_rfl)) (ltN g22) (ltN g23) (Nat.le_of_ble_eq_true (by kernel_rfl)) rfl (by simp only [List.length_set, nsA_set, qZsj, qZsk, qZsl, qZso, qZsr, qZsw, qZt1, qZt3, qZt5, qZt8, qZt9, qZtb, qZtc, qZrj, qZrl, qZrm, qZrn, qZrp, qZs1, qZs4, qZs8]) ?_
  change OpsW _ _ _ _ (qZs8 t1 x1 x11) ((qZs4 t1 x2 x11) ++ fmsH (qZsu t1 x11)) _
  refine OpsW.sg 0 [11, 6, 5] (qZsb x1) ?_
  refine OpsW.recast (env' := (qZsb x1)) (h' := ((qZrj t1 x2 x11) ++ fmsH (qZsu t1 x11))) (StC.mkF (hc := (qZs4 t1 x2 x11)) (fs := (qZsu t1 x11)) (hc' := (qZrj t1 x2 x11)) (fs' := (qZsu t1 x11)) rfl [(6, some 6), (11, some 11), (5110, some 5110), (5111, some 5111)] qZsd rfl (.o rfl (.i4 .nil) (.o rfl (.i2 (.cons (.s rfl) (.cons (.s rfl) .nil))) (.o rfl (nsSameA rfl rfl (by decide) rfl rfl rfl) (.o rfl (nsSameA rfl rfl (by decide) rfl rfl rfl) .nil)))) rfl (.cons rfl (fmSame rfl) (.cons rfl (fmSame rfl) .nil)) (.cons (.r rfl) (.cons (.r rfl) (.cons .im .nil)))) ?_
  refine OpsW.nil ?_
  show ∃ y, _ ∧ StC _ _ _ _
  exact ⟨(x2, (qZsq t1 x11)), H, (StC.mkF (hc := (qZrj t1 x2 x11)) (fs := (qZsu t1 x11)) (hc' := [(6, ⟨0, true, 39, 4, (qZso x2)⟩), (11, ⟨0, true, 47, 4, [.int .i64 (qZsq t1 x11).W, .int .i64 (qZsq t1 x11).H, .rsl 5110 0 0 (qZsq t1 x11).Up.length, .rsl 5111 0 0 (qZsq t1 x11).Down.length]⟩), (5110, nsA 0 61 15110 (qZsq t1 x11).Up), (5111, nsA 0 61 15111 (qZsq t1 x11).Down)]) (fs' := [fmA 15110 4 1 eB (qZsq t1 x11).Up, fmA 15111 4 1 eB (qZsq t1 x11).Down]) rfl [(6, some 6), (11, some 11), (5110, some 5110), (5111, some 5111)] qZsd rfl (.o rfl (.i4 .nil) (.o rfl (.i2 (.cons (.s rfl) (.cons (.s rfl) .nil))) (.o rfl (nsSameA rfl rfl (by decide) rfl rfl rfl) (.o rfl (nsSameA rfl rfl (by decide) rfl rfl rfl) .nil)))) rfl (.cons rfl (fmSame rfl) (.cons rfl (fmSame rfl) .nil)) (.cons .im (.cons (.r rfl) (.cons (.r rfl) .nil))))⟩
 rintro ⟨v14, v15⟩ H
 change f_L25_SheetLeaves_k1 x1 v14 v15 = some r at H
 unfold f_L25_SheetLeaves_k1 at H
 change AW _ _ _ [(5, .bool x1), qZt8, qZtb] ((qZrx v14 v15) ++ fmsH [fmA 15110 4 1 eB v15.Up, fmA 15111 4 1 eB v15.Down]) _
 refine AW.regionSeq (OpsW.sg 1 [98, 5, 6] [(98, .agg (qZtd v15)), (5, .bool x1), qZt8] ?_)
 refine OpsW.recast (env' := [(98, .agg (qZth v15)), (5, .bool x1), qZt8]) (h' := (qZrt v14 v15)) (StC.mkF (hc := (qZrx v14 v15)) (fs := [fmA 15110 4 1 eB v15.Up, fmA 15111 4 1 eB v15.Down]) (hc' := (qZrt v14 v15)) (fs' := []) rfl [(6, some 6), (11, some 11)] [] rfl (.o rfl (.i4 .nil) (.o rfl (.i2 (.cons (Cst.frzN rfl rfl (fun _ => rfl) rfl rfl rfl) (.cons (Cst.frzN rfl rfl (fun _ => rfl) rfl rfl rfl) .nil))) .nil)) rfl .nil (.cons (.agg (.i2 (.cons (Cst.frzN rfl rfl (fun _ => rfl) rfl rfl rfl) (.cons (Cst.frzN rfl rfl (fun _ => rfl) rfl rfl rfl) .nil)))) (.cons .im (.cons (.r rfl) .nil)))) ?_
 obtain ⟨x16, hx16, H⟩ := bindS H
 refine OpsW.qcall rfl (by kernel_rfl) rfl rfl (glAll_sound trivial) (.cons (.pur rfl) .nil) (f_sheet_Leaf_ok hx16) rfl ?_
 refine OpsW.sg 3 [101, 100, 5, 6] [(101, .int .i64 x16.2), (100, .agg (qZsv x16)), (5, .bool x1), qZt8] ?_
 refine OpsW.alloc' rfl rfl rfl 14 rfl (by kernel_rfl : zc Tryd.prog 39 = some [.int .i64 0, .int .i64 0, .slice none 0 0, .slice none 0 0]) (by kernel_rfl) ?_
 refine OpsW.store rfl rfl rfl rfl trivial trivial rfl rfl rfl (by kernel_rfl) (okCb_sound (by kernel_rfl)) (Nat.le_of_ble_eq_true (by kernel_rfl)) ?_
 change OpsW _ _ _ _ _ ((14, ⟨0, true, 39, 4, (qZsv x16)⟩) :: (14, ⟨0, true, 39, 4, qZt0⟩) :: (qZrt v14 v15)) _
 refine OpsW.sg 1 [15, 14, 5, 6] (qZsc x1 x16) ?_
 refine OpsW.recast (env' := (qZsc x1 x16)) (h' := [(6, ⟨0, true, 39, 4, (qZsz v14)⟩), (14, ⟨0, true, 39, 4, (qZsv x16)⟩)]) (StC.mk (phi [(6, some 6), (14, some 14)]) (.o rfl (.i4 .nil) (.o rfl (.i4 .nil) .nil)) rfl (.cons .im (.cons (.r rfl) (.cons .im (.cons (.r rfl) .nil))))) ?_
 refine OpsW.nil (AW.seq (AW.regionSeq (OpsW.sg 2 [103, 15, 14, 5, 6] ((103, .bool (x16.2 != 0)) :: (qZsc x1 x16)) ?_)))
 refine OpsW.nil (AW.cond (b := x16.2 != 0) rfl (fun c17 => ?_) (fun c17 => ?_))
 ·replace H := condT c17 H
  refine AW.regionSeq (OpsW.sq 12 [4] [x1 = true → x1 = true, x1 = true → x1 = true, (qZt6 x1 x16) = true → (qZt6 x1 x16) = true, (qZt6 x1 x16) = true → (qZt6 x1 x16) = true, (qZt6 x1 x16) = true → (qZt6 x1 x16) = true, (qZt6 x1 x16) = true → (qZt6 x1 x16) = true] (qZsi x1 x16) ⟨(fun h => h), (fun h => by first | exact h | (simpa using h) | grind), (fun h => h), (fun h => h), (fun h => h), (fun h => by first | exact h | (simpa using h) | grind), trivial⟩ ?_)
  refine OpsW.nil ?_
  obtain rfl := Option.some.inj H
  refine AW.recast (env' := (qZsi x1 x16)) (h' := []) (StC.pure (.cons .im .nil)) ?_
  refine AW.ret ?_
  try simp only [Ex.then, Ex.inBlock, Ex.noGoto, Ex.jump, reduceIte, Nat.reduceEqDiff, reduceCtorEq]
  refine Done.gen rfl (.tmp .nil) ?_
  show _ = _
  kernel_rfl
 replace H := condF c17 H
 refine AW.skip (AW.regionSeq (OpsW.sg 4 [118, 117, 116] [(118, .cnd x1 (.agg (qZsz v14))), (117, .cnd x1 (.agg (qZsv x16))), (116, .bool x1)] ?_))
 obtain ⟨x18, hx18, H⟩ := bindS H
 refine OpsW.gcall (c := x1) (r := .bool x18) [] rfl (by kernel_rfl) rfl rfl rfl rfl (fun hc => ⟨glAll_sound ⟨hc, hc, trivial⟩, (.cons (.pur rfl) (.cons (.pur rfl) .nil)), f_R25_Same_ok (condT hc hx18), .inl ⟨rfl, rfl⟩⟩) ?_
 refine OpsW.sq 3 [4] [x1 = true → x1 = true, x1 = true → x1 = true] [(4, .bool (cond x1 (!x18) false))] ⟨(fun h => h), (fun h => by first | exact h | (simpa using h) | grind), trivial⟩ ?_
 refine OpsW.nil ?_
 obtain rfl := Option.some.inj H
 refine AW.recast (env' := [(4, .bool (cond x1 (!x18) false))]) (h' := []) (StC.pure (.cons .im .nil)) ?_
 refine AW.ret ?_
 try simp only [Ex.then, Ex.inBlock, Ex.noGoto, Ex.jump, reduceIte, Nat.reduceEqDiff, reduceCtorEq]
 refine Done.gen rfl (.tmp .nil) ?_
 show _ = _
 kernel_rfl
end Go.Proofs.YtbcfmhoaocifoaaDoor
