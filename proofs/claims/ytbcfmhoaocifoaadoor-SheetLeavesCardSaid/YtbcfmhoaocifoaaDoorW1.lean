/-
 Written by gen.py (own work): typed functions, and that the program computes them.
-/
import Derived.Test.YtbcfmhoaocifoaaDoorLibG
import Derived.Test.YtbcfmhoaocifoaaDoorChecked
import Derived.Test.YtbcfmhoaocifoaaDoorItoa
import Derived.Test.YtbcfmhoaocifoaaDoorLayP
set_option linter.unusedSimpArgs false
set_option linter.unusedVariables false
set_option maxRecDepth 100000
namespace Go.Proofs.YtbcfmhoaocifoaaDoor
open Go.Abs
structure S_Format where
 Width : Int
 Height : Int
 Binding : Int
 deriving DecidableEq
structure S_Grid where
 W : Int
 H : Int
 Dots : List (List Bool)
 deriving DecidableEq
structure S_Point where
 X : Int
 Y : Int
 deriving DecidableEq
def eS_Point (x : S_Point) : List IV := [.val (.int .i64 x.X), .val (.int .i64 x.Y)]
def zS_Point : S_Point := ⟨(0 : Int), (0 : Int)⟩
structure S_Plate where
 W : Int
 H : Int
 Up : List (List Bool)
 Down : List (List Bool)
 deriving DecidableEq
def zS_Plate : S_Plate := ⟨(0 : Int), (0 : Int), [], []⟩
structure S_Label where
 N : Int
 K : Int
 deriving DecidableEq
structure S_Leaf where
 Label : S_Label
 Front : List (List Int)
 Back : List (List Int)
 deriving DecidableEq
structure S_Header where
 Width : Int
 Label : S_Label
 Back : Bool
 Ink : Int
 Part : Int
 deriving DecidableEq
structure S_Raw' where
 Width : Int
 N : Int
 K : Int
 Back : Bool
 Ink : Int
 Part : Int
 deriving DecidableEq
def eS_Raw' (x : S_Raw') : List IV := [.val (.int .u8 x.Width), .val (.int .u16 x.N), .val (.int .u8 x.K), .val (.bool x.Back), .val (.int .u16 x.Ink), .val (.int .u8 x.Part)]
structure S_Raw where
 W : Int
 H : Int
 Front : List (List Int)
 Back : List (List Int)
 Head : S_Raw'
 deriving DecidableEq
def eS_Raw (x : S_Raw) : List IV := [.val (.int .u8 x.W), .val (.int .u8 x.H), .sl (x.Front.flatMap (eL (eI .u8))) x.Front.length, .sl (x.Back.flatMap (eL (eI .u8))) x.Back.length, .val (.int .u8 x.Head.Width), .val (.int .u16 x.Head.N), .val (.int .u8 x.Head.K), .val (.bool x.Head.Back), .val (.int .u16 x.Head.Ink), .val (.int .u8 x.Head.Part)]
def tabS_0 : List S_Point := [⟨0, 0⟩, ⟨0, 1⟩, ⟨0, 2⟩, ⟨1, 0⟩, ⟨1, 1⟩, ⟨1, 2⟩]
theorem E36 : Elem Tryd.prog 36 41 1 24 [.slice none 0 0] := ⟨by kernel_rfl, by kernel_rfl, by kernel_rfl, rfl, rfl, by decide⟩
theorem E37 : Elem Tryd.prog 37 41 1 24 [.slice none 0 0] := ⟨by kernel_rfl, by kernel_rfl, by kernel_rfl, rfl, rfl, by decide⟩
theorem E41 : Elem Tryd.prog 41 42 1 1 [.int .u8 0] := ⟨by kernel_rfl, by kernel_rfl, by kernel_rfl, rfl, rfl, by decide⟩
theorem E45 : Elem Tryd.prog 45 61 1 24 [.slice none 0 0] := ⟨by kernel_rfl, by kernel_rfl, by kernel_rfl, rfl, rfl, by decide⟩
theorem E61 : Elem Tryd.prog 61 4 1 1 [.bool false] := ⟨by kernel_rfl, by kernel_rfl, by kernel_rfl, rfl, rfl, by decide⟩
def f_cell_Valid (t0 : Int) : Option Bool :=
 some (decide (t0 < 64))
theorem f_cell_Valid_ok  {t0 : Int} {r : Bool} (H : f_cell_Valid t0 = some r) : QSpec Tryd.prog 50 [.int .u8 t0] (.bool r) := by
 refine Spec.of_AW Tryd.func50 rfl (by simp [Tryd.ntmps50]) ?_
 rw [Tryd.ntmps50]
 unfold f_cell_Valid at H
 change AW _ _ _ [(0, .int .u8 t0)] [] _
 refine AW.regionSeq (OpsW.sg 1 [0] [(0, .int .u8 t0)] ?_)
 refine OpsW.nil (AW.regionSeq (OpsW.sg 3 [2] [(2, .bool (decide (t0 < 64)))] ?_))
 refine OpsW.nil ?_
 obtain rfl := Option.some.inj H
 refine AW.recast (env' := [(2, .bool (decide (t0 < 64)))]) (h' := []) (StC.pure (.cons .im .nil)) ?_
 refine AW.ret ?_
 refine Done.gen rfl (.tmp .nil) ?_
 show _ = _
 kernel_rfl
def f_sheet_fits_b1 (t0 : List (List Int)) (loop3 : (Int) → Option Bool) (v2 : Int) (loop10 : (Int) → Option Bool) (v9 : Int) : Option Bool :=
 cond (decide (v9 < ((t0.getD v2.toNat []).length : Int))) (
  G (0 ≤ v9 ∧ v9 < ((t0.getD v2.toNat []).length : Int)) <|
  (f_cell_Valid ((t0.getD v2.toNat []).getD v9.toNat 0)).bind fun x13 =>
  cond (!x13) (
   some false) (
   G (inR (v9 + 1)) <|
   loop10 (v9 + 1))) (
  G (inR (v2 + 1)) <|
  loop3 (v2 + 1))
def f_sheet_fits_b2 (t0 : List (List Int)) (t1 : S_Format) (loop3 : (Int) → Option Bool) (v2 : Int) : Option Bool :=
 cond (decide (v2 < (t0.length : Int))) (
  G (0 ≤ v2 ∧ v2 < (t0.length : Int)) <|
  G (((!(decide (t1.Width < ((t0.getD v2.toNat []).length : Int)))) && (decide (0 < ((t0.getD v2.toNat []).length : Int)))) = true → inR (((t0.getD v2.toNat []).length : Int) - (1 : Int))) <|
  G (((!(decide (t1.Width < ((t0.getD v2.toNat []).length : Int)))) && (decide (0 < ((t0.getD v2.toNat []).length : Int)))) = true → (0 ≤ (((t0.getD v2.toNat []).length : Int) - (1 : Int)) ∧ (((t0.getD v2.toNat []).length : Int) - (1 : Int)) < ((t0.getD v2.toNat []).length : Int))) <|
  cond (cond (decide (t1.Width < ((t0.getD v2.toNat []).length : Int))) true (cond (decide (0 < ((t0.getD v2.toNat []).length : Int))) (((t0.getD v2.toNat []).getD (((t0.getD v2.toNat []).length : Int) - (1 : Int)).toNat (0 : Int)) == 0) false)) (
   some false) (
   iter (fun loop (s : Int) => f_sheet_fits_b1 t0 loop3 v2 loop s) 1000000 (0 : Int))) (
  G ((!((t0.length : Int) == 0)) = true → inR ((t0.length : Int) - 1)) <|
  G ((!((t0.length : Int) == 0)) = true → (0 ≤ ((t0.length : Int) - 1) ∧ ((t0.length : Int) - 1) < (t0.length : Int))) <|
  some (cond ((t0.length : Int) == 0) true (decide (0 < ((t0.getD ((t0.length : Int) - 1).toNat []).length : Int)))))
def f_sheet_fits (t0 : List (List Int)) (t1 : S_Format) : Option Bool :=
 cond (decide (t1.Height < (t0.length : Int))) (
  some false) (
  iter (fun loop (s : Int) => f_sheet_fits_b2 t0 t1 loop s) 1000000 (0 : Int))
section
variable (t0 : List (List Int)) (t1 : S_Format) (v2 : Int) (v9 : Int)
abbrev qZ6 := ((t0.getD v2.toNat []).length : Int)
abbrev qZ7 := (!(decide (t1.Width < (qZ6 t0 v2)))) && (decide (0 < (qZ6 t0 v2)))
abbrev qZ8 := (t0.length : Int)
abbrev qZ9 := decide (t1.Width < (qZ6 t0 v2))
abbrev qZa := !((qZ8 t0) == 0)
abbrev qZb := t0.getD v2.toNat []
abbrev qZc : Nat × AV := (0, slA (eL (eI .u8)) t0)
abbrev qZd := ((qZb t0 v2).getD ((qZ6 t0 v2) - (1 : Int)).toNat (0 : Int))
abbrev qZe : Nat × AV := (14, slA (eL (eI .u8)) t0)
abbrev qZf : Nat × AV := (15, .int .i64 (qZ8 t0))
abbrev qZg := decide (0 < (qZ6 t0 v2))
abbrev qZ0 : Env := [(qZc t0), (3, .ref 3 0 0), (qZe t0), (qZf t0), (16, .int .i64 v2), (39, slA (eI .u8) (qZb t0 v2)), (40, .int .i64 (qZ6 t0 v2)), (41, .int .i64 v9)]
abbrev qZ1 : Env := [(qZc t0), (3, .ref 3 0 0), (qZe t0), (qZf t0), (16, .int .i64 v2)]
abbrev qZ2 : Hp := [(3, ⟨0, true, 32, 3, [.int .i64 t1.Width, .int .i64 t1.Height, .int .i64 t1.Binding]⟩)]
abbrev qZ3 : Env := [(4, .bool (cond ((qZ8 t0) == 0) true (decide (0 < ((t0.getD ((qZ8 t0) - 1).toNat []).length : Int)))))]
abbrev qZ4 : Env := [(3, .ref 3 0 0), (qZc t0)]
abbrev qZ5 : Env := (6, slA (eI .u8) (qZb t0 v2)) :: (qZ1 t0 v2)
end
theorem f_sheet_fits_ok  {t0 : List (List Int)} {t1 : S_Format} {r : Bool} (H : f_sheet_fits t0 t1 = some r) : QSpec Tryd.prog 30 [slA (eL (eI .u8)) t0, .agg [.int .i64 t1.Width, .int .i64 t1.Height, .int .i64 t1.Binding]] (.bool r) := by
 refine Spec.of_AW Tryd.func30 rfl (by simp [Tryd.ntmps30]) ?_
 rw [Tryd.ntmps30]
 unfold f_sheet_fits at H
 change AW _ _ _ [(qZc t0), (1, .agg [.int .i64 t1.Width, .int .i64 t1.Height, .int .i64 t1.Binding])] [] _
 refine AW.regionSeq (OpsW.box rfl rfl rfl 3 rfl (okCb_sound (by kernel_rfl)) ?_)
 change OpsW _ _ _ _ _ (qZ2 t1) _
 refine OpsW.sg 1 [3, 0] (qZ4 t0) ?_
 refine OpsW.recast (env' := (qZ4 t0)) (h' := (qZ2 t1)) (StC.mk (phi [(3, some 3)]) (.o rfl (.i3 .nil) .nil) rfl (.cons (.r rfl) (.cons .im .nil))) ?_
 refine OpsW.nil (AW.seq (AW.regionSeq (OpsW.sg 5 [13, 3, 0] ((13, .bool (decide (t1.Height < (qZ8 t0)))) :: (qZ4 t0)) ?_)))
 refine OpsW.nil (AW.cond (b := decide (t1.Height < (qZ8 t0))) rfl (fun c1 => ?_) (fun c1 => ?_))
 ·replace H := condT c1 H
  refine AW.regionSeq (OpsW.sg 1 [4] [(4, .bool false)] ?_)
  refine OpsW.nil ?_
  obtain rfl := Option.some.inj H
  refine AW.recast (env' := [(4, .bool false)]) (h' := []) (StC.pure (.cons .im .nil)) ?_
  refine AW.ret ?_
  try simp only [Ex.then, Ex.inBlock, Ex.noGoto, Ex.jump, reduceIte, Nat.reduceEqDiff, reduceCtorEq]
  refine Done.gen rfl (.tmp .nil) ?_
  show _ = _
  kernel_rfl
 replace H := condF c1 H
 refine AW.skip (AW.seq (AW.regionSeq (OpsW.sg 3 [16, 15, 14, 3, 0] ((16, .int .i64 0) :: (qZf t0) :: (qZe t0) :: (qZ4 t0)) ?_)))
 refine OpsW.nil (AW.block ?_)
 refine AW.iterK (fun loop (s : Int) => f_sheet_fits_b2 t0 t1 loop s) r (fun (s : Int) => [(qZc t0), (3, .ref 3 0 0), (qZe t0), (qZf t0), (16, .int .i64 s)]) (fun (s : Int) => (qZ2 t1)) ?_ 1000000 (0 : Int) H (StC.mk (phi [(3, some 3)]) (.o rfl (.i3 .nil) .nil) rfl (.cons .im (.cons (.r rfl) (.i3 .nil))))
 intro loop3 v2 H
 change f_sheet_fits_b2 t0 t1 loop3 v2 = some r at H
 unfold f_sheet_fits_b2 at H
 change AW _ _ _ (qZ1 t0 v2) (qZ2 t1) _
 refine AW.regionSeq (OpsW.sg 1 [17, 0, 3, 14, 15, 16] ((17, .bool (decide (v2 < (qZ8 t0)))) :: (qZ1 t0 v2)) ?_)
 refine OpsW.nil (AW.seq (AW.cond (b := decide (v2 < (qZ8 t0))) rfl (fun c4 => ?_) (fun c4 => ?_)))
 ·replace H := condT c4 H
  refine AW.skip (AW.seq (AW.block (AW.regionSeq ?_)))
  obtain ⟨g5, H⟩ := G_some H
  refine OpsW.sq 1 [18, 0, 3, 14, 15, 16] [0 ≤ v2 ∧ v2 < (qZ8 t0)] ((18, .ipt (t0.flatMap (eL (eI .u8))) (v2.toNat * 1)) :: (qZ1 t0 v2)) ⟨g5, trivial⟩ ?_
  refine OpsW.asU (slA (eI .u8) (qZb t0 v2)) rfl rfl (T.load rfl trivial (by kernel_rfl) (fm_cell0 (eL (eI .u8)) 1 (fun _ => rfl) t0 [] v2.toNat (ltN g5) (fun a => .sl (a.flatMap (eI .u8)) a.length) (fun _ => rfl))) ?_
  refine OpsW.sg 1 [6, 0, 3, 14, 15, 16] (qZ5 t0 v2) ?_
  refine OpsW.nil (AW.seq (AW.regionSeq ?_))
  obtain ⟨g6, H⟩ := G_some H
  obtain ⟨g7, H⟩ := G_some H
  refine OpsW.sq 15 [34, 29, 25, 6, 0, 3, 14, 15, 16] [(!(qZ9 t0 t1 v2)) = true → (!(qZ9 t0 t1 v2)) = true, (!(qZ9 t0 t1 v2)) = true → (!(qZ9 t0 t1 v2)) = true, (!(qZ9 t0 t1 v2)) = true → (!(qZ9 t0 t1 v2)) = true, (qZ7 t0 t1 v2) = true → (qZ7 t0 t1 v2) = true, (qZ7 t0 t1 v2) = true → (qZ7 t0 t1 v2) = true, (qZ7 t0 t1 v2) = true → inR ((qZ6 t0 v2) - (1 : Int)), (qZ7 t0 t1 v2) = true → (qZ7 t0 t1 v2) = true, (qZ7 t0 t1 v2) = true → (qZ7 t0 t1 v2) = true, (qZ7 t0 t1 v2) = true → (0 ≤ ((qZ6 t0 v2) - (1 : Int)) ∧ ((qZ6 t0 v2) - (1 : Int)) < (qZ6 t0 v2))] ((34, .cnd (qZ7 t0 t1 v2) (.ipt ((qZb t0 v2).flatMap (eI .u8)) (((qZ6 t0 v2) - (1 : Int)).toNat * 1))) :: (29, .cnd (!(qZ9 t0 t1 v2)) (.bool (qZg t0 v2))) :: (25, .bool (qZ9 t0 t1 v2)) :: (qZ5 t0 v2)) ⟨(fun h => h), (fun h => h), (fun h => h), (fun h => h), (fun h => h), g6, (fun h => h), (fun h => h), g7, trivial⟩ ?_
  refine OpsW.asG (c := (!(qZ9 t0 t1 v2)) && (qZg t0 v2)) (.int .u8 (qZd t0 v2)) rfl rfl rfl rfl (fun hc => T.load rfl hc (by kernel_rfl) (fm_cell0 (eI .u8) 1 (fun _ => rfl) (qZb t0 v2) (0 : Int) ((qZ6 t0 v2) - (1 : Int)).toNat (ltN (g7 hc)) (fun a => .val (.int .u8 a)) (fun _ => rfl))) ?_
  refine OpsW.sq 3 [38, 6, 0, 3, 14, 15, 16] [(qZ7 t0 t1 v2) = true → (qZ7 t0 t1 v2) = true, (!(qZ9 t0 t1 v2)) = true → (!(qZ9 t0 t1 v2)) = true, (!(qZ9 t0 t1 v2)) = true → ((qZg t0 v2) = true → (qZ7 t0 t1 v2) = true), (qZ9 t0 t1 v2) = false → (!(qZ9 t0 t1 v2)) = true] ((38, .bool (cond (qZ9 t0 t1 v2) true (cond (qZg t0 v2) ((qZd t0 v2) == 0) false))) :: (qZ5 t0 v2)) ⟨(fun h => h), (fun h => h), (fun h0 h => by first | exact h | (simp [h0, h]; done) | (simp at h0 h ⊢; simp [h0, h]; done) | (simp_all; done) | grind), (fun h => by first | exact h | (simpa using h) | grind), trivial⟩ ?_
  refine OpsW.nil (AW.cond (b := cond (qZ9 t0 t1 v2) true (cond (qZg t0 v2) ((qZd t0 v2) == 0) false)) rfl (fun c8 => ?_) (fun c8 => ?_))
  ·replace H := condT c8 H
   refine AW.regionSeq (OpsW.sg 1 [4] [(4, .bool false)] ?_)
   refine OpsW.nil ?_
   obtain rfl := Option.some.inj H
   refine AW.recast (env' := [(4, .bool false)]) (h' := []) (StC.pure (.cons .im .nil)) ?_
   refine AW.ret ?_
   try simp only [Ex.then, Ex.inBlock, Ex.noGoto, Ex.jump, reduceIte, Nat.reduceEqDiff, reduceCtorEq]
   refine Done.gen rfl (.tmp .nil) ?_
   show _ = _
   kernel_rfl
  replace H := condF c8 H
  refine AW.skip (AW.regionSeq (OpsW.sg 3 [41, 40, 39, 0, 3, 14, 15, 16] ((41, .int .i64 0) :: (40, .int .i64 (qZ6 t0 v2)) :: (39, slA (eI .u8) (qZb t0 v2)) :: (qZ1 t0 v2)) ?_))
  refine OpsW.nil (AW.block ?_)
  refine AW.iterK (fun loop (s : Int) => f_sheet_fits_b1 t0 loop3 v2 loop s) r (fun (s : Int) => [(qZc t0), (3, .ref 3 0 0), (qZe t0), (qZf t0), (16, .int .i64 v2), (39, slA (eI .u8) (qZb t0 v2)), (40, .int .i64 (qZ6 t0 v2)), (41, .int .i64 s)]) (fun (s : Int) => (qZ2 t1)) ?_ 1000000 (0 : Int) H (StC.mk (phi [(3, some 3)]) (.o rfl (.i3 .nil) .nil) rfl (.cons .im (.cons (.r rfl) (.i6 .nil))))
  intro loop10 v9 H
  change f_sheet_fits_b1 t0 loop3 v2 loop10 v9 = some r at H
  unfold f_sheet_fits_b1 at H
  change AW _ _ _ (qZ0 t0 v2 v9) (qZ2 t1) _
  refine AW.regionSeq (OpsW.sg 1 [42, 0, 3, 14, 15, 16, 39, 40, 41] ((42, .bool (decide (v9 < (qZ6 t0 v2)))) :: (qZ0 t0 v2 v9)) ?_)
  refine OpsW.nil (AW.seq (AW.cond (b := decide (v9 < (qZ6 t0 v2))) rfl (fun c11 => ?_) (fun c11 => ?_)))
  ·replace H := condT c11 H
   refine AW.skip (AW.seq (AW.block (AW.regionSeq ?_)))
   obtain ⟨g12, H⟩ := G_some H
   refine OpsW.sq 1 [43, 0, 3, 14, 15, 16, 39, 40, 41] [0 ≤ v9 ∧ v9 < (qZ6 t0 v2)] ((43, .ipt ((qZb t0 v2).flatMap (eI .u8)) (v9.toNat * 1)) :: (qZ0 t0 v2 v9)) ⟨g12, trivial⟩ ?_
   refine OpsW.asU (.int .u8 ((qZb t0 v2).getD v9.toNat 0)) rfl rfl (T.load rfl trivial (by kernel_rfl) (fm_cell0 (eI .u8) 1 (fun _ => rfl) (qZb t0 v2) (0 : Int) v9.toNat (ltN g12) (fun a => .val (.int .u8 a)) (fun _ => rfl))) ?_
   refine OpsW.sg 1 [8, 0, 3, 14, 15, 16, 39, 40, 41] ((8, .int .u8 ((qZb t0 v2).getD v9.toNat 0)) :: (qZ0 t0 v2 v9)) ?_
   refine OpsW.nil (AW.regionSeq (OpsW.sg 1 [45, 0, 3, 14, 15, 16, 39, 40, 41] ((45, .int .u8 ((qZb t0 v2).getD v9.toNat 0)) :: (qZ0 t0 v2 v9)) ?_))
   obtain ⟨x13, hx13, H⟩ := bindS H
   refine OpsW.qcall rfl (by kernel_rfl) rfl rfl (glAll_sound trivial) (.cons (.pur rfl) .nil) (f_cell_Valid_ok hx13) rfl ?_
   refine OpsW.sg 1 [47, 0, 3, 14, 15, 16, 39, 40, 41] ((47, .bool (!x13)) :: (qZ0 t0 v2 v9)) ?_
   refine OpsW.nil (AW.cond (b := !x13) rfl (fun c14 => ?_) (fun c14 => ?_))
   ·replace H := condT c14 H
    refine AW.regionSeq (OpsW.sg 1 [4] [(4, .bool false)] ?_)
    refine OpsW.nil ?_
    obtain rfl := Option.some.inj H
    refine AW.recast (env' := [(4, .bool false)]) (h' := []) (StC.pure (.cons .im .nil)) ?_
    refine AW.ret ?_
    try simp only [Ex.then, Ex.inBlock, Ex.noGoto, Ex.jump, reduceIte, Nat.reduceEqDiff, reduceCtorEq]
    refine Done.gen rfl (.tmp .nil) ?_
    show _ = _
    kernel_rfl
   replace H := condF c14 H
   refine AW.skip (AW.region ?_)
   obtain ⟨g15, H⟩ := G_some H
   refine OpsW.sq 2 [41, 0, 3, 14, 15, 16, 39, 40] [inR (v9 + 1)] [(41, .int .i64 (v9 + 1)), (qZc t0), (3, .ref 3 0 0), (qZe t0), (qZf t0), (16, .int .i64 v2), (39, slA (eI .u8) (qZb t0 v2)), (40, .int .i64 (qZ6 t0 v2))] ⟨g15, trivial⟩ ?_
   refine OpsW.nil ?_
   show ∃ y, _ ∧ StC _ _ _ _
   exact ⟨v9 + 1, H, (StC.mk (phi [(3, some 3)]) (.o rfl (.i3 .nil) .nil) rfl (.cons .im (.cons (.r rfl) (.i6 .nil))))⟩
  replace H := condF c11 H
  refine AW.exit ?_
  refine AW.region ?_
  obtain ⟨g16, H⟩ := G_some H
  refine OpsW.sq 2 [16, 0, 3, 14, 15] [inR (v2 + 1)] [(16, .int .i64 (v2 + 1)), (qZc t0), (3, .ref 3 0 0), (qZe t0), (qZf t0)] ⟨g16, trivial⟩ ?_
  refine OpsW.nil ?_
  show ∃ y, _ ∧ StC _ _ _ _
  exact ⟨v2 + 1, H, (StC.mk (phi [(3, some 3)]) (.o rfl (.i3 .nil) .nil) rfl (.cons .im (.cons (.r rfl) (.i3 .nil))))⟩
 replace H := condF c4 H
 refine AW.exit ?_
 refine AW.regionSeq ?_
 obtain ⟨g17, H⟩ := G_some H
 obtain ⟨g18, H⟩ := G_some H
 refine OpsW.sq 9 [58, 53] [(qZa t0) = true → (qZa t0) = true, (qZa t0) = true → (qZa t0) = true, (qZa t0) = true → inR ((qZ8 t0) - 1), (qZa t0) = true → (qZa t0) = true, (qZa t0) = true → (qZa t0) = true, (qZa t0) = true → (0 ≤ ((qZ8 t0) - 1) ∧ ((qZ8 t0) - 1) < (qZ8 t0))] [(58, .cnd (qZa t0) (.ipt (t0.flatMap (eL (eI .u8))) (((qZ8 t0) - 1).toNat * 1))), (53, .bool ((qZ8 t0) == 0))] ⟨(fun h => h), (fun h => h), g17, (fun h => h), (fun h => h), g18, trivial⟩ ?_
 refine OpsW.asG (c := !((qZ8 t0) == 0)) (slA (eI .u8) (t0.getD ((qZ8 t0) - 1).toNat [])) rfl rfl rfl rfl (fun hc => T.load rfl hc (by kernel_rfl) (fm_cell0 (eL (eI .u8)) 1 (fun _ => rfl) t0 [] ((qZ8 t0) - 1).toNat (ltN (g18 hc)) (fun a => .sl (a.flatMap (eI .u8)) a.length) (fun _ => rfl))) ?_
 refine OpsW.sq 4 [4] [(qZa t0) = true → (qZa t0) = true, (qZa t0) = true → (qZa t0) = true, ((qZ8 t0) == 0) = false → (qZa t0) = true] (qZ3 t0) ⟨(fun h => h), (fun h => h), (fun h => by first | exact h | (simpa using h) | grind), trivial⟩ ?_
 refine OpsW.nil ?_
 obtain rfl := Option.some.inj H
 refine AW.recast (env' := (qZ3 t0)) (h' := []) (StC.pure (.cons .im .nil)) ?_
 refine AW.ret ?_
 try simp only [Ex.then, Ex.inBlock, Ex.noGoto, Ex.jump, reduceIte, Nat.reduceEqDiff, reduceCtorEq]
 refine Done.gen rfl (.tmp .nil) ?_
 show _ = _
 kernel_rfl
def f_grid_New_b1 (t0 : Int) (t1 : Int) (loop5 : (S_Grid × S_Grid × Int) → Option S_Grid) (v2 : S_Grid) (v3 : S_Grid) (v4 : Int) : Option S_Grid :=
 cond (decide (v4 < (if (200 : Int) < (if (0 : Int) > t1 then (0 : Int) else t1) then (200 : Int) else (if (0 : Int) > t1 then (0 : Int) else t1)))) (
  G (0 ≤ (if (200 : Int) < (if (0 : Int) > t0 then (0 : Int) else t0) then (200 : Int) else (if (0 : Int) > t0 then (0 : Int) else t0)) ∧ (if (200 : Int) < (if (0 : Int) > t0 then (0 : Int) else t0) then (200 : Int) else (if (0 : Int) > t0 then (0 : Int) else t0)) ≤ (if (200 : Int) < (if (0 : Int) > t0 then (0 : Int) else t0) then (200 : Int) else (if (0 : Int) > t0 then (0 : Int) else t0)) ∧ ((1 : Nat) : Int) * (if (200 : Int) < (if (0 : Int) > t0 then (0 : Int) else t0) then (200 : Int) else (if (0 : Int) > t0 then (0 : Int) else t0)) ≤ 281474976710656 ∧ (if (200 : Int) < (if (0 : Int) > t0 then (0 : Int) else t0) then (200 : Int) else (if (0 : Int) > t0 then (0 : Int) else t0)) ≤ 9223372036854775807) <|
  G (0 ≤ v4 ∧ v4 < (v3.Dots.length : Int)) <|
  G (inR (v4 + 1)) <|
  loop5 (v2, (⟨v3.W, v3.H, v3.Dots.set v4.toNat (List.replicate (if (200 : Int) < (if (0 : Int) > t0 then (0 : Int) else t0) then (200 : Int) else (if (0 : Int) > t0 then (0 : Int) else t0)).toNat false)⟩ : S_Grid), v4 + 1)) (
  some v3)
def f_grid_New (t0 : Int) (t1 : Int) : Option S_Grid :=
 G (0 ≤ (if (200 : Int) < (if (0 : Int) > t1 then (0 : Int) else t1) then (200 : Int) else (if (0 : Int) > t1 then (0 : Int) else t1)) ∧ (if (200 : Int) < (if (0 : Int) > t1 then (0 : Int) else t1) then (200 : Int) else (if (0 : Int) > t1 then (0 : Int) else t1)) ≤ (if (200 : Int) < (if (0 : Int) > t1 then (0 : Int) else t1) then (200 : Int) else (if (0 : Int) > t1 then (0 : Int) else t1)) ∧ ((24 : Nat) : Int) * (if (200 : Int) < (if (0 : Int) > t1 then (0 : Int) else t1) then (200 : Int) else (if (0 : Int) > t1 then (0 : Int) else t1)) ≤ 281474976710656 ∧ (if (200 : Int) < (if (0 : Int) > t1 then (0 : Int) else t1) then (200 : Int) else (if (0 : Int) > t1 then (0 : Int) else t1)) ≤ 9223372036854775807) <|
 iter (fun loop (s : S_Grid × S_Grid × Int) => f_grid_New_b1 t0 t1 loop s.1 s.2.1 s.2.2) 1000000 ((⟨(0 : Int), (0 : Int), []⟩ : S_Grid), (⟨(if (200 : Int) < (if (0 : Int) > t0 then (0 : Int) else t0) then (200 : Int) else (if (0 : Int) > t0 then (0 : Int) else t0)), (if (200 : Int) < (if (0 : Int) > t1 then (0 : Int) else t1) then (200 : Int) else (if (0 : Int) > t1 then (0 : Int) else t1)), List.replicate (if (200 : Int) < (if (0 : Int) > t1 then (0 : Int) else t1) then (200 : Int) else (if (0 : Int) > t1 then (0 : Int) else t1)).toNat ([] : List Bool)⟩ : S_Grid), (0 : Int))
section
variable (t0 : Int) (t1 : Int) (v2 : S_Grid) (v3 : S_Grid) (v4 : Int)
abbrev qZz := (List.replicate (if (200 : Int) < (if (0 : Int) > t0 then (0 : Int) else t0) then (200 : Int) else (if (0 : Int) > t0 then (0 : Int) else t0)).toNat false)
abbrev qZ10 := (⟨(if (200 : Int) < (if (0 : Int) > t0 then (0 : Int) else t0) then (200 : Int) else (if (0 : Int) > t0 then (0 : Int) else t0)), (if (200 : Int) < (if (0 : Int) > t1 then (0 : Int) else t1) then (200 : Int) else (if (0 : Int) > t1 then (0 : Int) else t1)), List.replicate (if (200 : Int) < (if (0 : Int) > t1 then (0 : Int) else t1) then (200 : Int) else (if (0 : Int) > t1 then (0 : Int) else t1)).toNat ([] : List Bool)⟩ : S_Grid)
abbrev qZ11 := (List.replicate (if (200 : Int) < (if (0 : Int) > t1 then (0 : Int) else t1) then (200 : Int) else (if (0 : Int) > t1 then (0 : Int) else t1)).toNat ([] : List Bool))
abbrev qZ12 : Nat × AV := (0, .int .i64 (if (200 : Int) < (if (0 : Int) > t0 then (0 : Int) else t0) then (200 : Int) else (if (0 : Int) > t0 then (0 : Int) else t0)))
abbrev qZ13 : Nat × AV := (18, .int .i64 (if (200 : Int) < (if (0 : Int) > t1 then (0 : Int) else t1) then (200 : Int) else (if (0 : Int) > t1 then (0 : Int) else t1)))
abbrev qZ14 : List AV := [.int .i64 (if (200 : Int) < (if (0 : Int) > t0 then (0 : Int) else t0) then (200 : Int) else (if (0 : Int) > t0 then (0 : Int) else t0)), .int .i64 (if (200 : Int) < (if (0 : Int) > t1 then (0 : Int) else t1) then (200 : Int) else (if (0 : Int) > t1 then (0 : Int) else t1)), .rsl 16 0 0 ((qZ11 t1).length)]
abbrev qZ15 := (⟨v3.W, v3.H, v3.Dots.set v4.toNat (qZz t0)⟩ : S_Grid)
abbrev qZ16 := [fmA 15050 4 1 eB (v3.Dots.set v4.toNat (qZz t0))]
abbrev qZ17 : List AV := [.int .i64 v2.W, .int .i64 v2.H, slA (eL eB) v2.Dots]
abbrev qZ18 : List AV := [.int .i64 0, .int .i64 0, .im (.val (.slice none 0 0))]
abbrev qZ19 : List AV := [.int .i64 v3.W, .int .i64 v3.H, .rsl 5050 0 0 ((v3.Dots.set v4.toNat (qZz t0)).length)]
abbrev qZ1a := [fmA 15050 4 1 eB v3.Dots]
abbrev qZ1b : List AV := [.int .i64 v3.W, .int .i64 v3.H, .rsl 5050 0 0 v3.Dots.length]
abbrev qZ1c := (⟨(0 : Int), (0 : Int), []⟩ : S_Grid)
abbrev qZ1d := [fmA 10016 4 1 eB (qZ11 t1)]
abbrev qZ1e : Nat × AV := (4, .ref 4 0 0)
abbrev qZh : Env := [(qZ12 t0), qZ1e, (5, .ref 5 0 0), (qZ13 t1), (19, .int .i64 v4)]
abbrev qZi : Env := [(1, .int .i64 (if (200 : Int) < (if (0 : Int) > t1 then (0 : Int) else t1) then (200 : Int) else (if (0 : Int) > t1 then (0 : Int) else t1))), (qZ12 t0), qZ1e]
abbrev qZj : Hp := [(4, ⟨0, true, 96, 3, qZ18⟩), (5, ⟨0, true, 96, 3, [.int .i64 (if (200 : Int) < (if (0 : Int) > t0 then (0 : Int) else t0) then (200 : Int) else (if (0 : Int) > t0 then (0 : Int) else t0)), .int .i64 (if (200 : Int) < (if (0 : Int) > t1 then (0 : Int) else t1) then (200 : Int) else (if (0 : Int) > t1 then (0 : Int) else t1)), .rsl 5050 0 0 ((qZ11 t1).length)]⟩), (5050, nsA 0 61 15050 (qZ11 t1))]
abbrev qZk : Hp := [(5050, nsA 0 61 15050 (v3.Dots.set v4.toNat (qZz t0))), (4, ⟨0, true, 96, 3, (qZ17 v2)⟩), (5, ⟨0, true, 96, 3, (qZ19 t0 v3 v4)⟩)]
abbrev qZl : Hp := [(4, ⟨0, true, 96, 3, (qZ17 v2)⟩), (5, ⟨0, true, 96, 3, (qZ19 t0 v3 v4)⟩), (5050, nsA 0 61 15050 (v3.Dots.set v4.toNat (qZz t0)))]
abbrev qZm : Hp := [(16, nsA 0 61 10016 (qZ11 t1)), (4, ⟨0, true, 96, 3, qZ18⟩)]
abbrev qZn : Env := (15, .int .i64 (if (200 : Int) < (if (0 : Int) > t1 then (0 : Int) else t1) then (200 : Int) else (if (0 : Int) > t1 then (0 : Int) else t1))) :: (14, .int .i64 (if (200 : Int) < (if (0 : Int) > t1 then (0 : Int) else t1) then (200 : Int) else (if (0 : Int) > t1 then (0 : Int) else t1))) :: (13, .int .i64 (if (200 : Int) < (if (0 : Int) > t0 then (0 : Int) else t0) then (200 : Int) else (if (0 : Int) > t0 then (0 : Int) else t0))) :: (qZi t0 t1)
abbrev qZo : Hp := [(5050, ⟨0, true, 61, 1, putA (nsA 0 61 15050 v3.Dots).cs (0 + v4.toNat * 1) [.rsl 26 0 0 ((qZz t0).length)]⟩), (26, rtA 0 4 1 eB (qZz t0)), (4, ⟨0, true, 96, 3, (qZ17 v2)⟩), (5, ⟨0, true, 96, 3, (qZ19 t0 v3 v4)⟩), (5050, nsA 0 61 15050 v3.Dots)]
abbrev qZp : Hp := [(4, ⟨0, true, 96, 3, (qZ17 v2)⟩), (5, ⟨0, true, 96, 3, (qZ1b v3)⟩), (5050, nsA 0 61 15050 v3.Dots)]
abbrev qZq : Hp := (5, ⟨0, true, 96, 3, (qZ14 t0 t1)⟩) :: (5, ⟨0, true, 96, 3, qZ18⟩) :: (qZm t1)
abbrev qZr : Env := (17, .agg (qZ14 t0 t1)) :: (qZi t0 t1)
abbrev qZs : Env := (27, .ref 5050 0 (0 + v4.toNat * 1)) :: (26, .rsl 26 0 0 ((qZz t0).length)) :: (qZh t0 t1 v4)
abbrev qZt : Hp := [(4, ⟨0, true, 96, 3, [.int .i64 v3.W, .int .i64 v3.H, .rsl 5040 0 0 v3.Dots.length]⟩), (5040, nsA 0 61 15040 v3.Dots)]
abbrev qZu : Env := (16, .rsl 16 0 0 ((qZ11 t1).length)) :: (qZn t0 t1)
abbrev qZv : Hp := (26, rtA 0 4 1 eB (qZz t0)) :: (qZp v2 v3)
abbrev qZw : Hp := [(1000, ⟨0, true, 96, 3, [.int .i64 v3.W, .int .i64 v3.H, .rsl 1500 0 0 v3.Dots.length]⟩), (1500, nsA 0 61 11500 v3.Dots)]
abbrev qZx : Hp := (4, ⟨0, true, 96, 3, (qZ1b v3)⟩) :: (qZp v2 v3)
abbrev qZy : Hp := [(4, ⟨0, true, 96, 3, qZ18⟩)]
end
theorem f_grid_New_own {t0 : Int} {t1 : Int} {r : S_Grid} (H : f_grid_New t0 t1 = some r) : Abs.Spec Tryd.prog 65 [.int .i64 t0, .int .i64 t1] [] (fun x h => x = .agg [.int .i64 r.W, .int .i64 r.H, .rsl 1500 0 0 r.Dots.length] ∧ h = ([(1000, ⟨0, true, 96, 3, [.int .i64 r.W, .int .i64 r.H, .rsl 1500 0 0 r.Dots.length]⟩), (1500, nsA 0 61 11500 r.Dots)] ++ fmsH [fmA 11500 4 1 eB r.Dots])) := by
 refine Spec.of_AW Tryd.func65 rfl (by simp [Tryd.ntmps65]) ?_
 rw [Tryd.ntmps65]
 unfold f_grid_New at H
 change AW _ _ _ [(0, .int .i64 t0), (1, .int .i64 t1)] [] _
 refine AW.regionSeq (OpsW.alloc' rfl rfl rfl 4 rfl (by kernel_rfl : zc Tryd.prog 96 = some [.int .i64 0, .int .i64 0, .slice none 0 0]) (by kernel_rfl) ?_)
 refine OpsW.recast (env' := [qZ1e, (0, .int .i64 t0), (1, .int .i64 t1)]) (h' := qZy) (StC.mk (phi [(4, some 4)]) (.o rfl (.i3 .nil) .nil) rfl (.cons (.r rfl) (.i2 .nil))) ?_
 refine OpsW.nil (AW.regionSeq (OpsW.sg 8 [1, 0, 4] (qZi t0 t1) ?_))
 refine OpsW.nil (AW.regionSeq (OpsW.sg 3 [15, 14, 13, 1, 0, 4] (qZn t0 t1) ?_))
 obtain ⟨g1, H⟩ := G_some H
 refine OpsW.makeR rfl rfl rfl 16 rfl E45 rfl rfl g1 ?_
 refine OpsW.weaken (qZu t0 t1) (Env.le_of_eq (by first | (rw [List.length_replicate]; rfl; done) | (simp only [qZ11, qZ12, qZ18, qZ1e, qZi, qZn, qZu, qZy]; rw [List.length_replicate]; rfl))) ?_
 refine OpsW.recast (env' := (qZu t0 t1)) (h' := ((qZm t1) ++ fmsH (qZ1d t1))) (StC.mkF (hc := ((16, ⟨0, true, 61, 1, zerosA [.slice none 0 0] (if (200 : Int) < (if (0 : Int) > t1 then (0 : Int) else t1) then (200 : Int) else (if (0 : Int) > t1 then (0 : Int) else t1)).toNat⟩) :: qZy)) (fs := []) (hc' := (qZm t1)) (fs' := (qZ1d t1)) rfl [(16, some 16), (4, some 4)] [(10016, .nil)] rfl (.o rfl (nsNilA rfl (by decide) rfl rfl) (.o rfl (.i3 .nil) .nil)) rfl (.cons rfl fmNil .nil) (.cons (.s rfl) (.i5 (.cons (.r rfl) .nil)))) ?_
 refine OpsW.sg 1 [17, 1, 0, 4] (qZr t0 t1) ?_
 change OpsW _ _ _ _ (qZr t0 t1) ((qZm t1) ++ fmsH (qZ1d t1)) _
 refine OpsW.alloc' rfl rfl rfl 5 (free_f rfl) (by kernel_rfl : zc Tryd.prog 96 = some [.int .i64 0, .int .i64 0, .slice none 0 0]) (by kernel_rfl) ?_
 refine OpsW.store rfl rfl rfl rfl trivial trivial rfl rfl rfl (by kernel_rfl) (okCb_sound (by kernel_rfl)) (Nat.le_of_ble_eq_true (by kernel_rfl)) ?_
 change OpsW _ _ _ _ _ ((qZq t0 t1) ++ fmsH (qZ1d t1)) _
 refine OpsW.sg 0 [5, 1, 0, 4] ((5, .ref 5 0 0) :: (qZi t0 t1)) ?_
 refine OpsW.recast (env' := ((5, .ref 5 0 0) :: (qZi t0 t1))) (h' := ((qZj t0 t1) ++ fmsH [fmA 15050 4 1 eB (qZ11 t1)])) (StC.mkF (hc := (qZq t0 t1)) (fs := (qZ1d t1)) (hc' := (qZj t0 t1)) (fs' := [fmA 15050 4 1 eB (qZ11 t1)]) rfl [(4, some 4), (5, some 5), (5050, some 16)] [(15050, .same 10016)] rfl (.o rfl (.i3 .nil) (.o rfl (.i2 (.cons (.s rfl) .nil)) (.o rfl (nsSameA rfl rfl (by decide) rfl rfl rfl) .nil))) rfl (.cons rfl (fmSame rfl) .nil) (.cons (.r rfl) (.i2 (.cons (.r rfl) .nil)))) ?_
 refine OpsW.nil (AW.seq (AW.regionSeq (OpsW.sg 2 [19, 18, 5, 0, 4] [(19, .int .i64 0), (qZ13 t1), (5, .ref 5 0 0), (qZ12 t0), qZ1e] ?_)))
 refine OpsW.nil (AW.block ?_)
 refine AW.iterK (fun loop (s : S_Grid × S_Grid × Int) => f_grid_New_b1 t0 t1 loop s.1 s.2.1 s.2.2) r (fun (s : S_Grid × S_Grid × Int) => [(qZ12 t0), qZ1e, (5, .ref 5 0 0), (qZ13 t1), (19, .int .i64 s.2.2)]) (fun (s : S_Grid × S_Grid × Int) => ([(4, ⟨0, true, 96, 3, [.int .i64 s.1.W, .int .i64 s.1.H, slA (eL eB) s.1.Dots]⟩), (5, ⟨0, true, 96, 3, [.int .i64 s.2.1.W, .int .i64 s.2.1.H, .rsl 5050 0 0 s.2.1.Dots.length]⟩), (5050, nsA 0 61 15050 s.2.1.Dots)] ++ fmsH [fmA 15050 4 1 eB s.2.1.Dots])) ?_ 1000000 (qZ1c, (qZ10 t0 t1), (0 : Int)) H (StC.mkF (hc := (qZj t0 t1)) (fs := [fmA 15050 4 1 eB (qZ11 t1)]) (hc' := [(4, ⟨0, true, 96, 3, [.int .i64 qZ1c.W, .int .i64 qZ1c.H, slA (eL eB) qZ1c.Dots]⟩), (5, ⟨0, true, 96, 3, [.int .i64 (qZ10 t0 t1).W, .int .i64 (qZ10 t0 t1).H, .rsl 5050 0 0 (qZ10 t0 t1).Dots.length]⟩), (5050, nsA 0 61 15050 (qZ10 t0 t1).Dots)]) (fs' := [fmA 15050 4 1 eB (qZ10 t0 t1).Dots]) rfl [(4, some 4), (5, some 5), (5050, some 5050)] [(15050, .same 15050)] rfl (.o rfl (.i2 (.cons .nil .nil)) (.o rfl (.i2 (.cons (.s rfl) .nil)) (.o rfl (nsSameA rfl rfl (by decide) rfl rfl rfl) .nil))) rfl (.cons rfl (fmSame rfl) .nil) (.cons .im (.cons (.r rfl) (.cons (.r rfl) (.i2 .nil)))))
 intro loop5 s H
 obtain ⟨v2, v3, v4⟩ := s
 change f_grid_New_b1 t0 t1 loop5 v2 v3 v4 = some r at H
 unfold f_grid_New_b1 at H
 change AW _ _ _ (qZh t0 t1 v4) ((qZp v2 v3) ++ fmsH (qZ1a v3)) _
 refine AW.regionSeq (OpsW.sg 1 [20, 0, 4, 5, 18, 19] ((20, .bool (decide (v4 < (if (200 : Int) < (if (0 : Int) > t1 then (0 : Int) else t1) then (200 : Int) else (if (0 : Int) > t1 then (0 : Int) else t1))))) :: (qZh t0 t1 v4)) ?_)
 refine OpsW.nil (AW.seq (AW.cond (b := decide (v4 < (if (200 : Int) < (if (0 : Int) > t1 then (0 : Int) else t1) then (200 : Int) else (if (0 : Int) > t1 then (0 : Int) else t1)))) rfl (fun c6 => ?_) (fun c6 => ?_)))
 ·replace H := condT c6 H
  refine AW.skip (AW.seq (AW.block (AW.regionSeq (OpsW.sg 2 [6, 0, 4, 5, 18, 19] ((6, .int .i64 v4) :: (qZh t0 t1 v4)) ?_))))
  refine OpsW.nil (AW.drawG 5 [(4, 26)] Tryd.checked.mixed (by kernel_rfl) (by kernel_rfl) ?_)
  refine DOps.q 4 (by kernel_rfl) ?_
  refine QOps.seg (N := 30) 4 [] ((25, .int .i64 (if (200 : Int) < (if (0 : Int) > t0 then (0 : Int) else t0) then (200 : Int) else (if (0 : Int) > t0 then (0 : Int) else t0))) :: (24, .int .i64 v4) :: (23, .rsl 5050 0 0 v3.Dots.length) :: (22, .ref 5 0 2) :: (6, .int .i64 v4) :: (qZh t0 t1 v4)) (by kernel_rfl) trivial ?_
  refine QOps.nil ?_
  obtain ⟨g7, H⟩ := G_some H
  refine DOps.e 26 rfl rfl (free_f rfl) (by exact fun g hg hb => RStep.makeT (enc := eB) false rfl 26 (hg.trans (free_f rfl)) E61 rfl rfl rfl g7) ?_
  refine DOps.nil ?_
  refine OpsW.sg 0 [26, 24, 23, 0, 4, 5, 18, 19] ((26, .rsl 26 0 0 ((qZz t0).length)) :: (24, .int .i64 v4) :: (23, .rsl 5050 0 0 v3.Dots.length) :: (qZh t0 t1 v4)) ?_
  obtain ⟨g8, H⟩ := G_some H
  refine OpsW.sq 1 [27, 26, 0, 4, 5, 18, 19] [0 ≤ v4 ∧ v4 < (v3.Dots.length : Int)] (qZs t0 t1 v4) ⟨g8, trivial⟩ ?_
  change OpsW _ _ _ _ (qZs t0 t1 v4) ((qZv t0 v2 v3) ++ fmsH (qZ1a v3)) _
  refine OpsW.store rfl rfl rfl rfl trivial trivial rfl rfl rfl (by kernel_rfl) (okCb_sound (by kernel_rfl)) (ns_fit (ltN g8)) ?_
  change OpsW _ _ _ _ (qZs t0 t1 v4) (((5050, ⟨0, true, 61, 1, putA (nsA 0 61 15050 v3.Dots).cs (0 + v4.toNat * 1) [.rsl 26 0 0 ((qZz t0).length)]⟩) :: (qZv t0 v2 v3)) ++ fmsH (qZ1a v3)) _
  refine OpsW.heapEq (h' := ((qZo t0 v2 v3 v4) ++ fmsH (qZ1a v3))) (fun _ => by simp only [List.length_set, qZz, qZ12, qZ13, qZ17, qZ19, qZ1a, qZ1b, qZ1e, qZh, qZo, qZp, qZs, qZv]) ?_
  refine OpsW.recast (env' := ((27, .ref 5050 0 (0 + v4.toNat * 1)) :: (qZh t0 t1 v4))) (h' := ((qZk t0 v2 v3 v4) ++ fmsH (qZ16 t0 v3 v4))) (StC.mkF (hc := (qZo t0 v2 v3 v4)) (fs := (qZ1a v3)) (hc' := (qZk t0 v2 v3 v4)) (fs' := (qZ16 t0 v3 v4)) rfl [(5050, some 5050), (4, some 4), (5, some 5)] [(15050, .put 15050 v4.toNat 26)] rfl (.o rfl (nsPutA rfl rfl (by decide) rfl rfl rfl rfl (ltN g8) (by first | omega | (simp only [qZz, qZ16, qZ1a]; omega)) rfl) (.o rfl (.i3 .nil) (.o rfl (.i2 (.cons (.s rfl) .nil)) .nil))) rfl (.cons rfl (fmPut rfl rfl (ltN g8)) .nil) (.cons (.r rfl) (.cons .im (.cons (.r rfl) (.cons (.r rfl) (.i2 .nil)))))) ?_
  refine OpsW.sg 0 [0, 4, 5, 18, 19] (qZh t0 t1 v4) ?_
  refine OpsW.recast (env' := (qZh t0 t1 v4)) (h' := ((qZl t0 v2 v3 v4) ++ fmsH (qZ16 t0 v3 v4))) (StC.mkF (hc := (qZk t0 v2 v3 v4)) (fs := (qZ16 t0 v3 v4)) (hc' := (qZl t0 v2 v3 v4)) (fs' := (qZ16 t0 v3 v4)) rfl [(4, some 4), (5, some 5), (5050, some 5050)] [(15050, .same 15050)] rfl (.o rfl (.i3 .nil) (.o rfl (.i2 (.cons (.s rfl) .nil)) (.o rfl (nsSameA rfl rfl (by decide) rfl rfl rfl) .nil))) rfl (.cons rfl (fmSame rfl) .nil) (.cons .im (.cons (.r rfl) (.cons (.r rfl) (.i2 .nil))))) ?_
  refine OpsW.nil (AW.region ?_)
  obtain ⟨g9, H⟩ := G_some H
  refine OpsW.sq 2 [19, 0, 4, 5, 18] [inR (v4 + 1)] [(19, .int .i64 (v4 + 1)), (qZ12 t0), qZ1e, (5, .ref 5 0 0), (qZ13 t1)] ⟨g9, trivial⟩ ?_
  refine OpsW.nil ?_
  show ∃ y, _ ∧ StC _ _ _ _
  exact ⟨(v2, (qZ15 t0 v3 v4), v4 + 1), H, (StC.mkF (hc := (qZl t0 v2 v3 v4)) (fs := (qZ16 t0 v3 v4)) (hc' := [(4, ⟨0, true, 96, 3, (qZ17 v2)⟩), (5, ⟨0, true, 96, 3, [.int .i64 (qZ15 t0 v3 v4).W, .int .i64 (qZ15 t0 v3 v4).H, .rsl 5050 0 0 (qZ15 t0 v3 v4).Dots.length]⟩), (5050, nsA 0 61 15050 (qZ15 t0 v3 v4).Dots)]) (fs' := [fmA 15050 4 1 eB (qZ15 t0 v3 v4).Dots]) rfl [(4, some 4), (5, some 5), (5050, some 5050)] [(15050, .same 15050)] rfl (.o rfl (.i3 .nil) (.o rfl (.i2 (.cons (.s rfl) .nil)) (.o rfl (nsSameA rfl rfl (by decide) rfl rfl rfl) .nil))) rfl (.cons rfl (fmSame rfl) .nil) (.cons .im (.cons (.r rfl) (.cons (.r rfl) (.i2 .nil)))))⟩
 replace H := condF c6 H
 refine AW.exit ?_
 refine AW.regionSeq (OpsW.sg 1 [29, 4] [(29, .agg (qZ1b v3)), qZ1e] ?_)
 refine OpsW.store rfl rfl rfl rfl trivial trivial rfl rfl rfl (by kernel_rfl) (okCb_sound (by kernel_rfl)) (Nat.le_of_ble_eq_true (by kernel_rfl)) ?_
 change OpsW _ _ _ _ _ ((qZx v2 v3) ++ fmsH (qZ1a v3)) _
 refine OpsW.sg 0 [4] [qZ1e] ?_
 refine OpsW.recast (env' := [qZ1e]) (h' := ((qZt v3) ++ fmsH [fmA 15040 4 1 eB v3.Dots])) (StC.mkF (hc := (qZx v2 v3)) (fs := (qZ1a v3)) (hc' := (qZt v3)) (fs' := [fmA 15040 4 1 eB v3.Dots]) rfl [(4, some 4), (5040, some 5050)] [(15040, .same 15050)] rfl (.o rfl (.i2 (.cons (.s rfl) .nil)) (.o rfl (nsSameA rfl rfl (by decide) rfl rfl rfl) .nil)) rfl (.cons rfl (fmSame rfl) .nil) (.cons (.r rfl) .nil)) ?_
 refine OpsW.nil ?_
 obtain rfl := Option.some.inj H
 refine AW.recast (env' := [(4, .ref 1000 0 0)]) (h' := ((qZw v3) ++ fmsH [fmA 11500 4 1 eB v3.Dots])) (StC.mkF (hc := (qZt v3)) (fs := [fmA 15040 4 1 eB v3.Dots]) (hc' := (qZw v3)) (fs' := [fmA 11500 4 1 eB v3.Dots]) rfl [(1000, some 4), (1500, some 5040)] [(11500, .same 15040)] rfl (.o rfl (.i2 (.cons (.s rfl) .nil)) (.o rfl (nsSameA rfl rfl (by decide) rfl rfl rfl) .nil)) rfl (.cons rfl (fmSame rfl) .nil) (.cons (.r rfl) .nil)) ?_
 refine AW.ret ?_
 refine Done.gen rfl (.cell rfl (by kernel_rfl) .nil) ?_
 exact ⟨by kernel_rfl, rfl⟩
def f_grid_FromCells_b1 (t0 : List (List Int)) (loop5 : (S_Grid × Int) → Option (S_Grid × Int)) (v4 : Int) (loop12 : (S_Grid × Int) → Option (S_Grid × Int)) (v10 : S_Grid) (v11 : Int) : Option (S_Grid × Int) :=
 cond (decide (v11 < ((t0.getD v4.toNat []).length : Int))) (
  G (0 ≤ v11 ∧ v11 < ((t0.getD v4.toNat []).length : Int)) <|
  (f_cell_Valid ((t0.getD v4.toNat []).getD v11.toNat 0)).bind fun x15 =>
  cond (!x15) (
   some ((⟨(0 : Int), (0 : Int), []⟩ : S_Grid), (1 : Int))) (
   G (inR (v11 + 1)) <|
   loop12 (v10, v11 + 1))) (
  G (inR (v4 + 1)) <|
  loop5 (v10, v4 + 1))
def f_grid_FromCells_k1 (loop35 : (S_Grid × S_Grid × Int) → Option (S_Grid × Int)) (v34 : Int) (v37 : S_Grid) (v38 : S_Grid) : Option (S_Grid × Int) :=
 G (inR (v34 + 1)) <|
 loop35 (v37, v38, v34 + 1)
def f_grid_FromCells_b2 (t0 : List (List Int)) (v22 : Int) (loop29 : (S_Grid × S_Grid × Int) → Option (S_Grid × Int)) (v28 : Int) (loop35 : (S_Grid × S_Grid × Int) → Option (S_Grid × Int)) (v32 : S_Grid) (v33 : S_Grid) (v34 : Int) : Option (S_Grid × Int) :=
 cond (decide (v34 < 6)) (
  G (0 ≤ v34) <|
  cond ((bAnd .u8 (bShr .u8 ((t0.getD v22.toNat []).getD v28.toNat 0) v34) (1 : Int)) == 1) (
   G (inR (3 * v22)) <|
   G (0 ≤ v34 ∧ v34 < 6) <|
   G (inR ((3 * v22) + ((tabS_0.getD v34.toNat zS_Point).Y))) <|
   G (0 ≤ ((3 * v22) + ((tabS_0.getD v34.toNat zS_Point).Y)) ∧ ((3 * v22) + ((tabS_0.getD v34.toNat zS_Point).Y)) < (v33.Dots.length : Int)) <|
   G (inR (2 * v28)) <|
   G (inR ((2 * v28) + ((tabS_0.getD v34.toNat zS_Point).X))) <|
   G (0 ≤ ((2 * v28) + ((tabS_0.getD v34.toNat zS_Point).X)) ∧ ((2 * v28) + ((tabS_0.getD v34.toNat zS_Point).X)) < ((v33.Dots.getD ((3 * v22) + ((tabS_0.getD v34.toNat zS_Point).Y)).toNat []).length : Int)) <|
   f_grid_FromCells_k1 loop35 v34 v32 (⟨v33.W, v33.H, v33.Dots.set ((3 * v22) + ((tabS_0.getD v34.toNat zS_Point).Y)).toNat ((v33.Dots.getD ((3 * v22) + ((tabS_0.getD v34.toNat zS_Point).Y)).toNat []).set ((2 * v28) + ((tabS_0.getD v34.toNat zS_Point).X)).toNat true)⟩ : S_Grid)) (
   f_grid_FromCells_k1 loop35 v34 v32 v33)) (
  G (inR (v28 + 1)) <|
  loop29 (v32, v33, v28 + 1))
def f_grid_FromCells_b3 (t0 : List (List Int)) (loop23 : (S_Grid × S_Grid × Int) → Option (S_Grid × Int)) (v22 : Int) (loop29 : (S_Grid × S_Grid × Int) → Option (S_Grid × Int)) (v26 : S_Grid) (v27 : S_Grid) (v28 : Int) : Option (S_Grid × Int) :=
 cond (decide (v28 < ((t0.getD v22.toNat []).length : Int))) (
  G (0 ≤ v28 ∧ v28 < ((t0.getD v22.toNat []).length : Int)) <|
  iter (fun loop (s : S_Grid × S_Grid × Int) => f_grid_FromCells_b2 t0 v22 loop29 v28 loop s.1 s.2.1 s.2.2) 1000000 (v26, v27, (0 : Int))) (
  G (inR (v22 + 1)) <|
  loop23 (v26, v27, v22 + 1))
def f_grid_FromCells_b4 (t0 : List (List Int)) (loop23 : (S_Grid × S_Grid × Int) → Option (S_Grid × Int)) (v20 : S_Grid) (v21 : S_Grid) (v22 : Int) : Option (S_Grid × Int) :=
 cond (decide (v22 < (t0.length : Int))) (
  G (0 ≤ v22 ∧ v22 < (t0.length : Int)) <|
  iter (fun loop (s : S_Grid × S_Grid × Int) => f_grid_FromCells_b3 t0 loop23 v22 loop s.1 s.2.1 s.2.2) 1000000 (v20, v21, (0 : Int))) (
  some (v21, (0 : Int)))
def f_grid_FromCells_b5 (t0 : List (List Int)) (t1 : Int) (t2 : Int) (loop5 : (S_Grid × Int) → Option (S_Grid × Int)) (v3 : S_Grid) (v4 : Int) : Option (S_Grid × Int) :=
 cond (decide (v4 < (t0.length : Int))) (
  G (0 ≤ v4 ∧ v4 < (t0.length : Int)) <|
  G (inR (Int.tdiv t1 (2 : Int))) <|
  cond (decide ((Int.tdiv t1 (2 : Int)) < ((t0.getD v4.toNat []).length : Int))) (
   some ((⟨(0 : Int), (0 : Int), []⟩ : S_Grid), (1 : Int))) (
   iter (fun loop (s : S_Grid × Int) => f_grid_FromCells_b1 t0 loop5 v4 loop s.1 s.2) 1000000 (v3, (0 : Int)))) (
  (f_grid_New t1 t2).bind fun x19 =>
  iter (fun loop (s : S_Grid × S_Grid × Int) => f_grid_FromCells_b4 t0 loop s.1 s.2.1 s.2.2) 1000000 (v3, x19, (0 : Int)))
def f_grid_FromCells (t0 : List (List Int)) (t1 : Int) (t2 : Int) : Option (S_Grid × Int) :=
 G ((!(cond (cond (cond (cond (cond (decide (t1 < 0)) true (decide (200 < t1))) true ((Int.tmod t1 (2 : Int)) != 0)) true (decide (t2 < 0))) true (decide (200 < t2))) true ((Int.tmod t2 (3 : Int)) != 0))) = true → inR (Int.tdiv t2 (3 : Int))) <|
 cond (cond (cond (cond (cond (cond (cond (decide (t1 < 0)) true (decide (200 < t1))) true ((Int.tmod t1 (2 : Int)) != 0)) true (decide (t2 < 0))) true (decide (200 < t2))) true ((Int.tmod t2 (3 : Int)) != 0)) true (decide ((Int.tdiv t2 (3 : Int)) < (t0.length : Int)))) (
  some ((⟨(0 : Int), (0 : Int), []⟩ : S_Grid), (1 : Int))) (
  iter (fun loop (s : S_Grid × Int) => f_grid_FromCells_b5 t0 t1 t2 loop s.1 s.2) 1000000 ((⟨(0 : Int), (0 : Int), []⟩ : S_Grid), (0 : Int)))
section
variable (t0 : List (List Int)) (t1 : Int) (t2 : Int) (v3 : S_Grid) (v4 : Int) (v10 : S_Grid) (v11 : Int) (v20 : S_Grid) (v21 : S_Grid) (v22 : Int) (v26 : S_Grid) (v27 : S_Grid) (v28 : Int) (v32 : S_Grid) (v33 : S_Grid) (v34 : Int) (v37 : S_Grid) (v38 : S_Grid) (x19 : S_Grid)
abbrev qZ2b := (cond (cond (cond (cond (decide (t1 < 0)) true (decide (200 < t1))) true ((Int.tmod t1 (2 : Int)) != 0)) true (decide (t2 < 0))) true (decide (200 < t2)))
abbrev qZ2c := (v33.Dots.getD ((3 * v22) + ((tabS_0.getD v34.toNat zS_Point).Y)).toNat []).set ((2 * v28) + ((tabS_0.getD v34.toNat zS_Point).X)).toNat true
abbrev qZ2d := (3 * v22) + ((tabS_0.getD v34.toNat zS_Point).Y)
abbrev qZ2e := (cond (cond (decide (t1 < 0)) true (decide (200 < t1))) true ((Int.tmod t1 (2 : Int)) != 0))
abbrev qZ2f := (cond (qZ2b t1 t2) true ((Int.tmod t2 (3 : Int)) != 0))
abbrev qZ2g : List AV := [.int .i64 0, .int .i64 0, .im (.val (.slice none 0 0))]
abbrev qZ2h := (⟨v33.W, v33.H, v33.Dots.set (qZ2d v22 v34).toNat (qZ2c v22 v28 v33 v34)⟩ : S_Grid)
abbrev qZ2i := t0.getD v22.toNat []
abbrev qZ2j := cond (decide (t1 < 0)) true (decide (200 < t1))
abbrev qZ2k := [fmA 15120 4 1 eB (v33.Dots.set (qZ2d v22 v34).toNat (qZ2c v22 v28 v33 v34))]
abbrev qZ2l : Nat × AV := (78, .int .i64 (t0.length : Int))
abbrev qZ2m := tabS_0.getD v34.toNat zS_Point
abbrev qZ2n : Nat × AV := (6, .ref 6 0 0)
abbrev qZ2o := ((t0.getD v4.toNat []).length : Int)
abbrev qZ2p : Nat × AV := (85, .int .i64 ((qZ2i t0 v22).length : Int))
abbrev qZ2q : Nat × AV := (0, slA (eL (eI .u8)) t0)
abbrev qZ2r : Nat × AV := (77, slA (eL (eI .u8)) t0)
abbrev qZ2s : Nat × AV := (51, .int .i64 (t0.length : Int))
abbrev qZ2t : Nat × AV := (12, .ref 12 0 0)
abbrev qZ2u := [fmA 15120 4 1 eB v33.Dots]
abbrev qZ2v : Nat × AV := (84, slA (eI .u8) (qZ2i t0 v22))
abbrev qZ2w : List AV := [.int .i64 v21.W, .int .i64 v21.H, .rsl 5120 0 0 v21.Dots.length]
abbrev qZ2x := tabS_0.flatMap eS_Point
abbrev qZ2y := (qZ2i t0 v22).getD v28.toNat 0
abbrev qZ2z := t0.getD v4.toNat []
abbrev qZ30 : Nat × AV := (50, slA (eL (eI .u8)) t0)
abbrev qZ31 := fid 15120 (qZ2d v22 v34).toNat
abbrev qZ32 : List AV := [.int .i64 v32.W, .int .i64 v32.H, slA (eL eB) v32.Dots]
abbrev qZ33 := cond (qZ2e t1) true (decide (t2 < 0))
abbrev qZ34 := [fmA 10601 4 1 eB x19.Dots]
abbrev qZ35 := [fmA 15120 4 1 eB v21.Dots]
abbrev qZ36 := [fmA 15120 4 1 eB v27.Dots]
abbrev qZ37 := (2 * v28) + ((qZ2m v34).X)
abbrev qZ38 := (t0.length : Int)
abbrev qZ1q : Hp := [(6, ⟨0, true, 96, 3, [.int .i64 v3.W, .int .i64 v3.H, slA (eL eB) v3.Dots]⟩)]
abbrev qZ39 : Hp := (601, nsA 0 61 10601 x19.Dots) :: (qZ1q v3)
abbrev qZ3a := (bAnd .u8 (bShr .u8 (qZ2y t0 v22 v28) v34) (1 : Int))
abbrev qZ3b : Nat × AV := (13, .int .i64 v22)
abbrev qZ3c := (v33.Dots.getD (qZ2d v22 v34).toNat []).length
abbrev qZ1f : Env := [qZ2n, qZ2t, (qZ3b v22), (15, .int .i64 v28), (16, .int .u8 (qZ2y t0 v22 v28)), (qZ2r t0), (qZ2l t0), (79, .int .i64 v22), (qZ2v t0 v22), (qZ2p t0 v22), (86, .int .i64 v28), (91, .int .i64 v34)]
abbrev qZ1g : Hp := [(6, ⟨0, true, 96, 3, (qZ32 v32)⟩), (12, ⟨0, true, 96, 3, [.int .i64 v33.W, .int .i64 v33.H, .rsl 5120 0 0 ((v33.Dots.set (qZ2d v22 v34).toNat (qZ2c v22 v28 v33 v34)).length)]⟩), (5120, nsA 0 61 15120 (v33.Dots.set (qZ2d v22 v34).toNat (qZ2c v22 v28 v33 v34)))]
abbrev qZ1h : Env := [(qZ2q t0), (1, .int .i64 t1), (2, .int .i64 t2), qZ2n, (qZ30 t0), (qZ2s t0), (52, .int .i64 v4), (62, slA (eI .u8) (qZ2z t0 v4)), (63, .int .i64 (qZ2o t0 v4)), (64, .int .i64 v11)]
abbrev qZ1i : Env := (108, .ref 5120 0 (0 + (qZ2d v22 v34).toNat * 1)) :: (107, .int .i64 (qZ2d v22 v34)) :: (106, .int .i64 ((qZ2m v34).Y)) :: (105, .ipt qZ2x (0 + v34.toNat * 2 + 1)) :: (104, .ipt qZ2x (0 + v34.toNat * 2)) :: (103, .int .i64 v34) :: (102, .int .i64 (3 * v22)) :: (101, .int .i64 v22) :: (100, .rsl 5120 0 0 v33.Dots.length) :: (99, .ref 12 0 2) :: (98, .bool ((qZ3a t0 v22 v28 v34) == 1)) :: (17, .int .i64 v34) :: (qZ1f t0 v22 v28 v34)
abbrev qZ1j : Hp := [(6, ⟨0, true, 96, 3, (qZ32 v32)⟩), (12, ⟨0, true, 96, 3, [.int .i64 v33.W, .int .i64 v33.H, .rsl 5120 0 0 v33.Dots.length]⟩), (5120, nsA 0 61 15120 v33.Dots)]
abbrev qZ1k : Env := [qZ2n, qZ2t, (qZ3b v22), (qZ2r t0), (qZ2l t0), (79, .int .i64 v22), (qZ2v t0 v22), (qZ2p t0 v22), (86, .int .i64 v28)]
abbrev qZ1l : Hp := [(6, ⟨0, true, 96, 3, [.int .i64 v20.W, .int .i64 v20.H, slA (eL eB) v20.Dots]⟩), (12, ⟨0, true, 96, 3, (qZ2w v21)⟩), (5120, nsA 0 61 15120 v21.Dots)]
abbrev qZ1m : Hp := [(6, ⟨0, true, 96, 3, [.int .i64 v26.W, .int .i64 v26.H, slA (eL eB) v26.Dots]⟩), (12, ⟨0, true, 96, 3, [.int .i64 v27.W, .int .i64 v27.H, .rsl 5120 0 0 v27.Dots.length]⟩), (5120, nsA 0 61 15120 v27.Dots)]
abbrev qZ1n : Env := [(qZ2q t0), (1, .int .i64 t1), (2, .int .i64 t2), qZ2n, (qZ30 t0), (qZ2s t0), (52, .int .i64 v4)]
abbrev qZ1o : Env := (116, .int .i64 (qZ37 v28 v34)) :: (109, .rsl (qZ31 v22 v34) 0 0 (qZ3c v22 v33 v34)) :: (qZ1f t0 v22 v28 v34)
abbrev qZ1p : Hp := [(6, ⟨0, true, 96, 3, [.int .i64 v3.W, .int .i64 v3.H, slA (eL eB) v3.Dots]⟩), (12, ⟨0, true, 96, 3, [.int .i64 x19.W, .int .i64 x19.H, .rsl 5120 0 0 x19.Dots.length]⟩), (5120, nsA 0 61 15120 x19.Dots)]
abbrev qZ1r : Env := [qZ2n, qZ2t, (qZ2r t0), (qZ2l t0), (79, .int .i64 v22)]
abbrev qZ1s : Hp := [(6, ⟨0, true, 96, 3, [.int .i64 v37.W, .int .i64 v37.H, slA (eL eB) v37.Dots]⟩), (12, ⟨0, true, 96, 3, [.int .i64 v38.W, .int .i64 v38.H, .rsl 5120 0 0 v38.Dots.length]⟩), (5120, nsA 0 61 15120 v38.Dots)]
abbrev qZ1t : Env := (114, .ipt qZ2x (0 + v34.toNat * 2 + 0)) :: (113, .ipt qZ2x (0 + v34.toNat * 2)) :: (112, .int .i64 v34) :: (111, .int .i64 (2 * v28)) :: (110, .int .i64 v28) :: (109, .rsl (qZ31 v22 v34) 0 0 (qZ3c v22 v33 v34)) :: (qZ1i t0 v22 v28 v33 v34)
abbrev qZ1u : Hp := [(6, ⟨0, true, 96, 3, qZ2g⟩)]
abbrev qZ1v : Hp := [(6, ⟨0, true, 96, 3, [.int .i64 v21.W, .int .i64 v21.H, .rsl 5060 0 0 v21.Dots.length]⟩), (5060, nsA 0 61 15060 v21.Dots)]
abbrev qZ1w : Hp := (12, ⟨0, true, 96, 3, [.int .i64 x19.W, .int .i64 x19.H, .rsl 601 0 0 x19.Dots.length]⟩) :: (12, ⟨0, true, 96, 3, qZ2g⟩) :: (601, nsA 0 61 10601 x19.Dots) :: (qZ1q v3)
abbrev qZ1x : Env := [(75, .int .i64 t2), (74, .int .i64 t1), (qZ2q t0), qZ2n]
abbrev qZ1y : Env := [qZ2n, (qZ2q t0), (1, .int .i64 t1), (2, .int .i64 t2)]
abbrev qZ1z : Env := (117, .ref (qZ31 v22 v34) 0 (0 + (qZ37 v28 v34).toNat * 1)) :: (qZ1o t0 v22 v28 v33 v34)
abbrev qZ20 : Env := [(7, .int .i64 1), qZ2n]
abbrev qZ21 : Hp := [(6, ⟨0, true, 96, 3, [.int .i64 0, .int .i64 0, slA (eL eB) []]⟩)]
abbrev qZ22 : Hp := (1000, ⟨0, true, 96, 3, [.int .i64 x19.W, .int .i64 x19.H, .rsl 1500 0 0 x19.Dots.length]⟩) :: (1500, nsA 0 61 11500 x19.Dots) :: (qZ1q v3)
abbrev qZ23 : Env := (98, .bool ((qZ3a t0 v22 v28 v34) == 1)) :: (17, .int .i64 v34) :: (qZ1f t0 v22 v28 v34)
abbrev qZ24 : List (Nat × FM) := [(15120, .same 15120)]
abbrev qZ25 : Hp := (6, ⟨0, true, 96, 3, (qZ2w v21)⟩) :: (qZ1l v20 v21)
abbrev qZ26 : Env := (16, .int .u8 (qZ2y t0 v22 v28)) :: (15, .int .i64 v28) :: (qZ1k t0 v22 v28)
abbrev qZ27 : Hp := [(6, ⟨0, true, 96, 3, [.int .i64 v10.W, .int .i64 v10.H, slA (eL eB) v10.Dots]⟩)]
abbrev qZ28 : Hp := [(6, ⟨0, true, 96, 3, [.int .i64 v21.W, .int .i64 v21.H, slA (eL eB) v21.Dots]⟩)]
abbrev qZ29 : Env := [qZ2n]
abbrev qZ2a : Env := (76, .agg [.int .i64 x19.W, .int .i64 x19.H, .rsl 601 0 0 x19.Dots.length]) :: (qZ1x t0 t1 t2)
end
theorem f_grid_FromCells_ok  {t0 : List (List Int)} {t1 : Int} {t2 : Int} {r : S_Grid × Int} (H : f_grid_FromCells t0 t1 t2 = some r) : QSpec Tryd.prog 51 [slA (eL (eI .u8)) t0, .int .i64 t1, .int .i64 t2] (.tup [.agg [.int .i64 r.1.W, .int .i64 r.1.H, slA (eL eB) r.1.Dots], .int .i64 r.2]) := by
 refine Spec.of_AW Tryd.func51 rfl (by simp [Tryd.ntmps51]) ?_
 rw [Tryd.ntmps51]
 unfold f_grid_FromCells at H
 change AW _ _ _ [(qZ2q t0), (1, .int .i64 t1), (2, .int .i64 t2)] [] _
 refine AW.regionSeq (OpsW.alloc' rfl rfl rfl 6 rfl (by kernel_rfl : zc Tryd.prog 96 = some [.int .i64 0, .int .i64 0, .slice none 0 0]) (by kernel_rfl) ?_)
 refine OpsW.sg 1 [6, 0, 1, 2] (qZ1y t0 t1 t2) ?_
 refine OpsW.recast (env' := (qZ1y t0 t1 t2)) (h' := qZ1u) (StC.mk (phi [(6, some 6)]) (.o rfl (.i3 .nil) .nil) rfl (.cons (.r rfl) (.i3 .nil))) ?_
 refine OpsW.nil (AW.seq (AW.regionSeq ?_))
 obtain ⟨g1, H⟩ := G_some H
 refine OpsW.sq 31 [48, 6, 0, 1, 2] [(!(decide (t1 < 0))) = true → (!(decide (t1 < 0))) = true, (decide (t1 < 0)) = false → (!(decide (t1 < 0))) = true, (!(qZ2j t1)) = true → (!(qZ2j t1)) = true, (!(qZ2j t1)) = true → (2 : Int) ≠ 0, (!(qZ2j t1)) = true → (!(qZ2j t1)) = true, (qZ2j t1) = false → (!(qZ2j t1)) = true, (!(qZ2e t1)) = true → (!(qZ2e t1)) = true, (qZ2e t1) = false → (!(qZ2e t1)) = true, (!(qZ33 t1 t2)) = true → (!(qZ33 t1 t2)) = true, (qZ33 t1 t2) = false → (!(qZ33 t1 t2)) = true, (!(qZ2b t1 t2)) = true → (!(qZ2b t1 t2)) = true, (!(qZ2b t1 t2)) = true → (3 : Int) ≠ 0, (!(qZ2b t1 t2)) = true → (!(qZ2b t1 t2)) = true, (qZ2b t1 t2) = false → (!(qZ2b t1 t2)) = true, (!(qZ2f t1 t2)) = true → (!(qZ2f t1 t2)) = true, (!(qZ2f t1 t2)) = true → (!(qZ2f t1 t2)) = true, (!(qZ2f t1 t2)) = true → (3 : Int) ≠ 0, (!(qZ2f t1 t2)) = true → inR (Int.tdiv t2 (3 : Int)), (!(qZ2f t1 t2)) = true → (!(qZ2f t1 t2)) = true, (!(qZ2f t1 t2)) = true → (!(qZ2f t1 t2)) = true, (qZ2f t1 t2) = false → (!(qZ2f t1 t2)) = true] ((48, .bool (cond (qZ2f t1 t2) true (decide ((Int.tdiv t2 (3 : Int)) < (qZ38 t0))))) :: (qZ1y t0 t1 t2)) ⟨(fun h => h), (fun h => by first | exact h | (simpa using h) | grind), (fun h => h), (fun _ => by decide), (fun h => h), (fun h => by first | exact h | (simpa using h) | grind), (fun h => h), (fun h => by first | exact h | (simpa using h) | grind), (fun h => h), (fun h => by first | exact h | (simpa using h) | grind), (fun h => h), (fun _ => by decide), (fun h => h), (fun h => by first | exact h | (simpa using h) | grind), (fun h => h), (fun h => h), (fun _ => by decide), g1, (fun h => h), (fun h => h), (fun h => by first | exact h | (simpa using h) | grind), trivial⟩ ?_
 refine OpsW.nil (AW.cond (b := cond (qZ2f t1 t2) true (decide ((Int.tdiv t2 (3 : Int)) < (qZ38 t0)))) rfl (fun c2 => ?_) (fun c2 => ?_))
 ·replace H := condT c2 H
  refine AW.regionSeq (OpsW.sg 1 [49, 6] ((49, .agg qZ2g) :: qZ29) ?_)
  refine OpsW.store rfl rfl rfl rfl trivial trivial rfl rfl rfl (by kernel_rfl) (okCb_sound (by kernel_rfl)) (Nat.le_of_ble_eq_true (by kernel_rfl)) ?_
  change OpsW _ _ _ _ _ ((6, ⟨0, true, 96, 3, qZ2g⟩) :: qZ1u) _
  refine OpsW.sg 1 [7, 6] qZ20 ?_
  refine OpsW.recast (env' := qZ20) (h' := qZ1u) (StC.mk (phi [(6, some 6)]) (.o rfl (.i3 .nil) .nil) rfl (.cons .im (.cons (.r rfl) .nil))) ?_
  refine OpsW.nil ?_
  obtain rfl := Option.some.inj H
  refine AW.recast (env' := [qZ2n, (7, .int .i64 1)]) (h' := qZ21) (StC.mk (phi [(6, some 6)]) (.o rfl (.i2 (.cons .nil .nil)) .nil) rfl (.cons (.r rfl) (.cons .im .nil))) ?_
  refine AW.ret ?_
  try simp only [Ex.then, Ex.inBlock, Ex.noGoto, Ex.jump, reduceIte, Nat.reduceEqDiff, reduceCtorEq]
  refine Done.gen rfl (.cell rfl (by kernel_rfl) (.tmp .nil)) ?_
  show _ = _
  kernel_rfl
 replace H := condF c2 H
 refine AW.skip (AW.seq (AW.regionSeq (OpsW.sg 3 [52, 51, 50, 6, 0, 1, 2] ((52, .int .i64 0) :: (qZ2s t0) :: (qZ30 t0) :: (qZ1y t0 t1 t2)) ?_)))
 refine OpsW.nil (AW.block ?_)
 refine AW.iterK (fun loop (s : S_Grid × Int) => f_grid_FromCells_b5 t0 t1 t2 loop s.1 s.2) r (fun (s : S_Grid × Int) => [(qZ2q t0), (1, .int .i64 t1), (2, .int .i64 t2), qZ2n, (qZ30 t0), (qZ2s t0), (52, .int .i64 s.2)]) (fun (s : S_Grid × Int) => [(6, ⟨0, true, 96, 3, [.int .i64 s.1.W, .int .i64 s.1.H, slA (eL eB) s.1.Dots]⟩)]) ?_ 1000000 ((⟨(0 : Int), (0 : Int), []⟩ : S_Grid), (0 : Int)) H (StC.mk (phi [(6, some 6)]) (.o rfl (.i2 (.cons .nil .nil)) .nil) rfl (.i3 (.cons (.r rfl) (.i3 .nil))))
 intro loop5 s H
 obtain ⟨v3, v4⟩ := s
 change f_grid_FromCells_b5 t0 t1 t2 loop5 v3 v4 = some r at H
 unfold f_grid_FromCells_b5 at H
 change AW _ _ _ (qZ1n t0 t1 t2 v4) (qZ1q v3) _
 refine AW.regionSeq (OpsW.sg 1 [53, 0, 1, 2, 6, 50, 51, 52] ((53, .bool (decide (v4 < (qZ38 t0)))) :: (qZ1n t0 t1 t2 v4)) ?_)
 refine OpsW.nil (AW.seq (AW.cond (b := decide (v4 < (qZ38 t0))) rfl (fun c6 => ?_) (fun c6 => ?_)))
 ·replace H := condT c6 H
  refine AW.skip (AW.seq (AW.block (AW.regionSeq ?_)))
  obtain ⟨g7, H⟩ := G_some H
  refine OpsW.sq 1 [54, 0, 1, 2, 6, 50, 51, 52] [0 ≤ v4 ∧ v4 < (qZ38 t0)] ((54, .ipt (t0.flatMap (eL (eI .u8))) (v4.toNat * 1)) :: (qZ1n t0 t1 t2 v4)) ⟨g7, trivial⟩ ?_
  refine OpsW.asU (slA (eI .u8) (qZ2z t0 v4)) rfl rfl (T.load rfl trivial (by kernel_rfl) (fm_cell0 (eL (eI .u8)) 1 (fun _ => rfl) t0 [] v4.toNat (ltN g7) (fun a => .sl (a.flatMap (eI .u8)) a.length) (fun _ => rfl))) ?_
  refine OpsW.sg 1 [9, 0, 1, 2, 6, 50, 51, 52] ((9, slA (eI .u8) (qZ2z t0 v4)) :: (qZ1n t0 t1 t2 v4)) ?_
  refine OpsW.nil (AW.seq (AW.regionSeq ?_))
  obtain ⟨g8, H⟩ := G_some H
  refine OpsW.sq 5 [60, 9, 0, 1, 2, 6, 50, 51, 52] [(2 : Int) ≠ 0, inR (Int.tdiv t1 (2 : Int))] ((60, .bool (decide ((Int.tdiv t1 (2 : Int)) < (qZ2o t0 v4)))) :: (9, slA (eI .u8) (qZ2z t0 v4)) :: (qZ1n t0 t1 t2 v4)) ⟨(by decide), g8, trivial⟩ ?_
  refine OpsW.nil (AW.cond (b := decide ((Int.tdiv t1 (2 : Int)) < (qZ2o t0 v4))) rfl (fun c9 => ?_) (fun c9 => ?_))
  ·replace H := condT c9 H
   refine AW.regionSeq (OpsW.sg 1 [61, 6] ((61, .agg qZ2g) :: qZ29) ?_)
   refine OpsW.store rfl rfl rfl rfl trivial trivial rfl rfl rfl (by kernel_rfl) (okCb_sound (by kernel_rfl)) (Nat.le_of_ble_eq_true (by kernel_rfl)) ?_
   change OpsW _ _ _ _ _ ((6, ⟨0, true, 96, 3, qZ2g⟩) :: (qZ1q v3)) _
   refine OpsW.sg 1 [7, 6] qZ20 ?_
   refine OpsW.recast (env' := qZ20) (h' := qZ1u) (StC.mk (phi [(6, some 6)]) (.o rfl (.i3 .nil) .nil) rfl (.cons .im (.cons (.r rfl) .nil))) ?_
   refine OpsW.nil ?_
   obtain rfl := Option.some.inj H
   refine AW.recast (env' := [qZ2n, (7, .int .i64 1)]) (h' := qZ21) (StC.mk (phi [(6, some 6)]) (.o rfl (.i2 (.cons .nil .nil)) .nil) rfl (.cons (.r rfl) (.cons .im .nil))) ?_
   refine AW.ret ?_
   try simp only [Ex.then, Ex.inBlock, Ex.noGoto, Ex.jump, reduceIte, Nat.reduceEqDiff, reduceCtorEq]
   refine Done.gen rfl (.cell rfl (by kernel_rfl) (.tmp .nil)) ?_
   show _ = _
   kernel_rfl
  replace H := condF c9 H
  refine AW.skip (AW.regionSeq (OpsW.sg 3 [64, 63, 62, 0, 1, 2, 6, 50, 51, 52] ((64, .int .i64 0) :: (63, .int .i64 (qZ2o t0 v4)) :: (62, slA (eI .u8) (qZ2z t0 v4)) :: (qZ1n t0 t1 t2 v4)) ?_))
  refine OpsW.nil (AW.block ?_)
  refine AW.iterK (fun loop (s : S_Grid × Int) => f_grid_FromCells_b1 t0 loop5 v4 loop s.1 s.2) r (fun (s : S_Grid × Int) => [(qZ2q t0), (1, .int .i64 t1), (2, .int .i64 t2), qZ2n, (qZ30 t0), (qZ2s t0), (52, .int .i64 v4), (62, slA (eI .u8) (qZ2z t0 v4)), (63, .int .i64 (qZ2o t0 v4)), (64, .int .i64 s.2)]) (fun (s : S_Grid × Int) => [(6, ⟨0, true, 96, 3, [.int .i64 s.1.W, .int .i64 s.1.H, slA (eL eB) s.1.Dots]⟩)]) ?_ 1000000 (v3, (0 : Int)) H (StC.mk (phi [(6, some 6)]) (.o rfl (.i3 .nil) .nil) rfl (.i3 (.cons (.r rfl) (.i6 .nil))))
  intro loop12 s H
  obtain ⟨v10, v11⟩ := s
  change f_grid_FromCells_b1 t0 loop5 v4 loop12 v10 v11 = some r at H
  unfold f_grid_FromCells_b1 at H
  change AW _ _ _ (qZ1h t0 t1 t2 v4 v11) (qZ27 v10) _
  refine AW.regionSeq (OpsW.sg 1 [65, 0, 1, 2, 6, 50, 51, 52, 62, 63, 64] ((65, .bool (decide (v11 < (qZ2o t0 v4)))) :: (qZ1h t0 t1 t2 v4 v11)) ?_)
  refine OpsW.nil (AW.seq (AW.cond (b := decide (v11 < (qZ2o t0 v4))) rfl (fun c13 => ?_) (fun c13 => ?_)))
  ·replace H := condT c13 H
   refine AW.skip (AW.seq (AW.block (AW.regionSeq ?_)))
   obtain ⟨g14, H⟩ := G_some H
   refine OpsW.sq 1 [66, 0, 1, 2, 6, 50, 51, 52, 62, 63, 64] [0 ≤ v11 ∧ v11 < (qZ2o t0 v4)] ((66, .ipt ((qZ2z t0 v4).flatMap (eI .u8)) (v11.toNat * 1)) :: (qZ1h t0 t1 t2 v4 v11)) ⟨g14, trivial⟩ ?_
   refine OpsW.asU (.int .u8 ((qZ2z t0 v4).getD v11.toNat 0)) rfl rfl (T.load rfl trivial (by kernel_rfl) (fm_cell0 (eI .u8) 1 (fun _ => rfl) (qZ2z t0 v4) (0 : Int) v11.toNat (ltN g14) (fun a => .val (.int .u8 a)) (fun _ => rfl))) ?_
   refine OpsW.sg 1 [11, 0, 1, 2, 6, 50, 51, 52, 62, 63, 64] ((11, .int .u8 ((qZ2z t0 v4).getD v11.toNat 0)) :: (qZ1h t0 t1 t2 v4 v11)) ?_
   refine OpsW.nil (AW.regionSeq (OpsW.sg 1 [68, 0, 1, 2, 6, 50, 51, 52, 62, 63, 64] ((68, .int .u8 ((qZ2z t0 v4).getD v11.toNat 0)) :: (qZ1h t0 t1 t2 v4 v11)) ?_))
   obtain ⟨x15, hx15, H⟩ := bindS H
   refine OpsW.qcall rfl (by kernel_rfl) rfl rfl (glAll_sound trivial) (.cons (.pur rfl) .nil) (f_cell_Valid_ok hx15) rfl ?_
   refine OpsW.sg 1 [70, 0, 1, 2, 6, 50, 51, 52, 62, 63, 64] ((70, .bool (!x15)) :: (qZ1h t0 t1 t2 v4 v11)) ?_
   refine OpsW.nil (AW.cond (b := !x15) rfl (fun c16 => ?_) (fun c16 => ?_))
   ·replace H := condT c16 H
    refine AW.regionSeq (OpsW.sg 1 [71, 6] ((71, .agg qZ2g) :: qZ29) ?_)
    refine OpsW.store rfl rfl rfl rfl trivial trivial rfl rfl rfl (by kernel_rfl) (okCb_sound (by kernel_rfl)) (Nat.le_of_ble_eq_true (by kernel_rfl)) ?_
    change OpsW _ _ _ _ _ ((6, ⟨0, true, 96, 3, qZ2g⟩) :: (qZ27 v10)) _
    refine OpsW.sg 1 [7, 6] qZ20 ?_
    refine OpsW.recast (env' := qZ20) (h' := qZ1u) (StC.mk (phi [(6, some 6)]) (.o rfl (.i3 .nil) .nil) rfl (.cons .im (.cons (.r rfl) .nil))) ?_
    refine OpsW.nil ?_
    obtain rfl := Option.some.inj H
    refine AW.recast (env' := [qZ2n, (7, .int .i64 1)]) (h' := qZ21) (StC.mk (phi [(6, some 6)]) (.o rfl (.i2 (.cons .nil .nil)) .nil) rfl (.cons (.r rfl) (.cons .im .nil))) ?_
    refine AW.ret ?_
    try simp only [Ex.then, Ex.inBlock, Ex.noGoto, Ex.jump, reduceIte, Nat.reduceEqDiff, reduceCtorEq]
    refine Done.gen rfl (.cell rfl (by kernel_rfl) (.tmp .nil)) ?_
    show _ = _
    kernel_rfl
   replace H := condF c16 H
   refine AW.skip (AW.region ?_)
   obtain ⟨g17, H⟩ := G_some H
   refine OpsW.sq 2 [64, 0, 1, 2, 6, 50, 51, 52, 62, 63] [inR (v11 + 1)] [(64, .int .i64 (v11 + 1)), (qZ2q t0), (1, .int .i64 t1), (2, .int .i64 t2), qZ2n, (qZ30 t0), (qZ2s t0), (52, .int .i64 v4), (62, slA (eI .u8) (qZ2z t0 v4)), (63, .int .i64 (qZ2o t0 v4))] ⟨g17, trivial⟩ ?_
   refine OpsW.nil ?_
   show ∃ y, _ ∧ StC _ _ _ _
   exact ⟨(v10, v11 + 1), H, (StC.mk (phi [(6, some 6)]) (.o rfl (.i3 .nil) .nil) rfl (.i3 (.cons (.r rfl) (.i6 .nil))))⟩
  replace H := condF c13 H
  refine AW.exit ?_
  refine AW.region ?_
  obtain ⟨g18, H⟩ := G_some H
  refine OpsW.sq 2 [52, 0, 1, 2, 6, 50, 51] [inR (v4 + 1)] [(52, .int .i64 (v4 + 1)), (qZ2q t0), (1, .int .i64 t1), (2, .int .i64 t2), qZ2n, (qZ30 t0), (qZ2s t0)] ⟨g18, trivial⟩ ?_
  refine OpsW.nil ?_
  show ∃ y, _ ∧ StC _ _ _ _
  exact ⟨(v10, v4 + 1), H, (StC.mk (phi [(6, some 6)]) (.o rfl (.i3 .nil) .nil) rfl (.i3 (.cons (.r rfl) (.i3 .nil))))⟩
 replace H := condF c6 H
 refine AW.exit ?_
 refine AW.regionSeq (OpsW.sg 2 [75, 74, 0, 6] (qZ1x t0 t1 t2) ?_)
 obtain ⟨x19, hx19, H⟩ := bindS H
 refine OpsW.call rfl rfl (by kernel_rfl) [] _ _ rfl (glAll_sound trivial) (.cons (.pur rfl) (.cons (.pur rfl) .nil)) (f_grid_New_own hx19) ?_
 rintro _ _ ⟨rfl, rfl⟩
 refine ⟨(fresh_F0 rfl rfl), .inl rfl, ?_⟩
 refine OpsW.heapEq (heap_mid0 rfl) ?_
 change OpsW _ _ _ _ ((76, .agg [.int .i64 x19.W, .int .i64 x19.H, .rsl 1500 0 0 x19.Dots.length]) :: (qZ1x t0 t1 t2)) ((qZ22 v3 x19) ++ fmsH [fmA 11500 4 1 eB x19.Dots]) _
 refine OpsW.recast (env' := (qZ2a t0 t1 t2 x19)) (h' := ((qZ39 v3 x19) ++ fmsH (qZ34 x19))) (StC.mkF (hc := (qZ22 v3 x19)) (fs := [fmA 11500 4 1 eB x19.Dots]) (hc' := (qZ39 v3 x19)) (fs' := (qZ34 x19)) rfl [(601, some 1500), (6, some 6)] [(10601, .same 11500)] rfl (.o rfl (nsSameA rfl rfl (by decide) rfl rfl rfl) (.o rfl (.i3 .nil) .nil)) rfl (.cons rfl (fmSame rfl) .nil) (.cons (.agg (.i2 (.cons (.s rfl) .nil))) (.i3 (.cons (.r rfl) .nil)))) ?_
 change OpsW _ _ _ _ (qZ2a t0 t1 t2 x19) ((qZ39 v3 x19) ++ fmsH (qZ34 x19)) _
 refine OpsW.alloc' rfl rfl rfl 12 (free_f rfl) (by kernel_rfl : zc Tryd.prog 96 = some [.int .i64 0, .int .i64 0, .slice none 0 0]) (by kernel_rfl) ?_
 refine OpsW.store rfl rfl rfl rfl trivial trivial rfl rfl rfl (by kernel_rfl) (okCb_sound (by kernel_rfl)) (Nat.le_of_ble_eq_true (by kernel_rfl)) ?_
 change OpsW _ _ _ _ _ ((qZ1w v3 x19) ++ fmsH (qZ34 x19)) _
 refine OpsW.sg 0 [12, 0, 6] (qZ2t :: (qZ2q t0) :: qZ29) ?_
 refine OpsW.recast (env' := (qZ2t :: (qZ2q t0) :: qZ29)) (h' := ((qZ1p v3 x19) ++ fmsH [fmA 15120 4 1 eB x19.Dots])) (StC.mkF (hc := (qZ1w v3 x19)) (fs := (qZ34 x19)) (hc' := (qZ1p v3 x19)) (fs' := [fmA 15120 4 1 eB x19.Dots]) rfl [(6, some 6), (12, some 12), (5120, some 601)] [(15120, .same 10601)] rfl (.o rfl (.i3 .nil) (.o rfl (.i2 (.cons (.s rfl) .nil)) (.o rfl (nsSameA rfl rfl (by decide) rfl rfl rfl) .nil))) rfl (.cons rfl (fmSame rfl) .nil) (.cons (.r rfl) (.cons .im (.cons (.r rfl) .nil)))) ?_
 refine OpsW.nil (AW.seq (AW.regionSeq (OpsW.sg 3 [79, 78, 77, 12, 6] ((79, .int .i64 0) :: (qZ2l t0) :: (qZ2r t0) :: qZ2t :: qZ29) ?_)))
 refine OpsW.nil (AW.block ?_)
 refine AW.iterK (fun loop (s : S_Grid × S_Grid × Int) => f_grid_FromCells_b4 t0 loop s.1 s.2.1 s.2.2) r (fun (s : S_Grid × S_Grid × Int) => [qZ2n, qZ2t, (qZ2r t0), (qZ2l t0), (79, .int .i64 s.2.2)]) (fun (s : S_Grid × S_Grid × Int) => ([(6, ⟨0, true, 96, 3, [.int .i64 s.1.W, .int .i64 s.1.H, slA (eL eB) s.1.Dots]⟩), (12, ⟨0, true, 96, 3, [.int .i64 s.2.1.W, .int .i64 s.2.1.H, .rsl 5120 0 0 s.2.1.Dots.length]⟩), (5120, nsA 0 61 15120 s.2.1.Dots)] ++ fmsH [fmA 15120 4 1 eB s.2.1.Dots])) ?_ 1000000 (v3, x19, (0 : Int)) H (StC.mkF (hc := (qZ1p v3 x19)) (fs := [fmA 15120 4 1 eB x19.Dots]) (hc' := (qZ1p v3 x19)) (fs' := [fmA 15120 4 1 eB x19.Dots]) rfl [(6, some 6), (12, some 12), (5120, some 5120)] qZ24 rfl (.o rfl (.i3 .nil) (.o rfl (.i2 (.cons (.s rfl) .nil)) (.o rfl (nsSameA rfl rfl (by decide) rfl rfl rfl) .nil))) rfl (.cons rfl (fmSame rfl) .nil) (.cons (.r rfl) (.cons (.r rfl) (.i3 .nil))))
 intro loop23 s H
 obtain ⟨v20, v21, v22⟩ := s
 change f_grid_FromCells_b4 t0 loop23 v20 v21 v22 = some r at H
 unfold f_grid_FromCells_b4 at H
 change AW _ _ _ (qZ1r t0 v22) ((qZ1l v20 v21) ++ fmsH (qZ35 v21)) _
 refine AW.regionSeq (OpsW.sg 1 [80, 6, 12, 77, 78, 79] ((80, .bool (decide (v22 < (qZ38 t0)))) :: (qZ1r t0 v22)) ?_)
 refine OpsW.nil (AW.seq (AW.cond (b := decide (v22 < (qZ38 t0))) rfl (fun c24 => ?_) (fun c24 => ?_)))
 ·replace H := condT c24 H
  refine AW.skip (AW.seq (AW.block (AW.regionSeq ?_)))
  obtain ⟨g25, H⟩ := G_some H
  refine OpsW.sq 2 [82, 81, 6, 12, 77, 78, 79] [0 ≤ v22 ∧ v22 < (qZ38 t0)] ((82, .ipt (t0.flatMap (eL (eI .u8))) (v22.toNat * 1)) :: (81, .int .i64 v22) :: (qZ1r t0 v22)) ⟨g25, trivial⟩ ?_
  refine OpsW.asU (slA (eI .u8) (qZ2i t0 v22)) rfl rfl (T.load rfl trivial (by kernel_rfl) (fm_cell0 (eL (eI .u8)) 1 (fun _ => rfl) t0 [] v22.toNat (ltN g25) (fun a => .sl (a.flatMap (eI .u8)) a.length) (fun _ => rfl))) ?_
  refine OpsW.sg 2 [14, 13, 6, 12, 77, 78, 79] ((14, slA (eI .u8) (qZ2i t0 v22)) :: (qZ3b v22) :: (qZ1r t0 v22)) ?_
  refine OpsW.nil (AW.regionSeq (OpsW.sg 3 [86, 85, 84, 13, 6, 12, 77, 78, 79] ((86, .int .i64 0) :: (qZ2p t0 v22) :: (qZ2v t0 v22) :: (qZ3b v22) :: (qZ1r t0 v22)) ?_))
  refine OpsW.nil (AW.block ?_)
  refine AW.iterK (fun loop (s : S_Grid × S_Grid × Int) => f_grid_FromCells_b3 t0 loop23 v22 loop s.1 s.2.1 s.2.2) r (fun (s : S_Grid × S_Grid × Int) => [qZ2n, qZ2t, (qZ3b v22), (qZ2r t0), (qZ2l t0), (79, .int .i64 v22), (qZ2v t0 v22), (qZ2p t0 v22), (86, .int .i64 s.2.2)]) (fun (s : S_Grid × S_Grid × Int) => ([(6, ⟨0, true, 96, 3, [.int .i64 s.1.W, .int .i64 s.1.H, slA (eL eB) s.1.Dots]⟩), (12, ⟨0, true, 96, 3, [.int .i64 s.2.1.W, .int .i64 s.2.1.H, .rsl 5120 0 0 s.2.1.Dots.length]⟩), (5120, nsA 0 61 15120 s.2.1.Dots)] ++ fmsH [fmA 15120 4 1 eB s.2.1.Dots])) ?_ 1000000 (v20, v21, (0 : Int)) H (StC.mkF (hc := (qZ1l v20 v21)) (fs := (qZ35 v21)) (hc' := (qZ1l v20 v21)) (fs' := (qZ35 v21)) rfl [(6, some 6), (12, some 12), (5120, some 5120)] qZ24 rfl (.o rfl (.i3 .nil) (.o rfl (.i2 (.cons (.s rfl) .nil)) (.o rfl (nsSameA rfl rfl (by decide) rfl rfl rfl) .nil))) rfl (.cons rfl (fmSame rfl) .nil) (.cons (.r rfl) (.cons (.r rfl) (.i7 .nil))))
  intro loop29 s H
  obtain ⟨v26, v27, v28⟩ := s
  change f_grid_FromCells_b3 t0 loop23 v22 loop29 v26 v27 v28 = some r at H
  unfold f_grid_FromCells_b3 at H
  change AW _ _ _ (qZ1k t0 v22 v28) ((qZ1m v26 v27) ++ fmsH (qZ36 v27)) _
  refine AW.regionSeq (OpsW.sg 1 [87, 6, 12, 13, 77, 78, 79, 84, 85, 86] ((87, .bool (decide (v28 < ((qZ2i t0 v22).length : Int)))) :: (qZ1k t0 v22 v28)) ?_)
  refine OpsW.nil (AW.seq (AW.cond (b := decide (v28 < ((qZ2i t0 v22).length : Int))) rfl (fun c30 => ?_) (fun c30 => ?_)))
  ·replace H := condT c30 H
   refine AW.skip (AW.seq (AW.block (AW.regionSeq ?_)))
   obtain ⟨g31, H⟩ := G_some H
   refine OpsW.sq 2 [89, 88, 6, 12, 13, 77, 78, 79, 84, 85, 86] [0 ≤ v28 ∧ v28 < ((qZ2i t0 v22).length : Int)] ((89, .ipt ((qZ2i t0 v22).flatMap (eI .u8)) (v28.toNat * 1)) :: (88, .int .i64 v28) :: (qZ1k t0 v22 v28)) ⟨g31, trivial⟩ ?_
   refine OpsW.asU (.int .u8 (qZ2y t0 v22 v28)) rfl rfl (T.load rfl trivial (by kernel_rfl) (fm_cell0 (eI .u8) 1 (fun _ => rfl) (qZ2i t0 v22) (0 : Int) v28.toNat (ltN g31) (fun a => .val (.int .u8 a)) (fun _ => rfl))) ?_
   refine OpsW.sg 2 [16, 15, 6, 12, 13, 77, 78, 79, 84, 85, 86] (qZ26 t0 v22 v28) ?_
   refine OpsW.nil (AW.regionSeq (OpsW.sg 1 [91, 16, 15, 6, 12, 13, 77, 78, 79, 84, 85, 86] ((91, .int .i64 0) :: (qZ26 t0 v22 v28)) ?_))
   refine OpsW.nil (AW.block ?_)
   refine AW.iterK (fun loop (s : S_Grid × S_Grid × Int) => f_grid_FromCells_b2 t0 v22 loop29 v28 loop s.1 s.2.1 s.2.2) r (fun (s : S_Grid × S_Grid × Int) => [qZ2n, qZ2t, (qZ3b v22), (15, .int .i64 v28), (16, .int .u8 (qZ2y t0 v22 v28)), (qZ2r t0), (qZ2l t0), (79, .int .i64 v22), (qZ2v t0 v22), (qZ2p t0 v22), (86, .int .i64 v28), (91, .int .i64 s.2.2)]) (fun (s : S_Grid × S_Grid × Int) => ([(6, ⟨0, true, 96, 3, [.int .i64 s.1.W, .int .i64 s.1.H, slA (eL eB) s.1.Dots]⟩), (12, ⟨0, true, 96, 3, [.int .i64 s.2.1.W, .int .i64 s.2.1.H, .rsl 5120 0 0 s.2.1.Dots.length]⟩), (5120, nsA 0 61 15120 s.2.1.Dots)] ++ fmsH [fmA 15120 4 1 eB s.2.1.Dots])) ?_ 1000000 (v26, v27, (0 : Int)) H (StC.mkF (hc := (qZ1m v26 v27)) (fs := (qZ36 v27)) (hc' := (qZ1m v26 v27)) (fs' := (qZ36 v27)) rfl [(6, some 6), (12, some 12), (5120, some 5120)] qZ24 rfl (.o rfl (.i3 .nil) (.o rfl (.i2 (.cons (.s rfl) .nil)) (.o rfl (nsSameA rfl rfl (by decide) rfl rfl rfl) .nil))) rfl (.cons rfl (fmSame rfl) .nil) (.cons (.r rfl) (.cons (.r rfl) (.i9 (.cons .im .nil)))))
   intro loop35 s H
   obtain ⟨v32, v33, v34⟩ := s
   change f_grid_FromCells_b2 t0 v22 loop29 v28 loop35 v32 v33 v34 = some r at H
   unfold f_grid_FromCells_b2 at H
   change AW _ _ _ (qZ1f t0 v22 v28 v34) ((qZ1j v32 v33) ++ fmsH (qZ2u v33)) _
   refine AW.regionSeq (OpsW.sg 1 [92, 6, 12, 13, 15, 16, 77, 78, 79, 84, 85, 86, 91] ((92, .bool (decide (v34 < 6))) :: (qZ1f t0 v22 v28 v34)) ?_)
   refine OpsW.nil (AW.seq (AW.cond (b := decide (v34 < 6)) rfl (fun c36 => ?_) (fun c36 => ?_)))
   ·replace H := condT c36 H
    refine AW.skip ?_
    refine AW.joinK (fun (y : S_Grid × S_Grid) => f_grid_FromCells_k1 loop35 v34 y.1 y.2) r (fun (y : S_Grid × S_Grid) => (qZ1f t0 v22 v28 v34)) (fun (y : S_Grid × S_Grid) => ([(6, ⟨0, true, 96, 3, [.int .i64 y.1.W, .int .i64 y.1.H, slA (eL eB) y.1.Dots]⟩), (12, ⟨0, true, 96, 3, [.int .i64 y.2.W, .int .i64 y.2.H, .rsl 5120 0 0 y.2.Dots.length]⟩), (5120, nsA 0 61 15120 y.2.Dots)] ++ fmsH [fmA 15120 4 1 eB y.2.Dots])) ?_ ?_
    ·refine AW.block (AW.regionSeq (OpsW.sg 2 [17, 6, 12, 13, 15, 16, 77, 78, 79, 84, 85, 86, 91] ((17, .int .i64 v34) :: (qZ1f t0 v22 v28 v34)) ?_))
     refine OpsW.nil (AW.regionSeq ?_)
     obtain ⟨g40, H⟩ := G_some H
     refine OpsW.sq 5 [98, 17, 6, 12, 13, 15, 16, 77, 78, 79, 84, 85, 86, 91] [0 ≤ v34] (qZ23 t0 v22 v28 v34) ⟨g40, trivial⟩ ?_
     refine OpsW.nil (AW.cond (b := (qZ3a t0 v22 v28 v34) == 1) rfl (fun c41 => ?_) (fun c41 => ?_))
     ·replace H := condT c41 H
      refine AW.drawT 18 Tryd.checked.mixed (by kernel_rfl) ?_
      obtain ⟨g42, H⟩ := G_some H
      obtain ⟨g43, H⟩ := G_some H
      refine QOps.seg (N := 122) 7 [inR (3 * v22), 0 ≤ v34 ∧ v34 < 6] ((105, .ipt qZ2x (0 + v34.toNat * 2 + 1)) :: (104, .ipt qZ2x (0 + v34.toNat * 2)) :: (103, .int .i64 v34) :: (102, .int .i64 (3 * v22)) :: (101, .int .i64 v22) :: (100, .rsl 5120 0 0 v33.Dots.length) :: (99, .ref 12 0 2) :: (qZ23 t0 v22 v28 v34)) (by kernel_rfl) ⟨g42, g43, trivial⟩ ?_
      refine QOps.asU (.int .i64 ((qZ2m v34).Y)) rfl (T.load rfl trivial (by kernel_rfl) (tabOff2 (fm_cell eS_Point 2 (fun _ => rfl) tabS_0 zS_Point v34.toNat (ltA (n := 6) g43 rfl) 1 (fun a => .val (.int .i64 a.Y)) (fun _ => rfl)))) ?_
      obtain ⟨g44, H⟩ := G_some H
      obtain ⟨g45, H⟩ := G_some H
      refine QOps.seg (N := 122) 2 [inR (qZ2d v22 v34), 0 ≤ (qZ2d v22 v34) ∧ (qZ2d v22 v34) < (v33.Dots.length : Int)] (qZ1i t0 v22 v28 v33 v34) (by kernel_rfl) ⟨g44, g45, trivial⟩ ?_
      refine QOps.asU (.rsl (qZ31 v22 v34) 0 0 (qZ3c v22 v33 v34)) rfl (T.loadR rfl trivial (by kernel_rfl) rfl rfl rfl (ns_cell (ltN g45) (by first | omega | (simp only [qZ2d, qZ2i, qZ2m, qZ2x, qZ2y, qZ31, qZ3a, qZ3c]; omega)))) ?_
      obtain ⟨g46, H⟩ := G_some H
      refine QOps.seg (N := 122) 5 [inR (2 * v28), 0 ≤ v34 ∧ v34 < 6] (qZ1t t0 v22 v28 v33 v34) (by kernel_rfl) ⟨g46, g43, trivial⟩ ?_
      refine QOps.asU (.int .i64 ((qZ2m v34).X)) rfl (T.load rfl trivial (by kernel_rfl) (tabOff2 (fm_cell eS_Point 2 (fun _ => rfl) tabS_0 zS_Point v34.toNat (ltA (n := 6) g43 rfl) 0 (fun a => .val (.int .i64 a.X)) (fun _ => rfl)))) ?_
      obtain ⟨g47, H⟩ := G_some H
      refine QOps.seg (N := 122) 1 [inR (qZ37 v28 v34)] ((116, .int .i64 (qZ37 v28 v34)) :: (115, .int .i64 ((qZ2m v34).X)) :: (qZ1t t0 v22 v28 v33 v34)) (by kernel_rfl) ⟨g47, trivial⟩ ?_
      refine QOps.nil (OpsW.sg 0 [116, 109, 6, 12, 13, 15, 16, 77, 78, 79, 84, 85, 86, 91] (qZ1o t0 v22 v28 v33 v34) ?_)
      obtain ⟨g48, H⟩ := G_some H
      change OpsW _ _ _ _ (qZ1o t0 v22 v28 v33 v34) ((qZ1j v32 v33) ++ fmsH (qZ2u v33)) _
      refine OpsW.asU (.ref (qZ31 v22 v34) 0 (0 + (qZ37 v28 v34).toNat * 1)) rfl rfl (T.idxF rfl rfl trivial trivial (by kernel_rfl) (by kernel_rfl) (row_f rfl rfl (ltN g45)) rfl rfl g48) ?_
      change OpsW _ _ _ _ (qZ1z t0 v22 v28 v33 v34) ((qZ1j v32 v33) ++ fmsH (qZ2u v33)) _
      refine OpsW.storeN (enc := eB) (k := 1) (xs := v33.Dots) (hc' := (qZ1g v22 v28 v32 v33 v34)) false true [.val (.bool true)] (qZ2d v22 v34).toNat (qZ37 v28 v34).toNat 0 rfl rfl rfl (by first | rfl | exact congrArg (AV.ref (qZ31 v22 v34) 0) (by first | omega | (simp only [qZ2c, qZ2d, qZ2i, qZ2m, qZ2u, qZ2y, qZ31, qZ37, qZ3c]; omega))) trivial trivial rfl rfl (fun _ => rfl) rfl (by kernel_rfl) (okCb_sound (by kernel_rfl)) (ltN g45) (ltN g48) (Nat.le_of_ble_eq_true (by kernel_rfl)) rfl (by simp only [List.length_set, nsA_set, qZ2c, qZ2d, qZ2i, qZ2l, qZ2m, qZ2n, qZ2p, qZ2r, qZ2t, qZ2u, qZ2v, qZ2y, qZ31, qZ32, qZ37, qZ3b, qZ3c, qZ1f, qZ1g, qZ1j, qZ1o, qZ1z]) ?_
      change OpsW _ _ _ _ (qZ1z t0 v22 v28 v33 v34) ((qZ1g v22 v28 v32 v33 v34) ++ fmsH (qZ2k v22 v28 v33 v34)) _
      refine OpsW.sg 0 [6, 12, 13, 15, 16, 77, 78, 79, 84, 85, 86, 91] (qZ1f t0 v22 v28 v34) ?_
      refine OpsW.recast (env' := (qZ1f t0 v22 v28 v34)) (h' := ((qZ1g v22 v28 v32 v33 v34) ++ fmsH (qZ2k v22 v28 v33 v34))) (StC.mkF (hc := (qZ1g v22 v28 v32 v33 v34)) (fs := (qZ2k v22 v28 v33 v34)) (hc' := (qZ1g v22 v28 v32 v33 v34)) (fs' := (qZ2k v22 v28 v33 v34)) rfl [(6, some 6), (12, some 12), (5120, some 5120)] qZ24 rfl (.o rfl (.i3 .nil) (.o rfl (.i2 (.cons (.s rfl) .nil)) (.o rfl (nsSameA rfl rfl (by decide) rfl rfl rfl) .nil))) rfl (.cons rfl (fmSame rfl) .nil) (.cons (.r rfl) (.cons (.r rfl) (.i9 (.cons .im .nil))))) ?_
      refine OpsW.nil ?_
      show ∃ y, _ ∧ StC _ _ _ _
      exact ⟨(v32, (qZ2h v22 v28 v33 v34)), H, (StC.mkF (hc := (qZ1g v22 v28 v32 v33 v34)) (fs := (qZ2k v22 v28 v33 v34)) (hc' := [(6, ⟨0, true, 96, 3, (qZ32 v32)⟩), (12, ⟨0, true, 96, 3, [.int .i64 (qZ2h v22 v28 v33 v34).W, .int .i64 (qZ2h v22 v28 v33 v34).H, .rsl 5120 0 0 (qZ2h v22 v28 v33 v34).Dots.length]⟩), (5120, nsA 0 61 15120 (qZ2h v22 v28 v33 v34).Dots)]) (fs' := [fmA 15120 4 1 eB (qZ2h v22 v28 v33 v34).Dots]) rfl [(6, some 6), (12, some 12), (5120, some 5120)] qZ24 rfl (.o rfl (.i3 .nil) (.o rfl (.i2 (.cons (.s rfl) .nil)) (.o rfl (nsSameA rfl rfl (by decide) rfl rfl rfl) .nil))) rfl (.cons rfl (fmSame rfl) .nil) (.cons (.r rfl) (.cons (.r rfl) (.i9 (.cons .im .nil)))))⟩
     replace H := condF c41 H
     refine AW.skip ?_
     show ∃ y, _ ∧ StC _ _ _ _
     exact ⟨(v32, v33), H, (StC.mkF (hc := (qZ1j v32 v33)) (fs := (qZ2u v33)) (hc' := (qZ1j v32 v33)) (fs' := (qZ2u v33)) rfl [(6, some 6), (12, some 12), (5120, some 5120)] qZ24 rfl (.o rfl (.i3 .nil) (.o rfl (.i2 (.cons (.s rfl) .nil)) (.o rfl (nsSameA rfl rfl (by decide) rfl rfl rfl) .nil))) rfl (.cons rfl (fmSame rfl) .nil) (.cons (.r rfl) (.cons (.r rfl) (.i9 (.cons .im .nil)))))⟩
    rintro ⟨v37, v38⟩ H
    change f_grid_FromCells_k1 loop35 v34 v37 v38 = some r at H
    unfold f_grid_FromCells_k1 at H
    change AW _ _ _ (qZ1f t0 v22 v28 v34) ((qZ1s v37 v38) ++ fmsH [fmA 15120 4 1 eB v38.Dots]) _
    refine AW.region ?_
    obtain ⟨g39, H⟩ := G_some H
    refine OpsW.sq 2 [91, 6, 12, 13, 15, 16, 77, 78, 79, 84, 85, 86] [inR (v34 + 1)] [(91, .int .i64 (v34 + 1)), qZ2n, qZ2t, (qZ3b v22), (15, .int .i64 v28), (16, .int .u8 (qZ2y t0 v22 v28)), (qZ2r t0), (qZ2l t0), (79, .int .i64 v22), (qZ2v t0 v22), (qZ2p t0 v22), (86, .int .i64 v28)] ⟨g39, trivial⟩ ?_
    refine OpsW.nil ?_
    show ∃ y, _ ∧ StC _ _ _ _
    exact ⟨(v37, v38, v34 + 1), H, (StC.mkF (hc := (qZ1s v37 v38)) (fs := [fmA 15120 4 1 eB v38.Dots]) (hc' := (qZ1s v37 v38)) (fs' := [fmA 15120 4 1 eB v38.Dots]) rfl [(6, some 6), (12, some 12), (5120, some 5120)] qZ24 rfl (.o rfl (.i3 .nil) (.o rfl (.i2 (.cons (.s rfl) .nil)) (.o rfl (nsSameA rfl rfl (by decide) rfl rfl rfl) .nil))) rfl (.cons rfl (fmSame rfl) .nil) (.cons (.r rfl) (.cons (.r rfl) (.i9 (.cons .im .nil)))))⟩
   replace H := condF c36 H
   refine AW.exit ?_
   refine AW.region ?_
   obtain ⟨g49, H⟩ := G_some H
   refine OpsW.sq 2 [86, 6, 12, 13, 77, 78, 79, 84, 85] [inR (v28 + 1)] [(86, .int .i64 (v28 + 1)), qZ2n, qZ2t, (qZ3b v22), (qZ2r t0), (qZ2l t0), (79, .int .i64 v22), (qZ2v t0 v22), (qZ2p t0 v22)] ⟨g49, trivial⟩ ?_
   refine OpsW.nil ?_
   show ∃ y, _ ∧ StC _ _ _ _
   exact ⟨(v32, v33, v28 + 1), H, (StC.mkF (hc := (qZ1j v32 v33)) (fs := (qZ2u v33)) (hc' := (qZ1j v32 v33)) (fs' := (qZ2u v33)) rfl [(6, some 6), (12, some 12), (5120, some 5120)] qZ24 rfl (.o rfl (.i3 .nil) (.o rfl (.i2 (.cons (.s rfl) .nil)) (.o rfl (nsSameA rfl rfl (by decide) rfl rfl rfl) .nil))) rfl (.cons rfl (fmSame rfl) .nil) (.cons (.r rfl) (.cons (.r rfl) (.i7 .nil))))⟩
  replace H := condF c30 H
  refine AW.exit ?_
  refine AW.region ?_
  obtain ⟨g50, H⟩ := G_some H
  refine OpsW.sq 2 [79, 6, 12, 77, 78] [inR (v22 + 1)] [(79, .int .i64 (v22 + 1)), qZ2n, qZ2t, (qZ2r t0), (qZ2l t0)] ⟨g50, trivial⟩ ?_
  refine OpsW.nil ?_
  show ∃ y, _ ∧ StC _ _ _ _
  exact ⟨(v26, v27, v22 + 1), H, (StC.mkF (hc := (qZ1m v26 v27)) (fs := (qZ36 v27)) (hc' := (qZ1m v26 v27)) (fs' := (qZ36 v27)) rfl [(6, some 6), (12, some 12), (5120, some 5120)] qZ24 rfl (.o rfl (.i3 .nil) (.o rfl (.i2 (.cons (.s rfl) .nil)) (.o rfl (nsSameA rfl rfl (by decide) rfl rfl rfl) .nil))) rfl (.cons rfl (fmSame rfl) .nil) (.cons (.r rfl) (.cons (.r rfl) (.i3 .nil))))⟩
 replace H := condF c24 H
 refine AW.exit ?_
 refine AW.regionSeq (OpsW.sg 1 [121, 6] ((121, .agg (qZ2w v21)) :: qZ29) ?_)
 refine OpsW.store rfl rfl rfl rfl trivial trivial rfl rfl rfl (by kernel_rfl) (okCb_sound (by kernel_rfl)) (Nat.le_of_ble_eq_true (by kernel_rfl)) ?_
 change OpsW _ _ _ _ _ ((qZ25 v20 v21) ++ fmsH (qZ35 v21)) _
 refine OpsW.sg 1 [7, 6] ((7, .int .i64 0) :: qZ29) ?_
 refine OpsW.recast (env' := ((7, .int .i64 0) :: qZ29)) (h' := ((qZ1v v21) ++ fmsH [fmA 15060 4 1 eB v21.Dots])) (StC.mkF (hc := (qZ25 v20 v21)) (fs := (qZ35 v21)) (hc' := (qZ1v v21)) (fs' := [fmA 15060 4 1 eB v21.Dots]) rfl [(6, some 6), (5060, some 5120)] [(15060, .same 15120)] rfl (.o rfl (.i2 (.cons (.s rfl) .nil)) (.o rfl (nsSameA rfl rfl (by decide) rfl rfl rfl) .nil)) rfl (.cons rfl (fmSame rfl) .nil) (.cons .im (.cons (.r rfl) .nil))) ?_
 refine OpsW.nil ?_
 obtain rfl := Option.some.inj H
 refine AW.recast (env' := [qZ2n, (7, .int .i64 0)]) (h' := (qZ28 v21)) (StC.mkF (hc := (qZ1v v21)) (fs := [fmA 15060 4 1 eB v21.Dots]) (hc' := (qZ28 v21)) (fs' := []) rfl [(6, some 6)] [] rfl (.o rfl (.i2 (.cons (Cst.frzN rfl rfl (fun _ => rfl) rfl rfl rfl) .nil)) .nil) rfl .nil (.cons (.r rfl) (.cons .im .nil))) ?_
 refine AW.ret ?_
 try simp only [Ex.then, Ex.inBlock, Ex.noGoto, Ex.jump, reduceIte, Nat.reduceEqDiff, reduceCtorEq]
 refine Done.gen rfl (.cell rfl (by kernel_rfl) (.tmp .nil)) ?_
 show _ = _
 kernel_rfl
end Go.Proofs.YtbcfmhoaocifoaaDoor
