/- Own work. -/
import Derived.Test.YtbcfmhoaocifoaaDoorLibG
import Derived.Test.YtbcfmhoaocifoaaDoorChecked
import Derived.Test.YtbcfmhoaocifoaaDoorItoa
import Derived.Test.YtbcfmhoaocifoaaDoorLayP
set_option linter.unusedSimpArgs false
set_option linter.unusedVariables false
set_option maxRecDepth 100000
namespace Go.Proofs.YtbcfmhoaocifoaaDoor
open Go.Abs
structure Y0k where
 Width : Int
 Height : Int
 Binding : Int
 deriving DecidableEq
structure Yk where
 W : Int
 H : Int
 Dots : List (List Bool)
 deriving DecidableEq
structure S_Point where
 X : Int
 Y : Int
 deriving DecidableEq
def eS_Point (x : S_Point) : List IV := [.val (.int .i64 x.X), .val (.int .i64 x.Y)]
def Y0c : S_Point := ⟨(0 : Int), (0 : Int)⟩
structure Y4 where
 W : Int
 H : Int
 Up : List (List Bool)
 Down : List (List Bool)
 deriving DecidableEq
def Y19 (x : Y4) : List IV := [.val (.int .i64 x.W), .val (.int .i64 x.H), .sl (x.Up.flatMap (eL eB)) x.Up.length, .sl (x.Down.flatMap (eL eB)) x.Down.length]
def Y33 : Y4 := ⟨(0 : Int), (0 : Int), [], []⟩
structure Yu where
 N : Int
 K : Int
 deriving DecidableEq
structure Yr where
 Label : Yu
 Front : List (List Int)
 Back : List (List Int)
 deriving DecidableEq
structure Y3 where
 Width : Int
 Label : Yu
 Back : Bool
 Ink : Int
 Part : Int
 deriving DecidableEq
structure S_Raw' where
 Width : Int
 N : Int
 K : Int
 Back : Bool
 Ink : Int
 Part : Int
 deriving DecidableEq
def eS_Raw' (x : S_Raw') : List IV := [.val (.int .u8 x.Width), .val (.int .u16 x.N), .val (.int .u8 x.K), .val (.bool x.Back), .val (.int .u16 x.Ink), .val (.int .u8 x.Part)]
structure S_Raw where
 W : Int
 H : Int
 Front : List (List Int)
 Back : List (List Int)
 Head : S_Raw'
 deriving DecidableEq
def eS_Raw (x : S_Raw) : List IV := [.val (.int .u8 x.W), .val (.int .u8 x.H), .sl (x.Front.flatMap (eL (eI .u8))) x.Front.length, .sl (x.Back.flatMap (eL (eI .u8))) x.Back.length, .val (.int .u8 x.Head.Width), .val (.int .u16 x.Head.N), .val (.int .u8 x.Head.K), .val (.bool x.Head.Back), .val (.int .u16 x.Head.Ink), .val (.int .u8 x.Head.Part)]
def Y26 : List S_Point := [⟨0, 0⟩, ⟨0, 1⟩, ⟨0, 2⟩, ⟨1, 0⟩, ⟨1, 1⟩, ⟨1, 2⟩]
def eA65 (x : List Int) : List IV := [.val (.int .u8 (x.getD 0 (0 : Int))), .val (.int .u8 (x.getD 1 (0 : Int))), .val (.int .u8 (x.getD 2 (0 : Int)))]
theorem E36 : Elem Tryd.prog 36 41 1 24 [.slice none 0 0] := ⟨by kernel_rfl, by kernel_rfl, by kernel_rfl, rfl, rfl, by decide⟩
theorem E37 : Elem Tryd.prog 37 41 1 24 [.slice none 0 0] := ⟨by kernel_rfl, by kernel_rfl, by kernel_rfl, rfl, rfl, by decide⟩
theorem E41 : Elem Tryd.prog 41 42 1 1 [.int .u8 0] := ⟨by kernel_rfl, by kernel_rfl, by kernel_rfl, rfl, rfl, by decide⟩
theorem E45 : Elem Tryd.prog 45 61 1 24 [.slice none 0 0] := ⟨by kernel_rfl, by kernel_rfl, by kernel_rfl, rfl, rfl, by decide⟩
theorem E61 : Elem Tryd.prog 61 4 1 1 [.bool false] := ⟨by kernel_rfl, by kernel_rfl, by kernel_rfl, rfl, rfl, by decide⟩
theorem E71 : Elem Tryd.prog 71 47 4 64 [.int .i64 0, .int .i64 0, .slice none 0 0, .slice none 0 0] := ⟨by kernel_rfl, by kernel_rfl, by kernel_rfl, rfl, rfl, by decide⟩
def f_cell_Valid (t0 : Int) : Option Bool :=
 some (decide (t0 < 64))
theorem f_cell_Valid_ok  {t0 : Int} {r : Bool} (H : f_cell_Valid t0 = some r) : QSpec Tryd.prog 50 [.int .u8 t0] (.bool r) := by
 refine Yj Tryd.func50 rfl (by simp [Tryd.ntmps50]) ?_
 rw [Tryd.ntmps50]
 unfold f_cell_Valid at H
 change AW _ _ _ [(0, .int .u8 t0)] [] _
 refine Y0 (Y2 1 [0] [(0, .int .u8 t0)] ?_)
 refine Y1 (Y0 (Y2 3 [2] [(2, .bool (decide (t0 < 64)))] ?_))
 refine Y1 ?_
 obtain rfl := X1 H
 refine AW.recast (env' := [(2, .bool (decide (t0 < 64)))]) (h' := []) (StC.pure (.cons .im .nil)) (Yl ?_)
 try simp only [Ex.t, Ex.b]
 exact Yh rfl (.tmp .nil)
def f_sheet_fits_b1 (t0 : List (List Int)) (loop3 : (Int) → Option Bool) (v2 : Int) (loop10 : (Int) → Option Bool) (v9 : Int) : Option Bool :=
 cond (decide (v9 < ((t0.getD v2.toNat []).length : Int))) (
  G (0 ≤ v9 ∧ v9 < ((t0.getD v2.toNat []).length : Int)) <|
  (f_cell_Valid ((t0.getD v2.toNat []).getD v9.toNat 0)).bind fun x13 =>
  cond (!x13) (
   some false) (
   G (inR (v9 + 1)) <|
   loop10 (v9 + 1))) (
  G (inR (v2 + 1)) <|
  loop3 (v2 + 1))
def f_sheet_fits_b2 (t0 : List (List Int)) (t1 : Y0k) (loop3 : (Int) → Option Bool) (v2 : Int) : Option Bool :=
 cond (decide (v2 < (t0.length : Int))) (
  G (0 ≤ v2 ∧ v2 < (t0.length : Int)) <|
  G (((!(decide (t1.Width < ((t0.getD v2.toNat []).length : Int)))) && (decide (0 < ((t0.getD v2.toNat []).length : Int)))) = true → inR (((t0.getD v2.toNat []).length : Int) - (1 : Int))) <|
  G (((!(decide (t1.Width < ((t0.getD v2.toNat []).length : Int)))) && (decide (0 < ((t0.getD v2.toNat []).length : Int)))) = true → (0 ≤ (((t0.getD v2.toNat []).length : Int) - (1 : Int)) ∧ (((t0.getD v2.toNat []).length : Int) - (1 : Int)) < ((t0.getD v2.toNat []).length : Int))) <|
  cond (cond (decide (t1.Width < ((t0.getD v2.toNat []).length : Int))) true (cond (decide (0 < ((t0.getD v2.toNat []).length : Int))) (((t0.getD v2.toNat []).getD (((t0.getD v2.toNat []).length : Int) - (1 : Int)).toNat (0 : Int)) == 0) false)) (
   some false) (
   iter (fun loop (s : Int) => f_sheet_fits_b1 t0 loop3 v2 loop s) 1000000 (0 : Int))) (
  G ((!((t0.length : Int) == 0)) = true → inR ((t0.length : Int) - 1)) <|
  G ((!((t0.length : Int) == 0)) = true → (0 ≤ ((t0.length : Int) - 1) ∧ ((t0.length : Int) - 1) < (t0.length : Int))) <|
  some (cond ((t0.length : Int) == 0) true (decide (0 < ((t0.getD ((t0.length : Int) - 1).toNat []).length : Int)))))
def f_sheet_fits (t0 : List (List Int)) (t1 : Y0k) : Option Bool :=
 cond (decide (t1.Height < (t0.length : Int))) (
  some false) (
  iter (fun loop (s : Int) => f_sheet_fits_b2 t0 t1 loop s) 1000000 (0 : Int))
section
variable (t0 : List (List Int)) (t1 : Y0k) (v2 : Int) (v9 : Int)
abbrev Z4 := ((t0.getD v2.toNat []).length : Int)
abbrev Z5 := t0.getD v2.toNat []
abbrev Z6 := (t0.length : Int)
abbrev Z7 := ((Z5 t0 v2).getD ((Z4 t0 v2) - (1 : Int)).toNat (0 : Int))
abbrev Z8 := decide (t1.Width < (Z4 t0 v2))
abbrev Z9 : Nat × AV := (3, .ref 3 0 0)
abbrev Z0 : Env := [(0, sC t0), Z9, (14, sC t0), (15, .j (Z6 t0)), (16, .j v2), (39, sU (Z5 t0 v2)), (40, .j (Z4 t0 v2)), (41, .j v9)]
abbrev Z1 : Env := [(0, sC t0), Z9, (14, sC t0), (15, .j (Z6 t0)), (16, .j v2)]
abbrev Z2 : Hp := [(3, ⟨0, true, 32, 3, [.j t1.Width, .j t1.Height, .j t1.Binding]⟩)]
abbrev Z3 : Env := [(4, .bool (cond ((Z6 t0) == 0) true (decide (0 < ((t0.getD ((Z6 t0) - 1).toNat []).length : Int)))))]
end
theorem f_sheet_fits_ok  {t0 : List (List Int)} {t1 : Y0k} {r : Bool} (H : f_sheet_fits t0 t1 = some r) : QSpec Tryd.prog 30 [slA (eL (eI .u8)) t0, .agg [.int .i64 t1.Width, .int .i64 t1.Height, .int .i64 t1.Binding]] (.bool r) := by
 refine Yj Tryd.func30 rfl (by simp [Tryd.ntmps30]) ?_
 rw [Tryd.ntmps30]
 unfold f_sheet_fits at H
 change AW _ _ _ [(0, sC t0), (1, .agg [.j t1.Width, .j t1.Height, .j t1.Binding])] [] _
 refine Y0 (OpsW.box rfl rfl rfl 3 rfl (Y5 (by kernel_rfl)) ?_)
 change OpsW _ _ _ _ _ (Z2 t1) _
 refine Y2 1 [3, 0] [Z9, (0, sC t0)] ?_
 refine Y1 (Yc (Y0 (Y2 5 [13, 3, 0] [(13, .bool (decide (t1.Height < (Z6 t0)))), Z9, (0, sC t0)] ?_)))
 refine Y1 (Y9 (b := decide (t1.Height < (Z6 t0))) H rfl (fun c1 H => ?_) (fun c1 H => ?_))
 ·refine Y0 (Y2 1 [4] [(4, .bool false)] ?_)
  refine Y1 ?_
  obtain rfl := X1 H
  refine AW.recast (env' := [(4, .bool false)]) (h' := []) (StC.pure (.cons .im .nil)) (Yl ?_)
  try simp only [Ex.t, Ex.b]
  exact Yh rfl (.tmp .nil)
 refine Yb (Yc (Y0 (Y2 3 [16, 15, 14, 3, 0] [(16, .j (0 : Int)), (15, .j (Z6 t0)), (14, sC t0), Z9, (0, sC t0)] ?_)))
 refine Y1 (Yd ?_)
 refine Yq (fun loop (s : Int) => f_sheet_fits_b2 t0 t1 loop s) r (fun (s : Int) => [(0, sC t0), Z9, (14, sC t0), (15, .j (Z6 t0)), (16, .j s)]) (fun (s : Int) => (Z2 t1)) ?_ 1000000 (0 : Int) H (StC.mk (phi [(3, some 3)]) (.o rfl (.i3 .nil) .nil) rfl (.cons .im (.cons (.r rfl) (.i3 .nil))))
 intro loop3 v2 H
 unfold f_sheet_fits_b2 at H
 change AW _ _ _ (Z1 t0 v2) (Z2 t1) _
 refine Y0 (Y2 1 [17, 0, 3, 14, 15, 16] ((17, .bool (decide (v2 < (Z6 t0)))) :: (Z1 t0 v2)) ?_)
 refine Y1 (Yc (Y9 (b := decide (v2 < (Z6 t0))) H rfl (fun c4 H => ?_) (fun c4 H => ?_)))
 ·refine Yb (Yc (Yd (Y0 ?_)))
  have ⟨g5, H⟩ := Y6 H
  refine Y8 1 [18, 0, 3, 14, 15, 16] ((18, .ipt (t0.flatMap (eL (eI .u8))) (v2.toNat * 1)) :: (Z1 t0 v2)) ⟨g5, trivial⟩ (OpsW.asU (sU (Z5 t0 v2)) rfl rfl (T.load rfl trivial (by kernel_rfl) (Yn (eL (eI .u8)) 1 (fun _ => rfl) t0 [] v2.toNat (ltN g5) (fun a => .sl (a.flatMap (eI .u8)) a.length) (fun _ => rfl))) (Y2 1 [6, 0, 3, 14, 15, 16] ((6, sU (Z5 t0 v2)) :: (Z1 t0 v2)) ?_))
  refine Y1 (Yc (Y0 ?_))
  have ⟨g6, H⟩ := Y6 H
  have ⟨g7, H⟩ := Y6 H
  refine Y8 15 [34, 29, 25, 6, 0, 3, 14, 15, 16] ((34, .cnd ((!(Z8 t0 t1 v2)) && (decide (0 < (Z4 t0 v2)))) (.ipt ((Z5 t0 v2).flatMap (eI .u8)) (((Z4 t0 v2) - (1 : Int)).toNat * 1))) :: (29, .cnd (!(Z8 t0 t1 v2)) (.bool (decide (0 < (Z4 t0 v2))))) :: (25, .bool (Z8 t0 t1 v2)) :: (6, sU (Z5 t0 v2)) :: (Z1 t0 v2)) ⟨(fun h => h), (fun h => h), (fun h => h), (fun h => h), (fun h => h), g6, (fun h => h), (fun h => h), g7, trivial⟩ (OpsW.asG (c := (!(Z8 t0 t1 v2)) && (decide (0 < (Z4 t0 v2)))) (.int .u8 (Z7 t0 v2)) rfl rfl rfl rfl (fun hc => T.load rfl hc (by kernel_rfl) (Yn (eI .u8) 1 (fun _ => rfl) (Z5 t0 v2) (0 : Int) ((Z4 t0 v2) - (1 : Int)).toNat (ltN (g7 hc)) (fun a => .val (.int .u8 a)) (fun _ => rfl))) (Y8 3 [38, 6, 0, 3, 14, 15, 16] ((38, .bool (cond (Z8 t0 t1 v2) true (cond (decide (0 < (Z4 t0 v2))) ((Z7 t0 v2) == 0) false))) :: (6, sU (Z5 t0 v2)) :: (Z1 t0 v2)) ⟨(fun h => h), (fun h => h), (fun h0 h => by first | exact h | (simp [h0, h]; done) | (simp at h0 h ⊢; simp [h0, h]; done) | (simp_all; done) | grind), (fun h => by first | exact h | (simpa using h) | grind), trivial⟩ (Y1 (Y9 (b := cond (Z8 t0 t1 v2) true (cond (decide (0 < (Z4 t0 v2))) ((Z7 t0 v2) == 0) false)) H rfl (fun c8 H => ?_) (fun c8 H => ?_)))))
  ·refine Y0 (Y2 1 [4] [(4, .bool false)] ?_)
   refine Y1 ?_
   obtain rfl := X1 H
   refine AW.recast (env' := [(4, .bool false)]) (h' := []) (StC.pure (.cons .im .nil)) (Yl ?_)
   try simp only [Ex.t, Ex.b]
   exact Yh rfl (.tmp .nil)
  refine Yb (Y0 (Y2 3 [41, 40, 39, 0, 3, 14, 15, 16] ((41, .j (0 : Int)) :: (40, .j (Z4 t0 v2)) :: (39, sU (Z5 t0 v2)) :: (Z1 t0 v2)) ?_))
  refine Y1 (Yd ?_)
  refine Yq (fun loop (s : Int) => f_sheet_fits_b1 t0 loop3 v2 loop s) r (fun (s : Int) => [(0, sC t0), Z9, (14, sC t0), (15, .j (Z6 t0)), (16, .j v2), (39, sU (Z5 t0 v2)), (40, .j (Z4 t0 v2)), (41, .j s)]) (fun (s : Int) => (Z2 t1)) ?_ 1000000 (0 : Int) H (StC.mk (phi [(3, some 3)]) (.o rfl (.i3 .nil) .nil) rfl (.cons .im (.cons (.r rfl) (.i6 .nil))))
  intro loop10 v9 H
  unfold f_sheet_fits_b1 at H
  change AW _ _ _ (Z0 t0 v2 v9) (Z2 t1) _
  refine Y0 (Y2 1 [42, 0, 3, 14, 15, 16, 39, 40, 41] ((42, .bool (decide (v9 < (Z4 t0 v2)))) :: (Z0 t0 v2 v9)) ?_)
  refine Y1 (Yc (Y9 (b := decide (v9 < (Z4 t0 v2))) H rfl (fun c11 H => ?_) (fun c11 H => ?_)))
  ·refine Yb (Yc (Yd (Y0 ?_)))
   have ⟨g12, H⟩ := Y6 H
   refine Y8 1 [43, 0, 3, 14, 15, 16, 39, 40, 41] ((43, .ipt ((Z5 t0 v2).flatMap (eI .u8)) (v9.toNat * 1)) :: (Z0 t0 v2 v9)) ⟨g12, trivial⟩ (OpsW.asU (.int .u8 ((Z5 t0 v2).getD v9.toNat 0)) rfl rfl (T.load rfl trivial (by kernel_rfl) (Yn (eI .u8) 1 (fun _ => rfl) (Z5 t0 v2) (0 : Int) v9.toNat (ltN g12) (fun a => .val (.int .u8 a)) (fun _ => rfl))) (Y2 1 [8, 0, 3, 14, 15, 16, 39, 40, 41] ((8, .int .u8 ((Z5 t0 v2).getD v9.toNat 0)) :: (Z0 t0 v2 v9)) ?_))
   refine Y1 (Y0 (Y2 1 [45, 0, 3, 14, 15, 16, 39, 40, 41] ((45, .int .u8 ((Z5 t0 v2).getD v9.toNat 0)) :: (Z0 t0 v2 v9)) ?_))
   have ⟨x13, hx13, H⟩ := Yt H
   refine Ys rfl (.cons (.pur rfl) .nil) (f_cell_Valid_ok hx13) (Y2 1 [47, 0, 3, 14, 15, 16, 39, 40, 41] ((47, .bool (!x13)) :: (Z0 t0 v2 v9)) (Y1 (Y9 (b := !x13) H rfl (fun c14 H => ?_) (fun c14 H => ?_))))
   ·refine Y0 (Y2 1 [4] [(4, .bool false)] ?_)
    refine Y1 ?_
    obtain rfl := X1 H
    refine AW.recast (env' := [(4, .bool false)]) (h' := []) (StC.pure (.cons .im .nil)) (Yl ?_)
    try simp only [Ex.t, Ex.b]
    exact Yh rfl (.tmp .nil)
   refine Yb (Ye ?_)
   have ⟨g15, H⟩ := Y6 H
   refine Y8 2 [41, 0, 3, 14, 15, 16, 39, 40] [(41, .j (v9 + 1)), (0, sC t0), Z9, (14, sC t0), (15, .j (Z6 t0)), (16, .j v2), (39, sU (Z5 t0 v2)), (40, .j (Z4 t0 v2))] ⟨g15, trivial⟩ (Y1 ?_)
   exact ⟨v9 + 1, H, (StC.mk (phi [(3, some 3)]) (.o rfl (.i3 .nil) .nil) rfl (.cons .im (.cons (.r rfl) (.i6 .nil))))⟩
  refine AW.exit (Ye ?_)
  have ⟨g16, H⟩ := Y6 H
  refine Y8 2 [16, 0, 3, 14, 15] [(16, .j (v2 + 1)), (0, sC t0), Z9, (14, sC t0), (15, .j (Z6 t0))] ⟨g16, trivial⟩ (Y1 ?_)
  exact ⟨v2 + 1, H, (StC.mk (phi [(3, some 3)]) (.o rfl (.i3 .nil) .nil) rfl (.cons .im (.cons (.r rfl) (.i3 .nil))))⟩
 refine AW.exit (Y0 ?_)
 have ⟨g17, H⟩ := Y6 H
 have ⟨g18, H⟩ := Y6 H
 refine Y8 9 [58, 53] [(58, .cnd (!((Z6 t0) == 0)) (.ipt (t0.flatMap (eL (eI .u8))) (((Z6 t0) - 1).toNat * 1))), (53, .bool ((Z6 t0) == 0))] ⟨(fun h => h), (fun h => h), g17, (fun h => h), (fun h => h), g18, trivial⟩ (OpsW.asG (c := !((Z6 t0) == 0)) (sU (t0.getD ((Z6 t0) - 1).toNat [])) rfl rfl rfl rfl (fun hc => T.load rfl hc (by kernel_rfl) (Yn (eL (eI .u8)) 1 (fun _ => rfl) t0 [] ((Z6 t0) - 1).toNat (ltN (g18 hc)) (fun a => .sl (a.flatMap (eI .u8)) a.length) (fun _ => rfl))) (Y8 4 [4] (Z3 t0) ⟨(fun h => h), (fun h => h), (fun h => by first | exact h | (simpa using h) | grind), trivial⟩ (Y1 ?_)))
 obtain rfl := X1 H
 refine AW.recast (env' := (Z3 t0)) (h' := []) (StC.pure (.cons .im .nil)) (Yl ?_)
 try simp only [Ex.t, Ex.b]
 exact Yh rfl (.tmp .nil)
def f_grid_New_b1 (t0 : Int) (t1 : Int) (loop5 : (Yk × Yk × Int) → Option Yk) (v2 : Yk) (v3 : Yk) (v4 : Int) : Option Yk :=
 cond (decide (v4 < (if (200 : Int) < (if (0 : Int) > t1 then (0 : Int) else t1) then (200 : Int) else (if (0 : Int) > t1 then (0 : Int) else t1)))) (
  G (0 ≤ (if (200 : Int) < (if (0 : Int) > t0 then (0 : Int) else t0) then (200 : Int) else (if (0 : Int) > t0 then (0 : Int) else t0)) ∧ (if (200 : Int) < (if (0 : Int) > t0 then (0 : Int) else t0) then (200 : Int) else (if (0 : Int) > t0 then (0 : Int) else t0)) ≤ (if (200 : Int) < (if (0 : Int) > t0 then (0 : Int) else t0) then (200 : Int) else (if (0 : Int) > t0 then (0 : Int) else t0)) ∧ ((1 : Nat) : Int) * (if (200 : Int) < (if (0 : Int) > t0 then (0 : Int) else t0) then (200 : Int) else (if (0 : Int) > t0 then (0 : Int) else t0)) ≤ 281474976710656 ∧ (if (200 : Int) < (if (0 : Int) > t0 then (0 : Int) else t0) then (200 : Int) else (if (0 : Int) > t0 then (0 : Int) else t0)) ≤ 9223372036854775807) <|
  G (0 ≤ v4 ∧ v4 < (v3.Dots.length : Int)) <|
  G (inR (v4 + 1)) <|
  loop5 (v2, (⟨v3.W, v3.H, v3.Dots.set v4.toNat (List.replicate (if (200 : Int) < (if (0 : Int) > t0 then (0 : Int) else t0) then (200 : Int) else (if (0 : Int) > t0 then (0 : Int) else t0)).toNat false)⟩ : Yk), v4 + 1)) (
  some v3)
def f_grid_New (t0 : Int) (t1 : Int) : Option Yk :=
 G (0 ≤ (if (200 : Int) < (if (0 : Int) > t1 then (0 : Int) else t1) then (200 : Int) else (if (0 : Int) > t1 then (0 : Int) else t1)) ∧ (if (200 : Int) < (if (0 : Int) > t1 then (0 : Int) else t1) then (200 : Int) else (if (0 : Int) > t1 then (0 : Int) else t1)) ≤ (if (200 : Int) < (if (0 : Int) > t1 then (0 : Int) else t1) then (200 : Int) else (if (0 : Int) > t1 then (0 : Int) else t1)) ∧ ((24 : Nat) : Int) * (if (200 : Int) < (if (0 : Int) > t1 then (0 : Int) else t1) then (200 : Int) else (if (0 : Int) > t1 then (0 : Int) else t1)) ≤ 281474976710656 ∧ (if (200 : Int) < (if (0 : Int) > t1 then (0 : Int) else t1) then (200 : Int) else (if (0 : Int) > t1 then (0 : Int) else t1)) ≤ 9223372036854775807) <|
 iter (fun loop (s : Yk × Yk × Int) => f_grid_New_b1 t0 t1 loop s.1 s.2.1 s.2.2) 1000000 ((⟨(0 : Int), (0 : Int), []⟩ : Yk), (⟨(if (200 : Int) < (if (0 : Int) > t0 then (0 : Int) else t0) then (200 : Int) else (if (0 : Int) > t0 then (0 : Int) else t0)), (if (200 : Int) < (if (0 : Int) > t1 then (0 : Int) else t1) then (200 : Int) else (if (0 : Int) > t1 then (0 : Int) else t1)), List.replicate (if (200 : Int) < (if (0 : Int) > t1 then (0 : Int) else t1) then (200 : Int) else (if (0 : Int) > t1 then (0 : Int) else t1)).toNat ([] : List Bool)⟩ : Yk), (0 : Int))
section
variable (t0 : Int) (t1 : Int) (v2 : Yk) (v3 : Yk) (v4 : Int)
abbrev Zs := (List.replicate (if (200 : Int) < (if (0 : Int) > t0 then (0 : Int) else t0) then (200 : Int) else (if (0 : Int) > t0 then (0 : Int) else t0)).toNat false)
abbrev Zt := (⟨(if (200 : Int) < (if (0 : Int) > t0 then (0 : Int) else t0) then (200 : Int) else (if (0 : Int) > t0 then (0 : Int) else t0)), (if (200 : Int) < (if (0 : Int) > t1 then (0 : Int) else t1) then (200 : Int) else (if (0 : Int) > t1 then (0 : Int) else t1)), List.replicate (if (200 : Int) < (if (0 : Int) > t1 then (0 : Int) else t1) then (200 : Int) else (if (0 : Int) > t1 then (0 : Int) else t1)).toNat ([] : List Bool)⟩ : Yk)
abbrev Zu := (List.replicate (if (200 : Int) < (if (0 : Int) > t1 then (0 : Int) else t1) then (200 : Int) else (if (0 : Int) > t1 then (0 : Int) else t1)).toNat ([] : List Bool))
abbrev Zv : Nat × AV := (0, .j (if (200 : Int) < (if (0 : Int) > t0 then (0 : Int) else t0) then (200 : Int) else (if (0 : Int) > t0 then (0 : Int) else t0)))
abbrev Zw : Nat × AV := (18, .j (if (200 : Int) < (if (0 : Int) > t1 then (0 : Int) else t1) then (200 : Int) else (if (0 : Int) > t1 then (0 : Int) else t1)))
abbrev Zx : List AV := [.j (if (200 : Int) < (if (0 : Int) > t0 then (0 : Int) else t0) then (200 : Int) else (if (0 : Int) > t0 then (0 : Int) else t0)), .j (if (200 : Int) < (if (0 : Int) > t1 then (0 : Int) else t1) then (200 : Int) else (if (0 : Int) > t1 then (0 : Int) else t1)), .rsl 16 0 0 ((Zu t1).length)]
abbrev Zy := (⟨v3.W, v3.H, v3.Dots.set v4.toNat (Zs t0)⟩ : Yk)
abbrev Zz := [fmA 15050 4 1 eB (v3.Dots.set v4.toNat (Zs t0))]
abbrev Z10 : List AV := [.j (0 : Int), .j (0 : Int), .im (.val (.slice none 0 0))]
abbrev Z11 := [fmA 15050 4 1 eB v3.Dots]
abbrev Z12 : List AV := [.j v3.W, .j v3.H, .rsl 5050 0 0 ((v3.Dots.set v4.toNat (Zs t0)).length)]
abbrev Z13 := (⟨(0 : Int), (0 : Int), []⟩ : Yk)
abbrev Z14 : List AV := [.j v2.W, .j v2.H, sD v2.Dots]
abbrev Z15 : List AV := [.j v3.W, .j v3.H, .rsl 5050 0 0 v3.Dots.length]
abbrev Z16 := [fmA 10016 4 1 eB (Zu t1)]
abbrev Z17 : Nat × AV := (4, .ref 4 0 0)
abbrev Za : Env := [(Zv t0), Z17, (5, .ref 5 0 0), (Zw t1), (19, .j v4)]
abbrev Zb : Env := [(1, .j (if (200 : Int) < (if (0 : Int) > t1 then (0 : Int) else t1) then (200 : Int) else (if (0 : Int) > t1 then (0 : Int) else t1))), (Zv t0), Z17]
abbrev Zc : Hp := [(4, ⟨0, true, 96, 3, Z10⟩), (5, ⟨0, true, 96, 3, [.j (if (200 : Int) < (if (0 : Int) > t0 then (0 : Int) else t0) then (200 : Int) else (if (0 : Int) > t0 then (0 : Int) else t0)), .j (if (200 : Int) < (if (0 : Int) > t1 then (0 : Int) else t1) then (200 : Int) else (if (0 : Int) > t1 then (0 : Int) else t1)), .rsl 5050 0 0 ((Zu t1).length)]⟩), (5050, nsA 0 61 15050 (Zu t1))]
abbrev Zd : Hp := [(16, nsA 0 61 10016 (Zu t1)), (4, ⟨0, true, 96, 3, Z10⟩)]
abbrev Ze : Hp := [(5050, nsA 0 61 15050 (v3.Dots.set v4.toNat (Zs t0))), (4, ⟨0, true, 96, 3, (Z14 v2)⟩), (5, ⟨0, true, 96, 3, (Z12 t0 v3 v4)⟩)]
abbrev Zf : Hp := [(4, ⟨0, true, 96, 3, (Z14 v2)⟩), (5, ⟨0, true, 96, 3, (Z12 t0 v3 v4)⟩), (5050, nsA 0 61 15050 (v3.Dots.set v4.toNat (Zs t0)))]
abbrev Zg : Env := (15, .j (if (200 : Int) < (if (0 : Int) > t1 then (0 : Int) else t1) then (200 : Int) else (if (0 : Int) > t1 then (0 : Int) else t1))) :: (14, .j (if (200 : Int) < (if (0 : Int) > t1 then (0 : Int) else t1) then (200 : Int) else (if (0 : Int) > t1 then (0 : Int) else t1))) :: (13, .j (if (200 : Int) < (if (0 : Int) > t0 then (0 : Int) else t0) then (200 : Int) else (if (0 : Int) > t0 then (0 : Int) else t0))) :: (Zb t0 t1)
abbrev Zh : Hp := [(5050, ⟨0, true, 61, 1, putA (nsA 0 61 15050 v3.Dots).cs (0 + v4.toNat * 1) [.rsl 26 0 0 ((Zs t0).length)]⟩), (26, rtA 0 4 1 eB (Zs t0)), (4, ⟨0, true, 96, 3, (Z14 v2)⟩), (5, ⟨0, true, 96, 3, (Z12 t0 v3 v4)⟩), (5050, nsA 0 61 15050 v3.Dots)]
abbrev Zi : Hp := [(4, ⟨0, true, 96, 3, (Z14 v2)⟩), (5, ⟨0, true, 96, 3, (Z15 v3)⟩), (5050, nsA 0 61 15050 v3.Dots)]
abbrev Zj : Hp := (5, ⟨0, true, 96, 3, (Zx t0 t1)⟩) :: (5, ⟨0, true, 96, 3, Z10⟩) :: (Zd t1)
abbrev Zk : Env := (17, .agg (Zx t0 t1)) :: (Zb t0 t1)
abbrev Zl : Env := (27, .ref 5050 0 (0 + v4.toNat * 1)) :: (26, .rsl 26 0 0 ((Zs t0).length)) :: (Za t0 t1 v4)
abbrev Zm : Env := (16, .rsl 16 0 0 ((Zu t1).length)) :: (Zg t0 t1)
abbrev Zn : Hp := [(4, ⟨0, true, 96, 3, [.j v3.W, .j v3.H, .rsl 5040 0 0 v3.Dots.length]⟩), (5040, nsA 0 61 15040 v3.Dots)]
abbrev Zo : Hp := (26, rtA 0 4 1 eB (Zs t0)) :: (Zi v2 v3)
abbrev Zp : Hp := [(1000, ⟨0, true, 96, 3, [.j v3.W, .j v3.H, .rsl 1500 0 0 v3.Dots.length]⟩), (1500, nsA 0 61 11500 v3.Dots)]
abbrev Zq : Hp := [(4, ⟨0, true, 96, 3, Z10⟩)]
abbrev Zr : Hp := (4, ⟨0, true, 96, 3, (Z15 v3)⟩) :: (Zi v2 v3)
end
theorem f_grid_New_own {t0 : Int} {t1 : Int} {r : Yk} (H : f_grid_New t0 t1 = some r) : Abs.Spec Tryd.prog 65 [.int .i64 t0, .int .i64 t1] [] (fun x h => x = .agg [.int .i64 r.W, .int .i64 r.H, .rsl 1500 0 0 r.Dots.length] ∧ h = ([(1000, ⟨0, true, 96, 3, [.int .i64 r.W, .int .i64 r.H, .rsl 1500 0 0 r.Dots.length]⟩), (1500, nsA 0 61 11500 r.Dots)] ++ fmsH [fmA 11500 4 1 eB r.Dots])) := by
 refine Yj Tryd.func65 rfl (by simp [Tryd.ntmps65]) ?_
 rw [Tryd.ntmps65]
 unfold f_grid_New at H
 change AW _ _ _ [(0, .j t0), (1, .j t1)] [] _
 refine Y0 (Yo rfl rfl rfl 4 rfl (by kernel_rfl : zc Tryd.prog 96 = some [.j 0, .j 0, .slice none 0 0]) (by kernel_rfl) ?_)
 refine Ya [Z17, (0, .j t0), (1, .j t1)] Zq (StC.mk (phi [(4, some 4)]) (.o rfl (.i3 .nil) .nil) rfl (.cons (.r rfl) (.i2 .nil))) ?_
 refine Y1 (Y0 (Y2 8 [1, 0, 4] (Zb t0 t1) ?_))
 refine Y1 (Y0 (Y2 3 [15, 14, 13, 1, 0, 4] (Zg t0 t1) ?_))
 have ⟨g1, H⟩ := Y6 H
 refine Y5r rfl rfl rfl 16 rfl E45 rfl rfl g1 (OpsW.weaken (Zm t0 t1) (Y04 (by first | (rw [Xn]; rfl; done) | (simp only [Zu, Zv, Zx, Z10, Z16, Z17, Zb, Zd, Zg, Zk, Zm, Zq]; rw [Xn]; rfl))) (Ya (Zm t0 t1) ((Zd t1) ++ fmsH (Z16 t1)) (Yp (hc := ((16, ⟨0, true, 61, 1, Y0u [.slice none 0 0] (if (200 : Int) < (if (0 : Int) > t1 then (0 : Int) else t1) then (200 : Int) else (if (0 : Int) > t1 then (0 : Int) else t1)).toNat⟩) :: Zq)) (fs := []) (hc' := (Zd t1)) (fs' := (Z16 t1)) rfl [(16, some 16), (4, some 4)] [(10016, .nil)] rfl (.o rfl (nsNilA rfl (by decide) rfl rfl) (.o rfl (.i3 .nil) .nil)) rfl (.cons rfl fmNil .nil) (.cons (.s rfl) (.i5 (.cons (.r rfl) .nil)))) (Y2 1 [17, 1, 0, 4] (Zk t0 t1) ?_)))
 change OpsW _ _ _ _ (Zk t0 t1) ((Zd t1) ++ fmsH (Z16 t1)) _
 refine Yo rfl rfl rfl 5 (Y4r rfl) (by kernel_rfl : zc Tryd.prog 96 = some [.j 0, .j 0, .slice none 0 0]) (by kernel_rfl) (OpsW.store rfl rfl rfl rfl trivial trivial rfl rfl rfl (by kernel_rfl) (Y5 (by kernel_rfl)) (X0 (by kernel_rfl)) ?_)
 change OpsW _ _ _ _ _ ((Zj t0 t1) ++ fmsH (Z16 t1)) _
 refine Y2 0 [5, 1, 0, 4] ((5, .ref 5 0 0) :: (Zb t0 t1)) (Ya ((5, .ref 5 0 0) :: (Zb t0 t1)) ((Zc t0 t1) ++ fmsH [fmA 15050 4 1 eB (Zu t1)]) (Yp (hc := (Zj t0 t1)) (fs := (Z16 t1)) (hc' := (Zc t0 t1)) (fs' := [fmA 15050 4 1 eB (Zu t1)]) rfl [(4, some 4), (5, some 5), (5050, some 16)] [(15050, .same 10016)] rfl (.o rfl (.i3 .nil) (.o rfl (.i2 (.cons (.s rfl) .nil)) (.o rfl (Yf rfl rfl (by decide) rfl rfl rfl) .nil))) rfl (.cons rfl (Ym rfl) .nil) (.cons (.r rfl) (.i2 (.cons (.r rfl) .nil)))) ?_)
 refine Y1 (Yc (Y0 (Y2 2 [19, 18, 5, 0, 4] [(19, .j (0 : Int)), (Zw t1), (5, .ref 5 0 0), (Zv t0), Z17] ?_)))
 refine Y1 (Yd ?_)
 refine Yq (fun loop (s : Yk × Yk × Int) => f_grid_New_b1 t0 t1 loop s.1 s.2.1 s.2.2) r (fun (s : Yk × Yk × Int) => [(Zv t0), Z17, (5, .ref 5 0 0), (Zw t1), (19, .j s.2.2)]) (fun (s : Yk × Yk × Int) => ([(4, ⟨0, true, 96, 3, [.j s.1.W, .j s.1.H, sD s.1.Dots]⟩), (5, ⟨0, true, 96, 3, [.j s.2.1.W, .j s.2.1.H, .rsl 5050 0 0 s.2.1.Dots.length]⟩), (5050, nsA 0 61 15050 s.2.1.Dots)] ++ fmsH [fmA 15050 4 1 eB s.2.1.Dots])) ?_ 1000000 (Z13, (Zt t0 t1), (0 : Int)) H (Yp (hc := (Zc t0 t1)) (fs := [fmA 15050 4 1 eB (Zu t1)]) (hc' := [(4, ⟨0, true, 96, 3, [.j Z13.W, .j Z13.H, sD Z13.Dots]⟩), (5, ⟨0, true, 96, 3, [.j (Zt t0 t1).W, .j (Zt t0 t1).H, .rsl 5050 0 0 (Zt t0 t1).Dots.length]⟩), (5050, nsA 0 61 15050 (Zt t0 t1).Dots)]) (fs' := [fmA 15050 4 1 eB (Zt t0 t1).Dots]) rfl [(4, some 4), (5, some 5), (5050, some 5050)] [(15050, .same 15050)] rfl (.o rfl (.i2 (.cons .nil .nil)) (.o rfl (.i2 (.cons (.s rfl) .nil)) (.o rfl (Yf rfl rfl (by decide) rfl rfl rfl) .nil))) rfl (.cons rfl (Ym rfl) .nil) (.cons .im (.cons (.r rfl) (.cons (.r rfl) (.i2 .nil)))))
 intro loop5 s H
 obtain ⟨v2, v3, v4⟩ := s
 unfold f_grid_New_b1 at H
 change AW _ _ _ (Za t0 t1 v4) ((Zi v2 v3) ++ fmsH (Z11 v3)) _
 refine Y0 (Y2 1 [20, 0, 4, 5, 18, 19] ((20, .bool (decide (v4 < (if (200 : Int) < (if (0 : Int) > t1 then (0 : Int) else t1) then (200 : Int) else (if (0 : Int) > t1 then (0 : Int) else t1))))) :: (Za t0 t1 v4)) ?_)
 refine Y1 (Yc (Y9 (b := decide (v4 < (if (200 : Int) < (if (0 : Int) > t1 then (0 : Int) else t1) then (200 : Int) else (if (0 : Int) > t1 then (0 : Int) else t1)))) H rfl (fun c6 H => ?_) (fun c6 H => ?_)))
 ·refine Yb (Yc (Yd (Y0 (Y2 2 [6, 0, 4, 5, 18, 19] ((6, .j v4) :: (Za t0 t1 v4)) ?_))))
  refine Y1 (AW.drawG 5 [(4, 26)] Tryd.checked.mixed (by kernel_rfl) (by kernel_rfl) ?_)
  refine DOps.q 4 (by kernel_rfl) ?_
  refine QOps.sz (N := 30) 4 ((25, .j (if (200 : Int) < (if (0 : Int) > t0 then (0 : Int) else t0) then (200 : Int) else (if (0 : Int) > t0 then (0 : Int) else t0))) :: (24, .j v4) :: (23, .rsl 5050 0 0 v3.Dots.length) :: (22, .ref 5 0 2) :: (6, .j v4) :: (Za t0 t1 v4)) trivial (QOps.nil ?_)
  have ⟨g7, H⟩ := Y6 H
  refine DOps.e 26 rfl rfl (Y4r rfl) (by exact fun g hg hb => RStep.makeT (enc := eB) false rfl 26 (hg.trans (Y4r rfl)) E61 rfl rfl rfl g7) ?_
  refine DOps.nil ?_
  refine Y2 0 [26, 24, 23, 0, 4, 5, 18, 19] ((26, .rsl 26 0 0 ((Zs t0).length)) :: (24, .j v4) :: (23, .rsl 5050 0 0 v3.Dots.length) :: (Za t0 t1 v4)) ?_
  have ⟨g8, H⟩ := Y6 H
  refine Y8 1 [27, 26, 0, 4, 5, 18, 19] (Zl t0 t1 v4) ⟨g8, trivial⟩ ?_
  change OpsW _ _ _ _ (Zl t0 t1 v4) ((Zo t0 v2 v3) ++ fmsH (Z11 v3)) _
  refine OpsW.store rfl rfl rfl rfl trivial trivial rfl rfl rfl (by kernel_rfl) (Y5 (by kernel_rfl)) (ns_fit (ltN g8)) ?_
  change OpsW _ _ _ _ (Zl t0 t1 v4) (((5050, ⟨0, true, 61, 1, putA (nsA 0 61 15050 v3.Dots).cs (0 + v4.toNat * 1) [.rsl 26 0 0 ((Zs t0).length)]⟩) :: (Zo t0 v2 v3)) ++ fmsH (Z11 v3)) _
  refine OpsW.heapEq (h' := ((Zh t0 v2 v3 v4) ++ fmsH (Z11 v3))) (fun _ => by simp only [Xs, Zs, Zv, Zw, Zz, Z11, Z12, Z14, Z15, Z17, Za, Ze, Zf, Zh, Zi, Zl, Zo]) (Ya ((27, .ref 5050 0 (0 + v4.toNat * 1)) :: (Za t0 t1 v4)) ((Ze t0 v2 v3 v4) ++ fmsH (Zz t0 v3 v4)) (Yp (hc := (Zh t0 v2 v3 v4)) (fs := (Z11 v3)) (hc' := (Ze t0 v2 v3 v4)) (fs' := (Zz t0 v3 v4)) rfl [(5050, some 5050), (4, some 4), (5, some 5)] [(15050, .put 15050 v4.toNat 26)] rfl (.o rfl (nsPutA rfl rfl (by decide) rfl rfl rfl rfl (ltN g8) (by first | omega | (simp only [Zs, Zz, Z11]; omega)) rfl) (.o rfl (.i3 .nil) (.o rfl (.i2 (.cons (.s rfl) .nil)) .nil))) rfl (.cons rfl (fmPut rfl rfl (ltN g8)) .nil) (.cons (.r rfl) (.cons .im (.cons (.r rfl) (.cons (.r rfl) (.i2 .nil)))))) (Y2 0 [0, 4, 5, 18, 19] (Za t0 t1 v4) (Ya (Za t0 t1 v4) ((Zf t0 v2 v3 v4) ++ fmsH (Zz t0 v3 v4)) (Yp (hc := (Ze t0 v2 v3 v4)) (fs := (Zz t0 v3 v4)) (hc' := (Zf t0 v2 v3 v4)) (fs' := (Zz t0 v3 v4)) rfl [(4, some 4), (5, some 5), (5050, some 5050)] [(15050, .same 15050)] rfl (.o rfl (.i3 .nil) (.o rfl (.i2 (.cons (.s rfl) .nil)) (.o rfl (Yf rfl rfl (by decide) rfl rfl rfl) .nil))) rfl (.cons rfl (Ym rfl) .nil) (.cons .im (.cons (.r rfl) (.cons (.r rfl) (.i2 .nil))))) ?_)))
  refine Y1 (Ye ?_)
  have ⟨g9, H⟩ := Y6 H
  refine Y8 2 [19, 0, 4, 5, 18] [(19, .j (v4 + 1)), (Zv t0), Z17, (5, .ref 5 0 0), (Zw t1)] ⟨g9, trivial⟩ (Y1 ?_)
  exact ⟨(v2, (Zy t0 v3 v4), v4 + 1), H, (Yp (hc := (Zf t0 v2 v3 v4)) (fs := (Zz t0 v3 v4)) (hc' := [(4, ⟨0, true, 96, 3, (Z14 v2)⟩), (5, ⟨0, true, 96, 3, [.j (Zy t0 v3 v4).W, .j (Zy t0 v3 v4).H, .rsl 5050 0 0 (Zy t0 v3 v4).Dots.length]⟩), (5050, nsA 0 61 15050 (Zy t0 v3 v4).Dots)]) (fs' := [fmA 15050 4 1 eB (Zy t0 v3 v4).Dots]) rfl [(4, some 4), (5, some 5), (5050, some 5050)] [(15050, .same 15050)] rfl (.o rfl (.i3 .nil) (.o rfl (.i2 (.cons (.s rfl) .nil)) (.o rfl (Yf rfl rfl (by decide) rfl rfl rfl) .nil))) rfl (.cons rfl (Ym rfl) .nil) (.cons .im (.cons (.r rfl) (.cons (.r rfl) (.i2 .nil)))))⟩
 refine AW.exit ?_
 refine Y0 (Y2 1 [29, 4] [(29, .agg (Z15 v3)), Z17] ?_)
 refine OpsW.store rfl rfl rfl rfl trivial trivial rfl rfl rfl (by kernel_rfl) (Y5 (by kernel_rfl)) (X0 (by kernel_rfl)) ?_
 change OpsW _ _ _ _ _ ((Zr v2 v3) ++ fmsH (Z11 v3)) _
 refine Y2 0 [4] [Z17] (Ya [Z17] ((Zn v3) ++ fmsH [fmA 15040 4 1 eB v3.Dots]) (Yp (hc := (Zr v2 v3)) (fs := (Z11 v3)) (hc' := (Zn v3)) (fs' := [fmA 15040 4 1 eB v3.Dots]) rfl [(4, some 4), (5040, some 5050)] [(15040, .same 15050)] rfl (.o rfl (.i2 (.cons (.s rfl) .nil)) (.o rfl (Yf rfl rfl (by decide) rfl rfl rfl) .nil)) rfl (.cons rfl (Ym rfl) .nil) (.cons (.r rfl) .nil)) (Y1 ?_))
 obtain rfl := X1 H
 refine AW.recast (env' := [(4, .ref 1000 0 0)]) (h' := ((Zp v3) ++ fmsH [fmA 11500 4 1 eB v3.Dots])) (Yp (hc := (Zn v3)) (fs := [fmA 15040 4 1 eB v3.Dots]) (hc' := (Zp v3)) (fs' := [fmA 11500 4 1 eB v3.Dots]) rfl [(1000, some 4), (1500, some 5040)] [(11500, .same 15040)] rfl (.o rfl (.i2 (.cons (.s rfl) .nil)) (.o rfl (Yf rfl rfl (by decide) rfl rfl rfl) .nil)) rfl (.cons rfl (Ym rfl) .nil) (.cons (.r rfl) .nil)) (Yl ?_)
 try simp only [Ex.t, Ex.b]
 refine Y1k rfl (.cell rfl (by kernel_rfl) .nil) ?_
 exact ⟨by kernel_rfl, rfl⟩
def Y5h (t0 : List (List Int)) (loop5 : (Yk × Int) → Option (Yk × Int)) (v4 : Int) (loop12 : (Yk × Int) → Option (Yk × Int)) (v10 : Yk) (v11 : Int) : Option (Yk × Int) :=
 cond (decide (v11 < ((t0.getD v4.toNat []).length : Int))) (
  G (0 ≤ v11 ∧ v11 < ((t0.getD v4.toNat []).length : Int)) <|
  (f_cell_Valid ((t0.getD v4.toNat []).getD v11.toNat 0)).bind fun x15 =>
  cond (!x15) (
   some ((⟨(0 : Int), (0 : Int), []⟩ : Yk), (1 : Int))) (
   G (inR (v11 + 1)) <|
   loop12 (v10, v11 + 1))) (
  G (inR (v4 + 1)) <|
  loop5 (v10, v4 + 1))
def Y39 (loop35 : (Yk × Yk × Int) → Option (Yk × Int)) (v34 : Int) (v37 : Yk) (v38 : Yk) : Option (Yk × Int) :=
 G (inR (v34 + 1)) <|
 loop35 (v37, v38, v34 + 1)
def Y5g (t0 : List (List Int)) (v22 : Int) (loop29 : (Yk × Yk × Int) → Option (Yk × Int)) (v28 : Int) (loop35 : (Yk × Yk × Int) → Option (Yk × Int)) (v32 : Yk) (v33 : Yk) (v34 : Int) : Option (Yk × Int) :=
 cond (decide (v34 < 6)) (
  G (0 ≤ v34) <|
  cond ((bAnd .u8 (bShr .u8 ((t0.getD v22.toNat []).getD v28.toNat 0) v34) (1 : Int)) == 1) (
   G (inR (3 * v22)) <|
   G (0 ≤ v34 ∧ v34 < 6) <|
   G (inR ((3 * v22) + ((Y26.getD v34.toNat Y0c).Y))) <|
   G (0 ≤ ((3 * v22) + ((Y26.getD v34.toNat Y0c).Y)) ∧ ((3 * v22) + ((Y26.getD v34.toNat Y0c).Y)) < (v33.Dots.length : Int)) <|
   G (inR (2 * v28)) <|
   G (inR ((2 * v28) + ((Y26.getD v34.toNat Y0c).X))) <|
   G (0 ≤ ((2 * v28) + ((Y26.getD v34.toNat Y0c).X)) ∧ ((2 * v28) + ((Y26.getD v34.toNat Y0c).X)) < ((v33.Dots.getD ((3 * v22) + ((Y26.getD v34.toNat Y0c).Y)).toNat []).length : Int)) <|
   Y39 loop35 v34 v32 (⟨v33.W, v33.H, v33.Dots.set ((3 * v22) + ((Y26.getD v34.toNat Y0c).Y)).toNat ((v33.Dots.getD ((3 * v22) + ((Y26.getD v34.toNat Y0c).Y)).toNat []).set ((2 * v28) + ((Y26.getD v34.toNat Y0c).X)).toNat true)⟩ : Yk)) (
   Y39 loop35 v34 v32 v33)) (
  G (inR (v28 + 1)) <|
  loop29 (v32, v33, v28 + 1))
def Y5f (t0 : List (List Int)) (loop23 : (Yk × Yk × Int) → Option (Yk × Int)) (v22 : Int) (loop29 : (Yk × Yk × Int) → Option (Yk × Int)) (v26 : Yk) (v27 : Yk) (v28 : Int) : Option (Yk × Int) :=
 cond (decide (v28 < ((t0.getD v22.toNat []).length : Int))) (
  G (0 ≤ v28 ∧ v28 < ((t0.getD v22.toNat []).length : Int)) <|
  iter (fun loop (s : Yk × Yk × Int) => Y5g t0 v22 loop29 v28 loop s.1 s.2.1 s.2.2) 1000000 (v26, v27, (0 : Int))) (
  G (inR (v22 + 1)) <|
  loop23 (v26, v27, v22 + 1))
def Y5e (t0 : List (List Int)) (loop23 : (Yk × Yk × Int) → Option (Yk × Int)) (v20 : Yk) (v21 : Yk) (v22 : Int) : Option (Yk × Int) :=
 cond (decide (v22 < (t0.length : Int))) (
  G (0 ≤ v22 ∧ v22 < (t0.length : Int)) <|
  iter (fun loop (s : Yk × Yk × Int) => Y5f t0 loop23 v22 loop s.1 s.2.1 s.2.2) 1000000 (v20, v21, (0 : Int))) (
  some (v21, (0 : Int)))
def Y5d (t0 : List (List Int)) (t1 : Int) (t2 : Int) (loop5 : (Yk × Int) → Option (Yk × Int)) (v3 : Yk) (v4 : Int) : Option (Yk × Int) :=
 cond (decide (v4 < (t0.length : Int))) (
  G (0 ≤ v4 ∧ v4 < (t0.length : Int)) <|
  G (inR (Int.tdiv t1 (2 : Int))) <|
  cond (decide ((Int.tdiv t1 (2 : Int)) < ((t0.getD v4.toNat []).length : Int))) (
   some ((⟨(0 : Int), (0 : Int), []⟩ : Yk), (1 : Int))) (
   iter (fun loop (s : Yk × Int) => Y5h t0 loop5 v4 loop s.1 s.2) 1000000 (v3, (0 : Int)))) (
  (f_grid_New t1 t2).bind fun x19 =>
  iter (fun loop (s : Yk × Yk × Int) => Y5e t0 loop s.1 s.2.1 s.2.2) 1000000 (v3, x19, (0 : Int)))
def Y59 (t0 : List (List Int)) (t1 : Int) (t2 : Int) : Option (Yk × Int) :=
 G ((!(cond (cond (cond (cond (cond (decide (t1 < 0)) true (decide (200 < t1))) true ((Int.tmod t1 (2 : Int)) != 0)) true (decide (t2 < 0))) true (decide (200 < t2))) true ((Int.tmod t2 (3 : Int)) != 0))) = true → inR (Int.tdiv t2 (3 : Int))) <|
 cond (cond (cond (cond (cond (cond (cond (decide (t1 < 0)) true (decide (200 < t1))) true ((Int.tmod t1 (2 : Int)) != 0)) true (decide (t2 < 0))) true (decide (200 < t2))) true ((Int.tmod t2 (3 : Int)) != 0)) true (decide ((Int.tdiv t2 (3 : Int)) < (t0.length : Int)))) (
  some ((⟨(0 : Int), (0 : Int), []⟩ : Yk), (1 : Int))) (
  iter (fun loop (s : Yk × Int) => Y5d t0 t1 t2 loop s.1 s.2) 1000000 ((⟨(0 : Int), (0 : Int), []⟩ : Yk), (0 : Int)))
section
variable (t0 : List (List Int)) (t1 : Int) (t2 : Int) (v3 : Yk) (v4 : Int) (v11 : Int) (v20 : Yk) (v21 : Yk) (v22 : Int) (v26 : Yk) (v27 : Yk) (v28 : Int) (v32 : Yk) (v33 : Yk) (v34 : Int) (v37 : Yk) (v38 : Yk) (x19 : Yk)
abbrev Z21 := (3 * v22) + ((Y26.getD v34.toNat Y0c).Y)
abbrev Z22 := (v33.Dots.getD (Z21 v22 v34).toNat []).set ((2 * v28) + ((Y26.getD v34.toNat Y0c).X)).toNat true
abbrev Z23 : List AV := [.j (0 : Int), .j (0 : Int), .im (.val (.slice none 0 0))]
abbrev Z24 := (⟨v33.W, v33.H, v33.Dots.set (Z21 v22 v34).toNat (Z22 v22 v28 v33 v34)⟩ : Yk)
abbrev Z25 := t0.getD v22.toNat []
abbrev Z26 : Nat × AV := (6, .ref 6 0 0)
abbrev Z27 := (cond (cond (cond (cond (cond (decide (t1 < 0)) true (decide (200 < t1))) true ((Int.tmod t1 (2 : Int)) != 0)) true (decide (t2 < 0))) true (decide (200 < t2))) true ((Int.tmod t2 (3 : Int)) != 0))
abbrev Z28 := (t0.length : Int)
abbrev Z29 := Y26.getD v34.toNat Y0c
abbrev Z2a := t0.getD v4.toNat []
abbrev Z2b : Nat × AV := (85, .j ((Z25 t0 v22).length : Int))
abbrev Z2c : Nat × AV := (12, .ref 12 0 0)
abbrev Z2d := [fmA 15120 4 1 eB v33.Dots]
abbrev Z2e := Y26.flatMap eS_Point
abbrev Z2f := ((Z2a t0 v4).length : Int)
abbrev Z2g := (Z25 t0 v22).getD v28.toNat 0
abbrev Z2h := v33.Dots.set (Z21 v22 v34).toNat (Z22 v22 v28 v33 v34)
abbrev Z2i := fid 15120 (Z21 v22 v34).toNat
abbrev Z2j : List AV := [.j v21.W, .j v21.H, .rsl 5120 0 0 v21.Dots.length]
abbrev Z2k : List AV := [.j x19.W, .j x19.H, .rsl 601 0 0 x19.Dots.length]
abbrev Z2l := [fmA 10601 4 1 eB x19.Dots]
abbrev Z2m := [fmA 15120 4 1 eB v21.Dots]
abbrev Z2n := [fmA 15120 4 1 eB v27.Dots]
abbrev Z2o : Nat × AV := (78, .j (Z28 t0))
abbrev Z1j : Hp := [(6, ⟨0, true, 96, 3, [.j v3.W, .j v3.H, sD v3.Dots]⟩)]
abbrev Z2p : Hp := (601, nsA 0 61 10601 x19.Dots) :: (Z1j v3)
abbrev Z18 : Env := [Z26, Z2c, (13, .j v22), (15, .j v28), (16, .int .u8 (Z2g t0 v22 v28)), (77, sC t0), (Z2o t0), (79, .j v22), (84, sU (Z25 t0 v22)), (Z2b t0 v22), (86, .j v28), (91, .j v34)]
abbrev Z19 : Hp := [(6, ⟨0, true, 96, 3, [.j v32.W, .j v32.H, sD v32.Dots]⟩), (12, ⟨0, true, 96, 3, [.j v33.W, .j v33.H, .rsl 5120 0 0 ((Z2h v22 v28 v33 v34).length)]⟩), (5120, nsA 0 61 15120 (Z2h v22 v28 v33 v34))]
abbrev Z1a : Env := (108, .ref 5120 0 (0 + (Z21 v22 v34).toNat * 1)) :: (107, .j (Z21 v22 v34)) :: (106, .j ((Z29 v34).Y)) :: (105, .ipt Z2e (0 + v34.toNat * 2 + 1)) :: (104, .ipt Z2e (0 + v34.toNat * 2)) :: (103, .j v34) :: (102, .j (3 * v22)) :: (101, .j v22) :: (100, .rsl 5120 0 0 v33.Dots.length) :: (99, .ref 12 0 2) :: (98, .bool ((bAnd .u8 (bShr .u8 (Z2g t0 v22 v28) v34) (1 : Int)) == 1)) :: (17, .j v34) :: (Z18 t0 v22 v28 v34)
abbrev Z1b : Hp := [(6, ⟨0, true, 96, 3, [.j v32.W, .j v32.H, sD v32.Dots]⟩), (12, ⟨0, true, 96, 3, [.j v33.W, .j v33.H, .rsl 5120 0 0 v33.Dots.length]⟩), (5120, nsA 0 61 15120 v33.Dots)]
abbrev Z1c : Env := [(0, sC t0), (1, .j t1), (2, .j t2), Z26, (50, sC t0), (51, .j (Z28 t0)), (52, .j v4), (62, sU (Z2a t0 v4)), (63, .j (Z2f t0 v4)), (64, .j v11)]
abbrev Z1d : Env := [Z26, Z2c, (13, .j v22), (77, sC t0), (Z2o t0), (79, .j v22), (84, sU (Z25 t0 v22)), (Z2b t0 v22), (86, .j v28)]
abbrev Z1e : Env := (116, .j ((2 * v28) + ((Z29 v34).X))) :: (109, .rsl (Z2i v22 v34) 0 0 ((v33.Dots.getD (Z21 v22 v34).toNat []).length)) :: (Z18 t0 v22 v28 v34)
abbrev Z1f : Hp := [(6, ⟨0, true, 96, 3, [.j v20.W, .j v20.H, sD v20.Dots]⟩), (12, ⟨0, true, 96, 3, (Z2j v21)⟩), (5120, nsA 0 61 15120 v21.Dots)]
abbrev Z1g : Hp := [(6, ⟨0, true, 96, 3, [.j v26.W, .j v26.H, sD v26.Dots]⟩), (12, ⟨0, true, 96, 3, [.j v27.W, .j v27.H, .rsl 5120 0 0 v27.Dots.length]⟩), (5120, nsA 0 61 15120 v27.Dots)]
abbrev Z1h : Hp := [(6, ⟨0, true, 96, 3, [.j v3.W, .j v3.H, sD v3.Dots]⟩), (12, ⟨0, true, 96, 3, [.j x19.W, .j x19.H, .rsl 5120 0 0 x19.Dots.length]⟩), (5120, nsA 0 61 15120 x19.Dots)]
abbrev Z1i : Env := [(0, sC t0), (1, .j t1), (2, .j t2), Z26, (50, sC t0), (51, .j (Z28 t0)), (52, .j v4)]
abbrev Z1k : Env := (114, .ipt Z2e (0 + v34.toNat * 2 + 0)) :: (113, .ipt Z2e (0 + v34.toNat * 2)) :: (112, .j v34) :: (111, .j (2 * v28)) :: (110, .j v28) :: (109, .rsl (Z2i v22 v34) 0 0 ((v33.Dots.getD (Z21 v22 v34).toNat []).length)) :: (Z1a t0 v22 v28 v33 v34)
abbrev Z1l : Hp := [(6, ⟨0, true, 96, 3, Z23⟩)]
abbrev Z1m : Hp := [(6, ⟨0, true, 96, 3, [.j v37.W, .j v37.H, sD v37.Dots]⟩), (12, ⟨0, true, 96, 3, [.j v38.W, .j v38.H, .rsl 5120 0 0 v38.Dots.length]⟩), (5120, nsA 0 61 15120 v38.Dots)]
abbrev Z1n : Env := [Z26, Z2c, (77, sC t0), (Z2o t0), (79, .j v22)]
abbrev Z1o : Hp := [(6, ⟨0, true, 96, 3, [.j v21.W, .j v21.H, .rsl 5060 0 0 v21.Dots.length]⟩), (5060, nsA 0 61 15060 v21.Dots)]
abbrev Z1p : Hp := (12, ⟨0, true, 96, 3, (Z2k x19)⟩) :: (12, ⟨0, true, 96, 3, Z23⟩) :: (601, nsA 0 61 10601 x19.Dots) :: (Z1j v3)
abbrev Z1q : Env := [(7, .j (1 : Int)), Z26]
abbrev Z1r : Env := (117, .ref (Z2i v22 v34) 0 (0 + ((2 * v28) + ((Z29 v34).X)).toNat * 1)) :: (Z1e t0 v22 v28 v33 v34)
abbrev Z1s : Hp := [(6, ⟨0, true, 96, 3, [.j (0 : Int), .j (0 : Int), sD []]⟩)]
abbrev Z1t : Env := [(75, .j t2), (74, .j t1), (0, sC t0), Z26]
abbrev Z1u : Hp := (1000, ⟨0, true, 96, 3, [.j x19.W, .j x19.H, .rsl 1500 0 0 x19.Dots.length]⟩) :: (1500, nsA 0 61 11500 x19.Dots) :: (Z1j v3)
abbrev Z1v : Env := [Z26, (0, sC t0), (1, .j t1), (2, .j t2)]
abbrev Z1w : Env := (98, .bool ((bAnd .u8 (bShr .u8 (Z2g t0 v22 v28) v34) (1 : Int)) == 1)) :: (17, .j v34) :: (Z18 t0 v22 v28 v34)
abbrev Z1x : List (Nat × FM) := [(15120, .same 15120)]
abbrev Z1y : Hp := (6, ⟨0, true, 96, 3, (Z2j v21)⟩) :: (Z1f v20 v21)
abbrev Z1z : Env := [Z26]
abbrev Z20 : Env := (16, .int .u8 (Z2g t0 v22 v28)) :: (15, .j v28) :: (Z1d t0 v22 v28)
end
theorem f_grid_FromCells_ok  {t0 : List (List Int)} {t1 : Int} {t2 : Int} {r : Yk × Int} (H : Y59 t0 t1 t2 = some r) : QSpec Tryd.prog 51 [slA (eL (eI .u8)) t0, .int .i64 t1, .int .i64 t2] (.tup [.agg [.int .i64 r.1.W, .int .i64 r.1.H, slA (eL eB) r.1.Dots], .int .i64 r.2]) := by
 refine Yj Tryd.func51 rfl (by simp [Tryd.ntmps51]) ?_
 rw [Tryd.ntmps51]
 unfold Y59 at H
 change AW _ _ _ [(0, sC t0), (1, .j t1), (2, .j t2)] [] _
 refine Y0 (Yo rfl rfl rfl 6 rfl (by kernel_rfl : zc Tryd.prog 96 = some [.j 0, .j 0, .slice none 0 0]) (by kernel_rfl) ?_)
 refine Y2 1 [6, 0, 1, 2] (Z1v t0 t1 t2) (Ya (Z1v t0 t1 t2) Z1l (StC.mk (phi [(6, some 6)]) (.o rfl (.i3 .nil) .nil) rfl (.cons (.r rfl) (.i3 .nil))) ?_)
 refine Y1 (Yc (Y0 ?_))
 have ⟨g1, H⟩ := Y6 H
 refine Y8 31 [48, 6, 0, 1, 2] ((48, .bool (cond (Z27 t1 t2) true (decide ((Int.tdiv t2 (3 : Int)) < (Z28 t0))))) :: (Z1v t0 t1 t2)) ⟨(fun h => h), (fun h => by first | exact h | (simpa using h) | grind), (fun h => h), (fun _ => by decide), (fun h => h), (fun h => by first | exact h | (simpa using h) | grind), (fun h => h), (fun h => by first | exact h | (simpa using h) | grind), (fun h => h), (fun h => by first | exact h | (simpa using h) | grind), (fun h => h), (fun _ => by decide), (fun h => h), (fun h => by first | exact h | (simpa using h) | grind), (fun h => h), (fun h => h), (fun _ => by decide), g1, (fun h => h), (fun h => h), (fun h => by first | exact h | (simpa using h) | grind), trivial⟩ (Y1 (Y9 (b := cond (Z27 t1 t2) true (decide ((Int.tdiv t2 (3 : Int)) < (Z28 t0)))) H rfl (fun c2 H => ?_) (fun c2 H => ?_)))
 ·refine Y0 (Y2 1 [49, 6] ((49, .agg Z23) :: Z1z) ?_)
  refine OpsW.store rfl rfl rfl rfl trivial trivial rfl rfl rfl (by kernel_rfl) (Y5 (by kernel_rfl)) (X0 (by kernel_rfl)) ?_
  change OpsW _ _ _ _ _ ((6, ⟨0, true, 96, 3, Z23⟩) :: Z1l) _
  refine Y2 1 [7, 6] Z1q (Ya Z1q Z1l (StC.mk (phi [(6, some 6)]) (.o rfl (.i3 .nil) .nil) rfl (.cons .im (.cons (.r rfl) .nil))) (Y1 ?_))
  obtain rfl := X1 H
  refine AW.recast (env' := [Z26, (7, .j (1 : Int))]) (h' := Z1s) (StC.mk (phi [(6, some 6)]) (.o rfl (.i2 (.cons .nil .nil)) .nil) rfl (.cons (.r rfl) (.cons .im .nil))) (Yl ?_)
  try simp only [Ex.t, Ex.b]
  exact Yh rfl (.cell rfl (by kernel_rfl) (.tmp .nil))
 refine Yb (Yc (Y0 (Y2 3 [52, 51, 50, 6, 0, 1, 2] ((52, .j (0 : Int)) :: (51, .j (Z28 t0)) :: (50, sC t0) :: (Z1v t0 t1 t2)) ?_)))
 refine Y1 (Yd ?_)
 refine Yq (fun loop (s : Yk × Int) => Y5d t0 t1 t2 loop s.1 s.2) r (fun (s : Yk × Int) => [(0, sC t0), (1, .j t1), (2, .j t2), Z26, (50, sC t0), (51, .j (Z28 t0)), (52, .j s.2)]) (fun (s : Yk × Int) => [(6, ⟨0, true, 96, 3, [.j s.1.W, .j s.1.H, sD s.1.Dots]⟩)]) ?_ 1000000 ((⟨(0 : Int), (0 : Int), []⟩ : Yk), (0 : Int)) H (StC.mk (phi [(6, some 6)]) (.o rfl (.i2 (.cons .nil .nil)) .nil) rfl (.i3 (.cons (.r rfl) (.i3 .nil))))
 intro loop5 s H
 obtain ⟨v3, v4⟩ := s
 unfold Y5d at H
 change AW _ _ _ (Z1i t0 t1 t2 v4) (Z1j v3) _
 refine Y0 (Y2 1 [53, 0, 1, 2, 6, 50, 51, 52] ((53, .bool (decide (v4 < (Z28 t0)))) :: (Z1i t0 t1 t2 v4)) ?_)
 refine Y1 (Yc (Y9 (b := decide (v4 < (Z28 t0))) H rfl (fun c6 H => ?_) (fun c6 H => ?_)))
 ·refine Yb (Yc (Yd (Y0 ?_)))
  have ⟨g7, H⟩ := Y6 H
  refine Y8 1 [54, 0, 1, 2, 6, 50, 51, 52] ((54, .ipt (t0.flatMap (eL (eI .u8))) (v4.toNat * 1)) :: (Z1i t0 t1 t2 v4)) ⟨g7, trivial⟩ (OpsW.asU (sU (Z2a t0 v4)) rfl rfl (T.load rfl trivial (by kernel_rfl) (Yn (eL (eI .u8)) 1 (fun _ => rfl) t0 [] v4.toNat (ltN g7) (fun a => .sl (a.flatMap (eI .u8)) a.length) (fun _ => rfl))) (Y2 1 [9, 0, 1, 2, 6, 50, 51, 52] ((9, sU (Z2a t0 v4)) :: (Z1i t0 t1 t2 v4)) ?_))
  refine Y1 (Yc (Y0 ?_))
  have ⟨g8, H⟩ := Y6 H
  refine Y8 5 [60, 9, 0, 1, 2, 6, 50, 51, 52] ((60, .bool (decide ((Int.tdiv t1 (2 : Int)) < (Z2f t0 v4)))) :: (9, sU (Z2a t0 v4)) :: (Z1i t0 t1 t2 v4)) ⟨(by decide), g8, trivial⟩ (Y1 (Y9 (b := decide ((Int.tdiv t1 (2 : Int)) < (Z2f t0 v4))) H rfl (fun c9 H => ?_) (fun c9 H => ?_)))
  ·refine Y0 (Y2 1 [61, 6] ((61, .agg Z23) :: Z1z) ?_)
   refine OpsW.store rfl rfl rfl rfl trivial trivial rfl rfl rfl (by kernel_rfl) (Y5 (by kernel_rfl)) (X0 (by kernel_rfl)) ?_
   change OpsW _ _ _ _ _ ((6, ⟨0, true, 96, 3, Z23⟩) :: (Z1j v3)) _
   refine Y2 1 [7, 6] Z1q (Ya Z1q Z1l (StC.mk (phi [(6, some 6)]) (.o rfl (.i3 .nil) .nil) rfl (.cons .im (.cons (.r rfl) .nil))) (Y1 ?_))
   obtain rfl := X1 H
   refine AW.recast (env' := [Z26, (7, .j (1 : Int))]) (h' := Z1s) (StC.mk (phi [(6, some 6)]) (.o rfl (.i2 (.cons .nil .nil)) .nil) rfl (.cons (.r rfl) (.cons .im .nil))) (Yl ?_)
   try simp only [Ex.t, Ex.b]
   exact Yh rfl (.cell rfl (by kernel_rfl) (.tmp .nil))
  refine Yb (Y0 (Y2 3 [64, 63, 62, 0, 1, 2, 6, 50, 51, 52] ((64, .j (0 : Int)) :: (63, .j (Z2f t0 v4)) :: (62, sU (Z2a t0 v4)) :: (Z1i t0 t1 t2 v4)) ?_))
  refine Y1 (Yd ?_)
  refine Yq (fun loop (s : Yk × Int) => Y5h t0 loop5 v4 loop s.1 s.2) r (fun (s : Yk × Int) => [(0, sC t0), (1, .j t1), (2, .j t2), Z26, (50, sC t0), (51, .j (Z28 t0)), (52, .j v4), (62, sU (Z2a t0 v4)), (63, .j (Z2f t0 v4)), (64, .j s.2)]) (fun (s : Yk × Int) => [(6, ⟨0, true, 96, 3, [.j s.1.W, .j s.1.H, sD s.1.Dots]⟩)]) ?_ 1000000 (v3, (0 : Int)) H (StC.mk (phi [(6, some 6)]) (.o rfl (.i3 .nil) .nil) rfl (.i3 (.cons (.r rfl) (.i6 .nil))))
  intro loop12 s H
  obtain ⟨v10, v11⟩ := s
  unfold Y5h at H
  change AW _ _ _ (Z1c t0 t1 t2 v4 v11) [(6, ⟨0, true, 96, 3, [.j v10.W, .j v10.H, sD v10.Dots]⟩)] _
  refine Y0 (Y2 1 [65, 0, 1, 2, 6, 50, 51, 52, 62, 63, 64] ((65, .bool (decide (v11 < (Z2f t0 v4)))) :: (Z1c t0 t1 t2 v4 v11)) ?_)
  refine Y1 (Yc (Y9 (b := decide (v11 < (Z2f t0 v4))) H rfl (fun c13 H => ?_) (fun c13 H => ?_)))
  ·refine Yb (Yc (Yd (Y0 ?_)))
   have ⟨g14, H⟩ := Y6 H
   refine Y8 1 [66, 0, 1, 2, 6, 50, 51, 52, 62, 63, 64] ((66, .ipt ((Z2a t0 v4).flatMap (eI .u8)) (v11.toNat * 1)) :: (Z1c t0 t1 t2 v4 v11)) ⟨g14, trivial⟩ (OpsW.asU (.int .u8 ((Z2a t0 v4).getD v11.toNat 0)) rfl rfl (T.load rfl trivial (by kernel_rfl) (Yn (eI .u8) 1 (fun _ => rfl) (Z2a t0 v4) (0 : Int) v11.toNat (ltN g14) (fun a => .val (.int .u8 a)) (fun _ => rfl))) (Y2 1 [11, 0, 1, 2, 6, 50, 51, 52, 62, 63, 64] ((11, .int .u8 ((Z2a t0 v4).getD v11.toNat 0)) :: (Z1c t0 t1 t2 v4 v11)) ?_))
   refine Y1 (Y0 (Y2 1 [68, 0, 1, 2, 6, 50, 51, 52, 62, 63, 64] ((68, .int .u8 ((Z2a t0 v4).getD v11.toNat 0)) :: (Z1c t0 t1 t2 v4 v11)) ?_))
   have ⟨x15, hx15, H⟩ := Yt H
   refine Ys rfl (.cons (.pur rfl) .nil) (f_cell_Valid_ok hx15) (Y2 1 [70, 0, 1, 2, 6, 50, 51, 52, 62, 63, 64] ((70, .bool (!x15)) :: (Z1c t0 t1 t2 v4 v11)) (Y1 (Y9 (b := !x15) H rfl (fun c16 H => ?_) (fun c16 H => ?_))))
   ·refine Y0 (Y2 1 [71, 6] ((71, .agg Z23) :: Z1z) ?_)
    refine OpsW.store rfl rfl rfl rfl trivial trivial rfl rfl rfl (by kernel_rfl) (Y5 (by kernel_rfl)) (X0 (by kernel_rfl)) ?_
    change OpsW _ _ _ _ _ [(6, ⟨0, true, 96, 3, Z23⟩), (6, ⟨0, true, 96, 3, [.j v10.W, .j v10.H, sD v10.Dots]⟩)] _
    refine Y2 1 [7, 6] Z1q (Ya Z1q Z1l (StC.mk (phi [(6, some 6)]) (.o rfl (.i3 .nil) .nil) rfl (.cons .im (.cons (.r rfl) .nil))) (Y1 ?_))
    obtain rfl := X1 H
    refine AW.recast (env' := [Z26, (7, .j (1 : Int))]) (h' := Z1s) (StC.mk (phi [(6, some 6)]) (.o rfl (.i2 (.cons .nil .nil)) .nil) rfl (.cons (.r rfl) (.cons .im .nil))) (Yl ?_)
    try simp only [Ex.t, Ex.b]
    exact Yh rfl (.cell rfl (by kernel_rfl) (.tmp .nil))
   refine Yb (Ye ?_)
   have ⟨g17, H⟩ := Y6 H
   refine Y8 2 [64, 0, 1, 2, 6, 50, 51, 52, 62, 63] [(64, .j (v11 + 1)), (0, sC t0), (1, .j t1), (2, .j t2), Z26, (50, sC t0), (51, .j (Z28 t0)), (52, .j v4), (62, sU (Z2a t0 v4)), (63, .j (Z2f t0 v4))] ⟨g17, trivial⟩ (Y1 ?_)
   exact ⟨(v10, v11 + 1), H, (StC.mk (phi [(6, some 6)]) (.o rfl (.i3 .nil) .nil) rfl (.i3 (.cons (.r rfl) (.i6 .nil))))⟩
  refine AW.exit (Ye ?_)
  have ⟨g18, H⟩ := Y6 H
  refine Y8 2 [52, 0, 1, 2, 6, 50, 51] [(52, .j (v4 + 1)), (0, sC t0), (1, .j t1), (2, .j t2), Z26, (50, sC t0), (51, .j (Z28 t0))] ⟨g18, trivial⟩ (Y1 ?_)
  exact ⟨(v10, v4 + 1), H, (StC.mk (phi [(6, some 6)]) (.o rfl (.i3 .nil) .nil) rfl (.i3 (.cons (.r rfl) (.i3 .nil))))⟩
 refine AW.exit ?_
 refine Y0 (Y2 2 [75, 74, 0, 6] (Z1t t0 t1 t2) ?_)
 have ⟨x19, hx19, H⟩ := Yt H
 refine OpsW.call rfl rfl (by kernel_rfl) [] _ _ rfl (Yg trivial) (.cons (.pur rfl) (.cons (.pur rfl) .nil)) (f_grid_New_own hx19) ?_
 rintro _ _ ⟨rfl, rfl⟩
 refine ⟨(fresh_F0 rfl rfl), .inl rfl, ?_⟩
 refine OpsW.heapEq (heap_mid0 rfl) ?_
 change OpsW _ _ _ _ ((76, .agg [.j x19.W, .j x19.H, .rsl 1500 0 0 x19.Dots.length]) :: (Z1t t0 t1 t2)) ((Z1u v3 x19) ++ fmsH [fmA 11500 4 1 eB x19.Dots]) _
 refine Ya ((76, .agg (Z2k x19)) :: (Z1t t0 t1 t2)) ((Z2p v3 x19) ++ fmsH (Z2l x19)) (Yp (hc := (Z1u v3 x19)) (fs := [fmA 11500 4 1 eB x19.Dots]) (hc' := (Z2p v3 x19)) (fs' := (Z2l x19)) rfl [(601, some 1500), (6, some 6)] [(10601, .same 11500)] rfl (.o rfl (Yf rfl rfl (by decide) rfl rfl rfl) (.o rfl (.i3 .nil) .nil)) rfl (.cons rfl (Ym rfl) .nil) (.cons (.agg (.i2 (.cons (.s rfl) .nil))) (.i3 (.cons (.r rfl) .nil)))) ?_
 change OpsW _ _ _ _ ((76, .agg (Z2k x19)) :: (Z1t t0 t1 t2)) ((Z2p v3 x19) ++ fmsH (Z2l x19)) _
 refine Yo rfl rfl rfl 12 (Y4r rfl) (by kernel_rfl : zc Tryd.prog 96 = some [.j 0, .j 0, .slice none 0 0]) (by kernel_rfl) (OpsW.store rfl rfl rfl rfl trivial trivial rfl rfl rfl (by kernel_rfl) (Y5 (by kernel_rfl)) (X0 (by kernel_rfl)) ?_)
 change OpsW _ _ _ _ _ ((Z1p v3 x19) ++ fmsH (Z2l x19)) _
 refine Y2 0 [12, 0, 6] (Z2c :: (0, sC t0) :: Z1z) (Ya (Z2c :: (0, sC t0) :: Z1z) ((Z1h v3 x19) ++ fmsH [fmA 15120 4 1 eB x19.Dots]) (Yp (hc := (Z1p v3 x19)) (fs := (Z2l x19)) (hc' := (Z1h v3 x19)) (fs' := [fmA 15120 4 1 eB x19.Dots]) rfl [(6, some 6), (12, some 12), (5120, some 601)] [(15120, .same 10601)] rfl (.o rfl (.i3 .nil) (.o rfl (.i2 (.cons (.s rfl) .nil)) (.o rfl (Yf rfl rfl (by decide) rfl rfl rfl) .nil))) rfl (.cons rfl (Ym rfl) .nil) (.cons (.r rfl) (.cons .im (.cons (.r rfl) .nil)))) ?_)
 refine Y1 (Yc (Y0 (Y2 3 [79, 78, 77, 12, 6] ((79, .j (0 : Int)) :: (Z2o t0) :: (77, sC t0) :: Z2c :: Z1z) ?_)))
 refine Y1 (Yd ?_)
 refine Yq (fun loop (s : Yk × Yk × Int) => Y5e t0 loop s.1 s.2.1 s.2.2) r (fun (s : Yk × Yk × Int) => [Z26, Z2c, (77, sC t0), (Z2o t0), (79, .j s.2.2)]) (fun (s : Yk × Yk × Int) => ([(6, ⟨0, true, 96, 3, [.j s.1.W, .j s.1.H, sD s.1.Dots]⟩), (12, ⟨0, true, 96, 3, [.j s.2.1.W, .j s.2.1.H, .rsl 5120 0 0 s.2.1.Dots.length]⟩), (5120, nsA 0 61 15120 s.2.1.Dots)] ++ fmsH [fmA 15120 4 1 eB s.2.1.Dots])) ?_ 1000000 (v3, x19, (0 : Int)) H (Yp (hc := (Z1h v3 x19)) (fs := [fmA 15120 4 1 eB x19.Dots]) (hc' := (Z1h v3 x19)) (fs' := [fmA 15120 4 1 eB x19.Dots]) rfl [(6, some 6), (12, some 12), (5120, some 5120)] Z1x rfl (.o rfl (.i3 .nil) (.o rfl (.i2 (.cons (.s rfl) .nil)) (.o rfl (Yf rfl rfl (by decide) rfl rfl rfl) .nil))) rfl (.cons rfl (Ym rfl) .nil) (.cons (.r rfl) (.cons (.r rfl) (.i3 .nil))))
 intro loop23 s H
 obtain ⟨v20, v21, v22⟩ := s
 unfold Y5e at H
 change AW _ _ _ (Z1n t0 v22) ((Z1f v20 v21) ++ fmsH (Z2m v21)) _
 refine Y0 (Y2 1 [80, 6, 12, 77, 78, 79] ((80, .bool (decide (v22 < (Z28 t0)))) :: (Z1n t0 v22)) ?_)
 refine Y1 (Yc (Y9 (b := decide (v22 < (Z28 t0))) H rfl (fun c24 H => ?_) (fun c24 H => ?_)))
 ·refine Yb (Yc (Yd (Y0 ?_)))
  have ⟨g25, H⟩ := Y6 H
  refine Y8 2 [82, 81, 6, 12, 77, 78, 79] ((82, .ipt (t0.flatMap (eL (eI .u8))) (v22.toNat * 1)) :: (81, .j v22) :: (Z1n t0 v22)) ⟨g25, trivial⟩ (OpsW.asU (sU (Z25 t0 v22)) rfl rfl (T.load rfl trivial (by kernel_rfl) (Yn (eL (eI .u8)) 1 (fun _ => rfl) t0 [] v22.toNat (ltN g25) (fun a => .sl (a.flatMap (eI .u8)) a.length) (fun _ => rfl))) (Y2 2 [14, 13, 6, 12, 77, 78, 79] ((14, sU (Z25 t0 v22)) :: (13, .j v22) :: (Z1n t0 v22)) ?_))
  refine Y1 (Y0 (Y2 3 [86, 85, 84, 13, 6, 12, 77, 78, 79] ((86, .j (0 : Int)) :: (Z2b t0 v22) :: (84, sU (Z25 t0 v22)) :: (13, .j v22) :: (Z1n t0 v22)) ?_))
  refine Y1 (Yd ?_)
  refine Yq (fun loop (s : Yk × Yk × Int) => Y5f t0 loop23 v22 loop s.1 s.2.1 s.2.2) r (fun (s : Yk × Yk × Int) => [Z26, Z2c, (13, .j v22), (77, sC t0), (Z2o t0), (79, .j v22), (84, sU (Z25 t0 v22)), (Z2b t0 v22), (86, .j s.2.2)]) (fun (s : Yk × Yk × Int) => ([(6, ⟨0, true, 96, 3, [.j s.1.W, .j s.1.H, sD s.1.Dots]⟩), (12, ⟨0, true, 96, 3, [.j s.2.1.W, .j s.2.1.H, .rsl 5120 0 0 s.2.1.Dots.length]⟩), (5120, nsA 0 61 15120 s.2.1.Dots)] ++ fmsH [fmA 15120 4 1 eB s.2.1.Dots])) ?_ 1000000 (v20, v21, (0 : Int)) H (Yp (hc := (Z1f v20 v21)) (fs := (Z2m v21)) (hc' := (Z1f v20 v21)) (fs' := (Z2m v21)) rfl [(6, some 6), (12, some 12), (5120, some 5120)] Z1x rfl (.o rfl (.i3 .nil) (.o rfl (.i2 (.cons (.s rfl) .nil)) (.o rfl (Yf rfl rfl (by decide) rfl rfl rfl) .nil))) rfl (.cons rfl (Ym rfl) .nil) (.cons (.r rfl) (.cons (.r rfl) (.i7 .nil))))
  intro loop29 s H
  obtain ⟨v26, v27, v28⟩ := s
  unfold Y5f at H
  change AW _ _ _ (Z1d t0 v22 v28) ((Z1g v26 v27) ++ fmsH (Z2n v27)) _
  refine Y0 (Y2 1 [87, 6, 12, 13, 77, 78, 79, 84, 85, 86] ((87, .bool (decide (v28 < ((Z25 t0 v22).length : Int)))) :: (Z1d t0 v22 v28)) ?_)
  refine Y1 (Yc (Y9 (b := decide (v28 < ((Z25 t0 v22).length : Int))) H rfl (fun c30 H => ?_) (fun c30 H => ?_)))
  ·refine Yb (Yc (Yd (Y0 ?_)))
   have ⟨g31, H⟩ := Y6 H
   refine Y8 2 [89, 88, 6, 12, 13, 77, 78, 79, 84, 85, 86] ((89, .ipt ((Z25 t0 v22).flatMap (eI .u8)) (v28.toNat * 1)) :: (88, .j v28) :: (Z1d t0 v22 v28)) ⟨g31, trivial⟩ (OpsW.asU (.int .u8 (Z2g t0 v22 v28)) rfl rfl (T.load rfl trivial (by kernel_rfl) (Yn (eI .u8) 1 (fun _ => rfl) (Z25 t0 v22) (0 : Int) v28.toNat (ltN g31) (fun a => .val (.int .u8 a)) (fun _ => rfl))) (Y2 2 [16, 15, 6, 12, 13, 77, 78, 79, 84, 85, 86] (Z20 t0 v22 v28) ?_))
   refine Y1 (Y0 (Y2 1 [91, 16, 15, 6, 12, 13, 77, 78, 79, 84, 85, 86] ((91, .j (0 : Int)) :: (Z20 t0 v22 v28)) ?_))
   refine Y1 (Yd ?_)
   refine Yq (fun loop (s : Yk × Yk × Int) => Y5g t0 v22 loop29 v28 loop s.1 s.2.1 s.2.2) r (fun (s : Yk × Yk × Int) => [Z26, Z2c, (13, .j v22), (15, .j v28), (16, .int .u8 (Z2g t0 v22 v28)), (77, sC t0), (Z2o t0), (79, .j v22), (84, sU (Z25 t0 v22)), (Z2b t0 v22), (86, .j v28), (91, .j s.2.2)]) (fun (s : Yk × Yk × Int) => ([(6, ⟨0, true, 96, 3, [.j s.1.W, .j s.1.H, sD s.1.Dots]⟩), (12, ⟨0, true, 96, 3, [.j s.2.1.W, .j s.2.1.H, .rsl 5120 0 0 s.2.1.Dots.length]⟩), (5120, nsA 0 61 15120 s.2.1.Dots)] ++ fmsH [fmA 15120 4 1 eB s.2.1.Dots])) ?_ 1000000 (v26, v27, (0 : Int)) H (Yp (hc := (Z1g v26 v27)) (fs := (Z2n v27)) (hc' := (Z1g v26 v27)) (fs' := (Z2n v27)) rfl [(6, some 6), (12, some 12), (5120, some 5120)] Z1x rfl (.o rfl (.i3 .nil) (.o rfl (.i2 (.cons (.s rfl) .nil)) (.o rfl (Yf rfl rfl (by decide) rfl rfl rfl) .nil))) rfl (.cons rfl (Ym rfl) .nil) (.cons (.r rfl) (.cons (.r rfl) (.i9 (.cons .im .nil)))))
   intro loop35 s H
   obtain ⟨v32, v33, v34⟩ := s
   unfold Y5g at H
   change AW _ _ _ (Z18 t0 v22 v28 v34) ((Z1b v32 v33) ++ fmsH (Z2d v33)) _
   refine Y0 (Y2 1 [92, 6, 12, 13, 15, 16, 77, 78, 79, 84, 85, 86, 91] ((92, .bool (decide (v34 < 6))) :: (Z18 t0 v22 v28 v34)) ?_)
   refine Y1 (Yc (Y9 (b := decide (v34 < 6)) H rfl (fun c36 H => ?_) (fun c36 H => ?_)))
   ·refine Yb ?_
    refine Y08 (fun (y : Yk × Yk) => Y39 loop35 v34 y.1 y.2) r (fun (y : Yk × Yk) => (Z18 t0 v22 v28 v34)) (fun (y : Yk × Yk) => ([(6, ⟨0, true, 96, 3, [.j y.1.W, .j y.1.H, sD y.1.Dots]⟩), (12, ⟨0, true, 96, 3, [.j y.2.W, .j y.2.H, .rsl 5120 0 0 y.2.Dots.length]⟩), (5120, nsA 0 61 15120 y.2.Dots)] ++ fmsH [fmA 15120 4 1 eB y.2.Dots])) ?_ ?_
    ·refine Yd (Y0 (Y2 2 [17, 6, 12, 13, 15, 16, 77, 78, 79, 84, 85, 86, 91] ((17, .j v34) :: (Z18 t0 v22 v28 v34)) ?_))
     refine Y1 (Y0 ?_)
     have ⟨g40, H⟩ := Y6 H
     refine Y8 5 [98, 17, 6, 12, 13, 15, 16, 77, 78, 79, 84, 85, 86, 91] (Z1w t0 v22 v28 v34) ⟨g40, trivial⟩ (Y1 (Y9 (b := (bAnd .u8 (bShr .u8 (Z2g t0 v22 v28) v34) (1 : Int)) == 1) H rfl (fun c41 H => ?_) (fun c41 H => ?_)))
     ·refine AW.drawT 18 Tryd.checked.mixed (by kernel_rfl) ?_
      have ⟨g42, H⟩ := Y6 H
      have ⟨g43, H⟩ := Y6 H
      refine QOps.sz (N := 122) 7 ((105, .ipt Z2e (0 + v34.toNat * 2 + 1)) :: (104, .ipt Z2e (0 + v34.toNat * 2)) :: (103, .j v34) :: (102, .j (3 * v22)) :: (101, .j v22) :: (100, .rsl 5120 0 0 v33.Dots.length) :: (99, .ref 12 0 2) :: (Z1w t0 v22 v28 v34)) ⟨g42, g43, trivial⟩ (QOps.asU (.j ((Z29 v34).Y)) rfl (T.load rfl trivial (by kernel_rfl) (tabOff2 (Y3u eS_Point 2 (fun _ => rfl) Y26 Y0c v34.toNat (ltA (n := 6) g43 rfl) 1 (fun a => .val (.j a.Y)) (fun _ => rfl)))) ?_)
      have ⟨g44, H⟩ := Y6 H
      have ⟨g45, H⟩ := Y6 H
      refine QOps.sz (N := 122) 2 (Z1a t0 v22 v28 v33 v34) ⟨g44, g45, trivial⟩ (QOps.asU (.rsl (Z2i v22 v34) 0 0 ((v33.Dots.getD (Z21 v22 v34).toNat []).length)) rfl (Y2o rfl trivial (by kernel_rfl) rfl rfl rfl (Y5b (ltN g45) (by first | omega | (simp only [Z21, Z25, Z28, Z29, Z2e, Z2g, Z2i]; omega)))) ?_)
      have ⟨g46, H⟩ := Y6 H
      refine QOps.sz (N := 122) 5 (Z1k t0 v22 v28 v33 v34) ⟨g46, g43, trivial⟩ (QOps.asU (.j ((Z29 v34).X)) rfl (T.load rfl trivial (by kernel_rfl) (tabOff2 (Y3u eS_Point 2 (fun _ => rfl) Y26 Y0c v34.toNat (ltA (n := 6) g43 rfl) 0 (fun a => .val (.j a.X)) (fun _ => rfl)))) ?_)
      have ⟨g47, H⟩ := Y6 H
      refine QOps.sz (N := 122) 1 ((116, .j ((2 * v28) + ((Z29 v34).X))) :: (115, .j ((Z29 v34).X)) :: (Z1k t0 v22 v28 v33 v34)) ⟨g47, trivial⟩ ?_
      refine QOps.nil (Y2 0 [116, 109, 6, 12, 13, 15, 16, 77, 78, 79, 84, 85, 86, 91] (Z1e t0 v22 v28 v33 v34) ?_)
      have ⟨g48, H⟩ := Y6 H
      change OpsW _ _ _ _ (Z1e t0 v22 v28 v33 v34) ((Z1b v32 v33) ++ fmsH (Z2d v33)) _
      refine OpsW.asU (.ref (Z2i v22 v34) 0 (0 + ((2 * v28) + ((Z29 v34).X)).toNat * 1)) rfl rfl (T.idxF rfl rfl trivial trivial (by kernel_rfl) (by kernel_rfl) (row_f rfl rfl (ltN g45)) rfl rfl g48) ?_
      change OpsW _ _ _ _ (Z1r t0 v22 v28 v33 v34) ((Z1b v32 v33) ++ fmsH (Z2d v33)) _
      refine Y1x (enc := eB) (k := 1) (xs := v33.Dots) (hc' := (Z19 v22 v28 v32 v33 v34)) false true [.val (.bool true)] (Z21 v22 v34).toNat ((2 * v28) + ((Z29 v34).X)).toNat 0 rfl rfl rfl (by first | rfl | exact congrArg (AV.ref (Z2i v22 v34) 0) (by first | omega | (simp only [Z21, Z22, Z25, Z28, Z29, Z2d, Z2g, Z2h, Z2i]; omega))) trivial trivial rfl rfl (fun _ => rfl) rfl (by kernel_rfl) (Y5 (by kernel_rfl)) (ltN g45) (ltN g48) (X0 (by kernel_rfl)) rfl (by simp only [Xs, nsA_set, Z21, Z22, Z25, Z26, Z28, Z29, Z2b, Z2c, Z2d, Z2g, Z2h, Z2i, Z2o, Z18, Z19, Z1b, Z1e, Z1r]) ?_
      change OpsW _ _ _ _ (Z1r t0 v22 v28 v33 v34) ((Z19 v22 v28 v32 v33 v34) ++ fmsH [fmA 15120 4 1 eB (Z2h v22 v28 v33 v34)]) _
      refine Y2 0 [6, 12, 13, 15, 16, 77, 78, 79, 84, 85, 86, 91] (Z18 t0 v22 v28 v34) (Y1 ?_)
      exact ⟨(v32, (Z24 v22 v28 v33 v34)), H, (Yp (hc := (Z19 v22 v28 v32 v33 v34)) (fs := [fmA 15120 4 1 eB (Z2h v22 v28 v33 v34)]) (hc' := [(6, ⟨0, true, 96, 3, [.j v32.W, .j v32.H, sD v32.Dots]⟩), (12, ⟨0, true, 96, 3, [.j (Z24 v22 v28 v33 v34).W, .j (Z24 v22 v28 v33 v34).H, .rsl 5120 0 0 (Z24 v22 v28 v33 v34).Dots.length]⟩), (5120, nsA 0 61 15120 (Z24 v22 v28 v33 v34).Dots)]) (fs' := [fmA 15120 4 1 eB (Z24 v22 v28 v33 v34).Dots]) rfl [(6, some 6), (12, some 12), (5120, some 5120)] Z1x rfl (.o rfl (.i3 .nil) (.o rfl (.i2 (.cons (.s rfl) .nil)) (.o rfl (Yf rfl rfl (by decide) rfl rfl rfl) .nil))) rfl (.cons rfl (Ym rfl) .nil) (.cons (.r rfl) (.cons (.r rfl) (.i9 (.cons .im .nil)))))⟩
     refine Yb ?_
     exact ⟨(v32, v33), H, (Yp (hc := (Z1b v32 v33)) (fs := (Z2d v33)) (hc' := (Z1b v32 v33)) (fs' := (Z2d v33)) rfl [(6, some 6), (12, some 12), (5120, some 5120)] Z1x rfl (.o rfl (.i3 .nil) (.o rfl (.i2 (.cons (.s rfl) .nil)) (.o rfl (Yf rfl rfl (by decide) rfl rfl rfl) .nil))) rfl (.cons rfl (Ym rfl) .nil) (.cons (.r rfl) (.cons (.r rfl) (.i9 (.cons .im .nil)))))⟩
    rintro ⟨v37, v38⟩ H
    unfold Y39 at H
    change AW _ _ _ (Z18 t0 v22 v28 v34) ((Z1m v37 v38) ++ fmsH [fmA 15120 4 1 eB v38.Dots]) _
    refine Ye ?_
    have ⟨g39, H⟩ := Y6 H
    refine Y8 2 [91, 6, 12, 13, 15, 16, 77, 78, 79, 84, 85, 86] [(91, .j (v34 + 1)), Z26, Z2c, (13, .j v22), (15, .j v28), (16, .int .u8 (Z2g t0 v22 v28)), (77, sC t0), (Z2o t0), (79, .j v22), (84, sU (Z25 t0 v22)), (Z2b t0 v22), (86, .j v28)] ⟨g39, trivial⟩ (Y1 ?_)
    exact ⟨(v37, v38, v34 + 1), H, (Yp (hc := (Z1m v37 v38)) (fs := [fmA 15120 4 1 eB v38.Dots]) (hc' := (Z1m v37 v38)) (fs' := [fmA 15120 4 1 eB v38.Dots]) rfl [(6, some 6), (12, some 12), (5120, some 5120)] Z1x rfl (.o rfl (.i3 .nil) (.o rfl (.i2 (.cons (.s rfl) .nil)) (.o rfl (Yf rfl rfl (by decide) rfl rfl rfl) .nil))) rfl (.cons rfl (Ym rfl) .nil) (.cons (.r rfl) (.cons (.r rfl) (.i9 (.cons .im .nil)))))⟩
   refine AW.exit (Ye ?_)
   have ⟨g49, H⟩ := Y6 H
   refine Y8 2 [86, 6, 12, 13, 77, 78, 79, 84, 85] [(86, .j (v28 + 1)), Z26, Z2c, (13, .j v22), (77, sC t0), (Z2o t0), (79, .j v22), (84, sU (Z25 t0 v22)), (Z2b t0 v22)] ⟨g49, trivial⟩ (Y1 ?_)
   exact ⟨(v32, v33, v28 + 1), H, (Yp (hc := (Z1b v32 v33)) (fs := (Z2d v33)) (hc' := (Z1b v32 v33)) (fs' := (Z2d v33)) rfl [(6, some 6), (12, some 12), (5120, some 5120)] Z1x rfl (.o rfl (.i3 .nil) (.o rfl (.i2 (.cons (.s rfl) .nil)) (.o rfl (Yf rfl rfl (by decide) rfl rfl rfl) .nil))) rfl (.cons rfl (Ym rfl) .nil) (.cons (.r rfl) (.cons (.r rfl) (.i7 .nil))))⟩
  refine AW.exit (Ye ?_)
  have ⟨g50, H⟩ := Y6 H
  refine Y8 2 [79, 6, 12, 77, 78] [(79, .j (v22 + 1)), Z26, Z2c, (77, sC t0), (Z2o t0)] ⟨g50, trivial⟩ (Y1 ?_)
  exact ⟨(v26, v27, v22 + 1), H, (Yp (hc := (Z1g v26 v27)) (fs := (Z2n v27)) (hc' := (Z1g v26 v27)) (fs' := (Z2n v27)) rfl [(6, some 6), (12, some 12), (5120, some 5120)] Z1x rfl (.o rfl (.i3 .nil) (.o rfl (.i2 (.cons (.s rfl) .nil)) (.o rfl (Yf rfl rfl (by decide) rfl rfl rfl) .nil))) rfl (.cons rfl (Ym rfl) .nil) (.cons (.r rfl) (.cons (.r rfl) (.i3 .nil))))⟩
 refine AW.exit ?_
 refine Y0 (Y2 1 [121, 6] ((121, .agg (Z2j v21)) :: Z1z) ?_)
 refine OpsW.store rfl rfl rfl rfl trivial trivial rfl rfl rfl (by kernel_rfl) (Y5 (by kernel_rfl)) (X0 (by kernel_rfl)) ?_
 change OpsW _ _ _ _ _ ((Z1y v20 v21) ++ fmsH (Z2m v21)) _
 refine Y2 1 [7, 6] ((7, .j (0 : Int)) :: Z1z) (Ya ((7, .j (0 : Int)) :: Z1z) ((Z1o v21) ++ fmsH [fmA 15060 4 1 eB v21.Dots]) (Yp (hc := (Z1y v20 v21)) (fs := (Z2m v21)) (hc' := (Z1o v21)) (fs' := [fmA 15060 4 1 eB v21.Dots]) rfl [(6, some 6), (5060, some 5120)] [(15060, .same 15120)] rfl (.o rfl (.i2 (.cons (.s rfl) .nil)) (.o rfl (Yf rfl rfl (by decide) rfl rfl rfl) .nil)) rfl (.cons rfl (Ym rfl) .nil) (.cons .im (.cons (.r rfl) .nil))) (Y1 ?_))
 obtain rfl := X1 H
 refine AW.recast (env' := [Z26, (7, .j (0 : Int))]) (h' := [(6, ⟨0, true, 96, 3, [.j v21.W, .j v21.H, sD v21.Dots]⟩)]) (Yp (hc := (Z1o v21)) (fs := [fmA 15060 4 1 eB v21.Dots]) (hc' := [(6, ⟨0, true, 96, 3, [.j v21.W, .j v21.H, sD v21.Dots]⟩)]) (fs' := []) rfl [(6, some 6)] [] rfl (.o rfl (.i2 (.cons (Y10 rfl rfl (fun _ => rfl) rfl rfl rfl) .nil)) .nil) rfl .nil (.cons (.r rfl) (.cons .im .nil))) (Yl ?_)
 try simp only [Ex.t, Ex.b]
 exact Yh rfl (.cell rfl (by kernel_rfl) (.tmp .nil))
end Go.Proofs.YtbcfmhoaocifoaaDoor
