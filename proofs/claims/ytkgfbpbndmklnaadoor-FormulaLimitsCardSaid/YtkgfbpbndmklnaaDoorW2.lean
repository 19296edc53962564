/- Own work. -/
import Derived.Test.YtkgfbpbndmklnaaDoorW1
import Derived.Test.YtkgfbpbndmklnaaDoorPrP
set_option linter.unusedSimpArgs false
set_option linter.unusedVariables false
set_option maxRecDepth 100000
namespace Go.Proofs.YtkgfbpbndmklnaaDoor
open Go.Abs
def Yy (v6 : Y8) (v7 : List Y4) : Option ((List Y4) × Y8) :=
 some (v7, v6)
def Y0b (x1 : Int × Y8) (x36 : Int × Y8) (loop41 : (Y8 × (List (List Y4)) × Int) → Option ((List Y4) × Y8)) (v38 : Y8) (v39 : List (List Y4)) (v40 : Int) : Option ((List Y4) × Y8) :=
 cond (decide (v40 ≤ ((2 : Int) + (Int.tmod x36.1 (2 : Int))))) (
  (Y1o v38).bind fun x43 =>
  G (room 24 (v39.length + 1)) <|
  G (inR (v40 + 1)) <|
  loop41 (x43.2, v39 ++ [x43.1], v40 + 1)) (
  (Y1u (⟨Int.tmod x1.1 (14 : Int), (2 : Int) + (Int.tmod x36.1 (2 : Int))⟩ : Y4) v39).bind fun x46 =>
  Yy v38 x46)
def Y0x (rec_f_R09_maker_some : Y8 → Int → Int → Option ((List (List Y4)) × Y8)) (t1 : Int) (x1 : Int × Y8) (v29 : Y8) (v30 : Bool) : Option ((List Y4) × Y8) :=
 cond v30 (
  G (inR (t1 - 1)) <|
  (rec_f_R09_maker_some v29 (1 : Int) (t1 - 1)).bind fun x33 =>
  (Y1u (⟨Int.tmod x1.1 (14 : Int), (0 : Int)⟩ : Y4) x33.1).bind fun x34 =>
  Yy x33.2 x34) (
  cond ((Int.tmod x1.1 (14 : Int)) == 12) (
   (Y0m v29).bind fun x36 =>
   G (inR ((2 : Int) + (Int.tmod x36.1 (2 : Int)))) <|
   iter (fun loop (s : Y8 × (List (List Y4)) × Int) => Y0b x1 x36 loop s.1 s.2.1 s.2.2) 1000000 (x36.2, ([] : List (List Y4)), (0 : Int))) (
   (Y0m v29).bind fun x47 =>
   G (inR ((1 : Int) + (Int.tmod x47.1 (2 : Int)))) <|
   (Y0m x47.2).bind fun x49 =>
   G (inR ((1 : Int) + (Int.tmod x49.1 (2 : Int)))) <|
   G (inR (8 * ((1 : Int) + (Int.tmod x47.1 (2 : Int))))) <|
   G (inR ((8 * ((1 : Int) + (Int.tmod x47.1 (2 : Int)))) + ((1 : Int) + (Int.tmod x49.1 (2 : Int))))) <|
   G (inR (((1 : Int) + (Int.tmod x47.1 (2 : Int))) * ((1 : Int) + (Int.tmod x49.1 (2 : Int))))) <|
   G (inR (t1 - 1)) <|
   (rec_f_R09_maker_some x49.2 (((1 : Int) + (Int.tmod x47.1 (2 : Int))) * ((1 : Int) + (Int.tmod x49.1 (2 : Int)))) (t1 - 1)).bind fun x55 =>
   (Y1u (⟨Int.tmod x1.1 (14 : Int), (8 * ((1 : Int) + (Int.tmod x47.1 (2 : Int)))) + ((1 : Int) + (Int.tmod x49.1 (2 : Int)))⟩ : Y4) x55.1).bind fun x56 =>
   Yy x55.2 x56))
def Y0w (rec_f_R09_maker_some : Y8 → Int → Int → Option ((List (List Y4)) × Y8)) (t1 : Int) (x1 : Int × Y8) (v23 : Y8) (v24 : Bool) : Option ((List Y4) × Y8) :=
 cond v24 (
  G (inR (t1 - 1)) <|
  (rec_f_R09_maker_some v23 (2 : Int) (t1 - 1)).bind fun x27 =>
  (Y1u (⟨Int.tmod x1.1 (14 : Int), (0 : Int)⟩ : Y4) x27.1).bind fun x28 =>
  Yy x27.2 x28) (
  cond ((Int.tmod x1.1 (14 : Int)) == 9) (
   Y0x rec_f_R09_maker_some t1 x1 v23 ((Int.tmod x1.1 (14 : Int)) == 9)) (
   cond ((Int.tmod x1.1 (14 : Int)) == 10) (
    Y0x rec_f_R09_maker_some t1 x1 v23 ((Int.tmod x1.1 (14 : Int)) == 10)) (
    Y0x rec_f_R09_maker_some t1 x1 v23 ((Int.tmod x1.1 (14 : Int)) == 11))))
def Y0a (rec_f_R09_maker_tree : Y8 → Int → Int → Option ((List Y4) × Y8)) (rec_f_R09_maker_some : Y8 → Int → Int → Option ((List (List Y4)) × Y8)) (t1 : Int) (t2 : Int) (x1 : Int × Y8) (v12 : Y8) (v13 : Bool) : Option ((List Y4) × Y8) :=
 cond v13 (
  (Y25 (Int.tmod x1.1 (14 : Int))).bind fun x15 =>
  G (inR (t1 - 2)) <|
  (rec_f_R09_maker_tree v12 (t1 - 2) x15).bind fun x17 =>
  G (inR (x15 + 1)) <|
  (rec_f_R09_maker_tree x17.2 (t1 - 2) (x15 + 1)).bind fun x19 =>
  (Y1u (⟨Int.tmod x1.1 (14 : Int), (0 : Int)⟩ : Y4) [x17.1, x19.1]).bind fun x20 =>
  cond (decide (x15 < t2)) (
   (Y1u (⟨(10 : Int), (0 : Int)⟩ : Y4) [x20]).bind fun x22 =>
   Yy x19.2 x22) (
   Yy x19.2 x20)) (
  cond ((Int.tmod x1.1 (14 : Int)) == 6) (
   Y0w rec_f_R09_maker_some t1 x1 v12 ((Int.tmod x1.1 (14 : Int)) == 6)) (
   cond ((Int.tmod x1.1 (14 : Int)) == 7) (
    Y0w rec_f_R09_maker_some t1 x1 v12 ((Int.tmod x1.1 (14 : Int)) == 7)) (
    Y0w rec_f_R09_maker_some t1 x1 v12 ((Int.tmod x1.1 (14 : Int)) == 8))))
def Y2e (rec_f_R09_maker_tree : Y8 → Int → Int → Option ((List Y4) × Y8)) (rec_f_R09_maker_some : Y8 → Int → Int → Option ((List (List Y4)) × Y8)) (t0 : Y8) (t1 : Int) (t2 : Int) : Option ((List Y4) × Y8) :=
 (Y0m t0).bind fun x1 =>
 cond (cond (decide (t1 < 2)) true (cond (cond (decide (t1 < 3)) (decide ((Int.tmod x1.1 (14 : Int)) < 6)) false) (decide ((1 : Int) < (Int.tmod x1.1 (14 : Int)))) false)) (
  cond ((Int.tmod (Int.tmod x1.1 (14 : Int)) (2 : Int)) == 1) (
   (Y0m x1.2).bind fun x4 =>
   some ([(⟨(1 : Int), Int.tmod x4.1 (26 : Int)⟩ : Y4)], x4.2)) (
   (Y1o x1.2).bind fun x5 =>
   some (x5.1, x5.2))) (
  cond ((Int.tmod x1.1 (14 : Int)) == 0) (
   (Y1o x1.2).bind fun x9 =>
   some (x9.1, x9.2)) (
   cond ((Int.tmod x1.1 (14 : Int)) == 1) (
    (Y0m x1.2).bind fun x11 =>
    some ([(⟨(1 : Int), Int.tmod x11.1 (26 : Int)⟩ : Y4)], x11.2)) (
    cond ((Int.tmod x1.1 (14 : Int)) == 2) (
     Y0a rec_f_R09_maker_tree rec_f_R09_maker_some t1 t2 x1 x1.2 ((Int.tmod x1.1 (14 : Int)) == 2)) (
     cond ((Int.tmod x1.1 (14 : Int)) == 3) (
      Y0a rec_f_R09_maker_tree rec_f_R09_maker_some t1 t2 x1 x1.2 ((Int.tmod x1.1 (14 : Int)) == 3)) (
      cond ((Int.tmod x1.1 (14 : Int)) == 4) (
       Y0a rec_f_R09_maker_tree rec_f_R09_maker_some t1 t2 x1 x1.2 ((Int.tmod x1.1 (14 : Int)) == 4)) (
       Y0a rec_f_R09_maker_tree rec_f_R09_maker_some t1 t2 x1 x1.2 ((Int.tmod x1.1 (14 : Int)) == 5)))))))
section
variable (t0 : Y8) (t1 : Int) (t2 : Int) (v12 : Y8) (v23 : Y8) (v29 : Y8) (v38 : Y8) (v39 : List (List Y4)) (v40 : Int) (x1 : Int × Y8) (x4 : (Int × Y8)) (x5 : ((List Y4) × Y8)) (x9 : ((List Y4) × Y8)) (x11 : (Int × Y8)) (x15 : Int) (x36 : Int × Y8) (x47 : (Int × Y8)) (x49 : (Int × Y8))
abbrev Z24 := (Int.tmod x1.1 (14 : Int))
abbrev Z25 := ((2 : Int) + (Int.tmod x36.1 (2 : Int)))
abbrev Z26 : Nat × AV := (0, .ref 2000 0 0)
abbrev Z27 := ((1 : Int) + (Int.tmod x47.1 (2 : Int)))
abbrev Z28 := ([] : List (List Y4))
abbrev Z29 : Nat × AV := (7, .j (Z24 x1))
abbrev Z2a := ((1 : Int) + (Int.tmod x49.1 (2 : Int)))
abbrev Z2b := (cond (cond (decide (t1 < 3)) (decide ((Z24 x1) < 6)) false) (decide ((1 : Int) < (Z24 x1))) false)
abbrev Z2c : List AV := [.ref 2000 0 0]
abbrev Z17 : Env := [(43, .j (Z24 x1)), (Z29 x1), Z26, (1, .j t1), (2, .j t2)]
abbrev Z18 : Hp := [(2000, ⟨0, true, 51, 2, [sU x1.2.B, .j x1.2.At]⟩)]
abbrev Z19 : Env := [(63, .j (t1 - 1)), (61, .j ((Z27 x47) * (Z2a x49))), (58, .ref 2000 0 0), (57, .agg [.j (Z24 x1), .j ((8 * (Z27 x47)) + (Z2a x49))])]
abbrev Z1a : Env := [Z26, (Z29 x1), (10, .j (Z25 x36)), (11, .rsl 11 0 0 v39.length), (12, .j v40)]
abbrev Z1b : Env := [Z26, (1, .j t1), (Z29 x1), (43, .j (Z24 x1))]
abbrev Z1c : Env := [(Z29 x1)]
abbrev Z1d : Hp := [(2000, ⟨0, true, 51, 2, [sU v29.B, .j v29.At]⟩)]
abbrev Z1e : Env := [Z26, (1, .j t1), (2, .j t2)]
abbrev Z1f : Env := (89, .j x15) :: (88, .j (t1 - 2)) :: (86, .ref 2000 0 0) :: (85, .agg [.j (Z24 x1), .j (0 : Int)]) :: (9, .j x15) :: (Z1e t1 t2)
abbrev Z1g : Env := (48, .ref 2000 0 0) :: (47, .j (Z27 x47)) :: Z26 :: (1, .j t1) :: (Z1c x1)
abbrev Z1h : Env := [(114, .j (t1 - 1)), (112, .ref 2000 0 0), (111, .agg [.j (Z24 x1), .j (0 : Int)])]
abbrev Z1i : Env := [(125, .j (t1 - 1)), (123, .ref 2000 0 0), (122, .agg [.j (Z24 x1), .j (0 : Int)])]
abbrev Z1j : Hp := [(2000, ⟨0, true, 51, 2, [sU x47.2.B, .j x47.2.At]⟩)]
abbrev Z1k : Hp := [(2000, ⟨0, true, 51, 2, [sU x49.2.B, .j x49.2.At]⟩)]
abbrev Z1l : Hp := [(2000, ⟨0, true, 51, 2, [sU t0.B, .j t0.At]⟩)]
abbrev Z1m : Env := (10, .j (Z25 x36)) :: Z26 :: (Z1c x1)
abbrev Z1n : Env := [(85, .agg [.j (Z24 x1), .j (0 : Int)]), (9, .j x15), (2, .j t2)]
abbrev Z1o : Hp := [(2000, ⟨0, true, 51, 2, [sU x11.2.B, .j x11.2.At]⟩)]
abbrev Z1p : Hp := [(2000, ⟨0, true, 51, 2, [sU x4.2.B, .j x4.2.At]⟩)]
abbrev Z1q : Env := [(6, slA Y3 [(⟨(1 : Int), Int.tmod x4.1 (26 : Int)⟩ : Y4)])]
abbrev Z1r : Env := [(6, slA Y3 [(⟨(1 : Int), Int.tmod x11.1 (26 : Int)⟩ : Y4)])]
abbrev Z1s : Hp := [(2000, ⟨0, true, 51, 2, [sU v12.B, .j v12.At]⟩)]
abbrev Z1t : Hp := [(2000, ⟨0, true, 51, 2, [sU v23.B, .j v23.At]⟩)]
abbrev Z1u : Hp := [(2000, ⟨0, true, 51, 2, [sU v38.B, .j v38.At]⟩)]
abbrev Z1v : Env := Z26 :: (1, .j t1) :: (Z1c x1)
abbrev Z1w : Env := [Z26, (Z29 x1), (10, .j (Z25 x36)), (12, .j v40)]
abbrev Z1x : Env := (141, .ref 2000 0 0) :: (140, .rsl 11 0 0 v39.length) :: (Z1a v39 v40 x1 x36)
abbrev Z1y : Hp := [(2000, ⟨0, true, 51, 2, [sU x36.2.B, .j x36.2.At]⟩)]
abbrev Z1z : Hp := [(2000, ⟨0, true, 51, 2, [sU x5.2.B, .j x5.2.At]⟩)]
abbrev Z20 : Hp := [(2000, ⟨0, true, 51, 2, [sU x9.2.B, .j x9.2.At]⟩)]
abbrev Z21 : Env := (130, .ref 2000 0 0) :: Z26 :: (Z1c x1)
abbrev Z22 : Env := [(147, .agg [.j (Z24 x1), .j (Z25 x36)])]
abbrev Z23 : Hp := [(11, rtA 0 23 1 (eL Y3) v39)]
end
theorem f_R09_maker_tree_body_io {rec_f_R09_maker_tree : Y8 → Int → Int → Option ((List Y4) × Y8)} {rec_f_R09_maker_some : Y8 → Int → Int → Option ((List (List Y4)) × Y8)} (hrec_f_R09_maker_tree : ∀ (t0 : Y8) (t1 : Int) (t2 : Int) (r : (List Y4) × Y8), rec_f_R09_maker_tree t0 t1 t2 = some r → Abs.Spec Tryd.prog 27 [.ref 2000 0 0, .int .i64 t1, .int .i64 t2] [(2000, ⟨0, true, 51, 2, [slA (eI .u8) t0.B, .int .i64 t0.At]⟩)] (fun x h => x = slA Y3 r.1 ∧ h = [(2000, ⟨0, true, 51, 2, [slA (eI .u8) r.2.B, .int .i64 r.2.At]⟩)])) (hrec_f_R09_maker_some : ∀ (t0 : Y8) (t1 : Int) (t2 : Int) (r : (List (List Y4)) × Y8), rec_f_R09_maker_some t0 t1 t2 = some r → Abs.Spec Tryd.prog 42 [.ref 2000 0 0, .int .i64 t1, .int .i64 t2] [(2000, ⟨0, true, 51, 2, [slA (eI .u8) t0.B, .int .i64 t0.At]⟩)] (fun x h => x = slA (eL Y3) r.1 ∧ h = [(2000, ⟨0, true, 51, 2, [slA (eI .u8) r.2.B, .int .i64 r.2.At]⟩)])) {t0 : Y8} {t1 : Int} {t2 : Int} {r : (List Y4) × Y8} (H : Y2e rec_f_R09_maker_tree rec_f_R09_maker_some t0 t1 t2 = some r) : Abs.Spec Tryd.prog 27 [.ref 2000 0 0, .int .i64 t1, .int .i64 t2] [(2000, ⟨0, true, 51, 2, [slA (eI .u8) t0.B, .int .i64 t0.At]⟩)] (fun x h => x = slA Y3 r.1 ∧ h = [(2000, ⟨0, true, 51, 2, [slA (eI .u8) r.2.B, .int .i64 r.2.At]⟩)]) := by
 refine Y04 Tryd.func27 rfl (by simp [Tryd.ntmps27]) ?_
 rw [Tryd.ntmps27]
 unfold Y2e at H
 change AW _ _ _ (Z1e t1 t2) (Z1l t0) _
 refine AW.endcast <| Y0 (OpsW.sg 1 [0, 1, 2] (Z1e t1 t2) ?_)
 refine Y2 (Y0 (OpsW.sg 1 [15, 0, 1, 2] ((15, .ref 2000 0 0) :: (Z1e t1 t2)) ?_))
 refine OpsW.rc ((15, .ref 2000 0 0) :: (Z1e t1 t2)) (Z1l t0) (StC.mk (phi [(2000, some 2000)]) (.o rfl (.i2 .nil) .nil) rfl (.cons (.r rfl) (.cons (.r rfl) (.i2 .nil)))) ?_
 have ⟨x1, hx1, H⟩ := Y1j H
 change OpsW _ _ _ _ ((15, .ref 2000 0 0) :: (Z1e t1 t2)) ((Z1l t0) ++ []) _
 refine OpsW.callR (Z1l t0) [] (Z1l t0) (phi [(2000, some 2000)]) rfl rfl (by kernel_rfl) Z2c _ rfl (Yi trivial) (.cons (.r rfl) .nil) (Y1b hx1) (Y0f (by kernel_rfl)) (by kernel_rfl) (.cons rfl rfl rfl rfl rfl (.i2 .nil) .nil) ?_
 rintro _ _ ⟨rfl, rfl⟩
 refine ⟨.j x1.1, (Z18 x1), phi [(2000, some 2000)], Y0f (by kernel_rfl), by kernel_rfl, by kernel_rfl, (.cons rfl rfl rfl rfl rfl (.i2 .nil) .nil), (.cons .im .nil), ?_⟩
 change OpsW _ _ _ _ ((16, .j x1.1) :: (15, .ref 2000 0 0) :: (Z1e t1 t2)) (Z18 x1) _
 refine OpsW.sz 2 [7, 0, 1, 2] ((Z29 x1) :: (Z1e t1 t2)) ⟨(by decide), trivial⟩ ?_
 refine Y2 (Y0e (Y0 (OpsW.sz 14 [31, 7, 0, 1, 2] ((31, .bool (cond (decide (t1 < 2)) true (Z2b t1 x1))) :: (Z29 x1) :: (Z1e t1 t2)) ⟨(fun h => h), (fun h => h), (fun h => h), (fun h => h), (fun h0 h => by first | exact h | (simp [h0, h]; done) | (simp at h0 h ⊢; simp [h0, h]; done) | (simp_all; done) | grind), (fun h => h), (fun h => h), (fun h => h), (fun h0 h => by first | exact h | (simp [h0, h]; done) | (simp at h0 h ⊢; simp [h0, h]; done) | (simp_all; done) | grind), (fun h => by first | exact h | (simpa using h) | grind), trivial⟩ ?_)))
 refine Y2 (Yb (b := cond (decide (t1 < 2)) true (Z2b t1 x1)) H rfl (fun c2 H => ?_) (fun c2 H => ?_))
 ·refine Y0e (Y0 (OpsW.sz 3 [34, 0] [(34, .bool ((Int.tmod (Z24 x1) (2 : Int)) == 1)), Z26] ⟨(by decide), trivial⟩ ?_))
  refine Y2 (Yb (b := (Int.tmod (Z24 x1) (2 : Int)) == 1) H rfl (fun c3 H => ?_) (fun c3 H => ?_))
  ·refine Y0 (OpsW.sg 1 [35] [(35, .ref 2000 0 0)] ?_)
   have ⟨x4, hx4, H⟩ := Y1j H
   change OpsW _ _ _ _ [(35, .ref 2000 0 0)] ((Z18 x1) ++ []) _
   refine OpsW.callR (Z18 x1) [] (Z18 x1) (phi [(2000, some 2000)]) rfl rfl (by kernel_rfl) Z2c _ rfl (Yi trivial) (.cons (.r rfl) .nil) (Y1b hx4) (Y0f (by kernel_rfl)) (by kernel_rfl) (.cons rfl rfl rfl rfl rfl (.i2 .nil) .nil) ?_
   rintro _ _ ⟨rfl, rfl⟩
   refine ⟨.j x4.1, (Z1p x4), phi [(2000, some 2000)], Y0f (by kernel_rfl), by kernel_rfl, by kernel_rfl, (.cons rfl rfl rfl rfl rfl (.i2 .nil) .nil), (.cons .im .nil), ?_⟩
   change OpsW _ _ _ _ [(36, .j x4.1), (35, .ref 2000 0 0)] (Z1p x4) _
   refine OpsW.sz 2 [38] [(38, .agg [.j (1 : Int), .j (Int.tmod x4.1 (26 : Int))])] ⟨(by decide), trivial⟩ (OpsW.buildTI (enc := Y3) [(⟨(1 : Int), Int.tmod x4.1 (26 : Int)⟩ : Y4)] rfl rfl rfl E23 (fun _ => rfl) (by decide) ⟨trivial, by kernel_rfl, by kernel_rfl, by kernel_rfl, rfl⟩ (OpsW.sg 1 [6] (Z1q x4) (OpsW.rc (Z1q x4) (Z1p x4) (StC.mk (phi [(2000, some 2000)]) (.o rfl (.i2 .nil) .nil) rfl (.cons .im .nil)) (Y2 ?_))))
   obtain rfl := X7 H
   refine Yx ?_
   show ∃ en' hp', StC _ _ en' hp' ∧ Done _ _ _ .ret en' hp'
   refine ⟨(Z1q x4), (Z1p x4), (StC.mk (phi [(2000, some 2000)]) (.o rfl (.i2 .nil) .nil) rfl (.cons .im .nil)), ?_⟩
   refine Y4t rfl (.tmp .nil) ?_
   exact ⟨by kernel_rfl, by kernel_rfl⟩
  refine Yg (Y0 (OpsW.sg 1 [40] [(40, .ref 2000 0 0)] ?_))
  have ⟨x5, hx5, H⟩ := Y1j H
  change OpsW _ _ _ _ [(40, .ref 2000 0 0)] ((Z18 x1) ++ []) _
  refine OpsW.callR (Z18 x1) [] (Z18 x1) (phi [(2000, some 2000)]) rfl rfl (by kernel_rfl) Z2c _ rfl (Yi trivial) (.cons (.r rfl) .nil) (Y4n hx5) (Y0f (by kernel_rfl)) (by kernel_rfl) (.cons rfl rfl rfl rfl rfl (.i2 .nil) .nil) ?_
  rintro _ _ ⟨rfl, rfl⟩
  refine ⟨slA Y3 x5.1, (Z1z x5), phi [(2000, some 2000)], Y0f (by kernel_rfl), by kernel_rfl, by kernel_rfl, (.cons rfl rfl rfl rfl rfl (.i2 .nil) .nil), (.cons .im .nil), ?_⟩
  change OpsW _ _ _ _ [(41, slA Y3 x5.1), (40, .ref 2000 0 0)] (Z1z x5) _
  refine OpsW.sg 1 [6] [(6, slA Y3 x5.1)] (Y2 ?_)
  obtain rfl := X7 H
  refine Yx ?_
  show ∃ en' hp', StC _ _ en' hp' ∧ Done _ _ _ .ret en' hp'
  refine ⟨[(6, slA Y3 x5.1)], (Z1z x5), (StC.mk (phi [(2000, some 2000)]) (.o rfl (.i2 .nil) .nil) rfl (.cons .im .nil)), ?_⟩
  refine Y4t rfl (.tmp .nil) ?_
  exact ⟨by kernel_rfl, by kernel_rfl⟩
 refine Yg (Y0 (OpsW.buildTI (enc := Y3) ([] : List Y4) rfl rfl rfl E23 (fun _ => rfl) (by decide) ⟨trivial, by kernel_rfl, by kernel_rfl, by kernel_rfl, rfl⟩ ?_))
 refine OpsW.sg 1 [7, 0, 1, 2] ((Z29 x1) :: (Z1e t1 t2)) (Y2 ?_)
 refine Y22 (fun (y : Y8 × (List Y4)) => Yy y.1 y.2) r (fun (y : Y8 × (List Y4)) => [(8, slA Y3 y.2)]) (fun (y : Y8 × (List Y4)) => [(2000, ⟨0, true, 51, 2, [sU y.1.B, .j y.1.At]⟩)]) ?_ ?_
 ·refine Y0 (OpsW.sg 1 [43, 7, 0, 1, 2] (Z17 t1 t2 x1) ?_)
  refine Y2 (Y0g (Y0 (OpsW.sg 2 [66, 43, 7, 0, 1, 2] ((66, .bool ((Z24 x1) == 0)) :: (Z17 t1 t2 x1)) ?_)))
  refine Y2 (Yb (b := (Z24 x1) == 0) H rfl (fun c8 H => ?_) (fun c8 H => ?_))
  ·refine Y0 (OpsW.sg 1 [68] [(68, .ref 2000 0 0)] ?_)
   have ⟨x9, hx9, H⟩ := Y1j H
   change OpsW _ _ _ _ [(68, .ref 2000 0 0)] ((Z18 x1) ++ []) _
   refine OpsW.callR (Z18 x1) [] (Z18 x1) (phi [(2000, some 2000)]) rfl rfl (by kernel_rfl) Z2c _ rfl (Yi trivial) (.cons (.r rfl) .nil) (Y4n hx9) (Y0f (by kernel_rfl)) (by kernel_rfl) (.cons rfl rfl rfl rfl rfl (.i2 .nil) .nil) ?_
   rintro _ _ ⟨rfl, rfl⟩
   refine ⟨slA Y3 x9.1, (Z20 x9), phi [(2000, some 2000)], Y0f (by kernel_rfl), by kernel_rfl, by kernel_rfl, (.cons rfl rfl rfl rfl rfl (.i2 .nil) .nil), (.cons .im .nil), ?_⟩
   change OpsW _ _ _ _ [(69, slA Y3 x9.1), (68, .ref 2000 0 0)] (Z20 x9) _
   refine OpsW.sg 1 [6] [(6, slA Y3 x9.1)] (Y2 ?_)
   obtain rfl := X7 H
   refine Yx ?_
   show ∃ en' hp', StC _ _ en' hp' ∧ Done _ _ _ .ret en' hp'
   refine ⟨[(6, slA Y3 x9.1)], (Z20 x9), (StC.mk (phi [(2000, some 2000)]) (.o rfl (.i2 .nil) .nil) rfl (.cons .im .nil)), ?_⟩
   refine Y4t rfl (.tmp .nil) ?_
   exact ⟨by kernel_rfl, by kernel_rfl⟩
  refine Y0 (OpsW.sg 2 [70, 43, 7, 0, 1, 2] ((70, .bool ((Z24 x1) == 1)) :: (Z17 t1 t2 x1)) ?_)
  refine Y2 (Yb (b := (Z24 x1) == 1) H rfl (fun c10 H => ?_) (fun c10 H => ?_))
  ·refine Y0 (OpsW.sg 1 [72] [(72, .ref 2000 0 0)] ?_)
   have ⟨x11, hx11, H⟩ := Y1j H
   change OpsW _ _ _ _ [(72, .ref 2000 0 0)] ((Z18 x1) ++ []) _
   refine OpsW.callR (Z18 x1) [] (Z18 x1) (phi [(2000, some 2000)]) rfl rfl (by kernel_rfl) Z2c _ rfl (Yi trivial) (.cons (.r rfl) .nil) (Y1b hx11) (Y0f (by kernel_rfl)) (by kernel_rfl) (.cons rfl rfl rfl rfl rfl (.i2 .nil) .nil) ?_
   rintro _ _ ⟨rfl, rfl⟩
   refine ⟨.j x11.1, (Z1o x11), phi [(2000, some 2000)], Y0f (by kernel_rfl), by kernel_rfl, by kernel_rfl, (.cons rfl rfl rfl rfl rfl (.i2 .nil) .nil), (.cons .im .nil), ?_⟩
   change OpsW _ _ _ _ [(73, .j x11.1), (72, .ref 2000 0 0)] (Z1o x11) _
   refine OpsW.sz 2 [75] [(75, .agg [.j (1 : Int), .j (Int.tmod x11.1 (26 : Int))])] ⟨(by decide), trivial⟩ (OpsW.buildTI (enc := Y3) [(⟨(1 : Int), Int.tmod x11.1 (26 : Int)⟩ : Y4)] rfl rfl rfl E23 (fun _ => rfl) (by decide) ⟨trivial, by kernel_rfl, by kernel_rfl, by kernel_rfl, rfl⟩ (OpsW.sg 1 [6] (Z1r x11) (OpsW.rc (Z1r x11) (Z1o x11) (StC.mk (phi [(2000, some 2000)]) (.o rfl (.i2 .nil) .nil) rfl (.cons .im .nil)) (Y2 ?_))))
   obtain rfl := X7 H
   refine Yx ?_
   show ∃ en' hp', StC _ _ en' hp' ∧ Done _ _ _ .ret en' hp'
   refine ⟨(Z1r x11), (Z1o x11), (StC.mk (phi [(2000, some 2000)]) (.o rfl (.i2 .nil) .nil) rfl (.cons .im .nil)), ?_⟩
   refine Y4t rfl (.tmp .nil) ?_
   exact ⟨by kernel_rfl, by kernel_rfl⟩
  refine Y22 (fun (y : Y8 × Bool) => Y0a rec_f_R09_maker_tree rec_f_R09_maker_some t1 t2 x1 y.1 y.2) r (fun (y : Y8 × Bool) => [Z26, (1, .j t1), (2, .j t2), (Z29 x1), (43, .j (Z24 x1)), (77, .bool y.2)]) (fun (y : Y8 × Bool) => [(2000, ⟨0, true, 51, 2, [sU y.1.B, .j y.1.At]⟩)]) ?_ ?_
  ·refine Y0 (OpsW.sg 2 [77, 43, 7, 0, 1, 2] ((77, .bool ((Z24 x1) == 2)) :: (Z17 t1 t2 x1)) ?_)
   refine Y2 (Yb (b := (Z24 x1) == 2) H rfl (fun c61 H => ?_) (fun c61 H => ?_))
   ·refine Yg ?_
    exact ⟨(x1.2, (Z24 x1) == 2), H, (StC.mk (phi [(2000, some 2000)]) (.o rfl (.i2 .nil) .nil) rfl (.cons (.r rfl) (.i5 .nil)))⟩
   refine Y0 (OpsW.sg 2 [77, 43, 7, 0, 1, 2] ((77, .bool ((Z24 x1) == 3)) :: (Z17 t1 t2 x1)) ?_)
   refine Y2 (Yb (b := (Z24 x1) == 3) H rfl (fun c62 H => ?_) (fun c62 H => ?_))
   ·refine Yg ?_
    exact ⟨(x1.2, (Z24 x1) == 3), H, (StC.mk (phi [(2000, some 2000)]) (.o rfl (.i2 .nil) .nil) rfl (.cons (.r rfl) (.i5 .nil)))⟩
   refine Y0 (OpsW.sg 2 [77, 43, 7, 0, 1, 2] ((77, .bool ((Z24 x1) == 4)) :: (Z17 t1 t2 x1)) ?_)
   refine Y2 (Yb (b := (Z24 x1) == 4) H rfl (fun c63 H => ?_) (fun c63 H => ?_))
   ·refine Yg ?_
    exact ⟨(x1.2, (Z24 x1) == 4), H, (StC.mk (phi [(2000, some 2000)]) (.o rfl (.i2 .nil) .nil) rfl (.cons (.r rfl) (.i5 .nil)))⟩
   refine Yu (OpsW.sg 2 [77, 43, 7, 0, 1, 2] ((77, .bool ((Z24 x1) == 5)) :: (Z17 t1 t2 x1)) ?_)
   refine Y2 ?_
   exact ⟨(x1.2, (Z24 x1) == 5), H, (StC.mk (phi [(2000, some 2000)]) (.o rfl (.i2 .nil) .nil) rfl (.cons (.r rfl) (.i5 .nil)))⟩
  rintro ⟨v12, v13⟩ H
  unfold Y0a at H
  change AW _ _ _ [Z26, (1, .j t1), (2, .j t2), (Z29 x1), (43, .j (Z24 x1)), (77, .bool v13)] (Z1s v12) _
  refine Yb (b := v13) H rfl (fun c14 H => ?_) (fun c14 H => ?_)
  ·refine Y0 (OpsW.sg 1 [82, 0, 1, 2, 7] ((82, .j (Z24 x1)) :: Z26 :: (1, .j t1) :: (2, .j t2) :: (Z1c x1)) ?_)
   have ⟨x15, hx15, H⟩ := Y1j H
   refine Y1e rfl (.cons (.pur rfl) .nil) (Y3x hx15) (OpsW.sg 1 [9, 0, 1, 2, 7] ((9, .j x15) :: Z26 :: (1, .j t1) :: (2, .j t2) :: (Z1c x1)) ?_)
   refine Y2 (Y0 ?_)
   have ⟨g16, H⟩ := Yt H
   refine OpsW.sz 6 [89, 88, 86, 85, 9, 0, 1, 2] (Z1f t1 t2 x1 x15) ⟨g16, trivial⟩ ?_
   have ⟨x17, hx17, H⟩ := Y1j H
   change OpsW _ _ _ _ (Z1f t1 t2 x1 x15) ((Z1s v12) ++ []) _
   refine OpsW.callR (Z1s v12) [] (Z1s v12) (phi [(2000, some 2000)]) rfl rfl (by kernel_rfl) [.ref 2000 0 0, .j (t1 - 2), .j x15] _ rfl (Yi trivial) (.cons (.r rfl) (.i2 .nil)) (hrec_f_R09_maker_tree _ _ _ _ hx17) (Y0f (by kernel_rfl)) (by kernel_rfl) (.cons rfl rfl rfl rfl rfl (.i2 .nil) .nil) ?_
   rintro _ _ ⟨rfl, rfl⟩
   refine ⟨slA Y3 x17.1, [(2000, ⟨0, true, 51, 2, [sU x17.2.B, .j x17.2.At]⟩)], phi [(2000, some 2000)], Y0f (by kernel_rfl), by kernel_rfl, by kernel_rfl, (.cons rfl rfl rfl rfl rfl (.i2 .nil) .nil), (.cons .im .nil), ?_⟩
   change OpsW _ _ _ _ ((90, slA Y3 x17.1) :: (Z1f t1 t2 x1 x15)) [(2000, ⟨0, true, 51, 2, [sU x17.2.B, .j x17.2.At]⟩)] _
   have ⟨g18, H⟩ := Yt H
   refine OpsW.sz 5 [95, 93, 91, 90, 85, 9, 2] ((95, .j (x15 + 1)) :: (93, .j (t1 - 2)) :: (91, .ref 2000 0 0) :: (90, slA Y3 x17.1) :: (Z1n t2 x1 x15)) ⟨g16, g18, trivial⟩ ?_
   have ⟨x19, hx19, H⟩ := Y1j H
   change OpsW _ _ _ _ ((95, .j (x15 + 1)) :: (93, .j (t1 - 2)) :: (91, .ref 2000 0 0) :: (90, slA Y3 x17.1) :: (Z1n t2 x1 x15)) ([(2000, ⟨0, true, 51, 2, [sU x17.2.B, .j x17.2.At]⟩)] ++ []) _
   refine OpsW.callR [(2000, ⟨0, true, 51, 2, [sU x17.2.B, .j x17.2.At]⟩)] [] [(2000, ⟨0, true, 51, 2, [sU x17.2.B, .j x17.2.At]⟩)] (phi [(2000, some 2000)]) rfl rfl (by kernel_rfl) [.ref 2000 0 0, .j (t1 - 2), .j (x15 + 1)] _ rfl (Yi trivial) (.cons (.r rfl) (.i2 .nil)) (hrec_f_R09_maker_tree _ _ _ _ hx19) (Y0f (by kernel_rfl)) (by kernel_rfl) (.cons rfl rfl rfl rfl rfl (.i2 .nil) .nil) ?_
   rintro _ _ ⟨rfl, rfl⟩
   refine ⟨slA Y3 x19.1, [(2000, ⟨0, true, 51, 2, [sU x19.2.B, .j x19.2.At]⟩)], phi [(2000, some 2000)], Y0f (by kernel_rfl), by kernel_rfl, by kernel_rfl, (.cons rfl rfl rfl rfl rfl (.i2 .nil) .nil), (.cons .im .nil), ?_⟩
   change OpsW _ _ _ _ ((96, slA Y3 x19.1) :: (95, .j (x15 + 1)) :: (93, .j (t1 - 2)) :: (91, .ref 2000 0 0) :: (90, slA Y3 x17.1) :: (Z1n t2 x1 x15)) [(2000, ⟨0, true, 51, 2, [sU x19.2.B, .j x19.2.At]⟩)] _
   refine OpsW.buildTI (enc := eL Y3) [x17.1, x19.1] rfl rfl rfl E77 (fun _ => rfl) (by decide) ⟨trivial, by kernel_rfl, by kernel_rfl, by kernel_rfl, rfl⟩ ?_
   have ⟨x20, hx20, H⟩ := Y1j H
   refine Y1e rfl (.cons (.pur rfl) (.cons (.pur rfl) .nil)) (Y3n hx20) (OpsW.sg 1 [8, 9, 2] [(8, slA Y3 x20), (9, .j x15), (2, .j t2)] (OpsW.rc [(8, slA Y3 x20), (9, .j x15), (2, .j t2)] [(2000, ⟨0, true, 51, 2, [sU x19.2.B, .j x19.2.At]⟩)] (StC.mk (phi [(2000, some 2000)]) (.o rfl (.i2 .nil) .nil) rfl (.i3 .nil)) ?_))
   refine Y2 (Y0 (OpsW.sg 3 [101, 8] [(101, .bool (decide (x15 < t2))), (8, slA Y3 x20)] ?_))
   refine Y2 (Yb (b := decide (x15 < t2)) H rfl (fun c21 H => ?_) (fun c21 H => ?_))
   ·refine Yu (OpsW.sg 2 [103, 102, 8] [(103, slA Y3 x20), (102, .agg [.j (10 : Int), .j (0 : Int)]), (8, slA Y3 x20)] ?_)
    refine OpsW.buildTI (enc := eL Y3) [x20] rfl rfl rfl E77 (fun _ => rfl) (by decide) ⟨trivial, by kernel_rfl, by kernel_rfl, by kernel_rfl, rfl⟩ ?_
    have ⟨x22, hx22, H⟩ := Y1j H
    refine Y1e rfl (.cons (.pur rfl) (.cons (.pur rfl) .nil)) (Y3n hx22) (OpsW.sg 1 [8] [(8, slA Y3 x22)] (Y2 ?_))
    exact ⟨(x19.2, x22), H, (StC.mk (phi [(2000, some 2000)]) (.o rfl (.i2 .nil) .nil) rfl (.cons .im .nil))⟩
   refine Yg ?_
   exact ⟨(x19.2, x20), H, (StC.mk (phi [(2000, some 2000)]) (.o rfl (.i2 .nil) .nil) rfl (.cons .im .nil))⟩
  refine Y22 (fun (y : Y8 × Bool) => Y0w rec_f_R09_maker_some t1 x1 y.1 y.2) r (fun (y : Y8 × Bool) => [Z26, (1, .j t1), (Z29 x1), (43, .j (Z24 x1)), (106, .bool y.2)]) (fun (y : Y8 × Bool) => [(2000, ⟨0, true, 51, 2, [sU y.1.B, .j y.1.At]⟩)]) ?_ ?_
  ·refine Y0 (OpsW.sg 2 [106, 0, 1, 7, 43] ((106, .bool ((Z24 x1) == 6)) :: (Z1b t1 x1)) ?_)
   refine Y2 (Yb (b := (Z24 x1) == 6) H rfl (fun c59 H => ?_) (fun c59 H => ?_))
   ·refine Yg ?_
    exact ⟨(v12, (Z24 x1) == 6), H, (StC.mk (phi [(2000, some 2000)]) (.o rfl (.i2 .nil) .nil) rfl (.cons (.r rfl) (.i4 .nil)))⟩
   refine Y0 (OpsW.sg 2 [106, 0, 1, 7, 43] ((106, .bool ((Z24 x1) == 7)) :: (Z1b t1 x1)) ?_)
   refine Y2 (Yb (b := (Z24 x1) == 7) H rfl (fun c60 H => ?_) (fun c60 H => ?_))
   ·refine Yg ?_
    exact ⟨(v12, (Z24 x1) == 7), H, (StC.mk (phi [(2000, some 2000)]) (.o rfl (.i2 .nil) .nil) rfl (.cons (.r rfl) (.i4 .nil)))⟩
   refine Yu (OpsW.sg 2 [106, 0, 1, 7, 43] ((106, .bool ((Z24 x1) == 8)) :: (Z1b t1 x1)) ?_)
   refine Y2 ?_
   exact ⟨(v12, (Z24 x1) == 8), H, (StC.mk (phi [(2000, some 2000)]) (.o rfl (.i2 .nil) .nil) rfl (.cons (.r rfl) (.i4 .nil)))⟩
  rintro ⟨v23, v24⟩ H
  unfold Y0w at H
  change AW _ _ _ [Z26, (1, .j t1), (Z29 x1), (43, .j (Z24 x1)), (106, .bool v24)] (Z1t v23) _
  refine Yb (b := v24) H rfl (fun c25 H => ?_) (fun c25 H => ?_)
  ·refine Yu ?_
   have ⟨g26, H⟩ := Yt H
   refine OpsW.sz 5 [114, 112, 111] (Z1h t1 x1) ⟨g26, trivial⟩ ?_
   have ⟨x27, hx27, H⟩ := Y1j H
   change OpsW _ _ _ _ (Z1h t1 x1) ((Z1t v23) ++ []) _
   refine OpsW.callR (Z1t v23) [] (Z1t v23) (phi [(2000, some 2000)]) rfl rfl (by kernel_rfl) [.ref 2000 0 0, .j (2 : Int), .j (t1 - 1)] _ rfl (Yi trivial) (.cons (.r rfl) (.i2 .nil)) (hrec_f_R09_maker_some _ _ _ _ hx27) (Y0f (by kernel_rfl)) (by kernel_rfl) (.cons rfl rfl rfl rfl rfl (.i2 .nil) .nil) ?_
   rintro _ _ ⟨rfl, rfl⟩
   refine ⟨slA (eL Y3) x27.1, [(2000, ⟨0, true, 51, 2, [sU x27.2.B, .j x27.2.At]⟩)], phi [(2000, some 2000)], Y0f (by kernel_rfl), by kernel_rfl, by kernel_rfl, (.cons rfl rfl rfl rfl rfl (.i2 .nil) .nil), (.cons .im .nil), ?_⟩
   change OpsW _ _ _ _ ((115, slA (eL Y3) x27.1) :: (Z1h t1 x1)) [(2000, ⟨0, true, 51, 2, [sU x27.2.B, .j x27.2.At]⟩)] _
   have ⟨x28, hx28, H⟩ := Y1j H
   refine Y1e rfl (.cons (.pur rfl) (.cons (.pur rfl) .nil)) (Y3n hx28) (OpsW.sg 1 [8] [(8, slA Y3 x28)] (Y2 ?_))
   exact ⟨(x27.2, x28), H, (StC.mk (phi [(2000, some 2000)]) (.o rfl (.i2 .nil) .nil) rfl (.cons .im .nil))⟩
  refine Y22 (fun (y : Y8 × Bool) => Y0x rec_f_R09_maker_some t1 x1 y.1 y.2) r (fun (y : Y8 × Bool) => [Z26, (1, .j t1), (Z29 x1), (43, .j (Z24 x1)), (117, .bool y.2)]) (fun (y : Y8 × Bool) => [(2000, ⟨0, true, 51, 2, [sU y.1.B, .j y.1.At]⟩)]) ?_ ?_
  ·refine Y0 (OpsW.sg 2 [117, 0, 1, 7, 43] ((117, .bool ((Z24 x1) == 9)) :: (Z1b t1 x1)) ?_)
   refine Y2 (Yb (b := (Z24 x1) == 9) H rfl (fun c57 H => ?_) (fun c57 H => ?_))
   ·refine Yg ?_
    exact ⟨(v23, (Z24 x1) == 9), H, (StC.mk (phi [(2000, some 2000)]) (.o rfl (.i2 .nil) .nil) rfl (.cons (.r rfl) (.i4 .nil)))⟩
   refine Y0 (OpsW.sg 2 [117, 0, 1, 7, 43] ((117, .bool ((Z24 x1) == 10)) :: (Z1b t1 x1)) ?_)
   refine Y2 (Yb (b := (Z24 x1) == 10) H rfl (fun c58 H => ?_) (fun c58 H => ?_))
   ·refine Yg ?_
    exact ⟨(v23, (Z24 x1) == 10), H, (StC.mk (phi [(2000, some 2000)]) (.o rfl (.i2 .nil) .nil) rfl (.cons (.r rfl) (.i4 .nil)))⟩
   refine Yu (OpsW.sg 2 [117, 0, 1, 7, 43] ((117, .bool ((Z24 x1) == 11)) :: (Z1b t1 x1)) ?_)
   refine Y2 ?_
   exact ⟨(v23, (Z24 x1) == 11), H, (StC.mk (phi [(2000, some 2000)]) (.o rfl (.i2 .nil) .nil) rfl (.cons (.r rfl) (.i4 .nil)))⟩
  rintro ⟨v29, v30⟩ H
  unfold Y0x at H
  change AW _ _ _ [Z26, (1, .j t1), (Z29 x1), (43, .j (Z24 x1)), (117, .bool v30)] (Z1d v29) _
  refine Yb (b := v30) H rfl (fun c31 H => ?_) (fun c31 H => ?_)
  ·refine Yu ?_
   have ⟨g32, H⟩ := Yt H
   refine OpsW.sz 5 [125, 123, 122] (Z1i t1 x1) ⟨g32, trivial⟩ ?_
   have ⟨x33, hx33, H⟩ := Y1j H
   change OpsW _ _ _ _ (Z1i t1 x1) ((Z1d v29) ++ []) _
   refine OpsW.callR (Z1d v29) [] (Z1d v29) (phi [(2000, some 2000)]) rfl rfl (by kernel_rfl) [.ref 2000 0 0, .j (1 : Int), .j (t1 - 1)] _ rfl (Yi trivial) (.cons (.r rfl) (.i2 .nil)) (hrec_f_R09_maker_some _ _ _ _ hx33) (Y0f (by kernel_rfl)) (by kernel_rfl) (.cons rfl rfl rfl rfl rfl (.i2 .nil) .nil) ?_
   rintro _ _ ⟨rfl, rfl⟩
   refine ⟨slA (eL Y3) x33.1, [(2000, ⟨0, true, 51, 2, [sU x33.2.B, .j x33.2.At]⟩)], phi [(2000, some 2000)], Y0f (by kernel_rfl), by kernel_rfl, by kernel_rfl, (.cons rfl rfl rfl rfl rfl (.i2 .nil) .nil), (.cons .im .nil), ?_⟩
   change OpsW _ _ _ _ ((126, slA (eL Y3) x33.1) :: (Z1i t1 x1)) [(2000, ⟨0, true, 51, 2, [sU x33.2.B, .j x33.2.At]⟩)] _
   have ⟨x34, hx34, H⟩ := Y1j H
   refine Y1e rfl (.cons (.pur rfl) (.cons (.pur rfl) .nil)) (Y3n hx34) (OpsW.sg 1 [8] [(8, slA Y3 x34)] (Y2 ?_))
   exact ⟨(x33.2, x34), H, (StC.mk (phi [(2000, some 2000)]) (.o rfl (.i2 .nil) .nil) rfl (.cons .im .nil))⟩
  refine Y0 (OpsW.sg 2 [128, 0, 1, 7] ((128, .bool ((Z24 x1) == 12)) :: (Z1v t1 x1)) ?_)
  refine Y2 (Yb (b := (Z24 x1) == 12) H rfl (fun c35 H => ?_) (fun c35 H => ?_))
  ·refine Y0 (OpsW.sg 1 [130, 0, 7] (Z21 x1) ?_)
   have ⟨x36, hx36, H⟩ := Y1j H
   change OpsW _ _ _ _ (Z21 x1) ((Z1d v29) ++ []) _
   refine OpsW.callR (Z1d v29) [] (Z1d v29) (phi [(2000, some 2000)]) rfl rfl (by kernel_rfl) Z2c _ rfl (Yi trivial) (.cons (.r rfl) .nil) (Y1b hx36) (Y0f (by kernel_rfl)) (by kernel_rfl) (.cons rfl rfl rfl rfl rfl (.i2 .nil) .nil) ?_
   rintro _ _ ⟨rfl, rfl⟩
   refine ⟨.j x36.1, (Z1y x36), phi [(2000, some 2000)], Y0f (by kernel_rfl), by kernel_rfl, by kernel_rfl, (.cons rfl rfl rfl rfl rfl (.i2 .nil) .nil), (.cons .im .nil), ?_⟩
   change OpsW _ _ _ _ ((131, .j x36.1) :: (Z21 x1)) (Z1y x36) _
   have ⟨g37, H⟩ := Yt H
   refine OpsW.sz 2 [133, 0, 7] ((133, .j (Z25 x36)) :: Z26 :: (Z1c x1)) ⟨(by decide), g37, trivial⟩ (OpsW.buildT (enc := eL Y3) Z28 rfl rfl rfl 134 rfl E77 (fun _ => rfl) (by decide) trivial (by kernel_rfl) (by kernel_rfl) (by kernel_rfl) rfl (OpsW.sg 2 [11, 10, 0, 7] ((11, .rsl 134 0 0 (Z28.length)) :: (Z1m x1 x36)) (OpsW.rc ((11, .rsl 11 0 0 (Z28.length)) :: (Z1m x1 x36)) ((11, rtA 0 23 1 (eL Y3) Z28) :: (Z1y x36)) (StC.mk (phi [(11, some 134), (2000, some 2000)]) (.o rfl (CstL.ims _) (.o rfl (.i2 .nil) .nil)) rfl (.cons (.s rfl) (.cons .im (.cons (.r rfl) (.cons .im .nil))))) ?_)))
   refine Y2 (Y0e (Y0 (OpsW.sg 1 [12, 11, 10, 0, 7] ((12, .j (0 : Int)) :: (11, .rsl 11 0 0 (Z28.length)) :: (Z1m x1 x36)) ?_)))
   refine Y2 (Y0g ?_)
   refine Y4i (fun loop (s : Y8 × (List (List Y4)) × Int) => Y0b x1 x36 loop s.1 s.2.1 s.2.2) r (fun (s : Y8 × (List (List Y4)) × Int) => [Z26, (Z29 x1), (10, .j (Z25 x36)), (11, .rsl 11 0 0 s.2.1.length), (12, .j s.2.2)]) (fun (s : Y8 × (List (List Y4)) × Int) => [(2000, ⟨0, true, 51, 2, [sU s.1.B, .j s.1.At]⟩), (11, rtA 0 23 1 (eL Y3) s.2.1)]) ?_ 1000000 (x36.2, Z28, (0 : Int)) H (StC.mk (phi [(2000, some 2000), (11, some 11)]) (.o rfl (.i2 .nil) (.o rfl (CstL.ims _) .nil)) rfl (.cons (.r rfl) (.i2 (.cons (.s rfl) (.cons .im .nil)))))
   intro loop41 s H
   obtain ⟨v38, v39, v40⟩ := s
   unfold Y0b at H
   change AW _ _ _ (Z1a v39 v40 x1 x36) ((2000, ⟨0, true, 51, 2, [sU v38.B, .j v38.At]⟩) :: (Z23 v39)) _
   refine Y0e (Y0 (OpsW.sg 3 [137, 0, 7, 10, 11, 12] ((137, .bool (decide (v40 ≤ (Z25 x36)))) :: (Z1a v39 v40 x1 x36)) ?_))
   refine Y2 (Yb (b := decide (v40 ≤ (Z25 x36))) H rfl (fun c42 H => ?_) (fun c42 H => ?_))
   ·refine Yg (Y0e (Y0g (Yu (OpsW.sg 2 [141, 140, 0, 7, 10, 11, 12] (Z1x v39 v40 x1 x36) ?_))))
    have ⟨x43, hx43, H⟩ := Y1j H
    change OpsW _ _ _ _ (Z1x v39 v40 x1 x36) ((Z1u v38) ++ (Z23 v39)) _
    refine OpsW.callR (Z1u v38) (Z23 v39) (Z1u v38) (phi [(2000, some 2000)]) rfl rfl (by kernel_rfl) Z2c _ rfl (Yi trivial) (.cons (.r rfl) .nil) (Y4n hx43) (Y0f (by kernel_rfl)) (by kernel_rfl) (.cons rfl rfl rfl rfl rfl (.i2 .nil) .nil) ?_
    rintro _ _ ⟨rfl, rfl⟩
    refine ⟨slA Y3 x43.1, [(2000, ⟨0, true, 51, 2, [sU x43.2.B, .j x43.2.At]⟩)], phi [(2000, some 2000)], Y0f (by kernel_rfl), by kernel_rfl, by kernel_rfl, (.cons rfl rfl rfl rfl rfl (.i2 .nil) .nil), (.cons .im .nil), ?_⟩
    change OpsW _ _ _ _ ((142, slA Y3 x43.1) :: (Z1x v39 v40 x1 x36)) ((2000, ⟨0, true, 51, 2, [sU x43.2.B, .j x43.2.At]⟩) :: (Z23 v39)) _
    have ⟨g44, H⟩ := Yt H
    refine OpsW.appendLF (enc := eL Y3) [x43.1] rfl rfl rfl (by decide) rfl rfl rfl (by simp) E77 (fun _ => rfl) (by decide) trivial (by kernel_rfl) (by kernel_rfl) (by kernel_rfl) rfl rfl rfl g44 (OpsW.sg 1 [11, 0, 7, 10, 12] ((11, .rsl 11 1 0 ((v39 ++ [x43.1]).length)) :: (Z1w v40 x1 x36)) (OpsW.rc ((11, .rsl 11 0 0 ((v39 ++ [x43.1]).length)) :: (Z1w v40 x1 x36)) [(11, rtA 0 23 1 (eL Y3) (v39 ++ [x43.1])), (2000, ⟨0, true, 51, 2, [sU x43.2.B, .j x43.2.At]⟩)] (StC.mk (phi [(11, some 11), (2000, some 2000)]) (.o rfl (CstL.ims _) (.o rfl (.i2 .nil) .nil)) rfl (.cons (.s rfl) (.cons (.r rfl) (.i3 .nil)))) ?_))
    refine Y2 (Yu ?_)
    have ⟨g45, H⟩ := Yt H
    refine OpsW.sz 3 [12, 11, 0, 7, 10] [(12, .j (v40 + 1)), (11, .rsl 11 0 0 ((v39 ++ [x43.1]).length)), Z26, (Z29 x1), (10, .j (Z25 x36))] ⟨g45, trivial⟩ (Y2 ?_)
    exact ⟨(x43.2, v39 ++ [x43.1], v40 + 1), H, (StC.mk (phi [(2000, some 2000), (11, some 11)]) (.o rfl (.i2 .nil) (.o rfl (CstL.ims _) .nil)) rfl (.cons (.r rfl) (.i2 (.cons (.s rfl) (.cons .im .nil)))))⟩
   refine AW.exit <| Yu (OpsW.sg 4 [148, 147] ((148, .rsl 11 0 0 v39.length) :: (Z22 x1 x36)) ?_)
   refine OpsW.rc ((148, slA (eL Y3) v39) :: (Z22 x1 x36)) (Z1u v38) (StC.mk (phi [(2000, some 2000)]) (.o rfl (.i2 .nil) .nil) rfl (.cons (.frz rfl rfl rfl (frz_all (eL Y3) 1 (fun _ => rfl) v39) (Y15 (eL Y3) 1 (fun _ => rfl) v39) (phi_ne rfl)) (.cons (.agg (.i2 .nil)) .nil))) ?_
   have ⟨x46, hx46, H⟩ := Y1j H
   refine Y1e rfl (.cons (.pur rfl) (.cons (.pur rfl) .nil)) (Y3n hx46) (OpsW.sg 1 [8] [(8, slA Y3 x46)] (Y2 ?_))
   exact ⟨(v38, x46), H, (StC.mk (phi [(2000, some 2000)]) (.o rfl (.i2 .nil) .nil) rfl (.cons .im .nil))⟩
  refine Y0 (OpsW.sg 1 [44, 0, 1, 7] ((44, .ref 2000 0 0) :: (Z1v t1 x1)) ?_)
  have ⟨x47, hx47, H⟩ := Y1j H
  change OpsW _ _ _ _ ((44, .ref 2000 0 0) :: (Z1v t1 x1)) ((Z1d v29) ++ []) _
  refine OpsW.callR (Z1d v29) [] (Z1d v29) (phi [(2000, some 2000)]) rfl rfl (by kernel_rfl) Z2c _ rfl (Yi trivial) (.cons (.r rfl) .nil) (Y1b hx47) (Y0f (by kernel_rfl)) (by kernel_rfl) (.cons rfl rfl rfl rfl rfl (.i2 .nil) .nil) ?_
  rintro _ _ ⟨rfl, rfl⟩
  refine ⟨.j x47.1, (Z1j x47), phi [(2000, some 2000)], Y0f (by kernel_rfl), by kernel_rfl, by kernel_rfl, (.cons rfl rfl rfl rfl rfl (.i2 .nil) .nil), (.cons .im .nil), ?_⟩
  change OpsW _ _ _ _ ((45, .j x47.1) :: (44, .ref 2000 0 0) :: (Z1v t1 x1)) (Z1j x47) _
  have ⟨g48, H⟩ := Yt H
  refine OpsW.sz 3 [48, 47, 0, 1, 7] (Z1g t1 x1 x47) ⟨(by decide), g48, trivial⟩ ?_
  have ⟨x49, hx49, H⟩ := Y1j H
  change OpsW _ _ _ _ (Z1g t1 x1 x47) ((Z1j x47) ++ []) _
  refine OpsW.callR (Z1j x47) [] (Z1j x47) (phi [(2000, some 2000)]) rfl rfl (by kernel_rfl) Z2c _ rfl (Yi trivial) (.cons (.r rfl) .nil) (Y1b hx49) (Y0f (by kernel_rfl)) (by kernel_rfl) (.cons rfl rfl rfl rfl rfl (.i2 .nil) .nil) ?_
  rintro _ _ ⟨rfl, rfl⟩
  refine ⟨.j x49.1, (Z1k x49), phi [(2000, some 2000)], Y0f (by kernel_rfl), by kernel_rfl, by kernel_rfl, (.cons rfl rfl rfl rfl rfl (.i2 .nil) .nil), (.cons .im .nil), ?_⟩
  change OpsW _ _ _ _ ((49, .j x49.1) :: (Z1g t1 x1 x47)) (Z1k x49) _
  have ⟨g50, H⟩ := Yt H
  refine OpsW.sz 4 [14, 13, 0, 1, 7] ((14, .j (Z2a x49)) :: (13, .j (Z27 x47)) :: (Z1v t1 x1)) ⟨(by decide), g50, trivial⟩ <| Y2 (Yu ?_)
  have ⟨g51, H⟩ := Yt H
  have ⟨g52, H⟩ := Yt H
  have ⟨g53, H⟩ := Yt H
  have ⟨g54, H⟩ := Yt H
  refine OpsW.sz 12 [63, 61, 58, 57] (Z19 t1 x1 x47 x49) ⟨g51, g52, g53, g54, trivial⟩ ?_
  have ⟨x55, hx55, H⟩ := Y1j H
  change OpsW _ _ _ _ (Z19 t1 x1 x47 x49) ((Z1k x49) ++ []) _
  refine OpsW.callR (Z1k x49) [] (Z1k x49) (phi [(2000, some 2000)]) rfl rfl (by kernel_rfl) [.ref 2000 0 0, .j ((Z27 x47) * (Z2a x49)), .j (t1 - 1)] _ rfl (Yi trivial) (.cons (.r rfl) (.i2 .nil)) (hrec_f_R09_maker_some _ _ _ _ hx55) (Y0f (by kernel_rfl)) (by kernel_rfl) (.cons rfl rfl rfl rfl rfl (.i2 .nil) .nil) ?_
  rintro _ _ ⟨rfl, rfl⟩
  refine ⟨slA (eL Y3) x55.1, [(2000, ⟨0, true, 51, 2, [sU x55.2.B, .j x55.2.At]⟩)], phi [(2000, some 2000)], Y0f (by kernel_rfl), by kernel_rfl, by kernel_rfl, (.cons rfl rfl rfl rfl rfl (.i2 .nil) .nil), (.cons .im .nil), ?_⟩
  change OpsW _ _ _ _ ((64, slA (eL Y3) x55.1) :: (Z19 t1 x1 x47 x49)) [(2000, ⟨0, true, 51, 2, [sU x55.2.B, .j x55.2.At]⟩)] _
  have ⟨x56, hx56, H⟩ := Y1j H
  refine Y1e rfl (.cons (.pur rfl) (.cons (.pur rfl) .nil)) (Y3n hx56) (OpsW.sg 1 [8] [(8, slA Y3 x56)] (Y2 ?_))
  exact ⟨(x55.2, x56), H, (StC.mk (phi [(2000, some 2000)]) (.o rfl (.i2 .nil) .nil) rfl (.cons .im .nil))⟩
 rintro ⟨v6, v7⟩ H
 unfold Yy at H
 change AW _ _ _ [(8, slA Y3 v7)] [(2000, ⟨0, true, 51, 2, [sU v6.B, .j v6.At]⟩)] _
 refine Y0 (OpsW.sg 2 [6] [(6, slA Y3 v7)] ?_)
 refine Y2 ?_
 obtain rfl := X7 H
 refine Yx ?_
 show ∃ en' hp', StC _ _ en' hp' ∧ Done _ _ _ .ret en' hp'
 refine ⟨[(6, slA Y3 v7)], [(2000, ⟨0, true, 51, 2, [sU v6.B, .j v6.At]⟩)], (StC.mk (phi [(2000, some 2000)]) (.o rfl (.i2 .nil) .nil) rfl (.cons .im .nil)), ?_⟩
 refine Y4t rfl (.tmp .nil) ?_
 exact ⟨by kernel_rfl, by kernel_rfl⟩
def Y0c (rec_f_R09_maker_tree : Y8 → Int → Int → Option ((List Y4) × Y8)) (t1 : Int) (t2 : Int) (loop4 : (Y8 × (List (List Y4)) × Int) → Option ((List (List Y4)) × Y8)) (v1 : Y8) (v2 : List (List Y4)) (v3 : Int) : Option ((List (List Y4)) × Y8) :=
 cond (decide (v3 < t1)) (
  (rec_f_R09_maker_tree v1 t2 (1 : Int)).bind fun x6 =>
  G (room 24 (v2.length + 1)) <|
  G (inR (v3 + 1)) <|
  loop4 (x6.2, v2 ++ [x6.1], v3 + 1)) (
  some (v2, v1))
def Y3a (rec_f_R09_maker_tree : Y8 → Int → Int → Option ((List Y4) × Y8)) (rec_f_R09_maker_some : Y8 → Int → Int → Option ((List (List Y4)) × Y8)) (t0 : Y8) (t1 : Int) (t2 : Int) : Option ((List (List Y4)) × Y8) :=
 iter (fun loop (s : Y8 × (List (List Y4)) × Int) => Y0c rec_f_R09_maker_tree t1 t2 loop s.1 s.2.1 s.2.2) 1000000 (t0, ([] : List (List Y4)), (0 : Int))
section
variable (t1 : Int) (t2 : Int) (v1 : Y8) (v2 : List (List Y4)) (v3 : Int)
abbrev Z2h := ([] : List (List Y4))
abbrev Z2i : Nat × AV := (0, .ref 2000 0 0)
abbrev Z2d : Env := [(17, .j t2), (16, .ref 2000 0 0), (15, .rsl 7 0 0 v2.length), Z2i, (1, .j t1), (2, .j t2), (7, .rsl 7 0 0 v2.length), (8, .j v3)]
abbrev Z2e : Env := [Z2i, (1, .j t1), (2, .j t2)]
abbrev Z2f : Hp := [(2000, ⟨0, true, 51, 2, [sU v1.B, .j v1.At]⟩)]
abbrev Z2g : Hp := [(7, rtA 0 23 1 (eL Y3) v2)]
end
theorem f_R09_maker_some_body_io {rec_f_R09_maker_tree : Y8 → Int → Int → Option ((List Y4) × Y8)} {rec_f_R09_maker_some : Y8 → Int → Int → Option ((List (List Y4)) × Y8)} (hrec_f_R09_maker_tree : ∀ (t0 : Y8) (t1 : Int) (t2 : Int) (r : (List Y4) × Y8), rec_f_R09_maker_tree t0 t1 t2 = some r → Abs.Spec Tryd.prog 27 [.ref 2000 0 0, .int .i64 t1, .int .i64 t2] [(2000, ⟨0, true, 51, 2, [slA (eI .u8) t0.B, .int .i64 t0.At]⟩)] (fun x h => x = slA Y3 r.1 ∧ h = [(2000, ⟨0, true, 51, 2, [slA (eI .u8) r.2.B, .int .i64 r.2.At]⟩)])) (hrec_f_R09_maker_some : ∀ (t0 : Y8) (t1 : Int) (t2 : Int) (r : (List (List Y4)) × Y8), rec_f_R09_maker_some t0 t1 t2 = some r → Abs.Spec Tryd.prog 42 [.ref 2000 0 0, .int .i64 t1, .int .i64 t2] [(2000, ⟨0, true, 51, 2, [slA (eI .u8) t0.B, .int .i64 t0.At]⟩)] (fun x h => x = slA (eL Y3) r.1 ∧ h = [(2000, ⟨0, true, 51, 2, [slA (eI .u8) r.2.B, .int .i64 r.2.At]⟩)])) {t0 : Y8} {t1 : Int} {t2 : Int} {r : (List (List Y4)) × Y8} (H : Y3a rec_f_R09_maker_tree rec_f_R09_maker_some t0 t1 t2 = some r) : Abs.Spec Tryd.prog 42 [.ref 2000 0 0, .int .i64 t1, .int .i64 t2] [(2000, ⟨0, true, 51, 2, [slA (eI .u8) t0.B, .int .i64 t0.At]⟩)] (fun x h => x = slA (eL Y3) r.1 ∧ h = [(2000, ⟨0, true, 51, 2, [slA (eI .u8) r.2.B, .int .i64 r.2.At]⟩)]) := by
 refine Y04 Tryd.func42 rfl (by simp [Tryd.ntmps42]) ?_
 rw [Tryd.ntmps42]
 unfold Y3a at H
 change AW _ _ _ (Z2e t1 t2) [(2000, ⟨0, true, 51, 2, [sU t0.B, .j t0.At]⟩)] _
 refine AW.endcast <| Y0 (OpsW.sg 1 [0, 1, 2] (Z2e t1 t2) ?_)
 refine Y2 (Y0 (OpsW.buildT (enc := eL Y3) Z2h rfl rfl rfl 9 rfl E77 (fun _ => rfl) (by decide) trivial (by kernel_rfl) (by kernel_rfl) (by kernel_rfl) rfl ?_))
 refine OpsW.sg 1 [7, 0, 1, 2] ((7, .rsl 9 0 0 (Z2h.length)) :: (Z2e t1 t2)) (OpsW.rc ((7, .rsl 7 0 0 (Z2h.length)) :: (Z2e t1 t2)) [(7, rtA 0 23 1 (eL Y3) Z2h), (2000, ⟨0, true, 51, 2, [sU t0.B, .j t0.At]⟩)] (StC.mk (phi [(7, some 9), (2000, some 2000)]) (.o rfl (CstL.ims _) (.o rfl (.i2 .nil) .nil)) rfl (.cons (.s rfl) (.cons (.r rfl) (.i2 .nil)))) ?_)
 refine Y2 (Y0e (Y0 (OpsW.sg 1 [8, 7, 0, 1, 2] ((8, .j (0 : Int)) :: (7, .rsl 7 0 0 (Z2h.length)) :: (Z2e t1 t2)) ?_)))
 refine Y2 (Y0g ?_)
 refine Y4i (fun loop (s : Y8 × (List (List Y4)) × Int) => Y0c rec_f_R09_maker_tree t1 t2 loop s.1 s.2.1 s.2.2) r (fun (s : Y8 × (List (List Y4)) × Int) => [Z2i, (1, .j t1), (2, .j t2), (7, .rsl 7 0 0 s.2.1.length), (8, .j s.2.2)]) (fun (s : Y8 × (List (List Y4)) × Int) => [(2000, ⟨0, true, 51, 2, [sU s.1.B, .j s.1.At]⟩), (7, rtA 0 23 1 (eL Y3) s.2.1)]) ?_ 1000000 (t0, Z2h, (0 : Int)) H (StC.mk (phi [(2000, some 2000), (7, some 7)]) (.o rfl (.i2 .nil) (.o rfl (CstL.ims _) .nil)) rfl (.cons (.r rfl) (.i2 (.cons (.s rfl) (.cons .im .nil)))))
 intro loop4 s H
 obtain ⟨v1, v2, v3⟩ := s
 unfold Y0c at H
 change AW _ _ _ [Z2i, (1, .j t1), (2, .j t2), (7, .rsl 7 0 0 v2.length), (8, .j v3)] ((2000, ⟨0, true, 51, 2, [sU v1.B, .j v1.At]⟩) :: (Z2g v2)) _
 refine Y0e (Y0 (OpsW.sg 3 [12, 0, 1, 2, 7, 8] [(12, .bool (decide (v3 < t1))), Z2i, (1, .j t1), (2, .j t2), (7, .rsl 7 0 0 v2.length), (8, .j v3)] ?_))
 refine Y2 (Yb (b := decide (v3 < t1)) H rfl (fun c5 H => ?_) (fun c5 H => ?_))
 ·refine Yg (Y0e (Y0g (Yu (OpsW.sg 3 [17, 16, 15, 0, 1, 2, 7, 8] (Z2d t1 t2 v2 v3) ?_))))
  have ⟨x6, hx6, H⟩ := Y1j H
  change OpsW _ _ _ _ (Z2d t1 t2 v2 v3) ((Z2f v1) ++ (Z2g v2)) _
  refine OpsW.callR (Z2f v1) (Z2g v2) (Z2f v1) (phi [(2000, some 2000)]) rfl rfl (by kernel_rfl) [.ref 2000 0 0, .j t2, .j (1 : Int)] _ rfl (Yi trivial) (.cons (.r rfl) (.i2 .nil)) (hrec_f_R09_maker_tree _ _ _ _ hx6) (Y0f (by kernel_rfl)) (by kernel_rfl) (.cons rfl rfl rfl rfl rfl (.i2 .nil) .nil) ?_
  rintro _ _ ⟨rfl, rfl⟩
  refine ⟨slA Y3 x6.1, [(2000, ⟨0, true, 51, 2, [sU x6.2.B, .j x6.2.At]⟩)], phi [(2000, some 2000)], Y0f (by kernel_rfl), by kernel_rfl, by kernel_rfl, (.cons rfl rfl rfl rfl rfl (.i2 .nil) .nil), (.cons .im .nil), ?_⟩
  change OpsW _ _ _ _ ((18, slA Y3 x6.1) :: (Z2d t1 t2 v2 v3)) ((2000, ⟨0, true, 51, 2, [sU x6.2.B, .j x6.2.At]⟩) :: (Z2g v2)) _
  have ⟨g7, H⟩ := Yt H
  refine OpsW.appendLF (enc := eL Y3) [x6.1] rfl rfl rfl (by decide) rfl rfl rfl (by simp) E77 (fun _ => rfl) (by decide) trivial (by kernel_rfl) (by kernel_rfl) (by kernel_rfl) rfl rfl rfl g7 (OpsW.sg 1 [7, 0, 1, 2, 8] [(7, .rsl 7 1 0 ((v2 ++ [x6.1]).length)), Z2i, (1, .j t1), (2, .j t2), (8, .j v3)] (OpsW.rc [(7, .rsl 7 0 0 ((v2 ++ [x6.1]).length)), Z2i, (1, .j t1), (2, .j t2), (8, .j v3)] [(7, rtA 0 23 1 (eL Y3) (v2 ++ [x6.1])), (2000, ⟨0, true, 51, 2, [sU x6.2.B, .j x6.2.At]⟩)] (StC.mk (phi [(7, some 7), (2000, some 2000)]) (.o rfl (CstL.ims _) (.o rfl (.i2 .nil) .nil)) rfl (.cons (.s rfl) (.cons (.r rfl) (.i3 .nil)))) ?_))
  refine Y2 (Yu ?_)
  have ⟨g8, H⟩ := Yt H
  refine OpsW.sz 3 [8, 7, 0, 1, 2] ((8, .j (v3 + 1)) :: (7, .rsl 7 0 0 ((v2 ++ [x6.1]).length)) :: (Z2e t1 t2)) ⟨g8, trivial⟩ (Y2 ?_)
  exact ⟨(x6.2, v2 ++ [x6.1], v3 + 1), H, (StC.mk (phi [(2000, some 2000), (7, some 7)]) (.o rfl (.i2 .nil) (.o rfl (CstL.ims _) .nil)) rfl (.cons (.r rfl) (.i2 (.cons (.s rfl) (.cons .im .nil)))))⟩
 refine AW.exit <| Y0 (OpsW.sg 2 [6] [(6, .rsl 7 0 0 v2.length)] ?_)
 refine OpsW.rc [(6, slA (eL Y3) v2)] (Z2f v1) (StC.mk (phi [(2000, some 2000)]) (.o rfl (.i2 .nil) .nil) rfl (.cons (.frz rfl rfl rfl (frz_all (eL Y3) 1 (fun _ => rfl) v2) (Y15 (eL Y3) 1 (fun _ => rfl) v2) (phi_ne rfl)) .nil)) (Y2 ?_)
 obtain rfl := X7 H
 refine Yx ?_
 show ∃ en' hp', StC _ _ en' hp' ∧ Done _ _ _ .ret en' hp'
 refine ⟨[(6, slA (eL Y3) v2)], (Z2f v1), (StC.mk (phi [(2000, some 2000)]) (.o rfl (.i2 .nil) .nil) rfl (.cons .im .nil)), ?_⟩
 refine Y4t rfl (.tmp .nil) ?_
 exact ⟨by kernel_rfl, by kernel_rfl⟩
mutual
def Y18 : Nat → Y8 → Int → Int → Option ((List Y4) × Y8)
 | 0, _, _, _ => none
 | n + 1, t0, t1, t2 => Y2e (Y18 n) (Y21 n) t0 t1 t2
def Y21 : Nat → Y8 → Int → Int → Option ((List (List Y4)) × Y8)
 | 0, _, _, _ => none
 | n + 1, t0, t1, t2 => Y3a (Y18 n) (Y21 n) t0 t1 t2
end
theorem f_R09_maker_tree_all : ∀ n : Nat, (∀ (t0 : Y8) (t1 : Int) (t2 : Int) (r : (List Y4) × Y8), Y18 n t0 t1 t2 = some r → Abs.Spec Tryd.prog 27 [.ref 2000 0 0, .int .i64 t1, .int .i64 t2] [(2000, ⟨0, true, 51, 2, [slA (eI .u8) t0.B, .int .i64 t0.At]⟩)] (fun x h => x = slA Y3 r.1 ∧ h = [(2000, ⟨0, true, 51, 2, [slA (eI .u8) r.2.B, .int .i64 r.2.At]⟩)])) ∧ (∀ (t0 : Y8) (t1 : Int) (t2 : Int) (r : (List (List Y4)) × Y8), Y21 n t0 t1 t2 = some r → Abs.Spec Tryd.prog 42 [.ref 2000 0 0, .int .i64 t1, .int .i64 t2] [(2000, ⟨0, true, 51, 2, [slA (eI .u8) t0.B, .int .i64 t0.At]⟩)] (fun x h => x = slA (eL Y3) r.1 ∧ h = [(2000, ⟨0, true, 51, 2, [slA (eI .u8) r.2.B, .int .i64 r.2.At]⟩)])) ∧ True
 | 0 => by
  refine ⟨?_, ?_, trivial⟩
  ·intro t0 t1 t2 r H; rw [Y18] at H; cases H
  ·intro t0 t1 t2 r H; rw [Y21] at H; cases H
 | n + 1 => by
  have ih := f_R09_maker_tree_all n
  refine ⟨?_, ?_, trivial⟩
  ·intro t0 t1 t2 r H; rw [Y18] at H; exact f_R09_maker_tree_body_io ih.1 ih.2.1 H
  ·intro t0 t1 t2 r H; rw [Y21] at H; exact f_R09_maker_some_body_io ih.1 ih.2.1 H
def f_R09_maker_tree (t0 : Y8) (t1 : Int) (t2 : Int) : Option ((List Y4) × Y8) := Y18 1000000 t0 t1 t2
theorem f_R09_maker_tree_io {t0 : Y8} {t1 : Int} {t2 : Int} {r : (List Y4) × Y8} (H : f_R09_maker_tree t0 t1 t2 = some r) : Abs.Spec Tryd.prog 27 [.ref 2000 0 0, .int .i64 t1, .int .i64 t2] [(2000, ⟨0, true, 51, 2, [slA (eI .u8) t0.B, .int .i64 t0.At]⟩)] (fun x h => x = slA Y3 r.1 ∧ h = [(2000, ⟨0, true, 51, 2, [slA (eI .u8) r.2.B, .int .i64 r.2.At]⟩)]) :=
 (f_R09_maker_tree_all 1000000).1 t0 t1 t2 r H
def f_R09_Made (t0 : List Int) : Option (List Y4) :=
 G (0 ≤ (if (40 : Int) < (t0.length : Int) then (40 : Int) else (t0.length : Int)) ∧ (if (40 : Int) < (t0.length : Int) then (40 : Int) else (t0.length : Int)) ≤ (t0.length : Int)) <|
 (f_R09_maker_tree (⟨t0.take ((if (40 : Int) < (t0.length : Int) then (40 : Int) else (t0.length : Int)).toNat), (0 : Int)⟩ : Y8) (5 : Int) (1 : Int)).bind fun x2 =>
 (f_R09_Valid x2.1).bind fun x3 =>
 cond (!x3) (
  some [(⟨(1 : Int), (0 : Int)⟩ : Y4)]) (
  some x2.1)
section
variable (t0 : List Int)
abbrev Z2k := (t0.take ((if (40 : Int) < (t0.length : Int) then (40 : Int) else (t0.length : Int)).toNat))
abbrev Z2l := (⟨(1 : Int), (0 : Int)⟩ : Y4)
abbrev Z2j : Hp := [(3, ⟨0, true, 51, 2, [sU (Z2k t0), .j (0 : Int)]⟩)]
end
theorem f_R09_Made_ok  {t0 : List Int} {r : List Y4} (H : f_R09_Made t0 = some r) : QSpec Tryd.prog 11 [slA (eI .u8) t0] (slA Y3 r) := by
 refine Y04 Tryd.func11 rfl (by simp [Tryd.ntmps11]) ?_
 rw [Tryd.ntmps11]
 unfold f_R09_Made at H
 change AW _ _ _ [(0, sU t0)] [] _
 refine Y0 (OpsW.sg 1 [0] [(0, sU t0)] ?_)
 refine Y2 (Y0 (OpsW.sg 4 [8, 5] [(8, .j (if (40 : Int) < (t0.length : Int) then (40 : Int) else (t0.length : Int))), (5, sU t0)] ?_))
 have ⟨g1, H⟩ := Yt H
 refine OpsW.asU (sU (Z2k t0)) rfl rfl (T.slice' rfl trivial trivial trivial (by kernel_rfl) (by kernel_rfl) g1 trivial (sl_hi (eI .u8) 1 (fun _ => rfl) t0 (if (40 : Int) < (t0.length : Int) then (40 : Int) else (t0.length : Int)) g1)) (OpsW.sg 1 [10] [(10, .agg [sU (Z2k t0), .j (0 : Int)])] (OpsW.box rfl rfl rfl 11 rfl (Y23 (by kernel_rfl)) ?_))
 change OpsW _ _ _ _ _ [(11, ⟨0, true, 51, 2, [sU (Z2k t0), .j (0 : Int)]⟩)] _
 refine OpsW.sg 1 [3] [(3, .ref 11 0 0)] (OpsW.rc [(3, .ref 3 0 0)] (Z2j t0) (StC.mk (phi [(3, some 11)]) (.o rfl (.i2 .nil) .nil) rfl (.cons (.r rfl) .nil)) ?_)
 refine Y2 (Y0 (OpsW.sg 1 [12] [(12, .ref 3 0 0)] ?_))
 have ⟨x2, hx2, H⟩ := Y1j H
 change OpsW _ _ _ _ [(12, .ref 3 0 0)] ((Z2j t0) ++ []) _
 refine OpsW.callR (Z2j t0) [] [(2000, ⟨0, true, 51, 2, [sU (Z2k t0), .j (0 : Int)]⟩)] (phi [(2000, some 3)]) rfl rfl (by kernel_rfl) [.ref 2000 0 0, .j (5 : Int), .j (1 : Int)] _ rfl (Yi trivial) (.cons (.r rfl) (.i2 .nil)) (f_R09_maker_tree_io hx2) (Y0f (by kernel_rfl)) (by kernel_rfl) (.cons rfl rfl rfl rfl rfl (.i2 .nil) .nil) ?_
 rintro _ _ ⟨rfl, rfl⟩
 refine ⟨slA Y3 x2.1, [(3, ⟨0, true, 51, 2, [sU x2.2.B, .j x2.2.At]⟩)], phi [(3, some 2000)], Y0f (by kernel_rfl), by kernel_rfl, by kernel_rfl, (.cons rfl rfl rfl rfl rfl (.i2 .nil) .nil), (.cons .im .nil), ?_⟩
 change OpsW _ _ _ _ [(13, slA Y3 x2.1), (12, .ref 3 0 0)] [(3, ⟨0, true, 51, 2, [sU x2.2.B, .j x2.2.At]⟩)] _
 refine OpsW.sg 1 [4] [(4, slA Y3 x2.1)] (OpsW.rc [(4, slA Y3 x2.1)] [] (StC.pure (.cons .im .nil)) ?_)
 refine Y2 (Y0e (Y0 (OpsW.sg 1 [14, 4] [(14, slA Y3 x2.1), (4, slA Y3 x2.1)] ?_)))
 have ⟨x3, hx3, H⟩ := Y1j H
 refine Y1e rfl (.cons (.pur rfl) .nil) (f_R09_Valid_ok hx3) (OpsW.sg 1 [16, 4] [(16, .bool (!x3)), (4, slA Y3 x2.1)] (Y2 (Yb (b := !x3) H rfl (fun c4 H => ?_) (fun c4 H => ?_))))
 ·refine Y0 (OpsW.sg 1 [17] [(17, .agg [.j (1 : Int), .j (0 : Int)])] ?_)
  refine OpsW.buildTI (enc := Y3) [Z2l] rfl rfl rfl E23 (fun _ => rfl) (by decide) ⟨trivial, by kernel_rfl, by kernel_rfl, by kernel_rfl, rfl⟩ (OpsW.sg 1 [2] [(2, slA Y3 [Z2l])] (Y2 ?_))
  obtain rfl := X7 H
  refine AW.recast (env' := [(2, slA Y3 [Z2l])]) (h' := []) (StC.pure (.cons .im .nil)) (Yx ?_)
  try simp only [Ex.t, Ex.b]
  exact Done.eq rfl (.tmp .nil)
 refine Yg (Y0 (OpsW.sg 2 [2] [(2, slA Y3 x2.1)] ?_))
 refine Y2 ?_
 obtain rfl := X7 H
 refine AW.recast (env' := [(2, slA Y3 x2.1)]) (h' := []) (StC.pure (.cons .im .nil)) (Yx ?_)
 try simp only [Ex.t, Ex.b]
 exact Done.eq rfl (.tmp .nil)
def Y3o (rec_f_R09_Digits : Int → Option ByteArray) (t0 : Int) : Option ByteArray :=
 cond (decide (t0 < 10)) (
  G (inR (48 + t0)) <|
  some (strOf [IntKind.wrap .u8 (48 + t0)])) (
  G (inR (Int.tdiv t0 (10 : Int))) <|
  (rec_f_R09_Digits (Int.tdiv t0 (10 : Int))).bind fun x4 =>
  G (inR ((48 : Int) + (Int.tmod t0 (10 : Int)))) <|
  G (x4.size + (strOf [IntKind.wrap .u8 ((48 : Int) + (Int.tmod t0 (10 : Int)))]).size ≤ 9223372036854775807) <|
  some (x4 ++ (strOf [IntKind.wrap .u8 ((48 : Int) + (Int.tmod t0 (10 : Int)))])))
section
variable (t0 : Int)
abbrev Z2n := ((48 : Int) + (Int.tmod t0 (10 : Int)))
abbrev Z2o := strOf [IntKind.wrap .u8 (Z2n t0)]
abbrev Z2p := strOf [IntKind.wrap .u8 (48 + t0)]
abbrev Z2m : Env := [(11, .j (Int.tdiv t0 (10 : Int))), (10, .j t0), (4, .bool (decide (t0 < 10))), (0, .j t0)]
end
theorem f_R09_Digits_body_ok {rec_f_R09_Digits : Int → Option ByteArray} (hrec_f_R09_Digits : ∀ (t0 : Int) (r : ByteArray), rec_f_R09_Digits t0 = some r → QSpec Tryd.prog 57 [.int .i64 t0] (.string r)) {t0 : Int} {r : ByteArray} (H : Y3o rec_f_R09_Digits t0 = some r) : QSpec Tryd.prog 57 [.int .i64 t0] (.string r) := by
 refine Y04 Tryd.func57 rfl (by simp [Tryd.ntmps57]) ?_
 rw [Tryd.ntmps57]
 unfold Y3o at H
 change AW _ _ _ [(0, .j t0)] [] _
 refine Y0 (OpsW.sg 1 [0] [(0, .j t0)] ?_)
 refine Y2 (Y0e (Y0 (OpsW.sg 2 [4, 0] [(4, .bool (decide (t0 < 10))), (0, .j t0)] ?_)))
 refine Y2 (Yb (b := decide (t0 < 10)) H rfl (fun c1 H => ?_) (fun c1 H => ?_))
 ·refine Y0 ?_
  have ⟨g2, H⟩ := Yt H
  refine OpsW.sz 3 [7] [(7, .int .u8 (IntKind.wrap .u8 (48 + t0)))] ⟨g2, trivial⟩ (OpsW.buildTI (enc := eI .u8) [IntKind.wrap .u8 (48 + t0)] rfl rfl rfl E24 (fun _ => rfl) (by decide) ⟨trivial, by kernel_rfl, by kernel_rfl, by kernel_rfl, rfl⟩ (OpsW.quietU (.string (Z2p t0)) rfl rfl (Quiet.toStr (e := 5) [IntKind.wrap .u8 (48 + t0)] rfl (by kernel_rfl) (by kernel_rfl) (by kernel_rfl) (gpoU rfl ⟨trivial, SlV.im, SrcA.typed (enc := eI .u8) (fun _ => rfl) (by kernel_rfl) [IntKind.wrap .u8 (48 + t0)]⟩)) (OpsW.sg 1 [2] [(2, .string (Z2p t0))] (Y2 ?_))))
  obtain rfl := X7 H
  refine AW.recast (env' := [(2, .string (Z2p t0))]) (h' := []) (StC.pure (.cons .im .nil)) (Yx ?_)
  try simp only [Ex.t, Ex.b]
  exact Done.eq rfl (.tmp .nil)
 refine Yg (Y2n Tryd.checked.mixed (by kernel_rfl) ?_)
 have ⟨g3, H⟩ := Yt H
 refine QOps.sz (N := 20) 2 (Z2m t0) ⟨(by decide), g3, trivial⟩ ?_
 have ⟨x4, hx4, H⟩ := Y1j H
 refine QOps.qcall rfl (by kernel_rfl) rfl (Yi trivial) (.cons (.pur rfl) .nil) (hrec_f_R09_Digits _ _ hx4) rfl ?_
 have ⟨g5, H⟩ := Yt H
 refine QOps.sz (N := 20) 4 ((16, .int .u8 (IntKind.wrap .u8 (Z2n t0))) :: (15, .j (Z2n t0)) :: (14, .j (Int.tmod t0 (10 : Int))) :: (13, .j t0) :: (12, .string x4) :: (Z2m t0)) ⟨(by decide), g5, trivial⟩ (QOps.buildTI (enc := eI .u8) [IntKind.wrap .u8 (Z2n t0)] rfl rfl E24 (fun _ => rfl) (by decide) ⟨trivial, by kernel_rfl, by kernel_rfl, by kernel_rfl, rfl⟩ (QOps.quietU (.string (Z2o t0)) rfl (Quiet.toStr (e := 5) [IntKind.wrap .u8 (Z2n t0)] rfl (by kernel_rfl) (by kernel_rfl) (by kernel_rfl) (gpoU rfl ⟨trivial, SlV.im, SrcA.typed (enc := eI .u8) (fun _ => rfl) (by kernel_rfl) [IntKind.wrap .u8 (Z2n t0)]⟩)) ?_))
 have ⟨g6, H⟩ := Yt H
 refine QOps.sz (N := 20) 2 ((2, .string (x4 ++ (Z2o t0))) :: (19, .string (x4 ++ (Z2o t0))) :: (18, .string (Z2o t0)) :: (17, sU [IntKind.wrap .u8 (Z2n t0)]) :: (16, .int .u8 (IntKind.wrap .u8 (Z2n t0))) :: (15, .j (Z2n t0)) :: (14, .j (Int.tmod t0 (10 : Int))) :: (13, .j t0) :: (12, .string x4) :: (Z2m t0)) ⟨g6, trivial⟩ <| QOps.nil (AW.trim [2] [(2, .string (x4 ++ (Z2o t0)))] (by kernel_rfl) ?_)
 obtain rfl := X7 H
 refine AW.recast (env' := [(2, .string (x4 ++ (Z2o t0)))]) (h' := []) (StC.pure (.cons .im .nil)) (Yx ?_)
 try simp only [Ex.t, Ex.b]
 exact Done.eq rfl (.tmp .nil)
def Y2v : Nat → Int → Option ByteArray
 | 0, _ => none
 | n + 1, t0 => Y3o (Y2v n) t0
theorem f_R09_Digits_all : ∀ n : Nat, (∀ (t0 : Int) (r : ByteArray), Y2v n t0 = some r → QSpec Tryd.prog 57 [.int .i64 t0] (.string r)) ∧ True
 | 0 => by
  refine ⟨?_, trivial⟩
  ·intro t0 r H; rw [Y2v] at H; cases H
 | n + 1 => by
  have ih := f_R09_Digits_all n
  refine ⟨?_, trivial⟩
  ·intro t0 r H; rw [Y2v] at H; exact f_R09_Digits_body_ok ih.1 H
def f_R09_Digits (t0 : Int) : Option ByteArray := Y2v 1000000 t0
theorem f_R09_Digits_ok {t0 : Int} {r : ByteArray} (H : f_R09_Digits t0 = some r) : QSpec Tryd.prog 57 [.int .i64 t0] (.string r) :=
 (f_R09_Digits_all 1000000).1 t0 r H
def f_R09_names  : Option ((List ByteArray) × (List Int)) :=
 some ([(⟨#[102, 114, 97, 99]⟩ : ByteArray), (⟨#[112, 111, 119]⟩ : ByteArray), (⟨#[105, 100, 120]⟩ : ByteArray), (⟨#[114, 111, 111, 116]⟩ : ByteArray), (⟨#[99, 97, 110, 99, 101, 108]⟩ : ByteArray), (⟨#[115, 117, 109]⟩ : ByteArray), (⟨#[109, 97, 116, 114, 105, 120]⟩ : ByteArray)], [(6 : Int), (7 : Int), (8 : Int), (9 : Int), (11 : Int), (12 : Int), (13 : Int)])
section
abbrev Z2q : Nat × AV := (0, slA eS [(⟨#[102, 114, 97, 99]⟩ : ByteArray), (⟨#[112, 111, 119]⟩ : ByteArray), (⟨#[105, 100, 120]⟩ : ByteArray), (⟨#[114, 111, 111, 116]⟩ : ByteArray), (⟨#[99, 97, 110, 99, 101, 108]⟩ : ByteArray), (⟨#[115, 117, 109]⟩ : ByteArray), (⟨#[109, 97, 116, 114, 105, 120]⟩ : ByteArray)])
abbrev Z2r : Nat × AV := (1, slA (eI .i64) [(6 : Int), (7 : Int), (8 : Int), (9 : Int), (11 : Int), (12 : Int), (13 : Int)])
end
theorem f_R09_names_ok   {r : (List ByteArray) × (List Int)} (H : f_R09_names = some r) : QSpec Tryd.prog 80 [] (.tup [slA eS r.1, slA (eI .i64) r.2]) := by
 refine Y04 Tryd.func80 rfl (by simp [Tryd.ntmps80]) ?_
 rw [Tryd.ntmps80]
 unfold f_R09_names at H
 change AW _ _ _ [] [] _
 refine Y0 (OpsW.sg 2 [] [] ?_)
 refine Y2 (Y0 (OpsW.buildTI (enc := eS) [(⟨#[102, 114, 97, 99]⟩ : ByteArray), (⟨#[112, 111, 119]⟩ : ByteArray), (⟨#[105, 100, 120]⟩ : ByteArray), (⟨#[114, 111, 111, 116]⟩ : ByteArray), (⟨#[99, 97, 110, 99, 101, 108]⟩ : ByteArray), (⟨#[115, 117, 109]⟩ : ByteArray), (⟨#[109, 97, 116, 114, 105, 120]⟩ : ByteArray)] rfl rfl rfl E89 (fun _ => rfl) (by decide) ⟨trivial, by kernel_rfl, by kernel_rfl, by kernel_rfl, rfl⟩ ?_))
 refine OpsW.buildTI (enc := eI .i64) [(6 : Int), (7 : Int), (8 : Int), (9 : Int), (11 : Int), (12 : Int), (13 : Int)] rfl rfl rfl E42 (fun _ => rfl) (by decide) ⟨trivial, by kernel_rfl, by kernel_rfl, by kernel_rfl, rfl⟩ (OpsW.sg 2 [1, 0] [Z2r, Z2q] (Y2 ?_))
 obtain rfl := X7 H
 refine AW.recast (env' := [Z2q, Z2r]) (h' := []) (StC.pure (.i2 .nil)) (Yx ?_)
 try simp only [Ex.t, Ex.b]
 exact Done.eq rfl (.tmp (.tmp .nil))
def f_R09_name_b1 (t0 : Int) (x1 : (List ByteArray) × (List Int)) (loop3 : (Int) → Option ByteArray) (v2 : Int) : Option ByteArray :=
 cond (decide (v2 < (x1.2.length : Int))) (
  G (0 ≤ v2 ∧ v2 < (x1.2.length : Int)) <|
  cond ((x1.2.getD v2.toNat 0) == t0) (
   G (0 ≤ v2 ∧ v2 < (x1.1.length : Int)) <|
   some (x1.1.getD v2.toNat ByteArray.empty)) (
   G (inR (v2 + 1)) <|
   loop3 (v2 + 1))) (
  some (⟨#[]⟩ : ByteArray))
def f_R09_name (t0 : Int) : Option ByteArray :=
 (f_R09_names).bind fun x1 =>
 iter (fun loop (s : Int) => f_R09_name_b1 t0 x1 loop s) 1000000 (0 : Int)
section
variable (t0 : Int) (v2 : Int) (x1 : (List ByteArray) × (List Int))
abbrev Z2s : Env := [(0, .j t0), (3, slA eS x1.1), (4, slA (eI .i64) x1.2), (5, .j v2)]
end
theorem f_R09_name_ok  {t0 : Int} {r : ByteArray} (H : f_R09_name t0 = some r) : QSpec Tryd.prog 58 [.int .i64 t0] (.string r) := by
 refine Y04 Tryd.func58 rfl (by simp [Tryd.ntmps58]) ?_
 rw [Tryd.ntmps58]
 unfold f_R09_name at H
 change AW _ _ _ [(0, .j t0)] [] _
 refine Y0 (OpsW.sg 1 [0] [(0, .j t0)] ?_)
 refine Y2 (Y0 ?_)
 have ⟨x1, hx1, H⟩ := Y1j H
 refine Y1e rfl .nil (f_R09_names_ok hx1) (OpsW.sg 5 [4, 3, 0] [(4, slA (eI .i64) x1.2), (3, slA eS x1.1), (0, .j t0)] ?_)
 refine Y2 (Y0e (Y0 (OpsW.sg 1 [5, 4, 3, 0] [(5, .j (0 : Int)), (4, slA (eI .i64) x1.2), (3, slA eS x1.1), (0, .j t0)] ?_)))
 refine Y2 (Y0g ?_)
 refine Y4i (fun loop (s : Int) => f_R09_name_b1 t0 x1 loop s) r (fun (s : Int) => [(0, .j t0), (3, slA eS x1.1), (4, slA (eI .i64) x1.2), (5, .j s)]) (fun (s : Int) => []) ?_ 1000000 (0 : Int) H (StC.pure (.i4 .nil))
 intro loop3 v2 H
 unfold f_R09_name_b1 at H
 change AW _ _ _ (Z2s t0 v2 x1) [] _
 refine Y0e (Y0 (OpsW.sg 4 [13, 0, 3, 4, 5] ((13, .bool (decide (v2 < (x1.2.length : Int)))) :: (Z2s t0 v2 x1)) ?_))
 refine Y2 (Yb (b := decide (v2 < (x1.2.length : Int))) H rfl (fun c4 H => ?_) (fun c4 H => ?_))
 ·refine Yg (Y0e (Y0g (Y0 ?_)))
  have ⟨g5, H⟩ := Yt H
  refine OpsW.sz 3 [18, 0, 3, 4, 5] ((18, .ipt (x1.2.flatMap (eI .i64)) (v2.toNat * 1)) :: (Z2s t0 v2 x1)) ⟨g5, trivial⟩ (OpsW.asU (.j (x1.2.getD v2.toNat 0)) rfl rfl (T.load rfl trivial (by kernel_rfl) (fm_cell0 (eI .i64) 1 (fun _ => rfl) x1.2 (0 : Int) v2.toNat (ltN g5) (fun a => .val (.j a)) (fun _ => rfl))) (OpsW.sg 2 [21, 0, 3, 4, 5] ((21, .bool ((x1.2.getD v2.toNat 0) == t0)) :: (Z2s t0 v2 x1)) (Y2 (Yb (b := (x1.2.getD v2.toNat 0) == t0) H rfl (fun c6 H => ?_) (fun c6 H => ?_)))))
  ·refine Y0 ?_
   have ⟨g7, H⟩ := Yt H
   refine OpsW.sz 3 [24] [(24, .ipt (x1.1.flatMap eS) (v2.toNat * 1))] ⟨g7, trivial⟩ (OpsW.asU (.string (x1.1.getD v2.toNat ByteArray.empty)) rfl rfl (T.load rfl trivial (by kernel_rfl) (fm_cell0 eS 1 (fun _ => rfl) x1.1 ByteArray.empty v2.toNat (ltN g7) (fun a => .val (.string a)) (fun _ => rfl))) (OpsW.sg 1 [2] [(2, .string (x1.1.getD v2.toNat ByteArray.empty))] (Y2 ?_)))
   obtain rfl := X7 H
   refine AW.recast (env' := [(2, .string (x1.1.getD v2.toNat ByteArray.empty))]) (h' := []) (StC.pure (.cons .im .nil)) (Yx ?_)
   try simp only [Ex.t, Ex.b]
   exact Done.eq rfl (.tmp .nil)
  refine Yg (Yu ?_)
  have ⟨g8, H⟩ := Yt H
  refine OpsW.sz 3 [5, 0, 3, 4] [(5, .j (v2 + 1)), (0, .j t0), (3, slA eS x1.1), (4, slA (eI .i64) x1.2)] ⟨g8, trivial⟩ (Y2 ?_)
  exact ⟨v2 + 1, H, (StC.pure (.i4 .nil))⟩
 refine AW.exit <| Y0 (OpsW.sg 1 [2] [(2, .string (⟨#[]⟩ : ByteArray))] ?_)
 refine Y2 ?_
 obtain rfl := X7 H
 refine AW.recast (env' := [(2, .string (⟨#[]⟩ : ByteArray))]) (h' := []) (StC.pure (.cons .im .nil)) (Yx ?_)
 try simp only [Ex.t, Ex.b]
 exact Done.eq rfl (.tmp .nil)
def Y4h (loop7 : (ByteArray × Int) → Option ByteArray) (v6 : Int) (v9 : ByteArray) : Option ByteArray :=
 G (inR (v6 + 1)) <|
 loop7 (v9, v6 + 1)
def Y2j (rec_f_R09_text : (List Y4) → Int → Option ByteArray) (t0 : List Y4) (x1 : List Int) (loop7 : (ByteArray × Int) → Option ByteArray) (v6 : Int) (v11 : ByteArray) : Option ByteArray :=
 G (0 ≤ v6 ∧ v6 < (x1.length : Int)) <|
 (rec_f_R09_text t0 (x1.getD v6.toNat 0)).bind fun x13 =>
 G (v11.size + x13.size ≤ 9223372036854775807) <|
 Y4h loop7 v6 (v11 ++ x13)
def Y2i (rec_f_R09_text : (List Y4) → Int → Option ByteArray) (t0 : List Y4) (x1 : List Int) (loop7 : (ByteArray × Int) → Option ByteArray) (v5 : ByteArray) (v6 : Int) (v16 : ByteArray) : Option ByteArray :=
 G (v5.size + v16.size ≤ 9223372036854775807) <|
 Y2j rec_f_R09_text t0 x1 loop7 v6 (v5 ++ v16)
def Y2k (rec_f_R09_text : (List Y4) → Int → Option ByteArray) (t0 : List Y4) (t1 : Int) (x1 : List Int) (loop7 : (ByteArray × Int) → Option ByteArray) (v5 : ByteArray) (v6 : Int) : Option ByteArray :=
 cond (decide (v6 < (x1.length : Int))) (
  cond (decide (0 < v6)) (
   G ((((t0.getD t1.toNat Yf).Op) == 12) = true → inR ((x1.length : Int) - 1)) <|
   G (((!(cond (((t0.getD t1.toNat Yf).Op) == 12) (v6 == ((x1.length : Int) - 1)) false)) && (((t0.getD t1.toNat Yf).Op) == 13)) = true → (Int.tmod ((t0.getD t1.toNat Yf).N) (8 : Int)) ≠ 0) <|
   cond (cond (cond (((t0.getD t1.toNat Yf).Op) == 12) (v6 == ((x1.length : Int) - 1)) false) true (cond (((t0.getD t1.toNat Yf).Op) == 13) ((Int.tmod v6 (Int.tmod ((t0.getD t1.toNat Yf).N) (8 : Int))) == 0) false)) (
    Y2i rec_f_R09_text t0 x1 loop7 v5 v6 (⟨#[59]⟩ : ByteArray)) (
    Y2i rec_f_R09_text t0 x1 loop7 v5 v6 (⟨#[44]⟩ : ByteArray))) (
   Y2j rec_f_R09_text t0 x1 loop7 v6 v5)) (
  G (v5.size + (⟨#[41]⟩ : ByteArray).size ≤ 9223372036854775807) <|
  some (v5 ++ (⟨#[41]⟩ : ByteArray)))
def Y39 (rec_f_R09_text : (List Y4) → Int → Option ByteArray) (t0 : List Y4) (t1 : Int) (x1 : List Int) : Option ByteArray :=
 (f_R09_name ((t0.getD t1.toNat Yf).Op)).bind fun x3 =>
 G (x3.size + (⟨#[40]⟩ : ByteArray).size ≤ 9223372036854775807) <|
 iter (fun loop (s : ByteArray × Int) => Y2k rec_f_R09_text t0 t1 x1 loop s.1 s.2) 1000000 (x3 ++ (⟨#[40]⟩ : ByteArray), (0 : Int))
def Y0z (rec_f_R09_text : (List Y4) → Int → Option ByteArray) (t0 : List Y4) (t1 : Int) (x1 : List Int) (v26 : Bool) : Option ByteArray :=
 cond v26 (
  G (0 ≤ ((t0.getD t1.toNat Yf).Op) ∧ ((t0.getD t1.toNat Yf).Op) < ([(⟨#[]⟩ : ByteArray), (⟨#[]⟩ : ByteArray), (⟨#[43]⟩ : ByteArray), (⟨#[45]⟩ : ByteArray), (⟨#[42]⟩ : ByteArray), (⟨#[61]⟩ : ByteArray)].length : Int)) <|
  G (0 ≤ (0 : Int) ∧ (0 : Int) < (x1.length : Int)) <|
  (rec_f_R09_text t0 (x1.getD (0 : Int).toNat (0 : Int))).bind fun x30 =>
  G (x30.size + ([(⟨#[]⟩ : ByteArray), (⟨#[]⟩ : ByteArray), (⟨#[43]⟩ : ByteArray), (⟨#[45]⟩ : ByteArray), (⟨#[42]⟩ : ByteArray), (⟨#[61]⟩ : ByteArray)].getD ((t0.getD t1.toNat Yf).Op).toNat ByteArray.empty).size ≤ 9223372036854775807) <|
  G (0 ≤ (1 : Int) ∧ (1 : Int) < (x1.length : Int)) <|
  (rec_f_R09_text t0 (x1.getD (1 : Int).toNat (0 : Int))).bind fun x33 =>
  G ((x30 ++ ([(⟨#[]⟩ : ByteArray), (⟨#[]⟩ : ByteArray), (⟨#[43]⟩ : ByteArray), (⟨#[45]⟩ : ByteArray), (⟨#[42]⟩ : ByteArray), (⟨#[61]⟩ : ByteArray)].getD ((t0.getD t1.toNat Yf).Op).toNat ByteArray.empty)).size + x33.size ≤ 9223372036854775807) <|
  some ((x30 ++ ([(⟨#[]⟩ : ByteArray), (⟨#[]⟩ : ByteArray), (⟨#[43]⟩ : ByteArray), (⟨#[45]⟩ : ByteArray), (⟨#[42]⟩ : ByteArray), (⟨#[61]⟩ : ByteArray)].getD ((t0.getD t1.toNat Yf).Op).toNat ByteArray.empty)) ++ x33)) (
  Y39 rec_f_R09_text t0 t1 x1)
def f_R09_text_body (rec_f_R09_text : (List Y4) → Int → Option ByteArray) (t0 : List Y4) (t1 : Int) : Option ByteArray :=
 (Y3d t0 t1).bind fun x1 =>
 G (0 ≤ t1 ∧ t1 < (t0.length : Int)) <|
 cond (((t0.getD t1.toNat Yf).Op) == 0) (
  (f_R09_Digits ((t0.getD t1.toNat Yf).N)).bind fun x23 =>
  some x23) (
  cond (((t0.getD t1.toNat Yf).Op) == 1) (
   G (inR (97 + ((t0.getD t1.toNat Yf).N))) <|
   some (strOf [IntKind.wrap .u8 (97 + ((t0.getD t1.toNat Yf).N))])) (
   cond (((t0.getD t1.toNat Yf).Op) == 2) (
    Y0z rec_f_R09_text t0 t1 x1 (((t0.getD t1.toNat Yf).Op) == 2)) (
    cond (((t0.getD t1.toNat Yf).Op) == 3) (
     Y0z rec_f_R09_text t0 t1 x1 (((t0.getD t1.toNat Yf).Op) == 3)) (
     cond (((t0.getD t1.toNat Yf).Op) == 4) (
      Y0z rec_f_R09_text t0 t1 x1 (((t0.getD t1.toNat Yf).Op) == 4)) (
      Y0z rec_f_R09_text t0 t1 x1 (((t0.getD t1.toNat Yf).Op) == 5))))))
section
variable (t0 : List Y4) (t1 : Int) (v6 : Int) (x1 : List Int)
abbrev Z2z := ([(⟨#[]⟩ : ByteArray), (⟨#[]⟩ : ByteArray), (⟨#[43]⟩ : ByteArray), (⟨#[45]⟩ : ByteArray), (⟨#[42]⟩ : ByteArray), (⟨#[61]⟩ : ByteArray)].getD ((t0.getD t1.toNat Yf).Op).toNat ByteArray.empty)
abbrev Z30 := t0.getD t1.toNat Yf
abbrev Z31 : Nat × AV := (5, slA (eI .i64) x1)
abbrev Z32 : Nat × AV := (0, slA Y3 t0)
abbrev Z33 : Nat × AV := (6, .ref 6 0 0)
abbrev Z34 := (Z30 t0 t1).Op
abbrev Z35 : List AV := [.j (Z34 t0 t1), .j ((Z30 t0 t1).N)]
abbrev Z36 : Nat × AV := (45, .ipt (x1.flatMap (eI .i64)) ((0 : Int).toNat * 1))
abbrev Z37 := strOf [IntKind.wrap .u8 (97 + ((Z30 t0 t1).N))]
abbrev Z38 := (cond ((Z34 t0 t1) == 13) ((Int.tmod v6 (Int.tmod ((Z30 t0 t1).N) (8 : Int))) == 0) false)
abbrev Z39 := (⟨#[]⟩ : ByteArray)
abbrev Z3a := (x1.getD (0 : Int).toNat (0 : Int))
abbrev Z2t : Hp := [(6, ⟨0, true, 26, 2, (Z35 t0 t1)⟩)]
abbrev Z2u : Env := [(19, .j (Z34 t0 t1)), (Z31 x1), Z33, (Z32 t0)]
abbrev Z2v : Env := [(Z32 t0), (Z31 x1), Z33]
abbrev Z2w : Env := [(16, .ipt (t0.flatMap Y3) (t1.toNat * 2)), (15, .j t1), (14, slA Y3 t0), (13, slA (eI .i64) x1), (12, .j t1), (11, slA Y3 t0), (Z32 t0), (1, .j t1)]
abbrev Z2x : Env := [(Z32 t0), (Z31 x1)]
abbrev Z2y : Env := [(Z31 x1), Z33, (Z32 t0)]
end
theorem f_R09_text_body_ok {rec_f_R09_text : (List Y4) → Int → Option ByteArray} (hrec_f_R09_text : ∀ (t0 : List Y4) (t1 : Int) (r : ByteArray), rec_f_R09_text t0 t1 = some r → QSpec Tryd.prog 48 [slA Y3 t0, .int .i64 t1] (.string r)) {t0 : List Y4} {t1 : Int} {r : ByteArray} (H : f_R09_text_body rec_f_R09_text t0 t1 = some r) : QSpec Tryd.prog 48 [slA Y3 t0, .int .i64 t1] (.string r) := by
 refine Y04 Tryd.func48 rfl (by simp [Tryd.ntmps48]) ?_
 rw [Tryd.ntmps48]
 unfold f_R09_text_body at H
 change AW _ _ _ [(Z32 t0), (1, .j t1)] [] _
 refine Y0 (OpsW.sg 1 [0, 1] [(Z32 t0), (1, .j t1)] ?_)
 refine Y2 (AW.drawGSeq 9 [(7, 6)] Tryd.checked.mixed (by kernel_rfl) (by kernel_rfl) ?_)
 refine DOps.q 7 (by kernel_rfl) <| QOps.sz (N := 104) 2 [(12, .j t1), (11, slA Y3 t0), (Z32 t0), (1, .j t1)] trivial ?_
 have ⟨x1, hx1, H⟩ := Y1j H
 refine QOps.qcall rfl (by kernel_rfl) rfl (Yi trivial) (.cons (.pur rfl) (.cons (.pur rfl) .nil)) (f_R09_Operands_ok hx1) rfl ?_
 have ⟨g2, H⟩ := Yt H
 refine QOps.sz (N := 104) 3 (Z2w t0 t1 x1) ⟨g2, trivial⟩ (QOps.asU (.agg (Z35 t0 t1)) rfl (T.loadAgg (cs := t0.flatMap Y3) (off := t1.toNat * 2) (ds := Y3 (Z30 t0 t1)) rfl trivial (by kernel_rfl) (by have := Y15 Y3 2 (fun _ => rfl) t0; have := (ltN g2); first | omega | (simp only [Z30, Z34] at *; omega)) (fm_elem Y3 2 (fun _ => rfl) t0 Yf t1.toNat (ltN g2))) ?_)
 refine QOps.nil (DOps.e 6 rfl rfl rfl (by exact fun g hg hb => RStep.alloc rfl 6 (hg.trans rfl) (by kernel_rfl : zc Tryd.prog 26 = some [.j 0, .j 0]) (by kernel_rfl)) ?_)
 refine DOps.q 1 (by kernel_rfl) <| QOps.sz (N := 104) 1 ((Z31 x1) :: Z33 :: (17, .agg (Z35 t0 t1)) :: (Z2w t0 t1 x1)) trivial <| QOps.nil (DOps.nil ?_)
 refine OpsW.sg 0 [5, 6, 17, 0] [(Z31 x1), Z33, (17, .agg (Z35 t0 t1)), (Z32 t0)] (OpsW.store rfl rfl rfl rfl trivial trivial rfl rfl rfl (by kernel_rfl) (Y23 (by kernel_rfl)) (Xc (by kernel_rfl)) ?_)
 change OpsW _ _ _ _ _ [(6, ⟨0, true, 26, 2, (Z35 t0 t1)⟩), (6, ⟨0, true, 26, 2, [.j (0 : Int), .j (0 : Int)]⟩)] _
 refine OpsW.sg 0 [5, 6, 0] (Z2y t0 x1) (OpsW.rc (Z2y t0 x1) (Z2t t0 t1) (StC.mk (phi [(6, some 6)]) (.o rfl (.i2 .nil) .nil) rfl (.cons .im (.cons (.r rfl) (.cons .im .nil)))) (Y2 ?_))
 refine Y22 (fun (y : Unit) => Y39 rec_f_R09_text t0 t1 x1) r (fun (y : Unit) => (Z2v t0 x1)) (fun (y : Unit) => (Z2t t0 t1)) ?_ ?_
 ·refine Y0 (OpsW.sg 2 [19, 5, 6, 0] (Z2u t0 t1 x1) ?_)
  refine Y2 (Y0g (Y0 (OpsW.sg 2 [20, 19, 5, 6, 0] ((20, .bool ((Z34 t0 t1) == 0)) :: (Z2u t0 t1 x1)) ?_)))
  refine Y2 (Yb (b := (Z34 t0 t1) == 0) H rfl (fun c22 H => ?_) (fun c22 H => ?_))
  ·refine Y0 (OpsW.sg 2 [23] [(23, .j ((Z30 t0 t1).N))] ?_)
   have ⟨x23, hx23, H⟩ := Y1j H
   refine Y1e rfl (.cons (.pur rfl) .nil) (f_R09_Digits_ok hx23) (OpsW.sg 1 [4] [(4, .string x23)] (Y2 ?_))
   obtain rfl := X7 H
   refine AW.recast (env' := [(4, .string x23)]) (h' := []) (StC.pure (.cons .im .nil)) (Yx ?_)
   try simp only [Ex.t, Ex.b]
   exact Done.eq rfl (.tmp .nil)
  refine Y0 (OpsW.sg 2 [25, 19, 5, 6, 0] ((25, .bool ((Z34 t0 t1) == 1)) :: (Z2u t0 t1 x1)) ?_)
  refine Y2 (Yb (b := (Z34 t0 t1) == 1) H rfl (fun c24 H => ?_) (fun c24 H => ?_))
  ·refine Y0 ?_
   have ⟨g25, H⟩ := Yt H
   refine OpsW.sz 4 [30] [(30, .int .u8 (IntKind.wrap .u8 (97 + ((Z30 t0 t1).N))))] ⟨g25, trivial⟩ (OpsW.buildTI (enc := eI .u8) [IntKind.wrap .u8 (97 + ((Z30 t0 t1).N))] rfl rfl rfl E24 (fun _ => rfl) (by decide) ⟨trivial, by kernel_rfl, by kernel_rfl, by kernel_rfl, rfl⟩ (OpsW.quietU (.string (Z37 t0 t1)) rfl rfl (Quiet.toStr (e := 5) [IntKind.wrap .u8 (97 + ((Z30 t0 t1).N))] rfl (by kernel_rfl) (by kernel_rfl) (by kernel_rfl) (gpoU rfl ⟨trivial, SlV.im, SrcA.typed (enc := eI .u8) (fun _ => rfl) (by kernel_rfl) [IntKind.wrap .u8 (97 + ((Z30 t0 t1).N))]⟩)) (OpsW.sg 1 [4] [(4, .string (Z37 t0 t1))] (Y2 ?_))))
   obtain rfl := X7 H
   refine AW.recast (env' := [(4, .string (Z37 t0 t1))]) (h' := []) (StC.pure (.cons .im .nil)) (Yx ?_)
   try simp only [Ex.t, Ex.b]
   exact Done.eq rfl (.tmp .nil)
  refine Y22 (fun (y : Bool) => Y0z rec_f_R09_text t0 t1 x1 y) r (fun (y : Bool) => [(Z32 t0), (Z31 x1), Z33, (33, .bool y)]) (fun (y : Bool) => (Z2t t0 t1)) ?_ ?_
  ·refine Y0 (OpsW.sg 2 [33, 19, 5, 6, 0] ((33, .bool ((Z34 t0 t1) == 2)) :: (Z2u t0 t1 x1)) ?_)
   refine Y2 (Yb (b := (Z34 t0 t1) == 2) H rfl (fun c35 H => ?_) (fun c35 H => ?_))
   ·refine Yg ?_
    exact ⟨(Z34 t0 t1) == 2, H, (StC.mk (phi [(6, some 6)]) (.o rfl (.i2 .nil) .nil) rfl (.i2 (.cons (.r rfl) (.cons .im .nil))))⟩
   refine Y0 (OpsW.sg 2 [33, 19, 5, 6, 0] ((33, .bool ((Z34 t0 t1) == 3)) :: (Z2u t0 t1 x1)) ?_)
   refine Y2 (Yb (b := (Z34 t0 t1) == 3) H rfl (fun c36 H => ?_) (fun c36 H => ?_))
   ·refine Yg ?_
    exact ⟨(Z34 t0 t1) == 3, H, (StC.mk (phi [(6, some 6)]) (.o rfl (.i2 .nil) .nil) rfl (.i2 (.cons (.r rfl) (.cons .im .nil))))⟩
   refine Y0 (OpsW.sg 2 [33, 19, 5, 6, 0] ((33, .bool ((Z34 t0 t1) == 4)) :: (Z2u t0 t1 x1)) ?_)
   refine Y2 (Yb (b := (Z34 t0 t1) == 4) H rfl (fun c37 H => ?_) (fun c37 H => ?_))
   ·refine Yg ?_
    exact ⟨(Z34 t0 t1) == 4, H, (StC.mk (phi [(6, some 6)]) (.o rfl (.i2 .nil) .nil) rfl (.i2 (.cons (.r rfl) (.cons .im .nil))))⟩
   refine Yu (OpsW.sg 2 [33, 5, 6, 0] ((33, .bool ((Z34 t0 t1) == 5)) :: (Z2y t0 x1)) ?_)
   refine Y2 ?_
   exact ⟨(Z34 t0 t1) == 5, H, (StC.mk (phi [(6, some 6)]) (.o rfl (.i2 .nil) .nil) rfl (.i2 (.cons (.r rfl) (.cons .im .nil))))⟩
  intro v26 H
  unfold Y0z at H
  change AW _ _ _ [(Z32 t0), (Z31 x1), Z33, (33, .bool v26)] (Z2t t0 t1) _
  refine Yb (b := v26) H rfl (fun c27 H => ?_) (fun c27 H => ?_)
  ·refine Y0 (OpsW.buildTI (enc := eS) [Z39, Z39, (⟨#[43]⟩ : ByteArray), (⟨#[45]⟩ : ByteArray), (⟨#[42]⟩ : ByteArray), (⟨#[61]⟩ : ByteArray)] rfl rfl rfl E89 (fun _ => rfl) (by decide) ⟨trivial, by kernel_rfl, by kernel_rfl, by kernel_rfl, rfl⟩ ?_)
   have ⟨g28, H⟩ := Yt H
   refine OpsW.sz 3 [41, 0, 5] ((41, .ipt ([Z39, Z39, (⟨#[43]⟩ : ByteArray), (⟨#[45]⟩ : ByteArray), (⟨#[42]⟩ : ByteArray), (⟨#[61]⟩ : ByteArray)].flatMap eS) ((Z34 t0 t1).toNat * 1)) :: (Z2x t0 x1)) ⟨g28, trivial⟩ (OpsW.asU (.string (Z2z t0 t1)) rfl rfl (T.load rfl trivial (by kernel_rfl) (fm_cell0 eS 1 (fun _ => rfl) [Z39, Z39, (⟨#[43]⟩ : ByteArray), (⟨#[45]⟩ : ByteArray), (⟨#[42]⟩ : ByteArray), (⟨#[61]⟩ : ByteArray)] ByteArray.empty (Z34 t0 t1).toNat (ltN g28) (fun a => .val (.string a)) (fun _ => rfl))) (OpsW.sg 1 [7, 0, 5] ((7, .string (Z2z t0 t1)) :: (Z2x t0 x1)) ?_))
   refine Y2 (Y2n Tryd.checked.mixed (by kernel_rfl) ?_)
   have ⟨g29, H⟩ := Yt H
   refine QOps.sz (N := 104) 3 ((Z36 x1) :: (44, slA (eI .i64) x1) :: (43, slA Y3 t0) :: (7, .string (Z2z t0 t1)) :: (Z2x t0 x1)) ⟨g29, trivial⟩ (QOps.asU (.j (Z3a x1)) rfl (T.load rfl trivial (by kernel_rfl) (fm_cell0 (eI .i64) 1 (fun _ => rfl) x1 (0 : Int) (0 : Int).toNat (ltN g29) (fun a => .val (.j a)) (fun _ => rfl))) ?_)
   have ⟨x30, hx30, H⟩ := Y1j H
   refine QOps.qcall rfl (by kernel_rfl) rfl (Yi trivial) (.cons (.pur rfl) (.cons (.pur rfl) .nil)) (hrec_f_R09_text _ _ _ hx30) rfl ?_
   have ⟨g31, H⟩ := Yt H
   have ⟨g32, H⟩ := Yt H
   refine QOps.sz (N := 104) 5 ((52, .ipt (x1.flatMap (eI .i64)) ((1 : Int).toNat * 1)) :: (51, slA (eI .i64) x1) :: (50, slA Y3 t0) :: (49, .string (x30 ++ (Z2z t0 t1))) :: (48, .string (Z2z t0 t1)) :: (47, .string x30) :: (46, .j (Z3a x1)) :: (Z36 x1) :: (44, slA (eI .i64) x1) :: (43, slA Y3 t0) :: (7, .string (Z2z t0 t1)) :: (Z2x t0 x1)) ⟨g31, g32, trivial⟩ (QOps.asU (.j (x1.getD (1 : Int).toNat (0 : Int))) rfl (T.load rfl trivial (by kernel_rfl) (fm_cell0 (eI .i64) 1 (fun _ => rfl) x1 (0 : Int) (1 : Int).toNat (ltN g32) (fun a => .val (.j a)) (fun _ => rfl))) ?_)
   have ⟨x33, hx33, H⟩ := Y1j H
   refine QOps.qcall rfl (by kernel_rfl) rfl (Yi trivial) (.cons (.pur rfl) (.cons (.pur rfl) .nil)) (hrec_f_R09_text _ _ _ hx33) rfl ?_
   have ⟨g34, H⟩ := Yt H
   refine QOps.sz (N := 104) 2 ((4, .string ((x30 ++ (Z2z t0 t1)) ++ x33)) :: (55, .string ((x30 ++ (Z2z t0 t1)) ++ x33)) :: (54, .string x33) :: (53, .j (x1.getD (1 : Int).toNat (0 : Int))) :: (52, .ipt (x1.flatMap (eI .i64)) ((1 : Int).toNat * 1)) :: (51, slA (eI .i64) x1) :: (50, slA Y3 t0) :: (49, .string (x30 ++ (Z2z t0 t1))) :: (48, .string (Z2z t0 t1)) :: (47, .string x30) :: (46, .j (Z3a x1)) :: (Z36 x1) :: (44, slA (eI .i64) x1) :: (43, slA Y3 t0) :: (7, .string (Z2z t0 t1)) :: (Z2x t0 x1)) ⟨g34, trivial⟩ ?_
   refine QOps.nil (AW.trim [4] [(4, .string ((x30 ++ (Z2z t0 t1)) ++ x33))] (by kernel_rfl) ?_)
   obtain rfl := X7 H
   refine AW.recast (env' := [(4, .string ((x30 ++ (Z2z t0 t1)) ++ x33))]) (h' := []) (StC.pure (.cons .im .nil)) (Yx ?_)
   try simp only [Ex.t, Ex.b]
   exact Done.eq rfl (.tmp .nil)
  refine Yg ?_
  exact ⟨(), H, (StC.mk (phi [(6, some 6)]) (.o rfl (.i2 .nil) .nil) rfl (.i2 (.cons (.r rfl) .nil)))⟩
 rintro ⟨⟩ H
 unfold Y39 at H
 change AW _ _ _ (Z2v t0 x1) (Z2t t0 t1) _
 refine Y0 (OpsW.sg 2 [57, 0, 5, 6] ((57, .j (Z34 t0 t1)) :: (Z2v t0 x1)) ?_)
 have ⟨x3, hx3, H⟩ := Y1j H
 refine Y1e rfl (.cons (.pur rfl) .nil) (f_R09_name_ok hx3) ?_
 have ⟨g4, H⟩ := Yt H
 refine OpsW.sz 2 [8, 0, 5, 6] ((8, .string (x3 ++ (⟨#[40]⟩ : ByteArray))) :: (Z2v t0 x1)) ⟨g4, trivial⟩ <| Y2 (Y0e (Y0 (OpsW.sg 1 [9, 8, 0, 5, 6] ((9, .j (0 : Int)) :: (8, .string (x3 ++ (⟨#[40]⟩ : ByteArray))) :: (Z2v t0 x1)) ?_)))
 refine Y2 (Y0g ?_)
 refine Y4i (fun loop (s : ByteArray × Int) => Y2k rec_f_R09_text t0 t1 x1 loop s.1 s.2) r (fun (s : ByteArray × Int) => [(Z32 t0), (Z31 x1), Z33, (8, .string s.1), (9, .j s.2)]) (fun (s : ByteArray × Int) => (Z2t t0 t1)) ?_ 1000000 (x3 ++ (⟨#[40]⟩ : ByteArray), (0 : Int)) H (StC.mk (phi [(6, some 6)]) (.o rfl (.i2 .nil) .nil) rfl (.i2 (.cons (.r rfl) (.i2 .nil))))
 intro loop7 s H
 obtain ⟨v5, v6⟩ := s
 unfold Y2k at H
 change AW _ _ _ [(Z32 t0), (Z31 x1), Z33, (8, .string v5), (9, .j v6)] (Z2t t0 t1) _
 refine Y0e (Y0 (OpsW.sg 4 [63, 0, 5, 6, 8, 9] [(63, .bool (decide (v6 < (x1.length : Int)))), (Z32 t0), (Z31 x1), Z33, (8, .string v5), (9, .j v6)] ?_))
 refine Y2 (Yb (b := decide (v6 < (x1.length : Int))) H rfl (fun c8 H => ?_) (fun c8 H => ?_))
 ·refine Yg <| Y22 (fun (y : ByteArray) => Y4h loop7 v6 y) r (fun (y : ByteArray) => [(Z32 t0), (Z31 x1), Z33, (8, .string y), (9, .j v6)]) (fun (y : ByteArray) => (Z2t t0 t1)) ?_ ?_
  ·refine Y0g <| Y22 (fun (y : ByteArray) => Y2j rec_f_R09_text t0 x1 loop7 v6 y) r (fun (y : ByteArray) => [(Z32 t0), (Z31 x1), Z33, (8, .string y), (9, .j v6)]) (fun (y : ByteArray) => (Z2t t0 t1)) ?_ ?_
   ·refine Y0 (OpsW.sg 2 [67, 0, 5, 6, 8, 9] [(67, .bool (decide (0 < v6))), (Z32 t0), (Z31 x1), Z33, (8, .string v5), (9, .j v6)] ?_)
    refine Y2 (Yb (b := decide (0 < v6)) H rfl (fun c15 H => ?_) (fun c15 H => ?_))
    ·refine Y0 (OpsW.sg 1 [10, 0, 5, 6, 8, 9] [(10, .string (⟨#[44]⟩ : ByteArray)), (Z32 t0), (Z31 x1), Z33, (8, .string v5), (9, .j v6)] ?_)
     refine Y2 <| Y22 (fun (y : ByteArray) => Y2i rec_f_R09_text t0 x1 loop7 v5 v6 y) r (fun (y : ByteArray) => [(Z32 t0), (Z31 x1), Z33, (8, .string v5), (9, .j v6), (10, .string y)]) (fun (y : ByteArray) => (Z2t t0 t1)) ?_ ?_
     ·refine Y0 ?_
      have ⟨g18, H⟩ := Yt H
      have ⟨g19, H⟩ := Yt H
      refine OpsW.sz 23 [90, 10, 0, 5, 6, 8, 9] [(90, .bool (cond (cond ((Z34 t0 t1) == 12) (v6 == ((x1.length : Int) - 1)) false) true (Z38 t0 t1 v6))), (10, .string (⟨#[44]⟩ : ByteArray)), (Z32 t0), (Z31 x1), Z33, (8, .string v5), (9, .j v6)] ⟨(fun h => h), (fun h => h), g18, (fun h => h), (fun h => h), (fun h => by first | exact h | (simpa using h) | grind), (fun h => h), (fun h => h), (fun h => h), (fun h => h), (fun h => h), (fun _ => by decide), (fun h => h), (fun h => h), g19, (fun h => h), (fun h => h), (fun h0 h => by first | exact h | (simp [h0, h]; done) | (simp at h0 h ⊢; simp [h0, h]; done) | (simp_all; done) | grind), (fun h => by first | exact h | (simpa using h) | grind), trivial⟩ (Y2 (Yb (b := cond (cond ((Z34 t0 t1) == 12) (v6 == ((x1.length : Int) - 1)) false) true (Z38 t0 t1 v6)) H rfl (fun c20 H => ?_) (fun c20 H => ?_)))
      ·refine Yu (OpsW.sg 1 [10, 0, 5, 6, 8, 9] [(10, .string (⟨#[59]⟩ : ByteArray)), (Z32 t0), (Z31 x1), Z33, (8, .string v5), (9, .j v6)] ?_)
       refine Y2 ?_
       exact ⟨(⟨#[59]⟩ : ByteArray), H, (StC.mk (phi [(6, some 6)]) (.o rfl (.i2 .nil) .nil) rfl (.i2 (.cons (.r rfl) (.i3 .nil))))⟩
      refine Yg ?_
      exact ⟨(⟨#[44]⟩ : ByteArray), H, (StC.mk (phi [(6, some 6)]) (.o rfl (.i2 .nil) .nil) rfl (.i2 (.cons (.r rfl) (.i3 .nil))))⟩
     intro v16 H
     unfold Y2i at H
     change AW _ _ _ [(Z32 t0), (Z31 x1), Z33, (8, .string v5), (9, .j v6), (10, .string v16)] (Z2t t0 t1) _
     refine Yu ?_
     have ⟨g17, H⟩ := Yt H
     refine OpsW.sz 4 [8, 0, 5, 6, 9] [(8, .string (v5 ++ v16)), (Z32 t0), (Z31 x1), Z33, (9, .j v6)] ⟨g17, trivial⟩ (Y2 ?_)
     exact ⟨v5 ++ v16, H, (StC.mk (phi [(6, some 6)]) (.o rfl (.i2 .nil) .nil) rfl (.i2 (.cons (.r rfl) (.i2 .nil))))⟩
    refine Yg ?_
    exact ⟨v5, H, (StC.mk (phi [(6, some 6)]) (.o rfl (.i2 .nil) .nil) rfl (.i2 (.cons (.r rfl) (.i2 .nil))))⟩
   intro v11 H
   unfold Y2j at H
   change AW _ _ _ [(Z32 t0), (Z31 x1), Z33, (8, .string v11), (9, .j v6)] (Z2t t0 t1) _
   refine Yu ?_
   have ⟨g12, H⟩ := Yt H
   refine OpsW.sz 5 [98, 95, 94, 0, 5, 6, 8, 9] [(98, .ipt (x1.flatMap (eI .i64)) (v6.toNat * 1)), (95, slA Y3 t0), (94, .string v11), (Z32 t0), (Z31 x1), Z33, (8, .string v11), (9, .j v6)] ⟨g12, trivial⟩ (OpsW.asU (.j (x1.getD v6.toNat 0)) rfl rfl (T.load rfl trivial (by kernel_rfl) (fm_cell0 (eI .i64) 1 (fun _ => rfl) x1 (0 : Int) v6.toNat (ltN g12) (fun a => .val (.j a)) (fun _ => rfl))) ?_)
   have ⟨x13, hx13, H⟩ := Y1j H
   refine Y1e rfl (.cons (.pur rfl) (.cons (.pur rfl) .nil)) (hrec_f_R09_text _ _ _ hx13) ?_
   have ⟨g14, H⟩ := Yt H
   refine OpsW.sz 2 [8, 0, 5, 6, 9] [(8, .string (v11 ++ x13)), (Z32 t0), (Z31 x1), Z33, (9, .j v6)] ⟨g14, trivial⟩ (Y2 ?_)
   exact ⟨v11 ++ x13, H, (StC.mk (phi [(6, some 6)]) (.o rfl (.i2 .nil) .nil) rfl (.i2 (.cons (.r rfl) (.i2 .nil))))⟩
  intro v9 H
  unfold Y4h at H
  change AW _ _ _ [(Z32 t0), (Z31 x1), Z33, (8, .string v9), (9, .j v6)] (Z2t t0 t1) _
  refine Yu ?_
  have ⟨g10, H⟩ := Yt H
  refine OpsW.sz 3 [9, 0, 5, 6, 8] [(9, .j (v6 + 1)), (Z32 t0), (Z31 x1), Z33, (8, .string v9)] ⟨g10, trivial⟩ (Y2 ?_)
  exact ⟨(v9, v6 + 1), H, (StC.mk (phi [(6, some 6)]) (.o rfl (.i2 .nil) .nil) rfl (.i2 (.cons (.r rfl) (.i2 .nil))))⟩
 refine AW.exit (Y0 ?_)
 have ⟨g21, H⟩ := Yt H
 refine OpsW.sz 3 [4] [(4, .string (v5 ++ (⟨#[41]⟩ : ByteArray)))] ⟨g21, trivial⟩ (Y2 ?_)
 obtain rfl := X7 H
 refine AW.recast (env' := [(4, .string (v5 ++ (⟨#[41]⟩ : ByteArray)))]) (h' := []) (StC.pure (.cons .im .nil)) (Yx ?_)
 try simp only [Ex.t, Ex.b]
 exact Done.eq rfl (.tmp .nil)
def Y24 : Nat → (List Y4) → Int → Option ByteArray
 | 0, _, _ => none
 | n + 1, t0, t1 => f_R09_text_body (Y24 n) t0 t1
theorem f_R09_text_all : ∀ n : Nat, (∀ (t0 : List Y4) (t1 : Int) (r : ByteArray), Y24 n t0 t1 = some r → QSpec Tryd.prog 48 [slA Y3 t0, .int .i64 t1] (.string r)) ∧ True
 | 0 => by
  refine ⟨?_, trivial⟩
  ·intro t0 t1 r H; rw [Y24] at H; cases H
 | n + 1 => by
  have ih := f_R09_text_all n
  refine ⟨?_, trivial⟩
  ·intro t0 t1 r H; rw [Y24] at H; exact f_R09_text_body_ok ih.1 H
def f_R09_text (t0 : List Y4) (t1 : Int) : Option ByteArray := Y24 1000000 t0 t1
theorem f_R09_text_ok {t0 : List Y4} {t1 : Int} {r : ByteArray} (H : f_R09_text t0 t1 = some r) : QSpec Tryd.prog 48 [slA Y3 t0, .int .i64 t1] (.string r) :=
 (f_R09_text_all 1000000).1 t0 t1 r H
def f_R09_Text (t0 : List Y4) : Option ByteArray :=
 (f_R09_text t0 (0 : Int)).bind fun x1 =>
 some x1
theorem f_R09_Text_ok  {t0 : List Y4} {r : ByteArray} (H : f_R09_Text t0 = some r) : QSpec Tryd.prog 30 [slA Y3 t0] (.string r) := by
 refine Y04 Tryd.func30 rfl (by simp [Tryd.ntmps30]) ?_
 rw [Tryd.ntmps30]
 unfold f_R09_Text at H
 change AW _ _ _ [(0, slA Y3 t0)] [] _
 refine Y0 (OpsW.sg 1 [0] [(0, slA Y3 t0)] ?_)
 refine Y2 (Y0 (OpsW.sg 1 [3] [(3, slA Y3 t0)] ?_))
 have ⟨x1, hx1, H⟩ := Y1j H
 refine Y1e rfl (.cons (.pur rfl) (.cons (.pur rfl) .nil)) (f_R09_text_ok hx1) (OpsW.sg 1 [2] [(2, .string x1)] (Y2 ?_))
 obtain rfl := X7 H
 refine AW.recast (env' := [(2, .string x1)]) (h' := []) (StC.pure (.cons .im .nil)) (Yx ?_)
 try simp only [Ex.t, Ex.b]
 exact Done.eq rfl (.tmp .nil)
def f_R09_Print (t0 : List Y4) : Option ByteArray :=
 (f_R09_Valid t0).bind fun x1 =>
 cond (!x1) (
  some (⟨#[]⟩ : ByteArray)) (
  (f_R09_Text t0).bind fun x3 =>
  some x3)
theorem f_R09_Print_ok  {t0 : List Y4} {r : ByteArray} (H : f_R09_Print t0 = some r) : QSpec Tryd.prog 15 [slA Y3 t0] (.string r) := by
 refine Y04 Tryd.func15 rfl (by simp [Tryd.ntmps15]) ?_
 rw [Tryd.ntmps15]
 unfold f_R09_Print at H
 change AW _ _ _ [(0, slA Y3 t0)] [] _
 refine Y0 (OpsW.sg 1 [0] [(0, slA Y3 t0)] ?_)
 refine Y2 (Y0e (Y0 (OpsW.sg 1 [3, 0] [(3, slA Y3 t0), (0, slA Y3 t0)] ?_)))
 have ⟨x1, hx1, H⟩ := Y1j H
 refine Y1e rfl (.cons (.pur rfl) .nil) (f_R09_Valid_ok hx1) (OpsW.sg 1 [5, 0] [(5, .bool (!x1)), (0, slA Y3 t0)] (Y2 (Yb (b := !x1) H rfl (fun c2 H => ?_) (fun c2 H => ?_))))
 ·refine Y0 (OpsW.sg 1 [2] [(2, .string (⟨#[]⟩ : ByteArray))] ?_)
  refine Y2 ?_
  obtain rfl := X7 H
  refine AW.recast (env' := [(2, .string (⟨#[]⟩ : ByteArray))]) (h' := []) (StC.pure (.cons .im .nil)) (Yx ?_)
  try simp only [Ex.t, Ex.b]
  exact Done.eq rfl (.tmp .nil)
 refine Yg (Y0 (OpsW.sg 1 [6] [(6, slA Y3 t0)] ?_))
 have ⟨x3, hx3, H⟩ := Y1j H
 refine Y1e rfl (.cons (.pur rfl) .nil) (f_R09_Text_ok hx3) (OpsW.sg 1 [2] [(2, .string x3)] (Y2 ?_))
 obtain rfl := X7 H
 refine AW.recast (env' := [(2, .string x3)]) (h' := []) (StC.pure (.cons .im .nil)) (Yx ?_)
 try simp only [Ex.t, Ex.b]
 exact Done.eq rfl (.tmp .nil)
end Go.Proofs.YtkgfbpbndmklnaaDoor
