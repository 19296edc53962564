/- Own work. -/
import Derived.Test.YtbcfmhoaocifoaaDoorW11
set_option linter.unusedSimpArgs false
set_option linter.unusedVariables false
set_option maxRecDepth 100000
namespace Go.Proofs.YtbcfmhoaocifoaaDoor
open Go.Abs
def Yz (x1 : Bool) (v8 : List Int) (v9 : Y4) (v10 : Y4) (v11 : Y4) (loop28 : (Int) → Option Bool) (v27 : Int) : Option Bool :=
 cond (decide (v27 < 4)) (
  G (0 ≤ v27 ∧ v27 < ([v9, v10, v11, (⟨v9.W + (IntKind.wrap .i64 (v8.getD 0 0)), v9.H + (IntKind.wrap .i64 (v8.getD 1 0)), v9.Up, v9.Down.take (((v9.Down.length : Int) - (IntKind.wrap .i64 (Int.tmod (IntKind.wrap .u8 (v8.getD 0 0)) (2 : Int)))).toNat)⟩ : Y4)].length : Int)) <|
  (Y31 ([v9, v10, v11, (⟨v9.W + (IntKind.wrap .i64 (v8.getD 0 0)), v9.H + (IntKind.wrap .i64 (v8.getD 1 0)), v9.Up, v9.Down.take (((v9.Down.length : Int) - (IntKind.wrap .i64 (Int.tmod (IntKind.wrap .u8 (v8.getD 0 0)) (2 : Int)))).toNat)⟩ : Y4)].getD v27.toNat Y33)).bind fun x31 =>
  (f_R25_Leaf ([v9, v10, v11, (⟨v9.W + (IntKind.wrap .i64 (v8.getD 0 0)), v9.H + (IntKind.wrap .i64 (v8.getD 1 0)), v9.Up, v9.Down.take (((v9.Down.length : Int) - (IntKind.wrap .i64 (Int.tmod (IntKind.wrap .u8 (v8.getD 0 0)) (2 : Int)))).toNat)⟩ : Y4)].getD v27.toNat Y33)).bind fun x32 =>
  (f_R25_Same x31.1 x32.1).bind fun x33 =>
  (cond (!(cond (!x33) true (x31.2 != x32.2))) (Y0h ([v9, v10, v11, (⟨v9.W + (IntKind.wrap .i64 (v8.getD 0 0)), v9.H + (IntKind.wrap .i64 (v8.getD 1 0)), v9.Up, v9.Down.take (((v9.Down.length : Int) - (IntKind.wrap .i64 (Int.tmod (IntKind.wrap .u8 (v8.getD 0 0)) (2 : Int)))).toNat)⟩ : Y4)].getD v27.toNat Y33)) (some false)).bind fun x34 =>
  (cond (!(cond (!x33) true (x31.2 != x32.2))) (Y46 ([v9, v10, v11, (⟨v9.W + (IntKind.wrap .i64 (v8.getD 0 0)), v9.H + (IntKind.wrap .i64 (v8.getD 1 0)), v9.Up, v9.Down.take (((v9.Down.length : Int) - (IntKind.wrap .i64 (Int.tmod (IntKind.wrap .u8 (v8.getD 0 0)) (2 : Int)))).toNat)⟩ : Y4)].getD v27.toNat Y33)) (some false)).bind fun x35 =>
  cond (cond (cond (!x33) true (x31.2 != x32.2)) true (x34 != x35)) (
   some false) (
   G (inR (v27 + 1)) <|
   loop28 (v27 + 1))) (
  some x1)
def Y01 (t1 : List (List Int)) (x1 : Bool) (loop13 : ((List Int) × Y4 × Y4 × Y4 × Int) → Option Bool) (v8 : List Int) (v9 : Y4) (v10 : Y4) (v11 : Y4) (v12 : Int) : Option Bool :=
 cond (cond (decide (v12 < (t1.length : Int))) (decide (v12 < 3)) false) (
  G (0 ≤ v12 ∧ v12 < (t1.length : Int)) <|
  G (v11.H ≠ 0) <|
  G (v11.W ≠ 0) <|
  G (0 ≤ (Int.tmod (IntKind.wrap .i64 ((t1.getD v12.toNat (List.replicate 3 0)).getD 1 0)) v11.H) ∧ (Int.tmod (IntKind.wrap .i64 ((t1.getD v12.toNat (List.replicate 3 0)).getD 1 0)) v11.H) < (v11.Up.length : Int)) <|
  G (0 ≤ (Int.tmod (IntKind.wrap .i64 ((t1.getD v12.toNat (List.replicate 3 0)).getD 0 0)) v11.W) ∧ (Int.tmod (IntKind.wrap .i64 ((t1.getD v12.toNat (List.replicate 3 0)).getD 0 0)) v11.W) < ((v11.Up.getD (Int.tmod (IntKind.wrap .i64 ((t1.getD v12.toNat (List.replicate 3 0)).getD 1 0)) v11.H).toNat []).length : Int)) <|
  G (0 ≤ (Int.tmod (IntKind.wrap .i64 ((t1.getD v12.toNat (List.replicate 3 0)).getD 1 0)) v11.H) ∧ (Int.tmod (IntKind.wrap .i64 ((t1.getD v12.toNat (List.replicate 3 0)).getD 1 0)) v11.H) < (v11.Down.length : Int)) <|
  G (0 ≤ (Int.tmod (IntKind.wrap .i64 ((t1.getD v12.toNat (List.replicate 3 0)).getD 0 0)) v11.W) ∧ (Int.tmod (IntKind.wrap .i64 ((t1.getD v12.toNat (List.replicate 3 0)).getD 0 0)) v11.W) < ((v11.Down.getD (Int.tmod (IntKind.wrap .i64 ((t1.getD v12.toNat (List.replicate 3 0)).getD 1 0)) v11.H).toNat []).length : Int)) <|
  G (inR (v12 + 1)) <|
  loop13 ([(v8.getD 0 0), (v8.getD 1 0)], v9, v10, (⟨v11.W, v11.H, v11.Up.set (Int.tmod (IntKind.wrap .i64 ((t1.getD v12.toNat (List.replicate 3 0)).getD 1 0)) v11.H).toNat ((v11.Up.getD (Int.tmod (IntKind.wrap .i64 ((t1.getD v12.toNat (List.replicate 3 0)).getD 1 0)) v11.H).toNat []).set (Int.tmod (IntKind.wrap .i64 ((t1.getD v12.toNat (List.replicate 3 0)).getD 0 0)) v11.W).toNat (((v11.Up.getD (Int.tmod (IntKind.wrap .i64 ((t1.getD v12.toNat (List.replicate 3 0)).getD 1 0)) v11.H).toNat []).getD (Int.tmod (IntKind.wrap .i64 ((t1.getD v12.toNat (List.replicate 3 0)).getD 0 0)) v11.W).toNat false) != ((Int.tmod ((t1.getD v12.toNat (List.replicate 3 0)).getD 2 0) (2 : Int)) == 0))), v11.Down.set (Int.tmod (IntKind.wrap .i64 ((t1.getD v12.toNat (List.replicate 3 0)).getD 1 0)) v11.H).toNat ((v11.Down.getD (Int.tmod (IntKind.wrap .i64 ((t1.getD v12.toNat (List.replicate 3 0)).getD 1 0)) v11.H).toNat []).set (Int.tmod (IntKind.wrap .i64 ((t1.getD v12.toNat (List.replicate 3 0)).getD 0 0)) v11.W).toNat (((v11.Down.getD (Int.tmod (IntKind.wrap .i64 ((t1.getD v12.toNat (List.replicate 3 0)).getD 1 0)) v11.H).toNat []).getD (Int.tmod (IntKind.wrap .i64 ((t1.getD v12.toNat (List.replicate 3 0)).getD 0 0)) v11.W).toNat false) != ((Int.tmod ((t1.getD v12.toNat (List.replicate 3 0)).getD 2 0) (3 : Int)) == 0)))⟩ : Y4), v12 + 1)) (
  G (inR (v9.W + (IntKind.wrap .i64 (v8.getD 0 0)))) <|
  G (inR (v9.H + (IntKind.wrap .i64 (v8.getD 1 0)))) <|
  G (inR ((v9.Down.length : Int) - (IntKind.wrap .i64 (Int.tmod (IntKind.wrap .u8 (v8.getD 0 0)) (2 : Int))))) <|
  G (0 ≤ ((v9.Down.length : Int) - (IntKind.wrap .i64 (Int.tmod (IntKind.wrap .u8 (v8.getD 0 0)) (2 : Int)))) ∧ ((v9.Down.length : Int) - (IntKind.wrap .i64 (Int.tmod (IntKind.wrap .u8 (v8.getD 0 0)) (2 : Int)))) ≤ (v9.Down.length : Int)) <|
  iter (fun loop (s : Int) => Yz x1 v8 v9 v10 v11 loop s) 1000000 (0 : Int))
def Y0i (t0 : S_Raw) (t1 : List (List Int)) (t2 : List Int) : Option Bool :=
 (f_L25_sanity).bind fun x1 =>
 (f_R25_Made t0).bind fun x2 =>
 (Y49 t0).bind fun x3 =>
 (f_R25_Press x2 x3).bind fun x4 =>
 (f_R25_Plate t0 t1).bind fun x5 =>
 (Y20 x4.1).bind fun x6 =>
 (Y20 x6).bind fun x7 =>
 iter (fun loop (s : (List Int) × Y4 × Y4 × Y4 × Int) => Y01 t1 x1 loop s.1 s.2.1 s.2.2.1 s.2.2.2.1 s.2.2.2.2) 1000000 ([(t2.getD 0 0), (t2.getD 1 0)], x4.1, x5, x7, (0 : Int))
section
variable (t0 : S_Raw) (t1 : List (List Int)) (t2 : List Int) (v8 : List Int) (v9 : Y4) (v10 : Y4) (v11 : Y4) (v12 : Int) (v27 : Int) (x1 : Bool) (x2 : Yr) (x4 : (Y4 × Int)) (x5 : Y4) (x6 : Y4) (x7 : Y4) (x31 : (Yr × Int)) (x32 : (Yr × Int)) (x33 : Bool) (x34 : Bool)
abbrev Ztj := Int.tmod (IntKind.wrap .i64 ((t1.getD v12.toNat (List.replicate 3 0)).getD 1 0)) v11.H
abbrev Ztk := (⟨v9.W + (IntKind.wrap .i64 (v8.getD 0 0)), v9.H + (IntKind.wrap .i64 (v8.getD 1 0)), v9.Up, v9.Down.take (((v9.Down.length : Int) - (IntKind.wrap .i64 (Int.tmod (IntKind.wrap .u8 (v8.getD 0 0)) (2 : Int)))).toNat)⟩ : Y4)
abbrev Ztl := ((v11.Up.getD (Ztj t1 v11 v12).toNat []).set (Int.tmod (IntKind.wrap .i64 ((t1.getD v12.toNat (List.replicate 3 0)).getD 0 0)) v11.W).toNat (((v11.Up.getD (Ztj t1 v11 v12).toNat []).getD (Int.tmod (IntKind.wrap .i64 ((t1.getD v12.toNat (List.replicate 3 0)).getD 0 0)) v11.W).toNat false) != ((Int.tmod ((t1.getD v12.toNat (List.replicate 3 0)).getD 2 0) (2 : Int)) == 0)))
abbrev Ztm := ((v11.Down.getD (Ztj t1 v11 v12).toNat []).set (Int.tmod (IntKind.wrap .i64 ((t1.getD v12.toNat (List.replicate 3 0)).getD 0 0)) v11.W).toNat (((v11.Down.getD (Ztj t1 v11 v12).toNat []).getD (Int.tmod (IntKind.wrap .i64 ((t1.getD v12.toNat (List.replicate 3 0)).getD 0 0)) v11.W).toNat false) != ((Int.tmod ((t1.getD v12.toNat (List.replicate 3 0)).getD 2 0) (3 : Int)) == 0)))
abbrev Ztn := Int.tmod (IntKind.wrap .i64 ((t1.getD v12.toNat (List.replicate 3 0)).getD 0 0)) v11.W
abbrev Zto : List AV := [.j (v9.W + (IntKind.wrap .i64 (v8.getD 0 0))), .j (v9.H + (IntKind.wrap .i64 (v8.getD 1 0))), sD v9.Up, sD (v9.Down.take (((v9.Down.length : Int) - (IntKind.wrap .i64 (Int.tmod (IntKind.wrap .u8 (v8.getD 0 0)) (2 : Int)))).toNat))]
abbrev Ztp : List AV := [.int .u8 t0.W, .int .u8 t0.H, sC t0.Front, sC t0.Back, .int .u8 t0.Head.Width, .int .u16 t0.Head.N, .int .u8 t0.Head.K, .bool t0.Head.Back, .int .u16 t0.Head.Ink, .int .u8 t0.Head.Part]
abbrev Ztq : List AV := [.j (([v9, v10, v11, (Ztk v8 v9)].getD v27.toNat Y33).W), .j (([v9, v10, v11, (Ztk v8 v9)].getD v27.toNat Y33).H), sD (([v9, v10, v11, (Ztk v8 v9)].getD v27.toNat Y33).Up), sD (([v9, v10, v11, (Ztk v8 v9)].getD v27.toNat Y33).Down)]
abbrev Ztr := (⟨v11.W, v11.H, v11.Up.set (Ztj t1 v11 v12).toNat (Ztl t1 v11 v12), v11.Down.set (Ztj t1 v11 v12).toNat (Ztm t1 v11 v12)⟩ : Y4)
abbrev Zts := cond (!x33) true (x31.2 != x32.2)
abbrev Ztt := [fmA 15100 4 1 eB v10.Up, fmA 15101 4 1 eB v10.Down, fmA 15110 4 1 eB (v11.Up.set (Ztj t1 v11 v12).toNat (Ztl t1 v11 v12)), fmA 15111 4 1 eB v11.Down]
abbrev Ztu := [fmA 15100 4 1 eB v10.Up, fmA 15101 4 1 eB v10.Down, fmA 15110 4 1 eB v11.Up, fmA 15111 4 1 eB v11.Down]
abbrev Ztv := (t1.getD v12.toNat (List.replicate 3 0)).getD 2 0
abbrev Ztw : List AV := [.j v10.W, .j v10.H, .rsl 5100 0 0 v10.Up.length, .rsl 5101 0 0 v10.Down.length]
abbrev Ztx := ((v9.Down.length : Int) - (IntKind.wrap .i64 (Int.tmod (IntKind.wrap .u8 (v8.getD 0 0)) (2 : Int))))
abbrev Zty := [fmA 10601 4 1 eB x7.Up, fmA 10602 4 1 eB x7.Down, fmA 15100 4 1 eB x5.Up, fmA 15101 4 1 eB x5.Down]
abbrev Ztz : List AV := [.j (0 : Int), .j (0 : Int), .im (.val (.slice none 0 0)), .im (.val (.slice none 0 0))]
abbrev Zu0 := (((v11.Down.getD (Ztj t1 v11 v12).toNat []).getD (Ztn t1 v11 v12).toNat false) != ((Int.tmod (Ztv t1 v12) (3 : Int)) == 0))
abbrev Zu1 := (((v11.Up.getD (Ztj t1 v11 v12).toNat []).getD (Ztn t1 v11 v12).toNat false) != ((Int.tmod (Ztv t1 v12) (2 : Int)) == 0))
abbrev Zu2 : List AV := [.j x31.1.Label.N, .j x31.1.Label.K, sC x31.1.Front, sC x31.1.Back]
abbrev Zu3 : List AV := [.j x4.1.W, .j x4.1.H, sD x4.1.Up, sD x4.1.Down]
abbrev Zu4 := [fmA 15100 4 1 eB x5.Up, fmA 15101 4 1 eB x5.Down, fmA 15110 4 1 eB x7.Up, fmA 15111 4 1 eB x7.Down]
abbrev Zu5 : List AV := [.j v9.W, .j v9.H, sD v9.Up, sD v9.Down]
abbrev Zu6 := v11.Up.set (Ztj t1 v11 v12).toNat (Ztl t1 v11 v12)
abbrev Zu7 : List AV := [.j x32.1.Label.N, .j x32.1.Label.K, sC x32.1.Front, sC x32.1.Back]
abbrev Zu8 : List AV := [.int .i8 (t2.getD 0 0), .int .i8 (t2.getD 1 0)]
abbrev Zu9 := v11.Down.getD (Ztj t1 v11 v12).toNat []
abbrev Zua := [fmA 10601 4 1 eB x6.Up, fmA 10602 4 1 eB x6.Down, fmA 15100 4 1 eB x5.Up, fmA 15101 4 1 eB x5.Down]
abbrev Zub := v11.Up.getD (Ztj t1 v11 v12).toNat []
abbrev Zuc := [fmA 10601 4 1 eB x5.Up, fmA 10602 4 1 eB x5.Down]
abbrev Zud := fid 15111 (Ztj t1 v11 v12).toNat
abbrev Zue := fid 15110 (Ztj t1 v11 v12).toNat
abbrev Zuf := (decide (v12 < (t1.length : Int)))
abbrev Zug := t1.getD v12.toNat (List.replicate 3 0)
abbrev Zuh : List AV := [.j v11.W, .j v11.H, .rsl 5110 0 0 v11.Up.length, .rsl 5111 0 0 v11.Down.length]
abbrev Zui := [fmA 15100 4 1 eB v10.Up, fmA 15101 4 1 eB v10.Down, fmA 15110 4 1 eB (Zu6 t1 v11 v12), fmA 15111 4 1 eB (v11.Down.set (Ztj t1 v11 v12).toNat (Ztm t1 v11 v12))]
abbrev Zuj : List AV := [.j x5.W, .j x5.H, .rsl 5100 0 0 x5.Up.length, .rsl 5101 0 0 x5.Down.length]
abbrev Zuk := [fmA 15100 4 1 eB x5.Up, fmA 15101 4 1 eB x5.Down]
abbrev Zul : List AV := [.int .i8 (v8.getD 0 0), .int .i8 (v8.getD 1 0)]
abbrev Zum := 0 + (Ztn t1 v11 v12).toNat * 1
abbrev Zun := [v9, v10, v11, (Ztk v8 v9)].flatMap Y19
abbrev Zuo := [fmA 11500 4 1 eB x6.Up, fmA 11501 4 1 eB x6.Down, fmA 15100 4 1 eB x5.Up, fmA 15101 4 1 eB x5.Down]
abbrev Zup := [fmA 11500 4 1 eB x7.Up, fmA 11501 4 1 eB x7.Down, fmA 15100 4 1 eB x5.Up, fmA 15101 4 1 eB x5.Down]
abbrev Zuq : Nat × AV := (8, .ref 8 0 0)
abbrev Zur : Nat × AV := (11, .ref 11 0 0)
abbrev Zus : Nat × AV := (5, .ref 5 0 0)
abbrev Zut := [v9, v10, v11, (Ztk v8 v9)].getD v27.toNat Y33
abbrev Zuu : Nat × AV := (44, .bool (cond (Zuf t1 v12) (decide (v12 < 3)) false))
abbrev Zuv := 0 + (Ztj t1 v11 v12).toNat * 1
abbrev Zuw : Nat × AV := (1, slA eA65 t1)
abbrev Zux : Nat × AV := (10, .ref 10 0 0)
abbrev Zuy : List AV := [.j v11.W, .j v11.H, .rsl 5110 0 0 ((Zu6 t1 v11 v12).length), .rsl 5111 0 0 v11.Down.length]
abbrev Zuz : List AV := [.j x7.W, .j x7.H, .rsl 5110 0 0 x7.Up.length, .rsl 5111 0 0 x7.Down.length]
abbrev Zv0 : List AV := [.j x5.W, .j x5.H, .rsl 1500 0 0 x5.Up.length, .rsl 1501 0 0 x5.Down.length]
abbrev Zv1 : List AV := [.j x6.W, .j x6.H, .rsl 1500 0 0 x6.Up.length, .rsl 1501 0 0 x6.Down.length]
abbrev Zv2 : List AV := [.j x7.W, .j x7.H, .rsl 1500 0 0 x7.Up.length, .rsl 1501 0 0 x7.Down.length]
abbrev Zv3 : Nat × AV := (16, slA Y19 [v9, v10, v11, (Ztk v8 v9)])
abbrev Zv4 := t1.flatMap eA65
abbrev Zv5 : List AV := [.j x5.W, .j x5.H, .rsl 601 0 0 x5.Up.length, .rsl 602 0 0 x5.Down.length]
abbrev Zv6 : List AV := [.j x7.W, .j x7.H, .rsl 601 0 0 x7.Up.length, .rsl 602 0 0 x7.Down.length]
abbrev Zv7 := ([v9, v10, v11, (Ztk v8 v9)].length : Int)
abbrev Zs6 : Hp := [(5, ⟨0, true, 70, 2, (Zul v8)⟩), (8, ⟨0, true, 47, 4, (Zu5 v9)⟩), (10, ⟨0, true, 47, 4, (Ztw v10)⟩), (11, ⟨0, true, 47, 4, [.j v11.W, .j v11.H, .rsl 5110 0 0 ((Zu6 t1 v11 v12).length), .rsl 5111 0 0 ((v11.Down.set (Ztj t1 v11 v12).toNat (Ztm t1 v11 v12)).length)]⟩), (5100, nsA 0 61 15100 v10.Up), (5101, nsA 0 61 15101 v10.Down), (5110, nsA 0 61 15110 (Zu6 t1 v11 v12)), (5111, nsA 0 61 15111 (v11.Down.set (Ztj t1 v11 v12).toNat (Ztm t1 v11 v12)))]
abbrev Zs7 : Hp := [(5, ⟨0, true, 70, 2, (Zul v8)⟩), (8, ⟨0, true, 47, 4, (Zu5 v9)⟩), (10, ⟨0, true, 47, 4, (Ztw v10)⟩), (11, ⟨0, true, 47, 4, (Zuy t1 v11 v12)⟩), (5100, nsA 0 61 15100 v10.Up), (5101, nsA 0 61 15101 v10.Down), (5110, nsA 0 61 15110 (Zu6 t1 v11 v12)), (5111, nsA 0 61 15111 v11.Down)]
abbrev Zs8 : Env := [(14, .j (Ztn t1 v11 v12)), (13, .j (Ztj t1 v11 v12)), (Zuw t1), Zus, (7, .bool x1), Zuq, Zux, Zur, (12, .j v12)]
abbrev Zs9 : Hp := [(5, ⟨0, true, 70, 2, (Zu8 t2)⟩), (8, ⟨0, true, 47, 4, (Zu3 x4)⟩), (10, ⟨0, true, 47, 4, (Zuj x5)⟩), (5100, nsA 0 61 15100 x5.Up), (5101, nsA 0 61 15101 x5.Down)]
abbrev Zsa : Env := [(7, .bool x1), (Zv3 v8 v9 v10 v11), (17, .j v27)]
abbrev Zsb : Hp := [(5, ⟨0, true, 70, 2, (Zul v8)⟩), (8, ⟨0, true, 47, 4, (Zu5 v9)⟩), (10, ⟨0, true, 47, 4, (Ztw v10)⟩), (5100, nsA 0 61 15100 v10.Up), (5101, nsA 0 61 15101 v10.Down), (11, ⟨0, true, 47, 4, (Zuy t1 v11 v12)⟩), (5110, nsA 0 61 15110 (Zu6 t1 v11 v12)), (5111, nsA 0 61 15111 v11.Down)]
abbrev Zsc : Env := (180, .cnd (!(Zts x31 x32 x33)) (.ipt (Zun v8 v9 v10 v11) (v27.toNat * 4))) :: (179, .cnd (!(Zts x31 x32 x33)) (.j v27)) :: (178, .cnd (!(Zts x31 x32 x33)) (slA Y19 [v9, v10, v11, (Ztk v8 v9)])) :: (177, .cnd (!(Zts x31 x32 x33)) (.bool x34)) :: (176, .cnd (!(Zts x31 x32 x33)) (.agg (Ztq v8 v9 v10 v11 v27))) :: (175, .cnd (!(Zts x31 x32 x33)) (.ipt (Zun v8 v9 v10 v11) (v27.toNat * 4))) :: (174, .cnd (!(Zts x31 x32 x33)) (.j v27)) :: (173, .cnd (!(Zts x31 x32 x33)) (slA Y19 [v9, v10, v11, (Ztk v8 v9)])) :: (172, .bool (Zts x31 x32 x33)) :: (171, .bool (Zts x31 x32 x33)) :: (170, .cnd (!(!x33)) (.bool (x31.2 != x32.2))) :: (169, .cnd (!(!x33)) (.j x32.2)) :: (168, .cnd (!(!x33)) (.j x31.2)) :: (167, .bool (!x33)) :: (166, .bool (!x33)) :: (165, .bool x33) :: (164, .agg (Zu7 x32)) :: (163, .agg (Zu2 x31)) :: (21, .j x32.2) :: (20, .ref 20 0 0) :: (19, .j x31.2) :: (18, .ref 18 0 0) :: (Zsa v8 v9 v10 v11 v27 x1)
abbrev Zsd : Env := (97, .ref 5111 0 (Zuv t1 v11 v12)) :: (96, .j (Ztj t1 v11 v12)) :: (95, .rsl 5111 0 0 v11.Down.length) :: (94, .ref 11 0 3) :: (93, .j (Ztn t1 v11 v12)) :: (92, .rsl (Zud t1 v11 v12) 0 0 ((Zu9 t1 v11 v12).length)) :: (91, .ref 5111 0 (Zuv t1 v11 v12)) :: (90, .j (Ztj t1 v11 v12)) :: (89, .rsl 5111 0 0 v11.Down.length) :: (88, .ref 11 0 3) :: (Zs8 t1 v11 v12 x1)
abbrev Zse : Env := (74, .ref 5110 0 (Zuv t1 v11 v12)) :: (73, .j (Ztj t1 v11 v12)) :: (72, .rsl 5110 0 0 v11.Up.length) :: (71, .ref 11 0 2) :: (70, .j (Ztn t1 v11 v12)) :: (69, .rsl (Zue t1 v11 v12) 0 0 ((Zub t1 v11 v12).length)) :: (68, .ref 5110 0 (Zuv t1 v11 v12)) :: (67, .j (Ztj t1 v11 v12)) :: (66, .rsl 5110 0 0 v11.Up.length) :: (65, .ref 11 0 2) :: (Zs8 t1 v11 v12 x1)
abbrev Zsf : Hp := [(3, ⟨0, true, 27, 10, (Ztp t0)⟩), (5, ⟨0, true, 70, 2, (Zu8 t2)⟩), (8, ⟨0, true, 47, 4, (Zu3 x4)⟩)]
abbrev Zsg : Env := [(109, .bool (Zu0 t1 v11 v12)), (93, .j (Ztn t1 v11 v12)), (92, .rsl (Zud t1 v11 v12) 0 0 ((Zu9 t1 v11 v12).length)), (Zuw t1), Zus, (7, .bool x1), Zuq, Zux, Zur, (12, .j v12)]
abbrev Zsh : Env := (86, .bool (Zu1 t1 v11 v12)) :: (70, .j (Ztn t1 v11 v12)) :: (69, .rsl (Zue t1 v11 v12) 0 0 ((Zub t1 v11 v12).length)) :: (Zs8 t1 v11 v12 x1)
abbrev Zsi : Hp := [(5, ⟨0, true, 70, 2, (Zul v8)⟩), (8, ⟨0, true, 47, 4, (Zu5 v9)⟩), (10, ⟨0, true, 47, 4, (Ztw v10)⟩), (5100, nsA 0 61 15100 v10.Up), (5101, nsA 0 61 15101 v10.Down), (11, ⟨0, true, 47, 4, (Zuh v11)⟩), (5110, nsA 0 61 15110 v11.Up), (5111, nsA 0 61 15111 v11.Down)]
abbrev Zsj : Hp := [(8, ⟨0, true, 47, 4, (Zu5 v9)⟩), (10, ⟨0, true, 47, 4, (Ztw v10)⟩), (11, ⟨0, true, 47, 4, (Zuh v11)⟩), (15, ⟨0, true, 47, 4, (Zto v8 v9)⟩), (5100, nsA 0 61 15100 v10.Up), (5101, nsA 0 61 15101 v10.Down), (5110, nsA 0 61 15110 v11.Up), (5111, nsA 0 61 15111 v11.Down)]
abbrev Zsk : Env := [(135, .j (Ztx v8 v9)), (134, .j (IntKind.wrap .i64 (Int.tmod (IntKind.wrap .u8 (v8.getD 0 0)) (2 : Int)))), (133, .int .u8 (Int.tmod (IntKind.wrap .u8 (v8.getD 0 0)) (2 : Int))), (132, .int .u8 (IntKind.wrap .u8 (v8.getD 0 0))), (131, .int .i8 (v8.getD 0 0)), (130, .ref 5 0 0), (129, .j (v9.Down.length : Int)), (128, sD v9.Down), (127, .ref 8 0 3), (126, sD v9.Down), (125, .ref 8 0 3), (124, sD v9.Up), (123, .ref 8 0 2), (122, .j (v9.H + (IntKind.wrap .i64 (v8.getD 1 0)))), (121, .j (IntKind.wrap .i64 (v8.getD 1 0))), (120, .int .i8 (v8.getD 1 0)), (119, .ref 5 0 1), (118, .j v9.H), (117, .ref 8 0 1), (116, .j (v9.W + (IntKind.wrap .i64 (v8.getD 0 0)))), (115, .j (IntKind.wrap .i64 (v8.getD 0 0))), (114, .int .i8 (v8.getD 0 0)), (113, .ref 5 0 0), (112, .j v9.W), (111, .ref 8 0 0), (Zuu t1 v12), (Zuw t1), Zus, (7, .bool x1), Zuq, Zux, Zur, (12, .j v12)]
abbrev Zsl : Env := (105, .ipt (Zv4 t1) (v12.toNat * 3 + 2)) :: (104, .ipt (Zv4 t1) (v12.toNat * 3)) :: (103, .j v12) :: (102, slA eA65 t1) :: (101, .bool ((Zu9 t1 v11 v12).getD (Ztn t1 v11 v12).toNat false)) :: (100, .ref (Zud t1 v11 v12) 0 (Zum t1 v11 v12)) :: (99, .j (Ztn t1 v11 v12)) :: (98, .rsl (Zud t1 v11 v12) 0 0 ((Zu9 t1 v11 v12).length)) :: (Zsd t1 v11 v12 x1)
abbrev Zsm : Env := (82, .ipt (Zv4 t1) (v12.toNat * 3 + 2)) :: (81, .ipt (Zv4 t1) (v12.toNat * 3)) :: (80, .j v12) :: (79, slA eA65 t1) :: (78, .bool ((Zub t1 v11 v12).getD (Ztn t1 v11 v12).toNat false)) :: (77, .ref (Zue t1 v11 v12) 0 (Zum t1 v11 v12)) :: (76, .j (Ztn t1 v11 v12)) :: (75, .rsl (Zue t1 v11 v12) 0 0 ((Zub t1 v11 v12).length)) :: (Zse t1 v11 v12 x1)
abbrev Zsn : Hp := [(5, ⟨0, true, 70, 2, (Zu8 t2)⟩), (8, ⟨0, true, 47, 4, (Zu3 x4)⟩), (10, ⟨0, true, 47, 4, (Zuj x5)⟩), (11, ⟨0, true, 47, 4, (Zuz x7)⟩), (5100, nsA 0 61 15100 x5.Up), (5101, nsA 0 61 15101 x5.Down), (5110, nsA 0 61 15110 x7.Up), (5111, nsA 0 61 15111 x7.Down)]
abbrev Zso : Env := [(32, slA eA65 t1), (31, .agg (Ztp t0)), Zuq, (7, .bool x1), Zus, (Zuw t1)]
abbrev Zsp : Env := [Zux, Zuq, (7, .bool x1), Zus, (Zuw t1)]
abbrev Zsq : Env := [(Zuw t1), Zus, (7, .bool x1), Zuq, Zux, Zur, (12, .j v12)]
abbrev Zsr : Env := [(26, .agg (Ztp t0)), (25, .agg [.j x2.Label.N, .j x2.Label.K, sC x2.Front, sC x2.Back]), (24, .agg (Ztp t0)), (7, .bool x1), Zus, (3, .ref 3 0 0), (Zuw t1)]
abbrev Zss : Env := [(Zv3 v8 v9 v10 v11), (7, .bool x1)]
abbrev Zst : Hp := [(8, ⟨0, true, 47, 4, (Zu5 v9)⟩), (10, ⟨0, true, 47, 4, [.j v10.W, .j v10.H, sD v10.Up, sD v10.Down]⟩), (11, ⟨0, true, 47, 4, [.j v11.W, .j v11.H, sD v11.Up, sD v11.Down]⟩), (15, ⟨0, true, 47, 4, (Zto v8 v9)⟩)]
abbrev Zsu : Hp := (15, ⟨0, true, 47, 4, (Zto v8 v9)⟩) :: (15, ⟨0, true, 47, 4, Ztz⟩) :: (Zsi v8 v9 v10 v11)
abbrev Zsv : Env := (34, .agg (Zu3 x4)) :: (Zsp t1 x1)
abbrev Zsw : Hp := (10, ⟨0, true, 47, 4, (Zv5 x5)⟩) :: (10, ⟨0, true, 47, 4, Ztz⟩) :: (601, nsA 0 61 10601 x5.Up) :: (602, nsA 0 61 10602 x5.Down) :: (Zsf t0 t2 x4)
abbrev Zsx : Hp := (11, ⟨0, true, 47, 4, (Zv6 x7)⟩) :: (11, ⟨0, true, 47, 4, Ztz⟩) :: (601, nsA 0 61 10601 x7.Up) :: (602, nsA 0 61 10602 x7.Down) :: (Zs9 t2 x4 x5)
abbrev Zsy : List (Nat × FM) := [(15100, .same 15100), (15101, .same 15101), (15110, .same 15110), (15111, .same 15111)]
abbrev Zsz : Env := [Zus, (3, .ref 3 0 0), (Zuw t1)]
abbrev Zt0 : Env := (110, .ref (Zud t1 v11 v12) 0 (Zum t1 v11 v12)) :: (Zsg t1 v11 v12 x1)
abbrev Zt1 : Env := (87, .ref (Zue t1 v11 v12) 0 (Zum t1 v11 v12)) :: (Zsh t1 v11 v12 x1)
abbrev Zt2 : Env := (59, .ipt (Zv4 t1) (v12.toNat * 3 + 0)) :: (58, .ipt (Zv4 t1) (v12.toNat * 3)) :: (57, .j v12) :: (56, slA eA65 t1) :: (13, .j (Ztj t1 v11 v12)) :: (Zsq t1 v12 x1)
abbrev Zt3 : Hp := [(3, ⟨0, true, 27, 10, (Ztp t0)⟩)]
abbrev Zt4 : Env := (50, .ipt (Zv4 t1) (v12.toNat * 3 + 1)) :: (49, .ipt (Zv4 t1) (v12.toNat * 3)) :: (48, .j v12) :: (47, slA eA65 t1) :: (Zuu t1 v12) :: (Zsq t1 v12 x1)
abbrev Zt5 : Env := (164, .agg (Zu7 x32)) :: (163, .agg (Zu2 x31)) :: (21, .j x32.2) :: (20, .ref 20 0 0) :: (19, .j x31.2) :: (18, .ref 18 0 0) :: (Zsa v8 v9 v10 v11 v27 x1)
abbrev Zt6 : Env := [(7, .bool x1), Zuq, Zux, Zur]
abbrev Zt7 : Hp := (1000, ⟨0, true, 47, 4, (Zv0 x5)⟩) :: (1500, nsA 0 61 11500 x5.Up) :: (1501, nsA 0 61 11501 x5.Down) :: (Zsf t0 t2 x4)
abbrev Zt8 : Hp := (1000, ⟨0, true, 47, 4, (Zv1 x6)⟩) :: (1500, nsA 0 61 11500 x6.Up) :: (1501, nsA 0 61 11501 x6.Down) :: (Zs9 t2 x4 x5)
abbrev Zt9 : Hp := (1000, ⟨0, true, 47, 4, (Zv2 x7)⟩) :: (1500, nsA 0 61 11500 x7.Up) :: (1501, nsA 0 61 11501 x7.Down) :: (Zs9 t2 x4 x5)
abbrev Zta : Env := (35, .agg [.j x6.W, .j x6.H, sD x6.Up, sD x6.Down]) :: (Zsv t1 x1 x4)
abbrev Ztb : Env := (19, .j x31.2) :: (18, .ref 18 0 0) :: (Zsa v8 v9 v10 v11 v27 x1)
abbrev Ztc : Hp := (601, nsA 0 61 10601 x5.Up) :: (602, nsA 0 61 10602 x5.Down) :: (Zsf t0 t2 x4)
abbrev Ztd : Hp := (601, nsA 0 61 10601 x6.Up) :: (602, nsA 0 61 10602 x6.Down) :: (Zs9 t2 x4 x5)
abbrev Zte : Hp := (601, nsA 0 61 10601 x7.Up) :: (602, nsA 0 61 10602 x7.Down) :: (Zs9 t2 x4 x5)
abbrev Ztf : List (Nat × FM) := [(10601, .same 11500), (10602, .same 11501), (15100, .same 15100), (15101, .same 15101)]
abbrev Ztg : Hp := [(18, ⟨0, true, 39, 4, (Zu2 x31)⟩)]
abbrev Zth : Env := (33, .agg (Zv5 x5)) :: (Zso t0 t1 x1)
abbrev Zti : Env := (36, .agg (Zv6 x7)) :: (Zta t1 x1 x4 x6)
end
theorem Y5t  {t0 : S_Raw} {t1 : List (List Int)} {t2 : List Int} {r : Bool} (H : Y0i t0 t1 t2 = some r) : QSpec Tryd.prog 8 [.agg [.int .u8 t0.W, .int .u8 t0.H, slA (eL (eI .u8)) t0.Front, slA (eL (eI .u8)) t0.Back, .int .u8 t0.Head.Width, .int .u16 t0.Head.N, .int .u8 t0.Head.K, .bool t0.Head.Back, .int .u16 t0.Head.Ink, .int .u8 t0.Head.Part], slA eA65 t1, .agg [.int .i8 (t2.getD 0 0), .int .i8 (t2.getD 1 0)]] (.bool r) := by
 refine Yj Tryd.func8 rfl (by simp [Tryd.ntmps8]) ?_
 rw [Tryd.ntmps8]
 unfold Y0i at H
 change AW _ _ _ [(0, .agg (Ztp t0)), (Zuw t1), (2, .agg (Zu8 t2))] [] _
 refine Y0 (OpsW.box rfl rfl rfl 3 rfl (Y5 (by kernel_rfl)) ?_)
 change OpsW _ _ _ _ _ (Zt3 t0) _
 refine OpsW.box rfl rfl rfl 5 rfl (Y5 (by kernel_rfl)) ?_
 change OpsW _ _ _ _ _ ((5, ⟨0, true, 70, 2, (Zu8 t2)⟩) :: (Zt3 t0)) _
 refine Y2 1 [5, 3, 1] (Zsz t1) (Ya (Zsz t1) [(3, ⟨0, true, 27, 10, (Ztp t0)⟩), (5, ⟨0, true, 70, 2, (Zu8 t2)⟩)] (StC.mk (phi [(3, some 3), (5, some 5)]) (.o rfl (.i9 (.cons .im .nil)) (.o rfl (.i2 .nil) .nil)) rfl (.cons (.r rfl) (.cons (.r rfl) (.cons .im .nil)))) ?_)
 refine Y1 (Y0 ?_)
 obtain ⟨x1, hx1, H⟩ := Yt H
 refine OpsW.qcall rfl (by kernel_rfl) rfl rfl (Yg trivial) .nil (f_L25_sanity_ok hx1) rfl (Y2 1 [7, 5, 3, 1] ((7, .bool x1) :: (Zsz t1)) ?_)
 refine Y1 (AW.drawXSeq 10 [(8, 8, []), (9, 8, [])] Tryd.checked.mixed (by kernel_rfl) (by kernel_rfl) ?_)
 refine DOpsX.q 8 (by kernel_rfl) ?_
 refine QOps.seg (N := 186) 1 [] ((24, .agg (Ztp t0)) :: (7, .bool x1) :: (Zsz t1)) (by kernel_rfl) trivial ?_
 obtain ⟨x2, hx2, H⟩ := Yt H
 refine QOps.qcall rfl (by kernel_rfl) rfl (Yg trivial) (.cons (.pur rfl) .nil) (f_R25_Made_ok hx2) rfl (QOps.seg (N := 186) 1 [] (Zsr t0 t1 x1 x2) (by kernel_rfl) trivial ?_)
 obtain ⟨x3, hx3, H⟩ := Yt H
 refine QOps.qcall rfl (by kernel_rfl) rfl (Yg trivial) (.cons (.pur rfl) .nil) (f_R25_Format_ok hx3) rfl ?_
 obtain ⟨x4, hx4, H⟩ := Yt H
 refine QOps.qcall rfl (by kernel_rfl) rfl (Yg trivial) (.cons (.pur rfl) (.cons (.pur rfl) .nil)) (f_R25_Press_ok hx4) rfl (QOps.seg (N := 186) 3 [] ((30, .j x4.2) :: (29, .agg (Zu3 x4)) :: (23, .tup [.agg (Zu3 x4), .j x4.2]) :: (28, .tup [.agg (Zu3 x4), .j x4.2]) :: (27, .agg [.j x3.Width, .j x3.Height, .j x3.Binding]) :: (Zsr t0 t1 x1 x2)) (by kernel_rfl) trivial ?_)
 refine QOps.nil (DOpsX.e 8 rfl rfl rfl (by exact fun g hg hb => RStep.alloc rfl 8 ((hg 8 (List.Mem.head _)).trans rfl) (by kernel_rfl : zc Tryd.prog 47 = some [.j 0, .j 0, .slice none 0 0, .slice none 0 0]) (by kernel_rfl)) ?_)
 refine DOpsX.e 8 rfl rfl rfl (by exact fun g hg hb => RStep.store rfl rfl (by exact trivial) (by exact trivial) ((hg 8 (List.Mem.head _)).trans rfl) rfl rfl (by kernel_rfl) (Y5 (by kernel_rfl)) (X0 (by kernel_rfl))) ?_
 refine DOpsX.nil ?_
 refine Y2 0 [8, 30, 7, 5, 3, 1] (Zuq :: (30, .j x4.2) :: (7, .bool x1) :: (Zsz t1)) (Y2 1 [8, 7, 5, 3, 1] (Zuq :: (7, .bool x1) :: (Zsz t1)) (Ya (Zuq :: (7, .bool x1) :: (Zsz t1)) (Zsf t0 t2 x4) (StC.mk (phi [(3, some 3), (5, some 5), (8, some 8)]) (.o rfl (.i9 (.cons .im .nil)) (.o rfl (.i2 .nil) (.o rfl (.i4 .nil) .nil))) rfl (.cons (.r rfl) (.cons .im (.cons (.r rfl) (.cons (.r rfl) (.cons .im .nil)))))) ?_))
 refine Y1 (Y0 (Y2 2 [32, 31, 8, 7, 5, 1] (Zso t0 t1 x1) ?_))
 obtain ⟨x5, hx5, H⟩ := Yt H
 refine OpsW.call rfl rfl (by kernel_rfl) [] _ _ rfl (Yg trivial) (.cons (.pur rfl) (.cons (.pur rfl) .nil)) (f_R25_Plate_own hx5) ?_
 rintro _ _ ⟨rfl, rfl⟩
 refine ⟨(fresh_F0 rfl rfl), .inl rfl, ?_⟩
 refine OpsW.heapEq (heap_mid0 rfl) ?_
 change OpsW _ _ _ _ ((33, .agg (Zv0 x5)) :: (Zso t0 t1 x1)) ((Zt7 t0 t2 x4 x5) ++ fmsH [fmA 11500 4 1 eB x5.Up, fmA 11501 4 1 eB x5.Down]) _
 refine Ya (Zth t0 t1 x1 x5) ((Ztc t0 t2 x4 x5) ++ fmsH (Zuc x5)) (Yp (hc := (Zt7 t0 t2 x4 x5)) (fs := [fmA 11500 4 1 eB x5.Up, fmA 11501 4 1 eB x5.Down]) (hc' := (Ztc t0 t2 x4 x5)) (fs' := (Zuc x5)) rfl [(601, some 1500), (602, some 1501), (3, some 3), (5, some 5), (8, some 8)] [(10601, .same 11500), (10602, .same 11501)] rfl (.o rfl (Yf rfl rfl (by decide) rfl rfl rfl) (.o rfl (Yf rfl rfl (by decide) rfl rfl rfl) (.o rfl (.i9 (.cons .im .nil)) (.o rfl (.i2 .nil) (.o rfl (.i4 .nil) .nil))))) rfl (.cons rfl (Ym rfl) (.cons rfl (Ym rfl) .nil)) (.cons (.agg (.i2 (.cons (.s rfl) (.cons (.s rfl) .nil)))) (.cons .im (.cons (.agg (.i9 (.cons .im .nil))) (.cons (.r rfl) (.cons .im (.cons (.r rfl) (.cons .im .nil)))))))) ?_
 change OpsW _ _ _ _ (Zth t0 t1 x1 x5) ((Ztc t0 t2 x4 x5) ++ fmsH (Zuc x5)) _
 refine Yo rfl rfl rfl 10 (Y4r rfl) (by kernel_rfl : zc Tryd.prog 47 = some [.j 0, .j 0, .slice none 0 0, .slice none 0 0]) (by kernel_rfl) (OpsW.store rfl rfl rfl rfl trivial trivial rfl rfl rfl (by kernel_rfl) (Y5 (by kernel_rfl)) (X0 (by kernel_rfl)) ?_)
 change OpsW _ _ _ _ _ ((Zsw t0 t2 x4 x5) ++ fmsH (Zuc x5)) _
 refine Y2 0 [10, 8, 7, 5, 1] (Zsp t1 x1) (Ya (Zsp t1 x1) ((Zs9 t2 x4 x5) ++ fmsH (Zuk x5)) (Yp (hc := (Zsw t0 t2 x4 x5)) (fs := (Zuc x5)) (hc' := (Zs9 t2 x4 x5)) (fs' := (Zuk x5)) rfl [(5, some 5), (8, some 8), (10, some 10), (5100, some 601), (5101, some 602)] [(15100, .same 10601), (15101, .same 10602)] rfl (.o rfl (.i2 .nil) (.o rfl (.i4 .nil) (.o rfl (.i2 (.cons (.s rfl) (.cons (.s rfl) .nil))) (.o rfl (Yf rfl rfl (by decide) rfl rfl rfl) (.o rfl (Yf rfl rfl (by decide) rfl rfl rfl) .nil))))) rfl (.cons rfl (Ym rfl) (.cons rfl (Ym rfl) .nil)) (.cons (.r rfl) (.cons (.r rfl) (.cons .im (.cons (.r rfl) (.cons .im .nil)))))) ?_)
 refine Y1 (Y0 (Y2 1 [34, 10, 8, 7, 5, 1] (Zsv t1 x1 x4) ?_))
 obtain ⟨x6, hx6, H⟩ := Yt H
 refine OpsW.call rfl rfl (by kernel_rfl) [] _ _ rfl (Yg trivial) (.cons (.pur rfl) .nil) (f_R25_Turned_own hx6) ?_
 rintro _ _ ⟨rfl, rfl⟩
 refine ⟨(fresh_F rfl rfl rfl), .inl rfl, ?_⟩
 refine OpsW.heapEq (heap_mid rfl) ?_
 change OpsW _ _ _ _ ((35, .agg (Zv1 x6)) :: (Zsv t1 x1 x4)) ((Zt8 t2 x4 x5 x6) ++ fmsH (Zuo x5 x6)) _
 refine Ya ((35, .agg [.j x6.W, .j x6.H, .rsl 601 0 0 x6.Up.length, .rsl 602 0 0 x6.Down.length]) :: (Zsv t1 x1 x4)) ((Ztd t2 x4 x5 x6) ++ fmsH (Zua x5 x6)) (Yp (hc := (Zt8 t2 x4 x5 x6)) (fs := (Zuo x5 x6)) (hc' := (Ztd t2 x4 x5 x6)) (fs' := (Zua x5 x6)) rfl [(601, some 1500), (602, some 1501), (5, some 5), (8, some 8), (10, some 10), (5100, some 5100), (5101, some 5101)] Ztf rfl (.o rfl (Yf rfl rfl (by decide) rfl rfl rfl) (.o rfl (Yf rfl rfl (by decide) rfl rfl rfl) (.o rfl (.i2 .nil) (.o rfl (.i4 .nil) (.o rfl (.i2 (.cons (.s rfl) (.cons (.s rfl) .nil))) (.o rfl (Yf rfl rfl (by decide) rfl rfl rfl) (.o rfl (Yf rfl rfl (by decide) rfl rfl rfl) .nil))))))) rfl (.cons rfl (Ym rfl) (.cons rfl (Ym rfl) (.cons rfl (Ym rfl) (.cons rfl (Ym rfl) .nil)))) (.cons (.agg (.i2 (.cons (.s rfl) (.cons (.s rfl) .nil)))) (.cons (.agg (.i4 .nil)) (.cons (.r rfl) (.cons (.r rfl) (.cons .im (.cons (.r rfl) (.cons .im .nil)))))))) (Ya (Zta t1 x1 x4 x6) ((Zs9 t2 x4 x5) ++ fmsH (Zuk x5)) (Yp (hc := (Ztd t2 x4 x5 x6)) (fs := (Zua x5 x6)) (hc' := (Zs9 t2 x4 x5)) (fs' := (Zuk x5)) rfl [(5, some 5), (8, some 8), (10, some 10), (5100, some 5100), (5101, some 5101)] [(15100, .same 15100), (15101, .same 15101)] rfl (.o rfl (.i2 .nil) (.o rfl (.i4 .nil) (.o rfl (.i2 (.cons (.s rfl) (.cons (.s rfl) .nil))) (.o rfl (Yf rfl rfl (by decide) rfl rfl rfl) (.o rfl (Yf rfl rfl (by decide) rfl rfl rfl) .nil))))) rfl (.cons rfl (Ym rfl) (.cons rfl (Ym rfl) .nil)) (.cons (.agg (.i2 (.cons (Y10 rfl rfl (fun _ => rfl) rfl rfl rfl) (.cons (Y10 rfl rfl (fun _ => rfl) rfl rfl rfl) .nil)))) (.cons (.agg (.i4 .nil)) (.cons (.r rfl) (.cons (.r rfl) (.cons .im (.cons (.r rfl) (.cons .im .nil)))))))) ?_)
 obtain ⟨x7, hx7, H⟩ := Yt H
 refine OpsW.call rfl rfl (by kernel_rfl) [] _ _ rfl (Yg trivial) (.cons (.pur rfl) .nil) (f_R25_Turned_own hx7) ?_
 rintro _ _ ⟨rfl, rfl⟩
 refine ⟨(fresh_F rfl rfl rfl), .inl rfl, ?_⟩
 refine OpsW.heapEq (heap_mid rfl) ?_
 change OpsW _ _ _ _ ((36, .agg (Zv2 x7)) :: (Zta t1 x1 x4 x6)) ((Zt9 t2 x4 x5 x7) ++ fmsH (Zup x5 x7)) _
 refine Ya (Zti t1 x1 x4 x6 x7) ((Zte t2 x4 x5 x7) ++ fmsH (Zty x5 x7)) (Yp (hc := (Zt9 t2 x4 x5 x7)) (fs := (Zup x5 x7)) (hc' := (Zte t2 x4 x5 x7)) (fs' := (Zty x5 x7)) rfl [(601, some 1500), (602, some 1501), (5, some 5), (8, some 8), (10, some 10), (5100, some 5100), (5101, some 5101)] Ztf rfl (.o rfl (Yf rfl rfl (by decide) rfl rfl rfl) (.o rfl (Yf rfl rfl (by decide) rfl rfl rfl) (.o rfl (.i2 .nil) (.o rfl (.i4 .nil) (.o rfl (.i2 (.cons (.s rfl) (.cons (.s rfl) .nil))) (.o rfl (Yf rfl rfl (by decide) rfl rfl rfl) (.o rfl (Yf rfl rfl (by decide) rfl rfl rfl) .nil))))))) rfl (.cons rfl (Ym rfl) (.cons rfl (Ym rfl) (.cons rfl (Ym rfl) (.cons rfl (Ym rfl) .nil)))) (.cons (.agg (.i2 (.cons (.s rfl) (.cons (.s rfl) .nil)))) (.cons (.agg (.i4 .nil)) (.cons (.agg (.i4 .nil)) (.cons (.r rfl) (.cons (.r rfl) (.cons .im (.cons (.r rfl) (.cons .im .nil))))))))) ?_
 change OpsW _ _ _ _ (Zti t1 x1 x4 x6 x7) ((Zte t2 x4 x5 x7) ++ fmsH (Zty x5 x7)) _
 refine Yo rfl rfl rfl 11 (Y4r rfl) (by kernel_rfl : zc Tryd.prog 47 = some [.j 0, .j 0, .slice none 0 0, .slice none 0 0]) (by kernel_rfl) (OpsW.store rfl rfl rfl rfl trivial trivial rfl rfl rfl (by kernel_rfl) (Y5 (by kernel_rfl)) (X0 (by kernel_rfl)) ?_)
 change OpsW _ _ _ _ _ ((Zsx t2 x4 x5 x7) ++ fmsH (Zty x5 x7)) _
 refine Y2 0 [11, 10, 8, 7, 5, 1] (Zur :: (Zsp t1 x1)) (Ya (Zur :: (Zsp t1 x1)) ((Zsn t2 x4 x5 x7) ++ fmsH (Zu4 x5 x7)) (Yp (hc := (Zsx t2 x4 x5 x7)) (fs := (Zty x5 x7)) (hc' := (Zsn t2 x4 x5 x7)) (fs' := (Zu4 x5 x7)) rfl [(5, some 5), (8, some 8), (10, some 10), (11, some 11), (5100, some 5100), (5101, some 5101), (5110, some 601), (5111, some 602)] [(15100, .same 15100), (15101, .same 15101), (15110, .same 10601), (15111, .same 10602)] rfl (.o rfl (.i2 .nil) (.o rfl (.i4 .nil) (.o rfl (.i2 (.cons (.s rfl) (.cons (.s rfl) .nil))) (.o rfl (.i2 (.cons (.s rfl) (.cons (.s rfl) .nil))) (.o rfl (Yf rfl rfl (by decide) rfl rfl rfl) (.o rfl (Yf rfl rfl (by decide) rfl rfl rfl) (.o rfl (Yf rfl rfl (by decide) rfl rfl rfl) (.o rfl (Yf rfl rfl (by decide) rfl rfl rfl) .nil)))))))) rfl (.cons rfl (Ym rfl) (.cons rfl (Ym rfl) (.cons rfl (Ym rfl) (.cons rfl (Ym rfl) .nil)))) (.cons (.r rfl) (.cons (.r rfl) (.cons (.r rfl) (.cons .im (.cons (.r rfl) (.cons .im .nil))))))) ?_)
 refine Y1 (Yc (Y0 (Y2 1 [12, 11, 10, 8, 7, 5, 1] ((12, .j (0 : Int)) :: Zur :: (Zsp t1 x1)) ?_)))
 refine Y1 (Yd ?_)
 refine Yq (fun loop (s : (List Int) × Y4 × Y4 × Y4 × Int) => Y01 t1 x1 loop s.1 s.2.1 s.2.2.1 s.2.2.2.1 s.2.2.2.2) r (fun (s : (List Int) × Y4 × Y4 × Y4 × Int) => [(Zuw t1), Zus, (7, .bool x1), Zuq, Zux, Zur, (12, .j s.2.2.2.2)]) (fun (s : (List Int) × Y4 × Y4 × Y4 × Int) => ([(5, ⟨0, true, 70, 2, [.int .i8 (s.1.getD 0 0), .int .i8 (s.1.getD 1 0)]⟩), (8, ⟨0, true, 47, 4, [.j s.2.1.W, .j s.2.1.H, sD s.2.1.Up, sD s.2.1.Down]⟩), (10, ⟨0, true, 47, 4, [.j s.2.2.1.W, .j s.2.2.1.H, .rsl 5100 0 0 s.2.2.1.Up.length, .rsl 5101 0 0 s.2.2.1.Down.length]⟩), (5100, nsA 0 61 15100 s.2.2.1.Up), (5101, nsA 0 61 15101 s.2.2.1.Down), (11, ⟨0, true, 47, 4, [.j s.2.2.2.1.W, .j s.2.2.2.1.H, .rsl 5110 0 0 s.2.2.2.1.Up.length, .rsl 5111 0 0 s.2.2.2.1.Down.length]⟩), (5110, nsA 0 61 15110 s.2.2.2.1.Up), (5111, nsA 0 61 15111 s.2.2.2.1.Down)] ++ fmsH [fmA 15100 4 1 eB s.2.2.1.Up, fmA 15101 4 1 eB s.2.2.1.Down, fmA 15110 4 1 eB s.2.2.2.1.Up, fmA 15111 4 1 eB s.2.2.2.1.Down])) ?_ 1000000 ([(t2.getD 0 0), (t2.getD 1 0)], x4.1, x5, x7, (0 : Int)) H (Yp (hc := (Zsn t2 x4 x5 x7)) (fs := (Zu4 x5 x7)) (hc' := [(5, ⟨0, true, 70, 2, [.int .i8 ([(t2.getD 0 0), (t2.getD 1 0)].getD 0 0), .int .i8 ([(t2.getD 0 0), (t2.getD 1 0)].getD 1 0)]⟩), (8, ⟨0, true, 47, 4, (Zu3 x4)⟩), (10, ⟨0, true, 47, 4, (Zuj x5)⟩), (5100, nsA 0 61 15100 x5.Up), (5101, nsA 0 61 15101 x5.Down), (11, ⟨0, true, 47, 4, (Zuz x7)⟩), (5110, nsA 0 61 15110 x7.Up), (5111, nsA 0 61 15111 x7.Down)]) (fs' := (Zu4 x5 x7)) rfl [(5, some 5), (8, some 8), (10, some 10), (5100, some 5100), (5101, some 5101), (11, some 11), (5110, some 5110), (5111, some 5111)] Zsy rfl (.o rfl (.i2 .nil) (.o rfl (.i4 .nil) (.o rfl (.i2 (.cons (.s rfl) (.cons (.s rfl) .nil))) (.o rfl (Yf rfl rfl (by decide) rfl rfl rfl) (.o rfl (Yf rfl rfl (by decide) rfl rfl rfl) (.o rfl (.i2 (.cons (.s rfl) (.cons (.s rfl) .nil))) (.o rfl (Yf rfl rfl (by decide) rfl rfl rfl) (.o rfl (Yf rfl rfl (by decide) rfl rfl rfl) .nil)))))))) rfl (.cons rfl (Ym rfl) (.cons rfl (Ym rfl) (.cons rfl (Ym rfl) (.cons rfl (Ym rfl) .nil)))) (.cons .im (.cons (.r rfl) (.cons .im (.cons (.r rfl) (.cons (.r rfl) (.cons (.r rfl) (.cons .im .nil))))))))
 intro loop13 s H
 obtain ⟨v8, v9, v10, v11, v12⟩ := s
 change Y01 t1 x1 loop13 v8 v9 v10 v11 v12 = some r at H
 unfold Y01 at H
 change AW _ _ _ (Zsq t1 v12 x1) ((Zsi v8 v9 v10 v11) ++ fmsH (Ztu v10 v11)) _
 refine Yc (Y0 (Y5k 8 [44, 1, 5, 7, 8, 10, 11, 12] [(Zuf t1 v12) = true → (Zuf t1 v12) = true, (Zuf t1 v12) = true → (Zuf t1 v12) = true] ((Zuu t1 v12) :: (Zsq t1 v12 x1)) ⟨(fun h => h), (fun h => by first | exact h | (simpa using h) | grind), trivial⟩ ?_))
 refine Y1 (Y9 (b := cond (Zuf t1 v12) (decide (v12 < 3)) false) H rfl (fun c14 H => ?_) (fun c14 H => ?_))
 ·refine Yb (Yc (Yd (Y0q Tryd.checked.mixed (by kernel_rfl) ?_)))
  obtain ⟨g15, H⟩ := Y6 H
  refine QOps.seg (N := 186) 4 [0 ≤ v12 ∧ v12 < (t1.length : Int), 0 ≤ (1 : Int) ∧ (1 : Int) < (3 : Int)] (Zt4 t1 v12 x1) (by kernel_rfl) ⟨g15, (by decide), trivial⟩ (QOps.asU (.int .u8 ((Zug t1 v12).getD 1 0)) rfl (T.load rfl trivial (by kernel_rfl) (Y3u eA65 3 (fun _ => rfl) t1 (List.replicate 3 0) v12.toNat (ltN g15) 1 (fun a => .val (.int .u8 (a.getD 1 0))) (fun _ => rfl))) ?_)
  obtain ⟨g16, H⟩ := Y6 H
  refine QOps.seg (N := 186) 5 [v11.H ≠ 0] ((13, .j (Ztj t1 v11 v12)) :: (55, .j (Ztj t1 v11 v12)) :: (54, .j v11.H) :: (53, .ref 11 0 1) :: (52, .j (IntKind.wrap .i64 ((Zug t1 v12).getD 1 0))) :: (51, .int .u8 ((Zug t1 v12).getD 1 0)) :: (Zt4 t1 v12 x1)) (by kernel_rfl) ⟨g16, trivial⟩ ?_
  refine QOps.nil (AW.trim [13, 1, 5, 7, 8, 10, 11, 12] ((13, .j (Ztj t1 v11 v12)) :: (Zsq t1 v12 x1)) (by kernel_rfl) ?_)
  refine Y0q Tryd.checked.mixed (by kernel_rfl) (QOps.seg (N := 186) 4 [0 ≤ v12 ∧ v12 < (t1.length : Int), 0 ≤ (0 : Int) ∧ (0 : Int) < (3 : Int)] (Zt2 t1 v11 v12 x1) (by kernel_rfl) ⟨g15, (by decide), trivial⟩ (QOps.asU (.int .u8 ((Zug t1 v12).getD 0 0)) rfl (T.load rfl trivial (by kernel_rfl) (Y3u eA65 3 (fun _ => rfl) t1 (List.replicate 3 0) v12.toNat (ltN g15) 0 (fun a => .val (.int .u8 (a.getD 0 0))) (fun _ => rfl))) ?_))
  obtain ⟨g17, H⟩ := Y6 H
  refine QOps.seg (N := 186) 5 [v11.W ≠ 0] ((14, .j (Ztn t1 v11 v12)) :: (64, .j (Ztn t1 v11 v12)) :: (63, .j v11.W) :: (62, .ref 11 0 0) :: (61, .j (IntKind.wrap .i64 ((Zug t1 v12).getD 0 0))) :: (60, .int .u8 ((Zug t1 v12).getD 0 0)) :: (Zt2 t1 v11 v12 x1)) (by kernel_rfl) ⟨g17, trivial⟩ ?_
  refine QOps.nil (AW.trim [14, 13, 1, 5, 7, 8, 10, 11, 12] (Zs8 t1 v11 v12 x1) (by kernel_rfl) ?_)
  refine AW.drawTSeq 22 Tryd.checked.mixed (by kernel_rfl) ?_
  obtain ⟨g18, H⟩ := Y6 H
  refine QOps.seg (N := 186) 4 [0 ≤ (Ztj t1 v11 v12) ∧ (Ztj t1 v11 v12) < (v11.Up.length : Int)] ((68, .ref 5110 0 (Zuv t1 v11 v12)) :: (67, .j (Ztj t1 v11 v12)) :: (66, .rsl 5110 0 0 v11.Up.length) :: (65, .ref 11 0 2) :: (Zs8 t1 v11 v12 x1)) (by kernel_rfl) ⟨g18, trivial⟩ (QOps.asU (.rsl (Zue t1 v11 v12) 0 0 ((Zub t1 v11 v12).length)) rfl (Y2o rfl trivial (by kernel_rfl) rfl rfl rfl (Y5b (ltN g18) (by first | omega | (simp only [Ztj, Ztn, Zub, Zue, Zug, Zuv, Zv4]; omega)))) (QOps.seg (N := 186) 5 [0 ≤ (Ztj t1 v11 v12) ∧ (Ztj t1 v11 v12) < (v11.Up.length : Int)] (Zse t1 v11 v12 x1) (by kernel_rfl) ⟨g18, trivial⟩ (QOps.asU (.rsl (Zue t1 v11 v12) 0 0 ((Zub t1 v11 v12).length)) rfl (Y2o rfl trivial (by kernel_rfl) rfl rfl rfl (Y5b (ltN g18) (by first | omega | (simp only [Ztj, Ztn, Zub, Zue, Zug, Zuv, Zv4]; omega)))) (QOps.seg (N := 186) 1 [] ((76, .j (Ztn t1 v11 v12)) :: (75, .rsl (Zue t1 v11 v12) 0 0 ((Zub t1 v11 v12).length)) :: (Zse t1 v11 v12 x1)) (by kernel_rfl) trivial ?_))))
  obtain ⟨g19, H⟩ := Y6 H
  refine QOps.asU (.ref (Zue t1 v11 v12) 0 (Zum t1 v11 v12)) rfl (T.idxF rfl rfl trivial trivial (by kernel_rfl) (by kernel_rfl) (row_f rfl rfl (ltN g18)) rfl rfl g19) (QOps.asU (.bool ((Zub t1 v11 v12).getD (Ztn t1 v11 v12).toNat false)) rfl (Y2o rfl trivial (by kernel_rfl) (row_f rfl rfl (ltN g18)) rfl rfl (rt_cell eB 1 (fun _ => rfl) (Zub t1 v11 v12) false (Ztn t1 v11 v12).toNat (ltN g19) 0 (fun a => .val (.bool a)) (fun _ => rfl) (by first | omega | (simp only [Ztj, Ztn, Ztv, Zu1, Zub, Zue, Zum, Zuv, Zv4]; omega)))) (QOps.seg (N := 186) 4 [0 ≤ v12 ∧ v12 < (t1.length : Int), 0 ≤ (2 : Int) ∧ (2 : Int) < (3 : Int)] (Zsm t1 v11 v12 x1) (by kernel_rfl) ⟨g15, (by decide), trivial⟩ (QOps.asU (.int .u8 (Ztv t1 v12)) rfl (T.load rfl trivial (by kernel_rfl) (Y3u eA65 3 (fun _ => rfl) t1 (List.replicate 3 0) v12.toNat (ltN g15) 2 (fun a => .val (.int .u8 (a.getD 2 0))) (fun _ => rfl))) (QOps.seg (N := 186) 3 [(2 : Int) ≠ 0] ((86, .bool (Zu1 t1 v11 v12)) :: (85, .bool ((Int.tmod (Ztv t1 v12) (2 : Int)) == 0)) :: (84, .int .u8 (Int.tmod (Ztv t1 v12) (2 : Int))) :: (83, .int .u8 (Ztv t1 v12)) :: (Zsm t1 v11 v12 x1)) (by kernel_rfl) ⟨(by decide), trivial⟩ ?_))))
  refine QOps.nil (Y2 0 [86, 70, 69, 14, 13, 1, 5, 7, 8, 10, 11, 12] (Zsh t1 v11 v12 x1) ?_)
  change OpsW _ _ _ _ (Zsh t1 v11 v12 x1) ((Zsi v8 v9 v10 v11) ++ fmsH (Ztu v10 v11)) _
  refine OpsW.asU (.ref (Zue t1 v11 v12) 0 (Zum t1 v11 v12)) rfl rfl (T.idxF rfl rfl trivial trivial (by kernel_rfl) (by kernel_rfl) (row_f rfl rfl (ltN g18)) rfl rfl g19) ?_
  change OpsW _ _ _ _ (Zt1 t1 v11 v12 x1) ((Zsi v8 v9 v10 v11) ++ fmsH (Ztu v10 v11)) _
  refine Y1x (enc := eB) (k := 1) (xs := v11.Up) (hc' := (Zsb t1 v8 v9 v10 v11 v12)) false (Zu1 t1 v11 v12) [.val (.bool (Zu1 t1 v11 v12))] (Ztj t1 v11 v12).toNat (Ztn t1 v11 v12).toNat 0 rfl rfl rfl (by first | rfl | exact congrArg (AV.ref (Zue t1 v11 v12) 0) (by first | omega | (simp only [Ztj, Ztl, Ztn, Ztu, Ztv, Zu1, Zu6, Zub, Zue, Zum, Zuv, Zv4]; omega))) trivial trivial rfl rfl (fun _ => rfl) rfl (by kernel_rfl) (Y5 (by kernel_rfl)) (ltN g18) (ltN g19) (X0 (by kernel_rfl)) rfl (by simp only [Xs, nsA_set, Ztj, Ztl, Ztn, Ztu, Ztv, Ztw, Zu1, Zu5, Zu6, Zub, Zue, Zuh, Zul, Zum, Zuq, Zur, Zus, Zuv, Zuw, Zux, Zuy, Zv4, Zs8, Zsb, Zse, Zsh, Zsi, Zsm, Zt1]) ?_
  change OpsW _ _ _ _ (Zt1 t1 v11 v12 x1) ((Zsb t1 v8 v9 v10 v11 v12) ++ fmsH (Ztt t1 v10 v11 v12)) _
  refine Y2 0 [14, 13, 1, 5, 7, 8, 10, 11, 12] (Zs8 t1 v11 v12 x1) (Ya (Zs8 t1 v11 v12 x1) ((Zs7 t1 v8 v9 v10 v11 v12) ++ fmsH (Ztt t1 v10 v11 v12)) (Yp (hc := (Zsb t1 v8 v9 v10 v11 v12)) (fs := (Ztt t1 v10 v11 v12)) (hc' := (Zs7 t1 v8 v9 v10 v11 v12)) (fs' := (Ztt t1 v10 v11 v12)) rfl [(5, some 5), (8, some 8), (10, some 10), (11, some 11), (5100, some 5100), (5101, some 5101), (5110, some 5110), (5111, some 5111)] Zsy rfl (.o rfl (.i2 .nil) (.o rfl (.i4 .nil) (.o rfl (.i2 (.cons (.s rfl) (.cons (.s rfl) .nil))) (.o rfl (.i2 (.cons (.s rfl) (.cons (.s rfl) .nil))) (.o rfl (Yf rfl rfl (by decide) rfl rfl rfl) (.o rfl (Yf rfl rfl (by decide) rfl rfl rfl) (.o rfl (Yf rfl rfl (by decide) rfl rfl rfl) (.o rfl (Yf rfl rfl (by decide) rfl rfl rfl) .nil)))))))) rfl (.cons rfl (Ym rfl) (.cons rfl (Ym rfl) (.cons rfl (Ym rfl) (.cons rfl (Ym rfl) .nil)))) (.i3 (.cons (.r rfl) (.cons .im (.cons (.r rfl) (.cons (.r rfl) (.cons (.r rfl) (.cons .im .nil)))))))) ?_)
  refine Y1 (AW.drawT 22 Tryd.checked.mixed (by kernel_rfl) ?_)
  obtain ⟨g20, H⟩ := Y6 H
  refine QOps.seg (N := 186) 4 [0 ≤ (Ztj t1 v11 v12) ∧ (Ztj t1 v11 v12) < (v11.Down.length : Int)] ((91, .ref 5111 0 (Zuv t1 v11 v12)) :: (90, .j (Ztj t1 v11 v12)) :: (89, .rsl 5111 0 0 v11.Down.length) :: (88, .ref 11 0 3) :: (Zs8 t1 v11 v12 x1)) (by kernel_rfl) ⟨g20, trivial⟩ (QOps.asU (.rsl (Zud t1 v11 v12) 0 0 ((Zu9 t1 v11 v12).length)) rfl (Y2o rfl trivial (by kernel_rfl) rfl rfl rfl (Y5b (ltN g20) (by first | omega | (simp only [Ztj, Ztl, Ztn, Ztt, Ztv, Zu1, Zu6, Zu9, Zub, Zud, Zue, Zum, Zuv]; omega)))) (QOps.seg (N := 186) 5 [0 ≤ (Ztj t1 v11 v12) ∧ (Ztj t1 v11 v12) < (v11.Down.length : Int)] (Zsd t1 v11 v12 x1) (by kernel_rfl) ⟨g20, trivial⟩ (QOps.asU (.rsl (Zud t1 v11 v12) 0 0 ((Zu9 t1 v11 v12).length)) rfl (Y2o rfl trivial (by kernel_rfl) rfl rfl rfl (Y5b (ltN g20) (by first | omega | (simp only [Ztj, Ztl, Ztn, Ztt, Ztv, Zu1, Zu6, Zu9, Zub, Zud, Zue, Zum, Zuv]; omega)))) (QOps.seg (N := 186) 1 [] ((99, .j (Ztn t1 v11 v12)) :: (98, .rsl (Zud t1 v11 v12) 0 0 ((Zu9 t1 v11 v12).length)) :: (Zsd t1 v11 v12 x1)) (by kernel_rfl) trivial ?_))))
  obtain ⟨g21, H⟩ := Y6 H
  refine QOps.asU (.ref (Zud t1 v11 v12) 0 (Zum t1 v11 v12)) rfl (T.idxF rfl rfl trivial trivial (by kernel_rfl) (by kernel_rfl) (row_f rfl rfl (ltN g20)) rfl rfl g21) (QOps.asU (.bool ((Zu9 t1 v11 v12).getD (Ztn t1 v11 v12).toNat false)) rfl (Y2o rfl trivial (by kernel_rfl) (row_f rfl rfl (ltN g20)) rfl rfl (rt_cell eB 1 (fun _ => rfl) (Zu9 t1 v11 v12) false (Ztn t1 v11 v12).toNat (ltN g21) 0 (fun a => .val (.bool a)) (fun _ => rfl) (by first | omega | (simp only [Ztj, Ztl, Ztn, Ztt, Ztv, Zu0, Zu6, Zu9, Zud, Zum, Zuv, Zv4]; omega)))) (QOps.seg (N := 186) 4 [0 ≤ v12 ∧ v12 < (t1.length : Int), 0 ≤ (2 : Int) ∧ (2 : Int) < (3 : Int)] (Zsl t1 v11 v12 x1) (by kernel_rfl) ⟨g15, (by decide), trivial⟩ (QOps.asU (.int .u8 (Ztv t1 v12)) rfl (T.load rfl trivial (by kernel_rfl) (Y3u eA65 3 (fun _ => rfl) t1 (List.replicate 3 0) v12.toNat (ltN g15) 2 (fun a => .val (.int .u8 (a.getD 2 0))) (fun _ => rfl))) (QOps.seg (N := 186) 3 [(3 : Int) ≠ 0] ((109, .bool (Zu0 t1 v11 v12)) :: (108, .bool ((Int.tmod (Ztv t1 v12) (3 : Int)) == 0)) :: (107, .int .u8 (Int.tmod (Ztv t1 v12) (3 : Int))) :: (106, .int .u8 (Ztv t1 v12)) :: (Zsl t1 v11 v12 x1)) (by kernel_rfl) ⟨(by decide), trivial⟩ ?_))))
  refine QOps.nil (Y2 0 [109, 93, 92, 1, 5, 7, 8, 10, 11, 12] (Zsg t1 v11 v12 x1) ?_)
  change OpsW _ _ _ _ (Zsg t1 v11 v12 x1) ((Zs7 t1 v8 v9 v10 v11 v12) ++ fmsH (Ztt t1 v10 v11 v12)) _
  refine OpsW.asU (.ref (Zud t1 v11 v12) 0 (Zum t1 v11 v12)) rfl rfl (T.idxF rfl rfl trivial trivial (by kernel_rfl) (by kernel_rfl) (row_f rfl rfl (ltN g20)) rfl rfl g21) ?_
  change OpsW _ _ _ _ (Zt0 t1 v11 v12 x1) ((Zs7 t1 v8 v9 v10 v11 v12) ++ fmsH (Ztt t1 v10 v11 v12)) _
  refine Y1x (enc := eB) (k := 1) (xs := v11.Down) (hc' := (Zs6 t1 v8 v9 v10 v11 v12)) false (Zu0 t1 v11 v12) [.val (.bool (Zu0 t1 v11 v12))] (Ztj t1 v11 v12).toNat (Ztn t1 v11 v12).toNat 0 rfl rfl rfl (by first | rfl | exact congrArg (AV.ref (Zud t1 v11 v12) 0) (by first | omega | (simp only [Ztj, Ztl, Ztm, Ztn, Ztt, Ztv, Zu0, Zu6, Zu9, Zud, Zum, Zuv, Zv4]; omega))) trivial trivial rfl rfl (fun _ => rfl) rfl (by kernel_rfl) (Y5 (by kernel_rfl)) (ltN g20) (ltN g21) (X0 (by kernel_rfl)) rfl (by simp only [Xs, nsA_set, Ztj, Ztl, Ztm, Ztn, Ztt, Ztv, Ztw, Zu0, Zu5, Zu6, Zu9, Zud, Zul, Zum, Zuq, Zur, Zus, Zuv, Zuw, Zux, Zuy, Zv4, Zs6, Zs7, Zs8, Zsd, Zsg, Zsl, Zt0]) ?_
  change OpsW _ _ _ _ (Zt0 t1 v11 v12 x1) ((Zs6 t1 v8 v9 v10 v11 v12) ++ fmsH (Zui t1 v10 v11 v12)) _
  refine Y2 0 [1, 5, 7, 8, 10, 11, 12] (Zsq t1 v12 x1) ?_
  refine Y1 (Ye ?_)
  obtain ⟨g22, H⟩ := Y6 H
  refine Y5k 3 [12, 1, 5, 7, 8, 10, 11] [inR (v12 + 1)] ((12, .j (v12 + 1)) :: (Zuw t1) :: Zus :: (Zt6 x1)) ⟨g22, trivial⟩ (Y1 ?_)
  show ∃ y, _ ∧ StC _ _ _ _
  exact ⟨([(v8.getD 0 0), (v8.getD 1 0)], v9, v10, (Ztr t1 v11 v12), v12 + 1), H, (Yp (hc := (Zs6 t1 v8 v9 v10 v11 v12)) (fs := (Zui t1 v10 v11 v12)) (hc' := [(5, ⟨0, true, 70, 2, [.int .i8 ([(v8.getD 0 0), (v8.getD 1 0)].getD 0 0), .int .i8 ([(v8.getD 0 0), (v8.getD 1 0)].getD 1 0)]⟩), (8, ⟨0, true, 47, 4, (Zu5 v9)⟩), (10, ⟨0, true, 47, 4, (Ztw v10)⟩), (5100, nsA 0 61 15100 v10.Up), (5101, nsA 0 61 15101 v10.Down), (11, ⟨0, true, 47, 4, [.j (Ztr t1 v11 v12).W, .j (Ztr t1 v11 v12).H, .rsl 5110 0 0 (Ztr t1 v11 v12).Up.length, .rsl 5111 0 0 (Ztr t1 v11 v12).Down.length]⟩), (5110, nsA 0 61 15110 (Ztr t1 v11 v12).Up), (5111, nsA 0 61 15111 (Ztr t1 v11 v12).Down)]) (fs' := [fmA 15100 4 1 eB v10.Up, fmA 15101 4 1 eB v10.Down, fmA 15110 4 1 eB (Ztr t1 v11 v12).Up, fmA 15111 4 1 eB (Ztr t1 v11 v12).Down]) rfl [(5, some 5), (8, some 8), (10, some 10), (5100, some 5100), (5101, some 5101), (11, some 11), (5110, some 5110), (5111, some 5111)] Zsy rfl (.o rfl (.i2 .nil) (.o rfl (.i4 .nil) (.o rfl (.i2 (.cons (.s rfl) (.cons (.s rfl) .nil))) (.o rfl (Yf rfl rfl (by decide) rfl rfl rfl) (.o rfl (Yf rfl rfl (by decide) rfl rfl rfl) (.o rfl (.i2 (.cons (.s rfl) (.cons (.s rfl) .nil))) (.o rfl (Yf rfl rfl (by decide) rfl rfl rfl) (.o rfl (Yf rfl rfl (by decide) rfl rfl rfl) .nil)))))))) rfl (.cons rfl (Ym rfl) (.cons rfl (Ym rfl) (.cons rfl (Ym rfl) (.cons rfl (Ym rfl) .nil)))) (.cons .im (.cons (.r rfl) (.cons .im (.cons (.r rfl) (.cons (.r rfl) (.cons (.r rfl) (.cons .im .nil))))))))⟩
 refine AW.exit (AW.drawGSeq 28 [(27, 15)] Tryd.checked.mixed (by kernel_rfl) (by kernel_rfl) ?_)
 refine DOps.q 27 (by kernel_rfl) ?_
 obtain ⟨g23, H⟩ := Y6 H
 obtain ⟨g24, H⟩ := Y6 H
 obtain ⟨g25, H⟩ := Y6 H
 refine QOps.seg (N := 186) 25 [0 ≤ (0 : Int) ∧ (0 : Int) < (2 : Int), inR (v9.W + (IntKind.wrap .i64 (v8.getD 0 0))), 0 ≤ (1 : Int) ∧ (1 : Int) < (2 : Int), inR (v9.H + (IntKind.wrap .i64 (v8.getD 1 0))), 0 ≤ (0 : Int) ∧ (0 : Int) < (2 : Int), (2 : Int) ≠ 0, inR (Ztx v8 v9)] (Zsk t1 v8 v9 v12 x1) (by kernel_rfl) ⟨(by decide), g23, (by decide), g24, (by decide), (by decide), g25, trivial⟩ ?_
 obtain ⟨g26, H⟩ := Y6 H
 refine QOps.asU (sD (v9.Down.take ((Ztx v8 v9).toNat))) rfl (T.slice' rfl trivial trivial trivial (by kernel_rfl) (by kernel_rfl) g26 trivial (sl_hi (eL eB) 1 (fun _ => rfl) v9.Down (Ztx v8 v9) g26)) (QOps.seg (N := 186) 1 [] ((137, .agg (Zto v8 v9)) :: (136, sD (v9.Down.take ((Ztx v8 v9).toNat))) :: (Zsk t1 v8 v9 v12 x1)) (by kernel_rfl) trivial ?_)
 refine QOps.nil (DOps.e 15 rfl rfl (Y4r rfl) (by exact fun g hg hb => RStep.alloc rfl 15 (hg.trans (Y4r rfl)) (by kernel_rfl : zc Tryd.prog 47 = some [.j 0, .j 0, .slice none 0 0, .slice none 0 0]) (by kernel_rfl)) ?_)
 refine DOps.nil ?_
 refine Y2 0 [15, 137, 7, 8, 10, 11] ((15, .ref 15 0 0) :: (137, .agg (Zto v8 v9)) :: (Zt6 x1)) (OpsW.store rfl rfl rfl rfl trivial trivial rfl rfl rfl (by kernel_rfl) (Y5 (by kernel_rfl)) (X0 (by kernel_rfl)) ?_)
 change OpsW _ _ _ _ _ ((Zsu v8 v9 v10 v11) ++ fmsH (Ztu v10 v11)) _
 refine Y2 0 [15, 7, 8, 10, 11] ((15, .ref 15 0 0) :: (Zt6 x1)) (Ya ((15, .ref 15 0 0) :: (Zt6 x1)) ((Zsj v8 v9 v10 v11) ++ fmsH (Ztu v10 v11)) (Yp (hc := (Zsu v8 v9 v10 v11)) (fs := (Ztu v10 v11)) (hc' := (Zsj v8 v9 v10 v11)) (fs' := (Ztu v10 v11)) rfl [(8, some 8), (10, some 10), (11, some 11), (15, some 15), (5100, some 5100), (5101, some 5101), (5110, some 5110), (5111, some 5111)] Zsy rfl (.o rfl (.i4 .nil) (.o rfl (.i2 (.cons (.s rfl) (.cons (.s rfl) .nil))) (.o rfl (.i2 (.cons (.s rfl) (.cons (.s rfl) .nil))) (.o rfl (.i4 .nil) (.o rfl (Yf rfl rfl (by decide) rfl rfl rfl) (.o rfl (Yf rfl rfl (by decide) rfl rfl rfl) (.o rfl (Yf rfl rfl (by decide) rfl rfl rfl) (.o rfl (Yf rfl rfl (by decide) rfl rfl rfl) .nil)))))))) rfl (.cons rfl (Ym rfl) (.cons rfl (Ym rfl) (.cons rfl (Ym rfl) (.cons rfl (Ym rfl) .nil)))) (.cons (.r rfl) (.cons .im (.cons (.r rfl) (.cons (.r rfl) (.cons (.r rfl) .nil)))))) ?_)
 refine Y1 (Y0 (Y2 4 [141, 140, 139, 138, 7] [(141, .agg (Zto v8 v9)), (140, .agg (Zuh v11)), (139, .agg (Ztw v10)), (138, .agg (Zu5 v9)), (7, .bool x1)] ?_))
 refine Ya [(141, .agg (Zto v8 v9)), (140, .agg [.j v11.W, .j v11.H, sD v11.Up, sD v11.Down]), (139, .agg [.j v10.W, .j v10.H, sD v10.Up, sD v10.Down]), (138, .agg (Zu5 v9)), (7, .bool x1)] (Zst v8 v9 v10 v11) (Yp (hc := (Zsj v8 v9 v10 v11)) (fs := (Ztu v10 v11)) (hc' := (Zst v8 v9 v10 v11)) (fs' := []) rfl [(8, some 8), (10, some 10), (11, some 11), (15, some 15)] [] rfl (.o rfl (.i4 .nil) (.o rfl (.i2 (.cons (Y10 rfl rfl (fun _ => rfl) rfl rfl rfl) (.cons (Y10 rfl rfl (fun _ => rfl) rfl rfl rfl) .nil))) (.o rfl (.i2 (.cons (Y10 rfl rfl (fun _ => rfl) rfl rfl rfl) (.cons (Y10 rfl rfl (fun _ => rfl) rfl rfl rfl) .nil))) (.o rfl (.i4 .nil) .nil)))) rfl .nil (.cons (.agg (.i4 .nil)) (.cons (.agg (.i2 (.cons (Y10 rfl rfl (fun _ => rfl) rfl rfl rfl) (.cons (Y10 rfl rfl (fun _ => rfl) rfl rfl rfl) .nil)))) (.cons (.agg (.i2 (.cons (Y10 rfl rfl (fun _ => rfl) rfl rfl rfl) (.cons (Y10 rfl rfl (fun _ => rfl) rfl rfl rfl) .nil)))) (.cons (.agg (.i4 .nil)) (.cons .im .nil)))))) (OpsW.buildTI (enc := Y19) [v9, v10, v11, (Ztk v8 v9)] rfl rfl rfl E71 (fun _ => rfl) (by decide) ⟨trivial, by kernel_rfl, by kernel_rfl, by kernel_rfl, rfl⟩ (Y2 1 [16, 7] (Zss v8 v9 v10 v11 x1) (Ya (Zss v8 v9 v10 v11 x1) [] (StC.pure (.i2 .nil)) ?_)))
 refine Y1 (Yc (Y0 (Y2 1 [17, 16, 7] ((17, .j (0 : Int)) :: (Zss v8 v9 v10 v11 x1)) ?_)))
 refine Y1 (Yd ?_)
 refine Yq (fun loop (s : Int) => Yz x1 v8 v9 v10 v11 loop s) r (fun (s : Int) => [(7, .bool x1), (Zv3 v8 v9 v10 v11), (17, .j s)]) (fun (s : Int) => []) ?_ 1000000 (0 : Int) H (StC.pure (.i3 .nil))
 intro loop28 v27 H
 change Yz x1 v8 v9 v10 v11 loop28 v27 = some r at H
 unfold Yz at H
 change AW _ _ _ (Zsa v8 v9 v10 v11 v27 x1) [] _
 refine Yc (Y0 (Y2 2 [144, 7, 16, 17] ((144, .bool (decide (v27 < 4))) :: (Zsa v8 v9 v10 v11 v27 x1)) ?_))
 refine Y1 (Y9 (b := decide (v27 < 4)) H rfl (fun c29 H => ?_) (fun c29 H => ?_))
 ·refine Yb (Yc (Yd (Y0 ?_)))
  obtain ⟨g30, H⟩ := Y6 H
  refine Y5k 3 [150, 7, 16, 17] [0 ≤ v27 ∧ v27 < (Zv7 v8 v9 v10 v11)] ((150, .ipt (Zun v8 v9 v10 v11) (v27.toNat * 4)) :: (Zsa v8 v9 v10 v11 v27 x1)) ⟨g30, trivial⟩ (OpsW.asU (.agg (Ztq v8 v9 v10 v11 v27)) rfl rfl (T.loadAgg (cs := [v9, v10, v11, (Ztk v8 v9)].flatMap Y19) (off := v27.toNat * 4) (ds := Y19 (Zut v8 v9 v10 v11 v27)) rfl trivial (by kernel_rfl) (by have := Yy Y19 4 (fun _ => rfl) [v9, v10, v11, (Ztk v8 v9)]; have := (ltN g30); first | omega | (simp only [Ztk, Zun, Zut, Zv7] at *; omega)) (fm_elem Y19 4 (fun _ => rfl) [v9, v10, v11, (Ztk v8 v9)] Y33 v27.toNat (ltN g30))) ?_)
  obtain ⟨x31, hx31, H⟩ := Yt H
  refine OpsW.qcall rfl (by kernel_rfl) rfl rfl (Yg trivial) (.cons (.pur rfl) .nil) (f_sheet_Leaf_ok hx31) rfl (Y2 3 [154, 153, 7, 16, 17] ((154, .j x31.2) :: (153, .agg (Zu2 x31)) :: (Zsa v8 v9 v10 v11 v27 x1)) (Yo rfl rfl rfl 18 rfl (by kernel_rfl : zc Tryd.prog 39 = some [.j 0, .j 0, .slice none 0 0, .slice none 0 0]) (by kernel_rfl) (OpsW.store rfl rfl rfl rfl trivial trivial rfl rfl rfl (by kernel_rfl) (Y5 (by kernel_rfl)) (X0 (by kernel_rfl)) ?_)))
  change OpsW _ _ _ _ _ [(18, ⟨0, true, 39, 4, (Zu2 x31)⟩), (18, ⟨0, true, 39, 4, Ztz⟩)] _
  refine Y2 1 [19, 18, 7, 16, 17] (Ztb v8 v9 v10 v11 v27 x1 x31) (Ya (Ztb v8 v9 v10 v11 v27 x1 x31) (Ztg x31) (StC.mk (phi [(18, some 18)]) (.o rfl (.i4 .nil) .nil) rfl (.cons .im (.cons (.r rfl) (.i3 .nil)))) ?_)
  refine Y1 (Y0 (Y5k 3 [158, 19, 18, 7, 16, 17] [0 ≤ v27 ∧ v27 < (Zv7 v8 v9 v10 v11)] ((158, .ipt (Zun v8 v9 v10 v11) (v27.toNat * 4)) :: (Ztb v8 v9 v10 v11 v27 x1 x31)) ⟨g30, trivial⟩ ?_))
  refine OpsW.asU (.agg (Ztq v8 v9 v10 v11 v27)) rfl rfl (T.loadAgg (cs := [v9, v10, v11, (Ztk v8 v9)].flatMap Y19) (off := v27.toNat * 4) (ds := Y19 (Zut v8 v9 v10 v11 v27)) rfl trivial (by kernel_rfl) (by have := Yy Y19 4 (fun _ => rfl) [v9, v10, v11, (Ztk v8 v9)]; have := (ltN g30); first | omega | (simp only [Ztk, Zun, Zut, Zv7] at *; omega)) (fm_elem Y19 4 (fun _ => rfl) [v9, v10, v11, (Ztk v8 v9)] Y33 v27.toNat (ltN g30))) ?_
  obtain ⟨x32, hx32, H⟩ := Yt H
  refine OpsW.qcall rfl (by kernel_rfl) rfl rfl (Yg trivial) (.cons (.pur rfl) .nil) (f_R25_Leaf_ok hx32) rfl (Y2 3 [162, 161, 19, 18, 7, 16, 17] ((162, .j x32.2) :: (161, .agg (Zu7 x32)) :: (Ztb v8 v9 v10 v11 v27 x1 x31)) (Yo rfl rfl rfl 20 rfl (by kernel_rfl : zc Tryd.prog 39 = some [.j 0, .j 0, .slice none 0 0, .slice none 0 0]) (by kernel_rfl) (OpsW.store rfl rfl rfl rfl trivial trivial rfl rfl rfl (by kernel_rfl) (Y5 (by kernel_rfl)) (X0 (by kernel_rfl)) ?_)))
  change OpsW _ _ _ _ _ ((20, ⟨0, true, 39, 4, (Zu7 x32)⟩) :: (20, ⟨0, true, 39, 4, Ztz⟩) :: (Ztg x31)) _
  refine Y2 1 [21, 20, 19, 18, 7, 16, 17] ((21, .j x32.2) :: (20, .ref 20 0 0) :: (Ztb v8 v9 v10 v11 v27 x1 x31)) (Ya ((21, .j x32.2) :: (20, .ref 20 0 0) :: (Ztb v8 v9 v10 v11 v27 x1 x31)) [(18, ⟨0, true, 39, 4, (Zu2 x31)⟩), (20, ⟨0, true, 39, 4, (Zu7 x32)⟩)] (StC.mk (phi [(18, some 18), (20, some 20)]) (.o rfl (.i4 .nil) (.o rfl (.i4 .nil) .nil)) rfl (.cons .im (.cons (.r rfl) (.cons .im (.cons (.r rfl) (.i3 .nil)))))) ?_)
  refine Y1 (Y0q Tryd.checked.mixed (by kernel_rfl) ?_)
  refine QOps.seg (N := 186) 2 [] (Zt5 v8 v9 v10 v11 v27 x1 x31 x32) (by kernel_rfl) trivial ?_
  obtain ⟨x33, hx33, H⟩ := Yt H
  refine QOps.qcall rfl (by kernel_rfl) rfl (Yg trivial) (.cons (.pur rfl) (.cons (.pur rfl) .nil)) (f_R25_Same_ok hx33) rfl (QOps.seg (N := 186) 10 [(!(!x33)) = true → (!(!x33)) = true, (!(!x33)) = true → (!(!x33)) = true, (!x33) = false → (!(!x33)) = true, (!(Zts x31 x32 x33)) = true → (!(Zts x31 x32 x33)) = true, (!(Zts x31 x32 x33)) = true → (!(Zts x31 x32 x33)) = true, (!(Zts x31 x32 x33)) = true → (0 ≤ v27 ∧ v27 < (Zv7 v8 v9 v10 v11))] ((175, .cnd (!(Zts x31 x32 x33)) (.ipt (Zun v8 v9 v10 v11) (v27.toNat * 4))) :: (174, .cnd (!(Zts x31 x32 x33)) (.j v27)) :: (173, .cnd (!(Zts x31 x32 x33)) (slA Y19 [v9, v10, v11, (Ztk v8 v9)])) :: (172, .bool (Zts x31 x32 x33)) :: (171, .bool (Zts x31 x32 x33)) :: (170, .cnd (!(!x33)) (.bool (x31.2 != x32.2))) :: (169, .cnd (!(!x33)) (.j x32.2)) :: (168, .cnd (!(!x33)) (.j x31.2)) :: (167, .bool (!x33)) :: (166, .bool (!x33)) :: (165, .bool x33) :: (Zt5 v8 v9 v10 v11 v27 x1 x31 x32)) (by kernel_rfl) ⟨(fun h => h), (fun h => h), (fun h => by first | exact h | (simpa using h) | grind), (fun h => h), (fun h => h), (fun _ => g30), trivial⟩ (QOps.asG (c := !(Zts x31 x32 x33)) (.agg (Ztq v8 v9 v10 v11 v27)) rfl rfl rfl (fun hc => T.loadAgg (cs := [v9, v10, v11, (Ztk v8 v9)].flatMap Y19) (off := v27.toNat * 4) (ds := Y19 (Zut v8 v9 v10 v11 v27)) rfl hc (by kernel_rfl) (by have := Yy Y19 4 (fun _ => rfl) [v9, v10, v11, (Ztk v8 v9)]; have := (ltN g30); first | omega | (simp only [Ztk, Zts, Zun, Zut, Zv7] at *; omega)) (fm_elem Y19 4 (fun _ => rfl) [v9, v10, v11, (Ztk v8 v9)] Y33 v27.toNat (ltN g30))) ?_))
  obtain ⟨x34, hx34, H⟩ := Yt H
  refine QOps.gcall (c := !(Zts x31 x32 x33)) (r := .bool x34) [] rfl (by kernel_rfl) rfl rfl rfl (fun hc => ⟨Yg ⟨hc, trivial⟩, (.cons (.pur rfl) .nil), Y1t (condT hc hx34), .inl ⟨rfl, rfl⟩⟩) (QOps.seg (N := 186) 3 [(!(Zts x31 x32 x33)) = true → (!(Zts x31 x32 x33)) = true, (!(Zts x31 x32 x33)) = true → (!(Zts x31 x32 x33)) = true, (!(Zts x31 x32 x33)) = true → (0 ≤ v27 ∧ v27 < (Zv7 v8 v9 v10 v11))] (Zsc v8 v9 v10 v11 v27 x1 x31 x32 x33 x34) (by kernel_rfl) ⟨(fun h => h), (fun h => h), (fun _ => g30), trivial⟩ (QOps.asG (c := !(Zts x31 x32 x33)) (.agg (Ztq v8 v9 v10 v11 v27)) rfl rfl rfl (fun hc => T.loadAgg (cs := [v9, v10, v11, (Ztk v8 v9)].flatMap Y19) (off := v27.toNat * 4) (ds := Y19 (Zut v8 v9 v10 v11 v27)) rfl hc (by kernel_rfl) (by have := Yy Y19 4 (fun _ => rfl) [v9, v10, v11, (Ztk v8 v9)]; have := (ltN g30); first | omega | (simp only [Ztk, Zts, Zun, Zut, Zv7] at *; omega)) (fm_elem Y19 4 (fun _ => rfl) [v9, v10, v11, (Ztk v8 v9)] Y33 v27.toNat (ltN g30))) ?_))
  obtain ⟨x35, hx35, H⟩ := Yt H
  refine QOps.gcall (c := !(Zts x31 x32 x33)) (r := .bool x35) [] rfl (by kernel_rfl) rfl rfl rfl (fun hc => ⟨Yg ⟨hc, trivial⟩, (.cons (.pur rfl) .nil), f_R25_Valid_ok (condT hc hx35), .inl ⟨rfl, rfl⟩⟩) (QOps.seg (N := 186) 2 [(!(Zts x31 x32 x33)) = true → (!(Zts x31 x32 x33)) = true, (!(Zts x31 x32 x33)) = true → (!(Zts x31 x32 x33)) = true, (Zts x31 x32 x33) = false → (!(Zts x31 x32 x33)) = true] ((184, .bool (cond (Zts x31 x32 x33) true (x34 != x35))) :: (183, .cnd (!(Zts x31 x32 x33)) (.bool (x34 != x35))) :: (182, .cnd (!(Zts x31 x32 x33)) (.bool x35)) :: (181, .cnd (!(Zts x31 x32 x33)) (.agg (Ztq v8 v9 v10 v11 v27))) :: (Zsc v8 v9 v10 v11 v27 x1 x31 x32 x33 x34)) (by kernel_rfl) ⟨(fun h => h), (fun h => h), (fun h => by first | exact h | (simpa using h) | grind), trivial⟩ ?_)
  refine QOps.nil (AW.trim [184, 7, 16, 17] ((184, .bool (cond (Zts x31 x32 x33) true (x34 != x35))) :: (Zsa v8 v9 v10 v11 v27 x1)) (by kernel_rfl) ?_)
  refine Y9 (b := cond (Zts x31 x32 x33) true (x34 != x35)) H rfl (fun c36 H => ?_) (fun c36 H => ?_)
  ·refine Y0 (Y2 1 [6] [(6, .bool false)] ?_)
   refine Y1 ?_
   obtain rfl := X1 H
   refine AW.recast (env' := [(6, .bool false)]) (h' := []) (StC.pure (.cons .im .nil)) (Yl ?_)
   try simp only [Ex.t, Ex.b, Ex.n, Ex.y]
   refine Y1k rfl (.tmp .nil) ?_
   show _ = _
   kernel_rfl
  refine Yb (Ye ?_)
  obtain ⟨g37, H⟩ := Y6 H
  refine Y5k 3 [17, 7, 16] [inR (v27 + 1)] [(17, .j (v27 + 1)), (7, .bool x1), (Zv3 v8 v9 v10 v11)] ⟨g37, trivial⟩ (Y1 ?_)
  show ∃ y, _ ∧ StC _ _ _ _
  exact ⟨v27 + 1, H, (StC.pure (.i3 .nil))⟩
 refine AW.exit ?_
 refine Y0 (Y2 2 [6] [(6, .bool x1)] ?_)
 refine Y1 ?_
 obtain rfl := X1 H
 refine AW.recast (env' := [(6, .bool x1)]) (h' := []) (StC.pure (.cons .im .nil)) (Yl ?_)
 try simp only [Ex.t, Ex.b, Ex.n, Ex.y]
 refine Y1k rfl (.tmp .nil) ?_
 show _ = _
 kernel_rfl
end Go.Proofs.YtbcfmhoaocifoaaDoor
