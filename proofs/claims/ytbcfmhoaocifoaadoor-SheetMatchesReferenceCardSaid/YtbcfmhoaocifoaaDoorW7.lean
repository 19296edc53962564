/-
  Written by gen.py (own work): typed functions, and that the program computes them.
-/
import Derived.Test.YtbcfmhoaocifoaaDoorW6
set_option linter.unusedSimpArgs false
set_option linter.unusedVariables false
set_option maxRecDepth 100000
namespace Go.Proofs.YtbcfmhoaocifoaaDoor
open Go.Abs
def f_L25_SheetMatchesReference_k1 (loop13 : ((List S_Leaf) × Int) → Option Bool) (v12 : Int) (v15 : List S_Leaf) : Option Bool :=
  G (inR (v12 + 1)) <|
  loop13 (v15, v12 + 1)
def f_L25_SheetMatchesReference_b1 (v7 : List Int) (v8 : S_Format) (loop13 : ((List S_Leaf) × Int) → Option Bool) (v12 : Int) (loop20 : ((List S_Leaf) × Int) → Option Bool) (v18 : List S_Leaf) (v19 : Int) : Option Bool :=
  cond (decide (v19 < 3)) (
    G (0 ≤ v12 ∧ v12 < (v18.length : Int)) <|
    G (0 ≤ v19 ∧ v19 < ([v8, (⟨IntKind.wrap .i64 (v7.getD 0 0), (5 : Int), (0 : Int)⟩ : S_Format), (⟨(30 : Int), IntKind.wrap .i64 (v7.getD 1 0), (0 : Int)⟩ : S_Format)].length : Int)) <|
    (f_sheet_Press (v18.getD v12.toNat zS_Leaf) ([v8, (⟨IntKind.wrap .i64 (v7.getD 0 0), (5 : Int), (0 : Int)⟩ : S_Format), (⟨(30 : Int), IntKind.wrap .i64 (v7.getD 1 0), (0 : Int)⟩ : S_Format)].getD v19.toNat zS_Format)).bind fun x24 =>
    (f_R25_Press (v18.getD v12.toNat zS_Leaf) ([v8, (⟨IntKind.wrap .i64 (v7.getD 0 0), (5 : Int), (0 : Int)⟩ : S_Format), (⟨(30 : Int), IntKind.wrap .i64 (v7.getD 1 0), (0 : Int)⟩ : S_Format)].getD v19.toNat zS_Format)).bind fun x25 =>
    (f_R25_Equal x24.1 x25.1).bind fun x26 =>
    cond (cond (!x26) true (x24.2 != x25.2)) (
      some false) (
      G (inR (v19 + 1)) <|
      loop20 (v18, v19 + 1))) (
    f_L25_SheetMatchesReference_k1 loop13 v12 v18)
def f_L25_SheetMatchesReference_k2 (v7 : List Int) (v8 : S_Format) (loop13 : ((List S_Leaf) × Int) → Option Bool) (v12 : Int) (v17 : List S_Leaf) : Option Bool :=
  iter (fun loop (s : (List S_Leaf) × Int) => f_L25_SheetMatchesReference_b1 v7 v8 loop13 v12 loop s.1 s.2) 1000000 (v17, (0 : Int))
def f_L25_SheetMatchesReference_b2 (t2 : Bool) (x1 : Bool) (v7 : List Int) (v8 : S_Format) (loop13 : ((List S_Leaf) × Int) → Option Bool) (v11 : List S_Leaf) (v12 : Int) : Option Bool :=
  cond (decide (v12 < 2)) (
    cond t2 (
      G (0 ≤ v12 ∧ v12 < (v11.length : Int)) <|
      G (0 ≤ v12 ∧ v12 < ((v11.set v12.toNat (⟨(v11.getD v12.toNat zS_Leaf).Label, (v11.getD v12.toNat zS_Leaf).Back, (v11.getD v12.toNat zS_Leaf).Back⟩ : S_Leaf)).length : Int)) <|
      f_L25_SheetMatchesReference_k2 v7 v8 loop13 v12 ((v11.set v12.toNat (⟨(v11.getD v12.toNat zS_Leaf).Label, (v11.getD v12.toNat zS_Leaf).Back, (v11.getD v12.toNat zS_Leaf).Back⟩ : S_Leaf)).set v12.toNat (⟨((v11.set v12.toNat (⟨(v11.getD v12.toNat zS_Leaf).Label, (v11.getD v12.toNat zS_Leaf).Back, (v11.getD v12.toNat zS_Leaf).Back⟩ : S_Leaf)).getD v12.toNat zS_Leaf).Label, ((v11.set v12.toNat (⟨(v11.getD v12.toNat zS_Leaf).Label, (v11.getD v12.toNat zS_Leaf).Back, (v11.getD v12.toNat zS_Leaf).Back⟩ : S_Leaf)).getD v12.toNat zS_Leaf).Front, (v11.getD v12.toNat zS_Leaf).Front⟩ : S_Leaf))) (
      f_L25_SheetMatchesReference_k2 v7 v8 loop13 v12 v11)) (
    some x1)
def f_L25_SheetMatchesReference_k3 (t2 : Bool) (x1 : Bool) (v7 : List Int) (v8 : S_Format) (v9 : S_Leaf) (v10 : S_Leaf) : Option Bool :=
  iter (fun loop (s : (List S_Leaf) × Int) => f_L25_SheetMatchesReference_b2 t2 x1 v7 v8 loop s.1 s.2) 1000000 ([v9, v10], (0 : Int))
def f_L25_SheetMatchesReference (t0 : S_Raw) (t1 : List Int) (t2 : Bool) : Option Bool :=
  (f_L25_sanity).bind fun x1 =>
  (f_R25_Format t0).bind fun x2 =>
  G (inR (x2.Width + (IntKind.wrap .i64 (Int.tmod (t1.getD 0 0) (2 : Int))))) <|
  G (inR (x2.Height + (IntKind.wrap .i64 (Int.tmod (t1.getD 1 0) (2 : Int))))) <|
  (f_R25_Pages t0).bind fun x5 =>
  (f_R25_Pages t0).bind fun x6 =>
  cond (cond ((Int.tmod (t1.getD 2 0) (4 : Int)) == 1) (decide ((0 : Int) < (x6.Back.length : Int))) false) (
    G ((x6.Back.length : Int) ≠ 0) <|
    G (0 ≤ (Int.tmod (IntKind.wrap .i64 (IntKind.wrap .u8 (t1.getD 3 0))) (x6.Back.length : Int)) ∧ (Int.tmod (IntKind.wrap .i64 (IntKind.wrap .u8 (t1.getD 3 0))) (x6.Back.length : Int)) < (x6.Back.length : Int)) <|
    G (room 1 (([] : List Int).length + (x6.Back.getD (Int.tmod (IntKind.wrap .i64 (IntKind.wrap .u8 (t1.getD 3 0))) (x6.Back.length : Int)).toNat []).length)) <|
    G (room 1 ((([] : List Int) ++ (x6.Back.getD (Int.tmod (IntKind.wrap .i64 (IntKind.wrap .u8 (t1.getD 3 0))) (x6.Back.length : Int)).toNat [])).length + [IntKind.wrap .u8 (t1.getD 2 0)].length)) <|
    f_L25_SheetMatchesReference_k3 t2 x1 [(t1.getD 0 0), (t1.getD 1 0), (t1.getD 2 0), (t1.getD 3 0)] (⟨x2.Width + (IntKind.wrap .i64 (Int.tmod (t1.getD 0 0) (2 : Int))), x2.Height + (IntKind.wrap .i64 (Int.tmod (t1.getD 1 0) (2 : Int))), x2.Binding⟩ : S_Format) x5 (⟨x6.Label, x6.Front, x6.Back.set (Int.tmod (IntKind.wrap .i64 (IntKind.wrap .u8 (t1.getD 3 0))) (x6.Back.length : Int)).toNat ((([] : List Int) ++ (x6.Back.getD (Int.tmod (IntKind.wrap .i64 (IntKind.wrap .u8 (t1.getD 3 0))) (x6.Back.length : Int)).toNat [])) ++ [IntKind.wrap .u8 (t1.getD 2 0)])⟩ : S_Leaf)) (
    f_L25_SheetMatchesReference_k3 t2 x1 [(t1.getD 0 0), (t1.getD 1 0), (t1.getD 2 0), (t1.getD 3 0)] (⟨x2.Width + (IntKind.wrap .i64 (Int.tmod (t1.getD 0 0) (2 : Int))), x2.Height + (IntKind.wrap .i64 (Int.tmod (t1.getD 1 0) (2 : Int))), x2.Binding⟩ : S_Format) x5 x6)
section
variable (t0 : S_Raw) (t1 : List Int) (t2 : Bool) (v7 : List Int) (v8 : S_Format) (v9 : S_Leaf) (v10 : S_Leaf) (v11 : List S_Leaf) (v12 : Int) (v18 : List S_Leaf) (v19 : Int) (x1 : Bool) (x2 : S_Format) (x5 : S_Leaf) (x6 : S_Leaf) (x24 : (S_Plate × Int)) (x25 : (S_Plate × Int))
abbrev qZj6 := (Int.tmod (IntKind.wrap .i64 (IntKind.wrap .u8 (t1.getD 3 0))) (x6.Back.length : Int))
abbrev qZj7 := ([v8, (⟨IntKind.wrap .i64 (v7.getD 0 0), (5 : Int), (0 : Int)⟩ : S_Format), (⟨(30 : Int), IntKind.wrap .i64 (v7.getD 1 0), (0 : Int)⟩ : S_Format)].getD v19.toNat zS_Format)
abbrev qZj8 : List AV := [.int .u8 t0.W, .int .u8 t0.H, slA (eL (eI .u8)) t0.Front, slA (eL (eI .u8)) t0.Back, .int .u8 t0.Head.Width, .int .u16 t0.Head.N, .int .u8 t0.Head.K, .bool t0.Head.Back, .int .u16 t0.Head.Ink, .int .u8 t0.Head.Part]
abbrev qZj9 := (v11.set v12.toNat (⟨(v11.getD v12.toNat zS_Leaf).Label, (v11.getD v12.toNat zS_Leaf).Back, (v11.getD v12.toNat zS_Leaf).Back⟩ : S_Leaf))
abbrev qZja := ((([] : List Int) ++ (x6.Back.getD (qZj6 t1 x6).toNat [])) ++ [IntKind.wrap .u8 (t1.getD 2 0)])
abbrev qZjb : List AV := [.int .i64 (x2.Width + (IntKind.wrap .i64 (Int.tmod (t1.getD 0 0) (2 : Int)))), .int .i64 (x2.Height + (IntKind.wrap .i64 (Int.tmod (t1.getD 1 0) (2 : Int)))), .int .i64 x2.Binding]
abbrev qZjc := (⟨(30 : Int), IntKind.wrap .i64 (v7.getD 1 0), (0 : Int)⟩ : S_Format)
abbrev qZjd := (⟨IntKind.wrap .i64 (v7.getD 0 0), (5 : Int), (0 : Int)⟩ : S_Format)
abbrev qZje : List AV := [.int .i8 (t1.getD 0 0), .int .i8 (t1.getD 1 0), .int .i8 (t1.getD 2 0), .int .i8 (t1.getD 3 0)]
abbrev qZjf : List AV := [.int .i64 ((v18.getD v12.toNat zS_Leaf).Label.N), .int .i64 ((v18.getD v12.toNat zS_Leaf).Label.K), slA (eL (eI .u8)) ((v18.getD v12.toNat zS_Leaf).Front), slA (eL (eI .u8)) ((v18.getD v12.toNat zS_Leaf).Back)]
abbrev qZjg : List AV := [.int .i64 x5.Label.N, .int .i64 x5.Label.K, slA (eL (eI .u8)) x5.Front, .rsl 5090 0 0 x5.Back.length]
abbrev qZjh := (⟨((qZj9 v11 v12).getD v12.toNat zS_Leaf).Label, ((qZj9 v11 v12).getD v12.toNat zS_Leaf).Front, (v11.getD v12.toNat zS_Leaf).Front⟩ : S_Leaf)
abbrev qZji : List AV := [.int .i64 x24.1.W, .int .i64 x24.1.H, slA (eL eB) x24.1.Up, slA (eL eB) x24.1.Down]
abbrev qZjj := (([] : List Int) ++ (x6.Back.getD (qZj6 t1 x6).toNat []))
abbrev qZjk := ((Int.tmod (t1.getD 2 0) (4 : Int)) == 1)
abbrev qZjl : List AV := [.int .i64 x25.1.W, .int .i64 x25.1.H, slA (eL eB) x25.1.Up, slA (eL eB) x25.1.Down]
abbrev qZjm : List AV := [.int .i64 ((qZj7 v7 v8 v19).Width), .int .i64 ((qZj7 v7 v8 v19).Height), .int .i64 ((qZj7 v7 v8 v19).Binding)]
abbrev qZjn := v11.getD v12.toNat zS_Leaf
abbrev qZjo := (IntKind.wrap .i64 (Int.tmod (t1.getD 0 0) (2 : Int)))
abbrev qZjp : List AV := [.int .i64 x6.Label.N, .int .i64 x6.Label.K, slA (eL (eI .u8)) x6.Front, .rsl 5100 0 0 x6.Back.length]
abbrev qZjq : List AV := [.int .i8 (v7.getD 0 0), .int .i8 (v7.getD 1 0), .int .i8 (v7.getD 2 0), .int .i8 (v7.getD 3 0)]
abbrev qZjr : Nat × AV := (14, slA eS_Format [v8, (qZjd v7), (qZjc v7)])
abbrev qZjs : List AV := [.int .i64 v8.Width, .int .i64 v8.Height, .int .i64 v8.Binding]
abbrev qZjt := (IntKind.wrap .i64 (Int.tmod (t1.getD 1 0) (2 : Int)))
abbrev qZju := x6.Back.set (qZj6 t1 x6).toNat (qZja t1 x6)
abbrev qZjv : Nat × AV := (110, slA (eL (eI .u8)) ((qZjn v11 v12).Front))
abbrev qZjw : List AV := [.int .i64 v10.Label.N, .int .i64 v10.Label.K, slA (eL (eI .u8)) v10.Front, .rsl 5100 0 0 v10.Back.length]
abbrev qZjx : List AV := [.int .i64 x6.Label.N, .int .i64 x6.Label.K, slA (eL (eI .u8)) x6.Front, .rsl 5100 0 0 ((qZju t1 x6).length)]
abbrev qZjy : List AV := [.int .i64 x5.Label.N, .int .i64 x5.Label.K, slA (eL (eI .u8)) x5.Front, .rsl 1500 0 0 x5.Back.length]
abbrev qZjz : List AV := [.int .i64 x6.Label.N, .int .i64 x6.Label.K, slA (eL (eI .u8)) x6.Front, .rsl 1500 0 0 x6.Back.length]
abbrev qZk0 : List AV := [.int .i64 v9.Label.N, .int .i64 v9.Label.K, slA (eL (eI .u8)) v9.Front, .rsl 5090 0 0 v9.Back.length]
abbrev qZk1 : List AV := [.int .i64 x5.Label.N, .int .i64 x5.Label.K, slA (eL (eI .u8)) x5.Front, .rsl 601 0 0 x5.Back.length]
abbrev qZk2 : List AV := [.int .i64 x6.Label.N, .int .i64 x6.Label.K, slA (eL (eI .u8)) x6.Front, .rsl 601 0 0 x6.Back.length]
abbrev qZk3 : List AV := [.int .i64 v10.Label.N, .int .i64 v10.Label.K, slA (eL (eI .u8)) v10.Front, slA (eL (eI .u8)) v10.Back]
abbrev qZk4 : List AV := [.int .i64 v9.Label.N, .int .i64 v9.Label.K, slA (eL (eI .u8)) v9.Front, slA (eL (eI .u8)) v9.Back]
abbrev qZk5 : Nat × AV := (105, slA (eL (eI .u8)) ((qZjn v11 v12).Back))
abbrev qZk6 : List AV := [.int .i64 0, .int .i64 0, .im (.val (.slice none 0 0)), .im (.val (.slice none 0 0))]
abbrev qZk7 := (⟨x2.Width + (qZjo t1), x2.Height + (qZjt t1), x2.Binding⟩ : S_Format)
abbrev qZk8 : List AV := [.int .i64 (x2.Width + (qZjo t1)), .int .i64 x2.Height, .int .i64 x2.Binding]
abbrev qZk9 := (x6.Back.length : Int)
abbrev qZic : Env := [(2, .bool t2), (7, .bool x1), (13, .rsl 13 0 0 v18.length), (qZjr v7 v8), (15, .int .i64 v12), (16, .int .i64 v19)]
abbrev qZid : Env := [(qZjr v7 v8), (15, .int .i64 v12)]
abbrev qZie : Hp := [(3, ⟨0, true, 27, 10, (qZj8 t0)⟩), (4, ⟨0, true, 29, 4, (qZje t1)⟩), (8, ⟨0, true, 32, 3, (qZjb t1 x2)⟩), (9, ⟨0, true, 39, 4, (qZjg x5)⟩), (5090, rtA 0 41 1 (eL (eI .u8)) x5.Back)]
abbrev qZif : Hp := [(4, ⟨0, true, 29, 4, (qZje t1)⟩), (8, ⟨0, true, 32, 3, (qZjb t1 x2)⟩), (9, ⟨0, true, 39, 4, (qZjg x5)⟩), (10, ⟨0, true, 39, 4, (qZjp x6)⟩), (5090, rtA 0 41 1 (eL (eI .u8)) x5.Back), (5100, rtA 0 41 1 (eL (eI .u8)) x6.Back)]
abbrev qZig : Hp := [(3, ⟨0, true, 27, 10, (qZj8 t0)⟩), (4, ⟨0, true, 29, 4, (qZje t1)⟩), (8, ⟨0, true, 32, 3, (qZjb t1 x2)⟩)]
abbrev qZih : Hp := [(4, ⟨0, true, 29, 4, (qZje t1)⟩), (8, ⟨0, true, 32, 3, (qZjb t1 x2)⟩), (9, ⟨0, true, 39, 4, (qZjg x5)⟩), (10, ⟨0, true, 39, 4, (qZjp x6)⟩), (12, rtA 0 42 1 (eI .u8) (qZjj t1 x6)), (5090, rtA 0 41 1 (eL (eI .u8)) x5.Back), (5100, rtA 0 41 1 (eL (eI .u8)) x6.Back)]
abbrev qZii : Env := [(10, .ref 10 0 0), (9, .ref 9 0 0), (8, .ref 8 0 0), (7, .bool x1), (4, .ref 4 0 0), (2, .bool t2)]
abbrev qZij : Env := (2, .bool t2) :: (7, .bool x1) :: (13, .rsl 13 0 0 (((qZj9 v11 v12).set v12.toNat (qZjh v11 v12)).length)) :: (qZid v7 v8 v12)
abbrev qZik : Env := [(8, .ref 8 0 0), (7, .bool x1), (4, .ref 4 0 0), (3, .ref 3 0 0), (2, .bool t2)]
abbrev qZil : Env := (138, .ipt ([v8, (qZjd v7), (qZjc v7)].flatMap eS_Format) (v19.toNat * 3)) :: (137, .int .i64 v19) :: (136, slA eS_Format [v8, (qZjd v7), (qZjc v7)]) :: (135, .agg (qZjf v12 v18)) :: (134, .ref 13 0 (0 + v12.toNat * 4)) :: (133, .int .i64 v12) :: (132, .rsl 13 0 0 v18.length) :: (18, .int .i64 x24.2) :: (17, .ref 17 0 0) :: (qZic t2 v7 v8 v12 v18 v19 x1)
abbrev qZim : Env := (126, .ipt ([v8, (qZjd v7), (qZjc v7)].flatMap eS_Format) (v19.toNat * 3)) :: (125, .int .i64 v19) :: (124, slA eS_Format [v8, (qZjd v7), (qZjc v7)]) :: (123, .agg (qZjf v12 v18)) :: (122, .ref 13 0 (0 + v12.toNat * 4)) :: (121, .int .i64 v12) :: (120, .rsl 13 0 0 v18.length) :: (116, .bool (decide (v19 < 3))) :: (qZic t2 v7 v8 v12 v18 v19 x1)
abbrev qZin : Env := [(42, .agg (qZj8 t0)), (9, .ref 9 0 0), (8, .ref 8 0 0), (7, .bool x1), (4, .ref 4 0 0), (2, .bool t2)]
abbrev qZio : Env := (11, .int .i64 (qZj6 t1 x6)) :: (qZii t2 x1)
abbrev qZip : Hp := [(4, ⟨0, true, 29, 4, (qZje t1)⟩), (8, ⟨0, true, 32, 3, (qZjb t1 x2)⟩), (9, ⟨0, true, 39, 4, (qZjg x5)⟩), (10, ⟨0, true, 39, 4, (qZjp x6)⟩)]
abbrev qZiq : Hp := [(3, ⟨0, true, 27, 10, (qZj8 t0)⟩), (4, ⟨0, true, 29, 4, (qZje t1)⟩), (8, ⟨0, true, 32, 3, (qZk8 t1 x2)⟩)]
abbrev qZir : Env := (40, .agg (qZj8 t0)) :: (qZik t2 x1)
abbrev qZis : Hp := [(3, ⟨0, true, 27, 10, (qZj8 t0)⟩), (4, ⟨0, true, 29, 4, (qZje t1)⟩), (8, ⟨0, true, 32, 3, [.int .i64 x2.Width, .int .i64 x2.Height, .int .i64 x2.Binding]⟩)]
abbrev qZit : Hp := [(3, ⟨0, true, 27, 10, (qZj8 t0)⟩), (4, ⟨0, true, 29, 4, (qZje t1)⟩)]
abbrev qZiu : Env := [(11, .int .i64 (qZj6 t1 x6)), (10, .ref 10 0 0), (9, .ref 9 0 0), (8, .ref 8 0 0), (7, .bool x1), (4, .ref 4 0 0), (2, .bool t2), (12, .rsl 12 0 0 ((qZjj t1 x6).length))]
abbrev qZiv : Env := (104, .ref 13 0 (0 + v12.toNat * 4 + 3)) :: (103, .ref 13 0 (0 + v12.toNat * 4)) :: (102, .int .i64 v12) :: (101, .rsl 13 0 0 v11.length) :: (100, .int .i64 v12) :: (99, .rsl 13 0 0 v11.length) :: (98, .int .i64 v12) :: (97, .rsl 13 0 0 v11.length) :: (96, .bool t2) :: (2, .bool t2) :: (7, .bool x1) :: (13, .rsl 13 0 0 v11.length) :: (qZid v7 v8 v12)
abbrev qZiw : Hp := [(3, ⟨0, true, 27, 10, (qZj8 t0)⟩)]
abbrev qZix : Env := [(qZjr v7 v8), (13, .rsl 13 0 0 ([v9, v10].length)), (2, .bool t2), (7, .bool x1)]
abbrev qZiy : Env := (2, .bool t2) :: (7, .bool x1) :: (13, .rsl 13 0 0 v11.length) :: (qZid v7 v8 v12)
abbrev qZiz : Env := (2, .bool t2) :: (7, .bool x1) :: (13, .rsl 13 0 0 ((qZj9 v11 v12).length)) :: (qZid v7 v8 v12)
abbrev qZj0 : Env := (71, .int .i64 (qZj6 t1 x6)) :: (70, .rsl 5100 0 0 x6.Back.length) :: (69, .ref 10 0 3) :: (qZio t1 t2 x1 x6)
abbrev qZj1 : Env := (18, .int .i64 x24.2) :: (17, .ref 17 0 0) :: (qZic t2 v7 v8 v12 v18 v19 x1)
abbrev qZj2 : Env := [(2, .bool t2), (4, .ref 4 0 0), (7, .bool x1), (8, .ref 8 0 0)]
abbrev qZj3 : Hp := [(5090, rtA 0 41 1 (eL (eI .u8)) x5.Back), (5100, rtA 0 41 1 (eL (eI .u8)) x6.Back)]
abbrev qZj4 : Env := [(4, .ref 4 0 0), (3, .ref 3 0 0), (2, .bool t2)]
abbrev qZj5 : Env := [(2, .bool t2), (4, .ref 4 0 0), (7, .bool x1), (8, .ref 8 0 0), (9, .ref 9 0 0), (10, .ref 10 0 0)]
end
theorem f_L25_SheetMatchesReference_ok  {t0 : S_Raw} {t1 : List Int} {t2 : Bool} {r : Bool} (H : f_L25_SheetMatchesReference t0 t1 t2 = some r) : QSpec Tryd.prog 3 [.agg [.int .u8 t0.W, .int .u8 t0.H, slA (eL (eI .u8)) t0.Front, slA (eL (eI .u8)) t0.Back, .int .u8 t0.Head.Width, .int .u16 t0.Head.N, .int .u8 t0.Head.K, .bool t0.Head.Back, .int .u16 t0.Head.Ink, .int .u8 t0.Head.Part], .agg [.int .i8 (t1.getD 0 0), .int .i8 (t1.getD 1 0), .int .i8 (t1.getD 2 0), .int .i8 (t1.getD 3 0)], .bool t2] (.bool r) := by
  refine Spec.of_AW Tryd.func3 rfl (by simp [Tryd.ntmps3]) ?_
  rw [Tryd.ntmps3]
  unfold f_L25_SheetMatchesReference at H
  change AW _ _ _ [(0, .agg (qZj8 t0)), (1, .agg (qZje t1)), (2, .bool t2)] [] _
  refine AW.regionSeq (OpsW.box rfl rfl rfl 3 rfl (okCb_sound (by kernel_rfl)) ?_)
  change OpsW _ _ _ _ _ (qZiw t0) _
  refine OpsW.box rfl rfl rfl 4 rfl (okCb_sound (by kernel_rfl)) ?_
  change OpsW _ _ _ _ _ ((4, ⟨0, true, 29, 4, (qZje t1)⟩) :: (qZiw t0)) _
  refine OpsW.sg 1 [4, 3, 2] (qZj4 t2) ?_
  refine OpsW.recast (env' := (qZj4 t2)) (h' := (qZit t0 t1)) (StC.mk (phi [(3, some 3), (4, some 4)]) (.o rfl (.i9 (.cons .im .nil)) (.o rfl (.i4 .nil) .nil)) rfl (.cons (.r rfl) (.cons (.r rfl) (.cons .im .nil)))) ?_
  refine OpsW.nil (AW.regionSeq ?_)
  obtain ⟨x1, hx1, H⟩ := bindS H
  refine OpsW.qcall rfl (by kernel_rfl) rfl rfl (glAll_sound trivial) .nil (f_L25_sanity_ok hx1) rfl ?_
  refine OpsW.sg 1 [7, 4, 3, 2] ((7, .bool x1) :: (qZj4 t2)) ?_
  refine OpsW.nil (AW.regionSeq (OpsW.sg 1 [22, 7, 4, 3, 2] ((22, .agg (qZj8 t0)) :: (7, .bool x1) :: (qZj4 t2)) ?_))
  obtain ⟨x2, hx2, H⟩ := bindS H
  refine OpsW.qcall rfl (by kernel_rfl) rfl rfl (glAll_sound trivial) (.cons (.pur rfl) .nil) (f_R25_Format_ok hx2) rfl ?_
  refine OpsW.alloc' rfl rfl rfl 8 rfl (by kernel_rfl : zc Tryd.prog 32 = some [.int .i64 0, .int .i64 0, .int .i64 0]) (by kernel_rfl) ?_
  refine OpsW.store rfl rfl rfl rfl trivial trivial rfl rfl rfl (by kernel_rfl) (okCb_sound (by kernel_rfl)) (Nat.le_of_ble_eq_true (by kernel_rfl)) ?_
  change OpsW _ _ _ _ _ ((8, ⟨0, true, 32, 3, [.int .i64 x2.Width, .int .i64 x2.Height, .int .i64 x2.Binding]⟩) :: (8, ⟨0, true, 32, 3, [.int .i64 0, .int .i64 0, .int .i64 0]⟩) :: (qZit t0 t1)) _
  refine OpsW.sg 0 [8, 7, 4, 3, 2] (qZik t2 x1) ?_
  refine OpsW.recast (env' := (qZik t2 x1)) (h' := (qZis t0 t1 x2)) (StC.mk (phi [(3, some 3), (4, some 4), (8, some 8)]) (.o rfl (.i9 (.cons .im .nil)) (.o rfl (.i4 .nil) (.o rfl (.i3 .nil) .nil))) rfl (.cons (.r rfl) (.cons .im (.cons (.r rfl) (.cons (.r rfl) (.cons .im .nil)))))) ?_
  refine OpsW.nil (AW.regionSeq ?_)
  obtain ⟨g3, H⟩ := G_some H
  refine OpsW.sq 8 [31, 30, 8, 7, 4, 3, 2] [0 ≤ (0 : Int) ∧ (0 : Int) < (4 : Int), (2 : Int) ≠ 0, inR (x2.Width + (qZjo t1))] ((31, .ref 8 0 0) :: (30, .int .i64 (x2.Width + (qZjo t1))) :: (qZik t2 x1)) ⟨(by decide), (by decide), g3, trivial⟩ ?_
  refine OpsW.store rfl rfl rfl rfl trivial trivial rfl rfl rfl (by kernel_rfl) (okCb_sound (by kernel_rfl)) (Nat.le_of_ble_eq_true (by kernel_rfl)) ?_
  change OpsW _ _ _ _ _ ((8, ⟨0, true, 32, 3, (qZk8 t1 x2)⟩) :: (qZis t0 t1 x2)) _
  refine OpsW.sg 0 [8, 7, 4, 3, 2] (qZik t2 x1) ?_
  refine OpsW.recast (env' := (qZik t2 x1)) (h' := (qZiq t0 t1 x2)) (StC.mk (phi [(3, some 3), (4, some 4), (8, some 8)]) (.o rfl (.i9 (.cons .im .nil)) (.o rfl (.i4 .nil) (.o rfl (.i3 .nil) .nil))) rfl (.cons (.r rfl) (.cons .im (.cons (.r rfl) (.cons (.r rfl) (.cons .im .nil)))))) ?_
  refine OpsW.nil (AW.regionSeq ?_)
  obtain ⟨g4, H⟩ := G_some H
  refine OpsW.sq 8 [39, 38, 8, 7, 4, 3, 2] [0 ≤ (1 : Int) ∧ (1 : Int) < (4 : Int), (2 : Int) ≠ 0, inR (x2.Height + (qZjt t1))] ((39, .ref 8 0 1) :: (38, .int .i64 (x2.Height + (qZjt t1))) :: (qZik t2 x1)) ⟨(by decide), (by decide), g4, trivial⟩ ?_
  refine OpsW.store rfl rfl rfl rfl trivial trivial rfl rfl rfl (by kernel_rfl) (okCb_sound (by kernel_rfl)) (Nat.le_of_ble_eq_true (by kernel_rfl)) ?_
  change OpsW _ _ _ _ _ ((8, ⟨0, true, 32, 3, (qZjb t1 x2)⟩) :: (qZiq t0 t1 x2)) _
  refine OpsW.sg 0 [8, 7, 4, 3, 2] (qZik t2 x1) ?_
  refine OpsW.recast (env' := (qZik t2 x1)) (h' := (qZig t0 t1 x2)) (StC.mk (phi [(3, some 3), (4, some 4), (8, some 8)]) (.o rfl (.i9 (.cons .im .nil)) (.o rfl (.i4 .nil) (.o rfl (.i3 .nil) .nil))) rfl (.cons (.r rfl) (.cons .im (.cons (.r rfl) (.cons (.r rfl) (.cons .im .nil)))))) ?_
  refine OpsW.nil (AW.regionSeq (OpsW.sg 1 [40, 8, 7, 4, 3, 2] (qZir t0 t2 x1) ?_))
  obtain ⟨x5, hx5, H⟩ := bindS H
  refine OpsW.call rfl rfl (by kernel_rfl) [] _ _ rfl (glAll_sound trivial) (.cons (.pur rfl) .nil) (f_R25_Pages_own hx5) ?_
  rintro _ _ ⟨rfl, rfl⟩
  refine ⟨fresh_of (by kernel_rfl), .inl rfl, ?_⟩
  change OpsW _ _ _ _ ((41, .agg (qZjy x5)) :: (qZir t0 t2 x1)) ((1000, ⟨0, true, 39, 4, (qZjy x5)⟩) :: (1500, rtA 0 41 1 (eL (eI .u8)) x5.Back) :: (qZig t0 t1 x2)) _
  refine OpsW.recast (env' := ((41, .agg (qZk1 x5)) :: (qZir t0 t2 x1))) (h' := ((601, rtA 0 41 1 (eL (eI .u8)) x5.Back) :: (qZig t0 t1 x2))) (StC.mk (phi [(601, some 1500), (3, some 3), (4, some 4), (8, some 8)]) (.o rfl (CstL.ims _) (.o rfl (.i9 (.cons .im .nil)) (.o rfl (.i4 .nil) (.o rfl (.i3 .nil) .nil)))) rfl (.cons (.agg (.i3 (.cons (.s rfl) .nil))) (.cons (.agg (.i9 (.cons .im .nil))) (.cons (.r rfl) (.cons .im (.cons (.r rfl) (.cons (.r rfl) (.cons .im .nil)))))))) ?_
  refine OpsW.alloc' rfl rfl rfl 9 rfl (by kernel_rfl : zc Tryd.prog 39 = some [.int .i64 0, .int .i64 0, .slice none 0 0, .slice none 0 0]) (by kernel_rfl) ?_
  refine OpsW.store rfl rfl rfl rfl trivial trivial rfl rfl rfl (by kernel_rfl) (okCb_sound (by kernel_rfl)) (Nat.le_of_ble_eq_true (by kernel_rfl)) ?_
  change OpsW _ _ _ _ _ ((9, ⟨0, true, 39, 4, (qZk1 x5)⟩) :: (9, ⟨0, true, 39, 4, qZk6⟩) :: (601, rtA 0 41 1 (eL (eI .u8)) x5.Back) :: (qZig t0 t1 x2)) _
  refine OpsW.sg 0 [9, 8, 7, 4, 3, 2] ((9, .ref 9 0 0) :: (qZik t2 x1)) ?_
  refine OpsW.recast (env' := ((9, .ref 9 0 0) :: (qZik t2 x1))) (h' := (qZie t0 t1 x2 x5)) (StC.mk (phi [(3, some 3), (4, some 4), (8, some 8), (9, some 9), (5090, some 601)]) (.o rfl (.i9 (.cons .im .nil)) (.o rfl (.i4 .nil) (.o rfl (.i3 .nil) (.o rfl (.i3 (.cons (.s rfl) .nil)) (.o rfl (CstL.ims _) .nil))))) rfl (.cons (.r rfl) (.cons (.r rfl) (.cons .im (.cons (.r rfl) (.cons (.r rfl) (.cons .im .nil))))))) ?_
  refine OpsW.nil (AW.regionSeq (OpsW.sg 1 [42, 9, 8, 7, 4, 2] (qZin t0 t2 x1) ?_))
  obtain ⟨x6, hx6, H⟩ := bindS H
  refine OpsW.call rfl rfl (by kernel_rfl) [] _ _ rfl (glAll_sound trivial) (.cons (.pur rfl) .nil) (f_R25_Pages_own hx6) ?_
  rintro _ _ ⟨rfl, rfl⟩
  refine ⟨fresh_of (by kernel_rfl), .inl rfl, ?_⟩
  change OpsW _ _ _ _ ((43, .agg (qZjz x6)) :: (qZin t0 t2 x1)) ((1000, ⟨0, true, 39, 4, (qZjz x6)⟩) :: (1500, rtA 0 41 1 (eL (eI .u8)) x6.Back) :: (qZie t0 t1 x2 x5)) _
  refine OpsW.recast (env' := ((43, .agg (qZk2 x6)) :: (qZin t0 t2 x1))) (h' := ((601, rtA 0 41 1 (eL (eI .u8)) x6.Back) :: (qZie t0 t1 x2 x5))) (StC.mk (phi [(601, some 1500), (3, some 3), (4, some 4), (8, some 8), (9, some 9), (5090, some 5090)]) (.o rfl (CstL.ims _) (.o rfl (.i9 (.cons .im .nil)) (.o rfl (.i4 .nil) (.o rfl (.i3 .nil) (.o rfl (.i3 (.cons (.s rfl) .nil)) (.o rfl (CstL.ims _) .nil)))))) rfl (.cons (.agg (.i3 (.cons (.s rfl) .nil))) (.cons (.agg (.i9 (.cons .im .nil))) (.cons (.r rfl) (.cons (.r rfl) (.cons .im (.cons (.r rfl) (.cons .im .nil)))))))) ?_
  refine OpsW.alloc' rfl rfl rfl 10 rfl (by kernel_rfl : zc Tryd.prog 39 = some [.int .i64 0, .int .i64 0, .slice none 0 0, .slice none 0 0]) (by kernel_rfl) ?_
  refine OpsW.store rfl rfl rfl rfl trivial trivial rfl rfl rfl (by kernel_rfl) (okCb_sound (by kernel_rfl)) (Nat.le_of_ble_eq_true (by kernel_rfl)) ?_
  change OpsW _ _ _ _ _ ((10, ⟨0, true, 39, 4, (qZk2 x6)⟩) :: (10, ⟨0, true, 39, 4, qZk6⟩) :: (601, rtA 0 41 1 (eL (eI .u8)) x6.Back) :: (qZie t0 t1 x2 x5)) _
  refine OpsW.sg 0 [10, 9, 8, 7, 4, 2] (qZii t2 x1) ?_
  refine OpsW.recast (env' := (qZii t2 x1)) (h' := (qZif t1 x2 x5 x6)) (StC.mk (phi [(4, some 4), (8, some 8), (9, some 9), (10, some 10), (5090, some 5090), (5100, some 601)]) (.o rfl (.i4 .nil) (.o rfl (.i3 .nil) (.o rfl (.i3 (.cons (.s rfl) .nil)) (.o rfl (.i3 (.cons (.s rfl) .nil)) (.o rfl (CstL.ims _) (.o rfl (CstL.ims _) .nil)))))) rfl (.cons (.r rfl) (.cons (.r rfl) (.cons (.r rfl) (.cons .im (.cons (.r rfl) (.cons .im .nil))))))) ?_
  refine OpsW.nil ?_
  refine AW.joinK (fun (y : (List Int) × S_Format × S_Leaf × S_Leaf) => f_L25_SheetMatchesReference_k3 t2 x1 y.1 y.2.1 y.2.2.1 y.2.2.2) r (fun (y : (List Int) × S_Format × S_Leaf × S_Leaf) => (qZj5 t2 x1)) (fun (y : (List Int) × S_Format × S_Leaf × S_Leaf) => [(4, ⟨0, true, 29, 4, [.int .i8 (y.1.getD 0 0), .int .i8 (y.1.getD 1 0), .int .i8 (y.1.getD 2 0), .int .i8 (y.1.getD 3 0)]⟩), (8, ⟨0, true, 32, 3, [.int .i64 y.2.1.Width, .int .i64 y.2.1.Height, .int .i64 y.2.1.Binding]⟩), (9, ⟨0, true, 39, 4, [.int .i64 y.2.2.1.Label.N, .int .i64 y.2.2.1.Label.K, slA (eL (eI .u8)) y.2.2.1.Front, .rsl 5090 0 0 y.2.2.1.Back.length]⟩), (5090, rtA 0 41 1 (eL (eI .u8)) y.2.2.1.Back), (10, ⟨0, true, 39, 4, [.int .i64 y.2.2.2.Label.N, .int .i64 y.2.2.2.Label.K, slA (eL (eI .u8)) y.2.2.2.Front, .rsl 5100 0 0 y.2.2.2.Back.length]⟩), (5100, rtA 0 41 1 (eL (eI .u8)) y.2.2.2.Back)]) ?_ ?_
  · refine AW.regionSeq (OpsW.sq 10 [53, 10, 9, 8, 7, 4, 2] [0 ≤ (2 : Int) ∧ (2 : Int) < (4 : Int), (4 : Int) ≠ 0, (qZjk t1) = true → (qZjk t1) = true, (qZjk t1) = true → (qZjk t1) = true, (qZjk t1) = true → (qZjk t1) = true, (qZjk t1) = true → (qZjk t1) = true] ((53, .bool (cond (qZjk t1) (decide ((0 : Int) < (qZk9 x6))) false)) :: (qZii t2 x1)) ⟨(by decide), (by decide), (fun h => h), (fun h => h), (fun h => h), (fun h => by first | exact h | (simpa using h) | grind), trivial⟩ ?_)
    refine OpsW.nil (AW.cond (b := cond (qZjk t1) (decide ((0 : Int) < (qZk9 x6))) false) rfl (fun c32 => ?_) (fun c32 => ?_))
    · replace H := condT c32 H
      refine AW.regionSeq ?_
      obtain ⟨g33, H⟩ := G_some H
      refine OpsW.sq 9 [11, 10, 9, 8, 7, 4, 2] [0 ≤ (3 : Int) ∧ (3 : Int) < (4 : Int), (qZk9 x6) ≠ 0] (qZio t1 t2 x1 x6) ⟨(by decide), g33, trivial⟩ ?_
      refine OpsW.nil (AW.regionSeq (OpsW.buildT (enc := eI .u8) ([] : List Int) rfl rfl rfl 62 rfl E41 (fun _ => rfl) (by decide) trivial (by kernel_rfl) (by kernel_rfl) (by kernel_rfl) rfl ?_))
      obtain ⟨g34, H⟩ := G_some H
      refine OpsW.sq 4 [66, 62, 11, 10, 9, 8, 7, 4, 2] [0 ≤ (qZj6 t1 x6) ∧ (qZj6 t1 x6) < (qZk9 x6)] ((66, .ref 5100 0 (0 + (qZj6 t1 x6).toNat * 1)) :: (62, .rsl 62 0 0 (([] : List Int).length)) :: (qZio t1 t2 x1 x6)) ⟨g34, trivial⟩ ?_
      refine OpsW.asU (slA (eI .u8) (x6.Back.getD (qZj6 t1 x6).toNat [])) rfl rfl (T.loadR rfl trivial (by kernel_rfl) rfl rfl rfl (rt_cell (eL (eI .u8)) 1 (fun _ => rfl) x6.Back [] (qZj6 t1 x6).toNat (ltN g34) 0 (fun a => .sl (a.flatMap (eI .u8)) a.length) (fun _ => rfl) (by first | omega | (simp only [qZj6, qZk9]; omega)))) ?_
      obtain ⟨g35, H⟩ := G_some H
      refine OpsW.appendF (enc := eI .u8) (ys := x6.Back.getD (qZj6 t1 x6).toNat []) rfl rfl rfl E41 (fun _ => rfl) rfl rfl trivial (SrcA.typed (enc := eI .u8) (fun _ => rfl) (by kernel_rfl) (x6.Back.getD (qZj6 t1 x6).toNat [])) rfl g35 ?_
      refine OpsW.sg 1 [12, 11, 10, 9, 8, 7, 4, 2] ((12, .rsl 62 1 0 ((qZjj t1 x6).length)) :: (qZio t1 t2 x1 x6)) ?_
      refine OpsW.recast (env' := ((12, .rsl 12 0 0 ((qZjj t1 x6).length)) :: (qZio t1 t2 x1 x6))) (h' := (qZih t1 x2 x5 x6)) (StC.mk (phi [(4, some 4), (8, some 8), (9, some 9), (10, some 10), (12, some 62), (5090, some 5090), (5100, some 5100)]) (.o rfl (.i4 .nil) (.o rfl (.i3 .nil) (.o rfl (.i3 (.cons (.s rfl) .nil)) (.o rfl (.i3 (.cons (.s rfl) .nil)) (.o rfl (CstL.ims _) (.o rfl (CstL.ims _) (.o rfl (CstL.ims _) .nil))))))) rfl (.cons (.s rfl) (.cons .im (.cons (.r rfl) (.cons (.r rfl) (.cons (.r rfl) (.cons .im (.cons (.r rfl) (.cons .im .nil))))))))) ?_
      refine OpsW.nil (AW.trim [11, 10, 9, 8, 7, 4, 2, 12] (qZiu t1 t2 x1 x6) (by kernel_rfl) ?_)
      refine AW.drawY (h := (qZif t1 x2 x5 x6)) (env := (qZio t1 t2 x1 x6)) [(12, .rsl 12 0 0 ((qZjj t1 x6).length))] (qZih t1 x2 x5 x6) 9 [(3, 12, []), (8, 12, [])] Tryd.checked.mixed (by kernel_rfl) (by kernel_rfl) (sub_ins (h1 := (qZip t1 x2 x5 x6)) (h2 := (qZj3 x5 x6)) rfl) (.cons rfl (.cons rfl (.cons rfl (.cons rfl (.ims (x5.Back.flatMap (eL (eI .u8))) rfl (.ims (x6.Back.flatMap (eL (eI .u8))) rfl .nil)))))) (pin_ins (h1 := (qZip t1 x2 x5 x6)) (h2 := (qZj3 x5 x6)) rfl) (envIn_rd (by kernel_rfl)) ?_
      refine DOpsY.q 3 (by kernel_rfl) ?_
      refine QOps.seg (N := 153) 3 [] (qZj0 t1 t2 x1 x6) (by kernel_rfl) trivial ?_
      refine QOps.nil (DOpsY.e 12 rfl rfl rfl (by exact fun g hg hb => RStep.move rfl ((hg 12 (List.Mem.head _)).trans rfl)) ?_)
      refine DOpsY.q 4 (by kernel_rfl) ?_
      refine QOps.seg (N := 153) 3 [0 ≤ (2 : Int) ∧ (2 : Int) < (4 : Int)] ((75, .int .u8 (IntKind.wrap .u8 (t1.getD 2 0))) :: (74, .int .i8 (t1.getD 2 0)) :: (73, .ref 4 0 2) :: (72, .rsl 12 0 0 ((qZjj t1 x6).length)) :: (qZj0 t1 t2 x1 x6)) (by kernel_rfl) ⟨(by decide), trivial⟩ ?_
      refine QOps.buildTI (enc := eI .u8) [IntKind.wrap .u8 (t1.getD 2 0)] rfl rfl E41 (fun _ => rfl) (by decide) ⟨trivial, by kernel_rfl, by kernel_rfl, by kernel_rfl, rfl⟩ ?_
      refine QOps.nil ?_
      obtain ⟨g36, H⟩ := G_some H
      refine DOpsY.e 12 rfl rfl rfl (by exact fun g hg hb => RStep.appendF (s := .tmp 72) (x := .tmp 76) (enc := eI .u8) (ys := [IntKind.wrap .u8 (t1.getD 2 0)]) rfl E41 (fun _ => rfl) rfl ((hg 12 (List.Mem.head _)).trans rfl) trivial (SrcA.typed (enc := eI .u8) (fun _ => rfl) (by kernel_rfl) [IntKind.wrap .u8 (t1.getD 2 0)]) rfl g36) ?_
      refine DOpsY.nil ?_
      change OpsW _ _ _ _ ((77, .rsl 12 1 0 ((qZja t1 x6).length)) :: (76, slA (eI .u8) [IntKind.wrap .u8 (t1.getD 2 0)]) :: (75, .int .u8 (IntKind.wrap .u8 (t1.getD 2 0))) :: (74, .int .i8 (t1.getD 2 0)) :: (73, .ref 4 0 2) :: (72, .rsl 12 0 0 ((qZjj t1 x6).length)) :: (71, .int .i64 (qZj6 t1 x6)) :: (70, .rsl 5100 0 0 x6.Back.length) :: (69, .ref 10 0 3) :: (qZiu t1 t2 x1 x6)) ((12, rtA 1 42 1 (eI .u8) (qZja t1 x6)) :: (12, rtA 0 42 1 (eI .u8) (qZjj t1 x6)) :: (qZih t1 x2 x5 x6)) _
      refine OpsW.sg 0 [77, 71, 70, 10, 9, 8, 7, 4, 2] ((77, .rsl 12 1 0 ((qZja t1 x6).length)) :: (71, .int .i64 (qZj6 t1 x6)) :: (70, .rsl 5100 0 0 x6.Back.length) :: (qZii t2 x1)) ?_
      refine OpsW.sq 1 [78, 77, 10, 9, 8, 7, 4, 2] [0 ≤ (qZj6 t1 x6) ∧ (qZj6 t1 x6) < (qZk9 x6)] ((78, .ref 5100 0 (0 + (qZj6 t1 x6).toNat * 1)) :: (77, .rsl 12 1 0 ((qZja t1 x6).length)) :: (qZii t2 x1)) ⟨g34, trivial⟩ ?_
      refine OpsW.recast (env' := ((78, .ref 5100 0 (0 + (qZj6 t1 x6).toNat * 1)) :: (77, slA (eI .u8) (qZja t1 x6)) :: (qZii t2 x1))) (h' := (qZif t1 x2 x5 x6)) (StC.mk (phi [(4, some 4), (8, some 8), (9, some 9), (10, some 10), (5090, some 5090), (5100, some 5100)]) (.o rfl (.i4 .nil) (.o rfl (.i3 .nil) (.o rfl (.i3 (.cons (.s rfl) .nil)) (.o rfl (.i3 (.cons (.s rfl) .nil)) (.o rfl (CstL.ims _) (.o rfl (CstL.ims _) .nil)))))) rfl (.cons (.r rfl) (.cons (.frz rfl rfl rfl (frz_all (eI .u8) 1 (fun _ => rfl) (qZja t1 x6)) (fm_length (eI .u8) 1 (fun _ => rfl) (qZja t1 x6)) (phi_ne rfl)) (.cons (.r rfl) (.cons (.r rfl) (.cons (.r rfl) (.cons .im (.cons (.r rfl) (.cons .im .nil))))))))) ?_
      refine OpsW.storeT (enc := eL (eI .u8)) (k := 1) [] (qZja t1 x6) [.sl ((qZja t1 x6).flatMap (eI .u8)) (qZja t1 x6).length] (qZj6 t1 x6).toNat 0 rfl rfl rfl (by exact congrArg (AV.ref 5100 0) (by first | omega | rfl | (simp only [qZj6, qZja, qZjj, qZk9]; omega) | (simp; omega))) trivial trivial rfl (fun _ => rfl) rfl (by kernel_rfl) (okCb_sound (by kernel_rfl)) (ltN g34) (Nat.le_of_ble_eq_true (by kernel_rfl)) rfl ?_
      refine OpsW.heapEq (h := ((5100, rtA 0 41 1 (eL (eI .u8)) (qZju t1 x6)) :: (qZif t1 x2 x5 x6))) (h' := ((5100, rtA 0 41 1 (eL (eI .u8)) (qZju t1 x6)) :: (4, ⟨0, true, 29, 4, (qZje t1)⟩) :: (8, ⟨0, true, 32, 3, (qZjb t1 x2)⟩) :: (9, ⟨0, true, 39, 4, (qZjg x5)⟩) :: (10, ⟨0, true, 39, 4, (qZjx t1 x6)⟩) :: (qZj3 x5 x6))) (fun q_ => by simp only [List.length_set, List.length_reverse, qZj6, qZja, qZjb, qZje, qZjg, qZjj, qZjp, qZju, qZjx, qZk9, qZif, qZih, qZii, qZiu, qZj3]) ?_
      refine OpsW.sg 0 [10, 9, 8, 7, 4, 2] (qZii t2 x1) ?_
      refine OpsW.recast (env' := (qZii t2 x1)) (h' := [(4, ⟨0, true, 29, 4, (qZje t1)⟩), (8, ⟨0, true, 32, 3, (qZjb t1 x2)⟩), (9, ⟨0, true, 39, 4, (qZjg x5)⟩), (10, ⟨0, true, 39, 4, (qZjx t1 x6)⟩), (5090, rtA 0 41 1 (eL (eI .u8)) x5.Back), (5100, rtA 0 41 1 (eL (eI .u8)) (qZju t1 x6))]) (StC.mk (phi [(4, some 4), (8, some 8), (9, some 9), (10, some 10), (5090, some 5090), (5100, some 5100)]) (.o rfl (.i4 .nil) (.o rfl (.i3 .nil) (.o rfl (.i3 (.cons (.s rfl) .nil)) (.o rfl (.i3 (.cons (.s rfl) .nil)) (.o rfl (CstL.ims _) (.o rfl (CstL.ims _) .nil)))))) rfl (.cons (.r rfl) (.cons (.r rfl) (.cons (.r rfl) (.cons .im (.cons (.r rfl) (.cons .im .nil))))))) ?_
      refine OpsW.nil ?_
      show ∃ y, _ ∧ StC _ _ _ _
      exact ⟨([(t1.getD 0 0), (t1.getD 1 0), (t1.getD 2 0), (t1.getD 3 0)], (qZk7 t1 x2), x5, (⟨x6.Label, x6.Front, x6.Back.set (qZj6 t1 x6).toNat (qZja t1 x6)⟩ : S_Leaf)), H, (StC.mk (phi [(4, some 4), (8, some 8), (9, some 9), (5090, some 5090), (10, some 10), (5100, some 5100)]) (.o rfl (.i4 .nil) (.o rfl (.i3 .nil) (.o rfl (.i3 (.cons (.s rfl) .nil)) (.o rfl (CstL.ims _) (.o rfl (.i3 (.cons (.s rfl) .nil)) (.o rfl (CstL.ims _) .nil)))))) rfl (.cons .im (.cons (.r rfl) (.cons .im (.cons (.r rfl) (.cons (.r rfl) (.cons (.r rfl) .nil)))))))⟩
    replace H := condF c32 H
    refine AW.skip ?_
    show ∃ y, _ ∧ StC _ _ _ _
    exact ⟨([(t1.getD 0 0), (t1.getD 1 0), (t1.getD 2 0), (t1.getD 3 0)], (qZk7 t1 x2), x5, x6), H, (StC.mk (phi [(4, some 4), (8, some 8), (9, some 9), (5090, some 5090), (10, some 10), (5100, some 5100)]) (.o rfl (.i4 .nil) (.o rfl (.i3 .nil) (.o rfl (.i3 (.cons (.s rfl) .nil)) (.o rfl (CstL.ims _) (.o rfl (.i3 (.cons (.s rfl) .nil)) (.o rfl (CstL.ims _) .nil)))))) rfl (.cons .im (.cons (.r rfl) (.cons .im (.cons (.r rfl) (.cons (.r rfl) (.cons (.r rfl) .nil)))))))⟩
  rintro ⟨v7, v8, v9, v10⟩ H
  change f_L25_SheetMatchesReference_k3 t2 x1 v7 v8 v9 v10 = some r at H
  unfold f_L25_SheetMatchesReference_k3 at H
  change AW _ _ _ (qZj5 t2 x1) [(4, ⟨0, true, 29, 4, (qZjq v7)⟩), (8, ⟨0, true, 32, 3, (qZjs v8)⟩), (9, ⟨0, true, 39, 4, (qZk0 v9)⟩), (5090, rtA 0 41 1 (eL (eI .u8)) v9.Back), (10, ⟨0, true, 39, 4, (qZjw v10)⟩), (5100, rtA 0 41 1 (eL (eI .u8)) v10.Back)] _
  refine AW.regionSeq (OpsW.sg 2 [80, 79, 2, 4, 7, 8] ((80, .agg (qZjw v10)) :: (79, .agg (qZk0 v9)) :: (qZj2 t2 x1)) ?_)
  refine OpsW.recast (env' := ((80, .agg (qZk3 v10)) :: (79, .agg (qZk4 v9)) :: (qZj2 t2 x1))) (h' := [(4, ⟨0, true, 29, 4, (qZjq v7)⟩), (8, ⟨0, true, 32, 3, (qZjs v8)⟩), (9, ⟨0, true, 39, 4, (qZk4 v9)⟩), (10, ⟨0, true, 39, 4, (qZk3 v10)⟩)]) (StC.mk (phi [(4, some 4), (8, some 8), (9, some 9), (10, some 10)]) (.o rfl (.i4 .nil) (.o rfl (.i3 .nil) (.o rfl (.i3 (.cons (.frz rfl rfl rfl (frz_all (eL (eI .u8)) 1 (fun _ => rfl) v9.Back) (fm_length (eL (eI .u8)) 1 (fun _ => rfl) v9.Back) (phi_ne rfl)) .nil)) (.o rfl (.i3 (.cons (.frz rfl rfl rfl (frz_all (eL (eI .u8)) 1 (fun _ => rfl) v10.Back) (fm_length (eL (eI .u8)) 1 (fun _ => rfl) v10.Back) (phi_ne rfl)) .nil)) .nil)))) rfl (.cons (.agg (.i3 (.cons (.frz rfl rfl rfl (frz_all (eL (eI .u8)) 1 (fun _ => rfl) v10.Back) (fm_length (eL (eI .u8)) 1 (fun _ => rfl) v10.Back) (phi_ne rfl)) .nil))) (.cons (.agg (.i3 (.cons (.frz rfl rfl rfl (frz_all (eL (eI .u8)) 1 (fun _ => rfl) v9.Back) (fm_length (eL (eI .u8)) 1 (fun _ => rfl) v9.Back) (phi_ne rfl)) .nil))) (.cons .im (.cons (.r rfl) (.cons .im (.cons (.r rfl) .nil))))))) ?_
  refine OpsW.buildT (enc := eS_Leaf) [v9, v10] rfl rfl rfl 81 rfl E43 (fun _ => rfl) (by decide) trivial (by kernel_rfl) (by kernel_rfl) (by kernel_rfl) rfl ?_
  refine OpsW.sg 1 [13, 2, 4, 7, 8] ((13, .rsl 81 0 0 ([v9, v10].length)) :: (qZj2 t2 x1)) ?_
  refine OpsW.recast (env' := ((13, .rsl 13 0 0 ([v9, v10].length)) :: (qZj2 t2 x1))) (h' := [(4, ⟨0, true, 29, 4, (qZjq v7)⟩), (8, ⟨0, true, 32, 3, (qZjs v8)⟩), (13, rtA 0 39 4 eS_Leaf [v9, v10])]) (StC.mk (phi [(4, some 4), (8, some 8), (13, some 81)]) (.o rfl (.i4 .nil) (.o rfl (.i3 .nil) (.o rfl (CstL.ims _) .nil))) rfl (.cons (.s rfl) (.cons .im (.cons (.r rfl) (.cons .im (.cons (.r rfl) .nil)))))) ?_
  refine OpsW.nil (AW.regionSeq (OpsW.sq 9 [90, 86, 82, 13, 2, 7] [0 ≤ (0 : Int) ∧ (0 : Int) < (4 : Int), 0 ≤ (1 : Int) ∧ (1 : Int) < (4 : Int)] [(90, .agg [.int .i64 30, .int .i64 (IntKind.wrap .i64 (v7.getD 1 0)), .int .i64 0]), (86, .agg [.int .i64 (IntKind.wrap .i64 (v7.getD 0 0)), .int .i64 5, .int .i64 0]), (82, .agg (qZjs v8)), (13, .rsl 13 0 0 ([v9, v10].length)), (2, .bool t2), (7, .bool x1)] ⟨(by decide), (by decide), trivial⟩ ?_))
  refine OpsW.buildTI (enc := eS_Format) [v8, (qZjd v7), (qZjc v7)] rfl rfl rfl E44 (fun _ => rfl) (by decide) ⟨trivial, by kernel_rfl, by kernel_rfl, by kernel_rfl, rfl⟩ ?_
  refine OpsW.sg 1 [14, 13, 2, 7] (qZix t2 v7 v8 v9 v10 x1) ?_
  refine OpsW.nil (AW.seq (AW.regionSeq (OpsW.sg 1 [15, 14, 13, 2, 7] ((15, .int .i64 0) :: (qZix t2 v7 v8 v9 v10 x1)) ?_)))
  refine OpsW.nil (AW.block ?_)
  refine AW.iterK (fun loop (s : (List S_Leaf) × Int) => f_L25_SheetMatchesReference_b2 t2 x1 v7 v8 loop s.1 s.2) r (fun (s : (List S_Leaf) × Int) => [(2, .bool t2), (7, .bool x1), (13, .rsl 13 0 0 s.1.length), (qZjr v7 v8), (15, .int .i64 s.2)]) (fun (s : (List S_Leaf) × Int) => [(13, rtA 0 39 4 eS_Leaf s.1)]) ?_ 1000000 ([v9, v10], (0 : Int)) H (StC.mk (phi [(13, some 13)]) (.o rfl (CstL.ims _) .nil) rfl (.i2 (.cons (.s rfl) (.i2 .nil))))
  intro loop13 s H
  obtain ⟨v11, v12⟩ := s
  change f_L25_SheetMatchesReference_b2 t2 x1 v7 v8 loop13 v11 v12 = some r at H
  unfold f_L25_SheetMatchesReference_b2 at H
  change AW _ _ _ (qZiy t2 v7 v8 v11 v12 x1) [(13, rtA 0 39 4 eS_Leaf v11)] _
  refine AW.seq (AW.regionSeq (OpsW.sg 2 [93, 2, 7, 13, 14, 15] ((93, .bool (decide (v12 < 2))) :: (qZiy t2 v7 v8 v11 v12 x1)) ?_))
  refine OpsW.nil (AW.cond (b := decide (v12 < 2)) rfl (fun c14 => ?_) (fun c14 => ?_))
  · replace H := condT c14 H
    refine AW.skip ?_
    refine AW.joinK (fun (y : (List S_Leaf)) => f_L25_SheetMatchesReference_k1 loop13 v12 y) r (fun (y : (List S_Leaf)) => ((2, .bool t2) :: (7, .bool x1) :: (13, .rsl 13 0 0 y.length) :: (qZid v7 v8 v12))) (fun (y : (List S_Leaf)) => [(13, rtA 0 39 4 eS_Leaf y)]) ?_ ?_
    · refine AW.block ?_
      refine AW.joinK (fun (y : (List S_Leaf)) => f_L25_SheetMatchesReference_k2 v7 v8 loop13 v12 y) r (fun (y : (List S_Leaf)) => ((2, .bool t2) :: (7, .bool x1) :: (13, .rsl 13 0 0 y.length) :: (qZid v7 v8 v12))) (fun (y : (List S_Leaf)) => [(13, rtA 0 39 4 eS_Leaf y)]) ?_ ?_
      · refine AW.regionSeq (OpsW.sg 1 [96, 2, 7, 13, 14, 15] ((96, .bool t2) :: (qZiy t2 v7 v8 v11 v12 x1)) ?_)
        refine OpsW.nil (AW.cond (b := t2) rfl (fun c29 => ?_) (fun c29 => ?_))
        · replace H := condT c29 H
          refine AW.drawP 14 [0, 1, 2, 3, 4, 5, 9, 10] Tryd.checked.mixed (by kernel_rfl) (by kernel_rfl) ?_
          obtain ⟨g30, H⟩ := G_some H
          refine QOps.seg (N := 153) 8 [0 ≤ v12 ∧ v12 < (v11.length : Int)] (qZiv t2 v7 v8 v11 v12 x1) (by kernel_rfl) ⟨g30, trivial⟩ ?_
          refine QOps.asU (slA (eL (eI .u8)) ((qZjn v11 v12).Back)) rfl (T.loadR rfl trivial (by kernel_rfl) rfl rfl rfl (rt_cell eS_Leaf 4 (fun _ => rfl) v11 zS_Leaf v12.toNat (ltN g30) 3 (fun a => .sl (a.Back.flatMap (eL (eI .u8))) a.Back.length) (fun _ => rfl) (by first | omega | (simp only [qZjc, qZjd, qZjn]; omega)))) ?_
          refine QOps.seg (N := 153) 4 [0 ≤ v12 ∧ v12 < (v11.length : Int)] ((109, .ref 13 0 (0 + v12.toNat * 4 + 2)) :: (108, .ref 13 0 (0 + v12.toNat * 4)) :: (107, .int .i64 v12) :: (106, .rsl 13 0 0 v11.length) :: (qZk5 v11 v12) :: (qZiv t2 v7 v8 v11 v12 x1)) (by kernel_rfl) ⟨g30, trivial⟩ ?_
          refine QOps.asU (slA (eL (eI .u8)) ((qZjn v11 v12).Front)) rfl (T.loadR rfl trivial (by kernel_rfl) rfl rfl rfl (rt_cell eS_Leaf 4 (fun _ => rfl) v11 zS_Leaf v12.toNat (ltN g30) 2 (fun a => .sl (a.Front.flatMap (eL (eI .u8))) a.Front.length) (fun _ => rfl) (by first | omega | (simp only [qZjc, qZjd, qZjn]; omega)))) ?_
          refine QOps.nil (OpsW.sg 0 [110, 105, 100, 99, 98, 97, 2, 7, 13, 14, 15] ((qZjv v11 v12) :: (qZk5 v11 v12) :: (100, .int .i64 v12) :: (99, .rsl 13 0 0 v11.length) :: (98, .int .i64 v12) :: (97, .rsl 13 0 0 v11.length) :: (qZiy t2 v7 v8 v11 v12 x1)) ?_)
          refine OpsW.sq 2 [112, 110, 105, 100, 99, 2, 7, 13, 14, 15] [0 ≤ v12 ∧ v12 < (v11.length : Int)] ((112, .ref 13 0 (0 + v12.toNat * 4 + 2)) :: (qZjv v11 v12) :: (qZk5 v11 v12) :: (100, .int .i64 v12) :: (99, .rsl 13 0 0 v11.length) :: (qZiy t2 v7 v8 v11 v12 x1)) ⟨g30, trivial⟩ ?_
          refine OpsW.storeT (enc := eS_Leaf) (k := 4) zS_Leaf (⟨(qZjn v11 v12).Label, (qZjn v11 v12).Back, (qZjn v11 v12).Back⟩ : S_Leaf) [.sl (((qZjn v11 v12).Back).flatMap (eL (eI .u8))) ((qZjn v11 v12).Back).length] v12.toNat 2 rfl rfl rfl (by exact congrArg (AV.ref 13 0) (by first | omega | rfl | (simp only [qZjc, qZjd, qZjn]; omega) | (simp; omega))) trivial trivial rfl (fun _ => rfl) rfl (by kernel_rfl) (okCb_sound (by kernel_rfl)) (ltN g30) (Nat.le_of_ble_eq_true (by kernel_rfl)) rfl ?_
          refine OpsW.weaken ((112, .ref 13 0 (0 + v12.toNat * 4 + 2)) :: (qZjv v11 v12) :: (qZk5 v11 v12) :: (100, .int .i64 v12) :: (99, .rsl 13 0 0 ((qZj9 v11 v12).length)) :: (qZiz t2 v7 v8 v11 v12 x1)) (Env.le_of_eq (by first | (simp only [List.length_set, List.length_reverse]; done) | (simp only [qZj9, qZjc, qZjd, qZjn, qZjr, qZjv, qZk5, qZid, qZiv, qZiy, qZiz]; simp only [List.length_set, List.length_reverse]))) ?_
          obtain ⟨g31, H⟩ := G_some H
          refine OpsW.sq 2 [114, 110, 2, 7, 13, 14, 15] [0 ≤ v12 ∧ v12 < ((qZj9 v11 v12).length : Int)] ((114, .ref 13 0 (0 + v12.toNat * 4 + 3)) :: (qZjv v11 v12) :: (qZiz t2 v7 v8 v11 v12 x1)) ⟨g31, trivial⟩ ?_
          refine OpsW.storeT (enc := eS_Leaf) (k := 4) zS_Leaf (qZjh v11 v12) [.sl (((qZjn v11 v12).Front).flatMap (eL (eI .u8))) ((qZjn v11 v12).Front).length] v12.toNat 3 rfl rfl rfl (by exact congrArg (AV.ref 13 0) (by first | omega | rfl | (simp only [qZj9, qZjc, qZjd, qZjh, qZjn]; omega) | (simp; omega))) trivial trivial rfl (fun _ => rfl) rfl (by kernel_rfl) (okCb_sound (by kernel_rfl)) (ltN g31) (Nat.le_of_ble_eq_true (by kernel_rfl)) rfl ?_
          refine OpsW.weaken ((114, .ref 13 0 (0 + v12.toNat * 4 + 3)) :: (qZjv v11 v12) :: (qZij t2 v7 v8 v11 v12 x1)) (Env.le_of_eq (by first | (simp only [List.length_set, List.length_reverse]; done) | (simp only [qZj9, qZjc, qZjd, qZjh, qZjn, qZjr, qZjv, qZk5, qZid, qZij, qZiz]; simp only [List.length_set, List.length_reverse]))) ?_
          refine OpsW.sg 0 [2, 7, 13, 14, 15] (qZij t2 v7 v8 v11 v12 x1) ?_
          refine OpsW.recast (env' := (qZij t2 v7 v8 v11 v12 x1)) (h' := [(13, rtA 0 39 4 eS_Leaf ((qZj9 v11 v12).set v12.toNat (qZjh v11 v12)))]) (StC.mk (phi [(13, some 13)]) (.o rfl (CstL.ims _) .nil) rfl (.i2 (.cons (.s rfl) (.i2 .nil)))) ?_
          refine OpsW.nil ?_
          show ∃ y, _ ∧ StC _ _ _ _
          exact ⟨(qZj9 v11 v12).set v12.toNat (qZjh v11 v12), H, (StC.mk (phi [(13, some 13)]) (.o rfl (CstL.ims _) .nil) rfl (.i2 (.cons (.s rfl) (.i2 .nil))))⟩
        replace H := condF c29 H
        refine AW.skip ?_
        show ∃ y, _ ∧ StC _ _ _ _
        exact ⟨v11, H, (StC.mk (phi [(13, some 13)]) (.o rfl (CstL.ims _) .nil) rfl (.i2 (.cons (.s rfl) (.i2 .nil))))⟩
      intro v17 H
      change f_L25_SheetMatchesReference_k2 v7 v8 loop13 v12 v17 = some r at H
      unfold f_L25_SheetMatchesReference_k2 at H
      change AW _ _ _ ((2, .bool t2) :: (7, .bool x1) :: (13, .rsl 13 0 0 v17.length) :: (qZid v7 v8 v12)) [(13, rtA 0 39 4 eS_Leaf v17)] _
      refine AW.regionSeq (OpsW.sg 1 [16, 2, 7, 13, 14, 15] ((16, .int .i64 0) :: (2, .bool t2) :: (7, .bool x1) :: (13, .rsl 13 0 0 v17.length) :: (qZid v7 v8 v12)) ?_)
      refine OpsW.nil (AW.block ?_)
      refine AW.iterK (fun loop (s : (List S_Leaf) × Int) => f_L25_SheetMatchesReference_b1 v7 v8 loop13 v12 loop s.1 s.2) r (fun (s : (List S_Leaf) × Int) => [(2, .bool t2), (7, .bool x1), (13, .rsl 13 0 0 s.1.length), (qZjr v7 v8), (15, .int .i64 v12), (16, .int .i64 s.2)]) (fun (s : (List S_Leaf) × Int) => [(13, rtA 0 39 4 eS_Leaf s.1)]) ?_ 1000000 (v17, (0 : Int)) H (StC.mk (phi [(13, some 13)]) (.o rfl (CstL.ims _) .nil) rfl (.i2 (.cons (.s rfl) (.i3 .nil))))
      intro loop20 s H
      obtain ⟨v18, v19⟩ := s
      change f_L25_SheetMatchesReference_b1 v7 v8 loop13 v12 loop20 v18 v19 = some r at H
      unfold f_L25_SheetMatchesReference_b1 at H
      change AW _ _ _ (qZic t2 v7 v8 v12 v18 v19 x1) [(13, rtA 0 39 4 eS_Leaf v18)] _
      refine AW.seq (AW.regionSeq (OpsW.sg 2 [116, 2, 7, 13, 14, 15, 16] ((116, .bool (decide (v19 < 3))) :: (qZic t2 v7 v8 v12 v18 v19 x1)) ?_))
      refine OpsW.nil (AW.cond (b := decide (v19 < 3)) rfl (fun c21 => ?_) (fun c21 => ?_))
      · replace H := condT c21 H
        refine AW.skip (AW.seq (AW.block (AW.drawXSeq 14 [(12, 17, []), (13, 17, [])] Tryd.checked.mixed (by kernel_rfl) (by kernel_rfl) ?_)))
        refine DOpsX.q 12 (by kernel_rfl) ?_
        obtain ⟨g22, H⟩ := G_some H
        refine QOps.seg (N := 153) 3 [0 ≤ v12 ∧ v12 < (v18.length : Int)] ((122, .ref 13 0 (0 + v12.toNat * 4)) :: (121, .int .i64 v12) :: (120, .rsl 13 0 0 v18.length) :: (116, .bool (decide (v19 < 3))) :: (qZic t2 v7 v8 v12 v18 v19 x1)) (by kernel_rfl) ⟨g22, trivial⟩ ?_
        refine QOps.asU (.agg (qZjf v12 v18)) rfl (T.loadRAgg rfl trivial (by kernel_rfl) rfl rfl rfl (rt_elem_le eS_Leaf 4 (fun _ => rfl) v18 v12.toNat (ltN g22)) (rt_elem eS_Leaf 4 (fun _ => rfl) v18 zS_Leaf v12.toNat (ltN g22))) ?_
        obtain ⟨g23, H⟩ := G_some H
        refine QOps.seg (N := 153) 3 [0 ≤ v19 ∧ v19 < ([v8, (qZjd v7), (qZjc v7)].length : Int)] (qZim t2 v7 v8 v12 v18 v19 x1) (by kernel_rfl) ⟨g23, trivial⟩ ?_
        refine QOps.asU (.agg (qZjm v7 v8 v19)) rfl (T.loadAgg (cs := [v8, (qZjd v7), (qZjc v7)].flatMap eS_Format) (off := v19.toNat * 3) (ds := eS_Format (qZj7 v7 v8 v19)) rfl trivial (by kernel_rfl) (by have := fm_length eS_Format 3 (fun _ => rfl) [v8, (qZjd v7), (qZjc v7)]; have := (ltN g23); first | omega | (simp only [qZj7, qZjc, qZjd] at *; omega)) (fm_elem eS_Format 3 (fun _ => rfl) [v8, (qZjd v7), (qZjc v7)] zS_Format v19.toNat (ltN g23))) ?_
        obtain ⟨x24, hx24, H⟩ := bindS H
        refine QOps.qcall rfl (by kernel_rfl) rfl (glAll_sound trivial) (.cons (.pur rfl) (.cons (.pur rfl) .nil)) (f_sheet_Press_ok hx24) rfl ?_
        refine QOps.seg (N := 153) 3 [] ((130, .int .i64 x24.2) :: (129, .agg (qZji x24)) :: (119, .tup [.agg (qZji x24), .int .i64 x24.2]) :: (128, .tup [.agg (qZji x24), .int .i64 x24.2]) :: (127, .agg (qZjm v7 v8 v19)) :: (qZim t2 v7 v8 v12 v18 v19 x1)) (by kernel_rfl) trivial ?_
        refine QOps.nil (DOpsX.e 17 rfl rfl rfl (by exact fun g hg hb => RStep.alloc rfl 17 ((hg 17 (List.Mem.head _)).trans rfl) (by kernel_rfl : zc Tryd.prog 47 = some [.int .i64 0, .int .i64 0, .slice none 0 0, .slice none 0 0]) (by kernel_rfl)) ?_)
        refine DOpsX.e 17 rfl rfl rfl (by exact fun g hg hb => RStep.store rfl rfl (by exact trivial) (by exact trivial) ((hg 17 (List.Mem.head _)).trans rfl) rfl rfl (by kernel_rfl) (okCb_sound (by kernel_rfl)) (Nat.le_of_ble_eq_true (by kernel_rfl))) ?_
        refine DOpsX.nil ?_
        refine OpsW.sg 0 [17, 130, 2, 7, 13, 14, 15, 16] ((17, .ref 17 0 0) :: (130, .int .i64 x24.2) :: (qZic t2 v7 v8 v12 v18 v19 x1)) ?_
        refine OpsW.sg 1 [18, 17, 2, 7, 13, 14, 15, 16] (qZj1 t2 v7 v8 v12 v18 v19 x1 x24) ?_
        refine OpsW.recast (env' := (qZj1 t2 v7 v8 v12 v18 v19 x1 x24)) (h' := [(13, rtA 0 39 4 eS_Leaf v18), (17, ⟨0, true, 47, 4, (qZji x24)⟩)]) (StC.mk (phi [(13, some 13), (17, some 17)]) (.o rfl (CstL.ims _) (.o rfl (.i4 .nil) .nil)) rfl (.cons .im (.cons (.r rfl) (.i2 (.cons (.s rfl) (.i3 .nil)))))) ?_
        refine OpsW.nil (AW.drawXSeq 14 [(12, 19, []), (13, 19, [])] Tryd.checked.mixed (by kernel_rfl) (by kernel_rfl) ?_)
        refine DOpsX.q 12 (by kernel_rfl) ?_
        refine QOps.seg (N := 153) 3 [0 ≤ v12 ∧ v12 < (v18.length : Int)] ((134, .ref 13 0 (0 + v12.toNat * 4)) :: (133, .int .i64 v12) :: (132, .rsl 13 0 0 v18.length) :: (qZj1 t2 v7 v8 v12 v18 v19 x1 x24)) (by kernel_rfl) ⟨g22, trivial⟩ ?_
        refine QOps.asU (.agg (qZjf v12 v18)) rfl (T.loadRAgg rfl trivial (by kernel_rfl) rfl rfl rfl (rt_elem_le eS_Leaf 4 (fun _ => rfl) v18 v12.toNat (ltN g22)) (rt_elem eS_Leaf 4 (fun _ => rfl) v18 zS_Leaf v12.toNat (ltN g22))) ?_
        refine QOps.seg (N := 153) 3 [0 ≤ v19 ∧ v19 < ([v8, (qZjd v7), (qZjc v7)].length : Int)] (qZil t2 v7 v8 v12 v18 v19 x1 x24) (by kernel_rfl) ⟨g23, trivial⟩ ?_
        refine QOps.asU (.agg (qZjm v7 v8 v19)) rfl (T.loadAgg (cs := [v8, (qZjd v7), (qZjc v7)].flatMap eS_Format) (off := v19.toNat * 3) (ds := eS_Format (qZj7 v7 v8 v19)) rfl trivial (by kernel_rfl) (by have := fm_length eS_Format 3 (fun _ => rfl) [v8, (qZjd v7), (qZjc v7)]; have := (ltN g23); first | omega | (simp only [qZj7, qZjc, qZjd] at *; omega)) (fm_elem eS_Format 3 (fun _ => rfl) [v8, (qZjd v7), (qZjc v7)] zS_Format v19.toNat (ltN g23))) ?_
        obtain ⟨x25, hx25, H⟩ := bindS H
        refine QOps.qcall rfl (by kernel_rfl) rfl (glAll_sound trivial) (.cons (.pur rfl) (.cons (.pur rfl) .nil)) (f_R25_Press_ok hx25) rfl ?_
        refine QOps.seg (N := 153) 3 [] ((142, .int .i64 x25.2) :: (141, .agg (qZjl x25)) :: (131, .tup [.agg (qZjl x25), .int .i64 x25.2]) :: (140, .tup [.agg (qZjl x25), .int .i64 x25.2]) :: (139, .agg (qZjm v7 v8 v19)) :: (qZil t2 v7 v8 v12 v18 v19 x1 x24)) (by kernel_rfl) trivial ?_
        refine QOps.nil (DOpsX.e 19 rfl rfl rfl (by exact fun g hg hb => RStep.alloc rfl 19 ((hg 19 (List.Mem.head _)).trans rfl) (by kernel_rfl : zc Tryd.prog 47 = some [.int .i64 0, .int .i64 0, .slice none 0 0, .slice none 0 0]) (by kernel_rfl)) ?_)
        refine DOpsX.e 19 rfl rfl rfl (by exact fun g hg hb => RStep.store rfl rfl (by exact trivial) (by exact trivial) ((hg 19 (List.Mem.head _)).trans rfl) rfl rfl (by kernel_rfl) (okCb_sound (by kernel_rfl)) (Nat.le_of_ble_eq_true (by kernel_rfl))) ?_
        refine DOpsX.nil ?_
        refine OpsW.sg 0 [19, 142, 18, 17, 2, 7, 13, 14, 15, 16] ((19, .ref 19 0 0) :: (142, .int .i64 x25.2) :: (qZj1 t2 v7 v8 v12 v18 v19 x1 x24)) ?_
        refine OpsW.sg 1 [20, 19, 18, 17, 2, 7, 13, 14, 15, 16] ((20, .int .i64 x25.2) :: (19, .ref 19 0 0) :: (qZj1 t2 v7 v8 v12 v18 v19 x1 x24)) ?_
        refine OpsW.recast (env' := ((20, .int .i64 x25.2) :: (19, .ref 19 0 0) :: (qZj1 t2 v7 v8 v12 v18 v19 x1 x24))) (h' := [(13, rtA 0 39 4 eS_Leaf v18), (17, ⟨0, true, 47, 4, (qZji x24)⟩), (19, ⟨0, true, 47, 4, (qZjl x25)⟩)]) (StC.mk (phi [(13, some 13), (17, some 17), (19, some 19)]) (.o rfl (CstL.ims _) (.o rfl (.i4 .nil) (.o rfl (.i4 .nil) .nil))) rfl (.cons .im (.cons (.r rfl) (.cons .im (.cons (.r rfl) (.i2 (.cons (.s rfl) (.i3 .nil)))))))) ?_
        refine OpsW.nil (AW.regionSeq (OpsW.sg 2 [144, 143, 20, 18, 2, 7, 13, 14, 15, 16] ((144, .agg (qZjl x25)) :: (143, .agg (qZji x24)) :: (20, .int .i64 x25.2) :: (18, .int .i64 x24.2) :: (qZic t2 v7 v8 v12 v18 v19 x1)) ?_))
        obtain ⟨x26, hx26, H⟩ := bindS H
        refine OpsW.qcall rfl (by kernel_rfl) rfl rfl (glAll_sound trivial) (.cons (.pur rfl) (.cons (.pur rfl) .nil)) (f_R25_Equal_ok hx26) rfl ?_
        refine OpsW.sq 6 [151, 2, 7, 13, 14, 15, 16] [(!(!x26)) = true → (!(!x26)) = true, (!(!x26)) = true → (!(!x26)) = true, (!x26) = false → (!(!x26)) = true] ((151, .bool (cond (!x26) true (x24.2 != x25.2))) :: (qZic t2 v7 v8 v12 v18 v19 x1)) ⟨(fun h => h), (fun h => h), (fun h => by first | exact h | (simpa using h) | grind), trivial⟩ ?_
        refine OpsW.nil (AW.cond (b := cond (!x26) true (x24.2 != x25.2)) rfl (fun c27 => ?_) (fun c27 => ?_))
        · replace H := condT c27 H
          refine AW.regionSeq (OpsW.sg 1 [6] [(6, .bool false)] ?_)
          refine OpsW.nil ?_
          obtain rfl := Option.some.inj H
          refine AW.recast (env' := [(6, .bool false)]) (h' := []) (StC.pure (.cons .im .nil)) ?_
          refine AW.ret ?_
          try simp only [Ex.then, Ex.inBlock, Ex.noGoto, Ex.jump, reduceIte, Nat.reduceEqDiff, reduceCtorEq]
          refine Done.gen rfl (.tmp .nil) ?_
          show _ = _
          kernel_rfl
        replace H := condF c27 H
        refine AW.skip (AW.region ?_)
        obtain ⟨g28, H⟩ := G_some H
        refine OpsW.sq 3 [16, 2, 7, 13, 14, 15] [inR (v19 + 1)] ((16, .int .i64 (v19 + 1)) :: (2, .bool t2) :: (7, .bool x1) :: (13, .rsl 13 0 0 v18.length) :: (qZid v7 v8 v12)) ⟨g28, trivial⟩ ?_
        refine OpsW.nil ?_
        show ∃ y, _ ∧ StC _ _ _ _
        exact ⟨(v18, v19 + 1), H, (StC.mk (phi [(13, some 13)]) (.o rfl (CstL.ims _) .nil) rfl (.i2 (.cons (.s rfl) (.i3 .nil))))⟩
      replace H := condF c21 H
      refine AW.exit ?_
      show ∃ y, _ ∧ StC _ _ _ _
      exact ⟨v18, H, (StC.mk (phi [(13, some 13)]) (.o rfl (CstL.ims _) .nil) rfl (.i2 (.cons (.s rfl) (.i2 .nil))))⟩
    intro v15 H
    change f_L25_SheetMatchesReference_k1 loop13 v12 v15 = some r at H
    unfold f_L25_SheetMatchesReference_k1 at H
    change AW _ _ _ ((2, .bool t2) :: (7, .bool x1) :: (13, .rsl 13 0 0 v15.length) :: (qZid v7 v8 v12)) [(13, rtA 0 39 4 eS_Leaf v15)] _
    refine AW.region ?_
    obtain ⟨g16, H⟩ := G_some H
    refine OpsW.sq 3 [15, 2, 7, 13, 14] [inR (v12 + 1)] [(15, .int .i64 (v12 + 1)), (2, .bool t2), (7, .bool x1), (13, .rsl 13 0 0 v15.length), (qZjr v7 v8)] ⟨g16, trivial⟩ ?_
    refine OpsW.nil ?_
    show ∃ y, _ ∧ StC _ _ _ _
    exact ⟨(v15, v12 + 1), H, (StC.mk (phi [(13, some 13)]) (.o rfl (CstL.ims _) .nil) rfl (.i2 (.cons (.s rfl) (.i2 .nil))))⟩
  replace H := condF c14 H
  refine AW.exit ?_
  refine AW.regionSeq (OpsW.sg 2 [6] [(6, .bool x1)] ?_)
  refine OpsW.nil ?_
  obtain rfl := Option.some.inj H
  refine AW.recast (env' := [(6, .bool x1)]) (h' := []) (StC.pure (.cons .im .nil)) ?_
  refine AW.ret ?_
  try simp only [Ex.then, Ex.inBlock, Ex.noGoto, Ex.jump, reduceIte, Nat.reduceEqDiff, reduceCtorEq]
  refine Done.gen rfl (.tmp .nil) ?_
  show _ = _
  kernel_rfl
section
variable (t0 : List (List Bool)) (t1 : Int) (t2 : Int) (v2 : Int)
end
section
variable (t0 : S_Plate)
end
section
variable (t0 : S_Raw) (x1 : Bool) (x2 : S_Format) (x3 : S_Leaf) (x4 : (S_Plate × Int)) (x5 : Bool) (x9 : Bool) (x10 : (List (List Int))) (x11 : Bool) (x12 : (List (List Int)))
end
end Go.Proofs.YtbcfmhoaocifoaaDoor
