/-
  Written by gen.py (own work): typed functions, and that the program computes them.
-/
import Derived.Test.YtioockkejhpleaaDoorW5
set_option linter.unusedSimpArgs false
set_option linter.unusedVariables false
set_option maxRecDepth 100000
namespace Go.Proofs.YtioockkejhpleaaDoor
open Go.Abs
def f_R11_rows_k1 (loop13 : (S_Node × (List (List Int)) × Int) → Option (List (List Int))) (v12 : Int) (v15 : S_Node) (v16 : List (List Int)) : Option (List (List Int)) :=
  G (inR (v12 + 1)) <|
  loop13 (v15, v16, v12 + 1)
def f_R11_rows_b1 (t1 : List (List Int)) (v1 : Int) (loop13 : (S_Node × (List (List Int)) × Int) → Option (List (List Int))) (v10 : S_Node) (v11 : List (List Int)) (v12 : Int) : Option (List (List Int)) :=
  cond (decide (v12 < ((t1.length : Int) - 1))) (
    cond (v10.Op == 12) (
      G (0 ≤ v12 ∧ v12 < (t1.length : Int)) <|
      (f_R11_left (t1.getD v12.toNat []) v1).bind fun x20 =>
      (f_R11_joined [(44 : Int), (0 : Int)] x20).bind fun x21 =>
      G (room 24 (v11.length + 1)) <|
      f_R11_rows_k1 loop13 v12 v10 (v11 ++ [x21])) (
      G (0 ≤ v12 ∧ v12 < (t1.length : Int)) <|
      (f_R11_right (t1.getD v12.toNat []) v1).bind fun x24 =>
      (f_R11_joined [(57 : Int), (0 : Int)] x24).bind fun x25 =>
      G (room 24 (v11.length + 1)) <|
      f_R11_rows_k1 loop13 v12 v10 (v11 ++ [x25]))) (
    G (inR (v1 + 2)) <|
    (f_R11_bar (v1 + 2)).bind fun x28 =>
    G (room 24 (v11.length + 1)) <|
    cond (v10.Op == 12) (
      (f_R11_blanks (2 : Int)).bind fun x31 =>
      G (0 ≤ ((t1.length : Int) - 1) ∧ ((t1.length : Int) - 1) < (t1.length : Int)) <|
      (f_R11_left (t1.getD ((t1.length : Int) - 1).toNat []) v1).bind fun x33 =>
      (f_R11_joined x31 x33).bind fun x34 =>
      G (room 24 ((v11 ++ [x28]).length + [x34].length)) <|
      some ((v11 ++ [x28]) ++ [x34])) (
      (f_R11_blanks (2 : Int)).bind fun x36 =>
      G (0 ≤ ((t1.length : Int) - 1) ∧ ((t1.length : Int) - 1) < (t1.length : Int)) <|
      (f_R11_right (t1.getD ((t1.length : Int) - 1).toNat []) v1).bind fun x38 =>
      (f_R11_joined x36 x38).bind fun x39 =>
      G (room 24 ((v11 ++ [x28]).length + [x39].length)) <|
      some ((v11 ++ [x28]) ++ [x39])))
def f_R11_rows_b2 (t0 : S_Node) (t1 : List (List Int)) (loop3 : (Int × Int) → Option (List (List Int))) (v1 : Int) (v2 : Int) : Option (List (List Int)) :=
  cond (decide (v2 < (t1.length : Int))) (
    G (0 ≤ v2 ∧ v2 < (t1.length : Int)) <|
    G (inR (v2 + 1)) <|
    loop3 ((if ((t1.getD v2.toNat []).length : Int) > v1 then ((t1.getD v2.toNat []).length : Int) else v1), v2 + 1)) (
    cond (t0.Op == 13) (
      (f_R11_matrix t1 (Int.tmod t0.N (8 : Int))).bind fun x8 =>
      some x8) (
      G (inR ((t1.length : Int) - 1)) <|
      iter (fun loop (s : S_Node × (List (List Int)) × Int) => f_R11_rows_b1 t1 v1 loop s.1 s.2.1 s.2.2) 1000000 (t0, ([] : List (List Int)), (0 : Int))))
def f_R11_rows (t0 : S_Node) (t1 : List (List Int)) : Option (List (List Int)) :=
  iter (fun loop (s : Int × Int) => f_R11_rows_b2 t0 t1 loop s.1 s.2) 1000000 ((0 : Int), (0 : Int))
section
variable (t0 : S_Node) (t1 : List (List Int)) (v1 : Int) (v2 : Int) (v10 : S_Node) (v11 : List (List Int)) (v12 : Int) (x28 : (List Int)) (x31 : (List Int)) (x36 : (List Int))
end
def f_R11_Lay_b1 (t0 : List S_Node) (x5 : List (List S_Node)) (loop8 : ((List (List Int)) × Int) → Option ((List (List Int)) × Int)) (v6 : List (List Int)) (v7 : Int) : Option ((List (List Int)) × Int) :=
  cond (decide (v7 < (x5.length : Int))) (
    G (0 ≤ v7 ∧ v7 < (x5.length : Int)) <|
    (f_R10_Write (x5.getD v7.toNat [])).bind fun x11 =>
    cond (x11.2 != 0) (
      some ([], (110 : Int))) (
      G (room 24 (v6.length + 1)) <|
      G (inR (v7 + 1)) <|
      loop8 (v6 ++ [x11.1], v7 + 1))) (
    (f_R11_rows (t0.getD (0 : Int).toNat zS_Node) v6).bind fun x15 =>
    G (0 ≤ (0 : Int) ∧ (0 : Int) < (x15.length : Int)) <|
    cond (decide (24 < ((x15.getD (0 : Int).toNat []).length : Int))) (
      some ([], (110 : Int))) (
      some (x15, (0 : Int))))
def f_R11_Lay (t0 : List S_Node) : Option ((List (List Int)) × Int) :=
  (f_R09_Valid t0).bind fun x1 =>
  cond (!x1) (
    some ([], (90 : Int))) (
    G (0 ≤ (0 : Int) ∧ (0 : Int) < (t0.length : Int)) <|
    cond (cond (cond (((t0.getD (0 : Int).toNat zS_Node).Op) != 12) (((t0.getD (0 : Int).toNat zS_Node).Op) != 13) false) (((t0.getD (0 : Int).toNat zS_Node).Op) != 6) false) (
      some ([], (110 : Int))) (
      (f_R11_Entries t0).bind fun x5 =>
      iter (fun loop (s : (List (List Int)) × Int) => f_R11_Lay_b1 t0 x5 loop s.1 s.2) 1000000 (([] : List (List Int)), (0 : Int))))
section
variable (t0 : List S_Node) (v6 : List (List Int)) (v7 : Int) (x5 : List (List S_Node))
end
section
variable (t0 : List Int) (t1 : List Int) (v2 : Int)
end
section
variable (t0 : List (List Int)) (t1 : List (List Int)) (v2 : Int)
end
section
variable (t0 : S_Raw) (t1 : Int) (v5 : Int) (x1 : Bool) (x2 : List S_Node) (x9 : ((List (List Int)) × Int)) (x10 : ((List (List Int)) × Int)) (x11 : Bool) (x12 : Bool)
end
section
variable (t0 : List (List Int)) (t1 : List (List Int)) (v2 : Int) (x6 : (List Int))
end
section
variable (t0 : List S_Node) (t1 : List S_Node) (v2 : Int)
end
section
variable (t0 : S_Raw) (t1 : S_Raw) (t2 : Int) (v4 : List S_Node) (x1 : Bool) (x2 : List S_Node)
end
end Go.Proofs.YtioockkejhpleaaDoor
