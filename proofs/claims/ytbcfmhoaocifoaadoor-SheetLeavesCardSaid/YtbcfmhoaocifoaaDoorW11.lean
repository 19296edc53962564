/-
 Written by gen.py (own work): typed functions, and that the program computes them.
-/
import Derived.Test.YtbcfmhoaocifoaaDoorW10
set_option linter.unusedSimpArgs false
set_option linter.unusedVariables false
set_option maxRecDepth 100000
namespace Go.Proofs.YtbcfmhoaocifoaaDoor
open Go.Abs
section
variable (t0 : List (List Bool)) (t1 : Int) (t2 : Int) (v1 : List (List Int)) (v2 : Int) (v3 : Int) (v10 : List (List Int)) (v11 : List Int) (v12 : Int) (v13 : Int) (v21 : Int) (v22 : Int)
end
section
variable (t0 : S_Plate)
end
section
variable (t0 : S_Plate)
end
def f_R19_split_b1 (t0 : List Int) (v1 : Int) (loop7 : (Int) → Option ((List Int) × (List Int))) (v6 : Int) : Option ((List Int) × (List Int)) :=
 G ((decide (0 < v6)) = true → inR (v6 - 1)) <|
 G ((decide (0 < v6)) = true → (0 ≤ (v6 - 1) ∧ (v6 - 1) < (t0.length : Int))) <|
 cond (cond (decide (0 < v6)) ((t0.getD (v6 - 1).toNat (0 : Int)) != 0) false) (
  G (inR (v6 - 1)) <|
  loop7 (v6 - 1)) (
  G (0 ≤ v1 ∧ v1 ≤ (t0.length : Int)) <|
  G (0 ≤ v6 ∧ v6 ≤ (t0.length : Int)) <|
  some (t0.take v1.toNat, t0.drop v6.toNat))
def f_R19_split_b2 (t0 : List Int) (loop2 : (Int) → Option ((List Int) × (List Int))) (v1 : Int) : Option ((List Int) × (List Int)) :=
 G ((decide (v1 < (t0.length : Int))) = true → (0 ≤ v1 ∧ v1 < (t0.length : Int))) <|
 cond (cond (decide (v1 < (t0.length : Int))) ((t0.getD v1.toNat 0) != 0) false) (
  G (inR (v1 + 1)) <|
  loop2 (v1 + 1)) (
  iter (fun loop (s : Int) => f_R19_split_b1 t0 v1 loop s) 1000000 (t0.length : Int))
def f_R19_split (t0 : List Int) : Option ((List Int) × (List Int)) :=
 iter (fun loop (s : Int) => f_R19_split_b2 t0 loop s) 1000000 (0 : Int)
section
variable (t0 : List Int) (v1 : Int) (v6 : Int)
end
def f_R19_IsDigit_b1 (t0 : Int) (loop2 : (Int) → Option Bool) (v1 : Int) : Option Bool :=
 cond (decide (v1 < 10)) (
  (f_R19_Digit v1).bind fun x4 =>
  cond (x4 == t0) (
   some true) (
   G (inR (v1 + 1)) <|
   loop2 (v1 + 1))) (
  some false)
def f_R19_IsDigit (t0 : Int) : Option Bool :=
 iter (fun loop (s : Int) => f_R19_IsDigit_b1 t0 loop s) 1000000 (0 : Int)
section
variable (t0 : Int) (v1 : Int)
end
def f_R19_Read_k1 (loop11 : (Int × Int) → Option (Int × Int × Int)) (v10 : Int) (v13 : Int) : Option (Int × Int × Int) :=
 G (inR (v10 + 1)) <|
 loop11 (v13, v10 + 1)
def f_R19_Read_b1 (t0 : List Int) (loop5 : (Int × Int) → Option (Int × Int × Int)) (v3 : Int) (loop11 : (Int × Int) → Option (Int × Int × Int)) (v9 : Int) (v10 : Int) : Option (Int × Int × Int) :=
 cond (decide (v10 < 10)) (
  (f_R19_Digit v10).bind fun x15 =>
  G (0 ≤ v3 ∧ v3 < (t0.length : Int)) <|
  cond (x15 == (t0.getD v3.toNat 0)) (
   G (inR (10 * v9)) <|
   G (inR ((10 * v9) + v10)) <|
   f_R19_Read_k1 loop11 v10 ((10 * v9) + v10)) (
   f_R19_Read_k1 loop11 v10 v9)) (
  G (inR (v3 + 1)) <|
  loop5 (v3 + 1, v9))
def f_R19_Read_b2 (t0 : List Int) (loop5 : (Int × Int) → Option (Int × Int × Int)) (v3 : Int) (v4 : Int) : Option (Int × Int × Int) :=
 G ((decide (v3 < (t0.length : Int))) = true → (0 ≤ v3 ∧ v3 < (t0.length : Int))) <|
 (cond (decide (v3 < (t0.length : Int))) (f_R19_IsDigit (t0.getD v3.toNat 0)) (some false)).bind fun x7 =>
 cond (cond (cond (decide (v3 < (t0.length : Int))) x7 false) (decide (v3 < 7)) false) (
  iter (fun loop (s : Int × Int) => f_R19_Read_b1 t0 loop5 v3 loop s.1 s.2) 1000000 (v4, (0 : Int))) (
  (f_R19_Write v4).bind fun x21 =>
  G ((!(cond (cond (x21.2 != 0) true (v3 == 1)) true (decide (6 < v3)))) = true → (0 ≤ v3 ∧ v3 ≤ (t0.length : Int))) <|
  (cond (!(cond (cond (x21.2 != 0) true (v3 == 1)) true (decide (6 < v3)))) (f_R01_Same x21.1 (t0.take v3.toNat)) (some false)).bind fun x23 =>
  cond (cond (cond (cond (x21.2 != 0) true (v3 == 1)) true (decide (6 < v3))) true (!x23)) (
   some ((0 : Int), (0 : Int), (190 : Int))) (
   some (v4, v3, (0 : Int))))
def f_R19_Read (t0 : List Int) : Option (Int × Int × Int) :=
 G ((!(decide ((t0.length : Int) < 2))) = true → (0 ≤ (0 : Int) ∧ (0 : Int) < (t0.length : Int))) <|
 cond (cond (decide ((t0.length : Int) < 2)) true ((t0.getD (0 : Int).toNat (0 : Int)) != 60)) (
  some ((0 : Int), (0 : Int), (190 : Int))) (
  iter (fun loop (s : Int × Int) => f_R19_Read_b2 t0 loop s.1 s.2) 1000000 ((1 : Int), (0 : Int)))
section
variable (t0 : List Int) (v3 : Int) (v4 : Int) (v9 : Int) (v10 : Int) (x7 : Bool) (x15 : Int) (x21 : ((List Int) × Int))
end
def f_R19_ReadHeader_k1 (t0 : List Int) (v11 : S_Header) (v12 : S_Header) : Option (S_Header × Int) :=
 (f_R19_Header v12).bind fun x13 =>
 (cond (!(x13.2 != 0)) (f_R01_Same x13.1 t0) (some false)).bind fun x14 =>
 cond (cond (x13.2 != 0) true (!x14)) (
  some ((⟨(0 : Int), (⟨(0 : Int), (0 : Int)⟩ : S_Label), false, (0 : Int), (0 : Int)⟩ : S_Header), (190 : Int))) (
  some (v12, (0 : Int)))
def f_R19_ReadHeader_k2 (t0 : List Int) (v8 : S_Header) (v9 : List Int) (v10 : S_Header) : Option (S_Header × Int) :=
 cond (decide ((0 : Int) < (v9.length : Int))) (
  (f_R19_Read v9).bind fun x17 =>
  f_R19_ReadHeader_k1 t0 v8 (⟨v10.Width, v10.Label, v10.Back, x17.1, v10.Part⟩ : S_Header)) (
  f_R19_ReadHeader_k1 t0 v8 v10)
def f_R19_ReadHeader_k3 (loop23 : (S_Header × S_Header × Int) → Option (S_Header × Int)) (v22 : Int) (v25 : S_Header) (v26 : S_Header) : Option (S_Header × Int) :=
 G (inR (v22 + 1)) <|
 loop23 (v25, v26, v22 + 1)
def f_R19_ReadHeader_b1 (t0 : List Int) (x1 : (List Int) × (List Int)) (loop23 : (S_Header × S_Header × Int) → Option (S_Header × Int)) (v20 : S_Header) (v21 : S_Header) (v22 : Int) : Option (S_Header × Int) :=
 cond (decide (v22 ≤ 26)) (
  G (0 ≤ (1 : Int) ∧ (1 : Int) < (x1.1.length : Int)) <|
  (f_R19_Letters).bind fun x29 =>
  G (inR (v22 - 1)) <|
  G (0 ≤ (v22 - 1) ∧ (v22 - 1) < (x29.length : Int)) <|
  cond ((x1.1.getD (1 : Int).toNat (0 : Int)) == (x29.getD (v22 - 1).toNat (0 : Int))) (
   f_R19_ReadHeader_k3 loop23 v22 v20 (⟨v21.Width, v21.Label, v21.Back, v21.Ink, v22⟩ : S_Header)) (
   f_R19_ReadHeader_k3 loop23 v22 v20 v21)) (
  G (0 ≤ (2 : Int) ∧ (2 : Int) ≤ (x1.1.length : Int)) <|
  f_R19_ReadHeader_k2 t0 v20 (x1.1.drop ((2 : Int).toNat)) v21)
def f_R19_ReadHeader_k4 (t0 : List Int) (x1 : (List Int) × (List Int)) (v6 : S_Header) (v7 : S_Header) : Option (S_Header × Int) :=
 G ((decide ((2 : Int) < (x1.1.length : Int))) = true → (0 ≤ (0 : Int) ∧ (0 : Int) < (x1.1.length : Int))) <|
 cond (cond (decide ((2 : Int) < (x1.1.length : Int))) ((x1.1.getD (0 : Int).toNat (0 : Int)) == 48) false) (
  iter (fun loop (s : S_Header × S_Header × Int) => f_R19_ReadHeader_b1 t0 x1 loop s.1 s.2.1 s.2.2) 1000000 (v6, v7, (1 : Int))) (
  f_R19_ReadHeader_k2 t0 v6 x1.1 v7)
def f_R19_ReadHeader_k5 (loop38 : (S_Header × S_Header × Int) → Option (S_Header × Int)) (v37 : Int) (v40 : S_Header) (v41 : S_Header) : Option (S_Header × Int) :=
 G (inR (v37 + 1)) <|
 loop38 (v40, v41, v37 + 1)
def f_R19_ReadHeader_b2 (t0 : List Int) (x1 : (List Int) × (List Int)) (loop38 : (S_Header × S_Header × Int) → Option (S_Header × Int)) (v35 : S_Header) (v36 : S_Header) (v37 : Int) : Option (S_Header × Int) :=
 cond (decide (v37 ≤ 2)) (
  G (inR ((x1.2.length : Int) - 1)) <|
  G (0 ≤ ((x1.2.length : Int) - 1) ∧ ((x1.2.length : Int) - 1) < (x1.2.length : Int)) <|
  (f_R19_Letters).bind fun x45 =>
  G (inR (v37 - 1)) <|
  G (0 ≤ (v37 - 1) ∧ (v37 - 1) < (x45.length : Int)) <|
  cond ((x1.2.getD ((x1.2.length : Int) - 1).toNat (0 : Int)) == (x45.getD (v37 - 1).toNat (0 : Int))) (
   f_R19_ReadHeader_k5 loop38 v37 v35 (⟨v36.Width, (⟨v36.Label.N, v37⟩ : S_Label), v36.Back, v36.Ink, v36.Part⟩ : S_Header)) (
   f_R19_ReadHeader_k5 loop38 v37 v35 v36)) (
  f_R19_ReadHeader_k4 t0 x1 v35 v36)
def f_R19_ReadHeader (t0 : List Int) : Option (S_Header × Int) :=
 (f_R19_split t0).bind fun x1 =>
 (f_R19_Read x1.2).bind fun x2 =>
 cond (cond (x2.2.2 != 0) true (x2.1 == 0)) (
  some ((⟨(0 : Int), (⟨(0 : Int), (0 : Int)⟩ : S_Label), false, (0 : Int), (0 : Int)⟩ : S_Header), (190 : Int))) (
  G (inR (x2.1 + 1)) <|
  G (inR (Int.tdiv (x2.1 + 1) (2 : Int))) <|
  cond (decide (x2.2.1 < (x1.2.length : Int))) (
   iter (fun loop (s : S_Header × S_Header × Int) => f_R19_ReadHeader_b2 t0 x1 loop s.1 s.2.1 s.2.2) 1000000 ((⟨(0 : Int), (⟨(0 : Int), (0 : Int)⟩ : S_Label), false, (0 : Int), (0 : Int)⟩ : S_Header), (⟨(t0.length : Int), (⟨Int.tdiv (x2.1 + 1) (2 : Int), (0 : Int)⟩ : S_Label), (Int.tmod x2.1 (2 : Int)) == 0, (0 : Int), (0 : Int)⟩ : S_Header), (1 : Int))) (
   f_R19_ReadHeader_k4 t0 x1 (⟨(0 : Int), (⟨(0 : Int), (0 : Int)⟩ : S_Label), false, (0 : Int), (0 : Int)⟩ : S_Header) (⟨(t0.length : Int), (⟨Int.tdiv (x2.1 + 1) (2 : Int), (0 : Int)⟩ : S_Label), (Int.tmod x2.1 (2 : Int)) == 0, (0 : Int), (0 : Int)⟩ : S_Header)))
section
variable (t0 : List Int) (v8 : S_Header) (v9 : List Int) (v10 : S_Header) (v11 : S_Header) (v12 : S_Header) (v20 : S_Header) (v21 : S_Header) (v22 : Int) (v35 : S_Header) (v36 : S_Header) (v37 : Int) (x1 : (List Int) × (List Int)) (x2 : (Int × Int × Int)) (x17 : (Int × Int × Int)) (x29 : (List Int)) (x45 : (List Int))
end
section
variable (t0 : List (List Int)) (t1 : Int) (x3 : (S_Header × Int))
end
section
variable (t0 : S_Plate) (x1 : Bool) (x3 : (List (List Int))) (x4 : (List (List Int))) (x6 : (S_Header × Bool)) (x7 : (S_Header × Bool))
end
end Go.Proofs.YtbcfmhoaocifoaaDoor
