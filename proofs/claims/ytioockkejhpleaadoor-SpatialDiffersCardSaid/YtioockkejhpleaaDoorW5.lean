/- Own work. -/
import Derived.Test.YtioockkejhpleaaDoorW4
set_option linter.unusedSimpArgs false
set_option linter.unusedVariables false
set_option maxRecDepth 100000
namespace Go.Proofs.YtioockkejhpleaaDoor
open Go.Abs
def f_R10_write_body_k1 (loop10 : ((List Int) × (List Int) × Int) → Option (List Int)) (v9 : Int) (v12 : List Int) (v13 : List Int) : Option (List Int) :=
 G (inR (v9 + 1)) <|
 loop10 (v12, [(v13.getD 0 0), (v13.getD 1 0), (v13.getD 2 0)], v9 + 1)
def Y4b (rec_f_R10_write : (List Y4) → Int → (List Int) → Option (List Int)) (t0 : List Y4) (t2 : List Int) (x2 : List Int) (loop10 : ((List Int) × (List Int) × Int) → Option (List Int)) (v9 : Int) (v15 : List Int) (v16 : List Int) : Option (List Int) :=
 G (0 ≤ v9 ∧ v9 < (x2.length : Int)) <|
 (rec_f_R10_write t0 (x2.getD v9.toNat 0) t2).bind fun x18 =>
 G (room 1 (v15.length + x18.length)) <|
 f_R10_write_body_k1 loop10 v9 (v15 ++ x18) [(v16.getD 0 0), (v16.getD 1 0), (v16.getD 2 0)]
def Y2i (rec_f_R10_write : (List Y4) → Int → (List Int) → Option (List Int)) (t0 : List Y4) (t2 : List Int) (x2 : List Int) (loop10 : ((List Int) × (List Int) × Int) → Option (List Int)) (v7 : List Int) (v8 : List Int) (v9 : Int) : Option (List Int) :=
 cond (decide (v9 < (x2.length : Int))) (
  cond (decide (0 < v9)) (
   G (room 1 (v7.length + 1)) <|
   Y4b rec_f_R10_write t0 t2 x2 loop10 v9 (v7 ++ [(v8.getD 1 0)]) [(v8.getD 0 0), (v8.getD 1 0), (v8.getD 2 0)]) (
   Y4b rec_f_R10_write t0 t2 x2 loop10 v9 v7 [(v8.getD 0 0), (v8.getD 1 0), (v8.getD 2 0)])) (
  G (room 1 (v7.length + 1)) <|
  some (v7 ++ [(v8.getD 2 0)]))
def f_R10_write_body_k3 (rec_f_R10_write : (List Y4) → Int → (List Int) → Option (List Int)) (t0 : List Y4) (t2 : List Int) (x2 : List Int) (v3 : Y4) (v4 : List Int) : Option (List Int) :=
 (f_R10_around v3.Op).bind fun x5 =>
 G (room 1 (v4.length + 1)) <|
 iter (fun loop (s : (List Int) × (List Int) × Int) => Y2i rec_f_R10_write t0 t2 x2 loop s.1 s.2.1 s.2.2) 1000000 (v4 ++ [(x5.getD 0 0)], [(x5.getD 0 0), (x5.getD 1 0), (x5.getD 2 0)], (0 : Int))
def Y4a (rec_f_R10_write : (List Y4) → Int → (List Int) → Option (List Int)) (t0 : List Y4) (t2 : List Int) (x2 : List Int) (v41 : Y4) (v42 : List Int) : Option (List Int) :=
 (f_R10_under t2 v41.Op).bind fun x43 =>
 (f_R10_sign x43).bind fun x44 =>
 G (room 1 (v42.length + x44.length)) <|
 G (0 ≤ (1 : Int) ∧ (1 : Int) < (x2.length : Int)) <|
 (f_R10_under t2 v41.Op).bind fun x47 =>
 (rec_f_R10_write t0 (x2.getD (1 : Int).toNat (0 : Int)) x47).bind fun x48 =>
 G (room 1 ((v42 ++ x44).length + x48.length)) <|
 (f_R10_sign t2).bind fun x50 =>
 G (room 1 (((v42 ++ x44) ++ x48).length + x50.length)) <|
 some (((v42 ++ x44) ++ x48) ++ x50)
def f_R10_write_body_k5 (loop63 : ((List Int) × Int) → Option (List Int)) (v62 : Int) (v65 : List Int) : Option (List Int) :=
 G (inR (v62 + 1)) <|
 loop63 (v65, v62 + 1)
def Y2f (rec_f_R10_write : (List Y4) → Int → (List Int) → Option (List Int)) (t0 : List Y4) (t2 : List Int) (x2 : List Int) (loop63 : ((List Int) × Int) → Option (List Int)) (v62 : Int) (v67 : List Int) : Option (List Int) :=
 G (0 ≤ v62 ∧ v62 < (x2.length : Int)) <|
 (rec_f_R10_write t0 (x2.getD v62.toNat 0) t2).bind fun x69 =>
 G (room 1 (v67.length + x69.length)) <|
 f_R10_write_body_k5 loop63 v62 (v67 ++ x69)
def Y2h (rec_f_R10_write : (List Y4) → Int → (List Int) → Option (List Int)) (t0 : List Y4) (t2 : List Int) (x2 : List Int) (loop63 : ((List Int) × Int) → Option (List Int)) (v61 : List Int) (v62 : Int) : Option (List Int) :=
 cond (decide (v62 < (x2.length : Int))) (
  G (inR ((x2.length : Int) - 1)) <|
  cond (v62 == ((x2.length : Int) - 1)) (
   G (room 1 (v61.length + 1)) <|
   Y2f rec_f_R10_write t0 t2 x2 loop63 v62 (v61 ++ [(51 : Int)])) (
   cond (decide (0 < v62)) (
    G (room 1 (v61.length + 1)) <|
    Y2f rec_f_R10_write t0 t2 x2 loop63 v62 (v61 ++ [(32 : Int)])) (
    Y2f rec_f_R10_write t0 t2 x2 loop63 v62 v61))) (
  G (room 1 (v61.length + 1)) <|
  some (v61 ++ [(34 : Int)]))
def f_R10_write_body_k7 (loop82 : (Y4 × (List Int) × Int) → Option (List Int)) (v81 : Int) (v84 : Y4) (v85 : List Int) : Option (List Int) :=
 G (inR (v81 + 1)) <|
 loop82 (v84, v85, v81 + 1)
def Y2e (rec_f_R10_write : (List Y4) → Int → (List Int) → Option (List Int)) (t0 : List Y4) (t2 : List Int) (x2 : List Int) (loop82 : (Y4 × (List Int) × Int) → Option (List Int)) (v81 : Int) (v87 : Y4) (v88 : List Int) : Option (List Int) :=
 G (0 ≤ v81 ∧ v81 < (x2.length : Int)) <|
 (rec_f_R10_write t0 (x2.getD v81.toNat 0) t2).bind fun x90 =>
 G (room 1 (v88.length + x90.length)) <|
 f_R10_write_body_k7 loop82 v81 v87 (v88 ++ x90)
def Y2g (rec_f_R10_write : (List Y4) → Int → (List Int) → Option (List Int)) (t0 : List Y4) (t2 : List Int) (x2 : List Int) (loop82 : (Y4 × (List Int) × Int) → Option (List Int)) (v79 : Y4) (v80 : List Int) (v81 : Int) : Option (List Int) :=
 cond (decide (v81 < (x2.length : Int))) (
  G ((decide (0 < v81)) = true → (Int.tmod v79.N (8 : Int)) ≠ 0) <|
  cond (cond (decide (0 < v81)) ((Int.tmod v81 (Int.tmod v79.N (8 : Int))) == 0) false) (
   G (room 1 (v80.length + 1)) <|
   Y2e rec_f_R10_write t0 t2 x2 loop82 v81 v79 (v80 ++ [(51 : Int)])) (
   cond (decide (0 < v81)) (
    G (room 1 (v80.length + 1)) <|
    Y2e rec_f_R10_write t0 t2 x2 loop82 v81 v79 (v80 ++ [(32 : Int)])) (
    Y2e rec_f_R10_write t0 t2 x2 loop82 v81 v79 v80))) (
  G (room 1 (v80.length + 1)) <|
  some (v80 ++ [(43 : Int)]))
def Y2d (rec_f_R10_write : (List Y4) → Int → (List Int) → Option (List Int)) (t0 : List Y4) (t1 : Int) (t2 : List Int) (x2 : List Int) (v37 : Bool) : Option (List Int) :=
 cond v37 (
  G (0 ≤ (0 : Int) ∧ (0 : Int) < (x2.length : Int)) <|
  (rec_f_R10_write t0 (x2.getD (0 : Int).toNat (0 : Int)) t2).bind fun x40 =>
  G (0 ≤ (x2.getD (0 : Int).toNat (0 : Int)) ∧ (x2.getD (0 : Int).toNat (0 : Int)) < (t0.length : Int)) <|
  (f_R10_Simple ((t0.getD (x2.getD (0 : Int).toNat (0 : Int)).toNat Y7).Op)).bind fun x53 =>
  cond x53 (
   G (room 1 (([] : List Int).length + x40.length)) <|
   Y4a rec_f_R10_write t0 t2 x2 (t0.getD t1.toNat Y7) (([] : List Int) ++ x40)) (
   G (room 1 (([] : List Int).length + 1)) <|
   G (room 1 ((([] : List Int) ++ [(35 : Int)]).length + x40.length)) <|
   G (room 1 (((([] : List Int) ++ [(35 : Int)]) ++ x40).length + 1)) <|
   Y4a rec_f_R10_write t0 t2 x2 (t0.getD t1.toNat Y7) (((([] : List Int) ++ [(35 : Int)]) ++ x40) ++ [(50 : Int)]))) (
  cond (((t0.getD t1.toNat Y7).Op) == 12) (
   G (room 1 (([] : List Int).length + 1)) <|
   iter (fun loop (s : (List Int) × Int) => Y2h rec_f_R10_write t0 t2 x2 loop s.1 s.2) 1000000 (([] : List Int) ++ [(56 : Int)], (0 : Int))) (
   cond (((t0.getD t1.toNat Y7).Op) == 13) (
    G (room 1 (([] : List Int).length + 1)) <|
    iter (fun loop (s : Y4 × (List Int) × Int) => Y2g rec_f_R10_write t0 t2 x2 loop s.1 s.2.1 s.2.2) 1000000 ((t0.getD t1.toNat Y7), ([] : List Int) ++ [(41 : Int)], (0 : Int))) (
    f_R10_write_body_k3 rec_f_R10_write t0 t2 x2 (t0.getD t1.toNat Y7) ([] : List Int))))
def Y13 (rec_f_R10_write : (List Y4) → Int → (List Int) → Option (List Int)) (t0 : List Y4) (t1 : Int) (t2 : List Int) (x2 : List Int) (v27 : Bool) : Option (List Int) :=
 cond v27 (
  G (0 ≤ (0 : Int) ∧ (0 : Int) < (x2.length : Int)) <|
  (rec_f_R10_write t0 (x2.getD (0 : Int).toNat (0 : Int)) t2).bind fun x30 =>
  G (room 1 (([] : List Int).length + x30.length)) <|
  (f_R10_operator ((t0.getD t1.toNat Y7).Op)).bind fun x32 =>
  G (room 1 ((([] : List Int) ++ x30).length + x32.length)) <|
  G (0 ≤ (1 : Int) ∧ (1 : Int) < (x2.length : Int)) <|
  (rec_f_R10_write t0 (x2.getD (1 : Int).toNat (0 : Int)) t2).bind fun x35 =>
  G (room 1 (((([] : List Int) ++ x30) ++ x32).length + x35.length)) <|
  some (((([] : List Int) ++ x30) ++ x32) ++ x35)) (
  cond (((t0.getD t1.toNat Y7).Op) == 7) (
   Y2d rec_f_R10_write t0 t1 t2 x2 (((t0.getD t1.toNat Y7).Op) == 7)) (
   Y2d rec_f_R10_write t0 t1 t2 x2 (((t0.getD t1.toNat Y7).Op) == 8)))
def f_R10_write_body (rec_f_R10_write : (List Y4) → Int → (List Int) → Option (List Int)) (t0 : List Y4) (t1 : Int) (t2 : List Int) : Option (List Int) :=
 G (0 ≤ t1 ∧ t1 < (t0.length : Int)) <|
 (Y2q t0 t1).bind fun x2 =>
 cond (((t0.getD t1.toNat Y7).Op) == 0) (
  (f_R10_number ((t0.getD t1.toNat Y7).N)).bind fun x24 =>
  some x24) (
  cond (((t0.getD t1.toNat Y7).Op) == 1) (
   (f_R10_letter ((t0.getD t1.toNat Y7).N)).bind fun x26 =>
   some [(48 : Int), x26]) (
   cond (((t0.getD t1.toNat Y7).Op) == 2) (
    Y13 rec_f_R10_write t0 t1 t2 x2 (((t0.getD t1.toNat Y7).Op) == 2)) (
    cond (((t0.getD t1.toNat Y7).Op) == 3) (
     Y13 rec_f_R10_write t0 t1 t2 x2 (((t0.getD t1.toNat Y7).Op) == 3)) (
     cond (((t0.getD t1.toNat Y7).Op) == 4) (
      Y13 rec_f_R10_write t0 t1 t2 x2 (((t0.getD t1.toNat Y7).Op) == 4)) (
      Y13 rec_f_R10_write t0 t1 t2 x2 (((t0.getD t1.toNat Y7).Op) == 5))))))
def f_R10_write_f : Nat → (List Y4) → Int → (List Int) → Option (List Int)
 | 0, _, _, _ => none
 | n + 1, t0, t1, t2 => f_R10_write_body (f_R10_write_f n) t0 t1 t2
def f_R10_write (t0 : List Y4) (t1 : Int) (t2 : List Int) : Option (List Int) := f_R10_write_f 1000000 t0 t1 t2
def f_R10_Write (t0 : List Y4) : Option ((List Int) × Int) :=
 (Y2v t0).bind fun x1 =>
 cond (!x1) (
  some ([], (90 : Int))) (
  (f_R10_write t0 (0 : Int) ([] : List Int)).bind fun x3 =>
  some (x3, (0 : Int)))
def Y4h (t0 : List Y4) (x1 : List Int) (loop4 : ((List (List Y4)) × Int) → Option (List (List Y4))) (v2 : List (List Y4)) (v3 : Int) : Option (List (List Y4)) :=
 cond (decide (v3 < (x1.length : Int))) (
  G (0 ≤ v3 ∧ v3 < (x1.length : Int)) <|
  (f_R09_End t0 (x1.getD v3.toNat 0)).bind fun x7 =>
  G (0 ≤ x7 ∧ x7 ≤ (t0.length : Int)) <|
  G (0 ≤ (x1.getD v3.toNat 0) ∧ (x1.getD v3.toNat 0) ≤ (x7.toNat : Int)) <|
  G (room 24 (v2.length + [(t0.drop ((x1.getD v3.toNat 0).toNat)).take (x7.toNat - (x1.getD v3.toNat 0).toNat)].length)) <|
  G (inR (v3 + 1)) <|
  loop4 (v2 ++ [(t0.drop ((x1.getD v3.toNat 0).toNat)).take (x7.toNat - (x1.getD v3.toNat 0).toNat)], v3 + 1)) (
  some v2)
def f_R11_Entries (t0 : List Y4) : Option (List (List Y4)) :=
 (Y2q t0 (0 : Int)).bind fun x1 =>
 iter (fun loop (s : (List (List Y4)) × Int) => Y4h t0 x1 loop s.1 s.2) 1000000 (([] : List (List Y4)), (0 : Int))
def Y4y (t0 : Int) (loop3 : ((List Int) × Int) → Option (List Int)) (v1 : List Int) (v2 : Int) : Option (List Int) :=
 cond (decide (v2 < t0)) (
  G (room 1 (v1.length + 1)) <|
  G (inR (v2 + 1)) <|
  loop3 (v1 ++ [(0 : Int)], v2 + 1)) (
  some v1)
def Y5j (t0 : Int) : Option (List Int) :=
 iter (fun loop (s : (List Int) × Int) => Y4y t0 loop s.1 s.2) 1000000 (([] : List Int), (0 : Int))
def Y35 (t0 : List Int) (t1 : List Int) : Option (List Int) :=
 G (room 1 (([] : List Int).length + t0.length)) <|
 G (room 1 ((([] : List Int) ++ t0).length + t1.length)) <|
 some ((([] : List Int) ++ t0) ++ t1)
def f_R11_right (t0 : List Int) (t1 : Int) : Option (List Int) :=
 G (inR (t1 - (t0.length : Int))) <|
 (Y5j (t1 - (t0.length : Int))).bind fun x2 =>
 (Y35 t0 x2).bind fun x3 =>
 some x3
def f_R11_matrix_k1 (loop7 : ((List Int) × Int) → Option (List (List Int))) (v6 : Int) (v9 : List Int) : Option (List (List Int)) :=
 G (inR (v6 + 1)) <|
 loop7 (v9, v6 + 1)
def Y4x (t0 : List (List Int)) (t1 : Int) (v2 : Int) (loop7 : ((List Int) × Int) → Option (List (List Int))) (v5 : List Int) (v6 : Int) (loop13 : (Int × Int) → Option (List (List Int))) (v11 : Int) (v12 : Int) : Option (List (List Int)) :=
 cond (decide (v12 < (t0.length : Int))) (
  G (0 ≤ v12 ∧ v12 < (t0.length : Int)) <|
  G (inR (v12 + t1)) <|
  loop13 ((if ((t0.getD v12.toNat []).length : Int) > v11 then ((t0.getD v12.toNat []).length : Int) else v11), v12 + t1)) (
  G (inR (v2 + v6)) <|
  G (0 ≤ (v2 + v6) ∧ (v2 + v6) < (t0.length : Int)) <|
  (f_R11_right (t0.getD (v2 + v6).toNat []) v11).bind fun x19 =>
  (Y35 v5 x19).bind fun x20 =>
  G (inR (t1 - 1)) <|
  cond (decide (v6 < (t1 - 1))) (
   (Y5j (2 : Int)).bind fun x23 =>
   (Y35 x20 x23).bind fun x24 =>
   f_R11_matrix_k1 loop7 v6 x24) (
   f_R11_matrix_k1 loop7 v6 x20))
def Y4w (t0 : List (List Int)) (t1 : Int) (loop3 : ((List (List Int)) × Int) → Option (List (List Int))) (v1 : List (List Int)) (v2 : Int) (loop7 : ((List Int) × Int) → Option (List (List Int))) (v5 : List Int) (v6 : Int) : Option (List (List Int)) :=
 cond (decide (v6 < t1)) (
  iter (fun loop (s : Int × Int) => Y4x t0 t1 v2 loop7 v5 v6 loop s.1 s.2) 1000000 ((0 : Int), v6)) (
  G (room 1 (v5.length + 2)) <|
  G (room 24 (v1.length + 1)) <|
  G (inR (v2 + t1)) <|
  loop3 (v1 ++ [v5 ++ [(0 : Int), (62 : Int)]], v2 + t1))
def Y4v (t0 : List (List Int)) (t1 : Int) (loop3 : ((List (List Int)) × Int) → Option (List (List Int))) (v1 : List (List Int)) (v2 : Int) : Option (List (List Int)) :=
 cond (decide (v2 < (t0.length : Int))) (
  iter (fun loop (s : (List Int) × Int) => Y4w t0 t1 loop3 v1 v2 loop s.1 s.2) 1000000 ([(55 : Int), (0 : Int)], (0 : Int))) (
  some v1)
def f_R11_matrix (t0 : List (List Int)) (t1 : Int) : Option (List (List Int)) :=
 iter (fun loop (s : (List (List Int)) × Int) => Y4v t0 t1 loop s.1 s.2) 1000000 (([] : List (List Int)), (0 : Int))
def f_R11_left (t0 : List Int) (t1 : Int) : Option (List Int) :=
 G (inR (t1 - (t0.length : Int))) <|
 (Y5j (t1 - (t0.length : Int))).bind fun x2 =>
 (Y35 x2 t0).bind fun x3 =>
 some x3
def f_R11_bar_b1 (t0 : Int) (loop3 : ((List Int) × Int) → Option (List Int)) (v1 : List Int) (v2 : Int) : Option (List Int) :=
 cond (decide (v2 < t0)) (
  G (room 1 (v1.length + 1)) <|
  G (inR (v2 + 1)) <|
  loop3 (v1 ++ [(36 : Int)], v2 + 1)) (
  some v1)
def f_R11_bar (t0 : Int) : Option (List Int) :=
 iter (fun loop (s : (List Int) × Int) => f_R11_bar_b1 t0 loop s.1 s.2) 1000000 (([] : List Int), (0 : Int))
end Go.Proofs.YtioockkejhpleaaDoor
