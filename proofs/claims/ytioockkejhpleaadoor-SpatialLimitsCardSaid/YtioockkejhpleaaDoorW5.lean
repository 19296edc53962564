/-
  Written by gen.py (own work): typed functions, and that the program computes them.
-/
import Derived.Test.YtioockkejhpleaaDoorW4
set_option linter.unusedSimpArgs false
set_option linter.unusedVariables false
set_option maxRecDepth 100000
namespace Go.Proofs.YtioockkejhpleaaDoor
open Go.Abs
def f_R10_write_body_k1 (loop10 : ((List Int) × (List Int) × Int) → Option (List Int)) (v9 : Int) (v12 : List Int) (v13 : List Int) : Option (List Int) :=
  G (inR (v9 + 1)) <|
  loop10 (v12, [(v13.getD 0 0), (v13.getD 1 0), (v13.getD 2 0)], v9 + 1)
def f_R10_write_body_k2 (rec_f_R10_write : (List S_Node) → Int → (List Int) → Option (List Int)) (t0 : List S_Node) (t2 : List Int) (x2 : List Int) (loop10 : ((List Int) × (List Int) × Int) → Option (List Int)) (v9 : Int) (v15 : List Int) (v16 : List Int) : Option (List Int) :=
  G (0 ≤ v9 ∧ v9 < (x2.length : Int)) <|
  (rec_f_R10_write t0 (x2.getD v9.toNat 0) t2).bind fun x18 =>
  G (room 1 (v15.length + x18.length)) <|
  f_R10_write_body_k1 loop10 v9 (v15 ++ x18) [(v16.getD 0 0), (v16.getD 1 0), (v16.getD 2 0)]
def f_R10_write_body_b1 (rec_f_R10_write : (List S_Node) → Int → (List Int) → Option (List Int)) (t0 : List S_Node) (t2 : List Int) (x2 : List Int) (loop10 : ((List Int) × (List Int) × Int) → Option (List Int)) (v7 : List Int) (v8 : List Int) (v9 : Int) : Option (List Int) :=
  cond (decide (v9 < (x2.length : Int))) (
    cond (decide (0 < v9)) (
      G (room 1 (v7.length + 1)) <|
      f_R10_write_body_k2 rec_f_R10_write t0 t2 x2 loop10 v9 (v7 ++ [(v8.getD 1 0)]) [(v8.getD 0 0), (v8.getD 1 0), (v8.getD 2 0)]) (
      f_R10_write_body_k2 rec_f_R10_write t0 t2 x2 loop10 v9 v7 [(v8.getD 0 0), (v8.getD 1 0), (v8.getD 2 0)])) (
    G (room 1 (v7.length + 1)) <|
    some (v7 ++ [(v8.getD 2 0)]))
def f_R10_write_body_k3 (rec_f_R10_write : (List S_Node) → Int → (List Int) → Option (List Int)) (t0 : List S_Node) (t2 : List Int) (x2 : List Int) (v3 : S_Node) (v4 : List Int) : Option (List Int) :=
  (f_R10_around v3.Op).bind fun x5 =>
  G (room 1 (v4.length + 1)) <|
  iter (fun loop (s : (List Int) × (List Int) × Int) => f_R10_write_body_b1 rec_f_R10_write t0 t2 x2 loop s.1 s.2.1 s.2.2) 1000000 (v4 ++ [(x5.getD 0 0)], [(x5.getD 0 0), (x5.getD 1 0), (x5.getD 2 0)], (0 : Int))
def f_R10_write_body_k4 (rec_f_R10_write : (List S_Node) → Int → (List Int) → Option (List Int)) (t0 : List S_Node) (t2 : List Int) (x2 : List Int) (v41 : S_Node) (v42 : List Int) : Option (List Int) :=
  (f_R10_under t2 v41.Op).bind fun x43 =>
  (f_R10_sign x43).bind fun x44 =>
  G (room 1 (v42.length + x44.length)) <|
  G (0 ≤ (1 : Int) ∧ (1 : Int) < (x2.length : Int)) <|
  (f_R10_under t2 v41.Op).bind fun x47 =>
  (rec_f_R10_write t0 (x2.getD (1 : Int).toNat (0 : Int)) x47).bind fun x48 =>
  G (room 1 ((v42 ++ x44).length + x48.length)) <|
  (f_R10_sign t2).bind fun x50 =>
  G (room 1 (((v42 ++ x44) ++ x48).length + x50.length)) <|
  some (((v42 ++ x44) ++ x48) ++ x50)
def f_R10_write_body_k5 (loop63 : ((List Int) × Int) → Option (List Int)) (v62 : Int) (v65 : List Int) : Option (List Int) :=
  G (inR (v62 + 1)) <|
  loop63 (v65, v62 + 1)
def f_R10_write_body_k6 (rec_f_R10_write : (List S_Node) → Int → (List Int) → Option (List Int)) (t0 : List S_Node) (t2 : List Int) (x2 : List Int) (loop63 : ((List Int) × Int) → Option (List Int)) (v62 : Int) (v67 : List Int) : Option (List Int) :=
  G (0 ≤ v62 ∧ v62 < (x2.length : Int)) <|
  (rec_f_R10_write t0 (x2.getD v62.toNat 0) t2).bind fun x69 =>
  G (room 1 (v67.length + x69.length)) <|
  f_R10_write_body_k5 loop63 v62 (v67 ++ x69)
def f_R10_write_body_b2 (rec_f_R10_write : (List S_Node) → Int → (List Int) → Option (List Int)) (t0 : List S_Node) (t2 : List Int) (x2 : List Int) (loop63 : ((List Int) × Int) → Option (List Int)) (v61 : List Int) (v62 : Int) : Option (List Int) :=
  cond (decide (v62 < (x2.length : Int))) (
    G (inR ((x2.length : Int) - 1)) <|
    cond (v62 == ((x2.length : Int) - 1)) (
      G (room 1 (v61.length + 1)) <|
      f_R10_write_body_k6 rec_f_R10_write t0 t2 x2 loop63 v62 (v61 ++ [(51 : Int)])) (
      cond (decide (0 < v62)) (
        G (room 1 (v61.length + 1)) <|
        f_R10_write_body_k6 rec_f_R10_write t0 t2 x2 loop63 v62 (v61 ++ [(32 : Int)])) (
        f_R10_write_body_k6 rec_f_R10_write t0 t2 x2 loop63 v62 v61))) (
    G (room 1 (v61.length + 1)) <|
    some (v61 ++ [(34 : Int)]))
def f_R10_write_body_k7 (loop82 : (S_Node × (List Int) × Int) → Option (List Int)) (v81 : Int) (v84 : S_Node) (v85 : List Int) : Option (List Int) :=
  G (inR (v81 + 1)) <|
  loop82 (v84, v85, v81 + 1)
def f_R10_write_body_k8 (rec_f_R10_write : (List S_Node) → Int → (List Int) → Option (List Int)) (t0 : List S_Node) (t2 : List Int) (x2 : List Int) (loop82 : (S_Node × (List Int) × Int) → Option (List Int)) (v81 : Int) (v87 : S_Node) (v88 : List Int) : Option (List Int) :=
  G (0 ≤ v81 ∧ v81 < (x2.length : Int)) <|
  (rec_f_R10_write t0 (x2.getD v81.toNat 0) t2).bind fun x90 =>
  G (room 1 (v88.length + x90.length)) <|
  f_R10_write_body_k7 loop82 v81 v87 (v88 ++ x90)
def f_R10_write_body_b3 (rec_f_R10_write : (List S_Node) → Int → (List Int) → Option (List Int)) (t0 : List S_Node) (t2 : List Int) (x2 : List Int) (loop82 : (S_Node × (List Int) × Int) → Option (List Int)) (v79 : S_Node) (v80 : List Int) (v81 : Int) : Option (List Int) :=
  cond (decide (v81 < (x2.length : Int))) (
    G ((decide (0 < v81)) = true → (Int.tmod v79.N (8 : Int)) ≠ 0) <|
    cond (cond (decide (0 < v81)) ((Int.tmod v81 (Int.tmod v79.N (8 : Int))) == 0) false) (
      G (room 1 (v80.length + 1)) <|
      f_R10_write_body_k8 rec_f_R10_write t0 t2 x2 loop82 v81 v79 (v80 ++ [(51 : Int)])) (
      cond (decide (0 < v81)) (
        G (room 1 (v80.length + 1)) <|
        f_R10_write_body_k8 rec_f_R10_write t0 t2 x2 loop82 v81 v79 (v80 ++ [(32 : Int)])) (
        f_R10_write_body_k8 rec_f_R10_write t0 t2 x2 loop82 v81 v79 v80))) (
    G (room 1 (v80.length + 1)) <|
    some (v80 ++ [(43 : Int)]))
def f_R10_write_body_k9 (rec_f_R10_write : (List S_Node) → Int → (List Int) → Option (List Int)) (t0 : List S_Node) (t1 : Int) (t2 : List Int) (x2 : List Int) (v37 : Bool) : Option (List Int) :=
  cond v37 (
    G (0 ≤ (0 : Int) ∧ (0 : Int) < (x2.length : Int)) <|
    (rec_f_R10_write t0 (x2.getD (0 : Int).toNat (0 : Int)) t2).bind fun x40 =>
    G (0 ≤ (x2.getD (0 : Int).toNat (0 : Int)) ∧ (x2.getD (0 : Int).toNat (0 : Int)) < (t0.length : Int)) <|
    (f_R10_Simple ((t0.getD (x2.getD (0 : Int).toNat (0 : Int)).toNat zS_Node).Op)).bind fun x53 =>
    cond x53 (
      G (room 1 (([] : List Int).length + x40.length)) <|
      f_R10_write_body_k4 rec_f_R10_write t0 t2 x2 (t0.getD t1.toNat zS_Node) (([] : List Int) ++ x40)) (
      G (room 1 (([] : List Int).length + 1)) <|
      G (room 1 ((([] : List Int) ++ [(35 : Int)]).length + x40.length)) <|
      G (room 1 (((([] : List Int) ++ [(35 : Int)]) ++ x40).length + 1)) <|
      f_R10_write_body_k4 rec_f_R10_write t0 t2 x2 (t0.getD t1.toNat zS_Node) (((([] : List Int) ++ [(35 : Int)]) ++ x40) ++ [(50 : Int)]))) (
    cond (((t0.getD t1.toNat zS_Node).Op) == 12) (
      G (room 1 (([] : List Int).length + 1)) <|
      iter (fun loop (s : (List Int) × Int) => f_R10_write_body_b2 rec_f_R10_write t0 t2 x2 loop s.1 s.2) 1000000 (([] : List Int) ++ [(56 : Int)], (0 : Int))) (
      cond (((t0.getD t1.toNat zS_Node).Op) == 13) (
        G (room 1 (([] : List Int).length + 1)) <|
        iter (fun loop (s : S_Node × (List Int) × Int) => f_R10_write_body_b3 rec_f_R10_write t0 t2 x2 loop s.1 s.2.1 s.2.2) 1000000 ((t0.getD t1.toNat zS_Node), ([] : List Int) ++ [(41 : Int)], (0 : Int))) (
        f_R10_write_body_k3 rec_f_R10_write t0 t2 x2 (t0.getD t1.toNat zS_Node) ([] : List Int))))
def f_R10_write_body_k10 (rec_f_R10_write : (List S_Node) → Int → (List Int) → Option (List Int)) (t0 : List S_Node) (t1 : Int) (t2 : List Int) (x2 : List Int) (v27 : Bool) : Option (List Int) :=
  cond v27 (
    G (0 ≤ (0 : Int) ∧ (0 : Int) < (x2.length : Int)) <|
    (rec_f_R10_write t0 (x2.getD (0 : Int).toNat (0 : Int)) t2).bind fun x30 =>
    G (room 1 (([] : List Int).length + x30.length)) <|
    (f_R10_operator ((t0.getD t1.toNat zS_Node).Op)).bind fun x32 =>
    G (room 1 ((([] : List Int) ++ x30).length + x32.length)) <|
    G (0 ≤ (1 : Int) ∧ (1 : Int) < (x2.length : Int)) <|
    (rec_f_R10_write t0 (x2.getD (1 : Int).toNat (0 : Int)) t2).bind fun x35 =>
    G (room 1 (((([] : List Int) ++ x30) ++ x32).length + x35.length)) <|
    some (((([] : List Int) ++ x30) ++ x32) ++ x35)) (
    cond (((t0.getD t1.toNat zS_Node).Op) == 7) (
      f_R10_write_body_k9 rec_f_R10_write t0 t1 t2 x2 (((t0.getD t1.toNat zS_Node).Op) == 7)) (
      f_R10_write_body_k9 rec_f_R10_write t0 t1 t2 x2 (((t0.getD t1.toNat zS_Node).Op) == 8)))
def f_R10_write_body (rec_f_R10_write : (List S_Node) → Int → (List Int) → Option (List Int)) (t0 : List S_Node) (t1 : Int) (t2 : List Int) : Option (List Int) :=
  G (0 ≤ t1 ∧ t1 < (t0.length : Int)) <|
  (f_R09_Operands t0 t1).bind fun x2 =>
  cond (((t0.getD t1.toNat zS_Node).Op) == 0) (
    (f_R10_number ((t0.getD t1.toNat zS_Node).N)).bind fun x24 =>
    some x24) (
    cond (((t0.getD t1.toNat zS_Node).Op) == 1) (
      (f_R10_letter ((t0.getD t1.toNat zS_Node).N)).bind fun x26 =>
      some [(48 : Int), x26]) (
      cond (((t0.getD t1.toNat zS_Node).Op) == 2) (
        f_R10_write_body_k10 rec_f_R10_write t0 t1 t2 x2 (((t0.getD t1.toNat zS_Node).Op) == 2)) (
        cond (((t0.getD t1.toNat zS_Node).Op) == 3) (
          f_R10_write_body_k10 rec_f_R10_write t0 t1 t2 x2 (((t0.getD t1.toNat zS_Node).Op) == 3)) (
          cond (((t0.getD t1.toNat zS_Node).Op) == 4) (
            f_R10_write_body_k10 rec_f_R10_write t0 t1 t2 x2 (((t0.getD t1.toNat zS_Node).Op) == 4)) (
            f_R10_write_body_k10 rec_f_R10_write t0 t1 t2 x2 (((t0.getD t1.toNat zS_Node).Op) == 5))))))
section
variable (t0 : List S_Node) (t1 : Int) (t2 : List Int) (v4 : List Int) (v7 : List Int) (v8 : List Int) (v9 : Int) (v15 : List Int) (v16 : List Int) (v42 : List Int) (v61 : List Int) (v62 : Int) (v67 : List Int) (v80 : List Int) (v81 : Int) (v88 : List Int) (x2 : List Int) (x5 : (List Int)) (x44 : (List Int))
abbrev Z8k := t0.getD t1.toNat zS_Node
abbrev Z8l := ([] : List Int)
abbrev Z8m : Nat × AV := (8, slA (eI .i64) x2)
abbrev Z8n : Nat × AV := (0, slA eS_Node t0)
abbrev Z8o : List AV := [.j ((Z8k t0 t1).Op), .j ((Z8k t0 t1).N)]
abbrev Z8p : Nat × AV := (7, .ref 7 0 0)
abbrev Z8q := (Z8l ++ [(35 : Int)])
abbrev Z8r : Nat × AV := (9, .rsl 9 0 0 (Z8l.length))
abbrev Z8s := (x2.getD (0 : Int).toNat (0 : Int))
abbrev Z8t : Nat × AV := (13, .ref 13 0 0)
abbrev Z8u := (Z8k t0 t1).Op
abbrev Z8v := x2.flatMap (eI .i64)
abbrev Z8w := (x2.getD (1 : Int).toNat (0 : Int))
abbrev Z8x := (x2.length : Int)
abbrev Z8y : List AV := [.int .u8 (x5.getD 0 0), .int .u8 (x5.getD 1 0), .int .u8 (x5.getD 2 0)]
abbrev Z8z := ((Z8l ++ [(56 : Int)]).length)
abbrev Z90 := ((Z8l ++ [(41 : Int)]).length)
abbrev Z7x : Env := [(Z8n t0), (2, sU t2), Z8p, (Z8m x2), Z8r]
abbrev Z7y : Env := [(Z8n t0), (2, sU t2), Z8p, (Z8m x2)]
abbrev Z7z : Env := [(24, .j (Z8u t0 t1)), Z8r, (Z8m x2), Z8p, (Z8n t0), (2, sU t2)]
abbrev Z80 : Hp := [(7, ⟨0, true, 38, 2, (Z8o t0 t1)⟩), (9, rtA 0 41 1 (eI .u8) Z8l)]
abbrev Z81 : Env := [(Z8n t0), (2, sU t2), Z8p, (Z8m x2), (9, .rsl 9 0 0 v80.length), (12, .j v81)]
abbrev Z82 : Env := [(Z8n t0), (2, sU t2), (Z8m x2), (9, .rsl 9 0 0 v61.length), (11, .j v62)]
abbrev Z83 : Env := [(Z8n t0), (2, sU t2), Z8p, (Z8m x2), (12, .j v81)]
abbrev Z84 : Env := [(Z8n t0), (2, sU t2), (Z8m x2)]
abbrev Z85 : Env := [(Z8n t0), (2, sU t2), Z8p, (Z8m x2), Z8r, (24, .j (Z8u t0 t1))]
abbrev Z86 : Env := [(Z8n t0), (2, sU t2), (Z8m x2), (9, .rsl 9 0 0 v7.length), Z8t, (14, .j v9)]
abbrev Z87 : Env := [(Z8n t0), (2, sU t2), (Z8m x2), (11, .j v62)]
abbrev Z88 : Env := [(Z8n t0), (2, sU t2), (Z8m x2), Z8t, (14, .j v9)]
abbrev Z89 : Env := [(Z8n t0), (2, sU t2), (Z8m x2), (9, .rsl 9 0 0 v4.length)]
abbrev Z8a : Env := [(Z8n t0), (2, sU t2), (Z8m x2), (9, .rsl 9 0 0 v15.length), Z8t, (14, .j v9)]
abbrev Z8b : Env := [(Z8n t0), (2, sU t2), Z8p, (Z8m x2), (9, .rsl 9 0 0 v88.length), (12, .j v81)]
abbrev Z8c : Env := (101, .ipt (Z8v x2) ((1 : Int).toNat * 1)) :: (100, slA (eI .i64) x2) :: (99, slA eS_Node t0) :: (98, .rsl 9 0 0 ((v42 ++ x44).length)) :: (9, .rsl 9 0 0 ((v42 ++ x44).length)) :: (Z7y t0 t2 x2)
abbrev Z8d : Env := [(Z8n t0), (2, sU t2), (Z8m x2), (9, .rsl 9 0 0 v67.length), (11, .j v62)]
abbrev Z8e : Env := [(Z8m x2), Z8p, (Z8n t0), (2, sU t2)]
abbrev Z8f : Env := [(Z8n t0), (1, .j t1), (2, sU t2)]
abbrev Z8g : Hp := [(13, ⟨0, true, 79, 3, [.int .u8 (v16.getD 0 0), .int .u8 (v16.getD 1 0), .int .u8 (v16.getD 2 0)]⟩)]
abbrev Z8h : Hp := [(13, ⟨0, true, 79, 3, (Z8y x5)⟩)]
abbrev Z8i : Hp := [(13, ⟨0, true, 79, 3, [.int .u8 (v8.getD 0 0), .int .u8 (v8.getD 1 0), .int .u8 (v8.getD 2 0)]⟩)]
abbrev Z8j : Env := [(Z8n t0), (2, sU t2), Z8p, (Z8m x2), (9, .rsl 9 0 0 v42.length)]
end
theorem f_R10_write_body_ok {rec_f_R10_write : (List S_Node) → Int → (List Int) → Option (List Int)} (hrec_f_R10_write : ∀ (t0 : List S_Node) (t1 : Int) (t2 : List Int) (r : List Int), rec_f_R10_write t0 t1 t2 = some r → QSpec Tryd.prog 31 [slA eS_Node t0, .int .i64 t1, slA (eI .u8) t2] (slA (eI .u8) r)) {t0 : List S_Node} {t1 : Int} {t2 : List Int} {r : List Int} (H : f_R10_write_body rec_f_R10_write t0 t1 t2 = some r) : QSpec Tryd.prog 31 [slA eS_Node t0, .int .i64 t1, slA (eI .u8) t2] (slA (eI .u8) r) := by
  refine Spec.of_AW Tryd.func31 rfl (by simp [Tryd.ntmps31]) ?_
  rw [Tryd.ntmps31]
  unfold f_R10_write_body at H
  change AW _ _ _ (Z8f t0 t1 t2) [] _
  refine AW.regionSeq (OpsW.sg 1 [0, 1, 2] (Z8f t0 t1 t2) ?_)
  refine OpsW.nil (AW.regionSeq ?_)
  have ⟨g1, H⟩ := G_some H
  refine OpsW.sz 3 [17, 0, 1, 2] ((17, .ipt (t0.flatMap eS_Node) (t1.toNat * 2)) :: (Z8f t0 t1 t2)) ⟨g1, trivial⟩ (OpsW.asU (.agg (Z8o t0 t1)) rfl rfl (T.loadAgg (cs := t0.flatMap eS_Node) (off := t1.toNat * 2) (ds := eS_Node (Z8k t0 t1)) rfl trivial (by kernel_rfl) (by have := fm_length eS_Node 2 (fun _ => rfl) t0; have := (ltN g1); first | omega | (simp only [Z8k] at *; omega)) (fm_elem eS_Node 2 (fun _ => rfl) t0 zS_Node t1.toNat (ltN g1))) (OpsW.alloc' rfl rfl rfl 7 rfl (by kernel_rfl : zc Tryd.prog 38 = some [.j 0, .j 0]) (by kernel_rfl) (OpsW.store rfl rfl rfl rfl trivial trivial rfl rfl rfl (by kernel_rfl) (okCb_sound (by kernel_rfl)) (Nat.le_of_ble_eq_true (by kernel_rfl)) ?_)))
  change OpsW _ _ _ _ _ [(7, ⟨0, true, 38, 2, (Z8o t0 t1)⟩), (7, ⟨0, true, 38, 2, [.j (0 : Int), .j (0 : Int)]⟩)] _
  refine OpsW.sg 0 [7, 0, 1, 2] (Z8p :: (Z8f t0 t1 t2)) (OpsW.rc (Z8p :: (Z8f t0 t1 t2)) [(7, ⟨0, true, 38, 2, (Z8o t0 t1)⟩)] (StC.mk (phi [(7, some 7)]) (.o rfl (.i2 .nil) .nil) rfl (.cons (.r rfl) (.i3 .nil))) ?_)
  refine OpsW.nil (AW.regionSeq (OpsW.sg 2 [20, 19, 7, 0, 2] [(20, .j t1), (19, slA eS_Node t0), Z8p, (Z8n t0), (2, sU t2)] ?_))
  have ⟨x2, hx2, H⟩ := bindS H
  refine OpsW.qc rfl (.cons (.pur rfl) (.cons (.pur rfl) .nil)) (f_R09_Operands_ok hx2) (OpsW.sg 1 [8, 7, 0, 2] (Z8e t0 t2 x2) ?_)
  refine OpsW.nil (AW.regionSeq (OpsW.buildT (enc := eI .u8) Z8l rfl rfl rfl 22 rfl E39 (fun _ => rfl) (by decide) trivial (by kernel_rfl) (by kernel_rfl) (by kernel_rfl) rfl ?_))
  refine OpsW.sg 1 [9, 8, 7, 0, 2] ((9, .rsl 22 0 0 (Z8l.length)) :: (Z8e t0 t2 x2)) (OpsW.rc (Z8r :: (Z8e t0 t2 x2)) (Z80 t0 t1) (StC.mk (phi [(7, some 7), (9, some 22)]) (.o rfl (.i2 .nil) (.o rfl (CstL.ims _) .nil)) rfl (.cons (.s rfl) (.cons .im (.cons (.r rfl) (.i2 .nil))))) (OpsW.nil ?_))
  refine AW.joinK (fun (y : S_Node × (List Int)) => f_R10_write_body_k3 rec_f_R10_write t0 t2 x2 y.1 y.2) r (fun (y : S_Node × (List Int)) => [(Z8n t0), (2, sU t2), Z8p, (Z8m x2), (9, .rsl 9 0 0 y.2.length)]) (fun (y : S_Node × (List Int)) => [(7, ⟨0, true, 38, 2, [.j y.1.Op, .j y.1.N]⟩), (9, rtA 0 41 1 (eI .u8) y.2)]) ?_ ?_
  · refine AW.regionSeq (OpsW.sg 2 [24, 9, 8, 7, 0, 2] (Z7z t0 t1 t2 x2) ?_)
    refine OpsW.nil (AW.block (AW.regionSeq (OpsW.sg 2 [25, 24, 9, 8, 7, 0, 2] ((25, .bool ((Z8u t0 t1) == 0)) :: (Z7z t0 t1 t2 x2)) ?_)))
    refine OpsW.nil (AW.condH (b := (Z8u t0 t1) == 0) H rfl (fun c23 H => ?_) (fun c23 H => ?_))
    · refine AW.regionSeq (OpsW.sg 2 [28] [(28, .j ((Z8k t0 t1).N))] ?_)
      have ⟨x24, hx24, H⟩ := bindS H
      refine OpsW.qc rfl (.cons (.pur rfl) .nil) (f_R10_number_ok hx24) (OpsW.sg 1 [6] [(6, sU x24)] (OpsW.nil ?_))
      obtain rfl := Option.some.inj H
      refine AW.recast (env' := [(6, sU x24)]) (h' := []) (StC.pure (.cons .im .nil)) (AW.ret ?_)
      try simp only [Ex.t, Ex.b]
      exact Done.eq rfl (.tmp .nil)
    refine AW.regionSeq (OpsW.sg 2 [30, 24, 9, 8, 7, 0, 2] ((30, .bool ((Z8u t0 t1) == 1)) :: (Z7z t0 t1 t2 x2)) ?_)
    refine OpsW.nil (AW.condH (b := (Z8u t0 t1) == 1) H rfl (fun c25 H => ?_) (fun c25 H => ?_))
    · refine AW.regionSeq (OpsW.sg 2 [33] [(33, .j ((Z8k t0 t1).N))] ?_)
      have ⟨x26, hx26, H⟩ := bindS H
      refine OpsW.qc rfl (.cons (.pur rfl) .nil) (f_R10_letter_ok hx26) (OpsW.buildTI (enc := eI .u8) [(48 : Int), x26] rfl rfl rfl E39 (fun _ => rfl) (by decide) ⟨trivial, by kernel_rfl, by kernel_rfl, by kernel_rfl, rfl⟩ (OpsW.sg 1 [6] [(6, sU [(48 : Int), x26])] (OpsW.nil ?_)))
      obtain rfl := Option.some.inj H
      refine AW.recast (env' := [(6, sU [(48 : Int), x26])]) (h' := []) (StC.pure (.cons .im .nil)) (AW.ret ?_)
      try simp only [Ex.t, Ex.b]
      exact Done.eq rfl (.tmp .nil)
    refine AW.joinK (fun (y : Bool) => f_R10_write_body_k10 rec_f_R10_write t0 t1 t2 x2 y) r (fun (y : Bool) => [(Z8n t0), (2, sU t2), Z8p, (Z8m x2), Z8r, (24, .j (Z8u t0 t1)), (36, .bool y)]) (fun (y : Bool) => (Z80 t0 t1)) ?_ ?_
    · refine AW.regionSeq (OpsW.sg 2 [36, 24, 9, 8, 7, 0, 2] ((36, .bool ((Z8u t0 t1) == 2)) :: (Z7z t0 t1 t2 x2)) ?_)
      refine OpsW.nil (AW.condH (b := (Z8u t0 t1) == 2) H rfl (fun c99 H => ?_) (fun c99 H => ?_))
      · refine AW.skip ?_
        exact ⟨(Z8u t0 t1) == 2, H, (StC.mk (phi [(7, some 7), (9, some 9)]) (.o rfl (.i2 .nil) (.o rfl (CstL.ims _) .nil)) rfl (.i2 (.cons (.r rfl) (.cons .im (.cons (.s rfl) (.i2 .nil))))))⟩
      refine AW.regionSeq (OpsW.sg 2 [36, 24, 9, 8, 7, 0, 2] ((36, .bool ((Z8u t0 t1) == 3)) :: (Z7z t0 t1 t2 x2)) ?_)
      refine OpsW.nil (AW.condH (b := (Z8u t0 t1) == 3) H rfl (fun c100 H => ?_) (fun c100 H => ?_))
      · refine AW.skip ?_
        exact ⟨(Z8u t0 t1) == 3, H, (StC.mk (phi [(7, some 7), (9, some 9)]) (.o rfl (.i2 .nil) (.o rfl (CstL.ims _) .nil)) rfl (.i2 (.cons (.r rfl) (.cons .im (.cons (.s rfl) (.i2 .nil))))))⟩
      refine AW.regionSeq (OpsW.sg 2 [36, 24, 9, 8, 7, 0, 2] ((36, .bool ((Z8u t0 t1) == 4)) :: (Z7z t0 t1 t2 x2)) ?_)
      refine OpsW.nil (AW.condH (b := (Z8u t0 t1) == 4) H rfl (fun c101 H => ?_) (fun c101 H => ?_))
      · refine AW.skip ?_
        exact ⟨(Z8u t0 t1) == 4, H, (StC.mk (phi [(7, some 7), (9, some 9)]) (.o rfl (.i2 .nil) (.o rfl (CstL.ims _) .nil)) rfl (.i2 (.cons (.r rfl) (.cons .im (.cons (.s rfl) (.i2 .nil))))))⟩
      refine AW.region (OpsW.sg 2 [36, 24, 9, 8, 7, 0, 2] ((36, .bool ((Z8u t0 t1) == 5)) :: (Z7z t0 t1 t2 x2)) ?_)
      refine OpsW.nil ?_
      exact ⟨(Z8u t0 t1) == 5, H, (StC.mk (phi [(7, some 7), (9, some 9)]) (.o rfl (.i2 .nil) (.o rfl (CstL.ims _) .nil)) rfl (.i2 (.cons (.r rfl) (.cons .im (.cons (.s rfl) (.i2 .nil))))))⟩
    intro v27 H
    unfold f_R10_write_body_k10 at H
    change AW _ _ _ [(Z8n t0), (2, sU t2), Z8p, (Z8m x2), Z8r, (24, .j (Z8u t0 t1)), (36, .bool v27)] (Z80 t0 t1) _
    refine AW.condH (b := v27) H rfl (fun c28 H => ?_) (fun c28 H => ?_)
    · refine AW.regionSeq ?_
      have ⟨g29, H⟩ := G_some H
      refine OpsW.sz 4 [44, 42, 41, 0, 2, 7, 8, 9] ((44, .ipt (Z8v x2) ((0 : Int).toNat * 1)) :: (42, slA eS_Node t0) :: (41, .rsl 9 0 0 (Z8l.length)) :: (Z7x t0 t2 x2)) ⟨g29, trivial⟩ (OpsW.asU (.j (Z8s x2)) rfl rfl (T.load rfl trivial (by kernel_rfl) (fm_cell0 (eI .i64) 1 (fun _ => rfl) x2 (0 : Int) (0 : Int).toNat (ltN g29) (fun a => .val (.j a)) (fun _ => rfl))) (OpsW.sg 1 [46, 45, 42, 41, 0, 2, 7, 8, 9] ((46, sU t2) :: (45, .j (Z8s x2)) :: (42, slA eS_Node t0) :: (41, .rsl 9 0 0 (Z8l.length)) :: (Z7x t0 t2 x2)) ?_))
      have ⟨x30, hx30, H⟩ := bindS H
      refine OpsW.qc rfl (.cons (.pur rfl) (.cons (.pur rfl) (.cons (.pur rfl) .nil))) (hrec_f_R10_write _ _ _ _ hx30) ?_
      have ⟨g31, H⟩ := G_some H
      refine OpsW.appendF (enc := eI .u8) (ys := x30) rfl rfl rfl E39 (fun _ => rfl) rfl rfl trivial (SrcA.typed (enc := eI .u8) (fun _ => rfl) (by kernel_rfl) x30) rfl g31 (OpsW.sg 1 [9, 0, 2, 7, 8] ((9, .rsl 9 1 0 ((Z8l ++ x30).length)) :: (Z7y t0 t2 x2)) (OpsW.rc ((9, .rsl 9 0 0 ((Z8l ++ x30).length)) :: (Z7y t0 t2 x2)) [(7, ⟨0, true, 38, 2, (Z8o t0 t1)⟩), (9, rtA 0 41 1 (eI .u8) (Z8l ++ x30))] (StC.mk (phi [(7, some 7), (9, some 9)]) (.o rfl (.i2 .nil) (.o rfl (CstL.ims _) .nil)) rfl (.cons (.s rfl) (.i2 (.cons (.r rfl) (.cons .im .nil))))) ?_))
      refine OpsW.nil (AW.regionSeq (OpsW.sg 3 [51, 49, 9, 0, 2, 8] ((51, .j (Z8u t0 t1)) :: (49, .rsl 9 0 0 ((Z8l ++ x30).length)) :: (9, .rsl 9 0 0 ((Z8l ++ x30).length)) :: (Z84 t0 t2 x2)) ?_))
      have ⟨x32, hx32, H⟩ := bindS H
      refine OpsW.qc rfl (.cons (.pur rfl) .nil) (f_R10_operator_ok hx32) ?_
      have ⟨g33, H⟩ := G_some H
      refine OpsW.appendF (enc := eI .u8) (ys := x32) rfl rfl rfl E39 (fun _ => rfl) rfl rfl trivial (SrcA.typed (enc := eI .u8) (fun _ => rfl) (by kernel_rfl) x32) rfl g33 (OpsW.sg 1 [9, 0, 2, 8] ((9, .rsl 9 1 0 (((Z8l ++ x30) ++ x32).length)) :: (Z84 t0 t2 x2)) (OpsW.rc ((9, .rsl 9 0 0 (((Z8l ++ x30) ++ x32).length)) :: (Z84 t0 t2 x2)) [(9, rtA 0 41 1 (eI .u8) ((Z8l ++ x30) ++ x32))] (StC.mk (phi [(9, some 9)]) (.o rfl (CstL.ims _) .nil) rfl (.cons (.s rfl) (.i3 .nil))) ?_))
      refine OpsW.nil (AW.regionSeq ?_)
      have ⟨g34, H⟩ := G_some H
      refine OpsW.sz 4 [57, 55, 54, 2] [(57, .ipt (Z8v x2) ((1 : Int).toNat * 1)), (55, slA eS_Node t0), (54, .rsl 9 0 0 (((Z8l ++ x30) ++ x32).length)), (2, sU t2)] ⟨g34, trivial⟩ (OpsW.asU (.j (Z8w x2)) rfl rfl (T.load rfl trivial (by kernel_rfl) (fm_cell0 (eI .i64) 1 (fun _ => rfl) x2 (0 : Int) (1 : Int).toNat (ltN g34) (fun a => .val (.j a)) (fun _ => rfl))) (OpsW.sg 1 [59, 58, 55, 54] [(59, sU t2), (58, .j (Z8w x2)), (55, slA eS_Node t0), (54, .rsl 9 0 0 (((Z8l ++ x30) ++ x32).length))] ?_))
      have ⟨x35, hx35, H⟩ := bindS H
      refine OpsW.qc rfl (.cons (.pur rfl) (.cons (.pur rfl) (.cons (.pur rfl) .nil))) (hrec_f_R10_write _ _ _ _ hx35) ?_
      have ⟨g36, H⟩ := G_some H
      refine OpsW.appendF (enc := eI .u8) (ys := x35) rfl rfl rfl E39 (fun _ => rfl) rfl rfl trivial (SrcA.typed (enc := eI .u8) (fun _ => rfl) (by kernel_rfl) x35) rfl g36 (OpsW.sg 1 [6] [(6, .rsl 9 1 0 ((((Z8l ++ x30) ++ x32) ++ x35).length))] (OpsW.rc [(6, sU (((Z8l ++ x30) ++ x32) ++ x35))] [] (StC.mk (phi []) .nil rfl (.cons (.frz rfl rfl rfl (frz_all (eI .u8) 1 (fun _ => rfl) (((Z8l ++ x30) ++ x32) ++ x35)) (fm_length (eI .u8) 1 (fun _ => rfl) (((Z8l ++ x30) ++ x32) ++ x35)) (phi_ne rfl)) .nil)) (OpsW.nil ?_)))
      obtain rfl := Option.some.inj H
      refine AW.recast (env' := [(6, sU (((Z8l ++ x30) ++ x32) ++ x35))]) (h' := []) (StC.pure (.cons .im .nil)) (AW.ret ?_)
      try simp only [Ex.t, Ex.b]
      exact Done.eq rfl (.tmp .nil)
    refine AW.joinK (fun (y : Bool) => f_R10_write_body_k9 rec_f_R10_write t0 t1 t2 x2 y) r (fun (y : Bool) => [(Z8n t0), (2, sU t2), Z8p, (Z8m x2), Z8r, (24, .j (Z8u t0 t1)), (62, .bool y)]) (fun (y : Bool) => (Z80 t0 t1)) ?_ ?_
    · refine AW.regionSeq (OpsW.sg 2 [62, 0, 2, 7, 8, 9, 24] ((62, .bool ((Z8u t0 t1) == 7)) :: (Z85 t0 t1 t2 x2)) ?_)
      refine OpsW.nil (AW.condH (b := (Z8u t0 t1) == 7) H rfl (fun c98 H => ?_) (fun c98 H => ?_))
      · refine AW.skip ?_
        exact ⟨(Z8u t0 t1) == 7, H, (StC.mk (phi [(7, some 7), (9, some 9)]) (.o rfl (.i2 .nil) (.o rfl (CstL.ims _) .nil)) rfl (.i2 (.cons (.r rfl) (.cons .im (.cons (.s rfl) (.i2 .nil))))))⟩
      refine AW.region (OpsW.sg 2 [62, 0, 2, 7, 8, 9, 24] ((62, .bool ((Z8u t0 t1) == 8)) :: (Z85 t0 t1 t2 x2)) ?_)
      refine OpsW.nil ?_
      exact ⟨(Z8u t0 t1) == 8, H, (StC.mk (phi [(7, some 7), (9, some 9)]) (.o rfl (.i2 .nil) (.o rfl (CstL.ims _) .nil)) rfl (.i2 (.cons (.r rfl) (.cons .im (.cons (.s rfl) (.i2 .nil))))))⟩
    intro v37 H
    unfold f_R10_write_body_k9 at H
    change AW _ _ _ [(Z8n t0), (2, sU t2), Z8p, (Z8m x2), Z8r, (24, .j (Z8u t0 t1)), (62, .bool v37)] (Z80 t0 t1) _
    refine AW.condH (b := v37) H rfl (fun c38 H => ?_) (fun c38 H => ?_)
    · refine AW.regionSeq ?_
      have ⟨g39, H⟩ := G_some H
      refine OpsW.sz 3 [67, 65, 0, 2, 7, 8, 9] ((67, .ipt (Z8v x2) ((0 : Int).toNat * 1)) :: (65, slA eS_Node t0) :: (Z7x t0 t2 x2)) ⟨g39, trivial⟩ (OpsW.asU (.j (Z8s x2)) rfl rfl (T.load rfl trivial (by kernel_rfl) (fm_cell0 (eI .i64) 1 (fun _ => rfl) x2 (0 : Int) (0 : Int).toNat (ltN g39) (fun a => .val (.j a)) (fun _ => rfl))) (OpsW.sg 1 [69, 68, 65, 0, 2, 7, 8, 9] ((69, sU t2) :: (68, .j (Z8s x2)) :: (65, slA eS_Node t0) :: (Z7x t0 t2 x2)) ?_))
      have ⟨x40, hx40, H⟩ := bindS H
      refine OpsW.qc rfl (.cons (.pur rfl) (.cons (.pur rfl) (.cons (.pur rfl) .nil))) (hrec_f_R10_write _ _ _ _ hx40) (OpsW.sg 1 [10, 0, 2, 7, 8, 9] ((10, sU x40) :: (Z7x t0 t2 x2)) (OpsW.nil ?_))
      refine AW.joinK (fun (y : S_Node × (List Int)) => f_R10_write_body_k4 rec_f_R10_write t0 t2 x2 y.1 y.2) r (fun (y : S_Node × (List Int)) => [(Z8n t0), (2, sU t2), Z8p, (Z8m x2), (9, .rsl 9 0 0 y.2.length)]) (fun (y : S_Node × (List Int)) => [(7, ⟨0, true, 38, 2, [.j y.1.Op, .j y.1.N]⟩), (9, rtA 0 41 1 (eI .u8) y.2)]) ?_ ?_
      · refine AW.regionSeq (OpsW.sz 3 [73, 71, 10, 0, 2, 7, 8, 9] ((73, .ipt (Z8v x2) ((0 : Int).toNat * 1)) :: (71, slA eS_Node t0) :: (10, sU x40) :: (Z7x t0 t2 x2)) ⟨g39, trivial⟩ ?_)
        refine OpsW.asU (.j (Z8s x2)) rfl rfl (T.load rfl trivial (by kernel_rfl) (fm_cell0 (eI .i64) 1 (fun _ => rfl) x2 (0 : Int) (0 : Int).toNat (ltN g39) (fun a => .val (.j a)) (fun _ => rfl))) ?_
        have ⟨g52, H⟩ := G_some H
        refine OpsW.sz 2 [76, 10, 0, 2, 7, 8, 9] ((76, .ipt (t0.flatMap eS_Node) ((Z8s x2).toNat * 2 + 0)) :: (10, sU x40) :: (Z7x t0 t2 x2)) ⟨g52, trivial⟩ (OpsW.asU (.j ((t0.getD (x2.getD (0 : Int).toNat (0 : Int)).toNat zS_Node).Op)) rfl rfl (T.load rfl trivial (by kernel_rfl) (fm_cell eS_Node 2 (fun _ => rfl) t0 zS_Node (Z8s x2).toNat (ltN g52) 0 (fun a => .val (.j a.Op)) (fun _ => rfl))) ?_)
        have ⟨x53, hx53, H⟩ := bindS H
        refine OpsW.qc rfl (.cons (.pur rfl) .nil) (f_R10_Simple_ok hx53) (OpsW.sg 0 [78, 10, 0, 2, 7, 8, 9] ((78, .bool x53) :: (10, sU x40) :: (Z7x t0 t2 x2)) (OpsW.nil (AW.condH (b := x53) H rfl (fun c54 H => ?_) (fun c54 H => ?_))))
        · refine AW.region (OpsW.sg 2 [80, 79, 0, 2, 7, 8, 9] ((80, sU x40) :: (79, .rsl 9 0 0 (Z8l.length)) :: (Z7x t0 t2 x2)) ?_)
          have ⟨g55, H⟩ := G_some H
          refine OpsW.appendF (enc := eI .u8) (ys := x40) rfl rfl rfl E39 (fun _ => rfl) rfl rfl trivial (SrcA.typed (enc := eI .u8) (fun _ => rfl) (by kernel_rfl) x40) rfl g55 (OpsW.sg 1 [9, 0, 2, 7, 8] ((9, .rsl 9 1 0 ((Z8l ++ x40).length)) :: (Z7y t0 t2 x2)) (OpsW.rc ((9, .rsl 9 0 0 ((Z8l ++ x40).length)) :: (Z7y t0 t2 x2)) [(7, ⟨0, true, 38, 2, (Z8o t0 t1)⟩), (9, rtA 0 41 1 (eI .u8) (Z8l ++ x40))] (StC.mk (phi [(7, some 7), (9, some 9)]) (.o rfl (.i2 .nil) (.o rfl (CstL.ims _) .nil)) rfl (.cons (.s rfl) (.i2 (.cons (.r rfl) (.cons .im .nil))))) (OpsW.nil ?_)))
          exact ⟨((Z8k t0 t1), Z8l ++ x40), H, (StC.mk (phi [(7, some 7), (9, some 9)]) (.o rfl (.i2 .nil) (.o rfl (CstL.ims _) .nil)) rfl (.i2 (.cons (.r rfl) (.cons .im (.cons (.s rfl) .nil)))))⟩
        refine AW.regionSeq (OpsW.sg 1 [82, 10, 0, 2, 7, 8, 9] ((82, .rsl 9 0 0 (Z8l.length)) :: (10, sU x40) :: (Z7x t0 t2 x2)) ?_)
        have ⟨g56, H⟩ := G_some H
        refine OpsW.appendLF (enc := eI .u8) [(35 : Int)] rfl rfl rfl (by decide) rfl rfl rfl (by simp) E39 (fun _ => rfl) (by decide) trivial (by kernel_rfl) (by kernel_rfl) (by kernel_rfl) rfl rfl rfl g56 (OpsW.sg 1 [9, 10, 0, 2, 7, 8] ((9, .rsl 9 1 0 (Z8q.length)) :: (10, sU x40) :: (Z7y t0 t2 x2)) (OpsW.rc ((9, .rsl 9 0 0 (Z8q.length)) :: (10, sU x40) :: (Z7y t0 t2 x2)) [(7, ⟨0, true, 38, 2, (Z8o t0 t1)⟩), (9, rtA 0 41 1 (eI .u8) Z8q)] (StC.mk (phi [(7, some 7), (9, some 9)]) (.o rfl (.i2 .nil) (.o rfl (CstL.ims _) .nil)) rfl (.cons (.s rfl) (.i3 (.cons (.r rfl) (.cons .im .nil))))) ?_))
        refine OpsW.nil (AW.regionSeq (OpsW.sg 2 [86, 85, 9, 0, 2, 7, 8] ((86, sU x40) :: (85, .rsl 9 0 0 (Z8q.length)) :: (9, .rsl 9 0 0 (Z8q.length)) :: (Z7y t0 t2 x2)) ?_))
        have ⟨g57, H⟩ := G_some H
        refine OpsW.appendF (enc := eI .u8) (ys := x40) rfl rfl rfl E39 (fun _ => rfl) rfl rfl trivial (SrcA.typed (enc := eI .u8) (fun _ => rfl) (by kernel_rfl) x40) rfl g57 (OpsW.sg 1 [9, 0, 2, 7, 8] ((9, .rsl 9 1 0 ((Z8q ++ x40).length)) :: (Z7y t0 t2 x2)) (OpsW.rc ((9, .rsl 9 0 0 ((Z8q ++ x40).length)) :: (Z7y t0 t2 x2)) [(7, ⟨0, true, 38, 2, (Z8o t0 t1)⟩), (9, rtA 0 41 1 (eI .u8) (Z8q ++ x40))] (StC.mk (phi [(7, some 7), (9, some 9)]) (.o rfl (.i2 .nil) (.o rfl (CstL.ims _) .nil)) rfl (.cons (.s rfl) (.i2 (.cons (.r rfl) (.cons .im .nil))))) ?_))
        refine OpsW.nil (AW.region (OpsW.sg 1 [88, 9, 0, 2, 7, 8] ((88, .rsl 9 0 0 ((Z8q ++ x40).length)) :: (9, .rsl 9 0 0 ((Z8q ++ x40).length)) :: (Z7y t0 t2 x2)) ?_))
        have ⟨g58, H⟩ := G_some H
        refine OpsW.appendLF (enc := eI .u8) [(50 : Int)] rfl rfl rfl (by decide) rfl rfl rfl (by simp) E39 (fun _ => rfl) (by decide) trivial (by kernel_rfl) (by kernel_rfl) (by kernel_rfl) rfl rfl rfl g58 (OpsW.sg 1 [9, 0, 2, 7, 8] ((9, .rsl 9 1 0 (((Z8q ++ x40) ++ [(50 : Int)]).length)) :: (Z7y t0 t2 x2)) (OpsW.rc ((9, .rsl 9 0 0 (((Z8q ++ x40) ++ [(50 : Int)]).length)) :: (Z7y t0 t2 x2)) [(7, ⟨0, true, 38, 2, (Z8o t0 t1)⟩), (9, rtA 0 41 1 (eI .u8) ((Z8q ++ x40) ++ [(50 : Int)]))] (StC.mk (phi [(7, some 7), (9, some 9)]) (.o rfl (.i2 .nil) (.o rfl (CstL.ims _) .nil)) rfl (.cons (.s rfl) (.i2 (.cons (.r rfl) (.cons .im .nil))))) (OpsW.nil ?_)))
        exact ⟨((Z8k t0 t1), (Z8q ++ x40) ++ [(50 : Int)]), H, (StC.mk (phi [(7, some 7), (9, some 9)]) (.o rfl (.i2 .nil) (.o rfl (CstL.ims _) .nil)) rfl (.i2 (.cons (.r rfl) (.cons .im (.cons (.s rfl) .nil)))))⟩
      rintro ⟨v41, v42⟩ H
      unfold f_R10_write_body_k4 at H
      change AW _ _ _ (Z8j t0 t2 v42 x2) [(7, ⟨0, true, 38, 2, [.j v41.Op, .j v41.N]⟩), (9, rtA 0 41 1 (eI .u8) v42)] _
      refine AW.regionSeq (OpsW.sg 4 [94, 92, 91, 0, 2, 7, 8, 9] ((94, .j v41.Op) :: (92, sU t2) :: (91, .rsl 9 0 0 v42.length) :: (Z8j t0 t2 v42 x2)) ?_)
      have ⟨x43, hx43, H⟩ := bindS H
      refine OpsW.qc rfl (.cons (.pur rfl) (.cons (.pur rfl) .nil)) (f_R10_under_ok hx43) ?_
      have ⟨x44, hx44, H⟩ := bindS H
      refine OpsW.qc rfl (.cons (.pur rfl) .nil) (f_R10_sign_ok hx44) ?_
      have ⟨g45, H⟩ := G_some H
      refine OpsW.appendF (enc := eI .u8) (ys := x44) rfl rfl rfl E39 (fun _ => rfl) rfl rfl trivial (SrcA.typed (enc := eI .u8) (fun _ => rfl) (by kernel_rfl) x44) rfl g45 (OpsW.sg 1 [9, 0, 2, 7, 8] ((9, .rsl 9 1 0 ((v42 ++ x44).length)) :: (Z7y t0 t2 x2)) (OpsW.rc ((9, .rsl 9 0 0 ((v42 ++ x44).length)) :: (Z7y t0 t2 x2)) [(7, ⟨0, true, 38, 2, [.j v41.Op, .j v41.N]⟩), (9, rtA 0 41 1 (eI .u8) (v42 ++ x44))] (StC.mk (phi [(7, some 7), (9, some 9)]) (.o rfl (.i2 .nil) (.o rfl (CstL.ims _) .nil)) rfl (.cons (.s rfl) (.i2 (.cons (.r rfl) (.cons .im .nil))))) ?_))
      refine OpsW.nil (AW.drawTSeq 10 Tryd.checked.mixed (by kernel_rfl) ?_)
      have ⟨g46, H⟩ := G_some H
      refine QOps.sz (N := 225) 4 (Z8c t0 t2 v42 x2 x44) ⟨g46, trivial⟩ (QOps.asU (.j (Z8w x2)) rfl (T.load rfl trivial (by kernel_rfl) (fm_cell0 (eI .i64) 1 (fun _ => rfl) x2 (0 : Int) (1 : Int).toNat (ltN g46) (fun a => .val (.j a)) (fun _ => rfl))) (QOps.sz (N := 225) 3 ((105, .j v41.Op) :: (104, .ref 7 0 0) :: (103, sU t2) :: (102, .j (Z8w x2)) :: (Z8c t0 t2 v42 x2 x44)) trivial ?_))
      have ⟨x47, hx47, H⟩ := bindS H
      refine QOps.qcall rfl (by kernel_rfl) rfl (glAll_sound trivial) (.cons (.pur rfl) (.cons (.pur rfl) .nil)) (f_R10_under_ok hx47) rfl ?_
      have ⟨x48, hx48, H⟩ := bindS H
      refine QOps.qcall rfl (by kernel_rfl) rfl (glAll_sound trivial) (.cons (.pur rfl) (.cons (.pur rfl) (.cons (.pur rfl) .nil))) (hrec_f_R10_write _ _ _ _ hx48) rfl ?_
      refine QOps.nil (OpsW.sg 0 [107, 98, 9, 2] [(107, sU x48), (98, .rsl 9 0 0 ((v42 ++ x44).length)), (9, .rsl 9 0 0 ((v42 ++ x44).length)), (2, sU t2)] ?_)
      have ⟨g49, H⟩ := G_some H
      refine OpsW.appendF (enc := eI .u8) (ys := x48) rfl rfl rfl E39 (fun _ => rfl) rfl rfl trivial (SrcA.typed (enc := eI .u8) (fun _ => rfl) (by kernel_rfl) x48) rfl g49 (OpsW.sg 1 [9, 2] [(9, .rsl 9 1 0 (((v42 ++ x44) ++ x48).length)), (2, sU t2)] (OpsW.rc [(9, .rsl 9 0 0 (((v42 ++ x44) ++ x48).length)), (2, sU t2)] [(9, rtA 0 41 1 (eI .u8) ((v42 ++ x44) ++ x48))] (StC.mk (phi [(9, some 9)]) (.o rfl (CstL.ims _) .nil) rfl (.cons (.s rfl) (.cons .im .nil))) ?_))
      refine OpsW.nil (AW.regionSeq (OpsW.sg 2 [110, 109] [(110, sU t2), (109, .rsl 9 0 0 (((v42 ++ x44) ++ x48).length))] ?_))
      have ⟨x50, hx50, H⟩ := bindS H
      refine OpsW.qc rfl (.cons (.pur rfl) .nil) (f_R10_sign_ok hx50) ?_
      have ⟨g51, H⟩ := G_some H
      refine OpsW.appendF (enc := eI .u8) (ys := x50) rfl rfl rfl E39 (fun _ => rfl) rfl rfl trivial (SrcA.typed (enc := eI .u8) (fun _ => rfl) (by kernel_rfl) x50) rfl g51 (OpsW.sg 1 [6] [(6, .rsl 9 1 0 ((((v42 ++ x44) ++ x48) ++ x50).length))] (OpsW.rc [(6, sU (((v42 ++ x44) ++ x48) ++ x50))] [] (StC.mk (phi []) .nil rfl (.cons (.frz rfl rfl rfl (frz_all (eI .u8) 1 (fun _ => rfl) (((v42 ++ x44) ++ x48) ++ x50)) (fm_length (eI .u8) 1 (fun _ => rfl) (((v42 ++ x44) ++ x48) ++ x50)) (phi_ne rfl)) .nil)) (OpsW.nil ?_)))
      obtain rfl := Option.some.inj H
      refine AW.recast (env' := [(6, sU (((v42 ++ x44) ++ x48) ++ x50))]) (h' := []) (StC.pure (.cons .im .nil)) (AW.ret ?_)
      try simp only [Ex.t, Ex.b]
      exact Done.eq rfl (.tmp .nil)
    refine AW.regionSeq (OpsW.sg 2 [113, 0, 2, 7, 8, 9, 24] ((113, .bool ((Z8u t0 t1) == 12)) :: (Z85 t0 t1 t2 x2)) ?_)
    refine OpsW.nil (AW.condH (b := (Z8u t0 t1) == 12) H rfl (fun c59 H => ?_) (fun c59 H => ?_))
    · refine AW.regionSeq (OpsW.sg 1 [115, 0, 2, 8, 9] [(115, .rsl 9 0 0 (Z8l.length)), (Z8n t0), (2, sU t2), (Z8m x2), Z8r] ?_)
      have ⟨g60, H⟩ := G_some H
      refine OpsW.appendLF (enc := eI .u8) [(56 : Int)] rfl rfl rfl (by decide) rfl rfl rfl (by simp) E39 (fun _ => rfl) (by decide) trivial (by kernel_rfl) (by kernel_rfl) (by kernel_rfl) rfl rfl rfl g60 (OpsW.sg 1 [9, 0, 2, 8] ((9, .rsl 9 1 0 Z8z) :: (Z84 t0 t2 x2)) (OpsW.rc ((9, .rsl 9 0 0 Z8z) :: (Z84 t0 t2 x2)) [(9, rtA 0 41 1 (eI .u8) (Z8l ++ [(56 : Int)]))] (StC.mk (phi [(9, some 9)]) (.o rfl (CstL.ims _) .nil) rfl (.cons (.s rfl) (.i3 .nil))) ?_))
      refine OpsW.nil (AW.seq (AW.regionSeq (OpsW.sg 1 [11, 9, 0, 2, 8] ((11, .j (0 : Int)) :: (9, .rsl 9 0 0 Z8z) :: (Z84 t0 t2 x2)) ?_)))
      refine OpsW.nil (AW.block ?_)
      refine AW.iterK (fun loop (s : (List Int) × Int) => f_R10_write_body_b2 rec_f_R10_write t0 t2 x2 loop s.1 s.2) r (fun (s : (List Int) × Int) => [(Z8n t0), (2, sU t2), (Z8m x2), (9, .rsl 9 0 0 s.1.length), (11, .j s.2)]) (fun (s : (List Int) × Int) => [(9, rtA 0 41 1 (eI .u8) s.1)]) ?_ 1000000 (Z8l ++ [(56 : Int)], (0 : Int)) H (StC.mk (phi [(9, some 9)]) (.o rfl (CstL.ims _) .nil) rfl (.i3 (.cons (.s rfl) (.cons .im .nil))))
      intro loop63 s H
      obtain ⟨v61, v62⟩ := s
      unfold f_R10_write_body_b2 at H
      change AW _ _ _ (Z82 t0 t2 v61 v62 x2) [(9, rtA 0 41 1 (eI .u8) v61)] _
      refine AW.seq (AW.regionSeq (OpsW.sg 4 [121, 0, 2, 8, 9, 11] ((121, .bool (decide (v62 < (Z8x x2)))) :: (Z82 t0 t2 v61 v62 x2)) ?_))
      refine OpsW.nil (AW.condH (b := decide (v62 < (Z8x x2))) H rfl (fun c64 H => ?_) (fun c64 H => ?_))
      · refine AW.skip ?_
        refine AW.joinK (fun (y : (List Int)) => f_R10_write_body_k5 loop63 v62 y) r (fun (y : (List Int)) => [(Z8n t0), (2, sU t2), (Z8m x2), (9, .rsl 9 0 0 y.length), (11, .j v62)]) (fun (y : (List Int)) => [(9, rtA 0 41 1 (eI .u8) y)]) ?_ ?_
        · refine AW.block ?_
          refine AW.joinK (fun (y : (List Int)) => f_R10_write_body_k6 rec_f_R10_write t0 t2 x2 loop63 v62 y) r (fun (y : (List Int)) => [(Z8n t0), (2, sU t2), (Z8m x2), (9, .rsl 9 0 0 y.length), (11, .j v62)]) (fun (y : (List Int)) => [(9, rtA 0 41 1 (eI .u8) y)]) ?_ ?_
          · refine AW.regionSeq ?_
            have ⟨g71, H⟩ := G_some H
            refine OpsW.sz 5 [128, 0, 2, 8, 9, 11] ((128, .bool (v62 == ((Z8x x2) - 1))) :: (Z82 t0 t2 v61 v62 x2)) ⟨g71, trivial⟩ (OpsW.nil (AW.condH (b := v62 == ((Z8x x2) - 1)) H rfl (fun c72 H => ?_) (fun c72 H => ?_)))
            · refine AW.region (OpsW.sg 1 [129, 0, 2, 8, 9, 11] ((129, .rsl 9 0 0 v61.length) :: (Z82 t0 t2 v61 v62 x2)) ?_)
              have ⟨g73, H⟩ := G_some H
              refine OpsW.appendLF (enc := eI .u8) [(51 : Int)] rfl rfl rfl (by decide) rfl rfl rfl (by simp) E39 (fun _ => rfl) (by decide) trivial (by kernel_rfl) (by kernel_rfl) (by kernel_rfl) rfl rfl rfl g73 (OpsW.sg 1 [9, 0, 2, 8, 11] ((9, .rsl 9 1 0 ((v61 ++ [(51 : Int)]).length)) :: (Z87 t0 t2 v62 x2)) (OpsW.rc ((9, .rsl 9 0 0 ((v61 ++ [(51 : Int)]).length)) :: (Z87 t0 t2 v62 x2)) [(9, rtA 0 41 1 (eI .u8) (v61 ++ [(51 : Int)]))] (StC.mk (phi [(9, some 9)]) (.o rfl (CstL.ims _) .nil) rfl (.cons (.s rfl) (.i4 .nil))) (OpsW.nil ?_)))
              exact ⟨v61 ++ [(51 : Int)], H, (StC.mk (phi [(9, some 9)]) (.o rfl (CstL.ims _) .nil) rfl (.i3 (.cons (.s rfl) (.cons .im .nil))))⟩
            refine AW.regionSeq (OpsW.sg 2 [133, 0, 2, 8, 9, 11] ((133, .bool (decide (0 < v62))) :: (Z82 t0 t2 v61 v62 x2)) ?_)
            refine OpsW.nil (AW.condH (b := decide (0 < v62)) H rfl (fun c74 H => ?_) (fun c74 H => ?_))
            · refine AW.region (OpsW.sg 1 [134, 0, 2, 8, 9, 11] ((134, .rsl 9 0 0 v61.length) :: (Z82 t0 t2 v61 v62 x2)) ?_)
              have ⟨g75, H⟩ := G_some H
              refine OpsW.appendLF (enc := eI .u8) [(32 : Int)] rfl rfl rfl (by decide) rfl rfl rfl (by simp) E39 (fun _ => rfl) (by decide) trivial (by kernel_rfl) (by kernel_rfl) (by kernel_rfl) rfl rfl rfl g75 (OpsW.sg 1 [9, 0, 2, 8, 11] ((9, .rsl 9 1 0 ((v61 ++ [(32 : Int)]).length)) :: (Z87 t0 t2 v62 x2)) (OpsW.rc ((9, .rsl 9 0 0 ((v61 ++ [(32 : Int)]).length)) :: (Z87 t0 t2 v62 x2)) [(9, rtA 0 41 1 (eI .u8) (v61 ++ [(32 : Int)]))] (StC.mk (phi [(9, some 9)]) (.o rfl (CstL.ims _) .nil) rfl (.cons (.s rfl) (.i4 .nil))) (OpsW.nil ?_)))
              exact ⟨v61 ++ [(32 : Int)], H, (StC.mk (phi [(9, some 9)]) (.o rfl (CstL.ims _) .nil) rfl (.i3 (.cons (.s rfl) (.cons .im .nil))))⟩
            refine AW.skip ?_
            exact ⟨v61, H, (StC.mk (phi [(9, some 9)]) (.o rfl (CstL.ims _) .nil) rfl (.i3 (.cons (.s rfl) (.cons .im .nil))))⟩
          intro v67 H
          unfold f_R10_write_body_k6 at H
          change AW _ _ _ (Z8d t0 t2 v62 v67 x2) [(9, rtA 0 41 1 (eI .u8) v67)] _
          refine AW.region ?_
          have ⟨g68, H⟩ := G_some H
          refine OpsW.sz 5 [141, 138, 137, 0, 2, 8, 9, 11] ((141, .ipt (Z8v x2) (v62.toNat * 1)) :: (138, slA eS_Node t0) :: (137, .rsl 9 0 0 v67.length) :: (Z8d t0 t2 v62 v67 x2)) ⟨g68, trivial⟩ (OpsW.asU (.j (x2.getD v62.toNat 0)) rfl rfl (T.load rfl trivial (by kernel_rfl) (fm_cell0 (eI .i64) 1 (fun _ => rfl) x2 (0 : Int) v62.toNat (ltN g68) (fun a => .val (.j a)) (fun _ => rfl))) (OpsW.sg 1 [143, 142, 138, 137, 0, 2, 8, 9, 11] ((143, sU t2) :: (142, .j (x2.getD v62.toNat 0)) :: (138, slA eS_Node t0) :: (137, .rsl 9 0 0 v67.length) :: (Z8d t0 t2 v62 v67 x2)) ?_))
          have ⟨x69, hx69, H⟩ := bindS H
          refine OpsW.qc rfl (.cons (.pur rfl) (.cons (.pur rfl) (.cons (.pur rfl) .nil))) (hrec_f_R10_write _ _ _ _ hx69) ?_
          have ⟨g70, H⟩ := G_some H
          refine OpsW.appendF (enc := eI .u8) (ys := x69) rfl rfl rfl E39 (fun _ => rfl) rfl rfl trivial (SrcA.typed (enc := eI .u8) (fun _ => rfl) (by kernel_rfl) x69) rfl g70 (OpsW.sg 1 [9, 0, 2, 8, 11] ((9, .rsl 9 1 0 ((v67 ++ x69).length)) :: (Z87 t0 t2 v62 x2)) (OpsW.rc ((9, .rsl 9 0 0 ((v67 ++ x69).length)) :: (Z87 t0 t2 v62 x2)) [(9, rtA 0 41 1 (eI .u8) (v67 ++ x69))] (StC.mk (phi [(9, some 9)]) (.o rfl (CstL.ims _) .nil) rfl (.cons (.s rfl) (.i4 .nil))) (OpsW.nil ?_)))
          exact ⟨v67 ++ x69, H, (StC.mk (phi [(9, some 9)]) (.o rfl (CstL.ims _) .nil) rfl (.i3 (.cons (.s rfl) (.cons .im .nil))))⟩
        intro v65 H
        unfold f_R10_write_body_k5 at H
        change AW _ _ _ [(Z8n t0), (2, sU t2), (Z8m x2), (9, .rsl 9 0 0 v65.length), (11, .j v62)] [(9, rtA 0 41 1 (eI .u8) v65)] _
        refine AW.region ?_
        have ⟨g66, H⟩ := G_some H
        refine OpsW.sz 3 [11, 0, 2, 8, 9] [(11, .j (v62 + 1)), (Z8n t0), (2, sU t2), (Z8m x2), (9, .rsl 9 0 0 v65.length)] ⟨g66, trivial⟩ (OpsW.nil ?_)
        exact ⟨(v65, v62 + 1), H, (StC.mk (phi [(9, some 9)]) (.o rfl (CstL.ims _) .nil) rfl (.i3 (.cons (.s rfl) (.cons .im .nil))))⟩
      refine AW.exit ?_
      refine AW.regionSeq (OpsW.sg 1 [146] [(146, .rsl 9 0 0 v61.length)] ?_)
      have ⟨g76, H⟩ := G_some H
      refine OpsW.appendLF (enc := eI .u8) [(34 : Int)] rfl rfl rfl (by decide) rfl rfl rfl (by simp) E39 (fun _ => rfl) (by decide) trivial (by kernel_rfl) (by kernel_rfl) (by kernel_rfl) rfl rfl rfl g76 (OpsW.sg 1 [6] [(6, .rsl 9 1 0 ((v61 ++ [(34 : Int)]).length))] (OpsW.rc [(6, sU (v61 ++ [(34 : Int)]))] [] (StC.mk (phi []) .nil rfl (.cons (.frz rfl rfl rfl (frz_all (eI .u8) 1 (fun _ => rfl) (v61 ++ [(34 : Int)])) (fm_length (eI .u8) 1 (fun _ => rfl) (v61 ++ [(34 : Int)])) (phi_ne rfl)) .nil)) (OpsW.nil ?_)))
      obtain rfl := Option.some.inj H
      refine AW.recast (env' := [(6, sU (v61 ++ [(34 : Int)]))]) (h' := []) (StC.pure (.cons .im .nil)) (AW.ret ?_)
      try simp only [Ex.t, Ex.b]
      exact Done.eq rfl (.tmp .nil)
    refine AW.regionSeq (OpsW.sg 2 [149, 0, 2, 7, 8, 9] ((149, .bool ((Z8u t0 t1) == 13)) :: (Z7x t0 t2 x2)) ?_)
    refine OpsW.nil (AW.condH (b := (Z8u t0 t1) == 13) H rfl (fun c77 H => ?_) (fun c77 H => ?_))
    · refine AW.regionSeq (OpsW.sg 1 [151, 0, 2, 7, 8, 9] ((151, .rsl 9 0 0 (Z8l.length)) :: (Z7x t0 t2 x2)) ?_)
      have ⟨g78, H⟩ := G_some H
      refine OpsW.appendLF (enc := eI .u8) [(41 : Int)] rfl rfl rfl (by decide) rfl rfl rfl (by simp) E39 (fun _ => rfl) (by decide) trivial (by kernel_rfl) (by kernel_rfl) (by kernel_rfl) rfl rfl rfl g78 (OpsW.sg 1 [9, 0, 2, 7, 8] ((9, .rsl 9 1 0 Z90) :: (Z7y t0 t2 x2)) (OpsW.rc ((9, .rsl 9 0 0 Z90) :: (Z7y t0 t2 x2)) [(7, ⟨0, true, 38, 2, (Z8o t0 t1)⟩), (9, rtA 0 41 1 (eI .u8) (Z8l ++ [(41 : Int)]))] (StC.mk (phi [(7, some 7), (9, some 9)]) (.o rfl (.i2 .nil) (.o rfl (CstL.ims _) .nil)) rfl (.cons (.s rfl) (.i2 (.cons (.r rfl) (.cons .im .nil))))) ?_))
      refine OpsW.nil (AW.seq (AW.regionSeq (OpsW.sg 1 [12, 9, 0, 2, 7, 8] ((12, .j (0 : Int)) :: (9, .rsl 9 0 0 Z90) :: (Z7y t0 t2 x2)) ?_)))
      refine OpsW.nil (AW.block ?_)
      refine AW.iterK (fun loop (s : S_Node × (List Int) × Int) => f_R10_write_body_b3 rec_f_R10_write t0 t2 x2 loop s.1 s.2.1 s.2.2) r (fun (s : S_Node × (List Int) × Int) => [(Z8n t0), (2, sU t2), Z8p, (Z8m x2), (9, .rsl 9 0 0 s.2.1.length), (12, .j s.2.2)]) (fun (s : S_Node × (List Int) × Int) => [(7, ⟨0, true, 38, 2, [.j s.1.Op, .j s.1.N]⟩), (9, rtA 0 41 1 (eI .u8) s.2.1)]) ?_ 1000000 ((Z8k t0 t1), Z8l ++ [(41 : Int)], (0 : Int)) H (StC.mk (phi [(7, some 7), (9, some 9)]) (.o rfl (.i2 .nil) (.o rfl (CstL.ims _) .nil)) rfl (.i2 (.cons (.r rfl) (.cons .im (.cons (.s rfl) (.cons .im .nil))))))
      intro loop82 s H
      obtain ⟨v79, v80, v81⟩ := s
      unfold f_R10_write_body_b3 at H
      change AW _ _ _ (Z81 t0 t2 v80 v81 x2) [(7, ⟨0, true, 38, 2, [.j v79.Op, .j v79.N]⟩), (9, rtA 0 41 1 (eI .u8) v80)] _
      refine AW.seq (AW.regionSeq (OpsW.sg 4 [157, 0, 2, 7, 8, 9, 12] ((157, .bool (decide (v81 < (Z8x x2)))) :: (Z81 t0 t2 v80 v81 x2)) ?_))
      refine OpsW.nil (AW.condH (b := decide (v81 < (Z8x x2))) H rfl (fun c83 H => ?_) (fun c83 H => ?_))
      · refine AW.skip ?_
        refine AW.joinK (fun (y : S_Node × (List Int)) => f_R10_write_body_k7 loop82 v81 y.1 y.2) r (fun (y : S_Node × (List Int)) => [(Z8n t0), (2, sU t2), Z8p, (Z8m x2), (9, .rsl 9 0 0 y.2.length), (12, .j v81)]) (fun (y : S_Node × (List Int)) => [(7, ⟨0, true, 38, 2, [.j y.1.Op, .j y.1.N]⟩), (9, rtA 0 41 1 (eI .u8) y.2)]) ?_ ?_
        · refine AW.block ?_
          refine AW.joinK (fun (y : S_Node × (List Int)) => f_R10_write_body_k8 rec_f_R10_write t0 t2 x2 loop82 v81 y.1 y.2) r (fun (y : S_Node × (List Int)) => [(Z8n t0), (2, sU t2), Z8p, (Z8m x2), (9, .rsl 9 0 0 y.2.length), (12, .j v81)]) (fun (y : S_Node × (List Int)) => [(7, ⟨0, true, 38, 2, [.j y.1.Op, .j y.1.N]⟩), (9, rtA 0 41 1 (eI .u8) y.2)]) ?_ ?_
          · refine AW.regionSeq ?_
            have ⟨g92, H⟩ := G_some H
            refine OpsW.sz 10 [169, 0, 2, 7, 8, 9, 12] ((169, .bool (cond (decide (0 < v81)) ((Int.tmod v81 (Int.tmod v79.N (8 : Int))) == 0) false)) :: (Z81 t0 t2 v80 v81 x2)) ⟨(fun h => h), (fun h => h), (fun _ => by decide), (fun h => h), (fun h => h), g92, (fun h => h), (fun h => by first | exact h | (simpa using h) | grind), trivial⟩ (OpsW.nil (AW.condH (b := cond (decide (0 < v81)) ((Int.tmod v81 (Int.tmod v79.N (8 : Int))) == 0) false) H rfl (fun c93 H => ?_) (fun c93 H => ?_)))
            · refine AW.region (OpsW.sg 1 [170, 0, 2, 7, 8, 9, 12] ((170, .rsl 9 0 0 v80.length) :: (Z81 t0 t2 v80 v81 x2)) ?_)
              have ⟨g94, H⟩ := G_some H
              refine OpsW.appendLF (enc := eI .u8) [(51 : Int)] rfl rfl rfl (by decide) rfl rfl rfl (by simp) E39 (fun _ => rfl) (by decide) trivial (by kernel_rfl) (by kernel_rfl) (by kernel_rfl) rfl rfl rfl g94 (OpsW.sg 1 [9, 0, 2, 7, 8, 12] ((9, .rsl 9 1 0 ((v80 ++ [(51 : Int)]).length)) :: (Z83 t0 t2 v81 x2)) (OpsW.rc ((9, .rsl 9 0 0 ((v80 ++ [(51 : Int)]).length)) :: (Z83 t0 t2 v81 x2)) [(7, ⟨0, true, 38, 2, [.j v79.Op, .j v79.N]⟩), (9, rtA 0 41 1 (eI .u8) (v80 ++ [(51 : Int)]))] (StC.mk (phi [(7, some 7), (9, some 9)]) (.o rfl (.i2 .nil) (.o rfl (CstL.ims _) .nil)) rfl (.cons (.s rfl) (.i2 (.cons (.r rfl) (.i2 .nil))))) (OpsW.nil ?_)))
              exact ⟨(v79, v80 ++ [(51 : Int)]), H, (StC.mk (phi [(7, some 7), (9, some 9)]) (.o rfl (.i2 .nil) (.o rfl (CstL.ims _) .nil)) rfl (.i2 (.cons (.r rfl) (.cons .im (.cons (.s rfl) (.cons .im .nil))))))⟩
            refine AW.regionSeq (OpsW.sg 2 [174, 0, 2, 7, 8, 9, 12] ((174, .bool (decide (0 < v81))) :: (Z81 t0 t2 v80 v81 x2)) ?_)
            refine OpsW.nil (AW.condH (b := decide (0 < v81)) H rfl (fun c95 H => ?_) (fun c95 H => ?_))
            · refine AW.region (OpsW.sg 1 [175, 0, 2, 7, 8, 9, 12] ((175, .rsl 9 0 0 v80.length) :: (Z81 t0 t2 v80 v81 x2)) ?_)
              have ⟨g96, H⟩ := G_some H
              refine OpsW.appendLF (enc := eI .u8) [(32 : Int)] rfl rfl rfl (by decide) rfl rfl rfl (by simp) E39 (fun _ => rfl) (by decide) trivial (by kernel_rfl) (by kernel_rfl) (by kernel_rfl) rfl rfl rfl g96 (OpsW.sg 1 [9, 0, 2, 7, 8, 12] ((9, .rsl 9 1 0 ((v80 ++ [(32 : Int)]).length)) :: (Z83 t0 t2 v81 x2)) (OpsW.rc ((9, .rsl 9 0 0 ((v80 ++ [(32 : Int)]).length)) :: (Z83 t0 t2 v81 x2)) [(7, ⟨0, true, 38, 2, [.j v79.Op, .j v79.N]⟩), (9, rtA 0 41 1 (eI .u8) (v80 ++ [(32 : Int)]))] (StC.mk (phi [(7, some 7), (9, some 9)]) (.o rfl (.i2 .nil) (.o rfl (CstL.ims _) .nil)) rfl (.cons (.s rfl) (.i2 (.cons (.r rfl) (.i2 .nil))))) (OpsW.nil ?_)))
              exact ⟨(v79, v80 ++ [(32 : Int)]), H, (StC.mk (phi [(7, some 7), (9, some 9)]) (.o rfl (.i2 .nil) (.o rfl (CstL.ims _) .nil)) rfl (.i2 (.cons (.r rfl) (.cons .im (.cons (.s rfl) (.cons .im .nil))))))⟩
            refine AW.skip ?_
            exact ⟨(v79, v80), H, (StC.mk (phi [(7, some 7), (9, some 9)]) (.o rfl (.i2 .nil) (.o rfl (CstL.ims _) .nil)) rfl (.i2 (.cons (.r rfl) (.cons .im (.cons (.s rfl) (.cons .im .nil))))))⟩
          rintro ⟨v87, v88⟩ H
          unfold f_R10_write_body_k8 at H
          change AW _ _ _ (Z8b t0 t2 v81 v88 x2) [(7, ⟨0, true, 38, 2, [.j v87.Op, .j v87.N]⟩), (9, rtA 0 41 1 (eI .u8) v88)] _
          refine AW.region ?_
          have ⟨g89, H⟩ := G_some H
          refine OpsW.sz 5 [182, 179, 178, 0, 2, 7, 8, 9, 12] ((182, .ipt (Z8v x2) (v81.toNat * 1)) :: (179, slA eS_Node t0) :: (178, .rsl 9 0 0 v88.length) :: (Z8b t0 t2 v81 v88 x2)) ⟨g89, trivial⟩ (OpsW.asU (.j (x2.getD v81.toNat 0)) rfl rfl (T.load rfl trivial (by kernel_rfl) (fm_cell0 (eI .i64) 1 (fun _ => rfl) x2 (0 : Int) v81.toNat (ltN g89) (fun a => .val (.j a)) (fun _ => rfl))) (OpsW.sg 1 [184, 183, 179, 178, 0, 2, 7, 8, 9, 12] ((184, sU t2) :: (183, .j (x2.getD v81.toNat 0)) :: (179, slA eS_Node t0) :: (178, .rsl 9 0 0 v88.length) :: (Z8b t0 t2 v81 v88 x2)) ?_))
          have ⟨x90, hx90, H⟩ := bindS H
          refine OpsW.qc rfl (.cons (.pur rfl) (.cons (.pur rfl) (.cons (.pur rfl) .nil))) (hrec_f_R10_write _ _ _ _ hx90) ?_
          have ⟨g91, H⟩ := G_some H
          refine OpsW.appendF (enc := eI .u8) (ys := x90) rfl rfl rfl E39 (fun _ => rfl) rfl rfl trivial (SrcA.typed (enc := eI .u8) (fun _ => rfl) (by kernel_rfl) x90) rfl g91 (OpsW.sg 1 [9, 0, 2, 7, 8, 12] ((9, .rsl 9 1 0 ((v88 ++ x90).length)) :: (Z83 t0 t2 v81 x2)) (OpsW.rc ((9, .rsl 9 0 0 ((v88 ++ x90).length)) :: (Z83 t0 t2 v81 x2)) [(7, ⟨0, true, 38, 2, [.j v87.Op, .j v87.N]⟩), (9, rtA 0 41 1 (eI .u8) (v88 ++ x90))] (StC.mk (phi [(7, some 7), (9, some 9)]) (.o rfl (.i2 .nil) (.o rfl (CstL.ims _) .nil)) rfl (.cons (.s rfl) (.i2 (.cons (.r rfl) (.i2 .nil))))) (OpsW.nil ?_)))
          exact ⟨(v87, v88 ++ x90), H, (StC.mk (phi [(7, some 7), (9, some 9)]) (.o rfl (.i2 .nil) (.o rfl (CstL.ims _) .nil)) rfl (.i2 (.cons (.r rfl) (.cons .im (.cons (.s rfl) (.cons .im .nil))))))⟩
        rintro ⟨v84, v85⟩ H
        unfold f_R10_write_body_k7 at H
        change AW _ _ _ [(Z8n t0), (2, sU t2), Z8p, (Z8m x2), (9, .rsl 9 0 0 v85.length), (12, .j v81)] [(7, ⟨0, true, 38, 2, [.j v84.Op, .j v84.N]⟩), (9, rtA 0 41 1 (eI .u8) v85)] _
        refine AW.region ?_
        have ⟨g86, H⟩ := G_some H
        refine OpsW.sz 3 [12, 0, 2, 7, 8, 9] [(12, .j (v81 + 1)), (Z8n t0), (2, sU t2), Z8p, (Z8m x2), (9, .rsl 9 0 0 v85.length)] ⟨g86, trivial⟩ (OpsW.nil ?_)
        exact ⟨(v84, v85, v81 + 1), H, (StC.mk (phi [(7, some 7), (9, some 9)]) (.o rfl (.i2 .nil) (.o rfl (CstL.ims _) .nil)) rfl (.i2 (.cons (.r rfl) (.cons .im (.cons (.s rfl) (.cons .im .nil))))))⟩
      refine AW.exit ?_
      refine AW.regionSeq (OpsW.sg 1 [187] [(187, .rsl 9 0 0 v80.length)] ?_)
      have ⟨g97, H⟩ := G_some H
      refine OpsW.appendLF (enc := eI .u8) [(43 : Int)] rfl rfl rfl (by decide) rfl rfl rfl (by simp) E39 (fun _ => rfl) (by decide) trivial (by kernel_rfl) (by kernel_rfl) (by kernel_rfl) rfl rfl rfl g97 (OpsW.sg 1 [6] [(6, .rsl 9 1 0 ((v80 ++ [(43 : Int)]).length))] (OpsW.rc [(6, sU (v80 ++ [(43 : Int)]))] [] (StC.mk (phi []) .nil rfl (.cons (.frz rfl rfl rfl (frz_all (eI .u8) 1 (fun _ => rfl) (v80 ++ [(43 : Int)])) (fm_length (eI .u8) 1 (fun _ => rfl) (v80 ++ [(43 : Int)])) (phi_ne rfl)) .nil)) (OpsW.nil ?_)))
      obtain rfl := Option.some.inj H
      refine AW.recast (env' := [(6, sU (v80 ++ [(43 : Int)]))]) (h' := []) (StC.pure (.cons .im .nil)) (AW.ret ?_)
      try simp only [Ex.t, Ex.b]
      exact Done.eq rfl (.tmp .nil)
    refine AW.skip ?_
    exact ⟨((Z8k t0 t1), Z8l), H, (StC.mk (phi [(7, some 7), (9, some 9)]) (.o rfl (.i2 .nil) (.o rfl (CstL.ims _) .nil)) rfl (.i2 (.cons (.r rfl) (.cons .im (.cons (.s rfl) .nil)))))⟩
  rintro ⟨v3, v4⟩ H
  unfold f_R10_write_body_k3 at H
  change AW _ _ _ [(Z8n t0), (2, sU t2), Z8p, (Z8m x2), (9, .rsl 9 0 0 v4.length)] [(7, ⟨0, true, 38, 2, [.j v3.Op, .j v3.N]⟩), (9, rtA 0 41 1 (eI .u8) v4)] _
  refine AW.regionSeq (OpsW.sg 2 [191, 0, 2, 8, 9] ((191, .j v3.Op) :: (Z89 t0 t2 v4 x2)) ?_)
  have ⟨x5, hx5, H⟩ := bindS H
  refine OpsW.qc rfl (.cons (.pur rfl) .nil) (f_R10_around_ok hx5) (OpsW.alloc' rfl rfl rfl 13 rfl (by kernel_rfl : zc Tryd.prog 79 = some [.int .u8 0, .int .u8 0, .int .u8 0]) (by kernel_rfl) (OpsW.store rfl rfl rfl rfl trivial trivial rfl rfl rfl (by kernel_rfl) (okCb_sound (by kernel_rfl)) (Nat.le_of_ble_eq_true (by kernel_rfl)) ?_))
  change OpsW _ _ _ _ _ [(13, ⟨0, true, 79, 3, (Z8y x5)⟩), (13, ⟨0, true, 79, 3, [.int .u8 0, .int .u8 0, .int .u8 0]⟩), (7, ⟨0, true, 38, 2, [.j v3.Op, .j v3.N]⟩), (9, rtA 0 41 1 (eI .u8) v4)] _
  refine OpsW.sg 0 [13, 0, 2, 8, 9] (Z8t :: (Z89 t0 t2 v4 x2)) (OpsW.rc (Z8t :: (Z89 t0 t2 v4 x2)) ((9, rtA 0 41 1 (eI .u8) v4) :: (Z8h x5)) (StC.mk (phi [(9, some 9), (13, some 13)]) (.o rfl (CstL.ims _) (.o rfl (.i3 .nil) .nil)) rfl (.cons (.r rfl) (.i3 (.cons (.s rfl) .nil)))) ?_)
  refine OpsW.nil (AW.regionSeq (OpsW.sz 3 [195, 193, 13, 0, 2, 8, 9] ((195, .int .u8 (x5.getD 0 0)) :: (193, .rsl 9 0 0 v4.length) :: Z8t :: (Z89 t0 t2 v4 x2)) ⟨(by decide), trivial⟩ ?_))
  have ⟨g6, H⟩ := G_some H
  refine OpsW.appendLF (enc := eI .u8) [(x5.getD 0 0)] rfl rfl rfl (by decide) rfl rfl rfl (by simp) E39 (fun _ => rfl) (by decide) trivial (by kernel_rfl) (by kernel_rfl) (by kernel_rfl) rfl rfl rfl g6 (OpsW.sg 1 [9, 13, 0, 2, 8] ((9, .rsl 9 1 0 ((v4 ++ [(x5.getD 0 0)]).length)) :: Z8t :: (Z84 t0 t2 x2)) (OpsW.rc ((9, .rsl 9 0 0 ((v4 ++ [(x5.getD 0 0)]).length)) :: Z8t :: (Z84 t0 t2 x2)) ((9, rtA 0 41 1 (eI .u8) (v4 ++ [(x5.getD 0 0)])) :: (Z8h x5)) (StC.mk (phi [(9, some 9), (13, some 13)]) (.o rfl (CstL.ims _) (.o rfl (.i3 .nil) .nil)) rfl (.cons (.s rfl) (.cons (.r rfl) (.i3 .nil)))) ?_))
  refine OpsW.nil (AW.seq (AW.regionSeq (OpsW.sg 1 [14, 9, 13, 0, 2, 8] ((14, .j (0 : Int)) :: (9, .rsl 9 0 0 ((v4 ++ [(x5.getD 0 0)]).length)) :: Z8t :: (Z84 t0 t2 x2)) ?_)))
  refine OpsW.nil (AW.block ?_)
  refine AW.iterK (fun loop (s : (List Int) × (List Int) × Int) => f_R10_write_body_b1 rec_f_R10_write t0 t2 x2 loop s.1 s.2.1 s.2.2) r (fun (s : (List Int) × (List Int) × Int) => [(Z8n t0), (2, sU t2), (Z8m x2), (9, .rsl 9 0 0 s.1.length), Z8t, (14, .j s.2.2)]) (fun (s : (List Int) × (List Int) × Int) => [(9, rtA 0 41 1 (eI .u8) s.1), (13, ⟨0, true, 79, 3, [.int .u8 (s.2.1.getD 0 0), .int .u8 (s.2.1.getD 1 0), .int .u8 (s.2.1.getD 2 0)]⟩)]) ?_ 1000000 (v4 ++ [(x5.getD 0 0)], [(x5.getD 0 0), (x5.getD 1 0), (x5.getD 2 0)], (0 : Int)) H (StC.mk (phi [(9, some 9), (13, some 13)]) (.o rfl (CstL.ims _) (.o rfl (.i3 .nil) .nil)) rfl (.i3 (.cons (.s rfl) (.cons (.r rfl) (.cons .im .nil)))))
  intro loop10 s H
  obtain ⟨v7, v8, v9⟩ := s
  unfold f_R10_write_body_b1 at H
  change AW _ _ _ (Z86 t0 t2 v7 v9 x2) ((9, rtA 0 41 1 (eI .u8) v7) :: (Z8i v8)) _
  refine AW.seq (AW.regionSeq (OpsW.sg 4 [201, 0, 2, 8, 9, 13, 14] ((201, .bool (decide (v9 < (Z8x x2)))) :: (Z86 t0 t2 v7 v9 x2)) ?_))
  refine OpsW.nil (AW.condH (b := decide (v9 < (Z8x x2))) H rfl (fun c11 H => ?_) (fun c11 H => ?_))
  · refine AW.skip ?_
    refine AW.joinK (fun (y : (List Int) × (List Int)) => f_R10_write_body_k1 loop10 v9 y.1 y.2) r (fun (y : (List Int) × (List Int)) => [(Z8n t0), (2, sU t2), (Z8m x2), (9, .rsl 9 0 0 y.1.length), Z8t, (14, .j v9)]) (fun (y : (List Int) × (List Int)) => [(9, rtA 0 41 1 (eI .u8) y.1), (13, ⟨0, true, 79, 3, [.int .u8 (y.2.getD 0 0), .int .u8 (y.2.getD 1 0), .int .u8 (y.2.getD 2 0)]⟩)]) ?_ ?_
    · refine AW.block ?_
      refine AW.joinK (fun (y : (List Int) × (List Int)) => f_R10_write_body_k2 rec_f_R10_write t0 t2 x2 loop10 v9 y.1 y.2) r (fun (y : (List Int) × (List Int)) => [(Z8n t0), (2, sU t2), (Z8m x2), (9, .rsl 9 0 0 y.1.length), Z8t, (14, .j v9)]) (fun (y : (List Int) × (List Int)) => [(9, rtA 0 41 1 (eI .u8) y.1), (13, ⟨0, true, 79, 3, [.int .u8 (y.2.getD 0 0), .int .u8 (y.2.getD 1 0), .int .u8 (y.2.getD 2 0)]⟩)]) ?_ ?_
      · refine AW.regionSeq (OpsW.sg 2 [205, 0, 2, 8, 9, 13, 14] ((205, .bool (decide (0 < v9))) :: (Z86 t0 t2 v7 v9 x2)) ?_)
        refine OpsW.nil (AW.condH (b := decide (0 < v9)) H rfl (fun c20 H => ?_) (fun c20 H => ?_))
        · refine AW.region (OpsW.sz 3 [208, 206, 0, 2, 8, 9, 13, 14] ((208, .int .u8 (v8.getD 1 0)) :: (206, .rsl 9 0 0 v7.length) :: (Z86 t0 t2 v7 v9 x2)) ⟨(by decide), trivial⟩ ?_)
          have ⟨g21, H⟩ := G_some H
          refine OpsW.appendLF (enc := eI .u8) [(v8.getD 1 0)] rfl rfl rfl (by decide) rfl rfl rfl (by simp) E39 (fun _ => rfl) (by decide) trivial (by kernel_rfl) (by kernel_rfl) (by kernel_rfl) rfl rfl rfl g21 (OpsW.sg 1 [9, 0, 2, 8, 13, 14] ((9, .rsl 9 1 0 ((v7 ++ [(v8.getD 1 0)]).length)) :: (Z88 t0 t2 v9 x2)) (OpsW.rc ((9, .rsl 9 0 0 ((v7 ++ [(v8.getD 1 0)]).length)) :: (Z88 t0 t2 v9 x2)) ((9, rtA 0 41 1 (eI .u8) (v7 ++ [(v8.getD 1 0)])) :: (Z8i v8)) (StC.mk (phi [(9, some 9), (13, some 13)]) (.o rfl (CstL.ims _) (.o rfl (.i3 .nil) .nil)) rfl (.cons (.s rfl) (.i3 (.cons (.r rfl) (.cons .im .nil))))) (OpsW.nil ?_)))
          exact ⟨(v7 ++ [(v8.getD 1 0)], [(v8.getD 0 0), (v8.getD 1 0), (v8.getD 2 0)]), H, (StC.mk (phi [(9, some 9), (13, some 13)]) (.o rfl (CstL.ims _) (.o rfl (.i3 .nil) .nil)) rfl (.i3 (.cons (.s rfl) (.cons (.r rfl) (.cons .im .nil)))))⟩
        refine AW.skip ?_
        exact ⟨(v7, [(v8.getD 0 0), (v8.getD 1 0), (v8.getD 2 0)]), H, (StC.mk (phi [(9, some 9), (13, some 13)]) (.o rfl (CstL.ims _) (.o rfl (.i3 .nil) .nil)) rfl (.i3 (.cons (.s rfl) (.cons (.r rfl) (.cons .im .nil)))))⟩
      rintro ⟨v15, v16⟩ H
      unfold f_R10_write_body_k2 at H
      change AW _ _ _ (Z8a t0 t2 v9 v15 x2) ((9, rtA 0 41 1 (eI .u8) v15) :: (Z8g v16)) _
      refine AW.region ?_
      have ⟨g17, H⟩ := G_some H
      refine OpsW.sz 5 [215, 212, 211, 0, 2, 8, 9, 13, 14] ((215, .ipt (Z8v x2) (v9.toNat * 1)) :: (212, slA eS_Node t0) :: (211, .rsl 9 0 0 v15.length) :: (Z8a t0 t2 v9 v15 x2)) ⟨g17, trivial⟩ (OpsW.asU (.j (x2.getD v9.toNat 0)) rfl rfl (T.load rfl trivial (by kernel_rfl) (fm_cell0 (eI .i64) 1 (fun _ => rfl) x2 (0 : Int) v9.toNat (ltN g17) (fun a => .val (.j a)) (fun _ => rfl))) (OpsW.sg 1 [217, 216, 212, 211, 0, 2, 8, 9, 13, 14] ((217, sU t2) :: (216, .j (x2.getD v9.toNat 0)) :: (212, slA eS_Node t0) :: (211, .rsl 9 0 0 v15.length) :: (Z8a t0 t2 v9 v15 x2)) ?_))
      have ⟨x18, hx18, H⟩ := bindS H
      refine OpsW.qc rfl (.cons (.pur rfl) (.cons (.pur rfl) (.cons (.pur rfl) .nil))) (hrec_f_R10_write _ _ _ _ hx18) ?_
      have ⟨g19, H⟩ := G_some H
      refine OpsW.appendF (enc := eI .u8) (ys := x18) rfl rfl rfl E39 (fun _ => rfl) rfl rfl trivial (SrcA.typed (enc := eI .u8) (fun _ => rfl) (by kernel_rfl) x18) rfl g19 (OpsW.sg 1 [9, 0, 2, 8, 13, 14] ((9, .rsl 9 1 0 ((v15 ++ x18).length)) :: (Z88 t0 t2 v9 x2)) (OpsW.rc ((9, .rsl 9 0 0 ((v15 ++ x18).length)) :: (Z88 t0 t2 v9 x2)) ((9, rtA 0 41 1 (eI .u8) (v15 ++ x18)) :: (Z8g v16)) (StC.mk (phi [(9, some 9), (13, some 13)]) (.o rfl (CstL.ims _) (.o rfl (.i3 .nil) .nil)) rfl (.cons (.s rfl) (.i3 (.cons (.r rfl) (.cons .im .nil))))) (OpsW.nil ?_)))
      exact ⟨(v15 ++ x18, [(v16.getD 0 0), (v16.getD 1 0), (v16.getD 2 0)]), H, (StC.mk (phi [(9, some 9), (13, some 13)]) (.o rfl (CstL.ims _) (.o rfl (.i3 .nil) .nil)) rfl (.i3 (.cons (.s rfl) (.cons (.r rfl) (.cons .im .nil)))))⟩
    rintro ⟨v12, v13⟩ H
    unfold f_R10_write_body_k1 at H
    change AW _ _ _ [(Z8n t0), (2, sU t2), (Z8m x2), (9, .rsl 9 0 0 v12.length), Z8t, (14, .j v9)] [(9, rtA 0 41 1 (eI .u8) v12), (13, ⟨0, true, 79, 3, [.int .u8 (v13.getD 0 0), .int .u8 (v13.getD 1 0), .int .u8 (v13.getD 2 0)]⟩)] _
    refine AW.region ?_
    have ⟨g14, H⟩ := G_some H
    refine OpsW.sz 3 [14, 0, 2, 8, 9, 13] [(14, .j (v9 + 1)), (Z8n t0), (2, sU t2), (Z8m x2), (9, .rsl 9 0 0 v12.length), Z8t] ⟨g14, trivial⟩ (OpsW.nil ?_)
    exact ⟨(v12, [(v13.getD 0 0), (v13.getD 1 0), (v13.getD 2 0)], v9 + 1), H, (StC.mk (phi [(9, some 9), (13, some 13)]) (.o rfl (CstL.ims _) (.o rfl (.i3 .nil) .nil)) rfl (.i3 (.cons (.s rfl) (.cons (.r rfl) (.cons .im .nil)))))⟩
  refine AW.exit ?_
  refine AW.regionSeq (OpsW.sz 3 [222, 220] [(222, .int .u8 (v8.getD 2 0)), (220, .rsl 9 0 0 v7.length)] ⟨(by decide), trivial⟩ ?_)
  have ⟨g22, H⟩ := G_some H
  refine OpsW.appendLF (enc := eI .u8) [(v8.getD 2 0)] rfl rfl rfl (by decide) rfl rfl rfl (by simp) E39 (fun _ => rfl) (by decide) trivial (by kernel_rfl) (by kernel_rfl) (by kernel_rfl) rfl rfl rfl g22 (OpsW.sg 1 [6] [(6, .rsl 9 1 0 ((v7 ++ [(v8.getD 2 0)]).length))] (OpsW.rc [(6, sU (v7 ++ [(v8.getD 2 0)]))] [] (StC.mk (phi []) .nil rfl (.cons (.frz rfl rfl rfl (frz_all (eI .u8) 1 (fun _ => rfl) (v7 ++ [(v8.getD 2 0)])) (fm_length (eI .u8) 1 (fun _ => rfl) (v7 ++ [(v8.getD 2 0)])) (phi_ne rfl)) .nil)) (OpsW.nil ?_)))
  obtain rfl := Option.some.inj H
  refine AW.recast (env' := [(6, sU (v7 ++ [(v8.getD 2 0)]))]) (h' := []) (StC.pure (.cons .im .nil)) (AW.ret ?_)
  try simp only [Ex.t, Ex.b]
  exact Done.eq rfl (.tmp .nil)
def f_R10_write_f : Nat → (List S_Node) → Int → (List Int) → Option (List Int)
  | 0, _, _, _ => none
  | n + 1, t0, t1, t2 => f_R10_write_body (f_R10_write_f n) t0 t1 t2
theorem f_R10_write_all : ∀ n : Nat, (∀ (t0 : List S_Node) (t1 : Int) (t2 : List Int) (r : List Int), f_R10_write_f n t0 t1 t2 = some r → QSpec Tryd.prog 31 [slA eS_Node t0, .int .i64 t1, slA (eI .u8) t2] (slA (eI .u8) r)) ∧ True
  | 0 => by
    refine ⟨?_, trivial⟩
    · intro t0 t1 t2 r H; rw [f_R10_write_f] at H; cases H
  | n + 1 => by
    have ih := f_R10_write_all n
    refine ⟨?_, trivial⟩
    · intro t0 t1 t2 r H; rw [f_R10_write_f] at H; exact f_R10_write_body_ok ih.1 H
def f_R10_write (t0 : List S_Node) (t1 : Int) (t2 : List Int) : Option (List Int) := f_R10_write_f 1000000 t0 t1 t2
theorem f_R10_write_ok {t0 : List S_Node} {t1 : Int} {t2 : List Int} {r : List Int} (H : f_R10_write t0 t1 t2 = some r) : QSpec Tryd.prog 31 [slA eS_Node t0, .int .i64 t1, slA (eI .u8) t2] (slA (eI .u8) r) :=
  (f_R10_write_all 1000000).1 t0 t1 t2 r H
def f_R10_Write (t0 : List S_Node) : Option ((List Int) × Int) :=
  (f_R09_Valid t0).bind fun x1 =>
  cond (!x1) (
    some ([], (90 : Int))) (
    (f_R10_write t0 (0 : Int) ([] : List Int)).bind fun x3 =>
    some (x3, (0 : Int)))
theorem f_R10_Write_ok  {t0 : List S_Node} {r : (List Int) × Int} (H : f_R10_Write t0 = some r) : QSpec Tryd.prog 18 [slA eS_Node t0] (.tup [slA (eI .u8) r.1, .int .i64 r.2]) := by
  refine Spec.of_AW Tryd.func18 rfl (by simp [Tryd.ntmps18]) ?_
  rw [Tryd.ntmps18]
  unfold f_R10_Write at H
  change AW _ _ _ [(0, slA eS_Node t0)] [] _
  refine AW.regionSeq (OpsW.sg 2 [0] [(0, slA eS_Node t0)] ?_)
  refine OpsW.nil (AW.regionSeq (OpsW.sg 1 [5, 0] [(5, slA eS_Node t0), (0, slA eS_Node t0)] ?_))
  have ⟨x1, hx1, H⟩ := bindS H
  refine OpsW.qc rfl (.cons (.pur rfl) .nil) (f_R09_Valid_ok hx1) (OpsW.sg 1 [4, 0] [(4, .bool x1), (0, slA eS_Node t0)] ?_)
  refine OpsW.nil (AW.seq (AW.regionSeq (OpsW.sg 2 [8, 0] [(8, .bool (!x1)), (0, slA eS_Node t0)] ?_)))
  refine OpsW.nil (AW.condH (b := !x1) H rfl (fun c2 H => ?_) (fun c2 H => ?_))
  · refine AW.regionSeq (OpsW.sg 2 [3, 2] [(3, .j (90 : Int)), (2, .im (.val (.slice none 0 0)))] ?_)
    refine OpsW.nil ?_
    obtain rfl := Option.some.inj H
    refine AW.recast (env' := [(2, sU []), (3, .j (90 : Int))]) (h' := []) (StC.pure (.cons .nil (.cons .im .nil))) (AW.ret ?_)
    try simp only [Ex.t, Ex.b]
    exact Done.eq rfl (.tmp (.tmp .nil))
  refine AW.skip (AW.regionSeq (OpsW.sg 1 [9] [(9, slA eS_Node t0)] ?_))
  refine OpsW.buildTI (enc := eI .u8) ([] : List Int) rfl rfl rfl E39 (fun _ => rfl) (by decide) ⟨trivial, by kernel_rfl, by kernel_rfl, by kernel_rfl, rfl⟩ ?_
  have ⟨x3, hx3, H⟩ := bindS H
  refine OpsW.qc rfl (.cons (.pur rfl) (.cons (.pur rfl) (.cons (.pur rfl) .nil))) (f_R10_write_ok hx3) (OpsW.sg 2 [3, 2] [(3, .j (0 : Int)), (2, sU x3)] (OpsW.nil ?_))
  obtain rfl := Option.some.inj H
  refine AW.recast (env' := [(2, sU x3), (3, .j (0 : Int))]) (h' := []) (StC.pure (.i2 .nil)) (AW.ret ?_)
  try simp only [Ex.t, Ex.b]
  exact Done.eq rfl (.tmp (.tmp .nil))
def f_spatial_Fits (t0 : List S_Node) : Option Bool :=
  (f_spatial_Lay t0).bind fun x1 =>
  some (x1.2 == 0)
theorem f_spatial_Fits_ok  {t0 : List S_Node} {r : Bool} (H : f_spatial_Fits t0 = some r) : QSpec Tryd.prog 12 [slA eS_Node t0] (.bool r) := by
  refine Spec.of_AW Tryd.func12 rfl (by simp [Tryd.ntmps12]) ?_
  rw [Tryd.ntmps12]
  unfold f_spatial_Fits at H
  change AW _ _ _ [(0, slA eS_Node t0)] [] _
  refine AW.regionSeq (OpsW.sg 1 [0] [(0, slA eS_Node t0)] ?_)
  refine OpsW.nil (AW.regionSeq (OpsW.sg 1 [6] [(6, slA eS_Node t0)] ?_))
  have ⟨x1, hx1, H⟩ := bindS H
  refine OpsW.qc rfl (.cons (.pur rfl) .nil) (f_spatial_Lay_ok hx1) (OpsW.sg 5 [4] [(4, .j x1.2)] ?_)
  refine OpsW.nil (AW.regionSeq (OpsW.sg 3 [2] [(2, .bool (x1.2 == 0))] ?_))
  refine OpsW.nil ?_
  obtain rfl := Option.some.inj H
  refine AW.recast (env' := [(2, .bool (x1.2 == 0))]) (h' := []) (StC.pure (.cons .im .nil)) (AW.ret ?_)
  try simp only [Ex.t, Ex.b]
  exact Done.eq rfl (.tmp .nil)
def f_L11_SpatialLimits_b1 (t0 : Int) (t1 : Int) (t2 : Int) (x1 : Bool) (loop5 : ((List S_Node) × Int × Int) → Option Bool) (v3 : Int) (v4 : Int) (loop10 : ((List S_Node) × (List S_Node) × Int) → Option Bool) (v7 : List S_Node) (v8 : List S_Node) (v9 : Int) : Option Bool :=
  G (0 ≤ v4 ∧ v4 < ([Int.tmod t0 (13 : Int), Int.tmod t1 (13 : Int)].length : Int)) <|
  cond (decide (v9 < (IntKind.wrap .i64 ([Int.tmod t0 (13 : Int), Int.tmod t1 (13 : Int)].getD v4.toNat 0)))) (
    G (room 16 ([(⟨(2 : Int), (0 : Int)⟩ : S_Node)].length + v8.length)) <|
    G (room 16 (([(⟨(2 : Int), (0 : Int)⟩ : S_Node)] ++ v8).length + 1)) <|
    G (inR (v9 + 1)) <|
    loop10 (v7, ([(⟨(2 : Int), (0 : Int)⟩ : S_Node)] ++ v8) ++ [(⟨(0 : Int), IntKind.wrap .i64 t2⟩ : S_Node)], v9 + 1)) (
    (f_R09_Valid v8).bind fun x16 =>
    cond (!x16) (
      some x1) (
      (f_R10_Write v8).bind fun x18 =>
      cond (x18.2 != 0) (
        some x1) (
        G (room 16 (v7.length + v8.length)) <|
        G (inR (v4 + 1)) <|
        loop5 (v7 ++ v8, (if (x18.1.length : Int) > v3 then (x18.1.length : Int) else v3), v4 + 1))))
def f_L11_SpatialLimits_b2 (t0 : Int) (t1 : Int) (t2 : Int) (x1 : Bool) (loop5 : ((List S_Node) × Int × Int) → Option Bool) (v2 : List S_Node) (v3 : Int) (v4 : Int) : Option Bool :=
  cond (decide (v4 < 2)) (
    iter (fun loop (s : (List S_Node) × (List S_Node) × Int) => f_L11_SpatialLimits_b1 t0 t1 t2 x1 loop5 v3 v4 loop s.1 s.2.1 s.2.2) 1000000 (v2, [(⟨(1 : Int), IntKind.wrap .i64 (Int.tmod t2 (26 : Int))⟩ : S_Node)], (0 : Int))) (
    (f_R09_Valid v2).bind fun x22 =>
    (cond (!(!x22)) (f_spatial_Fits v2) (some false)).bind fun x23 =>
    some (cond (cond (!x22) true (x23 == (decide (v3 ≤ 22)))) x1 false))
def f_L11_SpatialLimits (t0 : Int) (t1 : Int) (t2 : Int) : Option Bool :=
  (f_L11_sanity).bind fun x1 =>
  iter (fun loop (s : (List S_Node) × Int × Int) => f_L11_SpatialLimits_b2 t0 t1 t2 x1 loop s.1 s.2.1 s.2.2) 1000000 ([(⟨(6 : Int), (0 : Int)⟩ : S_Node)], (0 : Int), (0 : Int))
section
variable (t0 : Int) (t1 : Int) (t2 : Int) (v2 : List S_Node) (v3 : Int) (v4 : Int) (v7 : List S_Node) (v8 : List S_Node) (v9 : Int) (x1 : Bool) (x18 : ((List Int) × Int))
abbrev Z99 : Nat × AV := (9, sU [Int.tmod t0 (13 : Int), Int.tmod t1 (13 : Int)])
abbrev Z9a := ([(⟨(2 : Int), (0 : Int)⟩ : S_Node)] ++ v8)
abbrev Z9b := (⟨(0 : Int), IntKind.wrap .i64 t2⟩ : S_Node)
abbrev Z9c : Nat × AV := (10, .j (if (x18.1.length : Int) > v3 then (x18.1.length : Int) else v3))
abbrev Z9d := (⟨(6 : Int), (0 : Int)⟩ : S_Node)
abbrev Z9e := (⟨(1 : Int), IntKind.wrap .i64 (Int.tmod t2 (26 : Int))⟩ : S_Node)
abbrev Z9f := ([Int.tmod t0 (13 : Int), Int.tmod t1 (13 : Int)].getD v4.toNat 0)
abbrev Z9g : Nat × AV := (2, .int .u8 t2)
abbrev Z9h : Nat × AV := (8, .rsl 8 0 0 v7.length)
abbrev Z91 : Env := [(Z9g t2), (7, .bool x1), (Z9h v7), (Z99 t0 t1), (10, .j v3), (11, .j v4), (12, slA eS_Node v8), (13, .j v9)]
abbrev Z92 : Env := [(Z9g t2), (7, .bool x1), (Z9h v7), (Z99 t0 t1), (10, .j v3), (11, .j v4), (12, slA eS_Node v8)]
abbrev Z93 : Env := [(Z9g t2), (7, .bool x1), (Z9h v7), (Z99 t0 t1), (10, .j v3), (11, .j v4), (13, .j v9)]
abbrev Z94 : Env := [(Z9g t2), (7, .bool x1), (8, .rsl 8 0 0 v2.length), (Z99 t0 t1), (10, .j v3), (11, .j v4)]
abbrev Z95 : Env := [(Z99 t0 t1), (8, .rsl 8 0 0 ([Z9d].length)), (7, .bool x1), (Z9g t2)]
abbrev Z96 : Env := [(Z9c v3 x18), (Z9g t2), (7, .bool x1), (Z99 t0 t1), (11, .j v4)]
abbrev Z97 : Env := [(0, .int .u8 t0), (1, .int .u8 t1), (Z9g t2)]
abbrev Z98 : Env := (12, slA eS_Node [(Z9e t2)]) :: (Z94 t0 t1 t2 v2 v3 v4 x1)
end
theorem f_L11_SpatialLimits_ok  {t0 : Int} {t1 : Int} {t2 : Int} {r : Bool} (H : f_L11_SpatialLimits t0 t1 t2 = some r) : QSpec Tryd.prog 6 [.int .u8 t0, .int .u8 t1, .int .u8 t2] (.bool r) := by
  refine Spec.of_AW Tryd.func6 rfl (by simp [Tryd.ntmps6]) ?_
  rw [Tryd.ntmps6]
  unfold f_L11_SpatialLimits at H
  change AW _ _ _ (Z97 t0 t1 t2) [] _
  refine AW.regionSeq (OpsW.sg 1 [0, 1, 2] (Z97 t0 t1 t2) ?_)
  refine OpsW.nil (AW.regionSeq ?_)
  have ⟨x1, hx1, H⟩ := bindS H
  refine OpsW.qc rfl .nil (f_L11_sanity_ok hx1) (OpsW.sg 1 [7, 0, 1, 2] ((7, .bool x1) :: (Z97 t0 t1 t2)) ?_)
  refine OpsW.nil (AW.regionSeq (OpsW.sg 1 [17, 7, 0, 1, 2] ((17, .agg [.j (6 : Int), .j (0 : Int)]) :: (7, .bool x1) :: (Z97 t0 t1 t2)) ?_))
  refine OpsW.buildT (enc := eS_Node) [Z9d] rfl rfl rfl 18 rfl E27 (fun _ => rfl) (by decide) trivial (by kernel_rfl) (by kernel_rfl) (by kernel_rfl) rfl (OpsW.sz 4 [22, 20, 18, 7, 2] [(22, .int .u8 (Int.tmod t1 (13 : Int))), (20, .int .u8 (Int.tmod t0 (13 : Int))), (18, .rsl 18 0 0 ([Z9d].length)), (7, .bool x1), (Z9g t2)] ⟨(by decide), (by decide), trivial⟩ (OpsW.buildTI (enc := eI .u8) [Int.tmod t0 (13 : Int), Int.tmod t1 (13 : Int)] rfl rfl rfl E46 (fun _ => rfl) (by decide) ⟨trivial, by kernel_rfl, by kernel_rfl, by kernel_rfl, rfl⟩ (OpsW.sg 2 [9, 8, 7, 2] [(Z99 t0 t1), (8, .rsl 18 0 0 ([Z9d].length)), (7, .bool x1), (Z9g t2)] (OpsW.rc (Z95 t0 t1 t2 x1) [(8, rtA 0 38 2 eS_Node [Z9d])] (StC.mk (phi [(8, some 18)]) (.o rfl (CstL.ims _) .nil) rfl (.cons .im (.cons (.s rfl) (.i2 .nil)))) ?_))))
  refine OpsW.nil (AW.regionSeq (OpsW.sg 1 [10, 9, 8, 7, 2] ((10, .j (0 : Int)) :: (Z95 t0 t1 t2 x1)) ?_))
  refine OpsW.nil (AW.seq (AW.regionSeq (OpsW.sg 1 [11, 10, 9, 8, 7, 2] ((11, .j (0 : Int)) :: (10, .j (0 : Int)) :: (Z95 t0 t1 t2 x1)) ?_)))
  refine OpsW.nil (AW.block ?_)
  refine AW.iterK (fun loop (s : (List S_Node) × Int × Int) => f_L11_SpatialLimits_b2 t0 t1 t2 x1 loop s.1 s.2.1 s.2.2) r (fun (s : (List S_Node) × Int × Int) => [(Z9g t2), (7, .bool x1), (8, .rsl 8 0 0 s.1.length), (Z99 t0 t1), (10, .j s.2.1), (11, .j s.2.2)]) (fun (s : (List S_Node) × Int × Int) => [(8, rtA 0 38 2 eS_Node s.1)]) ?_ 1000000 ([Z9d], (0 : Int), (0 : Int)) H (StC.mk (phi [(8, some 8)]) (.o rfl (CstL.ims _) .nil) rfl (.i2 (.cons (.s rfl) (.i3 .nil))))
  intro loop5 s H
  obtain ⟨v2, v3, v4⟩ := s
  unfold f_L11_SpatialLimits_b2 at H
  change AW _ _ _ (Z94 t0 t1 t2 v2 v3 v4 x1) [(8, rtA 0 38 2 eS_Node v2)] _
  refine AW.seq (AW.regionSeq (OpsW.sg 2 [25, 2, 7, 8, 9, 10, 11] ((25, .bool (decide (v4 < 2))) :: (Z94 t0 t1 t2 v2 v3 v4 x1)) ?_))
  refine OpsW.nil (AW.condH (b := decide (v4 < 2)) H rfl (fun c6 H => ?_) (fun c6 H => ?_))
  · refine AW.skip (AW.seq (AW.block (AW.regionSeq (OpsW.sz 4 [31, 2, 7, 8, 9, 10, 11] ((31, .agg [.j (1 : Int), .j (IntKind.wrap .i64 (Int.tmod t2 (26 : Int)))]) :: (Z94 t0 t1 t2 v2 v3 v4 x1)) ⟨(by decide), trivial⟩ ?_))))
    refine OpsW.buildTI (enc := eS_Node) [(Z9e t2)] rfl rfl rfl E27 (fun _ => rfl) (by decide) ⟨trivial, by kernel_rfl, by kernel_rfl, by kernel_rfl, rfl⟩ (OpsW.sg 1 [12, 2, 7, 8, 9, 10, 11] (Z98 t0 t1 t2 v2 v3 v4 x1) ?_)
    refine OpsW.nil (AW.seq (AW.regionSeq (OpsW.sg 1 [13, 12, 2, 7, 8, 9, 10, 11] ((13, .j (0 : Int)) :: (Z98 t0 t1 t2 v2 v3 v4 x1)) ?_)))
    refine OpsW.nil (AW.block ?_)
    refine AW.iterK (fun loop (s : (List S_Node) × (List S_Node) × Int) => f_L11_SpatialLimits_b1 t0 t1 t2 x1 loop5 v3 v4 loop s.1 s.2.1 s.2.2) r (fun (s : (List S_Node) × (List S_Node) × Int) => [(Z9g t2), (7, .bool x1), (8, .rsl 8 0 0 s.1.length), (Z99 t0 t1), (10, .j v3), (11, .j v4), (12, slA eS_Node s.2.1), (13, .j s.2.2)]) (fun (s : (List S_Node) × (List S_Node) × Int) => [(8, rtA 0 38 2 eS_Node s.1)]) ?_ 1000000 (v2, [(Z9e t2)], (0 : Int)) H (StC.mk (phi [(8, some 8)]) (.o rfl (CstL.ims _) .nil) rfl (.i2 (.cons (.s rfl) (.i5 .nil))))
    intro loop10 s H
    obtain ⟨v7, v8, v9⟩ := s
    unfold f_L11_SpatialLimits_b1 at H
    change AW _ _ _ (Z91 t0 t1 t2 v3 v4 v7 v8 v9 x1) [(8, rtA 0 38 2 eS_Node v7)] _
    refine AW.seq (AW.regionSeq ?_)
    have ⟨g11, H⟩ := G_some H
    refine OpsW.sz 4 [36, 33, 2, 7, 8, 9, 10, 11, 12, 13] ((36, .ipt ([Int.tmod t0 (13 : Int), Int.tmod t1 (13 : Int)].flatMap (eI .u8)) (v4.toNat * 1)) :: (33, .j v9) :: (Z91 t0 t1 t2 v3 v4 v7 v8 v9 x1)) ⟨g11, trivial⟩ (OpsW.asU (.int .u8 (Z9f t0 t1 v4)) rfl rfl (T.load rfl trivial (by kernel_rfl) (fm_cell0 (eI .u8) 1 (fun _ => rfl) [Int.tmod t0 (13 : Int), Int.tmod t1 (13 : Int)] (0 : Int) v4.toNat (ltN g11) (fun a => .val (.int .u8 a)) (fun _ => rfl))) (OpsW.sg 2 [39, 2, 7, 8, 9, 10, 11, 12, 13] ((39, .bool (decide (v9 < (IntKind.wrap .i64 (Z9f t0 t1 v4))))) :: (Z91 t0 t1 t2 v3 v4 v7 v8 v9 x1)) (OpsW.nil (AW.condH (b := decide (v9 < (IntKind.wrap .i64 (Z9f t0 t1 v4)))) H rfl (fun c12 H => ?_) (fun c12 H => ?_)))))
    · refine AW.skip (AW.seq (AW.block (AW.regionSeq (OpsW.sg 1 [42, 2, 7, 8, 9, 10, 11, 12, 13] ((42, .agg [.j (2 : Int), .j (0 : Int)]) :: (Z91 t0 t1 t2 v3 v4 v7 v8 v9 x1)) ?_))))
      refine OpsW.buildT (enc := eS_Node) [(⟨(2 : Int), (0 : Int)⟩ : S_Node)] rfl rfl rfl 43 rfl E27 (fun _ => rfl) (by decide) trivial (by kernel_rfl) (by kernel_rfl) (by kernel_rfl) rfl (OpsW.sg 1 [44, 43, 2, 7, 8, 9, 10, 11, 12, 13] ((44, slA eS_Node v8) :: (43, .rsl 43 0 0 ([(⟨(2 : Int), (0 : Int)⟩ : S_Node)].length)) :: (Z91 t0 t1 t2 v3 v4 v7 v8 v9 x1)) ?_)
      have ⟨g13, H⟩ := G_some H
      refine OpsW.appendF (enc := eS_Node) (ys := v8) rfl rfl rfl E27 (fun _ => rfl) rfl rfl trivial (SrcA.typed (enc := eS_Node) (fun _ => rfl) (by kernel_rfl) v8) rfl g13 (OpsW.sg 1 [12, 2, 7, 8, 9, 10, 11, 13] ((12, .rsl 43 1 0 ((Z9a v8).length)) :: (Z93 t0 t1 t2 v3 v4 v7 v9 x1)) (OpsW.rc ((12, .rsl 12 0 0 ((Z9a v8).length)) :: (Z93 t0 t1 t2 v3 v4 v7 v9 x1)) [(8, rtA 0 38 2 eS_Node v7), (12, rtA 0 38 2 eS_Node (Z9a v8))] (StC.mk (phi [(8, some 8), (12, some 43)]) (.o rfl (CstL.ims _) (.o rfl (CstL.ims _) .nil)) rfl (.cons (.s rfl) (.i2 (.cons (.s rfl) (.i4 .nil))))) ?_))
      refine OpsW.nil (AW.region (OpsW.sg 4 [49, 46, 12, 2, 7, 8, 9, 10, 11, 13] ((49, .agg [.j (0 : Int), .j (IntKind.wrap .i64 t2)]) :: (46, .rsl 12 0 0 ((Z9a v8).length)) :: (12, .rsl 12 0 0 ((Z9a v8).length)) :: (Z93 t0 t1 t2 v3 v4 v7 v9 x1)) ?_))
      have ⟨g14, H⟩ := G_some H
      refine OpsW.appendLF (enc := eS_Node) [(Z9b t2)] rfl rfl rfl (by decide) rfl rfl rfl (by simp) E27 (fun _ => rfl) (by decide) trivial (by kernel_rfl) (by kernel_rfl) (by kernel_rfl) rfl rfl rfl g14 (OpsW.sg 1 [12, 2, 7, 8, 9, 10, 11, 13] ((12, .rsl 12 1 0 (((Z9a v8) ++ [(Z9b t2)]).length)) :: (Z93 t0 t1 t2 v3 v4 v7 v9 x1)) (OpsW.rc ((12, slA eS_Node ((Z9a v8) ++ [(Z9b t2)])) :: (Z93 t0 t1 t2 v3 v4 v7 v9 x1)) [(8, rtA 0 38 2 eS_Node v7)] (StC.mk (phi [(8, some 8)]) (.o rfl (CstL.ims _) .nil) rfl (.cons (.frz rfl rfl rfl (frz_all eS_Node 2 (fun _ => rfl) ((Z9a v8) ++ [(Z9b t2)])) (fm_length eS_Node 2 (fun _ => rfl) ((Z9a v8) ++ [(Z9b t2)])) (phi_ne rfl)) (.i2 (.cons (.s rfl) (.i4 .nil))))) ?_))
      refine OpsW.nil (AW.region ?_)
      have ⟨g15, H⟩ := G_some H
      refine OpsW.sz 3 [13, 12, 2, 7, 8, 9, 10, 11] [(13, .j (v9 + 1)), (12, slA eS_Node ((Z9a v8) ++ [(Z9b t2)])), (Z9g t2), (7, .bool x1), (Z9h v7), (Z99 t0 t1), (10, .j v3), (11, .j v4)] ⟨g15, trivial⟩ (OpsW.nil ?_)
      exact ⟨(v7, (Z9a v8) ++ [(Z9b t2)], v9 + 1), H, (StC.mk (phi [(8, some 8)]) (.o rfl (CstL.ims _) .nil) rfl (.i2 (.cons (.s rfl) (.i5 .nil))))⟩
    refine AW.exit ?_
    refine AW.seq (AW.regionSeq (OpsW.sg 1 [52, 2, 7, 8, 9, 10, 11, 12] ((52, slA eS_Node v8) :: (Z92 t0 t1 t2 v3 v4 v7 v8 x1)) ?_))
    have ⟨x16, hx16, H⟩ := bindS H
    refine OpsW.qc rfl (.cons (.pur rfl) .nil) (f_R09_Valid_ok hx16) (OpsW.sg 1 [54, 2, 7, 8, 9, 10, 11, 12] ((54, .bool (!x16)) :: (Z92 t0 t1 t2 v3 v4 v7 v8 x1)) (OpsW.nil (AW.condH (b := !x16) H rfl (fun c17 H => ?_) (fun c17 H => ?_))))
    · refine AW.regionSeq (OpsW.sg 2 [6] [(6, .bool x1)] ?_)
      refine OpsW.nil ?_
      obtain rfl := Option.some.inj H
      refine AW.recast (env' := [(6, .bool x1)]) (h' := []) (StC.pure (.cons .im .nil)) (AW.ret ?_)
      try simp only [Ex.t, Ex.b]
      exact Done.eq rfl (.tmp .nil)
    refine AW.skip (AW.regionSeq (OpsW.sg 1 [57, 2, 7, 8, 9, 10, 11, 12] ((57, slA eS_Node v8) :: (Z92 t0 t1 t2 v3 v4 v7 v8 x1)) ?_))
    have ⟨x18, hx18, H⟩ := bindS H
    refine OpsW.qc rfl (.cons (.pur rfl) .nil) (f_R10_Write_ok hx18) (OpsW.sg 5 [15, 14, 2, 7, 8, 9, 10, 11, 12] ((15, .j x18.2) :: (14, sU x18.1) :: (Z92 t0 t1 t2 v3 v4 v7 v8 x1)) ?_)
    refine OpsW.nil (AW.seq (AW.regionSeq (OpsW.sg 2 [62, 14, 2, 7, 8, 9, 10, 11, 12] ((62, .bool (x18.2 != 0)) :: (14, sU x18.1) :: (Z92 t0 t1 t2 v3 v4 v7 v8 x1)) ?_)))
    refine OpsW.nil (AW.condH (b := x18.2 != 0) H rfl (fun c19 H => ?_) (fun c19 H => ?_))
    · refine AW.regionSeq (OpsW.sg 2 [6] [(6, .bool x1)] ?_)
      refine OpsW.nil ?_
      obtain rfl := Option.some.inj H
      refine AW.recast (env' := [(6, .bool x1)]) (h' := []) (StC.pure (.cons .im .nil)) (AW.ret ?_)
      try simp only [Ex.t, Ex.b]
      exact Done.eq rfl (.tmp .nil)
    refine AW.skip (AW.regionSeq (OpsW.sg 5 [10, 2, 7, 8, 9, 11, 12] [(Z9c v3 x18), (Z9g t2), (7, .bool x1), (Z9h v7), (Z99 t0 t1), (11, .j v4), (12, slA eS_Node v8)] ?_))
    refine OpsW.nil (AW.region (OpsW.sg 2 [69, 68, 10, 2, 7, 8, 9, 11] [(69, slA eS_Node v8), (68, .rsl 8 0 0 v7.length), (Z9c v3 x18), (Z9g t2), (7, .bool x1), (Z9h v7), (Z99 t0 t1), (11, .j v4)] ?_))
    have ⟨g20, H⟩ := G_some H
    refine OpsW.appendF (enc := eS_Node) (ys := v8) rfl rfl rfl E27 (fun _ => rfl) rfl rfl trivial (SrcA.typed (enc := eS_Node) (fun _ => rfl) (by kernel_rfl) v8) rfl g20 (OpsW.sg 1 [8, 10, 2, 7, 9, 11] ((8, .rsl 8 1 0 ((v7 ++ v8).length)) :: (Z96 t0 t1 t2 v3 v4 x1 x18)) (OpsW.rc ((8, .rsl 8 0 0 ((v7 ++ v8).length)) :: (Z96 t0 t1 t2 v3 v4 x1 x18)) [(8, rtA 0 38 2 eS_Node (v7 ++ v8))] (StC.mk (phi [(8, some 8)]) (.o rfl (CstL.ims _) .nil) rfl (.cons (.s rfl) (.i5 .nil))) ?_))
    refine OpsW.nil (AW.region ?_)
    have ⟨g21, H⟩ := G_some H
    refine OpsW.sz 3 [11, 8, 10, 2, 7, 9] [(11, .j (v4 + 1)), (8, .rsl 8 0 0 ((v7 ++ v8).length)), (Z9c v3 x18), (Z9g t2), (7, .bool x1), (Z99 t0 t1)] ⟨g21, trivial⟩ (OpsW.nil ?_)
    exact ⟨(v7 ++ v8, (if (x18.1.length : Int) > v3 then (x18.1.length : Int) else v3), v4 + 1), H, (StC.mk (phi [(8, some 8)]) (.o rfl (CstL.ims _) .nil) rfl (.i2 (.cons (.s rfl) (.i3 .nil))))⟩
  refine AW.exit ?_
  refine AW.regionSeq (OpsW.sg 1 [71, 7, 8, 10] [(71, .rsl 8 0 0 v2.length), (7, .bool x1), (8, .rsl 8 0 0 v2.length), (10, .j v3)] ?_)
  have ⟨x22, hx22, H⟩ := bindS H
  refine OpsW.bcall (r := .bool x22) [8] rfl (by kernel_rfl) rfl rfl (glAll_sound trivial) (.cons (ArgS.root (enc := eS_Node) (l := v2) (fun _ => rfl) (by simp) rfl) .nil) (f_R09_Valid_ok hx22) rfl (OpsW.sg 3 [75, 74, 7, 10] [(75, .cnd (!(!x22)) (.rsl 8 0 0 v2.length)), (74, .bool (!x22)), (7, .bool x1), (10, .j v3)] ?_)
  have ⟨x23, hx23, H⟩ := bindS H
  refine OpsW.gcall (c := !(!x22)) (r := .bool x23) [8] rfl (by kernel_rfl) rfl rfl rfl rfl (fun hc => ⟨glAll_sound ⟨hc, trivial⟩, (.cons (ArgS.root (enc := eS_Node) (l := v2) (fun _ => rfl) (by simp) rfl) .nil), f_spatial_Fits_ok (condT hc hx23), .inr rfl⟩) (OpsW.sz 8 [6] [(6, .bool (cond (cond (!x22) true (x23 == (decide (v3 ≤ 22)))) x1 false))] ⟨(fun h => h), (fun h => h), (fun h => h), (fun h => by first | exact h | (simpa using h) | grind), (fun h => by first | exact h | (simpa using h) | grind), trivial⟩ (OpsW.nil ?_))
  obtain rfl := Option.some.inj H
  refine AW.recast (env' := [(6, .bool (cond (cond (!x22) true (x23 == (decide (v3 ≤ 22)))) x1 false))]) (h' := []) (StC.pure (.cons .im .nil)) (AW.ret ?_)
  try simp only [Ex.t, Ex.b]
  exact Done.eq rfl (.tmp .nil)
def f_R11_Entries_b1 (t0 : List S_Node) (x1 : List Int) (loop4 : ((List (List S_Node)) × Int) → Option (List (List S_Node))) (v2 : List (List S_Node)) (v3 : Int) : Option (List (List S_Node)) :=
  cond (decide (v3 < (x1.length : Int))) (
    G (0 ≤ v3 ∧ v3 < (x1.length : Int)) <|
    (f_R09_End t0 (x1.getD v3.toNat 0)).bind fun x7 =>
    G (0 ≤ x7 ∧ x7 ≤ (t0.length : Int)) <|
    G (0 ≤ (x1.getD v3.toNat 0) ∧ (x1.getD v3.toNat 0) ≤ (x7.toNat : Int)) <|
    G (room 24 (v2.length + [(t0.drop ((x1.getD v3.toNat 0).toNat)).take (x7.toNat - (x1.getD v3.toNat 0).toNat)].length)) <|
    G (inR (v3 + 1)) <|
    loop4 (v2 ++ [(t0.drop ((x1.getD v3.toNat 0).toNat)).take (x7.toNat - (x1.getD v3.toNat 0).toNat)], v3 + 1)) (
    some v2)
def f_R11_Entries (t0 : List S_Node) : Option (List (List S_Node)) :=
  (f_R09_Operands t0 (0 : Int)).bind fun x1 =>
  iter (fun loop (s : (List (List S_Node)) × Int) => f_R11_Entries_b1 t0 x1 loop s.1 s.2) 1000000 (([] : List (List S_Node)), (0 : Int))
section
variable (t0 : List S_Node) (v2 : List (List S_Node)) (v3 : Int) (x1 : List Int) (x7 : Int)
end
def f_R11_blanks_b1 (t0 : Int) (loop3 : ((List Int) × Int) → Option (List Int)) (v1 : List Int) (v2 : Int) : Option (List Int) :=
  cond (decide (v2 < t0)) (
    G (room 1 (v1.length + 1)) <|
    G (inR (v2 + 1)) <|
    loop3 (v1 ++ [(0 : Int)], v2 + 1)) (
    some v1)
def f_R11_blanks (t0 : Int) : Option (List Int) :=
  iter (fun loop (s : (List Int) × Int) => f_R11_blanks_b1 t0 loop s.1 s.2) 1000000 (([] : List Int), (0 : Int))
def f_R11_joined (t0 : List Int) (t1 : List Int) : Option (List Int) :=
  G (room 1 (([] : List Int).length + t0.length)) <|
  G (room 1 ((([] : List Int) ++ t0).length + t1.length)) <|
  some ((([] : List Int) ++ t0) ++ t1)
section
variable (t0 : List Int)
end
def f_R11_right (t0 : List Int) (t1 : Int) : Option (List Int) :=
  G (inR (t1 - (t0.length : Int))) <|
  (f_R11_blanks (t1 - (t0.length : Int))).bind fun x2 =>
  (f_R11_joined t0 x2).bind fun x3 =>
  some x3
def f_R11_matrix_k1 (loop7 : ((List Int) × Int) → Option (List (List Int))) (v6 : Int) (v9 : List Int) : Option (List (List Int)) :=
  G (inR (v6 + 1)) <|
  loop7 (v9, v6 + 1)
def f_R11_matrix_b1 (t0 : List (List Int)) (t1 : Int) (v2 : Int) (loop7 : ((List Int) × Int) → Option (List (List Int))) (v5 : List Int) (v6 : Int) (loop13 : (Int × Int) → Option (List (List Int))) (v11 : Int) (v12 : Int) : Option (List (List Int)) :=
  cond (decide (v12 < (t0.length : Int))) (
    G (0 ≤ v12 ∧ v12 < (t0.length : Int)) <|
    G (inR (v12 + t1)) <|
    loop13 ((if ((t0.getD v12.toNat []).length : Int) > v11 then ((t0.getD v12.toNat []).length : Int) else v11), v12 + t1)) (
    G (inR (v2 + v6)) <|
    G (0 ≤ (v2 + v6) ∧ (v2 + v6) < (t0.length : Int)) <|
    (f_R11_right (t0.getD (v2 + v6).toNat []) v11).bind fun x19 =>
    (f_R11_joined v5 x19).bind fun x20 =>
    G (inR (t1 - 1)) <|
    cond (decide (v6 < (t1 - 1))) (
      (f_R11_blanks (2 : Int)).bind fun x23 =>
      (f_R11_joined x20 x23).bind fun x24 =>
      f_R11_matrix_k1 loop7 v6 x24) (
      f_R11_matrix_k1 loop7 v6 x20))
def f_R11_matrix_b2 (t0 : List (List Int)) (t1 : Int) (loop3 : ((List (List Int)) × Int) → Option (List (List Int))) (v1 : List (List Int)) (v2 : Int) (loop7 : ((List Int) × Int) → Option (List (List Int))) (v5 : List Int) (v6 : Int) : Option (List (List Int)) :=
  cond (decide (v6 < t1)) (
    iter (fun loop (s : Int × Int) => f_R11_matrix_b1 t0 t1 v2 loop7 v5 v6 loop s.1 s.2) 1000000 ((0 : Int), v6)) (
    G (room 1 (v5.length + 2)) <|
    G (room 24 (v1.length + 1)) <|
    G (inR (v2 + t1)) <|
    loop3 (v1 ++ [v5 ++ [(0 : Int), (62 : Int)]], v2 + t1))
def f_R11_matrix_b3 (t0 : List (List Int)) (t1 : Int) (loop3 : ((List (List Int)) × Int) → Option (List (List Int))) (v1 : List (List Int)) (v2 : Int) : Option (List (List Int)) :=
  cond (decide (v2 < (t0.length : Int))) (
    iter (fun loop (s : (List Int) × Int) => f_R11_matrix_b2 t0 t1 loop3 v1 v2 loop s.1 s.2) 1000000 ([(55 : Int), (0 : Int)], (0 : Int))) (
    some v1)
def f_R11_matrix (t0 : List (List Int)) (t1 : Int) : Option (List (List Int)) :=
  iter (fun loop (s : (List (List Int)) × Int) => f_R11_matrix_b3 t0 t1 loop s.1 s.2) 1000000 (([] : List (List Int)), (0 : Int))
section
variable (t0 : List (List Int)) (t1 : Int) (v1 : List (List Int)) (v2 : Int) (v5 : List Int) (v6 : Int) (v11 : Int) (v12 : Int)
end
def f_R11_left (t0 : List Int) (t1 : Int) : Option (List Int) :=
  G (inR (t1 - (t0.length : Int))) <|
  (f_R11_blanks (t1 - (t0.length : Int))).bind fun x2 =>
  (f_R11_joined x2 t0).bind fun x3 =>
  some x3
def f_R11_bar_b1 (t0 : Int) (loop3 : ((List Int) × Int) → Option (List Int)) (v1 : List Int) (v2 : Int) : Option (List Int) :=
  cond (decide (v2 < t0)) (
    G (room 1 (v1.length + 1)) <|
    G (inR (v2 + 1)) <|
    loop3 (v1 ++ [(36 : Int)], v2 + 1)) (
    some v1)
def f_R11_bar (t0 : Int) : Option (List Int) :=
  iter (fun loop (s : (List Int) × Int) => f_R11_bar_b1 t0 loop s.1 s.2) 1000000 (([] : List Int), (0 : Int))
end Go.Proofs.YtioockkejhpleaaDoor
