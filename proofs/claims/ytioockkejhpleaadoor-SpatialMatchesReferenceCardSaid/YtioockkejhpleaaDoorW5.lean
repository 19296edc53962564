/- Own work. -/
import Derived.Test.YtioockkejhpleaaDoorW4
set_option linter.unusedSimpArgs false
set_option linter.unusedVariables false
set_option maxRecDepth 100000
namespace Go.Proofs.YtioockkejhpleaaDoor
open Go.Abs
def Y4k (loop10 : ((List Int) × (List Int) × Int) → Option (List Int)) (v9 : Int) (v12 : List Int) (v13 : List Int) : Option (List Int) :=
 G (inR (v9 + 1)) <|
 loop10 (v12, [(v13.getD 0 0), (v13.getD 1 0), (v13.getD 2 0)], v9 + 1)
def Y2p (rec_f_R10_write : (List Y4) → Int → (List Int) → Option (List Int)) (t0 : List Y4) (t2 : List Int) (x2 : List Int) (loop10 : ((List Int) × (List Int) × Int) → Option (List Int)) (v9 : Int) (v15 : List Int) (v16 : List Int) : Option (List Int) :=
 G (0 ≤ v9 ∧ v9 < (x2.length : Int)) <|
 (rec_f_R10_write t0 (x2.getD v9.toNat 0) t2).bind fun x18 =>
 G (room 1 (v15.length + x18.length)) <|
 Y4k loop10 v9 (v15 ++ x18) [(v16.getD 0 0), (v16.getD 1 0), (v16.getD 2 0)]
def Y1l (rec_f_R10_write : (List Y4) → Int → (List Int) → Option (List Int)) (t0 : List Y4) (t2 : List Int) (x2 : List Int) (loop10 : ((List Int) × (List Int) × Int) → Option (List Int)) (v7 : List Int) (v8 : List Int) (v9 : Int) : Option (List Int) :=
 cond (decide (v9 < (x2.length : Int))) (
  cond (decide (0 < v9)) (
   G (room 1 (v7.length + 1)) <|
   Y2p rec_f_R10_write t0 t2 x2 loop10 v9 (v7 ++ [(v8.getD 1 0)]) [(v8.getD 0 0), (v8.getD 1 0), (v8.getD 2 0)]) (
   Y2p rec_f_R10_write t0 t2 x2 loop10 v9 v7 [(v8.getD 0 0), (v8.getD 1 0), (v8.getD 2 0)])) (
  G (room 1 (v7.length + 1)) <|
  some (v7 ++ [(v8.getD 2 0)]))
def Y4j (rec_f_R10_write : (List Y4) → Int → (List Int) → Option (List Int)) (t0 : List Y4) (t2 : List Int) (x2 : List Int) (v3 : Y4) (v4 : List Int) : Option (List Int) :=
 (f_R10_around v3.Op).bind fun x5 =>
 G (room 1 (v4.length + 1)) <|
 iter (fun loop (s : (List Int) × (List Int) × Int) => Y1l rec_f_R10_write t0 t2 x2 loop s.1 s.2.1 s.2.2) 1000000 (v4 ++ [(x5.getD 0 0)], [(x5.getD 0 0), (x5.getD 1 0), (x5.getD 2 0)], (0 : Int))
def Y2o (rec_f_R10_write : (List Y4) → Int → (List Int) → Option (List Int)) (t0 : List Y4) (t2 : List Int) (x2 : List Int) (v41 : Y4) (v42 : List Int) : Option (List Int) :=
 (f_R10_under t2 v41.Op).bind fun x43 =>
 (f_R10_sign x43).bind fun x44 =>
 G (room 1 (v42.length + x44.length)) <|
 G (0 ≤ (1 : Int) ∧ (1 : Int) < (x2.length : Int)) <|
 (f_R10_under t2 v41.Op).bind fun x47 =>
 (rec_f_R10_write t0 (x2.getD (1 : Int).toNat (0 : Int)) x47).bind fun x48 =>
 G (room 1 ((v42 ++ x44).length + x48.length)) <|
 (f_R10_sign t2).bind fun x50 =>
 G (room 1 (((v42 ++ x44) ++ x48).length + x50.length)) <|
 some (((v42 ++ x44) ++ x48) ++ x50)
def Y4i (loop63 : ((List Int) × Int) → Option (List Int)) (v62 : Int) (v65 : List Int) : Option (List Int) :=
 G (inR (v62 + 1)) <|
 loop63 (v65, v62 + 1)
def Y1i (rec_f_R10_write : (List Y4) → Int → (List Int) → Option (List Int)) (t0 : List Y4) (t2 : List Int) (x2 : List Int) (loop63 : ((List Int) × Int) → Option (List Int)) (v62 : Int) (v67 : List Int) : Option (List Int) :=
 G (0 ≤ v62 ∧ v62 < (x2.length : Int)) <|
 (rec_f_R10_write t0 (x2.getD v62.toNat 0) t2).bind fun x69 =>
 G (room 1 (v67.length + x69.length)) <|
 Y4i loop63 v62 (v67 ++ x69)
def Y1k (rec_f_R10_write : (List Y4) → Int → (List Int) → Option (List Int)) (t0 : List Y4) (t2 : List Int) (x2 : List Int) (loop63 : ((List Int) × Int) → Option (List Int)) (v61 : List Int) (v62 : Int) : Option (List Int) :=
 cond (decide (v62 < (x2.length : Int))) (
  G (inR ((x2.length : Int) - 1)) <|
  cond (v62 == ((x2.length : Int) - 1)) (
   G (room 1 (v61.length + 1)) <|
   Y1i rec_f_R10_write t0 t2 x2 loop63 v62 (v61 ++ [(51 : Int)])) (
   cond (decide (0 < v62)) (
    G (room 1 (v61.length + 1)) <|
    Y1i rec_f_R10_write t0 t2 x2 loop63 v62 (v61 ++ [(32 : Int)])) (
    Y1i rec_f_R10_write t0 t2 x2 loop63 v62 v61))) (
  G (room 1 (v61.length + 1)) <|
  some (v61 ++ [(34 : Int)]))
def Y4h (loop82 : (Y4 × (List Int) × Int) → Option (List Int)) (v81 : Int) (v84 : Y4) (v85 : List Int) : Option (List Int) :=
 G (inR (v81 + 1)) <|
 loop82 (v84, v85, v81 + 1)
def Y1h (rec_f_R10_write : (List Y4) → Int → (List Int) → Option (List Int)) (t0 : List Y4) (t2 : List Int) (x2 : List Int) (loop82 : (Y4 × (List Int) × Int) → Option (List Int)) (v81 : Int) (v87 : Y4) (v88 : List Int) : Option (List Int) :=
 G (0 ≤ v81 ∧ v81 < (x2.length : Int)) <|
 (rec_f_R10_write t0 (x2.getD v81.toNat 0) t2).bind fun x90 =>
 G (room 1 (v88.length + x90.length)) <|
 Y4h loop82 v81 v87 (v88 ++ x90)
def Y1j (rec_f_R10_write : (List Y4) → Int → (List Int) → Option (List Int)) (t0 : List Y4) (t2 : List Int) (x2 : List Int) (loop82 : (Y4 × (List Int) × Int) → Option (List Int)) (v79 : Y4) (v80 : List Int) (v81 : Int) : Option (List Int) :=
 cond (decide (v81 < (x2.length : Int))) (
  G ((decide (0 < v81)) = true → (Int.tmod v79.N (8 : Int)) ≠ 0) <|
  cond (cond (decide (0 < v81)) ((Int.tmod v81 (Int.tmod v79.N (8 : Int))) == 0) false) (
   G (room 1 (v80.length + 1)) <|
   Y1h rec_f_R10_write t0 t2 x2 loop82 v81 v79 (v80 ++ [(51 : Int)])) (
   cond (decide (0 < v81)) (
    G (room 1 (v80.length + 1)) <|
    Y1h rec_f_R10_write t0 t2 x2 loop82 v81 v79 (v80 ++ [(32 : Int)])) (
    Y1h rec_f_R10_write t0 t2 x2 loop82 v81 v79 v80))) (
  G (room 1 (v80.length + 1)) <|
  some (v80 ++ [(43 : Int)]))
def Y1g (rec_f_R10_write : (List Y4) → Int → (List Int) → Option (List Int)) (t0 : List Y4) (t1 : Int) (t2 : List Int) (x2 : List Int) (v37 : Bool) : Option (List Int) :=
 cond v37 (
  G (0 ≤ (0 : Int) ∧ (0 : Int) < (x2.length : Int)) <|
  (rec_f_R10_write t0 (x2.getD (0 : Int).toNat (0 : Int)) t2).bind fun x40 =>
  G (0 ≤ (x2.getD (0 : Int).toNat (0 : Int)) ∧ (x2.getD (0 : Int).toNat (0 : Int)) < (t0.length : Int)) <|
  (f_R10_Simple ((t0.getD (x2.getD (0 : Int).toNat (0 : Int)).toNat Yb).Op)).bind fun x53 =>
  cond x53 (
   G (room 1 (([] : List Int).length + x40.length)) <|
   Y2o rec_f_R10_write t0 t2 x2 (t0.getD t1.toNat Yb) (([] : List Int) ++ x40)) (
   G (room 1 (([] : List Int).length + 1)) <|
   G (room 1 ((([] : List Int) ++ [(35 : Int)]).length + x40.length)) <|
   G (room 1 (((([] : List Int) ++ [(35 : Int)]) ++ x40).length + 1)) <|
   Y2o rec_f_R10_write t0 t2 x2 (t0.getD t1.toNat Yb) (((([] : List Int) ++ [(35 : Int)]) ++ x40) ++ [(50 : Int)]))) (
  cond (((t0.getD t1.toNat Yb).Op) == 12) (
   G (room 1 (([] : List Int).length + 1)) <|
   iter (fun loop (s : (List Int) × Int) => Y1k rec_f_R10_write t0 t2 x2 loop s.1 s.2) 1000000 (([] : List Int) ++ [(56 : Int)], (0 : Int))) (
   cond (((t0.getD t1.toNat Yb).Op) == 13) (
    G (room 1 (([] : List Int).length + 1)) <|
    iter (fun loop (s : Y4 × (List Int) × Int) => Y1j rec_f_R10_write t0 t2 x2 loop s.1 s.2.1 s.2.2) 1000000 ((t0.getD t1.toNat Yb), ([] : List Int) ++ [(41 : Int)], (0 : Int))) (
    Y4j rec_f_R10_write t0 t2 x2 (t0.getD t1.toNat Yb) ([] : List Int))))
def Y0p (rec_f_R10_write : (List Y4) → Int → (List Int) → Option (List Int)) (t0 : List Y4) (t1 : Int) (t2 : List Int) (x2 : List Int) (v27 : Bool) : Option (List Int) :=
 cond v27 (
  G (0 ≤ (0 : Int) ∧ (0 : Int) < (x2.length : Int)) <|
  (rec_f_R10_write t0 (x2.getD (0 : Int).toNat (0 : Int)) t2).bind fun x30 =>
  G (room 1 (([] : List Int).length + x30.length)) <|
  (Y5r ((t0.getD t1.toNat Yb).Op)).bind fun x32 =>
  G (room 1 ((([] : List Int) ++ x30).length + x32.length)) <|
  G (0 ≤ (1 : Int) ∧ (1 : Int) < (x2.length : Int)) <|
  (rec_f_R10_write t0 (x2.getD (1 : Int).toNat (0 : Int)) t2).bind fun x35 =>
  G (room 1 (((([] : List Int) ++ x30) ++ x32).length + x35.length)) <|
  some (((([] : List Int) ++ x30) ++ x32) ++ x35)) (
  cond (((t0.getD t1.toNat Yb).Op) == 7) (
   Y1g rec_f_R10_write t0 t1 t2 x2 (((t0.getD t1.toNat Yb).Op) == 7)) (
   Y1g rec_f_R10_write t0 t1 t2 x2 (((t0.getD t1.toNat Yb).Op) == 8)))
def Y4r (rec_f_R10_write : (List Y4) → Int → (List Int) → Option (List Int)) (t0 : List Y4) (t1 : Int) (t2 : List Int) : Option (List Int) :=
 G (0 ≤ t1 ∧ t1 < (t0.length : Int)) <|
 (Y2x t0 t1).bind fun x2 =>
 cond (((t0.getD t1.toNat Yb).Op) == 0) (
  (f_R10_number ((t0.getD t1.toNat Yb).N)).bind fun x24 =>
  some x24) (
  cond (((t0.getD t1.toNat Yb).Op) == 1) (
   (Y64 ((t0.getD t1.toNat Yb).N)).bind fun x26 =>
   some [(48 : Int), x26]) (
   cond (((t0.getD t1.toNat Yb).Op) == 2) (
    Y0p rec_f_R10_write t0 t1 t2 x2 (((t0.getD t1.toNat Yb).Op) == 2)) (
    cond (((t0.getD t1.toNat Yb).Op) == 3) (
     Y0p rec_f_R10_write t0 t1 t2 x2 (((t0.getD t1.toNat Yb).Op) == 3)) (
     cond (((t0.getD t1.toNat Yb).Op) == 4) (
      Y0p rec_f_R10_write t0 t1 t2 x2 (((t0.getD t1.toNat Yb).Op) == 4)) (
      Y0p rec_f_R10_write t0 t1 t2 x2 (((t0.getD t1.toNat Yb).Op) == 5))))))
section
variable (t0 : List Y4) (t1 : Int) (t2 : List Int) (v4 : List Int) (v7 : List Int) (v8 : List Int) (v9 : Int) (v15 : List Int) (v16 : List Int) (v42 : List Int) (v61 : List Int) (v62 : Int) (v67 : List Int) (v80 : List Int) (v81 : Int) (v88 : List Int) (x2 : List Int) (x5 : (List Int)) (x44 : (List Int))
abbrev Z8k := t0.getD t1.toNat Yb
abbrev Z8l := ([] : List Int)
abbrev Z8m : Nat × AV := (8, slA (eI .i64) x2)
abbrev Z8n : Nat × AV := (0, slA Y3 t0)
abbrev Z8o : List AV := [.j ((Z8k t0 t1).Op), .j ((Z8k t0 t1).N)]
abbrev Z8p : Nat × AV := (7, .ref 7 0 0)
abbrev Z8q := (Z8l ++ [(35 : Int)])
abbrev Z8r : Nat × AV := (9, .rsl 9 0 0 (Z8l.length))
abbrev Z8s := (x2.getD (0 : Int).toNat (0 : Int))
abbrev Z8t : Nat × AV := (13, .ref 13 0 0)
abbrev Z8u := (Z8k t0 t1).Op
abbrev Z8v := x2.flatMap (eI .i64)
abbrev Z8w := (x2.getD (1 : Int).toNat (0 : Int))
abbrev Z8x := (x2.length : Int)
abbrev Z8y : List AV := [.int .u8 (x5.getD 0 0), .int .u8 (x5.getD 1 0), .int .u8 (x5.getD 2 0)]
abbrev Z8z := ((Z8l ++ [(56 : Int)]).length)
abbrev Z90 := ((Z8l ++ [(41 : Int)]).length)
abbrev Z7x : Env := [(Z8n t0), (2, sU t2), Z8p, (Z8m x2), Z8r]
abbrev Z7y : Env := [(Z8n t0), (2, sU t2), Z8p, (Z8m x2)]
abbrev Z7z : Env := [(24, .j (Z8u t0 t1)), Z8r, (Z8m x2), Z8p, (Z8n t0), (2, sU t2)]
abbrev Z80 : Hp := [(7, ⟨0, true, 38, 2, (Z8o t0 t1)⟩), (9, rtA 0 41 1 (eI .u8) Z8l)]
abbrev Z81 : Env := [(Z8n t0), (2, sU t2), Z8p, (Z8m x2), (9, .rsl 9 0 0 v80.length), (12, .j v81)]
abbrev Z82 : Env := [(Z8n t0), (2, sU t2), (Z8m x2), (9, .rsl 9 0 0 v61.length), (11, .j v62)]
abbrev Z83 : Env := [(Z8n t0), (2, sU t2), Z8p, (Z8m x2), (12, .j v81)]
abbrev Z84 : Env := [(Z8n t0), (2, sU t2), (Z8m x2)]
abbrev Z85 : Env := [(Z8n t0), (2, sU t2), Z8p, (Z8m x2), Z8r, (24, .j (Z8u t0 t1))]
abbrev Z86 : Env := [(Z8n t0), (2, sU t2), (Z8m x2), (9, .rsl 9 0 0 v7.length), Z8t, (14, .j v9)]
abbrev Z87 : Env := [(Z8n t0), (2, sU t2), (Z8m x2), (11, .j v62)]
abbrev Z88 : Env := [(Z8n t0), (2, sU t2), (Z8m x2), Z8t, (14, .j v9)]
abbrev Z89 : Env := [(Z8n t0), (2, sU t2), (Z8m x2), (9, .rsl 9 0 0 v4.length)]
abbrev Z8a : Env := [(Z8n t0), (2, sU t2), (Z8m x2), (9, .rsl 9 0 0 v15.length), Z8t, (14, .j v9)]
abbrev Z8b : Env := [(Z8n t0), (2, sU t2), Z8p, (Z8m x2), (9, .rsl 9 0 0 v88.length), (12, .j v81)]
abbrev Z8c : Env := (101, .ipt (Z8v x2) ((1 : Int).toNat * 1)) :: (100, slA (eI .i64) x2) :: (99, slA Y3 t0) :: (98, .rsl 9 0 0 ((v42 ++ x44).length)) :: (9, .rsl 9 0 0 ((v42 ++ x44).length)) :: (Z7y t0 t2 x2)
abbrev Z8d : Env := [(Z8n t0), (2, sU t2), (Z8m x2), (9, .rsl 9 0 0 v67.length), (11, .j v62)]
abbrev Z8e : Env := [(Z8m x2), Z8p, (Z8n t0), (2, sU t2)]
abbrev Z8f : Env := [(Z8n t0), (1, .j t1), (2, sU t2)]
abbrev Z8g : Hp := [(13, ⟨0, true, 79, 3, [.int .u8 (v16.getD 0 0), .int .u8 (v16.getD 1 0), .int .u8 (v16.getD 2 0)]⟩)]
abbrev Z8h : Hp := [(13, ⟨0, true, 79, 3, (Z8y x5)⟩)]
abbrev Z8i : Hp := [(13, ⟨0, true, 79, 3, [.int .u8 (v8.getD 0 0), .int .u8 (v8.getD 1 0), .int .u8 (v8.getD 2 0)]⟩)]
abbrev Z8j : Env := [(Z8n t0), (2, sU t2), Z8p, (Z8m x2), (9, .rsl 9 0 0 v42.length)]
end
theorem f_R10_write_body_ok {rec_f_R10_write : (List Y4) → Int → (List Int) → Option (List Int)} (hrec_f_R10_write : ∀ (t0 : List Y4) (t1 : Int) (t2 : List Int) (r : List Int), rec_f_R10_write t0 t1 t2 = some r → QSpec Tryd.prog 31 [slA Y3 t0, .int .i64 t1, slA (eI .u8) t2] (slA (eI .u8) r)) {t0 : List Y4} {t1 : Int} {t2 : List Int} {r : List Int} (H : Y4r rec_f_R10_write t0 t1 t2 = some r) : QSpec Tryd.prog 31 [slA Y3 t0, .int .i64 t1, slA (eI .u8) t2] (slA (eI .u8) r) := by
 refine Ye Tryd.func31 rfl (by simp [Tryd.ntmps31]) ?_
 rw [Tryd.ntmps31]
 unfold Y4r at H
 change AW _ _ _ (Z8f t0 t1 t2) [] _
 refine Y0 (Y2 1 [0, 1, 2] (Z8f t0 t1 t2) ?_)
 refine Y1 (Y0 ?_)
 have ⟨g1, H⟩ := Y8 H
 refine Ya 3 [17, 0, 1, 2] ((17, .ipt (t0.flatMap Y3) (t1.toNat * 2)) :: (Z8f t0 t1 t2)) ⟨g1, trivial⟩ (OpsW.asU (.agg (Z8o t0 t1)) rfl rfl (Y4a (cs := t0.flatMap Y3) (off := t1.toNat * 2) (ds := Y3 (Z8k t0 t1)) rfl trivial (by kernel_rfl) (by have := Yn Y3 2 (fun _ => rfl) t0; have := (ltN g1); first | omega | (simp only [Z8k] at *; omega)) (fm_elem Y3 2 (fun _ => rfl) t0 Yb t1.toNat (ltN g1))) (Y5b rfl rfl rfl 7 rfl (by kernel_rfl : zc Tryd.prog 38 = some [.j 0, .j 0]) (by kernel_rfl) (OpsW.store rfl rfl rfl rfl trivial trivial rfl rfl rfl (by kernel_rfl) (Yy (by kernel_rfl)) (Xr (by kernel_rfl)) ?_)))
 change OpsW _ _ _ _ _ [(7, ⟨0, true, 38, 2, (Z8o t0 t1)⟩), (7, ⟨0, true, 38, 2, [.j (0 : Int), .j (0 : Int)]⟩)] _
 refine Y2 0 [7, 0, 1, 2] (Z8p :: (Z8f t0 t1 t2)) (OpsW.rc (Z8p :: (Z8f t0 t1 t2)) [(7, ⟨0, true, 38, 2, (Z8o t0 t1)⟩)] (StC.mk (phi [(7, some 7)]) (.o rfl (.i2 .nil) .nil) rfl (.cons (.r rfl) (.i3 .nil))) ?_)
 refine Y1 (Y0 (Y2 2 [20, 19, 7, 0, 2] [(20, .j t1), (19, slA Y3 t0), Z8p, (Z8n t0), (2, sU t2)] ?_))
 have ⟨x2, hx2, H⟩ := Yw H
 refine Yl rfl (.cons (.pur rfl) (.cons (.pur rfl) .nil)) (Y5h hx2) (Y2 1 [8, 7, 0, 2] (Z8e t0 t2 x2) ?_)
 refine Y1 (Y0 (Y1o (enc := eI .u8) Z8l rfl rfl rfl 22 rfl E39 (fun _ => rfl) (by decide) trivial (by kernel_rfl) (by kernel_rfl) (by kernel_rfl) rfl ?_))
 refine Y2 1 [9, 8, 7, 0, 2] ((9, .rsl 22 0 0 (Z8l.length)) :: (Z8e t0 t2 x2)) (OpsW.rc (Z8r :: (Z8e t0 t2 x2)) (Z80 t0 t1) (StC.mk (phi [(7, some 7), (9, some 22)]) (.o rfl (.i2 .nil) (.o rfl (CstL.ims _) .nil)) rfl (.cons (.s rfl) (.cons .im (.cons (.r rfl) (.i2 .nil))))) (Y1 ?_))
 refine Y07 (fun (y : Y4 × (List Int)) => Y4j rec_f_R10_write t0 t2 x2 y.1 y.2) r (fun (y : Y4 × (List Int)) => [(Z8n t0), (2, sU t2), Z8p, (Z8m x2), (9, .rsl 9 0 0 y.2.length)]) (fun (y : Y4 × (List Int)) => [(7, ⟨0, true, 38, 2, [.j y.1.Op, .j y.1.N]⟩), (9, rtA 0 41 1 (eI .u8) y.2)]) ?_ ?_
 ·refine Y0 (Y2 2 [24, 9, 8, 7, 0, 2] (Z7z t0 t1 t2 x2) ?_)
  refine Y1 (Yg (Y0 (Y2 2 [25, 24, 9, 8, 7, 0, 2] ((25, .bool ((Z8u t0 t1) == 0)) :: (Z7z t0 t1 t2 x2)) ?_)))
  refine Y1 (Y6 (b := (Z8u t0 t1) == 0) H rfl (fun c23 H => ?_) (fun c23 H => ?_))
  ·refine Y0 (Y2 2 [28] [(28, .j ((Z8k t0 t1).N))] ?_)
   have ⟨x24, hx24, H⟩ := Yw H
   refine Yl rfl (.cons (.pur rfl) .nil) (f_R10_number_ok hx24) (Y2 1 [6] [(6, sU x24)] (Y1 ?_))
   obtain rfl := X2 H
   refine AW.recast (env' := [(6, sU x24)]) (h' := []) (StC.pure (.cons .im .nil)) (Yh ?_)
   try simp only [Ex.t, Ex.b]
   exact Done.eq rfl (.tmp .nil)
  refine Y0 (Y2 2 [30, 24, 9, 8, 7, 0, 2] ((30, .bool ((Z8u t0 t1) == 1)) :: (Z7z t0 t1 t2 x2)) ?_)
  refine Y1 (Y6 (b := (Z8u t0 t1) == 1) H rfl (fun c25 H => ?_) (fun c25 H => ?_))
  ·refine Y0 (Y2 2 [33] [(33, .j ((Z8k t0 t1).N))] ?_)
   have ⟨x26, hx26, H⟩ := Yw H
   refine Yl rfl (.cons (.pur rfl) .nil) (f_R10_letter_ok hx26) (OpsW.buildTI (enc := eI .u8) [(48 : Int), x26] rfl rfl rfl E39 (fun _ => rfl) (by decide) ⟨trivial, by kernel_rfl, by kernel_rfl, by kernel_rfl, rfl⟩ (Y2 1 [6] [(6, sU [(48 : Int), x26])] (Y1 ?_)))
   obtain rfl := X2 H
   refine AW.recast (env' := [(6, sU [(48 : Int), x26])]) (h' := []) (StC.pure (.cons .im .nil)) (Yh ?_)
   try simp only [Ex.t, Ex.b]
   exact Done.eq rfl (.tmp .nil)
  refine Y07 (fun (y : Bool) => Y0p rec_f_R10_write t0 t1 t2 x2 y) r (fun (y : Bool) => [(Z8n t0), (2, sU t2), Z8p, (Z8m x2), Z8r, (24, .j (Z8u t0 t1)), (36, .bool y)]) (fun (y : Bool) => (Z80 t0 t1)) ?_ ?_
  ·refine Y0 (Y2 2 [36, 24, 9, 8, 7, 0, 2] ((36, .bool ((Z8u t0 t1) == 2)) :: (Z7z t0 t1 t2 x2)) ?_)
   refine Y1 (Y6 (b := (Z8u t0 t1) == 2) H rfl (fun c99 H => ?_) (fun c99 H => ?_))
   ·refine Yc ?_
    exact ⟨(Z8u t0 t1) == 2, H, (StC.mk (phi [(7, some 7), (9, some 9)]) (.o rfl (.i2 .nil) (.o rfl (CstL.ims _) .nil)) rfl (.i2 (.cons (.r rfl) (.cons .im (.cons (.s rfl) (.i2 .nil))))))⟩
   refine Y0 (Y2 2 [36, 24, 9, 8, 7, 0, 2] ((36, .bool ((Z8u t0 t1) == 3)) :: (Z7z t0 t1 t2 x2)) ?_)
   refine Y1 (Y6 (b := (Z8u t0 t1) == 3) H rfl (fun c100 H => ?_) (fun c100 H => ?_))
   ·refine Yc ?_
    exact ⟨(Z8u t0 t1) == 3, H, (StC.mk (phi [(7, some 7), (9, some 9)]) (.o rfl (.i2 .nil) (.o rfl (CstL.ims _) .nil)) rfl (.i2 (.cons (.r rfl) (.cons .im (.cons (.s rfl) (.i2 .nil))))))⟩
   refine Y0 (Y2 2 [36, 24, 9, 8, 7, 0, 2] ((36, .bool ((Z8u t0 t1) == 4)) :: (Z7z t0 t1 t2 x2)) ?_)
   refine Y1 (Y6 (b := (Z8u t0 t1) == 4) H rfl (fun c101 H => ?_) (fun c101 H => ?_))
   ·refine Yc ?_
    exact ⟨(Z8u t0 t1) == 4, H, (StC.mk (phi [(7, some 7), (9, some 9)]) (.o rfl (.i2 .nil) (.o rfl (CstL.ims _) .nil)) rfl (.i2 (.cons (.r rfl) (.cons .im (.cons (.s rfl) (.i2 .nil))))))⟩
   refine Y9 (Y2 2 [36, 24, 9, 8, 7, 0, 2] ((36, .bool ((Z8u t0 t1) == 5)) :: (Z7z t0 t1 t2 x2)) ?_)
   refine Y1 ?_
   exact ⟨(Z8u t0 t1) == 5, H, (StC.mk (phi [(7, some 7), (9, some 9)]) (.o rfl (.i2 .nil) (.o rfl (CstL.ims _) .nil)) rfl (.i2 (.cons (.r rfl) (.cons .im (.cons (.s rfl) (.i2 .nil))))))⟩
  intro v27 H
  unfold Y0p at H
  change AW _ _ _ [(Z8n t0), (2, sU t2), Z8p, (Z8m x2), Z8r, (24, .j (Z8u t0 t1)), (36, .bool v27)] (Z80 t0 t1) _
  refine Y6 (b := v27) H rfl (fun c28 H => ?_) (fun c28 H => ?_)
  ·refine Y0 ?_
   have ⟨g29, H⟩ := Y8 H
   refine Ya 4 [44, 42, 41, 0, 2, 7, 8, 9] ((44, .ipt (Z8v x2) ((0 : Int).toNat * 1)) :: (42, slA Y3 t0) :: (41, .rsl 9 0 0 (Z8l.length)) :: (Z7x t0 t2 x2)) ⟨g29, trivial⟩ (OpsW.asU (.j (Z8s x2)) rfl rfl (T.load rfl trivial (by kernel_rfl) (Y0b (eI .i64) 1 (fun _ => rfl) x2 (0 : Int) (0 : Int).toNat (ltN g29) (fun a => .val (.j a)) (fun _ => rfl))) (Y2 1 [46, 45, 42, 41, 0, 2, 7, 8, 9] ((46, sU t2) :: (45, .j (Z8s x2)) :: (42, slA Y3 t0) :: (41, .rsl 9 0 0 (Z8l.length)) :: (Z7x t0 t2 x2)) ?_))
   have ⟨x30, hx30, H⟩ := Yw H
   refine Yl rfl (.cons (.pur rfl) (.cons (.pur rfl) (.cons (.pur rfl) .nil))) (hrec_f_R10_write _ _ _ _ hx30) ?_
   have ⟨g31, H⟩ := Y8 H
   refine Y06 (enc := eI .u8) (ys := x30) rfl rfl rfl E39 (fun _ => rfl) rfl rfl trivial (SrcA.typed (enc := eI .u8) (fun _ => rfl) (by kernel_rfl) x30) rfl g31 (Y2 1 [9, 0, 2, 7, 8] ((9, .rsl 9 1 0 ((Z8l ++ x30).length)) :: (Z7y t0 t2 x2)) (OpsW.rc ((9, .rsl 9 0 0 ((Z8l ++ x30).length)) :: (Z7y t0 t2 x2)) [(7, ⟨0, true, 38, 2, (Z8o t0 t1)⟩), (9, rtA 0 41 1 (eI .u8) (Z8l ++ x30))] (StC.mk (phi [(7, some 7), (9, some 9)]) (.o rfl (.i2 .nil) (.o rfl (CstL.ims _) .nil)) rfl (.cons (.s rfl) (.i2 (.cons (.r rfl) (.cons .im .nil))))) ?_))
   refine Y1 (Y0 (Y2 3 [51, 49, 9, 0, 2, 8] ((51, .j (Z8u t0 t1)) :: (49, .rsl 9 0 0 ((Z8l ++ x30).length)) :: (9, .rsl 9 0 0 ((Z8l ++ x30).length)) :: (Z84 t0 t2 x2)) ?_))
   have ⟨x32, hx32, H⟩ := Yw H
   refine Yl rfl (.cons (.pur rfl) .nil) (f_R10_operator_ok hx32) ?_
   have ⟨g33, H⟩ := Y8 H
   refine Y06 (enc := eI .u8) (ys := x32) rfl rfl rfl E39 (fun _ => rfl) rfl rfl trivial (SrcA.typed (enc := eI .u8) (fun _ => rfl) (by kernel_rfl) x32) rfl g33 (Y2 1 [9, 0, 2, 8] ((9, .rsl 9 1 0 (((Z8l ++ x30) ++ x32).length)) :: (Z84 t0 t2 x2)) (OpsW.rc ((9, .rsl 9 0 0 (((Z8l ++ x30) ++ x32).length)) :: (Z84 t0 t2 x2)) [(9, rtA 0 41 1 (eI .u8) ((Z8l ++ x30) ++ x32))] (StC.mk (phi [(9, some 9)]) (.o rfl (CstL.ims _) .nil) rfl (.cons (.s rfl) (.i3 .nil))) ?_))
   refine Y1 (Y0 ?_)
   have ⟨g34, H⟩ := Y8 H
   refine Ya 4 [57, 55, 54, 2] [(57, .ipt (Z8v x2) ((1 : Int).toNat * 1)), (55, slA Y3 t0), (54, .rsl 9 0 0 (((Z8l ++ x30) ++ x32).length)), (2, sU t2)] ⟨g34, trivial⟩ (OpsW.asU (.j (Z8w x2)) rfl rfl (T.load rfl trivial (by kernel_rfl) (Y0b (eI .i64) 1 (fun _ => rfl) x2 (0 : Int) (1 : Int).toNat (ltN g34) (fun a => .val (.j a)) (fun _ => rfl))) (Y2 1 [59, 58, 55, 54] [(59, sU t2), (58, .j (Z8w x2)), (55, slA Y3 t0), (54, .rsl 9 0 0 (((Z8l ++ x30) ++ x32).length))] ?_))
   have ⟨x35, hx35, H⟩ := Yw H
   refine Yl rfl (.cons (.pur rfl) (.cons (.pur rfl) (.cons (.pur rfl) .nil))) (hrec_f_R10_write _ _ _ _ hx35) ?_
   have ⟨g36, H⟩ := Y8 H
   refine Y06 (enc := eI .u8) (ys := x35) rfl rfl rfl E39 (fun _ => rfl) rfl rfl trivial (SrcA.typed (enc := eI .u8) (fun _ => rfl) (by kernel_rfl) x35) rfl g36 (Y2 1 [6] [(6, .rsl 9 1 0 ((((Z8l ++ x30) ++ x32) ++ x35).length))] (OpsW.rc [(6, sU (((Z8l ++ x30) ++ x32) ++ x35))] [] (StC.mk (phi []) .nil rfl (.cons (.frz rfl rfl rfl (Y1y (eI .u8) 1 (fun _ => rfl) (((Z8l ++ x30) ++ x32) ++ x35)) (Yn (eI .u8) 1 (fun _ => rfl) (((Z8l ++ x30) ++ x32) ++ x35)) (Y3f rfl)) .nil)) (Y1 ?_)))
   obtain rfl := X2 H
   refine AW.recast (env' := [(6, sU (((Z8l ++ x30) ++ x32) ++ x35))]) (h' := []) (StC.pure (.cons .im .nil)) (Yh ?_)
   try simp only [Ex.t, Ex.b]
   exact Done.eq rfl (.tmp .nil)
  refine Y07 (fun (y : Bool) => Y1g rec_f_R10_write t0 t1 t2 x2 y) r (fun (y : Bool) => [(Z8n t0), (2, sU t2), Z8p, (Z8m x2), Z8r, (24, .j (Z8u t0 t1)), (62, .bool y)]) (fun (y : Bool) => (Z80 t0 t1)) ?_ ?_
  ·refine Y0 (Y2 2 [62, 0, 2, 7, 8, 9, 24] ((62, .bool ((Z8u t0 t1) == 7)) :: (Z85 t0 t1 t2 x2)) ?_)
   refine Y1 (Y6 (b := (Z8u t0 t1) == 7) H rfl (fun c98 H => ?_) (fun c98 H => ?_))
   ·refine Yc ?_
    exact ⟨(Z8u t0 t1) == 7, H, (StC.mk (phi [(7, some 7), (9, some 9)]) (.o rfl (.i2 .nil) (.o rfl (CstL.ims _) .nil)) rfl (.i2 (.cons (.r rfl) (.cons .im (.cons (.s rfl) (.i2 .nil))))))⟩
   refine Y9 (Y2 2 [62, 0, 2, 7, 8, 9, 24] ((62, .bool ((Z8u t0 t1) == 8)) :: (Z85 t0 t1 t2 x2)) ?_)
   refine Y1 ?_
   exact ⟨(Z8u t0 t1) == 8, H, (StC.mk (phi [(7, some 7), (9, some 9)]) (.o rfl (.i2 .nil) (.o rfl (CstL.ims _) .nil)) rfl (.i2 (.cons (.r rfl) (.cons .im (.cons (.s rfl) (.i2 .nil))))))⟩
  intro v37 H
  unfold Y1g at H
  change AW _ _ _ [(Z8n t0), (2, sU t2), Z8p, (Z8m x2), Z8r, (24, .j (Z8u t0 t1)), (62, .bool v37)] (Z80 t0 t1) _
  refine Y6 (b := v37) H rfl (fun c38 H => ?_) (fun c38 H => ?_)
  ·refine Y0 ?_
   have ⟨g39, H⟩ := Y8 H
   refine Ya 3 [67, 65, 0, 2, 7, 8, 9] ((67, .ipt (Z8v x2) ((0 : Int).toNat * 1)) :: (65, slA Y3 t0) :: (Z7x t0 t2 x2)) ⟨g39, trivial⟩ (OpsW.asU (.j (Z8s x2)) rfl rfl (T.load rfl trivial (by kernel_rfl) (Y0b (eI .i64) 1 (fun _ => rfl) x2 (0 : Int) (0 : Int).toNat (ltN g39) (fun a => .val (.j a)) (fun _ => rfl))) (Y2 1 [69, 68, 65, 0, 2, 7, 8, 9] ((69, sU t2) :: (68, .j (Z8s x2)) :: (65, slA Y3 t0) :: (Z7x t0 t2 x2)) ?_))
   have ⟨x40, hx40, H⟩ := Yw H
   refine Yl rfl (.cons (.pur rfl) (.cons (.pur rfl) (.cons (.pur rfl) .nil))) (hrec_f_R10_write _ _ _ _ hx40) (Y2 1 [10, 0, 2, 7, 8, 9] ((10, sU x40) :: (Z7x t0 t2 x2)) (Y1 ?_))
   refine Y07 (fun (y : Y4 × (List Int)) => Y2o rec_f_R10_write t0 t2 x2 y.1 y.2) r (fun (y : Y4 × (List Int)) => [(Z8n t0), (2, sU t2), Z8p, (Z8m x2), (9, .rsl 9 0 0 y.2.length)]) (fun (y : Y4 × (List Int)) => [(7, ⟨0, true, 38, 2, [.j y.1.Op, .j y.1.N]⟩), (9, rtA 0 41 1 (eI .u8) y.2)]) ?_ ?_
   ·refine Y0 (Ya 3 [73, 71, 10, 0, 2, 7, 8, 9] ((73, .ipt (Z8v x2) ((0 : Int).toNat * 1)) :: (71, slA Y3 t0) :: (10, sU x40) :: (Z7x t0 t2 x2)) ⟨g39, trivial⟩ ?_)
    refine OpsW.asU (.j (Z8s x2)) rfl rfl (T.load rfl trivial (by kernel_rfl) (Y0b (eI .i64) 1 (fun _ => rfl) x2 (0 : Int) (0 : Int).toNat (ltN g39) (fun a => .val (.j a)) (fun _ => rfl))) ?_
    have ⟨g52, H⟩ := Y8 H
    refine Ya 2 [76, 10, 0, 2, 7, 8, 9] ((76, .ipt (t0.flatMap Y3) ((Z8s x2).toNat * 2 + 0)) :: (10, sU x40) :: (Z7x t0 t2 x2)) ⟨g52, trivial⟩ (OpsW.asU (.j ((t0.getD (x2.getD (0 : Int).toNat (0 : Int)).toNat Yb).Op)) rfl rfl (T.load rfl trivial (by kernel_rfl) (Y5w Y3 2 (fun _ => rfl) t0 Yb (Z8s x2).toNat (ltN g52) 0 (fun a => .val (.j a.Op)) (fun _ => rfl))) ?_)
    have ⟨x53, hx53, H⟩ := Yw H
    refine Yl rfl (.cons (.pur rfl) .nil) (f_R10_Simple_ok hx53) (Y2 0 [78, 10, 0, 2, 7, 8, 9] ((78, .bool x53) :: (10, sU x40) :: (Z7x t0 t2 x2)) (Y1 (Y6 (b := x53) H rfl (fun c54 H => ?_) (fun c54 H => ?_))))
    ·refine Y9 (Y2 2 [80, 79, 0, 2, 7, 8, 9] ((80, sU x40) :: (79, .rsl 9 0 0 (Z8l.length)) :: (Z7x t0 t2 x2)) ?_)
     have ⟨g55, H⟩ := Y8 H
     refine Y06 (enc := eI .u8) (ys := x40) rfl rfl rfl E39 (fun _ => rfl) rfl rfl trivial (SrcA.typed (enc := eI .u8) (fun _ => rfl) (by kernel_rfl) x40) rfl g55 (Y2 1 [9, 0, 2, 7, 8] ((9, .rsl 9 1 0 ((Z8l ++ x40).length)) :: (Z7y t0 t2 x2)) (OpsW.rc ((9, .rsl 9 0 0 ((Z8l ++ x40).length)) :: (Z7y t0 t2 x2)) [(7, ⟨0, true, 38, 2, (Z8o t0 t1)⟩), (9, rtA 0 41 1 (eI .u8) (Z8l ++ x40))] (StC.mk (phi [(7, some 7), (9, some 9)]) (.o rfl (.i2 .nil) (.o rfl (CstL.ims _) .nil)) rfl (.cons (.s rfl) (.i2 (.cons (.r rfl) (.cons .im .nil))))) (Y1 ?_)))
     exact ⟨((Z8k t0 t1), Z8l ++ x40), H, (StC.mk (phi [(7, some 7), (9, some 9)]) (.o rfl (.i2 .nil) (.o rfl (CstL.ims _) .nil)) rfl (.i2 (.cons (.r rfl) (.cons .im (.cons (.s rfl) .nil)))))⟩
    refine Y0 (Y2 1 [82, 10, 0, 2, 7, 8, 9] ((82, .rsl 9 0 0 (Z8l.length)) :: (10, sU x40) :: (Z7x t0 t2 x2)) ?_)
    have ⟨g56, H⟩ := Y8 H
    refine Ym (enc := eI .u8) [(35 : Int)] rfl rfl rfl (by decide) rfl rfl rfl (by simp) E39 (fun _ => rfl) (by decide) trivial (by kernel_rfl) (by kernel_rfl) (by kernel_rfl) rfl rfl rfl g56 (Y2 1 [9, 10, 0, 2, 7, 8] ((9, .rsl 9 1 0 (Z8q.length)) :: (10, sU x40) :: (Z7y t0 t2 x2)) (OpsW.rc ((9, .rsl 9 0 0 (Z8q.length)) :: (10, sU x40) :: (Z7y t0 t2 x2)) [(7, ⟨0, true, 38, 2, (Z8o t0 t1)⟩), (9, rtA 0 41 1 (eI .u8) Z8q)] (StC.mk (phi [(7, some 7), (9, some 9)]) (.o rfl (.i2 .nil) (.o rfl (CstL.ims _) .nil)) rfl (.cons (.s rfl) (.i3 (.cons (.r rfl) (.cons .im .nil))))) ?_))
    refine Y1 (Y0 (Y2 2 [86, 85, 9, 0, 2, 7, 8] ((86, sU x40) :: (85, .rsl 9 0 0 (Z8q.length)) :: (9, .rsl 9 0 0 (Z8q.length)) :: (Z7y t0 t2 x2)) ?_))
    have ⟨g57, H⟩ := Y8 H
    refine Y06 (enc := eI .u8) (ys := x40) rfl rfl rfl E39 (fun _ => rfl) rfl rfl trivial (SrcA.typed (enc := eI .u8) (fun _ => rfl) (by kernel_rfl) x40) rfl g57 (Y2 1 [9, 0, 2, 7, 8] ((9, .rsl 9 1 0 ((Z8q ++ x40).length)) :: (Z7y t0 t2 x2)) (OpsW.rc ((9, .rsl 9 0 0 ((Z8q ++ x40).length)) :: (Z7y t0 t2 x2)) [(7, ⟨0, true, 38, 2, (Z8o t0 t1)⟩), (9, rtA 0 41 1 (eI .u8) (Z8q ++ x40))] (StC.mk (phi [(7, some 7), (9, some 9)]) (.o rfl (.i2 .nil) (.o rfl (CstL.ims _) .nil)) rfl (.cons (.s rfl) (.i2 (.cons (.r rfl) (.cons .im .nil))))) ?_))
    refine Y1 (Y9 (Y2 1 [88, 9, 0, 2, 7, 8] ((88, .rsl 9 0 0 ((Z8q ++ x40).length)) :: (9, .rsl 9 0 0 ((Z8q ++ x40).length)) :: (Z7y t0 t2 x2)) ?_))
    have ⟨g58, H⟩ := Y8 H
    refine Ym (enc := eI .u8) [(50 : Int)] rfl rfl rfl (by decide) rfl rfl rfl (by simp) E39 (fun _ => rfl) (by decide) trivial (by kernel_rfl) (by kernel_rfl) (by kernel_rfl) rfl rfl rfl g58 (Y2 1 [9, 0, 2, 7, 8] ((9, .rsl 9 1 0 (((Z8q ++ x40) ++ [(50 : Int)]).length)) :: (Z7y t0 t2 x2)) (OpsW.rc ((9, .rsl 9 0 0 (((Z8q ++ x40) ++ [(50 : Int)]).length)) :: (Z7y t0 t2 x2)) [(7, ⟨0, true, 38, 2, (Z8o t0 t1)⟩), (9, rtA 0 41 1 (eI .u8) ((Z8q ++ x40) ++ [(50 : Int)]))] (StC.mk (phi [(7, some 7), (9, some 9)]) (.o rfl (.i2 .nil) (.o rfl (CstL.ims _) .nil)) rfl (.cons (.s rfl) (.i2 (.cons (.r rfl) (.cons .im .nil))))) (Y1 ?_)))
    exact ⟨((Z8k t0 t1), (Z8q ++ x40) ++ [(50 : Int)]), H, (StC.mk (phi [(7, some 7), (9, some 9)]) (.o rfl (.i2 .nil) (.o rfl (CstL.ims _) .nil)) rfl (.i2 (.cons (.r rfl) (.cons .im (.cons (.s rfl) .nil)))))⟩
   rintro ⟨v41, v42⟩ H
   unfold Y2o at H
   change AW _ _ _ (Z8j t0 t2 v42 x2) [(7, ⟨0, true, 38, 2, [.j v41.Op, .j v41.N]⟩), (9, rtA 0 41 1 (eI .u8) v42)] _
   refine Y0 (Y2 4 [94, 92, 91, 0, 2, 7, 8, 9] ((94, .j v41.Op) :: (92, sU t2) :: (91, .rsl 9 0 0 v42.length) :: (Z8j t0 t2 v42 x2)) ?_)
   have ⟨x43, hx43, H⟩ := Yw H
   refine Yl rfl (.cons (.pur rfl) (.cons (.pur rfl) .nil)) (f_R10_under_ok hx43) ?_
   have ⟨x44, hx44, H⟩ := Yw H
   refine Yl rfl (.cons (.pur rfl) .nil) (f_R10_sign_ok hx44) ?_
   have ⟨g45, H⟩ := Y8 H
   refine Y06 (enc := eI .u8) (ys := x44) rfl rfl rfl E39 (fun _ => rfl) rfl rfl trivial (SrcA.typed (enc := eI .u8) (fun _ => rfl) (by kernel_rfl) x44) rfl g45 (Y2 1 [9, 0, 2, 7, 8] ((9, .rsl 9 1 0 ((v42 ++ x44).length)) :: (Z7y t0 t2 x2)) (OpsW.rc ((9, .rsl 9 0 0 ((v42 ++ x44).length)) :: (Z7y t0 t2 x2)) [(7, ⟨0, true, 38, 2, [.j v41.Op, .j v41.N]⟩), (9, rtA 0 41 1 (eI .u8) (v42 ++ x44))] (StC.mk (phi [(7, some 7), (9, some 9)]) (.o rfl (.i2 .nil) (.o rfl (CstL.ims _) .nil)) rfl (.cons (.s rfl) (.i2 (.cons (.r rfl) (.cons .im .nil))))) ?_))
   refine Y1 (AW.drawTSeq 10 Tryd.checked.mixed (by kernel_rfl) ?_)
   have ⟨g46, H⟩ := Y8 H
   refine QOps.sz (N := 225) 4 (Z8c t0 t2 v42 x2 x44) ⟨g46, trivial⟩ (QOps.asU (.j (Z8w x2)) rfl (T.load rfl trivial (by kernel_rfl) (Y0b (eI .i64) 1 (fun _ => rfl) x2 (0 : Int) (1 : Int).toNat (ltN g46) (fun a => .val (.j a)) (fun _ => rfl))) (QOps.sz (N := 225) 3 ((105, .j v41.Op) :: (104, .ref 7 0 0) :: (103, sU t2) :: (102, .j (Z8w x2)) :: (Z8c t0 t2 v42 x2 x44)) trivial ?_))
   have ⟨x47, hx47, H⟩ := Yw H
   refine QOps.qcall rfl (by kernel_rfl) rfl (Yd trivial) (.cons (.pur rfl) (.cons (.pur rfl) .nil)) (f_R10_under_ok hx47) rfl ?_
   have ⟨x48, hx48, H⟩ := Yw H
   refine QOps.qcall rfl (by kernel_rfl) rfl (Yd trivial) (.cons (.pur rfl) (.cons (.pur rfl) (.cons (.pur rfl) .nil))) (hrec_f_R10_write _ _ _ _ hx48) rfl ?_
   refine QOps.nil (Y2 0 [107, 98, 9, 2] [(107, sU x48), (98, .rsl 9 0 0 ((v42 ++ x44).length)), (9, .rsl 9 0 0 ((v42 ++ x44).length)), (2, sU t2)] ?_)
   have ⟨g49, H⟩ := Y8 H
   refine Y06 (enc := eI .u8) (ys := x48) rfl rfl rfl E39 (fun _ => rfl) rfl rfl trivial (SrcA.typed (enc := eI .u8) (fun _ => rfl) (by kernel_rfl) x48) rfl g49 (Y2 1 [9, 2] [(9, .rsl 9 1 0 (((v42 ++ x44) ++ x48).length)), (2, sU t2)] (OpsW.rc [(9, .rsl 9 0 0 (((v42 ++ x44) ++ x48).length)), (2, sU t2)] [(9, rtA 0 41 1 (eI .u8) ((v42 ++ x44) ++ x48))] (StC.mk (phi [(9, some 9)]) (.o rfl (CstL.ims _) .nil) rfl (.cons (.s rfl) (.cons .im .nil))) ?_))
   refine Y1 (Y0 (Y2 2 [110, 109] [(110, sU t2), (109, .rsl 9 0 0 (((v42 ++ x44) ++ x48).length))] ?_))
   have ⟨x50, hx50, H⟩ := Yw H
   refine Yl rfl (.cons (.pur rfl) .nil) (f_R10_sign_ok hx50) ?_
   have ⟨g51, H⟩ := Y8 H
   refine Y06 (enc := eI .u8) (ys := x50) rfl rfl rfl E39 (fun _ => rfl) rfl rfl trivial (SrcA.typed (enc := eI .u8) (fun _ => rfl) (by kernel_rfl) x50) rfl g51 (Y2 1 [6] [(6, .rsl 9 1 0 ((((v42 ++ x44) ++ x48) ++ x50).length))] (OpsW.rc [(6, sU (((v42 ++ x44) ++ x48) ++ x50))] [] (StC.mk (phi []) .nil rfl (.cons (.frz rfl rfl rfl (Y1y (eI .u8) 1 (fun _ => rfl) (((v42 ++ x44) ++ x48) ++ x50)) (Yn (eI .u8) 1 (fun _ => rfl) (((v42 ++ x44) ++ x48) ++ x50)) (Y3f rfl)) .nil)) (Y1 ?_)))
   obtain rfl := X2 H
   refine AW.recast (env' := [(6, sU (((v42 ++ x44) ++ x48) ++ x50))]) (h' := []) (StC.pure (.cons .im .nil)) (Yh ?_)
   try simp only [Ex.t, Ex.b]
   exact Done.eq rfl (.tmp .nil)
  refine Y0 (Y2 2 [113, 0, 2, 7, 8, 9, 24] ((113, .bool ((Z8u t0 t1) == 12)) :: (Z85 t0 t1 t2 x2)) ?_)
  refine Y1 (Y6 (b := (Z8u t0 t1) == 12) H rfl (fun c59 H => ?_) (fun c59 H => ?_))
  ·refine Y0 (Y2 1 [115, 0, 2, 8, 9] [(115, .rsl 9 0 0 (Z8l.length)), (Z8n t0), (2, sU t2), (Z8m x2), Z8r] ?_)
   have ⟨g60, H⟩ := Y8 H
   refine Ym (enc := eI .u8) [(56 : Int)] rfl rfl rfl (by decide) rfl rfl rfl (by simp) E39 (fun _ => rfl) (by decide) trivial (by kernel_rfl) (by kernel_rfl) (by kernel_rfl) rfl rfl rfl g60 (Y2 1 [9, 0, 2, 8] ((9, .rsl 9 1 0 Z8z) :: (Z84 t0 t2 x2)) (OpsW.rc ((9, .rsl 9 0 0 Z8z) :: (Z84 t0 t2 x2)) [(9, rtA 0 41 1 (eI .u8) (Z8l ++ [(56 : Int)]))] (StC.mk (phi [(9, some 9)]) (.o rfl (CstL.ims _) .nil) rfl (.cons (.s rfl) (.i3 .nil))) ?_))
   refine Y1 (Yi (Y0 (Y2 1 [11, 9, 0, 2, 8] ((11, .j (0 : Int)) :: (9, .rsl 9 0 0 Z8z) :: (Z84 t0 t2 x2)) ?_)))
   refine Y1 (Yg ?_)
   refine Y0z (fun loop (s : (List Int) × Int) => Y1k rec_f_R10_write t0 t2 x2 loop s.1 s.2) r (fun (s : (List Int) × Int) => [(Z8n t0), (2, sU t2), (Z8m x2), (9, .rsl 9 0 0 s.1.length), (11, .j s.2)]) (fun (s : (List Int) × Int) => [(9, rtA 0 41 1 (eI .u8) s.1)]) ?_ 1000000 (Z8l ++ [(56 : Int)], (0 : Int)) H (StC.mk (phi [(9, some 9)]) (.o rfl (CstL.ims _) .nil) rfl (.i3 (.cons (.s rfl) (.cons .im .nil))))
   intro loop63 s H
   obtain ⟨v61, v62⟩ := s
   unfold Y1k at H
   change AW _ _ _ (Z82 t0 t2 v61 v62 x2) [(9, rtA 0 41 1 (eI .u8) v61)] _
   refine Yi (Y0 (Y2 4 [121, 0, 2, 8, 9, 11] ((121, .bool (decide (v62 < (Z8x x2)))) :: (Z82 t0 t2 v61 v62 x2)) ?_))
   refine Y1 (Y6 (b := decide (v62 < (Z8x x2))) H rfl (fun c64 H => ?_) (fun c64 H => ?_))
   ·refine Yc ?_
    refine Y07 (fun (y : (List Int)) => Y4i loop63 v62 y) r (fun (y : (List Int)) => [(Z8n t0), (2, sU t2), (Z8m x2), (9, .rsl 9 0 0 y.length), (11, .j v62)]) (fun (y : (List Int)) => [(9, rtA 0 41 1 (eI .u8) y)]) ?_ ?_
    ·refine Yg ?_
     refine Y07 (fun (y : (List Int)) => Y1i rec_f_R10_write t0 t2 x2 loop63 v62 y) r (fun (y : (List Int)) => [(Z8n t0), (2, sU t2), (Z8m x2), (9, .rsl 9 0 0 y.length), (11, .j v62)]) (fun (y : (List Int)) => [(9, rtA 0 41 1 (eI .u8) y)]) ?_ ?_
     ·refine Y0 ?_
      have ⟨g71, H⟩ := Y8 H
      refine Ya 5 [128, 0, 2, 8, 9, 11] ((128, .bool (v62 == ((Z8x x2) - 1))) :: (Z82 t0 t2 v61 v62 x2)) ⟨g71, trivial⟩ (Y1 (Y6 (b := v62 == ((Z8x x2) - 1)) H rfl (fun c72 H => ?_) (fun c72 H => ?_)))
      ·refine Y9 (Y2 1 [129, 0, 2, 8, 9, 11] ((129, .rsl 9 0 0 v61.length) :: (Z82 t0 t2 v61 v62 x2)) ?_)
       have ⟨g73, H⟩ := Y8 H
       refine Ym (enc := eI .u8) [(51 : Int)] rfl rfl rfl (by decide) rfl rfl rfl (by simp) E39 (fun _ => rfl) (by decide) trivial (by kernel_rfl) (by kernel_rfl) (by kernel_rfl) rfl rfl rfl g73 (Y2 1 [9, 0, 2, 8, 11] ((9, .rsl 9 1 0 ((v61 ++ [(51 : Int)]).length)) :: (Z87 t0 t2 v62 x2)) (OpsW.rc ((9, .rsl 9 0 0 ((v61 ++ [(51 : Int)]).length)) :: (Z87 t0 t2 v62 x2)) [(9, rtA 0 41 1 (eI .u8) (v61 ++ [(51 : Int)]))] (StC.mk (phi [(9, some 9)]) (.o rfl (CstL.ims _) .nil) rfl (.cons (.s rfl) (.i4 .nil))) (Y1 ?_)))
       exact ⟨v61 ++ [(51 : Int)], H, (StC.mk (phi [(9, some 9)]) (.o rfl (CstL.ims _) .nil) rfl (.i3 (.cons (.s rfl) (.cons .im .nil))))⟩
      refine Y0 (Y2 2 [133, 0, 2, 8, 9, 11] ((133, .bool (decide (0 < v62))) :: (Z82 t0 t2 v61 v62 x2)) ?_)
      refine Y1 (Y6 (b := decide (0 < v62)) H rfl (fun c74 H => ?_) (fun c74 H => ?_))
      ·refine Y9 (Y2 1 [134, 0, 2, 8, 9, 11] ((134, .rsl 9 0 0 v61.length) :: (Z82 t0 t2 v61 v62 x2)) ?_)
       have ⟨g75, H⟩ := Y8 H
       refine Ym (enc := eI .u8) [(32 : Int)] rfl rfl rfl (by decide) rfl rfl rfl (by simp) E39 (fun _ => rfl) (by decide) trivial (by kernel_rfl) (by kernel_rfl) (by kernel_rfl) rfl rfl rfl g75 (Y2 1 [9, 0, 2, 8, 11] ((9, .rsl 9 1 0 ((v61 ++ [(32 : Int)]).length)) :: (Z87 t0 t2 v62 x2)) (OpsW.rc ((9, .rsl 9 0 0 ((v61 ++ [(32 : Int)]).length)) :: (Z87 t0 t2 v62 x2)) [(9, rtA 0 41 1 (eI .u8) (v61 ++ [(32 : Int)]))] (StC.mk (phi [(9, some 9)]) (.o rfl (CstL.ims _) .nil) rfl (.cons (.s rfl) (.i4 .nil))) (Y1 ?_)))
       exact ⟨v61 ++ [(32 : Int)], H, (StC.mk (phi [(9, some 9)]) (.o rfl (CstL.ims _) .nil) rfl (.i3 (.cons (.s rfl) (.cons .im .nil))))⟩
      refine Yc ?_
      exact ⟨v61, H, (StC.mk (phi [(9, some 9)]) (.o rfl (CstL.ims _) .nil) rfl (.i3 (.cons (.s rfl) (.cons .im .nil))))⟩
     intro v67 H
     unfold Y1i at H
     change AW _ _ _ (Z8d t0 t2 v62 v67 x2) [(9, rtA 0 41 1 (eI .u8) v67)] _
     refine Y9 ?_
     have ⟨g68, H⟩ := Y8 H
     refine Ya 5 [141, 138, 137, 0, 2, 8, 9, 11] ((141, .ipt (Z8v x2) (v62.toNat * 1)) :: (138, slA Y3 t0) :: (137, .rsl 9 0 0 v67.length) :: (Z8d t0 t2 v62 v67 x2)) ⟨g68, trivial⟩ (OpsW.asU (.j (x2.getD v62.toNat 0)) rfl rfl (T.load rfl trivial (by kernel_rfl) (Y0b (eI .i64) 1 (fun _ => rfl) x2 (0 : Int) v62.toNat (ltN g68) (fun a => .val (.j a)) (fun _ => rfl))) (Y2 1 [143, 142, 138, 137, 0, 2, 8, 9, 11] ((143, sU t2) :: (142, .j (x2.getD v62.toNat 0)) :: (138, slA Y3 t0) :: (137, .rsl 9 0 0 v67.length) :: (Z8d t0 t2 v62 v67 x2)) ?_))
     have ⟨x69, hx69, H⟩ := Yw H
     refine Yl rfl (.cons (.pur rfl) (.cons (.pur rfl) (.cons (.pur rfl) .nil))) (hrec_f_R10_write _ _ _ _ hx69) ?_
     have ⟨g70, H⟩ := Y8 H
     refine Y06 (enc := eI .u8) (ys := x69) rfl rfl rfl E39 (fun _ => rfl) rfl rfl trivial (SrcA.typed (enc := eI .u8) (fun _ => rfl) (by kernel_rfl) x69) rfl g70 (Y2 1 [9, 0, 2, 8, 11] ((9, .rsl 9 1 0 ((v67 ++ x69).length)) :: (Z87 t0 t2 v62 x2)) (OpsW.rc ((9, .rsl 9 0 0 ((v67 ++ x69).length)) :: (Z87 t0 t2 v62 x2)) [(9, rtA 0 41 1 (eI .u8) (v67 ++ x69))] (StC.mk (phi [(9, some 9)]) (.o rfl (CstL.ims _) .nil) rfl (.cons (.s rfl) (.i4 .nil))) (Y1 ?_)))
     exact ⟨v67 ++ x69, H, (StC.mk (phi [(9, some 9)]) (.o rfl (CstL.ims _) .nil) rfl (.i3 (.cons (.s rfl) (.cons .im .nil))))⟩
    intro v65 H
    unfold Y4i at H
    change AW _ _ _ [(Z8n t0), (2, sU t2), (Z8m x2), (9, .rsl 9 0 0 v65.length), (11, .j v62)] [(9, rtA 0 41 1 (eI .u8) v65)] _
    refine Y9 ?_
    have ⟨g66, H⟩ := Y8 H
    refine Ya 3 [11, 0, 2, 8, 9] [(11, .j (v62 + 1)), (Z8n t0), (2, sU t2), (Z8m x2), (9, .rsl 9 0 0 v65.length)] ⟨g66, trivial⟩ (Y1 ?_)
    exact ⟨(v65, v62 + 1), H, (StC.mk (phi [(9, some 9)]) (.o rfl (CstL.ims _) .nil) rfl (.i3 (.cons (.s rfl) (.cons .im .nil))))⟩
   refine AW.exit ?_
   refine Y0 (Y2 1 [146] [(146, .rsl 9 0 0 v61.length)] ?_)
   have ⟨g76, H⟩ := Y8 H
   refine Ym (enc := eI .u8) [(34 : Int)] rfl rfl rfl (by decide) rfl rfl rfl (by simp) E39 (fun _ => rfl) (by decide) trivial (by kernel_rfl) (by kernel_rfl) (by kernel_rfl) rfl rfl rfl g76 (Y2 1 [6] [(6, .rsl 9 1 0 ((v61 ++ [(34 : Int)]).length))] (OpsW.rc [(6, sU (v61 ++ [(34 : Int)]))] [] (StC.mk (phi []) .nil rfl (.cons (.frz rfl rfl rfl (Y1y (eI .u8) 1 (fun _ => rfl) (v61 ++ [(34 : Int)])) (Yn (eI .u8) 1 (fun _ => rfl) (v61 ++ [(34 : Int)])) (Y3f rfl)) .nil)) (Y1 ?_)))
   obtain rfl := X2 H
   refine AW.recast (env' := [(6, sU (v61 ++ [(34 : Int)]))]) (h' := []) (StC.pure (.cons .im .nil)) (Yh ?_)
   try simp only [Ex.t, Ex.b]
   exact Done.eq rfl (.tmp .nil)
  refine Y0 (Y2 2 [149, 0, 2, 7, 8, 9] ((149, .bool ((Z8u t0 t1) == 13)) :: (Z7x t0 t2 x2)) ?_)
  refine Y1 (Y6 (b := (Z8u t0 t1) == 13) H rfl (fun c77 H => ?_) (fun c77 H => ?_))
  ·refine Y0 (Y2 1 [151, 0, 2, 7, 8, 9] ((151, .rsl 9 0 0 (Z8l.length)) :: (Z7x t0 t2 x2)) ?_)
   have ⟨g78, H⟩ := Y8 H
   refine Ym (enc := eI .u8) [(41 : Int)] rfl rfl rfl (by decide) rfl rfl rfl (by simp) E39 (fun _ => rfl) (by decide) trivial (by kernel_rfl) (by kernel_rfl) (by kernel_rfl) rfl rfl rfl g78 (Y2 1 [9, 0, 2, 7, 8] ((9, .rsl 9 1 0 Z90) :: (Z7y t0 t2 x2)) (OpsW.rc ((9, .rsl 9 0 0 Z90) :: (Z7y t0 t2 x2)) [(7, ⟨0, true, 38, 2, (Z8o t0 t1)⟩), (9, rtA 0 41 1 (eI .u8) (Z8l ++ [(41 : Int)]))] (StC.mk (phi [(7, some 7), (9, some 9)]) (.o rfl (.i2 .nil) (.o rfl (CstL.ims _) .nil)) rfl (.cons (.s rfl) (.i2 (.cons (.r rfl) (.cons .im .nil))))) ?_))
   refine Y1 (Yi (Y0 (Y2 1 [12, 9, 0, 2, 7, 8] ((12, .j (0 : Int)) :: (9, .rsl 9 0 0 Z90) :: (Z7y t0 t2 x2)) ?_)))
   refine Y1 (Yg ?_)
   refine Y0z (fun loop (s : Y4 × (List Int) × Int) => Y1j rec_f_R10_write t0 t2 x2 loop s.1 s.2.1 s.2.2) r (fun (s : Y4 × (List Int) × Int) => [(Z8n t0), (2, sU t2), Z8p, (Z8m x2), (9, .rsl 9 0 0 s.2.1.length), (12, .j s.2.2)]) (fun (s : Y4 × (List Int) × Int) => [(7, ⟨0, true, 38, 2, [.j s.1.Op, .j s.1.N]⟩), (9, rtA 0 41 1 (eI .u8) s.2.1)]) ?_ 1000000 ((Z8k t0 t1), Z8l ++ [(41 : Int)], (0 : Int)) H (StC.mk (phi [(7, some 7), (9, some 9)]) (.o rfl (.i2 .nil) (.o rfl (CstL.ims _) .nil)) rfl (.i2 (.cons (.r rfl) (.cons .im (.cons (.s rfl) (.cons .im .nil))))))
   intro loop82 s H
   obtain ⟨v79, v80, v81⟩ := s
   unfold Y1j at H
   change AW _ _ _ (Z81 t0 t2 v80 v81 x2) [(7, ⟨0, true, 38, 2, [.j v79.Op, .j v79.N]⟩), (9, rtA 0 41 1 (eI .u8) v80)] _
   refine Yi (Y0 (Y2 4 [157, 0, 2, 7, 8, 9, 12] ((157, .bool (decide (v81 < (Z8x x2)))) :: (Z81 t0 t2 v80 v81 x2)) ?_))
   refine Y1 (Y6 (b := decide (v81 < (Z8x x2))) H rfl (fun c83 H => ?_) (fun c83 H => ?_))
   ·refine Yc ?_
    refine Y07 (fun (y : Y4 × (List Int)) => Y4h loop82 v81 y.1 y.2) r (fun (y : Y4 × (List Int)) => [(Z8n t0), (2, sU t2), Z8p, (Z8m x2), (9, .rsl 9 0 0 y.2.length), (12, .j v81)]) (fun (y : Y4 × (List Int)) => [(7, ⟨0, true, 38, 2, [.j y.1.Op, .j y.1.N]⟩), (9, rtA 0 41 1 (eI .u8) y.2)]) ?_ ?_
    ·refine Yg ?_
     refine Y07 (fun (y : Y4 × (List Int)) => Y1h rec_f_R10_write t0 t2 x2 loop82 v81 y.1 y.2) r (fun (y : Y4 × (List Int)) => [(Z8n t0), (2, sU t2), Z8p, (Z8m x2), (9, .rsl 9 0 0 y.2.length), (12, .j v81)]) (fun (y : Y4 × (List Int)) => [(7, ⟨0, true, 38, 2, [.j y.1.Op, .j y.1.N]⟩), (9, rtA 0 41 1 (eI .u8) y.2)]) ?_ ?_
     ·refine Y0 ?_
      have ⟨g92, H⟩ := Y8 H
      refine Ya 10 [169, 0, 2, 7, 8, 9, 12] ((169, .bool (cond (decide (0 < v81)) ((Int.tmod v81 (Int.tmod v79.N (8 : Int))) == 0) false)) :: (Z81 t0 t2 v80 v81 x2)) ⟨(fun h => h), (fun h => h), (fun _ => by decide), (fun h => h), (fun h => h), g92, (fun h => h), (fun h => by first | exact h | (simpa using h) | grind), trivial⟩ (Y1 (Y6 (b := cond (decide (0 < v81)) ((Int.tmod v81 (Int.tmod v79.N (8 : Int))) == 0) false) H rfl (fun c93 H => ?_) (fun c93 H => ?_)))
      ·refine Y9 (Y2 1 [170, 0, 2, 7, 8, 9, 12] ((170, .rsl 9 0 0 v80.length) :: (Z81 t0 t2 v80 v81 x2)) ?_)
       have ⟨g94, H⟩ := Y8 H
       refine Ym (enc := eI .u8) [(51 : Int)] rfl rfl rfl (by decide) rfl rfl rfl (by simp) E39 (fun _ => rfl) (by decide) trivial (by kernel_rfl) (by kernel_rfl) (by kernel_rfl) rfl rfl rfl g94 (Y2 1 [9, 0, 2, 7, 8, 12] ((9, .rsl 9 1 0 ((v80 ++ [(51 : Int)]).length)) :: (Z83 t0 t2 v81 x2)) (OpsW.rc ((9, .rsl 9 0 0 ((v80 ++ [(51 : Int)]).length)) :: (Z83 t0 t2 v81 x2)) [(7, ⟨0, true, 38, 2, [.j v79.Op, .j v79.N]⟩), (9, rtA 0 41 1 (eI .u8) (v80 ++ [(51 : Int)]))] (StC.mk (phi [(7, some 7), (9, some 9)]) (.o rfl (.i2 .nil) (.o rfl (CstL.ims _) .nil)) rfl (.cons (.s rfl) (.i2 (.cons (.r rfl) (.i2 .nil))))) (Y1 ?_)))
       exact ⟨(v79, v80 ++ [(51 : Int)]), H, (StC.mk (phi [(7, some 7), (9, some 9)]) (.o rfl (.i2 .nil) (.o rfl (CstL.ims _) .nil)) rfl (.i2 (.cons (.r rfl) (.cons .im (.cons (.s rfl) (.cons .im .nil))))))⟩
      refine Y0 (Y2 2 [174, 0, 2, 7, 8, 9, 12] ((174, .bool (decide (0 < v81))) :: (Z81 t0 t2 v80 v81 x2)) ?_)
      refine Y1 (Y6 (b := decide (0 < v81)) H rfl (fun c95 H => ?_) (fun c95 H => ?_))
      ·refine Y9 (Y2 1 [175, 0, 2, 7, 8, 9, 12] ((175, .rsl 9 0 0 v80.length) :: (Z81 t0 t2 v80 v81 x2)) ?_)
       have ⟨g96, H⟩ := Y8 H
       refine Ym (enc := eI .u8) [(32 : Int)] rfl rfl rfl (by decide) rfl rfl rfl (by simp) E39 (fun _ => rfl) (by decide) trivial (by kernel_rfl) (by kernel_rfl) (by kernel_rfl) rfl rfl rfl g96 (Y2 1 [9, 0, 2, 7, 8, 12] ((9, .rsl 9 1 0 ((v80 ++ [(32 : Int)]).length)) :: (Z83 t0 t2 v81 x2)) (OpsW.rc ((9, .rsl 9 0 0 ((v80 ++ [(32 : Int)]).length)) :: (Z83 t0 t2 v81 x2)) [(7, ⟨0, true, 38, 2, [.j v79.Op, .j v79.N]⟩), (9, rtA 0 41 1 (eI .u8) (v80 ++ [(32 : Int)]))] (StC.mk (phi [(7, some 7), (9, some 9)]) (.o rfl (.i2 .nil) (.o rfl (CstL.ims _) .nil)) rfl (.cons (.s rfl) (.i2 (.cons (.r rfl) (.i2 .nil))))) (Y1 ?_)))
       exact ⟨(v79, v80 ++ [(32 : Int)]), H, (StC.mk (phi [(7, some 7), (9, some 9)]) (.o rfl (.i2 .nil) (.o rfl (CstL.ims _) .nil)) rfl (.i2 (.cons (.r rfl) (.cons .im (.cons (.s rfl) (.cons .im .nil))))))⟩
      refine Yc ?_
      exact ⟨(v79, v80), H, (StC.mk (phi [(7, some 7), (9, some 9)]) (.o rfl (.i2 .nil) (.o rfl (CstL.ims _) .nil)) rfl (.i2 (.cons (.r rfl) (.cons .im (.cons (.s rfl) (.cons .im .nil))))))⟩
     rintro ⟨v87, v88⟩ H
     unfold Y1h at H
     change AW _ _ _ (Z8b t0 t2 v81 v88 x2) [(7, ⟨0, true, 38, 2, [.j v87.Op, .j v87.N]⟩), (9, rtA 0 41 1 (eI .u8) v88)] _
     refine Y9 ?_
     have ⟨g89, H⟩ := Y8 H
     refine Ya 5 [182, 179, 178, 0, 2, 7, 8, 9, 12] ((182, .ipt (Z8v x2) (v81.toNat * 1)) :: (179, slA Y3 t0) :: (178, .rsl 9 0 0 v88.length) :: (Z8b t0 t2 v81 v88 x2)) ⟨g89, trivial⟩ (OpsW.asU (.j (x2.getD v81.toNat 0)) rfl rfl (T.load rfl trivial (by kernel_rfl) (Y0b (eI .i64) 1 (fun _ => rfl) x2 (0 : Int) v81.toNat (ltN g89) (fun a => .val (.j a)) (fun _ => rfl))) (Y2 1 [184, 183, 179, 178, 0, 2, 7, 8, 9, 12] ((184, sU t2) :: (183, .j (x2.getD v81.toNat 0)) :: (179, slA Y3 t0) :: (178, .rsl 9 0 0 v88.length) :: (Z8b t0 t2 v81 v88 x2)) ?_))
     have ⟨x90, hx90, H⟩ := Yw H
     refine Yl rfl (.cons (.pur rfl) (.cons (.pur rfl) (.cons (.pur rfl) .nil))) (hrec_f_R10_write _ _ _ _ hx90) ?_
     have ⟨g91, H⟩ := Y8 H
     refine Y06 (enc := eI .u8) (ys := x90) rfl rfl rfl E39 (fun _ => rfl) rfl rfl trivial (SrcA.typed (enc := eI .u8) (fun _ => rfl) (by kernel_rfl) x90) rfl g91 (Y2 1 [9, 0, 2, 7, 8, 12] ((9, .rsl 9 1 0 ((v88 ++ x90).length)) :: (Z83 t0 t2 v81 x2)) (OpsW.rc ((9, .rsl 9 0 0 ((v88 ++ x90).length)) :: (Z83 t0 t2 v81 x2)) [(7, ⟨0, true, 38, 2, [.j v87.Op, .j v87.N]⟩), (9, rtA 0 41 1 (eI .u8) (v88 ++ x90))] (StC.mk (phi [(7, some 7), (9, some 9)]) (.o rfl (.i2 .nil) (.o rfl (CstL.ims _) .nil)) rfl (.cons (.s rfl) (.i2 (.cons (.r rfl) (.i2 .nil))))) (Y1 ?_)))
     exact ⟨(v87, v88 ++ x90), H, (StC.mk (phi [(7, some 7), (9, some 9)]) (.o rfl (.i2 .nil) (.o rfl (CstL.ims _) .nil)) rfl (.i2 (.cons (.r rfl) (.cons .im (.cons (.s rfl) (.cons .im .nil))))))⟩
    rintro ⟨v84, v85⟩ H
    unfold Y4h at H
    change AW _ _ _ [(Z8n t0), (2, sU t2), Z8p, (Z8m x2), (9, .rsl 9 0 0 v85.length), (12, .j v81)] [(7, ⟨0, true, 38, 2, [.j v84.Op, .j v84.N]⟩), (9, rtA 0 41 1 (eI .u8) v85)] _
    refine Y9 ?_
    have ⟨g86, H⟩ := Y8 H
    refine Ya 3 [12, 0, 2, 7, 8, 9] [(12, .j (v81 + 1)), (Z8n t0), (2, sU t2), Z8p, (Z8m x2), (9, .rsl 9 0 0 v85.length)] ⟨g86, trivial⟩ (Y1 ?_)
    exact ⟨(v84, v85, v81 + 1), H, (StC.mk (phi [(7, some 7), (9, some 9)]) (.o rfl (.i2 .nil) (.o rfl (CstL.ims _) .nil)) rfl (.i2 (.cons (.r rfl) (.cons .im (.cons (.s rfl) (.cons .im .nil))))))⟩
   refine AW.exit ?_
   refine Y0 (Y2 1 [187] [(187, .rsl 9 0 0 v80.length)] ?_)
   have ⟨g97, H⟩ := Y8 H
   refine Ym (enc := eI .u8) [(43 : Int)] rfl rfl rfl (by decide) rfl rfl rfl (by simp) E39 (fun _ => rfl) (by decide) trivial (by kernel_rfl) (by kernel_rfl) (by kernel_rfl) rfl rfl rfl g97 (Y2 1 [6] [(6, .rsl 9 1 0 ((v80 ++ [(43 : Int)]).length))] (OpsW.rc [(6, sU (v80 ++ [(43 : Int)]))] [] (StC.mk (phi []) .nil rfl (.cons (.frz rfl rfl rfl (Y1y (eI .u8) 1 (fun _ => rfl) (v80 ++ [(43 : Int)])) (Yn (eI .u8) 1 (fun _ => rfl) (v80 ++ [(43 : Int)])) (Y3f rfl)) .nil)) (Y1 ?_)))
   obtain rfl := X2 H
   refine AW.recast (env' := [(6, sU (v80 ++ [(43 : Int)]))]) (h' := []) (StC.pure (.cons .im .nil)) (Yh ?_)
   try simp only [Ex.t, Ex.b]
   exact Done.eq rfl (.tmp .nil)
  refine Yc ?_
  exact ⟨((Z8k t0 t1), Z8l), H, (StC.mk (phi [(7, some 7), (9, some 9)]) (.o rfl (.i2 .nil) (.o rfl (CstL.ims _) .nil)) rfl (.i2 (.cons (.r rfl) (.cons .im (.cons (.s rfl) .nil)))))⟩
 rintro ⟨v3, v4⟩ H
 unfold Y4j at H
 change AW _ _ _ [(Z8n t0), (2, sU t2), Z8p, (Z8m x2), (9, .rsl 9 0 0 v4.length)] [(7, ⟨0, true, 38, 2, [.j v3.Op, .j v3.N]⟩), (9, rtA 0 41 1 (eI .u8) v4)] _
 refine Y0 (Y2 2 [191, 0, 2, 8, 9] ((191, .j v3.Op) :: (Z89 t0 t2 v4 x2)) ?_)
 have ⟨x5, hx5, H⟩ := Yw H
 refine Yl rfl (.cons (.pur rfl) .nil) (f_R10_around_ok hx5) (Y5b rfl rfl rfl 13 rfl (by kernel_rfl : zc Tryd.prog 79 = some [.int .u8 0, .int .u8 0, .int .u8 0]) (by kernel_rfl) (OpsW.store rfl rfl rfl rfl trivial trivial rfl rfl rfl (by kernel_rfl) (Yy (by kernel_rfl)) (Xr (by kernel_rfl)) ?_))
 change OpsW _ _ _ _ _ [(13, ⟨0, true, 79, 3, (Z8y x5)⟩), (13, ⟨0, true, 79, 3, [.int .u8 0, .int .u8 0, .int .u8 0]⟩), (7, ⟨0, true, 38, 2, [.j v3.Op, .j v3.N]⟩), (9, rtA 0 41 1 (eI .u8) v4)] _
 refine Y2 0 [13, 0, 2, 8, 9] (Z8t :: (Z89 t0 t2 v4 x2)) (OpsW.rc (Z8t :: (Z89 t0 t2 v4 x2)) ((9, rtA 0 41 1 (eI .u8) v4) :: (Z8h x5)) (StC.mk (phi [(9, some 9), (13, some 13)]) (.o rfl (CstL.ims _) (.o rfl (.i3 .nil) .nil)) rfl (.cons (.r rfl) (.i3 (.cons (.s rfl) .nil)))) ?_)
 refine Y1 (Y0 (Ya 3 [195, 193, 13, 0, 2, 8, 9] ((195, .int .u8 (x5.getD 0 0)) :: (193, .rsl 9 0 0 v4.length) :: Z8t :: (Z89 t0 t2 v4 x2)) ⟨(by decide), trivial⟩ ?_))
 have ⟨g6, H⟩ := Y8 H
 refine Ym (enc := eI .u8) [(x5.getD 0 0)] rfl rfl rfl (by decide) rfl rfl rfl (by simp) E39 (fun _ => rfl) (by decide) trivial (by kernel_rfl) (by kernel_rfl) (by kernel_rfl) rfl rfl rfl g6 (Y2 1 [9, 13, 0, 2, 8] ((9, .rsl 9 1 0 ((v4 ++ [(x5.getD 0 0)]).length)) :: Z8t :: (Z84 t0 t2 x2)) (OpsW.rc ((9, .rsl 9 0 0 ((v4 ++ [(x5.getD 0 0)]).length)) :: Z8t :: (Z84 t0 t2 x2)) ((9, rtA 0 41 1 (eI .u8) (v4 ++ [(x5.getD 0 0)])) :: (Z8h x5)) (StC.mk (phi [(9, some 9), (13, some 13)]) (.o rfl (CstL.ims _) (.o rfl (.i3 .nil) .nil)) rfl (.cons (.s rfl) (.cons (.r rfl) (.i3 .nil)))) ?_))
 refine Y1 (Yi (Y0 (Y2 1 [14, 9, 13, 0, 2, 8] ((14, .j (0 : Int)) :: (9, .rsl 9 0 0 ((v4 ++ [(x5.getD 0 0)]).length)) :: Z8t :: (Z84 t0 t2 x2)) ?_)))
 refine Y1 (Yg ?_)
 refine Y0z (fun loop (s : (List Int) × (List Int) × Int) => Y1l rec_f_R10_write t0 t2 x2 loop s.1 s.2.1 s.2.2) r (fun (s : (List Int) × (List Int) × Int) => [(Z8n t0), (2, sU t2), (Z8m x2), (9, .rsl 9 0 0 s.1.length), Z8t, (14, .j s.2.2)]) (fun (s : (List Int) × (List Int) × Int) => [(9, rtA 0 41 1 (eI .u8) s.1), (13, ⟨0, true, 79, 3, [.int .u8 (s.2.1.getD 0 0), .int .u8 (s.2.1.getD 1 0), .int .u8 (s.2.1.getD 2 0)]⟩)]) ?_ 1000000 (v4 ++ [(x5.getD 0 0)], [(x5.getD 0 0), (x5.getD 1 0), (x5.getD 2 0)], (0 : Int)) H (StC.mk (phi [(9, some 9), (13, some 13)]) (.o rfl (CstL.ims _) (.o rfl (.i3 .nil) .nil)) rfl (.i3 (.cons (.s rfl) (.cons (.r rfl) (.cons .im .nil)))))
 intro loop10 s H
 obtain ⟨v7, v8, v9⟩ := s
 unfold Y1l at H
 change AW _ _ _ (Z86 t0 t2 v7 v9 x2) ((9, rtA 0 41 1 (eI .u8) v7) :: (Z8i v8)) _
 refine Yi (Y0 (Y2 4 [201, 0, 2, 8, 9, 13, 14] ((201, .bool (decide (v9 < (Z8x x2)))) :: (Z86 t0 t2 v7 v9 x2)) ?_))
 refine Y1 (Y6 (b := decide (v9 < (Z8x x2))) H rfl (fun c11 H => ?_) (fun c11 H => ?_))
 ·refine Yc ?_
  refine Y07 (fun (y : (List Int) × (List Int)) => Y4k loop10 v9 y.1 y.2) r (fun (y : (List Int) × (List Int)) => [(Z8n t0), (2, sU t2), (Z8m x2), (9, .rsl 9 0 0 y.1.length), Z8t, (14, .j v9)]) (fun (y : (List Int) × (List Int)) => [(9, rtA 0 41 1 (eI .u8) y.1), (13, ⟨0, true, 79, 3, [.int .u8 (y.2.getD 0 0), .int .u8 (y.2.getD 1 0), .int .u8 (y.2.getD 2 0)]⟩)]) ?_ ?_
  ·refine Yg ?_
   refine Y07 (fun (y : (List Int) × (List Int)) => Y2p rec_f_R10_write t0 t2 x2 loop10 v9 y.1 y.2) r (fun (y : (List Int) × (List Int)) => [(Z8n t0), (2, sU t2), (Z8m x2), (9, .rsl 9 0 0 y.1.length), Z8t, (14, .j v9)]) (fun (y : (List Int) × (List Int)) => [(9, rtA 0 41 1 (eI .u8) y.1), (13, ⟨0, true, 79, 3, [.int .u8 (y.2.getD 0 0), .int .u8 (y.2.getD 1 0), .int .u8 (y.2.getD 2 0)]⟩)]) ?_ ?_
   ·refine Y0 (Y2 2 [205, 0, 2, 8, 9, 13, 14] ((205, .bool (decide (0 < v9))) :: (Z86 t0 t2 v7 v9 x2)) ?_)
    refine Y1 (Y6 (b := decide (0 < v9)) H rfl (fun c20 H => ?_) (fun c20 H => ?_))
    ·refine Y9 (Ya 3 [208, 206, 0, 2, 8, 9, 13, 14] ((208, .int .u8 (v8.getD 1 0)) :: (206, .rsl 9 0 0 v7.length) :: (Z86 t0 t2 v7 v9 x2)) ⟨(by decide), trivial⟩ ?_)
     have ⟨g21, H⟩ := Y8 H
     refine Ym (enc := eI .u8) [(v8.getD 1 0)] rfl rfl rfl (by decide) rfl rfl rfl (by simp) E39 (fun _ => rfl) (by decide) trivial (by kernel_rfl) (by kernel_rfl) (by kernel_rfl) rfl rfl rfl g21 (Y2 1 [9, 0, 2, 8, 13, 14] ((9, .rsl 9 1 0 ((v7 ++ [(v8.getD 1 0)]).length)) :: (Z88 t0 t2 v9 x2)) (OpsW.rc ((9, .rsl 9 0 0 ((v7 ++ [(v8.getD 1 0)]).length)) :: (Z88 t0 t2 v9 x2)) ((9, rtA 0 41 1 (eI .u8) (v7 ++ [(v8.getD 1 0)])) :: (Z8i v8)) (StC.mk (phi [(9, some 9), (13, some 13)]) (.o rfl (CstL.ims _) (.o rfl (.i3 .nil) .nil)) rfl (.cons (.s rfl) (.i3 (.cons (.r rfl) (.cons .im .nil))))) (Y1 ?_)))
     exact ⟨(v7 ++ [(v8.getD 1 0)], [(v8.getD 0 0), (v8.getD 1 0), (v8.getD 2 0)]), H, (StC.mk (phi [(9, some 9), (13, some 13)]) (.o rfl (CstL.ims _) (.o rfl (.i3 .nil) .nil)) rfl (.i3 (.cons (.s rfl) (.cons (.r rfl) (.cons .im .nil)))))⟩
    refine Yc ?_
    exact ⟨(v7, [(v8.getD 0 0), (v8.getD 1 0), (v8.getD 2 0)]), H, (StC.mk (phi [(9, some 9), (13, some 13)]) (.o rfl (CstL.ims _) (.o rfl (.i3 .nil) .nil)) rfl (.i3 (.cons (.s rfl) (.cons (.r rfl) (.cons .im .nil)))))⟩
   rintro ⟨v15, v16⟩ H
   unfold Y2p at H
   change AW _ _ _ (Z8a t0 t2 v9 v15 x2) ((9, rtA 0 41 1 (eI .u8) v15) :: (Z8g v16)) _
   refine Y9 ?_
   have ⟨g17, H⟩ := Y8 H
   refine Ya 5 [215, 212, 211, 0, 2, 8, 9, 13, 14] ((215, .ipt (Z8v x2) (v9.toNat * 1)) :: (212, slA Y3 t0) :: (211, .rsl 9 0 0 v15.length) :: (Z8a t0 t2 v9 v15 x2)) ⟨g17, trivial⟩ (OpsW.asU (.j (x2.getD v9.toNat 0)) rfl rfl (T.load rfl trivial (by kernel_rfl) (Y0b (eI .i64) 1 (fun _ => rfl) x2 (0 : Int) v9.toNat (ltN g17) (fun a => .val (.j a)) (fun _ => rfl))) (Y2 1 [217, 216, 212, 211, 0, 2, 8, 9, 13, 14] ((217, sU t2) :: (216, .j (x2.getD v9.toNat 0)) :: (212, slA Y3 t0) :: (211, .rsl 9 0 0 v15.length) :: (Z8a t0 t2 v9 v15 x2)) ?_))
   have ⟨x18, hx18, H⟩ := Yw H
   refine Yl rfl (.cons (.pur rfl) (.cons (.pur rfl) (.cons (.pur rfl) .nil))) (hrec_f_R10_write _ _ _ _ hx18) ?_
   have ⟨g19, H⟩ := Y8 H
   refine Y06 (enc := eI .u8) (ys := x18) rfl rfl rfl E39 (fun _ => rfl) rfl rfl trivial (SrcA.typed (enc := eI .u8) (fun _ => rfl) (by kernel_rfl) x18) rfl g19 (Y2 1 [9, 0, 2, 8, 13, 14] ((9, .rsl 9 1 0 ((v15 ++ x18).length)) :: (Z88 t0 t2 v9 x2)) (OpsW.rc ((9, .rsl 9 0 0 ((v15 ++ x18).length)) :: (Z88 t0 t2 v9 x2)) ((9, rtA 0 41 1 (eI .u8) (v15 ++ x18)) :: (Z8g v16)) (StC.mk (phi [(9, some 9), (13, some 13)]) (.o rfl (CstL.ims _) (.o rfl (.i3 .nil) .nil)) rfl (.cons (.s rfl) (.i3 (.cons (.r rfl) (.cons .im .nil))))) (Y1 ?_)))
   exact ⟨(v15 ++ x18, [(v16.getD 0 0), (v16.getD 1 0), (v16.getD 2 0)]), H, (StC.mk (phi [(9, some 9), (13, some 13)]) (.o rfl (CstL.ims _) (.o rfl (.i3 .nil) .nil)) rfl (.i3 (.cons (.s rfl) (.cons (.r rfl) (.cons .im .nil)))))⟩
  rintro ⟨v12, v13⟩ H
  unfold Y4k at H
  change AW _ _ _ [(Z8n t0), (2, sU t2), (Z8m x2), (9, .rsl 9 0 0 v12.length), Z8t, (14, .j v9)] [(9, rtA 0 41 1 (eI .u8) v12), (13, ⟨0, true, 79, 3, [.int .u8 (v13.getD 0 0), .int .u8 (v13.getD 1 0), .int .u8 (v13.getD 2 0)]⟩)] _
  refine Y9 ?_
  have ⟨g14, H⟩ := Y8 H
  refine Ya 3 [14, 0, 2, 8, 9, 13] [(14, .j (v9 + 1)), (Z8n t0), (2, sU t2), (Z8m x2), (9, .rsl 9 0 0 v12.length), Z8t] ⟨g14, trivial⟩ (Y1 ?_)
  exact ⟨(v12, [(v13.getD 0 0), (v13.getD 1 0), (v13.getD 2 0)], v9 + 1), H, (StC.mk (phi [(9, some 9), (13, some 13)]) (.o rfl (CstL.ims _) (.o rfl (.i3 .nil) .nil)) rfl (.i3 (.cons (.s rfl) (.cons (.r rfl) (.cons .im .nil)))))⟩
 refine AW.exit ?_
 refine Y0 (Ya 3 [222, 220] [(222, .int .u8 (v8.getD 2 0)), (220, .rsl 9 0 0 v7.length)] ⟨(by decide), trivial⟩ ?_)
 have ⟨g22, H⟩ := Y8 H
 refine Ym (enc := eI .u8) [(v8.getD 2 0)] rfl rfl rfl (by decide) rfl rfl rfl (by simp) E39 (fun _ => rfl) (by decide) trivial (by kernel_rfl) (by kernel_rfl) (by kernel_rfl) rfl rfl rfl g22 (Y2 1 [6] [(6, .rsl 9 1 0 ((v7 ++ [(v8.getD 2 0)]).length))] (OpsW.rc [(6, sU (v7 ++ [(v8.getD 2 0)]))] [] (StC.mk (phi []) .nil rfl (.cons (.frz rfl rfl rfl (Y1y (eI .u8) 1 (fun _ => rfl) (v7 ++ [(v8.getD 2 0)])) (Yn (eI .u8) 1 (fun _ => rfl) (v7 ++ [(v8.getD 2 0)])) (Y3f rfl)) .nil)) (Y1 ?_)))
 obtain rfl := X2 H
 refine AW.recast (env' := [(6, sU (v7 ++ [(v8.getD 2 0)]))]) (h' := []) (StC.pure (.cons .im .nil)) (Yh ?_)
 try simp only [Ex.t, Ex.b]
 exact Done.eq rfl (.tmp .nil)
def Y4g : Nat → (List Y4) → Int → (List Int) → Option (List Int)
 | 0, _, _, _ => none
 | n + 1, t0, t1, t2 => Y4r (Y4g n) t0 t1 t2
theorem f_R10_write_all : ∀ n : Nat, (∀ (t0 : List Y4) (t1 : Int) (t2 : List Int) (r : List Int), Y4g n t0 t1 t2 = some r → QSpec Tryd.prog 31 [slA Y3 t0, .int .i64 t1, slA (eI .u8) t2] (slA (eI .u8) r)) ∧ True
 | 0 => by
  refine ⟨?_, trivial⟩
  ·intro t0 t1 t2 r H; rw [Y4g] at H; cases H
 | n + 1 => by
  have ih := f_R10_write_all n
  refine ⟨?_, trivial⟩
  ·intro t0 t1 t2 r H; rw [Y4g] at H; exact f_R10_write_body_ok ih.1 H
def f_R10_write (t0 : List Y4) (t1 : Int) (t2 : List Int) : Option (List Int) := Y4g 1000000 t0 t1 t2
theorem f_R10_write_ok {t0 : List Y4} {t1 : Int} {t2 : List Int} {r : List Int} (H : f_R10_write t0 t1 t2 = some r) : QSpec Tryd.prog 31 [slA Y3 t0, .int .i64 t1, slA (eI .u8) t2] (slA (eI .u8) r) :=
 (f_R10_write_all 1000000).1 t0 t1 t2 r H
def f_R10_Write (t0 : List Y4) : Option ((List Int) × Int) :=
 (Y34 t0).bind fun x1 =>
 cond (!x1) (
  some ([], (90 : Int))) (
  (f_R10_write t0 (0 : Int) ([] : List Int)).bind fun x3 =>
  some (x3, (0 : Int)))
theorem f_R10_Write_ok  {t0 : List Y4} {r : (List Int) × Int} (H : f_R10_Write t0 = some r) : QSpec Tryd.prog 18 [slA Y3 t0] (.tup [slA (eI .u8) r.1, .int .i64 r.2]) := by
 refine Ye Tryd.func18 rfl (by simp [Tryd.ntmps18]) ?_
 rw [Tryd.ntmps18]
 unfold f_R10_Write at H
 change AW _ _ _ [(0, slA Y3 t0)] [] _
 refine Y0 (Y2 2 [0] [(0, slA Y3 t0)] ?_)
 refine Y1 (Y0 (Y2 1 [5, 0] [(5, slA Y3 t0), (0, slA Y3 t0)] ?_))
 have ⟨x1, hx1, H⟩ := Yw H
 refine Yl rfl (.cons (.pur rfl) .nil) (f_R09_Valid_ok hx1) (Y2 1 [4, 0] [(4, .bool x1), (0, slA Y3 t0)] ?_)
 refine Y1 (Yi (Y0 (Y2 2 [8, 0] [(8, .bool (!x1)), (0, slA Y3 t0)] ?_)))
 refine Y1 (Y6 (b := !x1) H rfl (fun c2 H => ?_) (fun c2 H => ?_))
 ·refine Y0 (Y2 2 [3, 2] [(3, .j (90 : Int)), (2, .im (.val (.slice none 0 0)))] ?_)
  refine Y1 ?_
  obtain rfl := X2 H
  refine AW.recast (env' := [(2, sU []), (3, .j (90 : Int))]) (h' := []) (StC.pure (.cons .nil (.cons .im .nil))) (Yh ?_)
  try simp only [Ex.t, Ex.b]
  exact Done.eq rfl (.tmp (.tmp .nil))
 refine Yc (Y0 (Y2 1 [9] [(9, slA Y3 t0)] ?_))
 refine OpsW.buildTI (enc := eI .u8) ([] : List Int) rfl rfl rfl E39 (fun _ => rfl) (by decide) ⟨trivial, by kernel_rfl, by kernel_rfl, by kernel_rfl, rfl⟩ ?_
 have ⟨x3, hx3, H⟩ := Yw H
 refine Yl rfl (.cons (.pur rfl) (.cons (.pur rfl) (.cons (.pur rfl) .nil))) (f_R10_write_ok hx3) (Y2 2 [3, 2] [(3, .j (0 : Int)), (2, sU x3)] (Y1 ?_))
 obtain rfl := X2 H
 refine AW.recast (env' := [(2, sU x3), (3, .j (0 : Int))]) (h' := []) (StC.pure (.i2 .nil)) (Yh ?_)
 try simp only [Ex.t, Ex.b]
 exact Done.eq rfl (.tmp (.tmp .nil))
def Y5n (t0 : List Y4) : Option Bool :=
 (Y2s t0).bind fun x1 =>
 some (x1.2 == 0)
theorem f_spatial_Fits_ok  {t0 : List Y4} {r : Bool} (H : Y5n t0 = some r) : QSpec Tryd.prog 12 [slA Y3 t0] (.bool r) := by
 refine Ye Tryd.func12 rfl (by simp [Tryd.ntmps12]) ?_
 rw [Tryd.ntmps12]
 unfold Y5n at H
 change AW _ _ _ [(0, slA Y3 t0)] [] _
 refine Y0 (Y2 1 [0] [(0, slA Y3 t0)] ?_)
 refine Y1 (Y0 (Y2 1 [6] [(6, slA Y3 t0)] ?_))
 have ⟨x1, hx1, H⟩ := Yw H
 refine Yl rfl (.cons (.pur rfl) .nil) (f_spatial_Lay_ok hx1) (Y2 5 [4] [(4, .j x1.2)] ?_)
 refine Y1 (Y0 (Y2 3 [2] [(2, .bool (x1.2 == 0))] ?_))
 refine Y1 ?_
 obtain rfl := X2 H
 refine AW.recast (env' := [(2, .bool (x1.2 == 0))]) (h' := []) (StC.pure (.cons .im .nil)) (Yh ?_)
 try simp only [Ex.t, Ex.b]
 exact Done.eq rfl (.tmp .nil)
def Y33 (t0 : List Y4) (x1 : List Int) (loop4 : ((List (List Y4)) × Int) → Option (List (List Y4))) (v2 : List (List Y4)) (v3 : Int) : Option (List (List Y4)) :=
 cond (decide (v3 < (x1.length : Int))) (
  G (0 ≤ v3 ∧ v3 < (x1.length : Int)) <|
  (f_R09_End t0 (x1.getD v3.toNat 0)).bind fun x7 =>
  G (0 ≤ x7 ∧ x7 ≤ (t0.length : Int)) <|
  G (0 ≤ (x1.getD v3.toNat 0) ∧ (x1.getD v3.toNat 0) ≤ (x7.toNat : Int)) <|
  G (room 24 (v2.length + [(t0.drop ((x1.getD v3.toNat 0).toNat)).take (x7.toNat - (x1.getD v3.toNat 0).toNat)].length)) <|
  G (inR (v3 + 1)) <|
  loop4 (v2 ++ [(t0.drop ((x1.getD v3.toNat 0).toNat)).take (x7.toNat - (x1.getD v3.toNat 0).toNat)], v3 + 1)) (
  some v2)
def f_R11_Entries (t0 : List Y4) : Option (List (List Y4)) :=
 (Y2x t0 (0 : Int)).bind fun x1 =>
 iter (fun loop (s : (List (List Y4)) × Int) => Y33 t0 x1 loop s.1 s.2) 1000000 (([] : List (List Y4)), (0 : Int))
section
variable (t0 : List Y4) (v2 : List (List Y4)) (v3 : Int) (x1 : List Int) (x7 : Int)
abbrev Z9l := x7.toNat - (x1.getD v3.toNat 0).toNat
abbrev Z9m := t0.drop ((x1.getD v3.toNat 0).toNat)
abbrev Z9n := ([] : List (List Y4))
abbrev Z9o : Nat × AV := (0, slA Y3 t0)
abbrev Z9p : Nat × AV := (4, slA (eI .i64) x1)
abbrev Z9q := v2 ++ [(Z9m t0 v3 x1).take (Z9l v3 x1 x7)]
abbrev Z9i : Env := [(19, .ipt (x1.flatMap (eI .i64)) (v3.toNat * 1)), (18, .j v3), (17, slA (eI .i64) x1), (16, slA Y3 t0), (15, .rsl 3 0 0 v2.length), (12, .bool (decide (v3 < (x1.length : Int)))), (Z9o t0), (3, .rsl 3 0 0 v2.length), (Z9p x1), (5, .j v3)]
abbrev Z9j : Env := [(Z9o t0), (3, .rsl 3 0 0 v2.length), (Z9p x1), (5, .j v3)]
abbrev Z9k : Env := [(Z9p x1), (3, .rsl 3 0 0 (Z9n.length)), (Z9o t0)]
end
theorem f_R11_Entries_ok  {t0 : List Y4} {r : List (List Y4)} (H : f_R11_Entries t0 = some r) : QSpec Tryd.prog 26 [slA Y3 t0] (slA (eL Y3) r) := by
 refine Ye Tryd.func26 rfl (by simp [Tryd.ntmps26]) ?_
 rw [Tryd.ntmps26]
 unfold f_R11_Entries at H
 change AW _ _ _ [(Z9o t0)] [] _
 refine Y0 (Y2 1 [0] [(Z9o t0)] ?_)
 refine Y1 (Y0 (Y1o (enc := eL Y3) Z9n rfl rfl rfl 6 rfl E29 (fun _ => rfl) (by decide) trivial (by kernel_rfl) (by kernel_rfl) (by kernel_rfl) rfl ?_))
 refine Y2 1 [7, 6, 0] [(7, slA Y3 t0), (6, .rsl 6 0 0 (Z9n.length)), (Z9o t0)] ?_
 have ⟨x1, hx1, H⟩ := Yw H
 refine Yl rfl (.cons (.pur rfl) (.cons (.pur rfl) .nil)) (Y5h hx1) (Y2 2 [4, 3, 0] [(Z9p x1), (3, .rsl 6 0 0 (Z9n.length)), (Z9o t0)] (OpsW.rc (Z9k t0 x1) [(3, rtA 0 27 1 (eL Y3) Z9n)] (StC.mk (phi [(3, some 6)]) (.o rfl (CstL.ims _) .nil) rfl (.cons .im (.cons (.s rfl) (.cons .im .nil)))) ?_))
 refine Y1 (Yi (Y0 (Y2 1 [5, 4, 3, 0] ((5, .j (0 : Int)) :: (Z9k t0 x1)) ?_)))
 refine Y1 (Yg ?_)
 refine Y0z (fun loop (s : (List (List Y4)) × Int) => Y33 t0 x1 loop s.1 s.2) r (fun (s : (List (List Y4)) × Int) => [(Z9o t0), (3, .rsl 3 0 0 s.1.length), (Z9p x1), (5, .j s.2)]) (fun (s : (List (List Y4)) × Int) => [(3, rtA 0 27 1 (eL Y3) s.1)]) ?_ 1000000 (Z9n, (0 : Int)) H (StC.mk (phi [(3, some 3)]) (.o rfl (CstL.ims _) .nil) rfl (.cons .im (.cons (.s rfl) (.i2 .nil))))
 intro loop4 s H
 obtain ⟨v2, v3⟩ := s
 unfold Y33 at H
 change AW _ _ _ (Z9j t0 v2 v3 x1) [(3, rtA 0 27 1 (eL Y3) v2)] _
 refine Yi (Y0 (Y2 4 [12, 0, 3, 4, 5] ((12, .bool (decide (v3 < (x1.length : Int)))) :: (Z9j t0 v2 v3 x1)) ?_))
 refine Y1 (Y6 (b := decide (v3 < (x1.length : Int))) H rfl (fun c5 H => ?_) (fun c5 H => ?_))
 ·refine Yc (Yi (Yg (AW.drawT 14 Tryd.checked.mixed (by kernel_rfl) ?_)))
  have ⟨g6, H⟩ := Y8 H
  refine QOps.sz (N := 31) 5 (Z9i t0 v2 v3 x1) ⟨g6, trivial⟩ (QOps.asU (.j (x1.getD v3.toNat 0)) rfl (T.load rfl trivial (by kernel_rfl) (Y0b (eI .i64) 1 (fun _ => rfl) x1 (0 : Int) v3.toNat (ltN g6) (fun a => .val (.j a)) (fun _ => rfl))) (QOps.sz (N := 31) 4 ((24, .ipt (x1.flatMap (eI .i64)) (v3.toNat * 1)) :: (23, .j v3) :: (22, slA (eI .i64) x1) :: (21, slA Y3 t0) :: (20, .j (x1.getD v3.toNat 0)) :: (Z9i t0 v2 v3 x1)) ⟨g6, trivial⟩ (QOps.asU (.j (x1.getD v3.toNat 0)) rfl (T.load rfl trivial (by kernel_rfl) (Y0b (eI .i64) 1 (fun _ => rfl) x1 (0 : Int) v3.toNat (ltN g6) (fun a => .val (.j a)) (fun _ => rfl))) ?_)))
  have ⟨x7, hx7, H⟩ := Yw H
  refine QOps.qcall rfl (by kernel_rfl) rfl (Yd trivial) (.cons (.pur rfl) (.cons (.pur rfl) .nil)) (f_R09_End_ok hx7) rfl ?_
  have ⟨g8, H⟩ := Y8 H
  have ⟨g9, H⟩ := Y8 H
  refine QOps.asU (slA Y3 ((Z9m t0 v3 x1).take (Z9l v3 x1 x7))) rfl (T.slice' rfl trivial trivial trivial (by kernel_rfl) (by kernel_rfl) g8 g9 (sl_both Y3 2 (fun _ => rfl) t0 (x1.getD v3.toNat 0) x7 g8 g9)) (QOps.buildTI (enc := eL Y3) [(Z9m t0 v3 x1).take (Z9l v3 x1 x7)] rfl rfl E29 (fun _ => rfl) (by decide) ⟨trivial, by kernel_rfl, by kernel_rfl, by kernel_rfl, rfl⟩ ?_)
  refine QOps.nil (Y2 0 [28, 15, 0, 3, 4, 5] ((28, slA (eL Y3) [(Z9m t0 v3 x1).take (Z9l v3 x1 x7)]) :: (15, .rsl 3 0 0 v2.length) :: (Z9j t0 v2 v3 x1)) ?_)
  have ⟨g10, H⟩ := Y8 H
  refine Y06 (enc := eL Y3) (ys := [(Z9m t0 v3 x1).take (Z9l v3 x1 x7)]) rfl rfl rfl E29 (fun _ => rfl) rfl rfl trivial (SrcA.typed (enc := eL Y3) (fun _ => rfl) (by kernel_rfl) [(Z9m t0 v3 x1).take (Z9l v3 x1 x7)]) rfl g10 (Y2 1 [3, 0, 4, 5] [(3, .rsl 3 1 0 ((Z9q t0 v2 v3 x1 x7).length)), (Z9o t0), (Z9p x1), (5, .j v3)] (OpsW.rc [(3, .rsl 3 0 0 ((Z9q t0 v2 v3 x1 x7).length)), (Z9o t0), (Z9p x1), (5, .j v3)] [(3, rtA 0 27 1 (eL Y3) (Z9q t0 v2 v3 x1 x7))] (StC.mk (phi [(3, some 3)]) (.o rfl (CstL.ims _) .nil) rfl (.cons (.s rfl) (.i3 .nil))) ?_))
  refine Y1 (Y9 ?_)
  have ⟨g11, H⟩ := Y8 H
  refine Ya 3 [5, 3, 0, 4] [(5, .j (v3 + 1)), (3, .rsl 3 0 0 ((Z9q t0 v2 v3 x1 x7).length)), (Z9o t0), (Z9p x1)] ⟨g11, trivial⟩ (Y1 ?_)
  exact ⟨(v2 ++ [(Z9m t0 v3 x1).take (Z9l v3 x1 x7)], v3 + 1), H, (StC.mk (phi [(3, some 3)]) (.o rfl (CstL.ims _) .nil) rfl (.cons .im (.cons (.s rfl) (.i2 .nil))))⟩
 refine AW.exit ?_
 refine Y0 (Y2 2 [2] [(2, .rsl 3 0 0 v2.length)] ?_)
 refine OpsW.rc [(2, slA (eL Y3) v2)] [] (StC.mk (phi []) .nil rfl (.cons (.frz rfl rfl rfl (Y1y (eL Y3) 1 (fun _ => rfl) v2) (Yn (eL Y3) 1 (fun _ => rfl) v2) (Y3f rfl)) .nil)) (Y1 ?_)
 obtain rfl := X2 H
 refine AW.recast (env' := [(2, slA (eL Y3) v2)]) (h' := []) (StC.pure (.cons .im .nil)) (Yh ?_)
 try simp only [Ex.t, Ex.b]
 exact Done.eq rfl (.tmp .nil)
def Y3l (t0 : Int) (loop3 : ((List Int) × Int) → Option (List Int)) (v1 : List Int) (v2 : Int) : Option (List Int) :=
 cond (decide (v2 < t0)) (
  G (room 1 (v1.length + 1)) <|
  G (inR (v2 + 1)) <|
  loop3 (v1 ++ [(0 : Int)], v2 + 1)) (
  some v1)
def Y4c (t0 : Int) : Option (List Int) :=
 iter (fun loop (s : (List Int) × Int) => Y3l t0 loop s.1 s.2) 1000000 (([] : List Int), (0 : Int))
theorem Y55  {t0 : Int} {r : List Int} (H : Y4c t0 = some r) : QSpec Tryd.prog 52 [.int .i64 t0] (slA (eI .u8) r) := by
 refine Ye Tryd.func52 rfl (by simp [Tryd.ntmps52]) ?_
 rw [Tryd.ntmps52]
 unfold Y4c at H
 change AW _ _ _ [(0, .j t0)] [] _
 refine Y0 (Y2 1 [0] [(0, .j t0)] ?_)
 refine Y1 (Y0 (Y1o (enc := eI .u8) ([] : List Int) rfl rfl rfl 5 rfl E39 (fun _ => rfl) (by decide) trivial (by kernel_rfl) (by kernel_rfl) (by kernel_rfl) rfl ?_))
 refine Y2 1 [3, 0] [(3, .rsl 5 0 0 (([] : List Int).length)), (0, .j t0)] (OpsW.rc [(3, .rsl 3 0 0 (([] : List Int).length)), (0, .j t0)] [(3, rtA 0 41 1 (eI .u8) ([] : List Int))] (StC.mk (phi [(3, some 5)]) (.o rfl (CstL.ims _) .nil) rfl (.cons (.s rfl) (.cons .im .nil))) ?_)
 refine Y1 (Yi (Y0 (Y2 1 [4, 3, 0] [(4, .j (0 : Int)), (3, .rsl 3 0 0 (([] : List Int).length)), (0, .j t0)] ?_)))
 refine Y1 (Yg ?_)
 refine Y0z (fun loop (s : (List Int) × Int) => Y3l t0 loop s.1 s.2) r (fun (s : (List Int) × Int) => [(0, .j t0), (3, .rsl 3 0 0 s.1.length), (4, .j s.2)]) (fun (s : (List Int) × Int) => [(3, rtA 0 41 1 (eI .u8) s.1)]) ?_ 1000000 (([] : List Int), (0 : Int)) H (StC.mk (phi [(3, some 3)]) (.o rfl (CstL.ims _) .nil) rfl (.cons .im (.cons (.s rfl) (.cons .im .nil))))
 intro loop3 s H
 obtain ⟨v1, v2⟩ := s
 unfold Y3l at H
 change AW _ _ _ [(0, .j t0), (3, .rsl 3 0 0 v1.length), (4, .j v2)] [(3, rtA 0 41 1 (eI .u8) v1)] _
 refine Yi (Y0 (Y2 3 [8, 0, 3, 4] [(8, .bool (decide (v2 < t0))), (0, .j t0), (3, .rsl 3 0 0 v1.length), (4, .j v2)] ?_))
 refine Y1 (Y6 (b := decide (v2 < t0)) H rfl (fun c4 H => ?_) (fun c4 H => ?_))
 ·refine Yc (Yi (Yg (Y9 (Y2 1 [11, 0, 3, 4] [(11, .rsl 3 0 0 v1.length), (0, .j t0), (3, .rsl 3 0 0 v1.length), (4, .j v2)] ?_))))
  have ⟨g5, H⟩ := Y8 H
  refine Ym (enc := eI .u8) [(0 : Int)] rfl rfl rfl (by decide) rfl rfl rfl (by simp) E39 (fun _ => rfl) (by decide) trivial (by kernel_rfl) (by kernel_rfl) (by kernel_rfl) rfl rfl rfl g5 (Y2 1 [3, 0, 4] [(3, .rsl 3 1 0 ((v1 ++ [(0 : Int)]).length)), (0, .j t0), (4, .j v2)] (OpsW.rc [(3, .rsl 3 0 0 ((v1 ++ [(0 : Int)]).length)), (0, .j t0), (4, .j v2)] [(3, rtA 0 41 1 (eI .u8) (v1 ++ [(0 : Int)]))] (StC.mk (phi [(3, some 3)]) (.o rfl (CstL.ims _) .nil) rfl (.cons (.s rfl) (.i2 .nil))) ?_))
  refine Y1 (Y9 ?_)
  have ⟨g6, H⟩ := Y8 H
  refine Ya 3 [4, 3, 0] [(4, .j (v2 + 1)), (3, .rsl 3 0 0 ((v1 ++ [(0 : Int)]).length)), (0, .j t0)] ⟨g6, trivial⟩ (Y1 ?_)
  exact ⟨(v1 ++ [(0 : Int)], v2 + 1), H, (StC.mk (phi [(3, some 3)]) (.o rfl (CstL.ims _) .nil) rfl (.cons .im (.cons (.s rfl) (.cons .im .nil))))⟩
 refine AW.exit ?_
 refine Y0 (Y2 2 [2] [(2, .rsl 3 0 0 v1.length)] ?_)
 refine OpsW.rc [(2, sU v1)] [] (StC.mk (phi []) .nil rfl (.cons (.frz rfl rfl rfl (Y1y (eI .u8) 1 (fun _ => rfl) v1) (Yn (eI .u8) 1 (fun _ => rfl) v1) (Y3f rfl)) .nil)) (Y1 ?_)
 obtain rfl := X2 H
 refine AW.recast (env' := [(2, sU v1)]) (h' := []) (StC.pure (.cons .im .nil)) (Yh ?_)
 try simp only [Ex.t, Ex.b]
 exact Done.eq rfl (.tmp .nil)
def Y25 (t0 : List Int) (t1 : List Int) : Option (List Int) :=
 G (room 1 (([] : List Int).length + t0.length)) <|
 G (room 1 ((([] : List Int) ++ t0).length + t1.length)) <|
 some ((([] : List Int) ++ t0) ++ t1)
section
variable (t0 : List Int)
abbrev Z9r := (([] : List Int) ++ t0)
end
theorem f_R11_joined_own {t0 : List Int} {t1 : List Int} {r : List Int} (H : Y25 t0 t1 = some r) : Abs.Spec Tryd.prog 48 [slA (eI .u8) t0, slA (eI .u8) t1] [] (fun x h => x = .rsl 1000 0 0 r.length ∧ h = [(1000, rtA 0 41 1 (eI .u8) r)]) := by
 refine Ye Tryd.func48 rfl (by simp [Tryd.ntmps48]) ?_
 rw [Tryd.ntmps48]
 unfold Y25 at H
 change AW _ _ _ [(0, sU t0), (1, sU t1)] [] _
 refine Y0 (Y2 1 [0, 1] [(0, sU t0), (1, sU t1)] ?_)
 refine Y1 (Y0 (Y1o (enc := eI .u8) ([] : List Int) rfl rfl rfl 6 rfl E39 (fun _ => rfl) (by decide) trivial (by kernel_rfl) (by kernel_rfl) (by kernel_rfl) rfl ?_))
 refine Y2 1 [7, 6, 1] [(7, sU t0), (6, .rsl 6 0 0 (([] : List Int).length)), (1, sU t1)] ?_
 have ⟨g1, H⟩ := Y8 H
 refine Y06 (enc := eI .u8) (ys := t0) rfl rfl rfl E39 (fun _ => rfl) rfl rfl trivial (SrcA.typed (enc := eI .u8) (fun _ => rfl) (by kernel_rfl) t0) rfl g1 (Y2 1 [5, 1] [(5, .rsl 6 1 0 ((Z9r t0).length)), (1, sU t1)] (OpsW.rc [(5, .rsl 5 0 0 ((Z9r t0).length)), (1, sU t1)] [(5, rtA 0 41 1 (eI .u8) (Z9r t0))] (StC.mk (phi [(5, some 6)]) (.o rfl (CstL.ims _) .nil) rfl (.cons (.s rfl) (.cons .im .nil))) ?_))
 refine Y1 (Y0 (Y2 2 [10, 9] [(10, sU t1), (9, .rsl 5 0 0 ((Z9r t0).length))] ?_))
 have ⟨g2, H⟩ := Y8 H
 refine Y06 (enc := eI .u8) (ys := t1) rfl rfl rfl E39 (fun _ => rfl) rfl rfl trivial (SrcA.typed (enc := eI .u8) (fun _ => rfl) (by kernel_rfl) t1) rfl g2 (Y2 1 [4] [(4, .rsl 5 1 0 (((Z9r t0) ++ t1).length))] (OpsW.rc [(4, .rsl 4 0 0 (((Z9r t0) ++ t1).length))] [(4, rtA 0 41 1 (eI .u8) ((Z9r t0) ++ t1))] (StC.mk (phi [(4, some 5)]) (.o rfl (CstL.ims _) .nil) rfl (.cons (.s rfl) .nil)) (Y1 ?_)))
 obtain rfl := X2 H
 refine AW.recast (env' := [(4, .rsl 1000 0 0 (((Z9r t0) ++ t1).length))]) (h' := [(1000, rtA 0 41 1 (eI .u8) ((Z9r t0) ++ t1))]) (StC.mk (phi [(1000, some 4)]) (.o rfl (CstL.ims _) .nil) rfl (.cons (.s rfl) .nil)) (Yh ?_)
 try simp only [Ex.t, Ex.b]
 refine Done.gen rfl (.tmp .nil) ?_
 exact ⟨by kernel_rfl, rfl⟩
theorem Y45  {t0 : List Int} {t1 : List Int} {r : List Int} (H : Y25 t0 t1 = some r) : QSpec Tryd.prog 48 [slA (eI .u8) t0, slA (eI .u8) t1] (slA (eI .u8) r) := by
 exact QSpec.of_own (f_R11_joined_own H) (.frz rfl rfl rfl (Y1y (eI .u8) 1 (fun _ => rfl) r) (Yn (eI .u8) 1 (fun _ => rfl) r) (Y3f rfl))
def Y5x (t0 : List Int) (t1 : Int) : Option (List Int) :=
 G (inR (t1 - (t0.length : Int))) <|
 (Y4c (t1 - (t0.length : Int))).bind fun x2 =>
 (Y25 t0 x2).bind fun x3 =>
 some x3
theorem f_R11_right_ok  {t0 : List Int} {t1 : Int} {r : List Int} (H : Y5x t0 t1 = some r) : QSpec Tryd.prog 50 [slA (eI .u8) t0, .int .i64 t1] (slA (eI .u8) r) := by
 refine Ye Tryd.func50 rfl (by simp [Tryd.ntmps50]) ?_
 rw [Tryd.ntmps50]
 unfold Y5x at H
 change AW _ _ _ [(0, sU t0), (1, .j t1)] [] _
 refine Y0 (Y2 1 [0, 1] [(0, sU t0), (1, .j t1)] ?_)
 refine Y1 (Y0 ?_)
 have ⟨g1, H⟩ := Y8 H
 refine Ya 5 [9, 5] [(9, .j (t1 - (t0.length : Int))), (5, sU t0)] ⟨g1, trivial⟩ ?_
 have ⟨x2, hx2, H⟩ := Yw H
 refine Yl rfl (.cons (.pur rfl) .nil) (Y55 hx2) ?_
 have ⟨x3, hx3, H⟩ := Yw H
 refine Yl rfl (.cons (.pur rfl) (.cons (.pur rfl) .nil)) (Y45 hx3) (Y2 1 [4] [(4, sU x3)] (Y1 ?_))
 obtain rfl := X2 H
 refine AW.recast (env' := [(4, sU x3)]) (h' := []) (StC.pure (.cons .im .nil)) (Yh ?_)
 try simp only [Ex.t, Ex.b]
 exact Done.eq rfl (.tmp .nil)
def Y44 (loop7 : ((List Int) × Int) → Option (List (List Int))) (v6 : Int) (v9 : List Int) : Option (List (List Int)) :=
 G (inR (v6 + 1)) <|
 loop7 (v9, v6 + 1)
def Y3k (t0 : List (List Int)) (t1 : Int) (v2 : Int) (loop7 : ((List Int) × Int) → Option (List (List Int))) (v5 : List Int) (v6 : Int) (loop13 : (Int × Int) → Option (List (List Int))) (v11 : Int) (v12 : Int) : Option (List (List Int)) :=
 cond (decide (v12 < (t0.length : Int))) (
  G (0 ≤ v12 ∧ v12 < (t0.length : Int)) <|
  G (inR (v12 + t1)) <|
  loop13 ((if ((t0.getD v12.toNat []).length : Int) > v11 then ((t0.getD v12.toNat []).length : Int) else v11), v12 + t1)) (
  G (inR (v2 + v6)) <|
  G (0 ≤ (v2 + v6) ∧ (v2 + v6) < (t0.length : Int)) <|
  (Y5x (t0.getD (v2 + v6).toNat []) v11).bind fun x19 =>
  (Y25 v5 x19).bind fun x20 =>
  G (inR (t1 - 1)) <|
  cond (decide (v6 < (t1 - 1))) (
   (Y4c (2 : Int)).bind fun x23 =>
   (Y25 x20 x23).bind fun x24 =>
   Y44 loop7 v6 x24) (
   Y44 loop7 v6 x20))
def Y3j (t0 : List (List Int)) (t1 : Int) (loop3 : ((List (List Int)) × Int) → Option (List (List Int))) (v1 : List (List Int)) (v2 : Int) (loop7 : ((List Int) × Int) → Option (List (List Int))) (v5 : List Int) (v6 : Int) : Option (List (List Int)) :=
 cond (decide (v6 < t1)) (
  iter (fun loop (s : Int × Int) => Y3k t0 t1 v2 loop7 v5 v6 loop s.1 s.2) 1000000 ((0 : Int), v6)) (
  G (room 1 (v5.length + 2)) <|
  G (room 24 (v1.length + 1)) <|
  G (inR (v2 + t1)) <|
  loop3 (v1 ++ [v5 ++ [(0 : Int), (62 : Int)]], v2 + t1))
def Y3i (t0 : List (List Int)) (t1 : Int) (loop3 : ((List (List Int)) × Int) → Option (List (List Int))) (v1 : List (List Int)) (v2 : Int) : Option (List (List Int)) :=
 cond (decide (v2 < (t0.length : Int))) (
  iter (fun loop (s : (List Int) × Int) => Y3j t0 t1 loop3 v1 v2 loop s.1 s.2) 1000000 ([(55 : Int), (0 : Int)], (0 : Int))) (
  some v1)
def f_R11_matrix (t0 : List (List Int)) (t1 : Int) : Option (List (List Int)) :=
 iter (fun loop (s : (List (List Int)) × Int) => Y3i t0 t1 loop s.1 s.2) 1000000 (([] : List (List Int)), (0 : Int))
section
variable (t0 : List (List Int)) (t1 : Int) (v1 : List (List Int)) (v2 : Int) (v5 : List Int) (v6 : Int) (v11 : Int) (v12 : Int)
abbrev Z9z : Nat × AV := (5, .rsl 5 0 0 v1.length)
abbrev Za0 := ((t0.getD v12.toNat []).length : Int)
abbrev Za1 := ([] : List (List Int))
abbrev Za2 := (v1 ++ [v5 ++ [(0 : Int), (62 : Int)]])
abbrev Za3 := ([(55 : Int), (0 : Int)].length)
abbrev Z9s : Env := [(0, sC t0), (1, .j t1), (Z9z v1), (6, .j v2), (8, .j v6)]
abbrev Z9t : Env := [(0, sC t0), (1, .j t1), (Z9z v1), (6, .j v2), (7, sU v5), (8, .j v6)]
abbrev Z9u : Env := [(0, sC t0), (1, .j t1), (Z9z v1), (6, .j v2)]
abbrev Z9v : Hp := [(5, rtA 0 39 1 (eL (eI .u8)) v1)]
abbrev Z9w : Env := [(0, sC t0), (1, .j t1), (Z9z v1), (6, .j v2), (7, .rsl 7 0 0 v5.length), (8, .j v6)]
abbrev Z9x : Env := [(0, sC t0), (1, .j t1), (Z9z v1), (6, .j v2), (7, sU v5), (8, .j v6), (9, .j v11), (10, .j v12)]
abbrev Z9y : Env := (47, .j v11) :: (46, sU (t0.getD (v2 + v6).toNat [])) :: (40, sU v5) :: (Z9t t0 t1 v1 v2 v5 v6)
end
theorem f_R11_matrix_ok  {t0 : List (List Int)} {t1 : Int} {r : List (List Int)} (H : f_R11_matrix t0 t1 = some r) : QSpec Tryd.prog 47 [slA (eL (eI .u8)) t0, .int .i64 t1] (slA (eL (eI .u8)) r) := by
 refine Ye Tryd.func47 rfl (by simp [Tryd.ntmps47]) ?_
 rw [Tryd.ntmps47]
 unfold f_R11_matrix at H
 change AW _ _ _ [(0, sC t0), (1, .j t1)] [] _
 refine Y0 (Y2 1 [0, 1] [(0, sC t0), (1, .j t1)] ?_)
 refine Y1 (Y0 (Y1o (enc := eL (eI .u8)) Za1 rfl rfl rfl 11 rfl E30 (fun _ => rfl) (by decide) trivial (by kernel_rfl) (by kernel_rfl) (by kernel_rfl) rfl ?_))
 refine Y2 1 [5, 0, 1] [(5, .rsl 11 0 0 (Za1.length)), (0, sC t0), (1, .j t1)] (OpsW.rc [(5, .rsl 5 0 0 (Za1.length)), (0, sC t0), (1, .j t1)] [(5, rtA 0 39 1 (eL (eI .u8)) Za1)] (StC.mk (phi [(5, some 11)]) (.o rfl (CstL.ims _) .nil) rfl (.cons (.s rfl) (.i2 .nil))) ?_)
 refine Y1 (Yi (Y0 (Y2 1 [6, 5, 0, 1] [(6, .j (0 : Int)), (5, .rsl 5 0 0 (Za1.length)), (0, sC t0), (1, .j t1)] ?_)))
 refine Y1 (Yg ?_)
 refine Y0z (fun loop (s : (List (List Int)) × Int) => Y3i t0 t1 loop s.1 s.2) r (fun (s : (List (List Int)) × Int) => [(0, sC t0), (1, .j t1), (5, .rsl 5 0 0 s.1.length), (6, .j s.2)]) (fun (s : (List (List Int)) × Int) => [(5, rtA 0 39 1 (eL (eI .u8)) s.1)]) ?_ 1000000 (Za1, (0 : Int)) H (StC.mk (phi [(5, some 5)]) (.o rfl (CstL.ims _) .nil) rfl (.i2 (.cons (.s rfl) (.cons .im .nil))))
 intro loop3 s H
 obtain ⟨v1, v2⟩ := s
 unfold Y3i at H
 change AW _ _ _ (Z9u t0 t1 v1 v2) (Z9v v1) _
 refine Yi (Y0 (Y2 4 [15, 0, 1, 5, 6] ((15, .bool (decide (v2 < (t0.length : Int)))) :: (Z9u t0 t1 v1 v2)) ?_))
 refine Y1 (Y6 (b := decide (v2 < (t0.length : Int))) H rfl (fun c4 H => ?_) (fun c4 H => ?_))
 ·refine Yc (Yi (Yg (Y0 (Y1o (enc := eI .u8) [(55 : Int), (0 : Int)] rfl rfl rfl 19 rfl E39 (fun _ => rfl) (by decide) trivial (by kernel_rfl) (by kernel_rfl) (by kernel_rfl) rfl ?_))))
  refine Y2 1 [7, 0, 1, 5, 6] ((7, .rsl 19 0 0 Za3) :: (Z9u t0 t1 v1 v2)) (OpsW.rc ((7, .rsl 7 0 0 Za3) :: (Z9u t0 t1 v1 v2)) [(5, rtA 0 39 1 (eL (eI .u8)) v1), (7, rtA 0 41 1 (eI .u8) [(55 : Int), (0 : Int)])] (StC.mk (phi [(5, some 5), (7, some 19)]) (.o rfl (CstL.ims _) (.o rfl (CstL.ims _) .nil)) rfl (.cons (.s rfl) (.i2 (.cons (.s rfl) (.cons .im .nil))))) ?_)
  refine Y1 (Yi (Y0 (Y2 1 [8, 7, 0, 1, 5, 6] ((8, .j (0 : Int)) :: (7, .rsl 7 0 0 Za3) :: (Z9u t0 t1 v1 v2)) ?_)))
  refine Y1 (Yg ?_)
  refine Y0z (fun loop (s : (List Int) × Int) => Y3j t0 t1 loop3 v1 v2 loop s.1 s.2) r (fun (s : (List Int) × Int) => [(0, sC t0), (1, .j t1), (Z9z v1), (6, .j v2), (7, .rsl 7 0 0 s.1.length), (8, .j s.2)]) (fun (s : (List Int) × Int) => [(5, rtA 0 39 1 (eL (eI .u8)) v1), (7, rtA 0 41 1 (eI .u8) s.1)]) ?_ 1000000 ([(55 : Int), (0 : Int)], (0 : Int)) H (StC.mk (phi [(5, some 5), (7, some 7)]) (.o rfl (CstL.ims _) (.o rfl (CstL.ims _) .nil)) rfl (.i2 (.cons (.s rfl) (.cons .im (.cons (.s rfl) (.cons .im .nil))))))
  intro loop7 s H
  obtain ⟨v5, v6⟩ := s
  unfold Y3j at H
  change AW _ _ _ (Z9w t0 t1 v1 v2 v5 v6) [(5, rtA 0 39 1 (eL (eI .u8)) v1), (7, rtA 0 41 1 (eI .u8) v5)] _
  refine Yi (Y0 (Y2 3 [22, 0, 1, 5, 6, 7, 8] ((22, .bool (decide (v6 < t1))) :: (Z9w t0 t1 v1 v2 v5 v6)) ?_))
  refine Y1 (Y6 (b := decide (v6 < t1)) H rfl (fun c8 H => ?_) (fun c8 H => ?_))
  ·refine Yc ?_
   refine Y07 (fun (y : (List Int)) => Y44 loop7 v6 y) r (fun (y : (List Int)) => [(0, sC t0), (1, .j t1), (Z9z v1), (6, .j v2), (7, .rsl 7 0 0 y.length), (8, .j v6)]) (fun (y : (List Int)) => [(5, rtA 0 39 1 (eL (eI .u8)) v1), (7, rtA 0 41 1 (eI .u8) y)]) ?_ ?_
   ·refine Yg (Y0 (Y2 1 [9, 0, 1, 5, 6, 7, 8] ((9, .j (0 : Int)) :: (Z9w t0 t1 v1 v2 v5 v6)) ?_))
    refine OpsW.rc ((9, .j (0 : Int)) :: (Z9t t0 t1 v1 v2 v5 v6)) (Z9v v1) (StC.mk (phi [(5, some 5)]) (.o rfl (CstL.ims _) .nil) rfl (.i3 (.cons (.s rfl) (.cons .im (.cons (.frz rfl rfl rfl (Y1y (eI .u8) 1 (fun _ => rfl) v5) (Yn (eI .u8) 1 (fun _ => rfl) v5) (Y3f rfl)) (.cons .im .nil)))))) ?_
    refine Y1 (Yi (Y0 (Y2 2 [10, 9, 0, 1, 5, 6, 7, 8] ((10, .j v6) :: (9, .j (0 : Int)) :: (Z9t t0 t1 v1 v2 v5 v6)) ?_)))
    refine Y1 (Yg ?_)
    refine Y0z (fun loop (s : Int × Int) => Y3k t0 t1 v2 loop7 v5 v6 loop s.1 s.2) r (fun (s : Int × Int) => [(0, sC t0), (1, .j t1), (Z9z v1), (6, .j v2), (7, sU v5), (8, .j v6), (9, .j s.1), (10, .j s.2)]) (fun (s : Int × Int) => (Z9v v1)) ?_ 1000000 ((0 : Int), v6) H (StC.mk (phi [(5, some 5)]) (.o rfl (CstL.ims _) .nil) rfl (.i2 (.cons (.s rfl) (.i5 .nil))))
    intro loop13 s H
    obtain ⟨v11, v12⟩ := s
    unfold Y3k at H
    change AW _ _ _ (Z9x t0 t1 v1 v2 v5 v6 v11 v12) (Z9v v1) _
    refine Yi (Y0 (Y2 4 [29, 0, 1, 5, 6, 7, 8, 9, 10] ((29, .bool (decide (v12 < (t0.length : Int)))) :: (Z9x t0 t1 v1 v2 v5 v6 v11 v12)) ?_))
    refine Y1 (Y6 (b := decide (v12 < (t0.length : Int))) H rfl (fun c14 H => ?_) (fun c14 H => ?_))
    ·refine Yc (Yi (Yg (Y9 ?_)))
     have ⟨g15, H⟩ := Y8 H
     refine Ya 4 [36, 33, 0, 1, 5, 6, 7, 8, 9, 10] ((36, .ipt (t0.flatMap (eL (eI .u8))) (v12.toNat * 1)) :: (33, .j v11) :: (Z9x t0 t1 v1 v2 v5 v6 v11 v12)) ⟨g15, trivial⟩ (OpsW.asU (sU (t0.getD v12.toNat [])) rfl rfl (T.load rfl trivial (by kernel_rfl) (Y0b (eL (eI .u8)) 1 (fun _ => rfl) t0 [] v12.toNat (ltN g15) (fun a => .sl (a.flatMap (eI .u8)) a.length) (fun _ => rfl))) (Y2 3 [9, 0, 1, 5, 6, 7, 8, 10] [(9, .j (if (Za0 t0 v12) > v11 then (Za0 t0 v12) else v11)), (0, sC t0), (1, .j t1), (Z9z v1), (6, .j v2), (7, sU v5), (8, .j v6), (10, .j v12)] ?_))
     refine Y1 (Y9 ?_)
     have ⟨g16, H⟩ := Y8 H
     refine Ya 4 [10, 9, 0, 1, 5, 6, 7, 8] ((10, .j (v12 + t1)) :: (9, .j (if (Za0 t0 v12) > v11 then (Za0 t0 v12) else v11)) :: (Z9t t0 t1 v1 v2 v5 v6)) ⟨g16, trivial⟩ (Y1 ?_)
     exact ⟨((if (Za0 t0 v12) > v11 then (Za0 t0 v12) else v11), v12 + t1), H, (StC.mk (phi [(5, some 5)]) (.o rfl (CstL.ims _) .nil) rfl (.i2 (.cons (.s rfl) (.i5 .nil))))⟩
    refine AW.exit (Y0 ?_)
    have ⟨g17, H⟩ := Y8 H
    have ⟨g18, H⟩ := Y8 H
    refine Ya 6 [45, 40, 0, 1, 5, 6, 7, 8, 9] [(45, .ipt (t0.flatMap (eL (eI .u8))) ((v2 + v6).toNat * 1)), (40, sU v5), (0, sC t0), (1, .j t1), (Z9z v1), (6, .j v2), (7, sU v5), (8, .j v6), (9, .j v11)] ⟨g17, g18, trivial⟩ (OpsW.asU (sU (t0.getD (v2 + v6).toNat [])) rfl rfl (T.load rfl trivial (by kernel_rfl) (Y5w (eL (eI .u8)) 1 (fun _ => rfl) t0 [] (v2 + v6).toNat (ltN g18) 0 (fun a => .sl (a.flatMap (eI .u8)) a.length) (fun _ => rfl))) (Y2 1 [47, 46, 40, 0, 1, 5, 6, 7, 8] (Z9y t0 t1 v1 v2 v5 v6 v11) ?_))
    have ⟨x19, hx19, H⟩ := Yw H
    refine Yl rfl (.cons (.pur rfl) (.cons (.pur rfl) .nil)) (f_R11_right_ok hx19) ?_
    have ⟨x20, hx20, H⟩ := Yw H
    refine OpsW.call rfl rfl (by kernel_rfl) [] _ _ rfl (Yd trivial) (.cons (.pur rfl) (.cons (.pur rfl) .nil)) (f_R11_joined_own hx20) ?_
    rintro _ _ ⟨rfl, rfl⟩
    refine ⟨Yq (by kernel_rfl), .inl rfl, ?_⟩
    change OpsW _ _ _ _ ((49, .rsl 1000 0 0 x20.length) :: (48, sU x19) :: (Z9y t0 t1 v1 v2 v5 v6 v11)) ((1000, rtA 0 41 1 (eI .u8) x20) :: (Z9v v1)) _
    refine OpsW.rc ((49, .rsl 600 0 0 x20.length) :: (48, sU x19) :: (Z9y t0 t1 v1 v2 v5 v6 v11)) ((600, rtA 0 41 1 (eI .u8) x20) :: (Z9v v1)) (StC.mk (phi [(600, some 1000), (5, some 5)]) (.o rfl (CstL.ims _) (.o rfl (CstL.ims _) .nil)) rfl (.cons (.s rfl) (.i6 (.cons (.s rfl) (.i3 .nil))))) (Y2 1 [7, 0, 1, 5, 6, 8] ((7, .rsl 600 0 0 x20.length) :: (Z9s t0 t1 v1 v2 v6)) (OpsW.rc ((7, .rsl 7 0 0 x20.length) :: (Z9s t0 t1 v1 v2 v6)) [(5, rtA 0 39 1 (eL (eI .u8)) v1), (7, rtA 0 41 1 (eI .u8) x20)] (StC.mk (phi [(5, some 5), (7, some 600)]) (.o rfl (CstL.ims _) (.o rfl (CstL.ims _) .nil)) rfl (.cons (.s rfl) (.i2 (.cons (.s rfl) (.i2 .nil))))) ?_))
    refine Y1 (Y0 ?_)
    have ⟨g21, H⟩ := Y8 H
    refine Ya 4 [53, 7, 0, 1, 5, 6, 8] ((53, .bool (decide (v6 < (t1 - 1)))) :: (7, .rsl 7 0 0 x20.length) :: (Z9s t0 t1 v1 v2 v6)) ⟨g21, trivial⟩ (Y1 (Y6 (b := decide (v6 < (t1 - 1))) H rfl (fun c22 H => ?_) (fun c22 H => ?_)))
    ·refine Y9 (Y2 1 [54, 7, 0, 1, 5, 6, 8] ((54, .rsl 7 0 0 x20.length) :: (7, .rsl 7 0 0 x20.length) :: (Z9s t0 t1 v1 v2 v6)) ?_)
     have ⟨x23, hx23, H⟩ := Yw H
     refine Yl rfl (.cons (.pur rfl) .nil) (Y55 hx23) (OpsW.rc ((55, sU x23) :: (54, sU x20) :: (7, sU x20) :: (Z9s t0 t1 v1 v2 v6)) (Z9v v1) (StC.mk (phi [(5, some 5)]) (.o rfl (CstL.ims _) .nil) rfl (.cons .im (.cons (.frz rfl rfl rfl (Y1y (eI .u8) 1 (fun _ => rfl) x20) (Yn (eI .u8) 1 (fun _ => rfl) x20) (Y3f rfl)) (.cons (.frz rfl rfl rfl (Y1y (eI .u8) 1 (fun _ => rfl) x20) (Yn (eI .u8) 1 (fun _ => rfl) x20) (Y3f rfl)) (.i2 (.cons (.s rfl) (.i2 .nil))))))) ?_)
     have ⟨x24, hx24, H⟩ := Yw H
     refine OpsW.call rfl rfl (by kernel_rfl) [] _ _ rfl (Yd trivial) (.cons (.pur rfl) (.cons (.pur rfl) .nil)) (f_R11_joined_own hx24) ?_
     rintro _ _ ⟨rfl, rfl⟩
     refine ⟨Yq (by kernel_rfl), .inl rfl, ?_⟩
     change OpsW _ _ _ _ ((56, .rsl 1000 0 0 x24.length) :: (55, sU x23) :: (54, sU x20) :: (7, sU x20) :: (Z9s t0 t1 v1 v2 v6)) ((1000, rtA 0 41 1 (eI .u8) x24) :: (Z9v v1)) _
     refine OpsW.rc ((56, .rsl 600 0 0 x24.length) :: (55, sU x23) :: (54, sU x20) :: (7, sU x20) :: (Z9s t0 t1 v1 v2 v6)) ((600, rtA 0 41 1 (eI .u8) x24) :: (Z9v v1)) (StC.mk (phi [(600, some 1000), (5, some 5)]) (.o rfl (CstL.ims _) (.o rfl (CstL.ims _) .nil)) rfl (.cons (.s rfl) (.i5 (.cons (.s rfl) (.i2 .nil))))) (Y2 1 [7, 0, 1, 5, 6, 8] ((7, .rsl 600 0 0 x24.length) :: (Z9s t0 t1 v1 v2 v6)) (OpsW.rc ((7, .rsl 7 0 0 x24.length) :: (Z9s t0 t1 v1 v2 v6)) [(5, rtA 0 39 1 (eL (eI .u8)) v1), (7, rtA 0 41 1 (eI .u8) x24)] (StC.mk (phi [(5, some 5), (7, some 600)]) (.o rfl (CstL.ims _) (.o rfl (CstL.ims _) .nil)) rfl (.cons (.s rfl) (.i2 (.cons (.s rfl) (.i2 .nil))))) (Y1 ?_)))
     exact ⟨x24, H, (StC.mk (phi [(5, some 5), (7, some 7)]) (.o rfl (CstL.ims _) (.o rfl (CstL.ims _) .nil)) rfl (.i2 (.cons (.s rfl) (.cons .im (.cons (.s rfl) (.cons .im .nil))))))⟩
    refine Yc ?_
    exact ⟨x20, H, (StC.mk (phi [(5, some 5), (7, some 7)]) (.o rfl (CstL.ims _) (.o rfl (CstL.ims _) .nil)) rfl (.i2 (.cons (.s rfl) (.cons .im (.cons (.s rfl) (.cons .im .nil))))))⟩
   intro v9 H
   unfold Y44 at H
   change AW _ _ _ [(0, sC t0), (1, .j t1), (Z9z v1), (6, .j v2), (7, .rsl 7 0 0 v9.length), (8, .j v6)] [(5, rtA 0 39 1 (eL (eI .u8)) v1), (7, rtA 0 41 1 (eI .u8) v9)] _
   refine Y9 ?_
   have ⟨g10, H⟩ := Y8 H
   refine Ya 3 [8, 0, 1, 5, 6, 7] [(8, .j (v6 + 1)), (0, sC t0), (1, .j t1), (Z9z v1), (6, .j v2), (7, .rsl 7 0 0 v9.length)] ⟨g10, trivial⟩ (Y1 ?_)
   exact ⟨(v9, v6 + 1), H, (StC.mk (phi [(5, some 5), (7, some 7)]) (.o rfl (CstL.ims _) (.o rfl (CstL.ims _) .nil)) rfl (.i2 (.cons (.s rfl) (.cons .im (.cons (.s rfl) (.cons .im .nil))))))⟩
  refine AW.exit ?_
  refine Y9 (Y2 2 [58, 57, 0, 1, 5, 6] ((58, .rsl 7 0 0 v5.length) :: (57, .rsl 5 0 0 v1.length) :: (Z9u t0 t1 v1 v2)) ?_)
  have ⟨g25, H⟩ := Y8 H
  refine Ym (enc := eI .u8) [(0 : Int), (62 : Int)] rfl rfl rfl (by decide) rfl rfl rfl (by simp) E39 (fun _ => rfl) (by decide) trivial (by kernel_rfl) (by kernel_rfl) (by kernel_rfl) rfl rfl rfl g25 (OpsW.rc ((60, sU (v5 ++ [(0 : Int), (62 : Int)])) :: (57, .rsl 5 0 0 v1.length) :: (Z9u t0 t1 v1 v2)) (Z9v v1) (StC.mk (phi [(5, some 5)]) (.o rfl (CstL.ims _) .nil) rfl (.cons (.frz rfl rfl rfl (Y1y (eI .u8) 1 (fun _ => rfl) (v5 ++ [(0 : Int), (62 : Int)])) (Yn (eI .u8) 1 (fun _ => rfl) (v5 ++ [(0 : Int), (62 : Int)])) (Y3f rfl)) (.cons (.s rfl) (.i2 (.cons (.s rfl) (.cons .im .nil)))))) ?_)
  have ⟨g26, H⟩ := Y8 H
  refine Ym (enc := eL (eI .u8)) [v5 ++ [(0 : Int), (62 : Int)]] rfl rfl rfl (by decide) rfl rfl rfl (by simp) E30 (fun _ => rfl) (by decide) trivial (by kernel_rfl) (by kernel_rfl) (by kernel_rfl) rfl rfl rfl g26 (Y2 1 [5, 0, 1, 6] [(5, .rsl 5 1 0 ((Za2 v1 v5).length)), (0, sC t0), (1, .j t1), (6, .j v2)] (OpsW.rc [(5, .rsl 5 0 0 ((Za2 v1 v5).length)), (0, sC t0), (1, .j t1), (6, .j v2)] [(5, rtA 0 39 1 (eL (eI .u8)) (Za2 v1 v5))] (StC.mk (phi [(5, some 5)]) (.o rfl (CstL.ims _) .nil) rfl (.cons (.s rfl) (.i3 .nil))) ?_))
  refine Y1 (Y9 ?_)
  have ⟨g27, H⟩ := Y8 H
  refine Ya 4 [6, 5, 0, 1] [(6, .j (v2 + t1)), (5, .rsl 5 0 0 ((Za2 v1 v5).length)), (0, sC t0), (1, .j t1)] ⟨g27, trivial⟩ (Y1 ?_)
  exact ⟨(v1 ++ [v5 ++ [(0 : Int), (62 : Int)]], v2 + t1), H, (StC.mk (phi [(5, some 5)]) (.o rfl (CstL.ims _) .nil) rfl (.i2 (.cons (.s rfl) (.cons .im .nil))))⟩
 refine AW.exit ?_
 refine Y0 (Y2 2 [4] [(4, .rsl 5 0 0 v1.length)] ?_)
 refine OpsW.rc [(4, sC v1)] [] (StC.mk (phi []) .nil rfl (.cons (.frz rfl rfl rfl (Y1y (eL (eI .u8)) 1 (fun _ => rfl) v1) (Yn (eL (eI .u8)) 1 (fun _ => rfl) v1) (Y3f rfl)) .nil)) (Y1 ?_)
 obtain rfl := X2 H
 refine AW.recast (env' := [(4, sC v1)]) (h' := []) (StC.pure (.cons .im .nil)) (Yh ?_)
 try simp only [Ex.t, Ex.b]
 exact Done.eq rfl (.tmp .nil)
def f_R11_left (t0 : List Int) (t1 : Int) : Option (List Int) :=
 G (inR (t1 - (t0.length : Int))) <|
 (Y4c (t1 - (t0.length : Int))).bind fun x2 =>
 (Y25 x2 t0).bind fun x3 =>
 some x3
theorem f_R11_left_ok  {t0 : List Int} {t1 : Int} {r : List Int} (H : f_R11_left t0 t1 = some r) : QSpec Tryd.prog 49 [slA (eI .u8) t0, .int .i64 t1] (slA (eI .u8) r) := by
 refine Ye Tryd.func49 rfl (by simp [Tryd.ntmps49]) ?_
 rw [Tryd.ntmps49]
 unfold f_R11_left at H
 change AW _ _ _ [(0, sU t0), (1, .j t1)] [] _
 refine Y0 (Y2 1 [0, 1] [(0, sU t0), (1, .j t1)] ?_)
 refine Y1 (Y0 ?_)
 have ⟨g1, H⟩ := Y8 H
 refine Ya 4 [8, 0] [(8, .j (t1 - (t0.length : Int))), (0, sU t0)] ⟨g1, trivial⟩ ?_
 have ⟨x2, hx2, H⟩ := Yw H
 refine Yl rfl (.cons (.pur rfl) .nil) (Y55 hx2) (Y2 1 [10, 9] [(10, sU t0), (9, sU x2)] ?_)
 have ⟨x3, hx3, H⟩ := Yw H
 refine Yl rfl (.cons (.pur rfl) (.cons (.pur rfl) .nil)) (Y45 hx3) (Y2 1 [4] [(4, sU x3)] (Y1 ?_))
 obtain rfl := X2 H
 refine AW.recast (env' := [(4, sU x3)]) (h' := []) (StC.pure (.cons .im .nil)) (Yh ?_)
 try simp only [Ex.t, Ex.b]
 exact Done.eq rfl (.tmp .nil)
def Y56 (t0 : Int) (loop3 : ((List Int) × Int) → Option (List Int)) (v1 : List Int) (v2 : Int) : Option (List Int) :=
 cond (decide (v2 < t0)) (
  G (room 1 (v1.length + 1)) <|
  G (inR (v2 + 1)) <|
  loop3 (v1 ++ [(36 : Int)], v2 + 1)) (
  some v1)
def f_R11_bar (t0 : Int) : Option (List Int) :=
 iter (fun loop (s : (List Int) × Int) => Y56 t0 loop s.1 s.2) 1000000 (([] : List Int), (0 : Int))
theorem f_R11_bar_ok  {t0 : Int} {r : List Int} (H : f_R11_bar t0 = some r) : QSpec Tryd.prog 51 [.int .i64 t0] (slA (eI .u8) r) := by
 refine Ye Tryd.func51 rfl (by simp [Tryd.ntmps51]) ?_
 rw [Tryd.ntmps51]
 unfold f_R11_bar at H
 change AW _ _ _ [(0, .j t0)] [] _
 refine Y0 (Y2 1 [0] [(0, .j t0)] ?_)
 refine Y1 (Y0 (Y1o (enc := eI .u8) ([] : List Int) rfl rfl rfl 5 rfl E39 (fun _ => rfl) (by decide) trivial (by kernel_rfl) (by kernel_rfl) (by kernel_rfl) rfl ?_))
 refine Y2 1 [3, 0] [(3, .rsl 5 0 0 (([] : List Int).length)), (0, .j t0)] (OpsW.rc [(3, .rsl 3 0 0 (([] : List Int).length)), (0, .j t0)] [(3, rtA 0 41 1 (eI .u8) ([] : List Int))] (StC.mk (phi [(3, some 5)]) (.o rfl (CstL.ims _) .nil) rfl (.cons (.s rfl) (.cons .im .nil))) ?_)
 refine Y1 (Yi (Y0 (Y2 1 [4, 3, 0] [(4, .j (0 : Int)), (3, .rsl 3 0 0 (([] : List Int).length)), (0, .j t0)] ?_)))
 refine Y1 (Yg ?_)
 refine Y0z (fun loop (s : (List Int) × Int) => Y56 t0 loop s.1 s.2) r (fun (s : (List Int) × Int) => [(0, .j t0), (3, .rsl 3 0 0 s.1.length), (4, .j s.2)]) (fun (s : (List Int) × Int) => [(3, rtA 0 41 1 (eI .u8) s.1)]) ?_ 1000000 (([] : List Int), (0 : Int)) H (StC.mk (phi [(3, some 3)]) (.o rfl (CstL.ims _) .nil) rfl (.cons .im (.cons (.s rfl) (.cons .im .nil))))
 intro loop3 s H
 obtain ⟨v1, v2⟩ := s
 unfold Y56 at H
 change AW _ _ _ [(0, .j t0), (3, .rsl 3 0 0 v1.length), (4, .j v2)] [(3, rtA 0 41 1 (eI .u8) v1)] _
 refine Yi (Y0 (Y2 3 [8, 0, 3, 4] [(8, .bool (decide (v2 < t0))), (0, .j t0), (3, .rsl 3 0 0 v1.length), (4, .j v2)] ?_))
 refine Y1 (Y6 (b := decide (v2 < t0)) H rfl (fun c4 H => ?_) (fun c4 H => ?_))
 ·refine Yc (Yi (Yg (Y9 (Y2 1 [11, 0, 3, 4] [(11, .rsl 3 0 0 v1.length), (0, .j t0), (3, .rsl 3 0 0 v1.length), (4, .j v2)] ?_))))
  have ⟨g5, H⟩ := Y8 H
  refine Ym (enc := eI .u8) [(36 : Int)] rfl rfl rfl (by decide) rfl rfl rfl (by simp) E39 (fun _ => rfl) (by decide) trivial (by kernel_rfl) (by kernel_rfl) (by kernel_rfl) rfl rfl rfl g5 (Y2 1 [3, 0, 4] [(3, .rsl 3 1 0 ((v1 ++ [(36 : Int)]).length)), (0, .j t0), (4, .j v2)] (OpsW.rc [(3, .rsl 3 0 0 ((v1 ++ [(36 : Int)]).length)), (0, .j t0), (4, .j v2)] [(3, rtA 0 41 1 (eI .u8) (v1 ++ [(36 : Int)]))] (StC.mk (phi [(3, some 3)]) (.o rfl (CstL.ims _) .nil) rfl (.cons (.s rfl) (.i2 .nil))) ?_))
  refine Y1 (Y9 ?_)
  have ⟨g6, H⟩ := Y8 H
  refine Ya 3 [4, 3, 0] [(4, .j (v2 + 1)), (3, .rsl 3 0 0 ((v1 ++ [(36 : Int)]).length)), (0, .j t0)] ⟨g6, trivial⟩ (Y1 ?_)
  exact ⟨(v1 ++ [(36 : Int)], v2 + 1), H, (StC.mk (phi [(3, some 3)]) (.o rfl (CstL.ims _) .nil) rfl (.cons .im (.cons (.s rfl) (.cons .im .nil))))⟩
 refine AW.exit ?_
 refine Y0 (Y2 2 [2] [(2, .rsl 3 0 0 v1.length)] ?_)
 refine OpsW.rc [(2, sU v1)] [] (StC.mk (phi []) .nil rfl (.cons (.frz rfl rfl rfl (Y1y (eI .u8) 1 (fun _ => rfl) v1) (Yn (eI .u8) 1 (fun _ => rfl) v1) (Y3f rfl)) .nil)) (Y1 ?_)
 obtain rfl := X2 H
 refine AW.recast (env' := [(2, sU v1)]) (h' := []) (StC.pure (.cons .im .nil)) (Yh ?_)
 try simp only [Ex.t, Ex.b]
 exact Done.eq rfl (.tmp .nil)
end Go.Proofs.YtioockkejhpleaaDoor
