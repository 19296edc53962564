/- Own work. -/
import Derived.Test.YtkgfbpbndmklnaaDoorW2
set_option linter.unusedSimpArgs false
set_option linter.unusedVariables false
set_option maxRecDepth 100000
namespace Go.Proofs.YtkgfbpbndmklnaaDoor
open Go.Abs
def Y13 (x2 : List Y2) (loop4 : (Int) → Option Bool) (v3 : Int) (x6 : List Int) (loop13 : (Int × Int) → Option Bool) (v11 : Int) (v12 : Int) : Option Bool :=
 cond (decide (v12 < (x6.length : Int))) (
  G (0 ≤ v12 ∧ v12 < (x6.length : Int)) <|
  cond ((x6.getD v12.toNat 0) != v11) (
   some false) (
   (Y26 x2 v11).bind fun x17 =>
   cond (cond (decide (x17 ≤ (x6.getD v12.toNat 0))) true (decide ((x2.length : Int) < x17))) (
    some false) (
    G (inR (v12 + 1)) <|
    loop13 (x17, v12 + 1)))) (
  (Y26 x2 v3).bind fun x20 =>
  cond (x20 != v11) (
   some false) (
   loop4 (v3 + 1)))
def Y12 (x1 : Bool) (x2 : List Y2) (x22 : List Int) (loop25 : (Int × Int) → Option Bool) (v23 : Int) (v24 : Int) : Option Bool :=
 cond (decide (v24 < (x22.length : Int))) (
  G (0 ≤ v24 ∧ v24 < (x22.length : Int)) <|
  (f_R09_End x2 (x22.getD v24.toNat 0)).bind fun x28 =>
  G (0 ≤ x28 ∧ x28 ≤ (x2.length : Int)) <|
  G (0 ≤ (x22.getD v24.toNat 0) ∧ (x22.getD v24.toNat 0) ≤ (x28.toNat : Int)) <|
  (Y1l ((x2.drop ((x22.getD v24.toNat 0).toNat)).take (x28.toNat - (x22.getD v24.toNat 0).toNat))).bind fun x31 =>
  G (inR (v24 + 1)) <|
  loop25 ((if x31 > v23 then x31 else v23), v24 + 1)) (
  (Y26 x2 (0 : Int)).bind fun x33 =>
  (cond (x33 == (x2.length : Int)) (Y1l x2) (some (0 : Int))).bind fun x34 =>
  G ((x33 == (x2.length : Int)) = true → inR (v23 + 1)) <|
  some (cond (cond (x33 == (x2.length : Int)) (x34 == (v23 + 1)) false) x1 false))
def Y11 (x1 : Bool) (x2 : List Y2) (loop4 : (Int) → Option Bool) (v3 : Int) : Option Bool :=
 cond (decide (v3 < (x2.length : Int))) (
  (Y25 x2 v3).bind fun x6 =>
  G (inR (v3 + 1)) <|
  G (0 ≤ v3 ∧ v3 < (x2.length : Int)) <|
  (Y2a (x2.getD v3.toNat Yf)).bind fun x9 =>
  cond ((x6.length : Int) != x9) (
   some false) (
   iter (fun loop (s : Int × Int) => Y13 x2 loop4 v3 x6 loop s.1 s.2) 1000000 (v3 + 1, (0 : Int)))) (
  (Y1v x2 (0 : Int)).bind fun x22 =>
  iter (fun loop (s : Int × Int) => Y12 x1 x2 x22 loop s.1 s.2) 1000000 ((0 : Int), (0 : Int)))
def Y2v (t0 : List Int) : Option Bool :=
 (f_L09_sanity).bind fun x1 =>
 (f_R09_Made t0).bind fun x2 =>
 iter (fun loop (s : Int) => Y11 x1 x2 loop s) 1000000 (0 : Int)
section
variable (v3 : Int) (v11 : Int) (v12 : Int) (v23 : Int) (v24 : Int) (x1 : Bool) (x2 : List Y2) (x6 : List Int) (x17 : Int) (x22 : List Int)
abbrev Z3o : Nat × AV := (4, slA Y3 x2)
abbrev Z3p := (x2.length : Int)
abbrev Z3q : Nat × AV := (9, slA (eI .i64) x22)
abbrev Z3r := x22.getD v24.toNat 0
abbrev Z3h : Env := [(78, .ipt (x22.flatMap (eI .i64)) (v24.toNat * 1)), (77, .j v24), (76, slA (eI .i64) x22), (75, slA Y3 x2), (74, .j v23), (71, .bool (decide (v24 < (x22.length : Int)))), (3, .bool x1), (Z3o x2), (Z3q x22), (10, .j v23), (11, .j v24)]
abbrev Z3i : Env := [(3, .bool x1), (Z3o x2), (5, .j v3), (6, slA (eI .i64) x6), (7, .j v11), (8, .j v12)]
abbrev Z3j : Env := [(3, .bool x1), (Z3o x2), (5, .j v3)]
abbrev Z3k : Env := (83, .ipt (x22.flatMap (eI .i64)) (v24.toNat * 1)) :: (82, .j v24) :: (81, slA (eI .i64) x22) :: (80, slA Y3 x2) :: (79, .j (Z3r v24 x22)) :: (Z3h v23 v24 x1 x2 x22)
abbrev Z3l : Env := [(7, .j x17), (3, .bool x1), (Z3o x2), (5, .j v3), (6, slA (eI .i64) x6), (8, .j v12)]
abbrev Z3m : Env := (7, .j (v3 + 1)) :: (6, slA (eI .i64) x6) :: (Z3j v3 x1 x2)
abbrev Z3n : Env := [(2, .bool false)]
end
theorem f_L09_FormulaTrees_ok  {t0 : List Int} {r : Bool} (H : Y2v t0 = some r) : QSpec Tryd.prog 8 [slA (eI .u8) t0] (.bool r) := by
 refine Y04 Tryd.func8 rfl (by simp [Tryd.ntmps8]) ?_
 rw [Tryd.ntmps8]
 unfold Y2v at H
 change AW _ _ _ [(0, sU t0)] [] _
 refine Y0 (OpsW.sg 1 [0] [(0, sU t0)] ?_)
 refine Y1 (Y0 ?_)
 have ⟨x1, hx1, H⟩ := Y0u H
 refine Y0r rfl .nil (f_L09_sanity_ok hx1) (OpsW.sg 1 [3, 0] [(3, .bool x1), (0, sU t0)] ?_)
 refine Y1 (Y0 (OpsW.sg 1 [13, 3] [(13, sU t0), (3, .bool x1)] ?_))
 have ⟨x2, hx2, H⟩ := Y0u H
 refine Y0r rfl (.cons (.pur rfl) .nil) (f_R09_Made_ok hx2) (OpsW.sg 1 [4, 3] [(Z3o x2), (3, .bool x1)] ?_)
 refine Y1 (Y03 (Y0 (OpsW.sg 1 [5, 4, 3] [(5, .j (0 : Int)), (Z3o x2), (3, .bool x1)] ?_)))
 refine Y1 (Y06 ?_)
 refine Y36 (fun loop (s : Int) => Y11 x1 x2 loop s) r (fun (s : Int) => [(3, .bool x1), (Z3o x2), (5, .j s)]) (fun (s : Int) => []) ?_ 1000000 (0 : Int) H (StC.pure (.i3 .nil))
 intro loop4 v3 H
 unfold Y11 at H
 change AW _ _ _ (Z3j v3 x1 x2) [] _
 refine Y03 (Y0 (OpsW.sg 4 [18, 3, 4, 5] ((18, .bool (decide (v3 < (Z3p x2)))) :: (Z3j v3 x1 x2)) ?_))
 refine Y1 (Y7 (b := decide (v3 < (Z3p x2))) H rfl (fun c5 H => ?_) (fun c5 H => ?_))
 ·refine Ya (Y03 (Y06 (Y0 (OpsW.sg 2 [22, 21, 3, 4, 5] ((22, .j v3) :: (21, slA Y3 x2) :: (Z3j v3 x1 x2)) ?_))))
  have ⟨x6, hx6, H⟩ := Y0u H
  refine Y0r rfl (.cons (.pur rfl) (.cons (.pur rfl) .nil)) (f_formula_Operands_ok hx6) ?_
  have ⟨g7, H⟩ := Yn H
  refine OpsW.sz 4 [7, 6, 3, 4, 5] (Z3m v3 x1 x2 x6) ⟨g7, trivial⟩ ?_
  refine Y1 (Y03 (Y0 ?_))
  have ⟨g8, H⟩ := Yn H
  refine OpsW.sz 5 [30, 27, 7, 6, 3, 4, 5] ((30, .ipt (x2.flatMap Y3) (v3.toNat * 2)) :: (27, .j (x6.length : Int)) :: (Z3m v3 x1 x2 x6)) ⟨g8, trivial⟩ (OpsW.asU (.agg [.j ((x2.getD v3.toNat Yf).Op), .j ((x2.getD v3.toNat Yf).N)]) rfl rfl (T.loadAgg (cs := x2.flatMap Y3) (off := v3.toNat * 2) (ds := Y3 (x2.getD v3.toNat Yf)) rfl trivial (by kernel_rfl) (by have := Y0o Y3 2 (fun _ => rfl) x2; have := (ltN g8); omega) (fm_elem Y3 2 (fun _ => rfl) x2 Yf v3.toNat (ltN g8))) ?_)
  have ⟨x9, hx9, H⟩ := Y0u H
  refine Y0r rfl (.cons (.pur rfl) .nil) (f_R09_Arity_ok hx9) (OpsW.sg 1 [33, 7, 6, 3, 4, 5] ((33, .bool ((x6.length : Int) != x9)) :: (Z3m v3 x1 x2 x6)) (Y1 (Y7 (b := (x6.length : Int) != x9) H rfl (fun c10 H => ?_) (fun c10 H => ?_))))
  ·refine Y0 (OpsW.sg 1 [2] Z3n ?_)
   refine Y1 ?_
   obtain rfl := X7 H
   refine AW.recast (env' := Z3n) (h' := []) (StC.pure (.cons .im .nil)) (Ym ?_)
   try simp only [Ex.t, Ex.b]
   exact Yg rfl (.tmp .nil)
  refine Ya (Y03 (Y0 (OpsW.sg 1 [8, 7, 6, 3, 4, 5] ((8, .j (0 : Int)) :: (Z3m v3 x1 x2 x6)) ?_)))
  refine Y1 (Y06 ?_)
  refine Y36 (fun loop (s : Int × Int) => Y13 x2 loop4 v3 x6 loop s.1 s.2) r (fun (s : Int × Int) => [(3, .bool x1), (Z3o x2), (5, .j v3), (6, slA (eI .i64) x6), (7, .j s.1), (8, .j s.2)]) (fun (s : Int × Int) => []) ?_ 1000000 (v3 + 1, (0 : Int)) H (StC.pure (.i6 .nil))
  intro loop13 s H
  obtain ⟨v11, v12⟩ := s
  unfold Y13 at H
  change AW _ _ _ (Z3i v3 v11 v12 x1 x2 x6) [] _
  refine Y03 (Y0 (OpsW.sg 4 [37, 3, 4, 5, 6, 7, 8] ((37, .bool (decide (v12 < (x6.length : Int)))) :: (Z3i v3 v11 v12 x1 x2 x6)) ?_))
  refine Y1 (Y7 (b := decide (v12 < (x6.length : Int))) H rfl (fun c14 H => ?_) (fun c14 H => ?_))
  ·refine Ya (Y03 (Y06 (Y03 (Y0 ?_))))
   have ⟨g15, H⟩ := Yn H
   refine OpsW.sz 3 [42, 3, 4, 5, 6, 7, 8] ((42, .ipt (x6.flatMap (eI .i64)) (v12.toNat * 1)) :: (Z3i v3 v11 v12 x1 x2 x6)) ⟨g15, trivial⟩ (OpsW.asU (.j (x6.getD v12.toNat 0)) rfl rfl (T.load rfl trivial (by kernel_rfl) (fm_cell0 (eI .i64) 1 (fun _ => rfl) x6 (0 : Int) v12.toNat (ltN g15) (fun a => .val (.j a)) (fun _ => rfl))) (OpsW.sg 2 [45, 3, 4, 5, 6, 7, 8] ((45, .bool ((x6.getD v12.toNat 0) != v11)) :: (Z3i v3 v11 v12 x1 x2 x6)) (Y1 (Y7 (b := (x6.getD v12.toNat 0) != v11) H rfl (fun c16 H => ?_) (fun c16 H => ?_)))))
   ·refine Y0 (OpsW.sg 1 [2] Z3n ?_)
    refine Y1 ?_
    obtain rfl := X7 H
    refine AW.recast (env' := Z3n) (h' := []) (StC.pure (.cons .im .nil)) (Ym ?_)
    try simp only [Ex.t, Ex.b]
    exact Yg rfl (.tmp .nil)
   refine Ya (Y0 (OpsW.sg 2 [47, 46, 3, 4, 5, 6, 7, 8] ((47, .j v11) :: (46, slA Y3 x2) :: (Z3i v3 v11 v12 x1 x2 x6)) ?_))
   have ⟨x17, hx17, H⟩ := Y0u H
   refine Y0r rfl (.cons (.pur rfl) (.cons (.pur rfl) .nil)) (f_formula_End_ok hx17) (OpsW.sg 1 [7, 3, 4, 5, 6, 8] (Z3l v3 v12 x1 x2 x6 x17) ?_)
   refine Y1 (Y0 (OpsW.sz 4 [52, 49, 7, 3, 4, 5, 6, 8] ((52, .ipt (x6.flatMap (eI .i64)) (v12.toNat * 1)) :: (49, .j x17) :: (Z3l v3 v12 x1 x2 x6 x17)) ⟨g15, trivial⟩ ?_))
   refine OpsW.asU (.j (x6.getD v12.toNat 0)) rfl rfl (T.load rfl trivial (by kernel_rfl) (fm_cell0 (eI .i64) 1 (fun _ => rfl) x6 (0 : Int) v12.toNat (ltN g15) (fun a => .val (.j a)) (fun _ => rfl))) (OpsW.sz 7 [60, 7, 3, 4, 5, 6, 8] ((60, .bool (cond (decide (x17 ≤ (x6.getD v12.toNat 0))) true (decide ((Z3p x2) < x17)))) :: (Z3l v3 v12 x1 x2 x6 x17)) ⟨(fun h => h), (fun h => h), (fun h => h), (fun h => by first | exact h | (simpa using h) | grind), trivial⟩ (Y1 (Y7 (b := cond (decide (x17 ≤ (x6.getD v12.toNat 0))) true (decide ((Z3p x2) < x17))) H rfl (fun c18 H => ?_) (fun c18 H => ?_))))
   ·refine Y0 (OpsW.sg 1 [2] Z3n ?_)
    refine Y1 ?_
    obtain rfl := X7 H
    refine AW.recast (env' := Z3n) (h' := []) (StC.pure (.cons .im .nil)) (Ym ?_)
    try simp only [Ex.t, Ex.b]
    exact Yg rfl (.tmp .nil)
   refine Ya (Yj ?_)
   have ⟨g19, H⟩ := Yn H
   refine OpsW.sz 3 [8, 7, 3, 4, 5, 6] [(8, .j (v12 + 1)), (7, .j x17), (3, .bool x1), (Z3o x2), (5, .j v3), (6, slA (eI .i64) x6)] ⟨g19, trivial⟩ (Y1 ?_)
   exact ⟨(x17, v12 + 1), H, (StC.pure (.i6 .nil))⟩
  refine AW.exit ?_
  refine Y0 (OpsW.sg 2 [62, 61, 3, 4, 5, 7] [(62, .j v3), (61, slA Y3 x2), (3, .bool x1), (Z3o x2), (5, .j v3), (7, .j v11)] ?_)
  have ⟨x20, hx20, H⟩ := Y0u H
  refine Y0r rfl (.cons (.pur rfl) (.cons (.pur rfl) .nil)) (f_formula_End_ok hx20) (OpsW.sg 2 [65, 3, 4, 5] ((65, .bool (x20 != v11)) :: (Z3j v3 x1 x2)) (Y1 (Y7 (b := x20 != v11) H rfl (fun c21 H => ?_) (fun c21 H => ?_))))
  ·refine Y0 (OpsW.sg 1 [2] Z3n ?_)
   refine Y1 ?_
   obtain rfl := X7 H
   refine AW.recast (env' := Z3n) (h' := []) (StC.pure (.cons .im .nil)) (Ym ?_)
   try simp only [Ex.t, Ex.b]
   exact Yg rfl (.tmp .nil)
  refine Ya (Yj (OpsW.sz 3 [5, 3, 4] [(5, .j (v3 + 1)), (3, .bool x1), (Z3o x2)] ⟨g7, trivial⟩ ?_))
  refine Y1 ?_
  exact ⟨v3 + 1, H, (StC.pure (.i3 .nil))⟩
 refine AW.exit ?_
 refine Y0 (OpsW.sg 1 [66, 3, 4] [(66, slA Y3 x2), (3, .bool x1), (Z3o x2)] ?_)
 have ⟨x22, hx22, H⟩ := Y0u H
 refine Y0r rfl (.cons (.pur rfl) (.cons (.pur rfl) .nil)) (f_R09_Operands_ok hx22) (OpsW.sg 2 [10, 9, 3, 4] [(10, .j (0 : Int)), (Z3q x22), (3, .bool x1), (Z3o x2)] ?_)
 refine Y1 (Y03 (Y0 (OpsW.sg 1 [11, 10, 9, 3, 4] [(11, .j (0 : Int)), (10, .j (0 : Int)), (Z3q x22), (3, .bool x1), (Z3o x2)] ?_)))
 refine Y1 (Y06 ?_)
 refine Y36 (fun loop (s : Int × Int) => Y12 x1 x2 x22 loop s.1 s.2) r (fun (s : Int × Int) => [(3, .bool x1), (Z3o x2), (Z3q x22), (10, .j s.1), (11, .j s.2)]) (fun (s : Int × Int) => []) ?_ 1000000 ((0 : Int), (0 : Int)) H (StC.pure (.i5 .nil))
 intro loop25 s H
 obtain ⟨v23, v24⟩ := s
 unfold Y12 at H
 change AW _ _ _ [(3, .bool x1), (Z3o x2), (Z3q x22), (10, .j v23), (11, .j v24)] [] _
 refine Y03 (Y0 (OpsW.sg 4 [71, 3, 4, 9, 10, 11] [(71, .bool (decide (v24 < (x22.length : Int)))), (3, .bool x1), (Z3o x2), (Z3q x22), (10, .j v23), (11, .j v24)] ?_))
 refine Y1 (Y7 (b := decide (v24 < (x22.length : Int))) H rfl (fun c26 H => ?_) (fun c26 H => ?_))
 ·refine Ya (Y03 (Y06 (AW.draw Tryd.checked.mixed (by kernel_rfl) ?_)))
  have ⟨g27, H⟩ := Yn H
  refine QOps.sz (N := 104) 5 (Z3h v23 v24 x1 x2 x22) ⟨g27, trivial⟩ (QOps.asU (.j (Z3r v24 x22)) rfl (T.load rfl trivial (by kernel_rfl) (fm_cell0 (eI .i64) 1 (fun _ => rfl) x22 (0 : Int) v24.toNat (ltN g27) (fun a => .val (.j a)) (fun _ => rfl))) (QOps.sz (N := 104) 4 (Z3k v23 v24 x1 x2 x22) ⟨g27, trivial⟩ (QOps.asU (.j (Z3r v24 x22)) rfl (T.load rfl trivial (by kernel_rfl) (fm_cell0 (eI .i64) 1 (fun _ => rfl) x22 (0 : Int) v24.toNat (ltN g27) (fun a => .val (.j a)) (fun _ => rfl))) ?_)))
  have ⟨x28, hx28, H⟩ := Y0u H
  refine QOps.qcall rfl (by kernel_rfl) rfl (Yb trivial) (.cons (.pur rfl) (.cons (.pur rfl) .nil)) (f_R09_End_ok hx28) rfl ?_
  have ⟨g29, H⟩ := Yn H
  have ⟨g30, H⟩ := Yn H
  refine QOps.asU (slA Y3 ((x2.drop ((Z3r v24 x22).toNat)).take (x28.toNat - (Z3r v24 x22).toNat))) rfl (T.slice' rfl trivial trivial trivial (by kernel_rfl) (by kernel_rfl) g29 g30 (sl_both Y3 2 (fun _ => rfl) x2 (Z3r v24 x22) x28 g29 g30)) ?_
  have ⟨x31, hx31, H⟩ := Y0u H
  refine QOps.qcall rfl (by kernel_rfl) rfl (Yb trivial) (.cons (.pur rfl) .nil) (f_formula_Depth_ok hx31) rfl (QOps.sz (N := 104) 2 ((10, .j (if x31 > v23 then x31 else v23)) :: (88, .j (if x31 > v23 then x31 else v23)) :: (87, .j x31) :: (86, slA Y3 ((x2.drop ((Z3r v24 x22).toNat)).take (x28.toNat - (Z3r v24 x22).toNat))) :: (85, .j x28) :: (84, .j (Z3r v24 x22)) :: (Z3k v23 v24 x1 x2 x22)) trivial ?_)
  refine QOps.nil (Yj ?_)
  have ⟨g32, H⟩ := Yn H
  refine OpsW.sz 3 [11, 10, 3, 4, 9] [(11, .j (v24 + 1)), (10, .j (if x31 > v23 then x31 else v23)), (3, .bool x1), (Z3o x2), (Z3q x22)] ⟨g32, trivial⟩ (Y1 ?_)
  exact ⟨((if x31 > v23 then x31 else v23), v24 + 1), H, (StC.pure (.i5 .nil))⟩
 refine AW.exit ?_
 refine Y0 (OpsW.sg 1 [89, 3, 4, 10] [(89, slA Y3 x2), (3, .bool x1), (Z3o x2), (10, .j v23)] ?_)
 have ⟨x33, hx33, H⟩ := Y0u H
 refine Y0r rfl (.cons (.pur rfl) (.cons (.pur rfl) .nil)) (f_formula_End_ok hx33) (OpsW.sg 5 [95, 94, 3, 10] [(95, .cnd (x33 == (Z3p x2)) (slA Y3 x2)), (94, .bool (x33 == (Z3p x2))), (3, .bool x1), (10, .j v23)] ?_)
 have ⟨x34, hx34, H⟩ := Y0u H
 refine OpsW.gcall (c := x33 == (Z3p x2)) (r := .j x34) [] rfl (by kernel_rfl) rfl rfl rfl rfl (fun hc => ⟨Yb ⟨hc, trivial⟩, (.cons (.pur rfl) .nil), f_formula_Depth_ok (condT hc hx34), .inl ⟨rfl, rfl⟩⟩) ?_
 have ⟨g35, H⟩ := Yn H
 refine OpsW.sz 8 [2] [(2, .bool (cond (cond (x33 == (Z3p x2)) (x34 == (v23 + 1)) false) x1 false))] ⟨(fun h => h), g35, (fun h => h), (fun h => h), (fun h => by first | exact h | (simpa using h) | grind), (fun h => by first | exact h | (simpa using h) | grind), trivial⟩ (Y1 ?_)
 obtain rfl := X7 H
 refine AW.recast (env' := [(2, .bool (cond (cond (x33 == (Z3p x2)) (x34 == (v23 + 1)) false) x1 false))]) (h' := []) (StC.pure (.cons .im .nil)) (Ym ?_)
 try simp only [Ex.t, Ex.b]
 exact Yg rfl (.tmp .nil)
end Go.Proofs.YtkgfbpbndmklnaaDoor
