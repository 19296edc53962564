/- Own work. -/
import Derived.Test.YtbcfmhoaocifoaaDoorW10
set_option linter.unusedSimpArgs false
set_option linter.unusedVariables false
set_option maxRecDepth 100000
namespace Go.Proofs.YtbcfmhoaocifoaaDoor
open Go.Abs
def Y4h (loop4 : ((List (List Int)) × Int × Int) → Option (List (List Int))) (v3 : Int) (v7 : List (List Int)) (v8 : Int) : Option (List (List Int)) :=
 G (inR (v3 + 1)) <|
 loop4 (v7, v8, v3 + 1)
def Y4g (loop14 : ((List (List Int)) × (List Int) × Int × Int) → Option (List (List Int))) (v13 : Int) (v17 : List (List Int)) (v18 : List Int) (v19 : Int) : Option (List (List Int)) :=
 G (inR (v13 + 1)) <|
 loop14 (v17, v18, v19, v13 + 1)
def Y4f (loop23 : (Int × Int) → Option (List (List Int))) (v22 : Int) (v25 : Int) : Option (List (List Int)) :=
 G (inR (v22 + 1)) <|
 loop23 (v25, v22 + 1)
def Y2m (t0 : List (List Bool)) (v3 : Int) (loop14 : ((List (List Int)) × (List Int) × Int × Int) → Option (List (List Int))) (v10 : List (List Int)) (v11 : List Int) (v12 : Int) (v13 : Int) (loop23 : (Int × Int) → Option (List (List Int))) (v21 : Int) (v22 : Int) : Option (List (List Int)) :=
 cond (decide (v22 < 6)) (
  G (inR (3 * v3)) <|
  G (inR ((3 * v3) + (Int.tmod v22 (3 : Int)))) <|
  G (0 ≤ ((3 * v3) + (Int.tmod v22 (3 : Int))) ∧ ((3 * v3) + (Int.tmod v22 (3 : Int))) < (t0.length : Int)) <|
  G (inR (2 * v13)) <|
  G (inR (Int.tdiv v22 (3 : Int))) <|
  G (inR ((2 * v13) + (Int.tdiv v22 (3 : Int)))) <|
  G (0 ≤ ((2 * v13) + (Int.tdiv v22 (3 : Int))) ∧ ((2 * v13) + (Int.tdiv v22 (3 : Int))) < ((t0.getD ((3 * v3) + (Int.tmod v22 (3 : Int))).toNat []).length : Int)) <|
  cond ((t0.getD ((3 * v3) + (Int.tmod v22 (3 : Int))).toNat []).getD ((2 * v13) + (Int.tdiv v22 (3 : Int))).toNat false) (
   G (0 ≤ v22) <|
   Y4f loop23 v22 (IntKind.wrap .u8 (v21 + (bShl .u8 (1 : Int) v22)))) (
   Y4f loop23 v22 v21)) (
  G (room 1 (v11.length + 1)) <|
  cond (v21 != 0) (
   G (inR (v13 + 1)) <|
   Y4g loop14 v13 v10 (v11 ++ [v21]) (v13 + 1)) (
   Y4g loop14 v13 v10 (v11 ++ [v21]) v12))
def Y2l (t0 : List (List Bool)) (t1 : Int) (loop4 : ((List (List Int)) × Int × Int) → Option (List (List Int))) (v2 : Int) (v3 : Int) (loop14 : ((List (List Int)) × (List Int) × Int × Int) → Option (List (List Int))) (v10 : List (List Int)) (v11 : List Int) (v12 : Int) (v13 : Int) : Option (List (List Int)) :=
 G (inR (Int.tdiv t1 (2 : Int))) <|
 cond (decide (v13 < (Int.tdiv t1 (2 : Int)))) (
  iter (fun loop (s : Int × Int) => Y2m t0 v3 loop14 v10 v11 v12 v13 loop s.1 s.2) 1000000 ((0 : Int), (0 : Int))) (
  G (0 ≤ v12 ∧ v12 ≤ (v11.length : Int)) <|
  G (room 24 (v10.length + 1)) <|
  cond (decide (0 < v12)) (
   G (inR (v3 + 1)) <|
   Y4h loop4 v3 (v10 ++ [v11.take v12.toNat]) (v3 + 1)) (
   Y4h loop4 v3 (v10 ++ [v11.take v12.toNat]) v2))
def Y2k (t0 : List (List Bool)) (t1 : Int) (t2 : Int) (loop4 : ((List (List Int)) × Int × Int) → Option (List (List Int))) (v1 : List (List Int)) (v2 : Int) (v3 : Int) : Option (List (List Int)) :=
 G (inR (Int.tdiv t2 (3 : Int))) <|
 cond (decide (v3 < (Int.tdiv t2 (3 : Int)))) (
  iter (fun loop (s : (List (List Int)) × (List Int) × Int × Int) => Y2l t0 t1 loop4 v2 v3 loop s.1 s.2.1 s.2.2.1 s.2.2.2) 1000000 (v1, ([] : List Int), (0 : Int), (0 : Int))) (
  G (0 ≤ v2 ∧ v2 ≤ (v1.length : Int)) <|
  some (v1.take v2.toNat))
def f_R25_page (t0 : List (List Bool)) (t1 : Int) (t2 : Int) : Option (List (List Int)) :=
 iter (fun loop (s : (List (List Int)) × Int × Int) => Y2k t0 t1 t2 loop s.1 s.2.1 s.2.2) 1000000 (([] : List (List Int)), (0 : Int), (0 : Int))
section
variable (t0 : List (List Bool)) (t1 : Int) (t2 : Int) (v1 : List (List Int)) (v2 : Int) (v3 : Int) (v10 : List (List Int)) (v11 : List Int) (v12 : Int) (v13 : Int) (v21 : Int) (v22 : Int)
abbrev Zpo := (t0.getD ((3 * v3) + (Int.tmod v22 (3 : Int))).toNat [])
abbrev Zpp : Nat × AV := (7, .rsl 7 0 0 v10.length)
abbrev Zpq := List (List Int)
abbrev Zpr : Nat × AV := (10, .rsl 10 0 0 v11.length)
abbrev Zps := ((2 * v13) + (Int.tdiv v22 (3 : Int)))
abbrev Zpt := ([] : List (List Int))
abbrev Zpu : Nat × AV := (7, .rsl 7 0 0 ((v10 ++ [v11.take v12.toNat]).length))
abbrev Zpg : Env := [(0, sD t0), (1, .j t1), (2, .j t2), (Zpp v10), (8, .j v2), (9, .j v3), (Zpr v11), (11, .j v12), (12, .j v13), (13, .int .u8 v21), (14, .j v22)]
abbrev Zph : Env := [(0, sD t0), (1, .j t1), (2, .j t2), (Zpp v10), (8, .j v2), (9, .j v3), (Zpr v11), (11, .j v12), (12, .j v13)]
abbrev Zpi : Env := [(0, sD t0), (1, .j t1), (2, .j t2), (7, .rsl 7 0 0 v1.length), (8, .j v2), (9, .j v3)]
abbrev Zpj : Hp := [(7, rtA 0 41 1 (eL (eI .u8)) v10), (10, rtA 0 42 1 (eI .u8) v11)]
abbrev Zpk : Env := [(60, .rsl 7 0 0 v10.length), (0, sD t0), (1, .j t1), (2, .j t2), (Zpp v10), (8, .j v2), (9, .j v3), (11, .j v12)]
abbrev Zpl : Env := [(7, .rsl 7 0 0 (Zpt.length)), (0, sD t0), (1, .j t1), (2, .j t2)]
abbrev Zpm : Env := [(0, sD t0), (1, .j t1), (2, .j t2), (Zpp v10), (8, .j v2), (9, .j v3), (11, .j v12), (12, .j v13), (13, .int .u8 v21)]
abbrev Zpn : Env := (10, .rsl 10 0 0 (([] : List Int).length)) :: (Zpi t0 t1 t2 v1 v2 v3)
end
theorem f_R25_page_ok  {t0 : List (List Bool)} {t1 : Int} {t2 : Int} {r : List (List Int)} (H : f_R25_page t0 t1 t2 = some r) : QSpec Tryd.prog 63 [slA (eL eB) t0, .int .i64 t1, .int .i64 t2] (slA (eL (eI .u8)) r) := by
 refine Yj Tryd.func63 rfl (by simp [Tryd.ntmps63]) ?_
 rw [Tryd.ntmps63]
 unfold f_R25_page at H
 change AW _ _ _ [(0, sD t0), (1, .j t1), (2, .j t2)] [] _
 refine Y0 (Y2 1 [0, 1, 2] [(0, sD t0), (1, .j t1), (2, .j t2)] ?_)
 refine Y1 (Y0 (Y2b (enc := eL (eI .u8)) Zpt rfl rfl rfl 15 rfl E37 (fun _ => rfl) (by decide) trivial (by kernel_rfl) (by kernel_rfl) (by kernel_rfl) rfl ?_))
 refine Y2 1 [7, 0, 1, 2] [(7, .rsl 15 0 0 (Zpt.length)), (0, sD t0), (1, .j t1), (2, .j t2)] (Ya (Zpl t0 t1 t2) [(7, rtA 0 41 1 (eL (eI .u8)) Zpt)] (StC.mk (phi [(7, some 15)]) (.o rfl (CstL.ims _) .nil) rfl (.cons (.s rfl) (.i3 .nil))) ?_)
 refine Y1 (Y0 (Y2 1 [8, 7, 0, 1, 2] ((8, .j (0 : Int)) :: (Zpl t0 t1 t2)) ?_))
 refine Y1 (Yc (Y0 (Y2 1 [9, 8, 7, 0, 1, 2] ((9, .j (0 : Int)) :: (8, .j (0 : Int)) :: (Zpl t0 t1 t2)) ?_)))
 refine Y1 (Yd ?_)
 refine Yq (fun loop (s : Zpq × Int × Int) => Y2k t0 t1 t2 loop s.1 s.2.1 s.2.2) r (fun (s : Zpq × Int × Int) => [(0, sD t0), (1, .j t1), (2, .j t2), (7, .rsl 7 0 0 s.1.length), (8, .j s.2.1), (9, .j s.2.2)]) (fun (s : Zpq × Int × Int) => [(7, rtA 0 41 1 (eL (eI .u8)) s.1)]) ?_ 1000000 (Zpt, (0 : Int), (0 : Int)) H (StC.mk (phi [(7, some 7)]) (.o rfl (CstL.ims _) .nil) rfl (.i3 (.cons (.s rfl) (.i2 .nil))))
 intro loop4 s H
 obtain ⟨v1, v2, v3⟩ := s
 change Y2k t0 t1 t2 loop4 v1 v2 v3 = some r at H
 unfold Y2k at H
 change AW _ _ _ (Zpi t0 t1 t2 v1 v2 v3) [(7, rtA 0 41 1 (eL (eI .u8)) v1)] _
 refine Yc (Y0 ?_)
 have ⟨g5, H⟩ := Y6 H
 refine Y8 4 [19, 0, 1, 2, 7, 8, 9] ((19, .bool (decide (v3 < (Int.tdiv t2 (3 : Int))))) :: (Zpi t0 t1 t2 v1 v2 v3)) ⟨(by decide), g5, trivial⟩ (Y1 (Y9 (b := decide (v3 < (Int.tdiv t2 (3 : Int)))) H rfl (fun c6 H => ?_) (fun c6 H => ?_)))
 ·refine Yb ?_
  refine Y08 (fun (y : Zpq × Int) => Y4h loop4 v3 y.1 y.2) r (fun (y : Zpq × Int) => [(0, sD t0), (1, .j t1), (2, .j t2), (7, .rsl 7 0 0 y.1.length), (8, .j y.2), (9, .j v3)]) (fun (y : Zpq × Int) => [(7, rtA 0 41 1 (eL (eI .u8)) y.1)]) ?_ ?_
  ·refine Yd (Y0 (Y2b (enc := eI .u8) ([] : List Int) rfl rfl rfl 22 rfl E41 (fun _ => rfl) (by decide) trivial (by kernel_rfl) (by kernel_rfl) (by kernel_rfl) rfl ?_))
   refine Y2 1 [10, 0, 1, 2, 7, 8, 9] ((10, .rsl 22 0 0 (([] : List Int).length)) :: (Zpi t0 t1 t2 v1 v2 v3)) (Ya (Zpn t0 t1 t2 v1 v2 v3) [(7, rtA 0 41 1 (eL (eI .u8)) v1), (10, rtA 0 42 1 (eI .u8) ([] : List Int))] (StC.mk (phi [(7, some 7), (10, some 22)]) (.o rfl (CstL.ims _) (.o rfl (CstL.ims _) .nil)) rfl (.cons (.s rfl) (.i3 (.cons (.s rfl) (.i2 .nil))))) ?_)
   refine Y1 (Y0 (Y2 1 [11, 10, 0, 1, 2, 7, 8, 9] ((11, .j (0 : Int)) :: (Zpn t0 t1 t2 v1 v2 v3)) ?_))
   refine Y1 (Yc (Y0 (Y2 1 [12, 11, 10, 0, 1, 2, 7, 8, 9] ((12, .j (0 : Int)) :: (11, .j (0 : Int)) :: (Zpn t0 t1 t2 v1 v2 v3)) ?_)))
   refine Y1 (Yd ?_)
   refine Yq (fun loop (s : Zpq × (List Int) × Int × Int) => Y2l t0 t1 loop4 v2 v3 loop s.1 s.2.1 s.2.2.1 s.2.2.2) r (fun (s : Zpq × (List Int) × Int × Int) => [(0, sD t0), (1, .j t1), (2, .j t2), (7, .rsl 7 0 0 s.1.length), (8, .j v2), (9, .j v3), (10, .rsl 10 0 0 s.2.1.length), (11, .j s.2.2.1), (12, .j s.2.2.2)]) (fun (s : Zpq × (List Int) × Int × Int) => [(7, rtA 0 41 1 (eL (eI .u8)) s.1), (10, rtA 0 42 1 (eI .u8) s.2.1)]) ?_ 1000000 (v1, ([] : List Int), (0 : Int), (0 : Int)) H (StC.mk (phi [(7, some 7), (10, some 10)]) (.o rfl (CstL.ims _) (.o rfl (CstL.ims _) .nil)) rfl (.i3 (.cons (.s rfl) (.i2 (.cons (.s rfl) (.i2 .nil))))))
   intro loop14 s H
   obtain ⟨v10, v11, v12, v13⟩ := s
   change Y2l t0 t1 loop4 v2 v3 loop14 v10 v11 v12 v13 = some r at H
   unfold Y2l at H
   change AW _ _ _ (Zph t0 t1 t2 v2 v3 v10 v11 v12 v13) (Zpj v10 v11) _
   refine Yc (Y0 ?_)
   have ⟨g15, H⟩ := Y6 H
   refine Y8 4 [26, 0, 1, 2, 7, 8, 9, 10, 11, 12] ((26, .bool (decide (v13 < (Int.tdiv t1 (2 : Int))))) :: (Zph t0 t1 t2 v2 v3 v10 v11 v12 v13)) ⟨(by decide), g15, trivial⟩ (Y1 (Y9 (b := decide (v13 < (Int.tdiv t1 (2 : Int)))) H rfl (fun c16 H => ?_) (fun c16 H => ?_)))
   ·refine Yb ?_
    refine Y08 (fun (y : Zpq × (List Int) × Int) => Y4g loop14 v13 y.1 y.2.1 y.2.2) r (fun (y : Zpq × (List Int) × Int) => [(0, sD t0), (1, .j t1), (2, .j t2), (7, .rsl 7 0 0 y.1.length), (8, .j v2), (9, .j v3), (10, .rsl 10 0 0 y.2.1.length), (11, .j y.2.2), (12, .j v13)]) (fun (y : Zpq × (List Int) × Int) => [(7, rtA 0 41 1 (eL (eI .u8)) y.1), (10, rtA 0 42 1 (eI .u8) y.2.1)]) ?_ ?_
    ·refine Yd (Y0 (Y2 1 [13, 0, 1, 2, 7, 8, 9, 10, 11, 12] ((13, .int .u8 0) :: (Zph t0 t1 t2 v2 v3 v10 v11 v12 v13)) ?_))
     refine Y1 (Yc (Y0 (Y2 1 [14, 13, 0, 1, 2, 7, 8, 9, 10, 11, 12] ((14, .j (0 : Int)) :: (13, .int .u8 0) :: (Zph t0 t1 t2 v2 v3 v10 v11 v12 v13)) ?_)))
     refine Y1 (Yd ?_)
     refine Yq (fun loop (s : Int × Int) => Y2m t0 v3 loop14 v10 v11 v12 v13 loop s.1 s.2) r (fun (s : Int × Int) => [(0, sD t0), (1, .j t1), (2, .j t2), (Zpp v10), (8, .j v2), (9, .j v3), (Zpr v11), (11, .j v12), (12, .j v13), (13, .int .u8 s.1), (14, .j s.2)]) (fun (s : Int × Int) => (Zpj v10 v11)) ?_ 1000000 ((0 : Int), (0 : Int)) H (StC.mk (phi [(7, some 7), (10, some 10)]) (.o rfl (CstL.ims _) (.o rfl (CstL.ims _) .nil)) rfl (.i3 (.cons (.s rfl) (.i2 (.cons (.s rfl) (.i4 .nil))))))
     intro loop23 s H
     obtain ⟨v21, v22⟩ := s
     change Y2m t0 v3 loop14 v10 v11 v12 v13 loop23 v21 v22 = some r at H
     unfold Y2m at H
     change AW _ _ _ (Zpg t0 t1 t2 v2 v3 v10 v11 v12 v13 v21 v22) (Zpj v10 v11) _
     refine Yc (Y0 (Y2 2 [30, 0, 1, 2, 7, 8, 9, 10, 11, 12, 13, 14] ((30, .bool (decide (v22 < 6))) :: (Zpg t0 t1 t2 v2 v3 v10 v11 v12 v13 v21 v22)) ?_))
     refine Y1 (Y9 (b := decide (v22 < 6)) H rfl (fun c24 H => ?_) (fun c24 H => ?_))
     ·refine Yb ?_
      refine Y08 (fun (y : Int) => Y4f loop23 v22 y) r (fun (y : Int) => [(0, sD t0), (1, .j t1), (2, .j t2), (Zpp v10), (8, .j v2), (9, .j v3), (Zpr v11), (11, .j v12), (12, .j v13), (13, .int .u8 y), (14, .j v22)]) (fun (y : Int) => (Zpj v10 v11)) ?_ ?_
      ·refine Yd (Y0 ?_)
       have ⟨g27, H⟩ := Y6 H
       have ⟨g28, H⟩ := Y6 H
       have ⟨g29, H⟩ := Y6 H
       refine Y8 7 [39, 0, 1, 2, 7, 8, 9, 10, 11, 12, 13, 14] ((39, .ipt (t0.flatMap (eL eB)) (((3 * v3) + (Int.tmod v22 (3 : Int))).toNat * 1)) :: (Zpg t0 t1 t2 v2 v3 v10 v11 v12 v13 v21 v22)) ⟨g27, (by decide), g28, g29, trivial⟩ (OpsW.asU (slA eB (Zpo t0 v3 v22)) rfl rfl (T.load rfl trivial (by kernel_rfl) (Y3u (eL eB) 1 (fun _ => rfl) t0 [] ((3 * v3) + (Int.tmod v22 (3 : Int))).toNat (ltN g29) 0 (fun a => .sl (a.flatMap eB) a.length) (fun _ => rfl))) ?_)
       have ⟨g30, H⟩ := Y6 H
       have ⟨g31, H⟩ := Y6 H
       have ⟨g32, H⟩ := Y6 H
       have ⟨g33, H⟩ := Y6 H
       refine Y8 6 [46, 0, 1, 2, 7, 8, 9, 10, 11, 12, 13, 14] ((46, .ipt ((Zpo t0 v3 v22).flatMap eB) ((Zps v13 v22).toNat * 1)) :: (Zpg t0 t1 t2 v2 v3 v10 v11 v12 v13 v21 v22)) ⟨g30, (by decide), g31, g32, g33, trivial⟩ (OpsW.asU (.bool ((Zpo t0 v3 v22).getD (Zps v13 v22).toNat false)) rfl rfl (T.load rfl trivial (by kernel_rfl) (Y3u eB 1 (fun _ => rfl) (Zpo t0 v3 v22) false (Zps v13 v22).toNat (ltN g33) 0 (fun a => .val (.bool a)) (fun _ => rfl))) (Y2 0 [47, 0, 1, 2, 7, 8, 9, 10, 11, 12, 13, 14] ((47, .bool ((Zpo t0 v3 v22).getD (Zps v13 v22).toNat false)) :: (Zpg t0 t1 t2 v2 v3 v10 v11 v12 v13 v21 v22)) (Y1 (Y9 (b := (Zpo t0 v3 v22).getD (Zps v13 v22).toNat false) H rfl (fun c34 H => ?_) (fun c34 H => ?_)))))
       ·refine Ye ?_
        have ⟨g35, H⟩ := Y6 H
        refine Y8 5 [13, 0, 1, 2, 7, 8, 9, 10, 11, 12, 14] [(13, .int .u8 (IntKind.wrap .u8 (v21 + (bShl .u8 (1 : Int) v22)))), (0, sD t0), (1, .j t1), (2, .j t2), (Zpp v10), (8, .j v2), (9, .j v3), (Zpr v11), (11, .j v12), (12, .j v13), (14, .j v22)] ⟨g35, trivial⟩ (Y1 ?_)
        exact ⟨IntKind.wrap .u8 (v21 + (bShl .u8 (1 : Int) v22)), H, (StC.mk (phi [(7, some 7), (10, some 10)]) (.o rfl (CstL.ims _) (.o rfl (CstL.ims _) .nil)) rfl (.i3 (.cons (.s rfl) (.i2 (.cons (.s rfl) (.i4 .nil))))))⟩
       refine Yb ?_
       exact ⟨v21, H, (StC.mk (phi [(7, some 7), (10, some 10)]) (.o rfl (CstL.ims _) (.o rfl (CstL.ims _) .nil)) rfl (.i3 (.cons (.s rfl) (.i2 (.cons (.s rfl) (.i4 .nil))))))⟩
      intro v25 H
      change Y4f loop23 v22 v25 = some r at H
      unfold Y4f at H
      change AW _ _ _ [(0, sD t0), (1, .j t1), (2, .j t2), (Zpp v10), (8, .j v2), (9, .j v3), (Zpr v11), (11, .j v12), (12, .j v13), (13, .int .u8 v25), (14, .j v22)] (Zpj v10 v11) _
      refine Ye ?_
      have ⟨g26, H⟩ := Y6 H
      refine Y8 3 [14, 0, 1, 2, 7, 8, 9, 10, 11, 12, 13] [(14, .j (v22 + 1)), (0, sD t0), (1, .j t1), (2, .j t2), (Zpp v10), (8, .j v2), (9, .j v3), (Zpr v11), (11, .j v12), (12, .j v13), (13, .int .u8 v25)] ⟨g26, trivial⟩ (Y1 ?_)
      exact ⟨(v25, v22 + 1), H, (StC.mk (phi [(7, some 7), (10, some 10)]) (.o rfl (CstL.ims _) (.o rfl (CstL.ims _) .nil)) rfl (.i3 (.cons (.s rfl) (.i2 (.cons (.s rfl) (.i4 .nil))))))⟩
     refine AW.exit ?_
     refine Y0 (Y2 2 [53, 52, 0, 1, 2, 7, 8, 9, 10, 11, 12, 13] [(53, .int .u8 v21), (52, .rsl 10 0 0 v11.length), (0, sD t0), (1, .j t1), (2, .j t2), (Zpp v10), (8, .j v2), (9, .j v3), (Zpr v11), (11, .j v12), (12, .j v13), (13, .int .u8 v21)] ?_)
     have ⟨g36, H⟩ := Y6 H
     refine Y1j (enc := eI .u8) [v21] rfl rfl rfl (by decide) rfl rfl rfl (by simp) E41 (fun _ => rfl) (by decide) trivial (by kernel_rfl) (by kernel_rfl) (by kernel_rfl) rfl rfl rfl g36 (Y2 1 [10, 0, 1, 2, 7, 8, 9, 11, 12, 13] ((10, .rsl 10 1 0 ((v11 ++ [v21]).length)) :: (Zpm t0 t1 t2 v2 v3 v10 v12 v13 v21)) (Ya ((10, .rsl 10 0 0 ((v11 ++ [v21]).length)) :: (Zpm t0 t1 t2 v2 v3 v10 v12 v13 v21)) [(7, rtA 0 41 1 (eL (eI .u8)) v10), (10, rtA 0 42 1 (eI .u8) (v11 ++ [v21]))] (StC.mk (phi [(7, some 7), (10, some 10)]) (.o rfl (CstL.ims _) (.o rfl (CstL.ims _) .nil)) rfl (.cons (.s rfl) (.i3 (.cons (.s rfl) (.i5 .nil))))) ?_))
     refine Y1 (Y0 (Y2 2 [57, 10, 0, 1, 2, 7, 8, 9, 11, 12] [(57, .bool (v21 != 0)), (10, .rsl 10 0 0 ((v11 ++ [v21]).length)), (0, sD t0), (1, .j t1), (2, .j t2), (Zpp v10), (8, .j v2), (9, .j v3), (11, .j v12), (12, .j v13)] ?_))
     refine Y1 (Y9 (b := v21 != 0) H rfl (fun c37 H => ?_) (fun c37 H => ?_))
     ·refine Ye ?_
      have ⟨g38, H⟩ := Y6 H
      refine Y8 3 [11, 10, 0, 1, 2, 7, 8, 9, 12] [(11, .j (v13 + 1)), (10, .rsl 10 0 0 ((v11 ++ [v21]).length)), (0, sD t0), (1, .j t1), (2, .j t2), (Zpp v10), (8, .j v2), (9, .j v3), (12, .j v13)] ⟨g38, trivial⟩ (Y1 ?_)
      exact ⟨(v10, v11 ++ [v21], v13 + 1), H, (StC.mk (phi [(7, some 7), (10, some 10)]) (.o rfl (CstL.ims _) (.o rfl (CstL.ims _) .nil)) rfl (.i3 (.cons (.s rfl) (.i2 (.cons (.s rfl) (.i2 .nil))))))⟩
     refine Yb ?_
     exact ⟨(v10, v11 ++ [v21], v12), H, (StC.mk (phi [(7, some 7), (10, some 10)]) (.o rfl (CstL.ims _) (.o rfl (CstL.ims _) .nil)) rfl (.i3 (.cons (.s rfl) (.i2 (.cons (.s rfl) (.i2 .nil))))))⟩
    rintro ⟨v17, v18, v19⟩ H
    change Y4g loop14 v13 v17 v18 v19 = some r at H
    unfold Y4g at H
    change AW _ _ _ [(0, sD t0), (1, .j t1), (2, .j t2), (7, .rsl 7 0 0 v17.length), (8, .j v2), (9, .j v3), (10, .rsl 10 0 0 v18.length), (11, .j v19), (12, .j v13)] [(7, rtA 0 41 1 (eL (eI .u8)) v17), (10, rtA 0 42 1 (eI .u8) v18)] _
    refine Ye ?_
    have ⟨g20, H⟩ := Y6 H
    refine Y8 3 [12, 0, 1, 2, 7, 8, 9, 10, 11] [(12, .j (v13 + 1)), (0, sD t0), (1, .j t1), (2, .j t2), (7, .rsl 7 0 0 v17.length), (8, .j v2), (9, .j v3), (10, .rsl 10 0 0 v18.length), (11, .j v19)] ⟨g20, trivial⟩ (Y1 ?_)
    exact ⟨(v17, v18, v19, v13 + 1), H, (StC.mk (phi [(7, some 7), (10, some 10)]) (.o rfl (CstL.ims _) (.o rfl (CstL.ims _) .nil)) rfl (.i3 (.cons (.s rfl) (.i2 (.cons (.s rfl) (.i2 .nil))))))⟩
   refine AW.exit (Y0 ?_)
   have ⟨g39, H⟩ := Y6 H
   refine Y8 4 [63, 60, 0, 1, 2, 7, 8, 9, 11] ((63, .rsl 10 0 (0 + 0 * 1) (v12.toNat - 0)) :: (Zpk t0 t1 t2 v2 v3 v10 v12)) ⟨g39, trivial⟩ (OpsW.cutF (r := 10) (enc := eI .u8) (l := v11) v12.toNat (fun _ => rfl) rfl (OpsW.weaken ((63, .rsl 10 0 0 ((v11.take v12.toNat).length)) :: (Zpk t0 t1 t2 v2 v3 v10 v12)) (Y04 (by first | (have := g39; simp only [Xq, X1i, X0z, Xl]; rw [X0v (by omega)]; done) | (simp only [Zpp, Zpk]; have := g39; simp only [Xq, X1i, X0z, Xl]; rw [X0v (by omega)]))) (Ya ((63, sU (v11.take v12.toNat)) :: (Zpk t0 t1 t2 v2 v3 v10 v12)) [(7, rtA 0 41 1 (eL (eI .u8)) v10)] (StC.mk (phi [(7, some 7)]) (.o rfl (CstL.ims _) .nil) rfl (.cons (.frz rfl rfl rfl (Y1b (eI .u8) 1 (fun _ => rfl) (v11.take v12.toNat)) (Yy (eI .u8) 1 (fun _ => rfl) (v11.take v12.toNat)) (Y3c rfl)) (.cons (.s rfl) (.i3 (.cons (.s rfl) (.i3 .nil)))))) ?_)))
   have ⟨g40, H⟩ := Y6 H
   refine Y1j (enc := eL (eI .u8)) [v11.take v12.toNat] rfl rfl rfl (by decide) rfl rfl rfl (by simp) E37 (fun _ => rfl) (by decide) trivial (by kernel_rfl) (by kernel_rfl) (by kernel_rfl) rfl rfl rfl g40 (Y2 1 [7, 0, 1, 2, 8, 9, 11] [(7, .rsl 7 1 0 ((v10 ++ [v11.take v12.toNat]).length)), (0, sD t0), (1, .j t1), (2, .j t2), (8, .j v2), (9, .j v3), (11, .j v12)] (Ya [(Zpu v10 v11 v12), (0, sD t0), (1, .j t1), (2, .j t2), (8, .j v2), (9, .j v3), (11, .j v12)] [(7, rtA 0 41 1 (eL (eI .u8)) (v10 ++ [v11.take v12.toNat]))] (StC.mk (phi [(7, some 7)]) (.o rfl (CstL.ims _) .nil) rfl (.cons (.s rfl) (.i6 .nil))) ?_))
   refine Y1 (Y0 (Y2 2 [67, 7, 0, 1, 2, 8, 9] [(67, .bool (decide (0 < v12))), (Zpu v10 v11 v12), (0, sD t0), (1, .j t1), (2, .j t2), (8, .j v2), (9, .j v3)] ?_))
   refine Y1 (Y9 (b := decide (0 < v12)) H rfl (fun c41 H => ?_) (fun c41 H => ?_))
   ·refine Ye ?_
    have ⟨g42, H⟩ := Y6 H
    refine Y8 3 [8, 7, 0, 1, 2, 9] [(8, .j (v3 + 1)), (Zpu v10 v11 v12), (0, sD t0), (1, .j t1), (2, .j t2), (9, .j v3)] ⟨g42, trivial⟩ (Y1 ?_)
    exact ⟨(v10 ++ [v11.take v12.toNat], v3 + 1), H, (StC.mk (phi [(7, some 7)]) (.o rfl (CstL.ims _) .nil) rfl (.i3 (.cons (.s rfl) (.i2 .nil))))⟩
   refine Yb ?_
   exact ⟨(v10 ++ [v11.take v12.toNat], v2), H, (StC.mk (phi [(7, some 7)]) (.o rfl (CstL.ims _) .nil) rfl (.i3 (.cons (.s rfl) (.i2 .nil))))⟩
  rintro ⟨v7, v8⟩ H
  change Y4h loop4 v3 v7 v8 = some r at H
  unfold Y4h at H
  change AW _ _ _ [(0, sD t0), (1, .j t1), (2, .j t2), (7, .rsl 7 0 0 v7.length), (8, .j v8), (9, .j v3)] [(7, rtA 0 41 1 (eL (eI .u8)) v7)] _
  refine Ye ?_
  have ⟨g9, H⟩ := Y6 H
  refine Y8 3 [9, 0, 1, 2, 7, 8] [(9, .j (v3 + 1)), (0, sD t0), (1, .j t1), (2, .j t2), (7, .rsl 7 0 0 v7.length), (8, .j v8)] ⟨g9, trivial⟩ (Y1 ?_)
  exact ⟨(v7, v8, v3 + 1), H, (StC.mk (phi [(7, some 7)]) (.o rfl (CstL.ims _) .nil) rfl (.i3 (.cons (.s rfl) (.i2 .nil))))⟩
 refine AW.exit (Y0 ?_)
 have ⟨g43, H⟩ := Y6 H
 refine Y8 4 [6] [(6, .rsl 7 0 (0 + 0 * 1) (v2.toNat - 0))] ⟨g43, trivial⟩ (OpsW.cutF (r := 7) (enc := eL (eI .u8)) (l := v1) v2.toNat (fun _ => rfl) rfl (OpsW.weaken [(6, .rsl 7 0 0 ((v1.take v2.toNat).length))] (Y04 (by first | (have := g43; simp only [Xq, X1i, X0z, Xl]; rw [X0v (by omega)]; done) | (simp only []; have := g43; simp only [Xq, X1i, X0z, Xl]; rw [X0v (by omega)]))) (Ya [(6, sC (v1.take v2.toNat))] [] (StC.mk (phi []) .nil rfl (.cons (.frz rfl rfl rfl (Y1b (eL (eI .u8)) 1 (fun _ => rfl) (v1.take v2.toNat)) (Yy (eL (eI .u8)) 1 (fun _ => rfl) (v1.take v2.toNat)) (Y3c rfl)) .nil)) (Y1 ?_))))
 obtain rfl := X1 H
 refine AW.recast (env' := [(6, sC (v1.take v2.toNat))]) (h' := []) (StC.pure (.cons .im .nil)) (Yl ?_)
 try simp only [Ex.t, Ex.b, Ex.n, Ex.y]
 exact Yh rfl (.tmp .nil)
def f_R25_Front (t0 : Y4) : Option (List (List Int)) :=
 (f_R25_page t0.Up t0.W t0.H).bind fun x1 =>
 some x1
theorem f_R25_Front_ok  {t0 : Y4} {r : List (List Int)} (H : f_R25_Front t0 = some r) : QSpec Tryd.prog 46 [.agg [.int .i64 t0.W, .int .i64 t0.H, slA (eL eB) t0.Up, slA (eL eB) t0.Down]] (slA (eL (eI .u8)) r) := by
 refine Yj Tryd.func46 rfl (by simp [Tryd.ntmps46]) ?_
 rw [Tryd.ntmps46]
 unfold f_R25_Front at H
 change AW _ _ _ [(0, .agg [.j t0.W, .j t0.H, sD t0.Up, sD t0.Down])] [] _
 refine Y0 (OpsW.box rfl rfl rfl 1 rfl (Y5 (by kernel_rfl)) ?_)
 change OpsW _ _ _ _ _ [(1, ⟨0, true, 47, 4, [.j t0.W, .j t0.H, sD t0.Up, sD t0.Down]⟩)] _
 refine Y2 1 [1] [(1, .ref 1 0 0)] ?_
 refine Y1 (Y0 (Y2 6 [8, 6, 4] [(8, .j t0.H), (6, .j t0.W), (4, sD t0.Up)] ?_))
 have ⟨x1, hx1, H⟩ := Yt H
 refine Ys rfl (.cons (.pur rfl) (.cons (.pur rfl) (.cons (.pur rfl) .nil))) (f_R25_page_ok hx1) (Y2 1 [2] [(2, sC x1)] (Y1 ?_))
 obtain rfl := X1 H
 refine AW.recast (env' := [(2, sC x1)]) (h' := []) (StC.pure (.cons .im .nil)) (Yl ?_)
 try simp only [Ex.t, Ex.b]
 exact Yh rfl (.tmp .nil)
def f_R25_Back (t0 : Y4) : Option (List (List Int)) :=
 (Y20 t0).bind fun x1 =>
 (f_R25_Front x1).bind fun x2 =>
 some x2
section
variable (t0 : Y4)
abbrev Zpv : List AV := [.j t0.W, .j t0.H, sD t0.Up, sD t0.Down]
end
theorem f_R25_Back_ok  {t0 : Y4} {r : List (List Int)} (H : f_R25_Back t0 = some r) : QSpec Tryd.prog 47 [.agg [.int .i64 t0.W, .int .i64 t0.H, slA (eL eB) t0.Up, slA (eL eB) t0.Down]] (slA (eL (eI .u8)) r) := by
 refine Yj Tryd.func47 rfl (by simp [Tryd.ntmps47]) ?_
 rw [Tryd.ntmps47]
 unfold f_R25_Back at H
 change AW _ _ _ [(0, .agg (Zpv t0))] [] _
 refine Y0 (OpsW.box rfl rfl rfl 1 rfl (Y5 (by kernel_rfl)) ?_)
 change OpsW _ _ _ _ _ [(1, ⟨0, true, 47, 4, (Zpv t0)⟩)] _
 refine Y2 1 [1] [(1, .ref 1 0 0)] ?_
 refine Y1 (Y0 (Y2 1 [3] [(3, .agg (Zpv t0))] ?_))
 have ⟨x1, hx1, H⟩ := Yt H
 refine Ys rfl (.cons (.pur rfl) .nil) (f_R25_Turned_ok hx1) ?_
 have ⟨x2, hx2, H⟩ := Yt H
 refine Ys rfl (.cons (.pur rfl) .nil) (f_R25_Front_ok hx2) (Y2 1 [2] [(2, sC x2)] (Y1 ?_))
 obtain rfl := X1 H
 refine AW.recast (env' := [(2, sC x2)]) (h' := []) (StC.pure (.cons .im .nil)) (Yl ?_)
 try simp only [Ex.t, Ex.b]
 exact Yh rfl (.tmp .nil)
def Y3p (t0 : List Int) (v1 : Int) (loop7 : (Int) → Option ((List Int) × (List Int))) (v6 : Int) : Option ((List Int) × (List Int)) :=
 G ((decide (0 < v6)) = true → inR (v6 - 1)) <|
 G ((decide (0 < v6)) = true → (0 ≤ (v6 - 1) ∧ (v6 - 1) < (t0.length : Int))) <|
 cond (cond (decide (0 < v6)) ((t0.getD (v6 - 1).toNat (0 : Int)) != 0) false) (
  G (inR (v6 - 1)) <|
  loop7 (v6 - 1)) (
  G (0 ≤ v1 ∧ v1 ≤ (t0.length : Int)) <|
  G (0 ≤ v6 ∧ v6 ≤ (t0.length : Int)) <|
  some (t0.take v1.toNat, t0.drop v6.toNat))
def Y53 (t0 : List Int) (loop2 : (Int) → Option ((List Int) × (List Int))) (v1 : Int) : Option ((List Int) × (List Int)) :=
 G ((decide (v1 < (t0.length : Int))) = true → (0 ≤ v1 ∧ v1 < (t0.length : Int))) <|
 cond (cond (decide (v1 < (t0.length : Int))) ((t0.getD v1.toNat 0) != 0) false) (
  G (inR (v1 + 1)) <|
  loop2 (v1 + 1)) (
  iter (fun loop (s : Int) => Y3p t0 v1 loop s) 1000000 (t0.length : Int))
def f_R19_split (t0 : List Int) : Option ((List Int) × (List Int)) :=
 iter (fun loop (s : Int) => Y53 t0 loop s) 1000000 (0 : Int)
section
variable (t0 : List Int) (v1 : Int) (v6 : Int)
abbrev Zpy := (decide (v1 < (t0.length : Int)))
abbrev Zpw : Env := [(30, .bool (cond (decide (0 < v6)) ((t0.getD (v6 - 1).toNat (0 : Int)) != 0) false)), (0, sU t0), (4, .j v1), (5, .j v6)]
abbrev Zpx : Env := (37, .j v6) :: (36, sU t0) :: (35, sU (t0.take v1.toNat)) :: (34, .j v1) :: (33, sU t0) :: (Zpw t0 v1 v6)
end
theorem f_R19_split_ok  {t0 : List Int} {r : (List Int) × (List Int)} (H : f_R19_split t0 = some r) : QSpec Tryd.prog 75 [slA (eI .u8) t0] (.tup [slA (eI .u8) r.1, slA (eI .u8) r.2]) := by
 refine Yj Tryd.func75 rfl (by simp [Tryd.ntmps75]) ?_
 rw [Tryd.ntmps75]
 unfold f_R19_split at H
 change AW _ _ _ [(0, sU t0)] [] _
 refine Y0 (Y2 2 [0] [(0, sU t0)] ?_)
 refine Y1 (Y0 (Y2 1 [4, 0] [(4, .j (0 : Int)), (0, sU t0)] ?_))
 refine Y1 (Yc (Yd ?_))
 refine Yq (fun loop (s : Int) => Y53 t0 loop s) r (fun (s : Int) => [(0, sU t0), (4, .j s)]) (fun (s : Int) => []) ?_ 1000000 (0 : Int) H (StC.pure (.i2 .nil))
 intro loop2 v1 H
 unfold Y53 at H
 change AW _ _ _ [(0, sU t0), (4, .j v1)] [] _
 refine Yc (Y0 ?_)
 have ⟨g3, H⟩ := Y6 H
 refine Y8 8 [13, 10, 0, 4] [(13, .cnd (Zpy t0 v1) (.ipt (t0.flatMap (eI .u8)) (v1.toNat * 1))), (10, .bool (Zpy t0 v1)), (0, sU t0), (4, .j v1)] ⟨(fun h => h), (fun h => h), g3, trivial⟩ (OpsW.asG (c := decide (v1 < (t0.length : Int))) (.int .u8 (t0.getD v1.toNat 0)) rfl rfl rfl rfl (fun hc => T.load rfl hc (by kernel_rfl) (Yn (eI .u8) 1 (fun _ => rfl) t0 (0 : Int) v1.toNat (ltN (g3 hc)) (fun a => .val (.int .u8 a)) (fun _ => rfl))) (Y8 2 [16, 0, 4] [(16, .bool (cond (Zpy t0 v1) ((t0.getD v1.toNat 0) != 0) false)), (0, sU t0), (4, .j v1)] ⟨(fun h => h), (fun h => by first | exact h | (simpa using h) | grind), trivial⟩ (Y1 (Y9 (b := cond (Zpy t0 v1) ((t0.getD v1.toNat 0) != 0) false) H rfl (fun c4 H => ?_) (fun c4 H => ?_)))))
 ·refine Yb (Yd (Ye ?_))
  have ⟨g5, H⟩ := Y6 H
  refine Y8 3 [4, 0] [(4, .j (v1 + 1)), (0, sU t0)] ⟨g5, trivial⟩ (Y1 ?_)
  exact ⟨v1 + 1, H, (StC.pure (.i2 .nil))⟩
 refine AW.exit ?_
 refine Y0 (Y2 3 [5, 0, 4] [(5, .j (t0.length : Int)), (0, sU t0), (4, .j v1)] ?_)
 refine Y1 (Yc (Yd ?_))
 refine Yq (fun loop (s : Int) => Y3p t0 v1 loop s) r (fun (s : Int) => [(0, sU t0), (4, .j v1), (5, .j s)]) (fun (s : Int) => []) ?_ 1000000 (t0.length : Int) H (StC.pure (.i3 .nil))
 intro loop7 v6 H
 unfold Y3p at H
 change AW _ _ _ [(0, sU t0), (4, .j v1), (5, .j v6)] [] _
 refine Yc (Y0 ?_)
 have ⟨g8, H⟩ := Y6 H
 have ⟨g9, H⟩ := Y6 H
 refine Y8 7 [27, 23, 0, 4, 5] [(27, .cnd (decide (0 < v6)) (.ipt (t0.flatMap (eI .u8)) ((v6 - 1).toNat * 1))), (23, .bool (decide (0 < v6))), (0, sU t0), (4, .j v1), (5, .j v6)] ⟨(fun h => h), g8, (fun h => h), (fun h => h), g9, trivial⟩ (OpsW.asG (c := decide (0 < v6)) (.int .u8 (t0.getD (v6 - 1).toNat (0 : Int))) rfl rfl rfl rfl (fun hc => T.load rfl hc (by kernel_rfl) (Yn (eI .u8) 1 (fun _ => rfl) t0 (0 : Int) (v6 - 1).toNat (ltN (g9 hc)) (fun a => .val (.int .u8 a)) (fun _ => rfl))) (Y8 2 [30, 0, 4, 5] (Zpw t0 v1 v6) ⟨(fun h => h), (fun h => by first | exact h | (simpa using h) | grind), trivial⟩ (Y1 (Y9 (b := cond (decide (0 < v6)) ((t0.getD (v6 - 1).toNat (0 : Int)) != 0) false) H rfl (fun c10 H => ?_) (fun c10 H => ?_)))))
 ·refine Yb (Yd (Ye ?_))
  have ⟨g11, H⟩ := Y6 H
  refine Y8 3 [5, 0, 4] [(5, .j (v6 - 1)), (0, sU t0), (4, .j v1)] ⟨g11, trivial⟩ (Y1 ?_)
  exact ⟨v6 - 1, H, (StC.pure (.i3 .nil))⟩
 refine AW.exit (Y0q Tryd.checked.mixed (by kernel_rfl) (QOps.sz (N := 39) 2 ((34, .j v1) :: (33, sU t0) :: (Zpw t0 v1 v6)) trivial ?_))
 have ⟨g12, H⟩ := Y6 H
 refine QOps.asU (sU (t0.take v1.toNat)) rfl (T.slice' rfl trivial trivial trivial (by kernel_rfl) (by kernel_rfl) g12 trivial (sl_hi (eI .u8) 1 (fun _ => rfl) t0 v1 g12)) (QOps.sz (N := 39) 2 (Zpx t0 v1 v6) trivial ?_)
 have ⟨g13, H⟩ := Y6 H
 refine QOps.asU (sU (t0.drop v6.toNat)) rfl (T.slice' rfl trivial trivial trivial (by kernel_rfl) (by kernel_rfl) trivial g13 (sl_lo (eI .u8) 1 (fun _ => rfl) t0 v6 g13)) (QOps.sz (N := 39) 2 ((3, sU (t0.drop v6.toNat)) :: (2, sU (t0.take v1.toNat)) :: (38, sU (t0.drop v6.toNat)) :: (Zpx t0 v1 v6)) trivial ?_)
 refine QOps.nil (AW.trim [3, 2] [(3, sU (t0.drop v6.toNat)), (2, sU (t0.take v1.toNat))] (by kernel_rfl) ?_)
 obtain rfl := X1 H
 refine AW.recast (env' := [(2, sU (t0.take v1.toNat)), (3, sU (t0.drop v6.toNat))]) (h' := []) (StC.pure (.i2 .nil)) (Yl ?_)
 try simp only [Ex.t, Ex.b]
 exact Yh rfl (.tmp (.tmp .nil))
def Y3i (t0 : Int) (loop2 : (Int) → Option Bool) (v1 : Int) : Option Bool :=
 cond (decide (v1 < 10)) (
  (Y5j v1).bind fun x4 =>
  cond (x4 == t0) (
   some true) (
   G (inR (v1 + 1)) <|
   loop2 (v1 + 1))) (
  some false)
def f_R19_IsDigit (t0 : Int) : Option Bool :=
 iter (fun loop (s : Int) => Y3i t0 loop s) 1000000 (0 : Int)
theorem f_R19_IsDigit_ok  {t0 : Int} {r : Bool} (H : f_R19_IsDigit t0 = some r) : QSpec Tryd.prog 81 [.int .u8 t0] (.bool r) := by
 refine Yj Tryd.func81 rfl (by simp [Tryd.ntmps81]) ?_
 rw [Tryd.ntmps81]
 unfold f_R19_IsDigit at H
 change AW _ _ _ [(0, .int .u8 t0)] [] _
 refine Y0 (Y2 1 [0] [(0, .int .u8 t0)] ?_)
 refine Y1 (Yc (Y0 (Y2 1 [3, 0] [(3, .j (0 : Int)), (0, .int .u8 t0)] ?_)))
 refine Y1 (Yd ?_)
 refine Yq (fun loop (s : Int) => Y3i t0 loop s) r (fun (s : Int) => [(0, .int .u8 t0), (3, .j s)]) (fun (s : Int) => []) ?_ 1000000 (0 : Int) H (StC.pure (.i2 .nil))
 intro loop2 v1 H
 unfold Y3i at H
 change AW _ _ _ [(0, .int .u8 t0), (3, .j v1)] [] _
 refine Yc (Y0 (Y2 2 [5, 0, 3] [(5, .bool (decide (v1 < 10))), (0, .int .u8 t0), (3, .j v1)] ?_))
 refine Y1 (Y9 (b := decide (v1 < 10)) H rfl (fun c3 H => ?_) (fun c3 H => ?_))
 ·refine Yb (Yc (Yd (Y0 (Y2 1 [8, 0, 3] [(8, .j v1), (0, .int .u8 t0), (3, .j v1)] ?_))))
  have ⟨x4, hx4, H⟩ := Yt H
  refine Ys rfl (.cons (.pur rfl) .nil) (f_R19_Digit_ok hx4) (Y2 2 [11, 0, 3] [(11, .bool (x4 == t0)), (0, .int .u8 t0), (3, .j v1)] (Y1 (Y9 (b := x4 == t0) H rfl (fun c5 H => ?_) (fun c5 H => ?_))))
  ·refine Y0 (Y2 1 [2] [(2, .bool true)] ?_)
   refine Y1 ?_
   obtain rfl := X1 H
   refine AW.recast (env' := [(2, .bool true)]) (h' := []) (StC.pure (.cons .im .nil)) (Yl ?_)
   try simp only [Ex.t, Ex.b]
   exact Yh rfl (.tmp .nil)
  refine Yb (Ye ?_)
  have ⟨g6, H⟩ := Y6 H
  refine Y8 3 [3, 0] [(3, .j (v1 + 1)), (0, .int .u8 t0)] ⟨g6, trivial⟩ (Y1 ?_)
  exact ⟨v1 + 1, H, (StC.pure (.i2 .nil))⟩
 refine AW.exit ?_
 refine Y0 (Y2 1 [2] [(2, .bool false)] ?_)
 refine Y1 ?_
 obtain rfl := X1 H
 refine AW.recast (env' := [(2, .bool false)]) (h' := []) (StC.pure (.cons .im .nil)) (Yl ?_)
 try simp only [Ex.t, Ex.b]
 exact Yh rfl (.tmp .nil)
def Y4j (loop11 : (Int × Int) → Option (Int × Int × Int)) (v10 : Int) (v13 : Int) : Option (Int × Int × Int) :=
 G (inR (v10 + 1)) <|
 loop11 (v13, v10 + 1)
def f_R19_Read_b1 (t0 : List Int) (loop5 : (Int × Int) → Option (Int × Int × Int)) (v3 : Int) (loop11 : (Int × Int) → Option (Int × Int × Int)) (v9 : Int) (v10 : Int) : Option (Int × Int × Int) :=
 cond (decide (v10 < 10)) (
  (Y5j v10).bind fun x15 =>
  G (0 ≤ v3 ∧ v3 < (t0.length : Int)) <|
  cond (x15 == (t0.getD v3.toNat 0)) (
   G (inR (10 * v9)) <|
   G (inR ((10 * v9) + v10)) <|
   Y4j loop11 v10 ((10 * v9) + v10)) (
   Y4j loop11 v10 v9)) (
  G (inR (v3 + 1)) <|
  loop5 (v3 + 1, v9))
def Y4k (t0 : List Int) (loop5 : (Int × Int) → Option (Int × Int × Int)) (v3 : Int) (v4 : Int) : Option (Int × Int × Int) :=
 G ((decide (v3 < (t0.length : Int))) = true → (0 ≤ v3 ∧ v3 < (t0.length : Int))) <|
 (cond (decide (v3 < (t0.length : Int))) (f_R19_IsDigit (t0.getD v3.toNat 0)) (some false)).bind fun x7 =>
 cond (cond (cond (decide (v3 < (t0.length : Int))) x7 false) (decide (v3 < 7)) false) (
  iter (fun loop (s : Int × Int) => f_R19_Read_b1 t0 loop5 v3 loop s.1 s.2) 1000000 (v4, (0 : Int))) (
  (Y1v v4).bind fun x21 =>
  G ((!(cond (cond (x21.2 != 0) true (v3 == 1)) true (decide (6 < v3)))) = true → (0 ≤ v3 ∧ v3 ≤ (t0.length : Int))) <|
  (cond (!(cond (cond (x21.2 != 0) true (v3 == 1)) true (decide (6 < v3)))) (Y3r x21.1 (t0.take v3.toNat)) (some false)).bind fun x23 =>
  cond (cond (cond (cond (x21.2 != 0) true (v3 == 1)) true (decide (6 < v3))) true (!x23)) (
   some ((0 : Int), (0 : Int), (190 : Int))) (
   some (v4, v3, (0 : Int))))
def Y4l (t0 : List Int) : Option (Int × Int × Int) :=
 G ((!(decide ((t0.length : Int) < 2))) = true → (0 ≤ (0 : Int) ∧ (0 : Int) < (t0.length : Int))) <|
 cond (cond (decide ((t0.length : Int) < 2)) true ((t0.getD (0 : Int).toNat (0 : Int)) != 60)) (
  some ((0 : Int), (0 : Int), (190 : Int))) (
  iter (fun loop (s : Int × Int) => Y4k t0 loop s.1 s.2) 1000000 ((1 : Int), (0 : Int)))
section
variable (t0 : List Int) (v3 : Int) (v4 : Int) (v9 : Int) (v10 : Int) (x15 : Int) (x21 : ((List Int) × Int))
abbrev Zq2 := cond (cond (x21.2 != 0) true (v3 == 1)) true (decide (6 < v3))
abbrev Zq3 := (decide ((t0.length : Int) < 2))
abbrev Zq4 := (decide (v3 < (t0.length : Int)))
abbrev Zq5 := (t0.getD (0 : Int).toNat (0 : Int))
abbrev Zpz : Env := [(35, .bool (decide (v10 < 10))), (0, sU t0), (5, .j v3), (6, .j v9), (7, .j v10)]
abbrev Zq0 : Env := (42, .ipt (t0.flatMap (eI .u8)) (v3.toNat * 1)) :: (41, .j v3) :: (40, sU t0) :: (39, .int .u8 x15) :: (38, .j v10) :: (Zpz t0 v3 v9 v10)
abbrev Zq1 : Env := [(0, sU t0), (5, .j v3), (6, .j v4)]
end
theorem f_R19_Read_ok  {t0 : List Int} {r : Int × Int × Int} (H : Y4l t0 = some r) : QSpec Tryd.prog 76 [slA (eI .u8) t0] (.tup [.int .i64 r.1, .int .i64 r.2.1, .int .i64 r.2.2]) := by
 refine Yj Tryd.func76 rfl (by simp [Tryd.ntmps76]) ?_
 rw [Tryd.ntmps76]
 unfold Y4l at H
 change AW _ _ _ [(0, sU t0)] [] _
 refine Y0 (Y2 3 [0] [(0, sU t0)] ?_)
 refine Y1 (Yc (Y0 ?_))
 have ⟨g1, H⟩ := Y6 H
 refine Y8 6 [15, 13, 0] [(15, .cnd (!(Zq3 t0)) (.ipt (t0.flatMap (eI .u8)) ((0 : Int).toNat * 1))), (13, .bool (Zq3 t0)), (0, sU t0)] ⟨(fun h => h), g1, trivial⟩ (OpsW.asG (c := !(Zq3 t0)) (.int .u8 (Zq5 t0)) rfl rfl rfl rfl (fun hc => T.load rfl hc (by kernel_rfl) (Yn (eI .u8) 1 (fun _ => rfl) t0 (0 : Int) (0 : Int).toNat (ltN (g1 hc)) (fun a => .val (.int .u8 a)) (fun _ => rfl))) (Y8 2 [18, 0] [(18, .bool (cond (Zq3 t0) true ((Zq5 t0) != 60))), (0, sU t0)] ⟨(fun h => h), (fun h => by first | exact h | (simpa using h) | grind), trivial⟩ (Y1 (Y9 (b := cond (Zq3 t0) true ((Zq5 t0) != 60)) H rfl (fun c2 H => ?_) (fun c2 H => ?_)))))
 ·refine Y0 (Y2 3 [4, 3, 2] [(4, .j (190 : Int)), (3, .j (0 : Int)), (2, .j (0 : Int))] ?_)
  refine Y1 ?_
  obtain rfl := X1 H
  refine AW.recast (env' := [(2, .j (0 : Int)), (3, .j (0 : Int)), (4, .j (190 : Int))]) (h' := []) (StC.pure (.i3 .nil)) (Yl ?_)
  try simp only [Ex.t, Ex.b]
  exact Yh rfl (.tmp (.tmp (.tmp .nil)))
 refine Yb (Y0 (Y2 1 [5, 0] [(5, .j (1 : Int)), (0, sU t0)] ?_))
 refine Y1 (Y0 (Y2 1 [6, 5, 0] [(6, .j (0 : Int)), (5, .j (1 : Int)), (0, sU t0)] ?_))
 refine Y1 (Yc (Yd ?_))
 refine Yq (fun loop (s : Int × Int) => Y4k t0 loop s.1 s.2) r (fun (s : Int × Int) => [(0, sU t0), (5, .j s.1), (6, .j s.2)]) (fun (s : Int × Int) => []) ?_ 1000000 ((1 : Int), (0 : Int)) H (StC.pure (.i3 .nil))
 intro loop5 s H
 obtain ⟨v3, v4⟩ := s
 unfold Y4k at H
 change AW _ _ _ (Zq1 t0 v3 v4) [] _
 refine Yc (Y0 ?_)
 have ⟨g6, H⟩ := Y6 H
 refine Y8 8 [26, 23, 0, 5, 6] ((26, .cnd (Zq4 t0 v3) (.ipt (t0.flatMap (eI .u8)) (v3.toNat * 1))) :: (23, .bool (Zq4 t0 v3)) :: (Zq1 t0 v3 v4)) ⟨(fun h => h), (fun h => h), g6, trivial⟩ (OpsW.asG (c := decide (v3 < (t0.length : Int))) (.int .u8 (t0.getD v3.toNat 0)) rfl rfl rfl rfl (fun hc => T.load rfl hc (by kernel_rfl) (Yn (eI .u8) 1 (fun _ => rfl) t0 (0 : Int) v3.toNat (ltN (g6 hc)) (fun a => .val (.int .u8 a)) (fun _ => rfl))) ?_)
 have ⟨x7, hx7, H⟩ := Yt H
 refine OpsW.gcall (c := decide (v3 < (t0.length : Int))) (r := .bool x7) [] rfl (by kernel_rfl) rfl rfl rfl rfl (fun hc => ⟨Yg ⟨hc, trivial⟩, (.cons (.pur rfl) .nil), f_R19_IsDigit_ok (condT hc hx7), .inl ⟨rfl, rfl⟩⟩) (Y8 5 [33, 0, 5, 6] ((33, .bool (cond (cond (Zq4 t0 v3) x7 false) (decide (v3 < 7)) false)) :: (Zq1 t0 v3 v4)) ⟨(fun h => by first | exact h | (simpa using h) | grind), (fun h => h), (fun h => by first | exact h | (simpa using h) | grind), trivial⟩ (Y1 (Y9 (b := cond (cond (Zq4 t0 v3) x7 false) (decide (v3 < 7)) false) H rfl (fun c8 H => ?_) (fun c8 H => ?_))))
 ·refine Yb (Yd (Yc (Y0 (Y2 1 [7, 0, 5, 6] ((7, .j (0 : Int)) :: (Zq1 t0 v3 v4)) ?_))))
  refine Y1 (Yd ?_)
  refine Yq (fun loop (s : Int × Int) => f_R19_Read_b1 t0 loop5 v3 loop s.1 s.2) r (fun (s : Int × Int) => [(0, sU t0), (5, .j v3), (6, .j s.1), (7, .j s.2)]) (fun (s : Int × Int) => []) ?_ 1000000 (v4, (0 : Int)) H (StC.pure (.i4 .nil))
  intro loop11 s H
  obtain ⟨v9, v10⟩ := s
  unfold f_R19_Read_b1 at H
  change AW _ _ _ [(0, sU t0), (5, .j v3), (6, .j v9), (7, .j v10)] [] _
  refine Yc (Y0 (Y2 2 [35, 0, 5, 6, 7] (Zpz t0 v3 v9 v10) ?_))
  refine Y1 (Y9 (b := decide (v10 < 10)) H rfl (fun c12 H => ?_) (fun c12 H => ?_))
  ·refine Yb ?_
   refine Y08 (fun (y : Int) => Y4j loop11 v10 y) r (fun (y : Int) => [(0, sU t0), (5, .j v3), (6, .j y), (7, .j v10)]) (fun (y : Int) => []) ?_ ?_
   ·refine Yd (Y0q Tryd.checked.mixed (by kernel_rfl) ?_)
    refine QOps.sz (N := 76) 1 ((38, .j v10) :: (Zpz t0 v3 v9 v10)) trivial ?_
    have ⟨x15, hx15, H⟩ := Yt H
    refine QOps.qcall rfl (by kernel_rfl) rfl (Yg trivial) (.cons (.pur rfl) .nil) (f_R19_Digit_ok hx15) rfl ?_
    have ⟨g16, H⟩ := Y6 H
    refine QOps.sz (N := 76) 3 (Zq0 t0 v3 v9 v10 x15) ⟨g16, trivial⟩ (QOps.asU (.int .u8 (t0.getD v3.toNat 0)) rfl (T.load rfl trivial (by kernel_rfl) (Yn (eI .u8) 1 (fun _ => rfl) t0 (0 : Int) v3.toNat (ltN g16) (fun a => .val (.int .u8 a)) (fun _ => rfl))) (QOps.sz (N := 76) 1 ((44, .bool (x15 == (t0.getD v3.toNat 0))) :: (43, .int .u8 (t0.getD v3.toNat 0)) :: (Zq0 t0 v3 v9 v10 x15)) trivial ?_))
    refine QOps.nil (AW.trim [44, 0, 5, 6, 7] [(44, .bool (x15 == (t0.getD v3.toNat 0))), (0, sU t0), (5, .j v3), (6, .j v9), (7, .j v10)] (by kernel_rfl) ?_)
    refine Y9 (b := x15 == (t0.getD v3.toNat 0)) H rfl (fun c17 H => ?_) (fun c17 H => ?_)
    ·refine Ye ?_
     have ⟨g18, H⟩ := Y6 H
     have ⟨g19, H⟩ := Y6 H
     refine Y8 5 [6, 0, 5, 7] [(6, .j ((10 * v9) + v10)), (0, sU t0), (5, .j v3), (7, .j v10)] ⟨g18, g19, trivial⟩ (Y1 ?_)
     exact ⟨(10 * v9) + v10, H, (StC.pure (.i4 .nil))⟩
    refine Yb ?_
    exact ⟨v9, H, (StC.pure (.i4 .nil))⟩
   intro v13 H
   unfold Y4j at H
   change AW _ _ _ [(0, sU t0), (5, .j v3), (6, .j v13), (7, .j v10)] [] _
   refine Ye ?_
   have ⟨g14, H⟩ := Y6 H
   refine Y8 3 [7, 0, 5, 6] [(7, .j (v10 + 1)), (0, sU t0), (5, .j v3), (6, .j v13)] ⟨g14, trivial⟩ (Y1 ?_)
   exact ⟨(v13, v10 + 1), H, (StC.pure (.i4 .nil))⟩
  refine AW.exit (Ye ?_)
  have ⟨g20, H⟩ := Y6 H
  refine Y8 3 [5, 0, 6] [(5, .j (v3 + 1)), (0, sU t0), (6, .j v9)] ⟨g20, trivial⟩ (Y1 ?_)
  exact ⟨(v3 + 1, v9), H, (StC.pure (.i3 .nil))⟩
 refine AW.exit ?_
 refine Y0 (Y2 1 [52, 0, 5, 6] ((52, .j v4) :: (Zq1 t0 v3 v4)) ?_)
 have ⟨x21, hx21, H⟩ := Yt H
 refine Ys rfl (.cons (.pur rfl) .nil) (f_R19_Write_ok hx21) (Y2 5 [9, 8, 0, 5, 6] ((9, .j x21.2) :: (8, sU x21.1) :: (Zq1 t0 v3 v4)) ?_)
 refine Y1 (Yc (Y0 (Y8 14 [69, 68, 67, 66, 5, 6] [(69, .cnd (!(Zq2 v3 x21)) (.j v3)), (68, .cnd (!(Zq2 v3 x21)) (sU t0)), (67, .cnd (!(Zq2 v3 x21)) (sU x21.1)), (66, .bool (Zq2 v3 x21)), (5, .j v3), (6, .j v4)] ⟨(fun h => h), (fun h => by first | exact h | (simpa using h) | grind), (fun h => h), (fun h => by first | exact h | (simpa using h) | grind), trivial⟩ ?_)))
 have ⟨g22, H⟩ := Y6 H
 refine OpsW.asG (c := !(Zq2 v3 x21)) (sU (t0.take v3.toNat)) rfl rfl rfl rfl (fun hc => T.slice' rfl hc trivial hc (by kernel_rfl) (by kernel_rfl) (g22 hc) trivial (sl_hi (eI .u8) 1 (fun _ => rfl) t0 v3 (g22 hc))) ?_
 have ⟨x23, hx23, H⟩ := Yt H
 refine OpsW.gcall (c := !(Zq2 v3 x21)) (r := .bool x23) [] rfl (by kernel_rfl) rfl rfl rfl rfl (fun hc => ⟨Yg ⟨hc, hc, trivial⟩, (.cons (.pur rfl) (.cons (.pur rfl) .nil)), f_R01_Same_ok (condT hc hx23), .inl ⟨rfl, rfl⟩⟩) (Y8 2 [73, 5, 6] [(73, .bool (cond (Zq2 v3 x21) true (!x23))), (5, .j v3), (6, .j v4)] ⟨(fun h => h), (fun h => by first | exact h | (simpa using h) | grind), trivial⟩ (Y1 (Y9 (b := cond (Zq2 v3 x21) true (!x23)) H rfl (fun c24 H => ?_) (fun c24 H => ?_))))
 ·refine Y0 (Y2 3 [4, 3, 2] [(4, .j (190 : Int)), (3, .j (0 : Int)), (2, .j (0 : Int))] ?_)
  refine Y1 ?_
  obtain rfl := X1 H
  refine AW.recast (env' := [(2, .j (0 : Int)), (3, .j (0 : Int)), (4, .j (190 : Int))]) (h' := []) (StC.pure (.i3 .nil)) (Yl ?_)
  try simp only [Ex.t, Ex.b]
  exact Yh rfl (.tmp (.tmp (.tmp .nil)))
 refine Yb (Y0 (Y2 5 [4, 3, 2] [(4, .j (0 : Int)), (3, .j v3), (2, .j v4)] ?_))
 refine Y1 ?_
 obtain rfl := X1 H
 refine AW.recast (env' := [(2, .j v4), (3, .j v3), (4, .j (0 : Int))]) (h' := []) (StC.pure (.i3 .nil)) (Yl ?_)
 try simp only [Ex.t, Ex.b]
 exact Yh rfl (.tmp (.tmp (.tmp .nil)))
def Y1f (t0 : List Int) (v11 : Y3) (v12 : Y3) : Option (Y3 × Int) :=
 (Y4b v12).bind fun x13 =>
 (cond (!(x13.2 != 0)) (Y3r x13.1 t0) (some false)).bind fun x14 =>
 cond (cond (x13.2 != 0) true (!x14)) (
  some ((⟨(0 : Int), (⟨(0 : Int), (0 : Int)⟩ : Yu), false, (0 : Int), (0 : Int)⟩ : Y3), (190 : Int))) (
  some (v12, (0 : Int)))
def Y1e (t0 : List Int) (v8 : Y3) (v9 : List Int) (v10 : Y3) : Option (Y3 × Int) :=
 cond (decide ((0 : Int) < (v9.length : Int))) (
  (Y4l v9).bind fun x17 =>
  Y1f t0 v8 (⟨v10.Width, v10.Label, v10.Back, x17.1, v10.Part⟩ : Y3)) (
  Y1f t0 v8 v10)
def Y1d (loop23 : (Y3 × Y3 × Int) → Option (Y3 × Int)) (v22 : Int) (v25 : Y3) (v26 : Y3) : Option (Y3 × Int) :=
 G (inR (v22 + 1)) <|
 loop23 (v25, v26, v22 + 1)
def Y29 (t0 : List Int) (x1 : (List Int) × (List Int)) (loop23 : (Y3 × Y3 × Int) → Option (Y3 × Int)) (v20 : Y3) (v21 : Y3) (v22 : Int) : Option (Y3 × Int) :=
 cond (decide (v22 ≤ 26)) (
  G (0 ≤ (1 : Int) ∧ (1 : Int) < (x1.1.length : Int)) <|
  (Y2n).bind fun x29 =>
  G (inR (v22 - 1)) <|
  G (0 ≤ (v22 - 1) ∧ (v22 - 1) < (x29.length : Int)) <|
  cond ((x1.1.getD (1 : Int).toNat (0 : Int)) == (x29.getD (v22 - 1).toNat (0 : Int))) (
   Y1d loop23 v22 v20 (⟨v21.Width, v21.Label, v21.Back, v21.Ink, v22⟩ : Y3)) (
   Y1d loop23 v22 v20 v21)) (
  G (0 ≤ (2 : Int) ∧ (2 : Int) ≤ (x1.1.length : Int)) <|
  Y1e t0 v20 (x1.1.drop ((2 : Int).toNat)) v21)
def Y1c (t0 : List Int) (x1 : (List Int) × (List Int)) (v6 : Y3) (v7 : Y3) : Option (Y3 × Int) :=
 G ((decide ((2 : Int) < (x1.1.length : Int))) = true → (0 ≤ (0 : Int) ∧ (0 : Int) < (x1.1.length : Int))) <|
 cond (cond (decide ((2 : Int) < (x1.1.length : Int))) ((x1.1.getD (0 : Int).toNat (0 : Int)) == 48) false) (
  iter (fun loop (s : Y3 × Y3 × Int) => Y29 t0 x1 loop s.1 s.2.1 s.2.2) 1000000 (v6, v7, (1 : Int))) (
  Y1e t0 v6 x1.1 v7)
def Y28 (loop38 : (Y3 × Y3 × Int) → Option (Y3 × Int)) (v37 : Int) (v40 : Y3) (v41 : Y3) : Option (Y3 × Int) :=
 G (inR (v37 + 1)) <|
 loop38 (v40, v41, v37 + 1)
def Y0g (t0 : List Int) (x1 : (List Int) × (List Int)) (loop38 : (Y3 × Y3 × Int) → Option (Y3 × Int)) (v35 : Y3) (v36 : Y3) (v37 : Int) : Option (Y3 × Int) :=
 cond (decide (v37 ≤ 2)) (
  G (inR ((x1.2.length : Int) - 1)) <|
  G (0 ≤ ((x1.2.length : Int) - 1) ∧ ((x1.2.length : Int) - 1) < (x1.2.length : Int)) <|
  (Y2n).bind fun x45 =>
  G (inR (v37 - 1)) <|
  G (0 ≤ (v37 - 1) ∧ (v37 - 1) < (x45.length : Int)) <|
  cond ((x1.2.getD ((x1.2.length : Int) - 1).toNat (0 : Int)) == (x45.getD (v37 - 1).toNat (0 : Int))) (
   Y28 loop38 v37 v35 (⟨v36.Width, (⟨v36.Label.N, v37⟩ : Yu), v36.Back, v36.Ink, v36.Part⟩ : Y3)) (
   Y28 loop38 v37 v35 v36)) (
  Y1c t0 x1 v35 v36)
def Y16 (t0 : List Int) : Option (Y3 × Int) :=
 (f_R19_split t0).bind fun x1 =>
 (Y4l x1.2).bind fun x2 =>
 cond (cond (x2.2.2 != 0) true (x2.1 == 0)) (
  some ((⟨(0 : Int), (⟨(0 : Int), (0 : Int)⟩ : Yu), false, (0 : Int), (0 : Int)⟩ : Y3), (190 : Int))) (
  G (inR (x2.1 + 1)) <|
  G (inR (Int.tdiv (x2.1 + 1) (2 : Int))) <|
  cond (decide (x2.2.1 < (x1.2.length : Int))) (
   iter (fun loop (s : Y3 × Y3 × Int) => Y0g t0 x1 loop s.1 s.2.1 s.2.2) 1000000 ((⟨(0 : Int), (⟨(0 : Int), (0 : Int)⟩ : Yu), false, (0 : Int), (0 : Int)⟩ : Y3), (⟨(t0.length : Int), (⟨Int.tdiv (x2.1 + 1) (2 : Int), (0 : Int)⟩ : Yu), (Int.tmod x2.1 (2 : Int)) == 0, (0 : Int), (0 : Int)⟩ : Y3), (1 : Int))) (
   Y1c t0 x1 (⟨(0 : Int), (⟨(0 : Int), (0 : Int)⟩ : Yu), false, (0 : Int), (0 : Int)⟩ : Y3) (⟨(t0.length : Int), (⟨Int.tdiv (x2.1 + 1) (2 : Int), (0 : Int)⟩ : Yu), (Int.tmod x2.1 (2 : Int)) == 0, (0 : Int), (0 : Int)⟩ : Y3)))
section
variable (t0 : List Int) (v8 : Y3) (v10 : Y3) (v11 : Y3) (v12 : Y3) (v20 : Y3) (v21 : Y3) (v22 : Int) (v35 : Y3) (v36 : Y3) (v37 : Int) (x1 : (List Int) × (List Int)) (x2 : (Int × Int × Int)) (x17 : (Int × Int × Int)) (x29 : (List Int)) (x45 : (List Int))
abbrev Zqp : List AV := [.j (0 : Int), .j (0 : Int), .j (0 : Int), .bool false, .j (0 : Int), .j (0 : Int)]
abbrev Zqq : List AV := [.j v12.Width, .j v12.Label.N, .j v12.Label.K, .bool v12.Back, .j v12.Ink, .j v12.Part]
abbrev Zqr : Nat × AV := (2, .ref 2 0 0)
abbrev Zqs := (x1.2.getD ((x1.2.length : Int) - 1).toNat (0 : Int))
abbrev Zqt : List AV := [.j (t0.length : Int), .j (0 : Int), .j (0 : Int), .bool false, .j (0 : Int), .j (0 : Int)]
abbrev Zqu := (⟨(t0.length : Int), (⟨Int.tdiv (x2.1 + 1) (2 : Int), (0 : Int)⟩ : Yu), (Int.tmod x2.1 (2 : Int)) == 0, (0 : Int), (0 : Int)⟩ : Y3)
abbrev Zqv : List AV := [.j (t0.length : Int), .j (Int.tdiv (x2.1 + 1) (2 : Int)), .j (0 : Int), .bool ((Int.tmod x2.1 (2 : Int)) == 0), .j (0 : Int), .j (0 : Int)]
abbrev Zqw := (x1.1.getD (1 : Int).toNat (0 : Int))
abbrev Zqx : Nat × AV := (6, .ref 6 0 0)
abbrev Zqy := (decide ((2 : Int) < (x1.1.length : Int)))
abbrev Zqz : List AV := [.j (t0.length : Int), .j (Int.tdiv (x2.1 + 1) (2 : Int)), .j (0 : Int), .bool false, .j (0 : Int), .j (0 : Int)]
abbrev Zr0 := (⟨(0 : Int), (⟨(0 : Int), (0 : Int)⟩ : Yu), false, (0 : Int), (0 : Int)⟩ : Y3)
abbrev Zr1 := (x45.getD (v37 - 1).toNat (0 : Int))
abbrev Zr2 := (x29.getD (v22 - 1).toNat (0 : Int))
abbrev Zr3 : List AV := [.j v35.Width, .j v35.Label.N, .j v35.Label.K, .bool v35.Back, .j v35.Ink, .j v35.Part]
abbrev Zr4 : List AV := [.j v20.Width, .j v20.Label.N, .j v20.Label.K, .bool v20.Back, .j v20.Ink, .j v20.Part]
abbrev Zr5 : List AV := [.j v8.Width, .j v8.Label.N, .j v8.Label.K, .bool v8.Back, .j v8.Ink, .j v8.Part]
abbrev Zr6 := (x1.1.getD (0 : Int).toNat (0 : Int))
abbrev Zr7 : List AV := [.j v10.Width, .j v10.Label.N, .j v10.Label.K, .bool v10.Back, .j x17.1, .j v10.Part]
abbrev Zr8 : List AV := [.j v21.Width, .j v21.Label.N, .j v21.Label.K, .bool v21.Back, .j v21.Ink, .j v22]
abbrev Zq6 : Env := [Zqx, (5, sU x1.2), (4, sU x1.1), Zqr, (0, sU t0)]
abbrev Zq7 : Env := [(0, sU t0), Zqr, (4, sU x1.1), (5, sU x1.2), Zqx, (10, .j v37)]
abbrev Zq8 : Env := [(0, sU t0), Zqr, (4, sU x1.1), Zqx, (11, .j v22)]
abbrev Zq9 : Hp := [(2, ⟨0, true, 86, 6, Zqp⟩)]
abbrev Zqa : Hp := [(2, ⟨0, true, 86, 6, Zqp⟩), (6, ⟨0, true, 86, 6, (Zqt t0)⟩)]
abbrev Zqb : Hp := [(2, ⟨0, true, 86, 6, [.j v11.Width, .j v11.Label.N, .j v11.Label.K, .bool v11.Back, .j v11.Ink, .j v11.Part]⟩), (6, ⟨0, true, 86, 6, (Zqq v12)⟩)]
abbrev Zqc : Env := (56, .ipt (x1.2.flatMap (eI .u8)) (((x1.2.length : Int) - 1).toNat * 1)) :: (55, .j ((x1.2.length : Int) - 1)) :: (54, .j (x1.2.length : Int)) :: (53, sU x1.2) :: (52, sU x1.2) :: (49, .bool (decide (v37 ≤ 2))) :: (Zq7 t0 v37 x1)
abbrev Zqd : Env := [(0, sU t0), Zqr, Zqx]
abbrev Zqe : Env := [(0, sU t0), Zqr, (4, sU x1.1), Zqx]
abbrev Zqf : Env := (86, .ipt (x29.flatMap (eI .u8)) ((v22 - 1).toNat * 1)) :: (85, .j (v22 - 1)) :: (84, .j v22) :: (83, sU x29) :: (82, .int .u8 (Zqw x1)) :: (81, .ipt (x1.1.flatMap (eI .u8)) ((1 : Int).toNat * 1)) :: (80, sU x1.1) :: (77, .bool (decide (v22 ≤ 26))) :: (Zq8 t0 v22 x1)
abbrev Zqg : Hp := [(2, ⟨0, true, 86, 6, Zqp⟩), (6, ⟨0, true, 86, 6, (Zqz t0 x2)⟩)]
abbrev Zqh : Hp := [(2, ⟨0, true, 86, 6, (Zr3 v35)⟩), (6, ⟨0, true, 86, 6, [.j v36.Width, .j v36.Label.N, .j v36.Label.K, .bool v36.Back, .j v36.Ink, .j v36.Part]⟩)]
abbrev Zqi : Hp := [(2, ⟨0, true, 86, 6, (Zr4 v20)⟩), (6, ⟨0, true, 86, 6, [.j v21.Width, .j v21.Label.N, .j v21.Label.K, .bool v21.Back, .j v21.Ink, .j v21.Part]⟩)]
abbrev Zqj : Hp := [(2, ⟨0, true, 86, 6, (Zr5 v8)⟩), (6, ⟨0, true, 86, 6, [.j v10.Width, .j v10.Label.N, .j v10.Label.K, .bool v10.Back, .j v10.Ink, .j v10.Part]⟩)]
abbrev Zqk : Env := (61, .ipt (x45.flatMap (eI .u8)) ((v37 - 1).toNat * 1)) :: (60, .j (v37 - 1)) :: (59, .j v37) :: (58, sU x45) :: (57, .int .u8 (Zqs x1)) :: (Zqc t0 v37 x1)
abbrev Zql : Hp := [(2, ⟨0, true, 86, 6, (Zqq v12)⟩)]
abbrev Zqm : Env := [(3, .j (190 : Int)), Zqr]
abbrev Zqn : Env := (8, .j x2.2.1) :: (7, .j x2.1) :: (Zq6 t0 x1)
abbrev Zqo : Env := [Zqr, (0, sU t0)]
end
theorem f_R19_ReadHeader_ok  {t0 : List Int} {r : Y3 × Int} (H : Y16 t0 = some r) : QSpec Tryd.prog 64 [slA (eI .u8) t0] (.tup [.agg [.int .i64 r.1.Width, .int .i64 r.1.Label.N, .int .i64 r.1.Label.K, .bool r.1.Back, .int .i64 r.1.Ink, .int .i64 r.1.Part], .int .i64 r.2]) := by
 refine Yj Tryd.func64 rfl (by simp [Tryd.ntmps64]) ?_
 rw [Tryd.ntmps64]
 unfold Y16 at H
 change AW _ _ _ [(0, sU t0)] [] _
 refine Y0 (Yo rfl rfl rfl 2 rfl (by kernel_rfl : zc Tryd.prog 86 = some [.j 0, .j 0, .j 0, .bool false, .j 0, .j 0]) (by kernel_rfl) ?_)
 refine Y2 1 [2, 0] (Zqo t0) (Ya (Zqo t0) Zq9 (StC.mk (phi [(2, some 2)]) (.o rfl (.i6 .nil) .nil) rfl (.cons (.r rfl) (.cons .im .nil))) ?_)
 refine Y1 (Y0 (Y2 1 [15, 2, 0] ((15, sU t0) :: (Zqo t0)) ?_))
 have ⟨x1, hx1, H⟩ := Yt H
 refine Ys rfl (.cons (.pur rfl) .nil) (f_R19_split_ok hx1) (Y2 5 [5, 4, 2, 0] ((5, sU x1.2) :: (4, sU x1.1) :: (Zqo t0)) ?_)
 refine Y1 (Y0 (Y2 3 [21, 5, 4, 2, 0] ((21, .agg (Zqt t0)) :: (5, sU x1.2) :: (4, sU x1.1) :: (Zqo t0)) ?_))
 refine Yo rfl rfl rfl 6 rfl (by kernel_rfl : zc Tryd.prog 86 = some [.j 0, .j 0, .j 0, .bool false, .j 0, .j 0]) (by kernel_rfl) (OpsW.store rfl rfl rfl rfl trivial trivial rfl rfl rfl (by kernel_rfl) (Y5 (by kernel_rfl)) (X0 (by kernel_rfl)) ?_)
 change OpsW _ _ _ _ _ ((6, ⟨0, true, 86, 6, (Zqt t0)⟩) :: (6, ⟨0, true, 86, 6, Zqp⟩) :: Zq9) _
 refine Y2 0 [6, 5, 4, 2, 0] (Zq6 t0 x1) (Ya (Zq6 t0 x1) (Zqa t0) (StC.mk (phi [(2, some 2), (6, some 6)]) (.o rfl (.i6 .nil) (.o rfl (.i6 .nil) .nil)) rfl (.cons (.r rfl) (.i2 (.cons (.r rfl) (.cons .im .nil))))) ?_)
 refine Y1 (Y0 (Y2 1 [23, 6, 5, 4, 2, 0] ((23, sU x1.2) :: (Zq6 t0 x1)) ?_))
 have ⟨x2, hx2, H⟩ := Yt H
 refine Ys rfl (.cons (.pur rfl) .nil) (f_R19_Read_ok hx2) (Y2 7 [9, 8, 7, 6, 5, 4, 2, 0] ((9, .j x2.2.2) :: (Zqn t0 x1 x2)) ?_)
 refine Y1 (Yc (Y0 (Y8 6 [33, 8, 7, 6, 5, 4, 2, 0] ((33, .bool (cond (x2.2.2 != 0) true (x2.1 == 0))) :: (Zqn t0 x1 x2)) ⟨(fun h => h), (fun h => by first | exact h | (simpa using h) | grind), trivial⟩ ?_)))
 refine Y1 (Y9 (b := cond (x2.2.2 != 0) true (x2.1 == 0)) H rfl (fun c3 H => ?_) (fun c3 H => ?_))
 ·refine Y0 (Y2 1 [34, 2] [(34, .agg Zqp), Zqr] ?_)
  refine OpsW.store rfl rfl rfl rfl trivial trivial rfl rfl rfl (by kernel_rfl) (Y5 (by kernel_rfl)) (X0 (by kernel_rfl)) ?_
  change OpsW _ _ _ _ _ ((2, ⟨0, true, 86, 6, Zqp⟩) :: (Zqa t0)) _
  refine Y2 1 [3, 2] Zqm (Ya Zqm Zq9 (StC.mk (phi [(2, some 2)]) (.o rfl (.i6 .nil) .nil) rfl (.cons .im (.cons (.r rfl) .nil))) (Y1 ?_))
  obtain rfl := X1 H
  refine AW.recast (env' := [Zqr, (3, .j (190 : Int))]) (h' := Zq9) (StC.mk (phi [(2, some 2)]) (.o rfl (.i6 .nil) .nil) rfl (.cons (.r rfl) (.cons .im .nil))) (Yl ?_)
  try simp only [Ex.t, Ex.b]
  exact Yh rfl (.cell rfl (by kernel_rfl) (.tmp .nil))
 refine Yb (Y0 ?_)
 have ⟨g4, H⟩ := Y6 H
 have ⟨g5, H⟩ := Y6 H
 refine Y8 5 [39, 37, 8, 7, 6, 5, 4, 2, 0] ((39, .ref 6 0 1) :: (37, .j (Int.tdiv (x2.1 + 1) (2 : Int))) :: (Zqn t0 x1 x2)) ⟨g4, (by decide), g5, trivial⟩ (OpsW.store rfl rfl rfl rfl trivial trivial rfl rfl rfl (by kernel_rfl) (Y5 (by kernel_rfl)) (X0 (by kernel_rfl)) ?_)
 change OpsW _ _ _ _ _ ((6, ⟨0, true, 86, 6, (Zqz t0 x2)⟩) :: (Zqa t0)) _
 refine Y2 0 [8, 7, 6, 5, 4, 2, 0] (Zqn t0 x1 x2) (Ya (Zqn t0 x1 x2) (Zqg t0 x2) (StC.mk (phi [(2, some 2), (6, some 6)]) (.o rfl (.i6 .nil) (.o rfl (.i6 .nil) .nil)) rfl (.i2 (.cons (.r rfl) (.i2 (.cons (.r rfl) (.cons .im .nil)))))) ?_)
 refine Y1 (Y0 (Y8 4 [43, 42, 8, 6, 5, 4, 2, 0] ((43, .ref 6 0 3) :: (42, .bool ((Int.tmod x2.1 (2 : Int)) == 0)) :: (8, .j x2.2.1) :: (Zq6 t0 x1)) ⟨(by decide), trivial⟩ ?_))
 refine OpsW.store rfl rfl rfl rfl trivial trivial rfl rfl rfl (by kernel_rfl) (Y5 (by kernel_rfl)) (X0 (by kernel_rfl)) ?_
 change OpsW _ _ _ _ _ ((6, ⟨0, true, 86, 6, (Zqv t0 x2)⟩) :: (Zqg t0 x2)) _
 refine Y2 0 [8, 6, 5, 4, 2, 0] ((8, .j x2.2.1) :: (Zq6 t0 x1)) (Ya ((8, .j x2.2.1) :: (Zq6 t0 x1)) [(2, ⟨0, true, 86, 6, Zqp⟩), (6, ⟨0, true, 86, 6, (Zqv t0 x2)⟩)] (StC.mk (phi [(2, some 2), (6, some 6)]) (.o rfl (.i6 .nil) (.o rfl (.i6 .nil) .nil)) rfl (.cons .im (.cons (.r rfl) (.i2 (.cons (.r rfl) (.cons .im .nil)))))) (Y1 ?_))
 refine Y08 (fun (y : Y3 × Y3) => Y1c t0 x1 y.1 y.2) r (fun (y : Y3 × Y3) => (Zqe t0 x1)) (fun (y : Y3 × Y3) => [(2, ⟨0, true, 86, 6, [.j y.1.Width, .j y.1.Label.N, .j y.1.Label.K, .bool y.1.Back, .j y.1.Ink, .j y.1.Part]⟩), (6, ⟨0, true, 86, 6, [.j y.2.Width, .j y.2.Label.N, .j y.2.Label.K, .bool y.2.Back, .j y.2.Ink, .j y.2.Part]⟩)]) ?_ ?_
 ·refine Y0 (Y2 4 [47, 6, 5, 4, 2, 0] ((47, .bool (decide (x2.2.1 < (x1.2.length : Int)))) :: (Zq6 t0 x1)) ?_)
  refine Y1 (Y9 (b := decide (x2.2.1 < (x1.2.length : Int))) H rfl (fun c34 H => ?_) (fun c34 H => ?_))
  ·refine Y0 (Y2 1 [10, 6, 5, 4, 2, 0] ((10, .j (1 : Int)) :: (Zq6 t0 x1)) ?_)
   refine Y1 (Yd ?_)
   refine Yq (fun loop (s : Y3 × Y3 × Int) => Y0g t0 x1 loop s.1 s.2.1 s.2.2) r (fun (s : Y3 × Y3 × Int) => [(0, sU t0), Zqr, (4, sU x1.1), (5, sU x1.2), Zqx, (10, .j s.2.2)]) (fun (s : Y3 × Y3 × Int) => [(2, ⟨0, true, 86, 6, [.j s.1.Width, .j s.1.Label.N, .j s.1.Label.K, .bool s.1.Back, .j s.1.Ink, .j s.1.Part]⟩), (6, ⟨0, true, 86, 6, [.j s.2.1.Width, .j s.2.1.Label.N, .j s.2.1.Label.K, .bool s.2.1.Back, .j s.2.1.Ink, .j s.2.1.Part]⟩)]) ?_ 1000000 (Zr0, (Zqu t0 x2), (1 : Int)) H (StC.mk (phi [(2, some 2), (6, some 6)]) (.o rfl (.i6 .nil) (.o rfl (.i6 .nil) .nil)) rfl (.cons .im (.cons (.r rfl) (.i2 (.cons (.r rfl) (.cons .im .nil))))))
   intro loop38 s H
   obtain ⟨v35, v36, v37⟩ := s
   unfold Y0g at H
   change AW _ _ _ (Zq7 t0 v37 x1) (Zqh v35 v36) _
   refine Yc (Y0 (Y2 2 [49, 0, 2, 4, 5, 6, 10] ((49, .bool (decide (v37 ≤ 2))) :: (Zq7 t0 v37 x1)) ?_))
   refine Y1 (Y9 (b := decide (v37 ≤ 2)) H rfl (fun c39 H => ?_) (fun c39 H => ?_))
   ·refine Yb ?_
    refine Y08 (fun (y : Y3 × Y3) => Y28 loop38 v37 y.1 y.2) r (fun (y : Y3 × Y3) => (Zq7 t0 v37 x1)) (fun (y : Y3 × Y3) => [(2, ⟨0, true, 86, 6, [.j y.1.Width, .j y.1.Label.N, .j y.1.Label.K, .bool y.1.Back, .j y.1.Ink, .j y.1.Part]⟩), (6, ⟨0, true, 86, 6, [.j y.2.Width, .j y.2.Label.N, .j y.2.Label.K, .bool y.2.Back, .j y.2.Ink, .j y.2.Part]⟩)]) ?_ ?_
    ·refine Yd (Y0q Tryd.checked.mixed (by kernel_rfl) ?_)
     have ⟨g43, H⟩ := Y6 H
     have ⟨g44, H⟩ := Y6 H
     refine QOps.sz (N := 118) 5 (Zqc t0 v37 x1) ⟨g43, g44, trivial⟩ (QOps.asU (.int .u8 (Zqs x1)) rfl (T.load rfl trivial (by kernel_rfl) (Yn (eI .u8) 1 (fun _ => rfl) x1.2 (0 : Int) ((x1.2.length : Int) - 1).toNat (ltN g44) (fun a => .val (.int .u8 a)) (fun _ => rfl))) ?_)
     have ⟨x45, hx45, H⟩ := Yt H
     refine QOps.qcall rfl (by kernel_rfl) rfl (Yg trivial) .nil (Y3h hx45) rfl ?_
     have ⟨g46, H⟩ := Y6 H
     have ⟨g47, H⟩ := Y6 H
     refine QOps.sz (N := 118) 3 (Zqk t0 v37 x1 x45) ⟨g46, g47, trivial⟩ (QOps.asU (.int .u8 (Zr1 v37 x45)) rfl (T.load rfl trivial (by kernel_rfl) (Yn (eI .u8) 1 (fun _ => rfl) x45 (0 : Int) (v37 - 1).toNat (ltN g47) (fun a => .val (.int .u8 a)) (fun _ => rfl))) (QOps.sz (N := 118) 1 ((63, .bool ((Zqs x1) == (Zr1 v37 x45))) :: (62, .int .u8 (Zr1 v37 x45)) :: (Zqk t0 v37 x1 x45)) trivial ?_))
     refine QOps.nil (AW.trim [63, 0, 2, 4, 5, 6, 10] ((63, .bool ((Zqs x1) == (Zr1 v37 x45))) :: (Zq7 t0 v37 x1)) (by kernel_rfl) ?_)
     refine Y9 (b := (Zqs x1) == (Zr1 v37 x45)) H rfl (fun c48 H => ?_) (fun c48 H => ?_)
     ·refine Ye (Y2 3 [66, 64, 0, 2, 4, 5, 6, 10] ((66, .ref 6 0 2) :: (64, .j v37) :: (Zq7 t0 v37 x1)) ?_)
      refine OpsW.store rfl rfl rfl rfl trivial trivial rfl rfl rfl (by kernel_rfl) (Y5 (by kernel_rfl)) (X0 (by kernel_rfl)) ?_
      change OpsW _ _ _ _ _ ((6, ⟨0, true, 86, 6, [.j v36.Width, .j v36.Label.N, .j v37, .bool v36.Back, .j v36.Ink, .j v36.Part]⟩) :: (Zqh v35 v36)) _
      refine Y2 0 [0, 2, 4, 5, 6, 10] (Zq7 t0 v37 x1) (Ya (Zq7 t0 v37 x1) [(2, ⟨0, true, 86, 6, (Zr3 v35)⟩), (6, ⟨0, true, 86, 6, [.j v36.Width, .j v36.Label.N, .j v37, .bool v36.Back, .j v36.Ink, .j v36.Part]⟩)] (StC.mk (phi [(2, some 2), (6, some 6)]) (.o rfl (.i6 .nil) (.o rfl (.i6 .nil) .nil)) rfl (.cons .im (.cons (.r rfl) (.i2 (.cons (.r rfl) (.cons .im .nil)))))) (Y1 ?_))
      exact ⟨(v35, (⟨v36.Width, (⟨v36.Label.N, v37⟩ : Yu), v36.Back, v36.Ink, v36.Part⟩ : Y3)), H, (StC.mk (phi [(2, some 2), (6, some 6)]) (.o rfl (.i6 .nil) (.o rfl (.i6 .nil) .nil)) rfl (.cons .im (.cons (.r rfl) (.i2 (.cons (.r rfl) (.cons .im .nil))))))⟩
     refine Yb ?_
     exact ⟨(v35, v36), H, (StC.mk (phi [(2, some 2), (6, some 6)]) (.o rfl (.i6 .nil) (.o rfl (.i6 .nil) .nil)) rfl (.cons .im (.cons (.r rfl) (.i2 (.cons (.r rfl) (.cons .im .nil))))))⟩
    rintro ⟨v40, v41⟩ H
    unfold Y28 at H
    change AW _ _ _ (Zq7 t0 v37 x1) [(2, ⟨0, true, 86, 6, [.j v40.Width, .j v40.Label.N, .j v40.Label.K, .bool v40.Back, .j v40.Ink, .j v40.Part]⟩), (6, ⟨0, true, 86, 6, [.j v41.Width, .j v41.Label.N, .j v41.Label.K, .bool v41.Back, .j v41.Ink, .j v41.Part]⟩)] _
    refine Ye ?_
    have ⟨g42, H⟩ := Y6 H
    refine Y8 3 [10, 0, 2, 4, 5, 6] [(10, .j (v37 + 1)), (0, sU t0), Zqr, (4, sU x1.1), (5, sU x1.2), Zqx] ⟨g42, trivial⟩ (Y1 ?_)
    exact ⟨(v40, v41, v37 + 1), H, (StC.mk (phi [(2, some 2), (6, some 6)]) (.o rfl (.i6 .nil) (.o rfl (.i6 .nil) .nil)) rfl (.cons .im (.cons (.r rfl) (.i2 (.cons (.r rfl) (.cons .im .nil))))))⟩
   refine AW.exit ?_
   exact ⟨(v35, v36), H, (StC.mk (phi [(2, some 2), (6, some 6)]) (.o rfl (.i6 .nil) (.o rfl (.i6 .nil) .nil)) rfl (.cons .im (.cons (.r rfl) (.cons .im (.cons (.r rfl) .nil)))))⟩
  refine Yb ?_
  exact ⟨(Zr0, (Zqu t0 x2)), H, (StC.mk (phi [(2, some 2), (6, some 6)]) (.o rfl (.i6 .nil) (.o rfl (.i6 .nil) .nil)) rfl (.cons .im (.cons (.r rfl) (.cons .im (.cons (.r rfl) .nil)))))⟩
 rintro ⟨v6, v7⟩ H
 unfold Y1c at H
 change AW _ _ _ (Zqe t0 x1) [(2, ⟨0, true, 86, 6, [.j v6.Width, .j v6.Label.N, .j v6.Label.K, .bool v6.Back, .j v6.Ink, .j v6.Part]⟩), (6, ⟨0, true, 86, 6, [.j v7.Width, .j v7.Label.N, .j v7.Label.K, .bool v7.Back, .j v7.Ink, .j v7.Part]⟩)] _
 refine Y08 (fun (y : Y3 × (List Int) × Y3) => Y1e t0 y.1 y.2.1 y.2.2) r (fun (y : Y3 × (List Int) × Y3) => [(0, sU t0), Zqr, (4, sU y.2.1), Zqx]) (fun (y : Y3 × (List Int) × Y3) => [(2, ⟨0, true, 86, 6, [.j y.1.Width, .j y.1.Label.N, .j y.1.Label.K, .bool y.1.Back, .j y.1.Ink, .j y.1.Part]⟩), (6, ⟨0, true, 86, 6, [.j y.2.2.Width, .j y.2.2.Label.N, .j y.2.2.Label.K, .bool y.2.2.Back, .j y.2.2.Ink, .j y.2.2.Part]⟩)]) ?_ ?_
 ·refine Y0 ?_
  have ⟨g18, H⟩ := Y6 H
  refine Y8 6 [72, 70, 0, 2, 4, 6] ((72, .cnd (Zqy x1) (.ipt (x1.1.flatMap (eI .u8)) ((0 : Int).toNat * 1))) :: (70, .bool (Zqy x1)) :: (Zqe t0 x1)) ⟨(fun h => h), g18, trivial⟩ (OpsW.asG (c := decide ((2 : Int) < (x1.1.length : Int))) (.int .u8 (Zr6 x1)) rfl rfl rfl rfl (fun hc => T.load rfl hc (by kernel_rfl) (Yn (eI .u8) 1 (fun _ => rfl) x1.1 (0 : Int) (0 : Int).toNat (ltN (g18 hc)) (fun a => .val (.int .u8 a)) (fun _ => rfl))) (Y8 2 [75, 0, 2, 4, 6] ((75, .bool (cond (Zqy x1) ((Zr6 x1) == 48) false)) :: (Zqe t0 x1)) ⟨(fun h => h), (fun h => by first | exact h | (simpa using h) | grind), trivial⟩ (Y1 (Y9 (b := cond (Zqy x1) ((Zr6 x1) == 48) false) H rfl (fun c19 H => ?_) (fun c19 H => ?_)))))
  ·refine Yc (Y0 (Y2 1 [11, 0, 2, 4, 6] ((11, .j (1 : Int)) :: (Zqe t0 x1)) ?_))
   refine Y1 (Yd ?_)
   refine Yq (fun loop (s : Y3 × Y3 × Int) => Y29 t0 x1 loop s.1 s.2.1 s.2.2) r (fun (s : Y3 × Y3 × Int) => [(0, sU t0), Zqr, (4, sU x1.1), Zqx, (11, .j s.2.2)]) (fun (s : Y3 × Y3 × Int) => [(2, ⟨0, true, 86, 6, [.j s.1.Width, .j s.1.Label.N, .j s.1.Label.K, .bool s.1.Back, .j s.1.Ink, .j s.1.Part]⟩), (6, ⟨0, true, 86, 6, [.j s.2.1.Width, .j s.2.1.Label.N, .j s.2.1.Label.K, .bool s.2.1.Back, .j s.2.1.Ink, .j s.2.1.Part]⟩)]) ?_ 1000000 (v6, v7, (1 : Int)) H (StC.mk (phi [(2, some 2), (6, some 6)]) (.o rfl (.i6 .nil) (.o rfl (.i6 .nil) .nil)) rfl (.cons .im (.cons (.r rfl) (.cons .im (.cons (.r rfl) (.cons .im .nil))))))
   intro loop23 s H
   obtain ⟨v20, v21, v22⟩ := s
   unfold Y29 at H
   change AW _ _ _ (Zq8 t0 v22 x1) (Zqi v20 v21) _
   refine Yc (Y0 (Y2 2 [77, 0, 2, 4, 6, 11] ((77, .bool (decide (v22 ≤ 26))) :: (Zq8 t0 v22 x1)) ?_))
   refine Y1 (Y9 (b := decide (v22 ≤ 26)) H rfl (fun c24 H => ?_) (fun c24 H => ?_))
   ·refine Yb ?_
    refine Y08 (fun (y : Y3 × Y3) => Y1d loop23 v22 y.1 y.2) r (fun (y : Y3 × Y3) => (Zq8 t0 v22 x1)) (fun (y : Y3 × Y3) => [(2, ⟨0, true, 86, 6, [.j y.1.Width, .j y.1.Label.N, .j y.1.Label.K, .bool y.1.Back, .j y.1.Ink, .j y.1.Part]⟩), (6, ⟨0, true, 86, 6, [.j y.2.Width, .j y.2.Label.N, .j y.2.Label.K, .bool y.2.Back, .j y.2.Ink, .j y.2.Part]⟩)]) ?_ ?_
    ·refine Yd (Y0q Tryd.checked.mixed (by kernel_rfl) ?_)
     have ⟨g28, H⟩ := Y6 H
     refine QOps.sz (N := 118) 2 ((81, .ipt (x1.1.flatMap (eI .u8)) ((1 : Int).toNat * 1)) :: (80, sU x1.1) :: (77, .bool (decide (v22 ≤ 26))) :: (Zq8 t0 v22 x1)) ⟨g28, trivial⟩ (QOps.asU (.int .u8 (Zqw x1)) rfl (T.load rfl trivial (by kernel_rfl) (Yn (eI .u8) 1 (fun _ => rfl) x1.1 (0 : Int) (1 : Int).toNat (ltN g28) (fun a => .val (.int .u8 a)) (fun _ => rfl))) ?_)
     have ⟨x29, hx29, H⟩ := Yt H
     refine QOps.qcall rfl (by kernel_rfl) rfl (Yg trivial) .nil (Y3h hx29) rfl ?_
     have ⟨g30, H⟩ := Y6 H
     have ⟨g31, H⟩ := Y6 H
     refine QOps.sz (N := 118) 3 (Zqf t0 v22 x1 x29) ⟨g30, g31, trivial⟩ (QOps.asU (.int .u8 (Zr2 v22 x29)) rfl (T.load rfl trivial (by kernel_rfl) (Yn (eI .u8) 1 (fun _ => rfl) x29 (0 : Int) (v22 - 1).toNat (ltN g31) (fun a => .val (.int .u8 a)) (fun _ => rfl))) (QOps.sz (N := 118) 1 ((88, .bool ((Zqw x1) == (Zr2 v22 x29))) :: (87, .int .u8 (Zr2 v22 x29)) :: (Zqf t0 v22 x1 x29)) trivial ?_))
     refine QOps.nil (AW.trim [88, 0, 2, 4, 6, 11] ((88, .bool ((Zqw x1) == (Zr2 v22 x29))) :: (Zq8 t0 v22 x1)) (by kernel_rfl) ?_)
     refine Y9 (b := (Zqw x1) == (Zr2 v22 x29)) H rfl (fun c32 H => ?_) (fun c32 H => ?_)
     ·refine Ye (Y2 2 [90, 89, 0, 2, 4, 6, 11] ((90, .ref 6 0 5) :: (89, .j v22) :: (Zq8 t0 v22 x1)) ?_)
      refine OpsW.store rfl rfl rfl rfl trivial trivial rfl rfl rfl (by kernel_rfl) (Y5 (by kernel_rfl)) (X0 (by kernel_rfl)) ?_
      change OpsW _ _ _ _ _ ((6, ⟨0, true, 86, 6, (Zr8 v21 v22)⟩) :: (Zqi v20 v21)) _
      refine Y2 0 [0, 2, 4, 6, 11] (Zq8 t0 v22 x1) (Ya (Zq8 t0 v22 x1) [(2, ⟨0, true, 86, 6, (Zr4 v20)⟩), (6, ⟨0, true, 86, 6, (Zr8 v21 v22)⟩)] (StC.mk (phi [(2, some 2), (6, some 6)]) (.o rfl (.i6 .nil) (.o rfl (.i6 .nil) .nil)) rfl (.cons .im (.cons (.r rfl) (.cons .im (.cons (.r rfl) (.cons .im .nil)))))) (Y1 ?_))
      exact ⟨(v20, (⟨v21.Width, v21.Label, v21.Back, v21.Ink, v22⟩ : Y3)), H, (StC.mk (phi [(2, some 2), (6, some 6)]) (.o rfl (.i6 .nil) (.o rfl (.i6 .nil) .nil)) rfl (.cons .im (.cons (.r rfl) (.cons .im (.cons (.r rfl) (.cons .im .nil))))))⟩
     refine Yb ?_
     exact ⟨(v20, v21), H, (StC.mk (phi [(2, some 2), (6, some 6)]) (.o rfl (.i6 .nil) (.o rfl (.i6 .nil) .nil)) rfl (.cons .im (.cons (.r rfl) (.cons .im (.cons (.r rfl) (.cons .im .nil))))))⟩
    rintro ⟨v25, v26⟩ H
    unfold Y1d at H
    change AW _ _ _ (Zq8 t0 v22 x1) [(2, ⟨0, true, 86, 6, [.j v25.Width, .j v25.Label.N, .j v25.Label.K, .bool v25.Back, .j v25.Ink, .j v25.Part]⟩), (6, ⟨0, true, 86, 6, [.j v26.Width, .j v26.Label.N, .j v26.Label.K, .bool v26.Back, .j v26.Ink, .j v26.Part]⟩)] _
    refine Ye ?_
    have ⟨g27, H⟩ := Y6 H
    refine Y8 3 [11, 0, 2, 4, 6] ((11, .j (v22 + 1)) :: (Zqe t0 x1)) ⟨g27, trivial⟩ (Y1 ?_)
    exact ⟨(v25, v26, v22 + 1), H, (StC.mk (phi [(2, some 2), (6, some 6)]) (.o rfl (.i6 .nil) (.o rfl (.i6 .nil) .nil)) rfl (.cons .im (.cons (.r rfl) (.cons .im (.cons (.r rfl) (.cons .im .nil))))))⟩
   refine AW.exit ?_
   refine Ye (Y2 1 [91, 0, 2, 4, 6] ((91, sU x1.1) :: (Zqe t0 x1)) ?_)
   have ⟨g33, H⟩ := Y6 H
   refine OpsW.asU (sU (x1.1.drop ((2 : Int).toNat))) rfl rfl (T.slice' rfl trivial trivial trivial (by kernel_rfl) (by kernel_rfl) trivial g33 (sl_lo (eI .u8) 1 (fun _ => rfl) x1.1 (2 : Int) g33)) (Y2 1 [4, 0, 2, 6] ((4, sU (x1.1.drop ((2 : Int).toNat))) :: (Zqd t0)) (Y1 ?_))
   exact ⟨(v20, x1.1.drop ((2 : Int).toNat), v21), H, (StC.mk (phi [(2, some 2), (6, some 6)]) (.o rfl (.i6 .nil) (.o rfl (.i6 .nil) .nil)) rfl (.cons .im (.cons (.r rfl) (.cons .im (.cons (.r rfl) .nil)))))⟩
  refine Yb ?_
  exact ⟨(v6, x1.1, v7), H, (StC.mk (phi [(2, some 2), (6, some 6)]) (.o rfl (.i6 .nil) (.o rfl (.i6 .nil) .nil)) rfl (.cons .im (.cons (.r rfl) (.cons .im (.cons (.r rfl) .nil)))))⟩
 rintro ⟨v8, v9, v10⟩ H
 unfold Y1e at H
 change AW _ _ _ [(0, sU t0), Zqr, (4, sU v9), Zqx] (Zqj v8 v10) _
 refine Y08 (fun (y : Y3 × Y3) => Y1f t0 y.1 y.2) r (fun (y : Y3 × Y3) => (Zqd t0)) (fun (y : Y3 × Y3) => [(2, ⟨0, true, 86, 6, [.j y.1.Width, .j y.1.Label.N, .j y.1.Label.K, .bool y.1.Back, .j y.1.Ink, .j y.1.Part]⟩), (6, ⟨0, true, 86, 6, [.j y.2.Width, .j y.2.Label.N, .j y.2.Label.K, .bool y.2.Back, .j y.2.Ink, .j y.2.Part]⟩)]) ?_ ?_
 ·refine Y0 (Y2 3 [95, 0, 2, 4, 6] [(95, .bool (decide ((0 : Int) < (v9.length : Int)))), (0, sU t0), Zqr, (4, sU v9), Zqx] ?_)
  refine Y1 (Y9 (b := decide ((0 : Int) < (v9.length : Int))) H rfl (fun c16 H => ?_) (fun c16 H => ?_))
  ·refine Ye (Y2 1 [97, 0, 2, 6] ((97, sU v9) :: (Zqd t0)) ?_)
   have ⟨x17, hx17, H⟩ := Yt H
   refine Ys rfl (.cons (.pur rfl) .nil) (f_R19_Read_ok hx17) (Y2 5 [102, 99, 0, 2, 6] ((102, .ref 6 0 4) :: (99, .j x17.1) :: (Zqd t0)) (OpsW.store rfl rfl rfl rfl trivial trivial rfl rfl rfl (by kernel_rfl) (Y5 (by kernel_rfl)) (X0 (by kernel_rfl)) ?_))
   change OpsW _ _ _ _ _ ((6, ⟨0, true, 86, 6, (Zr7 v10 x17)⟩) :: (Zqj v8 v10)) _
   refine Y2 0 [0, 2, 6] (Zqd t0) (Ya (Zqd t0) [(2, ⟨0, true, 86, 6, (Zr5 v8)⟩), (6, ⟨0, true, 86, 6, (Zr7 v10 x17)⟩)] (StC.mk (phi [(2, some 2), (6, some 6)]) (.o rfl (.i6 .nil) (.o rfl (.i6 .nil) .nil)) rfl (.cons .im (.cons (.r rfl) (.cons (.r rfl) .nil)))) (Y1 ?_))
   exact ⟨(v8, (⟨v10.Width, v10.Label, v10.Back, x17.1, v10.Part⟩ : Y3)), H, (StC.mk (phi [(2, some 2), (6, some 6)]) (.o rfl (.i6 .nil) (.o rfl (.i6 .nil) .nil)) rfl (.cons .im (.cons (.r rfl) (.cons (.r rfl) .nil))))⟩
  refine Yb ?_
  exact ⟨(v8, v10), H, (StC.mk (phi [(2, some 2), (6, some 6)]) (.o rfl (.i6 .nil) (.o rfl (.i6 .nil) .nil)) rfl (.cons .im (.cons (.r rfl) (.cons (.r rfl) .nil))))⟩
 rintro ⟨v11, v12⟩ H
 unfold Y1f at H
 change AW _ _ _ (Zqd t0) (Zqb v11 v12) _
 refine Y0 (Y2 1 [104, 0, 2, 6] ((104, .agg (Zqq v12)) :: (Zqd t0)) ?_)
 have ⟨x13, hx13, H⟩ := Yt H
 refine Ys rfl (.cons (.pur rfl) .nil) (f_R19_Header_ok hx13) (Y2 5 [13, 12, 0, 2, 6] ((13, .j x13.2) :: (12, sU x13.1) :: (Zqd t0)) ?_)
 refine Y1 (Yc (Y0 (Y2 5 [112, 111, 110, 2, 6] [(112, .cnd (!(x13.2 != 0)) (sU t0)), (111, .cnd (!(x13.2 != 0)) (sU x13.1)), (110, .bool (x13.2 != 0)), Zqr, Zqx] ?_)))
 have ⟨x14, hx14, H⟩ := Yt H
 refine OpsW.gcall (c := !(x13.2 != 0)) (r := .bool x14) [] rfl (by kernel_rfl) rfl rfl rfl rfl (fun hc => ⟨Yg ⟨hc, hc, trivial⟩, (.cons (.pur rfl) (.cons (.pur rfl) .nil)), f_R01_Same_ok (condT hc hx14), .inl ⟨rfl, rfl⟩⟩) (Y8 2 [115, 2, 6] [(115, .bool (cond (x13.2 != 0) true (!x14))), Zqr, Zqx] ⟨(fun h => h), (fun h => by first | exact h | (simpa using h) | grind), trivial⟩ (Y1 (Y9 (b := cond (x13.2 != 0) true (!x14)) H rfl (fun c15 H => ?_) (fun c15 H => ?_))))
 ·refine Y0 (Y2 1 [116, 2] [(116, .agg Zqp), Zqr] ?_)
  refine OpsW.store rfl rfl rfl rfl trivial trivial rfl rfl rfl (by kernel_rfl) (Y5 (by kernel_rfl)) (X0 (by kernel_rfl)) ?_
  change OpsW _ _ _ _ _ ((2, ⟨0, true, 86, 6, Zqp⟩) :: (Zqb v11 v12)) _
  refine Y2 1 [3, 2] Zqm (Ya Zqm Zq9 (StC.mk (phi [(2, some 2)]) (.o rfl (.i6 .nil) .nil) rfl (.cons .im (.cons (.r rfl) .nil))) (Y1 ?_))
  obtain rfl := X1 H
  refine AW.recast (env' := [Zqr, (3, .j (190 : Int))]) (h' := Zq9) (StC.mk (phi [(2, some 2)]) (.o rfl (.i6 .nil) .nil) rfl (.cons (.r rfl) (.cons .im .nil))) (Yl ?_)
  try simp only [Ex.t, Ex.b]
  exact Yh rfl (.cell rfl (by kernel_rfl) (.tmp .nil))
 refine Yb (Y0 (Y2 1 [117, 2] [(117, .agg (Zqq v12)), Zqr] ?_))
 refine OpsW.store rfl rfl rfl rfl trivial trivial rfl rfl rfl (by kernel_rfl) (Y5 (by kernel_rfl)) (X0 (by kernel_rfl)) ?_
 change OpsW _ _ _ _ _ ((2, ⟨0, true, 86, 6, (Zqq v12)⟩) :: (Zqb v11 v12)) _
 refine Y2 1 [3, 2] [(3, .j (0 : Int)), Zqr] (Ya [(3, .j (0 : Int)), Zqr] (Zql v12) (StC.mk (phi [(2, some 2)]) (.o rfl (.i6 .nil) .nil) rfl (.cons .im (.cons (.r rfl) .nil))) (Y1 ?_))
 obtain rfl := X1 H
 refine AW.recast (env' := [Zqr, (3, .j (0 : Int))]) (h' := (Zql v12)) (StC.mk (phi [(2, some 2)]) (.o rfl (.i6 .nil) .nil) rfl (.cons (.r rfl) (.cons .im .nil))) (Yl ?_)
 try simp only [Ex.t, Ex.b]
 exact Yh rfl (.cell rfl (by kernel_rfl) (.tmp .nil))
def Y5q (t0 : List (List Int)) (t1 : Int) : Option (Y3 × Bool) :=
 cond ((t0.length : Int) == 0) (
  some ((⟨(0 : Int), (⟨(0 : Int), (0 : Int)⟩ : Yu), false, (0 : Int), (0 : Int)⟩ : Y3), false)) (
  G (0 ≤ (0 : Int) ∧ (0 : Int) < (t0.length : Int)) <|
  (Y16 (t0.getD (0 : Int).toNat [])).bind fun x3 =>
  some (x3.1, cond (x3.2 == 0) (x3.1.Width == t1) false))
section
variable (t1 : Int) (x3 : (Y3 × Int))
abbrev Zre : List AV := [.j x3.1.Width, .j x3.1.Label.N, .j x3.1.Label.K, .bool x3.1.Back, .j x3.1.Ink, .j x3.1.Part]
abbrev Zrf : List AV := [.j (0 : Int), .j (0 : Int), .j (0 : Int), .bool false, .j (0 : Int), .j (0 : Int)]
abbrev Zrg := cond (x3.2 == 0) (x3.1.Width == t1) false
abbrev Zrh : Nat × AV := (4, .ref 4 0 0)
abbrev Zr9 : Hp := [(6, ⟨0, true, 86, 6, (Zre x3)⟩)]
abbrev Zra : Hp := [(4, ⟨0, true, 86, 6, Zrf⟩)]
abbrev Zrb : Hp := (4, ⟨0, true, 86, 6, Zrf⟩) :: (Zr9 x3)
abbrev Zrc : Hp := [(4, ⟨0, true, 86, 6, (Zre x3)⟩)]
abbrev Zrd : Env := [Zrh]
end
theorem f_R25_header_ok  {t0 : List (List Int)} {t1 : Int} {r : Y3 × Bool} (H : Y5q t0 t1 = some r) : QSpec Tryd.prog 48 [slA (eL (eI .u8)) t0, .int .i64 t1] (.tup [.agg [.int .i64 r.1.Width, .int .i64 r.1.Label.N, .int .i64 r.1.Label.K, .bool r.1.Back, .int .i64 r.1.Ink, .int .i64 r.1.Part], .bool r.2]) := by
 refine Yj Tryd.func48 rfl (by simp [Tryd.ntmps48]) ?_
 rw [Tryd.ntmps48]
 unfold Y5q at H
 change AW _ _ _ [(0, sC t0), (1, .j t1)] [] _
 refine Y0 (Yo rfl rfl rfl 4 rfl (by kernel_rfl : zc Tryd.prog 86 = some [.j 0, .j 0, .j 0, .bool false, .j 0, .j 0]) (by kernel_rfl) ?_)
 refine Y2 1 [4, 0, 1] [Zrh, (0, sC t0), (1, .j t1)] (Ya [Zrh, (0, sC t0), (1, .j t1)] Zra (StC.mk (phi [(4, some 4)]) (.o rfl (.i6 .nil) .nil) rfl (.cons (.r rfl) (.i2 .nil))) ?_)
 refine Y1 (Yc (Y0 (Y2 3 [10, 4, 0, 1] [(10, .bool ((t0.length : Int) == 0)), Zrh, (0, sC t0), (1, .j t1)] ?_)))
 refine Y1 (Y9 (b := (t0.length : Int) == 0) H rfl (fun c1 H => ?_) (fun c1 H => ?_))
 ·refine Y0 (Y2 1 [11, 4] ((11, .agg Zrf) :: Zrd) ?_)
  refine OpsW.store rfl rfl rfl rfl trivial trivial rfl rfl rfl (by kernel_rfl) (Y5 (by kernel_rfl)) (X0 (by kernel_rfl)) ?_
  change OpsW _ _ _ _ _ ((4, ⟨0, true, 86, 6, Zrf⟩) :: Zra) _
  refine Y2 1 [5, 4] ((5, .bool false) :: Zrd) (Ya ((5, .bool false) :: Zrd) Zra (StC.mk (phi [(4, some 4)]) (.o rfl (.i6 .nil) .nil) rfl (.cons .im (.cons (.r rfl) .nil))) (Y1 ?_))
  obtain rfl := X1 H
  refine AW.recast (env' := [Zrh, (5, .bool false)]) (h' := Zra) (StC.mk (phi [(4, some 4)]) (.o rfl (.i6 .nil) .nil) rfl (.cons (.r rfl) (.cons .im .nil))) (Yl ?_)
  try simp only [Ex.t, Ex.b]
  exact Yh rfl (.cell rfl (by kernel_rfl) (.tmp .nil))
 refine Yb (Y0 ?_)
 have ⟨g2, H⟩ := Y6 H
 refine Y8 2 [14, 4, 1] [(14, .ipt (t0.flatMap (eL (eI .u8))) ((0 : Int).toNat * 1)), Zrh, (1, .j t1)] ⟨g2, trivial⟩ (OpsW.asU (sU (t0.getD (0 : Int).toNat [])) rfl rfl (T.load rfl trivial (by kernel_rfl) (Yn (eL (eI .u8)) 1 (fun _ => rfl) t0 [] (0 : Int).toNat (ltN g2) (fun a => .sl (a.flatMap (eI .u8)) a.length) (fun _ => rfl))) ?_)
 have ⟨x3, hx3, H⟩ := Yt H
 refine Ys rfl (.cons (.pur rfl) .nil) (f_R19_ReadHeader_ok hx3) (Y2 3 [18, 17, 4, 1] [(18, .j x3.2), (17, .agg (Zre x3)), Zrh, (1, .j t1)] (Yo rfl rfl rfl 6 rfl (by kernel_rfl : zc Tryd.prog 86 = some [.j 0, .j 0, .j 0, .bool false, .j 0, .j 0]) (by kernel_rfl) (OpsW.store rfl rfl rfl rfl trivial trivial rfl rfl rfl (by kernel_rfl) (Y5 (by kernel_rfl)) (X0 (by kernel_rfl)) ?_)))
 change OpsW _ _ _ _ _ ((6, ⟨0, true, 86, 6, (Zre x3)⟩) :: (6, ⟨0, true, 86, 6, Zrf⟩) :: Zra) _
 refine Y2 1 [7, 6, 4, 1] [(7, .j x3.2), (6, .ref 6 0 0), Zrh, (1, .j t1)] (Ya [(7, .j x3.2), (6, .ref 6 0 0), Zrh, (1, .j t1)] (Zrb x3) (StC.mk (phi [(4, some 4), (6, some 6)]) (.o rfl (.i6 .nil) (.o rfl (.i6 .nil) .nil)) rfl (.cons .im (.cons (.r rfl) (.cons (.r rfl) (.cons .im .nil))))) ?_)
 refine Y1 (AW.trim [7, 6, 1, 4] ((7, .j x3.2) :: (6, .ref 6 0 0) :: (1, .j t1) :: Zrd) (by kernel_rfl) ?_)
 refine AW.drawYSeq (h := (Zr9 x3)) (env := [(7, .j x3.2), (6, .ref 6 0 0), (1, .j t1)]) Zrd (Zrb x3) 10 [(9, 4, [])] Tryd.checked.mixed (by kernel_rfl) (by kernel_rfl) (sub_ins (h1 := []) (h2 := (Zr9 x3)) rfl) (.cons rfl .nil) (pin_ins (h1 := []) (h2 := (Zr9 x3)) rfl) (envIn_rd (by kernel_rfl)) ?_
 refine DOpsY.q 9 (by kernel_rfl) ?_
 refine QOps.sz (N := 28) 9 [(27, .bool (Zrg t1 x3)), (26, .cnd (x3.2 == 0) (.bool (x3.1.Width == t1))), (25, .cnd (x3.2 == 0) (.j t1)), (24, .cnd (x3.2 == 0) (.j x3.1.Width)), (23, .cnd (x3.2 == 0) (.ref 6 0 0)), (22, .bool (x3.2 == 0)), (21, .bool (x3.2 == 0)), (20, .j x3.2), (19, .agg (Zre x3)), (7, .j x3.2), (6, .ref 6 0 0), (1, .j t1)] ⟨(fun h => h), (fun h => h), (fun h => h), (fun h => by first | exact h | (simpa using h) | grind), trivial⟩ ?_
 refine QOps.nil (DOpsY.e 4 rfl rfl rfl (by exact fun g hg hb => RStep.store rfl rfl (by exact trivial) (by exact trivial) ((hg 4 (List.Mem.head _)).trans rfl) rfl rfl (by kernel_rfl) (Y5 (by kernel_rfl)) (X0 (by kernel_rfl))) ?_)
 refine DOpsY.nil ?_
 change OpsW _ _ _ _ ((27, .bool (Zrg t1 x3)) :: (26, .cnd (x3.2 == 0) (.bool (x3.1.Width == t1))) :: (25, .cnd (x3.2 == 0) (.j t1)) :: (24, .cnd (x3.2 == 0) (.j x3.1.Width)) :: (23, .cnd (x3.2 == 0) (.ref 6 0 0)) :: (22, .bool (x3.2 == 0)) :: (21, .bool (x3.2 == 0)) :: (20, .j x3.2) :: (19, .agg (Zre x3)) :: (7, .j x3.2) :: (6, .ref 6 0 0) :: (1, .j t1) :: Zrd) ((4, ⟨0, true, 86, 6, (Zre x3)⟩) :: (Zrb x3)) _
 refine Y2 0 [27, 4] ((27, .bool (Zrg t1 x3)) :: Zrd) (Y2 1 [5, 4] ((5, .bool (Zrg t1 x3)) :: Zrd) (Ya ((5, .bool (Zrg t1 x3)) :: Zrd) (Zrc x3) (StC.mk (phi [(4, some 4)]) (.o rfl (.i6 .nil) .nil) rfl (.cons .im (.cons (.r rfl) .nil))) (Y1 ?_)))
 obtain rfl := X1 H
 refine AW.recast (env' := [Zrh, (5, .bool (Zrg t1 x3))]) (h' := (Zrc x3)) (StC.mk (phi [(4, some 4)]) (.o rfl (.i6 .nil) .nil) rfl (.cons (.r rfl) (.cons .im .nil))) (Yl ?_)
 try simp only [Ex.t, Ex.b]
 exact Yh rfl (.cell rfl (by kernel_rfl) (.tmp .nil))
def f_R25_Leaf (t0 : Y4) : Option (Yr × Int) :=
 (Y46 t0).bind fun x1 =>
 cond (!x1) (
  some ((⟨(⟨(0 : Int), (0 : Int)⟩ : Yu), [], []⟩ : Yr), (250 : Int))) (
  (f_R25_Front t0).bind fun x3 =>
  (f_R25_Back t0).bind fun x4 =>
  G (inR (Int.tdiv t0.W (2 : Int))) <|
  (Y5q x3 (Int.tdiv t0.W (2 : Int))).bind fun x6 =>
  (Y5q x4 (Int.tdiv t0.W (2 : Int))).bind fun x7 =>
  cond (cond (cond (!x6.2) true x6.1.Back) true (cond (decide ((0 : Int) < (x4.length : Int))) (cond (cond (!x7.2) true (!x7.1.Back)) true (xor true ([x7.1.Label.N == x6.1.Label.N, x7.1.Label.K == x6.1.Label.K].all id))) false)) (
   some ((⟨(⟨(0 : Int), (0 : Int)⟩ : Yu), [], []⟩ : Yr), (250 : Int))) (
   some ((⟨x6.1.Label, x3, x4⟩ : Yr), (0 : Int))))
section
variable (t0 : Y4) (x1 : Bool) (x3 : (List (List Int))) (x4 : (List (List Int))) (x6 : (Y3 × Bool)) (x7 : (Y3 × Bool))
abbrev Zrt : List AV := [.j (0 : Int), .j (0 : Int), .im (.val (.slice none 0 0)), .im (.val (.slice none 0 0))]
abbrev Zru := ((!(cond (!x6.2) true x6.1.Back)) && (decide ((0 : Int) < (x4.length : Int))))
abbrev Zrv : List AV := [.j x6.1.Width, .j x6.1.Label.N, .j x6.1.Label.K, .bool x6.1.Back, .j x6.1.Ink, .j x6.1.Part]
abbrev Zrw : List AV := [.j t0.W, .j t0.H, sD t0.Up, sD t0.Down]
abbrev Zrx : List AV := [.j x7.1.Width, .j x7.1.Label.N, .j x7.1.Label.K, .bool x7.1.Back, .j x7.1.Ink, .j x7.1.Part]
abbrev Zry := (cond (decide ((0 : Int) < (x4.length : Int))) (cond (cond (!x7.2) true (!x7.1.Back)) true (xor true ([x7.1.Label.N == x6.1.Label.N, x7.1.Label.K == x6.1.Label.K].all id))) false)
abbrev Zrz : List AV := [.j x6.1.Label.N, .j x6.1.Label.K, sC x3, sC x4]
abbrev Zs0 : List AV := [.j (0 : Int), .j (0 : Int), sC x3, sC x4]
abbrev Zs1 : Nat × AV := (2, .ref 2 0 0)
abbrev Zs2 := cond (!x7.2) true (!x7.1.Back)
abbrev Zs3 : Nat × AV := (5, .ref 5 0 0)
abbrev Zs4 : List AV := [.j (0 : Int), .j (0 : Int), .j (0 : Int), .bool false, .j (0 : Int), .j (0 : Int)]
abbrev Zs5 := cond (!x6.2) true x6.1.Back
abbrev Zri : Hp := [(2, ⟨0, true, 39, 4, Zrt⟩), (5, ⟨0, true, 39, 4, (Zs0 x3 x4)⟩), (6, ⟨0, true, 86, 6, (Zrv x6)⟩), (8, ⟨0, true, 86, 6, (Zrx x7)⟩)]
abbrev Zrj : Hp := [(2, ⟨0, true, 39, 4, Zrt⟩)]
abbrev Zrk : Env := [Zs1, (1, .ref 1 0 0)]
abbrev Zrl : Hp := [(1, ⟨0, true, 47, 4, (Zrw t0)⟩), (2, ⟨0, true, 39, 4, Zrt⟩), (5, ⟨0, true, 39, 4, (Zs0 x3 x4)⟩), (6, ⟨0, true, 86, 6, (Zrv x6)⟩)]
abbrev Zrm : Hp := [(1, ⟨0, true, 47, 4, (Zrw t0)⟩), (2, ⟨0, true, 39, 4, Zrt⟩), (5, ⟨0, true, 39, 4, (Zs0 x3 x4)⟩)]
abbrev Zrn : Env := [(6, .ref 6 0 0), Zs3, Zs1]
abbrev Zro : Hp := [(2, ⟨0, true, 39, 4, Zrt⟩), (5, ⟨0, true, 39, 4, (Zrz x3 x4 x6)⟩)]
abbrev Zrp : Env := (17, .agg (Zrw t0)) :: (16, sC x3) :: (15, .agg (Zrw t0)) :: (13, .bool (!x1)) :: Zrk
abbrev Zrq : Hp := (1, ⟨0, true, 47, 4, (Zrw t0)⟩) :: Zrj
abbrev Zrr : Env := [(3, .j (250 : Int)), Zs1]
abbrev Zrs : Hp := [(2, ⟨0, true, 39, 4, [.j (0 : Int), .j (0 : Int), sC [], sC []]⟩)]
end
theorem f_R25_Leaf_ok  {t0 : Y4} {r : Yr × Int} (H : f_R25_Leaf t0 = some r) : QSpec Tryd.prog 27 [.agg [.int .i64 t0.W, .int .i64 t0.H, slA (eL eB) t0.Up, slA (eL eB) t0.Down]] (.tup [.agg [.int .i64 r.1.Label.N, .int .i64 r.1.Label.K, slA (eL (eI .u8)) r.1.Front, slA (eL (eI .u8)) r.1.Back], .int .i64 r.2]) := by
 refine Yj Tryd.func27 rfl (by simp [Tryd.ntmps27]) ?_
 rw [Tryd.ntmps27]
 unfold f_R25_Leaf at H
 change AW _ _ _ [(0, .agg (Zrw t0))] [] _
 refine Y0 (OpsW.box rfl rfl rfl 1 rfl (Y5 (by kernel_rfl)) ?_)
 change OpsW _ _ _ _ _ [(1, ⟨0, true, 47, 4, (Zrw t0)⟩)] _
 refine Yo rfl rfl rfl 2 rfl (by kernel_rfl : zc Tryd.prog 39 = some [.j 0, .j 0, .slice none 0 0, .slice none 0 0]) (by kernel_rfl) (Y2 1 [2, 1] Zrk (Ya Zrk (Zrq t0) (StC.mk (phi [(1, some 1), (2, some 2)]) (.o rfl (.i4 .nil) (.o rfl (.i4 .nil) .nil)) rfl (.cons (.r rfl) (.cons (.r rfl) .nil))) ?_))
 refine Y1 (Y0 (Y2 1 [10, 2, 1] ((10, .agg (Zrw t0)) :: Zrk) ?_))
 have ⟨x1, hx1, H⟩ := Yt H
 refine Ys rfl (.cons (.pur rfl) .nil) (f_R25_Valid_ok hx1) (Y2 1 [4, 2, 1] ((4, .bool x1) :: Zrk) ?_)
 refine Y1 (Yc (Y0 (Y2 2 [13, 2, 1] ((13, .bool (!x1)) :: Zrk) ?_)))
 refine Y1 (Y9 (b := !x1) H rfl (fun c2 H => ?_) (fun c2 H => ?_))
 ·refine Y0 (Y2 1 [14, 2] [(14, .agg Zrt), Zs1] ?_)
  refine OpsW.store rfl rfl rfl rfl trivial trivial rfl rfl rfl (by kernel_rfl) (Y5 (by kernel_rfl)) (X0 (by kernel_rfl)) ?_
  change OpsW _ _ _ _ _ ((2, ⟨0, true, 39, 4, Zrt⟩) :: (Zrq t0)) _
  refine Y2 1 [3, 2] Zrr (Ya Zrr Zrj (StC.mk (phi [(2, some 2)]) (.o rfl (.i4 .nil) .nil) rfl (.cons .im (.cons (.r rfl) .nil))) (Y1 ?_))
  obtain rfl := X1 H
  refine AW.recast (env' := [Zs1, (3, .j (250 : Int))]) (h' := Zrs) (StC.mk (phi [(2, some 2)]) (.o rfl (.i2 (.cons .nil (.cons .nil .nil))) .nil) rfl (.cons (.r rfl) (.cons .im .nil))) (Yl ?_)
  try simp only [Ex.t, Ex.b]
  exact Yh rfl (.cell rfl (by kernel_rfl) (.tmp .nil))
 refine Yb (AW.drawGSeq 6 [(5, 5)] Tryd.checked.mixed (by kernel_rfl) (by kernel_rfl) ?_)
 refine DOps.q 5 (by kernel_rfl) ?_
 refine QOps.sz (N := 71) 1 ((15, .agg (Zrw t0)) :: (13, .bool (!x1)) :: Zrk) trivial ?_
 have ⟨x3, hx3, H⟩ := Yt H
 refine QOps.qcall rfl (by kernel_rfl) rfl (Yg trivial) (.cons (.pur rfl) .nil) (f_R25_Front_ok hx3) rfl (QOps.sz (N := 71) 1 (Zrp t0 x1 x3) trivial ?_)
 have ⟨x4, hx4, H⟩ := Yt H
 refine QOps.qcall rfl (by kernel_rfl) rfl (Yg trivial) (.cons (.pur rfl) .nil) (f_R25_Back_ok hx4) rfl (QOps.sz (N := 71) 1 ((19, .agg (Zs0 x3 x4)) :: (18, sC x4) :: (Zrp t0 x1 x3)) trivial ?_)
 refine QOps.nil (DOps.e 5 rfl rfl rfl (by exact fun g hg hb => RStep.alloc rfl 5 (hg.trans rfl) (by kernel_rfl : zc Tryd.prog 39 = some [.j 0, .j 0, .slice none 0 0, .slice none 0 0]) (by kernel_rfl)) ?_)
 refine DOps.nil ?_
 refine Y2 0 [5, 19, 2, 1] (Zs3 :: (19, .agg (Zs0 x3 x4)) :: Zrk) (OpsW.store rfl rfl rfl rfl trivial trivial rfl rfl rfl (by kernel_rfl) (Y5 (by kernel_rfl)) (X0 (by kernel_rfl)) ?_)
 change OpsW _ _ _ _ _ ((5, ⟨0, true, 39, 4, (Zs0 x3 x4)⟩) :: (5, ⟨0, true, 39, 4, Zrt⟩) :: (Zrq t0)) _
 refine Y2 0 [5, 2, 1] (Zs3 :: Zrk) (Ya (Zs3 :: Zrk) (Zrm t0 x3 x4) (StC.mk (phi [(1, some 1), (2, some 2), (5, some 5)]) (.o rfl (.i4 .nil) (.o rfl (.i4 .nil) (.o rfl (.i4 .nil) .nil))) rfl (.cons (.r rfl) (.cons (.r rfl) (.cons (.r rfl) .nil)))) ?_)
 refine Y1 (Y0 ?_)
 have ⟨g5, H⟩ := Y6 H
 refine Y8 5 [25, 22, 5, 2, 1] ((25, .j (Int.tdiv t0.W (2 : Int))) :: (22, sC x3) :: Zs3 :: Zrk) ⟨(by decide), g5, trivial⟩ ?_
 have ⟨x6, hx6, H⟩ := Yt H
 refine Ys rfl (.cons (.pur rfl) (.cons (.pur rfl) .nil)) (f_R25_header_ok hx6) (Y2 3 [28, 27, 5, 2, 1] ((28, .bool x6.2) :: (27, .agg (Zrv x6)) :: Zs3 :: Zrk) (Yo rfl rfl rfl 6 rfl (by kernel_rfl : zc Tryd.prog 86 = some [.j 0, .j 0, .j 0, .bool false, .j 0, .j 0]) (by kernel_rfl) (OpsW.store rfl rfl rfl rfl trivial trivial rfl rfl rfl (by kernel_rfl) (Y5 (by kernel_rfl)) (X0 (by kernel_rfl)) ?_)))
 change OpsW _ _ _ _ _ ((6, ⟨0, true, 86, 6, (Zrv x6)⟩) :: (6, ⟨0, true, 86, 6, Zs4⟩) :: (Zrm t0 x3 x4)) _
 refine Y2 1 [7, 6, 5, 2, 1] ((7, .bool x6.2) :: (6, .ref 6 0 0) :: Zs3 :: Zrk) (Ya ((7, .bool x6.2) :: (6, .ref 6 0 0) :: Zs3 :: Zrk) (Zrl t0 x3 x4 x6) (StC.mk (phi [(1, some 1), (2, some 2), (5, some 5), (6, some 6)]) (.o rfl (.i4 .nil) (.o rfl (.i4 .nil) (.o rfl (.i4 .nil) (.o rfl (.i6 .nil) .nil)))) rfl (.cons .im (.cons (.r rfl) (.cons (.r rfl) (.cons (.r rfl) (.cons (.r rfl) .nil)))))) ?_)
 refine Y1 (Y0 (Y8 5 [34, 31, 7, 6, 5, 2] ((34, .j (Int.tdiv t0.W (2 : Int))) :: (31, sC x4) :: (7, .bool x6.2) :: Zrn) ⟨(by decide), g5, trivial⟩ ?_))
 have ⟨x7, hx7, H⟩ := Yt H
 refine Ys rfl (.cons (.pur rfl) (.cons (.pur rfl) .nil)) (f_R25_header_ok hx7) (Y2 3 [37, 36, 7, 6, 5, 2] ((37, .bool x7.2) :: (36, .agg (Zrx x7)) :: (7, .bool x6.2) :: Zrn) (Yo rfl rfl rfl 8 rfl (by kernel_rfl : zc Tryd.prog 86 = some [.j 0, .j 0, .j 0, .bool false, .j 0, .j 0]) (by kernel_rfl) (OpsW.store rfl rfl rfl rfl trivial trivial rfl rfl rfl (by kernel_rfl) (Y5 (by kernel_rfl)) (X0 (by kernel_rfl)) ?_)))
 change OpsW _ _ _ _ _ ((8, ⟨0, true, 86, 6, (Zrx x7)⟩) :: (8, ⟨0, true, 86, 6, Zs4⟩) :: (Zrl t0 x3 x4 x6)) _
 refine Y2 1 [9, 8, 7, 6, 5, 2] ((9, .bool x7.2) :: (8, .ref 8 0 0) :: (7, .bool x6.2) :: Zrn) (Ya ((9, .bool x7.2) :: (8, .ref 8 0 0) :: (7, .bool x6.2) :: Zrn) (Zri x3 x4 x6 x7) (StC.mk (phi [(2, some 2), (5, some 5), (6, some 6), (8, some 8)]) (.o rfl (.i4 .nil) (.o rfl (.i4 .nil) (.o rfl (.i6 .nil) (.o rfl (.i6 .nil) .nil)))) rfl (.cons .im (.cons (.r rfl) (.cons .im (.cons (.r rfl) (.cons (.r rfl) (.cons (.r rfl) .nil))))))) ?_)
 refine Y1 (Yc (Y0 (Y8 24 [61, 59, 57, 49, 44, 6, 5, 2] ((61, .cnd ((Zru x4 x6) && (!(Zs2 x7))) (.agg [.j x6.1.Label.N, .j x6.1.Label.K])) :: (59, .cnd ((Zru x4 x6) && (!(Zs2 x7))) (.agg [.j x7.1.Label.N, .j x7.1.Label.K])) :: (57, .cnd (Zru x4 x6) (.bool (Zs2 x7))) :: (49, .cnd (!(Zs5 x6)) (.bool (decide ((0 : Int) < (x4.length : Int))))) :: (44, .bool (Zs5 x6)) :: Zrn) ⟨(fun h => h), (fun h => by first | exact h | (simpa using h) | grind), (fun h => h), (fun h => h), (fun h => h), (fun h => h), (fun h => h), (fun h => h), (fun h => h), (fun h => h), (fun h => h), (fun h0 h => by first | exact h | (simp [h0, h]; done) | (simp at h0 h ⊢; simp [h0, h]; done) | (simp_all; done) | grind), (fun h => h), (fun h => h), (fun h => h), trivial⟩ ?_)))
 refine OpsW.quietG (c := (Zru x4 x6) && (!(Zs2 x7))) (.bool (xor true ([x7.1.Label.N == x6.1.Label.N, x7.1.Label.K == x6.1.Label.K].all id))) rfl rfl rfl rfl (Quiet.eqAgg [.j x7.1.Label.N, .j x7.1.Label.K] [.j x6.1.Label.N, .j x6.1.Label.K] [x7.1.Label.N == x6.1.Label.N, x7.1.Label.K == x6.1.Label.K] true rfl rfl (by kernel_rfl) (by kernel_rfl) (gpoG (c := (Zru x4 x6) && (!(Zs2 x7))) rfl rfl rfl (fun hc => ⟨hc, rfl, hc, rfl⟩))) (Y8 3 [65, 6, 5, 2] ((65, .bool (cond (Zs5 x6) true (Zry x4 x6 x7))) :: Zrn) ⟨(fun h => h), (fun h0 h => by first | exact h | (simp [h0, h]; done) | (simp at h0 h ⊢; simp [h0, h]; done) | (simp_all; done) | grind), (fun h => h), (fun h0 h => by first | exact h | (simp [h0, h]; done) | (simp at h0 h ⊢; simp [h0, h]; done) | (simp_all; done) | grind), (fun h => by first | exact h | (simpa using h) | grind), trivial⟩ (Y1 (Y9 (b := cond (Zs5 x6) true (Zry x4 x6 x7)) H rfl (fun c8 H => ?_) (fun c8 H => ?_))))
 ·refine Y0 (Y2 1 [66, 2] [(66, .agg Zrt), Zs1] ?_)
  refine OpsW.store rfl rfl rfl rfl trivial trivial rfl rfl rfl (by kernel_rfl) (Y5 (by kernel_rfl)) (X0 (by kernel_rfl)) ?_
  change OpsW _ _ _ _ _ ((2, ⟨0, true, 39, 4, Zrt⟩) :: (Zri x3 x4 x6 x7)) _
  refine Y2 1 [3, 2] Zrr (Ya Zrr Zrj (StC.mk (phi [(2, some 2)]) (.o rfl (.i4 .nil) .nil) rfl (.cons .im (.cons (.r rfl) .nil))) (Y1 ?_))
  obtain rfl := X1 H
  refine AW.recast (env' := [Zs1, (3, .j (250 : Int))]) (h' := Zrs) (StC.mk (phi [(2, some 2)]) (.o rfl (.i2 (.cons .nil (.cons .nil .nil))) .nil) rfl (.cons (.r rfl) (.cons .im .nil))) (Yl ?_)
  try simp only [Ex.t, Ex.b]
  exact Yh rfl (.cell rfl (by kernel_rfl) (.tmp .nil))
 refine Yb (Y0 (Y2 3 [69, 68, 5, 2] [(69, .ref 5 0 0), (68, .agg [.j x6.1.Label.N, .j x6.1.Label.K]), Zs3, Zs1] ?_))
 refine OpsW.store rfl rfl rfl rfl trivial trivial rfl rfl rfl (by kernel_rfl) (Y5 (by kernel_rfl)) (X0 (by kernel_rfl)) ?_
 change OpsW _ _ _ _ _ ((5, ⟨0, true, 39, 4, (Zrz x3 x4 x6)⟩) :: (Zri x3 x4 x6 x7)) _
 refine Y2 0 [5, 2] [Zs3, Zs1] (Ya [Zs3, Zs1] (Zro x3 x4 x6) (StC.mk (phi [(2, some 2), (5, some 5)]) (.o rfl (.i4 .nil) (.o rfl (.i4 .nil) .nil)) rfl (.cons (.r rfl) (.cons (.r rfl) .nil))) ?_)
 refine Y1 (Y0 (Y2 1 [70, 2] [(70, .agg (Zrz x3 x4 x6)), Zs1] ?_))
 refine OpsW.store rfl rfl rfl rfl trivial trivial rfl rfl rfl (by kernel_rfl) (Y5 (by kernel_rfl)) (X0 (by kernel_rfl)) ?_
 change OpsW _ _ _ _ _ ((2, ⟨0, true, 39, 4, (Zrz x3 x4 x6)⟩) :: (Zro x3 x4 x6)) _
 refine Y2 1 [3, 2] [(3, .j (0 : Int)), Zs1] (Ya [(3, .j (0 : Int)), Zs1] [(2, ⟨0, true, 39, 4, (Zrz x3 x4 x6)⟩)] (StC.mk (phi [(2, some 2)]) (.o rfl (.i4 .nil) .nil) rfl (.cons .im (.cons (.r rfl) .nil))) (Y1 ?_))
 obtain rfl := X1 H
 refine AW.recast (env' := [Zs1, (3, .j (0 : Int))]) (h' := [(2, ⟨0, true, 39, 4, (Zrz x3 x4 x6)⟩)]) (StC.mk (phi [(2, some 2)]) (.o rfl (.i4 .nil) .nil) rfl (.cons (.r rfl) (.cons .im .nil))) (Yl ?_)
 try simp only [Ex.t, Ex.b]
 exact Yh rfl (.cell rfl (by kernel_rfl) (.tmp .nil))
end Go.Proofs.YtbcfmhoaocifoaaDoor
