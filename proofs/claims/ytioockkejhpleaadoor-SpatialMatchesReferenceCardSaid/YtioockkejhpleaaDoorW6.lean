/- Own work. -/
import Derived.Test.YtioockkejhpleaaDoorW5
set_option linter.unusedSimpArgs false
set_option linter.unusedVariables false
set_option maxRecDepth 100000
namespace Go.Proofs.YtioockkejhpleaaDoor
open Go.Abs
def Y5e (loop13 : (Y4 × (List (List Int)) × Int) → Option (List (List Int))) (v12 : Int) (v15 : Y4) (v16 : List (List Int)) : Option (List (List Int)) :=
 G (inR (v12 + 1)) <|
 loop13 (v15, v16, v12 + 1)
def Y2g (t1 : List (List Int)) (v1 : Int) (loop13 : (Y4 × (List (List Int)) × Int) → Option (List (List Int))) (v10 : Y4) (v11 : List (List Int)) (v12 : Int) : Option (List (List Int)) :=
 cond (decide (v12 < ((t1.length : Int) - 1))) (
  cond (v10.Op == 12) (
   G (0 ≤ v12 ∧ v12 < (t1.length : Int)) <|
   (f_R11_left (t1.getD v12.toNat []) v1).bind fun x20 =>
   (Y25 [(44 : Int), (0 : Int)] x20).bind fun x21 =>
   G (room 24 (v11.length + 1)) <|
   Y5e loop13 v12 v10 (v11 ++ [x21])) (
   G (0 ≤ v12 ∧ v12 < (t1.length : Int)) <|
   (Y5x (t1.getD v12.toNat []) v1).bind fun x24 =>
   (Y25 [(57 : Int), (0 : Int)] x24).bind fun x25 =>
   G (room 24 (v11.length + 1)) <|
   Y5e loop13 v12 v10 (v11 ++ [x25]))) (
  G (inR (v1 + 2)) <|
  (f_R11_bar (v1 + 2)).bind fun x28 =>
  G (room 24 (v11.length + 1)) <|
  cond (v10.Op == 12) (
   (Y4c (2 : Int)).bind fun x31 =>
   G (0 ≤ ((t1.length : Int) - 1) ∧ ((t1.length : Int) - 1) < (t1.length : Int)) <|
   (f_R11_left (t1.getD ((t1.length : Int) - 1).toNat []) v1).bind fun x33 =>
   (Y25 x31 x33).bind fun x34 =>
   G (room 24 ((v11 ++ [x28]).length + [x34].length)) <|
   some ((v11 ++ [x28]) ++ [x34])) (
   (Y4c (2 : Int)).bind fun x36 =>
   G (0 ≤ ((t1.length : Int) - 1) ∧ ((t1.length : Int) - 1) < (t1.length : Int)) <|
   (Y5x (t1.getD ((t1.length : Int) - 1).toNat []) v1).bind fun x38 =>
   (Y25 x36 x38).bind fun x39 =>
   G (room 24 ((v11 ++ [x28]).length + [x39].length)) <|
   some ((v11 ++ [x28]) ++ [x39])))
def Y2u (t0 : Y4) (t1 : List (List Int)) (loop3 : (Int × Int) → Option (List (List Int))) (v1 : Int) (v2 : Int) : Option (List (List Int)) :=
 cond (decide (v2 < (t1.length : Int))) (
  G (0 ≤ v2 ∧ v2 < (t1.length : Int)) <|
  G (inR (v2 + 1)) <|
  loop3 ((if ((t1.getD v2.toNat []).length : Int) > v1 then ((t1.getD v2.toNat []).length : Int) else v1), v2 + 1)) (
  cond (t0.Op == 13) (
   (f_R11_matrix t1 (Int.tmod t0.N (8 : Int))).bind fun x8 =>
   some x8) (
   G (inR ((t1.length : Int) - 1)) <|
   iter (fun loop (s : Y4 × (List (List Int)) × Int) => Y2g t1 v1 loop s.1 s.2.1 s.2.2) 1000000 (t0, ([] : List (List Int)), (0 : Int))))
def Y63 (t0 : Y4) (t1 : List (List Int)) : Option (List (List Int)) :=
 iter (fun loop (s : Int × Int) => Y2u t0 t1 loop s.1 s.2) 1000000 ((0 : Int), (0 : Int))
section
variable (t0 : Y4) (t1 : List (List Int)) (v1 : Int) (v2 : Int) (v10 : Y4) (v11 : List (List Int)) (v12 : Int) (x28 : (List Int)) (x31 : (List Int)) (x36 : (List Int))
abbrev Zae := ((t1.length : Int) - 1)
abbrev Zaf : Nat × AV := (6, .rsl 6 0 0 (([] : List (List Int)).length))
abbrev Zag : Nat × AV := (2, .ref 2 0 0)
abbrev Zah := ((t1.getD v2.toNat []).length : Int)
abbrev Zai := t1.flatMap (eL (eI .u8))
abbrev Zaj := (v11 ++ [x28]).length
abbrev Zak := List (List Int)
abbrev Zal := t1.getD (Zae t1).toNat []
abbrev Zam := ([] : List (List Int))
abbrev Za4 : Env := [(1, sC t1), Zag, (5, .j v1), (6, .rsl 6 0 0 v11.length), (8, .j (Zae t1)), (9, .j v12)]
abbrev Za5 : Env := [(73, .bool (v10.Op == 12)), (6, .rsl 6 0 0 (Zaj v11 x28)), (1, sC t1), (5, .j v1), (8, .j (Zae t1))]
abbrev Za6 : Env := [(1, sC t1), Zag, (5, .j v1), (8, .j (Zae t1)), (9, .j v12)]
abbrev Za7 : Hp := [(2, ⟨0, true, 38, 2, [.j t0.Op, .j t0.N]⟩), (6, rtA 0 39 1 (eL (eI .u8)) Zam)]
abbrev Za8 : Env := [(1, sC t1), Zag, (5, .j v1), Zaf, (7, .j v2)]
abbrev Za9 : Env := (78, .ipt (Zai t1) ((Zae t1).toNat * 1)) :: (77, .j (Zae t1)) :: (76, sC t1) :: (75, sU x31) :: (74, .rsl 6 0 0 (Zaj v11 x28)) :: (Za5 t1 v1 v10 v11 x28)
abbrev Zaa : Env := (89, .ipt (Zai t1) ((Zae t1).toNat * 1)) :: (88, .j (Zae t1)) :: (87, sC t1) :: (86, sU x36) :: (85, .rsl 6 0 0 (Zaj v11 x28)) :: (Za5 t1 v1 v10 v11 x28)
abbrev Zab : Env := [(1, sC t1), Zag, (5, .j v1), Zaf]
abbrev Zac : Env := [Zaf, (5, .j (0 : Int)), Zag, (1, sC t1)]
abbrev Zad : Env := [(8, .j (Zae t1))]
end
theorem f_R11_rows_ok  {t0 : Y4} {t1 : List (List Int)} {r : List (List Int)} (H : Y63 t0 t1 = some r) : QSpec Tryd.prog 27 [.agg [.int .i64 t0.Op, .int .i64 t0.N], slA (eL (eI .u8)) t1] (slA (eL (eI .u8)) r) := by
 refine Ye Tryd.func27 rfl (by simp [Tryd.ntmps27]) ?_
 rw [Tryd.ntmps27]
 unfold Y63 at H
 change AW _ _ _ [(0, .agg [.j t0.Op, .j t0.N]), (1, sC t1)] [] _
 refine Y0 (OpsW.box rfl rfl rfl 2 rfl (Yy (by kernel_rfl)) ?_)
 change OpsW _ _ _ _ _ [(2, ⟨0, true, 38, 2, [.j t0.Op, .j t0.N]⟩)] _
 refine Y2 1 [2, 1] [Zag, (1, sC t1)] ?_
 refine Y1 (Y0 (Y1o (enc := eL (eI .u8)) Zam rfl rfl rfl 10 rfl E30 (fun _ => rfl) (by decide) trivial (by kernel_rfl) (by kernel_rfl) (by kernel_rfl) rfl ?_))
 refine Y2 2 [6, 5, 2, 1] [(6, .rsl 10 0 0 (Zam.length)), (5, .j (0 : Int)), Zag, (1, sC t1)] (OpsW.rc (Zac t1) (Za7 t0) (StC.mk (phi [(2, some 2), (6, some 10)]) (.o rfl (.i2 .nil) (.o rfl (CstL.ims _) .nil)) rfl (.cons (.s rfl) (.cons .im (.cons (.r rfl) (.cons .im .nil))))) ?_)
 refine Y1 (Yi (Y0 (Y2 1 [7, 6, 5, 2, 1] ((7, .j (0 : Int)) :: (Zac t1)) ?_)))
 refine Y1 (Yg ?_)
 refine Y0z (fun loop (s : Int × Int) => Y2u t0 t1 loop s.1 s.2) r (fun (s : Int × Int) => [(1, sC t1), Zag, (5, .j s.1), Zaf, (7, .j s.2)]) (fun (s : Int × Int) => (Za7 t0)) ?_ 1000000 ((0 : Int), (0 : Int)) H (StC.mk (phi [(2, some 2), (6, some 6)]) (.o rfl (.i2 .nil) (.o rfl (CstL.ims _) .nil)) rfl (.cons .im (.cons (.r rfl) (.cons .im (.cons (.s rfl) (.cons .im .nil))))))
 intro loop3 s H
 obtain ⟨v1, v2⟩ := s
 unfold Y2u at H
 change AW _ _ _ (Za8 t1 v1 v2) (Za7 t0) _
 refine Yi (Y0 (Y2 4 [14, 1, 2, 5, 6, 7] ((14, .bool (decide (v2 < (t1.length : Int)))) :: (Za8 t1 v1 v2)) ?_))
 refine Y1 (Y6 (b := decide (v2 < (t1.length : Int))) H rfl (fun c4 H => ?_) (fun c4 H => ?_))
 ·refine Yc (Yi (Yg (Y9 ?_)))
  have ⟨g5, H⟩ := Y8 H
  refine Ya 4 [20, 17, 1, 2, 5, 6, 7] ((20, .ipt (Zai t1) (v2.toNat * 1)) :: (17, .j v1) :: (Za8 t1 v1 v2)) ⟨g5, trivial⟩ (OpsW.asU (sU (t1.getD v2.toNat [])) rfl rfl (T.load rfl trivial (by kernel_rfl) (Y0b (eL (eI .u8)) 1 (fun _ => rfl) t1 [] v2.toNat (ltN g5) (fun a => .sl (a.flatMap (eI .u8)) a.length) (fun _ => rfl))) (Y2 3 [5, 1, 2, 6, 7] [(5, .j (if (Zah t1 v2) > v1 then (Zah t1 v2) else v1)), (1, sC t1), Zag, Zaf, (7, .j v2)] ?_))
  refine Y1 (Y9 ?_)
  have ⟨g6, H⟩ := Y8 H
  refine Ya 3 [7, 5, 1, 2, 6] [(7, .j (v2 + 1)), (5, .j (if (Zah t1 v2) > v1 then (Zah t1 v2) else v1)), (1, sC t1), Zag, Zaf] ⟨g6, trivial⟩ (Y1 ?_)
  exact ⟨((if (Zah t1 v2) > v1 then (Zah t1 v2) else v1), v2 + 1), H, (StC.mk (phi [(2, some 2), (6, some 6)]) (.o rfl (.i2 .nil) (.o rfl (CstL.ims _) .nil)) rfl (.cons .im (.cons (.r rfl) (.cons .im (.cons (.s rfl) (.cons .im .nil))))))⟩
 refine AW.exit ?_
 refine Yi (Y0 (Y2 3 [26, 1, 2, 5, 6] ((26, .bool (t0.Op == 13)) :: (Zab t1 v1)) ?_))
 refine Y1 (Y6 (b := t0.Op == 13) H rfl (fun c7 H => ?_) (fun c7 H => ?_))
 ·refine Y0 (Ya 4 [30, 27] [(30, .j (Int.tmod t0.N (8 : Int))), (27, sC t1)] ⟨(by decide), trivial⟩ ?_)
  have ⟨x8, hx8, H⟩ := Yw H
  refine Yl rfl (.cons (.pur rfl) (.cons (.pur rfl) .nil)) (f_R11_matrix_ok hx8) (Y2 1 [4] [(4, sC x8)] (Y1 ?_))
  obtain rfl := X2 H
  refine AW.recast (env' := [(4, sC x8)]) (h' := []) (StC.pure (.cons .im .nil)) (Yh ?_)
  try simp only [Ex.t, Ex.b]
  exact Done.eq rfl (.tmp .nil)
 refine Yc (Y0 ?_)
 have ⟨g9, H⟩ := Y8 H
 refine Ya 4 [8, 1, 2, 5, 6] ((8, .j (Zae t1)) :: (Zab t1 v1)) ⟨g9, trivial⟩ ?_
 refine Y1 (Yi (Y0 (Y2 1 [9, 8, 1, 2, 5, 6] ((9, .j (0 : Int)) :: (8, .j (Zae t1)) :: (Zab t1 v1)) ?_)))
 refine Y1 (Yg ?_)
 refine Y0z (fun loop (s : Y4 × Zak × Int) => Y2g t1 v1 loop s.1 s.2.1 s.2.2) r (fun (s : Y4 × Zak × Int) => [(1, sC t1), Zag, (5, .j v1), (6, .rsl 6 0 0 s.2.1.length), (8, .j (Zae t1)), (9, .j s.2.2)]) (fun (s : Y4 × Zak × Int) => [(2, ⟨0, true, 38, 2, [.j s.1.Op, .j s.1.N]⟩), (6, rtA 0 39 1 (eL (eI .u8)) s.2.1)]) ?_ 1000000 (t0, Zam, (0 : Int)) H (StC.mk (phi [(2, some 2), (6, some 6)]) (.o rfl (.i2 .nil) (.o rfl (CstL.ims _) .nil)) rfl (.cons .im (.cons (.r rfl) (.cons .im (.cons (.s rfl) (.i2 .nil))))))
 intro loop13 s H
 obtain ⟨v10, v11, v12⟩ := s
 unfold Y2g at H
 change AW _ _ _ (Za4 t1 v1 v11 v12) [(2, ⟨0, true, 38, 2, [.j v10.Op, .j v10.N]⟩), (6, rtA 0 39 1 (eL (eI .u8)) v11)] _
 refine Yi (Y0 (Y2 3 [37, 1, 2, 5, 6, 8, 9] ((37, .bool (decide (v12 < (Zae t1)))) :: (Za4 t1 v1 v11 v12)) ?_))
 refine Y1 (Y6 (b := decide (v12 < (Zae t1))) H rfl (fun c14 H => ?_) (fun c14 H => ?_))
 ·refine Yc ?_
  refine Y07 (fun (y : Y4 × Zak) => Y5e loop13 v12 y.1 y.2) r (fun (y : Y4 × Zak) => [(1, sC t1), Zag, (5, .j v1), (6, .rsl 6 0 0 y.2.length), (8, .j (Zae t1)), (9, .j v12)]) (fun (y : Y4 × Zak) => [(2, ⟨0, true, 38, 2, [.j y.1.Op, .j y.1.N]⟩), (6, rtA 0 39 1 (eL (eI .u8)) y.2)]) ?_ ?_
  ·refine Yg (Y0 (Y2 3 [42, 1, 2, 5, 6, 8, 9] ((42, .bool (v10.Op == 12)) :: (Za4 t1 v1 v11 v12)) ?_))
   refine Y1 (Y6 (b := v10.Op == 12) H rfl (fun c18 H => ?_) (fun c18 H => ?_))
   ·refine Y9 (Y2 1 [43, 1, 2, 5, 6, 8, 9] ((43, .rsl 6 0 0 v11.length) :: (Za4 t1 v1 v11 v12)) ?_)
    refine OpsW.buildTI (enc := eI .u8) [(44 : Int), (0 : Int)] rfl rfl rfl E39 (fun _ => rfl) (by decide) ⟨trivial, by kernel_rfl, by kernel_rfl, by kernel_rfl, rfl⟩ ?_
    have ⟨g19, H⟩ := Y8 H
    refine Ya 3 [47, 44, 43, 1, 2, 5, 6, 8, 9] ((47, .ipt (Zai t1) (v12.toNat * 1)) :: (44, sU [(44 : Int), (0 : Int)]) :: (43, .rsl 6 0 0 v11.length) :: (Za4 t1 v1 v11 v12)) ⟨g19, trivial⟩ (OpsW.asU (sU (t1.getD v12.toNat [])) rfl rfl (T.load rfl trivial (by kernel_rfl) (Y0b (eL (eI .u8)) 1 (fun _ => rfl) t1 [] v12.toNat (ltN g19) (fun a => .sl (a.flatMap (eI .u8)) a.length) (fun _ => rfl))) (Y2 1 [49, 48, 44, 43, 1, 2, 5, 6, 8, 9] ((49, .j v1) :: (48, sU (t1.getD v12.toNat [])) :: (44, sU [(44 : Int), (0 : Int)]) :: (43, .rsl 6 0 0 v11.length) :: (Za4 t1 v1 v11 v12)) ?_))
    have ⟨x20, hx20, H⟩ := Yw H
    refine Yl rfl (.cons (.pur rfl) (.cons (.pur rfl) .nil)) (f_R11_left_ok hx20) ?_
    have ⟨x21, hx21, H⟩ := Yw H
    refine Yl rfl (.cons (.pur rfl) (.cons (.pur rfl) .nil)) (Y45 hx21) ?_
    have ⟨g22, H⟩ := Y8 H
    refine Ym (enc := eL (eI .u8)) [x21] rfl rfl rfl (by decide) rfl rfl rfl (by simp) E30 (fun _ => rfl) (by decide) trivial (by kernel_rfl) (by kernel_rfl) (by kernel_rfl) rfl rfl rfl g22 (Y2 1 [6, 1, 2, 5, 8, 9] ((6, .rsl 6 1 0 ((v11 ++ [x21]).length)) :: (Za6 t1 v1 v12)) (OpsW.rc ((6, .rsl 6 0 0 ((v11 ++ [x21]).length)) :: (Za6 t1 v1 v12)) [(2, ⟨0, true, 38, 2, [.j v10.Op, .j v10.N]⟩), (6, rtA 0 39 1 (eL (eI .u8)) (v11 ++ [x21]))] (StC.mk (phi [(2, some 2), (6, some 6)]) (.o rfl (.i2 .nil) (.o rfl (CstL.ims _) .nil)) rfl (.cons (.s rfl) (.cons .im (.cons (.r rfl) (.i3 .nil))))) (Y1 ?_)))
    exact ⟨(v10, v11 ++ [x21]), H, (StC.mk (phi [(2, some 2), (6, some 6)]) (.o rfl (.i2 .nil) (.o rfl (CstL.ims _) .nil)) rfl (.cons .im (.cons (.r rfl) (.cons .im (.cons (.s rfl) (.i2 .nil))))))⟩
   refine Y9 (Y2 1 [54, 1, 2, 5, 6, 8, 9] ((54, .rsl 6 0 0 v11.length) :: (Za4 t1 v1 v11 v12)) ?_)
   refine OpsW.buildTI (enc := eI .u8) [(57 : Int), (0 : Int)] rfl rfl rfl E39 (fun _ => rfl) (by decide) ⟨trivial, by kernel_rfl, by kernel_rfl, by kernel_rfl, rfl⟩ ?_
   have ⟨g23, H⟩ := Y8 H
   refine Ya 3 [58, 55, 54, 1, 2, 5, 6, 8, 9] ((58, .ipt (Zai t1) (v12.toNat * 1)) :: (55, sU [(57 : Int), (0 : Int)]) :: (54, .rsl 6 0 0 v11.length) :: (Za4 t1 v1 v11 v12)) ⟨g23, trivial⟩ (OpsW.asU (sU (t1.getD v12.toNat [])) rfl rfl (T.load rfl trivial (by kernel_rfl) (Y0b (eL (eI .u8)) 1 (fun _ => rfl) t1 [] v12.toNat (ltN g23) (fun a => .sl (a.flatMap (eI .u8)) a.length) (fun _ => rfl))) (Y2 1 [60, 59, 55, 54, 1, 2, 5, 6, 8, 9] ((60, .j v1) :: (59, sU (t1.getD v12.toNat [])) :: (55, sU [(57 : Int), (0 : Int)]) :: (54, .rsl 6 0 0 v11.length) :: (Za4 t1 v1 v11 v12)) ?_))
   have ⟨x24, hx24, H⟩ := Yw H
   refine Yl rfl (.cons (.pur rfl) (.cons (.pur rfl) .nil)) (f_R11_right_ok hx24) ?_
   have ⟨x25, hx25, H⟩ := Yw H
   refine Yl rfl (.cons (.pur rfl) (.cons (.pur rfl) .nil)) (Y45 hx25) ?_
   have ⟨g26, H⟩ := Y8 H
   refine Ym (enc := eL (eI .u8)) [x25] rfl rfl rfl (by decide) rfl rfl rfl (by simp) E30 (fun _ => rfl) (by decide) trivial (by kernel_rfl) (by kernel_rfl) (by kernel_rfl) rfl rfl rfl g26 (Y2 1 [6, 1, 2, 5, 8, 9] ((6, .rsl 6 1 0 ((v11 ++ [x25]).length)) :: (Za6 t1 v1 v12)) (OpsW.rc ((6, .rsl 6 0 0 ((v11 ++ [x25]).length)) :: (Za6 t1 v1 v12)) [(2, ⟨0, true, 38, 2, [.j v10.Op, .j v10.N]⟩), (6, rtA 0 39 1 (eL (eI .u8)) (v11 ++ [x25]))] (StC.mk (phi [(2, some 2), (6, some 6)]) (.o rfl (.i2 .nil) (.o rfl (CstL.ims _) .nil)) rfl (.cons (.s rfl) (.cons .im (.cons (.r rfl) (.i3 .nil))))) (Y1 ?_)))
   exact ⟨(v10, v11 ++ [x25]), H, (StC.mk (phi [(2, some 2), (6, some 6)]) (.o rfl (.i2 .nil) (.o rfl (CstL.ims _) .nil)) rfl (.cons .im (.cons (.r rfl) (.cons .im (.cons (.s rfl) (.i2 .nil))))))⟩
  rintro ⟨v15, v16⟩ H
  unfold Y5e at H
  change AW _ _ _ [(1, sC t1), Zag, (5, .j v1), (6, .rsl 6 0 0 v16.length), (8, .j (Zae t1)), (9, .j v12)] [(2, ⟨0, true, 38, 2, [.j v15.Op, .j v15.N]⟩), (6, rtA 0 39 1 (eL (eI .u8)) v16)] _
  refine Y9 ?_
  have ⟨g17, H⟩ := Y8 H
  refine Ya 3 [9, 1, 2, 5, 6, 8] ((9, .j (v12 + 1)) :: (1, sC t1) :: Zag :: (5, .j v1) :: (6, .rsl 6 0 0 v16.length) :: (Zad t1)) ⟨g17, trivial⟩ (Y1 ?_)
  exact ⟨(v15, v16, v12 + 1), H, (StC.mk (phi [(2, some 2), (6, some 6)]) (.o rfl (.i2 .nil) (.o rfl (CstL.ims _) .nil)) rfl (.cons .im (.cons (.r rfl) (.cons .im (.cons (.s rfl) (.i2 .nil))))))⟩
 refine AW.exit (Y0 ?_)
 have ⟨g27, H⟩ := Y8 H
 refine Ya 3 [67, 65, 1, 2, 5, 6, 8] ((67, .j (v1 + 2)) :: (65, .rsl 6 0 0 v11.length) :: (1, sC t1) :: Zag :: (5, .j v1) :: (6, .rsl 6 0 0 v11.length) :: (Zad t1)) ⟨g27, trivial⟩ ?_
 have ⟨x28, hx28, H⟩ := Yw H
 refine Yl rfl (.cons (.pur rfl) .nil) (f_R11_bar_ok hx28) ?_
 have ⟨g29, H⟩ := Y8 H
 refine Ym (enc := eL (eI .u8)) [x28] rfl rfl rfl (by decide) rfl rfl rfl (by simp) E30 (fun _ => rfl) (by decide) trivial (by kernel_rfl) (by kernel_rfl) (by kernel_rfl) rfl rfl rfl g29 (Y2 1 [6, 1, 2, 5, 8] ((6, .rsl 6 1 0 (Zaj v11 x28)) :: (1, sC t1) :: Zag :: (5, .j v1) :: (Zad t1)) (OpsW.rc ((6, .rsl 6 0 0 (Zaj v11 x28)) :: (1, sC t1) :: Zag :: (5, .j v1) :: (Zad t1)) [(2, ⟨0, true, 38, 2, [.j v10.Op, .j v10.N]⟩), (6, rtA 0 39 1 (eL (eI .u8)) (v11 ++ [x28]))] (StC.mk (phi [(2, some 2), (6, some 6)]) (.o rfl (.i2 .nil) (.o rfl (CstL.ims _) .nil)) rfl (.cons (.s rfl) (.cons .im (.cons (.r rfl) (.i2 .nil))))) ?_))
 refine Y1 (Yi (Y0 (Y2 3 [73, 6, 1, 5, 8] (Za5 t1 v1 v10 v11 x28) ?_)))
 refine Y1 (Y6 (b := v10.Op == 12) H rfl (fun c30 H => ?_) (fun c30 H => ?_))
 ·refine AW.drawTSeq 10 Tryd.checked.mixed (by kernel_rfl) ?_
  refine QOps.sz (N := 96) 1 ((74, .rsl 6 0 0 (Zaj v11 x28)) :: (Za5 t1 v1 v10 v11 x28)) trivial ?_
  have ⟨x31, hx31, H⟩ := Yw H
  refine QOps.qcall rfl (by kernel_rfl) rfl (Yd trivial) (.cons (.pur rfl) .nil) (Y55 hx31) rfl ?_
  have ⟨g32, H⟩ := Y8 H
  refine QOps.sz (N := 96) 3 (Za9 t1 v1 v10 v11 x28 x31) ⟨g32, trivial⟩ (QOps.asU (sU (Zal t1)) rfl (T.load rfl trivial (by kernel_rfl) (Y0b (eL (eI .u8)) 1 (fun _ => rfl) t1 [] (Zae t1).toNat (ltN g32) (fun a => .sl (a.flatMap (eI .u8)) a.length) (fun _ => rfl))) (QOps.sz (N := 96) 1 ((80, .j v1) :: (79, sU (Zal t1)) :: (Za9 t1 v1 v10 v11 x28 x31)) trivial ?_))
  have ⟨x33, hx33, H⟩ := Yw H
  refine QOps.qcall rfl (by kernel_rfl) rfl (Yd trivial) (.cons (.pur rfl) (.cons (.pur rfl) .nil)) (f_R11_left_ok hx33) rfl ?_
  have ⟨x34, hx34, H⟩ := Yw H
  refine QOps.qcall rfl (by kernel_rfl) rfl (Yd trivial) (.cons (.pur rfl) (.cons (.pur rfl) .nil)) (Y45 hx34) rfl (QOps.buildTI (enc := eL (eI .u8)) [x34] rfl rfl E30 (fun _ => rfl) (by decide) ⟨trivial, by kernel_rfl, by kernel_rfl, by kernel_rfl, rfl⟩ ?_)
  refine QOps.nil (Y2 0 [83, 74] [(83, sC [x34]), (74, .rsl 6 0 0 (Zaj v11 x28))] ?_)
  have ⟨g35, H⟩ := Y8 H
  refine Y06 (enc := eL (eI .u8)) (ys := [x34]) rfl rfl rfl E30 (fun _ => rfl) rfl rfl trivial (SrcA.typed (enc := eL (eI .u8)) (fun _ => rfl) (by kernel_rfl) [x34]) rfl g35 (Y2 1 [4] [(4, .rsl 6 1 0 (((v11 ++ [x28]) ++ [x34]).length))] (OpsW.rc [(4, sC ((v11 ++ [x28]) ++ [x34]))] [] (StC.mk (phi []) .nil rfl (.cons (.frz rfl rfl rfl (Y1y (eL (eI .u8)) 1 (fun _ => rfl) ((v11 ++ [x28]) ++ [x34])) (Yn (eL (eI .u8)) 1 (fun _ => rfl) ((v11 ++ [x28]) ++ [x34])) (Y3f rfl)) .nil)) (Y1 ?_)))
  obtain rfl := X2 H
  refine AW.recast (env' := [(4, sC ((v11 ++ [x28]) ++ [x34]))]) (h' := []) (StC.pure (.cons .im .nil)) (Yh ?_)
  try simp only [Ex.t, Ex.b]
  exact Done.eq rfl (.tmp .nil)
 refine Yc (AW.drawTSeq 10 Tryd.checked.mixed (by kernel_rfl) ?_)
 refine QOps.sz (N := 96) 1 ((85, .rsl 6 0 0 (Zaj v11 x28)) :: (Za5 t1 v1 v10 v11 x28)) trivial ?_
 have ⟨x36, hx36, H⟩ := Yw H
 refine QOps.qcall rfl (by kernel_rfl) rfl (Yd trivial) (.cons (.pur rfl) .nil) (Y55 hx36) rfl ?_
 have ⟨g37, H⟩ := Y8 H
 refine QOps.sz (N := 96) 3 (Zaa t1 v1 v10 v11 x28 x36) ⟨g37, trivial⟩ (QOps.asU (sU (Zal t1)) rfl (T.load rfl trivial (by kernel_rfl) (Y0b (eL (eI .u8)) 1 (fun _ => rfl) t1 [] (Zae t1).toNat (ltN g37) (fun a => .sl (a.flatMap (eI .u8)) a.length) (fun _ => rfl))) (QOps.sz (N := 96) 1 ((91, .j v1) :: (90, sU (Zal t1)) :: (Zaa t1 v1 v10 v11 x28 x36)) trivial ?_))
 have ⟨x38, hx38, H⟩ := Yw H
 refine QOps.qcall rfl (by kernel_rfl) rfl (Yd trivial) (.cons (.pur rfl) (.cons (.pur rfl) .nil)) (f_R11_right_ok hx38) rfl ?_
 have ⟨x39, hx39, H⟩ := Yw H
 refine QOps.qcall rfl (by kernel_rfl) rfl (Yd trivial) (.cons (.pur rfl) (.cons (.pur rfl) .nil)) (Y45 hx39) rfl (QOps.buildTI (enc := eL (eI .u8)) [x39] rfl rfl E30 (fun _ => rfl) (by decide) ⟨trivial, by kernel_rfl, by kernel_rfl, by kernel_rfl, rfl⟩ ?_)
 refine QOps.nil (Y2 0 [94, 85] [(94, sC [x39]), (85, .rsl 6 0 0 (Zaj v11 x28))] ?_)
 have ⟨g40, H⟩ := Y8 H
 refine Y06 (enc := eL (eI .u8)) (ys := [x39]) rfl rfl rfl E30 (fun _ => rfl) rfl rfl trivial (SrcA.typed (enc := eL (eI .u8)) (fun _ => rfl) (by kernel_rfl) [x39]) rfl g40 (Y2 1 [4] [(4, .rsl 6 1 0 (((v11 ++ [x28]) ++ [x39]).length))] (OpsW.rc [(4, sC ((v11 ++ [x28]) ++ [x39]))] [] (StC.mk (phi []) .nil rfl (.cons (.frz rfl rfl rfl (Y1y (eL (eI .u8)) 1 (fun _ => rfl) ((v11 ++ [x28]) ++ [x39])) (Yn (eL (eI .u8)) 1 (fun _ => rfl) ((v11 ++ [x28]) ++ [x39])) (Y3f rfl)) .nil)) (Y1 ?_)))
 obtain rfl := X2 H
 refine AW.recast (env' := [(4, sC ((v11 ++ [x28]) ++ [x39]))]) (h' := []) (StC.pure (.cons .im .nil)) (Yh ?_)
 try simp only [Ex.t, Ex.b]
 exact Done.eq rfl (.tmp .nil)
def Y57 (t0 : List Y4) (x5 : List (List Y4)) (loop8 : ((List (List Int)) × Int) → Option ((List (List Int)) × Int)) (v6 : List (List Int)) (v7 : Int) : Option ((List (List Int)) × Int) :=
 cond (decide (v7 < (x5.length : Int))) (
  G (0 ≤ v7 ∧ v7 < (x5.length : Int)) <|
  (f_R10_Write (x5.getD v7.toNat [])).bind fun x11 =>
  cond (x11.2 != 0) (
   some ([], (110 : Int))) (
   G (room 24 (v6.length + 1)) <|
   G (inR (v7 + 1)) <|
   loop8 (v6 ++ [x11.1], v7 + 1))) (
  (Y63 (t0.getD (0 : Int).toNat Yb) v6).bind fun x15 =>
  G (0 ≤ (0 : Int) ∧ (0 : Int) < (x15.length : Int)) <|
  cond (decide (24 < ((x15.getD (0 : Int).toNat []).length : Int))) (
   some ([], (110 : Int))) (
   some (x15, (0 : Int))))
def Y5o (t0 : List Y4) : Option ((List (List Int)) × Int) :=
 (Y34 t0).bind fun x1 =>
 cond (!x1) (
  some ([], (90 : Int))) (
  G (0 ≤ (0 : Int) ∧ (0 : Int) < (t0.length : Int)) <|
  cond (cond (cond (((t0.getD (0 : Int).toNat Yb).Op) != 12) (((t0.getD (0 : Int).toNat Yb).Op) != 13) false) (((t0.getD (0 : Int).toNat Yb).Op) != 6) false) (
   some ([], (110 : Int))) (
   (f_R11_Entries t0).bind fun x5 =>
   iter (fun loop (s : (List (List Int)) × Int) => Y57 t0 x5 loop s.1 s.2) 1000000 (([] : List (List Int)), (0 : Int))))
section
variable (t0 : List Y4) (v6 : List (List Int)) (v7 : Int) (x5 : List (List Y4))
abbrev Zas := ((t0.getD (0 : Int).toNat Yb).Op)
abbrev Zat := cond ((Zas t0) != 12) ((Zas t0) != 13) false
abbrev Zau : Nat × AV := (5, slA (eL Y3) x5)
abbrev Zav := ([] : List (List Int))
abbrev Zan : Env := [(0, slA Y3 t0), (Zau x5), (6, .rsl 6 0 0 v6.length), (7, .j v7)]
abbrev Zao : Env := [(0, slA Y3 t0)]
abbrev Zap : Env := [(3, .j (110 : Int)), (2, .im (.val (.slice none 0 0)))]
abbrev Zaq : Env := [(59, .agg [.j (Zas t0), .j ((t0.getD (0 : Int).toNat Yb).N)])]
abbrev Zar : Env := (6, .rsl 6 0 0 (Zav.length)) :: (Zau x5) :: (Zao t0)
end
theorem f_R11_Lay_ok  {t0 : List Y4} {r : (List (List Int)) × Int} (H : Y5o t0 = some r) : QSpec Tryd.prog 10 [slA Y3 t0] (.tup [slA (eL (eI .u8)) r.1, .int .i64 r.2]) := by
 refine Ye Tryd.func10 rfl (by simp [Tryd.ntmps10]) ?_
 rw [Tryd.ntmps10]
 unfold Y5o at H
 change AW _ _ _ (Zao t0) [] _
 refine Y0 (Y2 2 [0] (Zao t0) ?_)
 refine Y1 (Y0 (Y2 1 [11, 0] ((11, slA Y3 t0) :: (Zao t0)) ?_))
 have ⟨x1, hx1, H⟩ := Yw H
 refine Yl rfl (.cons (.pur rfl) .nil) (f_R09_Valid_ok hx1) (Y2 1 [4, 0] ((4, .bool x1) :: (Zao t0)) ?_)
 refine Y1 (Yi (Y0 (Y2 2 [14, 0] ((14, .bool (!x1)) :: (Zao t0)) ?_)))
 refine Y1 (Y6 (b := !x1) H rfl (fun c2 H => ?_) (fun c2 H => ?_))
 ·refine Y0 (Y2 2 [3, 2] [(3, .j (90 : Int)), (2, .im (.val (.slice none 0 0)))] ?_)
  refine Y1 ?_
  obtain rfl := X2 H
  refine AW.recast (env' := [(2, sC []), (3, .j (90 : Int))]) (h' := []) (StC.pure (.cons .nil (.cons .im .nil))) (Yh ?_)
  try simp only [Ex.t, Ex.b]
  exact Done.eq rfl (.tmp (.tmp .nil))
 refine Yc (Yi (Y0 ?_))
 have ⟨g3, H⟩ := Y8 H
 refine Ya 3 [17, 0] ((17, .ipt (t0.flatMap Y3) ((0 : Int).toNat * 2 + 0)) :: (Zao t0)) ⟨g3, trivial⟩ (OpsW.asU (.j (Zas t0)) rfl rfl (T.load rfl trivial (by kernel_rfl) (Y5w Y3 2 (fun _ => rfl) t0 Yb (0 : Int).toNat (ltN g3) 0 (fun a => .val (.j a.Op)) (fun _ => rfl))) (Ya 5 [23, 20, 0] ((23, .cnd ((Zas t0) != 12) (.ipt (t0.flatMap Y3) ((0 : Int).toNat * 2 + 0))) :: (20, .bool ((Zas t0) != 12)) :: (Zao t0)) ⟨(fun h => h), (fun _ => g3), (fun h => h), trivial⟩ (OpsW.asG (c := (Zas t0) != 12) (.j (Zas t0)) rfl rfl rfl rfl (fun hc => T.load rfl hc (by kernel_rfl) (Y5w Y3 2 (fun _ => rfl) t0 Yb (0 : Int).toNat (ltN g3) 0 (fun a => .val (.j a.Op)) (fun _ => rfl))) (Ya 6 [30, 27, 0] ((30, .cnd (Zat t0) (.ipt (t0.flatMap Y3) ((0 : Int).toNat * 2 + 0))) :: (27, .bool (Zat t0)) :: (Zao t0)) ⟨(fun h => h), (fun h => by first | exact h | (simpa using h) | grind), (fun h => h), (fun _ => g3), (fun h => h), trivial⟩ (OpsW.asG (c := cond ((Zas t0) != 12) ((Zas t0) != 13) false) (.j (Zas t0)) rfl rfl rfl rfl (fun hc => T.load rfl hc (by kernel_rfl) (Y5w Y3 2 (fun _ => rfl) t0 Yb (0 : Int).toNat (ltN g3) 0 (fun a => .val (.j a.Op)) (fun _ => rfl))) (Ya 2 [33, 0] ((33, .bool (cond (Zat t0) ((Zas t0) != 6) false)) :: (Zao t0)) ⟨(fun h => h), (fun h => by first | exact h | (simpa using h) | grind), trivial⟩ (Y1 (Y6 (b := cond (Zat t0) ((Zas t0) != 6) false) H rfl (fun c4 H => ?_) (fun c4 H => ?_)))))))))
 ·refine Y0 (Y2 2 [3, 2] Zap ?_)
  refine Y1 ?_
  obtain rfl := X2 H
  refine AW.recast (env' := [(2, sC []), (3, .j (110 : Int))]) (h' := []) (StC.pure (.cons .nil (.cons .im .nil))) (Yh ?_)
  try simp only [Ex.t, Ex.b]
  exact Done.eq rfl (.tmp (.tmp .nil))
 refine Yc (Y0 (Y2 1 [34, 0] ((34, slA Y3 t0) :: (Zao t0)) ?_))
 have ⟨x5, hx5, H⟩ := Yw H
 refine Yl rfl (.cons (.pur rfl) .nil) (f_R11_Entries_ok hx5) (Y1o (enc := eL (eI .u8)) Zav rfl rfl rfl 36 rfl E30 (fun _ => rfl) (by decide) trivial (by kernel_rfl) (by kernel_rfl) (by kernel_rfl) rfl (Y2 2 [6, 5, 0] ((6, .rsl 36 0 0 (Zav.length)) :: (Zau x5) :: (Zao t0)) (OpsW.rc (Zar t0 x5) [(6, rtA 0 39 1 (eL (eI .u8)) Zav)] (StC.mk (phi [(6, some 36)]) (.o rfl (CstL.ims _) .nil) rfl (.cons (.s rfl) (.i2 .nil))) ?_)))
 refine Y1 (Yi (Y0 (Y2 1 [7, 6, 5, 0] ((7, .j (0 : Int)) :: (Zar t0 x5)) ?_)))
 refine Y1 (Yg ?_)
 refine Y0z (fun loop (s : (List (List Int)) × Int) => Y57 t0 x5 loop s.1 s.2) r (fun (s : (List (List Int)) × Int) => [(0, slA Y3 t0), (Zau x5), (6, .rsl 6 0 0 s.1.length), (7, .j s.2)]) (fun (s : (List (List Int)) × Int) => [(6, rtA 0 39 1 (eL (eI .u8)) s.1)]) ?_ 1000000 (Zav, (0 : Int)) H (StC.mk (phi [(6, some 6)]) (.o rfl (CstL.ims _) .nil) rfl (.i2 (.cons (.s rfl) (.cons .im .nil))))
 intro loop8 s H
 obtain ⟨v6, v7⟩ := s
 unfold Y57 at H
 change AW _ _ _ (Zan t0 v6 v7 x5) [(6, rtA 0 39 1 (eL (eI .u8)) v6)] _
 refine Yi (Y0 (Y2 4 [40, 0, 5, 6, 7] ((40, .bool (decide (v7 < (x5.length : Int)))) :: (Zan t0 v6 v7 x5)) ?_))
 refine Y1 (Y6 (b := decide (v7 < (x5.length : Int))) H rfl (fun c9 H => ?_) (fun c9 H => ?_))
 ·refine Yc (Yi (Yg (Y0 ?_)))
  have ⟨g10, H⟩ := Y8 H
  refine Ya 3 [46, 0, 5, 6, 7] ((46, .ipt (x5.flatMap (eL Y3)) (v7.toNat * 1)) :: (Zan t0 v6 v7 x5)) ⟨g10, trivial⟩ (OpsW.asU (slA Y3 (x5.getD v7.toNat [])) rfl rfl (T.load rfl trivial (by kernel_rfl) (Y0b (eL Y3) 1 (fun _ => rfl) x5 [] v7.toNat (ltN g10) (fun a => .sl (a.flatMap Y3) a.length) (fun _ => rfl))) ?_)
  have ⟨x11, hx11, H⟩ := Yw H
  refine Yl rfl (.cons (.pur rfl) .nil) (f_R10_Write_ok hx11) (Y2 5 [9, 8, 0, 5, 6, 7] ((9, .j x11.2) :: (8, sU x11.1) :: (Zan t0 v6 v7 x5)) ?_)
  refine Y1 (Yi (Y0 (Y2 2 [52, 8, 0, 5, 6, 7] ((52, .bool (x11.2 != 0)) :: (8, sU x11.1) :: (Zan t0 v6 v7 x5)) ?_)))
  refine Y1 (Y6 (b := x11.2 != 0) H rfl (fun c12 H => ?_) (fun c12 H => ?_))
  ·refine Y0 (Y2 2 [3, 2] Zap ?_)
   refine Y1 ?_
   obtain rfl := X2 H
   refine AW.recast (env' := [(2, sC []), (3, .j (110 : Int))]) (h' := []) (StC.pure (.cons .nil (.cons .im .nil))) (Yh ?_)
   try simp only [Ex.t, Ex.b]
   exact Done.eq rfl (.tmp (.tmp .nil))
  refine Yc (Y9 (Y2 2 [54, 53, 0, 5, 6, 7] ((54, sU x11.1) :: (53, .rsl 6 0 0 v6.length) :: (Zan t0 v6 v7 x5)) ?_))
  have ⟨g13, H⟩ := Y8 H
  refine Ym (enc := eL (eI .u8)) [x11.1] rfl rfl rfl (by decide) rfl rfl rfl (by simp) E30 (fun _ => rfl) (by decide) trivial (by kernel_rfl) (by kernel_rfl) (by kernel_rfl) rfl rfl rfl g13 (Y2 1 [6, 0, 5, 7] [(6, .rsl 6 1 0 ((v6 ++ [x11.1]).length)), (0, slA Y3 t0), (Zau x5), (7, .j v7)] (OpsW.rc [(6, .rsl 6 0 0 ((v6 ++ [x11.1]).length)), (0, slA Y3 t0), (Zau x5), (7, .j v7)] [(6, rtA 0 39 1 (eL (eI .u8)) (v6 ++ [x11.1]))] (StC.mk (phi [(6, some 6)]) (.o rfl (CstL.ims _) .nil) rfl (.cons (.s rfl) (.i3 .nil))) ?_))
  refine Y1 (Y9 ?_)
  have ⟨g14, H⟩ := Y8 H
  refine Ya 3 [7, 6, 0, 5] [(7, .j (v7 + 1)), (6, .rsl 6 0 0 ((v6 ++ [x11.1]).length)), (0, slA Y3 t0), (Zau x5)] ⟨g14, trivial⟩ (Y1 ?_)
  exact ⟨(v6 ++ [x11.1], v7 + 1), H, (StC.mk (phi [(6, some 6)]) (.o rfl (CstL.ims _) .nil) rfl (.i2 (.cons (.s rfl) (.cons .im .nil))))⟩
 refine AW.exit ?_
 refine Y0 (Ya 2 [58, 6] [(58, .ipt (t0.flatMap Y3) ((0 : Int).toNat * 2)), (6, .rsl 6 0 0 v6.length)] ⟨g3, trivial⟩ ?_)
 refine OpsW.asU (.agg [.j (Zas t0), .j ((t0.getD (0 : Int).toNat Yb).N)]) rfl rfl (Y4a (cs := t0.flatMap Y3) (off := (0 : Int).toNat * 2) (ds := Y3 (t0.getD (0 : Int).toNat Yb)) rfl trivial (by kernel_rfl) (by have := Yn Y3 2 (fun _ => rfl) t0; have := (ltN g3); first | omega | (simp only [Zas] at *; omega)) (fm_elem Y3 2 (fun _ => rfl) t0 Yb (0 : Int).toNat (ltN g3))) (Y2 1 [60, 59] ((60, .rsl 6 0 0 v6.length) :: (Zaq t0)) (OpsW.rc ((60, sC v6) :: (Zaq t0)) [] (StC.mk (phi []) .nil rfl (.cons (.frz rfl rfl rfl (Y1y (eL (eI .u8)) 1 (fun _ => rfl) v6) (Yn (eL (eI .u8)) 1 (fun _ => rfl) v6) (Y3f rfl)) (.cons (.agg (.i2 .nil)) .nil))) ?_))
 have ⟨x15, hx15, H⟩ := Yw H
 refine Yl rfl (.cons (.pur rfl) (.cons (.pur rfl) .nil)) (f_R11_rows_ok hx15) (Y2 1 [10] [(10, sC x15)] ?_)
 refine Y1 (Yi (Y0 ?_))
 have ⟨g16, H⟩ := Y8 H
 refine Ya 2 [63, 10] [(63, .ipt (x15.flatMap (eL (eI .u8))) ((0 : Int).toNat * 1)), (10, sC x15)] ⟨g16, trivial⟩ (OpsW.asU (sU (x15.getD (0 : Int).toNat [])) rfl rfl (T.load rfl trivial (by kernel_rfl) (Y0b (eL (eI .u8)) 1 (fun _ => rfl) x15 [] (0 : Int).toNat (ltN g16) (fun a => .sl (a.flatMap (eI .u8)) a.length) (fun _ => rfl))) (Y2 2 [66, 10] [(66, .bool (decide (24 < ((x15.getD (0 : Int).toNat []).length : Int)))), (10, sC x15)] (Y1 (Y6 (b := decide (24 < ((x15.getD (0 : Int).toNat []).length : Int))) H rfl (fun c17 H => ?_) (fun c17 H => ?_)))))
 ·refine Y0 (Y2 2 [3, 2] Zap ?_)
  refine Y1 ?_
  obtain rfl := X2 H
  refine AW.recast (env' := [(2, sC []), (3, .j (110 : Int))]) (h' := []) (StC.pure (.cons .nil (.cons .im .nil))) (Yh ?_)
  try simp only [Ex.t, Ex.b]
  exact Done.eq rfl (.tmp (.tmp .nil))
 refine Yc (Y0 (Y2 3 [3, 2] [(3, .j (0 : Int)), (2, sC x15)] ?_))
 refine Y1 ?_
 obtain rfl := X2 H
 refine AW.recast (env' := [(2, sC x15), (3, .j (0 : Int))]) (h' := []) (StC.pure (.i2 .nil)) (Yh ?_)
 try simp only [Ex.t, Ex.b]
 exact Done.eq rfl (.tmp (.tmp .nil))
def Y2h (t0 : List Int) (t1 : List Int) (loop3 : (Int) → Option Bool) (v2 : Int) : Option Bool :=
 cond (decide (v2 < (t0.length : Int))) (
  G (0 ≤ v2 ∧ v2 < (t0.length : Int)) <|
  G (0 ≤ v2 ∧ v2 < (t1.length : Int)) <|
  cond ((t0.getD v2.toNat 0) != (t1.getD v2.toNat 0)) (
   some false) (
   G (inR (v2 + 1)) <|
   loop3 (v2 + 1))) (
  some true)
def Y59 (t0 : List Int) (t1 : List Int) : Option Bool :=
 cond ((t0.length : Int) != (t1.length : Int)) (
  some false) (
  iter (fun loop (s : Int) => Y2h t0 t1 loop s) 1000000 (0 : Int))
section
variable (t0 : List Int) (t1 : List Int) (v2 : Int)
abbrev Zaw : Env := [(19, .ipt (t0.flatMap (eI .u8)) (v2.toNat * 1)), (18, .j v2), (17, sU t0), (14, .bool (decide (v2 < (t0.length : Int)))), (0, sU t0), (1, sU t1), (5, .j v2)]
abbrev Zax : Env := (23, .ipt (t1.flatMap (eI .u8)) (v2.toNat * 1)) :: (22, .j v2) :: (21, sU t1) :: (20, .int .u8 (t0.getD v2.toNat 0)) :: (Zaw t0 t1 v2)
end
theorem f_R02_SameCells_ok  {t0 : List Int} {t1 : List Int} {r : Bool} (H : Y59 t0 t1 = some r) : QSpec Tryd.prog 28 [slA (eI .u8) t0, slA (eI .u8) t1] (.bool r) := by
 refine Ye Tryd.func28 rfl (by simp [Tryd.ntmps28]) ?_
 rw [Tryd.ntmps28]
 unfold Y59 at H
 change AW _ _ _ [(0, sU t0), (1, sU t1)] [] _
 refine Y0 (Y2 1 [0, 1] [(0, sU t0), (1, sU t1)] ?_)
 refine Y1 (Yi (Y0 (Y2 5 [10, 0, 1] [(10, .bool ((t0.length : Int) != (t1.length : Int))), (0, sU t0), (1, sU t1)] ?_)))
 refine Y1 (Y6 (b := (t0.length : Int) != (t1.length : Int)) H rfl (fun c1 H => ?_) (fun c1 H => ?_))
 ·refine Y0 (Y2 1 [4] [(4, .bool false)] ?_)
  refine Y1 ?_
  obtain rfl := X2 H
  refine AW.recast (env' := [(4, .bool false)]) (h' := []) (StC.pure (.cons .im .nil)) (Yh ?_)
  try simp only [Ex.t, Ex.b]
  exact Done.eq rfl (.tmp .nil)
 refine Yc (Yi (Y0 (Y2 1 [5, 0, 1] [(5, .j (0 : Int)), (0, sU t0), (1, sU t1)] ?_)))
 refine Y1 (Yg ?_)
 refine Y0z (fun loop (s : Int) => Y2h t0 t1 loop s) r (fun (s : Int) => [(0, sU t0), (1, sU t1), (5, .j s)]) (fun (s : Int) => []) ?_ 1000000 (0 : Int) H (StC.pure (.i3 .nil))
 intro loop3 v2 H
 unfold Y2h at H
 change AW _ _ _ [(0, sU t0), (1, sU t1), (5, .j v2)] [] _
 refine Yi (Y0 (Y2 4 [14, 0, 1, 5] [(14, .bool (decide (v2 < (t0.length : Int)))), (0, sU t0), (1, sU t1), (5, .j v2)] ?_))
 refine Y1 (Y6 (b := decide (v2 < (t0.length : Int))) H rfl (fun c4 H => ?_) (fun c4 H => ?_))
 ·refine Yc (Yi (Yg (Y1t Tryd.checked.mixed (by kernel_rfl) ?_)))
  have ⟨g5, H⟩ := Y8 H
  refine QOps.sz (N := 26) 3 (Zaw t0 t1 v2) ⟨g5, trivial⟩ (QOps.asU (.int .u8 (t0.getD v2.toNat 0)) rfl (T.load rfl trivial (by kernel_rfl) (Y0b (eI .u8) 1 (fun _ => rfl) t0 (0 : Int) v2.toNat (ltN g5) (fun a => .val (.int .u8 a)) (fun _ => rfl))) ?_)
  have ⟨g6, H⟩ := Y8 H
  refine QOps.sz (N := 26) 3 (Zax t0 t1 v2) ⟨g6, trivial⟩ (QOps.asU (.int .u8 (t1.getD v2.toNat 0)) rfl (T.load rfl trivial (by kernel_rfl) (Y0b (eI .u8) 1 (fun _ => rfl) t1 (0 : Int) v2.toNat (ltN g6) (fun a => .val (.int .u8 a)) (fun _ => rfl))) (QOps.sz (N := 26) 1 ((25, .bool ((t0.getD v2.toNat 0) != (t1.getD v2.toNat 0))) :: (24, .int .u8 (t1.getD v2.toNat 0)) :: (Zax t0 t1 v2)) trivial ?_))
  refine QOps.nil (AW.trim [25, 0, 1, 5] [(25, .bool ((t0.getD v2.toNat 0) != (t1.getD v2.toNat 0))), (0, sU t0), (1, sU t1), (5, .j v2)] (by kernel_rfl) ?_)
  refine Y6 (b := (t0.getD v2.toNat 0) != (t1.getD v2.toNat 0)) H rfl (fun c7 H => ?_) (fun c7 H => ?_)
  ·refine Y0 (Y2 1 [4] [(4, .bool false)] ?_)
   refine Y1 ?_
   obtain rfl := X2 H
   refine AW.recast (env' := [(4, .bool false)]) (h' := []) (StC.pure (.cons .im .nil)) (Yh ?_)
   try simp only [Ex.t, Ex.b]
   exact Done.eq rfl (.tmp .nil)
  refine Yc (Y9 ?_)
  have ⟨g8, H⟩ := Y8 H
  refine Ya 3 [5, 0, 1] [(5, .j (v2 + 1)), (0, sU t0), (1, sU t1)] ⟨g8, trivial⟩ (Y1 ?_)
  exact ⟨v2 + 1, H, (StC.pure (.i3 .nil))⟩
 refine AW.exit ?_
 refine Y0 (Y2 1 [4] [(4, .bool true)] ?_)
 refine Y1 ?_
 obtain rfl := X2 H
 refine AW.recast (env' := [(4, .bool true)]) (h' := []) (StC.pure (.cons .im .nil)) (Yh ?_)
 try simp only [Ex.t, Ex.b]
 exact Done.eq rfl (.tmp .nil)
def Y5p (t0 : List (List Int)) (t1 : List (List Int)) (loop3 : (Int) → Option Bool) (v2 : Int) : Option Bool :=
 cond (decide (v2 < (t0.length : Int))) (
  G (0 ≤ v2 ∧ v2 < (t0.length : Int)) <|
  G (0 ≤ v2 ∧ v2 < (t1.length : Int)) <|
  (Y59 (t0.getD v2.toNat []) (t1.getD v2.toNat [])).bind fun x7 =>
  cond (!x7) (
   some false) (
   G (inR (v2 + 1)) <|
   loop3 (v2 + 1))) (
  some true)
def Y5y (t0 : List (List Int)) (t1 : List (List Int)) : Option Bool :=
 cond ((t0.length : Int) != (t1.length : Int)) (
  some false) (
  iter (fun loop (s : Int) => Y5p t0 t1 loop s) 1000000 (0 : Int))
section
variable (t0 : List (List Int)) (t1 : List (List Int)) (v2 : Int)
abbrev Zay : Env := [(19, .ipt (t0.flatMap (eL (eI .u8))) (v2.toNat * 1)), (18, .j v2), (17, sC t0), (14, .bool (decide (v2 < (t0.length : Int)))), (0, sC t0), (1, sC t1), (5, .j v2)]
abbrev Zaz : Env := (23, .ipt (t1.flatMap (eL (eI .u8))) (v2.toNat * 1)) :: (22, .j v2) :: (21, sC t1) :: (20, sU (t0.getD v2.toNat [])) :: (Zay t0 t1 v2)
end
theorem f_R11_Equal_ok  {t0 : List (List Int)} {t1 : List (List Int)} {r : Bool} (H : Y5y t0 t1 = some r) : QSpec Tryd.prog 11 [slA (eL (eI .u8)) t0, slA (eL (eI .u8)) t1] (.bool r) := by
 refine Ye Tryd.func11 rfl (by simp [Tryd.ntmps11]) ?_
 rw [Tryd.ntmps11]
 unfold Y5y at H
 change AW _ _ _ [(0, sC t0), (1, sC t1)] [] _
 refine Y0 (Y2 1 [0, 1] [(0, sC t0), (1, sC t1)] ?_)
 refine Y1 (Yi (Y0 (Y2 5 [10, 0, 1] [(10, .bool ((t0.length : Int) != (t1.length : Int))), (0, sC t0), (1, sC t1)] ?_)))
 refine Y1 (Y6 (b := (t0.length : Int) != (t1.length : Int)) H rfl (fun c1 H => ?_) (fun c1 H => ?_))
 ·refine Y0 (Y2 1 [4] [(4, .bool false)] ?_)
  refine Y1 ?_
  obtain rfl := X2 H
  refine AW.recast (env' := [(4, .bool false)]) (h' := []) (StC.pure (.cons .im .nil)) (Yh ?_)
  try simp only [Ex.t, Ex.b]
  exact Done.eq rfl (.tmp .nil)
 refine Yc (Yi (Y0 (Y2 1 [5, 0, 1] [(5, .j (0 : Int)), (0, sC t0), (1, sC t1)] ?_)))
 refine Y1 (Yg ?_)
 refine Y0z (fun loop (s : Int) => Y5p t0 t1 loop s) r (fun (s : Int) => [(0, sC t0), (1, sC t1), (5, .j s)]) (fun (s : Int) => []) ?_ 1000000 (0 : Int) H (StC.pure (.i3 .nil))
 intro loop3 v2 H
 unfold Y5p at H
 change AW _ _ _ [(0, sC t0), (1, sC t1), (5, .j v2)] [] _
 refine Yi (Y0 (Y2 4 [14, 0, 1, 5] [(14, .bool (decide (v2 < (t0.length : Int)))), (0, sC t0), (1, sC t1), (5, .j v2)] ?_))
 refine Y1 (Y6 (b := decide (v2 < (t0.length : Int))) H rfl (fun c4 H => ?_) (fun c4 H => ?_))
 ·refine Yc (Yi (Yg (Y1t Tryd.checked.mixed (by kernel_rfl) ?_)))
  have ⟨g5, H⟩ := Y8 H
  refine QOps.sz (N := 27) 3 (Zay t0 t1 v2) ⟨g5, trivial⟩ (QOps.asU (sU (t0.getD v2.toNat [])) rfl (T.load rfl trivial (by kernel_rfl) (Y0b (eL (eI .u8)) 1 (fun _ => rfl) t0 [] v2.toNat (ltN g5) (fun a => .sl (a.flatMap (eI .u8)) a.length) (fun _ => rfl))) ?_)
  have ⟨g6, H⟩ := Y8 H
  refine QOps.sz (N := 27) 3 (Zaz t0 t1 v2) ⟨g6, trivial⟩ (QOps.asU (sU (t1.getD v2.toNat [])) rfl (T.load rfl trivial (by kernel_rfl) (Y0b (eL (eI .u8)) 1 (fun _ => rfl) t1 [] v2.toNat (ltN g6) (fun a => .sl (a.flatMap (eI .u8)) a.length) (fun _ => rfl))) ?_)
  have ⟨x7, hx7, H⟩ := Yw H
  refine QOps.qcall rfl (by kernel_rfl) rfl (Yd trivial) (.cons (.pur rfl) (.cons (.pur rfl) .nil)) (f_R02_SameCells_ok hx7) rfl (QOps.sz (N := 27) 1 ((26, .bool (!x7)) :: (25, .bool x7) :: (24, sU (t1.getD v2.toNat [])) :: (Zaz t0 t1 v2)) trivial ?_)
  refine QOps.nil (AW.trim [26, 0, 1, 5] [(26, .bool (!x7)), (0, sC t0), (1, sC t1), (5, .j v2)] (by kernel_rfl) ?_)
  refine Y6 (b := !x7) H rfl (fun c8 H => ?_) (fun c8 H => ?_)
  ·refine Y0 (Y2 1 [4] [(4, .bool false)] ?_)
   refine Y1 ?_
   obtain rfl := X2 H
   refine AW.recast (env' := [(4, .bool false)]) (h' := []) (StC.pure (.cons .im .nil)) (Yh ?_)
   try simp only [Ex.t, Ex.b]
   exact Done.eq rfl (.tmp .nil)
  refine Yc (Y9 ?_)
  have ⟨g9, H⟩ := Y8 H
  refine Ya 3 [5, 0, 1] [(5, .j (v2 + 1)), (0, sC t0), (1, sC t1)] ⟨g9, trivial⟩ (Y1 ?_)
  exact ⟨v2 + 1, H, (StC.pure (.i3 .nil))⟩
 refine AW.exit ?_
 refine Y0 (Y2 1 [4] [(4, .bool true)] ?_)
 refine Y1 ?_
 obtain rfl := X2 H
 refine AW.recast (env' := [(4, .bool true)]) (h' := []) (StC.pure (.cons .im .nil)) (Yh ?_)
 try simp only [Ex.t, Ex.b]
 exact Done.eq rfl (.tmp .nil)
def f_R11_Fits (t0 : List Y4) : Option Bool :=
 (Y5o t0).bind fun x1 =>
 some (x1.2 == 0)
theorem f_R11_Fits_ok  {t0 : List Y4} {r : Bool} (H : f_R11_Fits t0 = some r) : QSpec Tryd.prog 13 [slA Y3 t0] (.bool r) := by
 refine Ye Tryd.func13 rfl (by simp [Tryd.ntmps13]) ?_
 rw [Tryd.ntmps13]
 unfold f_R11_Fits at H
 change AW _ _ _ [(0, slA Y3 t0)] [] _
 refine Y0 (Y2 1 [0] [(0, slA Y3 t0)] ?_)
 refine Y1 (Y0 (Y2 1 [6] [(6, slA Y3 t0)] ?_))
 have ⟨x1, hx1, H⟩ := Yw H
 refine Yl rfl (.cons (.pur rfl) .nil) (f_R11_Lay_ok hx1) (Y2 5 [4] [(4, .j x1.2)] ?_)
 refine Y1 (Y0 (Y2 3 [2] [(2, .bool (x1.2 == 0))] ?_))
 refine Y1 ?_
 obtain rfl := X2 H
 refine AW.recast (env' := [(2, .bool (x1.2 == 0))]) (h' := []) (StC.pure (.cons .im .nil)) (Yh ?_)
 try simp only [Ex.t, Ex.b]
 exact Done.eq rfl (.tmp .nil)
def Y11 (t1 : Int) (x1 : Bool) (x2 : List Y4) (loop6 : (Int) → Option Bool) (v5 : Int) : Option Bool :=
 cond (decide (v5 < ([x2, x2.take ((Int.tmod (IntKind.wrap .i64 t1) (x2.length : Int)).toNat), x2.drop ((Int.tmod (IntKind.wrap .i64 t1) (x2.length : Int)).toNat)].length : Int))) (
  G (0 ≤ v5 ∧ v5 < ([x2, x2.take ((Int.tmod (IntKind.wrap .i64 t1) (x2.length : Int)).toNat), x2.drop ((Int.tmod (IntKind.wrap .i64 t1) (x2.length : Int)).toNat)].length : Int)) <|
  (Y2s ([x2, x2.take ((Int.tmod (IntKind.wrap .i64 t1) (x2.length : Int)).toNat), x2.drop ((Int.tmod (IntKind.wrap .i64 t1) (x2.length : Int)).toNat)].getD v5.toNat [])).bind fun x9 =>
  (Y5o ([x2, x2.take ((Int.tmod (IntKind.wrap .i64 t1) (x2.length : Int)).toNat), x2.drop ((Int.tmod (IntKind.wrap .i64 t1) (x2.length : Int)).toNat)].getD v5.toNat [])).bind fun x10 =>
  (Y5y x9.1 x10.1).bind fun x11 =>
  (cond (!(cond (!x11) true (x9.2 != x10.2))) (Y5n ([x2, x2.take ((Int.tmod (IntKind.wrap .i64 t1) (x2.length : Int)).toNat), x2.drop ((Int.tmod (IntKind.wrap .i64 t1) (x2.length : Int)).toNat)].getD v5.toNat [])) (some false)).bind fun x12 =>
  (cond (!(cond (!x11) true (x9.2 != x10.2))) (f_R11_Fits ([x2, x2.take ((Int.tmod (IntKind.wrap .i64 t1) (x2.length : Int)).toNat), x2.drop ((Int.tmod (IntKind.wrap .i64 t1) (x2.length : Int)).toNat)].getD v5.toNat [])) (some false)).bind fun x13 =>
  cond (cond (cond (!x11) true (x9.2 != x10.2)) true (x12 != x13)) (
   some false) (
   G (inR (v5 + 1)) <|
   loop6 (v5 + 1))) (
  some x1)
def Y21 (t0 : Y4v) (t1 : Int) : Option Bool :=
 (f_L11_sanity).bind fun x1 =>
 (f_R11_Made t0).bind fun x2 =>
 G ((x2.length : Int) ≠ 0) <|
 G (0 ≤ (Int.tmod (IntKind.wrap .i64 t1) (x2.length : Int)) ∧ (Int.tmod (IntKind.wrap .i64 t1) (x2.length : Int)) ≤ (x2.length : Int)) <|
 iter (fun loop (s : Int) => Y11 t1 x1 x2 loop s) 1000000 (0 : Int)
section
variable (t0 : Y4v) (t1 : Int) (v5 : Int) (x1 : Bool) (x2 : List Y4) (x9 : ((List (List Int)) × Int)) (x10 : ((List (List Int)) × Int)) (x11 : Bool) (x12 : Bool)
abbrev Zb5 := ((Int.tmod (IntKind.wrap .i64 t1) (x2.length : Int)).toNat)
abbrev Zb6 := cond (!x11) true (x9.2 != x10.2)
abbrev Zb7 := slA Y3 ([x2, x2.take (Zb5 t1 x2), x2.drop (Zb5 t1 x2)].getD v5.toNat [])
abbrev Zb8 : Nat × AV := (7, slA (eL Y3) [x2, x2.take (Zb5 t1 x2), x2.drop (Zb5 t1 x2)])
abbrev Zb9 := [x2, x2.take (Zb5 t1 x2), x2.drop (Zb5 t1 x2)].flatMap (eL Y3)
abbrev Zba := (Int.tmod (IntKind.wrap .i64 t1) (x2.length : Int))
abbrev Zbb : List AV := [.int .u8 t0.Kind, .int .u8 t0.N, slA eA43 t0.L]
abbrev Zb0 : Env := [(66, .cnd (!(Zb6 x9 x10 x11)) (.ipt (Zb9 t1 x2) (v5.toNat * 1))), (65, .cnd (!(Zb6 x9 x10 x11)) (.j v5)), (64, .cnd (!(Zb6 x9 x10 x11)) (slA (eL Y3) [x2, x2.take (Zb5 t1 x2), x2.drop (Zb5 t1 x2)])), (63, .bool (Zb6 x9 x10 x11)), (62, .bool (Zb6 x9 x10 x11)), (61, .cnd (!(!x11)) (.bool (x9.2 != x10.2))), (60, .cnd (!(!x11)) (.j x10.2)), (59, .cnd (!(!x11)) (.j x9.2)), (58, .bool (!x11)), (57, .bool (!x11)), (56, .bool x11), (55, sC x10.1), (54, sC x9.1), (12, .j x10.2), (11, sC x10.1), (10, .j x9.2), (9, sC x9.1), (5, .bool x1), (Zb8 t1 x2), (8, .j v5)]
abbrev Zb1 : Env := [(5, .bool x1), (Zb8 t1 x2), (8, .j v5)]
abbrev Zb2 : Env := (71, .cnd (!(Zb6 x9 x10 x11)) (.ipt (Zb9 t1 x2) (v5.toNat * 1))) :: (70, .cnd (!(Zb6 x9 x10 x11)) (.j v5)) :: (69, .cnd (!(Zb6 x9 x10 x11)) (slA (eL Y3) [x2, x2.take (Zb5 t1 x2), x2.drop (Zb5 t1 x2)])) :: (68, .cnd (!(Zb6 x9 x10 x11)) (.bool x12)) :: (67, .cnd (!(Zb6 x9 x10 x11)) (Zb7 t1 v5 x2)) :: (Zb0 t1 v5 x1 x2 x9 x10 x11)
abbrev Zb3 : Env := [(29, .j (Zba t1 x2)), (28, .j (x2.length : Int)), (27, slA Y3 x2), (26, .j (IntKind.wrap .i64 t1)), (25, .int .u8 t1), (24, slA Y3 x2), (23, slA Y3 (x2.take (Zb5 t1 x2))), (22, .j (Zba t1 x2)), (21, .j (x2.length : Int)), (20, slA Y3 x2), (19, .j (IntKind.wrap .i64 t1)), (18, .int .u8 t1), (17, slA Y3 x2), (16, slA Y3 x2), (6, slA Y3 x2), (5, .bool x1), (1, .int .u8 t1)]
abbrev Zb4 : Env := [(Zb8 t1 x2), (5, .bool x1)]
end
theorem f_L11_SpatialMatchesReference_ok  {t0 : Y4v} {t1 : Int} {r : Bool} (H : Y21 t0 t1 = some r) : QSpec Tryd.prog 3 [.agg [.int .u8 t0.Kind, .int .u8 t0.N, slA eA43 t0.L], .int .u8 t1] (.bool r) := by
 refine Ye Tryd.func3 rfl (by simp [Tryd.ntmps3]) ?_
 rw [Tryd.ntmps3]
 unfold Y21 at H
 change AW _ _ _ [(0, .agg (Zbb t0)), (1, .int .u8 t1)] [] _
 refine Y0 (OpsW.box rfl rfl rfl 2 rfl (Yy (by kernel_rfl)) ?_)
 change OpsW _ _ _ _ _ [(2, ⟨0, true, 24, 3, (Zbb t0)⟩)] _
 refine Y2 1 [2, 1] [(2, .ref 2 0 0), (1, .int .u8 t1)] ?_
 refine Y1 (Y0 ?_)
 have ⟨x1, hx1, H⟩ := Yw H
 refine Yl rfl .nil (f_L11_sanity_ok hx1) (Y2 1 [5, 2, 1] [(5, .bool x1), (2, .ref 2 0 0), (1, .int .u8 t1)] ?_)
 refine Y1 (Y0 (Y2 1 [14, 5, 1] [(14, .agg (Zbb t0)), (5, .bool x1), (1, .int .u8 t1)] ?_))
 have ⟨x2, hx2, H⟩ := Yw H
 refine Yl rfl (.cons (.pur rfl) .nil) (f_R11_Made_ok hx2) (Y2 1 [6, 5, 1] [(6, slA Y3 x2), (5, .bool x1), (1, .int .u8 t1)] ?_)
 refine Y1 (Y1t Tryd.checked.mixed (by kernel_rfl) ?_)
 have ⟨g3, H⟩ := Y8 H
 refine QOps.sz (N := 77) 7 [(22, .j (Zba t1 x2)), (21, .j (x2.length : Int)), (20, slA Y3 x2), (19, .j (IntKind.wrap .i64 t1)), (18, .int .u8 t1), (17, slA Y3 x2), (16, slA Y3 x2), (6, slA Y3 x2), (5, .bool x1), (1, .int .u8 t1)] ⟨g3, trivial⟩ ?_
 have ⟨g4, H⟩ := Y8 H
 refine QOps.asU (slA Y3 (x2.take (Zb5 t1 x2))) rfl (T.slice' rfl trivial trivial trivial (by kernel_rfl) (by kernel_rfl) g4 trivial (sl_hi Y3 2 (fun _ => rfl) x2 (Zba t1 x2) g4)) (QOps.sz (N := 77) 6 (Zb3 t1 x1 x2) ⟨g3, trivial⟩ (QOps.asU (slA Y3 (x2.drop (Zb5 t1 x2))) rfl (T.slice' rfl trivial trivial trivial (by kernel_rfl) (by kernel_rfl) trivial g4 (sl_lo Y3 2 (fun _ => rfl) x2 (Zba t1 x2) g4)) (QOps.buildTI (enc := eL Y3) [x2, x2.take (Zb5 t1 x2), x2.drop (Zb5 t1 x2)] rfl rfl E29 (fun _ => rfl) (by decide) ⟨trivial, by kernel_rfl, by kernel_rfl, by kernel_rfl, rfl⟩ (QOps.sz (N := 77) 1 ((Zb8 t1 x2) :: (31, slA (eL Y3) [x2, x2.take (Zb5 t1 x2), x2.drop (Zb5 t1 x2)]) :: (30, slA Y3 (x2.drop (Zb5 t1 x2))) :: (Zb3 t1 x1 x2)) trivial ?_))))
 refine QOps.nil (AW.trim [7, 5] (Zb4 t1 x1 x2) (by kernel_rfl) ?_)
 refine Yi (Y0 (Y2 1 [8, 7, 5] ((8, .j (0 : Int)) :: (Zb4 t1 x1 x2)) ?_))
 refine Y1 (Yg ?_)
 refine Y0z (fun loop (s : Int) => Y11 t1 x1 x2 loop s) r (fun (s : Int) => [(5, .bool x1), (Zb8 t1 x2), (8, .j s)]) (fun (s : Int) => []) ?_ 1000000 (0 : Int) H (StC.pure (.i3 .nil))
 intro loop6 v5 H
 unfold Y11 at H
 change AW _ _ _ (Zb1 t1 v5 x1 x2) [] _
 refine Yi (Y0 (Y2 4 [35, 5, 7, 8] ((35, .bool (decide (v5 < ([x2, x2.take (Zb5 t1 x2), x2.drop (Zb5 t1 x2)].length : Int)))) :: (Zb1 t1 v5 x1 x2)) ?_))
 refine Y1 (Y6 (b := decide (v5 < ([x2, x2.take (Zb5 t1 x2), x2.drop (Zb5 t1 x2)].length : Int))) H rfl (fun c7 H => ?_) (fun c7 H => ?_))
 ·refine Yc (Yi (Yg (Y0 ?_)))
  have ⟨g8, H⟩ := Y8 H
  refine Ya 3 [41, 5, 7, 8] ((41, .ipt (Zb9 t1 x2) (v5.toNat * 1)) :: (Zb1 t1 v5 x1 x2)) ⟨g8, trivial⟩ (OpsW.asU (Zb7 t1 v5 x2) rfl rfl (T.load rfl trivial (by kernel_rfl) (Y0b (eL Y3) 1 (fun _ => rfl) [x2, x2.take (Zb5 t1 x2), x2.drop (Zb5 t1 x2)] [] v5.toNat (ltN g8) (fun a => .sl (a.flatMap Y3) a.length) (fun _ => rfl))) ?_)
  have ⟨x9, hx9, H⟩ := Yw H
  refine Yl rfl (.cons (.pur rfl) .nil) (f_spatial_Lay_ok hx9) (Y2 5 [10, 9, 5, 7, 8] ((10, .j x9.2) :: (9, sC x9.1) :: (Zb1 t1 v5 x1 x2)) ?_)
  refine Y1 (Y0 (Ya 3 [49, 10, 9, 5, 7, 8] ((49, .ipt (Zb9 t1 x2) (v5.toNat * 1)) :: (10, .j x9.2) :: (9, sC x9.1) :: (Zb1 t1 v5 x1 x2)) ⟨g8, trivial⟩ ?_))
  refine OpsW.asU (Zb7 t1 v5 x2) rfl rfl (T.load rfl trivial (by kernel_rfl) (Y0b (eL Y3) 1 (fun _ => rfl) [x2, x2.take (Zb5 t1 x2), x2.drop (Zb5 t1 x2)] [] v5.toNat (ltN g8) (fun a => .sl (a.flatMap Y3) a.length) (fun _ => rfl))) ?_
  have ⟨x10, hx10, H⟩ := Yw H
  refine Yl rfl (.cons (.pur rfl) .nil) (f_R11_Lay_ok hx10) (Y2 5 [12, 11, 10, 9, 5, 7, 8] ((12, .j x10.2) :: (11, sC x10.1) :: (10, .j x9.2) :: (9, sC x9.1) :: (Zb1 t1 v5 x1 x2)) ?_)
  refine Y1 (Y1t Tryd.checked.mixed (by kernel_rfl) ?_)
  refine QOps.sz (N := 77) 2 ((55, sC x10.1) :: (54, sC x9.1) :: (12, .j x10.2) :: (11, sC x10.1) :: (10, .j x9.2) :: (9, sC x9.1) :: (Zb1 t1 v5 x1 x2)) trivial ?_
  have ⟨x11, hx11, H⟩ := Yw H
  refine QOps.qcall rfl (by kernel_rfl) rfl (Yd trivial) (.cons (.pur rfl) (.cons (.pur rfl) .nil)) (f_R11_Equal_ok hx11) rfl (QOps.sz (N := 77) 10 (Zb0 t1 v5 x1 x2 x9 x10 x11) ⟨(fun h => h), (fun h => h), (fun h => by first | exact h | (simpa using h) | grind), (fun h => h), (fun h => h), (fun _ => g8), trivial⟩ (QOps.asG (c := !(Zb6 x9 x10 x11)) (Zb7 t1 v5 x2) rfl rfl rfl (fun hc => T.load rfl hc (by kernel_rfl) (Y0b (eL Y3) 1 (fun _ => rfl) [x2, x2.take (Zb5 t1 x2), x2.drop (Zb5 t1 x2)] [] v5.toNat (ltN g8) (fun a => .sl (a.flatMap Y3) a.length) (fun _ => rfl))) ?_))
  have ⟨x12, hx12, H⟩ := Yw H
  refine QOps.gcall (c := !(Zb6 x9 x10 x11)) (r := .bool x12) [] rfl (by kernel_rfl) rfl rfl rfl (fun hc => ⟨Yd ⟨hc, trivial⟩, (.cons (.pur rfl) .nil), f_spatial_Fits_ok (condT hc hx12), .inl ⟨rfl, rfl⟩⟩) (QOps.sz (N := 77) 3 (Zb2 t1 v5 x1 x2 x9 x10 x11 x12) ⟨(fun h => h), (fun h => h), (fun _ => g8), trivial⟩ (QOps.asG (c := !(Zb6 x9 x10 x11)) (Zb7 t1 v5 x2) rfl rfl rfl (fun hc => T.load rfl hc (by kernel_rfl) (Y0b (eL Y3) 1 (fun _ => rfl) [x2, x2.take (Zb5 t1 x2), x2.drop (Zb5 t1 x2)] [] v5.toNat (ltN g8) (fun a => .sl (a.flatMap Y3) a.length) (fun _ => rfl))) ?_))
  have ⟨x13, hx13, H⟩ := Yw H
  refine QOps.gcall (c := !(Zb6 x9 x10 x11)) (r := .bool x13) [] rfl (by kernel_rfl) rfl rfl rfl (fun hc => ⟨Yd ⟨hc, trivial⟩, (.cons (.pur rfl) .nil), f_R11_Fits_ok (condT hc hx13), .inl ⟨rfl, rfl⟩⟩) (QOps.sz (N := 77) 2 ((75, .bool (cond (Zb6 x9 x10 x11) true (x12 != x13))) :: (74, .cnd (!(Zb6 x9 x10 x11)) (.bool (x12 != x13))) :: (73, .cnd (!(Zb6 x9 x10 x11)) (.bool x13)) :: (72, .cnd (!(Zb6 x9 x10 x11)) (Zb7 t1 v5 x2)) :: (Zb2 t1 v5 x1 x2 x9 x10 x11 x12)) ⟨(fun h => h), (fun h => h), (fun h => by first | exact h | (simpa using h) | grind), trivial⟩ ?_)
  refine QOps.nil (AW.trim [75, 5, 7, 8] ((75, .bool (cond (Zb6 x9 x10 x11) true (x12 != x13))) :: (Zb1 t1 v5 x1 x2)) (by kernel_rfl) ?_)
  refine Y6 (b := cond (Zb6 x9 x10 x11) true (x12 != x13)) H rfl (fun c14 H => ?_) (fun c14 H => ?_)
  ·refine Y0 (Y2 1 [4] [(4, .bool false)] ?_)
   refine Y1 ?_
   obtain rfl := X2 H
   refine AW.recast (env' := [(4, .bool false)]) (h' := []) (StC.pure (.cons .im .nil)) (Yh ?_)
   try simp only [Ex.t, Ex.b]
   exact Done.eq rfl (.tmp .nil)
  refine Yc (Y9 ?_)
  have ⟨g15, H⟩ := Y8 H
  refine Ya 3 [8, 5, 7] [(8, .j (v5 + 1)), (5, .bool x1), (Zb8 t1 x2)] ⟨g15, trivial⟩ (Y1 ?_)
  exact ⟨v5 + 1, H, (StC.pure (.i3 .nil))⟩
 refine AW.exit ?_
 refine Y0 (Y2 2 [4] [(4, .bool x1)] ?_)
 refine Y1 ?_
 obtain rfl := X2 H
 refine AW.recast (env' := [(4, .bool x1)]) (h' := []) (StC.pure (.cons .im .nil)) (Yh ?_)
 try simp only [Ex.t, Ex.b]
 exact Done.eq rfl (.tmp .nil)
end Go.Proofs.YtioockkejhpleaaDoor
