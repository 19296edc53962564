/- Own work. -/
import Derived.Test.YtbcfmhoaocifoaaDoorW1
set_option linter.unusedSimpArgs false
set_option linter.unusedVariables false
set_option maxRecDepth 100000
namespace Go.Proofs.YtbcfmhoaocifoaaDoor
open Go.Abs
def Y15 (t0 : List Bool) : Option (List Bool) :=
 G (0 ≤ (t0.length : Int) ∧ (t0.length : Int) ≤ (t0.length : Int) ∧ ((1 : Nat) : Int) * (t0.length : Int) ≤ 281474976710656 ∧ (t0.length : Int) ≤ 9223372036854775807) <|
 G (t0.length = (List.replicate (t0.length : Int).toNat false).length) <|
 some t0
section
variable (t0 : List Bool)
abbrev Z2r := (List.replicate (t0.length : Int).toNat false)
abbrev Z2q : Env := [(8, slA eB t0), (7, .rsl 3 0 0 ((Z2r t0).length)), (3, .rsl 3 0 0 ((Z2r t0).length))]
end
theorem f_sheet_straight_own {t0 : List Bool} {r : List Bool} (H : Y15 t0 = some r) : Abs.Spec Tryd.prog 32 [slA eB t0] [] (fun x h => x = .rsl 1000 0 0 r.length ∧ h = [(1000, rtA 0 4 1 eB r)]) := by
 refine Yj Tryd.func32 rfl (by simp [Tryd.ntmps32]) ?_
 rw [Tryd.ntmps32]
 unfold Y15 at H
 change AW _ _ _ [(0, slA eB t0)] [] _
 refine Y0 (Y2 1 [0] [(0, slA eB t0)] ?_)
 refine Y1 (Y0 (Y2 2 [5, 0] [(5, .j (t0.length : Int)), (0, slA eB t0)] ?_))
 have ⟨g1, H⟩ := Y6 H
 refine OpsW.makeT (enc := eB) false rfl rfl rfl 6 rfl E61 rfl rfl rfl g1 (Y2 1 [3, 0] [(3, .rsl 6 0 0 ((Z2r t0).length)), (0, slA eB t0)] (Ya [(3, .rsl 3 0 0 ((Z2r t0).length)), (0, slA eB t0)] [(3, rtA 0 4 1 eB (Z2r t0))] (StC.mk (phi [(3, some 6)]) (.o rfl (CstL.ims _) .nil) rfl (.cons (.s rfl) (.cons .im .nil))) ?_))
 refine Y1 (Y0 (Y2 2 [8, 7, 3] (Z2q t0) ?_))
 have ⟨g2, H⟩ := Y6 H
 refine OpsW.copyF (enc := eB) (l := (Z2r t0)) (ys := t0) rfl rfl rfl E61 (fun _ => rfl) rfl rfl trivial (SrcA.typed (enc := eB) (fun _ => rfl) (by kernel_rfl) t0) g2 ?_
 change OpsW _ _ _ _ ((9, .j ((Z2r t0).length : Int)) :: (Z2q t0)) [(3, rtA 0 4 1 eB t0), (3, rtA 0 4 1 eB (Z2r t0))] _
 refine OpsW.weaken [(9, .j ((Z2r t0).length : Int)), (8, slA eB t0), (7, .rsl 3 0 0 t0.length), (3, .rsl 3 0 0 t0.length)] (Y04 (by first | (rw [← g2]; done) | (simp only [Z2r, Z2q]; rw [← g2]))) (Y2 0 [3] [(3, .rsl 3 0 0 t0.length)] (Ya [(3, .rsl 3 0 0 t0.length)] [(3, rtA 0 4 1 eB t0)] (StC.mk (phi [(3, some 3)]) (.o rfl (CstL.ims _) .nil) rfl (.cons (.s rfl) .nil)) ?_))
 refine Y1 (Y0 (Y2 2 [2] [(2, .rsl 3 0 0 t0.length)] ?_))
 refine Y1 ?_
 obtain rfl := X1 H
 refine AW.recast (env' := [(2, .rsl 1000 0 0 t0.length)]) (h' := [(1000, rtA 0 4 1 eB t0)]) (StC.mk (phi [(1000, some 3)]) (.o rfl (CstL.ims _) .nil) rfl (.cons (.s rfl) .nil)) (Yl ?_)
 try simp only [Ex.t, Ex.b]
 refine Y1k rfl (.tmp .nil) ?_
 exact ⟨by kernel_rfl, rfl⟩
theorem f_sheet_straight_ok  {t0 : List Bool} {r : List Bool} (H : Y15 t0 = some r) : QSpec Tryd.prog 32 [slA eB t0] (slA eB r) := by
 exact QSpec.of_own (f_sheet_straight_own H) (.frz rfl rfl rfl (Y1b eB 1 (fun _ => rfl) r) (Yy eB 1 (fun _ => rfl) r) (Y3c rfl))
def Y3k (t0 : List Bool) : Option (List Bool) :=
 (Y15 t0).bind fun x1 =>
 some x1.reverse
theorem f_sheet_turned_ok  {t0 : List Bool} {r : List Bool} (H : Y3k t0 = some r) : QSpec Tryd.prog 33 [slA eB t0] (slA eB r) := by
 refine Yj Tryd.func33 rfl (by simp [Tryd.ntmps33]) ?_
 rw [Tryd.ntmps33]
 unfold Y3k at H
 change AW _ _ _ [(0, slA eB t0)] [] _
 refine Y0 (Y2 1 [0] [(0, slA eB t0)] ?_)
 refine Y1 (Y0 (Y2 1 [4] [(4, slA eB t0)] ?_))
 have ⟨x1, hx1, H⟩ := Yt H
 refine OpsW.call rfl rfl (by kernel_rfl) [] _ _ rfl (Yg trivial) (.cons (.pur rfl) .nil) (f_sheet_straight_own hx1) ?_
 rintro _ _ ⟨rfl, rfl⟩
 refine ⟨fresh_of (by kernel_rfl), .inl rfl, ?_⟩
 change OpsW _ _ _ _ [(5, .rsl 1000 0 0 x1.length), (4, slA eB t0)] [(1000, rtA 0 4 1 eB x1)] _
 refine Ya [(5, .rsl 600 0 0 x1.length), (4, slA eB t0)] [(600, rtA 0 4 1 eB x1)] (StC.mk (phi [(600, some 1000)]) (.o rfl (CstL.ims _) .nil) rfl (.cons (.s rfl) (.cons .im .nil))) (Y2 1 [3] [(3, .rsl 600 0 0 x1.length)] (Ya [(3, .rsl 3 0 0 x1.length)] [(3, rtA 0 4 1 eB x1)] (StC.mk (phi [(3, some 600)]) (.o rfl (CstL.ims _) .nil) rfl (.cons (.s rfl) .nil)) ?_))
 refine Y1 (Y0 (Y2 1 [6, 3] [(6, .rsl 3 0 0 x1.length), (3, .rsl 3 0 0 x1.length)] ?_))
 refine OpsW.reverse (enc := eB) (l := x1) rfl rfl rfl (by kernel_rfl) (turns_reverse Tryd.rev52) rfl rfl (fun _ => rfl) ?_
 change OpsW _ _ _ _ [(7, .any), (6, .rsl 3 0 0 x1.length), (3, .rsl 3 0 0 x1.length)] [(3, rtA 0 4 1 eB x1.reverse), (3, rtA 0 4 1 eB x1)] _
 refine OpsW.weaken [(7, .any), (6, .rsl 3 0 0 ((x1.reverse).length)), (3, .rsl 3 0 0 ((x1.reverse).length))] (Y04 (by simp only [Xs, Xt])) (Y2 0 [3] [(3, .rsl 3 0 0 ((x1.reverse).length))] (Ya [(3, slA eB x1.reverse)] [] (StC.mk (phi []) .nil rfl (.cons (.frz rfl rfl rfl (Y1b eB 1 (fun _ => rfl) x1.reverse) (Yy eB 1 (fun _ => rfl) x1.reverse) (Y3c rfl)) .nil)) ?_))
 refine Y1 (Y0 (Y2 2 [2] [(2, slA eB x1.reverse)] ?_))
 refine Y1 ?_
 obtain rfl := X1 H
 refine AW.recast (env' := [(2, slA eB x1.reverse)]) (h' := []) (StC.pure (.cons .im .nil)) (Yl ?_)
 try simp only [Ex.t, Ex.b]
 exact Yh rfl (.tmp .nil)
def Y40 (x1 : Yk × Int) (loop6 : ((List (List Bool)) × Int) → Option ((List (List Bool)) × Int)) (v4 : List (List Bool)) (v5 : Int) : Option ((List (List Bool)) × Int) :=
 cond (decide (v5 < (x1.1.Dots.length : Int))) (
  G (0 ≤ v5 ∧ v5 < (x1.1.Dots.length : Int)) <|
  (Y15 (x1.1.Dots.getD v5.toNat [])).bind fun x9 =>
  G (0 ≤ v5 ∧ v5 < (v4.length : Int)) <|
  G (inR (v5 + 1)) <|
  loop6 (v4.set v5.toNat x9, v5 + 1)) (
  some (v4, (0 : Int)))
def f_sheet_raise_fn32 (t0 : List (List Int)) (t1 : Int) (t2 : Int) : Option ((List (List Bool)) × Int) :=
 (Y59 t0 t1 t2).bind fun x1 =>
 cond (x1.2 != 0) (
  some ([], x1.2)) (
  G (0 ≤ (x1.1.Dots.length : Int) ∧ (x1.1.Dots.length : Int) ≤ (x1.1.Dots.length : Int) ∧ ((24 : Nat) : Int) * (x1.1.Dots.length : Int) ≤ 281474976710656 ∧ (x1.1.Dots.length : Int) ≤ 9223372036854775807) <|
  iter (fun loop (s : (List (List Bool)) × Int) => Y40 x1 loop s.1 s.2) 1000000 (List.replicate (x1.1.Dots.length : Int).toNat ([] : List Bool), (0 : Int)))
section
variable (v4 : List (List Bool)) (v5 : Int) (x1 : Yk × Int) (x9 : (List Bool))
abbrev Z2v := (List.replicate (x1.1.Dots.length : Int).toNat ([] : List Bool))
abbrev Z2w := (x1.1.Dots.length : Int)
abbrev Z2x : List AV := [.j x1.1.W, .j x1.1.H, sD x1.1.Dots]
abbrev Z2y : Nat × AV := (10, .ref 10 0 0)
abbrev Z2s : Env := [(30, sD x1.1.Dots), (31, .j (Z2w x1)), (32, .j v5)]
abbrev Z2t : Env := (12, .rsl 12 0 0 v4.length) :: (Z2s v5 x1)
abbrev Z2u : Env := (12, .rsl 12 0 0 ((v4.set v5.toNat x9).length)) :: (Z2s v5 x1)
end
theorem f_sheet_raise_fn32_own {t0 : List (List Int)} {t1 : Int} {t2 : Int} {r : (List (List Bool)) × Int} (H : f_sheet_raise_fn32 t0 t1 t2 = some r) : Abs.Spec Tryd.prog 31 [slA (eL (eI .u8)) t0, .int .i64 t1, .int .i64 t2, .im (.val (.func (.func 32) #[] #[]))] [] (fun x h => x = .tup [.rsl 1000 0 0 r.1.length, .int .i64 r.2] ∧ h = [(1000, rtA 0 61 1 (eL eB) r.1)]) := by
 refine Yj Tryd.func31 rfl (by simp [Tryd.ntmps31]) ?_
 rw [Tryd.ntmps31]
 unfold f_sheet_raise_fn32 at H
 change AW _ _ _ [(0, sC t0), (1, .j t1), (2, .j t2), (3, .im (.val (.func (.func 32) #[] #[])))] [] _
 refine Y0 (Y2 2 [0, 1, 2, 3] [(0, sC t0), (1, .j t1), (2, .j t2), (3, .im (.val (.func (.func 32) #[] #[])))] ?_)
 refine Y1 (Y0 (Y2 3 [18, 17, 16, 3] [(18, .j t2), (17, .j t1), (16, sC t0), (3, .im (.val (.func (.func 32) #[] #[])))] ?_))
 have ⟨x1, hx1, H⟩ := Yt H
 refine Ys rfl (.cons (.pur rfl) (.cons (.pur rfl) (.cons (.pur rfl) .nil))) (f_grid_FromCells_ok hx1) (Y2 3 [21, 20, 3] [(21, .j x1.2), (20, .agg (Z2x x1)), (3, .im (.val (.func (.func 32) #[] #[])))] (Yo rfl rfl rfl 10 rfl (by kernel_rfl : zc Tryd.prog 96 = some [.j 0, .j 0, .slice none 0 0]) (by kernel_rfl) (OpsW.store rfl rfl rfl rfl trivial trivial rfl rfl rfl (by kernel_rfl) (Y5 (by kernel_rfl)) (X0 (by kernel_rfl)) ?_)))
 change OpsW _ _ _ _ _ [(10, ⟨0, true, 96, 3, (Z2x x1)⟩), (10, ⟨0, true, 96, 3, [.j (0 : Int), .j (0 : Int), .im (.val (.slice none 0 0))]⟩)] _
 refine Y2 1 [11, 10, 3] [(11, .j x1.2), Z2y, (3, .im (.val (.func (.func 32) #[] #[])))] (Ya [(11, .j x1.2), Z2y, (3, .im (.val (.func (.func 32) #[] #[])))] [(10, ⟨0, true, 96, 3, (Z2x x1)⟩)] (StC.mk (phi [(10, some 10)]) (.o rfl (.i3 .nil) .nil) rfl (.cons .im (.cons (.r rfl) (.cons .im .nil)))) ?_)
 refine Y1 (Yc (Y0 (Y2 2 [23, 11, 10, 3] [(23, .bool (x1.2 != 0)), (11, .j x1.2), Z2y, (3, .im (.val (.func (.func 32) #[] #[])))] ?_)))
 refine Y1 (Y9 (b := x1.2 != 0) H rfl (fun c2 H => ?_) (fun c2 H => ?_))
 ·refine Y0 (Y2 3 [9, 8] [(9, .j x1.2), (8, .im (.val (.slice none 0 0)))] ?_)
  refine Y1 ?_
  obtain rfl := X1 H
  refine AW.recast (env' := [(8, .rsl 1000 0 0 0), (9, .j x1.2)]) (h' := [(1000, rtA 0 61 1 (eL eB) ([] : List (List Bool)))]) (StC.mk (phi [(1000, none)]) (.new rfl .nil) rfl (.cons (.nilr rfl rfl rfl) (.cons .im .nil))) (Yl ?_)
  try simp only [Ex.t, Ex.b]
  refine Y1k rfl (.tmp (.tmp .nil)) ?_
  exact ⟨by kernel_rfl, rfl⟩
 refine Yb (Y0 (Y2 3 [27, 10, 3] [(27, .j (Z2w x1)), Z2y, (3, .im (.val (.func (.func 32) #[] #[])))] ?_))
 have ⟨g3, H⟩ := Y6 H
 refine Y5r rfl rfl rfl 28 rfl E45 rfl rfl g3 (OpsW.weaken [(28, .rsl 28 0 0 ((Z2v x1).length)), (27, .j (Z2w x1)), Z2y, (3, .im (.val (.func (.func 32) #[] #[])))] (Y04 (by first | (rw [Xn]; rfl; done) | (simp only [Z2v, Z2w, Z2x, Z2y]; rw [Xn]; rfl))) (Ya [(28, .rsl 28 0 0 ((Z2v x1).length)), (27, .j (Z2w x1)), Z2y, (3, .im (.val (.func (.func 32) #[] #[])))] [(28, rtA 0 61 1 (eL eB) (Z2v x1)), (10, ⟨0, true, 96, 3, (Z2x x1)⟩)] (StC.mk (phi [(28, some 28), (10, some 10)]) (.o rfl (csNil (enc := eB) _) (.o rfl (.i3 .nil) .nil)) rfl (.cons (.s rfl) (.cons .im (.cons (.r rfl) (.cons .im .nil))))) (Y2 1 [12, 10, 3] [(12, .rsl 28 0 0 ((Z2v x1).length)), Z2y, (3, .im (.val (.func (.func 32) #[] #[])))] (Ya [(12, .rsl 12 0 0 ((Z2v x1).length)), Z2y, (3, .im (.val (.func (.func 32) #[] #[])))] [(10, ⟨0, true, 96, 3, (Z2x x1)⟩), (12, rtA 0 61 1 (eL eB) (Z2v x1))] (StC.mk (phi [(10, some 10), (12, some 28)]) (.o rfl (.i3 .nil) (.o rfl (CstL.ims _) .nil)) rfl (.cons (.s rfl) (.cons (.r rfl) (.cons .im .nil)))) ?_))))
 refine Y1 (Yc (Y0 (Y2 4 [32, 31, 30, 12, 3] [(32, .j (0 : Int)), (31, .j (Z2w x1)), (30, sD x1.1.Dots), (12, .rsl 12 0 0 ((Z2v x1).length)), (3, .im (.val (.func (.func 32) #[] #[])))] ?_)))
 refine Y1 (Yd ?_)
 refine Yq (fun loop (s : (List (List Bool)) × Int) => Y40 x1 loop s.1 s.2) r (fun (s : (List (List Bool)) × Int) => [(3, .im (.val (.func (.func 32) #[] #[]))), (12, .rsl 12 0 0 s.1.length), (30, sD x1.1.Dots), (31, .j (Z2w x1)), (32, .j s.2)]) (fun (s : (List (List Bool)) × Int) => [(12, rtA 0 61 1 (eL eB) s.1)]) ?_ 1000000 (List.replicate (Z2w x1).toNat ([] : List Bool), (0 : Int)) H (StC.mk (phi [(12, some 12)]) (.o rfl (CstL.ims _) .nil) rfl (.cons .im (.cons (.s rfl) (.i3 .nil))))
 intro loop6 s H
 obtain ⟨v4, v5⟩ := s
 unfold Y40 at H
 change AW _ _ _ ((3, .im (.val (.func (.func 32) #[] #[]))) :: (Z2t v4 v5 x1)) [(12, rtA 0 61 1 (eL eB) v4)] _
 refine Y0 (Y2 1 [33, 3, 12, 30, 31, 32] ((33, .bool (decide (v5 < (Z2w x1)))) :: (3, .im (.val (.func (.func 32) #[] #[]))) :: (Z2t v4 v5 x1)) ?_)
 refine Y1 (Yc (Y9 (b := decide (v5 < (Z2w x1))) H rfl (fun c7 H => ?_) (fun c7 H => ?_)))
 ·refine Yb (Yc (Yd (Y0 ?_)))
  have ⟨g8, H⟩ := Y6 H
  refine Y8 2 [35, 34, 3, 12, 30, 31, 32] ((35, .ipt (x1.1.Dots.flatMap (eL eB)) (v5.toNat * 1)) :: (34, .j v5) :: (3, .im (.val (.func (.func 32) #[] #[]))) :: (Z2t v4 v5 x1)) ⟨g8, trivial⟩ (OpsW.asU (slA eB (x1.1.Dots.getD v5.toNat [])) rfl rfl (T.load rfl trivial (by kernel_rfl) (Yn (eL eB) 1 (fun _ => rfl) x1.1.Dots [] v5.toNat (ltN g8) (fun a => .sl (a.flatMap eB) a.length) (fun _ => rfl))) (Y2 2 [14, 13, 3, 12, 30, 31, 32] ((14, slA eB (x1.1.Dots.getD v5.toNat [])) :: (13, .j v5) :: (3, .im (.val (.func (.func 32) #[] #[]))) :: (Z2t v4 v5 x1)) ?_))
  refine Y1 (Ye (Y2 4 [40, 39, 38, 37, 3, 12, 30, 31, 32] ((40, slA eB (x1.1.Dots.getD v5.toNat [])) :: (39, .im (.val (.func (.func 32) #[] #[]))) :: (38, .j v5) :: (37, .rsl 12 0 0 v4.length) :: (3, .im (.val (.func (.func 32) #[] #[]))) :: (Z2t v4 v5 x1)) ?_))
  refine OpsW.valF rfl rfl (by kernel_rfl) ?_
  have ⟨x9, hx9, H⟩ := Yt H
  refine Ys rfl (.cons (.pur rfl) .nil) (f_sheet_straight_ok hx9) ?_
  have ⟨g10, H⟩ := Y6 H
  refine Y8 1 [42, 41, 3, 12, 30, 31, 32] ((42, .ref 12 0 (0 + v5.toNat * 1)) :: (41, slA eB x9) :: (3, .im (.val (.func (.func 32) #[] #[]))) :: (Z2t v4 v5 x1)) ⟨g10, trivial⟩ (OpsW.storeT (enc := eL eB) (k := 1) [] x9 [.sl (x9.flatMap eB) x9.length] v5.toNat 0 rfl rfl rfl (by exact congrArg (AV.ref 12 0) (by first | omega | rfl | (simp; omega))) trivial trivial rfl (fun _ => rfl) rfl (by kernel_rfl) (Y5 (by kernel_rfl)) (ltN g10) (X0 (by kernel_rfl)) rfl (OpsW.weaken ((42, .ref 12 0 (0 + v5.toNat * 1)) :: (41, slA eB x9) :: (3, .im (.val (.func (.func 32) #[] #[]))) :: (Z2u v4 v5 x1 x9)) (Y04 (by first | (simp only [Xs, Xt]; done) | (simp only [Z2w, Z2s, Z2t, Z2u]; simp only [Xs, Xt]))) (Y2 0 [3, 12, 30, 31, 32] ((3, .im (.val (.func (.func 32) #[] #[]))) :: (Z2u v4 v5 x1 x9)) (Ya ((3, .im (.val (.func (.func 32) #[] #[]))) :: (Z2u v4 v5 x1 x9)) [(12, rtA 0 61 1 (eL eB) (v4.set v5.toNat x9))] (StC.mk (phi [(12, some 12)]) (.o rfl (CstL.ims _) .nil) rfl (.cons .im (.cons (.s rfl) (.i3 .nil)))) ?_))))
  refine Y1 (Ye ?_)
  have ⟨g11, H⟩ := Y6 H
  refine Y8 2 [32, 3, 12, 30, 31] [(32, .j (v5 + 1)), (3, .im (.val (.func (.func 32) #[] #[]))), (12, .rsl 12 0 0 ((v4.set v5.toNat x9).length)), (30, sD x1.1.Dots), (31, .j (Z2w x1))] ⟨g11, trivial⟩ (Y1 ?_)
  exact ⟨(v4.set v5.toNat x9, v5 + 1), H, (StC.mk (phi [(12, some 12)]) (.o rfl (CstL.ims _) .nil) rfl (.cons .im (.cons (.s rfl) (.i3 .nil))))⟩
 refine AW.exit ?_
 refine Y0 (Y2 3 [9, 8] [(9, .j (0 : Int)), (8, .rsl 12 0 0 v4.length)] ?_)
 refine Y1 ?_
 obtain rfl := X1 H
 refine AW.recast (env' := [(8, .rsl 1000 0 0 v4.length), (9, .j (0 : Int))]) (h' := [(1000, rtA 0 61 1 (eL eB) v4)]) (StC.mk (phi [(1000, some 12)]) (.o rfl (CstL.ims _) .nil) rfl (.cons (.s rfl) (.cons .im .nil))) (Yl ?_)
 try simp only [Ex.t, Ex.b]
 refine Y1k rfl (.tmp (.tmp .nil)) ?_
 exact ⟨by kernel_rfl, rfl⟩
def Y3z (x1 : Yk × Int) (loop6 : ((List (List Bool)) × Int) → Option ((List (List Bool)) × Int)) (v4 : List (List Bool)) (v5 : Int) : Option ((List (List Bool)) × Int) :=
 cond (decide (v5 < (x1.1.Dots.length : Int))) (
  G (0 ≤ v5 ∧ v5 < (x1.1.Dots.length : Int)) <|
  (Y3k (x1.1.Dots.getD v5.toNat [])).bind fun x9 =>
  G (0 ≤ v5 ∧ v5 < (v4.length : Int)) <|
  G (inR (v5 + 1)) <|
  loop6 (v4.set v5.toNat x9, v5 + 1)) (
  some (v4, (0 : Int)))
def f_sheet_raise_fn33 (t0 : List (List Int)) (t1 : Int) (t2 : Int) : Option ((List (List Bool)) × Int) :=
 (Y59 t0 t1 t2).bind fun x1 =>
 cond (x1.2 != 0) (
  some ([], x1.2)) (
  G (0 ≤ (x1.1.Dots.length : Int) ∧ (x1.1.Dots.length : Int) ≤ (x1.1.Dots.length : Int) ∧ ((24 : Nat) : Int) * (x1.1.Dots.length : Int) ≤ 281474976710656 ∧ (x1.1.Dots.length : Int) ≤ 9223372036854775807) <|
  iter (fun loop (s : (List (List Bool)) × Int) => Y3z x1 loop s.1 s.2) 1000000 (List.replicate (x1.1.Dots.length : Int).toNat ([] : List Bool), (0 : Int)))
section
variable (v4 : List (List Bool)) (v5 : Int) (x1 : Yk × Int) (x9 : (List Bool))
abbrev Z32 := (List.replicate (x1.1.Dots.length : Int).toNat ([] : List Bool))
abbrev Z33 := (x1.1.Dots.length : Int)
abbrev Z34 : List AV := [.j x1.1.W, .j x1.1.H, sD x1.1.Dots]
abbrev Z35 : Nat × AV := (10, .ref 10 0 0)
abbrev Z2z : Env := [(30, sD x1.1.Dots), (31, .j (Z33 x1)), (32, .j v5)]
abbrev Z30 : Env := (12, .rsl 12 0 0 v4.length) :: (Z2z v5 x1)
abbrev Z31 : Env := (12, .rsl 12 0 0 ((v4.set v5.toNat x9).length)) :: (Z2z v5 x1)
end
theorem f_sheet_raise_fn33_own {t0 : List (List Int)} {t1 : Int} {t2 : Int} {r : (List (List Bool)) × Int} (H : f_sheet_raise_fn33 t0 t1 t2 = some r) : Abs.Spec Tryd.prog 31 [slA (eL (eI .u8)) t0, .int .i64 t1, .int .i64 t2, .im (.val (.func (.func 33) #[] #[]))] [] (fun x h => x = .tup [.rsl 1000 0 0 r.1.length, .int .i64 r.2] ∧ h = [(1000, rtA 0 61 1 (eL eB) r.1)]) := by
 refine Yj Tryd.func31 rfl (by simp [Tryd.ntmps31]) ?_
 rw [Tryd.ntmps31]
 unfold f_sheet_raise_fn33 at H
 change AW _ _ _ [(0, sC t0), (1, .j t1), (2, .j t2), (3, .im (.val (.func (.func 33) #[] #[])))] [] _
 refine Y0 (Y2 2 [0, 1, 2, 3] [(0, sC t0), (1, .j t1), (2, .j t2), (3, .im (.val (.func (.func 33) #[] #[])))] ?_)
 refine Y1 (Y0 (Y2 3 [18, 17, 16, 3] [(18, .j t2), (17, .j t1), (16, sC t0), (3, .im (.val (.func (.func 33) #[] #[])))] ?_))
 have ⟨x1, hx1, H⟩ := Yt H
 refine Ys rfl (.cons (.pur rfl) (.cons (.pur rfl) (.cons (.pur rfl) .nil))) (f_grid_FromCells_ok hx1) (Y2 3 [21, 20, 3] [(21, .j x1.2), (20, .agg (Z34 x1)), (3, .im (.val (.func (.func 33) #[] #[])))] (Yo rfl rfl rfl 10 rfl (by kernel_rfl : zc Tryd.prog 96 = some [.j 0, .j 0, .slice none 0 0]) (by kernel_rfl) (OpsW.store rfl rfl rfl rfl trivial trivial rfl rfl rfl (by kernel_rfl) (Y5 (by kernel_rfl)) (X0 (by kernel_rfl)) ?_)))
 change OpsW _ _ _ _ _ [(10, ⟨0, true, 96, 3, (Z34 x1)⟩), (10, ⟨0, true, 96, 3, [.j (0 : Int), .j (0 : Int), .im (.val (.slice none 0 0))]⟩)] _
 refine Y2 1 [11, 10, 3] [(11, .j x1.2), Z35, (3, .im (.val (.func (.func 33) #[] #[])))] (Ya [(11, .j x1.2), Z35, (3, .im (.val (.func (.func 33) #[] #[])))] [(10, ⟨0, true, 96, 3, (Z34 x1)⟩)] (StC.mk (phi [(10, some 10)]) (.o rfl (.i3 .nil) .nil) rfl (.cons .im (.cons (.r rfl) (.cons .im .nil)))) ?_)
 refine Y1 (Yc (Y0 (Y2 2 [23, 11, 10, 3] [(23, .bool (x1.2 != 0)), (11, .j x1.2), Z35, (3, .im (.val (.func (.func 33) #[] #[])))] ?_)))
 refine Y1 (Y9 (b := x1.2 != 0) H rfl (fun c2 H => ?_) (fun c2 H => ?_))
 ·refine Y0 (Y2 3 [9, 8] [(9, .j x1.2), (8, .im (.val (.slice none 0 0)))] ?_)
  refine Y1 ?_
  obtain rfl := X1 H
  refine AW.recast (env' := [(8, .rsl 1000 0 0 0), (9, .j x1.2)]) (h' := [(1000, rtA 0 61 1 (eL eB) ([] : List (List Bool)))]) (StC.mk (phi [(1000, none)]) (.new rfl .nil) rfl (.cons (.nilr rfl rfl rfl) (.cons .im .nil))) (Yl ?_)
  try simp only [Ex.t, Ex.b]
  refine Y1k rfl (.tmp (.tmp .nil)) ?_
  exact ⟨by kernel_rfl, rfl⟩
 refine Yb (Y0 (Y2 3 [27, 10, 3] [(27, .j (Z33 x1)), Z35, (3, .im (.val (.func (.func 33) #[] #[])))] ?_))
 have ⟨g3, H⟩ := Y6 H
 refine Y5r rfl rfl rfl 28 rfl E45 rfl rfl g3 (OpsW.weaken [(28, .rsl 28 0 0 ((Z32 x1).length)), (27, .j (Z33 x1)), Z35, (3, .im (.val (.func (.func 33) #[] #[])))] (Y04 (by first | (rw [Xn]; rfl; done) | (simp only [Z32, Z33, Z34, Z35]; rw [Xn]; rfl))) (Ya [(28, .rsl 28 0 0 ((Z32 x1).length)), (27, .j (Z33 x1)), Z35, (3, .im (.val (.func (.func 33) #[] #[])))] [(28, rtA 0 61 1 (eL eB) (Z32 x1)), (10, ⟨0, true, 96, 3, (Z34 x1)⟩)] (StC.mk (phi [(28, some 28), (10, some 10)]) (.o rfl (csNil (enc := eB) _) (.o rfl (.i3 .nil) .nil)) rfl (.cons (.s rfl) (.cons .im (.cons (.r rfl) (.cons .im .nil))))) (Y2 1 [12, 10, 3] [(12, .rsl 28 0 0 ((Z32 x1).length)), Z35, (3, .im (.val (.func (.func 33) #[] #[])))] (Ya [(12, .rsl 12 0 0 ((Z32 x1).length)), Z35, (3, .im (.val (.func (.func 33) #[] #[])))] [(10, ⟨0, true, 96, 3, (Z34 x1)⟩), (12, rtA 0 61 1 (eL eB) (Z32 x1))] (StC.mk (phi [(10, some 10), (12, some 28)]) (.o rfl (.i3 .nil) (.o rfl (CstL.ims _) .nil)) rfl (.cons (.s rfl) (.cons (.r rfl) (.cons .im .nil)))) ?_))))
 refine Y1 (Yc (Y0 (Y2 4 [32, 31, 30, 12, 3] [(32, .j (0 : Int)), (31, .j (Z33 x1)), (30, sD x1.1.Dots), (12, .rsl 12 0 0 ((Z32 x1).length)), (3, .im (.val (.func (.func 33) #[] #[])))] ?_)))
 refine Y1 (Yd ?_)
 refine Yq (fun loop (s : (List (List Bool)) × Int) => Y3z x1 loop s.1 s.2) r (fun (s : (List (List Bool)) × Int) => [(3, .im (.val (.func (.func 33) #[] #[]))), (12, .rsl 12 0 0 s.1.length), (30, sD x1.1.Dots), (31, .j (Z33 x1)), (32, .j s.2)]) (fun (s : (List (List Bool)) × Int) => [(12, rtA 0 61 1 (eL eB) s.1)]) ?_ 1000000 (List.replicate (Z33 x1).toNat ([] : List Bool), (0 : Int)) H (StC.mk (phi [(12, some 12)]) (.o rfl (CstL.ims _) .nil) rfl (.cons .im (.cons (.s rfl) (.i3 .nil))))
 intro loop6 s H
 obtain ⟨v4, v5⟩ := s
 unfold Y3z at H
 change AW _ _ _ ((3, .im (.val (.func (.func 33) #[] #[]))) :: (Z30 v4 v5 x1)) [(12, rtA 0 61 1 (eL eB) v4)] _
 refine Y0 (Y2 1 [33, 3, 12, 30, 31, 32] ((33, .bool (decide (v5 < (Z33 x1)))) :: (3, .im (.val (.func (.func 33) #[] #[]))) :: (Z30 v4 v5 x1)) ?_)
 refine Y1 (Yc (Y9 (b := decide (v5 < (Z33 x1))) H rfl (fun c7 H => ?_) (fun c7 H => ?_)))
 ·refine Yb (Yc (Yd (Y0 ?_)))
  have ⟨g8, H⟩ := Y6 H
  refine Y8 2 [35, 34, 3, 12, 30, 31, 32] ((35, .ipt (x1.1.Dots.flatMap (eL eB)) (v5.toNat * 1)) :: (34, .j v5) :: (3, .im (.val (.func (.func 33) #[] #[]))) :: (Z30 v4 v5 x1)) ⟨g8, trivial⟩ (OpsW.asU (slA eB (x1.1.Dots.getD v5.toNat [])) rfl rfl (T.load rfl trivial (by kernel_rfl) (Yn (eL eB) 1 (fun _ => rfl) x1.1.Dots [] v5.toNat (ltN g8) (fun a => .sl (a.flatMap eB) a.length) (fun _ => rfl))) (Y2 2 [14, 13, 3, 12, 30, 31, 32] ((14, slA eB (x1.1.Dots.getD v5.toNat [])) :: (13, .j v5) :: (3, .im (.val (.func (.func 33) #[] #[]))) :: (Z30 v4 v5 x1)) ?_))
  refine Y1 (Ye (Y2 4 [40, 39, 38, 37, 3, 12, 30, 31, 32] ((40, slA eB (x1.1.Dots.getD v5.toNat [])) :: (39, .im (.val (.func (.func 33) #[] #[]))) :: (38, .j v5) :: (37, .rsl 12 0 0 v4.length) :: (3, .im (.val (.func (.func 33) #[] #[]))) :: (Z30 v4 v5 x1)) ?_))
  refine OpsW.valF rfl rfl (by kernel_rfl) ?_
  have ⟨x9, hx9, H⟩ := Yt H
  refine Ys rfl (.cons (.pur rfl) .nil) (f_sheet_turned_ok hx9) ?_
  have ⟨g10, H⟩ := Y6 H
  refine Y8 1 [42, 41, 3, 12, 30, 31, 32] ((42, .ref 12 0 (0 + v5.toNat * 1)) :: (41, slA eB x9) :: (3, .im (.val (.func (.func 33) #[] #[]))) :: (Z30 v4 v5 x1)) ⟨g10, trivial⟩ (OpsW.storeT (enc := eL eB) (k := 1) [] x9 [.sl (x9.flatMap eB) x9.length] v5.toNat 0 rfl rfl rfl (by exact congrArg (AV.ref 12 0) (by first | omega | rfl | (simp; omega))) trivial trivial rfl (fun _ => rfl) rfl (by kernel_rfl) (Y5 (by kernel_rfl)) (ltN g10) (X0 (by kernel_rfl)) rfl (OpsW.weaken ((42, .ref 12 0 (0 + v5.toNat * 1)) :: (41, slA eB x9) :: (3, .im (.val (.func (.func 33) #[] #[]))) :: (Z31 v4 v5 x1 x9)) (Y04 (by first | (simp only [Xs, Xt]; done) | (simp only [Z33, Z2z, Z30, Z31]; simp only [Xs, Xt]))) (Y2 0 [3, 12, 30, 31, 32] ((3, .im (.val (.func (.func 33) #[] #[]))) :: (Z31 v4 v5 x1 x9)) (Ya ((3, .im (.val (.func (.func 33) #[] #[]))) :: (Z31 v4 v5 x1 x9)) [(12, rtA 0 61 1 (eL eB) (v4.set v5.toNat x9))] (StC.mk (phi [(12, some 12)]) (.o rfl (CstL.ims _) .nil) rfl (.cons .im (.cons (.s rfl) (.i3 .nil)))) ?_))))
  refine Y1 (Ye ?_)
  have ⟨g11, H⟩ := Y6 H
  refine Y8 2 [32, 3, 12, 30, 31] [(32, .j (v5 + 1)), (3, .im (.val (.func (.func 33) #[] #[]))), (12, .rsl 12 0 0 ((v4.set v5.toNat x9).length)), (30, sD x1.1.Dots), (31, .j (Z33 x1))] ⟨g11, trivial⟩ (Y1 ?_)
  exact ⟨(v4.set v5.toNat x9, v5 + 1), H, (StC.mk (phi [(12, some 12)]) (.o rfl (CstL.ims _) .nil) rfl (.cons .im (.cons (.s rfl) (.i3 .nil))))⟩
 refine AW.exit ?_
 refine Y0 (Y2 3 [9, 8] [(9, .j (0 : Int)), (8, .rsl 12 0 0 v4.length)] ?_)
 refine Y1 ?_
 obtain rfl := X1 H
 refine AW.recast (env' := [(8, .rsl 1000 0 0 v4.length), (9, .j (0 : Int))]) (h' := [(1000, rtA 0 61 1 (eL eB) v4)]) (StC.mk (phi [(1000, some 12)]) (.o rfl (CstL.ims _) .nil) rfl (.cons (.s rfl) (.cons .im .nil))) (Yl ?_)
 try simp only [Ex.t, Ex.b]
 refine Y1k rfl (.tmp (.tmp .nil)) ?_
 exact ⟨by kernel_rfl, rfl⟩
def Y4d (t0 : Yr) (t1 : Y0k) : Option (Y4 × Int) :=
 cond (cond (cond (cond (decide (t1.Width < 24)) true (decide (60 < t1.Width))) true (decide (t1.Height < 4))) true (decide (40 < t1.Height))) (
  some ((⟨(0 : Int), (0 : Int), [], []⟩ : Y4), (1 : Int))) (
  (f_sheet_fits t0.Front t1).bind fun x2 =>
  (cond (!(!x2)) (f_sheet_fits t0.Back t1) (some false)).bind fun x3 =>
  cond (cond (!x2) true (!x3)) (
   some ((⟨(0 : Int), (0 : Int), [], []⟩ : Y4), (250 : Int))) (
   G (inR (2 * t1.Width)) <|
   G (inR (3 * t1.Height)) <|
   (f_sheet_raise_fn32 t0.Front (2 * t1.Width) (3 * t1.Height)).bind fun x7 =>
   cond (x7.2 != 0) (
    some ((⟨(0 : Int), (0 : Int), [], []⟩ : Y4), (250 : Int))) (
    (f_sheet_raise_fn33 t0.Back (2 * t1.Width) (3 * t1.Height)).bind fun x9 =>
    cond (x9.2 != 0) (
     some ((⟨(0 : Int), (0 : Int), [], []⟩ : Y4), (250 : Int))) (
     some ((⟨2 * t1.Width, 3 * t1.Height, x7.1, x9.1⟩ : Y4), (0 : Int))))))
section
variable (t0 : Yr) (t1 : Y0k) (x7 : ((List (List Bool)) × Int)) (x9 : ((List (List Bool)) × Int))
abbrev Z3n : List AV := [.j (0 : Int), .j (0 : Int), .im (.val (.slice none 0 0)), .im (.val (.slice none 0 0))]
abbrev Z3o : List AV := [.j t0.Label.N, .j t0.Label.K, sC t0.Front, sC t0.Back]
abbrev Z3p : List AV := [.j (2 * t1.Width), .j (3 * t1.Height), .im (.val (.slice none 0 0)), .im (.val (.slice none 0 0))]
abbrev Z3q : List AV := [.j (2 * t1.Width), .j (3 * t1.Height), sD x7.1, sD x9.1]
abbrev Z3r : List AV := [.j t1.Width, .j t1.Height, .j t1.Binding]
abbrev Z3s := cond (cond (decide (t1.Width < 24)) true (decide (60 < t1.Width))) true (decide (t1.Height < 4))
abbrev Z3t : Nat × AV := (4, .ref 4 0 0)
abbrev Z36 : Hp := [(2, ⟨0, true, 39, 4, (Z3o t0)⟩), (4, ⟨0, true, 47, 4, Z3n⟩), (6, ⟨0, true, 47, 4, [.j (2 * t1.Width), .j (3 * t1.Height), .rsl 5060 0 0 x7.1.length, .im (.val (.slice none 0 0))]⟩), (5060, rtA 0 61 1 (eL eB) x7.1)]
abbrev Z37 : Hp := [(2, ⟨0, true, 39, 4, (Z3o t0)⟩), (4, ⟨0, true, 47, 4, Z3n⟩), (6, ⟨0, true, 47, 4, (Z3p t1)⟩)]
abbrev Z38 : Hp := [(2, ⟨0, true, 39, 4, (Z3o t0)⟩), (3, ⟨0, true, 32, 3, (Z3r t1)⟩), (4, ⟨0, true, 47, 4, Z3n⟩)]
abbrev Z39 : Env := [(6, .ref 6 0 0), Z3t, (2, .ref 2 0 0)]
abbrev Z3a : Hp := [(4, ⟨0, true, 47, 4, Z3n⟩)]
abbrev Z3b : Hp := [(4, ⟨0, true, 47, 4, Z3n⟩), (6, ⟨0, true, 47, 4, [.j (2 * t1.Width), .j (3 * t1.Height), .rsl 5060 0 0 x7.1.length, .rsl 5061 0 0 x9.1.length]⟩), (5060, rtA 0 61 1 (eL eB) x7.1), (5061, rtA 0 61 1 (eL eB) x9.1)]
abbrev Z3c : Env := [Z3t, (3, .ref 3 0 0), (2, .ref 2 0 0)]
abbrev Z3d : Hp := [(4, ⟨0, true, 47, 4, [.j (0 : Int), .j (0 : Int), sD [], sD []]⟩)]
abbrev Z3e : Env := [(67, .j (3 * t1.Height)), (65, .j (2 * t1.Width)), (63, sC t0.Back), (6, .ref 6 0 0), Z3t]
abbrev Z3f : Hp := [(4, ⟨0, true, 47, 4, Z3n⟩), (6, ⟨0, true, 47, 4, (Z3q t1 x7 x9)⟩)]
abbrev Z3g : Env := [(5, .j (250 : Int)), Z3t]
abbrev Z3h : Env := (53, .j (3 * t1.Height)) :: (51, .j (2 * t1.Width)) :: (49, sC t0.Front) :: Z39
abbrev Z3i : Hp := (4, ⟨0, true, 47, 4, Z3n⟩) :: (Z38 t0 t1)
abbrev Z3j : Env := [(6, .ref 6 0 0), Z3t]
abbrev Z3k : Hp := [(2, ⟨0, true, 39, 4, (Z3o t0)⟩)]
abbrev Z3l : Env := [Z3t]
abbrev Z3m : Env := [Z3t, (5, .j (250 : Int))]
end
theorem Y57  {t0 : Yr} {t1 : Y0k} {r : Y4 × Int} (H : Y4d t0 t1 = some r) : QSpec Tryd.prog 12 [.agg [.int .i64 t0.Label.N, .int .i64 t0.Label.K, slA (eL (eI .u8)) t0.Front, slA (eL (eI .u8)) t0.Back], .agg [.int .i64 t1.Width, .int .i64 t1.Height, .int .i64 t1.Binding]] (.tup [.agg [.int .i64 r.1.W, .int .i64 r.1.H, slA (eL eB) r.1.Up, slA (eL eB) r.1.Down], .int .i64 r.2]) := by
 refine Yj Tryd.func12 rfl (by simp [Tryd.ntmps12]) ?_
 rw [Tryd.ntmps12]
 unfold Y4d at H
 change AW _ _ _ [(0, .agg (Z3o t0)), (1, .agg (Z3r t1))] [] _
 refine Y0 (OpsW.box rfl rfl rfl 2 rfl (Y5 (by kernel_rfl)) ?_)
 change OpsW _ _ _ _ _ (Z3k t0) _
 refine OpsW.box rfl rfl rfl 3 rfl (Y5 (by kernel_rfl)) ?_
 change OpsW _ _ _ _ _ ((3, ⟨0, true, 32, 3, (Z3r t1)⟩) :: (Z3k t0)) _
 refine Yo rfl rfl rfl 4 rfl (by kernel_rfl : zc Tryd.prog 47 = some [.j 0, .j 0, .slice none 0 0, .slice none 0 0]) (by kernel_rfl) (Y2 1 [4, 3, 2] Z3c (Ya Z3c (Z38 t0 t1) (StC.mk (phi [(2, some 2), (3, some 3), (4, some 4)]) (.o rfl (.i4 .nil) (.o rfl (.i3 .nil) (.o rfl (.i4 .nil) .nil))) rfl (.cons (.r rfl) (.cons (.r rfl) (.cons (.r rfl) .nil)))) ?_))
 refine Y1 (Yc (Y0 (Y8 18 [25, 4, 3, 2] ((25, .bool (cond (Z3s t1) true (decide (40 < t1.Height)))) :: Z3c) ⟨(fun h => h), (fun h => h), (fun h => by first | exact h | (simpa using h) | grind), (fun h => h), (fun h => h), (fun h => by first | exact h | (simpa using h) | grind), (fun h => h), (fun h => h), (fun h => by first | exact h | (simpa using h) | grind), trivial⟩ ?_)))
 refine Y1 (Y9 (b := cond (Z3s t1) true (decide (40 < t1.Height))) H rfl (fun c1 H => ?_) (fun c1 H => ?_))
 ·refine Y0 (Y2 1 [26, 4] ((26, .agg Z3n) :: Z3l) ?_)
  refine OpsW.store rfl rfl rfl rfl trivial trivial rfl rfl rfl (by kernel_rfl) (Y5 (by kernel_rfl)) (X0 (by kernel_rfl)) ?_
  change OpsW _ _ _ _ _ (Z3i t0 t1) _
  refine Y2 1 [5, 4] ((5, .j (1 : Int)) :: Z3l) (Ya ((5, .j (1 : Int)) :: Z3l) Z3a (StC.mk (phi [(4, some 4)]) (.o rfl (.i4 .nil) .nil) rfl (.cons .im (.cons (.r rfl) .nil))) (Y1 ?_))
  obtain rfl := X1 H
  refine AW.recast (env' := [Z3t, (5, .j (1 : Int))]) (h' := Z3d) (StC.mk (phi [(4, some 4)]) (.o rfl (.i2 (.cons .nil (.cons .nil .nil))) .nil) rfl (.cons (.r rfl) (.cons .im .nil))) (Yl ?_)
  try simp only [Ex.t, Ex.b]
  exact Yh rfl (.cell rfl (by kernel_rfl) (.tmp .nil))
 refine Yb (Yc (Y0 (Y2 3 [29, 28, 4, 3, 2] ((29, .agg (Z3r t1)) :: (28, sC t0.Front) :: Z3c) ?_)))
 have ⟨x2, hx2, H⟩ := Yt H
 refine Ys rfl (.cons (.pur rfl) (.cons (.pur rfl) .nil)) (f_sheet_fits_ok hx2) (Y8 5 [35, 34, 32, 4, 3, 2] ((35, .cnd (!(!x2)) (.agg (Z3r t1))) :: (34, .cnd (!(!x2)) (sC t0.Back)) :: (32, .bool (!x2)) :: Z3c) ⟨(fun h => h), trivial⟩ ?_)
 have ⟨x3, hx3, H⟩ := Yt H
 refine OpsW.gcall (c := !(!x2)) (r := .bool x3) [] rfl (by kernel_rfl) rfl rfl rfl rfl (fun hc => ⟨Yg ⟨hc, hc, trivial⟩, (.cons (.pur rfl) (.cons (.pur rfl) .nil)), f_sheet_fits_ok (condT hc hx3), .inl ⟨rfl, rfl⟩⟩) (Y8 2 [38, 4, 3, 2] ((38, .bool (cond (!x2) true (!x3))) :: Z3c) ⟨(fun h => h), (fun h => by first | exact h | (simpa using h) | grind), trivial⟩ (Y1 (Y9 (b := cond (!x2) true (!x3)) H rfl (fun c4 H => ?_) (fun c4 H => ?_))))
 ·refine Y0 (Y2 1 [39, 4] ((39, .agg Z3n) :: Z3l) ?_)
  refine OpsW.store rfl rfl rfl rfl trivial trivial rfl rfl rfl (by kernel_rfl) (Y5 (by kernel_rfl)) (X0 (by kernel_rfl)) ?_
  change OpsW _ _ _ _ _ (Z3i t0 t1) _
  refine Y2 1 [5, 4] Z3g (Ya Z3g Z3a (StC.mk (phi [(4, some 4)]) (.o rfl (.i4 .nil) .nil) rfl (.cons .im (.cons (.r rfl) .nil))) (Y1 ?_))
  obtain rfl := X1 H
  refine AW.recast (env' := Z3m) (h' := Z3d) (StC.mk (phi [(4, some 4)]) (.o rfl (.i2 (.cons .nil (.cons .nil .nil))) .nil) rfl (.cons (.r rfl) (.cons .im .nil))) (Yl ?_)
  try simp only [Ex.t, Ex.b]
  exact Yh rfl (.cell rfl (by kernel_rfl) (.tmp .nil))
 refine Yb (Y0 ?_)
 have ⟨g5, H⟩ := Y6 H
 have ⟨g6, H⟩ := Y6 H
 refine Y8 7 [46, 4, 2] [(46, .agg (Z3p t1)), Z3t, (2, .ref 2 0 0)] ⟨g5, g6, trivial⟩ (Yo rfl rfl rfl 6 rfl (by kernel_rfl : zc Tryd.prog 47 = some [.j 0, .j 0, .slice none 0 0, .slice none 0 0]) (by kernel_rfl) (OpsW.store rfl rfl rfl rfl trivial trivial rfl rfl rfl (by kernel_rfl) (Y5 (by kernel_rfl)) (X0 (by kernel_rfl)) ?_))
 change OpsW _ _ _ _ _ ((6, ⟨0, true, 47, 4, (Z3p t1)⟩) :: (6, ⟨0, true, 47, 4, Z3n⟩) :: (Z38 t0 t1)) _
 refine Y2 0 [6, 4, 2] Z39 (Ya Z39 (Z37 t0 t1) (StC.mk (phi [(2, some 2), (4, some 4), (6, some 6)]) (.o rfl (.i4 .nil) (.o rfl (.i4 .nil) (.o rfl (.i4 .nil) .nil))) rfl (.cons (.r rfl) (.cons (.r rfl) (.cons (.r rfl) .nil)))) ?_)
 refine Y1 (Y0 (Y2 1 [6, 4, 2] Z39 ?_))
 refine Y1 (Yc (Y0 (Y2 6 [53, 51, 49, 6, 4, 2] (Z3h t0 t1) ?_)))
 have ⟨x7, hx7, H⟩ := Yt H
 refine OpsW.call rfl rfl (by kernel_rfl) [] _ _ rfl (Yg trivial) (.cons (.pur rfl) (.cons (.pur rfl) (.cons (.pur rfl) (.cons (.pur rfl) .nil)))) (f_sheet_raise_fn32_own hx7) ?_
 rintro _ _ ⟨rfl, rfl⟩
 refine ⟨fresh_of (by kernel_rfl), .inl rfl, ?_⟩
 change OpsW _ _ _ _ ((54, .tup [.rsl 1000 0 0 x7.1.length, .j x7.2]) :: (Z3h t0 t1)) ((1000, rtA 0 61 1 (eL eB) x7.1) :: (Z37 t0 t1)) _
 refine Ya ((54, .tup [.rsl 600 0 0 x7.1.length, .j x7.2]) :: (Z3h t0 t1)) ((600, rtA 0 61 1 (eL eB) x7.1) :: (Z37 t0 t1)) (StC.mk (phi [(600, some 1000), (2, some 2), (4, some 4), (6, some 6)]) (.o rfl (CstL.ims _) (.o rfl (.i4 .nil) (.o rfl (.i4 .nil) (.o rfl (.i4 .nil) .nil)))) rfl (.cons (.tup (.cons (.s rfl) (.cons .im .nil))) (.i3 (.cons (.r rfl) (.cons (.r rfl) (.cons (.r rfl) .nil)))))) (Y2 4 [57, 56, 55, 6, 4, 2] ((57, .ref 6 0 2) :: (56, .j x7.2) :: (55, .rsl 600 0 0 x7.1.length) :: Z39) (OpsW.store rfl rfl rfl rfl trivial trivial rfl rfl rfl (by kernel_rfl) (Y5 (by kernel_rfl)) (X0 (by kernel_rfl)) ?_))
 change OpsW _ _ _ _ _ ((6, ⟨0, true, 47, 4, [.j (2 * t1.Width), .j (3 * t1.Height), .rsl 600 0 0 x7.1.length, .im (.val (.slice none 0 0))]⟩) :: (600, rtA 0 61 1 (eL eB) x7.1) :: (Z37 t0 t1)) _
 refine Y2 1 [7, 6, 4, 2] ((7, .j x7.2) :: Z39) (Ya ((7, .j x7.2) :: Z39) (Z36 t0 t1 x7) (StC.mk (phi [(2, some 2), (4, some 4), (6, some 6), (5060, some 600)]) (.o rfl (.i4 .nil) (.o rfl (.i4 .nil) (.o rfl (.i2 (.cons (.s rfl) (.cons .im .nil))) (.o rfl (CstL.ims _) .nil)))) rfl (.cons .im (.cons (.r rfl) (.cons (.r rfl) (.cons (.r rfl) .nil))))) ?_)
 refine Y1 (Y0 (Y2 2 [59, 6, 4, 2] ((59, .bool (x7.2 != 0)) :: Z39) ?_))
 refine Y1 (Y9 (b := x7.2 != 0) H rfl (fun c8 H => ?_) (fun c8 H => ?_))
 ·refine Y0 (Y2 1 [60, 4] ((60, .agg Z3n) :: Z3l) ?_)
  refine OpsW.store rfl rfl rfl rfl trivial trivial rfl rfl rfl (by kernel_rfl) (Y5 (by kernel_rfl)) (X0 (by kernel_rfl)) ?_
  change OpsW _ _ _ _ _ ((4, ⟨0, true, 47, 4, Z3n⟩) :: (Z36 t0 t1 x7)) _
  refine Y2 1 [5, 4] Z3g (Ya Z3g Z3a (StC.mk (phi [(4, some 4)]) (.o rfl (.i4 .nil) .nil) rfl (.cons .im (.cons (.r rfl) .nil))) (Y1 ?_))
  obtain rfl := X1 H
  refine AW.recast (env' := Z3m) (h' := Z3d) (StC.mk (phi [(4, some 4)]) (.o rfl (.i2 (.cons .nil (.cons .nil .nil))) .nil) rfl (.cons (.r rfl) (.cons .im .nil))) (Yl ?_)
  try simp only [Ex.t, Ex.b]
  exact Yh rfl (.cell rfl (by kernel_rfl) (.tmp .nil))
 refine Yb (Yc (Y0 (Y2 6 [67, 65, 63, 6, 4] (Z3e t0 t1) ?_)))
 have ⟨x9, hx9, H⟩ := Yt H
 refine OpsW.call rfl rfl (by kernel_rfl) [] _ _ rfl (Yg trivial) (.cons (.pur rfl) (.cons (.pur rfl) (.cons (.pur rfl) (.cons (.pur rfl) .nil)))) (f_sheet_raise_fn33_own hx9) ?_
 rintro _ _ ⟨rfl, rfl⟩
 refine ⟨fresh_of (by kernel_rfl), .inl rfl, ?_⟩
 change OpsW _ _ _ _ ((68, .tup [.rsl 1000 0 0 x9.1.length, .j x9.2]) :: (Z3e t0 t1)) ((1000, rtA 0 61 1 (eL eB) x9.1) :: (Z36 t0 t1 x7)) _
 refine Ya ((68, .tup [.rsl 600 0 0 x9.1.length, .j x9.2]) :: (Z3e t0 t1)) ((600, rtA 0 61 1 (eL eB) x9.1) :: (Z36 t0 t1 x7)) (StC.mk (phi [(600, some 1000), (2, some 2), (4, some 4), (6, some 6), (5060, some 5060)]) (.o rfl (CstL.ims _) (.o rfl (.i4 .nil) (.o rfl (.i4 .nil) (.o rfl (.i2 (.cons (.s rfl) (.cons .im .nil))) (.o rfl (CstL.ims _) .nil))))) rfl (.cons (.tup (.cons (.s rfl) (.cons .im .nil))) (.i3 (.cons (.r rfl) (.cons (.r rfl) .nil))))) (Y2 4 [71, 70, 69, 6, 4] ((71, .ref 6 0 3) :: (70, .j x9.2) :: (69, .rsl 600 0 0 x9.1.length) :: Z3j) (OpsW.store rfl rfl rfl rfl trivial trivial rfl rfl rfl (by kernel_rfl) (Y5 (by kernel_rfl)) (X0 (by kernel_rfl)) ?_))
 change OpsW _ _ _ _ _ ((6, ⟨0, true, 47, 4, [.j (2 * t1.Width), .j (3 * t1.Height), .rsl 5060 0 0 x7.1.length, .rsl 600 0 0 x9.1.length]⟩) :: (600, rtA 0 61 1 (eL eB) x9.1) :: (Z36 t0 t1 x7)) _
 refine Y2 1 [7, 6, 4] ((7, .j x9.2) :: Z3j) (Ya ((7, .j x9.2) :: Z3j) (Z3b t1 x7 x9) (StC.mk (phi [(4, some 4), (6, some 6), (5060, some 5060), (5061, some 600)]) (.o rfl (.i4 .nil) (.o rfl (.i2 (.cons (.s rfl) (.cons (.s rfl) .nil))) (.o rfl (CstL.ims _) (.o rfl (CstL.ims _) .nil)))) rfl (.cons .im (.cons (.r rfl) (.cons (.r rfl) .nil)))) ?_)
 refine Y1 (Y0 (Y2 2 [73, 6, 4] ((73, .bool (x9.2 != 0)) :: Z3j) ?_))
 refine Y1 (Y9 (b := x9.2 != 0) H rfl (fun c10 H => ?_) (fun c10 H => ?_))
 ·refine Y0 (Y2 1 [74, 4] ((74, .agg Z3n) :: Z3l) ?_)
  refine OpsW.store rfl rfl rfl rfl trivial trivial rfl rfl rfl (by kernel_rfl) (Y5 (by kernel_rfl)) (X0 (by kernel_rfl)) ?_
  change OpsW _ _ _ _ _ ((4, ⟨0, true, 47, 4, Z3n⟩) :: (Z3b t1 x7 x9)) _
  refine Y2 1 [5, 4] Z3g (Ya Z3g Z3a (StC.mk (phi [(4, some 4)]) (.o rfl (.i4 .nil) .nil) rfl (.cons .im (.cons (.r rfl) .nil))) (Y1 ?_))
  obtain rfl := X1 H
  refine AW.recast (env' := Z3m) (h' := Z3d) (StC.mk (phi [(4, some 4)]) (.o rfl (.i2 (.cons .nil (.cons .nil .nil))) .nil) rfl (.cons (.r rfl) (.cons .im .nil))) (Yl ?_)
  try simp only [Ex.t, Ex.b]
  exact Yh rfl (.cell rfl (by kernel_rfl) (.tmp .nil))
 refine Yb (Y0 (Ya ((73, .bool (x9.2 != 0)) :: Z3j) (Z3f t1 x7 x9) (StC.mk (phi [(4, some 4), (6, some 6)]) (.o rfl (.i4 .nil) (.o rfl (.i2 (.cons (.frz rfl rfl rfl (Y1b (eL eB) 1 (fun _ => rfl) x7.1) (Yy (eL eB) 1 (fun _ => rfl) x7.1) (Y3c rfl)) (.cons (.frz rfl rfl rfl (Y1b (eL eB) 1 (fun _ => rfl) x9.1) (Yy (eL eB) 1 (fun _ => rfl) x9.1) (Y3c rfl)) .nil))) .nil)) rfl (.cons .im (.cons (.r rfl) (.cons (.r rfl) .nil)))) ?_))
 refine Y2 1 [75, 4] ((75, .agg (Z3q t1 x7 x9)) :: Z3l) (OpsW.store rfl rfl rfl rfl trivial trivial rfl rfl rfl (by kernel_rfl) (Y5 (by kernel_rfl)) (X0 (by kernel_rfl)) ?_)
 change OpsW _ _ _ _ _ ((4, ⟨0, true, 47, 4, (Z3q t1 x7 x9)⟩) :: (Z3f t1 x7 x9)) _
 refine Y2 1 [5, 4] ((5, .j (0 : Int)) :: Z3l) (Ya ((5, .j (0 : Int)) :: Z3l) [(4, ⟨0, true, 47, 4, (Z3q t1 x7 x9)⟩)] (StC.mk (phi [(4, some 4)]) (.o rfl (.i4 .nil) .nil) rfl (.cons .im (.cons (.r rfl) .nil))) (Y1 ?_))
 obtain rfl := X1 H
 refine AW.recast (env' := [Z3t, (5, .j (0 : Int))]) (h' := [(4, ⟨0, true, 47, 4, (Z3q t1 x7 x9)⟩)]) (StC.mk (phi [(4, some 4)]) (.o rfl (.i4 .nil) .nil) rfl (.cons (.r rfl) (.cons .im .nil))) (Yl ?_)
 try simp only [Ex.t, Ex.b]
 exact Yh rfl (.cell rfl (by kernel_rfl) (.tmp .nil))
def Y52 (t0 : Int) (t1 : Int) (loop4 : (Y4 × Y4 × Int) → Option Y4) (v1 : Y4) (v2 : Y4) (v3 : Int) : Option Y4 :=
 cond (decide (v3 < t1)) (
  G (0 ≤ t0 ∧ t0 ≤ t0 ∧ ((1 : Nat) : Int) * t0 ≤ 281474976710656 ∧ t0 ≤ 9223372036854775807) <|
  G (room 24 (v2.Up.length + 1)) <|
  G (room 24 (v2.Down.length + 1)) <|
  G (inR (v3 + 1)) <|
  loop4 (v1, (⟨v2.W, v2.H, v2.Up ++ [List.replicate t0.toNat false], v2.Down ++ [List.replicate t0.toNat false]⟩ : Y4), v3 + 1)) (
  some v2)
def Y1u (t0 : Int) (t1 : Int) : Option Y4 :=
 iter (fun loop (s : Y4 × Y4 × Int) => Y52 t0 t1 loop s.1 s.2.1 s.2.2) 1000000 ((⟨(0 : Int), (0 : Int), [], []⟩ : Y4), (⟨t0, t1, [], []⟩ : Y4), (0 : Int))
section
variable (t0 : Int) (t1 : Int) (v1 : Y4) (v2 : Y4) (v3 : Int)
abbrev Z4d := [fmA 15040 4 1 eB v1.Up, fmA 15041 4 1 eB v1.Down, fmA 15050 4 1 eB (v2.Up ++ [List.replicate t0.toNat false]), fmA 15051 4 1 eB v2.Down]
abbrev Z4e := [fmA 15040 4 1 eB v1.Up, fmA 15041 4 1 eB v1.Down, fmA 15050 4 1 eB (v2.Up ++ [List.replicate t0.toNat false]), fmA 15051 4 1 eB (v2.Down ++ [List.replicate t0.toNat false])]
abbrev Z4f := (⟨v2.W, v2.H, v2.Up ++ [List.replicate t0.toNat false], v2.Down ++ [List.replicate t0.toNat false]⟩ : Y4)
abbrev Z4g := [fmA 15040 4 1 eB v1.Up, fmA 15041 4 1 eB v1.Down, fmA 15050 4 1 eB v2.Up, fmA 15051 4 1 eB v2.Down]
abbrev Z4h := v2.Up ++ [List.replicate t0.toNat false]
abbrev Z4i : List AV := [.j v1.W, .j v1.H, .rsl 5040 0 0 v1.Up.length, .rsl 5041 0 0 v1.Down.length]
abbrev Z4j := (⟨(0 : Int), (0 : Int), [], []⟩ : Y4)
abbrev Z4k := List.replicate t0.toNat false
abbrev Z4l := v2.Down ++ [List.replicate t0.toNat false]
abbrev Z4m : List AV := [.j (0 : Int), .j (0 : Int), .im (.val (.slice none 0 0)), .im (.val (.slice none 0 0))]
abbrev Z4n := (⟨t0, t1, [], []⟩ : Y4)
abbrev Z4o : List AV := [.j v2.W, .j v2.H, .rsl 5050 0 0 v2.Up.length, .rsl 5051 0 0 v2.Down.length]
abbrev Z4p : List AV := [.j t0, .j t1, .im (.val (.slice none 0 0)), .im (.val (.slice none 0 0))]
abbrev Z4q := [fmA 15040 4 1 eB v2.Up, fmA 15041 4 1 eB v2.Down]
abbrev Z4r : List AV := [.j v2.W, .j v2.H, .rsl 5050 0 0 ((Z4h t0 v2).length), .rsl 5051 0 0 ((Z4l t0 v2).length)]
abbrev Z4s : List AV := [.j v2.W, .j v2.H, .rsl 5050 0 0 ((Z4h t0 v2).length), .rsl 5051 0 0 v2.Down.length]
abbrev Z3u : Hp := [(4, ⟨0, true, 47, 4, (Z4i v1)⟩), (5040, nsA 0 61 15040 v1.Up), (5041, nsA 0 61 15041 v1.Down), (5, ⟨0, true, 47, 4, (Z4o v2)⟩), (5050, nsA 0 61 15050 v2.Up), (5051, nsA 0 61 15051 v2.Down)]
abbrev Z3v : Hp := [(4, ⟨0, true, 47, 4, (Z4i v1)⟩), (5, ⟨0, true, 47, 4, (Z4s t0 v2)⟩), (5040, nsA 0 61 15040 v1.Up), (5041, nsA 0 61 15041 v1.Down), (5050, nsA 0 61 15050 (Z4h t0 v2)), (5051, nsA 0 61 15051 v2.Down)]
abbrev Z3w : Hp := [(5051, nsA 0 61 15051 (Z4l t0 v2)), (4, ⟨0, true, 47, 4, (Z4i v1)⟩), (5, ⟨0, true, 47, 4, [.j v2.W, .j v2.H, .rsl 5050 0 0 ((Z4h t0 v2).length), .any]⟩), (5040, nsA 0 61 15040 v1.Up), (5041, nsA 0 61 15041 v1.Down), (5050, nsA 0 61 15050 (Z4h t0 v2))]
abbrev Z3x : Hp := [(5050, nsA 0 61 15050 (Z4h t0 v2)), (4, ⟨0, true, 47, 4, (Z4i v1)⟩), (5040, nsA 0 61 15040 v1.Up), (5041, nsA 0 61 15041 v1.Down), (5, ⟨0, true, 47, 4, [.j v2.W, .j v2.H, .any, .rsl 5051 0 0 v2.Down.length]⟩), (5051, nsA 0 61 15051 v2.Down)]
abbrev Z3y : Hp := [(4, ⟨0, true, 47, 4, (Z4i v1)⟩), (5, ⟨0, true, 47, 4, (Z4r t0 v2)⟩), (5040, nsA 0 61 15040 v1.Up), (5041, nsA 0 61 15041 v1.Down), (5050, nsA 0 61 15050 (Z4h t0 v2)), (5051, nsA 0 61 15051 (Z4l t0 v2))]
abbrev Z3z : Env := [(0, .j t0), (1, .j t1), (4, .ref 4 0 0), (5, .ref 5 0 0), (6, .j v3)]
abbrev Z40 : Hp := [(4, ⟨0, true, 47, 4, [.j v2.W, .j v2.H, .rsl 5040 0 0 v2.Up.length, .rsl 5041 0 0 v2.Down.length]⟩), (5040, nsA 0 61 15040 v2.Up), (5041, nsA 0 61 15041 v2.Down)]
abbrev Z41 : Hp := (5051, ⟨1, true, 61, 1, (nsA 0 61 15051 v2.Down).cs.take (v2.Down.length * 1) ++ [.rsl 25 0 0 ((Z4k t0).length)]⟩) :: (26, ⟨0, true, 61, 1, [.rsl 25 0 0 ((Z4k t0).length)]⟩) :: (25, rtA 0 4 1 eB (Z4k t0)) :: (Z3v t0 v1 v2)
abbrev Z42 : Hp := (5050, ⟨1, true, 61, 1, (nsA 0 61 15050 v2.Up).cs.take (v2.Up.length * 1) ++ [.rsl 18 0 0 ((Z4k t0).length)]⟩) :: (19, ⟨0, true, 61, 1, [.rsl 18 0 0 ((Z4k t0).length)]⟩) :: (18, rtA 0 4 1 eB (Z4k t0)) :: (Z3u v1 v2)
abbrev Z43 : Hp := [(4, ⟨0, true, 47, 4, Z4m⟩), (5, ⟨0, true, 47, 4, (Z4p t0 t1)⟩)]
abbrev Z44 : Hp := (5, ⟨0, true, 47, 4, (Z4r t0 v2)⟩) :: (Z3w t0 v1 v2)
abbrev Z45 : List (Nat × FM) := [(15040, .same 15040), (15041, .same 15041), (15050, .same 15050), (15051, .same 15051)]
abbrev Z46 : Hp := [(1000, ⟨0, true, 47, 4, [.j v2.W, .j v2.H, .rsl 1500 0 0 v2.Up.length, .rsl 1501 0 0 v2.Down.length]⟩), (1500, nsA 0 61 11500 v2.Up), (1501, nsA 0 61 11501 v2.Down)]
abbrev Z47 : Hp := (5, ⟨0, true, 47, 4, (Z4s t0 v2)⟩) :: (Z3x t0 v1 v2)
abbrev Z48 : Hp := [(4, ⟨0, true, 47, 4, Z4m⟩)]
abbrev Z49 : Env := [(4, .ref 4 0 0), (0, .j t0), (1, .j t1)]
abbrev Z4a : Hp := (4, ⟨0, true, 47, 4, (Z4o v2)⟩) :: (Z3u v1 v2)
abbrev Z4b : Env := (26, .rsl 26 0 0 1) :: (23, .rsl 5051 0 0 v2.Down.length) :: (Z3z t0 t1 v3)
abbrev Z4c : Env := (19, .rsl 19 0 0 1) :: (16, .rsl 5050 0 0 v2.Up.length) :: (Z3z t0 t1 v3)
end
theorem Y27 {t0 : Int} {t1 : Int} {r : Y4} (H : Y1u t0 t1 = some r) : Abs.Spec Tryd.prog 28 [.int .i64 t0, .int .i64 t1] [] (fun x h => x = .agg [.int .i64 r.W, .int .i64 r.H, .rsl 1500 0 0 r.Up.length, .rsl 1501 0 0 r.Down.length] ∧ h = ([(1000, ⟨0, true, 47, 4, [.int .i64 r.W, .int .i64 r.H, .rsl 1500 0 0 r.Up.length, .rsl 1501 0 0 r.Down.length]⟩), (1500, nsA 0 61 11500 r.Up), (1501, nsA 0 61 11501 r.Down)] ++ fmsH [fmA 11500 4 1 eB r.Up, fmA 11501 4 1 eB r.Down])) := by
 refine Yj Tryd.func28 rfl (by simp [Tryd.ntmps28]) ?_
 rw [Tryd.ntmps28]
 unfold Y1u at H
 change AW _ _ _ [(0, .j t0), (1, .j t1)] [] _
 refine Y0 (Yo rfl rfl rfl 4 rfl (by kernel_rfl : zc Tryd.prog 47 = some [.j 0, .j 0, .slice none 0 0, .slice none 0 0]) (by kernel_rfl) ?_)
 refine Ya (Z49 t0 t1) Z48 (StC.mk (phi [(4, some 4)]) (.o rfl (.i4 .nil) .nil) rfl (.cons (.r rfl) (.i2 .nil))) ?_
 refine Y1 (Y0 (Y2 3 [9, 4, 0, 1] ((9, .agg (Z4p t0 t1)) :: (Z49 t0 t1)) ?_))
 refine Yo rfl rfl rfl 5 rfl (by kernel_rfl : zc Tryd.prog 47 = some [.j 0, .j 0, .slice none 0 0, .slice none 0 0]) (by kernel_rfl) (OpsW.store rfl rfl rfl rfl trivial trivial rfl rfl rfl (by kernel_rfl) (Y5 (by kernel_rfl)) (X0 (by kernel_rfl)) ?_)
 change OpsW _ _ _ _ _ ((5, ⟨0, true, 47, 4, (Z4p t0 t1)⟩) :: (5, ⟨0, true, 47, 4, Z4m⟩) :: Z48) _
 refine Y2 0 [5, 4, 0, 1] ((5, .ref 5 0 0) :: (Z49 t0 t1)) (Ya ((5, .ref 5 0 0) :: (Z49 t0 t1)) (Z43 t0 t1) (StC.mk (phi [(4, some 4), (5, some 5)]) (.o rfl (.i4 .nil) (.o rfl (.i4 .nil) .nil)) rfl (.cons (.r rfl) (.cons (.r rfl) (.i2 .nil)))) ?_)
 refine Y1 (Yc (Y0 (Y2 1 [6, 5, 4, 0, 1] ((6, .j (0 : Int)) :: (5, .ref 5 0 0) :: (Z49 t0 t1)) ?_)))
 refine Y1 (Yd ?_)
 refine Yq (fun loop (s : Y4 × Y4 × Int) => Y52 t0 t1 loop s.1 s.2.1 s.2.2) r (fun (s : Y4 × Y4 × Int) => [(0, .j t0), (1, .j t1), (4, .ref 4 0 0), (5, .ref 5 0 0), (6, .j s.2.2)]) (fun (s : Y4 × Y4 × Int) => ([(4, ⟨0, true, 47, 4, [.j s.1.W, .j s.1.H, .rsl 5040 0 0 s.1.Up.length, .rsl 5041 0 0 s.1.Down.length]⟩), (5040, nsA 0 61 15040 s.1.Up), (5041, nsA 0 61 15041 s.1.Down), (5, ⟨0, true, 47, 4, [.j s.2.1.W, .j s.2.1.H, .rsl 5050 0 0 s.2.1.Up.length, .rsl 5051 0 0 s.2.1.Down.length]⟩), (5050, nsA 0 61 15050 s.2.1.Up), (5051, nsA 0 61 15051 s.2.1.Down)] ++ fmsH [fmA 15040 4 1 eB s.1.Up, fmA 15041 4 1 eB s.1.Down, fmA 15050 4 1 eB s.2.1.Up, fmA 15051 4 1 eB s.2.1.Down])) ?_ 1000000 (Z4j, (Z4n t0 t1), (0 : Int)) H (Yp (hc := (Z43 t0 t1)) (fs := []) (hc' := [(4, ⟨0, true, 47, 4, [.j Z4j.W, .j Z4j.H, .rsl 5040 0 0 Z4j.Up.length, .rsl 5041 0 0 Z4j.Down.length]⟩), (5040, nsA 0 61 15040 Z4j.Up), (5041, nsA 0 61 15041 Z4j.Down), (5, ⟨0, true, 47, 4, [.j (Z4n t0 t1).W, .j (Z4n t0 t1).H, .rsl 5050 0 0 (Z4n t0 t1).Up.length, .rsl 5051 0 0 (Z4n t0 t1).Down.length]⟩), (5050, nsA 0 61 15050 (Z4n t0 t1).Up), (5051, nsA 0 61 15051 (Z4n t0 t1).Down)]) (fs' := [fmA 15040 4 1 eB Z4j.Up, fmA 15041 4 1 eB Z4j.Down, fmA 15050 4 1 eB (Z4n t0 t1).Up, fmA 15051 4 1 eB (Z4n t0 t1).Down]) rfl [(4, some 4), (5040, none), (5041, none), (5, some 5), (5050, none), (5051, none)] [(15040, .nil), (15041, .nil), (15050, .nil), (15051, .nil)] rfl (.o rfl (.i2 (.cons (.nilr rfl rfl rfl) (.cons (.nilr rfl rfl rfl) .nil))) (.new rfl (.new rfl (.o rfl (.i2 (.cons (.nilr rfl rfl rfl) (.cons (.nilr rfl rfl rfl) .nil))) (.new rfl (.new rfl .nil)))))) rfl (.cons rfl fmNil0 (.cons rfl fmNil0 (.cons rfl fmNil0 (.cons rfl fmNil0 .nil)))) (.i2 (.cons (.r rfl) (.cons (.r rfl) (.cons .im .nil)))))
 intro loop4 s H
 obtain ⟨v1, v2, v3⟩ := s
 unfold Y52 at H
 change AW _ _ _ (Z3z t0 t1 v3) ((Z3u v1 v2) ++ fmsH (Z4g v1 v2)) _
 refine Yc (Y0 (Y2 3 [12, 0, 1, 4, 5, 6] ((12, .bool (decide (v3 < t1))) :: (Z3z t0 t1 v3)) ?_))
 refine Y1 (Y9 (b := decide (v3 < t1)) H rfl (fun c5 H => ?_) (fun c5 H => ?_))
 ·refine Yb (Yc (Yd (AW.drawXSeq 5 [(3, 18, []), (4, 19, [18])] Tryd.checked.mixed (by kernel_rfl) (by kernel_rfl) ?_)))
  refine DOpsX.q 3 (by kernel_rfl) ?_
  refine QOps.sz (N := 30) 3 ((17, .j t0) :: (16, .rsl 5050 0 0 v2.Up.length) :: (15, .ref 5 0 2) :: (12, .bool (decide (v3 < t1))) :: (Z3z t0 t1 v3)) trivial (QOps.nil ?_)
  have ⟨g6, H⟩ := Y6 H
  refine DOpsX.e 18 rfl rfl (Y4r rfl) (by exact fun g hg hb => RStep.makeT (enc := eB) false rfl 18 ((hg 18 (List.Mem.head _)).trans (Y4r rfl)) E61 rfl rfl rfl g6) ?_
  refine DOpsX.e 19 rfl rfl (Y4r rfl) (by exact fun g hg hb => RStep.buildRow rfl 19 ((hg 19 (List.Mem.head _)).trans (free_c rfl (Y4r rfl))) E45 rfl ((hg 18 (List.Mem.tail _ (List.Mem.head _))).trans rfl) rfl rfl) ?_
  refine DOpsX.nil ?_
  refine Y2 0 [19, 16, 0, 1, 4, 5, 6] (Z4c t0 t1 v2 v3) ?_
  have ⟨g7, H⟩ := Y6 H
  change OpsW _ _ _ _ (Z4c t0 t1 v2 v3) (((19, ⟨0, true, 61, 1, [.rsl 18 0 0 ((Z4k t0).length)]⟩) :: (18, rtA 0 4 1 eB (Z4k t0)) :: (Z3u v1 v2)) ++ fmsH (Z4g v1 v2)) _
  refine OpsW.appendRow (xs := v2.Up) (Z4k t0) rfl rfl rfl E45 rfl rfl rfl rfl (by kernel_rfl) g7 ?_
  change OpsW _ _ _ _ ((20, .rsl 5050 1 0 ((Z4h t0 v2).length)) :: (Z4c t0 t1 v2 v3)) ((Z42 t0 v1 v2) ++ fmsH (Z4g v1 v2)) _
  refine Ya ((20, .rsl 5050 0 0 ((Z4h t0 v2).length)) :: (Z3z t0 t1 v3)) ((Z3x t0 v1 v2) ++ fmsH (Z4d t0 v1 v2)) (Yp (hc := (Z42 t0 v1 v2)) (fs := (Z4g v1 v2)) (hc' := (Z3x t0 v1 v2)) (fs' := (Z4d t0 v1 v2)) rfl [(5050, some 5050), (4, some 4), (5040, some 5040), (5041, some 5041), (5, some 5), (5051, some 5051)] [(15040, .same 15040), (15041, .same 15041), (15050, .put 15050 v2.Up.length 18), (15051, .same 15051)] rfl (.o rfl (nsSnocA rfl rfl (by decide) rfl rfl rfl rfl rfl rfl) (.o rfl (.i2 (.cons (.s rfl) (.cons (.s rfl) .nil))) (.o rfl (Yf rfl rfl (by decide) rfl rfl rfl) (.o rfl (Yf rfl rfl (by decide) rfl rfl rfl) (.o rfl (.i2 (.cons .any (.cons (.s rfl) .nil))) (.o rfl (Yf rfl rfl (by decide) rfl rfl rfl) .nil)))))) rfl (.cons rfl (Ym rfl) (.cons rfl (Ym rfl) (.cons rfl (fmSnoc rfl rfl) (.cons rfl (Ym rfl) .nil)))) (.cons (.s rfl) (.i2 (.cons (.r rfl) (.cons (.r rfl) (.cons .im .nil)))))) (Y2 1 [21, 20, 0, 1, 4, 5, 6] ((21, .ref 5 0 2) :: (20, .rsl 5050 0 0 ((Z4h t0 v2).length)) :: (Z3z t0 t1 v3)) (OpsW.store rfl rfl rfl rfl trivial trivial rfl rfl rfl (by kernel_rfl) (Y5 (by kernel_rfl)) (X0 (by kernel_rfl)) ?_))
  change OpsW _ _ _ _ _ ((Z47 t0 v1 v2) ++ fmsH (Z4d t0 v1 v2)) _
  refine Y2 0 [0, 1, 4, 5, 6] (Z3z t0 t1 v3) (Ya (Z3z t0 t1 v3) ((Z3v t0 v1 v2) ++ fmsH (Z4d t0 v1 v2)) (Yp (hc := (Z47 t0 v1 v2)) (fs := (Z4d t0 v1 v2)) (hc' := (Z3v t0 v1 v2)) (fs' := (Z4d t0 v1 v2)) rfl [(4, some 4), (5, some 5), (5040, some 5040), (5041, some 5041), (5050, some 5050), (5051, some 5051)] Z45 rfl (.o rfl (.i2 (.cons (.s rfl) (.cons (.s rfl) .nil))) (.o rfl (.i2 (.cons (.s rfl) (.cons (.s rfl) .nil))) (.o rfl (Yf rfl rfl (by decide) rfl rfl rfl) (.o rfl (Yf rfl rfl (by decide) rfl rfl rfl) (.o rfl (Yf rfl rfl (by decide) rfl rfl rfl) (.o rfl (Yf rfl rfl (by decide) rfl rfl rfl) .nil)))))) rfl (.cons rfl (Ym rfl) (.cons rfl (Ym rfl) (.cons rfl (Ym rfl) (.cons rfl (Ym rfl) .nil)))) (.i2 (.cons (.r rfl) (.cons (.r rfl) (.cons .im .nil))))) ?_)
  refine Y1 (AW.drawX 5 [(3, 25, []), (4, 26, [25])] Tryd.checked.mixed (by kernel_rfl) (by kernel_rfl) ?_)
  refine DOpsX.q 3 (by kernel_rfl) ?_
  refine QOps.sz (N := 30) 3 ((24, .j t0) :: (23, .rsl 5051 0 0 v2.Down.length) :: (22, .ref 5 0 3) :: (Z3z t0 t1 v3)) trivial ?_
  refine QOps.nil (DOpsX.e 25 rfl rfl (Y4r rfl) (by exact fun g hg hb => RStep.makeT (enc := eB) false rfl 25 ((hg 25 (List.Mem.head _)).trans (Y4r rfl)) E61 rfl rfl rfl g6) ?_)
  refine DOpsX.e 26 rfl rfl (Y4r rfl) (by exact fun g hg hb => RStep.buildRow rfl 26 ((hg 26 (List.Mem.head _)).trans (free_c rfl (Y4r rfl))) E45 rfl ((hg 25 (List.Mem.tail _ (List.Mem.head _))).trans rfl) rfl rfl) ?_
  refine DOpsX.nil ?_
  refine Y2 0 [26, 23, 0, 1, 4, 5, 6] (Z4b t0 t1 v2 v3) ?_
  have ⟨g8, H⟩ := Y6 H
  change OpsW _ _ _ _ (Z4b t0 t1 v2 v3) (((26, ⟨0, true, 61, 1, [.rsl 25 0 0 ((Z4k t0).length)]⟩) :: (25, rtA 0 4 1 eB (Z4k t0)) :: (Z3v t0 v1 v2)) ++ fmsH (Z4d t0 v1 v2)) _
  refine OpsW.appendRow (xs := v2.Down) (Z4k t0) rfl rfl rfl E45 rfl rfl rfl rfl (by kernel_rfl) g8 ?_
  change OpsW _ _ _ _ ((27, .rsl 5051 1 0 ((Z4l t0 v2).length)) :: (Z4b t0 t1 v2 v3)) ((Z41 t0 v1 v2) ++ fmsH (Z4d t0 v1 v2)) _
  refine Ya ((27, .rsl 5051 0 0 ((Z4l t0 v2).length)) :: (Z3z t0 t1 v3)) ((Z3w t0 v1 v2) ++ fmsH (Z4e t0 v1 v2)) (Yp (hc := (Z41 t0 v1 v2)) (fs := (Z4d t0 v1 v2)) (hc' := (Z3w t0 v1 v2)) (fs' := (Z4e t0 v1 v2)) rfl [(5051, some 5051), (4, some 4), (5, some 5), (5040, some 5040), (5041, some 5041), (5050, some 5050)] [(15040, .same 15040), (15041, .same 15041), (15050, .same 15050), (15051, .put 15051 v2.Down.length 25)] rfl (.o rfl (nsSnocA rfl rfl (by decide) rfl rfl rfl rfl rfl rfl) (.o rfl (.i2 (.cons (.s rfl) (.cons (.s rfl) .nil))) (.o rfl (.i2 (.cons (.s rfl) (.cons .any .nil))) (.o rfl (Yf rfl rfl (by decide) rfl rfl rfl) (.o rfl (Yf rfl rfl (by decide) rfl rfl rfl) (.o rfl (Yf rfl rfl (by decide) rfl rfl rfl) .nil)))))) rfl (.cons rfl (Ym rfl) (.cons rfl (Ym rfl) (.cons rfl (Ym rfl) (.cons rfl (fmSnoc rfl rfl) .nil)))) (.cons (.s rfl) (.i2 (.cons (.r rfl) (.cons (.r rfl) (.cons .im .nil)))))) (Y2 1 [28, 27, 0, 1, 4, 5, 6] ((28, .ref 5 0 3) :: (27, .rsl 5051 0 0 ((Z4l t0 v2).length)) :: (Z3z t0 t1 v3)) (OpsW.store rfl rfl rfl rfl trivial trivial rfl rfl rfl (by kernel_rfl) (Y5 (by kernel_rfl)) (X0 (by kernel_rfl)) ?_))
  change OpsW _ _ _ _ _ ((Z44 t0 v1 v2) ++ fmsH (Z4e t0 v1 v2)) _
  refine Y2 0 [0, 1, 4, 5, 6] (Z3z t0 t1 v3) (Ya (Z3z t0 t1 v3) ((Z3y t0 v1 v2) ++ fmsH (Z4e t0 v1 v2)) (Yp (hc := (Z44 t0 v1 v2)) (fs := (Z4e t0 v1 v2)) (hc' := (Z3y t0 v1 v2)) (fs' := (Z4e t0 v1 v2)) rfl [(4, some 4), (5, some 5), (5040, some 5040), (5041, some 5041), (5050, some 5050), (5051, some 5051)] Z45 rfl (.o rfl (.i2 (.cons (.s rfl) (.cons (.s rfl) .nil))) (.o rfl (.i2 (.cons (.s rfl) (.cons (.s rfl) .nil))) (.o rfl (Yf rfl rfl (by decide) rfl rfl rfl) (.o rfl (Yf rfl rfl (by decide) rfl rfl rfl) (.o rfl (Yf rfl rfl (by decide) rfl rfl rfl) (.o rfl (Yf rfl rfl (by decide) rfl rfl rfl) .nil)))))) rfl (.cons rfl (Ym rfl) (.cons rfl (Ym rfl) (.cons rfl (Ym rfl) (.cons rfl (Ym rfl) .nil)))) (.i2 (.cons (.r rfl) (.cons (.r rfl) (.cons .im .nil))))) ?_)
  refine Y1 (Ye ?_)
  have ⟨g9, H⟩ := Y6 H
  refine Y8 3 [6, 0, 1, 4, 5] [(6, .j (v3 + 1)), (0, .j t0), (1, .j t1), (4, .ref 4 0 0), (5, .ref 5 0 0)] ⟨g9, trivial⟩ (Y1 ?_)
  exact ⟨(v1, (Z4f t0 v2), v3 + 1), H, (Yp (hc := (Z3y t0 v1 v2)) (fs := (Z4e t0 v1 v2)) (hc' := [(4, ⟨0, true, 47, 4, (Z4i v1)⟩), (5040, nsA 0 61 15040 v1.Up), (5041, nsA 0 61 15041 v1.Down), (5, ⟨0, true, 47, 4, [.j (Z4f t0 v2).W, .j (Z4f t0 v2).H, .rsl 5050 0 0 (Z4f t0 v2).Up.length, .rsl 5051 0 0 (Z4f t0 v2).Down.length]⟩), (5050, nsA 0 61 15050 (Z4f t0 v2).Up), (5051, nsA 0 61 15051 (Z4f t0 v2).Down)]) (fs' := [fmA 15040 4 1 eB v1.Up, fmA 15041 4 1 eB v1.Down, fmA 15050 4 1 eB (Z4f t0 v2).Up, fmA 15051 4 1 eB (Z4f t0 v2).Down]) rfl [(4, some 4), (5040, some 5040), (5041, some 5041), (5, some 5), (5050, some 5050), (5051, some 5051)] Z45 rfl (.o rfl (.i2 (.cons (.s rfl) (.cons (.s rfl) .nil))) (.o rfl (Yf rfl rfl (by decide) rfl rfl rfl) (.o rfl (Yf rfl rfl (by decide) rfl rfl rfl) (.o rfl (.i2 (.cons (.s rfl) (.cons (.s rfl) .nil))) (.o rfl (Yf rfl rfl (by decide) rfl rfl rfl) (.o rfl (Yf rfl rfl (by decide) rfl rfl rfl) .nil)))))) rfl (.cons rfl (Ym rfl) (.cons rfl (Ym rfl) (.cons rfl (Ym rfl) (.cons rfl (Ym rfl) .nil)))) (.i2 (.cons (.r rfl) (.cons (.r rfl) (.cons .im .nil)))))⟩
 refine AW.exit ?_
 refine Y0 (Y2 1 [29, 4] [(29, .agg (Z4o v2)), (4, .ref 4 0 0)] ?_)
 refine OpsW.store rfl rfl rfl rfl trivial trivial rfl rfl rfl (by kernel_rfl) (Y5 (by kernel_rfl)) (X0 (by kernel_rfl)) ?_
 change OpsW _ _ _ _ _ ((Z4a v1 v2) ++ fmsH (Z4g v1 v2)) _
 refine Y2 0 [4] [(4, .ref 4 0 0)] (Ya [(4, .ref 4 0 0)] ((Z40 v2) ++ fmsH (Z4q v2)) (Yp (hc := (Z4a v1 v2)) (fs := (Z4g v1 v2)) (hc' := (Z40 v2)) (fs' := (Z4q v2)) rfl [(4, some 4), (5040, some 5050), (5041, some 5051)] [(15040, .same 15050), (15041, .same 15051)] rfl (.o rfl (.i2 (.cons (.s rfl) (.cons (.s rfl) .nil))) (.o rfl (Yf rfl rfl (by decide) rfl rfl rfl) (.o rfl (Yf rfl rfl (by decide) rfl rfl rfl) .nil))) rfl (.cons rfl (Ym rfl) (.cons rfl (Ym rfl) .nil)) (.cons (.r rfl) .nil)) (Y1 ?_))
 obtain rfl := X1 H
 refine AW.recast (env' := [(4, .ref 1000 0 0)]) (h' := ((Z46 v2) ++ fmsH [fmA 11500 4 1 eB v2.Up, fmA 11501 4 1 eB v2.Down])) (Yp (hc := (Z40 v2)) (fs := (Z4q v2)) (hc' := (Z46 v2)) (fs' := [fmA 11500 4 1 eB v2.Up, fmA 11501 4 1 eB v2.Down]) rfl [(1000, some 4), (1500, some 5040), (1501, some 5041)] [(11500, .same 15040), (11501, .same 15041)] rfl (.o rfl (.i2 (.cons (.s rfl) (.cons (.s rfl) .nil))) (.o rfl (Yf rfl rfl (by decide) rfl rfl rfl) (.o rfl (Yf rfl rfl (by decide) rfl rfl rfl) .nil))) rfl (.cons rfl (Ym rfl) (.cons rfl (Ym rfl) .nil)) (.cons (.r rfl) .nil)) (Yl ?_)
 try simp only [Ex.t, Ex.b]
 refine Y1k rfl (.cell rfl (by kernel_rfl) .nil) ?_
 exact ⟨by kernel_rfl, rfl⟩
theorem f_R25_Empty_ok  {t0 : Int} {t1 : Int} {r : Y4} (H : Y1u t0 t1 = some r) : QSpec Tryd.prog 28 [.int .i64 t0, .int .i64 t1] (.agg [.int .i64 r.W, .int .i64 r.H, slA (eL eB) r.Up, slA (eL eB) r.Down]) := by
 exact QSpec.of_ownF (Y27 H) (.agg (.cons .im (.cons .im (.cons (Y10 rfl rfl (fun _ => rfl) rfl rfl rfl) (.cons (Y10 rfl rfl (fun _ => rfl) rfl rfl rfl) .nil)))))
def Y2s (t0 : List (List Bool)) (t1 : Int) (loop3 : (Int) → Option Bool) (v2 : Int) : Option Bool :=
 cond (decide (v2 < (t0.length : Int))) (
  G (0 ≤ v2 ∧ v2 < (t0.length : Int)) <|
  cond (((t0.getD v2.toNat []).length : Int) != t1) (
   some false) (
   G (inR (v2 + 1)) <|
   loop3 (v2 + 1))) (
  some true)
def Y3m (t0 : List (List Bool)) (t1 : Int) (t2 : Int) : Option Bool :=
 cond ((t0.length : Int) != t2) (
  some false) (
  iter (fun loop (s : Int) => Y2s t0 t1 loop s) 1000000 (0 : Int))
section
variable (t0 : List (List Bool)) (t1 : Int) (v2 : Int)
abbrev Z4u := (t0.length : Int)
abbrev Z4t : Env := [(1, .j t1), (13, sD t0), (14, .j (Z4u t0)), (15, .j v2)]
end
theorem f_sheet_filled_ok  {t0 : List (List Bool)} {t1 : Int} {t2 : Int} {r : Bool} (H : Y3m t0 t1 t2 = some r) : QSpec Tryd.prog 38 [slA (eL eB) t0, .int .i64 t1, .int .i64 t2] (.bool r) := by
 refine Yj Tryd.func38 rfl (by simp [Tryd.ntmps38]) ?_
 rw [Tryd.ntmps38]
 unfold Y3m at H
 change AW _ _ _ [(0, sD t0), (1, .j t1), (2, .j t2)] [] _
 refine Y0 (Y2 1 [0, 1, 2] [(0, sD t0), (1, .j t1), (2, .j t2)] ?_)
 refine Y1 (Yc (Y0 (Y2 4 [12, 0, 1] [(12, .bool ((Z4u t0) != t2)), (0, sD t0), (1, .j t1)] ?_)))
 refine Y1 (Y9 (b := (Z4u t0) != t2) H rfl (fun c1 H => ?_) (fun c1 H => ?_))
 ·refine Y0 (Y2 1 [6] [(6, .bool false)] ?_)
  refine Y1 ?_
  obtain rfl := X1 H
  refine AW.recast (env' := [(6, .bool false)]) (h' := []) (StC.pure (.cons .im .nil)) (Yl ?_)
  try simp only [Ex.t, Ex.b]
  exact Yh rfl (.tmp .nil)
 refine Yb (Yc (Y0 (Y2 3 [15, 14, 13, 1] [(15, .j (0 : Int)), (14, .j (Z4u t0)), (13, sD t0), (1, .j t1)] ?_)))
 refine Y1 (Yd ?_)
 refine Yq (fun loop (s : Int) => Y2s t0 t1 loop s) r (fun (s : Int) => [(1, .j t1), (13, sD t0), (14, .j (Z4u t0)), (15, .j s)]) (fun (s : Int) => []) ?_ 1000000 (0 : Int) H (StC.pure (.i4 .nil))
 intro loop3 v2 H
 unfold Y2s at H
 change AW _ _ _ (Z4t t0 t1 v2) [] _
 refine Y0 (Y2 1 [16, 1, 13, 14, 15] ((16, .bool (decide (v2 < (Z4u t0)))) :: (Z4t t0 t1 v2)) ?_)
 refine Y1 (Yc (Y9 (b := decide (v2 < (Z4u t0))) H rfl (fun c4 H => ?_) (fun c4 H => ?_)))
 ·refine Yb (Yc (Yd (Y0 ?_)))
  have ⟨g5, H⟩ := Y6 H
  refine Y8 1 [17, 1, 13, 14, 15] ((17, .ipt (t0.flatMap (eL eB)) (v2.toNat * 1)) :: (Z4t t0 t1 v2)) ⟨g5, trivial⟩ (OpsW.asU (slA eB (t0.getD v2.toNat [])) rfl rfl (T.load rfl trivial (by kernel_rfl) (Yn (eL eB) 1 (fun _ => rfl) t0 [] v2.toNat (ltN g5) (fun a => .sl (a.flatMap eB) a.length) (fun _ => rfl))) (Y2 1 [8, 1, 13, 14, 15] ((8, slA eB (t0.getD v2.toNat [])) :: (Z4t t0 t1 v2)) ?_))
  refine Y1 (Y0 (Y2 4 [22, 1, 13, 14, 15] ((22, .bool (((t0.getD v2.toNat []).length : Int) != t1)) :: (Z4t t0 t1 v2)) ?_))
  refine Y1 (Y9 (b := ((t0.getD v2.toNat []).length : Int) != t1) H rfl (fun c6 H => ?_) (fun c6 H => ?_))
  ·refine Y0 (Y2 1 [6] [(6, .bool false)] ?_)
   refine Y1 ?_
   obtain rfl := X1 H
   refine AW.recast (env' := [(6, .bool false)]) (h' := []) (StC.pure (.cons .im .nil)) (Yl ?_)
   try simp only [Ex.t, Ex.b]
   exact Yh rfl (.tmp .nil)
  refine Yb (Ye ?_)
  have ⟨g7, H⟩ := Y6 H
  refine Y8 2 [15, 1, 13, 14] [(15, .j (v2 + 1)), (1, .j t1), (13, sD t0), (14, .j (Z4u t0))] ⟨g7, trivial⟩ (Y1 ?_)
  exact ⟨v2 + 1, H, (StC.pure (.i4 .nil))⟩
 refine AW.exit ?_
 refine Y0 (Y2 1 [6] [(6, .bool true)] ?_)
 refine Y1 ?_
 obtain rfl := X1 H
 refine AW.recast (env' := [(6, .bool true)]) (h' := []) (StC.pure (.cons .im .nil)) (Yl ?_)
 try simp only [Ex.t, Ex.b]
 exact Yh rfl (.tmp .nil)
def Y0h (t0 : Y4) : Option Bool :=
 G ((!((Int.tmod t0.W (2 : Int)) != 0)) = true → inR (Int.tdiv t0.W (2 : Int))) <|
 G ((!(cond ((Int.tmod t0.W (2 : Int)) != 0) true (decide ((Int.tdiv t0.W (2 : Int)) < 24)))) = true → inR (Int.tdiv t0.W (2 : Int))) <|
 cond (cond (cond ((Int.tmod t0.W (2 : Int)) != 0) true (decide ((Int.tdiv t0.W (2 : Int)) < 24))) true (decide ((60 : Int) < (Int.tdiv t0.W (2 : Int))))) (
  some false) (
  G ((!((Int.tmod t0.H (3 : Int)) != 0)) = true → inR (Int.tdiv t0.H (3 : Int))) <|
  G ((!(cond ((Int.tmod t0.H (3 : Int)) != 0) true (decide ((Int.tdiv t0.H (3 : Int)) < 4)))) = true → inR (Int.tdiv t0.H (3 : Int))) <|
  cond (cond (cond ((Int.tmod t0.H (3 : Int)) != 0) true (decide ((Int.tdiv t0.H (3 : Int)) < 4))) true (decide ((40 : Int) < (Int.tdiv t0.H (3 : Int))))) (
   some false) (
   (Y3m t0.Up t0.W t0.H).bind fun x7 =>
   (cond x7 (Y3m t0.Down t0.W t0.H) (some false)).bind fun x8 =>
   some (cond x7 x8 false)))
section
variable (t0 : Y4)
abbrev Z4v := (cond ((Int.tmod t0.W (2 : Int)) != 0) true (decide ((Int.tdiv t0.W (2 : Int)) < 24)))
abbrev Z4w := (cond ((Int.tmod t0.H (3 : Int)) != 0) true (decide ((Int.tdiv t0.H (3 : Int)) < 4)))
end
theorem Y1t  {t0 : Y4} {r : Bool} (H : Y0h t0 = some r) : QSpec Tryd.prog 16 [.agg [.int .i64 t0.W, .int .i64 t0.H, slA (eL eB) t0.Up, slA (eL eB) t0.Down]] (.bool r) := by
 refine Yj Tryd.func16 rfl (by simp [Tryd.ntmps16]) ?_
 rw [Tryd.ntmps16]
 unfold Y0h at H
 change AW _ _ _ [(0, .agg [.j t0.W, .j t0.H, sD t0.Up, sD t0.Down])] [] _
 refine Y0 (OpsW.box rfl rfl rfl 1 rfl (Y5 (by kernel_rfl)) ?_)
 change OpsW _ _ _ _ _ [(1, ⟨0, true, 47, 4, [.j t0.W, .j t0.H, sD t0.Up, sD t0.Down]⟩)] _
 refine Y2 1 [1] [(1, .ref 1 0 0)] ?_
 refine Y1 (Yc (Y0 ?_))
 have ⟨g1, H⟩ := Y6 H
 have ⟨g2, H⟩ := Y6 H
 refine Y8 16 [18, 1] [(18, .bool (cond (Z4v t0) true (decide ((60 : Int) < (Int.tdiv t0.W (2 : Int)))))), (1, .ref 1 0 0)] ⟨(by decide), (fun h => h), (fun h => h), (fun _ => by decide), g1, (fun h => h), (fun h => by first | exact h | (simpa using h) | grind), (fun h => h), (fun h => h), (fun _ => by decide), g2, (fun h => h), (fun h => by first | exact h | (simpa using h) | grind), trivial⟩ (Y1 (Y9 (b := cond (Z4v t0) true (decide ((60 : Int) < (Int.tdiv t0.W (2 : Int))))) H rfl (fun c3 H => ?_) (fun c3 H => ?_)))
 ·refine Y0 (Y2 1 [2] [(2, .bool false)] ?_)
  refine Y1 ?_
  obtain rfl := X1 H
  refine AW.recast (env' := [(2, .bool false)]) (h' := []) (StC.pure (.cons .im .nil)) (Yl ?_)
  try simp only [Ex.t, Ex.b]
  exact Yh rfl (.tmp .nil)
 refine Yb (Yc (Y0 ?_))
 have ⟨g4, H⟩ := Y6 H
 have ⟨g5, H⟩ := Y6 H
 refine Y8 16 [34, 1] [(34, .bool (cond (Z4w t0) true (decide ((40 : Int) < (Int.tdiv t0.H (3 : Int)))))), (1, .ref 1 0 0)] ⟨(by decide), (fun h => h), (fun h => h), (fun _ => by decide), g4, (fun h => h), (fun h => by first | exact h | (simpa using h) | grind), (fun h => h), (fun h => h), (fun _ => by decide), g5, (fun h => h), (fun h => by first | exact h | (simpa using h) | grind), trivial⟩ (Y1 (Y9 (b := cond (Z4w t0) true (decide ((40 : Int) < (Int.tdiv t0.H (3 : Int))))) H rfl (fun c6 H => ?_) (fun c6 H => ?_)))
 ·refine Y0 (Y2 1 [2] [(2, .bool false)] ?_)
  refine Y1 ?_
  obtain rfl := X1 H
  refine AW.recast (env' := [(2, .bool false)]) (h' := []) (StC.pure (.cons .im .nil)) (Yl ?_)
  try simp only [Ex.t, Ex.b]
  exact Yh rfl (.tmp .nil)
 refine Yb (Y0 (Y2 6 [40, 38, 36, 1] [(40, .j t0.H), (38, .j t0.W), (36, sD t0.Up), (1, .ref 1 0 0)] ?_))
 have ⟨x7, hx7, H⟩ := Yt H
 refine Ys rfl (.cons (.pur rfl) (.cons (.pur rfl) (.cons (.pur rfl) .nil))) (f_sheet_filled_ok hx7) (Y8 7 [48, 46, 44, 42] [(48, .cnd x7 (.j t0.H)), (46, .cnd x7 (.j t0.W)), (44, .cnd x7 (sD t0.Down)), (42, .bool x7)] ⟨(fun h => h), (fun h => h), (fun h => h), trivial⟩ ?_)
 have ⟨x8, hx8, H⟩ := Yt H
 refine OpsW.gcall (c := x7) (r := .bool x8) [] rfl (by kernel_rfl) rfl rfl rfl rfl (fun hc => ⟨Yg ⟨hc, hc, hc, trivial⟩, (.cons (.pur rfl) (.cons (.pur rfl) (.cons (.pur rfl) .nil))), f_sheet_filled_ok (condT hc hx8), .inl ⟨rfl, rfl⟩⟩) (Y8 2 [2] [(2, .bool (cond x7 x8 false))] ⟨(fun h => by first | exact h | (simpa using h) | grind), trivial⟩ (Y1 ?_))
 obtain rfl := X1 H
 refine AW.recast (env' := [(2, .bool (cond x7 x8 false))]) (h' := []) (StC.pure (.cons .im .nil)) (Yl ?_)
 try simp only [Ex.t, Ex.b]
 exact Yh rfl (.tmp .nil)
def Y45 (t0 : Yk) (loop3 : (Int) → Option Bool) (v2 : Int) : Option Bool :=
 cond (decide (v2 < (t0.Dots.length : Int))) (
  G (0 ≤ v2 ∧ v2 < (t0.Dots.length : Int)) <|
  cond (((t0.Dots.getD v2.toNat []).length : Int) != t0.W) (
   some false) (
   G (inR (v2 + 1)) <|
   loop3 (v2 + 1))) (
  some true)
def f_grid_Valid (t0 : Yk) : Option Bool :=
 cond (cond (cond (cond (cond (decide (t0.W < 0)) true (decide (200 < t0.W))) true (decide (t0.H < 0))) true (decide (200 < t0.H))) true ((t0.Dots.length : Int) != t0.H)) (
  some false) (
  iter (fun loop (s : Int) => Y45 t0 loop s) 1000000 (0 : Int))
section
variable (t0 : Yk) (v2 : Int)
abbrev Z4z := cond (cond (cond (decide (t0.W < 0)) true (decide (200 < t0.W))) true (decide (t0.H < 0))) true (decide (200 < t0.H))
abbrev Z50 := (t0.Dots.length : Int)
abbrev Z4x : Env := [(1, .ref 1 0 0), (32, sD t0.Dots), (33, .j (Z50 t0)), (34, .j v2)]
abbrev Z4y : Hp := [(1, ⟨0, true, 96, 3, [.j t0.W, .j t0.H, sD t0.Dots]⟩)]
end
theorem f_grid_Valid_ok  {t0 : Yk} {r : Bool} (H : f_grid_Valid t0 = some r) : QSpec Tryd.prog 66 [.agg [.int .i64 t0.W, .int .i64 t0.H, slA (eL eB) t0.Dots]] (.bool r) := by
 refine Yj Tryd.func66 rfl (by simp [Tryd.ntmps66]) ?_
 rw [Tryd.ntmps66]
 unfold f_grid_Valid at H
 change AW _ _ _ [(0, .agg [.j t0.W, .j t0.H, sD t0.Dots])] [] _
 refine Y0 (OpsW.box rfl rfl rfl 1 rfl (Y5 (by kernel_rfl)) ?_)
 change OpsW _ _ _ _ _ (Z4y t0) _
 refine Y2 1 [1] [(1, .ref 1 0 0)] ?_
 refine Y1 (Yc (Y0 (Y8 26 [30, 1] [(30, .bool (cond (Z4z t0) true ((Z50 t0) != t0.H))), (1, .ref 1 0 0)] ⟨(fun h => h), (fun h => h), (fun h => by first | exact h | (simpa using h) | grind), (fun h => h), (fun h => h), (fun h => by first | exact h | (simpa using h) | grind), (fun h => h), (fun h => h), (fun h => by first | exact h | (simpa using h) | grind), (fun h => h), (fun h => h), (fun h => h), (fun h => h), (fun h => h), (fun h => by first | exact h | (simpa using h) | grind), trivial⟩ ?_)))
 refine Y1 (Y9 (b := cond (Z4z t0) true ((Z50 t0) != t0.H)) H rfl (fun c1 H => ?_) (fun c1 H => ?_))
 ·refine Y0 (Y2 1 [2] [(2, .bool false)] ?_)
  refine Y1 ?_
  obtain rfl := X1 H
  refine AW.recast (env' := [(2, .bool false)]) (h' := []) (StC.pure (.cons .im .nil)) (Yl ?_)
  try simp only [Ex.t, Ex.b]
  exact Yh rfl (.tmp .nil)
 refine Yb (Yc (Y0 (Y2 4 [34, 33, 32, 1] [(34, .j (0 : Int)), (33, .j (Z50 t0)), (32, sD t0.Dots), (1, .ref 1 0 0)] ?_)))
 refine Y1 (Yd ?_)
 refine Yq (fun loop (s : Int) => Y45 t0 loop s) r (fun (s : Int) => [(1, .ref 1 0 0), (32, sD t0.Dots), (33, .j (Z50 t0)), (34, .j s)]) (fun (s : Int) => (Z4y t0)) ?_ 1000000 (0 : Int) H (StC.mk (phi [(1, some 1)]) (.o rfl (.i3 .nil) .nil) rfl (.cons (.r rfl) (.i3 .nil)))
 intro loop3 v2 H
 unfold Y45 at H
 change AW _ _ _ (Z4x t0 v2) (Z4y t0) _
 refine Y0 (Y2 1 [35, 1, 32, 33, 34] ((35, .bool (decide (v2 < (Z50 t0)))) :: (Z4x t0 v2)) ?_)
 refine Y1 (Yc (Y9 (b := decide (v2 < (Z50 t0))) H rfl (fun c4 H => ?_) (fun c4 H => ?_)))
 ·refine Yb (Yc (Yd (Y0 ?_)))
  have ⟨g5, H⟩ := Y6 H
  refine Y8 1 [36, 1, 32, 33, 34] ((36, .ipt (t0.Dots.flatMap (eL eB)) (v2.toNat * 1)) :: (Z4x t0 v2)) ⟨g5, trivial⟩ (OpsW.asU (slA eB (t0.Dots.getD v2.toNat [])) rfl rfl (T.load rfl trivial (by kernel_rfl) (Yn (eL eB) 1 (fun _ => rfl) t0.Dots [] v2.toNat (ltN g5) (fun a => .sl (a.flatMap eB) a.length) (fun _ => rfl))) (Y2 1 [4, 1, 32, 33, 34] ((4, slA eB (t0.Dots.getD v2.toNat [])) :: (Z4x t0 v2)) ?_))
  refine Y1 (Y0 (Y2 5 [42, 1, 32, 33, 34] ((42, .bool (((t0.Dots.getD v2.toNat []).length : Int) != t0.W)) :: (Z4x t0 v2)) ?_))
  refine Y1 (Y9 (b := ((t0.Dots.getD v2.toNat []).length : Int) != t0.W) H rfl (fun c6 H => ?_) (fun c6 H => ?_))
  ·refine Y0 (Y2 1 [2] [(2, .bool false)] ?_)
   refine Y1 ?_
   obtain rfl := X1 H
   refine AW.recast (env' := [(2, .bool false)]) (h' := []) (StC.pure (.cons .im .nil)) (Yl ?_)
   try simp only [Ex.t, Ex.b]
   exact Yh rfl (.tmp .nil)
  refine Yb (Ye ?_)
  have ⟨g7, H⟩ := Y6 H
  refine Y8 2 [34, 1, 32, 33] [(34, .j (v2 + 1)), (1, .ref 1 0 0), (32, sD t0.Dots), (33, .j (Z50 t0))] ⟨g7, trivial⟩ (Y1 ?_)
  exact ⟨v2 + 1, H, (StC.mk (phi [(1, some 1)]) (.o rfl (.i3 .nil) .nil) rfl (.cons (.r rfl) (.i3 .nil)))⟩
 refine AW.exit ?_
 refine Y0 (Y2 1 [2] [(2, .bool true)] ?_)
 refine Y1 ?_
 obtain rfl := X1 H
 refine AW.recast (env' := [(2, .bool true)]) (h' := []) (StC.pure (.cons .im .nil)) (Yl ?_)
 try simp only [Ex.t, Ex.b]
 exact Yh rfl (.tmp .nil)
end Go.Proofs.YtbcfmhoaocifoaaDoor
