/-
 Written by gen.py (own work): typed functions, and that the program computes them.
-/
import Derived.Test.YtbcfmhoaocifoaaDoorW1
set_option linter.unusedSimpArgs false
set_option linter.unusedVariables false
set_option maxRecDepth 100000
namespace Go.Proofs.YtbcfmhoaocifoaaDoor
open Go.Abs
def f_sheet_straight (t0 : List Bool) : Option (List Bool) :=
 G (0 ≤ (t0.length : Int) ∧ (t0.length : Int) ≤ (t0.length : Int) ∧ ((1 : Nat) : Int) * (t0.length : Int) ≤ 281474976710656 ∧ (t0.length : Int) ≤ 9223372036854775807) <|
 G (t0.length = (List.replicate (t0.length : Int).toNat false).length) <|
 some t0
section
variable (t0 : List Bool)
abbrev qZ3e := (List.replicate (t0.length : Int).toNat false)
abbrev qZ3d : Env := [(8, slA eB t0), (7, .rsl 3 0 0 ((qZ3e t0).length)), (3, .rsl 3 0 0 ((qZ3e t0).length))]
end
theorem f_sheet_straight_own {t0 : List Bool} {r : List Bool} (H : f_sheet_straight t0 = some r) : Abs.Spec Tryd.prog 32 [slA eB t0] [] (fun x h => x = .rsl 1000 0 0 r.length ∧ h = [(1000, rtA 0 4 1 eB r)]) := by
 refine Spec.of_AW Tryd.func32 rfl (by simp [Tryd.ntmps32]) ?_
 rw [Tryd.ntmps32]
 unfold f_sheet_straight at H
 change AW _ _ _ [(0, slA eB t0)] [] _
 refine AW.regionSeq (OpsW.sg 1 [0] [(0, slA eB t0)] ?_)
 refine OpsW.nil (AW.regionSeq (OpsW.sg 2 [5, 0] [(5, .int .i64 (t0.length : Int)), (0, slA eB t0)] ?_))
 obtain ⟨g1, H⟩ := G_some H
 refine OpsW.makeT (enc := eB) false rfl rfl rfl 6 rfl E61 rfl rfl rfl g1 ?_
 refine OpsW.sg 1 [3, 0] [(3, .rsl 6 0 0 ((qZ3e t0).length)), (0, slA eB t0)] ?_
 refine OpsW.recast (env' := [(3, .rsl 3 0 0 ((qZ3e t0).length)), (0, slA eB t0)]) (h' := [(3, rtA 0 4 1 eB (qZ3e t0))]) (StC.mk (phi [(3, some 6)]) (.o rfl (CstL.ims _) .nil) rfl (.cons (.s rfl) (.cons .im .nil))) ?_
 refine OpsW.nil (AW.regionSeq (OpsW.sg 2 [8, 7, 3] (qZ3d t0) ?_))
 obtain ⟨g2, H⟩ := G_some H
 refine OpsW.copyF (enc := eB) (l := (qZ3e t0)) (ys := t0) rfl rfl rfl E61 (fun _ => rfl) rfl rfl trivial (SrcA.typed (enc := eB) (fun _ => rfl) (by kernel_rfl) t0) g2 ?_
 change OpsW _ _ _ _ ((9, .int .i64 ((qZ3e t0).length : Int)) :: (qZ3d t0)) [(3, rtA 0 4 1 eB t0), (3, rtA 0 4 1 eB (qZ3e t0))] _
 refine OpsW.weaken [(9, .int .i64 ((qZ3e t0).length : Int)), (8, slA eB t0), (7, .rsl 3 0 0 t0.length), (3, .rsl 3 0 0 t0.length)] (Env.le_of_eq (by first | (rw [← g2]; done) | (simp only [qZ3e, qZ3d]; rw [← g2]))) ?_
 refine OpsW.sg 0 [3] [(3, .rsl 3 0 0 t0.length)] ?_
 refine OpsW.recast (env' := [(3, .rsl 3 0 0 t0.length)]) (h' := [(3, rtA 0 4 1 eB t0)]) (StC.mk (phi [(3, some 3)]) (.o rfl (CstL.ims _) .nil) rfl (.cons (.s rfl) .nil)) ?_
 refine OpsW.nil (AW.regionSeq (OpsW.sg 2 [2] [(2, .rsl 3 0 0 t0.length)] ?_))
 refine OpsW.nil ?_
 obtain rfl := Option.some.inj H
 refine AW.recast (env' := [(2, .rsl 1000 0 0 t0.length)]) (h' := [(1000, rtA 0 4 1 eB t0)]) (StC.mk (phi [(1000, some 3)]) (.o rfl (CstL.ims _) .nil) rfl (.cons (.s rfl) .nil)) ?_
 refine AW.ret ?_
 refine Done.gen rfl (.tmp .nil) ?_
 exact ⟨by kernel_rfl, rfl⟩
theorem f_sheet_straight_ok  {t0 : List Bool} {r : List Bool} (H : f_sheet_straight t0 = some r) : QSpec Tryd.prog 32 [slA eB t0] (slA eB r) := by
 exact QSpec.of_own (f_sheet_straight_own H) (.frz rfl rfl rfl (frz_all eB 1 (fun _ => rfl) r) (fm_length eB 1 (fun _ => rfl) r) (phi_ne rfl))
def f_sheet_turned (t0 : List Bool) : Option (List Bool) :=
 (f_sheet_straight t0).bind fun x1 =>
 some x1.reverse
theorem f_sheet_turned_ok  {t0 : List Bool} {r : List Bool} (H : f_sheet_turned t0 = some r) : QSpec Tryd.prog 33 [slA eB t0] (slA eB r) := by
 refine Spec.of_AW Tryd.func33 rfl (by simp [Tryd.ntmps33]) ?_
 rw [Tryd.ntmps33]
 unfold f_sheet_turned at H
 change AW _ _ _ [(0, slA eB t0)] [] _
 refine AW.regionSeq (OpsW.sg 1 [0] [(0, slA eB t0)] ?_)
 refine OpsW.nil (AW.regionSeq (OpsW.sg 1 [4] [(4, slA eB t0)] ?_))
 obtain ⟨x1, hx1, H⟩ := bindS H
 refine OpsW.call rfl rfl (by kernel_rfl) [] _ _ rfl (glAll_sound trivial) (.cons (.pur rfl) .nil) (f_sheet_straight_own hx1) ?_
 rintro _ _ ⟨rfl, rfl⟩
 refine ⟨fresh_of (by kernel_rfl), .inl rfl, ?_⟩
 change OpsW _ _ _ _ [(5, .rsl 1000 0 0 x1.length), (4, slA eB t0)] [(1000, rtA 0 4 1 eB x1)] _
 refine OpsW.recast (env' := [(5, .rsl 600 0 0 x1.length), (4, slA eB t0)]) (h' := [(600, rtA 0 4 1 eB x1)]) (StC.mk (phi [(600, some 1000)]) (.o rfl (CstL.ims _) .nil) rfl (.cons (.s rfl) (.cons .im .nil))) ?_
 refine OpsW.sg 1 [3] [(3, .rsl 600 0 0 x1.length)] ?_
 refine OpsW.recast (env' := [(3, .rsl 3 0 0 x1.length)]) (h' := [(3, rtA 0 4 1 eB x1)]) (StC.mk (phi [(3, some 600)]) (.o rfl (CstL.ims _) .nil) rfl (.cons (.s rfl) .nil)) ?_
 refine OpsW.nil (AW.regionSeq (OpsW.sg 1 [6, 3] [(6, .rsl 3 0 0 x1.length), (3, .rsl 3 0 0 x1.length)] ?_))
 refine OpsW.reverse (enc := eB) (l := x1) rfl rfl rfl (by kernel_rfl) (turns_reverse Tryd.rev52) rfl rfl (fun _ => rfl) ?_
 change OpsW _ _ _ _ [(7, .any), (6, .rsl 3 0 0 x1.length), (3, .rsl 3 0 0 x1.length)] [(3, rtA 0 4 1 eB x1.reverse), (3, rtA 0 4 1 eB x1)] _
 refine OpsW.weaken [(7, .any), (6, .rsl 3 0 0 ((x1.reverse).length)), (3, .rsl 3 0 0 ((x1.reverse).length))] (Env.le_of_eq (by simp only [List.length_set, List.length_reverse])) ?_
 refine OpsW.sg 0 [3] [(3, .rsl 3 0 0 ((x1.reverse).length))] ?_
 refine OpsW.recast (env' := [(3, slA eB x1.reverse)]) (h' := []) (StC.mk (phi []) .nil rfl (.cons (.frz rfl rfl rfl (frz_all eB 1 (fun _ => rfl) x1.reverse) (fm_length eB 1 (fun _ => rfl) x1.reverse) (phi_ne rfl)) .nil)) ?_
 refine OpsW.nil (AW.regionSeq (OpsW.sg 2 [2] [(2, slA eB x1.reverse)] ?_))
 refine OpsW.nil ?_
 obtain rfl := Option.some.inj H
 refine AW.recast (env' := [(2, slA eB x1.reverse)]) (h' := []) (StC.pure (.cons .im .nil)) ?_
 refine AW.ret ?_
 refine Done.gen rfl (.tmp .nil) ?_
 show _ = _
 kernel_rfl
def f_sheet_raise_fn32_b1 (x1 : S_Grid × Int) (loop6 : ((List (List Bool)) × Int) → Option ((List (List Bool)) × Int)) (v4 : List (List Bool)) (v5 : Int) : Option ((List (List Bool)) × Int) :=
 cond (decide (v5 < (x1.1.Dots.length : Int))) (
  G (0 ≤ v5 ∧ v5 < (x1.1.Dots.length : Int)) <|
  (f_sheet_straight (x1.1.Dots.getD v5.toNat [])).bind fun x9 =>
  G (0 ≤ v5 ∧ v5 < (v4.length : Int)) <|
  G (inR (v5 + 1)) <|
  loop6 (v4.set v5.toNat x9, v5 + 1)) (
  some (v4, (0 : Int)))
def f_sheet_raise_fn32 (t0 : List (List Int)) (t1 : Int) (t2 : Int) : Option ((List (List Bool)) × Int) :=
 (f_grid_FromCells t0 t1 t2).bind fun x1 =>
 cond (x1.2 != 0) (
  some ([], x1.2)) (
  G (0 ≤ (x1.1.Dots.length : Int) ∧ (x1.1.Dots.length : Int) ≤ (x1.1.Dots.length : Int) ∧ ((24 : Nat) : Int) * (x1.1.Dots.length : Int) ≤ 281474976710656 ∧ (x1.1.Dots.length : Int) ≤ 9223372036854775807) <|
  iter (fun loop (s : (List (List Bool)) × Int) => f_sheet_raise_fn32_b1 x1 loop s.1 s.2) 1000000 (List.replicate (x1.1.Dots.length : Int).toNat ([] : List Bool), (0 : Int)))
section
variable (v4 : List (List Bool)) (v5 : Int) (x1 : S_Grid × Int) (x9 : (List Bool))
abbrev qZ3j := (List.replicate (x1.1.Dots.length : Int).toNat ([] : List Bool))
abbrev qZ3k := (x1.1.Dots.length : Int)
abbrev qZ3l : List AV := [.int .i64 x1.1.W, .int .i64 x1.1.H, slA (eL eB) x1.1.Dots]
abbrev qZ3m : Nat × AV := (10, .ref 10 0 0)
abbrev qZ3f : Env := [(30, slA (eL eB) x1.1.Dots), (31, .int .i64 (qZ3k x1)), (32, .int .i64 v5)]
abbrev qZ3g : Env := (12, .rsl 12 0 0 v4.length) :: (qZ3f v5 x1)
abbrev qZ3h : Hp := [(10, ⟨0, true, 96, 3, (qZ3l x1)⟩)]
abbrev qZ3i : Env := (12, .rsl 12 0 0 ((v4.set v5.toNat x9).length)) :: (qZ3f v5 x1)
end
theorem f_sheet_raise_fn32_own {t0 : List (List Int)} {t1 : Int} {t2 : Int} {r : (List (List Bool)) × Int} (H : f_sheet_raise_fn32 t0 t1 t2 = some r) : Abs.Spec Tryd.prog 31 [slA (eL (eI .u8)) t0, .int .i64 t1, .int .i64 t2, .im (.val (.func (.func 32) #[] #[]))] [] (fun x h => x = .tup [.rsl 1000 0 0 r.1.length, .int .i64 r.2] ∧ h = [(1000, rtA 0 61 1 (eL eB) r.1)]) := by
 refine Spec.of_AW Tryd.func31 rfl (by simp [Tryd.ntmps31]) ?_
 rw [Tryd.ntmps31]
 unfold f_sheet_raise_fn32 at H
 change AW _ _ _ [(0, slA (eL (eI .u8)) t0), (1, .int .i64 t1), (2, .int .i64 t2), (3, .im (.val (.func (.func 32) #[] #[])))] [] _
 refine AW.regionSeq (OpsW.sg 2 [0, 1, 2, 3] [(0, slA (eL (eI .u8)) t0), (1, .int .i64 t1), (2, .int .i64 t2), (3, .im (.val (.func (.func 32) #[] #[])))] ?_)
 refine OpsW.nil (AW.regionSeq (OpsW.sg 3 [18, 17, 16, 3] [(18, .int .i64 t2), (17, .int .i64 t1), (16, slA (eL (eI .u8)) t0), (3, .im (.val (.func (.func 32) #[] #[])))] ?_))
 obtain ⟨x1, hx1, H⟩ := bindS H
 refine OpsW.qcall rfl (by kernel_rfl) rfl rfl (glAll_sound trivial) (.cons (.pur rfl) (.cons (.pur rfl) (.cons (.pur rfl) .nil))) (f_grid_FromCells_ok hx1) rfl ?_
 refine OpsW.sg 3 [21, 20, 3] [(21, .int .i64 x1.2), (20, .agg (qZ3l x1)), (3, .im (.val (.func (.func 32) #[] #[])))] ?_
 refine OpsW.alloc' rfl rfl rfl 10 rfl (by kernel_rfl : zc Tryd.prog 96 = some [.int .i64 0, .int .i64 0, .slice none 0 0]) (by kernel_rfl) ?_
 refine OpsW.store rfl rfl rfl rfl trivial trivial rfl rfl rfl (by kernel_rfl) (okCb_sound (by kernel_rfl)) (Nat.le_of_ble_eq_true (by kernel_rfl)) ?_
 change OpsW _ _ _ _ _ [(10, ⟨0, true, 96, 3, (qZ3l x1)⟩), (10, ⟨0, true, 96, 3, [.int .i64 0, .int .i64 0, .im (.val (.slice none 0 0))]⟩)] _
 refine OpsW.sg 1 [11, 10, 3] [(11, .int .i64 x1.2), qZ3m, (3, .im (.val (.func (.func 32) #[] #[])))] ?_
 refine OpsW.recast (env' := [(11, .int .i64 x1.2), qZ3m, (3, .im (.val (.func (.func 32) #[] #[])))]) (h' := (qZ3h x1)) (StC.mk (phi [(10, some 10)]) (.o rfl (.i3 .nil) .nil) rfl (.cons .im (.cons (.r rfl) (.cons .im .nil)))) ?_
 refine OpsW.nil (AW.seq (AW.regionSeq (OpsW.sg 2 [23, 11, 10, 3] [(23, .bool (x1.2 != 0)), (11, .int .i64 x1.2), qZ3m, (3, .im (.val (.func (.func 32) #[] #[])))] ?_)))
 refine OpsW.nil (AW.cond (b := x1.2 != 0) rfl (fun c2 => ?_) (fun c2 => ?_))
 ·replace H := condT c2 H
  refine AW.regionSeq (OpsW.sg 3 [9, 8] [(9, .int .i64 x1.2), (8, .im (.val (.slice none 0 0)))] ?_)
  refine OpsW.nil ?_
  obtain rfl := Option.some.inj H
  refine AW.recast (env' := [(8, .rsl 1000 0 0 0), (9, .int .i64 x1.2)]) (h' := [(1000, rtA 0 61 1 (eL eB) ([] : List (List Bool)))]) (StC.mk (phi [(1000, none)]) (.new rfl .nil) rfl (.cons (.nilr rfl rfl rfl) (.cons .im .nil))) ?_
  refine AW.ret ?_
  try simp only [Ex.then, Ex.inBlock, Ex.noGoto, Ex.jump, reduceIte, Nat.reduceEqDiff, reduceCtorEq]
  refine Done.gen rfl (.tmp (.tmp .nil)) ?_
  exact ⟨by kernel_rfl, rfl⟩
 replace H := condF c2 H
 refine AW.skip (AW.regionSeq (OpsW.sg 3 [27, 10, 3] [(27, .int .i64 (qZ3k x1)), qZ3m, (3, .im (.val (.func (.func 32) #[] #[])))] ?_))
 obtain ⟨g3, H⟩ := G_some H
 refine OpsW.makeR rfl rfl rfl 28 rfl E45 rfl rfl g3 ?_
 refine OpsW.weaken [(28, .rsl 28 0 0 ((qZ3j x1).length)), (27, .int .i64 (qZ3k x1)), qZ3m, (3, .im (.val (.func (.func 32) #[] #[])))] (Env.le_of_eq (by first | (rw [List.length_replicate]; rfl; done) | (simp only [qZ3j, qZ3k, qZ3m]; rw [List.length_replicate]; rfl))) ?_
 refine OpsW.recast (env' := [(28, .rsl 28 0 0 ((qZ3j x1).length)), (27, .int .i64 (qZ3k x1)), qZ3m, (3, .im (.val (.func (.func 32) #[] #[])))]) (h' := ((28, rtA 0 61 1 (eL eB) (qZ3j x1)) :: (qZ3h x1))) (StC.mk (phi [(28, some 28), (10, some 10)]) (.o rfl (csNil (enc := eB) _) (.o rfl (.i3 .nil) .nil)) rfl (.cons (.s rfl) (.cons .im (.cons (.r rfl) (.cons .im .nil))))) ?_
 refine OpsW.sg 1 [12, 10, 3] [(12, .rsl 28 0 0 ((qZ3j x1).length)), qZ3m, (3, .im (.val (.func (.func 32) #[] #[])))] ?_
 refine OpsW.recast (env' := [(12, .rsl 12 0 0 ((qZ3j x1).length)), qZ3m, (3, .im (.val (.func (.func 32) #[] #[])))]) (h' := [(10, ⟨0, true, 96, 3, (qZ3l x1)⟩), (12, rtA 0 61 1 (eL eB) (qZ3j x1))]) (StC.mk (phi [(10, some 10), (12, some 28)]) (.o rfl (.i3 .nil) (.o rfl (CstL.ims _) .nil)) rfl (.cons (.s rfl) (.cons (.r rfl) (.cons .im .nil)))) ?_
 refine OpsW.nil (AW.seq (AW.regionSeq (OpsW.sg 4 [32, 31, 30, 12, 3] [(32, .int .i64 0), (31, .int .i64 (qZ3k x1)), (30, slA (eL eB) x1.1.Dots), (12, .rsl 12 0 0 ((qZ3j x1).length)), (3, .im (.val (.func (.func 32) #[] #[])))] ?_)))
 refine OpsW.nil (AW.block ?_)
 refine AW.iterK (fun loop (s : (List (List Bool)) × Int) => f_sheet_raise_fn32_b1 x1 loop s.1 s.2) r (fun (s : (List (List Bool)) × Int) => [(3, .im (.val (.func (.func 32) #[] #[]))), (12, .rsl 12 0 0 s.1.length), (30, slA (eL eB) x1.1.Dots), (31, .int .i64 (qZ3k x1)), (32, .int .i64 s.2)]) (fun (s : (List (List Bool)) × Int) => [(12, rtA 0 61 1 (eL eB) s.1)]) ?_ 1000000 (List.replicate (qZ3k x1).toNat ([] : List Bool), (0 : Int)) H (StC.mk (phi [(12, some 12)]) (.o rfl (CstL.ims _) .nil) rfl (.cons .im (.cons (.s rfl) (.i3 .nil))))
 intro loop6 s H
 obtain ⟨v4, v5⟩ := s
 change f_sheet_raise_fn32_b1 x1 loop6 v4 v5 = some r at H
 unfold f_sheet_raise_fn32_b1 at H
 change AW _ _ _ ((3, .im (.val (.func (.func 32) #[] #[]))) :: (qZ3g v4 v5 x1)) [(12, rtA 0 61 1 (eL eB) v4)] _
 refine AW.regionSeq (OpsW.sg 1 [33, 3, 12, 30, 31, 32] ((33, .bool (decide (v5 < (qZ3k x1)))) :: (3, .im (.val (.func (.func 32) #[] #[]))) :: (qZ3g v4 v5 x1)) ?_)
 refine OpsW.nil (AW.seq (AW.cond (b := decide (v5 < (qZ3k x1))) rfl (fun c7 => ?_) (fun c7 => ?_)))
 ·replace H := condT c7 H
  refine AW.skip (AW.seq (AW.block (AW.regionSeq ?_)))
  obtain ⟨g8, H⟩ := G_some H
  refine OpsW.sq 2 [35, 34, 3, 12, 30, 31, 32] [0 ≤ v5 ∧ v5 < (qZ3k x1)] ((35, .ipt (x1.1.Dots.flatMap (eL eB)) (v5.toNat * 1)) :: (34, .int .i64 v5) :: (3, .im (.val (.func (.func 32) #[] #[]))) :: (qZ3g v4 v5 x1)) ⟨g8, trivial⟩ ?_
  refine OpsW.asU (slA eB (x1.1.Dots.getD v5.toNat [])) rfl rfl (T.load rfl trivial (by kernel_rfl) (fm_cell0 (eL eB) 1 (fun _ => rfl) x1.1.Dots [] v5.toNat (ltN g8) (fun a => .sl (a.flatMap eB) a.length) (fun _ => rfl))) ?_
  refine OpsW.sg 2 [14, 13, 3, 12, 30, 31, 32] ((14, slA eB (x1.1.Dots.getD v5.toNat [])) :: (13, .int .i64 v5) :: (3, .im (.val (.func (.func 32) #[] #[]))) :: (qZ3g v4 v5 x1)) ?_
  refine OpsW.nil (AW.region (OpsW.sg 4 [40, 39, 38, 37, 3, 12, 30, 31, 32] ((40, slA eB (x1.1.Dots.getD v5.toNat [])) :: (39, .im (.val (.func (.func 32) #[] #[]))) :: (38, .int .i64 v5) :: (37, .rsl 12 0 0 v4.length) :: (3, .im (.val (.func (.func 32) #[] #[]))) :: (qZ3g v4 v5 x1)) ?_))
  refine OpsW.valF rfl rfl (by kernel_rfl) ?_
  obtain ⟨x9, hx9, H⟩ := bindS H
  refine OpsW.qcall rfl (by kernel_rfl) rfl rfl (glAll_sound trivial) (.cons (.pur rfl) .nil) (f_sheet_straight_ok hx9) rfl ?_
  obtain ⟨g10, H⟩ := G_some H
  refine OpsW.sq 1 [42, 41, 3, 12, 30, 31, 32] [0 ≤ v5 ∧ v5 < (v4.length : Int)] ((42, .ref 12 0 (0 + v5.toNat * 1)) :: (41, slA eB x9) :: (3, .im (.val (.func (.func 32) #[] #[]))) :: (qZ3g v4 v5 x1)) ⟨g10, trivial⟩ ?_
  refine OpsW.storeT (enc := eL eB) (k := 1) [] x9 [.sl (x9.flatMap eB) x9.length] v5.toNat 0 rfl rfl rfl (by exact congrArg (AV.ref 12 0) (by first | omega | rfl | (simp only [qZ3k]; omega) | (simp; omega))) trivial trivial rfl (fun _ => rfl) rfl (by kernel_rfl) (okCb_sound (by kernel_rfl)) (ltN g10) (Nat.le_of_ble_eq_true (by kernel_rfl)) rfl ?_
  refine OpsW.weaken ((42, .ref 12 0 (0 + v5.toNat * 1)) :: (41, slA eB x9) :: (3, .im (.val (.func (.func 32) #[] #[]))) :: (qZ3i v4 v5 x1 x9)) (Env.le_of_eq (by first | (simp only [List.length_set, List.length_reverse]; done) | (simp only [qZ3k, qZ3f, qZ3g, qZ3i]; simp only [List.length_set, List.length_reverse]))) ?_
  refine OpsW.sg 0 [3, 12, 30, 31, 32] ((3, .im (.val (.func (.func 32) #[] #[]))) :: (qZ3i v4 v5 x1 x9)) ?_
  refine OpsW.recast (env' := ((3, .im (.val (.func (.func 32) #[] #[]))) :: (qZ3i v4 v5 x1 x9))) (h' := [(12, rtA 0 61 1 (eL eB) (v4.set v5.toNat x9))]) (StC.mk (phi [(12, some 12)]) (.o rfl (CstL.ims _) .nil) rfl (.cons .im (.cons (.s rfl) (.i3 .nil)))) ?_
  refine OpsW.nil (AW.region ?_)
  obtain ⟨g11, H⟩ := G_some H
  refine OpsW.sq 2 [32, 3, 12, 30, 31] [inR (v5 + 1)] [(32, .int .i64 (v5 + 1)), (3, .im (.val (.func (.func 32) #[] #[]))), (12, .rsl 12 0 0 ((v4.set v5.toNat x9).length)), (30, slA (eL eB) x1.1.Dots), (31, .int .i64 (qZ3k x1))] ⟨g11, trivial⟩ ?_
  refine OpsW.nil ?_
  show ∃ y, _ ∧ StC _ _ _ _
  exact ⟨(v4.set v5.toNat x9, v5 + 1), H, (StC.mk (phi [(12, some 12)]) (.o rfl (CstL.ims _) .nil) rfl (.cons .im (.cons (.s rfl) (.i3 .nil))))⟩
 replace H := condF c7 H
 refine AW.exit ?_
 refine AW.regionSeq (OpsW.sg 3 [9, 8] [(9, .int .i64 0), (8, .rsl 12 0 0 v4.length)] ?_)
 refine OpsW.nil ?_
 obtain rfl := Option.some.inj H
 refine AW.recast (env' := [(8, .rsl 1000 0 0 v4.length), (9, .int .i64 0)]) (h' := [(1000, rtA 0 61 1 (eL eB) v4)]) (StC.mk (phi [(1000, some 12)]) (.o rfl (CstL.ims _) .nil) rfl (.cons (.s rfl) (.cons .im .nil))) ?_
 refine AW.ret ?_
 try simp only [Ex.then, Ex.inBlock, Ex.noGoto, Ex.jump, reduceIte, Nat.reduceEqDiff, reduceCtorEq]
 refine Done.gen rfl (.tmp (.tmp .nil)) ?_
 exact ⟨by kernel_rfl, rfl⟩
def f_sheet_raise_fn33_b1 (x1 : S_Grid × Int) (loop6 : ((List (List Bool)) × Int) → Option ((List (List Bool)) × Int)) (v4 : List (List Bool)) (v5 : Int) : Option ((List (List Bool)) × Int) :=
 cond (decide (v5 < (x1.1.Dots.length : Int))) (
  G (0 ≤ v5 ∧ v5 < (x1.1.Dots.length : Int)) <|
  (f_sheet_turned (x1.1.Dots.getD v5.toNat [])).bind fun x9 =>
  G (0 ≤ v5 ∧ v5 < (v4.length : Int)) <|
  G (inR (v5 + 1)) <|
  loop6 (v4.set v5.toNat x9, v5 + 1)) (
  some (v4, (0 : Int)))
def f_sheet_raise_fn33 (t0 : List (List Int)) (t1 : Int) (t2 : Int) : Option ((List (List Bool)) × Int) :=
 (f_grid_FromCells t0 t1 t2).bind fun x1 =>
 cond (x1.2 != 0) (
  some ([], x1.2)) (
  G (0 ≤ (x1.1.Dots.length : Int) ∧ (x1.1.Dots.length : Int) ≤ (x1.1.Dots.length : Int) ∧ ((24 : Nat) : Int) * (x1.1.Dots.length : Int) ≤ 281474976710656 ∧ (x1.1.Dots.length : Int) ≤ 9223372036854775807) <|
  iter (fun loop (s : (List (List Bool)) × Int) => f_sheet_raise_fn33_b1 x1 loop s.1 s.2) 1000000 (List.replicate (x1.1.Dots.length : Int).toNat ([] : List Bool), (0 : Int)))
section
variable (v4 : List (List Bool)) (v5 : Int) (x1 : S_Grid × Int) (x9 : (List Bool))
abbrev qZ3r := (List.replicate (x1.1.Dots.length : Int).toNat ([] : List Bool))
abbrev qZ3s := (x1.1.Dots.length : Int)
abbrev qZ3t : List AV := [.int .i64 x1.1.W, .int .i64 x1.1.H, slA (eL eB) x1.1.Dots]
abbrev qZ3u : Nat × AV := (10, .ref 10 0 0)
abbrev qZ3n : Env := [(30, slA (eL eB) x1.1.Dots), (31, .int .i64 (qZ3s x1)), (32, .int .i64 v5)]
abbrev qZ3o : Env := (12, .rsl 12 0 0 v4.length) :: (qZ3n v5 x1)
abbrev qZ3p : Hp := [(10, ⟨0, true, 96, 3, (qZ3t x1)⟩)]
abbrev qZ3q : Env := (12, .rsl 12 0 0 ((v4.set v5.toNat x9).length)) :: (qZ3n v5 x1)
end
theorem f_sheet_raise_fn33_own {t0 : List (List Int)} {t1 : Int} {t2 : Int} {r : (List (List Bool)) × Int} (H : f_sheet_raise_fn33 t0 t1 t2 = some r) : Abs.Spec Tryd.prog 31 [slA (eL (eI .u8)) t0, .int .i64 t1, .int .i64 t2, .im (.val (.func (.func 33) #[] #[]))] [] (fun x h => x = .tup [.rsl 1000 0 0 r.1.length, .int .i64 r.2] ∧ h = [(1000, rtA 0 61 1 (eL eB) r.1)]) := by
 refine Spec.of_AW Tryd.func31 rfl (by simp [Tryd.ntmps31]) ?_
 rw [Tryd.ntmps31]
 unfold f_sheet_raise_fn33 at H
 change AW _ _ _ [(0, slA (eL (eI .u8)) t0), (1, .int .i64 t1), (2, .int .i64 t2), (3, .im (.val (.func (.func 33) #[] #[])))] [] _
 refine AW.regionSeq (OpsW.sg 2 [0, 1, 2, 3] [(0, slA (eL (eI .u8)) t0), (1, .int .i64 t1), (2, .int .i64 t2), (3, .im (.val (.func (.func 33) #[] #[])))] ?_)
 refine OpsW.nil (AW.regionSeq (OpsW.sg 3 [18, 17, 16, 3] [(18, .int .i64 t2), (17, .int .i64 t1), (16, slA (eL (eI .u8)) t0), (3, .im (.val (.func (.func 33) #[] #[])))] ?_))
 obtain ⟨x1, hx1, H⟩ := bindS H
 refine OpsW.qcall rfl (by kernel_rfl) rfl rfl (glAll_sound trivial) (.cons (.pur rfl) (.cons (.pur rfl) (.cons (.pur rfl) .nil))) (f_grid_FromCells_ok hx1) rfl ?_
 refine OpsW.sg 3 [21, 20, 3] [(21, .int .i64 x1.2), (20, .agg (qZ3t x1)), (3, .im (.val (.func (.func 33) #[] #[])))] ?_
 refine OpsW.alloc' rfl rfl rfl 10 rfl (by kernel_rfl : zc Tryd.prog 96 = some [.int .i64 0, .int .i64 0, .slice none 0 0]) (by kernel_rfl) ?_
 refine OpsW.store rfl rfl rfl rfl trivial trivial rfl rfl rfl (by kernel_rfl) (okCb_sound (by kernel_rfl)) (Nat.le_of_ble_eq_true (by kernel_rfl)) ?_
 change OpsW _ _ _ _ _ [(10, ⟨0, true, 96, 3, (qZ3t x1)⟩), (10, ⟨0, true, 96, 3, [.int .i64 0, .int .i64 0, .im (.val (.slice none 0 0))]⟩)] _
 refine OpsW.sg 1 [11, 10, 3] [(11, .int .i64 x1.2), qZ3u, (3, .im (.val (.func (.func 33) #[] #[])))] ?_
 refine OpsW.recast (env' := [(11, .int .i64 x1.2), qZ3u, (3, .im (.val (.func (.func 33) #[] #[])))]) (h' := (qZ3p x1)) (StC.mk (phi [(10, some 10)]) (.o rfl (.i3 .nil) .nil) rfl (.cons .im (.cons (.r rfl) (.cons .im .nil)))) ?_
 refine OpsW.nil (AW.seq (AW.regionSeq (OpsW.sg 2 [23, 11, 10, 3] [(23, .bool (x1.2 != 0)), (11, .int .i64 x1.2), qZ3u, (3, .im (.val (.func (.func 33) #[] #[])))] ?_)))
 refine OpsW.nil (AW.cond (b := x1.2 != 0) rfl (fun c2 => ?_) (fun c2 => ?_))
 ·replace H := condT c2 H
  refine AW.regionSeq (OpsW.sg 3 [9, 8] [(9, .int .i64 x1.2), (8, .im (.val (.slice none 0 0)))] ?_)
  refine OpsW.nil ?_
  obtain rfl := Option.some.inj H
  refine AW.recast (env' := [(8, .rsl 1000 0 0 0), (9, .int .i64 x1.2)]) (h' := [(1000, rtA 0 61 1 (eL eB) ([] : List (List Bool)))]) (StC.mk (phi [(1000, none)]) (.new rfl .nil) rfl (.cons (.nilr rfl rfl rfl) (.cons .im .nil))) ?_
  refine AW.ret ?_
  try simp only [Ex.then, Ex.inBlock, Ex.noGoto, Ex.jump, reduceIte, Nat.reduceEqDiff, reduceCtorEq]
  refine Done.gen rfl (.tmp (.tmp .nil)) ?_
  exact ⟨by kernel_rfl, rfl⟩
 replace H := condF c2 H
 refine AW.skip (AW.regionSeq (OpsW.sg 3 [27, 10, 3] [(27, .int .i64 (qZ3s x1)), qZ3u, (3, .im (.val (.func (.func 33) #[] #[])))] ?_))
 obtain ⟨g3, H⟩ := G_some H
 refine OpsW.makeR rfl rfl rfl 28 rfl E45 rfl rfl g3 ?_
 refine OpsW.weaken [(28, .rsl 28 0 0 ((qZ3r x1).length)), (27, .int .i64 (qZ3s x1)), qZ3u, (3, .im (.val (.func (.func 33) #[] #[])))] (Env.le_of_eq (by first | (rw [List.length_replicate]; rfl; done) | (simp only [qZ3r, qZ3s, qZ3u]; rw [List.length_replicate]; rfl))) ?_
 refine OpsW.recast (env' := [(28, .rsl 28 0 0 ((qZ3r x1).length)), (27, .int .i64 (qZ3s x1)), qZ3u, (3, .im (.val (.func (.func 33) #[] #[])))]) (h' := ((28, rtA 0 61 1 (eL eB) (qZ3r x1)) :: (qZ3p x1))) (StC.mk (phi [(28, some 28), (10, some 10)]) (.o rfl (csNil (enc := eB) _) (.o rfl (.i3 .nil) .nil)) rfl (.cons (.s rfl) (.cons .im (.cons (.r rfl) (.cons .im .nil))))) ?_
 refine OpsW.sg 1 [12, 10, 3] [(12, .rsl 28 0 0 ((qZ3r x1).length)), qZ3u, (3, .im (.val (.func (.func 33) #[] #[])))] ?_
 refine OpsW.recast (env' := [(12, .rsl 12 0 0 ((qZ3r x1).length)), qZ3u, (3, .im (.val (.func (.func 33) #[] #[])))]) (h' := [(10, ⟨0, true, 96, 3, (qZ3t x1)⟩), (12, rtA 0 61 1 (eL eB) (qZ3r x1))]) (StC.mk (phi [(10, some 10), (12, some 28)]) (.o rfl (.i3 .nil) (.o rfl (CstL.ims _) .nil)) rfl (.cons (.s rfl) (.cons (.r rfl) (.cons .im .nil)))) ?_
 refine OpsW.nil (AW.seq (AW.regionSeq (OpsW.sg 4 [32, 31, 30, 12, 3] [(32, .int .i64 0), (31, .int .i64 (qZ3s x1)), (30, slA (eL eB) x1.1.Dots), (12, .rsl 12 0 0 ((qZ3r x1).length)), (3, .im (.val (.func (.func 33) #[] #[])))] ?_)))
 refine OpsW.nil (AW.block ?_)
 refine AW.iterK (fun loop (s : (List (List Bool)) × Int) => f_sheet_raise_fn33_b1 x1 loop s.1 s.2) r (fun (s : (List (List Bool)) × Int) => [(3, .im (.val (.func (.func 33) #[] #[]))), (12, .rsl 12 0 0 s.1.length), (30, slA (eL eB) x1.1.Dots), (31, .int .i64 (qZ3s x1)), (32, .int .i64 s.2)]) (fun (s : (List (List Bool)) × Int) => [(12, rtA 0 61 1 (eL eB) s.1)]) ?_ 1000000 (List.replicate (qZ3s x1).toNat ([] : List Bool), (0 : Int)) H (StC.mk (phi [(12, some 12)]) (.o rfl (CstL.ims _) .nil) rfl (.cons .im (.cons (.s rfl) (.i3 .nil))))
 intro loop6 s H
 obtain ⟨v4, v5⟩ := s
 change f_sheet_raise_fn33_b1 x1 loop6 v4 v5 = some r at H
 unfold f_sheet_raise_fn33_b1 at H
 change AW _ _ _ ((3, .im (.val (.func (.func 33) #[] #[]))) :: (qZ3o v4 v5 x1)) [(12, rtA 0 61 1 (eL eB) v4)] _
 refine AW.regionSeq (OpsW.sg 1 [33, 3, 12, 30, 31, 32] ((33, .bool (decide (v5 < (qZ3s x1)))) :: (3, .im (.val (.func (.func 33) #[] #[]))) :: (qZ3o v4 v5 x1)) ?_)
 refine OpsW.nil (AW.seq (AW.cond (b := decide (v5 < (qZ3s x1))) rfl (fun c7 => ?_) (fun c7 => ?_)))
 ·replace H := condT c7 H
  refine AW.skip (AW.seq (AW.block (AW.regionSeq ?_)))
  obtain ⟨g8, H⟩ := G_some H
  refine OpsW.sq 2 [35, 34, 3, 12, 30, 31, 32] [0 ≤ v5 ∧ v5 < (qZ3s x1)] ((35, .ipt (x1.1.Dots.flatMap (eL eB)) (v5.toNat * 1)) :: (34, .int .i64 v5) :: (3, .im (.val (.func (.func 33) #[] #[]))) :: (qZ3o v4 v5 x1)) ⟨g8, trivial⟩ ?_
  refine OpsW.asU (slA eB (x1.1.Dots.getD v5.toNat [])) rfl rfl (T.load rfl trivial (by kernel_rfl) (fm_cell0 (eL eB) 1 (fun _ => rfl) x1.1.Dots [] v5.toNat (ltN g8) (fun a => .sl (a.flatMap eB) a.length) (fun _ => rfl))) ?_
  refine OpsW.sg 2 [14, 13, 3, 12, 30, 31, 32] ((14, slA eB (x1.1.Dots.getD v5.toNat [])) :: (13, .int .i64 v5) :: (3, .im (.val (.func (.func 33) #[] #[]))) :: (qZ3o v4 v5 x1)) ?_
  refine OpsW.nil (AW.region (OpsW.sg 4 [40, 39, 38, 37, 3, 12, 30, 31, 32] ((40, slA eB (x1.1.Dots.getD v5.toNat [])) :: (39, .im (.val (.func (.func 33) #[] #[]))) :: (38, .int .i64 v5) :: (37, .rsl 12 0 0 v4.length) :: (3, .im (.val (.func (.func 33) #[] #[]))) :: (qZ3o v4 v5 x1)) ?_))
  refine OpsW.valF rfl rfl (by kernel_rfl) ?_
  obtain ⟨x9, hx9, H⟩ := bindS H
  refine OpsW.qcall rfl (by kernel_rfl) rfl rfl (glAll_sound trivial) (.cons (.pur rfl) .nil) (f_sheet_turned_ok hx9) rfl ?_
  obtain ⟨g10, H⟩ := G_some H
  refine OpsW.sq 1 [42, 41, 3, 12, 30, 31, 32] [0 ≤ v5 ∧ v5 < (v4.length : Int)] ((42, .ref 12 0 (0 + v5.toNat * 1)) :: (41, slA eB x9) :: (3, .im (.val (.func (.func 33) #[] #[]))) :: (qZ3o v4 v5 x1)) ⟨g10, trivial⟩ ?_
  refine OpsW.storeT (enc := eL eB) (k := 1) [] x9 [.sl (x9.flatMap eB) x9.length] v5.toNat 0 rfl rfl rfl (by exact congrArg (AV.ref 12 0) (by first | omega | rfl | (simp only [qZ3s]; omega) | (simp; omega))) trivial trivial rfl (fun _ => rfl) rfl (by kernel_rfl) (okCb_sound (by kernel_rfl)) (ltN g10) (Nat.le_of_ble_eq_true (by kernel_rfl)) rfl ?_
  refine OpsW.weaken ((42, .ref 12 0 (0 + v5.toNat * 1)) :: (41, slA eB x9) :: (3, .im (.val (.func (.func 33) #[] #[]))) :: (qZ3q v4 v5 x1 x9)) (Env.le_of_eq (by first | (simp only [List.length_set, List.length_reverse]; done) | (simp only [qZ3s, qZ3n, qZ3o, qZ3q]; simp only [List.length_set, List.length_reverse]))) ?_
  refine OpsW.sg 0 [3, 12, 30, 31, 32] ((3, .im (.val (.func (.func 33) #[] #[]))) :: (qZ3q v4 v5 x1 x9)) ?_
  refine OpsW.recast (env' := ((3, .im (.val (.func (.func 33) #[] #[]))) :: (qZ3q v4 v5 x1 x9))) (h' := [(12, rtA 0 61 1 (eL eB) (v4.set v5.toNat x9))]) (StC.mk (phi [(12, some 12)]) (.o rfl (CstL.ims _) .nil) rfl (.cons .im (.cons (.s rfl) (.i3 .nil)))) ?_
  refine OpsW.nil (AW.region ?_)
  obtain ⟨g11, H⟩ := G_some H
  refine OpsW.sq 2 [32, 3, 12, 30, 31] [inR (v5 + 1)] [(32, .int .i64 (v5 + 1)), (3, .im (.val (.func (.func 33) #[] #[]))), (12, .rsl 12 0 0 ((v4.set v5.toNat x9).length)), (30, slA (eL eB) x1.1.Dots), (31, .int .i64 (qZ3s x1))] ⟨g11, trivial⟩ ?_
  refine OpsW.nil ?_
  show ∃ y, _ ∧ StC _ _ _ _
  exact ⟨(v4.set v5.toNat x9, v5 + 1), H, (StC.mk (phi [(12, some 12)]) (.o rfl (CstL.ims _) .nil) rfl (.cons .im (.cons (.s rfl) (.i3 .nil))))⟩
 replace H := condF c7 H
 refine AW.exit ?_
 refine AW.regionSeq (OpsW.sg 3 [9, 8] [(9, .int .i64 0), (8, .rsl 12 0 0 v4.length)] ?_)
 refine OpsW.nil ?_
 obtain rfl := Option.some.inj H
 refine AW.recast (env' := [(8, .rsl 1000 0 0 v4.length), (9, .int .i64 0)]) (h' := [(1000, rtA 0 61 1 (eL eB) v4)]) (StC.mk (phi [(1000, some 12)]) (.o rfl (CstL.ims _) .nil) rfl (.cons (.s rfl) (.cons .im .nil))) ?_
 refine AW.ret ?_
 try simp only [Ex.then, Ex.inBlock, Ex.noGoto, Ex.jump, reduceIte, Nat.reduceEqDiff, reduceCtorEq]
 refine Done.gen rfl (.tmp (.tmp .nil)) ?_
 exact ⟨by kernel_rfl, rfl⟩
def f_sheet_Press (t0 : S_Leaf) (t1 : S_Format) : Option (S_Plate × Int) :=
 cond (cond (cond (cond (decide (t1.Width < 24)) true (decide (60 < t1.Width))) true (decide (t1.Height < 4))) true (decide (40 < t1.Height))) (
  some ((⟨(0 : Int), (0 : Int), [], []⟩ : S_Plate), (1 : Int))) (
  (f_sheet_fits t0.Front t1).bind fun x2 =>
  (cond (!(!x2)) (f_sheet_fits t0.Back t1) (some false)).bind fun x3 =>
  cond (cond (!x2) true (!x3)) (
   some ((⟨(0 : Int), (0 : Int), [], []⟩ : S_Plate), (250 : Int))) (
   G (inR (2 * t1.Width)) <|
   G (inR (3 * t1.Height)) <|
   (f_sheet_raise_fn32 t0.Front (2 * t1.Width) (3 * t1.Height)).bind fun x7 =>
   cond (x7.2 != 0) (
    some ((⟨(0 : Int), (0 : Int), [], []⟩ : S_Plate), (250 : Int))) (
    (f_sheet_raise_fn33 t0.Back (2 * t1.Width) (3 * t1.Height)).bind fun x9 =>
    cond (x9.2 != 0) (
     some ((⟨(0 : Int), (0 : Int), [], []⟩ : S_Plate), (250 : Int))) (
     some ((⟨2 * t1.Width, 3 * t1.Height, x7.1, x9.1⟩ : S_Plate), (0 : Int))))))
section
variable (t0 : S_Leaf) (t1 : S_Format) (x7 : ((List (List Bool)) × Int)) (x9 : ((List (List Bool)) × Int))
abbrev qZ4c : List AV := [.int .i64 0, .int .i64 0, .im (.val (.slice none 0 0)), .im (.val (.slice none 0 0))]
abbrev qZ4d := cond (decide (t1.Width < 24)) true (decide (60 < t1.Width))
abbrev qZ4e : List AV := [.int .i64 t0.Label.N, .int .i64 t0.Label.K, slA (eL (eI .u8)) t0.Front, slA (eL (eI .u8)) t0.Back]
abbrev qZ4f := cond (qZ4d t1) true (decide (t1.Height < 4))
abbrev qZ4g : List AV := [.int .i64 t1.Width, .int .i64 t1.Height, .int .i64 t1.Binding]
abbrev qZ4h : List AV := [.int .i64 (2 * t1.Width), .int .i64 (3 * t1.Height), slA (eL eB) x7.1, slA (eL eB) x9.1]
abbrev qZ4i : List AV := [.int .i64 (2 * t1.Width), .int .i64 (3 * t1.Height), .im (.val (.slice none 0 0)), .im (.val (.slice none 0 0))]
abbrev qZ4j : Nat × AV := (4, .ref 4 0 0)
abbrev qZ4k := decide (t1.Width < 24)
abbrev qZ3v : Hp := [(2, ⟨0, true, 39, 4, (qZ4e t0)⟩), (4, ⟨0, true, 47, 4, qZ4c⟩), (6, ⟨0, true, 47, 4, [.int .i64 (2 * t1.Width), .int .i64 (3 * t1.Height), .rsl 5060 0 0 x7.1.length, .im (.val (.slice none 0 0))]⟩), (5060, rtA 0 61 1 (eL eB) x7.1)]
abbrev qZ3w : Hp := [(2, ⟨0, true, 39, 4, (qZ4e t0)⟩), (4, ⟨0, true, 47, 4, qZ4c⟩), (6, ⟨0, true, 47, 4, (qZ4i t1)⟩)]
abbrev qZ3x : Hp := [(2, ⟨0, true, 39, 4, (qZ4e t0)⟩), (3, ⟨0, true, 32, 3, (qZ4g t1)⟩), (4, ⟨0, true, 47, 4, qZ4c⟩)]
abbrev qZ3y : Env := [(6, .ref 6 0 0), qZ4j, (2, .ref 2 0 0)]
abbrev qZ3z : Hp := [(4, ⟨0, true, 47, 4, qZ4c⟩)]
abbrev qZ40 : Hp := [(4, ⟨0, true, 47, 4, qZ4c⟩), (6, ⟨0, true, 47, 4, [.int .i64 (2 * t1.Width), .int .i64 (3 * t1.Height), .rsl 5060 0 0 x7.1.length, .rsl 5061 0 0 x9.1.length]⟩), (5060, rtA 0 61 1 (eL eB) x7.1), (5061, rtA 0 61 1 (eL eB) x9.1)]
abbrev qZ41 : Env := [(67, .int .i64 (3 * t1.Height)), (65, .int .i64 (2 * t1.Width)), (63, slA (eL (eI .u8)) t0.Back), (6, .ref 6 0 0), qZ4j]
abbrev qZ42 : Hp := [(4, ⟨0, true, 47, 4, [.int .i64 0, .int .i64 0, slA (eL eB) [], slA (eL eB) []]⟩)]
abbrev qZ43 : Env := [qZ4j, (3, .ref 3 0 0), (2, .ref 2 0 0)]
abbrev qZ44 : Hp := [(4, ⟨0, true, 47, 4, qZ4c⟩), (6, ⟨0, true, 47, 4, (qZ4h t1 x7 x9)⟩)]
abbrev qZ45 : Env := (53, .int .i64 (3 * t1.Height)) :: (51, .int .i64 (2 * t1.Width)) :: (49, slA (eL (eI .u8)) t0.Front) :: qZ3y
abbrev qZ46 : Env := [(5, .int .i64 250), qZ4j]
abbrev qZ47 : Hp := [(2, ⟨0, true, 39, 4, (qZ4e t0)⟩)]
abbrev qZ48 : Hp := (4, ⟨0, true, 47, 4, qZ4c⟩) :: (qZ3x t0 t1)
abbrev qZ49 : Env := [(6, .ref 6 0 0), qZ4j]
abbrev qZ4a : Hp := [(4, ⟨0, true, 47, 4, (qZ4h t1 x7 x9)⟩)]
abbrev qZ4b : Env := [qZ4j]
end
theorem f_sheet_Press_ok  {t0 : S_Leaf} {t1 : S_Format} {r : S_Plate × Int} (H : f_sheet_Press t0 t1 = some r) : QSpec Tryd.prog 12 [.agg [.int .i64 t0.Label.N, .int .i64 t0.Label.K, slA (eL (eI .u8)) t0.Front, slA (eL (eI .u8)) t0.Back], .agg [.int .i64 t1.Width, .int .i64 t1.Height, .int .i64 t1.Binding]] (.tup [.agg [.int .i64 r.1.W, .int .i64 r.1.H, slA (eL eB) r.1.Up, slA (eL eB) r.1.Down], .int .i64 r.2]) := by
 refine Spec.of_AW Tryd.func12 rfl (by simp [Tryd.ntmps12]) ?_
 rw [Tryd.ntmps12]
 unfold f_sheet_Press at H
 change AW _ _ _ [(0, .agg (qZ4e t0)), (1, .agg (qZ4g t1))] [] _
 refine AW.regionSeq (OpsW.box rfl rfl rfl 2 rfl (okCb_sound (by kernel_rfl)) ?_)
 change OpsW _ _ _ _ _ (qZ47 t0) _
 refine OpsW.box rfl rfl rfl 3 rfl (okCb_sound (by kernel_rfl)) ?_
 change OpsW _ _ _ _ _ ((3, ⟨0, true, 32, 3, (qZ4g t1)⟩) :: (qZ47 t0)) _
 refine OpsW.alloc' rfl rfl rfl 4 rfl (by kernel_rfl : zc Tryd.prog 47 = some [.int .i64 0, .int .i64 0, .slice none 0 0, .slice none 0 0]) (by kernel_rfl) ?_
 refine OpsW.sg 1 [4, 3, 2] qZ43 ?_
 refine OpsW.recast (env' := qZ43) (h' := (qZ3x t0 t1)) (StC.mk (phi [(2, some 2), (3, some 3), (4, some 4)]) (.o rfl (.i4 .nil) (.o rfl (.i3 .nil) (.o rfl (.i4 .nil) .nil))) rfl (.cons (.r rfl) (.cons (.r rfl) (.cons (.r rfl) .nil)))) ?_
 refine OpsW.nil (AW.seq (AW.regionSeq (OpsW.sq 18 [25, 4, 3, 2] [(!(qZ4k t1)) = true → (!(qZ4k t1)) = true, (!(qZ4k t1)) = true → (!(qZ4k t1)) = true, (qZ4k t1) = false → (!(qZ4k t1)) = true, (!(qZ4d t1)) = true → (!(qZ4d t1)) = true, (!(qZ4d t1)) = true → (!(qZ4d t1)) = true, (qZ4d t1) = false → (!(qZ4d t1)) = true, (!(qZ4f t1)) = true → (!(qZ4f t1)) = true, (!(qZ4f t1)) = true → (!(qZ4f t1)) = true, (qZ4f t1) = false → (!(qZ4f t1)) = true] ((25, .bool (cond (qZ4f t1) true (decide (40 < t1.Height)))) :: qZ43) ⟨(fun h => h), (fun h => h), (fun h => by first | exact h | (simpa using h) | grind), (fun h => h), (fun h => h), (fun h => by first | exact h | (simpa using h) | grind), (fun h => h), (fun h => h), (fun h => by first | exact h | (simpa using h) | grind), trivial⟩ ?_)))
 refine OpsW.nil (AW.cond (b := cond (qZ4f t1) true (decide (40 < t1.Height))) rfl (fun c1 => ?_) (fun c1 => ?_))
 ·replace H := condT c1 H
  refine AW.regionSeq (OpsW.sg 1 [26, 4] ((26, .agg qZ4c) :: qZ4b) ?_)
  refine OpsW.store rfl rfl rfl rfl trivial trivial rfl rfl rfl (by kernel_rfl) (okCb_sound (by kernel_rfl)) (Nat.le_of_ble_eq_true (by kernel_rfl)) ?_
  change OpsW _ _ _ _ _ (qZ48 t0 t1) _
  refine OpsW.sg 1 [5, 4] ((5, .int .i64 1) :: qZ4b) ?_
  refine OpsW.recast (env' := ((5, .int .i64 1) :: qZ4b)) (h' := qZ3z) (StC.mk (phi [(4, some 4)]) (.o rfl (.i4 .nil) .nil) rfl (.cons .im (.cons (.r rfl) .nil))) ?_
  refine OpsW.nil ?_
  obtain rfl := Option.some.inj H
  refine AW.recast (env' := [qZ4j, (5, .int .i64 1)]) (h' := qZ42) (StC.mk (phi [(4, some 4)]) (.o rfl (.i2 (.cons .nil (.cons .nil .nil))) .nil) rfl (.cons (.r rfl) (.cons .im .nil))) ?_
  refine AW.ret ?_
  try simp only [Ex.then, Ex.inBlock, Ex.noGoto, Ex.jump, reduceIte, Nat.reduceEqDiff, reduceCtorEq]
  refine Done.gen rfl (.cell rfl (by kernel_rfl) (.tmp .nil)) ?_
  show _ = _
  kernel_rfl
 replace H := condF c1 H
 refine AW.skip (AW.seq (AW.regionSeq (OpsW.sg 3 [29, 28, 4, 3, 2] ((29, .agg (qZ4g t1)) :: (28, slA (eL (eI .u8)) t0.Front) :: qZ43) ?_)))
 obtain ⟨x2, hx2, H⟩ := bindS H
 refine OpsW.qcall rfl (by kernel_rfl) rfl rfl (glAll_sound trivial) (.cons (.pur rfl) (.cons (.pur rfl) .nil)) (f_sheet_fits_ok hx2) rfl ?_
 refine OpsW.sq 5 [35, 34, 32, 4, 3, 2] [(!(!x2)) = true → (!(!x2)) = true] ((35, .cnd (!(!x2)) (.agg (qZ4g t1))) :: (34, .cnd (!(!x2)) (slA (eL (eI .u8)) t0.Back)) :: (32, .bool (!x2)) :: qZ43) ⟨(fun h => h), trivial⟩ ?_
 obtain ⟨x3, hx3, H⟩ := bindS H
 refine OpsW.gcall (c := !(!x2)) (r := .bool x3) [] rfl (by kernel_rfl) rfl rfl rfl rfl (fun hc => ⟨glAll_sound ⟨hc, hc, trivial⟩, (.cons (.pur rfl) (.cons (.pur rfl) .nil)), f_sheet_fits_ok (condT hc hx3), .inl ⟨rfl, rfl⟩⟩) ?_
 refine OpsW.sq 2 [38, 4, 3, 2] [(!(!x2)) = true → (!(!x2)) = true, (!x2) = false → (!(!x2)) = true] ((38, .bool (cond (!x2) true (!x3))) :: qZ43) ⟨(fun h => h), (fun h => by first | exact h | (simpa using h) | grind), trivial⟩ ?_
 refine OpsW.nil (AW.cond (b := cond (!x2) true (!x3)) rfl (fun c4 => ?_) (fun c4 => ?_))
 ·replace H := condT c4 H
  refine AW.regionSeq (OpsW.sg 1 [39, 4] ((39, .agg qZ4c) :: qZ4b) ?_)
  refine OpsW.store rfl rfl rfl rfl trivial trivial rfl rfl rfl (by kernel_rfl) (okCb_sound (by kernel_rfl)) (Nat.le_of_ble_eq_true (by kernel_rfl)) ?_
  change OpsW _ _ _ _ _ (qZ48 t0 t1) _
  refine OpsW.sg 1 [5, 4] qZ46 ?_
  refine OpsW.recast (env' := qZ46) (h' := qZ3z) (StC.mk (phi [(4, some 4)]) (.o rfl (.i4 .nil) .nil) rfl (.cons .im (.cons (.r rfl) .nil))) ?_
  refine OpsW.nil ?_
  obtain rfl := Option.some.inj H
  refine AW.recast (env' := [qZ4j, (5, .int .i64 250)]) (h' := qZ42) (StC.mk (phi [(4, some 4)]) (.o rfl (.i2 (.cons .nil (.cons .nil .nil))) .nil) rfl (.cons (.r rfl) (.cons .im .nil))) ?_
  refine AW.ret ?_
  try simp only [Ex.then, Ex.inBlock, Ex.noGoto, Ex.jump, reduceIte, Nat.reduceEqDiff, reduceCtorEq]
  refine Done.gen rfl (.cell rfl (by kernel_rfl) (.tmp .nil)) ?_
  show _ = _
  kernel_rfl
 replace H := condF c4 H
 refine AW.skip (AW.regionSeq ?_)
 obtain ⟨g5, H⟩ := G_some H
 obtain ⟨g6, H⟩ := G_some H
 refine OpsW.sq 7 [46, 4, 2] [inR (2 * t1.Width), inR (3 * t1.Height)] [(46, .agg (qZ4i t1)), qZ4j, (2, .ref 2 0 0)] ⟨g5, g6, trivial⟩ ?_
 refine OpsW.alloc' rfl rfl rfl 6 rfl (by kernel_rfl : zc Tryd.prog 47 = some [.int .i64 0, .int .i64 0, .slice none 0 0, .slice none 0 0]) (by kernel_rfl) ?_
 refine OpsW.store rfl rfl rfl rfl trivial trivial rfl rfl rfl (by kernel_rfl) (okCb_sound (by kernel_rfl)) (Nat.le_of_ble_eq_true (by kernel_rfl)) ?_
 change OpsW _ _ _ _ _ ((6, ⟨0, true, 47, 4, (qZ4i t1)⟩) :: (6, ⟨0, true, 47, 4, qZ4c⟩) :: (qZ3x t0 t1)) _
 refine OpsW.sg 0 [6, 4, 2] qZ3y ?_
 refine OpsW.recast (env' := qZ3y) (h' := (qZ3w t0 t1)) (StC.mk (phi [(2, some 2), (4, some 4), (6, some 6)]) (.o rfl (.i4 .nil) (.o rfl (.i4 .nil) (.o rfl (.i4 .nil) .nil))) rfl (.cons (.r rfl) (.cons (.r rfl) (.cons (.r rfl) .nil)))) ?_
 refine OpsW.nil (AW.regionSeq (OpsW.sg 1 [6, 4, 2] qZ3y ?_))
 refine OpsW.nil (AW.seq (AW.regionSeq (OpsW.sg 6 [53, 51, 49, 6, 4, 2] (qZ45 t0 t1) ?_)))
 obtain ⟨x7, hx7, H⟩ := bindS H
 refine OpsW.call rfl rfl (by kernel_rfl) [] _ _ rfl (glAll_sound trivial) (.cons (.pur rfl) (.cons (.pur rfl) (.cons (.pur rfl) (.cons (.pur rfl) .nil)))) (f_sheet_raise_fn32_own hx7) ?_
 rintro _ _ ⟨rfl, rfl⟩
 refine ⟨fresh_of (by kernel_rfl), .inl rfl, ?_⟩
 change OpsW _ _ _ _ ((54, .tup [.rsl 1000 0 0 x7.1.length, .int .i64 x7.2]) :: (qZ45 t0 t1)) ((1000, rtA 0 61 1 (eL eB) x7.1) :: (qZ3w t0 t1)) _
 refine OpsW.recast (env' := ((54, .tup [.rsl 600 0 0 x7.1.length, .int .i64 x7.2]) :: (qZ45 t0 t1))) (h' := ((600, rtA 0 61 1 (eL eB) x7.1) :: (qZ3w t0 t1))) (StC.mk (phi [(600, some 1000), (2, some 2), (4, some 4), (6, some 6)]) (.o rfl (CstL.ims _) (.o rfl (.i4 .nil) (.o rfl (.i4 .nil) (.o rfl (.i4 .nil) .nil)))) rfl (.cons (.tup (.cons (.s rfl) (.cons .im .nil))) (.i3 (.cons (.r rfl) (.cons (.r rfl) (.cons (.r rfl) .nil)))))) ?_
 refine OpsW.sg 4 [57, 56, 55, 6, 4, 2] ((57, .ref 6 0 2) :: (56, .int .i64 x7.2) :: (55, .rsl 600 0 0 x7.1.length) :: qZ3y) ?_
 refine OpsW.store rfl rfl rfl rfl trivial trivial rfl rfl rfl (by kernel_rfl) (okCb_sound (by kernel_rfl)) (Nat.le_of_ble_eq_true (by kernel_rfl)) ?_
 change OpsW _ _ _ _ _ ((6, ⟨0, true, 47, 4, [.int .i64 (2 * t1.Width), .int .i64 (3 * t1.Height), .rsl 600 0 0 x7.1.length, .im (.val (.slice none 0 0))]⟩) :: (600, rtA 0 61 1 (eL eB) x7.1) :: (qZ3w t0 t1)) _
 refine OpsW.sg 1 [7, 6, 4, 2] ((7, .int .i64 x7.2) :: qZ3y) ?_
 refine OpsW.recast (env' := ((7, .int .i64 x7.2) :: qZ3y)) (h' := (qZ3v t0 t1 x7)) (StC.mk (phi [(2, some 2), (4, some 4), (6, some 6), (5060, some 600)]) (.o rfl (.i4 .nil) (.o rfl (.i4 .nil) (.o rfl (.i2 (.cons (.s rfl) (.cons .im .nil))) (.o rfl (CstL.ims _) .nil)))) rfl (.cons .im (.cons (.r rfl) (.cons (.r rfl) (.cons (.r rfl) .nil))))) ?_
 refine OpsW.nil (AW.regionSeq (OpsW.sg 2 [59, 6, 4, 2] ((59, .bool (x7.2 != 0)) :: qZ3y) ?_))
 refine OpsW.nil (AW.cond (b := x7.2 != 0) rfl (fun c8 => ?_) (fun c8 => ?_))
 ·replace H := condT c8 H
  refine AW.regionSeq (OpsW.sg 1 [60, 4] ((60, .agg qZ4c) :: qZ4b) ?_)
  refine OpsW.store rfl rfl rfl rfl trivial trivial rfl rfl rfl (by kernel_rfl) (okCb_sound (by kernel_rfl)) (Nat.le_of_ble_eq_true (by kernel_rfl)) ?_
  change OpsW _ _ _ _ _ ((4, ⟨0, true, 47, 4, qZ4c⟩) :: (qZ3v t0 t1 x7)) _
  refine OpsW.sg 1 [5, 4] qZ46 ?_
  refine OpsW.recast (env' := qZ46) (h' := qZ3z) (StC.mk (phi [(4, some 4)]) (.o rfl (.i4 .nil) .nil) rfl (.cons .im (.cons (.r rfl) .nil))) ?_
  refine OpsW.nil ?_
  obtain rfl := Option.some.inj H
  refine AW.recast (env' := [qZ4j, (5, .int .i64 250)]) (h' := qZ42) (StC.mk (phi [(4, some 4)]) (.o rfl (.i2 (.cons .nil (.cons .nil .nil))) .nil) rfl (.cons (.r rfl) (.cons .im .nil))) ?_
  refine AW.ret ?_
  try simp only [Ex.then, Ex.inBlock, Ex.noGoto, Ex.jump, reduceIte, Nat.reduceEqDiff, reduceCtorEq]
  refine Done.gen rfl (.cell rfl (by kernel_rfl) (.tmp .nil)) ?_
  show _ = _
  kernel_rfl
 replace H := condF c8 H
 refine AW.skip (AW.seq (AW.regionSeq (OpsW.sg 6 [67, 65, 63, 6, 4] (qZ41 t0 t1) ?_)))
 obtain ⟨x9, hx9, H⟩ := bindS H
 refine OpsW.call rfl rfl (by kernel_rfl) [] _ _ rfl (glAll_sound trivial) (.cons (.pur rfl) (.cons (.pur rfl) (.cons (.pur rfl) (.cons (.pur rfl) .nil)))) (f_sheet_raise_fn33_own hx9) ?_
 rintro _ _ ⟨rfl, rfl⟩
 refine ⟨fresh_of (by kernel_rfl), .inl rfl, ?_⟩
 change OpsW _ _ _ _ ((68, .tup [.rsl 1000 0 0 x9.1.length, .int .i64 x9.2]) :: (qZ41 t0 t1)) ((1000, rtA 0 61 1 (eL eB) x9.1) :: (qZ3v t0 t1 x7)) _
 refine OpsW.recast (env' := ((68, .tup [.rsl 600 0 0 x9.1.length, .int .i64 x9.2]) :: (qZ41 t0 t1))) (h' := ((600, rtA 0 61 1 (eL eB) x9.1) :: (qZ3v t0 t1 x7))) (StC.mk (phi [(600, some 1000), (2, some 2), (4, some 4), (6, some 6), (5060, some 5060)]) (.o rfl (CstL.ims _) (.o rfl (.i4 .nil) (.o rfl (.i4 .nil) (.o rfl (.i2 (.cons (.s rfl) (.cons .im .nil))) (.o rfl (CstL.ims _) .nil))))) rfl (.cons (.tup (.cons (.s rfl) (.cons .im .nil))) (.i3 (.cons (.r rfl) (.cons (.r rfl) .nil))))) ?_
 refine OpsW.sg 4 [71, 70, 69, 6, 4] ((71, .ref 6 0 3) :: (70, .int .i64 x9.2) :: (69, .rsl 600 0 0 x9.1.length) :: qZ49) ?_
 refine OpsW.store rfl rfl rfl rfl trivial trivial rfl rfl rfl (by kernel_rfl) (okCb_sound (by kernel_rfl)) (Nat.le_of_ble_eq_true (by kernel_rfl)) ?_
 change OpsW _ _ _ _ _ ((6, ⟨0, true, 47, 4, [.int .i64 (2 * t1.Width), .int .i64 (3 * t1.Height), .rsl 5060 0 0 x7.1.length, .rsl 600 0 0 x9.1.length]⟩) :: (600, rtA 0 61 1 (eL eB) x9.1) :: (qZ3v t0 t1 x7)) _
 refine OpsW.sg 1 [7, 6, 4] ((7, .int .i64 x9.2) :: qZ49) ?_
 refine OpsW.recast (env' := ((7, .int .i64 x9.2) :: qZ49)) (h' := (qZ40 t1 x7 x9)) (StC.mk (phi [(4, some 4), (6, some 6), (5060, some 5060), (5061, some 600)]) (.o rfl (.i4 .nil) (.o rfl (.i2 (.cons (.s rfl) (.cons (.s rfl) .nil))) (.o rfl (CstL.ims _) (.o rfl (CstL.ims _) .nil)))) rfl (.cons .im (.cons (.r rfl) (.cons (.r rfl) .nil)))) ?_
 refine OpsW.nil (AW.regionSeq (OpsW.sg 2 [73, 6, 4] ((73, .bool (x9.2 != 0)) :: qZ49) ?_))
 refine OpsW.nil (AW.cond (b := x9.2 != 0) rfl (fun c10 => ?_) (fun c10 => ?_))
 ·replace H := condT c10 H
  refine AW.regionSeq (OpsW.sg 1 [74, 4] ((74, .agg qZ4c) :: qZ4b) ?_)
  refine OpsW.store rfl rfl rfl rfl trivial trivial rfl rfl rfl (by kernel_rfl) (okCb_sound (by kernel_rfl)) (Nat.le_of_ble_eq_true (by kernel_rfl)) ?_
  change OpsW _ _ _ _ _ ((4, ⟨0, true, 47, 4, qZ4c⟩) :: (qZ40 t1 x7 x9)) _
  refine OpsW.sg 1 [5, 4] qZ46 ?_
  refine OpsW.recast (env' := qZ46) (h' := qZ3z) (StC.mk (phi [(4, some 4)]) (.o rfl (.i4 .nil) .nil) rfl (.cons .im (.cons (.r rfl) .nil))) ?_
  refine OpsW.nil ?_
  obtain rfl := Option.some.inj H
  refine AW.recast (env' := [qZ4j, (5, .int .i64 250)]) (h' := qZ42) (StC.mk (phi [(4, some 4)]) (.o rfl (.i2 (.cons .nil (.cons .nil .nil))) .nil) rfl (.cons (.r rfl) (.cons .im .nil))) ?_
  refine AW.ret ?_
  try simp only [Ex.then, Ex.inBlock, Ex.noGoto, Ex.jump, reduceIte, Nat.reduceEqDiff, reduceCtorEq]
  refine Done.gen rfl (.cell rfl (by kernel_rfl) (.tmp .nil)) ?_
  show _ = _
  kernel_rfl
 replace H := condF c10 H
 refine AW.skip (AW.regionSeq (OpsW.recast (env' := ((73, .bool (x9.2 != 0)) :: qZ49)) (h' := (qZ44 t1 x7 x9)) (StC.mk (phi [(4, some 4), (6, some 6)]) (.o rfl (.i4 .nil) (.o rfl (.i2 (.cons (.frz rfl rfl rfl (frz_all (eL eB) 1 (fun _ => rfl) x7.1) (fm_length (eL eB) 1 (fun _ => rfl) x7.1) (phi_ne rfl)) (.cons (.frz rfl rfl rfl (frz_all (eL eB) 1 (fun _ => rfl) x9.1) (fm_length (eL eB) 1 (fun _ => rfl) x9.1) (phi_ne rfl)) .nil))) .nil)) rfl (.cons .im (.cons (.r rfl) (.cons (.r rfl) .nil)))) ?_))
 refine OpsW.sg 1 [75, 4] ((75, .agg (qZ4h t1 x7 x9)) :: qZ4b) ?_
 refine OpsW.store rfl rfl rfl rfl trivial trivial rfl rfl rfl (by kernel_rfl) (okCb_sound (by kernel_rfl)) (Nat.le_of_ble_eq_true (by kernel_rfl)) ?_
 change OpsW _ _ _ _ _ ((4, ⟨0, true, 47, 4, (qZ4h t1 x7 x9)⟩) :: (qZ44 t1 x7 x9)) _
 refine OpsW.sg 1 [5, 4] ((5, .int .i64 0) :: qZ4b) ?_
 refine OpsW.recast (env' := ((5, .int .i64 0) :: qZ4b)) (h' := (qZ4a t1 x7 x9)) (StC.mk (phi [(4, some 4)]) (.o rfl (.i4 .nil) .nil) rfl (.cons .im (.cons (.r rfl) .nil))) ?_
 refine OpsW.nil ?_
 obtain rfl := Option.some.inj H
 refine AW.recast (env' := [qZ4j, (5, .int .i64 0)]) (h' := (qZ4a t1 x7 x9)) (StC.mk (phi [(4, some 4)]) (.o rfl (.i4 .nil) .nil) rfl (.cons (.r rfl) (.cons .im .nil))) ?_
 refine AW.ret ?_
 try simp only [Ex.then, Ex.inBlock, Ex.noGoto, Ex.jump, reduceIte, Nat.reduceEqDiff, reduceCtorEq]
 refine Done.gen rfl (.cell rfl (by kernel_rfl) (.tmp .nil)) ?_
 show _ = _
 kernel_rfl
def f_R25_Empty_b1 (t0 : Int) (t1 : Int) (loop4 : (S_Plate × S_Plate × Int) → Option S_Plate) (v1 : S_Plate) (v2 : S_Plate) (v3 : Int) : Option S_Plate :=
 cond (decide (v3 < t1)) (
  G (0 ≤ t0 ∧ t0 ≤ t0 ∧ ((1 : Nat) : Int) * t0 ≤ 281474976710656 ∧ t0 ≤ 9223372036854775807) <|
  G (room 24 (v2.Up.length + 1)) <|
  G (room 24 (v2.Down.length + 1)) <|
  G (inR (v3 + 1)) <|
  loop4 (v1, (⟨v2.W, v2.H, v2.Up ++ [List.replicate t0.toNat false], v2.Down ++ [List.replicate t0.toNat false]⟩ : S_Plate), v3 + 1)) (
  some v2)
def f_R25_Empty (t0 : Int) (t1 : Int) : Option S_Plate :=
 iter (fun loop (s : S_Plate × S_Plate × Int) => f_R25_Empty_b1 t0 t1 loop s.1 s.2.1 s.2.2) 1000000 ((⟨(0 : Int), (0 : Int), [], []⟩ : S_Plate), (⟨t0, t1, [], []⟩ : S_Plate), (0 : Int))
section
variable (t0 : Int) (t1 : Int) (v1 : S_Plate) (v2 : S_Plate) (v3 : Int)
abbrev qZ55 := [fmA 15040 4 1 eB v1.Up, fmA 15041 4 1 eB v1.Down, fmA 15050 4 1 eB (v2.Up ++ [List.replicate t0.toNat false]), fmA 15051 4 1 eB v2.Down]
abbrev qZ56 := [fmA 15040 4 1 eB v1.Up, fmA 15041 4 1 eB v1.Down, fmA 15050 4 1 eB (v2.Up ++ [List.replicate t0.toNat false]), fmA 15051 4 1 eB (v2.Down ++ [List.replicate t0.toNat false])]
abbrev qZ57 := (⟨v2.W, v2.H, v2.Up ++ [List.replicate t0.toNat false], v2.Down ++ [List.replicate t0.toNat false]⟩ : S_Plate)
abbrev qZ58 := [fmA 15040 4 1 eB v1.Up, fmA 15041 4 1 eB v1.Down, fmA 15050 4 1 eB v2.Up, fmA 15051 4 1 eB v2.Down]
abbrev qZ59 : List AV := [.int .i64 v1.W, .int .i64 v1.H, .rsl 5040 0 0 v1.Up.length, .rsl 5041 0 0 v1.Down.length]
abbrev qZ5a := v2.Up ++ [List.replicate t0.toNat false]
abbrev qZ5b := (⟨(0 : Int), (0 : Int), [], []⟩ : S_Plate)
abbrev qZ5c := List.replicate t0.toNat false
abbrev qZ5d := v2.Down ++ [List.replicate t0.toNat false]
abbrev qZ5e : List AV := [.int .i64 0, .int .i64 0, .im (.val (.slice none 0 0)), .im (.val (.slice none 0 0))]
abbrev qZ5f : List AV := [.int .i64 v2.W, .int .i64 v2.H, .rsl 5050 0 0 v2.Up.length, .rsl 5051 0 0 v2.Down.length]
abbrev qZ5g : List AV := [.int .i64 t0, .int .i64 t1, .im (.val (.slice none 0 0)), .im (.val (.slice none 0 0))]
abbrev qZ5h := (⟨t0, t1, [], []⟩ : S_Plate)
abbrev qZ5i := [fmA 15040 4 1 eB v2.Up, fmA 15041 4 1 eB v2.Down]
abbrev qZ5j : List AV := [.int .i64 v2.W, .int .i64 v2.H, .rsl 5050 0 0 ((qZ5a t0 v2).length), .rsl 5051 0 0 ((qZ5d t0 v2).length)]
abbrev qZ5k : List AV := [.int .i64 v2.W, .int .i64 v2.H, .rsl 5050 0 0 ((qZ5a t0 v2).length), .rsl 5051 0 0 v2.Down.length]
abbrev qZ4l : Hp := [(4, ⟨0, true, 47, 4, (qZ59 v1)⟩), (5040, nsA 0 61 15040 v1.Up), (5041, nsA 0 61 15041 v1.Down), (5, ⟨0, true, 47, 4, (qZ5f v2)⟩), (5050, nsA 0 61 15050 v2.Up), (5051, nsA 0 61 15051 v2.Down)]
abbrev qZ4m : Hp := [(4, ⟨0, true, 47, 4, (qZ59 v1)⟩), (5, ⟨0, true, 47, 4, (qZ5k t0 v2)⟩), (5040, nsA 0 61 15040 v1.Up), (5041, nsA 0 61 15041 v1.Down), (5050, nsA 0 61 15050 (qZ5a t0 v2)), (5051, nsA 0 61 15051 v2.Down)]
abbrev qZ4n : Hp := [(5051, nsA 0 61 15051 (qZ5d t0 v2)), (4, ⟨0, true, 47, 4, (qZ59 v1)⟩), (5, ⟨0, true, 47, 4, [.int .i64 v2.W, .int .i64 v2.H, .rsl 5050 0 0 ((qZ5a t0 v2).length), .any]⟩), (5040, nsA 0 61 15040 v1.Up), (5041, nsA 0 61 15041 v1.Down), (5050, nsA 0 61 15050 (qZ5a t0 v2))]
abbrev qZ4o : Env := [(0, .int .i64 t0), (1, .int .i64 t1), (4, .ref 4 0 0), (5, .ref 5 0 0), (6, .int .i64 v3)]
abbrev qZ4p : Hp := [(5050, nsA 0 61 15050 (qZ5a t0 v2)), (4, ⟨0, true, 47, 4, (qZ59 v1)⟩), (5040, nsA 0 61 15040 v1.Up), (5041, nsA 0 61 15041 v1.Down), (5, ⟨0, true, 47, 4, [.int .i64 v2.W, .int .i64 v2.H, .any, .rsl 5051 0 0 v2.Down.length]⟩), (5051, nsA 0 61 15051 v2.Down)]
abbrev qZ4q : Hp := [(4, ⟨0, true, 47, 4, (qZ59 v1)⟩), (5, ⟨0, true, 47, 4, (qZ5j t0 v2)⟩), (5040, nsA 0 61 15040 v1.Up), (5041, nsA 0 61 15041 v1.Down), (5050, nsA 0 61 15050 (qZ5a t0 v2)), (5051, nsA 0 61 15051 (qZ5d t0 v2))]
abbrev qZ4r : Hp := [(4, ⟨0, true, 47, 4, [.int .i64 v2.W, .int .i64 v2.H, .rsl 5040 0 0 v2.Up.length, .rsl 5041 0 0 v2.Down.length]⟩), (5040, nsA 0 61 15040 v2.Up), (5041, nsA 0 61 15041 v2.Down)]
abbrev qZ4s : Hp := (5051, ⟨1, true, 61, 1, (nsA 0 61 15051 v2.Down).cs.take (v2.Down.length * 1) ++ [.rsl 25 0 0 ((qZ5c t0).length)]⟩) :: (26, ⟨0, true, 61, 1, [.rsl 25 0 0 ((qZ5c t0).length)]⟩) :: (25, rtA 0 4 1 eB (qZ5c t0)) :: (qZ4m t0 v1 v2)
abbrev qZ4t : Hp := (5050, ⟨1, true, 61, 1, (nsA 0 61 15050 v2.Up).cs.take (v2.Up.length * 1) ++ [.rsl 18 0 0 ((qZ5c t0).length)]⟩) :: (19, ⟨0, true, 61, 1, [.rsl 18 0 0 ((qZ5c t0).length)]⟩) :: (18, rtA 0 4 1 eB (qZ5c t0)) :: (qZ4l v1 v2)
abbrev qZ4u : Hp := [(4, ⟨0, true, 47, 4, qZ5e⟩), (5, ⟨0, true, 47, 4, (qZ5g t0 t1)⟩)]
abbrev qZ4v : Hp := (5, ⟨0, true, 47, 4, (qZ5j t0 v2)⟩) :: (qZ4n t0 v1 v2)
abbrev qZ4w : Hp := [(1000, ⟨0, true, 47, 4, [.int .i64 v2.W, .int .i64 v2.H, .rsl 1500 0 0 v2.Up.length, .rsl 1501 0 0 v2.Down.length]⟩), (1500, nsA 0 61 11500 v2.Up), (1501, nsA 0 61 11501 v2.Down)]
abbrev qZ4x : List (Nat × FM) := [(15040, .same 15040), (15041, .same 15041), (15050, .same 15050), (15051, .same 15051)]
abbrev qZ4y : Env := [(4, .ref 4 0 0), (0, .int .i64 t0), (1, .int .i64 t1)]
abbrev qZ4z : Hp := (5, ⟨0, true, 47, 4, (qZ5k t0 v2)⟩) :: (qZ4p t0 v1 v2)
abbrev qZ50 : Hp := (4, ⟨0, true, 47, 4, (qZ5f v2)⟩) :: (qZ4l v1 v2)
abbrev qZ51 : Hp := [(4, ⟨0, true, 47, 4, qZ5e⟩)]
abbrev qZ52 : Env := (26, .rsl 26 0 0 1) :: (23, .rsl 5051 0 0 v2.Down.length) :: (qZ4o t0 t1 v3)
abbrev qZ53 : Env := (19, .rsl 19 0 0 1) :: (16, .rsl 5050 0 0 v2.Up.length) :: (qZ4o t0 t1 v3)
abbrev qZ54 : Env := (27, .rsl 5051 0 0 ((qZ5d t0 v2).length)) :: (qZ4o t0 t1 v3)
end
theorem f_R25_Empty_own {t0 : Int} {t1 : Int} {r : S_Plate} (H : f_R25_Empty t0 t1 = some r) : Abs.Spec Tryd.prog 28 [.int .i64 t0, .int .i64 t1] [] (fun x h => x = .agg [.int .i64 r.W, .int .i64 r.H, .rsl 1500 0 0 r.Up.length, .rsl 1501 0 0 r.Down.length] ∧ h = ([(1000, ⟨0, true, 47, 4, [.int .i64 r.W, .int .i64 r.H, .rsl 1500 0 0 r.Up.length, .rsl 1501 0 0 r.Down.length]⟩), (1500, nsA 0 61 11500 r.Up), (1501, nsA 0 61 11501 r.Down)] ++ fmsH [fmA 11500 4 1 eB r.Up, fmA 11501 4 1 eB r.Down])) := by
 refine Spec.of_AW Tryd.func28 rfl (by simp [Tryd.ntmps28]) ?_
 rw [Tryd.ntmps28]
 unfold f_R25_Empty at H
 change AW _ _ _ [(0, .int .i64 t0), (1, .int .i64 t1)] [] _
 refine AW.regionSeq (OpsW.alloc' rfl rfl rfl 4 rfl (by kernel_rfl : zc Tryd.prog 47 = some [.int .i64 0, .int .i64 0, .slice none 0 0, .slice none 0 0]) (by kernel_rfl) ?_)
 refine OpsW.recast (env' := (qZ4y t0 t1)) (h' := qZ51) (StC.mk (phi [(4, some 4)]) (.o rfl (.i4 .nil) .nil) rfl (.cons (.r rfl) (.i2 .nil))) ?_
 refine OpsW.nil (AW.regionSeq (OpsW.sg 3 [9, 4, 0, 1] ((9, .agg (qZ5g t0 t1)) :: (qZ4y t0 t1)) ?_))
 refine OpsW.alloc' rfl rfl rfl 5 rfl (by kernel_rfl : zc Tryd.prog 47 = some [.int .i64 0, .int .i64 0, .slice none 0 0, .slice none 0 0]) (by kernel_rfl) ?_
 refine OpsW.store rfl rfl rfl rfl trivial trivial rfl rfl rfl (by kernel_rfl) (okCb_sound (by kernel_rfl)) (Nat.le_of_ble_eq_true (by kernel_rfl)) ?_
 change OpsW _ _ _ _ _ ((5, ⟨0, true, 47, 4, (qZ5g t0 t1)⟩) :: (5, ⟨0, true, 47, 4, qZ5e⟩) :: qZ51) _
 refine OpsW.sg 0 [5, 4, 0, 1] ((5, .ref 5 0 0) :: (qZ4y t0 t1)) ?_
 refine OpsW.recast (env' := ((5, .ref 5 0 0) :: (qZ4y t0 t1))) (h' := (qZ4u t0 t1)) (StC.mk (phi [(4, some 4), (5, some 5)]) (.o rfl (.i4 .nil) (.o rfl (.i4 .nil) .nil)) rfl (.cons (.r rfl) (.cons (.r rfl) (.i2 .nil)))) ?_
 refine OpsW.nil (AW.seq (AW.regionSeq (OpsW.sg 1 [6, 5, 4, 0, 1] ((6, .int .i64 0) :: (5, .ref 5 0 0) :: (qZ4y t0 t1)) ?_)))
 refine OpsW.nil (AW.block ?_)
 refine AW.iterK (fun loop (s : S_Plate × S_Plate × Int) => f_R25_Empty_b1 t0 t1 loop s.1 s.2.1 s.2.2) r (fun (s : S_Plate × S_Plate × Int) => [(0, .int .i64 t0), (1, .int .i64 t1), (4, .ref 4 0 0), (5, .ref 5 0 0), (6, .int .i64 s.2.2)]) (fun (s : S_Plate × S_Plate × Int) => ([(4, ⟨0, true, 47, 4, [.int .i64 s.1.W, .int .i64 s.1.H, .rsl 5040 0 0 s.1.Up.length, .rsl 5041 0 0 s.1.Down.length]⟩), (5040, nsA 0 61 15040 s.1.Up), (5041, nsA 0 61 15041 s.1.Down), (5, ⟨0, true, 47, 4, [.int .i64 s.2.1.W, .int .i64 s.2.1.H, .rsl 5050 0 0 s.2.1.Up.length, .rsl 5051 0 0 s.2.1.Down.length]⟩), (5050, nsA 0 61 15050 s.2.1.Up), (5051, nsA 0 61 15051 s.2.1.Down)] ++ fmsH [fmA 15040 4 1 eB s.1.Up, fmA 15041 4 1 eB s.1.Down, fmA 15050 4 1 eB s.2.1.Up, fmA 15051 4 1 eB s.2.1.Down])) ?_ 1000000 (qZ5b, (qZ5h t0 t1), (0 : Int)) H (StC.mkF (hc := (qZ4u t0 t1)) (fs := []) (hc' := [(4, ⟨0, true, 47, 4, [.int .i64 qZ5b.W, .int .i64 qZ5b.H, .rsl 5040 0 0 qZ5b.Up.length, .rsl 5041 0 0 qZ5b.Down.length]⟩), (5040, nsA 0 61 15040 qZ5b.Up), (5041, nsA 0 61 15041 qZ5b.Down), (5, ⟨0, true, 47, 4, [.int .i64 (qZ5h t0 t1).W, .int .i64 (qZ5h t0 t1).H, .rsl 5050 0 0 (qZ5h t0 t1).Up.length, .rsl 5051 0 0 (qZ5h t0 t1).Down.length]⟩), (5050, nsA 0 61 15050 (qZ5h t0 t1).Up), (5051, nsA 0 61 15051 (qZ5h t0 t1).Down)]) (fs' := [fmA 15040 4 1 eB qZ5b.Up, fmA 15041 4 1 eB qZ5b.Down, fmA 15050 4 1 eB (qZ5h t0 t1).Up, fmA 15051 4 1 eB (qZ5h t0 t1).Down]) rfl [(4, some 4), (5040, none), (5041, none), (5, some 5), (5050, none), (5051, none)] [(15040, .nil), (15041, .nil), (15050, .nil), (15051, .nil)] rfl (.o rfl (.i2 (.cons (.nilr rfl rfl rfl) (.cons (.nilr rfl rfl rfl) .nil))) (.new rfl (.new rfl (.o rfl (.i2 (.cons (.nilr rfl rfl rfl) (.cons (.nilr rfl rfl rfl) .nil))) (.new rfl (.new rfl .nil)))))) rfl (.cons rfl fmNil0 (.cons rfl fmNil0 (.cons rfl fmNil0 (.cons rfl fmNil0 .nil)))) (.i2 (.cons (.r rfl) (.cons (.r rfl) (.cons .im .nil)))))
 intro loop4 s H
 obtain ⟨v1, v2, v3⟩ := s
 change f_R25_Empty_b1 t0 t1 loop4 v1 v2 v3 = some r at H
 unfold f_R25_Empty_b1 at H
 change AW _ _ _ (qZ4o t0 t1 v3) ((qZ4l v1 v2) ++ fmsH (qZ58 v1 v2)) _
 refine AW.seq (AW.regionSeq (OpsW.sg 3 [12, 0, 1, 4, 5, 6] ((12, .bool (decide (v3 < t1))) :: (qZ4o t0 t1 v3)) ?_))
 refine OpsW.nil (AW.cond (b := decide (v3 < t1)) rfl (fun c5 => ?_) (fun c5 => ?_))
 ·replace H := condT c5 H
  refine AW.skip (AW.seq (AW.block (AW.drawXSeq 5 [(3, 18, []), (4, 19, [18])] Tryd.checked.mixed (by kernel_rfl) (by kernel_rfl) ?_)))
  refine DOpsX.q 3 (by kernel_rfl) ?_
  refine QOps.seg (N := 30) 3 [] ((17, .int .i64 t0) :: (16, .rsl 5050 0 0 v2.Up.length) :: (15, .ref 5 0 2) :: (12, .bool (decide (v3 < t1))) :: (qZ4o t0 t1 v3)) (by kernel_rfl) trivial ?_
  refine QOps.nil ?_
  obtain ⟨g6, H⟩ := G_some H
  refine DOpsX.e 18 rfl rfl (free_f rfl) (by exact fun g hg hb => RStep.makeT (enc := eB) false rfl 18 ((hg 18 (List.Mem.head _)).trans (free_f rfl)) E61 rfl rfl rfl g6) ?_
  refine DOpsX.e 19 rfl rfl (free_f rfl) (by exact fun g hg hb => RStep.buildRow rfl 19 ((hg 19 (List.Mem.head _)).trans (free_c rfl (free_f rfl))) E45 rfl ((hg 18 (List.Mem.tail _ (List.Mem.head _))).trans rfl) rfl rfl) ?_
  refine DOpsX.nil ?_
  refine OpsW.sg 0 [19, 16, 0, 1, 4, 5, 6] (qZ53 t0 t1 v2 v3) ?_
  obtain ⟨g7, H⟩ := G_some H
  change OpsW _ _ _ _ (qZ53 t0 t1 v2 v3) (((19, ⟨0, true, 61, 1, [.rsl 18 0 0 ((qZ5c t0).length)]⟩) :: (18, rtA 0 4 1 eB (qZ5c t0)) :: (qZ4l v1 v2)) ++ fmsH (qZ58 v1 v2)) _
  refine OpsW.appendRow (xs := v2.Up) (qZ5c t0) rfl rfl rfl E45 rfl rfl rfl rfl (by kernel_rfl) g7 ?_
  change OpsW _ _ _ _ ((20, .rsl 5050 1 0 ((qZ5a t0 v2).length)) :: (qZ53 t0 t1 v2 v3)) ((qZ4t t0 v1 v2) ++ fmsH (qZ58 v1 v2)) _
  refine OpsW.recast (env' := ((20, .rsl 5050 0 0 ((qZ5a t0 v2).length)) :: (qZ4o t0 t1 v3))) (h' := ((qZ4p t0 v1 v2) ++ fmsH (qZ55 t0 v1 v2))) (StC.mkF (hc := (qZ4t t0 v1 v2)) (fs := (qZ58 v1 v2)) (hc' := (qZ4p t0 v1 v2)) (fs' := (qZ55 t0 v1 v2)) rfl [(5050, some 5050), (4, some 4), (5040, some 5040), (5041, some 5041), (5, some 5), (5051, some 5051)] [(15040, .same 15040), (15041, .same 15041), (15050, .put 15050 v2.Up.length 18), (15051, .same 15051)] rfl (.o rfl (nsSnocA rfl rfl (by decide) rfl rfl rfl rfl rfl rfl) (.o rfl (.i2 (.cons (.s rfl) (.cons (.s rfl) .nil))) (.o rfl (nsSameA rfl rfl (by decide) rfl rfl rfl) (.o rfl (nsSameA rfl rfl (by decide) rfl rfl rfl) (.o rfl (.i2 (.cons .any (.cons (.s rfl) .nil))) (.o rfl (nsSameA rfl rfl (by decide) rfl rfl rfl) .nil)))))) rfl (.cons rfl (fmSame rfl) (.cons rfl (fmSame rfl) (.cons rfl (fmSnoc rfl rfl) (.cons rfl (fmSame rfl) .nil)))) (.cons (.s rfl) (.i2 (.cons (.r rfl) (.cons (.r rfl) (.cons .im .nil)))))) ?_
  refine OpsW.sg 1 [21, 20, 0, 1, 4, 5, 6] ((21, .ref 5 0 2) :: (20, .rsl 5050 0 0 ((qZ5a t0 v2).length)) :: (qZ4o t0 t1 v3)) ?_
  refine OpsW.store rfl rfl rfl rfl trivial trivial rfl rfl rfl (by kernel_rfl) (okCb_sound (by kernel_rfl)) (Nat.le_of_ble_eq_true (by kernel_rfl)) ?_
  change OpsW _ _ _ _ _ ((qZ4z t0 v1 v2) ++ fmsH (qZ55 t0 v1 v2)) _
  refine OpsW.sg 0 [0, 1, 4, 5, 6] (qZ4o t0 t1 v3) ?_
  refine OpsW.recast (env' := (qZ4o t0 t1 v3)) (h' := ((qZ4m t0 v1 v2) ++ fmsH (qZ55 t0 v1 v2))) (StC.mkF (hc := (qZ4z t0 v1 v2)) (fs := (qZ55 t0 v1 v2)) (hc' := (qZ4m t0 v1 v2)) (fs' := (qZ55 t0 v1 v2)) rfl [(4, some 4), (5, some 5), (5040, some 5040), (5041, some 5041), (5050, some 5050), (5051, some 5051)] qZ4x rfl (.o rfl (.i2 (.cons (.s rfl) (.cons (.s rfl) .nil))) (.o rfl (.i2 (.cons (.s rfl) (.cons (.s rfl) .nil))) (.o rfl (nsSameA rfl rfl (by decide) rfl rfl rfl) (.o rfl (nsSameA rfl rfl (by decide) rfl rfl rfl) (.o rfl (nsSameA rfl rfl (by decide) rfl rfl rfl) (.o rfl (nsSameA rfl rfl (by decide) rfl rfl rfl) .nil)))))) rfl (.cons rfl (fmSame rfl) (.cons rfl (fmSame rfl) (.cons rfl (fmSame rfl) (.cons rfl (fmSame rfl) .nil)))) (.i2 (.cons (.r rfl) (.cons (.r rfl) (.cons .im .nil))))) ?_
  refine OpsW.nil (AW.drawX 5 [(3, 25, []), (4, 26, [25])] Tryd.checked.mixed (by kernel_rfl) (by kernel_rfl) ?_)
  refine DOpsX.q 3 (by kernel_rfl) ?_
  refine QOps.seg (N := 30) 3 [] ((24, .int .i64 t0) :: (23, .rsl 5051 0 0 v2.Down.length) :: (22, .ref 5 0 3) :: (qZ4o t0 t1 v3)) (by kernel_rfl) trivial ?_
  refine QOps.nil (DOpsX.e 25 rfl rfl (free_f rfl) (by exact fun g hg hb => RStep.makeT (enc := eB) false rfl 25 ((hg 25 (List.Mem.head _)).trans (free_f rfl)) E61 rfl rfl rfl g6) ?_)
  refine DOpsX.e 26 rfl rfl (free_f rfl) (by exact fun g hg hb => RStep.buildRow rfl 26 ((hg 26 (List.Mem.head _)).trans (free_c rfl (free_f rfl))) E45 rfl ((hg 25 (List.Mem.tail _ (List.Mem.head _))).trans rfl) rfl rfl) ?_
  refine DOpsX.nil ?_
  refine OpsW.sg 0 [26, 23, 0, 1, 4, 5, 6] (qZ52 t0 t1 v2 v3) ?_
  obtain ⟨g8, H⟩ := G_some H
  change OpsW _ _ _ _ (qZ52 t0 t1 v2 v3) (((26, ⟨0, true, 61, 1, [.rsl 25 0 0 ((qZ5c t0).length)]⟩) :: (25, rtA 0 4 1 eB (qZ5c t0)) :: (qZ4m t0 v1 v2)) ++ fmsH (qZ55 t0 v1 v2)) _
  refine OpsW.appendRow (xs := v2.Down) (qZ5c t0) rfl rfl rfl E45 rfl rfl rfl rfl (by kernel_rfl) g8 ?_
  change OpsW _ _ _ _ ((27, .rsl 5051 1 0 ((qZ5d t0 v2).length)) :: (qZ52 t0 t1 v2 v3)) ((qZ4s t0 v1 v2) ++ fmsH (qZ55 t0 v1 v2)) _
  refine OpsW.recast (env' := (qZ54 t0 t1 v2 v3)) (h' := ((qZ4n t0 v1 v2) ++ fmsH (qZ56 t0 v1 v2))) (StC.mkF (hc := (qZ4s t0 v1 v2)) (fs := (qZ55 t0 v1 v2)) (hc' := (qZ4n t0 v1 v2)) (fs' := (qZ56 t0 v1 v2)) rfl [(5051, some 5051), (4, some 4), (5, some 5), (5040, some 5040), (5041, some 5041), (5050, some 5050)] [(15040, .same 15040), (15041, .same 15041), (15050, .same 15050), (15051, .put 15051 v2.Down.length 25)] rfl (.o rfl (nsSnocA rfl rfl (by decide) rfl rfl rfl rfl rfl rfl) (.o rfl (.i2 (.cons (.s rfl) (.cons (.s rfl) .nil))) (.o rfl (.i2 (.cons (.s rfl) (.cons .any .nil))) (.o rfl (nsSameA rfl rfl (by decide) rfl rfl rfl) (.o rfl (nsSameA rfl rfl (by decide) rfl rfl rfl) (.o rfl (nsSameA rfl rfl (by decide) rfl rfl rfl) .nil)))))) rfl (.cons rfl (fmSame rfl) (.cons rfl (fmSame rfl) (.cons rfl (fmSame rfl) (.cons rfl (fmSnoc rfl rfl) .nil)))) (.cons (.s rfl) (.i2 (.cons (.r rfl) (.cons (.r rfl) (.cons .im .nil)))))) ?_
  refine OpsW.sg 1 [28, 27, 0, 1, 4, 5, 6] ((28, .ref 5 0 3) :: (qZ54 t0 t1 v2 v3)) ?_
  refine OpsW.store rfl rfl rfl rfl trivial trivial rfl rfl rfl (by kernel_rfl) (okCb_sound (by kernel_rfl)) (Nat.le_of_ble_eq_true (by kernel_rfl)) ?_
  change OpsW _ _ _ _ _ ((qZ4v t0 v1 v2) ++ fmsH (qZ56 t0 v1 v2)) _
  refine OpsW.sg 0 [0, 1, 4, 5, 6] (qZ4o t0 t1 v3) ?_
  refine OpsW.recast (env' := (qZ4o t0 t1 v3)) (h' := ((qZ4q t0 v1 v2) ++ fmsH (qZ56 t0 v1 v2))) (StC.mkF (hc := (qZ4v t0 v1 v2)) (fs := (qZ56 t0 v1 v2)) (hc' := (qZ4q t0 v1 v2)) (fs' := (qZ56 t0 v1 v2)) rfl [(4, some 4), (5, some 5), (5040, some 5040), (5041, some 5041), (5050, some 5050), (5051, some 5051)] qZ4x rfl (.o rfl (.i2 (.cons (.s rfl) (.cons (.s rfl) .nil))) (.o rfl (.i2 (.cons (.s rfl) (.cons (.s rfl) .nil))) (.o rfl (nsSameA rfl rfl (by decide) rfl rfl rfl) (.o rfl (nsSameA rfl rfl (by decide) rfl rfl rfl) (.o rfl (nsSameA rfl rfl (by decide) rfl rfl rfl) (.o rfl (nsSameA rfl rfl (by decide) rfl rfl rfl) .nil)))))) rfl (.cons rfl (fmSame rfl) (.cons rfl (fmSame rfl) (.cons rfl (fmSame rfl) (.cons rfl (fmSame rfl) .nil)))) (.i2 (.cons (.r rfl) (.cons (.r rfl) (.cons .im .nil))))) ?_
  refine OpsW.nil (AW.region ?_)
  obtain ⟨g9, H⟩ := G_some H
  refine OpsW.sq 3 [6, 0, 1, 4, 5] [inR (v3 + 1)] [(6, .int .i64 (v3 + 1)), (0, .int .i64 t0), (1, .int .i64 t1), (4, .ref 4 0 0), (5, .ref 5 0 0)] ⟨g9, trivial⟩ ?_
  refine OpsW.nil ?_
  show ∃ y, _ ∧ StC _ _ _ _
  exact ⟨(v1, (qZ57 t0 v2), v3 + 1), H, (StC.mkF (hc := (qZ4q t0 v1 v2)) (fs := (qZ56 t0 v1 v2)) (hc' := [(4, ⟨0, true, 47, 4, (qZ59 v1)⟩), (5040, nsA 0 61 15040 v1.Up), (5041, nsA 0 61 15041 v1.Down), (5, ⟨0, true, 47, 4, [.int .i64 (qZ57 t0 v2).W, .int .i64 (qZ57 t0 v2).H, .rsl 5050 0 0 (qZ57 t0 v2).Up.length, .rsl 5051 0 0 (qZ57 t0 v2).Down.length]⟩), (5050, nsA 0 61 15050 (qZ57 t0 v2).Up), (5051, nsA 0 61 15051 (qZ57 t0 v2).Down)]) (fs' := [fmA 15040 4 1 eB v1.Up, fmA 15041 4 1 eB v1.Down, fmA 15050 4 1 eB (qZ57 t0 v2).Up, fmA 15051 4 1 eB (qZ57 t0 v2).Down]) rfl [(4, some 4), (5040, some 5040), (5041, some 5041), (5, some 5), (5050, some 5050), (5051, some 5051)] qZ4x rfl (.o rfl (.i2 (.cons (.s rfl) (.cons (.s rfl) .nil))) (.o rfl (nsSameA rfl rfl (by decide) rfl rfl rfl) (.o rfl (nsSameA rfl rfl (by decide) rfl rfl rfl) (.o rfl (.i2 (.cons (.s rfl) (.cons (.s rfl) .nil))) (.o rfl (nsSameA rfl rfl (by decide) rfl rfl rfl) (.o rfl (nsSameA rfl rfl (by decide) rfl rfl rfl) .nil)))))) rfl (.cons rfl (fmSame rfl) (.cons rfl (fmSame rfl) (.cons rfl (fmSame rfl) (.cons rfl (fmSame rfl) .nil)))) (.i2 (.cons (.r rfl) (.cons (.r rfl) (.cons .im .nil)))))⟩
 replace H := condF c5 H
 refine AW.exit ?_
 refine AW.regionSeq (OpsW.sg 1 [29, 4] [(29, .agg (qZ5f v2)), (4, .ref 4 0 0)] ?_)
 refine OpsW.store rfl rfl rfl rfl trivial trivial rfl rfl rfl (by kernel_rfl) (okCb_sound (by kernel_rfl)) (Nat.le_of_ble_eq_true (by kernel_rfl)) ?_
 change OpsW _ _ _ _ _ ((qZ50 v1 v2) ++ fmsH (qZ58 v1 v2)) _
 refine OpsW.sg 0 [4] [(4, .ref 4 0 0)] ?_
 refine OpsW.recast (env' := [(4, .ref 4 0 0)]) (h' := ((qZ4r v2) ++ fmsH (qZ5i v2))) (StC.mkF (hc := (qZ50 v1 v2)) (fs := (qZ58 v1 v2)) (hc' := (qZ4r v2)) (fs' := (qZ5i v2)) rfl [(4, some 4), (5040, some 5050), (5041, some 5051)] [(15040, .same 15050), (15041, .same 15051)] rfl (.o rfl (.i2 (.cons (.s rfl) (.cons (.s rfl) .nil))) (.o rfl (nsSameA rfl rfl (by decide) rfl rfl rfl) (.o rfl (nsSameA rfl rfl (by decide) rfl rfl rfl) .nil))) rfl (.cons rfl (fmSame rfl) (.cons rfl (fmSame rfl) .nil)) (.cons (.r rfl) .nil)) ?_
 refine OpsW.nil ?_
 obtain rfl := Option.some.inj H
 refine AW.recast (env' := [(4, .ref 1000 0 0)]) (h' := ((qZ4w v2) ++ fmsH [fmA 11500 4 1 eB v2.Up, fmA 11501 4 1 eB v2.Down])) (StC.mkF (hc := (qZ4r v2)) (fs := (qZ5i v2)) (hc' := (qZ4w v2)) (fs' := [fmA 11500 4 1 eB v2.Up, fmA 11501 4 1 eB v2.Down]) rfl [(1000, some 4), (1500, some 5040), (1501, some 5041)] [(11500, .same 15040), (11501, .same 15041)] rfl (.o rfl (.i2 (.cons (.s rfl) (.cons (.s rfl) .nil))) (.o rfl (nsSameA rfl rfl (by decide) rfl rfl rfl) (.o rfl (nsSameA rfl rfl (by decide) rfl rfl rfl) .nil))) rfl (.cons rfl (fmSame rfl) (.cons rfl (fmSame rfl) .nil)) (.cons (.r rfl) .nil)) ?_
 refine AW.ret ?_
 refine Done.gen rfl (.cell rfl (by kernel_rfl) .nil) ?_
 exact ⟨by kernel_rfl, rfl⟩
theorem f_R25_Empty_ok  {t0 : Int} {t1 : Int} {r : S_Plate} (H : f_R25_Empty t0 t1 = some r) : QSpec Tryd.prog 28 [.int .i64 t0, .int .i64 t1] (.agg [.int .i64 r.W, .int .i64 r.H, slA (eL eB) r.Up, slA (eL eB) r.Down]) := by
 exact QSpec.of_ownF (f_R25_Empty_own H) (.agg (.cons .im (.cons .im (.cons (Cst.frzN rfl rfl (fun _ => rfl) rfl rfl rfl) (.cons (Cst.frzN rfl rfl (fun _ => rfl) rfl rfl rfl) .nil)))))
def f_sheet_filled_b1 (t0 : List (List Bool)) (t1 : Int) (loop3 : (Int) → Option Bool) (v2 : Int) : Option Bool :=
 cond (decide (v2 < (t0.length : Int))) (
  G (0 ≤ v2 ∧ v2 < (t0.length : Int)) <|
  cond (((t0.getD v2.toNat []).length : Int) != t1) (
   some false) (
   G (inR (v2 + 1)) <|
   loop3 (v2 + 1))) (
  some true)
def f_sheet_filled (t0 : List (List Bool)) (t1 : Int) (t2 : Int) : Option Bool :=
 cond ((t0.length : Int) != t2) (
  some false) (
  iter (fun loop (s : Int) => f_sheet_filled_b1 t0 t1 loop s) 1000000 (0 : Int))
section
variable (t0 : List (List Bool)) (t1 : Int) (v2 : Int)
abbrev qZ5m := (t0.length : Int)
abbrev qZ5l : Env := [(1, .int .i64 t1), (13, slA (eL eB) t0), (14, .int .i64 (qZ5m t0)), (15, .int .i64 v2)]
end
theorem f_sheet_filled_ok  {t0 : List (List Bool)} {t1 : Int} {t2 : Int} {r : Bool} (H : f_sheet_filled t0 t1 t2 = some r) : QSpec Tryd.prog 38 [slA (eL eB) t0, .int .i64 t1, .int .i64 t2] (.bool r) := by
 refine Spec.of_AW Tryd.func38 rfl (by simp [Tryd.ntmps38]) ?_
 rw [Tryd.ntmps38]
 unfold f_sheet_filled at H
 change AW _ _ _ [(0, slA (eL eB) t0), (1, .int .i64 t1), (2, .int .i64 t2)] [] _
 refine AW.regionSeq (OpsW.sg 1 [0, 1, 2] [(0, slA (eL eB) t0), (1, .int .i64 t1), (2, .int .i64 t2)] ?_)
 refine OpsW.nil (AW.seq (AW.regionSeq (OpsW.sg 4 [12, 0, 1] [(12, .bool ((qZ5m t0) != t2)), (0, slA (eL eB) t0), (1, .int .i64 t1)] ?_)))
 refine OpsW.nil (AW.cond (b := (qZ5m t0) != t2) rfl (fun c1 => ?_) (fun c1 => ?_))
 ·replace H := condT c1 H
  refine AW.regionSeq (OpsW.sg 1 [6] [(6, .bool false)] ?_)
  refine OpsW.nil ?_
  obtain rfl := Option.some.inj H
  refine AW.recast (env' := [(6, .bool false)]) (h' := []) (StC.pure (.cons .im .nil)) ?_
  refine AW.ret ?_
  try simp only [Ex.then, Ex.inBlock, Ex.noGoto, Ex.jump, reduceIte, Nat.reduceEqDiff, reduceCtorEq]
  refine Done.gen rfl (.tmp .nil) ?_
  show _ = _
  kernel_rfl
 replace H := condF c1 H
 refine AW.skip (AW.seq (AW.regionSeq (OpsW.sg 3 [15, 14, 13, 1] [(15, .int .i64 0), (14, .int .i64 (qZ5m t0)), (13, slA (eL eB) t0), (1, .int .i64 t1)] ?_)))
 refine OpsW.nil (AW.block ?_)
 refine AW.iterK (fun loop (s : Int) => f_sheet_filled_b1 t0 t1 loop s) r (fun (s : Int) => [(1, .int .i64 t1), (13, slA (eL eB) t0), (14, .int .i64 (qZ5m t0)), (15, .int .i64 s)]) (fun (s : Int) => []) ?_ 1000000 (0 : Int) H (StC.pure (.i4 .nil))
 intro loop3 v2 H
 change f_sheet_filled_b1 t0 t1 loop3 v2 = some r at H
 unfold f_sheet_filled_b1 at H
 change AW _ _ _ (qZ5l t0 t1 v2) [] _
 refine AW.regionSeq (OpsW.sg 1 [16, 1, 13, 14, 15] ((16, .bool (decide (v2 < (qZ5m t0)))) :: (qZ5l t0 t1 v2)) ?_)
 refine OpsW.nil (AW.seq (AW.cond (b := decide (v2 < (qZ5m t0))) rfl (fun c4 => ?_) (fun c4 => ?_)))
 ·replace H := condT c4 H
  refine AW.skip (AW.seq (AW.block (AW.regionSeq ?_)))
  obtain ⟨g5, H⟩ := G_some H
  refine OpsW.sq 1 [17, 1, 13, 14, 15] [0 ≤ v2 ∧ v2 < (qZ5m t0)] ((17, .ipt (t0.flatMap (eL eB)) (v2.toNat * 1)) :: (qZ5l t0 t1 v2)) ⟨g5, trivial⟩ ?_
  refine OpsW.asU (slA eB (t0.getD v2.toNat [])) rfl rfl (T.load rfl trivial (by kernel_rfl) (fm_cell0 (eL eB) 1 (fun _ => rfl) t0 [] v2.toNat (ltN g5) (fun a => .sl (a.flatMap eB) a.length) (fun _ => rfl))) ?_
  refine OpsW.sg 1 [8, 1, 13, 14, 15] ((8, slA eB (t0.getD v2.toNat [])) :: (qZ5l t0 t1 v2)) ?_
  refine OpsW.nil (AW.regionSeq (OpsW.sg 4 [22, 1, 13, 14, 15] ((22, .bool (((t0.getD v2.toNat []).length : Int) != t1)) :: (qZ5l t0 t1 v2)) ?_))
  refine OpsW.nil (AW.cond (b := ((t0.getD v2.toNat []).length : Int) != t1) rfl (fun c6 => ?_) (fun c6 => ?_))
  ·replace H := condT c6 H
   refine AW.regionSeq (OpsW.sg 1 [6] [(6, .bool false)] ?_)
   refine OpsW.nil ?_
   obtain rfl := Option.some.inj H
   refine AW.recast (env' := [(6, .bool false)]) (h' := []) (StC.pure (.cons .im .nil)) ?_
   refine AW.ret ?_
   try simp only [Ex.then, Ex.inBlock, Ex.noGoto, Ex.jump, reduceIte, Nat.reduceEqDiff, reduceCtorEq]
   refine Done.gen rfl (.tmp .nil) ?_
   show _ = _
   kernel_rfl
  replace H := condF c6 H
  refine AW.skip (AW.region ?_)
  obtain ⟨g7, H⟩ := G_some H
  refine OpsW.sq 2 [15, 1, 13, 14] [inR (v2 + 1)] [(15, .int .i64 (v2 + 1)), (1, .int .i64 t1), (13, slA (eL eB) t0), (14, .int .i64 (qZ5m t0))] ⟨g7, trivial⟩ ?_
  refine OpsW.nil ?_
  show ∃ y, _ ∧ StC _ _ _ _
  exact ⟨v2 + 1, H, (StC.pure (.i4 .nil))⟩
 replace H := condF c4 H
 refine AW.exit ?_
 refine AW.regionSeq (OpsW.sg 1 [6] [(6, .bool true)] ?_)
 refine OpsW.nil ?_
 obtain rfl := Option.some.inj H
 refine AW.recast (env' := [(6, .bool true)]) (h' := []) (StC.pure (.cons .im .nil)) ?_
 refine AW.ret ?_
 try simp only [Ex.then, Ex.inBlock, Ex.noGoto, Ex.jump, reduceIte, Nat.reduceEqDiff, reduceCtorEq]
 refine Done.gen rfl (.tmp .nil) ?_
 show _ = _
 kernel_rfl
def f_sheet_Valid (t0 : S_Plate) : Option Bool :=
 G ((!((Int.tmod t0.W (2 : Int)) != 0)) = true → inR (Int.tdiv t0.W (2 : Int))) <|
 G ((!(cond ((Int.tmod t0.W (2 : Int)) != 0) true (decide ((Int.tdiv t0.W (2 : Int)) < 24)))) = true → inR (Int.tdiv t0.W (2 : Int))) <|
 cond (cond (cond ((Int.tmod t0.W (2 : Int)) != 0) true (decide ((Int.tdiv t0.W (2 : Int)) < 24))) true (decide ((60 : Int) < (Int.tdiv t0.W (2 : Int))))) (
  some false) (
  G ((!((Int.tmod t0.H (3 : Int)) != 0)) = true → inR (Int.tdiv t0.H (3 : Int))) <|
  G ((!(cond ((Int.tmod t0.H (3 : Int)) != 0) true (decide ((Int.tdiv t0.H (3 : Int)) < 4)))) = true → inR (Int.tdiv t0.H (3 : Int))) <|
  cond (cond (cond ((Int.tmod t0.H (3 : Int)) != 0) true (decide ((Int.tdiv t0.H (3 : Int)) < 4))) true (decide ((40 : Int) < (Int.tdiv t0.H (3 : Int))))) (
   some false) (
   (f_sheet_filled t0.Up t0.W t0.H).bind fun x7 =>
   (cond x7 (f_sheet_filled t0.Down t0.W t0.H) (some false)).bind fun x8 =>
   some (cond x7 x8 false)))
section
variable (t0 : S_Plate)
abbrev qZ5o := (cond ((Int.tmod t0.W (2 : Int)) != 0) true (decide ((Int.tdiv t0.W (2 : Int)) < 24)))
abbrev qZ5p := (cond ((Int.tmod t0.H (3 : Int)) != 0) true (decide ((Int.tdiv t0.H (3 : Int)) < 4)))
abbrev qZ5q := (!((Int.tmod t0.W (2 : Int)) != 0))
abbrev qZ5r := (!((Int.tmod t0.H (3 : Int)) != 0))
abbrev qZ5s : List AV := [.int .i64 t0.W, .int .i64 t0.H, slA (eL eB) t0.Up, slA (eL eB) t0.Down]
abbrev qZ5n : Hp := [(1, ⟨0, true, 47, 4, (qZ5s t0)⟩)]
end
theorem f_sheet_Valid_ok  {t0 : S_Plate} {r : Bool} (H : f_sheet_Valid t0 = some r) : QSpec Tryd.prog 16 [.agg [.int .i64 t0.W, .int .i64 t0.H, slA (eL eB) t0.Up, slA (eL eB) t0.Down]] (.bool r) := by
 refine Spec.of_AW Tryd.func16 rfl (by simp [Tryd.ntmps16]) ?_
 rw [Tryd.ntmps16]
 unfold f_sheet_Valid at H
 change AW _ _ _ [(0, .agg (qZ5s t0))] [] _
 refine AW.regionSeq (OpsW.box rfl rfl rfl 1 rfl (okCb_sound (by kernel_rfl)) ?_)
 change OpsW _ _ _ _ _ (qZ5n t0) _
 refine OpsW.sg 1 [1] [(1, .ref 1 0 0)] ?_
 refine OpsW.recast (env' := [(1, .ref 1 0 0)]) (h' := (qZ5n t0)) (StC.mk (phi [(1, some 1)]) (.o rfl (.i4 .nil) .nil) rfl (.cons (.r rfl) .nil)) ?_
 refine OpsW.nil (AW.seq (AW.regionSeq ?_))
 obtain ⟨g1, H⟩ := G_some H
 obtain ⟨g2, H⟩ := G_some H
 refine OpsW.sq 16 [18, 1] [(2 : Int) ≠ 0, (qZ5q t0) = true → (qZ5q t0) = true, (qZ5q t0) = true → (qZ5q t0) = true, (qZ5q t0) = true → (2 : Int) ≠ 0, (qZ5q t0) = true → inR (Int.tdiv t0.W (2 : Int)), (qZ5q t0) = true → (qZ5q t0) = true, ((Int.tmod t0.W (2 : Int)) != 0) = false → (qZ5q t0) = true, (!(qZ5o t0)) = true → (!(qZ5o t0)) = true, (!(qZ5o t0)) = true → (!(qZ5o t0)) = true, (!(qZ5o t0)) = true → (2 : Int) ≠ 0, (!(qZ5o t0)) = true → inR (Int.tdiv t0.W (2 : Int)), (!(qZ5o t0)) = true → (!(qZ5o t0)) = true, (qZ5o t0) = false → (!(qZ5o t0)) = true] [(18, .bool (cond (qZ5o t0) true (decide ((60 : Int) < (Int.tdiv t0.W (2 : Int)))))), (1, .ref 1 0 0)] ⟨(by decide), (fun h => h), (fun h => h), (fun _ => by decide), g1, (fun h => h), (fun h => by first | exact h | (simpa using h) | grind), (fun h => h), (fun h => h), (fun _ => by decide), g2, (fun h => h), (fun h => by first | exact h | (simpa using h) | grind), trivial⟩ ?_
 refine OpsW.nil (AW.cond (b := cond (qZ5o t0) true (decide ((60 : Int) < (Int.tdiv t0.W (2 : Int))))) rfl (fun c3 => ?_) (fun c3 => ?_))
 ·replace H := condT c3 H
  refine AW.regionSeq (OpsW.sg 1 [2] [(2, .bool false)] ?_)
  refine OpsW.nil ?_
  obtain rfl := Option.some.inj H
  refine AW.recast (env' := [(2, .bool false)]) (h' := []) (StC.pure (.cons .im .nil)) ?_
  refine AW.ret ?_
  try simp only [Ex.then, Ex.inBlock, Ex.noGoto, Ex.jump, reduceIte, Nat.reduceEqDiff, reduceCtorEq]
  refine Done.gen rfl (.tmp .nil) ?_
  show _ = _
  kernel_rfl
 replace H := condF c3 H
 refine AW.skip (AW.seq (AW.regionSeq ?_))
 obtain ⟨g4, H⟩ := G_some H
 obtain ⟨g5, H⟩ := G_some H
 refine OpsW.sq 16 [34, 1] [(3 : Int) ≠ 0, (qZ5r t0) = true → (qZ5r t0) = true, (qZ5r t0) = true → (qZ5r t0) = true, (qZ5r t0) = true → (3 : Int) ≠ 0, (qZ5r t0) = true → inR (Int.tdiv t0.H (3 : Int)), (qZ5r t0) = true → (qZ5r t0) = true, ((Int.tmod t0.H (3 : Int)) != 0) = false → (qZ5r t0) = true, (!(qZ5p t0)) = true → (!(qZ5p t0)) = true, (!(qZ5p t0)) = true → (!(qZ5p t0)) = true, (!(qZ5p t0)) = true → (3 : Int) ≠ 0, (!(qZ5p t0)) = true → inR (Int.tdiv t0.H (3 : Int)), (!(qZ5p t0)) = true → (!(qZ5p t0)) = true, (qZ5p t0) = false → (!(qZ5p t0)) = true] [(34, .bool (cond (qZ5p t0) true (decide ((40 : Int) < (Int.tdiv t0.H (3 : Int)))))), (1, .ref 1 0 0)] ⟨(by decide), (fun h => h), (fun h => h), (fun _ => by decide), g4, (fun h => h), (fun h => by first | exact h | (simpa using h) | grind), (fun h => h), (fun h => h), (fun _ => by decide), g5, (fun h => h), (fun h => by first | exact h | (simpa using h) | grind), trivial⟩ ?_
 refine OpsW.nil (AW.cond (b := cond (qZ5p t0) true (decide ((40 : Int) < (Int.tdiv t0.H (3 : Int))))) rfl (fun c6 => ?_) (fun c6 => ?_))
 ·replace H := condT c6 H
  refine AW.regionSeq (OpsW.sg 1 [2] [(2, .bool false)] ?_)
  refine OpsW.nil ?_
  obtain rfl := Option.some.inj H
  refine AW.recast (env' := [(2, .bool false)]) (h' := []) (StC.pure (.cons .im .nil)) ?_
  refine AW.ret ?_
  try simp only [Ex.then, Ex.inBlock, Ex.noGoto, Ex.jump, reduceIte, Nat.reduceEqDiff, reduceCtorEq]
  refine Done.gen rfl (.tmp .nil) ?_
  show _ = _
  kernel_rfl
 replace H := condF c6 H
 refine AW.skip (AW.regionSeq (OpsW.sg 6 [40, 38, 36, 1] [(40, .int .i64 t0.H), (38, .int .i64 t0.W), (36, slA (eL eB) t0.Up), (1, .ref 1 0 0)] ?_))
 obtain ⟨x7, hx7, H⟩ := bindS H
 refine OpsW.qcall rfl (by kernel_rfl) rfl rfl (glAll_sound trivial) (.cons (.pur rfl) (.cons (.pur rfl) (.cons (.pur rfl) .nil))) (f_sheet_filled_ok hx7) rfl ?_
 refine OpsW.sq 7 [48, 46, 44, 42] [x7 = true → x7 = true, x7 = true → x7 = true, x7 = true → x7 = true] [(48, .cnd x7 (.int .i64 t0.H)), (46, .cnd x7 (.int .i64 t0.W)), (44, .cnd x7 (slA (eL eB) t0.Down)), (42, .bool x7)] ⟨(fun h => h), (fun h => h), (fun h => h), trivial⟩ ?_
 obtain ⟨x8, hx8, H⟩ := bindS H
 refine OpsW.gcall (c := x7) (r := .bool x8) [] rfl (by kernel_rfl) rfl rfl rfl rfl (fun hc => ⟨glAll_sound ⟨hc, hc, hc, trivial⟩, (.cons (.pur rfl) (.cons (.pur rfl) (.cons (.pur rfl) .nil))), f_sheet_filled_ok (condT hc hx8), .inl ⟨rfl, rfl⟩⟩) ?_
 refine OpsW.sq 2 [2] [x7 = true → x7 = true] [(2, .bool (cond x7 x8 false))] ⟨(fun h => by first | exact h | (simpa using h) | grind), trivial⟩ ?_
 refine OpsW.nil ?_
 obtain rfl := Option.some.inj H
 refine AW.recast (env' := [(2, .bool (cond x7 x8 false))]) (h' := []) (StC.pure (.cons .im .nil)) ?_
 refine AW.ret ?_
 try simp only [Ex.then, Ex.inBlock, Ex.noGoto, Ex.jump, reduceIte, Nat.reduceEqDiff, reduceCtorEq]
 refine Done.gen rfl (.tmp .nil) ?_
 show _ = _
 kernel_rfl
def f_grid_Valid_b1 (t0 : S_Grid) (loop3 : (Int) → Option Bool) (v2 : Int) : Option Bool :=
 cond (decide (v2 < (t0.Dots.length : Int))) (
  G (0 ≤ v2 ∧ v2 < (t0.Dots.length : Int)) <|
  cond (((t0.Dots.getD v2.toNat []).length : Int) != t0.W) (
   some false) (
   G (inR (v2 + 1)) <|
   loop3 (v2 + 1))) (
  some true)
def f_grid_Valid (t0 : S_Grid) : Option Bool :=
 cond (cond (cond (cond (cond (decide (t0.W < 0)) true (decide (200 < t0.W))) true (decide (t0.H < 0))) true (decide (200 < t0.H))) true ((t0.Dots.length : Int) != t0.H)) (
  some false) (
  iter (fun loop (s : Int) => f_grid_Valid_b1 t0 loop s) 1000000 (0 : Int))
section
variable (t0 : S_Grid) (v2 : Int)
abbrev qZ5v := cond (cond (decide (t0.W < 0)) true (decide (200 < t0.W))) true (decide (t0.H < 0))
abbrev qZ5w := cond (qZ5v t0) true (decide (200 < t0.H))
abbrev qZ5x := cond (decide (t0.W < 0)) true (decide (200 < t0.W))
abbrev qZ5y := (t0.Dots.length : Int)
abbrev qZ5z := !(decide (t0.W < 0))
abbrev qZ5t : Env := [(1, .ref 1 0 0), (32, slA (eL eB) t0.Dots), (33, .int .i64 (qZ5y t0)), (34, .int .i64 v2)]
abbrev qZ5u : Hp := [(1, ⟨0, true, 96, 3, [.int .i64 t0.W, .int .i64 t0.H, slA (eL eB) t0.Dots]⟩)]
end
theorem f_grid_Valid_ok  {t0 : S_Grid} {r : Bool} (H : f_grid_Valid t0 = some r) : QSpec Tryd.prog 66 [.agg [.int .i64 t0.W, .int .i64 t0.H, slA (eL eB) t0.Dots]] (.bool r) := by
 refine Spec.of_AW Tryd.func66 rfl (by simp [Tryd.ntmps66]) ?_
 rw [Tryd.ntmps66]
 unfold f_grid_Valid at H
 change AW _ _ _ [(0, .agg [.int .i64 t0.W, .int .i64 t0.H, slA (eL eB) t0.Dots])] [] _
 refine AW.regionSeq (OpsW.box rfl rfl rfl 1 rfl (okCb_sound (by kernel_rfl)) ?_)
 change OpsW _ _ _ _ _ (qZ5u t0) _
 refine OpsW.sg 1 [1] [(1, .ref 1 0 0)] ?_
 refine OpsW.recast (env' := [(1, .ref 1 0 0)]) (h' := (qZ5u t0)) (StC.mk (phi [(1, some 1)]) (.o rfl (.i3 .nil) .nil) rfl (.cons (.r rfl) .nil)) ?_
 refine OpsW.nil (AW.seq (AW.regionSeq (OpsW.sq 26 [30, 1] [(qZ5z t0) = true → (qZ5z t0) = true, (qZ5z t0) = true → (qZ5z t0) = true, (decide (t0.W < 0)) = false → (qZ5z t0) = true, (!(qZ5x t0)) = true → (!(qZ5x t0)) = true, (!(qZ5x t0)) = true → (!(qZ5x t0)) = true, (qZ5x t0) = false → (!(qZ5x t0)) = true, (!(qZ5v t0)) = true → (!(qZ5v t0)) = true, (!(qZ5v t0)) = true → (!(qZ5v t0)) = true, (qZ5v t0) = false → (!(qZ5v t0)) = true, (!(qZ5w t0)) = true → (!(qZ5w t0)) = true, (!(qZ5w t0)) = true → (!(qZ5w t0)) = true, (!(qZ5w t0)) = true → (!(qZ5w t0)) = true, (!(qZ5w t0)) = true → (!(qZ5w t0)) = true, (!(qZ5w t0)) = true → (!(qZ5w t0)) = true, (qZ5w t0) = false → (!(qZ5w t0)) = true] [(30, .bool (cond (qZ5w t0) true ((qZ5y t0) != t0.H))), (1, .ref 1 0 0)] ⟨(fun h => h), (fun h => h), (fun h => by first | exact h | (simpa using h) | grind), (fun h => h), (fun h => h), (fun h => by first | exact h | (simpa using h) | grind), (fun h => h), (fun h => h), (fun h => by first | exact h | (simpa using h) | grind), (fun h => h), (fun h => h), (fun h => h), (fun h => h), (fun h => h), (fun h => by first | exact h | (simpa using h) | grind), trivial⟩ ?_)))
 refine OpsW.nil (AW.cond (b := cond (qZ5w t0) true ((qZ5y t0) != t0.H)) rfl (fun c1 => ?_) (fun c1 => ?_))
 ·replace H := condT c1 H
  refine AW.regionSeq (OpsW.sg 1 [2] [(2, .bool false)] ?_)
  refine OpsW.nil ?_
  obtain rfl := Option.some.inj H
  refine AW.recast (env' := [(2, .bool false)]) (h' := []) (StC.pure (.cons .im .nil)) ?_
  refine AW.ret ?_
  try simp only [Ex.then, Ex.inBlock, Ex.noGoto, Ex.jump, reduceIte, Nat.reduceEqDiff, reduceCtorEq]
  refine Done.gen rfl (.tmp .nil) ?_
  show _ = _
  kernel_rfl
 replace H := condF c1 H
 refine AW.skip (AW.seq (AW.regionSeq (OpsW.sg 4 [34, 33, 32, 1] [(34, .int .i64 0), (33, .int .i64 (qZ5y t0)), (32, slA (eL eB) t0.Dots), (1, .ref 1 0 0)] ?_)))
 refine OpsW.nil (AW.block ?_)
 refine AW.iterK (fun loop (s : Int) => f_grid_Valid_b1 t0 loop s) r (fun (s : Int) => [(1, .ref 1 0 0), (32, slA (eL eB) t0.Dots), (33, .int .i64 (qZ5y t0)), (34, .int .i64 s)]) (fun (s : Int) => (qZ5u t0)) ?_ 1000000 (0 : Int) H (StC.mk (phi [(1, some 1)]) (.o rfl (.i3 .nil) .nil) rfl (.cons (.r rfl) (.i3 .nil)))
 intro loop3 v2 H
 change f_grid_Valid_b1 t0 loop3 v2 = some r at H
 unfold f_grid_Valid_b1 at H
 change AW _ _ _ (qZ5t t0 v2) (qZ5u t0) _
 refine AW.regionSeq (OpsW.sg 1 [35, 1, 32, 33, 34] ((35, .bool (decide (v2 < (qZ5y t0)))) :: (qZ5t t0 v2)) ?_)
 refine OpsW.nil (AW.seq (AW.cond (b := decide (v2 < (qZ5y t0))) rfl (fun c4 => ?_) (fun c4 => ?_)))
 ·replace H := condT c4 H
  refine AW.skip (AW.seq (AW.block (AW.regionSeq ?_)))
  obtain ⟨g5, H⟩ := G_some H
  refine OpsW.sq 1 [36, 1, 32, 33, 34] [0 ≤ v2 ∧ v2 < (qZ5y t0)] ((36, .ipt (t0.Dots.flatMap (eL eB)) (v2.toNat * 1)) :: (qZ5t t0 v2)) ⟨g5, trivial⟩ ?_
  refine OpsW.asU (slA eB (t0.Dots.getD v2.toNat [])) rfl rfl (T.load rfl trivial (by kernel_rfl) (fm_cell0 (eL eB) 1 (fun _ => rfl) t0.Dots [] v2.toNat (ltN g5) (fun a => .sl (a.flatMap eB) a.length) (fun _ => rfl))) ?_
  refine OpsW.sg 1 [4, 1, 32, 33, 34] ((4, slA eB (t0.Dots.getD v2.toNat [])) :: (qZ5t t0 v2)) ?_
  refine OpsW.nil (AW.regionSeq (OpsW.sg 5 [42, 1, 32, 33, 34] ((42, .bool (((t0.Dots.getD v2.toNat []).length : Int) != t0.W)) :: (qZ5t t0 v2)) ?_))
  refine OpsW.nil (AW.cond (b := ((t0.Dots.getD v2.toNat []).length : Int) != t0.W) rfl (fun c6 => ?_) (fun c6 => ?_))
  ·replace H := condT c6 H
   refine AW.regionSeq (OpsW.sg 1 [2] [(2, .bool false)] ?_)
   refine OpsW.nil ?_
   obtain rfl := Option.some.inj H
   refine AW.recast (env' := [(2, .bool false)]) (h' := []) (StC.pure (.cons .im .nil)) ?_
   refine AW.ret ?_
   try simp only [Ex.then, Ex.inBlock, Ex.noGoto, Ex.jump, reduceIte, Nat.reduceEqDiff, reduceCtorEq]
   refine Done.gen rfl (.tmp .nil) ?_
   show _ = _
   kernel_rfl
  replace H := condF c6 H
  refine AW.skip (AW.region ?_)
  obtain ⟨g7, H⟩ := G_some H
  refine OpsW.sq 2 [34, 1, 32, 33] [inR (v2 + 1)] [(34, .int .i64 (v2 + 1)), (1, .ref 1 0 0), (32, slA (eL eB) t0.Dots), (33, .int .i64 (qZ5y t0))] ⟨g7, trivial⟩ ?_
  refine OpsW.nil ?_
  show ∃ y, _ ∧ StC _ _ _ _
  exact ⟨v2 + 1, H, (StC.mk (phi [(1, some 1)]) (.o rfl (.i3 .nil) .nil) rfl (.cons (.r rfl) (.i3 .nil)))⟩
 replace H := condF c4 H
 refine AW.exit ?_
 refine AW.regionSeq (OpsW.sg 1 [2] [(2, .bool true)] ?_)
 refine OpsW.nil ?_
 obtain rfl := Option.some.inj H
 refine AW.recast (env' := [(2, .bool true)]) (h' := []) (StC.pure (.cons .im .nil)) ?_
 refine AW.ret ?_
 try simp only [Ex.then, Ex.inBlock, Ex.noGoto, Ex.jump, reduceIte, Nat.reduceEqDiff, reduceCtorEq]
 refine Done.gen rfl (.tmp .nil) ?_
 show _ = _
 kernel_rfl
end Go.Proofs.YtbcfmhoaocifoaaDoor
