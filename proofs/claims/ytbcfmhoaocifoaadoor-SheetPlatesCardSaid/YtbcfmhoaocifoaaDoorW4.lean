/-
  Written by gen.py (own work): typed functions, and that the program computes them.
-/
import Derived.Test.YtbcfmhoaocifoaaDoorW3
set_option linter.unusedSimpArgs false
set_option linter.unusedVariables false
set_option maxRecDepth 100000
namespace Go.Proofs.YtbcfmhoaocifoaaDoor
open Go.Abs
def f_number_Write_b1 (x2 : ByteArray) (loop5 : ((List Int) × Int) → Option ((List Int) × Int)) (v3 : List Int) (v4 : Int) : Option ((List Int) × Int) :=
  cond (decide (v4 < ((bytesOf x2).length : Int))) (
    G (0 ≤ v4 ∧ v4 < ((bytesOf x2).length : Int)) <|
    G (0 ≤ (IntKind.wrap .u8 (((bytesOf x2).getD v4.toNat (0 : Int)) - (48 : Int))) ∧ (IntKind.wrap .u8 (((bytesOf x2).getD v4.toNat (0 : Int)) - (48 : Int))) < (10 : Int)) <|
    G (room 1 (v3.length + 1)) <|
    G (inR (v4 + (1 : Int))) <|
    loop5 (v3 ++ [tab_number_digits.getD (IntKind.wrap .u8 (((bytesOf x2).getD v4.toNat (0 : Int)) - (48 : Int))).toNat (0 : Int)], v4 + (1 : Int))) (
    some (v3, (0 : Int)))
def f_number_Write (t0 : Int) : Option ((List Int) × Int) :=
  cond (cond (decide (t0 < (0 : Int))) true (decide ((99999 : Int) < t0))) (
    some ([], (190 : Int))) (
    (f_strconv_Itoa t0).bind fun x2 =>
    iter (fun loop (s : (List Int) × Int) => f_number_Write_b1 x2 loop s.1 s.2) 1000000 ([(60 : Int)], (0 : Int)))
theorem f_number_Write_own {t0 : Int} {r : (List Int) × Int} (H : f_number_Write t0 = some r) : Abs.Spec Tryd.prog 82 [.int .i64 t0] [] (fun x h => x = .tup [.rsl 1000 0 0 r.1.length, .int .i64 r.2] ∧ h = [(1000, rtA 0 42 1 (eI .u8) r.1)]) := by
  refine Spec.of_AW Tryd.func82 rfl (by simp [Tryd.ntmps82]) ?_
  rw [Tryd.ntmps82]
  unfold f_number_Write at H
  change AW _ _ _ [(0, .int .i64 t0)] [] _
  refine AW.regionSeq ?_
  refine OpsW.seg 2 [0] [] [(0, .int .i64 t0)] (by kernel_rfl) trivial ?_
  refine OpsW.nil ?_
  refine AW.seq ?_
  refine AW.regionSeq ?_
  refine OpsW.seg 6 [12, 0] [(!(decide (t0 < 0))) = true → (!(decide (t0 < 0))) = true, (decide (t0 < 0)) = false → (!(decide (t0 < 0))) = true] [(12, .bool (cond (decide (t0 < 0)) true (decide (99999 < t0)))), (0, .int .i64 t0)] (by kernel_rfl) ⟨(fun h => h), (fun h => by first | exact h | (simpa using h) | grind), trivial⟩ ?_
  refine OpsW.nil ?_
  refine AW.cond (b := cond (decide (t0 < 0)) true (decide (99999 < t0))) rfl (fun c1 => ?_) (fun c1 => ?_)
  · replace H := condT c1 H
    refine AW.regionSeq ?_
    refine OpsW.seg 2 [3, 2] [] [(3, .int .i64 190), (2, .im (.val (.slice none 0 0)))] (by kernel_rfl) trivial ?_
    refine OpsW.nil ?_
    obtain rfl := Option.some.inj H
    refine AW.recast (env' := [(2, .rsl 1000 0 0 0), (3, .int .i64 190)]) (h' := [(1000, rtA 0 42 1 (eI .u8) ([] : List Int))]) (StC.mk (phi [(1000, none)]) (.new rfl .nil) rfl (.cons (.nilr rfl rfl rfl) (.cons .im .nil))) ?_
    refine AW.ret ?_
    try simp only [Ex.then, Ex.inBlock, Ex.noGoto, Ex.jump, reduceIte, Nat.reduceEqDiff, reduceCtorEq]
    refine Done.gen rfl (.tmp (.tmp .nil)) ?_
    exact ⟨by kernel_rfl, rfl⟩
  · replace H := condF c1 H
    refine AW.skip ?_
    refine AW.regionSeq ?_
    refine OpsW.buildT (enc := eI .u8) [(60 : Int)] rfl rfl rfl 13 rfl E41 (fun _ => rfl) (by decide) trivial (by kernel_rfl) (by kernel_rfl) (by kernel_rfl) rfl ?_
    refine OpsW.seg 1 [4, 0] [] [(4, .rsl 13 0 0 ([(60 : Int)].length)), (0, .int .i64 t0)] (by kernel_rfl) trivial ?_
    refine OpsW.recast (env' := [(4, .rsl 4 0 0 ([(60 : Int)].length)), (0, .int .i64 t0)]) (h' := [(4, rtA 0 42 1 (eI .u8) [(60 : Int)])]) (StC.mk (phi [(4, some 13)]) (.old rfl rfl rfl rfl rfl (CstL.ims _) .nil) rfl (.cons (.rsl rfl rfl rfl rfl rfl rfl) (.cons .im .nil))) ?_
    refine OpsW.nil ?_
    refine AW.seq ?_
    refine AW.regionSeq ?_
    refine OpsW.seg 1 [14, 4] [] [(14, .int .i64 t0), (4, .rsl 4 0 0 ([(60 : Int)].length))] (by kernel_rfl) trivial ?_
    obtain ⟨x2, hx2, H⟩ := bindS H
    refine OpsW.qcall rfl (by kernel_rfl) rfl rfl (glAll_sound trivial) (.cons (.pur rfl) .nil) (f_strconv_Itoa_ok hx2) rfl ?_
    refine OpsW.quietU (slA (eI .u8) (bytesOf x2)) rfl rfl (Quiet.toBytes (e := 5) x2 rfl (by kernel_rfl) (by kernel_rfl) (by kernel_rfl) (gpoU rfl ⟨trivial, rfl⟩)) ?_
    refine OpsW.seg 2 [18, 17, 16, 4] [] [(18, .int .i64 0), (17, .int .i64 ((bytesOf x2).length : Int)), (16, slA (eI .u8) (bytesOf x2)), (4, .rsl 4 0 0 ([(60 : Int)].length))] (by kernel_rfl) trivial ?_
    refine OpsW.nil ?_
    refine AW.block ?_
    refine AW.iterK (fun loop (s : (List Int) × Int) => f_number_Write_b1 x2 loop s.1 s.2) r (fun (s : (List Int) × Int) => [(4, .rsl 4 0 0 s.1.length), (16, slA (eI .u8) (bytesOf x2)), (17, .int .i64 ((bytesOf x2).length : Int)), (18, .int .i64 s.2)]) (fun (s : (List Int) × Int) => [(4, rtA 0 42 1 (eI .u8) s.1)]) ?_ 1000000 ([(60 : Int)], (0 : Int)) H (StC.mk (phi [(4, some 4)]) (.old rfl rfl rfl rfl rfl (CstL.ims _) .nil) rfl (.cons (.rsl rfl rfl rfl rfl rfl rfl) (.i3 .nil)))
    intro loop5 s H
    obtain ⟨v3, v4⟩ := s
    change f_number_Write_b1 x2 loop5 v3 v4 = some r at H
    unfold f_number_Write_b1 at H
    change AW _ _ _ [(4, .rsl 4 0 0 v3.length), (16, slA (eI .u8) (bytesOf x2)), (17, .int .i64 ((bytesOf x2).length : Int)), (18, .int .i64 v4)] [(4, rtA 0 42 1 (eI .u8) v3)] _
    refine AW.regionSeq ?_
    refine OpsW.seg 1 [19, 4, 16, 17, 18] [] [(19, .bool (decide (v4 < ((bytesOf x2).length : Int)))), (4, .rsl 4 0 0 v3.length), (16, slA (eI .u8) (bytesOf x2)), (17, .int .i64 ((bytesOf x2).length : Int)), (18, .int .i64 v4)] (by kernel_rfl) trivial ?_
    refine OpsW.nil ?_
    refine AW.seq ?_
    refine AW.cond (b := decide (v4 < ((bytesOf x2).length : Int))) rfl (fun c6 => ?_) (fun c6 => ?_)
    · replace H := condT c6 H
      refine AW.skip ?_
      refine AW.seq ?_
      refine AW.block ?_
      refine AW.regionSeq ?_
      obtain ⟨g7, H⟩ := G_some H
      refine OpsW.seg 1 [20, 4, 16, 17, 18] [0 ≤ v4 ∧ v4 < ((bytesOf x2).length : Int)] [(20, .ipt ((bytesOf x2).flatMap (eI .u8)) (v4.toNat * 1)), (4, .rsl 4 0 0 v3.length), (16, slA (eI .u8) (bytesOf x2)), (17, .int .i64 ((bytesOf x2).length : Int)), (18, .int .i64 v4)] (by kernel_rfl) ⟨g7, trivial⟩ ?_
      refine OpsW.asU (.int .u8 ((bytesOf x2).getD v4.toNat 0)) rfl rfl (T.load rfl trivial (by kernel_rfl) (fm_cell0 (eI .u8) 1 (fun _ => rfl) (bytesOf x2) (0 : Int) v4.toNat (ltN g7) (fun a => .val (.int .u8 a)) (fun _ => rfl))) ?_
      refine OpsW.seg 1 [6, 4, 16, 17, 18] [] [(6, .int .u8 ((bytesOf x2).getD v4.toNat 0)), (4, .rsl 4 0 0 v3.length), (16, slA (eI .u8) (bytesOf x2)), (17, .int .i64 ((bytesOf x2).length : Int)), (18, .int .i64 v4)] (by kernel_rfl) trivial ?_
      refine OpsW.nil ?_
      refine AW.region ?_
      obtain ⟨g8, H⟩ := G_some H
      refine OpsW.seg 4 [25, 22, 4, 16, 17, 18] [0 ≤ (IntKind.wrap .u8 (((bytesOf x2).getD v4.toNat 0) - 48)) ∧ (IntKind.wrap .u8 (((bytesOf x2).getD v4.toNat 0) - 48)) < 10] [(25, .ipt (tab_number_digits.flatMap (eI .u8)) (0 + (IntKind.wrap .u8 (((bytesOf x2).getD v4.toNat 0) - 48)).toNat * 1)), (22, .rsl 4 0 0 v3.length), (4, .rsl 4 0 0 v3.length), (16, slA (eI .u8) (bytesOf x2)), (17, .int .i64 ((bytesOf x2).length : Int)), (18, .int .i64 v4)] (by kernel_rfl) ⟨g8, trivial⟩ ?_
      refine OpsW.asU (.int .u8 (tab_number_digits.getD (IntKind.wrap .u8 (((bytesOf x2).getD v4.toNat 0) - 48)).toNat (0 : Int))) rfl rfl (T.load rfl trivial (by kernel_rfl) (tabOff (fm_cell0 (eI .u8) 1 (fun _ => rfl) tab_number_digits (0 : Int) (IntKind.wrap .u8 (((bytesOf x2).getD v4.toNat 0) - 48)).toNat (ltA (n := 10) g8 rfl) (fun a => .val (.int .u8 a)) (fun _ => rfl)))) ?_
      obtain ⟨g9, H⟩ := G_some H
      refine OpsW.appendLF (enc := eI .u8) [tab_number_digits.getD (IntKind.wrap .u8 (((bytesOf x2).getD v4.toNat 0) - 48)).toNat (0 : Int)] rfl rfl rfl (by decide) rfl rfl rfl (by simp) E41 (fun _ => rfl) (by decide) trivial (by kernel_rfl) (by kernel_rfl) (by kernel_rfl) rfl rfl rfl g9 ?_
      refine OpsW.seg 1 [4, 16, 17, 18] [] [(4, .rsl 4 1 0 ((v3 ++ [tab_number_digits.getD (IntKind.wrap .u8 (((bytesOf x2).getD v4.toNat 0) - 48)).toNat (0 : Int)]).length)), (16, slA (eI .u8) (bytesOf x2)), (17, .int .i64 ((bytesOf x2).length : Int)), (18, .int .i64 v4)] (by kernel_rfl) trivial ?_
      refine OpsW.recast (env' := [(4, .rsl 4 0 0 ((v3 ++ [tab_number_digits.getD (IntKind.wrap .u8 (((bytesOf x2).getD v4.toNat 0) - 48)).toNat (0 : Int)]).length)), (16, slA (eI .u8) (bytesOf x2)), (17, .int .i64 ((bytesOf x2).length : Int)), (18, .int .i64 v4)]) (h' := [(4, rtA 0 42 1 (eI .u8) (v3 ++ [tab_number_digits.getD (IntKind.wrap .u8 (((bytesOf x2).getD v4.toNat 0) - 48)).toNat (0 : Int)]))]) (StC.mk (phi [(4, some 4)]) (.old rfl rfl rfl rfl rfl (CstL.ims _) .nil) rfl (.cons (.rsl rfl rfl rfl rfl rfl rfl) (.i3 .nil))) ?_
      refine OpsW.nil ?_
      refine AW.region ?_
      obtain ⟨g10, H⟩ := G_some H
      refine OpsW.seg 2 [18, 4, 16, 17] [inR (v4 + 1)] [(18, .int .i64 (v4 + 1)), (4, .rsl 4 0 0 ((v3 ++ [tab_number_digits.getD (IntKind.wrap .u8 (((bytesOf x2).getD v4.toNat 0) - 48)).toNat (0 : Int)]).length)), (16, slA (eI .u8) (bytesOf x2)), (17, .int .i64 ((bytesOf x2).length : Int))] (by kernel_rfl) ⟨g10, trivial⟩ ?_
      refine OpsW.nil ?_
      show ∃ y, _ ∧ StC _ _ _ _
      exact ⟨(v3 ++ [tab_number_digits.getD (IntKind.wrap .u8 (((bytesOf x2).getD v4.toNat 0) - 48)).toNat (0 : Int)], v4 + 1), H, (StC.mk (phi [(4, some 4)]) (.old rfl rfl rfl rfl rfl (CstL.ims _) .nil) rfl (.cons (.rsl rfl rfl rfl rfl rfl rfl) (.i3 .nil)))⟩
    · replace H := condF c6 H
      refine AW.exit ?_
      refine AW.regionSeq ?_
      refine OpsW.seg 3 [3, 2] [] [(3, .int .i64 0), (2, .rsl 4 0 0 v3.length)] (by kernel_rfl) trivial ?_
      refine OpsW.nil ?_
      obtain rfl := Option.some.inj H
      refine AW.recast (env' := [(2, .rsl 1000 0 0 v3.length), (3, .int .i64 0)]) (h' := [(1000, rtA 0 42 1 (eI .u8) v3)]) (StC.mk (phi [(1000, some 4)]) (.old rfl rfl rfl rfl rfl (CstL.ims _) .nil) rfl (.cons (.rsl rfl rfl rfl rfl rfl rfl) (.cons .im .nil))) ?_
      refine AW.ret ?_
      try simp only [Ex.then, Ex.inBlock, Ex.noGoto, Ex.jump, reduceIte, Nat.reduceEqDiff, reduceCtorEq]
      refine Done.gen rfl (.tmp (.tmp .nil)) ?_
      exact ⟨by kernel_rfl, rfl⟩
theorem f_number_Write_ok  {t0 : Int} {r : (List Int) × Int} (H : f_number_Write t0 = some r) : QSpec Tryd.prog 82 [.int .i64 t0] (.tup [slA (eI .u8) r.1, .int .i64 r.2]) := by
  exact QSpec.of_own (f_number_Write_own H) (.tup (.cons (.frz rfl rfl rfl (frz_all (eI .u8) 1 (fun _ => rfl) r.1) (fm_length (eI .u8) 1 (fun _ => rfl) r.1) (phi_ne rfl)) (.cons .im .nil)))
def f_number_Ink_k1 (x2 : (List Int) × Int) (v3 : List Int) : Option ((List Int) × Int) :=
  some (v3, x2.2)
def f_number_Ink (t0 : Int) (t1 : Int) : Option ((List Int) × Int) :=
  cond (cond (cond (cond (decide (t0 < (1 : Int))) true (decide ((9999 : Int) < t0))) true (decide (t1 < (0 : Int)))) true (decide ((26 : Int) < t1))) (
    some ([], (190 : Int))) (
    (f_number_Write t0).bind fun x2 =>
    cond (cond (x2.2 == (0 : Int)) (decide ((0 : Int) < t1)) false) (
      G (inR (t1 - (1 : Int))) <|
      G (0 ≤ (t1 - (1 : Int)) ∧ (t1 - (1 : Int)) < (26 : Int)) <|
      G (room 1 ([(48 : Int), tab_number_letters.getD (t1 - (1 : Int)).toNat (0 : Int)].length + x2.1.length)) <|
      f_number_Ink_k1 x2 ([(48 : Int), tab_number_letters.getD (t1 - (1 : Int)).toNat (0 : Int)] ++ x2.1)) (
      f_number_Ink_k1 x2 x2.1))
abbrev qZ3d (t0 : Int)  := cond (decide (t0 < 1)) true (decide (9999 < t0))
abbrev qZ3e (t1 : Int) (x2 : (List Int) × Int)  := ([(48 : Int), tab_number_letters.getD (t1 - 1).toNat (0 : Int)] ++ x2.1)
abbrev qZ3f (t0 : Int) (t1 : Int)  := cond (qZ3d t0) true (decide (t1 < 0))
theorem f_number_Ink_ok  {t0 : Int} {t1 : Int} {r : (List Int) × Int} (H : f_number_Ink t0 t1 = some r) : QSpec Tryd.prog 78 [.int .i64 t0, .int .i64 t1] (.tup [slA (eI .u8) r.1, .int .i64 r.2]) := by
  refine Spec.of_AW Tryd.func78 rfl (by simp [Tryd.ntmps78]) ?_
  rw [Tryd.ntmps78]
  unfold f_number_Ink at H
  change AW _ _ _ [(0, .int .i64 t0), (1, .int .i64 t1)] [] _
  refine AW.regionSeq ?_
  refine OpsW.seg 2 [0, 1] [] [(0, .int .i64 t0), (1, .int .i64 t1)] (by kernel_rfl) trivial ?_
  refine OpsW.nil ?_
  refine AW.seq ?_
  refine AW.regionSeq ?_
  refine OpsW.seg 14 [21, 0, 1] [(!(decide (t0 < 1))) = true → (!(decide (t0 < 1))) = true, (decide (t0 < 1)) = false → (!(decide (t0 < 1))) = true, (!(qZ3d t0)) = true → (!(qZ3d t0)) = true, (qZ3d t0) = false → (!(qZ3d t0)) = true, (!(qZ3f t0 t1)) = true → (!(qZ3f t0 t1)) = true, (qZ3f t0 t1) = false → (!(qZ3f t0 t1)) = true] [(21, .bool (cond (qZ3f t0 t1) true (decide (26 < t1)))), (0, .int .i64 t0), (1, .int .i64 t1)] (by kernel_rfl) ⟨(fun h => h), (fun h => by first | exact h | (simpa using h) | grind), (fun h => h), (fun h => by first | exact h | (simpa using h) | grind), (fun h => h), (fun h => by first | exact h | (simpa using h) | grind), trivial⟩ ?_
  refine OpsW.nil ?_
  refine AW.cond (b := cond (qZ3f t0 t1) true (decide (26 < t1))) rfl (fun c1 => ?_) (fun c1 => ?_)
  · replace H := condT c1 H
    refine AW.regionSeq ?_
    refine OpsW.seg 2 [5, 4] [] [(5, .int .i64 190), (4, .im (.val (.slice none 0 0)))] (by kernel_rfl) trivial ?_
    refine OpsW.nil ?_
    obtain rfl := Option.some.inj H
    refine AW.recast (env' := [(4, slA (eI .u8) []), (5, .int .i64 190)]) (h' := []) (StC.pure (.cons .nil (.cons .im .nil))) ?_
    refine AW.ret ?_
    try simp only [Ex.then, Ex.inBlock, Ex.noGoto, Ex.jump, reduceIte, Nat.reduceEqDiff, reduceCtorEq]
    refine Done.gen rfl (.tmp (.tmp .nil)) ?_
    show _ = _
    kernel_rfl
  · replace H := condF c1 H
    refine AW.skip ?_
    refine AW.regionSeq ?_
    refine OpsW.seg 1 [23, 1] [] [(23, .int .i64 t0), (1, .int .i64 t1)] (by kernel_rfl) trivial ?_
    obtain ⟨x2, hx2, H⟩ := bindS H
    refine OpsW.qcall rfl (by kernel_rfl) rfl rfl (glAll_sound trivial) (.cons (.pur rfl) .nil) (f_number_Write_ok hx2) rfl ?_
    refine OpsW.seg 5 [7, 6, 1] [] [(7, .int .i64 x2.2), (6, slA (eI .u8) x2.1), (1, .int .i64 t1)] (by kernel_rfl) trivial ?_
    refine OpsW.nil ?_
    refine AW.joinK (fun (y : (List Int)) => f_number_Ink_k1 x2 y) r (fun (y : (List Int)) => [(6, slA (eI .u8) y), (7, .int .i64 x2.2)]) (fun (y : (List Int)) => []) ?_ ?_
    · refine AW.regionSeq ?_
      refine OpsW.seg 6 [32, 7, 6, 1] [(x2.2 == 0) = true → (x2.2 == 0) = true, (x2.2 == 0) = true → (x2.2 == 0) = true] [(32, .bool (cond (x2.2 == 0) (decide (0 < t1)) false)), (7, .int .i64 x2.2), (6, slA (eI .u8) x2.1), (1, .int .i64 t1)] (by kernel_rfl) ⟨(fun h => h), (fun h => by first | exact h | (simpa using h) | grind), trivial⟩ ?_
      refine OpsW.nil ?_
      refine AW.cond (b := cond (x2.2 == 0) (decide (0 < t1)) false) rfl (fun c4 => ?_) (fun c4 => ?_)
      · replace H := condT c4 H
        refine AW.region ?_
        obtain ⟨g5, H⟩ := G_some H
        obtain ⟨g6, H⟩ := G_some H
        refine OpsW.seg 3 [35, 7, 6] [inR (t1 - 1), 0 ≤ (t1 - 1) ∧ (t1 - 1) < 26] [(35, .ipt (tab_number_letters.flatMap (eI .u8)) (0 + (t1 - 1).toNat * 1)), (7, .int .i64 x2.2), (6, slA (eI .u8) x2.1)] (by kernel_rfl) ⟨g5, g6, trivial⟩ ?_
        refine OpsW.asU (.int .u8 (tab_number_letters.getD (t1 - 1).toNat (0 : Int))) rfl rfl (T.load rfl trivial (by kernel_rfl) (tabOff (fm_cell0 (eI .u8) 1 (fun _ => rfl) tab_number_letters (0 : Int) (t1 - 1).toNat (ltA (n := 26) g6 rfl) (fun a => .val (.int .u8 a)) (fun _ => rfl)))) ?_
        refine OpsW.buildT (enc := eI .u8) [(48 : Int), tab_number_letters.getD (t1 - 1).toNat (0 : Int)] rfl rfl rfl 37 rfl E41 (fun _ => rfl) (by decide) trivial (by kernel_rfl) (by kernel_rfl) (by kernel_rfl) rfl ?_
        refine OpsW.seg 1 [38, 37, 7, 6] [] [(38, slA (eI .u8) x2.1), (37, .rsl 37 0 0 ([(48 : Int), tab_number_letters.getD (t1 - 1).toNat (0 : Int)].length)), (7, .int .i64 x2.2), (6, slA (eI .u8) x2.1)] (by kernel_rfl) trivial ?_
        obtain ⟨g7, H⟩ := G_some H
        refine OpsW.appendF (enc := eI .u8) (ys := x2.1) rfl rfl rfl E41 (fun _ => rfl) rfl rfl trivial (SrcA.typed (enc := eI .u8) (fun _ => rfl) (by kernel_rfl) x2.1) rfl g7 ?_
        refine OpsW.seg 1 [6, 7] [] [(6, .rsl 37 1 0 ((qZ3e t1 x2).length)), (7, .int .i64 x2.2)] (by kernel_rfl) trivial ?_
        refine OpsW.recast (env' := [(6, slA (eI .u8) (qZ3e t1 x2)), (7, .int .i64 x2.2)]) (h' := []) (StC.mk (phi []) .nil rfl (.cons (.frz rfl rfl rfl (frz_all (eI .u8) 1 (fun _ => rfl) (qZ3e t1 x2)) (fm_length (eI .u8) 1 (fun _ => rfl) (qZ3e t1 x2)) (phi_ne rfl)) (.cons .im .nil))) ?_
        refine OpsW.nil ?_
        show ∃ y, _ ∧ StC _ _ _ _
        exact ⟨[(48 : Int), tab_number_letters.getD (t1 - 1).toNat (0 : Int)] ++ x2.1, H, (StC.pure (.i2 .nil))⟩
      · replace H := condF c4 H
        refine AW.skip ?_
        show ∃ y, _ ∧ StC _ _ _ _
        exact ⟨x2.1, H, (StC.pure (.i2 .nil))⟩
    · intro v3 H
      change f_number_Ink_k1 x2 v3 = some r at H
      unfold f_number_Ink_k1 at H
      change AW _ _ _ [(6, slA (eI .u8) v3), (7, .int .i64 x2.2)] [] _
      refine AW.regionSeq ?_
      refine OpsW.seg 4 [5, 4] [] [(5, .int .i64 x2.2), (4, slA (eI .u8) v3)] (by kernel_rfl) trivial ?_
      refine OpsW.nil ?_
      obtain rfl := Option.some.inj H
      refine AW.recast (env' := [(4, slA (eI .u8) v3), (5, .int .i64 x2.2)]) (h' := []) (StC.pure (.i2 .nil)) ?_
      refine AW.ret ?_
      try simp only [Ex.then, Ex.inBlock, Ex.noGoto, Ex.jump, reduceIte, Nat.reduceEqDiff, reduceCtorEq]
      refine Done.gen rfl (.tmp (.tmp .nil)) ?_
      show _ = _
      kernel_rfl
def f_number_Page_k1 (x4 : (List Int) × Int) (v5 : List Int) : Option ((List Int) × Int) :=
  some (v5, x4.2)
def f_number_Page_k2 (t0 : S_Label) (v3 : Int) : Option ((List Int) × Int) :=
  (f_number_Write v3).bind fun x4 =>
  cond (cond (x4.2 == (0 : Int)) (decide ((0 : Int) < t0.K)) false) (
    G (inR (t0.K - (1 : Int))) <|
    G (0 ≤ (t0.K - (1 : Int)) ∧ (t0.K - (1 : Int)) < (26 : Int)) <|
    G (room 1 (x4.1.length + 2)) <|
    f_number_Page_k1 x4 (x4.1 ++ [(48 : Int), tab_number_letters.getD (t0.K - (1 : Int)).toNat (0 : Int)])) (
    f_number_Page_k1 x4 x4.1)
def f_number_Page (t0 : S_Label) (t1 : Bool) : Option ((List Int) × Int) :=
  cond (cond (cond (cond (decide (t0.N < (1 : Int))) true (decide ((9999 : Int) < t0.N))) true (decide (t0.K < (0 : Int)))) true (decide ((2 : Int) < t0.K))) (
    some ([], (190 : Int))) (
    G (inR ((2 : Int) * t0.N)) <|
    cond (!t1) (
      G (inR (((2 : Int) * t0.N) - (1 : Int))) <|
      f_number_Page_k2 t0 (((2 : Int) * t0.N) - (1 : Int))) (
      f_number_Page_k2 t0 ((2 : Int) * t0.N)))
abbrev qZ3g (t0 : S_Label)  := cond (decide (t0.N < 1)) true (decide (9999 < t0.N))
abbrev qZ3h (t0 : S_Label)  := cond (qZ3g t0) true (decide (t0.K < 0))
abbrev qZ3i (t0 : S_Label) : List AV := [.int .i64 t0.N, .int .i64 t0.K]
abbrev qZ3j (x4 : (List Int) × Int) (t0 : S_Label)  := (x4.1 ++ [(48 : Int), tab_number_letters.getD (t0.K - 1).toNat (0 : Int)])
theorem f_number_Page_ok  {t0 : S_Label} {t1 : Bool} {r : (List Int) × Int} (H : f_number_Page t0 t1 = some r) : QSpec Tryd.prog 79 [.agg (qZ3i t0), .bool t1] (.tup [slA (eI .u8) r.1, .int .i64 r.2]) := by
  refine Spec.of_AW Tryd.func79 rfl (by simp [Tryd.ntmps79]) ?_
  rw [Tryd.ntmps79]
  unfold f_number_Page at H
  change AW _ _ _ [(0, .agg (qZ3i t0)), (1, .bool t1)] [] _
  refine AW.regionSeq ?_
  refine OpsW.box rfl rfl rfl 2 rfl (okCb_sound (by kernel_rfl)) ?_
  change OpsW _ _ _ _ _ [(2, ⟨0, true, 35, 2, (qZ3i t0)⟩)] _
  refine OpsW.seg 2 [2, 1] [] [(2, .ref 2 0 0), (1, .bool t1)] (by kernel_rfl) trivial ?_
  refine OpsW.recast (env' := [(2, .ref 2 0 0), (1, .bool t1)]) (h' := [(2, ⟨0, true, 35, 2, (qZ3i t0)⟩)]) (StC.mk (phi [(2, some 2)]) (.old rfl rfl rfl rfl rfl (.i2 .nil) .nil) rfl (.cons (.ref rfl rfl rfl rfl rfl) (.cons .im .nil))) ?_
  refine OpsW.nil ?_
  refine AW.seq ?_
  refine AW.regionSeq ?_
  refine OpsW.seg 18 [26, 2, 1] [(!(decide (t0.N < 1))) = true → (!(decide (t0.N < 1))) = true, (!(decide (t0.N < 1))) = true → (!(decide (t0.N < 1))) = true, (decide (t0.N < 1)) = false → (!(decide (t0.N < 1))) = true, (!(qZ3g t0)) = true → (!(qZ3g t0)) = true, (!(qZ3g t0)) = true → (!(qZ3g t0)) = true, (qZ3g t0) = false → (!(qZ3g t0)) = true, (!(qZ3h t0)) = true → (!(qZ3h t0)) = true, (!(qZ3h t0)) = true → (!(qZ3h t0)) = true, (qZ3h t0) = false → (!(qZ3h t0)) = true] [(26, .bool (cond (qZ3h t0) true (decide (2 < t0.K)))), (2, .ref 2 0 0), (1, .bool t1)] (by kernel_rfl) ⟨(fun h => h), (fun h => h), (fun h => by first | exact h | (simpa using h) | grind), (fun h => h), (fun h => h), (fun h => by first | exact h | (simpa using h) | grind), (fun h => h), (fun h => h), (fun h => by first | exact h | (simpa using h) | grind), trivial⟩ ?_
  refine OpsW.nil ?_
  refine AW.cond (b := cond (qZ3h t0) true (decide (2 < t0.K))) rfl (fun c1 => ?_) (fun c1 => ?_)
  · replace H := condT c1 H
    refine AW.regionSeq ?_
    refine OpsW.seg 2 [5, 4] [] [(5, .int .i64 190), (4, .im (.val (.slice none 0 0)))] (by kernel_rfl) trivial ?_
    refine OpsW.nil ?_
    obtain rfl := Option.some.inj H
    refine AW.recast (env' := [(4, slA (eI .u8) []), (5, .int .i64 190)]) (h' := []) (StC.pure (.cons .nil (.cons .im .nil))) ?_
    refine AW.ret ?_
    try simp only [Ex.then, Ex.inBlock, Ex.noGoto, Ex.jump, reduceIte, Nat.reduceEqDiff, reduceCtorEq]
    refine Done.gen rfl (.tmp (.tmp .nil)) ?_
    show _ = _
    kernel_rfl
  · replace H := condF c1 H
    refine AW.skip ?_
    refine AW.regionSeq ?_
    obtain ⟨g2, H⟩ := G_some H
    refine OpsW.seg 4 [6, 2, 1] [inR (2 * t0.N)] [(6, .int .i64 (2 * t0.N)), (2, .ref 2 0 0), (1, .bool t1)] (by kernel_rfl) ⟨g2, trivial⟩ ?_
    refine OpsW.nil ?_
    refine AW.joinK (fun (y : Int) => f_number_Page_k2 t0 y) r (fun (y : Int) => [(2, .ref 2 0 0), (6, .int .i64 y)]) (fun (y : Int) => [(2, ⟨0, true, 35, 2, (qZ3i t0)⟩)]) ?_ ?_
    · refine AW.regionSeq ?_
      refine OpsW.seg 2 [31, 6, 2] [] [(31, .bool (!t1)), (6, .int .i64 (2 * t0.N)), (2, .ref 2 0 0)] (by kernel_rfl) trivial ?_
      refine OpsW.nil ?_
      refine AW.cond (b := !t1) rfl (fun c10 => ?_) (fun c10 => ?_)
      · replace H := condT c10 H
        refine AW.region ?_
        obtain ⟨g11, H⟩ := G_some H
        refine OpsW.seg 3 [6, 2] [inR ((2 * t0.N) - 1)] [(6, .int .i64 ((2 * t0.N) - 1)), (2, .ref 2 0 0)] (by kernel_rfl) ⟨g11, trivial⟩ ?_
        refine OpsW.nil ?_
        show ∃ y, _ ∧ StC _ _ _ _
        exact ⟨(2 * t0.N) - 1, H, (StC.mk (phi [(2, some 2)]) (.old rfl rfl rfl rfl rfl (.i2 .nil) .nil) rfl (.cons (.ref rfl rfl rfl rfl rfl) (.cons .im .nil)))⟩
      · replace H := condF c10 H
        refine AW.skip ?_
        show ∃ y, _ ∧ StC _ _ _ _
        exact ⟨2 * t0.N, H, (StC.mk (phi [(2, some 2)]) (.old rfl rfl rfl rfl rfl (.i2 .nil) .nil) rfl (.cons (.ref rfl rfl rfl rfl rfl) (.cons .im .nil)))⟩
    · intro v3 H
      change f_number_Page_k2 t0 v3 = some r at H
      unfold f_number_Page_k2 at H
      change AW _ _ _ [(2, .ref 2 0 0), (6, .int .i64 v3)] [(2, ⟨0, true, 35, 2, (qZ3i t0)⟩)] _
      refine AW.regionSeq ?_
      refine OpsW.seg 1 [35, 2] [] [(35, .int .i64 v3), (2, .ref 2 0 0)] (by kernel_rfl) trivial ?_
      obtain ⟨x4, hx4, H⟩ := bindS H
      refine OpsW.call rfl rfl (by kernel_rfl) [] _ _ rfl (glAll_sound trivial) (.cons (.pur rfl) .nil) (f_number_Write_own hx4) ?_
      rintro _ _ ⟨rfl, rfl⟩
      refine ⟨fresh_of (by kernel_rfl), .inl rfl, ?_⟩
      change OpsW _ _ _ _ [(36, .tup [.rsl 1000 0 0 x4.1.length, .int .i64 x4.2]), (35, .int .i64 v3), (2, .ref 2 0 0)] [(1000, rtA 0 42 1 (eI .u8) x4.1), (2, ⟨0, true, 35, 2, (qZ3i t0)⟩)] _
      refine OpsW.recast (env' := [(36, .tup [.rsl 600 0 0 x4.1.length, .int .i64 x4.2]), (35, .int .i64 v3), (2, .ref 2 0 0)]) (h' := [(600, rtA 0 42 1 (eI .u8) x4.1), (2, ⟨0, true, 35, 2, (qZ3i t0)⟩)]) (StC.mk (phi [(600, some 1000), (2, some 2)]) (.old rfl rfl rfl rfl rfl (CstL.ims _) (.old rfl rfl rfl rfl rfl (.i2 .nil) .nil)) rfl (.cons (.tup (.cons (.rsl rfl rfl rfl rfl rfl rfl) (.cons .im .nil))) (.cons .im (.cons (.ref rfl rfl rfl rfl rfl) .nil)))) ?_
      refine OpsW.seg 5 [8, 7, 2] [] [(8, .int .i64 x4.2), (7, .rsl 600 0 0 x4.1.length), (2, .ref 2 0 0)] (by kernel_rfl) trivial ?_
      refine OpsW.recast (env' := [(8, .int .i64 x4.2), (7, .rsl 7 0 0 x4.1.length), (2, .ref 2 0 0)]) (h' := [(2, ⟨0, true, 35, 2, (qZ3i t0)⟩), (7, rtA 0 42 1 (eI .u8) x4.1)]) (StC.mk (phi [(2, some 2), (7, some 600)]) (.old rfl rfl rfl rfl rfl (.i2 .nil) (.old rfl rfl rfl rfl rfl (CstL.ims _) .nil)) rfl (.cons .im (.cons (.rsl rfl rfl rfl rfl rfl rfl) (.cons (.ref rfl rfl rfl rfl rfl) .nil)))) ?_
      refine OpsW.nil ?_
      refine AW.joinK (fun (y : (List Int)) => f_number_Page_k1 x4 y) r (fun (y : (List Int)) => [(7, slA (eI .u8) y), (8, .int .i64 x4.2)]) (fun (y : (List Int)) => []) ?_ ?_
      · refine AW.regionSeq ?_
        refine OpsW.seg 7 [45, 8, 7, 2] [(x4.2 == 0) = true → (x4.2 == 0) = true, (x4.2 == 0) = true → (x4.2 == 0) = true, (x4.2 == 0) = true → (x4.2 == 0) = true] [(45, .bool (cond (x4.2 == 0) (decide (0 < t0.K)) false)), (8, .int .i64 x4.2), (7, .rsl 7 0 0 x4.1.length), (2, .ref 2 0 0)] (by kernel_rfl) ⟨(fun h => h), (fun h => h), (fun h => by first | exact h | (simpa using h) | grind), trivial⟩ ?_
        refine OpsW.nil ?_
        refine AW.cond (b := cond (x4.2 == 0) (decide (0 < t0.K)) false) rfl (fun c6 => ?_) (fun c6 => ?_)
        · replace H := condT c6 H
          refine AW.region ?_
          obtain ⟨g7, H⟩ := G_some H
          obtain ⟨g8, H⟩ := G_some H
          refine OpsW.seg 5 [50, 46, 8, 7] [inR (t0.K - 1), 0 ≤ (t0.K - 1) ∧ (t0.K - 1) < 26] [(50, .ipt (tab_number_letters.flatMap (eI .u8)) (0 + (t0.K - 1).toNat * 1)), (46, .rsl 7 0 0 x4.1.length), (8, .int .i64 x4.2), (7, .rsl 7 0 0 x4.1.length)] (by kernel_rfl) ⟨g7, g8, trivial⟩ ?_
          refine OpsW.asU (.int .u8 (tab_number_letters.getD (t0.K - 1).toNat (0 : Int))) rfl rfl (T.load rfl trivial (by kernel_rfl) (tabOff (fm_cell0 (eI .u8) 1 (fun _ => rfl) tab_number_letters (0 : Int) (t0.K - 1).toNat (ltA (n := 26) g8 rfl) (fun a => .val (.int .u8 a)) (fun _ => rfl)))) ?_
          obtain ⟨g9, H⟩ := G_some H
          refine OpsW.appendLF (enc := eI .u8) [(48 : Int), tab_number_letters.getD (t0.K - 1).toNat (0 : Int)] rfl rfl rfl (by decide) rfl rfl rfl (by simp) E41 (fun _ => rfl) (by decide) trivial (by kernel_rfl) (by kernel_rfl) (by kernel_rfl) rfl rfl rfl g9 ?_
          refine OpsW.seg 1 [7, 8] [] [(7, .rsl 7 1 0 ((qZ3j x4 t0).length)), (8, .int .i64 x4.2)] (by kernel_rfl) trivial ?_
          refine OpsW.recast (env' := [(7, slA (eI .u8) (qZ3j x4 t0)), (8, .int .i64 x4.2)]) (h' := []) (StC.mk (phi []) .nil rfl (.cons (.frz rfl rfl rfl (frz_all (eI .u8) 1 (fun _ => rfl) (qZ3j x4 t0)) (fm_length (eI .u8) 1 (fun _ => rfl) (qZ3j x4 t0)) (phi_ne rfl)) (.cons .im .nil))) ?_
          refine OpsW.nil ?_
          show ∃ y, _ ∧ StC _ _ _ _
          exact ⟨x4.1 ++ [(48 : Int), tab_number_letters.getD (t0.K - 1).toNat (0 : Int)], H, (StC.pure (.i2 .nil))⟩
        · replace H := condF c6 H
          refine AW.skip ?_
          show ∃ y, _ ∧ StC _ _ _ _
          exact ⟨x4.1, H, (StC.mk (phi []) .nil rfl (.cons (.frz rfl rfl rfl (frz_all (eI .u8) 1 (fun _ => rfl) x4.1) (fm_length (eI .u8) 1 (fun _ => rfl) x4.1) (phi_ne rfl)) (.cons .im .nil)))⟩
      · intro v5 H
        change f_number_Page_k1 x4 v5 = some r at H
        unfold f_number_Page_k1 at H
        change AW _ _ _ [(7, slA (eI .u8) v5), (8, .int .i64 x4.2)] [] _
        refine AW.regionSeq ?_
        refine OpsW.seg 4 [5, 4] [] [(5, .int .i64 x4.2), (4, slA (eI .u8) v5)] (by kernel_rfl) trivial ?_
        refine OpsW.nil ?_
        obtain rfl := Option.some.inj H
        refine AW.recast (env' := [(4, slA (eI .u8) v5), (5, .int .i64 x4.2)]) (h' := []) (StC.pure (.i2 .nil)) ?_
        refine AW.ret ?_
        try simp only [Ex.then, Ex.inBlock, Ex.noGoto, Ex.jump, reduceIte, Nat.reduceEqDiff, reduceCtorEq]
        refine Done.gen rfl (.tmp (.tmp .nil)) ?_
        show _ = _
        kernel_rfl
def f_slices_Grow_api_Cell_k1 (v2 : List Int) : Option (List Int) :=
  some v2
def f_slices_Grow_api_Cell (t1 : Int) : Option (List Int) :=
  cond (decide (t1 < (0 : Int))) (
    none) (
    G (inR ((0 : Int) - ((0 : Nat) : Int))) <|
    G (inR (t1 - ((0 : Int) - ((0 : Nat) : Int)))) <|
    cond (decide ((0 : Int) < (t1 - ((0 : Int) - ((0 : Nat) : Int))))) (
      G (0 < (t1 - ((0 : Int) - ((0 : Nat) : Int)))) <|
      G (room 1 (t1 - ((0 : Int) - ((0 : Nat) : Int))).toNat) <|
      G (0 ≤ ((0 : Nat) : Int) ∧ ((0 : Nat) : Int) ≤ ((t1 - ((0 : Int) - ((0 : Nat) : Int))).toNat : Int)) <|
      f_slices_Grow_api_Cell_k1 ([] : List Int)) (
      f_slices_Grow_api_Cell_k1 []))
abbrev qZ3k (t1 : Int)  := (t1 - (0 - ((0 : Nat) : Int)))
theorem f_slices_Grow_api_Cell_own {t1 : Int} {r : List Int} (H : f_slices_Grow_api_Cell t1 = some r) : Abs.Spec Tryd.prog 85 [.im (.val (.slice none 0 0)), .int .i64 t1] [] (fun x h => x = .rsl 1000 0 0 r.length ∧ h = [(1000, rtA 0 42 1 (eI .u8) r)]) := by
  refine Spec.of_AW Tryd.func85 rfl (by simp [Tryd.ntmps85]) ?_
  rw [Tryd.ntmps85]
  unfold f_slices_Grow_api_Cell at H
  change AW _ _ _ [(0, .im (.val (.slice none 0 0))), (1, .int .i64 t1)] [] _
  refine AW.regionSeq ?_
  refine OpsW.seg 1 [0, 1] [] [(0, .im (.val (.slice none 0 0))), (1, .int .i64 t1)] (by kernel_rfl) trivial ?_
  refine OpsW.nil ?_
  refine AW.seq ?_
  refine AW.regionSeq ?_
  refine OpsW.seg 2 [6, 0, 1] [] [(6, .bool (decide (t1 < 0))), (0, .im (.val (.slice none 0 0))), (1, .int .i64 t1)] (by kernel_rfl) trivial ?_
  refine OpsW.nil ?_
  refine AW.cond (b := decide (t1 < 0)) rfl (fun c1 => ?_) (fun c1 => ?_)
  · replace H := condT c1 H
    cases H
  · replace H := condF c1 H
    refine AW.skip ?_
    refine AW.joinK (fun (y : (List Int)) => f_slices_Grow_api_Cell_k1 y) r (fun (y : (List Int)) => [(0, .rsl 0 0 0 y.length)]) (fun (y : (List Int)) => [(0, rtA 0 42 1 (eI .u8) y)]) ?_ ?_
    · refine AW.regionSeq ?_
      refine OpsW.seg 2 [9, 8, 0, 1] [] [(9, .im (.val (.slice none 0 0))), (8, .int .i64 t1), (0, .im (.val (.slice none 0 0))), (1, .int .i64 t1)] (by kernel_rfl) trivial ?_
      refine OpsW.quietU (.int .i64 0) rfl rfl (Quiet.capNil rfl (by kernel_rfl) (gpoU rfl ⟨trivial, rfl⟩)) ?_
      obtain ⟨g3, H⟩ := G_some H
      obtain ⟨g4, H⟩ := G_some H
      refine OpsW.seg 5 [1, 0] [inR (0 - ((0 : Nat) : Int)), inR (qZ3k t1)] [(1, .int .i64 (qZ3k t1)), (0, .im (.val (.slice none 0 0)))] (by kernel_rfl) ⟨g3, g4, trivial⟩ ?_
      refine OpsW.nil ?_
      refine AW.regionSeq ?_
      refine OpsW.seg 2 [16, 1, 0] [] [(16, .bool (decide ((0 : Int) < (qZ3k t1)))), (1, .int .i64 (qZ3k t1)), (0, .im (.val (.slice none 0 0)))] (by kernel_rfl) trivial ?_
      refine OpsW.nil ?_
      refine AW.cond (b := decide ((0 : Int) < (qZ3k t1))) rfl (fun c5 => ?_) (fun c5 => ?_)
      · replace H := condT c5 H
        refine AW.region ?_
        refine OpsW.seg 2 [18, 17, 1, 0] [] [(18, .im (.val (.slice none 0 0))), (17, .im (.val (.slice none 0 0))), (1, .int .i64 (qZ3k t1)), (0, .im (.val (.slice none 0 0)))] (by kernel_rfl) trivial ?_
        refine OpsW.quietU (.int .i64 0) rfl rfl (Quiet.capNil rfl (by kernel_rfl) (gpoU rfl ⟨trivial, rfl⟩)) ?_
        refine OpsW.quietU (.im (.val (.slice none 0 0))) rfl rfl (Quiet.sliceNil rfl (by kernel_rfl) (by kernel_rfl) (gpoU rfl ⟨trivial, rfl, trivial, rfl⟩)) ?_
        refine OpsW.seg 1 [21, 20, 0] [] [(21, .int .i64 (qZ3k t1)), (20, .im (.val (.slice none 0 0))), (0, .im (.val (.slice none 0 0)))] (by kernel_rfl) trivial ?_
        obtain ⟨g6, H⟩ := G_some H
        obtain ⟨g7, H⟩ := G_some H
        refine OpsW.growNil rfl rfl rfl 22 rfl E41 (by kernel_rfl) rfl rfl g6 g7 ?_
        change OpsW _ _ _ _ [(22, .rsl 22 0 0 ((qZ3k t1).toNat)), (21, .int .i64 (qZ3k t1)), (20, .im (.val (.slice none 0 0))), (0, .im (.val (.slice none 0 0)))] [(22, rtA 0 42 1 (eI .u8) ([] : List Int))] _
        obtain ⟨g8, H⟩ := G_some H
        refine OpsW.seg 4 [0] [0 ≤ ((0 : Nat) : Int) ∧ ((0 : Nat) : Int) ≤ ((qZ3k t1).toNat : Int)] [(0, .rsl 22 0 0 (([] : List Int).length))] (by kernel_rfl) ⟨g8, trivial⟩ ?_
        refine OpsW.recast (env' := [(0, .rsl 0 0 0 (([] : List Int).length))]) (h' := [(0, rtA 0 42 1 (eI .u8) ([] : List Int))]) (StC.mk (phi [(0, some 22)]) (.old rfl rfl rfl rfl rfl (CstL.ims _) .nil) rfl (.cons (.rsl rfl rfl rfl rfl rfl rfl) .nil)) ?_
        refine OpsW.nil ?_
        show ∃ y, _ ∧ StC _ _ _ _
        exact ⟨([] : List Int), H, (StC.mk (phi [(0, some 0)]) (.old rfl rfl rfl rfl rfl (CstL.ims _) .nil) rfl (.cons (.rsl rfl rfl rfl rfl rfl rfl) .nil))⟩
      · replace H := condF c5 H
        refine AW.skip ?_
        show ∃ y, _ ∧ StC _ _ _ _
        exact ⟨[], H, (StC.mk (phi [(0, none)]) (.new rfl .nil) rfl (.cons (.nilr rfl rfl rfl) .nil))⟩
    · intro v2 H
      change f_slices_Grow_api_Cell_k1 v2 = some r at H
      unfold f_slices_Grow_api_Cell_k1 at H
      change AW _ _ _ [(0, .rsl 0 0 0 v2.length)] [(0, rtA 0 42 1 (eI .u8) v2)] _
      refine AW.regionSeq ?_
      refine OpsW.seg 2 [4] [] [(4, .rsl 0 0 0 v2.length)] (by kernel_rfl) trivial ?_
      refine OpsW.nil ?_
      obtain rfl := Option.some.inj H
      refine AW.recast (env' := [(4, .rsl 1000 0 0 v2.length)]) (h' := [(1000, rtA 0 42 1 (eI .u8) v2)]) (StC.mk (phi [(1000, some 0)]) (.old rfl rfl rfl rfl rfl (CstL.ims _) .nil) rfl (.cons (.rsl rfl rfl rfl rfl rfl rfl) .nil)) ?_
      refine AW.ret ?_
      try simp only [Ex.then, Ex.inBlock, Ex.noGoto, Ex.jump, reduceIte, Nat.reduceEqDiff, reduceCtorEq]
      refine Done.gen rfl (.tmp .nil) ?_
      exact ⟨by kernel_rfl, rfl⟩
def f_slices_Concat_api_Cell_b1 (t0 : List (List Int)) (loop12 : ((List Int) × Int) → Option (List Int)) (v10 : List Int) (v11 : Int) : Option (List Int) :=
  cond (decide (v11 < (t0.length : Int))) (
    G (0 ≤ v11 ∧ v11 < (t0.length : Int)) <|
    G (room 1 (v10.length + (t0.getD v11.toNat []).length)) <|
    G (inR (v11 + (1 : Int))) <|
    loop12 (v10 ++ (t0.getD v11.toNat []), v11 + (1 : Int))) (
    some v10)
def f_slices_Concat_api_Cell_b2 (t0 : List (List Int)) (loop3 : (Int × Int) → Option (List Int)) (v1 : Int) (v2 : Int) : Option (List Int) :=
  cond (decide (v2 < (t0.length : Int))) (
    G (0 ≤ v2 ∧ v2 < (t0.length : Int)) <|
    G (inR (v1 + ((t0.getD v2.toNat []).length : Int))) <|
    cond (decide ((v1 + ((t0.getD v2.toNat []).length : Int)) < (0 : Int))) (
      none) (
      G (inR (v2 + (1 : Int))) <|
      loop3 (v1 + ((t0.getD v2.toNat []).length : Int), v2 + (1 : Int)))) (
    (f_slices_Grow_api_Cell v1).bind fun x9 =>
    iter (fun loop (s : (List Int) × Int) => f_slices_Concat_api_Cell_b1 t0 loop s.1 s.2) 1000000 (x9, (0 : Int)))
def f_slices_Concat_api_Cell (t0 : List (List Int)) : Option (List Int) :=
  iter (fun loop (s : Int × Int) => f_slices_Concat_api_Cell_b2 t0 loop s.1 s.2) 1000000 ((0 : Int), (0 : Int))
abbrev qZ3l (t0 : List (List Int)) (v2 : Int)  := ((t0.getD v2.toNat []).length : Int)
theorem f_slices_Concat_api_Cell_ok  {t0 : List (List Int)} {r : List Int} (H : f_slices_Concat_api_Cell t0 = some r) : QSpec Tryd.prog 83 [slA (eL (eI .u8)) t0] (slA (eI .u8) r) := by
  refine Spec.of_AW Tryd.func83 rfl (by simp [Tryd.ntmps83]) ?_
  rw [Tryd.ntmps83]
  unfold f_slices_Concat_api_Cell at H
  change AW _ _ _ [(0, slA (eL (eI .u8)) t0)] [] _
  refine AW.regionSeq ?_
  refine OpsW.seg 1 [0] [] [(0, slA (eL (eI .u8)) t0)] (by kernel_rfl) trivial ?_
  refine OpsW.nil ?_
  refine AW.regionSeq ?_
  refine OpsW.seg 1 [3, 0] [] [(3, .int .i64 0), (0, slA (eL (eI .u8)) t0)] (by kernel_rfl) trivial ?_
  refine OpsW.nil ?_
  refine AW.seq ?_
  refine AW.regionSeq ?_
  refine OpsW.seg 3 [11, 10, 9, 3, 0] [] [(11, .int .i64 0), (10, .int .i64 (t0.length : Int)), (9, slA (eL (eI .u8)) t0), (3, .int .i64 0), (0, slA (eL (eI .u8)) t0)] (by kernel_rfl) trivial ?_
  refine OpsW.nil ?_
  refine AW.block ?_
  refine AW.iterK (fun loop (s : Int × Int) => f_slices_Concat_api_Cell_b2 t0 loop s.1 s.2) r (fun (s : Int × Int) => [(0, slA (eL (eI .u8)) t0), (3, .int .i64 s.1), (9, slA (eL (eI .u8)) t0), (10, .int .i64 (t0.length : Int)), (11, .int .i64 s.2)]) (fun (s : Int × Int) => []) ?_ 1000000 ((0 : Int), (0 : Int)) H (StC.pure (.i5 .nil))
  intro loop3 s H
  obtain ⟨v1, v2⟩ := s
  change f_slices_Concat_api_Cell_b2 t0 loop3 v1 v2 = some r at H
  unfold f_slices_Concat_api_Cell_b2 at H
  change AW _ _ _ [(0, slA (eL (eI .u8)) t0), (3, .int .i64 v1), (9, slA (eL (eI .u8)) t0), (10, .int .i64 (t0.length : Int)), (11, .int .i64 v2)] [] _
  refine AW.regionSeq ?_
  refine OpsW.seg 1 [12, 0, 3, 9, 10, 11] [] [(12, .bool (decide (v2 < (t0.length : Int)))), (0, slA (eL (eI .u8)) t0), (3, .int .i64 v1), (9, slA (eL (eI .u8)) t0), (10, .int .i64 (t0.length : Int)), (11, .int .i64 v2)] (by kernel_rfl) trivial ?_
  refine OpsW.nil ?_
  refine AW.seq ?_
  refine AW.cond (b := decide (v2 < (t0.length : Int))) rfl (fun c4 => ?_) (fun c4 => ?_)
  · replace H := condT c4 H
    refine AW.skip ?_
    refine AW.seq ?_
    refine AW.block ?_
    refine AW.regionSeq ?_
    obtain ⟨g5, H⟩ := G_some H
    refine OpsW.seg 1 [13, 0, 3, 9, 10, 11] [0 ≤ v2 ∧ v2 < (t0.length : Int)] [(13, .ipt (t0.flatMap (eL (eI .u8))) (v2.toNat * 1)), (0, slA (eL (eI .u8)) t0), (3, .int .i64 v1), (9, slA (eL (eI .u8)) t0), (10, .int .i64 (t0.length : Int)), (11, .int .i64 v2)] (by kernel_rfl) ⟨g5, trivial⟩ ?_
    refine OpsW.asU (slA (eI .u8) (t0.getD v2.toNat [])) rfl rfl (T.load rfl trivial (by kernel_rfl) (fm_cell0 (eL (eI .u8)) 1 (fun _ => rfl) t0 [] v2.toNat (ltN g5) (fun a => .sl (a.flatMap (eI .u8)) a.length) (fun _ => rfl))) ?_
    refine OpsW.seg 1 [5, 0, 3, 9, 10, 11] [] [(5, slA (eI .u8) (t0.getD v2.toNat [])), (0, slA (eL (eI .u8)) t0), (3, .int .i64 v1), (9, slA (eL (eI .u8)) t0), (10, .int .i64 (t0.length : Int)), (11, .int .i64 v2)] (by kernel_rfl) trivial ?_
    refine OpsW.nil ?_
    refine AW.regionSeq ?_
    obtain ⟨g6, H⟩ := G_some H
    refine OpsW.seg 5 [3, 0, 9, 10, 11] [inR (v1 + (qZ3l t0 v2))] [(3, .int .i64 (v1 + (qZ3l t0 v2))), (0, slA (eL (eI .u8)) t0), (9, slA (eL (eI .u8)) t0), (10, .int .i64 (t0.length : Int)), (11, .int .i64 v2)] (by kernel_rfl) ⟨g6, trivial⟩ ?_
    refine OpsW.nil ?_
    refine AW.regionSeq ?_
    refine OpsW.seg 2 [20, 3, 0, 9, 10, 11] [] [(20, .bool (decide ((v1 + (qZ3l t0 v2)) < 0))), (3, .int .i64 (v1 + (qZ3l t0 v2))), (0, slA (eL (eI .u8)) t0), (9, slA (eL (eI .u8)) t0), (10, .int .i64 (t0.length : Int)), (11, .int .i64 v2)] (by kernel_rfl) trivial ?_
    refine OpsW.nil ?_
    refine AW.cond (b := decide ((v1 + (qZ3l t0 v2)) < 0)) rfl (fun c7 => ?_) (fun c7 => ?_)
    · replace H := condT c7 H
      cases H
    · replace H := condF c7 H
      refine AW.skip ?_
      refine AW.region ?_
      obtain ⟨g8, H⟩ := G_some H
      refine OpsW.seg 2 [11, 3, 0, 9, 10] [inR (v2 + 1)] [(11, .int .i64 (v2 + 1)), (3, .int .i64 (v1 + (qZ3l t0 v2))), (0, slA (eL (eI .u8)) t0), (9, slA (eL (eI .u8)) t0), (10, .int .i64 (t0.length : Int))] (by kernel_rfl) ⟨g8, trivial⟩ ?_
      refine OpsW.nil ?_
      show ∃ y, _ ∧ StC _ _ _ _
      exact ⟨(v1 + (qZ3l t0 v2), v2 + 1), H, (StC.pure (.i5 .nil))⟩
  · replace H := condF c4 H
    refine AW.exit ?_
    refine AW.regionSeq ?_
    refine OpsW.seg 1 [23, 0] [] [(23, .int .i64 v1), (0, slA (eL (eI .u8)) t0)] (by kernel_rfl) trivial ?_
    obtain ⟨x9, hx9, H⟩ := bindS H
    refine OpsW.call rfl rfl (by kernel_rfl) [] _ _ rfl (glAll_sound trivial) (.cons (.pur rfl) (.cons (.pur rfl) .nil)) (f_slices_Grow_api_Cell_own hx9) ?_
    rintro _ _ ⟨rfl, rfl⟩
    refine ⟨fresh_of (by kernel_rfl), .inl rfl, ?_⟩
    change OpsW _ _ _ _ [(24, .rsl 1000 0 0 x9.length), (23, .int .i64 v1), (0, slA (eL (eI .u8)) t0)] [(1000, rtA 0 42 1 (eI .u8) x9)] _
    refine OpsW.recast (env' := [(24, .rsl 600 0 0 x9.length), (23, .int .i64 v1), (0, slA (eL (eI .u8)) t0)]) (h' := [(600, rtA 0 42 1 (eI .u8) x9)]) (StC.mk (phi [(600, some 1000)]) (.old rfl rfl rfl rfl rfl (CstL.ims _) .nil) rfl (.cons (.rsl rfl rfl rfl rfl rfl rfl) (.i2 .nil))) ?_
    refine OpsW.seg 1 [6, 0] [] [(6, .rsl 600 0 0 x9.length), (0, slA (eL (eI .u8)) t0)] (by kernel_rfl) trivial ?_
    refine OpsW.recast (env' := [(6, .rsl 6 0 0 x9.length), (0, slA (eL (eI .u8)) t0)]) (h' := [(6, rtA 0 42 1 (eI .u8) x9)]) (StC.mk (phi [(6, some 600)]) (.old rfl rfl rfl rfl rfl (CstL.ims _) .nil) rfl (.cons (.rsl rfl rfl rfl rfl rfl rfl) (.cons .im .nil))) ?_
    refine OpsW.nil ?_
    refine AW.seq ?_
    refine AW.regionSeq ?_
    refine OpsW.seg 3 [27, 26, 25, 6] [] [(27, .int .i64 0), (26, .int .i64 (t0.length : Int)), (25, slA (eL (eI .u8)) t0), (6, .rsl 6 0 0 x9.length)] (by kernel_rfl) trivial ?_
    refine OpsW.nil ?_
    refine AW.block ?_
    refine AW.iterK (fun loop (s : (List Int) × Int) => f_slices_Concat_api_Cell_b1 t0 loop s.1 s.2) r (fun (s : (List Int) × Int) => [(6, .rsl 6 0 0 s.1.length), (25, slA (eL (eI .u8)) t0), (26, .int .i64 (t0.length : Int)), (27, .int .i64 s.2)]) (fun (s : (List Int) × Int) => [(6, rtA 0 42 1 (eI .u8) s.1)]) ?_ 1000000 (x9, (0 : Int)) H (StC.mk (phi [(6, some 6)]) (.old rfl rfl rfl rfl rfl (CstL.ims _) .nil) rfl (.cons (.rsl rfl rfl rfl rfl rfl rfl) (.i3 .nil)))
    intro loop12 s H
    obtain ⟨v10, v11⟩ := s
    change f_slices_Concat_api_Cell_b1 t0 loop12 v10 v11 = some r at H
    unfold f_slices_Concat_api_Cell_b1 at H
    change AW _ _ _ [(6, .rsl 6 0 0 v10.length), (25, slA (eL (eI .u8)) t0), (26, .int .i64 (t0.length : Int)), (27, .int .i64 v11)] [(6, rtA 0 42 1 (eI .u8) v10)] _
    refine AW.regionSeq ?_
    refine OpsW.seg 1 [28, 6, 25, 26, 27] [] [(28, .bool (decide (v11 < (t0.length : Int)))), (6, .rsl 6 0 0 v10.length), (25, slA (eL (eI .u8)) t0), (26, .int .i64 (t0.length : Int)), (27, .int .i64 v11)] (by kernel_rfl) trivial ?_
    refine OpsW.nil ?_
    refine AW.seq ?_
    refine AW.cond (b := decide (v11 < (t0.length : Int))) rfl (fun c13 => ?_) (fun c13 => ?_)
    · replace H := condT c13 H
      refine AW.skip ?_
      refine AW.seq ?_
      refine AW.block ?_
      refine AW.regionSeq ?_
      obtain ⟨g14, H⟩ := G_some H
      refine OpsW.seg 1 [29, 6, 25, 26, 27] [0 ≤ v11 ∧ v11 < (t0.length : Int)] [(29, .ipt (t0.flatMap (eL (eI .u8))) (v11.toNat * 1)), (6, .rsl 6 0 0 v10.length), (25, slA (eL (eI .u8)) t0), (26, .int .i64 (t0.length : Int)), (27, .int .i64 v11)] (by kernel_rfl) ⟨g14, trivial⟩ ?_
      refine OpsW.asU (slA (eI .u8) (t0.getD v11.toNat [])) rfl rfl (T.load rfl trivial (by kernel_rfl) (fm_cell0 (eL (eI .u8)) 1 (fun _ => rfl) t0 [] v11.toNat (ltN g14) (fun a => .sl (a.flatMap (eI .u8)) a.length) (fun _ => rfl))) ?_
      refine OpsW.seg 1 [8, 6, 25, 26, 27] [] [(8, slA (eI .u8) (t0.getD v11.toNat [])), (6, .rsl 6 0 0 v10.length), (25, slA (eL (eI .u8)) t0), (26, .int .i64 (t0.length : Int)), (27, .int .i64 v11)] (by kernel_rfl) trivial ?_
      refine OpsW.nil ?_
      refine AW.region ?_
      refine OpsW.seg 2 [32, 31, 6, 25, 26, 27] [] [(32, slA (eI .u8) (t0.getD v11.toNat [])), (31, .rsl 6 0 0 v10.length), (6, .rsl 6 0 0 v10.length), (25, slA (eL (eI .u8)) t0), (26, .int .i64 (t0.length : Int)), (27, .int .i64 v11)] (by kernel_rfl) trivial ?_
      obtain ⟨g15, H⟩ := G_some H
      refine OpsW.appendF (enc := eI .u8) (ys := t0.getD v11.toNat []) rfl rfl rfl E41 (fun _ => rfl) rfl rfl trivial (SrcA.typed (enc := eI .u8) (fun _ => rfl) (by kernel_rfl) (t0.getD v11.toNat [])) rfl g15 ?_
      refine OpsW.seg 1 [6, 25, 26, 27] [] [(6, .rsl 6 1 0 ((v10 ++ (t0.getD v11.toNat [])).length)), (25, slA (eL (eI .u8)) t0), (26, .int .i64 (t0.length : Int)), (27, .int .i64 v11)] (by kernel_rfl) trivial ?_
      refine OpsW.recast (env' := [(6, .rsl 6 0 0 ((v10 ++ (t0.getD v11.toNat [])).length)), (25, slA (eL (eI .u8)) t0), (26, .int .i64 (t0.length : Int)), (27, .int .i64 v11)]) (h' := [(6, rtA 0 42 1 (eI .u8) (v10 ++ (t0.getD v11.toNat [])))]) (StC.mk (phi [(6, some 6)]) (.old rfl rfl rfl rfl rfl (CstL.ims _) .nil) rfl (.cons (.rsl rfl rfl rfl rfl rfl rfl) (.i3 .nil))) ?_
      refine OpsW.nil ?_
      refine AW.region ?_
      obtain ⟨g16, H⟩ := G_some H
      refine OpsW.seg 2 [27, 6, 25, 26] [inR (v11 + 1)] [(27, .int .i64 (v11 + 1)), (6, .rsl 6 0 0 ((v10 ++ (t0.getD v11.toNat [])).length)), (25, slA (eL (eI .u8)) t0), (26, .int .i64 (t0.length : Int))] (by kernel_rfl) ⟨g16, trivial⟩ ?_
      refine OpsW.nil ?_
      show ∃ y, _ ∧ StC _ _ _ _
      exact ⟨(v10 ++ (t0.getD v11.toNat []), v11 + 1), H, (StC.mk (phi [(6, some 6)]) (.old rfl rfl rfl rfl rfl (CstL.ims _) .nil) rfl (.cons (.rsl rfl rfl rfl rfl rfl rfl) (.i3 .nil)))⟩
    · replace H := condF c13 H
      refine AW.exit ?_
      refine AW.regionSeq ?_
      refine OpsW.seg 2 [2] [] [(2, .rsl 6 0 0 v10.length)] (by kernel_rfl) trivial ?_
      refine OpsW.recast (env' := [(2, slA (eI .u8) v10)]) (h' := []) (StC.mk (phi []) .nil rfl (.cons (.frz rfl rfl rfl (frz_all (eI .u8) 1 (fun _ => rfl) v10) (fm_length (eI .u8) 1 (fun _ => rfl) v10) (phi_ne rfl)) .nil)) ?_
      refine OpsW.nil ?_
      obtain rfl := Option.some.inj H
      refine AW.recast (env' := [(2, slA (eI .u8) v10)]) (h' := []) (StC.pure (.cons .im .nil)) ?_
      refine AW.ret ?_
      try simp only [Ex.then, Ex.inBlock, Ex.noGoto, Ex.jump, reduceIte, Nat.reduceEqDiff, reduceCtorEq]
      refine Done.gen rfl (.tmp .nil) ?_
      show _ = _
      kernel_rfl
def f_number_join (t0 : List (List Int)) : Option (List Int) :=
  (f_slices_Concat_api_Cell t0).bind fun x1 =>
  some x1
theorem f_number_join_ok  {t0 : List (List Int)} {r : List Int} (H : f_number_join t0 = some r) : QSpec Tryd.prog 80 [slA (eL (eI .u8)) t0] (slA (eI .u8) r) := by
  refine Spec.of_AW Tryd.func80 rfl (by simp [Tryd.ntmps80]) ?_
  rw [Tryd.ntmps80]
  unfold f_number_join at H
  change AW _ _ _ [(0, slA (eL (eI .u8)) t0)] [] _
  refine AW.regionSeq ?_
  refine OpsW.seg 1 [0] [] [(0, slA (eL (eI .u8)) t0)] (by kernel_rfl) trivial ?_
  refine OpsW.nil ?_
  refine AW.regionSeq ?_
  refine OpsW.seg 1 [3] [] [(3, slA (eL (eI .u8)) t0)] (by kernel_rfl) trivial ?_
  obtain ⟨x1, hx1, H⟩ := bindS H
  refine OpsW.qcall rfl (by kernel_rfl) rfl rfl (glAll_sound trivial) (.cons (.pur rfl) .nil) (f_slices_Concat_api_Cell_ok hx1) rfl ?_
  refine OpsW.seg 1 [2] [] [(2, slA (eI .u8) x1)] (by kernel_rfl) trivial ?_
  refine OpsW.nil ?_
  obtain rfl := Option.some.inj H
  refine AW.recast (env' := [(2, slA (eI .u8) x1)]) (h' := []) (StC.pure (.cons .im .nil)) ?_
  refine AW.ret ?_
  try simp only [Ex.then, Ex.inBlock, Ex.noGoto, Ex.jump, reduceIte, Nat.reduceEqDiff, reduceCtorEq]
  refine Done.gen rfl (.tmp .nil) ?_
  show _ = _
  kernel_rfl
def f_number_Header_k1 (t0 : S_Header) (v2 : List Int) : Option ((List Int) × Int) :=
  (f_number_Page t0.Label t0.Back).bind fun x3 =>
  cond (x3.2 != (0 : Int)) (
    some ([], (190 : Int))) (
    G (inR (t0.Width - (v2.length : Int))) <|
    G (inR ((t0.Width - (v2.length : Int)) - (x3.1.length : Int))) <|
    G (0 ≤ ((t0.Width - (v2.length : Int)) - (x3.1.length : Int)) ∧ ((t0.Width - (v2.length : Int)) - (x3.1.length : Int)) ≤ ((t0.Width - (v2.length : Int)) - (x3.1.length : Int)) ∧ ((1 : Nat) : Int) * ((t0.Width - (v2.length : Int)) - (x3.1.length : Int)) ≤ 281474976710656 ∧ ((t0.Width - (v2.length : Int)) - (x3.1.length : Int)) ≤ 9223372036854775807) <|
    (f_number_join [v2, List.replicate ((t0.Width - (v2.length : Int)) - (x3.1.length : Int)).toNat (0 : Int), x3.1]).bind fun x8 =>
    some (x8, (0 : Int)))
def f_number_Header (t0 : S_Header) : Option ((List Int) × Int) :=
  cond (cond (decide (t0.Width < (24 : Int))) true (decide ((60 : Int) < t0.Width))) (
    some ([], (1 : Int))) (
    cond (cond (t0.Ink != (0 : Int)) true (t0.Part != (0 : Int))) (
      (f_number_Ink t0.Ink t0.Part).bind fun x10 =>
      cond (x10.2 != (0 : Int)) (
        some ([], (190 : Int))) (
        f_number_Header_k1 t0 x10.1)) (
      f_number_Header_k1 t0 []))
abbrev qZ3m (t0 : S_Header) : List AV := [.int .i64 t0.Width, .int .i64 t0.Label.N, .int .i64 t0.Label.K, .bool t0.Back, .int .i64 t0.Ink, .int .i64 t0.Part]
abbrev qZ3n (t0 : S_Header) (v2 : List Int) (x3 : ((List Int) × Int))  := ((t0.Width - (v2.length : Int)) - (x3.1.length : Int))
theorem f_number_Header_ok  {t0 : S_Header} {r : (List Int) × Int} (H : f_number_Header t0 = some r) : QSpec Tryd.prog 73 [.agg (qZ3m t0)] (.tup [slA (eI .u8) r.1, .int .i64 r.2]) := by
  refine Spec.of_AW Tryd.func73 rfl (by simp [Tryd.ntmps73]) ?_
  rw [Tryd.ntmps73]
  unfold f_number_Header at H
  change AW _ _ _ [(0, .agg (qZ3m t0))] [] _
  refine AW.regionSeq ?_
  refine OpsW.box rfl rfl rfl 1 rfl (okCb_sound (by kernel_rfl)) ?_
  change OpsW _ _ _ _ _ [(1, ⟨0, true, 86, 6, (qZ3m t0)⟩)] _
  refine OpsW.seg 2 [1] [] [(1, .ref 1 0 0)] (by kernel_rfl) trivial ?_
  refine OpsW.recast (env' := [(1, .ref 1 0 0)]) (h' := [(1, ⟨0, true, 86, 6, (qZ3m t0)⟩)]) (StC.mk (phi [(1, some 1)]) (.old rfl rfl rfl rfl rfl (.i6 .nil) .nil) rfl (.cons (.ref rfl rfl rfl rfl rfl) .nil)) ?_
  refine OpsW.nil ?_
  refine AW.seq ?_
  refine AW.regionSeq ?_
  refine OpsW.seg 8 [16, 1] [(!(decide (t0.Width < 24))) = true → (!(decide (t0.Width < 24))) = true, (!(decide (t0.Width < 24))) = true → (!(decide (t0.Width < 24))) = true, (decide (t0.Width < 24)) = false → (!(decide (t0.Width < 24))) = true] [(16, .bool (cond (decide (t0.Width < 24)) true (decide (60 < t0.Width)))), (1, .ref 1 0 0)] (by kernel_rfl) ⟨(fun h => h), (fun h => h), (fun h => by first | exact h | (simpa using h) | grind), trivial⟩ ?_
  refine OpsW.nil ?_
  refine AW.cond (b := cond (decide (t0.Width < 24)) true (decide (60 < t0.Width))) rfl (fun c1 => ?_) (fun c1 => ?_)
  · replace H := condT c1 H
    refine AW.regionSeq ?_
    refine OpsW.seg 2 [3, 2] [] [(3, .int .i64 1), (2, .im (.val (.slice none 0 0)))] (by kernel_rfl) trivial ?_
    refine OpsW.nil ?_
    obtain rfl := Option.some.inj H
    refine AW.recast (env' := [(2, slA (eI .u8) []), (3, .int .i64 1)]) (h' := []) (StC.pure (.cons .nil (.cons .im .nil))) ?_
    refine AW.ret ?_
    try simp only [Ex.then, Ex.inBlock, Ex.noGoto, Ex.jump, reduceIte, Nat.reduceEqDiff, reduceCtorEq]
    refine Done.gen rfl (.tmp (.tmp .nil)) ?_
    show _ = _
    kernel_rfl
  · replace H := condF c1 H
    refine AW.skip ?_
    refine AW.regionSeq ?_
    refine OpsW.seg 1 [4, 1] [] [(4, .im (.val (.slice none 0 0))), (1, .ref 1 0 0)] (by kernel_rfl) trivial ?_
    refine OpsW.nil ?_
    refine AW.joinK (fun (y : (List Int)) => f_number_Header_k1 t0 y) r (fun (y : (List Int)) => [(1, .ref 1 0 0), (4, slA (eI .u8) y)]) (fun (y : (List Int)) => [(1, ⟨0, true, 86, 6, (qZ3m t0)⟩)]) ?_ ?_
    · refine AW.regionSeq ?_
      refine OpsW.seg 8 [24, 4, 1] [(!(t0.Ink != 0)) = true → (!(t0.Ink != 0)) = true, (!(t0.Ink != 0)) = true → (!(t0.Ink != 0)) = true, (t0.Ink != 0) = false → (!(t0.Ink != 0)) = true] [(24, .bool (cond (t0.Ink != 0) true (t0.Part != 0))), (4, .im (.val (.slice none 0 0))), (1, .ref 1 0 0)] (by kernel_rfl) ⟨(fun h => h), (fun h => h), (fun h => by first | exact h | (simpa using h) | grind), trivial⟩ ?_
      refine OpsW.nil ?_
      refine AW.cond (b := cond (t0.Ink != 0) true (t0.Part != 0)) rfl (fun c9 => ?_) (fun c9 => ?_)
      · replace H := condT c9 H
        refine AW.regionSeq ?_
        refine OpsW.seg 4 [29, 27, 1] [] [(29, .int .i64 t0.Part), (27, .int .i64 t0.Ink), (1, .ref 1 0 0)] (by kernel_rfl) trivial ?_
        obtain ⟨x10, hx10, H⟩ := bindS H
        refine OpsW.qcall rfl (by kernel_rfl) rfl rfl (glAll_sound trivial) (.cons (.pur rfl) (.cons (.pur rfl) .nil)) (f_number_Ink_ok hx10) rfl ?_
        refine OpsW.seg 5 [6, 5, 1] [] [(6, .int .i64 x10.2), (5, slA (eI .u8) x10.1), (1, .ref 1 0 0)] (by kernel_rfl) trivial ?_
        refine OpsW.nil ?_
        refine AW.seq ?_
        refine AW.regionSeq ?_
        refine OpsW.seg 2 [34, 5, 1] [] [(34, .bool (x10.2 != 0)), (5, slA (eI .u8) x10.1), (1, .ref 1 0 0)] (by kernel_rfl) trivial ?_
        refine OpsW.nil ?_
        refine AW.cond (b := x10.2 != 0) rfl (fun c11 => ?_) (fun c11 => ?_)
        · replace H := condT c11 H
          refine AW.regionSeq ?_
          refine OpsW.seg 2 [3, 2] [] [(3, .int .i64 190), (2, .im (.val (.slice none 0 0)))] (by kernel_rfl) trivial ?_
          refine OpsW.nil ?_
          obtain rfl := Option.some.inj H
          refine AW.recast (env' := [(2, slA (eI .u8) []), (3, .int .i64 190)]) (h' := []) (StC.pure (.cons .nil (.cons .im .nil))) ?_
          refine AW.ret ?_
          try simp only [Ex.then, Ex.inBlock, Ex.noGoto, Ex.jump, reduceIte, Nat.reduceEqDiff, reduceCtorEq]
          refine Done.gen rfl (.tmp (.tmp .nil)) ?_
          show _ = _
          kernel_rfl
        · replace H := condF c11 H
          refine AW.skip ?_
          refine AW.region ?_
          refine OpsW.seg 2 [4, 1] [] [(4, slA (eI .u8) x10.1), (1, .ref 1 0 0)] (by kernel_rfl) trivial ?_
          refine OpsW.nil ?_
          show ∃ y, _ ∧ StC _ _ _ _
          exact ⟨x10.1, H, (StC.mk (phi [(1, some 1)]) (.old rfl rfl rfl rfl rfl (.i6 .nil) .nil) rfl (.cons (.ref rfl rfl rfl rfl rfl) (.cons .im .nil)))⟩
      · replace H := condF c9 H
        refine AW.skip ?_
        show ∃ y, _ ∧ StC _ _ _ _
        exact ⟨[], H, (StC.mk (phi [(1, some 1)]) (.old rfl rfl rfl rfl rfl (.i6 .nil) .nil) rfl (.cons (.ref rfl rfl rfl rfl rfl) (.cons .nil .nil)))⟩
    · intro v2 H
      change f_number_Header_k1 t0 v2 = some r at H
      unfold f_number_Header_k1 at H
      change AW _ _ _ [(1, .ref 1 0 0), (4, slA (eI .u8) v2)] [(1, ⟨0, true, 86, 6, (qZ3m t0)⟩)] _
      refine AW.regionSeq ?_
      refine OpsW.seg 4 [40, 38, 1, 4] [] [(40, .bool t0.Back), (38, .agg [.int .i64 t0.Label.N, .int .i64 t0.Label.K]), (1, .ref 1 0 0), (4, slA (eI .u8) v2)] (by kernel_rfl) trivial ?_
      obtain ⟨x3, hx3, H⟩ := bindS H
      refine OpsW.qcall rfl (by kernel_rfl) rfl rfl (glAll_sound trivial) (.cons (.pur rfl) (.cons (.pur rfl) .nil)) (f_number_Page_ok hx3) rfl ?_
      refine OpsW.seg 5 [8, 7, 1, 4] [] [(8, .int .i64 x3.2), (7, slA (eI .u8) x3.1), (1, .ref 1 0 0), (4, slA (eI .u8) v2)] (by kernel_rfl) trivial ?_
      refine OpsW.nil ?_
      refine AW.seq ?_
      refine AW.regionSeq ?_
      refine OpsW.seg 2 [45, 7, 1, 4] [] [(45, .bool (x3.2 != 0)), (7, slA (eI .u8) x3.1), (1, .ref 1 0 0), (4, slA (eI .u8) v2)] (by kernel_rfl) trivial ?_
      refine OpsW.nil ?_
      refine AW.cond (b := x3.2 != 0) rfl (fun c4 => ?_) (fun c4 => ?_)
      · replace H := condT c4 H
        refine AW.regionSeq ?_
        refine OpsW.seg 2 [3, 2] [] [(3, .int .i64 190), (2, .im (.val (.slice none 0 0)))] (by kernel_rfl) trivial ?_
        refine OpsW.nil ?_
        obtain rfl := Option.some.inj H
        refine AW.recast (env' := [(2, slA (eI .u8) []), (3, .int .i64 190)]) (h' := []) (StC.pure (.cons .nil (.cons .im .nil))) ?_
        refine AW.ret ?_
        try simp only [Ex.then, Ex.inBlock, Ex.noGoto, Ex.jump, reduceIte, Nat.reduceEqDiff, reduceCtorEq]
        refine Done.gen rfl (.tmp (.tmp .nil)) ?_
        show _ = _
        kernel_rfl
      · replace H := condF c4 H
        refine AW.skip ?_
        refine AW.regionSeq ?_
        obtain ⟨g5, H⟩ := G_some H
        obtain ⟨g6, H⟩ := G_some H
        refine OpsW.seg 9 [54, 46, 7] [inR (t0.Width - (v2.length : Int)), inR (qZ3n t0 v2 x3)] [(54, .int .i64 (qZ3n t0 v2 x3)), (46, slA (eI .u8) v2), (7, slA (eI .u8) x3.1)] (by kernel_rfl) ⟨g5, g6, trivial⟩ ?_
        obtain ⟨g7, H⟩ := G_some H
        refine OpsW.makeT (enc := eI .u8) (0 : Int) rfl rfl rfl 55 rfl E41 rfl rfl rfl g7 ?_
        refine OpsW.seg 1 [56, 55, 46] [] [(56, slA (eI .u8) x3.1), (55, .rsl 55 0 0 ((List.replicate (qZ3n t0 v2 x3).toNat (0 : Int)).length)), (46, slA (eI .u8) v2)] (by kernel_rfl) trivial ?_
        refine OpsW.recast (env' := [(56, slA (eI .u8) x3.1), (55, slA (eI .u8) (List.replicate (qZ3n t0 v2 x3).toNat (0 : Int))), (46, slA (eI .u8) v2)]) (h' := [(1, ⟨0, true, 86, 6, (qZ3m t0)⟩)]) (StC.mk (phi [(1, some 1)]) (.old rfl rfl rfl rfl rfl (.i6 .nil) .nil) rfl (.cons .im (.cons (.frz rfl rfl rfl (frz_all (eI .u8) 1 (fun _ => rfl) (List.replicate (qZ3n t0 v2 x3).toNat (0 : Int))) (fm_length (eI .u8) 1 (fun _ => rfl) (List.replicate (qZ3n t0 v2 x3).toNat (0 : Int))) (phi_ne rfl)) (.cons .im .nil)))) ?_
        refine OpsW.buildTI (enc := eL (eI .u8)) [v2, List.replicate (qZ3n t0 v2 x3).toNat (0 : Int), x3.1] rfl rfl rfl E36 (fun _ => rfl) (by decide) ⟨trivial, by kernel_rfl, by kernel_rfl, by kernel_rfl, rfl⟩ ?_
        obtain ⟨x8, hx8, H⟩ := bindS H
        refine OpsW.qcall rfl (by kernel_rfl) rfl rfl (glAll_sound trivial) (.cons (.pur rfl) .nil) (f_number_join_ok hx8) rfl ?_
        refine OpsW.seg 2 [3, 2] [] [(3, .int .i64 0), (2, slA (eI .u8) x8)] (by kernel_rfl) trivial ?_
        refine OpsW.nil ?_
        obtain rfl := Option.some.inj H
        refine AW.recast (env' := [(2, slA (eI .u8) x8), (3, .int .i64 0)]) (h' := []) (StC.pure (.i2 .nil)) ?_
        refine AW.ret ?_
        try simp only [Ex.then, Ex.inBlock, Ex.noGoto, Ex.jump, reduceIte, Nat.reduceEqDiff, reduceCtorEq]
        refine Done.gen rfl (.tmp (.tmp .nil)) ?_
        show _ = _
        kernel_rfl
def f_slices_Equal_api_Cell_b1 (t0 : List Int) (t1 : List Int) (loop3 : (Int) → Option Bool) (v2 : Int) : Option Bool :=
  cond (decide (v2 < (t0.length : Int))) (
    G (0 ≤ v2 ∧ v2 < (t0.length : Int)) <|
    G (0 ≤ v2 ∧ v2 < (t1.length : Int)) <|
    cond ((t0.getD v2.toNat (0 : Int)) != (t1.getD v2.toNat (0 : Int))) (
      some false) (
      G (inR (v2 + (1 : Int))) <|
      loop3 (v2 + (1 : Int)))) (
    some true)
def f_slices_Equal_api_Cell (t0 : List Int) (t1 : List Int) : Option Bool :=
  cond ((t0.length : Int) != (t1.length : Int)) (
    some false) (
    iter (fun loop (s : Int) => f_slices_Equal_api_Cell_b1 t0 t1 loop s) 1000000 (0 : Int))
theorem f_slices_Equal_api_Cell_ok  {t0 : List Int} {t1 : List Int} {r : Bool} (H : f_slices_Equal_api_Cell t0 t1 = some r) : QSpec Tryd.prog 74 [slA (eI .u8) t0, slA (eI .u8) t1] (.bool r) := by
  refine Spec.of_AW Tryd.func74 rfl (by simp [Tryd.ntmps74]) ?_
  rw [Tryd.ntmps74]
  unfold f_slices_Equal_api_Cell at H
  change AW _ _ _ [(0, slA (eI .u8) t0), (1, slA (eI .u8) t1)] [] _
  refine AW.regionSeq ?_
  refine OpsW.seg 1 [0, 1] [] [(0, slA (eI .u8) t0), (1, slA (eI .u8) t1)] (by kernel_rfl) trivial ?_
  refine OpsW.nil ?_
  refine AW.seq ?_
  refine AW.regionSeq ?_
  refine OpsW.seg 5 [10, 0, 1] [] [(10, .bool ((t0.length : Int) != (t1.length : Int))), (0, slA (eI .u8) t0), (1, slA (eI .u8) t1)] (by kernel_rfl) trivial ?_
  refine OpsW.nil ?_
  refine AW.cond (b := (t0.length : Int) != (t1.length : Int)) rfl (fun c1 => ?_) (fun c1 => ?_)
  · replace H := condT c1 H
    refine AW.regionSeq ?_
    refine OpsW.seg 1 [4] [] [(4, .bool false)] (by kernel_rfl) trivial ?_
    refine OpsW.nil ?_
    obtain rfl := Option.some.inj H
    refine AW.recast (env' := [(4, .bool false)]) (h' := []) (StC.pure (.cons .im .nil)) ?_
    refine AW.ret ?_
    try simp only [Ex.then, Ex.inBlock, Ex.noGoto, Ex.jump, reduceIte, Nat.reduceEqDiff, reduceCtorEq]
    refine Done.gen rfl (.tmp .nil) ?_
    show _ = _
    kernel_rfl
  · replace H := condF c1 H
    refine AW.skip ?_
    refine AW.seq ?_
    refine AW.regionSeq ?_
    refine OpsW.seg 3 [13, 12, 0, 1] [] [(13, .int .i64 0), (12, .int .i64 (t0.length : Int)), (0, slA (eI .u8) t0), (1, slA (eI .u8) t1)] (by kernel_rfl) trivial ?_
    refine OpsW.nil ?_
    refine AW.block ?_
    refine AW.iterK (fun loop (s : Int) => f_slices_Equal_api_Cell_b1 t0 t1 loop s) r (fun (s : Int) => [(0, slA (eI .u8) t0), (1, slA (eI .u8) t1), (12, .int .i64 (t0.length : Int)), (13, .int .i64 s)]) (fun (s : Int) => []) ?_ 1000000 (0 : Int) H (StC.pure (.i4 .nil))
    intro loop3 v2 H
    change f_slices_Equal_api_Cell_b1 t0 t1 loop3 v2 = some r at H
    unfold f_slices_Equal_api_Cell_b1 at H
    change AW _ _ _ [(0, slA (eI .u8) t0), (1, slA (eI .u8) t1), (12, .int .i64 (t0.length : Int)), (13, .int .i64 v2)] [] _
    refine AW.regionSeq ?_
    refine OpsW.seg 1 [14, 0, 1, 12, 13] [] [(14, .bool (decide (v2 < (t0.length : Int)))), (0, slA (eI .u8) t0), (1, slA (eI .u8) t1), (12, .int .i64 (t0.length : Int)), (13, .int .i64 v2)] (by kernel_rfl) trivial ?_
    refine OpsW.nil ?_
    refine AW.seq ?_
    refine AW.cond (b := decide (v2 < (t0.length : Int))) rfl (fun c4 => ?_) (fun c4 => ?_)
    · replace H := condT c4 H
      refine AW.skip ?_
      refine AW.seq ?_
      refine AW.block ?_
      refine AW.regionSeq ?_
      refine OpsW.seg 2 [5, 0, 1, 12, 13] [] [(5, .int .i64 v2), (0, slA (eI .u8) t0), (1, slA (eI .u8) t1), (12, .int .i64 (t0.length : Int)), (13, .int .i64 v2)] (by kernel_rfl) trivial ?_
      refine OpsW.nil ?_
      refine AW.drawSeq Tryd.checked.mixed (by kernel_rfl) ?_
      obtain ⟨g5, H⟩ := G_some H
      refine QOps.seg (N := 26) 3 [0 ≤ v2 ∧ v2 < (t0.length : Int)] [(18, .ipt (t0.flatMap (eI .u8)) (v2.toNat * 1)), (17, .int .i64 v2), (16, slA (eI .u8) t0), (5, .int .i64 v2), (0, slA (eI .u8) t0), (1, slA (eI .u8) t1), (12, .int .i64 (t0.length : Int)), (13, .int .i64 v2)] (by kernel_rfl) ⟨g5, trivial⟩ ?_
      refine QOps.asU (.int .u8 (t0.getD v2.toNat 0)) rfl (T.load rfl trivial (by kernel_rfl) (fm_cell0 (eI .u8) 1 (fun _ => rfl) t0 (0 : Int) v2.toNat (ltN g5) (fun a => .val (.int .u8 a)) (fun _ => rfl))) ?_
      obtain ⟨g6, H⟩ := G_some H
      refine QOps.seg (N := 26) 3 [0 ≤ v2 ∧ v2 < (t1.length : Int)] [(22, .ipt (t1.flatMap (eI .u8)) (v2.toNat * 1)), (21, .int .i64 v2), (20, slA (eI .u8) t1), (19, .int .u8 (t0.getD v2.toNat 0)), (18, .ipt (t0.flatMap (eI .u8)) (v2.toNat * 1)), (17, .int .i64 v2), (16, slA (eI .u8) t0), (5, .int .i64 v2), (0, slA (eI .u8) t0), (1, slA (eI .u8) t1), (12, .int .i64 (t0.length : Int)), (13, .int .i64 v2)] (by kernel_rfl) ⟨g6, trivial⟩ ?_
      refine QOps.asU (.int .u8 (t1.getD v2.toNat 0)) rfl (T.load rfl trivial (by kernel_rfl) (fm_cell0 (eI .u8) 1 (fun _ => rfl) t1 (0 : Int) v2.toNat (ltN g6) (fun a => .val (.int .u8 a)) (fun _ => rfl))) ?_
      refine QOps.seg (N := 26) 1 [] [(24, .bool ((t0.getD v2.toNat 0) != (t1.getD v2.toNat 0))), (23, .int .u8 (t1.getD v2.toNat 0)), (22, .ipt (t1.flatMap (eI .u8)) (v2.toNat * 1)), (21, .int .i64 v2), (20, slA (eI .u8) t1), (19, .int .u8 (t0.getD v2.toNat 0)), (18, .ipt (t0.flatMap (eI .u8)) (v2.toNat * 1)), (17, .int .i64 v2), (16, slA (eI .u8) t0), (5, .int .i64 v2), (0, slA (eI .u8) t0), (1, slA (eI .u8) t1), (12, .int .i64 (t0.length : Int)), (13, .int .i64 v2)] (by kernel_rfl) trivial ?_
      refine QOps.nil ?_
      refine AW.trim [24, 0, 1, 12, 13] [(24, .bool ((t0.getD v2.toNat 0) != (t1.getD v2.toNat 0))), (0, slA (eI .u8) t0), (1, slA (eI .u8) t1), (12, .int .i64 (t0.length : Int)), (13, .int .i64 v2)] (by kernel_rfl) ?_
      refine AW.cond (b := (t0.getD v2.toNat 0) != (t1.getD v2.toNat 0)) rfl (fun c7 => ?_) (fun c7 => ?_)
      · replace H := condT c7 H
        refine AW.regionSeq ?_
        refine OpsW.seg 1 [4] [] [(4, .bool false)] (by kernel_rfl) trivial ?_
        refine OpsW.nil ?_
        obtain rfl := Option.some.inj H
        refine AW.recast (env' := [(4, .bool false)]) (h' := []) (StC.pure (.cons .im .nil)) ?_
        refine AW.ret ?_
        try simp only [Ex.then, Ex.inBlock, Ex.noGoto, Ex.jump, reduceIte, Nat.reduceEqDiff, reduceCtorEq]
        refine Done.gen rfl (.tmp .nil) ?_
        show _ = _
        kernel_rfl
      · replace H := condF c7 H
        refine AW.skip ?_
        refine AW.region ?_
        obtain ⟨g8, H⟩ := G_some H
        refine OpsW.seg 2 [13, 0, 1, 12] [inR (v2 + 1)] [(13, .int .i64 (v2 + 1)), (0, slA (eI .u8) t0), (1, slA (eI .u8) t1), (12, .int .i64 (t0.length : Int))] (by kernel_rfl) ⟨g8, trivial⟩ ?_
        refine OpsW.nil ?_
        show ∃ y, _ ∧ StC _ _ _ _
        exact ⟨v2 + 1, H, (StC.pure (.i4 .nil))⟩
    · replace H := condF c4 H
      refine AW.exit ?_
      refine AW.regionSeq ?_
      refine OpsW.seg 1 [4] [] [(4, .bool true)] (by kernel_rfl) trivial ?_
      refine OpsW.nil ?_
      obtain rfl := Option.some.inj H
      refine AW.recast (env' := [(4, .bool true)]) (h' := []) (StC.pure (.cons .im .nil)) ?_
      refine AW.ret ?_
      try simp only [Ex.then, Ex.inBlock, Ex.noGoto, Ex.jump, reduceIte, Nat.reduceEqDiff, reduceCtorEq]
      refine Done.gen rfl (.tmp .nil) ?_
      show _ = _
      kernel_rfl
def f_number_ReadHeader_k1 (t0 : List Int) (v16 : S_Header) (v17 : S_Header) : Option (S_Header × Int) :=
  (f_number_Header v17).bind fun x18 =>
  (cond (!(x18.2 != (0 : Int))) (f_slices_Equal_api_Cell x18.1 t0) (some false)).bind fun x19 =>
  cond (cond (x18.2 != (0 : Int)) true (!x19)) (
    some ((⟨(0 : Int), (⟨(0 : Int), (0 : Int)⟩ : S_Label), false, (0 : Int), (0 : Int)⟩ : S_Header), (190 : Int))) (
    some (v17, (0 : Int)))
def f_number_ReadHeader_k2 (t0 : List Int) (v4 : Int) (v9 : S_Header) (v10 : S_Header) : Option (S_Header × Int) :=
  G (inR (v4 + (1 : Int))) <|
  G (0 ≤ (v4 + (1 : Int)) ∧ (v4 + (1 : Int)) ≤ (t0.length : Int)) <|
  (f_number_Read (t0.drop ((v4 + (1 : Int)).toNat))).bind fun x13 =>
  G (inR (x13.1 + (1 : Int))) <|
  G (inR (Int.tdiv (x13.1 + (1 : Int)) (2 : Int))) <|
  G (0 ≤ x13.2.1 ∧ x13.2.1 ≤ ((t0.drop ((v4 + (1 : Int)).toNat)).length : Int)) <|
  cond ((((t0.drop ((v4 + (1 : Int)).toNat)).drop x13.2.1.toNat).length : Int) == (2 : Int)) (
    G (0 ≤ (1 : Int) ∧ (1 : Int) < (((t0.drop ((v4 + (1 : Int)).toNat)).drop x13.2.1.toNat).length : Int)) <|
    (f_number_letter (((t0.drop ((v4 + (1 : Int)).toNat)).drop x13.2.1.toNat).getD (1 : Int).toNat (0 : Int))).bind fun x24 =>
    f_number_ReadHeader_k1 t0 v9 (⟨v10.Width, (⟨Int.tdiv (x13.1 + (1 : Int)) (2 : Int), x24⟩ : S_Label), (Int.tmod x13.1 (2 : Int)) == (0 : Int), v10.Ink, v10.Part⟩ : S_Header)) (
    f_number_ReadHeader_k1 t0 v9 (⟨v10.Width, (⟨Int.tdiv (x13.1 + (1 : Int)) (2 : Int), v10.Label.K⟩ : S_Label), (Int.tmod x13.1 (2 : Int)) == (0 : Int), v10.Ink, v10.Part⟩ : S_Header))
def f_number_ReadHeader_k3 (t0 : List Int) (v4 : Int) (v27 : S_Header) (v28 : S_Header) (v29 : List Int) : Option (S_Header × Int) :=
  (f_number_Read v29).bind fun x30 =>
  f_number_ReadHeader_k2 t0 v4 v27 (⟨v28.Width, v28.Label, v28.Back, x30.1, v28.Part⟩ : S_Header)
def f_number_ReadHeader_b1 (t0 : List Int) (x1 : Int) (loop5 : (Int) → Option (S_Header × Int)) (v4 : Int) : Option (S_Header × Int) :=
  G (0 ≤ v4 ∧ v4 < (t0.length : Int)) <|
  cond ((t0.getD v4.toNat (0 : Int)) != (0 : Int)) (
    G (inR (v4 - (1 : Int))) <|
    loop5 (v4 - (1 : Int))) (
    G (0 ≤ x1 ∧ x1 ≤ (t0.length : Int)) <|
    cond (decide ((0 : Int) < ((t0.take x1.toNat).length : Int))) (
      G ((decide ((2 : Int) < ((t0.take x1.toNat).length : Int))) = true → (0 ≤ (0 : Int) ∧ (0 : Int) < ((t0.take x1.toNat).length : Int))) <|
      cond (cond (decide ((2 : Int) < ((t0.take x1.toNat).length : Int))) (((t0.take x1.toNat).getD (0 : Int).toNat (0 : Int)) == (48 : Int)) false) (
        G (0 ≤ (1 : Int) ∧ (1 : Int) < ((t0.take x1.toNat).length : Int)) <|
        (f_number_letter ((t0.take x1.toNat).getD (1 : Int).toNat (0 : Int))).bind fun x34 =>
        G (0 ≤ (2 : Int) ∧ (2 : Int) ≤ ((t0.take x1.toNat).length : Int)) <|
        f_number_ReadHeader_k3 t0 v4 (⟨(0 : Int), (⟨(0 : Int), (0 : Int)⟩ : S_Label), false, (0 : Int), (0 : Int)⟩ : S_Header) (⟨(t0.length : Int), (⟨(0 : Int), (0 : Int)⟩ : S_Label), false, (0 : Int), x34⟩ : S_Header) ((t0.take x1.toNat).drop ((2 : Int).toNat))) (
        f_number_ReadHeader_k3 t0 v4 (⟨(0 : Int), (⟨(0 : Int), (0 : Int)⟩ : S_Label), false, (0 : Int), (0 : Int)⟩ : S_Header) (⟨(t0.length : Int), (⟨(0 : Int), (0 : Int)⟩ : S_Label), false, (0 : Int), (0 : Int)⟩ : S_Header) (t0.take x1.toNat))) (
      f_number_ReadHeader_k2 t0 v4 (⟨(0 : Int), (⟨(0 : Int), (0 : Int)⟩ : S_Label), false, (0 : Int), (0 : Int)⟩ : S_Header) (⟨(t0.length : Int), (⟨(0 : Int), (0 : Int)⟩ : S_Label), false, (0 : Int), (0 : Int)⟩ : S_Header)))
def f_number_ReadHeader (t0 : List Int) : Option (S_Header × Int) :=
  (f_slices_Index_api_Cell t0 (0 : Int)).bind fun x1 =>
  cond (decide (x1 < (0 : Int))) (
    some ((⟨(0 : Int), (⟨(0 : Int), (0 : Int)⟩ : S_Label), false, (0 : Int), (0 : Int)⟩ : S_Header), (190 : Int))) (
    G (inR ((t0.length : Int) - (1 : Int))) <|
    iter (fun loop (s : Int) => f_number_ReadHeader_b1 t0 x1 loop s) 1000000 ((t0.length : Int) - (1 : Int)))
abbrev qZ3o : List AV := [.int .i64 0, .int .i64 0, .int .i64 0, .bool false, .int .i64 0, .int .i64 0]
abbrev qZ3p (v17 : S_Header) : List AV := [.int .i64 v17.Width, .int .i64 v17.Label.N, .int .i64 v17.Label.K, .bool v17.Back, .int .i64 v17.Ink, .int .i64 v17.Part]
abbrev qZ3q (v9 : S_Header) : List AV := [.int .i64 v9.Width, .int .i64 v9.Label.N, .int .i64 v9.Label.K, .bool v9.Back, .int .i64 v9.Ink, .int .i64 v9.Part]
abbrev qZ3r (t0 : List Int) (x1 : Int)  := (decide ((2 : Int) < ((t0.take x1.toNat).length : Int)))
abbrev qZ3s (t0 : List Int) (v4 : Int)  := (t0.drop ((v4 + (1 : Int)).toNat))
abbrev qZ3t (t0 : List Int) : List AV := [.int .i64 (t0.length : Int), .int .i64 0, .int .i64 0, .bool false, .int .i64 0, .int .i64 0]
abbrev qZ3u (v10 : S_Header) (x13 : (Int × Int × Int)) : List AV := [.int .i64 v10.Width, .int .i64 (Int.tdiv (x13.1 + (1 : Int)) (2 : Int)), .int .i64 v10.Label.K, .bool ((Int.tmod x13.1 (2 : Int)) == (0 : Int)), .int .i64 v10.Ink, .int .i64 v10.Part]
abbrev qZ3v (v27 : S_Header) : List AV := [.int .i64 v27.Width, .int .i64 v27.Label.N, .int .i64 v27.Label.K, .bool v27.Back, .int .i64 v27.Ink, .int .i64 v27.Part]
abbrev qZ3w (v10 : S_Header) : List AV := [.int .i64 v10.Width, .int .i64 v10.Label.N, .int .i64 v10.Label.K, .bool v10.Back, .int .i64 v10.Ink, .int .i64 v10.Part]
abbrev qZ3x (v16 : S_Header) : List AV := [.int .i64 v16.Width, .int .i64 v16.Label.N, .int .i64 v16.Label.K, .bool v16.Back, .int .i64 v16.Ink, .int .i64 v16.Part]
abbrev qZ3y  := (⟨(0 : Int), (⟨(0 : Int), (0 : Int)⟩ : S_Label), false, (0 : Int), (0 : Int)⟩ : S_Header)
abbrev qZ3z (x13 : (Int × Int × Int))  := (Int.tdiv (x13.1 + (1 : Int)) (2 : Int))
theorem f_number_ReadHeader_ok  {t0 : List Int} {r : S_Header × Int} (H : f_number_ReadHeader t0 = some r) : QSpec Tryd.prog 62 [slA (eI .u8) t0] (.tup [.agg [.int .i64 r.1.Width, .int .i64 r.1.Label.N, .int .i64 r.1.Label.K, .bool r.1.Back, .int .i64 r.1.Ink, .int .i64 r.1.Part], .int .i64 r.2]) := by
  refine Spec.of_AW Tryd.func62 rfl (by simp [Tryd.ntmps62]) ?_
  rw [Tryd.ntmps62]
  unfold f_number_ReadHeader at H
  change AW _ _ _ [(0, slA (eI .u8) t0)] [] _
  refine AW.regionSeq ?_
  refine OpsW.alloc' rfl rfl rfl 2 rfl (by kernel_rfl : zc Tryd.prog 86 = some [.int .i64 0, .int .i64 0, .int .i64 0, .bool false, .int .i64 0, .int .i64 0]) (by kernel_rfl) ?_
  refine OpsW.seg 1 [2, 0] [] [(2, .ref 2 0 0), (0, slA (eI .u8) t0)] (by kernel_rfl) trivial ?_
  refine OpsW.recast (env' := [(2, .ref 2 0 0), (0, slA (eI .u8) t0)]) (h' := [(2, ⟨0, true, 86, 6, qZ3o⟩)]) (StC.mk (phi [(2, some 2)]) (.old rfl rfl rfl rfl rfl (.i6 .nil) .nil) rfl (.cons (.ref rfl rfl rfl rfl rfl) (.cons .im .nil))) ?_
  refine OpsW.nil ?_
  refine AW.regionSeq ?_
  refine OpsW.seg 1 [14, 2, 0] [] [(14, slA (eI .u8) t0), (2, .ref 2 0 0), (0, slA (eI .u8) t0)] (by kernel_rfl) trivial ?_
  obtain ⟨x1, hx1, H⟩ := bindS H
  refine OpsW.qcall rfl (by kernel_rfl) rfl rfl (glAll_sound trivial) (.cons (.pur rfl) (.cons (.pur rfl) .nil)) (f_slices_Index_api_Cell_ok hx1) rfl ?_
  refine OpsW.seg 1 [4, 2, 0] [] [(4, .int .i64 x1), (2, .ref 2 0 0), (0, slA (eI .u8) t0)] (by kernel_rfl) trivial ?_
  refine OpsW.nil ?_
  refine AW.seq ?_
  refine AW.regionSeq ?_
  refine OpsW.seg 2 [17, 4, 2, 0] [] [(17, .bool (decide (x1 < (0 : Int)))), (4, .int .i64 x1), (2, .ref 2 0 0), (0, slA (eI .u8) t0)] (by kernel_rfl) trivial ?_
  refine OpsW.nil ?_
  refine AW.cond (b := decide (x1 < (0 : Int))) rfl (fun c2 => ?_) (fun c2 => ?_)
  · replace H := condT c2 H
    refine AW.regionSeq ?_
    refine OpsW.seg 1 [18, 2] [] [(18, .agg qZ3o), (2, .ref 2 0 0)] (by kernel_rfl) trivial ?_
    refine OpsW.store rfl rfl rfl rfl trivial trivial rfl rfl rfl (by kernel_rfl) (okCb_sound (by kernel_rfl)) (Nat.le_of_ble_eq_true (by kernel_rfl)) ?_
    change OpsW _ _ _ _ _ [(2, ⟨0, true, 86, 6, qZ3o⟩), (2, ⟨0, true, 86, 6, qZ3o⟩)] _
    refine OpsW.seg 1 [3, 2] [] [(3, .int .i64 190), (2, .ref 2 0 0)] (by kernel_rfl) trivial ?_
    refine OpsW.recast (env' := [(3, .int .i64 190), (2, .ref 2 0 0)]) (h' := [(2, ⟨0, true, 86, 6, qZ3o⟩)]) (StC.mk (phi [(2, some 2)]) (.old rfl rfl rfl rfl rfl (.i6 .nil) .nil) rfl (.cons .im (.cons (.ref rfl rfl rfl rfl rfl) .nil))) ?_
    refine OpsW.nil ?_
    obtain rfl := Option.some.inj H
    refine AW.recast (env' := [(2, .ref 2 0 0), (3, .int .i64 190)]) (h' := [(2, ⟨0, true, 86, 6, qZ3o⟩)]) (StC.mk (phi [(2, some 2)]) (.old rfl rfl rfl rfl rfl (.i6 .nil) .nil) rfl (.cons (.ref rfl rfl rfl rfl rfl) (.cons .im .nil))) ?_
    refine AW.ret ?_
    try simp only [Ex.then, Ex.inBlock, Ex.noGoto, Ex.jump, reduceIte, Nat.reduceEqDiff, reduceCtorEq]
    refine Done.gen rfl (.cell rfl (by kernel_rfl) (.tmp .nil)) ?_
    show _ = _
    kernel_rfl
  · replace H := condF c2 H
    refine AW.skip ?_
    refine AW.regionSeq ?_
    obtain ⟨g3, H⟩ := G_some H
    refine OpsW.seg 4 [5, 4, 2, 0] [inR ((t0.length : Int) - (1 : Int))] [(5, .int .i64 ((t0.length : Int) - (1 : Int))), (4, .int .i64 x1), (2, .ref 2 0 0), (0, slA (eI .u8) t0)] (by kernel_rfl) ⟨g3, trivial⟩ ?_
    refine OpsW.nil ?_
    refine AW.seq ?_
    refine AW.block ?_
    refine AW.iterK (fun loop (s : Int) => f_number_ReadHeader_b1 t0 x1 loop s) r (fun (s : Int) => [(0, slA (eI .u8) t0), (2, .ref 2 0 0), (4, .int .i64 x1), (5, .int .i64 s)]) (fun (s : Int) => [(2, ⟨0, true, 86, 6, qZ3o⟩)]) ?_ 1000000 ((t0.length : Int) - (1 : Int)) H (StC.mk (phi [(2, some 2)]) (.old rfl rfl rfl rfl rfl (.i6 .nil) .nil) rfl (.cons .im (.cons (.ref rfl rfl rfl rfl rfl) (.i2 .nil))))
    intro loop5 v4 H
    change f_number_ReadHeader_b1 t0 x1 loop5 v4 = some r at H
    unfold f_number_ReadHeader_b1 at H
    change AW _ _ _ [(0, slA (eI .u8) t0), (2, .ref 2 0 0), (4, .int .i64 x1), (5, .int .i64 v4)] [(2, ⟨0, true, 86, 6, qZ3o⟩)] _
    refine AW.seq ?_
    refine AW.regionSeq ?_
    obtain ⟨g6, H⟩ := G_some H
    refine OpsW.seg 3 [24, 0, 2, 4, 5] [0 ≤ v4 ∧ v4 < (t0.length : Int)] [(24, .ipt (t0.flatMap (eI .u8)) (v4.toNat * 1)), (0, slA (eI .u8) t0), (2, .ref 2 0 0), (4, .int .i64 x1), (5, .int .i64 v4)] (by kernel_rfl) ⟨g6, trivial⟩ ?_
    refine OpsW.asU (.int .u8 (t0.getD v4.toNat (0 : Int))) rfl rfl (T.load rfl trivial (by kernel_rfl) (fm_cell0 (eI .u8) 1 (fun _ => rfl) t0 (0 : Int) v4.toNat (ltN g6) (fun a => .val (.int .u8 a)) (fun _ => rfl))) ?_
    refine OpsW.seg 1 [26, 0, 2, 4, 5] [] [(26, .bool ((t0.getD v4.toNat (0 : Int)) != (0 : Int))), (0, slA (eI .u8) t0), (2, .ref 2 0 0), (4, .int .i64 x1), (5, .int .i64 v4)] (by kernel_rfl) trivial ?_
    refine OpsW.nil ?_
    refine AW.cond (b := (t0.getD v4.toNat (0 : Int)) != (0 : Int)) rfl (fun c7 => ?_) (fun c7 => ?_)
    · replace H := condT c7 H
      refine AW.skip ?_
      refine AW.block ?_
      refine AW.region ?_
      obtain ⟨g8, H⟩ := G_some H
      refine OpsW.seg 3 [5, 0, 2, 4] [inR (v4 - (1 : Int))] [(5, .int .i64 (v4 - (1 : Int))), (0, slA (eI .u8) t0), (2, .ref 2 0 0), (4, .int .i64 x1)] (by kernel_rfl) ⟨g8, trivial⟩ ?_
      refine OpsW.nil ?_
      show ∃ y, _ ∧ StC _ _ _ _
      exact ⟨v4 - (1 : Int), H, (StC.mk (phi [(2, some 2)]) (.old rfl rfl rfl rfl rfl (.i6 .nil) .nil) rfl (.cons .im (.cons (.ref rfl rfl rfl rfl rfl) (.i2 .nil))))⟩
    · replace H := condF c7 H
      refine AW.exit ?_
      refine AW.regionSeq ?_
      refine OpsW.seg 3 [31, 0, 2, 4, 5] [] [(31, .agg (qZ3t t0)), (0, slA (eI .u8) t0), (2, .ref 2 0 0), (4, .int .i64 x1), (5, .int .i64 v4)] (by kernel_rfl) trivial ?_
      refine OpsW.alloc' rfl rfl rfl 6 rfl (by kernel_rfl : zc Tryd.prog 86 = some [.int .i64 0, .int .i64 0, .int .i64 0, .bool false, .int .i64 0, .int .i64 0]) (by kernel_rfl) ?_
      refine OpsW.store rfl rfl rfl rfl trivial trivial rfl rfl rfl (by kernel_rfl) (okCb_sound (by kernel_rfl)) (Nat.le_of_ble_eq_true (by kernel_rfl)) ?_
      change OpsW _ _ _ _ _ [(6, ⟨0, true, 86, 6, (qZ3t t0)⟩), (6, ⟨0, true, 86, 6, qZ3o⟩), (2, ⟨0, true, 86, 6, qZ3o⟩)] _
      refine OpsW.seg 0 [6, 0, 2, 4, 5] [] [(6, .ref 6 0 0), (0, slA (eI .u8) t0), (2, .ref 2 0 0), (4, .int .i64 x1), (5, .int .i64 v4)] (by kernel_rfl) trivial ?_
      refine OpsW.recast (env' := [(6, .ref 6 0 0), (0, slA (eI .u8) t0), (2, .ref 2 0 0), (4, .int .i64 x1), (5, .int .i64 v4)]) (h' := [(2, ⟨0, true, 86, 6, qZ3o⟩), (6, ⟨0, true, 86, 6, (qZ3t t0)⟩)]) (StC.mk (phi [(2, some 2), (6, some 6)]) (.old rfl rfl rfl rfl rfl (.i6 .nil) (.old rfl rfl rfl rfl rfl (.i6 .nil) .nil)) rfl (.cons (.ref rfl rfl rfl rfl rfl) (.cons .im (.cons (.ref rfl rfl rfl rfl rfl) (.i2 .nil))))) ?_
      refine OpsW.nil ?_
      refine AW.joinK (fun (y : S_Header × S_Header) => f_number_ReadHeader_k2 t0 v4 y.1 y.2) r (fun (y : S_Header × S_Header) => [(0, slA (eI .u8) t0), (2, .ref 2 0 0), (5, .int .i64 v4), (6, .ref 6 0 0)]) (fun (y : S_Header × S_Header) => [(2, ⟨0, true, 86, 6, [.int .i64 y.1.Width, .int .i64 y.1.Label.N, .int .i64 y.1.Label.K, .bool y.1.Back, .int .i64 y.1.Ink, .int .i64 y.1.Part]⟩), (6, ⟨0, true, 86, 6, [.int .i64 y.2.Width, .int .i64 y.2.Label.N, .int .i64 y.2.Label.K, .bool y.2.Back, .int .i64 y.2.Ink, .int .i64 y.2.Part]⟩)]) ?_ ?_
      · refine AW.regionSeq ?_
        refine OpsW.seg 2 [33, 32, 6, 0, 2, 5] [] [(33, .int .i64 x1), (32, slA (eI .u8) t0), (6, .ref 6 0 0), (0, slA (eI .u8) t0), (2, .ref 2 0 0), (5, .int .i64 v4)] (by kernel_rfl) trivial ?_
        obtain ⟨g25, H⟩ := G_some H
        refine OpsW.asU (slA (eI .u8) (t0.take x1.toNat)) rfl rfl (T.slice' rfl trivial trivial trivial (by kernel_rfl) (by kernel_rfl) g25 trivial (sl_hi (eI .u8) 1 (fun _ => rfl) t0 x1 g25)) ?_
        refine OpsW.seg 1 [7, 6, 0, 2, 5] [] [(7, slA (eI .u8) (t0.take x1.toNat)), (6, .ref 6 0 0), (0, slA (eI .u8) t0), (2, .ref 2 0 0), (5, .int .i64 v4)] (by kernel_rfl) trivial ?_
        refine OpsW.nil ?_
        refine AW.regionSeq ?_
        refine OpsW.seg 3 [37, 7, 6, 0, 2, 5] [] [(37, .bool (decide ((0 : Int) < ((t0.take x1.toNat).length : Int)))), (7, slA (eI .u8) (t0.take x1.toNat)), (6, .ref 6 0 0), (0, slA (eI .u8) t0), (2, .ref 2 0 0), (5, .int .i64 v4)] (by kernel_rfl) trivial ?_
        refine OpsW.nil ?_
        refine AW.cond (b := decide ((0 : Int) < ((t0.take x1.toNat).length : Int))) rfl (fun c26 => ?_) (fun c26 => ?_)
        · replace H := condT c26 H
          refine AW.joinK (fun (y : S_Header × S_Header × (List Int)) => f_number_ReadHeader_k3 t0 v4 y.1 y.2.1 y.2.2) r (fun (y : S_Header × S_Header × (List Int)) => [(0, slA (eI .u8) t0), (2, .ref 2 0 0), (5, .int .i64 v4), (6, .ref 6 0 0), (7, slA (eI .u8) y.2.2)]) (fun (y : S_Header × S_Header × (List Int)) => [(2, ⟨0, true, 86, 6, [.int .i64 y.1.Width, .int .i64 y.1.Label.N, .int .i64 y.1.Label.K, .bool y.1.Back, .int .i64 y.1.Ink, .int .i64 y.1.Part]⟩), (6, ⟨0, true, 86, 6, [.int .i64 y.2.1.Width, .int .i64 y.2.1.Label.N, .int .i64 y.2.1.Label.K, .bool y.2.1.Back, .int .i64 y.2.1.Ink, .int .i64 y.2.1.Part]⟩)]) ?_ ?_
          · refine AW.regionSeq ?_
            obtain ⟨g31, H⟩ := G_some H
            refine OpsW.seg 6 [43, 41, 7, 6, 0, 2, 5] [(qZ3r t0 x1) = true → (qZ3r t0 x1) = true, (qZ3r t0 x1) = true → (0 ≤ (0 : Int) ∧ (0 : Int) < ((t0.take x1.toNat).length : Int))] [(43, .cnd (qZ3r t0 x1) (.ipt ((t0.take x1.toNat).flatMap (eI .u8)) ((0 : Int).toNat * 1))), (41, .bool (qZ3r t0 x1)), (7, slA (eI .u8) (t0.take x1.toNat)), (6, .ref 6 0 0), (0, slA (eI .u8) t0), (2, .ref 2 0 0), (5, .int .i64 v4)] (by kernel_rfl) ⟨(fun h => h), g31, trivial⟩ ?_
            refine OpsW.asG (c := decide ((2 : Int) < ((t0.take x1.toNat).length : Int))) (.int .u8 ((t0.take x1.toNat).getD (0 : Int).toNat (0 : Int))) rfl rfl rfl rfl (fun hc => T.load rfl hc (by kernel_rfl) (fm_cell0 (eI .u8) 1 (fun _ => rfl) (t0.take x1.toNat) (0 : Int) (0 : Int).toNat (ltN (g31 hc)) (fun a => .val (.int .u8 a)) (fun _ => rfl))) ?_
            refine OpsW.seg 2 [46, 7, 6, 0, 2, 5] [(qZ3r t0 x1) = true → (qZ3r t0 x1) = true, (qZ3r t0 x1) = true → (qZ3r t0 x1) = true] [(46, .bool (cond (qZ3r t0 x1) (((t0.take x1.toNat).getD (0 : Int).toNat (0 : Int)) == (48 : Int)) false)), (7, slA (eI .u8) (t0.take x1.toNat)), (6, .ref 6 0 0), (0, slA (eI .u8) t0), (2, .ref 2 0 0), (5, .int .i64 v4)] (by kernel_rfl) ⟨(fun h => h), (fun h => by first | exact h | (simpa using h) | grind), trivial⟩ ?_
            refine OpsW.nil ?_
            refine AW.cond (b := cond (qZ3r t0 x1) (((t0.take x1.toNat).getD (0 : Int).toNat (0 : Int)) == (48 : Int)) false) rfl (fun c32 => ?_) (fun c32 => ?_)
            · replace H := condT c32 H
              refine AW.regionSeq ?_
              obtain ⟨g33, H⟩ := G_some H
              refine OpsW.seg 2 [48, 7, 6, 0, 2, 5] [0 ≤ (1 : Int) ∧ (1 : Int) < ((t0.take x1.toNat).length : Int)] [(48, .ipt ((t0.take x1.toNat).flatMap (eI .u8)) ((1 : Int).toNat * 1)), (7, slA (eI .u8) (t0.take x1.toNat)), (6, .ref 6 0 0), (0, slA (eI .u8) t0), (2, .ref 2 0 0), (5, .int .i64 v4)] (by kernel_rfl) ⟨g33, trivial⟩ ?_
              refine OpsW.asU (.int .u8 ((t0.take x1.toNat).getD (1 : Int).toNat (0 : Int))) rfl rfl (T.load rfl trivial (by kernel_rfl) (fm_cell0 (eI .u8) 1 (fun _ => rfl) (t0.take x1.toNat) (0 : Int) (1 : Int).toNat (ltN g33) (fun a => .val (.int .u8 a)) (fun _ => rfl))) ?_
              obtain ⟨x34, hx34, H⟩ := bindS H
              refine OpsW.qcall rfl (by kernel_rfl) rfl rfl (glAll_sound trivial) (.cons (.pur rfl) .nil) (f_number_letter_ok hx34) rfl ?_
              refine OpsW.seg 1 [51, 50, 7, 6, 0, 2, 5] [] [(51, .ref 6 0 5), (50, .int .i64 x34), (7, slA (eI .u8) (t0.take x1.toNat)), (6, .ref 6 0 0), (0, slA (eI .u8) t0), (2, .ref 2 0 0), (5, .int .i64 v4)] (by kernel_rfl) trivial ?_
              refine OpsW.store rfl rfl rfl rfl trivial trivial rfl rfl rfl (by kernel_rfl) (okCb_sound (by kernel_rfl)) (Nat.le_of_ble_eq_true (by kernel_rfl)) ?_
              change OpsW _ _ _ _ _ [(6, ⟨0, true, 86, 6, [.int .i64 (t0.length : Int), .int .i64 0, .int .i64 0, .bool false, .int .i64 0, .int .i64 x34]⟩), (2, ⟨0, true, 86, 6, qZ3o⟩), (6, ⟨0, true, 86, 6, (qZ3t t0)⟩)] _
              refine OpsW.seg 0 [7, 6, 0, 2, 5] [] [(7, slA (eI .u8) (t0.take x1.toNat)), (6, .ref 6 0 0), (0, slA (eI .u8) t0), (2, .ref 2 0 0), (5, .int .i64 v4)] (by kernel_rfl) trivial ?_
              refine OpsW.recast (env' := [(7, slA (eI .u8) (t0.take x1.toNat)), (6, .ref 6 0 0), (0, slA (eI .u8) t0), (2, .ref 2 0 0), (5, .int .i64 v4)]) (h' := [(2, ⟨0, true, 86, 6, qZ3o⟩), (6, ⟨0, true, 86, 6, [.int .i64 (t0.length : Int), .int .i64 0, .int .i64 0, .bool false, .int .i64 0, .int .i64 x34]⟩)]) (StC.mk (phi [(2, some 2), (6, some 6)]) (.old rfl rfl rfl rfl rfl (.i6 .nil) (.old rfl rfl rfl rfl rfl (.i6 .nil) .nil)) rfl (.cons .im (.cons (.ref rfl rfl rfl rfl rfl) (.cons .im (.cons (.ref rfl rfl rfl rfl rfl) (.cons .im .nil)))))) ?_
              refine OpsW.nil ?_
              refine AW.region ?_
              refine OpsW.seg 1 [52, 7, 6, 0, 2, 5] [] [(52, slA (eI .u8) (t0.take x1.toNat)), (7, slA (eI .u8) (t0.take x1.toNat)), (6, .ref 6 0 0), (0, slA (eI .u8) t0), (2, .ref 2 0 0), (5, .int .i64 v4)] (by kernel_rfl) trivial ?_
              obtain ⟨g35, H⟩ := G_some H
              refine OpsW.asU (slA (eI .u8) ((t0.take x1.toNat).drop ((2 : Int).toNat))) rfl rfl (T.slice' rfl trivial trivial trivial (by kernel_rfl) (by kernel_rfl) trivial g35 (sl_lo (eI .u8) 1 (fun _ => rfl) (t0.take x1.toNat) (2 : Int) g35)) ?_
              refine OpsW.seg 1 [7, 6, 0, 2, 5] [] [(7, slA (eI .u8) ((t0.take x1.toNat).drop ((2 : Int).toNat))), (6, .ref 6 0 0), (0, slA (eI .u8) t0), (2, .ref 2 0 0), (5, .int .i64 v4)] (by kernel_rfl) trivial ?_
              refine OpsW.nil ?_
              show ∃ y, _ ∧ StC _ _ _ _
              exact ⟨(qZ3y, (⟨(t0.length : Int), (⟨(0 : Int), (0 : Int)⟩ : S_Label), false, (0 : Int), x34⟩ : S_Header), (t0.take x1.toNat).drop ((2 : Int).toNat)), H, (StC.mk (phi [(2, some 2), (6, some 6)]) (.old rfl rfl rfl rfl rfl (.i6 .nil) (.old rfl rfl rfl rfl rfl (.i6 .nil) .nil)) rfl (.cons .im (.cons (.ref rfl rfl rfl rfl rfl) (.cons .im (.cons (.ref rfl rfl rfl rfl rfl) (.cons .im .nil))))))⟩
            · replace H := condF c32 H
              refine AW.skip ?_
              show ∃ y, _ ∧ StC _ _ _ _
              exact ⟨(qZ3y, (⟨(t0.length : Int), (⟨(0 : Int), (0 : Int)⟩ : S_Label), false, (0 : Int), (0 : Int)⟩ : S_Header), t0.take x1.toNat), H, (StC.mk (phi [(2, some 2), (6, some 6)]) (.old rfl rfl rfl rfl rfl (.i6 .nil) (.old rfl rfl rfl rfl rfl (.i6 .nil) .nil)) rfl (.cons .im (.cons (.ref rfl rfl rfl rfl rfl) (.cons .im (.cons (.ref rfl rfl rfl rfl rfl) (.cons .im .nil))))))⟩
          · rintro ⟨v27, v28, v29⟩ H
            change f_number_ReadHeader_k3 t0 v4 v27 v28 v29 = some r at H
            unfold f_number_ReadHeader_k3 at H
            change AW _ _ _ [(0, slA (eI .u8) t0), (2, .ref 2 0 0), (5, .int .i64 v4), (6, .ref 6 0 0), (7, slA (eI .u8) v29)] [(2, ⟨0, true, 86, 6, (qZ3v v27)⟩), (6, ⟨0, true, 86, 6, [.int .i64 v28.Width, .int .i64 v28.Label.N, .int .i64 v28.Label.K, .bool v28.Back, .int .i64 v28.Ink, .int .i64 v28.Part]⟩)] _
            refine AW.region ?_
            refine OpsW.seg 1 [55, 0, 2, 5, 6] [] [(55, slA (eI .u8) v29), (0, slA (eI .u8) t0), (2, .ref 2 0 0), (5, .int .i64 v4), (6, .ref 6 0 0)] (by kernel_rfl) trivial ?_
            obtain ⟨x30, hx30, H⟩ := bindS H
            refine OpsW.qcall rfl (by kernel_rfl) rfl rfl (glAll_sound trivial) (.cons (.pur rfl) .nil) (f_number_Read_ok hx30) rfl ?_
            refine OpsW.seg 5 [60, 57, 0, 2, 5, 6] [] [(60, .ref 6 0 4), (57, .int .i64 x30.1), (0, slA (eI .u8) t0), (2, .ref 2 0 0), (5, .int .i64 v4), (6, .ref 6 0 0)] (by kernel_rfl) trivial ?_
            refine OpsW.store rfl rfl rfl rfl trivial trivial rfl rfl rfl (by kernel_rfl) (okCb_sound (by kernel_rfl)) (Nat.le_of_ble_eq_true (by kernel_rfl)) ?_
            change OpsW _ _ _ _ _ [(6, ⟨0, true, 86, 6, [.int .i64 v28.Width, .int .i64 v28.Label.N, .int .i64 v28.Label.K, .bool v28.Back, .int .i64 x30.1, .int .i64 v28.Part]⟩), (2, ⟨0, true, 86, 6, (qZ3v v27)⟩), (6, ⟨0, true, 86, 6, [.int .i64 v28.Width, .int .i64 v28.Label.N, .int .i64 v28.Label.K, .bool v28.Back, .int .i64 v28.Ink, .int .i64 v28.Part]⟩)] _
            refine OpsW.seg 0 [0, 2, 5, 6] [] [(0, slA (eI .u8) t0), (2, .ref 2 0 0), (5, .int .i64 v4), (6, .ref 6 0 0)] (by kernel_rfl) trivial ?_
            refine OpsW.recast (env' := [(0, slA (eI .u8) t0), (2, .ref 2 0 0), (5, .int .i64 v4), (6, .ref 6 0 0)]) (h' := [(2, ⟨0, true, 86, 6, (qZ3v v27)⟩), (6, ⟨0, true, 86, 6, [.int .i64 v28.Width, .int .i64 v28.Label.N, .int .i64 v28.Label.K, .bool v28.Back, .int .i64 x30.1, .int .i64 v28.Part]⟩)]) (StC.mk (phi [(2, some 2), (6, some 6)]) (.old rfl rfl rfl rfl rfl (.i6 .nil) (.old rfl rfl rfl rfl rfl (.i6 .nil) .nil)) rfl (.cons .im (.cons (.ref rfl rfl rfl rfl rfl) (.cons .im (.cons (.ref rfl rfl rfl rfl rfl) .nil))))) ?_
            refine OpsW.nil ?_
            show ∃ y, _ ∧ StC _ _ _ _
            exact ⟨(v27, (⟨v28.Width, v28.Label, v28.Back, x30.1, v28.Part⟩ : S_Header)), H, (StC.mk (phi [(2, some 2), (6, some 6)]) (.old rfl rfl rfl rfl rfl (.i6 .nil) (.old rfl rfl rfl rfl rfl (.i6 .nil) .nil)) rfl (.cons .im (.cons (.ref rfl rfl rfl rfl rfl) (.cons .im (.cons (.ref rfl rfl rfl rfl rfl) .nil)))))⟩
        · replace H := condF c26 H
          refine AW.skip ?_
          show ∃ y, _ ∧ StC _ _ _ _
          exact ⟨(qZ3y, (⟨(t0.length : Int), (⟨(0 : Int), (0 : Int)⟩ : S_Label), false, (0 : Int), (0 : Int)⟩ : S_Header)), H, (StC.mk (phi [(2, some 2), (6, some 6)]) (.old rfl rfl rfl rfl rfl (.i6 .nil) (.old rfl rfl rfl rfl rfl (.i6 .nil) .nil)) rfl (.cons .im (.cons (.ref rfl rfl rfl rfl rfl) (.cons .im (.cons (.ref rfl rfl rfl rfl rfl) .nil)))))⟩
      · rintro ⟨v9, v10⟩ H
        change f_number_ReadHeader_k2 t0 v4 v9 v10 = some r at H
        unfold f_number_ReadHeader_k2 at H
        change AW _ _ _ [(0, slA (eI .u8) t0), (2, .ref 2 0 0), (5, .int .i64 v4), (6, .ref 6 0 0)] [(2, ⟨0, true, 86, 6, (qZ3q v9)⟩), (6, ⟨0, true, 86, 6, (qZ3w v10)⟩)] _
        refine AW.regionSeq ?_
        obtain ⟨g11, H⟩ := G_some H
        refine OpsW.seg 3 [63, 61, 0, 2, 6] [inR (v4 + (1 : Int))] [(63, .int .i64 (v4 + (1 : Int))), (61, slA (eI .u8) t0), (0, slA (eI .u8) t0), (2, .ref 2 0 0), (6, .ref 6 0 0)] (by kernel_rfl) ⟨g11, trivial⟩ ?_
        obtain ⟨g12, H⟩ := G_some H
        refine OpsW.asU (slA (eI .u8) (qZ3s t0 v4)) rfl rfl (T.slice' rfl trivial trivial trivial (by kernel_rfl) (by kernel_rfl) trivial g12 (sl_lo (eI .u8) 1 (fun _ => rfl) t0 (v4 + (1 : Int)) g12)) ?_
        refine OpsW.seg 1 [8, 0, 2, 6] [] [(8, slA (eI .u8) (qZ3s t0 v4)), (0, slA (eI .u8) t0), (2, .ref 2 0 0), (6, .ref 6 0 0)] (by kernel_rfl) trivial ?_
        refine OpsW.nil ?_
        refine AW.regionSeq ?_
        refine OpsW.seg 1 [66, 8, 0, 2, 6] [] [(66, slA (eI .u8) (qZ3s t0 v4)), (8, slA (eI .u8) (qZ3s t0 v4)), (0, slA (eI .u8) t0), (2, .ref 2 0 0), (6, .ref 6 0 0)] (by kernel_rfl) trivial ?_
        obtain ⟨x13, hx13, H⟩ := bindS H
        refine OpsW.qcall rfl (by kernel_rfl) rfl rfl (glAll_sound trivial) (.cons (.pur rfl) .nil) (f_number_Read_ok hx13) rfl ?_
        refine OpsW.seg 7 [10, 9, 8, 0, 2, 6] [] [(10, .int .i64 x13.2.1), (9, .int .i64 x13.1), (8, slA (eI .u8) (qZ3s t0 v4)), (0, slA (eI .u8) t0), (2, .ref 2 0 0), (6, .ref 6 0 0)] (by kernel_rfl) trivial ?_
        refine OpsW.nil ?_
        refine AW.regionSeq ?_
        obtain ⟨g14, H⟩ := G_some H
        obtain ⟨g15, H⟩ := G_some H
        refine OpsW.seg 8 [78, 76, 73, 10, 8, 0, 2, 6] [inR (x13.1 + (1 : Int)), (2 : Int) ≠ 0, inR (qZ3z x13), (2 : Int) ≠ 0] [(78, .ref 6 0 1), (76, .bool ((Int.tmod x13.1 (2 : Int)) == (0 : Int))), (73, .int .i64 (qZ3z x13)), (10, .int .i64 x13.2.1), (8, slA (eI .u8) (qZ3s t0 v4)), (0, slA (eI .u8) t0), (2, .ref 2 0 0), (6, .ref 6 0 0)] (by kernel_rfl) ⟨g14, (by decide), g15, (by decide), trivial⟩ ?_
        refine OpsW.store rfl rfl rfl rfl trivial trivial rfl rfl rfl (by kernel_rfl) (okCb_sound (by kernel_rfl)) (Nat.le_of_ble_eq_true (by kernel_rfl)) ?_
        change OpsW _ _ _ _ _ [(6, ⟨0, true, 86, 6, [.int .i64 v10.Width, .int .i64 (qZ3z x13), .int .i64 v10.Label.K, .bool v10.Back, .int .i64 v10.Ink, .int .i64 v10.Part]⟩), (2, ⟨0, true, 86, 6, (qZ3q v9)⟩), (6, ⟨0, true, 86, 6, (qZ3w v10)⟩)] _
        refine OpsW.seg 1 [79, 76, 10, 8, 0, 2, 6] [] [(79, .ref 6 0 3), (76, .bool ((Int.tmod x13.1 (2 : Int)) == (0 : Int))), (10, .int .i64 x13.2.1), (8, slA (eI .u8) (qZ3s t0 v4)), (0, slA (eI .u8) t0), (2, .ref 2 0 0), (6, .ref 6 0 0)] (by kernel_rfl) trivial ?_
        refine OpsW.store rfl rfl rfl rfl trivial trivial rfl rfl rfl (by kernel_rfl) (okCb_sound (by kernel_rfl)) (Nat.le_of_ble_eq_true (by kernel_rfl)) ?_
        change OpsW _ _ _ _ _ [(6, ⟨0, true, 86, 6, (qZ3u v10 x13)⟩), (6, ⟨0, true, 86, 6, [.int .i64 v10.Width, .int .i64 (qZ3z x13), .int .i64 v10.Label.K, .bool v10.Back, .int .i64 v10.Ink, .int .i64 v10.Part]⟩), (2, ⟨0, true, 86, 6, (qZ3q v9)⟩), (6, ⟨0, true, 86, 6, (qZ3w v10)⟩)] _
        refine OpsW.seg 0 [10, 8, 0, 2, 6] [] [(10, .int .i64 x13.2.1), (8, slA (eI .u8) (qZ3s t0 v4)), (0, slA (eI .u8) t0), (2, .ref 2 0 0), (6, .ref 6 0 0)] (by kernel_rfl) trivial ?_
        refine OpsW.recast (env' := [(10, .int .i64 x13.2.1), (8, slA (eI .u8) (qZ3s t0 v4)), (0, slA (eI .u8) t0), (2, .ref 2 0 0), (6, .ref 6 0 0)]) (h' := [(2, ⟨0, true, 86, 6, (qZ3q v9)⟩), (6, ⟨0, true, 86, 6, (qZ3u v10 x13)⟩)]) (StC.mk (phi [(2, some 2), (6, some 6)]) (.old rfl rfl rfl rfl rfl (.i6 .nil) (.old rfl rfl rfl rfl rfl (.i6 .nil) .nil)) rfl (.i3 (.cons (.ref rfl rfl rfl rfl rfl) (.cons (.ref rfl rfl rfl rfl rfl) .nil)))) ?_
        refine OpsW.nil ?_
        refine AW.joinK (fun (y : S_Header × S_Header) => f_number_ReadHeader_k1 t0 y.1 y.2) r (fun (y : S_Header × S_Header) => [(0, slA (eI .u8) t0), (2, .ref 2 0 0), (6, .ref 6 0 0)]) (fun (y : S_Header × S_Header) => [(2, ⟨0, true, 86, 6, [.int .i64 y.1.Width, .int .i64 y.1.Label.N, .int .i64 y.1.Label.K, .bool y.1.Back, .int .i64 y.1.Ink, .int .i64 y.1.Part]⟩), (6, ⟨0, true, 86, 6, [.int .i64 y.2.Width, .int .i64 y.2.Label.N, .int .i64 y.2.Label.K, .bool y.2.Back, .int .i64 y.2.Ink, .int .i64 y.2.Part]⟩)]) ?_ ?_
        · refine AW.regionSeq ?_
          refine OpsW.seg 2 [81, 80, 8, 0, 2, 6] [] [(81, .int .i64 x13.2.1), (80, slA (eI .u8) (qZ3s t0 v4)), (8, slA (eI .u8) (qZ3s t0 v4)), (0, slA (eI .u8) t0), (2, .ref 2 0 0), (6, .ref 6 0 0)] (by kernel_rfl) trivial ?_
          obtain ⟨g21, H⟩ := G_some H
          refine OpsW.asU (slA (eI .u8) ((qZ3s t0 v4).drop x13.2.1.toNat)) rfl rfl (T.slice' rfl trivial trivial trivial (by kernel_rfl) (by kernel_rfl) trivial g21 (sl_lo (eI .u8) 1 (fun _ => rfl) (qZ3s t0 v4) x13.2.1 g21)) ?_
          refine OpsW.seg 1 [8, 0, 2, 6] [] [(8, slA (eI .u8) ((qZ3s t0 v4).drop x13.2.1.toNat)), (0, slA (eI .u8) t0), (2, .ref 2 0 0), (6, .ref 6 0 0)] (by kernel_rfl) trivial ?_
          refine OpsW.nil ?_
          refine AW.regionSeq ?_
          refine OpsW.seg 3 [85, 8, 0, 2, 6] [] [(85, .bool ((((qZ3s t0 v4).drop x13.2.1.toNat).length : Int) == (2 : Int))), (8, slA (eI .u8) ((qZ3s t0 v4).drop x13.2.1.toNat)), (0, slA (eI .u8) t0), (2, .ref 2 0 0), (6, .ref 6 0 0)] (by kernel_rfl) trivial ?_
          refine OpsW.nil ?_
          refine AW.cond (b := (((qZ3s t0 v4).drop x13.2.1.toNat).length : Int) == (2 : Int)) rfl (fun c22 => ?_) (fun c22 => ?_)
          · replace H := condT c22 H
            refine AW.region ?_
            obtain ⟨g23, H⟩ := G_some H
            refine OpsW.seg 2 [87, 0, 2, 6] [0 ≤ (1 : Int) ∧ (1 : Int) < (((qZ3s t0 v4).drop x13.2.1.toNat).length : Int)] [(87, .ipt (((qZ3s t0 v4).drop x13.2.1.toNat).flatMap (eI .u8)) ((1 : Int).toNat * 1)), (0, slA (eI .u8) t0), (2, .ref 2 0 0), (6, .ref 6 0 0)] (by kernel_rfl) ⟨g23, trivial⟩ ?_
            refine OpsW.asU (.int .u8 (((qZ3s t0 v4).drop x13.2.1.toNat).getD (1 : Int).toNat (0 : Int))) rfl rfl (T.load rfl trivial (by kernel_rfl) (fm_cell0 (eI .u8) 1 (fun _ => rfl) ((qZ3s t0 v4).drop x13.2.1.toNat) (0 : Int) (1 : Int).toNat (ltN g23) (fun a => .val (.int .u8 a)) (fun _ => rfl))) ?_
            obtain ⟨x24, hx24, H⟩ := bindS H
            refine OpsW.qcall rfl (by kernel_rfl) rfl rfl (glAll_sound trivial) (.cons (.pur rfl) .nil) (f_number_letter_ok hx24) rfl ?_
            refine OpsW.seg 2 [91, 89, 0, 2, 6] [] [(91, .ref 6 0 2), (89, .int .i64 x24), (0, slA (eI .u8) t0), (2, .ref 2 0 0), (6, .ref 6 0 0)] (by kernel_rfl) trivial ?_
            refine OpsW.store rfl rfl rfl rfl trivial trivial rfl rfl rfl (by kernel_rfl) (okCb_sound (by kernel_rfl)) (Nat.le_of_ble_eq_true (by kernel_rfl)) ?_
            change OpsW _ _ _ _ _ [(6, ⟨0, true, 86, 6, [.int .i64 v10.Width, .int .i64 (qZ3z x13), .int .i64 x24, .bool ((Int.tmod x13.1 (2 : Int)) == (0 : Int)), .int .i64 v10.Ink, .int .i64 v10.Part]⟩), (2, ⟨0, true, 86, 6, (qZ3q v9)⟩), (6, ⟨0, true, 86, 6, (qZ3u v10 x13)⟩)] _
            refine OpsW.seg 0 [0, 2, 6] [] [(0, slA (eI .u8) t0), (2, .ref 2 0 0), (6, .ref 6 0 0)] (by kernel_rfl) trivial ?_
            refine OpsW.recast (env' := [(0, slA (eI .u8) t0), (2, .ref 2 0 0), (6, .ref 6 0 0)]) (h' := [(2, ⟨0, true, 86, 6, (qZ3q v9)⟩), (6, ⟨0, true, 86, 6, [.int .i64 v10.Width, .int .i64 (qZ3z x13), .int .i64 x24, .bool ((Int.tmod x13.1 (2 : Int)) == (0 : Int)), .int .i64 v10.Ink, .int .i64 v10.Part]⟩)]) (StC.mk (phi [(2, some 2), (6, some 6)]) (.old rfl rfl rfl rfl rfl (.i6 .nil) (.old rfl rfl rfl rfl rfl (.i6 .nil) .nil)) rfl (.cons .im (.cons (.ref rfl rfl rfl rfl rfl) (.cons (.ref rfl rfl rfl rfl rfl) .nil)))) ?_
            refine OpsW.nil ?_
            show ∃ y, _ ∧ StC _ _ _ _
            exact ⟨(v9, (⟨v10.Width, (⟨Int.tdiv (x13.1 + (1 : Int)) (2 : Int), x24⟩ : S_Label), (Int.tmod x13.1 (2 : Int)) == (0 : Int), v10.Ink, v10.Part⟩ : S_Header)), H, (StC.mk (phi [(2, some 2), (6, some 6)]) (.old rfl rfl rfl rfl rfl (.i6 .nil) (.old rfl rfl rfl rfl rfl (.i6 .nil) .nil)) rfl (.cons .im (.cons (.ref rfl rfl rfl rfl rfl) (.cons (.ref rfl rfl rfl rfl rfl) .nil))))⟩
          · replace H := condF c22 H
            refine AW.skip ?_
            show ∃ y, _ ∧ StC _ _ _ _
            exact ⟨(v9, (⟨v10.Width, (⟨Int.tdiv (x13.1 + (1 : Int)) (2 : Int), v10.Label.K⟩ : S_Label), (Int.tmod x13.1 (2 : Int)) == (0 : Int), v10.Ink, v10.Part⟩ : S_Header)), H, (StC.mk (phi [(2, some 2), (6, some 6)]) (.old rfl rfl rfl rfl rfl (.i6 .nil) (.old rfl rfl rfl rfl rfl (.i6 .nil) .nil)) rfl (.cons .im (.cons (.ref rfl rfl rfl rfl rfl) (.cons (.ref rfl rfl rfl rfl rfl) .nil))))⟩
        · rintro ⟨v16, v17⟩ H
          change f_number_ReadHeader_k1 t0 v16 v17 = some r at H
          unfold f_number_ReadHeader_k1 at H
          change AW _ _ _ [(0, slA (eI .u8) t0), (2, .ref 2 0 0), (6, .ref 6 0 0)] [(2, ⟨0, true, 86, 6, (qZ3x v16)⟩), (6, ⟨0, true, 86, 6, (qZ3p v17)⟩)] _
          refine AW.seq ?_
          refine AW.regionSeq ?_
          refine OpsW.seg 1 [93, 0, 2, 6] [] [(93, .agg (qZ3p v17)), (0, slA (eI .u8) t0), (2, .ref 2 0 0), (6, .ref 6 0 0)] (by kernel_rfl) trivial ?_
          obtain ⟨x18, hx18, H⟩ := bindS H
          refine OpsW.qcall rfl (by kernel_rfl) rfl rfl (glAll_sound trivial) (.cons (.pur rfl) .nil) (f_number_Header_ok hx18) rfl ?_
          refine OpsW.seg 5 [13, 12, 0, 2, 6] [] [(13, .int .i64 x18.2), (12, slA (eI .u8) x18.1), (0, slA (eI .u8) t0), (2, .ref 2 0 0), (6, .ref 6 0 0)] (by kernel_rfl) trivial ?_
          refine OpsW.nil ?_
          refine AW.regionSeq ?_
          refine OpsW.seg 5 [101, 100, 99, 2, 6] [] [(101, .cnd (!(x18.2 != (0 : Int))) (slA (eI .u8) t0)), (100, .cnd (!(x18.2 != (0 : Int))) (slA (eI .u8) x18.1)), (99, .bool (x18.2 != (0 : Int))), (2, .ref 2 0 0), (6, .ref 6 0 0)] (by kernel_rfl) trivial ?_
          obtain ⟨x19, hx19, H⟩ := bindS H
          refine OpsW.gcall (c := !(x18.2 != (0 : Int))) (r := .bool x19) [] rfl (by kernel_rfl) rfl rfl rfl rfl (fun hc => ⟨glAll_sound ⟨hc, hc, trivial⟩, (.cons (.pur rfl) (.cons (.pur rfl) .nil)), f_slices_Equal_api_Cell_ok (condT hc hx19), .inl ⟨rfl, rfl⟩⟩) ?_
          refine OpsW.seg 2 [104, 2, 6] [(!(x18.2 != (0 : Int))) = true → (!(x18.2 != (0 : Int))) = true, (x18.2 != (0 : Int)) = false → (!(x18.2 != (0 : Int))) = true] [(104, .bool (cond (x18.2 != (0 : Int)) true (!x19))), (2, .ref 2 0 0), (6, .ref 6 0 0)] (by kernel_rfl) ⟨(fun h => h), (fun h => by first | exact h | (simpa using h) | grind), trivial⟩ ?_
          refine OpsW.nil ?_
          refine AW.cond (b := cond (x18.2 != (0 : Int)) true (!x19)) rfl (fun c20 => ?_) (fun c20 => ?_)
          · replace H := condT c20 H
            refine AW.regionSeq ?_
            refine OpsW.seg 1 [105, 2] [] [(105, .agg qZ3o), (2, .ref 2 0 0)] (by kernel_rfl) trivial ?_
            refine OpsW.store rfl rfl rfl rfl trivial trivial rfl rfl rfl (by kernel_rfl) (okCb_sound (by kernel_rfl)) (Nat.le_of_ble_eq_true (by kernel_rfl)) ?_
            change OpsW _ _ _ _ _ [(2, ⟨0, true, 86, 6, qZ3o⟩), (2, ⟨0, true, 86, 6, (qZ3x v16)⟩), (6, ⟨0, true, 86, 6, (qZ3p v17)⟩)] _
            refine OpsW.seg 1 [3, 2] [] [(3, .int .i64 190), (2, .ref 2 0 0)] (by kernel_rfl) trivial ?_
            refine OpsW.recast (env' := [(3, .int .i64 190), (2, .ref 2 0 0)]) (h' := [(2, ⟨0, true, 86, 6, qZ3o⟩)]) (StC.mk (phi [(2, some 2)]) (.old rfl rfl rfl rfl rfl (.i6 .nil) .nil) rfl (.cons .im (.cons (.ref rfl rfl rfl rfl rfl) .nil))) ?_
            refine OpsW.nil ?_
            obtain rfl := Option.some.inj H
            refine AW.recast (env' := [(2, .ref 2 0 0), (3, .int .i64 190)]) (h' := [(2, ⟨0, true, 86, 6, qZ3o⟩)]) (StC.mk (phi [(2, some 2)]) (.old rfl rfl rfl rfl rfl (.i6 .nil) .nil) rfl (.cons (.ref rfl rfl rfl rfl rfl) (.cons .im .nil))) ?_
            refine AW.ret ?_
            try simp only [Ex.then, Ex.inBlock, Ex.noGoto, Ex.jump, reduceIte, Nat.reduceEqDiff, reduceCtorEq]
            refine Done.gen rfl (.cell rfl (by kernel_rfl) (.tmp .nil)) ?_
            show _ = _
            kernel_rfl
          · replace H := condF c20 H
            refine AW.skip ?_
            refine AW.regionSeq ?_
            refine OpsW.seg 1 [106, 2] [] [(106, .agg (qZ3p v17)), (2, .ref 2 0 0)] (by kernel_rfl) trivial ?_
            refine OpsW.store rfl rfl rfl rfl trivial trivial rfl rfl rfl (by kernel_rfl) (okCb_sound (by kernel_rfl)) (Nat.le_of_ble_eq_true (by kernel_rfl)) ?_
            change OpsW _ _ _ _ _ [(2, ⟨0, true, 86, 6, (qZ3p v17)⟩), (2, ⟨0, true, 86, 6, (qZ3x v16)⟩), (6, ⟨0, true, 86, 6, (qZ3p v17)⟩)] _
            refine OpsW.seg 1 [3, 2] [] [(3, .int .i64 0), (2, .ref 2 0 0)] (by kernel_rfl) trivial ?_
            refine OpsW.recast (env' := [(3, .int .i64 0), (2, .ref 2 0 0)]) (h' := [(2, ⟨0, true, 86, 6, (qZ3p v17)⟩)]) (StC.mk (phi [(2, some 2)]) (.old rfl rfl rfl rfl rfl (.i6 .nil) .nil) rfl (.cons .im (.cons (.ref rfl rfl rfl rfl rfl) .nil))) ?_
            refine OpsW.nil ?_
            obtain rfl := Option.some.inj H
            refine AW.recast (env' := [(2, .ref 2 0 0), (3, .int .i64 0)]) (h' := [(2, ⟨0, true, 86, 6, (qZ3p v17)⟩)]) (StC.mk (phi [(2, some 2)]) (.old rfl rfl rfl rfl rfl (.i6 .nil) .nil) rfl (.cons (.ref rfl rfl rfl rfl rfl) (.cons .im .nil))) ?_
            refine AW.ret ?_
            try simp only [Ex.then, Ex.inBlock, Ex.noGoto, Ex.jump, reduceIte, Nat.reduceEqDiff, reduceCtorEq]
            refine Done.gen rfl (.cell rfl (by kernel_rfl) (.tmp .nil)) ?_
            show _ = _
            kernel_rfl
def f_sheet_header (t0 : List (List Int)) (t1 : Int) : Option (S_Header × Bool) :=
  cond ((t0.length : Int) == (0 : Int)) (
    some ((⟨(0 : Int), (⟨(0 : Int), (0 : Int)⟩ : S_Label), false, (0 : Int), (0 : Int)⟩ : S_Header), false)) (
    G (0 ≤ (0 : Int) ∧ (0 : Int) < (t0.length : Int)) <|
    (f_number_ReadHeader (t0.getD (0 : Int).toNat [])).bind fun x3 =>
    some (x3.1, cond (x3.2 == (0 : Int)) (x3.1.Width == t1) false))
abbrev qZ40 (x3 : (S_Header × Int)) : List AV := [.int .i64 x3.1.Width, .int .i64 x3.1.Label.N, .int .i64 x3.1.Label.K, .bool x3.1.Back, .int .i64 x3.1.Ink, .int .i64 x3.1.Part]
abbrev qZ41 : List AV := [.int .i64 0, .int .i64 0, .int .i64 0, .bool false, .int .i64 0, .int .i64 0]
abbrev qZ42 (x3 : (S_Header × Int)) (t1 : Int)  := (cond (x3.2 == (0 : Int)) (x3.1.Width == t1) false)
theorem f_sheet_header_ok  {t0 : List (List Int)} {t1 : Int} {r : S_Header × Bool} (H : f_sheet_header t0 t1 = some r) : QSpec Tryd.prog 45 [slA (eL (eI .u8)) t0, .int .i64 t1] (.tup [.agg [.int .i64 r.1.Width, .int .i64 r.1.Label.N, .int .i64 r.1.Label.K, .bool r.1.Back, .int .i64 r.1.Ink, .int .i64 r.1.Part], .bool r.2]) := by
  refine Spec.of_AW Tryd.func45 rfl (by simp [Tryd.ntmps45]) ?_
  rw [Tryd.ntmps45]
  unfold f_sheet_header at H
  change AW _ _ _ [(0, slA (eL (eI .u8)) t0), (1, .int .i64 t1)] [] _
  refine AW.regionSeq ?_
  refine OpsW.alloc' rfl rfl rfl 4 rfl (by kernel_rfl : zc Tryd.prog 86 = some [.int .i64 0, .int .i64 0, .int .i64 0, .bool false, .int .i64 0, .int .i64 0]) (by kernel_rfl) ?_
  refine OpsW.seg 1 [4, 0, 1] [] [(4, .ref 4 0 0), (0, slA (eL (eI .u8)) t0), (1, .int .i64 t1)] (by kernel_rfl) trivial ?_
  refine OpsW.recast (env' := [(4, .ref 4 0 0), (0, slA (eL (eI .u8)) t0), (1, .int .i64 t1)]) (h' := [(4, ⟨0, true, 86, 6, qZ41⟩)]) (StC.mk (phi [(4, some 4)]) (.old rfl rfl rfl rfl rfl (.i6 .nil) .nil) rfl (.cons (.ref rfl rfl rfl rfl rfl) (.i2 .nil))) ?_
  refine OpsW.nil ?_
  refine AW.seq ?_
  refine AW.regionSeq ?_
  refine OpsW.seg 3 [10, 4, 0, 1] [] [(10, .bool ((t0.length : Int) == (0 : Int))), (4, .ref 4 0 0), (0, slA (eL (eI .u8)) t0), (1, .int .i64 t1)] (by kernel_rfl) trivial ?_
  refine OpsW.nil ?_
  refine AW.cond (b := (t0.length : Int) == (0 : Int)) rfl (fun c1 => ?_) (fun c1 => ?_)
  · replace H := condT c1 H
    refine AW.regionSeq ?_
    refine OpsW.seg 1 [11, 4] [] [(11, .agg qZ41), (4, .ref 4 0 0)] (by kernel_rfl) trivial ?_
    refine OpsW.store rfl rfl rfl rfl trivial trivial rfl rfl rfl (by kernel_rfl) (okCb_sound (by kernel_rfl)) (Nat.le_of_ble_eq_true (by kernel_rfl)) ?_
    change OpsW _ _ _ _ _ [(4, ⟨0, true, 86, 6, qZ41⟩), (4, ⟨0, true, 86, 6, qZ41⟩)] _
    refine OpsW.seg 1 [5, 4] [] [(5, .bool false), (4, .ref 4 0 0)] (by kernel_rfl) trivial ?_
    refine OpsW.recast (env' := [(5, .bool false), (4, .ref 4 0 0)]) (h' := [(4, ⟨0, true, 86, 6, qZ41⟩)]) (StC.mk (phi [(4, some 4)]) (.old rfl rfl rfl rfl rfl (.i6 .nil) .nil) rfl (.cons .im (.cons (.ref rfl rfl rfl rfl rfl) .nil))) ?_
    refine OpsW.nil ?_
    obtain rfl := Option.some.inj H
    refine AW.recast (env' := [(4, .ref 4 0 0), (5, .bool false)]) (h' := [(4, ⟨0, true, 86, 6, qZ41⟩)]) (StC.mk (phi [(4, some 4)]) (.old rfl rfl rfl rfl rfl (.i6 .nil) .nil) rfl (.cons (.ref rfl rfl rfl rfl rfl) (.cons .im .nil))) ?_
    refine AW.ret ?_
    try simp only [Ex.then, Ex.inBlock, Ex.noGoto, Ex.jump, reduceIte, Nat.reduceEqDiff, reduceCtorEq]
    refine Done.gen rfl (.cell rfl (by kernel_rfl) (.tmp .nil)) ?_
    show _ = _
    kernel_rfl
  · replace H := condF c1 H
    refine AW.skip ?_
    refine AW.regionSeq ?_
    obtain ⟨g2, H⟩ := G_some H
    refine OpsW.seg 2 [14, 4, 1] [0 ≤ (0 : Int) ∧ (0 : Int) < (t0.length : Int)] [(14, .ipt (t0.flatMap (eL (eI .u8))) ((0 : Int).toNat * 1)), (4, .ref 4 0 0), (1, .int .i64 t1)] (by kernel_rfl) ⟨g2, trivial⟩ ?_
    refine OpsW.asU (slA (eI .u8) (t0.getD (0 : Int).toNat [])) rfl rfl (T.load rfl trivial (by kernel_rfl) (fm_cell0 (eL (eI .u8)) 1 (fun _ => rfl) t0 [] (0 : Int).toNat (ltN g2) (fun a => .sl (a.flatMap (eI .u8)) a.length) (fun _ => rfl))) ?_
    obtain ⟨x3, hx3, H⟩ := bindS H
    refine OpsW.qcall rfl (by kernel_rfl) rfl rfl (glAll_sound trivial) (.cons (.pur rfl) .nil) (f_number_ReadHeader_ok hx3) rfl ?_
    refine OpsW.seg 3 [18, 17, 4, 1] [] [(18, .int .i64 x3.2), (17, .agg (qZ40 x3)), (4, .ref 4 0 0), (1, .int .i64 t1)] (by kernel_rfl) trivial ?_
    refine OpsW.alloc' rfl rfl rfl 6 rfl (by kernel_rfl : zc Tryd.prog 86 = some [.int .i64 0, .int .i64 0, .int .i64 0, .bool false, .int .i64 0, .int .i64 0]) (by kernel_rfl) ?_
    refine OpsW.store rfl rfl rfl rfl trivial trivial rfl rfl rfl (by kernel_rfl) (okCb_sound (by kernel_rfl)) (Nat.le_of_ble_eq_true (by kernel_rfl)) ?_
    change OpsW _ _ _ _ _ [(6, ⟨0, true, 86, 6, (qZ40 x3)⟩), (6, ⟨0, true, 86, 6, qZ41⟩), (4, ⟨0, true, 86, 6, qZ41⟩)] _
    refine OpsW.seg 1 [7, 6, 4, 1] [] [(7, .int .i64 x3.2), (6, .ref 6 0 0), (4, .ref 4 0 0), (1, .int .i64 t1)] (by kernel_rfl) trivial ?_
    refine OpsW.recast (env' := [(7, .int .i64 x3.2), (6, .ref 6 0 0), (4, .ref 4 0 0), (1, .int .i64 t1)]) (h' := [(4, ⟨0, true, 86, 6, qZ41⟩), (6, ⟨0, true, 86, 6, (qZ40 x3)⟩)]) (StC.mk (phi [(4, some 4), (6, some 6)]) (.old rfl rfl rfl rfl rfl (.i6 .nil) (.old rfl rfl rfl rfl rfl (.i6 .nil) .nil)) rfl (.cons .im (.cons (.ref rfl rfl rfl rfl rfl) (.cons (.ref rfl rfl rfl rfl rfl) (.cons .im .nil))))) ?_
    refine OpsW.nil ?_
    refine AW.trim [7, 6, 1, 4] [(7, .int .i64 x3.2), (6, .ref 6 0 0), (1, .int .i64 t1), (4, .ref 4 0 0)] (by kernel_rfl) ?_
    refine AW.drawYSeq (h := [(6, ⟨0, true, 86, 6, (qZ40 x3)⟩)]) (env := [(7, .int .i64 x3.2), (6, .ref 6 0 0), (1, .int .i64 t1)]) [(4, .ref 4 0 0)] [(4, ⟨0, true, 86, 6, qZ41⟩), (6, ⟨0, true, 86, 6, (qZ40 x3)⟩)] 10 [(9, 4, [])] Tryd.checked.mixed (by kernel_rfl) (by kernel_rfl) (sub_ins (h1 := []) (h2 := [(6, ⟨0, true, 86, 6, (qZ40 x3)⟩)]) rfl) (.cons rfl .nil) (pin_ins (h1 := []) (h2 := [(6, ⟨0, true, 86, 6, (qZ40 x3)⟩)]) rfl) (envIn_rd (by kernel_rfl)) ?_
    refine DOpsY.q 9 (by kernel_rfl) ?_
    refine QOps.seg (N := 28) 9 [(x3.2 == (0 : Int)) = true → (x3.2 == (0 : Int)) = true, (x3.2 == (0 : Int)) = true → (x3.2 == (0 : Int)) = true, (x3.2 == (0 : Int)) = true → (x3.2 == (0 : Int)) = true, (x3.2 == (0 : Int)) = true → (x3.2 == (0 : Int)) = true] [(27, .bool (qZ42 x3 t1)), (26, .cnd (x3.2 == (0 : Int)) (.bool (x3.1.Width == t1))), (25, .cnd (x3.2 == (0 : Int)) (.int .i64 t1)), (24, .cnd (x3.2 == (0 : Int)) (.int .i64 x3.1.Width)), (23, .cnd (x3.2 == (0 : Int)) (.ref 6 0 0)), (22, .bool (x3.2 == (0 : Int))), (21, .bool (x3.2 == (0 : Int))), (20, .int .i64 x3.2), (19, .agg (qZ40 x3)), (7, .int .i64 x3.2), (6, .ref 6 0 0), (1, .int .i64 t1)] (by kernel_rfl) ⟨(fun h => h), (fun h => h), (fun h => h), (fun h => by first | exact h | (simpa using h) | grind), trivial⟩ ?_
    refine QOps.nil ?_
    refine DOpsY.e 4 rfl rfl rfl (by exact fun g hg hb => RStep.store rfl rfl (by exact trivial) (by exact trivial) ((hg 4 (List.Mem.head _)).trans rfl) rfl rfl (by kernel_rfl) (okCb_sound (by kernel_rfl)) (Nat.le_of_ble_eq_true (by kernel_rfl))) ?_
    refine DOpsY.nil ?_
    change OpsW _ _ _ _ [(27, .bool (qZ42 x3 t1)), (26, .cnd (x3.2 == (0 : Int)) (.bool (x3.1.Width == t1))), (25, .cnd (x3.2 == (0 : Int)) (.int .i64 t1)), (24, .cnd (x3.2 == (0 : Int)) (.int .i64 x3.1.Width)), (23, .cnd (x3.2 == (0 : Int)) (.ref 6 0 0)), (22, .bool (x3.2 == (0 : Int))), (21, .bool (x3.2 == (0 : Int))), (20, .int .i64 x3.2), (19, .agg (qZ40 x3)), (7, .int .i64 x3.2), (6, .ref 6 0 0), (1, .int .i64 t1), (4, .ref 4 0 0)] [(4, ⟨0, true, 86, 6, (qZ40 x3)⟩), (4, ⟨0, true, 86, 6, qZ41⟩), (6, ⟨0, true, 86, 6, (qZ40 x3)⟩)] _
    refine OpsW.seg 0 [27, 4] [] [(27, .bool (qZ42 x3 t1)), (4, .ref 4 0 0)] (by kernel_rfl) trivial ?_
    refine OpsW.seg 1 [5, 4] [] [(5, .bool (qZ42 x3 t1)), (4, .ref 4 0 0)] (by kernel_rfl) trivial ?_
    refine OpsW.recast (env' := [(5, .bool (qZ42 x3 t1)), (4, .ref 4 0 0)]) (h' := [(4, ⟨0, true, 86, 6, (qZ40 x3)⟩)]) (StC.mk (phi [(4, some 4)]) (.old rfl rfl rfl rfl rfl (.i6 .nil) .nil) rfl (.cons .im (.cons (.ref rfl rfl rfl rfl rfl) .nil))) ?_
    refine OpsW.nil ?_
    obtain rfl := Option.some.inj H
    refine AW.recast (env' := [(4, .ref 4 0 0), (5, .bool (qZ42 x3 t1))]) (h' := [(4, ⟨0, true, 86, 6, (qZ40 x3)⟩)]) (StC.mk (phi [(4, some 4)]) (.old rfl rfl rfl rfl rfl (.i6 .nil) .nil) rfl (.cons (.ref rfl rfl rfl rfl rfl) (.cons .im .nil))) ?_
    refine AW.ret ?_
    try simp only [Ex.then, Ex.inBlock, Ex.noGoto, Ex.jump, reduceIte, Nat.reduceEqDiff, reduceCtorEq]
    refine Done.gen rfl (.cell rfl (by kernel_rfl) (.tmp .nil)) ?_
    show _ = _
    kernel_rfl
def f_sheet_Leaf_k1 (v8 : S_Leaf) (v9 : S_Leaf) (v10 : S_Header) : Option (S_Leaf × Int) :=
  some ((⟨v10.Label, v9.Front, v9.Back⟩ : S_Leaf), (0 : Int))
def f_sheet_Leaf (t0 : S_Plate) : Option (S_Leaf × Int) :=
  (f_sheet_Valid t0).bind fun x1 =>
  cond (!x1) (
    some ((⟨(⟨(0 : Int), (0 : Int)⟩ : S_Label), [], []⟩ : S_Leaf), (250 : Int))) (
    (f_sheet_Front t0).bind fun x3 =>
    (f_sheet_Back t0).bind fun x4 =>
    G (inR (Int.tdiv t0.W (2 : Int))) <|
    (f_sheet_header x3 (Int.tdiv t0.W (2 : Int))).bind fun x6 =>
    cond (cond (!x6.2) true x6.1.Back) (
      some ((⟨(⟨(0 : Int), (0 : Int)⟩ : S_Label), [], []⟩ : S_Leaf), (250 : Int))) (
      cond (decide ((0 : Int) < (x4.length : Int))) (
        (f_sheet_header x4 (Int.tdiv t0.W (2 : Int))).bind fun x12 =>
        cond (cond (cond (!x12.2) true (!x12.1.Back)) true (xor true ([x12.1.Label.N == x6.1.Label.N, x12.1.Label.K == x6.1.Label.K].all id))) (
          some ((⟨(⟨(0 : Int), (0 : Int)⟩ : S_Label), [], []⟩ : S_Leaf), (250 : Int))) (
          f_sheet_Leaf_k1 (⟨(⟨(0 : Int), (0 : Int)⟩ : S_Label), [], []⟩ : S_Leaf) (⟨(⟨(0 : Int), (0 : Int)⟩ : S_Label), x3, x4⟩ : S_Leaf) x6.1)) (
        f_sheet_Leaf_k1 (⟨(⟨(0 : Int), (0 : Int)⟩ : S_Label), [], []⟩ : S_Leaf) (⟨(⟨(0 : Int), (0 : Int)⟩ : S_Label), x3, x4⟩ : S_Leaf) x6.1)))
abbrev qZ43 (t0 : S_Plate) : List AV := [.int .i64 t0.W, .int .i64 t0.H, slA (eL eB) t0.Up, slA (eL eB) t0.Down]
abbrev qZ44 (x6 : (S_Header × Bool)) : List AV := [.int .i64 x6.1.Width, .int .i64 x6.1.Label.N, .int .i64 x6.1.Label.K, .bool x6.1.Back, .int .i64 x6.1.Ink, .int .i64 x6.1.Part]
abbrev qZ45 (x3 : (List (List Int))) (x4 : (List (List Int))) : List AV := [.int .i64 0, .int .i64 0, slA (eL (eI .u8)) x3, slA (eL (eI .u8)) x4]
abbrev qZ46 (v10 : S_Header) (v9 : S_Leaf) : List AV := [.int .i64 v10.Label.N, .int .i64 v10.Label.K, slA (eL (eI .u8)) v9.Front, slA (eL (eI .u8)) v9.Back]
abbrev qZ47 (x12 : (S_Header × Bool)) : List AV := [.int .i64 x12.1.Width, .int .i64 x12.1.Label.N, .int .i64 x12.1.Label.K, .bool x12.1.Back, .int .i64 x12.1.Ink, .int .i64 x12.1.Part]
abbrev qZ48 (x12 : (S_Header × Bool))  := cond (!x12.2) true (!x12.1.Back)
abbrev qZ49 (v8 : S_Leaf) : List AV := [.int .i64 v8.Label.N, .int .i64 v8.Label.K, slA (eL (eI .u8)) v8.Front, slA (eL (eI .u8)) v8.Back]
abbrev qZ4a : List AV := [.int .i64 0, .int .i64 0, slA (eL (eI .u8)) [], slA (eL (eI .u8)) []]
theorem f_sheet_Leaf_ok  {t0 : S_Plate} {r : S_Leaf × Int} (H : f_sheet_Leaf t0 = some r) : QSpec Tryd.prog 25 [.agg (qZ43 t0)] (.tup [.agg [.int .i64 r.1.Label.N, .int .i64 r.1.Label.K, slA (eL (eI .u8)) r.1.Front, slA (eL (eI .u8)) r.1.Back], .int .i64 r.2]) := by
  refine Spec.of_AW Tryd.func25 rfl (by simp [Tryd.ntmps25]) ?_
  rw [Tryd.ntmps25]
  unfold f_sheet_Leaf at H
  change AW _ _ _ [(0, .agg (qZ43 t0))] [] _
  refine AW.regionSeq ?_
  refine OpsW.box rfl rfl rfl 1 rfl (okCb_sound (by kernel_rfl)) ?_
  change OpsW _ _ _ _ _ [(1, ⟨0, true, 47, 4, (qZ43 t0)⟩)] _
  refine OpsW.alloc' rfl rfl rfl 2 rfl (by kernel_rfl : zc Tryd.prog 39 = some [.int .i64 0, .int .i64 0, .slice none 0 0, .slice none 0 0]) (by kernel_rfl) ?_
  refine OpsW.seg 1 [2, 1] [] [(2, .ref 2 0 0), (1, .ref 1 0 0)] (by kernel_rfl) trivial ?_
  refine OpsW.recast (env' := [(2, .ref 2 0 0), (1, .ref 1 0 0)]) (h' := [(1, ⟨0, true, 47, 4, (qZ43 t0)⟩), (2, ⟨0, true, 39, 4, [.int .i64 0, .int .i64 0, .im (.val (.slice none 0 0)), .im (.val (.slice none 0 0))]⟩)]) (StC.mk (phi [(1, some 1), (2, some 2)]) (.old rfl rfl rfl rfl rfl (.i4 .nil) (.old rfl rfl rfl rfl rfl (.i4 .nil) .nil)) rfl (.cons (.ref rfl rfl rfl rfl rfl) (.cons (.ref rfl rfl rfl rfl rfl) .nil))) ?_
  refine OpsW.nil ?_
  refine AW.seq ?_
  refine AW.regionSeq ?_
  refine OpsW.seg 1 [9, 2, 1] [] [(9, .agg (qZ43 t0)), (2, .ref 2 0 0), (1, .ref 1 0 0)] (by kernel_rfl) trivial ?_
  obtain ⟨x1, hx1, H⟩ := bindS H
  refine OpsW.qcall rfl (by kernel_rfl) rfl rfl (glAll_sound trivial) (.cons (.pur rfl) .nil) (f_sheet_Valid_ok hx1) rfl ?_
  refine OpsW.seg 1 [11, 2, 1] [] [(11, .bool (!x1)), (2, .ref 2 0 0), (1, .ref 1 0 0)] (by kernel_rfl) trivial ?_
  refine OpsW.nil ?_
  refine AW.cond (b := !x1) rfl (fun c2 => ?_) (fun c2 => ?_)
  · replace H := condT c2 H
    refine AW.regionSeq ?_
    refine OpsW.seg 1 [12, 2] [] [(12, .agg [.int .i64 0, .int .i64 0, .im (.val (.slice none 0 0)), .im (.val (.slice none 0 0))]), (2, .ref 2 0 0)] (by kernel_rfl) trivial ?_
    refine OpsW.store rfl rfl rfl rfl trivial trivial rfl rfl rfl (by kernel_rfl) (okCb_sound (by kernel_rfl)) (Nat.le_of_ble_eq_true (by kernel_rfl)) ?_
    change OpsW _ _ _ _ _ [(2, ⟨0, true, 39, 4, [.int .i64 0, .int .i64 0, .im (.val (.slice none 0 0)), .im (.val (.slice none 0 0))]⟩), (1, ⟨0, true, 47, 4, (qZ43 t0)⟩), (2, ⟨0, true, 39, 4, [.int .i64 0, .int .i64 0, .im (.val (.slice none 0 0)), .im (.val (.slice none 0 0))]⟩)] _
    refine OpsW.seg 1 [3, 2] [] [(3, .int .i64 250), (2, .ref 2 0 0)] (by kernel_rfl) trivial ?_
    refine OpsW.recast (env' := [(3, .int .i64 250), (2, .ref 2 0 0)]) (h' := [(2, ⟨0, true, 39, 4, [.int .i64 0, .int .i64 0, .im (.val (.slice none 0 0)), .im (.val (.slice none 0 0))]⟩)]) (StC.mk (phi [(2, some 2)]) (.old rfl rfl rfl rfl rfl (.i4 .nil) .nil) rfl (.cons .im (.cons (.ref rfl rfl rfl rfl rfl) .nil))) ?_
    refine OpsW.nil ?_
    obtain rfl := Option.some.inj H
    refine AW.recast (env' := [(2, .ref 2 0 0), (3, .int .i64 250)]) (h' := [(2, ⟨0, true, 39, 4, qZ4a⟩)]) (StC.mk (phi [(2, some 2)]) (.old rfl rfl rfl rfl rfl (.i2 (.cons .nil (.cons .nil .nil))) .nil) rfl (.cons (.ref rfl rfl rfl rfl rfl) (.cons .im .nil))) ?_
    refine AW.ret ?_
    try simp only [Ex.then, Ex.inBlock, Ex.noGoto, Ex.jump, reduceIte, Nat.reduceEqDiff, reduceCtorEq]
    refine Done.gen rfl (.cell rfl (by kernel_rfl) (.tmp .nil)) ?_
    show _ = _
    kernel_rfl
  · replace H := condF c2 H
    refine AW.skip ?_
    refine AW.drawGSeq 6 [(5, 4)] Tryd.checked.mixed (by kernel_rfl) (by kernel_rfl) ?_
    refine DOps.q 5 (by kernel_rfl) ?_
    refine QOps.seg (N := 66) 1 [] [(13, .agg (qZ43 t0)), (11, .bool (!x1)), (2, .ref 2 0 0), (1, .ref 1 0 0)] (by kernel_rfl) trivial ?_
    obtain ⟨x3, hx3, H⟩ := bindS H
    refine QOps.qcall rfl (by kernel_rfl) rfl (glAll_sound trivial) (.cons (.pur rfl) .nil) (f_sheet_Front_ok hx3) rfl ?_
    refine QOps.seg (N := 66) 1 [] [(15, .agg (qZ43 t0)), (14, slA (eL (eI .u8)) x3), (13, .agg (qZ43 t0)), (11, .bool (!x1)), (2, .ref 2 0 0), (1, .ref 1 0 0)] (by kernel_rfl) trivial ?_
    obtain ⟨x4, hx4, H⟩ := bindS H
    refine QOps.qcall rfl (by kernel_rfl) rfl (glAll_sound trivial) (.cons (.pur rfl) .nil) (f_sheet_Back_ok hx4) rfl ?_
    refine QOps.seg (N := 66) 1 [] [(17, .agg (qZ45 x3 x4)), (16, slA (eL (eI .u8)) x4), (15, .agg (qZ43 t0)), (14, slA (eL (eI .u8)) x3), (13, .agg (qZ43 t0)), (11, .bool (!x1)), (2, .ref 2 0 0), (1, .ref 1 0 0)] (by kernel_rfl) trivial ?_
    refine QOps.nil ?_
    refine DOps.e 4 rfl rfl rfl (by exact fun g hg hb => RStep.alloc rfl 4 (hg.trans rfl) (by kernel_rfl : zc Tryd.prog 39 = some [.int .i64 0, .int .i64 0, .slice none 0 0, .slice none 0 0]) (by kernel_rfl)) ?_
    refine DOps.nil ?_
    refine OpsW.seg 0 [4, 17, 2, 1] [] [(4, .ref 4 0 0), (17, .agg (qZ45 x3 x4)), (2, .ref 2 0 0), (1, .ref 1 0 0)] (by kernel_rfl) trivial ?_
    refine OpsW.store rfl rfl rfl rfl trivial trivial rfl rfl rfl (by kernel_rfl) (okCb_sound (by kernel_rfl)) (Nat.le_of_ble_eq_true (by kernel_rfl)) ?_
    change OpsW _ _ _ _ _ [(4, ⟨0, true, 39, 4, (qZ45 x3 x4)⟩), (4, ⟨0, true, 39, 4, [.int .i64 0, .int .i64 0, .im (.val (.slice none 0 0)), .im (.val (.slice none 0 0))]⟩), (1, ⟨0, true, 47, 4, (qZ43 t0)⟩), (2, ⟨0, true, 39, 4, [.int .i64 0, .int .i64 0, .im (.val (.slice none 0 0)), .im (.val (.slice none 0 0))]⟩)] _
    refine OpsW.seg 0 [4, 2, 1] [] [(4, .ref 4 0 0), (2, .ref 2 0 0), (1, .ref 1 0 0)] (by kernel_rfl) trivial ?_
    refine OpsW.recast (env' := [(4, .ref 4 0 0), (2, .ref 2 0 0), (1, .ref 1 0 0)]) (h' := [(1, ⟨0, true, 47, 4, (qZ43 t0)⟩), (2, ⟨0, true, 39, 4, [.int .i64 0, .int .i64 0, .im (.val (.slice none 0 0)), .im (.val (.slice none 0 0))]⟩), (4, ⟨0, true, 39, 4, (qZ45 x3 x4)⟩)]) (StC.mk (phi [(1, some 1), (2, some 2), (4, some 4)]) (.old rfl rfl rfl rfl rfl (.i4 .nil) (.old rfl rfl rfl rfl rfl (.i4 .nil) (.old rfl rfl rfl rfl rfl (.i4 .nil) .nil))) rfl (.cons (.ref rfl rfl rfl rfl rfl) (.cons (.ref rfl rfl rfl rfl rfl) (.cons (.ref rfl rfl rfl rfl rfl) .nil)))) ?_
    refine OpsW.nil ?_
    refine AW.regionSeq ?_
    obtain ⟨g5, H⟩ := G_some H
    refine OpsW.seg 5 [23, 20, 4, 2, 1] [(2 : Int) ≠ 0, inR (Int.tdiv t0.W (2 : Int))] [(23, .int .i64 (Int.tdiv t0.W (2 : Int))), (20, slA (eL (eI .u8)) x3), (4, .ref 4 0 0), (2, .ref 2 0 0), (1, .ref 1 0 0)] (by kernel_rfl) ⟨(by decide), g5, trivial⟩ ?_
    obtain ⟨x6, hx6, H⟩ := bindS H
    refine OpsW.qcall rfl (by kernel_rfl) rfl rfl (glAll_sound trivial) (.cons (.pur rfl) (.cons (.pur rfl) .nil)) (f_sheet_header_ok hx6) rfl ?_
    refine OpsW.seg 3 [26, 25, 4, 2, 1] [] [(26, .bool x6.2), (25, .agg (qZ44 x6)), (4, .ref 4 0 0), (2, .ref 2 0 0), (1, .ref 1 0 0)] (by kernel_rfl) trivial ?_
    refine OpsW.alloc' rfl rfl rfl 5 rfl (by kernel_rfl : zc Tryd.prog 86 = some [.int .i64 0, .int .i64 0, .int .i64 0, .bool false, .int .i64 0, .int .i64 0]) (by kernel_rfl) ?_
    refine OpsW.store rfl rfl rfl rfl trivial trivial rfl rfl rfl (by kernel_rfl) (okCb_sound (by kernel_rfl)) (Nat.le_of_ble_eq_true (by kernel_rfl)) ?_
    change OpsW _ _ _ _ _ [(5, ⟨0, true, 86, 6, (qZ44 x6)⟩), (5, ⟨0, true, 86, 6, [.int .i64 0, .int .i64 0, .int .i64 0, .bool false, .int .i64 0, .int .i64 0]⟩), (1, ⟨0, true, 47, 4, (qZ43 t0)⟩), (2, ⟨0, true, 39, 4, [.int .i64 0, .int .i64 0, .im (.val (.slice none 0 0)), .im (.val (.slice none 0 0))]⟩), (4, ⟨0, true, 39, 4, (qZ45 x3 x4)⟩)] _
    refine OpsW.seg 1 [6, 5, 4, 2, 1] [] [(6, .bool x6.2), (5, .ref 5 0 0), (4, .ref 4 0 0), (2, .ref 2 0 0), (1, .ref 1 0 0)] (by kernel_rfl) trivial ?_
    refine OpsW.recast (env' := [(6, .bool x6.2), (5, .ref 5 0 0), (4, .ref 4 0 0), (2, .ref 2 0 0), (1, .ref 1 0 0)]) (h' := [(1, ⟨0, true, 47, 4, (qZ43 t0)⟩), (2, ⟨0, true, 39, 4, [.int .i64 0, .int .i64 0, .im (.val (.slice none 0 0)), .im (.val (.slice none 0 0))]⟩), (4, ⟨0, true, 39, 4, (qZ45 x3 x4)⟩), (5, ⟨0, true, 86, 6, (qZ44 x6)⟩)]) (StC.mk (phi [(1, some 1), (2, some 2), (4, some 4), (5, some 5)]) (.old rfl rfl rfl rfl rfl (.i4 .nil) (.old rfl rfl rfl rfl rfl (.i4 .nil) (.old rfl rfl rfl rfl rfl (.i4 .nil) (.old rfl rfl rfl rfl rfl (.i6 .nil) .nil)))) rfl (.cons .im (.cons (.ref rfl rfl rfl rfl rfl) (.cons (.ref rfl rfl rfl rfl rfl) (.cons (.ref rfl rfl rfl rfl rfl) (.cons (.ref rfl rfl rfl rfl rfl) .nil)))))) ?_
    refine OpsW.nil ?_
    refine AW.seq ?_
    refine AW.regionSeq ?_
    refine OpsW.seg 6 [32, 5, 4, 2, 1] [(!(!x6.2)) = true → (!(!x6.2)) = true, (!x6.2) = false → (!(!x6.2)) = true] [(32, .bool (cond (!x6.2) true x6.1.Back)), (5, .ref 5 0 0), (4, .ref 4 0 0), (2, .ref 2 0 0), (1, .ref 1 0 0)] (by kernel_rfl) ⟨(fun h => h), (fun h => by first | exact h | (simpa using h) | grind), trivial⟩ ?_
    refine OpsW.nil ?_
    refine AW.cond (b := cond (!x6.2) true x6.1.Back) rfl (fun c7 => ?_) (fun c7 => ?_)
    · replace H := condT c7 H
      refine AW.regionSeq ?_
      refine OpsW.seg 1 [33, 2] [] [(33, .agg [.int .i64 0, .int .i64 0, .im (.val (.slice none 0 0)), .im (.val (.slice none 0 0))]), (2, .ref 2 0 0)] (by kernel_rfl) trivial ?_
      refine OpsW.store rfl rfl rfl rfl trivial trivial rfl rfl rfl (by kernel_rfl) (okCb_sound (by kernel_rfl)) (Nat.le_of_ble_eq_true (by kernel_rfl)) ?_
      change OpsW _ _ _ _ _ [(2, ⟨0, true, 39, 4, [.int .i64 0, .int .i64 0, .im (.val (.slice none 0 0)), .im (.val (.slice none 0 0))]⟩), (1, ⟨0, true, 47, 4, (qZ43 t0)⟩), (2, ⟨0, true, 39, 4, [.int .i64 0, .int .i64 0, .im (.val (.slice none 0 0)), .im (.val (.slice none 0 0))]⟩), (4, ⟨0, true, 39, 4, (qZ45 x3 x4)⟩), (5, ⟨0, true, 86, 6, (qZ44 x6)⟩)] _
      refine OpsW.seg 1 [3, 2] [] [(3, .int .i64 250), (2, .ref 2 0 0)] (by kernel_rfl) trivial ?_
      refine OpsW.recast (env' := [(3, .int .i64 250), (2, .ref 2 0 0)]) (h' := [(2, ⟨0, true, 39, 4, [.int .i64 0, .int .i64 0, .im (.val (.slice none 0 0)), .im (.val (.slice none 0 0))]⟩)]) (StC.mk (phi [(2, some 2)]) (.old rfl rfl rfl rfl rfl (.i4 .nil) .nil) rfl (.cons .im (.cons (.ref rfl rfl rfl rfl rfl) .nil))) ?_
      refine OpsW.nil ?_
      obtain rfl := Option.some.inj H
      refine AW.recast (env' := [(2, .ref 2 0 0), (3, .int .i64 250)]) (h' := [(2, ⟨0, true, 39, 4, qZ4a⟩)]) (StC.mk (phi [(2, some 2)]) (.old rfl rfl rfl rfl rfl (.i2 (.cons .nil (.cons .nil .nil))) .nil) rfl (.cons (.ref rfl rfl rfl rfl rfl) (.cons .im .nil))) ?_
      refine AW.ret ?_
      try simp only [Ex.then, Ex.inBlock, Ex.noGoto, Ex.jump, reduceIte, Nat.reduceEqDiff, reduceCtorEq]
      refine Done.gen rfl (.cell rfl (by kernel_rfl) (.tmp .nil)) ?_
      show _ = _
      kernel_rfl
    · replace H := condF c7 H
      refine AW.skip ?_
      refine AW.joinK (fun (y : S_Leaf × S_Leaf × S_Header) => f_sheet_Leaf_k1 y.1 y.2.1 y.2.2) r (fun (y : S_Leaf × S_Leaf × S_Header) => [(2, .ref 2 0 0), (4, .ref 4 0 0), (5, .ref 5 0 0)]) (fun (y : S_Leaf × S_Leaf × S_Header) => [(2, ⟨0, true, 39, 4, [.int .i64 y.1.Label.N, .int .i64 y.1.Label.K, slA (eL (eI .u8)) y.1.Front, slA (eL (eI .u8)) y.1.Back]⟩), (4, ⟨0, true, 39, 4, [.int .i64 y.2.1.Label.N, .int .i64 y.2.1.Label.K, slA (eL (eI .u8)) y.2.1.Front, slA (eL (eI .u8)) y.2.1.Back]⟩), (5, ⟨0, true, 86, 6, [.int .i64 y.2.2.Width, .int .i64 y.2.2.Label.N, .int .i64 y.2.2.Label.K, .bool y.2.2.Back, .int .i64 y.2.2.Ink, .int .i64 y.2.2.Part]⟩)]) ?_ ?_
      · refine AW.regionSeq ?_
        refine OpsW.seg 4 [37, 5, 4, 2, 1] [] [(37, .bool (decide ((0 : Int) < (x4.length : Int)))), (5, .ref 5 0 0), (4, .ref 4 0 0), (2, .ref 2 0 0), (1, .ref 1 0 0)] (by kernel_rfl) trivial ?_
        refine OpsW.nil ?_
        refine AW.cond (b := decide ((0 : Int) < (x4.length : Int))) rfl (fun c11 => ?_) (fun c11 => ?_)
        · replace H := condT c11 H
          refine AW.regionSeq ?_
          refine OpsW.seg 5 [43, 40, 5, 4, 2] [(2 : Int) ≠ 0, inR (Int.tdiv t0.W (2 : Int))] [(43, .int .i64 (Int.tdiv t0.W (2 : Int))), (40, slA (eL (eI .u8)) x4), (5, .ref 5 0 0), (4, .ref 4 0 0), (2, .ref 2 0 0)] (by kernel_rfl) ⟨(by decide), g5, trivial⟩ ?_
          obtain ⟨x12, hx12, H⟩ := bindS H
          refine OpsW.qcall rfl (by kernel_rfl) rfl rfl (glAll_sound trivial) (.cons (.pur rfl) (.cons (.pur rfl) .nil)) (f_sheet_header_ok hx12) rfl ?_
          refine OpsW.seg 3 [46, 45, 5, 4, 2] [] [(46, .bool x12.2), (45, .agg (qZ47 x12)), (5, .ref 5 0 0), (4, .ref 4 0 0), (2, .ref 2 0 0)] (by kernel_rfl) trivial ?_
          refine OpsW.alloc' rfl rfl rfl 7 rfl (by kernel_rfl : zc Tryd.prog 86 = some [.int .i64 0, .int .i64 0, .int .i64 0, .bool false, .int .i64 0, .int .i64 0]) (by kernel_rfl) ?_
          refine OpsW.store rfl rfl rfl rfl trivial trivial rfl rfl rfl (by kernel_rfl) (okCb_sound (by kernel_rfl)) (Nat.le_of_ble_eq_true (by kernel_rfl)) ?_
          change OpsW _ _ _ _ _ [(7, ⟨0, true, 86, 6, (qZ47 x12)⟩), (7, ⟨0, true, 86, 6, [.int .i64 0, .int .i64 0, .int .i64 0, .bool false, .int .i64 0, .int .i64 0]⟩), (1, ⟨0, true, 47, 4, (qZ43 t0)⟩), (2, ⟨0, true, 39, 4, [.int .i64 0, .int .i64 0, .im (.val (.slice none 0 0)), .im (.val (.slice none 0 0))]⟩), (4, ⟨0, true, 39, 4, (qZ45 x3 x4)⟩), (5, ⟨0, true, 86, 6, (qZ44 x6)⟩)] _
          refine OpsW.seg 1 [8, 7, 5, 4, 2] [] [(8, .bool x12.2), (7, .ref 7 0 0), (5, .ref 5 0 0), (4, .ref 4 0 0), (2, .ref 2 0 0)] (by kernel_rfl) trivial ?_
          refine OpsW.recast (env' := [(8, .bool x12.2), (7, .ref 7 0 0), (5, .ref 5 0 0), (4, .ref 4 0 0), (2, .ref 2 0 0)]) (h' := [(2, ⟨0, true, 39, 4, [.int .i64 0, .int .i64 0, .im (.val (.slice none 0 0)), .im (.val (.slice none 0 0))]⟩), (4, ⟨0, true, 39, 4, (qZ45 x3 x4)⟩), (5, ⟨0, true, 86, 6, (qZ44 x6)⟩), (7, ⟨0, true, 86, 6, (qZ47 x12)⟩)]) (StC.mk (phi [(2, some 2), (4, some 4), (5, some 5), (7, some 7)]) (.old rfl rfl rfl rfl rfl (.i4 .nil) (.old rfl rfl rfl rfl rfl (.i4 .nil) (.old rfl rfl rfl rfl rfl (.i6 .nil) (.old rfl rfl rfl rfl rfl (.i6 .nil) .nil)))) rfl (.cons .im (.cons (.ref rfl rfl rfl rfl rfl) (.cons (.ref rfl rfl rfl rfl rfl) (.cons (.ref rfl rfl rfl rfl rfl) (.cons (.ref rfl rfl rfl rfl rfl) .nil)))))) ?_
          refine OpsW.nil ?_
          refine AW.regionSeq ?_
          refine OpsW.seg 12 [58, 56, 54, 5, 4, 2] [(!(!x12.2)) = true → (!(!x12.2)) = true, (!(!x12.2)) = true → (!(!x12.2)) = true, (!x12.2) = false → (!(!x12.2)) = true, (!(qZ48 x12)) = true → (!(qZ48 x12)) = true, (!(qZ48 x12)) = true → (!(qZ48 x12)) = true] [(58, .cnd (!(qZ48 x12)) (.agg [.int .i64 x6.1.Label.N, .int .i64 x6.1.Label.K])), (56, .cnd (!(qZ48 x12)) (.agg [.int .i64 x12.1.Label.N, .int .i64 x12.1.Label.K])), (54, .bool (qZ48 x12)), (5, .ref 5 0 0), (4, .ref 4 0 0), (2, .ref 2 0 0)] (by kernel_rfl) ⟨(fun h => h), (fun h => h), (fun h => by first | exact h | (simpa using h) | grind), (fun h => h), (fun h => h), trivial⟩ ?_
          refine OpsW.quietG (c := !(qZ48 x12)) (.bool (xor true ([x12.1.Label.N == x6.1.Label.N, x12.1.Label.K == x6.1.Label.K].all id))) rfl rfl rfl rfl (Quiet.eqAgg [.int .i64 x12.1.Label.N, .int .i64 x12.1.Label.K] [.int .i64 x6.1.Label.N, .int .i64 x6.1.Label.K] [x12.1.Label.N == x6.1.Label.N, x12.1.Label.K == x6.1.Label.K] true rfl rfl (by kernel_rfl) (by kernel_rfl) (gpoG (c := !(qZ48 x12)) rfl rfl rfl (fun hc => ⟨hc, rfl, hc, rfl⟩))) ?_
          refine OpsW.seg 1 [60, 5, 4, 2] [(qZ48 x12) = false → (!(qZ48 x12)) = true] [(60, .bool (cond (qZ48 x12) true (xor true ([x12.1.Label.N == x6.1.Label.N, x12.1.Label.K == x6.1.Label.K].all id)))), (5, .ref 5 0 0), (4, .ref 4 0 0), (2, .ref 2 0 0)] (by kernel_rfl) ⟨(fun h => by first | exact h | (simpa using h) | grind), trivial⟩ ?_
          refine OpsW.nil ?_
          refine AW.cond (b := cond (qZ48 x12) true (xor true ([x12.1.Label.N == x6.1.Label.N, x12.1.Label.K == x6.1.Label.K].all id))) rfl (fun c13 => ?_) (fun c13 => ?_)
          · replace H := condT c13 H
            refine AW.regionSeq ?_
            refine OpsW.seg 1 [61, 2] [] [(61, .agg [.int .i64 0, .int .i64 0, .im (.val (.slice none 0 0)), .im (.val (.slice none 0 0))]), (2, .ref 2 0 0)] (by kernel_rfl) trivial ?_
            refine OpsW.store rfl rfl rfl rfl trivial trivial rfl rfl rfl (by kernel_rfl) (okCb_sound (by kernel_rfl)) (Nat.le_of_ble_eq_true (by kernel_rfl)) ?_
            change OpsW _ _ _ _ _ [(2, ⟨0, true, 39, 4, [.int .i64 0, .int .i64 0, .im (.val (.slice none 0 0)), .im (.val (.slice none 0 0))]⟩), (2, ⟨0, true, 39, 4, [.int .i64 0, .int .i64 0, .im (.val (.slice none 0 0)), .im (.val (.slice none 0 0))]⟩), (4, ⟨0, true, 39, 4, (qZ45 x3 x4)⟩), (5, ⟨0, true, 86, 6, (qZ44 x6)⟩), (7, ⟨0, true, 86, 6, (qZ47 x12)⟩)] _
            refine OpsW.seg 1 [3, 2] [] [(3, .int .i64 250), (2, .ref 2 0 0)] (by kernel_rfl) trivial ?_
            refine OpsW.recast (env' := [(3, .int .i64 250), (2, .ref 2 0 0)]) (h' := [(2, ⟨0, true, 39, 4, [.int .i64 0, .int .i64 0, .im (.val (.slice none 0 0)), .im (.val (.slice none 0 0))]⟩)]) (StC.mk (phi [(2, some 2)]) (.old rfl rfl rfl rfl rfl (.i4 .nil) .nil) rfl (.cons .im (.cons (.ref rfl rfl rfl rfl rfl) .nil))) ?_
            refine OpsW.nil ?_
            obtain rfl := Option.some.inj H
            refine AW.recast (env' := [(2, .ref 2 0 0), (3, .int .i64 250)]) (h' := [(2, ⟨0, true, 39, 4, qZ4a⟩)]) (StC.mk (phi [(2, some 2)]) (.old rfl rfl rfl rfl rfl (.i2 (.cons .nil (.cons .nil .nil))) .nil) rfl (.cons (.ref rfl rfl rfl rfl rfl) (.cons .im .nil))) ?_
            refine AW.ret ?_
            try simp only [Ex.then, Ex.inBlock, Ex.noGoto, Ex.jump, reduceIte, Nat.reduceEqDiff, reduceCtorEq]
            refine Done.gen rfl (.cell rfl (by kernel_rfl) (.tmp .nil)) ?_
            show _ = _
            kernel_rfl
          · replace H := condF c13 H
            refine AW.skip ?_
            show ∃ y, _ ∧ StC _ _ _ _
            exact ⟨((⟨(⟨(0 : Int), (0 : Int)⟩ : S_Label), [], []⟩ : S_Leaf), (⟨(⟨(0 : Int), (0 : Int)⟩ : S_Label), x3, x4⟩ : S_Leaf), x6.1), H, (StC.mk (phi [(2, some 2), (4, some 4), (5, some 5)]) (.old rfl rfl rfl rfl rfl (.i2 (.cons .nil (.cons .nil .nil))) (.old rfl rfl rfl rfl rfl (.i4 .nil) (.old rfl rfl rfl rfl rfl (.i6 .nil) .nil))) rfl (.cons (.ref rfl rfl rfl rfl rfl) (.cons (.ref rfl rfl rfl rfl rfl) (.cons (.ref rfl rfl rfl rfl rfl) .nil))))⟩
        · replace H := condF c11 H
          refine AW.skip ?_
          show ∃ y, _ ∧ StC _ _ _ _
          exact ⟨((⟨(⟨(0 : Int), (0 : Int)⟩ : S_Label), [], []⟩ : S_Leaf), (⟨(⟨(0 : Int), (0 : Int)⟩ : S_Label), x3, x4⟩ : S_Leaf), x6.1), H, (StC.mk (phi [(2, some 2), (4, some 4), (5, some 5)]) (.old rfl rfl rfl rfl rfl (.i2 (.cons .nil (.cons .nil .nil))) (.old rfl rfl rfl rfl rfl (.i4 .nil) (.old rfl rfl rfl rfl rfl (.i6 .nil) .nil))) rfl (.cons (.ref rfl rfl rfl rfl rfl) (.cons (.ref rfl rfl rfl rfl rfl) (.cons (.ref rfl rfl rfl rfl rfl) .nil))))⟩
      · rintro ⟨v8, v9, v10⟩ H
        change f_sheet_Leaf_k1 v8 v9 v10 = some r at H
        unfold f_sheet_Leaf_k1 at H
        change AW _ _ _ [(2, .ref 2 0 0), (4, .ref 4 0 0), (5, .ref 5 0 0)] [(2, ⟨0, true, 39, 4, (qZ49 v8)⟩), (4, ⟨0, true, 39, 4, [.int .i64 v9.Label.N, .int .i64 v9.Label.K, slA (eL (eI .u8)) v9.Front, slA (eL (eI .u8)) v9.Back]⟩), (5, ⟨0, true, 86, 6, [.int .i64 v10.Width, .int .i64 v10.Label.N, .int .i64 v10.Label.K, .bool v10.Back, .int .i64 v10.Ink, .int .i64 v10.Part]⟩)] _
        refine AW.regionSeq ?_
        refine OpsW.seg 3 [64, 63, 2, 4] [] [(64, .ref 4 0 0), (63, .agg [.int .i64 v10.Label.N, .int .i64 v10.Label.K]), (2, .ref 2 0 0), (4, .ref 4 0 0)] (by kernel_rfl) trivial ?_
        refine OpsW.store rfl rfl rfl rfl trivial trivial rfl rfl rfl (by kernel_rfl) (okCb_sound (by kernel_rfl)) (Nat.le_of_ble_eq_true (by kernel_rfl)) ?_
        change OpsW _ _ _ _ _ [(4, ⟨0, true, 39, 4, (qZ46 v10 v9)⟩), (2, ⟨0, true, 39, 4, (qZ49 v8)⟩), (4, ⟨0, true, 39, 4, [.int .i64 v9.Label.N, .int .i64 v9.Label.K, slA (eL (eI .u8)) v9.Front, slA (eL (eI .u8)) v9.Back]⟩), (5, ⟨0, true, 86, 6, [.int .i64 v10.Width, .int .i64 v10.Label.N, .int .i64 v10.Label.K, .bool v10.Back, .int .i64 v10.Ink, .int .i64 v10.Part]⟩)] _
        refine OpsW.seg 0 [2, 4] [] [(2, .ref 2 0 0), (4, .ref 4 0 0)] (by kernel_rfl) trivial ?_
        refine OpsW.recast (env' := [(2, .ref 2 0 0), (4, .ref 4 0 0)]) (h' := [(2, ⟨0, true, 39, 4, (qZ49 v8)⟩), (4, ⟨0, true, 39, 4, (qZ46 v10 v9)⟩)]) (StC.mk (phi [(2, some 2), (4, some 4)]) (.old rfl rfl rfl rfl rfl (.i4 .nil) (.old rfl rfl rfl rfl rfl (.i4 .nil) .nil)) rfl (.cons (.ref rfl rfl rfl rfl rfl) (.cons (.ref rfl rfl rfl rfl rfl) .nil))) ?_
        refine OpsW.nil ?_
        refine AW.regionSeq ?_
        refine OpsW.seg 1 [65, 2] [] [(65, .agg (qZ46 v10 v9)), (2, .ref 2 0 0)] (by kernel_rfl) trivial ?_
        refine OpsW.store rfl rfl rfl rfl trivial trivial rfl rfl rfl (by kernel_rfl) (okCb_sound (by kernel_rfl)) (Nat.le_of_ble_eq_true (by kernel_rfl)) ?_
        change OpsW _ _ _ _ _ [(2, ⟨0, true, 39, 4, (qZ46 v10 v9)⟩), (2, ⟨0, true, 39, 4, (qZ49 v8)⟩), (4, ⟨0, true, 39, 4, (qZ46 v10 v9)⟩)] _
        refine OpsW.seg 1 [3, 2] [] [(3, .int .i64 0), (2, .ref 2 0 0)] (by kernel_rfl) trivial ?_
        refine OpsW.recast (env' := [(3, .int .i64 0), (2, .ref 2 0 0)]) (h' := [(2, ⟨0, true, 39, 4, (qZ46 v10 v9)⟩)]) (StC.mk (phi [(2, some 2)]) (.old rfl rfl rfl rfl rfl (.i4 .nil) .nil) rfl (.cons .im (.cons (.ref rfl rfl rfl rfl rfl) .nil))) ?_
        refine OpsW.nil ?_
        obtain rfl := Option.some.inj H
        refine AW.recast (env' := [(2, .ref 2 0 0), (3, .int .i64 0)]) (h' := [(2, ⟨0, true, 39, 4, (qZ46 v10 v9)⟩)]) (StC.mk (phi [(2, some 2)]) (.old rfl rfl rfl rfl rfl (.i4 .nil) .nil) rfl (.cons (.ref rfl rfl rfl rfl rfl) (.cons .im .nil))) ?_
        refine AW.ret ?_
        try simp only [Ex.then, Ex.inBlock, Ex.noGoto, Ex.jump, reduceIte, Nat.reduceEqDiff, reduceCtorEq]
        refine Done.gen rfl (.cell rfl (by kernel_rfl) (.tmp .nil)) ?_
        show _ = _
        kernel_rfl
def f_R25_sameRows_b1 (t0 : List (List Bool)) (t1 : List (List Bool)) (loop3 : (Int) → Option Bool) (v2 : Int) (loop9 : (Int) → Option Bool) (v8 : Int) : Option Bool :=
  cond (decide (v8 < ((t0.getD v2.toNat []).length : Int))) (
    G (0 ≤ v8 ∧ v8 < ((t0.getD v2.toNat []).length : Int)) <|
    G (0 ≤ v8 ∧ v8 < ((t1.getD v2.toNat []).length : Int)) <|
    cond (((t0.getD v2.toNat []).getD v8.toNat false) != ((t1.getD v2.toNat []).getD v8.toNat false)) (
      some false) (
      G (inR (v8 + (1 : Int))) <|
      loop9 (v8 + (1 : Int)))) (
    G (inR (v2 + (1 : Int))) <|
    loop3 (v2 + (1 : Int)))
def f_R25_sameRows_b2 (t0 : List (List Bool)) (t1 : List (List Bool)) (loop3 : (Int) → Option Bool) (v2 : Int) : Option Bool :=
  cond (decide (v2 < (t0.length : Int))) (
    G (0 ≤ v2 ∧ v2 < (t0.length : Int)) <|
    G (0 ≤ v2 ∧ v2 < (t1.length : Int)) <|
    cond (((t0.getD v2.toNat []).length : Int) != ((t1.getD v2.toNat []).length : Int)) (
      some false) (
      iter (fun loop (s : Int) => f_R25_sameRows_b1 t0 t1 loop3 v2 loop s) 1000000 (0 : Int))) (
    some true)
def f_R25_sameRows (t0 : List (List Bool)) (t1 : List (List Bool)) : Option Bool :=
  cond ((t0.length : Int) != (t1.length : Int)) (
    some false) (
    iter (fun loop (s : Int) => f_R25_sameRows_b2 t0 t1 loop s) 1000000 (0 : Int))
abbrev qZ4b (t0 : List (List Bool)) (v2 : Int)  := ((t0.getD v2.toNat []).length : Int)
abbrev qZ4c (t0 : List (List Bool)) (v2 : Int) (v8 : Int)  := (t0.getD v2.toNat []).getD v8.toNat false
theorem f_R25_sameRows_ok  {t0 : List (List Bool)} {t1 : List (List Bool)} {r : Bool} (H : f_R25_sameRows t0 t1 = some r) : QSpec Tryd.prog 36 [slA (eL eB) t0, slA (eL eB) t1] (.bool r) := by
  refine Spec.of_AW Tryd.func36 rfl (by simp [Tryd.ntmps36]) ?_
  rw [Tryd.ntmps36]
  unfold f_R25_sameRows at H
  change AW _ _ _ [(0, slA (eL eB) t0), (1, slA (eL eB) t1)] [] _
  refine AW.regionSeq ?_
  refine OpsW.seg 1 [0, 1] [] [(0, slA (eL eB) t0), (1, slA (eL eB) t1)] (by kernel_rfl) trivial ?_
  refine OpsW.nil ?_
  refine AW.seq ?_
  refine AW.regionSeq ?_
  refine OpsW.seg 5 [11, 0, 1] [] [(11, .bool ((t0.length : Int) != (t1.length : Int))), (0, slA (eL eB) t0), (1, slA (eL eB) t1)] (by kernel_rfl) trivial ?_
  refine OpsW.nil ?_
  refine AW.cond (b := (t0.length : Int) != (t1.length : Int)) rfl (fun c1 => ?_) (fun c1 => ?_)
  · replace H := condT c1 H
    refine AW.regionSeq ?_
    refine OpsW.seg 1 [4] [] [(4, .bool false)] (by kernel_rfl) trivial ?_
    refine OpsW.nil ?_
    obtain rfl := Option.some.inj H
    refine AW.recast (env' := [(4, .bool false)]) (h' := []) (StC.pure (.cons .im .nil)) ?_
    refine AW.ret ?_
    try simp only [Ex.then, Ex.inBlock, Ex.noGoto, Ex.jump, reduceIte, Nat.reduceEqDiff, reduceCtorEq]
    refine Done.gen rfl (.tmp .nil) ?_
    show _ = _
    kernel_rfl
  · replace H := condF c1 H
    refine AW.skip ?_
    refine AW.seq ?_
    refine AW.regionSeq ?_
    refine OpsW.seg 1 [5, 0, 1] [] [(5, .int .i64 0), (0, slA (eL eB) t0), (1, slA (eL eB) t1)] (by kernel_rfl) trivial ?_
    refine OpsW.nil ?_
    refine AW.block ?_
    refine AW.iterK (fun loop (s : Int) => f_R25_sameRows_b2 t0 t1 loop s) r (fun (s : Int) => [(0, slA (eL eB) t0), (1, slA (eL eB) t1), (5, .int .i64 s)]) (fun (s : Int) => []) ?_ 1000000 (0 : Int) H (StC.pure (.i3 .nil))
    intro loop3 v2 H
    change f_R25_sameRows_b2 t0 t1 loop3 v2 = some r at H
    unfold f_R25_sameRows_b2 at H
    change AW _ _ _ [(0, slA (eL eB) t0), (1, slA (eL eB) t1), (5, .int .i64 v2)] [] _
    refine AW.seq ?_
    refine AW.regionSeq ?_
    refine OpsW.seg 4 [15, 0, 1, 5] [] [(15, .bool (decide (v2 < (t0.length : Int)))), (0, slA (eL eB) t0), (1, slA (eL eB) t1), (5, .int .i64 v2)] (by kernel_rfl) trivial ?_
    refine OpsW.nil ?_
    refine AW.cond (b := decide (v2 < (t0.length : Int))) rfl (fun c4 => ?_) (fun c4 => ?_)
    · replace H := condT c4 H
      refine AW.skip ?_
      refine AW.seq ?_
      refine AW.block ?_
      refine AW.seq ?_
      refine AW.drawSeq Tryd.checked.mixed (by kernel_rfl) ?_
      obtain ⟨g5, H⟩ := G_some H
      refine QOps.seg (N := 53) 3 [0 ≤ v2 ∧ v2 < (t0.length : Int)] [(20, .ipt (t0.flatMap (eL eB)) (v2.toNat * 1)), (19, .int .i64 v2), (18, slA (eL eB) t0), (15, .bool (decide (v2 < (t0.length : Int)))), (0, slA (eL eB) t0), (1, slA (eL eB) t1), (5, .int .i64 v2)] (by kernel_rfl) ⟨g5, trivial⟩ ?_
      refine QOps.asU (slA eB (t0.getD v2.toNat [])) rfl (T.load rfl trivial (by kernel_rfl) (fm_cell0 (eL eB) 1 (fun _ => rfl) t0 [] v2.toNat (ltN g5) (fun a => .sl (a.flatMap eB) a.length) (fun _ => rfl))) ?_
      obtain ⟨g6, H⟩ := G_some H
      refine QOps.seg (N := 53) 4 [0 ≤ v2 ∧ v2 < (t1.length : Int)] [(25, .ipt (t1.flatMap (eL eB)) (v2.toNat * 1)), (24, .int .i64 v2), (23, slA (eL eB) t1), (22, .int .i64 (qZ4b t0 v2)), (21, slA eB (t0.getD v2.toNat [])), (20, .ipt (t0.flatMap (eL eB)) (v2.toNat * 1)), (19, .int .i64 v2), (18, slA (eL eB) t0), (15, .bool (decide (v2 < (t0.length : Int)))), (0, slA (eL eB) t0), (1, slA (eL eB) t1), (5, .int .i64 v2)] (by kernel_rfl) ⟨g6, trivial⟩ ?_
      refine QOps.asU (slA eB (t1.getD v2.toNat [])) rfl (T.load rfl trivial (by kernel_rfl) (fm_cell0 (eL eB) 1 (fun _ => rfl) t1 [] v2.toNat (ltN g6) (fun a => .sl (a.flatMap eB) a.length) (fun _ => rfl))) ?_
      refine QOps.seg (N := 53) 2 [] [(28, .bool ((qZ4b t0 v2) != ((t1.getD v2.toNat []).length : Int))), (27, .int .i64 ((t1.getD v2.toNat []).length : Int)), (26, slA eB (t1.getD v2.toNat [])), (25, .ipt (t1.flatMap (eL eB)) (v2.toNat * 1)), (24, .int .i64 v2), (23, slA (eL eB) t1), (22, .int .i64 (qZ4b t0 v2)), (21, slA eB (t0.getD v2.toNat [])), (20, .ipt (t0.flatMap (eL eB)) (v2.toNat * 1)), (19, .int .i64 v2), (18, slA (eL eB) t0), (15, .bool (decide (v2 < (t0.length : Int)))), (0, slA (eL eB) t0), (1, slA (eL eB) t1), (5, .int .i64 v2)] (by kernel_rfl) trivial ?_
      refine QOps.nil ?_
      refine AW.trim [28, 0, 1, 5] [(28, .bool ((qZ4b t0 v2) != ((t1.getD v2.toNat []).length : Int))), (0, slA (eL eB) t0), (1, slA (eL eB) t1), (5, .int .i64 v2)] (by kernel_rfl) ?_
      refine AW.cond (b := (qZ4b t0 v2) != ((t1.getD v2.toNat []).length : Int)) rfl (fun c7 => ?_) (fun c7 => ?_)
      · replace H := condT c7 H
        refine AW.regionSeq ?_
        refine OpsW.seg 1 [4] [] [(4, .bool false)] (by kernel_rfl) trivial ?_
        refine OpsW.nil ?_
        obtain rfl := Option.some.inj H
        refine AW.recast (env' := [(4, .bool false)]) (h' := []) (StC.pure (.cons .im .nil)) ?_
        refine AW.ret ?_
        try simp only [Ex.then, Ex.inBlock, Ex.noGoto, Ex.jump, reduceIte, Nat.reduceEqDiff, reduceCtorEq]
        refine Done.gen rfl (.tmp .nil) ?_
        show _ = _
        kernel_rfl
      · replace H := condF c7 H
        refine AW.skip ?_
        refine AW.regionSeq ?_
        refine OpsW.seg 1 [6, 0, 1, 5] [] [(6, .int .i64 0), (0, slA (eL eB) t0), (1, slA (eL eB) t1), (5, .int .i64 v2)] (by kernel_rfl) trivial ?_
        refine OpsW.nil ?_
        refine AW.block ?_
        refine AW.iterK (fun loop (s : Int) => f_R25_sameRows_b1 t0 t1 loop3 v2 loop s) r (fun (s : Int) => [(0, slA (eL eB) t0), (1, slA (eL eB) t1), (5, .int .i64 v2), (6, .int .i64 s)]) (fun (s : Int) => []) ?_ 1000000 (0 : Int) H (StC.pure (.i4 .nil))
        intro loop9 v8 H
        change f_R25_sameRows_b1 t0 t1 loop3 v2 loop9 v8 = some r at H
        unfold f_R25_sameRows_b1 at H
        change AW _ _ _ [(0, slA (eL eB) t0), (1, slA (eL eB) t1), (5, .int .i64 v2), (6, .int .i64 v8)] [] _
        refine AW.seq ?_
        refine AW.regionSeq ?_
        refine OpsW.seg 4 [32, 29, 0, 1, 5, 6] [0 ≤ v2 ∧ v2 < (t0.length : Int)] [(32, .ipt (t0.flatMap (eL eB)) (v2.toNat * 1)), (29, .int .i64 v8), (0, slA (eL eB) t0), (1, slA (eL eB) t1), (5, .int .i64 v2), (6, .int .i64 v8)] (by kernel_rfl) ⟨g5, trivial⟩ ?_
        refine OpsW.asU (slA eB (t0.getD v2.toNat [])) rfl rfl (T.load rfl trivial (by kernel_rfl) (fm_cell0 (eL eB) 1 (fun _ => rfl) t0 [] v2.toNat (ltN g5) (fun a => .sl (a.flatMap eB) a.length) (fun _ => rfl))) ?_
        refine OpsW.seg 2 [35, 0, 1, 5, 6] [] [(35, .bool (decide (v8 < (qZ4b t0 v2)))), (0, slA (eL eB) t0), (1, slA (eL eB) t1), (5, .int .i64 v2), (6, .int .i64 v8)] (by kernel_rfl) trivial ?_
        refine OpsW.nil ?_
        refine AW.cond (b := decide (v8 < (qZ4b t0 v2))) rfl (fun c10 => ?_) (fun c10 => ?_)
        · replace H := condT c10 H
          refine AW.skip ?_
          refine AW.seq ?_
          refine AW.block ?_
          refine AW.drawSeq Tryd.checked.mixed (by kernel_rfl) ?_
          refine QOps.seg (N := 53) 3 [0 ≤ v2 ∧ v2 < (t0.length : Int)] [(40, .ipt (t0.flatMap (eL eB)) (v2.toNat * 1)), (39, .int .i64 v2), (38, slA (eL eB) t0), (35, .bool (decide (v8 < (qZ4b t0 v2)))), (0, slA (eL eB) t0), (1, slA (eL eB) t1), (5, .int .i64 v2), (6, .int .i64 v8)] (by kernel_rfl) ⟨g5, trivial⟩ ?_
          refine QOps.asU (slA eB (t0.getD v2.toNat [])) rfl (T.load rfl trivial (by kernel_rfl) (fm_cell0 (eL eB) 1 (fun _ => rfl) t0 [] v2.toNat (ltN g5) (fun a => .sl (a.flatMap eB) a.length) (fun _ => rfl))) ?_
          obtain ⟨g11, H⟩ := G_some H
          refine QOps.seg (N := 53) 2 [0 ≤ v8 ∧ v8 < (qZ4b t0 v2)] [(43, .ipt ((t0.getD v2.toNat []).flatMap eB) (v8.toNat * 1)), (42, .int .i64 v8), (41, slA eB (t0.getD v2.toNat [])), (40, .ipt (t0.flatMap (eL eB)) (v2.toNat * 1)), (39, .int .i64 v2), (38, slA (eL eB) t0), (35, .bool (decide (v8 < (qZ4b t0 v2)))), (0, slA (eL eB) t0), (1, slA (eL eB) t1), (5, .int .i64 v2), (6, .int .i64 v8)] (by kernel_rfl) ⟨g11, trivial⟩ ?_
          refine QOps.asU (.bool (qZ4c t0 v2 v8)) rfl (T.load rfl trivial (by kernel_rfl) (fm_cell0 eB 1 (fun _ => rfl) (t0.getD v2.toNat []) false v8.toNat (ltN g11) (fun a => .val (.bool a)) (fun _ => rfl))) ?_
          refine QOps.seg (N := 53) 3 [0 ≤ v2 ∧ v2 < (t1.length : Int)] [(47, .ipt (t1.flatMap (eL eB)) (v2.toNat * 1)), (46, .int .i64 v2), (45, slA (eL eB) t1), (44, .bool (qZ4c t0 v2 v8)), (43, .ipt ((t0.getD v2.toNat []).flatMap eB) (v8.toNat * 1)), (42, .int .i64 v8), (41, slA eB (t0.getD v2.toNat [])), (40, .ipt (t0.flatMap (eL eB)) (v2.toNat * 1)), (39, .int .i64 v2), (38, slA (eL eB) t0), (35, .bool (decide (v8 < (qZ4b t0 v2)))), (0, slA (eL eB) t0), (1, slA (eL eB) t1), (5, .int .i64 v2), (6, .int .i64 v8)] (by kernel_rfl) ⟨g6, trivial⟩ ?_
          refine QOps.asU (slA eB (t1.getD v2.toNat [])) rfl (T.load rfl trivial (by kernel_rfl) (fm_cell0 (eL eB) 1 (fun _ => rfl) t1 [] v2.toNat (ltN g6) (fun a => .sl (a.flatMap eB) a.length) (fun _ => rfl))) ?_
          obtain ⟨g12, H⟩ := G_some H
          refine QOps.seg (N := 53) 2 [0 ≤ v8 ∧ v8 < ((t1.getD v2.toNat []).length : Int)] [(50, .ipt ((t1.getD v2.toNat []).flatMap eB) (v8.toNat * 1)), (49, .int .i64 v8), (48, slA eB (t1.getD v2.toNat [])), (47, .ipt (t1.flatMap (eL eB)) (v2.toNat * 1)), (46, .int .i64 v2), (45, slA (eL eB) t1), (44, .bool (qZ4c t0 v2 v8)), (43, .ipt ((t0.getD v2.toNat []).flatMap eB) (v8.toNat * 1)), (42, .int .i64 v8), (41, slA eB (t0.getD v2.toNat [])), (40, .ipt (t0.flatMap (eL eB)) (v2.toNat * 1)), (39, .int .i64 v2), (38, slA (eL eB) t0), (35, .bool (decide (v8 < (qZ4b t0 v2)))), (0, slA (eL eB) t0), (1, slA (eL eB) t1), (5, .int .i64 v2), (6, .int .i64 v8)] (by kernel_rfl) ⟨g12, trivial⟩ ?_
          refine QOps.asU (.bool ((t1.getD v2.toNat []).getD v8.toNat false)) rfl (T.load rfl trivial (by kernel_rfl) (fm_cell0 eB 1 (fun _ => rfl) (t1.getD v2.toNat []) false v8.toNat (ltN g12) (fun a => .val (.bool a)) (fun _ => rfl))) ?_
          refine QOps.seg (N := 53) 1 [] [(52, .bool ((qZ4c t0 v2 v8) != ((t1.getD v2.toNat []).getD v8.toNat false))), (51, .bool ((t1.getD v2.toNat []).getD v8.toNat false)), (50, .ipt ((t1.getD v2.toNat []).flatMap eB) (v8.toNat * 1)), (49, .int .i64 v8), (48, slA eB (t1.getD v2.toNat [])), (47, .ipt (t1.flatMap (eL eB)) (v2.toNat * 1)), (46, .int .i64 v2), (45, slA (eL eB) t1), (44, .bool (qZ4c t0 v2 v8)), (43, .ipt ((t0.getD v2.toNat []).flatMap eB) (v8.toNat * 1)), (42, .int .i64 v8), (41, slA eB (t0.getD v2.toNat [])), (40, .ipt (t0.flatMap (eL eB)) (v2.toNat * 1)), (39, .int .i64 v2), (38, slA (eL eB) t0), (35, .bool (decide (v8 < (qZ4b t0 v2)))), (0, slA (eL eB) t0), (1, slA (eL eB) t1), (5, .int .i64 v2), (6, .int .i64 v8)] (by kernel_rfl) trivial ?_
          refine QOps.nil ?_
          refine AW.trim [52, 0, 1, 5, 6] [(52, .bool ((qZ4c t0 v2 v8) != ((t1.getD v2.toNat []).getD v8.toNat false))), (0, slA (eL eB) t0), (1, slA (eL eB) t1), (5, .int .i64 v2), (6, .int .i64 v8)] (by kernel_rfl) ?_
          refine AW.cond (b := (qZ4c t0 v2 v8) != ((t1.getD v2.toNat []).getD v8.toNat false)) rfl (fun c13 => ?_) (fun c13 => ?_)
          · replace H := condT c13 H
            refine AW.regionSeq ?_
            refine OpsW.seg 1 [4] [] [(4, .bool false)] (by kernel_rfl) trivial ?_
            refine OpsW.nil ?_
            obtain rfl := Option.some.inj H
            refine AW.recast (env' := [(4, .bool false)]) (h' := []) (StC.pure (.cons .im .nil)) ?_
            refine AW.ret ?_
            try simp only [Ex.then, Ex.inBlock, Ex.noGoto, Ex.jump, reduceIte, Nat.reduceEqDiff, reduceCtorEq]
            refine Done.gen rfl (.tmp .nil) ?_
            show _ = _
            kernel_rfl
          · replace H := condF c13 H
            refine AW.skip ?_
            refine AW.region ?_
            obtain ⟨g14, H⟩ := G_some H
            refine OpsW.seg 3 [6, 0, 1, 5] [inR (v8 + 1)] [(6, .int .i64 (v8 + 1)), (0, slA (eL eB) t0), (1, slA (eL eB) t1), (5, .int .i64 v2)] (by kernel_rfl) ⟨g14, trivial⟩ ?_
            refine OpsW.nil ?_
            show ∃ y, _ ∧ StC _ _ _ _
            exact ⟨v8 + 1, H, (StC.pure (.i4 .nil))⟩
        · replace H := condF c10 H
          refine AW.exit ?_
          refine AW.region ?_
          obtain ⟨g15, H⟩ := G_some H
          refine OpsW.seg 3 [5, 0, 1] [inR (v2 + 1)] [(5, .int .i64 (v2 + 1)), (0, slA (eL eB) t0), (1, slA (eL eB) t1)] (by kernel_rfl) ⟨g15, trivial⟩ ?_
          refine OpsW.nil ?_
          show ∃ y, _ ∧ StC _ _ _ _
          exact ⟨v2 + 1, H, (StC.pure (.i3 .nil))⟩
    · replace H := condF c4 H
      refine AW.exit ?_
      refine AW.regionSeq ?_
      refine OpsW.seg 1 [4] [] [(4, .bool true)] (by kernel_rfl) trivial ?_
      refine OpsW.nil ?_
      obtain rfl := Option.some.inj H
      refine AW.recast (env' := [(4, .bool true)]) (h' := []) (StC.pure (.cons .im .nil)) ?_
      refine AW.ret ?_
      try simp only [Ex.then, Ex.inBlock, Ex.noGoto, Ex.jump, reduceIte, Nat.reduceEqDiff, reduceCtorEq]
      refine Done.gen rfl (.tmp .nil) ?_
      show _ = _
      kernel_rfl
def f_R25_Equal (t0 : S_Plate) (t1 : S_Plate) : Option Bool :=
  (cond (cond (t0.W == t1.W) (t0.H == t1.H) false) (f_R25_sameRows t0.Up t1.Up) (some false)).bind fun x1 =>
  (cond (cond (cond (t0.W == t1.W) (t0.H == t1.H) false) x1 false) (f_R25_sameRows t0.Down t1.Down) (some false)).bind fun x2 =>
  some (cond (cond (cond (t0.W == t1.W) (t0.H == t1.H) false) x1 false) x2 false)
abbrev qZ4d (t0 : S_Plate) (t1 : S_Plate)  := cond (t0.W == t1.W) (t0.H == t1.H) false
abbrev qZ4e (t0 : S_Plate) : List AV := [.int .i64 t0.W, .int .i64 t0.H, slA (eL eB) t0.Up, slA (eL eB) t0.Down]
abbrev qZ4f (t1 : S_Plate) : List AV := [.int .i64 t1.W, .int .i64 t1.H, slA (eL eB) t1.Up, slA (eL eB) t1.Down]
theorem f_R25_Equal_ok  {t0 : S_Plate} {t1 : S_Plate} {r : Bool} (H : f_R25_Equal t0 t1 = some r) : QSpec Tryd.prog 14 [.agg (qZ4e t0), .agg (qZ4f t1)] (.bool r) := by
  refine Spec.of_AW Tryd.func14 rfl (by simp [Tryd.ntmps14]) ?_
  rw [Tryd.ntmps14]
  unfold f_R25_Equal at H
  change AW _ _ _ [(0, .agg (qZ4e t0)), (1, .agg (qZ4f t1))] [] _
  refine AW.regionSeq ?_
  refine OpsW.box rfl rfl rfl 2 rfl (okCb_sound (by kernel_rfl)) ?_
  change OpsW _ _ _ _ _ [(2, ⟨0, true, 47, 4, (qZ4e t0)⟩)] _
  refine OpsW.box rfl rfl rfl 3 rfl (okCb_sound (by kernel_rfl)) ?_
  change OpsW _ _ _ _ _ [(3, ⟨0, true, 47, 4, (qZ4f t1)⟩), (2, ⟨0, true, 47, 4, (qZ4e t0)⟩)] _
  refine OpsW.seg 1 [3, 2] [] [(3, .ref 3 0 0), (2, .ref 2 0 0)] (by kernel_rfl) trivial ?_
  refine OpsW.recast (env' := [(3, .ref 3 0 0), (2, .ref 2 0 0)]) (h' := [(2, ⟨0, true, 47, 4, (qZ4e t0)⟩), (3, ⟨0, true, 47, 4, (qZ4f t1)⟩)]) (StC.mk (phi [(2, some 2), (3, some 3)]) (.old rfl rfl rfl rfl rfl (.i4 .nil) (.old rfl rfl rfl rfl rfl (.i4 .nil) .nil)) rfl (.cons (.ref rfl rfl rfl rfl rfl) (.cons (.ref rfl rfl rfl rfl rfl) .nil))) ?_
  refine OpsW.nil ?_
  refine AW.regionSeq ?_
  refine OpsW.seg 17 [21, 19, 17, 3, 2] [(t0.W == t1.W) = true → (t0.W == t1.W) = true, (t0.W == t1.W) = true → (t0.W == t1.W) = true, (t0.W == t1.W) = true → (t0.W == t1.W) = true, (t0.W == t1.W) = true → (t0.W == t1.W) = true, (t0.W == t1.W) = true → (t0.W == t1.W) = true, (qZ4d t0 t1) = true → (qZ4d t0 t1) = true, (qZ4d t0 t1) = true → (qZ4d t0 t1) = true] [(21, .cnd (qZ4d t0 t1) (slA (eL eB) t1.Up)), (19, .cnd (qZ4d t0 t1) (slA (eL eB) t0.Up)), (17, .bool (qZ4d t0 t1)), (3, .ref 3 0 0), (2, .ref 2 0 0)] (by kernel_rfl) ⟨(fun h => h), (fun h => h), (fun h => h), (fun h => h), (fun h => by first | exact h | (simpa using h) | grind), (fun h => h), (fun h => h), trivial⟩ ?_
  obtain ⟨x1, hx1, H⟩ := bindS H
  refine OpsW.gcall (c := cond (t0.W == t1.W) (t0.H == t1.H) false) (r := .bool x1) [] rfl (by kernel_rfl) rfl rfl rfl rfl (fun hc => ⟨glAll_sound ⟨hc, hc, trivial⟩, (.cons (.pur rfl) (.cons (.pur rfl) .nil)), f_R25_sameRows_ok (condT hc hx1), .inl ⟨rfl, rfl⟩⟩) ?_
  refine OpsW.seg 6 [28, 26, 24] [(qZ4d t0 t1) = true → (qZ4d t0 t1) = true, (cond (qZ4d t0 t1) x1 false) = true → (cond (qZ4d t0 t1) x1 false) = true, (cond (qZ4d t0 t1) x1 false) = true → (cond (qZ4d t0 t1) x1 false) = true] [(28, .cnd (cond (qZ4d t0 t1) x1 false) (slA (eL eB) t1.Down)), (26, .cnd (cond (qZ4d t0 t1) x1 false) (slA (eL eB) t0.Down)), (24, .bool (cond (qZ4d t0 t1) x1 false))] (by kernel_rfl) ⟨(fun h => by first | exact h | (simpa using h) | grind), (fun h => h), (fun h => h), trivial⟩ ?_
  obtain ⟨x2, hx2, H⟩ := bindS H
  refine OpsW.gcall (c := cond (qZ4d t0 t1) x1 false) (r := .bool x2) [] rfl (by kernel_rfl) rfl rfl rfl rfl (fun hc => ⟨glAll_sound ⟨hc, hc, trivial⟩, (.cons (.pur rfl) (.cons (.pur rfl) .nil)), f_R25_sameRows_ok (condT hc hx2), .inl ⟨rfl, rfl⟩⟩) ?_
  refine OpsW.seg 2 [4] [(cond (qZ4d t0 t1) x1 false) = true → (cond (qZ4d t0 t1) x1 false) = true] [(4, .bool (cond (cond (qZ4d t0 t1) x1 false) x2 false))] (by kernel_rfl) ⟨(fun h => by first | exact h | (simpa using h) | grind), trivial⟩ ?_
  refine OpsW.nil ?_
  obtain rfl := Option.some.inj H
  refine AW.recast (env' := [(4, .bool (cond (cond (qZ4d t0 t1) x1 false) x2 false))]) (h' := []) (StC.pure (.cons .im .nil)) ?_
  refine AW.ret ?_
  try simp only [Ex.then, Ex.inBlock, Ex.noGoto, Ex.jump, reduceIte, Nat.reduceEqDiff, reduceCtorEq]
  refine Done.gen rfl (.tmp .nil) ?_
  show _ = _
  kernel_rfl
def f_slices_Equal_bool_b1 (t0 : List Bool) (t1 : List Bool) (loop3 : (Int) → Option Bool) (v2 : Int) : Option Bool :=
  cond (decide (v2 < (t0.length : Int))) (
    G (0 ≤ v2 ∧ v2 < (t0.length : Int)) <|
    G (0 ≤ v2 ∧ v2 < (t1.length : Int)) <|
    cond ((t0.getD v2.toNat false) != (t1.getD v2.toNat false)) (
      some false) (
      G (inR (v2 + (1 : Int))) <|
      loop3 (v2 + (1 : Int)))) (
    some true)
def f_slices_Equal_bool (t0 : List Bool) (t1 : List Bool) : Option Bool :=
  cond ((t0.length : Int) != (t1.length : Int)) (
    some false) (
    iter (fun loop (s : Int) => f_slices_Equal_bool_b1 t0 t1 loop s) 1000000 (0 : Int))
theorem f_slices_Equal_bool_ok  {t0 : List Bool} {t1 : List Bool} {r : Bool} (H : f_slices_Equal_bool t0 t1 = some r) : QSpec Tryd.prog 59 [slA eB t0, slA eB t1] (.bool r) := by
  refine Spec.of_AW Tryd.func59 rfl (by simp [Tryd.ntmps59]) ?_
  rw [Tryd.ntmps59]
  unfold f_slices_Equal_bool at H
  change AW _ _ _ [(0, slA eB t0), (1, slA eB t1)] [] _
  refine AW.regionSeq ?_
  refine OpsW.seg 1 [0, 1] [] [(0, slA eB t0), (1, slA eB t1)] (by kernel_rfl) trivial ?_
  refine OpsW.nil ?_
  refine AW.seq ?_
  refine AW.regionSeq ?_
  refine OpsW.seg 5 [10, 0, 1] [] [(10, .bool ((t0.length : Int) != (t1.length : Int))), (0, slA eB t0), (1, slA eB t1)] (by kernel_rfl) trivial ?_
  refine OpsW.nil ?_
  refine AW.cond (b := (t0.length : Int) != (t1.length : Int)) rfl (fun c1 => ?_) (fun c1 => ?_)
  · replace H := condT c1 H
    refine AW.regionSeq ?_
    refine OpsW.seg 1 [4] [] [(4, .bool false)] (by kernel_rfl) trivial ?_
    refine OpsW.nil ?_
    obtain rfl := Option.some.inj H
    refine AW.recast (env' := [(4, .bool false)]) (h' := []) (StC.pure (.cons .im .nil)) ?_
    refine AW.ret ?_
    try simp only [Ex.then, Ex.inBlock, Ex.noGoto, Ex.jump, reduceIte, Nat.reduceEqDiff, reduceCtorEq]
    refine Done.gen rfl (.tmp .nil) ?_
    show _ = _
    kernel_rfl
  · replace H := condF c1 H
    refine AW.skip ?_
    refine AW.seq ?_
    refine AW.regionSeq ?_
    refine OpsW.seg 3 [13, 12, 0, 1] [] [(13, .int .i64 0), (12, .int .i64 (t0.length : Int)), (0, slA eB t0), (1, slA eB t1)] (by kernel_rfl) trivial ?_
    refine OpsW.nil ?_
    refine AW.block ?_
    refine AW.iterK (fun loop (s : Int) => f_slices_Equal_bool_b1 t0 t1 loop s) r (fun (s : Int) => [(0, slA eB t0), (1, slA eB t1), (12, .int .i64 (t0.length : Int)), (13, .int .i64 s)]) (fun (s : Int) => []) ?_ 1000000 (0 : Int) H (StC.pure (.i4 .nil))
    intro loop3 v2 H
    change f_slices_Equal_bool_b1 t0 t1 loop3 v2 = some r at H
    unfold f_slices_Equal_bool_b1 at H
    change AW _ _ _ [(0, slA eB t0), (1, slA eB t1), (12, .int .i64 (t0.length : Int)), (13, .int .i64 v2)] [] _
    refine AW.regionSeq ?_
    refine OpsW.seg 1 [14, 0, 1, 12, 13] [] [(14, .bool (decide (v2 < (t0.length : Int)))), (0, slA eB t0), (1, slA eB t1), (12, .int .i64 (t0.length : Int)), (13, .int .i64 v2)] (by kernel_rfl) trivial ?_
    refine OpsW.nil ?_
    refine AW.seq ?_
    refine AW.cond (b := decide (v2 < (t0.length : Int))) rfl (fun c4 => ?_) (fun c4 => ?_)
    · replace H := condT c4 H
      refine AW.skip ?_
      refine AW.seq ?_
      refine AW.block ?_
      refine AW.regionSeq ?_
      refine OpsW.seg 2 [5, 0, 1, 12, 13] [] [(5, .int .i64 v2), (0, slA eB t0), (1, slA eB t1), (12, .int .i64 (t0.length : Int)), (13, .int .i64 v2)] (by kernel_rfl) trivial ?_
      refine OpsW.nil ?_
      refine AW.drawSeq Tryd.checked.mixed (by kernel_rfl) ?_
      obtain ⟨g5, H⟩ := G_some H
      refine QOps.seg (N := 26) 3 [0 ≤ v2 ∧ v2 < (t0.length : Int)] [(18, .ipt (t0.flatMap eB) (v2.toNat * 1)), (17, .int .i64 v2), (16, slA eB t0), (5, .int .i64 v2), (0, slA eB t0), (1, slA eB t1), (12, .int .i64 (t0.length : Int)), (13, .int .i64 v2)] (by kernel_rfl) ⟨g5, trivial⟩ ?_
      refine QOps.asU (.bool (t0.getD v2.toNat false)) rfl (T.load rfl trivial (by kernel_rfl) (fm_cell0 eB 1 (fun _ => rfl) t0 false v2.toNat (ltN g5) (fun a => .val (.bool a)) (fun _ => rfl))) ?_
      obtain ⟨g6, H⟩ := G_some H
      refine QOps.seg (N := 26) 3 [0 ≤ v2 ∧ v2 < (t1.length : Int)] [(22, .ipt (t1.flatMap eB) (v2.toNat * 1)), (21, .int .i64 v2), (20, slA eB t1), (19, .bool (t0.getD v2.toNat false)), (18, .ipt (t0.flatMap eB) (v2.toNat * 1)), (17, .int .i64 v2), (16, slA eB t0), (5, .int .i64 v2), (0, slA eB t0), (1, slA eB t1), (12, .int .i64 (t0.length : Int)), (13, .int .i64 v2)] (by kernel_rfl) ⟨g6, trivial⟩ ?_
      refine QOps.asU (.bool (t1.getD v2.toNat false)) rfl (T.load rfl trivial (by kernel_rfl) (fm_cell0 eB 1 (fun _ => rfl) t1 false v2.toNat (ltN g6) (fun a => .val (.bool a)) (fun _ => rfl))) ?_
      refine QOps.seg (N := 26) 1 [] [(24, .bool ((t0.getD v2.toNat false) != (t1.getD v2.toNat false))), (23, .bool (t1.getD v2.toNat false)), (22, .ipt (t1.flatMap eB) (v2.toNat * 1)), (21, .int .i64 v2), (20, slA eB t1), (19, .bool (t0.getD v2.toNat false)), (18, .ipt (t0.flatMap eB) (v2.toNat * 1)), (17, .int .i64 v2), (16, slA eB t0), (5, .int .i64 v2), (0, slA eB t0), (1, slA eB t1), (12, .int .i64 (t0.length : Int)), (13, .int .i64 v2)] (by kernel_rfl) trivial ?_
      refine QOps.nil ?_
      refine AW.trim [24, 0, 1, 12, 13] [(24, .bool ((t0.getD v2.toNat false) != (t1.getD v2.toNat false))), (0, slA eB t0), (1, slA eB t1), (12, .int .i64 (t0.length : Int)), (13, .int .i64 v2)] (by kernel_rfl) ?_
      refine AW.cond (b := (t0.getD v2.toNat false) != (t1.getD v2.toNat false)) rfl (fun c7 => ?_) (fun c7 => ?_)
      · replace H := condT c7 H
        refine AW.regionSeq ?_
        refine OpsW.seg 1 [4] [] [(4, .bool false)] (by kernel_rfl) trivial ?_
        refine OpsW.nil ?_
        obtain rfl := Option.some.inj H
        refine AW.recast (env' := [(4, .bool false)]) (h' := []) (StC.pure (.cons .im .nil)) ?_
        refine AW.ret ?_
        try simp only [Ex.then, Ex.inBlock, Ex.noGoto, Ex.jump, reduceIte, Nat.reduceEqDiff, reduceCtorEq]
        refine Done.gen rfl (.tmp .nil) ?_
        show _ = _
        kernel_rfl
      · replace H := condF c7 H
        refine AW.skip ?_
        refine AW.region ?_
        obtain ⟨g8, H⟩ := G_some H
        refine OpsW.seg 2 [13, 0, 1, 12] [inR (v2 + 1)] [(13, .int .i64 (v2 + 1)), (0, slA eB t0), (1, slA eB t1), (12, .int .i64 (t0.length : Int))] (by kernel_rfl) ⟨g8, trivial⟩ ?_
        refine OpsW.nil ?_
        show ∃ y, _ ∧ StC _ _ _ _
        exact ⟨v2 + 1, H, (StC.pure (.i4 .nil))⟩
    · replace H := condF c4 H
      refine AW.exit ?_
      refine AW.regionSeq ?_
      refine OpsW.seg 1 [4] [] [(4, .bool true)] (by kernel_rfl) trivial ?_
      refine OpsW.nil ?_
      obtain rfl := Option.some.inj H
      refine AW.recast (env' := [(4, .bool true)]) (h' := []) (StC.pure (.cons .im .nil)) ?_
      refine AW.ret ?_
      try simp only [Ex.then, Ex.inBlock, Ex.noGoto, Ex.jump, reduceIte, Nat.reduceEqDiff, reduceCtorEq]
      refine Done.gen rfl (.tmp .nil) ?_
      show _ = _
      kernel_rfl
def f_sheet_sameDots_1 (t0 : List Bool) (t1 : List Bool) : Option Bool :=
  (f_slices_Equal_bool t0 t1).bind fun x1 =>
  some x1
theorem f_sheet_sameDots_1_ok  {t0 : List Bool} {t1 : List Bool} {r : Bool} (H : f_sheet_sameDots_1 t0 t1 = some r) : QSpec Tryd.prog 58 [slA eB t0, slA eB t1] (.bool r) := by
  refine Spec.of_AW Tryd.func58 rfl (by simp [Tryd.ntmps58]) ?_
  rw [Tryd.ntmps58]
  unfold f_sheet_sameDots_1 at H
  change AW _ _ _ [(0, slA eB t0), (1, slA eB t1)] [] _
  refine AW.regionSeq ?_
  refine OpsW.seg 1 [0, 1] [] [(0, slA eB t0), (1, slA eB t1)] (by kernel_rfl) trivial ?_
  refine OpsW.nil ?_
  refine AW.regionSeq ?_
  refine OpsW.seg 2 [6, 5] [] [(6, slA eB t1), (5, slA eB t0)] (by kernel_rfl) trivial ?_
  obtain ⟨x1, hx1, H⟩ := bindS H
  refine OpsW.qcall rfl (by kernel_rfl) rfl rfl (glAll_sound trivial) (.cons (.pur rfl) (.cons (.pur rfl) .nil)) (f_slices_Equal_bool_ok hx1) rfl ?_
  refine OpsW.seg 1 [4] [] [(4, .bool x1)] (by kernel_rfl) trivial ?_
  refine OpsW.nil ?_
  obtain rfl := Option.some.inj H
  refine AW.recast (env' := [(4, .bool x1)]) (h' := []) (StC.pure (.cons .im .nil)) ?_
  refine AW.ret ?_
  try simp only [Ex.then, Ex.inBlock, Ex.noGoto, Ex.jump, reduceIte, Nat.reduceEqDiff, reduceCtorEq]
  refine Done.gen rfl (.tmp .nil) ?_
  show _ = _
  kernel_rfl
end Go.Proofs.YtbcfmhoaocifoaaDoor
