/-
 Written by gen.py (own work): typed functions, and that the program computes them.
-/
import Derived.Test.YtbcfmhoaocifoaaDoorW3
set_option linter.unusedSimpArgs false
set_option linter.unusedVariables false
set_option maxRecDepth 100000
namespace Go.Proofs.YtbcfmhoaocifoaaDoor
open Go.Abs
def f_number_Write_b1 (x2 : ByteArray) (loop5 : ((List Int) × Int) → Option ((List Int) × Int)) (v3 : List Int) (v4 : Int) : Option ((List Int) × Int) :=
 cond (decide (v4 < ((bytesOf x2).length : Int))) (
  G (0 ≤ v4 ∧ v4 < ((bytesOf x2).length : Int)) <|
  G (0 ≤ (IntKind.wrap .u8 (((bytesOf x2).getD v4.toNat 0) - 48)) ∧ (IntKind.wrap .u8 (((bytesOf x2).getD v4.toNat 0) - 48)) < 10) <|
  G (room 1 (v3.length + 1)) <|
  G (inR (v4 + 1)) <|
  loop5 (v3 ++ [tab_number_digits.getD (IntKind.wrap .u8 (((bytesOf x2).getD v4.toNat 0) - 48)).toNat (0 : Int)], v4 + 1)) (
  some (v3, (0 : Int)))
def f_number_Write (t0 : Int) : Option ((List Int) × Int) :=
 cond (cond (decide (t0 < 0)) true (decide (99999 < t0))) (
  some ([], (190 : Int))) (
  (f_strconv_Itoa t0).bind fun x2 =>
  iter (fun loop (s : (List Int) × Int) => f_number_Write_b1 x2 loop s.1 s.2) 1000000 ([(60 : Int)], (0 : Int)))
section
variable (v3 : List Int) (v4 : Int) (x2 : ByteArray)
abbrev qZ9m := IntKind.wrap .u8 (((bytesOf x2).getD v4.toNat 0) - 48)
abbrev qZ9n := (v3 ++ [tab_number_digits.getD (qZ9m v4 x2).toNat (0 : Int)])
abbrev qZ9o := ((bytesOf x2).length : Int)
abbrev qZ9p : Nat × AV := (16, slA (eI .u8) (bytesOf x2))
abbrev qZ9q : Nat × AV := (4, .rsl 4 0 0 ([(60 : Int)].length))
abbrev qZ9k : Env := [(qZ9p x2), (17, .int .i64 (qZ9o x2)), (18, .int .i64 v4)]
abbrev qZ9l : Env := (4, .rsl 4 0 0 v3.length) :: (qZ9k v4 x2)
end
theorem f_number_Write_own {t0 : Int} {r : (List Int) × Int} (H : f_number_Write t0 = some r) : Abs.Spec Tryd.prog 82 [.int .i64 t0] [] (fun x h => x = .tup [.rsl 1000 0 0 r.1.length, .int .i64 r.2] ∧ h = [(1000, rtA 0 42 1 (eI .u8) r.1)]) := by
 refine Spec.of_AW Tryd.func82 rfl (by simp [Tryd.ntmps82]) ?_
 rw [Tryd.ntmps82]
 unfold f_number_Write at H
 change AW _ _ _ [(0, .int .i64 t0)] [] _
 refine AW.regionSeq (OpsW.sg 2 [0] [(0, .int .i64 t0)] ?_)
 refine OpsW.nil (AW.seq (AW.regionSeq (OpsW.sq 6 [12, 0] [(!(decide (t0 < 0))) = true → (!(decide (t0 < 0))) = true, (decide (t0 < 0)) = false → (!(decide (t0 < 0))) = true] [(12, .bool (cond (decide (t0 < 0)) true (decide (99999 < t0)))), (0, .int .i64 t0)] ⟨(fun h => h), (fun h => by first | exact h | (simpa using h) | grind), trivial⟩ ?_)))
 refine OpsW.nil (AW.cond (b := cond (decide (t0 < 0)) true (decide (99999 < t0))) rfl (fun c1 => ?_) (fun c1 => ?_))
 ·replace H := condT c1 H
  refine AW.regionSeq (OpsW.sg 2 [3, 2] [(3, .int .i64 190), (2, .im (.val (.slice none 0 0)))] ?_)
  refine OpsW.nil ?_
  obtain rfl := Option.some.inj H
  refine AW.recast (env' := [(2, .rsl 1000 0 0 0), (3, .int .i64 190)]) (h' := [(1000, rtA 0 42 1 (eI .u8) ([] : List Int))]) (StC.mk (phi [(1000, none)]) (.new rfl .nil) rfl (.cons (.nilr rfl rfl rfl) (.cons .im .nil))) ?_
  refine AW.ret ?_
  try simp only [Ex.then, Ex.inBlock, Ex.noGoto, Ex.jump, reduceIte, Nat.reduceEqDiff, reduceCtorEq]
  refine Done.gen rfl (.tmp (.tmp .nil)) ?_
  exact ⟨by kernel_rfl, rfl⟩
 replace H := condF c1 H
 refine AW.skip (AW.regionSeq (OpsW.buildT (enc := eI .u8) [(60 : Int)] rfl rfl rfl 13 rfl E41 (fun _ => rfl) (by decide) trivial (by kernel_rfl) (by kernel_rfl) (by kernel_rfl) rfl ?_))
 refine OpsW.sg 1 [4, 0] [(4, .rsl 13 0 0 ([(60 : Int)].length)), (0, .int .i64 t0)] ?_
 refine OpsW.recast (env' := [qZ9q, (0, .int .i64 t0)]) (h' := [(4, rtA 0 42 1 (eI .u8) [(60 : Int)])]) (StC.mk (phi [(4, some 13)]) (.o rfl (CstL.ims _) .nil) rfl (.cons (.s rfl) (.cons .im .nil))) ?_
 refine OpsW.nil (AW.seq (AW.regionSeq (OpsW.sg 1 [14, 4] [(14, .int .i64 t0), qZ9q] ?_)))
 obtain ⟨x2, hx2, H⟩ := bindS H
 refine OpsW.qcall rfl (by kernel_rfl) rfl rfl (glAll_sound trivial) (.cons (.pur rfl) .nil) (f_strconv_Itoa_ok hx2) rfl ?_
 refine OpsW.quietU (slA (eI .u8) (bytesOf x2)) rfl rfl (Quiet.toBytes (e := 5) x2 rfl (by kernel_rfl) (by kernel_rfl) (by kernel_rfl) (gpoU rfl ⟨trivial, rfl⟩)) ?_
 refine OpsW.sg 2 [18, 17, 16, 4] [(18, .int .i64 0), (17, .int .i64 (qZ9o x2)), (qZ9p x2), qZ9q] ?_
 refine OpsW.nil (AW.block ?_)
 refine AW.iterK (fun loop (s : (List Int) × Int) => f_number_Write_b1 x2 loop s.1 s.2) r (fun (s : (List Int) × Int) => [(4, .rsl 4 0 0 s.1.length), (qZ9p x2), (17, .int .i64 (qZ9o x2)), (18, .int .i64 s.2)]) (fun (s : (List Int) × Int) => [(4, rtA 0 42 1 (eI .u8) s.1)]) ?_ 1000000 ([(60 : Int)], (0 : Int)) H (StC.mk (phi [(4, some 4)]) (.o rfl (CstL.ims _) .nil) rfl (.cons (.s rfl) (.i3 .nil)))
 intro loop5 s H
 obtain ⟨v3, v4⟩ := s
 change f_number_Write_b1 x2 loop5 v3 v4 = some r at H
 unfold f_number_Write_b1 at H
 change AW _ _ _ (qZ9l v3 v4 x2) [(4, rtA 0 42 1 (eI .u8) v3)] _
 refine AW.regionSeq (OpsW.sg 1 [19, 4, 16, 17, 18] ((19, .bool (decide (v4 < (qZ9o x2)))) :: (qZ9l v3 v4 x2)) ?_)
 refine OpsW.nil (AW.seq (AW.cond (b := decide (v4 < (qZ9o x2))) rfl (fun c6 => ?_) (fun c6 => ?_)))
 ·replace H := condT c6 H
  refine AW.skip (AW.seq (AW.block (AW.regionSeq ?_)))
  obtain ⟨g7, H⟩ := G_some H
  refine OpsW.sq 1 [20, 4, 16, 17, 18] [0 ≤ v4 ∧ v4 < (qZ9o x2)] ((20, .ipt ((bytesOf x2).flatMap (eI .u8)) (v4.toNat * 1)) :: (qZ9l v3 v4 x2)) ⟨g7, trivial⟩ ?_
  refine OpsW.asU (.int .u8 ((bytesOf x2).getD v4.toNat 0)) rfl rfl (T.load rfl trivial (by kernel_rfl) (fm_cell0 (eI .u8) 1 (fun _ => rfl) (bytesOf x2) (0 : Int) v4.toNat (ltN g7) (fun a => .val (.int .u8 a)) (fun _ => rfl))) ?_
  refine OpsW.sg 1 [6, 4, 16, 17, 18] ((6, .int .u8 ((bytesOf x2).getD v4.toNat 0)) :: (qZ9l v3 v4 x2)) ?_
  refine OpsW.nil (AW.region ?_)
  obtain ⟨g8, H⟩ := G_some H
  refine OpsW.sq 4 [25, 22, 4, 16, 17, 18] [0 ≤ (qZ9m v4 x2) ∧ (qZ9m v4 x2) < 10] ((25, .ipt (tab_number_digits.flatMap (eI .u8)) (0 + (qZ9m v4 x2).toNat * 1)) :: (22, .rsl 4 0 0 v3.length) :: (qZ9l v3 v4 x2)) ⟨g8, trivial⟩ ?_
  refine OpsW.asU (.int .u8 (tab_number_digits.getD (qZ9m v4 x2).toNat (0 : Int))) rfl rfl (T.load rfl trivial (by kernel_rfl) (tabOff (fm_cell0 (eI .u8) 1 (fun _ => rfl) tab_number_digits (0 : Int) (qZ9m v4 x2).toNat (ltA (n := 10) g8 rfl) (fun a => .val (.int .u8 a)) (fun _ => rfl)))) ?_
  obtain ⟨g9, H⟩ := G_some H
  refine OpsW.appendLF (enc := eI .u8) [tab_number_digits.getD (qZ9m v4 x2).toNat (0 : Int)] rfl rfl rfl (by decide) rfl rfl rfl (by simp) E41 (fun _ => rfl) (by decide) trivial (by kernel_rfl) (by kernel_rfl) (by kernel_rfl) rfl rfl rfl g9 ?_
  refine OpsW.sg 1 [4, 16, 17, 18] ((4, .rsl 4 1 0 ((qZ9n v3 v4 x2).length)) :: (qZ9k v4 x2)) ?_
  refine OpsW.recast (env' := ((4, .rsl 4 0 0 ((qZ9n v3 v4 x2).length)) :: (qZ9k v4 x2))) (h' := [(4, rtA 0 42 1 (eI .u8) (qZ9n v3 v4 x2))]) (StC.mk (phi [(4, some 4)]) (.o rfl (CstL.ims _) .nil) rfl (.cons (.s rfl) (.i3 .nil))) ?_
  refine OpsW.nil (AW.region ?_)
  obtain ⟨g10, H⟩ := G_some H
  refine OpsW.sq 2 [18, 4, 16, 17] [inR (v4 + 1)] [(18, .int .i64 (v4 + 1)), (4, .rsl 4 0 0 ((qZ9n v3 v4 x2).length)), (qZ9p x2), (17, .int .i64 (qZ9o x2))] ⟨g10, trivial⟩ ?_
  refine OpsW.nil ?_
  show ∃ y, _ ∧ StC _ _ _ _
  exact ⟨(v3 ++ [tab_number_digits.getD (qZ9m v4 x2).toNat (0 : Int)], v4 + 1), H, (StC.mk (phi [(4, some 4)]) (.o rfl (CstL.ims _) .nil) rfl (.cons (.s rfl) (.i3 .nil)))⟩
 replace H := condF c6 H
 refine AW.exit ?_
 refine AW.regionSeq (OpsW.sg 3 [3, 2] [(3, .int .i64 0), (2, .rsl 4 0 0 v3.length)] ?_)
 refine OpsW.nil ?_
 obtain rfl := Option.some.inj H
 refine AW.recast (env' := [(2, .rsl 1000 0 0 v3.length), (3, .int .i64 0)]) (h' := [(1000, rtA 0 42 1 (eI .u8) v3)]) (StC.mk (phi [(1000, some 4)]) (.o rfl (CstL.ims _) .nil) rfl (.cons (.s rfl) (.cons .im .nil))) ?_
 refine AW.ret ?_
 try simp only [Ex.then, Ex.inBlock, Ex.noGoto, Ex.jump, reduceIte, Nat.reduceEqDiff, reduceCtorEq]
 refine Done.gen rfl (.tmp (.tmp .nil)) ?_
 exact ⟨by kernel_rfl, rfl⟩
theorem f_number_Write_ok  {t0 : Int} {r : (List Int) × Int} (H : f_number_Write t0 = some r) : QSpec Tryd.prog 82 [.int .i64 t0] (.tup [slA (eI .u8) r.1, .int .i64 r.2]) := by
 exact QSpec.of_own (f_number_Write_own H) (.tup (.cons (.frz rfl rfl rfl (frz_all (eI .u8) 1 (fun _ => rfl) r.1) (fm_length (eI .u8) 1 (fun _ => rfl) r.1) (phi_ne rfl)) (.cons .im .nil)))
def f_number_Ink_k1 (x2 : (List Int) × Int) (v3 : List Int) : Option ((List Int) × Int) :=
 some (v3, x2.2)
def f_number_Ink (t0 : Int) (t1 : Int) : Option ((List Int) × Int) :=
 cond (cond (cond (cond (decide (t0 < 1)) true (decide (9999 < t0))) true (decide (t1 < 0))) true (decide (26 < t1))) (
  some ([], (190 : Int))) (
  (f_number_Write t0).bind fun x2 =>
  cond (cond (x2.2 == 0) (decide (0 < t1)) false) (
   G (inR (t1 - 1)) <|
   G (0 ≤ (t1 - 1) ∧ (t1 - 1) < 26) <|
   G (room 1 ([(48 : Int), tab_number_letters.getD (t1 - 1).toNat (0 : Int)].length + x2.1.length)) <|
   f_number_Ink_k1 x2 ([(48 : Int), tab_number_letters.getD (t1 - 1).toNat (0 : Int)] ++ x2.1)) (
   f_number_Ink_k1 x2 x2.1))
section
variable (t0 : Int) (t1 : Int) (x2 : (List Int) × Int)
abbrev qZ9r := cond (decide (t0 < 1)) true (decide (9999 < t0))
abbrev qZ9s := ([(48 : Int), tab_number_letters.getD (t1 - 1).toNat (0 : Int)] ++ x2.1)
abbrev qZ9t := cond (qZ9r t0) true (decide (t1 < 0))
abbrev qZ9u : Nat × AV := (7, .int .i64 x2.2)
end
theorem f_number_Ink_ok  {t0 : Int} {t1 : Int} {r : (List Int) × Int} (H : f_number_Ink t0 t1 = some r) : QSpec Tryd.prog 78 [.int .i64 t0, .int .i64 t1] (.tup [slA (eI .u8) r.1, .int .i64 r.2]) := by
 refine Spec.of_AW Tryd.func78 rfl (by simp [Tryd.ntmps78]) ?_
 rw [Tryd.ntmps78]
 unfold f_number_Ink at H
 change AW _ _ _ [(0, .int .i64 t0), (1, .int .i64 t1)] [] _
 refine AW.regionSeq (OpsW.sg 2 [0, 1] [(0, .int .i64 t0), (1, .int .i64 t1)] ?_)
 refine OpsW.nil (AW.seq (AW.regionSeq (OpsW.sq 14 [21, 0, 1] [(!(decide (t0 < 1))) = true → (!(decide (t0 < 1))) = true, (decide (t0 < 1)) = false → (!(decide (t0 < 1))) = true, (!(qZ9r t0)) = true → (!(qZ9r t0)) = true, (qZ9r t0) = false → (!(qZ9r t0)) = true, (!(qZ9t t0 t1)) = true → (!(qZ9t t0 t1)) = true, (qZ9t t0 t1) = false → (!(qZ9t t0 t1)) = true] [(21, .bool (cond (qZ9t t0 t1) true (decide (26 < t1)))), (0, .int .i64 t0), (1, .int .i64 t1)] ⟨(fun h => h), (fun h => by first | exact h | (simpa using h) | grind), (fun h => h), (fun h => by first | exact h | (simpa using h) | grind), (fun h => h), (fun h => by first | exact h | (simpa using h) | grind), trivial⟩ ?_)))
 refine OpsW.nil (AW.cond (b := cond (qZ9t t0 t1) true (decide (26 < t1))) rfl (fun c1 => ?_) (fun c1 => ?_))
 ·replace H := condT c1 H
  refine AW.regionSeq (OpsW.sg 2 [5, 4] [(5, .int .i64 190), (4, .im (.val (.slice none 0 0)))] ?_)
  refine OpsW.nil ?_
  obtain rfl := Option.some.inj H
  refine AW.recast (env' := [(4, slA (eI .u8) []), (5, .int .i64 190)]) (h' := []) (StC.pure (.cons .nil (.cons .im .nil))) ?_
  refine AW.ret ?_
  try simp only [Ex.then, Ex.inBlock, Ex.noGoto, Ex.jump, reduceIte, Nat.reduceEqDiff, reduceCtorEq]
  refine Done.gen rfl (.tmp (.tmp .nil)) ?_
  show _ = _
  kernel_rfl
 replace H := condF c1 H
 refine AW.skip (AW.regionSeq (OpsW.sg 1 [23, 1] [(23, .int .i64 t0), (1, .int .i64 t1)] ?_))
 obtain ⟨x2, hx2, H⟩ := bindS H
 refine OpsW.qcall rfl (by kernel_rfl) rfl rfl (glAll_sound trivial) (.cons (.pur rfl) .nil) (f_number_Write_ok hx2) rfl ?_
 refine OpsW.sg 5 [7, 6, 1] [(qZ9u x2), (6, slA (eI .u8) x2.1), (1, .int .i64 t1)] ?_
 refine OpsW.nil ?_
 refine AW.joinK (fun (y : (List Int)) => f_number_Ink_k1 x2 y) r (fun (y : (List Int)) => [(6, slA (eI .u8) y), (qZ9u x2)]) (fun (y : (List Int)) => []) ?_ ?_
 ·refine AW.regionSeq (OpsW.sq 6 [32, 7, 6, 1] [(x2.2 == 0) = true → (x2.2 == 0) = true, (x2.2 == 0) = true → (x2.2 == 0) = true] [(32, .bool (cond (x2.2 == 0) (decide (0 < t1)) false)), (qZ9u x2), (6, slA (eI .u8) x2.1), (1, .int .i64 t1)] ⟨(fun h => h), (fun h => by first | exact h | (simpa using h) | grind), trivial⟩ ?_)
  refine OpsW.nil (AW.cond (b := cond (x2.2 == 0) (decide (0 < t1)) false) rfl (fun c4 => ?_) (fun c4 => ?_))
  ·replace H := condT c4 H
   refine AW.region ?_
   obtain ⟨g5, H⟩ := G_some H
   obtain ⟨g6, H⟩ := G_some H
   refine OpsW.sq 3 [35, 7, 6] [inR (t1 - 1), 0 ≤ (t1 - 1) ∧ (t1 - 1) < 26] [(35, .ipt (tab_number_letters.flatMap (eI .u8)) (0 + (t1 - 1).toNat * 1)), (qZ9u x2), (6, slA (eI .u8) x2.1)] ⟨g5, g6, trivial⟩ ?_
   refine OpsW.asU (.int .u8 (tab_number_letters.getD (t1 - 1).toNat (0 : Int))) rfl rfl (T.load rfl trivial (by kernel_rfl) (tabOff (fm_cell0 (eI .u8) 1 (fun _ => rfl) tab_number_letters (0 : Int) (t1 - 1).toNat (ltA (n := 26) g6 rfl) (fun a => .val (.int .u8 a)) (fun _ => rfl)))) ?_
   refine OpsW.buildT (enc := eI .u8) [(48 : Int), tab_number_letters.getD (t1 - 1).toNat (0 : Int)] rfl rfl rfl 37 rfl E41 (fun _ => rfl) (by decide) trivial (by kernel_rfl) (by kernel_rfl) (by kernel_rfl) rfl ?_
   refine OpsW.sg 1 [38, 37, 7, 6] [(38, slA (eI .u8) x2.1), (37, .rsl 37 0 0 ([(48 : Int), tab_number_letters.getD (t1 - 1).toNat (0 : Int)].length)), (qZ9u x2), (6, slA (eI .u8) x2.1)] ?_
   obtain ⟨g7, H⟩ := G_some H
   refine OpsW.appendF (enc := eI .u8) (ys := x2.1) rfl rfl rfl E41 (fun _ => rfl) rfl rfl trivial (SrcA.typed (enc := eI .u8) (fun _ => rfl) (by kernel_rfl) x2.1) rfl g7 ?_
   refine OpsW.sg 1 [6, 7] [(6, .rsl 37 1 0 ((qZ9s t1 x2).length)), (qZ9u x2)] ?_
   refine OpsW.recast (env' := [(6, slA (eI .u8) (qZ9s t1 x2)), (qZ9u x2)]) (h' := []) (StC.mk (phi []) .nil rfl (.cons (.frz rfl rfl rfl (frz_all (eI .u8) 1 (fun _ => rfl) (qZ9s t1 x2)) (fm_length (eI .u8) 1 (fun _ => rfl) (qZ9s t1 x2)) (phi_ne rfl)) (.cons .im .nil))) ?_
   refine OpsW.nil ?_
   show ∃ y, _ ∧ StC _ _ _ _
   exact ⟨[(48 : Int), tab_number_letters.getD (t1 - 1).toNat (0 : Int)] ++ x2.1, H, (StC.pure (.i2 .nil))⟩
  replace H := condF c4 H
  refine AW.skip ?_
  show ∃ y, _ ∧ StC _ _ _ _
  exact ⟨x2.1, H, (StC.pure (.i2 .nil))⟩
 intro v3 H
 change f_number_Ink_k1 x2 v3 = some r at H
 unfold f_number_Ink_k1 at H
 change AW _ _ _ [(6, slA (eI .u8) v3), (qZ9u x2)] [] _
 refine AW.regionSeq (OpsW.sg 4 [5, 4] [(5, .int .i64 x2.2), (4, slA (eI .u8) v3)] ?_)
 refine OpsW.nil ?_
 obtain rfl := Option.some.inj H
 refine AW.recast (env' := [(4, slA (eI .u8) v3), (5, .int .i64 x2.2)]) (h' := []) (StC.pure (.i2 .nil)) ?_
 refine AW.ret ?_
 try simp only [Ex.then, Ex.inBlock, Ex.noGoto, Ex.jump, reduceIte, Nat.reduceEqDiff, reduceCtorEq]
 refine Done.gen rfl (.tmp (.tmp .nil)) ?_
 show _ = _
 kernel_rfl
def f_number_Page_k1 (x4 : (List Int) × Int) (v5 : List Int) : Option ((List Int) × Int) :=
 some (v5, x4.2)
def f_number_Page_k2 (t0 : S_Label) (v3 : Int) : Option ((List Int) × Int) :=
 (f_number_Write v3).bind fun x4 =>
 cond (cond (x4.2 == 0) (decide (0 < t0.K)) false) (
  G (inR (t0.K - 1)) <|
  G (0 ≤ (t0.K - 1) ∧ (t0.K - 1) < 26) <|
  G (room 1 (x4.1.length + 2)) <|
  f_number_Page_k1 x4 (x4.1 ++ [(48 : Int), tab_number_letters.getD (t0.K - 1).toNat (0 : Int)])) (
  f_number_Page_k1 x4 x4.1)
def f_number_Page (t0 : S_Label) (t1 : Bool) : Option ((List Int) × Int) :=
 cond (cond (cond (cond (decide (t0.N < 1)) true (decide (9999 < t0.N))) true (decide (t0.K < 0))) true (decide (2 < t0.K))) (
  some ([], (190 : Int))) (
  G (inR (2 * t0.N)) <|
  cond (!t1) (
   G (inR ((2 * t0.N) - 1)) <|
   f_number_Page_k2 t0 ((2 * t0.N) - 1)) (
   f_number_Page_k2 t0 (2 * t0.N)))
section
variable (t0 : S_Label) (x4 : (List Int) × Int)
abbrev qZ9w := cond (decide (t0.N < 1)) true (decide (9999 < t0.N))
abbrev qZ9x := cond (qZ9w t0) true (decide (t0.K < 0))
abbrev qZ9y := (x4.1 ++ [(48 : Int), tab_number_letters.getD (t0.K - 1).toNat (0 : Int)])
abbrev qZ9z : Nat × AV := (2, .ref 2 0 0)
abbrev qZa0 : Nat × AV := (8, .int .i64 x4.2)
abbrev qZa1 := !(decide (t0.N < 1))
abbrev qZ9v : Hp := [(2, ⟨0, true, 35, 2, [.int .i64 t0.N, .int .i64 t0.K]⟩)]
end
theorem f_number_Page_ok  {t0 : S_Label} {t1 : Bool} {r : (List Int) × Int} (H : f_number_Page t0 t1 = some r) : QSpec Tryd.prog 79 [.agg [.int .i64 t0.N, .int .i64 t0.K], .bool t1] (.tup [slA (eI .u8) r.1, .int .i64 r.2]) := by
 refine Spec.of_AW Tryd.func79 rfl (by simp [Tryd.ntmps79]) ?_
 rw [Tryd.ntmps79]
 unfold f_number_Page at H
 change AW _ _ _ [(0, .agg [.int .i64 t0.N, .int .i64 t0.K]), (1, .bool t1)] [] _
 refine AW.regionSeq (OpsW.box rfl rfl rfl 2 rfl (okCb_sound (by kernel_rfl)) ?_)
 change OpsW _ _ _ _ _ (qZ9v t0) _
 refine OpsW.sg 2 [2, 1] [qZ9z, (1, .bool t1)] ?_
 refine OpsW.recast (env' := [qZ9z, (1, .bool t1)]) (h' := (qZ9v t0)) (StC.mk (phi [(2, some 2)]) (.o rfl (.i2 .nil) .nil) rfl (.cons (.r rfl) (.cons .im .nil))) ?_
 refine OpsW.nil (AW.seq (AW.regionSeq (OpsW.sq 18 [26, 2, 1] [(qZa1 t0) = true → (qZa1 t0) = true, (qZa1 t0) = true → (qZa1 t0) = true, (decide (t0.N < 1)) = false → (qZa1 t0) = true, (!(qZ9w t0)) = true → (!(qZ9w t0)) = true, (!(qZ9w t0)) = true → (!(qZ9w t0)) = true, (qZ9w t0) = false → (!(qZ9w t0)) = true, (!(qZ9x t0)) = true → (!(qZ9x t0)) = true, (!(qZ9x t0)) = true → (!(qZ9x t0)) = true, (qZ9x t0) = false → (!(qZ9x t0)) = true] [(26, .bool (cond (qZ9x t0) true (decide (2 < t0.K)))), qZ9z, (1, .bool t1)] ⟨(fun h => h), (fun h => h), (fun h => by first | exact h | (simpa using h) | grind), (fun h => h), (fun h => h), (fun h => by first | exact h | (simpa using h) | grind), (fun h => h), (fun h => h), (fun h => by first | exact h | (simpa using h) | grind), trivial⟩ ?_)))
 refine OpsW.nil (AW.cond (b := cond (qZ9x t0) true (decide (2 < t0.K))) rfl (fun c1 => ?_) (fun c1 => ?_))
 ·replace H := condT c1 H
  refine AW.regionSeq (OpsW.sg 2 [5, 4] [(5, .int .i64 190), (4, .im (.val (.slice none 0 0)))] ?_)
  refine OpsW.nil ?_
  obtain rfl := Option.some.inj H
  refine AW.recast (env' := [(4, slA (eI .u8) []), (5, .int .i64 190)]) (h' := []) (StC.pure (.cons .nil (.cons .im .nil))) ?_
  refine AW.ret ?_
  try simp only [Ex.then, Ex.inBlock, Ex.noGoto, Ex.jump, reduceIte, Nat.reduceEqDiff, reduceCtorEq]
  refine Done.gen rfl (.tmp (.tmp .nil)) ?_
  show _ = _
  kernel_rfl
 replace H := condF c1 H
 refine AW.skip (AW.regionSeq ?_)
 obtain ⟨g2, H⟩ := G_some H
 refine OpsW.sq 4 [6, 2, 1] [inR (2 * t0.N)] [(6, .int .i64 (2 * t0.N)), qZ9z, (1, .bool t1)] ⟨g2, trivial⟩ ?_
 refine OpsW.nil ?_
 refine AW.joinK (fun (y : Int) => f_number_Page_k2 t0 y) r (fun (y : Int) => [qZ9z, (6, .int .i64 y)]) (fun (y : Int) => (qZ9v t0)) ?_ ?_
 ·refine AW.regionSeq (OpsW.sg 2 [31, 6, 2] [(31, .bool (!t1)), (6, .int .i64 (2 * t0.N)), qZ9z] ?_)
  refine OpsW.nil (AW.cond (b := !t1) rfl (fun c10 => ?_) (fun c10 => ?_))
  ·replace H := condT c10 H
   refine AW.region ?_
   obtain ⟨g11, H⟩ := G_some H
   refine OpsW.sq 3 [6, 2] [inR ((2 * t0.N) - 1)] [(6, .int .i64 ((2 * t0.N) - 1)), qZ9z] ⟨g11, trivial⟩ ?_
   refine OpsW.nil ?_
   show ∃ y, _ ∧ StC _ _ _ _
   exact ⟨(2 * t0.N) - 1, H, (StC.mk (phi [(2, some 2)]) (.o rfl (.i2 .nil) .nil) rfl (.cons (.r rfl) (.cons .im .nil)))⟩
  replace H := condF c10 H
  refine AW.skip ?_
  show ∃ y, _ ∧ StC _ _ _ _
  exact ⟨2 * t0.N, H, (StC.mk (phi [(2, some 2)]) (.o rfl (.i2 .nil) .nil) rfl (.cons (.r rfl) (.cons .im .nil)))⟩
 intro v3 H
 change f_number_Page_k2 t0 v3 = some r at H
 unfold f_number_Page_k2 at H
 change AW _ _ _ [qZ9z, (6, .int .i64 v3)] (qZ9v t0) _
 refine AW.regionSeq (OpsW.sg 1 [35, 2] [(35, .int .i64 v3), qZ9z] ?_)
 obtain ⟨x4, hx4, H⟩ := bindS H
 refine OpsW.call rfl rfl (by kernel_rfl) [] _ _ rfl (glAll_sound trivial) (.cons (.pur rfl) .nil) (f_number_Write_own hx4) ?_
 rintro _ _ ⟨rfl, rfl⟩
 refine ⟨fresh_of (by kernel_rfl), .inl rfl, ?_⟩
 change OpsW _ _ _ _ [(36, .tup [.rsl 1000 0 0 x4.1.length, .int .i64 x4.2]), (35, .int .i64 v3), qZ9z] ((1000, rtA 0 42 1 (eI .u8) x4.1) :: (qZ9v t0)) _
 refine OpsW.recast (env' := [(36, .tup [.rsl 600 0 0 x4.1.length, .int .i64 x4.2]), (35, .int .i64 v3), qZ9z]) (h' := ((600, rtA 0 42 1 (eI .u8) x4.1) :: (qZ9v t0))) (StC.mk (phi [(600, some 1000), (2, some 2)]) (.o rfl (CstL.ims _) (.o rfl (.i2 .nil) .nil)) rfl (.cons (.tup (.cons (.s rfl) (.cons .im .nil))) (.cons .im (.cons (.r rfl) .nil)))) ?_
 refine OpsW.sg 5 [8, 7, 2] [(qZa0 x4), (7, .rsl 600 0 0 x4.1.length), qZ9z] ?_
 refine OpsW.recast (env' := [(qZa0 x4), (7, .rsl 7 0 0 x4.1.length), qZ9z]) (h' := [(2, ⟨0, true, 35, 2, [.int .i64 t0.N, .int .i64 t0.K]⟩), (7, rtA 0 42 1 (eI .u8) x4.1)]) (StC.mk (phi [(2, some 2), (7, some 600)]) (.o rfl (.i2 .nil) (.o rfl (CstL.ims _) .nil)) rfl (.cons .im (.cons (.s rfl) (.cons (.r rfl) .nil)))) ?_
 refine OpsW.nil ?_
 refine AW.joinK (fun (y : (List Int)) => f_number_Page_k1 x4 y) r (fun (y : (List Int)) => [(7, slA (eI .u8) y), (qZa0 x4)]) (fun (y : (List Int)) => []) ?_ ?_
 ·refine AW.regionSeq (OpsW.sq 7 [45, 8, 7, 2] [(x4.2 == 0) = true → (x4.2 == 0) = true, (x4.2 == 0) = true → (x4.2 == 0) = true, (x4.2 == 0) = true → (x4.2 == 0) = true] [(45, .bool (cond (x4.2 == 0) (decide (0 < t0.K)) false)), (qZa0 x4), (7, .rsl 7 0 0 x4.1.length), qZ9z] ⟨(fun h => h), (fun h => h), (fun h => by first | exact h | (simpa using h) | grind), trivial⟩ ?_)
  refine OpsW.nil (AW.cond (b := cond (x4.2 == 0) (decide (0 < t0.K)) false) rfl (fun c6 => ?_) (fun c6 => ?_))
  ·replace H := condT c6 H
   refine AW.region ?_
   obtain ⟨g7, H⟩ := G_some H
   obtain ⟨g8, H⟩ := G_some H
   refine OpsW.sq 5 [50, 46, 8, 7] [inR (t0.K - 1), 0 ≤ (t0.K - 1) ∧ (t0.K - 1) < 26] [(50, .ipt (tab_number_letters.flatMap (eI .u8)) (0 + (t0.K - 1).toNat * 1)), (46, .rsl 7 0 0 x4.1.length), (qZa0 x4), (7, .rsl 7 0 0 x4.1.length)] ⟨g7, g8, trivial⟩ ?_
   refine OpsW.asU (.int .u8 (tab_number_letters.getD (t0.K - 1).toNat (0 : Int))) rfl rfl (T.load rfl trivial (by kernel_rfl) (tabOff (fm_cell0 (eI .u8) 1 (fun _ => rfl) tab_number_letters (0 : Int) (t0.K - 1).toNat (ltA (n := 26) g8 rfl) (fun a => .val (.int .u8 a)) (fun _ => rfl)))) ?_
   obtain ⟨g9, H⟩ := G_some H
   refine OpsW.appendLF (enc := eI .u8) [(48 : Int), tab_number_letters.getD (t0.K - 1).toNat (0 : Int)] rfl rfl rfl (by decide) rfl rfl rfl (by simp) E41 (fun _ => rfl) (by decide) trivial (by kernel_rfl) (by kernel_rfl) (by kernel_rfl) rfl rfl rfl g9 ?_
   refine OpsW.sg 1 [7, 8] [(7, .rsl 7 1 0 ((qZ9y t0 x4).length)), (qZa0 x4)] ?_
   refine OpsW.recast (env' := [(7, slA (eI .u8) (qZ9y t0 x4)), (qZa0 x4)]) (h' := []) (StC.mk (phi []) .nil rfl (.cons (.frz rfl rfl rfl (frz_all (eI .u8) 1 (fun _ => rfl) (qZ9y t0 x4)) (fm_length (eI .u8) 1 (fun _ => rfl) (qZ9y t0 x4)) (phi_ne rfl)) (.cons .im .nil))) ?_
   refine OpsW.nil ?_
   show ∃ y, _ ∧ StC _ _ _ _
   exact ⟨x4.1 ++ [(48 : Int), tab_number_letters.getD (t0.K - 1).toNat (0 : Int)], H, (StC.pure (.i2 .nil))⟩
  replace H := condF c6 H
  refine AW.skip ?_
  show ∃ y, _ ∧ StC _ _ _ _
  exact ⟨x4.1, H, (StC.mk (phi []) .nil rfl (.cons (.frz rfl rfl rfl (frz_all (eI .u8) 1 (fun _ => rfl) x4.1) (fm_length (eI .u8) 1 (fun _ => rfl) x4.1) (phi_ne rfl)) (.cons .im .nil)))⟩
 intro v5 H
 change f_number_Page_k1 x4 v5 = some r at H
 unfold f_number_Page_k1 at H
 change AW _ _ _ [(7, slA (eI .u8) v5), (qZa0 x4)] [] _
 refine AW.regionSeq (OpsW.sg 4 [5, 4] [(5, .int .i64 x4.2), (4, slA (eI .u8) v5)] ?_)
 refine OpsW.nil ?_
 obtain rfl := Option.some.inj H
 refine AW.recast (env' := [(4, slA (eI .u8) v5), (5, .int .i64 x4.2)]) (h' := []) (StC.pure (.i2 .nil)) ?_
 refine AW.ret ?_
 try simp only [Ex.then, Ex.inBlock, Ex.noGoto, Ex.jump, reduceIte, Nat.reduceEqDiff, reduceCtorEq]
 refine Done.gen rfl (.tmp (.tmp .nil)) ?_
 show _ = _
 kernel_rfl
def f_slices_Grow_api_Cell_k1 (v2 : List Int) : Option (List Int) :=
 some v2
def f_slices_Grow_api_Cell (t1 : Int) : Option (List Int) :=
 cond (decide (t1 < 0)) (
  none) (
  G (inR (0 - ((0 : Nat) : Int))) <|
  G (inR (t1 - (0 - ((0 : Nat) : Int)))) <|
  cond (decide ((0 : Int) < (t1 - (0 - ((0 : Nat) : Int))))) (
   G (0 < (t1 - (0 - ((0 : Nat) : Int)))) <|
   G (room 1 (t1 - (0 - ((0 : Nat) : Int))).toNat) <|
   G (0 ≤ ((0 : Nat) : Int) ∧ ((0 : Nat) : Int) ≤ ((t1 - (0 - ((0 : Nat) : Int))).toNat : Int)) <|
   f_slices_Grow_api_Cell_k1 ([] : List Int)) (
   f_slices_Grow_api_Cell_k1 []))
section
variable (t1 : Int)
abbrev qZa5 := (t1 - (0 - ((0 : Nat) : Int)))
abbrev qZa2 : Env := [(1, .int .i64 (qZa5 t1)), (0, .im (.val (.slice none 0 0)))]
abbrev qZa3 : Env := [(0, .im (.val (.slice none 0 0))), (1, .int .i64 t1)]
abbrev qZa4 : Env := [(21, .int .i64 (qZa5 t1)), (20, .im (.val (.slice none 0 0))), (0, .im (.val (.slice none 0 0)))]
end
theorem f_slices_Grow_api_Cell_own {t1 : Int} {r : List Int} (H : f_slices_Grow_api_Cell t1 = some r) : Abs.Spec Tryd.prog 85 [.im (.val (.slice none 0 0)), .int .i64 t1] [] (fun x h => x = .rsl 1000 0 0 r.length ∧ h = [(1000, rtA 0 42 1 (eI .u8) r)]) := by
 refine Spec.of_AW Tryd.func85 rfl (by simp [Tryd.ntmps85]) ?_
 rw [Tryd.ntmps85]
 unfold f_slices_Grow_api_Cell at H
 change AW _ _ _ (qZa3 t1) [] _
 refine AW.regionSeq (OpsW.sg 1 [0, 1] (qZa3 t1) ?_)
 refine OpsW.nil (AW.seq (AW.regionSeq (OpsW.sg 2 [6, 0, 1] ((6, .bool (decide (t1 < 0))) :: (qZa3 t1)) ?_)))
 refine OpsW.nil (AW.cond (b := decide (t1 < 0)) rfl (fun c1 => ?_) (fun c1 => ?_))
 ·replace H := condT c1 H
  cases H
 replace H := condF c1 H
 refine AW.skip ?_
 refine AW.joinK (fun (y : (List Int)) => f_slices_Grow_api_Cell_k1 y) r (fun (y : (List Int)) => [(0, .rsl 0 0 0 y.length)]) (fun (y : (List Int)) => [(0, rtA 0 42 1 (eI .u8) y)]) ?_ ?_
 ·refine AW.regionSeq (OpsW.sg 2 [9, 8, 0, 1] ((9, .im (.val (.slice none 0 0))) :: (8, .int .i64 t1) :: (qZa3 t1)) ?_)
  refine OpsW.quietU (.int .i64 0) rfl rfl (Quiet.capNil rfl (by kernel_rfl) (gpoU rfl ⟨trivial, rfl⟩)) ?_
  obtain ⟨g3, H⟩ := G_some H
  obtain ⟨g4, H⟩ := G_some H
  refine OpsW.sq 5 [1, 0] [inR (0 - ((0 : Nat) : Int)), inR (qZa5 t1)] (qZa2 t1) ⟨g3, g4, trivial⟩ ?_
  refine OpsW.nil (AW.regionSeq (OpsW.sg 2 [16, 1, 0] ((16, .bool (decide ((0 : Int) < (qZa5 t1)))) :: (qZa2 t1)) ?_))
  refine OpsW.nil (AW.cond (b := decide ((0 : Int) < (qZa5 t1))) rfl (fun c5 => ?_) (fun c5 => ?_))
  ·replace H := condT c5 H
   refine AW.region (OpsW.sg 2 [18, 17, 1, 0] ((18, .im (.val (.slice none 0 0))) :: (17, .im (.val (.slice none 0 0))) :: (qZa2 t1)) ?_)
   refine OpsW.quietU (.int .i64 0) rfl rfl (Quiet.capNil rfl (by kernel_rfl) (gpoU rfl ⟨trivial, rfl⟩)) ?_
   refine OpsW.quietU (.im (.val (.slice none 0 0))) rfl rfl (Quiet.sliceNil rfl (by kernel_rfl) (by kernel_rfl) (gpoU rfl ⟨trivial, rfl, trivial, rfl⟩)) ?_
   refine OpsW.sg 1 [21, 20, 0] (qZa4 t1) ?_
   obtain ⟨g6, H⟩ := G_some H
   obtain ⟨g7, H⟩ := G_some H
   refine OpsW.growNil rfl rfl rfl 22 rfl E41 (by kernel_rfl) rfl rfl g6 g7 ?_
   change OpsW _ _ _ _ ((22, .rsl 22 0 0 ((qZa5 t1).toNat)) :: (qZa4 t1)) [(22, rtA 0 42 1 (eI .u8) ([] : List Int))] _
   obtain ⟨g8, H⟩ := G_some H
   refine OpsW.sq 4 [0] [0 ≤ ((0 : Nat) : Int) ∧ ((0 : Nat) : Int) ≤ ((qZa5 t1).toNat : Int)] [(0, .rsl 22 0 0 (([] : List Int).length))] ⟨g8, trivial⟩ ?_
   refine OpsW.recast (env' := [(0, .rsl 0 0 0 (([] : List Int).length))]) (h' := [(0, rtA 0 42 1 (eI .u8) ([] : List Int))]) (StC.mk (phi [(0, some 22)]) (.o rfl (CstL.ims _) .nil) rfl (.cons (.s rfl) .nil)) ?_
   refine OpsW.nil ?_
   show ∃ y, _ ∧ StC _ _ _ _
   exact ⟨([] : List Int), H, (StC.mk (phi [(0, some 0)]) (.o rfl (CstL.ims _) .nil) rfl (.cons (.s rfl) .nil))⟩
  replace H := condF c5 H
  refine AW.skip ?_
  show ∃ y, _ ∧ StC _ _ _ _
  exact ⟨[], H, (StC.mk (phi [(0, none)]) (.new rfl .nil) rfl (.cons (.nilr rfl rfl rfl) .nil))⟩
 intro v2 H
 change f_slices_Grow_api_Cell_k1 v2 = some r at H
 unfold f_slices_Grow_api_Cell_k1 at H
 change AW _ _ _ [(0, .rsl 0 0 0 v2.length)] [(0, rtA 0 42 1 (eI .u8) v2)] _
 refine AW.regionSeq (OpsW.sg 2 [4] [(4, .rsl 0 0 0 v2.length)] ?_)
 refine OpsW.nil ?_
 obtain rfl := Option.some.inj H
 refine AW.recast (env' := [(4, .rsl 1000 0 0 v2.length)]) (h' := [(1000, rtA 0 42 1 (eI .u8) v2)]) (StC.mk (phi [(1000, some 0)]) (.o rfl (CstL.ims _) .nil) rfl (.cons (.s rfl) .nil)) ?_
 refine AW.ret ?_
 refine Done.gen rfl (.tmp .nil) ?_
 exact ⟨by kernel_rfl, rfl⟩
def f_slices_Concat_api_Cell_b1 (t0 : List (List Int)) (loop12 : ((List Int) × Int) → Option (List Int)) (v10 : List Int) (v11 : Int) : Option (List Int) :=
 cond (decide (v11 < (t0.length : Int))) (
  G (0 ≤ v11 ∧ v11 < (t0.length : Int)) <|
  G (room 1 (v10.length + (t0.getD v11.toNat []).length)) <|
  G (inR (v11 + 1)) <|
  loop12 (v10 ++ (t0.getD v11.toNat []), v11 + 1)) (
  some v10)
def f_slices_Concat_api_Cell_b2 (t0 : List (List Int)) (loop3 : (Int × Int) → Option (List Int)) (v1 : Int) (v2 : Int) : Option (List Int) :=
 cond (decide (v2 < (t0.length : Int))) (
  G (0 ≤ v2 ∧ v2 < (t0.length : Int)) <|
  G (inR (v1 + ((t0.getD v2.toNat []).length : Int))) <|
  cond (decide ((v1 + ((t0.getD v2.toNat []).length : Int)) < 0)) (
   none) (
   G (inR (v2 + 1)) <|
   loop3 (v1 + ((t0.getD v2.toNat []).length : Int), v2 + 1))) (
  (f_slices_Grow_api_Cell v1).bind fun x9 =>
  iter (fun loop (s : (List Int) × Int) => f_slices_Concat_api_Cell_b1 t0 loop s.1 s.2) 1000000 (x9, (0 : Int)))
def f_slices_Concat_api_Cell (t0 : List (List Int)) : Option (List Int) :=
 iter (fun loop (s : Int × Int) => f_slices_Concat_api_Cell_b2 t0 loop s.1 s.2) 1000000 ((0 : Int), (0 : Int))
section
variable (t0 : List (List Int)) (v1 : Int) (v2 : Int) (v10 : List Int) (v11 : Int)
abbrev qZac := ((t0.getD v2.toNat []).length : Int)
abbrev qZad := (t0.length : Int)
abbrev qZae := t0.getD v11.toNat []
abbrev qZaf : Nat × AV := (0, slA (eL (eI .u8)) t0)
abbrev qZa6 : Env := [(25, slA (eL (eI .u8)) t0), (26, .int .i64 (qZad t0)), (27, .int .i64 v11)]
abbrev qZa7 : Env := [(9, slA (eL (eI .u8)) t0), (10, .int .i64 (qZad t0)), (11, .int .i64 v2)]
abbrev qZa8 : Env := [(qZaf t0)]
abbrev qZa9 : Env := (qZaf t0) :: (3, .int .i64 v1) :: (qZa7 t0 v2)
abbrev qZaa : Env := (3, .int .i64 (v1 + (qZac t0 v2))) :: (qZaf t0) :: (qZa7 t0 v2)
abbrev qZab : Env := (6, .rsl 6 0 0 v10.length) :: (qZa6 t0 v11)
end
theorem f_slices_Concat_api_Cell_ok  {t0 : List (List Int)} {r : List Int} (H : f_slices_Concat_api_Cell t0 = some r) : QSpec Tryd.prog 83 [slA (eL (eI .u8)) t0] (slA (eI .u8) r) := by
 refine Spec.of_AW Tryd.func83 rfl (by simp [Tryd.ntmps83]) ?_
 rw [Tryd.ntmps83]
 unfold f_slices_Concat_api_Cell at H
 change AW _ _ _ (qZa8 t0) [] _
 refine AW.regionSeq (OpsW.sg 1 [0] (qZa8 t0) ?_)
 refine OpsW.nil (AW.regionSeq (OpsW.sg 1 [3, 0] ((3, .int .i64 0) :: (qZa8 t0)) ?_))
 refine OpsW.nil (AW.seq (AW.regionSeq (OpsW.sg 3 [11, 10, 9, 3, 0] ((11, .int .i64 0) :: (10, .int .i64 (qZad t0)) :: (9, slA (eL (eI .u8)) t0) :: (3, .int .i64 0) :: (qZa8 t0)) ?_)))
 refine OpsW.nil (AW.block ?_)
 refine AW.iterK (fun loop (s : Int × Int) => f_slices_Concat_api_Cell_b2 t0 loop s.1 s.2) r (fun (s : Int × Int) => [(qZaf t0), (3, .int .i64 s.1), (9, slA (eL (eI .u8)) t0), (10, .int .i64 (qZad t0)), (11, .int .i64 s.2)]) (fun (s : Int × Int) => []) ?_ 1000000 ((0 : Int), (0 : Int)) H (StC.pure (.i5 .nil))
 intro loop3 s H
 obtain ⟨v1, v2⟩ := s
 change f_slices_Concat_api_Cell_b2 t0 loop3 v1 v2 = some r at H
 unfold f_slices_Concat_api_Cell_b2 at H
 change AW _ _ _ (qZa9 t0 v1 v2) [] _
 refine AW.regionSeq (OpsW.sg 1 [12, 0, 3, 9, 10, 11] ((12, .bool (decide (v2 < (qZad t0)))) :: (qZa9 t0 v1 v2)) ?_)
 refine OpsW.nil (AW.seq (AW.cond (b := decide (v2 < (qZad t0))) rfl (fun c4 => ?_) (fun c4 => ?_)))
 ·replace H := condT c4 H
  refine AW.skip (AW.seq (AW.block (AW.regionSeq ?_)))
  obtain ⟨g5, H⟩ := G_some H
  refine OpsW.sq 1 [13, 0, 3, 9, 10, 11] [0 ≤ v2 ∧ v2 < (qZad t0)] ((13, .ipt (t0.flatMap (eL (eI .u8))) (v2.toNat * 1)) :: (qZa9 t0 v1 v2)) ⟨g5, trivial⟩ ?_
  refine OpsW.asU (slA (eI .u8) (t0.getD v2.toNat [])) rfl rfl (T.load rfl trivial (by kernel_rfl) (fm_cell0 (eL (eI .u8)) 1 (fun _ => rfl) t0 [] v2.toNat (ltN g5) (fun a => .sl (a.flatMap (eI .u8)) a.length) (fun _ => rfl))) ?_
  refine OpsW.sg 1 [5, 0, 3, 9, 10, 11] ((5, slA (eI .u8) (t0.getD v2.toNat [])) :: (qZa9 t0 v1 v2)) ?_
  refine OpsW.nil (AW.regionSeq ?_)
  obtain ⟨g6, H⟩ := G_some H
  refine OpsW.sq 5 [3, 0, 9, 10, 11] [inR (v1 + (qZac t0 v2))] (qZaa t0 v1 v2) ⟨g6, trivial⟩ ?_
  refine OpsW.nil (AW.regionSeq (OpsW.sg 2 [20, 3, 0, 9, 10, 11] ((20, .bool (decide ((v1 + (qZac t0 v2)) < 0))) :: (qZaa t0 v1 v2)) ?_))
  refine OpsW.nil (AW.cond (b := decide ((v1 + (qZac t0 v2)) < 0)) rfl (fun c7 => ?_) (fun c7 => ?_))
  ·replace H := condT c7 H
   cases H
  replace H := condF c7 H
  refine AW.skip (AW.region ?_)
  obtain ⟨g8, H⟩ := G_some H
  refine OpsW.sq 2 [11, 3, 0, 9, 10] [inR (v2 + 1)] [(11, .int .i64 (v2 + 1)), (3, .int .i64 (v1 + (qZac t0 v2))), (qZaf t0), (9, slA (eL (eI .u8)) t0), (10, .int .i64 (qZad t0))] ⟨g8, trivial⟩ ?_
  refine OpsW.nil ?_
  show ∃ y, _ ∧ StC _ _ _ _
  exact ⟨(v1 + (qZac t0 v2), v2 + 1), H, (StC.pure (.i5 .nil))⟩
 replace H := condF c4 H
 refine AW.exit ?_
 refine AW.regionSeq (OpsW.sg 1 [23, 0] ((23, .int .i64 v1) :: (qZa8 t0)) ?_)
 obtain ⟨x9, hx9, H⟩ := bindS H
 refine OpsW.call rfl rfl (by kernel_rfl) [] _ _ rfl (glAll_sound trivial) (.cons (.pur rfl) (.cons (.pur rfl) .nil)) (f_slices_Grow_api_Cell_own hx9) ?_
 rintro _ _ ⟨rfl, rfl⟩
 refine ⟨fresh_of (by kernel_rfl), .inl rfl, ?_⟩
 change OpsW _ _ _ _ ((24, .rsl 1000 0 0 x9.length) :: (23, .int .i64 v1) :: (qZa8 t0)) [(1000, rtA 0 42 1 (eI .u8) x9)] _
 refine OpsW.recast (env' := ((24, .rsl 600 0 0 x9.length) :: (23, .int .i64 v1) :: (qZa8 t0))) (h' := [(600, rtA 0 42 1 (eI .u8) x9)]) (StC.mk (phi [(600, some 1000)]) (.o rfl (CstL.ims _) .nil) rfl (.cons (.s rfl) (.i2 .nil))) ?_
 refine OpsW.sg 1 [6, 0] ((6, .rsl 600 0 0 x9.length) :: (qZa8 t0)) ?_
 refine OpsW.recast (env' := ((6, .rsl 6 0 0 x9.length) :: (qZa8 t0))) (h' := [(6, rtA 0 42 1 (eI .u8) x9)]) (StC.mk (phi [(6, some 600)]) (.o rfl (CstL.ims _) .nil) rfl (.cons (.s rfl) (.cons .im .nil))) ?_
 refine OpsW.nil (AW.seq (AW.regionSeq (OpsW.sg 3 [27, 26, 25, 6] [(27, .int .i64 0), (26, .int .i64 (qZad t0)), (25, slA (eL (eI .u8)) t0), (6, .rsl 6 0 0 x9.length)] ?_)))
 refine OpsW.nil (AW.block ?_)
 refine AW.iterK (fun loop (s : (List Int) × Int) => f_slices_Concat_api_Cell_b1 t0 loop s.1 s.2) r (fun (s : (List Int) × Int) => [(6, .rsl 6 0 0 s.1.length), (25, slA (eL (eI .u8)) t0), (26, .int .i64 (qZad t0)), (27, .int .i64 s.2)]) (fun (s : (List Int) × Int) => [(6, rtA 0 42 1 (eI .u8) s.1)]) ?_ 1000000 (x9, (0 : Int)) H (StC.mk (phi [(6, some 6)]) (.o rfl (CstL.ims _) .nil) rfl (.cons (.s rfl) (.i3 .nil)))
 intro loop12 s H
 obtain ⟨v10, v11⟩ := s
 change f_slices_Concat_api_Cell_b1 t0 loop12 v10 v11 = some r at H
 unfold f_slices_Concat_api_Cell_b1 at H
 change AW _ _ _ (qZab t0 v10 v11) [(6, rtA 0 42 1 (eI .u8) v10)] _
 refine AW.regionSeq (OpsW.sg 1 [28, 6, 25, 26, 27] ((28, .bool (decide (v11 < (qZad t0)))) :: (qZab t0 v10 v11)) ?_)
 refine OpsW.nil (AW.seq (AW.cond (b := decide (v11 < (qZad t0))) rfl (fun c13 => ?_) (fun c13 => ?_)))
 ·replace H := condT c13 H
  refine AW.skip (AW.seq (AW.block (AW.regionSeq ?_)))
  obtain ⟨g14, H⟩ := G_some H
  refine OpsW.sq 1 [29, 6, 25, 26, 27] [0 ≤ v11 ∧ v11 < (qZad t0)] ((29, .ipt (t0.flatMap (eL (eI .u8))) (v11.toNat * 1)) :: (qZab t0 v10 v11)) ⟨g14, trivial⟩ ?_
  refine OpsW.asU (slA (eI .u8) (qZae t0 v11)) rfl rfl (T.load rfl trivial (by kernel_rfl) (fm_cell0 (eL (eI .u8)) 1 (fun _ => rfl) t0 [] v11.toNat (ltN g14) (fun a => .sl (a.flatMap (eI .u8)) a.length) (fun _ => rfl))) ?_
  refine OpsW.sg 1 [8, 6, 25, 26, 27] ((8, slA (eI .u8) (qZae t0 v11)) :: (qZab t0 v10 v11)) ?_
  refine OpsW.nil (AW.region (OpsW.sg 2 [32, 31, 6, 25, 26, 27] ((32, slA (eI .u8) (qZae t0 v11)) :: (31, .rsl 6 0 0 v10.length) :: (qZab t0 v10 v11)) ?_))
  obtain ⟨g15, H⟩ := G_some H
  refine OpsW.appendF (enc := eI .u8) (ys := t0.getD v11.toNat []) rfl rfl rfl E41 (fun _ => rfl) rfl rfl trivial (SrcA.typed (enc := eI .u8) (fun _ => rfl) (by kernel_rfl) (qZae t0 v11)) rfl g15 ?_
  refine OpsW.sg 1 [6, 25, 26, 27] ((6, .rsl 6 1 0 ((v10 ++ (qZae t0 v11)).length)) :: (qZa6 t0 v11)) ?_
  refine OpsW.recast (env' := ((6, .rsl 6 0 0 ((v10 ++ (qZae t0 v11)).length)) :: (qZa6 t0 v11))) (h' := [(6, rtA 0 42 1 (eI .u8) (v10 ++ (qZae t0 v11)))]) (StC.mk (phi [(6, some 6)]) (.o rfl (CstL.ims _) .nil) rfl (.cons (.s rfl) (.i3 .nil))) ?_
  refine OpsW.nil (AW.region ?_)
  obtain ⟨g16, H⟩ := G_some H
  refine OpsW.sq 2 [27, 6, 25, 26] [inR (v11 + 1)] [(27, .int .i64 (v11 + 1)), (6, .rsl 6 0 0 ((v10 ++ (qZae t0 v11)).length)), (25, slA (eL (eI .u8)) t0), (26, .int .i64 (qZad t0))] ⟨g16, trivial⟩ ?_
  refine OpsW.nil ?_
  show ∃ y, _ ∧ StC _ _ _ _
  exact ⟨(v10 ++ (qZae t0 v11), v11 + 1), H, (StC.mk (phi [(6, some 6)]) (.o rfl (CstL.ims _) .nil) rfl (.cons (.s rfl) (.i3 .nil)))⟩
 replace H := condF c13 H
 refine AW.exit ?_
 refine AW.regionSeq (OpsW.sg 2 [2] [(2, .rsl 6 0 0 v10.length)] ?_)
 refine OpsW.recast (env' := [(2, slA (eI .u8) v10)]) (h' := []) (StC.mk (phi []) .nil rfl (.cons (.frz rfl rfl rfl (frz_all (eI .u8) 1 (fun _ => rfl) v10) (fm_length (eI .u8) 1 (fun _ => rfl) v10) (phi_ne rfl)) .nil)) ?_
 refine OpsW.nil ?_
 obtain rfl := Option.some.inj H
 refine AW.recast (env' := [(2, slA (eI .u8) v10)]) (h' := []) (StC.pure (.cons .im .nil)) ?_
 refine AW.ret ?_
 refine Done.gen rfl (.tmp .nil) ?_
 show _ = _
 kernel_rfl
def f_number_join (t0 : List (List Int)) : Option (List Int) :=
 (f_slices_Concat_api_Cell t0).bind fun x1 =>
 some x1
theorem f_number_join_ok  {t0 : List (List Int)} {r : List Int} (H : f_number_join t0 = some r) : QSpec Tryd.prog 80 [slA (eL (eI .u8)) t0] (slA (eI .u8) r) := by
 refine Spec.of_AW Tryd.func80 rfl (by simp [Tryd.ntmps80]) ?_
 rw [Tryd.ntmps80]
 unfold f_number_join at H
 change AW _ _ _ [(0, slA (eL (eI .u8)) t0)] [] _
 refine AW.regionSeq (OpsW.sg 1 [0] [(0, slA (eL (eI .u8)) t0)] ?_)
 refine OpsW.nil (AW.regionSeq (OpsW.sg 1 [3] [(3, slA (eL (eI .u8)) t0)] ?_))
 obtain ⟨x1, hx1, H⟩ := bindS H
 refine OpsW.qcall rfl (by kernel_rfl) rfl rfl (glAll_sound trivial) (.cons (.pur rfl) .nil) (f_slices_Concat_api_Cell_ok hx1) rfl ?_
 refine OpsW.sg 1 [2] [(2, slA (eI .u8) x1)] ?_
 refine OpsW.nil ?_
 obtain rfl := Option.some.inj H
 refine AW.recast (env' := [(2, slA (eI .u8) x1)]) (h' := []) (StC.pure (.cons .im .nil)) ?_
 refine AW.ret ?_
 refine Done.gen rfl (.tmp .nil) ?_
 show _ = _
 kernel_rfl
def f_number_Header_k1 (t0 : S_Header) (v2 : List Int) : Option ((List Int) × Int) :=
 (f_number_Page t0.Label t0.Back).bind fun x3 =>
 cond (x3.2 != 0) (
  some ([], (190 : Int))) (
  G (inR (t0.Width - (v2.length : Int))) <|
  G (inR ((t0.Width - (v2.length : Int)) - (x3.1.length : Int))) <|
  G (0 ≤ ((t0.Width - (v2.length : Int)) - (x3.1.length : Int)) ∧ ((t0.Width - (v2.length : Int)) - (x3.1.length : Int)) ≤ ((t0.Width - (v2.length : Int)) - (x3.1.length : Int)) ∧ ((1 : Nat) : Int) * ((t0.Width - (v2.length : Int)) - (x3.1.length : Int)) ≤ 281474976710656 ∧ ((t0.Width - (v2.length : Int)) - (x3.1.length : Int)) ≤ 9223372036854775807) <|
  (f_number_join [v2, List.replicate ((t0.Width - (v2.length : Int)) - (x3.1.length : Int)).toNat (0 : Int), x3.1]).bind fun x8 =>
  some (x8, (0 : Int)))
def f_number_Header (t0 : S_Header) : Option ((List Int) × Int) :=
 cond (cond (decide (t0.Width < 24)) true (decide (60 < t0.Width))) (
  some ([], (1 : Int))) (
  cond (cond (t0.Ink != 0) true (t0.Part != 0)) (
   (f_number_Ink t0.Ink t0.Part).bind fun x10 =>
   cond (x10.2 != 0) (
    some ([], (190 : Int))) (
    f_number_Header_k1 t0 x10.1)) (
   f_number_Header_k1 t0 []))
section
variable (t0 : S_Header) (v2 : List Int) (x3 : ((List Int) × Int))
abbrev qZaj := ((t0.Width - (v2.length : Int)) - (x3.1.length : Int))
abbrev qZak := decide (t0.Width < 24)
abbrev qZal : List AV := [.int .i64 t0.Width, .int .i64 t0.Label.N, .int .i64 t0.Label.K, .bool t0.Back, .int .i64 t0.Ink, .int .i64 t0.Part]
abbrev qZam := (List.replicate (qZaj t0 v2 x3).toNat (0 : Int))
abbrev qZag : Hp := [(1, ⟨0, true, 86, 6, (qZal t0)⟩)]
abbrev qZah : Env := [(1, .ref 1 0 0), (4, slA (eI .u8) v2)]
abbrev qZai : Env := [(1, .ref 1 0 0)]
end
theorem f_number_Header_ok  {t0 : S_Header} {r : (List Int) × Int} (H : f_number_Header t0 = some r) : QSpec Tryd.prog 73 [.agg [.int .i64 t0.Width, .int .i64 t0.Label.N, .int .i64 t0.Label.K, .bool t0.Back, .int .i64 t0.Ink, .int .i64 t0.Part]] (.tup [slA (eI .u8) r.1, .int .i64 r.2]) := by
 refine Spec.of_AW Tryd.func73 rfl (by simp [Tryd.ntmps73]) ?_
 rw [Tryd.ntmps73]
 unfold f_number_Header at H
 change AW _ _ _ [(0, .agg (qZal t0))] [] _
 refine AW.regionSeq (OpsW.box rfl rfl rfl 1 rfl (okCb_sound (by kernel_rfl)) ?_)
 change OpsW _ _ _ _ _ (qZag t0) _
 refine OpsW.sg 2 [1] qZai ?_
 refine OpsW.recast (env' := qZai) (h' := (qZag t0)) (StC.mk (phi [(1, some 1)]) (.o rfl (.i6 .nil) .nil) rfl (.cons (.r rfl) .nil)) ?_
 refine OpsW.nil (AW.seq (AW.regionSeq (OpsW.sq 8 [16, 1] [(!(qZak t0)) = true → (!(qZak t0)) = true, (!(qZak t0)) = true → (!(qZak t0)) = true, (qZak t0) = false → (!(qZak t0)) = true] ((16, .bool (cond (qZak t0) true (decide (60 < t0.Width)))) :: qZai) ⟨(fun h => h), (fun h => h), (fun h => by first | exact h | (simpa using h) | grind), trivial⟩ ?_)))
 refine OpsW.nil (AW.cond (b := cond (qZak t0) true (decide (60 < t0.Width))) rfl (fun c1 => ?_) (fun c1 => ?_))
 ·replace H := condT c1 H
  refine AW.regionSeq (OpsW.sg 2 [3, 2] [(3, .int .i64 1), (2, .im (.val (.slice none 0 0)))] ?_)
  refine OpsW.nil ?_
  obtain rfl := Option.some.inj H
  refine AW.recast (env' := [(2, slA (eI .u8) []), (3, .int .i64 1)]) (h' := []) (StC.pure (.cons .nil (.cons .im .nil))) ?_
  refine AW.ret ?_
  try simp only [Ex.then, Ex.inBlock, Ex.noGoto, Ex.jump, reduceIte, Nat.reduceEqDiff, reduceCtorEq]
  refine Done.gen rfl (.tmp (.tmp .nil)) ?_
  show _ = _
  kernel_rfl
 replace H := condF c1 H
 refine AW.skip (AW.regionSeq (OpsW.sg 1 [4, 1] ((4, .im (.val (.slice none 0 0))) :: qZai) ?_))
 refine OpsW.nil ?_
 refine AW.joinK (fun (y : (List Int)) => f_number_Header_k1 t0 y) r (fun (y : (List Int)) => [(1, .ref 1 0 0), (4, slA (eI .u8) y)]) (fun (y : (List Int)) => (qZag t0)) ?_ ?_
 ·refine AW.regionSeq (OpsW.sq 8 [24, 4, 1] [(!(t0.Ink != 0)) = true → (!(t0.Ink != 0)) = true, (!(t0.Ink != 0)) = true → (!(t0.Ink != 0)) = true, (t0.Ink != 0) = false → (!(t0.Ink != 0)) = true] ((24, .bool (cond (t0.Ink != 0) true (t0.Part != 0))) :: (4, .im (.val (.slice none 0 0))) :: qZai) ⟨(fun h => h), (fun h => h), (fun h => by first | exact h | (simpa using h) | grind), trivial⟩ ?_)
  refine OpsW.nil (AW.cond (b := cond (t0.Ink != 0) true (t0.Part != 0)) rfl (fun c9 => ?_) (fun c9 => ?_))
  ·replace H := condT c9 H
   refine AW.regionSeq (OpsW.sg 4 [29, 27, 1] ((29, .int .i64 t0.Part) :: (27, .int .i64 t0.Ink) :: qZai) ?_)
   obtain ⟨x10, hx10, H⟩ := bindS H
   refine OpsW.qcall rfl (by kernel_rfl) rfl rfl (glAll_sound trivial) (.cons (.pur rfl) (.cons (.pur rfl) .nil)) (f_number_Ink_ok hx10) rfl ?_
   refine OpsW.sg 5 [6, 5, 1] ((6, .int .i64 x10.2) :: (5, slA (eI .u8) x10.1) :: qZai) ?_
   refine OpsW.nil (AW.seq (AW.regionSeq (OpsW.sg 2 [34, 5, 1] ((34, .bool (x10.2 != 0)) :: (5, slA (eI .u8) x10.1) :: qZai) ?_)))
   refine OpsW.nil (AW.cond (b := x10.2 != 0) rfl (fun c11 => ?_) (fun c11 => ?_))
   ·replace H := condT c11 H
    refine AW.regionSeq (OpsW.sg 2 [3, 2] [(3, .int .i64 190), (2, .im (.val (.slice none 0 0)))] ?_)
    refine OpsW.nil ?_
    obtain rfl := Option.some.inj H
    refine AW.recast (env' := [(2, slA (eI .u8) []), (3, .int .i64 190)]) (h' := []) (StC.pure (.cons .nil (.cons .im .nil))) ?_
    refine AW.ret ?_
    try simp only [Ex.then, Ex.inBlock, Ex.noGoto, Ex.jump, reduceIte, Nat.reduceEqDiff, reduceCtorEq]
    refine Done.gen rfl (.tmp (.tmp .nil)) ?_
    show _ = _
    kernel_rfl
   replace H := condF c11 H
   refine AW.skip (AW.region (OpsW.sg 2 [4, 1] ((4, slA (eI .u8) x10.1) :: qZai) ?_))
   refine OpsW.nil ?_
   show ∃ y, _ ∧ StC _ _ _ _
   exact ⟨x10.1, H, (StC.mk (phi [(1, some 1)]) (.o rfl (.i6 .nil) .nil) rfl (.cons (.r rfl) (.cons .im .nil)))⟩
  replace H := condF c9 H
  refine AW.skip ?_
  show ∃ y, _ ∧ StC _ _ _ _
  exact ⟨[], H, (StC.mk (phi [(1, some 1)]) (.o rfl (.i6 .nil) .nil) rfl (.cons (.r rfl) (.cons .nil .nil)))⟩
 intro v2 H
 change f_number_Header_k1 t0 v2 = some r at H
 unfold f_number_Header_k1 at H
 change AW _ _ _ (qZah v2) (qZag t0) _
 refine AW.regionSeq (OpsW.sg 4 [40, 38, 1, 4] ((40, .bool t0.Back) :: (38, .agg [.int .i64 t0.Label.N, .int .i64 t0.Label.K]) :: (qZah v2)) ?_)
 obtain ⟨x3, hx3, H⟩ := bindS H
 refine OpsW.qcall rfl (by kernel_rfl) rfl rfl (glAll_sound trivial) (.cons (.pur rfl) (.cons (.pur rfl) .nil)) (f_number_Page_ok hx3) rfl ?_
 refine OpsW.sg 5 [8, 7, 1, 4] ((8, .int .i64 x3.2) :: (7, slA (eI .u8) x3.1) :: (qZah v2)) ?_
 refine OpsW.nil (AW.seq (AW.regionSeq (OpsW.sg 2 [45, 7, 1, 4] ((45, .bool (x3.2 != 0)) :: (7, slA (eI .u8) x3.1) :: (qZah v2)) ?_)))
 refine OpsW.nil (AW.cond (b := x3.2 != 0) rfl (fun c4 => ?_) (fun c4 => ?_))
 ·replace H := condT c4 H
  refine AW.regionSeq (OpsW.sg 2 [3, 2] [(3, .int .i64 190), (2, .im (.val (.slice none 0 0)))] ?_)
  refine OpsW.nil ?_
  obtain rfl := Option.some.inj H
  refine AW.recast (env' := [(2, slA (eI .u8) []), (3, .int .i64 190)]) (h' := []) (StC.pure (.cons .nil (.cons .im .nil))) ?_
  refine AW.ret ?_
  try simp only [Ex.then, Ex.inBlock, Ex.noGoto, Ex.jump, reduceIte, Nat.reduceEqDiff, reduceCtorEq]
  refine Done.gen rfl (.tmp (.tmp .nil)) ?_
  show _ = _
  kernel_rfl
 replace H := condF c4 H
 refine AW.skip (AW.regionSeq ?_)
 obtain ⟨g5, H⟩ := G_some H
 obtain ⟨g6, H⟩ := G_some H
 refine OpsW.sq 9 [54, 46, 7] [inR (t0.Width - (v2.length : Int)), inR (qZaj t0 v2 x3)] [(54, .int .i64 (qZaj t0 v2 x3)), (46, slA (eI .u8) v2), (7, slA (eI .u8) x3.1)] ⟨g5, g6, trivial⟩ ?_
 obtain ⟨g7, H⟩ := G_some H
 refine OpsW.makeT (enc := eI .u8) (0 : Int) rfl rfl rfl 55 rfl E41 rfl rfl rfl g7 ?_
 refine OpsW.sg 1 [56, 55, 46] [(56, slA (eI .u8) x3.1), (55, .rsl 55 0 0 ((qZam t0 v2 x3).length)), (46, slA (eI .u8) v2)] ?_
 refine OpsW.recast (env' := [(56, slA (eI .u8) x3.1), (55, slA (eI .u8) (qZam t0 v2 x3)), (46, slA (eI .u8) v2)]) (h' := (qZag t0)) (StC.mk (phi [(1, some 1)]) (.o rfl (.i6 .nil) .nil) rfl (.cons .im (.cons (.frz rfl rfl rfl (frz_all (eI .u8) 1 (fun _ => rfl) (qZam t0 v2 x3)) (fm_length (eI .u8) 1 (fun _ => rfl) (qZam t0 v2 x3)) (phi_ne rfl)) (.cons .im .nil)))) ?_
 refine OpsW.buildTI (enc := eL (eI .u8)) [v2, List.replicate (qZaj t0 v2 x3).toNat (0 : Int), x3.1] rfl rfl rfl E36 (fun _ => rfl) (by decide) ⟨trivial, by kernel_rfl, by kernel_rfl, by kernel_rfl, rfl⟩ ?_
 obtain ⟨x8, hx8, H⟩ := bindS H
 refine OpsW.qcall rfl (by kernel_rfl) rfl rfl (glAll_sound trivial) (.cons (.pur rfl) .nil) (f_number_join_ok hx8) rfl ?_
 refine OpsW.sg 2 [3, 2] [(3, .int .i64 0), (2, slA (eI .u8) x8)] ?_
 refine OpsW.nil ?_
 obtain rfl := Option.some.inj H
 refine AW.recast (env' := [(2, slA (eI .u8) x8), (3, .int .i64 0)]) (h' := []) (StC.pure (.i2 .nil)) ?_
 refine AW.ret ?_
 try simp only [Ex.then, Ex.inBlock, Ex.noGoto, Ex.jump, reduceIte, Nat.reduceEqDiff, reduceCtorEq]
 refine Done.gen rfl (.tmp (.tmp .nil)) ?_
 show _ = _
 kernel_rfl
def f_slices_Equal_api_Cell_b1 (t0 : List Int) (t1 : List Int) (loop3 : (Int) → Option Bool) (v2 : Int) : Option Bool :=
 cond (decide (v2 < (t0.length : Int))) (
  G (0 ≤ v2 ∧ v2 < (t0.length : Int)) <|
  G (0 ≤ v2 ∧ v2 < (t1.length : Int)) <|
  cond ((t0.getD v2.toNat 0) != (t1.getD v2.toNat 0)) (
   some false) (
   G (inR (v2 + 1)) <|
   loop3 (v2 + 1))) (
  some true)
def f_slices_Equal_api_Cell (t0 : List Int) (t1 : List Int) : Option Bool :=
 cond ((t0.length : Int) != (t1.length : Int)) (
  some false) (
  iter (fun loop (s : Int) => f_slices_Equal_api_Cell_b1 t0 t1 loop s) 1000000 (0 : Int))
section
variable (t0 : List Int) (t1 : List Int) (v2 : Int)
abbrev qZaq := (t0.length : Int)
abbrev qZan : Env := [(0, slA (eI .u8) t0), (1, slA (eI .u8) t1), (12, .int .i64 (qZaq t0)), (13, .int .i64 v2)]
abbrev qZao : Env := (22, .ipt (t1.flatMap (eI .u8)) (v2.toNat * 1)) :: (21, .int .i64 v2) :: (20, slA (eI .u8) t1) :: (19, .int .u8 (t0.getD v2.toNat 0)) :: (18, .ipt (t0.flatMap (eI .u8)) (v2.toNat * 1)) :: (17, .int .i64 v2) :: (16, slA (eI .u8) t0) :: (5, .int .i64 v2) :: (qZan t0 t1 v2)
abbrev qZap : Env := [(0, slA (eI .u8) t0), (1, slA (eI .u8) t1)]
end
theorem f_slices_Equal_api_Cell_ok  {t0 : List Int} {t1 : List Int} {r : Bool} (H : f_slices_Equal_api_Cell t0 t1 = some r) : QSpec Tryd.prog 74 [slA (eI .u8) t0, slA (eI .u8) t1] (.bool r) := by
 refine Spec.of_AW Tryd.func74 rfl (by simp [Tryd.ntmps74]) ?_
 rw [Tryd.ntmps74]
 unfold f_slices_Equal_api_Cell at H
 change AW _ _ _ (qZap t0 t1) [] _
 refine AW.regionSeq (OpsW.sg 1 [0, 1] (qZap t0 t1) ?_)
 refine OpsW.nil (AW.seq (AW.regionSeq (OpsW.sg 5 [10, 0, 1] ((10, .bool ((qZaq t0) != (t1.length : Int))) :: (qZap t0 t1)) ?_)))
 refine OpsW.nil (AW.cond (b := (qZaq t0) != (t1.length : Int)) rfl (fun c1 => ?_) (fun c1 => ?_))
 ·replace H := condT c1 H
  refine AW.regionSeq (OpsW.sg 1 [4] [(4, .bool false)] ?_)
  refine OpsW.nil ?_
  obtain rfl := Option.some.inj H
  refine AW.recast (env' := [(4, .bool false)]) (h' := []) (StC.pure (.cons .im .nil)) ?_
  refine AW.ret ?_
  try simp only [Ex.then, Ex.inBlock, Ex.noGoto, Ex.jump, reduceIte, Nat.reduceEqDiff, reduceCtorEq]
  refine Done.gen rfl (.tmp .nil) ?_
  show _ = _
  kernel_rfl
 replace H := condF c1 H
 refine AW.skip (AW.seq (AW.regionSeq (OpsW.sg 3 [13, 12, 0, 1] ((13, .int .i64 0) :: (12, .int .i64 (qZaq t0)) :: (qZap t0 t1)) ?_)))
 refine OpsW.nil (AW.block ?_)
 refine AW.iterK (fun loop (s : Int) => f_slices_Equal_api_Cell_b1 t0 t1 loop s) r (fun (s : Int) => [(0, slA (eI .u8) t0), (1, slA (eI .u8) t1), (12, .int .i64 (qZaq t0)), (13, .int .i64 s)]) (fun (s : Int) => []) ?_ 1000000 (0 : Int) H (StC.pure (.i4 .nil))
 intro loop3 v2 H
 change f_slices_Equal_api_Cell_b1 t0 t1 loop3 v2 = some r at H
 unfold f_slices_Equal_api_Cell_b1 at H
 change AW _ _ _ (qZan t0 t1 v2) [] _
 refine AW.regionSeq (OpsW.sg 1 [14, 0, 1, 12, 13] ((14, .bool (decide (v2 < (qZaq t0)))) :: (qZan t0 t1 v2)) ?_)
 refine OpsW.nil (AW.seq (AW.cond (b := decide (v2 < (qZaq t0))) rfl (fun c4 => ?_) (fun c4 => ?_)))
 ·replace H := condT c4 H
  refine AW.skip (AW.seq (AW.block (AW.regionSeq (OpsW.sg 2 [5, 0, 1, 12, 13] ((5, .int .i64 v2) :: (qZan t0 t1 v2)) ?_))))
  refine OpsW.nil (AW.drawSeq Tryd.checked.mixed (by kernel_rfl) ?_)
  obtain ⟨g5, H⟩ := G_some H
  refine QOps.seg (N := 26) 3 [0 ≤ v2 ∧ v2 < (qZaq t0)] ((18, .ipt (t0.flatMap (eI .u8)) (v2.toNat * 1)) :: (17, .int .i64 v2) :: (16, slA (eI .u8) t0) :: (5, .int .i64 v2) :: (qZan t0 t1 v2)) (by kernel_rfl) ⟨g5, trivial⟩ ?_
  refine QOps.asU (.int .u8 (t0.getD v2.toNat 0)) rfl (T.load rfl trivial (by kernel_rfl) (fm_cell0 (eI .u8) 1 (fun _ => rfl) t0 (0 : Int) v2.toNat (ltN g5) (fun a => .val (.int .u8 a)) (fun _ => rfl))) ?_
  obtain ⟨g6, H⟩ := G_some H
  refine QOps.seg (N := 26) 3 [0 ≤ v2 ∧ v2 < (t1.length : Int)] (qZao t0 t1 v2) (by kernel_rfl) ⟨g6, trivial⟩ ?_
  refine QOps.asU (.int .u8 (t1.getD v2.toNat 0)) rfl (T.load rfl trivial (by kernel_rfl) (fm_cell0 (eI .u8) 1 (fun _ => rfl) t1 (0 : Int) v2.toNat (ltN g6) (fun a => .val (.int .u8 a)) (fun _ => rfl))) ?_
  refine QOps.seg (N := 26) 1 [] ((24, .bool ((t0.getD v2.toNat 0) != (t1.getD v2.toNat 0))) :: (23, .int .u8 (t1.getD v2.toNat 0)) :: (qZao t0 t1 v2)) (by kernel_rfl) trivial ?_
  refine QOps.nil (AW.trim [24, 0, 1, 12, 13] ((24, .bool ((t0.getD v2.toNat 0) != (t1.getD v2.toNat 0))) :: (qZan t0 t1 v2)) (by kernel_rfl) ?_)
  refine AW.cond (b := (t0.getD v2.toNat 0) != (t1.getD v2.toNat 0)) rfl (fun c7 => ?_) (fun c7 => ?_)
  ·replace H := condT c7 H
   refine AW.regionSeq (OpsW.sg 1 [4] [(4, .bool false)] ?_)
   refine OpsW.nil ?_
   obtain rfl := Option.some.inj H
   refine AW.recast (env' := [(4, .bool false)]) (h' := []) (StC.pure (.cons .im .nil)) ?_
   refine AW.ret ?_
   try simp only [Ex.then, Ex.inBlock, Ex.noGoto, Ex.jump, reduceIte, Nat.reduceEqDiff, reduceCtorEq]
   refine Done.gen rfl (.tmp .nil) ?_
   show _ = _
   kernel_rfl
  replace H := condF c7 H
  refine AW.skip (AW.region ?_)
  obtain ⟨g8, H⟩ := G_some H
  refine OpsW.sq 2 [13, 0, 1, 12] [inR (v2 + 1)] [(13, .int .i64 (v2 + 1)), (0, slA (eI .u8) t0), (1, slA (eI .u8) t1), (12, .int .i64 (qZaq t0))] ⟨g8, trivial⟩ ?_
  refine OpsW.nil ?_
  show ∃ y, _ ∧ StC _ _ _ _
  exact ⟨v2 + 1, H, (StC.pure (.i4 .nil))⟩
 replace H := condF c4 H
 refine AW.exit ?_
 refine AW.regionSeq (OpsW.sg 1 [4] [(4, .bool true)] ?_)
 refine OpsW.nil ?_
 obtain rfl := Option.some.inj H
 refine AW.recast (env' := [(4, .bool true)]) (h' := []) (StC.pure (.cons .im .nil)) ?_
 refine AW.ret ?_
 try simp only [Ex.then, Ex.inBlock, Ex.noGoto, Ex.jump, reduceIte, Nat.reduceEqDiff, reduceCtorEq]
 refine Done.gen rfl (.tmp .nil) ?_
 show _ = _
 kernel_rfl
def f_number_ReadHeader_k1 (t0 : List Int) (v16 : S_Header) (v17 : S_Header) : Option (S_Header × Int) :=
 (f_number_Header v17).bind fun x18 =>
 (cond (!(x18.2 != 0)) (f_slices_Equal_api_Cell x18.1 t0) (some false)).bind fun x19 =>
 cond (cond (x18.2 != 0) true (!x19)) (
  some ((⟨(0 : Int), (⟨(0 : Int), (0 : Int)⟩ : S_Label), false, (0 : Int), (0 : Int)⟩ : S_Header), (190 : Int))) (
  some (v17, (0 : Int)))
def f_number_ReadHeader_k2 (t0 : List Int) (v4 : Int) (v9 : S_Header) (v10 : S_Header) : Option (S_Header × Int) :=
 G (inR (v4 + 1)) <|
 G (0 ≤ (v4 + 1) ∧ (v4 + 1) ≤ (t0.length : Int)) <|
 (f_number_Read (t0.drop ((v4 + 1).toNat))).bind fun x13 =>
 G (inR (x13.1 + 1)) <|
 G (inR (Int.tdiv (x13.1 + 1) (2 : Int))) <|
 G (0 ≤ x13.2.1 ∧ x13.2.1 ≤ ((t0.drop ((v4 + 1).toNat)).length : Int)) <|
 cond ((((t0.drop ((v4 + 1).toNat)).drop x13.2.1.toNat).length : Int) == (2 : Int)) (
  G (0 ≤ (1 : Int) ∧ 1 < (((t0.drop ((v4 + 1).toNat)).drop x13.2.1.toNat).length : Int)) <|
  (f_number_letter (((t0.drop ((v4 + 1).toNat)).drop x13.2.1.toNat).getD (1 : Int).toNat (0 : Int))).bind fun x24 =>
  f_number_ReadHeader_k1 t0 v9 (⟨v10.Width, (⟨Int.tdiv (x13.1 + 1) (2 : Int), x24⟩ : S_Label), (Int.tmod x13.1 (2 : Int)) == 0, v10.Ink, v10.Part⟩ : S_Header)) (
  f_number_ReadHeader_k1 t0 v9 (⟨v10.Width, (⟨Int.tdiv (x13.1 + 1) (2 : Int), v10.Label.K⟩ : S_Label), (Int.tmod x13.1 (2 : Int)) == 0, v10.Ink, v10.Part⟩ : S_Header))
def f_number_ReadHeader_k3 (t0 : List Int) (v4 : Int) (v27 : S_Header) (v28 : S_Header) (v29 : List Int) : Option (S_Header × Int) :=
 (f_number_Read v29).bind fun x30 =>
 f_number_ReadHeader_k2 t0 v4 v27 (⟨v28.Width, v28.Label, v28.Back, x30.1, v28.Part⟩ : S_Header)
def f_number_ReadHeader_b1 (t0 : List Int) (x1 : Int) (loop5 : (Int) → Option (S_Header × Int)) (v4 : Int) : Option (S_Header × Int) :=
 G (0 ≤ v4 ∧ v4 < (t0.length : Int)) <|
 cond ((t0.getD v4.toNat 0) != 0) (
  G (inR (v4 - 1)) <|
  loop5 (v4 - 1)) (
  G (0 ≤ x1 ∧ x1 ≤ (t0.length : Int)) <|
  cond (decide (0 < ((t0.take x1.toNat).length : Int))) (
   G ((decide (2 < ((t0.take x1.toNat).length : Int))) = true → (0 ≤ (0 : Int) ∧ 0 < ((t0.take x1.toNat).length : Int))) <|
   cond (cond (decide (2 < ((t0.take x1.toNat).length : Int))) (((t0.take x1.toNat).getD (0 : Int).toNat (0 : Int)) == 48) false) (
    G (0 ≤ (1 : Int) ∧ 1 < ((t0.take x1.toNat).length : Int)) <|
    (f_number_letter ((t0.take x1.toNat).getD (1 : Int).toNat (0 : Int))).bind fun x34 =>
    G (0 ≤ (2 : Int) ∧ 2 ≤ ((t0.take x1.toNat).length : Int)) <|
    f_number_ReadHeader_k3 t0 v4 (⟨(0 : Int), (⟨(0 : Int), (0 : Int)⟩ : S_Label), false, (0 : Int), (0 : Int)⟩ : S_Header) (⟨(t0.length : Int), (⟨(0 : Int), (0 : Int)⟩ : S_Label), false, (0 : Int), x34⟩ : S_Header) ((t0.take x1.toNat).drop ((2 : Int).toNat))) (
    f_number_ReadHeader_k3 t0 v4 (⟨(0 : Int), (⟨(0 : Int), (0 : Int)⟩ : S_Label), false, (0 : Int), (0 : Int)⟩ : S_Header) (⟨(t0.length : Int), (⟨(0 : Int), (0 : Int)⟩ : S_Label), false, (0 : Int), (0 : Int)⟩ : S_Header) (t0.take x1.toNat))) (
   f_number_ReadHeader_k2 t0 v4 (⟨(0 : Int), (⟨(0 : Int), (0 : Int)⟩ : S_Label), false, (0 : Int), (0 : Int)⟩ : S_Header) (⟨(t0.length : Int), (⟨(0 : Int), (0 : Int)⟩ : S_Label), false, (0 : Int), (0 : Int)⟩ : S_Header)))
def f_number_ReadHeader (t0 : List Int) : Option (S_Header × Int) :=
 (f_slices_Index_api_Cell t0 (0 : Int)).bind fun x1 =>
 cond (decide (x1 < 0)) (
  some ((⟨(0 : Int), (⟨(0 : Int), (0 : Int)⟩ : S_Label), false, (0 : Int), (0 : Int)⟩ : S_Header), (190 : Int))) (
  G (inR ((t0.length : Int) - 1)) <|
  iter (fun loop (s : Int) => f_number_ReadHeader_b1 t0 x1 loop s) 1000000 ((t0.length : Int) - 1))
section
variable (t0 : List Int) (v4 : Int) (v9 : S_Header) (v10 : S_Header) (v16 : S_Header) (v17 : S_Header) (v27 : S_Header) (v28 : S_Header) (x1 : Int) (x13 : (Int × Int × Int)) (x24 : Int) (x30 : (Int × Int × Int)) (x34 : Int)
abbrev qZb6 : List AV := [.int .i64 v17.Width, .int .i64 v17.Label.N, .int .i64 v17.Label.K, .bool v17.Back, .int .i64 v17.Ink, .int .i64 v17.Part]
abbrev qZb7 := (decide (2 < ((t0.take x1.toNat).length : Int)))
abbrev qZb8 := (t0.drop ((v4 + 1).toNat)).drop x13.2.1.toNat
abbrev qZb9 : List AV := [.int .i64 v9.Width, .int .i64 v9.Label.N, .int .i64 v9.Label.K, .bool v9.Back, .int .i64 v9.Ink, .int .i64 v9.Part]
abbrev qZba : Nat × AV := (2, .ref 2 0 0)
abbrev qZbb := (⟨(0 : Int), (⟨(0 : Int), (0 : Int)⟩ : S_Label), false, (0 : Int), (0 : Int)⟩ : S_Header)
abbrev qZbc : List AV := [.int .i64 (t0.length : Int), .int .i64 0, .int .i64 0, .bool false, .int .i64 0, .int .i64 0]
abbrev qZbd : List AV := [.int .i64 v10.Width, .int .i64 (Int.tdiv (x13.1 + 1) (2 : Int)), .int .i64 v10.Label.K, .bool ((Int.tmod x13.1 (2 : Int)) == 0), .int .i64 v10.Ink, .int .i64 v10.Part]
abbrev qZbe : List AV := [.int .i64 v10.Width, .int .i64 (Int.tdiv (x13.1 + 1) (2 : Int)), .int .i64 x24, .bool ((Int.tmod x13.1 (2 : Int)) == 0), .int .i64 v10.Ink, .int .i64 v10.Part]
abbrev qZbf := t0.take x1.toNat
abbrev qZbg : Nat × AV := (0, slA (eI .u8) t0)
abbrev qZbh : List AV := [.int .i64 v27.Width, .int .i64 v27.Label.N, .int .i64 v27.Label.K, .bool v27.Back, .int .i64 v27.Ink, .int .i64 v27.Part]
abbrev qZbi : List AV := [.int .i64 v28.Width, .int .i64 v28.Label.N, .int .i64 v28.Label.K, .bool v28.Back, .int .i64 x30.1, .int .i64 v28.Part]
abbrev qZbj := (⟨(t0.length : Int), (⟨(0 : Int), (0 : Int)⟩ : S_Label), false, (0 : Int), (0 : Int)⟩ : S_Header)
abbrev qZbk : Nat × AV := (6, .ref 6 0 0)
abbrev qZbl : List AV := [.int .i64 (t0.length : Int), .int .i64 0, .int .i64 0, .bool false, .int .i64 0, .int .i64 x34]
abbrev qZbm := ((qZbf t0 x1).getD (0 : Int).toNat (0 : Int))
abbrev qZbn := ((qZbf t0 x1).length : Int)
abbrev qZbo := t0.drop ((v4 + 1).toNat)
abbrev qZar : Env := [(qZbg t0), qZba, qZbk]
abbrev qZas : Hp := [(2, ⟨0, true, 86, 6, [.int .i64 0, .int .i64 0, .int .i64 0, .bool false, .int .i64 0, .int .i64 0]⟩)]
abbrev qZat : Env := [(7, slA (eI .u8) (qZbf t0 x1)), qZbk, (qZbg t0), qZba, (5, .int .i64 v4)]
abbrev qZau : Hp := [(2, ⟨0, true, 86, 6, [.int .i64 v16.Width, .int .i64 v16.Label.N, .int .i64 v16.Label.K, .bool v16.Back, .int .i64 v16.Ink, .int .i64 v16.Part]⟩), (6, ⟨0, true, 86, 6, (qZb6 v17)⟩)]
abbrev qZav : Hp := [(2, ⟨0, true, 86, 6, (qZb9 v9)⟩), (6, ⟨0, true, 86, 6, [.int .i64 v10.Width, .int .i64 v10.Label.N, .int .i64 v10.Label.K, .bool v10.Back, .int .i64 v10.Ink, .int .i64 v10.Part]⟩)]
abbrev qZaw : Hp := [(2, ⟨0, true, 86, 6, (qZb9 v9)⟩), (6, ⟨0, true, 86, 6, (qZbd v10 x13)⟩)]
abbrev qZax : Env := [(qZbg t0), qZba, (5, .int .i64 v4), qZbk]
abbrev qZay : Env := [(qZbg t0), qZba, (4, .int .i64 x1), (5, .int .i64 v4)]
abbrev qZaz : Hp := [(2, ⟨0, true, 86, 6, (qZbh v27)⟩), (6, ⟨0, true, 86, 6, [.int .i64 v28.Width, .int .i64 v28.Label.N, .int .i64 v28.Label.K, .bool v28.Back, .int .i64 v28.Ink, .int .i64 v28.Part]⟩)]
abbrev qZb0 : Env := (8, slA (eI .u8) (qZbo t0 v4)) :: (qZar t0)
abbrev qZb1 : Hp := [(2, ⟨0, true, 86, 6, [.int .i64 0, .int .i64 0, .int .i64 0, .bool false, .int .i64 0, .int .i64 0]⟩), (6, ⟨0, true, 86, 6, (qZbc t0)⟩)]
abbrev qZb2 : Hp := (6, ⟨0, true, 86, 6, [.int .i64 v10.Width, .int .i64 (Int.tdiv (x13.1 + 1) (2 : Int)), .int .i64 v10.Label.K, .bool v10.Back, .int .i64 v10.Ink, .int .i64 v10.Part]⟩) :: (qZav v9 v10)
abbrev qZb3 : Hp := [(2, ⟨0, true, 86, 6, (qZb6 v17)⟩)]
abbrev qZb4 : Env := [qZba, (qZbg t0)]
abbrev qZb5 : Env := [(3, .int .i64 190), qZba]
end
theorem f_number_ReadHeader_ok  {t0 : List Int} {r : S_Header × Int} (H : f_number_ReadHeader t0 = some r) : QSpec Tryd.prog 62 [slA (eI .u8) t0] (.tup [.agg [.int .i64 r.1.Width, .int .i64 r.1.Label.N, .int .i64 r.1.Label.K, .bool r.1.Back, .int .i64 r.1.Ink, .int .i64 r.1.Part], .int .i64 r.2]) := by
 refine Spec.of_AW Tryd.func62 rfl (by simp [Tryd.ntmps62]) ?_
 rw [Tryd.ntmps62]
 unfold f_number_ReadHeader at H
 change AW _ _ _ [(qZbg t0)] [] _
 refine AW.regionSeq (OpsW.alloc' rfl rfl rfl 2 rfl (by kernel_rfl : zc Tryd.prog 86 = some [.int .i64 0, .int .i64 0, .int .i64 0, .bool false, .int .i64 0, .int .i64 0]) (by kernel_rfl) ?_)
 refine OpsW.sg 1 [2, 0] (qZb4 t0) ?_
 refine OpsW.recast (env' := (qZb4 t0)) (h' := qZas) (StC.mk (phi [(2, some 2)]) (.o rfl (.i6 .nil) .nil) rfl (.cons (.r rfl) (.cons .im .nil))) ?_
 refine OpsW.nil (AW.regionSeq (OpsW.sg 1 [14, 2, 0] ((14, slA (eI .u8) t0) :: (qZb4 t0)) ?_))
 obtain ⟨x1, hx1, H⟩ := bindS H
 refine OpsW.qcall rfl (by kernel_rfl) rfl rfl (glAll_sound trivial) (.cons (.pur rfl) (.cons (.pur rfl) .nil)) (f_slices_Index_api_Cell_ok hx1) rfl ?_
 refine OpsW.sg 1 [4, 2, 0] ((4, .int .i64 x1) :: (qZb4 t0)) ?_
 refine OpsW.nil (AW.seq (AW.regionSeq (OpsW.sg 2 [17, 4, 2, 0] ((17, .bool (decide (x1 < 0))) :: (4, .int .i64 x1) :: (qZb4 t0)) ?_)))
 refine OpsW.nil (AW.cond (b := decide (x1 < 0)) rfl (fun c2 => ?_) (fun c2 => ?_))
 ·replace H := condT c2 H
  refine AW.regionSeq (OpsW.sg 1 [18, 2] [(18, .agg [.int .i64 0, .int .i64 0, .int .i64 0, .bool false, .int .i64 0, .int .i64 0]), qZba] ?_)
  refine OpsW.store rfl rfl rfl rfl trivial trivial rfl rfl rfl (by kernel_rfl) (okCb_sound (by kernel_rfl)) (Nat.le_of_ble_eq_true (by kernel_rfl)) ?_
  change OpsW _ _ _ _ _ ((2, ⟨0, true, 86, 6, [.int .i64 0, .int .i64 0, .int .i64 0, .bool false, .int .i64 0, .int .i64 0]⟩) :: qZas) _
  refine OpsW.sg 1 [3, 2] qZb5 ?_
  refine OpsW.recast (env' := qZb5) (h' := qZas) (StC.mk (phi [(2, some 2)]) (.o rfl (.i6 .nil) .nil) rfl (.cons .im (.cons (.r rfl) .nil))) ?_
  refine OpsW.nil ?_
  obtain rfl := Option.some.inj H
  refine AW.recast (env' := [qZba, (3, .int .i64 190)]) (h' := qZas) (StC.mk (phi [(2, some 2)]) (.o rfl (.i6 .nil) .nil) rfl (.cons (.r rfl) (.cons .im .nil))) ?_
  refine AW.ret ?_
  try simp only [Ex.then, Ex.inBlock, Ex.noGoto, Ex.jump, reduceIte, Nat.reduceEqDiff, reduceCtorEq]
  refine Done.gen rfl (.cell rfl (by kernel_rfl) (.tmp .nil)) ?_
  show _ = _
  kernel_rfl
 replace H := condF c2 H
 refine AW.skip (AW.regionSeq ?_)
 obtain ⟨g3, H⟩ := G_some H
 refine OpsW.sq 4 [5, 4, 2, 0] [inR ((t0.length : Int) - 1)] ((5, .int .i64 ((t0.length : Int) - 1)) :: (4, .int .i64 x1) :: (qZb4 t0)) ⟨g3, trivial⟩ ?_
 refine OpsW.nil (AW.seq (AW.block ?_))
 refine AW.iterK (fun loop (s : Int) => f_number_ReadHeader_b1 t0 x1 loop s) r (fun (s : Int) => [(qZbg t0), qZba, (4, .int .i64 x1), (5, .int .i64 s)]) (fun (s : Int) => qZas) ?_ 1000000 ((t0.length : Int) - 1) H (StC.mk (phi [(2, some 2)]) (.o rfl (.i6 .nil) .nil) rfl (.cons .im (.cons (.r rfl) (.i2 .nil))))
 intro loop5 v4 H
 change f_number_ReadHeader_b1 t0 x1 loop5 v4 = some r at H
 unfold f_number_ReadHeader_b1 at H
 change AW _ _ _ (qZay t0 v4 x1) qZas _
 refine AW.seq (AW.regionSeq ?_)
 obtain ⟨g6, H⟩ := G_some H
 refine OpsW.sq 3 [24, 0, 2, 4, 5] [0 ≤ v4 ∧ v4 < (t0.length : Int)] ((24, .ipt (t0.flatMap (eI .u8)) (v4.toNat * 1)) :: (qZay t0 v4 x1)) ⟨g6, trivial⟩ ?_
 refine OpsW.asU (.int .u8 (t0.getD v4.toNat 0)) rfl rfl (T.load rfl trivial (by kernel_rfl) (fm_cell0 (eI .u8) 1 (fun _ => rfl) t0 (0 : Int) v4.toNat (ltN g6) (fun a => .val (.int .u8 a)) (fun _ => rfl))) ?_
 refine OpsW.sg 1 [26, 0, 2, 4, 5] ((26, .bool ((t0.getD v4.toNat 0) != 0)) :: (qZay t0 v4 x1)) ?_
 refine OpsW.nil (AW.cond (b := (t0.getD v4.toNat 0) != 0) rfl (fun c7 => ?_) (fun c7 => ?_))
 ·replace H := condT c7 H
  refine AW.skip (AW.block (AW.region ?_))
  obtain ⟨g8, H⟩ := G_some H
  refine OpsW.sq 3 [5, 0, 2, 4] [inR (v4 - 1)] [(5, .int .i64 (v4 - 1)), (qZbg t0), qZba, (4, .int .i64 x1)] ⟨g8, trivial⟩ ?_
  refine OpsW.nil ?_
  show ∃ y, _ ∧ StC _ _ _ _
  exact ⟨v4 - 1, H, (StC.mk (phi [(2, some 2)]) (.o rfl (.i6 .nil) .nil) rfl (.cons .im (.cons (.r rfl) (.i2 .nil))))⟩
 replace H := condF c7 H
 refine AW.exit ?_
 refine AW.regionSeq (OpsW.sg 3 [31, 0, 2, 4, 5] ((31, .agg (qZbc t0)) :: (qZay t0 v4 x1)) ?_)
 refine OpsW.alloc' rfl rfl rfl 6 rfl (by kernel_rfl : zc Tryd.prog 86 = some [.int .i64 0, .int .i64 0, .int .i64 0, .bool false, .int .i64 0, .int .i64 0]) (by kernel_rfl) ?_
 refine OpsW.store rfl rfl rfl rfl trivial trivial rfl rfl rfl (by kernel_rfl) (okCb_sound (by kernel_rfl)) (Nat.le_of_ble_eq_true (by kernel_rfl)) ?_
 change OpsW _ _ _ _ _ ((6, ⟨0, true, 86, 6, (qZbc t0)⟩) :: (6, ⟨0, true, 86, 6, [.int .i64 0, .int .i64 0, .int .i64 0, .bool false, .int .i64 0, .int .i64 0]⟩) :: qZas) _
 refine OpsW.sg 0 [6, 0, 2, 4, 5] (qZbk :: (qZay t0 v4 x1)) ?_
 refine OpsW.recast (env' := (qZbk :: (qZay t0 v4 x1))) (h' := (qZb1 t0)) (StC.mk (phi [(2, some 2), (6, some 6)]) (.o rfl (.i6 .nil) (.o rfl (.i6 .nil) .nil)) rfl (.cons (.r rfl) (.cons .im (.cons (.r rfl) (.i2 .nil))))) ?_
 refine OpsW.nil ?_
 refine AW.joinK (fun (y : S_Header × S_Header) => f_number_ReadHeader_k2 t0 v4 y.1 y.2) r (fun (y : S_Header × S_Header) => (qZax t0 v4)) (fun (y : S_Header × S_Header) => [(2, ⟨0, true, 86, 6, [.int .i64 y.1.Width, .int .i64 y.1.Label.N, .int .i64 y.1.Label.K, .bool y.1.Back, .int .i64 y.1.Ink, .int .i64 y.1.Part]⟩), (6, ⟨0, true, 86, 6, [.int .i64 y.2.Width, .int .i64 y.2.Label.N, .int .i64 y.2.Label.K, .bool y.2.Back, .int .i64 y.2.Ink, .int .i64 y.2.Part]⟩)]) ?_ ?_
 ·refine AW.regionSeq (OpsW.sg 2 [33, 32, 6, 0, 2, 5] [(33, .int .i64 x1), (32, slA (eI .u8) t0), qZbk, (qZbg t0), qZba, (5, .int .i64 v4)] ?_)
  obtain ⟨g25, H⟩ := G_some H
  refine OpsW.asU (slA (eI .u8) (qZbf t0 x1)) rfl rfl (T.slice' rfl trivial trivial trivial (by kernel_rfl) (by kernel_rfl) g25 trivial (sl_hi (eI .u8) 1 (fun _ => rfl) t0 x1 g25)) ?_
  refine OpsW.sg 1 [7, 6, 0, 2, 5] (qZat t0 v4 x1) ?_
  refine OpsW.nil (AW.regionSeq (OpsW.sg 3 [37, 7, 6, 0, 2, 5] ((37, .bool (decide (0 < (qZbn t0 x1)))) :: (qZat t0 v4 x1)) ?_))
  refine OpsW.nil (AW.cond (b := decide (0 < (qZbn t0 x1))) rfl (fun c26 => ?_) (fun c26 => ?_))
  ·replace H := condT c26 H
   refine AW.joinK (fun (y : S_Header × S_Header × (List Int)) => f_number_ReadHeader_k3 t0 v4 y.1 y.2.1 y.2.2) r (fun (y : S_Header × S_Header × (List Int)) => [(qZbg t0), qZba, (5, .int .i64 v4), qZbk, (7, slA (eI .u8) y.2.2)]) (fun (y : S_Header × S_Header × (List Int)) => [(2, ⟨0, true, 86, 6, [.int .i64 y.1.Width, .int .i64 y.1.Label.N, .int .i64 y.1.Label.K, .bool y.1.Back, .int .i64 y.1.Ink, .int .i64 y.1.Part]⟩), (6, ⟨0, true, 86, 6, [.int .i64 y.2.1.Width, .int .i64 y.2.1.Label.N, .int .i64 y.2.1.Label.K, .bool y.2.1.Back, .int .i64 y.2.1.Ink, .int .i64 y.2.1.Part]⟩)]) ?_ ?_
   ·refine AW.regionSeq ?_
    obtain ⟨g31, H⟩ := G_some H
    refine OpsW.sq 6 [43, 41, 7, 6, 0, 2, 5] [(qZb7 t0 x1) = true → (qZb7 t0 x1) = true, (qZb7 t0 x1) = true → (0 ≤ (0 : Int) ∧ 0 < (qZbn t0 x1))] ((43, .cnd (qZb7 t0 x1) (.ipt ((qZbf t0 x1).flatMap (eI .u8)) ((0 : Int).toNat * 1))) :: (41, .bool (qZb7 t0 x1)) :: (qZat t0 v4 x1)) ⟨(fun h => h), g31, trivial⟩ ?_
    refine OpsW.asG (c := decide (2 < (qZbn t0 x1))) (.int .u8 (qZbm t0 x1)) rfl rfl rfl rfl (fun hc => T.load rfl hc (by kernel_rfl) (fm_cell0 (eI .u8) 1 (fun _ => rfl) (qZbf t0 x1) (0 : Int) (0 : Int).toNat (ltN (g31 hc)) (fun a => .val (.int .u8 a)) (fun _ => rfl))) ?_
    refine OpsW.sq 2 [46, 7, 6, 0, 2, 5] [(qZb7 t0 x1) = true → (qZb7 t0 x1) = true, (qZb7 t0 x1) = true → (qZb7 t0 x1) = true] ((46, .bool (cond (qZb7 t0 x1) ((qZbm t0 x1) == 48) false)) :: (qZat t0 v4 x1)) ⟨(fun h => h), (fun h => by first | exact h | (simpa using h) | grind), trivial⟩ ?_
    refine OpsW.nil (AW.cond (b := cond (qZb7 t0 x1) ((qZbm t0 x1) == 48) false) rfl (fun c32 => ?_) (fun c32 => ?_))
    ·replace H := condT c32 H
     refine AW.regionSeq ?_
     obtain ⟨g33, H⟩ := G_some H
     refine OpsW.sq 2 [48, 7, 6, 0, 2, 5] [0 ≤ (1 : Int) ∧ 1 < (qZbn t0 x1)] ((48, .ipt ((qZbf t0 x1).flatMap (eI .u8)) ((1 : Int).toNat * 1)) :: (qZat t0 v4 x1)) ⟨g33, trivial⟩ ?_
     refine OpsW.asU (.int .u8 ((qZbf t0 x1).getD (1 : Int).toNat (0 : Int))) rfl rfl (T.load rfl trivial (by kernel_rfl) (fm_cell0 (eI .u8) 1 (fun _ => rfl) (qZbf t0 x1) (0 : Int) (1 : Int).toNat (ltN g33) (fun a => .val (.int .u8 a)) (fun _ => rfl))) ?_
     obtain ⟨x34, hx34, H⟩ := bindS H
     refine OpsW.qcall rfl (by kernel_rfl) rfl rfl (glAll_sound trivial) (.cons (.pur rfl) .nil) (f_number_letter_ok hx34) rfl ?_
     refine OpsW.sg 1 [51, 50, 7, 6, 0, 2, 5] ((51, .ref 6 0 5) :: (50, .int .i64 x34) :: (qZat t0 v4 x1)) ?_
     refine OpsW.store rfl rfl rfl rfl trivial trivial rfl rfl rfl (by kernel_rfl) (okCb_sound (by kernel_rfl)) (Nat.le_of_ble_eq_true (by kernel_rfl)) ?_
     change OpsW _ _ _ _ _ ((6, ⟨0, true, 86, 6, (qZbl t0 x34)⟩) :: (qZb1 t0)) _
     refine OpsW.sg 0 [7, 6, 0, 2, 5] (qZat t0 v4 x1) ?_
     refine OpsW.recast (env' := (qZat t0 v4 x1)) (h' := [(2, ⟨0, true, 86, 6, [.int .i64 0, .int .i64 0, .int .i64 0, .bool false, .int .i64 0, .int .i64 0]⟩), (6, ⟨0, true, 86, 6, (qZbl t0 x34)⟩)]) (StC.mk (phi [(2, some 2), (6, some 6)]) (.o rfl (.i6 .nil) (.o rfl (.i6 .nil) .nil)) rfl (.cons .im (.cons (.r rfl) (.cons .im (.cons (.r rfl) (.cons .im .nil)))))) ?_
     refine OpsW.nil (AW.region (OpsW.sg 1 [52, 7, 6, 0, 2, 5] ((52, slA (eI .u8) (qZbf t0 x1)) :: (qZat t0 v4 x1)) ?_))
     obtain ⟨g35, H⟩ := G_some H
     refine OpsW.asU (slA (eI .u8) ((qZbf t0 x1).drop ((2 : Int).toNat))) rfl rfl (T.slice' rfl trivial trivial trivial (by kernel_rfl) (by kernel_rfl) trivial g35 (sl_lo (eI .u8) 1 (fun _ => rfl) (qZbf t0 x1) (2 : Int) g35)) ?_
     refine OpsW.sg 1 [7, 6, 0, 2, 5] [(7, slA (eI .u8) ((qZbf t0 x1).drop ((2 : Int).toNat))), qZbk, (qZbg t0), qZba, (5, .int .i64 v4)] ?_
     refine OpsW.nil ?_
     show ∃ y, _ ∧ StC _ _ _ _
     exact ⟨(qZbb, (⟨(t0.length : Int), (⟨(0 : Int), (0 : Int)⟩ : S_Label), false, (0 : Int), x34⟩ : S_Header), (qZbf t0 x1).drop ((2 : Int).toNat)), H, (StC.mk (phi [(2, some 2), (6, some 6)]) (.o rfl (.i6 .nil) (.o rfl (.i6 .nil) .nil)) rfl (.cons .im (.cons (.r rfl) (.cons .im (.cons (.r rfl) (.cons .im .nil))))))⟩
    replace H := condF c32 H
    refine AW.skip ?_
    show ∃ y, _ ∧ StC _ _ _ _
    exact ⟨(qZbb, (qZbj t0), t0.take x1.toNat), H, (StC.mk (phi [(2, some 2), (6, some 6)]) (.o rfl (.i6 .nil) (.o rfl (.i6 .nil) .nil)) rfl (.cons .im (.cons (.r rfl) (.cons .im (.cons (.r rfl) (.cons .im .nil))))))⟩
   rintro ⟨v27, v28, v29⟩ H
   change f_number_ReadHeader_k3 t0 v4 v27 v28 v29 = some r at H
   unfold f_number_ReadHeader_k3 at H
   change AW _ _ _ [(qZbg t0), qZba, (5, .int .i64 v4), qZbk, (7, slA (eI .u8) v29)] (qZaz v27 v28) _
   refine AW.region (OpsW.sg 1 [55, 0, 2, 5, 6] ((55, slA (eI .u8) v29) :: (qZax t0 v4)) ?_)
   obtain ⟨x30, hx30, H⟩ := bindS H
   refine OpsW.qcall rfl (by kernel_rfl) rfl rfl (glAll_sound trivial) (.cons (.pur rfl) .nil) (f_number_Read_ok hx30) rfl ?_
   refine OpsW.sg 5 [60, 57, 0, 2, 5, 6] ((60, .ref 6 0 4) :: (57, .int .i64 x30.1) :: (qZax t0 v4)) ?_
   refine OpsW.store rfl rfl rfl rfl trivial trivial rfl rfl rfl (by kernel_rfl) (okCb_sound (by kernel_rfl)) (Nat.le_of_ble_eq_true (by kernel_rfl)) ?_
   change OpsW _ _ _ _ _ ((6, ⟨0, true, 86, 6, (qZbi v28 x30)⟩) :: (qZaz v27 v28)) _
   refine OpsW.sg 0 [0, 2, 5, 6] (qZax t0 v4) ?_
   refine OpsW.recast (env' := (qZax t0 v4)) (h' := [(2, ⟨0, true, 86, 6, (qZbh v27)⟩), (6, ⟨0, true, 86, 6, (qZbi v28 x30)⟩)]) (StC.mk (phi [(2, some 2), (6, some 6)]) (.o rfl (.i6 .nil) (.o rfl (.i6 .nil) .nil)) rfl (.cons .im (.cons (.r rfl) (.cons .im (.cons (.r rfl) .nil))))) ?_
   refine OpsW.nil ?_
   show ∃ y, _ ∧ StC _ _ _ _
   exact ⟨(v27, (⟨v28.Width, v28.Label, v28.Back, x30.1, v28.Part⟩ : S_Header)), H, (StC.mk (phi [(2, some 2), (6, some 6)]) (.o rfl (.i6 .nil) (.o rfl (.i6 .nil) .nil)) rfl (.cons .im (.cons (.r rfl) (.cons .im (.cons (.r rfl) .nil)))))⟩
  replace H := condF c26 H
  refine AW.skip ?_
  show ∃ y, _ ∧ StC _ _ _ _
  exact ⟨(qZbb, (qZbj t0)), H, (StC.mk (phi [(2, some 2), (6, some 6)]) (.o rfl (.i6 .nil) (.o rfl (.i6 .nil) .nil)) rfl (.cons .im (.cons (.r rfl) (.cons .im (.cons (.r rfl) .nil)))))⟩
 rintro ⟨v9, v10⟩ H
 change f_number_ReadHeader_k2 t0 v4 v9 v10 = some r at H
 unfold f_number_ReadHeader_k2 at H
 change AW _ _ _ (qZax t0 v4) (qZav v9 v10) _
 refine AW.regionSeq ?_
 obtain ⟨g11, H⟩ := G_some H
 refine OpsW.sq 3 [63, 61, 0, 2, 6] [inR (v4 + 1)] ((63, .int .i64 (v4 + 1)) :: (61, slA (eI .u8) t0) :: (qZar t0)) ⟨g11, trivial⟩ ?_
 obtain ⟨g12, H⟩ := G_some H
 refine OpsW.asU (slA (eI .u8) (qZbo t0 v4)) rfl rfl (T.slice' rfl trivial trivial trivial (by kernel_rfl) (by kernel_rfl) trivial g12 (sl_lo (eI .u8) 1 (fun _ => rfl) t0 (v4 + 1) g12)) ?_
 refine OpsW.sg 1 [8, 0, 2, 6] (qZb0 t0 v4) ?_
 refine OpsW.nil (AW.regionSeq (OpsW.sg 1 [66, 8, 0, 2, 6] ((66, slA (eI .u8) (qZbo t0 v4)) :: (qZb0 t0 v4)) ?_))
 obtain ⟨x13, hx13, H⟩ := bindS H
 refine OpsW.qcall rfl (by kernel_rfl) rfl rfl (glAll_sound trivial) (.cons (.pur rfl) .nil) (f_number_Read_ok hx13) rfl ?_
 refine OpsW.sg 7 [10, 9, 8, 0, 2, 6] ((10, .int .i64 x13.2.1) :: (9, .int .i64 x13.1) :: (qZb0 t0 v4)) ?_
 refine OpsW.nil (AW.regionSeq ?_)
 obtain ⟨g14, H⟩ := G_some H
 obtain ⟨g15, H⟩ := G_some H
 refine OpsW.sq 8 [78, 76, 73, 10, 8, 0, 2, 6] [inR (x13.1 + 1), (2 : Int) ≠ 0, inR (Int.tdiv (x13.1 + 1) (2 : Int)), (2 : Int) ≠ 0] ((78, .ref 6 0 1) :: (76, .bool ((Int.tmod x13.1 (2 : Int)) == 0)) :: (73, .int .i64 (Int.tdiv (x13.1 + 1) (2 : Int))) :: (10, .int .i64 x13.2.1) :: (qZb0 t0 v4)) ⟨g14, (by decide), g15, (by decide), trivial⟩ ?_
 refine OpsW.store rfl rfl rfl rfl trivial trivial rfl rfl rfl (by kernel_rfl) (okCb_sound (by kernel_rfl)) (Nat.le_of_ble_eq_true (by kernel_rfl)) ?_
 change OpsW _ _ _ _ _ (qZb2 v9 v10 x13) _
 refine OpsW.sg 1 [79, 76, 10, 8, 0, 2, 6] ((79, .ref 6 0 3) :: (76, .bool ((Int.tmod x13.1 (2 : Int)) == 0)) :: (10, .int .i64 x13.2.1) :: (qZb0 t0 v4)) ?_
 refine OpsW.store rfl rfl rfl rfl trivial trivial rfl rfl rfl (by kernel_rfl) (okCb_sound (by kernel_rfl)) (Nat.le_of_ble_eq_true (by kernel_rfl)) ?_
 change OpsW _ _ _ _ _ ((6, ⟨0, true, 86, 6, (qZbd v10 x13)⟩) :: (qZb2 v9 v10 x13)) _
 refine OpsW.sg 0 [10, 8, 0, 2, 6] ((10, .int .i64 x13.2.1) :: (qZb0 t0 v4)) ?_
 refine OpsW.recast (env' := ((10, .int .i64 x13.2.1) :: (qZb0 t0 v4))) (h' := (qZaw v9 v10 x13)) (StC.mk (phi [(2, some 2), (6, some 6)]) (.o rfl (.i6 .nil) (.o rfl (.i6 .nil) .nil)) rfl (.i3 (.cons (.r rfl) (.cons (.r rfl) .nil)))) ?_
 refine OpsW.nil ?_
 refine AW.joinK (fun (y : S_Header × S_Header) => f_number_ReadHeader_k1 t0 y.1 y.2) r (fun (y : S_Header × S_Header) => (qZar t0)) (fun (y : S_Header × S_Header) => [(2, ⟨0, true, 86, 6, [.int .i64 y.1.Width, .int .i64 y.1.Label.N, .int .i64 y.1.Label.K, .bool y.1.Back, .int .i64 y.1.Ink, .int .i64 y.1.Part]⟩), (6, ⟨0, true, 86, 6, [.int .i64 y.2.Width, .int .i64 y.2.Label.N, .int .i64 y.2.Label.K, .bool y.2.Back, .int .i64 y.2.Ink, .int .i64 y.2.Part]⟩)]) ?_ ?_
 ·refine AW.regionSeq (OpsW.sg 2 [81, 80, 8, 0, 2, 6] ((81, .int .i64 x13.2.1) :: (80, slA (eI .u8) (qZbo t0 v4)) :: (qZb0 t0 v4)) ?_)
  obtain ⟨g21, H⟩ := G_some H
  refine OpsW.asU (slA (eI .u8) (qZb8 t0 v4 x13)) rfl rfl (T.slice' rfl trivial trivial trivial (by kernel_rfl) (by kernel_rfl) trivial g21 (sl_lo (eI .u8) 1 (fun _ => rfl) (qZbo t0 v4) x13.2.1 g21)) ?_
  refine OpsW.sg 1 [8, 0, 2, 6] ((8, slA (eI .u8) (qZb8 t0 v4 x13)) :: (qZar t0)) ?_
  refine OpsW.nil (AW.regionSeq (OpsW.sg 3 [85, 8, 0, 2, 6] ((85, .bool (((qZb8 t0 v4 x13).length : Int) == (2 : Int))) :: (8, slA (eI .u8) (qZb8 t0 v4 x13)) :: (qZar t0)) ?_))
  refine OpsW.nil (AW.cond (b := ((qZb8 t0 v4 x13).length : Int) == (2 : Int)) rfl (fun c22 => ?_) (fun c22 => ?_))
  ·replace H := condT c22 H
   refine AW.region ?_
   obtain ⟨g23, H⟩ := G_some H
   refine OpsW.sq 2 [87, 0, 2, 6] [0 ≤ (1 : Int) ∧ 1 < ((qZb8 t0 v4 x13).length : Int)] ((87, .ipt ((qZb8 t0 v4 x13).flatMap (eI .u8)) ((1 : Int).toNat * 1)) :: (qZar t0)) ⟨g23, trivial⟩ ?_
   refine OpsW.asU (.int .u8 ((qZb8 t0 v4 x13).getD (1 : Int).toNat (0 : Int))) rfl rfl (T.load rfl trivial (by kernel_rfl) (fm_cell0 (eI .u8) 1 (fun _ => rfl) (qZb8 t0 v4 x13) (0 : Int) (1 : Int).toNat (ltN g23) (fun a => .val (.int .u8 a)) (fun _ => rfl))) ?_
   obtain ⟨x24, hx24, H⟩ := bindS H
   refine OpsW.qcall rfl (by kernel_rfl) rfl rfl (glAll_sound trivial) (.cons (.pur rfl) .nil) (f_number_letter_ok hx24) rfl ?_
   refine OpsW.sg 2 [91, 89, 0, 2, 6] ((91, .ref 6 0 2) :: (89, .int .i64 x24) :: (qZar t0)) ?_
   refine OpsW.store rfl rfl rfl rfl trivial trivial rfl rfl rfl (by kernel_rfl) (okCb_sound (by kernel_rfl)) (Nat.le_of_ble_eq_true (by kernel_rfl)) ?_
   change OpsW _ _ _ _ _ ((6, ⟨0, true, 86, 6, (qZbe v10 x13 x24)⟩) :: (qZaw v9 v10 x13)) _
   refine OpsW.sg 0 [0, 2, 6] (qZar t0) ?_
   refine OpsW.recast (env' := (qZar t0)) (h' := [(2, ⟨0, true, 86, 6, (qZb9 v9)⟩), (6, ⟨0, true, 86, 6, (qZbe v10 x13 x24)⟩)]) (StC.mk (phi [(2, some 2), (6, some 6)]) (.o rfl (.i6 .nil) (.o rfl (.i6 .nil) .nil)) rfl (.cons .im (.cons (.r rfl) (.cons (.r rfl) .nil)))) ?_
   refine OpsW.nil ?_
   show ∃ y, _ ∧ StC _ _ _ _
   exact ⟨(v9, (⟨v10.Width, (⟨Int.tdiv (x13.1 + 1) (2 : Int), x24⟩ : S_Label), (Int.tmod x13.1 (2 : Int)) == 0, v10.Ink, v10.Part⟩ : S_Header)), H, (StC.mk (phi [(2, some 2), (6, some 6)]) (.o rfl (.i6 .nil) (.o rfl (.i6 .nil) .nil)) rfl (.cons .im (.cons (.r rfl) (.cons (.r rfl) .nil))))⟩
  replace H := condF c22 H
  refine AW.skip ?_
  show ∃ y, _ ∧ StC _ _ _ _
  exact ⟨(v9, (⟨v10.Width, (⟨Int.tdiv (x13.1 + 1) (2 : Int), v10.Label.K⟩ : S_Label), (Int.tmod x13.1 (2 : Int)) == 0, v10.Ink, v10.Part⟩ : S_Header)), H, (StC.mk (phi [(2, some 2), (6, some 6)]) (.o rfl (.i6 .nil) (.o rfl (.i6 .nil) .nil)) rfl (.cons .im (.cons (.r rfl) (.cons (.r rfl) .nil))))⟩
 rintro ⟨v16, v17⟩ H
 change f_number_ReadHeader_k1 t0 v16 v17 = some r at H
 unfold f_number_ReadHeader_k1 at H
 change AW _ _ _ (qZar t0) (qZau v16 v17) _
 refine AW.seq (AW.regionSeq (OpsW.sg 1 [93, 0, 2, 6] ((93, .agg (qZb6 v17)) :: (qZar t0)) ?_))
 obtain ⟨x18, hx18, H⟩ := bindS H
 refine OpsW.qcall rfl (by kernel_rfl) rfl rfl (glAll_sound trivial) (.cons (.pur rfl) .nil) (f_number_Header_ok hx18) rfl ?_
 refine OpsW.sg 5 [13, 12, 0, 2, 6] ((13, .int .i64 x18.2) :: (12, slA (eI .u8) x18.1) :: (qZar t0)) ?_
 refine OpsW.nil (AW.regionSeq (OpsW.sg 5 [101, 100, 99, 2, 6] [(101, .cnd (!(x18.2 != 0)) (slA (eI .u8) t0)), (100, .cnd (!(x18.2 != 0)) (slA (eI .u8) x18.1)), (99, .bool (x18.2 != 0)), qZba, qZbk] ?_))
 obtain ⟨x19, hx19, H⟩ := bindS H
 refine OpsW.gcall (c := !(x18.2 != 0)) (r := .bool x19) [] rfl (by kernel_rfl) rfl rfl rfl rfl (fun hc => ⟨glAll_sound ⟨hc, hc, trivial⟩, (.cons (.pur rfl) (.cons (.pur rfl) .nil)), f_slices_Equal_api_Cell_ok (condT hc hx19), .inl ⟨rfl, rfl⟩⟩) ?_
 refine OpsW.sq 2 [104, 2, 6] [(!(x18.2 != 0)) = true → (!(x18.2 != 0)) = true, (x18.2 != 0) = false → (!(x18.2 != 0)) = true] [(104, .bool (cond (x18.2 != 0) true (!x19))), qZba, qZbk] ⟨(fun h => h), (fun h => by first | exact h | (simpa using h) | grind), trivial⟩ ?_
 refine OpsW.nil (AW.cond (b := cond (x18.2 != 0) true (!x19)) rfl (fun c20 => ?_) (fun c20 => ?_))
 ·replace H := condT c20 H
  refine AW.regionSeq (OpsW.sg 1 [105, 2] [(105, .agg [.int .i64 0, .int .i64 0, .int .i64 0, .bool false, .int .i64 0, .int .i64 0]), qZba] ?_)
  refine OpsW.store rfl rfl rfl rfl trivial trivial rfl rfl rfl (by kernel_rfl) (okCb_sound (by kernel_rfl)) (Nat.le_of_ble_eq_true (by kernel_rfl)) ?_
  change OpsW _ _ _ _ _ ((2, ⟨0, true, 86, 6, [.int .i64 0, .int .i64 0, .int .i64 0, .bool false, .int .i64 0, .int .i64 0]⟩) :: (qZau v16 v17)) _
  refine OpsW.sg 1 [3, 2] qZb5 ?_
  refine OpsW.recast (env' := qZb5) (h' := qZas) (StC.mk (phi [(2, some 2)]) (.o rfl (.i6 .nil) .nil) rfl (.cons .im (.cons (.r rfl) .nil))) ?_
  refine OpsW.nil ?_
  obtain rfl := Option.some.inj H
  refine AW.recast (env' := [qZba, (3, .int .i64 190)]) (h' := qZas) (StC.mk (phi [(2, some 2)]) (.o rfl (.i6 .nil) .nil) rfl (.cons (.r rfl) (.cons .im .nil))) ?_
  refine AW.ret ?_
  try simp only [Ex.then, Ex.inBlock, Ex.noGoto, Ex.jump, reduceIte, Nat.reduceEqDiff, reduceCtorEq]
  refine Done.gen rfl (.cell rfl (by kernel_rfl) (.tmp .nil)) ?_
  show _ = _
  kernel_rfl
 replace H := condF c20 H
 refine AW.skip (AW.regionSeq (OpsW.sg 1 [106, 2] [(106, .agg (qZb6 v17)), qZba] ?_))
 refine OpsW.store rfl rfl rfl rfl trivial trivial rfl rfl rfl (by kernel_rfl) (okCb_sound (by kernel_rfl)) (Nat.le_of_ble_eq_true (by kernel_rfl)) ?_
 change OpsW _ _ _ _ _ ((2, ⟨0, true, 86, 6, (qZb6 v17)⟩) :: (qZau v16 v17)) _
 refine OpsW.sg 1 [3, 2] [(3, .int .i64 0), qZba] ?_
 refine OpsW.recast (env' := [(3, .int .i64 0), qZba]) (h' := (qZb3 v17)) (StC.mk (phi [(2, some 2)]) (.o rfl (.i6 .nil) .nil) rfl (.cons .im (.cons (.r rfl) .nil))) ?_
 refine OpsW.nil ?_
 obtain rfl := Option.some.inj H
 refine AW.recast (env' := [qZba, (3, .int .i64 0)]) (h' := (qZb3 v17)) (StC.mk (phi [(2, some 2)]) (.o rfl (.i6 .nil) .nil) rfl (.cons (.r rfl) (.cons .im .nil))) ?_
 refine AW.ret ?_
 try simp only [Ex.then, Ex.inBlock, Ex.noGoto, Ex.jump, reduceIte, Nat.reduceEqDiff, reduceCtorEq]
 refine Done.gen rfl (.cell rfl (by kernel_rfl) (.tmp .nil)) ?_
 show _ = _
 kernel_rfl
def f_sheet_header (t0 : List (List Int)) (t1 : Int) : Option (S_Header × Bool) :=
 cond ((t0.length : Int) == 0) (
  some ((⟨(0 : Int), (⟨(0 : Int), (0 : Int)⟩ : S_Label), false, (0 : Int), (0 : Int)⟩ : S_Header), false)) (
  G (0 ≤ (0 : Int) ∧ (0 : Int) < (t0.length : Int)) <|
  (f_number_ReadHeader (t0.getD (0 : Int).toNat [])).bind fun x3 =>
  some (x3.1, cond (x3.2 == 0) (x3.1.Width == t1) false))
section
variable (t0 : List (List Int)) (t1 : Int) (x3 : (S_Header × Int))
abbrev qZbw : List AV := [.int .i64 x3.1.Width, .int .i64 x3.1.Label.N, .int .i64 x3.1.Label.K, .bool x3.1.Back, .int .i64 x3.1.Ink, .int .i64 x3.1.Part]
abbrev qZbx := cond (x3.2 == 0) (x3.1.Width == t1) false
abbrev qZbp : Hp := [(6, ⟨0, true, 86, 6, (qZbw x3)⟩)]
abbrev qZbq : Hp := [(4, ⟨0, true, 86, 6, [.int .i64 0, .int .i64 0, .int .i64 0, .bool false, .int .i64 0, .int .i64 0]⟩)]
abbrev qZbr : Hp := (4, ⟨0, true, 86, 6, [.int .i64 0, .int .i64 0, .int .i64 0, .bool false, .int .i64 0, .int .i64 0]⟩) :: (qZbp x3)
abbrev qZbs : Hp := [(4, ⟨0, true, 86, 6, (qZbw x3)⟩)]
abbrev qZbt : Env := [(4, .ref 4 0 0), (0, slA (eL (eI .u8)) t0), (1, .int .i64 t1)]
abbrev qZbu : Env := [(4, .ref 4 0 0), (1, .int .i64 t1)]
abbrev qZbv : Env := [(4, .ref 4 0 0)]
end
theorem f_sheet_header_ok  {t0 : List (List Int)} {t1 : Int} {r : S_Header × Bool} (H : f_sheet_header t0 t1 = some r) : QSpec Tryd.prog 45 [slA (eL (eI .u8)) t0, .int .i64 t1] (.tup [.agg [.int .i64 r.1.Width, .int .i64 r.1.Label.N, .int .i64 r.1.Label.K, .bool r.1.Back, .int .i64 r.1.Ink, .int .i64 r.1.Part], .bool r.2]) := by
 refine Spec.of_AW Tryd.func45 rfl (by simp [Tryd.ntmps45]) ?_
 rw [Tryd.ntmps45]
 unfold f_sheet_header at H
 change AW _ _ _ [(0, slA (eL (eI .u8)) t0), (1, .int .i64 t1)] [] _
 refine AW.regionSeq (OpsW.alloc' rfl rfl rfl 4 rfl (by kernel_rfl : zc Tryd.prog 86 = some [.int .i64 0, .int .i64 0, .int .i64 0, .bool false, .int .i64 0, .int .i64 0]) (by kernel_rfl) ?_)
 refine OpsW.sg 1 [4, 0, 1] (qZbt t0 t1) ?_
 refine OpsW.recast (env' := (qZbt t0 t1)) (h' := qZbq) (StC.mk (phi [(4, some 4)]) (.o rfl (.i6 .nil) .nil) rfl (.cons (.r rfl) (.i2 .nil))) ?_
 refine OpsW.nil (AW.seq (AW.regionSeq (OpsW.sg 3 [10, 4, 0, 1] ((10, .bool ((t0.length : Int) == 0)) :: (qZbt t0 t1)) ?_)))
 refine OpsW.nil (AW.cond (b := (t0.length : Int) == 0) rfl (fun c1 => ?_) (fun c1 => ?_))
 ·replace H := condT c1 H
  refine AW.regionSeq (OpsW.sg 1 [11, 4] ((11, .agg [.int .i64 0, .int .i64 0, .int .i64 0, .bool false, .int .i64 0, .int .i64 0]) :: qZbv) ?_)
  refine OpsW.store rfl rfl rfl rfl trivial trivial rfl rfl rfl (by kernel_rfl) (okCb_sound (by kernel_rfl)) (Nat.le_of_ble_eq_true (by kernel_rfl)) ?_
  change OpsW _ _ _ _ _ ((4, ⟨0, true, 86, 6, [.int .i64 0, .int .i64 0, .int .i64 0, .bool false, .int .i64 0, .int .i64 0]⟩) :: qZbq) _
  refine OpsW.sg 1 [5, 4] ((5, .bool false) :: qZbv) ?_
  refine OpsW.recast (env' := ((5, .bool false) :: qZbv)) (h' := qZbq) (StC.mk (phi [(4, some 4)]) (.o rfl (.i6 .nil) .nil) rfl (.cons .im (.cons (.r rfl) .nil))) ?_
  refine OpsW.nil ?_
  obtain rfl := Option.some.inj H
  refine AW.recast (env' := [(4, .ref 4 0 0), (5, .bool false)]) (h' := qZbq) (StC.mk (phi [(4, some 4)]) (.o rfl (.i6 .nil) .nil) rfl (.cons (.r rfl) (.cons .im .nil))) ?_
  refine AW.ret ?_
  try simp only [Ex.then, Ex.inBlock, Ex.noGoto, Ex.jump, reduceIte, Nat.reduceEqDiff, reduceCtorEq]
  refine Done.gen rfl (.cell rfl (by kernel_rfl) (.tmp .nil)) ?_
  show _ = _
  kernel_rfl
 replace H := condF c1 H
 refine AW.skip (AW.regionSeq ?_)
 obtain ⟨g2, H⟩ := G_some H
 refine OpsW.sq 2 [14, 4, 1] [0 ≤ (0 : Int) ∧ (0 : Int) < (t0.length : Int)] ((14, .ipt (t0.flatMap (eL (eI .u8))) ((0 : Int).toNat * 1)) :: (qZbu t1)) ⟨g2, trivial⟩ ?_
 refine OpsW.asU (slA (eI .u8) (t0.getD (0 : Int).toNat [])) rfl rfl (T.load rfl trivial (by kernel_rfl) (fm_cell0 (eL (eI .u8)) 1 (fun _ => rfl) t0 [] (0 : Int).toNat (ltN g2) (fun a => .sl (a.flatMap (eI .u8)) a.length) (fun _ => rfl))) ?_
 obtain ⟨x3, hx3, H⟩ := bindS H
 refine OpsW.qcall rfl (by kernel_rfl) rfl rfl (glAll_sound trivial) (.cons (.pur rfl) .nil) (f_number_ReadHeader_ok hx3) rfl ?_
 refine OpsW.sg 3 [18, 17, 4, 1] ((18, .int .i64 x3.2) :: (17, .agg (qZbw x3)) :: (qZbu t1)) ?_
 refine OpsW.alloc' rfl rfl rfl 6 rfl (by kernel_rfl : zc Tryd.prog 86 = some [.int .i64 0, .int .i64 0, .int .i64 0, .bool false, .int .i64 0, .int .i64 0]) (by kernel_rfl) ?_
 refine OpsW.store rfl rfl rfl rfl trivial trivial rfl rfl rfl (by kernel_rfl) (okCb_sound (by kernel_rfl)) (Nat.le_of_ble_eq_true (by kernel_rfl)) ?_
 change OpsW _ _ _ _ _ ((6, ⟨0, true, 86, 6, (qZbw x3)⟩) :: (6, ⟨0, true, 86, 6, [.int .i64 0, .int .i64 0, .int .i64 0, .bool false, .int .i64 0, .int .i64 0]⟩) :: qZbq) _
 refine OpsW.sg 1 [7, 6, 4, 1] ((7, .int .i64 x3.2) :: (6, .ref 6 0 0) :: (qZbu t1)) ?_
 refine OpsW.recast (env' := ((7, .int .i64 x3.2) :: (6, .ref 6 0 0) :: (qZbu t1))) (h' := (qZbr x3)) (StC.mk (phi [(4, some 4), (6, some 6)]) (.o rfl (.i6 .nil) (.o rfl (.i6 .nil) .nil)) rfl (.cons .im (.cons (.r rfl) (.cons (.r rfl) (.cons .im .nil))))) ?_
 refine OpsW.nil (AW.trim [7, 6, 1, 4] ((7, .int .i64 x3.2) :: (6, .ref 6 0 0) :: (1, .int .i64 t1) :: qZbv) (by kernel_rfl) ?_)
 refine AW.drawYSeq (h := (qZbp x3)) (env := [(7, .int .i64 x3.2), (6, .ref 6 0 0), (1, .int .i64 t1)]) qZbv (qZbr x3) 10 [(9, 4, [])] Tryd.checked.mixed (by kernel_rfl) (by kernel_rfl) (sub_ins (h1 := []) (h2 := (qZbp x3)) rfl) (.cons rfl .nil) (pin_ins (h1 := []) (h2 := (qZbp x3)) rfl) (envIn_rd (by kernel_rfl)) ?_
 refine DOpsY.q 9 (by kernel_rfl) ?_
 refine QOps.seg (N := 28) 9 [(x3.2 == 0) = true → (x3.2 == 0) = true, (x3.2 == 0) = true → (x3.2 == 0) = true, (x3.2 == 0) = true → (x3.2 == 0) = true, (x3.2 == 0) = true → (x3.2 == 0) = true] [(27, .bool (qZbx t1 x3)), (26, .cnd (x3.2 == 0) (.bool (x3.1.Width == t1))), (25, .cnd (x3.2 == 0) (.int .i64 t1)), (24, .cnd (x3.2 == 0) (.int .i64 x3.1.Width)), (23, .cnd (x3.2 == 0) (.ref 6 0 0)), (22, .bool (x3.2 == 0)), (21, .bool (x3.2 == 0)), (20, .int .i64 x3.2), (19, .agg (qZbw x3)), (7, .int .i64 x3.2), (6, .ref 6 0 0), (1, .int .i64 t1)] (by kernel_rfl) ⟨(fun h => h), (fun h => h), (fun h => h), (fun h => by first | exact h | (simpa using h) | grind), trivial⟩ ?_
 refine QOps.nil (DOpsY.e 4 rfl rfl rfl (by exact fun g hg hb => RStep.store rfl rfl (by exact trivial) (by exact trivial) ((hg 4 (List.Mem.head _)).trans rfl) rfl rfl (by kernel_rfl) (okCb_sound (by kernel_rfl)) (Nat.le_of_ble_eq_true (by kernel_rfl))) ?_)
 refine DOpsY.nil ?_
 change OpsW _ _ _ _ ((27, .bool (qZbx t1 x3)) :: (26, .cnd (x3.2 == 0) (.bool (x3.1.Width == t1))) :: (25, .cnd (x3.2 == 0) (.int .i64 t1)) :: (24, .cnd (x3.2 == 0) (.int .i64 x3.1.Width)) :: (23, .cnd (x3.2 == 0) (.ref 6 0 0)) :: (22, .bool (x3.2 == 0)) :: (21, .bool (x3.2 == 0)) :: (20, .int .i64 x3.2) :: (19, .agg (qZbw x3)) :: (7, .int .i64 x3.2) :: (6, .ref 6 0 0) :: (1, .int .i64 t1) :: qZbv) ((4, ⟨0, true, 86, 6, (qZbw x3)⟩) :: (qZbr x3)) _
 refine OpsW.sg 0 [27, 4] ((27, .bool (qZbx t1 x3)) :: qZbv) ?_
 refine OpsW.sg 1 [5, 4] ((5, .bool (qZbx t1 x3)) :: qZbv) ?_
 refine OpsW.recast (env' := ((5, .bool (qZbx t1 x3)) :: qZbv)) (h' := (qZbs x3)) (StC.mk (phi [(4, some 4)]) (.o rfl (.i6 .nil) .nil) rfl (.cons .im (.cons (.r rfl) .nil))) ?_
 refine OpsW.nil ?_
 obtain rfl := Option.some.inj H
 refine AW.recast (env' := [(4, .ref 4 0 0), (5, .bool (qZbx t1 x3))]) (h' := (qZbs x3)) (StC.mk (phi [(4, some 4)]) (.o rfl (.i6 .nil) .nil) rfl (.cons (.r rfl) (.cons .im .nil))) ?_
 refine AW.ret ?_
 try simp only [Ex.then, Ex.inBlock, Ex.noGoto, Ex.jump, reduceIte, Nat.reduceEqDiff, reduceCtorEq]
 refine Done.gen rfl (.cell rfl (by kernel_rfl) (.tmp .nil)) ?_
 show _ = _
 kernel_rfl
def f_sheet_Leaf_k1 (v8 : S_Leaf) (v9 : S_Leaf) (v10 : S_Header) : Option (S_Leaf × Int) :=
 some ((⟨v10.Label, v9.Front, v9.Back⟩ : S_Leaf), (0 : Int))
def f_sheet_Leaf (t0 : S_Plate) : Option (S_Leaf × Int) :=
 (f_sheet_Valid t0).bind fun x1 =>
 cond (!x1) (
  some ((⟨(⟨(0 : Int), (0 : Int)⟩ : S_Label), [], []⟩ : S_Leaf), (250 : Int))) (
  (f_sheet_Front t0).bind fun x3 =>
  (f_sheet_Back t0).bind fun x4 =>
  G (inR (Int.tdiv t0.W (2 : Int))) <|
  (f_sheet_header x3 (Int.tdiv t0.W (2 : Int))).bind fun x6 =>
  cond (cond (!x6.2) true x6.1.Back) (
   some ((⟨(⟨(0 : Int), (0 : Int)⟩ : S_Label), [], []⟩ : S_Leaf), (250 : Int))) (
   cond (decide ((0 : Int) < (x4.length : Int))) (
    (f_sheet_header x4 (Int.tdiv t0.W (2 : Int))).bind fun x12 =>
    cond (cond (cond (!x12.2) true (!x12.1.Back)) true (xor true ([x12.1.Label.N == x6.1.Label.N, x12.1.Label.K == x6.1.Label.K].all id))) (
     some ((⟨(⟨(0 : Int), (0 : Int)⟩ : S_Label), [], []⟩ : S_Leaf), (250 : Int))) (
     f_sheet_Leaf_k1 (⟨(⟨(0 : Int), (0 : Int)⟩ : S_Label), [], []⟩ : S_Leaf) (⟨(⟨(0 : Int), (0 : Int)⟩ : S_Label), x3, x4⟩ : S_Leaf) x6.1)) (
    f_sheet_Leaf_k1 (⟨(⟨(0 : Int), (0 : Int)⟩ : S_Label), [], []⟩ : S_Leaf) (⟨(⟨(0 : Int), (0 : Int)⟩ : S_Label), x3, x4⟩ : S_Leaf) x6.1)))
section
variable (t0 : S_Plate) (v8 : S_Leaf) (v9 : S_Leaf) (v10 : S_Header) (x1 : Bool) (x3 : (List (List Int))) (x4 : (List (List Int))) (x6 : (S_Header × Bool)) (x12 : (S_Header × Bool))
abbrev qZcc : List AV := [.int .i64 0, .int .i64 0, .im (.val (.slice none 0 0)), .im (.val (.slice none 0 0))]
abbrev qZcd : List AV := [.int .i64 t0.W, .int .i64 t0.H, slA (eL eB) t0.Up, slA (eL eB) t0.Down]
abbrev qZce : List AV := [.int .i64 x6.1.Width, .int .i64 x6.1.Label.N, .int .i64 x6.1.Label.K, .bool x6.1.Back, .int .i64 x6.1.Ink, .int .i64 x6.1.Part]
abbrev qZcf : List AV := [.int .i64 v10.Label.N, .int .i64 v10.Label.K, slA (eL (eI .u8)) v9.Front, slA (eL (eI .u8)) v9.Back]
abbrev qZcg := cond (!x12.2) true (!x12.1.Back)
abbrev qZch : List AV := [.int .i64 0, .int .i64 0, slA (eL (eI .u8)) x3, slA (eL (eI .u8)) x4]
abbrev qZci : List AV := [.int .i64 x12.1.Width, .int .i64 x12.1.Label.N, .int .i64 x12.1.Label.K, .bool x12.1.Back, .int .i64 x12.1.Ink, .int .i64 x12.1.Part]
abbrev qZcj : Nat × AV := (2, .ref 2 0 0)
abbrev qZck := xor true ([x12.1.Label.N == x6.1.Label.N, x12.1.Label.K == x6.1.Label.K].all id)
abbrev qZcl : Nat × AV := (4, .ref 4 0 0)
abbrev qZcm := (⟨(0 : Int), (0 : Int)⟩ : S_Label)
abbrev qZcn : List AV := [.int .i64 v8.Label.N, .int .i64 v8.Label.K, slA (eL (eI .u8)) v8.Front, slA (eL (eI .u8)) v8.Back]
abbrev qZby : Hp := [(1, ⟨0, true, 47, 4, (qZcd t0)⟩), (2, ⟨0, true, 39, 4, qZcc⟩), (4, ⟨0, true, 39, 4, (qZch x3 x4)⟩), (5, ⟨0, true, 86, 6, (qZce x6)⟩)]
abbrev qZbz : Hp := [(2, ⟨0, true, 39, 4, qZcc⟩)]
abbrev qZc0 : Hp := [(2, ⟨0, true, 39, 4, qZcc⟩), (4, ⟨0, true, 39, 4, (qZch x3 x4)⟩), (5, ⟨0, true, 86, 6, (qZce x6)⟩), (7, ⟨0, true, 86, 6, (qZci x12)⟩)]
abbrev qZc1 : Hp := [(2, ⟨0, true, 39, 4, (qZcn v8)⟩), (4, ⟨0, true, 39, 4, [.int .i64 v9.Label.N, .int .i64 v9.Label.K, slA (eL (eI .u8)) v9.Front, slA (eL (eI .u8)) v9.Back]⟩), (5, ⟨0, true, 86, 6, [.int .i64 v10.Width, .int .i64 v10.Label.N, .int .i64 v10.Label.K, .bool v10.Back, .int .i64 v10.Ink, .int .i64 v10.Part]⟩)]
abbrev qZc2 : Env := [qZcj, (1, .ref 1 0 0)]
abbrev qZc3 : Hp := [(1, ⟨0, true, 47, 4, (qZcd t0)⟩), (2, ⟨0, true, 39, 4, qZcc⟩), (4, ⟨0, true, 39, 4, (qZch x3 x4)⟩)]
abbrev qZc4 : Hp := [(2, ⟨0, true, 39, 4, (qZcn v8)⟩), (4, ⟨0, true, 39, 4, (qZcf v9 v10)⟩)]
abbrev qZc5 : Env := [(5, .ref 5 0 0), qZcl, qZcj]
abbrev qZc6 : Env := (15, .agg (qZcd t0)) :: (14, slA (eL (eI .u8)) x3) :: (13, .agg (qZcd t0)) :: (11, .bool (!x1)) :: qZc2
abbrev qZc7 : Hp := (1, ⟨0, true, 47, 4, (qZcd t0)⟩) :: qZbz
abbrev qZc8 : Hp := [(2, ⟨0, true, 39, 4, [.int .i64 0, .int .i64 0, slA (eL (eI .u8)) [], slA (eL (eI .u8)) []]⟩)]
abbrev qZc9 : Env := [(3, .int .i64 250), qZcj]
abbrev qZca : Hp := [(2, ⟨0, true, 39, 4, (qZcf v9 v10)⟩)]
abbrev qZcb : Env := (5, .ref 5 0 0) :: qZcl :: qZc2
end
theorem f_sheet_Leaf_ok  {t0 : S_Plate} {r : S_Leaf × Int} (H : f_sheet_Leaf t0 = some r) : QSpec Tryd.prog 25 [.agg [.int .i64 t0.W, .int .i64 t0.H, slA (eL eB) t0.Up, slA (eL eB) t0.Down]] (.tup [.agg [.int .i64 r.1.Label.N, .int .i64 r.1.Label.K, slA (eL (eI .u8)) r.1.Front, slA (eL (eI .u8)) r.1.Back], .int .i64 r.2]) := by
 refine Spec.of_AW Tryd.func25 rfl (by simp [Tryd.ntmps25]) ?_
 rw [Tryd.ntmps25]
 unfold f_sheet_Leaf at H
 change AW _ _ _ [(0, .agg (qZcd t0))] [] _
 refine AW.regionSeq (OpsW.box rfl rfl rfl 1 rfl (okCb_sound (by kernel_rfl)) ?_)
 change OpsW _ _ _ _ _ [(1, ⟨0, true, 47, 4, (qZcd t0)⟩)] _
 refine OpsW.alloc' rfl rfl rfl 2 rfl (by kernel_rfl : zc Tryd.prog 39 = some [.int .i64 0, .int .i64 0, .slice none 0 0, .slice none 0 0]) (by kernel_rfl) ?_
 refine OpsW.sg 1 [2, 1] qZc2 ?_
 refine OpsW.recast (env' := qZc2) (h' := (qZc7 t0)) (StC.mk (phi [(1, some 1), (2, some 2)]) (.o rfl (.i4 .nil) (.o rfl (.i4 .nil) .nil)) rfl (.cons (.r rfl) (.cons (.r rfl) .nil))) ?_
 refine OpsW.nil (AW.seq (AW.regionSeq (OpsW.sg 1 [9, 2, 1] ((9, .agg (qZcd t0)) :: qZc2) ?_)))
 obtain ⟨x1, hx1, H⟩ := bindS H
 refine OpsW.qcall rfl (by kernel_rfl) rfl rfl (glAll_sound trivial) (.cons (.pur rfl) .nil) (f_sheet_Valid_ok hx1) rfl ?_
 refine OpsW.sg 1 [11, 2, 1] ((11, .bool (!x1)) :: qZc2) ?_
 refine OpsW.nil (AW.cond (b := !x1) rfl (fun c2 => ?_) (fun c2 => ?_))
 ·replace H := condT c2 H
  refine AW.regionSeq (OpsW.sg 1 [12, 2] [(12, .agg qZcc), qZcj] ?_)
  refine OpsW.store rfl rfl rfl rfl trivial trivial rfl rfl rfl (by kernel_rfl) (okCb_sound (by kernel_rfl)) (Nat.le_of_ble_eq_true (by kernel_rfl)) ?_
  change OpsW _ _ _ _ _ ((2, ⟨0, true, 39, 4, qZcc⟩) :: (qZc7 t0)) _
  refine OpsW.sg 1 [3, 2] qZc9 ?_
  refine OpsW.recast (env' := qZc9) (h' := qZbz) (StC.mk (phi [(2, some 2)]) (.o rfl (.i4 .nil) .nil) rfl (.cons .im (.cons (.r rfl) .nil))) ?_
  refine OpsW.nil ?_
  obtain rfl := Option.some.inj H
  refine AW.recast (env' := [qZcj, (3, .int .i64 250)]) (h' := qZc8) (StC.mk (phi [(2, some 2)]) (.o rfl (.i2 (.cons .nil (.cons .nil .nil))) .nil) rfl (.cons (.r rfl) (.cons .im .nil))) ?_
  refine AW.ret ?_
  try simp only [Ex.then, Ex.inBlock, Ex.noGoto, Ex.jump, reduceIte, Nat.reduceEqDiff, reduceCtorEq]
  refine Done.gen rfl (.cell rfl (by kernel_rfl) (.tmp .nil)) ?_
  show _ = _
  kernel_rfl
 replace H := condF c2 H
 refine AW.skip (AW.drawGSeq 6 [(5, 4)] Tryd.checked.mixed (by kernel_rfl) (by kernel_rfl) ?_)
 refine DOps.q 5 (by kernel_rfl) ?_
 refine QOps.seg (N := 66) 1 [] ((13, .agg (qZcd t0)) :: (11, .bool (!x1)) :: qZc2) (by kernel_rfl) trivial ?_
 obtain ⟨x3, hx3, H⟩ := bindS H
 refine QOps.qcall rfl (by kernel_rfl) rfl (glAll_sound trivial) (.cons (.pur rfl) .nil) (f_sheet_Front_ok hx3) rfl ?_
 refine QOps.seg (N := 66) 1 [] (qZc6 t0 x1 x3) (by kernel_rfl) trivial ?_
 obtain ⟨x4, hx4, H⟩ := bindS H
 refine QOps.qcall rfl (by kernel_rfl) rfl (glAll_sound trivial) (.cons (.pur rfl) .nil) (f_sheet_Back_ok hx4) rfl ?_
 refine QOps.seg (N := 66) 1 [] ((17, .agg (qZch x3 x4)) :: (16, slA (eL (eI .u8)) x4) :: (qZc6 t0 x1 x3)) (by kernel_rfl) trivial ?_
 refine QOps.nil (DOps.e 4 rfl rfl rfl (by exact fun g hg hb => RStep.alloc rfl 4 (hg.trans rfl) (by kernel_rfl : zc Tryd.prog 39 = some [.int .i64 0, .int .i64 0, .slice none 0 0, .slice none 0 0]) (by kernel_rfl)) ?_)
 refine DOps.nil ?_
 refine OpsW.sg 0 [4, 17, 2, 1] (qZcl :: (17, .agg (qZch x3 x4)) :: qZc2) ?_
 refine OpsW.store rfl rfl rfl rfl trivial trivial rfl rfl rfl (by kernel_rfl) (okCb_sound (by kernel_rfl)) (Nat.le_of_ble_eq_true (by kernel_rfl)) ?_
 change OpsW _ _ _ _ _ ((4, ⟨0, true, 39, 4, (qZch x3 x4)⟩) :: (4, ⟨0, true, 39, 4, qZcc⟩) :: (qZc7 t0)) _
 refine OpsW.sg 0 [4, 2, 1] (qZcl :: qZc2) ?_
 refine OpsW.recast (env' := (qZcl :: qZc2)) (h' := (qZc3 t0 x3 x4)) (StC.mk (phi [(1, some 1), (2, some 2), (4, some 4)]) (.o rfl (.i4 .nil) (.o rfl (.i4 .nil) (.o rfl (.i4 .nil) .nil))) rfl (.cons (.r rfl) (.cons (.r rfl) (.cons (.r rfl) .nil)))) ?_
 refine OpsW.nil (AW.regionSeq ?_)
 obtain ⟨g5, H⟩ := G_some H
 refine OpsW.sq 5 [23, 20, 4, 2, 1] [(2 : Int) ≠ 0, inR (Int.tdiv t0.W (2 : Int))] ((23, .int .i64 (Int.tdiv t0.W (2 : Int))) :: (20, slA (eL (eI .u8)) x3) :: qZcl :: qZc2) ⟨(by decide), g5, trivial⟩ ?_
 obtain ⟨x6, hx6, H⟩ := bindS H
 refine OpsW.qcall rfl (by kernel_rfl) rfl rfl (glAll_sound trivial) (.cons (.pur rfl) (.cons (.pur rfl) .nil)) (f_sheet_header_ok hx6) rfl ?_
 refine OpsW.sg 3 [26, 25, 4, 2, 1] ((26, .bool x6.2) :: (25, .agg (qZce x6)) :: qZcl :: qZc2) ?_
 refine OpsW.alloc' rfl rfl rfl 5 rfl (by kernel_rfl : zc Tryd.prog 86 = some [.int .i64 0, .int .i64 0, .int .i64 0, .bool false, .int .i64 0, .int .i64 0]) (by kernel_rfl) ?_
 refine OpsW.store rfl rfl rfl rfl trivial trivial rfl rfl rfl (by kernel_rfl) (okCb_sound (by kernel_rfl)) (Nat.le_of_ble_eq_true (by kernel_rfl)) ?_
 change OpsW _ _ _ _ _ ((5, ⟨0, true, 86, 6, (qZce x6)⟩) :: (5, ⟨0, true, 86, 6, [.int .i64 0, .int .i64 0, .int .i64 0, .bool false, .int .i64 0, .int .i64 0]⟩) :: (qZc3 t0 x3 x4)) _
 refine OpsW.sg 1 [6, 5, 4, 2, 1] ((6, .bool x6.2) :: qZcb) ?_
 refine OpsW.recast (env' := ((6, .bool x6.2) :: qZcb)) (h' := (qZby t0 x3 x4 x6)) (StC.mk (phi [(1, some 1), (2, some 2), (4, some 4), (5, some 5)]) (.o rfl (.i4 .nil) (.o rfl (.i4 .nil) (.o rfl (.i4 .nil) (.o rfl (.i6 .nil) .nil)))) rfl (.cons .im (.cons (.r rfl) (.cons (.r rfl) (.cons (.r rfl) (.cons (.r rfl) .nil)))))) ?_
 refine OpsW.nil (AW.seq (AW.regionSeq (OpsW.sq 6 [32, 5, 4, 2, 1] [(!(!x6.2)) = true → (!(!x6.2)) = true, (!x6.2) = false → (!(!x6.2)) = true] ((32, .bool (cond (!x6.2) true x6.1.Back)) :: qZcb) ⟨(fun h => h), (fun h => by first | exact h | (simpa using h) | grind), trivial⟩ ?_)))
 refine OpsW.nil (AW.cond (b := cond (!x6.2) true x6.1.Back) rfl (fun c7 => ?_) (fun c7 => ?_))
 ·replace H := condT c7 H
  refine AW.regionSeq (OpsW.sg 1 [33, 2] [(33, .agg qZcc), qZcj] ?_)
  refine OpsW.store rfl rfl rfl rfl trivial trivial rfl rfl rfl (by kernel_rfl) (okCb_sound (by kernel_rfl)) (Nat.le_of_ble_eq_true (by kernel_rfl)) ?_
  change OpsW _ _ _ _ _ ((2, ⟨0, true, 39, 4, qZcc⟩) :: (qZby t0 x3 x4 x6)) _
  refine OpsW.sg 1 [3, 2] qZc9 ?_
  refine OpsW.recast (env' := qZc9) (h' := qZbz) (StC.mk (phi [(2, some 2)]) (.o rfl (.i4 .nil) .nil) rfl (.cons .im (.cons (.r rfl) .nil))) ?_
  refine OpsW.nil ?_
  obtain rfl := Option.some.inj H
  refine AW.recast (env' := [qZcj, (3, .int .i64 250)]) (h' := qZc8) (StC.mk (phi [(2, some 2)]) (.o rfl (.i2 (.cons .nil (.cons .nil .nil))) .nil) rfl (.cons (.r rfl) (.cons .im .nil))) ?_
  refine AW.ret ?_
  try simp only [Ex.then, Ex.inBlock, Ex.noGoto, Ex.jump, reduceIte, Nat.reduceEqDiff, reduceCtorEq]
  refine Done.gen rfl (.cell rfl (by kernel_rfl) (.tmp .nil)) ?_
  show _ = _
  kernel_rfl
 replace H := condF c7 H
 refine AW.skip ?_
 refine AW.joinK (fun (y : S_Leaf × S_Leaf × S_Header) => f_sheet_Leaf_k1 y.1 y.2.1 y.2.2) r (fun (y : S_Leaf × S_Leaf × S_Header) => [qZcj, qZcl, (5, .ref 5 0 0)]) (fun (y : S_Leaf × S_Leaf × S_Header) => [(2, ⟨0, true, 39, 4, [.int .i64 y.1.Label.N, .int .i64 y.1.Label.K, slA (eL (eI .u8)) y.1.Front, slA (eL (eI .u8)) y.1.Back]⟩), (4, ⟨0, true, 39, 4, [.int .i64 y.2.1.Label.N, .int .i64 y.2.1.Label.K, slA (eL (eI .u8)) y.2.1.Front, slA (eL (eI .u8)) y.2.1.Back]⟩), (5, ⟨0, true, 86, 6, [.int .i64 y.2.2.Width, .int .i64 y.2.2.Label.N, .int .i64 y.2.2.Label.K, .bool y.2.2.Back, .int .i64 y.2.2.Ink, .int .i64 y.2.2.Part]⟩)]) ?_ ?_
 ·refine AW.regionSeq (OpsW.sg 4 [37, 5, 4, 2, 1] ((37, .bool (decide ((0 : Int) < (x4.length : Int)))) :: qZcb) ?_)
  refine OpsW.nil (AW.cond (b := decide ((0 : Int) < (x4.length : Int))) rfl (fun c11 => ?_) (fun c11 => ?_))
  ·replace H := condT c11 H
   refine AW.regionSeq (OpsW.sq 5 [43, 40, 5, 4, 2] [(2 : Int) ≠ 0, inR (Int.tdiv t0.W (2 : Int))] ((43, .int .i64 (Int.tdiv t0.W (2 : Int))) :: (40, slA (eL (eI .u8)) x4) :: qZc5) ⟨(by decide), g5, trivial⟩ ?_)
   obtain ⟨x12, hx12, H⟩ := bindS H
   refine OpsW.qcall rfl (by kernel_rfl) rfl rfl (glAll_sound trivial) (.cons (.pur rfl) (.cons (.pur rfl) .nil)) (f_sheet_header_ok hx12) rfl ?_
   refine OpsW.sg 3 [46, 45, 5, 4, 2] ((46, .bool x12.2) :: (45, .agg (qZci x12)) :: qZc5) ?_
   refine OpsW.alloc' rfl rfl rfl 7 rfl (by kernel_rfl : zc Tryd.prog 86 = some [.int .i64 0, .int .i64 0, .int .i64 0, .bool false, .int .i64 0, .int .i64 0]) (by kernel_rfl) ?_
   refine OpsW.store rfl rfl rfl rfl trivial trivial rfl rfl rfl (by kernel_rfl) (okCb_sound (by kernel_rfl)) (Nat.le_of_ble_eq_true (by kernel_rfl)) ?_
   change OpsW _ _ _ _ _ ((7, ⟨0, true, 86, 6, (qZci x12)⟩) :: (7, ⟨0, true, 86, 6, [.int .i64 0, .int .i64 0, .int .i64 0, .bool false, .int .i64 0, .int .i64 0]⟩) :: (qZby t0 x3 x4 x6)) _
   refine OpsW.sg 1 [8, 7, 5, 4, 2] ((8, .bool x12.2) :: (7, .ref 7 0 0) :: qZc5) ?_
   refine OpsW.recast (env' := ((8, .bool x12.2) :: (7, .ref 7 0 0) :: qZc5)) (h' := (qZc0 x3 x4 x6 x12)) (StC.mk (phi [(2, some 2), (4, some 4), (5, some 5), (7, some 7)]) (.o rfl (.i4 .nil) (.o rfl (.i4 .nil) (.o rfl (.i6 .nil) (.o rfl (.i6 .nil) .nil)))) rfl (.cons .im (.cons (.r rfl) (.cons (.r rfl) (.cons (.r rfl) (.cons (.r rfl) .nil)))))) ?_
   refine OpsW.nil (AW.regionSeq (OpsW.sq 12 [58, 56, 54, 5, 4, 2] [(!(!x12.2)) = true → (!(!x12.2)) = true, (!(!x12.2)) = true → (!(!x12.2)) = true, (!x12.2) = false → (!(!x12.2)) = true, (!(qZcg x12)) = true → (!(qZcg x12)) = true, (!(qZcg x12)) = true → (!(qZcg x12)) = true] ((58, .cnd (!(qZcg x12)) (.agg [.int .i64 x6.1.Label.N, .int .i64 x6.1.Label.K])) :: (56, .cnd (!(qZcg x12)) (.agg [.int .i64 x12.1.Label.N, .int .i64 x12.1.Label.K])) :: (54, .bool (qZcg x12)) :: qZc5) ⟨(fun h => h), (fun h => h), (fun h => by first | exact h | (simpa using h) | grind), (fun h => h), (fun h => h), trivial⟩ ?_))
   refine OpsW.quietG (c := !(qZcg x12)) (.bool (qZck x6 x12)) rfl rfl rfl rfl (Quiet.eqAgg [.int .i64 x12.1.Label.N, .int .i64 x12.1.Label.K] [.int .i64 x6.1.Label.N, .int .i64 x6.1.Label.K] [x12.1.Label.N == x6.1.Label.N, x12.1.Label.K == x6.1.Label.K] true rfl rfl (by kernel_rfl) (by kernel_rfl) (gpoG (c := !(qZcg x12)) rfl rfl rfl (fun hc => ⟨hc, rfl, hc, rfl⟩))) ?_
   refine OpsW.sq 1 [60, 5, 4, 2] [(qZcg x12) = false → (!(qZcg x12)) = true] ((60, .bool (cond (qZcg x12) true (qZck x6 x12))) :: qZc5) ⟨(fun h => by first | exact h | (simpa using h) | grind), trivial⟩ ?_
   refine OpsW.nil (AW.cond (b := cond (qZcg x12) true (qZck x6 x12)) rfl (fun c13 => ?_) (fun c13 => ?_))
   ·replace H := condT c13 H
    refine AW.regionSeq (OpsW.sg 1 [61, 2] [(61, .agg qZcc), qZcj] ?_)
    refine OpsW.store rfl rfl rfl rfl trivial trivial rfl rfl rfl (by kernel_rfl) (okCb_sound (by kernel_rfl)) (Nat.le_of_ble_eq_true (by kernel_rfl)) ?_
    change OpsW _ _ _ _ _ ((2, ⟨0, true, 39, 4, qZcc⟩) :: (qZc0 x3 x4 x6 x12)) _
    refine OpsW.sg 1 [3, 2] qZc9 ?_
    refine OpsW.recast (env' := qZc9) (h' := qZbz) (StC.mk (phi [(2, some 2)]) (.o rfl (.i4 .nil) .nil) rfl (.cons .im (.cons (.r rfl) .nil))) ?_
    refine OpsW.nil ?_
    obtain rfl := Option.some.inj H
    refine AW.recast (env' := [qZcj, (3, .int .i64 250)]) (h' := qZc8) (StC.mk (phi [(2, some 2)]) (.o rfl (.i2 (.cons .nil (.cons .nil .nil))) .nil) rfl (.cons (.r rfl) (.cons .im .nil))) ?_
    refine AW.ret ?_
    try simp only [Ex.then, Ex.inBlock, Ex.noGoto, Ex.jump, reduceIte, Nat.reduceEqDiff, reduceCtorEq]
    refine Done.gen rfl (.cell rfl (by kernel_rfl) (.tmp .nil)) ?_
    show _ = _
    kernel_rfl
   replace H := condF c13 H
   refine AW.skip ?_
   show ∃ y, _ ∧ StC _ _ _ _
   exact ⟨((⟨qZcm, [], []⟩ : S_Leaf), (⟨qZcm, x3, x4⟩ : S_Leaf), x6.1), H, (StC.mk (phi [(2, some 2), (4, some 4), (5, some 5)]) (.o rfl (.i2 (.cons .nil (.cons .nil .nil))) (.o rfl (.i4 .nil) (.o rfl (.i6 .nil) .nil))) rfl (.cons (.r rfl) (.cons (.r rfl) (.cons (.r rfl) .nil))))⟩
  replace H := condF c11 H
  refine AW.skip ?_
  show ∃ y, _ ∧ StC _ _ _ _
  exact ⟨((⟨qZcm, [], []⟩ : S_Leaf), (⟨qZcm, x3, x4⟩ : S_Leaf), x6.1), H, (StC.mk (phi [(2, some 2), (4, some 4), (5, some 5)]) (.o rfl (.i2 (.cons .nil (.cons .nil .nil))) (.o rfl (.i4 .nil) (.o rfl (.i6 .nil) .nil))) rfl (.cons (.r rfl) (.cons (.r rfl) (.cons (.r rfl) .nil))))⟩
 rintro ⟨v8, v9, v10⟩ H
 change f_sheet_Leaf_k1 v8 v9 v10 = some r at H
 unfold f_sheet_Leaf_k1 at H
 change AW _ _ _ [qZcj, qZcl, (5, .ref 5 0 0)] (qZc1 v8 v9 v10) _
 refine AW.regionSeq (OpsW.sg 3 [64, 63, 2, 4] [(64, .ref 4 0 0), (63, .agg [.int .i64 v10.Label.N, .int .i64 v10.Label.K]), qZcj, qZcl] ?_)
 refine OpsW.store rfl rfl rfl rfl trivial trivial rfl rfl rfl (by kernel_rfl) (okCb_sound (by kernel_rfl)) (Nat.le_of_ble_eq_true (by kernel_rfl)) ?_
 change OpsW _ _ _ _ _ ((4, ⟨0, true, 39, 4, (qZcf v9 v10)⟩) :: (qZc1 v8 v9 v10)) _
 refine OpsW.sg 0 [2, 4] [qZcj, qZcl] ?_
 refine OpsW.recast (env' := [qZcj, qZcl]) (h' := (qZc4 v8 v9 v10)) (StC.mk (phi [(2, some 2), (4, some 4)]) (.o rfl (.i4 .nil) (.o rfl (.i4 .nil) .nil)) rfl (.cons (.r rfl) (.cons (.r rfl) .nil))) ?_
 refine OpsW.nil (AW.regionSeq (OpsW.sg 1 [65, 2] [(65, .agg (qZcf v9 v10)), qZcj] ?_))
 refine OpsW.store rfl rfl rfl rfl trivial trivial rfl rfl rfl (by kernel_rfl) (okCb_sound (by kernel_rfl)) (Nat.le_of_ble_eq_true (by kernel_rfl)) ?_
 change OpsW _ _ _ _ _ ((2, ⟨0, true, 39, 4, (qZcf v9 v10)⟩) :: (qZc4 v8 v9 v10)) _
 refine OpsW.sg 1 [3, 2] [(3, .int .i64 0), qZcj] ?_
 refine OpsW.recast (env' := [(3, .int .i64 0), qZcj]) (h' := (qZca v9 v10)) (StC.mk (phi [(2, some 2)]) (.o rfl (.i4 .nil) .nil) rfl (.cons .im (.cons (.r rfl) .nil))) ?_
 refine OpsW.nil ?_
 obtain rfl := Option.some.inj H
 refine AW.recast (env' := [qZcj, (3, .int .i64 0)]) (h' := (qZca v9 v10)) (StC.mk (phi [(2, some 2)]) (.o rfl (.i4 .nil) .nil) rfl (.cons (.r rfl) (.cons .im .nil))) ?_
 refine AW.ret ?_
 try simp only [Ex.then, Ex.inBlock, Ex.noGoto, Ex.jump, reduceIte, Nat.reduceEqDiff, reduceCtorEq]
 refine Done.gen rfl (.cell rfl (by kernel_rfl) (.tmp .nil)) ?_
 show _ = _
 kernel_rfl
def f_R25_sameRows_b1 (t0 : List (List Bool)) (t1 : List (List Bool)) (loop3 : (Int) → Option Bool) (v2 : Int) (loop9 : (Int) → Option Bool) (v8 : Int) : Option Bool :=
 cond (decide (v8 < ((t0.getD v2.toNat []).length : Int))) (
  G (0 ≤ v8 ∧ v8 < ((t0.getD v2.toNat []).length : Int)) <|
  G (0 ≤ v8 ∧ v8 < ((t1.getD v2.toNat []).length : Int)) <|
  cond (((t0.getD v2.toNat []).getD v8.toNat false) != ((t1.getD v2.toNat []).getD v8.toNat false)) (
   some false) (
   G (inR (v8 + 1)) <|
   loop9 (v8 + 1))) (
  G (inR (v2 + 1)) <|
  loop3 (v2 + 1))
def f_R25_sameRows_b2 (t0 : List (List Bool)) (t1 : List (List Bool)) (loop3 : (Int) → Option Bool) (v2 : Int) : Option Bool :=
 cond (decide (v2 < (t0.length : Int))) (
  G (0 ≤ v2 ∧ v2 < (t0.length : Int)) <|
  G (0 ≤ v2 ∧ v2 < (t1.length : Int)) <|
  cond (((t0.getD v2.toNat []).length : Int) != ((t1.getD v2.toNat []).length : Int)) (
   some false) (
   iter (fun loop (s : Int) => f_R25_sameRows_b1 t0 t1 loop3 v2 loop s) 1000000 (0 : Int))) (
  some true)
def f_R25_sameRows (t0 : List (List Bool)) (t1 : List (List Bool)) : Option Bool :=
 cond ((t0.length : Int) != (t1.length : Int)) (
  some false) (
  iter (fun loop (s : Int) => f_R25_sameRows_b2 t0 t1 loop s) 1000000 (0 : Int))
section
variable (t0 : List (List Bool)) (t1 : List (List Bool)) (v2 : Int) (v8 : Int)
abbrev qZcv := ((t0.getD v2.toNat []).length : Int)
abbrev qZcw := t1.getD v2.toNat []
abbrev qZcx := (t0.getD v2.toNat []).getD v8.toNat false
abbrev qZcy := (qZcw t1 v2).getD v8.toNat false
abbrev qZcz := (t0.length : Int)
abbrev qZd0 := ((qZcw t1 v2).length : Int)
abbrev qZd1 := t0.getD v2.toNat []
abbrev qZco : Env := [(43, .ipt ((qZd1 t0 v2).flatMap eB) (v8.toNat * 1)), (42, .int .i64 v8), (41, slA eB (qZd1 t0 v2)), (40, .ipt (t0.flatMap (eL eB)) (v2.toNat * 1)), (39, .int .i64 v2), (38, slA (eL eB) t0), (35, .bool (decide (v8 < (qZcv t0 v2)))), (0, slA (eL eB) t0), (1, slA (eL eB) t1), (5, .int .i64 v2), (6, .int .i64 v8)]
abbrev qZcp : Env := [(25, .ipt (t1.flatMap (eL eB)) (v2.toNat * 1)), (24, .int .i64 v2), (23, slA (eL eB) t1), (22, .int .i64 (qZcv t0 v2)), (21, slA eB (qZd1 t0 v2)), (20, .ipt (t0.flatMap (eL eB)) (v2.toNat * 1)), (19, .int .i64 v2), (18, slA (eL eB) t0), (15, .bool (decide (v2 < (qZcz t0)))), (0, slA (eL eB) t0), (1, slA (eL eB) t1), (5, .int .i64 v2)]
abbrev qZcq : Env := (47, .ipt (t1.flatMap (eL eB)) (v2.toNat * 1)) :: (46, .int .i64 v2) :: (45, slA (eL eB) t1) :: (44, .bool (qZcx t0 v2 v8)) :: (qZco t0 t1 v2 v8)
abbrev qZcr : Env := [(0, slA (eL eB) t0), (1, slA (eL eB) t1), (5, .int .i64 v2), (6, .int .i64 v8)]
abbrev qZcs : Env := [(0, slA (eL eB) t0), (1, slA (eL eB) t1), (5, .int .i64 v2)]
abbrev qZct : Env := (50, .ipt ((qZcw t1 v2).flatMap eB) (v8.toNat * 1)) :: (49, .int .i64 v8) :: (48, slA eB (qZcw t1 v2)) :: (qZcq t0 t1 v2 v8)
abbrev qZcu : Env := [(0, slA (eL eB) t0), (1, slA (eL eB) t1)]
end
theorem f_R25_sameRows_ok  {t0 : List (List Bool)} {t1 : List (List Bool)} {r : Bool} (H : f_R25_sameRows t0 t1 = some r) : QSpec Tryd.prog 36 [slA (eL eB) t0, slA (eL eB) t1] (.bool r) := by
 refine Spec.of_AW Tryd.func36 rfl (by simp [Tryd.ntmps36]) ?_
 rw [Tryd.ntmps36]
 unfold f_R25_sameRows at H
 change AW _ _ _ (qZcu t0 t1) [] _
 refine AW.regionSeq (OpsW.sg 1 [0, 1] (qZcu t0 t1) ?_)
 refine OpsW.nil (AW.seq (AW.regionSeq (OpsW.sg 5 [11, 0, 1] ((11, .bool ((qZcz t0) != (t1.length : Int))) :: (qZcu t0 t1)) ?_)))
 refine OpsW.nil (AW.cond (b := (qZcz t0) != (t1.length : Int)) rfl (fun c1 => ?_) (fun c1 => ?_))
 ·replace H := condT c1 H
  refine AW.regionSeq (OpsW.sg 1 [4] [(4, .bool false)] ?_)
  refine OpsW.nil ?_
  obtain rfl := Option.some.inj H
  refine AW.recast (env' := [(4, .bool false)]) (h' := []) (StC.pure (.cons .im .nil)) ?_
  refine AW.ret ?_
  try simp only [Ex.then, Ex.inBlock, Ex.noGoto, Ex.jump, reduceIte, Nat.reduceEqDiff, reduceCtorEq]
  refine Done.gen rfl (.tmp .nil) ?_
  show _ = _
  kernel_rfl
 replace H := condF c1 H
 refine AW.skip (AW.seq (AW.regionSeq (OpsW.sg 1 [5, 0, 1] ((5, .int .i64 0) :: (qZcu t0 t1)) ?_)))
 refine OpsW.nil (AW.block ?_)
 refine AW.iterK (fun loop (s : Int) => f_R25_sameRows_b2 t0 t1 loop s) r (fun (s : Int) => [(0, slA (eL eB) t0), (1, slA (eL eB) t1), (5, .int .i64 s)]) (fun (s : Int) => []) ?_ 1000000 (0 : Int) H (StC.pure (.i3 .nil))
 intro loop3 v2 H
 change f_R25_sameRows_b2 t0 t1 loop3 v2 = some r at H
 unfold f_R25_sameRows_b2 at H
 change AW _ _ _ (qZcs t0 t1 v2) [] _
 refine AW.seq (AW.regionSeq (OpsW.sg 4 [15, 0, 1, 5] ((15, .bool (decide (v2 < (qZcz t0)))) :: (qZcs t0 t1 v2)) ?_))
 refine OpsW.nil (AW.cond (b := decide (v2 < (qZcz t0))) rfl (fun c4 => ?_) (fun c4 => ?_))
 ·replace H := condT c4 H
  refine AW.skip (AW.seq (AW.block (AW.seq (AW.drawSeq Tryd.checked.mixed (by kernel_rfl) ?_))))
  obtain ⟨g5, H⟩ := G_some H
  refine QOps.seg (N := 53) 3 [0 ≤ v2 ∧ v2 < (qZcz t0)] ((20, .ipt (t0.flatMap (eL eB)) (v2.toNat * 1)) :: (19, .int .i64 v2) :: (18, slA (eL eB) t0) :: (15, .bool (decide (v2 < (qZcz t0)))) :: (qZcs t0 t1 v2)) (by kernel_rfl) ⟨g5, trivial⟩ ?_
  refine QOps.asU (slA eB (qZd1 t0 v2)) rfl (T.load rfl trivial (by kernel_rfl) (fm_cell0 (eL eB) 1 (fun _ => rfl) t0 [] v2.toNat (ltN g5) (fun a => .sl (a.flatMap eB) a.length) (fun _ => rfl))) ?_
  obtain ⟨g6, H⟩ := G_some H
  refine QOps.seg (N := 53) 4 [0 ≤ v2 ∧ v2 < (t1.length : Int)] (qZcp t0 t1 v2) (by kernel_rfl) ⟨g6, trivial⟩ ?_
  refine QOps.asU (slA eB (qZcw t1 v2)) rfl (T.load rfl trivial (by kernel_rfl) (fm_cell0 (eL eB) 1 (fun _ => rfl) t1 [] v2.toNat (ltN g6) (fun a => .sl (a.flatMap eB) a.length) (fun _ => rfl))) ?_
  refine QOps.seg (N := 53) 2 [] ((28, .bool ((qZcv t0 v2) != (qZd0 t1 v2))) :: (27, .int .i64 (qZd0 t1 v2)) :: (26, slA eB (qZcw t1 v2)) :: (qZcp t0 t1 v2)) (by kernel_rfl) trivial ?_
  refine QOps.nil (AW.trim [28, 0, 1, 5] ((28, .bool ((qZcv t0 v2) != (qZd0 t1 v2))) :: (qZcs t0 t1 v2)) (by kernel_rfl) ?_)
  refine AW.cond (b := (qZcv t0 v2) != (qZd0 t1 v2)) rfl (fun c7 => ?_) (fun c7 => ?_)
  ·replace H := condT c7 H
   refine AW.regionSeq (OpsW.sg 1 [4] [(4, .bool false)] ?_)
   refine OpsW.nil ?_
   obtain rfl := Option.some.inj H
   refine AW.recast (env' := [(4, .bool false)]) (h' := []) (StC.pure (.cons .im .nil)) ?_
   refine AW.ret ?_
   try simp only [Ex.then, Ex.inBlock, Ex.noGoto, Ex.jump, reduceIte, Nat.reduceEqDiff, reduceCtorEq]
   refine Done.gen rfl (.tmp .nil) ?_
   show _ = _
   kernel_rfl
  replace H := condF c7 H
  refine AW.skip (AW.regionSeq (OpsW.sg 1 [6, 0, 1, 5] ((6, .int .i64 0) :: (qZcs t0 t1 v2)) ?_))
  refine OpsW.nil (AW.block ?_)
  refine AW.iterK (fun loop (s : Int) => f_R25_sameRows_b1 t0 t1 loop3 v2 loop s) r (fun (s : Int) => [(0, slA (eL eB) t0), (1, slA (eL eB) t1), (5, .int .i64 v2), (6, .int .i64 s)]) (fun (s : Int) => []) ?_ 1000000 (0 : Int) H (StC.pure (.i4 .nil))
  intro loop9 v8 H
  change f_R25_sameRows_b1 t0 t1 loop3 v2 loop9 v8 = some r at H
  unfold f_R25_sameRows_b1 at H
  change AW _ _ _ (qZcr t0 t1 v2 v8) [] _
  refine AW.seq (AW.regionSeq (OpsW.sq 4 [32, 29, 0, 1, 5, 6] [0 ≤ v2 ∧ v2 < (qZcz t0)] ((32, .ipt (t0.flatMap (eL eB)) (v2.toNat * 1)) :: (29, .int .i64 v8) :: (qZcr t0 t1 v2 v8)) ⟨g5, trivial⟩ ?_))
  refine OpsW.asU (slA eB (qZd1 t0 v2)) rfl rfl (T.load rfl trivial (by kernel_rfl) (fm_cell0 (eL eB) 1 (fun _ => rfl) t0 [] v2.toNat (ltN g5) (fun a => .sl (a.flatMap eB) a.length) (fun _ => rfl))) ?_
  refine OpsW.sg 2 [35, 0, 1, 5, 6] ((35, .bool (decide (v8 < (qZcv t0 v2)))) :: (qZcr t0 t1 v2 v8)) ?_
  refine OpsW.nil (AW.cond (b := decide (v8 < (qZcv t0 v2))) rfl (fun c10 => ?_) (fun c10 => ?_))
  ·replace H := condT c10 H
   refine AW.skip (AW.seq (AW.block (AW.drawSeq Tryd.checked.mixed (by kernel_rfl) ?_)))
   refine QOps.seg (N := 53) 3 [0 ≤ v2 ∧ v2 < (qZcz t0)] ((40, .ipt (t0.flatMap (eL eB)) (v2.toNat * 1)) :: (39, .int .i64 v2) :: (38, slA (eL eB) t0) :: (35, .bool (decide (v8 < (qZcv t0 v2)))) :: (qZcr t0 t1 v2 v8)) (by kernel_rfl) ⟨g5, trivial⟩ ?_
   refine QOps.asU (slA eB (qZd1 t0 v2)) rfl (T.load rfl trivial (by kernel_rfl) (fm_cell0 (eL eB) 1 (fun _ => rfl) t0 [] v2.toNat (ltN g5) (fun a => .sl (a.flatMap eB) a.length) (fun _ => rfl))) ?_
   obtain ⟨g11, H⟩ := G_some H
   refine QOps.seg (N := 53) 2 [0 ≤ v8 ∧ v8 < (qZcv t0 v2)] (qZco t0 t1 v2 v8) (by kernel_rfl) ⟨g11, trivial⟩ ?_
   refine QOps.asU (.bool (qZcx t0 v2 v8)) rfl (T.load rfl trivial (by kernel_rfl) (fm_cell0 eB 1 (fun _ => rfl) (qZd1 t0 v2) false v8.toNat (ltN g11) (fun a => .val (.bool a)) (fun _ => rfl))) ?_
   refine QOps.seg (N := 53) 3 [0 ≤ v2 ∧ v2 < (t1.length : Int)] (qZcq t0 t1 v2 v8) (by kernel_rfl) ⟨g6, trivial⟩ ?_
   refine QOps.asU (slA eB (qZcw t1 v2)) rfl (T.load rfl trivial (by kernel_rfl) (fm_cell0 (eL eB) 1 (fun _ => rfl) t1 [] v2.toNat (ltN g6) (fun a => .sl (a.flatMap eB) a.length) (fun _ => rfl))) ?_
   obtain ⟨g12, H⟩ := G_some H
   refine QOps.seg (N := 53) 2 [0 ≤ v8 ∧ v8 < (qZd0 t1 v2)] (qZct t0 t1 v2 v8) (by kernel_rfl) ⟨g12, trivial⟩ ?_
   refine QOps.asU (.bool (qZcy t1 v2 v8)) rfl (T.load rfl trivial (by kernel_rfl) (fm_cell0 eB 1 (fun _ => rfl) (qZcw t1 v2) false v8.toNat (ltN g12) (fun a => .val (.bool a)) (fun _ => rfl))) ?_
   refine QOps.seg (N := 53) 1 [] ((52, .bool ((qZcx t0 v2 v8) != (qZcy t1 v2 v8))) :: (51, .bool (qZcy t1 v2 v8)) :: (qZct t0 t1 v2 v8)) (by kernel_rfl) trivial ?_
   refine QOps.nil (AW.trim [52, 0, 1, 5, 6] ((52, .bool ((qZcx t0 v2 v8) != (qZcy t1 v2 v8))) :: (qZcr t0 t1 v2 v8)) (by kernel_rfl) ?_)
   refine AW.cond (b := (qZcx t0 v2 v8) != (qZcy t1 v2 v8)) rfl (fun c13 => ?_) (fun c13 => ?_)
   ·replace H := condT c13 H
    refine AW.regionSeq (OpsW.sg 1 [4] [(4, .bool false)] ?_)
    refine OpsW.nil ?_
    obtain rfl := Option.some.inj H
    refine AW.recast (env' := [(4, .bool false)]) (h' := []) (StC.pure (.cons .im .nil)) ?_
    refine AW.ret ?_
    try simp only [Ex.then, Ex.inBlock, Ex.noGoto, Ex.jump, reduceIte, Nat.reduceEqDiff, reduceCtorEq]
    refine Done.gen rfl (.tmp .nil) ?_
    show _ = _
    kernel_rfl
   replace H := condF c13 H
   refine AW.skip (AW.region ?_)
   obtain ⟨g14, H⟩ := G_some H
   refine OpsW.sq 3 [6, 0, 1, 5] [inR (v8 + 1)] ((6, .int .i64 (v8 + 1)) :: (qZcs t0 t1 v2)) ⟨g14, trivial⟩ ?_
   refine OpsW.nil ?_
   show ∃ y, _ ∧ StC _ _ _ _
   exact ⟨v8 + 1, H, (StC.pure (.i4 .nil))⟩
  replace H := condF c10 H
  refine AW.exit ?_
  refine AW.region ?_
  obtain ⟨g15, H⟩ := G_some H
  refine OpsW.sq 3 [5, 0, 1] [inR (v2 + 1)] ((5, .int .i64 (v2 + 1)) :: (qZcu t0 t1)) ⟨g15, trivial⟩ ?_
  refine OpsW.nil ?_
  show ∃ y, _ ∧ StC _ _ _ _
  exact ⟨v2 + 1, H, (StC.pure (.i3 .nil))⟩
 replace H := condF c4 H
 refine AW.exit ?_
 refine AW.regionSeq (OpsW.sg 1 [4] [(4, .bool true)] ?_)
 refine OpsW.nil ?_
 obtain rfl := Option.some.inj H
 refine AW.recast (env' := [(4, .bool true)]) (h' := []) (StC.pure (.cons .im .nil)) ?_
 refine AW.ret ?_
 try simp only [Ex.then, Ex.inBlock, Ex.noGoto, Ex.jump, reduceIte, Nat.reduceEqDiff, reduceCtorEq]
 refine Done.gen rfl (.tmp .nil) ?_
 show _ = _
 kernel_rfl
def f_R25_Equal (t0 : S_Plate) (t1 : S_Plate) : Option Bool :=
 (cond (cond (t0.W == t1.W) (t0.H == t1.H) false) (f_R25_sameRows t0.Up t1.Up) (some false)).bind fun x1 =>
 (cond (cond (cond (t0.W == t1.W) (t0.H == t1.H) false) x1 false) (f_R25_sameRows t0.Down t1.Down) (some false)).bind fun x2 =>
 some (cond (cond (cond (t0.W == t1.W) (t0.H == t1.H) false) x1 false) x2 false)
section
variable (t0 : S_Plate) (t1 : S_Plate) (x1 : Bool)
abbrev qZd3 := cond (t0.W == t1.W) (t0.H == t1.H) false
abbrev qZd4 := cond (qZd3 t0 t1) x1 false
abbrev qZd5 : List AV := [.int .i64 t0.W, .int .i64 t0.H, slA (eL eB) t0.Up, slA (eL eB) t0.Down]
abbrev qZd6 : List AV := [.int .i64 t1.W, .int .i64 t1.H, slA (eL eB) t1.Up, slA (eL eB) t1.Down]
abbrev qZd2 : Hp := [(2, ⟨0, true, 47, 4, (qZd5 t0)⟩)]
end
theorem f_R25_Equal_ok  {t0 : S_Plate} {t1 : S_Plate} {r : Bool} (H : f_R25_Equal t0 t1 = some r) : QSpec Tryd.prog 14 [.agg [.int .i64 t0.W, .int .i64 t0.H, slA (eL eB) t0.Up, slA (eL eB) t0.Down], .agg [.int .i64 t1.W, .int .i64 t1.H, slA (eL eB) t1.Up, slA (eL eB) t1.Down]] (.bool r) := by
 refine Spec.of_AW Tryd.func14 rfl (by simp [Tryd.ntmps14]) ?_
 rw [Tryd.ntmps14]
 unfold f_R25_Equal at H
 change AW _ _ _ [(0, .agg (qZd5 t0)), (1, .agg (qZd6 t1))] [] _
 refine AW.regionSeq (OpsW.box rfl rfl rfl 2 rfl (okCb_sound (by kernel_rfl)) ?_)
 change OpsW _ _ _ _ _ (qZd2 t0) _
 refine OpsW.box rfl rfl rfl 3 rfl (okCb_sound (by kernel_rfl)) ?_
 change OpsW _ _ _ _ _ ((3, ⟨0, true, 47, 4, (qZd6 t1)⟩) :: (qZd2 t0)) _
 refine OpsW.sg 1 [3, 2] [(3, .ref 3 0 0), (2, .ref 2 0 0)] ?_
 refine OpsW.recast (env' := [(3, .ref 3 0 0), (2, .ref 2 0 0)]) (h' := [(2, ⟨0, true, 47, 4, (qZd5 t0)⟩), (3, ⟨0, true, 47, 4, (qZd6 t1)⟩)]) (StC.mk (phi [(2, some 2), (3, some 3)]) (.o rfl (.i4 .nil) (.o rfl (.i4 .nil) .nil)) rfl (.cons (.r rfl) (.cons (.r rfl) .nil))) ?_
 refine OpsW.nil (AW.regionSeq (OpsW.sq 17 [21, 19, 17, 3, 2] [(t0.W == t1.W) = true → (t0.W == t1.W) = true, (t0.W == t1.W) = true → (t0.W == t1.W) = true, (t0.W == t1.W) = true → (t0.W == t1.W) = true, (t0.W == t1.W) = true → (t0.W == t1.W) = true, (t0.W == t1.W) = true → (t0.W == t1.W) = true, (qZd3 t0 t1) = true → (qZd3 t0 t1) = true, (qZd3 t0 t1) = true → (qZd3 t0 t1) = true] [(21, .cnd (qZd3 t0 t1) (slA (eL eB) t1.Up)), (19, .cnd (qZd3 t0 t1) (slA (eL eB) t0.Up)), (17, .bool (qZd3 t0 t1)), (3, .ref 3 0 0), (2, .ref 2 0 0)] ⟨(fun h => h), (fun h => h), (fun h => h), (fun h => h), (fun h => by first | exact h | (simpa using h) | grind), (fun h => h), (fun h => h), trivial⟩ ?_))
 obtain ⟨x1, hx1, H⟩ := bindS H
 refine OpsW.gcall (c := cond (t0.W == t1.W) (t0.H == t1.H) false) (r := .bool x1) [] rfl (by kernel_rfl) rfl rfl rfl rfl (fun hc => ⟨glAll_sound ⟨hc, hc, trivial⟩, (.cons (.pur rfl) (.cons (.pur rfl) .nil)), f_R25_sameRows_ok (condT hc hx1), .inl ⟨rfl, rfl⟩⟩) ?_
 refine OpsW.sq 6 [28, 26, 24] [(qZd3 t0 t1) = true → (qZd3 t0 t1) = true, (qZd4 t0 t1 x1) = true → (qZd4 t0 t1 x1) = true, (qZd4 t0 t1 x1) = true → (qZd4 t0 t1 x1) = true] [(28, .cnd (qZd4 t0 t1 x1) (slA (eL eB) t1.Down)), (26, .cnd (qZd4 t0 t1 x1) (slA (eL eB) t0.Down)), (24, .bool (qZd4 t0 t1 x1))] ⟨(fun h => by first | exact h | (simpa using h) | grind), (fun h => h), (fun h => h), trivial⟩ ?_
 obtain ⟨x2, hx2, H⟩ := bindS H
 refine OpsW.gcall (c := cond (qZd3 t0 t1) x1 false) (r := .bool x2) [] rfl (by kernel_rfl) rfl rfl rfl rfl (fun hc => ⟨glAll_sound ⟨hc, hc, trivial⟩, (.cons (.pur rfl) (.cons (.pur rfl) .nil)), f_R25_sameRows_ok (condT hc hx2), .inl ⟨rfl, rfl⟩⟩) ?_
 refine OpsW.sq 2 [4] [(qZd4 t0 t1 x1) = true → (qZd4 t0 t1 x1) = true] [(4, .bool (cond (qZd4 t0 t1 x1) x2 false))] ⟨(fun h => by first | exact h | (simpa using h) | grind), trivial⟩ ?_
 refine OpsW.nil ?_
 obtain rfl := Option.some.inj H
 refine AW.recast (env' := [(4, .bool (cond (qZd4 t0 t1 x1) x2 false))]) (h' := []) (StC.pure (.cons .im .nil)) ?_
 refine AW.ret ?_
 refine Done.gen rfl (.tmp .nil) ?_
 show _ = _
 kernel_rfl
def f_slices_Equal_bool_b1 (t0 : List Bool) (t1 : List Bool) (loop3 : (Int) → Option Bool) (v2 : Int) : Option Bool :=
 cond (decide (v2 < (t0.length : Int))) (
  G (0 ≤ v2 ∧ v2 < (t0.length : Int)) <|
  G (0 ≤ v2 ∧ v2 < (t1.length : Int)) <|
  cond ((t0.getD v2.toNat false) != (t1.getD v2.toNat false)) (
   some false) (
   G (inR (v2 + 1)) <|
   loop3 (v2 + 1))) (
  some true)
def f_slices_Equal_bool (t0 : List Bool) (t1 : List Bool) : Option Bool :=
 cond ((t0.length : Int) != (t1.length : Int)) (
  some false) (
  iter (fun loop (s : Int) => f_slices_Equal_bool_b1 t0 t1 loop s) 1000000 (0 : Int))
section
variable (t0 : List Bool) (t1 : List Bool) (v2 : Int)
abbrev qZd9 := (t0.length : Int)
abbrev qZd7 : Env := [(0, slA eB t0), (1, slA eB t1), (12, .int .i64 (qZd9 t0)), (13, .int .i64 v2)]
abbrev qZd8 : Env := (22, .ipt (t1.flatMap eB) (v2.toNat * 1)) :: (21, .int .i64 v2) :: (20, slA eB t1) :: (19, .bool (t0.getD v2.toNat false)) :: (18, .ipt (t0.flatMap eB) (v2.toNat * 1)) :: (17, .int .i64 v2) :: (16, slA eB t0) :: (5, .int .i64 v2) :: (qZd7 t0 t1 v2)
end
theorem f_slices_Equal_bool_ok  {t0 : List Bool} {t1 : List Bool} {r : Bool} (H : f_slices_Equal_bool t0 t1 = some r) : QSpec Tryd.prog 59 [slA eB t0, slA eB t1] (.bool r) := by
 refine Spec.of_AW Tryd.func59 rfl (by simp [Tryd.ntmps59]) ?_
 rw [Tryd.ntmps59]
 unfold f_slices_Equal_bool at H
 change AW _ _ _ [(0, slA eB t0), (1, slA eB t1)] [] _
 refine AW.regionSeq (OpsW.sg 1 [0, 1] [(0, slA eB t0), (1, slA eB t1)] ?_)
 refine OpsW.nil (AW.seq (AW.regionSeq (OpsW.sg 5 [10, 0, 1] [(10, .bool ((qZd9 t0) != (t1.length : Int))), (0, slA eB t0), (1, slA eB t1)] ?_)))
 refine OpsW.nil (AW.cond (b := (qZd9 t0) != (t1.length : Int)) rfl (fun c1 => ?_) (fun c1 => ?_))
 ·replace H := condT c1 H
  refine AW.regionSeq (OpsW.sg 1 [4] [(4, .bool false)] ?_)
  refine OpsW.nil ?_
  obtain rfl := Option.some.inj H
  refine AW.recast (env' := [(4, .bool false)]) (h' := []) (StC.pure (.cons .im .nil)) ?_
  refine AW.ret ?_
  try simp only [Ex.then, Ex.inBlock, Ex.noGoto, Ex.jump, reduceIte, Nat.reduceEqDiff, reduceCtorEq]
  refine Done.gen rfl (.tmp .nil) ?_
  show _ = _
  kernel_rfl
 replace H := condF c1 H
 refine AW.skip (AW.seq (AW.regionSeq (OpsW.sg 3 [13, 12, 0, 1] [(13, .int .i64 0), (12, .int .i64 (qZd9 t0)), (0, slA eB t0), (1, slA eB t1)] ?_)))
 refine OpsW.nil (AW.block ?_)
 refine AW.iterK (fun loop (s : Int) => f_slices_Equal_bool_b1 t0 t1 loop s) r (fun (s : Int) => [(0, slA eB t0), (1, slA eB t1), (12, .int .i64 (qZd9 t0)), (13, .int .i64 s)]) (fun (s : Int) => []) ?_ 1000000 (0 : Int) H (StC.pure (.i4 .nil))
 intro loop3 v2 H
 change f_slices_Equal_bool_b1 t0 t1 loop3 v2 = some r at H
 unfold f_slices_Equal_bool_b1 at H
 change AW _ _ _ (qZd7 t0 t1 v2) [] _
 refine AW.regionSeq (OpsW.sg 1 [14, 0, 1, 12, 13] ((14, .bool (decide (v2 < (qZd9 t0)))) :: (qZd7 t0 t1 v2)) ?_)
 refine OpsW.nil (AW.seq (AW.cond (b := decide (v2 < (qZd9 t0))) rfl (fun c4 => ?_) (fun c4 => ?_)))
 ·replace H := condT c4 H
  refine AW.skip (AW.seq (AW.block (AW.regionSeq (OpsW.sg 2 [5, 0, 1, 12, 13] ((5, .int .i64 v2) :: (qZd7 t0 t1 v2)) ?_))))
  refine OpsW.nil (AW.drawSeq Tryd.checked.mixed (by kernel_rfl) ?_)
  obtain ⟨g5, H⟩ := G_some H
  refine QOps.seg (N := 26) 3 [0 ≤ v2 ∧ v2 < (qZd9 t0)] ((18, .ipt (t0.flatMap eB) (v2.toNat * 1)) :: (17, .int .i64 v2) :: (16, slA eB t0) :: (5, .int .i64 v2) :: (qZd7 t0 t1 v2)) (by kernel_rfl) ⟨g5, trivial⟩ ?_
  refine QOps.asU (.bool (t0.getD v2.toNat false)) rfl (T.load rfl trivial (by kernel_rfl) (fm_cell0 eB 1 (fun _ => rfl) t0 false v2.toNat (ltN g5) (fun a => .val (.bool a)) (fun _ => rfl))) ?_
  obtain ⟨g6, H⟩ := G_some H
  refine QOps.seg (N := 26) 3 [0 ≤ v2 ∧ v2 < (t1.length : Int)] (qZd8 t0 t1 v2) (by kernel_rfl) ⟨g6, trivial⟩ ?_
  refine QOps.asU (.bool (t1.getD v2.toNat false)) rfl (T.load rfl trivial (by kernel_rfl) (fm_cell0 eB 1 (fun _ => rfl) t1 false v2.toNat (ltN g6) (fun a => .val (.bool a)) (fun _ => rfl))) ?_
  refine QOps.seg (N := 26) 1 [] ((24, .bool ((t0.getD v2.toNat false) != (t1.getD v2.toNat false))) :: (23, .bool (t1.getD v2.toNat false)) :: (qZd8 t0 t1 v2)) (by kernel_rfl) trivial ?_
  refine QOps.nil (AW.trim [24, 0, 1, 12, 13] ((24, .bool ((t0.getD v2.toNat false) != (t1.getD v2.toNat false))) :: (qZd7 t0 t1 v2)) (by kernel_rfl) ?_)
  refine AW.cond (b := (t0.getD v2.toNat false) != (t1.getD v2.toNat false)) rfl (fun c7 => ?_) (fun c7 => ?_)
  ·replace H := condT c7 H
   refine AW.regionSeq (OpsW.sg 1 [4] [(4, .bool false)] ?_)
   refine OpsW.nil ?_
   obtain rfl := Option.some.inj H
   refine AW.recast (env' := [(4, .bool false)]) (h' := []) (StC.pure (.cons .im .nil)) ?_
   refine AW.ret ?_
   try simp only [Ex.then, Ex.inBlock, Ex.noGoto, Ex.jump, reduceIte, Nat.reduceEqDiff, reduceCtorEq]
   refine Done.gen rfl (.tmp .nil) ?_
   show _ = _
   kernel_rfl
  replace H := condF c7 H
  refine AW.skip (AW.region ?_)
  obtain ⟨g8, H⟩ := G_some H
  refine OpsW.sq 2 [13, 0, 1, 12] [inR (v2 + 1)] [(13, .int .i64 (v2 + 1)), (0, slA eB t0), (1, slA eB t1), (12, .int .i64 (qZd9 t0))] ⟨g8, trivial⟩ ?_
  refine OpsW.nil ?_
  show ∃ y, _ ∧ StC _ _ _ _
  exact ⟨v2 + 1, H, (StC.pure (.i4 .nil))⟩
 replace H := condF c4 H
 refine AW.exit ?_
 refine AW.regionSeq (OpsW.sg 1 [4] [(4, .bool true)] ?_)
 refine OpsW.nil ?_
 obtain rfl := Option.some.inj H
 refine AW.recast (env' := [(4, .bool true)]) (h' := []) (StC.pure (.cons .im .nil)) ?_
 refine AW.ret ?_
 try simp only [Ex.then, Ex.inBlock, Ex.noGoto, Ex.jump, reduceIte, Nat.reduceEqDiff, reduceCtorEq]
 refine Done.gen rfl (.tmp .nil) ?_
 show _ = _
 kernel_rfl
def f_sheet_sameDots_1 (t0 : List Bool) (t1 : List Bool) : Option Bool :=
 (f_slices_Equal_bool t0 t1).bind fun x1 =>
 some x1
theorem f_sheet_sameDots_1_ok  {t0 : List Bool} {t1 : List Bool} {r : Bool} (H : f_sheet_sameDots_1 t0 t1 = some r) : QSpec Tryd.prog 58 [slA eB t0, slA eB t1] (.bool r) := by
 refine Spec.of_AW Tryd.func58 rfl (by simp [Tryd.ntmps58]) ?_
 rw [Tryd.ntmps58]
 unfold f_sheet_sameDots_1 at H
 change AW _ _ _ [(0, slA eB t0), (1, slA eB t1)] [] _
 refine AW.regionSeq (OpsW.sg 1 [0, 1] [(0, slA eB t0), (1, slA eB t1)] ?_)
 refine OpsW.nil (AW.regionSeq (OpsW.sg 2 [6, 5] [(6, slA eB t1), (5, slA eB t0)] ?_))
 obtain ⟨x1, hx1, H⟩ := bindS H
 refine OpsW.qcall rfl (by kernel_rfl) rfl rfl (glAll_sound trivial) (.cons (.pur rfl) (.cons (.pur rfl) .nil)) (f_slices_Equal_bool_ok hx1) rfl ?_
 refine OpsW.sg 1 [4] [(4, .bool x1)] ?_
 refine OpsW.nil ?_
 obtain rfl := Option.some.inj H
 refine AW.recast (env' := [(4, .bool x1)]) (h' := []) (StC.pure (.cons .im .nil)) ?_
 refine AW.ret ?_
 refine Done.gen rfl (.tmp .nil) ?_
 show _ = _
 kernel_rfl
end Go.Proofs.YtbcfmhoaocifoaaDoor
