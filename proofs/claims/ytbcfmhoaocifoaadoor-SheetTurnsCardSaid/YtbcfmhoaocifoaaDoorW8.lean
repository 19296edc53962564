/-
  Written by gen.py (own work): typed functions, and that the program computes them.
-/
import Derived.Test.YtbcfmhoaocifoaaDoorW7
set_option linter.unusedSimpArgs false
set_option linter.unusedVariables false
set_option maxRecDepth 100000
namespace Go.Proofs.YtbcfmhoaocifoaaDoor
open Go.Abs
def f_R25_Plate_k1 (loop8 : (S_Plate × S_Plate × Int) → Option S_Plate) (v7 : Int) (v10 : S_Plate) (v11 : S_Plate) : Option S_Plate :=
  G (inR (v7 + 1)) <|
  loop8 (v10, v11, v7 + 1)
def f_R25_Plate_b1 (t1 : List (List Int)) (loop8 : (S_Plate × S_Plate × Int) → Option S_Plate) (v5 : S_Plate) (v6 : S_Plate) (v7 : Int) : Option S_Plate :=
  cond (cond (decide (v7 < (t1.length : Int))) (decide (v7 < 40)) false) (
    G (0 ≤ v7 ∧ v7 < (t1.length : Int)) <|
    G (v6.H ≠ 0) <|
    G (v6.W ≠ 0) <|
    cond ((Int.tmod ((t1.getD v7.toNat (List.replicate 3 0)).getD 2 0) (2 : Int)) == 0) (
      G (0 ≤ (Int.tmod (IntKind.wrap .i64 ((t1.getD v7.toNat (List.replicate 3 0)).getD 1 0)) v6.H) ∧ (Int.tmod (IntKind.wrap .i64 ((t1.getD v7.toNat (List.replicate 3 0)).getD 1 0)) v6.H) < (v6.Up.length : Int)) <|
      G (0 ≤ (Int.tmod (IntKind.wrap .i64 ((t1.getD v7.toNat (List.replicate 3 0)).getD 0 0)) v6.W) ∧ (Int.tmod (IntKind.wrap .i64 ((t1.getD v7.toNat (List.replicate 3 0)).getD 0 0)) v6.W) < ((v6.Up.getD (Int.tmod (IntKind.wrap .i64 ((t1.getD v7.toNat (List.replicate 3 0)).getD 1 0)) v6.H).toNat []).length : Int)) <|
      f_R25_Plate_k1 loop8 v7 v5 (⟨v6.W, v6.H, v6.Up.set (Int.tmod (IntKind.wrap .i64 ((t1.getD v7.toNat (List.replicate 3 0)).getD 1 0)) v6.H).toNat ((v6.Up.getD (Int.tmod (IntKind.wrap .i64 ((t1.getD v7.toNat (List.replicate 3 0)).getD 1 0)) v6.H).toNat []).set (Int.tmod (IntKind.wrap .i64 ((t1.getD v7.toNat (List.replicate 3 0)).getD 0 0)) v6.W).toNat true), v6.Down⟩ : S_Plate)) (
      G (0 ≤ (Int.tmod (IntKind.wrap .i64 ((t1.getD v7.toNat (List.replicate 3 0)).getD 1 0)) v6.H) ∧ (Int.tmod (IntKind.wrap .i64 ((t1.getD v7.toNat (List.replicate 3 0)).getD 1 0)) v6.H) < (v6.Down.length : Int)) <|
      G (0 ≤ (Int.tmod (IntKind.wrap .i64 ((t1.getD v7.toNat (List.replicate 3 0)).getD 0 0)) v6.W) ∧ (Int.tmod (IntKind.wrap .i64 ((t1.getD v7.toNat (List.replicate 3 0)).getD 0 0)) v6.W) < ((v6.Down.getD (Int.tmod (IntKind.wrap .i64 ((t1.getD v7.toNat (List.replicate 3 0)).getD 1 0)) v6.H).toNat []).length : Int)) <|
      f_R25_Plate_k1 loop8 v7 v5 (⟨v6.W, v6.H, v6.Up, v6.Down.set (Int.tmod (IntKind.wrap .i64 ((t1.getD v7.toNat (List.replicate 3 0)).getD 1 0)) v6.H).toNat ((v6.Down.getD (Int.tmod (IntKind.wrap .i64 ((t1.getD v7.toNat (List.replicate 3 0)).getD 1 0)) v6.H).toNat []).set (Int.tmod (IntKind.wrap .i64 ((t1.getD v7.toNat (List.replicate 3 0)).getD 0 0)) v6.W).toNat true)⟩ : S_Plate))) (
    some v6)
def f_R25_Plate (t0 : S_Raw) (t1 : List (List Int)) : Option S_Plate :=
  (f_R25_Format t0).bind fun x1 =>
  G (inR (2 * x1.Width)) <|
  G (inR (3 * x1.Height)) <|
  (f_R25_Empty (2 * x1.Width) (3 * x1.Height)).bind fun x4 =>
  iter (fun loop (s : S_Plate × S_Plate × Int) => f_R25_Plate_b1 t1 loop s.1 s.2.1 s.2.2) 1000000 ((⟨(0 : Int), (0 : Int), [], []⟩ : S_Plate), x4, (0 : Int))
section
variable (t0 : S_Raw) (t1 : List (List Int)) (v5 : S_Plate) (v6 : S_Plate) (v7 : Int) (v10 : S_Plate) (v11 : S_Plate) (x1 : S_Format) (x4 : S_Plate)
abbrev qZlr := Int.tmod (IntKind.wrap .i64 ((t1.getD v7.toNat (List.replicate 3 0)).getD 1 0)) v6.H
abbrev qZls := Int.tmod (IntKind.wrap .i64 ((t1.getD v7.toNat (List.replicate 3 0)).getD 0 0)) v6.W
abbrev qZlt := (⟨v6.W, v6.H, v6.Up, v6.Down.set (qZlr t1 v6 v7).toNat ((v6.Down.getD (qZlr t1 v6 v7).toNat []).set (qZls t1 v6 v7).toNat true)⟩ : S_Plate)
abbrev qZlu := (⟨v6.W, v6.H, v6.Up.set (qZlr t1 v6 v7).toNat ((v6.Up.getD (qZlr t1 v6 v7).toNat []).set (qZls t1 v6 v7).toNat true), v6.Down⟩ : S_Plate)
abbrev qZlv : List AV := [.int .u8 t0.W, .int .u8 t0.H, slA (eL (eI .u8)) t0.Front, slA (eL (eI .u8)) t0.Back, .int .u8 t0.Head.Width, .int .u16 t0.Head.N, .int .u8 t0.Head.K, .bool t0.Head.Back, .int .u16 t0.Head.Ink, .int .u8 t0.Head.Part]
abbrev qZlw := v6.Down.set (qZlr t1 v6 v7).toNat ((v6.Down.getD (qZlr t1 v6 v7).toNat []).set (qZls t1 v6 v7).toNat true)
abbrev qZlx := [fmA 15060 4 1 eB (v6.Up.set (qZlr t1 v6 v7).toNat ((v6.Up.getD (qZlr t1 v6 v7).toNat []).set (qZls t1 v6 v7).toNat true)), fmA 15061 4 1 eB v6.Down]
abbrev qZly := [fmA 15060 4 1 eB v6.Up, fmA 15061 4 1 eB v6.Down]
abbrev qZlz : List AV := [.int .i64 v5.W, .int .i64 v5.H, slA (eL eB) v5.Up, slA (eL eB) v5.Down]
abbrev qZm0 : List AV := [.int .i64 0, .int .i64 0, .im (.val (.slice none 0 0)), .im (.val (.slice none 0 0))]
abbrev qZm1 := t1.getD v7.toNat (List.replicate 3 0)
abbrev qZm2 := [fmA 15060 4 1 eB v6.Up, fmA 15061 4 1 eB (qZlw t1 v6 v7)]
abbrev qZm3 := [fmA 10601 4 1 eB x4.Up, fmA 10602 4 1 eB x4.Down]
abbrev qZm4 : List AV := [.int .i64 v6.W, .int .i64 v6.H, .rsl 5060 0 0 v6.Up.length, .rsl 5061 0 0 v6.Down.length]
abbrev qZm5 := (⟨(0 : Int), (0 : Int), [], []⟩ : S_Plate)
abbrev qZm6 := (decide (v7 < (t1.length : Int)))
abbrev qZm7 := [fmA 15060 4 1 eB x4.Up, fmA 15061 4 1 eB x4.Down]
abbrev qZm8 := v6.Up.set (qZlr t1 v6 v7).toNat ((v6.Up.getD (qZlr t1 v6 v7).toNat []).set (qZls t1 v6 v7).toNat true)
abbrev qZm9 := [fmA 15060 4 1 eB v11.Up, fmA 15061 4 1 eB v11.Down]
abbrev qZma := [fmA 15040 4 1 eB v6.Up, fmA 15041 4 1 eB v6.Down]
abbrev qZmb : Nat × AV := (4, .ref 4 0 0)
abbrev qZmc : List AV := [.int .i64 x4.W, .int .i64 x4.H, .rsl 5060 0 0 x4.Up.length, .rsl 5061 0 0 x4.Down.length]
abbrev qZmd : List AV := [.int .i64 x4.W, .int .i64 x4.H, .rsl 1500 0 0 x4.Up.length, .rsl 1501 0 0 x4.Down.length]
abbrev qZme : List AV := [.int .i64 x4.W, .int .i64 x4.H, .rsl 601 0 0 x4.Up.length, .rsl 602 0 0 x4.Down.length]
abbrev qZmf := fid 15061 (qZlr t1 v6 v7).toNat
abbrev qZmg := fid 15060 (qZlr t1 v6 v7).toNat
abbrev qZl0 : Hp := [(4, ⟨0, true, 47, 4, (qZlz v5)⟩), (6, ⟨0, true, 47, 4, [.int .i64 v6.W, .int .i64 v6.H, .rsl 5060 0 0 v6.Up.length, .rsl 5061 0 0 ((qZlw t1 v6 v7).length)]⟩), (5060, nsA 0 61 15060 v6.Up), (5061, nsA 0 61 15061 (qZlw t1 v6 v7))]
abbrev qZl1 : Hp := [(4, ⟨0, true, 47, 4, (qZlz v5)⟩), (6, ⟨0, true, 47, 4, [.int .i64 v6.W, .int .i64 v6.H, .rsl 5060 0 0 ((qZm8 t1 v6 v7).length), .rsl 5061 0 0 v6.Down.length]⟩), (5060, nsA 0 61 15060 (qZm8 t1 v6 v7)), (5061, nsA 0 61 15061 v6.Down)]
abbrev qZl2 : Hp := [(4, ⟨0, true, 47, 4, (qZlz v5)⟩), (6, ⟨0, true, 47, 4, (qZm4 v6)⟩), (5060, nsA 0 61 15060 v6.Up), (5061, nsA 0 61 15061 v6.Down)]
abbrev qZl3 : Env := [(1, slA eA65 t1), qZmb, (6, .ref 6 0 0), (7, .int .i64 v7)]
abbrev qZl4 : Hp := [(4, ⟨0, true, 47, 4, qZm0⟩), (5, ⟨0, true, 32, 3, [.int .i64 x1.Width, .int .i64 x1.Height, .int .i64 x1.Binding]⟩)]
abbrev qZl5 : Env := (66, .int .i64 (qZls t1 v6 v7)) :: (65, .rsl (qZmf t1 v6 v7) 0 0 ((v6.Down.getD (qZlr t1 v6 v7).toNat []).length)) :: (qZl3 t1 v7)
abbrev qZl6 : Env := (59, .int .i64 (qZls t1 v6 v7)) :: (58, .rsl (qZmg t1 v6 v7) 0 0 ((v6.Up.getD (qZlr t1 v6 v7).toNat []).length)) :: (qZl3 t1 v7)
abbrev qZl7 : Hp := [(4, ⟨0, true, 47, 4, qZm0⟩), (6, ⟨0, true, 47, 4, (qZmc x4)⟩), (5060, nsA 0 61 15060 x4.Up), (5061, nsA 0 61 15061 x4.Down)]
abbrev qZl8 : Hp := [(4, ⟨0, true, 47, 4, [.int .i64 v10.W, .int .i64 v10.H, slA (eL eB) v10.Up, slA (eL eB) v10.Down]⟩), (6, ⟨0, true, 47, 4, [.int .i64 v11.W, .int .i64 v11.H, .rsl 5060 0 0 v11.Up.length, .rsl 5061 0 0 v11.Down.length]⟩), (5060, nsA 0 61 15060 v11.Up), (5061, nsA 0 61 15061 v11.Down)]
abbrev qZl9 : Env := (8, .int .i64 (qZlr t1 v6 v7)) :: (qZl3 t1 v7)
abbrev qZla : Hp := [(2, ⟨0, true, 27, 10, (qZlv t0)⟩), (4, ⟨0, true, 47, 4, qZm0⟩)]
abbrev qZlb : Hp := [(4, ⟨0, true, 47, 4, [.int .i64 v6.W, .int .i64 v6.H, .rsl 5040 0 0 v6.Up.length, .rsl 5041 0 0 v6.Down.length]⟩), (5040, nsA 0 61 15040 v6.Up), (5041, nsA 0 61 15041 v6.Down)]
abbrev qZlc : Hp := (6, ⟨0, true, 47, 4, (qZme x4)⟩) :: (6, ⟨0, true, 47, 4, qZm0⟩) :: (601, nsA 0 61 10601 x4.Up) :: (602, nsA 0 61 10602 x4.Down) :: (qZl4 x1)
abbrev qZld : Env := [(17, .int .i64 (3 * x1.Height)), (14, .int .i64 (2 * x1.Width)), qZmb, (1, slA eA65 t1)]
abbrev qZle : Env := (60, .ref (qZmg t1 v6 v7) 0 (0 + (qZls t1 v6 v7).toNat * 1)) :: (qZl6 t1 v6 v7)
abbrev qZlf : Env := (67, .ref (qZmf t1 v6 v7) 0 (0 + (qZls t1 v6 v7).toNat * 1)) :: (qZl5 t1 v6 v7)
abbrev qZlg : Env := (32, .ipt (t1.flatMap eA65) (v7.toNat * 3 + 1)) :: (31, .ipt (t1.flatMap eA65) (v7.toNat * 3)) :: (30, .int .i64 v7) :: (29, slA eA65 t1) :: (26, .bool (cond (qZm6 t1 v7) (decide (v7 < 40)) false)) :: (qZl3 t1 v7)
abbrev qZlh : Env := (9, .int .i64 (qZls t1 v6 v7)) :: (qZl9 t1 v6 v7)
abbrev qZli : List (Nat × FM) := [(15060, .same 15060), (15061, .same 15061)]
abbrev qZlj : Hp := (1000, ⟨0, true, 47, 4, (qZmd x4)⟩) :: (1500, nsA 0 61 11500 x4.Up) :: (1501, nsA 0 61 11501 x4.Down) :: (qZl4 x1)
abbrev qZlk : Hp := [(1000, ⟨0, true, 47, 4, [.int .i64 v6.W, .int .i64 v6.H, .rsl 1500 0 0 v6.Up.length, .rsl 1501 0 0 v6.Down.length]⟩), (1500, nsA 0 61 11500 v6.Up), (1501, nsA 0 61 11501 v6.Down)]
abbrev qZll : Env := (41, .ipt (t1.flatMap eA65) (v7.toNat * 3 + 0)) :: (40, .ipt (t1.flatMap eA65) (v7.toNat * 3)) :: (39, .int .i64 v7) :: (38, slA eA65 t1) :: (qZl9 t1 v6 v7)
abbrev qZlm : Env := [qZmb, (1, slA eA65 t1)]
abbrev qZln : Hp := (4, ⟨0, true, 47, 4, (qZm4 v6)⟩) :: (qZl2 v5 v6)
abbrev qZlo : Hp := (601, nsA 0 61 10601 x4.Up) :: (602, nsA 0 61 10602 x4.Down) :: (qZl4 x1)
abbrev qZlp : Env := (9, .int .i64 (qZls t1 v6 v7)) :: (qZl3 t1 v7)
abbrev qZlq : Env := (18, .agg (qZme x4)) :: (qZld t1 x1)
end
theorem f_R25_Plate_own {t0 : S_Raw} {t1 : List (List Int)} {r : S_Plate} (H : f_R25_Plate t0 t1 = some r) : Abs.Spec Tryd.prog 20 [.agg [.int .u8 t0.W, .int .u8 t0.H, slA (eL (eI .u8)) t0.Front, slA (eL (eI .u8)) t0.Back, .int .u8 t0.Head.Width, .int .u16 t0.Head.N, .int .u8 t0.Head.K, .bool t0.Head.Back, .int .u16 t0.Head.Ink, .int .u8 t0.Head.Part], slA eA65 t1] [] (fun x h => x = .agg [.int .i64 r.W, .int .i64 r.H, .rsl 1500 0 0 r.Up.length, .rsl 1501 0 0 r.Down.length] ∧ h = ([(1000, ⟨0, true, 47, 4, [.int .i64 r.W, .int .i64 r.H, .rsl 1500 0 0 r.Up.length, .rsl 1501 0 0 r.Down.length]⟩), (1500, nsA 0 61 11500 r.Up), (1501, nsA 0 61 11501 r.Down)] ++ fmsH [fmA 11500 4 1 eB r.Up, fmA 11501 4 1 eB r.Down])) := by
  refine Spec.of_AW Tryd.func20 rfl (by simp [Tryd.ntmps20]) ?_
  rw [Tryd.ntmps20]
  unfold f_R25_Plate at H
  change AW _ _ _ [(0, .agg (qZlv t0)), (1, slA eA65 t1)] [] _
  refine AW.regionSeq (OpsW.box rfl rfl rfl 2 rfl (okCb_sound (by kernel_rfl)) ?_)
  change OpsW _ _ _ _ _ [(2, ⟨0, true, 27, 10, (qZlv t0)⟩)] _
  refine OpsW.alloc' rfl rfl rfl 4 rfl (by kernel_rfl : zc Tryd.prog 47 = some [.int .i64 0, .int .i64 0, .slice none 0 0, .slice none 0 0]) (by kernel_rfl) ?_
  refine OpsW.sg 0 [4, 2, 1] [qZmb, (2, .ref 2 0 0), (1, slA eA65 t1)] ?_
  refine OpsW.recast (env' := [qZmb, (2, .ref 2 0 0), (1, slA eA65 t1)]) (h' := (qZla t0)) (StC.mk (phi [(2, some 2), (4, some 4)]) (.o rfl (.i9 (.cons .im .nil)) (.o rfl (.i4 .nil) .nil)) rfl (.cons (.r rfl) (.cons (.r rfl) (.cons .im .nil)))) ?_
  refine OpsW.nil (AW.regionSeq (OpsW.sg 1 [10, 4, 1] ((10, .agg (qZlv t0)) :: (qZlm t1)) ?_))
  obtain ⟨x1, hx1, H⟩ := bindS H
  refine OpsW.qcall rfl (by kernel_rfl) rfl rfl (glAll_sound trivial) (.cons (.pur rfl) .nil) (f_R25_Format_ok hx1) rfl ?_
  refine OpsW.alloc' rfl rfl rfl 5 rfl (by kernel_rfl : zc Tryd.prog 32 = some [.int .i64 0, .int .i64 0, .int .i64 0]) (by kernel_rfl) ?_
  refine OpsW.store rfl rfl rfl rfl trivial trivial rfl rfl rfl (by kernel_rfl) (okCb_sound (by kernel_rfl)) (Nat.le_of_ble_eq_true (by kernel_rfl)) ?_
  change OpsW _ _ _ _ _ ((5, ⟨0, true, 32, 3, [.int .i64 x1.Width, .int .i64 x1.Height, .int .i64 x1.Binding]⟩) :: (5, ⟨0, true, 32, 3, [.int .i64 0, .int .i64 0, .int .i64 0]⟩) :: (qZla t0)) _
  refine OpsW.sg 0 [5, 4, 1] ((5, .ref 5 0 0) :: (qZlm t1)) ?_
  refine OpsW.recast (env' := ((5, .ref 5 0 0) :: (qZlm t1))) (h' := (qZl4 x1)) (StC.mk (phi [(4, some 4), (5, some 5)]) (.o rfl (.i4 .nil) (.o rfl (.i3 .nil) .nil)) rfl (.cons (.r rfl) (.cons (.r rfl) (.cons .im .nil)))) ?_
  refine OpsW.nil (AW.regionSeq ?_)
  obtain ⟨g2, H⟩ := G_some H
  obtain ⟨g3, H⟩ := G_some H
  refine OpsW.sq 6 [17, 14, 4, 1] [inR (2 * x1.Width), inR (3 * x1.Height)] (qZld t1 x1) ⟨g2, g3, trivial⟩ ?_
  obtain ⟨x4, hx4, H⟩ := bindS H
  refine OpsW.call rfl rfl (by kernel_rfl) [] _ _ rfl (glAll_sound trivial) (.cons (.pur rfl) (.cons (.pur rfl) .nil)) (f_R25_Empty_own hx4) ?_
  rintro _ _ ⟨rfl, rfl⟩
  refine ⟨(fresh_F0 rfl rfl), .inl rfl, ?_⟩
  refine OpsW.heapEq (heap_mid0 rfl) ?_
  change OpsW _ _ _ _ ((18, .agg (qZmd x4)) :: (qZld t1 x1)) ((qZlj x1 x4) ++ fmsH [fmA 11500 4 1 eB x4.Up, fmA 11501 4 1 eB x4.Down]) _
  refine OpsW.recast (env' := (qZlq t1 x1 x4)) (h' := ((qZlo x1 x4) ++ fmsH (qZm3 x4))) (StC.mkF (hc := (qZlj x1 x4)) (fs := [fmA 11500 4 1 eB x4.Up, fmA 11501 4 1 eB x4.Down]) (hc' := (qZlo x1 x4)) (fs' := (qZm3 x4)) rfl [(601, some 1500), (602, some 1501), (4, some 4), (5, some 5)] [(10601, .same 11500), (10602, .same 11501)] rfl (.o rfl (nsSameA rfl rfl (by decide) rfl rfl rfl) (.o rfl (nsSameA rfl rfl (by decide) rfl rfl rfl) (.o rfl (.i4 .nil) (.o rfl (.i3 .nil) .nil)))) rfl (.cons rfl (fmSame rfl) (.cons rfl (fmSame rfl) .nil)) (.cons (.agg (.i2 (.cons (.s rfl) (.cons (.s rfl) .nil)))) (.i2 (.cons (.r rfl) (.cons .im .nil))))) ?_
  change OpsW _ _ _ _ (qZlq t1 x1 x4) ((qZlo x1 x4) ++ fmsH (qZm3 x4)) _
  refine OpsW.alloc' rfl rfl rfl 6 (free_f rfl) (by kernel_rfl : zc Tryd.prog 47 = some [.int .i64 0, .int .i64 0, .slice none 0 0, .slice none 0 0]) (by kernel_rfl) ?_
  refine OpsW.store rfl rfl rfl rfl trivial trivial rfl rfl rfl (by kernel_rfl) (okCb_sound (by kernel_rfl)) (Nat.le_of_ble_eq_true (by kernel_rfl)) ?_
  change OpsW _ _ _ _ _ ((qZlc x1 x4) ++ fmsH (qZm3 x4)) _
  refine OpsW.sg 0 [6, 4, 1] ((6, .ref 6 0 0) :: (qZlm t1)) ?_
  refine OpsW.recast (env' := ((6, .ref 6 0 0) :: (qZlm t1))) (h' := ((qZl7 x4) ++ fmsH (qZm7 x4))) (StC.mkF (hc := (qZlc x1 x4)) (fs := (qZm3 x4)) (hc' := (qZl7 x4)) (fs' := (qZm7 x4)) rfl [(4, some 4), (6, some 6), (5060, some 601), (5061, some 602)] [(15060, .same 10601), (15061, .same 10602)] rfl (.o rfl (.i4 .nil) (.o rfl (.i2 (.cons (.s rfl) (.cons (.s rfl) .nil))) (.o rfl (nsSameA rfl rfl (by decide) rfl rfl rfl) (.o rfl (nsSameA rfl rfl (by decide) rfl rfl rfl) .nil)))) rfl (.cons rfl (fmSame rfl) (.cons rfl (fmSame rfl) .nil)) (.cons (.r rfl) (.cons (.r rfl) (.cons .im .nil)))) ?_
  refine OpsW.nil (AW.seq (AW.regionSeq (OpsW.sg 1 [7, 6, 4, 1] ((7, .int .i64 0) :: (6, .ref 6 0 0) :: (qZlm t1)) ?_)))
  refine OpsW.nil (AW.block ?_)
  refine AW.iterK (fun loop (s : S_Plate × S_Plate × Int) => f_R25_Plate_b1 t1 loop s.1 s.2.1 s.2.2) r (fun (s : S_Plate × S_Plate × Int) => [(1, slA eA65 t1), qZmb, (6, .ref 6 0 0), (7, .int .i64 s.2.2)]) (fun (s : S_Plate × S_Plate × Int) => ([(4, ⟨0, true, 47, 4, [.int .i64 s.1.W, .int .i64 s.1.H, slA (eL eB) s.1.Up, slA (eL eB) s.1.Down]⟩), (6, ⟨0, true, 47, 4, [.int .i64 s.2.1.W, .int .i64 s.2.1.H, .rsl 5060 0 0 s.2.1.Up.length, .rsl 5061 0 0 s.2.1.Down.length]⟩), (5060, nsA 0 61 15060 s.2.1.Up), (5061, nsA 0 61 15061 s.2.1.Down)] ++ fmsH [fmA 15060 4 1 eB s.2.1.Up, fmA 15061 4 1 eB s.2.1.Down])) ?_ 1000000 (qZm5, x4, (0 : Int)) H (StC.mkF (hc := (qZl7 x4)) (fs := (qZm7 x4)) (hc' := [(4, ⟨0, true, 47, 4, [.int .i64 qZm5.W, .int .i64 qZm5.H, slA (eL eB) qZm5.Up, slA (eL eB) qZm5.Down]⟩), (6, ⟨0, true, 47, 4, (qZmc x4)⟩), (5060, nsA 0 61 15060 x4.Up), (5061, nsA 0 61 15061 x4.Down)]) (fs' := (qZm7 x4)) rfl [(4, some 4), (6, some 6), (5060, some 5060), (5061, some 5061)] qZli rfl (.o rfl (.i2 (.cons .nil (.cons .nil .nil))) (.o rfl (.i2 (.cons (.s rfl) (.cons (.s rfl) .nil))) (.o rfl (nsSameA rfl rfl (by decide) rfl rfl rfl) (.o rfl (nsSameA rfl rfl (by decide) rfl rfl rfl) .nil)))) rfl (.cons rfl (fmSame rfl) (.cons rfl (fmSame rfl) .nil)) (.cons .im (.cons (.r rfl) (.cons (.r rfl) (.cons .im .nil)))))
  intro loop8 s H
  obtain ⟨v5, v6, v7⟩ := s
  change f_R25_Plate_b1 t1 loop8 v5 v6 v7 = some r at H
  unfold f_R25_Plate_b1 at H
  change AW _ _ _ (qZl3 t1 v7) ((qZl2 v5 v6) ++ fmsH (qZly v6)) _
  refine AW.seq (AW.regionSeq (OpsW.sq 8 [26, 1, 4, 6, 7] [(qZm6 t1 v7) = true → (qZm6 t1 v7) = true, (qZm6 t1 v7) = true → (qZm6 t1 v7) = true] ((26, .bool (cond (qZm6 t1 v7) (decide (v7 < 40)) false)) :: (qZl3 t1 v7)) ⟨(fun h => h), (fun h => by first | exact h | (simpa using h) | grind), trivial⟩ ?_))
  refine OpsW.nil (AW.cond (b := cond (qZm6 t1 v7) (decide (v7 < 40)) false) rfl (fun c9 => ?_) (fun c9 => ?_))
  · replace H := condT c9 H
    refine AW.skip ?_
    refine AW.joinK (fun (y : S_Plate × S_Plate) => f_R25_Plate_k1 loop8 v7 y.1 y.2) r (fun (y : S_Plate × S_Plate) => (qZl3 t1 v7)) (fun (y : S_Plate × S_Plate) => ([(4, ⟨0, true, 47, 4, [.int .i64 y.1.W, .int .i64 y.1.H, slA (eL eB) y.1.Up, slA (eL eB) y.1.Down]⟩), (6, ⟨0, true, 47, 4, [.int .i64 y.2.W, .int .i64 y.2.H, .rsl 5060 0 0 y.2.Up.length, .rsl 5061 0 0 y.2.Down.length]⟩), (5060, nsA 0 61 15060 y.2.Up), (5061, nsA 0 61 15061 y.2.Down)] ++ fmsH [fmA 15060 4 1 eB y.2.Up, fmA 15061 4 1 eB y.2.Down])) ?_ ?_
    · refine AW.block (AW.drawSeq Tryd.checked.mixed (by kernel_rfl) ?_)
      obtain ⟨g13, H⟩ := G_some H
      refine QOps.seg (N := 69) 4 [0 ≤ v7 ∧ v7 < (t1.length : Int), 0 ≤ (1 : Int) ∧ (1 : Int) < (3 : Int)] (qZlg t1 v7) (by kernel_rfl) ⟨g13, (by decide), trivial⟩ ?_
      refine QOps.asU (.int .u8 ((qZm1 t1 v7).getD 1 0)) rfl (T.load rfl trivial (by kernel_rfl) (fm_cell eA65 3 (fun _ => rfl) t1 (List.replicate 3 0) v7.toNat (ltN g13) 1 (fun a => .val (.int .u8 (a.getD 1 0))) (fun _ => rfl))) ?_
      obtain ⟨g14, H⟩ := G_some H
      refine QOps.seg (N := 69) 5 [v6.H ≠ 0] ((8, .int .i64 (qZlr t1 v6 v7)) :: (37, .int .i64 (qZlr t1 v6 v7)) :: (36, .int .i64 v6.H) :: (35, .ref 6 0 1) :: (34, .int .i64 (IntKind.wrap .i64 ((qZm1 t1 v7).getD 1 0))) :: (33, .int .u8 ((qZm1 t1 v7).getD 1 0)) :: (qZlg t1 v7)) (by kernel_rfl) ⟨g14, trivial⟩ ?_
      refine QOps.nil (AW.trim [8, 1, 4, 6, 7] (qZl9 t1 v6 v7) (by kernel_rfl) ?_)
      refine AW.drawSeq Tryd.checked.mixed (by kernel_rfl) ?_
      refine QOps.seg (N := 69) 4 [0 ≤ v7 ∧ v7 < (t1.length : Int), 0 ≤ (0 : Int) ∧ (0 : Int) < (3 : Int)] (qZll t1 v6 v7) (by kernel_rfl) ⟨g13, (by decide), trivial⟩ ?_
      refine QOps.asU (.int .u8 ((qZm1 t1 v7).getD 0 0)) rfl (T.load rfl trivial (by kernel_rfl) (fm_cell eA65 3 (fun _ => rfl) t1 (List.replicate 3 0) v7.toNat (ltN g13) 0 (fun a => .val (.int .u8 (a.getD 0 0))) (fun _ => rfl))) ?_
      obtain ⟨g15, H⟩ := G_some H
      refine QOps.seg (N := 69) 5 [v6.W ≠ 0] ((9, .int .i64 (qZls t1 v6 v7)) :: (46, .int .i64 (qZls t1 v6 v7)) :: (45, .int .i64 v6.W) :: (44, .ref 6 0 0) :: (43, .int .i64 (IntKind.wrap .i64 ((qZm1 t1 v7).getD 0 0))) :: (42, .int .u8 ((qZm1 t1 v7).getD 0 0)) :: (qZll t1 v6 v7)) (by kernel_rfl) ⟨g15, trivial⟩ ?_
      refine QOps.nil (AW.trim [9, 8, 1, 4, 6, 7] (qZlh t1 v6 v7) (by kernel_rfl) ?_)
      refine AW.regionSeq (OpsW.sq 4 [50, 9, 8, 1, 4, 6, 7] [0 ≤ v7 ∧ v7 < (t1.length : Int), 0 ≤ (2 : Int) ∧ (2 : Int) < (3 : Int)] ((50, .ipt (t1.flatMap eA65) (v7.toNat * 3 + 2)) :: (qZlh t1 v6 v7)) ⟨g13, (by decide), trivial⟩ ?_)
      refine OpsW.asU (.int .u8 ((qZm1 t1 v7).getD 2 0)) rfl rfl (T.load rfl trivial (by kernel_rfl) (fm_cell eA65 3 (fun _ => rfl) t1 (List.replicate 3 0) v7.toNat (ltN g13) 2 (fun a => .val (.int .u8 (a.getD 2 0))) (fun _ => rfl))) ?_
      refine OpsW.sq 2 [53, 9, 8, 1, 4, 6, 7] [(2 : Int) ≠ 0] ((53, .bool ((Int.tmod ((qZm1 t1 v7).getD 2 0) (2 : Int)) == 0)) :: (qZlh t1 v6 v7)) ⟨(by decide), trivial⟩ ?_
      refine OpsW.nil (AW.cond (b := (Int.tmod ((qZm1 t1 v7).getD 2 0) (2 : Int)) == 0) rfl (fun c16 => ?_) (fun c16 => ?_))
      · replace H := condT c16 H
        refine AW.region ?_
        obtain ⟨g17, H⟩ := G_some H
        refine OpsW.sq 4 [57, 9, 1, 4, 6, 7] [0 ≤ (qZlr t1 v6 v7) ∧ (qZlr t1 v6 v7) < (v6.Up.length : Int)] ((57, .ref 5060 0 (0 + (qZlr t1 v6 v7).toNat * 1)) :: (qZlp t1 v6 v7)) ⟨g17, trivial⟩ ?_
        refine OpsW.asU (.rsl (qZmg t1 v6 v7) 0 0 ((v6.Up.getD (qZlr t1 v6 v7).toNat []).length)) rfl rfl (T.loadR rfl trivial (by kernel_rfl) rfl rfl rfl (ns_cell (ltN g17) (by first | omega | (simp only [qZlr, qZls, qZm1, qZmg]; omega)))) ?_
        refine OpsW.sg 1 [59, 58, 1, 4, 6, 7] (qZl6 t1 v6 v7) ?_
        obtain ⟨g18, H⟩ := G_some H
        change OpsW _ _ _ _ (qZl6 t1 v6 v7) ((qZl2 v5 v6) ++ fmsH (qZly v6)) _
        refine OpsW.asU (.ref (qZmg t1 v6 v7) 0 (0 + (qZls t1 v6 v7).toNat * 1)) rfl rfl (T.idxF rfl rfl trivial trivial (by kernel_rfl) (by kernel_rfl) (row_f rfl rfl (ltN g17)) rfl rfl g18) ?_
        change OpsW _ _ _ _ (qZle t1 v6 v7) ((qZl2 v5 v6) ++ fmsH (qZly v6)) _
        refine OpsW.storeN (enc := eB) (k := 1) (xs := v6.Up) (hc' := (qZl1 t1 v5 v6 v7)) false true [.val (.bool true)] (qZlr t1 v6 v7).toNat (qZls t1 v6 v7).toNat 0 rfl rfl rfl (by first | rfl | exact congrArg (AV.ref (qZmg t1 v6 v7) 0) (by first | omega | (simp only [qZlr, qZls, qZly, qZm8, qZmg]; omega))) trivial trivial rfl rfl (fun _ => rfl) rfl (by kernel_rfl) (okCb_sound (by kernel_rfl)) (ltN g17) (ltN g18) (Nat.le_of_ble_eq_true (by kernel_rfl)) rfl (by simp only [List.length_set, nsA_set, qZlr, qZls, qZly, qZlz, qZm4, qZm8, qZmb, qZmg, qZl1, qZl2, qZl3, qZl6, qZle]) ?_
        change OpsW _ _ _ _ (qZle t1 v6 v7) ((qZl1 t1 v5 v6 v7) ++ fmsH (qZlx t1 v6 v7)) _
        refine OpsW.sg 0 [1, 4, 6, 7] (qZl3 t1 v7) ?_
        refine OpsW.recast (env' := (qZl3 t1 v7)) (h' := ((qZl1 t1 v5 v6 v7) ++ fmsH (qZlx t1 v6 v7))) (StC.mkF (hc := (qZl1 t1 v5 v6 v7)) (fs := (qZlx t1 v6 v7)) (hc' := (qZl1 t1 v5 v6 v7)) (fs' := (qZlx t1 v6 v7)) rfl [(4, some 4), (6, some 6), (5060, some 5060), (5061, some 5061)] qZli rfl (.o rfl (.i4 .nil) (.o rfl (.i2 (.cons (.s rfl) (.cons (.s rfl) .nil))) (.o rfl (nsSameA rfl rfl (by decide) rfl rfl rfl) (.o rfl (nsSameA rfl rfl (by decide) rfl rfl rfl) .nil)))) rfl (.cons rfl (fmSame rfl) (.cons rfl (fmSame rfl) .nil)) (.cons .im (.cons (.r rfl) (.cons (.r rfl) (.cons .im .nil))))) ?_
        refine OpsW.nil ?_
        show ∃ y, _ ∧ StC _ _ _ _
        exact ⟨(v5, (qZlu t1 v6 v7)), H, (StC.mkF (hc := (qZl1 t1 v5 v6 v7)) (fs := (qZlx t1 v6 v7)) (hc' := [(4, ⟨0, true, 47, 4, (qZlz v5)⟩), (6, ⟨0, true, 47, 4, [.int .i64 (qZlu t1 v6 v7).W, .int .i64 (qZlu t1 v6 v7).H, .rsl 5060 0 0 (qZlu t1 v6 v7).Up.length, .rsl 5061 0 0 (qZlu t1 v6 v7).Down.length]⟩), (5060, nsA 0 61 15060 (qZlu t1 v6 v7).Up), (5061, nsA 0 61 15061 (qZlu t1 v6 v7).Down)]) (fs' := [fmA 15060 4 1 eB (qZlu t1 v6 v7).Up, fmA 15061 4 1 eB (qZlu t1 v6 v7).Down]) rfl [(4, some 4), (6, some 6), (5060, some 5060), (5061, some 5061)] qZli rfl (.o rfl (.i4 .nil) (.o rfl (.i2 (.cons (.s rfl) (.cons (.s rfl) .nil))) (.o rfl (nsSameA rfl rfl (by decide) rfl rfl rfl) (.o rfl (nsSameA rfl rfl (by decide) rfl rfl rfl) .nil)))) rfl (.cons rfl (fmSame rfl) (.cons rfl (fmSame rfl) .nil)) (.cons .im (.cons (.r rfl) (.cons (.r rfl) (.cons .im .nil)))))⟩
      replace H := condF c16 H
      refine AW.region ?_
      obtain ⟨g19, H⟩ := G_some H
      refine OpsW.sq 4 [64, 9, 1, 4, 6, 7] [0 ≤ (qZlr t1 v6 v7) ∧ (qZlr t1 v6 v7) < (v6.Down.length : Int)] ((64, .ref 5061 0 (0 + (qZlr t1 v6 v7).toNat * 1)) :: (qZlp t1 v6 v7)) ⟨g19, trivial⟩ ?_
      refine OpsW.asU (.rsl (qZmf t1 v6 v7) 0 0 ((v6.Down.getD (qZlr t1 v6 v7).toNat []).length)) rfl rfl (T.loadR rfl trivial (by kernel_rfl) rfl rfl rfl (ns_cell (ltN g19) (by first | omega | (simp only [qZlr, qZls, qZlu, qZlx, qZm8, qZmf]; omega)))) ?_
      refine OpsW.sg 1 [66, 65, 1, 4, 6, 7] (qZl5 t1 v6 v7) ?_
      obtain ⟨g20, H⟩ := G_some H
      change OpsW _ _ _ _ (qZl5 t1 v6 v7) ((qZl2 v5 v6) ++ fmsH (qZly v6)) _
      refine OpsW.asU (.ref (qZmf t1 v6 v7) 0 (0 + (qZls t1 v6 v7).toNat * 1)) rfl rfl (T.idxF rfl rfl trivial trivial (by kernel_rfl) (by kernel_rfl) (row_f rfl rfl (ltN g19)) rfl rfl g20) ?_
      change OpsW _ _ _ _ (qZlf t1 v6 v7) ((qZl2 v5 v6) ++ fmsH (qZly v6)) _
      refine OpsW.storeN (enc := eB) (k := 1) (xs := v6.Down) (hc' := (qZl0 t1 v5 v6 v7)) false true [.val (.bool true)] (qZlr t1 v6 v7).toNat (qZls t1 v6 v7).toNat 0 rfl rfl rfl (by first | rfl | exact congrArg (AV.ref (qZmf t1 v6 v7) 0) (by first | omega | (simp only [qZlr, qZls, qZlw, qZly, qZmf]; omega))) trivial trivial rfl rfl (fun _ => rfl) rfl (by kernel_rfl) (okCb_sound (by kernel_rfl)) (ltN g19) (ltN g20) (Nat.le_of_ble_eq_true (by kernel_rfl)) rfl (by simp only [List.length_set, nsA_set, qZlr, qZls, qZlw, qZly, qZlz, qZm4, qZmb, qZmf, qZl0, qZl2, qZl3, qZl5, qZlf]) ?_
      change OpsW _ _ _ _ (qZlf t1 v6 v7) ((qZl0 t1 v5 v6 v7) ++ fmsH (qZm2 t1 v6 v7)) _
      refine OpsW.sg 0 [1, 4, 6, 7] (qZl3 t1 v7) ?_
      refine OpsW.recast (env' := (qZl3 t1 v7)) (h' := ((qZl0 t1 v5 v6 v7) ++ fmsH (qZm2 t1 v6 v7))) (StC.mkF (hc := (qZl0 t1 v5 v6 v7)) (fs := (qZm2 t1 v6 v7)) (hc' := (qZl0 t1 v5 v6 v7)) (fs' := (qZm2 t1 v6 v7)) rfl [(4, some 4), (6, some 6), (5060, some 5060), (5061, some 5061)] qZli rfl (.o rfl (.i4 .nil) (.o rfl (.i2 (.cons (.s rfl) (.cons (.s rfl) .nil))) (.o rfl (nsSameA rfl rfl (by decide) rfl rfl rfl) (.o rfl (nsSameA rfl rfl (by decide) rfl rfl rfl) .nil)))) rfl (.cons rfl (fmSame rfl) (.cons rfl (fmSame rfl) .nil)) (.cons .im (.cons (.r rfl) (.cons (.r rfl) (.cons .im .nil))))) ?_
      refine OpsW.nil ?_
      show ∃ y, _ ∧ StC _ _ _ _
      exact ⟨(v5, (qZlt t1 v6 v7)), H, (StC.mkF (hc := (qZl0 t1 v5 v6 v7)) (fs := (qZm2 t1 v6 v7)) (hc' := [(4, ⟨0, true, 47, 4, (qZlz v5)⟩), (6, ⟨0, true, 47, 4, [.int .i64 (qZlt t1 v6 v7).W, .int .i64 (qZlt t1 v6 v7).H, .rsl 5060 0 0 (qZlt t1 v6 v7).Up.length, .rsl 5061 0 0 (qZlt t1 v6 v7).Down.length]⟩), (5060, nsA 0 61 15060 (qZlt t1 v6 v7).Up), (5061, nsA 0 61 15061 (qZlt t1 v6 v7).Down)]) (fs' := [fmA 15060 4 1 eB (qZlt t1 v6 v7).Up, fmA 15061 4 1 eB (qZlt t1 v6 v7).Down]) rfl [(4, some 4), (6, some 6), (5060, some 5060), (5061, some 5061)] qZli rfl (.o rfl (.i4 .nil) (.o rfl (.i2 (.cons (.s rfl) (.cons (.s rfl) .nil))) (.o rfl (nsSameA rfl rfl (by decide) rfl rfl rfl) (.o rfl (nsSameA rfl rfl (by decide) rfl rfl rfl) .nil)))) rfl (.cons rfl (fmSame rfl) (.cons rfl (fmSame rfl) .nil)) (.cons .im (.cons (.r rfl) (.cons (.r rfl) (.cons .im .nil)))))⟩
    rintro ⟨v10, v11⟩ H
    change f_R25_Plate_k1 loop8 v7 v10 v11 = some r at H
    unfold f_R25_Plate_k1 at H
    change AW _ _ _ (qZl3 t1 v7) ((qZl8 v10 v11) ++ fmsH (qZm9 v11)) _
    refine AW.region ?_
    obtain ⟨g12, H⟩ := G_some H
    refine OpsW.sq 3 [7, 1, 4, 6] [inR (v7 + 1)] [(7, .int .i64 (v7 + 1)), (1, slA eA65 t1), qZmb, (6, .ref 6 0 0)] ⟨g12, trivial⟩ ?_
    refine OpsW.nil ?_
    show ∃ y, _ ∧ StC _ _ _ _
    exact ⟨(v10, v11, v7 + 1), H, (StC.mkF (hc := (qZl8 v10 v11)) (fs := (qZm9 v11)) (hc' := (qZl8 v10 v11)) (fs' := (qZm9 v11)) rfl [(4, some 4), (6, some 6), (5060, some 5060), (5061, some 5061)] qZli rfl (.o rfl (.i4 .nil) (.o rfl (.i2 (.cons (.s rfl) (.cons (.s rfl) .nil))) (.o rfl (nsSameA rfl rfl (by decide) rfl rfl rfl) (.o rfl (nsSameA rfl rfl (by decide) rfl rfl rfl) .nil)))) rfl (.cons rfl (fmSame rfl) (.cons rfl (fmSame rfl) .nil)) (.cons .im (.cons (.r rfl) (.cons (.r rfl) (.cons .im .nil)))))⟩
  replace H := condF c9 H
  refine AW.exit ?_
  refine AW.regionSeq (OpsW.sg 1 [68, 4] [(68, .agg (qZm4 v6)), qZmb] ?_)
  refine OpsW.store rfl rfl rfl rfl trivial trivial rfl rfl rfl (by kernel_rfl) (okCb_sound (by kernel_rfl)) (Nat.le_of_ble_eq_true (by kernel_rfl)) ?_
  change OpsW _ _ _ _ _ ((qZln v5 v6) ++ fmsH (qZly v6)) _
  refine OpsW.sg 0 [4] [qZmb] ?_
  refine OpsW.recast (env' := [qZmb]) (h' := ((qZlb v6) ++ fmsH (qZma v6))) (StC.mkF (hc := (qZln v5 v6)) (fs := (qZly v6)) (hc' := (qZlb v6)) (fs' := (qZma v6)) rfl [(4, some 4), (5040, some 5060), (5041, some 5061)] [(15040, .same 15060), (15041, .same 15061)] rfl (.o rfl (.i2 (.cons (.s rfl) (.cons (.s rfl) .nil))) (.o rfl (nsSameA rfl rfl (by decide) rfl rfl rfl) (.o rfl (nsSameA rfl rfl (by decide) rfl rfl rfl) .nil))) rfl (.cons rfl (fmSame rfl) (.cons rfl (fmSame rfl) .nil)) (.cons (.r rfl) .nil)) ?_
  refine OpsW.nil ?_
  obtain rfl := Option.some.inj H
  refine AW.recast (env' := [(4, .ref 1000 0 0)]) (h' := ((qZlk v6) ++ fmsH [fmA 11500 4 1 eB v6.Up, fmA 11501 4 1 eB v6.Down])) (StC.mkF (hc := (qZlb v6)) (fs := (qZma v6)) (hc' := (qZlk v6)) (fs' := [fmA 11500 4 1 eB v6.Up, fmA 11501 4 1 eB v6.Down]) rfl [(1000, some 4), (1500, some 5040), (1501, some 5041)] [(11500, .same 15040), (11501, .same 15041)] rfl (.o rfl (.i2 (.cons (.s rfl) (.cons (.s rfl) .nil))) (.o rfl (nsSameA rfl rfl (by decide) rfl rfl rfl) (.o rfl (nsSameA rfl rfl (by decide) rfl rfl rfl) .nil))) rfl (.cons rfl (fmSame rfl) (.cons rfl (fmSame rfl) .nil)) (.cons (.r rfl) .nil)) ?_
  refine AW.ret ?_
  refine Done.gen rfl (.cell rfl (by kernel_rfl) .nil) ?_
  exact ⟨by kernel_rfl, rfl⟩
theorem f_R25_Plate_ok  {t0 : S_Raw} {t1 : List (List Int)} {r : S_Plate} (H : f_R25_Plate t0 t1 = some r) : QSpec Tryd.prog 20 [.agg [.int .u8 t0.W, .int .u8 t0.H, slA (eL (eI .u8)) t0.Front, slA (eL (eI .u8)) t0.Back, .int .u8 t0.Head.Width, .int .u16 t0.Head.N, .int .u8 t0.Head.K, .bool t0.Head.Back, .int .u16 t0.Head.Ink, .int .u8 t0.Head.Part], slA eA65 t1] (.agg [.int .i64 r.W, .int .i64 r.H, slA (eL eB) r.Up, slA (eL eB) r.Down]) := by
  exact QSpec.of_ownF (f_R25_Plate_own H) (.agg (.i2 (.cons (Cst.frzN rfl rfl (fun _ => rfl) rfl rfl rfl) (.cons (Cst.frzN rfl rfl (fun _ => rfl) rfl rfl rfl) .nil))))
section
variable (t0 : S_Raw) (t1 : List (List Int)) (t2 : List (List Int)) (x1 : Bool) (x2 : S_Format) (x3 : S_Plate) (x4 : S_Plate) (x5 : (List (List Int))) (x6 : (List (List Int))) (x7 : (S_Plate × Int)) (x9 : Bool) (x11 : Bool) (x12 : Bool) (x13 : Bool) (x14 : Bool) (x15 : Bool) (x16 : Bool) (x17 : Bool)
end
end Go.Proofs.YtbcfmhoaocifoaaDoor
