/- Own work. -/
import Derived.Test.YtbcfmhoaocifoaaDoorW7
set_option linter.unusedSimpArgs false
set_option linter.unusedVariables false
set_option maxRecDepth 100000
namespace Go.Proofs.YtbcfmhoaocifoaaDoor
open Go.Abs
def Y50 (loop8 : (Y4 × Y4 × Int) → Option Y4) (v7 : Int) (v10 : Y4) (v11 : Y4) : Option Y4 :=
 G (inR (v7 + 1)) <|
 loop8 (v10, v11, v7 + 1)
def Y51 (t1 : List (List Int)) (loop8 : (Y4 × Y4 × Int) → Option Y4) (v5 : Y4) (v6 : Y4) (v7 : Int) : Option Y4 :=
 cond (cond (decide (v7 < (t1.length : Int))) (decide (v7 < 40)) false) (
  G (0 ≤ v7 ∧ v7 < (t1.length : Int)) <|
  G (v6.H ≠ 0) <|
  G (v6.W ≠ 0) <|
  cond ((Int.tmod ((t1.getD v7.toNat (List.replicate 3 0)).getD 2 0) (2 : Int)) == 0) (
   G (0 ≤ (Int.tmod (IntKind.wrap .i64 ((t1.getD v7.toNat (List.replicate 3 0)).getD 1 0)) v6.H) ∧ (Int.tmod (IntKind.wrap .i64 ((t1.getD v7.toNat (List.replicate 3 0)).getD 1 0)) v6.H) < (v6.Up.length : Int)) <|
   G (0 ≤ (Int.tmod (IntKind.wrap .i64 ((t1.getD v7.toNat (List.replicate 3 0)).getD 0 0)) v6.W) ∧ (Int.tmod (IntKind.wrap .i64 ((t1.getD v7.toNat (List.replicate 3 0)).getD 0 0)) v6.W) < ((v6.Up.getD (Int.tmod (IntKind.wrap .i64 ((t1.getD v7.toNat (List.replicate 3 0)).getD 1 0)) v6.H).toNat []).length : Int)) <|
   Y50 loop8 v7 v5 (⟨v6.W, v6.H, v6.Up.set (Int.tmod (IntKind.wrap .i64 ((t1.getD v7.toNat (List.replicate 3 0)).getD 1 0)) v6.H).toNat ((v6.Up.getD (Int.tmod (IntKind.wrap .i64 ((t1.getD v7.toNat (List.replicate 3 0)).getD 1 0)) v6.H).toNat []).set (Int.tmod (IntKind.wrap .i64 ((t1.getD v7.toNat (List.replicate 3 0)).getD 0 0)) v6.W).toNat true), v6.Down⟩ : Y4)) (
   G (0 ≤ (Int.tmod (IntKind.wrap .i64 ((t1.getD v7.toNat (List.replicate 3 0)).getD 1 0)) v6.H) ∧ (Int.tmod (IntKind.wrap .i64 ((t1.getD v7.toNat (List.replicate 3 0)).getD 1 0)) v6.H) < (v6.Down.length : Int)) <|
   G (0 ≤ (Int.tmod (IntKind.wrap .i64 ((t1.getD v7.toNat (List.replicate 3 0)).getD 0 0)) v6.W) ∧ (Int.tmod (IntKind.wrap .i64 ((t1.getD v7.toNat (List.replicate 3 0)).getD 0 0)) v6.W) < ((v6.Down.getD (Int.tmod (IntKind.wrap .i64 ((t1.getD v7.toNat (List.replicate 3 0)).getD 1 0)) v6.H).toNat []).length : Int)) <|
   Y50 loop8 v7 v5 (⟨v6.W, v6.H, v6.Up, v6.Down.set (Int.tmod (IntKind.wrap .i64 ((t1.getD v7.toNat (List.replicate 3 0)).getD 1 0)) v6.H).toNat ((v6.Down.getD (Int.tmod (IntKind.wrap .i64 ((t1.getD v7.toNat (List.replicate 3 0)).getD 1 0)) v6.H).toNat []).set (Int.tmod (IntKind.wrap .i64 ((t1.getD v7.toNat (List.replicate 3 0)).getD 0 0)) v6.W).toNat true)⟩ : Y4))) (
  some v6)
def f_R25_Plate (t0 : S_Raw) (t1 : List (List Int)) : Option Y4 :=
 (Y49 t0).bind fun x1 =>
 G (inR (2 * x1.Width)) <|
 G (inR (3 * x1.Height)) <|
 (Y1u (2 * x1.Width) (3 * x1.Height)).bind fun x4 =>
 iter (fun loop (s : Y4 × Y4 × Int) => Y51 t1 loop s.1 s.2.1 s.2.2) 1000000 ((⟨(0 : Int), (0 : Int), [], []⟩ : Y4), x4, (0 : Int))
section
variable (t0 : S_Raw) (t1 : List (List Int)) (v5 : Y4) (v6 : Y4) (v7 : Int) (v10 : Y4) (v11 : Y4) (x1 : Y0k) (x4 : Y4)
abbrev Zid := Int.tmod (IntKind.wrap .i64 ((t1.getD v7.toNat (List.replicate 3 0)).getD 1 0)) v6.H
abbrev Zie := Int.tmod (IntKind.wrap .i64 ((t1.getD v7.toNat (List.replicate 3 0)).getD 0 0)) v6.W
abbrev Zif := (⟨v6.W, v6.H, v6.Up, v6.Down.set (Zid t1 v6 v7).toNat ((v6.Down.getD (Zid t1 v6 v7).toNat []).set (Zie t1 v6 v7).toNat true)⟩ : Y4)
abbrev Zig := (⟨v6.W, v6.H, v6.Up.set (Zid t1 v6 v7).toNat ((v6.Up.getD (Zid t1 v6 v7).toNat []).set (Zie t1 v6 v7).toNat true), v6.Down⟩ : Y4)
abbrev Zih : List AV := [.int .u8 t0.W, .int .u8 t0.H, sC t0.Front, sC t0.Back, .int .u8 t0.Head.Width, .int .u16 t0.Head.N, .int .u8 t0.Head.K, .bool t0.Head.Back, .int .u16 t0.Head.Ink, .int .u8 t0.Head.Part]
abbrev Zii := v6.Down.set (Zid t1 v6 v7).toNat ((v6.Down.getD (Zid t1 v6 v7).toNat []).set (Zie t1 v6 v7).toNat true)
abbrev Zij := v6.Up.set (Zid t1 v6 v7).toNat ((v6.Up.getD (Zid t1 v6 v7).toNat []).set (Zie t1 v6 v7).toNat true)
abbrev Zik := [fmA 15060 4 1 eB v6.Up, fmA 15061 4 1 eB v6.Down]
abbrev Zil : List AV := [.j (0 : Int), .j (0 : Int), .im (.val (.slice none 0 0)), .im (.val (.slice none 0 0))]
abbrev Zim := t1.getD v7.toNat (List.replicate 3 0)
abbrev Zin := [fmA 10601 4 1 eB x4.Up, fmA 10602 4 1 eB x4.Down]
abbrev Zio := (⟨(0 : Int), (0 : Int), [], []⟩ : Y4)
abbrev Zip : List AV := [.j v6.W, .j v6.H, .rsl 5060 0 0 v6.Up.length, .rsl 5061 0 0 v6.Down.length]
abbrev Ziq := [fmA 15060 4 1 eB x4.Up, fmA 15061 4 1 eB x4.Down]
abbrev Zir : List AV := [.j v5.W, .j v5.H, sD v5.Up, sD v5.Down]
abbrev Zis : Nat × AV := (4, .ref 4 0 0)
abbrev Zit := [fmA 15060 4 1 eB v11.Up, fmA 15061 4 1 eB v11.Down]
abbrev Ziu := [fmA 15040 4 1 eB v6.Up, fmA 15041 4 1 eB v6.Down]
abbrev Ziv := fid 15061 (Zid t1 v6 v7).toNat
abbrev Ziw := fid 15060 (Zid t1 v6 v7).toNat
abbrev Zix : List AV := [.j x4.W, .j x4.H, .rsl 5060 0 0 x4.Up.length, .rsl 5061 0 0 x4.Down.length]
abbrev Ziy : List AV := [.j x4.W, .j x4.H, .rsl 1500 0 0 x4.Up.length, .rsl 1501 0 0 x4.Down.length]
abbrev Ziz : Nat × AV := (6, .ref 6 0 0)
abbrev Zj0 : List AV := [.j x4.W, .j x4.H, .rsl 601 0 0 x4.Up.length, .rsl 602 0 0 x4.Down.length]
abbrev Zj1 : Nat × AV := (1, slA eA65 t1)
abbrev Zj2 : Nat × AV := (26, .bool (cond (decide (v7 < (t1.length : Int))) (decide (v7 < 40)) false))
abbrev Zhm : Hp := [(4, ⟨0, true, 47, 4, (Zir v5)⟩), (6, ⟨0, true, 47, 4, [.j v6.W, .j v6.H, .rsl 5060 0 0 v6.Up.length, .rsl 5061 0 0 ((Zii t1 v6 v7).length)]⟩), (5060, nsA 0 61 15060 v6.Up), (5061, nsA 0 61 15061 (Zii t1 v6 v7))]
abbrev Zhn : Hp := [(4, ⟨0, true, 47, 4, (Zir v5)⟩), (6, ⟨0, true, 47, 4, [.j v6.W, .j v6.H, .rsl 5060 0 0 ((Zij t1 v6 v7).length), .rsl 5061 0 0 v6.Down.length]⟩), (5060, nsA 0 61 15060 (Zij t1 v6 v7)), (5061, nsA 0 61 15061 v6.Down)]
abbrev Zho : Hp := [(4, ⟨0, true, 47, 4, (Zir v5)⟩), (6, ⟨0, true, 47, 4, (Zip v6)⟩), (5060, nsA 0 61 15060 v6.Up), (5061, nsA 0 61 15061 v6.Down)]
abbrev Zhp : Hp := [(4, ⟨0, true, 47, 4, Zil⟩), (5, ⟨0, true, 32, 3, [.j x1.Width, .j x1.Height, .j x1.Binding]⟩)]
abbrev Zhq : Env := [(66, .j (Zie t1 v6 v7)), (65, .rsl (Ziv t1 v6 v7) 0 0 ((v6.Down.getD (Zid t1 v6 v7).toNat []).length)), (Zj1 t1), Zis, Ziz, (7, .j v7)]
abbrev Zhr : Env := [(59, .j (Zie t1 v6 v7)), (58, .rsl (Ziw t1 v6 v7) 0 0 ((v6.Up.getD (Zid t1 v6 v7).toNat []).length)), (Zj1 t1), Zis, Ziz, (7, .j v7)]
abbrev Zhs : Env := [(Zj1 t1), Zis, Ziz, (7, .j v7)]
abbrev Zht : Hp := [(4, ⟨0, true, 47, 4, Zil⟩), (6, ⟨0, true, 47, 4, (Zix x4)⟩), (5060, nsA 0 61 15060 x4.Up), (5061, nsA 0 61 15061 x4.Down)]
abbrev Zhu : Hp := [(4, ⟨0, true, 47, 4, [.j v10.W, .j v10.H, sD v10.Up, sD v10.Down]⟩), (6, ⟨0, true, 47, 4, [.j v11.W, .j v11.H, .rsl 5060 0 0 v11.Up.length, .rsl 5061 0 0 v11.Down.length]⟩), (5060, nsA 0 61 15060 v11.Up), (5061, nsA 0 61 15061 v11.Down)]
abbrev Zhv : Env := (8, .j (Zid t1 v6 v7)) :: (Zhs t1 v7)
abbrev Zhw : Hp := [(2, ⟨0, true, 27, 10, (Zih t0)⟩), (4, ⟨0, true, 47, 4, Zil⟩)]
abbrev Zhx : Hp := [(4, ⟨0, true, 47, 4, [.j v6.W, .j v6.H, .rsl 5040 0 0 v6.Up.length, .rsl 5041 0 0 v6.Down.length]⟩), (5040, nsA 0 61 15040 v6.Up), (5041, nsA 0 61 15041 v6.Down)]
abbrev Zhy : Hp := (6, ⟨0, true, 47, 4, (Zj0 x4)⟩) :: (6, ⟨0, true, 47, 4, Zil⟩) :: (601, nsA 0 61 10601 x4.Up) :: (602, nsA 0 61 10602 x4.Down) :: (Zhp x1)
abbrev Zhz : Env := (60, .ref (Ziw t1 v6 v7) 0 (0 + (Zie t1 v6 v7).toNat * 1)) :: (Zhr t1 v6 v7)
abbrev Zi0 : Env := (67, .ref (Ziv t1 v6 v7) 0 (0 + (Zie t1 v6 v7).toNat * 1)) :: (Zhq t1 v6 v7)
abbrev Zi1 : Env := [(17, .j (3 * x1.Height)), (14, .j (2 * x1.Width)), Zis, (Zj1 t1)]
abbrev Zi2 : Env := (32, .ipt (t1.flatMap eA65) (v7.toNat * 3 + 1)) :: (31, .ipt (t1.flatMap eA65) (v7.toNat * 3)) :: (30, .j v7) :: (29, slA eA65 t1) :: (Zj2 t1 v7) :: (Zhs t1 v7)
abbrev Zi3 : Env := (9, .j (Zie t1 v6 v7)) :: (Zhv t1 v6 v7)
abbrev Zi4 : Hp := (1000, ⟨0, true, 47, 4, (Ziy x4)⟩) :: (1500, nsA 0 61 11500 x4.Up) :: (1501, nsA 0 61 11501 x4.Down) :: (Zhp x1)
abbrev Zi5 : Hp := [(1000, ⟨0, true, 47, 4, [.j v6.W, .j v6.H, .rsl 1500 0 0 v6.Up.length, .rsl 1501 0 0 v6.Down.length]⟩), (1500, nsA 0 61 11500 v6.Up), (1501, nsA 0 61 11501 v6.Down)]
abbrev Zi6 : Env := (41, .ipt (t1.flatMap eA65) (v7.toNat * 3 + 0)) :: (40, .ipt (t1.flatMap eA65) (v7.toNat * 3)) :: (39, .j v7) :: (38, slA eA65 t1) :: (Zhv t1 v6 v7)
abbrev Zi7 : Env := [Zis, (Zj1 t1)]
abbrev Zi8 : List (Nat × FM) := [(15060, .same 15060), (15061, .same 15061)]
abbrev Zi9 : Hp := (601, nsA 0 61 10601 x4.Up) :: (602, nsA 0 61 10602 x4.Down) :: (Zhp x1)
abbrev Zia : Hp := (4, ⟨0, true, 47, 4, (Zip v6)⟩) :: (Zho v5 v6)
abbrev Zib : Env := (9, .j (Zie t1 v6 v7)) :: (Zhs t1 v7)
abbrev Zic : Env := (18, .agg (Zj0 x4)) :: (Zi1 t1 x1)
end
theorem f_R25_Plate_own {t0 : S_Raw} {t1 : List (List Int)} {r : Y4} (H : f_R25_Plate t0 t1 = some r) : Abs.Spec Tryd.prog 20 [.agg [.int .u8 t0.W, .int .u8 t0.H, slA (eL (eI .u8)) t0.Front, slA (eL (eI .u8)) t0.Back, .int .u8 t0.Head.Width, .int .u16 t0.Head.N, .int .u8 t0.Head.K, .bool t0.Head.Back, .int .u16 t0.Head.Ink, .int .u8 t0.Head.Part], slA eA65 t1] [] (fun x h => x = .agg [.int .i64 r.W, .int .i64 r.H, .rsl 1500 0 0 r.Up.length, .rsl 1501 0 0 r.Down.length] ∧ h = ([(1000, ⟨0, true, 47, 4, [.int .i64 r.W, .int .i64 r.H, .rsl 1500 0 0 r.Up.length, .rsl 1501 0 0 r.Down.length]⟩), (1500, nsA 0 61 11500 r.Up), (1501, nsA 0 61 11501 r.Down)] ++ fmsH [fmA 11500 4 1 eB r.Up, fmA 11501 4 1 eB r.Down])) := by
 refine Yj Tryd.func20 rfl (by simp [Tryd.ntmps20]) ?_
 rw [Tryd.ntmps20]
 unfold f_R25_Plate at H
 change AW _ _ _ [(0, .agg (Zih t0)), (Zj1 t1)] [] _
 refine Y0 (OpsW.box rfl rfl rfl 2 rfl (Y5 (by kernel_rfl)) ?_)
 change OpsW _ _ _ _ _ [(2, ⟨0, true, 27, 10, (Zih t0)⟩)] _
 refine Yo rfl rfl rfl 4 rfl (by kernel_rfl : zc Tryd.prog 47 = some [.j 0, .j 0, .slice none 0 0, .slice none 0 0]) (by kernel_rfl) (Y2 0 [4, 2, 1] [Zis, (2, .ref 2 0 0), (Zj1 t1)] (Ya [Zis, (2, .ref 2 0 0), (Zj1 t1)] (Zhw t0) (StC.mk (phi [(2, some 2), (4, some 4)]) (.o rfl (.i9 (.cons .im .nil)) (.o rfl (.i4 .nil) .nil)) rfl (.cons (.r rfl) (.cons (.r rfl) (.cons .im .nil)))) ?_))
 refine Y1 (Y0 (Y2 1 [10, 4, 1] ((10, .agg (Zih t0)) :: (Zi7 t1)) ?_))
 have ⟨x1, hx1, H⟩ := Yt H
 refine Ys rfl (.cons (.pur rfl) .nil) (f_R25_Format_ok hx1) (Yo rfl rfl rfl 5 rfl (by kernel_rfl : zc Tryd.prog 32 = some [.j 0, .j 0, .j 0]) (by kernel_rfl) (OpsW.store rfl rfl rfl rfl trivial trivial rfl rfl rfl (by kernel_rfl) (Y5 (by kernel_rfl)) (X0 (by kernel_rfl)) ?_))
 change OpsW _ _ _ _ _ ((5, ⟨0, true, 32, 3, [.j x1.Width, .j x1.Height, .j x1.Binding]⟩) :: (5, ⟨0, true, 32, 3, [.j (0 : Int), .j (0 : Int), .j (0 : Int)]⟩) :: (Zhw t0)) _
 refine Y2 0 [5, 4, 1] ((5, .ref 5 0 0) :: (Zi7 t1)) (Ya ((5, .ref 5 0 0) :: (Zi7 t1)) (Zhp x1) (StC.mk (phi [(4, some 4), (5, some 5)]) (.o rfl (.i4 .nil) (.o rfl (.i3 .nil) .nil)) rfl (.cons (.r rfl) (.cons (.r rfl) (.cons .im .nil)))) ?_)
 refine Y1 (Y0 ?_)
 have ⟨g2, H⟩ := Y6 H
 have ⟨g3, H⟩ := Y6 H
 refine Y8 6 [17, 14, 4, 1] (Zi1 t1 x1) ⟨g2, g3, trivial⟩ ?_
 have ⟨x4, hx4, H⟩ := Yt H
 refine OpsW.call rfl rfl (by kernel_rfl) [] _ _ rfl (Yg trivial) (.cons (.pur rfl) (.cons (.pur rfl) .nil)) (Y27 hx4) ?_
 rintro _ _ ⟨rfl, rfl⟩
 refine ⟨(fresh_F0 rfl rfl), .inl rfl, ?_⟩
 refine OpsW.heapEq (heap_mid0 rfl) ?_
 change OpsW _ _ _ _ ((18, .agg (Ziy x4)) :: (Zi1 t1 x1)) ((Zi4 x1 x4) ++ fmsH [fmA 11500 4 1 eB x4.Up, fmA 11501 4 1 eB x4.Down]) _
 refine Ya (Zic t1 x1 x4) ((Zi9 x1 x4) ++ fmsH (Zin x4)) (Yp (hc := (Zi4 x1 x4)) (fs := [fmA 11500 4 1 eB x4.Up, fmA 11501 4 1 eB x4.Down]) (hc' := (Zi9 x1 x4)) (fs' := (Zin x4)) rfl [(601, some 1500), (602, some 1501), (4, some 4), (5, some 5)] [(10601, .same 11500), (10602, .same 11501)] rfl (.o rfl (Yf rfl rfl (by decide) rfl rfl rfl) (.o rfl (Yf rfl rfl (by decide) rfl rfl rfl) (.o rfl (.i4 .nil) (.o rfl (.i3 .nil) .nil)))) rfl (.cons rfl (Ym rfl) (.cons rfl (Ym rfl) .nil)) (.cons (.agg (.i2 (.cons (.s rfl) (.cons (.s rfl) .nil)))) (.i2 (.cons (.r rfl) (.cons .im .nil))))) ?_
 change OpsW _ _ _ _ (Zic t1 x1 x4) ((Zi9 x1 x4) ++ fmsH (Zin x4)) _
 refine Yo rfl rfl rfl 6 (Y4r rfl) (by kernel_rfl : zc Tryd.prog 47 = some [.j 0, .j 0, .slice none 0 0, .slice none 0 0]) (by kernel_rfl) (OpsW.store rfl rfl rfl rfl trivial trivial rfl rfl rfl (by kernel_rfl) (Y5 (by kernel_rfl)) (X0 (by kernel_rfl)) ?_)
 change OpsW _ _ _ _ _ ((Zhy x1 x4) ++ fmsH (Zin x4)) _
 refine Y2 0 [6, 4, 1] (Ziz :: (Zi7 t1)) (Ya (Ziz :: (Zi7 t1)) ((Zht x4) ++ fmsH (Ziq x4)) (Yp (hc := (Zhy x1 x4)) (fs := (Zin x4)) (hc' := (Zht x4)) (fs' := (Ziq x4)) rfl [(4, some 4), (6, some 6), (5060, some 601), (5061, some 602)] [(15060, .same 10601), (15061, .same 10602)] rfl (.o rfl (.i4 .nil) (.o rfl (.i2 (.cons (.s rfl) (.cons (.s rfl) .nil))) (.o rfl (Yf rfl rfl (by decide) rfl rfl rfl) (.o rfl (Yf rfl rfl (by decide) rfl rfl rfl) .nil)))) rfl (.cons rfl (Ym rfl) (.cons rfl (Ym rfl) .nil)) (.cons (.r rfl) (.cons (.r rfl) (.cons .im .nil)))) ?_)
 refine Y1 (Yc (Y0 (Y2 1 [7, 6, 4, 1] ((7, .j (0 : Int)) :: Ziz :: (Zi7 t1)) ?_)))
 refine Y1 (Yd ?_)
 refine Yq (fun loop (s : Y4 × Y4 × Int) => Y51 t1 loop s.1 s.2.1 s.2.2) r (fun (s : Y4 × Y4 × Int) => [(Zj1 t1), Zis, Ziz, (7, .j s.2.2)]) (fun (s : Y4 × Y4 × Int) => ([(4, ⟨0, true, 47, 4, [.j s.1.W, .j s.1.H, sD s.1.Up, sD s.1.Down]⟩), (6, ⟨0, true, 47, 4, [.j s.2.1.W, .j s.2.1.H, .rsl 5060 0 0 s.2.1.Up.length, .rsl 5061 0 0 s.2.1.Down.length]⟩), (5060, nsA 0 61 15060 s.2.1.Up), (5061, nsA 0 61 15061 s.2.1.Down)] ++ fmsH [fmA 15060 4 1 eB s.2.1.Up, fmA 15061 4 1 eB s.2.1.Down])) ?_ 1000000 (Zio, x4, (0 : Int)) H (Yp (hc := (Zht x4)) (fs := (Ziq x4)) (hc' := [(4, ⟨0, true, 47, 4, [.j Zio.W, .j Zio.H, sD Zio.Up, sD Zio.Down]⟩), (6, ⟨0, true, 47, 4, (Zix x4)⟩), (5060, nsA 0 61 15060 x4.Up), (5061, nsA 0 61 15061 x4.Down)]) (fs' := (Ziq x4)) rfl [(4, some 4), (6, some 6), (5060, some 5060), (5061, some 5061)] Zi8 rfl (.o rfl (.i2 (.cons .nil (.cons .nil .nil))) (.o rfl (.i2 (.cons (.s rfl) (.cons (.s rfl) .nil))) (.o rfl (Yf rfl rfl (by decide) rfl rfl rfl) (.o rfl (Yf rfl rfl (by decide) rfl rfl rfl) .nil)))) rfl (.cons rfl (Ym rfl) (.cons rfl (Ym rfl) .nil)) (.cons .im (.cons (.r rfl) (.cons (.r rfl) (.cons .im .nil)))))
 intro loop8 s H
 obtain ⟨v5, v6, v7⟩ := s
 unfold Y51 at H
 change AW _ _ _ (Zhs t1 v7) ((Zho v5 v6) ++ fmsH (Zik v6)) _
 refine Yc (Y0 (Y8 8 [26, 1, 4, 6, 7] ((Zj2 t1 v7) :: (Zhs t1 v7)) ⟨(fun h => h), (fun h => by first | exact h | (simpa using h) | grind), trivial⟩ ?_))
 refine Y1 (Y9 (b := cond (decide (v7 < (t1.length : Int))) (decide (v7 < 40)) false) H rfl (fun c9 H => ?_) (fun c9 H => ?_))
 ·refine Yb ?_
  refine Y08 (fun (y : Y4 × Y4) => Y50 loop8 v7 y.1 y.2) r (fun (y : Y4 × Y4) => (Zhs t1 v7)) (fun (y : Y4 × Y4) => ([(4, ⟨0, true, 47, 4, [.j y.1.W, .j y.1.H, sD y.1.Up, sD y.1.Down]⟩), (6, ⟨0, true, 47, 4, [.j y.2.W, .j y.2.H, .rsl 5060 0 0 y.2.Up.length, .rsl 5061 0 0 y.2.Down.length]⟩), (5060, nsA 0 61 15060 y.2.Up), (5061, nsA 0 61 15061 y.2.Down)] ++ fmsH [fmA 15060 4 1 eB y.2.Up, fmA 15061 4 1 eB y.2.Down])) ?_ ?_
  ·refine Yd (Y0q Tryd.checked.mixed (by kernel_rfl) ?_)
   have ⟨g13, H⟩ := Y6 H
   refine QOps.sz (N := 69) 4 (Zi2 t1 v7) ⟨g13, (by decide), trivial⟩ (QOps.asU (.int .u8 ((Zim t1 v7).getD 1 0)) rfl (T.load rfl trivial (by kernel_rfl) (Y3u eA65 3 (fun _ => rfl) t1 (List.replicate 3 0) v7.toNat (ltN g13) 1 (fun a => .val (.int .u8 (a.getD 1 0))) (fun _ => rfl))) ?_)
   have ⟨g14, H⟩ := Y6 H
   refine QOps.sz (N := 69) 5 ((8, .j (Zid t1 v6 v7)) :: (37, .j (Zid t1 v6 v7)) :: (36, .j v6.H) :: (35, .ref 6 0 1) :: (34, .j (IntKind.wrap .i64 ((Zim t1 v7).getD 1 0))) :: (33, .int .u8 ((Zim t1 v7).getD 1 0)) :: (Zi2 t1 v7)) ⟨g14, trivial⟩ ?_
   refine QOps.nil (AW.trim [8, 1, 4, 6, 7] (Zhv t1 v6 v7) (by kernel_rfl) ?_)
   refine Y0q Tryd.checked.mixed (by kernel_rfl) (QOps.sz (N := 69) 4 (Zi6 t1 v6 v7) ⟨g13, (by decide), trivial⟩ (QOps.asU (.int .u8 ((Zim t1 v7).getD 0 0)) rfl (T.load rfl trivial (by kernel_rfl) (Y3u eA65 3 (fun _ => rfl) t1 (List.replicate 3 0) v7.toNat (ltN g13) 0 (fun a => .val (.int .u8 (a.getD 0 0))) (fun _ => rfl))) ?_))
   have ⟨g15, H⟩ := Y6 H
   refine QOps.sz (N := 69) 5 ((9, .j (Zie t1 v6 v7)) :: (46, .j (Zie t1 v6 v7)) :: (45, .j v6.W) :: (44, .ref 6 0 0) :: (43, .j (IntKind.wrap .i64 ((Zim t1 v7).getD 0 0))) :: (42, .int .u8 ((Zim t1 v7).getD 0 0)) :: (Zi6 t1 v6 v7)) ⟨g15, trivial⟩ ?_
   refine QOps.nil (AW.trim [9, 8, 1, 4, 6, 7] (Zi3 t1 v6 v7) (by kernel_rfl) ?_)
   refine Y0 (Y8 4 [50, 9, 8, 1, 4, 6, 7] ((50, .ipt (t1.flatMap eA65) (v7.toNat * 3 + 2)) :: (Zi3 t1 v6 v7)) ⟨g13, (by decide), trivial⟩ ?_)
   refine OpsW.asU (.int .u8 ((Zim t1 v7).getD 2 0)) rfl rfl (T.load rfl trivial (by kernel_rfl) (Y3u eA65 3 (fun _ => rfl) t1 (List.replicate 3 0) v7.toNat (ltN g13) 2 (fun a => .val (.int .u8 (a.getD 2 0))) (fun _ => rfl))) (Y8 2 [53, 9, 8, 1, 4, 6, 7] ((53, .bool ((Int.tmod ((Zim t1 v7).getD 2 0) (2 : Int)) == 0)) :: (Zi3 t1 v6 v7)) ⟨(by decide), trivial⟩ (Y1 (Y9 (b := (Int.tmod ((Zim t1 v7).getD 2 0) (2 : Int)) == 0) H rfl (fun c16 H => ?_) (fun c16 H => ?_))))
   ·refine Ye ?_
    have ⟨g17, H⟩ := Y6 H
    refine Y8 4 [57, 9, 1, 4, 6, 7] ((57, .ref 5060 0 (0 + (Zid t1 v6 v7).toNat * 1)) :: (Zib t1 v6 v7)) ⟨g17, trivial⟩ (OpsW.asU (.rsl (Ziw t1 v6 v7) 0 0 ((v6.Up.getD (Zid t1 v6 v7).toNat []).length)) rfl rfl (Y2o rfl trivial (by kernel_rfl) rfl rfl rfl (Y5b (ltN g17) (by first | omega | (simp only [Zid, Zie, Zim, Ziw]; omega)))) (Y2 1 [59, 58, 1, 4, 6, 7] (Zhr t1 v6 v7) ?_))
    have ⟨g18, H⟩ := Y6 H
    change OpsW _ _ _ _ (Zhr t1 v6 v7) ((Zho v5 v6) ++ fmsH (Zik v6)) _
    refine OpsW.asU (.ref (Ziw t1 v6 v7) 0 (0 + (Zie t1 v6 v7).toNat * 1)) rfl rfl (T.idxF rfl rfl trivial trivial (by kernel_rfl) (by kernel_rfl) (row_f rfl rfl (ltN g17)) rfl rfl g18) ?_
    change OpsW _ _ _ _ (Zhz t1 v6 v7) ((Zho v5 v6) ++ fmsH (Zik v6)) _
    refine Y1x (enc := eB) (k := 1) (xs := v6.Up) (hc' := (Zhn t1 v5 v6 v7)) false true [.val (.bool true)] (Zid t1 v6 v7).toNat (Zie t1 v6 v7).toNat 0 rfl rfl rfl (by first | rfl | exact congrArg (AV.ref (Ziw t1 v6 v7) 0) (by first | omega | (simp only [Zid, Zie, Zij, Zik, Ziw]; omega))) trivial trivial rfl rfl (fun _ => rfl) rfl (by kernel_rfl) (Y5 (by kernel_rfl)) (ltN g17) (ltN g18) (X0 (by kernel_rfl)) rfl (by simp only [Xs, nsA_set, Zid, Zie, Zij, Zik, Zip, Zir, Zis, Ziw, Ziz, Zj1, Zhn, Zho, Zhr, Zhs, Zhz, Zib]) ?_
    change OpsW _ _ _ _ (Zhz t1 v6 v7) ((Zhn t1 v5 v6 v7) ++ fmsH [fmA 15060 4 1 eB (Zij t1 v6 v7), fmA 15061 4 1 eB v6.Down]) _
    refine Y2 0 [1, 4, 6, 7] (Zhs t1 v7) (Y1 ?_)
    exact ⟨(v5, (Zig t1 v6 v7)), H, (Yp (hc := (Zhn t1 v5 v6 v7)) (fs := [fmA 15060 4 1 eB (Zij t1 v6 v7), fmA 15061 4 1 eB v6.Down]) (hc' := [(4, ⟨0, true, 47, 4, (Zir v5)⟩), (6, ⟨0, true, 47, 4, [.j (Zig t1 v6 v7).W, .j (Zig t1 v6 v7).H, .rsl 5060 0 0 (Zig t1 v6 v7).Up.length, .rsl 5061 0 0 (Zig t1 v6 v7).Down.length]⟩), (5060, nsA 0 61 15060 (Zig t1 v6 v7).Up), (5061, nsA 0 61 15061 (Zig t1 v6 v7).Down)]) (fs' := [fmA 15060 4 1 eB (Zig t1 v6 v7).Up, fmA 15061 4 1 eB (Zig t1 v6 v7).Down]) rfl [(4, some 4), (6, some 6), (5060, some 5060), (5061, some 5061)] Zi8 rfl (.o rfl (.i4 .nil) (.o rfl (.i2 (.cons (.s rfl) (.cons (.s rfl) .nil))) (.o rfl (Yf rfl rfl (by decide) rfl rfl rfl) (.o rfl (Yf rfl rfl (by decide) rfl rfl rfl) .nil)))) rfl (.cons rfl (Ym rfl) (.cons rfl (Ym rfl) .nil)) (.cons .im (.cons (.r rfl) (.cons (.r rfl) (.cons .im .nil)))))⟩
   refine Ye ?_
   have ⟨g19, H⟩ := Y6 H
   refine Y8 4 [64, 9, 1, 4, 6, 7] ((64, .ref 5061 0 (0 + (Zid t1 v6 v7).toNat * 1)) :: (Zib t1 v6 v7)) ⟨g19, trivial⟩ (OpsW.asU (.rsl (Ziv t1 v6 v7) 0 0 ((v6.Down.getD (Zid t1 v6 v7).toNat []).length)) rfl rfl (Y2o rfl trivial (by kernel_rfl) rfl rfl rfl (Y5b (ltN g19) (by first | omega | (simp only [Zid, Zie, Zig, Zij, Ziv, Ziw]; omega)))) (Y2 1 [66, 65, 1, 4, 6, 7] (Zhq t1 v6 v7) ?_))
   have ⟨g20, H⟩ := Y6 H
   change OpsW _ _ _ _ (Zhq t1 v6 v7) ((Zho v5 v6) ++ fmsH (Zik v6)) _
   refine OpsW.asU (.ref (Ziv t1 v6 v7) 0 (0 + (Zie t1 v6 v7).toNat * 1)) rfl rfl (T.idxF rfl rfl trivial trivial (by kernel_rfl) (by kernel_rfl) (row_f rfl rfl (ltN g19)) rfl rfl g20) ?_
   change OpsW _ _ _ _ (Zi0 t1 v6 v7) ((Zho v5 v6) ++ fmsH (Zik v6)) _
   refine Y1x (enc := eB) (k := 1) (xs := v6.Down) (hc' := (Zhm t1 v5 v6 v7)) false true [.val (.bool true)] (Zid t1 v6 v7).toNat (Zie t1 v6 v7).toNat 0 rfl rfl rfl (by first | rfl | exact congrArg (AV.ref (Ziv t1 v6 v7) 0) (by first | omega | (simp only [Zid, Zie, Zii, Zik, Ziv]; omega))) trivial trivial rfl rfl (fun _ => rfl) rfl (by kernel_rfl) (Y5 (by kernel_rfl)) (ltN g19) (ltN g20) (X0 (by kernel_rfl)) rfl (by simp only [Xs, nsA_set, Zid, Zie, Zii, Zik, Zip, Zir, Zis, Ziv, Ziz, Zj1, Zhm, Zho, Zhq, Zhs, Zi0, Zib]) ?_
   change OpsW _ _ _ _ (Zi0 t1 v6 v7) ((Zhm t1 v5 v6 v7) ++ fmsH [fmA 15060 4 1 eB v6.Up, fmA 15061 4 1 eB (Zii t1 v6 v7)]) _
   refine Y2 0 [1, 4, 6, 7] (Zhs t1 v7) (Y1 ?_)
   exact ⟨(v5, (Zif t1 v6 v7)), H, (Yp (hc := (Zhm t1 v5 v6 v7)) (fs := [fmA 15060 4 1 eB v6.Up, fmA 15061 4 1 eB (Zii t1 v6 v7)]) (hc' := [(4, ⟨0, true, 47, 4, (Zir v5)⟩), (6, ⟨0, true, 47, 4, [.j (Zif t1 v6 v7).W, .j (Zif t1 v6 v7).H, .rsl 5060 0 0 (Zif t1 v6 v7).Up.length, .rsl 5061 0 0 (Zif t1 v6 v7).Down.length]⟩), (5060, nsA 0 61 15060 (Zif t1 v6 v7).Up), (5061, nsA 0 61 15061 (Zif t1 v6 v7).Down)]) (fs' := [fmA 15060 4 1 eB (Zif t1 v6 v7).Up, fmA 15061 4 1 eB (Zif t1 v6 v7).Down]) rfl [(4, some 4), (6, some 6), (5060, some 5060), (5061, some 5061)] Zi8 rfl (.o rfl (.i4 .nil) (.o rfl (.i2 (.cons (.s rfl) (.cons (.s rfl) .nil))) (.o rfl (Yf rfl rfl (by decide) rfl rfl rfl) (.o rfl (Yf rfl rfl (by decide) rfl rfl rfl) .nil)))) rfl (.cons rfl (Ym rfl) (.cons rfl (Ym rfl) .nil)) (.cons .im (.cons (.r rfl) (.cons (.r rfl) (.cons .im .nil)))))⟩
  rintro ⟨v10, v11⟩ H
  unfold Y50 at H
  change AW _ _ _ (Zhs t1 v7) ((Zhu v10 v11) ++ fmsH (Zit v11)) _
  refine Ye ?_
  have ⟨g12, H⟩ := Y6 H
  refine Y8 3 [7, 1, 4, 6] [(7, .j (v7 + 1)), (Zj1 t1), Zis, Ziz] ⟨g12, trivial⟩ (Y1 ?_)
  exact ⟨(v10, v11, v7 + 1), H, (Yp (hc := (Zhu v10 v11)) (fs := (Zit v11)) (hc' := (Zhu v10 v11)) (fs' := (Zit v11)) rfl [(4, some 4), (6, some 6), (5060, some 5060), (5061, some 5061)] Zi8 rfl (.o rfl (.i4 .nil) (.o rfl (.i2 (.cons (.s rfl) (.cons (.s rfl) .nil))) (.o rfl (Yf rfl rfl (by decide) rfl rfl rfl) (.o rfl (Yf rfl rfl (by decide) rfl rfl rfl) .nil)))) rfl (.cons rfl (Ym rfl) (.cons rfl (Ym rfl) .nil)) (.cons .im (.cons (.r rfl) (.cons (.r rfl) (.cons .im .nil)))))⟩
 refine AW.exit ?_
 refine Y0 (Y2 1 [68, 4] [(68, .agg (Zip v6)), Zis] ?_)
 refine OpsW.store rfl rfl rfl rfl trivial trivial rfl rfl rfl (by kernel_rfl) (Y5 (by kernel_rfl)) (X0 (by kernel_rfl)) ?_
 change OpsW _ _ _ _ _ ((Zia v5 v6) ++ fmsH (Zik v6)) _
 refine Y2 0 [4] [Zis] (Ya [Zis] ((Zhx v6) ++ fmsH (Ziu v6)) (Yp (hc := (Zia v5 v6)) (fs := (Zik v6)) (hc' := (Zhx v6)) (fs' := (Ziu v6)) rfl [(4, some 4), (5040, some 5060), (5041, some 5061)] [(15040, .same 15060), (15041, .same 15061)] rfl (.o rfl (.i2 (.cons (.s rfl) (.cons (.s rfl) .nil))) (.o rfl (Yf rfl rfl (by decide) rfl rfl rfl) (.o rfl (Yf rfl rfl (by decide) rfl rfl rfl) .nil))) rfl (.cons rfl (Ym rfl) (.cons rfl (Ym rfl) .nil)) (.cons (.r rfl) .nil)) (Y1 ?_))
 obtain rfl := X1 H
 refine AW.recast (env' := [(4, .ref 1000 0 0)]) (h' := ((Zi5 v6) ++ fmsH [fmA 11500 4 1 eB v6.Up, fmA 11501 4 1 eB v6.Down])) (Yp (hc := (Zhx v6)) (fs := (Ziu v6)) (hc' := (Zi5 v6)) (fs' := [fmA 11500 4 1 eB v6.Up, fmA 11501 4 1 eB v6.Down]) rfl [(1000, some 4), (1500, some 5040), (1501, some 5041)] [(11500, .same 15040), (11501, .same 15041)] rfl (.o rfl (.i2 (.cons (.s rfl) (.cons (.s rfl) .nil))) (.o rfl (Yf rfl rfl (by decide) rfl rfl rfl) (.o rfl (Yf rfl rfl (by decide) rfl rfl rfl) .nil))) rfl (.cons rfl (Ym rfl) (.cons rfl (Ym rfl) .nil)) (.cons (.r rfl) .nil)) (Yl ?_)
 try simp only [Ex.t, Ex.b]
 refine Y1k rfl (.cell rfl (by kernel_rfl) .nil) ?_
 exact ⟨by kernel_rfl, rfl⟩
end Go.Proofs.YtbcfmhoaocifoaaDoor
