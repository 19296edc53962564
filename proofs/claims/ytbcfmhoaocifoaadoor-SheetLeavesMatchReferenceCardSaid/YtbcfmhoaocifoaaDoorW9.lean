/- Own work. -/
import Derived.Test.YtbcfmhoaocifoaaDoorW8
set_option linter.unusedSimpArgs false
set_option linter.unusedVariables false
set_option maxRecDepth 100000
namespace Go.Proofs.YtbcfmhoaocifoaaDoor
open Go.Abs
def Y48 (loop6 : (Y4 × Y4 × Y4 × Int) → Option Y4) (v5 : Int) (loop12 : (Y4 × Y4 × Y4 × Int) → Option Y4) (v8 : Y4) (v9 : Y4) (v10 : Y4) (v11 : Int) : Option Y4 :=
 cond (decide (v11 < v8.W)) (
  G (0 ≤ v5 ∧ v5 < (v10.Up.length : Int)) <|
  G (0 ≤ v5 ∧ v5 < (v8.Down.length : Int)) <|
  G (inR (v8.W - 1)) <|
  G (inR ((v8.W - 1) - v11)) <|
  G (0 ≤ ((v8.W - 1) - v11) ∧ ((v8.W - 1) - v11) < ((v8.Down.getD v5.toNat []).length : Int)) <|
  G (0 ≤ v11 ∧ v11 < ((v10.Up.getD v5.toNat []).length : Int)) <|
  G (0 ≤ v5 ∧ v5 < (v10.Down.length : Int)) <|
  G (0 ≤ v5 ∧ v5 < (v8.Up.length : Int)) <|
  G (0 ≤ ((v8.W - 1) - v11) ∧ ((v8.W - 1) - v11) < ((v8.Up.getD v5.toNat []).length : Int)) <|
  G (0 ≤ v11 ∧ v11 < ((v10.Down.getD v5.toNat []).length : Int)) <|
  G (inR (v11 + 1)) <|
  loop12 (v8, v9, (⟨v10.W, v10.H, v10.Up.set v5.toNat ((v10.Up.getD v5.toNat []).set v11.toNat ((v8.Down.getD v5.toNat []).getD ((v8.W - 1) - v11).toNat false)), v10.Down.set v5.toNat ((v10.Down.getD v5.toNat []).set v11.toNat ((v8.Up.getD v5.toNat []).getD ((v8.W - 1) - v11).toNat false))⟩ : Y4), v11 + 1)) (
  G (inR (v5 + 1)) <|
  loop6 (v8, v9, v10, v5 + 1))
def Y47 (loop6 : (Y4 × Y4 × Y4 × Int) → Option Y4) (v2 : Y4) (v3 : Y4) (v4 : Y4) (v5 : Int) : Option Y4 :=
 cond (decide (v5 < v2.H)) (
  iter (fun loop (s : Y4 × Y4 × Y4 × Int) => Y48 loop6 v5 loop s.1 s.2.1 s.2.2.1 s.2.2.2) 1000000 (v2, v3, v4, (0 : Int))) (
  some v4)
def Y20 (t0 : Y4) : Option Y4 :=
 (Y1u t0.W t0.H).bind fun x1 =>
 iter (fun loop (s : Y4 × Y4 × Y4 × Int) => Y47 loop s.1 s.2.1 s.2.2.1 s.2.2.2) 1000000 (t0, (⟨(0 : Int), (0 : Int), [], []⟩ : Y4), x1, (0 : Int))
section
variable (t0 : Y4) (v2 : Y4) (v3 : Y4) (v4 : Y4) (v5 : Int) (v8 : Y4) (v9 : Y4) (v10 : Y4) (v11 : Int) (x1 : Y4)
abbrev Zkb := (⟨v10.W, v10.H, v10.Up.set v5.toNat ((v10.Up.getD v5.toNat []).set v11.toNat ((v8.Down.getD v5.toNat []).getD ((v8.W - 1) - v11).toNat false)), v10.Down.set v5.toNat ((v10.Down.getD v5.toNat []).set v11.toNat ((v8.Up.getD v5.toNat []).getD ((v8.W - 1) - v11).toNat false))⟩ : Y4)
abbrev Zkc := v10.Up.set v5.toNat ((v10.Up.getD v5.toNat []).set v11.toNat ((v8.Down.getD v5.toNat []).getD ((v8.W - 1) - v11).toNat false))
abbrev Zkd := v10.Down.set v5.toNat ((v10.Down.getD v5.toNat []).set v11.toNat ((v8.Up.getD v5.toNat []).getD ((v8.W - 1) - v11).toNat false))
abbrev Zke := [fmA 15030 4 1 eB v10.Up, fmA 15031 4 1 eB v10.Down]
abbrev Zkf := [fmA 10601 4 1 eB x1.Up, fmA 10602 4 1 eB x1.Down]
abbrev Zkg := [fmA 15030 4 1 eB v4.Up, fmA 15031 4 1 eB v4.Down]
abbrev Zkh : List AV := [.j (0 : Int), .j (0 : Int), .im (.val (.slice none 0 0)), .im (.val (.slice none 0 0))]
abbrev Zki := (⟨(0 : Int), (0 : Int), [], []⟩ : Y4)
abbrev Zkj := (v8.Down.getD v5.toNat []).getD ((v8.W - 1) - v11).toNat false
abbrev Zkk := (v8.Up.getD v5.toNat []).getD ((v8.W - 1) - v11).toNat false
abbrev Zkl : List AV := [.j v4.W, .j v4.H, .rsl 5030 0 0 v4.Up.length, .rsl 5031 0 0 v4.Down.length]
abbrev Zkm := [fmA 15030 4 1 eB x1.Up, fmA 15031 4 1 eB x1.Down]
abbrev Zkn : List AV := [.j t0.W, .j t0.H, sD t0.Up, sD t0.Down]
abbrev Zko : List AV := [.j v8.W, .j v8.H, sD v8.Up, sD v8.Down]
abbrev Zkp : List AV := [.j v9.W, .j v9.H, sD v9.Up, sD v9.Down]
abbrev Zkq := [fmA 15020 4 1 eB v4.Up, fmA 15021 4 1 eB v4.Down]
abbrev Zkr := [fmA 15030 4 1 eB (Zkc v5 v8 v10 v11), fmA 15031 4 1 eB v10.Down]
abbrev Zks := fid 15030 v5.toNat
abbrev Zkt := fid 15031 v5.toNat
abbrev Zku : Nat × AV := (2, .ref 2 0 0)
abbrev Zkv : List AV := [.j x1.W, .j x1.H, .rsl 5030 0 0 x1.Up.length, .rsl 5031 0 0 x1.Down.length]
abbrev Zkw : List AV := [.j x1.W, .j x1.H, .rsl 1500 0 0 x1.Up.length, .rsl 1501 0 0 x1.Down.length]
abbrev Zkx : Nat × AV := (3, .ref 3 0 0)
abbrev Zky : List AV := [.j x1.W, .j x1.H, .rsl 601 0 0 x1.Up.length, .rsl 602 0 0 x1.Down.length]
abbrev Zjq : Hp := [(1, ⟨0, true, 47, 4, (Zko v8)⟩), (2, ⟨0, true, 47, 4, (Zkp v9)⟩), (3, ⟨0, true, 47, 4, [.j v10.W, .j v10.H, .rsl 5030 0 0 ((Zkc v5 v8 v10 v11).length), .rsl 5031 0 0 v10.Down.length]⟩), (5030, nsA 0 61 15030 (Zkc v5 v8 v10 v11)), (5031, nsA 0 61 15031 v10.Down)]
abbrev Zjr : Hp := [(1, ⟨0, true, 47, 4, (Zko v8)⟩), (2, ⟨0, true, 47, 4, (Zkp v9)⟩), (3, ⟨0, true, 47, 4, [.j v10.W, .j v10.H, .rsl 5030 0 0 ((Zkc v5 v8 v10 v11).length), .rsl 5031 0 0 ((Zkd v5 v8 v10 v11).length)]⟩), (5030, nsA 0 61 15030 (Zkc v5 v8 v10 v11)), (5031, nsA 0 61 15031 (Zkd v5 v8 v10 v11))]
abbrev Zjs : Hp := [(1, ⟨0, true, 47, 4, (Zkn t0)⟩), (2, ⟨0, true, 47, 4, Zkh⟩)]
abbrev Zjt : Hp := [(1, ⟨0, true, 47, 4, (Zko v8)⟩), (2, ⟨0, true, 47, 4, (Zkp v9)⟩), (3, ⟨0, true, 47, 4, [.j v10.W, .j v10.H, .rsl 5030 0 0 v10.Up.length, .rsl 5031 0 0 v10.Down.length]⟩), (5030, nsA 0 61 15030 v10.Up), (5031, nsA 0 61 15031 v10.Down)]
abbrev Zju : Hp := [(1, ⟨0, true, 47, 4, [.j v2.W, .j v2.H, sD v2.Up, sD v2.Down]⟩), (2, ⟨0, true, 47, 4, [.j v3.W, .j v3.H, sD v3.Up, sD v3.Down]⟩), (3, ⟨0, true, 47, 4, (Zkl v4)⟩), (5030, nsA 0 61 15030 v4.Up), (5031, nsA 0 61 15031 v4.Down)]
abbrev Zjv : Env := [(1, .ref 1 0 0), Zku, Zkx, (4, .j v5), (5, .j v11)]
abbrev Zjw : Hp := [(1, ⟨0, true, 47, 4, (Zkn t0)⟩), (2, ⟨0, true, 47, 4, Zkh⟩), (3, ⟨0, true, 47, 4, (Zkv x1)⟩), (5030, nsA 0 61 15030 x1.Up), (5031, nsA 0 61 15031 x1.Down)]
abbrev Zjx : Env := (40, .bool (Zkj v5 v8 v11)) :: (28, .j v11) :: (27, .rsl (Zks v5) 0 0 ((v10.Up.getD v5.toNat []).length)) :: (Zjv v5 v11)
abbrev Zjy : Env := (59, .bool (Zkk v5 v8 v11)) :: (47, .j v11) :: (46, .rsl (Zkt v5) 0 0 ((v10.Down.getD v5.toNat []).length)) :: (Zjv v5 v11)
abbrev Zjz : Env := (32, .ipt (v8.Down.flatMap (eL eB)) (v5.toNat * 1)) :: (31, .j v5) :: (30, sD v8.Down) :: (29, .ref 1 0 3) :: (28, .j v11) :: (27, .rsl (Zks v5) 0 0 ((v10.Up.getD v5.toNat []).length)) :: (26, .ref 5030 0 (0 + v5.toNat * 1)) :: (25, .j v5) :: (24, .rsl 5030 0 0 v10.Up.length) :: (23, .ref 3 0 2) :: (20, .bool (decide (v11 < v8.W))) :: (Zjv v5 v11)
abbrev Zk0 : Hp := [(2, ⟨0, true, 47, 4, [.j v4.W, .j v4.H, .rsl 5020 0 0 v4.Up.length, .rsl 5021 0 0 v4.Down.length]⟩), (5020, nsA 0 61 15020 v4.Up), (5021, nsA 0 61 15021 v4.Down)]
abbrev Zk1 : Env := (51, .ipt (v8.Up.flatMap (eL eB)) (v5.toNat * 1)) :: (50, .j v5) :: (49, sD v8.Up) :: (48, .ref 1 0 2) :: (47, .j v11) :: (46, .rsl (Zkt v5) 0 0 ((v10.Down.getD v5.toNat []).length)) :: (45, .ref 5031 0 (0 + v5.toNat * 1)) :: (44, .j v5) :: (43, .rsl 5031 0 0 v10.Down.length) :: (42, .ref 3 0 3) :: (Zjv v5 v11)
abbrev Zk2 : Hp := (3, ⟨0, true, 47, 4, (Zky x1)⟩) :: (3, ⟨0, true, 47, 4, Zkh⟩) :: (601, nsA 0 61 10601 x1.Up) :: (602, nsA 0 61 10602 x1.Down) :: (Zjs t0)
abbrev Zk3 : Env := [Zku, (1, .ref 1 0 0)]
abbrev Zk4 : Hp := (1000, ⟨0, true, 47, 4, (Zkw x1)⟩) :: (1500, nsA 0 61 11500 x1.Up) :: (1501, nsA 0 61 11501 x1.Down) :: (Zjs t0)
abbrev Zk5 : Hp := [(1000, ⟨0, true, 47, 4, [.j v4.W, .j v4.H, .rsl 1500 0 0 v4.Up.length, .rsl 1501 0 0 v4.Down.length]⟩), (1500, nsA 0 61 11500 v4.Up), (1501, nsA 0 61 11501 v4.Down)]
abbrev Zk6 : Env := [(1, .ref 1 0 0), Zku, Zkx, (4, .j v5)]
abbrev Zk7 : List (Nat × FM) := [(15030, .same 15030), (15031, .same 15031)]
abbrev Zk8 : Hp := (601, nsA 0 61 10601 x1.Up) :: (602, nsA 0 61 10602 x1.Down) :: (Zjs t0)
abbrev Zk9 : Env := (10, .agg (Zky x1)) :: (9, .j t0.H) :: (7, .j t0.W) :: Zk3
abbrev Zka : Hp := (2, ⟨0, true, 47, 4, (Zkl v4)⟩) :: (Zju v2 v3 v4)
end
theorem f_R25_Turned_own {t0 : Y4} {r : Y4} (H : Y20 t0 = some r) : Abs.Spec Tryd.prog 22 [.agg [.int .i64 t0.W, .int .i64 t0.H, slA (eL eB) t0.Up, slA (eL eB) t0.Down]] [] (fun x h => x = .agg [.int .i64 r.W, .int .i64 r.H, .rsl 1500 0 0 r.Up.length, .rsl 1501 0 0 r.Down.length] ∧ h = ([(1000, ⟨0, true, 47, 4, [.int .i64 r.W, .int .i64 r.H, .rsl 1500 0 0 r.Up.length, .rsl 1501 0 0 r.Down.length]⟩), (1500, nsA 0 61 11500 r.Up), (1501, nsA 0 61 11501 r.Down)] ++ fmsH [fmA 11500 4 1 eB r.Up, fmA 11501 4 1 eB r.Down])) := by
 refine Yj Tryd.func22 rfl (by simp [Tryd.ntmps22]) ?_
 rw [Tryd.ntmps22]
 unfold Y20 at H
 change AW _ _ _ [(0, .agg (Zkn t0))] [] _
 refine Y0 (OpsW.box rfl rfl rfl 1 rfl (Y5 (by kernel_rfl)) ?_)
 change OpsW _ _ _ _ _ [(1, ⟨0, true, 47, 4, (Zkn t0)⟩)] _
 refine Yo rfl rfl rfl 2 rfl (by kernel_rfl : zc Tryd.prog 47 = some [.j 0, .j 0, .slice none 0 0, .slice none 0 0]) (by kernel_rfl) (Y2 0 [2, 1] Zk3 (Ya Zk3 (Zjs t0) (StC.mk (phi [(1, some 1), (2, some 2)]) (.o rfl (.i4 .nil) (.o rfl (.i4 .nil) .nil)) rfl (.cons (.r rfl) (.cons (.r rfl) .nil))) ?_))
 refine Y1 (Y0 (Y2 4 [9, 7, 2, 1] ((9, .j t0.H) :: (7, .j t0.W) :: Zk3) ?_))
 have ⟨x1, hx1, H⟩ := Yt H
 refine OpsW.call rfl rfl (by kernel_rfl) [] _ _ rfl (Yg trivial) (.cons (.pur rfl) (.cons (.pur rfl) .nil)) (Y27 hx1) ?_
 rintro _ _ ⟨rfl, rfl⟩
 refine ⟨(fresh_F0 rfl rfl), .inl rfl, ?_⟩
 refine OpsW.heapEq (heap_mid0 rfl) ?_
 change OpsW _ _ _ _ ((10, .agg (Zkw x1)) :: (9, .j t0.H) :: (7, .j t0.W) :: Zk3) ((Zk4 t0 x1) ++ fmsH [fmA 11500 4 1 eB x1.Up, fmA 11501 4 1 eB x1.Down]) _
 refine Ya (Zk9 t0 x1) ((Zk8 t0 x1) ++ fmsH (Zkf x1)) (Yp (hc := (Zk4 t0 x1)) (fs := [fmA 11500 4 1 eB x1.Up, fmA 11501 4 1 eB x1.Down]) (hc' := (Zk8 t0 x1)) (fs' := (Zkf x1)) rfl [(601, some 1500), (602, some 1501), (1, some 1), (2, some 2)] [(10601, .same 11500), (10602, .same 11501)] rfl (.o rfl (Yf rfl rfl (by decide) rfl rfl rfl) (.o rfl (Yf rfl rfl (by decide) rfl rfl rfl) (.o rfl (.i4 .nil) (.o rfl (.i4 .nil) .nil)))) rfl (.cons rfl (Ym rfl) (.cons rfl (Ym rfl) .nil)) (.cons (.agg (.i2 (.cons (.s rfl) (.cons (.s rfl) .nil)))) (.i2 (.cons (.r rfl) (.cons (.r rfl) .nil))))) ?_
 change OpsW _ _ _ _ (Zk9 t0 x1) ((Zk8 t0 x1) ++ fmsH (Zkf x1)) _
 refine Yo rfl rfl rfl 3 (Y4r rfl) (by kernel_rfl : zc Tryd.prog 47 = some [.j 0, .j 0, .slice none 0 0, .slice none 0 0]) (by kernel_rfl) (OpsW.store rfl rfl rfl rfl trivial trivial rfl rfl rfl (by kernel_rfl) (Y5 (by kernel_rfl)) (X0 (by kernel_rfl)) ?_)
 change OpsW _ _ _ _ _ ((Zk2 t0 x1) ++ fmsH (Zkf x1)) _
 refine Y2 0 [3, 2, 1] (Zkx :: Zk3) (Ya (Zkx :: Zk3) ((Zjw t0 x1) ++ fmsH (Zkm x1)) (Yp (hc := (Zk2 t0 x1)) (fs := (Zkf x1)) (hc' := (Zjw t0 x1)) (fs' := (Zkm x1)) rfl [(1, some 1), (2, some 2), (3, some 3), (5030, some 601), (5031, some 602)] [(15030, .same 10601), (15031, .same 10602)] rfl (.o rfl (.i4 .nil) (.o rfl (.i4 .nil) (.o rfl (.i2 (.cons (.s rfl) (.cons (.s rfl) .nil))) (.o rfl (Yf rfl rfl (by decide) rfl rfl rfl) (.o rfl (Yf rfl rfl (by decide) rfl rfl rfl) .nil))))) rfl (.cons rfl (Ym rfl) (.cons rfl (Ym rfl) .nil)) (.cons (.r rfl) (.cons (.r rfl) (.cons (.r rfl) .nil)))) ?_)
 refine Y1 (Yc (Y0 (Y2 1 [4, 3, 2, 1] ((4, .j (0 : Int)) :: Zkx :: Zk3) ?_)))
 refine Y1 (Yd ?_)
 refine Yq (fun loop (s : Y4 × Y4 × Y4 × Int) => Y47 loop s.1 s.2.1 s.2.2.1 s.2.2.2) r (fun (s : Y4 × Y4 × Y4 × Int) => [(1, .ref 1 0 0), Zku, Zkx, (4, .j s.2.2.2)]) (fun (s : Y4 × Y4 × Y4 × Int) => ([(1, ⟨0, true, 47, 4, [.j s.1.W, .j s.1.H, sD s.1.Up, sD s.1.Down]⟩), (2, ⟨0, true, 47, 4, [.j s.2.1.W, .j s.2.1.H, sD s.2.1.Up, sD s.2.1.Down]⟩), (3, ⟨0, true, 47, 4, [.j s.2.2.1.W, .j s.2.2.1.H, .rsl 5030 0 0 s.2.2.1.Up.length, .rsl 5031 0 0 s.2.2.1.Down.length]⟩), (5030, nsA 0 61 15030 s.2.2.1.Up), (5031, nsA 0 61 15031 s.2.2.1.Down)] ++ fmsH [fmA 15030 4 1 eB s.2.2.1.Up, fmA 15031 4 1 eB s.2.2.1.Down])) ?_ 1000000 (t0, Zki, x1, (0 : Int)) H (Yp (hc := (Zjw t0 x1)) (fs := (Zkm x1)) (hc' := [(1, ⟨0, true, 47, 4, (Zkn t0)⟩), (2, ⟨0, true, 47, 4, [.j Zki.W, .j Zki.H, sD Zki.Up, sD Zki.Down]⟩), (3, ⟨0, true, 47, 4, (Zkv x1)⟩), (5030, nsA 0 61 15030 x1.Up), (5031, nsA 0 61 15031 x1.Down)]) (fs' := (Zkm x1)) rfl [(1, some 1), (2, some 2), (3, some 3), (5030, some 5030), (5031, some 5031)] Zk7 rfl (.o rfl (.i4 .nil) (.o rfl (.i2 (.cons .nil (.cons .nil .nil))) (.o rfl (.i2 (.cons (.s rfl) (.cons (.s rfl) .nil))) (.o rfl (Yf rfl rfl (by decide) rfl rfl rfl) (.o rfl (Yf rfl rfl (by decide) rfl rfl rfl) .nil))))) rfl (.cons rfl (Ym rfl) (.cons rfl (Ym rfl) .nil)) (.cons (.r rfl) (.cons (.r rfl) (.cons (.r rfl) (.cons .im .nil)))))
 intro loop6 s H
 obtain ⟨v2, v3, v4, v5⟩ := s
 unfold Y47 at H
 change AW _ _ _ (Zk6 v5) ((Zju v2 v3 v4) ++ fmsH (Zkg v4)) _
 refine Yc (Y0 (Y2 4 [14, 1, 2, 3, 4] ((14, .bool (decide (v5 < v2.H))) :: (Zk6 v5)) ?_))
 refine Y1 (Y9 (b := decide (v5 < v2.H)) H rfl (fun c7 H => ?_) (fun c7 H => ?_))
 ·refine Yb (Yc (Yd (Y0 (Y2 1 [5, 1, 2, 3, 4] ((5, .j (0 : Int)) :: (Zk6 v5)) ?_))))
  refine Y1 (Yd ?_)
  refine Yq (fun loop (s : Y4 × Y4 × Y4 × Int) => Y48 loop6 v5 loop s.1 s.2.1 s.2.2.1 s.2.2.2) r (fun (s : Y4 × Y4 × Y4 × Int) => [(1, .ref 1 0 0), Zku, Zkx, (4, .j v5), (5, .j s.2.2.2)]) (fun (s : Y4 × Y4 × Y4 × Int) => ([(1, ⟨0, true, 47, 4, [.j s.1.W, .j s.1.H, sD s.1.Up, sD s.1.Down]⟩), (2, ⟨0, true, 47, 4, [.j s.2.1.W, .j s.2.1.H, sD s.2.1.Up, sD s.2.1.Down]⟩), (3, ⟨0, true, 47, 4, [.j s.2.2.1.W, .j s.2.2.1.H, .rsl 5030 0 0 s.2.2.1.Up.length, .rsl 5031 0 0 s.2.2.1.Down.length]⟩), (5030, nsA 0 61 15030 s.2.2.1.Up), (5031, nsA 0 61 15031 s.2.2.1.Down)] ++ fmsH [fmA 15030 4 1 eB s.2.2.1.Up, fmA 15031 4 1 eB s.2.2.1.Down])) ?_ 1000000 (v2, v3, v4, (0 : Int)) H (Yp (hc := (Zju v2 v3 v4)) (fs := (Zkg v4)) (hc' := (Zju v2 v3 v4)) (fs' := (Zkg v4)) rfl [(1, some 1), (2, some 2), (3, some 3), (5030, some 5030), (5031, some 5031)] Zk7 rfl (.o rfl (.i4 .nil) (.o rfl (.i4 .nil) (.o rfl (.i2 (.cons (.s rfl) (.cons (.s rfl) .nil))) (.o rfl (Yf rfl rfl (by decide) rfl rfl rfl) (.o rfl (Yf rfl rfl (by decide) rfl rfl rfl) .nil))))) rfl (.cons rfl (Ym rfl) (.cons rfl (Ym rfl) .nil)) (.cons (.r rfl) (.cons (.r rfl) (.cons (.r rfl) (.i2 .nil)))))
  intro loop12 s H
  obtain ⟨v8, v9, v10, v11⟩ := s
  unfold Y48 at H
  change AW _ _ _ (Zjv v5 v11) ((Zjt v8 v9 v10) ++ fmsH (Zke v10)) _
  refine Yc (Y0 (Y2 4 [20, 1, 2, 3, 4, 5] ((20, .bool (decide (v11 < v8.W))) :: (Zjv v5 v11)) ?_))
  refine Y1 (Y9 (b := decide (v11 < v8.W)) H rfl (fun c13 H => ?_) (fun c13 H => ?_))
  ·refine Yb (Yc (Yd (AW.drawTSeq 18 Tryd.checked.mixed (by kernel_rfl) ?_)))
   have ⟨g14, H⟩ := Y6 H
   refine QOps.sz (N := 62) 4 ((26, .ref 5030 0 (0 + v5.toNat * 1)) :: (25, .j v5) :: (24, .rsl 5030 0 0 v10.Up.length) :: (23, .ref 3 0 2) :: (20, .bool (decide (v11 < v8.W))) :: (Zjv v5 v11)) ⟨g14, trivial⟩ (QOps.asU (.rsl (Zks v5) 0 0 ((v10.Up.getD v5.toNat []).length)) rfl (Y2o rfl trivial (by kernel_rfl) rfl rfl rfl (Y5b (ltN g14) (by first | omega | (simp only [Zke, Zks]; omega)))) ?_)
   have ⟨g15, H⟩ := Y6 H
   refine QOps.sz (N := 62) 5 (Zjz v5 v8 v10 v11) ⟨g15, trivial⟩ (QOps.asU (slA eB (v8.Down.getD v5.toNat [])) rfl (T.load rfl trivial (by kernel_rfl) (Yn (eL eB) 1 (fun _ => rfl) v8.Down [] v5.toNat (ltN g15) (fun a => .sl (a.flatMap eB) a.length) (fun _ => rfl))) ?_)
   have ⟨g16, H⟩ := Y6 H
   have ⟨g17, H⟩ := Y6 H
   have ⟨g18, H⟩ := Y6 H
   refine QOps.sz (N := 62) 6 ((39, .ipt ((v8.Down.getD v5.toNat []).flatMap eB) (((v8.W - 1) - v11).toNat * 1)) :: (38, .j ((v8.W - 1) - v11)) :: (37, .j v11) :: (36, .j (v8.W - 1)) :: (35, .j v8.W) :: (34, .ref 1 0 0) :: (33, slA eB (v8.Down.getD v5.toNat [])) :: (Zjz v5 v8 v10 v11)) ⟨g16, g17, g18, trivial⟩ (QOps.asU (.bool (Zkj v5 v8 v11)) rfl (T.load rfl trivial (by kernel_rfl) (Yn eB 1 (fun _ => rfl) (v8.Down.getD v5.toNat []) false ((v8.W - 1) - v11).toNat (ltN g18) (fun a => .val (.bool a)) (fun _ => rfl))) ?_)
   refine QOps.nil (Y2 0 [40, 28, 27, 1, 2, 3, 4, 5] (Zjx v5 v8 v10 v11) ?_)
   have ⟨g19, H⟩ := Y6 H
   change OpsW _ _ _ _ (Zjx v5 v8 v10 v11) ((Zjt v8 v9 v10) ++ fmsH (Zke v10)) _
   refine OpsW.asU (.ref (Zks v5) 0 (0 + v11.toNat * 1)) rfl rfl (T.idxF rfl rfl trivial trivial (by kernel_rfl) (by kernel_rfl) (row_f rfl rfl (ltN g14)) rfl rfl g19) ?_
   change OpsW _ _ _ _ ((41, .ref (Zks v5) 0 (0 + v11.toNat * 1)) :: (Zjx v5 v8 v10 v11)) ((Zjt v8 v9 v10) ++ fmsH (Zke v10)) _
   refine Y1x (enc := eB) (k := 1) (xs := v10.Up) (hc' := (Zjq v5 v8 v9 v10 v11)) false (Zkj v5 v8 v11) [.val (.bool (Zkj v5 v8 v11))] v5.toNat v11.toNat 0 rfl rfl rfl (by first | rfl | exact congrArg (AV.ref (Zks v5) 0) (by first | omega | (simp only [Zkc, Zke, Zkj, Zks]; omega))) trivial trivial rfl rfl (fun _ => rfl) rfl (by kernel_rfl) (Y5 (by kernel_rfl)) (ltN g14) (ltN g19) (X0 (by kernel_rfl)) rfl (by simp only [Xs, nsA_set, Zkc, Zke, Zkj, Zko, Zkp, Zks, Zku, Zkx, Zjq, Zjt, Zjv, Zjx]) ?_
   change OpsW _ _ _ _ ((41, .ref (Zks v5) 0 (0 + v11.toNat * 1)) :: (Zjx v5 v8 v10 v11)) ((Zjq v5 v8 v9 v10 v11) ++ fmsH (Zkr v5 v8 v10 v11)) _
   refine Y2 0 [1, 2, 3, 4, 5] (Zjv v5 v11) ?_
   refine Y1 (AW.drawT 18 Tryd.checked.mixed (by kernel_rfl) ?_)
   have ⟨g20, H⟩ := Y6 H
   refine QOps.sz (N := 62) 4 ((45, .ref 5031 0 (0 + v5.toNat * 1)) :: (44, .j v5) :: (43, .rsl 5031 0 0 v10.Down.length) :: (42, .ref 3 0 3) :: (Zjv v5 v11)) ⟨g20, trivial⟩ (QOps.asU (.rsl (Zkt v5) 0 0 ((v10.Down.getD v5.toNat []).length)) rfl (Y2o rfl trivial (by kernel_rfl) rfl rfl rfl (Y5b (ltN g20) (by first | omega | (simp only [Zkc, Zkj, Zkr, Zks, Zkt]; omega)))) ?_)
   have ⟨g21, H⟩ := Y6 H
   refine QOps.sz (N := 62) 5 (Zk1 v5 v8 v10 v11) ⟨g21, trivial⟩ (QOps.asU (slA eB (v8.Up.getD v5.toNat [])) rfl (T.load rfl trivial (by kernel_rfl) (Yn (eL eB) 1 (fun _ => rfl) v8.Up [] v5.toNat (ltN g21) (fun a => .sl (a.flatMap eB) a.length) (fun _ => rfl))) ?_)
   have ⟨g22, H⟩ := Y6 H
   refine QOps.sz (N := 62) 6 ((58, .ipt ((v8.Up.getD v5.toNat []).flatMap eB) (((v8.W - 1) - v11).toNat * 1)) :: (57, .j ((v8.W - 1) - v11)) :: (56, .j v11) :: (55, .j (v8.W - 1)) :: (54, .j v8.W) :: (53, .ref 1 0 0) :: (52, slA eB (v8.Up.getD v5.toNat [])) :: (Zk1 v5 v8 v10 v11)) ⟨g16, g17, g22, trivial⟩ (QOps.asU (.bool (Zkk v5 v8 v11)) rfl (T.load rfl trivial (by kernel_rfl) (Yn eB 1 (fun _ => rfl) (v8.Up.getD v5.toNat []) false ((v8.W - 1) - v11).toNat (ltN g22) (fun a => .val (.bool a)) (fun _ => rfl))) ?_)
   refine QOps.nil (Y2 0 [59, 47, 46, 1, 2, 3, 4, 5] (Zjy v5 v8 v10 v11) ?_)
   have ⟨g23, H⟩ := Y6 H
   change OpsW _ _ _ _ (Zjy v5 v8 v10 v11) ((Zjq v5 v8 v9 v10 v11) ++ fmsH (Zkr v5 v8 v10 v11)) _
   refine OpsW.asU (.ref (Zkt v5) 0 (0 + v11.toNat * 1)) rfl rfl (T.idxF rfl rfl trivial trivial (by kernel_rfl) (by kernel_rfl) (row_f rfl rfl (ltN g20)) rfl rfl g23) ?_
   change OpsW _ _ _ _ ((60, .ref (Zkt v5) 0 (0 + v11.toNat * 1)) :: (Zjy v5 v8 v10 v11)) ((Zjq v5 v8 v9 v10 v11) ++ fmsH (Zkr v5 v8 v10 v11)) _
   refine Y1x (enc := eB) (k := 1) (xs := v10.Down) (hc' := (Zjr v5 v8 v9 v10 v11)) false (Zkk v5 v8 v11) [.val (.bool (Zkk v5 v8 v11))] v5.toNat v11.toNat 0 rfl rfl rfl (by first | rfl | exact congrArg (AV.ref (Zkt v5) 0) (by first | omega | (simp only [Zkc, Zkd, Zkk, Zkr, Zkt]; omega))) trivial trivial rfl rfl (fun _ => rfl) rfl (by kernel_rfl) (Y5 (by kernel_rfl)) (ltN g20) (ltN g23) (X0 (by kernel_rfl)) rfl (by simp only [Xs, nsA_set, Zkc, Zkd, Zkk, Zko, Zkp, Zkr, Zkt, Zku, Zkx, Zjq, Zjr, Zjv, Zjy]) ?_
   change OpsW _ _ _ _ ((60, .ref (Zkt v5) 0 (0 + v11.toNat * 1)) :: (Zjy v5 v8 v10 v11)) ((Zjr v5 v8 v9 v10 v11) ++ fmsH [fmA 15030 4 1 eB (Zkc v5 v8 v10 v11), fmA 15031 4 1 eB (Zkd v5 v8 v10 v11)]) _
   refine Y2 0 [1, 2, 3, 4, 5] (Zjv v5 v11) ?_
   refine Y1 (Ye ?_)
   have ⟨g24, H⟩ := Y6 H
   refine Y8 3 [5, 1, 2, 3, 4] ((5, .j (v11 + 1)) :: (Zk6 v5)) ⟨g24, trivial⟩ (Y1 ?_)
   exact ⟨(v8, v9, (Zkb v5 v8 v10 v11), v11 + 1), H, (Yp (hc := (Zjr v5 v8 v9 v10 v11)) (fs := [fmA 15030 4 1 eB (Zkc v5 v8 v10 v11), fmA 15031 4 1 eB (Zkd v5 v8 v10 v11)]) (hc' := [(1, ⟨0, true, 47, 4, (Zko v8)⟩), (2, ⟨0, true, 47, 4, (Zkp v9)⟩), (3, ⟨0, true, 47, 4, [.j (Zkb v5 v8 v10 v11).W, .j (Zkb v5 v8 v10 v11).H, .rsl 5030 0 0 (Zkb v5 v8 v10 v11).Up.length, .rsl 5031 0 0 (Zkb v5 v8 v10 v11).Down.length]⟩), (5030, nsA 0 61 15030 (Zkb v5 v8 v10 v11).Up), (5031, nsA 0 61 15031 (Zkb v5 v8 v10 v11).Down)]) (fs' := [fmA 15030 4 1 eB (Zkb v5 v8 v10 v11).Up, fmA 15031 4 1 eB (Zkb v5 v8 v10 v11).Down]) rfl [(1, some 1), (2, some 2), (3, some 3), (5030, some 5030), (5031, some 5031)] Zk7 rfl (.o rfl (.i4 .nil) (.o rfl (.i4 .nil) (.o rfl (.i2 (.cons (.s rfl) (.cons (.s rfl) .nil))) (.o rfl (Yf rfl rfl (by decide) rfl rfl rfl) (.o rfl (Yf rfl rfl (by decide) rfl rfl rfl) .nil))))) rfl (.cons rfl (Ym rfl) (.cons rfl (Ym rfl) .nil)) (.cons (.r rfl) (.cons (.r rfl) (.cons (.r rfl) (.i2 .nil)))))⟩
  refine AW.exit (Ye ?_)
  have ⟨g25, H⟩ := Y6 H
  refine Y8 3 [4, 1, 2, 3] [(4, .j (v5 + 1)), (1, .ref 1 0 0), Zku, Zkx] ⟨g25, trivial⟩ (Y1 ?_)
  exact ⟨(v8, v9, v10, v5 + 1), H, (Yp (hc := (Zjt v8 v9 v10)) (fs := (Zke v10)) (hc' := (Zjt v8 v9 v10)) (fs' := (Zke v10)) rfl [(1, some 1), (2, some 2), (3, some 3), (5030, some 5030), (5031, some 5031)] Zk7 rfl (.o rfl (.i4 .nil) (.o rfl (.i4 .nil) (.o rfl (.i2 (.cons (.s rfl) (.cons (.s rfl) .nil))) (.o rfl (Yf rfl rfl (by decide) rfl rfl rfl) (.o rfl (Yf rfl rfl (by decide) rfl rfl rfl) .nil))))) rfl (.cons rfl (Ym rfl) (.cons rfl (Ym rfl) .nil)) (.cons (.r rfl) (.cons (.r rfl) (.cons (.r rfl) (.cons .im .nil)))))⟩
 refine AW.exit ?_
 refine Y0 (Y2 1 [61, 2] [(61, .agg (Zkl v4)), Zku] ?_)
 refine OpsW.store rfl rfl rfl rfl trivial trivial rfl rfl rfl (by kernel_rfl) (Y5 (by kernel_rfl)) (X0 (by kernel_rfl)) ?_
 change OpsW _ _ _ _ _ ((Zka v2 v3 v4) ++ fmsH (Zkg v4)) _
 refine Y2 0 [2] [Zku] (Ya [Zku] ((Zk0 v4) ++ fmsH (Zkq v4)) (Yp (hc := (Zka v2 v3 v4)) (fs := (Zkg v4)) (hc' := (Zk0 v4)) (fs' := (Zkq v4)) rfl [(2, some 2), (5020, some 5030), (5021, some 5031)] [(15020, .same 15030), (15021, .same 15031)] rfl (.o rfl (.i2 (.cons (.s rfl) (.cons (.s rfl) .nil))) (.o rfl (Yf rfl rfl (by decide) rfl rfl rfl) (.o rfl (Yf rfl rfl (by decide) rfl rfl rfl) .nil))) rfl (.cons rfl (Ym rfl) (.cons rfl (Ym rfl) .nil)) (.cons (.r rfl) .nil)) (Y1 ?_))
 obtain rfl := X1 H
 refine AW.recast (env' := [(2, .ref 1000 0 0)]) (h' := ((Zk5 v4) ++ fmsH [fmA 11500 4 1 eB v4.Up, fmA 11501 4 1 eB v4.Down])) (Yp (hc := (Zk0 v4)) (fs := (Zkq v4)) (hc' := (Zk5 v4)) (fs' := [fmA 11500 4 1 eB v4.Up, fmA 11501 4 1 eB v4.Down]) rfl [(1000, some 2), (1500, some 5020), (1501, some 5021)] [(11500, .same 15020), (11501, .same 15021)] rfl (.o rfl (.i2 (.cons (.s rfl) (.cons (.s rfl) .nil))) (.o rfl (Yf rfl rfl (by decide) rfl rfl rfl) (.o rfl (Yf rfl rfl (by decide) rfl rfl rfl) .nil))) rfl (.cons rfl (Ym rfl) (.cons rfl (Ym rfl) .nil)) (.cons (.r rfl) .nil)) (Yl ?_)
 try simp only [Ex.t, Ex.b]
 refine Y1k rfl (.cell rfl (by kernel_rfl) .nil) ?_
 exact ⟨by kernel_rfl, rfl⟩
theorem f_R25_Turned_ok  {t0 : Y4} {r : Y4} (H : Y20 t0 = some r) : QSpec Tryd.prog 22 [.agg [.int .i64 t0.W, .int .i64 t0.H, slA (eL eB) t0.Up, slA (eL eB) t0.Down]] (.agg [.int .i64 r.W, .int .i64 r.H, slA (eL eB) r.Up, slA (eL eB) r.Down]) := by
 exact QSpec.of_ownF (f_R25_Turned_own H) (.agg (.cons .im (.cons .im (.cons (Y10 rfl rfl (fun _ => rfl) rfl rfl rfl) (.cons (Y10 rfl rfl (fun _ => rfl) rfl rfl rfl) .nil)))))
def Y3a (v3 : Y3) (v4 : Y3) : Option Y3 :=
 some v4
def f_R19_Made (t0 : S_Raw') : Option Y3 :=
 G (inR ((24 : Int) + (IntKind.wrap .i64 (Int.tmod t0.Width (37 : Int))))) <|
 G (inR ((1 : Int) + (Int.tmod (IntKind.wrap .i64 t0.N) (9999 : Int)))) <|
 cond (decide ((0 : Int) < (IntKind.wrap .i64 (Int.tmod t0.Ink (10000 : Int))))) (
  Y3a (⟨(0 : Int), (⟨(0 : Int), (0 : Int)⟩ : Yu), false, (0 : Int), (0 : Int)⟩ : Y3) (⟨(24 : Int) + (IntKind.wrap .i64 (Int.tmod t0.Width (37 : Int))), (⟨(1 : Int) + (Int.tmod (IntKind.wrap .i64 t0.N) (9999 : Int)), IntKind.wrap .i64 (Int.tmod t0.K (3 : Int))⟩ : Yu), t0.Back, IntKind.wrap .i64 (Int.tmod t0.Ink (10000 : Int)), IntKind.wrap .i64 (Int.tmod t0.Part (27 : Int))⟩ : Y3)) (
  Y3a (⟨(0 : Int), (⟨(0 : Int), (0 : Int)⟩ : Yu), false, (0 : Int), (0 : Int)⟩ : Y3) (⟨(24 : Int) + (IntKind.wrap .i64 (Int.tmod t0.Width (37 : Int))), (⟨(1 : Int) + (Int.tmod (IntKind.wrap .i64 t0.N) (9999 : Int)), IntKind.wrap .i64 (Int.tmod t0.K (3 : Int))⟩ : Yu), t0.Back, IntKind.wrap .i64 (Int.tmod t0.Ink (10000 : Int)), (0 : Int)⟩ : Y3))
section
variable (t0 : S_Raw') (v3 : Y3) (v4 : Y3)
abbrev Zlt : List AV := [.j ((24 : Int) + (IntKind.wrap .i64 (Int.tmod t0.Width (37 : Int)))), .j ((1 : Int) + (Int.tmod (IntKind.wrap .i64 t0.N) (9999 : Int))), .j (IntKind.wrap .i64 (Int.tmod t0.K (3 : Int))), .bool t0.Back, .j (IntKind.wrap .i64 (Int.tmod t0.Ink (10000 : Int))), .j (0 : Int)]
abbrev Zlu : List AV := [.j ((24 : Int) + (IntKind.wrap .i64 (Int.tmod t0.Width (37 : Int)))), .j ((1 : Int) + (Int.tmod (IntKind.wrap .i64 t0.N) (9999 : Int))), .j (IntKind.wrap .i64 (Int.tmod t0.K (3 : Int))), .bool t0.Back, .j (IntKind.wrap .i64 (Int.tmod t0.Ink (10000 : Int))), .j (IntKind.wrap .i64 (Int.tmod t0.Part (27 : Int)))]
abbrev Zlv : List AV := [.int .u8 t0.Width, .int .u16 t0.N, .int .u8 t0.K, .bool t0.Back, .int .u16 t0.Ink, .int .u8 t0.Part]
abbrev Zlw : List AV := [.j (0 : Int), .j (0 : Int), .j (0 : Int), .bool false, .j (0 : Int), .j (0 : Int)]
abbrev Zlx : List AV := [.j v4.Width, .j v4.Label.N, .j v4.Label.K, .bool v4.Back, .j v4.Ink, .j v4.Part]
abbrev Zly := (⟨(1 : Int) + (Int.tmod (IntKind.wrap .i64 t0.N) (9999 : Int)), IntKind.wrap .i64 (Int.tmod t0.K (3 : Int))⟩ : Yu)
abbrev Zlz := (⟨(0 : Int), (⟨(0 : Int), (0 : Int)⟩ : Yu), false, (0 : Int), (0 : Int)⟩ : Y3)
abbrev Zm0 := (IntKind.wrap .i64 (Int.tmod t0.Width (37 : Int)))
abbrev Zm1 : Nat × AV := (2, .ref 2 0 0)
abbrev Zm2 := (Int.tmod t0.Ink (10000 : Int))
abbrev Zm3 : Nat × AV := (3, .ref 3 0 0)
abbrev Zlo : Hp := [(1, ⟨0, true, 25, 6, (Zlv t0)⟩), (2, ⟨0, true, 86, 6, Zlw⟩), (3, ⟨0, true, 86, 6, (Zlt t0)⟩)]
abbrev Zlp : Hp := [(1, ⟨0, true, 25, 6, (Zlv t0)⟩), (2, ⟨0, true, 86, 6, Zlw⟩)]
abbrev Zlq : Hp := [(2, ⟨0, true, 86, 6, [.j v3.Width, .j v3.Label.N, .j v3.Label.K, .bool v3.Back, .j v3.Ink, .j v3.Part]⟩), (3, ⟨0, true, 86, 6, (Zlx v4)⟩)]
abbrev Zlr : Env := [Zm1, (1, .ref 1 0 0)]
abbrev Zls : Hp := [(2, ⟨0, true, 86, 6, (Zlx v4)⟩)]
end
theorem f_R19_Made_ok  {t0 : S_Raw'} {r : Y3} (H : f_R19_Made t0 = some r) : QSpec Tryd.prog 43 [.agg [.int .u8 t0.Width, .int .u16 t0.N, .int .u8 t0.K, .bool t0.Back, .int .u16 t0.Ink, .int .u8 t0.Part]] (.agg [.int .i64 r.Width, .int .i64 r.Label.N, .int .i64 r.Label.K, .bool r.Back, .int .i64 r.Ink, .int .i64 r.Part]) := by
 refine Yj Tryd.func43 rfl (by simp [Tryd.ntmps43]) ?_
 rw [Tryd.ntmps43]
 unfold f_R19_Made at H
 change AW _ _ _ [(0, .agg (Zlv t0))] [] _
 refine Y0 (OpsW.box rfl rfl rfl 1 rfl (Y5 (by kernel_rfl)) ?_)
 change OpsW _ _ _ _ _ [(1, ⟨0, true, 25, 6, (Zlv t0)⟩)] _
 refine Yo rfl rfl rfl 2 rfl (by kernel_rfl : zc Tryd.prog 86 = some [.j 0, .j 0, .j 0, .bool false, .j 0, .j 0]) (by kernel_rfl) (Y2 0 [2, 1] Zlr (Ya Zlr (Zlp t0) (StC.mk (phi [(1, some 1), (2, some 2)]) (.o rfl (.i6 .nil) (.o rfl (.i6 .nil) .nil)) rfl (.cons (.r rfl) (.cons (.r rfl) .nil))) ?_))
 refine Y1 (Y0 ?_)
 obtain ⟨g1, H⟩ := Y6 H
 obtain ⟨g2, H⟩ := Y6 H
 refine Y5k 22 [25, 2, 1] [(37 : Int) ≠ 0, inR ((24 : Int) + (Zm0 t0)), (9999 : Int) ≠ 0, inR ((1 : Int) + (Int.tmod (IntKind.wrap .i64 t0.N) (9999 : Int))), (3 : Int) ≠ 0, (10000 : Int) ≠ 0] ((25, .agg (Zlt t0)) :: Zlr) ⟨(by decide), g1, (by decide), g2, (by decide), (by decide), trivial⟩ (Yo rfl rfl rfl 3 rfl (by kernel_rfl : zc Tryd.prog 86 = some [.j 0, .j 0, .j 0, .bool false, .j 0, .j 0]) (by kernel_rfl) (OpsW.store rfl rfl rfl rfl trivial trivial rfl rfl rfl (by kernel_rfl) (Y5 (by kernel_rfl)) (X0 (by kernel_rfl)) ?_))
 change OpsW _ _ _ _ _ ((3, ⟨0, true, 86, 6, (Zlt t0)⟩) :: (3, ⟨0, true, 86, 6, Zlw⟩) :: (Zlp t0)) _
 refine Y2 0 [3, 2, 1] (Zm3 :: Zlr) (Ya (Zm3 :: Zlr) (Zlo t0) (StC.mk (phi [(1, some 1), (2, some 2), (3, some 3)]) (.o rfl (.i6 .nil) (.o rfl (.i6 .nil) (.o rfl (.i6 .nil) .nil))) rfl (.cons (.r rfl) (.cons (.r rfl) (.cons (.r rfl) .nil)))) (Y1 ?_))
 refine Y08 (fun (y : Y3 × Y3) => Y3a y.1 y.2) r (fun (y : Y3 × Y3) => [Zm1, Zm3]) (fun (y : Y3 × Y3) => [(2, ⟨0, true, 86, 6, [.j y.1.Width, .j y.1.Label.N, .j y.1.Label.K, .bool y.1.Back, .j y.1.Ink, .j y.1.Part]⟩), (3, ⟨0, true, 86, 6, [.j y.2.Width, .j y.2.Label.N, .j y.2.Label.K, .bool y.2.Back, .j y.2.Ink, .j y.2.Part]⟩)]) ?_ ?_
 ·refine Y0 (Y2 3 [28, 3, 2, 1] ((28, .bool (decide ((0 : Int) < (IntKind.wrap .i64 (Zm2 t0))))) :: Zm3 :: Zlr) ?_)
  refine Y1 (Y9 (b := decide ((0 : Int) < (IntKind.wrap .i64 (Zm2 t0)))) H rfl (fun c5 H => ?_) (fun c5 H => ?_))
  ·refine Ye (Y5k 5 [33, 32, 3, 2] [(27 : Int) ≠ 0] [(33, .ref 3 0 5), (32, .j (IntKind.wrap .i64 (Int.tmod t0.Part (27 : Int)))), Zm3, Zm1] ⟨(by decide), trivial⟩ ?_)
   refine OpsW.store rfl rfl rfl rfl trivial trivial rfl rfl rfl (by kernel_rfl) (Y5 (by kernel_rfl)) (X0 (by kernel_rfl)) ?_
   change OpsW _ _ _ _ _ ((3, ⟨0, true, 86, 6, (Zlu t0)⟩) :: (Zlo t0)) _
   refine Y2 0 [3, 2] [Zm3, Zm1] (Ya [Zm3, Zm1] [(2, ⟨0, true, 86, 6, Zlw⟩), (3, ⟨0, true, 86, 6, (Zlu t0)⟩)] (StC.mk (phi [(2, some 2), (3, some 3)]) (.o rfl (.i6 .nil) (.o rfl (.i6 .nil) .nil)) rfl (.cons (.r rfl) (.cons (.r rfl) .nil))) (Y1 ?_))
   show ∃ y, _ ∧ StC _ _ _ _
   exact ⟨(Zlz, (⟨(24 : Int) + (Zm0 t0), (Zly t0), t0.Back, IntKind.wrap .i64 (Zm2 t0), IntKind.wrap .i64 (Int.tmod t0.Part (27 : Int))⟩ : Y3)), H, (StC.mk (phi [(2, some 2), (3, some 3)]) (.o rfl (.i6 .nil) (.o rfl (.i6 .nil) .nil)) rfl (.cons (.r rfl) (.cons (.r rfl) .nil)))⟩
  refine Yb ?_
  show ∃ y, _ ∧ StC _ _ _ _
  exact ⟨(Zlz, (⟨(24 : Int) + (Zm0 t0), (Zly t0), t0.Back, IntKind.wrap .i64 (Zm2 t0), (0 : Int)⟩ : Y3)), H, (StC.mk (phi [(2, some 2), (3, some 3)]) (.o rfl (.i6 .nil) (.o rfl (.i6 .nil) .nil)) rfl (.cons (.r rfl) (.cons (.r rfl) .nil)))⟩
 rintro ⟨v3, v4⟩ H
 change Y3a v3 v4 = some r at H
 unfold Y3a at H
 change AW _ _ _ [Zm1, Zm3] (Zlq v3 v4) _
 refine Y0 (Y2 1 [34, 2] [(34, .agg (Zlx v4)), Zm1] ?_)
 refine OpsW.store rfl rfl rfl rfl trivial trivial rfl rfl rfl (by kernel_rfl) (Y5 (by kernel_rfl)) (X0 (by kernel_rfl)) ?_
 change OpsW _ _ _ _ _ ((2, ⟨0, true, 86, 6, (Zlx v4)⟩) :: (Zlq v3 v4)) _
 refine Y2 0 [2] [Zm1] (Ya [Zm1] (Zls v4) (StC.mk (phi [(2, some 2)]) (.o rfl (.i6 .nil) .nil) rfl (.cons (.r rfl) .nil)) (Y1 ?_))
 obtain rfl := X1 H
 refine AW.recast (env' := [Zm1]) (h' := (Zls v4)) (StC.mk (phi [(2, some 2)]) (.o rfl (.i6 .nil) .nil) rfl (.cons (.r rfl) .nil)) (Yl ?_)
 try simp only [Ex.t, Ex.b, Ex.n, Ex.y]
 refine Y1k rfl (.cell rfl (by kernel_rfl) .nil) ?_
 show _ = _
 kernel_rfl
def Y1w (t0 : Yu) : Option Bool :=
 some (cond (cond (cond (decide (1 ≤ t0.N)) (decide (t0.N ≤ 9999)) false) (decide (0 ≤ t0.K)) false) (decide (t0.K ≤ 2)) false)
section
variable (t0 : Yu)
abbrev Zm4 : Env := [(2, .bool (cond (cond (cond (decide (1 ≤ t0.N)) (decide (t0.N ≤ 9999)) false) (decide (0 ≤ t0.K)) false) (decide (t0.K ≤ 2)) false))]
end
theorem f_R19_ValidLabel_ok  {t0 : Yu} {r : Bool} (H : Y1w t0 = some r) : QSpec Tryd.prog 67 [.agg [.int .i64 t0.N, .int .i64 t0.K]] (.bool r) := by
 refine Yj Tryd.func67 rfl (by simp [Tryd.ntmps67]) ?_
 rw [Tryd.ntmps67]
 unfold Y1w at H
 change AW _ _ _ [(0, .agg [.j t0.N, .j t0.K])] [] _
 refine Y0 (OpsW.box rfl rfl rfl 1 rfl (Y5 (by kernel_rfl)) ?_)
 change OpsW _ _ _ _ _ [(1, ⟨0, true, 35, 2, [.j t0.N, .j t0.K]⟩)] _
 refine Y2 1 [1] [(1, .ref 1 0 0)] ?_
 refine Y1 (Y0 (Y8 19 [2] (Zm4 t0) ⟨(fun h => h), (fun h => h), (fun h => by first | exact h | (simpa using h) | grind), (fun h => h), (fun h => h), (fun h => by first | exact h | (simpa using h) | grind), (fun h => h), (fun h => h), (fun h => by first | exact h | (simpa using h) | grind), trivial⟩ ?_))
 refine Y1 ?_
 obtain rfl := X1 H
 refine AW.recast (env' := (Zm4 t0)) (h' := []) (StC.pure (.cons .im .nil)) (Yl ?_)
 try simp only [Ex.t, Ex.b]
 exact Yh rfl (.tmp .nil)
def Y2n  : Option (List Int) :=
 some [(1 : Int), (3 : Int), (9 : Int), (25 : Int), (17 : Int), (11 : Int), (27 : Int), (19 : Int), (10 : Int), (26 : Int), (5 : Int), (7 : Int), (13 : Int), (29 : Int), (21 : Int), (15 : Int), (31 : Int), (23 : Int), (14 : Int), (30 : Int), (37 : Int), (39 : Int), (58 : Int), (45 : Int), (61 : Int), (53 : Int)]
section
abbrev Zm5 : Env := [(0, sU [(1 : Int), (3 : Int), (9 : Int), (25 : Int), (17 : Int), (11 : Int), (27 : Int), (19 : Int), (10 : Int), (26 : Int), (5 : Int), (7 : Int), (13 : Int), (29 : Int), (21 : Int), (15 : Int), (31 : Int), (23 : Int), (14 : Int), (30 : Int), (37 : Int), (39 : Int), (58 : Int), (45 : Int), (61 : Int), (53 : Int)])]
end
theorem Y3h   {r : List Int} (H : Y2n = some r) : QSpec Tryd.prog 69 [] (slA (eI .u8) r) := by
 refine Yj Tryd.func69 rfl (by simp [Tryd.ntmps69]) ?_
 rw [Tryd.ntmps69]
 unfold Y2n at H
 change AW _ _ _ [] [] _
 refine Y0 (Y2 1 [] [] ?_)
 refine Y1 (Y0 (OpsW.buildTI (enc := eI .u8) [(1 : Int), (3 : Int), (9 : Int), (25 : Int), (17 : Int), (11 : Int), (27 : Int), (19 : Int), (10 : Int), (26 : Int), (5 : Int), (7 : Int), (13 : Int), (29 : Int), (21 : Int), (15 : Int), (31 : Int), (23 : Int), (14 : Int), (30 : Int), (37 : Int), (39 : Int), (58 : Int), (45 : Int), (61 : Int), (53 : Int)] rfl rfl rfl E41 (fun _ => rfl) (by decide) ⟨trivial, by kernel_rfl, by kernel_rfl, by kernel_rfl, rfl⟩ ?_))
 refine Y2 1 [0] Zm5 (Y1 ?_)
 obtain rfl := X1 H
 refine AW.recast (env' := Zm5) (h' := []) (StC.pure (.cons .im .nil)) (Yl ?_)
 try simp only [Ex.t, Ex.b]
 exact Yh rfl (.tmp .nil)
def Y5j (t0 : Int) : Option Int :=
 (Y2n).bind fun x1 =>
 G (inR (t0 + 9)) <|
 G (0 ≤ (Int.tmod (t0 + 9) (10 : Int)) ∧ (Int.tmod (t0 + 9) (10 : Int)) < (x1.length : Int)) <|
 some (x1.getD (Int.tmod (t0 + 9) (10 : Int)).toNat (0 : Int))
section
variable (t0 : Int) (x1 : (List Int))
abbrev Zm6 := (x1.getD (Int.tmod (t0 + 9) (10 : Int)).toNat (0 : Int))
end
theorem f_R19_Digit_ok  {t0 : Int} {r : Int} (H : Y5j t0 = some r) : QSpec Tryd.prog 77 [.int .i64 t0] (.int .u8 r) := by
 refine Yj Tryd.func77 rfl (by simp [Tryd.ntmps77]) ?_
 rw [Tryd.ntmps77]
 unfold Y5j at H
 change AW _ _ _ [(0, .j t0)] [] _
 refine Y0 (Y2 1 [0] [(0, .j t0)] ?_)
 refine Y1 (Y0 ?_)
 have ⟨x1, hx1, H⟩ := Yt H
 refine Ys rfl .nil (Y3h hx1) ?_
 have ⟨g2, H⟩ := Y6 H
 have ⟨g3, H⟩ := Y6 H
 refine Y8 4 [7] [(7, .ipt (x1.flatMap (eI .u8)) ((Int.tmod (t0 + 9) (10 : Int)).toNat * 1))] ⟨g2, (by decide), g3, trivial⟩ (OpsW.asU (.int .u8 (Zm6 t0 x1)) rfl rfl (T.load rfl trivial (by kernel_rfl) (Y3u (eI .u8) 1 (fun _ => rfl) x1 (0 : Int) (Int.tmod (t0 + 9) (10 : Int)).toNat (ltN g3) 0 (fun a => .val (.int .u8 a)) (fun _ => rfl))) (Y2 1 [2] [(2, .int .u8 (Zm6 t0 x1))] (Y1 ?_)))
 obtain rfl := X1 H
 refine AW.recast (env' := [(2, .int .u8 (Zm6 t0 x1))]) (h' := []) (StC.pure (.cons .im .nil)) (Yl ?_)
 try simp only [Ex.t, Ex.b]
 exact Yh rfl (.tmp .nil)
def Y3q (loop4 : ((List Int) × Int) → Option ((List Int) × Int)) (v3 : Int) (v6 : List Int) : Option ((List Int) × Int) :=
 G (inR (Int.tdiv v3 (10 : Int))) <|
 loop4 (v6, Int.tdiv v3 (10 : Int))
def Y22 (t0 : Int) (loop4 : ((List Int) × Int) → Option ((List Int) × Int)) (v2 : List Int) (v3 : Int) : Option ((List Int) × Int) :=
 cond (decide (0 < v3)) (
  cond (cond (decide (v3 ≤ t0)) true (v3 == 1)) (
   G (v3 ≠ 0) <|
   G (inR (Int.tdiv t0 v3)) <|
   (Y5j (Int.tmod (Int.tdiv t0 v3) (10 : Int))).bind fun x11 =>
   G (room 1 (v2.length + 1)) <|
   Y3q loop4 v3 (v2 ++ [x11])) (
   Y3q loop4 v3 v2)) (
  some (v2, (0 : Int)))
def Y1v (t0 : Int) : Option ((List Int) × Int) :=
 cond (cond (decide (t0 < 0)) true (decide (99999 < t0))) (
  some ([], (190 : Int))) (
  iter (fun loop (s : (List Int) × Int) => Y22 t0 loop s.1 s.2) 1000000 ([(60 : Int)], (10000 : Int)))
section
variable (t0 : Int) (v2 : List Int) (v3 : Int)
abbrev Zm7 : Env := [(0, .j t0), (4, .rsl 4 0 0 v2.length), (5, .j v3)]
end
theorem f_R19_Write_own {t0 : Int} {r : (List Int) × Int} (H : Y1v t0 = some r) : Abs.Spec Tryd.prog 68 [.int .i64 t0] [] (fun x h => x = .tup [.rsl 1000 0 0 r.1.length, .int .i64 r.2] ∧ h = [(1000, rtA 0 42 1 (eI .u8) r.1)]) := by
 refine Yj Tryd.func68 rfl (by simp [Tryd.ntmps68]) ?_
 rw [Tryd.ntmps68]
 unfold Y1v at H
 change AW _ _ _ [(0, .j t0)] [] _
 refine Y0 (Y2 2 [0] [(0, .j t0)] ?_)
 refine Y1 (Yc (Y0 (Y8 6 [11, 0] [(11, .bool (cond (decide (t0 < 0)) true (decide (99999 < t0)))), (0, .j t0)] ⟨(fun h => h), (fun h => by first | exact h | (simpa using h) | grind), trivial⟩ ?_)))
 refine Y1 (Y9 (b := cond (decide (t0 < 0)) true (decide (99999 < t0))) H rfl (fun c1 H => ?_) (fun c1 H => ?_))
 ·refine Y0 (Y2 2 [3, 2] [(3, .j (190 : Int)), (2, .im (.val (.slice none 0 0)))] ?_)
  refine Y1 ?_
  obtain rfl := X1 H
  refine AW.recast (env' := [(2, .rsl 1000 0 0 0), (3, .j (190 : Int))]) (h' := [(1000, rtA 0 42 1 (eI .u8) ([] : List Int))]) (StC.mk (phi [(1000, none)]) (.new rfl .nil) rfl (.cons (.nilr rfl rfl rfl) (.cons .im .nil))) (Yl ?_)
  try simp only [Ex.t, Ex.b]
  refine Y1k rfl (.tmp (.tmp .nil)) ?_
  exact ⟨by kernel_rfl, rfl⟩
 refine Yb (Y0 (Y2b (enc := eI .u8) [(60 : Int)] rfl rfl rfl 12 rfl E41 (fun _ => rfl) (by decide) trivial (by kernel_rfl) (by kernel_rfl) (by kernel_rfl) rfl ?_))
 refine Y2 1 [4, 0] [(4, .rsl 12 0 0 ([(60 : Int)].length)), (0, .j t0)] (Ya [(4, .rsl 4 0 0 ([(60 : Int)].length)), (0, .j t0)] [(4, rtA 0 42 1 (eI .u8) [(60 : Int)])] (StC.mk (phi [(4, some 12)]) (.o rfl (CstL.ims _) .nil) rfl (.cons (.s rfl) (.cons .im .nil))) ?_)
 refine Y1 (Yc (Y0 (Y2 1 [5, 4, 0] [(5, .j (10000 : Int)), (4, .rsl 4 0 0 ([(60 : Int)].length)), (0, .j t0)] ?_)))
 refine Y1 (Yd ?_)
 refine Yq (fun loop (s : (List Int) × Int) => Y22 t0 loop s.1 s.2) r (fun (s : (List Int) × Int) => [(0, .j t0), (4, .rsl 4 0 0 s.1.length), (5, .j s.2)]) (fun (s : (List Int) × Int) => [(4, rtA 0 42 1 (eI .u8) s.1)]) ?_ 1000000 ([(60 : Int)], (10000 : Int)) H (StC.mk (phi [(4, some 4)]) (.o rfl (CstL.ims _) .nil) rfl (.cons .im (.cons (.s rfl) (.cons .im .nil))))
 intro loop4 s H
 obtain ⟨v2, v3⟩ := s
 unfold Y22 at H
 change AW _ _ _ (Zm7 t0 v2 v3) [(4, rtA 0 42 1 (eI .u8) v2)] _
 refine Yc (Y0 (Y2 2 [14, 0, 4, 5] ((14, .bool (decide (0 < v3))) :: (Zm7 t0 v2 v3)) ?_))
 refine Y1 (Y9 (b := decide (0 < v3)) H rfl (fun c5 H => ?_) (fun c5 H => ?_))
 ·refine Yb ?_
  refine Y08 (fun (y : (List Int)) => Y3q loop4 v3 y) r (fun (y : (List Int)) => [(0, .j t0), (4, .rsl 4 0 0 y.length), (5, .j v3)]) (fun (y : (List Int)) => [(4, rtA 0 42 1 (eI .u8) y)]) ?_ ?_
  ·refine Yd (Y0 (Y8 7 [23, 0, 4, 5] ((23, .bool (cond (decide (v3 ≤ t0)) true (v3 == 1))) :: (Zm7 t0 v2 v3)) ⟨(fun h => h), (fun h => by first | exact h | (simpa using h) | grind), trivial⟩ ?_))
   refine Y1 (Y9 (b := cond (decide (v3 ≤ t0)) true (v3 == 1)) H rfl (fun c8 H => ?_) (fun c8 H => ?_))
   ·refine Ye ?_
    have ⟨g9, H⟩ := Y6 H
    have ⟨g10, H⟩ := Y6 H
    refine Y8 5 [28, 24, 0, 4, 5] ((28, .j (Int.tmod (Int.tdiv t0 v3) (10 : Int))) :: (24, .rsl 4 0 0 v2.length) :: (Zm7 t0 v2 v3)) ⟨g9, g10, (by decide), trivial⟩ ?_
    have ⟨x11, hx11, H⟩ := Yt H
    refine Ys rfl (.cons (.pur rfl) .nil) (f_R19_Digit_ok hx11) ?_
    have ⟨g12, H⟩ := Y6 H
    refine Y1j (enc := eI .u8) [x11] rfl rfl rfl (by decide) rfl rfl rfl (by simp) E41 (fun _ => rfl) (by decide) trivial (by kernel_rfl) (by kernel_rfl) (by kernel_rfl) rfl rfl rfl g12 (Y2 1 [4, 0, 5] [(4, .rsl 4 1 0 ((v2 ++ [x11]).length)), (0, .j t0), (5, .j v3)] (Ya [(4, .rsl 4 0 0 ((v2 ++ [x11]).length)), (0, .j t0), (5, .j v3)] [(4, rtA 0 42 1 (eI .u8) (v2 ++ [x11]))] (StC.mk (phi [(4, some 4)]) (.o rfl (CstL.ims _) .nil) rfl (.cons (.s rfl) (.i2 .nil))) (Y1 ?_)))
    exact ⟨v2 ++ [x11], H, (StC.mk (phi [(4, some 4)]) (.o rfl (CstL.ims _) .nil) rfl (.cons .im (.cons (.s rfl) (.cons .im .nil))))⟩
   refine Yb ?_
   exact ⟨v2, H, (StC.mk (phi [(4, some 4)]) (.o rfl (CstL.ims _) .nil) rfl (.cons .im (.cons (.s rfl) (.cons .im .nil))))⟩
  intro v6 H
  unfold Y3q at H
  change AW _ _ _ [(0, .j t0), (4, .rsl 4 0 0 v6.length), (5, .j v3)] [(4, rtA 0 42 1 (eI .u8) v6)] _
  refine Ye ?_
  have ⟨g7, H⟩ := Y6 H
  refine Y8 3 [5, 0, 4] [(5, .j (Int.tdiv v3 (10 : Int))), (0, .j t0), (4, .rsl 4 0 0 v6.length)] ⟨(by decide), g7, trivial⟩ (Y1 ?_)
  exact ⟨(v6, Int.tdiv v3 (10 : Int)), H, (StC.mk (phi [(4, some 4)]) (.o rfl (CstL.ims _) .nil) rfl (.cons .im (.cons (.s rfl) (.cons .im .nil))))⟩
 refine AW.exit ?_
 refine Y0 (Y2 3 [3, 2] [(3, .j (0 : Int)), (2, .rsl 4 0 0 v2.length)] ?_)
 refine Y1 ?_
 obtain rfl := X1 H
 refine AW.recast (env' := [(2, .rsl 1000 0 0 v2.length), (3, .j (0 : Int))]) (h' := [(1000, rtA 0 42 1 (eI .u8) v2)]) (StC.mk (phi [(1000, some 4)]) (.o rfl (CstL.ims _) .nil) rfl (.cons (.s rfl) (.cons .im .nil))) (Yl ?_)
 try simp only [Ex.t, Ex.b]
 refine Y1k rfl (.tmp (.tmp .nil)) ?_
 exact ⟨by kernel_rfl, rfl⟩
theorem f_R19_Write_ok  {t0 : Int} {r : (List Int) × Int} (H : Y1v t0 = some r) : QSpec Tryd.prog 68 [.int .i64 t0] (.tup [slA (eI .u8) r.1, .int .i64 r.2]) := by
 exact QSpec.of_own (f_R19_Write_own H) (.tup (.cons (.frz rfl rfl rfl (Y1b (eI .u8) 1 (fun _ => rfl) r.1) (Yy (eI .u8) 1 (fun _ => rfl) r.1) (Y3c rfl)) (.cons .im .nil)))
def Y4n (v7 : List Int) : Option ((List Int) × Int) :=
 some (v7, (0 : Int))
def Y4m (t0 : Yu) (v5 : Int) : Option ((List Int) × Int) :=
 (Y1v v5).bind fun x6 =>
 cond (decide (0 < t0.K)) (
  (Y2n).bind fun x9 =>
  G (inR (t0.K - 1)) <|
  G (0 ≤ (t0.K - 1) ∧ (t0.K - 1) < (x9.length : Int)) <|
  G (room 1 (x6.1.length + [(48 : Int), x9.getD (t0.K - 1).toNat (0 : Int)].length)) <|
  Y4n (x6.1 ++ [(48 : Int), x9.getD (t0.K - 1).toNat (0 : Int)])) (
  Y4n x6.1)
def f_R19_Page (t0 : Yu) (t1 : Bool) : Option ((List Int) × Int) :=
 (Y1w t0).bind fun x1 =>
 cond (!x1) (
  some ([], (190 : Int))) (
  G (inR (2 * t0.N)) <|
  G (inR ((2 * t0.N) - 1)) <|
  cond t1 (
   Y4m t0 (2 * t0.N)) (
   Y4m t0 ((2 * t0.N) - 1)))
section
variable (t0 : Yu) (x6 : ((List Int) × Int)) (x9 : (List Int))
abbrev Zma := (x6.1 ++ [(48 : Int), x9.getD (t0.K - 1).toNat (0 : Int)])
abbrev Zmb : Nat × AV := (2, .ref 2 0 0)
abbrev Zm8 : Env := [(27, .bool (decide (0 < t0.K))), (7, .rsl 7 0 0 x6.1.length), Zmb]
abbrev Zm9 : Hp := [(2, ⟨0, true, 35, 2, [.j t0.N, .j t0.K]⟩)]
end
theorem f_R19_Page_ok  {t0 : Yu} {t1 : Bool} {r : (List Int) × Int} (H : f_R19_Page t0 t1 = some r) : QSpec Tryd.prog 60 [.agg [.int .i64 t0.N, .int .i64 t0.K], .bool t1] (.tup [slA (eI .u8) r.1, .int .i64 r.2]) := by
 refine Yj Tryd.func60 rfl (by simp [Tryd.ntmps60]) ?_
 rw [Tryd.ntmps60]
 unfold f_R19_Page at H
 change AW _ _ _ [(0, .agg [.j t0.N, .j t0.K]), (1, .bool t1)] [] _
 refine Y0 (OpsW.box rfl rfl rfl 2 rfl (Y5 (by kernel_rfl)) ?_)
 change OpsW _ _ _ _ _ (Zm9 t0) _
 refine Y2 2 [2, 1] [Zmb, (1, .bool t1)] ?_
 refine Y1 (Yc (Y0 (Y2 1 [9, 2, 1] [(9, .agg [.j t0.N, .j t0.K]), Zmb, (1, .bool t1)] ?_)))
 have ⟨x1, hx1, H⟩ := Yt H
 refine Ys rfl (.cons (.pur rfl) .nil) (f_R19_ValidLabel_ok hx1) (Y2 1 [11, 2, 1] [(11, .bool (!x1)), Zmb, (1, .bool t1)] (Y1 (Y9 (b := !x1) H rfl (fun c2 H => ?_) (fun c2 H => ?_))))
 ·refine Y0 (Y2 2 [5, 4] [(5, .j (190 : Int)), (4, .im (.val (.slice none 0 0)))] ?_)
  refine Y1 ?_
  obtain rfl := X1 H
  refine AW.recast (env' := [(4, sU []), (5, .j (190 : Int))]) (h' := []) (StC.pure (.cons .nil (.cons .im .nil))) (Yl ?_)
  try simp only [Ex.t, Ex.b]
  exact Yh rfl (.tmp (.tmp .nil))
 refine Yb (Y0 ?_)
 have ⟨g3, H⟩ := Y6 H
 have ⟨g4, H⟩ := Y6 H
 refine Y8 5 [6, 2, 1] [(6, .j ((2 * t0.N) - 1)), Zmb, (1, .bool t1)] ⟨g3, g4, trivial⟩ (Y1 ?_)
 refine Y08 (fun (y : Int) => Y4m t0 y) r (fun (y : Int) => [Zmb, (6, .j y)]) (fun (y : Int) => (Zm9 t0)) ?_ ?_
 ·refine Y0 (Y2 1 [16, 6, 2] [(16, .bool t1), (6, .j ((2 * t0.N) - 1)), Zmb] ?_)
  refine Y1 (Y9 (b := t1) H rfl (fun c13 H => ?_) (fun c13 H => ?_))
  ·refine Ye (Y8 4 [6, 2] [(6, .j (2 * t0.N)), Zmb] ⟨g3, trivial⟩ ?_)
   refine Y1 ?_
   exact ⟨2 * t0.N, H, (StC.mk (phi [(2, some 2)]) (.o rfl (.i2 .nil) .nil) rfl (.cons (.r rfl) (.cons .im .nil)))⟩
  refine Yb ?_
  exact ⟨(2 * t0.N) - 1, H, (StC.mk (phi [(2, some 2)]) (.o rfl (.i2 .nil) .nil) rfl (.cons (.r rfl) (.cons .im .nil)))⟩
 intro v5 H
 unfold Y4m at H
 change AW _ _ _ [Zmb, (6, .j v5)] (Zm9 t0) _
 refine Y0 (Y2 1 [21, 2] [(21, .j v5), Zmb] ?_)
 have ⟨x6, hx6, H⟩ := Yt H
 refine OpsW.call rfl rfl (by kernel_rfl) [] _ _ rfl (Yg trivial) (.cons (.pur rfl) .nil) (f_R19_Write_own hx6) ?_
 rintro _ _ ⟨rfl, rfl⟩
 refine ⟨fresh_of (by kernel_rfl), .inl rfl, ?_⟩
 change OpsW _ _ _ _ [(22, .tup [.rsl 1000 0 0 x6.1.length, .j x6.2]), (21, .j v5), Zmb] ((1000, rtA 0 42 1 (eI .u8) x6.1) :: (Zm9 t0)) _
 refine Ya [(22, .tup [.rsl 600 0 0 x6.1.length, .j x6.2]), (21, .j v5), Zmb] ((600, rtA 0 42 1 (eI .u8) x6.1) :: (Zm9 t0)) (StC.mk (phi [(600, some 1000), (2, some 2)]) (.o rfl (CstL.ims _) (.o rfl (.i2 .nil) .nil)) rfl (.cons (.tup (.cons (.s rfl) (.cons .im .nil))) (.cons .im (.cons (.r rfl) .nil)))) (Y2 5 [7, 2] [(7, .rsl 600 0 0 x6.1.length), Zmb] (Ya [(7, .rsl 7 0 0 x6.1.length), Zmb] [(2, ⟨0, true, 35, 2, [.j t0.N, .j t0.K]⟩), (7, rtA 0 42 1 (eI .u8) x6.1)] (StC.mk (phi [(2, some 2), (7, some 600)]) (.o rfl (.i2 .nil) (.o rfl (CstL.ims _) .nil)) rfl (.cons (.s rfl) (.cons (.r rfl) .nil))) (Y1 ?_)))
 refine Y08 (fun (y : (List Int)) => Y4n y) r (fun (y : (List Int)) => [(7, sU y)]) (fun (y : (List Int)) => []) ?_ ?_
 ·refine Y0 (Y2 3 [27, 7, 2] (Zm8 t0 x6) ?_)
  refine Y1 (Y9 (b := decide (0 < t0.K)) H rfl (fun c8 H => ?_) (fun c8 H => ?_))
  ·refine AW.drawT 8 Tryd.checked.mixed (by kernel_rfl) ?_
   refine QOps.sz (N := 38) 1 ((28, .rsl 7 0 0 x6.1.length) :: (Zm8 t0 x6)) trivial ?_
   have ⟨x9, hx9, H⟩ := Yt H
   refine QOps.qcall rfl (by kernel_rfl) rfl (Yg trivial) .nil (Y3h hx9) rfl ?_
   have ⟨g10, H⟩ := Y6 H
   have ⟨g11, H⟩ := Y6 H
   refine QOps.sz (N := 38) 4 ((33, .ipt (x9.flatMap (eI .u8)) ((t0.K - 1).toNat * 1)) :: (32, .j (t0.K - 1)) :: (31, .j t0.K) :: (30, .ref 2 0 1) :: (29, sU x9) :: (28, .rsl 7 0 0 x6.1.length) :: (Zm8 t0 x6)) ⟨g10, g11, trivial⟩ (QOps.asU (.int .u8 (x9.getD (t0.K - 1).toNat (0 : Int))) rfl (T.load rfl trivial (by kernel_rfl) (Yn (eI .u8) 1 (fun _ => rfl) x9 (0 : Int) (t0.K - 1).toNat (ltN g11) (fun a => .val (.int .u8 a)) (fun _ => rfl))) (QOps.buildTI (enc := eI .u8) [(48 : Int), x9.getD (t0.K - 1).toNat (0 : Int)] rfl rfl E41 (fun _ => rfl) (by decide) ⟨trivial, by kernel_rfl, by kernel_rfl, by kernel_rfl, rfl⟩ ?_))
   refine QOps.nil (Y2 0 [35, 28, 7] [(35, sU [(48 : Int), x9.getD (t0.K - 1).toNat (0 : Int)]), (28, .rsl 7 0 0 x6.1.length), (7, .rsl 7 0 0 x6.1.length)] ?_)
   have ⟨g12, H⟩ := Y6 H
   refine Y32 (enc := eI .u8) (ys := [(48 : Int), x9.getD (t0.K - 1).toNat (0 : Int)]) rfl rfl rfl E41 (fun _ => rfl) rfl rfl trivial (SrcA.typed (enc := eI .u8) (fun _ => rfl) (by kernel_rfl) [(48 : Int), x9.getD (t0.K - 1).toNat (0 : Int)]) rfl g12 (Y2 1 [7] [(7, .rsl 7 1 0 ((Zma t0 x6 x9).length))] (Ya [(7, sU (Zma t0 x6 x9))] [] (StC.mk (phi []) .nil rfl (.cons (.frz rfl rfl rfl (Y1b (eI .u8) 1 (fun _ => rfl) (Zma t0 x6 x9)) (Yy (eI .u8) 1 (fun _ => rfl) (Zma t0 x6 x9)) (Y3c rfl)) .nil)) (Y1 ?_)))
   exact ⟨x6.1 ++ [(48 : Int), x9.getD (t0.K - 1).toNat (0 : Int)], H, (StC.pure (.cons .im .nil))⟩
  refine Yb ?_
  exact ⟨x6.1, H, (StC.mk (phi []) .nil rfl (.cons (.frz rfl rfl rfl (Y1b (eI .u8) 1 (fun _ => rfl) x6.1) (Yy (eI .u8) 1 (fun _ => rfl) x6.1) (Y3c rfl)) .nil))⟩
 intro v7 H
 unfold Y4n at H
 change AW _ _ _ [(7, sU v7)] [] _
 refine Y0 (Y2 3 [5, 4] [(5, .j (0 : Int)), (4, sU v7)] ?_)
 refine Y1 ?_
 obtain rfl := X1 H
 refine AW.recast (env' := [(4, sU v7), (5, .j (0 : Int))]) (h' := []) (StC.pure (.i2 .nil)) (Yl ?_)
 try simp only [Ex.t, Ex.b]
 exact Yh rfl (.tmp (.tmp .nil))
def f_R19_Ink (t0 : Int) (t1 : Int) : Option ((List Int) × Int) :=
 cond (cond (cond (cond (decide (t0 < 1)) true (decide (9999 < t0))) true (decide (t1 < 0))) true (decide (26 < t1))) (
  some ([], (190 : Int))) (
  (Y1v t0).bind fun x2 =>
  cond (t1 == 0) (
   some (x2.1, (0 : Int))) (
   (Y2n).bind fun x4 =>
   G (inR (t1 - 1)) <|
   G (0 ≤ (t1 - 1) ∧ (t1 - 1) < (x4.length : Int)) <|
   G (room 1 ([(48 : Int), x4.getD (t1 - 1).toNat (0 : Int)].length + x2.1.length)) <|
   some ([(48 : Int), x4.getD (t1 - 1).toNat (0 : Int)] ++ x2.1, (0 : Int))))
section
variable (t0 : Int) (t1 : Int) (x2 : ((List Int) × Int)) (x4 : (List Int))
abbrev Zmc := ([(48 : Int), x4.getD (t1 - 1).toNat (0 : Int)] ++ x2.1)
abbrev Zmd := ([(48 : Int), x4.getD (t1 - 1).toNat (0 : Int)].length)
abbrev Zme := cond (cond (decide (t0 < 1)) true (decide (9999 < t0))) true (decide (t1 < 0))
end
theorem f_R19_Ink_ok  {t0 : Int} {t1 : Int} {r : (List Int) × Int} (H : f_R19_Ink t0 t1 = some r) : QSpec Tryd.prog 61 [.int .i64 t0, .int .i64 t1] (.tup [slA (eI .u8) r.1, .int .i64 r.2]) := by
 refine Yj Tryd.func61 rfl (by simp [Tryd.ntmps61]) ?_
 rw [Tryd.ntmps61]
 unfold f_R19_Ink at H
 change AW _ _ _ [(0, .j t0), (1, .j t1)] [] _
 refine Y0 (Y2 2 [0, 1] [(0, .j t0), (1, .j t1)] ?_)
 refine Y1 (Yc (Y0 (Y8 14 [22, 0, 1] [(22, .bool (cond (Zme t0 t1) true (decide (26 < t1)))), (0, .j t0), (1, .j t1)] ⟨(fun h => h), (fun h => by first | exact h | (simpa using h) | grind), (fun h => h), (fun h => by first | exact h | (simpa using h) | grind), (fun h => h), (fun h => by first | exact h | (simpa using h) | grind), trivial⟩ ?_)))
 refine Y1 (Y9 (b := cond (Zme t0 t1) true (decide (26 < t1))) H rfl (fun c1 H => ?_) (fun c1 H => ?_))
 ·refine Y0 (Y2 2 [5, 4] [(5, .j (190 : Int)), (4, .im (.val (.slice none 0 0)))] ?_)
  refine Y1 ?_
  obtain rfl := X1 H
  refine AW.recast (env' := [(4, sU []), (5, .j (190 : Int))]) (h' := []) (StC.pure (.cons .nil (.cons .im .nil))) (Yl ?_)
  try simp only [Ex.t, Ex.b]
  exact Yh rfl (.tmp (.tmp .nil))
 refine Yb (Y0 (Y2 1 [24, 1] [(24, .j t0), (1, .j t1)] ?_))
 have ⟨x2, hx2, H⟩ := Yt H
 refine Ys rfl (.cons (.pur rfl) .nil) (f_R19_Write_ok hx2) (Y2 5 [6, 1] [(6, sU x2.1), (1, .j t1)] ?_)
 refine Y1 (Yc (Y0 (Y2 2 [29, 6, 1] [(29, .bool (t1 == 0)), (6, sU x2.1), (1, .j t1)] ?_)))
 refine Y1 (Y9 (b := t1 == 0) H rfl (fun c3 H => ?_) (fun c3 H => ?_))
 ·refine Y0 (Y2 3 [5, 4] [(5, .j (0 : Int)), (4, sU x2.1)] ?_)
  refine Y1 ?_
  obtain rfl := X1 H
  refine AW.recast (env' := [(4, sU x2.1), (5, .j (0 : Int))]) (h' := []) (StC.pure (.i2 .nil)) (Yl ?_)
  try simp only [Ex.t, Ex.b]
  exact Yh rfl (.tmp (.tmp .nil))
 refine Yb (Y0 ?_)
 have ⟨x4, hx4, H⟩ := Yt H
 refine Ys rfl .nil (Y3h hx4) ?_
 have ⟨g5, H⟩ := Y6 H
 have ⟨g6, H⟩ := Y6 H
 refine Y8 3 [34, 6] [(34, .ipt (x4.flatMap (eI .u8)) ((t1 - 1).toNat * 1)), (6, sU x2.1)] ⟨g5, g6, trivial⟩ (OpsW.asU (.int .u8 (x4.getD (t1 - 1).toNat (0 : Int))) rfl rfl (T.load rfl trivial (by kernel_rfl) (Yn (eI .u8) 1 (fun _ => rfl) x4 (0 : Int) (t1 - 1).toNat (ltN g6) (fun a => .val (.int .u8 a)) (fun _ => rfl))) (Y2b (enc := eI .u8) [(48 : Int), x4.getD (t1 - 1).toNat (0 : Int)] rfl rfl rfl 36 rfl E41 (fun _ => rfl) (by decide) trivial (by kernel_rfl) (by kernel_rfl) (by kernel_rfl) rfl (Y2 1 [8, 6] [(8, .rsl 36 0 0 (Zmd t1 x4)), (6, sU x2.1)] (Ya [(8, .rsl 8 0 0 (Zmd t1 x4)), (6, sU x2.1)] [(8, rtA 0 42 1 (eI .u8) [(48 : Int), x4.getD (t1 - 1).toNat (0 : Int)])] (StC.mk (phi [(8, some 36)]) (.o rfl (CstL.ims _) .nil) rfl (.cons (.s rfl) (.cons .im .nil))) ?_))))
 refine Y1 (Y0 (Y2 2 [38, 37] [(38, sU x2.1), (37, .rsl 8 0 0 (Zmd t1 x4))] ?_))
 have ⟨g7, H⟩ := Y6 H
 refine Y32 (enc := eI .u8) (ys := x2.1) rfl rfl rfl E41 (fun _ => rfl) rfl rfl trivial (SrcA.typed (enc := eI .u8) (fun _ => rfl) (by kernel_rfl) x2.1) rfl g7 (Y2 2 [5, 4] [(5, .j (0 : Int)), (4, .rsl 8 1 0 ((Zmc t1 x2 x4).length))] (Ya [(5, .j (0 : Int)), (4, sU (Zmc t1 x2 x4))] [] (StC.mk (phi []) .nil rfl (.cons .im (.cons (.frz rfl rfl rfl (Y1b (eI .u8) 1 (fun _ => rfl) (Zmc t1 x2 x4)) (Yy (eI .u8) 1 (fun _ => rfl) (Zmc t1 x2 x4)) (Y3c rfl)) .nil))) (Y1 ?_)))
 obtain rfl := X1 H
 refine AW.recast (env' := [(4, sU (Zmc t1 x2 x4)), (5, .j (0 : Int))]) (h' := []) (StC.pure (.i2 .nil)) (Yl ?_)
 try simp only [Ex.t, Ex.b]
 exact Yh rfl (.tmp (.tmp .nil))
def Y4a (x2 : (List Int) × Int) (loop9 : (Y3 × (List Int)) → Option ((List Int) × Int)) (v7 : Y3) (v8 : List Int) : Option ((List Int) × Int) :=
 G (inR (v7.Width - (x2.1.length : Int))) <|
 cond (decide ((v8.length : Int) < (v7.Width - (x2.1.length : Int)))) (
  G (room 1 (v8.length + 1)) <|
  loop9 (v7, v8 ++ [(0 : Int)])) (
  G (room 1 (v8.length + x2.1.length)) <|
  some (v8 ++ x2.1, (0 : Int)))
def Y2w (t0 : Y3) (x2 : (List Int) × Int) (v3 : List Int) (v4 : Int) : Option ((List Int) × Int) :=
 cond (cond (x2.2 != 0) true (v4 != 0)) (
  some ([], (190 : Int))) (
  G (room 1 (([] : List Int).length + v3.length)) <|
  iter (fun loop (s : Y3 × (List Int)) => Y4a x2 loop s.1 s.2) 1000000 (t0, ([] : List Int) ++ v3))
def Y4b (t0 : Y3) : Option ((List Int) × Int) :=
 cond (cond (decide (t0.Width < 24)) true (decide (60 < t0.Width))) (
  some ([], (1 : Int))) (
  (f_R19_Page t0.Label t0.Back).bind fun x2 =>
  cond (cond (t0.Ink != 0) true (t0.Part != 0)) (
   (f_R19_Ink t0.Ink t0.Part).bind fun x15 =>
   Y2w t0 x2 x15.1 x15.2) (
   Y2w t0 x2 ([] : List Int) (0 : Int)))
section
variable (t0 : Y3) (v7 : Y3) (v8 : List Int) (x2 : (List Int) × Int)
abbrev Zmj : List AV := [.j t0.Width, .j t0.Label.N, .j t0.Label.K, .bool t0.Back, .j t0.Ink, .j t0.Part]
abbrev Zmk : Nat × AV := (1, .ref 1 0 0)
abbrev Zml := ([] : List Int)
abbrev Zmm : List AV := [.j v7.Width, .j v7.Label.N, .j v7.Label.K, .bool v7.Back, .j v7.Ink, .j v7.Part]
abbrev Zmf : Hp := [(1, ⟨0, true, 86, 6, (Zmj t0)⟩)]
abbrev Zmg : Env := [(6, sU Zml), (5, .j x2.2), (4, sU x2.1), Zmk]
abbrev Zmh : Env := [Zmk, (4, sU x2.1), (8, .rsl 8 0 0 v8.length)]
abbrev Zmi : Env := [Zmk, (4, sU x2.1)]
end
theorem f_R19_Header_ok  {t0 : Y3} {r : (List Int) × Int} (H : Y4b t0 = some r) : QSpec Tryd.prog 44 [.agg [.int .i64 t0.Width, .int .i64 t0.Label.N, .int .i64 t0.Label.K, .bool t0.Back, .int .i64 t0.Ink, .int .i64 t0.Part]] (.tup [slA (eI .u8) r.1, .int .i64 r.2]) := by
 refine Yj Tryd.func44 rfl (by simp [Tryd.ntmps44]) ?_
 rw [Tryd.ntmps44]
 unfold Y4b at H
 change AW _ _ _ [(0, .agg (Zmj t0))] [] _
 refine Y0 (OpsW.box rfl rfl rfl 1 rfl (Y5 (by kernel_rfl)) ?_)
 change OpsW _ _ _ _ _ (Zmf t0) _
 refine Y2 2 [1] [Zmk] ?_
 refine Y1 (Yc (Y0 (Y8 8 [16, 1] [(16, .bool (cond (decide (t0.Width < 24)) true (decide (60 < t0.Width)))), Zmk] ⟨(fun h => h), (fun h => h), (fun h => by first | exact h | (simpa using h) | grind), trivial⟩ ?_)))
 refine Y1 (Y9 (b := cond (decide (t0.Width < 24)) true (decide (60 < t0.Width))) H rfl (fun c1 H => ?_) (fun c1 H => ?_))
 ·refine Y0 (Y2 2 [3, 2] [(3, .j (1 : Int)), (2, .im (.val (.slice none 0 0)))] ?_)
  refine Y1 ?_
  obtain rfl := X1 H
  refine AW.recast (env' := [(2, sU []), (3, .j (1 : Int))]) (h' := []) (StC.pure (.cons .nil (.cons .im .nil))) (Yl ?_)
  try simp only [Ex.t, Ex.b]
  exact Yh rfl (.tmp (.tmp .nil))
 refine Yb (Y0 (Y2 4 [21, 19, 1] [(21, .bool t0.Back), (19, .agg [.j t0.Label.N, .j t0.Label.K]), Zmk] ?_))
 have ⟨x2, hx2, H⟩ := Yt H
 refine Ys rfl (.cons (.pur rfl) (.cons (.pur rfl) .nil)) (f_R19_Page_ok hx2) (Y2 5 [5, 4, 1] [(5, .j x2.2), (4, sU x2.1), Zmk] ?_)
 refine Y1 (Y0 (OpsW.buildTI (enc := eI .u8) Zml rfl rfl rfl E41 (fun _ => rfl) (by decide) ⟨trivial, by kernel_rfl, by kernel_rfl, by kernel_rfl, rfl⟩ ?_))
 refine Y2 1 [6, 5, 4, 1] (Zmg x2) ?_
 refine Y1 (Y0 (Y2 1 [7, 6, 5, 4, 1] ((7, .j (0 : Int)) :: (Zmg x2)) ?_))
 refine Y1 ?_
 refine Y08 (fun (y : (List Int) × Int) => Y2w t0 x2 y.1 y.2) r (fun (y : (List Int) × Int) => [Zmk, (4, sU x2.1), (5, .j x2.2), (6, sU y.1), (7, .j y.2)]) (fun (y : (List Int) × Int) => (Zmf t0)) ?_ ?_
 ·refine Y0 (Y8 8 [33, 7, 6, 5, 4, 1] ((33, .bool (cond (t0.Ink != 0) true (t0.Part != 0))) :: (7, .j (0 : Int)) :: (Zmg x2)) ⟨(fun h => h), (fun h => h), (fun h => by first | exact h | (simpa using h) | grind), trivial⟩ ?_)
  refine Y1 (Y9 (b := cond (t0.Ink != 0) true (t0.Part != 0)) H rfl (fun c14 H => ?_) (fun c14 H => ?_))
  ·refine Ye (Y2 4 [38, 36, 7, 6, 5, 4, 1] ((38, .j t0.Part) :: (36, .j t0.Ink) :: (7, .j (0 : Int)) :: (Zmg x2)) ?_)
   have ⟨x15, hx15, H⟩ := Yt H
   refine Ys rfl (.cons (.pur rfl) (.cons (.pur rfl) .nil)) (f_R19_Ink_ok hx15) (Y2 5 [7, 6, 5, 4, 1] [(7, .j x15.2), (6, sU x15.1), (5, .j x2.2), (4, sU x2.1), Zmk] (Y1 ?_))
   exact ⟨(x15.1, x15.2), H, (StC.mk (phi [(1, some 1)]) (.o rfl (.i6 .nil) .nil) rfl (.cons (.r rfl) (.i4 .nil)))⟩
  refine Yb ?_
  exact ⟨(Zml, (0 : Int)), H, (StC.mk (phi [(1, some 1)]) (.o rfl (.i6 .nil) .nil) rfl (.cons (.r rfl) (.i4 .nil)))⟩
 rintro ⟨v3, v4⟩ H
 unfold Y2w at H
 change AW _ _ _ [Zmk, (4, sU x2.1), (5, .j x2.2), (6, sU v3), (7, .j v4)] (Zmf t0) _
 refine Yc (Y0 (Y8 6 [47, 1, 4, 6] [(47, .bool (cond (x2.2 != 0) true (v4 != 0))), Zmk, (4, sU x2.1), (6, sU v3)] ⟨(fun h => h), (fun h => by first | exact h | (simpa using h) | grind), trivial⟩ ?_))
 refine Y1 (Y9 (b := cond (x2.2 != 0) true (v4 != 0)) H rfl (fun c5 H => ?_) (fun c5 H => ?_))
 ·refine Y0 (Y2 2 [3, 2] [(3, .j (190 : Int)), (2, .im (.val (.slice none 0 0)))] ?_)
  refine Y1 ?_
  obtain rfl := X1 H
  refine AW.recast (env' := [(2, sU []), (3, .j (190 : Int))]) (h' := []) (StC.pure (.cons .nil (.cons .im .nil))) (Yl ?_)
  try simp only [Ex.t, Ex.b]
  exact Yh rfl (.tmp (.tmp .nil))
 refine Yb (Y0 (Y2b (enc := eI .u8) Zml rfl rfl rfl 48 rfl E41 (fun _ => rfl) (by decide) trivial (by kernel_rfl) (by kernel_rfl) (by kernel_rfl) rfl ?_))
 refine Y2 1 [49, 48, 1, 4] ((49, sU v3) :: (48, .rsl 48 0 0 (Zml.length)) :: (Zmi x2)) ?_
 have ⟨g6, H⟩ := Y6 H
 refine Y32 (enc := eI .u8) (ys := v3) rfl rfl rfl E41 (fun _ => rfl) rfl rfl trivial (SrcA.typed (enc := eI .u8) (fun _ => rfl) (by kernel_rfl) v3) rfl g6 (Y2 1 [8, 1, 4] ((8, .rsl 48 1 0 ((Zml ++ v3).length)) :: (Zmi x2)) (Ya ((8, .rsl 8 0 0 ((Zml ++ v3).length)) :: (Zmi x2)) [(1, ⟨0, true, 86, 6, (Zmj t0)⟩), (8, rtA 0 42 1 (eI .u8) (Zml ++ v3))] (StC.mk (phi [(1, some 1), (8, some 48)]) (.o rfl (.i6 .nil) (.o rfl (CstL.ims _) .nil)) rfl (.cons (.s rfl) (.cons (.r rfl) (.cons .im .nil)))) ?_))
 refine Y1 (Yc (Yd ?_))
 refine Yq (fun loop (s : Y3 × (List Int)) => Y4a x2 loop s.1 s.2) r (fun (s : Y3 × (List Int)) => [Zmk, (4, sU x2.1), (8, .rsl 8 0 0 s.2.length)]) (fun (s : Y3 × (List Int)) => [(1, ⟨0, true, 86, 6, [.j s.1.Width, .j s.1.Label.N, .j s.1.Label.K, .bool s.1.Back, .j s.1.Ink, .j s.1.Part]⟩), (8, rtA 0 42 1 (eI .u8) s.2)]) ?_ 1000000 (t0, Zml ++ v3) H (StC.mk (phi [(1, some 1), (8, some 8)]) (.o rfl (.i6 .nil) (.o rfl (CstL.ims _) .nil)) rfl (.cons (.r rfl) (.cons .im (.cons (.s rfl) .nil))))
 intro loop9 s H
 obtain ⟨v7, v8⟩ := s
 unfold Y4a at H
 change AW _ _ _ (Zmh v8 x2) [(1, ⟨0, true, 86, 6, (Zmm v7)⟩), (8, rtA 0 42 1 (eI .u8) v8)] _
 refine Yc (Y0 ?_)
 have ⟨g10, H⟩ := Y6 H
 refine Y8 8 [58, 1, 4, 8] ((58, .bool (decide ((v8.length : Int) < (v7.Width - (x2.1.length : Int))))) :: (Zmh v8 x2)) ⟨g10, trivial⟩ (Y1 (Y9 (b := decide ((v8.length : Int) < (v7.Width - (x2.1.length : Int)))) H rfl (fun c11 H => ?_) (fun c11 H => ?_)))
 ·refine Yb (Yd (Ye (Y2 1 [59, 1, 4, 8] ((59, .rsl 8 0 0 v8.length) :: (Zmh v8 x2)) ?_)))
  have ⟨g12, H⟩ := Y6 H
  refine Y1j (enc := eI .u8) [(0 : Int)] rfl rfl rfl (by decide) rfl rfl rfl (by simp) E41 (fun _ => rfl) (by decide) trivial (by kernel_rfl) (by kernel_rfl) (by kernel_rfl) rfl rfl rfl g12 (Y2 1 [8, 1, 4] ((8, .rsl 8 1 0 ((v8 ++ [(0 : Int)]).length)) :: (Zmi x2)) (Ya ((8, .rsl 8 0 0 ((v8 ++ [(0 : Int)]).length)) :: (Zmi x2)) [(1, ⟨0, true, 86, 6, (Zmm v7)⟩), (8, rtA 0 42 1 (eI .u8) (v8 ++ [(0 : Int)]))] (StC.mk (phi [(1, some 1), (8, some 8)]) (.o rfl (.i6 .nil) (.o rfl (CstL.ims _) .nil)) rfl (.cons (.s rfl) (.cons (.r rfl) (.cons .im .nil)))) (Y1 ?_)))
  exact ⟨(v7, v8 ++ [(0 : Int)]), H, (StC.mk (phi [(1, some 1), (8, some 8)]) (.o rfl (.i6 .nil) (.o rfl (CstL.ims _) .nil)) rfl (.cons (.r rfl) (.cons .im (.cons (.s rfl) .nil))))⟩
 refine AW.exit ?_
 refine Y0 (Y2 2 [63, 62] [(63, sU x2.1), (62, .rsl 8 0 0 v8.length)] ?_)
 have ⟨g13, H⟩ := Y6 H
 refine Y32 (enc := eI .u8) (ys := x2.1) rfl rfl rfl E41 (fun _ => rfl) rfl rfl trivial (SrcA.typed (enc := eI .u8) (fun _ => rfl) (by kernel_rfl) x2.1) rfl g13 (Y2 2 [3, 2] [(3, .j (0 : Int)), (2, .rsl 8 1 0 ((v8 ++ x2.1).length))] (Ya [(3, .j (0 : Int)), (2, sU (v8 ++ x2.1))] [] (StC.mk (phi []) .nil rfl (.cons .im (.cons (.frz rfl rfl rfl (Y1b (eI .u8) 1 (fun _ => rfl) (v8 ++ x2.1)) (Yy (eI .u8) 1 (fun _ => rfl) (v8 ++ x2.1)) (Y3c rfl)) .nil))) (Y1 ?_)))
 obtain rfl := X1 H
 refine AW.recast (env' := [(2, sU (v8 ++ x2.1)), (3, .j (0 : Int))]) (h' := []) (StC.pure (.i2 .nil)) (Yl ?_)
 try simp only [Ex.t, Ex.b]
 exact Yh rfl (.tmp (.tmp .nil))
end Go.Proofs.YtbcfmhoaocifoaaDoor
