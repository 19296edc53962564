/-
 Written by gen.py (own work): typed functions, and that the program computes them.
-/
import Derived.Test.YtbcfmhoaocifoaaDoorW8
set_option linter.unusedSimpArgs false
set_option linter.unusedVariables false
set_option maxRecDepth 100000
namespace Go.Proofs.YtbcfmhoaocifoaaDoor
open Go.Abs
def f_R25_Turned_b1 (loop6 : (S_Plate × S_Plate × S_Plate × Int) → Option S_Plate) (v5 : Int) (loop12 : (S_Plate × S_Plate × S_Plate × Int) → Option S_Plate) (v8 : S_Plate) (v9 : S_Plate) (v10 : S_Plate) (v11 : Int) : Option S_Plate :=
 cond (decide (v11 < v8.W)) (
  G (0 ≤ v5 ∧ v5 < (v10.Up.length : Int)) <|
  G (0 ≤ v5 ∧ v5 < (v8.Down.length : Int)) <|
  G (inR (v8.W - 1)) <|
  G (inR ((v8.W - 1) - v11)) <|
  G (0 ≤ ((v8.W - 1) - v11) ∧ ((v8.W - 1) - v11) < ((v8.Down.getD v5.toNat []).length : Int)) <|
  G (0 ≤ v11 ∧ v11 < ((v10.Up.getD v5.toNat []).length : Int)) <|
  G (0 ≤ v5 ∧ v5 < (v10.Down.length : Int)) <|
  G (0 ≤ v5 ∧ v5 < (v8.Up.length : Int)) <|
  G (0 ≤ ((v8.W - 1) - v11) ∧ ((v8.W - 1) - v11) < ((v8.Up.getD v5.toNat []).length : Int)) <|
  G (0 ≤ v11 ∧ v11 < ((v10.Down.getD v5.toNat []).length : Int)) <|
  G (inR (v11 + 1)) <|
  loop12 (v8, v9, (⟨v10.W, v10.H, v10.Up.set v5.toNat ((v10.Up.getD v5.toNat []).set v11.toNat ((v8.Down.getD v5.toNat []).getD ((v8.W - 1) - v11).toNat false)), v10.Down.set v5.toNat ((v10.Down.getD v5.toNat []).set v11.toNat ((v8.Up.getD v5.toNat []).getD ((v8.W - 1) - v11).toNat false))⟩ : S_Plate), v11 + 1)) (
  G (inR (v5 + 1)) <|
  loop6 (v8, v9, v10, v5 + 1))
def f_R25_Turned_b2 (loop6 : (S_Plate × S_Plate × S_Plate × Int) → Option S_Plate) (v2 : S_Plate) (v3 : S_Plate) (v4 : S_Plate) (v5 : Int) : Option S_Plate :=
 cond (decide (v5 < v2.H)) (
  iter (fun loop (s : S_Plate × S_Plate × S_Plate × Int) => f_R25_Turned_b1 loop6 v5 loop s.1 s.2.1 s.2.2.1 s.2.2.2) 1000000 (v2, v3, v4, (0 : Int))) (
  some v4)
def f_R25_Turned (t0 : S_Plate) : Option S_Plate :=
 (f_R25_Empty t0.W t0.H).bind fun x1 =>
 iter (fun loop (s : S_Plate × S_Plate × S_Plate × Int) => f_R25_Turned_b2 loop s.1 s.2.1 s.2.2.1 s.2.2.2) 1000000 (t0, (⟨(0 : Int), (0 : Int), [], []⟩ : S_Plate), x1, (0 : Int))
section
variable (t0 : S_Plate) (v2 : S_Plate) (v3 : S_Plate) (v4 : S_Plate) (v5 : Int) (v8 : S_Plate) (v9 : S_Plate) (v10 : S_Plate) (v11 : Int) (x1 : S_Plate)
abbrev qZnr := (⟨v10.W, v10.H, v10.Up.set v5.toNat ((v10.Up.getD v5.toNat []).set v11.toNat ((v8.Down.getD v5.toNat []).getD ((v8.W - 1) - v11).toNat false)), v10.Down.set v5.toNat ((v10.Down.getD v5.toNat []).set v11.toNat ((v8.Up.getD v5.toNat []).getD ((v8.W - 1) - v11).toNat false))⟩ : S_Plate)
abbrev qZns := v10.Up.set v5.toNat ((v10.Up.getD v5.toNat []).set v11.toNat ((v8.Down.getD v5.toNat []).getD ((v8.W - 1) - v11).toNat false))
abbrev qZnt := [fmA 15030 4 1 eB (qZns v5 v8 v10 v11), fmA 15031 4 1 eB (v10.Down.set v5.toNat ((v10.Down.getD v5.toNat []).set v11.toNat ((v8.Up.getD v5.toNat []).getD ((v8.W - 1) - v11).toNat false)))]
abbrev qZnu : List AV := [.int .i64 t0.W, .int .i64 t0.H, slA (eL eB) t0.Up, slA (eL eB) t0.Down]
abbrev qZnv := (v8.Up.getD v5.toNat []).getD ((v8.W - 1) - v11).toNat false
abbrev qZnw := [fmA 15030 4 1 eB (qZns v5 v8 v10 v11), fmA 15031 4 1 eB v10.Down]
abbrev qZnx : List AV := [.int .i64 v8.W, .int .i64 v8.H, slA (eL eB) v8.Up, slA (eL eB) v8.Down]
abbrev qZny : List AV := [.int .i64 v9.W, .int .i64 v9.H, slA (eL eB) v9.Up, slA (eL eB) v9.Down]
abbrev qZnz := [fmA 15030 4 1 eB v10.Up, fmA 15031 4 1 eB v10.Down]
abbrev qZo0 := [fmA 10601 4 1 eB x1.Up, fmA 10602 4 1 eB x1.Down]
abbrev qZo1 := [fmA 15030 4 1 eB v4.Up, fmA 15031 4 1 eB v4.Down]
abbrev qZo2 : List AV := [.int .i64 0, .int .i64 0, .im (.val (.slice none 0 0)), .im (.val (.slice none 0 0))]
abbrev qZo3 : List AV := [.int .i64 v4.W, .int .i64 v4.H, .rsl 5030 0 0 v4.Up.length, .rsl 5031 0 0 v4.Down.length]
abbrev qZo4 := (⟨(0 : Int), (0 : Int), [], []⟩ : S_Plate)
abbrev qZo5 := (v8.Down.getD v5.toNat []).getD ((v8.W - 1) - v11).toNat false
abbrev qZo6 := [fmA 15030 4 1 eB x1.Up, fmA 15031 4 1 eB x1.Down]
abbrev qZo7 := [fmA 15020 4 1 eB v4.Up, fmA 15021 4 1 eB v4.Down]
abbrev qZo8 : List AV := [.int .i64 x1.W, .int .i64 x1.H, .rsl 5030 0 0 x1.Up.length, .rsl 5031 0 0 x1.Down.length]
abbrev qZo9 : List AV := [.int .i64 x1.W, .int .i64 x1.H, .rsl 1500 0 0 x1.Up.length, .rsl 1501 0 0 x1.Down.length]
abbrev qZoa : List AV := [.int .i64 x1.W, .int .i64 x1.H, .rsl 601 0 0 x1.Up.length, .rsl 602 0 0 x1.Down.length]
abbrev qZob := fid 15030 v5.toNat
abbrev qZoc := fid 15031 v5.toNat
abbrev qZod : Nat × AV := (2, .ref 2 0 0)
abbrev qZoe : Nat × AV := (3, .ref 3 0 0)
abbrev qZof := v10.Down.set v5.toNat ((v10.Down.getD v5.toNat []).set v11.toNat (qZnv v5 v8 v11))
abbrev qZog := v8.Down.getD v5.toNat []
abbrev qZoh := (v8.W - 1) - v11
abbrev qZn6 : Hp := [(1, ⟨0, true, 47, 4, (qZnx v8)⟩), (2, ⟨0, true, 47, 4, (qZny v9)⟩), (3, ⟨0, true, 47, 4, [.int .i64 v10.W, .int .i64 v10.H, .rsl 5030 0 0 ((qZns v5 v8 v10 v11).length), .rsl 5031 0 0 ((qZof v5 v8 v10 v11).length)]⟩), (5030, nsA 0 61 15030 (qZns v5 v8 v10 v11)), (5031, nsA 0 61 15031 (qZof v5 v8 v10 v11))]
abbrev qZn7 : Hp := [(1, ⟨0, true, 47, 4, (qZnx v8)⟩), (2, ⟨0, true, 47, 4, (qZny v9)⟩), (3, ⟨0, true, 47, 4, [.int .i64 v10.W, .int .i64 v10.H, .rsl 5030 0 0 ((qZns v5 v8 v10 v11).length), .rsl 5031 0 0 v10.Down.length]⟩), (5030, nsA 0 61 15030 (qZns v5 v8 v10 v11)), (5031, nsA 0 61 15031 v10.Down)]
abbrev qZn8 : Hp := [(1, ⟨0, true, 47, 4, (qZnx v8)⟩), (2, ⟨0, true, 47, 4, (qZny v9)⟩), (3, ⟨0, true, 47, 4, [.int .i64 v10.W, .int .i64 v10.H, .rsl 5030 0 0 v10.Up.length, .rsl 5031 0 0 v10.Down.length]⟩), (5030, nsA 0 61 15030 v10.Up), (5031, nsA 0 61 15031 v10.Down)]
abbrev qZn9 : Hp := [(1, ⟨0, true, 47, 4, [.int .i64 v2.W, .int .i64 v2.H, slA (eL eB) v2.Up, slA (eL eB) v2.Down]⟩), (2, ⟨0, true, 47, 4, [.int .i64 v3.W, .int .i64 v3.H, slA (eL eB) v3.Up, slA (eL eB) v3.Down]⟩), (3, ⟨0, true, 47, 4, (qZo3 v4)⟩), (5030, nsA 0 61 15030 v4.Up), (5031, nsA 0 61 15031 v4.Down)]
abbrev qZna : Env := [(1, .ref 1 0 0), qZod, qZoe, (4, .int .i64 v5), (5, .int .i64 v11)]
abbrev qZnb : Hp := [(1, ⟨0, true, 47, 4, (qZnu t0)⟩), (2, ⟨0, true, 47, 4, qZo2⟩)]
abbrev qZnc : Hp := [(1, ⟨0, true, 47, 4, (qZnu t0)⟩), (2, ⟨0, true, 47, 4, qZo2⟩), (3, ⟨0, true, 47, 4, (qZo8 x1)⟩), (5030, nsA 0 61 15030 x1.Up), (5031, nsA 0 61 15031 x1.Down)]
abbrev qZnd : Env := (40, .bool (qZo5 v5 v8 v11)) :: (28, .int .i64 v11) :: (27, .rsl (qZob v5) 0 0 ((v10.Up.getD v5.toNat []).length)) :: (qZna v5 v11)
abbrev qZne : Env := (59, .bool (qZnv v5 v8 v11)) :: (47, .int .i64 v11) :: (46, .rsl (qZoc v5) 0 0 ((v10.Down.getD v5.toNat []).length)) :: (qZna v5 v11)
abbrev qZnf : Env := (32, .ipt (v8.Down.flatMap (eL eB)) (v5.toNat * 1)) :: (31, .int .i64 v5) :: (30, slA (eL eB) v8.Down) :: (29, .ref 1 0 3) :: (28, .int .i64 v11) :: (27, .rsl (qZob v5) 0 0 ((v10.Up.getD v5.toNat []).length)) :: (26, .ref 5030 0 (0 + v5.toNat * 1)) :: (25, .int .i64 v5) :: (24, .rsl 5030 0 0 v10.Up.length) :: (23, .ref 3 0 2) :: (20, .bool (decide (v11 < v8.W))) :: (qZna v5 v11)
abbrev qZng : Hp := [(2, ⟨0, true, 47, 4, [.int .i64 v4.W, .int .i64 v4.H, .rsl 5020 0 0 v4.Up.length, .rsl 5021 0 0 v4.Down.length]⟩), (5020, nsA 0 61 15020 v4.Up), (5021, nsA 0 61 15021 v4.Down)]
abbrev qZnh : Env := (51, .ipt (v8.Up.flatMap (eL eB)) (v5.toNat * 1)) :: (50, .int .i64 v5) :: (49, slA (eL eB) v8.Up) :: (48, .ref 1 0 2) :: (47, .int .i64 v11) :: (46, .rsl (qZoc v5) 0 0 ((v10.Down.getD v5.toNat []).length)) :: (45, .ref 5031 0 (0 + v5.toNat * 1)) :: (44, .int .i64 v5) :: (43, .rsl 5031 0 0 v10.Down.length) :: (42, .ref 3 0 3) :: (qZna v5 v11)
abbrev qZni : Hp := (3, ⟨0, true, 47, 4, (qZoa x1)⟩) :: (3, ⟨0, true, 47, 4, qZo2⟩) :: (601, nsA 0 61 10601 x1.Up) :: (602, nsA 0 61 10602 x1.Down) :: (qZnb t0)
abbrev qZnj : Env := [qZod, (1, .ref 1 0 0)]
abbrev qZnk : List (Nat × FM) := [(15030, .same 15030), (15031, .same 15031)]
abbrev qZnl : Env := [(1, .ref 1 0 0), qZod, qZoe, (4, .int .i64 v5)]
abbrev qZnm : Hp := (1000, ⟨0, true, 47, 4, (qZo9 x1)⟩) :: (1500, nsA 0 61 11500 x1.Up) :: (1501, nsA 0 61 11501 x1.Down) :: (qZnb t0)
abbrev qZnn : Hp := [(1000, ⟨0, true, 47, 4, [.int .i64 v4.W, .int .i64 v4.H, .rsl 1500 0 0 v4.Up.length, .rsl 1501 0 0 v4.Down.length]⟩), (1500, nsA 0 61 11500 v4.Up), (1501, nsA 0 61 11501 v4.Down)]
abbrev qZno : Env := (10, .agg (qZoa x1)) :: (9, .int .i64 t0.H) :: (7, .int .i64 t0.W) :: qZnj
abbrev qZnp : Hp := (2, ⟨0, true, 47, 4, (qZo3 v4)⟩) :: (qZn9 v2 v3 v4)
abbrev qZnq : Hp := (601, nsA 0 61 10601 x1.Up) :: (602, nsA 0 61 10602 x1.Down) :: (qZnb t0)
end
theorem f_R25_Turned_own {t0 : S_Plate} {r : S_Plate} (H : f_R25_Turned t0 = some r) : Abs.Spec Tryd.prog 22 [.agg [.int .i64 t0.W, .int .i64 t0.H, slA (eL eB) t0.Up, slA (eL eB) t0.Down]] [] (fun x h => x = .agg [.int .i64 r.W, .int .i64 r.H, .rsl 1500 0 0 r.Up.length, .rsl 1501 0 0 r.Down.length] ∧ h = ([(1000, ⟨0, true, 47, 4, [.int .i64 r.W, .int .i64 r.H, .rsl 1500 0 0 r.Up.length, .rsl 1501 0 0 r.Down.length]⟩), (1500, nsA 0 61 11500 r.Up), (1501, nsA 0 61 11501 r.Down)] ++ fmsH [fmA 11500 4 1 eB r.Up, fmA 11501 4 1 eB r.Down])) := by
 refine Spec.of_AW Tryd.func22 rfl (by simp [Tryd.ntmps22]) ?_
 rw [Tryd.ntmps22]
 unfold f_R25_Turned at H
 change AW _ _ _ [(0, .agg (qZnu t0))] [] _
 refine AW.regionSeq (OpsW.box rfl rfl rfl 1 rfl (okCb_sound (by kernel_rfl)) ?_)
 change OpsW _ _ _ _ _ [(1, ⟨0, true, 47, 4, (qZnu t0)⟩)] _
 refine OpsW.alloc' rfl rfl rfl 2 rfl (by kernel_rfl : zc Tryd.prog 47 = some [.int .i64 0, .int .i64 0, .slice none 0 0, .slice none 0 0]) (by kernel_rfl) ?_
 refine OpsW.sg 0 [2, 1] qZnj ?_
 refine OpsW.recast (env' := qZnj) (h' := (qZnb t0)) (StC.mk (phi [(1, some 1), (2, some 2)]) (.o rfl (.i4 .nil) (.o rfl (.i4 .nil) .nil)) rfl (.cons (.r rfl) (.cons (.r rfl) .nil))) ?_
 refine OpsW.nil (AW.regionSeq (OpsW.sg 4 [9, 7, 2, 1] ((9, .int .i64 t0.H) :: (7, .int .i64 t0.W) :: qZnj) ?_))
 obtain ⟨x1, hx1, H⟩ := bindS H
 refine OpsW.call rfl rfl (by kernel_rfl) [] _ _ rfl (glAll_sound trivial) (.cons (.pur rfl) (.cons (.pur rfl) .nil)) (f_R25_Empty_own hx1) ?_
 rintro _ _ ⟨rfl, rfl⟩
 refine ⟨(fresh_F0 rfl rfl), .inl rfl, ?_⟩
 refine OpsW.heapEq (heap_mid0 rfl) ?_
 change OpsW _ _ _ _ ((10, .agg (qZo9 x1)) :: (9, .int .i64 t0.H) :: (7, .int .i64 t0.W) :: qZnj) ((qZnm t0 x1) ++ fmsH [fmA 11500 4 1 eB x1.Up, fmA 11501 4 1 eB x1.Down]) _
 refine OpsW.recast (env' := (qZno t0 x1)) (h' := ((qZnq t0 x1) ++ fmsH (qZo0 x1))) (StC.mkF (hc := (qZnm t0 x1)) (fs := [fmA 11500 4 1 eB x1.Up, fmA 11501 4 1 eB x1.Down]) (hc' := (qZnq t0 x1)) (fs' := (qZo0 x1)) rfl [(601, some 1500), (602, some 1501), (1, some 1), (2, some 2)] [(10601, .same 11500), (10602, .same 11501)] rfl (.o rfl (nsSameA rfl rfl (by decide) rfl rfl rfl) (.o rfl (nsSameA rfl rfl (by decide) rfl rfl rfl) (.o rfl (.i4 .nil) (.o rfl (.i4 .nil) .nil)))) rfl (.cons rfl (fmSame rfl) (.cons rfl (fmSame rfl) .nil)) (.cons (.agg (.i2 (.cons (.s rfl) (.cons (.s rfl) .nil)))) (.i2 (.cons (.r rfl) (.cons (.r rfl) .nil))))) ?_
 change OpsW _ _ _ _ (qZno t0 x1) ((qZnq t0 x1) ++ fmsH (qZo0 x1)) _
 refine OpsW.alloc' rfl rfl rfl 3 (free_f rfl) (by kernel_rfl : zc Tryd.prog 47 = some [.int .i64 0, .int .i64 0, .slice none 0 0, .slice none 0 0]) (by kernel_rfl) ?_
 refine OpsW.store rfl rfl rfl rfl trivial trivial rfl rfl rfl (by kernel_rfl) (okCb_sound (by kernel_rfl)) (Nat.le_of_ble_eq_true (by kernel_rfl)) ?_
 change OpsW _ _ _ _ _ ((qZni t0 x1) ++ fmsH (qZo0 x1)) _
 refine OpsW.sg 0 [3, 2, 1] (qZoe :: qZnj) ?_
 refine OpsW.recast (env' := (qZoe :: qZnj)) (h' := ((qZnc t0 x1) ++ fmsH (qZo6 x1))) (StC.mkF (hc := (qZni t0 x1)) (fs := (qZo0 x1)) (hc' := (qZnc t0 x1)) (fs' := (qZo6 x1)) rfl [(1, some 1), (2, some 2), (3, some 3), (5030, some 601), (5031, some 602)] [(15030, .same 10601), (15031, .same 10602)] rfl (.o rfl (.i4 .nil) (.o rfl (.i4 .nil) (.o rfl (.i2 (.cons (.s rfl) (.cons (.s rfl) .nil))) (.o rfl (nsSameA rfl rfl (by decide) rfl rfl rfl) (.o rfl (nsSameA rfl rfl (by decide) rfl rfl rfl) .nil))))) rfl (.cons rfl (fmSame rfl) (.cons rfl (fmSame rfl) .nil)) (.cons (.r rfl) (.cons (.r rfl) (.cons (.r rfl) .nil)))) ?_
 refine OpsW.nil (AW.seq (AW.regionSeq (OpsW.sg 1 [4, 3, 2, 1] ((4, .int .i64 0) :: qZoe :: qZnj) ?_)))
 refine OpsW.nil (AW.block ?_)
 refine AW.iterK (fun loop (s : S_Plate × S_Plate × S_Plate × Int) => f_R25_Turned_b2 loop s.1 s.2.1 s.2.2.1 s.2.2.2) r (fun (s : S_Plate × S_Plate × S_Plate × Int) => [(1, .ref 1 0 0), qZod, qZoe, (4, .int .i64 s.2.2.2)]) (fun (s : S_Plate × S_Plate × S_Plate × Int) => ([(1, ⟨0, true, 47, 4, [.int .i64 s.1.W, .int .i64 s.1.H, slA (eL eB) s.1.Up, slA (eL eB) s.1.Down]⟩), (2, ⟨0, true, 47, 4, [.int .i64 s.2.1.W, .int .i64 s.2.1.H, slA (eL eB) s.2.1.Up, slA (eL eB) s.2.1.Down]⟩), (3, ⟨0, true, 47, 4, [.int .i64 s.2.2.1.W, .int .i64 s.2.2.1.H, .rsl 5030 0 0 s.2.2.1.Up.length, .rsl 5031 0 0 s.2.2.1.Down.length]⟩), (5030, nsA 0 61 15030 s.2.2.1.Up), (5031, nsA 0 61 15031 s.2.2.1.Down)] ++ fmsH [fmA 15030 4 1 eB s.2.2.1.Up, fmA 15031 4 1 eB s.2.2.1.Down])) ?_ 1000000 (t0, qZo4, x1, (0 : Int)) H (StC.mkF (hc := (qZnc t0 x1)) (fs := (qZo6 x1)) (hc' := [(1, ⟨0, true, 47, 4, (qZnu t0)⟩), (2, ⟨0, true, 47, 4, [.int .i64 qZo4.W, .int .i64 qZo4.H, slA (eL eB) qZo4.Up, slA (eL eB) qZo4.Down]⟩), (3, ⟨0, true, 47, 4, (qZo8 x1)⟩), (5030, nsA 0 61 15030 x1.Up), (5031, nsA 0 61 15031 x1.Down)]) (fs' := (qZo6 x1)) rfl [(1, some 1), (2, some 2), (3, some 3), (5030, some 5030), (5031, some 5031)] qZnk rfl (.o rfl (.i4 .nil) (.o rfl (.i2 (.cons .nil (.cons .nil .nil))) (.o rfl (.i2 (.cons (.s rfl) (.cons (.s rfl) .nil))) (.o rfl (nsSameA rfl rfl (by decide) rfl rfl rfl) (.o rfl (nsSameA rfl rfl (by decide) rfl rfl rfl) .nil))))) rfl (.cons rfl (fmSame rfl) (.cons rfl (fmSame rfl) .nil)) (.cons (.r rfl) (.cons (.r rfl) (.cons (.r rfl) (.cons .im .nil)))))
 intro loop6 s H
 obtain ⟨v2, v3, v4, v5⟩ := s
 change f_R25_Turned_b2 loop6 v2 v3 v4 v5 = some r at H
 unfold f_R25_Turned_b2 at H
 change AW _ _ _ (qZnl v5) ((qZn9 v2 v3 v4) ++ fmsH (qZo1 v4)) _
 refine AW.seq (AW.regionSeq (OpsW.sg 4 [14, 1, 2, 3, 4] ((14, .bool (decide (v5 < v2.H))) :: (qZnl v5)) ?_))
 refine OpsW.nil (AW.cond (b := decide (v5 < v2.H)) rfl (fun c7 => ?_) (fun c7 => ?_))
 ·replace H := condT c7 H
  refine AW.skip (AW.seq (AW.block (AW.regionSeq (OpsW.sg 1 [5, 1, 2, 3, 4] ((5, .int .i64 0) :: (qZnl v5)) ?_))))
  refine OpsW.nil (AW.block ?_)
  refine AW.iterK (fun loop (s : S_Plate × S_Plate × S_Plate × Int) => f_R25_Turned_b1 loop6 v5 loop s.1 s.2.1 s.2.2.1 s.2.2.2) r (fun (s : S_Plate × S_Plate × S_Plate × Int) => [(1, .ref 1 0 0), qZod, qZoe, (4, .int .i64 v5), (5, .int .i64 s.2.2.2)]) (fun (s : S_Plate × S_Plate × S_Plate × Int) => ([(1, ⟨0, true, 47, 4, [.int .i64 s.1.W, .int .i64 s.1.H, slA (eL eB) s.1.Up, slA (eL eB) s.1.Down]⟩), (2, ⟨0, true, 47, 4, [.int .i64 s.2.1.W, .int .i64 s.2.1.H, slA (eL eB) s.2.1.Up, slA (eL eB) s.2.1.Down]⟩), (3, ⟨0, true, 47, 4, [.int .i64 s.2.2.1.W, .int .i64 s.2.2.1.H, .rsl 5030 0 0 s.2.2.1.Up.length, .rsl 5031 0 0 s.2.2.1.Down.length]⟩), (5030, nsA 0 61 15030 s.2.2.1.Up), (5031, nsA 0 61 15031 s.2.2.1.Down)] ++ fmsH [fmA 15030 4 1 eB s.2.2.1.Up, fmA 15031 4 1 eB s.2.2.1.Down])) ?_ 1000000 (v2, v3, v4, (0 : Int)) H (StC.mkF (hc := (qZn9 v2 v3 v4)) (fs := (qZo1 v4)) (hc' := (qZn9 v2 v3 v4)) (fs' := (qZo1 v4)) rfl [(1, some 1), (2, some 2), (3, some 3), (5030, some 5030), (5031, some 5031)] qZnk rfl (.o rfl (.i4 .nil) (.o rfl (.i4 .nil) (.o rfl (.i2 (.cons (.s rfl) (.cons (.s rfl) .nil))) (.o rfl (nsSameA rfl rfl (by decide) rfl rfl rfl) (.o rfl (nsSameA rfl rfl (by decide) rfl rfl rfl) .nil))))) rfl (.cons rfl (fmSame rfl) (.cons rfl (fmSame rfl) .nil)) (.cons (.r rfl) (.cons (.r rfl) (.cons (.r rfl) (.i2 .nil)))))
  intro loop12 s H
  obtain ⟨v8, v9, v10, v11⟩ := s
  change f_R25_Turned_b1 loop6 v5 loop12 v8 v9 v10 v11 = some r at H
  unfold f_R25_Turned_b1 at H
  change AW _ _ _ (qZna v5 v11) ((qZn8 v8 v9 v10) ++ fmsH (qZnz v10)) _
  refine AW.seq (AW.regionSeq (OpsW.sg 4 [20, 1, 2, 3, 4, 5] ((20, .bool (decide (v11 < v8.W))) :: (qZna v5 v11)) ?_))
  refine OpsW.nil (AW.cond (b := decide (v11 < v8.W)) rfl (fun c13 => ?_) (fun c13 => ?_))
  ·replace H := condT c13 H
   refine AW.skip (AW.seq (AW.block (AW.drawTSeq 18 Tryd.checked.mixed (by kernel_rfl) ?_)))
   obtain ⟨g14, H⟩ := G_some H
   refine QOps.seg (N := 62) 4 [0 ≤ v5 ∧ v5 < (v10.Up.length : Int)] ((26, .ref 5030 0 (0 + v5.toNat * 1)) :: (25, .int .i64 v5) :: (24, .rsl 5030 0 0 v10.Up.length) :: (23, .ref 3 0 2) :: (20, .bool (decide (v11 < v8.W))) :: (qZna v5 v11)) (by kernel_rfl) ⟨g14, trivial⟩ ?_
   refine QOps.asU (.rsl (qZob v5) 0 0 ((v10.Up.getD v5.toNat []).length)) rfl (T.loadR rfl trivial (by kernel_rfl) rfl rfl rfl (ns_cell (ltN g14) (by first | omega | (simp only [qZob]; omega)))) ?_
   obtain ⟨g15, H⟩ := G_some H
   refine QOps.seg (N := 62) 5 [0 ≤ v5 ∧ v5 < (v8.Down.length : Int)] (qZnf v5 v8 v10 v11) (by kernel_rfl) ⟨g15, trivial⟩ ?_
   refine QOps.asU (slA eB (qZog v5 v8)) rfl (T.load rfl trivial (by kernel_rfl) (fm_cell0 (eL eB) 1 (fun _ => rfl) v8.Down [] v5.toNat (ltN g15) (fun a => .sl (a.flatMap eB) a.length) (fun _ => rfl))) ?_
   obtain ⟨g16, H⟩ := G_some H
   obtain ⟨g17, H⟩ := G_some H
   obtain ⟨g18, H⟩ := G_some H
   refine QOps.seg (N := 62) 6 [inR (v8.W - 1), inR (qZoh v8 v11), 0 ≤ (qZoh v8 v11) ∧ (qZoh v8 v11) < ((qZog v5 v8).length : Int)] ((39, .ipt ((qZog v5 v8).flatMap eB) ((qZoh v8 v11).toNat * 1)) :: (38, .int .i64 (qZoh v8 v11)) :: (37, .int .i64 v11) :: (36, .int .i64 (v8.W - 1)) :: (35, .int .i64 v8.W) :: (34, .ref 1 0 0) :: (33, slA eB (qZog v5 v8)) :: (qZnf v5 v8 v10 v11)) (by kernel_rfl) ⟨g16, g17, g18, trivial⟩ ?_
   refine QOps.asU (.bool (qZo5 v5 v8 v11)) rfl (T.load rfl trivial (by kernel_rfl) (fm_cell0 eB 1 (fun _ => rfl) (qZog v5 v8) false (qZoh v8 v11).toNat (ltN g18) (fun a => .val (.bool a)) (fun _ => rfl))) ?_
   refine QOps.nil (OpsW.sg 0 [40, 28, 27, 1, 2, 3, 4, 5] (qZnd v5 v8 v10 v11) ?_)
   obtain ⟨g19, H⟩ := G_some H
   change OpsW _ _ _ _ (qZnd v5 v8 v10 v11) ((qZn8 v8 v9 v10) ++ fmsH (qZnz v10)) _
   refine OpsW.asU (.ref (qZob v5) 0 (0 + v11.toNat * 1)) rfl rfl (T.idxF rfl rfl trivial trivial (by kernel_rfl) (by kernel_rfl) (row_f rfl rfl (ltN g14)) rfl rfl g19) ?_
   change OpsW _ _ _ _ ((41, .ref (qZob v5) 0 (0 + v11.toNat * 1)) :: (qZnd v5 v8 v10 v11)) ((qZn8 v8 v9 v10) ++ fmsH (qZnz v10)) _
   refine OpsW.storeN (enc := eB) (k := 1) (xs := v10.Up) (hc' := (qZn7 v5 v8 v9 v10 v11)) false (qZo5 v5 v8 v11) [.val (.bool (qZo5 v5 v8 v11))] v5.toNat v11.toNat 0 rfl rfl rfl (by first | rfl | exact congrArg (AV.ref (qZob v5) 0) (by first | omega | (simp only [qZns, qZnz, qZo5, qZob]; omega))) trivial trivial rfl rfl (fun _ => rfl) rfl (by kernel_rfl) (okCb_sound (by kernel_rfl)) (ltN g14) (ltN g19) (Nat.le_of_ble_eq_true (by kernel_rfl)) rfl (by simp only [List.length_set, nsA_set, qZns, qZnx, qZny, qZnz, qZo5, qZob, qZod, qZoe, qZn7, qZn8, qZna, qZnd]) ?_
   change OpsW _ _ _ _ ((41, .ref (qZob v5) 0 (0 + v11.toNat * 1)) :: (qZnd v5 v8 v10 v11)) ((qZn7 v5 v8 v9 v10 v11) ++ fmsH (qZnw v5 v8 v10 v11)) _
   refine OpsW.sg 0 [1, 2, 3, 4, 5] (qZna v5 v11) ?_
   refine OpsW.recast (env' := (qZna v5 v11)) (h' := ((qZn7 v5 v8 v9 v10 v11) ++ fmsH (qZnw v5 v8 v10 v11))) (StC.mkF (hc := (qZn7 v5 v8 v9 v10 v11)) (fs := (qZnw v5 v8 v10 v11)) (hc' := (qZn7 v5 v8 v9 v10 v11)) (fs' := (qZnw v5 v8 v10 v11)) rfl [(1, some 1), (2, some 2), (3, some 3), (5030, some 5030), (5031, some 5031)] qZnk rfl (.o rfl (.i4 .nil) (.o rfl (.i4 .nil) (.o rfl (.i2 (.cons (.s rfl) (.cons (.s rfl) .nil))) (.o rfl (nsSameA rfl rfl (by decide) rfl rfl rfl) (.o rfl (nsSameA rfl rfl (by decide) rfl rfl rfl) .nil))))) rfl (.cons rfl (fmSame rfl) (.cons rfl (fmSame rfl) .nil)) (.cons (.r rfl) (.cons (.r rfl) (.cons (.r rfl) (.i2 .nil))))) ?_
   refine OpsW.nil (AW.drawT 18 Tryd.checked.mixed (by kernel_rfl) ?_)
   obtain ⟨g20, H⟩ := G_some H
   refine QOps.seg (N := 62) 4 [0 ≤ v5 ∧ v5 < (v10.Down.length : Int)] ((45, .ref 5031 0 (0 + v5.toNat * 1)) :: (44, .int .i64 v5) :: (43, .rsl 5031 0 0 v10.Down.length) :: (42, .ref 3 0 3) :: (qZna v5 v11)) (by kernel_rfl) ⟨g20, trivial⟩ ?_
   refine QOps.asU (.rsl (qZoc v5) 0 0 ((v10.Down.getD v5.toNat []).length)) rfl (T.loadR rfl trivial (by kernel_rfl) rfl rfl rfl (ns_cell (ltN g20) (by first | omega | (simp only [qZns, qZnw, qZoc]; omega)))) ?_
   obtain ⟨g21, H⟩ := G_some H
   refine QOps.seg (N := 62) 5 [0 ≤ v5 ∧ v5 < (v8.Up.length : Int)] (qZnh v5 v8 v10 v11) (by kernel_rfl) ⟨g21, trivial⟩ ?_
   refine QOps.asU (slA eB (v8.Up.getD v5.toNat [])) rfl (T.load rfl trivial (by kernel_rfl) (fm_cell0 (eL eB) 1 (fun _ => rfl) v8.Up [] v5.toNat (ltN g21) (fun a => .sl (a.flatMap eB) a.length) (fun _ => rfl))) ?_
   obtain ⟨g22, H⟩ := G_some H
   refine QOps.seg (N := 62) 6 [inR (v8.W - 1), inR (qZoh v8 v11), 0 ≤ (qZoh v8 v11) ∧ (qZoh v8 v11) < ((v8.Up.getD v5.toNat []).length : Int)] ((58, .ipt ((v8.Up.getD v5.toNat []).flatMap eB) ((qZoh v8 v11).toNat * 1)) :: (57, .int .i64 (qZoh v8 v11)) :: (56, .int .i64 v11) :: (55, .int .i64 (v8.W - 1)) :: (54, .int .i64 v8.W) :: (53, .ref 1 0 0) :: (52, slA eB (v8.Up.getD v5.toNat [])) :: (qZnh v5 v8 v10 v11)) (by kernel_rfl) ⟨g16, g17, g22, trivial⟩ ?_
   refine QOps.asU (.bool (qZnv v5 v8 v11)) rfl (T.load rfl trivial (by kernel_rfl) (fm_cell0 eB 1 (fun _ => rfl) (v8.Up.getD v5.toNat []) false (qZoh v8 v11).toNat (ltN g22) (fun a => .val (.bool a)) (fun _ => rfl))) ?_
   refine QOps.nil (OpsW.sg 0 [59, 47, 46, 1, 2, 3, 4, 5] (qZne v5 v8 v10 v11) ?_)
   obtain ⟨g23, H⟩ := G_some H
   change OpsW _ _ _ _ (qZne v5 v8 v10 v11) ((qZn7 v5 v8 v9 v10 v11) ++ fmsH (qZnw v5 v8 v10 v11)) _
   refine OpsW.asU (.ref (qZoc v5) 0 (0 + v11.toNat * 1)) rfl rfl (T.idxF rfl rfl trivial trivial (by kernel_rfl) (by kernel_rfl) (row_f rfl rfl (ltN g20)) rfl rfl g23) ?_
   change OpsW _ _ _ _ ((60, .ref (qZoc v5) 0 (0 + v11.toNat * 1)) :: (qZne v5 v8 v10 v11)) ((qZn7 v5 v8 v9 v10 v11) ++ fmsH (qZnw v5 v8 v10 v11)) _
   refine OpsW.storeN (enc := eB) (k := 1) (xs := v10.Down) (hc' := (qZn6 v5 v8 v9 v10 v11)) false (qZnv v5 v8 v11) [.val (.bool (qZnv v5 v8 v11))] v5.toNat v11.toNat 0 rfl rfl rfl (by first | rfl | exact congrArg (AV.ref (qZoc v5) 0) (by first | omega | (simp only [qZns, qZnv, qZnw, qZoc, qZof]; omega))) trivial trivial rfl rfl (fun _ => rfl) rfl (by kernel_rfl) (okCb_sound (by kernel_rfl)) (ltN g20) (ltN g23) (Nat.le_of_ble_eq_true (by kernel_rfl)) rfl (by simp only [List.length_set, nsA_set, qZns, qZnv, qZnw, qZnx, qZny, qZoc, qZod, qZoe, qZof, qZn6, qZn7, qZna, qZne]) ?_
   change OpsW _ _ _ _ ((60, .ref (qZoc v5) 0 (0 + v11.toNat * 1)) :: (qZne v5 v8 v10 v11)) ((qZn6 v5 v8 v9 v10 v11) ++ fmsH (qZnt v5 v8 v10 v11)) _
   refine OpsW.sg 0 [1, 2, 3, 4, 5] (qZna v5 v11) ?_
   refine OpsW.recast (env' := (qZna v5 v11)) (h' := ((qZn6 v5 v8 v9 v10 v11) ++ fmsH (qZnt v5 v8 v10 v11))) (StC.mkF (hc := (qZn6 v5 v8 v9 v10 v11)) (fs := (qZnt v5 v8 v10 v11)) (hc' := (qZn6 v5 v8 v9 v10 v11)) (fs' := (qZnt v5 v8 v10 v11)) rfl [(1, some 1), (2, some 2), (3, some 3), (5030, some 5030), (5031, some 5031)] qZnk rfl (.o rfl (.i4 .nil) (.o rfl (.i4 .nil) (.o rfl (.i2 (.cons (.s rfl) (.cons (.s rfl) .nil))) (.o rfl (nsSameA rfl rfl (by decide) rfl rfl rfl) (.o rfl (nsSameA rfl rfl (by decide) rfl rfl rfl) .nil))))) rfl (.cons rfl (fmSame rfl) (.cons rfl (fmSame rfl) .nil)) (.cons (.r rfl) (.cons (.r rfl) (.cons (.r rfl) (.i2 .nil))))) ?_
   refine OpsW.nil (AW.region ?_)
   obtain ⟨g24, H⟩ := G_some H
   refine OpsW.sq 3 [5, 1, 2, 3, 4] [inR (v11 + 1)] ((5, .int .i64 (v11 + 1)) :: (qZnl v5)) ⟨g24, trivial⟩ ?_
   refine OpsW.nil ?_
   show ∃ y, _ ∧ StC _ _ _ _
   exact ⟨(v8, v9, (qZnr v5 v8 v10 v11), v11 + 1), H, (StC.mkF (hc := (qZn6 v5 v8 v9 v10 v11)) (fs := (qZnt v5 v8 v10 v11)) (hc' := [(1, ⟨0, true, 47, 4, (qZnx v8)⟩), (2, ⟨0, true, 47, 4, (qZny v9)⟩), (3, ⟨0, true, 47, 4, [.int .i64 (qZnr v5 v8 v10 v11).W, .int .i64 (qZnr v5 v8 v10 v11).H, .rsl 5030 0 0 (qZnr v5 v8 v10 v11).Up.length, .rsl 5031 0 0 (qZnr v5 v8 v10 v11).Down.length]⟩), (5030, nsA 0 61 15030 (qZnr v5 v8 v10 v11).Up), (5031, nsA 0 61 15031 (qZnr v5 v8 v10 v11).Down)]) (fs' := [fmA 15030 4 1 eB (qZnr v5 v8 v10 v11).Up, fmA 15031 4 1 eB (qZnr v5 v8 v10 v11).Down]) rfl [(1, some 1), (2, some 2), (3, some 3), (5030, some 5030), (5031, some 5031)] qZnk rfl (.o rfl (.i4 .nil) (.o rfl (.i4 .nil) (.o rfl (.i2 (.cons (.s rfl) (.cons (.s rfl) .nil))) (.o rfl (nsSameA rfl rfl (by decide) rfl rfl rfl) (.o rfl (nsSameA rfl rfl (by decide) rfl rfl rfl) .nil))))) rfl (.cons rfl (fmSame rfl) (.cons rfl (fmSame rfl) .nil)) (.cons (.r rfl) (.cons (.r rfl) (.cons (.r rfl) (.i2 .nil)))))⟩
  replace H := condF c13 H
  refine AW.exit ?_
  refine AW.region ?_
  obtain ⟨g25, H⟩ := G_some H
  refine OpsW.sq 3 [4, 1, 2, 3] [inR (v5 + 1)] [(4, .int .i64 (v5 + 1)), (1, .ref 1 0 0), qZod, qZoe] ⟨g25, trivial⟩ ?_
  refine OpsW.nil ?_
  show ∃ y, _ ∧ StC _ _ _ _
  exact ⟨(v8, v9, v10, v5 + 1), H, (StC.mkF (hc := (qZn8 v8 v9 v10)) (fs := (qZnz v10)) (hc' := (qZn8 v8 v9 v10)) (fs' := (qZnz v10)) rfl [(1, some 1), (2, some 2), (3, some 3), (5030, some 5030), (5031, some 5031)] qZnk rfl (.o rfl (.i4 .nil) (.o rfl (.i4 .nil) (.o rfl (.i2 (.cons (.s rfl) (.cons (.s rfl) .nil))) (.o rfl (nsSameA rfl rfl (by decide) rfl rfl rfl) (.o rfl (nsSameA rfl rfl (by decide) rfl rfl rfl) .nil))))) rfl (.cons rfl (fmSame rfl) (.cons rfl (fmSame rfl) .nil)) (.cons (.r rfl) (.cons (.r rfl) (.cons (.r rfl) (.cons .im .nil)))))⟩
 replace H := condF c7 H
 refine AW.exit ?_
 refine AW.regionSeq (OpsW.sg 1 [61, 2] [(61, .agg (qZo3 v4)), qZod] ?_)
 refine OpsW.store rfl rfl rfl rfl trivial trivial rfl rfl rfl (by kernel_rfl) (okCb_sound (by kernel_rfl)) (Nat.le_of_ble_eq_true (by kernel_rfl)) ?_
 change OpsW _ _ _ _ _ ((qZnp v2 v3 v4) ++ fmsH (qZo1 v4)) _
 refine OpsW.sg 0 [2] [qZod] ?_
 refine OpsW.recast (env' := [qZod]) (h' := ((qZng v4) ++ fmsH (qZo7 v4))) (StC.mkF (hc := (qZnp v2 v3 v4)) (fs := (qZo1 v4)) (hc' := (qZng v4)) (fs' := (qZo7 v4)) rfl [(2, some 2), (5020, some 5030), (5021, some 5031)] [(15020, .same 15030), (15021, .same 15031)] rfl (.o rfl (.i2 (.cons (.s rfl) (.cons (.s rfl) .nil))) (.o rfl (nsSameA rfl rfl (by decide) rfl rfl rfl) (.o rfl (nsSameA rfl rfl (by decide) rfl rfl rfl) .nil))) rfl (.cons rfl (fmSame rfl) (.cons rfl (fmSame rfl) .nil)) (.cons (.r rfl) .nil)) ?_
 refine OpsW.nil ?_
 obtain rfl := Option.some.inj H
 refine AW.recast (env' := [(2, .ref 1000 0 0)]) (h' := ((qZnn v4) ++ fmsH [fmA 11500 4 1 eB v4.Up, fmA 11501 4 1 eB v4.Down])) (StC.mkF (hc := (qZng v4)) (fs := (qZo7 v4)) (hc' := (qZnn v4)) (fs' := [fmA 11500 4 1 eB v4.Up, fmA 11501 4 1 eB v4.Down]) rfl [(1000, some 2), (1500, some 5020), (1501, some 5021)] [(11500, .same 15020), (11501, .same 15021)] rfl (.o rfl (.i2 (.cons (.s rfl) (.cons (.s rfl) .nil))) (.o rfl (nsSameA rfl rfl (by decide) rfl rfl rfl) (.o rfl (nsSameA rfl rfl (by decide) rfl rfl rfl) .nil))) rfl (.cons rfl (fmSame rfl) (.cons rfl (fmSame rfl) .nil)) (.cons (.r rfl) .nil)) ?_
 refine AW.ret ?_
 refine Done.gen rfl (.cell rfl (by kernel_rfl) .nil) ?_
 exact ⟨by kernel_rfl, rfl⟩
section
variable (t0 : Int) (t1 : Int) (v1 : Int) (v2 : Int)
end
section
variable (t0 : S_Raw) (v11 : Int) (v12 : Int) (v15 : Int) (v16 : Int) (v21 : Int) (v31 : Int) (v32 : Int) (v38 : Int) (v39 : Int) (v42 : Int) (v43 : Int) (x1 : Bool) (x2 : S_Plate) (x3 : S_Plate) (x4 : List (List Int)) (x5 : List (List Int))
end
def f_R19_Made_k1 (v3 : S_Header) (v4 : S_Header) : Option S_Header :=
 some v4
def f_R19_Made (t0 : S_Raw') : Option S_Header :=
 G (inR ((24 : Int) + (IntKind.wrap .i64 (Int.tmod t0.Width (37 : Int))))) <|
 G (inR ((1 : Int) + (Int.tmod (IntKind.wrap .i64 t0.N) (9999 : Int)))) <|
 cond (decide ((0 : Int) < (IntKind.wrap .i64 (Int.tmod t0.Ink (10000 : Int))))) (
  f_R19_Made_k1 (⟨(0 : Int), (⟨(0 : Int), (0 : Int)⟩ : S_Label), false, (0 : Int), (0 : Int)⟩ : S_Header) (⟨(24 : Int) + (IntKind.wrap .i64 (Int.tmod t0.Width (37 : Int))), (⟨(1 : Int) + (Int.tmod (IntKind.wrap .i64 t0.N) (9999 : Int)), IntKind.wrap .i64 (Int.tmod t0.K (3 : Int))⟩ : S_Label), t0.Back, IntKind.wrap .i64 (Int.tmod t0.Ink (10000 : Int)), IntKind.wrap .i64 (Int.tmod t0.Part (27 : Int))⟩ : S_Header)) (
  f_R19_Made_k1 (⟨(0 : Int), (⟨(0 : Int), (0 : Int)⟩ : S_Label), false, (0 : Int), (0 : Int)⟩ : S_Header) (⟨(24 : Int) + (IntKind.wrap .i64 (Int.tmod t0.Width (37 : Int))), (⟨(1 : Int) + (Int.tmod (IntKind.wrap .i64 t0.N) (9999 : Int)), IntKind.wrap .i64 (Int.tmod t0.K (3 : Int))⟩ : S_Label), t0.Back, IntKind.wrap .i64 (Int.tmod t0.Ink (10000 : Int)), (0 : Int)⟩ : S_Header))
section
variable (t0 : S_Raw') (v3 : S_Header) (v4 : S_Header)
abbrev qZpl : List AV := [.int .i64 ((24 : Int) + (IntKind.wrap .i64 (Int.tmod t0.Width (37 : Int)))), .int .i64 ((1 : Int) + (Int.tmod (IntKind.wrap .i64 t0.N) (9999 : Int))), .int .i64 (IntKind.wrap .i64 (Int.tmod t0.K (3 : Int))), .bool t0.Back, .int .i64 (IntKind.wrap .i64 (Int.tmod t0.Ink (10000 : Int))), .int .i64 0]
abbrev qZpm : List AV := [.int .i64 ((24 : Int) + (IntKind.wrap .i64 (Int.tmod t0.Width (37 : Int)))), .int .i64 ((1 : Int) + (Int.tmod (IntKind.wrap .i64 t0.N) (9999 : Int))), .int .i64 (IntKind.wrap .i64 (Int.tmod t0.K (3 : Int))), .bool t0.Back, .int .i64 (IntKind.wrap .i64 (Int.tmod t0.Ink (10000 : Int))), .int .i64 (IntKind.wrap .i64 (Int.tmod t0.Part (27 : Int)))]
abbrev qZpn : List AV := [.int .i64 v4.Width, .int .i64 v4.Label.N, .int .i64 v4.Label.K, .bool v4.Back, .int .i64 v4.Ink, .int .i64 v4.Part]
abbrev qZpo : List AV := [.int .u8 t0.Width, .int .u16 t0.N, .int .u8 t0.K, .bool t0.Back, .int .u16 t0.Ink, .int .u8 t0.Part]
abbrev qZpp := (⟨(1 : Int) + (Int.tmod (IntKind.wrap .i64 t0.N) (9999 : Int)), IntKind.wrap .i64 (Int.tmod t0.K (3 : Int))⟩ : S_Label)
abbrev qZpq := (⟨(0 : Int), (⟨(0 : Int), (0 : Int)⟩ : S_Label), false, (0 : Int), (0 : Int)⟩ : S_Header)
abbrev qZpr := (IntKind.wrap .i64 (Int.tmod t0.Width (37 : Int)))
abbrev qZps : Nat × AV := (2, .ref 2 0 0)
abbrev qZpt := (Int.tmod t0.Ink (10000 : Int))
abbrev qZpu : Nat × AV := (3, .ref 3 0 0)
abbrev qZpg : Hp := [(1, ⟨0, true, 25, 6, (qZpo t0)⟩), (2, ⟨0, true, 86, 6, [.int .i64 0, .int .i64 0, .int .i64 0, .bool false, .int .i64 0, .int .i64 0]⟩), (3, ⟨0, true, 86, 6, (qZpl t0)⟩)]
abbrev qZph : Hp := [(2, ⟨0, true, 86, 6, [.int .i64 v3.Width, .int .i64 v3.Label.N, .int .i64 v3.Label.K, .bool v3.Back, .int .i64 v3.Ink, .int .i64 v3.Part]⟩), (3, ⟨0, true, 86, 6, (qZpn v4)⟩)]
abbrev qZpi : Hp := [(1, ⟨0, true, 25, 6, (qZpo t0)⟩), (2, ⟨0, true, 86, 6, [.int .i64 0, .int .i64 0, .int .i64 0, .bool false, .int .i64 0, .int .i64 0]⟩)]
abbrev qZpj : Hp := [(2, ⟨0, true, 86, 6, (qZpn v4)⟩)]
abbrev qZpk : Env := [qZps, (1, .ref 1 0 0)]
end
theorem f_R19_Made_ok  {t0 : S_Raw'} {r : S_Header} (H : f_R19_Made t0 = some r) : QSpec Tryd.prog 43 [.agg [.int .u8 t0.Width, .int .u16 t0.N, .int .u8 t0.K, .bool t0.Back, .int .u16 t0.Ink, .int .u8 t0.Part]] (.agg [.int .i64 r.Width, .int .i64 r.Label.N, .int .i64 r.Label.K, .bool r.Back, .int .i64 r.Ink, .int .i64 r.Part]) := by
 refine Spec.of_AW Tryd.func43 rfl (by simp [Tryd.ntmps43]) ?_
 rw [Tryd.ntmps43]
 unfold f_R19_Made at H
 change AW _ _ _ [(0, .agg (qZpo t0))] [] _
 refine AW.regionSeq (OpsW.box rfl rfl rfl 1 rfl (okCb_sound (by kernel_rfl)) ?_)
 change OpsW _ _ _ _ _ [(1, ⟨0, true, 25, 6, (qZpo t0)⟩)] _
 refine OpsW.alloc' rfl rfl rfl 2 rfl (by kernel_rfl : zc Tryd.prog 86 = some [.int .i64 0, .int .i64 0, .int .i64 0, .bool false, .int .i64 0, .int .i64 0]) (by kernel_rfl) ?_
 refine OpsW.sg 0 [2, 1] qZpk ?_
 refine OpsW.recast (env' := qZpk) (h' := (qZpi t0)) (StC.mk (phi [(1, some 1), (2, some 2)]) (.o rfl (.i6 .nil) (.o rfl (.i6 .nil) .nil)) rfl (.cons (.r rfl) (.cons (.r rfl) .nil))) ?_
 refine OpsW.nil (AW.regionSeq ?_)
 obtain ⟨g1, H⟩ := G_some H
 obtain ⟨g2, H⟩ := G_some H
 refine OpsW.sq 22 [25, 2, 1] [(37 : Int) ≠ 0, inR ((24 : Int) + (qZpr t0)), (9999 : Int) ≠ 0, inR ((1 : Int) + (Int.tmod (IntKind.wrap .i64 t0.N) (9999 : Int))), (3 : Int) ≠ 0, (10000 : Int) ≠ 0] ((25, .agg (qZpl t0)) :: qZpk) ⟨(by decide), g1, (by decide), g2, (by decide), (by decide), trivial⟩ ?_
 refine OpsW.alloc' rfl rfl rfl 3 rfl (by kernel_rfl : zc Tryd.prog 86 = some [.int .i64 0, .int .i64 0, .int .i64 0, .bool false, .int .i64 0, .int .i64 0]) (by kernel_rfl) ?_
 refine OpsW.store rfl rfl rfl rfl trivial trivial rfl rfl rfl (by kernel_rfl) (okCb_sound (by kernel_rfl)) (Nat.le_of_ble_eq_true (by kernel_rfl)) ?_
 change OpsW _ _ _ _ _ ((3, ⟨0, true, 86, 6, (qZpl t0)⟩) :: (3, ⟨0, true, 86, 6, [.int .i64 0, .int .i64 0, .int .i64 0, .bool false, .int .i64 0, .int .i64 0]⟩) :: (qZpi t0)) _
 refine OpsW.sg 0 [3, 2, 1] (qZpu :: qZpk) ?_
 refine OpsW.recast (env' := (qZpu :: qZpk)) (h' := (qZpg t0)) (StC.mk (phi [(1, some 1), (2, some 2), (3, some 3)]) (.o rfl (.i6 .nil) (.o rfl (.i6 .nil) (.o rfl (.i6 .nil) .nil))) rfl (.cons (.r rfl) (.cons (.r rfl) (.cons (.r rfl) .nil)))) ?_
 refine OpsW.nil ?_
 refine AW.joinK (fun (y : S_Header × S_Header) => f_R19_Made_k1 y.1 y.2) r (fun (y : S_Header × S_Header) => [qZps, qZpu]) (fun (y : S_Header × S_Header) => [(2, ⟨0, true, 86, 6, [.int .i64 y.1.Width, .int .i64 y.1.Label.N, .int .i64 y.1.Label.K, .bool y.1.Back, .int .i64 y.1.Ink, .int .i64 y.1.Part]⟩), (3, ⟨0, true, 86, 6, [.int .i64 y.2.Width, .int .i64 y.2.Label.N, .int .i64 y.2.Label.K, .bool y.2.Back, .int .i64 y.2.Ink, .int .i64 y.2.Part]⟩)]) ?_ ?_
 ·refine AW.regionSeq (OpsW.sg 3 [28, 3, 2, 1] ((28, .bool (decide ((0 : Int) < (IntKind.wrap .i64 (qZpt t0))))) :: qZpu :: qZpk) ?_)
  refine OpsW.nil (AW.cond (b := decide ((0 : Int) < (IntKind.wrap .i64 (qZpt t0)))) rfl (fun c5 => ?_) (fun c5 => ?_))
  ·replace H := condT c5 H
   refine AW.region (OpsW.sq 5 [33, 32, 3, 2] [(27 : Int) ≠ 0] [(33, .ref 3 0 5), (32, .int .i64 (IntKind.wrap .i64 (Int.tmod t0.Part (27 : Int)))), qZpu, qZps] ⟨(by decide), trivial⟩ ?_)
   refine OpsW.store rfl rfl rfl rfl trivial trivial rfl rfl rfl (by kernel_rfl) (okCb_sound (by kernel_rfl)) (Nat.le_of_ble_eq_true (by kernel_rfl)) ?_
   change OpsW _ _ _ _ _ ((3, ⟨0, true, 86, 6, (qZpm t0)⟩) :: (qZpg t0)) _
   refine OpsW.sg 0 [3, 2] [qZpu, qZps] ?_
   refine OpsW.recast (env' := [qZpu, qZps]) (h' := [(2, ⟨0, true, 86, 6, [.int .i64 0, .int .i64 0, .int .i64 0, .bool false, .int .i64 0, .int .i64 0]⟩), (3, ⟨0, true, 86, 6, (qZpm t0)⟩)]) (StC.mk (phi [(2, some 2), (3, some 3)]) (.o rfl (.i6 .nil) (.o rfl (.i6 .nil) .nil)) rfl (.cons (.r rfl) (.cons (.r rfl) .nil))) ?_
   refine OpsW.nil ?_
   show ∃ y, _ ∧ StC _ _ _ _
   exact ⟨(qZpq, (⟨(24 : Int) + (qZpr t0), (qZpp t0), t0.Back, IntKind.wrap .i64 (qZpt t0), IntKind.wrap .i64 (Int.tmod t0.Part (27 : Int))⟩ : S_Header)), H, (StC.mk (phi [(2, some 2), (3, some 3)]) (.o rfl (.i6 .nil) (.o rfl (.i6 .nil) .nil)) rfl (.cons (.r rfl) (.cons (.r rfl) .nil)))⟩
  replace H := condF c5 H
  refine AW.skip ?_
  show ∃ y, _ ∧ StC _ _ _ _
  exact ⟨(qZpq, (⟨(24 : Int) + (qZpr t0), (qZpp t0), t0.Back, IntKind.wrap .i64 (qZpt t0), (0 : Int)⟩ : S_Header)), H, (StC.mk (phi [(2, some 2), (3, some 3)]) (.o rfl (.i6 .nil) (.o rfl (.i6 .nil) .nil)) rfl (.cons (.r rfl) (.cons (.r rfl) .nil)))⟩
 rintro ⟨v3, v4⟩ H
 change f_R19_Made_k1 v3 v4 = some r at H
 unfold f_R19_Made_k1 at H
 change AW _ _ _ [qZps, qZpu] (qZph v3 v4) _
 refine AW.regionSeq (OpsW.sg 1 [34, 2] [(34, .agg (qZpn v4)), qZps] ?_)
 refine OpsW.store rfl rfl rfl rfl trivial trivial rfl rfl rfl (by kernel_rfl) (okCb_sound (by kernel_rfl)) (Nat.le_of_ble_eq_true (by kernel_rfl)) ?_
 change OpsW _ _ _ _ _ ((2, ⟨0, true, 86, 6, (qZpn v4)⟩) :: (qZph v3 v4)) _
 refine OpsW.sg 0 [2] [qZps] ?_
 refine OpsW.recast (env' := [qZps]) (h' := (qZpj v4)) (StC.mk (phi [(2, some 2)]) (.o rfl (.i6 .nil) .nil) rfl (.cons (.r rfl) .nil)) ?_
 refine OpsW.nil ?_
 obtain rfl := Option.some.inj H
 refine AW.recast (env' := [qZps]) (h' := (qZpj v4)) (StC.mk (phi [(2, some 2)]) (.o rfl (.i6 .nil) .nil) rfl (.cons (.r rfl) .nil)) ?_
 refine AW.ret ?_
 refine Done.gen rfl (.cell rfl (by kernel_rfl) .nil) ?_
 show _ = _
 kernel_rfl
def f_R19_ValidLabel (t0 : S_Label) : Option Bool :=
 some (cond (cond (cond (decide (1 ≤ t0.N)) (decide (t0.N ≤ 9999)) false) (decide (0 ≤ t0.K)) false) (decide (t0.K ≤ 2)) false)
section
variable (t0 : S_Label)
abbrev qZpw := cond (decide (1 ≤ t0.N)) (decide (t0.N ≤ 9999)) false
abbrev qZpx := cond (qZpw t0) (decide (0 ≤ t0.K)) false
abbrev qZpv : Env := [(2, .bool (cond (qZpx t0) (decide (t0.K ≤ 2)) false))]
end
theorem f_R19_ValidLabel_ok  {t0 : S_Label} {r : Bool} (H : f_R19_ValidLabel t0 = some r) : QSpec Tryd.prog 67 [.agg [.int .i64 t0.N, .int .i64 t0.K]] (.bool r) := by
 refine Spec.of_AW Tryd.func67 rfl (by simp [Tryd.ntmps67]) ?_
 rw [Tryd.ntmps67]
 unfold f_R19_ValidLabel at H
 change AW _ _ _ [(0, .agg [.int .i64 t0.N, .int .i64 t0.K])] [] _
 refine AW.regionSeq (OpsW.box rfl rfl rfl 1 rfl (okCb_sound (by kernel_rfl)) ?_)
 change OpsW _ _ _ _ _ [(1, ⟨0, true, 35, 2, [.int .i64 t0.N, .int .i64 t0.K]⟩)] _
 refine OpsW.sg 1 [1] [(1, .ref 1 0 0)] ?_
 refine OpsW.recast (env' := [(1, .ref 1 0 0)]) (h' := [(1, ⟨0, true, 35, 2, [.int .i64 t0.N, .int .i64 t0.K]⟩)]) (StC.mk (phi [(1, some 1)]) (.o rfl (.i2 .nil) .nil) rfl (.cons (.r rfl) .nil)) ?_
 refine OpsW.nil (AW.regionSeq (OpsW.sq 19 [2] [(decide (1 ≤ t0.N)) = true → (decide (1 ≤ t0.N)) = true, (decide (1 ≤ t0.N)) = true → (decide (1 ≤ t0.N)) = true, (decide (1 ≤ t0.N)) = true → (decide (1 ≤ t0.N)) = true, (qZpw t0) = true → (qZpw t0) = true, (qZpw t0) = true → (qZpw t0) = true, (qZpw t0) = true → (qZpw t0) = true, (qZpx t0) = true → (qZpx t0) = true, (qZpx t0) = true → (qZpx t0) = true, (qZpx t0) = true → (qZpx t0) = true] (qZpv t0) ⟨(fun h => h), (fun h => h), (fun h => by first | exact h | (simpa using h) | grind), (fun h => h), (fun h => h), (fun h => by first | exact h | (simpa using h) | grind), (fun h => h), (fun h => h), (fun h => by first | exact h | (simpa using h) | grind), trivial⟩ ?_))
 refine OpsW.nil ?_
 obtain rfl := Option.some.inj H
 refine AW.recast (env' := (qZpv t0)) (h' := []) (StC.pure (.cons .im .nil)) ?_
 refine AW.ret ?_
 refine Done.gen rfl (.tmp .nil) ?_
 show _ = _
 kernel_rfl
def f_R19_Letters  : Option (List Int) :=
 some [(1 : Int), (3 : Int), (9 : Int), (25 : Int), (17 : Int), (11 : Int), (27 : Int), (19 : Int), (10 : Int), (26 : Int), (5 : Int), (7 : Int), (13 : Int), (29 : Int), (21 : Int), (15 : Int), (31 : Int), (23 : Int), (14 : Int), (30 : Int), (37 : Int), (39 : Int), (58 : Int), (45 : Int), (61 : Int), (53 : Int)]
section
abbrev qZpy : Env := [(0, slA (eI .u8) [(1 : Int), (3 : Int), (9 : Int), (25 : Int), (17 : Int), (11 : Int), (27 : Int), (19 : Int), (10 : Int), (26 : Int), (5 : Int), (7 : Int), (13 : Int), (29 : Int), (21 : Int), (15 : Int), (31 : Int), (23 : Int), (14 : Int), (30 : Int), (37 : Int), (39 : Int), (58 : Int), (45 : Int), (61 : Int), (53 : Int)])]
end
theorem f_R19_Letters_ok   {r : List Int} (H : f_R19_Letters = some r) : QSpec Tryd.prog 69 [] (slA (eI .u8) r) := by
 refine Spec.of_AW Tryd.func69 rfl (by simp [Tryd.ntmps69]) ?_
 rw [Tryd.ntmps69]
 unfold f_R19_Letters at H
 change AW _ _ _ [] [] _
 refine AW.regionSeq (OpsW.sg 1 [] [] ?_)
 refine OpsW.nil (AW.regionSeq (OpsW.buildTI (enc := eI .u8) [(1 : Int), (3 : Int), (9 : Int), (25 : Int), (17 : Int), (11 : Int), (27 : Int), (19 : Int), (10 : Int), (26 : Int), (5 : Int), (7 : Int), (13 : Int), (29 : Int), (21 : Int), (15 : Int), (31 : Int), (23 : Int), (14 : Int), (30 : Int), (37 : Int), (39 : Int), (58 : Int), (45 : Int), (61 : Int), (53 : Int)] rfl rfl rfl E41 (fun _ => rfl) (by decide) ⟨trivial, by kernel_rfl, by kernel_rfl, by kernel_rfl, rfl⟩ ?_))
 refine OpsW.sg 1 [0] qZpy ?_
 refine OpsW.nil ?_
 obtain rfl := Option.some.inj H
 refine AW.recast (env' := qZpy) (h' := []) (StC.pure (.cons .im .nil)) ?_
 refine AW.ret ?_
 refine Done.gen rfl (.tmp .nil) ?_
 show _ = _
 kernel_rfl
def f_R19_Digit (t0 : Int) : Option Int :=
 (f_R19_Letters).bind fun x1 =>
 G (inR (t0 + 9)) <|
 G (0 ≤ (Int.tmod (t0 + 9) (10 : Int)) ∧ (Int.tmod (t0 + 9) (10 : Int)) < (x1.length : Int)) <|
 some (x1.getD (Int.tmod (t0 + 9) (10 : Int)).toNat (0 : Int))
section
variable (t0 : Int)
abbrev qZpz := (Int.tmod (t0 + 9) (10 : Int))
end
theorem f_R19_Digit_ok  {t0 : Int} {r : Int} (H : f_R19_Digit t0 = some r) : QSpec Tryd.prog 77 [.int .i64 t0] (.int .u8 r) := by
 refine Spec.of_AW Tryd.func77 rfl (by simp [Tryd.ntmps77]) ?_
 rw [Tryd.ntmps77]
 unfold f_R19_Digit at H
 change AW _ _ _ [(0, .int .i64 t0)] [] _
 refine AW.regionSeq (OpsW.sg 1 [0] [(0, .int .i64 t0)] ?_)
 refine OpsW.nil (AW.regionSeq ?_)
 obtain ⟨x1, hx1, H⟩ := bindS H
 refine OpsW.qcall rfl (by kernel_rfl) rfl rfl (glAll_sound trivial) .nil (f_R19_Letters_ok hx1) rfl ?_
 obtain ⟨g2, H⟩ := G_some H
 obtain ⟨g3, H⟩ := G_some H
 refine OpsW.sq 4 [7] [inR (t0 + 9), (10 : Int) ≠ 0, 0 ≤ (qZpz t0) ∧ (qZpz t0) < (x1.length : Int)] [(7, .ipt (x1.flatMap (eI .u8)) ((qZpz t0).toNat * 1))] ⟨g2, (by decide), g3, trivial⟩ ?_
 refine OpsW.asU (.int .u8 (x1.getD (qZpz t0).toNat (0 : Int))) rfl rfl (T.load rfl trivial (by kernel_rfl) (fm_cell (eI .u8) 1 (fun _ => rfl) x1 (0 : Int) (qZpz t0).toNat (ltN g3) 0 (fun a => .val (.int .u8 a)) (fun _ => rfl))) ?_
 refine OpsW.sg 1 [2] [(2, .int .u8 (x1.getD (qZpz t0).toNat (0 : Int)))] ?_
 refine OpsW.nil ?_
 obtain rfl := Option.some.inj H
 refine AW.recast (env' := [(2, .int .u8 (x1.getD (qZpz t0).toNat (0 : Int)))]) (h' := []) (StC.pure (.cons .im .nil)) ?_
 refine AW.ret ?_
 refine Done.gen rfl (.tmp .nil) ?_
 show _ = _
 kernel_rfl
def f_R19_Write_k1 (loop4 : ((List Int) × Int) → Option ((List Int) × Int)) (v3 : Int) (v6 : List Int) : Option ((List Int) × Int) :=
 G (inR (Int.tdiv v3 (10 : Int))) <|
 loop4 (v6, Int.tdiv v3 (10 : Int))
def f_R19_Write_b1 (t0 : Int) (loop4 : ((List Int) × Int) → Option ((List Int) × Int)) (v2 : List Int) (v3 : Int) : Option ((List Int) × Int) :=
 cond (decide (0 < v3)) (
  cond (cond (decide (v3 ≤ t0)) true (v3 == 1)) (
   G (v3 ≠ 0) <|
   G (inR (Int.tdiv t0 v3)) <|
   (f_R19_Digit (Int.tmod (Int.tdiv t0 v3) (10 : Int))).bind fun x11 =>
   G (room 1 (v2.length + 1)) <|
   f_R19_Write_k1 loop4 v3 (v2 ++ [x11])) (
   f_R19_Write_k1 loop4 v3 v2)) (
  some (v2, (0 : Int)))
def f_R19_Write (t0 : Int) : Option ((List Int) × Int) :=
 cond (cond (decide (t0 < 0)) true (decide (99999 < t0))) (
  some ([], (190 : Int))) (
  iter (fun loop (s : (List Int) × Int) => f_R19_Write_b1 t0 loop s.1 s.2) 1000000 ([(60 : Int)], (10000 : Int)))
section
variable (t0 : Int) (v2 : List Int) (v3 : Int)
abbrev qZq1 : Nat × AV := (0, .int .i64 t0)
abbrev qZq0 : Env := [(qZq1 t0), (4, .rsl 4 0 0 v2.length), (5, .int .i64 v3)]
end
theorem f_R19_Write_own {t0 : Int} {r : (List Int) × Int} (H : f_R19_Write t0 = some r) : Abs.Spec Tryd.prog 68 [.int .i64 t0] [] (fun x h => x = .tup [.rsl 1000 0 0 r.1.length, .int .i64 r.2] ∧ h = [(1000, rtA 0 42 1 (eI .u8) r.1)]) := by
 refine Spec.of_AW Tryd.func68 rfl (by simp [Tryd.ntmps68]) ?_
 rw [Tryd.ntmps68]
 unfold f_R19_Write at H
 change AW _ _ _ [(qZq1 t0)] [] _
 refine AW.regionSeq (OpsW.sg 2 [0] [(qZq1 t0)] ?_)
 refine OpsW.nil (AW.seq (AW.regionSeq (OpsW.sq 6 [11, 0] [(!(decide (t0 < 0))) = true → (!(decide (t0 < 0))) = true, (decide (t0 < 0)) = false → (!(decide (t0 < 0))) = true] [(11, .bool (cond (decide (t0 < 0)) true (decide (99999 < t0)))), (qZq1 t0)] ⟨(fun h => h), (fun h => by first | exact h | (simpa using h) | grind), trivial⟩ ?_)))
 refine OpsW.nil (AW.cond (b := cond (decide (t0 < 0)) true (decide (99999 < t0))) rfl (fun c1 => ?_) (fun c1 => ?_))
 ·replace H := condT c1 H
  refine AW.regionSeq (OpsW.sg 2 [3, 2] [(3, .int .i64 190), (2, .im (.val (.slice none 0 0)))] ?_)
  refine OpsW.nil ?_
  obtain rfl := Option.some.inj H
  refine AW.recast (env' := [(2, .rsl 1000 0 0 0), (3, .int .i64 190)]) (h' := [(1000, rtA 0 42 1 (eI .u8) ([] : List Int))]) (StC.mk (phi [(1000, none)]) (.new rfl .nil) rfl (.cons (.nilr rfl rfl rfl) (.cons .im .nil))) ?_
  refine AW.ret ?_
  try simp only [Ex.then, Ex.inBlock, Ex.noGoto, Ex.jump, reduceIte, Nat.reduceEqDiff, reduceCtorEq]
  refine Done.gen rfl (.tmp (.tmp .nil)) ?_
  exact ⟨by kernel_rfl, rfl⟩
 replace H := condF c1 H
 refine AW.skip (AW.regionSeq (OpsW.buildT (enc := eI .u8) [(60 : Int)] rfl rfl rfl 12 rfl E41 (fun _ => rfl) (by decide) trivial (by kernel_rfl) (by kernel_rfl) (by kernel_rfl) rfl ?_))
 refine OpsW.sg 1 [4, 0] [(4, .rsl 12 0 0 ([(60 : Int)].length)), (qZq1 t0)] ?_
 refine OpsW.recast (env' := [(4, .rsl 4 0 0 ([(60 : Int)].length)), (qZq1 t0)]) (h' := [(4, rtA 0 42 1 (eI .u8) [(60 : Int)])]) (StC.mk (phi [(4, some 12)]) (.o rfl (CstL.ims _) .nil) rfl (.cons (.s rfl) (.cons .im .nil))) ?_
 refine OpsW.nil (AW.seq (AW.regionSeq (OpsW.sg 1 [5, 4, 0] [(5, .int .i64 10000), (4, .rsl 4 0 0 ([(60 : Int)].length)), (qZq1 t0)] ?_)))
 refine OpsW.nil (AW.block ?_)
 refine AW.iterK (fun loop (s : (List Int) × Int) => f_R19_Write_b1 t0 loop s.1 s.2) r (fun (s : (List Int) × Int) => [(qZq1 t0), (4, .rsl 4 0 0 s.1.length), (5, .int .i64 s.2)]) (fun (s : (List Int) × Int) => [(4, rtA 0 42 1 (eI .u8) s.1)]) ?_ 1000000 ([(60 : Int)], (10000 : Int)) H (StC.mk (phi [(4, some 4)]) (.o rfl (CstL.ims _) .nil) rfl (.cons .im (.cons (.s rfl) (.cons .im .nil))))
 intro loop4 s H
 obtain ⟨v2, v3⟩ := s
 change f_R19_Write_b1 t0 loop4 v2 v3 = some r at H
 unfold f_R19_Write_b1 at H
 change AW _ _ _ (qZq0 t0 v2 v3) [(4, rtA 0 42 1 (eI .u8) v2)] _
 refine AW.seq (AW.regionSeq (OpsW.sg 2 [14, 0, 4, 5] ((14, .bool (decide (0 < v3))) :: (qZq0 t0 v2 v3)) ?_))
 refine OpsW.nil (AW.cond (b := decide (0 < v3)) rfl (fun c5 => ?_) (fun c5 => ?_))
 ·replace H := condT c5 H
  refine AW.skip ?_
  refine AW.joinK (fun (y : (List Int)) => f_R19_Write_k1 loop4 v3 y) r (fun (y : (List Int)) => [(qZq1 t0), (4, .rsl 4 0 0 y.length), (5, .int .i64 v3)]) (fun (y : (List Int)) => [(4, rtA 0 42 1 (eI .u8) y)]) ?_ ?_
  ·refine AW.block (AW.regionSeq (OpsW.sq 7 [23, 0, 4, 5] [(!(decide (v3 ≤ t0))) = true → (!(decide (v3 ≤ t0))) = true, (decide (v3 ≤ t0)) = false → (!(decide (v3 ≤ t0))) = true] ((23, .bool (cond (decide (v3 ≤ t0)) true (v3 == 1))) :: (qZq0 t0 v2 v3)) ⟨(fun h => h), (fun h => by first | exact h | (simpa using h) | grind), trivial⟩ ?_))
   refine OpsW.nil (AW.cond (b := cond (decide (v3 ≤ t0)) true (v3 == 1)) rfl (fun c8 => ?_) (fun c8 => ?_))
   ·replace H := condT c8 H
    refine AW.region ?_
    obtain ⟨g9, H⟩ := G_some H
    obtain ⟨g10, H⟩ := G_some H
    refine OpsW.sq 5 [28, 24, 0, 4, 5] [v3 ≠ 0, inR (Int.tdiv t0 v3), (10 : Int) ≠ 0] ((28, .int .i64 (Int.tmod (Int.tdiv t0 v3) (10 : Int))) :: (24, .rsl 4 0 0 v2.length) :: (qZq0 t0 v2 v3)) ⟨g9, g10, (by decide), trivial⟩ ?_
    obtain ⟨x11, hx11, H⟩ := bindS H
    refine OpsW.qcall rfl (by kernel_rfl) rfl rfl (glAll_sound trivial) (.cons (.pur rfl) .nil) (f_R19_Digit_ok hx11) rfl ?_
    obtain ⟨g12, H⟩ := G_some H
    refine OpsW.appendLF (enc := eI .u8) [x11] rfl rfl rfl (by decide) rfl rfl rfl (by simp) E41 (fun _ => rfl) (by decide) trivial (by kernel_rfl) (by kernel_rfl) (by kernel_rfl) rfl rfl rfl g12 ?_
    refine OpsW.sg 1 [4, 0, 5] [(4, .rsl 4 1 0 ((v2 ++ [x11]).length)), (qZq1 t0), (5, .int .i64 v3)] ?_
    refine OpsW.recast (env' := [(4, .rsl 4 0 0 ((v2 ++ [x11]).length)), (qZq1 t0), (5, .int .i64 v3)]) (h' := [(4, rtA 0 42 1 (eI .u8) (v2 ++ [x11]))]) (StC.mk (phi [(4, some 4)]) (.o rfl (CstL.ims _) .nil) rfl (.cons (.s rfl) (.i2 .nil))) ?_
    refine OpsW.nil ?_
    show ∃ y, _ ∧ StC _ _ _ _
    exact ⟨v2 ++ [x11], H, (StC.mk (phi [(4, some 4)]) (.o rfl (CstL.ims _) .nil) rfl (.cons .im (.cons (.s rfl) (.cons .im .nil))))⟩
   replace H := condF c8 H
   refine AW.skip ?_
   show ∃ y, _ ∧ StC _ _ _ _
   exact ⟨v2, H, (StC.mk (phi [(4, some 4)]) (.o rfl (CstL.ims _) .nil) rfl (.cons .im (.cons (.s rfl) (.cons .im .nil))))⟩
  intro v6 H
  change f_R19_Write_k1 loop4 v3 v6 = some r at H
  unfold f_R19_Write_k1 at H
  change AW _ _ _ [(qZq1 t0), (4, .rsl 4 0 0 v6.length), (5, .int .i64 v3)] [(4, rtA 0 42 1 (eI .u8) v6)] _
  refine AW.region ?_
  obtain ⟨g7, H⟩ := G_some H
  refine OpsW.sq 3 [5, 0, 4] [(10 : Int) ≠ 0, inR (Int.tdiv v3 (10 : Int))] [(5, .int .i64 (Int.tdiv v3 (10 : Int))), (qZq1 t0), (4, .rsl 4 0 0 v6.length)] ⟨(by decide), g7, trivial⟩ ?_
  refine OpsW.nil ?_
  show ∃ y, _ ∧ StC _ _ _ _
  exact ⟨(v6, Int.tdiv v3 (10 : Int)), H, (StC.mk (phi [(4, some 4)]) (.o rfl (CstL.ims _) .nil) rfl (.cons .im (.cons (.s rfl) (.cons .im .nil))))⟩
 replace H := condF c5 H
 refine AW.exit ?_
 refine AW.regionSeq (OpsW.sg 3 [3, 2] [(3, .int .i64 0), (2, .rsl 4 0 0 v2.length)] ?_)
 refine OpsW.nil ?_
 obtain rfl := Option.some.inj H
 refine AW.recast (env' := [(2, .rsl 1000 0 0 v2.length), (3, .int .i64 0)]) (h' := [(1000, rtA 0 42 1 (eI .u8) v2)]) (StC.mk (phi [(1000, some 4)]) (.o rfl (CstL.ims _) .nil) rfl (.cons (.s rfl) (.cons .im .nil))) ?_
 refine AW.ret ?_
 try simp only [Ex.then, Ex.inBlock, Ex.noGoto, Ex.jump, reduceIte, Nat.reduceEqDiff, reduceCtorEq]
 refine Done.gen rfl (.tmp (.tmp .nil)) ?_
 exact ⟨by kernel_rfl, rfl⟩
theorem f_R19_Write_ok  {t0 : Int} {r : (List Int) × Int} (H : f_R19_Write t0 = some r) : QSpec Tryd.prog 68 [.int .i64 t0] (.tup [slA (eI .u8) r.1, .int .i64 r.2]) := by
 exact QSpec.of_own (f_R19_Write_own H) (.tup (.cons (.frz rfl rfl rfl (frz_all (eI .u8) 1 (fun _ => rfl) r.1) (fm_length (eI .u8) 1 (fun _ => rfl) r.1) (phi_ne rfl)) (.cons .im .nil)))
def f_R19_Page_k1 (v7 : List Int) : Option ((List Int) × Int) :=
 some (v7, (0 : Int))
def f_R19_Page_k2 (t0 : S_Label) (v5 : Int) : Option ((List Int) × Int) :=
 (f_R19_Write v5).bind fun x6 =>
 cond (decide (0 < t0.K)) (
  (f_R19_Letters).bind fun x9 =>
  G (inR (t0.K - 1)) <|
  G (0 ≤ (t0.K - 1) ∧ (t0.K - 1) < (x9.length : Int)) <|
  G (room 1 (x6.1.length + [(48 : Int), x9.getD (t0.K - 1).toNat (0 : Int)].length)) <|
  f_R19_Page_k1 (x6.1 ++ [(48 : Int), x9.getD (t0.K - 1).toNat (0 : Int)])) (
  f_R19_Page_k1 x6.1)
def f_R19_Page (t0 : S_Label) (t1 : Bool) : Option ((List Int) × Int) :=
 (f_R19_ValidLabel t0).bind fun x1 =>
 cond (!x1) (
  some ([], (190 : Int))) (
  G (inR (2 * t0.N)) <|
  G (inR ((2 * t0.N) - 1)) <|
  cond t1 (
   f_R19_Page_k2 t0 (2 * t0.N)) (
   f_R19_Page_k2 t0 ((2 * t0.N) - 1)))
section
variable (t0 : S_Label) (t1 : Bool) (x6 : ((List Int) × Int)) (x9 : (List Int))
abbrev qZq5 := (x6.1 ++ [(48 : Int), x9.getD (t0.K - 1).toNat (0 : Int)])
abbrev qZq6 : Nat × AV := (2, .ref 2 0 0)
abbrev qZq7 : List AV := [.int .i64 t0.N, .int .i64 t0.K]
abbrev qZq2 : Hp := [(2, ⟨0, true, 35, 2, (qZq7 t0)⟩)]
abbrev qZq3 : Env := [(27, .bool (decide (0 < t0.K))), (7, .rsl 7 0 0 x6.1.length), qZq6]
abbrev qZq4 : Env := [qZq6, (1, .bool t1)]
end
theorem f_R19_Page_ok  {t0 : S_Label} {t1 : Bool} {r : (List Int) × Int} (H : f_R19_Page t0 t1 = some r) : QSpec Tryd.prog 60 [.agg [.int .i64 t0.N, .int .i64 t0.K], .bool t1] (.tup [slA (eI .u8) r.1, .int .i64 r.2]) := by
 refine Spec.of_AW Tryd.func60 rfl (by simp [Tryd.ntmps60]) ?_
 rw [Tryd.ntmps60]
 unfold f_R19_Page at H
 change AW _ _ _ [(0, .agg (qZq7 t0)), (1, .bool t1)] [] _
 refine AW.regionSeq (OpsW.box rfl rfl rfl 2 rfl (okCb_sound (by kernel_rfl)) ?_)
 change OpsW _ _ _ _ _ (qZq2 t0) _
 refine OpsW.sg 2 [2, 1] (qZq4 t1) ?_
 refine OpsW.recast (env' := (qZq4 t1)) (h' := (qZq2 t0)) (StC.mk (phi [(2, some 2)]) (.o rfl (.i2 .nil) .nil) rfl (.cons (.r rfl) (.cons .im .nil))) ?_
 refine OpsW.nil (AW.seq (AW.regionSeq (OpsW.sg 1 [9, 2, 1] ((9, .agg (qZq7 t0)) :: (qZq4 t1)) ?_)))
 obtain ⟨x1, hx1, H⟩ := bindS H
 refine OpsW.qcall rfl (by kernel_rfl) rfl rfl (glAll_sound trivial) (.cons (.pur rfl) .nil) (f_R19_ValidLabel_ok hx1) rfl ?_
 refine OpsW.sg 1 [11, 2, 1] ((11, .bool (!x1)) :: (qZq4 t1)) ?_
 refine OpsW.nil (AW.cond (b := !x1) rfl (fun c2 => ?_) (fun c2 => ?_))
 ·replace H := condT c2 H
  refine AW.regionSeq (OpsW.sg 2 [5, 4] [(5, .int .i64 190), (4, .im (.val (.slice none 0 0)))] ?_)
  refine OpsW.nil ?_
  obtain rfl := Option.some.inj H
  refine AW.recast (env' := [(4, slA (eI .u8) []), (5, .int .i64 190)]) (h' := []) (StC.pure (.cons .nil (.cons .im .nil))) ?_
  refine AW.ret ?_
  try simp only [Ex.then, Ex.inBlock, Ex.noGoto, Ex.jump, reduceIte, Nat.reduceEqDiff, reduceCtorEq]
  refine Done.gen rfl (.tmp (.tmp .nil)) ?_
  show _ = _
  kernel_rfl
 replace H := condF c2 H
 refine AW.skip (AW.regionSeq ?_)
 obtain ⟨g3, H⟩ := G_some H
 obtain ⟨g4, H⟩ := G_some H
 refine OpsW.sq 5 [6, 2, 1] [inR (2 * t0.N), inR ((2 * t0.N) - 1)] ((6, .int .i64 ((2 * t0.N) - 1)) :: (qZq4 t1)) ⟨g3, g4, trivial⟩ ?_
 refine OpsW.nil ?_
 refine AW.joinK (fun (y : Int) => f_R19_Page_k2 t0 y) r (fun (y : Int) => [qZq6, (6, .int .i64 y)]) (fun (y : Int) => (qZq2 t0)) ?_ ?_
 ·refine AW.regionSeq (OpsW.sg 1 [16, 6, 2] [(16, .bool t1), (6, .int .i64 ((2 * t0.N) - 1)), qZq6] ?_)
  refine OpsW.nil (AW.cond (b := t1) rfl (fun c13 => ?_) (fun c13 => ?_))
  ·replace H := condT c13 H
   refine AW.region (OpsW.sq 4 [6, 2] [inR (2 * t0.N)] [(6, .int .i64 (2 * t0.N)), qZq6] ⟨g3, trivial⟩ ?_)
   refine OpsW.nil ?_
   show ∃ y, _ ∧ StC _ _ _ _
   exact ⟨2 * t0.N, H, (StC.mk (phi [(2, some 2)]) (.o rfl (.i2 .nil) .nil) rfl (.cons (.r rfl) (.cons .im .nil)))⟩
  replace H := condF c13 H
  refine AW.skip ?_
  show ∃ y, _ ∧ StC _ _ _ _
  exact ⟨(2 * t0.N) - 1, H, (StC.mk (phi [(2, some 2)]) (.o rfl (.i2 .nil) .nil) rfl (.cons (.r rfl) (.cons .im .nil)))⟩
 intro v5 H
 change f_R19_Page_k2 t0 v5 = some r at H
 unfold f_R19_Page_k2 at H
 change AW _ _ _ [qZq6, (6, .int .i64 v5)] (qZq2 t0) _
 refine AW.regionSeq (OpsW.sg 1 [21, 2] [(21, .int .i64 v5), qZq6] ?_)
 obtain ⟨x6, hx6, H⟩ := bindS H
 refine OpsW.call rfl rfl (by kernel_rfl) [] _ _ rfl (glAll_sound trivial) (.cons (.pur rfl) .nil) (f_R19_Write_own hx6) ?_
 rintro _ _ ⟨rfl, rfl⟩
 refine ⟨fresh_of (by kernel_rfl), .inl rfl, ?_⟩
 change OpsW _ _ _ _ [(22, .tup [.rsl 1000 0 0 x6.1.length, .int .i64 x6.2]), (21, .int .i64 v5), qZq6] ((1000, rtA 0 42 1 (eI .u8) x6.1) :: (qZq2 t0)) _
 refine OpsW.recast (env' := [(22, .tup [.rsl 600 0 0 x6.1.length, .int .i64 x6.2]), (21, .int .i64 v5), qZq6]) (h' := ((600, rtA 0 42 1 (eI .u8) x6.1) :: (qZq2 t0))) (StC.mk (phi [(600, some 1000), (2, some 2)]) (.o rfl (CstL.ims _) (.o rfl (.i2 .nil) .nil)) rfl (.cons (.tup (.cons (.s rfl) (.cons .im .nil))) (.cons .im (.cons (.r rfl) .nil)))) ?_
 refine OpsW.sg 5 [7, 2] [(7, .rsl 600 0 0 x6.1.length), qZq6] ?_
 refine OpsW.recast (env' := [(7, .rsl 7 0 0 x6.1.length), qZq6]) (h' := [(2, ⟨0, true, 35, 2, (qZq7 t0)⟩), (7, rtA 0 42 1 (eI .u8) x6.1)]) (StC.mk (phi [(2, some 2), (7, some 600)]) (.o rfl (.i2 .nil) (.o rfl (CstL.ims _) .nil)) rfl (.cons (.s rfl) (.cons (.r rfl) .nil))) ?_
 refine OpsW.nil ?_
 refine AW.joinK (fun (y : (List Int)) => f_R19_Page_k1 y) r (fun (y : (List Int)) => [(7, slA (eI .u8) y)]) (fun (y : (List Int)) => []) ?_ ?_
 ·refine AW.regionSeq (OpsW.sg 3 [27, 7, 2] (qZq3 t0 x6) ?_)
  refine OpsW.nil (AW.cond (b := decide (0 < t0.K)) rfl (fun c8 => ?_) (fun c8 => ?_))
  ·replace H := condT c8 H
   refine AW.drawT 8 Tryd.checked.mixed (by kernel_rfl) ?_
   refine QOps.seg (N := 38) 1 [] ((28, .rsl 7 0 0 x6.1.length) :: (qZq3 t0 x6)) (by kernel_rfl) trivial ?_
   obtain ⟨x9, hx9, H⟩ := bindS H
   refine QOps.qcall rfl (by kernel_rfl) rfl (glAll_sound trivial) .nil (f_R19_Letters_ok hx9) rfl ?_
   obtain ⟨g10, H⟩ := G_some H
   obtain ⟨g11, H⟩ := G_some H
   refine QOps.seg (N := 38) 4 [inR (t0.K - 1), 0 ≤ (t0.K - 1) ∧ (t0.K - 1) < (x9.length : Int)] ((33, .ipt (x9.flatMap (eI .u8)) ((t0.K - 1).toNat * 1)) :: (32, .int .i64 (t0.K - 1)) :: (31, .int .i64 t0.K) :: (30, .ref 2 0 1) :: (29, slA (eI .u8) x9) :: (28, .rsl 7 0 0 x6.1.length) :: (qZq3 t0 x6)) (by kernel_rfl) ⟨g10, g11, trivial⟩ ?_
   refine QOps.asU (.int .u8 (x9.getD (t0.K - 1).toNat (0 : Int))) rfl (T.load rfl trivial (by kernel_rfl) (fm_cell0 (eI .u8) 1 (fun _ => rfl) x9 (0 : Int) (t0.K - 1).toNat (ltN g11) (fun a => .val (.int .u8 a)) (fun _ => rfl))) ?_
   refine QOps.buildTI (enc := eI .u8) [(48 : Int), x9.getD (t0.K - 1).toNat (0 : Int)] rfl rfl E41 (fun _ => rfl) (by decide) ⟨trivial, by kernel_rfl, by kernel_rfl, by kernel_rfl, rfl⟩ ?_
   refine QOps.nil (OpsW.sg 0 [35, 28, 7] [(35, slA (eI .u8) [(48 : Int), x9.getD (t0.K - 1).toNat (0 : Int)]), (28, .rsl 7 0 0 x6.1.length), (7, .rsl 7 0 0 x6.1.length)] ?_)
   obtain ⟨g12, H⟩ := G_some H
   refine OpsW.appendF (enc := eI .u8) (ys := [(48 : Int), x9.getD (t0.K - 1).toNat (0 : Int)]) rfl rfl rfl E41 (fun _ => rfl) rfl rfl trivial (SrcA.typed (enc := eI .u8) (fun _ => rfl) (by kernel_rfl) [(48 : Int), x9.getD (t0.K - 1).toNat (0 : Int)]) rfl g12 ?_
   refine OpsW.sg 1 [7] [(7, .rsl 7 1 0 ((qZq5 t0 x6 x9).length))] ?_
   refine OpsW.recast (env' := [(7, slA (eI .u8) (qZq5 t0 x6 x9))]) (h' := []) (StC.mk (phi []) .nil rfl (.cons (.frz rfl rfl rfl (frz_all (eI .u8) 1 (fun _ => rfl) (qZq5 t0 x6 x9)) (fm_length (eI .u8) 1 (fun _ => rfl) (qZq5 t0 x6 x9)) (phi_ne rfl)) .nil)) ?_
   refine OpsW.nil ?_
   show ∃ y, _ ∧ StC _ _ _ _
   exact ⟨x6.1 ++ [(48 : Int), x9.getD (t0.K - 1).toNat (0 : Int)], H, (StC.pure (.cons .im .nil))⟩
  replace H := condF c8 H
  refine AW.skip ?_
  show ∃ y, _ ∧ StC _ _ _ _
  exact ⟨x6.1, H, (StC.mk (phi []) .nil rfl (.cons (.frz rfl rfl rfl (frz_all (eI .u8) 1 (fun _ => rfl) x6.1) (fm_length (eI .u8) 1 (fun _ => rfl) x6.1) (phi_ne rfl)) .nil))⟩
 intro v7 H
 change f_R19_Page_k1 v7 = some r at H
 unfold f_R19_Page_k1 at H
 change AW _ _ _ [(7, slA (eI .u8) v7)] [] _
 refine AW.regionSeq (OpsW.sg 3 [5, 4] [(5, .int .i64 0), (4, slA (eI .u8) v7)] ?_)
 refine OpsW.nil ?_
 obtain rfl := Option.some.inj H
 refine AW.recast (env' := [(4, slA (eI .u8) v7), (5, .int .i64 0)]) (h' := []) (StC.pure (.i2 .nil)) ?_
 refine AW.ret ?_
 try simp only [Ex.then, Ex.inBlock, Ex.noGoto, Ex.jump, reduceIte, Nat.reduceEqDiff, reduceCtorEq]
 refine Done.gen rfl (.tmp (.tmp .nil)) ?_
 show _ = _
 kernel_rfl
def f_R19_Ink (t0 : Int) (t1 : Int) : Option ((List Int) × Int) :=
 cond (cond (cond (cond (decide (t0 < 1)) true (decide (9999 < t0))) true (decide (t1 < 0))) true (decide (26 < t1))) (
  some ([], (190 : Int))) (
  (f_R19_Write t0).bind fun x2 =>
  cond (t1 == 0) (
   some (x2.1, (0 : Int))) (
   (f_R19_Letters).bind fun x4 =>
   G (inR (t1 - 1)) <|
   G (0 ≤ (t1 - 1) ∧ (t1 - 1) < (x4.length : Int)) <|
   G (room 1 ([(48 : Int), x4.getD (t1 - 1).toNat (0 : Int)].length + x2.1.length)) <|
   some ([(48 : Int), x4.getD (t1 - 1).toNat (0 : Int)] ++ x2.1, (0 : Int))))
section
variable (t0 : Int) (t1 : Int) (x2 : ((List Int) × Int)) (x4 : (List Int))
abbrev qZq8 := cond (decide (t0 < 1)) true (decide (9999 < t0))
abbrev qZq9 := ([(48 : Int), x4.getD (t1 - 1).toNat (0 : Int)] ++ x2.1)
abbrev qZqa := cond (qZq8 t0) true (decide (t1 < 0))
abbrev qZqb := ([(48 : Int), x4.getD (t1 - 1).toNat (0 : Int)].length)
end
theorem f_R19_Ink_ok  {t0 : Int} {t1 : Int} {r : (List Int) × Int} (H : f_R19_Ink t0 t1 = some r) : QSpec Tryd.prog 61 [.int .i64 t0, .int .i64 t1] (.tup [slA (eI .u8) r.1, .int .i64 r.2]) := by
 refine Spec.of_AW Tryd.func61 rfl (by simp [Tryd.ntmps61]) ?_
 rw [Tryd.ntmps61]
 unfold f_R19_Ink at H
 change AW _ _ _ [(0, .int .i64 t0), (1, .int .i64 t1)] [] _
 refine AW.regionSeq (OpsW.sg 2 [0, 1] [(0, .int .i64 t0), (1, .int .i64 t1)] ?_)
 refine OpsW.nil (AW.seq (AW.regionSeq (OpsW.sq 14 [22, 0, 1] [(!(decide (t0 < 1))) = true → (!(decide (t0 < 1))) = true, (decide (t0 < 1)) = false → (!(decide (t0 < 1))) = true, (!(qZq8 t0)) = true → (!(qZq8 t0)) = true, (qZq8 t0) = false → (!(qZq8 t0)) = true, (!(qZqa t0 t1)) = true → (!(qZqa t0 t1)) = true, (qZqa t0 t1) = false → (!(qZqa t0 t1)) = true] [(22, .bool (cond (qZqa t0 t1) true (decide (26 < t1)))), (0, .int .i64 t0), (1, .int .i64 t1)] ⟨(fun h => h), (fun h => by first | exact h | (simpa using h) | grind), (fun h => h), (fun h => by first | exact h | (simpa using h) | grind), (fun h => h), (fun h => by first | exact h | (simpa using h) | grind), trivial⟩ ?_)))
 refine OpsW.nil (AW.cond (b := cond (qZqa t0 t1) true (decide (26 < t1))) rfl (fun c1 => ?_) (fun c1 => ?_))
 ·replace H := condT c1 H
  refine AW.regionSeq (OpsW.sg 2 [5, 4] [(5, .int .i64 190), (4, .im (.val (.slice none 0 0)))] ?_)
  refine OpsW.nil ?_
  obtain rfl := Option.some.inj H
  refine AW.recast (env' := [(4, slA (eI .u8) []), (5, .int .i64 190)]) (h' := []) (StC.pure (.cons .nil (.cons .im .nil))) ?_
  refine AW.ret ?_
  try simp only [Ex.then, Ex.inBlock, Ex.noGoto, Ex.jump, reduceIte, Nat.reduceEqDiff, reduceCtorEq]
  refine Done.gen rfl (.tmp (.tmp .nil)) ?_
  show _ = _
  kernel_rfl
 replace H := condF c1 H
 refine AW.skip (AW.regionSeq (OpsW.sg 1 [24, 1] [(24, .int .i64 t0), (1, .int .i64 t1)] ?_))
 obtain ⟨x2, hx2, H⟩ := bindS H
 refine OpsW.qcall rfl (by kernel_rfl) rfl rfl (glAll_sound trivial) (.cons (.pur rfl) .nil) (f_R19_Write_ok hx2) rfl ?_
 refine OpsW.sg 5 [6, 1] [(6, slA (eI .u8) x2.1), (1, .int .i64 t1)] ?_
 refine OpsW.nil (AW.seq (AW.regionSeq (OpsW.sg 2 [29, 6, 1] [(29, .bool (t1 == 0)), (6, slA (eI .u8) x2.1), (1, .int .i64 t1)] ?_)))
 refine OpsW.nil (AW.cond (b := t1 == 0) rfl (fun c3 => ?_) (fun c3 => ?_))
 ·replace H := condT c3 H
  refine AW.regionSeq (OpsW.sg 3 [5, 4] [(5, .int .i64 0), (4, slA (eI .u8) x2.1)] ?_)
  refine OpsW.nil ?_
  obtain rfl := Option.some.inj H
  refine AW.recast (env' := [(4, slA (eI .u8) x2.1), (5, .int .i64 0)]) (h' := []) (StC.pure (.i2 .nil)) ?_
  refine AW.ret ?_
  try simp only [Ex.then, Ex.inBlock, Ex.noGoto, Ex.jump, reduceIte, Nat.reduceEqDiff, reduceCtorEq]
  refine Done.gen rfl (.tmp (.tmp .nil)) ?_
  show _ = _
  kernel_rfl
 replace H := condF c3 H
 refine AW.skip (AW.regionSeq ?_)
 obtain ⟨x4, hx4, H⟩ := bindS H
 refine OpsW.qcall rfl (by kernel_rfl) rfl rfl (glAll_sound trivial) .nil (f_R19_Letters_ok hx4) rfl ?_
 obtain ⟨g5, H⟩ := G_some H
 obtain ⟨g6, H⟩ := G_some H
 refine OpsW.sq 3 [34, 6] [inR (t1 - 1), 0 ≤ (t1 - 1) ∧ (t1 - 1) < (x4.length : Int)] [(34, .ipt (x4.flatMap (eI .u8)) ((t1 - 1).toNat * 1)), (6, slA (eI .u8) x2.1)] ⟨g5, g6, trivial⟩ ?_
 refine OpsW.asU (.int .u8 (x4.getD (t1 - 1).toNat (0 : Int))) rfl rfl (T.load rfl trivial (by kernel_rfl) (fm_cell0 (eI .u8) 1 (fun _ => rfl) x4 (0 : Int) (t1 - 1).toNat (ltN g6) (fun a => .val (.int .u8 a)) (fun _ => rfl))) ?_
 refine OpsW.buildT (enc := eI .u8) [(48 : Int), x4.getD (t1 - 1).toNat (0 : Int)] rfl rfl rfl 36 rfl E41 (fun _ => rfl) (by decide) trivial (by kernel_rfl) (by kernel_rfl) (by kernel_rfl) rfl ?_
 refine OpsW.sg 1 [8, 6] [(8, .rsl 36 0 0 (qZqb t1 x4)), (6, slA (eI .u8) x2.1)] ?_
 refine OpsW.recast (env' := [(8, .rsl 8 0 0 (qZqb t1 x4)), (6, slA (eI .u8) x2.1)]) (h' := [(8, rtA 0 42 1 (eI .u8) [(48 : Int), x4.getD (t1 - 1).toNat (0 : Int)])]) (StC.mk (phi [(8, some 36)]) (.o rfl (CstL.ims _) .nil) rfl (.cons (.s rfl) (.cons .im .nil))) ?_
 refine OpsW.nil (AW.regionSeq (OpsW.sg 2 [38, 37] [(38, slA (eI .u8) x2.1), (37, .rsl 8 0 0 (qZqb t1 x4))] ?_))
 obtain ⟨g7, H⟩ := G_some H
 refine OpsW.appendF (enc := eI .u8) (ys := x2.1) rfl rfl rfl E41 (fun _ => rfl) rfl rfl trivial (SrcA.typed (enc := eI .u8) (fun _ => rfl) (by kernel_rfl) x2.1) rfl g7 ?_
 refine OpsW.sg 2 [5, 4] [(5, .int .i64 0), (4, .rsl 8 1 0 ((qZq9 t1 x2 x4).length))] ?_
 refine OpsW.recast (env' := [(5, .int .i64 0), (4, slA (eI .u8) (qZq9 t1 x2 x4))]) (h' := []) (StC.mk (phi []) .nil rfl (.cons .im (.cons (.frz rfl rfl rfl (frz_all (eI .u8) 1 (fun _ => rfl) (qZq9 t1 x2 x4)) (fm_length (eI .u8) 1 (fun _ => rfl) (qZq9 t1 x2 x4)) (phi_ne rfl)) .nil))) ?_
 refine OpsW.nil ?_
 obtain rfl := Option.some.inj H
 refine AW.recast (env' := [(4, slA (eI .u8) (qZq9 t1 x2 x4)), (5, .int .i64 0)]) (h' := []) (StC.pure (.i2 .nil)) ?_
 refine AW.ret ?_
 try simp only [Ex.then, Ex.inBlock, Ex.noGoto, Ex.jump, reduceIte, Nat.reduceEqDiff, reduceCtorEq]
 refine Done.gen rfl (.tmp (.tmp .nil)) ?_
 show _ = _
 kernel_rfl
def f_R19_Header_b1 (x2 : (List Int) × Int) (loop9 : (S_Header × (List Int)) → Option ((List Int) × Int)) (v7 : S_Header) (v8 : List Int) : Option ((List Int) × Int) :=
 G (inR (v7.Width - (x2.1.length : Int))) <|
 cond (decide ((v8.length : Int) < (v7.Width - (x2.1.length : Int)))) (
  G (room 1 (v8.length + 1)) <|
  loop9 (v7, v8 ++ [(0 : Int)])) (
  G (room 1 (v8.length + x2.1.length)) <|
  some (v8 ++ x2.1, (0 : Int)))
def f_R19_Header_k1 (t0 : S_Header) (x2 : (List Int) × Int) (v3 : List Int) (v4 : Int) : Option ((List Int) × Int) :=
 cond (cond (x2.2 != 0) true (v4 != 0)) (
  some ([], (190 : Int))) (
  G (room 1 (([] : List Int).length + v3.length)) <|
  iter (fun loop (s : S_Header × (List Int)) => f_R19_Header_b1 x2 loop s.1 s.2) 1000000 (t0, ([] : List Int) ++ v3))
def f_R19_Header (t0 : S_Header) : Option ((List Int) × Int) :=
 cond (cond (decide (t0.Width < 24)) true (decide (60 < t0.Width))) (
  some ([], (1 : Int))) (
  (f_R19_Page t0.Label t0.Back).bind fun x2 =>
  cond (cond (t0.Ink != 0) true (t0.Part != 0)) (
   (f_R19_Ink t0.Ink t0.Part).bind fun x15 =>
   f_R19_Header_k1 t0 x2 x15.1 x15.2) (
   f_R19_Header_k1 t0 x2 ([] : List Int) (0 : Int)))
section
variable (t0 : S_Header) (v7 : S_Header) (v8 : List Int) (x2 : (List Int) × Int)
abbrev qZqg : List AV := [.int .i64 t0.Width, .int .i64 t0.Label.N, .int .i64 t0.Label.K, .bool t0.Back, .int .i64 t0.Ink, .int .i64 t0.Part]
abbrev qZqh := decide (t0.Width < 24)
abbrev qZqi : Nat × AV := (1, .ref 1 0 0)
abbrev qZqj : List AV := [.int .i64 v7.Width, .int .i64 v7.Label.N, .int .i64 v7.Label.K, .bool v7.Back, .int .i64 v7.Ink, .int .i64 v7.Part]
abbrev qZqk : Nat × AV := (4, slA (eI .u8) x2.1)
abbrev qZql := ([] : List Int)
abbrev qZqc : Hp := [(1, ⟨0, true, 86, 6, (qZqg t0)⟩)]
abbrev qZqd : Env := [(6, slA (eI .u8) qZql), (5, .int .i64 x2.2), (qZqk x2), qZqi]
abbrev qZqe : Env := [qZqi, (qZqk x2)]
abbrev qZqf : Env := [qZqi, (qZqk x2), (8, .rsl 8 0 0 v8.length)]
end
theorem f_R19_Header_ok  {t0 : S_Header} {r : (List Int) × Int} (H : f_R19_Header t0 = some r) : QSpec Tryd.prog 44 [.agg [.int .i64 t0.Width, .int .i64 t0.Label.N, .int .i64 t0.Label.K, .bool t0.Back, .int .i64 t0.Ink, .int .i64 t0.Part]] (.tup [slA (eI .u8) r.1, .int .i64 r.2]) := by
 refine Spec.of_AW Tryd.func44 rfl (by simp [Tryd.ntmps44]) ?_
 rw [Tryd.ntmps44]
 unfold f_R19_Header at H
 change AW _ _ _ [(0, .agg (qZqg t0))] [] _
 refine AW.regionSeq (OpsW.box rfl rfl rfl 1 rfl (okCb_sound (by kernel_rfl)) ?_)
 change OpsW _ _ _ _ _ (qZqc t0) _
 refine OpsW.sg 2 [1] [qZqi] ?_
 refine OpsW.recast (env' := [qZqi]) (h' := (qZqc t0)) (StC.mk (phi [(1, some 1)]) (.o rfl (.i6 .nil) .nil) rfl (.cons (.r rfl) .nil)) ?_
 refine OpsW.nil (AW.seq (AW.regionSeq (OpsW.sq 8 [16, 1] [(!(qZqh t0)) = true → (!(qZqh t0)) = true, (!(qZqh t0)) = true → (!(qZqh t0)) = true, (qZqh t0) = false → (!(qZqh t0)) = true] [(16, .bool (cond (qZqh t0) true (decide (60 < t0.Width)))), qZqi] ⟨(fun h => h), (fun h => h), (fun h => by first | exact h | (simpa using h) | grind), trivial⟩ ?_)))
 refine OpsW.nil (AW.cond (b := cond (qZqh t0) true (decide (60 < t0.Width))) rfl (fun c1 => ?_) (fun c1 => ?_))
 ·replace H := condT c1 H
  refine AW.regionSeq (OpsW.sg 2 [3, 2] [(3, .int .i64 1), (2, .im (.val (.slice none 0 0)))] ?_)
  refine OpsW.nil ?_
  obtain rfl := Option.some.inj H
  refine AW.recast (env' := [(2, slA (eI .u8) []), (3, .int .i64 1)]) (h' := []) (StC.pure (.cons .nil (.cons .im .nil))) ?_
  refine AW.ret ?_
  try simp only [Ex.then, Ex.inBlock, Ex.noGoto, Ex.jump, reduceIte, Nat.reduceEqDiff, reduceCtorEq]
  refine Done.gen rfl (.tmp (.tmp .nil)) ?_
  show _ = _
  kernel_rfl
 replace H := condF c1 H
 refine AW.skip (AW.regionSeq (OpsW.sg 4 [21, 19, 1] [(21, .bool t0.Back), (19, .agg [.int .i64 t0.Label.N, .int .i64 t0.Label.K]), qZqi] ?_))
 obtain ⟨x2, hx2, H⟩ := bindS H
 refine OpsW.qcall rfl (by kernel_rfl) rfl rfl (glAll_sound trivial) (.cons (.pur rfl) (.cons (.pur rfl) .nil)) (f_R19_Page_ok hx2) rfl ?_
 refine OpsW.sg 5 [5, 4, 1] [(5, .int .i64 x2.2), (qZqk x2), qZqi] ?_
 refine OpsW.nil (AW.regionSeq (OpsW.buildTI (enc := eI .u8) qZql rfl rfl rfl E41 (fun _ => rfl) (by decide) ⟨trivial, by kernel_rfl, by kernel_rfl, by kernel_rfl, rfl⟩ ?_))
 refine OpsW.sg 1 [6, 5, 4, 1] (qZqd x2) ?_
 refine OpsW.nil (AW.regionSeq (OpsW.sg 1 [7, 6, 5, 4, 1] ((7, .int .i64 0) :: (qZqd x2)) ?_))
 refine OpsW.nil ?_
 refine AW.joinK (fun (y : (List Int) × Int) => f_R19_Header_k1 t0 x2 y.1 y.2) r (fun (y : (List Int) × Int) => [qZqi, (qZqk x2), (5, .int .i64 x2.2), (6, slA (eI .u8) y.1), (7, .int .i64 y.2)]) (fun (y : (List Int) × Int) => (qZqc t0)) ?_ ?_
 ·refine AW.regionSeq (OpsW.sq 8 [33, 7, 6, 5, 4, 1] [(!(t0.Ink != 0)) = true → (!(t0.Ink != 0)) = true, (!(t0.Ink != 0)) = true → (!(t0.Ink != 0)) = true, (t0.Ink != 0) = false → (!(t0.Ink != 0)) = true] ((33, .bool (cond (t0.Ink != 0) true (t0.Part != 0))) :: (7, .int .i64 0) :: (qZqd x2)) ⟨(fun h => h), (fun h => h), (fun h => by first | exact h | (simpa using h) | grind), trivial⟩ ?_)
  refine OpsW.nil (AW.cond (b := cond (t0.Ink != 0) true (t0.Part != 0)) rfl (fun c14 => ?_) (fun c14 => ?_))
  ·replace H := condT c14 H
   refine AW.region (OpsW.sg 4 [38, 36, 7, 6, 5, 4, 1] ((38, .int .i64 t0.Part) :: (36, .int .i64 t0.Ink) :: (7, .int .i64 0) :: (qZqd x2)) ?_)
   obtain ⟨x15, hx15, H⟩ := bindS H
   refine OpsW.qcall rfl (by kernel_rfl) rfl rfl (glAll_sound trivial) (.cons (.pur rfl) (.cons (.pur rfl) .nil)) (f_R19_Ink_ok hx15) rfl ?_
   refine OpsW.sg 5 [7, 6, 5, 4, 1] [(7, .int .i64 x15.2), (6, slA (eI .u8) x15.1), (5, .int .i64 x2.2), (qZqk x2), qZqi] ?_
   refine OpsW.nil ?_
   show ∃ y, _ ∧ StC _ _ _ _
   exact ⟨(x15.1, x15.2), H, (StC.mk (phi [(1, some 1)]) (.o rfl (.i6 .nil) .nil) rfl (.cons (.r rfl) (.i4 .nil)))⟩
  replace H := condF c14 H
  refine AW.skip ?_
  show ∃ y, _ ∧ StC _ _ _ _
  exact ⟨(qZql, (0 : Int)), H, (StC.mk (phi [(1, some 1)]) (.o rfl (.i6 .nil) .nil) rfl (.cons (.r rfl) (.i4 .nil)))⟩
 rintro ⟨v3, v4⟩ H
 change f_R19_Header_k1 t0 x2 v3 v4 = some r at H
 unfold f_R19_Header_k1 at H
 change AW _ _ _ [qZqi, (qZqk x2), (5, .int .i64 x2.2), (6, slA (eI .u8) v3), (7, .int .i64 v4)] (qZqc t0) _
 refine AW.seq (AW.regionSeq (OpsW.sq 6 [47, 1, 4, 6] [(!(x2.2 != 0)) = true → (!(x2.2 != 0)) = true, (x2.2 != 0) = false → (!(x2.2 != 0)) = true] [(47, .bool (cond (x2.2 != 0) true (v4 != 0))), qZqi, (qZqk x2), (6, slA (eI .u8) v3)] ⟨(fun h => h), (fun h => by first | exact h | (simpa using h) | grind), trivial⟩ ?_))
 refine OpsW.nil (AW.cond (b := cond (x2.2 != 0) true (v4 != 0)) rfl (fun c5 => ?_) (fun c5 => ?_))
 ·replace H := condT c5 H
  refine AW.regionSeq (OpsW.sg 2 [3, 2] [(3, .int .i64 190), (2, .im (.val (.slice none 0 0)))] ?_)
  refine OpsW.nil ?_
  obtain rfl := Option.some.inj H
  refine AW.recast (env' := [(2, slA (eI .u8) []), (3, .int .i64 190)]) (h' := []) (StC.pure (.cons .nil (.cons .im .nil))) ?_
  refine AW.ret ?_
  try simp only [Ex.then, Ex.inBlock, Ex.noGoto, Ex.jump, reduceIte, Nat.reduceEqDiff, reduceCtorEq]
  refine Done.gen rfl (.tmp (.tmp .nil)) ?_
  show _ = _
  kernel_rfl
 replace H := condF c5 H
 refine AW.skip (AW.regionSeq (OpsW.buildT (enc := eI .u8) qZql rfl rfl rfl 48 rfl E41 (fun _ => rfl) (by decide) trivial (by kernel_rfl) (by kernel_rfl) (by kernel_rfl) rfl ?_))
 refine OpsW.sg 1 [49, 48, 1, 4] ((49, slA (eI .u8) v3) :: (48, .rsl 48 0 0 (qZql.length)) :: (qZqe x2)) ?_
 obtain ⟨g6, H⟩ := G_some H
 refine OpsW.appendF (enc := eI .u8) (ys := v3) rfl rfl rfl E41 (fun _ => rfl) rfl rfl trivial (SrcA.typed (enc := eI .u8) (fun _ => rfl) (by kernel_rfl) v3) rfl g6 ?_
 refine OpsW.sg 1 [8, 1, 4] ((8, .rsl 48 1 0 ((qZql ++ v3).length)) :: (qZqe x2)) ?_
 refine OpsW.recast (env' := ((8, .rsl 8 0 0 ((qZql ++ v3).length)) :: (qZqe x2))) (h' := [(1, ⟨0, true, 86, 6, (qZqg t0)⟩), (8, rtA 0 42 1 (eI .u8) (qZql ++ v3))]) (StC.mk (phi [(1, some 1), (8, some 48)]) (.o rfl (.i6 .nil) (.o rfl (CstL.ims _) .nil)) rfl (.cons (.s rfl) (.cons (.r rfl) (.cons .im .nil)))) ?_
 refine OpsW.nil (AW.seq (AW.block ?_))
 refine AW.iterK (fun loop (s : S_Header × (List Int)) => f_R19_Header_b1 x2 loop s.1 s.2) r (fun (s : S_Header × (List Int)) => [qZqi, (qZqk x2), (8, .rsl 8 0 0 s.2.length)]) (fun (s : S_Header × (List Int)) => [(1, ⟨0, true, 86, 6, [.int .i64 s.1.Width, .int .i64 s.1.Label.N, .int .i64 s.1.Label.K, .bool s.1.Back, .int .i64 s.1.Ink, .int .i64 s.1.Part]⟩), (8, rtA 0 42 1 (eI .u8) s.2)]) ?_ 1000000 (t0, qZql ++ v3) H (StC.mk (phi [(1, some 1), (8, some 8)]) (.o rfl (.i6 .nil) (.o rfl (CstL.ims _) .nil)) rfl (.cons (.r rfl) (.cons .im (.cons (.s rfl) .nil))))
 intro loop9 s H
 obtain ⟨v7, v8⟩ := s
 change f_R19_Header_b1 x2 loop9 v7 v8 = some r at H
 unfold f_R19_Header_b1 at H
 change AW _ _ _ (qZqf v8 x2) [(1, ⟨0, true, 86, 6, (qZqj v7)⟩), (8, rtA 0 42 1 (eI .u8) v8)] _
 refine AW.seq (AW.regionSeq ?_)
 obtain ⟨g10, H⟩ := G_some H
 refine OpsW.sq 8 [58, 1, 4, 8] [inR (v7.Width - (x2.1.length : Int))] ((58, .bool (decide ((v8.length : Int) < (v7.Width - (x2.1.length : Int))))) :: (qZqf v8 x2)) ⟨g10, trivial⟩ ?_
 refine OpsW.nil (AW.cond (b := decide ((v8.length : Int) < (v7.Width - (x2.1.length : Int)))) rfl (fun c11 => ?_) (fun c11 => ?_))
 ·replace H := condT c11 H
  refine AW.skip (AW.block (AW.region (OpsW.sg 1 [59, 1, 4, 8] ((59, .rsl 8 0 0 v8.length) :: (qZqf v8 x2)) ?_)))
  obtain ⟨g12, H⟩ := G_some H
  refine OpsW.appendLF (enc := eI .u8) [(0 : Int)] rfl rfl rfl (by decide) rfl rfl rfl (by simp) E41 (fun _ => rfl) (by decide) trivial (by kernel_rfl) (by kernel_rfl) (by kernel_rfl) rfl rfl rfl g12 ?_
  refine OpsW.sg 1 [8, 1, 4] ((8, .rsl 8 1 0 ((v8 ++ [(0 : Int)]).length)) :: (qZqe x2)) ?_
  refine OpsW.recast (env' := ((8, .rsl 8 0 0 ((v8 ++ [(0 : Int)]).length)) :: (qZqe x2))) (h' := [(1, ⟨0, true, 86, 6, (qZqj v7)⟩), (8, rtA 0 42 1 (eI .u8) (v8 ++ [(0 : Int)]))]) (StC.mk (phi [(1, some 1), (8, some 8)]) (.o rfl (.i6 .nil) (.o rfl (CstL.ims _) .nil)) rfl (.cons (.s rfl) (.cons (.r rfl) (.cons .im .nil)))) ?_
  refine OpsW.nil ?_
  show ∃ y, _ ∧ StC _ _ _ _
  exact ⟨(v7, v8 ++ [(0 : Int)]), H, (StC.mk (phi [(1, some 1), (8, some 8)]) (.o rfl (.i6 .nil) (.o rfl (CstL.ims _) .nil)) rfl (.cons (.r rfl) (.cons .im (.cons (.s rfl) .nil))))⟩
 replace H := condF c11 H
 refine AW.exit ?_
 refine AW.regionSeq (OpsW.sg 2 [63, 62] [(63, slA (eI .u8) x2.1), (62, .rsl 8 0 0 v8.length)] ?_)
 obtain ⟨g13, H⟩ := G_some H
 refine OpsW.appendF (enc := eI .u8) (ys := x2.1) rfl rfl rfl E41 (fun _ => rfl) rfl rfl trivial (SrcA.typed (enc := eI .u8) (fun _ => rfl) (by kernel_rfl) x2.1) rfl g13 ?_
 refine OpsW.sg 2 [3, 2] [(3, .int .i64 0), (2, .rsl 8 1 0 ((v8 ++ x2.1).length))] ?_
 refine OpsW.recast (env' := [(3, .int .i64 0), (2, slA (eI .u8) (v8 ++ x2.1))]) (h' := []) (StC.mk (phi []) .nil rfl (.cons .im (.cons (.frz rfl rfl rfl (frz_all (eI .u8) 1 (fun _ => rfl) (v8 ++ x2.1)) (fm_length (eI .u8) 1 (fun _ => rfl) (v8 ++ x2.1)) (phi_ne rfl)) .nil))) ?_
 refine OpsW.nil ?_
 obtain rfl := Option.some.inj H
 refine AW.recast (env' := [(2, slA (eI .u8) (v8 ++ x2.1)), (3, .int .i64 0)]) (h' := []) (StC.pure (.i2 .nil)) ?_
 refine AW.ret ?_
 try simp only [Ex.then, Ex.inBlock, Ex.noGoto, Ex.jump, reduceIte, Nat.reduceEqDiff, reduceCtorEq]
 refine Done.gen rfl (.tmp (.tmp .nil)) ?_
 show _ = _
 kernel_rfl
end Go.Proofs.YtbcfmhoaocifoaaDoor
