/-
  Written by gen.py (own work): typed functions, and that the program computes them.
-/
import Derived.Test.YtbcfmhoaocifoaaDoorW8
set_option linter.unusedSimpArgs false
set_option linter.unusedVariables false
set_option maxRecDepth 100000
namespace Go.Proofs.YtbcfmhoaocifoaaDoor
open Go.Abs
def f_R25_Turned_b1 (loop6 : (S_Plate × S_Plate × S_Plate × Int) → Option S_Plate) (v5 : Int) (loop12 : (S_Plate × S_Plate × S_Plate × Int) → Option S_Plate) (v8 : S_Plate) (v9 : S_Plate) (v10 : S_Plate) (v11 : Int) : Option S_Plate :=
  cond (decide (v11 < v8.W)) (
    G (0 ≤ v5 ∧ v5 < (v10.Up.length : Int)) <|
    G (0 ≤ v5 ∧ v5 < (v8.Down.length : Int)) <|
    G (inR (v8.W - 1)) <|
    G (inR ((v8.W - 1) - v11)) <|
    G (0 ≤ ((v8.W - 1) - v11) ∧ ((v8.W - 1) - v11) < ((v8.Down.getD v5.toNat []).length : Int)) <|
    G (0 ≤ v11 ∧ v11 < ((v10.Up.getD v5.toNat []).length : Int)) <|
    G (0 ≤ v5 ∧ v5 < (v10.Down.length : Int)) <|
    G (0 ≤ v5 ∧ v5 < (v8.Up.length : Int)) <|
    G (0 ≤ ((v8.W - 1) - v11) ∧ ((v8.W - 1) - v11) < ((v8.Up.getD v5.toNat []).length : Int)) <|
    G (0 ≤ v11 ∧ v11 < ((v10.Down.getD v5.toNat []).length : Int)) <|
    G (inR (v11 + 1)) <|
    loop12 (v8, v9, (⟨v10.W, v10.H, v10.Up.set v5.toNat ((v10.Up.getD v5.toNat []).set v11.toNat ((v8.Down.getD v5.toNat []).getD ((v8.W - 1) - v11).toNat false)), v10.Down.set v5.toNat ((v10.Down.getD v5.toNat []).set v11.toNat ((v8.Up.getD v5.toNat []).getD ((v8.W - 1) - v11).toNat false))⟩ : S_Plate), v11 + 1)) (
    G (inR (v5 + 1)) <|
    loop6 (v8, v9, v10, v5 + 1))
def f_R25_Turned_b2 (loop6 : (S_Plate × S_Plate × S_Plate × Int) → Option S_Plate) (v2 : S_Plate) (v3 : S_Plate) (v4 : S_Plate) (v5 : Int) : Option S_Plate :=
  cond (decide (v5 < v2.H)) (
    iter (fun loop (s : S_Plate × S_Plate × S_Plate × Int) => f_R25_Turned_b1 loop6 v5 loop s.1 s.2.1 s.2.2.1 s.2.2.2) 1000000 (v2, v3, v4, (0 : Int))) (
    some v4)
def f_R25_Turned (t0 : S_Plate) : Option S_Plate :=
  (f_R25_Empty t0.W t0.H).bind fun x1 =>
  iter (fun loop (s : S_Plate × S_Plate × S_Plate × Int) => f_R25_Turned_b2 loop s.1 s.2.1 s.2.2.1 s.2.2.2) 1000000 (t0, (⟨(0 : Int), (0 : Int), [], []⟩ : S_Plate), x1, (0 : Int))
section
variable (t0 : S_Plate) (v2 : S_Plate) (v3 : S_Plate) (v4 : S_Plate) (v5 : Int) (v8 : S_Plate) (v9 : S_Plate) (v10 : S_Plate) (v11 : Int) (x1 : S_Plate)
abbrev qZnr := (⟨v10.W, v10.H, v10.Up.set v5.toNat ((v10.Up.getD v5.toNat []).set v11.toNat ((v8.Down.getD v5.toNat []).getD ((v8.W - 1) - v11).toNat false)), v10.Down.set v5.toNat ((v10.Down.getD v5.toNat []).set v11.toNat ((v8.Up.getD v5.toNat []).getD ((v8.W - 1) - v11).toNat false))⟩ : S_Plate)
abbrev qZns := v10.Up.set v5.toNat ((v10.Up.getD v5.toNat []).set v11.toNat ((v8.Down.getD v5.toNat []).getD ((v8.W - 1) - v11).toNat false))
abbrev qZnt := [fmA 15030 4 1 eB (qZns v5 v8 v10 v11), fmA 15031 4 1 eB (v10.Down.set v5.toNat ((v10.Down.getD v5.toNat []).set v11.toNat ((v8.Up.getD v5.toNat []).getD ((v8.W - 1) - v11).toNat false)))]
abbrev qZnu : List AV := [.int .i64 t0.W, .int .i64 t0.H, slA (eL eB) t0.Up, slA (eL eB) t0.Down]
abbrev qZnv := (v8.Up.getD v5.toNat []).getD ((v8.W - 1) - v11).toNat false
abbrev qZnw := [fmA 15030 4 1 eB (qZns v5 v8 v10 v11), fmA 15031 4 1 eB v10.Down]
abbrev qZnx : List AV := [.int .i64 v8.W, .int .i64 v8.H, slA (eL eB) v8.Up, slA (eL eB) v8.Down]
abbrev qZny : List AV := [.int .i64 v9.W, .int .i64 v9.H, slA (eL eB) v9.Up, slA (eL eB) v9.Down]
abbrev qZnz := [fmA 15030 4 1 eB v10.Up, fmA 15031 4 1 eB v10.Down]
abbrev qZo0 := [fmA 10601 4 1 eB x1.Up, fmA 10602 4 1 eB x1.Down]
abbrev qZo1 := [fmA 15030 4 1 eB v4.Up, fmA 15031 4 1 eB v4.Down]
abbrev qZo2 : List AV := [.int .i64 0, .int .i64 0, .im (.val (.slice none 0 0)), .im (.val (.slice none 0 0))]
abbrev qZo3 : List AV := [.int .i64 v4.W, .int .i64 v4.H, .rsl 5030 0 0 v4.Up.length, .rsl 5031 0 0 v4.Down.length]
abbrev qZo4 := (⟨(0 : Int), (0 : Int), [], []⟩ : S_Plate)
abbrev qZo5 := (v8.Down.getD v5.toNat []).getD ((v8.W - 1) - v11).toNat false
abbrev qZo6 := [fmA 15030 4 1 eB x1.Up, fmA 15031 4 1 eB x1.Down]
abbrev qZo7 := [fmA 15020 4 1 eB v4.Up, fmA 15021 4 1 eB v4.Down]
abbrev qZo8 : List AV := [.int .i64 x1.W, .int .i64 x1.H, .rsl 5030 0 0 x1.Up.length, .rsl 5031 0 0 x1.Down.length]
abbrev qZo9 : List AV := [.int .i64 x1.W, .int .i64 x1.H, .rsl 1500 0 0 x1.Up.length, .rsl 1501 0 0 x1.Down.length]
abbrev qZoa : List AV := [.int .i64 x1.W, .int .i64 x1.H, .rsl 601 0 0 x1.Up.length, .rsl 602 0 0 x1.Down.length]
abbrev qZob := fid 15030 v5.toNat
abbrev qZoc := fid 15031 v5.toNat
abbrev qZod : Nat × AV := (2, .ref 2 0 0)
abbrev qZoe : Nat × AV := (3, .ref 3 0 0)
abbrev qZof := v10.Down.set v5.toNat ((v10.Down.getD v5.toNat []).set v11.toNat (qZnv v5 v8 v11))
abbrev qZog := v8.Down.getD v5.toNat []
abbrev qZoh := (v8.W - 1) - v11
abbrev qZn6 : Hp := [(1, ⟨0, true, 47, 4, (qZnx v8)⟩), (2, ⟨0, true, 47, 4, (qZny v9)⟩), (3, ⟨0, true, 47, 4, [.int .i64 v10.W, .int .i64 v10.H, .rsl 5030 0 0 ((qZns v5 v8 v10 v11).length), .rsl 5031 0 0 ((qZof v5 v8 v10 v11).length)]⟩), (5030, nsA 0 61 15030 (qZns v5 v8 v10 v11)), (5031, nsA 0 61 15031 (qZof v5 v8 v10 v11))]
abbrev qZn7 : Hp := [(1, ⟨0, true, 47, 4, (qZnx v8)⟩), (2, ⟨0, true, 47, 4, (qZny v9)⟩), (3, ⟨0, true, 47, 4, [.int .i64 v10.W, .int .i64 v10.H, .rsl 5030 0 0 ((qZns v5 v8 v10 v11).length), .rsl 5031 0 0 v10.Down.length]⟩), (5030, nsA 0 61 15030 (qZns v5 v8 v10 v11)), (5031, nsA 0 61 15031 v10.Down)]
abbrev qZn8 : Hp := [(1, ⟨0, true, 47, 4, (qZnx v8)⟩), (2, ⟨0, true, 47, 4, (qZny v9)⟩), (3, ⟨0, true, 47, 4, [.int .i64 v10.W, .int .i64 v10.H, .rsl 5030 0 0 v10.Up.length, .rsl 5031 0 0 v10.Down.length]⟩), (5030, nsA 0 61 15030 v10.Up), (5031, nsA 0 61 15031 v10.Down)]
abbrev qZn9 : Hp := [(1, ⟨0, true, 47, 4, [.int .i64 v2.W, .int .i64 v2.H, slA (eL eB) v2.Up, slA (eL eB) v2.Down]⟩), (2, ⟨0, true, 47, 4, [.int .i64 v3.W, .int .i64 v3.H, slA (eL eB) v3.Up, slA (eL eB) v3.Down]⟩), (3, ⟨0, true, 47, 4, (qZo3 v4)⟩), (5030, nsA 0 61 15030 v4.Up), (5031, nsA 0 61 15031 v4.Down)]
abbrev qZna : Env := [(1, .ref 1 0 0), qZod, qZoe, (4, .int .i64 v5), (5, .int .i64 v11)]
abbrev qZnb : Hp := [(1, ⟨0, true, 47, 4, (qZnu t0)⟩), (2, ⟨0, true, 47, 4, qZo2⟩)]
abbrev qZnc : Hp := [(1, ⟨0, true, 47, 4, (qZnu t0)⟩), (2, ⟨0, true, 47, 4, qZo2⟩), (3, ⟨0, true, 47, 4, (qZo8 x1)⟩), (5030, nsA 0 61 15030 x1.Up), (5031, nsA 0 61 15031 x1.Down)]
abbrev qZnd : Env := (40, .bool (qZo5 v5 v8 v11)) :: (28, .int .i64 v11) :: (27, .rsl (qZob v5) 0 0 ((v10.Up.getD v5.toNat []).length)) :: (qZna v5 v11)
abbrev qZne : Env := (59, .bool (qZnv v5 v8 v11)) :: (47, .int .i64 v11) :: (46, .rsl (qZoc v5) 0 0 ((v10.Down.getD v5.toNat []).length)) :: (qZna v5 v11)
abbrev qZnf : Env := (32, .ipt (v8.Down.flatMap (eL eB)) (v5.toNat * 1)) :: (31, .int .i64 v5) :: (30, slA (eL eB) v8.Down) :: (29, .ref 1 0 3) :: (28, .int .i64 v11) :: (27, .rsl (qZob v5) 0 0 ((v10.Up.getD v5.toNat []).length)) :: (26, .ref 5030 0 (0 + v5.toNat * 1)) :: (25, .int .i64 v5) :: (24, .rsl 5030 0 0 v10.Up.length) :: (23, .ref 3 0 2) :: (20, .bool (decide (v11 < v8.W))) :: (qZna v5 v11)
abbrev qZng : Hp := [(2, ⟨0, true, 47, 4, [.int .i64 v4.W, .int .i64 v4.H, .rsl 5020 0 0 v4.Up.length, .rsl 5021 0 0 v4.Down.length]⟩), (5020, nsA 0 61 15020 v4.Up), (5021, nsA 0 61 15021 v4.Down)]
abbrev qZnh : Env := (51, .ipt (v8.Up.flatMap (eL eB)) (v5.toNat * 1)) :: (50, .int .i64 v5) :: (49, slA (eL eB) v8.Up) :: (48, .ref 1 0 2) :: (47, .int .i64 v11) :: (46, .rsl (qZoc v5) 0 0 ((v10.Down.getD v5.toNat []).length)) :: (45, .ref 5031 0 (0 + v5.toNat * 1)) :: (44, .int .i64 v5) :: (43, .rsl 5031 0 0 v10.Down.length) :: (42, .ref 3 0 3) :: (qZna v5 v11)
abbrev qZni : Hp := (3, ⟨0, true, 47, 4, (qZoa x1)⟩) :: (3, ⟨0, true, 47, 4, qZo2⟩) :: (601, nsA 0 61 10601 x1.Up) :: (602, nsA 0 61 10602 x1.Down) :: (qZnb t0)
abbrev qZnj : Env := [qZod, (1, .ref 1 0 0)]
abbrev qZnk : List (Nat × FM) := [(15030, .same 15030), (15031, .same 15031)]
abbrev qZnl : Env := [(1, .ref 1 0 0), qZod, qZoe, (4, .int .i64 v5)]
abbrev qZnm : Hp := (1000, ⟨0, true, 47, 4, (qZo9 x1)⟩) :: (1500, nsA 0 61 11500 x1.Up) :: (1501, nsA 0 61 11501 x1.Down) :: (qZnb t0)
abbrev qZnn : Hp := [(1000, ⟨0, true, 47, 4, [.int .i64 v4.W, .int .i64 v4.H, .rsl 1500 0 0 v4.Up.length, .rsl 1501 0 0 v4.Down.length]⟩), (1500, nsA 0 61 11500 v4.Up), (1501, nsA 0 61 11501 v4.Down)]
abbrev qZno : Env := (10, .agg (qZoa x1)) :: (9, .int .i64 t0.H) :: (7, .int .i64 t0.W) :: qZnj
abbrev qZnp : Hp := (2, ⟨0, true, 47, 4, (qZo3 v4)⟩) :: (qZn9 v2 v3 v4)
abbrev qZnq : Hp := (601, nsA 0 61 10601 x1.Up) :: (602, nsA 0 61 10602 x1.Down) :: (qZnb t0)
end
theorem f_R25_Turned_own {t0 : S_Plate} {r : S_Plate} (H : f_R25_Turned t0 = some r) : Abs.Spec Tryd.prog 22 [.agg [.int .i64 t0.W, .int .i64 t0.H, slA (eL eB) t0.Up, slA (eL eB) t0.Down]] [] (fun x h => x = .agg [.int .i64 r.W, .int .i64 r.H, .rsl 1500 0 0 r.Up.length, .rsl 1501 0 0 r.Down.length] ∧ h = ([(1000, ⟨0, true, 47, 4, [.int .i64 r.W, .int .i64 r.H, .rsl 1500 0 0 r.Up.length, .rsl 1501 0 0 r.Down.length]⟩), (1500, nsA 0 61 11500 r.Up), (1501, nsA 0 61 11501 r.Down)] ++ fmsH [fmA 11500 4 1 eB r.Up, fmA 11501 4 1 eB r.Down])) := by
  refine Spec.of_AW Tryd.func22 rfl (by simp [Tryd.ntmps22]) ?_
  rw [Tryd.ntmps22]
  unfold f_R25_Turned at H
  change AW _ _ _ [(0, .agg (qZnu t0))] [] _
  refine AW.regionSeq (OpsW.box rfl rfl rfl 1 rfl (okCb_sound (by kernel_rfl)) ?_)
  change OpsW _ _ _ _ _ [(1, ⟨0, true, 47, 4, (qZnu t0)⟩)] _
  refine OpsW.alloc' rfl rfl rfl 2 rfl (by kernel_rfl : zc Tryd.prog 47 = some [.int .i64 0, .int .i64 0, .slice none 0 0, .slice none 0 0]) (by kernel_rfl) ?_
  refine OpsW.sg 0 [2, 1] qZnj ?_
  refine OpsW.recast (env' := qZnj) (h' := (qZnb t0)) (StC.mk (phi [(1, some 1), (2, some 2)]) (.o rfl (.i4 .nil) (.o rfl (.i4 .nil) .nil)) rfl (.cons (.r rfl) (.cons (.r rfl) .nil))) ?_
  refine OpsW.nil (AW.regionSeq (OpsW.sg 4 [9, 7, 2, 1] ((9, .int .i64 t0.H) :: (7, .int .i64 t0.W) :: qZnj) ?_))
  obtain ⟨x1, hx1, H⟩ := bindS H
  refine OpsW.call rfl rfl (by kernel_rfl) [] _ _ rfl (glAll_sound trivial) (.cons (.pur rfl) (.cons (.pur rfl) .nil)) (f_R25_Empty_own hx1) ?_
  rintro _ _ ⟨rfl, rfl⟩
  refine ⟨(fresh_F0 rfl rfl), .inl rfl, ?_⟩
  refine OpsW.heapEq (heap_mid0 rfl) ?_
  change OpsW _ _ _ _ ((10, .agg (qZo9 x1)) :: (9, .int .i64 t0.H) :: (7, .int .i64 t0.W) :: qZnj) ((qZnm t0 x1) ++ fmsH [fmA 11500 4 1 eB x1.Up, fmA 11501 4 1 eB x1.Down]) _
  refine OpsW.recast (env' := (qZno t0 x1)) (h' := ((qZnq t0 x1) ++ fmsH (qZo0 x1))) (StC.mkF (hc := (qZnm t0 x1)) (fs := [fmA 11500 4 1 eB x1.Up, fmA 11501 4 1 eB x1.Down]) (hc' := (qZnq t0 x1)) (fs' := (qZo0 x1)) rfl [(601, some 1500), (602, some 1501), (1, some 1), (2, some 2)] [(10601, .same 11500), (10602, .same 11501)] rfl (.o rfl (nsSameA rfl rfl (by decide) rfl rfl rfl) (.o rfl (nsSameA rfl rfl (by decide) rfl rfl rfl) (.o rfl (.i4 .nil) (.o rfl (.i4 .nil) .nil)))) rfl (.cons rfl (fmSame rfl) (.cons rfl (fmSame rfl) .nil)) (.cons (.agg (.i2 (.cons (.s rfl) (.cons (.s rfl) .nil)))) (.i2 (.cons (.r rfl) (.cons (.r rfl) .nil))))) ?_
  change OpsW _ _ _ _ (qZno t0 x1) ((qZnq t0 x1) ++ fmsH (qZo0 x1)) _
  refine OpsW.alloc' rfl rfl rfl 3 (free_f rfl) (by kernel_rfl : zc Tryd.prog 47 = some [.int .i64 0, .int .i64 0, .slice none 0 0, .slice none 0 0]) (by kernel_rfl) ?_
  refine OpsW.store rfl rfl rfl rfl trivial trivial rfl rfl rfl (by kernel_rfl) (okCb_sound (by kernel_rfl)) (Nat.le_of_ble_eq_true (by kernel_rfl)) ?_
  change OpsW _ _ _ _ _ ((qZni t0 x1) ++ fmsH (qZo0 x1)) _
  refine OpsW.sg 0 [3, 2, 1] (qZoe :: qZnj) ?_
  refine OpsW.recast (env' := (qZoe :: qZnj)) (h' := ((qZnc t0 x1) ++ fmsH (qZo6 x1))) (StC.mkF (hc := (qZni t0 x1)) (fs := (qZo0 x1)) (hc' := (qZnc t0 x1)) (fs' := (qZo6 x1)) rfl [(1, some 1), (2, some 2), (3, some 3), (5030, some 601), (5031, some 602)] [(15030, .same 10601), (15031, .same 10602)] rfl (.o rfl (.i4 .nil) (.o rfl (.i4 .nil) (.o rfl (.i2 (.cons (.s rfl) (.cons (.s rfl) .nil))) (.o rfl (nsSameA rfl rfl (by decide) rfl rfl rfl) (.o rfl (nsSameA rfl rfl (by decide) rfl rfl rfl) .nil))))) rfl (.cons rfl (fmSame rfl) (.cons rfl (fmSame rfl) .nil)) (.cons (.r rfl) (.cons (.r rfl) (.cons (.r rfl) .nil)))) ?_
  refine OpsW.nil (AW.seq (AW.regionSeq (OpsW.sg 1 [4, 3, 2, 1] ((4, .int .i64 0) :: qZoe :: qZnj) ?_)))
  refine OpsW.nil (AW.block ?_)
  refine AW.iterK (fun loop (s : S_Plate × S_Plate × S_Plate × Int) => f_R25_Turned_b2 loop s.1 s.2.1 s.2.2.1 s.2.2.2) r (fun (s : S_Plate × S_Plate × S_Plate × Int) => [(1, .ref 1 0 0), qZod, qZoe, (4, .int .i64 s.2.2.2)]) (fun (s : S_Plate × S_Plate × S_Plate × Int) => ([(1, ⟨0, true, 47, 4, [.int .i64 s.1.W, .int .i64 s.1.H, slA (eL eB) s.1.Up, slA (eL eB) s.1.Down]⟩), (2, ⟨0, true, 47, 4, [.int .i64 s.2.1.W, .int .i64 s.2.1.H, slA (eL eB) s.2.1.Up, slA (eL eB) s.2.1.Down]⟩), (3, ⟨0, true, 47, 4, [.int .i64 s.2.2.1.W, .int .i64 s.2.2.1.H, .rsl 5030 0 0 s.2.2.1.Up.length, .rsl 5031 0 0 s.2.2.1.Down.length]⟩), (5030, nsA 0 61 15030 s.2.2.1.Up), (5031, nsA 0 61 15031 s.2.2.1.Down)] ++ fmsH [fmA 15030 4 1 eB s.2.2.1.Up, fmA 15031 4 1 eB s.2.2.1.Down])) ?_ 1000000 (t0, qZo4, x1, (0 : Int)) H (StC.mkF (hc := (qZnc t0 x1)) (fs := (qZo6 x1)) (hc' := [(1, ⟨0, true, 47, 4, (qZnu t0)⟩), (2, ⟨0, true, 47, 4, [.int .i64 qZo4.W, .int .i64 qZo4.H, slA (eL eB) qZo4.Up, slA (eL eB) qZo4.Down]⟩), (3, ⟨0, true, 47, 4, (qZo8 x1)⟩), (5030, nsA 0 61 15030 x1.Up), (5031, nsA 0 61 15031 x1.Down)]) (fs' := (qZo6 x1)) rfl [(1, some 1), (2, some 2), (3, some 3), (5030, some 5030), (5031, some 5031)] qZnk rfl (.o rfl (.i4 .nil) (.o rfl (.i2 (.cons .nil (.cons .nil .nil))) (.o rfl (.i2 (.cons (.s rfl) (.cons (.s rfl) .nil))) (.o rfl (nsSameA rfl rfl (by decide) rfl rfl rfl) (.o rfl (nsSameA rfl rfl (by decide) rfl rfl rfl) .nil))))) rfl (.cons rfl (fmSame rfl) (.cons rfl (fmSame rfl) .nil)) (.cons (.r rfl) (.cons (.r rfl) (.cons (.r rfl) (.cons .im .nil)))))
  intro loop6 s H
  obtain ⟨v2, v3, v4, v5⟩ := s
  change f_R25_Turned_b2 loop6 v2 v3 v4 v5 = some r at H
  unfold f_R25_Turned_b2 at H
  change AW _ _ _ (qZnl v5) ((qZn9 v2 v3 v4) ++ fmsH (qZo1 v4)) _
  refine AW.seq (AW.regionSeq (OpsW.sg 4 [14, 1, 2, 3, 4] ((14, .bool (decide (v5 < v2.H))) :: (qZnl v5)) ?_))
  refine OpsW.nil (AW.cond (b := decide (v5 < v2.H)) rfl (fun c7 => ?_) (fun c7 => ?_))
  · replace H := condT c7 H
    refine AW.skip (AW.seq (AW.block (AW.regionSeq (OpsW.sg 1 [5, 1, 2, 3, 4] ((5, .int .i64 0) :: (qZnl v5)) ?_))))
    refine OpsW.nil (AW.block ?_)
    refine AW.iterK (fun loop (s : S_Plate × S_Plate × S_Plate × Int) => f_R25_Turned_b1 loop6 v5 loop s.1 s.2.1 s.2.2.1 s.2.2.2) r (fun (s : S_Plate × S_Plate × S_Plate × Int) => [(1, .ref 1 0 0), qZod, qZoe, (4, .int .i64 v5), (5, .int .i64 s.2.2.2)]) (fun (s : S_Plate × S_Plate × S_Plate × Int) => ([(1, ⟨0, true, 47, 4, [.int .i64 s.1.W, .int .i64 s.1.H, slA (eL eB) s.1.Up, slA (eL eB) s.1.Down]⟩), (2, ⟨0, true, 47, 4, [.int .i64 s.2.1.W, .int .i64 s.2.1.H, slA (eL eB) s.2.1.Up, slA (eL eB) s.2.1.Down]⟩), (3, ⟨0, true, 47, 4, [.int .i64 s.2.2.1.W, .int .i64 s.2.2.1.H, .rsl 5030 0 0 s.2.2.1.Up.length, .rsl 5031 0 0 s.2.2.1.Down.length]⟩), (5030, nsA 0 61 15030 s.2.2.1.Up), (5031, nsA 0 61 15031 s.2.2.1.Down)] ++ fmsH [fmA 15030 4 1 eB s.2.2.1.Up, fmA 15031 4 1 eB s.2.2.1.Down])) ?_ 1000000 (v2, v3, v4, (0 : Int)) H (StC.mkF (hc := (qZn9 v2 v3 v4)) (fs := (qZo1 v4)) (hc' := (qZn9 v2 v3 v4)) (fs' := (qZo1 v4)) rfl [(1, some 1), (2, some 2), (3, some 3), (5030, some 5030), (5031, some 5031)] qZnk rfl (.o rfl (.i4 .nil) (.o rfl (.i4 .nil) (.o rfl (.i2 (.cons (.s rfl) (.cons (.s rfl) .nil))) (.o rfl (nsSameA rfl rfl (by decide) rfl rfl rfl) (.o rfl (nsSameA rfl rfl (by decide) rfl rfl rfl) .nil))))) rfl (.cons rfl (fmSame rfl) (.cons rfl (fmSame rfl) .nil)) (.cons (.r rfl) (.cons (.r rfl) (.cons (.r rfl) (.i2 .nil)))))
    intro loop12 s H
    obtain ⟨v8, v9, v10, v11⟩ := s
    change f_R25_Turned_b1 loop6 v5 loop12 v8 v9 v10 v11 = some r at H
    unfold f_R25_Turned_b1 at H
    change AW _ _ _ (qZna v5 v11) ((qZn8 v8 v9 v10) ++ fmsH (qZnz v10)) _
    refine AW.seq (AW.regionSeq (OpsW.sg 4 [20, 1, 2, 3, 4, 5] ((20, .bool (decide (v11 < v8.W))) :: (qZna v5 v11)) ?_))
    refine OpsW.nil (AW.cond (b := decide (v11 < v8.W)) rfl (fun c13 => ?_) (fun c13 => ?_))
    · replace H := condT c13 H
      refine AW.skip (AW.seq (AW.block (AW.drawTSeq 18 Tryd.checked.mixed (by kernel_rfl) ?_)))
      obtain ⟨g14, H⟩ := G_some H
      refine QOps.seg (N := 62) 4 [0 ≤ v5 ∧ v5 < (v10.Up.length : Int)] ((26, .ref 5030 0 (0 + v5.toNat * 1)) :: (25, .int .i64 v5) :: (24, .rsl 5030 0 0 v10.Up.length) :: (23, .ref 3 0 2) :: (20, .bool (decide (v11 < v8.W))) :: (qZna v5 v11)) (by kernel_rfl) ⟨g14, trivial⟩ ?_
      refine QOps.asU (.rsl (qZob v5) 0 0 ((v10.Up.getD v5.toNat []).length)) rfl (T.loadR rfl trivial (by kernel_rfl) rfl rfl rfl (ns_cell (ltN g14) (by first | omega | (simp only [qZob]; omega)))) ?_
      obtain ⟨g15, H⟩ := G_some H
      refine QOps.seg (N := 62) 5 [0 ≤ v5 ∧ v5 < (v8.Down.length : Int)] (qZnf v5 v8 v10 v11) (by kernel_rfl) ⟨g15, trivial⟩ ?_
      refine QOps.asU (slA eB (qZog v5 v8)) rfl (T.load rfl trivial (by kernel_rfl) (fm_cell0 (eL eB) 1 (fun _ => rfl) v8.Down [] v5.toNat (ltN g15) (fun a => .sl (a.flatMap eB) a.length) (fun _ => rfl))) ?_
      obtain ⟨g16, H⟩ := G_some H
      obtain ⟨g17, H⟩ := G_some H
      obtain ⟨g18, H⟩ := G_some H
      refine QOps.seg (N := 62) 6 [inR (v8.W - 1), inR (qZoh v8 v11), 0 ≤ (qZoh v8 v11) ∧ (qZoh v8 v11) < ((qZog v5 v8).length : Int)] ((39, .ipt ((qZog v5 v8).flatMap eB) ((qZoh v8 v11).toNat * 1)) :: (38, .int .i64 (qZoh v8 v11)) :: (37, .int .i64 v11) :: (36, .int .i64 (v8.W - 1)) :: (35, .int .i64 v8.W) :: (34, .ref 1 0 0) :: (33, slA eB (qZog v5 v8)) :: (qZnf v5 v8 v10 v11)) (by kernel_rfl) ⟨g16, g17, g18, trivial⟩ ?_
      refine QOps.asU (.bool (qZo5 v5 v8 v11)) rfl (T.load rfl trivial (by kernel_rfl) (fm_cell0 eB 1 (fun _ => rfl) (qZog v5 v8) false (qZoh v8 v11).toNat (ltN g18) (fun a => .val (.bool a)) (fun _ => rfl))) ?_
      refine QOps.nil (OpsW.sg 0 [40, 28, 27, 1, 2, 3, 4, 5] (qZnd v5 v8 v10 v11) ?_)
      obtain ⟨g19, H⟩ := G_some H
      change OpsW _ _ _ _ (qZnd v5 v8 v10 v11) ((qZn8 v8 v9 v10) ++ fmsH (qZnz v10)) _
      refine OpsW.asU (.ref (qZob v5) 0 (0 + v11.toNat * 1)) rfl rfl (T.idxF rfl rfl trivial trivial (by kernel_rfl) (by kernel_rfl) (row_f rfl rfl (ltN g14)) rfl rfl g19) ?_
      change OpsW _ _ _ _ ((41, .ref (qZob v5) 0 (0 + v11.toNat * 1)) :: (qZnd v5 v8 v10 v11)) ((qZn8 v8 v9 v10) ++ fmsH (qZnz v10)) _
      refine OpsW.storeN (enc := eB) (k := 1) (xs := v10.Up) (hc' := (qZn7 v5 v8 v9 v10 v11)) false (qZo5 v5 v8 v11) [.val (.bool (qZo5 v5 v8 v11))] v5.toNat v11.toNat 0 rfl rfl rfl (by first | rfl | exact congrArg (AV.ref (qZob v5) 0) (by first | omega | (simp only [qZns, qZnz, qZo5, qZob]; omega))) trivial trivial rfl rfl (fun _ => rfl) rfl (by kernel_rfl) (okCb_sound (by kernel_rfl)) (ltN g14) (ltN g19) (Nat.le_of_ble_eq_true (by kernel_rfl)) rfl (by simp only [List.length_set, nsA_set, qZns, qZnx, qZny, qZnz, qZo5, qZob, qZod, qZoe, qZn7, qZn8, qZna, qZnd]) ?_
      change OpsW _ _ _ _ ((41, .ref (qZob v5) 0 (0 + v11.toNat * 1)) :: (qZnd v5 v8 v10 v11)) ((qZn7 v5 v8 v9 v10 v11) ++ fmsH (qZnw v5 v8 v10 v11)) _
      refine OpsW.sg 0 [1, 2, 3, 4, 5] (qZna v5 v11) ?_
      refine OpsW.recast (env' := (qZna v5 v11)) (h' := ((qZn7 v5 v8 v9 v10 v11) ++ fmsH (qZnw v5 v8 v10 v11))) (StC.mkF (hc := (qZn7 v5 v8 v9 v10 v11)) (fs := (qZnw v5 v8 v10 v11)) (hc' := (qZn7 v5 v8 v9 v10 v11)) (fs' := (qZnw v5 v8 v10 v11)) rfl [(1, some 1), (2, some 2), (3, some 3), (5030, some 5030), (5031, some 5031)] qZnk rfl (.o rfl (.i4 .nil) (.o rfl (.i4 .nil) (.o rfl (.i2 (.cons (.s rfl) (.cons (.s rfl) .nil))) (.o rfl (nsSameA rfl rfl (by decide) rfl rfl rfl) (.o rfl (nsSameA rfl rfl (by decide) rfl rfl rfl) .nil))))) rfl (.cons rfl (fmSame rfl) (.cons rfl (fmSame rfl) .nil)) (.cons (.r rfl) (.cons (.r rfl) (.cons (.r rfl) (.i2 .nil))))) ?_
      refine OpsW.nil (AW.drawT 18 Tryd.checked.mixed (by kernel_rfl) ?_)
      obtain ⟨g20, H⟩ := G_some H
      refine QOps.seg (N := 62) 4 [0 ≤ v5 ∧ v5 < (v10.Down.length : Int)] ((45, .ref 5031 0 (0 + v5.toNat * 1)) :: (44, .int .i64 v5) :: (43, .rsl 5031 0 0 v10.Down.length) :: (42, .ref 3 0 3) :: (qZna v5 v11)) (by kernel_rfl) ⟨g20, trivial⟩ ?_
      refine QOps.asU (.rsl (qZoc v5) 0 0 ((v10.Down.getD v5.toNat []).length)) rfl (T.loadR rfl trivial (by kernel_rfl) rfl rfl rfl (ns_cell (ltN g20) (by first | omega | (simp only [qZns, qZnw, qZoc]; omega)))) ?_
      obtain ⟨g21, H⟩ := G_some H
      refine QOps.seg (N := 62) 5 [0 ≤ v5 ∧ v5 < (v8.Up.length : Int)] (qZnh v5 v8 v10 v11) (by kernel_rfl) ⟨g21, trivial⟩ ?_
      refine QOps.asU (slA eB (v8.Up.getD v5.toNat [])) rfl (T.load rfl trivial (by kernel_rfl) (fm_cell0 (eL eB) 1 (fun _ => rfl) v8.Up [] v5.toNat (ltN g21) (fun a => .sl (a.flatMap eB) a.length) (fun _ => rfl))) ?_
      obtain ⟨g22, H⟩ := G_some H
      refine QOps.seg (N := 62) 6 [inR (v8.W - 1), inR (qZoh v8 v11), 0 ≤ (qZoh v8 v11) ∧ (qZoh v8 v11) < ((v8.Up.getD v5.toNat []).length : Int)] ((58, .ipt ((v8.Up.getD v5.toNat []).flatMap eB) ((qZoh v8 v11).toNat * 1)) :: (57, .int .i64 (qZoh v8 v11)) :: (56, .int .i64 v11) :: (55, .int .i64 (v8.W - 1)) :: (54, .int .i64 v8.W) :: (53, .ref 1 0 0) :: (52, slA eB (v8.Up.getD v5.toNat [])) :: (qZnh v5 v8 v10 v11)) (by kernel_rfl) ⟨g16, g17, g22, trivial⟩ ?_
      refine QOps.asU (.bool (qZnv v5 v8 v11)) rfl (T.load rfl trivial (by kernel_rfl) (fm_cell0 eB 1 (fun _ => rfl) (v8.Up.getD v5.toNat []) false (qZoh v8 v11).toNat (ltN g22) (fun a => .val (.bool a)) (fun _ => rfl))) ?_
      refine QOps.nil (OpsW.sg 0 [59, 47, 46, 1, 2, 3, 4, 5] (qZne v5 v8 v10 v11) ?_)
      obtain ⟨g23, H⟩ := G_some H
      change OpsW _ _ _ _ (qZne v5 v8 v10 v11) ((qZn7 v5 v8 v9 v10 v11) ++ fmsH (qZnw v5 v8 v10 v11)) _
      refine OpsW.asU (.ref (qZoc v5) 0 (0 + v11.toNat * 1)) rfl rfl (T.idxF rfl rfl trivial trivial (by kernel_rfl) (by kernel_rfl) (row_f rfl rfl (ltN g20)) rfl rfl g23) ?_
      change OpsW _ _ _ _ ((60, .ref (qZoc v5) 0 (0 + v11.toNat * 1)) :: (qZne v5 v8 v10 v11)) ((qZn7 v5 v8 v9 v10 v11) ++ fmsH (qZnw v5 v8 v10 v11)) _
      refine OpsW.storeN (enc := eB) (k := 1) (xs := v10.Down) (hc' := (qZn6 v5 v8 v9 v10 v11)) false (qZnv v5 v8 v11) [.val (.bool (qZnv v5 v8 v11))] v5.toNat v11.toNat 0 rfl rfl rfl (by first | rfl | exact congrArg (AV.ref (qZoc v5) 0) (by first | omega | (simp only [qZns, qZnv, qZnw, qZoc, qZof]; omega))) trivial trivial rfl rfl (fun _ => rfl) rfl (by kernel_rfl) (okCb_sound (by kernel_rfl)) (ltN g20) (ltN g23) (Nat.le_of_ble_eq_true (by kernel_rfl)) rfl (by simp only [List.length_set, nsA_set, qZns, qZnv, qZnw, qZnx, qZny, qZoc, qZod, qZoe, qZof, qZn6, qZn7, qZna, qZne]) ?_
      change OpsW _ _ _ _ ((60, .ref (qZoc v5) 0 (0 + v11.toNat * 1)) :: (qZne v5 v8 v10 v11)) ((qZn6 v5 v8 v9 v10 v11) ++ fmsH (qZnt v5 v8 v10 v11)) _
      refine OpsW.sg 0 [1, 2, 3, 4, 5] (qZna v5 v11) ?_
      refine OpsW.recast (env' := (qZna v5 v11)) (h' := ((qZn6 v5 v8 v9 v10 v11) ++ fmsH (qZnt v5 v8 v10 v11))) (StC.mkF (hc := (qZn6 v5 v8 v9 v10 v11)) (fs := (qZnt v5 v8 v10 v11)) (hc' := (qZn6 v5 v8 v9 v10 v11)) (fs' := (qZnt v5 v8 v10 v11)) rfl [(1, some 1), (2, some 2), (3, some 3), (5030, some 5030), (5031, some 5031)] qZnk rfl (.o rfl (.i4 .nil) (.o rfl (.i4 .nil) (.o rfl (.i2 (.cons (.s rfl) (.cons (.s rfl) .nil))) (.o rfl (nsSameA rfl rfl (by decide) rfl rfl rfl) (.o rfl (nsSameA rfl rfl (by decide) rfl rfl rfl) .nil))))) rfl (.cons rfl (fmSame rfl) (.cons rfl (fmSame rfl) .nil)) (.cons (.r rfl) (.cons (.r rfl) (.cons (.r rfl) (.i2 .nil))))) ?_
      refine OpsW.nil (AW.region ?_)
      obtain ⟨g24, H⟩ := G_some H
      refine OpsW.sq 3 [5, 1, 2, 3, 4] [inR (v11 + 1)] ((5, .int .i64 (v11 + 1)) :: (qZnl v5)) ⟨g24, trivial⟩ ?_
      refine OpsW.nil ?_
      show ∃ y, _ ∧ StC _ _ _ _
      exact ⟨(v8, v9, (qZnr v5 v8 v10 v11), v11 + 1), H, (StC.mkF (hc := (qZn6 v5 v8 v9 v10 v11)) (fs := (qZnt v5 v8 v10 v11)) (hc' := [(1, ⟨0, true, 47, 4, (qZnx v8)⟩), (2, ⟨0, true, 47, 4, (qZny v9)⟩), (3, ⟨0, true, 47, 4, [.int .i64 (qZnr v5 v8 v10 v11).W, .int .i64 (qZnr v5 v8 v10 v11).H, .rsl 5030 0 0 (qZnr v5 v8 v10 v11).Up.length, .rsl 5031 0 0 (qZnr v5 v8 v10 v11).Down.length]⟩), (5030, nsA 0 61 15030 (qZnr v5 v8 v10 v11).Up), (5031, nsA 0 61 15031 (qZnr v5 v8 v10 v11).Down)]) (fs' := [fmA 15030 4 1 eB (qZnr v5 v8 v10 v11).Up, fmA 15031 4 1 eB (qZnr v5 v8 v10 v11).Down]) rfl [(1, some 1), (2, some 2), (3, some 3), (5030, some 5030), (5031, some 5031)] qZnk rfl (.o rfl (.i4 .nil) (.o rfl (.i4 .nil) (.o rfl (.i2 (.cons (.s rfl) (.cons (.s rfl) .nil))) (.o rfl (nsSameA rfl rfl (by decide) rfl rfl rfl) (.o rfl (nsSameA rfl rfl (by decide) rfl rfl rfl) .nil))))) rfl (.cons rfl (fmSame rfl) (.cons rfl (fmSame rfl) .nil)) (.cons (.r rfl) (.cons (.r rfl) (.cons (.r rfl) (.i2 .nil)))))⟩
    replace H := condF c13 H
    refine AW.exit ?_
    refine AW.region ?_
    obtain ⟨g25, H⟩ := G_some H
    refine OpsW.sq 3 [4, 1, 2, 3] [inR (v5 + 1)] [(4, .int .i64 (v5 + 1)), (1, .ref 1 0 0), qZod, qZoe] ⟨g25, trivial⟩ ?_
    refine OpsW.nil ?_
    show ∃ y, _ ∧ StC _ _ _ _
    exact ⟨(v8, v9, v10, v5 + 1), H, (StC.mkF (hc := (qZn8 v8 v9 v10)) (fs := (qZnz v10)) (hc' := (qZn8 v8 v9 v10)) (fs' := (qZnz v10)) rfl [(1, some 1), (2, some 2), (3, some 3), (5030, some 5030), (5031, some 5031)] qZnk rfl (.o rfl (.i4 .nil) (.o rfl (.i4 .nil) (.o rfl (.i2 (.cons (.s rfl) (.cons (.s rfl) .nil))) (.o rfl (nsSameA rfl rfl (by decide) rfl rfl rfl) (.o rfl (nsSameA rfl rfl (by decide) rfl rfl rfl) .nil))))) rfl (.cons rfl (fmSame rfl) (.cons rfl (fmSame rfl) .nil)) (.cons (.r rfl) (.cons (.r rfl) (.cons (.r rfl) (.cons .im .nil)))))⟩
  replace H := condF c7 H
  refine AW.exit ?_
  refine AW.regionSeq (OpsW.sg 1 [61, 2] [(61, .agg (qZo3 v4)), qZod] ?_)
  refine OpsW.store rfl rfl rfl rfl trivial trivial rfl rfl rfl (by kernel_rfl) (okCb_sound (by kernel_rfl)) (Nat.le_of_ble_eq_true (by kernel_rfl)) ?_
  change OpsW _ _ _ _ _ ((qZnp v2 v3 v4) ++ fmsH (qZo1 v4)) _
  refine OpsW.sg 0 [2] [qZod] ?_
  refine OpsW.recast (env' := [qZod]) (h' := ((qZng v4) ++ fmsH (qZo7 v4))) (StC.mkF (hc := (qZnp v2 v3 v4)) (fs := (qZo1 v4)) (hc' := (qZng v4)) (fs' := (qZo7 v4)) rfl [(2, some 2), (5020, some 5030), (5021, some 5031)] [(15020, .same 15030), (15021, .same 15031)] rfl (.o rfl (.i2 (.cons (.s rfl) (.cons (.s rfl) .nil))) (.o rfl (nsSameA rfl rfl (by decide) rfl rfl rfl) (.o rfl (nsSameA rfl rfl (by decide) rfl rfl rfl) .nil))) rfl (.cons rfl (fmSame rfl) (.cons rfl (fmSame rfl) .nil)) (.cons (.r rfl) .nil)) ?_
  refine OpsW.nil ?_
  obtain rfl := Option.some.inj H
  refine AW.recast (env' := [(2, .ref 1000 0 0)]) (h' := ((qZnn v4) ++ fmsH [fmA 11500 4 1 eB v4.Up, fmA 11501 4 1 eB v4.Down])) (StC.mkF (hc := (qZng v4)) (fs := (qZo7 v4)) (hc' := (qZnn v4)) (fs' := [fmA 11500 4 1 eB v4.Up, fmA 11501 4 1 eB v4.Down]) rfl [(1000, some 2), (1500, some 5020), (1501, some 5021)] [(11500, .same 15020), (11501, .same 15021)] rfl (.o rfl (.i2 (.cons (.s rfl) (.cons (.s rfl) .nil))) (.o rfl (nsSameA rfl rfl (by decide) rfl rfl rfl) (.o rfl (nsSameA rfl rfl (by decide) rfl rfl rfl) .nil))) rfl (.cons rfl (fmSame rfl) (.cons rfl (fmSame rfl) .nil)) (.cons (.r rfl) .nil)) ?_
  refine AW.ret ?_
  refine Done.gen rfl (.cell rfl (by kernel_rfl) .nil) ?_
  exact ⟨by kernel_rfl, rfl⟩
theorem f_R25_Turned_ok  {t0 : S_Plate} {r : S_Plate} (H : f_R25_Turned t0 = some r) : QSpec Tryd.prog 22 [.agg [.int .i64 t0.W, .int .i64 t0.H, slA (eL eB) t0.Up, slA (eL eB) t0.Down]] (.agg [.int .i64 r.W, .int .i64 r.H, slA (eL eB) r.Up, slA (eL eB) r.Down]) := by
  exact QSpec.of_ownF (f_R25_Turned_own H) (.agg (.cons .im (.cons .im (.cons (Cst.frzN rfl rfl (fun _ => rfl) rfl rfl rfl) (.cons (Cst.frzN rfl rfl (fun _ => rfl) rfl rfl rfl) .nil)))))
def f_R01_Distance_k1 (loop3 : (Int × Int) → Option Int) (v2 : Int) (v5 : Int) : Option Int :=
  G (inR (v2 + 1)) <|
  loop3 (v5, v2 + 1)
def f_R01_Distance_b1 (t0 : Int) (t1 : Int) (loop3 : (Int × Int) → Option Int) (v1 : Int) (v2 : Int) : Option Int :=
  cond (decide (v2 ≤ 6)) (
    (f_R01_Has t0 v2).bind fun x7 =>
    (f_R01_Has t1 v2).bind fun x8 =>
    cond (x7 != x8) (
      G (inR (v1 + 1)) <|
      f_R01_Distance_k1 loop3 v2 (v1 + 1)) (
      f_R01_Distance_k1 loop3 v2 v1)) (
    some v1)
def f_R01_Distance (t0 : Int) (t1 : Int) : Option Int :=
  iter (fun loop (s : Int × Int) => f_R01_Distance_b1 t0 t1 loop s.1 s.2) 1000000 ((0 : Int), (1 : Int))
section
variable (t0 : Int) (t1 : Int) (v1 : Int) (v2 : Int)
abbrev qZoj : Nat × AV := (0, .int .u8 t0)
abbrev qZok : Nat × AV := (1, .int .u8 t1)
abbrev qZoi : Env := [(qZoj t0), (qZok t1), (5, .int .i64 v1), (6, .int .i64 v2)]
end
theorem f_R01_Distance_ok  {t0 : Int} {t1 : Int} {r : Int} (H : f_R01_Distance t0 t1 = some r) : QSpec Tryd.prog 23 [.int .u8 t0, .int .u8 t1] (.int .i64 r) := by
  refine Spec.of_AW Tryd.func23 rfl (by simp [Tryd.ntmps23]) ?_
  rw [Tryd.ntmps23]
  unfold f_R01_Distance at H
  change AW _ _ _ [(qZoj t0), (qZok t1)] [] _
  refine AW.regionSeq (OpsW.sg 1 [0, 1] [(qZoj t0), (qZok t1)] ?_)
  refine OpsW.nil (AW.regionSeq (OpsW.sg 1 [5, 0, 1] [(5, .int .i64 0), (qZoj t0), (qZok t1)] ?_))
  refine OpsW.nil (AW.seq (AW.regionSeq (OpsW.sg 1 [6, 5, 0, 1] [(6, .int .i64 1), (5, .int .i64 0), (qZoj t0), (qZok t1)] ?_)))
  refine OpsW.nil (AW.block ?_)
  refine AW.iterK (fun loop (s : Int × Int) => f_R01_Distance_b1 t0 t1 loop s.1 s.2) r (fun (s : Int × Int) => [(qZoj t0), (qZok t1), (5, .int .i64 s.1), (6, .int .i64 s.2)]) (fun (s : Int × Int) => []) ?_ 1000000 ((0 : Int), (1 : Int)) H (StC.pure (.i4 .nil))
  intro loop3 s H
  obtain ⟨v1, v2⟩ := s
  change f_R01_Distance_b1 t0 t1 loop3 v1 v2 = some r at H
  unfold f_R01_Distance_b1 at H
  change AW _ _ _ (qZoi t0 t1 v1 v2) [] _
  refine AW.seq (AW.regionSeq (OpsW.sg 2 [8, 0, 1, 5, 6] ((8, .bool (decide (v2 ≤ 6))) :: (qZoi t0 t1 v1 v2)) ?_))
  refine OpsW.nil (AW.cond (b := decide (v2 ≤ 6)) rfl (fun c4 => ?_) (fun c4 => ?_))
  · replace H := condT c4 H
    refine AW.skip ?_
    refine AW.joinK (fun (y : Int) => f_R01_Distance_k1 loop3 v2 y) r (fun (y : Int) => [(qZoj t0), (qZok t1), (5, .int .i64 y), (6, .int .i64 v2)]) (fun (y : Int) => []) ?_ ?_
    · refine AW.block (AW.regionSeq (OpsW.sg 2 [12, 11, 0, 1, 5, 6] ((12, .int .i64 v2) :: (11, .int .u8 t0) :: (qZoi t0 t1 v1 v2)) ?_))
      obtain ⟨x7, hx7, H⟩ := bindS H
      refine OpsW.qcall rfl (by kernel_rfl) rfl rfl (glAll_sound trivial) (.cons (.pur rfl) (.cons (.pur rfl) .nil)) (f_R01_Has_ok hx7) rfl ?_
      refine OpsW.sg 2 [15, 14, 13, 0, 1, 5, 6] ((15, .int .i64 v2) :: (14, .int .u8 t1) :: (13, .bool x7) :: (qZoi t0 t1 v1 v2)) ?_
      obtain ⟨x8, hx8, H⟩ := bindS H
      refine OpsW.qcall rfl (by kernel_rfl) rfl rfl (glAll_sound trivial) (.cons (.pur rfl) (.cons (.pur rfl) .nil)) (f_R01_Has_ok hx8) rfl ?_
      refine OpsW.sg 1 [17, 0, 1, 5, 6] ((17, .bool (x7 != x8)) :: (qZoi t0 t1 v1 v2)) ?_
      refine OpsW.nil (AW.cond (b := x7 != x8) rfl (fun c9 => ?_) (fun c9 => ?_))
      · replace H := condT c9 H
        refine AW.region ?_
        obtain ⟨g10, H⟩ := G_some H
        refine OpsW.sq 3 [5, 0, 1, 6] [inR (v1 + 1)] [(5, .int .i64 (v1 + 1)), (qZoj t0), (qZok t1), (6, .int .i64 v2)] ⟨g10, trivial⟩ ?_
        refine OpsW.nil ?_
        show ∃ y, _ ∧ StC _ _ _ _
        exact ⟨v1 + 1, H, (StC.pure (.i4 .nil))⟩
      replace H := condF c9 H
      refine AW.skip ?_
      show ∃ y, _ ∧ StC _ _ _ _
      exact ⟨v1, H, (StC.pure (.i4 .nil))⟩
    intro v5 H
    change f_R01_Distance_k1 loop3 v2 v5 = some r at H
    unfold f_R01_Distance_k1 at H
    change AW _ _ _ [(qZoj t0), (qZok t1), (5, .int .i64 v5), (6, .int .i64 v2)] [] _
    refine AW.region ?_
    obtain ⟨g6, H⟩ := G_some H
    refine OpsW.sq 3 [6, 0, 1, 5] [inR (v2 + 1)] [(6, .int .i64 (v2 + 1)), (qZoj t0), (qZok t1), (5, .int .i64 v5)] ⟨g6, trivial⟩ ?_
    refine OpsW.nil ?_
    show ∃ y, _ ∧ StC _ _ _ _
    exact ⟨(v5, v2 + 1), H, (StC.pure (.i4 .nil))⟩
  replace H := condF c4 H
  refine AW.exit ?_
  refine AW.regionSeq (OpsW.sg 2 [4] [(4, .int .i64 v1)] ?_)
  refine OpsW.nil ?_
  obtain rfl := Option.some.inj H
  refine AW.recast (env' := [(4, .int .i64 v1)]) (h' := []) (StC.pure (.cons .im .nil)) ?_
  refine AW.ret ?_
  refine Done.gen rfl (.tmp .nil) ?_
  show _ = _
  kernel_rfl
def f_L25_SheetTurns_k1 (loop17 : (Int × Int) → Option Bool) (v16 : Int) (v19 : Int) : Option Bool :=
  G (inR (v16 + 1)) <|
  loop17 (v19, v16 + 1)
def f_L25_SheetTurns_k2 (x2 : S_Plate) (v12 : Int) (loop17 : (Int × Int) → Option Bool) (v16 : Int) (v21 : Int) : Option Bool :=
  G (0 ≤ v12 ∧ v12 < (x2.Down.length : Int)) <|
  G (0 ≤ v16 ∧ v16 < ((x2.Down.getD v12.toNat []).length : Int)) <|
  cond ((x2.Down.getD v12.toNat []).getD v16.toNat false) (
    G (inR (v21 + 1)) <|
    f_L25_SheetTurns_k1 loop17 v16 (v21 + 1)) (
    f_L25_SheetTurns_k1 loop17 v16 v21)
def f_L25_SheetTurns_b1 (x2 : S_Plate) (loop13 : (Int × Int) → Option Bool) (v12 : Int) (loop17 : (Int × Int) → Option Bool) (v15 : Int) (v16 : Int) : Option Bool :=
  cond (decide (v16 < x2.W)) (
    G (0 ≤ v12 ∧ v12 < (x2.Up.length : Int)) <|
    G (0 ≤ v16 ∧ v16 < ((x2.Up.getD v12.toNat []).length : Int)) <|
    cond ((x2.Up.getD v12.toNat []).getD v16.toNat false) (
      G (inR (v15 + 1)) <|
      f_L25_SheetTurns_k2 x2 v12 loop17 v16 (v15 + 1)) (
      f_L25_SheetTurns_k2 x2 v12 loop17 v16 v15)) (
    G (inR (v12 + 1)) <|
    loop13 (v15, v12 + 1))
def f_L25_SheetTurns_b2 (x4 : List (List Int)) (x5 : List (List Int)) (v32 : Int) (loop40 : (Int × Int) → Option Bool) (v39 : Int) (loop44 : (Int × Int) → Option Bool) (v42 : Int) (v43 : Int) : Option Bool :=
  G (0 ≤ v39 ∧ v39 < (([x4, x5].getD v32.toNat []).length : Int)) <|
  cond (decide (v43 < ((([x4, x5].getD v32.toNat []).getD v39.toNat []).length : Int))) (
    G (0 ≤ v43 ∧ v43 < ((([x4, x5].getD v32.toNat []).getD v39.toNat []).length : Int)) <|
    (f_R01_Distance ((([x4, x5].getD v32.toNat []).getD v39.toNat []).getD v43.toNat 0) (0 : Int)).bind fun x48 =>
    G (inR (v42 - x48)) <|
    G (inR (v43 + 1)) <|
    loop44 (v42 - x48, v43 + 1)) (
    G (inR (v39 + 1)) <|
    loop40 (v42, v39 + 1))
def f_L25_SheetTurns_b3 (x4 : List (List Int)) (x5 : List (List Int)) (loop33 : (Int × Int) → Option Bool) (v32 : Int) (loop40 : (Int × Int) → Option Bool) (v38 : Int) (v39 : Int) : Option Bool :=
  cond (decide (v39 < (([x4, x5].getD v32.toNat []).length : Int))) (
    iter (fun loop (s : Int × Int) => f_L25_SheetTurns_b2 x4 x5 v32 loop40 v39 loop s.1 s.2) 1000000 (v38, (0 : Int))) (
    G (inR (v32 + 1)) <|
    loop33 (v38, v32 + 1))
def f_L25_SheetTurns_b4 (x1 : Bool) (x4 : List (List Int)) (x5 : List (List Int)) (loop33 : (Int × Int) → Option Bool) (v31 : Int) (v32 : Int) : Option Bool :=
  cond (decide (v32 < 2)) (
    G (0 ≤ v32 ∧ v32 < 2) <|
    G ([x4, x5].length = 2) <|
    cond (decide (40 < (([x4, x5].getD v32.toNat []).length : Int))) (
      some false) (
      iter (fun loop (s : Int × Int) => f_L25_SheetTurns_b3 x4 x5 loop33 v32 loop s.1 s.2) 1000000 (v31, (0 : Int)))) (
    some (cond x1 (v31 == 0) false))
def f_L25_SheetTurns_b5 (x1 : Bool) (x2 : S_Plate) (x4 : List (List Int)) (x5 : List (List Int)) (loop13 : (Int × Int) → Option Bool) (v11 : Int) (v12 : Int) : Option Bool :=
  cond (decide (v12 < x2.H)) (
    iter (fun loop (s : Int × Int) => f_L25_SheetTurns_b1 x2 loop13 v12 loop s.1 s.2) 1000000 (v11, (0 : Int))) (
    iter (fun loop (s : Int × Int) => f_L25_SheetTurns_b4 x1 x4 x5 loop s.1 s.2) 1000000 (v11, (0 : Int)))
def f_L25_SheetTurns (t0 : S_Raw) (t1 : List (List Int)) : Option Bool :=
  (f_L25_sanity).bind fun x1 =>
  (f_R25_Plate t0 t1).bind fun x2 =>
  (f_R25_Turned x2).bind fun x3 =>
  (f_sheet_Front x2).bind fun x4 =>
  (f_sheet_Back x2).bind fun x5 =>
  (f_sheet_Front x3).bind fun x6 =>
  (f_R25_SamePage x6 x5).bind fun x7 =>
  (cond (!(!x7)) (f_sheet_Back x3) (some [])).bind fun x8 =>
  (cond (!(!x7)) (f_R25_SamePage x8 x4) (some false)).bind fun x9 =>
  cond (cond (!x7) true (!x9)) (
    some false) (
    iter (fun loop (s : Int × Int) => f_L25_SheetTurns_b5 x1 x2 x4 x5 loop s.1 s.2) 1000000 ((0 : Int), (0 : Int)))
section
variable (t0 : S_Raw) (v11 : Int) (v12 : Int) (v15 : Int) (v16 : Int) (v21 : Int) (v31 : Int) (v32 : Int) (v38 : Int) (v39 : Int) (v42 : Int) (v43 : Int) (x1 : Bool) (x2 : S_Plate) (x3 : S_Plate) (x4 : List (List Int)) (x5 : List (List Int))
abbrev qZp0 : List AV := [.int .u8 t0.W, .int .u8 t0.H, slA (eL (eI .u8)) t0.Front, slA (eL (eI .u8)) t0.Back, .int .u8 t0.Head.Width, .int .u16 t0.Head.N, .int .u8 t0.Head.K, .bool t0.Head.Back, .int .u16 t0.Head.Ink, .int .u8 t0.Head.Part]
abbrev qZp1 : List AV := [.int .i64 x2.W, .int .i64 x2.H, slA (eL eB) x2.Up, slA (eL eB) x2.Down]
abbrev qZp2 := [x4, x5].getD v32.toNat []
abbrev qZp3 : Nat × AV := (9, slA (eL (eI .u8)) x5)
abbrev qZp4 : Nat × AV := (8, slA (eL (eI .u8)) x4)
abbrev qZp5 : List AV := [.int .i64 x3.W, .int .i64 x3.H, slA (eL eB) x3.Up, slA (eL eB) x3.Down]
abbrev qZp6 : Nat × AV := (13, .ref 13 0 0)
abbrev qZp7 := (qZp2 v32 x4 x5).getD v39.toNat []
abbrev qZp8 : Nat × AV := (6, .ref 6 0 0)
abbrev qZp9 := x2.Down.getD v12.toNat []
abbrev qZpa : List AV := [.int .i64 0, .int .i64 0, .im (.val (.slice none 0 0)), .im (.val (.slice none 0 0))]
abbrev qZpb := x2.Up.getD v12.toNat []
abbrev qZpc := ((qZp2 v32 x4 x5).length : Int)
abbrev qZpd := eL (eL (eI .u8))
abbrev qZpe := slA (eL (eI .u8)) (qZp2 v32 x4 x5)
abbrev qZpf : Nat × AV := (14, .int .i64 v32)
abbrev qZol : Hp := [(6, ⟨0, true, 47, 4, (qZp1 x2)⟩)]
abbrev qZom : Env := [(5, .bool x1), (10, .int .i64 v42), qZp6, (qZpf v32), (15, .int .i64 v39), (16, .int .i64 v43)]
abbrev qZon : Hp := [(2, ⟨0, true, 27, 10, (qZp0 t0)⟩)]
abbrev qZoo : Env := [(5, .bool x1), qZp8, (qZp4 x4), (qZp3 x5), (10, .int .i64 v15), (11, .int .i64 v12), (12, .int .i64 v16)]
abbrev qZop : Env := [(5, .bool x1), qZp8, (qZp4 x4), (qZp3 x5), (10, .int .i64 v21), (11, .int .i64 v12), (12, .int .i64 v16)]
abbrev qZoq : Hp := [(13, ⟨0, true, 62, 2, ([x4, x5].flatMap qZpd).map .im⟩)]
abbrev qZor : Env := [qZp8, (5, .bool x1)]
abbrev qZos : Env := [(5, .bool x1), (10, .int .i64 v31), qZp6, (qZpf v32)]
abbrev qZot : Env := [(5, .bool x1), (10, .int .i64 v38), qZp6, (qZpf v32), (15, .int .i64 v39)]
abbrev qZou : Env := [(5, .bool x1), qZp8, (qZp4 x4), (qZp3 x5), (10, .int .i64 v11), (11, .int .i64 v12)]
abbrev qZov : Env := (qZp3 x5) :: (qZp4 x4) :: (qZor x1)
abbrev qZow : Env := (qZp4 x4) :: (7, .ref 7 0 0) :: (qZor x1)
abbrev qZox : Env := [(11, .int .i64 v12), (12, .int .i64 v16)]
abbrev qZoy : Env := [qZp6, (5, .bool x1), (10, .int .i64 v11)]
abbrev qZoz : Env := (5, .bool x1) :: qZp8 :: (qZp4 x4) :: (qZp3 x5) :: (qZox v12 v16)
end
theorem f_L25_SheetTurns_ok  {t0 : S_Raw} {t1 : List (List Int)} {r : Bool} (H : f_L25_SheetTurns t0 t1 = some r) : QSpec Tryd.prog 6 [.agg [.int .u8 t0.W, .int .u8 t0.H, slA (eL (eI .u8)) t0.Front, slA (eL (eI .u8)) t0.Back, .int .u8 t0.Head.Width, .int .u16 t0.Head.N, .int .u8 t0.Head.K, .bool t0.Head.Back, .int .u16 t0.Head.Ink, .int .u8 t0.Head.Part], slA eA65 t1] (.bool r) := by
  refine Spec.of_AW Tryd.func6 rfl (by simp [Tryd.ntmps6]) ?_
  rw [Tryd.ntmps6]
  unfold f_L25_SheetTurns at H
  change AW _ _ _ [(0, .agg (qZp0 t0)), (1, slA eA65 t1)] [] _
  refine AW.regionSeq (OpsW.box rfl rfl rfl 2 rfl (okCb_sound (by kernel_rfl)) ?_)
  change OpsW _ _ _ _ _ (qZon t0) _
  refine OpsW.sg 1 [2, 1] [(2, .ref 2 0 0), (1, slA eA65 t1)] ?_
  refine OpsW.recast (env' := [(2, .ref 2 0 0), (1, slA eA65 t1)]) (h' := (qZon t0)) (StC.mk (phi [(2, some 2)]) (.o rfl (.i9 (.cons .im .nil)) .nil) rfl (.cons (.r rfl) (.cons .im .nil))) ?_
  refine OpsW.nil (AW.regionSeq ?_)
  obtain ⟨x1, hx1, H⟩ := bindS H
  refine OpsW.qcall rfl (by kernel_rfl) rfl rfl (glAll_sound trivial) .nil (f_L25_sanity_ok hx1) rfl ?_
  refine OpsW.sg 1 [5, 2, 1] [(5, .bool x1), (2, .ref 2 0 0), (1, slA eA65 t1)] ?_
  refine OpsW.nil (AW.regionSeq (OpsW.sg 2 [19, 18, 5] [(19, slA eA65 t1), (18, .agg (qZp0 t0)), (5, .bool x1)] ?_))
  obtain ⟨x2, hx2, H⟩ := bindS H
  refine OpsW.qcall rfl (by kernel_rfl) rfl rfl (glAll_sound trivial) (.cons (.pur rfl) (.cons (.pur rfl) .nil)) (f_R25_Plate_ok hx2) rfl ?_
  refine OpsW.alloc' rfl rfl rfl 6 rfl (by kernel_rfl : zc Tryd.prog 47 = some [.int .i64 0, .int .i64 0, .slice none 0 0, .slice none 0 0]) (by kernel_rfl) ?_
  refine OpsW.store rfl rfl rfl rfl trivial trivial rfl rfl rfl (by kernel_rfl) (okCb_sound (by kernel_rfl)) (Nat.le_of_ble_eq_true (by kernel_rfl)) ?_
  change OpsW _ _ _ _ _ ((6, ⟨0, true, 47, 4, (qZp1 x2)⟩) :: (6, ⟨0, true, 47, 4, qZpa⟩) :: (qZon t0)) _
  refine OpsW.sg 0 [6, 5] (qZor x1) ?_
  refine OpsW.recast (env' := (qZor x1)) (h' := (qZol x2)) (StC.mk (phi [(6, some 6)]) (.o rfl (.i4 .nil) .nil) rfl (.cons (.r rfl) (.cons .im .nil))) ?_
  refine OpsW.nil (AW.regionSeq (OpsW.sg 1 [21, 6, 5] ((21, .agg (qZp1 x2)) :: (qZor x1)) ?_))
  obtain ⟨x3, hx3, H⟩ := bindS H
  refine OpsW.qcall rfl (by kernel_rfl) rfl rfl (glAll_sound trivial) (.cons (.pur rfl) .nil) (f_R25_Turned_ok hx3) rfl ?_
  refine OpsW.alloc' rfl rfl rfl 7 rfl (by kernel_rfl : zc Tryd.prog 47 = some [.int .i64 0, .int .i64 0, .slice none 0 0, .slice none 0 0]) (by kernel_rfl) ?_
  refine OpsW.store rfl rfl rfl rfl trivial trivial rfl rfl rfl (by kernel_rfl) (okCb_sound (by kernel_rfl)) (Nat.le_of_ble_eq_true (by kernel_rfl)) ?_
  change OpsW _ _ _ _ _ ((7, ⟨0, true, 47, 4, (qZp5 x3)⟩) :: (7, ⟨0, true, 47, 4, qZpa⟩) :: (qZol x2)) _
  refine OpsW.sg 0 [7, 6, 5] ((7, .ref 7 0 0) :: (qZor x1)) ?_
  refine OpsW.recast (env' := ((7, .ref 7 0 0) :: (qZor x1))) (h' := [(6, ⟨0, true, 47, 4, (qZp1 x2)⟩), (7, ⟨0, true, 47, 4, (qZp5 x3)⟩)]) (StC.mk (phi [(6, some 6), (7, some 7)]) (.o rfl (.i4 .nil) (.o rfl (.i4 .nil) .nil)) rfl (.cons (.r rfl) (.cons (.r rfl) (.cons .im .nil)))) ?_
  refine OpsW.nil (AW.regionSeq (OpsW.sg 1 [23, 7, 6, 5] ((23, .agg (qZp1 x2)) :: (7, .ref 7 0 0) :: (qZor x1)) ?_))
  obtain ⟨x4, hx4, H⟩ := bindS H
  refine OpsW.qcall rfl (by kernel_rfl) rfl rfl (glAll_sound trivial) (.cons (.pur rfl) .nil) (f_sheet_Front_ok hx4) rfl ?_
  refine OpsW.sg 1 [8, 7, 6, 5] (qZow x1 x4) ?_
  refine OpsW.nil (AW.regionSeq (OpsW.sg 1 [25, 8, 7, 6, 5] ((25, .agg (qZp1 x2)) :: (qZow x1 x4)) ?_))
  obtain ⟨x5, hx5, H⟩ := bindS H
  refine OpsW.qcall rfl (by kernel_rfl) rfl rfl (glAll_sound trivial) (.cons (.pur rfl) .nil) (f_sheet_Back_ok hx5) rfl ?_
  refine OpsW.sg 1 [9, 8, 7, 6, 5] ((qZp3 x5) :: (qZow x1 x4)) ?_
  refine OpsW.nil (AW.seq (AW.regionSeq (OpsW.sg 1 [27, 9, 8, 7, 6, 5] ((27, .agg (qZp5 x3)) :: (qZp3 x5) :: (qZow x1 x4)) ?_)))
  obtain ⟨x6, hx6, H⟩ := bindS H
  refine OpsW.qcall rfl (by kernel_rfl) rfl rfl (glAll_sound trivial) (.cons (.pur rfl) .nil) (f_sheet_Front_ok hx6) rfl ?_
  refine OpsW.sg 1 [29, 28, 9, 8, 7, 6, 5] ((29, slA (eL (eI .u8)) x5) :: (28, slA (eL (eI .u8)) x6) :: (qZp3 x5) :: (qZow x1 x4)) ?_
  obtain ⟨x7, hx7, H⟩ := bindS H
  refine OpsW.qcall rfl (by kernel_rfl) rfl rfl (glAll_sound trivial) (.cons (.pur rfl) (.cons (.pur rfl) .nil)) (f_R25_SamePage_ok hx7) rfl ?_
  refine OpsW.sg 3 [33, 32, 9, 8, 6, 5] ((33, .cnd (!(!x7)) (.agg (qZp5 x3))) :: (32, .bool (!x7)) :: (qZov x1 x4 x5)) ?_
  obtain ⟨x8, hx8, H⟩ := bindS H
  refine OpsW.gcall (c := !(!x7)) (r := slA (eL (eI .u8)) x8) [] rfl (by kernel_rfl) rfl rfl rfl rfl (fun hc => ⟨glAll_sound ⟨hc, trivial⟩, (.cons (.pur rfl) .nil), f_sheet_Back_ok (condT hc hx8), .inl ⟨rfl, rfl⟩⟩) ?_
  refine OpsW.sg 1 [35, 34, 32, 9, 8, 6, 5] ((35, .cnd (!(!x7)) (slA (eL (eI .u8)) x4)) :: (34, .cnd (!(!x7)) (slA (eL (eI .u8)) x8)) :: (32, .bool (!x7)) :: (qZov x1 x4 x5)) ?_
  obtain ⟨x9, hx9, H⟩ := bindS H
  refine OpsW.gcall (c := !(!x7)) (r := .bool x9) [] rfl (by kernel_rfl) rfl rfl rfl rfl (fun hc => ⟨glAll_sound ⟨hc, hc, trivial⟩, (.cons (.pur rfl) (.cons (.pur rfl) .nil)), f_R25_SamePage_ok (condT hc hx9), .inl ⟨rfl, rfl⟩⟩) ?_
  refine OpsW.sq 2 [38, 9, 8, 6, 5] [(!(!x7)) = true → (!(!x7)) = true, (!x7) = false → (!(!x7)) = true] ((38, .bool (cond (!x7) true (!x9))) :: (qZov x1 x4 x5)) ⟨(fun h => h), (fun h => by first | exact h | (simpa using h) | grind), trivial⟩ ?_
  refine OpsW.nil (AW.cond (b := cond (!x7) true (!x9)) rfl (fun c10 => ?_) (fun c10 => ?_))
  · replace H := condT c10 H
    refine AW.regionSeq (OpsW.sg 1 [4] [(4, .bool false)] ?_)
    refine OpsW.nil ?_
    obtain rfl := Option.some.inj H
    refine AW.recast (env' := [(4, .bool false)]) (h' := []) (StC.pure (.cons .im .nil)) ?_
    refine AW.ret ?_
    try simp only [Ex.then, Ex.inBlock, Ex.noGoto, Ex.jump, reduceIte, Nat.reduceEqDiff, reduceCtorEq]
    refine Done.gen rfl (.tmp .nil) ?_
    show _ = _
    kernel_rfl
  replace H := condF c10 H
  refine AW.skip (AW.regionSeq (OpsW.sg 1 [10, 9, 8, 6, 5] ((10, .int .i64 0) :: (qZov x1 x4 x5)) ?_))
  refine OpsW.nil (AW.seq (AW.regionSeq (OpsW.sg 1 [11, 10, 9, 8, 6, 5] ((11, .int .i64 0) :: (10, .int .i64 0) :: (qZov x1 x4 x5)) ?_)))
  refine OpsW.nil (AW.block ?_)
  refine AW.iterK (fun loop (s : Int × Int) => f_L25_SheetTurns_b5 x1 x2 x4 x5 loop s.1 s.2) r (fun (s : Int × Int) => [(5, .bool x1), qZp8, (qZp4 x4), (qZp3 x5), (10, .int .i64 s.1), (11, .int .i64 s.2)]) (fun (s : Int × Int) => (qZol x2)) ?_ 1000000 ((0 : Int), (0 : Int)) H (StC.mk (phi [(6, some 6)]) (.o rfl (.i4 .nil) .nil) rfl (.cons .im (.cons (.r rfl) (.i4 .nil))))
  intro loop13 s H
  obtain ⟨v11, v12⟩ := s
  change f_L25_SheetTurns_b5 x1 x2 x4 x5 loop13 v11 v12 = some r at H
  unfold f_L25_SheetTurns_b5 at H
  change AW _ _ _ (qZou v11 v12 x1 x4 x5) (qZol x2) _
  refine AW.seq (AW.regionSeq (OpsW.sg 4 [42, 5, 6, 8, 9, 10, 11] ((42, .bool (decide (v12 < x2.H))) :: (qZou v11 v12 x1 x4 x5)) ?_))
  refine OpsW.nil (AW.cond (b := decide (v12 < x2.H)) rfl (fun c14 => ?_) (fun c14 => ?_))
  · replace H := condT c14 H
    refine AW.skip (AW.seq (AW.block (AW.regionSeq (OpsW.sg 1 [12, 5, 6, 8, 9, 10, 11] ((12, .int .i64 0) :: (qZou v11 v12 x1 x4 x5)) ?_))))
    refine OpsW.nil (AW.block ?_)
    refine AW.iterK (fun loop (s : Int × Int) => f_L25_SheetTurns_b1 x2 loop13 v12 loop s.1 s.2) r (fun (s : Int × Int) => [(5, .bool x1), qZp8, (qZp4 x4), (qZp3 x5), (10, .int .i64 s.1), (11, .int .i64 v12), (12, .int .i64 s.2)]) (fun (s : Int × Int) => (qZol x2)) ?_ 1000000 (v11, (0 : Int)) H (StC.mk (phi [(6, some 6)]) (.o rfl (.i4 .nil) .nil) rfl (.cons .im (.cons (.r rfl) (.i5 .nil))))
    intro loop17 s H
    obtain ⟨v15, v16⟩ := s
    change f_L25_SheetTurns_b1 x2 loop13 v12 loop17 v15 v16 = some r at H
    unfold f_L25_SheetTurns_b1 at H
    change AW _ _ _ (qZoo v12 v15 v16 x1 x4 x5) (qZol x2) _
    refine AW.seq (AW.regionSeq (OpsW.sg 4 [48, 5, 6, 8, 9, 10, 11, 12] ((48, .bool (decide (v16 < x2.W))) :: (qZoo v12 v15 v16 x1 x4 x5)) ?_))
    refine OpsW.nil (AW.cond (b := decide (v16 < x2.W)) rfl (fun c18 => ?_) (fun c18 => ?_))
    · replace H := condT c18 H
      refine AW.skip ?_
      refine AW.joinK (fun (y : Int) => f_L25_SheetTurns_k1 loop17 v16 y) r (fun (y : Int) => ((5, .bool x1) :: qZp8 :: (qZp4 x4) :: (qZp3 x5) :: (10, .int .i64 y) :: (qZox v12 v16))) (fun (y : Int) => (qZol x2)) ?_ ?_
      · refine AW.block ?_
        refine AW.joinK (fun (y : Int) => f_L25_SheetTurns_k2 x2 v12 loop17 v16 y) r (fun (y : Int) => ((5, .bool x1) :: qZp8 :: (qZp4 x4) :: (qZp3 x5) :: (10, .int .i64 y) :: (qZox v12 v16))) (fun (y : Int) => (qZol x2)) ?_ ?_
        · refine AW.regionSeq ?_
          obtain ⟨g26, H⟩ := G_some H
          refine OpsW.sq 4 [54, 5, 6, 8, 9, 10, 11, 12] [0 ≤ v12 ∧ v12 < (x2.Up.length : Int)] ((54, .ipt (x2.Up.flatMap (eL eB)) (v12.toNat * 1)) :: (qZoo v12 v15 v16 x1 x4 x5)) ⟨g26, trivial⟩ ?_
          refine OpsW.asU (slA eB (qZpb v12 x2)) rfl rfl (T.load rfl trivial (by kernel_rfl) (fm_cell0 (eL eB) 1 (fun _ => rfl) x2.Up [] v12.toNat (ltN g26) (fun a => .sl (a.flatMap eB) a.length) (fun _ => rfl))) ?_
          obtain ⟨g27, H⟩ := G_some H
          refine OpsW.sq 2 [57, 5, 6, 8, 9, 10, 11, 12] [0 ≤ v16 ∧ v16 < ((qZpb v12 x2).length : Int)] ((57, .ipt ((qZpb v12 x2).flatMap eB) (v16.toNat * 1)) :: (qZoo v12 v15 v16 x1 x4 x5)) ⟨g27, trivial⟩ ?_
          refine OpsW.asU (.bool ((qZpb v12 x2).getD v16.toNat false)) rfl rfl (T.load rfl trivial (by kernel_rfl) (fm_cell0 eB 1 (fun _ => rfl) (qZpb v12 x2) false v16.toNat (ltN g27) (fun a => .val (.bool a)) (fun _ => rfl))) ?_
          refine OpsW.sg 0 [58, 5, 6, 8, 9, 10, 11, 12] ((58, .bool ((qZpb v12 x2).getD v16.toNat false)) :: (qZoo v12 v15 v16 x1 x4 x5)) ?_
          refine OpsW.nil (AW.cond (b := (qZpb v12 x2).getD v16.toNat false) rfl (fun c28 => ?_) (fun c28 => ?_))
          · replace H := condT c28 H
            refine AW.region ?_
            obtain ⟨g29, H⟩ := G_some H
            refine OpsW.sq 3 [10, 5, 6, 8, 9, 11, 12] [inR (v15 + 1)] ((10, .int .i64 (v15 + 1)) :: (qZoz v12 v16 x1 x4 x5)) ⟨g29, trivial⟩ ?_
            refine OpsW.nil ?_
            show ∃ y, _ ∧ StC _ _ _ _
            exact ⟨v15 + 1, H, (StC.mk (phi [(6, some 6)]) (.o rfl (.i4 .nil) .nil) rfl (.cons .im (.cons (.r rfl) (.i5 .nil))))⟩
          replace H := condF c28 H
          refine AW.skip ?_
          show ∃ y, _ ∧ StC _ _ _ _
          exact ⟨v15, H, (StC.mk (phi [(6, some 6)]) (.o rfl (.i4 .nil) .nil) rfl (.cons .im (.cons (.r rfl) (.i5 .nil))))⟩
        intro v21 H
        change f_L25_SheetTurns_k2 x2 v12 loop17 v16 v21 = some r at H
        unfold f_L25_SheetTurns_k2 at H
        change AW _ _ _ (qZop v12 v16 v21 x1 x4 x5) (qZol x2) _
        refine AW.regionSeq ?_
        obtain ⟨g22, H⟩ := G_some H
        refine OpsW.sq 4 [64, 5, 6, 8, 9, 10, 11, 12] [0 ≤ v12 ∧ v12 < (x2.Down.length : Int)] ((64, .ipt (x2.Down.flatMap (eL eB)) (v12.toNat * 1)) :: (qZop v12 v16 v21 x1 x4 x5)) ⟨g22, trivial⟩ ?_
        refine OpsW.asU (slA eB (qZp9 v12 x2)) rfl rfl (T.load rfl trivial (by kernel_rfl) (fm_cell0 (eL eB) 1 (fun _ => rfl) x2.Down [] v12.toNat (ltN g22) (fun a => .sl (a.flatMap eB) a.length) (fun _ => rfl))) ?_
        obtain ⟨g23, H⟩ := G_some H
        refine OpsW.sq 2 [67, 5, 6, 8, 9, 10, 11, 12] [0 ≤ v16 ∧ v16 < ((qZp9 v12 x2).length : Int)] ((67, .ipt ((qZp9 v12 x2).flatMap eB) (v16.toNat * 1)) :: (qZop v12 v16 v21 x1 x4 x5)) ⟨g23, trivial⟩ ?_
        refine OpsW.asU (.bool ((qZp9 v12 x2).getD v16.toNat false)) rfl rfl (T.load rfl trivial (by kernel_rfl) (fm_cell0 eB 1 (fun _ => rfl) (qZp9 v12 x2) false v16.toNat (ltN g23) (fun a => .val (.bool a)) (fun _ => rfl))) ?_
        refine OpsW.sg 0 [68, 5, 6, 8, 9, 10, 11, 12] ((68, .bool ((qZp9 v12 x2).getD v16.toNat false)) :: (qZop v12 v16 v21 x1 x4 x5)) ?_
        refine OpsW.nil (AW.cond (b := (qZp9 v12 x2).getD v16.toNat false) rfl (fun c24 => ?_) (fun c24 => ?_))
        · replace H := condT c24 H
          refine AW.region ?_
          obtain ⟨g25, H⟩ := G_some H
          refine OpsW.sq 3 [10, 5, 6, 8, 9, 11, 12] [inR (v21 + 1)] ((10, .int .i64 (v21 + 1)) :: (qZoz v12 v16 x1 x4 x5)) ⟨g25, trivial⟩ ?_
          refine OpsW.nil ?_
          show ∃ y, _ ∧ StC _ _ _ _
          exact ⟨v21 + 1, H, (StC.mk (phi [(6, some 6)]) (.o rfl (.i4 .nil) .nil) rfl (.cons .im (.cons (.r rfl) (.i5 .nil))))⟩
        replace H := condF c24 H
        refine AW.skip ?_
        show ∃ y, _ ∧ StC _ _ _ _
        exact ⟨v21, H, (StC.mk (phi [(6, some 6)]) (.o rfl (.i4 .nil) .nil) rfl (.cons .im (.cons (.r rfl) (.i5 .nil))))⟩
      intro v19 H
      change f_L25_SheetTurns_k1 loop17 v16 v19 = some r at H
      unfold f_L25_SheetTurns_k1 at H
      change AW _ _ _ ((5, .bool x1) :: qZp8 :: (qZp4 x4) :: (qZp3 x5) :: (10, .int .i64 v19) :: (qZox v12 v16)) (qZol x2) _
      refine AW.region ?_
      obtain ⟨g20, H⟩ := G_some H
      refine OpsW.sq 3 [12, 5, 6, 8, 9, 10, 11] [inR (v16 + 1)] [(12, .int .i64 (v16 + 1)), (5, .bool x1), qZp8, (qZp4 x4), (qZp3 x5), (10, .int .i64 v19), (11, .int .i64 v12)] ⟨g20, trivial⟩ ?_
      refine OpsW.nil ?_
      show ∃ y, _ ∧ StC _ _ _ _
      exact ⟨(v19, v16 + 1), H, (StC.mk (phi [(6, some 6)]) (.o rfl (.i4 .nil) .nil) rfl (.cons .im (.cons (.r rfl) (.i5 .nil))))⟩
    replace H := condF c18 H
    refine AW.exit ?_
    refine AW.region ?_
    obtain ⟨g30, H⟩ := G_some H
    refine OpsW.sq 3 [11, 5, 6, 8, 9, 10] [inR (v12 + 1)] [(11, .int .i64 (v12 + 1)), (5, .bool x1), qZp8, (qZp4 x4), (qZp3 x5), (10, .int .i64 v15)] ⟨g30, trivial⟩ ?_
    refine OpsW.nil ?_
    show ∃ y, _ ∧ StC _ _ _ _
    exact ⟨(v15, v12 + 1), H, (StC.mk (phi [(6, some 6)]) (.o rfl (.i4 .nil) .nil) rfl (.cons .im (.cons (.r rfl) (.i4 .nil))))⟩
  replace H := condF c14 H
  refine AW.exit ?_
  refine AW.regionSeq (OpsW.sg 3 [73, 5, 10] [(73, .agg [slA (eL (eI .u8)) x4, slA (eL (eI .u8)) x5]), (5, .bool x1), (10, .int .i64 v11)] ?_)
  refine OpsW.alloc' rfl rfl rfl 13 rfl (by kernel_rfl : zc Tryd.prog 62 = some [.slice none 0 0, .slice none 0 0]) (by kernel_rfl) ?_
  refine OpsW.store rfl rfl rfl rfl trivial trivial rfl rfl rfl (by kernel_rfl) (okCb_sound (by kernel_rfl)) (Nat.le_of_ble_eq_true (by kernel_rfl)) ?_
  change OpsW _ _ _ _ _ ((13, ⟨0, true, 62, 2, ([x4, x5].flatMap qZpd).map .im⟩) :: (13, ⟨0, true, 62, 2, [.im (.val (.slice none 0 0)), .im (.val (.slice none 0 0))]⟩) :: (qZol x2)) _
  refine OpsW.sg 0 [13, 5, 10] (qZoy v11 x1) ?_
  refine OpsW.recast (env' := (qZoy v11 x1)) (h' := (qZoq x4 x5)) (StC.mk (phi [(13, some 13)]) (.o rfl (CstL.ims _) .nil) rfl (.cons (.r rfl) (.i2 .nil))) ?_
  refine OpsW.nil (AW.seq (AW.regionSeq (OpsW.sg 1 [14, 13, 5, 10] ((14, .int .i64 0) :: (qZoy v11 x1)) ?_)))
  refine OpsW.nil (AW.block ?_)
  refine AW.iterK (fun loop (s : Int × Int) => f_L25_SheetTurns_b4 x1 x4 x5 loop s.1 s.2) r (fun (s : Int × Int) => [(5, .bool x1), (10, .int .i64 s.1), qZp6, (14, .int .i64 s.2)]) (fun (s : Int × Int) => (qZoq x4 x5)) ?_ 1000000 (v11, (0 : Int)) H (StC.mk (phi [(13, some 13)]) (.o rfl (CstL.ims _) .nil) rfl (.i2 (.cons (.r rfl) (.cons .im .nil))))
  intro loop33 s H
  obtain ⟨v31, v32⟩ := s
  change f_L25_SheetTurns_b4 x1 x4 x5 loop33 v31 v32 = some r at H
  unfold f_L25_SheetTurns_b4 at H
  change AW _ _ _ (qZos v31 v32 x1) (qZoq x4 x5) _
  refine AW.seq (AW.regionSeq (OpsW.sg 2 [75, 5, 10, 13, 14] ((75, .bool (decide (v32 < 2))) :: (qZos v31 v32 x1)) ?_))
  refine OpsW.nil (AW.cond (b := decide (v32 < 2)) rfl (fun c34 => ?_) (fun c34 => ?_))
  · replace H := condT c34 H
    refine AW.skip (AW.seq (AW.block (AW.seq (AW.regionSeq ?_))))
    obtain ⟨g35, H⟩ := G_some H
    refine OpsW.sq 2 [79, 5, 10, 13, 14] [0 ≤ v32 ∧ v32 < 2] ((79, .ref 13 0 (0 + v32.toNat * 1)) :: (qZos v31 v32 x1)) ⟨g35, trivial⟩ ?_
    obtain ⟨g36, H⟩ := G_some H
    refine OpsW.asU (qZpe v32 x4 x5) rfl rfl (T.loadR rfl trivial (by kernel_rfl) rfl rfl rfl (rt_cell qZpd 1 (fun _ => rfl) [x4, x5] [] v32.toNat (ltA (n := 2) g35 g36) 0 (fun a => .sl (a.flatMap (eL (eI .u8))) a.length) (fun _ => rfl) (by first | omega | (simp only [qZp2, qZpd, qZpe]; omega)))) ?_
    refine OpsW.sg 2 [82, 5, 10, 13, 14] ((82, .bool (decide (40 < (qZpc v32 x4 x5)))) :: (qZos v31 v32 x1)) ?_
    refine OpsW.nil (AW.cond (b := decide (40 < (qZpc v32 x4 x5))) rfl (fun c37 => ?_) (fun c37 => ?_))
    · replace H := condT c37 H
      refine AW.regionSeq (OpsW.sg 1 [4] [(4, .bool false)] ?_)
      refine OpsW.nil ?_
      obtain rfl := Option.some.inj H
      refine AW.recast (env' := [(4, .bool false)]) (h' := []) (StC.pure (.cons .im .nil)) ?_
      refine AW.ret ?_
      try simp only [Ex.then, Ex.inBlock, Ex.noGoto, Ex.jump, reduceIte, Nat.reduceEqDiff, reduceCtorEq]
      refine Done.gen rfl (.tmp .nil) ?_
      show _ = _
      kernel_rfl
    replace H := condF c37 H
    refine AW.skip (AW.regionSeq (OpsW.sg 1 [15, 5, 10, 13, 14] ((15, .int .i64 0) :: (qZos v31 v32 x1)) ?_))
    refine OpsW.nil (AW.block ?_)
    refine AW.iterK (fun loop (s : Int × Int) => f_L25_SheetTurns_b3 x4 x5 loop33 v32 loop s.1 s.2) r (fun (s : Int × Int) => [(5, .bool x1), (10, .int .i64 s.1), qZp6, (qZpf v32), (15, .int .i64 s.2)]) (fun (s : Int × Int) => (qZoq x4 x5)) ?_ 1000000 (v31, (0 : Int)) H (StC.mk (phi [(13, some 13)]) (.o rfl (CstL.ims _) .nil) rfl (.i2 (.cons (.r rfl) (.i2 .nil))))
    intro loop40 s H
    obtain ⟨v38, v39⟩ := s
    change f_L25_SheetTurns_b3 x4 x5 loop33 v32 loop40 v38 v39 = some r at H
    unfold f_L25_SheetTurns_b3 at H
    change AW _ _ _ (qZot v32 v38 v39 x1) (qZoq x4 x5) _
    refine AW.seq (AW.regionSeq (OpsW.sq 3 [85, 83, 5, 10, 13, 14, 15] [0 ≤ v32 ∧ v32 < 2] ((85, .ref 13 0 (0 + v32.toNat * 1)) :: (83, .int .i64 v39) :: (qZot v32 v38 v39 x1)) ⟨g35, trivial⟩ ?_))
    refine OpsW.asU (qZpe v32 x4 x5) rfl rfl (T.loadR rfl trivial (by kernel_rfl) rfl rfl rfl (rt_cell qZpd 1 (fun _ => rfl) [x4, x5] [] v32.toNat (ltA (n := 2) g35 g36) 0 (fun a => .sl (a.flatMap (eL (eI .u8))) a.length) (fun _ => rfl) (by first | omega | (simp only [qZp2, qZpd, qZpe]; omega)))) ?_
    refine OpsW.sg 2 [88, 5, 10, 13, 14, 15] ((88, .bool (decide (v39 < (qZpc v32 x4 x5)))) :: (qZot v32 v38 v39 x1)) ?_
    refine OpsW.nil (AW.cond (b := decide (v39 < (qZpc v32 x4 x5))) rfl (fun c41 => ?_) (fun c41 => ?_))
    · replace H := condT c41 H
      refine AW.skip (AW.seq (AW.block (AW.regionSeq (OpsW.sg 1 [16, 5, 10, 13, 14, 15] ((16, .int .i64 0) :: (qZot v32 v38 v39 x1)) ?_))))
      refine OpsW.nil (AW.block ?_)
      refine AW.iterK (fun loop (s : Int × Int) => f_L25_SheetTurns_b2 x4 x5 v32 loop40 v39 loop s.1 s.2) r (fun (s : Int × Int) => [(5, .bool x1), (10, .int .i64 s.1), qZp6, (qZpf v32), (15, .int .i64 v39), (16, .int .i64 s.2)]) (fun (s : Int × Int) => (qZoq x4 x5)) ?_ 1000000 (v38, (0 : Int)) H (StC.mk (phi [(13, some 13)]) (.o rfl (CstL.ims _) .nil) rfl (.i2 (.cons (.r rfl) (.i3 .nil))))
      intro loop44 s H
      obtain ⟨v42, v43⟩ := s
      change f_L25_SheetTurns_b2 x4 x5 v32 loop40 v39 loop44 v42 v43 = some r at H
      unfold f_L25_SheetTurns_b2 at H
      change AW _ _ _ (qZom v32 v39 v42 v43 x1) (qZoq x4 x5) _
      refine AW.seq (AW.regionSeq (OpsW.sq 3 [93, 91, 5, 10, 13, 14, 15, 16] [0 ≤ v32 ∧ v32 < 2] ((93, .ref 13 0 (0 + v32.toNat * 1)) :: (91, .int .i64 v43) :: (qZom v32 v39 v42 v43 x1)) ⟨g35, trivial⟩ ?_))
      refine OpsW.asU (qZpe v32 x4 x5) rfl rfl (T.loadR rfl trivial (by kernel_rfl) rfl rfl rfl (rt_cell qZpd 1 (fun _ => rfl) [x4, x5] [] v32.toNat (ltA (n := 2) g35 g36) 0 (fun a => .sl (a.flatMap (eL (eI .u8))) a.length) (fun _ => rfl) (by first | omega | (simp only [qZp2, qZpd, qZpe]; omega)))) ?_
      obtain ⟨g45, H⟩ := G_some H
      refine OpsW.sq 2 [96, 91, 5, 10, 13, 14, 15, 16] [0 ≤ v39 ∧ v39 < (qZpc v32 x4 x5)] ((96, .ipt ((qZp2 v32 x4 x5).flatMap (eL (eI .u8))) (v39.toNat * 1)) :: (91, .int .i64 v43) :: (qZom v32 v39 v42 v43 x1)) ⟨g45, trivial⟩ ?_
      refine OpsW.asU (slA (eI .u8) (qZp7 v32 v39 x4 x5)) rfl rfl (T.load rfl trivial (by kernel_rfl) (fm_cell0 (eL (eI .u8)) 1 (fun _ => rfl) (qZp2 v32 x4 x5) [] v39.toNat (ltN g45) (fun a => .sl (a.flatMap (eI .u8)) a.length) (fun _ => rfl))) ?_
      refine OpsW.sg 2 [99, 5, 10, 13, 14, 15, 16] ((99, .bool (decide (v43 < ((qZp7 v32 v39 x4 x5).length : Int)))) :: (qZom v32 v39 v42 v43 x1)) ?_
      refine OpsW.nil (AW.cond (b := decide (v43 < ((qZp7 v32 v39 x4 x5).length : Int))) rfl (fun c46 => ?_) (fun c46 => ?_))
      · replace H := condT c46 H
        refine AW.skip (AW.seq (AW.block (AW.region (OpsW.sq 3 [104, 102, 5, 10, 13, 14, 15, 16] [0 ≤ v32 ∧ v32 < 2] ((104, .ref 13 0 (0 + v32.toNat * 1)) :: (102, .int .i64 v42) :: (qZom v32 v39 v42 v43 x1)) ⟨g35, trivial⟩ ?_))))
        refine OpsW.asU (qZpe v32 x4 x5) rfl rfl (T.loadR rfl trivial (by kernel_rfl) rfl rfl rfl (rt_cell qZpd 1 (fun _ => rfl) [x4, x5] [] v32.toNat (ltA (n := 2) g35 g36) 0 (fun a => .sl (a.flatMap (eL (eI .u8))) a.length) (fun _ => rfl) (by first | omega | (simp only [qZp2, qZp7, qZpd, qZpe]; omega)))) ?_
        refine OpsW.sq 2 [107, 102, 5, 10, 13, 14, 15, 16] [0 ≤ v39 ∧ v39 < (qZpc v32 x4 x5)] ((107, .ipt ((qZp2 v32 x4 x5).flatMap (eL (eI .u8))) (v39.toNat * 1)) :: (102, .int .i64 v42) :: (qZom v32 v39 v42 v43 x1)) ⟨g45, trivial⟩ ?_
        refine OpsW.asU (slA (eI .u8) (qZp7 v32 v39 x4 x5)) rfl rfl (T.load rfl trivial (by kernel_rfl) (fm_cell0 (eL (eI .u8)) 1 (fun _ => rfl) (qZp2 v32 x4 x5) [] v39.toNat (ltN g45) (fun a => .sl (a.flatMap (eI .u8)) a.length) (fun _ => rfl))) ?_
        obtain ⟨g47, H⟩ := G_some H
        refine OpsW.sq 2 [110, 102, 5, 10, 13, 14, 15, 16] [0 ≤ v43 ∧ v43 < ((qZp7 v32 v39 x4 x5).length : Int)] ((110, .ipt ((qZp7 v32 v39 x4 x5).flatMap (eI .u8)) (v43.toNat * 1)) :: (102, .int .i64 v42) :: (qZom v32 v39 v42 v43 x1)) ⟨g47, trivial⟩ ?_
        refine OpsW.asU (.int .u8 ((qZp7 v32 v39 x4 x5).getD v43.toNat 0)) rfl rfl (T.load rfl trivial (by kernel_rfl) (fm_cell0 (eI .u8) 1 (fun _ => rfl) (qZp7 v32 v39 x4 x5) (0 : Int) v43.toNat (ltN g47) (fun a => .val (.int .u8 a)) (fun _ => rfl))) ?_
        obtain ⟨x48, hx48, H⟩ := bindS H
        refine OpsW.qcall rfl (by kernel_rfl) rfl rfl (glAll_sound trivial) (.cons (.pur rfl) (.cons (.pur rfl) .nil)) (f_R01_Distance_ok hx48) rfl ?_
        obtain ⟨g49, H⟩ := G_some H
        refine OpsW.sq 2 [10, 5, 13, 14, 15, 16] [inR (v42 - x48)] [(10, .int .i64 (v42 - x48)), (5, .bool x1), qZp6, (qZpf v32), (15, .int .i64 v39), (16, .int .i64 v43)] ⟨g49, trivial⟩ ?_
        refine OpsW.nil (AW.region ?_)
        obtain ⟨g50, H⟩ := G_some H
        refine OpsW.sq 3 [16, 10, 5, 13, 14, 15] [inR (v43 + 1)] [(16, .int .i64 (v43 + 1)), (10, .int .i64 (v42 - x48)), (5, .bool x1), qZp6, (qZpf v32), (15, .int .i64 v39)] ⟨g50, trivial⟩ ?_
        refine OpsW.nil ?_
        show ∃ y, _ ∧ StC _ _ _ _
        exact ⟨(v42 - x48, v43 + 1), H, (StC.mk (phi [(13, some 13)]) (.o rfl (CstL.ims _) .nil) rfl (.i2 (.cons (.r rfl) (.i3 .nil))))⟩
      replace H := condF c46 H
      refine AW.exit ?_
      refine AW.region ?_
      obtain ⟨g51, H⟩ := G_some H
      refine OpsW.sq 3 [15, 5, 10, 13, 14] [inR (v39 + 1)] [(15, .int .i64 (v39 + 1)), (5, .bool x1), (10, .int .i64 v42), qZp6, (qZpf v32)] ⟨g51, trivial⟩ ?_
      refine OpsW.nil ?_
      show ∃ y, _ ∧ StC _ _ _ _
      exact ⟨(v42, v39 + 1), H, (StC.mk (phi [(13, some 13)]) (.o rfl (CstL.ims _) .nil) rfl (.i2 (.cons (.r rfl) (.i2 .nil))))⟩
    replace H := condF c41 H
    refine AW.exit ?_
    refine AW.region ?_
    obtain ⟨g52, H⟩ := G_some H
    refine OpsW.sq 3 [14, 5, 10, 13] [inR (v32 + 1)] [(14, .int .i64 (v32 + 1)), (5, .bool x1), (10, .int .i64 v38), qZp6] ⟨g52, trivial⟩ ?_
    refine OpsW.nil ?_
    show ∃ y, _ ∧ StC _ _ _ _
    exact ⟨(v38, v32 + 1), H, (StC.mk (phi [(13, some 13)]) (.o rfl (CstL.ims _) .nil) rfl (.i2 (.cons (.r rfl) (.cons .im .nil))))⟩
  replace H := condF c34 H
  refine AW.exit ?_
  refine AW.regionSeq (OpsW.sq 6 [4] [x1 = true → x1 = true, x1 = true → x1 = true] [(4, .bool (cond x1 (v31 == 0) false))] ⟨(fun h => h), (fun h => by first | exact h | (simpa using h) | grind), trivial⟩ ?_)
  refine OpsW.nil ?_
  obtain rfl := Option.some.inj H
  refine AW.recast (env' := [(4, .bool (cond x1 (v31 == 0) false))]) (h' := []) (StC.pure (.cons .im .nil)) ?_
  refine AW.ret ?_
  try simp only [Ex.then, Ex.inBlock, Ex.noGoto, Ex.jump, reduceIte, Nat.reduceEqDiff, reduceCtorEq]
  refine Done.gen rfl (.tmp .nil) ?_
  show _ = _
  kernel_rfl
section
variable (t0 : S_Raw') (v3 : S_Header) (v4 : S_Header)
end
section
variable (t0 : S_Label)
end
section
end
section
variable (t0 : Int)
end
section
variable (t0 : Int) (v2 : List Int) (v3 : Int)
end
section
variable (t0 : S_Label) (t1 : Bool) (x6 : ((List Int) × Int)) (x9 : (List Int))
end
section
variable (t0 : Int) (t1 : Int) (x2 : ((List Int) × Int)) (x4 : (List Int))
end
section
variable (t0 : S_Header) (v7 : S_Header) (v8 : List Int) (x2 : (List Int) × Int)
end
end Go.Proofs.YtbcfmhoaocifoaaDoor
