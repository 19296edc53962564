/-
 Written by gen.py (own work): typed functions, and that the program computes them.
-/
import Derived.Test.YtbcfmhoaocifoaaDoorW2
set_option linter.unusedSimpArgs false
set_option linter.unusedVariables false
set_option maxRecDepth 100000
namespace Go.Proofs.YtbcfmhoaocifoaaDoor
open Go.Abs
def f_grid_ToCells_k1 (loop22 : (S_Grid × (List (List Int)) × Int) → Option ((List (List Int)) × Int)) (v21 : Int) (v24 : S_Grid) (v25 : List (List Int)) : Option ((List (List Int)) × Int) :=
 G (inR (v21 + 1)) <|
 loop22 (v24, v25, v21 + 1)
def f_grid_ToCells_b1 (v7 : Int) (loop17 : (S_Grid × (List (List Int)) × Int) → Option ((List (List Int)) × Int)) (v16 : Int) (loop22 : (S_Grid × (List (List Int)) × Int) → Option ((List (List Int)) × Int)) (v19 : S_Grid) (v20 : List (List Int)) (v21 : Int) : Option ((List (List Int)) × Int) :=
 cond (decide (v21 < 6)) (
  G (inR (3 * v7)) <|
  G (0 ≤ v21 ∧ v21 < 6) <|
  G (inR ((3 * v7) + ((tabS_0.getD v21.toNat zS_Point).Y))) <|
  G (0 ≤ ((3 * v7) + ((tabS_0.getD v21.toNat zS_Point).Y)) ∧ ((3 * v7) + ((tabS_0.getD v21.toNat zS_Point).Y)) < (v19.Dots.length : Int)) <|
  G (inR (2 * v16)) <|
  G (inR ((2 * v16) + ((tabS_0.getD v21.toNat zS_Point).X))) <|
  G (0 ≤ ((2 * v16) + ((tabS_0.getD v21.toNat zS_Point).X)) ∧ ((2 * v16) + ((tabS_0.getD v21.toNat zS_Point).X)) < ((v19.Dots.getD ((3 * v7) + ((tabS_0.getD v21.toNat zS_Point).Y)).toNat []).length : Int)) <|
  cond ((v19.Dots.getD ((3 * v7) + ((tabS_0.getD v21.toNat zS_Point).Y)).toNat []).getD ((2 * v16) + ((tabS_0.getD v21.toNat zS_Point).X)).toNat false) (
   G (0 ≤ v7 ∧ v7 < (v20.length : Int)) <|
   G (0 ≤ v16 ∧ v16 < ((v20.getD v7.toNat []).length : Int)) <|
   G (0 ≤ v21) <|
   f_grid_ToCells_k1 loop22 v21 v19 (v20.set v7.toNat ((v20.getD v7.toNat []).set v16.toNat (bOr .u8 ((v20.getD v7.toNat []).getD v16.toNat 0) (bShl .u8 (1 : Int) v21))))) (
   f_grid_ToCells_k1 loop22 v21 v19 v20)) (
  G (inR (v16 + 1)) <|
  loop17 (v19, v20, v16 + 1))
def f_grid_ToCells_b2 (loop8 : (S_Grid × (List (List Int)) × Int) → Option ((List (List Int)) × Int)) (v5 : S_Grid) (v6 : List (List Int)) (v7 : Int) (loop17 : (S_Grid × (List (List Int)) × Int) → Option ((List (List Int)) × Int)) (v14 : S_Grid) (v15 : List (List Int)) (v16 : Int) : Option ((List (List Int)) × Int) :=
 cond (decide (v16 < ((((v6.set v7.toNat (List.replicate (Int.tdiv v5.W (2 : Int)).toNat (0 : Int))).getD v7.toNat []).length : Nat) : Int))) (
  iter (fun loop (s : S_Grid × (List (List Int)) × Int) => f_grid_ToCells_b1 v7 loop17 v16 loop s.1 s.2.1 s.2.2) 1000000 (v14, v15, (0 : Int))) (
  G (inR (v7 + 1)) <|
  loop8 (v14, v15, v7 + 1))
def f_grid_ToCells_b3 (t0 : S_Grid) (loop8 : (S_Grid × (List (List Int)) × Int) → Option ((List (List Int)) × Int)) (v5 : S_Grid) (v6 : List (List Int)) (v7 : Int) : Option ((List (List Int)) × Int) :=
 cond (decide (v7 < (((List.replicate (Int.tdiv t0.H (3 : Int)).toNat ([] : List Int)).length : Nat) : Int))) (
  G (inR (Int.tdiv v5.W (2 : Int))) <|
  G (0 ≤ (Int.tdiv v5.W (2 : Int)) ∧ (Int.tdiv v5.W (2 : Int)) ≤ (Int.tdiv v5.W (2 : Int)) ∧ ((1 : Nat) : Int) * (Int.tdiv v5.W (2 : Int)) ≤ 281474976710656 ∧ (Int.tdiv v5.W (2 : Int)) ≤ 9223372036854775807) <|
  G (0 ≤ v7 ∧ v7 < (v6.length : Int)) <|
  G (0 ≤ v7 ∧ v7 < ((v6.set v7.toNat (List.replicate (Int.tdiv v5.W (2 : Int)).toNat (0 : Int))).length : Int)) <|
  iter (fun loop (s : S_Grid × (List (List Int)) × Int) => f_grid_ToCells_b2 loop8 v5 v6 v7 loop s.1 s.2.1 s.2.2) 1000000 (v5, v6.set v7.toNat (List.replicate (Int.tdiv v5.W (2 : Int)).toNat (0 : Int)), (0 : Int))) (
  some (v6, (0 : Int)))
def f_grid_ToCells (t0 : S_Grid) : Option ((List (List Int)) × Int) :=
 (f_grid_Valid t0).bind fun x1 =>
 cond (cond (cond (!x1) true ((Int.tmod t0.W (2 : Int)) != 0)) true ((Int.tmod t0.H (3 : Int)) != 0)) (
  some ([], (1 : Int))) (
  G (inR (Int.tdiv t0.H (3 : Int))) <|
  G (0 ≤ (Int.tdiv t0.H (3 : Int)) ∧ (Int.tdiv t0.H (3 : Int)) ≤ (Int.tdiv t0.H (3 : Int)) ∧ ((24 : Nat) : Int) * (Int.tdiv t0.H (3 : Int)) ≤ 281474976710656 ∧ (Int.tdiv t0.H (3 : Int)) ≤ 9223372036854775807) <|
  iter (fun loop (s : S_Grid × (List (List Int)) × Int) => f_grid_ToCells_b3 t0 loop s.1 s.2.1 s.2.2) 1000000 (t0, List.replicate (Int.tdiv t0.H (3 : Int)).toNat ([] : List Int), (0 : Int)))
section
variable (t0 : S_Grid) (v5 : S_Grid) (v6 : List (List Int)) (v7 : Int) (v14 : S_Grid) (v15 : List (List Int)) (v16 : Int) (v19 : S_Grid) (v20 : List (List Int)) (v21 : Int) (v24 : S_Grid) (v25 : List (List Int)) (x1 : Bool)
abbrev qZ6t := (List.replicate (Int.tdiv v5.W (2 : Int)).toNat (0 : Int))
abbrev qZ6u := (List.replicate (Int.tdiv t0.H (3 : Int)).toNat ([] : List Int))
abbrev qZ6v := (v20.set v7.toNat ((v20.getD v7.toNat []).set v16.toNat (bOr .u8 ((v20.getD v7.toNat []).getD v16.toNat 0) (bShl .u8 (1 : Int) v21))))
abbrev qZ6w := tabS_0.getD v21.toNat zS_Point
abbrev qZ6x := ((((v6.set v7.toNat (qZ6t v5)).getD v7.toNat []).length : Nat) : Int)
abbrev qZ6y := (cond (!x1) true ((Int.tmod t0.W (2 : Int)) != 0))
abbrev qZ6z : Nat × AV := (28, .int .i64 (((qZ6u t0).length : Nat) : Int))
abbrev qZ70 := [fmA 10004 42 1 (eI .u8) (v6.set v7.toNat (qZ6t v5))]
abbrev qZ71 := v19.Dots.getD ((3 * v7) + ((qZ6w v21).Y)).toNat []
abbrev qZ72 : Nat × AV := (1, .ref 1 0 0)
abbrev qZ73 := (bOr .u8 ((v20.getD v7.toNat []).getD v16.toNat 0) (bShl .u8 (1 : Int) v21))
abbrev qZ74 : Nat × AV := (73, .rsl (fid 10004 v7.toNat) 0 0 ((v20.getD v7.toNat []).length))
abbrev qZ75 := List (List Int)
abbrev qZ76 : List AV := [.int .i64 t0.W, .int .i64 t0.H, slA (eL eB) t0.Dots]
abbrev qZ77 := [fmA 10004 42 1 (eI .u8) (qZ6v v7 v16 v20 v21)]
abbrev qZ78 := [fmA 10004 42 1 (eI .u8) v20]
abbrev qZ79 := (2 * v16) + ((qZ6w v21).X)
abbrev qZ7a := fid 10004 v7.toNat
abbrev qZ7b := tabS_0.flatMap eS_Point
abbrev qZ7c := [fmA 10004 42 1 (eI .u8) v6]
abbrev qZ7d : List AV := [.int .i64 v5.W, .int .i64 v5.H, slA (eL eB) v5.Dots]
abbrev qZ7e := [fmA 10004 42 1 (eI .u8) (qZ6u t0)]
abbrev qZ7f := [fmA 10004 42 1 (eI .u8) v15]
abbrev qZ7g := (3 * v7) + ((qZ6w v21).Y)
abbrev qZ7h := (Int.tdiv t0.H (3 : Int))
abbrev qZ7i : Nat × AV := (43, .int .i64 (qZ6x v5 v6 v7))
abbrev qZ7j := 0 + v7.toNat * 1
abbrev qZ7k : Nat × AV := (5, .int .i64 v7)
abbrev qZ7l := v6.set v7.toNat (qZ6t v5)
abbrev qZ7m : Nat × AV := (4, .rsl 4 0 0 v20.length)
abbrev qZ7n := [fmA 10026 42 1 (eI .u8) (qZ6u t0)]
abbrev qZ60 : Env := [(qZ7k v7), (6, .int .i64 v16), (qZ6z t0), (29, .int .i64 v7), (qZ7i v5 v6 v7), (44, .int .i64 v16), (47, .int .i64 v21)]
abbrev qZ61 : Env := [(qZ6z t0), (29, .int .i64 v7)]
abbrev qZ62 : Hp := [(1, ⟨0, true, 96, 3, [.int .i64 v19.W, .int .i64 v19.H, slA (eL eB) v19.Dots]⟩), (4, nsA 0 41 10004 (qZ6v v7 v16 v20 v21))]
abbrev qZ63 : Env := [(qZ6z t0), (29, .int .i64 v7), (qZ7i v5 v6 v7), (44, .int .i64 v16)]
abbrev qZ64 : Env := (59, .ipt (v19.Dots.flatMap (eL eB)) ((qZ7g v7 v21).toNat * 1)) :: (58, .int .i64 (qZ7g v7 v21)) :: (57, .int .i64 ((qZ6w v21).Y)) :: (56, .ipt qZ7b (0 + v21.toNat * 2 + 1)) :: (55, .ipt qZ7b (0 + v21.toNat * 2)) :: (54, .int .i64 v21) :: (53, .int .i64 (3 * v7)) :: (52, .int .i64 v7) :: (51, slA (eL eB) v19.Dots) :: (50, .ref 1 0 2) :: (7, .int .i64 v21) :: qZ72 :: (qZ7m v20) :: (qZ60 t0 v5 v6 v7 v16 v21)
abbrev qZ65 : Env := (qZ7k v7) :: qZ72 :: (4, .rsl 4 0 0 ((qZ7l v5 v6 v7).length)) :: (qZ61 t0 v7)
abbrev qZ66 : Env := (79, .int .u8 (qZ73 v7 v16 v20 v21)) :: (74, .int .i64 v16) :: (qZ74 v7 v20) :: qZ72 :: (qZ7m v20) :: (qZ60 t0 v5 v6 v7 v16 v21)
abbrev qZ67 : Hp := [(1, ⟨0, true, 96, 3, (qZ7d v5)⟩), (4, nsA 0 41 10004 (qZ7l v5 v6 v7))]
abbrev qZ68 : Env := (69, .bool ((qZ71 v7 v19 v21).getD (qZ79 v16 v21).toNat false)) :: (7, .int .i64 v21) :: qZ72 :: (qZ7m v20) :: (qZ60 t0 v5 v6 v7 v16 v21)
abbrev qZ69 : Hp := [(1, ⟨0, true, 96, 3, [.int .i64 v19.W, .int .i64 v19.H, slA (eL eB) v19.Dots]⟩), (4, nsA 0 41 10004 v20)]
abbrev qZ6a : Hp := [(1, ⟨0, true, 96, 3, (qZ76 t0)⟩), (4, nsA 0 41 10004 (qZ6u t0))]
abbrev qZ6b : Hp := [(1, ⟨0, true, 96, 3, (qZ7d v5)⟩), (4, nsA 0 41 10004 v6)]
abbrev qZ6c : Hp := [(1, ⟨0, true, 96, 3, [.int .i64 v14.W, .int .i64 v14.H, slA (eL eB) v14.Dots]⟩), (4, nsA 0 41 10004 v15)]
abbrev qZ6d : Env := (38, .ref 4 0 (qZ7j v7)) :: (37, .rsl 37 0 0 ((qZ6t v5).length)) :: (qZ7k v7) :: qZ72 :: (4, .rsl 4 0 0 v6.length) :: (qZ61 t0 v7)
abbrev qZ6e : Hp := [(1, ⟨0, true, 96, 3, (qZ76 t0)⟩)]
abbrev qZ6f : Env := qZ72 :: (4, .rsl 4 0 0 ((qZ6v v7 v16 v20 v21).length)) :: (qZ60 t0 v5 v6 v7 v16 v21)
abbrev qZ6g : Hp := [(4, nsA 0 41 10004 (qZ7l v5 v6 v7)), (1, ⟨0, true, 96, 3, (qZ7d v5)⟩)]
abbrev qZ6h : Env := (65, .ipt qZ7b (0 + v21.toNat * 2 + 0)) :: (64, .ipt qZ7b (0 + v21.toNat * 2)) :: (63, .int .i64 v21) :: (62, .int .i64 (2 * v16)) :: (61, .int .i64 v16) :: (60, slA eB (qZ71 v7 v19 v21)) :: (qZ64 t0 v5 v6 v7 v16 v19 v20 v21)
abbrev qZ6i : Hp := (4, ⟨0, true, 41, 1, putA (nsA 0 41 10004 v6).cs (qZ7j v7) [.rsl 37 0 0 ((qZ6t v5).length)]⟩) :: (37, rtA 0 42 1 (eI .u8) (qZ6t v5)) :: (qZ6b v5 v6)
abbrev qZ6j : Hp := [(1, ⟨0, true, 96, 3, [.int .i64 v24.W, .int .i64 v24.H, slA (eL eB) v24.Dots]⟩), (4, nsA 0 41 10004 v25)]
abbrev qZ6k : Hp := (26, nsA 0 41 10026 (qZ6u t0)) :: (qZ6e t0)
abbrev qZ6l : Env := qZ72 :: (4, .rsl 4 0 0 v15.length) :: (qZ7k v7) :: (qZ63 t0 v5 v6 v7 v16)
abbrev qZ6m : Env := (74, .int .i64 v16) :: (qZ74 v7 v20) :: (72, .ref 4 0 (qZ7j v7)) :: (71, .int .i64 v7) :: (70, .rsl 4 0 0 v20.length) :: (qZ68 t0 v5 v6 v7 v16 v19 v20 v21)
abbrev qZ6n : Env := qZ72 :: (4, .rsl 4 0 0 v6.length) :: (qZ61 t0 v7)
abbrev qZ6o : Env := [(26, .rsl 26 0 0 ((qZ6u t0).length)), (25, .int .i64 (qZ7h t0)), qZ72]
abbrev qZ6p : Env := qZ72 :: (qZ7m v20) :: (qZ60 t0 v5 v6 v7 v16 v21)
abbrev qZ6q : List (Nat × FM) := [(10004, .same 10004)]
abbrev qZ6r : Env := [(4, .rsl 4 0 0 ((qZ6u t0).length)), qZ72]
abbrev qZ6s : Env := (36, .int .i64 (Int.tdiv v5.W (2 : Int))) :: (33, .int .i64 v7) :: (32, .rsl 4 0 0 v6.length) :: (qZ7k v7) :: (qZ6n t0 v6 v7)
end
theorem f_grid_ToCells_ok  {t0 : S_Grid} {r : (List (List Int)) × Int} (H : f_grid_ToCells t0 = some r) : QSpec Tryd.prog 55 [.agg [.int .i64 t0.W, .int .i64 t0.H, slA (eL eB) t0.Dots]] (.tup [slA (eL (eI .u8)) r.1, .int .i64 r.2]) := by
 refine Spec.of_AW Tryd.func55 rfl (by simp [Tryd.ntmps55]) ?_
 rw [Tryd.ntmps55]
 unfold f_grid_ToCells at H
 change AW _ _ _ [(0, .agg (qZ76 t0))] [] _
 refine AW.regionSeq (OpsW.box rfl rfl rfl 1 rfl (okCb_sound (by kernel_rfl)) ?_)
 change OpsW _ _ _ _ _ (qZ6e t0) _
 refine OpsW.sg 2 [1] [qZ72] ?_
 refine OpsW.recast (env' := [qZ72]) (h' := (qZ6e t0)) (StC.mk (phi [(1, some 1)]) (.o rfl (.i3 .nil) .nil) rfl (.cons (.r rfl) .nil)) ?_
 refine OpsW.nil (AW.seq (AW.regionSeq (OpsW.sg 1 [8, 1] [(8, .agg (qZ76 t0)), qZ72] ?_)))
 obtain ⟨x1, hx1, H⟩ := bindS H
 refine OpsW.qcall rfl (by kernel_rfl) rfl rfl (glAll_sound trivial) (.cons (.pur rfl) .nil) (f_grid_Valid_ok hx1) rfl ?_
 refine OpsW.sq 13 [22, 1] [(!(!x1)) = true → (!(!x1)) = true, (!(!x1)) = true → (!(!x1)) = true, (!(!x1)) = true → (2 : Int) ≠ 0, (!(!x1)) = true → (!(!x1)) = true, (!x1) = false → (!(!x1)) = true, (!(qZ6y t0 x1)) = true → (!(qZ6y t0 x1)) = true, (!(qZ6y t0 x1)) = true → (!(qZ6y t0 x1)) = true, (!(qZ6y t0 x1)) = true → (3 : Int) ≠ 0, (!(qZ6y t0 x1)) = true → (!(qZ6y t0 x1)) = true, (qZ6y t0 x1) = false → (!(qZ6y t0 x1)) = true] [(22, .bool (cond (qZ6y t0 x1) true ((Int.tmod t0.H (3 : Int)) != 0))), qZ72] ⟨(fun h => h), (fun h => h), (fun _ => by decide), (fun h => h), (fun h => by first | exact h | (simpa using h) | grind), (fun h => h), (fun h => h), (fun _ => by decide), (fun h => h), (fun h => by first | exact h | (simpa using h) | grind), trivial⟩ ?_
 refine OpsW.nil (AW.cond (b := cond (qZ6y t0 x1) true ((Int.tmod t0.H (3 : Int)) != 0)) rfl (fun c2 => ?_) (fun c2 => ?_))
 ·replace H := condT c2 H
  refine AW.regionSeq (OpsW.sg 2 [3, 2] [(3, .int .i64 1), (2, .im (.val (.slice none 0 0)))] ?_)
  refine OpsW.nil ?_
  obtain rfl := Option.some.inj H
  refine AW.recast (env' := [(2, slA (eL (eI .u8)) []), (3, .int .i64 1)]) (h' := []) (StC.pure (.cons .nil (.cons .im .nil))) ?_
  refine AW.ret ?_
  try simp only [Ex.then, Ex.inBlock, Ex.noGoto, Ex.jump, reduceIte, Nat.reduceEqDiff, reduceCtorEq]
  refine Done.gen rfl (.tmp (.tmp .nil)) ?_
  show _ = _
  kernel_rfl
 replace H := condF c2 H
 refine AW.skip (AW.regionSeq ?_)
 obtain ⟨g3, H⟩ := G_some H
 refine OpsW.sq 3 [25, 1] [(3 : Int) ≠ 0, inR (qZ7h t0)] [(25, .int .i64 (qZ7h t0)), qZ72] ⟨(by decide), g3, trivial⟩ ?_
 obtain ⟨g4, H⟩ := G_some H
 refine OpsW.makeR rfl rfl rfl 26 rfl E36 rfl rfl g4 ?_
 refine OpsW.weaken (qZ6o t0) (Env.le_of_eq (by first | (rw [List.length_replicate]; rfl; done) | (simp only [qZ6u, qZ72, qZ7h, qZ6o]; rw [List.length_replicate]; rfl))) ?_
 refine OpsW.recast (env' := (qZ6o t0)) (h' := ((qZ6k t0) ++ fmsH (qZ7n t0))) (StC.mkF (hc := ((26, ⟨0, true, 41, 1, zerosA [.slice none 0 0] (qZ7h t0).toNat⟩) :: (qZ6e t0))) (fs := []) (hc' := (qZ6k t0)) (fs' := (qZ7n t0)) rfl [(26, some 26), (1, some 1)] [(10026, .nil)] rfl (.o rfl (nsNilA rfl (by decide) rfl rfl) (.o rfl (.i3 .nil) .nil)) rfl (.cons rfl fmNil .nil) (.cons (.s rfl) (.cons .im (.cons (.r rfl) .nil)))) ?_
 refine OpsW.sg 1 [4, 1] [(4, .rsl 26 0 0 ((qZ6u t0).length)), qZ72] ?_
 refine OpsW.recast (env' := (qZ6r t0)) (h' := ((qZ6a t0) ++ fmsH (qZ7e t0))) (StC.mkF (hc := (qZ6k t0)) (fs := (qZ7n t0)) (hc' := (qZ6a t0)) (fs' := (qZ7e t0)) rfl [(1, some 1), (4, some 26)] [(10004, .same 10026)] rfl (.o rfl (.i3 .nil) (.o rfl (nsSameA rfl rfl (by decide) rfl rfl rfl) .nil)) rfl (.cons rfl (fmSame rfl) .nil) (.cons (.s rfl) (.cons (.r rfl) .nil))) ?_
 refine OpsW.nil (AW.seq (AW.regionSeq (OpsW.sg 3 [29, 28, 4, 1] ((29, .int .i64 0) :: (qZ6z t0) :: (qZ6r t0)) ?_)))
 refine OpsW.nil (AW.block ?_)
 refine AW.iterK (fun loop (s : S_Grid × qZ75 × Int) => f_grid_ToCells_b3 t0 loop s.1 s.2.1 s.2.2) r (fun (s : S_Grid × qZ75 × Int) => [qZ72, (4, .rsl 4 0 0 s.2.1.length), (qZ6z t0), (29, .int .i64 s.2.2)]) (fun (s : S_Grid × qZ75 × Int) => ([(1, ⟨0, true, 96, 3, [.int .i64 s.1.W, .int .i64 s.1.H, slA (eL eB) s.1.Dots]⟩), (4, nsA 0 41 10004 s.2.1)] ++ fmsH [fmA 10004 42 1 (eI .u8) s.2.1])) ?_ 1000000 (t0, List.replicate (qZ7h t0).toNat ([] : List Int), (0 : Int)) H (StC.mkF (hc := (qZ6a t0)) (fs := (qZ7e t0)) (hc' := (qZ6a t0)) (fs' := (qZ7e t0)) rfl [(1, some 1), (4, some 4)] qZ6q rfl (.o rfl (.i3 .nil) (.o rfl (nsSameA rfl rfl (by decide) rfl rfl rfl) .nil)) rfl (.cons rfl (fmSame rfl) .nil) (.cons (.r rfl) (.cons (.s rfl) (.i2 .nil))))
 intro loop8 s H
 obtain ⟨v5, v6, v7⟩ := s
 change f_grid_ToCells_b3 t0 loop8 v5 v6 v7 = some r at H
 unfold f_grid_ToCells_b3 at H
 change AW _ _ _ (qZ6n t0 v6 v7) ((qZ6b v5 v6) ++ fmsH (qZ7c v6)) _
 refine AW.regionSeq (OpsW.sg 1 [30, 1, 4, 28, 29] ((30, .bool (decide (v7 < (((qZ6u t0).length : Nat) : Int)))) :: (qZ6n t0 v6 v7)) ?_)
 refine OpsW.nil (AW.seq (AW.cond (b := decide (v7 < (((qZ6u t0).length : Nat) : Int))) rfl (fun c9 => ?_) (fun c9 => ?_)))
 ·replace H := condT c9 H
  refine AW.skip (AW.seq (AW.block (AW.regionSeq (OpsW.sg 2 [5, 1, 4, 28, 29] ((qZ7k v7) :: (qZ6n t0 v6 v7)) ?_))))
  refine OpsW.nil (AW.regionSeq ?_)
  obtain ⟨g10, H⟩ := G_some H
  refine OpsW.sq 5 [36, 33, 32, 5, 1, 4, 28, 29] [(2 : Int) ≠ 0, inR (Int.tdiv v5.W (2 : Int))] (qZ6s t0 v5 v6 v7) ⟨(by decide), g10, trivial⟩ ?_
  obtain ⟨g11, H⟩ := G_some H
  change OpsW _ _ _ _ (qZ6s t0 v5 v6 v7) ((qZ6b v5 v6) ++ fmsH (qZ7c v6)) _
  refine OpsW.makeT (enc := eI .u8) (0 : Int) rfl rfl rfl 37 (free_f rfl) E41 rfl rfl rfl g11 ?_
  obtain ⟨g12, H⟩ := G_some H
  refine OpsW.sq 1 [38, 37, 5, 1, 4, 28, 29] [0 ≤ v7 ∧ v7 < (v6.length : Int)] (qZ6d t0 v5 v6 v7) ⟨g12, trivial⟩ ?_
  change OpsW _ _ _ _ (qZ6d t0 v5 v6 v7) (((37, rtA 0 42 1 (eI .u8) (qZ6t v5)) :: (qZ6b v5 v6)) ++ fmsH (qZ7c v6)) _
  refine OpsW.store rfl rfl rfl rfl trivial trivial rfl rfl rfl (by kernel_rfl) (okCb_sound (by kernel_rfl)) (ns_fit (ltN g12)) ?_
  change OpsW _ _ _ _ (qZ6d t0 v5 v6 v7) ((qZ6i v5 v6 v7) ++ fmsH (qZ7c v6)) _
  refine OpsW.weaken ((38, .ref 4 0 (qZ7j v7)) :: (37, .rsl 37 0 0 ((qZ6t v5).length)) :: (qZ65 t0 v5 v6 v7)) (Env.le_of_eq (by first | (simp only [List.length_set]; done) | (simp only [qZ6t, qZ6u, qZ6z, qZ72, qZ7c, qZ7d, qZ7j, qZ7k, qZ7l, qZ61, qZ65, qZ6b, qZ6d, qZ6i]; simp only [List.length_set]))) ?_
  refine OpsW.recast (env' := ((38, .ref 4 0 (qZ7j v7)) :: (qZ65 t0 v5 v6 v7))) (h' := ((qZ6g v5 v6 v7) ++ fmsH (qZ70 v5 v6 v7))) (StC.mkF (hc := (qZ6i v5 v6 v7)) (fs := (qZ7c v6)) (hc' := (qZ6g v5 v6 v7)) (fs' := (qZ70 v5 v6 v7)) rfl [(4, some 4), (1, some 1)] [(10004, .put 10004 v7.toNat 37)] rfl (.o rfl (nsPutA rfl rfl (by decide) rfl rfl rfl rfl (ltN g12) (by first | omega | (simp only [qZ6t, qZ6u, qZ70, qZ7c, qZ7j, qZ7l]; omega)) rfl) (.o rfl (.i3 .nil) .nil)) rfl (.cons rfl (fmPut rfl rfl (ltN g12)) .nil) (.cons (.r rfl) (.cons .im (.cons (.r rfl) (.cons (.s rfl) (.i2 .nil)))))) ?_
  refine OpsW.sg 0 [5, 1, 4, 28, 29] (qZ65 t0 v5 v6 v7) ?_
  refine OpsW.recast (env' := (qZ65 t0 v5 v6 v7)) (h' := ((qZ67 v5 v6 v7) ++ fmsH (qZ70 v5 v6 v7))) (StC.mkF (hc := (qZ6g v5 v6 v7)) (fs := (qZ70 v5 v6 v7)) (hc' := (qZ67 v5 v6 v7)) (fs' := (qZ70 v5 v6 v7)) rfl [(1, some 1), (4, some 4)] qZ6q rfl (.o rfl (.i3 .nil) (.o rfl (nsSameA rfl rfl (by decide) rfl rfl rfl) .nil)) rfl (.cons rfl (fmSame rfl) .nil) (.cons .im (.cons (.r rfl) (.cons (.s rfl) (.i2 .nil))))) ?_
  refine OpsW.nil (AW.regionSeq ?_)
  obtain ⟨g13, H⟩ := G_some H
  refine OpsW.sq 3 [41, 5, 1, 4, 28, 29] [0 ≤ v7 ∧ v7 < ((qZ7l v5 v6 v7).length : Int)] ((41, .ref 4 0 (qZ7j v7)) :: (qZ65 t0 v5 v6 v7)) ⟨g13, trivial⟩ ?_
  refine OpsW.asU (.rsl (qZ7a v7) 0 0 (((qZ7l v5 v6 v7).getD v7.toNat []).length)) rfl rfl (T.loadR rfl trivial (by kernel_rfl) rfl rfl rfl (ns_cell (ltN g13) (by first | omega | (simp only [qZ6t, qZ6u, qZ70, qZ7a, qZ7j, qZ7l]; omega)))) ?_
  change OpsW _ _ _ _ ((42, .rsl (qZ7a v7) 0 0 (((qZ7l v5 v6 v7).getD v7.toNat []).length)) :: (41, .ref 4 0 (qZ7j v7)) :: (qZ65 t0 v5 v6 v7)) ((qZ67 v5 v6 v7) ++ fmsH (qZ70 v5 v6 v7)) _
  refine OpsW.asU (.int .i64 (qZ6x v5 v6 v7)) rfl rfl (T.lenF rfl trivial (by kernel_rfl) (row_f rfl rfl (ltN g13)) rfl) ?_
  refine OpsW.sg 1 [44, 43, 5, 1, 4, 28, 29] ((44, .int .i64 0) :: (qZ7i v5 v6 v7) :: (qZ65 t0 v5 v6 v7)) ?_
  refine OpsW.nil (AW.block ?_)
  refine AW.iterK (fun loop (s : S_Grid × qZ75 × Int) => f_grid_ToCells_b2 loop8 v5 v6 v7 loop s.1 s.2.1 s.2.2) r (fun (s : S_Grid × qZ75 × Int) => [qZ72, (4, .rsl 4 0 0 s.2.1.length), (qZ7k v7), (qZ6z t0), (29, .int .i64 v7), (qZ7i v5 v6 v7), (44, .int .i64 s.2.2)]) (fun (s : S_Grid × qZ75 × Int) => ([(1, ⟨0, true, 96, 3, [.int .i64 s.1.W, .int .i64 s.1.H, slA (eL eB) s.1.Dots]⟩), (4, nsA 0 41 10004 s.2.1)] ++ fmsH [fmA 10004 42 1 (eI .u8) s.2.1])) ?_ 1000000 (v5, v6.set v7.toNat (qZ6t v5), (0 : Int)) H (StC.mkF (hc := (qZ67 v5 v6 v7)) (fs := (qZ70 v5 v6 v7)) (hc' := (qZ67 v5 v6 v7)) (fs' := (qZ70 v5 v6 v7)) rfl [(1, some 1), (4, some 4)] qZ6q rfl (.o rfl (.i3 .nil) (.o rfl (nsSameA rfl rfl (by decide) rfl rfl rfl) .nil)) rfl (.cons rfl (fmSame rfl) .nil) (.cons (.r rfl) (.cons (.s rfl) (.i5 .nil))))
  intro loop17 s H
  obtain ⟨v14, v15, v16⟩ := s
  change f_grid_ToCells_b2 loop8 v5 v6 v7 loop17 v14 v15 v16 = some r at H
  unfold f_grid_ToCells_b2 at H
  change AW _ _ _ (qZ6l t0 v5 v6 v7 v15 v16) ((qZ6c v14 v15) ++ fmsH (qZ7f v15)) _
  refine AW.regionSeq (OpsW.sg 1 [45, 1, 4, 5, 28, 29, 43, 44] ((45, .bool (decide (v16 < (qZ6x v5 v6 v7)))) :: (qZ6l t0 v5 v6 v7 v15 v16)) ?_)
  refine OpsW.nil (AW.seq (AW.cond (b := decide (v16 < (qZ6x v5 v6 v7))) rfl (fun c18 => ?_) (fun c18 => ?_)))
  ·replace H := condT c18 H
   refine AW.skip (AW.seq (AW.block (AW.regionSeq (OpsW.sg 2 [6, 1, 4, 5, 28, 29, 43, 44] ((6, .int .i64 v16) :: (qZ6l t0 v5 v6 v7 v15 v16)) ?_))))
   refine OpsW.nil (AW.regionSeq (OpsW.sg 1 [47, 6, 1, 4, 5, 28, 29, 43, 44] ((47, .int .i64 0) :: (6, .int .i64 v16) :: (qZ6l t0 v5 v6 v7 v15 v16)) ?_))
   refine OpsW.nil (AW.block ?_)
   refine AW.iterK (fun loop (s : S_Grid × qZ75 × Int) => f_grid_ToCells_b1 v7 loop17 v16 loop s.1 s.2.1 s.2.2) r (fun (s : S_Grid × qZ75 × Int) => [qZ72, (4, .rsl 4 0 0 s.2.1.length), (qZ7k v7), (6, .int .i64 v16), (qZ6z t0), (29, .int .i64 v7), (qZ7i v5 v6 v7), (44, .int .i64 v16), (47, .int .i64 s.2.2)]) (fun (s : S_Grid × qZ75 × Int) => ([(1, ⟨0, true, 96, 3, [.int .i64 s.1.W, .int .i64 s.1.H, slA (eL eB) s.1.Dots]⟩), (4, nsA 0 41 10004 s.2.1)] ++ fmsH [fmA 10004 42 1 (eI .u8) s.2.1])) ?_ 1000000 (v14, v15, (0 : Int)) H (StC.mkF (hc := (qZ6c v14 v15)) (fs := (qZ7f v15)) (hc' := (qZ6c v14 v15)) (fs' := (qZ7f v15)) rfl [(1, some 1), (4, some 4)] qZ6q rfl (.o rfl (.i3 .nil) (.o rfl (nsSameA rfl rfl (by decide) rfl rfl rfl) .nil)) rfl (.cons rfl (fmSame rfl) .nil) (.cons (.r rfl) (.cons (.s rfl) (.i7 .nil))))
   intro loop22 s H
   obtain ⟨v19, v20, v21⟩ := s
   change f_grid_ToCells_b1 v7 loop17 v16 loop22 v19 v20 v21 = some r at H
   unfold f_grid_ToCells_b1 at H
   change AW _ _ _ (qZ6p t0 v5 v6 v7 v16 v20 v21) ((qZ69 v19 v20) ++ fmsH (qZ78 v20)) _
   refine AW.regionSeq (OpsW.sg 1 [48, 1, 4, 5, 6, 28, 29, 43, 44, 47] ((48, .bool (decide (v21 < 6))) :: (qZ6p t0 v5 v6 v7 v16 v20 v21)) ?_)
   refine OpsW.nil (AW.seq (AW.cond (b := decide (v21 < 6)) rfl (fun c23 => ?_) (fun c23 => ?_)))
   ·replace H := condT c23 H
    refine AW.skip ?_
    refine AW.joinK (fun (y : S_Grid × qZ75) => f_grid_ToCells_k1 loop22 v21 y.1 y.2) r (fun (y : S_Grid × qZ75) => (qZ72 :: (4, .rsl 4 0 0 y.2.length) :: (qZ60 t0 v5 v6 v7 v16 v21))) (fun (y : S_Grid × qZ75) => ([(1, ⟨0, true, 96, 3, [.int .i64 y.1.W, .int .i64 y.1.H, slA (eL eB) y.1.Dots]⟩), (4, nsA 0 41 10004 y.2)] ++ fmsH [fmA 10004 42 1 (eI .u8) y.2])) ?_ ?_
    ·refine AW.block (AW.regionSeq (OpsW.sg 2 [7, 1, 4, 5, 6, 28, 29, 43, 44, 47] ((7, .int .i64 v21) :: (qZ6p t0 v5 v6 v7 v16 v20 v21)) ?_))
     refine OpsW.nil (AW.drawSeq Tryd.checked.mixed (by kernel_rfl) ?_)
     obtain ⟨g27, H⟩ := G_some H
     obtain ⟨g28, H⟩ := G_some H
     refine QOps.seg (N := 85) 7 [inR (3 * v7), 0 ≤ v21 ∧ v21 < 6] ((56, .ipt qZ7b (0 + v21.toNat * 2 + 1)) :: (55, .ipt qZ7b (0 + v21.toNat * 2)) :: (54, .int .i64 v21) :: (53, .int .i64 (3 * v7)) :: (52, .int .i64 v7) :: (51, slA (eL eB) v19.Dots) :: (50, .ref 1 0 2) :: (7, .int .i64 v21) :: (qZ6p t0 v5 v6 v7 v16 v20 v21)) (by kernel_rfl) ⟨g27, g28, trivial⟩ ?_
     refine QOps.asU (.int .i64 ((qZ6w v21).Y)) rfl (T.load rfl trivial (by kernel_rfl) (tabOff2 (fm_cell eS_Point 2 (fun _ => rfl) tabS_0 zS_Point v21.toNat (ltA (n := 6) g28 rfl) 1 (fun a => .val (.int .i64 a.Y)) (fun _ => rfl)))) ?_
     obtain ⟨g29, H⟩ := G_some H
     obtain ⟨g30, H⟩ := G_some H
     refine QOps.seg (N := 85) 2 [inR (qZ7g v7 v21), 0 ≤ (qZ7g v7 v21) ∧ (qZ7g v7 v21) < (v19.Dots.length : Int)] (qZ64 t0 v5 v6 v7 v16 v19 v20 v21) (by kernel_rfl) ⟨g29, g30, trivial⟩ ?_
     refine QOps.asU (slA eB (qZ71 v7 v19 v21)) rfl (T.load rfl trivial (by kernel_rfl) (fm_cell (eL eB) 1 (fun _ => rfl) v19.Dots [] (qZ7g v7 v21).toNat (ltN g30) 0 (fun a => .sl (a.flatMap eB) a.length) (fun _ => rfl))) ?_
     obtain ⟨g31, H⟩ := G_some H
     refine QOps.seg (N := 85) 5 [inR (2 * v16), 0 ≤ v21 ∧ v21 < 6] (qZ6h t0 v5 v6 v7 v16 v19 v20 v21) (by kernel_rfl) ⟨g31, g28, trivial⟩ ?_
     refine QOps.asU (.int .i64 ((qZ6w v21).X)) rfl (T.load rfl trivial (by kernel_rfl) (tabOff2 (fm_cell eS_Point 2 (fun _ => rfl) tabS_0 zS_Point v21.toNat (ltA (n := 6) g28 rfl) 0 (fun a => .val (.int .i64 a.X)) (fun _ => rfl)))) ?_
     obtain ⟨g32, H⟩ := G_some H
     obtain ⟨g33, H⟩ := G_some H
     refine QOps.seg (N := 85) 2 [inR (qZ79 v16 v21), 0 ≤ (qZ79 v16 v21) ∧ (qZ79 v16 v21) < ((qZ71 v7 v19 v21).length : Int)] ((68, .ipt ((qZ71 v7 v19 v21).flatMap eB) ((qZ79 v16 v21).toNat * 1)) :: (67, .int .i64 (qZ79 v16 v21)) :: (66, .int .i64 ((qZ6w v21).X)) :: (qZ6h t0 v5 v6 v7 v16 v19 v20 v21)) (by kernel_rfl) ⟨g32, g33, trivial⟩ ?_
     refine QOps.asU (.bool ((qZ71 v7 v19 v21).getD (qZ79 v16 v21).toNat false)) rfl (T.load rfl trivial (by kernel_rfl) (fm_cell eB 1 (fun _ => rfl) (qZ71 v7 v19 v21) false (qZ79 v16 v21).toNat (ltN g33) 0 (fun a => .val (.bool a)) (fun _ => rfl))) ?_
     refine QOps.nil (AW.trim [69, 7, 1, 4, 5, 6, 28, 29, 43, 44, 47] (qZ68 t0 v5 v6 v7 v16 v19 v20 v21) (by kernel_rfl) ?_)
     refine AW.cond (b := (qZ71 v7 v19 v21).getD (qZ79 v16 v21).toNat false) rfl (fun c34 => ?_) (fun c34 => ?_)
     ·replace H := condT c34 H
      refine AW.drawT 9 Tryd.checked.mixed (by kernel_rfl) ?_
      obtain ⟨g35, H⟩ := G_some H
      refine QOps.seg (N := 85) 3 [0 ≤ v7 ∧ v7 < (v20.length : Int)] ((72, .ref 4 0 (qZ7j v7)) :: (71, .int .i64 v7) :: (70, .rsl 4 0 0 v20.length) :: (qZ68 t0 v5 v6 v7 v16 v19 v20 v21)) (by kernel_rfl) ⟨g35, trivial⟩ ?_
      refine QOps.asU (.rsl (qZ7a v7) 0 0 ((v20.getD v7.toNat []).length)) rfl (T.loadR rfl trivial (by kernel_rfl) rfl rfl rfl (ns_cell (ltN g35) (by first | omega | (simp only [qZ6t, qZ6u, qZ6w, qZ6x, qZ71, qZ79, qZ7a, qZ7j]; omega)))) ?_
      refine QOps.seg (N := 85) 1 [] (qZ6m t0 v5 v6 v7 v16 v19 v20 v21) (by kernel_rfl) trivial ?_
      obtain ⟨g36, H⟩ := G_some H
      refine QOps.asU (.ref (qZ7a v7) 0 (0 + v16.toNat * 1)) rfl (T.idxF rfl rfl trivial trivial (by kernel_rfl) (by kernel_rfl) (row_f rfl rfl (ltN g35)) rfl rfl g36) ?_
      refine QOps.asU (.int .u8 ((v20.getD v7.toNat []).getD v16.toNat 0)) rfl (T.loadR rfl trivial (by kernel_rfl) (row_f rfl rfl (ltN g35)) rfl rfl (rt_cell (eI .u8) 1 (fun _ => rfl) (v20.getD v7.toNat []) (0 : Int) v16.toNat (ltN g36) 0 (fun a => .val (.int .u8 a)) (fun _ => rfl) (by first | omega | (simp only [qZ6t, qZ6u, qZ6w, qZ6x, qZ71, qZ79, qZ7a, qZ7j]; omega)))) ?_
      obtain ⟨g37, H⟩ := G_some H
      refine QOps.seg (N := 85) 2 [0 ≤ v21] ((78, .int .u8 (bShl .u8 (1 : Int) v21)) :: (77, .int .i64 v21) :: (76, .int .u8 ((v20.getD v7.toNat []).getD v16.toNat 0)) :: (75, .ref (qZ7a v7) 0 (0 + v16.toNat * 1)) :: (qZ6m t0 v5 v6 v7 v16 v19 v20 v21)) (by kernel_rfl) ⟨g37, trivial⟩ ?_
      refine QOps.nil (OpsW.sg 0 [78, 76, 74, 73, 1, 4, 5, 6, 28, 29, 43, 44, 47] ((78, .int .u8 (bShl .u8 (1 : Int) v21)) :: (76, .int .u8 ((v20.getD v7.toNat []).getD v16.toNat 0)) :: (74, .int .i64 v16) :: (qZ74 v7 v20) :: (qZ6p t0 v5 v6 v7 v16 v20 v21)) ?_)
      refine OpsW.sg 1 [79, 74, 73, 1, 4, 5, 6, 28, 29, 43, 44, 47] (qZ66 t0 v5 v6 v7 v16 v20 v21) ?_
      change OpsW _ _ _ _ (qZ66 t0 v5 v6 v7 v16 v20 v21) ((qZ69 v19 v20) ++ fmsH (qZ78 v20)) _
      refine OpsW.asU (.ref (qZ7a v7) 0 (0 + v16.toNat * 1)) rfl rfl (T.idxF rfl rfl trivial trivial (by kernel_rfl) (by kernel_rfl) (row_f rfl rfl (ltN g35)) rfl rfl g36) ?_
      change OpsW _ _ _ _ ((80, .ref (qZ7a v7) 0 (0 + v16.toNat * 1)) :: (qZ66 t0 v5 v6 v7 v16 v20 v21)) ((qZ69 v19 v20) ++ fmsH (qZ78 v20)) _
      refine OpsW.storeN (enc := eI .u8) (k := 1) (xs := v20) (hc' := (qZ62 v7 v16 v19 v20 v21)) (0 : Int) (qZ73 v7 v16 v20 v21) [.val (.int .u8 (qZ73 v7 v16 v20 v21))] v7.toNat v16.toNat 0 rfl rfl rfl (by first | rfl | exact congrArg (AV.ref (qZ7a v7) 0) (by first | omega | (simp only [qZ6t, qZ6u, qZ6v, qZ6x, qZ73, qZ78, qZ7a]; omega))) trivial trivial rfl rfl (fun _ => rfl) rfl (by kernel_rfl) (okCb_sound (by kernel_rfl)) (ltN g35) (ltN g36) (Nat.le_of_ble_eq_true (by kernel_rfl)) rfl (by simp only [List.length_set, nsA_set, qZ6t, qZ6u, qZ6v, qZ6x, qZ6z, qZ72, qZ73, qZ74, qZ78, qZ7a, qZ7i, qZ7k, qZ7m, qZ60, qZ62, qZ66, qZ69, qZ6p]) ?_
      change OpsW _ _ _ _ ((80, .ref (qZ7a v7) 0 (0 + v16.toNat * 1)) :: (qZ66 t0 v5 v6 v7 v16 v20 v21)) ((qZ62 v7 v16 v19 v20 v21) ++ fmsH (qZ77 v7 v16 v20 v21)) _
      refine OpsW.weaken ((80, .ref (qZ7a v7) 0 (0 + v16.toNat * 1)) :: (79, .int .u8 (qZ73 v7 v16 v20 v21)) :: (74, .int .i64 v16) :: (qZ74 v7 v20) :: (qZ6f t0 v5 v6 v7 v16 v20 v21)) (Env.le_of_eq (by first | (simp only [List.length_set, List.length_reverse]; done) | (simp only [qZ6t, qZ6u, qZ6v, qZ6x, qZ6z, qZ72, qZ73, qZ74, qZ77, qZ78, qZ7a, qZ7i, qZ7k, qZ7m, qZ60, qZ62, qZ66, qZ69, qZ6f]; simp only [List.length_set, List.length_reverse]))) ?_
      refine OpsW.sg 0 [1, 4, 5, 6, 28, 29, 43, 44, 47] (qZ6f t0 v5 v6 v7 v16 v20 v21) ?_
      refine OpsW.recast (env' := (qZ6f t0 v5 v6 v7 v16 v20 v21)) (h' := ((qZ62 v7 v16 v19 v20 v21) ++ fmsH (qZ77 v7 v16 v20 v21))) (StC.mkF (hc := (qZ62 v7 v16 v19 v20 v21)) (fs := (qZ77 v7 v16 v20 v21)) (hc' := (qZ62 v7 v16 v19 v20 v21)) (fs' := (qZ77 v7 v16 v20 v21)) rfl [(1, some 1), (4, some 4)] qZ6q rfl (.o rfl (.i3 .nil) (.o rfl (nsSameA rfl rfl (by decide) rfl rfl rfl) .nil)) rfl (.cons rfl (fmSame rfl) .nil) (.cons (.r rfl) (.cons (.s rfl) (.i7 .nil)))) ?_
      refine OpsW.nil ?_
      show ∃ y, _ ∧ StC _ _ _ _
      exact ⟨(v19, v20.set v7.toNat ((v20.getD v7.toNat []).set v16.toNat (qZ73 v7 v16 v20 v21))), H, (StC.mkF (hc := (qZ62 v7 v16 v19 v20 v21)) (fs := (qZ77 v7 v16 v20 v21)) (hc' := (qZ62 v7 v16 v19 v20 v21)) (fs' := (qZ77 v7 v16 v20 v21)) rfl [(1, some 1), (4, some 4)] qZ6q rfl (.o rfl (.i3 .nil) (.o rfl (nsSameA rfl rfl (by decide) rfl rfl rfl) .nil)) rfl (.cons rfl (fmSame rfl) .nil) (.cons (.r rfl) (.cons (.s rfl) (.i7 .nil))))⟩
     replace H := condF c34 H
     refine AW.skip ?_
     show ∃ y, _ ∧ StC _ _ _ _
     exact ⟨(v19, v20), H, (StC.mkF (hc := (qZ69 v19 v20)) (fs := (qZ78 v20)) (hc' := (qZ69 v19 v20)) (fs' := (qZ78 v20)) rfl [(1, some 1), (4, some 4)] qZ6q rfl (.o rfl (.i3 .nil) (.o rfl (nsSameA rfl rfl (by decide) rfl rfl rfl) .nil)) rfl (.cons rfl (fmSame rfl) .nil) (.cons (.r rfl) (.cons (.s rfl) (.i7 .nil))))⟩
    rintro ⟨v24, v25⟩ H
    change f_grid_ToCells_k1 loop22 v21 v24 v25 = some r at H
    unfold f_grid_ToCells_k1 at H
    change AW _ _ _ (qZ72 :: (4, .rsl 4 0 0 v25.length) :: (qZ60 t0 v5 v6 v7 v16 v21)) ((qZ6j v24 v25) ++ fmsH [fmA 10004 42 1 (eI .u8) v25]) _
    refine AW.region ?_
    obtain ⟨g26, H⟩ := G_some H
    refine OpsW.sq 2 [47, 1, 4, 5, 6, 28, 29, 43, 44] [inR (v21 + 1)] ((47, .int .i64 (v21 + 1)) :: qZ72 :: (4, .rsl 4 0 0 v25.length) :: (qZ7k v7) :: (6, .int .i64 v16) :: (qZ63 t0 v5 v6 v7 v16)) ⟨g26, trivial⟩ ?_
    refine OpsW.nil ?_
    show ∃ y, _ ∧ StC _ _ _ _
    exact ⟨(v24, v25, v21 + 1), H, (StC.mkF (hc := (qZ6j v24 v25)) (fs := [fmA 10004 42 1 (eI .u8) v25]) (hc' := (qZ6j v24 v25)) (fs' := [fmA 10004 42 1 (eI .u8) v25]) rfl [(1, some 1), (4, some 4)] qZ6q rfl (.o rfl (.i3 .nil) (.o rfl (nsSameA rfl rfl (by decide) rfl rfl rfl) .nil)) rfl (.cons rfl (fmSame rfl) .nil) (.cons (.r rfl) (.cons (.s rfl) (.i7 .nil))))⟩
   replace H := condF c23 H
   refine AW.exit ?_
   refine AW.region ?_
   obtain ⟨g38, H⟩ := G_some H
   refine OpsW.sq 2 [44, 1, 4, 5, 28, 29, 43] [inR (v16 + 1)] [(44, .int .i64 (v16 + 1)), qZ72, (qZ7m v20), (qZ7k v7), (qZ6z t0), (29, .int .i64 v7), (qZ7i v5 v6 v7)] ⟨g38, trivial⟩ ?_
   refine OpsW.nil ?_
   show ∃ y, _ ∧ StC _ _ _ _
   exact ⟨(v19, v20, v16 + 1), H, (StC.mkF (hc := (qZ69 v19 v20)) (fs := (qZ78 v20)) (hc' := (qZ69 v19 v20)) (fs' := (qZ78 v20)) rfl [(1, some 1), (4, some 4)] qZ6q rfl (.o rfl (.i3 .nil) (.o rfl (nsSameA rfl rfl (by decide) rfl rfl rfl) .nil)) rfl (.cons rfl (fmSame rfl) .nil) (.cons (.r rfl) (.cons (.s rfl) (.i5 .nil))))⟩
  replace H := condF c18 H
  refine AW.exit ?_
  refine AW.region ?_
  obtain ⟨g39, H⟩ := G_some H
  refine OpsW.sq 2 [29, 1, 4, 28] [inR (v7 + 1)] [(29, .int .i64 (v7 + 1)), qZ72, (4, .rsl 4 0 0 v15.length), (qZ6z t0)] ⟨g39, trivial⟩ ?_
  refine OpsW.nil ?_
  show ∃ y, _ ∧ StC _ _ _ _
  exact ⟨(v14, v15, v7 + 1), H, (StC.mkF (hc := (qZ6c v14 v15)) (fs := (qZ7f v15)) (hc' := (qZ6c v14 v15)) (fs' := (qZ7f v15)) rfl [(1, some 1), (4, some 4)] qZ6q rfl (.o rfl (.i3 .nil) (.o rfl (nsSameA rfl rfl (by decide) rfl rfl rfl) .nil)) rfl (.cons rfl (fmSame rfl) .nil) (.cons (.r rfl) (.cons (.s rfl) (.i2 .nil))))⟩
 replace H := condF c9 H
 refine AW.exit ?_
 refine AW.regionSeq (OpsW.sg 3 [3, 2] [(3, .int .i64 0), (2, .rsl 4 0 0 v6.length)] ?_)
 refine OpsW.recast (env' := [(3, .int .i64 0), (2, slA (eL (eI .u8)) v6)]) (h' := []) (StC.mkF (hc := (qZ6b v5 v6)) (fs := (qZ7c v6)) (hc' := []) (fs' := []) rfl [] [] rfl .nil rfl .nil (.cons .im (.cons (Cst.frzN rfl rfl (fun _ => rfl) rfl rfl rfl) .nil))) ?_
 refine OpsW.nil ?_
 obtain rfl := Option.some.inj H
 refine AW.recast (env' := [(2, slA (eL (eI .u8)) v6), (3, .int .i64 0)]) (h' := []) (StC.pure (.i2 .nil)) ?_
 refine AW.ret ?_
 try simp only [Ex.then, Ex.inBlock, Ex.noGoto, Ex.jump, reduceIte, Nat.reduceEqDiff, reduceCtorEq]
 refine Done.gen rfl (.tmp (.tmp .nil)) ?_
 show _ = _
 kernel_rfl
def f_line_Trim_b1 (t0 : List Int) (loop2 : (Int) → Option (List Int)) (v1 : Int) : Option (List Int) :=
 G ((decide (0 < v1)) = true → inR (v1 - 1)) <|
 G ((decide (0 < v1)) = true → (0 ≤ (v1 - 1) ∧ (v1 - 1) < (t0.length : Int))) <|
 cond (cond (decide (0 < v1)) ((t0.getD (v1 - 1).toNat (0 : Int)) == 0) false) (
  G (inR (v1 - 1)) <|
  loop2 (v1 - 1)) (
  G (0 ≤ v1 ∧ v1 ≤ (t0.length : Int)) <|
  some (t0.take v1.toNat))
def f_line_Trim (t0 : List Int) : Option (List Int) :=
 iter (fun loop (s : Int) => f_line_Trim_b1 t0 loop s) 1000000 (t0.length : Int)
section
variable (t0 : List Int) (v1 : Int)
abbrev qZ7o := decide (0 < v1)
abbrev qZ7p : Nat × AV := (0, slA (eI .u8) t0)
end
theorem f_line_Trim_ok  {t0 : List Int} {r : List Int} (H : f_line_Trim t0 = some r) : QSpec Tryd.prog 56 [slA (eI .u8) t0] (slA (eI .u8) r) := by
 refine Spec.of_AW Tryd.func56 rfl (by simp [Tryd.ntmps56]) ?_
 rw [Tryd.ntmps56]
 unfold f_line_Trim at H
 change AW _ _ _ [(qZ7p t0)] [] _
 refine AW.regionSeq (OpsW.sg 1 [0] [(qZ7p t0)] ?_)
 refine OpsW.nil (AW.regionSeq (OpsW.sg 3 [3, 0] [(3, .int .i64 (t0.length : Int)), (qZ7p t0)] ?_))
 refine OpsW.nil (AW.seq (AW.block ?_))
 refine AW.iterK (fun loop (s : Int) => f_line_Trim_b1 t0 loop s) r (fun (s : Int) => [(qZ7p t0), (3, .int .i64 s)]) (fun (s : Int) => []) ?_ 1000000 (t0.length : Int) H (StC.pure (.i2 .nil))
 intro loop2 v1 H
 change f_line_Trim_b1 t0 loop2 v1 = some r at H
 unfold f_line_Trim_b1 at H
 change AW _ _ _ [(qZ7p t0), (3, .int .i64 v1)] [] _
 refine AW.seq (AW.regionSeq ?_)
 obtain ⟨g3, H⟩ := G_some H
 obtain ⟨g4, H⟩ := G_some H
 refine OpsW.sq 7 [12, 8, 0, 3] [(qZ7o v1) = true → (qZ7o v1) = true, (qZ7o v1) = true → inR (v1 - 1), (qZ7o v1) = true → (qZ7o v1) = true, (qZ7o v1) = true → (qZ7o v1) = true, (qZ7o v1) = true → (0 ≤ (v1 - 1) ∧ (v1 - 1) < (t0.length : Int))] [(12, .cnd (qZ7o v1) (.ipt (t0.flatMap (eI .u8)) ((v1 - 1).toNat * 1))), (8, .bool (qZ7o v1)), (qZ7p t0), (3, .int .i64 v1)] ⟨(fun h => h), g3, (fun h => h), (fun h => h), g4, trivial⟩ ?_
 refine OpsW.asG (c := decide (0 < v1)) (.int .u8 (t0.getD (v1 - 1).toNat (0 : Int))) rfl rfl rfl rfl (fun hc => T.load rfl hc (by kernel_rfl) (fm_cell0 (eI .u8) 1 (fun _ => rfl) t0 (0 : Int) (v1 - 1).toNat (ltN (g4 hc)) (fun a => .val (.int .u8 a)) (fun _ => rfl))) ?_
 refine OpsW.sq 2 [15, 0, 3] [(qZ7o v1) = true → (qZ7o v1) = true, (qZ7o v1) = true → (qZ7o v1) = true] [(15, .bool (cond (qZ7o v1) ((t0.getD (v1 - 1).toNat (0 : Int)) == 0) false)), (qZ7p t0), (3, .int .i64 v1)] ⟨(fun h => h), (fun h => by first | exact h | (simpa using h) | grind), trivial⟩ ?_
 refine OpsW.nil (AW.cond (b := cond (qZ7o v1) ((t0.getD (v1 - 1).toNat (0 : Int)) == 0) false) rfl (fun c5 => ?_) (fun c5 => ?_))
 ·replace H := condT c5 H
  refine AW.skip (AW.block (AW.region ?_))
  obtain ⟨g6, H⟩ := G_some H
  refine OpsW.sq 3 [3, 0] [inR (v1 - 1)] [(3, .int .i64 (v1 - 1)), (qZ7p t0)] ⟨g6, trivial⟩ ?_
  refine OpsW.nil ?_
  show ∃ y, _ ∧ StC _ _ _ _
  exact ⟨v1 - 1, H, (StC.pure (.i2 .nil))⟩
 replace H := condF c5 H
 refine AW.exit ?_
 refine AW.regionSeq (OpsW.sg 3 [20, 19, 18] [(20, .int .i64 v1), (19, .int .i64 v1), (18, slA (eI .u8) t0)] ?_)
 obtain ⟨g7, H⟩ := G_some H
 refine OpsW.quietU (slA (eI .u8) (t0.take v1.toNat)) rfl rfl (Quiet.sliceMaxT (enc := eI .u8) (l := t0) rfl (by kernel_rfl) (by kernel_rfl) (fun _ => rfl) (gpoU rfl ⟨trivial, rfl, trivial, rfl, trivial, rfl, g7⟩)) ?_
 refine OpsW.sg 1 [2] [(2, slA (eI .u8) (t0.take v1.toNat))] ?_
 refine OpsW.nil ?_
 obtain rfl := Option.some.inj H
 refine AW.recast (env' := [(2, slA (eI .u8) (t0.take v1.toNat))]) (h' := []) (StC.pure (.cons .im .nil)) ?_
 refine AW.ret ?_
 refine Done.gen rfl (.tmp .nil) ?_
 show _ = _
 kernel_rfl
def f_sheet_lower_fn32_k1 (loop16 : ((List (List Int)) × Int × Int) → Option (List (List Int))) (v15 : Int) (v18 : List (List Int)) (v19 : Int) : Option (List (List Int)) :=
 G (inR (v15 + 1)) <|
 loop16 (v18, v19, v15 + 1)
def f_sheet_lower_fn32_b1 (x10 : (List (List Int)) × Int) (loop16 : ((List (List Int)) × Int × Int) → Option (List (List Int))) (v13 : List (List Int)) (v14 : Int) (v15 : Int) : Option (List (List Int)) :=
 cond (decide (v15 < (x10.1.length : Int))) (
  G (0 ≤ v15 ∧ v15 < (x10.1.length : Int)) <|
  (f_line_Trim (x10.1.getD v15.toNat [])).bind fun x22 =>
  G (room 24 (v13.length + 1)) <|
  G (0 ≤ v15 ∧ v15 < ((v13 ++ [x22]).length : Int)) <|
  cond (decide (0 < (((v13 ++ [x22]).getD v15.toNat []).length : Int))) (
   G (inR (v15 + 1)) <|
   f_sheet_lower_fn32_k1 loop16 v15 (v13 ++ [x22]) (v15 + 1)) (
   f_sheet_lower_fn32_k1 loop16 v15 (v13 ++ [x22]) v14)) (
  G (0 ≤ v14 ∧ v14 ≤ (v13.length : Int)) <|
  some (v13.take v14.toNat))
def f_sheet_lower_fn32_b2 (t0 : List (List Bool)) (t1 : Int) (t2 : Int) (loop4 : ((List (List Bool)) × Int) → Option (List (List Int))) (v2 : List (List Bool)) (v3 : Int) : Option (List (List Int)) :=
 cond (decide (v3 < (t0.length : Int))) (
  G (0 ≤ v3 ∧ v3 < (t0.length : Int)) <|
  (f_sheet_straight (t0.getD v3.toNat [])).bind fun x7 =>
  G (0 ≤ v3 ∧ v3 < (v2.length : Int)) <|
  G (inR (v3 + 1)) <|
  loop4 (v2.set v3.toNat x7, v3 + 1)) (
  (f_grid_ToCells (⟨t1, t2, v2⟩ : S_Grid)).bind fun x10 =>
  cond (x10.2 != 0) (
   some []) (
   G (0 ≤ (0 : Int) ∧ (0 : Int) ≤ (x10.1.length : Int) ∧ ((24 : Nat) : Int) * (x10.1.length : Int) ≤ 281474976710656 ∧ (x10.1.length : Int) ≤ 9223372036854775807) <|
   iter (fun loop (s : (List (List Int)) × Int × Int) => f_sheet_lower_fn32_b1 x10 loop s.1 s.2.1 s.2.2) 1000000 (List.replicate (0 : Int).toNat ([] : List Int), (0 : Int), (0 : Int))))
def f_sheet_lower_fn32 (t0 : List (List Bool)) (t1 : Int) (t2 : Int) : Option (List (List Int)) :=
 G (0 ≤ (t0.length : Int) ∧ (t0.length : Int) ≤ (t0.length : Int) ∧ ((24 : Nat) : Int) * (t0.length : Int) ≤ 281474976710656 ∧ (t0.length : Int) ≤ 9223372036854775807) <|
 iter (fun loop (s : (List (List Bool)) × Int) => f_sheet_lower_fn32_b2 t0 t1 t2 loop s.1 s.2) 1000000 (List.replicate (t0.length : Int).toNat ([] : List Bool), (0 : Int))
section
variable (t0 : List (List Bool)) (t1 : Int) (t2 : Int) (v2 : List (List Bool)) (v3 : Int) (v13 : List (List Int)) (v14 : Int) (v15 : Int) (x7 : (List Bool)) (x10 : (List (List Int)) × Int) (x22 : (List Int))
abbrev qZ7z := (List.replicate (t0.length : Int).toNat ([] : List Bool))
abbrev qZ80 := (List.replicate (0 : Int).toNat ([] : List Int))
abbrev qZ81 : Nat × AV := (1, .int .i64 t1)
abbrev qZ82 : Nat × AV := (2, .int .i64 t2)
abbrev qZ83 := (t0.length : Int)
abbrev qZ84 := (x10.1.length : Int)
abbrev qZ85 := List (List Int)
abbrev qZ7q : Env := [(48, slA (eL (eI .u8)) x10.1), (49, .int .i64 (qZ84 x10)), (50, .int .i64 v15)]
abbrev qZ7r : Env := [(21, slA (eL eB) t0), (22, .int .i64 (qZ83 t0)), (23, .int .i64 v3)]
abbrev qZ7s : Env := (14, .rsl 14 0 0 v13.length) :: (15, .int .i64 v14) :: (qZ7q v15 x10)
abbrev qZ7t : Env := [(12, slA (eL (eI .u8)) x10.1)]
abbrev qZ7u : Env := (14, .rsl 14 0 0 ((v13 ++ [x22]).length)) :: (16, .int .i64 v15) :: (15, .int .i64 v14) :: (qZ7q v15 x10)
abbrev qZ7v : Env := (47, .rsl 47 0 0 (qZ80.length)) :: (46, .int .i64 (qZ84 x10)) :: (qZ7t x10)
abbrev qZ7w : Env := (9, .rsl 9 0 0 v2.length) :: (qZ7r t0 v3)
abbrev qZ7x : Env := (14, .rsl 14 0 0 (qZ80.length)) :: (qZ7t x10)
abbrev qZ7y : Env := (9, .rsl 9 0 0 ((v2.set v3.toNat x7).length)) :: (qZ7r t0 v3)
end
theorem f_sheet_lower_fn32_ok  {t0 : List (List Bool)} {t1 : Int} {t2 : Int} {r : List (List Int)} (H : f_sheet_lower_fn32 t0 t1 t2 = some r) : QSpec Tryd.prog 40 [slA (eL eB) t0, .int .i64 t1, .int .i64 t2, .im (.val (.func (.func 32) #[] #[]))] (slA (eL (eI .u8)) r) := by
 refine Spec.of_AW Tryd.func40 rfl (by simp [Tryd.ntmps40]) ?_
 rw [Tryd.ntmps40]
 unfold f_sheet_lower_fn32 at H
 change AW _ _ _ [(0, slA (eL eB) t0), (qZ81 t1), (qZ82 t2), (3, .im (.val (.func (.func 32) #[] #[])))] [] _
 refine AW.regionSeq (OpsW.sg 1 [0, 1, 2, 3] [(0, slA (eL eB) t0), (qZ81 t1), (qZ82 t2), (3, .im (.val (.func (.func 32) #[] #[])))] ?_)
 refine OpsW.nil (AW.regionSeq (OpsW.sg 2 [19, 0, 1, 2, 3] [(19, .int .i64 (qZ83 t0)), (0, slA (eL eB) t0), (qZ81 t1), (qZ82 t2), (3, .im (.val (.func (.func 32) #[] #[])))] ?_))
 obtain ⟨g1, H⟩ := G_some H
 refine OpsW.makeR rfl rfl rfl 20 rfl E45 rfl rfl g1 ?_
 refine OpsW.weaken [(20, .rsl 20 0 0 ((qZ7z t0).length)), (19, .int .i64 (qZ83 t0)), (0, slA (eL eB) t0), (qZ81 t1), (qZ82 t2), (3, .im (.val (.func (.func 32) #[] #[])))] (Env.le_of_eq (by first | (rw [List.length_replicate]; rfl; done) | (simp only [qZ7z, qZ81, qZ82, qZ83]; rw [List.length_replicate]; rfl))) ?_
 refine OpsW.recast (env' := [(20, .rsl 20 0 0 ((qZ7z t0).length)), (19, .int .i64 (qZ83 t0)), (0, slA (eL eB) t0), (qZ81 t1), (qZ82 t2), (3, .im (.val (.func (.func 32) #[] #[])))]) (h' := [(20, rtA 0 61 1 (eL eB) (qZ7z t0))]) (StC.mk (phi [(20, some 20)]) (.o rfl (csNil (enc := eB) _) .nil) rfl (.cons (.s rfl) (.i5 .nil))) ?_
 refine OpsW.sg 1 [9, 0, 1, 2, 3] [(9, .rsl 20 0 0 ((qZ7z t0).length)), (0, slA (eL eB) t0), (qZ81 t1), (qZ82 t2), (3, .im (.val (.func (.func 32) #[] #[])))] ?_
 refine OpsW.recast (env' := [(9, .rsl 9 0 0 ((qZ7z t0).length)), (0, slA (eL eB) t0), (qZ81 t1), (qZ82 t2), (3, .im (.val (.func (.func 32) #[] #[])))]) (h' := [(9, rtA 0 61 1 (eL eB) (qZ7z t0))]) (StC.mk (phi [(9, some 20)]) (.o rfl (CstL.ims _) .nil) rfl (.cons (.s rfl) (.i4 .nil))) ?_
 refine OpsW.nil (AW.seq (AW.regionSeq (OpsW.sg 3 [23, 22, 21, 9, 1, 2, 3] [(23, .int .i64 0), (22, .int .i64 (qZ83 t0)), (21, slA (eL eB) t0), (9, .rsl 9 0 0 ((qZ7z t0).length)), (qZ81 t1), (qZ82 t2), (3, .im (.val (.func (.func 32) #[] #[])))] ?_)))
 refine OpsW.nil (AW.block ?_)
 refine AW.iterK (fun loop (s : (List (List Bool)) × Int) => f_sheet_lower_fn32_b2 t0 t1 t2 loop s.1 s.2) r (fun (s : (List (List Bool)) × Int) => [(qZ81 t1), (qZ82 t2), (3, .im (.val (.func (.func 32) #[] #[]))), (9, .rsl 9 0 0 s.1.length), (21, slA (eL eB) t0), (22, .int .i64 (qZ83 t0)), (23, .int .i64 s.2)]) (fun (s : (List (List Bool)) × Int) => [(9, rtA 0 61 1 (eL eB) s.1)]) ?_ 1000000 (List.replicate (qZ83 t0).toNat ([] : List Bool), (0 : Int)) H (StC.mk (phi [(9, some 9)]) (.o rfl (CstL.ims _) .nil) rfl (.i3 (.cons (.s rfl) (.i3 .nil))))
 intro loop4 s H
 obtain ⟨v2, v3⟩ := s
 change f_sheet_lower_fn32_b2 t0 t1 t2 loop4 v2 v3 = some r at H
 unfold f_sheet_lower_fn32_b2 at H
 change AW _ _ _ ((qZ81 t1) :: (qZ82 t2) :: (3, .im (.val (.func (.func 32) #[] #[]))) :: (qZ7w t0 v2 v3)) [(9, rtA 0 61 1 (eL eB) v2)] _
 refine AW.regionSeq (OpsW.sg 1 [24, 1, 2, 3, 9, 21, 22, 23] ((24, .bool (decide (v3 < (qZ83 t0)))) :: (qZ81 t1) :: (qZ82 t2) :: (3, .im (.val (.func (.func 32) #[] #[]))) :: (qZ7w t0 v2 v3)) ?_)
 refine OpsW.nil (AW.seq (AW.cond (b := decide (v3 < (qZ83 t0))) rfl (fun c5 => ?_) (fun c5 => ?_)))
 ·replace H := condT c5 H
  refine AW.skip (AW.seq (AW.block (AW.regionSeq ?_)))
  obtain ⟨g6, H⟩ := G_some H
  refine OpsW.sq 2 [26, 25, 1, 2, 3, 9, 21, 22, 23] [0 ≤ v3 ∧ v3 < (qZ83 t0)] ((26, .ipt (t0.flatMap (eL eB)) (v3.toNat * 1)) :: (25, .int .i64 v3) :: (qZ81 t1) :: (qZ82 t2) :: (3, .im (.val (.func (.func 32) #[] #[]))) :: (qZ7w t0 v2 v3)) ⟨g6, trivial⟩ ?_
  refine OpsW.asU (slA eB (t0.getD v3.toNat [])) rfl rfl (T.load rfl trivial (by kernel_rfl) (fm_cell0 (eL eB) 1 (fun _ => rfl) t0 [] v3.toNat (ltN g6) (fun a => .sl (a.flatMap eB) a.length) (fun _ => rfl))) ?_
  refine OpsW.sg 2 [11, 10, 1, 2, 3, 9, 21, 22, 23] ((11, slA eB (t0.getD v3.toNat [])) :: (10, .int .i64 v3) :: (qZ81 t1) :: (qZ82 t2) :: (3, .im (.val (.func (.func 32) #[] #[]))) :: (qZ7w t0 v2 v3)) ?_
  refine OpsW.nil (AW.region (OpsW.sg 4 [31, 30, 29, 28, 1, 2, 3, 9, 21, 22, 23] ((31, slA eB (t0.getD v3.toNat [])) :: (30, .im (.val (.func (.func 32) #[] #[]))) :: (29, .int .i64 v3) :: (28, .rsl 9 0 0 v2.length) :: (qZ81 t1) :: (qZ82 t2) :: (3, .im (.val (.func (.func 32) #[] #[]))) :: (qZ7w t0 v2 v3)) ?_))
  refine OpsW.valF rfl rfl (by kernel_rfl) ?_
  obtain ⟨x7, hx7, H⟩ := bindS H
  refine OpsW.qcall rfl (by kernel_rfl) rfl rfl (glAll_sound trivial) (.cons (.pur rfl) .nil) (f_sheet_straight_ok hx7) rfl ?_
  obtain ⟨g8, H⟩ := G_some H
  refine OpsW.sq 1 [33, 32, 1, 2, 3, 9, 21, 22, 23] [0 ≤ v3 ∧ v3 < (v2.length : Int)] ((33, .ref 9 0 (0 + v3.toNat * 1)) :: (32, slA eB x7) :: (qZ81 t1) :: (qZ82 t2) :: (3, .im (.val (.func (.func 32) #[] #[]))) :: (qZ7w t0 v2 v3)) ⟨g8, trivial⟩ ?_
  refine OpsW.storeT (enc := eL eB) (k := 1) [] x7 [.sl (x7.flatMap eB) x7.length] v3.toNat 0 rfl rfl rfl (by exact congrArg (AV.ref 9 0) (by first | omega | rfl | (simp only [qZ83]; omega) | (simp; omega))) trivial trivial rfl (fun _ => rfl) rfl (by kernel_rfl) (okCb_sound (by kernel_rfl)) (ltN g8) (Nat.le_of_ble_eq_true (by kernel_rfl)) rfl ?_
  refine OpsW.weaken ((33, .ref 9 0 (0 + v3.toNat * 1)) :: (32, slA eB x7) :: (qZ81 t1) :: (qZ82 t2) :: (3, .im (.val (.func (.func 32) #[] #[]))) :: (qZ7y t0 v2 v3 x7)) (Env.le_of_eq (by first | (simp only [List.length_set, List.length_reverse]; done) | (simp only [qZ81, qZ82, qZ83, qZ7r, qZ7w, qZ7y]; simp only [List.length_set, List.length_reverse]))) ?_
  refine OpsW.sg 0 [1, 2, 3, 9, 21, 22, 23] ((qZ81 t1) :: (qZ82 t2) :: (3, .im (.val (.func (.func 32) #[] #[]))) :: (qZ7y t0 v2 v3 x7)) ?_
  refine OpsW.recast (env' := ((qZ81 t1) :: (qZ82 t2) :: (3, .im (.val (.func (.func 32) #[] #[]))) :: (qZ7y t0 v2 v3 x7))) (h' := [(9, rtA 0 61 1 (eL eB) (v2.set v3.toNat x7))]) (StC.mk (phi [(9, some 9)]) (.o rfl (CstL.ims _) .nil) rfl (.i3 (.cons (.s rfl) (.i3 .nil)))) ?_
  refine OpsW.nil (AW.region ?_)
  obtain ⟨g9, H⟩ := G_some H
  refine OpsW.sq 2 [23, 1, 2, 3, 9, 21, 22] [inR (v3 + 1)] [(23, .int .i64 (v3 + 1)), (qZ81 t1), (qZ82 t2), (3, .im (.val (.func (.func 32) #[] #[]))), (9, .rsl 9 0 0 ((v2.set v3.toNat x7).length)), (21, slA (eL eB) t0), (22, .int .i64 (qZ83 t0))] ⟨g9, trivial⟩ ?_
  refine OpsW.nil ?_
  show ∃ y, _ ∧ StC _ _ _ _
  exact ⟨(v2.set v3.toNat x7, v3 + 1), H, (StC.mk (phi [(9, some 9)]) (.o rfl (CstL.ims _) .nil) rfl (.i3 (.cons (.s rfl) (.i3 .nil))))⟩
 replace H := condF c5 H
 refine AW.exit ?_
 refine AW.regionSeq (OpsW.sg 3 [38, 37, 36] [(38, .rsl 9 0 0 v2.length), (37, .int .i64 t2), (36, .int .i64 t1)] ?_)
 refine OpsW.recast (env' := [(38, slA (eL eB) v2), (37, .int .i64 t2), (36, .int .i64 t1)]) (h' := []) (StC.mk (phi []) .nil rfl (.cons (.frz rfl rfl rfl (frz_all (eL eB) 1 (fun _ => rfl) v2) (fm_length (eL eB) 1 (fun _ => rfl) v2) (phi_ne rfl)) (.i2 .nil))) ?_
 refine OpsW.sg 1 [39] [(39, .agg [.int .i64 t1, .int .i64 t2, slA (eL eB) v2])] ?_
 obtain ⟨x10, hx10, H⟩ := bindS H
 refine OpsW.qcall rfl (by kernel_rfl) rfl rfl (glAll_sound trivial) (.cons (.pur rfl) .nil) (f_grid_ToCells_ok hx10) rfl ?_
 refine OpsW.sg 5 [13, 12] ((13, .int .i64 x10.2) :: (qZ7t x10)) ?_
 refine OpsW.recast (env' := ((13, .int .i64 x10.2) :: (qZ7t x10))) (h' := []) (StC.pure (.i2 .nil)) ?_
 refine OpsW.nil (AW.seq (AW.regionSeq (OpsW.sg 2 [44, 12] ((44, .bool (x10.2 != 0)) :: (qZ7t x10)) ?_)))
 refine OpsW.nil (AW.cond (b := x10.2 != 0) rfl (fun c11 => ?_) (fun c11 => ?_))
 ·replace H := condT c11 H
  refine AW.regionSeq (OpsW.sg 1 [8] [(8, .im (.val (.slice none 0 0)))] ?_)
  refine OpsW.nil ?_
  obtain rfl := Option.some.inj H
  refine AW.recast (env' := [(8, slA (eL (eI .u8)) [])]) (h' := []) (StC.pure (.cons .nil .nil)) ?_
  refine AW.ret ?_
  try simp only [Ex.then, Ex.inBlock, Ex.noGoto, Ex.jump, reduceIte, Nat.reduceEqDiff, reduceCtorEq]
  refine Done.gen rfl (.tmp .nil) ?_
  show _ = _
  kernel_rfl
 replace H := condF c11 H
 refine AW.skip (AW.regionSeq (OpsW.sg 2 [46, 12] ((46, .int .i64 (qZ84 x10)) :: (qZ7t x10)) ?_))
 obtain ⟨g12, H⟩ := G_some H
 refine OpsW.makeR rfl rfl rfl 47 rfl E37 rfl rfl g12 ?_
 refine OpsW.weaken (qZ7v x10) (Env.le_of_eq (by first | (rw [List.length_replicate]; rfl; done) | (simp only [qZ80, qZ84, qZ7t, qZ7v]; rw [List.length_replicate]; rfl))) ?_
 refine OpsW.recast (env' := (qZ7v x10)) (h' := [(47, rtA 0 41 1 (eL (eI .u8)) qZ80)]) (StC.mk (phi [(47, some 47)]) (.o rfl (csNil (enc := eI .u8) _) .nil) rfl (.cons (.s rfl) (.i2 .nil))) ?_
 refine OpsW.sg 1 [14, 12] ((14, .rsl 47 0 0 (qZ80.length)) :: (qZ7t x10)) ?_
 refine OpsW.recast (env' := (qZ7x x10)) (h' := [(14, rtA 0 41 1 (eL (eI .u8)) qZ80)]) (StC.mk (phi [(14, some 47)]) (.o rfl (CstL.ims _) .nil) rfl (.cons (.s rfl) (.cons .im .nil))) ?_
 refine OpsW.nil (AW.regionSeq (OpsW.sg 1 [15, 14, 12] ((15, .int .i64 0) :: (qZ7x x10)) ?_))
 refine OpsW.nil (AW.seq (AW.regionSeq (OpsW.sg 3 [50, 49, 48, 15, 14] [(50, .int .i64 0), (49, .int .i64 (qZ84 x10)), (48, slA (eL (eI .u8)) x10.1), (15, .int .i64 0), (14, .rsl 14 0 0 (qZ80.length))] ?_)))
 refine OpsW.nil (AW.block ?_)
 refine AW.iterK (fun loop (s : qZ85 × Int × Int) => f_sheet_lower_fn32_b1 x10 loop s.1 s.2.1 s.2.2) r (fun (s : qZ85 × Int × Int) => [(14, .rsl 14 0 0 s.1.length), (15, .int .i64 s.2.1), (48, slA (eL (eI .u8)) x10.1), (49, .int .i64 (qZ84 x10)), (50, .int .i64 s.2.2)]) (fun (s : qZ85 × Int × Int) => [(14, rtA 0 41 1 (eL (eI .u8)) s.1)]) ?_ 1000000 (List.replicate (0 : Int).toNat ([] : List Int), (0 : Int), (0 : Int)) H (StC.mk (phi [(14, some 14)]) (.o rfl (CstL.ims _) .nil) rfl (.cons (.s rfl) (.i4 .nil)))
 intro loop16 s H
 obtain ⟨v13, v14, v15⟩ := s
 change f_sheet_lower_fn32_b1 x10 loop16 v13 v14 v15 = some r at H
 unfold f_sheet_lower_fn32_b1 at H
 change AW _ _ _ (qZ7s v13 v14 v15 x10) [(14, rtA 0 41 1 (eL (eI .u8)) v13)] _
 refine AW.regionSeq (OpsW.sg 1 [51, 14, 15, 48, 49, 50] ((51, .bool (decide (v15 < (qZ84 x10)))) :: (qZ7s v13 v14 v15 x10)) ?_)
 refine OpsW.nil (AW.seq (AW.cond (b := decide (v15 < (qZ84 x10))) rfl (fun c17 => ?_) (fun c17 => ?_)))
 ·replace H := condT c17 H
  refine AW.skip ?_
  refine AW.joinK (fun (y : qZ85 × Int) => f_sheet_lower_fn32_k1 loop16 v15 y.1 y.2) r (fun (y : qZ85 × Int) => ((14, .rsl 14 0 0 y.1.length) :: (15, .int .i64 y.2) :: (qZ7q v15 x10))) (fun (y : qZ85 × Int) => [(14, rtA 0 41 1 (eL (eI .u8)) y.1)]) ?_ ?_
  ·refine AW.block (AW.regionSeq ?_)
   obtain ⟨g21, H⟩ := G_some H
   refine OpsW.sq 2 [53, 52, 14, 15, 48, 49, 50] [0 ≤ v15 ∧ v15 < (qZ84 x10)] ((53, .ipt (x10.1.flatMap (eL (eI .u8))) (v15.toNat * 1)) :: (52, .int .i64 v15) :: (qZ7s v13 v14 v15 x10)) ⟨g21, trivial⟩ ?_
   refine OpsW.asU (slA (eI .u8) (x10.1.getD v15.toNat [])) rfl rfl (T.load rfl trivial (by kernel_rfl) (fm_cell0 (eL (eI .u8)) 1 (fun _ => rfl) x10.1 [] v15.toNat (ltN g21) (fun a => .sl (a.flatMap (eI .u8)) a.length) (fun _ => rfl))) ?_
   refine OpsW.sg 2 [17, 16, 14, 15, 48, 49, 50] ((17, slA (eI .u8) (x10.1.getD v15.toNat [])) :: (16, .int .i64 v15) :: (qZ7s v13 v14 v15 x10)) ?_
   refine OpsW.nil (AW.regionSeq (OpsW.sg 2 [56, 55, 16, 14, 15, 48, 49, 50] ((56, slA (eI .u8) (x10.1.getD v15.toNat [])) :: (55, .rsl 14 0 0 v13.length) :: (16, .int .i64 v15) :: (qZ7s v13 v14 v15 x10)) ?_))
   obtain ⟨x22, hx22, H⟩ := bindS H
   refine OpsW.qcall rfl (by kernel_rfl) rfl rfl (glAll_sound trivial) (.cons (.pur rfl) .nil) (f_line_Trim_ok hx22) rfl ?_
   obtain ⟨g23, H⟩ := G_some H
   refine OpsW.appendLF (enc := eL (eI .u8)) [x22] rfl rfl rfl (by decide) rfl rfl rfl (by simp) E37 (fun _ => rfl) (by decide) trivial (by kernel_rfl) (by kernel_rfl) (by kernel_rfl) rfl rfl rfl g23 ?_
   refine OpsW.sg 1 [14, 16, 15, 48, 49, 50] ((14, .rsl 14 1 0 ((v13 ++ [x22]).length)) :: (16, .int .i64 v15) :: (15, .int .i64 v14) :: (qZ7q v15 x10)) ?_
   refine OpsW.recast (env' := (qZ7u v13 v14 v15 x10 x22)) (h' := [(14, rtA 0 41 1 (eL (eI .u8)) (v13 ++ [x22]))]) (StC.mk (phi [(14, some 14)]) (.o rfl (CstL.ims _) .nil) rfl (.cons (.s rfl) (.i5 .nil))) ?_
   refine OpsW.nil (AW.regionSeq ?_)
   obtain ⟨g24, H⟩ := G_some H
   refine OpsW.sq 3 [62, 14, 16, 15, 48, 49, 50] [0 ≤ v15 ∧ v15 < ((v13 ++ [x22]).length : Int)] ((62, .ref 14 0 (0 + v15.toNat * 1)) :: (qZ7u v13 v14 v15 x10 x22)) ⟨g24, trivial⟩ ?_
   refine OpsW.asU (slA (eI .u8) ((v13 ++ [x22]).getD v15.toNat [])) rfl rfl (T.loadR rfl trivial (by kernel_rfl) rfl rfl rfl (rt_cell (eL (eI .u8)) 1 (fun _ => rfl) (v13 ++ [x22]) [] v15.toNat (ltN g24) 0 (fun a => .sl (a.flatMap (eI .u8)) a.length) (fun _ => rfl) (by first | omega | (simp only [qZ84]; omega)))) ?_
   refine OpsW.sg 2 [65, 14, 16, 15, 48, 49, 50] ((65, .bool (decide (0 < (((v13 ++ [x22]).getD v15.toNat []).length : Int)))) :: (qZ7u v13 v14 v15 x10 x22)) ?_
   refine OpsW.nil (AW.cond (b := decide (0 < (((v13 ++ [x22]).getD v15.toNat []).length : Int))) rfl (fun c25 => ?_) (fun c25 => ?_))
   ·replace H := condT c25 H
    refine AW.region ?_
    obtain ⟨g26, H⟩ := G_some H
    refine OpsW.sq 3 [15, 14, 48, 49, 50] [inR (v15 + 1)] ((15, .int .i64 (v15 + 1)) :: (14, .rsl 14 0 0 ((v13 ++ [x22]).length)) :: (qZ7q v15 x10)) ⟨g26, trivial⟩ ?_
    refine OpsW.nil ?_
    show ∃ y, _ ∧ StC _ _ _ _
    exact ⟨(v13 ++ [x22], v15 + 1), H, (StC.mk (phi [(14, some 14)]) (.o rfl (CstL.ims _) .nil) rfl (.cons (.s rfl) (.i4 .nil)))⟩
   replace H := condF c25 H
   refine AW.skip ?_
   show ∃ y, _ ∧ StC _ _ _ _
   exact ⟨(v13 ++ [x22], v14), H, (StC.mk (phi [(14, some 14)]) (.o rfl (CstL.ims _) .nil) rfl (.cons (.s rfl) (.i4 .nil)))⟩
  rintro ⟨v18, v19⟩ H
  change f_sheet_lower_fn32_k1 loop16 v15 v18 v19 = some r at H
  unfold f_sheet_lower_fn32_k1 at H
  change AW _ _ _ ((14, .rsl 14 0 0 v18.length) :: (15, .int .i64 v19) :: (qZ7q v15 x10)) [(14, rtA 0 41 1 (eL (eI .u8)) v18)] _
  refine AW.region ?_
  obtain ⟨g20, H⟩ := G_some H
  refine OpsW.sq 2 [50, 14, 15, 48, 49] [inR (v15 + 1)] [(50, .int .i64 (v15 + 1)), (14, .rsl 14 0 0 v18.length), (15, .int .i64 v19), (48, slA (eL (eI .u8)) x10.1), (49, .int .i64 (qZ84 x10))] ⟨g20, trivial⟩ ?_
  refine OpsW.nil ?_
  show ∃ y, _ ∧ StC _ _ _ _
  exact ⟨(v18, v19, v15 + 1), H, (StC.mk (phi [(14, some 14)]) (.o rfl (CstL.ims _) .nil) rfl (.cons (.s rfl) (.i4 .nil)))⟩
 replace H := condF c17 H
 refine AW.exit ?_
 refine AW.regionSeq (OpsW.sg 3 [71, 70, 69] [(71, .int .i64 v14), (70, .int .i64 v14), (69, .rsl 14 0 0 v13.length)] ?_)
 refine OpsW.recast (env' := [(71, .int .i64 v14), (70, .int .i64 v14), (69, slA (eL (eI .u8)) v13)]) (h' := []) (StC.mk (phi []) .nil rfl (.i2 (.cons (.frz rfl rfl rfl (frz_all (eL (eI .u8)) 1 (fun _ => rfl) v13) (fm_length (eL (eI .u8)) 1 (fun _ => rfl) v13) (phi_ne rfl)) .nil))) ?_
 obtain ⟨g27, H⟩ := G_some H
 refine OpsW.quietU (slA (eL (eI .u8)) (v13.take v14.toNat)) rfl rfl (Quiet.sliceMaxT (enc := eL (eI .u8)) (l := v13) rfl (by kernel_rfl) (by kernel_rfl) (fun _ => rfl) (gpoU rfl ⟨trivial, rfl, trivial, rfl, trivial, rfl, g27⟩)) ?_
 refine OpsW.sg 1 [8] [(8, slA (eL (eI .u8)) (v13.take v14.toNat))] ?_
 refine OpsW.recast (env' := [(8, slA (eL (eI .u8)) (v13.take v14.toNat))]) (h' := []) (StC.pure (.cons .im .nil)) ?_
 refine OpsW.nil ?_
 obtain rfl := Option.some.inj H
 refine AW.recast (env' := [(8, slA (eL (eI .u8)) (v13.take v14.toNat))]) (h' := []) (StC.pure (.cons .im .nil)) ?_
 refine AW.ret ?_
 try simp only [Ex.then, Ex.inBlock, Ex.noGoto, Ex.jump, reduceIte, Nat.reduceEqDiff, reduceCtorEq]
 refine Done.gen rfl (.tmp .nil) ?_
 show _ = _
 kernel_rfl
def f_sheet_Front (t0 : S_Plate) : Option (List (List Int)) :=
 (f_sheet_Valid t0).bind fun x1 =>
 cond (!x1) (
  some []) (
  (f_sheet_lower_fn32 t0.Up t0.W t0.H).bind fun x3 =>
  some x3)
section
variable (t0 : S_Plate)
abbrev qZ87 : List AV := [.int .i64 t0.W, .int .i64 t0.H, slA (eL eB) t0.Up, slA (eL eB) t0.Down]
abbrev qZ86 : Hp := [(1, ⟨0, true, 47, 4, (qZ87 t0)⟩)]
end
theorem f_sheet_Front_ok  {t0 : S_Plate} {r : List (List Int)} (H : f_sheet_Front t0 = some r) : QSpec Tryd.prog 18 [.agg [.int .i64 t0.W, .int .i64 t0.H, slA (eL eB) t0.Up, slA (eL eB) t0.Down]] (slA (eL (eI .u8)) r) := by
 refine Spec.of_AW Tryd.func18 rfl (by simp [Tryd.ntmps18]) ?_
 rw [Tryd.ntmps18]
 unfold f_sheet_Front at H
 change AW _ _ _ [(0, .agg (qZ87 t0))] [] _
 refine AW.regionSeq (OpsW.box rfl rfl rfl 1 rfl (okCb_sound (by kernel_rfl)) ?_)
 change OpsW _ _ _ _ _ (qZ86 t0) _
 refine OpsW.sg 1 [1] [(1, .ref 1 0 0)] ?_
 refine OpsW.recast (env' := [(1, .ref 1 0 0)]) (h' := (qZ86 t0)) (StC.mk (phi [(1, some 1)]) (.o rfl (.i4 .nil) .nil) rfl (.cons (.r rfl) .nil)) ?_
 refine OpsW.nil (AW.seq (AW.regionSeq (OpsW.sg 1 [3, 1] [(3, .agg (qZ87 t0)), (1, .ref 1 0 0)] ?_)))
 obtain ⟨x1, hx1, H⟩ := bindS H
 refine OpsW.qcall rfl (by kernel_rfl) rfl rfl (glAll_sound trivial) (.cons (.pur rfl) .nil) (f_sheet_Valid_ok hx1) rfl ?_
 refine OpsW.sg 1 [5, 1] [(5, .bool (!x1)), (1, .ref 1 0 0)] ?_
 refine OpsW.nil (AW.cond (b := !x1) rfl (fun c2 => ?_) (fun c2 => ?_))
 ·replace H := condT c2 H
  refine AW.regionSeq (OpsW.sg 1 [2] [(2, .im (.val (.slice none 0 0)))] ?_)
  refine OpsW.nil ?_
  obtain rfl := Option.some.inj H
  refine AW.recast (env' := [(2, slA (eL (eI .u8)) [])]) (h' := []) (StC.pure (.cons .nil .nil)) ?_
  refine AW.ret ?_
  try simp only [Ex.then, Ex.inBlock, Ex.noGoto, Ex.jump, reduceIte, Nat.reduceEqDiff, reduceCtorEq]
  refine Done.gen rfl (.tmp .nil) ?_
  show _ = _
  kernel_rfl
 replace H := condF c2 H
 refine AW.skip (AW.regionSeq (OpsW.sg 6 [11, 9, 7] [(11, .int .i64 t0.H), (9, .int .i64 t0.W), (7, slA (eL eB) t0.Up)] ?_))
 obtain ⟨x3, hx3, H⟩ := bindS H
 refine OpsW.qcall rfl (by kernel_rfl) rfl rfl (glAll_sound trivial) (.cons (.pur rfl) (.cons (.pur rfl) (.cons (.pur rfl) (.cons (.pur rfl) .nil)))) (f_sheet_lower_fn32_ok hx3) rfl ?_
 refine OpsW.sg 1 [2] [(2, slA (eL (eI .u8)) x3)] ?_
 refine OpsW.nil ?_
 obtain rfl := Option.some.inj H
 refine AW.recast (env' := [(2, slA (eL (eI .u8)) x3)]) (h' := []) (StC.pure (.cons .im .nil)) ?_
 refine AW.ret ?_
 try simp only [Ex.then, Ex.inBlock, Ex.noGoto, Ex.jump, reduceIte, Nat.reduceEqDiff, reduceCtorEq]
 refine Done.gen rfl (.tmp .nil) ?_
 show _ = _
 kernel_rfl
def f_sheet_lower_fn33_k1 (loop16 : ((List (List Int)) × Int × Int) → Option (List (List Int))) (v15 : Int) (v18 : List (List Int)) (v19 : Int) : Option (List (List Int)) :=
 G (inR (v15 + 1)) <|
 loop16 (v18, v19, v15 + 1)
def f_sheet_lower_fn33_b1 (x10 : (List (List Int)) × Int) (loop16 : ((List (List Int)) × Int × Int) → Option (List (List Int))) (v13 : List (List Int)) (v14 : Int) (v15 : Int) : Option (List (List Int)) :=
 cond (decide (v15 < (x10.1.length : Int))) (
  G (0 ≤ v15 ∧ v15 < (x10.1.length : Int)) <|
  (f_line_Trim (x10.1.getD v15.toNat [])).bind fun x22 =>
  G (room 24 (v13.length + 1)) <|
  G (0 ≤ v15 ∧ v15 < ((v13 ++ [x22]).length : Int)) <|
  cond (decide (0 < (((v13 ++ [x22]).getD v15.toNat []).length : Int))) (
   G (inR (v15 + 1)) <|
   f_sheet_lower_fn33_k1 loop16 v15 (v13 ++ [x22]) (v15 + 1)) (
   f_sheet_lower_fn33_k1 loop16 v15 (v13 ++ [x22]) v14)) (
  G (0 ≤ v14 ∧ v14 ≤ (v13.length : Int)) <|
  some (v13.take v14.toNat))
def f_sheet_lower_fn33_b2 (t0 : List (List Bool)) (t1 : Int) (t2 : Int) (loop4 : ((List (List Bool)) × Int) → Option (List (List Int))) (v2 : List (List Bool)) (v3 : Int) : Option (List (List Int)) :=
 cond (decide (v3 < (t0.length : Int))) (
  G (0 ≤ v3 ∧ v3 < (t0.length : Int)) <|
  (f_sheet_turned (t0.getD v3.toNat [])).bind fun x7 =>
  G (0 ≤ v3 ∧ v3 < (v2.length : Int)) <|
  G (inR (v3 + 1)) <|
  loop4 (v2.set v3.toNat x7, v3 + 1)) (
  (f_grid_ToCells (⟨t1, t2, v2⟩ : S_Grid)).bind fun x10 =>
  cond (x10.2 != 0) (
   some []) (
   G (0 ≤ (0 : Int) ∧ (0 : Int) ≤ (x10.1.length : Int) ∧ ((24 : Nat) : Int) * (x10.1.length : Int) ≤ 281474976710656 ∧ (x10.1.length : Int) ≤ 9223372036854775807) <|
   iter (fun loop (s : (List (List Int)) × Int × Int) => f_sheet_lower_fn33_b1 x10 loop s.1 s.2.1 s.2.2) 1000000 (List.replicate (0 : Int).toNat ([] : List Int), (0 : Int), (0 : Int))))
def f_sheet_lower_fn33 (t0 : List (List Bool)) (t1 : Int) (t2 : Int) : Option (List (List Int)) :=
 G (0 ≤ (t0.length : Int) ∧ (t0.length : Int) ≤ (t0.length : Int) ∧ ((24 : Nat) : Int) * (t0.length : Int) ≤ 281474976710656 ∧ (t0.length : Int) ≤ 9223372036854775807) <|
 iter (fun loop (s : (List (List Bool)) × Int) => f_sheet_lower_fn33_b2 t0 t1 t2 loop s.1 s.2) 1000000 (List.replicate (t0.length : Int).toNat ([] : List Bool), (0 : Int))
section
variable (t0 : List (List Bool)) (t1 : Int) (t2 : Int) (v2 : List (List Bool)) (v3 : Int) (v13 : List (List Int)) (v14 : Int) (v15 : Int) (x7 : (List Bool)) (x10 : (List (List Int)) × Int) (x22 : (List Int))
abbrev qZ8h := (List.replicate (t0.length : Int).toNat ([] : List Bool))
abbrev qZ8i := (List.replicate (0 : Int).toNat ([] : List Int))
abbrev qZ8j : Nat × AV := (1, .int .i64 t1)
abbrev qZ8k : Nat × AV := (2, .int .i64 t2)
abbrev qZ8l := (t0.length : Int)
abbrev qZ8m := (x10.1.length : Int)
abbrev qZ8n := List (List Int)
abbrev qZ88 : Env := [(48, slA (eL (eI .u8)) x10.1), (49, .int .i64 (qZ8m x10)), (50, .int .i64 v15)]
abbrev qZ89 : Env := [(21, slA (eL eB) t0), (22, .int .i64 (qZ8l t0)), (23, .int .i64 v3)]
abbrev qZ8a : Env := (14, .rsl 14 0 0 v13.length) :: (15, .int .i64 v14) :: (qZ88 v15 x10)
abbrev qZ8b : Env := [(12, slA (eL (eI .u8)) x10.1)]
abbrev qZ8c : Env := (14, .rsl 14 0 0 ((v13 ++ [x22]).length)) :: (16, .int .i64 v15) :: (15, .int .i64 v14) :: (qZ88 v15 x10)
abbrev qZ8d : Env := (47, .rsl 47 0 0 (qZ8i.length)) :: (46, .int .i64 (qZ8m x10)) :: (qZ8b x10)
abbrev qZ8e : Env := (9, .rsl 9 0 0 v2.length) :: (qZ89 t0 v3)
abbrev qZ8f : Env := (14, .rsl 14 0 0 (qZ8i.length)) :: (qZ8b x10)
abbrev qZ8g : Env := (9, .rsl 9 0 0 ((v2.set v3.toNat x7).length)) :: (qZ89 t0 v3)
end
theorem f_sheet_lower_fn33_ok  {t0 : List (List Bool)} {t1 : Int} {t2 : Int} {r : List (List Int)} (H : f_sheet_lower_fn33 t0 t1 t2 = some r) : QSpec Tryd.prog 40 [slA (eL eB) t0, .int .i64 t1, .int .i64 t2, .im (.val (.func (.func 33) #[] #[]))] (slA (eL (eI .u8)) r) := by
 refine Spec.of_AW Tryd.func40 rfl (by simp [Tryd.ntmps40]) ?_
 rw [Tryd.ntmps40]
 unfold f_sheet_lower_fn33 at H
 change AW _ _ _ [(0, slA (eL eB) t0), (qZ8j t1), (qZ8k t2), (3, .im (.val (.func (.func 33) #[] #[])))] [] _
 refine AW.regionSeq (OpsW.sg 1 [0, 1, 2, 3] [(0, slA (eL eB) t0), (qZ8j t1), (qZ8k t2), (3, .im (.val (.func (.func 33) #[] #[])))] ?_)
 refine OpsW.nil (AW.regionSeq (OpsW.sg 2 [19, 0, 1, 2, 3] [(19, .int .i64 (qZ8l t0)), (0, slA (eL eB) t0), (qZ8j t1), (qZ8k t2), (3, .im (.val (.func (.func 33) #[] #[])))] ?_))
 obtain ⟨g1, H⟩ := G_some H
 refine OpsW.makeR rfl rfl rfl 20 rfl E45 rfl rfl g1 ?_
 refine OpsW.weaken [(20, .rsl 20 0 0 ((qZ8h t0).length)), (19, .int .i64 (qZ8l t0)), (0, slA (eL eB) t0), (qZ8j t1), (qZ8k t2), (3, .im (.val (.func (.func 33) #[] #[])))] (Env.le_of_eq (by first | (rw [List.length_replicate]; rfl; done) | (simp only [qZ8h, qZ8j, qZ8k, qZ8l]; rw [List.length_replicate]; rfl))) ?_
 refine OpsW.recast (env' := [(20, .rsl 20 0 0 ((qZ8h t0).length)), (19, .int .i64 (qZ8l t0)), (0, slA (eL eB) t0), (qZ8j t1), (qZ8k t2), (3, .im (.val (.func (.func 33) #[] #[])))]) (h' := [(20, rtA 0 61 1 (eL eB) (qZ8h t0))]) (StC.mk (phi [(20, some 20)]) (.o rfl (csNil (enc := eB) _) .nil) rfl (.cons (.s rfl) (.i5 .nil))) ?_
 refine OpsW.sg 1 [9, 0, 1, 2, 3] [(9, .rsl 20 0 0 ((qZ8h t0).length)), (0, slA (eL eB) t0), (qZ8j t1), (qZ8k t2), (3, .im (.val (.func (.func 33) #[] #[])))] ?_
 refine OpsW.recast (env' := [(9, .rsl 9 0 0 ((qZ8h t0).length)), (0, slA (eL eB) t0), (qZ8j t1), (qZ8k t2), (3, .im (.val (.func (.func 33) #[] #[])))]) (h' := [(9, rtA 0 61 1 (eL eB) (qZ8h t0))]) (StC.mk (phi [(9, some 20)]) (.o rfl (CstL.ims _) .nil) rfl (.cons (.s rfl) (.i4 .nil))) ?_
 refine OpsW.nil (AW.seq (AW.regionSeq (OpsW.sg 3 [23, 22, 21, 9, 1, 2, 3] [(23, .int .i64 0), (22, .int .i64 (qZ8l t0)), (21, slA (eL eB) t0), (9, .rsl 9 0 0 ((qZ8h t0).length)), (qZ8j t1), (qZ8k t2), (3, .im (.val (.func (.func 33) #[] #[])))] ?_)))
 refine OpsW.nil (AW.block ?_)
 refine AW.iterK (fun loop (s : (List (List Bool)) × Int) => f_sheet_lower_fn33_b2 t0 t1 t2 loop s.1 s.2) r (fun (s : (List (List Bool)) × Int) => [(qZ8j t1), (qZ8k t2), (3, .im (.val (.func (.func 33) #[] #[]))), (9, .rsl 9 0 0 s.1.length), (21, slA (eL eB) t0), (22, .int .i64 (qZ8l t0)), (23, .int .i64 s.2)]) (fun (s : (List (List Bool)) × Int) => [(9, rtA 0 61 1 (eL eB) s.1)]) ?_ 1000000 (List.replicate (qZ8l t0).toNat ([] : List Bool), (0 : Int)) H (StC.mk (phi [(9, some 9)]) (.o rfl (CstL.ims _) .nil) rfl (.i3 (.cons (.s rfl) (.i3 .nil))))
 intro loop4 s H
 obtain ⟨v2, v3⟩ := s
 change f_sheet_lower_fn33_b2 t0 t1 t2 loop4 v2 v3 = some r at H
 unfold f_sheet_lower_fn33_b2 at H
 change AW _ _ _ ((qZ8j t1) :: (qZ8k t2) :: (3, .im (.val (.func (.func 33) #[] #[]))) :: (qZ8e t0 v2 v3)) [(9, rtA 0 61 1 (eL eB) v2)] _
 refine AW.regionSeq (OpsW.sg 1 [24, 1, 2, 3, 9, 21, 22, 23] ((24, .bool (decide (v3 < (qZ8l t0)))) :: (qZ8j t1) :: (qZ8k t2) :: (3, .im (.val (.func (.func 33) #[] #[]))) :: (qZ8e t0 v2 v3)) ?_)
 refine OpsW.nil (AW.seq (AW.cond (b := decide (v3 < (qZ8l t0))) rfl (fun c5 => ?_) (fun c5 => ?_)))
 ·replace H := condT c5 H
  refine AW.skip (AW.seq (AW.block (AW.regionSeq ?_)))
  obtain ⟨g6, H⟩ := G_some H
  refine OpsW.sq 2 [26, 25, 1, 2, 3, 9, 21, 22, 23] [0 ≤ v3 ∧ v3 < (qZ8l t0)] ((26, .ipt (t0.flatMap (eL eB)) (v3.toNat * 1)) :: (25, .int .i64 v3) :: (qZ8j t1) :: (qZ8k t2) :: (3, .im (.val (.func (.func 33) #[] #[]))) :: (qZ8e t0 v2 v3)) ⟨g6, trivial⟩ ?_
  refine OpsW.asU (slA eB (t0.getD v3.toNat [])) rfl rfl (T.load rfl trivial (by kernel_rfl) (fm_cell0 (eL eB) 1 (fun _ => rfl) t0 [] v3.toNat (ltN g6) (fun a => .sl (a.flatMap eB) a.length) (fun _ => rfl))) ?_
  refine OpsW.sg 2 [11, 10, 1, 2, 3, 9, 21, 22, 23] ((11, slA eB (t0.getD v3.toNat [])) :: (10, .int .i64 v3) :: (qZ8j t1) :: (qZ8k t2) :: (3, .im (.val (.func (.func 33) #[] #[]))) :: (qZ8e t0 v2 v3)) ?_
  refine OpsW.nil (AW.region (OpsW.sg 4 [31, 30, 29, 28, 1, 2, 3, 9, 21, 22, 23] ((31, slA eB (t0.getD v3.toNat [])) :: (30, .im (.val (.func (.func 33) #[] #[]))) :: (29, .int .i64 v3) :: (28, .rsl 9 0 0 v2.length) :: (qZ8j t1) :: (qZ8k t2) :: (3, .im (.val (.func (.func 33) #[] #[]))) :: (qZ8e t0 v2 v3)) ?_))
  refine OpsW.valF rfl rfl (by kernel_rfl) ?_
  obtain ⟨x7, hx7, H⟩ := bindS H
  refine OpsW.qcall rfl (by kernel_rfl) rfl rfl (glAll_sound trivial) (.cons (.pur rfl) .nil) (f_sheet_turned_ok hx7) rfl ?_
  obtain ⟨g8, H⟩ := G_some H
  refine OpsW.sq 1 [33, 32, 1, 2, 3, 9, 21, 22, 23] [0 ≤ v3 ∧ v3 < (v2.length : Int)] ((33, .ref 9 0 (0 + v3.toNat * 1)) :: (32, slA eB x7) :: (qZ8j t1) :: (qZ8k t2) :: (3, .im (.val (.func (.func 33) #[] #[]))) :: (qZ8e t0 v2 v3)) ⟨g8, trivial⟩ ?_
  refine OpsW.storeT (enc := eL eB) (k := 1) [] x7 [.sl (x7.flatMap eB) x7.length] v3.toNat 0 rfl rfl rfl (by exact congrArg (AV.ref 9 0) (by first | omega | rfl | (simp only [qZ8l]; omega) | (simp; omega))) trivial trivial rfl (fun _ => rfl) rfl (by kernel_rfl) (okCb_sound (by kernel_rfl)) (ltN g8) (Nat.le_of_ble_eq_true (by kernel_rfl)) rfl ?_
  refine OpsW.weaken ((33, .ref 9 0 (0 + v3.toNat * 1)) :: (32, slA eB x7) :: (qZ8j t1) :: (qZ8k t2) :: (3, .im (.val (.func (.func 33) #[] #[]))) :: (qZ8g t0 v2 v3 x7)) (Env.le_of_eq (by first | (simp only [List.length_set, List.length_reverse]; done) | (simp only [qZ8j, qZ8k, qZ8l, qZ89, qZ8e, qZ8g]; simp only [List.length_set, List.length_reverse]))) ?_
  refine OpsW.sg 0 [1, 2, 3, 9, 21, 22, 23] ((qZ8j t1) :: (qZ8k t2) :: (3, .im (.val (.func (.func 33) #[] #[]))) :: (qZ8g t0 v2 v3 x7)) ?_
  refine OpsW.recast (env' := ((qZ8j t1) :: (qZ8k t2) :: (3, .im (.val (.func (.func 33) #[] #[]))) :: (qZ8g t0 v2 v3 x7))) (h' := [(9, rtA 0 61 1 (eL eB) (v2.set v3.toNat x7))]) (StC.mk (phi [(9, some 9)]) (.o rfl (CstL.ims _) .nil) rfl (.i3 (.cons (.s rfl) (.i3 .nil)))) ?_
  refine OpsW.nil (AW.region ?_)
  obtain ⟨g9, H⟩ := G_some H
  refine OpsW.sq 2 [23, 1, 2, 3, 9, 21, 22] [inR (v3 + 1)] [(23, .int .i64 (v3 + 1)), (qZ8j t1), (qZ8k t2), (3, .im (.val (.func (.func 33) #[] #[]))), (9, .rsl 9 0 0 ((v2.set v3.toNat x7).length)), (21, slA (eL eB) t0), (22, .int .i64 (qZ8l t0))] ⟨g9, trivial⟩ ?_
  refine OpsW.nil ?_
  show ∃ y, _ ∧ StC _ _ _ _
  exact ⟨(v2.set v3.toNat x7, v3 + 1), H, (StC.mk (phi [(9, some 9)]) (.o rfl (CstL.ims _) .nil) rfl (.i3 (.cons (.s rfl) (.i3 .nil))))⟩
 replace H := condF c5 H
 refine AW.exit ?_
 refine AW.regionSeq (OpsW.sg 3 [38, 37, 36] [(38, .rsl 9 0 0 v2.length), (37, .int .i64 t2), (36, .int .i64 t1)] ?_)
 refine OpsW.recast (env' := [(38, slA (eL eB) v2), (37, .int .i64 t2), (36, .int .i64 t1)]) (h' := []) (StC.mk (phi []) .nil rfl (.cons (.frz rfl rfl rfl (frz_all (eL eB) 1 (fun _ => rfl) v2) (fm_length (eL eB) 1 (fun _ => rfl) v2) (phi_ne rfl)) (.i2 .nil))) ?_
 refine OpsW.sg 1 [39] [(39, .agg [.int .i64 t1, .int .i64 t2, slA (eL eB) v2])] ?_
 obtain ⟨x10, hx10, H⟩ := bindS H
 refine OpsW.qcall rfl (by kernel_rfl) rfl rfl (glAll_sound trivial) (.cons (.pur rfl) .nil) (f_grid_ToCells_ok hx10) rfl ?_
 refine OpsW.sg 5 [13, 12] ((13, .int .i64 x10.2) :: (qZ8b x10)) ?_
 refine OpsW.recast (env' := ((13, .int .i64 x10.2) :: (qZ8b x10))) (h' := []) (StC.pure (.i2 .nil)) ?_
 refine OpsW.nil (AW.seq (AW.regionSeq (OpsW.sg 2 [44, 12] ((44, .bool (x10.2 != 0)) :: (qZ8b x10)) ?_)))
 refine OpsW.nil (AW.cond (b := x10.2 != 0) rfl (fun c11 => ?_) (fun c11 => ?_))
 ·replace H := condT c11 H
  refine AW.regionSeq (OpsW.sg 1 [8] [(8, .im (.val (.slice none 0 0)))] ?_)
  refine OpsW.nil ?_
  obtain rfl := Option.some.inj H
  refine AW.recast (env' := [(8, slA (eL (eI .u8)) [])]) (h' := []) (StC.pure (.cons .nil .nil)) ?_
  refine AW.ret ?_
  try simp only [Ex.then, Ex.inBlock, Ex.noGoto, Ex.jump, reduceIte, Nat.reduceEqDiff, reduceCtorEq]
  refine Done.gen rfl (.tmp .nil) ?_
  show _ = _
  kernel_rfl
 replace H := condF c11 H
 refine AW.skip (AW.regionSeq (OpsW.sg 2 [46, 12] ((46, .int .i64 (qZ8m x10)) :: (qZ8b x10)) ?_))
 obtain ⟨g12, H⟩ := G_some H
 refine OpsW.makeR rfl rfl rfl 47 rfl E37 rfl rfl g12 ?_
 refine OpsW.weaken (qZ8d x10) (Env.le_of_eq (by first | (rw [List.length_replicate]; rfl; done) | (simp only [qZ8i, qZ8m, qZ8b, qZ8d]; rw [List.length_replicate]; rfl))) ?_
 refine OpsW.recast (env' := (qZ8d x10)) (h' := [(47, rtA 0 41 1 (eL (eI .u8)) qZ8i)]) (StC.mk (phi [(47, some 47)]) (.o rfl (csNil (enc := eI .u8) _) .nil) rfl (.cons (.s rfl) (.i2 .nil))) ?_
 refine OpsW.sg 1 [14, 12] ((14, .rsl 47 0 0 (qZ8i.length)) :: (qZ8b x10)) ?_
 refine OpsW.recast (env' := (qZ8f x10)) (h' := [(14, rtA 0 41 1 (eL (eI .u8)) qZ8i)]) (StC.mk (phi [(14, some 47)]) (.o rfl (CstL.ims _) .nil) rfl (.cons (.s rfl) (.cons .im .nil))) ?_
 refine OpsW.nil (AW.regionSeq (OpsW.sg 1 [15, 14, 12] ((15, .int .i64 0) :: (qZ8f x10)) ?_))
 refine OpsW.nil (AW.seq (AW.regionSeq (OpsW.sg 3 [50, 49, 48, 15, 14] [(50, .int .i64 0), (49, .int .i64 (qZ8m x10)), (48, slA (eL (eI .u8)) x10.1), (15, .int .i64 0), (14, .rsl 14 0 0 (qZ8i.length))] ?_)))
 refine OpsW.nil (AW.block ?_)
 refine AW.iterK (fun loop (s : qZ8n × Int × Int) => f_sheet_lower_fn33_b1 x10 loop s.1 s.2.1 s.2.2) r (fun (s : qZ8n × Int × Int) => [(14, .rsl 14 0 0 s.1.length), (15, .int .i64 s.2.1), (48, slA (eL (eI .u8)) x10.1), (49, .int .i64 (qZ8m x10)), (50, .int .i64 s.2.2)]) (fun (s : qZ8n × Int × Int) => [(14, rtA 0 41 1 (eL (eI .u8)) s.1)]) ?_ 1000000 (List.replicate (0 : Int).toNat ([] : List Int), (0 : Int), (0 : Int)) H (StC.mk (phi [(14, some 14)]) (.o rfl (CstL.ims _) .nil) rfl (.cons (.s rfl) (.i4 .nil)))
 intro loop16 s H
 obtain ⟨v13, v14, v15⟩ := s
 change f_sheet_lower_fn33_b1 x10 loop16 v13 v14 v15 = some r at H
 unfold f_sheet_lower_fn33_b1 at H
 change AW _ _ _ (qZ8a v13 v14 v15 x10) [(14, rtA 0 41 1 (eL (eI .u8)) v13)] _
 refine AW.regionSeq (OpsW.sg 1 [51, 14, 15, 48, 49, 50] ((51, .bool (decide (v15 < (qZ8m x10)))) :: (qZ8a v13 v14 v15 x10)) ?_)
 refine OpsW.nil (AW.seq (AW.cond (b := decide (v15 < (qZ8m x10))) rfl (fun c17 => ?_) (fun c17 => ?_)))
 ·replace H := condT c17 H
  refine AW.skip ?_
  refine AW.joinK (fun (y : qZ8n × Int) => f_sheet_lower_fn33_k1 loop16 v15 y.1 y.2) r (fun (y : qZ8n × Int) => ((14, .rsl 14 0 0 y.1.length) :: (15, .int .i64 y.2) :: (qZ88 v15 x10))) (fun (y : qZ8n × Int) => [(14, rtA 0 41 1 (eL (eI .u8)) y.1)]) ?_ ?_
  ·refine AW.block (AW.regionSeq ?_)
   obtain ⟨g21, H⟩ := G_some H
   refine OpsW.sq 2 [53, 52, 14, 15, 48, 49, 50] [0 ≤ v15 ∧ v15 < (qZ8m x10)] ((53, .ipt (x10.1.flatMap (eL (eI .u8))) (v15.toNat * 1)) :: (52, .int .i64 v15) :: (qZ8a v13 v14 v15 x10)) ⟨g21, trivial⟩ ?_
   refine OpsW.asU (slA (eI .u8) (x10.1.getD v15.toNat [])) rfl rfl (T.load rfl trivial (by kernel_rfl) (fm_cell0 (eL (eI .u8)) 1 (fun _ => rfl) x10.1 [] v15.toNat (ltN g21) (fun a => .sl (a.flatMap (eI .u8)) a.length) (fun _ => rfl))) ?_
   refine OpsW.sg 2 [17, 16, 14, 15, 48, 49, 50] ((17, slA (eI .u8) (x10.1.getD v15.toNat [])) :: (16, .int .i64 v15) :: (qZ8a v13 v14 v15 x10)) ?_
   refine OpsW.nil (AW.regionSeq (OpsW.sg 2 [56, 55, 16, 14, 15, 48, 49, 50] ((56, slA (eI .u8) (x10.1.getD v15.toNat [])) :: (55, .rsl 14 0 0 v13.length) :: (16, .int .i64 v15) :: (qZ8a v13 v14 v15 x10)) ?_))
   obtain ⟨x22, hx22, H⟩ := bindS H
   refine OpsW.qcall rfl (by kernel_rfl) rfl rfl (glAll_sound trivial) (.cons (.pur rfl) .nil) (f_line_Trim_ok hx22) rfl ?_
   obtain ⟨g23, H⟩ := G_some H
   refine OpsW.appendLF (enc := eL (eI .u8)) [x22] rfl rfl rfl (by decide) rfl rfl rfl (by simp) E37 (fun _ => rfl) (by decide) trivial (by kernel_rfl) (by kernel_rfl) (by kernel_rfl) rfl rfl rfl g23 ?_
   refine OpsW.sg 1 [14, 16, 15, 48, 49, 50] ((14, .rsl 14 1 0 ((v13 ++ [x22]).length)) :: (16, .int .i64 v15) :: (15, .int .i64 v14) :: (qZ88 v15 x10)) ?_
   refine OpsW.recast (env' := (qZ8c v13 v14 v15 x10 x22)) (h' := [(14, rtA 0 41 1 (eL (eI .u8)) (v13 ++ [x22]))]) (StC.mk (phi [(14, some 14)]) (.o rfl (CstL.ims _) .nil) rfl (.cons (.s rfl) (.i5 .nil))) ?_
   refine OpsW.nil (AW.regionSeq ?_)
   obtain ⟨g24, H⟩ := G_some H
   refine OpsW.sq 3 [62, 14, 16, 15, 48, 49, 50] [0 ≤ v15 ∧ v15 < ((v13 ++ [x22]).length : Int)] ((62, .ref 14 0 (0 + v15.toNat * 1)) :: (qZ8c v13 v14 v15 x10 x22)) ⟨g24, trivial⟩ ?_
   refine OpsW.asU (slA (eI .u8) ((v13 ++ [x22]).getD v15.toNat [])) rfl rfl (T.loadR rfl trivial (by kernel_rfl) rfl rfl rfl (rt_cell (eL (eI .u8)) 1 (fun _ => rfl) (v13 ++ [x22]) [] v15.toNat (ltN g24) 0 (fun a => .sl (a.flatMap (eI .u8)) a.length) (fun _ => rfl) (by first | omega | (simp only [qZ8m]; omega)))) ?_
   refine OpsW.sg 2 [65, 14, 16, 15, 48, 49, 50] ((65, .bool (decide (0 < (((v13 ++ [x22]).getD v15.toNat []).length : Int)))) :: (qZ8c v13 v14 v15 x10 x22)) ?_
   refine OpsW.nil (AW.cond (b := decide (0 < (((v13 ++ [x22]).getD v15.toNat []).length : Int))) rfl (fun c25 => ?_) (fun c25 => ?_))
   ·replace H := condT c25 H
    refine AW.region ?_
    obtain ⟨g26, H⟩ := G_some H
    refine OpsW.sq 3 [15, 14, 48, 49, 50] [inR (v15 + 1)] ((15, .int .i64 (v15 + 1)) :: (14, .rsl 14 0 0 ((v13 ++ [x22]).length)) :: (qZ88 v15 x10)) ⟨g26, trivial⟩ ?_
    refine OpsW.nil ?_
    show ∃ y, _ ∧ StC _ _ _ _
    exact ⟨(v13 ++ [x22], v15 + 1), H, (StC.mk (phi [(14, some 14)]) (.o rfl (CstL.ims _) .nil) rfl (.cons (.s rfl) (.i4 .nil)))⟩
   replace H := condF c25 H
   refine AW.skip ?_
   show ∃ y, _ ∧ StC _ _ _ _
   exact ⟨(v13 ++ [x22], v14), H, (StC.mk (phi [(14, some 14)]) (.o rfl (CstL.ims _) .nil) rfl (.cons (.s rfl) (.i4 .nil)))⟩
  rintro ⟨v18, v19⟩ H
  change f_sheet_lower_fn33_k1 loop16 v15 v18 v19 = some r at H
  unfold f_sheet_lower_fn33_k1 at H
  change AW _ _ _ ((14, .rsl 14 0 0 v18.length) :: (15, .int .i64 v19) :: (qZ88 v15 x10)) [(14, rtA 0 41 1 (eL (eI .u8)) v18)] _
  refine AW.region ?_
  obtain ⟨g20, H⟩ := G_some H
  refine OpsW.sq 2 [50, 14, 15, 48, 49] [inR (v15 + 1)] [(50, .int .i64 (v15 + 1)), (14, .rsl 14 0 0 v18.length), (15, .int .i64 v19), (48, slA (eL (eI .u8)) x10.1), (49, .int .i64 (qZ8m x10))] ⟨g20, trivial⟩ ?_
  refine OpsW.nil ?_
  show ∃ y, _ ∧ StC _ _ _ _
  exact ⟨(v18, v19, v15 + 1), H, (StC.mk (phi [(14, some 14)]) (.o rfl (CstL.ims _) .nil) rfl (.cons (.s rfl) (.i4 .nil)))⟩
 replace H := condF c17 H
 refine AW.exit ?_
 refine AW.regionSeq (OpsW.sg 3 [71, 70, 69] [(71, .int .i64 v14), (70, .int .i64 v14), (69, .rsl 14 0 0 v13.length)] ?_)
 refine OpsW.recast (env' := [(71, .int .i64 v14), (70, .int .i64 v14), (69, slA (eL (eI .u8)) v13)]) (h' := []) (StC.mk (phi []) .nil rfl (.i2 (.cons (.frz rfl rfl rfl (frz_all (eL (eI .u8)) 1 (fun _ => rfl) v13) (fm_length (eL (eI .u8)) 1 (fun _ => rfl) v13) (phi_ne rfl)) .nil))) ?_
 obtain ⟨g27, H⟩ := G_some H
 refine OpsW.quietU (slA (eL (eI .u8)) (v13.take v14.toNat)) rfl rfl (Quiet.sliceMaxT (enc := eL (eI .u8)) (l := v13) rfl (by kernel_rfl) (by kernel_rfl) (fun _ => rfl) (gpoU rfl ⟨trivial, rfl, trivial, rfl, trivial, rfl, g27⟩)) ?_
 refine OpsW.sg 1 [8] [(8, slA (eL (eI .u8)) (v13.take v14.toNat))] ?_
 refine OpsW.recast (env' := [(8, slA (eL (eI .u8)) (v13.take v14.toNat))]) (h' := []) (StC.pure (.cons .im .nil)) ?_
 refine OpsW.nil ?_
 obtain rfl := Option.some.inj H
 refine AW.recast (env' := [(8, slA (eL (eI .u8)) (v13.take v14.toNat))]) (h' := []) (StC.pure (.cons .im .nil)) ?_
 refine AW.ret ?_
 try simp only [Ex.then, Ex.inBlock, Ex.noGoto, Ex.jump, reduceIte, Nat.reduceEqDiff, reduceCtorEq]
 refine Done.gen rfl (.tmp .nil) ?_
 show _ = _
 kernel_rfl
def f_sheet_Back (t0 : S_Plate) : Option (List (List Int)) :=
 (f_sheet_Valid t0).bind fun x1 =>
 cond (!x1) (
  some []) (
  (f_sheet_lower_fn33 t0.Down t0.W t0.H).bind fun x3 =>
  some x3)
section
variable (t0 : S_Plate)
abbrev qZ8p : List AV := [.int .i64 t0.W, .int .i64 t0.H, slA (eL eB) t0.Up, slA (eL eB) t0.Down]
abbrev qZ8o : Hp := [(1, ⟨0, true, 47, 4, (qZ8p t0)⟩)]
end
theorem f_sheet_Back_ok  {t0 : S_Plate} {r : List (List Int)} (H : f_sheet_Back t0 = some r) : QSpec Tryd.prog 19 [.agg [.int .i64 t0.W, .int .i64 t0.H, slA (eL eB) t0.Up, slA (eL eB) t0.Down]] (slA (eL (eI .u8)) r) := by
 refine Spec.of_AW Tryd.func19 rfl (by simp [Tryd.ntmps19]) ?_
 rw [Tryd.ntmps19]
 unfold f_sheet_Back at H
 change AW _ _ _ [(0, .agg (qZ8p t0))] [] _
 refine AW.regionSeq (OpsW.box rfl rfl rfl 1 rfl (okCb_sound (by kernel_rfl)) ?_)
 change OpsW _ _ _ _ _ (qZ8o t0) _
 refine OpsW.sg 1 [1] [(1, .ref 1 0 0)] ?_
 refine OpsW.recast (env' := [(1, .ref 1 0 0)]) (h' := (qZ8o t0)) (StC.mk (phi [(1, some 1)]) (.o rfl (.i4 .nil) .nil) rfl (.cons (.r rfl) .nil)) ?_
 refine OpsW.nil (AW.seq (AW.regionSeq (OpsW.sg 1 [3, 1] [(3, .agg (qZ8p t0)), (1, .ref 1 0 0)] ?_)))
 obtain ⟨x1, hx1, H⟩ := bindS H
 refine OpsW.qcall rfl (by kernel_rfl) rfl rfl (glAll_sound trivial) (.cons (.pur rfl) .nil) (f_sheet_Valid_ok hx1) rfl ?_
 refine OpsW.sg 1 [5, 1] [(5, .bool (!x1)), (1, .ref 1 0 0)] ?_
 refine OpsW.nil (AW.cond (b := !x1) rfl (fun c2 => ?_) (fun c2 => ?_))
 ·replace H := condT c2 H
  refine AW.regionSeq (OpsW.sg 1 [2] [(2, .im (.val (.slice none 0 0)))] ?_)
  refine OpsW.nil ?_
  obtain rfl := Option.some.inj H
  refine AW.recast (env' := [(2, slA (eL (eI .u8)) [])]) (h' := []) (StC.pure (.cons .nil .nil)) ?_
  refine AW.ret ?_
  try simp only [Ex.then, Ex.inBlock, Ex.noGoto, Ex.jump, reduceIte, Nat.reduceEqDiff, reduceCtorEq]
  refine Done.gen rfl (.tmp .nil) ?_
  show _ = _
  kernel_rfl
 replace H := condF c2 H
 refine AW.skip (AW.regionSeq (OpsW.sg 6 [11, 9, 7] [(11, .int .i64 t0.H), (9, .int .i64 t0.W), (7, slA (eL eB) t0.Down)] ?_))
 obtain ⟨x3, hx3, H⟩ := bindS H
 refine OpsW.qcall rfl (by kernel_rfl) rfl rfl (glAll_sound trivial) (.cons (.pur rfl) (.cons (.pur rfl) (.cons (.pur rfl) (.cons (.pur rfl) .nil)))) (f_sheet_lower_fn33_ok hx3) rfl ?_
 refine OpsW.sg 1 [2] [(2, slA (eL (eI .u8)) x3)] ?_
 refine OpsW.nil ?_
 obtain rfl := Option.some.inj H
 refine AW.recast (env' := [(2, slA (eL (eI .u8)) x3)]) (h' := []) (StC.pure (.cons .im .nil)) ?_
 refine AW.ret ?_
 try simp only [Ex.then, Ex.inBlock, Ex.noGoto, Ex.jump, reduceIte, Nat.reduceEqDiff, reduceCtorEq]
 refine Done.gen rfl (.tmp .nil) ?_
 show _ = _
 kernel_rfl
def f_slices_Index_api_Cell_b1 (t0 : List Int) (t1 : Int) (loop2 : (Int) → Option Int) (v1 : Int) : Option Int :=
 cond (decide (v1 < (t0.length : Int))) (
  G (0 ≤ v1 ∧ v1 < (t0.length : Int)) <|
  cond (t1 == (t0.getD v1.toNat 0)) (
   some v1) (
   G (inR (v1 + 1)) <|
   loop2 (v1 + 1))) (
  some (-1 : Int))
def f_slices_Index_api_Cell (t0 : List Int) (t1 : Int) : Option Int :=
 iter (fun loop (s : Int) => f_slices_Index_api_Cell_b1 t0 t1 loop s) 1000000 (0 : Int)
section
variable (t0 : List Int) (t1 : Int) (v1 : Int)
abbrev qZ8r : Nat × AV := (7, .int .i64 (t0.length : Int))
abbrev qZ8q : Env := [(0, slA (eI .u8) t0), (1, .int .u8 t1), (qZ8r t0), (8, .int .i64 v1)]
end
theorem f_slices_Index_api_Cell_ok  {t0 : List Int} {t1 : Int} {r : Int} (H : f_slices_Index_api_Cell t0 t1 = some r) : QSpec Tryd.prog 70 [slA (eI .u8) t0, .int .u8 t1] (.int .i64 r) := by
 refine Spec.of_AW Tryd.func70 rfl (by simp [Tryd.ntmps70]) ?_
 rw [Tryd.ntmps70]
 unfold f_slices_Index_api_Cell at H
 change AW _ _ _ [(0, slA (eI .u8) t0), (1, .int .u8 t1)] [] _
 refine AW.regionSeq (OpsW.sg 1 [0, 1] [(0, slA (eI .u8) t0), (1, .int .u8 t1)] ?_)
 refine OpsW.nil (AW.seq (AW.regionSeq (OpsW.sg 3 [8, 7, 0, 1] [(8, .int .i64 0), (qZ8r t0), (0, slA (eI .u8) t0), (1, .int .u8 t1)] ?_)))
 refine OpsW.nil (AW.block ?_)
 refine AW.iterK (fun loop (s : Int) => f_slices_Index_api_Cell_b1 t0 t1 loop s) r (fun (s : Int) => [(0, slA (eI .u8) t0), (1, .int .u8 t1), (qZ8r t0), (8, .int .i64 s)]) (fun (s : Int) => []) ?_ 1000000 (0 : Int) H (StC.pure (.i4 .nil))
 intro loop2 v1 H
 change f_slices_Index_api_Cell_b1 t0 t1 loop2 v1 = some r at H
 unfold f_slices_Index_api_Cell_b1 at H
 change AW _ _ _ (qZ8q t0 t1 v1) [] _
 refine AW.regionSeq (OpsW.sg 1 [9, 0, 1, 7, 8] ((9, .bool (decide (v1 < (t0.length : Int)))) :: (qZ8q t0 t1 v1)) ?_)
 refine OpsW.nil (AW.seq (AW.cond (b := decide (v1 < (t0.length : Int))) rfl (fun c3 => ?_) (fun c3 => ?_)))
 ·replace H := condT c3 H
  refine AW.skip (AW.seq (AW.block (AW.regionSeq (OpsW.sg 2 [5, 0, 1, 7, 8] ((5, .int .i64 v1) :: (qZ8q t0 t1 v1)) ?_))))
  refine OpsW.nil (AW.regionSeq ?_)
  obtain ⟨g4, H⟩ := G_some H
  refine OpsW.sq 4 [14, 11, 5, 0, 1, 7, 8] [0 ≤ v1 ∧ v1 < (t0.length : Int)] ((14, .ipt (t0.flatMap (eI .u8)) (v1.toNat * 1)) :: (11, .int .u8 t1) :: (5, .int .i64 v1) :: (qZ8q t0 t1 v1)) ⟨g4, trivial⟩ ?_
  refine OpsW.asU (.int .u8 (t0.getD v1.toNat 0)) rfl rfl (T.load rfl trivial (by kernel_rfl) (fm_cell0 (eI .u8) 1 (fun _ => rfl) t0 (0 : Int) v1.toNat (ltN g4) (fun a => .val (.int .u8 a)) (fun _ => rfl))) ?_
  refine OpsW.sg 1 [16, 5, 0, 1, 7, 8] ((16, .bool (t1 == (t0.getD v1.toNat 0))) :: (5, .int .i64 v1) :: (qZ8q t0 t1 v1)) ?_
  refine OpsW.nil (AW.cond (b := t1 == (t0.getD v1.toNat 0)) rfl (fun c5 => ?_) (fun c5 => ?_))
  ·replace H := condT c5 H
   refine AW.regionSeq (OpsW.sg 2 [4] [(4, .int .i64 v1)] ?_)
   refine OpsW.nil ?_
   obtain rfl := Option.some.inj H
   refine AW.recast (env' := [(4, .int .i64 v1)]) (h' := []) (StC.pure (.cons .im .nil)) ?_
   refine AW.ret ?_
   try simp only [Ex.then, Ex.inBlock, Ex.noGoto, Ex.jump, reduceIte, Nat.reduceEqDiff, reduceCtorEq]
   refine Done.gen rfl (.tmp .nil) ?_
   show _ = _
   kernel_rfl
  replace H := condF c5 H
  refine AW.skip (AW.region ?_)
  obtain ⟨g6, H⟩ := G_some H
  refine OpsW.sq 2 [8, 0, 1, 7] [inR (v1 + 1)] [(8, .int .i64 (v1 + 1)), (0, slA (eI .u8) t0), (1, .int .u8 t1), (qZ8r t0)] ⟨g6, trivial⟩ ?_
  refine OpsW.nil ?_
  show ∃ y, _ ∧ StC _ _ _ _
  exact ⟨v1 + 1, H, (StC.pure (.i4 .nil))⟩
 replace H := condF c3 H
 refine AW.exit ?_
 refine AW.regionSeq (OpsW.sg 1 [4] [(4, .int .i64 (-1 : Int))] ?_)
 refine OpsW.nil ?_
 obtain rfl := Option.some.inj H
 refine AW.recast (env' := [(4, .int .i64 (-1 : Int))]) (h' := []) (StC.pure (.cons .im .nil)) ?_
 refine AW.ret ?_
 try simp only [Ex.then, Ex.inBlock, Ex.noGoto, Ex.jump, reduceIte, Nat.reduceEqDiff, reduceCtorEq]
 refine Done.gen rfl (.tmp .nil) ?_
 show _ = _
 kernel_rfl
def f_number_letter_b1 (t0 : Int) (loop2 : (Int) → Option Int) (v1 : Int) : Option Int :=
 cond (decide (v1 < 26)) (
  G (0 ≤ v1 ∧ v1 < 26) <|
  G (tab_number_letters.length = 26) <|
  cond ((tab_number_letters.getD v1.toNat 0) == t0) (
   G (inR (v1 + 1)) <|
   some (v1 + 1)) (
   G (inR (v1 + 1)) <|
   loop2 (v1 + 1))) (
  some (0 : Int))
def f_number_letter (t0 : Int) : Option Int :=
 iter (fun loop (s : Int) => f_number_letter_b1 t0 loop s) 1000000 (0 : Int)
section
variable (t0 : Int) (v1 : Int)
abbrev qZ8t : List AV := (tab_number_letters.flatMap (eI .u8)).map .im
abbrev qZ8u := tab_number_letters.getD v1.toNat 0
abbrev qZ8s : Env := [(0, .int .u8 t0), (5, .agg qZ8t), (6, .int .i64 v1)]
end
theorem f_number_letter_ok  {t0 : Int} {r : Int} (H : f_number_letter t0 = some r) : QSpec Tryd.prog 71 [.int .u8 t0] (.int .i64 r) := by
 refine Spec.of_AW Tryd.func71 rfl (by simp [Tryd.ntmps71]) ?_
 rw [Tryd.ntmps71]
 unfold f_number_letter at H
 change AW _ _ _ [(0, .int .u8 t0)] [] _
 refine AW.regionSeq (OpsW.sg 1 [0] [(0, .int .u8 t0)] ?_)
 refine OpsW.nil (AW.seq (AW.regionSeq (OpsW.asU (.agg qZ8t) rfl rfl (T.loadAgg (n := 26) rfl trivial (by kernel_rfl) (Nat.le_of_ble_eq_true (by kernel_rfl)) (by kernel_rfl)) ?_)))
 refine OpsW.sg 1 [6, 5, 0] [(6, .int .i64 0), (5, .agg qZ8t), (0, .int .u8 t0)] ?_
 refine OpsW.nil (AW.block ?_)
 refine AW.iterK (fun loop (s : Int) => f_number_letter_b1 t0 loop s) r (fun (s : Int) => [(0, .int .u8 t0), (5, .agg qZ8t), (6, .int .i64 s)]) (fun (s : Int) => []) ?_ 1000000 (0 : Int) H (StC.pure (.cons .im (.cons (.agg (CstL.ims _)) (.cons .im .nil))))
 intro loop2 v1 H
 change f_number_letter_b1 t0 loop2 v1 = some r at H
 unfold f_number_letter_b1 at H
 change AW _ _ _ (qZ8s t0 v1) [] _
 refine AW.regionSeq (OpsW.sg 1 [7, 0, 5, 6] ((7, .bool (decide (v1 < 26))) :: (qZ8s t0 v1)) ?_)
 refine OpsW.nil (AW.seq (AW.cond (b := decide (v1 < 26)) rfl (fun c3 => ?_) (fun c3 => ?_)))
 ·replace H := condT c3 H
  refine AW.skip (AW.seq (AW.block (AW.regionSeq (OpsW.sg 1 [8, 0, 5, 6] ((8, .int .i64 v1) :: (qZ8s t0 v1)) ?_))))
  obtain ⟨g4, H⟩ := G_some H
  obtain ⟨g5, H⟩ := G_some H
  refine OpsW.asU (.int .u8 (qZ8u v1)) rfl rfl (T.indexA (e := 42) rfl rfl trivial trivial (by kernel_rfl) (by kernel_rfl) (by kernel_rfl) (by kernel_rfl) g4 (map_get (fm_cell0 (eI .u8) 1 (fun _ => rfl) tab_number_letters (0 : Int) v1.toNat (ltA (n := 26) g4 g5) (fun a => .val (.int .u8 a)) (fun _ => rfl)))) ?_
  refine OpsW.sg 2 [4, 3, 0, 5, 6] ((4, .int .u8 (qZ8u v1)) :: (3, .int .i64 v1) :: (qZ8s t0 v1)) ?_
  refine OpsW.nil (AW.regionSeq (OpsW.sg 3 [12, 3, 0, 5, 6] ((12, .bool ((qZ8u v1) == t0)) :: (3, .int .i64 v1) :: (qZ8s t0 v1)) ?_))
  refine OpsW.nil (AW.cond (b := (qZ8u v1) == t0) rfl (fun c6 => ?_) (fun c6 => ?_))
  ·replace H := condT c6 H
   refine AW.regionSeq ?_
   obtain ⟨g7, H⟩ := G_some H
   refine OpsW.sq 3 [2] [inR (v1 + 1)] [(2, .int .i64 (v1 + 1))] ⟨g7, trivial⟩ ?_
   refine OpsW.nil ?_
   obtain rfl := Option.some.inj H
   refine AW.recast (env' := [(2, .int .i64 (v1 + 1))]) (h' := []) (StC.pure (.cons .im .nil)) ?_
   refine AW.ret ?_
   try simp only [Ex.then, Ex.inBlock, Ex.noGoto, Ex.jump, reduceIte, Nat.reduceEqDiff, reduceCtorEq]
   refine Done.gen rfl (.tmp .nil) ?_
   show _ = _
   kernel_rfl
  replace H := condF c6 H
  refine AW.skip (AW.region ?_)
  obtain ⟨g8, H⟩ := G_some H
  refine OpsW.sq 2 [6, 0, 5] [inR (v1 + 1)] [(6, .int .i64 (v1 + 1)), (0, .int .u8 t0), (5, .agg qZ8t)] ⟨g8, trivial⟩ ?_
  refine OpsW.nil ?_
  show ∃ y, _ ∧ StC _ _ _ _
  exact ⟨v1 + 1, H, (StC.pure (.cons .im (.cons (.agg (CstL.ims _)) (.cons .im .nil))))⟩
 replace H := condF c3 H
 refine AW.exit ?_
 refine AW.regionSeq (OpsW.sg 1 [2] [(2, .int .i64 0)] ?_)
 refine OpsW.nil ?_
 obtain rfl := Option.some.inj H
 refine AW.recast (env' := [(2, .int .i64 0)]) (h' := []) (StC.pure (.cons .im .nil)) ?_
 refine AW.ret ?_
 try simp only [Ex.then, Ex.inBlock, Ex.noGoto, Ex.jump, reduceIte, Nat.reduceEqDiff, reduceCtorEq]
 refine Done.gen rfl (.tmp .nil) ?_
 show _ = _
 kernel_rfl
def f_number_Read_k1 (t0 : List Int) (v3 : Int) (v4 : Int) : Option (Int × Int × Int) :=
 G (((!(v4 == 1)) && (decide (2 < v4))) = true → (0 ≤ (1 : Int) ∧ (1 : Int) < (t0.length : Int))) <|
 cond (cond (v4 == 1) true (cond (decide (2 < v4)) ((t0.getD (1 : Int).toNat (0 : Int)) == (tab_number_digits.getD (0 : Int).toNat (0 : Int))) false)) (
  some ((0 : Int), (0 : Int), (190 : Int))) (
  some (v3, v4, (0 : Int)))
def f_number_Read_b1 (t0 : List Int) (loop9 : (Int × Int) → Option (Int × Int × Int)) (loop14 : (Int × Int × Int) → Option (Int × Int × Int)) (v11 : Int) (v12 : Int) (v13 : Int) : Option (Int × Int × Int) :=
 cond (decide (v13 < 10)) (
  G (0 ≤ v13 ∧ v13 < 10) <|
  G (tab_number_digits.length = 10) <|
  G (0 ≤ v12 ∧ v12 < (t0.length : Int)) <|
  cond ((tab_number_digits.getD v13.toNat 0) == (t0.getD v12.toNat 0)) (
   cond (decide (5 < v12)) (
    some ((0 : Int), (0 : Int), (190 : Int))) (
    G (inR (10 * v11)) <|
    G (inR ((10 * v11) + v13)) <|
    G (inR (v12 + 1)) <|
    loop9 ((10 * v11) + v13, v12 + 1))) (
   G (inR (v13 + 1)) <|
   loop14 (v11, v12, v13 + 1))) (
  f_number_Read_k1 t0 v11 v12)
def f_number_Read_b2 (t0 : List Int) (loop9 : (Int × Int) → Option (Int × Int × Int)) (v7 : Int) (v8 : Int) : Option (Int × Int × Int) :=
 cond (decide (v8 < (t0.length : Int))) (
  iter (fun loop (s : Int × Int × Int) => f_number_Read_b1 t0 loop9 loop s.1 s.2.1 s.2.2) 1000000 (v7, v8, (0 : Int))) (
  f_number_Read_k1 t0 v7 v8)
def f_number_Read_k2 (t0 : List Int) (v1 : Int) (v2 : Int) : Option (Int × Int × Int) :=
 iter (fun loop (s : Int × Int) => f_number_Read_b2 t0 loop s.1 s.2) 1000000 (v1, v2)
def f_number_Read_k3 (t0 : List Int) (v27 : Int) (v28 : Int) : Option (Int × Int × Int) :=
 G (((!(v28 == 1)) && (decide (2 < v28))) = true → (0 ≤ (1 : Int) ∧ (1 : Int) < (t0.length : Int))) <|
 cond (cond (v28 == 1) true (cond (decide (2 < v28)) ((t0.getD (1 : Int).toNat (0 : Int)) == (tab_number_digits.getD (0 : Int).toNat (0 : Int))) false)) (
  some ((0 : Int), (0 : Int), (190 : Int))) (
  some (v27, v28, (0 : Int)))
def f_number_Read_b3 (t0 : List Int) (loop33 : (Int × Int) → Option (Int × Int × Int)) (loop38 : (Int × Int × Int) → Option (Int × Int × Int)) (v35 : Int) (v36 : Int) (v37 : Int) : Option (Int × Int × Int) :=
 cond (decide (v37 < 10)) (
  G (0 ≤ v37 ∧ v37 < 10) <|
  G (tab_number_digits.length = 10) <|
  G (0 ≤ v36 ∧ v36 < (t0.length : Int)) <|
  cond ((tab_number_digits.getD v37.toNat 0) == (t0.getD v36.toNat 0)) (
   cond (decide (5 < v36)) (
    some ((0 : Int), (0 : Int), (190 : Int))) (
    G (inR (10 * v35)) <|
    G (inR ((10 * v35) + v37)) <|
    G (inR (v36 + 1)) <|
    loop33 ((10 * v35) + v37, v36 + 1))) (
   G (inR (v37 + 1)) <|
   loop38 (v35, v36, v37 + 1))) (
  f_number_Read_k3 t0 v35 v36)
def f_number_Read_b4 (t0 : List Int) (loop33 : (Int × Int) → Option (Int × Int × Int)) (v31 : Int) (v32 : Int) : Option (Int × Int × Int) :=
 cond (decide (v32 < (t0.length : Int))) (
  iter (fun loop (s : Int × Int × Int) => f_number_Read_b3 t0 loop33 loop s.1 s.2.1 s.2.2) 1000000 (v31, v32, (0 : Int))) (
  f_number_Read_k3 t0 v31 v32)
def f_number_Read (t0 : List Int) : Option (Int × Int × Int) :=
 G ((!((t0.length : Int) == 0)) = true → (0 ≤ (0 : Int) ∧ (0 : Int) < (t0.length : Int))) <|
 cond (cond ((t0.length : Int) == 0) true ((t0.getD (0 : Int).toNat (0 : Int)) != 60)) (
  some ((0 : Int), (0 : Int), (190 : Int))) (
  iter (fun loop (s : Int × Int) => f_number_Read_b4 t0 loop s.1 s.2) 1000000 ((0 : Int), (1 : Int)))
section
variable (t0 : List Int) (v3 : Int) (v4 : Int) (v7 : Int) (v8 : Int) (v11 : Int) (v12 : Int) (v13 : Int) (v27 : Int) (v28 : Int) (v31 : Int) (v32 : Int) (v35 : Int) (v36 : Int) (v37 : Int)
abbrev qZ95 := ((t0.getD (1 : Int).toNat (0 : Int)) == (tab_number_digits.getD (0 : Int).toNat (0 : Int)))
abbrev qZ96 := (!(v28 == 1)) && (decide (2 < v28))
abbrev qZ97 := (!(v4 == 1)) && (decide (2 < v4))
abbrev qZ98 : List AV := (tab_number_digits.flatMap (eI .u8)).map .im
abbrev qZ99 : Nat × AV := (0, slA (eI .u8) t0)
abbrev qZ9a := ((t0.length : Int) == 0)
abbrev qZ9b := (tab_number_digits.getD (0 : Int).toNat (0 : Int))
abbrev qZ9c := tab_number_digits.getD v37.toNat 0
abbrev qZ9d := tab_number_digits.getD v13.toNat 0
abbrev qZ9e := cond (decide (2 < v4)) (qZ95 t0) false
abbrev qZ9f := cond (decide (2 < v28)) (qZ95 t0) false
abbrev qZ9g := (t0.getD (1 : Int).toNat (0 : Int))
abbrev qZ9h := (t0.length : Int)
abbrev qZ9i : Nat × AV := (22, .agg qZ98)
abbrev qZ9j := (t0.getD (0 : Int).toNat (0 : Int))
abbrev qZ8v : Env := [(49, .cnd (qZ96 v28) (.ipt (t0.flatMap (eI .u8)) ((1 : Int).toNat * 1))), (48, .cnd (qZ96 v28) (slA (eI .u8) t0)), (47, .cnd (!(v28 == 1)) (.bool (decide (2 < v28)))), (46, .cnd (!(v28 == 1)) (.bool (decide (2 < v28)))), (45, .cnd (!(v28 == 1)) (.int .i64 v28)), (44, .bool (v28 == 1)), (43, .bool (v28 == 1)), (42, .int .i64 v28), (qZ99 t0), (5, .int .i64 v27), (6, .int .i64 v28)]
abbrev qZ8w : Env := [(49, .cnd (qZ97 v4) (.ipt (t0.flatMap (eI .u8)) ((1 : Int).toNat * 1))), (48, .cnd (qZ97 v4) (slA (eI .u8) t0)), (47, .cnd (!(v4 == 1)) (.bool (decide (2 < v4)))), (46, .cnd (!(v4 == 1)) (.bool (decide (2 < v4)))), (45, .cnd (!(v4 == 1)) (.int .i64 v4)), (44, .bool (v4 == 1)), (43, .bool (v4 == 1)), (42, .int .i64 v4), (qZ99 t0), (5, .int .i64 v3), (6, .int .i64 v4)]
abbrev qZ8x : Env := [(qZ99 t0), (5, .int .i64 v35), (6, .int .i64 v36), qZ9i, (23, .int .i64 v37)]
abbrev qZ8y : Env := [(qZ99 t0), (5, .int .i64 v11), (6, .int .i64 v12), qZ9i, (23, .int .i64 v13)]
abbrev qZ8z : Env := (51, .cnd (qZ96 v28) (.ipt (tab_number_digits.flatMap (eI .u8)) (0 + (0 : Int).toNat * 1))) :: (50, .cnd (qZ96 v28) (.int .u8 (qZ9g t0))) :: (qZ8v t0 v27 v28)
abbrev qZ90 : Env := (51, .cnd (qZ97 v4) (.ipt (tab_number_digits.flatMap (eI .u8)) (0 + (0 : Int).toNat * 1))) :: (50, .cnd (qZ97 v4) (.int .u8 (qZ9g t0))) :: (qZ8w t0 v3 v4)
abbrev qZ91 : Env := [(4, .int .i64 190), (3, .int .i64 0), (2, .int .i64 0)]
abbrev qZ92 : Env := [(2, .int .i64 0), (3, .int .i64 0), (4, .int .i64 190)]
abbrev qZ93 : Env := [(qZ99 t0), (5, .int .i64 v7), (6, .int .i64 v8)]
abbrev qZ94 : Env := [(qZ99 t0), (5, .int .i64 v31), (6, .int .i64 v32)]
end
theorem f_number_Read_ok  {t0 : List Int} {r : Int × Int × Int} (H : f_number_Read t0 = some r) : QSpec Tryd.prog 72 [slA (eI .u8) t0] (.tup [.int .i64 r.1, .int .i64 r.2.1, .int .i64 r.2.2]) := by
 refine Spec.of_AW Tryd.func72 rfl (by simp [Tryd.ntmps72]) ?_
 rw [Tryd.ntmps72]
 unfold f_number_Read at H
 change AW _ _ _ [(qZ99 t0)] [] _
 refine AW.regionSeq (OpsW.sg 3 [0] [(qZ99 t0)] ?_)
 refine OpsW.nil (AW.scopeK 0 (fun (y : Int × Int) => f_number_Read_k2 t0 y.1 y.2) r (fun (y : Int × Int) => [(qZ99 t0), (5, .int .i64 y.1), (6, .int .i64 y.2)]) (fun (y : Int × Int) => []) rfl ?_ ?_)
 ·refine AW.seq (AW.regionSeq ?_)
  obtain ⟨g25, H⟩ := G_some H
  refine OpsW.sq 6 [14, 12, 0] [(!(qZ9a t0)) = true → (!(qZ9a t0)) = true, (!(qZ9a t0)) = true → (0 ≤ (0 : Int) ∧ (0 : Int) < (qZ9h t0))] [(14, .cnd (!(qZ9a t0)) (.ipt (t0.flatMap (eI .u8)) ((0 : Int).toNat * 1))), (12, .bool (qZ9a t0)), (qZ99 t0)] ⟨(fun h => h), g25, trivial⟩ ?_
  refine OpsW.asG (c := !(qZ9a t0)) (.int .u8 (qZ9j t0)) rfl rfl rfl rfl (fun hc => T.load rfl hc (by kernel_rfl) (fm_cell0 (eI .u8) 1 (fun _ => rfl) t0 (0 : Int) (0 : Int).toNat (ltN (g25 hc)) (fun a => .val (.int .u8 a)) (fun _ => rfl))) ?_
  refine OpsW.sq 2 [17, 0] [(!(qZ9a t0)) = true → (!(qZ9a t0)) = true, (qZ9a t0) = false → (!(qZ9a t0)) = true] [(17, .bool (cond (qZ9a t0) true ((qZ9j t0) != 60))), (qZ99 t0)] ⟨(fun h => h), (fun h => by first | exact h | (simpa using h) | grind), trivial⟩ ?_
  refine OpsW.nil (AW.cond (b := cond (qZ9a t0) true ((qZ9j t0) != 60)) rfl (fun c26 => ?_) (fun c26 => ?_))
  ·replace H := condT c26 H
   refine AW.regionSeq (OpsW.sg 3 [4, 3, 2] qZ91 ?_)
   refine OpsW.nil ?_
   obtain rfl := Option.some.inj H
   refine AW.recast (env' := qZ92) (h' := []) (StC.pure (.i3 .nil)) ?_
   refine AW.ret ?_
   try simp only [Ex.then, Ex.inBlock, Ex.noGoto, Ex.jump, reduceIte, Nat.reduceEqDiff, reduceCtorEq]
   refine Done.gen rfl (.tmp (.tmp (.tmp .nil))) ?_
   show _ = _
   kernel_rfl
  replace H := condF c26 H
  refine AW.skip (AW.regionSeq (OpsW.sg 2 [6, 5, 0] [(6, .int .i64 1), (5, .int .i64 0), (qZ99 t0)] ?_))
  refine OpsW.nil (AW.labelSeq ?_)
  refine AW.joinK (fun (y : Int × Int) => f_number_Read_k3 t0 y.1 y.2) r (fun (y : Int × Int) => [(qZ99 t0), (5, .int .i64 y.1), (6, .int .i64 y.2)]) (fun (y : Int × Int) => []) ?_ ?_
  ·refine AW.block ?_
   refine AW.iterK (fun loop (s : Int × Int) => f_number_Read_b4 t0 loop s.1 s.2) r (fun (s : Int × Int) => [(qZ99 t0), (5, .int .i64 s.1), (6, .int .i64 s.2)]) (fun (s : Int × Int) => []) ?_ 1000000 ((0 : Int), (1 : Int)) H (StC.pure (.i3 .nil))
   intro loop33 s H
   obtain ⟨v31, v32⟩ := s
   change f_number_Read_b4 t0 loop33 v31 v32 = some r at H
   unfold f_number_Read_b4 at H
   change AW _ _ _ (qZ94 t0 v31 v32) [] _
   refine AW.seq (AW.regionSeq (OpsW.sg 4 [21, 0, 5, 6] ((21, .bool (decide (v32 < (qZ9h t0)))) :: (qZ94 t0 v31 v32)) ?_))
   refine OpsW.nil (AW.cond (b := decide (v32 < (qZ9h t0))) rfl (fun c34 => ?_) (fun c34 => ?_))
   ·replace H := condT c34 H
    refine AW.skip (AW.block (AW.seq (AW.regionSeq (OpsW.asU (.agg qZ98) rfl rfl (T.loadAgg (n := 10) rfl trivial (by kernel_rfl) (Nat.le_of_ble_eq_true (by kernel_rfl)) (by kernel_rfl)) ?_))))
    refine OpsW.sg 1 [23, 22, 0, 5, 6] ((23, .int .i64 0) :: qZ9i :: (qZ94 t0 v31 v32)) ?_
    refine OpsW.nil (AW.block ?_)
    refine AW.iterK (fun loop (s : Int × Int × Int) => f_number_Read_b3 t0 loop33 loop s.1 s.2.1 s.2.2) r (fun (s : Int × Int × Int) => [(qZ99 t0), (5, .int .i64 s.1), (6, .int .i64 s.2.1), qZ9i, (23, .int .i64 s.2.2)]) (fun (s : Int × Int × Int) => []) ?_ 1000000 (v31, v32, (0 : Int)) H (StC.pure (.i3 (.cons (.agg (CstL.ims _)) (.cons .im .nil))))
    intro loop38 s H
    obtain ⟨v35, v36, v37⟩ := s
    change f_number_Read_b3 t0 loop33 loop38 v35 v36 v37 = some r at H
    unfold f_number_Read_b3 at H
    change AW _ _ _ (qZ8x t0 v35 v36 v37) [] _
    refine AW.regionSeq (OpsW.sg 1 [24, 0, 5, 6, 22, 23] ((24, .bool (decide (v37 < 10))) :: (qZ8x t0 v35 v36 v37)) ?_)
    refine OpsW.nil (AW.seq (AW.cond (b := decide (v37 < 10)) rfl (fun c39 => ?_) (fun c39 => ?_)))
    ·replace H := condT c39 H
     refine AW.skip (AW.seq (AW.block (AW.regionSeq (OpsW.sg 1 [25, 0, 5, 6, 22, 23] ((25, .int .i64 v37) :: (qZ8x t0 v35 v36 v37)) ?_))))
     obtain ⟨g40, H⟩ := G_some H
     obtain ⟨g41, H⟩ := G_some H
     refine OpsW.asU (.int .u8 (qZ9c v37)) rfl rfl (T.indexA (e := 42) rfl rfl trivial trivial (by kernel_rfl) (by kernel_rfl) (by kernel_rfl) (by kernel_rfl) g40 (map_get (fm_cell0 (eI .u8) 1 (fun _ => rfl) tab_number_digits (0 : Int) v37.toNat (ltA (n := 10) g40 g41) (fun a => .val (.int .u8 a)) (fun _ => rfl)))) ?_
     refine OpsW.sg 2 [8, 7, 0, 5, 6, 22, 23] ((8, .int .u8 (qZ9c v37)) :: (7, .int .i64 v37) :: (qZ8x t0 v35 v36 v37)) ?_
     refine OpsW.nil (AW.regionSeq ?_)
     obtain ⟨g42, H⟩ := G_some H
     refine OpsW.sq 4 [30, 27, 7, 0, 5, 6, 22, 23] [0 ≤ v36 ∧ v36 < (qZ9h t0)] ((30, .ipt (t0.flatMap (eI .u8)) (v36.toNat * 1)) :: (27, .int .u8 (qZ9c v37)) :: (7, .int .i64 v37) :: (qZ8x t0 v35 v36 v37)) ⟨g42, trivial⟩ ?_
     refine OpsW.asU (.int .u8 (t0.getD v36.toNat 0)) rfl rfl (T.load rfl trivial (by kernel_rfl) (fm_cell0 (eI .u8) 1 (fun _ => rfl) t0 (0 : Int) v36.toNat (ltN g42) (fun a => .val (.int .u8 a)) (fun _ => rfl))) ?_
     refine OpsW.sg 1 [32, 7, 0, 5, 6, 22, 23] ((32, .bool ((qZ9c v37) == (t0.getD v36.toNat 0))) :: (7, .int .i64 v37) :: (qZ8x t0 v35 v36 v37)) ?_
     refine OpsW.nil (AW.cond (b := (qZ9c v37) == (t0.getD v36.toNat 0)) rfl (fun c43 => ?_) (fun c43 => ?_))
     ·replace H := condT c43 H
      refine AW.seq (AW.regionSeq (OpsW.sg 2 [34, 7, 0, 5, 6] [(34, .bool (decide (5 < v36))), (7, .int .i64 v37), (qZ99 t0), (5, .int .i64 v35), (6, .int .i64 v36)] ?_))
      refine OpsW.nil (AW.cond (b := decide (5 < v36)) rfl (fun c44 => ?_) (fun c44 => ?_))
      ·replace H := condT c44 H
       refine AW.regionSeq (OpsW.sg 3 [4, 3, 2] qZ91 ?_)
       refine OpsW.nil ?_
       obtain rfl := Option.some.inj H
       refine AW.recast (env' := qZ92) (h' := []) (StC.pure (.i3 .nil)) ?_
       refine AW.ret ?_
       try simp only [Ex.then, Ex.inBlock, Ex.noGoto, Ex.jump, reduceIte, Nat.reduceEqDiff, reduceCtorEq]
       refine Done.gen rfl (.tmp (.tmp (.tmp .nil))) ?_
       show _ = _
       kernel_rfl
      replace H := condF c44 H
      refine AW.skip (AW.regionSeq ?_)
      obtain ⟨g45, H⟩ := G_some H
      obtain ⟨g46, H⟩ := G_some H
      refine OpsW.sq 5 [5, 0, 6] [inR (10 * v35), inR ((10 * v35) + v37)] [(5, .int .i64 ((10 * v35) + v37)), (qZ99 t0), (6, .int .i64 v36)] ⟨g45, g46, trivial⟩ ?_
      refine OpsW.nil (AW.regionSeq ?_)
      obtain ⟨g47, H⟩ := G_some H
      refine OpsW.sq 3 [6, 5, 0] [inR (v36 + 1)] [(6, .int .i64 (v36 + 1)), (5, .int .i64 ((10 * v35) + v37)), (qZ99 t0)] ⟨g47, trivial⟩ ?_
      refine OpsW.nil (AW.exit ?_)
      show ∃ y, _ ∧ StC _ _ _ _
      exact ⟨((10 * v35) + v37, v36 + 1), H, (StC.pure (.i3 .nil))⟩
     replace H := condF c43 H
     refine AW.skip (AW.region ?_)
     obtain ⟨g48, H⟩ := G_some H
     refine OpsW.sq 2 [23, 0, 5, 6, 22] [inR (v37 + 1)] [(23, .int .i64 (v37 + 1)), (qZ99 t0), (5, .int .i64 v35), (6, .int .i64 v36), qZ9i] ⟨g48, trivial⟩ ?_
     refine OpsW.nil ?_
     show ∃ y, _ ∧ StC _ _ _ _
     exact ⟨(v35, v36, v37 + 1), H, (StC.pure (.i3 (.cons (.agg (CstL.ims _)) (.cons .im .nil))))⟩
    replace H := condF c39 H
    refine AW.exit ?_
    refine AW.exit ?_
    show ∃ y, _ ∧ StC _ _ _ _
    exact ⟨(v35, v36), H, (StC.pure (.i3 .nil))⟩
   replace H := condF c34 H
   refine AW.exit ?_
   show ∃ y, _ ∧ StC _ _ _ _
   exact ⟨(v31, v32), H, (StC.pure (.i3 .nil))⟩
  rintro ⟨v27, v28⟩ H
  change f_number_Read_k3 t0 v27 v28 = some r at H
  unfold f_number_Read_k3 at H
  change AW _ _ _ [(qZ99 t0), (5, .int .i64 v27), (6, .int .i64 v28)] [] _
  refine AW.seq (AW.drawSeq Tryd.checked.mixed (by kernel_rfl) ?_)
  obtain ⟨g29, H⟩ := G_some H
  refine QOps.seg (N := 58) 8 [(!(v28 == 1)) = true → (!(v28 == 1)) = true, (!(v28 == 1)) = true → (!(v28 == 1)) = true, (qZ96 v28) = true → (qZ96 v28) = true, (qZ96 v28) = true → (0 ≤ (1 : Int) ∧ (1 : Int) < (qZ9h t0))] (qZ8v t0 v27 v28) (by kernel_rfl) ⟨(fun h => h), (fun h => h), (fun h => h), g29, trivial⟩ ?_
  refine QOps.asG (c := (!(v28 == 1)) && (decide (2 < v28))) (.int .u8 (qZ9g t0)) rfl rfl rfl (fun hc => T.load rfl hc (by kernel_rfl) (fm_cell0 (eI .u8) 1 (fun _ => rfl) t0 (0 : Int) (1 : Int).toNat (ltN (g29 hc)) (fun a => .val (.int .u8 a)) (fun _ => rfl))) ?_
  refine QOps.seg (N := 58) 1 [(qZ96 v28) = true → (0 ≤ (0 : Int) ∧ (0 : Int) < (10 : Int))] (qZ8z t0 v27 v28) (by kernel_rfl) ⟨(fun _ => by decide), trivial⟩ ?_
  refine QOps.asG (c := (!(v28 == 1)) && (decide (2 < v28))) (.int .u8 qZ9b) rfl rfl rfl (fun hc => T.load rfl hc (by kernel_rfl) (tabOff (fm_cell0 (eI .u8) 1 (fun _ => rfl) tab_number_digits (0 : Int) (0 : Int).toNat (ltA (n := 10) (by decide) rfl) (fun a => .val (.int .u8 a)) (fun _ => rfl)))) ?_
  refine QOps.seg (N := 58) 3 [(qZ96 v28) = true → (qZ96 v28) = true, (qZ96 v28) = true → (qZ96 v28) = true, (!(v28 == 1)) = true → (!(v28 == 1)) = true, (!(v28 == 1)) = true → ((decide (2 < v28)) = true → (qZ96 v28) = true), (v28 == 1) = false → (!(v28 == 1)) = true] ((55, .bool (cond (v28 == 1) true (qZ9f t0 v28))) :: (54, .cnd (!(v28 == 1)) (.bool (qZ9f t0 v28))) :: (53, .cnd (qZ96 v28) (.bool (qZ95 t0))) :: (52, .cnd (qZ96 v28) (.int .u8 qZ9b)) :: (qZ8z t0 v27 v28)) (by kernel_rfl) ⟨(fun h => h), (fun h => h), (fun h => h), (fun h0 h => by first | exact h | (simp [h0, h]; done) | (simp at h0 h ⊢; simp [h0, h]; done) | (simp_all; done) | grind), (fun h => by first | exact h | (simpa using h) | grind), trivial⟩ ?_
  refine QOps.nil (AW.trim [55, 5, 6] [(55, .bool (cond (v28 == 1) true (qZ9f t0 v28))), (5, .int .i64 v27), (6, .int .i64 v28)] (by kernel_rfl) ?_)
  refine AW.cond (b := cond (v28 == 1) true (qZ9f t0 v28)) rfl (fun c30 => ?_) (fun c30 => ?_)
  ·replace H := condT c30 H
   refine AW.regionSeq (OpsW.sg 3 [4, 3, 2] qZ91 ?_)
   refine OpsW.nil ?_
   obtain rfl := Option.some.inj H
   refine AW.recast (env' := qZ92) (h' := []) (StC.pure (.i3 .nil)) ?_
   refine AW.ret ?_
   try simp only [Ex.then, Ex.inBlock, Ex.noGoto, Ex.jump, reduceIte, Nat.reduceEqDiff, reduceCtorEq]
   refine Done.gen rfl (.tmp (.tmp (.tmp .nil))) ?_
   show _ = _
   kernel_rfl
  replace H := condF c30 H
  refine AW.skip (AW.regionSeq (OpsW.sg 5 [4, 3, 2] [(4, .int .i64 0), (3, .int .i64 v28), (2, .int .i64 v27)] ?_))
  refine OpsW.nil ?_
  obtain rfl := Option.some.inj H
  refine AW.recast (env' := [(2, .int .i64 v27), (3, .int .i64 v28), (4, .int .i64 0)]) (h' := []) (StC.pure (.i3 .nil)) ?_
  refine AW.ret ?_
  try simp only [Ex.then, Ex.inBlock, Ex.noGoto, Ex.jump, reduceIte, Nat.reduceEqDiff, reduceCtorEq]
  refine Done.gen rfl (.tmp (.tmp (.tmp .nil))) ?_
  show _ = _
  kernel_rfl
 rintro ⟨v1, v2⟩ H
 change f_number_Read_k2 t0 v1 v2 = some r at H
 unfold f_number_Read_k2 at H
 change AW _ _ _ [(qZ99 t0), (5, .int .i64 v1), (6, .int .i64 v2)] [] _
 refine AW.skipSeq ?_
 refine AW.joinK (fun (y : Int × Int) => f_number_Read_k1 t0 y.1 y.2) r (fun (y : Int × Int) => [(qZ99 t0), (5, .int .i64 y.1), (6, .int .i64 y.2)]) (fun (y : Int × Int) => []) ?_ ?_
 ·refine AW.block ?_
  refine AW.iterK (fun loop (s : Int × Int) => f_number_Read_b2 t0 loop s.1 s.2) r (fun (s : Int × Int) => [(qZ99 t0), (5, .int .i64 s.1), (6, .int .i64 s.2)]) (fun (s : Int × Int) => []) ?_ 1000000 (v1, v2) H (StC.pure (.i3 .nil))
  intro loop9 s H
  obtain ⟨v7, v8⟩ := s
  change f_number_Read_b2 t0 loop9 v7 v8 = some r at H
  unfold f_number_Read_b2 at H
  change AW _ _ _ (qZ93 t0 v7 v8) [] _
  refine AW.seq (AW.regionSeq (OpsW.sg 4 [21, 0, 5, 6] ((21, .bool (decide (v8 < (qZ9h t0)))) :: (qZ93 t0 v7 v8)) ?_))
  refine OpsW.nil (AW.cond (b := decide (v8 < (qZ9h t0))) rfl (fun c10 => ?_) (fun c10 => ?_))
  ·replace H := condT c10 H
   refine AW.skip (AW.block (AW.seq (AW.regionSeq (OpsW.asU (.agg qZ98) rfl rfl (T.loadAgg (n := 10) rfl trivial (by kernel_rfl) (Nat.le_of_ble_eq_true (by kernel_rfl)) (by kernel_rfl)) ?_))))
   refine OpsW.sg 1 [23, 22, 0, 5, 6] ((23, .int .i64 0) :: qZ9i :: (qZ93 t0 v7 v8)) ?_
   refine OpsW.nil (AW.block ?_)
   refine AW.iterK (fun loop (s : Int × Int × Int) => f_number_Read_b1 t0 loop9 loop s.1 s.2.1 s.2.2) r (fun (s : Int × Int × Int) => [(qZ99 t0), (5, .int .i64 s.1), (6, .int .i64 s.2.1), qZ9i, (23, .int .i64 s.2.2)]) (fun (s : Int × Int × Int) => []) ?_ 1000000 (v7, v8, (0 : Int)) H (StC.pure (.i3 (.cons (.agg (CstL.ims _)) (.cons .im .nil))))
   intro loop14 s H
   obtain ⟨v11, v12, v13⟩ := s
   change f_number_Read_b1 t0 loop9 loop14 v11 v12 v13 = some r at H
   unfold f_number_Read_b1 at H
   change AW _ _ _ (qZ8y t0 v11 v12 v13) [] _
   refine AW.regionSeq (OpsW.sg 1 [24, 0, 5, 6, 22, 23] ((24, .bool (decide (v13 < 10))) :: (qZ8y t0 v11 v12 v13)) ?_)
   refine OpsW.nil (AW.seq (AW.cond (b := decide (v13 < 10)) rfl (fun c15 => ?_) (fun c15 => ?_)))
   ·replace H := condT c15 H
    refine AW.skip (AW.seq (AW.block (AW.regionSeq (OpsW.sg 1 [25, 0, 5, 6, 22, 23] ((25, .int .i64 v13) :: (qZ8y t0 v11 v12 v13)) ?_))))
    obtain ⟨g16, H⟩ := G_some H
    obtain ⟨g17, H⟩ := G_some H
    refine OpsW.asU (.int .u8 (qZ9d v13)) rfl rfl (T.indexA (e := 42) rfl rfl trivial trivial (by kernel_rfl) (by kernel_rfl) (by kernel_rfl) (by kernel_rfl) g16 (map_get (fm_cell0 (eI .u8) 1 (fun _ => rfl) tab_number_digits (0 : Int) v13.toNat (ltA (n := 10) g16 g17) (fun a => .val (.int .u8 a)) (fun _ => rfl)))) ?_
    refine OpsW.sg 2 [8, 7, 0, 5, 6, 22, 23] ((8, .int .u8 (qZ9d v13)) :: (7, .int .i64 v13) :: (qZ8y t0 v11 v12 v13)) ?_
    refine OpsW.nil (AW.regionSeq ?_)
    obtain ⟨g18, H⟩ := G_some H
    refine OpsW.sq 4 [30, 27, 7, 0, 5, 6, 22, 23] [0 ≤ v12 ∧ v12 < (qZ9h t0)] ((30, .ipt (t0.flatMap (eI .u8)) (v12.toNat * 1)) :: (27, .int .u8 (qZ9d v13)) :: (7, .int .i64 v13) :: (qZ8y t0 v11 v12 v13)) ⟨g18, trivial⟩ ?_
    refine OpsW.asU (.int .u8 (t0.getD v12.toNat 0)) rfl rfl (T.load rfl trivial (by kernel_rfl) (fm_cell0 (eI .u8) 1 (fun _ => rfl) t0 (0 : Int) v12.toNat (ltN g18) (fun a => .val (.int .u8 a)) (fun _ => rfl))) ?_
    refine OpsW.sg 1 [32, 7, 0, 5, 6, 22, 23] ((32, .bool ((qZ9d v13) == (t0.getD v12.toNat 0))) :: (7, .int .i64 v13) :: (qZ8y t0 v11 v12 v13)) ?_
    refine OpsW.nil (AW.cond (b := (qZ9d v13) == (t0.getD v12.toNat 0)) rfl (fun c19 => ?_) (fun c19 => ?_))
    ·replace H := condT c19 H
     refine AW.seq (AW.regionSeq (OpsW.sg 2 [34, 7, 0, 5, 6] [(34, .bool (decide (5 < v12))), (7, .int .i64 v13), (qZ99 t0), (5, .int .i64 v11), (6, .int .i64 v12)] ?_))
     refine OpsW.nil (AW.cond (b := decide (5 < v12)) rfl (fun c20 => ?_) (fun c20 => ?_))
     ·replace H := condT c20 H
      refine AW.regionSeq (OpsW.sg 3 [4, 3, 2] qZ91 ?_)
      refine OpsW.nil ?_
      obtain rfl := Option.some.inj H
      refine AW.recast (env' := qZ92) (h' := []) (StC.pure (.i3 .nil)) ?_
      refine AW.ret ?_
      try simp only [Ex.then, Ex.inBlock, Ex.noGoto, Ex.jump, reduceIte, Nat.reduceEqDiff, reduceCtorEq]
      refine Done.gen rfl (.tmp (.tmp (.tmp .nil))) ?_
      show _ = _
      kernel_rfl
     replace H := condF c20 H
     refine AW.skip (AW.regionSeq ?_)
     obtain ⟨g21, H⟩ := G_some H
     obtain ⟨g22, H⟩ := G_some H
     refine OpsW.sq 5 [5, 0, 6] [inR (10 * v11), inR ((10 * v11) + v13)] [(5, .int .i64 ((10 * v11) + v13)), (qZ99 t0), (6, .int .i64 v12)] ⟨g21, g22, trivial⟩ ?_
     refine OpsW.nil (AW.regionSeq ?_)
     obtain ⟨g23, H⟩ := G_some H
     refine OpsW.sq 3 [6, 5, 0] [inR (v12 + 1)] [(6, .int .i64 (v12 + 1)), (5, .int .i64 ((10 * v11) + v13)), (qZ99 t0)] ⟨g23, trivial⟩ ?_
     refine OpsW.nil (AW.exit ?_)
     show ∃ y, _ ∧ StC _ _ _ _
     exact ⟨((10 * v11) + v13, v12 + 1), H, (StC.pure (.i3 .nil))⟩
    replace H := condF c19 H
    refine AW.skip (AW.region ?_)
    obtain ⟨g24, H⟩ := G_some H
    refine OpsW.sq 2 [23, 0, 5, 6, 22] [inR (v13 + 1)] [(23, .int .i64 (v13 + 1)), (qZ99 t0), (5, .int .i64 v11), (6, .int .i64 v12), qZ9i] ⟨g24, trivial⟩ ?_
    refine OpsW.nil ?_
    show ∃ y, _ ∧ StC _ _ _ _
    exact ⟨(v11, v12, v13 + 1), H, (StC.pure (.i3 (.cons (.agg (CstL.ims _)) (.cons .im .nil))))⟩
   replace H := condF c15 H
   refine AW.exit ?_
   refine AW.exit ?_
   show ∃ y, _ ∧ StC _ _ _ _
   exact ⟨(v11, v12), H, (StC.pure (.i3 .nil))⟩
  replace H := condF c10 H
  refine AW.exit ?_
  show ∃ y, _ ∧ StC _ _ _ _
  exact ⟨(v7, v8), H, (StC.pure (.i3 .nil))⟩
 rintro ⟨v3, v4⟩ H
 change f_number_Read_k1 t0 v3 v4 = some r at H
 unfold f_number_Read_k1 at H
 change AW _ _ _ [(qZ99 t0), (5, .int .i64 v3), (6, .int .i64 v4)] [] _
 refine AW.seq (AW.drawSeq Tryd.checked.mixed (by kernel_rfl) ?_)
 obtain ⟨g5, H⟩ := G_some H
 refine QOps.seg (N := 58) 8 [(!(v4 == 1)) = true → (!(v4 == 1)) = true, (!(v4 == 1)) = true → (!(v4 == 1)) = true, (qZ97 v4) = true → (qZ97 v4) = true, (qZ97 v4) = true → (0 ≤ (1 : Int) ∧ (1 : Int) < (qZ9h t0))] (qZ8w t0 v3 v4) (by kernel_rfl) ⟨(fun h => h), (fun h => h), (fun h => h), g5, trivial⟩ ?_
 refine QOps.asG (c := (!(v4 == 1)) && (decide (2 < v4))) (.int .u8 (qZ9g t0)) rfl rfl rfl (fun hc => T.load rfl hc (by kernel_rfl) (fm_cell0 (eI .u8) 1 (fun _ => rfl) t0 (0 : Int) (1 : Int).toNat (ltN (g5 hc)) (fun a => .val (.int .u8 a)) (fun _ => rfl))) ?_
 refine QOps.seg (N := 58) 1 [(qZ97 v4) = true → (0 ≤ (0 : Int) ∧ (0 : Int) < (10 : Int))] (qZ90 t0 v3 v4) (by kernel_rfl) ⟨(fun _ => by decide), trivial⟩ ?_
 refine QOps.asG (c := (!(v4 == 1)) && (decide (2 < v4))) (.int .u8 qZ9b) rfl rfl rfl (fun hc => T.load rfl hc (by kernel_rfl) (tabOff (fm_cell0 (eI .u8) 1 (fun _ => rfl) tab_number_digits (0 : Int) (0 : Int).toNat (ltA (n := 10) (by decide) rfl) (fun a => .val (.int .u8 a)) (fun _ => rfl)))) ?_
 refine QOps.seg (N := 58) 3 [(qZ97 v4) = true → (qZ97 v4) = true, (qZ97 v4) = true → (qZ97 v4) = true, (!(v4 == 1)) = true → (!(v4 == 1)) = true, (!(v4 == 1)) = true → ((decide (2 < v4)) = true → (qZ97 v4) = true), (v4 == 1) = false → (!(v4 == 1)) = true] ((55, .bool (cond (v4 == 1) true (qZ9e t0 v4))) :: (54, .cnd (!(v4 == 1)) (.bool (qZ9e t0 v4))) :: (53, .cnd (qZ97 v4) (.bool (qZ95 t0))) :: (52, .cnd (qZ97 v4) (.int .u8 qZ9b)) :: (qZ90 t0 v3 v4)) (by kernel_rfl) ⟨(fun h => h), (fun h => h), (fun h => h), (fun h0 h => by first | exact h | (simp [h0, h]; done) | (simp at h0 h ⊢; simp [h0, h]; done) | (simp_all; done) | grind), (fun h => by first | exact h | (simpa using h) | grind), trivial⟩ ?_
 refine QOps.nil (AW.trim [55, 5, 6] [(55, .bool (cond (v4 == 1) true (qZ9e t0 v4))), (5, .int .i64 v3), (6, .int .i64 v4)] (by kernel_rfl) ?_)
 refine AW.cond (b := cond (v4 == 1) true (qZ9e t0 v4)) rfl (fun c6 => ?_) (fun c6 => ?_)
 ·replace H := condT c6 H
  refine AW.regionSeq (OpsW.sg 3 [4, 3, 2] qZ91 ?_)
  refine OpsW.nil ?_
  obtain rfl := Option.some.inj H
  refine AW.recast (env' := qZ92) (h' := []) (StC.pure (.i3 .nil)) ?_
  refine AW.ret ?_
  try simp only [Ex.then, Ex.inBlock, Ex.noGoto, Ex.jump, reduceIte, Nat.reduceEqDiff, reduceCtorEq]
  refine Done.gen rfl (.tmp (.tmp (.tmp .nil))) ?_
  show _ = _
  kernel_rfl
 replace H := condF c6 H
 refine AW.skip (AW.regionSeq (OpsW.sg 5 [4, 3, 2] [(4, .int .i64 0), (3, .int .i64 v4), (2, .int .i64 v3)] ?_))
 refine OpsW.nil ?_
 obtain rfl := Option.some.inj H
 refine AW.recast (env' := [(2, .int .i64 v3), (3, .int .i64 v4), (4, .int .i64 0)]) (h' := []) (StC.pure (.i3 .nil)) ?_
 refine AW.ret ?_
 try simp only [Ex.then, Ex.inBlock, Ex.noGoto, Ex.jump, reduceIte, Nat.reduceEqDiff, reduceCtorEq]
 refine Done.gen rfl (.tmp (.tmp (.tmp .nil))) ?_
 show _ = _
 kernel_rfl
end Go.Proofs.YtbcfmhoaocifoaaDoor
