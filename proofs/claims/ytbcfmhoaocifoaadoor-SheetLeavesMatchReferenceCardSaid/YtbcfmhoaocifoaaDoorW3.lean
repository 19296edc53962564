/- Own work. -/
import Derived.Test.YtbcfmhoaocifoaaDoorW2
set_option linter.unusedSimpArgs false
set_option linter.unusedVariables false
set_option maxRecDepth 100000
namespace Go.Proofs.YtbcfmhoaocifoaaDoor
open Go.Abs
def Y23 (loop22 : (Yk × (List (List Int)) × Int) → Option ((List (List Int)) × Int)) (v21 : Int) (v24 : Yk) (v25 : List (List Int)) : Option ((List (List Int)) × Int) :=
 G (inR (v21 + 1)) <|
 loop22 (v24, v25, v21 + 1)
def Y0y (v7 : Int) (loop17 : (Yk × (List (List Int)) × Int) → Option ((List (List Int)) × Int)) (v16 : Int) (loop22 : (Yk × (List (List Int)) × Int) → Option ((List (List Int)) × Int)) (v19 : Yk) (v20 : List (List Int)) (v21 : Int) : Option ((List (List Int)) × Int) :=
 cond (decide (v21 < 6)) (
  G (inR (3 * v7)) <|
  G (0 ≤ v21 ∧ v21 < 6) <|
  G (inR ((3 * v7) + ((Y26.getD v21.toNat Y0c).Y))) <|
  G (0 ≤ ((3 * v7) + ((Y26.getD v21.toNat Y0c).Y)) ∧ ((3 * v7) + ((Y26.getD v21.toNat Y0c).Y)) < (v19.Dots.length : Int)) <|
  G (inR (2 * v16)) <|
  G (inR ((2 * v16) + ((Y26.getD v21.toNat Y0c).X))) <|
  G (0 ≤ ((2 * v16) + ((Y26.getD v21.toNat Y0c).X)) ∧ ((2 * v16) + ((Y26.getD v21.toNat Y0c).X)) < ((v19.Dots.getD ((3 * v7) + ((Y26.getD v21.toNat Y0c).Y)).toNat []).length : Int)) <|
  cond ((v19.Dots.getD ((3 * v7) + ((Y26.getD v21.toNat Y0c).Y)).toNat []).getD ((2 * v16) + ((Y26.getD v21.toNat Y0c).X)).toNat false) (
   G (0 ≤ v7 ∧ v7 < (v20.length : Int)) <|
   G (0 ≤ v16 ∧ v16 < ((v20.getD v7.toNat []).length : Int)) <|
   G (0 ≤ v21) <|
   Y23 loop22 v21 v19 (v20.set v7.toNat ((v20.getD v7.toNat []).set v16.toNat (bOr .u8 ((v20.getD v7.toNat []).getD v16.toNat 0) (bShl .u8 (1 : Int) v21))))) (
   Y23 loop22 v21 v19 v20)) (
  G (inR (v16 + 1)) <|
  loop17 (v19, v20, v16 + 1))
def Y0x (loop8 : (Yk × (List (List Int)) × Int) → Option ((List (List Int)) × Int)) (v5 : Yk) (v6 : List (List Int)) (v7 : Int) (loop17 : (Yk × (List (List Int)) × Int) → Option ((List (List Int)) × Int)) (v14 : Yk) (v15 : List (List Int)) (v16 : Int) : Option ((List (List Int)) × Int) :=
 cond (decide (v16 < ((((v6.set v7.toNat (List.replicate (Int.tdiv v5.W (2 : Int)).toNat (0 : Int))).getD v7.toNat []).length : Nat) : Int))) (
  iter (fun loop (s : Yk × (List (List Int)) × Int) => Y0y v7 loop17 v16 loop s.1 s.2.1 s.2.2) 1000000 (v14, v15, (0 : Int))) (
  G (inR (v7 + 1)) <|
  loop8 (v14, v15, v7 + 1))
def Y0w (t0 : Yk) (loop8 : (Yk × (List (List Int)) × Int) → Option ((List (List Int)) × Int)) (v5 : Yk) (v6 : List (List Int)) (v7 : Int) : Option ((List (List Int)) × Int) :=
 cond (decide (v7 < (((List.replicate (Int.tdiv t0.H (3 : Int)).toNat ([] : List Int)).length : Nat) : Int))) (
  G (inR (Int.tdiv v5.W (2 : Int))) <|
  G (0 ≤ (Int.tdiv v5.W (2 : Int)) ∧ (Int.tdiv v5.W (2 : Int)) ≤ (Int.tdiv v5.W (2 : Int)) ∧ ((1 : Nat) : Int) * (Int.tdiv v5.W (2 : Int)) ≤ 281474976710656 ∧ (Int.tdiv v5.W (2 : Int)) ≤ 9223372036854775807) <|
  G (0 ≤ v7 ∧ v7 < (v6.length : Int)) <|
  G (0 ≤ v7 ∧ v7 < ((v6.set v7.toNat (List.replicate (Int.tdiv v5.W (2 : Int)).toNat (0 : Int))).length : Int)) <|
  iter (fun loop (s : Yk × (List (List Int)) × Int) => Y0x loop8 v5 v6 v7 loop s.1 s.2.1 s.2.2) 1000000 (v5, v6.set v7.toNat (List.replicate (Int.tdiv v5.W (2 : Int)).toNat (0 : Int)), (0 : Int))) (
  some (v6, (0 : Int)))
def Y3n (t0 : Yk) : Option ((List (List Int)) × Int) :=
 (f_grid_Valid t0).bind fun x1 =>
 cond (cond (cond (!x1) true ((Int.tmod t0.W (2 : Int)) != 0)) true ((Int.tmod t0.H (3 : Int)) != 0)) (
  some ([], (1 : Int))) (
  G (inR (Int.tdiv t0.H (3 : Int))) <|
  G (0 ≤ (Int.tdiv t0.H (3 : Int)) ∧ (Int.tdiv t0.H (3 : Int)) ≤ (Int.tdiv t0.H (3 : Int)) ∧ ((24 : Nat) : Int) * (Int.tdiv t0.H (3 : Int)) ≤ 281474976710656 ∧ (Int.tdiv t0.H (3 : Int)) ≤ 9223372036854775807) <|
  iter (fun loop (s : Yk × (List (List Int)) × Int) => Y0w t0 loop s.1 s.2.1 s.2.2) 1000000 (t0, List.replicate (Int.tdiv t0.H (3 : Int)).toNat ([] : List Int), (0 : Int)))
section
variable (t0 : Yk) (v5 : Yk) (v6 : List (List Int)) (v7 : Int) (v14 : Yk) (v15 : List (List Int)) (v16 : Int) (v19 : Yk) (v20 : List (List Int)) (v21 : Int) (v24 : Yk) (v25 : List (List Int)) (x1 : Bool)
abbrev Z5t := (List.replicate (Int.tdiv v5.W (2 : Int)).toNat (0 : Int))
abbrev Z5u := (List.replicate (Int.tdiv t0.H (3 : Int)).toNat ([] : List Int))
abbrev Z5v := (v20.set v7.toNat ((v20.getD v7.toNat []).set v16.toNat (bOr .u8 ((v20.getD v7.toNat []).getD v16.toNat 0) (bShl .u8 (1 : Int) v21))))
abbrev Z5w := Y26.getD v21.toNat Y0c
abbrev Z5x := ((((v6.set v7.toNat (Z5t v5)).getD v7.toNat []).length : Nat) : Int)
abbrev Z5y := (cond (!x1) true ((Int.tmod t0.W (2 : Int)) != 0))
abbrev Z5z := [fmA 10004 42 1 (eI .u8) (v6.set v7.toNat (Z5t v5))]
abbrev Z60 : Nat × AV := (28, .j (((Z5u t0).length : Nat) : Int))
abbrev Z61 := v19.Dots.getD ((3 * v7) + ((Z5w v21).Y)).toNat []
abbrev Z62 := (bOr .u8 ((v20.getD v7.toNat []).getD v16.toNat 0) (bShl .u8 (1 : Int) v21))
abbrev Z63 : Nat × AV := (1, .ref 1 0 0)
abbrev Z64 : Nat × AV := (73, .rsl (fid 10004 v7.toNat) 0 0 ((v20.getD v7.toNat []).length))
abbrev Z65 := List (List Int)
abbrev Z66 := [fmA 10004 42 1 (eI .u8) v20]
abbrev Z67 := [fmA 10004 42 1 (eI .u8) (Z5v v7 v16 v20 v21)]
abbrev Z68 := (2 * v16) + ((Z5w v21).X)
abbrev Z69 := fid 10004 v7.toNat
abbrev Z6a := Y26.flatMap eS_Point
abbrev Z6b : List AV := [.j t0.W, .j t0.H, sD t0.Dots]
abbrev Z6c := [fmA 10004 42 1 (eI .u8) v6]
abbrev Z6d := [fmA 10004 42 1 (eI .u8) (Z5u t0)]
abbrev Z6e := [fmA 10004 42 1 (eI .u8) v15]
abbrev Z6f := (Int.tdiv t0.H (3 : Int))
abbrev Z6g := 0 + v7.toNat * 1
abbrev Z6h := (3 * v7) + ((Z5w v21).Y)
abbrev Z6i : Nat × AV := (4, .rsl 4 0 0 v20.length)
abbrev Z51 : Env := [(5, .j v7), (6, .j v16), (Z60 t0), (29, .j v7), (43, .j (Z5x v5 v6 v7)), (44, .j v16), (47, .j v21)]
abbrev Z52 : Env := [(Z60 t0), (29, .j v7)]
abbrev Z53 : Hp := [(1, ⟨0, true, 96, 3, [.j v19.W, .j v19.H, sD v19.Dots]⟩), (4, nsA 0 41 10004 (Z5v v7 v16 v20 v21))]
abbrev Z54 : Env := [(Z60 t0), (29, .j v7), (43, .j (Z5x v5 v6 v7)), (44, .j v16)]
abbrev Z55 : Env := (59, .ipt (v19.Dots.flatMap (eL eB)) ((Z6h v7 v21).toNat * 1)) :: (58, .j (Z6h v7 v21)) :: (57, .j ((Z5w v21).Y)) :: (56, .ipt Z6a (0 + v21.toNat * 2 + 1)) :: (55, .ipt Z6a (0 + v21.toNat * 2)) :: (54, .j v21) :: (53, .j (3 * v7)) :: (52, .j v7) :: (51, sD v19.Dots) :: (50, .ref 1 0 2) :: (7, .j v21) :: Z63 :: (Z6i v20) :: (Z51 t0 v5 v6 v7 v16 v21)
abbrev Z56 : Env := (5, .j v7) :: Z63 :: (4, .rsl 4 0 0 ((v6.set v7.toNat (Z5t v5)).length)) :: (Z52 t0 v7)
abbrev Z57 : Env := (79, .int .u8 (Z62 v7 v16 v20 v21)) :: (74, .j v16) :: (Z64 v7 v20) :: Z63 :: (Z6i v20) :: (Z51 t0 v5 v6 v7 v16 v21)
abbrev Z58 : Env := (69, .bool ((Z61 v7 v19 v21).getD (Z68 v16 v21).toNat false)) :: (7, .j v21) :: Z63 :: (Z6i v20) :: (Z51 t0 v5 v6 v7 v16 v21)
abbrev Z59 : Hp := [(1, ⟨0, true, 96, 3, [.j v5.W, .j v5.H, sD v5.Dots]⟩), (4, nsA 0 41 10004 (v6.set v7.toNat (Z5t v5)))]
abbrev Z5a : Hp := [(1, ⟨0, true, 96, 3, [.j v19.W, .j v19.H, sD v19.Dots]⟩), (4, nsA 0 41 10004 v20)]
abbrev Z5b : Hp := [(1, ⟨0, true, 96, 3, (Z6b t0)⟩), (4, nsA 0 41 10004 (Z5u t0))]
abbrev Z5c : Env := (38, .ref 4 0 (Z6g v7)) :: (37, .rsl 37 0 0 ((Z5t v5).length)) :: (5, .j v7) :: Z63 :: (4, .rsl 4 0 0 v6.length) :: (Z52 t0 v7)
abbrev Z5d : Env := Z63 :: (4, .rsl 4 0 0 ((Z5v v7 v16 v20 v21).length)) :: (Z51 t0 v5 v6 v7 v16 v21)
abbrev Z5e : Hp := [(1, ⟨0, true, 96, 3, [.j v5.W, .j v5.H, sD v5.Dots]⟩), (4, nsA 0 41 10004 v6)]
abbrev Z5f : Hp := [(4, nsA 0 41 10004 (v6.set v7.toNat (Z5t v5))), (1, ⟨0, true, 96, 3, [.j v5.W, .j v5.H, sD v5.Dots]⟩)]
abbrev Z5g : Hp := [(26, nsA 0 41 10026 (Z5u t0)), (1, ⟨0, true, 96, 3, (Z6b t0)⟩)]
abbrev Z5h : Hp := [(1, ⟨0, true, 96, 3, [.j v14.W, .j v14.H, sD v14.Dots]⟩), (4, nsA 0 41 10004 v15)]
abbrev Z5i : Env := (65, .ipt Z6a (0 + v21.toNat * 2 + 0)) :: (64, .ipt Z6a (0 + v21.toNat * 2)) :: (63, .j v21) :: (62, .j (2 * v16)) :: (61, .j v16) :: (60, slA eB (Z61 v7 v19 v21)) :: (Z55 t0 v5 v6 v7 v16 v19 v20 v21)
abbrev Z5j : Hp := (4, ⟨0, true, 41, 1, putA (nsA 0 41 10004 v6).cs (Z6g v7) [.rsl 37 0 0 ((Z5t v5).length)]⟩) :: (37, rtA 0 42 1 (eI .u8) (Z5t v5)) :: (Z5e v5 v6)
abbrev Z5k : Env := Z63 :: (4, .rsl 4 0 0 v6.length) :: (Z52 t0 v7)
abbrev Z5l : Env := [(26, .rsl 26 0 0 ((Z5u t0).length)), (25, .j (Z6f t0)), Z63]
abbrev Z5m : Env := (74, .j v16) :: (Z64 v7 v20) :: (72, .ref 4 0 (Z6g v7)) :: (71, .j v7) :: (70, .rsl 4 0 0 v20.length) :: (Z58 t0 v5 v6 v7 v16 v19 v20 v21)
abbrev Z5n : Env := Z63 :: (4, .rsl 4 0 0 v15.length) :: (5, .j v7) :: (Z54 t0 v5 v6 v7 v16)
abbrev Z5o : Hp := [(1, ⟨0, true, 96, 3, [.j v24.W, .j v24.H, sD v24.Dots]⟩), (4, nsA 0 41 10004 v25)]
abbrev Z5p : Env := Z63 :: (Z6i v20) :: (Z51 t0 v5 v6 v7 v16 v21)
abbrev Z5q : List (Nat × FM) := [(10004, .same 10004)]
abbrev Z5r : Env := [(4, .rsl 4 0 0 ((Z5u t0).length)), Z63]
abbrev Z5s : Env := (36, .j (Int.tdiv v5.W (2 : Int))) :: (33, .j v7) :: (32, .rsl 4 0 0 v6.length) :: (5, .j v7) :: (Z5k t0 v6 v7)
end
theorem f_grid_ToCells_ok  {t0 : Yk} {r : (List (List Int)) × Int} (H : Y3n t0 = some r) : QSpec Tryd.prog 55 [.agg [.int .i64 t0.W, .int .i64 t0.H, slA (eL eB) t0.Dots]] (.tup [slA (eL (eI .u8)) r.1, .int .i64 r.2]) := by
 refine Yj Tryd.func55 rfl (by simp [Tryd.ntmps55]) ?_
 rw [Tryd.ntmps55]
 unfold Y3n at H
 change AW _ _ _ [(0, .agg (Z6b t0))] [] _
 refine Y0 (OpsW.box rfl rfl rfl 1 rfl (Y5 (by kernel_rfl)) ?_)
 change OpsW _ _ _ _ _ [(1, ⟨0, true, 96, 3, (Z6b t0)⟩)] _
 refine Y2 2 [1] [Z63] ?_
 refine Y1 (Yc (Y0 (Y2 1 [8, 1] [(8, .agg (Z6b t0)), Z63] ?_)))
 obtain ⟨x1, hx1, H⟩ := Yt H
 refine OpsW.qcall rfl (by kernel_rfl) rfl rfl (Yg trivial) (.cons (.pur rfl) .nil) (f_grid_Valid_ok hx1) rfl ?_
 refine Y5k 13 [22, 1] [(!(!x1)) = true → (!(!x1)) = true, (!(!x1)) = true → (!(!x1)) = true, (!(!x1)) = true → (2 : Int) ≠ 0, (!(!x1)) = true → (!(!x1)) = true, (!x1) = false → (!(!x1)) = true, (!(Z5y t0 x1)) = true → (!(Z5y t0 x1)) = true, (!(Z5y t0 x1)) = true → (!(Z5y t0 x1)) = true, (!(Z5y t0 x1)) = true → (3 : Int) ≠ 0, (!(Z5y t0 x1)) = true → (!(Z5y t0 x1)) = true, (Z5y t0 x1) = false → (!(Z5y t0 x1)) = true] [(22, .bool (cond (Z5y t0 x1) true ((Int.tmod t0.H (3 : Int)) != 0))), Z63] ⟨(fun h => h), (fun h => h), (fun _ => by decide), (fun h => h), (fun h => by first | exact h | (simpa using h) | grind), (fun h => h), (fun h => h), (fun _ => by decide), (fun h => h), (fun h => by first | exact h | (simpa using h) | grind), trivial⟩ ?_
 refine Y1 (Y9 (b := cond (Z5y t0 x1) true ((Int.tmod t0.H (3 : Int)) != 0)) H rfl (fun c2 H => ?_) (fun c2 H => ?_))
 ·refine Y0 (Y2 2 [3, 2] [(3, .j (1 : Int)), (2, .im (.val (.slice none 0 0)))] ?_)
  refine Y1 ?_
  obtain rfl := X1 H
  refine AW.recast (env' := [(2, sC []), (3, .j (1 : Int))]) (h' := []) (StC.pure (.cons .nil (.cons .im .nil))) ?_
  refine Yl ?_
  try simp only [Ex.then, Ex.inBlock, Ex.noGoto, Ex.jump, reduceIte, Nat.reduceEqDiff, reduceCtorEq]
  refine Y1k rfl (.tmp (.tmp .nil)) ?_
  show _ = _
  kernel_rfl
 refine Yb (Y0 ?_)
 obtain ⟨g3, H⟩ := Y6 H
 refine Y5k 3 [25, 1] [(3 : Int) ≠ 0, inR (Z6f t0)] [(25, .j (Z6f t0)), Z63] ⟨(by decide), g3, trivial⟩ ?_
 obtain ⟨g4, H⟩ := Y6 H
 refine Y5r rfl rfl rfl 26 rfl E36 rfl rfl g4 ?_
 refine OpsW.weaken (Z5l t0) (Y04 (by first | (rw [Xn]; rfl; done) | (simp only [Z5u, Z63, Z6f, Z5l]; rw [Xn]; rfl))) ?_
 refine Ya (Z5l t0) ((Z5g t0) ++ fmsH [fmA 10026 42 1 (eI .u8) (Z5u t0)]) (Yp (hc := [(26, ⟨0, true, 41, 1, Y0u [.slice none 0 0] (Z6f t0).toNat⟩), (1, ⟨0, true, 96, 3, (Z6b t0)⟩)]) (fs := []) (hc' := (Z5g t0)) (fs' := [fmA 10026 42 1 (eI .u8) (Z5u t0)]) rfl [(26, some 26), (1, some 1)] [(10026, .nil)] rfl (.o rfl (nsNilA rfl (by decide) rfl rfl) (.o rfl (.i3 .nil) .nil)) rfl (.cons rfl fmNil .nil) (.cons (.s rfl) (.cons .im (.cons (.r rfl) .nil)))) ?_
 refine Y2 1 [4, 1] [(4, .rsl 26 0 0 ((Z5u t0).length)), Z63] ?_
 refine Ya (Z5r t0) ((Z5b t0) ++ fmsH (Z6d t0)) (Yp (hc := (Z5g t0)) (fs := [fmA 10026 42 1 (eI .u8) (Z5u t0)]) (hc' := (Z5b t0)) (fs' := (Z6d t0)) rfl [(1, some 1), (4, some 26)] [(10004, .same 10026)] rfl (.o rfl (.i3 .nil) (.o rfl (Yf rfl rfl (by decide) rfl rfl rfl) .nil)) rfl (.cons rfl (Ym rfl) .nil) (.cons (.s rfl) (.cons (.r rfl) .nil))) ?_
 refine Y1 (Yc (Y0 (Y2 3 [29, 28, 4, 1] ((29, .j (0 : Int)) :: (Z60 t0) :: (Z5r t0)) ?_)))
 refine Y1 (Yd ?_)
 refine Yq (fun loop (s : Yk × Z65 × Int) => Y0w t0 loop s.1 s.2.1 s.2.2) r (fun (s : Yk × Z65 × Int) => [Z63, (4, .rsl 4 0 0 s.2.1.length), (Z60 t0), (29, .j s.2.2)]) (fun (s : Yk × Z65 × Int) => ([(1, ⟨0, true, 96, 3, [.j s.1.W, .j s.1.H, sD s.1.Dots]⟩), (4, nsA 0 41 10004 s.2.1)] ++ fmsH [fmA 10004 42 1 (eI .u8) s.2.1])) ?_ 1000000 (t0, List.replicate (Z6f t0).toNat ([] : List Int), (0 : Int)) H (Yp (hc := (Z5b t0)) (fs := (Z6d t0)) (hc' := (Z5b t0)) (fs' := (Z6d t0)) rfl [(1, some 1), (4, some 4)] Z5q rfl (.o rfl (.i3 .nil) (.o rfl (Yf rfl rfl (by decide) rfl rfl rfl) .nil)) rfl (.cons rfl (Ym rfl) .nil) (.cons (.r rfl) (.cons (.s rfl) (.i2 .nil))))
 intro loop8 s H
 obtain ⟨v5, v6, v7⟩ := s
 change Y0w t0 loop8 v5 v6 v7 = some r at H
 unfold Y0w at H
 change AW _ _ _ (Z5k t0 v6 v7) ((Z5e v5 v6) ++ fmsH (Z6c v6)) _
 refine Y0 (Y2 1 [30, 1, 4, 28, 29] ((30, .bool (decide (v7 < (((Z5u t0).length : Nat) : Int)))) :: (Z5k t0 v6 v7)) ?_)
 refine Y1 (Yc (Y9 (b := decide (v7 < (((Z5u t0).length : Nat) : Int))) H rfl (fun c9 H => ?_) (fun c9 H => ?_)))
 ·refine Yb (Yc (Yd (Y0 (Y2 2 [5, 1, 4, 28, 29] ((5, .j v7) :: (Z5k t0 v6 v7)) ?_))))
  refine Y1 (Y0 ?_)
  obtain ⟨g10, H⟩ := Y6 H
  refine Y5k 5 [36, 33, 32, 5, 1, 4, 28, 29] [(2 : Int) ≠ 0, inR (Int.tdiv v5.W (2 : Int))] (Z5s t0 v5 v6 v7) ⟨(by decide), g10, trivial⟩ ?_
  obtain ⟨g11, H⟩ := Y6 H
  change OpsW _ _ _ _ (Z5s t0 v5 v6 v7) ((Z5e v5 v6) ++ fmsH (Z6c v6)) _
  refine OpsW.makeT (enc := eI .u8) (0 : Int) rfl rfl rfl 37 (Y4r rfl) E41 rfl rfl rfl g11 ?_
  obtain ⟨g12, H⟩ := Y6 H
  refine Y5k 1 [38, 37, 5, 1, 4, 28, 29] [0 ≤ v7 ∧ v7 < (v6.length : Int)] (Z5c t0 v5 v6 v7) ⟨g12, trivial⟩ ?_
  change OpsW _ _ _ _ (Z5c t0 v5 v6 v7) (((37, rtA 0 42 1 (eI .u8) (Z5t v5)) :: (Z5e v5 v6)) ++ fmsH (Z6c v6)) _
  refine OpsW.store rfl rfl rfl rfl trivial trivial rfl rfl rfl (by kernel_rfl) (Y5 (by kernel_rfl)) (ns_fit (ltN g12)) ?_
  change OpsW _ _ _ _ (Z5c t0 v5 v6 v7) ((Z5j v5 v6 v7) ++ fmsH (Z6c v6)) _
  refine OpsW.weaken ((38, .ref 4 0 (Z6g v7)) :: (37, .rsl 37 0 0 ((Z5t v5).length)) :: (Z56 t0 v5 v6 v7)) (Y04 (by first | (simp only [Xs]; done) | (simp only [Z5t, Z5u, Z60, Z63, Z6c, Z6g, Z52, Z56, Z5c, Z5e, Z5j]; simp only [Xs]))) ?_
  refine Ya ((38, .ref 4 0 (Z6g v7)) :: (Z56 t0 v5 v6 v7)) ((Z5f v5 v6 v7) ++ fmsH (Z5z v5 v6 v7)) (Yp (hc := (Z5j v5 v6 v7)) (fs := (Z6c v6)) (hc' := (Z5f v5 v6 v7)) (fs' := (Z5z v5 v6 v7)) rfl [(4, some 4), (1, some 1)] [(10004, .put 10004 v7.toNat 37)] rfl (.o rfl (nsPutA rfl rfl (by decide) rfl rfl rfl rfl (ltN g12) (by first | omega | (simp only [Z5t, Z5u, Z5z, Z6c, Z6g]; omega)) rfl) (.o rfl (.i3 .nil) .nil)) rfl (.cons rfl (fmPut rfl rfl (ltN g12)) .nil) (.cons (.r rfl) (.cons .im (.cons (.r rfl) (.cons (.s rfl) (.i2 .nil)))))) ?_
  refine Y2 0 [5, 1, 4, 28, 29] (Z56 t0 v5 v6 v7) ?_
  refine Ya (Z56 t0 v5 v6 v7) ((Z59 v5 v6 v7) ++ fmsH (Z5z v5 v6 v7)) (Yp (hc := (Z5f v5 v6 v7)) (fs := (Z5z v5 v6 v7)) (hc' := (Z59 v5 v6 v7)) (fs' := (Z5z v5 v6 v7)) rfl [(1, some 1), (4, some 4)] Z5q rfl (.o rfl (.i3 .nil) (.o rfl (Yf rfl rfl (by decide) rfl rfl rfl) .nil)) rfl (.cons rfl (Ym rfl) .nil) (.cons .im (.cons (.r rfl) (.cons (.s rfl) (.i2 .nil))))) ?_
  refine Y1 (Y0 ?_)
  obtain ⟨g13, H⟩ := Y6 H
  refine Y5k 3 [41, 5, 1, 4, 28, 29] [0 ≤ v7 ∧ v7 < ((v6.set v7.toNat (Z5t v5)).length : Int)] ((41, .ref 4 0 (Z6g v7)) :: (Z56 t0 v5 v6 v7)) ⟨g13, trivial⟩ ?_
  refine OpsW.asU (.rsl (Z69 v7) 0 0 (((v6.set v7.toNat (Z5t v5)).getD v7.toNat []).length)) rfl rfl (Y2o rfl trivial (by kernel_rfl) rfl rfl rfl (Y5b (ltN g13) (by first | omega | (simp only [Z5t, Z5u, Z5z, Z69, Z6g]; omega)))) ?_
  change OpsW _ _ _ _ ((42, .rsl (Z69 v7) 0 0 (((v6.set v7.toNat (Z5t v5)).getD v7.toNat []).length)) :: (41, .ref 4 0 (Z6g v7)) :: (Z56 t0 v5 v6 v7)) ((Z59 v5 v6 v7) ++ fmsH (Z5z v5 v6 v7)) _
  refine OpsW.asU (.j (Z5x v5 v6 v7)) rfl rfl (T.lenF rfl trivial (by kernel_rfl) (row_f rfl rfl (ltN g13)) rfl) ?_
  refine Y2 1 [44, 43, 5, 1, 4, 28, 29] ((44, .j (0 : Int)) :: (43, .j (Z5x v5 v6 v7)) :: (Z56 t0 v5 v6 v7)) ?_
  refine Y1 (Yd ?_)
  refine Yq (fun loop (s : Yk × Z65 × Int) => Y0x loop8 v5 v6 v7 loop s.1 s.2.1 s.2.2) r (fun (s : Yk × Z65 × Int) => [Z63, (4, .rsl 4 0 0 s.2.1.length), (5, .j v7), (Z60 t0), (29, .j v7), (43, .j (Z5x v5 v6 v7)), (44, .j s.2.2)]) (fun (s : Yk × Z65 × Int) => ([(1, ⟨0, true, 96, 3, [.j s.1.W, .j s.1.H, sD s.1.Dots]⟩), (4, nsA 0 41 10004 s.2.1)] ++ fmsH [fmA 10004 42 1 (eI .u8) s.2.1])) ?_ 1000000 (v5, v6.set v7.toNat (Z5t v5), (0 : Int)) H (Yp (hc := (Z59 v5 v6 v7)) (fs := (Z5z v5 v6 v7)) (hc' := (Z59 v5 v6 v7)) (fs' := (Z5z v5 v6 v7)) rfl [(1, some 1), (4, some 4)] Z5q rfl (.o rfl (.i3 .nil) (.o rfl (Yf rfl rfl (by decide) rfl rfl rfl) .nil)) rfl (.cons rfl (Ym rfl) .nil) (.cons (.r rfl) (.cons (.s rfl) (.i5 .nil))))
  intro loop17 s H
  obtain ⟨v14, v15, v16⟩ := s
  change Y0x loop8 v5 v6 v7 loop17 v14 v15 v16 = some r at H
  unfold Y0x at H
  change AW _ _ _ (Z5n t0 v5 v6 v7 v15 v16) ((Z5h v14 v15) ++ fmsH (Z6e v15)) _
  refine Y0 (Y2 1 [45, 1, 4, 5, 28, 29, 43, 44] ((45, .bool (decide (v16 < (Z5x v5 v6 v7)))) :: (Z5n t0 v5 v6 v7 v15 v16)) ?_)
  refine Y1 (Yc (Y9 (b := decide (v16 < (Z5x v5 v6 v7))) H rfl (fun c18 H => ?_) (fun c18 H => ?_)))
  ·refine Yb (Yc (Yd (Y0 (Y2 2 [6, 1, 4, 5, 28, 29, 43, 44] ((6, .j v16) :: (Z5n t0 v5 v6 v7 v15 v16)) ?_))))
   refine Y1 (Y0 (Y2 1 [47, 6, 1, 4, 5, 28, 29, 43, 44] ((47, .j (0 : Int)) :: (6, .j v16) :: (Z5n t0 v5 v6 v7 v15 v16)) ?_))
   refine Y1 (Yd ?_)
   refine Yq (fun loop (s : Yk × Z65 × Int) => Y0y v7 loop17 v16 loop s.1 s.2.1 s.2.2) r (fun (s : Yk × Z65 × Int) => [Z63, (4, .rsl 4 0 0 s.2.1.length), (5, .j v7), (6, .j v16), (Z60 t0), (29, .j v7), (43, .j (Z5x v5 v6 v7)), (44, .j v16), (47, .j s.2.2)]) (fun (s : Yk × Z65 × Int) => ([(1, ⟨0, true, 96, 3, [.j s.1.W, .j s.1.H, sD s.1.Dots]⟩), (4, nsA 0 41 10004 s.2.1)] ++ fmsH [fmA 10004 42 1 (eI .u8) s.2.1])) ?_ 1000000 (v14, v15, (0 : Int)) H (Yp (hc := (Z5h v14 v15)) (fs := (Z6e v15)) (hc' := (Z5h v14 v15)) (fs' := (Z6e v15)) rfl [(1, some 1), (4, some 4)] Z5q rfl (.o rfl (.i3 .nil) (.o rfl (Yf rfl rfl (by decide) rfl rfl rfl) .nil)) rfl (.cons rfl (Ym rfl) .nil) (.cons (.r rfl) (.cons (.s rfl) (.i7 .nil))))
   intro loop22 s H
   obtain ⟨v19, v20, v21⟩ := s
   change Y0y v7 loop17 v16 loop22 v19 v20 v21 = some r at H
   unfold Y0y at H
   change AW _ _ _ (Z5p t0 v5 v6 v7 v16 v20 v21) ((Z5a v19 v20) ++ fmsH (Z66 v20)) _
   refine Y0 (Y2 1 [48, 1, 4, 5, 6, 28, 29, 43, 44, 47] ((48, .bool (decide (v21 < 6))) :: (Z5p t0 v5 v6 v7 v16 v20 v21)) ?_)
   refine Y1 (Yc (Y9 (b := decide (v21 < 6)) H rfl (fun c23 H => ?_) (fun c23 H => ?_)))
   ·refine Yb ?_
    refine Y08 (fun (y : Yk × Z65) => Y23 loop22 v21 y.1 y.2) r (fun (y : Yk × Z65) => (Z63 :: (4, .rsl 4 0 0 y.2.length) :: (Z51 t0 v5 v6 v7 v16 v21))) (fun (y : Yk × Z65) => ([(1, ⟨0, true, 96, 3, [.j y.1.W, .j y.1.H, sD y.1.Dots]⟩), (4, nsA 0 41 10004 y.2)] ++ fmsH [fmA 10004 42 1 (eI .u8) y.2])) ?_ ?_
    ·refine Yd (Y0 (Y2 2 [7, 1, 4, 5, 6, 28, 29, 43, 44, 47] ((7, .j v21) :: (Z5p t0 v5 v6 v7 v16 v20 v21)) ?_))
     refine Y1 (Y0q Tryd.checked.mixed (by kernel_rfl) ?_)
     obtain ⟨g27, H⟩ := Y6 H
     obtain ⟨g28, H⟩ := Y6 H
     refine QOps.seg (N := 85) 7 [inR (3 * v7), 0 ≤ v21 ∧ v21 < 6] ((56, .ipt Z6a (0 + v21.toNat * 2 + 1)) :: (55, .ipt Z6a (0 + v21.toNat * 2)) :: (54, .j v21) :: (53, .j (3 * v7)) :: (52, .j v7) :: (51, sD v19.Dots) :: (50, .ref 1 0 2) :: (7, .j v21) :: (Z5p t0 v5 v6 v7 v16 v20 v21)) (by kernel_rfl) ⟨g27, g28, trivial⟩ ?_
     refine QOps.asU (.j ((Z5w v21).Y)) rfl (T.load rfl trivial (by kernel_rfl) (tabOff2 (Y3u eS_Point 2 (fun _ => rfl) Y26 Y0c v21.toNat (ltA (n := 6) g28 rfl) 1 (fun a => .val (.j a.Y)) (fun _ => rfl)))) ?_
     obtain ⟨g29, H⟩ := Y6 H
     obtain ⟨g30, H⟩ := Y6 H
     refine QOps.seg (N := 85) 2 [inR (Z6h v7 v21), 0 ≤ (Z6h v7 v21) ∧ (Z6h v7 v21) < (v19.Dots.length : Int)] (Z55 t0 v5 v6 v7 v16 v19 v20 v21) (by kernel_rfl) ⟨g29, g30, trivial⟩ ?_
     refine QOps.asU (slA eB (Z61 v7 v19 v21)) rfl (T.load rfl trivial (by kernel_rfl) (Y3u (eL eB) 1 (fun _ => rfl) v19.Dots [] (Z6h v7 v21).toNat (ltN g30) 0 (fun a => .sl (a.flatMap eB) a.length) (fun _ => rfl))) ?_
     obtain ⟨g31, H⟩ := Y6 H
     refine QOps.seg (N := 85) 5 [inR (2 * v16), 0 ≤ v21 ∧ v21 < 6] (Z5i t0 v5 v6 v7 v16 v19 v20 v21) (by kernel_rfl) ⟨g31, g28, trivial⟩ ?_
     refine QOps.asU (.j ((Z5w v21).X)) rfl (T.load rfl trivial (by kernel_rfl) (tabOff2 (Y3u eS_Point 2 (fun _ => rfl) Y26 Y0c v21.toNat (ltA (n := 6) g28 rfl) 0 (fun a => .val (.j a.X)) (fun _ => rfl)))) ?_
     obtain ⟨g32, H⟩ := Y6 H
     obtain ⟨g33, H⟩ := Y6 H
     refine QOps.seg (N := 85) 2 [inR (Z68 v16 v21), 0 ≤ (Z68 v16 v21) ∧ (Z68 v16 v21) < ((Z61 v7 v19 v21).length : Int)] ((68, .ipt ((Z61 v7 v19 v21).flatMap eB) ((Z68 v16 v21).toNat * 1)) :: (67, .j (Z68 v16 v21)) :: (66, .j ((Z5w v21).X)) :: (Z5i t0 v5 v6 v7 v16 v19 v20 v21)) (by kernel_rfl) ⟨g32, g33, trivial⟩ ?_
     refine QOps.asU (.bool ((Z61 v7 v19 v21).getD (Z68 v16 v21).toNat false)) rfl (T.load rfl trivial (by kernel_rfl) (Y3u eB 1 (fun _ => rfl) (Z61 v7 v19 v21) false (Z68 v16 v21).toNat (ltN g33) 0 (fun a => .val (.bool a)) (fun _ => rfl))) ?_
     refine QOps.nil (AW.trim [69, 7, 1, 4, 5, 6, 28, 29, 43, 44, 47] (Z58 t0 v5 v6 v7 v16 v19 v20 v21) (by kernel_rfl) ?_)
     refine Y9 (b := (Z61 v7 v19 v21).getD (Z68 v16 v21).toNat false) H rfl (fun c34 H => ?_) (fun c34 H => ?_)
     ·refine AW.drawT 9 Tryd.checked.mixed (by kernel_rfl) ?_
      obtain ⟨g35, H⟩ := Y6 H
      refine QOps.seg (N := 85) 3 [0 ≤ v7 ∧ v7 < (v20.length : Int)] ((72, .ref 4 0 (Z6g v7)) :: (71, .j v7) :: (70, .rsl 4 0 0 v20.length) :: (Z58 t0 v5 v6 v7 v16 v19 v20 v21)) (by kernel_rfl) ⟨g35, trivial⟩ ?_
      refine QOps.asU (.rsl (Z69 v7) 0 0 ((v20.getD v7.toNat []).length)) rfl (Y2o rfl trivial (by kernel_rfl) rfl rfl rfl (Y5b (ltN g35) (by first | omega | (simp only [Z5t, Z5u, Z5w, Z5x, Z61, Z68, Z69, Z6g]; omega)))) ?_
      refine QOps.seg (N := 85) 1 [] (Z5m t0 v5 v6 v7 v16 v19 v20 v21) (by kernel_rfl) trivial ?_
      obtain ⟨g36, H⟩ := Y6 H
      refine QOps.asU (.ref (Z69 v7) 0 (0 + v16.toNat * 1)) rfl (T.idxF rfl rfl trivial trivial (by kernel_rfl) (by kernel_rfl) (row_f rfl rfl (ltN g35)) rfl rfl g36) ?_
      refine QOps.asU (.int .u8 ((v20.getD v7.toNat []).getD v16.toNat 0)) rfl (Y2o rfl trivial (by kernel_rfl) (row_f rfl rfl (ltN g35)) rfl rfl (rt_cell (eI .u8) 1 (fun _ => rfl) (v20.getD v7.toNat []) (0 : Int) v16.toNat (ltN g36) 0 (fun a => .val (.int .u8 a)) (fun _ => rfl) (by first | omega | (simp only [Z5t, Z5u, Z5w, Z5x, Z61, Z68, Z69, Z6g]; omega)))) ?_
      obtain ⟨g37, H⟩ := Y6 H
      refine QOps.seg (N := 85) 2 [0 ≤ v21] ((78, .int .u8 (bShl .u8 (1 : Int) v21)) :: (77, .j v21) :: (76, .int .u8 ((v20.getD v7.toNat []).getD v16.toNat 0)) :: (75, .ref (Z69 v7) 0 (0 + v16.toNat * 1)) :: (Z5m t0 v5 v6 v7 v16 v19 v20 v21)) (by kernel_rfl) ⟨g37, trivial⟩ ?_
      refine QOps.nil (Y2 0 [78, 76, 74, 73, 1, 4, 5, 6, 28, 29, 43, 44, 47] ((78, .int .u8 (bShl .u8 (1 : Int) v21)) :: (76, .int .u8 ((v20.getD v7.toNat []).getD v16.toNat 0)) :: (74, .j v16) :: (Z64 v7 v20) :: (Z5p t0 v5 v6 v7 v16 v20 v21)) ?_)
      refine Y2 1 [79, 74, 73, 1, 4, 5, 6, 28, 29, 43, 44, 47] (Z57 t0 v5 v6 v7 v16 v20 v21) ?_
      change OpsW _ _ _ _ (Z57 t0 v5 v6 v7 v16 v20 v21) ((Z5a v19 v20) ++ fmsH (Z66 v20)) _
      refine OpsW.asU (.ref (Z69 v7) 0 (0 + v16.toNat * 1)) rfl rfl (T.idxF rfl rfl trivial trivial (by kernel_rfl) (by kernel_rfl) (row_f rfl rfl (ltN g35)) rfl rfl g36) ?_
      change OpsW _ _ _ _ ((80, .ref (Z69 v7) 0 (0 + v16.toNat * 1)) :: (Z57 t0 v5 v6 v7 v16 v20 v21)) ((Z5a v19 v20) ++ fmsH (Z66 v20)) _
      refine Y1x (enc := eI .u8) (k := 1) (xs := v20) (hc' := (Z53 v7 v16 v19 v20 v21)) (0 : Int) (Z62 v7 v16 v20 v21) [.val (.int .u8 (Z62 v7 v16 v20 v21))] v7.toNat v16.toNat 0 rfl rfl rfl (by first | rfl | exact congrArg (AV.ref (Z69 v7) 0) (by first | omega | (simp only [Z5t, Z5u, Z5v, Z5x, Z62, Z66, Z69]; omega))) trivial trivial rfl rfl (fun _ => rfl) rfl (by kernel_rfl) (Y5 (by kernel_rfl)) (ltN g35) (ltN g36) (X0 (by kernel_rfl)) rfl (by simp only [Xs, nsA_set, Z5t, Z5u, Z5v, Z5x, Z60, Z62, Z63, Z64, Z66, Z69, Z6i, Z51, Z53, Z57, Z5a, Z5p]) ?_
      change OpsW _ _ _ _ ((80, .ref (Z69 v7) 0 (0 + v16.toNat * 1)) :: (Z57 t0 v5 v6 v7 v16 v20 v21)) ((Z53 v7 v16 v19 v20 v21) ++ fmsH (Z67 v7 v16 v20 v21)) _
      refine OpsW.weaken ((80, .ref (Z69 v7) 0 (0 + v16.toNat * 1)) :: (79, .int .u8 (Z62 v7 v16 v20 v21)) :: (74, .j v16) :: (Z64 v7 v20) :: (Z5d t0 v5 v6 v7 v16 v20 v21)) (Y04 (by first | (simp only [Xs, Xt]; done) | (simp only [Z5t, Z5u, Z5v, Z5x, Z60, Z62, Z63, Z64, Z66, Z67, Z69, Z6i, Z51, Z53, Z57, Z5a, Z5d]; simp only [Xs, Xt]))) ?_
      refine Y2 0 [1, 4, 5, 6, 28, 29, 43, 44, 47] (Z5d t0 v5 v6 v7 v16 v20 v21) ?_
      refine Ya (Z5d t0 v5 v6 v7 v16 v20 v21) ((Z53 v7 v16 v19 v20 v21) ++ fmsH (Z67 v7 v16 v20 v21)) (Yp (hc := (Z53 v7 v16 v19 v20 v21)) (fs := (Z67 v7 v16 v20 v21)) (hc' := (Z53 v7 v16 v19 v20 v21)) (fs' := (Z67 v7 v16 v20 v21)) rfl [(1, some 1), (4, some 4)] Z5q rfl (.o rfl (.i3 .nil) (.o rfl (Yf rfl rfl (by decide) rfl rfl rfl) .nil)) rfl (.cons rfl (Ym rfl) .nil) (.cons (.r rfl) (.cons (.s rfl) (.i7 .nil)))) ?_
      refine Y1 ?_
      show ∃ y, _ ∧ StC _ _ _ _
      exact ⟨(v19, v20.set v7.toNat ((v20.getD v7.toNat []).set v16.toNat (Z62 v7 v16 v20 v21))), H, (Yp (hc := (Z53 v7 v16 v19 v20 v21)) (fs := (Z67 v7 v16 v20 v21)) (hc' := (Z53 v7 v16 v19 v20 v21)) (fs' := (Z67 v7 v16 v20 v21)) rfl [(1, some 1), (4, some 4)] Z5q rfl (.o rfl (.i3 .nil) (.o rfl (Yf rfl rfl (by decide) rfl rfl rfl) .nil)) rfl (.cons rfl (Ym rfl) .nil) (.cons (.r rfl) (.cons (.s rfl) (.i7 .nil))))⟩
     refine Yb ?_
     show ∃ y, _ ∧ StC _ _ _ _
     exact ⟨(v19, v20), H, (Yp (hc := (Z5a v19 v20)) (fs := (Z66 v20)) (hc' := (Z5a v19 v20)) (fs' := (Z66 v20)) rfl [(1, some 1), (4, some 4)] Z5q rfl (.o rfl (.i3 .nil) (.o rfl (Yf rfl rfl (by decide) rfl rfl rfl) .nil)) rfl (.cons rfl (Ym rfl) .nil) (.cons (.r rfl) (.cons (.s rfl) (.i7 .nil))))⟩
    rintro ⟨v24, v25⟩ H
    change Y23 loop22 v21 v24 v25 = some r at H
    unfold Y23 at H
    change AW _ _ _ (Z63 :: (4, .rsl 4 0 0 v25.length) :: (Z51 t0 v5 v6 v7 v16 v21)) ((Z5o v24 v25) ++ fmsH [fmA 10004 42 1 (eI .u8) v25]) _
    refine Ye ?_
    obtain ⟨g26, H⟩ := Y6 H
    refine Y5k 2 [47, 1, 4, 5, 6, 28, 29, 43, 44] [inR (v21 + 1)] ((47, .j (v21 + 1)) :: Z63 :: (4, .rsl 4 0 0 v25.length) :: (5, .j v7) :: (6, .j v16) :: (Z54 t0 v5 v6 v7 v16)) ⟨g26, trivial⟩ ?_
    refine Y1 ?_
    show ∃ y, _ ∧ StC _ _ _ _
    exact ⟨(v24, v25, v21 + 1), H, (Yp (hc := (Z5o v24 v25)) (fs := [fmA 10004 42 1 (eI .u8) v25]) (hc' := (Z5o v24 v25)) (fs' := [fmA 10004 42 1 (eI .u8) v25]) rfl [(1, some 1), (4, some 4)] Z5q rfl (.o rfl (.i3 .nil) (.o rfl (Yf rfl rfl (by decide) rfl rfl rfl) .nil)) rfl (.cons rfl (Ym rfl) .nil) (.cons (.r rfl) (.cons (.s rfl) (.i7 .nil))))⟩
   refine AW.exit ?_
   refine Ye ?_
   obtain ⟨g38, H⟩ := Y6 H
   refine Y5k 2 [44, 1, 4, 5, 28, 29, 43] [inR (v16 + 1)] [(44, .j (v16 + 1)), Z63, (Z6i v20), (5, .j v7), (Z60 t0), (29, .j v7), (43, .j (Z5x v5 v6 v7))] ⟨g38, trivial⟩ ?_
   refine Y1 ?_
   show ∃ y, _ ∧ StC _ _ _ _
   exact ⟨(v19, v20, v16 + 1), H, (Yp (hc := (Z5a v19 v20)) (fs := (Z66 v20)) (hc' := (Z5a v19 v20)) (fs' := (Z66 v20)) rfl [(1, some 1), (4, some 4)] Z5q rfl (.o rfl (.i3 .nil) (.o rfl (Yf rfl rfl (by decide) rfl rfl rfl) .nil)) rfl (.cons rfl (Ym rfl) .nil) (.cons (.r rfl) (.cons (.s rfl) (.i5 .nil))))⟩
  refine AW.exit ?_
  refine Ye ?_
  obtain ⟨g39, H⟩ := Y6 H
  refine Y5k 2 [29, 1, 4, 28] [inR (v7 + 1)] [(29, .j (v7 + 1)), Z63, (4, .rsl 4 0 0 v15.length), (Z60 t0)] ⟨g39, trivial⟩ ?_
  refine Y1 ?_
  show ∃ y, _ ∧ StC _ _ _ _
  exact ⟨(v14, v15, v7 + 1), H, (Yp (hc := (Z5h v14 v15)) (fs := (Z6e v15)) (hc' := (Z5h v14 v15)) (fs' := (Z6e v15)) rfl [(1, some 1), (4, some 4)] Z5q rfl (.o rfl (.i3 .nil) (.o rfl (Yf rfl rfl (by decide) rfl rfl rfl) .nil)) rfl (.cons rfl (Ym rfl) .nil) (.cons (.r rfl) (.cons (.s rfl) (.i2 .nil))))⟩
 refine AW.exit ?_
 refine Y0 (Y2 3 [3, 2] [(3, .j (0 : Int)), (2, .rsl 4 0 0 v6.length)] ?_)
 refine Ya [(3, .j (0 : Int)), (2, sC v6)] [] (Yp (hc := (Z5e v5 v6)) (fs := (Z6c v6)) (hc' := []) (fs' := []) rfl [] [] rfl .nil rfl .nil (.cons .im (.cons (Y10 rfl rfl (fun _ => rfl) rfl rfl rfl) .nil))) ?_
 refine Y1 ?_
 obtain rfl := X1 H
 refine AW.recast (env' := [(2, sC v6), (3, .j (0 : Int))]) (h' := []) (StC.pure (.i2 .nil)) ?_
 refine Yl ?_
 try simp only [Ex.then, Ex.inBlock, Ex.noGoto, Ex.jump, reduceIte, Nat.reduceEqDiff, reduceCtorEq]
 refine Y1k rfl (.tmp (.tmp .nil)) ?_
 show _ = _
 kernel_rfl
def Y4v (t0 : List Int) (loop2 : (Int) → Option (List Int)) (v1 : Int) : Option (List Int) :=
 G ((decide (0 < v1)) = true → inR (v1 - 1)) <|
 G ((decide (0 < v1)) = true → (0 ≤ (v1 - 1) ∧ (v1 - 1) < (t0.length : Int))) <|
 cond (cond (decide (0 < v1)) ((t0.getD (v1 - 1).toNat (0 : Int)) == 0) false) (
  G (inR (v1 - 1)) <|
  loop2 (v1 - 1)) (
  G (0 ≤ v1 ∧ v1 ≤ (t0.length : Int)) <|
  some (t0.take v1.toNat))
def f_line_Trim (t0 : List Int) : Option (List Int) :=
 iter (fun loop (s : Int) => Y4v t0 loop s) 1000000 (t0.length : Int)
theorem f_line_Trim_ok  {t0 : List Int} {r : List Int} (H : f_line_Trim t0 = some r) : QSpec Tryd.prog 56 [slA (eI .u8) t0] (slA (eI .u8) r) := by
 refine Yj Tryd.func56 rfl (by simp [Tryd.ntmps56]) ?_
 rw [Tryd.ntmps56]
 unfold f_line_Trim at H
 change AW _ _ _ [(0, sU t0)] [] _
 refine Y0 (Y2 1 [0] [(0, sU t0)] ?_)
 refine Y1 (Y0 (Y2 3 [3, 0] [(3, .j (t0.length : Int)), (0, sU t0)] ?_))
 refine Y1 (Yc (Yd ?_))
 refine Yq (fun loop (s : Int) => Y4v t0 loop s) r (fun (s : Int) => [(0, sU t0), (3, .j s)]) (fun (s : Int) => []) ?_ 1000000 (t0.length : Int) H (StC.pure (.i2 .nil))
 intro loop2 v1 H
 unfold Y4v at H
 change AW _ _ _ [(0, sU t0), (3, .j v1)] [] _
 refine Yc (Y0 ?_)
 have ⟨g3, H⟩ := Y6 H
 have ⟨g4, H⟩ := Y6 H
 refine Y8 7 [12, 8, 0, 3] [(12, .cnd (decide (0 < v1)) (.ipt (t0.flatMap (eI .u8)) ((v1 - 1).toNat * 1))), (8, .bool (decide (0 < v1))), (0, sU t0), (3, .j v1)] ⟨(fun h => h), g3, (fun h => h), (fun h => h), g4, trivial⟩ (OpsW.asG (c := decide (0 < v1)) (.int .u8 (t0.getD (v1 - 1).toNat (0 : Int))) rfl rfl rfl rfl (fun hc => T.load rfl hc (by kernel_rfl) (Yn (eI .u8) 1 (fun _ => rfl) t0 (0 : Int) (v1 - 1).toNat (ltN (g4 hc)) (fun a => .val (.int .u8 a)) (fun _ => rfl))) (Y8 2 [15, 0, 3] [(15, .bool (cond (decide (0 < v1)) ((t0.getD (v1 - 1).toNat (0 : Int)) == 0) false)), (0, sU t0), (3, .j v1)] ⟨(fun h => h), (fun h => by first | exact h | (simpa using h) | grind), trivial⟩ (Y1 (Y9 (b := cond (decide (0 < v1)) ((t0.getD (v1 - 1).toNat (0 : Int)) == 0) false) H rfl (fun c5 H => ?_) (fun c5 H => ?_)))))
 ·refine Yb (Yd (Ye ?_))
  have ⟨g6, H⟩ := Y6 H
  refine Y8 3 [3, 0] [(3, .j (v1 - 1)), (0, sU t0)] ⟨g6, trivial⟩ (Y1 ?_)
  exact ⟨v1 - 1, H, (StC.pure (.i2 .nil))⟩
 refine AW.exit ?_
 refine Y0 (Y2 3 [20, 19, 18] [(20, .j v1), (19, .j v1), (18, sU t0)] ?_)
 have ⟨g7, H⟩ := Y6 H
 refine Y4c (sU (t0.take v1.toNat)) rfl rfl (Quiet.sliceMaxT (enc := eI .u8) (l := t0) rfl (by kernel_rfl) (by kernel_rfl) (fun _ => rfl) (gpoU rfl ⟨trivial, rfl, trivial, rfl, trivial, rfl, g7⟩)) (Y2 1 [2] [(2, sU (t0.take v1.toNat))] (Y1 ?_))
 obtain rfl := X1 H
 refine AW.recast (env' := [(2, sU (t0.take v1.toNat))]) (h' := []) (StC.pure (.cons .im .nil)) (Yl ?_)
 try simp only [Ex.t, Ex.b]
 exact Yh rfl (.tmp .nil)
def Y1o (loop16 : ((List (List Int)) × Int × Int) → Option (List (List Int))) (v15 : Int) (v18 : List (List Int)) (v19 : Int) : Option (List (List Int)) :=
 G (inR (v15 + 1)) <|
 loop16 (v18, v19, v15 + 1)
def Y0f (x10 : (List (List Int)) × Int) (loop16 : ((List (List Int)) × Int × Int) → Option (List (List Int))) (v13 : List (List Int)) (v14 : Int) (v15 : Int) : Option (List (List Int)) :=
 cond (decide (v15 < (x10.1.length : Int))) (
  G (0 ≤ v15 ∧ v15 < (x10.1.length : Int)) <|
  (f_line_Trim (x10.1.getD v15.toNat [])).bind fun x22 =>
  G (room 24 (v13.length + 1)) <|
  G (0 ≤ v15 ∧ v15 < ((v13 ++ [x22]).length : Int)) <|
  cond (decide (0 < (((v13 ++ [x22]).getD v15.toNat []).length : Int))) (
   G (inR (v15 + 1)) <|
   Y1o loop16 v15 (v13 ++ [x22]) (v15 + 1)) (
   Y1o loop16 v15 (v13 ++ [x22]) v14)) (
  G (0 ≤ v14 ∧ v14 ≤ (v13.length : Int)) <|
  some (v13.take v14.toNat))
def Y1p (t0 : List (List Bool)) (t1 : Int) (t2 : Int) (loop4 : ((List (List Bool)) × Int) → Option (List (List Int))) (v2 : List (List Bool)) (v3 : Int) : Option (List (List Int)) :=
 cond (decide (v3 < (t0.length : Int))) (
  G (0 ≤ v3 ∧ v3 < (t0.length : Int)) <|
  (Y15 (t0.getD v3.toNat [])).bind fun x7 =>
  G (0 ≤ v3 ∧ v3 < (v2.length : Int)) <|
  G (inR (v3 + 1)) <|
  loop4 (v2.set v3.toNat x7, v3 + 1)) (
  (Y3n (⟨t1, t2, v2⟩ : Yk)).bind fun x10 =>
  cond (x10.2 != 0) (
   some []) (
   G (0 ≤ (0 : Int) ∧ (0 : Int) ≤ (x10.1.length : Int) ∧ ((24 : Nat) : Int) * (x10.1.length : Int) ≤ 281474976710656 ∧ (x10.1.length : Int) ≤ 9223372036854775807) <|
   iter (fun loop (s : (List (List Int)) × Int × Int) => Y0f x10 loop s.1 s.2.1 s.2.2) 1000000 (List.replicate (0 : Int).toNat ([] : List Int), (0 : Int), (0 : Int))))
def Y2i (t0 : List (List Bool)) (t1 : Int) (t2 : Int) : Option (List (List Int)) :=
 G (0 ≤ (t0.length : Int) ∧ (t0.length : Int) ≤ (t0.length : Int) ∧ ((24 : Nat) : Int) * (t0.length : Int) ≤ 281474976710656 ∧ (t0.length : Int) ≤ 9223372036854775807) <|
 iter (fun loop (s : (List (List Bool)) × Int) => Y1p t0 t1 t2 loop s.1 s.2) 1000000 (List.replicate (t0.length : Int).toNat ([] : List Bool), (0 : Int))
section
variable (t0 : List (List Bool)) (v2 : List (List Bool)) (v3 : Int) (v13 : List (List Int)) (v14 : Int) (v15 : Int) (x7 : (List Bool)) (x10 : (List (List Int)) × Int) (x22 : (List Int))
abbrev Z6q := (List.replicate (t0.length : Int).toNat ([] : List Bool))
abbrev Z6r := (List.replicate (0 : Int).toNat ([] : List Int))
abbrev Z6s := (t0.length : Int)
abbrev Z6t := (x10.1.length : Int)
abbrev Z6u := List (List Int)
abbrev Z6j : Env := [(48, sC x10.1), (49, .j (Z6t x10)), (50, .j v15)]
abbrev Z6k : Env := [(9, .rsl 9 0 0 v2.length), (21, sD t0), (22, .j (Z6s t0)), (23, .j v3)]
abbrev Z6l : Env := [(9, .rsl 9 0 0 ((v2.set v3.toNat x7).length)), (21, sD t0), (22, .j (Z6s t0)), (23, .j v3)]
abbrev Z6m : Env := (14, .rsl 14 0 0 v13.length) :: (15, .j v14) :: (Z6j v15 x10)
abbrev Z6n : Env := [(47, .rsl 47 0 0 (Z6r.length)), (46, .j (Z6t x10)), (12, sC x10.1)]
abbrev Z6o : Env := (14, .rsl 14 0 0 ((v13 ++ [x22]).length)) :: (16, .j v15) :: (15, .j v14) :: (Z6j v15 x10)
abbrev Z6p : Env := [(14, .rsl 14 0 0 (Z6r.length)), (12, sC x10.1)]
end
theorem f_sheet_lower_fn32_ok  {t0 : List (List Bool)} {t1 : Int} {t2 : Int} {r : List (List Int)} (H : Y2i t0 t1 t2 = some r) : QSpec Tryd.prog 40 [slA (eL eB) t0, .int .i64 t1, .int .i64 t2, .im (.val (.func (.func 32) #[] #[]))] (slA (eL (eI .u8)) r) := by
 refine Yj Tryd.func40 rfl (by simp [Tryd.ntmps40]) ?_
 rw [Tryd.ntmps40]
 unfold Y2i at H
 change AW _ _ _ [(0, sD t0), (1, .j t1), (2, .j t2), (3, .im (.val (.func (.func 32) #[] #[])))] [] _
 refine Y0 (Y2 1 [0, 1, 2, 3] [(0, sD t0), (1, .j t1), (2, .j t2), (3, .im (.val (.func (.func 32) #[] #[])))] ?_)
 refine Y1 (Y0 (Y2 2 [19, 0, 1, 2, 3] [(19, .j (Z6s t0)), (0, sD t0), (1, .j t1), (2, .j t2), (3, .im (.val (.func (.func 32) #[] #[])))] ?_))
 have ⟨g1, H⟩ := Y6 H
 refine Y5r rfl rfl rfl 20 rfl E45 rfl rfl g1 (OpsW.weaken [(20, .rsl 20 0 0 ((Z6q t0).length)), (19, .j (Z6s t0)), (0, sD t0), (1, .j t1), (2, .j t2), (3, .im (.val (.func (.func 32) #[] #[])))] (Y04 (by first | (rw [Xn]; rfl; done) | (simp only [Z6q, Z6s]; rw [Xn]; rfl))) (Ya [(20, .rsl 20 0 0 ((Z6q t0).length)), (19, .j (Z6s t0)), (0, sD t0), (1, .j t1), (2, .j t2), (3, .im (.val (.func (.func 32) #[] #[])))] [(20, rtA 0 61 1 (eL eB) (Z6q t0))] (StC.mk (phi [(20, some 20)]) (.o rfl (csNil (enc := eB) _) .nil) rfl (.cons (.s rfl) (.i5 .nil))) (Y2 1 [9, 0, 1, 2, 3] [(9, .rsl 20 0 0 ((Z6q t0).length)), (0, sD t0), (1, .j t1), (2, .j t2), (3, .im (.val (.func (.func 32) #[] #[])))] (Ya [(9, .rsl 9 0 0 ((Z6q t0).length)), (0, sD t0), (1, .j t1), (2, .j t2), (3, .im (.val (.func (.func 32) #[] #[])))] [(9, rtA 0 61 1 (eL eB) (Z6q t0))] (StC.mk (phi [(9, some 20)]) (.o rfl (CstL.ims _) .nil) rfl (.cons (.s rfl) (.i4 .nil))) ?_))))
 refine Y1 (Yc (Y0 (Y2 3 [23, 22, 21, 9, 1, 2, 3] [(23, .j (0 : Int)), (22, .j (Z6s t0)), (21, sD t0), (9, .rsl 9 0 0 ((Z6q t0).length)), (1, .j t1), (2, .j t2), (3, .im (.val (.func (.func 32) #[] #[])))] ?_)))
 refine Y1 (Yd ?_)
 refine Yq (fun loop (s : (List (List Bool)) × Int) => Y1p t0 t1 t2 loop s.1 s.2) r (fun (s : (List (List Bool)) × Int) => [(1, .j t1), (2, .j t2), (3, .im (.val (.func (.func 32) #[] #[]))), (9, .rsl 9 0 0 s.1.length), (21, sD t0), (22, .j (Z6s t0)), (23, .j s.2)]) (fun (s : (List (List Bool)) × Int) => [(9, rtA 0 61 1 (eL eB) s.1)]) ?_ 1000000 (List.replicate (Z6s t0).toNat ([] : List Bool), (0 : Int)) H (StC.mk (phi [(9, some 9)]) (.o rfl (CstL.ims _) .nil) rfl (.i3 (.cons (.s rfl) (.i3 .nil))))
 intro loop4 s H
 obtain ⟨v2, v3⟩ := s
 unfold Y1p at H
 change AW _ _ _ ((1, .j t1) :: (2, .j t2) :: (3, .im (.val (.func (.func 32) #[] #[]))) :: (Z6k t0 v2 v3)) [(9, rtA 0 61 1 (eL eB) v2)] _
 refine Y0 (Y2 1 [24, 1, 2, 3, 9, 21, 22, 23] ((24, .bool (decide (v3 < (Z6s t0)))) :: (1, .j t1) :: (2, .j t2) :: (3, .im (.val (.func (.func 32) #[] #[]))) :: (Z6k t0 v2 v3)) ?_)
 refine Y1 (Yc (Y9 (b := decide (v3 < (Z6s t0))) H rfl (fun c5 H => ?_) (fun c5 H => ?_)))
 ·refine Yb (Yc (Yd (Y0 ?_)))
  have ⟨g6, H⟩ := Y6 H
  refine Y8 2 [26, 25, 1, 2, 3, 9, 21, 22, 23] ((26, .ipt (t0.flatMap (eL eB)) (v3.toNat * 1)) :: (25, .j v3) :: (1, .j t1) :: (2, .j t2) :: (3, .im (.val (.func (.func 32) #[] #[]))) :: (Z6k t0 v2 v3)) ⟨g6, trivial⟩ (OpsW.asU (slA eB (t0.getD v3.toNat [])) rfl rfl (T.load rfl trivial (by kernel_rfl) (Yn (eL eB) 1 (fun _ => rfl) t0 [] v3.toNat (ltN g6) (fun a => .sl (a.flatMap eB) a.length) (fun _ => rfl))) (Y2 2 [11, 10, 1, 2, 3, 9, 21, 22, 23] ((11, slA eB (t0.getD v3.toNat [])) :: (10, .j v3) :: (1, .j t1) :: (2, .j t2) :: (3, .im (.val (.func (.func 32) #[] #[]))) :: (Z6k t0 v2 v3)) ?_))
  refine Y1 (Ye (Y2 4 [31, 30, 29, 28, 1, 2, 3, 9, 21, 22, 23] ((31, slA eB (t0.getD v3.toNat [])) :: (30, .im (.val (.func (.func 32) #[] #[]))) :: (29, .j v3) :: (28, .rsl 9 0 0 v2.length) :: (1, .j t1) :: (2, .j t2) :: (3, .im (.val (.func (.func 32) #[] #[]))) :: (Z6k t0 v2 v3)) ?_))
  refine OpsW.valF rfl rfl (by kernel_rfl) ?_
  have ⟨x7, hx7, H⟩ := Yt H
  refine Ys rfl (.cons (.pur rfl) .nil) (f_sheet_straight_ok hx7) ?_
  have ⟨g8, H⟩ := Y6 H
  refine Y8 1 [33, 32, 1, 2, 3, 9, 21, 22, 23] ((33, .ref 9 0 (0 + v3.toNat * 1)) :: (32, slA eB x7) :: (1, .j t1) :: (2, .j t2) :: (3, .im (.val (.func (.func 32) #[] #[]))) :: (Z6k t0 v2 v3)) ⟨g8, trivial⟩ (OpsW.storeT (enc := eL eB) (k := 1) [] x7 [.sl (x7.flatMap eB) x7.length] v3.toNat 0 rfl rfl rfl (by exact congrArg (AV.ref 9 0) (by first | omega | rfl | (simp; omega))) trivial trivial rfl (fun _ => rfl) rfl (by kernel_rfl) (Y5 (by kernel_rfl)) (ltN g8) (X0 (by kernel_rfl)) rfl (OpsW.weaken ((33, .ref 9 0 (0 + v3.toNat * 1)) :: (32, slA eB x7) :: (1, .j t1) :: (2, .j t2) :: (3, .im (.val (.func (.func 32) #[] #[]))) :: (Z6l t0 v2 v3 x7)) (Y04 (by first | (simp only [Xs, Xt]; done) | (simp only [Z6s, Z6k, Z6l]; simp only [Xs, Xt]))) (Y2 0 [1, 2, 3, 9, 21, 22, 23] ((1, .j t1) :: (2, .j t2) :: (3, .im (.val (.func (.func 32) #[] #[]))) :: (Z6l t0 v2 v3 x7)) (Ya ((1, .j t1) :: (2, .j t2) :: (3, .im (.val (.func (.func 32) #[] #[]))) :: (Z6l t0 v2 v3 x7)) [(9, rtA 0 61 1 (eL eB) (v2.set v3.toNat x7))] (StC.mk (phi [(9, some 9)]) (.o rfl (CstL.ims _) .nil) rfl (.i3 (.cons (.s rfl) (.i3 .nil)))) ?_))))
  refine Y1 (Ye ?_)
  have ⟨g9, H⟩ := Y6 H
  refine Y8 2 [23, 1, 2, 3, 9, 21, 22] [(23, .j (v3 + 1)), (1, .j t1), (2, .j t2), (3, .im (.val (.func (.func 32) #[] #[]))), (9, .rsl 9 0 0 ((v2.set v3.toNat x7).length)), (21, sD t0), (22, .j (Z6s t0))] ⟨g9, trivial⟩ (Y1 ?_)
  exact ⟨(v2.set v3.toNat x7, v3 + 1), H, (StC.mk (phi [(9, some 9)]) (.o rfl (CstL.ims _) .nil) rfl (.i3 (.cons (.s rfl) (.i3 .nil))))⟩
 refine AW.exit ?_
 refine Y0 (Y2 3 [38, 37, 36] [(38, .rsl 9 0 0 v2.length), (37, .j t2), (36, .j t1)] ?_)
 refine Ya [(38, sD v2), (37, .j t2), (36, .j t1)] [] (StC.mk (phi []) .nil rfl (.cons (.frz rfl rfl rfl (Y1b (eL eB) 1 (fun _ => rfl) v2) (Yy (eL eB) 1 (fun _ => rfl) v2) (Y3c rfl)) (.i2 .nil))) (Y2 1 [39] [(39, .agg [.j t1, .j t2, sD v2])] ?_)
 have ⟨x10, hx10, H⟩ := Yt H
 refine Ys rfl (.cons (.pur rfl) .nil) (f_grid_ToCells_ok hx10) (Y2 5 [13, 12] [(13, .j x10.2), (12, sC x10.1)] ?_)
 refine Y1 (Yc (Y0 (Y2 2 [44, 12] [(44, .bool (x10.2 != 0)), (12, sC x10.1)] ?_)))
 refine Y1 (Y9 (b := x10.2 != 0) H rfl (fun c11 H => ?_) (fun c11 H => ?_))
 ·refine Y0 (Y2 1 [8] [(8, .im (.val (.slice none 0 0)))] ?_)
  refine Y1 ?_
  obtain rfl := X1 H
  refine AW.recast (env' := [(8, sC [])]) (h' := []) (StC.pure (.cons .nil .nil)) (Yl ?_)
  try simp only [Ex.t, Ex.b]
  exact Yh rfl (.tmp .nil)
 refine Yb (Y0 (Y2 2 [46, 12] [(46, .j (Z6t x10)), (12, sC x10.1)] ?_))
 have ⟨g12, H⟩ := Y6 H
 refine Y5r rfl rfl rfl 47 rfl E37 rfl rfl g12 (OpsW.weaken (Z6n x10) (Y04 (by first | (rw [Xn]; rfl; done) | (simp only [Z6r, Z6t, Z6n, Z6p]; rw [Xn]; rfl))) (Ya (Z6n x10) [(47, rtA 0 41 1 (eL (eI .u8)) Z6r)] (StC.mk (phi [(47, some 47)]) (.o rfl (csNil (enc := eI .u8) _) .nil) rfl (.cons (.s rfl) (.i2 .nil))) (Y2 1 [14, 12] [(14, .rsl 47 0 0 (Z6r.length)), (12, sC x10.1)] (Ya (Z6p x10) [(14, rtA 0 41 1 (eL (eI .u8)) Z6r)] (StC.mk (phi [(14, some 47)]) (.o rfl (CstL.ims _) .nil) rfl (.cons (.s rfl) (.cons .im .nil))) ?_))))
 refine Y1 (Y0 (Y2 1 [15, 14, 12] ((15, .j (0 : Int)) :: (Z6p x10)) ?_))
 refine Y1 (Yc (Y0 (Y2 3 [50, 49, 48, 15, 14] [(50, .j (0 : Int)), (49, .j (Z6t x10)), (48, sC x10.1), (15, .j (0 : Int)), (14, .rsl 14 0 0 (Z6r.length))] ?_)))
 refine Y1 (Yd ?_)
 refine Yq (fun loop (s : Z6u × Int × Int) => Y0f x10 loop s.1 s.2.1 s.2.2) r (fun (s : Z6u × Int × Int) => [(14, .rsl 14 0 0 s.1.length), (15, .j s.2.1), (48, sC x10.1), (49, .j (Z6t x10)), (50, .j s.2.2)]) (fun (s : Z6u × Int × Int) => [(14, rtA 0 41 1 (eL (eI .u8)) s.1)]) ?_ 1000000 (List.replicate (0 : Int).toNat ([] : List Int), (0 : Int), (0 : Int)) H (StC.mk (phi [(14, some 14)]) (.o rfl (CstL.ims _) .nil) rfl (.cons (.s rfl) (.i4 .nil)))
 intro loop16 s H
 obtain ⟨v13, v14, v15⟩ := s
 unfold Y0f at H
 change AW _ _ _ (Z6m v13 v14 v15 x10) [(14, rtA 0 41 1 (eL (eI .u8)) v13)] _
 refine Y0 (Y2 1 [51, 14, 15, 48, 49, 50] ((51, .bool (decide (v15 < (Z6t x10)))) :: (Z6m v13 v14 v15 x10)) ?_)
 refine Y1 (Yc (Y9 (b := decide (v15 < (Z6t x10))) H rfl (fun c17 H => ?_) (fun c17 H => ?_)))
 ·refine Yb ?_
  refine Y08 (fun (y : Z6u × Int) => Y1o loop16 v15 y.1 y.2) r (fun (y : Z6u × Int) => ((14, .rsl 14 0 0 y.1.length) :: (15, .j y.2) :: (Z6j v15 x10))) (fun (y : Z6u × Int) => [(14, rtA 0 41 1 (eL (eI .u8)) y.1)]) ?_ ?_
  ·refine Yd (Y0 ?_)
   have ⟨g21, H⟩ := Y6 H
   refine Y8 2 [53, 52, 14, 15, 48, 49, 50] ((53, .ipt (x10.1.flatMap (eL (eI .u8))) (v15.toNat * 1)) :: (52, .j v15) :: (Z6m v13 v14 v15 x10)) ⟨g21, trivial⟩ (OpsW.asU (sU (x10.1.getD v15.toNat [])) rfl rfl (T.load rfl trivial (by kernel_rfl) (Yn (eL (eI .u8)) 1 (fun _ => rfl) x10.1 [] v15.toNat (ltN g21) (fun a => .sl (a.flatMap (eI .u8)) a.length) (fun _ => rfl))) (Y2 2 [17, 16, 14, 15, 48, 49, 50] ((17, sU (x10.1.getD v15.toNat [])) :: (16, .j v15) :: (Z6m v13 v14 v15 x10)) ?_))
   refine Y1 (Y0 (Y2 2 [56, 55, 16, 14, 15, 48, 49, 50] ((56, sU (x10.1.getD v15.toNat [])) :: (55, .rsl 14 0 0 v13.length) :: (16, .j v15) :: (Z6m v13 v14 v15 x10)) ?_))
   have ⟨x22, hx22, H⟩ := Yt H
   refine Ys rfl (.cons (.pur rfl) .nil) (f_line_Trim_ok hx22) ?_
   have ⟨g23, H⟩ := Y6 H
   refine Y1j (enc := eL (eI .u8)) [x22] rfl rfl rfl (by decide) rfl rfl rfl (by simp) E37 (fun _ => rfl) (by decide) trivial (by kernel_rfl) (by kernel_rfl) (by kernel_rfl) rfl rfl rfl g23 (Y2 1 [14, 16, 15, 48, 49, 50] ((14, .rsl 14 1 0 ((v13 ++ [x22]).length)) :: (16, .j v15) :: (15, .j v14) :: (Z6j v15 x10)) (Ya (Z6o v13 v14 v15 x10 x22) [(14, rtA 0 41 1 (eL (eI .u8)) (v13 ++ [x22]))] (StC.mk (phi [(14, some 14)]) (.o rfl (CstL.ims _) .nil) rfl (.cons (.s rfl) (.i5 .nil))) ?_))
   refine Y1 (Y0 ?_)
   have ⟨g24, H⟩ := Y6 H
   refine Y8 3 [62, 14, 16, 15, 48, 49, 50] ((62, .ref 14 0 (0 + v15.toNat * 1)) :: (Z6o v13 v14 v15 x10 x22)) ⟨g24, trivial⟩ (OpsW.asU (sU ((v13 ++ [x22]).getD v15.toNat [])) rfl rfl (Y2o rfl trivial (by kernel_rfl) rfl rfl rfl (rt_cell (eL (eI .u8)) 1 (fun _ => rfl) (v13 ++ [x22]) [] v15.toNat (ltN g24) 0 (fun a => .sl (a.flatMap (eI .u8)) a.length) (fun _ => rfl) (by first | omega | (simp only [Z6t]; omega)))) (Y2 2 [65, 14, 16, 15, 48, 49, 50] ((65, .bool (decide (0 < (((v13 ++ [x22]).getD v15.toNat []).length : Int)))) :: (Z6o v13 v14 v15 x10 x22)) (Y1 (Y9 (b := decide (0 < (((v13 ++ [x22]).getD v15.toNat []).length : Int))) H rfl (fun c25 H => ?_) (fun c25 H => ?_)))))
   ·refine Ye ?_
    have ⟨g26, H⟩ := Y6 H
    refine Y8 3 [15, 14, 48, 49, 50] ((15, .j (v15 + 1)) :: (14, .rsl 14 0 0 ((v13 ++ [x22]).length)) :: (Z6j v15 x10)) ⟨g26, trivial⟩ (Y1 ?_)
    exact ⟨(v13 ++ [x22], v15 + 1), H, (StC.mk (phi [(14, some 14)]) (.o rfl (CstL.ims _) .nil) rfl (.cons (.s rfl) (.i4 .nil)))⟩
   refine Yb ?_
   exact ⟨(v13 ++ [x22], v14), H, (StC.mk (phi [(14, some 14)]) (.o rfl (CstL.ims _) .nil) rfl (.cons (.s rfl) (.i4 .nil)))⟩
  rintro ⟨v18, v19⟩ H
  unfold Y1o at H
  change AW _ _ _ ((14, .rsl 14 0 0 v18.length) :: (15, .j v19) :: (Z6j v15 x10)) [(14, rtA 0 41 1 (eL (eI .u8)) v18)] _
  refine Ye ?_
  have ⟨g20, H⟩ := Y6 H
  refine Y8 2 [50, 14, 15, 48, 49] [(50, .j (v15 + 1)), (14, .rsl 14 0 0 v18.length), (15, .j v19), (48, sC x10.1), (49, .j (Z6t x10))] ⟨g20, trivial⟩ (Y1 ?_)
  exact ⟨(v18, v19, v15 + 1), H, (StC.mk (phi [(14, some 14)]) (.o rfl (CstL.ims _) .nil) rfl (.cons (.s rfl) (.i4 .nil)))⟩
 refine AW.exit ?_
 refine Y0 (Y2 3 [71, 70, 69] [(71, .j v14), (70, .j v14), (69, .rsl 14 0 0 v13.length)] ?_)
 refine Ya [(71, .j v14), (70, .j v14), (69, sC v13)] [] (StC.mk (phi []) .nil rfl (.i2 (.cons (.frz rfl rfl rfl (Y1b (eL (eI .u8)) 1 (fun _ => rfl) v13) (Yy (eL (eI .u8)) 1 (fun _ => rfl) v13) (Y3c rfl)) .nil))) ?_
 have ⟨g27, H⟩ := Y6 H
 refine Y4c (sC (v13.take v14.toNat)) rfl rfl (Quiet.sliceMaxT (enc := eL (eI .u8)) (l := v13) rfl (by kernel_rfl) (by kernel_rfl) (fun _ => rfl) (gpoU rfl ⟨trivial, rfl, trivial, rfl, trivial, rfl, g27⟩)) (Y2 1 [8] [(8, sC (v13.take v14.toNat))] (Ya [(8, sC (v13.take v14.toNat))] [] (StC.pure (.cons .im .nil)) (Y1 ?_)))
 obtain rfl := X1 H
 refine AW.recast (env' := [(8, sC (v13.take v14.toNat))]) (h' := []) (StC.pure (.cons .im .nil)) (Yl ?_)
 try simp only [Ex.t, Ex.b]
 exact Yh rfl (.tmp .nil)
def Y4e (t0 : Y4) : Option (List (List Int)) :=
 (Y0h t0).bind fun x1 =>
 cond (!x1) (
  some []) (
  (Y2i t0.Up t0.W t0.H).bind fun x3 =>
  some x3)
section
variable (t0 : Y4)
abbrev Z6v : List AV := [.j t0.W, .j t0.H, sD t0.Up, sD t0.Down]
end
theorem f_sheet_Front_ok  {t0 : Y4} {r : List (List Int)} (H : Y4e t0 = some r) : QSpec Tryd.prog 18 [.agg [.int .i64 t0.W, .int .i64 t0.H, slA (eL eB) t0.Up, slA (eL eB) t0.Down]] (slA (eL (eI .u8)) r) := by
 refine Yj Tryd.func18 rfl (by simp [Tryd.ntmps18]) ?_
 rw [Tryd.ntmps18]
 unfold Y4e at H
 change AW _ _ _ [(0, .agg (Z6v t0))] [] _
 refine Y0 (OpsW.box rfl rfl rfl 1 rfl (Y5 (by kernel_rfl)) ?_)
 change OpsW _ _ _ _ _ [(1, ⟨0, true, 47, 4, (Z6v t0)⟩)] _
 refine Y2 1 [1] [(1, .ref 1 0 0)] ?_
 refine Y1 (Yc (Y0 (Y2 1 [3, 1] [(3, .agg (Z6v t0)), (1, .ref 1 0 0)] ?_)))
 have ⟨x1, hx1, H⟩ := Yt H
 refine Ys rfl (.cons (.pur rfl) .nil) (Y1t hx1) (Y2 1 [5, 1] [(5, .bool (!x1)), (1, .ref 1 0 0)] (Y1 (Y9 (b := !x1) H rfl (fun c2 H => ?_) (fun c2 H => ?_))))
 ·refine Y0 (Y2 1 [2] [(2, .im (.val (.slice none 0 0)))] ?_)
  refine Y1 ?_
  obtain rfl := X1 H
  refine AW.recast (env' := [(2, sC [])]) (h' := []) (StC.pure (.cons .nil .nil)) (Yl ?_)
  try simp only [Ex.t, Ex.b]
  exact Yh rfl (.tmp .nil)
 refine Yb (Y0 (Y2 6 [11, 9, 7] [(11, .j t0.H), (9, .j t0.W), (7, sD t0.Up)] ?_))
 have ⟨x3, hx3, H⟩ := Yt H
 refine Ys rfl (.cons (.pur rfl) (.cons (.pur rfl) (.cons (.pur rfl) (.cons (.pur rfl) .nil)))) (f_sheet_lower_fn32_ok hx3) (Y2 1 [2] [(2, sC x3)] (Y1 ?_))
 obtain rfl := X1 H
 refine AW.recast (env' := [(2, sC x3)]) (h' := []) (StC.pure (.cons .im .nil)) (Yl ?_)
 try simp only [Ex.t, Ex.b]
 exact Yh rfl (.tmp .nil)
def Y1m (loop16 : ((List (List Int)) × Int × Int) → Option (List (List Int))) (v15 : Int) (v18 : List (List Int)) (v19 : Int) : Option (List (List Int)) :=
 G (inR (v15 + 1)) <|
 loop16 (v18, v19, v15 + 1)
def Y0e (x10 : (List (List Int)) × Int) (loop16 : ((List (List Int)) × Int × Int) → Option (List (List Int))) (v13 : List (List Int)) (v14 : Int) (v15 : Int) : Option (List (List Int)) :=
 cond (decide (v15 < (x10.1.length : Int))) (
  G (0 ≤ v15 ∧ v15 < (x10.1.length : Int)) <|
  (f_line_Trim (x10.1.getD v15.toNat [])).bind fun x22 =>
  G (room 24 (v13.length + 1)) <|
  G (0 ≤ v15 ∧ v15 < ((v13 ++ [x22]).length : Int)) <|
  cond (decide (0 < (((v13 ++ [x22]).getD v15.toNat []).length : Int))) (
   G (inR (v15 + 1)) <|
   Y1m loop16 v15 (v13 ++ [x22]) (v15 + 1)) (
   Y1m loop16 v15 (v13 ++ [x22]) v14)) (
  G (0 ≤ v14 ∧ v14 ≤ (v13.length : Int)) <|
  some (v13.take v14.toNat))
def Y1n (t0 : List (List Bool)) (t1 : Int) (t2 : Int) (loop4 : ((List (List Bool)) × Int) → Option (List (List Int))) (v2 : List (List Bool)) (v3 : Int) : Option (List (List Int)) :=
 cond (decide (v3 < (t0.length : Int))) (
  G (0 ≤ v3 ∧ v3 < (t0.length : Int)) <|
  (Y3k (t0.getD v3.toNat [])).bind fun x7 =>
  G (0 ≤ v3 ∧ v3 < (v2.length : Int)) <|
  G (inR (v3 + 1)) <|
  loop4 (v2.set v3.toNat x7, v3 + 1)) (
  (Y3n (⟨t1, t2, v2⟩ : Yk)).bind fun x10 =>
  cond (x10.2 != 0) (
   some []) (
   G (0 ≤ (0 : Int) ∧ (0 : Int) ≤ (x10.1.length : Int) ∧ ((24 : Nat) : Int) * (x10.1.length : Int) ≤ 281474976710656 ∧ (x10.1.length : Int) ≤ 9223372036854775807) <|
   iter (fun loop (s : (List (List Int)) × Int × Int) => Y0e x10 loop s.1 s.2.1 s.2.2) 1000000 (List.replicate (0 : Int).toNat ([] : List Int), (0 : Int), (0 : Int))))
def Y2h (t0 : List (List Bool)) (t1 : Int) (t2 : Int) : Option (List (List Int)) :=
 G (0 ≤ (t0.length : Int) ∧ (t0.length : Int) ≤ (t0.length : Int) ∧ ((24 : Nat) : Int) * (t0.length : Int) ≤ 281474976710656 ∧ (t0.length : Int) ≤ 9223372036854775807) <|
 iter (fun loop (s : (List (List Bool)) × Int) => Y1n t0 t1 t2 loop s.1 s.2) 1000000 (List.replicate (t0.length : Int).toNat ([] : List Bool), (0 : Int))
section
variable (t0 : List (List Bool)) (v2 : List (List Bool)) (v3 : Int) (v13 : List (List Int)) (v14 : Int) (v15 : Int) (x7 : (List Bool)) (x10 : (List (List Int)) × Int) (x22 : (List Int))
abbrev Z73 := (List.replicate (t0.length : Int).toNat ([] : List Bool))
abbrev Z74 := (List.replicate (0 : Int).toNat ([] : List Int))
abbrev Z75 := (t0.length : Int)
abbrev Z76 := (x10.1.length : Int)
abbrev Z77 := List (List Int)
abbrev Z6w : Env := [(48, sC x10.1), (49, .j (Z76 x10)), (50, .j v15)]
abbrev Z6x : Env := [(9, .rsl 9 0 0 v2.length), (21, sD t0), (22, .j (Z75 t0)), (23, .j v3)]
abbrev Z6y : Env := [(9, .rsl 9 0 0 ((v2.set v3.toNat x7).length)), (21, sD t0), (22, .j (Z75 t0)), (23, .j v3)]
abbrev Z6z : Env := (14, .rsl 14 0 0 v13.length) :: (15, .j v14) :: (Z6w v15 x10)
abbrev Z70 : Env := [(47, .rsl 47 0 0 (Z74.length)), (46, .j (Z76 x10)), (12, sC x10.1)]
abbrev Z71 : Env := (14, .rsl 14 0 0 ((v13 ++ [x22]).length)) :: (16, .j v15) :: (15, .j v14) :: (Z6w v15 x10)
abbrev Z72 : Env := [(14, .rsl 14 0 0 (Z74.length)), (12, sC x10.1)]
end
theorem f_sheet_lower_fn33_ok  {t0 : List (List Bool)} {t1 : Int} {t2 : Int} {r : List (List Int)} (H : Y2h t0 t1 t2 = some r) : QSpec Tryd.prog 40 [slA (eL eB) t0, .int .i64 t1, .int .i64 t2, .im (.val (.func (.func 33) #[] #[]))] (slA (eL (eI .u8)) r) := by
 refine Yj Tryd.func40 rfl (by simp [Tryd.ntmps40]) ?_
 rw [Tryd.ntmps40]
 unfold Y2h at H
 change AW _ _ _ [(0, sD t0), (1, .j t1), (2, .j t2), (3, .im (.val (.func (.func 33) #[] #[])))] [] _
 refine Y0 (Y2 1 [0, 1, 2, 3] [(0, sD t0), (1, .j t1), (2, .j t2), (3, .im (.val (.func (.func 33) #[] #[])))] ?_)
 refine Y1 (Y0 (Y2 2 [19, 0, 1, 2, 3] [(19, .j (Z75 t0)), (0, sD t0), (1, .j t1), (2, .j t2), (3, .im (.val (.func (.func 33) #[] #[])))] ?_))
 have ⟨g1, H⟩ := Y6 H
 refine Y5r rfl rfl rfl 20 rfl E45 rfl rfl g1 (OpsW.weaken [(20, .rsl 20 0 0 ((Z73 t0).length)), (19, .j (Z75 t0)), (0, sD t0), (1, .j t1), (2, .j t2), (3, .im (.val (.func (.func 33) #[] #[])))] (Y04 (by first | (rw [Xn]; rfl; done) | (simp only [Z73, Z75]; rw [Xn]; rfl))) (Ya [(20, .rsl 20 0 0 ((Z73 t0).length)), (19, .j (Z75 t0)), (0, sD t0), (1, .j t1), (2, .j t2), (3, .im (.val (.func (.func 33) #[] #[])))] [(20, rtA 0 61 1 (eL eB) (Z73 t0))] (StC.mk (phi [(20, some 20)]) (.o rfl (csNil (enc := eB) _) .nil) rfl (.cons (.s rfl) (.i5 .nil))) (Y2 1 [9, 0, 1, 2, 3] [(9, .rsl 20 0 0 ((Z73 t0).length)), (0, sD t0), (1, .j t1), (2, .j t2), (3, .im (.val (.func (.func 33) #[] #[])))] (Ya [(9, .rsl 9 0 0 ((Z73 t0).length)), (0, sD t0), (1, .j t1), (2, .j t2), (3, .im (.val (.func (.func 33) #[] #[])))] [(9, rtA 0 61 1 (eL eB) (Z73 t0))] (StC.mk (phi [(9, some 20)]) (.o rfl (CstL.ims _) .nil) rfl (.cons (.s rfl) (.i4 .nil))) ?_))))
 refine Y1 (Yc (Y0 (Y2 3 [23, 22, 21, 9, 1, 2, 3] [(23, .j (0 : Int)), (22, .j (Z75 t0)), (21, sD t0), (9, .rsl 9 0 0 ((Z73 t0).length)), (1, .j t1), (2, .j t2), (3, .im (.val (.func (.func 33) #[] #[])))] ?_)))
 refine Y1 (Yd ?_)
 refine Yq (fun loop (s : (List (List Bool)) × Int) => Y1n t0 t1 t2 loop s.1 s.2) r (fun (s : (List (List Bool)) × Int) => [(1, .j t1), (2, .j t2), (3, .im (.val (.func (.func 33) #[] #[]))), (9, .rsl 9 0 0 s.1.length), (21, sD t0), (22, .j (Z75 t0)), (23, .j s.2)]) (fun (s : (List (List Bool)) × Int) => [(9, rtA 0 61 1 (eL eB) s.1)]) ?_ 1000000 (List.replicate (Z75 t0).toNat ([] : List Bool), (0 : Int)) H (StC.mk (phi [(9, some 9)]) (.o rfl (CstL.ims _) .nil) rfl (.i3 (.cons (.s rfl) (.i3 .nil))))
 intro loop4 s H
 obtain ⟨v2, v3⟩ := s
 unfold Y1n at H
 change AW _ _ _ ((1, .j t1) :: (2, .j t2) :: (3, .im (.val (.func (.func 33) #[] #[]))) :: (Z6x t0 v2 v3)) [(9, rtA 0 61 1 (eL eB) v2)] _
 refine Y0 (Y2 1 [24, 1, 2, 3, 9, 21, 22, 23] ((24, .bool (decide (v3 < (Z75 t0)))) :: (1, .j t1) :: (2, .j t2) :: (3, .im (.val (.func (.func 33) #[] #[]))) :: (Z6x t0 v2 v3)) ?_)
 refine Y1 (Yc (Y9 (b := decide (v3 < (Z75 t0))) H rfl (fun c5 H => ?_) (fun c5 H => ?_)))
 ·refine Yb (Yc (Yd (Y0 ?_)))
  have ⟨g6, H⟩ := Y6 H
  refine Y8 2 [26, 25, 1, 2, 3, 9, 21, 22, 23] ((26, .ipt (t0.flatMap (eL eB)) (v3.toNat * 1)) :: (25, .j v3) :: (1, .j t1) :: (2, .j t2) :: (3, .im (.val (.func (.func 33) #[] #[]))) :: (Z6x t0 v2 v3)) ⟨g6, trivial⟩ (OpsW.asU (slA eB (t0.getD v3.toNat [])) rfl rfl (T.load rfl trivial (by kernel_rfl) (Yn (eL eB) 1 (fun _ => rfl) t0 [] v3.toNat (ltN g6) (fun a => .sl (a.flatMap eB) a.length) (fun _ => rfl))) (Y2 2 [11, 10, 1, 2, 3, 9, 21, 22, 23] ((11, slA eB (t0.getD v3.toNat [])) :: (10, .j v3) :: (1, .j t1) :: (2, .j t2) :: (3, .im (.val (.func (.func 33) #[] #[]))) :: (Z6x t0 v2 v3)) ?_))
  refine Y1 (Ye (Y2 4 [31, 30, 29, 28, 1, 2, 3, 9, 21, 22, 23] ((31, slA eB (t0.getD v3.toNat [])) :: (30, .im (.val (.func (.func 33) #[] #[]))) :: (29, .j v3) :: (28, .rsl 9 0 0 v2.length) :: (1, .j t1) :: (2, .j t2) :: (3, .im (.val (.func (.func 33) #[] #[]))) :: (Z6x t0 v2 v3)) ?_))
  refine OpsW.valF rfl rfl (by kernel_rfl) ?_
  have ⟨x7, hx7, H⟩ := Yt H
  refine Ys rfl (.cons (.pur rfl) .nil) (f_sheet_turned_ok hx7) ?_
  have ⟨g8, H⟩ := Y6 H
  refine Y8 1 [33, 32, 1, 2, 3, 9, 21, 22, 23] ((33, .ref 9 0 (0 + v3.toNat * 1)) :: (32, slA eB x7) :: (1, .j t1) :: (2, .j t2) :: (3, .im (.val (.func (.func 33) #[] #[]))) :: (Z6x t0 v2 v3)) ⟨g8, trivial⟩ (OpsW.storeT (enc := eL eB) (k := 1) [] x7 [.sl (x7.flatMap eB) x7.length] v3.toNat 0 rfl rfl rfl (by exact congrArg (AV.ref 9 0) (by first | omega | rfl | (simp; omega))) trivial trivial rfl (fun _ => rfl) rfl (by kernel_rfl) (Y5 (by kernel_rfl)) (ltN g8) (X0 (by kernel_rfl)) rfl (OpsW.weaken ((33, .ref 9 0 (0 + v3.toNat * 1)) :: (32, slA eB x7) :: (1, .j t1) :: (2, .j t2) :: (3, .im (.val (.func (.func 33) #[] #[]))) :: (Z6y t0 v2 v3 x7)) (Y04 (by first | (simp only [Xs, Xt]; done) | (simp only [Z75, Z6x, Z6y]; simp only [Xs, Xt]))) (Y2 0 [1, 2, 3, 9, 21, 22, 23] ((1, .j t1) :: (2, .j t2) :: (3, .im (.val (.func (.func 33) #[] #[]))) :: (Z6y t0 v2 v3 x7)) (Ya ((1, .j t1) :: (2, .j t2) :: (3, .im (.val (.func (.func 33) #[] #[]))) :: (Z6y t0 v2 v3 x7)) [(9, rtA 0 61 1 (eL eB) (v2.set v3.toNat x7))] (StC.mk (phi [(9, some 9)]) (.o rfl (CstL.ims _) .nil) rfl (.i3 (.cons (.s rfl) (.i3 .nil)))) ?_))))
  refine Y1 (Ye ?_)
  have ⟨g9, H⟩ := Y6 H
  refine Y8 2 [23, 1, 2, 3, 9, 21, 22] [(23, .j (v3 + 1)), (1, .j t1), (2, .j t2), (3, .im (.val (.func (.func 33) #[] #[]))), (9, .rsl 9 0 0 ((v2.set v3.toNat x7).length)), (21, sD t0), (22, .j (Z75 t0))] ⟨g9, trivial⟩ (Y1 ?_)
  exact ⟨(v2.set v3.toNat x7, v3 + 1), H, (StC.mk (phi [(9, some 9)]) (.o rfl (CstL.ims _) .nil) rfl (.i3 (.cons (.s rfl) (.i3 .nil))))⟩
 refine AW.exit ?_
 refine Y0 (Y2 3 [38, 37, 36] [(38, .rsl 9 0 0 v2.length), (37, .j t2), (36, .j t1)] ?_)
 refine Ya [(38, sD v2), (37, .j t2), (36, .j t1)] [] (StC.mk (phi []) .nil rfl (.cons (.frz rfl rfl rfl (Y1b (eL eB) 1 (fun _ => rfl) v2) (Yy (eL eB) 1 (fun _ => rfl) v2) (Y3c rfl)) (.i2 .nil))) (Y2 1 [39] [(39, .agg [.j t1, .j t2, sD v2])] ?_)
 have ⟨x10, hx10, H⟩ := Yt H
 refine Ys rfl (.cons (.pur rfl) .nil) (f_grid_ToCells_ok hx10) (Y2 5 [13, 12] [(13, .j x10.2), (12, sC x10.1)] ?_)
 refine Y1 (Yc (Y0 (Y2 2 [44, 12] [(44, .bool (x10.2 != 0)), (12, sC x10.1)] ?_)))
 refine Y1 (Y9 (b := x10.2 != 0) H rfl (fun c11 H => ?_) (fun c11 H => ?_))
 ·refine Y0 (Y2 1 [8] [(8, .im (.val (.slice none 0 0)))] ?_)
  refine Y1 ?_
  obtain rfl := X1 H
  refine AW.recast (env' := [(8, sC [])]) (h' := []) (StC.pure (.cons .nil .nil)) (Yl ?_)
  try simp only [Ex.t, Ex.b]
  exact Yh rfl (.tmp .nil)
 refine Yb (Y0 (Y2 2 [46, 12] [(46, .j (Z76 x10)), (12, sC x10.1)] ?_))
 have ⟨g12, H⟩ := Y6 H
 refine Y5r rfl rfl rfl 47 rfl E37 rfl rfl g12 (OpsW.weaken (Z70 x10) (Y04 (by first | (rw [Xn]; rfl; done) | (simp only [Z74, Z76, Z70, Z72]; rw [Xn]; rfl))) (Ya (Z70 x10) [(47, rtA 0 41 1 (eL (eI .u8)) Z74)] (StC.mk (phi [(47, some 47)]) (.o rfl (csNil (enc := eI .u8) _) .nil) rfl (.cons (.s rfl) (.i2 .nil))) (Y2 1 [14, 12] [(14, .rsl 47 0 0 (Z74.length)), (12, sC x10.1)] (Ya (Z72 x10) [(14, rtA 0 41 1 (eL (eI .u8)) Z74)] (StC.mk (phi [(14, some 47)]) (.o rfl (CstL.ims _) .nil) rfl (.cons (.s rfl) (.cons .im .nil))) ?_))))
 refine Y1 (Y0 (Y2 1 [15, 14, 12] ((15, .j (0 : Int)) :: (Z72 x10)) ?_))
 refine Y1 (Yc (Y0 (Y2 3 [50, 49, 48, 15, 14] [(50, .j (0 : Int)), (49, .j (Z76 x10)), (48, sC x10.1), (15, .j (0 : Int)), (14, .rsl 14 0 0 (Z74.length))] ?_)))
 refine Y1 (Yd ?_)
 refine Yq (fun loop (s : Z77 × Int × Int) => Y0e x10 loop s.1 s.2.1 s.2.2) r (fun (s : Z77 × Int × Int) => [(14, .rsl 14 0 0 s.1.length), (15, .j s.2.1), (48, sC x10.1), (49, .j (Z76 x10)), (50, .j s.2.2)]) (fun (s : Z77 × Int × Int) => [(14, rtA 0 41 1 (eL (eI .u8)) s.1)]) ?_ 1000000 (List.replicate (0 : Int).toNat ([] : List Int), (0 : Int), (0 : Int)) H (StC.mk (phi [(14, some 14)]) (.o rfl (CstL.ims _) .nil) rfl (.cons (.s rfl) (.i4 .nil)))
 intro loop16 s H
 obtain ⟨v13, v14, v15⟩ := s
 unfold Y0e at H
 change AW _ _ _ (Z6z v13 v14 v15 x10) [(14, rtA 0 41 1 (eL (eI .u8)) v13)] _
 refine Y0 (Y2 1 [51, 14, 15, 48, 49, 50] ((51, .bool (decide (v15 < (Z76 x10)))) :: (Z6z v13 v14 v15 x10)) ?_)
 refine Y1 (Yc (Y9 (b := decide (v15 < (Z76 x10))) H rfl (fun c17 H => ?_) (fun c17 H => ?_)))
 ·refine Yb ?_
  refine Y08 (fun (y : Z77 × Int) => Y1m loop16 v15 y.1 y.2) r (fun (y : Z77 × Int) => ((14, .rsl 14 0 0 y.1.length) :: (15, .j y.2) :: (Z6w v15 x10))) (fun (y : Z77 × Int) => [(14, rtA 0 41 1 (eL (eI .u8)) y.1)]) ?_ ?_
  ·refine Yd (Y0 ?_)
   have ⟨g21, H⟩ := Y6 H
   refine Y8 2 [53, 52, 14, 15, 48, 49, 50] ((53, .ipt (x10.1.flatMap (eL (eI .u8))) (v15.toNat * 1)) :: (52, .j v15) :: (Z6z v13 v14 v15 x10)) ⟨g21, trivial⟩ (OpsW.asU (sU (x10.1.getD v15.toNat [])) rfl rfl (T.load rfl trivial (by kernel_rfl) (Yn (eL (eI .u8)) 1 (fun _ => rfl) x10.1 [] v15.toNat (ltN g21) (fun a => .sl (a.flatMap (eI .u8)) a.length) (fun _ => rfl))) (Y2 2 [17, 16, 14, 15, 48, 49, 50] ((17, sU (x10.1.getD v15.toNat [])) :: (16, .j v15) :: (Z6z v13 v14 v15 x10)) ?_))
   refine Y1 (Y0 (Y2 2 [56, 55, 16, 14, 15, 48, 49, 50] ((56, sU (x10.1.getD v15.toNat [])) :: (55, .rsl 14 0 0 v13.length) :: (16, .j v15) :: (Z6z v13 v14 v15 x10)) ?_))
   have ⟨x22, hx22, H⟩ := Yt H
   refine Ys rfl (.cons (.pur rfl) .nil) (f_line_Trim_ok hx22) ?_
   have ⟨g23, H⟩ := Y6 H
   refine Y1j (enc := eL (eI .u8)) [x22] rfl rfl rfl (by decide) rfl rfl rfl (by simp) E37 (fun _ => rfl) (by decide) trivial (by kernel_rfl) (by kernel_rfl) (by kernel_rfl) rfl rfl rfl g23 (Y2 1 [14, 16, 15, 48, 49, 50] ((14, .rsl 14 1 0 ((v13 ++ [x22]).length)) :: (16, .j v15) :: (15, .j v14) :: (Z6w v15 x10)) (Ya (Z71 v13 v14 v15 x10 x22) [(14, rtA 0 41 1 (eL (eI .u8)) (v13 ++ [x22]))] (StC.mk (phi [(14, some 14)]) (.o rfl (CstL.ims _) .nil) rfl (.cons (.s rfl) (.i5 .nil))) ?_))
   refine Y1 (Y0 ?_)
   have ⟨g24, H⟩ := Y6 H
   refine Y8 3 [62, 14, 16, 15, 48, 49, 50] ((62, .ref 14 0 (0 + v15.toNat * 1)) :: (Z71 v13 v14 v15 x10 x22)) ⟨g24, trivial⟩ (OpsW.asU (sU ((v13 ++ [x22]).getD v15.toNat [])) rfl rfl (Y2o rfl trivial (by kernel_rfl) rfl rfl rfl (rt_cell (eL (eI .u8)) 1 (fun _ => rfl) (v13 ++ [x22]) [] v15.toNat (ltN g24) 0 (fun a => .sl (a.flatMap (eI .u8)) a.length) (fun _ => rfl) (by first | omega | (simp only [Z76]; omega)))) (Y2 2 [65, 14, 16, 15, 48, 49, 50] ((65, .bool (decide (0 < (((v13 ++ [x22]).getD v15.toNat []).length : Int)))) :: (Z71 v13 v14 v15 x10 x22)) (Y1 (Y9 (b := decide (0 < (((v13 ++ [x22]).getD v15.toNat []).length : Int))) H rfl (fun c25 H => ?_) (fun c25 H => ?_)))))
   ·refine Ye ?_
    have ⟨g26, H⟩ := Y6 H
    refine Y8 3 [15, 14, 48, 49, 50] ((15, .j (v15 + 1)) :: (14, .rsl 14 0 0 ((v13 ++ [x22]).length)) :: (Z6w v15 x10)) ⟨g26, trivial⟩ (Y1 ?_)
    exact ⟨(v13 ++ [x22], v15 + 1), H, (StC.mk (phi [(14, some 14)]) (.o rfl (CstL.ims _) .nil) rfl (.cons (.s rfl) (.i4 .nil)))⟩
   refine Yb ?_
   exact ⟨(v13 ++ [x22], v14), H, (StC.mk (phi [(14, some 14)]) (.o rfl (CstL.ims _) .nil) rfl (.cons (.s rfl) (.i4 .nil)))⟩
  rintro ⟨v18, v19⟩ H
  unfold Y1m at H
  change AW _ _ _ ((14, .rsl 14 0 0 v18.length) :: (15, .j v19) :: (Z6w v15 x10)) [(14, rtA 0 41 1 (eL (eI .u8)) v18)] _
  refine Ye ?_
  have ⟨g20, H⟩ := Y6 H
  refine Y8 2 [50, 14, 15, 48, 49] [(50, .j (v15 + 1)), (14, .rsl 14 0 0 v18.length), (15, .j v19), (48, sC x10.1), (49, .j (Z76 x10))] ⟨g20, trivial⟩ (Y1 ?_)
  exact ⟨(v18, v19, v15 + 1), H, (StC.mk (phi [(14, some 14)]) (.o rfl (CstL.ims _) .nil) rfl (.cons (.s rfl) (.i4 .nil)))⟩
 refine AW.exit ?_
 refine Y0 (Y2 3 [71, 70, 69] [(71, .j v14), (70, .j v14), (69, .rsl 14 0 0 v13.length)] ?_)
 refine Ya [(71, .j v14), (70, .j v14), (69, sC v13)] [] (StC.mk (phi []) .nil rfl (.i2 (.cons (.frz rfl rfl rfl (Y1b (eL (eI .u8)) 1 (fun _ => rfl) v13) (Yy (eL (eI .u8)) 1 (fun _ => rfl) v13) (Y3c rfl)) .nil))) ?_
 have ⟨g27, H⟩ := Y6 H
 refine Y4c (sC (v13.take v14.toNat)) rfl rfl (Quiet.sliceMaxT (enc := eL (eI .u8)) (l := v13) rfl (by kernel_rfl) (by kernel_rfl) (fun _ => rfl) (gpoU rfl ⟨trivial, rfl, trivial, rfl, trivial, rfl, g27⟩)) (Y2 1 [8] [(8, sC (v13.take v14.toNat))] (Ya [(8, sC (v13.take v14.toNat))] [] (StC.pure (.cons .im .nil)) (Y1 ?_)))
 obtain rfl := X1 H
 refine AW.recast (env' := [(8, sC (v13.take v14.toNat))]) (h' := []) (StC.pure (.cons .im .nil)) (Yl ?_)
 try simp only [Ex.t, Ex.b]
 exact Yh rfl (.tmp .nil)
def Y42 (t0 : Y4) : Option (List (List Int)) :=
 (Y0h t0).bind fun x1 =>
 cond (!x1) (
  some []) (
  (Y2h t0.Down t0.W t0.H).bind fun x3 =>
  some x3)
section
variable (t0 : Y4)
abbrev Z78 : List AV := [.j t0.W, .j t0.H, sD t0.Up, sD t0.Down]
end
theorem f_sheet_Back_ok  {t0 : Y4} {r : List (List Int)} (H : Y42 t0 = some r) : QSpec Tryd.prog 19 [.agg [.int .i64 t0.W, .int .i64 t0.H, slA (eL eB) t0.Up, slA (eL eB) t0.Down]] (slA (eL (eI .u8)) r) := by
 refine Yj Tryd.func19 rfl (by simp [Tryd.ntmps19]) ?_
 rw [Tryd.ntmps19]
 unfold Y42 at H
 change AW _ _ _ [(0, .agg (Z78 t0))] [] _
 refine Y0 (OpsW.box rfl rfl rfl 1 rfl (Y5 (by kernel_rfl)) ?_)
 change OpsW _ _ _ _ _ [(1, ⟨0, true, 47, 4, (Z78 t0)⟩)] _
 refine Y2 1 [1] [(1, .ref 1 0 0)] ?_
 refine Y1 (Yc (Y0 (Y2 1 [3, 1] [(3, .agg (Z78 t0)), (1, .ref 1 0 0)] ?_)))
 have ⟨x1, hx1, H⟩ := Yt H
 refine Ys rfl (.cons (.pur rfl) .nil) (Y1t hx1) (Y2 1 [5, 1] [(5, .bool (!x1)), (1, .ref 1 0 0)] (Y1 (Y9 (b := !x1) H rfl (fun c2 H => ?_) (fun c2 H => ?_))))
 ·refine Y0 (Y2 1 [2] [(2, .im (.val (.slice none 0 0)))] ?_)
  refine Y1 ?_
  obtain rfl := X1 H
  refine AW.recast (env' := [(2, sC [])]) (h' := []) (StC.pure (.cons .nil .nil)) (Yl ?_)
  try simp only [Ex.t, Ex.b]
  exact Yh rfl (.tmp .nil)
 refine Yb (Y0 (Y2 6 [11, 9, 7] [(11, .j t0.H), (9, .j t0.W), (7, sD t0.Down)] ?_))
 have ⟨x3, hx3, H⟩ := Yt H
 refine Ys rfl (.cons (.pur rfl) (.cons (.pur rfl) (.cons (.pur rfl) (.cons (.pur rfl) .nil)))) (f_sheet_lower_fn33_ok hx3) (Y2 1 [2] [(2, sC x3)] (Y1 ?_))
 obtain rfl := X1 H
 refine AW.recast (env' := [(2, sC x3)]) (h' := []) (StC.pure (.cons .im .nil)) (Yl ?_)
 try simp only [Ex.t, Ex.b]
 exact Yh rfl (.tmp .nil)
def Y0j (t0 : List Int) (t1 : Int) (loop2 : (Int) → Option Int) (v1 : Int) : Option Int :=
 cond (decide (v1 < (t0.length : Int))) (
  G (0 ≤ v1 ∧ v1 < (t0.length : Int)) <|
  cond (t1 == (t0.getD v1.toNat 0)) (
   some v1) (
   G (inR (v1 + 1)) <|
   loop2 (v1 + 1))) (
  some (-1 : Int))
def Y37 (t0 : List Int) (t1 : Int) : Option Int :=
 iter (fun loop (s : Int) => Y0j t0 t1 loop s) 1000000 (0 : Int)
section
variable (t0 : List Int) (t1 : Int) (v1 : Int)
abbrev Z79 : Env := [(0, sU t0), (1, .int .u8 t1), (7, .j (t0.length : Int)), (8, .j v1)]
end
theorem f_slices_Index_api_Cell_ok  {t0 : List Int} {t1 : Int} {r : Int} (H : Y37 t0 t1 = some r) : QSpec Tryd.prog 70 [slA (eI .u8) t0, .int .u8 t1] (.int .i64 r) := by
 refine Yj Tryd.func70 rfl (by simp [Tryd.ntmps70]) ?_
 rw [Tryd.ntmps70]
 unfold Y37 at H
 change AW _ _ _ [(0, sU t0), (1, .int .u8 t1)] [] _
 refine Y0 (Y2 1 [0, 1] [(0, sU t0), (1, .int .u8 t1)] ?_)
 refine Y1 (Yc (Y0 (Y2 3 [8, 7, 0, 1] [(8, .j (0 : Int)), (7, .j (t0.length : Int)), (0, sU t0), (1, .int .u8 t1)] ?_)))
 refine Y1 (Yd ?_)
 refine Yq (fun loop (s : Int) => Y0j t0 t1 loop s) r (fun (s : Int) => [(0, sU t0), (1, .int .u8 t1), (7, .j (t0.length : Int)), (8, .j s)]) (fun (s : Int) => []) ?_ 1000000 (0 : Int) H (StC.pure (.i4 .nil))
 intro loop2 v1 H
 unfold Y0j at H
 change AW _ _ _ (Z79 t0 t1 v1) [] _
 refine Y0 (Y2 1 [9, 0, 1, 7, 8] ((9, .bool (decide (v1 < (t0.length : Int)))) :: (Z79 t0 t1 v1)) ?_)
 refine Y1 (Yc (Y9 (b := decide (v1 < (t0.length : Int))) H rfl (fun c3 H => ?_) (fun c3 H => ?_)))
 ·refine Yb (Yc (Yd (Y0 (Y2 2 [5, 0, 1, 7, 8] ((5, .j v1) :: (Z79 t0 t1 v1)) ?_))))
  refine Y1 (Y0 ?_)
  have ⟨g4, H⟩ := Y6 H
  refine Y8 4 [14, 11, 5, 0, 1, 7, 8] ((14, .ipt (t0.flatMap (eI .u8)) (v1.toNat * 1)) :: (11, .int .u8 t1) :: (5, .j v1) :: (Z79 t0 t1 v1)) ⟨g4, trivial⟩ (OpsW.asU (.int .u8 (t0.getD v1.toNat 0)) rfl rfl (T.load rfl trivial (by kernel_rfl) (Yn (eI .u8) 1 (fun _ => rfl) t0 (0 : Int) v1.toNat (ltN g4) (fun a => .val (.int .u8 a)) (fun _ => rfl))) (Y2 1 [16, 5, 0, 1, 7, 8] ((16, .bool (t1 == (t0.getD v1.toNat 0))) :: (5, .j v1) :: (Z79 t0 t1 v1)) (Y1 (Y9 (b := t1 == (t0.getD v1.toNat 0)) H rfl (fun c5 H => ?_) (fun c5 H => ?_)))))
  ·refine Y0 (Y2 2 [4] [(4, .j v1)] ?_)
   refine Y1 ?_
   obtain rfl := X1 H
   refine AW.recast (env' := [(4, .j v1)]) (h' := []) (StC.pure (.cons .im .nil)) (Yl ?_)
   try simp only [Ex.t, Ex.b]
   exact Yh rfl (.tmp .nil)
  refine Yb (Ye ?_)
  have ⟨g6, H⟩ := Y6 H
  refine Y8 2 [8, 0, 1, 7] [(8, .j (v1 + 1)), (0, sU t0), (1, .int .u8 t1), (7, .j (t0.length : Int))] ⟨g6, trivial⟩ (Y1 ?_)
  exact ⟨v1 + 1, H, (StC.pure (.i4 .nil))⟩
 refine AW.exit ?_
 refine Y0 (Y2 1 [4] [(4, .j (-1 : Int))] ?_)
 refine Y1 ?_
 obtain rfl := X1 H
 refine AW.recast (env' := [(4, .j (-1 : Int))]) (h' := []) (StC.pure (.cons .im .nil)) (Yl ?_)
 try simp only [Ex.t, Ex.b]
 exact Yh rfl (.tmp .nil)
def Y2j (t0 : Int) (loop2 : (Int) → Option Int) (v1 : Int) : Option Int :=
 cond (decide (v1 < 26)) (
  G (0 ≤ v1 ∧ v1 < 26) <|
  G (Y7.length = 26) <|
  cond ((Y7.getD v1.toNat 0) == t0) (
   G (inR (v1 + 1)) <|
   some (v1 + 1)) (
   G (inR (v1 + 1)) <|
   loop2 (v1 + 1))) (
  some (0 : Int))
def Y43 (t0 : Int) : Option Int :=
 iter (fun loop (s : Int) => Y2j t0 loop s) 1000000 (0 : Int)
section
variable (t0 : Int) (v1 : Int)
abbrev Z7b : List AV := (Y7.flatMap (eI .u8)).map .im
abbrev Z7c := Y7.getD v1.toNat 0
abbrev Z7a : Env := [(0, .int .u8 t0), (5, .agg Z7b), (6, .j v1)]
end
theorem f_number_letter_ok  {t0 : Int} {r : Int} (H : Y43 t0 = some r) : QSpec Tryd.prog 71 [.int .u8 t0] (.int .i64 r) := by
 refine Yj Tryd.func71 rfl (by simp [Tryd.ntmps71]) ?_
 rw [Tryd.ntmps71]
 unfold Y43 at H
 change AW _ _ _ [(0, .int .u8 t0)] [] _
 refine Y0 (Y2 1 [0] [(0, .int .u8 t0)] ?_)
 refine Y1 (Yc (Y0 (OpsW.asU (.agg Z7b) rfl rfl (T.loadAgg (n := 26) rfl trivial (by kernel_rfl) (X0 (by kernel_rfl)) (by kernel_rfl)) ?_)))
 refine Y2 1 [6, 5, 0] [(6, .j (0 : Int)), (5, .agg Z7b), (0, .int .u8 t0)] ?_
 refine Y1 (Yd ?_)
 refine Yq (fun loop (s : Int) => Y2j t0 loop s) r (fun (s : Int) => [(0, .int .u8 t0), (5, .agg Z7b), (6, .j s)]) (fun (s : Int) => []) ?_ 1000000 (0 : Int) H (StC.pure (.cons .im (.cons (.agg (CstL.ims _)) (.cons .im .nil))))
 intro loop2 v1 H
 unfold Y2j at H
 change AW _ _ _ (Z7a t0 v1) [] _
 refine Y0 (Y2 1 [7, 0, 5, 6] ((7, .bool (decide (v1 < 26))) :: (Z7a t0 v1)) ?_)
 refine Y1 (Yc (Y9 (b := decide (v1 < 26)) H rfl (fun c3 H => ?_) (fun c3 H => ?_)))
 ·refine Yb (Yc (Yd (Y0 (Y2 1 [8, 0, 5, 6] ((8, .j v1) :: (Z7a t0 v1)) ?_))))
  have ⟨g4, H⟩ := Y6 H
  have ⟨g5, H⟩ := Y6 H
  refine OpsW.asU (.int .u8 (Z7c v1)) rfl rfl (T.indexA (e := 42) rfl rfl trivial trivial (by kernel_rfl) (by kernel_rfl) (by kernel_rfl) (by kernel_rfl) g4 (map_get (Yn (eI .u8) 1 (fun _ => rfl) Y7 (0 : Int) v1.toNat (ltA (n := 26) g4 g5) (fun a => .val (.int .u8 a)) (fun _ => rfl)))) (Y2 2 [4, 3, 0, 5, 6] ((4, .int .u8 (Z7c v1)) :: (3, .j v1) :: (Z7a t0 v1)) ?_)
  refine Y1 (Y0 (Y2 3 [12, 3, 0, 5, 6] ((12, .bool ((Z7c v1) == t0)) :: (3, .j v1) :: (Z7a t0 v1)) ?_))
  refine Y1 (Y9 (b := (Z7c v1) == t0) H rfl (fun c6 H => ?_) (fun c6 H => ?_))
  ·refine Y0 ?_
   have ⟨g7, H⟩ := Y6 H
   refine Y8 3 [2] [(2, .j (v1 + 1))] ⟨g7, trivial⟩ (Y1 ?_)
   obtain rfl := X1 H
   refine AW.recast (env' := [(2, .j (v1 + 1))]) (h' := []) (StC.pure (.cons .im .nil)) (Yl ?_)
   try simp only [Ex.t, Ex.b]
   exact Yh rfl (.tmp .nil)
  refine Yb (Ye ?_)
  have ⟨g8, H⟩ := Y6 H
  refine Y8 2 [6, 0, 5] [(6, .j (v1 + 1)), (0, .int .u8 t0), (5, .agg Z7b)] ⟨g8, trivial⟩ (Y1 ?_)
  exact ⟨v1 + 1, H, (StC.pure (.cons .im (.cons (.agg (CstL.ims _)) (.cons .im .nil))))⟩
 refine AW.exit ?_
 refine Y0 (Y2 1 [2] [(2, .j (0 : Int))] ?_)
 refine Y1 ?_
 obtain rfl := X1 H
 refine AW.recast (env' := [(2, .j (0 : Int))]) (h' := []) (StC.pure (.cons .im .nil)) (Yl ?_)
 try simp only [Ex.t, Ex.b]
 exact Yh rfl (.tmp .nil)
def Y58 (t0 : List Int) (v3 : Int) (v4 : Int) : Option (Int × Int × Int) :=
 G (((!(v4 == 1)) && (decide (2 < v4))) = true → (0 ≤ (1 : Int) ∧ (1 : Int) < (t0.length : Int))) <|
 cond (cond (v4 == 1) true (cond (decide (2 < v4)) ((t0.getD (1 : Int).toNat (0 : Int)) == (Yi.getD (0 : Int).toNat (0 : Int))) false)) (
  some ((0 : Int), (0 : Int), (190 : Int))) (
  some (v3, v4, (0 : Int)))
def f_number_Read_b1 (t0 : List Int) (loop9 : (Int × Int) → Option (Int × Int × Int)) (loop14 : (Int × Int × Int) → Option (Int × Int × Int)) (v11 : Int) (v12 : Int) (v13 : Int) : Option (Int × Int × Int) :=
 cond (decide (v13 < 10)) (
  G (0 ≤ v13 ∧ v13 < 10) <|
  G (Yi.length = 10) <|
  G (0 ≤ v12 ∧ v12 < (t0.length : Int)) <|
  cond ((Yi.getD v13.toNat 0) == (t0.getD v12.toNat 0)) (
   cond (decide (5 < v12)) (
    some ((0 : Int), (0 : Int), (190 : Int))) (
    G (inR (10 * v11)) <|
    G (inR ((10 * v11) + v13)) <|
    G (inR (v12 + 1)) <|
    loop9 ((10 * v11) + v13, v12 + 1))) (
   G (inR (v13 + 1)) <|
   loop14 (v11, v12, v13 + 1))) (
  Y58 t0 v11 v12)
def f_number_Read_b2 (t0 : List Int) (loop9 : (Int × Int) → Option (Int × Int × Int)) (v7 : Int) (v8 : Int) : Option (Int × Int × Int) :=
 cond (decide (v8 < (t0.length : Int))) (
  iter (fun loop (s : Int × Int × Int) => f_number_Read_b1 t0 loop9 loop s.1 s.2.1 s.2.2) 1000000 (v7, v8, (0 : Int))) (
  Y58 t0 v7 v8)
def f_number_Read_k2 (t0 : List Int) (v1 : Int) (v2 : Int) : Option (Int × Int × Int) :=
 iter (fun loop (s : Int × Int) => f_number_Read_b2 t0 loop s.1 s.2) 1000000 (v1, v2)
def Y0t (t0 : List Int) (v27 : Int) (v28 : Int) : Option (Int × Int × Int) :=
 G (((!(v28 == 1)) && (decide (2 < v28))) = true → (0 ≤ (1 : Int) ∧ (1 : Int) < (t0.length : Int))) <|
 cond (cond (v28 == 1) true (cond (decide (2 < v28)) ((t0.getD (1 : Int).toNat (0 : Int)) == (Yi.getD (0 : Int).toNat (0 : Int))) false)) (
  some ((0 : Int), (0 : Int), (190 : Int))) (
  some (v27, v28, (0 : Int)))
def Y3g (t0 : List Int) (loop33 : (Int × Int) → Option (Int × Int × Int)) (loop38 : (Int × Int × Int) → Option (Int × Int × Int)) (v35 : Int) (v36 : Int) (v37 : Int) : Option (Int × Int × Int) :=
 cond (decide (v37 < 10)) (
  G (0 ≤ v37 ∧ v37 < 10) <|
  G (Yi.length = 10) <|
  G (0 ≤ v36 ∧ v36 < (t0.length : Int)) <|
  cond ((Yi.getD v37.toNat 0) == (t0.getD v36.toNat 0)) (
   cond (decide (5 < v36)) (
    some ((0 : Int), (0 : Int), (190 : Int))) (
    G (inR (10 * v35)) <|
    G (inR ((10 * v35) + v37)) <|
    G (inR (v36 + 1)) <|
    loop33 ((10 * v35) + v37, v36 + 1))) (
   G (inR (v37 + 1)) <|
   loop38 (v35, v36, v37 + 1))) (
  Y0t t0 v35 v36)
def Y2d (t0 : List Int) (loop33 : (Int × Int) → Option (Int × Int × Int)) (v31 : Int) (v32 : Int) : Option (Int × Int × Int) :=
 cond (decide (v32 < (t0.length : Int))) (
  iter (fun loop (s : Int × Int × Int) => Y3g t0 loop33 loop s.1 s.2.1 s.2.2) 1000000 (v31, v32, (0 : Int))) (
  Y0t t0 v31 v32)
def Y1h (t0 : List Int) : Option (Int × Int × Int) :=
 G ((!((t0.length : Int) == 0)) = true → (0 ≤ (0 : Int) ∧ (0 : Int) < (t0.length : Int))) <|
 cond (cond ((t0.length : Int) == 0) true ((t0.getD (0 : Int).toNat (0 : Int)) != 60)) (
  some ((0 : Int), (0 : Int), (190 : Int))) (
  iter (fun loop (s : Int × Int) => Y2d t0 loop s.1 s.2) 1000000 ((0 : Int), (1 : Int)))
section
variable (t0 : List Int) (v3 : Int) (v4 : Int) (v11 : Int) (v12 : Int) (v13 : Int) (v27 : Int) (v28 : Int) (v35 : Int) (v36 : Int) (v37 : Int)
abbrev Z7l := ((t0.getD (1 : Int).toNat (0 : Int)) == (Yi.getD (0 : Int).toNat (0 : Int)))
abbrev Z7m : List AV := (Yi.flatMap (eI .u8)).map .im
abbrev Z7n := (Yi.getD (0 : Int).toNat (0 : Int))
abbrev Z7o := (!(v28 == 1)) && (decide (2 < v28))
abbrev Z7p := (!(v4 == 1)) && (decide (2 < v4))
abbrev Z7q := Yi.getD v37.toNat 0
abbrev Z7r := Yi.getD v13.toNat 0
abbrev Z7s := (t0.getD (1 : Int).toNat (0 : Int))
abbrev Z7t := cond (decide (2 < v4)) (Z7l t0) false
abbrev Z7u := cond (decide (2 < v28)) (Z7l t0) false
abbrev Z7v := (t0.length : Int)
abbrev Z7w := (t0.getD (0 : Int).toNat (0 : Int))
abbrev Z7d : Env := [(49, .cnd (Z7o v28) (.ipt (t0.flatMap (eI .u8)) ((1 : Int).toNat * 1))), (48, .cnd (Z7o v28) (sU t0)), (47, .cnd (!(v28 == 1)) (.bool (decide (2 < v28)))), (46, .cnd (!(v28 == 1)) (.bool (decide (2 < v28)))), (45, .cnd (!(v28 == 1)) (.j v28)), (44, .bool (v28 == 1)), (43, .bool (v28 == 1)), (42, .j v28), (0, sU t0), (5, .j v27), (6, .j v28)]
abbrev Z7e : Env := [(49, .cnd (Z7p v4) (.ipt (t0.flatMap (eI .u8)) ((1 : Int).toNat * 1))), (48, .cnd (Z7p v4) (sU t0)), (47, .cnd (!(v4 == 1)) (.bool (decide (2 < v4)))), (46, .cnd (!(v4 == 1)) (.bool (decide (2 < v4)))), (45, .cnd (!(v4 == 1)) (.j v4)), (44, .bool (v4 == 1)), (43, .bool (v4 == 1)), (42, .j v4), (0, sU t0), (5, .j v3), (6, .j v4)]
abbrev Z7f : Env := [(0, sU t0), (5, .j v35), (6, .j v36), (22, .agg Z7m), (23, .j v37)]
abbrev Z7g : Env := [(0, sU t0), (5, .j v11), (6, .j v12), (22, .agg Z7m), (23, .j v13)]
abbrev Z7h : Env := (51, .cnd (Z7o v28) (.ipt (Yi.flatMap (eI .u8)) (0 + (0 : Int).toNat * 1))) :: (50, .cnd (Z7o v28) (.int .u8 (Z7s t0))) :: (Z7d t0 v27 v28)
abbrev Z7i : Env := (51, .cnd (Z7p v4) (.ipt (Yi.flatMap (eI .u8)) (0 + (0 : Int).toNat * 1))) :: (50, .cnd (Z7p v4) (.int .u8 (Z7s t0))) :: (Z7e t0 v3 v4)
abbrev Z7j : Env := [(4, .j (190 : Int)), (3, .j (0 : Int)), (2, .j (0 : Int))]
abbrev Z7k : Env := [(2, .j (0 : Int)), (3, .j (0 : Int)), (4, .j (190 : Int))]
end
theorem f_number_Read_ok  {t0 : List Int} {r : Int × Int × Int} (H : Y1h t0 = some r) : QSpec Tryd.prog 72 [slA (eI .u8) t0] (.tup [.int .i64 r.1, .int .i64 r.2.1, .int .i64 r.2.2]) := by
 refine Yj Tryd.func72 rfl (by simp [Tryd.ntmps72]) ?_
 rw [Tryd.ntmps72]
 unfold Y1h at H
 change AW _ _ _ [(0, sU t0)] [] _
 refine Y0 (Y2 3 [0] [(0, sU t0)] ?_)
 refine Y1 (AW.scopeK 0 (fun (y : Int × Int) => f_number_Read_k2 t0 y.1 y.2) r (fun (y : Int × Int) => [(0, sU t0), (5, .j y.1), (6, .j y.2)]) (fun (y : Int × Int) => []) rfl ?_ ?_)
 ·refine Yc (Y0 ?_)
  have ⟨g25, H⟩ := Y6 H
  refine Y8 6 [14, 12, 0] [(14, .cnd (!((Z7v t0) == 0)) (.ipt (t0.flatMap (eI .u8)) ((0 : Int).toNat * 1))), (12, .bool ((Z7v t0) == 0)), (0, sU t0)] ⟨(fun h => h), g25, trivial⟩ (OpsW.asG (c := !((Z7v t0) == 0)) (.int .u8 (Z7w t0)) rfl rfl rfl rfl (fun hc => T.load rfl hc (by kernel_rfl) (Yn (eI .u8) 1 (fun _ => rfl) t0 (0 : Int) (0 : Int).toNat (ltN (g25 hc)) (fun a => .val (.int .u8 a)) (fun _ => rfl))) (Y8 2 [17, 0] [(17, .bool (cond ((Z7v t0) == 0) true ((Z7w t0) != 60))), (0, sU t0)] ⟨(fun h => h), (fun h => by first | exact h | (simpa using h) | grind), trivial⟩ (Y1 (Y9 (b := cond ((Z7v t0) == 0) true ((Z7w t0) != 60)) H rfl (fun c26 H => ?_) (fun c26 H => ?_)))))
  ·refine Y0 (Y2 3 [4, 3, 2] Z7j ?_)
   refine Y1 ?_
   obtain rfl := X1 H
   refine AW.recast (env' := Z7k) (h' := []) (StC.pure (.i3 .nil)) (Yl ?_)
   try simp only [Ex.t, Ex.b]
   exact Yh rfl (.tmp (.tmp (.tmp .nil)))
  refine Yb (Y0 (Y2 2 [6, 5, 0] [(6, .j (1 : Int)), (5, .j (0 : Int)), (0, sU t0)] ?_))
  refine Y1 (AW.labelSeq ?_)
  refine Y08 (fun (y : Int × Int) => Y0t t0 y.1 y.2) r (fun (y : Int × Int) => [(0, sU t0), (5, .j y.1), (6, .j y.2)]) (fun (y : Int × Int) => []) ?_ ?_
  ·refine Yd ?_
   refine Yq (fun loop (s : Int × Int) => Y2d t0 loop s.1 s.2) r (fun (s : Int × Int) => [(0, sU t0), (5, .j s.1), (6, .j s.2)]) (fun (s : Int × Int) => []) ?_ 1000000 ((0 : Int), (1 : Int)) H (StC.pure (.i3 .nil))
   intro loop33 s H
   obtain ⟨v31, v32⟩ := s
   unfold Y2d at H
   change AW _ _ _ [(0, sU t0), (5, .j v31), (6, .j v32)] [] _
   refine Yc (Y0 (Y2 4 [21, 0, 5, 6] [(21, .bool (decide (v32 < (Z7v t0)))), (0, sU t0), (5, .j v31), (6, .j v32)] ?_))
   refine Y1 (Y9 (b := decide (v32 < (Z7v t0))) H rfl (fun c34 H => ?_) (fun c34 H => ?_))
   ·refine Yb (Yd (Yc (Y0 (OpsW.asU (.agg Z7m) rfl rfl (T.loadAgg (n := 10) rfl trivial (by kernel_rfl) (X0 (by kernel_rfl)) (by kernel_rfl)) ?_))))
    refine Y2 1 [23, 22, 0, 5, 6] [(23, .j (0 : Int)), (22, .agg Z7m), (0, sU t0), (5, .j v31), (6, .j v32)] ?_
    refine Y1 (Yd ?_)
    refine Yq (fun loop (s : Int × Int × Int) => Y3g t0 loop33 loop s.1 s.2.1 s.2.2) r (fun (s : Int × Int × Int) => [(0, sU t0), (5, .j s.1), (6, .j s.2.1), (22, .agg Z7m), (23, .j s.2.2)]) (fun (s : Int × Int × Int) => []) ?_ 1000000 (v31, v32, (0 : Int)) H (StC.pure (.i3 (.cons (.agg (CstL.ims _)) (.cons .im .nil))))
    intro loop38 s H
    obtain ⟨v35, v36, v37⟩ := s
    unfold Y3g at H
    change AW _ _ _ (Z7f t0 v35 v36 v37) [] _
    refine Y0 (Y2 1 [24, 0, 5, 6, 22, 23] ((24, .bool (decide (v37 < 10))) :: (Z7f t0 v35 v36 v37)) ?_)
    refine Y1 (Yc (Y9 (b := decide (v37 < 10)) H rfl (fun c39 H => ?_) (fun c39 H => ?_)))
    ·refine Yb (Yc (Yd (Y0 (Y2 1 [25, 0, 5, 6, 22, 23] ((25, .j v37) :: (Z7f t0 v35 v36 v37)) ?_))))
     have ⟨g40, H⟩ := Y6 H
     have ⟨g41, H⟩ := Y6 H
     refine OpsW.asU (.int .u8 (Z7q v37)) rfl rfl (T.indexA (e := 42) rfl rfl trivial trivial (by kernel_rfl) (by kernel_rfl) (by kernel_rfl) (by kernel_rfl) g40 (map_get (Yn (eI .u8) 1 (fun _ => rfl) Yi (0 : Int) v37.toNat (ltA (n := 10) g40 g41) (fun a => .val (.int .u8 a)) (fun _ => rfl)))) (Y2 2 [8, 7, 0, 5, 6, 22, 23] ((8, .int .u8 (Z7q v37)) :: (7, .j v37) :: (Z7f t0 v35 v36 v37)) ?_)
     refine Y1 (Y0 ?_)
     have ⟨g42, H⟩ := Y6 H
     refine Y8 4 [30, 27, 7, 0, 5, 6, 22, 23] ((30, .ipt (t0.flatMap (eI .u8)) (v36.toNat * 1)) :: (27, .int .u8 (Z7q v37)) :: (7, .j v37) :: (Z7f t0 v35 v36 v37)) ⟨g42, trivial⟩ (OpsW.asU (.int .u8 (t0.getD v36.toNat 0)) rfl rfl (T.load rfl trivial (by kernel_rfl) (Yn (eI .u8) 1 (fun _ => rfl) t0 (0 : Int) v36.toNat (ltN g42) (fun a => .val (.int .u8 a)) (fun _ => rfl))) (Y2 1 [32, 7, 0, 5, 6, 22, 23] ((32, .bool ((Z7q v37) == (t0.getD v36.toNat 0))) :: (7, .j v37) :: (Z7f t0 v35 v36 v37)) (Y1 (Y9 (b := (Z7q v37) == (t0.getD v36.toNat 0)) H rfl (fun c43 H => ?_) (fun c43 H => ?_)))))
     ·refine Yc (Y0 (Y2 2 [34, 7, 0, 5, 6] [(34, .bool (decide (5 < v36))), (7, .j v37), (0, sU t0), (5, .j v35), (6, .j v36)] ?_))
      refine Y1 (Y9 (b := decide (5 < v36)) H rfl (fun c44 H => ?_) (fun c44 H => ?_))
      ·refine Y0 (Y2 3 [4, 3, 2] Z7j ?_)
       refine Y1 ?_
       obtain rfl := X1 H
       refine AW.recast (env' := Z7k) (h' := []) (StC.pure (.i3 .nil)) (Yl ?_)
       try simp only [Ex.t, Ex.b]
       exact Yh rfl (.tmp (.tmp (.tmp .nil)))
      refine Yb (Y0 ?_)
      have ⟨g45, H⟩ := Y6 H
      have ⟨g46, H⟩ := Y6 H
      refine Y8 5 [5, 0, 6] [(5, .j ((10 * v35) + v37)), (0, sU t0), (6, .j v36)] ⟨g45, g46, trivial⟩ ?_
      refine Y1 (Y0 ?_)
      have ⟨g47, H⟩ := Y6 H
      refine Y8 3 [6, 5, 0] [(6, .j (v36 + 1)), (5, .j ((10 * v35) + v37)), (0, sU t0)] ⟨g47, trivial⟩ ?_
      refine Y1 (AW.exit ?_)
      exact ⟨((10 * v35) + v37, v36 + 1), H, (StC.pure (.i3 .nil))⟩
     refine Yb (Ye ?_)
     have ⟨g48, H⟩ := Y6 H
     refine Y8 2 [23, 0, 5, 6, 22] [(23, .j (v37 + 1)), (0, sU t0), (5, .j v35), (6, .j v36), (22, .agg Z7m)] ⟨g48, trivial⟩ (Y1 ?_)
     exact ⟨(v35, v36, v37 + 1), H, (StC.pure (.i3 (.cons (.agg (CstL.ims _)) (.cons .im .nil))))⟩
    refine AW.exit (AW.exit ?_)
    exact ⟨(v35, v36), H, (StC.pure (.i3 .nil))⟩
   refine AW.exit ?_
   exact ⟨(v31, v32), H, (StC.pure (.i3 .nil))⟩
  rintro ⟨v27, v28⟩ H
  unfold Y0t at H
  change AW _ _ _ [(0, sU t0), (5, .j v27), (6, .j v28)] [] _
  refine Yc (Y0q Tryd.checked.mixed (by kernel_rfl) ?_)
  have ⟨g29, H⟩ := Y6 H
  refine QOps.sz (N := 58) 8 (Z7d t0 v27 v28) ⟨(fun h => h), (fun h => h), (fun h => h), g29, trivial⟩ (QOps.asG (c := (!(v28 == 1)) && (decide (2 < v28))) (.int .u8 (Z7s t0)) rfl rfl rfl (fun hc => T.load rfl hc (by kernel_rfl) (Yn (eI .u8) 1 (fun _ => rfl) t0 (0 : Int) (1 : Int).toNat (ltN (g29 hc)) (fun a => .val (.int .u8 a)) (fun _ => rfl))) (QOps.sz (N := 58) 1 (Z7h t0 v27 v28) ⟨(fun _ => by decide), trivial⟩ (QOps.asG (c := (!(v28 == 1)) && (decide (2 < v28))) (.int .u8 Z7n) rfl rfl rfl (fun hc => T.load rfl hc (by kernel_rfl) (tabOff (Yn (eI .u8) 1 (fun _ => rfl) Yi (0 : Int) (0 : Int).toNat (ltA (n := 10) (by decide) rfl) (fun a => .val (.int .u8 a)) (fun _ => rfl)))) (QOps.sz (N := 58) 3 ((55, .bool (cond (v28 == 1) true (Z7u t0 v28))) :: (54, .cnd (!(v28 == 1)) (.bool (Z7u t0 v28))) :: (53, .cnd (Z7o v28) (.bool (Z7l t0))) :: (52, .cnd (Z7o v28) (.int .u8 Z7n)) :: (Z7h t0 v27 v28)) ⟨(fun h => h), (fun h => h), (fun h => h), (fun h0 h => by first | exact h | (simp [h0, h]; done) | (simp at h0 h ⊢; simp [h0, h]; done) | (simp_all; done) | grind), (fun h => by first | exact h | (simpa using h) | grind), trivial⟩ ?_))))
  refine QOps.nil (AW.trim [55, 5, 6] [(55, .bool (cond (v28 == 1) true (Z7u t0 v28))), (5, .j v27), (6, .j v28)] (by kernel_rfl) ?_)
  refine Y9 (b := cond (v28 == 1) true (Z7u t0 v28)) H rfl (fun c30 H => ?_) (fun c30 H => ?_)
  ·refine Y0 (Y2 3 [4, 3, 2] Z7j ?_)
   refine Y1 ?_
   obtain rfl := X1 H
   refine AW.recast (env' := Z7k) (h' := []) (StC.pure (.i3 .nil)) (Yl ?_)
   try simp only [Ex.t, Ex.b]
   exact Yh rfl (.tmp (.tmp (.tmp .nil)))
  refine Yb (Y0 (Y2 5 [4, 3, 2] [(4, .j (0 : Int)), (3, .j v28), (2, .j v27)] ?_))
  refine Y1 ?_
  obtain rfl := X1 H
  refine AW.recast (env' := [(2, .j v27), (3, .j v28), (4, .j (0 : Int))]) (h' := []) (StC.pure (.i3 .nil)) (Yl ?_)
  try simp only [Ex.t, Ex.b]
  exact Yh rfl (.tmp (.tmp (.tmp .nil)))
 rintro ⟨v1, v2⟩ H
 unfold f_number_Read_k2 at H
 change AW _ _ _ [(0, sU t0), (5, .j v1), (6, .j v2)] [] _
 refine AW.skipSeq ?_
 refine Y08 (fun (y : Int × Int) => Y58 t0 y.1 y.2) r (fun (y : Int × Int) => [(0, sU t0), (5, .j y.1), (6, .j y.2)]) (fun (y : Int × Int) => []) ?_ ?_
 ·refine Yd ?_
  refine Yq (fun loop (s : Int × Int) => f_number_Read_b2 t0 loop s.1 s.2) r (fun (s : Int × Int) => [(0, sU t0), (5, .j s.1), (6, .j s.2)]) (fun (s : Int × Int) => []) ?_ 1000000 (v1, v2) H (StC.pure (.i3 .nil))
  intro loop9 s H
  obtain ⟨v7, v8⟩ := s
  unfold f_number_Read_b2 at H
  change AW _ _ _ [(0, sU t0), (5, .j v7), (6, .j v8)] [] _
  refine Yc (Y0 (Y2 4 [21, 0, 5, 6] [(21, .bool (decide (v8 < (Z7v t0)))), (0, sU t0), (5, .j v7), (6, .j v8)] ?_))
  refine Y1 (Y9 (b := decide (v8 < (Z7v t0))) H rfl (fun c10 H => ?_) (fun c10 H => ?_))
  ·refine Yb (Yd (Yc (Y0 (OpsW.asU (.agg Z7m) rfl rfl (T.loadAgg (n := 10) rfl trivial (by kernel_rfl) (X0 (by kernel_rfl)) (by kernel_rfl)) ?_))))
   refine Y2 1 [23, 22, 0, 5, 6] [(23, .j (0 : Int)), (22, .agg Z7m), (0, sU t0), (5, .j v7), (6, .j v8)] ?_
   refine Y1 (Yd ?_)
   refine Yq (fun loop (s : Int × Int × Int) => f_number_Read_b1 t0 loop9 loop s.1 s.2.1 s.2.2) r (fun (s : Int × Int × Int) => [(0, sU t0), (5, .j s.1), (6, .j s.2.1), (22, .agg Z7m), (23, .j s.2.2)]) (fun (s : Int × Int × Int) => []) ?_ 1000000 (v7, v8, (0 : Int)) H (StC.pure (.i3 (.cons (.agg (CstL.ims _)) (.cons .im .nil))))
   intro loop14 s H
   obtain ⟨v11, v12, v13⟩ := s
   unfold f_number_Read_b1 at H
   change AW _ _ _ (Z7g t0 v11 v12 v13) [] _
   refine Y0 (Y2 1 [24, 0, 5, 6, 22, 23] ((24, .bool (decide (v13 < 10))) :: (Z7g t0 v11 v12 v13)) ?_)
   refine Y1 (Yc (Y9 (b := decide (v13 < 10)) H rfl (fun c15 H => ?_) (fun c15 H => ?_)))
   ·refine Yb (Yc (Yd (Y0 (Y2 1 [25, 0, 5, 6, 22, 23] ((25, .j v13) :: (Z7g t0 v11 v12 v13)) ?_))))
    have ⟨g16, H⟩ := Y6 H
    have ⟨g17, H⟩ := Y6 H
    refine OpsW.asU (.int .u8 (Z7r v13)) rfl rfl (T.indexA (e := 42) rfl rfl trivial trivial (by kernel_rfl) (by kernel_rfl) (by kernel_rfl) (by kernel_rfl) g16 (map_get (Yn (eI .u8) 1 (fun _ => rfl) Yi (0 : Int) v13.toNat (ltA (n := 10) g16 g17) (fun a => .val (.int .u8 a)) (fun _ => rfl)))) (Y2 2 [8, 7, 0, 5, 6, 22, 23] ((8, .int .u8 (Z7r v13)) :: (7, .j v13) :: (Z7g t0 v11 v12 v13)) ?_)
    refine Y1 (Y0 ?_)
    have ⟨g18, H⟩ := Y6 H
    refine Y8 4 [30, 27, 7, 0, 5, 6, 22, 23] ((30, .ipt (t0.flatMap (eI .u8)) (v12.toNat * 1)) :: (27, .int .u8 (Z7r v13)) :: (7, .j v13) :: (Z7g t0 v11 v12 v13)) ⟨g18, trivial⟩ (OpsW.asU (.int .u8 (t0.getD v12.toNat 0)) rfl rfl (T.load rfl trivial (by kernel_rfl) (Yn (eI .u8) 1 (fun _ => rfl) t0 (0 : Int) v12.toNat (ltN g18) (fun a => .val (.int .u8 a)) (fun _ => rfl))) (Y2 1 [32, 7, 0, 5, 6, 22, 23] ((32, .bool ((Z7r v13) == (t0.getD v12.toNat 0))) :: (7, .j v13) :: (Z7g t0 v11 v12 v13)) (Y1 (Y9 (b := (Z7r v13) == (t0.getD v12.toNat 0)) H rfl (fun c19 H => ?_) (fun c19 H => ?_)))))
    ·refine Yc (Y0 (Y2 2 [34, 7, 0, 5, 6] [(34, .bool (decide (5 < v12))), (7, .j v13), (0, sU t0), (5, .j v11), (6, .j v12)] ?_))
     refine Y1 (Y9 (b := decide (5 < v12)) H rfl (fun c20 H => ?_) (fun c20 H => ?_))
     ·refine Y0 (Y2 3 [4, 3, 2] Z7j ?_)
      refine Y1 ?_
      obtain rfl := X1 H
      refine AW.recast (env' := Z7k) (h' := []) (StC.pure (.i3 .nil)) (Yl ?_)
      try simp only [Ex.t, Ex.b]
      exact Yh rfl (.tmp (.tmp (.tmp .nil)))
     refine Yb (Y0 ?_)
     have ⟨g21, H⟩ := Y6 H
     have ⟨g22, H⟩ := Y6 H
     refine Y8 5 [5, 0, 6] [(5, .j ((10 * v11) + v13)), (0, sU t0), (6, .j v12)] ⟨g21, g22, trivial⟩ ?_
     refine Y1 (Y0 ?_)
     have ⟨g23, H⟩ := Y6 H
     refine Y8 3 [6, 5, 0] [(6, .j (v12 + 1)), (5, .j ((10 * v11) + v13)), (0, sU t0)] ⟨g23, trivial⟩ ?_
     refine Y1 (AW.exit ?_)
     exact ⟨((10 * v11) + v13, v12 + 1), H, (StC.pure (.i3 .nil))⟩
    refine Yb (Ye ?_)
    have ⟨g24, H⟩ := Y6 H
    refine Y8 2 [23, 0, 5, 6, 22] [(23, .j (v13 + 1)), (0, sU t0), (5, .j v11), (6, .j v12), (22, .agg Z7m)] ⟨g24, trivial⟩ (Y1 ?_)
    exact ⟨(v11, v12, v13 + 1), H, (StC.pure (.i3 (.cons (.agg (CstL.ims _)) (.cons .im .nil))))⟩
   refine AW.exit (AW.exit ?_)
   exact ⟨(v11, v12), H, (StC.pure (.i3 .nil))⟩
  refine AW.exit ?_
  exact ⟨(v7, v8), H, (StC.pure (.i3 .nil))⟩
 rintro ⟨v3, v4⟩ H
 unfold Y58 at H
 change AW _ _ _ [(0, sU t0), (5, .j v3), (6, .j v4)] [] _
 refine Yc (Y0q Tryd.checked.mixed (by kernel_rfl) ?_)
 have ⟨g5, H⟩ := Y6 H
 refine QOps.sz (N := 58) 8 (Z7e t0 v3 v4) ⟨(fun h => h), (fun h => h), (fun h => h), g5, trivial⟩ (QOps.asG (c := (!(v4 == 1)) && (decide (2 < v4))) (.int .u8 (Z7s t0)) rfl rfl rfl (fun hc => T.load rfl hc (by kernel_rfl) (Yn (eI .u8) 1 (fun _ => rfl) t0 (0 : Int) (1 : Int).toNat (ltN (g5 hc)) (fun a => .val (.int .u8 a)) (fun _ => rfl))) (QOps.sz (N := 58) 1 (Z7i t0 v3 v4) ⟨(fun _ => by decide), trivial⟩ (QOps.asG (c := (!(v4 == 1)) && (decide (2 < v4))) (.int .u8 Z7n) rfl rfl rfl (fun hc => T.load rfl hc (by kernel_rfl) (tabOff (Yn (eI .u8) 1 (fun _ => rfl) Yi (0 : Int) (0 : Int).toNat (ltA (n := 10) (by decide) rfl) (fun a => .val (.int .u8 a)) (fun _ => rfl)))) (QOps.sz (N := 58) 3 ((55, .bool (cond (v4 == 1) true (Z7t t0 v4))) :: (54, .cnd (!(v4 == 1)) (.bool (Z7t t0 v4))) :: (53, .cnd (Z7p v4) (.bool (Z7l t0))) :: (52, .cnd (Z7p v4) (.int .u8 Z7n)) :: (Z7i t0 v3 v4)) ⟨(fun h => h), (fun h => h), (fun h => h), (fun h0 h => by first | exact h | (simp [h0, h]; done) | (simp at h0 h ⊢; simp [h0, h]; done) | (simp_all; done) | grind), (fun h => by first | exact h | (simpa using h) | grind), trivial⟩ ?_))))
 refine QOps.nil (AW.trim [55, 5, 6] [(55, .bool (cond (v4 == 1) true (Z7t t0 v4))), (5, .j v3), (6, .j v4)] (by kernel_rfl) ?_)
 refine Y9 (b := cond (v4 == 1) true (Z7t t0 v4)) H rfl (fun c6 H => ?_) (fun c6 H => ?_)
 ·refine Y0 (Y2 3 [4, 3, 2] Z7j ?_)
  refine Y1 ?_
  obtain rfl := X1 H
  refine AW.recast (env' := Z7k) (h' := []) (StC.pure (.i3 .nil)) (Yl ?_)
  try simp only [Ex.t, Ex.b]
  exact Yh rfl (.tmp (.tmp (.tmp .nil)))
 refine Yb (Y0 (Y2 5 [4, 3, 2] [(4, .j (0 : Int)), (3, .j v4), (2, .j v3)] ?_))
 refine Y1 ?_
 obtain rfl := X1 H
 refine AW.recast (env' := [(2, .j v3), (3, .j v4), (4, .j (0 : Int))]) (h' := []) (StC.pure (.i3 .nil)) (Yl ?_)
 try simp only [Ex.t, Ex.b]
 exact Yh rfl (.tmp (.tmp (.tmp .nil)))
end Go.Proofs.YtbcfmhoaocifoaaDoor
