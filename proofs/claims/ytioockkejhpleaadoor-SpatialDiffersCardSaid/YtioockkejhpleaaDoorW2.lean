/- Own work. -/
import Derived.Test.YtioockkejhpleaaDoorW1
set_option linter.unusedSimpArgs false
set_option linter.unusedVariables false
set_option maxRecDepth 100000
namespace Go.Proofs.YtioockkejhpleaaDoor
open Go.Abs
def Y2p (t0 : List Y4) (loop4 : (Int) → Option Bool) (v3 : Int) : Option Bool :=
 cond (decide (v3 < (t0.length : Int))) (
  (Y3r t0 v3).bind fun x6 =>
  cond (!x6) (
   some false) (
   G (inR (v3 + 1)) <|
   loop4 (v3 + 1))) (
  some true)
def f_R09_Tree (t0 : List Y4) : Option Bool :=
 (cond (!(cond ((t0.length : Int) == 0) true (decide ((200 : Int) < (t0.length : Int))))) (f_R09_End t0 (0 : Int)) (some (0 : Int))).bind fun x1 =>
 cond (cond (cond ((t0.length : Int) == 0) true (decide ((200 : Int) < (t0.length : Int)))) true (x1 != (t0.length : Int))) (
  some false) (
  iter (fun loop (s : Int) => Y2p t0 loop s) 1000000 (0 : Int))
section
variable (t0 : List Y4)
abbrev Z2k := (cond ((t0.length : Int) == 0) true (decide ((200 : Int) < (t0.length : Int))))
abbrev Z2l : Nat × AV := (0, slA Y2 t0)
end
theorem f_R09_Tree_ok  {t0 : List Y4} {r : Bool} (H : f_R09_Tree t0 = some r) : QSpec Tryd.prog 29 [slA Y2 t0] (.bool r) := by
 refine Yh Tryd.func29 rfl (by simp [Tryd.ntmps29]) ?_
 rw [Tryd.ntmps29]
 unfold f_R09_Tree at H
 change AW _ _ _ [(Z2l t0)] [] _
 refine Y0 (Y3 1 [0] [(Z2l t0)] ?_)
 refine Y1 (Ys (Y0 (Yb 10 [13, 12, 0] [(13, .cnd (!(Z2k t0)) (slA Y2 t0)), (12, .bool (Z2k t0)), (Z2l t0)] ⟨(fun h => h), (fun h => h), (fun h => by first | exact h | (simpa using h) | grind), trivial⟩ ?_)))
 have ⟨x1, hx1, H⟩ := Y0d H
 refine OpsW.gcall (c := !(Z2k t0)) (r := .j x1) [] rfl (by kernel_rfl) rfl rfl rfl rfl (fun hc => ⟨Yc ⟨hc, trivial⟩, (.cons (.pur rfl) (.cons (.pur rfl) .nil)), f_R09_End_ok (condT hc hx1), .inl ⟨rfl, rfl⟩⟩) (Yb 4 [18, 0] [(18, .bool (cond (Z2k t0) true (x1 != (t0.length : Int)))), (Z2l t0)] ⟨(fun h => h), (fun h => h), (fun h => h), (fun h => by first | exact h | (simpa using h) | grind), trivial⟩ (Y1 (Y6 (b := cond (Z2k t0) true (x1 != (t0.length : Int))) H rfl (fun c2 H => ?_) (fun c2 H => ?_))))
 ·refine Y0 (Y3 1 [2] [(2, .bool false)] ?_)
  refine Y1 ?_
  obtain rfl := X5 H
  refine AW.recast (env' := [(2, .bool false)]) (h' := []) (StC.pure (.cons .im .nil)) (Yk ?_)
  try simp only [Ex.t, Ex.b]
  exact Done.eq rfl (.tmp .nil)
 refine Ya (Ys (Y0 (Y3 1 [3, 0] [(3, .j (0 : Int)), (Z2l t0)] ?_)))
 refine Y1 (Yp ?_)
 refine Y25 (fun loop (s : Int) => Y2p t0 loop s) r (fun (s : Int) => [(Z2l t0), (3, .j s)]) (fun (s : Int) => []) ?_ 1000000 (0 : Int) H (StC.pure (.i2 .nil))
 intro loop4 v3 H
 unfold Y2p at H
 change AW _ _ _ [(Z2l t0), (3, .j v3)] [] _
 refine Ys (Y0 (Y3 4 [22, 0, 3] [(22, .bool (decide (v3 < (t0.length : Int)))), (Z2l t0), (3, .j v3)] ?_))
 refine Y1 (Y6 (b := decide (v3 < (t0.length : Int))) H rfl (fun c5 H => ?_) (fun c5 H => ?_))
 ·refine Ya (Ys (Yp (Y0 (Y3 2 [26, 25, 0, 3] [(26, .j v3), (25, slA Y2 t0), (Z2l t0), (3, .j v3)] ?_))))
  have ⟨x6, hx6, H⟩ := Y0d H
  refine Y0f rfl (.cons (.pur rfl) (.cons (.pur rfl) .nil)) (f_R09_sound_ok hx6) (Y3 1 [28, 0, 3] [(28, .bool (!x6)), (Z2l t0), (3, .j v3)] (Y1 (Y6 (b := !x6) H rfl (fun c7 H => ?_) (fun c7 H => ?_))))
  ·refine Y0 (Y3 1 [2] [(2, .bool false)] ?_)
   refine Y1 ?_
   obtain rfl := X5 H
   refine AW.recast (env' := [(2, .bool false)]) (h' := []) (StC.pure (.cons .im .nil)) (Yk ?_)
   try simp only [Ex.t, Ex.b]
   exact Done.eq rfl (.tmp .nil)
  refine Ya (Yd ?_)
  have ⟨g8, H⟩ := Ye H
  refine Yb 3 [3, 0] [(3, .j (v3 + 1)), (Z2l t0)] ⟨g8, trivial⟩ (Y1 ?_)
  exact ⟨v3 + 1, H, (StC.pure (.i2 .nil))⟩
 refine AW.exit ?_
 refine Y0 (Y3 1 [2] [(2, .bool true)] ?_)
 refine Y1 ?_
 obtain rfl := X5 H
 refine AW.recast (env' := [(2, .bool true)]) (h' := []) (StC.pure (.cons .im .nil)) (Yk ?_)
 try simp only [Ex.t, Ex.b]
 exact Done.eq rfl (.tmp .nil)
def Y1b (rec_f_R09_depth : (List Y4) → Int → Option Int) (t0 : List Y4) (x1 : List Int) (loop4 : (Int × Int) → Option Int) (v2 : Int) (v3 : Int) : Option Int :=
 cond (decide (v3 < (x1.length : Int))) (
  G (0 ≤ v3 ∧ v3 < (x1.length : Int)) <|
  (rec_f_R09_depth t0 (x1.getD v3.toNat 0)).bind fun x7 =>
  G (inR (v3 + 1)) <|
  loop4 ((if x7 > v2 then x7 else v2), v3 + 1)) (
  G (inR (v2 + 1)) <|
  some (v2 + 1))
def Y5d (rec_f_R09_depth : (List Y4) → Int → Option Int) (t0 : List Y4) (t1 : Int) : Option Int :=
 (Y2q t0 t1).bind fun x1 =>
 iter (fun loop (s : Int × Int) => Y1b rec_f_R09_depth t0 x1 loop s.1 s.2) 1000000 ((0 : Int), (0 : Int))
section
variable (t0 : List Y4) (v2 : Int) (v3 : Int) (x1 : List Int)
abbrev Z2n : Nat × AV := (0, slA Y2 t0)
abbrev Z2m : Env := [(Z2n t0), (5, .j v2), (6, slA (eI .i64) x1), (7, .j v3)]
end
theorem f_R09_depth_body_ok {rec_f_R09_depth : (List Y4) → Int → Option Int} (hrec_f_R09_depth : ∀ (t0 : List Y4) (t1 : Int) (r : Int), rec_f_R09_depth t0 t1 = some r → QSpec Tryd.prog 54 [slA Y2 t0, .int .i64 t1] (.int .i64 r)) {t0 : List Y4} {t1 : Int} {r : Int} (H : Y5d rec_f_R09_depth t0 t1 = some r) : QSpec Tryd.prog 54 [slA Y2 t0, .int .i64 t1] (.int .i64 r) := by
 refine Yh Tryd.func54 rfl (by simp [Tryd.ntmps54]) ?_
 rw [Tryd.ntmps54]
 unfold Y5d at H
 change AW _ _ _ [(Z2n t0), (1, .j t1)] [] _
 refine Y0 (Y3 1 [0, 1] [(Z2n t0), (1, .j t1)] ?_)
 refine Y1 (Y0 (Y3 2 [9, 8, 0] [(9, .j t1), (8, slA Y2 t0), (Z2n t0)] ?_))
 have ⟨x1, hx1, H⟩ := Y0d H
 refine Y0f rfl (.cons (.pur rfl) (.cons (.pur rfl) .nil)) (f_R09_Operands_ok hx1) (Y3 2 [6, 5, 0] [(6, slA (eI .i64) x1), (5, .j (0 : Int)), (Z2n t0)] ?_)
 refine Y1 (Ys (Y0 (Y3 1 [7, 6, 5, 0] [(7, .j (0 : Int)), (6, slA (eI .i64) x1), (5, .j (0 : Int)), (Z2n t0)] ?_)))
 refine Y1 (Yp ?_)
 refine Y25 (fun loop (s : Int × Int) => Y1b rec_f_R09_depth t0 x1 loop s.1 s.2) r (fun (s : Int × Int) => [(Z2n t0), (5, .j s.1), (6, slA (eI .i64) x1), (7, .j s.2)]) (fun (s : Int × Int) => []) ?_ 1000000 ((0 : Int), (0 : Int)) H (StC.pure (.i4 .nil))
 intro loop4 s H
 obtain ⟨v2, v3⟩ := s
 unfold Y1b at H
 change AW _ _ _ (Z2m t0 v2 v3 x1) [] _
 refine Ys (Y0 (Y3 4 [14, 0, 5, 6, 7] ((14, .bool (decide (v3 < (x1.length : Int)))) :: (Z2m t0 v2 v3 x1)) ?_))
 refine Y1 (Y6 (b := decide (v3 < (x1.length : Int))) H rfl (fun c5 H => ?_) (fun c5 H => ?_))
 ·refine Ya (Ys (Yp (Yd ?_)))
  have ⟨g6, H⟩ := Ye H
  refine Yb 5 [21, 18, 17, 0, 5, 6, 7] ((21, .ipt (x1.flatMap (eI .i64)) (v3.toNat * 1)) :: (18, slA Y2 t0) :: (17, .j v2) :: (Z2m t0 v2 v3 x1)) ⟨g6, trivial⟩ (OpsW.asU (.j (x1.getD v3.toNat 0)) rfl rfl (T.load rfl trivial (by kernel_rfl) (Y2l (eI .i64) 1 (fun _ => rfl) x1 (0 : Int) v3.toNat (ltN g6) (fun a => .val (.j a)) (fun _ => rfl))) ?_)
  have ⟨x7, hx7, H⟩ := Y0d H
  refine Y0f rfl (.cons (.pur rfl) (.cons (.pur rfl) .nil)) (hrec_f_R09_depth _ _ _ hx7) (Y3 2 [5, 0, 6, 7] [(5, .j (if x7 > v2 then x7 else v2)), (Z2n t0), (6, slA (eI .i64) x1), (7, .j v3)] ?_)
  refine Y1 (Yd ?_)
  have ⟨g8, H⟩ := Ye H
  refine Yb 3 [7, 5, 0, 6] [(7, .j (v3 + 1)), (5, .j (if x7 > v2 then x7 else v2)), (Z2n t0), (6, slA (eI .i64) x1)] ⟨g8, trivial⟩ (Y1 ?_)
  exact ⟨((if x7 > v2 then x7 else v2), v3 + 1), H, (StC.pure (.i4 .nil))⟩
 refine AW.exit (Y0 ?_)
 have ⟨g9, H⟩ := Ye H
 refine Yb 3 [4] [(4, .j (v2 + 1))] ⟨g9, trivial⟩ (Y1 ?_)
 obtain rfl := X5 H
 refine AW.recast (env' := [(4, .j (v2 + 1))]) (h' := []) (StC.pure (.cons .im .nil)) (Yk ?_)
 try simp only [Ex.t, Ex.b]
 exact Done.eq rfl (.tmp .nil)
def Y1g : Nat → (List Y4) → Int → Option Int
 | 0, _, _ => none
 | n + 1, t0, t1 => Y5d (Y1g n) t0 t1
theorem f_R09_depth_all : ∀ n : Nat, (∀ (t0 : List Y4) (t1 : Int) (r : Int), Y1g n t0 t1 = some r → QSpec Tryd.prog 54 [slA Y2 t0, .int .i64 t1] (.int .i64 r)) ∧ True
 | 0 => by
  refine ⟨?_, trivial⟩
  ·intro t0 t1 r H; rw [Y1g] at H; cases H
 | n + 1 => by
  have ih := f_R09_depth_all n
  refine ⟨?_, trivial⟩
  ·intro t0 t1 r H; rw [Y1g] at H; exact f_R09_depth_body_ok ih.1 H
def f_R09_depth (t0 : List Y4) (t1 : Int) : Option Int := Y1g 1000000 t0 t1
theorem f_R09_depth_ok {t0 : List Y4} {t1 : Int} {r : Int} (H : f_R09_depth t0 t1 = some r) : QSpec Tryd.prog 54 [slA Y2 t0, .int .i64 t1] (.int .i64 r) :=
 (f_R09_depth_all 1000000).1 t0 t1 r H
def Y5g (t0 : List Y4) : Option Int :=
 (f_R09_depth t0 (0 : Int)).bind fun x1 =>
 some x1
theorem f_R09_Depth_ok  {t0 : List Y4} {r : Int} (H : Y5g t0 = some r) : QSpec Tryd.prog 30 [slA Y2 t0] (.int .i64 r) := by
 refine Yh Tryd.func30 rfl (by simp [Tryd.ntmps30]) ?_
 rw [Tryd.ntmps30]
 unfold Y5g at H
 change AW _ _ _ [(0, slA Y2 t0)] [] _
 refine Y0 (Y3 1 [0] [(0, slA Y2 t0)] ?_)
 refine Y1 (Y0 (Y3 1 [3] [(3, slA Y2 t0)] ?_))
 have ⟨x1, hx1, H⟩ := Y0d H
 refine Y0f rfl (.cons (.pur rfl) (.cons (.pur rfl) .nil)) (f_R09_depth_ok hx1) (Y3 1 [2] [(2, .j x1)] (Y1 ?_))
 obtain rfl := X5 H
 refine AW.recast (env' := [(2, .j x1)]) (h' := []) (StC.pure (.cons .im .nil)) (Yk ?_)
 try simp only [Ex.t, Ex.b]
 exact Done.eq rfl (.tmp .nil)
def Y2v (t0 : List Y4) : Option Bool :=
 (cond (decide ((t0.length : Int) ≤ 60)) (f_R09_Tree t0) (some false)).bind fun x1 =>
 (cond (cond (decide ((t0.length : Int) ≤ 60)) x1 false) (Y5g t0) (some (0 : Int))).bind fun x2 =>
 some (cond (cond (decide ((t0.length : Int) ≤ 60)) x1 false) (decide (x2 ≤ 8)) false)
section
variable (t0 : List Y4) (x1 : Bool) (x2 : Int)
abbrev Z2p := (decide ((t0.length : Int) ≤ 60))
abbrev Z2o : Env := [(2, .bool (cond (cond (Z2p t0) x1 false) (decide (x2 ≤ 8)) false))]
end
theorem f_R09_Valid_ok  {t0 : List Y4} {r : Bool} (H : Y2v t0 = some r) : QSpec Tryd.prog 17 [slA Y2 t0] (.bool r) := by
 refine Yh Tryd.func17 rfl (by simp [Tryd.ntmps17]) ?_
 rw [Tryd.ntmps17]
 unfold Y2v at H
 change AW _ _ _ [(0, slA Y2 t0)] [] _
 refine Y0 (Y3 1 [0] [(0, slA Y2 t0)] ?_)
 refine Y1 (Y0 (Y3 5 [7, 6, 0] [(7, .cnd (Z2p t0) (slA Y2 t0)), (6, .bool (Z2p t0)), (0, slA Y2 t0)] ?_))
 have ⟨x1, hx1, H⟩ := Y0d H
 refine OpsW.gcall (c := decide ((t0.length : Int) ≤ 60)) (r := .bool x1) [] rfl (by kernel_rfl) rfl rfl rfl rfl (fun hc => ⟨Yc ⟨hc, trivial⟩, (.cons (.pur rfl) .nil), f_R09_Tree_ok (condT hc hx1), .inl ⟨rfl, rfl⟩⟩) (Yb 3 [11, 10] [(11, .cnd (cond (Z2p t0) x1 false) (slA Y2 t0)), (10, .bool (cond (Z2p t0) x1 false))] ⟨(fun h => by first | exact h | (simpa using h) | grind), trivial⟩ ?_)
 have ⟨x2, hx2, H⟩ := Y0d H
 refine OpsW.gcall (c := cond (Z2p t0) x1 false) (r := .j x2) [] rfl (by kernel_rfl) rfl rfl rfl rfl (fun hc => ⟨Yc ⟨hc, trivial⟩, (.cons (.pur rfl) .nil), f_R09_Depth_ok (condT hc hx2), .inl ⟨rfl, rfl⟩⟩) (Yb 3 [2] (Z2o t0 x1 x2) ⟨(fun h => h), (fun h => by first | exact h | (simpa using h) | grind), trivial⟩ (Y1 ?_))
 obtain rfl := X5 H
 refine AW.recast (env' := (Z2o t0 x1 x2)) (h' := []) (StC.pure (.cons .im .nil)) (Yk ?_)
 try simp only [Ex.t, Ex.b]
 exact Done.eq rfl (.tmp .nil)
def Y55 (loop6 : (Y39 × (List Y4) × Int) → Option (List Y4)) (v5 : Int) (v8 : Y39) (v9 : List Y4) : Option (List Y4) :=
 G (inR (v5 + 1)) <|
 loop6 (v8, v9, v5 + 1)
def Y49 (loop6 : (Y39 × (List Y4) × Int) → Option (List Y4)) (v5 : Int) (v11 : Y39) (v12 : List Y4) (v13 : List Int) : Option (List Y4) :=
 cond ((Int.tmod v11.Kind (4 : Int)) == 0) (
  G (inR ((IntKind.wrap .i64 (v13.getD 0 0)) * (IntKind.wrap .i64 (v13.getD 1 0)))) <|
  G (room 16 (v12.length + 1)) <|
  Y55 loop6 v5 v11 (v12 ++ [(⟨(0 : Int), (IntKind.wrap .i64 (v13.getD 0 0)) * (IntKind.wrap .i64 (v13.getD 1 0))⟩ : Y4)])) (
  (Y4z (v13.getD 0 0) (v13.getD 1 0)).bind fun x17 =>
  G (room 16 (v12.length + x17.length)) <|
  Y55 loop6 v5 v11 (v12 ++ x17))
def Y2o (v2 : Int) (loop6 : (Y39 × (List Y4) × Int) → Option (List Y4)) (v3 : Y39) (v4 : List Y4) (v5 : Int) : Option (List Y4) :=
 cond (decide (v5 < v2)) (
  cond (decide (v5 < (v3.L.length : Int))) (
   G (0 ≤ v5 ∧ v5 < (v3.L.length : Int)) <|
   Y49 loop6 v5 v3 v4 [((v3.L.getD v5.toNat (List.replicate 2 (0 : Int))).getD 0 0), ((v3.L.getD v5.toNat (List.replicate 2 (0 : Int))).getD 1 0)]) (
   Y49 loop6 v5 v3 v4 [(0 : Int), (0 : Int)])) (
  (Y2v v4).bind fun x21 =>
  cond (!x21) (
   (Y4z (0 : Int) v3.N).bind fun x23 =>
   some x23) (
   some v4))
def Y54 (t0 : Y39) (v1 : List Y4) (v2 : Int) : Option (List Y4) :=
 iter (fun loop (s : Y39 × (List Y4) × Int) => Y2o v2 loop s.1 s.2.1 s.2.2) 1000000 (t0, v1, (0 : Int))
def f_R11_Made (t0 : Y39) : Option (List Y4) :=
 cond ((Int.tmod t0.Kind (4 : Int)) == 0) (
  G (inR ((3 : Int) + (IntKind.wrap .i64 (Int.tmod t0.N (4 : Int))))) <|
  G (inR (((3 : Int) + (IntKind.wrap .i64 (Int.tmod t0.N (4 : Int)))) - 1)) <|
  Y54 t0 [(⟨(12 : Int), ((3 : Int) + (IntKind.wrap .i64 (Int.tmod t0.N (4 : Int)))) - 1⟩ : Y4)] ((3 : Int) + (IntKind.wrap .i64 (Int.tmod t0.N (4 : Int))))) (
  cond ((Int.tmod t0.Kind (4 : Int)) == 1) (
   G (inR ((1 : Int) + (IntKind.wrap .i64 (Int.tmod t0.N (4 : Int))))) <|
   G (inR ((1 : Int) + (IntKind.wrap .i64 (Int.tmod (IntKind.wrap .u8 (Int.tdiv t0.N (4 : Int))) (4 : Int))))) <|
   G (inR (((1 : Int) + (IntKind.wrap .i64 (Int.tmod t0.N (4 : Int)))) * ((1 : Int) + (IntKind.wrap .i64 (Int.tmod (IntKind.wrap .u8 (Int.tdiv t0.N (4 : Int))) (4 : Int)))))) <|
   G (inR (8 * ((1 : Int) + (IntKind.wrap .i64 (Int.tmod t0.N (4 : Int)))))) <|
   G (inR ((8 * ((1 : Int) + (IntKind.wrap .i64 (Int.tmod t0.N (4 : Int))))) + ((1 : Int) + (IntKind.wrap .i64 (Int.tmod (IntKind.wrap .u8 (Int.tdiv t0.N (4 : Int))) (4 : Int)))))) <|
   Y54 t0 [(⟨(13 : Int), (8 * ((1 : Int) + (IntKind.wrap .i64 (Int.tmod t0.N (4 : Int))))) + ((1 : Int) + (IntKind.wrap .i64 (Int.tmod (IntKind.wrap .u8 (Int.tdiv t0.N (4 : Int))) (4 : Int))))⟩ : Y4)] (((1 : Int) + (IntKind.wrap .i64 (Int.tmod t0.N (4 : Int)))) * ((1 : Int) + (IntKind.wrap .i64 (Int.tmod (IntKind.wrap .u8 (Int.tdiv t0.N (4 : Int))) (4 : Int)))))) (
   cond ((Int.tmod t0.Kind (4 : Int)) == 3) (
    (Y4z t0.N (IntKind.wrap .u8 (Int.tdiv t0.N (8 : Int)))).bind fun x34 =>
    some x34) (
    Y54 t0 [(⟨(6 : Int), (0 : Int)⟩ : Y4)] (2 : Int))))
section
variable (t0 : Y39) (v2 : Int) (v3 : Y39) (v4 : List Y4) (v5 : Int) (v11 : Y39) (v12 : List Y4) (v13 : List Int)
abbrev Z30 := ((1 : Int) + (IntKind.wrap .i64 (Int.tmod (IntKind.wrap .u8 (Int.tdiv t0.N (4 : Int))) (4 : Int))))
abbrev Z31 := (IntKind.wrap .i64 (Int.tmod t0.N (4 : Int)))
abbrev Z32 := (⟨(0 : Int), (IntKind.wrap .i64 (v13.getD 0 0)) * (IntKind.wrap .i64 (v13.getD 1 0))⟩ : Y4)
abbrev Z33 := (v3.L.getD v5.toNat (List.replicate 2 (0 : Int)))
abbrev Z34 : List AV := [.int .u8 t0.Kind, .int .u8 t0.N, slA eA43 t0.L]
abbrev Z35 := (⟨(13 : Int), (8 * ((1 : Int) + (Z31 t0))) + (Z30 t0)⟩ : Y4)
abbrev Z36 : Nat × AV := (1, .ref 1 0 0)
abbrev Z37 := (⟨(12 : Int), ((3 : Int) + (Z31 t0)) - 1⟩ : Y4)
abbrev Z38 := (Int.tmod t0.Kind (4 : Int))
abbrev Z39 := (⟨(6 : Int), (0 : Int)⟩ : Y4)
abbrev Z3a : List AV := [.int .u8 v3.Kind, .int .u8 v3.N, slA eA43 v3.L]
abbrev Z3b : List AV := [.int .u8 ((Z33 v3 v5).getD 0 0), .int .u8 ((Z33 v3 v5).getD 1 0)]
abbrev Z3c := ((1 : Int) + (Z31 t0))
abbrev Z3d : List AV := [.int .u8 v11.Kind, .int .u8 v11.N, slA eA43 v11.L]
abbrev Z3e := (IntKind.wrap .u8 (Int.tdiv t0.N (4 : Int)))
abbrev Z3f : Nat × AV := (8, .ref 8 0 0)
abbrev Z2q : Env := [(4, .j (2 : Int)), (3, .rsl 3 0 0 ([Z39].length)), Z36]
abbrev Z2r : Env := [Z36, (3, .rsl 3 0 0 v4.length), (4, .j v2), (7, .j v5)]
abbrev Z2s : Env := [(4, .j ((Z3c t0) * (Z30 t0))), Z36]
abbrev Z2t : Env := [(4, .j ((3 : Int) + (Z31 t0))), Z36]
abbrev Z2u : Env := [(6, .j (Z30 t0)), (5, .j (Z3c t0)), Z36]
abbrev Z2v : Hp := [(1, ⟨0, true, 24, 3, (Z3a v3)⟩), (3, rtA 0 38 2 Y2 v4), (8, ⟨0, true, 43, 2, [.int .u8 0, .int .u8 0]⟩)]
abbrev Z2w : Env := (14, .int .u8 (Z38 t0)) :: Z2q
abbrev Z2x : Hp := [(1, ⟨0, true, 24, 3, (Z3a v3)⟩), (3, rtA 0 38 2 Y2 v4)]
abbrev Z2y : Env := [Z36, (4, .j v2), (7, .j v5)]
abbrev Z2z : Env := [Z36, (3, .rsl 3 0 0 v12.length), (4, .j v2), (7, .j v5), Z3f]
end
theorem f_R11_Made_ok  {t0 : Y39} {r : List Y4} (H : f_R11_Made t0 = some r) : QSpec Tryd.prog 8 [.agg [.int .u8 t0.Kind, .int .u8 t0.N, slA eA43 t0.L]] (slA Y2 r) := by
 refine Yh Tryd.func8 rfl (by simp [Tryd.ntmps8]) ?_
 rw [Tryd.ntmps8]
 unfold f_R11_Made at H
 change AW _ _ _ [(0, .agg (Z34 t0))] [] _
 refine Y0 (OpsW.box rfl rfl rfl 1 rfl (Yx (by kernel_rfl)) ?_)
 change OpsW _ _ _ _ _ [(1, ⟨0, true, 24, 3, (Z34 t0)⟩)] _
 refine Y3 1 [1] [Z36] ?_
 refine Y1 (Y0 (Y3 1 [10, 1] [(10, .agg [.j (6 : Int), .j (0 : Int)]), Z36] ?_))
 refine OpsW.buildT (enc := Y2) [Z39] rfl rfl rfl 11 rfl E27 (fun _ => rfl) (by decide) trivial (by kernel_rfl) (by kernel_rfl) (by kernel_rfl) rfl (Y3 2 [4, 3, 1] [(4, .j (2 : Int)), (3, .rsl 11 0 0 ([Z39].length)), Z36] (OpsW.rc Z2q [(1, ⟨0, true, 24, 3, (Z34 t0)⟩), (3, rtA 0 38 2 Y2 [Z39])] (StC.mk (phi [(1, some 1), (3, some 11)]) (.o rfl (.i3 .nil) (.o rfl (CstL.ims _) .nil)) rfl (.cons .im (.cons (.s rfl) (.cons (.r rfl) .nil)))) (Y1 ?_)))
 refine Y0w (fun (y : (List Y4) × Int) => Y54 t0 y.1 y.2) r (fun (y : (List Y4) × Int) => [Z36, (3, .rsl 3 0 0 y.1.length), (4, .j y.2)]) (fun (y : (List Y4) × Int) => [(1, ⟨0, true, 24, 3, (Z34 t0)⟩), (3, rtA 0 38 2 Y2 y.1)]) ?_ ?_
 ·refine Y0 (Yb 3 [14, 4, 3, 1] (Z2w t0) ⟨(by decide), trivial⟩ ?_)
  refine Y1 (Yp (Y0 (Y3 2 [15, 14, 4, 3, 1] ((15, .bool ((Z38 t0) == 0)) :: (Z2w t0)) ?_)))
  refine Y1 (Y6 (b := (Z38 t0) == 0) H rfl (fun c24 H => ?_) (fun c24 H => ?_))
  ·refine Y0 ?_
   have ⟨g25, H⟩ := Ye H
   refine Yb 6 [4, 1] (Z2t t0) ⟨(by decide), g25, trivial⟩ ?_
   refine Y1 (Yd ?_)
   have ⟨g26, H⟩ := Ye H
   refine Yb 3 [24, 4, 1] ((24, .agg [.j (12 : Int), .j (((3 : Int) + (Z31 t0)) - 1)]) :: (Z2t t0)) ⟨g26, trivial⟩ (OpsW.buildT (enc := Y2) [(Z37 t0)] rfl rfl rfl 25 rfl E27 (fun _ => rfl) (by decide) trivial (by kernel_rfl) (by kernel_rfl) (by kernel_rfl) rfl (Y3 1 [3, 4, 1] ((3, .rsl 25 0 0 ([(Z37 t0)].length)) :: (Z2t t0)) (OpsW.rc ((3, .rsl 3 0 0 ([(Z37 t0)].length)) :: (Z2t t0)) [(1, ⟨0, true, 24, 3, (Z34 t0)⟩), (3, rtA 0 38 2 Y2 [(Z37 t0)])] (StC.mk (phi [(1, some 1), (3, some 25)]) (.o rfl (.i3 .nil) (.o rfl (CstL.ims _) .nil)) rfl (.cons (.s rfl) (.cons .im (.cons (.r rfl) .nil)))) (Y1 ?_))))
   exact ⟨([(Z37 t0)], (3 : Int) + (Z31 t0)), H, (StC.mk (phi [(1, some 1), (3, some 3)]) (.o rfl (.i3 .nil) (.o rfl (CstL.ims _) .nil)) rfl (.cons (.r rfl) (.cons (.s rfl) (.cons .im .nil))))⟩
  refine Y0 (Y3 2 [26, 14, 4, 3, 1] ((26, .bool ((Z38 t0) == 1)) :: (Z2w t0)) ?_)
  refine Y1 (Y6 (b := (Z38 t0) == 1) H rfl (fun c27 H => ?_) (fun c27 H => ?_))
  ·refine Y1j Tryd.checked.mixed (by kernel_rfl) ?_
   have ⟨g28, H⟩ := Ye H
   have ⟨g29, H⟩ := Ye H
   refine QOps.sz (N := 102) 13 ((6, .j (Z30 t0)) :: (5, .j (Z3c t0)) :: (38, .j (Z30 t0)) :: (37, .j (IntKind.wrap .i64 (Int.tmod (Z3e t0) (4 : Int)))) :: (36, .int .u8 (Int.tmod (Z3e t0) (4 : Int))) :: (35, .int .u8 (Z3e t0)) :: (34, .int .u8 t0.N) :: (33, .ref 1 0 1) :: (32, .j (Z3c t0)) :: (31, .j (Z31 t0)) :: (30, .int .u8 (Int.tmod t0.N (4 : Int))) :: (29, .int .u8 t0.N) :: (28, .ref 1 0 1) :: (26, .bool ((Z38 t0) == 1)) :: (Z2w t0)) ⟨(by decide), g28, (by decide), (by decide), g29, trivial⟩ ?_
   refine QOps.nil (AW.trim [6, 5, 1] (Z2u t0) (by kernel_rfl) ?_)
   refine Y0 ?_
   have ⟨g30, H⟩ := Ye H
   refine Yb 4 [4, 6, 5, 1] ((4, .j ((Z3c t0) * (Z30 t0))) :: (Z2u t0)) ⟨g30, trivial⟩ ?_
   refine Y1 (Yd ?_)
   have ⟨g31, H⟩ := Ye H
   have ⟨g32, H⟩ := Ye H
   refine Yb 5 [46, 4, 1] ((46, .agg [.j (13 : Int), .j ((8 * (Z3c t0)) + (Z30 t0))]) :: (Z2s t0)) ⟨g31, g32, trivial⟩ (OpsW.buildT (enc := Y2) [(Z35 t0)] rfl rfl rfl 47 rfl E27 (fun _ => rfl) (by decide) trivial (by kernel_rfl) (by kernel_rfl) (by kernel_rfl) rfl (Y3 1 [3, 4, 1] ((3, .rsl 47 0 0 ([(Z35 t0)].length)) :: (Z2s t0)) (OpsW.rc ((3, .rsl 3 0 0 ([(Z35 t0)].length)) :: (Z2s t0)) [(1, ⟨0, true, 24, 3, (Z34 t0)⟩), (3, rtA 0 38 2 Y2 [(Z35 t0)])] (StC.mk (phi [(1, some 1), (3, some 47)]) (.o rfl (.i3 .nil) (.o rfl (CstL.ims _) .nil)) rfl (.cons (.s rfl) (.cons .im (.cons (.r rfl) .nil)))) (Y1 ?_))))
   exact ⟨([(Z35 t0)], (Z3c t0) * (Z30 t0)), H, (StC.mk (phi [(1, some 1), (3, some 3)]) (.o rfl (.i3 .nil) (.o rfl (CstL.ims _) .nil)) rfl (.cons (.r rfl) (.cons (.s rfl) (.cons .im .nil))))⟩
  refine Y0 (Y3 2 [48, 4, 3, 1] ((48, .bool ((Z38 t0) == 3)) :: Z2q) ?_)
  refine Y1 (Y6 (b := (Z38 t0) == 3) H rfl (fun c33 H => ?_) (fun c33 H => ?_))
  ·refine Y0 (Yb 5 [54, 51] [(54, .int .u8 (IntKind.wrap .u8 (Int.tdiv t0.N (8 : Int)))), (51, .int .u8 t0.N)] ⟨(by decide), trivial⟩ ?_)
   have ⟨x34, hx34, H⟩ := Y0d H
   refine Y0f rfl (.cons (.pur rfl) (.cons (.pur rfl) .nil)) (f_R11_Entry_ok hx34) (Y3 1 [2] [(2, slA Y2 x34)] (Y1 ?_))
   obtain rfl := X5 H
   refine AW.recast (env' := [(2, slA Y2 x34)]) (h' := []) (StC.pure (.cons .im .nil)) (Yk ?_)
   try simp only [Ex.t, Ex.b]
   exact Done.eq rfl (.tmp .nil)
  refine Ya ?_
  exact ⟨([Z39], (2 : Int)), H, (StC.mk (phi [(1, some 1), (3, some 3)]) (.o rfl (.i3 .nil) (.o rfl (CstL.ims _) .nil)) rfl (.cons (.r rfl) (.cons (.s rfl) (.cons .im .nil))))⟩
 rintro ⟨v1, v2⟩ H
 unfold Y54 at H
 change AW _ _ _ [Z36, (3, .rsl 3 0 0 v1.length), (4, .j v2)] [(1, ⟨0, true, 24, 3, (Z34 t0)⟩), (3, rtA 0 38 2 Y2 v1)] _
 refine Ys (Y0 (Y3 1 [7, 1, 3, 4] [(7, .j (0 : Int)), Z36, (3, .rsl 3 0 0 v1.length), (4, .j v2)] ?_))
 refine Y1 (Yp ?_)
 refine Y25 (fun loop (s : Y39 × (List Y4) × Int) => Y2o v2 loop s.1 s.2.1 s.2.2) r (fun (s : Y39 × (List Y4) × Int) => [Z36, (3, .rsl 3 0 0 s.2.1.length), (4, .j v2), (7, .j s.2.2)]) (fun (s : Y39 × (List Y4) × Int) => [(1, ⟨0, true, 24, 3, [.int .u8 s.1.Kind, .int .u8 s.1.N, slA eA43 s.1.L]⟩), (3, rtA 0 38 2 Y2 s.2.1)]) ?_ 1000000 (t0, v1, (0 : Int)) H (StC.mk (phi [(1, some 1), (3, some 3)]) (.o rfl (.i3 .nil) (.o rfl (CstL.ims _) .nil)) rfl (.cons (.r rfl) (.cons (.s rfl) (.i2 .nil))))
 intro loop6 s H
 obtain ⟨v3, v4, v5⟩ := s
 unfold Y2o at H
 change AW _ _ _ (Z2r v2 v4 v5) (Z2x v3 v4) _
 refine Ys (Y0 (Y3 3 [58, 1, 3, 4, 7] ((58, .bool (decide (v5 < v2))) :: (Z2r v2 v4 v5)) ?_))
 refine Y1 (Y6 (b := decide (v5 < v2)) H rfl (fun c7 H => ?_) (fun c7 H => ?_))
 ·refine Ya ?_
  refine Y0w (fun (y : Y39 × (List Y4)) => Y55 loop6 v5 y.1 y.2) r (fun (y : Y39 × (List Y4)) => [Z36, (3, .rsl 3 0 0 y.2.length), (4, .j v2), (7, .j v5)]) (fun (y : Y39 × (List Y4)) => [(1, ⟨0, true, 24, 3, [.int .u8 y.1.Kind, .int .u8 y.1.N, slA eA43 y.1.L]⟩), (3, rtA 0 38 2 Y2 y.2)]) ?_ ?_
  ·refine Yp (Y0 (Y3 1 [61, 1, 3, 4, 7] ((61, .agg [.int .u8 0, .int .u8 0]) :: (Z2r v2 v4 v5)) ?_))
   refine OpsW.alloc' rfl rfl rfl 8 rfl (by kernel_rfl : zc Tryd.prog 43 = some [.int .u8 0, .int .u8 0]) (by kernel_rfl) (OpsW.store rfl rfl rfl rfl trivial trivial rfl rfl rfl (by kernel_rfl) (Yx (by kernel_rfl)) (X00 (by kernel_rfl)) ?_)
   change OpsW _ _ _ _ _ ((8, ⟨0, true, 43, 2, [.int .u8 0, .int .u8 0]⟩) :: (8, ⟨0, true, 43, 2, [.int .u8 0, .int .u8 0]⟩) :: (Z2x v3 v4)) _
   refine Y3 0 [8, 1, 3, 4, 7] (Z3f :: (Z2r v2 v4 v5)) (OpsW.rc (Z3f :: (Z2r v2 v4 v5)) (Z2v v3 v4) (StC.mk (phi [(1, some 1), (3, some 3), (8, some 8)]) (.o rfl (.i3 .nil) (.o rfl (CstL.ims _) (.o rfl (.i2 .nil) .nil))) rfl (.cons (.r rfl) (.cons (.r rfl) (.cons (.s rfl) (.i2 .nil))))) (Y1 ?_))
   refine Y0w (fun (y : Y39 × (List Y4) × (List Int)) => Y49 loop6 v5 y.1 y.2.1 y.2.2) r (fun (y : Y39 × (List Y4) × (List Int)) => [Z36, (3, .rsl 3 0 0 y.2.1.length), (4, .j v2), (7, .j v5), Z3f]) (fun (y : Y39 × (List Y4) × (List Int)) => [(1, ⟨0, true, 24, 3, [.int .u8 y.1.Kind, .int .u8 y.1.N, slA eA43 y.1.L]⟩), (3, rtA 0 38 2 Y2 y.2.1), (8, ⟨0, true, 43, 2, [.int .u8 (y.2.2.getD 0 0), .int .u8 (y.2.2.getD 1 0)]⟩)]) ?_ ?_
   ·refine Y0 (Y3 5 [66, 8, 1, 3, 4, 7] ((66, .bool (decide (v5 < (v3.L.length : Int)))) :: Z3f :: (Z2r v2 v4 v5)) ?_)
    refine Y1 (Y6 (b := decide (v5 < (v3.L.length : Int))) H rfl (fun c19 H => ?_) (fun c19 H => ?_))
    ·refine Yd ?_
     have ⟨g20, H⟩ := Ye H
     refine Yb 4 [70, 8, 1, 3, 4, 7] ((70, .ipt (v3.L.flatMap eA43) (v5.toNat * 2)) :: Z3f :: (Z2r v2 v4 v5)) ⟨g20, trivial⟩ (OpsW.asU (.agg (Z3b v3 v5)) rfl rfl (Y44 (cs := v3.L.flatMap eA43) (off := v5.toNat * 2) (ds := eA43 (Z33 v3 v5)) rfl trivial (by kernel_rfl) (by have := Y05 eA43 2 (fun _ => rfl) v3.L; have := (ltN g20); first | omega | (simp only [Z33] at *; omega)) (fm_elem eA43 2 (fun _ => rfl) v3.L (List.replicate 2 (0 : Int)) v5.toNat (ltN g20))) (OpsW.store rfl rfl rfl rfl trivial trivial rfl rfl rfl (by kernel_rfl) (Yx (by kernel_rfl)) (X00 (by kernel_rfl)) ?_))
     change OpsW _ _ _ _ _ ((8, ⟨0, true, 43, 2, (Z3b v3 v5)⟩) :: (Z2v v3 v4)) _
     refine Y3 0 [8, 1, 3, 4, 7] (Z3f :: (Z2r v2 v4 v5)) (OpsW.rc (Z3f :: (Z2r v2 v4 v5)) [(1, ⟨0, true, 24, 3, (Z3a v3)⟩), (3, rtA 0 38 2 Y2 v4), (8, ⟨0, true, 43, 2, (Z3b v3 v5)⟩)] (StC.mk (phi [(1, some 1), (3, some 3), (8, some 8)]) (.o rfl (.i3 .nil) (.o rfl (CstL.ims _) (.o rfl (.i2 .nil) .nil))) rfl (.cons (.r rfl) (.cons (.r rfl) (.cons (.s rfl) (.i2 .nil))))) (Y1 ?_))
     exact ⟨(v3, v4, [((Z33 v3 v5).getD 0 0), ((Z33 v3 v5).getD 1 0)]), H, (StC.mk (phi [(1, some 1), (3, some 3), (8, some 8)]) (.o rfl (.i3 .nil) (.o rfl (CstL.ims _) (.o rfl (.i2 .nil) .nil))) rfl (.cons (.r rfl) (.cons (.s rfl) (.i2 (.cons (.r rfl) .nil)))))⟩
    refine Ya ?_
    exact ⟨(v3, v4, [(0 : Int), (0 : Int)]), H, (StC.mk (phi [(1, some 1), (3, some 3), (8, some 8)]) (.o rfl (.i3 .nil) (.o rfl (CstL.ims _) (.o rfl (.i2 .nil) .nil))) rfl (.cons (.r rfl) (.cons (.s rfl) (.i2 (.cons (.r rfl) .nil)))))⟩
   rintro ⟨v11, v12, v13⟩ H
   unfold Y49 at H
   change AW _ _ _ (Z2z v2 v5 v12) [(1, ⟨0, true, 24, 3, (Z3d v11)⟩), (3, rtA 0 38 2 Y2 v12), (8, ⟨0, true, 43, 2, [.int .u8 (v13.getD 0 0), .int .u8 (v13.getD 1 0)]⟩)] _
   refine Y0 (Yb 4 [75, 1, 3, 4, 7, 8] ((75, .bool ((Int.tmod v11.Kind (4 : Int)) == 0)) :: (Z2z v2 v5 v12)) ⟨(by decide), trivial⟩ ?_)
   refine Y1 (Y6 (b := (Int.tmod v11.Kind (4 : Int)) == 0) H rfl (fun c14 H => ?_) (fun c14 H => ?_))
   ·refine Yd ?_
    have ⟨g15, H⟩ := Ye H
    refine Yb 9 [84, 76, 1, 3, 4, 7] [(84, .agg [.j (0 : Int), .j ((IntKind.wrap .i64 (v13.getD 0 0)) * (IntKind.wrap .i64 (v13.getD 1 0)))]), (76, .rsl 3 0 0 v12.length), Z36, (3, .rsl 3 0 0 v12.length), (4, .j v2), (7, .j v5)] ⟨(by decide), (by decide), g15, trivial⟩ ?_
    have ⟨g16, H⟩ := Ye H
    refine Y2r (enc := Y2) [(Z32 v13)] rfl rfl rfl (by decide) rfl rfl rfl (by simp) E27 (fun _ => rfl) (by decide) trivial (by kernel_rfl) (by kernel_rfl) (by kernel_rfl) rfl rfl rfl g16 (Y3 1 [3, 1, 4, 7] ((3, .rsl 3 1 0 ((v12 ++ [(Z32 v13)]).length)) :: (Z2y v2 v5)) (OpsW.rc ((3, .rsl 3 0 0 ((v12 ++ [(Z32 v13)]).length)) :: (Z2y v2 v5)) [(1, ⟨0, true, 24, 3, (Z3d v11)⟩), (3, rtA 0 38 2 Y2 (v12 ++ [(Z32 v13)]))] (StC.mk (phi [(1, some 1), (3, some 3)]) (.o rfl (.i3 .nil) (.o rfl (CstL.ims _) .nil)) rfl (.cons (.s rfl) (.cons (.r rfl) (.i2 .nil)))) (Y1 ?_)))
    exact ⟨(v11, v12 ++ [(Z32 v13)]), H, (StC.mk (phi [(1, some 1), (3, some 3)]) (.o rfl (.i3 .nil) (.o rfl (CstL.ims _) .nil)) rfl (.cons (.r rfl) (.cons (.s rfl) (.i2 .nil))))⟩
   refine Yd (Yb 5 [91, 89, 87, 1, 3, 4, 7] [(91, .int .u8 (v13.getD 1 0)), (89, .int .u8 (v13.getD 0 0)), (87, .rsl 3 0 0 v12.length), Z36, (3, .rsl 3 0 0 v12.length), (4, .j v2), (7, .j v5)] ⟨(by decide), (by decide), trivial⟩ ?_)
   have ⟨x17, hx17, H⟩ := Y0d H
   refine Y0f rfl (.cons (.pur rfl) (.cons (.pur rfl) .nil)) (f_R11_Entry_ok hx17) ?_
   have ⟨g18, H⟩ := Ye H
   refine Y46 (enc := Y2) (ys := x17) rfl rfl rfl E27 (fun _ => rfl) rfl rfl trivial (SrcA.typed (enc := Y2) (fun _ => rfl) (by kernel_rfl) x17) rfl g18 (Y3 1 [3, 1, 4, 7] ((3, .rsl 3 1 0 ((v12 ++ x17).length)) :: (Z2y v2 v5)) (OpsW.rc ((3, .rsl 3 0 0 ((v12 ++ x17).length)) :: (Z2y v2 v5)) [(1, ⟨0, true, 24, 3, (Z3d v11)⟩), (3, rtA 0 38 2 Y2 (v12 ++ x17))] (StC.mk (phi [(1, some 1), (3, some 3)]) (.o rfl (.i3 .nil) (.o rfl (CstL.ims _) .nil)) rfl (.cons (.s rfl) (.cons (.r rfl) (.i2 .nil)))) (Y1 ?_)))
   exact ⟨(v11, v12 ++ x17), H, (StC.mk (phi [(1, some 1), (3, some 3)]) (.o rfl (.i3 .nil) (.o rfl (CstL.ims _) .nil)) rfl (.cons (.r rfl) (.cons (.s rfl) (.i2 .nil))))⟩
  rintro ⟨v8, v9⟩ H
  unfold Y55 at H
  change AW _ _ _ [Z36, (3, .rsl 3 0 0 v9.length), (4, .j v2), (7, .j v5)] [(1, ⟨0, true, 24, 3, [.int .u8 v8.Kind, .int .u8 v8.N, slA eA43 v8.L]⟩), (3, rtA 0 38 2 Y2 v9)] _
  refine Yd ?_
  have ⟨g10, H⟩ := Ye H
  refine Yb 3 [7, 1, 3, 4] [(7, .j (v5 + 1)), Z36, (3, .rsl 3 0 0 v9.length), (4, .j v2)] ⟨g10, trivial⟩ (Y1 ?_)
  exact ⟨(v8, v9, v5 + 1), H, (StC.mk (phi [(1, some 1), (3, some 3)]) (.o rfl (.i3 .nil) (.o rfl (CstL.ims _) .nil)) rfl (.cons (.r rfl) (.cons (.s rfl) (.i2 .nil))))⟩
 refine AW.exit ?_
 refine Y0 (Y3 1 [94, 1, 3] [(94, .rsl 3 0 0 v4.length), Z36, (3, .rsl 3 0 0 v4.length)] ?_)
 have ⟨x21, hx21, H⟩ := Y0d H
 refine OpsW.bcall (r := .bool x21) [3] rfl (by kernel_rfl) rfl rfl (Yc trivial) (.cons (ArgS.root (enc := Y2) (l := v4) (fun _ => rfl) (by simp) rfl) .nil) (f_R09_Valid_ok hx21) rfl (Y3 1 [9, 1, 3] [(9, .bool x21), Z36, (3, .rsl 3 0 0 v4.length)] (OpsW.rc [(9, .bool x21), Z36, (3, slA Y2 v4)] [(1, ⟨0, true, 24, 3, (Z3a v3)⟩)] (StC.mk (phi [(1, some 1)]) (.o rfl (.i3 .nil) .nil) rfl (.cons .im (.cons (.r rfl) (.cons (.frz rfl rfl rfl (frz_all Y2 2 (fun _ => rfl) v4) (Y05 Y2 2 (fun _ => rfl) v4) (phi_ne rfl)) .nil)))) ?_))
 refine Y1 (Ys (Y0 (Y3 2 [97, 1, 3] [(97, .bool (!x21)), Z36, (3, slA Y2 v4)] ?_)))
 refine Y1 (Y6 (b := !x21) H rfl (fun c22 H => ?_) (fun c22 H => ?_))
 ·refine Y0 (Y3 2 [99] [(99, .int .u8 v3.N)] ?_)
  have ⟨x23, hx23, H⟩ := Y0d H
  refine Y0f rfl (.cons (.pur rfl) (.cons (.pur rfl) .nil)) (f_R11_Entry_ok hx23) (Y3 1 [2] [(2, slA Y2 x23)] (Y1 ?_))
  obtain rfl := X5 H
  refine AW.recast (env' := [(2, slA Y2 x23)]) (h' := []) (StC.pure (.cons .im .nil)) (Yk ?_)
  try simp only [Ex.t, Ex.b]
  exact Done.eq rfl (.tmp .nil)
 refine Ya (Y0 (Y3 2 [2] [(2, slA Y2 v4)] ?_))
 refine Y1 ?_
 obtain rfl := X5 H
 refine AW.recast (env' := [(2, slA Y2 v4)]) (h' := []) (StC.pure (.cons .im .nil)) (Yk ?_)
 try simp only [Ex.t, Ex.b]
 exact Done.eq rfl (.tmp .nil)
def Y4p  : Option (Int × Bool) :=
 some ((0 : Int), false)
def Y0x (t0 : Y4) (v5 : Bool) : Option (Int × Bool) :=
 cond v5 (
  some ((1 : Int), t0.N == 0)) (
  cond (t0.Op == 12) (
   cond (cond (decide (t0.N < 2)) true (decide (5 < t0.N))) (
    some ((0 : Int), false)) (
    G (inR (t0.N + 1)) <|
    some (t0.N + 1, true))) (
   cond (t0.Op == 13) (
    cond (decide (t0.N < 0)) (
     some ((0 : Int), false)) (
     G (inR (Int.tdiv t0.N (8 : Int))) <|
     G (inR ((Int.tdiv t0.N (8 : Int)) * (Int.tmod t0.N (8 : Int)))) <|
     some ((Int.tdiv t0.N (8 : Int)) * (Int.tmod t0.N (8 : Int)), cond (cond (cond (decide ((1 : Int) ≤ (Int.tdiv t0.N (8 : Int)))) (decide ((Int.tdiv t0.N (8 : Int)) ≤ 4)) false) (decide ((1 : Int) ≤ (Int.tmod t0.N (8 : Int)))) false) (decide ((Int.tmod t0.N (8 : Int)) ≤ 4)) false))) (
    Y4p)))
def Y04 (t0 : Y4) (v3 : Bool) : Option (Int × Bool) :=
 cond v3 (
  some ((2 : Int), t0.N == 0)) (
  cond (t0.Op == 9) (
   Y0x t0 (t0.Op == 9)) (
   cond (t0.Op == 10) (
    Y0x t0 (t0.Op == 10)) (
    Y0x t0 (t0.Op == 11))))
def Y10 (t0 : Y4) : Option (Int × Bool) :=
 cond (t0.Op == 0) (
  some ((0 : Int), cond (decide (0 ≤ t0.N)) (decide (t0.N ≤ 99999)) false)) (
  cond (t0.Op == 1) (
   some ((0 : Int), cond (decide (0 ≤ t0.N)) (decide (t0.N ≤ 25)) false)) (
   cond (t0.Op == 2) (
    Y04 t0 (t0.Op == 2)) (
    cond (t0.Op == 3) (
     Y04 t0 (t0.Op == 3)) (
     cond (t0.Op == 4) (
      Y04 t0 (t0.Op == 4)) (
      cond (t0.Op == 5) (
       Y04 t0 (t0.Op == 5)) (
       cond (t0.Op == 6) (
        Y04 t0 (t0.Op == 6)) (
        cond (t0.Op == 7) (
         Y04 t0 (t0.Op == 7)) (
         Y04 t0 (t0.Op == 8)))))))))
section
variable (t0 : Y4)
abbrev Z3i := (cond (cond (cond (decide ((1 : Int) ≤ (Int.tdiv t0.N (8 : Int)))) (decide ((Int.tdiv t0.N (8 : Int)) ≤ 4)) false) (decide ((1 : Int) ≤ (Int.tmod t0.N (8 : Int)))) false) (decide ((Int.tmod t0.N (8 : Int)) ≤ 4)) false)
abbrev Z3j := decide (0 ≤ t0.N)
abbrev Z3k : Nat × AV := (1, .ref 1 0 0)
abbrev Z3l : Nat × AV := (2, .j (0 : Int))
abbrev Z3m := cond (Z3j t0) (decide (t0.N ≤ 99999)) false
abbrev Z3n := cond (Z3j t0) (decide (t0.N ≤ 25)) false
abbrev Z3o := (Int.tmod t0.N (8 : Int))
abbrev Z3p := (Int.tdiv t0.N (8 : Int))
abbrev Z3q : Nat × AV := (3, .bool (t0.N == 0))
abbrev Z3g : Env := [(7, .j t0.Op), Z3k]
abbrev Z3h : Hp := [(1, ⟨0, true, 38, 2, [.j t0.Op, .j t0.N]⟩)]
end
theorem f_formula_arity_ok  {t0 : Y4} {r : Int × Bool} (H : Y10 t0 = some r) : QSpec Tryd.prog 77 [.agg [.int .i64 t0.Op, .int .i64 t0.N]] (.tup [.int .i64 r.1, .bool r.2]) := by
 refine Yh Tryd.func77 rfl (by simp [Tryd.ntmps77]) ?_
 rw [Tryd.ntmps77]
 unfold Y10 at H
 change AW _ _ _ [(0, .agg [.j t0.Op, .j t0.N])] [] _
 refine Y0 (OpsW.box rfl rfl rfl 1 rfl (Yx (by kernel_rfl)) ?_)
 change OpsW _ _ _ _ _ (Z3h t0) _
 refine Y3 2 [1] [Z3k] (Y1 ?_)
 refine Y0w (fun (y : Unit) => Y4p) r (fun (y : Unit) => []) (fun (y : Unit) => []) ?_ ?_
 ·refine Y0 (Y3 2 [7, 1] (Z3g t0) ?_)
  refine Y1 (Yp (Y0 (Y3 2 [8, 7, 1] ((8, .bool (t0.Op == 0)) :: (Z3g t0)) ?_)))
  refine Y1 (Y6 (b := t0.Op == 0) H rfl (fun c1 H => ?_) (fun c1 H => ?_))
  ·refine Y1j Tryd.checked.mixed (by kernel_rfl) ?_
   refine QOps.sz (N := 87) 10 ((3, .bool (Z3m t0)) :: Z3l :: (17, .bool (Z3m t0)) :: (16, .cnd (Z3j t0) (.bool (decide (t0.N ≤ 99999)))) :: (15, .cnd (Z3j t0) (.j t0.N)) :: (14, .cnd (Z3j t0) (.ref 1 0 1)) :: (13, .bool (Z3j t0)) :: (12, .bool (Z3j t0)) :: (11, .j t0.N) :: (10, .ref 1 0 1) :: (8, .bool (t0.Op == 0)) :: (Z3g t0)) ⟨(fun h => h), (fun h => h), (fun h => by first | exact h | (simpa using h) | grind), trivial⟩ ?_
   refine QOps.nil (AW.trim [3, 2] [(3, .bool (Z3m t0)), Z3l] (by kernel_rfl) ?_)
   obtain rfl := X5 H
   refine AW.recast (env' := [Z3l, (3, .bool (Z3m t0))]) (h' := []) (StC.pure (.i2 .nil)) (Yk ?_)
   try simp only [Ex.t, Ex.b]
   exact Done.eq rfl (.tmp (.tmp .nil))
  refine Y0 (Y3 2 [18, 7, 1] ((18, .bool (t0.Op == 1)) :: (Z3g t0)) ?_)
  refine Y1 (Y6 (b := t0.Op == 1) H rfl (fun c2 H => ?_) (fun c2 H => ?_))
  ·refine Y1j Tryd.checked.mixed (by kernel_rfl) ?_
   refine QOps.sz (N := 87) 10 ((3, .bool (Z3n t0)) :: Z3l :: (27, .bool (Z3n t0)) :: (26, .cnd (Z3j t0) (.bool (decide (t0.N ≤ 25)))) :: (25, .cnd (Z3j t0) (.j t0.N)) :: (24, .cnd (Z3j t0) (.ref 1 0 1)) :: (23, .bool (Z3j t0)) :: (22, .bool (Z3j t0)) :: (21, .j t0.N) :: (20, .ref 1 0 1) :: (18, .bool (t0.Op == 1)) :: (Z3g t0)) ⟨(fun h => h), (fun h => h), (fun h => by first | exact h | (simpa using h) | grind), trivial⟩ ?_
   refine QOps.nil (AW.trim [3, 2] [(3, .bool (Z3n t0)), Z3l] (by kernel_rfl) ?_)
   obtain rfl := X5 H
   refine AW.recast (env' := [Z3l, (3, .bool (Z3n t0))]) (h' := []) (StC.pure (.i2 .nil)) (Yk ?_)
   try simp only [Ex.t, Ex.b]
   exact Done.eq rfl (.tmp (.tmp .nil))
  refine Y0w (fun (y : Bool) => Y04 t0 y) r (fun (y : Bool) => [Z3k, (7, .j t0.Op), (28, .bool y)]) (fun (y : Bool) => (Z3h t0)) ?_ ?_
  ·refine Y0 (Y3 2 [28, 7, 1] ((28, .bool (t0.Op == 2)) :: (Z3g t0)) ?_)
   refine Y1 (Y6 (b := t0.Op == 2) H rfl (fun c16 H => ?_) (fun c16 H => ?_))
   ·refine Ya ?_
    exact ⟨t0.Op == 2, H, (StC.mk (phi [(1, some 1)]) (.o rfl (.i2 .nil) .nil) rfl (.cons (.r rfl) (.i2 .nil)))⟩
   refine Y0 (Y3 2 [28, 7, 1] ((28, .bool (t0.Op == 3)) :: (Z3g t0)) ?_)
   refine Y1 (Y6 (b := t0.Op == 3) H rfl (fun c17 H => ?_) (fun c17 H => ?_))
   ·refine Ya ?_
    exact ⟨t0.Op == 3, H, (StC.mk (phi [(1, some 1)]) (.o rfl (.i2 .nil) .nil) rfl (.cons (.r rfl) (.i2 .nil)))⟩
   refine Y0 (Y3 2 [28, 7, 1] ((28, .bool (t0.Op == 4)) :: (Z3g t0)) ?_)
   refine Y1 (Y6 (b := t0.Op == 4) H rfl (fun c18 H => ?_) (fun c18 H => ?_))
   ·refine Ya ?_
    exact ⟨t0.Op == 4, H, (StC.mk (phi [(1, some 1)]) (.o rfl (.i2 .nil) .nil) rfl (.cons (.r rfl) (.i2 .nil)))⟩
   refine Y0 (Y3 2 [28, 7, 1] ((28, .bool (t0.Op == 5)) :: (Z3g t0)) ?_)
   refine Y1 (Y6 (b := t0.Op == 5) H rfl (fun c19 H => ?_) (fun c19 H => ?_))
   ·refine Ya ?_
    exact ⟨t0.Op == 5, H, (StC.mk (phi [(1, some 1)]) (.o rfl (.i2 .nil) .nil) rfl (.cons (.r rfl) (.i2 .nil)))⟩
   refine Y0 (Y3 2 [28, 7, 1] ((28, .bool (t0.Op == 6)) :: (Z3g t0)) ?_)
   refine Y1 (Y6 (b := t0.Op == 6) H rfl (fun c20 H => ?_) (fun c20 H => ?_))
   ·refine Ya ?_
    exact ⟨t0.Op == 6, H, (StC.mk (phi [(1, some 1)]) (.o rfl (.i2 .nil) .nil) rfl (.cons (.r rfl) (.i2 .nil)))⟩
   refine Y0 (Y3 2 [28, 7, 1] ((28, .bool (t0.Op == 7)) :: (Z3g t0)) ?_)
   refine Y1 (Y6 (b := t0.Op == 7) H rfl (fun c21 H => ?_) (fun c21 H => ?_))
   ·refine Ya ?_
    exact ⟨t0.Op == 7, H, (StC.mk (phi [(1, some 1)]) (.o rfl (.i2 .nil) .nil) rfl (.cons (.r rfl) (.i2 .nil)))⟩
   refine Yd (Y3 2 [28, 7, 1] ((28, .bool (t0.Op == 8)) :: (Z3g t0)) ?_)
   refine Y1 ?_
   exact ⟨t0.Op == 8, H, (StC.mk (phi [(1, some 1)]) (.o rfl (.i2 .nil) .nil) rfl (.cons (.r rfl) (.i2 .nil)))⟩
  intro v3 H
  unfold Y04 at H
  change AW _ _ _ [Z3k, (7, .j t0.Op), (28, .bool v3)] (Z3h t0) _
  refine Y6 (b := v3) H rfl (fun c4 H => ?_) (fun c4 H => ?_)
  ·refine Y1j Tryd.checked.mixed (by kernel_rfl) ?_
   refine QOps.sz (N := 87) 5 [(Z3q t0), (2, .j (2 : Int)), (38, .bool (t0.N == 0)), (37, .j t0.N), (36, .ref 1 0 1), Z3k, (7, .j t0.Op), (28, .bool v3)] trivial ?_
   refine QOps.nil (AW.trim [3, 2] [(Z3q t0), (2, .j (2 : Int))] (by kernel_rfl) ?_)
   obtain rfl := X5 H
   refine AW.recast (env' := [(2, .j (2 : Int)), (Z3q t0)]) (h' := []) (StC.pure (.i2 .nil)) (Yk ?_)
   try simp only [Ex.t, Ex.b]
   exact Done.eq rfl (.tmp (.tmp .nil))
  refine Y0w (fun (y : Bool) => Y0x t0 y) r (fun (y : Bool) => [Z3k, (7, .j t0.Op), (39, .bool y)]) (fun (y : Bool) => (Z3h t0)) ?_ ?_
  ·refine Y0 (Y3 2 [39, 1, 7] [(39, .bool (t0.Op == 9)), Z3k, (7, .j t0.Op)] ?_)
   refine Y1 (Y6 (b := t0.Op == 9) H rfl (fun c14 H => ?_) (fun c14 H => ?_))
   ·refine Ya ?_
    exact ⟨t0.Op == 9, H, (StC.mk (phi [(1, some 1)]) (.o rfl (.i2 .nil) .nil) rfl (.cons (.r rfl) (.i2 .nil)))⟩
   refine Y0 (Y3 2 [39, 1, 7] [(39, .bool (t0.Op == 10)), Z3k, (7, .j t0.Op)] ?_)
   refine Y1 (Y6 (b := t0.Op == 10) H rfl (fun c15 H => ?_) (fun c15 H => ?_))
   ·refine Ya ?_
    exact ⟨t0.Op == 10, H, (StC.mk (phi [(1, some 1)]) (.o rfl (.i2 .nil) .nil) rfl (.cons (.r rfl) (.i2 .nil)))⟩
   refine Yd (Y3 2 [39, 1, 7] [(39, .bool (t0.Op == 11)), Z3k, (7, .j t0.Op)] ?_)
   refine Y1 ?_
   exact ⟨t0.Op == 11, H, (StC.mk (phi [(1, some 1)]) (.o rfl (.i2 .nil) .nil) rfl (.cons (.r rfl) (.i2 .nil)))⟩
  intro v5 H
  unfold Y0x at H
  change AW _ _ _ [Z3k, (7, .j t0.Op), (39, .bool v5)] (Z3h t0) _
  refine Y6 (b := v5) H rfl (fun c6 H => ?_) (fun c6 H => ?_)
  ·refine Y1j Tryd.checked.mixed (by kernel_rfl) ?_
   refine QOps.sz (N := 87) 5 [(Z3q t0), (2, .j (1 : Int)), (45, .bool (t0.N == 0)), (44, .j t0.N), (43, .ref 1 0 1), Z3k, (7, .j t0.Op), (39, .bool v5)] trivial ?_
   refine QOps.nil (AW.trim [3, 2] [(Z3q t0), (2, .j (1 : Int))] (by kernel_rfl) ?_)
   obtain rfl := X5 H
   refine AW.recast (env' := [(2, .j (1 : Int)), (Z3q t0)]) (h' := []) (StC.pure (.i2 .nil)) (Yk ?_)
   try simp only [Ex.t, Ex.b]
   exact Done.eq rfl (.tmp (.tmp .nil))
  refine Y0 (Y3 2 [46, 1, 7] [(46, .bool (t0.Op == 12)), Z3k, (7, .j t0.Op)] ?_)
  refine Y1 (Y6 (b := t0.Op == 12) H rfl (fun c7 H => ?_) (fun c7 H => ?_))
  ·refine Ys (Y0 (Yb 8 [55, 1] [(55, .bool (cond (decide (t0.N < 2)) true (decide (5 < t0.N)))), Z3k] ⟨(fun h => h), (fun h => h), (fun h => by first | exact h | (simpa using h) | grind), trivial⟩ ?_))
   refine Y1 (Y6 (b := cond (decide (t0.N < 2)) true (decide (5 < t0.N))) H rfl (fun c8 H => ?_) (fun c8 H => ?_))
   ·refine Y0 (Y3 2 [3, 2] [(3, .bool false), Z3l] ?_)
    refine Y1 ?_
    obtain rfl := X5 H
    refine AW.recast (env' := [Z3l, (3, .bool false)]) (h' := []) (StC.pure (.i2 .nil)) (Yk ?_)
    try simp only [Ex.t, Ex.b]
    exact Done.eq rfl (.tmp (.tmp .nil))
   refine Ya (Y0 ?_)
   have ⟨g9, H⟩ := Ye H
   refine Yb 5 [3, 2] [(3, .bool true), (2, .j (t0.N + 1))] ⟨g9, trivial⟩ (Y1 ?_)
   obtain rfl := X5 H
   refine AW.recast (env' := [(2, .j (t0.N + 1)), (3, .bool true)]) (h' := []) (StC.pure (.i2 .nil)) (Yk ?_)
   try simp only [Ex.t, Ex.b]
   exact Done.eq rfl (.tmp (.tmp .nil))
  refine Y0 (Y3 2 [59, 1] [(59, .bool (t0.Op == 13)), Z3k] ?_)
  refine Y1 (Y6 (b := t0.Op == 13) H rfl (fun c10 H => ?_) (fun c10 H => ?_))
  ·refine Ys (Y0 (Y3 3 [63, 1] [(63, .bool (decide (t0.N < 0))), Z3k] ?_))
   refine Y1 (Y6 (b := decide (t0.N < 0)) H rfl (fun c11 H => ?_) (fun c11 H => ?_))
   ·refine Y0 (Y3 2 [3, 2] [(3, .bool false), Z3l] ?_)
    refine Y1 ?_
    obtain rfl := X5 H
    refine AW.recast (env' := [Z3l, (3, .bool false)]) (h' := []) (StC.pure (.i2 .nil)) (Yk ?_)
    try simp only [Ex.t, Ex.b]
    exact Done.eq rfl (.tmp (.tmp .nil))
   refine Ya (Y1j Tryd.checked.mixed (by kernel_rfl) ?_)
   have ⟨g12, H⟩ := Ye H
   refine QOps.sz (N := 87) 8 [(5, .j (Z3o t0)), (4, .j (Z3p t0)), (69, .j (Z3o t0)), (68, .j t0.N), (67, .ref 1 0 1), (66, .j (Z3p t0)), (65, .j t0.N), (64, .ref 1 0 1), (63, .bool (decide (t0.N < 0))), Z3k] ⟨(by decide), g12, (by decide), trivial⟩ ?_
   refine QOps.nil (AW.trim [5, 4] [(5, .j (Z3o t0)), (4, .j (Z3p t0))] (by kernel_rfl) ?_)
   refine Y0 ?_
   have ⟨g13, H⟩ := Ye H
   refine Yb 19 [3, 2] [(3, .bool (Z3i t0)), (2, .j ((Z3p t0) * (Z3o t0)))] ⟨g13, (fun h => h), (fun h => by first | exact h | (simpa using h) | grind), (fun h => h), (fun h => by first | exact h | (simpa using h) | grind), (fun h => h), (fun h => by first | exact h | (simpa using h) | grind), trivial⟩ (Y1 ?_)
   obtain rfl := X5 H
   refine AW.recast (env' := [(2, .j ((Z3p t0) * (Z3o t0))), (3, .bool (Z3i t0))]) (h' := []) (StC.pure (.i2 .nil)) (Yk ?_)
   try simp only [Ex.t, Ex.b]
   exact Done.eq rfl (.tmp (.tmp .nil))
  refine Ya ?_
  exact ⟨(), H, (StC.pure .nil)⟩
 rintro ⟨⟩ H
 unfold Y4p at H
 change AW _ _ _ [] [] _
 refine Y0 (Y3 2 [3, 2] [(3, .bool false), Z3l] ?_)
 refine Y1 ?_
 obtain rfl := X5 H
 refine AW.recast (env' := [Z3l, (3, .bool false)]) (h' := []) (StC.pure (.i2 .nil)) (Yk ?_)
 try simp only [Ex.t, Ex.b]
 exact Done.eq rfl (.tmp (.tmp .nil))
def Y30  : Option Int :=
 some (4 : Int)
def Y23 (t0 : Int) (v2 : Bool) : Option Int :=
 cond v2 (
  some (2 : Int)) (
  cond (t0 == 4) (
   some (3 : Int)) (
   Y30))
def Y12 (t0 : Int) : Option Int :=
 cond (t0 == 5) (
  some (1 : Int)) (
  cond (t0 == 2) (
   Y23 t0 (t0 == 2)) (
   Y23 t0 (t0 == 3)))
theorem Y2z  {t0 : Int} {r : Int} (H : Y12 t0 = some r) : QSpec Tryd.prog 107 [.int .i64 t0] (.int .i64 r) := by
 refine Yh Tryd.func107 rfl (by simp [Tryd.ntmps107]) ?_
 rw [Tryd.ntmps107]
 unfold Y12 at H
 change AW _ _ _ [(0, .j t0)] [] _
 refine Y0 (Y3 1 [0] [(0, .j t0)] ?_)
 refine Y1 ?_
 refine Y0w (fun (y : Unit) => Y30) r (fun (y : Unit) => []) (fun (y : Unit) => []) ?_ ?_
 ·refine Y0 (Y3 1 [3] [(3, .j t0)] ?_)
  refine Y1 (Yp (Y0 (Y3 2 [4, 3] [(4, .bool (t0 == 5)), (3, .j t0)] ?_)))
  refine Y1 (Y6 (b := t0 == 5) H rfl (fun c1 H => ?_) (fun c1 H => ?_))
  ·refine Y0 (Y3 1 [2] [(2, .j (1 : Int))] ?_)
   refine Y1 ?_
   obtain rfl := X5 H
   refine AW.recast (env' := [(2, .j (1 : Int))]) (h' := []) (StC.pure (.cons .im .nil)) (Yk ?_)
   try simp only [Ex.t, Ex.b]
   exact Done.eq rfl (.tmp .nil)
  refine Y0w (fun (y : Bool) => Y23 t0 y) r (fun (y : Bool) => [(3, .j t0), (6, .bool y)]) (fun (y : Bool) => []) ?_ ?_
  ·refine Y0 (Y3 2 [6, 3] [(6, .bool (t0 == 2)), (3, .j t0)] ?_)
   refine Y1 (Y6 (b := t0 == 2) H rfl (fun c5 H => ?_) (fun c5 H => ?_))
   ·refine Ya ?_
    exact ⟨t0 == 2, H, (StC.pure (.i2 .nil))⟩
   refine Yd (Y3 2 [6, 3] [(6, .bool (t0 == 3)), (3, .j t0)] ?_)
   refine Y1 ?_
   exact ⟨t0 == 3, H, (StC.pure (.i2 .nil))⟩
  intro v2 H
  unfold Y23 at H
  change AW _ _ _ [(3, .j t0), (6, .bool v2)] [] _
  refine Y6 (b := v2) H rfl (fun c3 H => ?_) (fun c3 H => ?_)
  ·refine Y0 (Y3 1 [2] [(2, .j (2 : Int))] ?_)
   refine Y1 ?_
   obtain rfl := X5 H
   refine AW.recast (env' := [(2, .j (2 : Int))]) (h' := []) (StC.pure (.cons .im .nil)) (Yk ?_)
   try simp only [Ex.t, Ex.b]
   exact Done.eq rfl (.tmp .nil)
  refine Y0 (Y3 2 [9] [(9, .bool (t0 == 4))] ?_)
  refine Y1 (Y6 (b := t0 == 4) H rfl (fun c4 H => ?_) (fun c4 H => ?_))
  ·refine Y0 (Y3 1 [2] [(2, .j (3 : Int))] ?_)
   refine Y1 ?_
   obtain rfl := X5 H
   refine AW.recast (env' := [(2, .j (3 : Int))]) (h' := []) (StC.pure (.cons .im .nil)) (Yk ?_)
   try simp only [Ex.t, Ex.b]
   exact Done.eq rfl (.tmp .nil)
  refine Ya ?_
  exact ⟨(), H, (StC.pure .nil)⟩
 rintro ⟨⟩ H
 unfold Y30 at H
 change AW _ _ _ [] [] _
 refine Y0 (Y3 1 [2] [(2, .j (4 : Int))] ?_)
 refine Y1 ?_
 obtain rfl := X5 H
 refine AW.recast (env' := [(2, .j (4 : Int))]) (h' := []) (StC.pure (.cons .im .nil)) (Yk ?_)
 try simp only [Ex.t, Ex.b]
 exact Done.eq rfl (.tmp .nil)
def Y48  : Option Bool :=
 some true
def Y1r (t0 : Y4) (t1 : Int) (t2 : Y4) (v1 : Bool) : Option Bool :=
 cond v1 (
  cond (t1 == 0) (
   (Y12 t2.Op).bind fun x4 =>
   (Y12 t0.Op).bind fun x5 =>
   some (decide (x5 ≤ x4))) (
   (Y12 t2.Op).bind fun x6 =>
   (Y12 t0.Op).bind fun x7 =>
   some (decide (x7 < x6)))) (
  cond (t0.Op == 12) (
   some (t2.Op == 0)) (
   Y48))
def Y4g (t0 : Y4) (t1 : Int) (t2 : Y4) : Option Bool :=
 cond (t0.Op == 2) (
  Y1r t0 t1 t2 (t0.Op == 2)) (
  cond (t0.Op == 3) (
   Y1r t0 t1 t2 (t0.Op == 3)) (
   cond (t0.Op == 4) (
    Y1r t0 t1 t2 (t0.Op == 4)) (
    Y1r t0 t1 t2 (t0.Op == 5))))
section
variable (t0 : Y4) (t1 : Int) (t2 : Y4)
abbrev Z3r : Env := [(15, .bool (t1 == 0)), (3, .ref 3 0 0), (5, .ref 5 0 0)]
abbrev Z3s : Env := [(5, .ref 5 0 0), (3, .ref 3 0 0), (1, .j t1)]
abbrev Z3t : Hp := [(3, ⟨0, true, 38, 2, [.j t0.Op, .j t0.N]⟩), (5, ⟨0, true, 38, 2, [.j t2.Op, .j t2.N]⟩)]
end
theorem f_formula_admits_ok  {t0 : Y4} {t1 : Int} {t2 : Y4} {r : Bool} (H : Y4g t0 t1 t2 = some r) : QSpec Tryd.prog 98 [.agg [.int .i64 t0.Op, .int .i64 t0.N], .int .i64 t1, .agg [.int .i64 t2.Op, .int .i64 t2.N]] (.bool r) := by
 refine Yh Tryd.func98 rfl (by simp [Tryd.ntmps98]) ?_
 rw [Tryd.ntmps98]
 unfold Y4g at H
 change AW _ _ _ [(0, .agg [.j t0.Op, .j t0.N]), (1, .j t1), (2, .agg [.j t2.Op, .j t2.N])] [] _
 refine Y0 (OpsW.box rfl rfl rfl 3 rfl (Yx (by kernel_rfl)) ?_)
 change OpsW _ _ _ _ _ [(3, ⟨0, true, 38, 2, [.j t0.Op, .j t0.N]⟩)] _
 refine OpsW.box rfl rfl rfl 5 rfl (Yx (by kernel_rfl)) ?_
 change OpsW _ _ _ _ _ [(5, ⟨0, true, 38, 2, [.j t2.Op, .j t2.N]⟩), (3, ⟨0, true, 38, 2, [.j t0.Op, .j t0.N]⟩)] _
 refine Y3 1 [5, 3, 1] (Z3s t1) (OpsW.rc (Z3s t1) (Z3t t0 t2) (StC.mk (phi [(3, some 3), (5, some 5)]) (.o rfl (.i2 .nil) (.o rfl (.i2 .nil) .nil)) rfl (.cons (.r rfl) (.cons (.r rfl) (.cons .im .nil)))) (Y1 ?_))
 refine Y0w (fun (y : Unit) => Y48) r (fun (y : Unit) => []) (fun (y : Unit) => []) ?_ ?_
 ·refine Y0 (Y3 2 [8, 5, 3, 1] ((8, .j t0.Op) :: (Z3s t1)) ?_)
  refine Y1 (Yp ?_)
  refine Y0w (fun (y : Bool) => Y1r t0 t1 t2 y) r (fun (y : Bool) => [(1, .j t1), (3, .ref 3 0 0), (5, .ref 5 0 0), (8, .j t0.Op), (9, .bool y)]) (fun (y : Bool) => (Z3t t0 t2)) ?_ ?_
  ·refine Y0 (Y3 2 [9, 8, 5, 3, 1] ((9, .bool (t0.Op == 2)) :: (8, .j t0.Op) :: (Z3s t1)) ?_)
   refine Y1 (Y6 (b := t0.Op == 2) H rfl (fun c9 H => ?_) (fun c9 H => ?_))
   ·refine Ya ?_
    exact ⟨t0.Op == 2, H, (StC.mk (phi [(3, some 3), (5, some 5)]) (.o rfl (.i2 .nil) (.o rfl (.i2 .nil) .nil)) rfl (.cons .im (.cons (.r rfl) (.cons (.r rfl) (.i2 .nil)))))⟩
   refine Y0 (Y3 2 [9, 8, 5, 3, 1] ((9, .bool (t0.Op == 3)) :: (8, .j t0.Op) :: (Z3s t1)) ?_)
   refine Y1 (Y6 (b := t0.Op == 3) H rfl (fun c10 H => ?_) (fun c10 H => ?_))
   ·refine Ya ?_
    exact ⟨t0.Op == 3, H, (StC.mk (phi [(3, some 3), (5, some 5)]) (.o rfl (.i2 .nil) (.o rfl (.i2 .nil) .nil)) rfl (.cons .im (.cons (.r rfl) (.cons (.r rfl) (.i2 .nil)))))⟩
   refine Y0 (Y3 2 [9, 8, 5, 3, 1] ((9, .bool (t0.Op == 4)) :: (8, .j t0.Op) :: (Z3s t1)) ?_)
   refine Y1 (Y6 (b := t0.Op == 4) H rfl (fun c11 H => ?_) (fun c11 H => ?_))
   ·refine Ya ?_
    exact ⟨t0.Op == 4, H, (StC.mk (phi [(3, some 3), (5, some 5)]) (.o rfl (.i2 .nil) (.o rfl (.i2 .nil) .nil)) rfl (.cons .im (.cons (.r rfl) (.cons (.r rfl) (.i2 .nil)))))⟩
   refine Yd (Y3 2 [9, 8, 5, 3, 1] ((9, .bool (t0.Op == 5)) :: (8, .j t0.Op) :: (Z3s t1)) ?_)
   refine Y1 ?_
   exact ⟨t0.Op == 5, H, (StC.mk (phi [(3, some 3), (5, some 5)]) (.o rfl (.i2 .nil) (.o rfl (.i2 .nil) .nil)) rfl (.cons .im (.cons (.r rfl) (.cons (.r rfl) (.i2 .nil)))))⟩
  intro v1 H
  unfold Y1r at H
  change AW _ _ _ [(1, .j t1), (3, .ref 3 0 0), (5, .ref 5 0 0), (8, .j t0.Op), (9, .bool v1)] (Z3t t0 t2) _
  refine Y6 (b := v1) H rfl (fun c2 H => ?_) (fun c2 H => ?_)
  ·refine Ys (Y0 (Y3 2 [15, 3, 5] (Z3r t1) ?_))
   refine Y1 (Y6 (b := t1 == 0) H rfl (fun c3 H => ?_) (fun c3 H => ?_))
   ·refine Y1j Tryd.checked.mixed (by kernel_rfl) ?_
    refine QOps.sz (N := 35) 2 ((17, .j t2.Op) :: (16, .ref 5 0 0) :: (Z3r t1)) trivial ?_
    have ⟨x4, hx4, H⟩ := Y0d H
    refine QOps.qcall rfl (by kernel_rfl) rfl (Yc trivial) (.cons (.pur rfl) .nil) (Y2z hx4) rfl (QOps.sz (N := 35) 2 ((20, .j t0.Op) :: (19, .ref 3 0 0) :: (18, .j x4) :: (17, .j t2.Op) :: (16, .ref 5 0 0) :: (Z3r t1)) trivial ?_)
    have ⟨x5, hx5, H⟩ := Y0d H
    refine QOps.qcall rfl (by kernel_rfl) rfl (Yc trivial) (.cons (.pur rfl) .nil) (Y2z hx5) rfl (QOps.sz (N := 35) 2 ((6, .bool (decide (x5 ≤ x4))) :: (22, .bool (decide (x5 ≤ x4))) :: (21, .j x5) :: (20, .j t0.Op) :: (19, .ref 3 0 0) :: (18, .j x4) :: (17, .j t2.Op) :: (16, .ref 5 0 0) :: (Z3r t1)) trivial ?_)
    refine QOps.nil (AW.trim [6] [(6, .bool (decide (x5 ≤ x4)))] (by kernel_rfl) ?_)
    obtain rfl := X5 H
    refine AW.recast (env' := [(6, .bool (decide (x5 ≤ x4)))]) (h' := []) (StC.pure (.cons .im .nil)) (Yk ?_)
    try simp only [Ex.t, Ex.b]
    exact Done.eq rfl (.tmp .nil)
   refine Ya (Y1j Tryd.checked.mixed (by kernel_rfl) ?_)
   refine QOps.sz (N := 35) 2 ((24, .j t2.Op) :: (23, .ref 5 0 0) :: (Z3r t1)) trivial ?_
   have ⟨x6, hx6, H⟩ := Y0d H
   refine QOps.qcall rfl (by kernel_rfl) rfl (Yc trivial) (.cons (.pur rfl) .nil) (Y2z hx6) rfl (QOps.sz (N := 35) 2 ((27, .j t0.Op) :: (26, .ref 3 0 0) :: (25, .j x6) :: (24, .j t2.Op) :: (23, .ref 5 0 0) :: (Z3r t1)) trivial ?_)
   have ⟨x7, hx7, H⟩ := Y0d H
   refine QOps.qcall rfl (by kernel_rfl) rfl (Yc trivial) (.cons (.pur rfl) .nil) (Y2z hx7) rfl (QOps.sz (N := 35) 2 ((6, .bool (decide (x7 < x6))) :: (29, .bool (decide (x7 < x6))) :: (28, .j x7) :: (27, .j t0.Op) :: (26, .ref 3 0 0) :: (25, .j x6) :: (24, .j t2.Op) :: (23, .ref 5 0 0) :: (Z3r t1)) trivial ?_)
   refine QOps.nil (AW.trim [6] [(6, .bool (decide (x7 < x6)))] (by kernel_rfl) ?_)
   obtain rfl := X5 H
   refine AW.recast (env' := [(6, .bool (decide (x7 < x6)))]) (h' := []) (StC.pure (.cons .im .nil)) (Yk ?_)
   try simp only [Ex.t, Ex.b]
   exact Done.eq rfl (.tmp .nil)
  refine Y0 (Y3 2 [30, 5] [(30, .bool (t0.Op == 12)), (5, .ref 5 0 0)] ?_)
  refine Y1 (Y6 (b := t0.Op == 12) H rfl (fun c8 H => ?_) (fun c8 H => ?_))
  ·refine Y0 (Y3 4 [6] [(6, .bool (t2.Op == 0))] ?_)
   refine Y1 ?_
   obtain rfl := X5 H
   refine AW.recast (env' := [(6, .bool (t2.Op == 0))]) (h' := []) (StC.pure (.cons .im .nil)) (Yk ?_)
   try simp only [Ex.t, Ex.b]
   exact Done.eq rfl (.tmp .nil)
  refine Ya ?_
  exact ⟨(), H, (StC.pure .nil)⟩
 rintro ⟨⟩ H
 unfold Y48 at H
 change AW _ _ _ [] [] _
 refine Y0 (Y3 1 [6] [(6, .bool true)] ?_)
 refine Y1 ?_
 obtain rfl := X5 H
 refine AW.recast (env' := [(6, .bool true)]) (h' := []) (StC.pure (.cons .im .nil)) (Yk ?_)
 try simp only [Ex.t, Ex.b]
 exact Done.eq rfl (.tmp .nil)
def Yt (rec_f_formula_measure : (List Y4) → Int → Option (Int × Int × Bool)) (t0 : List Y4) (t1 : Int) (x3 : Int × Bool) (loop9 : (Int × Int × Int) → Option (Int × Int × Bool)) (v6 : Int) (v7 : Int) (v8 : Int) : Option (Int × Int × Bool) :=
 cond (decide (v8 < x3.1)) (
  G ((!(decide ((t0.length : Int) ≤ v6))) = true → (0 ≤ v6 ∧ v6 < (t0.length : Int))) <|
  (cond (!(decide ((t0.length : Int) ≤ v6))) (Y4g (t0.getD t1.toNat Y7) v8 (t0.getD v6.toNat Y7)) (some false)).bind fun x12 =>
  cond (cond (decide ((t0.length : Int) ≤ v6)) true (!x12)) (
   some ((0 : Int), (0 : Int), false)) (
   (rec_f_formula_measure t0 v6).bind fun x14 =>
   cond (!x14.2.2) (
    some ((0 : Int), (0 : Int), false)) (
    G (inR (x14.2.1 + 1)) <|
    G (inR (v8 + 1)) <|
    loop9 (x14.1, (if (x14.2.1 + 1) > v7 then (x14.2.1 + 1) else v7), v8 + 1)))) (
  some (v6, v7, true))
def Y1m (rec_f_formula_measure : (List Y4) → Int → Option (Int × Int × Bool)) (t0 : List Y4) (t1 : Int) : Option (Int × Int × Bool) :=
 cond (decide ((t0.length : Int) ≤ t1)) (
  some ((0 : Int), (0 : Int), false)) (
  G (0 ≤ t1 ∧ t1 < (t0.length : Int)) <|
  (Y10 (t0.getD t1.toNat Y7)).bind fun x3 =>
  cond (!x3.2) (
   some ((0 : Int), (0 : Int), false)) (
   G (inR (t1 + 1)) <|
   iter (fun loop (s : Int × Int × Int) => Yt rec_f_formula_measure t0 t1 x3 loop s.1 s.2.1 s.2.2) 1000000 (t1 + 1, (1 : Int), (0 : Int))))
section
variable (t0 : List Y4) (t1 : Int) (v6 : Int) (v7 : Int) (v8 : Int) (x3 : Int × Bool)
abbrev Z41 := (decide ((t0.length : Int) ≤ v6))
abbrev Z42 : List AV := [.j ((t0.getD t1.toNat Y7).Op), .j ((t0.getD t1.toNat Y7).N)]
abbrev Z43 := t0.getD v6.toNat Y7
abbrev Z3u : Env := [(42, .cnd (!(Z41 t0 v6)) (.ipt (t0.flatMap Y2) (t1.toNat * 2))), (41, .cnd (!(Z41 t0 v6)) (.j t1)), (40, .cnd (!(Z41 t0 v6)) (slA Y2 t0)), (39, .bool (Z41 t0 v6)), (38, .bool (Z41 t0 v6)), (37, .j (t0.length : Int)), (36, slA Y2 t0), (35, .j v6), (11, .j v8), (0, slA Y2 t0), (1, .j t1), (9, .j v6), (10, .j v7), (31, .j x3.1), (32, .j v8)]
abbrev Z3v : Env := (47, .cnd (!(Z41 t0 v6)) (.ipt (t0.flatMap Y2) (v6.toNat * 2))) :: (46, .cnd (!(Z41 t0 v6)) (.j v6)) :: (45, .cnd (!(Z41 t0 v6)) (slA Y2 t0)) :: (44, .cnd (!(Z41 t0 v6)) (.j v8)) :: (43, .cnd (!(Z41 t0 v6)) (.agg (Z42 t0 t1))) :: (Z3u t0 t1 v6 v7 v8 x3)
abbrev Z3w : Env := [(0, slA Y2 t0), (1, .j t1), (9, .j v6), (10, .j v7), (31, .j x3.1), (32, .j v8)]
abbrev Z3x : Env := [(6, .bool false), (5, .j (0 : Int)), (4, .j (0 : Int))]
abbrev Z3y : Env := [(4, .j (0 : Int)), (5, .j (0 : Int)), (6, .bool false)]
abbrev Z3z : Env := [(0, slA Y2 t0), (1, .j t1)]
abbrev Z40 : Env := [(0, slA Y2 t0), (1, .j t1), (10, .j v7), (31, .j x3.1), (32, .j v8)]
end
theorem f_formula_measure_body_ok {rec_f_formula_measure : (List Y4) → Int → Option (Int × Int × Bool)} (hrec_f_formula_measure : ∀ (t0 : List Y4) (t1 : Int) (r : Int × Int × Bool), rec_f_formula_measure t0 t1 = some r → QSpec Tryd.prog 70 [slA Y2 t0, .int .i64 t1] (.tup [.int .i64 r.1, .int .i64 r.2.1, .bool r.2.2])) {t0 : List Y4} {t1 : Int} {r : Int × Int × Bool} (H : Y1m rec_f_formula_measure t0 t1 = some r) : QSpec Tryd.prog 70 [slA Y2 t0, .int .i64 t1] (.tup [.int .i64 r.1, .int .i64 r.2.1, .bool r.2.2]) := by
 refine Yh Tryd.func70 rfl (by simp [Tryd.ntmps70]) ?_
 rw [Tryd.ntmps70]
 unfold Y1m at H
 change AW _ _ _ (Z3z t0 t1) [] _
 refine Y0 (Y3 3 [0, 1] (Z3z t0 t1) ?_)
 refine Y1 (Ys (Y0 (Y3 4 [18, 0, 1] ((18, .bool (decide ((t0.length : Int) ≤ t1))) :: (Z3z t0 t1)) ?_)))
 refine Y1 (Y6 (b := decide ((t0.length : Int) ≤ t1)) H rfl (fun c1 H => ?_) (fun c1 H => ?_))
 ·refine Y0 (Y3 3 [6, 5, 4] Z3x ?_)
  refine Y1 ?_
  obtain rfl := X5 H
  refine AW.recast (env' := Z3y) (h' := []) (StC.pure (.i3 .nil)) (Yk ?_)
  try simp only [Ex.t, Ex.b]
  exact Done.eq rfl (.tmp (.tmp (.tmp .nil)))
 refine Ya (Y0 ?_)
 have ⟨g2, H⟩ := Ye H
 refine Yb 3 [22, 0, 1] ((22, .ipt (t0.flatMap Y2) (t1.toNat * 2)) :: (Z3z t0 t1)) ⟨g2, trivial⟩ (OpsW.asU (.agg (Z42 t0 t1)) rfl rfl (Y44 (cs := t0.flatMap Y2) (off := t1.toNat * 2) (ds := Y2 (t0.getD t1.toNat Y7)) rfl trivial (by kernel_rfl) (by have := Y05 Y2 2 (fun _ => rfl) t0; have := (ltN g2); omega) (fm_elem Y2 2 (fun _ => rfl) t0 Y7 t1.toNat (ltN g2))) ?_)
 have ⟨x3, hx3, H⟩ := Y0d H
 refine Y0f rfl (.cons (.pur rfl) .nil) (f_formula_arity_ok hx3) (Y3 5 [8, 7, 0, 1] ((8, .bool x3.2) :: (7, .j x3.1) :: (Z3z t0 t1)) ?_)
 refine Y1 (Ys (Y0 (Y3 2 [28, 7, 0, 1] ((28, .bool (!x3.2)) :: (7, .j x3.1) :: (Z3z t0 t1)) ?_)))
 refine Y1 (Y6 (b := !x3.2) H rfl (fun c4 H => ?_) (fun c4 H => ?_))
 ·refine Y0 (Y3 3 [6, 5, 4] Z3x ?_)
  refine Y1 ?_
  obtain rfl := X5 H
  refine AW.recast (env' := Z3y) (h' := []) (StC.pure (.i3 .nil)) (Yk ?_)
  try simp only [Ex.t, Ex.b]
  exact Done.eq rfl (.tmp (.tmp (.tmp .nil)))
 refine Ya (Y0 ?_)
 have ⟨g5, H⟩ := Ye H
 refine Yb 4 [10, 9, 7, 0, 1] ((10, .j (1 : Int)) :: (9, .j (t1 + 1)) :: (7, .j x3.1) :: (Z3z t0 t1)) ⟨g5, trivial⟩ ?_
 refine Y1 (Ys (Y0 (Y3 2 [32, 31, 10, 9, 0, 1] ((32, .j (0 : Int)) :: (31, .j x3.1) :: (10, .j (1 : Int)) :: (9, .j (t1 + 1)) :: (Z3z t0 t1)) ?_)))
 refine Y1 (Yp ?_)
 refine Y25 (fun loop (s : Int × Int × Int) => Yt rec_f_formula_measure t0 t1 x3 loop s.1 s.2.1 s.2.2) r (fun (s : Int × Int × Int) => [(0, slA Y2 t0), (1, .j t1), (9, .j s.1), (10, .j s.2.1), (31, .j x3.1), (32, .j s.2.2)]) (fun (s : Int × Int × Int) => []) ?_ 1000000 (t1 + 1, (1 : Int), (0 : Int)) H (StC.pure (.i6 .nil))
 intro loop9 s H
 obtain ⟨v6, v7, v8⟩ := s
 unfold Yt at H
 change AW _ _ _ (Z3w t0 t1 v6 v7 v8 x3) [] _
 refine Y0 (Y3 1 [33, 0, 1, 9, 10, 31, 32] ((33, .bool (decide (v8 < x3.1))) :: (Z3w t0 t1 v6 v7 v8 x3)) ?_)
 refine Y1 (Ys (Y6 (b := decide (v8 < x3.1)) H rfl (fun c10 H => ?_) (fun c10 H => ?_)))
 ·refine Ya (Ys (Yp (Y0 (Y3 2 [11, 0, 1, 9, 10, 31, 32] ((11, .j v8) :: (Z3w t0 t1 v6 v7 v8 x3)) ?_))))
  refine Y1 (Ys (Y1j Tryd.checked.mixed (by kernel_rfl) ?_))
  refine QOps.sz (N := 69) 8 (Z3u t0 t1 v6 v7 v8 x3) ⟨(fun h => h), (fun h => h), (fun _ => g2), trivial⟩ (QOps.asG (c := !(Z41 t0 v6)) (.agg (Z42 t0 t1)) rfl rfl rfl (fun hc => Y44 (cs := t0.flatMap Y2) (off := t1.toNat * 2) (ds := Y2 (t0.getD t1.toNat Y7)) rfl hc (by kernel_rfl) (by have := Y05 Y2 2 (fun _ => rfl) t0; have := (ltN g2); first | omega | (simp only [Z41] at *; omega)) (fm_elem Y2 2 (fun _ => rfl) t0 Y7 t1.toNat (ltN g2))) ?_)
  have ⟨g11, H⟩ := Ye H
  refine QOps.sz (N := 69) 4 (Z3v t0 t1 v6 v7 v8 x3) ⟨(fun h => h), (fun h => h), g11, trivial⟩ (QOps.asG (c := !(Z41 t0 v6)) (.agg [.j ((Z43 t0 v6).Op), .j ((Z43 t0 v6).N)]) rfl rfl rfl (fun hc => Y44 (cs := t0.flatMap Y2) (off := v6.toNat * 2) (ds := Y2 (Z43 t0 v6)) rfl hc (by kernel_rfl) (by have := Y05 Y2 2 (fun _ => rfl) t0; have := (ltN (g11 hc)); first | omega | (simp only [Z41, Z43] at *; omega)) (fm_elem Y2 2 (fun _ => rfl) t0 Y7 v6.toNat (ltN (g11 hc)))) ?_)
  have ⟨x12, hx12, H⟩ := Y0d H
  refine QOps.gcall (c := !(Z41 t0 v6)) (r := .bool x12) [] rfl (by kernel_rfl) rfl rfl rfl (fun hc => ⟨Yc ⟨hc, hc, hc, trivial⟩, (.cons (.pur rfl) (.cons (.pur rfl) (.cons (.pur rfl) .nil))), f_formula_admits_ok (condT hc hx12), .inl ⟨rfl, rfl⟩⟩) (QOps.sz (N := 69) 2 ((51, .bool (cond (Z41 t0 v6) true (!x12))) :: (50, .cnd (!(Z41 t0 v6)) (.bool (!x12))) :: (49, .cnd (!(Z41 t0 v6)) (.bool x12)) :: (48, .cnd (!(Z41 t0 v6)) (.agg [.j ((Z43 t0 v6).Op), .j ((Z43 t0 v6).N)])) :: (Z3v t0 t1 v6 v7 v8 x3)) ⟨(fun h => h), (fun h => by first | exact h | (simpa using h) | grind), trivial⟩ ?_)
  refine QOps.nil (AW.trim [51, 0, 1, 9, 10, 31, 32] ((51, .bool (cond (Z41 t0 v6) true (!x12))) :: (Z3w t0 t1 v6 v7 v8 x3)) (by kernel_rfl) ?_)
  refine Y6 (b := cond (Z41 t0 v6) true (!x12)) H rfl (fun c13 H => ?_) (fun c13 H => ?_)
  ·refine Y0 (Y3 3 [6, 5, 4] Z3x ?_)
   refine Y1 ?_
   obtain rfl := X5 H
   refine AW.recast (env' := Z3y) (h' := []) (StC.pure (.i3 .nil)) (Yk ?_)
   try simp only [Ex.t, Ex.b]
   exact Done.eq rfl (.tmp (.tmp (.tmp .nil)))
  refine Ya (Y0 (Y3 2 [54, 53, 0, 1, 10, 31, 32] ((54, .j v6) :: (53, slA Y2 t0) :: (Z40 t0 t1 v7 v8 x3)) ?_))
  have ⟨x14, hx14, H⟩ := Y0d H
  refine Y0f rfl (.cons (.pur rfl) (.cons (.pur rfl) .nil)) (hrec_f_formula_measure _ _ _ hx14) (Y3 7 [14, 13, 12, 0, 1, 10, 31, 32] ((14, .bool x14.2.2) :: (13, .j x14.2.1) :: (12, .j x14.1) :: (Z40 t0 t1 v7 v8 x3)) ?_)
  refine Y1 (Ys (Y0 (Y3 2 [60, 13, 12, 0, 1, 10, 31, 32] ((60, .bool (!x14.2.2)) :: (13, .j x14.2.1) :: (12, .j x14.1) :: (Z40 t0 t1 v7 v8 x3)) ?_)))
  refine Y1 (Y6 (b := !x14.2.2) H rfl (fun c15 H => ?_) (fun c15 H => ?_))
  ·refine Y0 (Y3 3 [6, 5, 4] Z3x ?_)
   refine Y1 ?_
   obtain rfl := X5 H
   refine AW.recast (env' := Z3y) (h' := []) (StC.pure (.i3 .nil)) (Yk ?_)
   try simp only [Ex.t, Ex.b]
   exact Done.eq rfl (.tmp (.tmp (.tmp .nil)))
  refine Ya (Yd ?_)
  have ⟨g16, H⟩ := Ye H
  refine Yb 7 [10, 9, 0, 1, 31, 32] [(10, .j (if (x14.2.1 + 1) > v7 then (x14.2.1 + 1) else v7)), (9, .j x14.1), (0, slA Y2 t0), (1, .j t1), (31, .j x3.1), (32, .j v8)] ⟨g16, trivial⟩ ?_
  refine Y1 (Yd ?_)
  have ⟨g17, H⟩ := Ye H
  refine Yb 2 [32, 10, 9, 0, 1, 31] [(32, .j (v8 + 1)), (10, .j (if (x14.2.1 + 1) > v7 then (x14.2.1 + 1) else v7)), (9, .j x14.1), (0, slA Y2 t0), (1, .j t1), (31, .j x3.1)] ⟨g17, trivial⟩ (Y1 ?_)
  exact ⟨(x14.1, (if (x14.2.1 + 1) > v7 then (x14.2.1 + 1) else v7), v8 + 1), H, (StC.pure (.i6 .nil))⟩
 refine AW.exit ?_
 refine Y0 (Y3 5 [6, 5, 4] [(6, .bool true), (5, .j v7), (4, .j v6)] ?_)
 refine Y1 ?_
 obtain rfl := X5 H
 refine AW.recast (env' := [(4, .j v6), (5, .j v7), (6, .bool true)]) (h' := []) (StC.pure (.i3 .nil)) (Yk ?_)
 try simp only [Ex.t, Ex.b]
 exact Done.eq rfl (.tmp (.tmp (.tmp .nil)))
def Yj : Nat → (List Y4) → Int → Option (Int × Int × Bool)
 | 0, _, _ => none
 | n + 1, t0, t1 => Y1m (Yj n) t0 t1
theorem f_formula_measure_all : ∀ n : Nat, (∀ (t0 : List Y4) (t1 : Int) (r : Int × Int × Bool), Yj n t0 t1 = some r → QSpec Tryd.prog 70 [slA Y2 t0, .int .i64 t1] (.tup [.int .i64 r.1, .int .i64 r.2.1, .bool r.2.2])) ∧ True
 | 0 => by
  refine ⟨?_, trivial⟩
  ·intro t0 t1 r H; rw [Yj] at H; cases H
 | n + 1 => by
  have ih := f_formula_measure_all n
  refine ⟨?_, trivial⟩
  ·intro t0 t1 r H; rw [Yj] at H; exact f_formula_measure_body_ok ih.1 H
def Y1s (t0 : List Y4) (t1 : Int) : Option (Int × Int × Bool) := Yj 1000000 t0 t1
theorem Y5a {t0 : List Y4} {t1 : Int} {r : Int × Int × Bool} (H : Y1s t0 t1 = some r) : QSpec Tryd.prog 70 [slA Y2 t0, .int .i64 t1] (.tup [.int .i64 r.1, .int .i64 r.2.1, .bool r.2.2]) :=
 (f_formula_measure_all 1000000).1 t0 t1 r H
def Y4u (t0 : List Y4) : Option Int :=
 cond (decide ((60 : Int) < (t0.length : Int))) (
  some (0 : Int)) (
  (Y1s t0 (0 : Int)).bind fun x2 =>
  cond (cond (cond (!x2.2.2) true (x2.1 != (t0.length : Int))) true (decide (8 < x2.2.1))) (
   some (0 : Int)) (
   some x2.2.1))
theorem f_formula_Depth_ok  {t0 : List Y4} {r : Int} (H : Y4u t0 = some r) : QSpec Tryd.prog 35 [slA Y2 t0] (.int .i64 r) := by
 refine Yh Tryd.func35 rfl (by simp [Tryd.ntmps35]) ?_
 rw [Tryd.ntmps35]
 unfold Y4u at H
 change AW _ _ _ [(0, slA Y2 t0)] [] _
 refine Y0 (Y3 1 [0] [(0, slA Y2 t0)] ?_)
 refine Y1 (Ys (Y0 (Y3 3 [8, 0] [(8, .bool (decide ((60 : Int) < (t0.length : Int)))), (0, slA Y2 t0)] ?_)))
 refine Y1 (Y6 (b := decide ((60 : Int) < (t0.length : Int))) H rfl (fun c1 H => ?_) (fun c1 H => ?_))
 ·refine Y0 (Y3 1 [2] [(2, .j (0 : Int))] ?_)
  refine Y1 ?_
  obtain rfl := X5 H
  refine AW.recast (env' := [(2, .j (0 : Int))]) (h' := []) (StC.pure (.cons .im .nil)) (Yk ?_)
  try simp only [Ex.t, Ex.b]
  exact Done.eq rfl (.tmp .nil)
 refine Ya (Y0 (Y3 1 [10, 0] [(10, slA Y2 t0), (0, slA Y2 t0)] ?_))
 have ⟨x2, hx2, H⟩ := Y0d H
 refine Y0f rfl (.cons (.pur rfl) (.cons (.pur rfl) .nil)) (Y5a hx2) (Y3 7 [5, 4, 3, 0] [(5, .bool x2.2.2), (4, .j x2.2.1), (3, .j x2.1), (0, slA Y2 t0)] ?_)
 refine Y1 (Ys (Y0 (Yb 12 [26, 4] [(26, .bool (cond (cond (!x2.2.2) true (x2.1 != (t0.length : Int))) true (decide (8 < x2.2.1)))), (4, .j x2.2.1)] ⟨(fun h => h), (fun h => h), (fun h => h), (fun h => by first | exact h | (simpa using h) | grind), (fun h => h), (fun h => by first | exact h | (simpa using h) | grind), trivial⟩ ?_)))
 refine Y1 (Y6 (b := cond (cond (!x2.2.2) true (x2.1 != (t0.length : Int))) true (decide (8 < x2.2.1))) H rfl (fun c3 H => ?_) (fun c3 H => ?_))
 ·refine Y0 (Y3 1 [2] [(2, .j (0 : Int))] ?_)
  refine Y1 ?_
  obtain rfl := X5 H
  refine AW.recast (env' := [(2, .j (0 : Int))]) (h' := []) (StC.pure (.cons .im .nil)) (Yk ?_)
  try simp only [Ex.t, Ex.b]
  exact Done.eq rfl (.tmp .nil)
 refine Ya (Y0 (Y3 2 [2] [(2, .j x2.2.1)] ?_))
 refine Y1 ?_
 obtain rfl := X5 H
 refine AW.recast (env' := [(2, .j x2.2.1)]) (h' := []) (StC.pure (.cons .im .nil)) (Yk ?_)
 try simp only [Ex.t, Ex.b]
 exact Done.eq rfl (.tmp .nil)
def Y0t (t0 : List Y4) : Option Bool :=
 (Y4u t0).bind fun x1 =>
 some (decide (0 < x1))
theorem Y4q  {t0 : List Y4} {r : Bool} (H : Y0t t0 = some r) : QSpec Tryd.prog 23 [slA Y2 t0] (.bool r) := by
 refine Yh Tryd.func23 rfl (by simp [Tryd.ntmps23]) ?_
 rw [Tryd.ntmps23]
 unfold Y0t at H
 change AW _ _ _ [(0, slA Y2 t0)] [] _
 refine Y0 (Y3 1 [0] [(0, slA Y2 t0)] ?_)
 refine Y1 (Y0 (Y3 1 [3] [(3, slA Y2 t0)] ?_))
 have ⟨x1, hx1, H⟩ := Y0d H
 refine Y0f rfl (.cons (.pur rfl) .nil) (f_formula_Depth_ok hx1) (Y3 2 [2] [(2, .bool (decide (0 < x1)))] (Y1 ?_))
 obtain rfl := X5 H
 refine AW.recast (env' := [(2, .bool (decide (0 < x1)))]) (h' := []) (StC.pure (.cons .im .nil)) (Yk ?_)
 try simp only [Ex.t, Ex.b]
 exact Done.eq rfl (.tmp .nil)
def f_spatial_forms  : Option (List S_form) :=
 some [(⟨(44 : Int), (12 : Int), 36, 37⟩ : S_form), (⟨(55 : Int), (13 : Int), 38, 39⟩ : S_form), (⟨(57 : Int), (6 : Int), 40, 41⟩ : S_form)]
section
abbrev Z44 : Env := [(0, slA eS_form [(⟨(44 : Int), (12 : Int), 36, 37⟩ : S_form), (⟨(55 : Int), (13 : Int), 38, 39⟩ : S_form), (⟨(57 : Int), (6 : Int), 40, 41⟩ : S_form)])]
end
theorem f_spatial_forms_ok   {r : List S_form} (H : f_spatial_forms = some r) : QSpec Tryd.prog 24 [] (slA eS_form r) := by
 refine Yh Tryd.func24 rfl (by simp [Tryd.ntmps24]) ?_
 rw [Tryd.ntmps24]
 unfold f_spatial_forms at H
 change AW _ _ _ [] [] _
 refine Y0 (Y3 1 [] [] ?_)
 refine Y1 (Y0 (Y3 3 [3, 2, 1] [(3, .agg [.int .u8 57, .j (6 : Int), .im (.val (.func (.func 40) #[] #[])), .im (.val (.func (.func 41) #[] #[]))]), (2, .agg [.int .u8 55, .j (13 : Int), .im (.val (.func (.func 38) #[] #[])), .im (.val (.func (.func 39) #[] #[]))]), (1, .agg [.int .u8 44, .j (12 : Int), .im (.val (.func (.func 36) #[] #[])), .im (.val (.func (.func 37) #[] #[]))])] ?_))
 refine OpsW.buildTI (enc := eS_form) [(⟨(44 : Int), (12 : Int), 36, 37⟩ : S_form), (⟨(55 : Int), (13 : Int), 38, 39⟩ : S_form), (⟨(57 : Int), (6 : Int), 40, 41⟩ : S_form)] rfl rfl rfl E55 (fun _ => rfl) (by decide) ⟨trivial, by kernel_rfl, by kernel_rfl, by kernel_rfl, rfl⟩ (Y3 1 [0] Z44 (Y1 ?_))
 obtain rfl := X5 H
 refine AW.recast (env' := Z44) (h' := []) (StC.pure (.cons .im .nil)) (Yk ?_)
 try simp only [Ex.t, Ex.b]
 exact Done.eq rfl (.tmp .nil)
def Y1a (t0 : List Y4) (x4 : Int × Bool) (loop9 : ((List Int) × Int × Int) → Option (List Int)) (v6 : List Int) (v7 : Int) (v8 : Int) : Option (List Int) :=
 cond (decide (v8 < x4.1)) (
  G (room 8 (v6.length + 1)) <|
  (Y1s t0 v7).bind fun x12 =>
  G (inR (v8 + 1)) <|
  loop9 (v6 ++ [v7], x12.1, v8 + 1)) (
  some v6)
def Y3n (t0 : List Y4) (t1 : Int) : Option (List Int) :=
 (cond (!(cond (decide (t1 < 0)) true (decide ((t0.length : Int) ≤ t1)))) (Y0t t0) (some false)).bind fun x1 =>
 cond (cond (cond (decide (t1 < 0)) true (decide ((t0.length : Int) ≤ t1))) true (!x1)) (
  some []) (
  G (0 ≤ t1 ∧ t1 < (t0.length : Int)) <|
  (Y10 (t0.getD t1.toNat Y7)).bind fun x4 =>
  G (inR (t1 + 1)) <|
  iter (fun loop (s : (List Int) × Int × Int) => Y1a t0 x4 loop s.1 s.2.1 s.2.2) 1000000 ([], t1 + 1, (0 : Int)))
section
variable (t0 : List Y4) (t1 : Int) (v6 : List Int) (v7 : Int) (v8 : Int) (x4 : Int × Bool)
abbrev Z48 := (cond (decide (t1 < 0)) true (decide ((t0.length : Int) ≤ t1)))
abbrev Z49 : Nat × AV := (7, .rsl 7 0 0 ((v6 ++ [v7]).length))
abbrev Z4a : Nat × AV := (0, slA Y2 t0)
abbrev Z45 : Env := [(Z4a t0), (7, .rsl 7 0 0 v6.length), (8, .j v7), (32, .j x4.1), (33, .j v8)]
abbrev Z46 : Env := [(Z4a t0), (1, .j t1)]
abbrev Z47 : Env := [(Z4a t0), (8, .j v7), (32, .j x4.1), (33, .j v8)]
end
theorem f_formula_Operands_ok  {t0 : List Y4} {t1 : Int} {r : List Int} (H : Y3n t0 t1 = some r) : QSpec Tryd.prog 42 [slA Y2 t0, .int .i64 t1] (slA (eI .i64) r) := by
 refine Yh Tryd.func42 rfl (by simp [Tryd.ntmps42]) ?_
 rw [Tryd.ntmps42]
 unfold Y3n at H
 change AW _ _ _ (Z46 t0 t1) [] _
 refine Y0 (Y3 1 [0, 1] (Z46 t0 t1) ?_)
 refine Y1 (Ys (Y0 (Yb 10 [18, 17, 0, 1] ((18, .cnd (!(Z48 t0 t1)) (slA Y2 t0)) :: (17, .bool (Z48 t0 t1)) :: (Z46 t0 t1)) ⟨(fun h => h), (fun h => h), (fun h => h), (fun h => by first | exact h | (simpa using h) | grind), trivial⟩ ?_)))
 have ⟨x1, hx1, H⟩ := Y0d H
 refine OpsW.gcall (c := !(Z48 t0 t1)) (r := .bool x1) [] rfl (by kernel_rfl) rfl rfl rfl rfl (fun hc => ⟨Yc ⟨hc, trivial⟩, (.cons (.pur rfl) .nil), Y4q (condT hc hx1), .inl ⟨rfl, rfl⟩⟩) (Yb 2 [21, 0, 1] ((21, .bool (cond (Z48 t0 t1) true (!x1))) :: (Z46 t0 t1)) ⟨(fun h => h), (fun h => by first | exact h | (simpa using h) | grind), trivial⟩ (Y1 (Y6 (b := cond (Z48 t0 t1) true (!x1)) H rfl (fun c2 H => ?_) (fun c2 H => ?_))))
 ·refine Y0 (Y3 1 [4] [(4, .im (.val (.slice none 0 0)))] ?_)
  refine Y1 ?_
  obtain rfl := X5 H
  refine AW.recast (env' := [(4, slA (eI .i64) [])]) (h' := []) (StC.pure (.cons .nil .nil)) (Yk ?_)
  try simp only [Ex.t, Ex.b]
  exact Done.eq rfl (.tmp .nil)
 refine Ya (Y0 ?_)
 have ⟨g3, H⟩ := Ye H
 refine Yb 3 [25, 0, 1] ((25, .ipt (t0.flatMap Y2) (t1.toNat * 2)) :: (Z46 t0 t1)) ⟨g3, trivial⟩ (OpsW.asU (.agg [.j ((t0.getD t1.toNat Y7).Op), .j ((t0.getD t1.toNat Y7).N)]) rfl rfl (Y44 (cs := t0.flatMap Y2) (off := t1.toNat * 2) (ds := Y2 (t0.getD t1.toNat Y7)) rfl trivial (by kernel_rfl) (by have := Y05 Y2 2 (fun _ => rfl) t0; have := (ltN g3); omega) (fm_elem Y2 2 (fun _ => rfl) t0 Y7 t1.toNat (ltN g3))) ?_)
 have ⟨x4, hx4, H⟩ := Y0d H
 refine Y0f rfl (.cons (.pur rfl) .nil) (f_formula_arity_ok hx4) (Y3 5 [5, 0, 1] ((5, .j x4.1) :: (Z46 t0 t1)) ?_)
 refine Y1 (Y0 (Y3 1 [7, 5, 0, 1] ((7, .im (.val (.slice none 0 0))) :: (5, .j x4.1) :: (Z46 t0 t1)) ?_))
 refine Y1 (Y0 ?_)
 have ⟨g5, H⟩ := Ye H
 refine Yb 3 [8, 7, 5, 0] [(8, .j (t1 + 1)), (7, .im (.val (.slice none 0 0))), (5, .j x4.1), (Z4a t0)] ⟨g5, trivial⟩ ?_
 refine Y1 (Ys (Y0 (Y3 2 [33, 32, 8, 7, 0] [(33, .j (0 : Int)), (32, .j x4.1), (8, .j (t1 + 1)), (7, .im (.val (.slice none 0 0))), (Z4a t0)] ?_)))
 refine Y1 (Yp ?_)
 refine Y25 (fun loop (s : (List Int) × Int × Int) => Y1a t0 x4 loop s.1 s.2.1 s.2.2) r (fun (s : (List Int) × Int × Int) => [(Z4a t0), (7, .rsl 7 0 0 s.1.length), (8, .j s.2.1), (32, .j x4.1), (33, .j s.2.2)]) (fun (s : (List Int) × Int × Int) => [(7, rtA 0 3 1 (eI .i64) s.1)]) ?_ 1000000 ([], t1 + 1, (0 : Int)) H (StC.mk (phi [(7, none)]) (.new rfl .nil) rfl (.cons .im (.cons (.nilr rfl rfl rfl) (.i3 .nil))))
 intro loop9 s H
 obtain ⟨v6, v7, v8⟩ := s
 unfold Y1a at H
 change AW _ _ _ (Z45 t0 v6 v7 v8 x4) [(7, rtA 0 3 1 (eI .i64) v6)] _
 refine Y0 (Y3 1 [34, 0, 7, 8, 32, 33] ((34, .bool (decide (v8 < x4.1))) :: (Z45 t0 v6 v7 v8 x4)) ?_)
 refine Y1 (Ys (Y6 (b := decide (v8 < x4.1)) H rfl (fun c10 H => ?_) (fun c10 H => ?_)))
 ·refine Ya (Ys (Yp (Y0 (Y3 2 [36, 35, 0, 7, 8, 32, 33] ((36, .j v7) :: (35, .rsl 7 0 0 v6.length) :: (Z45 t0 v6 v7 v8 x4)) ?_))))
  have ⟨g11, H⟩ := Ye H
  refine Y2r (enc := eI .i64) [v7] rfl rfl rfl (by decide) rfl rfl rfl (by simp) E70 (fun _ => rfl) (by decide) trivial (by kernel_rfl) (by kernel_rfl) (by kernel_rfl) rfl rfl rfl g11 (Y3 1 [7, 0, 8, 32, 33] ((7, .rsl 7 1 0 ((v6 ++ [v7]).length)) :: (Z47 t0 v7 v8 x4)) (OpsW.rc ((Z49 v6 v7) :: (Z47 t0 v7 v8 x4)) [(7, rtA 0 3 1 (eI .i64) (v6 ++ [v7]))] (StC.mk (phi [(7, some 7)]) (.o rfl (CstL.ims _) .nil) rfl (.cons (.s rfl) (.i4 .nil))) ?_))
  refine Y1 (Yd (Y3 2 [41, 40, 7, 0, 8, 32, 33] ((41, .j v7) :: (40, slA Y2 t0) :: (Z49 v6 v7) :: (Z47 t0 v7 v8 x4)) ?_))
  have ⟨x12, hx12, H⟩ := Y0d H
  refine Y0f rfl (.cons (.pur rfl) (.cons (.pur rfl) .nil)) (Y5a hx12) (Y3 5 [8, 7, 0, 32, 33] [(8, .j x12.1), (Z49 v6 v7), (Z4a t0), (32, .j x4.1), (33, .j v8)] ?_)
  refine Y1 (Yd ?_)
  have ⟨g13, H⟩ := Ye H
  refine Yb 2 [33, 8, 7, 0, 32] [(33, .j (v8 + 1)), (8, .j x12.1), (Z49 v6 v7), (Z4a t0), (32, .j x4.1)] ⟨g13, trivial⟩ (Y1 ?_)
  exact ⟨(v6 ++ [v7], x12.1, v8 + 1), H, (StC.mk (phi [(7, some 7)]) (.o rfl (CstL.ims _) .nil) rfl (.cons .im (.cons (.s rfl) (.i3 .nil))))⟩
 refine AW.exit ?_
 refine Y0 (Y3 2 [4] [(4, .rsl 7 0 0 v6.length)] ?_)
 refine OpsW.rc [(4, slA (eI .i64) v6)] [] (StC.mk (phi []) .nil rfl (.cons (.frz rfl rfl rfl (frz_all (eI .i64) 1 (fun _ => rfl) v6) (Y05 (eI .i64) 1 (fun _ => rfl) v6) (phi_ne rfl)) .nil)) (Y1 ?_)
 obtain rfl := X5 H
 refine AW.recast (env' := [(4, slA (eI .i64) v6)]) (h' := []) (StC.pure (.cons .im .nil)) (Yk ?_)
 try simp only [Ex.t, Ex.b]
 exact Done.eq rfl (.tmp .nil)
def f_formula_End (t0 : List Y4) (t1 : Int) : Option Int :=
 (cond (!(cond (decide (t1 < 0)) true (decide ((t0.length : Int) ≤ t1)))) (Y0t t0) (some false)).bind fun x1 =>
 cond (cond (cond (decide (t1 < 0)) true (decide ((t0.length : Int) ≤ t1))) true (!x1)) (
  some (0 : Int)) (
  (Y1s t0 t1).bind fun x3 =>
  some x3.1)
section
variable (t0 : List Y4) (t1 : Int)
abbrev Z4b := (cond (decide (t1 < 0)) true (decide ((t0.length : Int) ≤ t1)))
end
theorem f_formula_End_ok  {t0 : List Y4} {t1 : Int} {r : Int} (H : f_formula_End t0 t1 = some r) : QSpec Tryd.prog 44 [slA Y2 t0, .int .i64 t1] (.int .i64 r) := by
 refine Yh Tryd.func44 rfl (by simp [Tryd.ntmps44]) ?_
 rw [Tryd.ntmps44]
 unfold f_formula_End at H
 change AW _ _ _ [(0, slA Y2 t0), (1, .j t1)] [] _
 refine Y0 (Y3 1 [0, 1] [(0, slA Y2 t0), (1, .j t1)] ?_)
 refine Y1 (Ys (Y0 (Yb 10 [17, 16, 0, 1] [(17, .cnd (!(Z4b t0 t1)) (slA Y2 t0)), (16, .bool (Z4b t0 t1)), (0, slA Y2 t0), (1, .j t1)] ⟨(fun h => h), (fun h => h), (fun h => h), (fun h => by first | exact h | (simpa using h) | grind), trivial⟩ ?_)))
 have ⟨x1, hx1, H⟩ := Y0d H
 refine OpsW.gcall (c := !(Z4b t0 t1)) (r := .bool x1) [] rfl (by kernel_rfl) rfl rfl rfl rfl (fun hc => ⟨Yc ⟨hc, trivial⟩, (.cons (.pur rfl) .nil), Y4q (condT hc hx1), .inl ⟨rfl, rfl⟩⟩) (Yb 2 [20, 0, 1] [(20, .bool (cond (Z4b t0 t1) true (!x1))), (0, slA Y2 t0), (1, .j t1)] ⟨(fun h => h), (fun h => by first | exact h | (simpa using h) | grind), trivial⟩ (Y1 (Y6 (b := cond (Z4b t0 t1) true (!x1)) H rfl (fun c2 H => ?_) (fun c2 H => ?_))))
 ·refine Y0 (Y3 1 [4] [(4, .j (0 : Int))] ?_)
  refine Y1 ?_
  obtain rfl := X5 H
  refine AW.recast (env' := [(4, .j (0 : Int))]) (h' := []) (StC.pure (.cons .im .nil)) (Yk ?_)
  try simp only [Ex.t, Ex.b]
  exact Done.eq rfl (.tmp .nil)
 refine Ya (Y0 (Y3 2 [23, 22] [(23, .j t1), (22, slA Y2 t0)] ?_))
 have ⟨x3, hx3, H⟩ := Y0d H
 refine Y0f rfl (.cons (.pur rfl) (.cons (.pur rfl) .nil)) (Y5a hx3) (Y3 7 [5] [(5, .j x3.1)] ?_)
 refine Y1 (Y0 (Y3 2 [4] [(4, .j x3.1)] ?_))
 refine Y1 ?_
 obtain rfl := X5 H
 refine AW.recast (env' := [(4, .j x3.1)]) (h' := []) (StC.pure (.cons .im .nil)) (Yk ?_)
 try simp only [Ex.t, Ex.b]
 exact Done.eq rfl (.tmp .nil)
def Y3m (t0 : Int) : Option (List Int) :=
 cond (t0 == 2) (
  some [(44 : Int)]) (
  cond (t0 == 3) (
   some [(36 : Int)]) (
   cond (t0 == 4) (
    some [(33 : Int)]) (
    some [(0 : Int), (54 : Int), (0 : Int)])))
theorem f_linear_sign_ok  {t0 : Int} {r : List Int} (H : Y3m t0 = some r) : QSpec Tryd.prog 91 [.int .i64 t0] (slA (eI .u8) r) := by
 refine Yh Tryd.func91 rfl (by simp [Tryd.ntmps91]) ?_
 rw [Tryd.ntmps91]
 unfold Y3m at H
 change AW _ _ _ [(0, .j t0)] [] _
 refine Y0 (Y3 1 [0] [(0, .j t0)] ?_)
 refine Y1 (Ys (Y0 (Y3 1 [3] [(3, .j t0)] ?_)))
 refine Y1 (Yp (Y0 (Y3 2 [4, 3] [(4, .bool (t0 == 2)), (3, .j t0)] ?_)))
 refine Y1 (Y6 (b := t0 == 2) H rfl (fun c1 H => ?_) (fun c1 H => ?_))
 ·refine Y0 (OpsW.buildTI (enc := eI .u8) [(44 : Int)] rfl rfl rfl E39 (fun _ => rfl) (by decide) ⟨trivial, by kernel_rfl, by kernel_rfl, by kernel_rfl, rfl⟩ ?_)
  refine Y3 1 [2] [(2, sU [(44 : Int)])] (Y1 ?_)
  obtain rfl := X5 H
  refine AW.recast (env' := [(2, sU [(44 : Int)])]) (h' := []) (StC.pure (.cons .im .nil)) (Yk ?_)
  try simp only [Ex.t, Ex.b]
  exact Done.eq rfl (.tmp .nil)
 refine Y0 (Y3 2 [7, 3] [(7, .bool (t0 == 3)), (3, .j t0)] ?_)
 refine Y1 (Y6 (b := t0 == 3) H rfl (fun c2 H => ?_) (fun c2 H => ?_))
 ·refine Y0 (OpsW.buildTI (enc := eI .u8) [(36 : Int)] rfl rfl rfl E39 (fun _ => rfl) (by decide) ⟨trivial, by kernel_rfl, by kernel_rfl, by kernel_rfl, rfl⟩ ?_)
  refine Y3 1 [2] [(2, sU [(36 : Int)])] (Y1 ?_)
  obtain rfl := X5 H
  refine AW.recast (env' := [(2, sU [(36 : Int)])]) (h' := []) (StC.pure (.cons .im .nil)) (Yk ?_)
  try simp only [Ex.t, Ex.b]
  exact Done.eq rfl (.tmp .nil)
 refine Y0 (Y3 2 [10] [(10, .bool (t0 == 4))] ?_)
 refine Y1 (Y6 (b := t0 == 4) H rfl (fun c3 H => ?_) (fun c3 H => ?_))
 ·refine Y0 (OpsW.buildTI (enc := eI .u8) [(33 : Int)] rfl rfl rfl E39 (fun _ => rfl) (by decide) ⟨trivial, by kernel_rfl, by kernel_rfl, by kernel_rfl, rfl⟩ ?_)
  refine Y3 1 [2] [(2, sU [(33 : Int)])] (Y1 ?_)
  obtain rfl := X5 H
  refine AW.recast (env' := [(2, sU [(33 : Int)])]) (h' := []) (StC.pure (.cons .im .nil)) (Yk ?_)
  try simp only [Ex.t, Ex.b]
  exact Done.eq rfl (.tmp .nil)
 refine Ya (Y0 (OpsW.buildTI (enc := eI .u8) [(0 : Int), (54 : Int), (0 : Int)] rfl rfl rfl E39 (fun _ => rfl) (by decide) ⟨trivial, by kernel_rfl, by kernel_rfl, by kernel_rfl, rfl⟩ ?_))
 refine Y3 1 [2] [(2, sU [(0 : Int), (54 : Int), (0 : Int)])] (Y1 ?_)
 obtain rfl := X5 H
 refine AW.recast (env' := [(2, sU [(0 : Int), (54 : Int), (0 : Int)])]) (h' := []) (StC.pure (.cons .im .nil)) (Yk ?_)
 try simp only [Ex.t, Ex.b]
 exact Done.eq rfl (.tmp .nil)
def Y4o  : Option Bool :=
 some false
def Y0s (v1 : Bool) : Option Bool :=
 cond v1 (
  some true) (
  Y4o)
def Y41 (t0 : Int) : Option Bool :=
 cond (t0 == 0) (
  Y0s (t0 == 0)) (
  cond (t0 == 1) (
   Y0s (t0 == 1)) (
   cond (t0 == 6) (
    Y0s (t0 == 6)) (
    cond (t0 == 9) (
     Y0s (t0 == 9)) (
     cond (t0 == 10) (
      Y0s (t0 == 10)) (
      cond (t0 == 11) (
       Y0s (t0 == 11)) (
       cond (t0 == 12) (
        Y0s (t0 == 12)) (
        Y0s (t0 == 13))))))))
theorem f_linear_simple_ok  {t0 : Int} {r : Bool} (H : Y41 t0 = some r) : QSpec Tryd.prog 106 [.int .i64 t0] (.bool r) := by
 refine Yh Tryd.func106 rfl (by simp [Tryd.ntmps106]) ?_
 rw [Tryd.ntmps106]
 unfold Y41 at H
 change AW _ _ _ [(0, .j t0)] [] _
 refine Y0 (Y3 1 [0] [(0, .j t0)] ?_)
 refine Y1 ?_
 refine Y0w (fun (y : Unit) => Y4o) r (fun (y : Unit) => []) (fun (y : Unit) => []) ?_ ?_
 ·refine Y0 (Y3 1 [3] [(3, .j t0)] ?_)
  refine Y1 (Yp ?_)
  refine Y0w (fun (y : Bool) => Y0s y) r (fun (y : Bool) => [(4, .bool y)]) (fun (y : Bool) => []) ?_ ?_
  ·refine Y0 (Y3 2 [4, 3] [(4, .bool (t0 == 0)), (3, .j t0)] ?_)
   refine Y1 (Y6 (b := t0 == 0) H rfl (fun c3 H => ?_) (fun c3 H => ?_))
   ·refine Ya ?_
    exact ⟨t0 == 0, H, (StC.pure (.cons .im .nil))⟩
   refine Y0 (Y3 2 [4, 3] [(4, .bool (t0 == 1)), (3, .j t0)] ?_)
   refine Y1 (Y6 (b := t0 == 1) H rfl (fun c4 H => ?_) (fun c4 H => ?_))
   ·refine Ya ?_
    exact ⟨t0 == 1, H, (StC.pure (.cons .im .nil))⟩
   refine Y0 (Y3 2 [4, 3] [(4, .bool (t0 == 6)), (3, .j t0)] ?_)
   refine Y1 (Y6 (b := t0 == 6) H rfl (fun c5 H => ?_) (fun c5 H => ?_))
   ·refine Ya ?_
    exact ⟨t0 == 6, H, (StC.pure (.cons .im .nil))⟩
   refine Y0 (Y3 2 [4, 3] [(4, .bool (t0 == 9)), (3, .j t0)] ?_)
   refine Y1 (Y6 (b := t0 == 9) H rfl (fun c6 H => ?_) (fun c6 H => ?_))
   ·refine Ya ?_
    exact ⟨t0 == 9, H, (StC.pure (.cons .im .nil))⟩
   refine Y0 (Y3 2 [4, 3] [(4, .bool (t0 == 10)), (3, .j t0)] ?_)
   refine Y1 (Y6 (b := t0 == 10) H rfl (fun c7 H => ?_) (fun c7 H => ?_))
   ·refine Ya ?_
    exact ⟨t0 == 10, H, (StC.pure (.cons .im .nil))⟩
   refine Y0 (Y3 2 [4, 3] [(4, .bool (t0 == 11)), (3, .j t0)] ?_)
   refine Y1 (Y6 (b := t0 == 11) H rfl (fun c8 H => ?_) (fun c8 H => ?_))
   ·refine Ya ?_
    exact ⟨t0 == 11, H, (StC.pure (.cons .im .nil))⟩
   refine Y0 (Y3 2 [4, 3] [(4, .bool (t0 == 12)), (3, .j t0)] ?_)
   refine Y1 (Y6 (b := t0 == 12) H rfl (fun c9 H => ?_) (fun c9 H => ?_))
   ·refine Ya ?_
    exact ⟨t0 == 12, H, (StC.pure (.cons .im .nil))⟩
   refine Yd (Y3 2 [4] [(4, .bool (t0 == 13))] ?_)
   refine Y1 ?_
   exact ⟨t0 == 13, H, (StC.pure (.cons .im .nil))⟩
  intro v1 H
  unfold Y0s at H
  change AW _ _ _ [(4, .bool v1)] [] _
  refine Y6 (b := v1) H rfl (fun c2 H => ?_) (fun c2 H => ?_)
  ·refine Y0 (Y3 1 [2] [(2, .bool true)] ?_)
   refine Y1 ?_
   obtain rfl := X5 H
   refine AW.recast (env' := [(2, .bool true)]) (h' := []) (StC.pure (.cons .im .nil)) (Yk ?_)
   try simp only [Ex.t, Ex.b]
   exact Done.eq rfl (.tmp .nil)
  refine Ya ?_
  exact ⟨(), H, (StC.pure .nil)⟩
 rintro ⟨⟩ H
 unfold Y4o at H
 change AW _ _ _ [] [] _
 refine Y0 (Y3 1 [2] [(2, .bool false)] ?_)
 refine Y1 ?_
 obtain rfl := X5 H
 refine AW.recast (env' := [(2, .bool false)]) (h' := []) (StC.pure (.cons .im .nil)) (Yk ?_)
 try simp only [Ex.t, Ex.b]
 exact Done.eq rfl (.tmp .nil)
def Y2c (t0 : Int) : Option Int :=
 cond (t0 == 7) (
  some (24 : Int)) (
  some (6 : Int))
theorem f_linear_exponent_ok  {t0 : Int} {r : Int} (H : Y2c t0 = some r) : QSpec Tryd.prog 105 [.int .i64 t0] (.int .u8 r) := by
 refine Yh Tryd.func105 rfl (by simp [Tryd.ntmps105]) ?_
 rw [Tryd.ntmps105]
 unfold Y2c at H
 change AW _ _ _ [(0, .j t0)] [] _
 refine Y0 (Y3 1 [0] [(0, .j t0)] ?_)
 refine Y1 (Ys (Y0 (Y3 2 [4] [(4, .bool (t0 == 7))] ?_)))
 refine Y1 (Y6 (b := t0 == 7) H rfl (fun c1 H => ?_) (fun c1 H => ?_))
 ·refine Y0 (Y3 1 [2] [(2, .int .u8 24)] ?_)
  refine Y1 ?_
  obtain rfl := X5 H
  refine AW.recast (env' := [(2, .int .u8 24)]) (h' := []) (StC.pure (.cons .im .nil)) (Yk ?_)
  try simp only [Ex.t, Ex.b]
  exact Done.eq rfl (.tmp .nil)
 refine Ya (Y0 (Y3 1 [2] [(2, .int .u8 6)] ?_))
 refine Y1 ?_
 obtain rfl := X5 H
 refine AW.recast (env' := [(2, .int .u8 6)]) (h' := []) (StC.pure (.cons .im .nil)) (Yk ?_)
 try simp only [Ex.t, Ex.b]
 exact Done.eq rfl (.tmp .nil)
def Yv (t0 : Y5) (t1 : List Int) : Option Y5 :=
 G (room 1 (t0.cells_.length + t1.length)) <|
 some (⟨t0.f_, t0.at_, t0.level_, t0.cells_ ++ t1, ()⟩ : Y5)
section
variable (t0 : Y5)
abbrev Z4c : Hp := [(3000, rtA 0 41 1 (eI .u8) t0.level_), (3001, rtA 0 41 1 (eI .u8) t0.cells_)]
end
theorem Yz  {t0 : Y5} {t1 : List Int} {r : Y5} (H : Yv t0 t1 = some r) : Abs.Spec Tryd.prog 100 [.ref 2000 0 0, slA (eI .u8) t1] [(2000, ⟨0, true, 104, 5, [slA Y2 t0.f_, .int .i64 t0.at_, .rsl 3000 0 0 t0.level_.length, .rsl 3001 0 0 t0.cells_.length, .im (.mp (mapV Y8))]⟩), (3000, rtA 0 41 1 (eI .u8) t0.level_), (3001, rtA 0 41 1 (eI .u8) t0.cells_)] (fun x h => x = .tup [] ∧ h = [(2000, ⟨0, true, 104, 5, [slA Y2 r.f_, .int .i64 r.at_, .rsl 3000 1 0 r.level_.length, .rsl 3001 1 0 r.cells_.length, .im (.mp (mapV Y8))]⟩), (3000, rtA 1 41 1 (eI .u8) r.level_), (3001, rtA 1 41 1 (eI .u8) r.cells_)]) := by
 refine Yh Tryd.func100 rfl (by simp [Tryd.ntmps100]) ?_
 rw [Tryd.ntmps100]
 unfold Yv at H
 change AW _ _ _ [(0, .ref 2000 0 0), (1, sU t1)] ((2000, ⟨0, true, 104, 5, [slA Y2 t0.f_, .j t0.at_, .rsl 3000 0 0 t0.level_.length, .rsl 3001 0 0 t0.cells_.length, .im (.mp (mapV Y8))]⟩) :: (Z4c t0)) _
 refine AW.endcast ?_
 refine Yd (Y3 2 [5, 4, 1] [(5, .ref 2000 0 0), (4, .ref 2000 0 0), (1, sU t1)] ?_)
 refine OpsW.quietU (.ref 2000 0 0) rfl rfl (Quiet.nilCheck rfl (gpoU rfl ⟨trivial, rfl, rfl⟩)) (Y3 3 [9, 8, 4] [(9, sU t1), (8, .rsl 3001 0 0 t0.cells_.length), (4, .ref 2000 0 0)] ?_)
 have ⟨g1, H⟩ := Ye H
 refine Y46 (enc := eI .u8) (ys := t1) rfl rfl rfl E39 (fun _ => rfl) rfl rfl trivial (SrcA.typed (enc := eI .u8) (fun _ => rfl) (by kernel_rfl) t1) rfl g1 (OpsW.quietU (.ref 2000 0 0) rfl rfl (Quiet.nilCheck rfl (gpoU rfl ⟨trivial, rfl, rfl⟩)) (Y3 1 [12, 10] [(12, .ref 2000 0 3), (10, .rsl 3001 1 0 ((t0.cells_ ++ t1).length))] (OpsW.store rfl rfl rfl rfl trivial trivial rfl rfl rfl (by kernel_rfl) (Yx (by kernel_rfl)) (X00 (by kernel_rfl)) ?_)))
 change OpsW _ _ _ _ _ ((2000, ⟨0, true, 104, 5, [slA Y2 t0.f_, .j t0.at_, .rsl 3000 0 0 t0.level_.length, .rsl 3001 1 0 ((t0.cells_ ++ t1).length), .im (.mp (mapV Y8))]⟩) :: (3001, rtA 1 41 1 (eI .u8) (t0.cells_ ++ t1)) :: (2000, ⟨0, true, 104, 5, [slA Y2 t0.f_, .j t0.at_, .rsl 3000 0 0 t0.level_.length, .rsl 3001 0 0 t0.cells_.length, .im (.mp (mapV Y8))]⟩) :: (Z4c t0)) _
 refine Y3 0 [] [] (OpsW.rc [] [(2000, ⟨0, true, 104, 5, [slA Y2 t0.f_, .j t0.at_, .rsl 3000 0 0 t0.level_.length, .rsl 3001 0 0 ((t0.cells_ ++ t1).length), .im (.mp (mapV Y8))]⟩), (3000, rtA 0 41 1 (eI .u8) t0.level_), (3001, rtA 0 41 1 (eI .u8) (t0.cells_ ++ t1))] (StC.mk (phi [(2000, some 2000), (3000, some 3000), (3001, some 3001)]) (.o rfl (.i2 (.cons (.s rfl) (.cons (.s rfl) (.cons .im .nil)))) (.o rfl (CstL.ims _) (.o rfl (CstL.ims _) .nil))) rfl .nil) (Y1 ?_))
 obtain rfl := X5 H
 show ∃ en' hp', StC _ _ en' hp' ∧ Done _ _ _ .normal en' hp'
 refine ⟨[], [(2000, ⟨0, true, 104, 5, [slA Y2 t0.f_, .j t0.at_, .rsl 3000 1 0 t0.level_.length, .rsl 3001 1 0 ((t0.cells_ ++ t1).length), .im (.mp (mapV Y8))]⟩), (3000, rtA 1 41 1 (eI .u8) t0.level_), (3001, rtA 1 41 1 (eI .u8) (t0.cells_ ++ t1))], (StC.mk (phi [(2000, some 2000), (3000, some 3000), (3001, some 3001)]) (.o rfl (.i2 (.cons (.s rfl) (.cons (.s rfl) (.cons .im .nil)))) (.o rfl (CstL.ims _) (.o rfl (CstL.ims _) .nil))) rfl .nil), ?_⟩
 refine Y45 rfl .nil ?_
 exact ⟨by kernel_rfl, by kernel_rfl⟩
def Y00 (t1 : Int) (v1 : Y5) : Option Y5 :=
 G (inR ((Int.tmod t1 (10 : Int)) + 9)) <|
 G (0 ≤ (Int.tmod ((Int.tmod t1 (10 : Int)) + 9) (10 : Int)) ∧ (Int.tmod ((Int.tmod t1 (10 : Int)) + 9) (10 : Int)) < 26) <|
 (Yv (⟨v1.f_, v1.at_, v1.level_, v1.cells_, ()⟩ : Y5) [Y9.getD (Int.tmod ((Int.tmod t1 (10 : Int)) + 9) (10 : Int)).toNat (0 : Int)]).bind fun x4 =>
 some (⟨x4.f_, x4.at_, x4.level_, x4.cells_, ()⟩ : Y5)
def Y0j (rec_f_linear_writer_number : Y5 → Int → Option Y5) (t0 : Y5) (t1 : Int) : Option Y5 :=
 cond (decide (10 ≤ t1)) (
  G (inR (Int.tdiv t1 (10 : Int))) <|
  (rec_f_linear_writer_number (⟨t0.f_, t0.at_, t0.level_, t0.cells_, ()⟩ : Y5) (Int.tdiv t1 (10 : Int))).bind fun x7 =>
  Y00 t1 (⟨x7.f_, x7.at_, x7.level_, x7.cells_, ()⟩ : Y5)) (
  Y00 t1 (⟨t0.f_, t0.at_, t0.level_, t0.cells_, ()⟩ : Y5))
section
variable (t0 : Y5) (t1 : Int) (v1 : Y5) (x4 : Y5)
abbrev Z4j := (Int.tmod ((Int.tmod t1 (10 : Int)) + 9) (10 : Int))
abbrev Z4k : Nat × AV := (15, .ipt (Y9.flatMap (eI .u8)) (0 + (Z4j t1).toNat * 1))
abbrev Z4d : Env := [(17, sU [Y9.getD (Z4j t1).toNat (0 : Int)]), (16, .int .u8 (Y9.getD (Z4j t1).toNat (0 : Int))), (Z4k t1), (10, .ref 2000 0 0)]
abbrev Z4e : Hp := [(3000, rtA 0 41 1 (eI .u8) t0.level_), (3001, rtA 0 41 1 (eI .u8) t0.cells_)]
abbrev Z4f : Hp := [(3000, rtA 0 41 1 (eI .u8) v1.level_), (3001, rtA 0 41 1 (eI .u8) v1.cells_)]
abbrev Z4g : Env := [(8, .j (Int.tdiv t1 (10 : Int))), (6, .ref 2000 0 0), (0, .ref 2000 0 0), (1, .j t1)]
abbrev Z4h : Hp := [(3000, rtA 1 41 1 (eI .u8) x4.level_), (3001, rtA 1 41 1 (eI .u8) x4.cells_)]
abbrev Z4i : Env := [(0, .ref 2000 0 0), (1, .j t1)]
end
theorem f_linear_writer_number_body_io {rec_f_linear_writer_number : Y5 → Int → Option Y5} (hrec_f_linear_writer_number : ∀ (t0 : Y5) (t1 : Int) (r : Y5), rec_f_linear_writer_number t0 t1 = some r → Abs.Spec Tryd.prog 101 [.ref 2000 0 0, .int .i64 t1] [(2000, ⟨0, true, 104, 5, [slA Y2 t0.f_, .int .i64 t0.at_, .rsl 3000 0 0 t0.level_.length, .rsl 3001 0 0 t0.cells_.length, .im (.mp (mapV Y8))]⟩), (3000, rtA 0 41 1 (eI .u8) t0.level_), (3001, rtA 0 41 1 (eI .u8) t0.cells_)] (fun x h => x = .tup [] ∧ h = [(2000, ⟨0, true, 104, 5, [slA Y2 r.f_, .int .i64 r.at_, .rsl 3000 1 0 r.level_.length, .rsl 3001 1 0 r.cells_.length, .im (.mp (mapV Y8))]⟩), (3000, rtA 1 41 1 (eI .u8) r.level_), (3001, rtA 1 41 1 (eI .u8) r.cells_)])) {t0 : Y5} {t1 : Int} {r : Y5} (H : Y0j rec_f_linear_writer_number t0 t1 = some r) : Abs.Spec Tryd.prog 101 [.ref 2000 0 0, .int .i64 t1] [(2000, ⟨0, true, 104, 5, [slA Y2 t0.f_, .int .i64 t0.at_, .rsl 3000 0 0 t0.level_.length, .rsl 3001 0 0 t0.cells_.length, .im (.mp (mapV Y8))]⟩), (3000, rtA 0 41 1 (eI .u8) t0.level_), (3001, rtA 0 41 1 (eI .u8) t0.cells_)] (fun x h => x = .tup [] ∧ h = [(2000, ⟨0, true, 104, 5, [slA Y2 r.f_, .int .i64 r.at_, .rsl 3000 1 0 r.level_.length, .rsl 3001 1 0 r.cells_.length, .im (.mp (mapV Y8))]⟩), (3000, rtA 1 41 1 (eI .u8) r.level_), (3001, rtA 1 41 1 (eI .u8) r.cells_)]) := by
 refine Yh Tryd.func101 rfl (by simp [Tryd.ntmps101]) ?_
 rw [Tryd.ntmps101]
 unfold Y0j at H
 change AW _ _ _ (Z4i t1) ((2000, ⟨0, true, 104, 5, [slA Y2 t0.f_, .j t0.at_, .rsl 3000 0 0 t0.level_.length, .rsl 3001 0 0 t0.cells_.length, .im (.mp (mapV Y8))]⟩) :: (Z4e t0)) _
 refine AW.endcast ?_
 refine Y0w (fun (y : Y5) => Y00 t1 y) r (fun (y : Y5) => (Z4i t1)) (fun (y : Y5) => [(2000, ⟨0, true, 104, 5, [slA Y2 y.f_, .j y.at_, .rsl 3000 0 0 y.level_.length, .rsl 3001 0 0 y.cells_.length, .im (.mp (mapV Y8))]⟩), (3000, rtA 0 41 1 (eI .u8) y.level_), (3001, rtA 0 41 1 (eI .u8) y.cells_)]) ?_ ?_
 ·refine Y0 (Y3 2 [5, 0, 1] ((5, .bool (decide (10 ≤ t1))) :: (Z4i t1)) ?_)
  refine Y1 (Y6 (b := decide (10 ≤ t1)) H rfl (fun c5 H => ?_) (fun c5 H => ?_))
  ·refine Yd ?_
   have ⟨g6, H⟩ := Ye H
   refine Yb 3 [8, 6, 0, 1] (Z4g t1) ⟨(by decide), g6, trivial⟩ (OpsW.rc (Z4g t1) ((2000, ⟨0, true, 104, 5, [slA Y2 t0.f_, .j t0.at_, .rsl 3000 0 0 t0.level_.length, .rsl 3001 0 0 t0.cells_.length, .im (.mp (mapV Y8))]⟩) :: (Z4e t0)) (StC.mk (phi [(2000, some 2000), (3000, some 3000), (3001, some 3001)]) (.o rfl (.i2 (.cons (.s rfl) (.cons (.s rfl) (.cons .im .nil)))) (.o rfl (CstL.ims _) (.o rfl (CstL.ims _) .nil))) rfl (.cons .im (.cons (.r rfl) (.cons (.r rfl) (.cons .im .nil))))) ?_)
   have ⟨x7, hx7, H⟩ := Y0d H
   change OpsW _ _ _ _ (Z4g t1) (((2000, ⟨0, true, 104, 5, [slA Y2 t0.f_, .j t0.at_, .rsl 3000 0 0 t0.level_.length, .rsl 3001 0 0 t0.cells_.length, .im (.mp (mapV Y8))]⟩) :: (Z4e t0)) ++ []) _
   refine OpsW.callR ((2000, ⟨0, true, 104, 5, [slA Y2 t0.f_, .j t0.at_, .rsl 3000 0 0 t0.level_.length, .rsl 3001 0 0 t0.cells_.length, .im (.mp (mapV Y8))]⟩) :: (Z4e t0)) [] ((2000, ⟨0, true, 104, 5, [slA Y2 t0.f_, .j t0.at_, .rsl 3000 0 0 t0.level_.length, .rsl 3001 0 0 t0.cells_.length, .im (.mp (mapV Y8))]⟩) :: (Z4e t0)) (phi [(2000, some 2000), (3000, some 3000), (3001, some 3001)]) rfl rfl (by kernel_rfl) [.ref 2000 0 0, .j (Int.tdiv t1 (10 : Int))] _ rfl (Yc trivial) (.cons (.r rfl) (.cons .im .nil)) (hrec_f_linear_writer_number _ _ _ hx7) (Yr (by kernel_rfl)) (by kernel_rfl) (.cons rfl rfl rfl rfl rfl (.i2 (.cons (.s rfl) (.cons (.s rfl) (.cons .im .nil)))) (.cons rfl rfl rfl rfl rfl (RnL.ims _) (.cons rfl rfl rfl rfl rfl (RnL.ims _) .nil))) ?_
   rintro _ _ ⟨rfl, rfl⟩
   refine ⟨.tup [], [(2000, ⟨0, true, 104, 5, [slA Y2 x7.f_, .j x7.at_, .rsl 3000 1 0 x7.level_.length, .rsl 3001 1 0 x7.cells_.length, .im (.mp (mapV Y8))]⟩), (3000, rtA 1 41 1 (eI .u8) x7.level_), (3001, rtA 1 41 1 (eI .u8) x7.cells_)], phi [(2000, some 2000), (3000, some 3000), (3001, some 3001)], Yr (by kernel_rfl), by kernel_rfl, by kernel_rfl, (.cons rfl rfl rfl rfl rfl (.i2 (.cons (.s rfl) (.cons (.s rfl) (.cons .im .nil)))) (.cons rfl rfl rfl rfl rfl (RnL.ims _) (.cons rfl rfl rfl rfl rfl (RnL.ims _) .nil))), (.tup .nil .nil), ?_⟩
   change OpsW _ _ _ _ ((9, .tup []) :: (Z4g t1)) [(2000, ⟨0, true, 104, 5, [slA Y2 x7.f_, .j x7.at_, .rsl 3000 1 0 x7.level_.length, .rsl 3001 1 0 x7.cells_.length, .im (.mp (mapV Y8))]⟩), (3000, rtA 1 41 1 (eI .u8) x7.level_), (3001, rtA 1 41 1 (eI .u8) x7.cells_)] _
   refine Y3 0 [0, 1] (Z4i t1) (OpsW.rc (Z4i t1) [(2000, ⟨0, true, 104, 5, [slA Y2 x7.f_, .j x7.at_, .rsl 3000 0 0 x7.level_.length, .rsl 3001 0 0 x7.cells_.length, .im (.mp (mapV Y8))]⟩), (3000, rtA 0 41 1 (eI .u8) x7.level_), (3001, rtA 0 41 1 (eI .u8) x7.cells_)] (StC.mk (phi [(2000, some 2000), (3000, some 3000), (3001, some 3001)]) (.o rfl (.i2 (.cons (.s rfl) (.cons (.s rfl) (.cons .im .nil)))) (.o rfl (CstL.ims _) (.o rfl (CstL.ims _) .nil))) rfl (.cons (.r rfl) (.cons .im .nil))) (Y1 ?_))
   exact ⟨(⟨x7.f_, x7.at_, x7.level_, x7.cells_, ()⟩ : Y5), H, (StC.mk (phi [(2000, some 2000), (3000, some 3000), (3001, some 3001)]) (.o rfl (.i2 (.cons (.s rfl) (.cons (.s rfl) (.cons .im .nil)))) (.o rfl (CstL.ims _) (.o rfl (CstL.ims _) .nil))) rfl (.cons (.r rfl) (.cons .im .nil)))⟩
  refine Ya ?_
  exact ⟨(⟨t0.f_, t0.at_, t0.level_, t0.cells_, ()⟩ : Y5), H, (StC.mk (phi [(2000, some 2000), (3000, some 3000), (3001, some 3001)]) (.o rfl (.i2 (.cons (.s rfl) (.cons (.s rfl) (.cons .im .nil)))) (.o rfl (CstL.ims _) (.o rfl (CstL.ims _) .nil))) rfl (.cons (.r rfl) (.cons .im .nil)))⟩
 intro v1 H
 unfold Y00 at H
 change AW _ _ _ (Z4i t1) ((2000, ⟨0, true, 104, 5, [slA Y2 v1.f_, .j v1.at_, .rsl 3000 0 0 v1.level_.length, .rsl 3001 0 0 v1.cells_.length, .im (.mp (mapV Y8))]⟩) :: (Z4f v1)) _
 refine Yd ?_
 have ⟨g2, H⟩ := Ye H
 have ⟨g3, H⟩ := Ye H
 refine Yb 6 [15, 10] [(Z4k t1), (10, .ref 2000 0 0)] ⟨(by decide), g2, (by decide), g3, trivial⟩ (OpsW.asU (.int .u8 (Y9.getD (Z4j t1).toNat (0 : Int))) rfl rfl (T.load rfl trivial (by kernel_rfl) (tabOff (Y2l (eI .u8) 1 (fun _ => rfl) Y9 (0 : Int) (Z4j t1).toNat (ltA (n := 26) g3 rfl) (fun a => .val (.int .u8 a)) (fun _ => rfl)))) (OpsW.buildTI (enc := eI .u8) [Y9.getD (Z4j t1).toNat (0 : Int)] rfl rfl rfl E39 (fun _ => rfl) (by decide) ⟨trivial, by kernel_rfl, by kernel_rfl, by kernel_rfl, rfl⟩ (OpsW.rc (Z4d t1) ((2000, ⟨0, true, 104, 5, [slA Y2 v1.f_, .j v1.at_, .rsl 3000 0 0 v1.level_.length, .rsl 3001 0 0 v1.cells_.length, .im (.mp (mapV Y8))]⟩) :: (Z4f v1)) (StC.mk (phi [(2000, some 2000), (3000, some 3000), (3001, some 3001)]) (.o rfl (.i2 (.cons (.s rfl) (.cons (.s rfl) (.cons .im .nil)))) (.o rfl (CstL.ims _) (.o rfl (CstL.ims _) .nil))) rfl (.i2 (.cons .ipt (.cons (.r rfl) .nil)))) ?_)))
 have ⟨x4, hx4, H⟩ := Y0d H
 change OpsW _ _ _ _ (Z4d t1) (((2000, ⟨0, true, 104, 5, [slA Y2 v1.f_, .j v1.at_, .rsl 3000 0 0 v1.level_.length, .rsl 3001 0 0 v1.cells_.length, .im (.mp (mapV Y8))]⟩) :: (Z4f v1)) ++ []) _
 refine OpsW.callR ((2000, ⟨0, true, 104, 5, [slA Y2 v1.f_, .j v1.at_, .rsl 3000 0 0 v1.level_.length, .rsl 3001 0 0 v1.cells_.length, .im (.mp (mapV Y8))]⟩) :: (Z4f v1)) [] ((2000, ⟨0, true, 104, 5, [slA Y2 v1.f_, .j v1.at_, .rsl 3000 0 0 v1.level_.length, .rsl 3001 0 0 v1.cells_.length, .im (.mp (mapV Y8))]⟩) :: (Z4f v1)) (phi [(2000, some 2000), (3000, some 3000), (3001, some 3001)]) rfl rfl (by kernel_rfl) [.ref 2000 0 0, sU [Y9.getD (Z4j t1).toNat (0 : Int)]] _ rfl (Yc trivial) (.cons (.r rfl) (.cons .im .nil)) (Yz hx4) (Yr (by kernel_rfl)) (by kernel_rfl) (.cons rfl rfl rfl rfl rfl (.i2 (.cons (.s rfl) (.cons (.s rfl) (.cons .im .nil)))) (.cons rfl rfl rfl rfl rfl (RnL.ims _) (.cons rfl rfl rfl rfl rfl (RnL.ims _) .nil))) ?_
 rintro _ _ ⟨rfl, rfl⟩
 refine ⟨.tup [], ((2000, ⟨0, true, 104, 5, [slA Y2 x4.f_, .j x4.at_, .rsl 3000 1 0 x4.level_.length, .rsl 3001 1 0 x4.cells_.length, .im (.mp (mapV Y8))]⟩) :: (Z4h x4)), phi [(2000, some 2000), (3000, some 3000), (3001, some 3001)], Yr (by kernel_rfl), by kernel_rfl, by kernel_rfl, (.cons rfl rfl rfl rfl rfl (.i2 (.cons (.s rfl) (.cons (.s rfl) (.cons .im .nil)))) (.cons rfl rfl rfl rfl rfl (RnL.ims _) (.cons rfl rfl rfl rfl rfl (RnL.ims _) .nil))), (.tup .nil .nil), ?_⟩
 change OpsW _ _ _ _ ((18, .tup []) :: (Z4d t1)) ((2000, ⟨0, true, 104, 5, [slA Y2 x4.f_, .j x4.at_, .rsl 3000 1 0 x4.level_.length, .rsl 3001 1 0 x4.cells_.length, .im (.mp (mapV Y8))]⟩) :: (Z4h x4)) _
 refine Y3 0 [] [] (OpsW.rc [] [(2000, ⟨0, true, 104, 5, [slA Y2 x4.f_, .j x4.at_, .rsl 3000 0 0 x4.level_.length, .rsl 3001 0 0 x4.cells_.length, .im (.mp (mapV Y8))]⟩), (3000, rtA 0 41 1 (eI .u8) x4.level_), (3001, rtA 0 41 1 (eI .u8) x4.cells_)] (StC.mk (phi [(2000, some 2000), (3000, some 3000), (3001, some 3001)]) (.o rfl (.i2 (.cons (.s rfl) (.cons (.s rfl) (.cons .im .nil)))) (.o rfl (CstL.ims _) (.o rfl (CstL.ims _) .nil))) rfl .nil) (Y1 ?_))
 obtain rfl := X5 H
 show ∃ en' hp', StC _ _ en' hp' ∧ Done _ _ _ .normal en' hp'
 refine ⟨[], ((2000, ⟨0, true, 104, 5, [slA Y2 x4.f_, .j x4.at_, .rsl 3000 1 0 x4.level_.length, .rsl 3001 1 0 x4.cells_.length, .im (.mp (mapV Y8))]⟩) :: (Z4h x4)), (StC.mk (phi [(2000, some 2000), (3000, some 3000), (3001, some 3001)]) (.o rfl (.i2 (.cons (.s rfl) (.cons (.s rfl) (.cons .im .nil)))) (.o rfl (CstL.ims _) (.o rfl (CstL.ims _) .nil))) rfl .nil), ?_⟩
 refine Y45 rfl .nil ?_
 exact ⟨by kernel_rfl, by kernel_rfl⟩
def Yq : Nat → Y5 → Int → Option Y5
 | 0, _, _ => none
 | n + 1, t0, t1 => Y0j (Yq n) t0 t1
theorem Y57 : ∀ n : Nat, (∀ (t0 : Y5) (t1 : Int) (r : Y5), Yq n t0 t1 = some r → Abs.Spec Tryd.prog 101 [.ref 2000 0 0, .int .i64 t1] [(2000, ⟨0, true, 104, 5, [slA Y2 t0.f_, .int .i64 t0.at_, .rsl 3000 0 0 t0.level_.length, .rsl 3001 0 0 t0.cells_.length, .im (.mp (mapV Y8))]⟩), (3000, rtA 0 41 1 (eI .u8) t0.level_), (3001, rtA 0 41 1 (eI .u8) t0.cells_)] (fun x h => x = .tup [] ∧ h = [(2000, ⟨0, true, 104, 5, [slA Y2 r.f_, .int .i64 r.at_, .rsl 3000 1 0 r.level_.length, .rsl 3001 1 0 r.cells_.length, .im (.mp (mapV Y8))]⟩), (3000, rtA 1 41 1 (eI .u8) r.level_), (3001, rtA 1 41 1 (eI .u8) r.cells_)])) ∧ True
 | 0 => by
  refine ⟨?_, trivial⟩
  ·intro t0 t1 r H; rw [Yq] at H; cases H
 | n + 1 => by
  have ih := Y57 n
  refine ⟨?_, trivial⟩
  ·intro t0 t1 r H; rw [Yq] at H; exact f_linear_writer_number_body_io ih.1 H
def Y3g (t0 : Y5) (t1 : Int) : Option Y5 := Yq 1000000 t0 t1
theorem f_linear_writer_number_io {t0 : Y5} {t1 : Int} {r : Y5} (H : Y3g t0 t1 = some r) : Abs.Spec Tryd.prog 101 [.ref 2000 0 0, .int .i64 t1] [(2000, ⟨0, true, 104, 5, [slA Y2 t0.f_, .int .i64 t0.at_, .rsl 3000 0 0 t0.level_.length, .rsl 3001 0 0 t0.cells_.length, .im (.mp (mapV Y8))]⟩), (3000, rtA 0 41 1 (eI .u8) t0.level_), (3001, rtA 0 41 1 (eI .u8) t0.cells_)] (fun x h => x = .tup [] ∧ h = [(2000, ⟨0, true, 104, 5, [slA Y2 r.f_, .int .i64 r.at_, .rsl 3000 1 0 r.level_.length, .rsl 3001 1 0 r.cells_.length, .im (.mp (mapV Y8))]⟩), (3000, rtA 1 41 1 (eI .u8) r.level_), (3001, rtA 1 41 1 (eI .u8) r.cells_)]) :=
 (Y57 1000000).1 t0 t1 r H
def Y08 (t0 : Y5) : Option Y5 :=
 G (room 1 (t0.cells_.length + t0.level_.length)) <|
 some (⟨t0.f_, t0.at_, t0.level_, t0.cells_ ++ t0.level_, ()⟩ : Y5)
section
variable (t0 : Y5)
abbrev Z4m := t0.cells_ ++ t0.level_
abbrev Z4l : Hp := [(3000, rtA 0 41 1 (eI .u8) t0.level_), (3001, rtA 0 41 1 (eI .u8) t0.cells_)]
end
theorem Y34  {t0 : Y5} {r : Y5} (H : Y08 t0 = some r) : Abs.Spec Tryd.prog 100 [.ref 2000 0 0, .rsl 3000 0 0 t0.level_.length] [(2000, ⟨0, true, 104, 5, [slA Y2 t0.f_, .int .i64 t0.at_, .rsl 3000 0 0 t0.level_.length, .rsl 3001 0 0 t0.cells_.length, .im (.mp (mapV Y8))]⟩), (3000, rtA 0 41 1 (eI .u8) t0.level_), (3001, rtA 0 41 1 (eI .u8) t0.cells_)] (fun x h => x = .tup [] ∧ h = [(2000, ⟨0, true, 104, 5, [slA Y2 r.f_, .int .i64 r.at_, .rsl 3000 1 0 r.level_.length, .rsl 3001 1 0 r.cells_.length, .im (.mp (mapV Y8))]⟩), (3000, rtA 1 41 1 (eI .u8) r.level_), (3001, rtA 1 41 1 (eI .u8) r.cells_)]) := by
 refine Yh Tryd.func100 rfl (by simp [Tryd.ntmps100]) ?_
 rw [Tryd.ntmps100]
 unfold Y08 at H
 change AW _ _ _ [(0, .ref 2000 0 0), (1, .rsl 3000 0 0 t0.level_.length)] ((2000, ⟨0, true, 104, 5, [slA Y2 t0.f_, .j t0.at_, .rsl 3000 0 0 t0.level_.length, .rsl 3001 0 0 t0.cells_.length, .im (.mp (mapV Y8))]⟩) :: (Z4l t0)) _
 refine AW.endcast ?_
 refine Yd (Y3 2 [5, 4, 1] [(5, .ref 2000 0 0), (4, .ref 2000 0 0), (1, .rsl 3000 0 0 t0.level_.length)] ?_)
 refine OpsW.quietU (.ref 2000 0 0) rfl rfl (Quiet.nilCheck rfl (gpoU rfl ⟨trivial, rfl, rfl⟩)) (Y3 3 [9, 8, 4] [(9, .rsl 3000 0 0 t0.level_.length), (8, .rsl 3001 0 0 t0.cells_.length), (4, .ref 2000 0 0)] ?_)
 have ⟨g1, H⟩ := Ye H
 refine Y46 (enc := eI .u8) (ys := t0.level_) rfl rfl rfl E39 (fun _ => rfl) rfl rfl trivial (SrcA.rootF (enc := eI .u8) (fun _ => rfl) (by kernel_rfl) rfl) rfl g1 (OpsW.quietU (.ref 2000 0 0) rfl rfl (Quiet.nilCheck rfl (gpoU rfl ⟨trivial, rfl, rfl⟩)) (Y3 1 [12, 10] [(12, .ref 2000 0 3), (10, .rsl 3001 1 0 ((Z4m t0).length))] (OpsW.store rfl rfl rfl rfl trivial trivial rfl rfl rfl (by kernel_rfl) (Yx (by kernel_rfl)) (X00 (by kernel_rfl)) ?_)))
 change OpsW _ _ _ _ _ ((2000, ⟨0, true, 104, 5, [slA Y2 t0.f_, .j t0.at_, .rsl 3000 0 0 t0.level_.length, .rsl 3001 1 0 ((Z4m t0).length), .im (.mp (mapV Y8))]⟩) :: (3001, rtA 1 41 1 (eI .u8) (Z4m t0)) :: (2000, ⟨0, true, 104, 5, [slA Y2 t0.f_, .j t0.at_, .rsl 3000 0 0 t0.level_.length, .rsl 3001 0 0 t0.cells_.length, .im (.mp (mapV Y8))]⟩) :: (Z4l t0)) _
 refine Y3 0 [] [] (OpsW.rc [] [(2000, ⟨0, true, 104, 5, [slA Y2 t0.f_, .j t0.at_, .rsl 3000 0 0 t0.level_.length, .rsl 3001 0 0 ((Z4m t0).length), .im (.mp (mapV Y8))]⟩), (3000, rtA 0 41 1 (eI .u8) t0.level_), (3001, rtA 0 41 1 (eI .u8) (Z4m t0))] (StC.mk (phi [(2000, some 2000), (3000, some 3000), (3001, some 3001)]) (.o rfl (.i2 (.cons (.s rfl) (.cons (.s rfl) (.cons .im .nil)))) (.o rfl (CstL.ims _) (.o rfl (CstL.ims _) .nil))) rfl .nil) (Y1 ?_))
 obtain rfl := X5 H
 show ∃ en' hp', StC _ _ en' hp' ∧ Done _ _ _ .normal en' hp'
 refine ⟨[], [(2000, ⟨0, true, 104, 5, [slA Y2 t0.f_, .j t0.at_, .rsl 3000 1 0 t0.level_.length, .rsl 3001 1 0 ((Z4m t0).length), .im (.mp (mapV Y8))]⟩), (3000, rtA 1 41 1 (eI .u8) t0.level_), (3001, rtA 1 41 1 (eI .u8) (Z4m t0))], (StC.mk (phi [(2000, some 2000), (3000, some 3000), (3001, some 3001)]) (.o rfl (.i2 (.cons (.s rfl) (.cons (.s rfl) (.cons .im .nil)))) (.o rfl (CstL.ims _) (.o rfl (CstL.ims _) .nil))) rfl .nil), ?_⟩
 refine Y45 rfl .nil ?_
 exact ⟨by kernel_rfl, by kernel_rfl⟩
end Go.Proofs.YtioockkejhpleaaDoor
