/- Own work. -/
import Derived.Test.YtkgfbpbndmklnaaDoorW2
set_option linter.unusedSimpArgs false
set_option linter.unusedVariables false
set_option maxRecDepth 100000
namespace Go.Proofs.YtkgfbpbndmklnaaDoor
open Go.Abs
def Y3w (t0 : List Y4) (t1 : List Y4) (loop3 : (Int) → Option Bool) (v2 : Int) : Option Bool :=
 cond (decide (v2 < (t0.length : Int))) (
  G (0 ≤ v2 ∧ v2 < (t0.length : Int)) <|
  G (0 ≤ v2 ∧ v2 < (t1.length : Int)) <|
  cond (xor true ([((t0.getD v2.toNat Yf).Op) == ((t1.getD v2.toNat Yf).Op), ((t0.getD v2.toNat Yf).N) == ((t1.getD v2.toNat Yf).N)].all id)) (
   some false) (
   G (inR (v2 + 1)) <|
   loop3 (v2 + 1))) (
  some true)
def f_R09_Same (t0 : List Y4) (t1 : List Y4) : Option Bool :=
 cond ((t0.length : Int) != (t1.length : Int)) (
  some false) (
  iter (fun loop (s : Int) => Y3w t0 t1 loop s) 1000000 (0 : Int))
section
variable (t0 : List Y4) (t1 : List Y4) (v2 : Int)
abbrev Z3j := [((t0.getD v2.toNat Yf).Op) == ((t1.getD v2.toNat Yf).Op), ((t0.getD v2.toNat Yf).N) == ((t1.getD v2.toNat Yf).N)].all id
abbrev Z3k := t0.getD v2.toNat Yf
abbrev Z3l := t1.getD v2.toNat Yf
abbrev Z3g : Env := [(19, .ipt (t0.flatMap Y3) (v2.toNat * 2)), (18, .j v2), (17, slA Y3 t0), (14, .bool (decide (v2 < (t0.length : Int)))), (0, slA Y3 t0), (1, slA Y3 t1), (5, .j v2)]
abbrev Z3h : Env := [(0, slA Y3 t0), (1, slA Y3 t1)]
abbrev Z3i : Env := [(0, slA Y3 t0), (1, slA Y3 t1), (5, .j v2)]
end
theorem f_R09_Same_ok  {t0 : List Y4} {t1 : List Y4} {r : Bool} (H : f_R09_Same t0 t1 = some r) : QSpec Tryd.prog 17 [slA Y3 t0, slA Y3 t1] (.bool r) := by
 refine Y04 Tryd.func17 rfl (by simp [Tryd.ntmps17]) ?_
 rw [Tryd.ntmps17]
 unfold f_R09_Same at H
 change AW _ _ _ (Z3h t0 t1) [] _
 refine Y0 (OpsW.sg 1 [0, 1] (Z3h t0 t1) ?_)
 refine Y2 (Y0e (Y0 (OpsW.sg 5 [10, 0, 1] ((10, .bool ((t0.length : Int) != (t1.length : Int))) :: (Z3h t0 t1)) ?_)))
 refine Y2 (Yb (b := (t0.length : Int) != (t1.length : Int)) H rfl (fun c1 H => ?_) (fun c1 H => ?_))
 ·refine Y0 (OpsW.sg 1 [4] [(4, .bool false)] ?_)
  refine Y2 ?_
  obtain rfl := X7 H
  refine AW.recast (env' := [(4, .bool false)]) (h' := []) (StC.pure (.cons .im .nil)) (Yx ?_)
  try simp only [Ex.t, Ex.b]
  exact Done.eq rfl (.tmp .nil)
 refine Yg (Y0e (Y0 (OpsW.sg 1 [5, 0, 1] ((5, .j (0 : Int)) :: (Z3h t0 t1)) ?_)))
 refine Y2 (Y0g ?_)
 refine Y4i (fun loop (s : Int) => Y3w t0 t1 loop s) r (fun (s : Int) => [(0, slA Y3 t0), (1, slA Y3 t1), (5, .j s)]) (fun (s : Int) => []) ?_ 1000000 (0 : Int) H (StC.pure (.i3 .nil))
 intro loop3 v2 H
 unfold Y3w at H
 change AW _ _ _ (Z3i t0 t1 v2) [] _
 refine Y0e (Y0 (OpsW.sg 4 [14, 0, 1, 5] ((14, .bool (decide (v2 < (t0.length : Int)))) :: (Z3i t0 t1 v2)) ?_))
 refine Y2 (Yb (b := decide (v2 < (t0.length : Int))) H rfl (fun c4 H => ?_) (fun c4 H => ?_))
 ·refine Yg (Y0e (Y0g (Y2n Tryd.checked.mixed (by kernel_rfl) ?_)))
  have ⟨g5, H⟩ := Yt H
  refine QOps.sz (N := 26) 3 (Z3g t0 t1 v2) ⟨g5, trivial⟩ (QOps.asU (.agg [.j ((Z3k t0 v2).Op), .j ((Z3k t0 v2).N)]) rfl (T.loadAgg (cs := t0.flatMap Y3) (off := v2.toNat * 2) (ds := Y3 (Z3k t0 v2)) rfl trivial (by kernel_rfl) (by have := Y15 Y3 2 (fun _ => rfl) t0; have := (ltN g5); first | omega | (simp only [Z3k] at *; omega)) (fm_elem Y3 2 (fun _ => rfl) t0 Yf v2.toNat (ltN g5))) ?_)
  have ⟨g6, H⟩ := Yt H
  refine QOps.sz (N := 26) 3 ((23, .ipt (t1.flatMap Y3) (v2.toNat * 2)) :: (22, .j v2) :: (21, slA Y3 t1) :: (20, .agg [.j ((Z3k t0 v2).Op), .j ((Z3k t0 v2).N)]) :: (Z3g t0 t1 v2)) ⟨g6, trivial⟩ (QOps.asU (.agg [.j ((Z3l t1 v2).Op), .j ((Z3l t1 v2).N)]) rfl (T.loadAgg (cs := t1.flatMap Y3) (off := v2.toNat * 2) (ds := Y3 (Z3l t1 v2)) rfl trivial (by kernel_rfl) (by have := Y15 Y3 2 (fun _ => rfl) t1; have := (ltN g6); first | omega | (simp only [Z3j, Z3k, Z3l] at *; omega)) (fm_elem Y3 2 (fun _ => rfl) t1 Yf v2.toNat (ltN g6))) (QOps.quietU (.bool (xor true (Z3j t0 t1 v2))) rfl (Quiet.eqAgg [.j ((Z3k t0 v2).Op), .j ((Z3k t0 v2).N)] [.j ((Z3l t1 v2).Op), .j ((Z3l t1 v2).N)] [((Z3k t0 v2).Op) == ((Z3l t1 v2).Op), ((Z3k t0 v2).N) == ((Z3l t1 v2).N)] true rfl rfl (by kernel_rfl) (by kernel_rfl) (gpoU rfl ⟨trivial, rfl, trivial, rfl⟩)) ?_))
  refine QOps.nil (AW.trim [25, 0, 1, 5] ((25, .bool (xor true (Z3j t0 t1 v2))) :: (Z3i t0 t1 v2)) (by kernel_rfl) ?_)
  refine Yb (b := xor true (Z3j t0 t1 v2)) H rfl (fun c7 H => ?_) (fun c7 H => ?_)
  ·refine Y0 (OpsW.sg 1 [4] [(4, .bool false)] ?_)
   refine Y2 ?_
   obtain rfl := X7 H
   refine AW.recast (env' := [(4, .bool false)]) (h' := []) (StC.pure (.cons .im .nil)) (Yx ?_)
   try simp only [Ex.t, Ex.b]
   exact Done.eq rfl (.tmp .nil)
  refine Yg (Yu ?_)
  have ⟨g8, H⟩ := Yt H
  refine OpsW.sz 3 [5, 0, 1] ((5, .j (v2 + 1)) :: (Z3h t0 t1)) ⟨g8, trivial⟩ (Y2 ?_)
  exact ⟨v2 + 1, H, (StC.pure (.i3 .nil))⟩
 refine AW.exit <| Y0 (OpsW.sg 1 [4] [(4, .bool true)] ?_)
 refine Y2 ?_
 obtain rfl := X7 H
 refine AW.recast (env' := [(4, .bool true)]) (h' := []) (StC.pure (.cons .im .nil)) (Yx ?_)
 try simp only [Ex.t, Ex.b]
 exact Done.eq rfl (.tmp .nil)
def Y4g  : Option (Int × Bool) :=
 some ((0 : Int), false)
def Y0y (t0 : Y4) (v5 : Bool) : Option (Int × Bool) :=
 cond v5 (
  some ((1 : Int), t0.N == 0)) (
  cond (t0.Op == 12) (
   cond (cond (decide (t0.N < 2)) true (decide (5 < t0.N))) (
    some ((0 : Int), false)) (
    G (inR (t0.N + 1)) <|
    some (t0.N + 1, true))) (
   cond (t0.Op == 13) (
    cond (decide (t0.N < 0)) (
     some ((0 : Int), false)) (
     G (inR (Int.tdiv t0.N (8 : Int))) <|
     G (inR ((Int.tdiv t0.N (8 : Int)) * (Int.tmod t0.N (8 : Int)))) <|
     some ((Int.tdiv t0.N (8 : Int)) * (Int.tmod t0.N (8 : Int)), cond (cond (cond (decide ((1 : Int) ≤ (Int.tdiv t0.N (8 : Int)))) (decide ((Int.tdiv t0.N (8 : Int)) ≤ 4)) false) (decide ((1 : Int) ≤ (Int.tmod t0.N (8 : Int)))) false) (decide ((Int.tmod t0.N (8 : Int)) ≤ 4)) false))) (
    Y4g)))
def Yz (t0 : Y4) (v3 : Bool) : Option (Int × Bool) :=
 cond v3 (
  some ((2 : Int), t0.N == 0)) (
  cond (t0.Op == 9) (
   Y0y t0 (t0.Op == 9)) (
   cond (t0.Op == 10) (
    Y0y t0 (t0.Op == 10)) (
    Y0y t0 (t0.Op == 11))))
def Y1a (t0 : Y4) : Option (Int × Bool) :=
 cond (t0.Op == 0) (
  some ((0 : Int), cond (decide (0 ≤ t0.N)) (decide (t0.N ≤ 99999)) false)) (
  cond (t0.Op == 1) (
   some ((0 : Int), cond (decide (0 ≤ t0.N)) (decide (t0.N ≤ 25)) false)) (
   cond (t0.Op == 2) (
    Yz t0 (t0.Op == 2)) (
    cond (t0.Op == 3) (
     Yz t0 (t0.Op == 3)) (
     cond (t0.Op == 4) (
      Yz t0 (t0.Op == 4)) (
      cond (t0.Op == 5) (
       Yz t0 (t0.Op == 5)) (
       cond (t0.Op == 6) (
        Yz t0 (t0.Op == 6)) (
        cond (t0.Op == 7) (
         Yz t0 (t0.Op == 7)) (
         Yz t0 (t0.Op == 8)))))))))
section
variable (t0 : Y4)
abbrev Z3o := (cond (cond (cond (decide ((1 : Int) ≤ (Int.tdiv t0.N (8 : Int)))) (decide ((Int.tdiv t0.N (8 : Int)) ≤ 4)) false) (decide ((1 : Int) ≤ (Int.tmod t0.N (8 : Int)))) false) (decide ((Int.tmod t0.N (8 : Int)) ≤ 4)) false)
abbrev Z3p := decide (0 ≤ t0.N)
abbrev Z3q : Nat × AV := (1, .ref 1 0 0)
abbrev Z3r : Nat × AV := (2, .j (0 : Int))
abbrev Z3s := cond (Z3p t0) (decide (t0.N ≤ 99999)) false
abbrev Z3t := cond (Z3p t0) (decide (t0.N ≤ 25)) false
abbrev Z3u := (Int.tmod t0.N (8 : Int))
abbrev Z3v := (Int.tdiv t0.N (8 : Int))
abbrev Z3w : Nat × AV := (3, .bool (t0.N == 0))
abbrev Z3m : Env := [(7, .j t0.Op), Z3q]
abbrev Z3n : Hp := [(1, ⟨0, true, 26, 2, [.j t0.Op, .j t0.N]⟩)]
end
theorem f_formula_arity_ok  {t0 : Y4} {r : Int × Bool} (H : Y1a t0 = some r) : QSpec Tryd.prog 35 [.agg [.int .i64 t0.Op, .int .i64 t0.N]] (.tup [.int .i64 r.1, .bool r.2]) := by
 refine Y04 Tryd.func35 rfl (by simp [Tryd.ntmps35]) ?_
 rw [Tryd.ntmps35]
 unfold Y1a at H
 change AW _ _ _ [(0, .agg [.j t0.Op, .j t0.N])] [] _
 refine Y0 (OpsW.box rfl rfl rfl 1 rfl (Y23 (by kernel_rfl)) ?_)
 change OpsW _ _ _ _ _ (Z3n t0) _
 refine OpsW.sg 2 [1] [Z3q] (Y2 ?_)
 refine Y22 (fun (y : Unit) => Y4g) r (fun (y : Unit) => []) (fun (y : Unit) => []) ?_ ?_
 ·refine Y0 (OpsW.sg 2 [7, 1] (Z3m t0) ?_)
  refine Y2 (Y0g (Y0 (OpsW.sg 2 [8, 7, 1] ((8, .bool (t0.Op == 0)) :: (Z3m t0)) ?_)))
  refine Y2 (Yb (b := t0.Op == 0) H rfl (fun c1 H => ?_) (fun c1 H => ?_))
  ·refine Y2n Tryd.checked.mixed (by kernel_rfl) <| QOps.sz (N := 87) 10 ((3, .bool (Z3s t0)) :: Z3r :: (17, .bool (Z3s t0)) :: (16, .cnd (Z3p t0) (.bool (decide (t0.N ≤ 99999)))) :: (15, .cnd (Z3p t0) (.j t0.N)) :: (14, .cnd (Z3p t0) (.ref 1 0 1)) :: (13, .bool (Z3p t0)) :: (12, .bool (Z3p t0)) :: (11, .j t0.N) :: (10, .ref 1 0 1) :: (8, .bool (t0.Op == 0)) :: (Z3m t0)) ⟨(fun h => h), (fun h => h), (fun h => by first | exact h | (simpa using h) | grind), trivial⟩ ?_
   refine QOps.nil (AW.trim [3, 2] [(3, .bool (Z3s t0)), Z3r] (by kernel_rfl) ?_)
   obtain rfl := X7 H
   refine AW.recast (env' := [Z3r, (3, .bool (Z3s t0))]) (h' := []) (StC.pure (.i2 .nil)) (Yx ?_)
   try simp only [Ex.t, Ex.b]
   exact Done.eq rfl (.tmp (.tmp .nil))
  refine Y0 (OpsW.sg 2 [18, 7, 1] ((18, .bool (t0.Op == 1)) :: (Z3m t0)) ?_)
  refine Y2 (Yb (b := t0.Op == 1) H rfl (fun c2 H => ?_) (fun c2 H => ?_))
  ·refine Y2n Tryd.checked.mixed (by kernel_rfl) <| QOps.sz (N := 87) 10 ((3, .bool (Z3t t0)) :: Z3r :: (27, .bool (Z3t t0)) :: (26, .cnd (Z3p t0) (.bool (decide (t0.N ≤ 25)))) :: (25, .cnd (Z3p t0) (.j t0.N)) :: (24, .cnd (Z3p t0) (.ref 1 0 1)) :: (23, .bool (Z3p t0)) :: (22, .bool (Z3p t0)) :: (21, .j t0.N) :: (20, .ref 1 0 1) :: (18, .bool (t0.Op == 1)) :: (Z3m t0)) ⟨(fun h => h), (fun h => h), (fun h => by first | exact h | (simpa using h) | grind), trivial⟩ ?_
   refine QOps.nil (AW.trim [3, 2] [(3, .bool (Z3t t0)), Z3r] (by kernel_rfl) ?_)
   obtain rfl := X7 H
   refine AW.recast (env' := [Z3r, (3, .bool (Z3t t0))]) (h' := []) (StC.pure (.i2 .nil)) (Yx ?_)
   try simp only [Ex.t, Ex.b]
   exact Done.eq rfl (.tmp (.tmp .nil))
  refine Y22 (fun (y : Bool) => Yz t0 y) r (fun (y : Bool) => [Z3q, (7, .j t0.Op), (28, .bool y)]) (fun (y : Bool) => (Z3n t0)) ?_ ?_
  ·refine Y0 (OpsW.sg 2 [28, 7, 1] ((28, .bool (t0.Op == 2)) :: (Z3m t0)) ?_)
   refine Y2 (Yb (b := t0.Op == 2) H rfl (fun c16 H => ?_) (fun c16 H => ?_))
   ·refine Yg ?_
    exact ⟨t0.Op == 2, H, (StC.mk (phi [(1, some 1)]) (.o rfl (.i2 .nil) .nil) rfl (.cons (.r rfl) (.i2 .nil)))⟩
   refine Y0 (OpsW.sg 2 [28, 7, 1] ((28, .bool (t0.Op == 3)) :: (Z3m t0)) ?_)
   refine Y2 (Yb (b := t0.Op == 3) H rfl (fun c17 H => ?_) (fun c17 H => ?_))
   ·refine Yg ?_
    exact ⟨t0.Op == 3, H, (StC.mk (phi [(1, some 1)]) (.o rfl (.i2 .nil) .nil) rfl (.cons (.r rfl) (.i2 .nil)))⟩
   refine Y0 (OpsW.sg 2 [28, 7, 1] ((28, .bool (t0.Op == 4)) :: (Z3m t0)) ?_)
   refine Y2 (Yb (b := t0.Op == 4) H rfl (fun c18 H => ?_) (fun c18 H => ?_))
   ·refine Yg ?_
    exact ⟨t0.Op == 4, H, (StC.mk (phi [(1, some 1)]) (.o rfl (.i2 .nil) .nil) rfl (.cons (.r rfl) (.i2 .nil)))⟩
   refine Y0 (OpsW.sg 2 [28, 7, 1] ((28, .bool (t0.Op == 5)) :: (Z3m t0)) ?_)
   refine Y2 (Yb (b := t0.Op == 5) H rfl (fun c19 H => ?_) (fun c19 H => ?_))
   ·refine Yg ?_
    exact ⟨t0.Op == 5, H, (StC.mk (phi [(1, some 1)]) (.o rfl (.i2 .nil) .nil) rfl (.cons (.r rfl) (.i2 .nil)))⟩
   refine Y0 (OpsW.sg 2 [28, 7, 1] ((28, .bool (t0.Op == 6)) :: (Z3m t0)) ?_)
   refine Y2 (Yb (b := t0.Op == 6) H rfl (fun c20 H => ?_) (fun c20 H => ?_))
   ·refine Yg ?_
    exact ⟨t0.Op == 6, H, (StC.mk (phi [(1, some 1)]) (.o rfl (.i2 .nil) .nil) rfl (.cons (.r rfl) (.i2 .nil)))⟩
   refine Y0 (OpsW.sg 2 [28, 7, 1] ((28, .bool (t0.Op == 7)) :: (Z3m t0)) ?_)
   refine Y2 (Yb (b := t0.Op == 7) H rfl (fun c21 H => ?_) (fun c21 H => ?_))
   ·refine Yg ?_
    exact ⟨t0.Op == 7, H, (StC.mk (phi [(1, some 1)]) (.o rfl (.i2 .nil) .nil) rfl (.cons (.r rfl) (.i2 .nil)))⟩
   refine Yu (OpsW.sg 2 [28, 7, 1] ((28, .bool (t0.Op == 8)) :: (Z3m t0)) ?_)
   refine Y2 ?_
   exact ⟨t0.Op == 8, H, (StC.mk (phi [(1, some 1)]) (.o rfl (.i2 .nil) .nil) rfl (.cons (.r rfl) (.i2 .nil)))⟩
  intro v3 H
  unfold Yz at H
  change AW _ _ _ [Z3q, (7, .j t0.Op), (28, .bool v3)] (Z3n t0) _
  refine Yb (b := v3) H rfl (fun c4 H => ?_) (fun c4 H => ?_)
  ·refine Y2n Tryd.checked.mixed (by kernel_rfl) <| QOps.sz (N := 87) 5 [(Z3w t0), (2, .j (2 : Int)), (38, .bool (t0.N == 0)), (37, .j t0.N), (36, .ref 1 0 1), Z3q, (7, .j t0.Op), (28, .bool v3)] trivial <| QOps.nil (AW.trim [3, 2] [(Z3w t0), (2, .j (2 : Int))] (by kernel_rfl) ?_)
   obtain rfl := X7 H
   refine AW.recast (env' := [(2, .j (2 : Int)), (Z3w t0)]) (h' := []) (StC.pure (.i2 .nil)) (Yx ?_)
   try simp only [Ex.t, Ex.b]
   exact Done.eq rfl (.tmp (.tmp .nil))
  refine Y22 (fun (y : Bool) => Y0y t0 y) r (fun (y : Bool) => [Z3q, (7, .j t0.Op), (39, .bool y)]) (fun (y : Bool) => (Z3n t0)) ?_ ?_
  ·refine Y0 (OpsW.sg 2 [39, 1, 7] [(39, .bool (t0.Op == 9)), Z3q, (7, .j t0.Op)] ?_)
   refine Y2 (Yb (b := t0.Op == 9) H rfl (fun c14 H => ?_) (fun c14 H => ?_))
   ·refine Yg ?_
    exact ⟨t0.Op == 9, H, (StC.mk (phi [(1, some 1)]) (.o rfl (.i2 .nil) .nil) rfl (.cons (.r rfl) (.i2 .nil)))⟩
   refine Y0 (OpsW.sg 2 [39, 1, 7] [(39, .bool (t0.Op == 10)), Z3q, (7, .j t0.Op)] ?_)
   refine Y2 (Yb (b := t0.Op == 10) H rfl (fun c15 H => ?_) (fun c15 H => ?_))
   ·refine Yg ?_
    exact ⟨t0.Op == 10, H, (StC.mk (phi [(1, some 1)]) (.o rfl (.i2 .nil) .nil) rfl (.cons (.r rfl) (.i2 .nil)))⟩
   refine Yu (OpsW.sg 2 [39, 1, 7] [(39, .bool (t0.Op == 11)), Z3q, (7, .j t0.Op)] ?_)
   refine Y2 ?_
   exact ⟨t0.Op == 11, H, (StC.mk (phi [(1, some 1)]) (.o rfl (.i2 .nil) .nil) rfl (.cons (.r rfl) (.i2 .nil)))⟩
  intro v5 H
  unfold Y0y at H
  change AW _ _ _ [Z3q, (7, .j t0.Op), (39, .bool v5)] (Z3n t0) _
  refine Yb (b := v5) H rfl (fun c6 H => ?_) (fun c6 H => ?_)
  ·refine Y2n Tryd.checked.mixed (by kernel_rfl) <| QOps.sz (N := 87) 5 [(Z3w t0), (2, .j (1 : Int)), (45, .bool (t0.N == 0)), (44, .j t0.N), (43, .ref 1 0 1), Z3q, (7, .j t0.Op), (39, .bool v5)] trivial <| QOps.nil (AW.trim [3, 2] [(Z3w t0), (2, .j (1 : Int))] (by kernel_rfl) ?_)
   obtain rfl := X7 H
   refine AW.recast (env' := [(2, .j (1 : Int)), (Z3w t0)]) (h' := []) (StC.pure (.i2 .nil)) (Yx ?_)
   try simp only [Ex.t, Ex.b]
   exact Done.eq rfl (.tmp (.tmp .nil))
  refine Y0 (OpsW.sg 2 [46, 1, 7] [(46, .bool (t0.Op == 12)), Z3q, (7, .j t0.Op)] ?_)
  refine Y2 (Yb (b := t0.Op == 12) H rfl (fun c7 H => ?_) (fun c7 H => ?_))
  ·refine Y0e (Y0 (OpsW.sz 8 [55, 1] [(55, .bool (cond (decide (t0.N < 2)) true (decide (5 < t0.N)))), Z3q] ⟨(fun h => h), (fun h => h), (fun h => by first | exact h | (simpa using h) | grind), trivial⟩ ?_))
   refine Y2 (Yb (b := cond (decide (t0.N < 2)) true (decide (5 < t0.N))) H rfl (fun c8 H => ?_) (fun c8 H => ?_))
   ·refine Y0 (OpsW.sg 2 [3, 2] [(3, .bool false), Z3r] ?_)
    refine Y2 ?_
    obtain rfl := X7 H
    refine AW.recast (env' := [Z3r, (3, .bool false)]) (h' := []) (StC.pure (.i2 .nil)) (Yx ?_)
    try simp only [Ex.t, Ex.b]
    exact Done.eq rfl (.tmp (.tmp .nil))
   refine Yg (Y0 ?_)
   have ⟨g9, H⟩ := Yt H
   refine OpsW.sz 5 [3, 2] [(3, .bool true), (2, .j (t0.N + 1))] ⟨g9, trivial⟩ (Y2 ?_)
   obtain rfl := X7 H
   refine AW.recast (env' := [(2, .j (t0.N + 1)), (3, .bool true)]) (h' := []) (StC.pure (.i2 .nil)) (Yx ?_)
   try simp only [Ex.t, Ex.b]
   exact Done.eq rfl (.tmp (.tmp .nil))
  refine Y0 (OpsW.sg 2 [59, 1] [(59, .bool (t0.Op == 13)), Z3q] ?_)
  refine Y2 (Yb (b := t0.Op == 13) H rfl (fun c10 H => ?_) (fun c10 H => ?_))
  ·refine Y0e (Y0 (OpsW.sg 3 [63, 1] [(63, .bool (decide (t0.N < 0))), Z3q] ?_))
   refine Y2 (Yb (b := decide (t0.N < 0)) H rfl (fun c11 H => ?_) (fun c11 H => ?_))
   ·refine Y0 (OpsW.sg 2 [3, 2] [(3, .bool false), Z3r] ?_)
    refine Y2 ?_
    obtain rfl := X7 H
    refine AW.recast (env' := [Z3r, (3, .bool false)]) (h' := []) (StC.pure (.i2 .nil)) (Yx ?_)
    try simp only [Ex.t, Ex.b]
    exact Done.eq rfl (.tmp (.tmp .nil))
   refine Yg (Y2n Tryd.checked.mixed (by kernel_rfl) ?_)
   have ⟨g12, H⟩ := Yt H
   refine QOps.sz (N := 87) 8 [(5, .j (Z3u t0)), (4, .j (Z3v t0)), (69, .j (Z3u t0)), (68, .j t0.N), (67, .ref 1 0 1), (66, .j (Z3v t0)), (65, .j t0.N), (64, .ref 1 0 1), (63, .bool (decide (t0.N < 0))), Z3q] ⟨(by decide), g12, (by decide), trivial⟩ <| QOps.nil (AW.trim [5, 4] [(5, .j (Z3u t0)), (4, .j (Z3v t0))] (by kernel_rfl) ?_)
   refine Y0 ?_
   have ⟨g13, H⟩ := Yt H
   refine OpsW.sz 19 [3, 2] [(3, .bool (Z3o t0)), (2, .j ((Z3v t0) * (Z3u t0)))] ⟨g13, (fun h => h), (fun h => by first | exact h | (simpa using h) | grind), (fun h => h), (fun h => by first | exact h | (simpa using h) | grind), (fun h => h), (fun h => by first | exact h | (simpa using h) | grind), trivial⟩ (Y2 ?_)
   obtain rfl := X7 H
   refine AW.recast (env' := [(2, .j ((Z3v t0) * (Z3u t0))), (3, .bool (Z3o t0))]) (h' := []) (StC.pure (.i2 .nil)) (Yx ?_)
   try simp only [Ex.t, Ex.b]
   exact Done.eq rfl (.tmp (.tmp .nil))
  refine Yg ?_
  exact ⟨(), H, (StC.pure .nil)⟩
 rintro ⟨⟩ H
 unfold Y4g at H
 change AW _ _ _ [] [] _
 refine Y0 (OpsW.sg 2 [3, 2] [(3, .bool false), Z3r] ?_)
 refine Y2 ?_
 obtain rfl := X7 H
 refine AW.recast (env' := [Z3r, (3, .bool false)]) (h' := []) (StC.pure (.i2 .nil)) (Yx ?_)
 try simp only [Ex.t, Ex.b]
 exact Done.eq rfl (.tmp (.tmp .nil))
def Y2t  : Option Int :=
 some (4 : Int)
def Y20 (t0 : Int) (v2 : Bool) : Option Int :=
 cond v2 (
  some (2 : Int)) (
  cond (t0 == 4) (
   some (3 : Int)) (
   Y2t))
def Y16 (t0 : Int) : Option Int :=
 cond (t0 == 5) (
  some (1 : Int)) (
  cond (t0 == 2) (
   Y20 t0 (t0 == 2)) (
   Y20 t0 (t0 == 3)))
theorem Y2s  {t0 : Int} {r : Int} (H : Y16 t0 = some r) : QSpec Tryd.prog 68 [.int .i64 t0] (.int .i64 r) := by
 refine Y04 Tryd.func68 rfl (by simp [Tryd.ntmps68]) ?_
 rw [Tryd.ntmps68]
 unfold Y16 at H
 change AW _ _ _ [(0, .j t0)] [] _
 refine Y0 (OpsW.sg 1 [0] [(0, .j t0)] ?_)
 refine Y2 <| Y22 (fun (y : Unit) => Y2t) r (fun (y : Unit) => []) (fun (y : Unit) => []) ?_ ?_
 ·refine Y0 (OpsW.sg 1 [3] [(3, .j t0)] ?_)
  refine Y2 (Y0g (Y0 (OpsW.sg 2 [4, 3] [(4, .bool (t0 == 5)), (3, .j t0)] ?_)))
  refine Y2 (Yb (b := t0 == 5) H rfl (fun c1 H => ?_) (fun c1 H => ?_))
  ·refine Y0 (OpsW.sg 1 [2] [(2, .j (1 : Int))] ?_)
   refine Y2 ?_
   obtain rfl := X7 H
   refine AW.recast (env' := [(2, .j (1 : Int))]) (h' := []) (StC.pure (.cons .im .nil)) (Yx ?_)
   try simp only [Ex.t, Ex.b]
   exact Done.eq rfl (.tmp .nil)
  refine Y22 (fun (y : Bool) => Y20 t0 y) r (fun (y : Bool) => [(3, .j t0), (6, .bool y)]) (fun (y : Bool) => []) ?_ ?_
  ·refine Y0 (OpsW.sg 2 [6, 3] [(6, .bool (t0 == 2)), (3, .j t0)] ?_)
   refine Y2 (Yb (b := t0 == 2) H rfl (fun c5 H => ?_) (fun c5 H => ?_))
   ·refine Yg ?_
    exact ⟨t0 == 2, H, (StC.pure (.i2 .nil))⟩
   refine Yu (OpsW.sg 2 [6, 3] [(6, .bool (t0 == 3)), (3, .j t0)] ?_)
   refine Y2 ?_
   exact ⟨t0 == 3, H, (StC.pure (.i2 .nil))⟩
  intro v2 H
  unfold Y20 at H
  change AW _ _ _ [(3, .j t0), (6, .bool v2)] [] _
  refine Yb (b := v2) H rfl (fun c3 H => ?_) (fun c3 H => ?_)
  ·refine Y0 (OpsW.sg 1 [2] [(2, .j (2 : Int))] ?_)
   refine Y2 ?_
   obtain rfl := X7 H
   refine AW.recast (env' := [(2, .j (2 : Int))]) (h' := []) (StC.pure (.cons .im .nil)) (Yx ?_)
   try simp only [Ex.t, Ex.b]
   exact Done.eq rfl (.tmp .nil)
  refine Y0 (OpsW.sg 2 [9] [(9, .bool (t0 == 4))] ?_)
  refine Y2 (Yb (b := t0 == 4) H rfl (fun c4 H => ?_) (fun c4 H => ?_))
  ·refine Y0 (OpsW.sg 1 [2] [(2, .j (3 : Int))] ?_)
   refine Y2 ?_
   obtain rfl := X7 H
   refine AW.recast (env' := [(2, .j (3 : Int))]) (h' := []) (StC.pure (.cons .im .nil)) (Yx ?_)
   try simp only [Ex.t, Ex.b]
   exact Done.eq rfl (.tmp .nil)
  refine Yg ?_
  exact ⟨(), H, (StC.pure .nil)⟩
 rintro ⟨⟩ H
 unfold Y2t at H
 change AW _ _ _ [] [] _
 refine Y0 (OpsW.sg 1 [2] [(2, .j (4 : Int))] ?_)
 refine Y2 ?_
 obtain rfl := X7 H
 refine AW.recast (env' := [(2, .j (4 : Int))]) (h' := []) (StC.pure (.cons .im .nil)) (Yx ?_)
 try simp only [Ex.t, Ex.b]
 exact Done.eq rfl (.tmp .nil)
def Y3u  : Option Bool :=
 some true
def Y1t (t0 : Y4) (t1 : Int) (t2 : Y4) (v1 : Bool) : Option Bool :=
 cond v1 (
  cond (t1 == 0) (
   (Y16 t2.Op).bind fun x4 =>
   (Y16 t0.Op).bind fun x5 =>
   some (decide (x5 ≤ x4))) (
   (Y16 t2.Op).bind fun x6 =>
   (Y16 t0.Op).bind fun x7 =>
   some (decide (x7 < x6)))) (
  cond (t0.Op == 12) (
   some (t2.Op == 0)) (
   Y3u))
def Y47 (t0 : Y4) (t1 : Int) (t2 : Y4) : Option Bool :=
 cond (t0.Op == 2) (
  Y1t t0 t1 t2 (t0.Op == 2)) (
  cond (t0.Op == 3) (
   Y1t t0 t1 t2 (t0.Op == 3)) (
   cond (t0.Op == 4) (
    Y1t t0 t1 t2 (t0.Op == 4)) (
    Y1t t0 t1 t2 (t0.Op == 5))))
section
variable (t0 : Y4) (t1 : Int) (t2 : Y4)
abbrev Z3x : Env := [(15, .bool (t1 == 0)), (3, .ref 3 0 0), (5, .ref 5 0 0)]
abbrev Z3y : Env := [(5, .ref 5 0 0), (3, .ref 3 0 0), (1, .j t1)]
abbrev Z3z : Hp := [(3, ⟨0, true, 26, 2, [.j t0.Op, .j t0.N]⟩), (5, ⟨0, true, 26, 2, [.j t2.Op, .j t2.N]⟩)]
end
theorem f_formula_admits_ok  {t0 : Y4} {t1 : Int} {t2 : Y4} {r : Bool} (H : Y47 t0 t1 t2 = some r) : QSpec Tryd.prog 55 [.agg [.int .i64 t0.Op, .int .i64 t0.N], .int .i64 t1, .agg [.int .i64 t2.Op, .int .i64 t2.N]] (.bool r) := by
 refine Y04 Tryd.func55 rfl (by simp [Tryd.ntmps55]) ?_
 rw [Tryd.ntmps55]
 unfold Y47 at H
 change AW _ _ _ [(0, .agg [.j t0.Op, .j t0.N]), (1, .j t1), (2, .agg [.j t2.Op, .j t2.N])] [] _
 refine Y0 (OpsW.box rfl rfl rfl 3 rfl (Y23 (by kernel_rfl)) ?_)
 change OpsW _ _ _ _ _ [(3, ⟨0, true, 26, 2, [.j t0.Op, .j t0.N]⟩)] _
 refine OpsW.box rfl rfl rfl 5 rfl (Y23 (by kernel_rfl)) ?_
 change OpsW _ _ _ _ _ [(5, ⟨0, true, 26, 2, [.j t2.Op, .j t2.N]⟩), (3, ⟨0, true, 26, 2, [.j t0.Op, .j t0.N]⟩)] _
 refine OpsW.sg 1 [5, 3, 1] (Z3y t1) (OpsW.rc (Z3y t1) (Z3z t0 t2) (StC.mk (phi [(3, some 3), (5, some 5)]) (.o rfl (.i2 .nil) (.o rfl (.i2 .nil) .nil)) rfl (.cons (.r rfl) (.cons (.r rfl) (.cons .im .nil)))) (Y2 ?_))
 refine Y22 (fun (y : Unit) => Y3u) r (fun (y : Unit) => []) (fun (y : Unit) => []) ?_ ?_
 ·refine Y0 (OpsW.sg 2 [8, 5, 3, 1] ((8, .j t0.Op) :: (Z3y t1)) ?_)
  refine Y2 (Y0g ?_)
  refine Y22 (fun (y : Bool) => Y1t t0 t1 t2 y) r (fun (y : Bool) => [(1, .j t1), (3, .ref 3 0 0), (5, .ref 5 0 0), (8, .j t0.Op), (9, .bool y)]) (fun (y : Bool) => (Z3z t0 t2)) ?_ ?_
  ·refine Y0 (OpsW.sg 2 [9, 8, 5, 3, 1] ((9, .bool (t0.Op == 2)) :: (8, .j t0.Op) :: (Z3y t1)) ?_)
   refine Y2 (Yb (b := t0.Op == 2) H rfl (fun c9 H => ?_) (fun c9 H => ?_))
   ·refine Yg ?_
    exact ⟨t0.Op == 2, H, (StC.mk (phi [(3, some 3), (5, some 5)]) (.o rfl (.i2 .nil) (.o rfl (.i2 .nil) .nil)) rfl (.cons .im (.cons (.r rfl) (.cons (.r rfl) (.i2 .nil)))))⟩
   refine Y0 (OpsW.sg 2 [9, 8, 5, 3, 1] ((9, .bool (t0.Op == 3)) :: (8, .j t0.Op) :: (Z3y t1)) ?_)
   refine Y2 (Yb (b := t0.Op == 3) H rfl (fun c10 H => ?_) (fun c10 H => ?_))
   ·refine Yg ?_
    exact ⟨t0.Op == 3, H, (StC.mk (phi [(3, some 3), (5, some 5)]) (.o rfl (.i2 .nil) (.o rfl (.i2 .nil) .nil)) rfl (.cons .im (.cons (.r rfl) (.cons (.r rfl) (.i2 .nil)))))⟩
   refine Y0 (OpsW.sg 2 [9, 8, 5, 3, 1] ((9, .bool (t0.Op == 4)) :: (8, .j t0.Op) :: (Z3y t1)) ?_)
   refine Y2 (Yb (b := t0.Op == 4) H rfl (fun c11 H => ?_) (fun c11 H => ?_))
   ·refine Yg ?_
    exact ⟨t0.Op == 4, H, (StC.mk (phi [(3, some 3), (5, some 5)]) (.o rfl (.i2 .nil) (.o rfl (.i2 .nil) .nil)) rfl (.cons .im (.cons (.r rfl) (.cons (.r rfl) (.i2 .nil)))))⟩
   refine Yu (OpsW.sg 2 [9, 8, 5, 3, 1] ((9, .bool (t0.Op == 5)) :: (8, .j t0.Op) :: (Z3y t1)) ?_)
   refine Y2 ?_
   exact ⟨t0.Op == 5, H, (StC.mk (phi [(3, some 3), (5, some 5)]) (.o rfl (.i2 .nil) (.o rfl (.i2 .nil) .nil)) rfl (.cons .im (.cons (.r rfl) (.cons (.r rfl) (.i2 .nil)))))⟩
  intro v1 H
  unfold Y1t at H
  change AW _ _ _ [(1, .j t1), (3, .ref 3 0 0), (5, .ref 5 0 0), (8, .j t0.Op), (9, .bool v1)] (Z3z t0 t2) _
  refine Yb (b := v1) H rfl (fun c2 H => ?_) (fun c2 H => ?_)
  ·refine Y0e (Y0 (OpsW.sg 2 [15, 3, 5] (Z3x t1) ?_))
   refine Y2 (Yb (b := t1 == 0) H rfl (fun c3 H => ?_) (fun c3 H => ?_))
   ·refine Y2n Tryd.checked.mixed (by kernel_rfl) <| QOps.sz (N := 35) 2 ((17, .j t2.Op) :: (16, .ref 5 0 0) :: (Z3x t1)) trivial ?_
    have ⟨x4, hx4, H⟩ := Y1j H
    refine QOps.qcall rfl (by kernel_rfl) rfl (Yi trivial) (.cons (.pur rfl) .nil) (Y2s hx4) rfl (QOps.sz (N := 35) 2 ((20, .j t0.Op) :: (19, .ref 3 0 0) :: (18, .j x4) :: (17, .j t2.Op) :: (16, .ref 5 0 0) :: (Z3x t1)) trivial ?_)
    have ⟨x5, hx5, H⟩ := Y1j H
    refine QOps.qcall rfl (by kernel_rfl) rfl (Yi trivial) (.cons (.pur rfl) .nil) (Y2s hx5) rfl (QOps.sz (N := 35) 2 ((6, .bool (decide (x5 ≤ x4))) :: (22, .bool (decide (x5 ≤ x4))) :: (21, .j x5) :: (20, .j t0.Op) :: (19, .ref 3 0 0) :: (18, .j x4) :: (17, .j t2.Op) :: (16, .ref 5 0 0) :: (Z3x t1)) trivial ?_)
    refine QOps.nil (AW.trim [6] [(6, .bool (decide (x5 ≤ x4)))] (by kernel_rfl) ?_)
    obtain rfl := X7 H
    refine AW.recast (env' := [(6, .bool (decide (x5 ≤ x4)))]) (h' := []) (StC.pure (.cons .im .nil)) (Yx ?_)
    try simp only [Ex.t, Ex.b]
    exact Done.eq rfl (.tmp .nil)
   refine Yg (Y2n Tryd.checked.mixed (by kernel_rfl) ?_)
   refine QOps.sz (N := 35) 2 ((24, .j t2.Op) :: (23, .ref 5 0 0) :: (Z3x t1)) trivial ?_
   have ⟨x6, hx6, H⟩ := Y1j H
   refine QOps.qcall rfl (by kernel_rfl) rfl (Yi trivial) (.cons (.pur rfl) .nil) (Y2s hx6) rfl (QOps.sz (N := 35) 2 ((27, .j t0.Op) :: (26, .ref 3 0 0) :: (25, .j x6) :: (24, .j t2.Op) :: (23, .ref 5 0 0) :: (Z3x t1)) trivial ?_)
   have ⟨x7, hx7, H⟩ := Y1j H
   refine QOps.qcall rfl (by kernel_rfl) rfl (Yi trivial) (.cons (.pur rfl) .nil) (Y2s hx7) rfl (QOps.sz (N := 35) 2 ((6, .bool (decide (x7 < x6))) :: (29, .bool (decide (x7 < x6))) :: (28, .j x7) :: (27, .j t0.Op) :: (26, .ref 3 0 0) :: (25, .j x6) :: (24, .j t2.Op) :: (23, .ref 5 0 0) :: (Z3x t1)) trivial ?_)
   refine QOps.nil (AW.trim [6] [(6, .bool (decide (x7 < x6)))] (by kernel_rfl) ?_)
   obtain rfl := X7 H
   refine AW.recast (env' := [(6, .bool (decide (x7 < x6)))]) (h' := []) (StC.pure (.cons .im .nil)) (Yx ?_)
   try simp only [Ex.t, Ex.b]
   exact Done.eq rfl (.tmp .nil)
  refine Y0 (OpsW.sg 2 [30, 5] [(30, .bool (t0.Op == 12)), (5, .ref 5 0 0)] ?_)
  refine Y2 (Yb (b := t0.Op == 12) H rfl (fun c8 H => ?_) (fun c8 H => ?_))
  ·refine Y0 (OpsW.sg 4 [6] [(6, .bool (t2.Op == 0))] ?_)
   refine Y2 ?_
   obtain rfl := X7 H
   refine AW.recast (env' := [(6, .bool (t2.Op == 0))]) (h' := []) (StC.pure (.cons .im .nil)) (Yx ?_)
   try simp only [Ex.t, Ex.b]
   exact Done.eq rfl (.tmp .nil)
  refine Yg ?_
  exact ⟨(), H, (StC.pure .nil)⟩
 rintro ⟨⟩ H
 unfold Y3u at H
 change AW _ _ _ [] [] _
 refine Y0 (OpsW.sg 1 [6] [(6, .bool true)] ?_)
 refine Y2 ?_
 obtain rfl := X7 H
 refine AW.recast (env' := [(6, .bool true)]) (h' := []) (StC.pure (.cons .im .nil)) (Yx ?_)
 try simp only [Ex.t, Ex.b]
 exact Done.eq rfl (.tmp .nil)
def Ys (rec_f_formula_measure : (List Y4) → Int → Option (Int × Int × Bool)) (t0 : List Y4) (t1 : Int) (x3 : Int × Bool) (loop9 : (Int × Int × Int) → Option (Int × Int × Bool)) (v6 : Int) (v7 : Int) (v8 : Int) : Option (Int × Int × Bool) :=
 cond (decide (v8 < x3.1)) (
  G ((!(decide ((t0.length : Int) ≤ v6))) = true → (0 ≤ v6 ∧ v6 < (t0.length : Int))) <|
  (cond (!(decide ((t0.length : Int) ≤ v6))) (Y47 (t0.getD t1.toNat Yf) v8 (t0.getD v6.toNat Yf)) (some false)).bind fun x12 =>
  cond (cond (decide ((t0.length : Int) ≤ v6)) true (!x12)) (
   some ((0 : Int), (0 : Int), false)) (
   (rec_f_formula_measure t0 v6).bind fun x14 =>
   cond (!x14.2.2) (
    some ((0 : Int), (0 : Int), false)) (
    G (inR (x14.2.1 + 1)) <|
    G (inR (v8 + 1)) <|
    loop9 (x14.1, (if (x14.2.1 + 1) > v7 then (x14.2.1 + 1) else v7), v8 + 1)))) (
  some (v6, v7, true))
def Y1p (rec_f_formula_measure : (List Y4) → Int → Option (Int × Int × Bool)) (t0 : List Y4) (t1 : Int) : Option (Int × Int × Bool) :=
 cond (decide ((t0.length : Int) ≤ t1)) (
  some ((0 : Int), (0 : Int), false)) (
  G (0 ≤ t1 ∧ t1 < (t0.length : Int)) <|
  (Y1a (t0.getD t1.toNat Yf)).bind fun x3 =>
  cond (!x3.2) (
   some ((0 : Int), (0 : Int), false)) (
   G (inR (t1 + 1)) <|
   iter (fun loop (s : Int × Int × Int) => Ys rec_f_formula_measure t0 t1 x3 loop s.1 s.2.1 s.2.2) 1000000 (t1 + 1, (1 : Int), (0 : Int))))
section
variable (t0 : List Y4) (t1 : Int) (v6 : Int) (v7 : Int) (v8 : Int) (x3 : Int × Bool)
abbrev Z47 := (decide ((t0.length : Int) ≤ v6))
abbrev Z48 : List AV := [.j ((t0.getD t1.toNat Yf).Op), .j ((t0.getD t1.toNat Yf).N)]
abbrev Z49 := t0.getD v6.toNat Yf
abbrev Z40 : Env := [(42, .cnd (!(Z47 t0 v6)) (.ipt (t0.flatMap Y3) (t1.toNat * 2))), (41, .cnd (!(Z47 t0 v6)) (.j t1)), (40, .cnd (!(Z47 t0 v6)) (slA Y3 t0)), (39, .bool (Z47 t0 v6)), (38, .bool (Z47 t0 v6)), (37, .j (t0.length : Int)), (36, slA Y3 t0), (35, .j v6), (11, .j v8), (0, slA Y3 t0), (1, .j t1), (9, .j v6), (10, .j v7), (31, .j x3.1), (32, .j v8)]
abbrev Z41 : Env := (47, .cnd (!(Z47 t0 v6)) (.ipt (t0.flatMap Y3) (v6.toNat * 2))) :: (46, .cnd (!(Z47 t0 v6)) (.j v6)) :: (45, .cnd (!(Z47 t0 v6)) (slA Y3 t0)) :: (44, .cnd (!(Z47 t0 v6)) (.j v8)) :: (43, .cnd (!(Z47 t0 v6)) (.agg (Z48 t0 t1))) :: (Z40 t0 t1 v6 v7 v8 x3)
abbrev Z42 : Env := [(0, slA Y3 t0), (1, .j t1), (9, .j v6), (10, .j v7), (31, .j x3.1), (32, .j v8)]
abbrev Z43 : Env := [(6, .bool false), (5, .j (0 : Int)), (4, .j (0 : Int))]
abbrev Z44 : Env := [(4, .j (0 : Int)), (5, .j (0 : Int)), (6, .bool false)]
abbrev Z45 : Env := [(0, slA Y3 t0), (1, .j t1)]
abbrev Z46 : Env := [(0, slA Y3 t0), (1, .j t1), (10, .j v7), (31, .j x3.1), (32, .j v8)]
end
theorem f_formula_measure_body_ok {rec_f_formula_measure : (List Y4) → Int → Option (Int × Int × Bool)} (hrec_f_formula_measure : ∀ (t0 : List Y4) (t1 : Int) (r : Int × Int × Bool), rec_f_formula_measure t0 t1 = some r → QSpec Tryd.prog 36 [slA Y3 t0, .int .i64 t1] (.tup [.int .i64 r.1, .int .i64 r.2.1, .bool r.2.2])) {t0 : List Y4} {t1 : Int} {r : Int × Int × Bool} (H : Y1p rec_f_formula_measure t0 t1 = some r) : QSpec Tryd.prog 36 [slA Y3 t0, .int .i64 t1] (.tup [.int .i64 r.1, .int .i64 r.2.1, .bool r.2.2]) := by
 refine Y04 Tryd.func36 rfl (by simp [Tryd.ntmps36]) ?_
 rw [Tryd.ntmps36]
 unfold Y1p at H
 change AW _ _ _ (Z45 t0 t1) [] _
 refine Y0 (OpsW.sg 3 [0, 1] (Z45 t0 t1) ?_)
 refine Y2 (Y0e (Y0 (OpsW.sg 4 [18, 0, 1] ((18, .bool (decide ((t0.length : Int) ≤ t1))) :: (Z45 t0 t1)) ?_)))
 refine Y2 (Yb (b := decide ((t0.length : Int) ≤ t1)) H rfl (fun c1 H => ?_) (fun c1 H => ?_))
 ·refine Y0 (OpsW.sg 3 [6, 5, 4] Z43 ?_)
  refine Y2 ?_
  obtain rfl := X7 H
  refine AW.recast (env' := Z44) (h' := []) (StC.pure (.i3 .nil)) (Yx ?_)
  try simp only [Ex.t, Ex.b]
  exact Done.eq rfl (.tmp (.tmp (.tmp .nil)))
 refine Yg (Y0 ?_)
 have ⟨g2, H⟩ := Yt H
 refine OpsW.sz 3 [22, 0, 1] ((22, .ipt (t0.flatMap Y3) (t1.toNat * 2)) :: (Z45 t0 t1)) ⟨g2, trivial⟩ (OpsW.asU (.agg (Z48 t0 t1)) rfl rfl (T.loadAgg (cs := t0.flatMap Y3) (off := t1.toNat * 2) (ds := Y3 (t0.getD t1.toNat Yf)) rfl trivial (by kernel_rfl) (by have := Y15 Y3 2 (fun _ => rfl) t0; have := (ltN g2); omega) (fm_elem Y3 2 (fun _ => rfl) t0 Yf t1.toNat (ltN g2))) ?_)
 have ⟨x3, hx3, H⟩ := Y1j H
 refine Y1e rfl (.cons (.pur rfl) .nil) (f_formula_arity_ok hx3) (OpsW.sg 5 [8, 7, 0, 1] ((8, .bool x3.2) :: (7, .j x3.1) :: (Z45 t0 t1)) ?_)
 refine Y2 (Y0e (Y0 (OpsW.sg 2 [28, 7, 0, 1] ((28, .bool (!x3.2)) :: (7, .j x3.1) :: (Z45 t0 t1)) ?_)))
 refine Y2 (Yb (b := !x3.2) H rfl (fun c4 H => ?_) (fun c4 H => ?_))
 ·refine Y0 (OpsW.sg 3 [6, 5, 4] Z43 ?_)
  refine Y2 ?_
  obtain rfl := X7 H
  refine AW.recast (env' := Z44) (h' := []) (StC.pure (.i3 .nil)) (Yx ?_)
  try simp only [Ex.t, Ex.b]
  exact Done.eq rfl (.tmp (.tmp (.tmp .nil)))
 refine Yg (Y0 ?_)
 have ⟨g5, H⟩ := Yt H
 refine OpsW.sz 4 [10, 9, 7, 0, 1] ((10, .j (1 : Int)) :: (9, .j (t1 + 1)) :: (7, .j x3.1) :: (Z45 t0 t1)) ⟨g5, trivial⟩ <| Y2 (Y0e (Y0 (OpsW.sg 2 [32, 31, 10, 9, 0, 1] ((32, .j (0 : Int)) :: (31, .j x3.1) :: (10, .j (1 : Int)) :: (9, .j (t1 + 1)) :: (Z45 t0 t1)) ?_)))
 refine Y2 (Y0g ?_)
 refine Y4i (fun loop (s : Int × Int × Int) => Ys rec_f_formula_measure t0 t1 x3 loop s.1 s.2.1 s.2.2) r (fun (s : Int × Int × Int) => [(0, slA Y3 t0), (1, .j t1), (9, .j s.1), (10, .j s.2.1), (31, .j x3.1), (32, .j s.2.2)]) (fun (s : Int × Int × Int) => []) ?_ 1000000 (t1 + 1, (1 : Int), (0 : Int)) H (StC.pure (.i6 .nil))
 intro loop9 s H
 obtain ⟨v6, v7, v8⟩ := s
 unfold Ys at H
 change AW _ _ _ (Z42 t0 t1 v6 v7 v8 x3) [] _
 refine Y0 (OpsW.sg 1 [33, 0, 1, 9, 10, 31, 32] ((33, .bool (decide (v8 < x3.1))) :: (Z42 t0 t1 v6 v7 v8 x3)) ?_)
 refine Y2 (Y0e (Yb (b := decide (v8 < x3.1)) H rfl (fun c10 H => ?_) (fun c10 H => ?_)))
 ·refine Yg (Y0e (Y0g (Y0 (OpsW.sg 2 [11, 0, 1, 9, 10, 31, 32] ((11, .j v8) :: (Z42 t0 t1 v6 v7 v8 x3)) ?_))))
  refine Y2 (Y0e (Y2n Tryd.checked.mixed (by kernel_rfl) ?_))
  refine QOps.sz (N := 69) 8 (Z40 t0 t1 v6 v7 v8 x3) ⟨(fun h => h), (fun h => h), (fun _ => g2), trivial⟩ (QOps.asG (c := !(Z47 t0 v6)) (.agg (Z48 t0 t1)) rfl rfl rfl (fun hc => T.loadAgg (cs := t0.flatMap Y3) (off := t1.toNat * 2) (ds := Y3 (t0.getD t1.toNat Yf)) rfl hc (by kernel_rfl) (by have := Y15 Y3 2 (fun _ => rfl) t0; have := (ltN g2); first | omega | (simp only [Z47] at *; omega)) (fm_elem Y3 2 (fun _ => rfl) t0 Yf t1.toNat (ltN g2))) ?_)
  have ⟨g11, H⟩ := Yt H
  refine QOps.sz (N := 69) 4 (Z41 t0 t1 v6 v7 v8 x3) ⟨(fun h => h), (fun h => h), g11, trivial⟩ (QOps.asG (c := !(Z47 t0 v6)) (.agg [.j ((Z49 t0 v6).Op), .j ((Z49 t0 v6).N)]) rfl rfl rfl (fun hc => T.loadAgg (cs := t0.flatMap Y3) (off := v6.toNat * 2) (ds := Y3 (Z49 t0 v6)) rfl hc (by kernel_rfl) (by have := Y15 Y3 2 (fun _ => rfl) t0; have := (ltN (g11 hc)); first | omega | (simp only [Z47, Z49] at *; omega)) (fm_elem Y3 2 (fun _ => rfl) t0 Yf v6.toNat (ltN (g11 hc)))) ?_)
  have ⟨x12, hx12, H⟩ := Y1j H
  refine QOps.gcall (c := !(Z47 t0 v6)) (r := .bool x12) [] rfl (by kernel_rfl) rfl rfl rfl (fun hc => ⟨Yi ⟨hc, hc, hc, trivial⟩, (.cons (.pur rfl) (.cons (.pur rfl) (.cons (.pur rfl) .nil))), f_formula_admits_ok (condT hc hx12), .inl ⟨rfl, rfl⟩⟩) (QOps.sz (N := 69) 2 ((51, .bool (cond (Z47 t0 v6) true (!x12))) :: (50, .cnd (!(Z47 t0 v6)) (.bool (!x12))) :: (49, .cnd (!(Z47 t0 v6)) (.bool x12)) :: (48, .cnd (!(Z47 t0 v6)) (.agg [.j ((Z49 t0 v6).Op), .j ((Z49 t0 v6).N)])) :: (Z41 t0 t1 v6 v7 v8 x3)) ⟨(fun h => h), (fun h => by first | exact h | (simpa using h) | grind), trivial⟩ ?_)
  refine QOps.nil (AW.trim [51, 0, 1, 9, 10, 31, 32] ((51, .bool (cond (Z47 t0 v6) true (!x12))) :: (Z42 t0 t1 v6 v7 v8 x3)) (by kernel_rfl) ?_)
  refine Yb (b := cond (Z47 t0 v6) true (!x12)) H rfl (fun c13 H => ?_) (fun c13 H => ?_)
  ·refine Y0 (OpsW.sg 3 [6, 5, 4] Z43 ?_)
   refine Y2 ?_
   obtain rfl := X7 H
   refine AW.recast (env' := Z44) (h' := []) (StC.pure (.i3 .nil)) (Yx ?_)
   try simp only [Ex.t, Ex.b]
   exact Done.eq rfl (.tmp (.tmp (.tmp .nil)))
  refine Yg (Y0 (OpsW.sg 2 [54, 53, 0, 1, 10, 31, 32] ((54, .j v6) :: (53, slA Y3 t0) :: (Z46 t0 t1 v7 v8 x3)) ?_))
  have ⟨x14, hx14, H⟩ := Y1j H
  refine Y1e rfl (.cons (.pur rfl) (.cons (.pur rfl) .nil)) (hrec_f_formula_measure _ _ _ hx14) (OpsW.sg 7 [14, 13, 12, 0, 1, 10, 31, 32] ((14, .bool x14.2.2) :: (13, .j x14.2.1) :: (12, .j x14.1) :: (Z46 t0 t1 v7 v8 x3)) ?_)
  refine Y2 (Y0e (Y0 (OpsW.sg 2 [60, 13, 12, 0, 1, 10, 31, 32] ((60, .bool (!x14.2.2)) :: (13, .j x14.2.1) :: (12, .j x14.1) :: (Z46 t0 t1 v7 v8 x3)) ?_)))
  refine Y2 (Yb (b := !x14.2.2) H rfl (fun c15 H => ?_) (fun c15 H => ?_))
  ·refine Y0 (OpsW.sg 3 [6, 5, 4] Z43 ?_)
   refine Y2 ?_
   obtain rfl := X7 H
   refine AW.recast (env' := Z44) (h' := []) (StC.pure (.i3 .nil)) (Yx ?_)
   try simp only [Ex.t, Ex.b]
   exact Done.eq rfl (.tmp (.tmp (.tmp .nil)))
  refine Yg (Yu ?_)
  have ⟨g16, H⟩ := Yt H
  refine OpsW.sz 7 [10, 9, 0, 1, 31, 32] [(10, .j (if (x14.2.1 + 1) > v7 then (x14.2.1 + 1) else v7)), (9, .j x14.1), (0, slA Y3 t0), (1, .j t1), (31, .j x3.1), (32, .j v8)] ⟨g16, trivial⟩ <| Y2 (Yu ?_)
  have ⟨g17, H⟩ := Yt H
  refine OpsW.sz 2 [32, 10, 9, 0, 1, 31] [(32, .j (v8 + 1)), (10, .j (if (x14.2.1 + 1) > v7 then (x14.2.1 + 1) else v7)), (9, .j x14.1), (0, slA Y3 t0), (1, .j t1), (31, .j x3.1)] ⟨g17, trivial⟩ (Y2 ?_)
  exact ⟨(x14.1, (if (x14.2.1 + 1) > v7 then (x14.2.1 + 1) else v7), v8 + 1), H, (StC.pure (.i6 .nil))⟩
 refine AW.exit <| Y0 (OpsW.sg 5 [6, 5, 4] [(6, .bool true), (5, .j v7), (4, .j v6)] ?_)
 refine Y2 ?_
 obtain rfl := X7 H
 refine AW.recast (env' := [(4, .j v6), (5, .j v7), (6, .bool true)]) (h' := []) (StC.pure (.i3 .nil)) (Yx ?_)
 try simp only [Ex.t, Ex.b]
 exact Done.eq rfl (.tmp (.tmp (.tmp .nil)))
def Yo : Nat → (List Y4) → Int → Option (Int × Int × Bool)
 | 0, _, _ => none
 | n + 1, t0, t1 => Y1p (Yo n) t0 t1
theorem f_formula_measure_all : ∀ n : Nat, (∀ (t0 : List Y4) (t1 : Int) (r : Int × Int × Bool), Yo n t0 t1 = some r → QSpec Tryd.prog 36 [slA Y3 t0, .int .i64 t1] (.tup [.int .i64 r.1, .int .i64 r.2.1, .bool r.2.2])) ∧ True
 | 0 => by
  refine ⟨?_, trivial⟩
  ·intro t0 t1 r H; rw [Yo] at H; cases H
 | n + 1 => by
  have ih := f_formula_measure_all n
  refine ⟨?_, trivial⟩
  ·intro t0 t1 r H; rw [Yo] at H; exact f_formula_measure_body_ok ih.1 H
def Y3m (t0 : List Y4) (t1 : Int) : Option (Int × Int × Bool) := Yo 1000000 t0 t1
theorem f_formula_measure_ok {t0 : List Y4} {t1 : Int} {r : Int × Int × Bool} (H : Y3m t0 t1 = some r) : QSpec Tryd.prog 36 [slA Y3 t0, .int .i64 t1] (.tup [.int .i64 r.1, .int .i64 r.2.1, .bool r.2.2]) :=
 (f_formula_measure_all 1000000).1 t0 t1 r H
def Y4m (t0 : List Y4) : Option Int :=
 cond (decide ((60 : Int) < (t0.length : Int))) (
  some (0 : Int)) (
  (Y3m t0 (0 : Int)).bind fun x2 =>
  cond (cond (cond (!x2.2.2) true (x2.1 != (t0.length : Int))) true (decide (8 < x2.2.1))) (
   some (0 : Int)) (
   some x2.2.1))
theorem f_formula_Depth_ok  {t0 : List Y4} {r : Int} (H : Y4m t0 = some r) : QSpec Tryd.prog 23 [slA Y3 t0] (.int .i64 r) := by
 refine Y04 Tryd.func23 rfl (by simp [Tryd.ntmps23]) ?_
 rw [Tryd.ntmps23]
 unfold Y4m at H
 change AW _ _ _ [(0, slA Y3 t0)] [] _
 refine Y0 (OpsW.sg 1 [0] [(0, slA Y3 t0)] ?_)
 refine Y2 (Y0e (Y0 (OpsW.sg 3 [8, 0] [(8, .bool (decide ((60 : Int) < (t0.length : Int)))), (0, slA Y3 t0)] ?_)))
 refine Y2 (Yb (b := decide ((60 : Int) < (t0.length : Int))) H rfl (fun c1 H => ?_) (fun c1 H => ?_))
 ·refine Y0 (OpsW.sg 1 [2] [(2, .j (0 : Int))] ?_)
  refine Y2 ?_
  obtain rfl := X7 H
  refine AW.recast (env' := [(2, .j (0 : Int))]) (h' := []) (StC.pure (.cons .im .nil)) (Yx ?_)
  try simp only [Ex.t, Ex.b]
  exact Done.eq rfl (.tmp .nil)
 refine Yg (Y0 (OpsW.sg 1 [10, 0] [(10, slA Y3 t0), (0, slA Y3 t0)] ?_))
 have ⟨x2, hx2, H⟩ := Y1j H
 refine Y1e rfl (.cons (.pur rfl) (.cons (.pur rfl) .nil)) (f_formula_measure_ok hx2) (OpsW.sg 7 [5, 4, 3, 0] [(5, .bool x2.2.2), (4, .j x2.2.1), (3, .j x2.1), (0, slA Y3 t0)] ?_)
 refine Y2 (Y0e (Y0 (OpsW.sz 12 [26, 4] [(26, .bool (cond (cond (!x2.2.2) true (x2.1 != (t0.length : Int))) true (decide (8 < x2.2.1)))), (4, .j x2.2.1)] ⟨(fun h => h), (fun h => h), (fun h => h), (fun h => by first | exact h | (simpa using h) | grind), (fun h => h), (fun h => by first | exact h | (simpa using h) | grind), trivial⟩ ?_)))
 refine Y2 (Yb (b := cond (cond (!x2.2.2) true (x2.1 != (t0.length : Int))) true (decide (8 < x2.2.1))) H rfl (fun c3 H => ?_) (fun c3 H => ?_))
 ·refine Y0 (OpsW.sg 1 [2] [(2, .j (0 : Int))] ?_)
  refine Y2 ?_
  obtain rfl := X7 H
  refine AW.recast (env' := [(2, .j (0 : Int))]) (h' := []) (StC.pure (.cons .im .nil)) (Yx ?_)
  try simp only [Ex.t, Ex.b]
  exact Done.eq rfl (.tmp .nil)
 refine Yg (Y0 (OpsW.sg 2 [2] [(2, .j x2.2.1)] ?_))
 refine Y2 ?_
 obtain rfl := X7 H
 refine AW.recast (env' := [(2, .j x2.2.1)]) (h' := []) (StC.pure (.cons .im .nil)) (Yx ?_)
 try simp only [Ex.t, Ex.b]
 exact Done.eq rfl (.tmp .nil)
def Y2d (t0 : List Y4) : Option Bool :=
 (Y4m t0).bind fun x1 =>
 some (decide (0 < x1))
theorem f_formula_Valid_ok  {t0 : List Y4} {r : Bool} (H : Y2d t0 = some r) : QSpec Tryd.prog 12 [slA Y3 t0] (.bool r) := by
 refine Y04 Tryd.func12 rfl (by simp [Tryd.ntmps12]) ?_
 rw [Tryd.ntmps12]
 unfold Y2d at H
 change AW _ _ _ [(0, slA Y3 t0)] [] _
 refine Y0 (OpsW.sg 1 [0] [(0, slA Y3 t0)] ?_)
 refine Y2 (Y0 (OpsW.sg 1 [3] [(3, slA Y3 t0)] ?_))
 have ⟨x1, hx1, H⟩ := Y1j H
 refine Y1e rfl (.cons (.pur rfl) .nil) (f_formula_Depth_ok hx1) (OpsW.sg 2 [2] [(2, .bool (decide (0 < x1)))] (Y2 ?_))
 obtain rfl := X7 H
 refine AW.recast (env' := [(2, .bool (decide (0 < x1)))]) (h' := []) (StC.pure (.cons .im .nil)) (Yx ?_)
 try simp only [Ex.t, Ex.b]
 exact Done.eq rfl (.tmp .nil)
def Y05 (t1 : Int) (t2 : Int) (x1 : Bool) (x2 : List Y4) (v6 : ByteArray) (v7 : List Y4) (loop17 : (ByteArray × Int) → Option Bool) (v15 : ByteArray) (v16 : Int) : Option Bool :=
 cond (decide (v16 < ((1 : Int) + (Int.tmod (IntKind.wrap .i64 t2) (40 : Int))))) (
  G (v15.size + (⟨#[43, 120]⟩ : ByteArray).size ≤ 9223372036854775807) <|
  G (inR (v16 + 1)) <|
  loop17 (v15 ++ (⟨#[43, 120]⟩ : ByteArray), v16 + 1)) (
  (Y31 v6).bind fun x21 =>
  (Y31 v15).bind fun x22 =>
  (Y4o x2).bind fun x23 =>
  G (inR (x23 + (Int.tmod (IntKind.wrap .i64 t1) (41 : Int)))) <|
  (cond ((!(cond (cond (cond (cond (decide ((8 : Int) < (x23 + (Int.tmod (IntKind.wrap .i64 t1) (41 : Int))))) true (decide ((60 : Int) < (v7.length : Int)))) (x21.2.2 == 2) false) (x21.2.1 == 0) false) ((x21.1.length : Int) == 0) false)) && (cond (!(cond (decide ((8 : Int) < (x23 + (Int.tmod (IntKind.wrap .i64 t1) (41 : Int))))) true (decide ((60 : Int) < (v7.length : Int))))) (x21.2.2 == 0) false)) (f_R09_Same x21.1 v7) (some false)).bind fun x25 =>
  (cond (cond (cond (cond (cond (cond (cond (decide ((8 : Int) < (x23 + (Int.tmod (IntKind.wrap .i64 t1) (41 : Int))))) true (decide ((60 : Int) < (v7.length : Int)))) (x21.2.2 == 2) false) (x21.2.1 == 0) false) ((x21.1.length : Int) == 0) false) true (cond (cond (!(cond (decide ((8 : Int) < (x23 + (Int.tmod (IntKind.wrap .i64 t1) (41 : Int))))) true (decide ((60 : Int) < (v7.length : Int))))) (x21.2.2 == 0) false) x25 false)) (cond (cond (cond (decide (8 < ((1 : Int) + (Int.tmod (IntKind.wrap .i64 t2) (40 : Int))))) (x22.2.2 == 2) false) (x22.2.1 == 0) false) true (cond (cond (!(decide (8 < ((1 : Int) + (Int.tmod (IntKind.wrap .i64 t2) (40 : Int)))))) (x22.2.2 == 0) false) (x22.2.1 == (v15.size : Int)) false)) false) (Y2d v7) (some false)).bind fun x26 =>
  some (cond (cond (cond (cond (cond (cond (cond (cond (decide ((8 : Int) < (x23 + (Int.tmod (IntKind.wrap .i64 t1) (41 : Int))))) true (decide ((60 : Int) < (v7.length : Int)))) (x21.2.2 == 2) false) (x21.2.1 == 0) false) ((x21.1.length : Int) == 0) false) true (cond (cond (!(cond (decide ((8 : Int) < (x23 + (Int.tmod (IntKind.wrap .i64 t1) (41 : Int))))) true (decide ((60 : Int) < (v7.length : Int))))) (x21.2.2 == 0) false) x25 false)) (cond (cond (cond (decide (8 < ((1 : Int) + (Int.tmod (IntKind.wrap .i64 t2) (40 : Int))))) (x22.2.2 == 2) false) (x22.2.1 == 0) false) true (cond (cond (!(decide (8 < ((1 : Int) + (Int.tmod (IntKind.wrap .i64 t2) (40 : Int)))))) (x22.2.2 == 0) false) (x22.2.1 == (v15.size : Int)) false)) false) (x26 == (!(cond (decide ((8 : Int) < (x23 + (Int.tmod (IntKind.wrap .i64 t1) (41 : Int))))) true (decide ((60 : Int) < (v7.length : Int)))))) false) x1 false))
def Y0t (t1 : Int) (t2 : Int) (x1 : Bool) (x2 : List Y4) (loop9 : (ByteArray × (List Y4) × Int) → Option Bool) (v6 : ByteArray) (v7 : List Y4) (v8 : Int) : Option Bool :=
 cond (decide (v8 < (Int.tmod (IntKind.wrap .i64 t1) (41 : Int)))) (
  G ((⟨#[40]⟩ : ByteArray).size + v6.size ≤ 9223372036854775807) <|
  G (((⟨#[40]⟩ : ByteArray) ++ v6).size + (⟨#[41]⟩ : ByteArray).size ≤ 9223372036854775807) <|
  G (room 16 ([(⟨(10 : Int), (0 : Int)⟩ : Y4)].length + v7.length)) <|
  G (inR (v8 + 1)) <|
  loop9 (((⟨#[40]⟩ : ByteArray) ++ v6) ++ (⟨#[41]⟩ : ByteArray), [(⟨(10 : Int), (0 : Int)⟩ : Y4)] ++ v7, v8 + 1)) (
  iter (fun loop (s : ByteArray × Int) => Y05 t1 t2 x1 x2 v6 v7 loop s.1 s.2) 1000000 ((⟨#[120]⟩ : ByteArray), (1 : Int)))
def Y40 (t0 : List Int) (t1 : Int) (t2 : Int) : Option Bool :=
 (f_L09_sanity).bind fun x1 =>
 (f_R09_Made t0).bind fun x2 =>
 G (inR ((1 : Int) + (Int.tmod (IntKind.wrap .i64 t2) (40 : Int)))) <|
 (f_R09_Print x2).bind fun x4 =>
 G (room 16 (([] : List Y4).length + x2.length)) <|
 iter (fun loop (s : ByteArray × (List Y4) × Int) => Y0t t1 t2 x1 x2 loop s.1 s.2.1 s.2.2) 1000000 (x4, ([] : List Y4) ++ x2, (0 : Int))
section
variable (t1 : Int) (t2 : Int) (v6 : ByteArray) (v7 : List Y4) (x1 : Bool) (x2 : List Y4) (x23 : Int)
abbrev Z4b := (cond (decide ((8 : Int) < (x23 + (Int.tmod (IntKind.wrap .i64 t1) (41 : Int))))) true (decide ((60 : Int) < (v7.length : Int))))
abbrev Z4c := ((1 : Int) + (Int.tmod (IntKind.wrap .i64 t2) (40 : Int)))
abbrev Z4d : Nat × AV := (9, .j (Int.tmod (IntKind.wrap .i64 t1) (41 : Int)))
abbrev Z4e := (((⟨#[40]⟩ : ByteArray) ++ v6) ++ (⟨#[41]⟩ : ByteArray))
abbrev Z4f := (⟨#[120]⟩ : ByteArray)
abbrev Z4g : Nat × AV := (12, slA Y3 v7)
abbrev Z4h := (⟨(10 : Int), (0 : Int)⟩ : Y4)
abbrev Z4i := decide (8 < (Z4c t2))
abbrev Z4j : Nat × AV := (8, slA Y3 x2)
abbrev Z4k : Nat × AV := (10, .j (Z4c t2))
abbrev Z4l := ([] : List Y4)
abbrev Z4a : Env := [(Z4k t2), (Z4d t1), (Z4j x2), (7, .bool x1)]
end
theorem f_L09_FormulaLimits_ok  {t0 : List Int} {t1 : Int} {t2 : Int} {r : Bool} (H : Y40 t0 t1 t2 = some r) : QSpec Tryd.prog 9 [slA (eI .u8) t0, .int .u8 t1, .int .u8 t2] (.bool r) := by
 refine Y04 Tryd.func9 rfl (by simp [Tryd.ntmps9]) ?_
 rw [Tryd.ntmps9]
 unfold Y40 at H
 change AW _ _ _ [(0, sU t0), (1, .int .u8 t1), (2, .int .u8 t2)] [] _
 refine Y0 (OpsW.sg 1 [0, 1, 2] [(0, sU t0), (1, .int .u8 t1), (2, .int .u8 t2)] ?_)
 refine Y2 (Y0 ?_)
 have ⟨x1, hx1, H⟩ := Y1j H
 refine Y1e rfl .nil (f_L09_sanity_ok hx1) (OpsW.sg 1 [7, 0, 1, 2] [(7, .bool x1), (0, sU t0), (1, .int .u8 t1), (2, .int .u8 t2)] ?_)
 refine Y2 (Y0 (OpsW.sg 1 [27, 7, 1, 2] [(27, sU t0), (7, .bool x1), (1, .int .u8 t1), (2, .int .u8 t2)] ?_))
 have ⟨x2, hx2, H⟩ := Y1j H
 refine Y1e rfl (.cons (.pur rfl) .nil) (f_R09_Made_ok hx2) ?_
 have ⟨g3, H⟩ := Yt H
 refine OpsW.sz 10 [10, 9, 8, 7] (Z4a t1 t2 x1 x2) ⟨(by decide), (by decide), g3, trivial⟩ <| Y2 (Y0 (OpsW.sg 1 [36, 10, 9, 8, 7] ((36, slA Y3 x2) :: (Z4a t1 t2 x1 x2)) ?_))
 have ⟨x4, hx4, H⟩ := Y1j H
 refine Y1e rfl (.cons (.pur rfl) .nil) (f_R09_Print_ok hx4) (OpsW.buildT (enc := Y3) Z4l rfl rfl rfl 38 rfl E23 (fun _ => rfl) (by decide) trivial (by kernel_rfl) (by kernel_rfl) (by kernel_rfl) rfl (OpsW.sg 1 [39, 38, 37, 10, 9, 8, 7] ((39, slA Y3 x2) :: (38, .rsl 38 0 0 (Z4l.length)) :: (37, .string x4) :: (Z4a t1 t2 x1 x2)) ?_))
 have ⟨g5, H⟩ := Yt H
 refine OpsW.appendF (enc := Y3) (ys := x2) rfl rfl rfl E23 (fun _ => rfl) rfl rfl trivial (SrcA.typed (enc := Y3) (fun _ => rfl) (by kernel_rfl) x2) rfl g5 (OpsW.sg 3 [13, 12, 11, 10, 9, 8, 7] ((13, .string Z4f) :: (12, .rsl 38 1 0 ((Z4l ++ x2).length)) :: (11, .string x4) :: (Z4a t1 t2 x1 x2)) (OpsW.rc ((13, .string Z4f) :: (12, slA Y3 (Z4l ++ x2)) :: (11, .string x4) :: (Z4a t1 t2 x1 x2)) [] (StC.mk (phi []) .nil rfl (.cons .im (.cons (.frz rfl rfl rfl (frz_all Y3 2 (fun _ => rfl) (Z4l ++ x2)) (Y15 Y3 2 (fun _ => rfl) (Z4l ++ x2)) (phi_ne rfl)) (.i5 .nil)))) ?_))
 refine Y2 (Y0e (Y0 (OpsW.sg 1 [14, 13, 12, 11, 10, 9, 8, 7] ((14, .j (0 : Int)) :: (13, .string Z4f) :: (12, slA Y3 (Z4l ++ x2)) :: (11, .string x4) :: (Z4a t1 t2 x1 x2)) ?_)))
 refine Y2 (Y0g ?_)
 refine Y4i (fun loop (s : ByteArray × (List Y4) × Int) => Y0t t1 t2 x1 x2 loop s.1 s.2.1 s.2.2) r (fun (s : ByteArray × (List Y4) × Int) => [(7, .bool x1), (Z4j x2), (Z4d t1), (Z4k t2), (11, .string s.1), (12, slA Y3 s.2.1), (13, .string Z4f), (14, .j s.2.2)]) (fun (s : ByteArray × (List Y4) × Int) => []) ?_ 1000000 (x4, Z4l ++ x2, (0 : Int)) H (StC.pure (.i8 .nil))
 intro loop9 s H
 obtain ⟨v6, v7, v8⟩ := s
 unfold Y0t at H
 change AW _ _ _ [(7, .bool x1), (Z4j x2), (Z4d t1), (Z4k t2), (11, .string v6), (Z4g v7), (13, .string Z4f), (14, .j v8)] [] _
 refine Y0e (Y0 (OpsW.sg 3 [43, 7, 8, 9, 10, 11, 12, 13, 14] [(43, .bool (decide (v8 < (Int.tmod (IntKind.wrap .i64 t1) (41 : Int))))), (7, .bool x1), (Z4j x2), (Z4d t1), (Z4k t2), (11, .string v6), (Z4g v7), (13, .string Z4f), (14, .j v8)] ?_))
 refine Y2 (Yb (b := decide (v8 < (Int.tmod (IntKind.wrap .i64 t1) (41 : Int)))) H rfl (fun c10 H => ?_) (fun c10 H => ?_))
 ·refine Yg (Y0e (Y0g (Y0 ?_)))
  have ⟨g11, H⟩ := Yt H
  have ⟨g12, H⟩ := Yt H
  refine OpsW.sz 4 [11, 7, 8, 9, 10, 12, 13, 14] [(11, .string (Z4e v6)), (7, .bool x1), (Z4j x2), (Z4d t1), (Z4k t2), (Z4g v7), (13, .string Z4f), (14, .j v8)] ⟨g11, g12, trivial⟩ <| Y2 (Yu (OpsW.sg 1 [49, 11, 7, 8, 9, 10, 12, 13, 14] [(49, .agg [.j (10 : Int), .j (0 : Int)]), (11, .string (Z4e v6)), (7, .bool x1), (Z4j x2), (Z4d t1), (Z4k t2), (Z4g v7), (13, .string Z4f), (14, .j v8)] ?_))
  refine OpsW.buildT (enc := Y3) [Z4h] rfl rfl rfl 50 rfl E23 (fun _ => rfl) (by decide) trivial (by kernel_rfl) (by kernel_rfl) (by kernel_rfl) rfl (OpsW.sg 1 [51, 50, 11, 7, 8, 9, 10, 12, 13, 14] [(51, slA Y3 v7), (50, .rsl 50 0 0 ([Z4h].length)), (11, .string (Z4e v6)), (7, .bool x1), (Z4j x2), (Z4d t1), (Z4k t2), (Z4g v7), (13, .string Z4f), (14, .j v8)] ?_)
  have ⟨g13, H⟩ := Yt H
  refine OpsW.appendF (enc := Y3) (ys := v7) rfl rfl rfl E23 (fun _ => rfl) rfl rfl trivial (SrcA.typed (enc := Y3) (fun _ => rfl) (by kernel_rfl) v7) rfl g13 (OpsW.sg 1 [12, 11, 7, 8, 9, 10, 13, 14] [(12, .rsl 50 1 0 (([Z4h] ++ v7).length)), (11, .string (Z4e v6)), (7, .bool x1), (Z4j x2), (Z4d t1), (Z4k t2), (13, .string Z4f), (14, .j v8)] (OpsW.rc [(12, slA Y3 ([Z4h] ++ v7)), (11, .string (Z4e v6)), (7, .bool x1), (Z4j x2), (Z4d t1), (Z4k t2), (13, .string Z4f), (14, .j v8)] [] (StC.mk (phi []) .nil rfl (.cons (.frz rfl rfl rfl (frz_all Y3 2 (fun _ => rfl) ([Z4h] ++ v7)) (Y15 Y3 2 (fun _ => rfl) ([Z4h] ++ v7)) (phi_ne rfl)) (.i7 .nil))) ?_))
  refine Y2 (Yu ?_)
  have ⟨g14, H⟩ := Yt H
  refine OpsW.sz 3 [14, 12, 11, 7, 8, 9, 10, 13] [(14, .j (v8 + 1)), (12, slA Y3 ([Z4h] ++ v7)), (11, .string (Z4e v6)), (7, .bool x1), (Z4j x2), (Z4d t1), (Z4k t2), (13, .string Z4f)] ⟨g14, trivial⟩ (Y2 ?_)
  exact ⟨(((⟨#[40]⟩ : ByteArray) ++ v6) ++ (⟨#[41]⟩ : ByteArray), [Z4h] ++ v7, v8 + 1), H, (StC.pure (.i8 .nil))⟩
 refine AW.exit <| Y0e (Y0 (OpsW.sg 1 [15, 7, 8, 9, 10, 11, 12, 13] [(15, .j (1 : Int)), (7, .bool x1), (Z4j x2), (Z4d t1), (Z4k t2), (11, .string v6), (Z4g v7), (13, .string Z4f)] ?_))
 refine Y2 (Y0g ?_)
 refine Y4i (fun loop (s : ByteArray × Int) => Y05 t1 t2 x1 x2 v6 v7 loop s.1 s.2) r (fun (s : ByteArray × Int) => [(7, .bool x1), (Z4j x2), (Z4d t1), (Z4k t2), (11, .string v6), (Z4g v7), (13, .string s.1), (15, .j s.2)]) (fun (s : ByteArray × Int) => []) ?_ 1000000 (Z4f, (1 : Int)) H (StC.pure (.i8 .nil))
 intro loop17 s H
 obtain ⟨v15, v16⟩ := s
 unfold Y05 at H
 change AW _ _ _ [(7, .bool x1), (Z4j x2), (Z4d t1), (Z4k t2), (11, .string v6), (Z4g v7), (13, .string v15), (15, .j v16)] [] _
 refine Y0e (Y0 (OpsW.sg 3 [55, 7, 8, 9, 10, 11, 12, 13, 15] [(55, .bool (decide (v16 < (Z4c t2)))), (7, .bool x1), (Z4j x2), (Z4d t1), (Z4k t2), (11, .string v6), (Z4g v7), (13, .string v15), (15, .j v16)] ?_))
 refine Y2 (Yb (b := decide (v16 < (Z4c t2))) H rfl (fun c18 H => ?_) (fun c18 H => ?_))
 ·refine Yg (Y0e (Y0g (Yu ?_)))
  have ⟨g19, H⟩ := Yt H
  refine OpsW.sz 3 [13, 7, 8, 9, 10, 11, 12, 15] [(13, .string (v15 ++ (⟨#[43, 120]⟩ : ByteArray))), (7, .bool x1), (Z4j x2), (Z4d t1), (Z4k t2), (11, .string v6), (Z4g v7), (15, .j v16)] ⟨g19, trivial⟩ <| Y2 (Yu ?_)
  have ⟨g20, H⟩ := Yt H
  refine OpsW.sz 3 [15, 13, 7, 8, 9, 10, 11, 12] [(15, .j (v16 + 1)), (13, .string (v15 ++ (⟨#[43, 120]⟩ : ByteArray))), (7, .bool x1), (Z4j x2), (Z4d t1), (Z4k t2), (11, .string v6), (Z4g v7)] ⟨g20, trivial⟩ (Y2 ?_)
  exact ⟨(v15 ++ (⟨#[43, 120]⟩ : ByteArray), v16 + 1), H, (StC.pure (.i8 .nil))⟩
 refine AW.exit <| Y0 (OpsW.sg 1 [61, 7, 8, 9, 10, 12, 13] [(61, .string v6), (7, .bool x1), (Z4j x2), (Z4d t1), (Z4k t2), (Z4g v7), (13, .string v15)] ?_)
 have ⟨x21, hx21, H⟩ := Y1j H
 refine Y1e rfl (.cons (.pur rfl) .nil) (f_formula_Parse_ok hx21) (OpsW.sg 7 [18, 17, 16, 7, 8, 9, 10, 12, 13] [(18, .j x21.2.2), (17, .j x21.2.1), (16, slA Y3 x21.1), (7, .bool x1), (Z4j x2), (Z4d t1), (Z4k t2), (Z4g v7), (13, .string v15)] ?_)
 refine Y2 (Y0 (OpsW.sg 1 [67, 18, 17, 16, 7, 8, 9, 10, 12, 13] [(67, .string v15), (18, .j x21.2.2), (17, .j x21.2.1), (16, slA Y3 x21.1), (7, .bool x1), (Z4j x2), (Z4d t1), (Z4k t2), (Z4g v7), (13, .string v15)] ?_))
 have ⟨x22, hx22, H⟩ := Y1j H
 refine Y1e rfl (.cons (.pur rfl) .nil) (f_formula_Parse_ok hx22) (OpsW.sg 7 [21, 20, 18, 17, 16, 7, 8, 9, 10, 12, 13] [(21, .j x22.2.2), (20, .j x22.2.1), (18, .j x21.2.2), (17, .j x21.2.1), (16, slA Y3 x21.1), (7, .bool x1), (Z4j x2), (Z4d t1), (Z4k t2), (Z4g v7), (13, .string v15)] ?_)
 refine Y2 (Y0 (OpsW.sg 1 [72, 21, 20, 18, 17, 16, 7, 9, 10, 12, 13] [(72, slA Y3 x2), (21, .j x22.2.2), (20, .j x22.2.1), (18, .j x21.2.2), (17, .j x21.2.1), (16, slA Y3 x21.1), (7, .bool x1), (Z4d t1), (Z4k t2), (Z4g v7), (13, .string v15)] ?_))
 have ⟨x23, hx23, H⟩ := Y1j H
 refine Y1e rfl (.cons (.pur rfl) .nil) (f_R09_Depth_ok hx23) ?_
 have ⟨g24, H⟩ := Yt H
 refine OpsW.sz 9 [22, 21, 20, 18, 17, 16, 7, 10, 12, 13] [(22, .bool (Z4b t1 v7 x23)), (21, .j x22.2.2), (20, .j x22.2.1), (18, .j x21.2.2), (17, .j x21.2.1), (16, slA Y3 x21.1), (7, .bool x1), (Z4k t2), (Z4g v7), (13, .string v15)] ⟨g24, (fun h => h), (fun h => h), (fun h => by first | exact h | (simpa using h) | grind), trivial⟩ ?_
 refine Y2 (Y0 (OpsW.sg 3 [23, 22, 21, 20, 18, 17, 16, 7, 12, 13] [(23, .bool (Z4i t2)), (22, .bool (Z4b t1 v7 x23)), (21, .j x22.2.2), (20, .j x22.2.1), (18, .j x21.2.2), (17, .j x21.2.1), (16, slA Y3 x21.1), (7, .bool x1), (Z4g v7), (13, .string v15)] ?_))
 refine Y2 (Y0 (OpsW.sz 24 [107, 106, 105, 98, 23, 22, 21, 20, 7, 12, 13] [(107, .cnd ((!(cond (cond (cond (Z4b t1 v7 x23) (x21.2.2 == 2) false) (x21.2.1 == 0) false) ((x21.1.length : Int) == 0) false)) && (cond (!(Z4b t1 v7 x23)) (x21.2.2 == 0) false)) (slA Y3 v7)), (106, .cnd ((!(cond (cond (cond (Z4b t1 v7 x23) (x21.2.2 == 2) false) (x21.2.1 == 0) false) ((x21.1.length : Int) == 0) false)) && (cond (!(Z4b t1 v7 x23)) (x21.2.2 == 0) false)) (slA Y3 x21.1)), (105, .cnd (!(cond (cond (cond (Z4b t1 v7 x23) (x21.2.2 == 2) false) (x21.2.1 == 0) false) ((x21.1.length : Int) == 0) false)) (.bool (cond (!(Z4b t1 v7 x23)) (x21.2.2 == 0) false))), (98, .bool (cond (cond (cond (Z4b t1 v7 x23) (x21.2.2 == 2) false) (x21.2.1 == 0) false) ((x21.1.length : Int) == 0) false)), (23, .bool (Z4i t2)), (22, .bool (Z4b t1 v7 x23)), (21, .j x22.2.2), (20, .j x22.2.1), (7, .bool x1), (Z4g v7), (13, .string v15)] ⟨(fun h => h), (fun h => by first | exact h | (simpa using h) | grind), (fun h => h), (fun h => by first | exact h | (simpa using h) | grind), (fun h => h), (fun h => h), (fun h => by first | exact h | (simpa using h) | grind), (fun h => h), (fun h => h), (fun h => h), (fun h => h), (fun h0 h => by first | exact h | (simp [h0, h]; done) | (simp at h0 h ⊢; simp [h0, h]; done) | (simp_all; done) | grind), (fun h => h), trivial⟩ ?_))
 have ⟨x25, hx25, H⟩ := Y1j H
 refine OpsW.gcall (c := (!(cond (cond (cond (Z4b t1 v7 x23) (x21.2.2 == 2) false) (x21.2.1 == 0) false) ((x21.1.length : Int) == 0) false)) && (cond (!(Z4b t1 v7 x23)) (x21.2.2 == 0) false)) (r := .bool x25) [] rfl (by kernel_rfl) rfl rfl rfl rfl (fun hc => ⟨Yi ⟨hc, hc, trivial⟩, (.cons (.pur rfl) (.cons (.pur rfl) .nil)), f_R09_Same_ok (condT hc hx25), .inl ⟨rfl, rfl⟩⟩) (OpsW.sz 3 [24, 23, 22, 21, 20, 7, 12, 13] [(24, .bool (cond (cond (cond (cond (Z4b t1 v7 x23) (x21.2.2 == 2) false) (x21.2.1 == 0) false) ((x21.1.length : Int) == 0) false) true (cond (cond (!(Z4b t1 v7 x23)) (x21.2.2 == 0) false) x25 false))), (23, .bool (Z4i t2)), (22, .bool (Z4b t1 v7 x23)), (21, .j x22.2.2), (20, .j x22.2.1), (7, .bool x1), (Z4g v7), (13, .string v15)] ⟨(fun h => h), (fun h0 h => by first | exact h | (simp [h0, h]; done) | (simp at h0 h ⊢; simp [h0, h]; done) | (simp_all; done) | grind), (fun h => by first | exact h | (simpa using h) | grind), trivial⟩ ?_)
 refine Y2 (Y0 (OpsW.sz 24 [25, 24, 22, 7, 12] [(25, .bool (cond (cond (cond (Z4i t2) (x22.2.2 == 2) false) (x22.2.1 == 0) false) true (cond (cond (!(Z4i t2)) (x22.2.2 == 0) false) (x22.2.1 == (v15.size : Int)) false))), (24, .bool (cond (cond (cond (cond (Z4b t1 v7 x23) (x21.2.2 == 2) false) (x21.2.1 == 0) false) ((x21.1.length : Int) == 0) false) true (cond (cond (!(Z4b t1 v7 x23)) (x21.2.2 == 0) false) x25 false))), (22, .bool (Z4b t1 v7 x23)), (7, .bool x1), (Z4g v7)] ⟨(fun h => h), (fun h => by first | exact h | (simpa using h) | grind), (fun h => h), (fun h => by first | exact h | (simpa using h) | grind), (fun h => h), (fun h => h), (fun h => h), (fun h => h), (fun h0 h => by first | exact h | (simp [h0, h]; done) | (simp at h0 h ⊢; simp [h0, h]; done) | (simp_all; done) | grind), (fun h => h), (fun h => h), (fun h => h), (fun h => h), (fun h => h), (fun h0 h => by first | exact h | (simp [h0, h]; done) | (simp at h0 h ⊢; simp [h0, h]; done) | (simp_all; done) | grind), (fun h => by first | exact h | (simpa using h) | grind), trivial⟩ ?_))
 refine Y2 (Y0 (OpsW.sz 6 [139, 138, 22, 7] [(139, .cnd (cond (cond (cond (cond (cond (Z4b t1 v7 x23) (x21.2.2 == 2) false) (x21.2.1 == 0) false) ((x21.1.length : Int) == 0) false) true (cond (cond (!(Z4b t1 v7 x23)) (x21.2.2 == 0) false) x25 false)) (cond (cond (cond (Z4i t2) (x22.2.2 == 2) false) (x22.2.1 == 0) false) true (cond (cond (!(Z4i t2)) (x22.2.2 == 0) false) (x22.2.1 == (v15.size : Int)) false)) false) (slA Y3 v7)), (138, .bool (cond (cond (cond (cond (cond (Z4b t1 v7 x23) (x21.2.2 == 2) false) (x21.2.1 == 0) false) ((x21.1.length : Int) == 0) false) true (cond (cond (!(Z4b t1 v7 x23)) (x21.2.2 == 0) false) x25 false)) (cond (cond (cond (Z4i t2) (x22.2.2 == 2) false) (x22.2.1 == 0) false) true (cond (cond (!(Z4i t2)) (x22.2.2 == 0) false) (x22.2.1 == (v15.size : Int)) false)) false)), (22, .bool (Z4b t1 v7 x23)), (7, .bool x1)] ⟨(fun h => by first | exact h | (simpa using h) | grind), trivial⟩ ?_))
 have ⟨x26, hx26, H⟩ := Y1j H
 refine OpsW.gcall (c := cond (cond (cond (cond (cond (Z4b t1 v7 x23) (x21.2.2 == 2) false) (x21.2.1 == 0) false) ((x21.1.length : Int) == 0) false) true (cond (cond (!(Z4b t1 v7 x23)) (x21.2.2 == 0) false) x25 false)) (cond (cond (cond (Z4i t2) (x22.2.2 == 2) false) (x22.2.1 == 0) false) true (cond (cond (!(Z4i t2)) (x22.2.2 == 0) false) (x22.2.1 == (v15.size : Int)) false)) false) (r := .bool x26) [] rfl (by kernel_rfl) rfl rfl rfl rfl (fun hc => ⟨Yi ⟨hc, trivial⟩, (.cons (.pur rfl) .nil), f_formula_Valid_ok (condT hc hx26), .inl ⟨rfl, rfl⟩⟩) (OpsW.sz 8 [6] [(6, .bool (cond (cond (cond (cond (cond (cond (cond (Z4b t1 v7 x23) (x21.2.2 == 2) false) (x21.2.1 == 0) false) ((x21.1.length : Int) == 0) false) true (cond (cond (!(Z4b t1 v7 x23)) (x21.2.2 == 0) false) x25 false)) (cond (cond (cond (Z4i t2) (x22.2.2 == 2) false) (x22.2.1 == 0) false) true (cond (cond (!(Z4i t2)) (x22.2.2 == 0) false) (x22.2.1 == (v15.size : Int)) false)) false) (x26 == (!(Z4b t1 v7 x23))) false) x1 false))] ⟨(fun h => h), (fun h => h), (fun h => h), (fun h => by first | exact h | (simpa using h) | grind), (fun h => by first | exact h | (simpa using h) | grind), trivial⟩ (Y2 ?_))
 obtain rfl := X7 H
 refine AW.recast (env' := [(6, .bool (cond (cond (cond (cond (cond (cond (cond (Z4b t1 v7 x23) (x21.2.2 == 2) false) (x21.2.1 == 0) false) ((x21.1.length : Int) == 0) false) true (cond (cond (!(Z4b t1 v7 x23)) (x21.2.2 == 0) false) x25 false)) (cond (cond (cond (Z4i t2) (x22.2.2 == 2) false) (x22.2.1 == 0) false) true (cond (cond (!(Z4i t2)) (x22.2.2 == 0) false) (x22.2.1 == (v15.size : Int)) false)) false) (x26 == (!(Z4b t1 v7 x23))) false) x1 false))]) (h' := []) (StC.pure (.cons .im .nil)) (Yx ?_)
 try simp only [Ex.t, Ex.b]
 exact Done.eq rfl (.tmp .nil)
end Go.Proofs.YtkgfbpbndmklnaaDoor
