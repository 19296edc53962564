/- Own work. -/
import Derived.Test.YtkgfbpbndmklnaaDoorLibG
import Derived.Test.YtkgfbpbndmklnaaDoorChecked
import Derived.Test.YtkgfbpbndmklnaaDoorSan
set_option linter.unusedSimpArgs false
set_option linter.unusedVariables false
set_option maxRecDepth 100000
namespace Go.Proofs.YtkgfbpbndmklnaaDoor
open Go.Abs
structure Y4 where
 Op : Int
 N : Int
 deriving DecidableEq
def Y3 (x : Y4) : List IV := [.val (.int .i64 x.Op), .val (.int .i64 x.N)]
def Yf : Y4 := ⟨(0 : Int), (0 : Int)⟩
structure Y8 where
 B : List Int
 At : Int
 deriving DecidableEq
theorem E23 : Elem Tryd.prog 23 26 2 16 [.int .i64 0, .int .i64 0] := ⟨by kernel_rfl, by kernel_rfl, by kernel_rfl, rfl, rfl, by decide⟩
theorem E24 : Elem Tryd.prog 24 5 1 1 [.int .u8 0] := ⟨by kernel_rfl, by kernel_rfl, by kernel_rfl, rfl, rfl, by decide⟩
theorem E42 : Elem Tryd.prog 42 3 1 8 [.int .i64 0] := ⟨by kernel_rfl, by kernel_rfl, by kernel_rfl, rfl, rfl, by decide⟩
theorem E77 : Elem Tryd.prog 77 23 1 24 [.slice none 0 0] := ⟨by kernel_rfl, by kernel_rfl, by kernel_rfl, rfl, rfl, by decide⟩
theorem E89 : Elem Tryd.prog 89 9 1 16 [.string ⟨#[]⟩] := ⟨by kernel_rfl, by kernel_rfl, by kernel_rfl, rfl, rfl, by decide⟩
def Y3y  : Option Int :=
 some (4 : Int)
def Y33 (t0 : Int) (v2 : Bool) : Option Int :=
 cond v2 (
  some (2 : Int)) (
  cond (t0 == 4) (
   some (3 : Int)) (
   Y3y))
def Y25 (t0 : Int) : Option Int :=
 cond (t0 == 5) (
  some (1 : Int)) (
  cond (t0 == 2) (
   Y33 t0 (t0 == 2)) (
   Y33 t0 (t0 == 3)))
theorem Y3x  {t0 : Int} {r : Int} (H : Y25 t0 = some r) : QSpec Tryd.prog 40 [.int .i64 t0] (.int .i64 r) := by
 refine Y04 Tryd.func40 rfl (by simp [Tryd.ntmps40]) ?_
 rw [Tryd.ntmps40]
 unfold Y25 at H
 change AW _ _ _ [(0, .j t0)] [] _
 refine Y0 (OpsW.sg 1 [0] [(0, .j t0)] ?_)
 refine Y2 <| Y22 (fun (y : Unit) => Y3y) r (fun (y : Unit) => []) (fun (y : Unit) => []) ?_ ?_
 ·refine Y0 (OpsW.sg 1 [3] [(3, .j t0)] ?_)
  refine Y2 (Y0g (Y0 (OpsW.sg 2 [4, 3] [(4, .bool (t0 == 5)), (3, .j t0)] ?_)))
  refine Y2 (Yb (b := t0 == 5) H rfl (fun c1 H => ?_) (fun c1 H => ?_))
  ·refine Y0 (OpsW.sg 1 [2] [(2, .j (1 : Int))] ?_)
   refine Y2 ?_
   obtain rfl := X7 H
   refine AW.recast (env' := [(2, .j (1 : Int))]) (h' := []) (StC.pure (.cons .im .nil)) (Yx ?_)
   try simp only [Ex.t, Ex.b]
   exact Done.eq rfl (.tmp .nil)
  refine Y22 (fun (y : Bool) => Y33 t0 y) r (fun (y : Bool) => [(3, .j t0), (6, .bool y)]) (fun (y : Bool) => []) ?_ ?_
  ·refine Y0 (OpsW.sg 2 [6, 3] [(6, .bool (t0 == 2)), (3, .j t0)] ?_)
   refine Y2 (Yb (b := t0 == 2) H rfl (fun c5 H => ?_) (fun c5 H => ?_))
   ·refine Yg ?_
    exact ⟨t0 == 2, H, (StC.pure (.i2 .nil))⟩
   refine Yu (OpsW.sg 2 [6, 3] [(6, .bool (t0 == 3)), (3, .j t0)] ?_)
   refine Y2 ?_
   exact ⟨t0 == 3, H, (StC.pure (.i2 .nil))⟩
  intro v2 H
  unfold Y33 at H
  change AW _ _ _ [(3, .j t0), (6, .bool v2)] [] _
  refine Yb (b := v2) H rfl (fun c3 H => ?_) (fun c3 H => ?_)
  ·refine Y0 (OpsW.sg 1 [2] [(2, .j (2 : Int))] ?_)
   refine Y2 ?_
   obtain rfl := X7 H
   refine AW.recast (env' := [(2, .j (2 : Int))]) (h' := []) (StC.pure (.cons .im .nil)) (Yx ?_)
   try simp only [Ex.t, Ex.b]
   exact Done.eq rfl (.tmp .nil)
  refine Y0 (OpsW.sg 2 [9] [(9, .bool (t0 == 4))] ?_)
  refine Y2 (Yb (b := t0 == 4) H rfl (fun c4 H => ?_) (fun c4 H => ?_))
  ·refine Y0 (OpsW.sg 1 [2] [(2, .j (3 : Int))] ?_)
   refine Y2 ?_
   obtain rfl := X7 H
   refine AW.recast (env' := [(2, .j (3 : Int))]) (h' := []) (StC.pure (.cons .im .nil)) (Yx ?_)
   try simp only [Ex.t, Ex.b]
   exact Done.eq rfl (.tmp .nil)
  refine Yg ?_
  exact ⟨(), H, (StC.pure .nil)⟩
 rintro ⟨⟩ H
 unfold Y3y at H
 change AW _ _ _ [] [] _
 refine Y0 (OpsW.sg 1 [2] [(2, .j (4 : Int))] ?_)
 refine Y2 ?_
 obtain rfl := X7 H
 refine AW.recast (env' := [(2, .j (4 : Int))]) (h' := []) (StC.pure (.cons .im .nil)) (Yx ?_)
 try simp only [Ex.t, Ex.b]
 exact Done.eq rfl (.tmp .nil)
def Y32 (t1 : List (List Y4)) (loop3 : ((List Y4) × Int) → Option (List Y4)) (v1 : List Y4) (v2 : Int) : Option (List Y4) :=
 cond (decide (v2 < (t1.length : Int))) (
  G (0 ≤ v2 ∧ v2 < (t1.length : Int)) <|
  G (room 16 (v1.length + (t1.getD v2.toNat []).length)) <|
  G (inR (v2 + 1)) <|
  loop3 (v1 ++ (t1.getD v2.toNat []), v2 + 1)) (
  some v1)
def Y1u (t0 : Y4) (t1 : List (List Y4)) : Option (List Y4) :=
 iter (fun loop (s : (List Y4) × Int) => Y32 t1 loop s.1 s.2) 1000000 ([t0], (0 : Int))
section
variable (t1 : List (List Y4)) (v1 : List Y4) (v2 : Int)
abbrev Z2 := t1.getD v2.toNat []
abbrev Z0 : Env := [(1, slA (eL Y3) t1), (5, .rsl 5 0 0 v1.length), (6, .j v2)]
abbrev Z1 : Env := [(1, slA (eL Y3) t1)]
end
theorem Y3n  {t0 : Y4} {t1 : List (List Y4)} {r : List Y4} (H : Y1u t0 t1 = some r) : QSpec Tryd.prog 41 [.agg [.int .i64 t0.Op, .int .i64 t0.N], slA (eL Y3) t1] (slA Y3 r) := by
 refine Y04 Tryd.func41 rfl (by simp [Tryd.ntmps41]) ?_
 rw [Tryd.ntmps41]
 unfold Y1u at H
 change AW _ _ _ ((0, .agg [.j t0.Op, .j t0.N]) :: (Z1 t1)) [] _
 refine Y0 (OpsW.box rfl rfl rfl 2 rfl (Y23 (by kernel_rfl)) ?_)
 change OpsW _ _ _ _ _ [(2, ⟨0, true, 26, 2, [.j t0.Op, .j t0.N]⟩)] _
 refine OpsW.sg 1 [2, 1] ((2, .ref 2 0 0) :: (Z1 t1)) <| Y2 (Y0 (OpsW.sg 1 [7, 1] ((7, .agg [.j t0.Op, .j t0.N]) :: (Z1 t1)) ?_))
 refine OpsW.buildT (enc := Y3) [t0] rfl rfl rfl 8 rfl E23 (fun _ => rfl) (by decide) trivial (by kernel_rfl) (by kernel_rfl) (by kernel_rfl) rfl (OpsW.sg 1 [5, 1] ((5, .rsl 8 0 0 ([t0].length)) :: (Z1 t1)) (OpsW.rc ((5, .rsl 5 0 0 ([t0].length)) :: (Z1 t1)) [(5, rtA 0 26 2 Y3 [t0])] (StC.mk (phi [(5, some 8)]) (.o rfl (CstL.ims _) .nil) rfl (.cons (.s rfl) (.cons .im .nil))) ?_))
 refine Y2 (Y0e (Y0 (OpsW.sg 1 [6, 5, 1] ((6, .j (0 : Int)) :: (5, .rsl 5 0 0 ([t0].length)) :: (Z1 t1)) ?_)))
 refine Y2 (Y0g ?_)
 refine Y4i (fun loop (s : (List Y4) × Int) => Y32 t1 loop s.1 s.2) r (fun (s : (List Y4) × Int) => [(1, slA (eL Y3) t1), (5, .rsl 5 0 0 s.1.length), (6, .j s.2)]) (fun (s : (List Y4) × Int) => [(5, rtA 0 26 2 Y3 s.1)]) ?_ 1000000 ([t0], (0 : Int)) H (StC.mk (phi [(5, some 5)]) (.o rfl (CstL.ims _) .nil) rfl (.cons .im (.cons (.s rfl) (.cons .im .nil))))
 intro loop3 s H
 obtain ⟨v1, v2⟩ := s
 unfold Y32 at H
 change AW _ _ _ (Z0 t1 v1 v2) [(5, rtA 0 26 2 Y3 v1)] _
 refine Y0e (Y0 (OpsW.sg 4 [12, 1, 5, 6] ((12, .bool (decide (v2 < (t1.length : Int)))) :: (Z0 t1 v1 v2)) ?_))
 refine Y2 (Yb (b := decide (v2 < (t1.length : Int))) H rfl (fun c4 H => ?_) (fun c4 H => ?_))
 ·refine Yg (Y0e (Y0g (Yu ?_)))
  have ⟨g5, H⟩ := Yt H
  refine OpsW.sz 4 [18, 15, 1, 5, 6] ((18, .ipt (t1.flatMap (eL Y3)) (v2.toNat * 1)) :: (15, .rsl 5 0 0 v1.length) :: (Z0 t1 v1 v2)) ⟨g5, trivial⟩ (OpsW.asU (slA Y3 (Z2 t1 v2)) rfl rfl (T.load rfl trivial (by kernel_rfl) (fm_cell0 (eL Y3) 1 (fun _ => rfl) t1 [] v2.toNat (ltN g5) (fun a => .sl (a.flatMap Y3) a.length) (fun _ => rfl))) ?_)
  have ⟨g6, H⟩ := Yt H
  refine OpsW.appendF (enc := Y3) (ys := t1.getD v2.toNat []) rfl rfl rfl E23 (fun _ => rfl) rfl rfl trivial (SrcA.typed (enc := Y3) (fun _ => rfl) (by kernel_rfl) (Z2 t1 v2)) rfl g6 (OpsW.sg 1 [5, 1, 6] [(5, .rsl 5 1 0 ((v1 ++ (Z2 t1 v2)).length)), (1, slA (eL Y3) t1), (6, .j v2)] (OpsW.rc [(5, .rsl 5 0 0 ((v1 ++ (Z2 t1 v2)).length)), (1, slA (eL Y3) t1), (6, .j v2)] [(5, rtA 0 26 2 Y3 (v1 ++ (Z2 t1 v2)))] (StC.mk (phi [(5, some 5)]) (.o rfl (CstL.ims _) .nil) rfl (.cons (.s rfl) (.i2 .nil))) ?_))
  refine Y2 (Yu ?_)
  have ⟨g7, H⟩ := Yt H
  refine OpsW.sz 3 [6, 5, 1] ((6, .j (v2 + 1)) :: (5, .rsl 5 0 0 ((v1 ++ (Z2 t1 v2)).length)) :: (Z1 t1)) ⟨g7, trivial⟩ (Y2 ?_)
  exact ⟨(v1 ++ (Z2 t1 v2), v2 + 1), H, (StC.mk (phi [(5, some 5)]) (.o rfl (CstL.ims _) .nil) rfl (.cons .im (.cons (.s rfl) (.cons .im .nil))))⟩
 refine AW.exit <| Y0 (OpsW.sg 2 [4] [(4, .rsl 5 0 0 v1.length)] ?_)
 refine OpsW.rc [(4, slA Y3 v1)] [] (StC.mk (phi []) .nil rfl (.cons (.frz rfl rfl rfl (frz_all Y3 2 (fun _ => rfl) v1) (Y15 Y3 2 (fun _ => rfl) v1) (phi_ne rfl)) .nil)) (Y2 ?_)
 obtain rfl := X7 H
 refine AW.recast (env' := [(4, slA Y3 v1)]) (h' := []) (StC.pure (.cons .im .nil)) (Yx ?_)
 try simp only [Ex.t, Ex.b]
 exact Done.eq rfl (.tmp .nil)
def Y2b  : Option Int :=
 some (-1 : Int)
def Y2w (t0 : Y4) (v8 : Bool) : Option Int :=
 cond v8 (
  cond (t0.N == 0) (
   some (1 : Int)) (
   Y2b)) (
  cond (t0.Op == 12) (
   cond (cond (decide (2 ≤ t0.N)) (decide (t0.N ≤ 5)) false) (
    G (inR (t0.N + 1)) <|
    some (t0.N + 1)) (
    Y2b)) (
   cond (t0.Op == 13) (
    G (inR (Int.tdiv t0.N (8 : Int))) <|
    cond (cond (cond (cond (cond (decide (0 < t0.N)) (decide ((1 : Int) ≤ (Int.tdiv t0.N (8 : Int)))) false) (decide ((Int.tdiv t0.N (8 : Int)) ≤ 4)) false) (decide ((1 : Int) ≤ (Int.tmod t0.N (8 : Int)))) false) (decide ((Int.tmod t0.N (8 : Int)) ≤ 4)) false) (
     G (inR ((Int.tdiv t0.N (8 : Int)) * (Int.tmod t0.N (8 : Int)))) <|
     some ((Int.tdiv t0.N (8 : Int)) * (Int.tmod t0.N (8 : Int)))) (
     Y2b)) (
    Y2b)))
def Y1f (t0 : Y4) (v5 : Bool) : Option Int :=
 cond v5 (
  cond (t0.N == 0) (
   some (2 : Int)) (
   Y2b)) (
  cond (t0.Op == 9) (
   Y2w t0 (t0.Op == 9)) (
   cond (t0.Op == 10) (
    Y2w t0 (t0.Op == 10)) (
    Y2w t0 (t0.Op == 11))))
def Y3z (t0 : Y4) : Option Int :=
 cond (t0.Op == 0) (
  cond (cond (decide (0 ≤ t0.N)) (decide (t0.N ≤ 99999)) false) (
   some (0 : Int)) (
   Y2b)) (
  cond (t0.Op == 1) (
   cond (cond (decide (0 ≤ t0.N)) (decide (t0.N ≤ 25)) false) (
    some (0 : Int)) (
    Y2b)) (
   cond (t0.Op == 2) (
    Y1f t0 (t0.Op == 2)) (
    cond (t0.Op == 3) (
     Y1f t0 (t0.Op == 3)) (
     cond (t0.Op == 4) (
      Y1f t0 (t0.Op == 4)) (
      cond (t0.Op == 5) (
       Y1f t0 (t0.Op == 5)) (
       cond (t0.Op == 6) (
        Y1f t0 (t0.Op == 6)) (
        cond (t0.Op == 7) (
         Y1f t0 (t0.Op == 7)) (
         Y1f t0 (t0.Op == 8)))))))))
section
variable (t0 : Y4)
abbrev Z5 := (cond (cond (cond (decide (0 < t0.N)) (decide ((1 : Int) ≤ (Int.tdiv t0.N (8 : Int)))) false) (decide ((Int.tdiv t0.N (8 : Int)) ≤ 4)) false) (decide ((1 : Int) ≤ (Int.tmod t0.N (8 : Int)))) false)
abbrev Z6 := (Int.tmod t0.N (8 : Int))
abbrev Z7 : Nat × AV := (1, .ref 1 0 0)
abbrev Z8 := (Int.tdiv t0.N (8 : Int))
abbrev Z3 : Env := [(6, .j t0.Op), Z7]
abbrev Z4 : Hp := [(1, ⟨0, true, 26, 2, [.j t0.Op, .j t0.N]⟩)]
end
theorem f_R09_Arity_ok  {t0 : Y4} {r : Int} (H : Y3z t0 = some r) : QSpec Tryd.prog 20 [.agg [.int .i64 t0.Op, .int .i64 t0.N]] (.int .i64 r) := by
 refine Y04 Tryd.func20 rfl (by simp [Tryd.ntmps20]) ?_
 rw [Tryd.ntmps20]
 unfold Y3z at H
 change AW _ _ _ [(0, .agg [.j t0.Op, .j t0.N])] [] _
 refine Y0 (OpsW.box rfl rfl rfl 1 rfl (Y23 (by kernel_rfl)) ?_)
 change OpsW _ _ _ _ _ (Z4 t0) _
 refine OpsW.sg 1 [1] [Z7] (Y2 ?_)
 refine Y22 (fun (y : Unit) => Y2b) r (fun (y : Unit) => []) (fun (y : Unit) => []) ?_ ?_
 ·refine Y0 (OpsW.sg 2 [6, 1] (Z3 t0) ?_)
  refine Y2 (Y0g (Y0 (OpsW.sg 2 [7, 6, 1] ((7, .bool (t0.Op == 0)) :: (Z3 t0)) ?_)))
  refine Y2 (Yb (b := t0.Op == 0) H rfl (fun c1 H => ?_) (fun c1 H => ?_))
  ·refine Y0 (OpsW.sz 8 [16] [(16, .bool (cond (decide (0 ≤ t0.N)) (decide (t0.N ≤ 99999)) false))] ⟨(fun h => h), (fun h => h), (fun h => by first | exact h | (simpa using h) | grind), trivial⟩ ?_)
   refine Y2 (Yb (b := cond (decide (0 ≤ t0.N)) (decide (t0.N ≤ 99999)) false) H rfl (fun c2 H => ?_) (fun c2 H => ?_))
   ·refine Y0 (OpsW.sg 1 [2] [(2, .j (0 : Int))] ?_)
    refine Y2 ?_
    obtain rfl := X7 H
    refine AW.recast (env' := [(2, .j (0 : Int))]) (h' := []) (StC.pure (.cons .im .nil)) (Yx ?_)
    try simp only [Ex.t, Ex.b]
    exact Done.eq rfl (.tmp .nil)
   refine Yg ?_
   exact ⟨(), H, (StC.pure .nil)⟩
  refine Y0 (OpsW.sg 2 [17, 6, 1] ((17, .bool (t0.Op == 1)) :: (Z3 t0)) ?_)
  refine Y2 (Yb (b := t0.Op == 1) H rfl (fun c3 H => ?_) (fun c3 H => ?_))
  ·refine Y0 (OpsW.sz 8 [26] [(26, .bool (cond (decide (0 ≤ t0.N)) (decide (t0.N ≤ 25)) false))] ⟨(fun h => h), (fun h => h), (fun h => by first | exact h | (simpa using h) | grind), trivial⟩ ?_)
   refine Y2 (Yb (b := cond (decide (0 ≤ t0.N)) (decide (t0.N ≤ 25)) false) H rfl (fun c4 H => ?_) (fun c4 H => ?_))
   ·refine Y0 (OpsW.sg 1 [2] [(2, .j (0 : Int))] ?_)
    refine Y2 ?_
    obtain rfl := X7 H
    refine AW.recast (env' := [(2, .j (0 : Int))]) (h' := []) (StC.pure (.cons .im .nil)) (Yx ?_)
    try simp only [Ex.t, Ex.b]
    exact Done.eq rfl (.tmp .nil)
   refine Yg ?_
   exact ⟨(), H, (StC.pure .nil)⟩
  refine Y22 (fun (y : Bool) => Y1f t0 y) r (fun (y : Bool) => [Z7, (6, .j t0.Op), (27, .bool y)]) (fun (y : Bool) => (Z4 t0)) ?_ ?_
  ·refine Y0 (OpsW.sg 2 [27, 6, 1] ((27, .bool (t0.Op == 2)) :: (Z3 t0)) ?_)
   refine Y2 (Yb (b := t0.Op == 2) H rfl (fun c20 H => ?_) (fun c20 H => ?_))
   ·refine Yg ?_
    exact ⟨t0.Op == 2, H, (StC.mk (phi [(1, some 1)]) (.o rfl (.i2 .nil) .nil) rfl (.cons (.r rfl) (.i2 .nil)))⟩
   refine Y0 (OpsW.sg 2 [27, 6, 1] ((27, .bool (t0.Op == 3)) :: (Z3 t0)) ?_)
   refine Y2 (Yb (b := t0.Op == 3) H rfl (fun c21 H => ?_) (fun c21 H => ?_))
   ·refine Yg ?_
    exact ⟨t0.Op == 3, H, (StC.mk (phi [(1, some 1)]) (.o rfl (.i2 .nil) .nil) rfl (.cons (.r rfl) (.i2 .nil)))⟩
   refine Y0 (OpsW.sg 2 [27, 6, 1] ((27, .bool (t0.Op == 4)) :: (Z3 t0)) ?_)
   refine Y2 (Yb (b := t0.Op == 4) H rfl (fun c22 H => ?_) (fun c22 H => ?_))
   ·refine Yg ?_
    exact ⟨t0.Op == 4, H, (StC.mk (phi [(1, some 1)]) (.o rfl (.i2 .nil) .nil) rfl (.cons (.r rfl) (.i2 .nil)))⟩
   refine Y0 (OpsW.sg 2 [27, 6, 1] ((27, .bool (t0.Op == 5)) :: (Z3 t0)) ?_)
   refine Y2 (Yb (b := t0.Op == 5) H rfl (fun c23 H => ?_) (fun c23 H => ?_))
   ·refine Yg ?_
    exact ⟨t0.Op == 5, H, (StC.mk (phi [(1, some 1)]) (.o rfl (.i2 .nil) .nil) rfl (.cons (.r rfl) (.i2 .nil)))⟩
   refine Y0 (OpsW.sg 2 [27, 6, 1] ((27, .bool (t0.Op == 6)) :: (Z3 t0)) ?_)
   refine Y2 (Yb (b := t0.Op == 6) H rfl (fun c24 H => ?_) (fun c24 H => ?_))
   ·refine Yg ?_
    exact ⟨t0.Op == 6, H, (StC.mk (phi [(1, some 1)]) (.o rfl (.i2 .nil) .nil) rfl (.cons (.r rfl) (.i2 .nil)))⟩
   refine Y0 (OpsW.sg 2 [27, 6, 1] ((27, .bool (t0.Op == 7)) :: (Z3 t0)) ?_)
   refine Y2 (Yb (b := t0.Op == 7) H rfl (fun c25 H => ?_) (fun c25 H => ?_))
   ·refine Yg ?_
    exact ⟨t0.Op == 7, H, (StC.mk (phi [(1, some 1)]) (.o rfl (.i2 .nil) .nil) rfl (.cons (.r rfl) (.i2 .nil)))⟩
   refine Yu (OpsW.sg 2 [27, 6, 1] ((27, .bool (t0.Op == 8)) :: (Z3 t0)) ?_)
   refine Y2 ?_
   exact ⟨t0.Op == 8, H, (StC.mk (phi [(1, some 1)]) (.o rfl (.i2 .nil) .nil) rfl (.cons (.r rfl) (.i2 .nil)))⟩
  intro v5 H
  unfold Y1f at H
  change AW _ _ _ [Z7, (6, .j t0.Op), (27, .bool v5)] (Z4 t0) _
  refine Yb (b := v5) H rfl (fun c6 H => ?_) (fun c6 H => ?_)
  ·refine Y0 (OpsW.sg 3 [37] [(37, .bool (t0.N == 0))] ?_)
   refine Y2 (Yb (b := t0.N == 0) H rfl (fun c7 H => ?_) (fun c7 H => ?_))
   ·refine Y0 (OpsW.sg 1 [2] [(2, .j (2 : Int))] ?_)
    refine Y2 ?_
    obtain rfl := X7 H
    refine AW.recast (env' := [(2, .j (2 : Int))]) (h' := []) (StC.pure (.cons .im .nil)) (Yx ?_)
    try simp only [Ex.t, Ex.b]
    exact Done.eq rfl (.tmp .nil)
   refine Yg ?_
   exact ⟨(), H, (StC.pure .nil)⟩
  refine Y22 (fun (y : Bool) => Y2w t0 y) r (fun (y : Bool) => [Z7, (6, .j t0.Op), (38, .bool y)]) (fun (y : Bool) => (Z4 t0)) ?_ ?_
  ·refine Y0 (OpsW.sg 2 [38, 1, 6] [(38, .bool (t0.Op == 9)), Z7, (6, .j t0.Op)] ?_)
   refine Y2 (Yb (b := t0.Op == 9) H rfl (fun c18 H => ?_) (fun c18 H => ?_))
   ·refine Yg ?_
    exact ⟨t0.Op == 9, H, (StC.mk (phi [(1, some 1)]) (.o rfl (.i2 .nil) .nil) rfl (.cons (.r rfl) (.i2 .nil)))⟩
   refine Y0 (OpsW.sg 2 [38, 1, 6] [(38, .bool (t0.Op == 10)), Z7, (6, .j t0.Op)] ?_)
   refine Y2 (Yb (b := t0.Op == 10) H rfl (fun c19 H => ?_) (fun c19 H => ?_))
   ·refine Yg ?_
    exact ⟨t0.Op == 10, H, (StC.mk (phi [(1, some 1)]) (.o rfl (.i2 .nil) .nil) rfl (.cons (.r rfl) (.i2 .nil)))⟩
   refine Yu (OpsW.sg 2 [38, 1, 6] [(38, .bool (t0.Op == 11)), Z7, (6, .j t0.Op)] ?_)
   refine Y2 ?_
   exact ⟨t0.Op == 11, H, (StC.mk (phi [(1, some 1)]) (.o rfl (.i2 .nil) .nil) rfl (.cons (.r rfl) (.i2 .nil)))⟩
  intro v8 H
  unfold Y2w at H
  change AW _ _ _ [Z7, (6, .j t0.Op), (38, .bool v8)] (Z4 t0) _
  refine Yb (b := v8) H rfl (fun c9 H => ?_) (fun c9 H => ?_)
  ·refine Y0 (OpsW.sg 3 [44] [(44, .bool (t0.N == 0))] ?_)
   refine Y2 (Yb (b := t0.N == 0) H rfl (fun c10 H => ?_) (fun c10 H => ?_))
   ·refine Y0 (OpsW.sg 1 [2] [(2, .j (1 : Int))] ?_)
    refine Y2 ?_
    obtain rfl := X7 H
    refine AW.recast (env' := [(2, .j (1 : Int))]) (h' := []) (StC.pure (.cons .im .nil)) (Yx ?_)
    try simp only [Ex.t, Ex.b]
    exact Done.eq rfl (.tmp .nil)
   refine Yg ?_
   exact ⟨(), H, (StC.pure .nil)⟩
  refine Y0 (OpsW.sg 2 [45, 1, 6] [(45, .bool (t0.Op == 12)), Z7, (6, .j t0.Op)] ?_)
  refine Y2 (Yb (b := t0.Op == 12) H rfl (fun c11 H => ?_) (fun c11 H => ?_))
  ·refine Y0 (OpsW.sz 8 [54, 1] [(54, .bool (cond (decide (2 ≤ t0.N)) (decide (t0.N ≤ 5)) false)), Z7] ⟨(fun h => h), (fun h => h), (fun h => by first | exact h | (simpa using h) | grind), trivial⟩ ?_)
   refine Y2 (Yb (b := cond (decide (2 ≤ t0.N)) (decide (t0.N ≤ 5)) false) H rfl (fun c12 H => ?_) (fun c12 H => ?_))
   ·refine Y0 ?_
    have ⟨g13, H⟩ := Yt H
    refine OpsW.sz 4 [2] [(2, .j (t0.N + 1))] ⟨g13, trivial⟩ (Y2 ?_)
    obtain rfl := X7 H
    refine AW.recast (env' := [(2, .j (t0.N + 1))]) (h' := []) (StC.pure (.cons .im .nil)) (Yx ?_)
    try simp only [Ex.t, Ex.b]
    exact Done.eq rfl (.tmp .nil)
   refine Yg ?_
   exact ⟨(), H, (StC.pure .nil)⟩
  refine Y0 (OpsW.sg 2 [58, 1] [(58, .bool (t0.Op == 13)), Z7] ?_)
  refine Y2 (Yb (b := t0.Op == 13) H rfl (fun c14 H => ?_) (fun c14 H => ?_))
  ·refine Y2n Tryd.checked.mixed (by kernel_rfl) ?_
   have ⟨g15, H⟩ := Yt H
   refine QOps.sz (N := 88) 8 [(4, .j (Z6 t0)), (3, .j (Z8 t0)), (65, .j (Z6 t0)), (64, .j t0.N), (63, .ref 1 0 1), (62, .j (Z8 t0)), (61, .j t0.N), (60, .ref 1 0 1), (58, .bool (t0.Op == 13)), Z7] ⟨(by decide), g15, (by decide), trivial⟩ <| QOps.nil (AW.trim [4, 3, 1] [(4, .j (Z6 t0)), (3, .j (Z8 t0)), Z7] (by kernel_rfl) ?_)
   refine Y0 (OpsW.sz 19 [84, 4, 3] [(84, .bool (cond (Z5 t0) (decide ((Z6 t0) ≤ 4)) false)), (4, .j (Z6 t0)), (3, .j (Z8 t0))] ⟨(fun h => h), (fun h => by first | exact h | (simpa using h) | grind), (fun h => h), (fun h => by first | exact h | (simpa using h) | grind), (fun h => h), (fun h => by first | exact h | (simpa using h) | grind), (fun h => h), (fun h => by first | exact h | (simpa using h) | grind), trivial⟩ ?_)
   refine Y2 (Yb (b := cond (Z5 t0) (decide ((Z6 t0) ≤ 4)) false) H rfl (fun c16 H => ?_) (fun c16 H => ?_))
   ·refine Y0 ?_
    have ⟨g17, H⟩ := Yt H
    refine OpsW.sz 4 [2] [(2, .j ((Z8 t0) * (Z6 t0)))] ⟨g17, trivial⟩ (Y2 ?_)
    obtain rfl := X7 H
    refine AW.recast (env' := [(2, .j ((Z8 t0) * (Z6 t0)))]) (h' := []) (StC.pure (.cons .im .nil)) (Yx ?_)
    try simp only [Ex.t, Ex.b]
    exact Done.eq rfl (.tmp .nil)
   refine Yg ?_
   exact ⟨(), H, (StC.pure .nil)⟩
  refine Yg ?_
  exact ⟨(), H, (StC.pure .nil)⟩
 rintro ⟨⟩ H
 unfold Y2b at H
 change AW _ _ _ [] [] _
 refine Y0 (OpsW.sg 1 [2] [(2, .j (-1 : Int))] ?_)
 refine Y2 ?_
 obtain rfl := X7 H
 refine AW.recast (env' := [(2, .j (-1 : Int))]) (h' := []) (StC.pure (.cons .im .nil)) (Yx ?_)
 try simp only [Ex.t, Ex.b]
 exact Done.eq rfl (.tmp .nil)
def Y56 (t0 : List Y4) (loop3 : (Int × Int) → Option Int) (v1 : Int) (v2 : Int) : Option Int :=
 cond (decide (0 < v2)) (
  G ((!(cond (decide (v1 < 0)) true (decide ((t0.length : Int) ≤ v1)))) = true → (0 ≤ v1 ∧ v1 < (t0.length : Int))) <|
  (cond (!(cond (decide (v1 < 0)) true (decide ((t0.length : Int) ≤ v1)))) (Y3z (t0.getD v1.toNat Yf)) (some (0 : Int))).bind fun x6 =>
  cond (cond (cond (decide (v1 < 0)) true (decide ((t0.length : Int) ≤ v1))) true (decide (x6 < 0))) (
   some (-1 : Int)) (
   G (0 ≤ v1 ∧ v1 < (t0.length : Int)) <|
   (Y3z (t0.getD v1.toNat Yf)).bind fun x9 =>
   G (inR (x9 - 1)) <|
   G (inR (v2 + (x9 - 1))) <|
   G (inR (v1 + 1)) <|
   loop3 (v1 + 1, v2 + (x9 - 1)))) (
  some v1)
def f_R09_End (t0 : List Y4) (t1 : Int) : Option Int :=
 iter (fun loop (s : Int × Int) => Y56 t0 loop s.1 s.2) 1000000 (t1, (1 : Int))
section
variable (t0 : List Y4) (v1 : Int) (v2 : Int)
abbrev Za := (cond (decide (v1 < 0)) true (decide ((t0.length : Int) ≤ v1)))
abbrev Zb := t0.getD v1.toNat Yf
abbrev Z9 : Env := [(0, slA Y3 t0), (1, .j v1), (5, .j v2)]
end
theorem f_R09_End_ok  {t0 : List Y4} {t1 : Int} {r : Int} (H : f_R09_End t0 t1 = some r) : QSpec Tryd.prog 24 [slA Y3 t0, .int .i64 t1] (.int .i64 r) := by
 refine Y04 Tryd.func24 rfl (by simp [Tryd.ntmps24]) ?_
 rw [Tryd.ntmps24]
 unfold f_R09_End at H
 change AW _ _ _ [(0, slA Y3 t0), (1, .j t1)] [] _
 refine Y0 (OpsW.sg 1 [0, 1] [(0, slA Y3 t0), (1, .j t1)] ?_)
 refine Y2 (Y0 (OpsW.sg 1 [5, 0, 1] [(5, .j (1 : Int)), (0, slA Y3 t0), (1, .j t1)] ?_))
 refine Y2 (Y0e (Y0g ?_))
 refine Y4i (fun loop (s : Int × Int) => Y56 t0 loop s.1 s.2) r (fun (s : Int × Int) => [(0, slA Y3 t0), (1, .j s.1), (5, .j s.2)]) (fun (s : Int × Int) => []) ?_ 1000000 (t1, (1 : Int)) H (StC.pure (.i3 .nil))
 intro loop3 s H
 obtain ⟨v1, v2⟩ := s
 unfold Y56 at H
 change AW _ _ _ (Z9 t0 v1 v2) [] _
 refine Y0e (Y0 (OpsW.sg 2 [7, 0, 1, 5] ((7, .bool (decide (0 < v2))) :: (Z9 t0 v1 v2)) ?_))
 refine Y2 (Yb (b := decide (0 < v2)) H rfl (fun c4 H => ?_) (fun c4 H => ?_))
 ·refine Yg (Y0g (Y0e (Y0 ?_)))
  have ⟨g5, H⟩ := Yt H
  refine OpsW.sz 12 [19, 16, 0, 1, 5] ((19, .cnd (!(Za t0 v1)) (.ipt (t0.flatMap Y3) (v1.toNat * 2))) :: (16, .bool (Za t0 v1)) :: (Z9 t0 v1 v2)) ⟨(fun h => h), (fun h => h), (fun h => h), (fun h => by first | exact h | (simpa using h) | grind), (fun h => h), (fun h => h), g5, trivial⟩ (OpsW.asG (c := !(Za t0 v1)) (.agg [.j ((Zb t0 v1).Op), .j ((Zb t0 v1).N)]) rfl rfl rfl rfl (fun hc => T.loadAgg (cs := t0.flatMap Y3) (off := v1.toNat * 2) (ds := Y3 (Zb t0 v1)) rfl hc (by kernel_rfl) (by have := Y15 Y3 2 (fun _ => rfl) t0; have := (ltN (g5 hc)); first | omega | (simp only [Za, Zb] at *; omega)) (fm_elem Y3 2 (fun _ => rfl) t0 Yf v1.toNat (ltN (g5 hc)))) ?_)
  have ⟨x6, hx6, H⟩ := Y1j H
  refine OpsW.gcall (c := !(Za t0 v1)) (r := .j x6) [] rfl (by kernel_rfl) rfl rfl rfl rfl (fun hc => ⟨Yi ⟨hc, trivial⟩, (.cons (.pur rfl) .nil), f_R09_Arity_ok (condT hc hx6), .inl ⟨rfl, rfl⟩⟩) (OpsW.sz 2 [23, 0, 1, 5] ((23, .bool (cond (Za t0 v1) true (decide (x6 < 0)))) :: (Z9 t0 v1 v2)) ⟨(fun h => h), (fun h => by first | exact h | (simpa using h) | grind), trivial⟩ (Y2 (Yb (b := cond (Za t0 v1) true (decide (x6 < 0))) H rfl (fun c7 H => ?_) (fun c7 H => ?_))))
  ·refine Y0 (OpsW.sg 1 [4] [(4, .j (-1 : Int))] ?_)
   refine Y2 ?_
   obtain rfl := X7 H
   refine AW.recast (env' := [(4, .j (-1 : Int))]) (h' := []) (StC.pure (.cons .im .nil)) (Yx ?_)
   try simp only [Ex.t, Ex.b]
   exact Done.eq rfl (.tmp .nil)
  refine Yg (Y0 ?_)
  have ⟨g8, H⟩ := Yt H
  refine OpsW.sz 4 [27, 24, 0, 1, 5] ((27, .ipt (t0.flatMap Y3) (v1.toNat * 2)) :: (24, .j v2) :: (Z9 t0 v1 v2)) ⟨g8, trivial⟩ (OpsW.asU (.agg [.j ((Zb t0 v1).Op), .j ((Zb t0 v1).N)]) rfl rfl (T.loadAgg (cs := t0.flatMap Y3) (off := v1.toNat * 2) (ds := Y3 (Zb t0 v1)) rfl trivial (by kernel_rfl) (by have := Y15 Y3 2 (fun _ => rfl) t0; have := (ltN g8); first | omega | (simp only [Zb] at *; omega)) (fm_elem Y3 2 (fun _ => rfl) t0 Yf v1.toNat (ltN g8))) ?_)
  have ⟨x9, hx9, H⟩ := Y1j H
  refine Y1e rfl (.cons (.pur rfl) .nil) (f_R09_Arity_ok hx9) ?_
  have ⟨g10, H⟩ := Yt H
  have ⟨g11, H⟩ := Yt H
  refine OpsW.sz 3 [5, 0, 1] [(5, .j (v2 + (x9 - 1))), (0, slA Y3 t0), (1, .j v1)] ⟨g10, g11, trivial⟩ <| Y2 (Yu ?_)
  have ⟨g12, H⟩ := Yt H
  refine OpsW.sz 3 [1, 5, 0] [(1, .j (v1 + 1)), (5, .j (v2 + (x9 - 1))), (0, slA Y3 t0)] ⟨g12, trivial⟩ (Y2 ?_)
  exact ⟨(v1 + 1, v2 + (x9 - 1)), H, (StC.pure (.i3 .nil))⟩
 refine AW.exit <| Y0 (OpsW.sg 2 [4] [(4, .j v1)] ?_)
 refine Y2 ?_
 obtain rfl := X7 H
 refine AW.recast (env' := [(4, .j v1)]) (h' := []) (StC.pure (.cons .im .nil)) (Yx ?_)
 try simp only [Ex.t, Ex.b]
 exact Done.eq rfl (.tmp .nil)
def Y26 (t0 : List Y4) (t1 : Int) (loop5 : ((List Int) × Int × Int) → Option (List Int)) (v2 : List Int) (v3 : Int) (v4 : Int) : Option (List Int) :=
 G (0 ≤ t1 ∧ t1 < (t0.length : Int)) <|
 (Y3z (t0.getD t1.toNat Yf)).bind fun x7 =>
 cond (decide (v4 < x7)) (
  G (room 8 (v2.length + 1)) <|
  (f_R09_End t0 v3).bind fun x10 =>
  G (inR (v4 + 1)) <|
  loop5 (v2 ++ [v3], x10, v4 + 1)) (
  some v2)
def Y3d (t0 : List Y4) (t1 : Int) : Option (List Int) :=
 G (inR (t1 + 1)) <|
 iter (fun loop (s : (List Int) × Int × Int) => Y26 t0 t1 loop s.1 s.2.1 s.2.2) 1000000 (([] : List Int), t1 + 1, (0 : Int))
section
variable (t0 : List Y4) (t1 : Int) (v2 : List Int) (v3 : Int) (v4 : Int)
abbrev Zf : Nat × AV := (5, .rsl 5 0 0 ((v2 ++ [v3]).length))
abbrev Zc : Env := [(0, slA Y3 t0), (1, .j t1), (5, .rsl 5 0 0 v2.length), (6, .j v3), (7, .j v4)]
abbrev Zd : Env := [(0, slA Y3 t0), (1, .j t1)]
abbrev Ze : Env := [(0, slA Y3 t0), (1, .j t1), (6, .j v3), (7, .j v4)]
end
theorem f_R09_Operands_ok  {t0 : List Y4} {t1 : Int} {r : List Int} (H : Y3d t0 t1 = some r) : QSpec Tryd.prog 22 [slA Y3 t0, .int .i64 t1] (slA (eI .i64) r) := by
 refine Y04 Tryd.func22 rfl (by simp [Tryd.ntmps22]) ?_
 rw [Tryd.ntmps22]
 unfold Y3d at H
 change AW _ _ _ (Zd t0 t1) [] _
 refine Y0 (OpsW.sg 1 [0, 1] (Zd t0 t1) ?_)
 refine Y2 (Y0 (OpsW.buildT (enc := eI .i64) ([] : List Int) rfl rfl rfl 8 rfl E42 (fun _ => rfl) (by decide) trivial (by kernel_rfl) (by kernel_rfl) (by kernel_rfl) rfl ?_))
 have ⟨g1, H⟩ := Yt H
 refine OpsW.sz 4 [6, 5, 0, 1] ((6, .j (t1 + 1)) :: (5, .rsl 8 0 0 (([] : List Int).length)) :: (Zd t0 t1)) ⟨g1, trivial⟩ (OpsW.rc ((6, .j (t1 + 1)) :: (5, .rsl 5 0 0 (([] : List Int).length)) :: (Zd t0 t1)) [(5, rtA 0 3 1 (eI .i64) ([] : List Int))] (StC.mk (phi [(5, some 8)]) (.o rfl (CstL.ims _) .nil) rfl (.cons .im (.cons (.s rfl) (.i2 .nil)))) ?_)
 refine Y2 (Y0e (Y0 (OpsW.sg 1 [7, 6, 5, 0, 1] ((7, .j (0 : Int)) :: (6, .j (t1 + 1)) :: (5, .rsl 5 0 0 (([] : List Int).length)) :: (Zd t0 t1)) ?_)))
 refine Y2 (Y0g ?_)
 refine Y4i (fun loop (s : (List Int) × Int × Int) => Y26 t0 t1 loop s.1 s.2.1 s.2.2) r (fun (s : (List Int) × Int × Int) => [(0, slA Y3 t0), (1, .j t1), (5, .rsl 5 0 0 s.1.length), (6, .j s.2.1), (7, .j s.2.2)]) (fun (s : (List Int) × Int × Int) => [(5, rtA 0 3 1 (eI .i64) s.1)]) ?_ 1000000 (([] : List Int), t1 + 1, (0 : Int)) H (StC.mk (phi [(5, some 5)]) (.o rfl (CstL.ims _) .nil) rfl (.i2 (.cons (.s rfl) (.i2 .nil))))
 intro loop5 s H
 obtain ⟨v2, v3, v4⟩ := s
 unfold Y26 at H
 change AW _ _ _ (Zc t0 t1 v2 v3 v4) [(5, rtA 0 3 1 (eI .i64) v2)] _
 refine Y0e (Y0 ?_)
 have ⟨g6, H⟩ := Yt H
 refine OpsW.sz 4 [14, 11, 0, 1, 5, 6, 7] ((14, .ipt (t0.flatMap Y3) (t1.toNat * 2)) :: (11, .j v4) :: (Zc t0 t1 v2 v3 v4)) ⟨g6, trivial⟩ (OpsW.asU (.agg [.j ((t0.getD t1.toNat Yf).Op), .j ((t0.getD t1.toNat Yf).N)]) rfl rfl (T.loadAgg (cs := t0.flatMap Y3) (off := t1.toNat * 2) (ds := Y3 (t0.getD t1.toNat Yf)) rfl trivial (by kernel_rfl) (by have := Y15 Y3 2 (fun _ => rfl) t0; have := (ltN g6); omega) (fm_elem Y3 2 (fun _ => rfl) t0 Yf t1.toNat (ltN g6))) ?_)
 have ⟨x7, hx7, H⟩ := Y1j H
 refine Y1e rfl (.cons (.pur rfl) .nil) (f_R09_Arity_ok hx7) (OpsW.sg 1 [17, 0, 1, 5, 6, 7] ((17, .bool (decide (v4 < x7))) :: (Zc t0 t1 v2 v3 v4)) (Y2 (Yb (b := decide (v4 < x7)) H rfl (fun c8 H => ?_) (fun c8 H => ?_))))
 ·refine Yg (Y0e (Y0g (Y0 (OpsW.sg 2 [21, 20, 0, 1, 5, 6, 7] ((21, .j v3) :: (20, .rsl 5 0 0 v2.length) :: (Zc t0 t1 v2 v3 v4)) ?_))))
  have ⟨g9, H⟩ := Yt H
  refine OpsW.appendLF (enc := eI .i64) [v3] rfl rfl rfl (by decide) rfl rfl rfl (by simp) E42 (fun _ => rfl) (by decide) trivial (by kernel_rfl) (by kernel_rfl) (by kernel_rfl) rfl rfl rfl g9 (OpsW.sg 1 [5, 0, 1, 6, 7] ((5, .rsl 5 1 0 ((v2 ++ [v3]).length)) :: (Ze t0 t1 v3 v4)) (OpsW.rc ((Zf v2 v3) :: (Ze t0 t1 v3 v4)) [(5, rtA 0 3 1 (eI .i64) (v2 ++ [v3]))] (StC.mk (phi [(5, some 5)]) (.o rfl (CstL.ims _) .nil) rfl (.cons (.s rfl) (.i4 .nil))) ?_))
  refine Y2 (Yu (OpsW.sg 2 [25, 24, 5, 0, 1, 6, 7] ((25, .j v3) :: (24, slA Y3 t0) :: (Zf v2 v3) :: (Ze t0 t1 v3 v4)) ?_))
  have ⟨x10, hx10, H⟩ := Y1j H
  refine Y1e rfl (.cons (.pur rfl) (.cons (.pur rfl) .nil)) (f_R09_End_ok hx10) (OpsW.sg 1 [6, 5, 0, 1, 7] [(6, .j x10), (Zf v2 v3), (0, slA Y3 t0), (1, .j t1), (7, .j v4)] ?_)
  refine Y2 (Yu ?_)
  have ⟨g11, H⟩ := Yt H
  refine OpsW.sz 3 [7, 6, 5, 0, 1] ((7, .j (v4 + 1)) :: (6, .j x10) :: (Zf v2 v3) :: (Zd t0 t1)) ⟨g11, trivial⟩ (Y2 ?_)
  exact ⟨(v2 ++ [v3], x10, v4 + 1), H, (StC.mk (phi [(5, some 5)]) (.o rfl (CstL.ims _) .nil) rfl (.i2 (.cons (.s rfl) (.i2 .nil))))⟩
 refine AW.exit <| Y0 (OpsW.sg 2 [4] [(4, .rsl 5 0 0 v2.length)] ?_)
 refine OpsW.rc [(4, slA (eI .i64) v2)] [] (StC.mk (phi []) .nil rfl (.cons (.frz rfl rfl rfl (frz_all (eI .i64) 1 (fun _ => rfl) v2) (Y15 (eI .i64) 1 (fun _ => rfl) v2) (phi_ne rfl)) .nil)) (Y2 ?_)
 obtain rfl := X7 H
 refine AW.recast (env' := [(4, slA (eI .i64) v2)]) (h' := []) (StC.pure (.cons .im .nil)) (Yx ?_)
 try simp only [Ex.t, Ex.b]
 exact Done.eq rfl (.tmp .nil)
def Y4w  : Option Bool :=
 some true
def Y3c (t0 : List Y4) (x1 : List Int) (loop14 : (Int) → Option Bool) (v13 : Int) : Option Bool :=
 cond (decide (v13 < (x1.length : Int))) (
  G (0 ≤ v13 ∧ v13 < (x1.length : Int)) <|
  G (0 ≤ (x1.getD v13.toNat 0) ∧ (x1.getD v13.toNat 0) < (t0.length : Int)) <|
  cond (((t0.getD (x1.getD v13.toNat 0).toNat Yf).Op) != 0) (
   some false) (
   G (inR (v13 + 1)) <|
   loop14 (v13 + 1))) (
  Y4w)
def Y2a (t0 : List Y4) (t1 : Int) (x1 : List Int) (v3 : Bool) : Option Bool :=
 cond v3 (
  (Y25 ((t0.getD t1.toNat Yf).Op)).bind fun x5 =>
  G (0 ≤ (0 : Int) ∧ (0 : Int) < (x1.length : Int)) <|
  G (0 ≤ (x1.getD (0 : Int).toNat (0 : Int)) ∧ (x1.getD (0 : Int).toNat (0 : Int)) < (t0.length : Int)) <|
  (Y25 ((t0.getD (x1.getD (0 : Int).toNat (0 : Int)).toNat Yf).Op)).bind fun x8 =>
  G ((decide (x5 ≤ x8)) = true → (0 ≤ (1 : Int) ∧ (1 : Int) < (x1.length : Int))) <|
  G ((decide (x5 ≤ x8)) = true → (0 ≤ (x1.getD (1 : Int).toNat (0 : Int)) ∧ (x1.getD (1 : Int).toNat (0 : Int)) < (t0.length : Int))) <|
  (cond (decide (x5 ≤ x8)) (Y25 ((t0.getD (x1.getD (1 : Int).toNat (0 : Int)).toNat Yf).Op)) (some (0 : Int))).bind fun x11 =>
  some (cond (decide (x5 ≤ x8)) (decide (x5 < x11)) false)) (
  cond (((t0.getD t1.toNat Yf).Op) == 12) (
   iter (fun loop (s : Int) => Y3c t0 x1 loop s) 1000000 (0 : Int)) (
   Y4w))
def f_R09_sound (t0 : List Y4) (t1 : Int) : Option Bool :=
 (Y3d t0 t1).bind fun x1 =>
 G (0 ≤ t1 ∧ t1 < (t0.length : Int)) <|
 cond (((t0.getD t1.toNat Yf).Op) == 2) (
  Y2a t0 t1 x1 (((t0.getD t1.toNat Yf).Op) == 2)) (
  cond (((t0.getD t1.toNat Yf).Op) == 3) (
   Y2a t0 t1 x1 (((t0.getD t1.toNat Yf).Op) == 3)) (
   cond (((t0.getD t1.toNat Yf).Op) == 4) (
    Y2a t0 t1 x1 (((t0.getD t1.toNat Yf).Op) == 4)) (
    Y2a t0 t1 x1 (((t0.getD t1.toNat Yf).Op) == 5))))
section
variable (t0 : List Y4) (t1 : Int) (v13 : Int) (x1 : List Int)
abbrev Zk := (t0.getD t1.toNat Yf).Op
abbrev Zl := (x1.getD (1 : Int).toNat (0 : Int))
abbrev Zm : Nat × AV := (5, slA (eI .i64) x1)
abbrev Zn := (t0.getD (x1.getD v13.toNat 0).toNat Yf).Op
abbrev Zo := (x1.getD (0 : Int).toNat (0 : Int))
abbrev Zg : Env := [(15, .j (Zk t0 t1)), (Zm x1), (0, slA Y3 t0), (1, .j t1)]
abbrev Zh : Env := [(0, slA Y3 t0), (Zm x1)]
abbrev Zi : Env := [(0, slA Y3 t0), (Zm x1), (7, .j v13)]
abbrev Zj : Env := [(0, slA Y3 t0), (1, .j t1)]
end
theorem f_R09_sound_ok  {t0 : List Y4} {t1 : Int} {r : Bool} (H : f_R09_sound t0 t1 = some r) : QSpec Tryd.prog 43 [slA Y3 t0, .int .i64 t1] (.bool r) := by
 refine Y04 Tryd.func43 rfl (by simp [Tryd.ntmps43]) ?_
 rw [Tryd.ntmps43]
 unfold f_R09_sound at H
 change AW _ _ _ (Zj t0 t1) [] _
 refine Y0 (OpsW.sg 1 [0, 1] (Zj t0 t1) ?_)
 refine Y2 (Y0 (OpsW.sg 2 [9, 8, 0, 1] ((9, .j t1) :: (8, slA Y3 t0) :: (Zj t0 t1)) ?_))
 have ⟨x1, hx1, H⟩ := Y1j H
 refine Y1e rfl (.cons (.pur rfl) (.cons (.pur rfl) .nil)) (f_R09_Operands_ok hx1) (OpsW.sg 1 [5, 0, 1] ((Zm x1) :: (Zj t0 t1)) (Y2 ?_))
 refine Y22 (fun (y : Unit) => Y4w) r (fun (y : Unit) => []) (fun (y : Unit) => []) ?_ ?_
 ·refine Y0 ?_
  have ⟨g2, H⟩ := Yt H
  refine OpsW.sz 4 [14, 5, 0, 1] ((14, .ipt (t0.flatMap Y3) (t1.toNat * 2 + 0)) :: (Zm x1) :: (Zj t0 t1)) ⟨g2, trivial⟩ (OpsW.asU (.j (Zk t0 t1)) rfl rfl (T.load rfl trivial (by kernel_rfl) (fm_cell Y3 2 (fun _ => rfl) t0 Yf t1.toNat (ltN g2) 0 (fun a => .val (.j a.Op)) (fun _ => rfl))) (OpsW.sg 0 [15, 5, 0, 1] (Zg t0 t1 x1) ?_))
  refine Y2 (Y0g ?_)
  refine Y22 (fun (y : Bool) => Y2a t0 t1 x1 y) r (fun (y : Bool) => [(0, slA Y3 t0), (1, .j t1), (Zm x1), (15, .j (Zk t0 t1)), (16, .bool y)]) (fun (y : Bool) => []) ?_ ?_
  ·refine Y0 (OpsW.sg 2 [16, 15, 5, 0, 1] ((16, .bool ((Zk t0 t1) == 2)) :: (Zg t0 t1 x1)) ?_)
   refine Y2 (Yb (b := (Zk t0 t1) == 2) H rfl (fun c20 H => ?_) (fun c20 H => ?_))
   ·refine Yg ?_
    exact ⟨(Zk t0 t1) == 2, H, (StC.pure (.i5 .nil))⟩
   refine Y0 (OpsW.sg 2 [16, 15, 5, 0, 1] ((16, .bool ((Zk t0 t1) == 3)) :: (Zg t0 t1 x1)) ?_)
   refine Y2 (Yb (b := (Zk t0 t1) == 3) H rfl (fun c21 H => ?_) (fun c21 H => ?_))
   ·refine Yg ?_
    exact ⟨(Zk t0 t1) == 3, H, (StC.pure (.i5 .nil))⟩
   refine Y0 (OpsW.sg 2 [16, 15, 5, 0, 1] ((16, .bool ((Zk t0 t1) == 4)) :: (Zg t0 t1 x1)) ?_)
   refine Y2 (Yb (b := (Zk t0 t1) == 4) H rfl (fun c22 H => ?_) (fun c22 H => ?_))
   ·refine Yg ?_
    exact ⟨(Zk t0 t1) == 4, H, (StC.pure (.i5 .nil))⟩
   refine Yu (OpsW.sg 2 [16, 15, 5, 0, 1] ((16, .bool ((Zk t0 t1) == 5)) :: (Zg t0 t1 x1)) ?_)
   refine Y2 ?_
   exact ⟨(Zk t0 t1) == 5, H, (StC.pure (.i5 .nil))⟩
  intro v3 H
  unfold Y2a at H
  change AW _ _ _ [(0, slA Y3 t0), (1, .j t1), (Zm x1), (15, .j (Zk t0 t1)), (16, .bool v3)] [] _
  refine Yb (b := v3) H rfl (fun c4 H => ?_) (fun c4 H => ?_)
  ·refine Y0 (OpsW.sz 4 [24, 0, 5] ((24, .ipt (t0.flatMap Y3) (t1.toNat * 2 + 0)) :: (Zh t0 x1)) ⟨g2, trivial⟩ ?_)
   refine OpsW.asU (.j (Zk t0 t1)) rfl rfl (T.load rfl trivial (by kernel_rfl) (fm_cell Y3 2 (fun _ => rfl) t0 Yf t1.toNat (ltN g2) 0 (fun a => .val (.j a.Op)) (fun _ => rfl))) ?_
   have ⟨x5, hx5, H⟩ := Y1j H
   refine Y1e rfl (.cons (.pur rfl) .nil) (Y3x hx5) (OpsW.sg 1 [6, 0, 5] ((6, .j x5) :: (Zh t0 x1)) ?_)
   refine Y2 (Y0 ?_)
   have ⟨g6, H⟩ := Yt H
   refine OpsW.sz 3 [29, 27, 6, 0, 5] ((29, .ipt (x1.flatMap (eI .i64)) ((0 : Int).toNat * 1)) :: (27, slA Y3 t0) :: (6, .j x5) :: (Zh t0 x1)) ⟨g6, trivial⟩ (OpsW.asU (.j (Zo x1)) rfl rfl (T.load rfl trivial (by kernel_rfl) (fm_cell0 (eI .i64) 1 (fun _ => rfl) x1 (0 : Int) (0 : Int).toNat (ltN g6) (fun a => .val (.j a)) (fun _ => rfl))) ?_)
   have ⟨g7, H⟩ := Yt H
   refine OpsW.sz 2 [32, 6, 0, 5] ((32, .ipt (t0.flatMap Y3) ((Zo x1).toNat * 2 + 0)) :: (6, .j x5) :: (Zh t0 x1)) ⟨g7, trivial⟩ (OpsW.asU (.j ((t0.getD (x1.getD (0 : Int).toNat (0 : Int)).toNat Yf).Op)) rfl rfl (T.load rfl trivial (by kernel_rfl) (fm_cell Y3 2 (fun _ => rfl) t0 Yf (Zo x1).toNat (ltN g7) 0 (fun a => .val (.j a.Op)) (fun _ => rfl))) ?_)
   have ⟨x8, hx8, H⟩ := Y1j H
   refine Y1e rfl (.cons (.pur rfl) .nil) (Y3x hx8) ?_
   have ⟨g9, H⟩ := Yt H
   refine OpsW.sz 6 [40, 38, 37, 6] [(40, .cnd (decide (x5 ≤ x8)) (.ipt (x1.flatMap (eI .i64)) ((1 : Int).toNat * 1))), (38, .cnd (decide (x5 ≤ x8)) (slA Y3 t0)), (37, .bool (decide (x5 ≤ x8))), (6, .j x5)] ⟨(fun h => h), g9, trivial⟩ (OpsW.asG (c := decide (x5 ≤ x8)) (.j (Zl x1)) rfl rfl rfl rfl (fun hc => T.load rfl hc (by kernel_rfl) (fm_cell0 (eI .i64) 1 (fun _ => rfl) x1 (0 : Int) (1 : Int).toNat (ltN (g9 hc)) (fun a => .val (.j a)) (fun _ => rfl))) ?_)
   have ⟨g10, H⟩ := Yt H
   refine OpsW.sz 2 [43, 37, 6] [(43, .cnd (decide (x5 ≤ x8)) (.ipt (t0.flatMap Y3) ((Zl x1).toNat * 2 + 0))), (37, .bool (decide (x5 ≤ x8))), (6, .j x5)] ⟨(fun h => h), (fun h => h), g10, (fun h => h), trivial⟩ (OpsW.asG (c := decide (x5 ≤ x8)) (.j ((t0.getD (Zl x1).toNat Yf).Op)) rfl rfl rfl rfl (fun hc => T.load rfl hc (by kernel_rfl) (fm_cell Y3 2 (fun _ => rfl) t0 Yf (Zl x1).toNat (ltN (g10 hc)) 0 (fun a => .val (.j a.Op)) (fun _ => rfl))) ?_)
   have ⟨x11, hx11, H⟩ := Y1j H
   refine OpsW.gcall (c := decide (x5 ≤ x8)) (r := .j x11) [] rfl (by kernel_rfl) rfl rfl rfl rfl (fun hc => ⟨Yi ⟨hc, trivial⟩, (.cons (.pur rfl) .nil), Y3x (condT hc hx11), .inl ⟨rfl, rfl⟩⟩) (OpsW.sz 4 [4] [(4, .bool (cond (decide (x5 ≤ x8)) (decide (x5 < x11)) false))] ⟨(fun h => h), (fun h => h), (fun h => by first | exact h | (simpa using h) | grind), trivial⟩ (Y2 ?_))
   obtain rfl := X7 H
   refine AW.recast (env' := [(4, .bool (cond (decide (x5 ≤ x8)) (decide (x5 < x11)) false))]) (h' := []) (StC.pure (.cons .im .nil)) (Yx ?_)
   try simp only [Ex.t, Ex.b]
   exact Done.eq rfl (.tmp .nil)
  refine Y0 (OpsW.sg 2 [49, 0, 5] ((49, .bool ((Zk t0 t1) == 12)) :: (Zh t0 x1)) ?_)
  refine Y2 (Yb (b := (Zk t0 t1) == 12) H rfl (fun c12 H => ?_) (fun c12 H => ?_))
  ·refine Y0 (OpsW.sg 1 [7, 0, 5] ((7, .j (0 : Int)) :: (Zh t0 x1)) ?_)
   refine Y2 (Y0g ?_)
   refine Y4i (fun loop (s : Int) => Y3c t0 x1 loop s) r (fun (s : Int) => [(0, slA Y3 t0), (Zm x1), (7, .j s)]) (fun (s : Int) => []) ?_ 1000000 (0 : Int) H (StC.pure (.i3 .nil))
   intro loop14 v13 H
   unfold Y3c at H
   change AW _ _ _ (Zi t0 v13 x1) [] _
   refine Y0e (Y0 (OpsW.sg 4 [54, 0, 5, 7] ((54, .bool (decide (v13 < (x1.length : Int)))) :: (Zi t0 v13 x1)) ?_))
   refine Y2 (Yb (b := decide (v13 < (x1.length : Int))) H rfl (fun c15 H => ?_) (fun c15 H => ?_))
   ·refine Yg (Y0e (Y0g (Y0 ?_)))
    have ⟨g16, H⟩ := Yt H
    refine OpsW.sz 4 [60, 57, 0, 5, 7] ((60, .ipt (x1.flatMap (eI .i64)) (v13.toNat * 1)) :: (57, slA Y3 t0) :: (Zi t0 v13 x1)) ⟨g16, trivial⟩ (OpsW.asU (.j (x1.getD v13.toNat 0)) rfl rfl (T.load rfl trivial (by kernel_rfl) (fm_cell0 (eI .i64) 1 (fun _ => rfl) x1 (0 : Int) v13.toNat (ltN g16) (fun a => .val (.j a)) (fun _ => rfl))) ?_)
    have ⟨g17, H⟩ := Yt H
    refine OpsW.sz 2 [63, 0, 5, 7] ((63, .ipt (t0.flatMap Y3) ((x1.getD v13.toNat 0).toNat * 2 + 0)) :: (Zi t0 v13 x1)) ⟨g17, trivial⟩ (OpsW.asU (.j (Zn t0 v13 x1)) rfl rfl (T.load rfl trivial (by kernel_rfl) (fm_cell Y3 2 (fun _ => rfl) t0 Yf (x1.getD v13.toNat 0).toNat (ltN g17) 0 (fun a => .val (.j a.Op)) (fun _ => rfl))) (OpsW.sg 1 [65, 0, 5, 7] ((65, .bool ((Zn t0 v13 x1) != 0)) :: (Zi t0 v13 x1)) (Y2 (Yb (b := (Zn t0 v13 x1) != 0) H rfl (fun c18 H => ?_) (fun c18 H => ?_)))))
    ·refine Y0 (OpsW.sg 1 [4] [(4, .bool false)] ?_)
     refine Y2 ?_
     obtain rfl := X7 H
     refine AW.recast (env' := [(4, .bool false)]) (h' := []) (StC.pure (.cons .im .nil)) (Yx ?_)
     try simp only [Ex.t, Ex.b]
     exact Done.eq rfl (.tmp .nil)
    refine Yg (Yu ?_)
    have ⟨g19, H⟩ := Yt H
    refine OpsW.sz 3 [7, 0, 5] ((7, .j (v13 + 1)) :: (Zh t0 x1)) ⟨g19, trivial⟩ (Y2 ?_)
    exact ⟨v13 + 1, H, (StC.pure (.i3 .nil))⟩
   refine AW.exit ?_
   exact ⟨(), H, (StC.pure .nil)⟩
  refine Yg ?_
  exact ⟨(), H, (StC.pure .nil)⟩
 rintro ⟨⟩ H
 unfold Y4w at H
 change AW _ _ _ [] [] _
 refine Y0 (OpsW.sg 1 [4] [(4, .bool true)] ?_)
 refine Y2 ?_
 obtain rfl := X7 H
 refine AW.recast (env' := [(4, .bool true)]) (h' := []) (StC.pure (.cons .im .nil)) (Yx ?_)
 try simp only [Ex.t, Ex.b]
 exact Done.eq rfl (.tmp .nil)
def Y3v (t0 : List Y4) (loop4 : (Int) → Option Bool) (v3 : Int) : Option Bool :=
 cond (decide (v3 < (t0.length : Int))) (
  (f_R09_sound t0 v3).bind fun x6 =>
  cond (!x6) (
   some false) (
   G (inR (v3 + 1)) <|
   loop4 (v3 + 1))) (
  some true)
def f_R09_Tree (t0 : List Y4) : Option Bool :=
 (cond (!(cond ((t0.length : Int) == 0) true (decide ((200 : Int) < (t0.length : Int))))) (f_R09_End t0 (0 : Int)) (some (0 : Int))).bind fun x1 =>
 cond (cond (cond ((t0.length : Int) == 0) true (decide ((200 : Int) < (t0.length : Int)))) true (x1 != (t0.length : Int))) (
  some false) (
  iter (fun loop (s : Int) => Y3v t0 loop s) 1000000 (0 : Int))
section
variable (t0 : List Y4)
abbrev Zp := (cond ((t0.length : Int) == 0) true (decide ((200 : Int) < (t0.length : Int))))
abbrev Zq : Nat × AV := (0, slA Y3 t0)
end
theorem f_R09_Tree_ok  {t0 : List Y4} {r : Bool} (H : f_R09_Tree t0 = some r) : QSpec Tryd.prog 28 [slA Y3 t0] (.bool r) := by
 refine Y04 Tryd.func28 rfl (by simp [Tryd.ntmps28]) ?_
 rw [Tryd.ntmps28]
 unfold f_R09_Tree at H
 change AW _ _ _ [(Zq t0)] [] _
 refine Y0 (OpsW.sg 1 [0] [(Zq t0)] ?_)
 refine Y2 (Y0e (Y0 (OpsW.sz 10 [13, 12, 0] [(13, .cnd (!(Zp t0)) (slA Y3 t0)), (12, .bool (Zp t0)), (Zq t0)] ⟨(fun h => h), (fun h => h), (fun h => by first | exact h | (simpa using h) | grind), trivial⟩ ?_)))
 have ⟨x1, hx1, H⟩ := Y1j H
 refine OpsW.gcall (c := !(Zp t0)) (r := .j x1) [] rfl (by kernel_rfl) rfl rfl rfl rfl (fun hc => ⟨Yi ⟨hc, trivial⟩, (.cons (.pur rfl) (.cons (.pur rfl) .nil)), f_R09_End_ok (condT hc hx1), .inl ⟨rfl, rfl⟩⟩) (OpsW.sz 4 [18, 0] [(18, .bool (cond (Zp t0) true (x1 != (t0.length : Int)))), (Zq t0)] ⟨(fun h => h), (fun h => h), (fun h => h), (fun h => by first | exact h | (simpa using h) | grind), trivial⟩ (Y2 (Yb (b := cond (Zp t0) true (x1 != (t0.length : Int))) H rfl (fun c2 H => ?_) (fun c2 H => ?_))))
 ·refine Y0 (OpsW.sg 1 [2] [(2, .bool false)] ?_)
  refine Y2 ?_
  obtain rfl := X7 H
  refine AW.recast (env' := [(2, .bool false)]) (h' := []) (StC.pure (.cons .im .nil)) (Yx ?_)
  try simp only [Ex.t, Ex.b]
  exact Done.eq rfl (.tmp .nil)
 refine Yg (Y0e (Y0 (OpsW.sg 1 [3, 0] [(3, .j (0 : Int)), (Zq t0)] ?_)))
 refine Y2 (Y0g ?_)
 refine Y4i (fun loop (s : Int) => Y3v t0 loop s) r (fun (s : Int) => [(Zq t0), (3, .j s)]) (fun (s : Int) => []) ?_ 1000000 (0 : Int) H (StC.pure (.i2 .nil))
 intro loop4 v3 H
 unfold Y3v at H
 change AW _ _ _ [(Zq t0), (3, .j v3)] [] _
 refine Y0e (Y0 (OpsW.sg 4 [22, 0, 3] [(22, .bool (decide (v3 < (t0.length : Int)))), (Zq t0), (3, .j v3)] ?_))
 refine Y2 (Yb (b := decide (v3 < (t0.length : Int))) H rfl (fun c5 H => ?_) (fun c5 H => ?_))
 ·refine Yg (Y0e (Y0g (Y0 (OpsW.sg 2 [26, 25, 0, 3] [(26, .j v3), (25, slA Y3 t0), (Zq t0), (3, .j v3)] ?_))))
  have ⟨x6, hx6, H⟩ := Y1j H
  refine Y1e rfl (.cons (.pur rfl) (.cons (.pur rfl) .nil)) (f_R09_sound_ok hx6) (OpsW.sg 1 [28, 0, 3] [(28, .bool (!x6)), (Zq t0), (3, .j v3)] (Y2 (Yb (b := !x6) H rfl (fun c7 H => ?_) (fun c7 H => ?_))))
  ·refine Y0 (OpsW.sg 1 [2] [(2, .bool false)] ?_)
   refine Y2 ?_
   obtain rfl := X7 H
   refine AW.recast (env' := [(2, .bool false)]) (h' := []) (StC.pure (.cons .im .nil)) (Yx ?_)
   try simp only [Ex.t, Ex.b]
   exact Done.eq rfl (.tmp .nil)
  refine Yg (Yu ?_)
  have ⟨g8, H⟩ := Yt H
  refine OpsW.sz 3 [3, 0] [(3, .j (v3 + 1)), (Zq t0)] ⟨g8, trivial⟩ (Y2 ?_)
  exact ⟨v3 + 1, H, (StC.pure (.i2 .nil))⟩
 refine AW.exit <| Y0 (OpsW.sg 1 [2] [(2, .bool true)] ?_)
 refine Y2 ?_
 obtain rfl := X7 H
 refine AW.recast (env' := [(2, .bool true)]) (h' := []) (StC.pure (.cons .im .nil)) (Yx ?_)
 try simp only [Ex.t, Ex.b]
 exact Done.eq rfl (.tmp .nil)
def Y1c (rec_f_R09_depth : (List Y4) → Int → Option Int) (t0 : List Y4) (x1 : List Int) (loop4 : (Int × Int) → Option Int) (v2 : Int) (v3 : Int) : Option Int :=
 cond (decide (v3 < (x1.length : Int))) (
  G (0 ≤ v3 ∧ v3 < (x1.length : Int)) <|
  (rec_f_R09_depth t0 (x1.getD v3.toNat 0)).bind fun x7 =>
  G (inR (v3 + 1)) <|
  loop4 ((if x7 > v2 then x7 else v2), v3 + 1)) (
  G (inR (v2 + 1)) <|
  some (v2 + 1))
def Y4z (rec_f_R09_depth : (List Y4) → Int → Option Int) (t0 : List Y4) (t1 : Int) : Option Int :=
 (Y3d t0 t1).bind fun x1 =>
 iter (fun loop (s : Int × Int) => Y1c rec_f_R09_depth t0 x1 loop s.1 s.2) 1000000 ((0 : Int), (0 : Int))
section
variable (t0 : List Y4) (v2 : Int) (v3 : Int) (x1 : List Int)
abbrev Zs : Nat × AV := (0, slA Y3 t0)
abbrev Zr : Env := [(Zs t0), (5, .j v2), (6, slA (eI .i64) x1), (7, .j v3)]
end
theorem f_R09_depth_body_ok {rec_f_R09_depth : (List Y4) → Int → Option Int} (hrec_f_R09_depth : ∀ (t0 : List Y4) (t1 : Int) (r : Int), rec_f_R09_depth t0 t1 = some r → QSpec Tryd.prog 37 [slA Y3 t0, .int .i64 t1] (.int .i64 r)) {t0 : List Y4} {t1 : Int} {r : Int} (H : Y4z rec_f_R09_depth t0 t1 = some r) : QSpec Tryd.prog 37 [slA Y3 t0, .int .i64 t1] (.int .i64 r) := by
 refine Y04 Tryd.func37 rfl (by simp [Tryd.ntmps37]) ?_
 rw [Tryd.ntmps37]
 unfold Y4z at H
 change AW _ _ _ [(Zs t0), (1, .j t1)] [] _
 refine Y0 (OpsW.sg 1 [0, 1] [(Zs t0), (1, .j t1)] ?_)
 refine Y2 (Y0 (OpsW.sg 2 [9, 8, 0] [(9, .j t1), (8, slA Y3 t0), (Zs t0)] ?_))
 have ⟨x1, hx1, H⟩ := Y1j H
 refine Y1e rfl (.cons (.pur rfl) (.cons (.pur rfl) .nil)) (f_R09_Operands_ok hx1) (OpsW.sg 2 [6, 5, 0] [(6, slA (eI .i64) x1), (5, .j (0 : Int)), (Zs t0)] ?_)
 refine Y2 (Y0e (Y0 (OpsW.sg 1 [7, 6, 5, 0] [(7, .j (0 : Int)), (6, slA (eI .i64) x1), (5, .j (0 : Int)), (Zs t0)] ?_)))
 refine Y2 (Y0g ?_)
 refine Y4i (fun loop (s : Int × Int) => Y1c rec_f_R09_depth t0 x1 loop s.1 s.2) r (fun (s : Int × Int) => [(Zs t0), (5, .j s.1), (6, slA (eI .i64) x1), (7, .j s.2)]) (fun (s : Int × Int) => []) ?_ 1000000 ((0 : Int), (0 : Int)) H (StC.pure (.i4 .nil))
 intro loop4 s H
 obtain ⟨v2, v3⟩ := s
 unfold Y1c at H
 change AW _ _ _ (Zr t0 v2 v3 x1) [] _
 refine Y0e (Y0 (OpsW.sg 4 [14, 0, 5, 6, 7] ((14, .bool (decide (v3 < (x1.length : Int)))) :: (Zr t0 v2 v3 x1)) ?_))
 refine Y2 (Yb (b := decide (v3 < (x1.length : Int))) H rfl (fun c5 H => ?_) (fun c5 H => ?_))
 ·refine Yg (Y0e (Y0g (Yu ?_)))
  have ⟨g6, H⟩ := Yt H
  refine OpsW.sz 5 [21, 18, 17, 0, 5, 6, 7] ((21, .ipt (x1.flatMap (eI .i64)) (v3.toNat * 1)) :: (18, slA Y3 t0) :: (17, .j v2) :: (Zr t0 v2 v3 x1)) ⟨g6, trivial⟩ (OpsW.asU (.j (x1.getD v3.toNat 0)) rfl rfl (T.load rfl trivial (by kernel_rfl) (fm_cell0 (eI .i64) 1 (fun _ => rfl) x1 (0 : Int) v3.toNat (ltN g6) (fun a => .val (.j a)) (fun _ => rfl))) ?_)
  have ⟨x7, hx7, H⟩ := Y1j H
  refine Y1e rfl (.cons (.pur rfl) (.cons (.pur rfl) .nil)) (hrec_f_R09_depth _ _ _ hx7) (OpsW.sg 2 [5, 0, 6, 7] [(5, .j (if x7 > v2 then x7 else v2)), (Zs t0), (6, slA (eI .i64) x1), (7, .j v3)] ?_)
  refine Y2 (Yu ?_)
  have ⟨g8, H⟩ := Yt H
  refine OpsW.sz 3 [7, 5, 0, 6] [(7, .j (v3 + 1)), (5, .j (if x7 > v2 then x7 else v2)), (Zs t0), (6, slA (eI .i64) x1)] ⟨g8, trivial⟩ (Y2 ?_)
  exact ⟨((if x7 > v2 then x7 else v2), v3 + 1), H, (StC.pure (.i4 .nil))⟩
 refine AW.exit (Y0 ?_)
 have ⟨g9, H⟩ := Yt H
 refine OpsW.sz 3 [4] [(4, .j (v2 + 1))] ⟨g9, trivial⟩ (Y2 ?_)
 obtain rfl := X7 H
 refine AW.recast (env' := [(4, .j (v2 + 1))]) (h' := []) (StC.pure (.cons .im .nil)) (Yx ?_)
 try simp only [Ex.t, Ex.b]
 exact Done.eq rfl (.tmp .nil)
def Y1i : Nat → (List Y4) → Int → Option Int
 | 0, _, _ => none
 | n + 1, t0, t1 => Y4z (Y1i n) t0 t1
theorem f_R09_depth_all : ∀ n : Nat, (∀ (t0 : List Y4) (t1 : Int) (r : Int), Y1i n t0 t1 = some r → QSpec Tryd.prog 37 [slA Y3 t0, .int .i64 t1] (.int .i64 r)) ∧ True
 | 0 => by
  refine ⟨?_, trivial⟩
  ·intro t0 t1 r H; rw [Y1i] at H; cases H
 | n + 1 => by
  have ih := f_R09_depth_all n
  refine ⟨?_, trivial⟩
  ·intro t0 t1 r H; rw [Y1i] at H; exact f_R09_depth_body_ok ih.1 H
def f_R09_depth (t0 : List Y4) (t1 : Int) : Option Int := Y1i 1000000 t0 t1
theorem f_R09_depth_ok {t0 : List Y4} {t1 : Int} {r : Int} (H : f_R09_depth t0 t1 = some r) : QSpec Tryd.prog 37 [slA Y3 t0, .int .i64 t1] (.int .i64 r) :=
 (f_R09_depth_all 1000000).1 t0 t1 r H
def Y4o (t0 : List Y4) : Option Int :=
 (f_R09_depth t0 (0 : Int)).bind fun x1 =>
 some x1
theorem f_R09_Depth_ok  {t0 : List Y4} {r : Int} (H : Y4o t0 = some r) : QSpec Tryd.prog 25 [slA Y3 t0] (.int .i64 r) := by
 refine Y04 Tryd.func25 rfl (by simp [Tryd.ntmps25]) ?_
 rw [Tryd.ntmps25]
 unfold Y4o at H
 change AW _ _ _ [(0, slA Y3 t0)] [] _
 refine Y0 (OpsW.sg 1 [0] [(0, slA Y3 t0)] ?_)
 refine Y2 (Y0 (OpsW.sg 1 [3] [(3, slA Y3 t0)] ?_))
 have ⟨x1, hx1, H⟩ := Y1j H
 refine Y1e rfl (.cons (.pur rfl) (.cons (.pur rfl) .nil)) (f_R09_depth_ok hx1) (OpsW.sg 1 [2] [(2, .j x1)] (Y2 ?_))
 obtain rfl := X7 H
 refine AW.recast (env' := [(2, .j x1)]) (h' := []) (StC.pure (.cons .im .nil)) (Yx ?_)
 try simp only [Ex.t, Ex.b]
 exact Done.eq rfl (.tmp .nil)
def f_R09_Valid (t0 : List Y4) : Option Bool :=
 (cond (decide ((t0.length : Int) ≤ 60)) (f_R09_Tree t0) (some false)).bind fun x1 =>
 (cond (cond (decide ((t0.length : Int) ≤ 60)) x1 false) (Y4o t0) (some (0 : Int))).bind fun x2 =>
 some (cond (cond (decide ((t0.length : Int) ≤ 60)) x1 false) (decide (x2 ≤ 8)) false)
section
variable (t0 : List Y4) (x1 : Bool) (x2 : Int)
abbrev Zu := (decide ((t0.length : Int) ≤ 60))
abbrev Zt : Env := [(2, .bool (cond (cond (Zu t0) x1 false) (decide (x2 ≤ 8)) false))]
end
theorem f_R09_Valid_ok  {t0 : List Y4} {r : Bool} (H : f_R09_Valid t0 = some r) : QSpec Tryd.prog 13 [slA Y3 t0] (.bool r) := by
 refine Y04 Tryd.func13 rfl (by simp [Tryd.ntmps13]) ?_
 rw [Tryd.ntmps13]
 unfold f_R09_Valid at H
 change AW _ _ _ [(0, slA Y3 t0)] [] _
 refine Y0 (OpsW.sg 1 [0] [(0, slA Y3 t0)] ?_)
 refine Y2 (Y0 (OpsW.sg 5 [7, 6, 0] [(7, .cnd (Zu t0) (slA Y3 t0)), (6, .bool (Zu t0)), (0, slA Y3 t0)] ?_))
 have ⟨x1, hx1, H⟩ := Y1j H
 refine OpsW.gcall (c := decide ((t0.length : Int) ≤ 60)) (r := .bool x1) [] rfl (by kernel_rfl) rfl rfl rfl rfl (fun hc => ⟨Yi ⟨hc, trivial⟩, (.cons (.pur rfl) .nil), f_R09_Tree_ok (condT hc hx1), .inl ⟨rfl, rfl⟩⟩) (OpsW.sz 3 [11, 10] [(11, .cnd (cond (Zu t0) x1 false) (slA Y3 t0)), (10, .bool (cond (Zu t0) x1 false))] ⟨(fun h => by first | exact h | (simpa using h) | grind), trivial⟩ ?_)
 have ⟨x2, hx2, H⟩ := Y1j H
 refine OpsW.gcall (c := cond (Zu t0) x1 false) (r := .j x2) [] rfl (by kernel_rfl) rfl rfl rfl rfl (fun hc => ⟨Yi ⟨hc, trivial⟩, (.cons (.pur rfl) .nil), f_R09_Depth_ok (condT hc hx2), .inl ⟨rfl, rfl⟩⟩) (OpsW.sz 3 [2] (Zt t0 x1 x2) ⟨(fun h => h), (fun h => by first | exact h | (simpa using h) | grind), trivial⟩ (Y2 ?_))
 obtain rfl := X7 H
 refine AW.recast (env' := (Zt t0 x1 x2)) (h' := []) (StC.pure (.cons .im .nil)) (Yx ?_)
 try simp only [Ex.t, Ex.b]
 exact Done.eq rfl (.tmp .nil)
def Y0m (t0 : Y8) : Option (Int × Y8) :=
 cond (decide ((t0.B.length : Int) ≤ t0.At)) (
  some ((0 : Int), t0)) (
  G (inR (t0.At + 1)) <|
  G (inR ((t0.At + 1) - 1)) <|
  G (0 ≤ ((t0.At + 1) - 1) ∧ ((t0.At + 1) - 1) < (t0.B.length : Int)) <|
  some (IntKind.wrap .i64 (t0.B.getD ((t0.At + 1) - 1).toNat (0 : Int)), (⟨t0.B, t0.At + 1⟩ : Y8)))
section
variable (t0 : Y8)
abbrev Z10 := (t0.B.getD ((t0.At + 1) - 1).toNat (0 : Int))
abbrev Zv : Env := [(29, .ipt (t0.B.flatMap (eI .u8)) (((t0.At + 1) - 1).toNat * 1)), (28, .j ((t0.At + 1) - 1)), (27, .j (t0.At + 1)), (26, .ref 2000 0 1), (25, .ref 2000 0 0), (24, .ref 2000 0 0), (23, sU t0.B), (22, .ref 2000 0 0), (21, .ref 2000 0 0), (20, .ref 2000 0 0), (0, .ref 2000 0 0)]
abbrev Zw : Env := [(0, .ref 2000 0 0)]
abbrev Zx : Env := (7, .ref 2000 0 0) :: (6, .j t0.At) :: (5, .ref 2000 0 1) :: (4, .ref 2000 0 0) :: (3, .ref 2000 0 0) :: Zw
abbrev Zy : Hp := [(2000, ⟨0, true, 51, 2, [sU t0.B, .j t0.At]⟩)]
abbrev Zz : Env := [(2, .j (IntKind.wrap .i64 (Z10 t0)))]
end
theorem Y1b  {t0 : Y8} {r : Int × Y8} (H : Y0m t0 = some r) : Abs.Spec Tryd.prog 38 [.ref 2000 0 0] [(2000, ⟨0, true, 51, 2, [slA (eI .u8) t0.B, .int .i64 t0.At]⟩)] (fun x h => x = .int .i64 r.1 ∧ h = [(2000, ⟨0, true, 51, 2, [slA (eI .u8) r.2.B, .int .i64 r.2.At]⟩)]) := by
 refine Y04 Tryd.func38 rfl (by simp [Tryd.ntmps38]) ?_
 rw [Tryd.ntmps38]
 unfold Y0m at H
 change AW _ _ _ Zw (Zy t0) _
 refine AW.endcast <| Y0 (OpsW.sg 1 [0] Zw ?_)
 refine Y2 (Y0e (Y2n Tryd.checked.mixed (by kernel_rfl) ?_))
 refine QOps.sz (N := 32) 1 ((3, .ref 2000 0 0) :: Zw) trivial (QOps.quietU (.ref 2000 0 0) rfl (Quiet.nilCheck rfl (gpoU rfl ⟨trivial, rfl, rfl⟩)) (QOps.sz (N := 32) 3 (Zx t0) trivial (QOps.quietU (.ref 2000 0 0) rfl (Quiet.nilCheck rfl (gpoU rfl ⟨trivial, rfl, rfl⟩)) (QOps.sz (N := 32) 4 ((12, .bool (decide ((t0.B.length : Int) ≤ t0.At))) :: (11, .j (t0.B.length : Int)) :: (10, sU t0.B) :: (9, .ref 2000 0 0) :: (8, .ref 2000 0 0) :: (Zx t0)) trivial ?_))))
 refine QOps.nil (AW.trim [12, 0] ((12, .bool (decide ((t0.B.length : Int) ≤ t0.At))) :: Zw) (by kernel_rfl) ?_)
 refine Yb (b := decide ((t0.B.length : Int) ≤ t0.At)) H rfl (fun c1 H => ?_) (fun c1 H => ?_)
 ·refine Y0 (OpsW.sg 1 [2] [(2, .j (0 : Int))] ?_)
  refine Y2 ?_
  obtain rfl := X7 H
  refine Yx ?_
  show ∃ en' hp', StC _ _ en' hp' ∧ Done _ _ _ .ret en' hp'
  refine ⟨[(2, .j (0 : Int))], (Zy t0), (StC.mk (phi [(2000, some 2000)]) (.o rfl (.i2 .nil) .nil) rfl (.cons .im .nil)), ?_⟩
  refine Y4t rfl (.tmp .nil) ?_
  exact ⟨by kernel_rfl, by kernel_rfl⟩
 refine Yg (Y0 (OpsW.sg 1 [13, 0] ((13, .ref 2000 0 0) :: Zw) ?_))
 refine OpsW.quietU (.ref 2000 0 0) rfl rfl (Quiet.nilCheck rfl (gpoU rfl ⟨trivial, rfl, rfl⟩)) ?_
 have ⟨g2, H⟩ := Yt H
 refine OpsW.sz 3 [17, 13, 0] ((17, .j (t0.At + 1)) :: (13, .ref 2000 0 0) :: Zw) ⟨g2, trivial⟩ (OpsW.quietU (.ref 2000 0 0) rfl rfl (Quiet.nilCheck rfl (gpoU rfl ⟨trivial, rfl, rfl⟩)) (OpsW.sg 1 [19, 17, 0] ((19, .ref 2000 0 1) :: (17, .j (t0.At + 1)) :: Zw) (OpsW.store rfl rfl rfl rfl trivial trivial rfl rfl rfl (by kernel_rfl) (Y23 (by kernel_rfl)) (Xc (by kernel_rfl)) ?_)))
 change OpsW _ _ _ _ _ ((2000, ⟨0, true, 51, 2, [sU t0.B, .j (t0.At + 1)]⟩) :: (Zy t0)) _
 refine OpsW.sg 0 [0] Zw (OpsW.rc Zw [(2000, ⟨0, true, 51, 2, [sU t0.B, .j (t0.At + 1)]⟩)] (StC.mk (phi [(2000, some 2000)]) (.o rfl (.i2 .nil) .nil) rfl (.cons (.r rfl) .nil)) ?_)
 refine Y2 (Y2n Tryd.checked.mixed (by kernel_rfl) ?_)
 refine QOps.sz (N := 32) 1 ((20, .ref 2000 0 0) :: Zw) trivial (QOps.quietU (.ref 2000 0 0) rfl (Quiet.nilCheck rfl (gpoU rfl ⟨trivial, rfl, rfl⟩)) (QOps.sz (N := 32) 3 ((24, .ref 2000 0 0) :: (23, sU t0.B) :: (22, .ref 2000 0 0) :: (21, .ref 2000 0 0) :: (20, .ref 2000 0 0) :: Zw) trivial (QOps.quietU (.ref 2000 0 0) rfl (Quiet.nilCheck rfl (gpoU rfl ⟨trivial, rfl, rfl⟩)) ?_)))
 have ⟨g3, H⟩ := Yt H
 have ⟨g4, H⟩ := Yt H
 refine QOps.sz (N := 32) 4 (Zv t0) ⟨g3, g4, trivial⟩ (QOps.asU (.int .u8 (Z10 t0)) rfl (T.load rfl trivial (by kernel_rfl) (fm_cell (eI .u8) 1 (fun _ => rfl) t0.B (0 : Int) ((t0.At + 1) - 1).toNat (ltN g4) 0 (fun a => .val (.int .u8 a)) (fun _ => rfl))) (QOps.sz (N := 32) 2 ((2, .j (IntKind.wrap .i64 (Z10 t0))) :: (31, .j (IntKind.wrap .i64 (Z10 t0))) :: (30, .int .u8 (Z10 t0)) :: (Zv t0)) trivial ?_))
 refine QOps.nil (AW.trim [2] (Zz t0) (by kernel_rfl) ?_)
 obtain rfl := X7 H
 refine Yx ?_
 show ∃ en' hp', StC _ _ en' hp' ∧ Done _ _ _ .ret en' hp'
 refine ⟨(Zz t0), [(2000, ⟨0, true, 51, 2, [sU t0.B, .j (t0.At + 1)]⟩)], (StC.mk (phi [(2000, some 2000)]) (.o rfl (.i2 .nil) .nil) rfl (.cons .im .nil)), ?_⟩
 refine Y4t rfl (.tmp .nil) ?_
 exact ⟨by kernel_rfl, by kernel_rfl⟩
def Y1o (t0 : Y8) : Option ((List Y4) × Y8) :=
 (Y0m t0).bind fun x1 =>
 (Y0m x1.2).bind fun x2 =>
 G (inR ((1 : Int) + (Int.tmod x2.1 (3 : Int)))) <|
 G (inR (x1.1 * ((1 : Int) + (Int.tmod x2.1 (3 : Int))))) <|
 some ([(⟨(0 : Int), x1.1 * ((1 : Int) + (Int.tmod x2.1 (3 : Int)))⟩ : Y4)], x2.2)
section
variable (t0 : Y8) (x1 : (Int × Y8)) (x2 : (Int × Y8))
abbrev Z16 := ((1 : Int) + (Int.tmod x2.1 (3 : Int)))
abbrev Z11 : Hp := [(2000, ⟨0, true, 51, 2, [sU x1.2.B, .j x1.2.At]⟩)]
abbrev Z12 : Env := [(2, slA Y3 [(⟨(0 : Int), x1.1 * (Z16 x2)⟩ : Y4)])]
abbrev Z13 : Hp := [(2000, ⟨0, true, 51, 2, [sU t0.B, .j t0.At]⟩)]
abbrev Z14 : Hp := [(2000, ⟨0, true, 51, 2, [sU x2.2.B, .j x2.2.At]⟩)]
abbrev Z15 : Env := [(3, .ref 2000 0 0), (0, .ref 2000 0 0)]
end
theorem Y4n  {t0 : Y8} {r : (List Y4) × Y8} (H : Y1o t0 = some r) : Abs.Spec Tryd.prog 39 [.ref 2000 0 0] [(2000, ⟨0, true, 51, 2, [slA (eI .u8) t0.B, .int .i64 t0.At]⟩)] (fun x h => x = slA Y3 r.1 ∧ h = [(2000, ⟨0, true, 51, 2, [slA (eI .u8) r.2.B, .int .i64 r.2.At]⟩)]) := by
 refine Y04 Tryd.func39 rfl (by simp [Tryd.ntmps39]) ?_
 rw [Tryd.ntmps39]
 unfold Y1o at H
 change AW _ _ _ [(0, .ref 2000 0 0)] (Z13 t0) _
 refine AW.endcast <| Y0 (OpsW.sg 1 [0] [(0, .ref 2000 0 0)] ?_)
 refine Y2 (Y0 (OpsW.sg 1 [3, 0] Z15 ?_))
 refine OpsW.rc Z15 (Z13 t0) (StC.mk (phi [(2000, some 2000)]) (.o rfl (.i2 .nil) .nil) rfl (.cons (.r rfl) (.cons (.r rfl) .nil))) ?_
 have ⟨x1, hx1, H⟩ := Y1j H
 change OpsW _ _ _ _ Z15 ((Z13 t0) ++ []) _
 refine OpsW.callR (Z13 t0) [] (Z13 t0) (phi [(2000, some 2000)]) rfl rfl (by kernel_rfl) [.ref 2000 0 0] _ rfl (Yi trivial) (.cons (.r rfl) .nil) (Y1b hx1) (Y0f (by kernel_rfl)) (by kernel_rfl) (.cons rfl rfl rfl rfl rfl (.i2 .nil) .nil) ?_
 rintro _ _ ⟨rfl, rfl⟩
 refine ⟨.j x1.1, (Z11 x1), phi [(2000, some 2000)], Y0f (by kernel_rfl), by kernel_rfl, by kernel_rfl, (.cons rfl rfl rfl rfl rfl (.i2 .nil) .nil), (.cons .im .nil), ?_⟩
 change OpsW _ _ _ _ ((4, .j x1.1) :: Z15) (Z11 x1) _
 refine OpsW.sg 1 [5, 4] [(5, .ref 2000 0 0), (4, .j x1.1)] ?_
 have ⟨x2, hx2, H⟩ := Y1j H
 change OpsW _ _ _ _ [(5, .ref 2000 0 0), (4, .j x1.1)] ((Z11 x1) ++ []) _
 refine OpsW.callR (Z11 x1) [] (Z11 x1) (phi [(2000, some 2000)]) rfl rfl (by kernel_rfl) [.ref 2000 0 0] _ rfl (Yi trivial) (.cons (.r rfl) .nil) (Y1b hx2) (Y0f (by kernel_rfl)) (by kernel_rfl) (.cons rfl rfl rfl rfl rfl (.i2 .nil) .nil) ?_
 rintro _ _ ⟨rfl, rfl⟩
 refine ⟨.j x2.1, (Z14 x2), phi [(2000, some 2000)], Y0f (by kernel_rfl), by kernel_rfl, by kernel_rfl, (.cons rfl rfl rfl rfl rfl (.i2 .nil) .nil), (.cons .im .nil), ?_⟩
 change OpsW _ _ _ _ [(6, .j x2.1), (5, .ref 2000 0 0), (4, .j x1.1)] (Z14 x2) _
 have ⟨g3, H⟩ := Yt H
 have ⟨g4, H⟩ := Yt H
 refine OpsW.sz 4 [10] [(10, .agg [.j (0 : Int), .j (x1.1 * (Z16 x2))])] ⟨(by decide), g3, g4, trivial⟩ (OpsW.buildTI (enc := Y3) [(⟨(0 : Int), x1.1 * (Z16 x2)⟩ : Y4)] rfl rfl rfl E23 (fun _ => rfl) (by decide) ⟨trivial, by kernel_rfl, by kernel_rfl, by kernel_rfl, rfl⟩ (OpsW.sg 1 [2] (Z12 x1 x2) (OpsW.rc (Z12 x1 x2) (Z14 x2) (StC.mk (phi [(2000, some 2000)]) (.o rfl (.i2 .nil) .nil) rfl (.cons .im .nil)) (Y2 ?_))))
 obtain rfl := X7 H
 refine Yx ?_
 show ∃ en' hp', StC _ _ en' hp' ∧ Done _ _ _ .ret en' hp'
 refine ⟨(Z12 x1 x2), (Z14 x2), (StC.mk (phi [(2000, some 2000)]) (.o rfl (.i2 .nil) .nil) rfl (.cons .im .nil)), ?_⟩
 refine Y4t rfl (.tmp .nil) ?_
 exact ⟨by kernel_rfl, by kernel_rfl⟩
end Go.Proofs.YtkgfbpbndmklnaaDoor
