/- Own work. -/
import Derived.Test.YtioockkejhpleaaDoorLibG
import Derived.Test.YtioockkejhpleaaDoorChecked
import Derived.Test.YtioockkejhpleaaDoorSan
set_option linter.unusedSimpArgs false
set_option linter.unusedVariables false
set_option maxRecDepth 100000
namespace Go.Proofs.YtioockkejhpleaaDoor
open Go.Abs
def eA43 (x : List Int) : List IV := [.val (.int .u8 (x.getD 0 (0 : Int))), .val (.int .u8 (x.getD 1 (0 : Int)))]
structure Y4 where
 Op : Int
 N : Int
 deriving DecidableEq
def Y2 (x : Y4) : List IV := [.val (.int .i64 x.Op), .val (.int .i64 x.N)]
def Y7 : Y4 := ⟨(0 : Int), (0 : Int)⟩
structure Y39 where
 Kind : Int
 N : Int
 L : List (List Int)
 deriving DecidableEq
def eS_Raw (x : Y39) : List IV := [.val (.int .u8 x.Kind), .val (.int .u8 x.N), .sl (x.L.flatMap eA43) x.L.length]
structure S_form where
 first_ : Int
 op_ : Int
 lay_ : Nat
 read_ : Nat
 deriving DecidableEq
def eS_form (x : S_form) : List IV := [.val (.int .u8 x.first_), .val (.int .i64 x.op_), .val (.func (.func x.lay_) #[] #[]), .val (.func (.func x.read_) #[] #[])]
def zS_form : S_form := ⟨(0 : Int), (0 : Int), (0 : Nat), (0 : Nat)⟩
structure Y5 where
 f_ : List Y4
 at_ : Int
 level_ : List Int
 cells_ : List Int
 brackets_ : Unit
 deriving DecidableEq
theorem E22 : Elem Tryd.prog 22 43 2 2 [.int .u8 0, .int .u8 0] := ⟨by kernel_rfl, by kernel_rfl, by kernel_rfl, rfl, rfl, by decide⟩
theorem E27 : Elem Tryd.prog 27 38 2 16 [.int .i64 0, .int .i64 0] := ⟨by kernel_rfl, by kernel_rfl, by kernel_rfl, rfl, rfl, by decide⟩
theorem E30 : Elem Tryd.prog 30 39 1 24 [.slice none 0 0] := ⟨by kernel_rfl, by kernel_rfl, by kernel_rfl, rfl, rfl, by decide⟩
theorem E39 : Elem Tryd.prog 39 41 1 1 [.int .u8 0] := ⟨by kernel_rfl, by kernel_rfl, by kernel_rfl, rfl, rfl, by decide⟩
theorem E55 : Elem Tryd.prog 55 60 4 32 [.int .u8 0, .int .i64 0, .nilFunc, .nilFunc] := ⟨by kernel_rfl, by kernel_rfl, by kernel_rfl, rfl, rfl, by decide⟩
theorem E70 : Elem Tryd.prog 70 3 1 8 [.int .i64 0] := ⟨by kernel_rfl, by kernel_rfl, by kernel_rfl, rfl, rfl, by decide⟩
def Y0a (t0 : List (List Int)) (loop3 : (Int × Int) → Option Int) (v1 : Int) (v2 : Int) : Option Int :=
 cond (decide (v2 < (t0.length : Int))) (
  G (0 ≤ v2 ∧ v2 < (t0.length : Int)) <|
  G (inR (v2 + 1)) <|
  loop3 ((if ((t0.getD v2.toNat []).length : Int) > v1 then ((t0.getD v2.toNat []).length : Int) else v1), v2 + 1)) (
  some v1)
def Y1k (t0 : List (List Int)) : Option Int :=
 iter (fun loop (s : Int × Int) => Y0a t0 loop s.1 s.2) 1000000 ((0 : Int), (0 : Int))
section
variable (t0 : List (List Int)) (v2 : Int)
abbrev Z1 := ((t0.getD v2.toNat []).length : Int)
abbrev Z0 : Env := [(6, sC t0), (7, .j (t0.length : Int)), (8, .j v2)]
end
theorem Y4e  {t0 : List (List Int)} {r : Int} (H : Y1k t0 = some r) : QSpec Tryd.prog 71 [slA (eL (eI .u8)) t0] (.int .i64 r) := by
 refine Yh Tryd.func71 rfl (by simp [Tryd.ntmps71]) ?_
 rw [Tryd.ntmps71]
 unfold Y1k at H
 change AW _ _ _ [(0, sC t0)] [] _
 refine Y0 (Y3 1 [0] [(0, sC t0)] ?_)
 refine Y1 (Y0 (Y3 1 [3, 0] [(3, .j (0 : Int)), (0, sC t0)] ?_))
 refine Y1 (Ys (Y0 (Y3 3 [8, 7, 6, 3] [(8, .j (0 : Int)), (7, .j (t0.length : Int)), (6, sC t0), (3, .j (0 : Int))] ?_)))
 refine Y1 (Yp ?_)
 refine Y25 (fun loop (s : Int × Int) => Y0a t0 loop s.1 s.2) r (fun (s : Int × Int) => [(3, .j s.1), (6, sC t0), (7, .j (t0.length : Int)), (8, .j s.2)]) (fun (s : Int × Int) => []) ?_ 1000000 ((0 : Int), (0 : Int)) H (StC.pure (.i4 .nil))
 intro loop3 s H
 obtain ⟨v1, v2⟩ := s
 unfold Y0a at H
 change AW _ _ _ ((3, .j v1) :: (Z0 t0 v2)) [] _
 refine Y0 (Y3 1 [9, 3, 6, 7, 8] ((9, .bool (decide (v2 < (t0.length : Int)))) :: (3, .j v1) :: (Z0 t0 v2)) ?_)
 refine Y1 (Ys (Y6 (b := decide (v2 < (t0.length : Int))) H rfl (fun c4 H => ?_) (fun c4 H => ?_)))
 ·refine Ya (Ys (Yp (Y0 ?_)))
  have ⟨g5, H⟩ := Ye H
  refine Yb 1 [10, 3, 6, 7, 8] ((10, .ipt (t0.flatMap (eL (eI .u8))) (v2.toNat * 1)) :: (3, .j v1) :: (Z0 t0 v2)) ⟨g5, trivial⟩ (OpsW.asU (sU (t0.getD v2.toNat [])) rfl rfl (T.load rfl trivial (by kernel_rfl) (Y2l (eL (eI .u8)) 1 (fun _ => rfl) t0 [] v2.toNat (ltN g5) (fun a => .sl (a.flatMap (eI .u8)) a.length) (fun _ => rfl))) (Y3 1 [5, 3, 6, 7, 8] ((5, sU (t0.getD v2.toNat [])) :: (3, .j v1) :: (Z0 t0 v2)) ?_))
  refine Y1 (Yd (Y3 5 [3, 6, 7, 8] ((3, .j (if (Z1 t0 v2) > v1 then (Z1 t0 v2) else v1)) :: (Z0 t0 v2)) ?_))
  refine Y1 (Yd ?_)
  have ⟨g6, H⟩ := Ye H
  refine Yb 2 [8, 3, 6, 7] [(8, .j (v2 + 1)), (3, .j (if (Z1 t0 v2) > v1 then (Z1 t0 v2) else v1)), (6, sC t0), (7, .j (t0.length : Int))] ⟨g6, trivial⟩ (Y1 ?_)
  exact ⟨((if (Z1 t0 v2) > v1 then (Z1 t0 v2) else v1), v2 + 1), H, (StC.pure (.i4 .nil))⟩
 refine AW.exit ?_
 refine Y0 (Y3 2 [2] [(2, .j v1)] ?_)
 refine Y1 ?_
 obtain rfl := X5 H
 refine AW.recast (env' := [(2, .j v1)]) (h' := []) (StC.pure (.cons .im .nil)) (Yk ?_)
 try simp only [Ex.t, Ex.b]
 exact Done.eq rfl (.tmp .nil)
def Y0l (t0 : Int) (t1 : Int) (loop4 : ((List Int) × Int) → Option (List Int)) (v2 : List Int) (v3 : Int) : Option (List Int) :=
 cond (decide (v3 < t1)) (
  G (room 1 (v2.length + 1)) <|
  G (inR (v3 + 1)) <|
  loop4 (v2 ++ [t0], v3 + 1)) (
  some v2)
def Y0z (t0 : Int) (t1 : Int) : Option (List Int) :=
 G (0 ≤ (0 : Int) ∧ (0 : Int) ≤ (if (0 : Int) > t1 then (0 : Int) else t1) ∧ ((1 : Nat) : Int) * (if (0 : Int) > t1 then (0 : Int) else t1) ≤ 281474976710656 ∧ (if (0 : Int) > t1 then (0 : Int) else t1) ≤ 9223372036854775807) <|
 iter (fun loop (s : (List Int) × Int) => Y0l t0 t1 loop s.1 s.2) 1000000 (List.replicate (0 : Int).toNat (0 : Int), (0 : Int))
section
variable (t0 : Int) (t1 : Int) (v2 : List Int) (v3 : Int)
abbrev Z3 := (List.replicate (0 : Int).toNat (0 : Int))
abbrev Z4 : Nat × AV := (0, .int .u8 t0)
abbrev Z2 : Env := [(Z4 t0), (5, .rsl 5 0 0 v2.length), (9, .j t1), (10, .j v3)]
end
theorem Y3h  {t0 : Int} {t1 : Int} {r : List Int} (H : Y0z t0 t1 = some r) : QSpec Tryd.prog 72 [.int .u8 t0, .int .i64 t1] (slA (eI .u8) r) := by
 refine Yh Tryd.func72 rfl (by simp [Tryd.ntmps72]) ?_
 rw [Tryd.ntmps72]
 unfold Y0z at H
 change AW _ _ _ [(Z4 t0), (1, .j t1)] [] _
 refine Y0 (Y3 1 [0, 1] [(Z4 t0), (1, .j t1)] ?_)
 refine Y1 (Y0 (Y3 2 [7, 0, 1] [(7, .j (if (0 : Int) > t1 then (0 : Int) else t1)), (Z4 t0), (1, .j t1)] ?_))
 have ⟨g1, H⟩ := Ye H
 refine OpsW.makeT (enc := eI .u8) (0 : Int) rfl rfl rfl 8 rfl E39 rfl rfl rfl g1 (Y3 1 [5, 0, 1] [(5, .rsl 8 0 0 (Z3.length)), (Z4 t0), (1, .j t1)] (OpsW.rc [(5, .rsl 5 0 0 (Z3.length)), (Z4 t0), (1, .j t1)] [(5, rtA 0 41 1 (eI .u8) Z3)] (StC.mk (phi [(5, some 8)]) (.o rfl (CstL.ims _) .nil) rfl (.cons (.s rfl) (.i2 .nil))) ?_))
 refine Y1 (Ys (Y0 (Y3 2 [10, 9, 5, 0] [(10, .j (0 : Int)), (9, .j t1), (5, .rsl 5 0 0 (Z3.length)), (Z4 t0)] ?_)))
 refine Y1 (Yp ?_)
 refine Y25 (fun loop (s : (List Int) × Int) => Y0l t0 t1 loop s.1 s.2) r (fun (s : (List Int) × Int) => [(Z4 t0), (5, .rsl 5 0 0 s.1.length), (9, .j t1), (10, .j s.2)]) (fun (s : (List Int) × Int) => [(5, rtA 0 41 1 (eI .u8) s.1)]) ?_ 1000000 (List.replicate (0 : Int).toNat (0 : Int), (0 : Int)) H (StC.mk (phi [(5, some 5)]) (.o rfl (CstL.ims _) .nil) rfl (.cons .im (.cons (.s rfl) (.i2 .nil))))
 intro loop4 s H
 obtain ⟨v2, v3⟩ := s
 unfold Y0l at H
 change AW _ _ _ (Z2 t0 t1 v2 v3) [(5, rtA 0 41 1 (eI .u8) v2)] _
 refine Y0 (Y3 1 [11, 0, 5, 9, 10] ((11, .bool (decide (v3 < t1))) :: (Z2 t0 t1 v2 v3)) ?_)
 refine Y1 (Ys (Y6 (b := decide (v3 < t1)) H rfl (fun c5 H => ?_) (fun c5 H => ?_)))
 ·refine Ya (Ys (Yp (Yd (Y3 2 [13, 12, 0, 5, 9, 10] ((13, .int .u8 t0) :: (12, .rsl 5 0 0 v2.length) :: (Z2 t0 t1 v2 v3)) ?_))))
  have ⟨g6, H⟩ := Ye H
  refine Y2r (enc := eI .u8) [t0] rfl rfl rfl (by decide) rfl rfl rfl (by simp) E39 (fun _ => rfl) (by decide) trivial (by kernel_rfl) (by kernel_rfl) (by kernel_rfl) rfl rfl rfl g6 (Y3 1 [5, 0, 9, 10] [(5, .rsl 5 1 0 ((v2 ++ [t0]).length)), (Z4 t0), (9, .j t1), (10, .j v3)] (OpsW.rc [(5, .rsl 5 0 0 ((v2 ++ [t0]).length)), (Z4 t0), (9, .j t1), (10, .j v3)] [(5, rtA 0 41 1 (eI .u8) (v2 ++ [t0]))] (StC.mk (phi [(5, some 5)]) (.o rfl (CstL.ims _) .nil) rfl (.cons (.s rfl) (.i3 .nil))) ?_))
  refine Y1 (Yd ?_)
  have ⟨g7, H⟩ := Ye H
  refine Yb 2 [10, 5, 0, 9] [(10, .j (v3 + 1)), (5, .rsl 5 0 0 ((v2 ++ [t0]).length)), (Z4 t0), (9, .j t1)] ⟨g7, trivial⟩ (Y1 ?_)
  exact ⟨(v2 ++ [t0], v3 + 1), H, (StC.mk (phi [(5, some 5)]) (.o rfl (CstL.ims _) .nil) rfl (.cons .im (.cons (.s rfl) (.i2 .nil))))⟩
 refine AW.exit ?_
 refine Y0 (Y3 2 [4] [(4, .rsl 5 0 0 v2.length)] ?_)
 refine OpsW.rc [(4, sU v2)] [] (StC.mk (phi []) .nil rfl (.cons (.frz rfl rfl rfl (frz_all (eI .u8) 1 (fun _ => rfl) v2) (Y05 (eI .u8) 1 (fun _ => rfl) v2) (phi_ne rfl)) .nil)) (Y1 ?_)
 obtain rfl := X5 H
 refine AW.recast (env' := [(4, sU v2)]) (h' := []) (StC.pure (.cons .im .nil)) (Yk ?_)
 try simp only [Ex.t, Ex.b]
 exact Done.eq rfl (.tmp .nil)
def Y1p (t0 : Int) : Option (List Int) :=
 (Y0z (0 : Int) t0).bind fun x1 =>
 some x1
theorem Y3c  {t0 : Int} {r : List Int} (H : Y1p t0 = some r) : QSpec Tryd.prog 74 [.int .i64 t0] (slA (eI .u8) r) := by
 refine Yh Tryd.func74 rfl (by simp [Tryd.ntmps74]) ?_
 rw [Tryd.ntmps74]
 unfold Y1p at H
 change AW _ _ _ [(0, .j t0)] [] _
 refine Y0 (Y3 1 [0] [(0, .j t0)] ?_)
 refine Y1 (Y0 (Y3 1 [3] [(3, .j t0)] ?_))
 have ⟨x1, hx1, H⟩ := Y0d H
 refine Y0f rfl (.cons (.pur rfl) (.cons (.pur rfl) .nil)) (Y3h hx1) (Y3 1 [2] [(2, sU x1)] (Y1 ?_))
 obtain rfl := X5 H
 refine AW.recast (env' := [(2, sU x1)]) (h' := []) (StC.pure (.cons .im .nil)) (Yk ?_)
 try simp only [Ex.t, Ex.b]
 exact Done.eq rfl (.tmp .nil)
def Y2n (v2 : List Int) : Option (List Int) :=
 some v2
def Y27 (t1 : Int) : Option (List Int) :=
 cond (decide (t1 < 0)) (
  none) (
  G (inR (0 - ((0 : Nat) : Int))) <|
  G (inR (t1 - (0 - ((0 : Nat) : Int)))) <|
  cond (decide ((0 : Int) < (t1 - (0 - ((0 : Nat) : Int))))) (
   G (0 < (t1 - (0 - ((0 : Nat) : Int)))) <|
   G (room 1 (t1 - (0 - ((0 : Nat) : Int))).toNat) <|
   G (0 ≤ ((0 : Nat) : Int) ∧ ((0 : Nat) : Int) ≤ ((t1 - (0 - ((0 : Nat) : Int))).toNat : Int)) <|
   Y2n ([] : List Int)) (
   Y2n []))
section
variable (t1 : Int)
abbrev Z8 := (t1 - (0 - ((0 : Nat) : Int)))
abbrev Z5 : Env := [(1, .j (Z8 t1)), (0, .im (.val (.slice none 0 0)))]
abbrev Z6 : Env := [(0, .im (.val (.slice none 0 0))), (1, .j t1)]
abbrev Z7 : Env := [(21, .j (Z8 t1)), (20, .im (.val (.slice none 0 0))), (0, .im (.val (.slice none 0 0)))]
end
theorem f_slices_Grow_api_Cell_own {t1 : Int} {r : List Int} (H : Y27 t1 = some r) : Abs.Spec Tryd.prog 99 [.im (.val (.slice none 0 0)), .int .i64 t1] [] (fun x h => x = .rsl 1000 0 0 r.length ∧ h = [(1000, rtA 0 41 1 (eI .u8) r)]) := by
 refine Yh Tryd.func99 rfl (by simp [Tryd.ntmps99]) ?_
 rw [Tryd.ntmps99]
 unfold Y27 at H
 change AW _ _ _ (Z6 t1) [] _
 refine Y0 (Y3 1 [0, 1] (Z6 t1) ?_)
 refine Y1 (Ys (Y0 (Y3 2 [6, 0, 1] ((6, .bool (decide (t1 < 0))) :: (Z6 t1)) ?_)))
 refine Y1 (Y6 (b := decide (t1 < 0)) H rfl (fun c1 H => ?_) (fun c1 H => ?_))
 ·cases H
 refine Ya ?_
 refine Y0w (fun (y : (List Int)) => Y2n y) r (fun (y : (List Int)) => [(0, .rsl 0 0 0 y.length)]) (fun (y : (List Int)) => [(0, rtA 0 41 1 (eI .u8) y)]) ?_ ?_
 ·refine Y0 (Y3 2 [9, 8, 0, 1] ((9, .im (.val (.slice none 0 0))) :: (8, .j t1) :: (Z6 t1)) ?_)
  refine OpsW.quietU (.j (0 : Int)) rfl rfl (Quiet.capNil rfl (by kernel_rfl) (gpoU rfl ⟨trivial, rfl⟩)) ?_
  have ⟨g3, H⟩ := Ye H
  have ⟨g4, H⟩ := Ye H
  refine Yb 5 [1, 0] (Z5 t1) ⟨g3, g4, trivial⟩ ?_
  refine Y1 (Y0 (Y3 2 [16, 1, 0] ((16, .bool (decide ((0 : Int) < (Z8 t1)))) :: (Z5 t1)) ?_))
  refine Y1 (Y6 (b := decide ((0 : Int) < (Z8 t1))) H rfl (fun c5 H => ?_) (fun c5 H => ?_))
  ·refine Yd (Y3 2 [18, 17, 1, 0] ((18, .im (.val (.slice none 0 0))) :: (17, .im (.val (.slice none 0 0))) :: (Z5 t1)) ?_)
   refine OpsW.quietU (.j (0 : Int)) rfl rfl (Quiet.capNil rfl (by kernel_rfl) (gpoU rfl ⟨trivial, rfl⟩)) (OpsW.quietU (.im (.val (.slice none 0 0))) rfl rfl (Quiet.sliceNil rfl (by kernel_rfl) (by kernel_rfl) (gpoU rfl ⟨trivial, rfl, trivial, rfl⟩)) (Y3 1 [21, 20, 0] (Z7 t1) ?_))
   have ⟨g6, H⟩ := Ye H
   have ⟨g7, H⟩ := Ye H
   refine OpsW.growNil rfl rfl rfl 22 rfl E39 (by kernel_rfl) rfl rfl g6 g7 ?_
   change OpsW _ _ _ _ ((22, .rsl 22 0 0 ((Z8 t1).toNat)) :: (Z7 t1)) [(22, rtA 0 41 1 (eI .u8) ([] : List Int))] _
   have ⟨g8, H⟩ := Ye H
   refine Yb 4 [0] [(0, .rsl 22 0 0 (([] : List Int).length))] ⟨g8, trivial⟩ (OpsW.rc [(0, .rsl 0 0 0 (([] : List Int).length))] [(0, rtA 0 41 1 (eI .u8) ([] : List Int))] (StC.mk (phi [(0, some 22)]) (.o rfl (CstL.ims _) .nil) rfl (.cons (.s rfl) .nil)) (Y1 ?_))
   exact ⟨([] : List Int), H, (StC.mk (phi [(0, some 0)]) (.o rfl (CstL.ims _) .nil) rfl (.cons (.s rfl) .nil))⟩
  refine Ya ?_
  exact ⟨[], H, (StC.mk (phi [(0, none)]) (.new rfl .nil) rfl (.cons (.nilr rfl rfl rfl) .nil))⟩
 intro v2 H
 unfold Y2n at H
 change AW _ _ _ [(0, .rsl 0 0 0 v2.length)] [(0, rtA 0 41 1 (eI .u8) v2)] _
 refine Y0 (Y3 2 [4] [(4, .rsl 0 0 0 v2.length)] ?_)
 refine Y1 ?_
 obtain rfl := X5 H
 refine AW.recast (env' := [(4, .rsl 1000 0 0 v2.length)]) (h' := [(1000, rtA 0 41 1 (eI .u8) v2)]) (StC.mk (phi [(1000, some 0)]) (.o rfl (CstL.ims _) .nil) rfl (.cons (.s rfl) .nil)) (Yk ?_)
 try simp only [Ex.t, Ex.b]
 refine Done.gen rfl (.tmp .nil) ?_
 exact ⟨by kernel_rfl, rfl⟩
def Y0i (t0 : List (List Int)) (loop12 : ((List Int) × Int) → Option (List Int)) (v10 : List Int) (v11 : Int) : Option (List Int) :=
 cond (decide (v11 < (t0.length : Int))) (
  G (0 ≤ v11 ∧ v11 < (t0.length : Int)) <|
  G (room 1 (v10.length + (t0.getD v11.toNat []).length)) <|
  G (inR (v11 + 1)) <|
  loop12 (v10 ++ (t0.getD v11.toNat []), v11 + 1)) (
  some v10)
def Y0h (t0 : List (List Int)) (loop3 : (Int × Int) → Option (List Int)) (v1 : Int) (v2 : Int) : Option (List Int) :=
 cond (decide (v2 < (t0.length : Int))) (
  G (0 ≤ v2 ∧ v2 < (t0.length : Int)) <|
  G (inR (v1 + ((t0.getD v2.toNat []).length : Int))) <|
  cond (decide ((v1 + ((t0.getD v2.toNat []).length : Int)) < 0)) (
   none) (
   G (inR (v2 + 1)) <|
   loop3 (v1 + ((t0.getD v2.toNat []).length : Int), v2 + 1))) (
  (Y27 v1).bind fun x9 =>
  iter (fun loop (s : (List Int) × Int) => Y0i t0 loop s.1 s.2) 1000000 (x9, (0 : Int)))
def Y18 (t0 : List (List Int)) : Option (List Int) :=
 iter (fun loop (s : Int × Int) => Y0h t0 loop s.1 s.2) 1000000 ((0 : Int), (0 : Int))
section
variable (t0 : List (List Int)) (v2 : Int) (v10 : List Int) (v11 : Int)
abbrev Zb := ((t0.getD v2.toNat []).length : Int)
abbrev Zc := (t0.length : Int)
abbrev Zd := t0.getD v11.toNat []
abbrev Z9 : Env := [(6, .rsl 6 0 0 v10.length), (25, sC t0), (26, .j (Zc t0)), (27, .j v11)]
abbrev Za : Env := [(9, sC t0), (10, .j (Zc t0)), (11, .j v2)]
end
theorem Y3d  {t0 : List (List Int)} {r : List Int} (H : Y18 t0 = some r) : QSpec Tryd.prog 73 [slA (eL (eI .u8)) t0] (slA (eI .u8) r) := by
 refine Yh Tryd.func73 rfl (by simp [Tryd.ntmps73]) ?_
 rw [Tryd.ntmps73]
 unfold Y18 at H
 change AW _ _ _ [(0, sC t0)] [] _
 refine Y0 (Y3 1 [0] [(0, sC t0)] ?_)
 refine Y1 (Y0 (Y3 1 [3, 0] [(3, .j (0 : Int)), (0, sC t0)] ?_))
 refine Y1 (Ys (Y0 (Y3 3 [11, 10, 9, 3, 0] [(11, .j (0 : Int)), (10, .j (Zc t0)), (9, sC t0), (3, .j (0 : Int)), (0, sC t0)] ?_)))
 refine Y1 (Yp ?_)
 refine Y25 (fun loop (s : Int × Int) => Y0h t0 loop s.1 s.2) r (fun (s : Int × Int) => [(0, sC t0), (3, .j s.1), (9, sC t0), (10, .j (Zc t0)), (11, .j s.2)]) (fun (s : Int × Int) => []) ?_ 1000000 ((0 : Int), (0 : Int)) H (StC.pure (.i5 .nil))
 intro loop3 s H
 obtain ⟨v1, v2⟩ := s
 unfold Y0h at H
 change AW _ _ _ ((0, sC t0) :: (3, .j v1) :: (Za t0 v2)) [] _
 refine Y0 (Y3 1 [12, 0, 3, 9, 10, 11] ((12, .bool (decide (v2 < (Zc t0)))) :: (0, sC t0) :: (3, .j v1) :: (Za t0 v2)) ?_)
 refine Y1 (Ys (Y6 (b := decide (v2 < (Zc t0))) H rfl (fun c4 H => ?_) (fun c4 H => ?_)))
 ·refine Ya (Ys (Yp (Y0 ?_)))
  have ⟨g5, H⟩ := Ye H
  refine Yb 1 [13, 0, 3, 9, 10, 11] ((13, .ipt (t0.flatMap (eL (eI .u8))) (v2.toNat * 1)) :: (0, sC t0) :: (3, .j v1) :: (Za t0 v2)) ⟨g5, trivial⟩ (OpsW.asU (sU (t0.getD v2.toNat [])) rfl rfl (T.load rfl trivial (by kernel_rfl) (Y2l (eL (eI .u8)) 1 (fun _ => rfl) t0 [] v2.toNat (ltN g5) (fun a => .sl (a.flatMap (eI .u8)) a.length) (fun _ => rfl))) (Y3 1 [5, 0, 3, 9, 10, 11] ((5, sU (t0.getD v2.toNat [])) :: (0, sC t0) :: (3, .j v1) :: (Za t0 v2)) ?_))
  refine Y1 (Y0 ?_)
  have ⟨g6, H⟩ := Ye H
  refine Yb 5 [3, 0, 9, 10, 11] ((3, .j (v1 + (Zb t0 v2))) :: (0, sC t0) :: (Za t0 v2)) ⟨g6, trivial⟩ ?_
  refine Y1 (Y0 (Y3 2 [20, 3, 0, 9, 10, 11] ((20, .bool (decide ((v1 + (Zb t0 v2)) < 0))) :: (3, .j (v1 + (Zb t0 v2))) :: (0, sC t0) :: (Za t0 v2)) ?_))
  refine Y1 (Y6 (b := decide ((v1 + (Zb t0 v2)) < 0)) H rfl (fun c7 H => ?_) (fun c7 H => ?_))
  ·cases H
  refine Ya (Yd ?_)
  have ⟨g8, H⟩ := Ye H
  refine Yb 2 [11, 3, 0, 9, 10] [(11, .j (v2 + 1)), (3, .j (v1 + (Zb t0 v2))), (0, sC t0), (9, sC t0), (10, .j (Zc t0))] ⟨g8, trivial⟩ (Y1 ?_)
  exact ⟨(v1 + (Zb t0 v2), v2 + 1), H, (StC.pure (.i5 .nil))⟩
 refine AW.exit ?_
 refine Y0 (Y3 1 [23, 0] [(23, .j v1), (0, sC t0)] ?_)
 have ⟨x9, hx9, H⟩ := Y0d H
 refine OpsW.call rfl rfl (by kernel_rfl) [] _ _ rfl (Yc trivial) (.cons (.pur rfl) (.cons (.pur rfl) .nil)) (f_slices_Grow_api_Cell_own hx9) ?_
 rintro _ _ ⟨rfl, rfl⟩
 refine ⟨Yr (by kernel_rfl), .inl rfl, ?_⟩
 change OpsW _ _ _ _ [(24, .rsl 1000 0 0 x9.length), (23, .j v1), (0, sC t0)] [(1000, rtA 0 41 1 (eI .u8) x9)] _
 refine OpsW.rc [(24, .rsl 600 0 0 x9.length), (23, .j v1), (0, sC t0)] [(600, rtA 0 41 1 (eI .u8) x9)] (StC.mk (phi [(600, some 1000)]) (.o rfl (CstL.ims _) .nil) rfl (.cons (.s rfl) (.i2 .nil))) (Y3 1 [6, 0] [(6, .rsl 600 0 0 x9.length), (0, sC t0)] (OpsW.rc [(6, .rsl 6 0 0 x9.length), (0, sC t0)] [(6, rtA 0 41 1 (eI .u8) x9)] (StC.mk (phi [(6, some 600)]) (.o rfl (CstL.ims _) .nil) rfl (.cons (.s rfl) (.cons .im .nil))) ?_))
 refine Y1 (Ys (Y0 (Y3 3 [27, 26, 25, 6] [(27, .j (0 : Int)), (26, .j (Zc t0)), (25, sC t0), (6, .rsl 6 0 0 x9.length)] ?_)))
 refine Y1 (Yp ?_)
 refine Y25 (fun loop (s : (List Int) × Int) => Y0i t0 loop s.1 s.2) r (fun (s : (List Int) × Int) => [(6, .rsl 6 0 0 s.1.length), (25, sC t0), (26, .j (Zc t0)), (27, .j s.2)]) (fun (s : (List Int) × Int) => [(6, rtA 0 41 1 (eI .u8) s.1)]) ?_ 1000000 (x9, (0 : Int)) H (StC.mk (phi [(6, some 6)]) (.o rfl (CstL.ims _) .nil) rfl (.cons (.s rfl) (.i3 .nil)))
 intro loop12 s H
 obtain ⟨v10, v11⟩ := s
 unfold Y0i at H
 change AW _ _ _ (Z9 t0 v10 v11) [(6, rtA 0 41 1 (eI .u8) v10)] _
 refine Y0 (Y3 1 [28, 6, 25, 26, 27] ((28, .bool (decide (v11 < (Zc t0)))) :: (Z9 t0 v10 v11)) ?_)
 refine Y1 (Ys (Y6 (b := decide (v11 < (Zc t0))) H rfl (fun c13 H => ?_) (fun c13 H => ?_)))
 ·refine Ya (Ys (Yp (Y0 ?_)))
  have ⟨g14, H⟩ := Ye H
  refine Yb 1 [29, 6, 25, 26, 27] ((29, .ipt (t0.flatMap (eL (eI .u8))) (v11.toNat * 1)) :: (Z9 t0 v10 v11)) ⟨g14, trivial⟩ (OpsW.asU (sU (Zd t0 v11)) rfl rfl (T.load rfl trivial (by kernel_rfl) (Y2l (eL (eI .u8)) 1 (fun _ => rfl) t0 [] v11.toNat (ltN g14) (fun a => .sl (a.flatMap (eI .u8)) a.length) (fun _ => rfl))) (Y3 1 [8, 6, 25, 26, 27] ((8, sU (Zd t0 v11)) :: (Z9 t0 v10 v11)) ?_))
  refine Y1 (Yd (Y3 2 [32, 31, 6, 25, 26, 27] ((32, sU (Zd t0 v11)) :: (31, .rsl 6 0 0 v10.length) :: (Z9 t0 v10 v11)) ?_))
  have ⟨g15, H⟩ := Ye H
  refine Y46 (enc := eI .u8) (ys := t0.getD v11.toNat []) rfl rfl rfl E39 (fun _ => rfl) rfl rfl trivial (SrcA.typed (enc := eI .u8) (fun _ => rfl) (by kernel_rfl) (Zd t0 v11)) rfl g15 (Y3 1 [6, 25, 26, 27] [(6, .rsl 6 1 0 ((v10 ++ (Zd t0 v11)).length)), (25, sC t0), (26, .j (Zc t0)), (27, .j v11)] (OpsW.rc [(6, .rsl 6 0 0 ((v10 ++ (Zd t0 v11)).length)), (25, sC t0), (26, .j (Zc t0)), (27, .j v11)] [(6, rtA 0 41 1 (eI .u8) (v10 ++ (Zd t0 v11)))] (StC.mk (phi [(6, some 6)]) (.o rfl (CstL.ims _) .nil) rfl (.cons (.s rfl) (.i3 .nil))) ?_))
  refine Y1 (Yd ?_)
  have ⟨g16, H⟩ := Ye H
  refine Yb 2 [27, 6, 25, 26] [(27, .j (v11 + 1)), (6, .rsl 6 0 0 ((v10 ++ (Zd t0 v11)).length)), (25, sC t0), (26, .j (Zc t0))] ⟨g16, trivial⟩ (Y1 ?_)
  exact ⟨(v10 ++ (Zd t0 v11), v11 + 1), H, (StC.mk (phi [(6, some 6)]) (.o rfl (CstL.ims _) .nil) rfl (.cons (.s rfl) (.i3 .nil)))⟩
 refine AW.exit ?_
 refine Y0 (Y3 2 [2] [(2, .rsl 6 0 0 v10.length)] ?_)
 refine OpsW.rc [(2, sU v10)] [] (StC.mk (phi []) .nil rfl (.cons (.frz rfl rfl rfl (frz_all (eI .u8) 1 (fun _ => rfl) v10) (Y05 (eI .u8) 1 (fun _ => rfl) v10) (phi_ne rfl)) .nil)) (Y1 ?_)
 obtain rfl := X5 H
 refine AW.recast (env' := [(2, sU v10)]) (h' := []) (StC.pure (.cons .im .nil)) (Yk ?_)
 try simp only [Ex.t, Ex.b]
 exact Done.eq rfl (.tmp .nil)
def Y37 (t0 : Y4) (t1 : List (List Int)) : Option (List (List Int)) :=
 (Y1k t1).bind fun x1 =>
 G (0 ≤ (0 : Int) ∧ (0 : Int) < (t1.length : Int)) <|
 G (0 ≤ (1 : Int) ∧ (1 : Int) < (t1.length : Int)) <|
 G (inR (x1 - ((t1.getD (0 : Int).toNat []).length : Int))) <|
 (Y1p (x1 - ((t1.getD (0 : Int).toNat []).length : Int))).bind fun x5 =>
 (Y18 [[(57 : Int), (0 : Int)], t1.getD (0 : Int).toNat [], x5]).bind fun x6 =>
 G (inR (x1 + 2)) <|
 (Y0z (36 : Int) (x1 + 2)).bind fun x8 =>
 (Y1p (2 : Int)).bind fun x9 =>
 G (inR (x1 - ((t1.getD (1 : Int).toNat []).length : Int))) <|
 (Y1p (x1 - ((t1.getD (1 : Int).toNat []).length : Int))).bind fun x11 =>
 (Y18 [x9, t1.getD (1 : Int).toNat [], x11]).bind fun x12 =>
 some [x6, x8, x12]
section
variable (t1 : List (List Int)) (x1 : Int)
abbrev Zf := (t1.getD (1 : Int).toNat [])
abbrev Zg := (t1.getD (0 : Int).toNat [])
abbrev Ze : Env := [(14, .ipt (t1.flatMap (eL (eI .u8))) ((1 : Int).toNat * 1)), (13, sC t1), (12, sU (Zg t1)), (11, .ipt (t1.flatMap (eL (eI .u8))) ((0 : Int).toNat * 1)), (10, sC t1), (5, .j x1), (1, sC t1)]
end
theorem f_spatial_layFrac_ok  {t0 : Y4} {t1 : List (List Int)} {r : List (List Int)} (H : Y37 t0 t1 = some r) : QSpec Tryd.prog 40 [.agg [.int .i64 t0.Op, .int .i64 t0.N], slA (eL (eI .u8)) t1] (slA (eL (eI .u8)) r) := by
 refine Yh Tryd.func40 rfl (by simp [Tryd.ntmps40]) ?_
 rw [Tryd.ntmps40]
 unfold Y37 at H
 change AW _ _ _ [(0, .agg [.j t0.Op, .j t0.N]), (1, sC t1)] [] _
 refine Y0 (OpsW.box rfl rfl rfl 2 rfl (Yx (by kernel_rfl)) ?_)
 change OpsW _ _ _ _ _ [(2, ⟨0, true, 38, 2, [.j t0.Op, .j t0.N]⟩)] _
 refine Y3 1 [1] [(1, sC t1)] (OpsW.rc [(1, sC t1)] [] (StC.pure (.cons .im .nil)) ?_)
 refine Y1 (Y0 (Y3 1 [8, 1] [(8, sC t1), (1, sC t1)] ?_))
 have ⟨x1, hx1, H⟩ := Y0d H
 refine Y0f rfl (.cons (.pur rfl) .nil) (Y4e hx1) (Y3 1 [5, 1] [(5, .j x1), (1, sC t1)] ?_)
 refine Y1 (Y1j Tryd.checked.mixed (by kernel_rfl) ?_)
 have ⟨g2, H⟩ := Ye H
 refine QOps.sz (N := 38) 2 [(11, .ipt (t1.flatMap (eL (eI .u8))) ((0 : Int).toNat * 1)), (10, sC t1), (5, .j x1), (1, sC t1)] ⟨g2, trivial⟩ (QOps.asU (sU (Zg t1)) rfl (T.load rfl trivial (by kernel_rfl) (Y2l (eL (eI .u8)) 1 (fun _ => rfl) t1 [] (0 : Int).toNat (ltN g2) (fun a => .sl (a.flatMap (eI .u8)) a.length) (fun _ => rfl))) ?_)
 have ⟨g3, H⟩ := Ye H
 refine QOps.sz (N := 38) 2 (Ze t1 x1) ⟨g3, trivial⟩ (QOps.asU (sU (Zf t1)) rfl (T.load rfl trivial (by kernel_rfl) (Y2l (eL (eI .u8)) 1 (fun _ => rfl) t1 [] (1 : Int).toNat (ltN g3) (fun a => .sl (a.flatMap (eI .u8)) a.length) (fun _ => rfl))) (QOps.sz (N := 38) 2 ((7, sU (Zf t1)) :: (6, sU (Zg t1)) :: (15, sU (Zf t1)) :: (Ze t1 x1)) trivial ?_))
 refine QOps.nil (AW.trim [7, 6, 5] [(7, sU (Zf t1)), (6, sU (Zg t1)), (5, .j x1)] (by kernel_rfl) ?_)
 refine Y0 (OpsW.buildTI (enc := eI .u8) [(57 : Int), (0 : Int)] rfl rfl rfl E39 (fun _ => rfl) (by decide) ⟨trivial, by kernel_rfl, by kernel_rfl, by kernel_rfl, rfl⟩ ?_)
 have ⟨g4, H⟩ := Ye H
 refine Yb 5 [21, 17, 16, 7, 5] [(21, .j (x1 - ((Zg t1).length : Int))), (17, sU (Zg t1)), (16, sU [(57 : Int), (0 : Int)]), (7, sU (Zf t1)), (5, .j x1)] ⟨g4, trivial⟩ ?_
 have ⟨x5, hx5, H⟩ := Y0d H
 refine Y0f rfl (.cons (.pur rfl) .nil) (Y3c hx5) (OpsW.buildTI (enc := eL (eI .u8)) [[(57 : Int), (0 : Int)], t1.getD (0 : Int).toNat [], x5] rfl rfl rfl E30 (fun _ => rfl) (by decide) ⟨trivial, by kernel_rfl, by kernel_rfl, by kernel_rfl, rfl⟩ ?_)
 have ⟨x6, hx6, H⟩ := Y0d H
 refine Y0f rfl (.cons (.pur rfl) .nil) (Y3d hx6) ?_
 have ⟨g7, H⟩ := Ye H
 refine Yb 2 [26, 24, 7, 5] [(26, .j (x1 + 2)), (24, sU x6), (7, sU (Zf t1)), (5, .j x1)] ⟨g7, trivial⟩ ?_
 have ⟨x8, hx8, H⟩ := Y0d H
 refine Y0f rfl (.cons (.pur rfl) (.cons (.pur rfl) .nil)) (Y3h hx8) ?_
 have ⟨x9, hx9, H⟩ := Y0d H
 refine Y0f rfl (.cons (.pur rfl) .nil) (Y3c hx9) ?_
 have ⟨g10, H⟩ := Ye H
 refine Yb 5 [33, 29, 28, 27, 24] [(33, .j (x1 - ((Zf t1).length : Int))), (29, sU (Zf t1)), (28, sU x9), (27, sU x8), (24, sU x6)] ⟨g10, trivial⟩ ?_
 have ⟨x11, hx11, H⟩ := Y0d H
 refine Y0f rfl (.cons (.pur rfl) .nil) (Y3c hx11) (OpsW.buildTI (enc := eL (eI .u8)) [x9, t1.getD (1 : Int).toNat [], x11] rfl rfl rfl E30 (fun _ => rfl) (by decide) ⟨trivial, by kernel_rfl, by kernel_rfl, by kernel_rfl, rfl⟩ ?_)
 have ⟨x12, hx12, H⟩ := Y0d H
 refine Y0f rfl (.cons (.pur rfl) .nil) (Y3d hx12) (OpsW.buildTI (enc := eL (eI .u8)) [x6, x8, x12] rfl rfl rfl E30 (fun _ => rfl) (by decide) ⟨trivial, by kernel_rfl, by kernel_rfl, by kernel_rfl, rfl⟩ (Y3 1 [4] [(4, sC [x6, x8, x12])] (Y1 ?_)))
 obtain rfl := X5 H
 refine AW.recast (env' := [(4, sC [x6, x8, x12])]) (h' := []) (StC.pure (.cons .im .nil)) (Yk ?_)
 try simp only [Ex.t, Ex.b]
 exact Done.eq rfl (.tmp .nil)
def Y1l (loop18 : ((List (List Int)) × (List Int) × Int) → Option (List (List Int))) (v17 : Int) (v20 : List (List Int)) (v21 : List Int) : Option (List (List Int)) :=
 G (inR (v17 + 1)) <|
 loop18 (v20, v21, v17 + 1)
def Y16 (t0 : Y4) (t1 : List (List Int)) (v3 : List Int) (loop13 : ((List (List Int)) × Int) → Option (List (List Int))) (v12 : Int) (loop18 : ((List (List Int)) × (List Int) × Int) → Option (List (List Int))) (v15 : List (List Int)) (v16 : List Int) (v17 : Int) : Option (List (List Int)) :=
 cond (decide (v17 < (Int.tmod t0.N (8 : Int)))) (
  G (inR (v12 * (Int.tmod t0.N (8 : Int)))) <|
  G (inR ((v12 * (Int.tmod t0.N (8 : Int))) + v17)) <|
  G (0 ≤ ((v12 * (Int.tmod t0.N (8 : Int))) + v17) ∧ ((v12 * (Int.tmod t0.N (8 : Int))) + v17) < (t1.length : Int)) <|
  G (room 1 (v16.length + (t1.getD ((v12 * (Int.tmod t0.N (8 : Int))) + v17).toNat []).length)) <|
  G (0 ≤ v17 ∧ v17 < (v3.length : Int)) <|
  G (inR ((v3.getD v17.toNat 0) - ((t1.getD ((v12 * (Int.tmod t0.N (8 : Int))) + v17).toNat []).length : Int))) <|
  (Y1p ((v3.getD v17.toNat 0) - ((t1.getD ((v12 * (Int.tmod t0.N (8 : Int))) + v17).toNat []).length : Int))).bind fun x29 =>
  G (room 1 ((v16 ++ (t1.getD ((v12 * (Int.tmod t0.N (8 : Int))) + v17).toNat [])).length + x29.length)) <|
  G (inR ((Int.tmod t0.N (8 : Int)) - 1)) <|
  cond (decide (v17 < ((Int.tmod t0.N (8 : Int)) - 1))) (
   G (room 1 (((v16 ++ (t1.getD ((v12 * (Int.tmod t0.N (8 : Int))) + v17).toNat [])) ++ x29).length + 2)) <|
   Y1l loop18 v17 v15 (((v16 ++ (t1.getD ((v12 * (Int.tmod t0.N (8 : Int))) + v17).toNat [])) ++ x29) ++ [(0 : Int), (0 : Int)])) (
   Y1l loop18 v17 v15 ((v16 ++ (t1.getD ((v12 * (Int.tmod t0.N (8 : Int))) + v17).toNat [])) ++ x29))) (
  G (room 1 (v16.length + 2)) <|
  G (room 24 (v15.length + 1)) <|
  G (inR (v12 + 1)) <|
  loop13 (v15 ++ [v16 ++ [(0 : Int), (62 : Int)]], v12 + 1))
def Y0v (t0 : Y4) (t1 : List (List Int)) (v3 : List Int) (loop13 : ((List (List Int)) × Int) → Option (List (List Int))) (v11 : List (List Int)) (v12 : Int) : Option (List (List Int)) :=
 cond (decide (v12 < (Int.tdiv t0.N (8 : Int)))) (
  iter (fun loop (s : (List (List Int)) × (List Int) × Int) => Y16 t0 t1 v3 loop13 v12 loop s.1 s.2.1 s.2.2) 1000000 (v11, [(55 : Int), (0 : Int)], (0 : Int))) (
  some v11)
def Y15 (t0 : Y4) (t1 : List (List Int)) (loop5 : ((List Int) × Int) → Option (List (List Int))) (v3 : List Int) (v4 : Int) : Option (List (List Int)) :=
 cond (decide (v4 < (t1.length : Int))) (
  G (0 ≤ v4 ∧ v4 < (t1.length : Int)) <|
  G ((Int.tmod t0.N (8 : Int)) ≠ 0) <|
  G (0 ≤ (Int.tmod v4 (Int.tmod t0.N (8 : Int))) ∧ (Int.tmod v4 (Int.tmod t0.N (8 : Int))) < (v3.length : Int)) <|
  G (inR (v4 + 1)) <|
  loop5 (v3.set (Int.tmod v4 (Int.tmod t0.N (8 : Int))).toNat (if ((t1.getD v4.toNat []).length : Int) > (v3.getD (Int.tmod v4 (Int.tmod t0.N (8 : Int))).toNat (0 : Int)) then ((t1.getD v4.toNat []).length : Int) else (v3.getD (Int.tmod v4 (Int.tmod t0.N (8 : Int))).toNat (0 : Int))), v4 + 1)) (
  iter (fun loop (s : (List (List Int)) × Int) => Y0v t0 t1 v3 loop s.1 s.2) 1000000 ([], (0 : Int)))
def Y2b (t0 : Y4) (t1 : List (List Int)) : Option (List (List Int)) :=
 G (inR (Int.tdiv t0.N (8 : Int))) <|
 G (0 ≤ (Int.tmod t0.N (8 : Int)) ∧ (Int.tmod t0.N (8 : Int)) ≤ (Int.tmod t0.N (8 : Int)) ∧ ((8 : Nat) : Int) * (Int.tmod t0.N (8 : Int)) ≤ 281474976710656 ∧ (Int.tmod t0.N (8 : Int)) ≤ 9223372036854775807) <|
 iter (fun loop (s : (List Int) × Int) => Y15 t0 t1 loop s.1 s.2) 1000000 (List.replicate (Int.tmod t0.N (8 : Int)).toNat (0 : Int), (0 : Int))
section
variable (t0 : Y4) (t1 : List (List Int)) (v3 : List Int) (v4 : Int) (v11 : List (List Int)) (v12 : Int) (v15 : List (List Int)) (v16 : List Int) (v17 : Int) (x29 : (List Int))
abbrev Zu := (Int.tmod t0.N (8 : Int))
abbrev Zv := (v3.getD (Int.tmod v4 (Zu t0)).toNat (0 : Int))
abbrev Zw := t1.getD ((v12 * (Zu t0)) + v17).toNat []
abbrev Zx := ((t1.getD v4.toNat []).length : Int)
abbrev Zy := (Int.tdiv t0.N (8 : Int))
abbrev Zz := v3.set (Int.tmod v4 (Zu t0)).toNat (if (Zx t1 v4) > (Zv t0 v3 v4) then (Zx t1 v4) else (Zv t0 v3 v4))
abbrev Z10 : Nat × AV := (42, .j (if (Zx t1 v4) > (Zv t0 v3 v4) then (Zx t1 v4) else (Zv t0 v3 v4)))
abbrev Z11 : Nat × AV := (7, slA (eI .i64) v3)
abbrev Z12 : Nat × AV := (6, .j (Zu t0))
abbrev Z13 := List (List Int)
abbrev Z14 := (v15 ++ [v16 ++ [(0 : Int), (62 : Int)]])
abbrev Z15 := Int.tmod v4 (Zu t0)
abbrev Z16 := (List.replicate (Zu t0).toNat (0 : Int))
abbrev Z17 : Nat × AV := (45, .j (Zy t0))
abbrev Z18 : Nat × AV := (24, .j (t1.length : Int))
abbrev Z19 := ([(55 : Int), (0 : Int)].length)
abbrev Z1a := (((v16 ++ (Zw t0 t1 v12 v17)) ++ x29) ++ [(0 : Int), (0 : Int)])
abbrev Zh : Env := [(1, sC t1), (Z12 t0), (Z11 v3), (10, .rsl 10 0 0 v15.length), (11, .j v12), (Z17 t0), (46, .j v12), (50, .j (Zu t0)), (51, .j v17)]
abbrev Zi : Env := [(1, sC t1), (Z12 t0), (Z11 v3), (10, .rsl 10 0 0 v15.length), (11, .j v12), (12, .rsl 12 0 0 v16.length), (Z17 t0), (46, .j v12), (50, .j (Zu t0)), (51, .j v17)]
abbrev Zj : Env := [(1, sC t1), (5, .j (Zy t0)), (Z12 t0), (7, .rsl 7 0 0 v3.length), (23, sC t1), (Z18 t1), (25, .j v4)]
abbrev Zk : Env := [(1, sC t1), (5, .j (Zy t0)), (Z12 t0), (7, .rsl 7 0 0 ((Zz t0 t1 v3 v4).length)), (23, sC t1), (Z18 t1), (25, .j v4)]
abbrev Zl : Env := [(1, sC t1), (Z12 t0), (Z11 v3), (10, .rsl 10 0 0 v11.length), (Z17 t0), (46, .j v12)]
abbrev Zm : Env := (38, .ref 7 0 (0 + (Z15 t0 v4).toNat * 1)) :: (37, .j (Z15 t0 v4)) :: (36, .j (Zu t0)) :: (35, .j v4) :: (34, .rsl 7 0 0 v3.length) :: (33, .j (Z15 t0 v4)) :: (32, .j (Zu t0)) :: (31, .j v4) :: (30, .rsl 7 0 0 v3.length) :: (9, sU (t1.getD v4.toNat [])) :: (8, .j v4) :: (Zj t0 t1 v3 v4)
abbrev Zn : Env := [(Z12 t0), (5, .j (Zy t0)), (1, sC t1)]
abbrev Zo : Env := (12, .rsl 12 0 0 ((v16 ++ (Zw t0 t1 v12 v17)).length)) :: (14, sU (Zw t0 t1 v12 v17)) :: (13, .j v17) :: (Zh t0 t1 v3 v12 v15 v17)
abbrev Zp : Env := [(83, .rsl 10 0 0 v15.length), (1, sC t1), (Z12 t0), (Z11 v3), (10, .rsl 10 0 0 v15.length), (Z17 t0), (46, .j v12)]
abbrev Zq : Env := [(1, sC t1), (Z12 t0), (Z11 v3), (Z17 t0), (46, .j v12)]
abbrev Zr : Env := (7, .rsl 7 0 0 ((Z16 t0).length)) :: (Zn t0 t1)
abbrev Zs : Env := [(Z17 t0), (46, .j v12), (50, .j (Zu t0)), (51, .j v17)]
abbrev Zt : Env := (12, .rsl 12 0 0 (((v16 ++ (Zw t0 t1 v12 v17)) ++ x29).length)) :: (Zh t0 t1 v3 v12 v15 v17)
end
theorem f_spatial_layMatrix_ok  {t0 : Y4} {t1 : List (List Int)} {r : List (List Int)} (H : Y2b t0 t1 = some r) : QSpec Tryd.prog 38 [.agg [.int .i64 t0.Op, .int .i64 t0.N], slA (eL (eI .u8)) t1] (slA (eL (eI .u8)) r) := by
 refine Yh Tryd.func38 rfl (by simp [Tryd.ntmps38]) ?_
 rw [Tryd.ntmps38]
 unfold Y2b at H
 change AW _ _ _ [(0, .agg [.j t0.Op, .j t0.N]), (1, sC t1)] [] _
 refine Y0 (OpsW.box rfl rfl rfl 2 rfl (Yx (by kernel_rfl)) ?_)
 change OpsW _ _ _ _ _ [(2, ⟨0, true, 38, 2, [.j t0.Op, .j t0.N]⟩)] _
 refine Y3 1 [2, 1] [(2, .ref 2 0 0), (1, sC t1)] ?_
 refine Y1 (Y1j Tryd.checked.mixed (by kernel_rfl) ?_)
 have ⟨g1, H⟩ := Ye H
 refine QOps.sz (N := 91) 8 [(Z12 t0), (5, .j (Zy t0)), (20, .j (Zu t0)), (19, .j t0.N), (18, .ref 2 0 1), (17, .j (Zy t0)), (16, .j t0.N), (15, .ref 2 0 1), (2, .ref 2 0 0), (1, sC t1)] ⟨(by decide), g1, (by decide), trivial⟩ ?_
 refine QOps.nil (AW.trim [6, 5, 1] (Zn t0 t1) (by kernel_rfl) ?_)
 refine Y0 (Y3 1 [21, 6, 5, 1] ((21, .j (Zu t0)) :: (Zn t0 t1)) ?_)
 have ⟨g2, H⟩ := Ye H
 refine OpsW.makeT (enc := eI .i64) (0 : Int) rfl rfl rfl 22 rfl E70 rfl rfl rfl g2 (Y3 1 [7, 6, 5, 1] ((7, .rsl 22 0 0 ((Z16 t0).length)) :: (Zn t0 t1)) (OpsW.rc (Zr t0 t1) [(7, rtA 0 3 1 (eI .i64) (Z16 t0))] (StC.mk (phi [(7, some 22)]) (.o rfl (CstL.ims _) .nil) rfl (.cons (.s rfl) (.i3 .nil))) ?_))
 refine Y1 (Ys (Y0 (Y3 3 [25, 24, 23, 7, 6, 5, 1] ((25, .j (0 : Int)) :: (Z18 t1) :: (23, sC t1) :: (Zr t0 t1)) ?_)))
 refine Y1 (Yp ?_)
 refine Y25 (fun loop (s : (List Int) × Int) => Y15 t0 t1 loop s.1 s.2) r (fun (s : (List Int) × Int) => [(1, sC t1), (5, .j (Zy t0)), (Z12 t0), (7, .rsl 7 0 0 s.1.length), (23, sC t1), (Z18 t1), (25, .j s.2)]) (fun (s : (List Int) × Int) => [(7, rtA 0 3 1 (eI .i64) s.1)]) ?_ 1000000 (List.replicate (Zu t0).toNat (0 : Int), (0 : Int)) H (StC.mk (phi [(7, some 7)]) (.o rfl (CstL.ims _) .nil) rfl (.i3 (.cons (.s rfl) (.i3 .nil))))
 intro loop5 s H
 obtain ⟨v3, v4⟩ := s
 unfold Y15 at H
 change AW _ _ _ (Zj t0 t1 v3 v4) [(7, rtA 0 3 1 (eI .i64) v3)] _
 refine Y0 (Y3 1 [26, 1, 5, 6, 7, 23, 24, 25] ((26, .bool (decide (v4 < (t1.length : Int)))) :: (Zj t0 t1 v3 v4)) ?_)
 refine Y1 (Ys (Y6 (b := decide (v4 < (t1.length : Int))) H rfl (fun c6 H => ?_) (fun c6 H => ?_)))
 ·refine Ya (Ys (Yp (Y0 ?_)))
  have ⟨g7, H⟩ := Ye H
  refine Yb 2 [28, 27, 1, 5, 6, 7, 23, 24, 25] ((28, .ipt (t1.flatMap (eL (eI .u8))) (v4.toNat * 1)) :: (27, .j v4) :: (Zj t0 t1 v3 v4)) ⟨g7, trivial⟩ (OpsW.asU (sU (t1.getD v4.toNat [])) rfl rfl (T.load rfl trivial (by kernel_rfl) (Y2l (eL (eI .u8)) 1 (fun _ => rfl) t1 [] v4.toNat (ltN g7) (fun a => .sl (a.flatMap (eI .u8)) a.length) (fun _ => rfl))) (Y3 2 [9, 8, 1, 5, 6, 7, 23, 24, 25] ((9, sU (t1.getD v4.toNat [])) :: (8, .j v4) :: (Zj t0 t1 v3 v4)) ?_))
  refine Y1 (AW.drawT 13 Tryd.checked.mixed (by kernel_rfl) ?_)
  have ⟨g8, H⟩ := Ye H
  have ⟨g9, H⟩ := Ye H
  refine QOps.sz (N := 91) 9 (Zm t0 t1 v3 v4) ⟨g8, g8, g9, trivial⟩ (QOps.asU (.j (Zv t0 v3 v4)) rfl (T.loadR rfl trivial (by kernel_rfl) rfl rfl rfl (rt_cell (eI .i64) 1 (fun _ => rfl) v3 (0 : Int) (Z15 t0 v4).toNat (ltN g9) 0 (fun a => .val (.j a)) (fun _ => rfl) (by first | omega | (simp only [Zu, Zv, Zx, Zy, Z15]; omega)))) (QOps.sz (N := 91) 3 ((Z10 t0 t1 v3 v4) :: (41, .j (Zx t1 v4)) :: (40, sU (t1.getD v4.toNat [])) :: (39, .j (Zv t0 v3 v4)) :: (Zm t0 t1 v3 v4)) trivial ?_))
  refine QOps.nil (Y3 0 [42, 33, 30, 1, 5, 6, 7, 23, 24, 25] ((Z10 t0 t1 v3 v4) :: (33, .j (Z15 t0 v4)) :: (30, .rsl 7 0 0 v3.length) :: (Zj t0 t1 v3 v4)) ?_)
  refine Yb 1 [43, 42, 1, 5, 6, 7, 23, 24, 25] ((43, .ref 7 0 (0 + (Z15 t0 v4).toNat * 1)) :: (Z10 t0 t1 v3 v4) :: (Zj t0 t1 v3 v4)) ⟨g9, trivial⟩ (OpsW.storeT (enc := eI .i64) (k := 1) (0 : Int) (if (Zx t1 v4) > (Zv t0 v3 v4) then (Zx t1 v4) else (Zv t0 v3 v4)) [.val (.j (if (Zx t1 v4) > (Zv t0 v3 v4) then (Zx t1 v4) else (Zv t0 v3 v4)))] (Z15 t0 v4).toNat 0 rfl rfl rfl (by exact congrArg (AV.ref 7 0) (by first | omega | rfl | (simp; omega))) trivial trivial rfl (fun _ => rfl) rfl (by kernel_rfl) (Yx (by kernel_rfl)) (ltN g9) (X00 (by kernel_rfl)) rfl (OpsW.weaken ((43, .ref 7 0 (0 + (Z15 t0 v4).toNat * 1)) :: (Z10 t0 t1 v3 v4) :: (Zk t0 t1 v3 v4)) (Env.le_of_eq (by first | (simp only [List.length_set, List.length_reverse]; done) | (simp only [Zu, Zv, Zx, Zy, Zz, Z10, Z12, Z15, Z18, Zj, Zk, Zm]; simp only [List.length_set, List.length_reverse]))) (Y3 0 [1, 5, 6, 7, 23, 24, 25] (Zk t0 t1 v3 v4) (OpsW.rc (Zk t0 t1 v3 v4) [(7, rtA 0 3 1 (eI .i64) (Zz t0 t1 v3 v4))] (StC.mk (phi [(7, some 7)]) (.o rfl (CstL.ims _) .nil) rfl (.i3 (.cons (.s rfl) (.i3 .nil)))) ?_))))
  refine Y1 (Yd ?_)
  have ⟨g10, H⟩ := Ye H
  refine Yb 2 [25, 1, 5, 6, 7, 23, 24] [(25, .j (v4 + 1)), (1, sC t1), (5, .j (Zy t0)), (Z12 t0), (7, .rsl 7 0 0 ((Zz t0 t1 v3 v4).length)), (23, sC t1), (Z18 t1)] ⟨g10, trivial⟩ (Y1 ?_)
  exact ⟨(v3.set (Z15 t0 v4).toNat (if (Zx t1 v4) > (Zv t0 v3 v4) then (Zx t1 v4) else (Zv t0 v3 v4)), v4 + 1), H, (StC.mk (phi [(7, some 7)]) (.o rfl (CstL.ims _) .nil) rfl (.i3 (.cons (.s rfl) (.i3 .nil))))⟩
 refine AW.exit ?_
 refine Y0 (Y3 1 [10, 1, 5, 6, 7] [(10, .im (.val (.slice none 0 0))), (1, sC t1), (5, .j (Zy t0)), (Z12 t0), (7, .rsl 7 0 0 v3.length)] ?_)
 refine OpsW.rc [(10, .im (.val (.slice none 0 0))), (1, sC t1), (5, .j (Zy t0)), (Z12 t0), (Z11 v3)] [] (StC.mk (phi []) .nil rfl (.i4 (.cons (.frz rfl rfl rfl (frz_all (eI .i64) 1 (fun _ => rfl) v3) (Y05 (eI .i64) 1 (fun _ => rfl) v3) (phi_ne rfl)) .nil))) ?_
 refine Y1 (Ys (Y0 (Y3 2 [46, 45, 10, 1, 6, 7] [(46, .j (0 : Int)), (Z17 t0), (10, .im (.val (.slice none 0 0))), (1, sC t1), (Z12 t0), (Z11 v3)] ?_)))
 refine Y1 (Yp ?_)
 refine Y25 (fun loop (s : Z13 × Int) => Y0v t0 t1 v3 loop s.1 s.2) r (fun (s : Z13 × Int) => [(1, sC t1), (Z12 t0), (Z11 v3), (10, .rsl 10 0 0 s.1.length), (Z17 t0), (46, .j s.2)]) (fun (s : Z13 × Int) => [(10, rtA 0 39 1 (eL (eI .u8)) s.1)]) ?_ 1000000 ([], (0 : Int)) H (StC.mk (phi [(10, none)]) (.new rfl .nil) rfl (.i3 (.cons (.nilr rfl rfl rfl) (.i2 .nil))))
 intro loop13 s H
 obtain ⟨v11, v12⟩ := s
 unfold Y0v at H
 change AW _ _ _ (Zl t0 t1 v3 v11 v12) [(10, rtA 0 39 1 (eL (eI .u8)) v11)] _
 refine Y0 (Y3 1 [47, 1, 6, 7, 10, 45, 46] ((47, .bool (decide (v12 < (Zy t0)))) :: (Zl t0 t1 v3 v11 v12)) ?_)
 refine Y1 (Ys (Y6 (b := decide (v12 < (Zy t0))) H rfl (fun c14 H => ?_) (fun c14 H => ?_)))
 ·refine Ya (Ys (Yp (Y0 (Y3 2 [11, 1, 6, 7, 10, 45, 46] ((11, .j v12) :: (Zl t0 t1 v3 v11 v12)) ?_))))
  refine Y1 (Y0 (OpsW.buildT (enc := eI .u8) [(55 : Int), (0 : Int)] rfl rfl rfl 49 rfl E39 (fun _ => rfl) (by decide) trivial (by kernel_rfl) (by kernel_rfl) (by kernel_rfl) rfl ?_))
  refine Y3 1 [12, 11, 1, 6, 7, 10, 45, 46] ((12, .rsl 49 0 0 Z19) :: (11, .j v12) :: (Zl t0 t1 v3 v11 v12)) (OpsW.rc ((12, .rsl 12 0 0 Z19) :: (11, .j v12) :: (Zl t0 t1 v3 v11 v12)) [(10, rtA 0 39 1 (eL (eI .u8)) v11), (12, rtA 0 41 1 (eI .u8) [(55 : Int), (0 : Int)])] (StC.mk (phi [(10, some 10), (12, some 49)]) (.o rfl (CstL.ims _) (.o rfl (CstL.ims _) .nil)) rfl (.cons (.s rfl) (.i4 (.cons (.s rfl) (.i2 .nil))))) ?_)
  refine Y1 (Ys (Y0 (Y3 2 [51, 50, 12, 11, 1, 6, 7, 10, 45, 46] ((51, .j (0 : Int)) :: (50, .j (Zu t0)) :: (12, .rsl 12 0 0 Z19) :: (11, .j v12) :: (Zl t0 t1 v3 v11 v12)) ?_)))
  refine Y1 (Yp ?_)
  refine Y25 (fun loop (s : Z13 × (List Int) × Int) => Y16 t0 t1 v3 loop13 v12 loop s.1 s.2.1 s.2.2) r (fun (s : Z13 × (List Int) × Int) => [(1, sC t1), (Z12 t0), (Z11 v3), (10, .rsl 10 0 0 s.1.length), (11, .j v12), (12, .rsl 12 0 0 s.2.1.length), (Z17 t0), (46, .j v12), (50, .j (Zu t0)), (51, .j s.2.2)]) (fun (s : Z13 × (List Int) × Int) => [(10, rtA 0 39 1 (eL (eI .u8)) s.1), (12, rtA 0 41 1 (eI .u8) s.2.1)]) ?_ 1000000 (v11, [(55 : Int), (0 : Int)], (0 : Int)) H (StC.mk (phi [(10, some 10), (12, some 12)]) (.o rfl (CstL.ims _) (.o rfl (CstL.ims _) .nil)) rfl (.i3 (.cons (.s rfl) (.cons .im (.cons (.s rfl) (.i4 .nil))))))
  intro loop18 s H
  obtain ⟨v15, v16, v17⟩ := s
  unfold Y16 at H
  change AW _ _ _ (Zi t0 t1 v3 v12 v15 v16 v17) [(10, rtA 0 39 1 (eL (eI .u8)) v15), (12, rtA 0 41 1 (eI .u8) v16)] _
  refine Y0 (Y3 1 [52, 1, 6, 7, 10, 11, 12, 45, 46, 50, 51] ((52, .bool (decide (v17 < (Zu t0)))) :: (Zi t0 t1 v3 v12 v15 v16 v17)) ?_)
  refine Y1 (Ys (Y6 (b := decide (v17 < (Zu t0))) H rfl (fun c19 H => ?_) (fun c19 H => ?_)))
  ·refine Ya ?_
   refine Y0w (fun (y : Z13 × (List Int)) => Y1l loop18 v17 y.1 y.2) r (fun (y : Z13 × (List Int)) => ((1, sC t1) :: (Z12 t0) :: (Z11 v3) :: (10, .rsl 10 0 0 y.1.length) :: (11, .j v12) :: (12, .rsl 12 0 0 y.2.length) :: (Zs t0 v12 v17))) (fun (y : Z13 × (List Int)) => [(10, rtA 0 39 1 (eL (eI .u8)) y.1), (12, rtA 0 41 1 (eI .u8) y.2)]) ?_ ?_
   ·refine Yp (Y0 (Y3 2 [13, 1, 6, 7, 10, 11, 12, 45, 46, 50, 51] ((13, .j v17) :: (Zi t0 t1 v3 v12 v15 v16 v17)) ?_))
    refine Y1 (Y0 ?_)
    have ⟨g23, H⟩ := Ye H
    have ⟨g24, H⟩ := Ye H
    have ⟨g25, H⟩ := Ye H
    refine Yb 7 [60, 13, 1, 6, 7, 10, 11, 12, 45, 46, 50, 51] ((60, .ipt (t1.flatMap (eL (eI .u8))) (((v12 * (Zu t0)) + v17).toNat * 1)) :: (13, .j v17) :: (Zi t0 t1 v3 v12 v15 v16 v17)) ⟨g23, g24, g25, trivial⟩ (OpsW.asU (sU (Zw t0 t1 v12 v17)) rfl rfl (T.load rfl trivial (by kernel_rfl) (fm_cell (eL (eI .u8)) 1 (fun _ => rfl) t1 [] ((v12 * (Zu t0)) + v17).toNat (ltN g25) 0 (fun a => .sl (a.flatMap (eI .u8)) a.length) (fun _ => rfl))) (Y3 1 [14, 13, 1, 6, 7, 10, 11, 12, 45, 46, 50, 51] ((14, sU (Zw t0 t1 v12 v17)) :: (13, .j v17) :: (Zi t0 t1 v3 v12 v15 v16 v17)) ?_))
    refine Y1 (Y0 (Y3 2 [63, 62, 14, 13, 1, 6, 7, 10, 11, 12, 45, 46, 50, 51] ((63, sU (Zw t0 t1 v12 v17)) :: (62, .rsl 12 0 0 v16.length) :: (14, sU (Zw t0 t1 v12 v17)) :: (13, .j v17) :: (Zi t0 t1 v3 v12 v15 v16 v17)) ?_))
    have ⟨g26, H⟩ := Ye H
    refine Y46 (enc := eI .u8) (ys := t1.getD ((v12 * (Zu t0)) + v17).toNat []) rfl rfl rfl E39 (fun _ => rfl) rfl rfl trivial (SrcA.typed (enc := eI .u8) (fun _ => rfl) (by kernel_rfl) (Zw t0 t1 v12 v17)) rfl g26 (Y3 1 [12, 14, 13, 1, 6, 7, 10, 11, 45, 46, 50, 51] ((12, .rsl 12 1 0 ((v16 ++ (Zw t0 t1 v12 v17)).length)) :: (14, sU (Zw t0 t1 v12 v17)) :: (13, .j v17) :: (Zh t0 t1 v3 v12 v15 v17)) (OpsW.rc (Zo t0 t1 v3 v12 v15 v16 v17) [(10, rtA 0 39 1 (eL (eI .u8)) v15), (12, rtA 0 41 1 (eI .u8) (v16 ++ (Zw t0 t1 v12 v17)))] (StC.mk (phi [(10, some 10), (12, some 12)]) (.o rfl (CstL.ims _) (.o rfl (CstL.ims _) .nil)) rfl (.cons (.s rfl) (.i5 (.cons (.s rfl) (.i5 .nil))))) ?_))
    refine Y1 (Y0 ?_)
    have ⟨g27, H⟩ := Ye H
    refine Yb 4 [68, 65, 12, 14, 13, 1, 6, 7, 10, 11, 45, 46, 50, 51] ((68, .ipt (v3.flatMap (eI .i64)) (v17.toNat * 1)) :: (65, .rsl 12 0 0 ((v16 ++ (Zw t0 t1 v12 v17)).length)) :: (Zo t0 t1 v3 v12 v15 v16 v17)) ⟨g27, trivial⟩ (OpsW.asU (.j (v3.getD v17.toNat 0)) rfl rfl (T.load rfl trivial (by kernel_rfl) (Y2l (eI .i64) 1 (fun _ => rfl) v3 (0 : Int) v17.toNat (ltN g27) (fun a => .val (.j a)) (fun _ => rfl))) ?_)
    have ⟨g28, H⟩ := Ye H
    refine Yb 3 [72, 65, 12, 13, 1, 6, 7, 10, 11, 45, 46, 50, 51] ((72, .j ((v3.getD v17.toNat 0) - ((Zw t0 t1 v12 v17).length : Int))) :: (65, .rsl 12 0 0 ((v16 ++ (Zw t0 t1 v12 v17)).length)) :: (12, .rsl 12 0 0 ((v16 ++ (Zw t0 t1 v12 v17)).length)) :: (13, .j v17) :: (Zh t0 t1 v3 v12 v15 v17)) ⟨g28, trivial⟩ ?_
    have ⟨x29, hx29, H⟩ := Y0d H
    refine Y0f rfl (.cons (.pur rfl) .nil) (Y3c hx29) ?_
    have ⟨g30, H⟩ := Ye H
    refine Y46 (enc := eI .u8) (ys := x29) rfl rfl rfl E39 (fun _ => rfl) rfl rfl trivial (SrcA.typed (enc := eI .u8) (fun _ => rfl) (by kernel_rfl) x29) rfl g30 (Y3 1 [12, 13, 1, 6, 7, 10, 11, 45, 46, 50, 51] ((12, .rsl 12 1 0 (((v16 ++ (Zw t0 t1 v12 v17)) ++ x29).length)) :: (13, .j v17) :: (Zh t0 t1 v3 v12 v15 v17)) (OpsW.rc ((12, .rsl 12 0 0 (((v16 ++ (Zw t0 t1 v12 v17)) ++ x29).length)) :: (13, .j v17) :: (Zh t0 t1 v3 v12 v15 v17)) [(10, rtA 0 39 1 (eL (eI .u8)) v15), (12, rtA 0 41 1 (eI .u8) ((v16 ++ (Zw t0 t1 v12 v17)) ++ x29))] (StC.mk (phi [(10, some 10), (12, some 12)]) (.o rfl (CstL.ims _) (.o rfl (CstL.ims _) .nil)) rfl (.cons (.s rfl) (.i4 (.cons (.s rfl) (.i5 .nil))))) ?_))
    refine Y1 (Y0 ?_)
    have ⟨g31, H⟩ := Ye H
    refine Yb 4 [78, 12, 1, 6, 7, 10, 11, 45, 46, 50, 51] ((78, .bool (decide (v17 < ((Zu t0) - 1)))) :: (Zt t0 t1 v3 v12 v15 v16 v17 x29)) ⟨g31, trivial⟩ (Y1 (Y6 (b := decide (v17 < ((Zu t0) - 1))) H rfl (fun c32 H => ?_) (fun c32 H => ?_)))
    ·refine Yd (Y3 1 [79, 12, 1, 6, 7, 10, 11, 45, 46, 50, 51] ((79, .rsl 12 0 0 (((v16 ++ (Zw t0 t1 v12 v17)) ++ x29).length)) :: (Zt t0 t1 v3 v12 v15 v16 v17 x29)) ?_)
     have ⟨g33, H⟩ := Ye H
     refine Y2r (enc := eI .u8) [(0 : Int), (0 : Int)] rfl rfl rfl (by decide) rfl rfl rfl (by simp) E39 (fun _ => rfl) (by decide) trivial (by kernel_rfl) (by kernel_rfl) (by kernel_rfl) rfl rfl rfl g33 (Y3 1 [12, 1, 6, 7, 10, 11, 45, 46, 50, 51] ((12, .rsl 12 1 0 ((Z1a t0 t1 v12 v16 v17 x29).length)) :: (Zh t0 t1 v3 v12 v15 v17)) (OpsW.rc ((12, .rsl 12 0 0 ((Z1a t0 t1 v12 v16 v17 x29).length)) :: (Zh t0 t1 v3 v12 v15 v17)) [(10, rtA 0 39 1 (eL (eI .u8)) v15), (12, rtA 0 41 1 (eI .u8) (Z1a t0 t1 v12 v16 v17 x29))] (StC.mk (phi [(10, some 10), (12, some 12)]) (.o rfl (CstL.ims _) (.o rfl (CstL.ims _) .nil)) rfl (.cons (.s rfl) (.i3 (.cons (.s rfl) (.i5 .nil))))) (Y1 ?_)))
     exact ⟨(v15, ((v16 ++ (Zw t0 t1 v12 v17)) ++ x29) ++ [(0 : Int), (0 : Int)]), H, (StC.mk (phi [(10, some 10), (12, some 12)]) (.o rfl (CstL.ims _) (.o rfl (CstL.ims _) .nil)) rfl (.i3 (.cons (.s rfl) (.cons .im (.cons (.s rfl) (.i4 .nil))))))⟩
    refine Ya ?_
    exact ⟨(v15, (v16 ++ (Zw t0 t1 v12 v17)) ++ x29), H, (StC.mk (phi [(10, some 10), (12, some 12)]) (.o rfl (CstL.ims _) (.o rfl (CstL.ims _) .nil)) rfl (.i3 (.cons (.s rfl) (.cons .im (.cons (.s rfl) (.i4 .nil))))))⟩
   rintro ⟨v20, v21⟩ H
   unfold Y1l at H
   change AW _ _ _ ((1, sC t1) :: (Z12 t0) :: (Z11 v3) :: (10, .rsl 10 0 0 v20.length) :: (11, .j v12) :: (12, .rsl 12 0 0 v21.length) :: (Zs t0 v12 v17)) [(10, rtA 0 39 1 (eL (eI .u8)) v20), (12, rtA 0 41 1 (eI .u8) v21)] _
   refine Yd ?_
   have ⟨g22, H⟩ := Ye H
   refine Yb 2 [51, 1, 6, 7, 10, 11, 12, 45, 46, 50] [(51, .j (v17 + 1)), (1, sC t1), (Z12 t0), (Z11 v3), (10, .rsl 10 0 0 v20.length), (11, .j v12), (12, .rsl 12 0 0 v21.length), (Z17 t0), (46, .j v12), (50, .j (Zu t0))] ⟨g22, trivial⟩ (Y1 ?_)
   exact ⟨(v20, v21, v17 + 1), H, (StC.mk (phi [(10, some 10), (12, some 12)]) (.o rfl (CstL.ims _) (.o rfl (CstL.ims _) .nil)) rfl (.i3 (.cons (.s rfl) (.cons .im (.cons (.s rfl) (.i4 .nil))))))⟩
  refine AW.exit ?_
  refine Yd (Y3 2 [84, 83, 1, 6, 7, 10, 45, 46] ((84, .rsl 12 0 0 v16.length) :: (Zp t0 t1 v3 v12 v15)) ?_)
  have ⟨g34, H⟩ := Ye H
  refine Y2r (enc := eI .u8) [(0 : Int), (62 : Int)] rfl rfl rfl (by decide) rfl rfl rfl (by simp) E39 (fun _ => rfl) (by decide) trivial (by kernel_rfl) (by kernel_rfl) (by kernel_rfl) rfl rfl rfl g34 (OpsW.rc ((86, sU (v16 ++ [(0 : Int), (62 : Int)])) :: (Zp t0 t1 v3 v12 v15)) [(10, rtA 0 39 1 (eL (eI .u8)) v15)] (StC.mk (phi [(10, some 10)]) (.o rfl (CstL.ims _) .nil) rfl (.cons (.frz rfl rfl rfl (frz_all (eI .u8) 1 (fun _ => rfl) (v16 ++ [(0 : Int), (62 : Int)])) (Y05 (eI .u8) 1 (fun _ => rfl) (v16 ++ [(0 : Int), (62 : Int)])) (phi_ne rfl)) (.cons (.s rfl) (.i3 (.cons (.s rfl) (.i2 .nil)))))) ?_)
  have ⟨g35, H⟩ := Ye H
  refine Y2r (enc := eL (eI .u8)) [v16 ++ [(0 : Int), (62 : Int)]] rfl rfl rfl (by decide) rfl rfl rfl (by simp) E30 (fun _ => rfl) (by decide) trivial (by kernel_rfl) (by kernel_rfl) (by kernel_rfl) rfl rfl rfl g35 (Y3 1 [10, 1, 6, 7, 45, 46] ((10, .rsl 10 1 0 ((Z14 v15 v16).length)) :: (Zq t0 t1 v3 v12)) (OpsW.rc ((10, .rsl 10 0 0 ((Z14 v15 v16).length)) :: (Zq t0 t1 v3 v12)) [(10, rtA 0 39 1 (eL (eI .u8)) (Z14 v15 v16))] (StC.mk (phi [(10, some 10)]) (.o rfl (CstL.ims _) .nil) rfl (.cons (.s rfl) (.i5 .nil))) ?_))
  refine Y1 (Yd ?_)
  have ⟨g36, H⟩ := Ye H
  refine Yb 2 [46, 10, 1, 6, 7, 45] [(46, .j (v12 + 1)), (10, .rsl 10 0 0 ((Z14 v15 v16).length)), (1, sC t1), (Z12 t0), (Z11 v3), (Z17 t0)] ⟨g36, trivial⟩ (Y1 ?_)
  exact ⟨(v15 ++ [v16 ++ [(0 : Int), (62 : Int)]], v12 + 1), H, (StC.mk (phi [(10, some 10)]) (.o rfl (CstL.ims _) .nil) rfl (.i3 (.cons (.s rfl) (.i2 .nil))))⟩
 refine AW.exit ?_
 refine Y0 (Y3 2 [4] [(4, .rsl 10 0 0 v11.length)] ?_)
 refine OpsW.rc [(4, sC v11)] [] (StC.mk (phi []) .nil rfl (.cons (.frz rfl rfl rfl (frz_all (eL (eI .u8)) 1 (fun _ => rfl) v11) (Y05 (eL (eI .u8)) 1 (fun _ => rfl) v11) (phi_ne rfl)) .nil)) (Y1 ?_)
 obtain rfl := X5 H
 refine AW.recast (env' := [(4, sC v11)]) (h' := []) (StC.pure (.cons .im .nil)) (Yk ?_)
 try simp only [Ex.t, Ex.b]
 exact Done.eq rfl (.tmp .nil)
def Y47 (loop5 : ((List (List Int)) × Int) → Option (List (List Int))) (v4 : Int) (v7 : List (List Int)) : Option (List (List Int)) :=
 G (inR (v4 + 1)) <|
 loop5 (v7, v4 + 1)
def Y2a (t1 : List (List Int)) (x1 : Int) (loop5 : ((List (List Int)) × Int) → Option (List (List Int))) (v4 : Int) (v10 : List (List Int)) (v11 : Int) : Option (List (List Int)) :=
 G (inR (x1 - ((t1.getD v4.toNat []).length : Int))) <|
 (Y1p (x1 - ((t1.getD v4.toNat []).length : Int))).bind fun x13 =>
 (Y18 [[v11, (0 : Int)], x13, t1.getD v4.toNat []]).bind fun x14 =>
 G (room 24 (v10.length + 1)) <|
 Y47 loop5 v4 (v10 ++ [x14])
def Y19 (t1 : List (List Int)) (x1 : Int) (loop5 : ((List (List Int)) × Int) → Option (List (List Int))) (v3 : List (List Int)) (v4 : Int) : Option (List (List Int)) :=
 cond (decide (v4 < (t1.length : Int))) (
  G (0 ≤ v4 ∧ v4 < (t1.length : Int)) <|
  cond (v4 == ((t1.length : Int) - 1)) (
   G (inR (x1 + 2)) <|
   (Y0z (36 : Int) (x1 + 2)).bind fun x18 =>
   G (room 24 (v3.length + 1)) <|
   Y2a t1 x1 loop5 v4 (v3 ++ [x18]) (0 : Int)) (
   Y2a t1 x1 loop5 v4 v3 (44 : Int))) (
  some v3)
def Y3i (t0 : Y4) (t1 : List (List Int)) : Option (List (List Int)) :=
 (Y1k t1).bind fun x1 =>
 G (inR ((t1.length : Int) - 1)) <|
 iter (fun loop (s : (List (List Int)) × Int) => Y19 t1 x1 loop s.1 s.2) 1000000 ([], (0 : Int))
section
variable (t1 : List (List Int)) (v3 : List (List Int)) (v4 : Int) (v10 : List (List Int)) (x1 : Int)
abbrev Z1f : Nat × AV := (6, .j ((t1.length : Int) - 1))
abbrev Z1g : Nat × AV := (9, sU (t1.getD v4.toNat []))
abbrev Z1h := List (List Int)
abbrev Z1i := (t1.length : Int)
abbrev Z1b : Env := [(16, sC t1), (17, .j (Z1i t1)), (18, .j v4)]
abbrev Z1c : Env := (5, .j x1) :: (Z1f t1) :: (7, .rsl 7 0 0 v3.length) :: (Z1b t1 v4)
abbrev Z1d : Env := (5, .j x1) :: (Z1f t1) :: (Z1b t1 v4)
abbrev Z1e : Env := (32, .rsl 7 0 0 v10.length) :: (5, .j x1) :: (Z1f t1) :: (7, .rsl 7 0 0 v10.length) :: (Z1g t1 v4) :: (Z1b t1 v4)
end
theorem f_spatial_laySum_ok  {t0 : Y4} {t1 : List (List Int)} {r : List (List Int)} (H : Y3i t0 t1 = some r) : QSpec Tryd.prog 36 [.agg [.int .i64 t0.Op, .int .i64 t0.N], slA (eL (eI .u8)) t1] (slA (eL (eI .u8)) r) := by
 refine Yh Tryd.func36 rfl (by simp [Tryd.ntmps36]) ?_
 rw [Tryd.ntmps36]
 unfold Y3i at H
 change AW _ _ _ [(0, .agg [.j t0.Op, .j t0.N]), (1, sC t1)] [] _
 refine Y0 (OpsW.box rfl rfl rfl 2 rfl (Yx (by kernel_rfl)) ?_)
 change OpsW _ _ _ _ _ [(2, ⟨0, true, 38, 2, [.j t0.Op, .j t0.N]⟩)] _
 refine Y3 1 [1] [(1, sC t1)] (OpsW.rc [(1, sC t1)] [] (StC.pure (.cons .im .nil)) ?_)
 refine Y1 (Y0 (Y3 1 [11, 1] [(11, sC t1), (1, sC t1)] ?_))
 have ⟨x1, hx1, H⟩ := Y0d H
 refine Y0f rfl (.cons (.pur rfl) .nil) (Y4e hx1) (Y3 1 [5, 1] [(5, .j x1), (1, sC t1)] ?_)
 refine Y1 (Y0 ?_)
 have ⟨g2, H⟩ := Ye H
 refine Yb 4 [6, 5, 1] [(Z1f t1), (5, .j x1), (1, sC t1)] ⟨g2, trivial⟩ ?_
 refine Y1 (Y0 (Y3 1 [7, 6, 5, 1] [(7, .im (.val (.slice none 0 0))), (Z1f t1), (5, .j x1), (1, sC t1)] ?_))
 refine Y1 (Ys (Y0 (Y3 3 [18, 17, 16, 7, 6, 5] [(18, .j (0 : Int)), (17, .j (Z1i t1)), (16, sC t1), (7, .im (.val (.slice none 0 0))), (Z1f t1), (5, .j x1)] ?_)))
 refine Y1 (Yp ?_)
 refine Y25 (fun loop (s : Z1h × Int) => Y19 t1 x1 loop s.1 s.2) r (fun (s : Z1h × Int) => [(5, .j x1), (Z1f t1), (7, .rsl 7 0 0 s.1.length), (16, sC t1), (17, .j (Z1i t1)), (18, .j s.2)]) (fun (s : Z1h × Int) => [(7, rtA 0 39 1 (eL (eI .u8)) s.1)]) ?_ 1000000 ([], (0 : Int)) H (StC.mk (phi [(7, none)]) (.new rfl .nil) rfl (.i2 (.cons (.nilr rfl rfl rfl) (.i3 .nil))))
 intro loop5 s H
 obtain ⟨v3, v4⟩ := s
 unfold Y19 at H
 change AW _ _ _ (Z1c t1 v3 v4 x1) [(7, rtA 0 39 1 (eL (eI .u8)) v3)] _
 refine Y0 (Y3 1 [19, 5, 6, 7, 16, 17, 18] ((19, .bool (decide (v4 < (Z1i t1)))) :: (Z1c t1 v3 v4 x1)) ?_)
 refine Y1 (Ys (Y6 (b := decide (v4 < (Z1i t1))) H rfl (fun c6 H => ?_) (fun c6 H => ?_)))
 ·refine Ya ?_
  refine Y0w (fun (y : Z1h) => Y47 loop5 v4 y) r (fun (y : Z1h) => ((5, .j x1) :: (Z1f t1) :: (7, .rsl 7 0 0 y.length) :: (Z1b t1 v4))) (fun (y : Z1h) => [(7, rtA 0 39 1 (eL (eI .u8)) y)]) ?_ ?_
  ·refine Yp (Y0 ?_)
   have ⟨g9, H⟩ := Ye H
   refine Yb 2 [21, 20, 5, 6, 7, 16, 17, 18] ((21, .ipt (t1.flatMap (eL (eI .u8))) (v4.toNat * 1)) :: (20, .j v4) :: (Z1c t1 v3 v4 x1)) ⟨g9, trivial⟩ (OpsW.asU (sU (t1.getD v4.toNat [])) rfl rfl (T.load rfl trivial (by kernel_rfl) (Y2l (eL (eI .u8)) 1 (fun _ => rfl) t1 [] v4.toNat (ltN g9) (fun a => .sl (a.flatMap (eI .u8)) a.length) (fun _ => rfl))) (Y3 2 [9, 8, 5, 6, 7, 16, 17, 18] ((Z1g t1 v4) :: (8, .j v4) :: (Z1c t1 v3 v4 x1)) ?_))
   refine Y1 (Y0 (Y3 1 [10, 9, 8, 5, 6, 7, 16, 17, 18] ((10, .int .u8 44) :: (Z1g t1 v4) :: (8, .j v4) :: (Z1c t1 v3 v4 x1)) ?_))
   refine Y1 ?_
   refine Y0w (fun (y : Z1h × Int) => Y2a t1 x1 loop5 v4 y.1 y.2) r (fun (y : Z1h × Int) => ((5, .j x1) :: (Z1f t1) :: (7, .rsl 7 0 0 y.1.length) :: (Z1g t1 v4) :: (10, .int .u8 y.2) :: (Z1b t1 v4))) (fun (y : Z1h × Int) => [(7, rtA 0 39 1 (eL (eI .u8)) y.1)]) ?_ ?_
   ·refine Y0 (Y3 3 [25, 10, 9, 5, 6, 7, 16, 17, 18] ((25, .bool (v4 == ((Z1i t1) - 1))) :: (10, .int .u8 44) :: (Z1g t1 v4) :: (Z1c t1 v3 v4 x1)) ?_)
    refine Y1 (Y6 (b := v4 == ((Z1i t1) - 1)) H rfl (fun c16 H => ?_) (fun c16 H => ?_))
    ·refine Y0 ?_
     have ⟨g17, H⟩ := Ye H
     refine Yb 3 [28, 26, 9, 5, 6, 7, 16, 17, 18] ((28, .j (x1 + 2)) :: (26, .rsl 7 0 0 v3.length) :: (Z1g t1 v4) :: (Z1c t1 v3 v4 x1)) ⟨g17, trivial⟩ ?_
     have ⟨x18, hx18, H⟩ := Y0d H
     refine Y0f rfl (.cons (.pur rfl) (.cons (.pur rfl) .nil)) (Y3h hx18) ?_
     have ⟨g19, H⟩ := Ye H
     refine Y2r (enc := eL (eI .u8)) [x18] rfl rfl rfl (by decide) rfl rfl rfl (by simp) E30 (fun _ => rfl) (by decide) trivial (by kernel_rfl) (by kernel_rfl) (by kernel_rfl) rfl rfl rfl g19 (Y3 1 [7, 9, 5, 6, 16, 17, 18] ((7, .rsl 7 1 0 ((v3 ++ [x18]).length)) :: (Z1g t1 v4) :: (Z1d t1 v4 x1)) (OpsW.rc ((7, .rsl 7 0 0 ((v3 ++ [x18]).length)) :: (Z1g t1 v4) :: (Z1d t1 v4 x1)) [(7, rtA 0 39 1 (eL (eI .u8)) (v3 ++ [x18]))] (StC.mk (phi [(7, some 7)]) (.o rfl (CstL.ims _) .nil) rfl (.cons (.s rfl) (.i6 .nil))) ?_))
     refine Y1 (Yd (Y3 1 [10, 7, 9, 5, 6, 16, 17, 18] ((10, .int .u8 0) :: (7, .rsl 7 0 0 ((v3 ++ [x18]).length)) :: (Z1g t1 v4) :: (Z1d t1 v4 x1)) ?_))
     refine Y1 ?_
     exact ⟨(v3 ++ [x18], (0 : Int)), H, (StC.mk (phi [(7, some 7)]) (.o rfl (CstL.ims _) .nil) rfl (.i2 (.cons (.s rfl) (.i5 .nil))))⟩
    refine Ya ?_
    exact ⟨(v3, (44 : Int)), H, (StC.mk (phi [(7, some 7)]) (.o rfl (CstL.ims _) .nil) rfl (.i2 (.cons (.s rfl) (.i5 .nil))))⟩
   rintro ⟨v10, v11⟩ H
   unfold Y2a at H
   change AW _ _ _ ((5, .j x1) :: (Z1f t1) :: (7, .rsl 7 0 0 v10.length) :: (Z1g t1 v4) :: (10, .int .u8 v11) :: (Z1b t1 v4)) [(7, rtA 0 39 1 (eL (eI .u8)) v10)] _
   refine Yd (Y3 2 [33, 32, 5, 6, 7, 9, 16, 17, 18] ((33, .int .u8 v11) :: (Z1e t1 v4 v10 x1)) ?_)
   refine OpsW.buildTI (enc := eI .u8) [v11, (0 : Int)] rfl rfl rfl E39 (fun _ => rfl) (by decide) ⟨trivial, by kernel_rfl, by kernel_rfl, by kernel_rfl, rfl⟩ ?_
   have ⟨g12, H⟩ := Ye H
   refine Yb 4 [38, 34, 32, 5, 6, 7, 9, 16, 17, 18] ((38, .j (x1 - ((t1.getD v4.toNat []).length : Int))) :: (34, sU [v11, (0 : Int)]) :: (Z1e t1 v4 v10 x1)) ⟨g12, trivial⟩ ?_
   have ⟨x13, hx13, H⟩ := Y0d H
   refine Y0f rfl (.cons (.pur rfl) .nil) (Y3c hx13) (Y3 1 [40, 39, 34, 32, 5, 6, 7, 16, 17, 18] ((40, sU (t1.getD v4.toNat [])) :: (39, sU x13) :: (34, sU [v11, (0 : Int)]) :: (32, .rsl 7 0 0 v10.length) :: (5, .j x1) :: (Z1f t1) :: (7, .rsl 7 0 0 v10.length) :: (Z1b t1 v4)) (OpsW.buildTI (enc := eL (eI .u8)) [[v11, (0 : Int)], x13, t1.getD v4.toNat []] rfl rfl rfl E30 (fun _ => rfl) (by decide) ⟨trivial, by kernel_rfl, by kernel_rfl, by kernel_rfl, rfl⟩ ?_))
   have ⟨x14, hx14, H⟩ := Y0d H
   refine Y0f rfl (.cons (.pur rfl) .nil) (Y3d hx14) ?_
   have ⟨g15, H⟩ := Ye H
   refine Y2r (enc := eL (eI .u8)) [x14] rfl rfl rfl (by decide) rfl rfl rfl (by simp) E30 (fun _ => rfl) (by decide) trivial (by kernel_rfl) (by kernel_rfl) (by kernel_rfl) rfl rfl rfl g15 (Y3 1 [7, 5, 6, 16, 17, 18] ((7, .rsl 7 1 0 ((v10 ++ [x14]).length)) :: (Z1d t1 v4 x1)) (OpsW.rc ((7, .rsl 7 0 0 ((v10 ++ [x14]).length)) :: (Z1d t1 v4 x1)) [(7, rtA 0 39 1 (eL (eI .u8)) (v10 ++ [x14]))] (StC.mk (phi [(7, some 7)]) (.o rfl (CstL.ims _) .nil) rfl (.cons (.s rfl) (.i5 .nil))) (Y1 ?_)))
   exact ⟨v10 ++ [x14], H, (StC.mk (phi [(7, some 7)]) (.o rfl (CstL.ims _) .nil) rfl (.i2 (.cons (.s rfl) (.i3 .nil))))⟩
  intro v7 H
  unfold Y47 at H
  change AW _ _ _ ((5, .j x1) :: (Z1f t1) :: (7, .rsl 7 0 0 v7.length) :: (Z1b t1 v4)) [(7, rtA 0 39 1 (eL (eI .u8)) v7)] _
  refine Yd ?_
  have ⟨g8, H⟩ := Ye H
  refine Yb 2 [18, 5, 6, 7, 16, 17] [(18, .j (v4 + 1)), (5, .j x1), (Z1f t1), (7, .rsl 7 0 0 v7.length), (16, sC t1), (17, .j (Z1i t1))] ⟨g8, trivial⟩ (Y1 ?_)
  exact ⟨(v7, v4 + 1), H, (StC.mk (phi [(7, some 7)]) (.o rfl (CstL.ims _) .nil) rfl (.i2 (.cons (.s rfl) (.i3 .nil))))⟩
 refine AW.exit ?_
 refine Y0 (Y3 2 [4] [(4, .rsl 7 0 0 v3.length)] ?_)
 refine OpsW.rc [(4, sC v3)] [] (StC.mk (phi []) .nil rfl (.cons (.frz rfl rfl rfl (frz_all (eL (eI .u8)) 1 (fun _ => rfl) v3) (Y05 (eL (eI .u8)) 1 (fun _ => rfl) v3) (phi_ne rfl)) .nil)) (Y1 ?_)
 obtain rfl := X5 H
 refine AW.recast (env' := [(4, sC v3)]) (h' := []) (StC.pure (.cons .im .nil)) (Yk ?_)
 try simp only [Ex.t, Ex.b]
 exact Done.eq rfl (.tmp .nil)
def Y4z (t0 : Int) (t1 : Int) : Option (List Y4) :=
 cond ((Int.tmod t0 (8 : Int)) == 1) (
  some [(⟨(1 : Int), IntKind.wrap .i64 (Int.tmod t1 (26 : Int))⟩ : Y4)]) (
  cond ((Int.tmod t0 (8 : Int)) == 2) (
   some [(⟨(2 : Int), (0 : Int)⟩ : Y4), (⟨(1 : Int), IntKind.wrap .i64 (Int.tmod t1 (26 : Int))⟩ : Y4), (⟨(0 : Int), IntKind.wrap .i64 t1⟩ : Y4)]) (
   cond ((Int.tmod t0 (8 : Int)) == 3) (
    some [(⟨(3 : Int), (0 : Int)⟩ : Y4), (⟨(0 : Int), IntKind.wrap .i64 t1⟩ : Y4), (⟨(1 : Int), IntKind.wrap .i64 (Int.tmod t1 (26 : Int))⟩ : Y4)]) (
    cond ((Int.tmod t0 (8 : Int)) == 4) (
     some [(⟨(4 : Int), (0 : Int)⟩ : Y4), (⟨(0 : Int), IntKind.wrap .i64 t1⟩ : Y4), (⟨(1 : Int), IntKind.wrap .i64 (Int.tmod t1 (26 : Int))⟩ : Y4)]) (
     cond ((Int.tmod t0 (8 : Int)) == 5) (
      some [(⟨(7 : Int), (0 : Int)⟩ : Y4), (⟨(1 : Int), IntKind.wrap .i64 (Int.tmod t1 (26 : Int))⟩ : Y4), (⟨(0 : Int), IntKind.wrap .i64 t1⟩ : Y4)]) (
      cond ((Int.tmod t0 (8 : Int)) == 6) (
       some [(⟨(9 : Int), (0 : Int)⟩ : Y4), (⟨(10 : Int), (0 : Int)⟩ : Y4), (⟨(2 : Int), (0 : Int)⟩ : Y4), (⟨(1 : Int), IntKind.wrap .i64 (Int.tmod t1 (26 : Int))⟩ : Y4), (⟨(0 : Int), IntKind.wrap .i64 t1⟩ : Y4)]) (
       cond ((Int.tmod t0 (8 : Int)) == 7) (
        some [(⟨(6 : Int), (0 : Int)⟩ : Y4), (⟨(0 : Int), IntKind.wrap .i64 t1⟩ : Y4), (⟨(1 : Int), IntKind.wrap .i64 (Int.tmod t1 (26 : Int))⟩ : Y4)]) (
        some [(⟨(0 : Int), IntKind.wrap .i64 t1⟩ : Y4)])))))))
section
variable (t0 : Int) (t1 : Int)
abbrev Z1s := (⟨(1 : Int), IntKind.wrap .i64 (Int.tmod t1 (26 : Int))⟩ : Y4)
abbrev Z1t := (⟨(0 : Int), IntKind.wrap .i64 t1⟩ : Y4)
abbrev Z1u : List AV := [.j (1 : Int), .j (IntKind.wrap .i64 (Int.tmod t1 (26 : Int)))]
abbrev Z1v : List AV := [.j (0 : Int), .j (IntKind.wrap .i64 t1)]
abbrev Z1w := (Int.tmod t0 (8 : Int))
abbrev Z1x := (⟨(2 : Int), (0 : Int)⟩ : Y4)
abbrev Z1j : Env := [(15, .int .u8 (Z1w t0)), (6, .ref 6 0 0), (5, .ref 5 0 0)]
abbrev Z1k : Env := [(4, slA Y2 [(⟨(9 : Int), (0 : Int)⟩ : Y4), (⟨(10 : Int), (0 : Int)⟩ : Y4), Z1x, (Z1s t1), (Z1t t1)])]
abbrev Z1l : Hp := [(5, ⟨0, true, 38, 2, (Z1v t1)⟩), (6, ⟨0, true, 38, 2, [.j (0 : Int), .j (0 : Int)]⟩), (5, ⟨0, true, 38, 2, [.j (0 : Int), .j (0 : Int)]⟩)]
abbrev Z1m : Env := [(4, slA Y2 [Z1x, (Z1s t1), (Z1t t1)])]
abbrev Z1n : Env := [(4, slA Y2 [(⟨(3 : Int), (0 : Int)⟩ : Y4), (Z1t t1), (Z1s t1)])]
abbrev Z1o : Env := [(4, slA Y2 [(⟨(4 : Int), (0 : Int)⟩ : Y4), (Z1t t1), (Z1s t1)])]
abbrev Z1p : Env := [(4, slA Y2 [(⟨(7 : Int), (0 : Int)⟩ : Y4), (Z1s t1), (Z1t t1)])]
abbrev Z1q : Env := [(4, slA Y2 [(⟨(6 : Int), (0 : Int)⟩ : Y4), (Z1t t1), (Z1s t1)])]
abbrev Z1r : Env := [(4, slA Y2 [(Z1s t1)])]
end
theorem f_R11_Entry_ok  {t0 : Int} {t1 : Int} {r : List Y4} (H : Y4z t0 t1 = some r) : QSpec Tryd.prog 22 [.int .u8 t0, .int .u8 t1] (slA Y2 r) := by
 refine Yh Tryd.func22 rfl (by simp [Tryd.ntmps22]) ?_
 rw [Tryd.ntmps22]
 unfold Y4z at H
 change AW _ _ _ [(0, .int .u8 t0), (1, .int .u8 t1)] [] _
 refine Y0 (Y3 1 [0, 1] [(0, .int .u8 t0), (1, .int .u8 t1)] ?_)
 refine Y1 (Y0 (Yb 7 [13, 9, 0] [(13, .agg (Z1u t1)), (9, .agg (Z1v t1)), (0, .int .u8 t0)] ⟨(by decide), trivial⟩ ?_))
 refine OpsW.alloc' rfl rfl rfl 5 rfl (by kernel_rfl : zc Tryd.prog 38 = some [.j 0, .j 0]) (by kernel_rfl) (OpsW.alloc' rfl rfl rfl 6 rfl (by kernel_rfl : zc Tryd.prog 38 = some [.j 0, .j 0]) (by kernel_rfl) (OpsW.store rfl rfl rfl rfl trivial trivial rfl rfl rfl (by kernel_rfl) (Yx (by kernel_rfl)) (X00 (by kernel_rfl)) ?_))
 change OpsW _ _ _ _ _ (Z1l t1) _
 refine OpsW.store rfl rfl rfl rfl trivial trivial rfl rfl rfl (by kernel_rfl) (Yx (by kernel_rfl)) (X00 (by kernel_rfl)) ?_
 change OpsW _ _ _ _ _ ((6, ⟨0, true, 38, 2, (Z1u t1)⟩) :: (Z1l t1)) _
 refine Y3 0 [6, 5, 0] [(6, .ref 6 0 0), (5, .ref 5 0 0), (0, .int .u8 t0)] (OpsW.rc [(6, .ref 6 0 0), (5, .ref 5 0 0), (0, .int .u8 t0)] [(5, ⟨0, true, 38, 2, (Z1v t1)⟩), (6, ⟨0, true, 38, 2, (Z1u t1)⟩)] (StC.mk (phi [(5, some 5), (6, some 6)]) (.o rfl (.i2 .nil) (.o rfl (.i2 .nil) .nil)) rfl (.cons (.r rfl) (.cons (.r rfl) (.cons .im .nil)))) ?_)
 refine Y1 (Ys (Y0 (Yb 2 [15, 6, 5] (Z1j t0) ⟨(by decide), trivial⟩ ?_)))
 refine Y1 (Yp (Y0 (Y3 2 [16, 15, 6, 5] ((16, .bool ((Z1w t0) == 1)) :: (Z1j t0)) ?_)))
 refine Y1 (Y6 (b := (Z1w t0) == 1) H rfl (fun c1 H => ?_) (fun c1 H => ?_))
 ·refine Y0 (Y3 1 [18] [(18, .agg (Z1u t1))] ?_)
  refine OpsW.buildTI (enc := Y2) [(Z1s t1)] rfl rfl rfl E27 (fun _ => rfl) (by decide) ⟨trivial, by kernel_rfl, by kernel_rfl, by kernel_rfl, rfl⟩ (Y3 1 [4] (Z1r t1) (Y1 ?_))
  obtain rfl := X5 H
  refine AW.recast (env' := (Z1r t1)) (h' := []) (StC.pure (.cons .im .nil)) (Yk ?_)
  try simp only [Ex.t, Ex.b]
  exact Done.eq rfl (.tmp .nil)
 refine Y0 (Y3 2 [20, 15, 6, 5] ((20, .bool ((Z1w t0) == 2)) :: (Z1j t0)) ?_)
 refine Y1 (Y6 (b := (Z1w t0) == 2) H rfl (fun c2 H => ?_) (fun c2 H => ?_))
 ·refine Y0 (Y3 3 [24, 23, 22] [(24, .agg (Z1v t1)), (23, .agg (Z1u t1)), (22, .agg [.j (2 : Int), .j (0 : Int)])] ?_)
  refine OpsW.buildTI (enc := Y2) [Z1x, (Z1s t1), (Z1t t1)] rfl rfl rfl E27 (fun _ => rfl) (by decide) ⟨trivial, by kernel_rfl, by kernel_rfl, by kernel_rfl, rfl⟩ (Y3 1 [4] (Z1m t1) (Y1 ?_))
  obtain rfl := X5 H
  refine AW.recast (env' := (Z1m t1)) (h' := []) (StC.pure (.cons .im .nil)) (Yk ?_)
  try simp only [Ex.t, Ex.b]
  exact Done.eq rfl (.tmp .nil)
 refine Y0 (Y3 2 [26, 15, 6, 5] ((26, .bool ((Z1w t0) == 3)) :: (Z1j t0)) ?_)
 refine Y1 (Y6 (b := (Z1w t0) == 3) H rfl (fun c3 H => ?_) (fun c3 H => ?_))
 ·refine Y0 (Y3 3 [30, 29, 28] [(30, .agg (Z1u t1)), (29, .agg (Z1v t1)), (28, .agg [.j (3 : Int), .j (0 : Int)])] ?_)
  refine OpsW.buildTI (enc := Y2) [(⟨(3 : Int), (0 : Int)⟩ : Y4), (Z1t t1), (Z1s t1)] rfl rfl rfl E27 (fun _ => rfl) (by decide) ⟨trivial, by kernel_rfl, by kernel_rfl, by kernel_rfl, rfl⟩ (Y3 1 [4] (Z1n t1) (Y1 ?_))
  obtain rfl := X5 H
  refine AW.recast (env' := (Z1n t1)) (h' := []) (StC.pure (.cons .im .nil)) (Yk ?_)
  try simp only [Ex.t, Ex.b]
  exact Done.eq rfl (.tmp .nil)
 refine Y0 (Y3 2 [32, 15, 6, 5] ((32, .bool ((Z1w t0) == 4)) :: (Z1j t0)) ?_)
 refine Y1 (Y6 (b := (Z1w t0) == 4) H rfl (fun c4 H => ?_) (fun c4 H => ?_))
 ·refine Y0 (Y3 3 [36, 35, 34] [(36, .agg (Z1u t1)), (35, .agg (Z1v t1)), (34, .agg [.j (4 : Int), .j (0 : Int)])] ?_)
  refine OpsW.buildTI (enc := Y2) [(⟨(4 : Int), (0 : Int)⟩ : Y4), (Z1t t1), (Z1s t1)] rfl rfl rfl E27 (fun _ => rfl) (by decide) ⟨trivial, by kernel_rfl, by kernel_rfl, by kernel_rfl, rfl⟩ (Y3 1 [4] (Z1o t1) (Y1 ?_))
  obtain rfl := X5 H
  refine AW.recast (env' := (Z1o t1)) (h' := []) (StC.pure (.cons .im .nil)) (Yk ?_)
  try simp only [Ex.t, Ex.b]
  exact Done.eq rfl (.tmp .nil)
 refine Y0 (Y3 2 [38, 15, 6, 5] ((38, .bool ((Z1w t0) == 5)) :: (Z1j t0)) ?_)
 refine Y1 (Y6 (b := (Z1w t0) == 5) H rfl (fun c5 H => ?_) (fun c5 H => ?_))
 ·refine Y0 (Y3 3 [42, 41, 40] [(42, .agg (Z1v t1)), (41, .agg (Z1u t1)), (40, .agg [.j (7 : Int), .j (0 : Int)])] ?_)
  refine OpsW.buildTI (enc := Y2) [(⟨(7 : Int), (0 : Int)⟩ : Y4), (Z1s t1), (Z1t t1)] rfl rfl rfl E27 (fun _ => rfl) (by decide) ⟨trivial, by kernel_rfl, by kernel_rfl, by kernel_rfl, rfl⟩ (Y3 1 [4] (Z1p t1) (Y1 ?_))
  obtain rfl := X5 H
  refine AW.recast (env' := (Z1p t1)) (h' := []) (StC.pure (.cons .im .nil)) (Yk ?_)
  try simp only [Ex.t, Ex.b]
  exact Done.eq rfl (.tmp .nil)
 refine Y0 (Y3 2 [44, 15, 6, 5] ((44, .bool ((Z1w t0) == 6)) :: (Z1j t0)) ?_)
 refine Y1 (Y6 (b := (Z1w t0) == 6) H rfl (fun c6 H => ?_) (fun c6 H => ?_))
 ·refine Y0 (Y3 5 [50, 49, 48, 47, 46] [(50, .agg (Z1v t1)), (49, .agg (Z1u t1)), (48, .agg [.j (2 : Int), .j (0 : Int)]), (47, .agg [.j (10 : Int), .j (0 : Int)]), (46, .agg [.j (9 : Int), .j (0 : Int)])] ?_)
  refine OpsW.buildTI (enc := Y2) [(⟨(9 : Int), (0 : Int)⟩ : Y4), (⟨(10 : Int), (0 : Int)⟩ : Y4), Z1x, (Z1s t1), (Z1t t1)] rfl rfl rfl E27 (fun _ => rfl) (by decide) ⟨trivial, by kernel_rfl, by kernel_rfl, by kernel_rfl, rfl⟩ (Y3 1 [4] (Z1k t1) (Y1 ?_))
  obtain rfl := X5 H
  refine AW.recast (env' := (Z1k t1)) (h' := []) (StC.pure (.cons .im .nil)) (Yk ?_)
  try simp only [Ex.t, Ex.b]
  exact Done.eq rfl (.tmp .nil)
 refine Y0 (Y3 2 [52, 6, 5] [(52, .bool ((Z1w t0) == 7)), (6, .ref 6 0 0), (5, .ref 5 0 0)] ?_)
 refine Y1 (Y6 (b := (Z1w t0) == 7) H rfl (fun c7 H => ?_) (fun c7 H => ?_))
 ·refine Y0 (Y3 3 [56, 55, 54] [(56, .agg (Z1u t1)), (55, .agg (Z1v t1)), (54, .agg [.j (6 : Int), .j (0 : Int)])] ?_)
  refine OpsW.buildTI (enc := Y2) [(⟨(6 : Int), (0 : Int)⟩ : Y4), (Z1t t1), (Z1s t1)] rfl rfl rfl E27 (fun _ => rfl) (by decide) ⟨trivial, by kernel_rfl, by kernel_rfl, by kernel_rfl, rfl⟩ (Y3 1 [4] (Z1q t1) (Y1 ?_))
  obtain rfl := X5 H
  refine AW.recast (env' := (Z1q t1)) (h' := []) (StC.pure (.cons .im .nil)) (Yk ?_)
  try simp only [Ex.t, Ex.b]
  exact Done.eq rfl (.tmp .nil)
 refine Ya (Y0 (Y3 1 [58] [(58, .agg (Z1v t1))] ?_))
 refine OpsW.buildTI (enc := Y2) [(Z1t t1)] rfl rfl rfl E27 (fun _ => rfl) (by decide) ⟨trivial, by kernel_rfl, by kernel_rfl, by kernel_rfl, rfl⟩ (Y3 1 [4] [(4, slA Y2 [(Z1t t1)])] (Y1 ?_))
 obtain rfl := X5 H
 refine AW.recast (env' := [(4, slA Y2 [(Z1t t1)])]) (h' := []) (StC.pure (.cons .im .nil)) (Yk ?_)
 try simp only [Ex.t, Ex.b]
 exact Done.eq rfl (.tmp .nil)
def Y11  : Option Int :=
 some (-1 : Int)
def Y21 (t0 : Y4) (v8 : Bool) : Option Int :=
 cond v8 (
  cond (t0.N == 0) (
   some (1 : Int)) (
   Y11)) (
  cond (t0.Op == 12) (
   cond (cond (decide (2 ≤ t0.N)) (decide (t0.N ≤ 5)) false) (
    G (inR (t0.N + 1)) <|
    some (t0.N + 1)) (
    Y11)) (
   cond (t0.Op == 13) (
    G (inR (Int.tdiv t0.N (8 : Int))) <|
    cond (cond (cond (cond (cond (decide (0 < t0.N)) (decide ((1 : Int) ≤ (Int.tdiv t0.N (8 : Int)))) false) (decide ((Int.tdiv t0.N (8 : Int)) ≤ 4)) false) (decide ((1 : Int) ≤ (Int.tmod t0.N (8 : Int)))) false) (decide ((Int.tmod t0.N (8 : Int)) ≤ 4)) false) (
     G (inR ((Int.tdiv t0.N (8 : Int)) * (Int.tmod t0.N (8 : Int)))) <|
     some ((Int.tdiv t0.N (8 : Int)) * (Int.tmod t0.N (8 : Int)))) (
     Y11)) (
    Y11)))
def Y0y (t0 : Y4) (v5 : Bool) : Option Int :=
 cond v5 (
  cond (t0.N == 0) (
   some (2 : Int)) (
   Y11)) (
  cond (t0.Op == 9) (
   Y21 t0 (t0.Op == 9)) (
   cond (t0.Op == 10) (
    Y21 t0 (t0.Op == 10)) (
    Y21 t0 (t0.Op == 11))))
def Y2k (t0 : Y4) : Option Int :=
 cond (t0.Op == 0) (
  cond (cond (decide (0 ≤ t0.N)) (decide (t0.N ≤ 99999)) false) (
   some (0 : Int)) (
   Y11)) (
  cond (t0.Op == 1) (
   cond (cond (decide (0 ≤ t0.N)) (decide (t0.N ≤ 25)) false) (
    some (0 : Int)) (
    Y11)) (
   cond (t0.Op == 2) (
    Y0y t0 (t0.Op == 2)) (
    cond (t0.Op == 3) (
     Y0y t0 (t0.Op == 3)) (
     cond (t0.Op == 4) (
      Y0y t0 (t0.Op == 4)) (
      cond (t0.Op == 5) (
       Y0y t0 (t0.Op == 5)) (
       cond (t0.Op == 6) (
        Y0y t0 (t0.Op == 6)) (
        cond (t0.Op == 7) (
         Y0y t0 (t0.Op == 7)) (
         Y0y t0 (t0.Op == 8)))))))))
section
variable (t0 : Y4)
abbrev Z20 := (cond (cond (cond (decide (0 < t0.N)) (decide ((1 : Int) ≤ (Int.tdiv t0.N (8 : Int)))) false) (decide ((Int.tdiv t0.N (8 : Int)) ≤ 4)) false) (decide ((1 : Int) ≤ (Int.tmod t0.N (8 : Int)))) false)
abbrev Z21 := (Int.tmod t0.N (8 : Int))
abbrev Z22 : Nat × AV := (1, .ref 1 0 0)
abbrev Z23 := (Int.tdiv t0.N (8 : Int))
abbrev Z1y : Env := [(6, .j t0.Op), Z22]
abbrev Z1z : Hp := [(1, ⟨0, true, 38, 2, [.j t0.Op, .j t0.N]⟩)]
end
theorem f_R09_Arity_ok  {t0 : Y4} {r : Int} (H : Y2k t0 = some r) : QSpec Tryd.prog 79 [.agg [.int .i64 t0.Op, .int .i64 t0.N]] (.int .i64 r) := by
 refine Yh Tryd.func79 rfl (by simp [Tryd.ntmps79]) ?_
 rw [Tryd.ntmps79]
 unfold Y2k at H
 change AW _ _ _ [(0, .agg [.j t0.Op, .j t0.N])] [] _
 refine Y0 (OpsW.box rfl rfl rfl 1 rfl (Yx (by kernel_rfl)) ?_)
 change OpsW _ _ _ _ _ (Z1z t0) _
 refine Y3 1 [1] [Z22] (Y1 ?_)
 refine Y0w (fun (y : Unit) => Y11) r (fun (y : Unit) => []) (fun (y : Unit) => []) ?_ ?_
 ·refine Y0 (Y3 2 [6, 1] (Z1y t0) ?_)
  refine Y1 (Yp (Y0 (Y3 2 [7, 6, 1] ((7, .bool (t0.Op == 0)) :: (Z1y t0)) ?_)))
  refine Y1 (Y6 (b := t0.Op == 0) H rfl (fun c1 H => ?_) (fun c1 H => ?_))
  ·refine Y0 (Yb 8 [16] [(16, .bool (cond (decide (0 ≤ t0.N)) (decide (t0.N ≤ 99999)) false))] ⟨(fun h => h), (fun h => h), (fun h => by first | exact h | (simpa using h) | grind), trivial⟩ ?_)
   refine Y1 (Y6 (b := cond (decide (0 ≤ t0.N)) (decide (t0.N ≤ 99999)) false) H rfl (fun c2 H => ?_) (fun c2 H => ?_))
   ·refine Y0 (Y3 1 [2] [(2, .j (0 : Int))] ?_)
    refine Y1 ?_
    obtain rfl := X5 H
    refine AW.recast (env' := [(2, .j (0 : Int))]) (h' := []) (StC.pure (.cons .im .nil)) (Yk ?_)
    try simp only [Ex.t, Ex.b]
    exact Done.eq rfl (.tmp .nil)
   refine Ya ?_
   exact ⟨(), H, (StC.pure .nil)⟩
  refine Y0 (Y3 2 [17, 6, 1] ((17, .bool (t0.Op == 1)) :: (Z1y t0)) ?_)
  refine Y1 (Y6 (b := t0.Op == 1) H rfl (fun c3 H => ?_) (fun c3 H => ?_))
  ·refine Y0 (Yb 8 [26] [(26, .bool (cond (decide (0 ≤ t0.N)) (decide (t0.N ≤ 25)) false))] ⟨(fun h => h), (fun h => h), (fun h => by first | exact h | (simpa using h) | grind), trivial⟩ ?_)
   refine Y1 (Y6 (b := cond (decide (0 ≤ t0.N)) (decide (t0.N ≤ 25)) false) H rfl (fun c4 H => ?_) (fun c4 H => ?_))
   ·refine Y0 (Y3 1 [2] [(2, .j (0 : Int))] ?_)
    refine Y1 ?_
    obtain rfl := X5 H
    refine AW.recast (env' := [(2, .j (0 : Int))]) (h' := []) (StC.pure (.cons .im .nil)) (Yk ?_)
    try simp only [Ex.t, Ex.b]
    exact Done.eq rfl (.tmp .nil)
   refine Ya ?_
   exact ⟨(), H, (StC.pure .nil)⟩
  refine Y0w (fun (y : Bool) => Y0y t0 y) r (fun (y : Bool) => [Z22, (6, .j t0.Op), (27, .bool y)]) (fun (y : Bool) => (Z1z t0)) ?_ ?_
  ·refine Y0 (Y3 2 [27, 6, 1] ((27, .bool (t0.Op == 2)) :: (Z1y t0)) ?_)
   refine Y1 (Y6 (b := t0.Op == 2) H rfl (fun c20 H => ?_) (fun c20 H => ?_))
   ·refine Ya ?_
    exact ⟨t0.Op == 2, H, (StC.mk (phi [(1, some 1)]) (.o rfl (.i2 .nil) .nil) rfl (.cons (.r rfl) (.i2 .nil)))⟩
   refine Y0 (Y3 2 [27, 6, 1] ((27, .bool (t0.Op == 3)) :: (Z1y t0)) ?_)
   refine Y1 (Y6 (b := t0.Op == 3) H rfl (fun c21 H => ?_) (fun c21 H => ?_))
   ·refine Ya ?_
    exact ⟨t0.Op == 3, H, (StC.mk (phi [(1, some 1)]) (.o rfl (.i2 .nil) .nil) rfl (.cons (.r rfl) (.i2 .nil)))⟩
   refine Y0 (Y3 2 [27, 6, 1] ((27, .bool (t0.Op == 4)) :: (Z1y t0)) ?_)
   refine Y1 (Y6 (b := t0.Op == 4) H rfl (fun c22 H => ?_) (fun c22 H => ?_))
   ·refine Ya ?_
    exact ⟨t0.Op == 4, H, (StC.mk (phi [(1, some 1)]) (.o rfl (.i2 .nil) .nil) rfl (.cons (.r rfl) (.i2 .nil)))⟩
   refine Y0 (Y3 2 [27, 6, 1] ((27, .bool (t0.Op == 5)) :: (Z1y t0)) ?_)
   refine Y1 (Y6 (b := t0.Op == 5) H rfl (fun c23 H => ?_) (fun c23 H => ?_))
   ·refine Ya ?_
    exact ⟨t0.Op == 5, H, (StC.mk (phi [(1, some 1)]) (.o rfl (.i2 .nil) .nil) rfl (.cons (.r rfl) (.i2 .nil)))⟩
   refine Y0 (Y3 2 [27, 6, 1] ((27, .bool (t0.Op == 6)) :: (Z1y t0)) ?_)
   refine Y1 (Y6 (b := t0.Op == 6) H rfl (fun c24 H => ?_) (fun c24 H => ?_))
   ·refine Ya ?_
    exact ⟨t0.Op == 6, H, (StC.mk (phi [(1, some 1)]) (.o rfl (.i2 .nil) .nil) rfl (.cons (.r rfl) (.i2 .nil)))⟩
   refine Y0 (Y3 2 [27, 6, 1] ((27, .bool (t0.Op == 7)) :: (Z1y t0)) ?_)
   refine Y1 (Y6 (b := t0.Op == 7) H rfl (fun c25 H => ?_) (fun c25 H => ?_))
   ·refine Ya ?_
    exact ⟨t0.Op == 7, H, (StC.mk (phi [(1, some 1)]) (.o rfl (.i2 .nil) .nil) rfl (.cons (.r rfl) (.i2 .nil)))⟩
   refine Yd (Y3 2 [27, 6, 1] ((27, .bool (t0.Op == 8)) :: (Z1y t0)) ?_)
   refine Y1 ?_
   exact ⟨t0.Op == 8, H, (StC.mk (phi [(1, some 1)]) (.o rfl (.i2 .nil) .nil) rfl (.cons (.r rfl) (.i2 .nil)))⟩
  intro v5 H
  unfold Y0y at H
  change AW _ _ _ [Z22, (6, .j t0.Op), (27, .bool v5)] (Z1z t0) _
  refine Y6 (b := v5) H rfl (fun c6 H => ?_) (fun c6 H => ?_)
  ·refine Y0 (Y3 3 [37] [(37, .bool (t0.N == 0))] ?_)
   refine Y1 (Y6 (b := t0.N == 0) H rfl (fun c7 H => ?_) (fun c7 H => ?_))
   ·refine Y0 (Y3 1 [2] [(2, .j (2 : Int))] ?_)
    refine Y1 ?_
    obtain rfl := X5 H
    refine AW.recast (env' := [(2, .j (2 : Int))]) (h' := []) (StC.pure (.cons .im .nil)) (Yk ?_)
    try simp only [Ex.t, Ex.b]
    exact Done.eq rfl (.tmp .nil)
   refine Ya ?_
   exact ⟨(), H, (StC.pure .nil)⟩
  refine Y0w (fun (y : Bool) => Y21 t0 y) r (fun (y : Bool) => [Z22, (6, .j t0.Op), (38, .bool y)]) (fun (y : Bool) => (Z1z t0)) ?_ ?_
  ·refine Y0 (Y3 2 [38, 1, 6] [(38, .bool (t0.Op == 9)), Z22, (6, .j t0.Op)] ?_)
   refine Y1 (Y6 (b := t0.Op == 9) H rfl (fun c18 H => ?_) (fun c18 H => ?_))
   ·refine Ya ?_
    exact ⟨t0.Op == 9, H, (StC.mk (phi [(1, some 1)]) (.o rfl (.i2 .nil) .nil) rfl (.cons (.r rfl) (.i2 .nil)))⟩
   refine Y0 (Y3 2 [38, 1, 6] [(38, .bool (t0.Op == 10)), Z22, (6, .j t0.Op)] ?_)
   refine Y1 (Y6 (b := t0.Op == 10) H rfl (fun c19 H => ?_) (fun c19 H => ?_))
   ·refine Ya ?_
    exact ⟨t0.Op == 10, H, (StC.mk (phi [(1, some 1)]) (.o rfl (.i2 .nil) .nil) rfl (.cons (.r rfl) (.i2 .nil)))⟩
   refine Yd (Y3 2 [38, 1, 6] [(38, .bool (t0.Op == 11)), Z22, (6, .j t0.Op)] ?_)
   refine Y1 ?_
   exact ⟨t0.Op == 11, H, (StC.mk (phi [(1, some 1)]) (.o rfl (.i2 .nil) .nil) rfl (.cons (.r rfl) (.i2 .nil)))⟩
  intro v8 H
  unfold Y21 at H
  change AW _ _ _ [Z22, (6, .j t0.Op), (38, .bool v8)] (Z1z t0) _
  refine Y6 (b := v8) H rfl (fun c9 H => ?_) (fun c9 H => ?_)
  ·refine Y0 (Y3 3 [44] [(44, .bool (t0.N == 0))] ?_)
   refine Y1 (Y6 (b := t0.N == 0) H rfl (fun c10 H => ?_) (fun c10 H => ?_))
   ·refine Y0 (Y3 1 [2] [(2, .j (1 : Int))] ?_)
    refine Y1 ?_
    obtain rfl := X5 H
    refine AW.recast (env' := [(2, .j (1 : Int))]) (h' := []) (StC.pure (.cons .im .nil)) (Yk ?_)
    try simp only [Ex.t, Ex.b]
    exact Done.eq rfl (.tmp .nil)
   refine Ya ?_
   exact ⟨(), H, (StC.pure .nil)⟩
  refine Y0 (Y3 2 [45, 1, 6] [(45, .bool (t0.Op == 12)), Z22, (6, .j t0.Op)] ?_)
  refine Y1 (Y6 (b := t0.Op == 12) H rfl (fun c11 H => ?_) (fun c11 H => ?_))
  ·refine Y0 (Yb 8 [54, 1] [(54, .bool (cond (decide (2 ≤ t0.N)) (decide (t0.N ≤ 5)) false)), Z22] ⟨(fun h => h), (fun h => h), (fun h => by first | exact h | (simpa using h) | grind), trivial⟩ ?_)
   refine Y1 (Y6 (b := cond (decide (2 ≤ t0.N)) (decide (t0.N ≤ 5)) false) H rfl (fun c12 H => ?_) (fun c12 H => ?_))
   ·refine Y0 ?_
    have ⟨g13, H⟩ := Ye H
    refine Yb 4 [2] [(2, .j (t0.N + 1))] ⟨g13, trivial⟩ (Y1 ?_)
    obtain rfl := X5 H
    refine AW.recast (env' := [(2, .j (t0.N + 1))]) (h' := []) (StC.pure (.cons .im .nil)) (Yk ?_)
    try simp only [Ex.t, Ex.b]
    exact Done.eq rfl (.tmp .nil)
   refine Ya ?_
   exact ⟨(), H, (StC.pure .nil)⟩
  refine Y0 (Y3 2 [58, 1] [(58, .bool (t0.Op == 13)), Z22] ?_)
  refine Y1 (Y6 (b := t0.Op == 13) H rfl (fun c14 H => ?_) (fun c14 H => ?_))
  ·refine Y1j Tryd.checked.mixed (by kernel_rfl) ?_
   have ⟨g15, H⟩ := Ye H
   refine QOps.sz (N := 88) 8 [(4, .j (Z21 t0)), (3, .j (Z23 t0)), (65, .j (Z21 t0)), (64, .j t0.N), (63, .ref 1 0 1), (62, .j (Z23 t0)), (61, .j t0.N), (60, .ref 1 0 1), (58, .bool (t0.Op == 13)), Z22] ⟨(by decide), g15, (by decide), trivial⟩ ?_
   refine QOps.nil (AW.trim [4, 3, 1] [(4, .j (Z21 t0)), (3, .j (Z23 t0)), Z22] (by kernel_rfl) ?_)
   refine Y0 (Yb 19 [84, 4, 3] [(84, .bool (cond (Z20 t0) (decide ((Z21 t0) ≤ 4)) false)), (4, .j (Z21 t0)), (3, .j (Z23 t0))] ⟨(fun h => h), (fun h => by first | exact h | (simpa using h) | grind), (fun h => h), (fun h => by first | exact h | (simpa using h) | grind), (fun h => h), (fun h => by first | exact h | (simpa using h) | grind), (fun h => h), (fun h => by first | exact h | (simpa using h) | grind), trivial⟩ ?_)
   refine Y1 (Y6 (b := cond (Z20 t0) (decide ((Z21 t0) ≤ 4)) false) H rfl (fun c16 H => ?_) (fun c16 H => ?_))
   ·refine Y0 ?_
    have ⟨g17, H⟩ := Ye H
    refine Yb 4 [2] [(2, .j ((Z23 t0) * (Z21 t0)))] ⟨g17, trivial⟩ (Y1 ?_)
    obtain rfl := X5 H
    refine AW.recast (env' := [(2, .j ((Z23 t0) * (Z21 t0)))]) (h' := []) (StC.pure (.cons .im .nil)) (Yk ?_)
    try simp only [Ex.t, Ex.b]
    exact Done.eq rfl (.tmp .nil)
   refine Ya ?_
   exact ⟨(), H, (StC.pure .nil)⟩
  refine Ya ?_
  exact ⟨(), H, (StC.pure .nil)⟩
 rintro ⟨⟩ H
 unfold Y11 at H
 change AW _ _ _ [] [] _
 refine Y0 (Y3 1 [2] [(2, .j (-1 : Int))] ?_)
 refine Y1 ?_
 obtain rfl := X5 H
 refine AW.recast (env' := [(2, .j (-1 : Int))]) (h' := []) (StC.pure (.cons .im .nil)) (Yk ?_)
 try simp only [Ex.t, Ex.b]
 exact Done.eq rfl (.tmp .nil)
def Y14 (t0 : List Y4) (loop3 : (Int × Int) → Option Int) (v1 : Int) (v2 : Int) : Option Int :=
 cond (decide (0 < v2)) (
  G ((!(cond (decide (v1 < 0)) true (decide ((t0.length : Int) ≤ v1)))) = true → (0 ≤ v1 ∧ v1 < (t0.length : Int))) <|
  (cond (!(cond (decide (v1 < 0)) true (decide ((t0.length : Int) ≤ v1)))) (Y2k (t0.getD v1.toNat Y7)) (some (0 : Int))).bind fun x6 =>
  cond (cond (cond (decide (v1 < 0)) true (decide ((t0.length : Int) ≤ v1))) true (decide (x6 < 0))) (
   some (-1 : Int)) (
   G (0 ≤ v1 ∧ v1 < (t0.length : Int)) <|
   (Y2k (t0.getD v1.toNat Y7)).bind fun x9 =>
   G (inR (x9 - 1)) <|
   G (inR (v2 + (x9 - 1))) <|
   G (inR (v1 + 1)) <|
   loop3 (v1 + 1, v2 + (x9 - 1)))) (
  some v1)
def f_R09_End (t0 : List Y4) (t1 : Int) : Option Int :=
 iter (fun loop (s : Int × Int) => Y14 t0 loop s.1 s.2) 1000000 (t1, (1 : Int))
section
variable (t0 : List Y4) (v1 : Int) (v2 : Int)
abbrev Z25 := (cond (decide (v1 < 0)) true (decide ((t0.length : Int) ≤ v1)))
abbrev Z26 := t0.getD v1.toNat Y7
abbrev Z24 : Env := [(0, slA Y2 t0), (1, .j v1), (5, .j v2)]
end
theorem f_R09_End_ok  {t0 : List Y4} {t1 : Int} {r : Int} (H : f_R09_End t0 t1 = some r) : QSpec Tryd.prog 46 [slA Y2 t0, .int .i64 t1] (.int .i64 r) := by
 refine Yh Tryd.func46 rfl (by simp [Tryd.ntmps46]) ?_
 rw [Tryd.ntmps46]
 unfold f_R09_End at H
 change AW _ _ _ [(0, slA Y2 t0), (1, .j t1)] [] _
 refine Y0 (Y3 1 [0, 1] [(0, slA Y2 t0), (1, .j t1)] ?_)
 refine Y1 (Y0 (Y3 1 [5, 0, 1] [(5, .j (1 : Int)), (0, slA Y2 t0), (1, .j t1)] ?_))
 refine Y1 (Ys (Yp ?_))
 refine Y25 (fun loop (s : Int × Int) => Y14 t0 loop s.1 s.2) r (fun (s : Int × Int) => [(0, slA Y2 t0), (1, .j s.1), (5, .j s.2)]) (fun (s : Int × Int) => []) ?_ 1000000 (t1, (1 : Int)) H (StC.pure (.i3 .nil))
 intro loop3 s H
 obtain ⟨v1, v2⟩ := s
 unfold Y14 at H
 change AW _ _ _ (Z24 t0 v1 v2) [] _
 refine Ys (Y0 (Y3 2 [7, 0, 1, 5] ((7, .bool (decide (0 < v2))) :: (Z24 t0 v1 v2)) ?_))
 refine Y1 (Y6 (b := decide (0 < v2)) H rfl (fun c4 H => ?_) (fun c4 H => ?_))
 ·refine Ya (Yp (Ys (Y0 ?_)))
  have ⟨g5, H⟩ := Ye H
  refine Yb 12 [19, 16, 0, 1, 5] ((19, .cnd (!(Z25 t0 v1)) (.ipt (t0.flatMap Y2) (v1.toNat * 2))) :: (16, .bool (Z25 t0 v1)) :: (Z24 t0 v1 v2)) ⟨(fun h => h), (fun h => h), (fun h => h), (fun h => by first | exact h | (simpa using h) | grind), (fun h => h), (fun h => h), g5, trivial⟩ (OpsW.asG (c := !(Z25 t0 v1)) (.agg [.j ((Z26 t0 v1).Op), .j ((Z26 t0 v1).N)]) rfl rfl rfl rfl (fun hc => Y44 (cs := t0.flatMap Y2) (off := v1.toNat * 2) (ds := Y2 (Z26 t0 v1)) rfl hc (by kernel_rfl) (by have := Y05 Y2 2 (fun _ => rfl) t0; have := (ltN (g5 hc)); first | omega | (simp only [Z25, Z26] at *; omega)) (fm_elem Y2 2 (fun _ => rfl) t0 Y7 v1.toNat (ltN (g5 hc)))) ?_)
  have ⟨x6, hx6, H⟩ := Y0d H
  refine OpsW.gcall (c := !(Z25 t0 v1)) (r := .j x6) [] rfl (by kernel_rfl) rfl rfl rfl rfl (fun hc => ⟨Yc ⟨hc, trivial⟩, (.cons (.pur rfl) .nil), f_R09_Arity_ok (condT hc hx6), .inl ⟨rfl, rfl⟩⟩) (Yb 2 [23, 0, 1, 5] ((23, .bool (cond (Z25 t0 v1) true (decide (x6 < 0)))) :: (Z24 t0 v1 v2)) ⟨(fun h => h), (fun h => by first | exact h | (simpa using h) | grind), trivial⟩ (Y1 (Y6 (b := cond (Z25 t0 v1) true (decide (x6 < 0))) H rfl (fun c7 H => ?_) (fun c7 H => ?_))))
  ·refine Y0 (Y3 1 [4] [(4, .j (-1 : Int))] ?_)
   refine Y1 ?_
   obtain rfl := X5 H
   refine AW.recast (env' := [(4, .j (-1 : Int))]) (h' := []) (StC.pure (.cons .im .nil)) (Yk ?_)
   try simp only [Ex.t, Ex.b]
   exact Done.eq rfl (.tmp .nil)
  refine Ya (Y0 ?_)
  have ⟨g8, H⟩ := Ye H
  refine Yb 4 [27, 24, 0, 1, 5] ((27, .ipt (t0.flatMap Y2) (v1.toNat * 2)) :: (24, .j v2) :: (Z24 t0 v1 v2)) ⟨g8, trivial⟩ (OpsW.asU (.agg [.j ((Z26 t0 v1).Op), .j ((Z26 t0 v1).N)]) rfl rfl (Y44 (cs := t0.flatMap Y2) (off := v1.toNat * 2) (ds := Y2 (Z26 t0 v1)) rfl trivial (by kernel_rfl) (by have := Y05 Y2 2 (fun _ => rfl) t0; have := (ltN g8); first | omega | (simp only [Z26] at *; omega)) (fm_elem Y2 2 (fun _ => rfl) t0 Y7 v1.toNat (ltN g8))) ?_)
  have ⟨x9, hx9, H⟩ := Y0d H
  refine Y0f rfl (.cons (.pur rfl) .nil) (f_R09_Arity_ok hx9) ?_
  have ⟨g10, H⟩ := Ye H
  have ⟨g11, H⟩ := Ye H
  refine Yb 3 [5, 0, 1] [(5, .j (v2 + (x9 - 1))), (0, slA Y2 t0), (1, .j v1)] ⟨g10, g11, trivial⟩ ?_
  refine Y1 (Yd ?_)
  have ⟨g12, H⟩ := Ye H
  refine Yb 3 [1, 5, 0] [(1, .j (v1 + 1)), (5, .j (v2 + (x9 - 1))), (0, slA Y2 t0)] ⟨g12, trivial⟩ (Y1 ?_)
  exact ⟨(v1 + 1, v2 + (x9 - 1)), H, (StC.pure (.i3 .nil))⟩
 refine AW.exit ?_
 refine Y0 (Y3 2 [4] [(4, .j v1)] ?_)
 refine Y1 ?_
 obtain rfl := X5 H
 refine AW.recast (env' := [(4, .j v1)]) (h' := []) (StC.pure (.cons .im .nil)) (Yk ?_)
 try simp only [Ex.t, Ex.b]
 exact Done.eq rfl (.tmp .nil)
def Y2j (t0 : List Y4) (t1 : Int) (loop5 : ((List Int) × Int × Int) → Option (List Int)) (v2 : List Int) (v3 : Int) (v4 : Int) : Option (List Int) :=
 G (0 ≤ t1 ∧ t1 < (t0.length : Int)) <|
 (Y2k (t0.getD t1.toNat Y7)).bind fun x7 =>
 cond (decide (v4 < x7)) (
  G (room 8 (v2.length + 1)) <|
  (f_R09_End t0 v3).bind fun x10 =>
  G (inR (v4 + 1)) <|
  loop5 (v2 ++ [v3], x10, v4 + 1)) (
  some v2)
def Y2q (t0 : List Y4) (t1 : Int) : Option (List Int) :=
 G (inR (t1 + 1)) <|
 iter (fun loop (s : (List Int) × Int × Int) => Y2j t0 t1 loop s.1 s.2.1 s.2.2) 1000000 (([] : List Int), t1 + 1, (0 : Int))
section
variable (t0 : List Y4) (t1 : Int) (v2 : List Int) (v3 : Int) (v4 : Int)
abbrev Z2a : Nat × AV := (5, .rsl 5 0 0 ((v2 ++ [v3]).length))
abbrev Z27 : Env := [(0, slA Y2 t0), (1, .j t1), (5, .rsl 5 0 0 v2.length), (6, .j v3), (7, .j v4)]
abbrev Z28 : Env := [(0, slA Y2 t0), (1, .j t1)]
abbrev Z29 : Env := [(0, slA Y2 t0), (1, .j t1), (6, .j v3), (7, .j v4)]
end
theorem f_R09_Operands_ok  {t0 : List Y4} {t1 : Int} {r : List Int} (H : Y2q t0 t1 = some r) : QSpec Tryd.prog 45 [slA Y2 t0, .int .i64 t1] (slA (eI .i64) r) := by
 refine Yh Tryd.func45 rfl (by simp [Tryd.ntmps45]) ?_
 rw [Tryd.ntmps45]
 unfold Y2q at H
 change AW _ _ _ (Z28 t0 t1) [] _
 refine Y0 (Y3 1 [0, 1] (Z28 t0 t1) ?_)
 refine Y1 (Y0 (OpsW.buildT (enc := eI .i64) ([] : List Int) rfl rfl rfl 8 rfl E70 (fun _ => rfl) (by decide) trivial (by kernel_rfl) (by kernel_rfl) (by kernel_rfl) rfl ?_))
 have ⟨g1, H⟩ := Ye H
 refine Yb 4 [6, 5, 0, 1] ((6, .j (t1 + 1)) :: (5, .rsl 8 0 0 (([] : List Int).length)) :: (Z28 t0 t1)) ⟨g1, trivial⟩ (OpsW.rc ((6, .j (t1 + 1)) :: (5, .rsl 5 0 0 (([] : List Int).length)) :: (Z28 t0 t1)) [(5, rtA 0 3 1 (eI .i64) ([] : List Int))] (StC.mk (phi [(5, some 8)]) (.o rfl (CstL.ims _) .nil) rfl (.cons .im (.cons (.s rfl) (.i2 .nil)))) ?_)
 refine Y1 (Ys (Y0 (Y3 1 [7, 6, 5, 0, 1] ((7, .j (0 : Int)) :: (6, .j (t1 + 1)) :: (5, .rsl 5 0 0 (([] : List Int).length)) :: (Z28 t0 t1)) ?_)))
 refine Y1 (Yp ?_)
 refine Y25 (fun loop (s : (List Int) × Int × Int) => Y2j t0 t1 loop s.1 s.2.1 s.2.2) r (fun (s : (List Int) × Int × Int) => [(0, slA Y2 t0), (1, .j t1), (5, .rsl 5 0 0 s.1.length), (6, .j s.2.1), (7, .j s.2.2)]) (fun (s : (List Int) × Int × Int) => [(5, rtA 0 3 1 (eI .i64) s.1)]) ?_ 1000000 (([] : List Int), t1 + 1, (0 : Int)) H (StC.mk (phi [(5, some 5)]) (.o rfl (CstL.ims _) .nil) rfl (.i2 (.cons (.s rfl) (.i2 .nil))))
 intro loop5 s H
 obtain ⟨v2, v3, v4⟩ := s
 unfold Y2j at H
 change AW _ _ _ (Z27 t0 t1 v2 v3 v4) [(5, rtA 0 3 1 (eI .i64) v2)] _
 refine Ys (Y0 ?_)
 have ⟨g6, H⟩ := Ye H
 refine Yb 4 [14, 11, 0, 1, 5, 6, 7] ((14, .ipt (t0.flatMap Y2) (t1.toNat * 2)) :: (11, .j v4) :: (Z27 t0 t1 v2 v3 v4)) ⟨g6, trivial⟩ (OpsW.asU (.agg [.j ((t0.getD t1.toNat Y7).Op), .j ((t0.getD t1.toNat Y7).N)]) rfl rfl (Y44 (cs := t0.flatMap Y2) (off := t1.toNat * 2) (ds := Y2 (t0.getD t1.toNat Y7)) rfl trivial (by kernel_rfl) (by have := Y05 Y2 2 (fun _ => rfl) t0; have := (ltN g6); omega) (fm_elem Y2 2 (fun _ => rfl) t0 Y7 t1.toNat (ltN g6))) ?_)
 have ⟨x7, hx7, H⟩ := Y0d H
 refine Y0f rfl (.cons (.pur rfl) .nil) (f_R09_Arity_ok hx7) (Y3 1 [17, 0, 1, 5, 6, 7] ((17, .bool (decide (v4 < x7))) :: (Z27 t0 t1 v2 v3 v4)) (Y1 (Y6 (b := decide (v4 < x7)) H rfl (fun c8 H => ?_) (fun c8 H => ?_))))
 ·refine Ya (Ys (Yp (Y0 (Y3 2 [21, 20, 0, 1, 5, 6, 7] ((21, .j v3) :: (20, .rsl 5 0 0 v2.length) :: (Z27 t0 t1 v2 v3 v4)) ?_))))
  have ⟨g9, H⟩ := Ye H
  refine Y2r (enc := eI .i64) [v3] rfl rfl rfl (by decide) rfl rfl rfl (by simp) E70 (fun _ => rfl) (by decide) trivial (by kernel_rfl) (by kernel_rfl) (by kernel_rfl) rfl rfl rfl g9 (Y3 1 [5, 0, 1, 6, 7] ((5, .rsl 5 1 0 ((v2 ++ [v3]).length)) :: (Z29 t0 t1 v3 v4)) (OpsW.rc ((Z2a v2 v3) :: (Z29 t0 t1 v3 v4)) [(5, rtA 0 3 1 (eI .i64) (v2 ++ [v3]))] (StC.mk (phi [(5, some 5)]) (.o rfl (CstL.ims _) .nil) rfl (.cons (.s rfl) (.i4 .nil))) ?_))
  refine Y1 (Yd (Y3 2 [25, 24, 5, 0, 1, 6, 7] ((25, .j v3) :: (24, slA Y2 t0) :: (Z2a v2 v3) :: (Z29 t0 t1 v3 v4)) ?_))
  have ⟨x10, hx10, H⟩ := Y0d H
  refine Y0f rfl (.cons (.pur rfl) (.cons (.pur rfl) .nil)) (f_R09_End_ok hx10) (Y3 1 [6, 5, 0, 1, 7] [(6, .j x10), (Z2a v2 v3), (0, slA Y2 t0), (1, .j t1), (7, .j v4)] ?_)
  refine Y1 (Yd ?_)
  have ⟨g11, H⟩ := Ye H
  refine Yb 3 [7, 6, 5, 0, 1] ((7, .j (v4 + 1)) :: (6, .j x10) :: (Z2a v2 v3) :: (Z28 t0 t1)) ⟨g11, trivial⟩ (Y1 ?_)
  exact ⟨(v2 ++ [v3], x10, v4 + 1), H, (StC.mk (phi [(5, some 5)]) (.o rfl (CstL.ims _) .nil) rfl (.i2 (.cons (.s rfl) (.i2 .nil))))⟩
 refine AW.exit ?_
 refine Y0 (Y3 2 [4] [(4, .rsl 5 0 0 v2.length)] ?_)
 refine OpsW.rc [(4, slA (eI .i64) v2)] [] (StC.mk (phi []) .nil rfl (.cons (.frz rfl rfl rfl (frz_all (eI .i64) 1 (fun _ => rfl) v2) (Y05 (eI .i64) 1 (fun _ => rfl) v2) (phi_ne rfl)) .nil)) (Y1 ?_)
 obtain rfl := X5 H
 refine AW.recast (env' := [(4, slA (eI .i64) v2)]) (h' := []) (StC.pure (.cons .im .nil)) (Yk ?_)
 try simp only [Ex.t, Ex.b]
 exact Done.eq rfl (.tmp .nil)
def Y4c  : Option Int :=
 some (4 : Int)
def Y3e (t0 : Int) (v2 : Bool) : Option Int :=
 cond v2 (
  some (2 : Int)) (
  cond (t0 == 4) (
   some (3 : Int)) (
   Y4c))
def Y2w (t0 : Int) : Option Int :=
 cond (t0 == 5) (
  some (1 : Int)) (
  cond (t0 == 2) (
   Y3e t0 (t0 == 2)) (
   Y3e t0 (t0 == 3)))
theorem Y5f  {t0 : Int} {r : Int} (H : Y2w t0 = some r) : QSpec Tryd.prog 80 [.int .i64 t0] (.int .i64 r) := by
 refine Yh Tryd.func80 rfl (by simp [Tryd.ntmps80]) ?_
 rw [Tryd.ntmps80]
 unfold Y2w at H
 change AW _ _ _ [(0, .j t0)] [] _
 refine Y0 (Y3 1 [0] [(0, .j t0)] ?_)
 refine Y1 ?_
 refine Y0w (fun (y : Unit) => Y4c) r (fun (y : Unit) => []) (fun (y : Unit) => []) ?_ ?_
 ·refine Y0 (Y3 1 [3] [(3, .j t0)] ?_)
  refine Y1 (Yp (Y0 (Y3 2 [4, 3] [(4, .bool (t0 == 5)), (3, .j t0)] ?_)))
  refine Y1 (Y6 (b := t0 == 5) H rfl (fun c1 H => ?_) (fun c1 H => ?_))
  ·refine Y0 (Y3 1 [2] [(2, .j (1 : Int))] ?_)
   refine Y1 ?_
   obtain rfl := X5 H
   refine AW.recast (env' := [(2, .j (1 : Int))]) (h' := []) (StC.pure (.cons .im .nil)) (Yk ?_)
   try simp only [Ex.t, Ex.b]
   exact Done.eq rfl (.tmp .nil)
  refine Y0w (fun (y : Bool) => Y3e t0 y) r (fun (y : Bool) => [(3, .j t0), (6, .bool y)]) (fun (y : Bool) => []) ?_ ?_
  ·refine Y0 (Y3 2 [6, 3] [(6, .bool (t0 == 2)), (3, .j t0)] ?_)
   refine Y1 (Y6 (b := t0 == 2) H rfl (fun c5 H => ?_) (fun c5 H => ?_))
   ·refine Ya ?_
    exact ⟨t0 == 2, H, (StC.pure (.i2 .nil))⟩
   refine Yd (Y3 2 [6, 3] [(6, .bool (t0 == 3)), (3, .j t0)] ?_)
   refine Y1 ?_
   exact ⟨t0 == 3, H, (StC.pure (.i2 .nil))⟩
  intro v2 H
  unfold Y3e at H
  change AW _ _ _ [(3, .j t0), (6, .bool v2)] [] _
  refine Y6 (b := v2) H rfl (fun c3 H => ?_) (fun c3 H => ?_)
  ·refine Y0 (Y3 1 [2] [(2, .j (2 : Int))] ?_)
   refine Y1 ?_
   obtain rfl := X5 H
   refine AW.recast (env' := [(2, .j (2 : Int))]) (h' := []) (StC.pure (.cons .im .nil)) (Yk ?_)
   try simp only [Ex.t, Ex.b]
   exact Done.eq rfl (.tmp .nil)
  refine Y0 (Y3 2 [9] [(9, .bool (t0 == 4))] ?_)
  refine Y1 (Y6 (b := t0 == 4) H rfl (fun c4 H => ?_) (fun c4 H => ?_))
  ·refine Y0 (Y3 1 [2] [(2, .j (3 : Int))] ?_)
   refine Y1 ?_
   obtain rfl := X5 H
   refine AW.recast (env' := [(2, .j (3 : Int))]) (h' := []) (StC.pure (.cons .im .nil)) (Yk ?_)
   try simp only [Ex.t, Ex.b]
   exact Done.eq rfl (.tmp .nil)
  refine Ya ?_
  exact ⟨(), H, (StC.pure .nil)⟩
 rintro ⟨⟩ H
 unfold Y4c at H
 change AW _ _ _ [] [] _
 refine Y0 (Y3 1 [2] [(2, .j (4 : Int))] ?_)
 refine Y1 ?_
 obtain rfl := X5 H
 refine AW.recast (env' := [(2, .j (4 : Int))]) (h' := []) (StC.pure (.cons .im .nil)) (Yk ?_)
 try simp only [Ex.t, Ex.b]
 exact Done.eq rfl (.tmp .nil)
def Y4k  : Option Bool :=
 some true
def Y20 (t0 : List Y4) (x1 : List Int) (loop14 : (Int) → Option Bool) (v13 : Int) : Option Bool :=
 cond (decide (v13 < (x1.length : Int))) (
  G (0 ≤ v13 ∧ v13 < (x1.length : Int)) <|
  G (0 ≤ (x1.getD v13.toNat 0) ∧ (x1.getD v13.toNat 0) < (t0.length : Int)) <|
  cond (((t0.getD (x1.getD v13.toNat 0).toNat Y7).Op) != 0) (
   some false) (
   G (inR (v13 + 1)) <|
   loop14 (v13 + 1))) (
  Y4k)
def Y1e (t0 : List Y4) (t1 : Int) (x1 : List Int) (v3 : Bool) : Option Bool :=
 cond v3 (
  (Y2w ((t0.getD t1.toNat Y7).Op)).bind fun x5 =>
  G (0 ≤ (0 : Int) ∧ (0 : Int) < (x1.length : Int)) <|
  G (0 ≤ (x1.getD (0 : Int).toNat (0 : Int)) ∧ (x1.getD (0 : Int).toNat (0 : Int)) < (t0.length : Int)) <|
  (Y2w ((t0.getD (x1.getD (0 : Int).toNat (0 : Int)).toNat Y7).Op)).bind fun x8 =>
  G ((decide (x5 ≤ x8)) = true → (0 ≤ (1 : Int) ∧ (1 : Int) < (x1.length : Int))) <|
  G ((decide (x5 ≤ x8)) = true → (0 ≤ (x1.getD (1 : Int).toNat (0 : Int)) ∧ (x1.getD (1 : Int).toNat (0 : Int)) < (t0.length : Int))) <|
  (cond (decide (x5 ≤ x8)) (Y2w ((t0.getD (x1.getD (1 : Int).toNat (0 : Int)).toNat Y7).Op)) (some (0 : Int))).bind fun x11 =>
  some (cond (decide (x5 ≤ x8)) (decide (x5 < x11)) false)) (
  cond (((t0.getD t1.toNat Y7).Op) == 12) (
   iter (fun loop (s : Int) => Y20 t0 x1 loop s) 1000000 (0 : Int)) (
   Y4k))
def Y3r (t0 : List Y4) (t1 : Int) : Option Bool :=
 (Y2q t0 t1).bind fun x1 =>
 G (0 ≤ t1 ∧ t1 < (t0.length : Int)) <|
 cond (((t0.getD t1.toNat Y7).Op) == 2) (
  Y1e t0 t1 x1 (((t0.getD t1.toNat Y7).Op) == 2)) (
  cond (((t0.getD t1.toNat Y7).Op) == 3) (
   Y1e t0 t1 x1 (((t0.getD t1.toNat Y7).Op) == 3)) (
   cond (((t0.getD t1.toNat Y7).Op) == 4) (
    Y1e t0 t1 x1 (((t0.getD t1.toNat Y7).Op) == 4)) (
    Y1e t0 t1 x1 (((t0.getD t1.toNat Y7).Op) == 5))))
section
variable (t0 : List Y4) (t1 : Int) (v13 : Int) (x1 : List Int)
abbrev Z2f := (t0.getD t1.toNat Y7).Op
abbrev Z2g := (x1.getD (1 : Int).toNat (0 : Int))
abbrev Z2h : Nat × AV := (5, slA (eI .i64) x1)
abbrev Z2i := (t0.getD (x1.getD v13.toNat 0).toNat Y7).Op
abbrev Z2j := (x1.getD (0 : Int).toNat (0 : Int))
abbrev Z2b : Env := [(15, .j (Z2f t0 t1)), (Z2h x1), (0, slA Y2 t0), (1, .j t1)]
abbrev Z2c : Env := [(0, slA Y2 t0), (Z2h x1)]
abbrev Z2d : Env := [(0, slA Y2 t0), (Z2h x1), (7, .j v13)]
abbrev Z2e : Env := [(0, slA Y2 t0), (1, .j t1)]
end
theorem f_R09_sound_ok  {t0 : List Y4} {t1 : Int} {r : Bool} (H : Y3r t0 t1 = some r) : QSpec Tryd.prog 53 [slA Y2 t0, .int .i64 t1] (.bool r) := by
 refine Yh Tryd.func53 rfl (by simp [Tryd.ntmps53]) ?_
 rw [Tryd.ntmps53]
 unfold Y3r at H
 change AW _ _ _ (Z2e t0 t1) [] _
 refine Y0 (Y3 1 [0, 1] (Z2e t0 t1) ?_)
 refine Y1 (Y0 (Y3 2 [9, 8, 0, 1] ((9, .j t1) :: (8, slA Y2 t0) :: (Z2e t0 t1)) ?_))
 have ⟨x1, hx1, H⟩ := Y0d H
 refine Y0f rfl (.cons (.pur rfl) (.cons (.pur rfl) .nil)) (f_R09_Operands_ok hx1) (Y3 1 [5, 0, 1] ((Z2h x1) :: (Z2e t0 t1)) (Y1 ?_))
 refine Y0w (fun (y : Unit) => Y4k) r (fun (y : Unit) => []) (fun (y : Unit) => []) ?_ ?_
 ·refine Y0 ?_
  have ⟨g2, H⟩ := Ye H
  refine Yb 4 [14, 5, 0, 1] ((14, .ipt (t0.flatMap Y2) (t1.toNat * 2 + 0)) :: (Z2h x1) :: (Z2e t0 t1)) ⟨g2, trivial⟩ (OpsW.asU (.j (Z2f t0 t1)) rfl rfl (T.load rfl trivial (by kernel_rfl) (fm_cell Y2 2 (fun _ => rfl) t0 Y7 t1.toNat (ltN g2) 0 (fun a => .val (.j a.Op)) (fun _ => rfl))) (Y3 0 [15, 5, 0, 1] (Z2b t0 t1 x1) ?_))
  refine Y1 (Yp ?_)
  refine Y0w (fun (y : Bool) => Y1e t0 t1 x1 y) r (fun (y : Bool) => [(0, slA Y2 t0), (1, .j t1), (Z2h x1), (15, .j (Z2f t0 t1)), (16, .bool y)]) (fun (y : Bool) => []) ?_ ?_
  ·refine Y0 (Y3 2 [16, 15, 5, 0, 1] ((16, .bool ((Z2f t0 t1) == 2)) :: (Z2b t0 t1 x1)) ?_)
   refine Y1 (Y6 (b := (Z2f t0 t1) == 2) H rfl (fun c20 H => ?_) (fun c20 H => ?_))
   ·refine Ya ?_
    exact ⟨(Z2f t0 t1) == 2, H, (StC.pure (.i5 .nil))⟩
   refine Y0 (Y3 2 [16, 15, 5, 0, 1] ((16, .bool ((Z2f t0 t1) == 3)) :: (Z2b t0 t1 x1)) ?_)
   refine Y1 (Y6 (b := (Z2f t0 t1) == 3) H rfl (fun c21 H => ?_) (fun c21 H => ?_))
   ·refine Ya ?_
    exact ⟨(Z2f t0 t1) == 3, H, (StC.pure (.i5 .nil))⟩
   refine Y0 (Y3 2 [16, 15, 5, 0, 1] ((16, .bool ((Z2f t0 t1) == 4)) :: (Z2b t0 t1 x1)) ?_)
   refine Y1 (Y6 (b := (Z2f t0 t1) == 4) H rfl (fun c22 H => ?_) (fun c22 H => ?_))
   ·refine Ya ?_
    exact ⟨(Z2f t0 t1) == 4, H, (StC.pure (.i5 .nil))⟩
   refine Yd (Y3 2 [16, 15, 5, 0, 1] ((16, .bool ((Z2f t0 t1) == 5)) :: (Z2b t0 t1 x1)) ?_)
   refine Y1 ?_
   exact ⟨(Z2f t0 t1) == 5, H, (StC.pure (.i5 .nil))⟩
  intro v3 H
  unfold Y1e at H
  change AW _ _ _ [(0, slA Y2 t0), (1, .j t1), (Z2h x1), (15, .j (Z2f t0 t1)), (16, .bool v3)] [] _
  refine Y6 (b := v3) H rfl (fun c4 H => ?_) (fun c4 H => ?_)
  ·refine Y0 (Yb 4 [24, 0, 5] ((24, .ipt (t0.flatMap Y2) (t1.toNat * 2 + 0)) :: (Z2c t0 x1)) ⟨g2, trivial⟩ ?_)
   refine OpsW.asU (.j (Z2f t0 t1)) rfl rfl (T.load rfl trivial (by kernel_rfl) (fm_cell Y2 2 (fun _ => rfl) t0 Y7 t1.toNat (ltN g2) 0 (fun a => .val (.j a.Op)) (fun _ => rfl))) ?_
   have ⟨x5, hx5, H⟩ := Y0d H
   refine Y0f rfl (.cons (.pur rfl) .nil) (Y5f hx5) (Y3 1 [6, 0, 5] ((6, .j x5) :: (Z2c t0 x1)) ?_)
   refine Y1 (Y0 ?_)
   have ⟨g6, H⟩ := Ye H
   refine Yb 3 [29, 27, 6, 0, 5] ((29, .ipt (x1.flatMap (eI .i64)) ((0 : Int).toNat * 1)) :: (27, slA Y2 t0) :: (6, .j x5) :: (Z2c t0 x1)) ⟨g6, trivial⟩ (OpsW.asU (.j (Z2j x1)) rfl rfl (T.load rfl trivial (by kernel_rfl) (Y2l (eI .i64) 1 (fun _ => rfl) x1 (0 : Int) (0 : Int).toNat (ltN g6) (fun a => .val (.j a)) (fun _ => rfl))) ?_)
   have ⟨g7, H⟩ := Ye H
   refine Yb 2 [32, 6, 0, 5] ((32, .ipt (t0.flatMap Y2) ((Z2j x1).toNat * 2 + 0)) :: (6, .j x5) :: (Z2c t0 x1)) ⟨g7, trivial⟩ (OpsW.asU (.j ((t0.getD (x1.getD (0 : Int).toNat (0 : Int)).toNat Y7).Op)) rfl rfl (T.load rfl trivial (by kernel_rfl) (fm_cell Y2 2 (fun _ => rfl) t0 Y7 (Z2j x1).toNat (ltN g7) 0 (fun a => .val (.j a.Op)) (fun _ => rfl))) ?_)
   have ⟨x8, hx8, H⟩ := Y0d H
   refine Y0f rfl (.cons (.pur rfl) .nil) (Y5f hx8) ?_
   have ⟨g9, H⟩ := Ye H
   refine Yb 6 [40, 38, 37, 6] [(40, .cnd (decide (x5 ≤ x8)) (.ipt (x1.flatMap (eI .i64)) ((1 : Int).toNat * 1))), (38, .cnd (decide (x5 ≤ x8)) (slA Y2 t0)), (37, .bool (decide (x5 ≤ x8))), (6, .j x5)] ⟨(fun h => h), g9, trivial⟩ (OpsW.asG (c := decide (x5 ≤ x8)) (.j (Z2g x1)) rfl rfl rfl rfl (fun hc => T.load rfl hc (by kernel_rfl) (Y2l (eI .i64) 1 (fun _ => rfl) x1 (0 : Int) (1 : Int).toNat (ltN (g9 hc)) (fun a => .val (.j a)) (fun _ => rfl))) ?_)
   have ⟨g10, H⟩ := Ye H
   refine Yb 2 [43, 37, 6] [(43, .cnd (decide (x5 ≤ x8)) (.ipt (t0.flatMap Y2) ((Z2g x1).toNat * 2 + 0))), (37, .bool (decide (x5 ≤ x8))), (6, .j x5)] ⟨(fun h => h), (fun h => h), g10, (fun h => h), trivial⟩ (OpsW.asG (c := decide (x5 ≤ x8)) (.j ((t0.getD (Z2g x1).toNat Y7).Op)) rfl rfl rfl rfl (fun hc => T.load rfl hc (by kernel_rfl) (fm_cell Y2 2 (fun _ => rfl) t0 Y7 (Z2g x1).toNat (ltN (g10 hc)) 0 (fun a => .val (.j a.Op)) (fun _ => rfl))) ?_)
   have ⟨x11, hx11, H⟩ := Y0d H
   refine OpsW.gcall (c := decide (x5 ≤ x8)) (r := .j x11) [] rfl (by kernel_rfl) rfl rfl rfl rfl (fun hc => ⟨Yc ⟨hc, trivial⟩, (.cons (.pur rfl) .nil), Y5f (condT hc hx11), .inl ⟨rfl, rfl⟩⟩) (Yb 4 [4] [(4, .bool (cond (decide (x5 ≤ x8)) (decide (x5 < x11)) false))] ⟨(fun h => h), (fun h => h), (fun h => by first | exact h | (simpa using h) | grind), trivial⟩ (Y1 ?_))
   obtain rfl := X5 H
   refine AW.recast (env' := [(4, .bool (cond (decide (x5 ≤ x8)) (decide (x5 < x11)) false))]) (h' := []) (StC.pure (.cons .im .nil)) (Yk ?_)
   try simp only [Ex.t, Ex.b]
   exact Done.eq rfl (.tmp .nil)
  refine Y0 (Y3 2 [49, 0, 5] ((49, .bool ((Z2f t0 t1) == 12)) :: (Z2c t0 x1)) ?_)
  refine Y1 (Y6 (b := (Z2f t0 t1) == 12) H rfl (fun c12 H => ?_) (fun c12 H => ?_))
  ·refine Y0 (Y3 1 [7, 0, 5] ((7, .j (0 : Int)) :: (Z2c t0 x1)) ?_)
   refine Y1 (Yp ?_)
   refine Y25 (fun loop (s : Int) => Y20 t0 x1 loop s) r (fun (s : Int) => [(0, slA Y2 t0), (Z2h x1), (7, .j s)]) (fun (s : Int) => []) ?_ 1000000 (0 : Int) H (StC.pure (.i3 .nil))
   intro loop14 v13 H
   unfold Y20 at H
   change AW _ _ _ (Z2d t0 v13 x1) [] _
   refine Ys (Y0 (Y3 4 [54, 0, 5, 7] ((54, .bool (decide (v13 < (x1.length : Int)))) :: (Z2d t0 v13 x1)) ?_))
   refine Y1 (Y6 (b := decide (v13 < (x1.length : Int))) H rfl (fun c15 H => ?_) (fun c15 H => ?_))
   ·refine Ya (Ys (Yp (Y0 ?_)))
    have ⟨g16, H⟩ := Ye H
    refine Yb 4 [60, 57, 0, 5, 7] ((60, .ipt (x1.flatMap (eI .i64)) (v13.toNat * 1)) :: (57, slA Y2 t0) :: (Z2d t0 v13 x1)) ⟨g16, trivial⟩ (OpsW.asU (.j (x1.getD v13.toNat 0)) rfl rfl (T.load rfl trivial (by kernel_rfl) (Y2l (eI .i64) 1 (fun _ => rfl) x1 (0 : Int) v13.toNat (ltN g16) (fun a => .val (.j a)) (fun _ => rfl))) ?_)
    have ⟨g17, H⟩ := Ye H
    refine Yb 2 [63, 0, 5, 7] ((63, .ipt (t0.flatMap Y2) ((x1.getD v13.toNat 0).toNat * 2 + 0)) :: (Z2d t0 v13 x1)) ⟨g17, trivial⟩ (OpsW.asU (.j (Z2i t0 v13 x1)) rfl rfl (T.load rfl trivial (by kernel_rfl) (fm_cell Y2 2 (fun _ => rfl) t0 Y7 (x1.getD v13.toNat 0).toNat (ltN g17) 0 (fun a => .val (.j a.Op)) (fun _ => rfl))) (Y3 1 [65, 0, 5, 7] ((65, .bool ((Z2i t0 v13 x1) != 0)) :: (Z2d t0 v13 x1)) (Y1 (Y6 (b := (Z2i t0 v13 x1) != 0) H rfl (fun c18 H => ?_) (fun c18 H => ?_)))))
    ·refine Y0 (Y3 1 [4] [(4, .bool false)] ?_)
     refine Y1 ?_
     obtain rfl := X5 H
     refine AW.recast (env' := [(4, .bool false)]) (h' := []) (StC.pure (.cons .im .nil)) (Yk ?_)
     try simp only [Ex.t, Ex.b]
     exact Done.eq rfl (.tmp .nil)
    refine Ya (Yd ?_)
    have ⟨g19, H⟩ := Ye H
    refine Yb 3 [7, 0, 5] ((7, .j (v13 + 1)) :: (Z2c t0 x1)) ⟨g19, trivial⟩ (Y1 ?_)
    exact ⟨v13 + 1, H, (StC.pure (.i3 .nil))⟩
   refine AW.exit ?_
   exact ⟨(), H, (StC.pure .nil)⟩
  refine Ya ?_
  exact ⟨(), H, (StC.pure .nil)⟩
 rintro ⟨⟩ H
 unfold Y4k at H
 change AW _ _ _ [] [] _
 refine Y0 (Y3 1 [4] [(4, .bool true)] ?_)
 refine Y1 ?_
 obtain rfl := X5 H
 refine AW.recast (env' := [(4, .bool true)]) (h' := []) (StC.pure (.cons .im .nil)) (Yk ?_)
 try simp only [Ex.t, Ex.b]
 exact Done.eq rfl (.tmp .nil)
end Go.Proofs.YtioockkejhpleaaDoor
