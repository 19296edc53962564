/-
  Written by gen.py (own work): typed functions, and that the program computes them.
-/
import Derived.Test.YtbcfmhoaocifoaaDoorW6
set_option linter.unusedSimpArgs false
set_option linter.unusedVariables false
set_option maxRecDepth 100000
namespace Go.Proofs.YtbcfmhoaocifoaaDoor
open Go.Abs
def f_R25_rows_b1 (t0 : List (List Bool)) (t1 : Int) (t2 : Int) (loop3 : (Int) → Option Bool) (v2 : Int) : Option Bool :=
  cond (decide (v2 < t2)) (
    G (0 ≤ v2 ∧ v2 < (t0.length : Int)) <|
    cond (((t0.getD v2.toNat []).length : Int) != t1) (
      some false) (
      G (inR (v2 + (1 : Int))) <|
      loop3 (v2 + (1 : Int)))) (
    some true)
def f_R25_rows (t0 : List (List Bool)) (t1 : Int) (t2 : Int) : Option Bool :=
  cond ((t0.length : Int) != t2) (
    some false) (
    iter (fun loop (s : Int) => f_R25_rows_b1 t0 t1 t2 loop s) 1000000 (0 : Int))
theorem f_R25_rows_ok  {t0 : List (List Bool)} {t1 : Int} {t2 : Int} {r : Bool} (H : f_R25_rows t0 t1 t2 = some r) : QSpec Tryd.prog 37 [slA (eL eB) t0, .int .i64 t1, .int .i64 t2] (.bool r) := by
  refine Spec.of_AW Tryd.func37 rfl (by simp [Tryd.ntmps37]) ?_
  rw [Tryd.ntmps37]
  unfold f_R25_rows at H
  change AW _ _ _ [(0, slA (eL eB) t0), (1, .int .i64 t1), (2, .int .i64 t2)] [] _
  refine AW.regionSeq ?_
  refine OpsW.seg 1 [0, 1, 2] [] [(0, slA (eL eB) t0), (1, .int .i64 t1), (2, .int .i64 t2)] (by kernel_rfl) trivial ?_
  refine OpsW.nil ?_
  refine AW.seq ?_
  refine AW.regionSeq ?_
  refine OpsW.seg 4 [11, 0, 1, 2] [] [(11, .bool ((t0.length : Int) != t2)), (0, slA (eL eB) t0), (1, .int .i64 t1), (2, .int .i64 t2)] (by kernel_rfl) trivial ?_
  refine OpsW.nil ?_
  refine AW.cond (b := (t0.length : Int) != t2) rfl (fun c1 => ?_) (fun c1 => ?_)
  · replace H := condT c1 H
    refine AW.regionSeq ?_
    refine OpsW.seg 1 [6] [] [(6, .bool false)] (by kernel_rfl) trivial ?_
    refine OpsW.nil ?_
    obtain rfl := Option.some.inj H
    refine AW.recast (env' := [(6, .bool false)]) (h' := []) (StC.pure (.cons .im .nil)) ?_
    refine AW.ret ?_
    try simp only [Ex.then, Ex.inBlock, Ex.noGoto, Ex.jump, reduceIte, Nat.reduceEqDiff, reduceCtorEq]
    refine Done.gen rfl (.tmp .nil) ?_
    show _ = _
    kernel_rfl
  · replace H := condF c1 H
    refine AW.skip ?_
    refine AW.seq ?_
    refine AW.regionSeq ?_
    refine OpsW.seg 1 [7, 0, 1, 2] [] [(7, .int .i64 0), (0, slA (eL eB) t0), (1, .int .i64 t1), (2, .int .i64 t2)] (by kernel_rfl) trivial ?_
    refine OpsW.nil ?_
    refine AW.block ?_
    refine AW.iterK (fun loop (s : Int) => f_R25_rows_b1 t0 t1 t2 loop s) r (fun (s : Int) => [(0, slA (eL eB) t0), (1, .int .i64 t1), (2, .int .i64 t2), (7, .int .i64 s)]) (fun (s : Int) => []) ?_ 1000000 (0 : Int) H (StC.pure (.i4 .nil))
    intro loop3 v2 H
    change f_R25_rows_b1 t0 t1 t2 loop3 v2 = some r at H
    unfold f_R25_rows_b1 at H
    change AW _ _ _ [(0, slA (eL eB) t0), (1, .int .i64 t1), (2, .int .i64 t2), (7, .int .i64 v2)] [] _
    refine AW.seq ?_
    refine AW.regionSeq ?_
    refine OpsW.seg 3 [14, 0, 1, 2, 7] [] [(14, .bool (decide (v2 < t2))), (0, slA (eL eB) t0), (1, .int .i64 t1), (2, .int .i64 t2), (7, .int .i64 v2)] (by kernel_rfl) trivial ?_
    refine OpsW.nil ?_
    refine AW.cond (b := decide (v2 < t2)) rfl (fun c4 => ?_) (fun c4 => ?_)
    · replace H := condT c4 H
      refine AW.skip ?_
      refine AW.seq ?_
      refine AW.block ?_
      refine AW.regionSeq ?_
      obtain ⟨g5, H⟩ := G_some H
      refine OpsW.seg 3 [19, 0, 1, 2, 7] [0 ≤ v2 ∧ v2 < (t0.length : Int)] [(19, .ipt (t0.flatMap (eL eB)) (v2.toNat * 1)), (0, slA (eL eB) t0), (1, .int .i64 t1), (2, .int .i64 t2), (7, .int .i64 v2)] (by kernel_rfl) ⟨g5, trivial⟩ ?_
      refine OpsW.asU (slA eB (t0.getD v2.toNat [])) rfl rfl (T.load rfl trivial (by kernel_rfl) (fm_cell0 (eL eB) 1 (fun _ => rfl) t0 [] v2.toNat (ltN g5) (fun a => .sl (a.flatMap eB) a.length) (fun _ => rfl))) ?_
      refine OpsW.seg 3 [23, 0, 1, 2, 7] [] [(23, .bool (((t0.getD v2.toNat []).length : Int) != t1)), (0, slA (eL eB) t0), (1, .int .i64 t1), (2, .int .i64 t2), (7, .int .i64 v2)] (by kernel_rfl) trivial ?_
      refine OpsW.nil ?_
      refine AW.cond (b := ((t0.getD v2.toNat []).length : Int) != t1) rfl (fun c6 => ?_) (fun c6 => ?_)
      · replace H := condT c6 H
        refine AW.regionSeq ?_
        refine OpsW.seg 1 [6] [] [(6, .bool false)] (by kernel_rfl) trivial ?_
        refine OpsW.nil ?_
        obtain rfl := Option.some.inj H
        refine AW.recast (env' := [(6, .bool false)]) (h' := []) (StC.pure (.cons .im .nil)) ?_
        refine AW.ret ?_
        try simp only [Ex.then, Ex.inBlock, Ex.noGoto, Ex.jump, reduceIte, Nat.reduceEqDiff, reduceCtorEq]
        refine Done.gen rfl (.tmp .nil) ?_
        show _ = _
        kernel_rfl
      · replace H := condF c6 H
        refine AW.skip ?_
        refine AW.region ?_
        obtain ⟨g7, H⟩ := G_some H
        refine OpsW.seg 3 [7, 0, 1, 2] [inR (v2 + 1)] [(7, .int .i64 (v2 + 1)), (0, slA (eL eB) t0), (1, .int .i64 t1), (2, .int .i64 t2)] (by kernel_rfl) ⟨g7, trivial⟩ ?_
        refine OpsW.nil ?_
        show ∃ y, _ ∧ StC _ _ _ _
        exact ⟨v2 + 1, H, (StC.pure (.i4 .nil))⟩
    · replace H := condF c4 H
      refine AW.exit ?_
      refine AW.regionSeq ?_
      refine OpsW.seg 1 [6] [] [(6, .bool true)] (by kernel_rfl) trivial ?_
      refine OpsW.nil ?_
      obtain rfl := Option.some.inj H
      refine AW.recast (env' := [(6, .bool true)]) (h' := []) (StC.pure (.cons .im .nil)) ?_
      refine AW.ret ?_
      try simp only [Ex.then, Ex.inBlock, Ex.noGoto, Ex.jump, reduceIte, Nat.reduceEqDiff, reduceCtorEq]
      refine Done.gen rfl (.tmp .nil) ?_
      show _ = _
      kernel_rfl
def f_R25_Valid (t0 : S_Plate) : Option Bool :=
  G ((!((Int.tmod t0.W (2 : Int)) != (0 : Int))) = true → inR (Int.tdiv t0.W (2 : Int))) <|
  G ((!(cond ((Int.tmod t0.W (2 : Int)) != (0 : Int)) true (decide ((Int.tdiv t0.W (2 : Int)) < (24 : Int))))) = true → inR (Int.tdiv t0.W (2 : Int))) <|
  G ((!(cond (cond (cond ((Int.tmod t0.W (2 : Int)) != (0 : Int)) true (decide ((Int.tdiv t0.W (2 : Int)) < (24 : Int)))) true (decide ((60 : Int) < (Int.tdiv t0.W (2 : Int))))) true ((Int.tmod t0.H (3 : Int)) != (0 : Int)))) = true → inR (Int.tdiv t0.H (3 : Int))) <|
  G ((!(cond (cond (cond (cond ((Int.tmod t0.W (2 : Int)) != (0 : Int)) true (decide ((Int.tdiv t0.W (2 : Int)) < (24 : Int)))) true (decide ((60 : Int) < (Int.tdiv t0.W (2 : Int))))) true ((Int.tmod t0.H (3 : Int)) != (0 : Int))) true (decide ((Int.tdiv t0.H (3 : Int)) < (4 : Int))))) = true → inR (Int.tdiv t0.H (3 : Int))) <|
  cond (cond (cond (cond (cond (cond ((Int.tmod t0.W (2 : Int)) != (0 : Int)) true (decide ((Int.tdiv t0.W (2 : Int)) < (24 : Int)))) true (decide ((60 : Int) < (Int.tdiv t0.W (2 : Int))))) true ((Int.tmod t0.H (3 : Int)) != (0 : Int))) true (decide ((Int.tdiv t0.H (3 : Int)) < (4 : Int)))) true (decide ((40 : Int) < (Int.tdiv t0.H (3 : Int))))) (
    some false) (
    (f_R25_rows t0.Up t0.W t0.H).bind fun x6 =>
    (cond x6 (f_R25_rows t0.Down t0.W t0.H) (some false)).bind fun x7 =>
    some (cond x6 x7 false))
abbrev qZ6t (t0 : S_Plate)  := (cond (cond ((Int.tmod t0.W (2 : Int)) != 0) true (decide ((Int.tdiv t0.W (2 : Int)) < 24))) true (decide ((60 : Int) < (Int.tdiv t0.W (2 : Int)))))
abbrev qZ6u (t0 : S_Plate)  := (cond (cond (qZ6t t0) true ((Int.tmod t0.H (3 : Int)) != 0)) true (decide ((Int.tdiv t0.H (3 : Int)) < 4)))
abbrev qZ6v (t0 : S_Plate)  := (cond ((Int.tmod t0.W (2 : Int)) != 0) true (decide ((Int.tdiv t0.W (2 : Int)) < 24)))
abbrev qZ6w (t0 : S_Plate)  := (cond (qZ6t t0) true ((Int.tmod t0.H (3 : Int)) != 0))
abbrev qZ6x (t0 : S_Plate)  := (!((Int.tmod t0.W (2 : Int)) != 0))
abbrev qZ6y (t0 : S_Plate) : List AV := [.int .i64 t0.W, .int .i64 t0.H, slA (eL eB) t0.Up, slA (eL eB) t0.Down]
theorem f_R25_Valid_ok  {t0 : S_Plate} {r : Bool} (H : f_R25_Valid t0 = some r) : QSpec Tryd.prog 15 [.agg (qZ6y t0)] (.bool r) := by
  refine Spec.of_AW Tryd.func15 rfl (by simp [Tryd.ntmps15]) ?_
  rw [Tryd.ntmps15]
  unfold f_R25_Valid at H
  change AW _ _ _ [(0, .agg (qZ6y t0))] [] _
  refine AW.regionSeq ?_
  refine OpsW.box rfl rfl rfl 1 rfl (okCb_sound (by kernel_rfl)) ?_
  change OpsW _ _ _ _ _ [(1, ⟨0, true, 47, 4, (qZ6y t0)⟩)] _
  refine OpsW.seg 1 [1] [] [(1, .ref 1 0 0)] (by kernel_rfl) trivial ?_
  refine OpsW.recast (env' := [(1, .ref 1 0 0)]) (h' := [(1, ⟨0, true, 47, 4, (qZ6y t0)⟩)]) (StC.mk (phi [(1, some 1)]) (.old rfl rfl rfl rfl rfl (.i4 .nil) .nil) rfl (.cons (.ref rfl rfl rfl rfl rfl) .nil)) ?_
  refine OpsW.nil ?_
  refine AW.seq ?_
  refine AW.regionSeq ?_
  obtain ⟨g1, H⟩ := G_some H
  obtain ⟨g2, H⟩ := G_some H
  obtain ⟨g3, H⟩ := G_some H
  obtain ⟨g4, H⟩ := G_some H
  refine OpsW.seg 34 [36, 1] [(2 : Int) ≠ 0, (qZ6x t0) = true → (qZ6x t0) = true, (qZ6x t0) = true → (qZ6x t0) = true, (qZ6x t0) = true → (2 : Int) ≠ 0, (qZ6x t0) = true → inR (Int.tdiv t0.W (2 : Int)), (qZ6x t0) = true → (qZ6x t0) = true, ((Int.tmod t0.W (2 : Int)) != 0) = false → (qZ6x t0) = true, (!(qZ6v t0)) = true → (!(qZ6v t0)) = true, (!(qZ6v t0)) = true → (!(qZ6v t0)) = true, (!(qZ6v t0)) = true → (2 : Int) ≠ 0, (!(qZ6v t0)) = true → inR (Int.tdiv t0.W (2 : Int)), (!(qZ6v t0)) = true → (!(qZ6v t0)) = true, (qZ6v t0) = false → (!(qZ6v t0)) = true, (!(qZ6t t0)) = true → (!(qZ6t t0)) = true, (!(qZ6t t0)) = true → (!(qZ6t t0)) = true, (!(qZ6t t0)) = true → (3 : Int) ≠ 0, (!(qZ6t t0)) = true → (!(qZ6t t0)) = true, (qZ6t t0) = false → (!(qZ6t t0)) = true, (!(qZ6w t0)) = true → (!(qZ6w t0)) = true, (!(qZ6w t0)) = true → (!(qZ6w t0)) = true, (!(qZ6w t0)) = true → (3 : Int) ≠ 0, (!(qZ6w t0)) = true → inR (Int.tdiv t0.H (3 : Int)), (!(qZ6w t0)) = true → (!(qZ6w t0)) = true, (qZ6w t0) = false → (!(qZ6w t0)) = true, (!(qZ6u t0)) = true → (!(qZ6u t0)) = true, (!(qZ6u t0)) = true → (!(qZ6u t0)) = true, (!(qZ6u t0)) = true → (3 : Int) ≠ 0, (!(qZ6u t0)) = true → inR (Int.tdiv t0.H (3 : Int)), (!(qZ6u t0)) = true → (!(qZ6u t0)) = true, (qZ6u t0) = false → (!(qZ6u t0)) = true] [(36, .bool (cond (qZ6u t0) true (decide ((40 : Int) < (Int.tdiv t0.H (3 : Int)))))), (1, .ref 1 0 0)] (by kernel_rfl) ⟨(by decide), (fun h => h), (fun h => h), (fun _ => by decide), g1, (fun h => h), (fun h => by first | exact h | (simpa using h) | grind), (fun h => h), (fun h => h), (fun _ => by decide), g2, (fun h => h), (fun h => by first | exact h | (simpa using h) | grind), (fun h => h), (fun h => h), (fun _ => by decide), (fun h => h), (fun h => by first | exact h | (simpa using h) | grind), (fun h => h), (fun h => h), (fun _ => by decide), g3, (fun h => h), (fun h => by first | exact h | (simpa using h) | grind), (fun h => h), (fun h => h), (fun _ => by decide), g4, (fun h => h), (fun h => by first | exact h | (simpa using h) | grind), trivial⟩ ?_
  refine OpsW.nil ?_
  refine AW.cond (b := cond (qZ6u t0) true (decide ((40 : Int) < (Int.tdiv t0.H (3 : Int))))) rfl (fun c5 => ?_) (fun c5 => ?_)
  · replace H := condT c5 H
    refine AW.regionSeq ?_
    refine OpsW.seg 1 [2] [] [(2, .bool false)] (by kernel_rfl) trivial ?_
    refine OpsW.nil ?_
    obtain rfl := Option.some.inj H
    refine AW.recast (env' := [(2, .bool false)]) (h' := []) (StC.pure (.cons .im .nil)) ?_
    refine AW.ret ?_
    try simp only [Ex.then, Ex.inBlock, Ex.noGoto, Ex.jump, reduceIte, Nat.reduceEqDiff, reduceCtorEq]
    refine Done.gen rfl (.tmp .nil) ?_
    show _ = _
    kernel_rfl
  · replace H := condF c5 H
    refine AW.skip ?_
    refine AW.regionSeq ?_
    refine OpsW.seg 6 [42, 40, 38, 1] [] [(42, .int .i64 t0.H), (40, .int .i64 t0.W), (38, slA (eL eB) t0.Up), (1, .ref 1 0 0)] (by kernel_rfl) trivial ?_
    obtain ⟨x6, hx6, H⟩ := bindS H
    refine OpsW.qcall rfl (by kernel_rfl) rfl rfl (glAll_sound trivial) (.cons (.pur rfl) (.cons (.pur rfl) (.cons (.pur rfl) .nil))) (f_R25_rows_ok hx6) rfl ?_
    refine OpsW.seg 7 [50, 48, 46, 44] [x6 = true → x6 = true, x6 = true → x6 = true, x6 = true → x6 = true] [(50, .cnd x6 (.int .i64 t0.H)), (48, .cnd x6 (.int .i64 t0.W)), (46, .cnd x6 (slA (eL eB) t0.Down)), (44, .bool x6)] (by kernel_rfl) ⟨(fun h => h), (fun h => h), (fun h => h), trivial⟩ ?_
    obtain ⟨x7, hx7, H⟩ := bindS H
    refine OpsW.gcall (c := x6) (r := .bool x7) [] rfl (by kernel_rfl) rfl rfl rfl rfl (fun hc => ⟨glAll_sound ⟨hc, hc, hc, trivial⟩, (.cons (.pur rfl) (.cons (.pur rfl) (.cons (.pur rfl) .nil))), f_R25_rows_ok (condT hc hx7), .inl ⟨rfl, rfl⟩⟩) ?_
    refine OpsW.seg 2 [2] [x6 = true → x6 = true] [(2, .bool (cond x6 x7 false))] (by kernel_rfl) ⟨(fun h => by first | exact h | (simpa using h) | grind), trivial⟩ ?_
    refine OpsW.nil ?_
    obtain rfl := Option.some.inj H
    refine AW.recast (env' := [(2, .bool (cond x6 x7 false))]) (h' := []) (StC.pure (.cons .im .nil)) ?_
    refine AW.ret ?_
    try simp only [Ex.then, Ex.inBlock, Ex.noGoto, Ex.jump, reduceIte, Nat.reduceEqDiff, reduceCtorEq]
    refine Done.gen rfl (.tmp .nil) ?_
    show _ = _
    kernel_rfl
def f_L25_SheetReads (t0 : S_Raw) : Option Bool :=
  (f_L25_sanity).bind fun x1 =>
  (f_R25_Format t0).bind fun x2 =>
  (f_R25_Pages t0).bind fun x3 =>
  (f_sheet_Press x3 x2).bind fun x4 =>
  (cond (!(x4.2 != (0 : Int))) (f_R25_Valid x4.1) (some false)).bind fun x5 =>
  G ((!(cond (x4.2 != (0 : Int)) true (!x5))) = true → inR ((2 : Int) * x2.Width)) <|
  G ((!(cond (cond (x4.2 != (0 : Int)) true (!x5)) true (x4.1.W != ((2 : Int) * x2.Width)))) = true → inR ((3 : Int) * x2.Height)) <|
  cond (cond (cond (cond (x4.2 != (0 : Int)) true (!x5)) true (x4.1.W != ((2 : Int) * x2.Width))) true (x4.1.H != ((3 : Int) * x2.Height))) (
    some false) (
    (cond x1 (f_sheet_Valid x4.1) (some false)).bind fun x9 =>
    (cond (cond x1 x9 false) (f_sheet_Front x4.1) (some [])).bind fun x10 =>
    (cond (cond x1 x9 false) (f_R25_SamePage x10 x3.Front) (some false)).bind fun x11 =>
    (cond (cond (cond x1 x9 false) x11 false) (f_sheet_Back x4.1) (some [])).bind fun x12 =>
    (cond (cond (cond x1 x9 false) x11 false) (f_R25_SamePage x12 x3.Back) (some false)).bind fun x13 =>
    some (cond (cond (cond x1 x9 false) x11 false) x13 false))
abbrev qZ6z (t0 : S_Raw) : List AV := [.int .u8 t0.W, .int .u8 t0.H, slA (eL (eI .u8)) t0.Front, slA (eL (eI .u8)) t0.Back, .int .u8 t0.Head.Width, .int .u16 t0.Head.N, .int .u8 t0.Head.K, .bool t0.Head.Back, .int .u16 t0.Head.Ink, .int .u8 t0.Head.Part]
abbrev qZ70 (x4 : (S_Plate × Int)) : List AV := [.int .i64 x4.1.W, .int .i64 x4.1.H, slA (eL eB) x4.1.Up, slA (eL eB) x4.1.Down]
abbrev qZ71 (x4 : (S_Plate × Int)) (x5 : Bool) (x2 : S_Format)  := cond (cond (x4.2 != 0) true (!x5)) true (x4.1.W != (2 * x2.Width))
abbrev qZ72 (x1 : Bool) (x9 : Bool) (x11 : Bool)  := cond (cond x1 x9 false) x11 false
abbrev qZ73 (x3 : S_Leaf) : List AV := [.int .i64 x3.Label.N, .int .i64 x3.Label.K, slA (eL (eI .u8)) x3.Front, slA (eL (eI .u8)) x3.Back]
abbrev qZ74 (x2 : S_Format) : List AV := [.int .i64 x2.Width, .int .i64 x2.Height, .int .i64 x2.Binding]
abbrev qZ75 (x4 : (S_Plate × Int)) (x5 : Bool) (x2 : S_Format)  := cond (qZ71 x4 x5 x2) true (x4.1.H != (3 * x2.Height))
abbrev qZ76 (x4 : (S_Plate × Int)) (x5 : Bool)  := !(cond (x4.2 != 0) true (!x5))
theorem f_L25_SheetReads_ok  {t0 : S_Raw} {r : Bool} (H : f_L25_SheetReads t0 = some r) : QSpec Tryd.prog 4 [.agg (qZ6z t0)] (.bool r) := by
  refine Spec.of_AW Tryd.func4 rfl (by simp [Tryd.ntmps4]) ?_
  rw [Tryd.ntmps4]
  unfold f_L25_SheetReads at H
  change AW _ _ _ [(0, .agg (qZ6z t0))] [] _
  refine AW.regionSeq ?_
  refine OpsW.box rfl rfl rfl 1 rfl (okCb_sound (by kernel_rfl)) ?_
  change OpsW _ _ _ _ _ [(1, ⟨0, true, 27, 10, (qZ6z t0)⟩)] _
  refine OpsW.seg 1 [1] [] [(1, .ref 1 0 0)] (by kernel_rfl) trivial ?_
  refine OpsW.recast (env' := [(1, .ref 1 0 0)]) (h' := [(1, ⟨0, true, 27, 10, (qZ6z t0)⟩)]) (StC.mk (phi [(1, some 1)]) (.old rfl rfl rfl rfl rfl (.i9 (.cons .im .nil)) .nil) rfl (.cons (.ref rfl rfl rfl rfl rfl) .nil)) ?_
  refine OpsW.nil ?_
  refine AW.regionSeq ?_
  obtain ⟨x1, hx1, H⟩ := bindS H
  refine OpsW.qcall rfl (by kernel_rfl) rfl rfl (glAll_sound trivial) .nil (f_L25_sanity_ok hx1) rfl ?_
  refine OpsW.seg 1 [3, 1] [] [(3, .bool x1), (1, .ref 1 0 0)] (by kernel_rfl) trivial ?_
  refine OpsW.nil ?_
  refine AW.regionSeq ?_
  refine OpsW.seg 1 [9, 3, 1] [] [(9, .agg (qZ6z t0)), (3, .bool x1), (1, .ref 1 0 0)] (by kernel_rfl) trivial ?_
  obtain ⟨x2, hx2, H⟩ := bindS H
  refine OpsW.qcall rfl (by kernel_rfl) rfl rfl (glAll_sound trivial) (.cons (.pur rfl) .nil) (f_R25_Format_ok hx2) rfl ?_
  refine OpsW.alloc' rfl rfl rfl 4 rfl (by kernel_rfl : zc Tryd.prog 32 = some [.int .i64 0, .int .i64 0, .int .i64 0]) (by kernel_rfl) ?_
  refine OpsW.store rfl rfl rfl rfl trivial trivial rfl rfl rfl (by kernel_rfl) (okCb_sound (by kernel_rfl)) (Nat.le_of_ble_eq_true (by kernel_rfl)) ?_
  change OpsW _ _ _ _ _ [(4, ⟨0, true, 32, 3, (qZ74 x2)⟩), (4, ⟨0, true, 32, 3, [.int .i64 0, .int .i64 0, .int .i64 0]⟩), (1, ⟨0, true, 27, 10, (qZ6z t0)⟩)] _
  refine OpsW.seg 0 [4, 3, 1] [] [(4, .ref 4 0 0), (3, .bool x1), (1, .ref 1 0 0)] (by kernel_rfl) trivial ?_
  refine OpsW.recast (env' := [(4, .ref 4 0 0), (3, .bool x1), (1, .ref 1 0 0)]) (h' := [(1, ⟨0, true, 27, 10, (qZ6z t0)⟩), (4, ⟨0, true, 32, 3, (qZ74 x2)⟩)]) (StC.mk (phi [(1, some 1), (4, some 4)]) (.old rfl rfl rfl rfl rfl (.i9 (.cons .im .nil)) (.old rfl rfl rfl rfl rfl (.i3 .nil) .nil)) rfl (.cons (.ref rfl rfl rfl rfl rfl) (.cons .im (.cons (.ref rfl rfl rfl rfl rfl) .nil)))) ?_
  refine OpsW.nil ?_
  refine AW.regionSeq ?_
  refine OpsW.seg 1 [11, 4, 3] [] [(11, .agg (qZ6z t0)), (4, .ref 4 0 0), (3, .bool x1)] (by kernel_rfl) trivial ?_
  obtain ⟨x3, hx3, H⟩ := bindS H
  refine OpsW.qcall rfl (by kernel_rfl) rfl rfl (glAll_sound trivial) (.cons (.pur rfl) .nil) (f_R25_Pages_ok hx3) rfl ?_
  refine OpsW.alloc' rfl rfl rfl 5 rfl (by kernel_rfl : zc Tryd.prog 39 = some [.int .i64 0, .int .i64 0, .slice none 0 0, .slice none 0 0]) (by kernel_rfl) ?_
  refine OpsW.store rfl rfl rfl rfl trivial trivial rfl rfl rfl (by kernel_rfl) (okCb_sound (by kernel_rfl)) (Nat.le_of_ble_eq_true (by kernel_rfl)) ?_
  change OpsW _ _ _ _ _ [(5, ⟨0, true, 39, 4, (qZ73 x3)⟩), (5, ⟨0, true, 39, 4, [.int .i64 0, .int .i64 0, .im (.val (.slice none 0 0)), .im (.val (.slice none 0 0))]⟩), (1, ⟨0, true, 27, 10, (qZ6z t0)⟩), (4, ⟨0, true, 32, 3, (qZ74 x2)⟩)] _
  refine OpsW.seg 0 [5, 4, 3] [] [(5, .ref 5 0 0), (4, .ref 4 0 0), (3, .bool x1)] (by kernel_rfl) trivial ?_
  refine OpsW.recast (env' := [(5, .ref 5 0 0), (4, .ref 4 0 0), (3, .bool x1)]) (h' := [(4, ⟨0, true, 32, 3, (qZ74 x2)⟩), (5, ⟨0, true, 39, 4, (qZ73 x3)⟩)]) (StC.mk (phi [(4, some 4), (5, some 5)]) (.old rfl rfl rfl rfl rfl (.i3 .nil) (.old rfl rfl rfl rfl rfl (.i4 .nil) .nil)) rfl (.cons (.ref rfl rfl rfl rfl rfl) (.cons (.ref rfl rfl rfl rfl rfl) (.cons .im .nil)))) ?_
  refine OpsW.nil ?_
  refine AW.regionSeq ?_
  refine OpsW.seg 2 [15, 14, 5, 4, 3] [] [(15, .agg (qZ74 x2)), (14, .agg (qZ73 x3)), (5, .ref 5 0 0), (4, .ref 4 0 0), (3, .bool x1)] (by kernel_rfl) trivial ?_
  obtain ⟨x4, hx4, H⟩ := bindS H
  refine OpsW.qcall rfl (by kernel_rfl) rfl rfl (glAll_sound trivial) (.cons (.pur rfl) (.cons (.pur rfl) .nil)) (f_sheet_Press_ok hx4) rfl ?_
  refine OpsW.seg 3 [18, 17, 5, 4, 3] [] [(18, .int .i64 x4.2), (17, .agg (qZ70 x4)), (5, .ref 5 0 0), (4, .ref 4 0 0), (3, .bool x1)] (by kernel_rfl) trivial ?_
  refine OpsW.alloc' rfl rfl rfl 6 rfl (by kernel_rfl : zc Tryd.prog 47 = some [.int .i64 0, .int .i64 0, .slice none 0 0, .slice none 0 0]) (by kernel_rfl) ?_
  refine OpsW.store rfl rfl rfl rfl trivial trivial rfl rfl rfl (by kernel_rfl) (okCb_sound (by kernel_rfl)) (Nat.le_of_ble_eq_true (by kernel_rfl)) ?_
  change OpsW _ _ _ _ _ [(6, ⟨0, true, 47, 4, (qZ70 x4)⟩), (6, ⟨0, true, 47, 4, [.int .i64 0, .int .i64 0, .im (.val (.slice none 0 0)), .im (.val (.slice none 0 0))]⟩), (4, ⟨0, true, 32, 3, (qZ74 x2)⟩), (5, ⟨0, true, 39, 4, (qZ73 x3)⟩)] _
  refine OpsW.seg 1 [7, 6, 5, 4, 3] [] [(7, .int .i64 x4.2), (6, .ref 6 0 0), (5, .ref 5 0 0), (4, .ref 4 0 0), (3, .bool x1)] (by kernel_rfl) trivial ?_
  refine OpsW.recast (env' := [(7, .int .i64 x4.2), (6, .ref 6 0 0), (5, .ref 5 0 0), (4, .ref 4 0 0), (3, .bool x1)]) (h' := [(4, ⟨0, true, 32, 3, (qZ74 x2)⟩), (5, ⟨0, true, 39, 4, (qZ73 x3)⟩), (6, ⟨0, true, 47, 4, (qZ70 x4)⟩)]) (StC.mk (phi [(4, some 4), (5, some 5), (6, some 6)]) (.old rfl rfl rfl rfl rfl (.i3 .nil) (.old rfl rfl rfl rfl rfl (.i4 .nil) (.old rfl rfl rfl rfl rfl (.i4 .nil) .nil))) rfl (.cons .im (.cons (.ref rfl rfl rfl rfl rfl) (.cons (.ref rfl rfl rfl rfl rfl) (.cons (.ref rfl rfl rfl rfl rfl) (.cons .im .nil)))))) ?_
  refine OpsW.nil ?_
  refine AW.seq ?_
  refine AW.regionSeq ?_
  refine OpsW.seg 4 [22, 21, 6, 5, 4, 3] [] [(22, .cnd (!(x4.2 != 0)) (.agg (qZ70 x4))), (21, .bool (x4.2 != 0)), (6, .ref 6 0 0), (5, .ref 5 0 0), (4, .ref 4 0 0), (3, .bool x1)] (by kernel_rfl) trivial ?_
  obtain ⟨x5, hx5, H⟩ := bindS H
  refine OpsW.gcall (c := !(x4.2 != 0)) (r := .bool x5) [] rfl (by kernel_rfl) rfl rfl rfl rfl (fun hc => ⟨glAll_sound ⟨hc, trivial⟩, (.cons (.pur rfl) .nil), f_R25_Valid_ok (condT hc hx5), .inl ⟨rfl, rfl⟩⟩) ?_
  obtain ⟨g6, H⟩ := G_some H
  obtain ⟨g7, H⟩ := G_some H
  refine OpsW.seg 18 [41, 6, 5, 3] [(!(x4.2 != 0)) = true → (!(x4.2 != 0)) = true, (x4.2 != 0) = false → (!(x4.2 != 0)) = true, (qZ76 x4 x5) = true → (qZ76 x4 x5) = true, (qZ76 x4 x5) = true → (qZ76 x4 x5) = true, (qZ76 x4 x5) = true → (qZ76 x4 x5) = true, (qZ76 x4 x5) = true → inR (2 * x2.Width), (qZ76 x4 x5) = true → (qZ76 x4 x5) = true, (qZ76 x4 x5) = true → (qZ76 x4 x5) = true, (cond (x4.2 != 0) true (!x5)) = false → (qZ76 x4 x5) = true, (!(qZ71 x4 x5 x2)) = true → (!(qZ71 x4 x5 x2)) = true, (!(qZ71 x4 x5 x2)) = true → (!(qZ71 x4 x5 x2)) = true, (!(qZ71 x4 x5 x2)) = true → (!(qZ71 x4 x5 x2)) = true, (!(qZ71 x4 x5 x2)) = true → inR (3 * x2.Height), (!(qZ71 x4 x5 x2)) = true → (!(qZ71 x4 x5 x2)) = true, (!(qZ71 x4 x5 x2)) = true → (!(qZ71 x4 x5 x2)) = true, (qZ71 x4 x5 x2) = false → (!(qZ71 x4 x5 x2)) = true] [(41, .bool (qZ75 x4 x5 x2)), (6, .ref 6 0 0), (5, .ref 5 0 0), (3, .bool x1)] (by kernel_rfl) ⟨(fun h => h), (fun h => by first | exact h | (simpa using h) | grind), (fun h => h), (fun h => h), (fun h => h), g6, (fun h => h), (fun h => h), (fun h => by first | exact h | (simpa using h) | grind), (fun h => h), (fun h => h), (fun h => h), g7, (fun h => h), (fun h => h), (fun h => by first | exact h | (simpa using h) | grind), trivial⟩ ?_
  refine OpsW.nil ?_
  refine AW.cond (b := cond (qZ71 x4 x5 x2) true (x4.1.H != (3 * x2.Height))) rfl (fun c8 => ?_) (fun c8 => ?_)
  · replace H := condT c8 H
    refine AW.regionSeq ?_
    refine OpsW.seg 1 [2] [] [(2, .bool false)] (by kernel_rfl) trivial ?_
    refine OpsW.nil ?_
    obtain rfl := Option.some.inj H
    refine AW.recast (env' := [(2, .bool false)]) (h' := []) (StC.pure (.cons .im .nil)) ?_
    refine AW.ret ?_
    try simp only [Ex.then, Ex.inBlock, Ex.noGoto, Ex.jump, reduceIte, Nat.reduceEqDiff, reduceCtorEq]
    refine Done.gen rfl (.tmp .nil) ?_
    show _ = _
    kernel_rfl
  · replace H := condF c8 H
    refine AW.skip ?_
    refine AW.drawSeq Tryd.checked.mixed (by kernel_rfl) ?_
    refine QOps.seg (N := 61) 3 [] [(44, .cnd x1 (.agg (qZ70 x4))), (43, .bool x1), (42, .bool x1), (41, .bool (qZ75 x4 x5 x2)), (6, .ref 6 0 0), (5, .ref 5 0 0), (3, .bool x1)] (by kernel_rfl) trivial ?_
    obtain ⟨x9, hx9, H⟩ := bindS H
    refine QOps.gcall (c := x1) (r := .bool x9) [] rfl (by kernel_rfl) rfl rfl rfl (fun hc => ⟨glAll_sound ⟨hc, trivial⟩, (.cons (.pur rfl) .nil), f_sheet_Valid_ok (condT hc hx9), .inl ⟨rfl, rfl⟩⟩) ?_
    refine QOps.seg (N := 61) 3 [x1 = true → x1 = true] [(48, .cnd (cond x1 x9 false) (.agg (qZ70 x4))), (47, .bool (cond x1 x9 false)), (46, .bool (cond x1 x9 false)), (45, .cnd x1 (.bool x9)), (44, .cnd x1 (.agg (qZ70 x4))), (43, .bool x1), (42, .bool x1), (41, .bool (qZ75 x4 x5 x2)), (6, .ref 6 0 0), (5, .ref 5 0 0), (3, .bool x1)] (by kernel_rfl) ⟨(fun h => by first | exact h | (simpa using h) | grind), trivial⟩ ?_
    obtain ⟨x10, hx10, H⟩ := bindS H
    refine QOps.gcall (c := cond x1 x9 false) (r := slA (eL (eI .u8)) x10) [] rfl (by kernel_rfl) rfl rfl rfl (fun hc => ⟨glAll_sound ⟨hc, trivial⟩, (.cons (.pur rfl) .nil), f_sheet_Front_ok (condT hc hx10), .inl ⟨rfl, rfl⟩⟩) ?_
    refine QOps.seg (N := 61) 2 [(cond x1 x9 false) = true → (cond x1 x9 false) = true] [(51, .cnd (cond x1 x9 false) (slA (eL (eI .u8)) x3.Front)), (50, .cnd (cond x1 x9 false) (.ref 5 0 2)), (49, .cnd (cond x1 x9 false) (slA (eL (eI .u8)) x10)), (48, .cnd (cond x1 x9 false) (.agg (qZ70 x4))), (47, .bool (cond x1 x9 false)), (46, .bool (cond x1 x9 false)), (45, .cnd x1 (.bool x9)), (44, .cnd x1 (.agg (qZ70 x4))), (43, .bool x1), (42, .bool x1), (41, .bool (qZ75 x4 x5 x2)), (6, .ref 6 0 0), (5, .ref 5 0 0), (3, .bool x1)] (by kernel_rfl) ⟨(fun h => h), trivial⟩ ?_
    obtain ⟨x11, hx11, H⟩ := bindS H
    refine QOps.gcall (c := cond x1 x9 false) (r := .bool x11) [] rfl (by kernel_rfl) rfl rfl rfl (fun hc => ⟨glAll_sound ⟨hc, hc, trivial⟩, (.cons (.pur rfl) (.cons (.pur rfl) .nil)), f_R25_SamePage_ok (condT hc hx11), .inl ⟨rfl, rfl⟩⟩) ?_
    refine QOps.seg (N := 61) 3 [(cond x1 x9 false) = true → (cond x1 x9 false) = true] [(55, .cnd (qZ72 x1 x9 x11) (.agg (qZ70 x4))), (54, .bool (qZ72 x1 x9 x11)), (53, .bool (qZ72 x1 x9 x11)), (52, .cnd (cond x1 x9 false) (.bool x11)), (51, .cnd (cond x1 x9 false) (slA (eL (eI .u8)) x3.Front)), (50, .cnd (cond x1 x9 false) (.ref 5 0 2)), (49, .cnd (cond x1 x9 false) (slA (eL (eI .u8)) x10)), (48, .cnd (cond x1 x9 false) (.agg (qZ70 x4))), (47, .bool (cond x1 x9 false)), (46, .bool (cond x1 x9 false)), (45, .cnd x1 (.bool x9)), (44, .cnd x1 (.agg (qZ70 x4))), (43, .bool x1), (42, .bool x1), (41, .bool (qZ75 x4 x5 x2)), (6, .ref 6 0 0), (5, .ref 5 0 0), (3, .bool x1)] (by kernel_rfl) ⟨(fun h => by first | exact h | (simpa using h) | grind), trivial⟩ ?_
    obtain ⟨x12, hx12, H⟩ := bindS H
    refine QOps.gcall (c := cond (cond x1 x9 false) x11 false) (r := slA (eL (eI .u8)) x12) [] rfl (by kernel_rfl) rfl rfl rfl (fun hc => ⟨glAll_sound ⟨hc, trivial⟩, (.cons (.pur rfl) .nil), f_sheet_Back_ok (condT hc hx12), .inl ⟨rfl, rfl⟩⟩) ?_
    refine QOps.seg (N := 61) 2 [(qZ72 x1 x9 x11) = true → (qZ72 x1 x9 x11) = true] [(58, .cnd (qZ72 x1 x9 x11) (slA (eL (eI .u8)) x3.Back)), (57, .cnd (qZ72 x1 x9 x11) (.ref 5 0 3)), (56, .cnd (qZ72 x1 x9 x11) (slA (eL (eI .u8)) x12)), (55, .cnd (qZ72 x1 x9 x11) (.agg (qZ70 x4))), (54, .bool (qZ72 x1 x9 x11)), (53, .bool (qZ72 x1 x9 x11)), (52, .cnd (cond x1 x9 false) (.bool x11)), (51, .cnd (cond x1 x9 false) (slA (eL (eI .u8)) x3.Front)), (50, .cnd (cond x1 x9 false) (.ref 5 0 2)), (49, .cnd (cond x1 x9 false) (slA (eL (eI .u8)) x10)), (48, .cnd (cond x1 x9 false) (.agg (qZ70 x4))), (47, .bool (cond x1 x9 false)), (46, .bool (cond x1 x9 false)), (45, .cnd x1 (.bool x9)), (44, .cnd x1 (.agg (qZ70 x4))), (43, .bool x1), (42, .bool x1), (41, .bool (qZ75 x4 x5 x2)), (6, .ref 6 0 0), (5, .ref 5 0 0), (3, .bool x1)] (by kernel_rfl) ⟨(fun h => h), trivial⟩ ?_
    obtain ⟨x13, hx13, H⟩ := bindS H
    refine QOps.gcall (c := cond (cond x1 x9 false) x11 false) (r := .bool x13) [] rfl (by kernel_rfl) rfl rfl rfl (fun hc => ⟨glAll_sound ⟨hc, hc, trivial⟩, (.cons (.pur rfl) (.cons (.pur rfl) .nil)), f_R25_SamePage_ok (condT hc hx13), .inl ⟨rfl, rfl⟩⟩) ?_
    refine QOps.seg (N := 61) 2 [(qZ72 x1 x9 x11) = true → (qZ72 x1 x9 x11) = true] [(2, .bool (cond (qZ72 x1 x9 x11) x13 false)), (60, .bool (cond (qZ72 x1 x9 x11) x13 false)), (59, .cnd (qZ72 x1 x9 x11) (.bool x13)), (58, .cnd (qZ72 x1 x9 x11) (slA (eL (eI .u8)) x3.Back)), (57, .cnd (qZ72 x1 x9 x11) (.ref 5 0 3)), (56, .cnd (qZ72 x1 x9 x11) (slA (eL (eI .u8)) x12)), (55, .cnd (qZ72 x1 x9 x11) (.agg (qZ70 x4))), (54, .bool (qZ72 x1 x9 x11)), (53, .bool (qZ72 x1 x9 x11)), (52, .cnd (cond x1 x9 false) (.bool x11)), (51, .cnd (cond x1 x9 false) (slA (eL (eI .u8)) x3.Front)), (50, .cnd (cond x1 x9 false) (.ref 5 0 2)), (49, .cnd (cond x1 x9 false) (slA (eL (eI .u8)) x10)), (48, .cnd (cond x1 x9 false) (.agg (qZ70 x4))), (47, .bool (cond x1 x9 false)), (46, .bool (cond x1 x9 false)), (45, .cnd x1 (.bool x9)), (44, .cnd x1 (.agg (qZ70 x4))), (43, .bool x1), (42, .bool x1), (41, .bool (qZ75 x4 x5 x2)), (6, .ref 6 0 0), (5, .ref 5 0 0), (3, .bool x1)] (by kernel_rfl) ⟨(fun h => by first | exact h | (simpa using h) | grind), trivial⟩ ?_
    refine QOps.nil ?_
    refine AW.trim [2] [(2, .bool (cond (qZ72 x1 x9 x11) x13 false))] (by kernel_rfl) ?_
    obtain rfl := Option.some.inj H
    refine AW.recast (env' := [(2, .bool (cond (qZ72 x1 x9 x11) x13 false))]) (h' := []) (StC.pure (.cons .im .nil)) ?_
    refine AW.ret ?_
    try simp only [Ex.then, Ex.inBlock, Ex.noGoto, Ex.jump, reduceIte, Nat.reduceEqDiff, reduceCtorEq]
    refine Done.gen rfl (.tmp .nil) ?_
    show _ = _
    kernel_rfl
end Go.Proofs.YtbcfmhoaocifoaaDoor
