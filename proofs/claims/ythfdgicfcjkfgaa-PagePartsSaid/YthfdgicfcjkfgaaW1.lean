/-
  Written by gen.py (own work): typed functions, and that the program computes them.
-/
import Derived.Test.YthfdgicfcjkfgaaGen6
import Derived.Test.YthfdgicfcjkfgaaChecked
set_option linter.unusedSimpArgs false
set_option linter.unusedVariables false
set_option maxRecDepth 100000
namespace Go.Proofs.Ythfdgicfcjkfgaa
open Go.Abs
structure S_Row where
  Line : List Int
  Keep : Bool
  Ink : Int
  Block : Int
  At : Int
  deriving DecidableEq
def eS_Row (x : S_Row) : List IV := [.sl (x.Line.flatMap (eI .u8)) x.Line.length, .val (.bool x.Keep), .val (.int .i64 x.Ink), .val (.int .i64 x.Block), .val (.int .i64 x.At)]
def zS_Row : S_Row := ⟨[], false, (0 : Int), (0 : Int), (0 : Int)⟩
structure S_Filled where
  Ends : List Int
  At : Int
  E : Int
  deriving DecidableEq
def eS_Filled (x : S_Filled) : List IV := [.sl (x.Ends.flatMap (eI .i64)) x.Ends.length, .val (.int .i64 x.At), .val (.int .i64 x.E)]
def zS_Filled : S_Filled := ⟨[], (0 : Int), (0 : Int)⟩
theorem E27 : Elem Try.prog 27 54 5 56 [.slice none 0 0, .bool false, .int .i64 0, .int .i64 0, .int .i64 0] := ⟨by kernel_rfl, by kernel_rfl, by kernel_rfl, rfl, rfl, by decide⟩
theorem E29 : Elem Try.prog 29 3 1 8 [.int .i64 0] := ⟨by kernel_rfl, by kernel_rfl, by kernel_rfl, rfl, rfl, by decide⟩
theorem E52 : Elem Try.prog 52 58 1 1 [.int .u8 0] := ⟨by kernel_rfl, by kernel_rfl, by kernel_rfl, rfl, rfl, by decide⟩
def f_page_last (t0 : List Int) : Option Int :=
  cond ((t0.length : Int) == (0 : Int)) (
    some (0 : Int)) (
    G (inR ((t0.length : Int) - (1 : Int))) <|
    G (0 ≤ ((t0.length : Int) - (1 : Int)) ∧ ((t0.length : Int) - (1 : Int)) < (t0.length : Int)) <|
    some (t0.getD ((t0.length : Int) - (1 : Int)).toNat (0 : Int)))
theorem f_page_last_ok {t0 : List Int} {r : Int} (H : f_page_last t0 = some r) : QSpec Try.prog 25 [slA (eI .i64) t0] (.int .i64 r) := by
  refine Spec.of_AW Try.func25 rfl (by simp [Try.ntmps25]) ?_
  rw [Try.ntmps25]
  unfold f_page_last at H
  change AW _ _ _ [(0, slA (eI .i64) t0)] [] _
  refine AW.regionSeq ?_
  refine OpsW.seg 1 [0] [] [(0, slA (eI .i64) t0)] (by kernel_rfl) trivial ?_
  refine OpsW.nil ?_
  refine AW.seq ?_
  refine AW.regionSeq ?_
  refine OpsW.seg 3 [5, 0] [] [(5, .bool ((t0.length : Int) == (0 : Int))), (0, slA (eI .i64) t0)] (by kernel_rfl) trivial ?_
  refine OpsW.nil ?_
  refine AW.cond (b := (t0.length : Int) == (0 : Int)) rfl (fun c1 => ?_) (fun c1 => ?_)
  · replace H := condT c1 H
    refine AW.regionSeq ?_
    refine OpsW.seg 1 [2] [] [(2, .int .i64 (0 : Int))] (by kernel_rfl) trivial ?_
    refine OpsW.nil ?_
    obtain rfl := Option.some.inj H
    refine AW.recast (env' := [(2, .int .i64 (0 : Int))]) (h' := []) (StC.pure (.cons .im .nil)) ?_
    refine AW.ret ?_
    try simp only [Ex.then, Ex.inBlock, Ex.noGoto, Ex.jump, reduceIte, Nat.reduceEqDiff, reduceCtorEq]
    refine Done.gen rfl (.tmp .nil) ?_
    show _ = _
    kernel_rfl
  · replace H := condF c1 H
    refine AW.skip ?_
    refine AW.regionSeq ?_
    obtain ⟨g2, H⟩ := G_some H
    obtain ⟨g3, H⟩ := G_some H
    refine OpsW.seg 5 [10] [inR ((t0.length : Int) - (1 : Int)), 0 ≤ ((t0.length : Int) - (1 : Int)) ∧ ((t0.length : Int) - (1 : Int)) < (t0.length : Int)] [(10, .ipt (t0.flatMap (eI .i64)) (((t0.length : Int) - (1 : Int)).toNat * 1))] (by kernel_rfl) ⟨g2, g3, trivial⟩ ?_
    refine OpsW.asU (.int .i64 (t0.getD ((t0.length : Int) - (1 : Int)).toNat (0 : Int))) rfl rfl (T.load rfl trivial (by kernel_rfl) (fm_cell0 (eI .i64) 1 (fun _ => rfl) t0 (0 : Int) ((t0.length : Int) - (1 : Int)).toNat (ltN g3) (fun a => .val (.int .i64 a)) (fun _ => rfl))) ?_
    refine OpsW.seg 1 [2] [] [(2, .int .i64 (t0.getD ((t0.length : Int) - (1 : Int)).toNat (0 : Int)))] (by kernel_rfl) trivial ?_
    refine OpsW.nil ?_
    obtain rfl := Option.some.inj H
    refine AW.recast (env' := [(2, .int .i64 (t0.getD ((t0.length : Int) - (1 : Int)).toNat (0 : Int)))]) (h' := []) (StC.pure (.cons .im .nil)) ?_
    refine AW.ret ?_
    try simp only [Ex.then, Ex.inBlock, Ex.noGoto, Ex.jump, reduceIte, Nat.reduceEqDiff, reduceCtorEq]
    refine Done.gen rfl (.tmp .nil) ?_
    show _ = _
    kernel_rfl
def f_page_Next_k1 (loop5 : ((List Int) × Int) → Option (List Int)) (v4 : Int) (v10 : List Int) : Option (List Int) :=
  G (inR (v4 + (1 : Int))) <|
  loop5 (v10, v4 + (1 : Int))
def f_page_Next_b1 (t0 : List S_Row) (t1 : Int) (t2 : Int) (loop5 : ((List Int) × Int) → Option (List Int)) (v3 : List Int) (v4 : Int) : Option (List Int) :=
  G (inR (t2 - (1 : Int))) <|
  G (inR ((t0.length : Int) - t1)) <|
  G (inR (t1 + (if ((t0.length : Int) - t1) < (t2 - (1 : Int)) then ((t0.length : Int) - t1) else (t2 - (1 : Int))))) <|
  cond (decide (v4 ≤ (t1 + (if ((t0.length : Int) - t1) < (t2 - (1 : Int)) then ((t0.length : Int) - t1) else (t2 - (1 : Int)))))) (
    G ((!(v4 == (t0.length : Int))) = true → inR (v4 - (1 : Int))) <|
    G ((!(v4 == (t0.length : Int))) = true → (0 ≤ (v4 - (1 : Int)) ∧ (v4 - (1 : Int)) < (t0.length : Int))) <|
    cond (cond (v4 == (t0.length : Int)) true (!((t0.getD (v4 - (1 : Int)).toNat zS_Row).Keep))) (
      G (room 8 (v3.length + 1)) <|
      f_page_Next_k1 loop5 v4 (v3 ++ [v4])) (
      f_page_Next_k1 loop5 v4 v3)) (
    some v3)
def f_page_Next (t0 : List S_Row) (t1 : Int) (t2 : Int) : Option (List Int) :=
  cond (cond (cond (decide (t1 < (0 : Int))) true (decide ((t0.length : Int) ≤ t1))) true (decide (t2 < (2 : Int)))) (
    some []) (
    G (inR (t1 + (1 : Int))) <|
    iter (fun loop (s : (List Int) × Int) => f_page_Next_b1 t0 t1 t2 loop s.1 s.2) 1000000 ([], t1 + (1 : Int)))
theorem f_page_Next_ok {t0 : List S_Row} {t1 : Int} {t2 : Int} {r : List Int} (H : f_page_Next t0 t1 t2 = some r) : QSpec Try.prog 16 [slA eS_Row t0, .int .i64 t1, .int .i64 t2] (slA (eI .i64) r) := by
  refine Spec.of_AW Try.func16 rfl (by simp [Try.ntmps16]) ?_
  rw [Try.ntmps16]
  unfold f_page_Next at H
  change AW _ _ _ [(0, slA eS_Row t0), (1, .int .i64 t1), (2, .int .i64 t2)] [] _
  refine AW.regionSeq ?_
  refine OpsW.seg 1 [0, 1, 2] [] [(0, slA eS_Row t0), (1, .int .i64 t1), (2, .int .i64 t2)] (by kernel_rfl) trivial ?_
  refine OpsW.nil ?_
  refine AW.seq ?_
  refine AW.regionSeq ?_
  refine OpsW.seg 12 [20, 0, 1, 2] [(!(decide (t1 < (0 : Int)))) = true → (!(decide (t1 < (0 : Int)))) = true, (!(decide (t1 < (0 : Int)))) = true → (!(decide (t1 < (0 : Int)))) = true, (!(decide (t1 < (0 : Int)))) = true → (!(decide (t1 < (0 : Int)))) = true, (decide (t1 < (0 : Int))) = false → (!(decide (t1 < (0 : Int)))) = true, (!(cond (decide (t1 < (0 : Int))) true (decide ((t0.length : Int) ≤ t1)))) = true → (!(cond (decide (t1 < (0 : Int))) true (decide ((t0.length : Int) ≤ t1)))) = true, (cond (decide (t1 < (0 : Int))) true (decide ((t0.length : Int) ≤ t1))) = false → (!(cond (decide (t1 < (0 : Int))) true (decide ((t0.length : Int) ≤ t1)))) = true] [(20, .bool (cond (cond (decide (t1 < (0 : Int))) true (decide ((t0.length : Int) ≤ t1))) true (decide (t2 < (2 : Int))))), (0, slA eS_Row t0), (1, .int .i64 t1), (2, .int .i64 t2)] (by kernel_rfl) ⟨(fun h => h), (fun h => h), (fun h => h), (fun h => by first | exact h | simpa using h), (fun h => h), (fun h => by first | exact h | simpa using h), trivial⟩ ?_
  refine OpsW.nil ?_
  refine AW.cond (b := cond (cond (decide (t1 < (0 : Int))) true (decide ((t0.length : Int) ≤ t1))) true (decide (t2 < (2 : Int)))) rfl (fun c1 => ?_) (fun c1 => ?_)
  · replace H := condT c1 H
    refine AW.regionSeq ?_
    refine OpsW.seg 1 [6] [] [(6, .im (.val (.slice none 0 0)))] (by kernel_rfl) trivial ?_
    refine OpsW.nil ?_
    obtain rfl := Option.some.inj H
    refine AW.recast (env' := [(6, slA (eI .i64) [])]) (h' := []) (StC.pure (.cons .nil .nil)) ?_
    refine AW.ret ?_
    try simp only [Ex.then, Ex.inBlock, Ex.noGoto, Ex.jump, reduceIte, Nat.reduceEqDiff, reduceCtorEq]
    refine Done.gen rfl (.tmp .nil) ?_
    show _ = _
    kernel_rfl
  · replace H := condF c1 H
    refine AW.skip ?_
    refine AW.regionSeq ?_
    refine OpsW.seg 1 [7, 0, 1, 2] [] [(7, .im (.val (.slice none 0 0))), (0, slA eS_Row t0), (1, .int .i64 t1), (2, .int .i64 t2)] (by kernel_rfl) trivial ?_
    refine OpsW.nil ?_
    refine AW.seq ?_
    refine AW.regionSeq ?_
    obtain ⟨g2, H⟩ := G_some H
    refine OpsW.seg 3 [8, 7, 0, 1, 2] [inR (t1 + (1 : Int))] [(8, .int .i64 (t1 + (1 : Int))), (7, .im (.val (.slice none 0 0))), (0, slA eS_Row t0), (1, .int .i64 t1), (2, .int .i64 t2)] (by kernel_rfl) ⟨g2, trivial⟩ ?_
    refine OpsW.nil ?_
    refine AW.block ?_
    refine AW.iterK (fun loop (s : (List Int) × Int) => f_page_Next_b1 t0 t1 t2 loop s.1 s.2) r (fun (s : (List Int) × Int) => [(0, slA eS_Row t0), (1, .int .i64 t1), (2, .int .i64 t2), (7, .rsl 7 0 0 s.1.length), (8, .int .i64 s.2)]) (fun (s : (List Int) × Int) => [(7, rtA 0 3 1 (eI .i64) s.1)]) ?_ 1000000 ([], t1 + (1 : Int)) H (StC.mk (phi [(7, none)]) (.new rfl .nil) rfl (.cons .im (.cons .im (.cons .im (.cons (.nilr rfl rfl rfl) (.cons .im .nil))))))
    intro loop5 s H
    obtain ⟨v3, v4⟩ := s
    change f_page_Next_b1 t0 t1 t2 loop5 v3 v4 = some r at H
    unfold f_page_Next_b1 at H
    change AW _ _ _ [(0, slA eS_Row t0), (1, .int .i64 t1), (2, .int .i64 t2), (7, .rsl 7 0 0 v3.length), (8, .int .i64 v4)] [(7, rtA 0 3 1 (eI .i64) v3)] _
    refine AW.seq ?_
    refine AW.regionSeq ?_
    obtain ⟨g6, H⟩ := G_some H
    obtain ⟨g7, H⟩ := G_some H
    obtain ⟨g8, H⟩ := G_some H
    refine OpsW.seg 11 [33, 0, 1, 2, 7, 8] [inR (t2 - (1 : Int)), inR ((t0.length : Int) - t1), inR (t1 + (if ((t0.length : Int) - t1) < (t2 - (1 : Int)) then ((t0.length : Int) - t1) else (t2 - (1 : Int))))] [(33, .bool (decide (v4 ≤ (t1 + (if ((t0.length : Int) - t1) < (t2 - (1 : Int)) then ((t0.length : Int) - t1) else (t2 - (1 : Int))))))), (0, slA eS_Row t0), (1, .int .i64 t1), (2, .int .i64 t2), (7, .rsl 7 0 0 v3.length), (8, .int .i64 v4)] (by kernel_rfl) ⟨g6, g7, g8, trivial⟩ ?_
    refine OpsW.nil ?_
    refine AW.cond (b := decide (v4 ≤ (t1 + (if ((t0.length : Int) - t1) < (t2 - (1 : Int)) then ((t0.length : Int) - t1) else (t2 - (1 : Int)))))) rfl (fun c9 => ?_) (fun c9 => ?_)
    · replace H := condT c9 H
      refine AW.skip ?_
      refine AW.joinK (fun (y : (List Int)) => f_page_Next_k1 loop5 v4 y) r (fun (y : (List Int)) => [(0, slA eS_Row t0), (1, .int .i64 t1), (2, .int .i64 t2), (7, .rsl 7 0 0 y.length), (8, .int .i64 v4)]) (fun (y : (List Int)) => [(7, rtA 0 3 1 (eI .i64) y)]) ?_ ?_
      · refine AW.block ?_
        refine AW.regionSeq ?_
        obtain ⟨g12, H⟩ := G_some H
        obtain ⟨g13, H⟩ := G_some H
        refine OpsW.seg 10 [45, 40, 0, 1, 2, 7, 8] [(!(v4 == (t0.length : Int))) = true → (!(v4 == (t0.length : Int))) = true, (!(v4 == (t0.length : Int))) = true → inR (v4 - (1 : Int)), (!(v4 == (t0.length : Int))) = true → (!(v4 == (t0.length : Int))) = true, (!(v4 == (t0.length : Int))) = true → (!(v4 == (t0.length : Int))) = true, (!(v4 == (t0.length : Int))) = true → (0 ≤ (v4 - (1 : Int)) ∧ (v4 - (1 : Int)) < (t0.length : Int)), (!(v4 == (t0.length : Int))) = true → (!(v4 == (t0.length : Int))) = true] [(45, .cnd (!(v4 == (t0.length : Int))) (.ipt (t0.flatMap eS_Row) ((v4 - (1 : Int)).toNat * 5 + 1))), (40, .bool (v4 == (t0.length : Int))), (0, slA eS_Row t0), (1, .int .i64 t1), (2, .int .i64 t2), (7, .rsl 7 0 0 v3.length), (8, .int .i64 v4)] (by kernel_rfl) ⟨(fun h => h), g12, (fun h => h), (fun h => h), g13, (fun h => h), trivial⟩ ?_
        refine OpsW.asG (c := !(v4 == (t0.length : Int))) (.bool ((t0.getD (v4 - (1 : Int)).toNat zS_Row).Keep)) rfl rfl rfl rfl (fun hc => T.load rfl hc (by kernel_rfl) (fm_cell eS_Row 5 (fun _ => rfl) t0 zS_Row (v4 - (1 : Int)).toNat (ltN (g13 hc)) 1 (fun a => .val (.bool a.Keep)) (fun _ => rfl))) ?_
        refine OpsW.seg 2 [48, 0, 1, 2, 7, 8] [(!(v4 == (t0.length : Int))) = true → (!(v4 == (t0.length : Int))) = true, (v4 == (t0.length : Int)) = false → (!(v4 == (t0.length : Int))) = true] [(48, .bool (cond (v4 == (t0.length : Int)) true (!((t0.getD (v4 - (1 : Int)).toNat zS_Row).Keep)))), (0, slA eS_Row t0), (1, .int .i64 t1), (2, .int .i64 t2), (7, .rsl 7 0 0 v3.length), (8, .int .i64 v4)] (by kernel_rfl) ⟨(fun h => h), (fun h => by first | exact h | simpa using h), trivial⟩ ?_
        refine OpsW.nil ?_
        refine AW.cond (b := cond (v4 == (t0.length : Int)) true (!((t0.getD (v4 - (1 : Int)).toNat zS_Row).Keep))) rfl (fun c14 => ?_) (fun c14 => ?_)
        · replace H := condT c14 H
          refine AW.region ?_
          refine OpsW.seg 2 [50, 49, 0, 1, 2, 7, 8] [] [(50, .int .i64 v4), (49, .rsl 7 0 0 v3.length), (0, slA eS_Row t0), (1, .int .i64 t1), (2, .int .i64 t2), (7, .rsl 7 0 0 v3.length), (8, .int .i64 v4)] (by kernel_rfl) trivial ?_
          obtain ⟨g15, H⟩ := G_some H
          refine OpsW.appendLF (enc := eI .i64) [v4] rfl rfl rfl (by decide) rfl rfl rfl (by simp) E29 (fun _ => rfl) (by decide) trivial (by kernel_rfl) (by kernel_rfl) (by kernel_rfl) rfl rfl rfl g15 ?_
          refine OpsW.seg 1 [7, 0, 1, 2, 8] [] [(7, .rsl 7 1 0 ((v3 ++ [v4]).length)), (0, slA eS_Row t0), (1, .int .i64 t1), (2, .int .i64 t2), (8, .int .i64 v4)] (by kernel_rfl) trivial ?_
          refine OpsW.recast (env' := [(7, .rsl 7 0 0 ((v3 ++ [v4]).length)), (0, slA eS_Row t0), (1, .int .i64 t1), (2, .int .i64 t2), (8, .int .i64 v4)]) (h' := [(7, rtA 0 3 1 (eI .i64) (v3 ++ [v4]))]) (StC.mk (phi [(7, some 7)]) (.old rfl rfl rfl rfl rfl (CstL.ims _) .nil) rfl (.cons (.rsl rfl rfl rfl rfl rfl rfl) (.cons .im (.cons .im (.cons .im (.cons .im .nil)))))) ?_
          refine OpsW.nil ?_
          show ∃ y, _ ∧ StC _ _ _ _
          exact ⟨v3 ++ [v4], H, (StC.mk (phi [(7, some 7)]) (.old rfl rfl rfl rfl rfl (CstL.ims _) .nil) rfl (.cons .im (.cons .im (.cons .im (.cons (.rsl rfl rfl rfl rfl rfl rfl) (.cons .im .nil))))))⟩
        · replace H := condF c14 H
          refine AW.skip ?_
          show ∃ y, _ ∧ StC _ _ _ _
          exact ⟨v3, H, (StC.mk (phi [(7, some 7)]) (.old rfl rfl rfl rfl rfl (CstL.ims _) .nil) rfl (.cons .im (.cons .im (.cons .im (.cons (.rsl rfl rfl rfl rfl rfl rfl) (.cons .im .nil))))))⟩
      · intro v10 H
        change f_page_Next_k1 loop5 v4 v10 = some r at H
        unfold f_page_Next_k1 at H
        change AW _ _ _ [(0, slA eS_Row t0), (1, .int .i64 t1), (2, .int .i64 t2), (7, .rsl 7 0 0 v10.length), (8, .int .i64 v4)] [(7, rtA 0 3 1 (eI .i64) v10)] _
        refine AW.region ?_
        obtain ⟨g11, H⟩ := G_some H
        refine OpsW.seg 3 [8, 0, 1, 2, 7] [inR (v4 + (1 : Int))] [(8, .int .i64 (v4 + (1 : Int))), (0, slA eS_Row t0), (1, .int .i64 t1), (2, .int .i64 t2), (7, .rsl 7 0 0 v10.length)] (by kernel_rfl) ⟨g11, trivial⟩ ?_
        refine OpsW.nil ?_
        show ∃ y, _ ∧ StC _ _ _ _
        exact ⟨(v10, v4 + (1 : Int)), H, (StC.mk (phi [(7, some 7)]) (.old rfl rfl rfl rfl rfl (CstL.ims _) .nil) rfl (.cons .im (.cons .im (.cons .im (.cons (.rsl rfl rfl rfl rfl rfl rfl) (.cons .im .nil))))))⟩
    · replace H := condF c9 H
      refine AW.exit ?_
      refine AW.regionSeq ?_
      refine OpsW.seg 2 [6] [] [(6, .rsl 7 0 0 v3.length)] (by kernel_rfl) trivial ?_
      refine OpsW.recast (env' := [(6, slA (eI .i64) v3)]) (h' := []) (StC.mk (phi []) .nil rfl (.cons (.frz rfl rfl rfl (frz_all (eI .i64) 1 (fun _ => rfl) v3) (fm_length (eI .i64) 1 (fun _ => rfl) v3) (phi_ne rfl)) .nil)) ?_
      refine OpsW.nil ?_
      obtain rfl := Option.some.inj H
      refine AW.recast (env' := [(6, slA (eI .i64) v3)]) (h' := []) (StC.pure (.cons .im .nil)) ?_
      refine AW.ret ?_
      try simp only [Ex.then, Ex.inBlock, Ex.noGoto, Ex.jump, reduceIte, Nat.reduceEqDiff, reduceCtorEq]
      refine Done.gen rfl (.tmp .nil) ?_
      show _ = _
      kernel_rfl
def f_page_Legal_b1 (t0 : List S_Row) (t1 : List Int) (t2 : Int) (loop3 : (Int × Int) → Option Bool) (v1 : Int) (v2 : Int) : Option Bool :=
  cond (decide (v2 < (t1.length : Int))) (
    G (0 ≤ v2 ∧ v2 < (t1.length : Int)) <|
    G ((!(cond (decide ((t1.getD v2.toNat (0 : Int)) ≤ v1)) true (decide ((t0.length : Int) < (t1.getD v2.toNat (0 : Int)))))) = true → inR ((t1.getD v2.toNat (0 : Int)) - v1)) <|
    cond (cond (cond (decide ((t1.getD v2.toNat (0 : Int)) ≤ v1)) true (decide ((t0.length : Int) < (t1.getD v2.toNat (0 : Int))))) true (decide (t2 ≤ ((t1.getD v2.toNat (0 : Int)) - v1)))) (
      some false) (
      G ((decide ((t1.getD v2.toNat (0 : Int)) < (t0.length : Int))) = true → inR ((t1.getD v2.toNat (0 : Int)) - (1 : Int))) <|
      G ((decide ((t1.getD v2.toNat (0 : Int)) < (t0.length : Int))) = true → (0 ≤ ((t1.getD v2.toNat (0 : Int)) - (1 : Int)) ∧ ((t1.getD v2.toNat (0 : Int)) - (1 : Int)) < (t0.length : Int))) <|
      cond (cond (decide ((t1.getD v2.toNat (0 : Int)) < (t0.length : Int))) ((t0.getD ((t1.getD v2.toNat (0 : Int)) - (1 : Int)).toNat zS_Row).Keep) false) (
        some false) (
        G (inR (v2 + (1 : Int))) <|
        loop3 (t1.getD v2.toNat (0 : Int), v2 + (1 : Int))))) (
    some (v1 == (t0.length : Int)))
def f_page_Legal (t0 : List S_Row) (t1 : List Int) (t2 : Int) : Option Bool :=
  iter (fun loop (s : Int × Int) => f_page_Legal_b1 t0 t1 t2 loop s.1 s.2) 1000000 ((0 : Int), (0 : Int))
theorem f_page_Legal_ok {t0 : List S_Row} {t1 : List Int} {t2 : Int} {r : Bool} (H : f_page_Legal t0 t1 t2 = some r) : QSpec Try.prog 14 [slA eS_Row t0, slA (eI .i64) t1, .int .i64 t2] (.bool r) := by
  refine Spec.of_AW Try.func14 rfl (by simp [Try.ntmps14]) ?_
  rw [Try.ntmps14]
  unfold f_page_Legal at H
  change AW _ _ _ [(0, slA eS_Row t0), (1, slA (eI .i64) t1), (2, .int .i64 t2)] [] _
  refine AW.regionSeq ?_
  refine OpsW.seg 1 [0, 1, 2] [] [(0, slA eS_Row t0), (1, slA (eI .i64) t1), (2, .int .i64 t2)] (by kernel_rfl) trivial ?_
  refine OpsW.nil ?_
  refine AW.regionSeq ?_
  refine OpsW.seg 1 [7, 0, 1, 2] [] [(7, .int .i64 (0 : Int)), (0, slA eS_Row t0), (1, slA (eI .i64) t1), (2, .int .i64 t2)] (by kernel_rfl) trivial ?_
  refine OpsW.nil ?_
  refine AW.seq ?_
  refine AW.regionSeq ?_
  refine OpsW.seg 3 [12, 11, 10, 7, 0, 2] [] [(12, .int .i64 (0 : Int)), (11, .int .i64 (t1.length : Int)), (10, slA (eI .i64) t1), (7, .int .i64 (0 : Int)), (0, slA eS_Row t0), (2, .int .i64 t2)] (by kernel_rfl) trivial ?_
  refine OpsW.nil ?_
  refine AW.block ?_
  refine AW.iterK (fun loop (s : Int × Int) => f_page_Legal_b1 t0 t1 t2 loop s.1 s.2) r (fun (s : Int × Int) => [(0, slA eS_Row t0), (2, .int .i64 t2), (7, .int .i64 s.1), (10, slA (eI .i64) t1), (11, .int .i64 (t1.length : Int)), (12, .int .i64 s.2)]) (fun (s : Int × Int) => []) ?_ 1000000 ((0 : Int), (0 : Int)) H (StC.pure (.cons .im (.cons .im (.cons .im (.cons .im (.cons .im (.cons .im .nil)))))))
  intro loop3 s H
  obtain ⟨v1, v2⟩ := s
  change f_page_Legal_b1 t0 t1 t2 loop3 v1 v2 = some r at H
  unfold f_page_Legal_b1 at H
  change AW _ _ _ [(0, slA eS_Row t0), (2, .int .i64 t2), (7, .int .i64 v1), (10, slA (eI .i64) t1), (11, .int .i64 (t1.length : Int)), (12, .int .i64 v2)] [] _
  refine AW.regionSeq ?_
  refine OpsW.seg 1 [13, 0, 2, 7, 10, 11, 12] [] [(13, .bool (decide (v2 < (t1.length : Int)))), (0, slA eS_Row t0), (2, .int .i64 t2), (7, .int .i64 v1), (10, slA (eI .i64) t1), (11, .int .i64 (t1.length : Int)), (12, .int .i64 v2)] (by kernel_rfl) trivial ?_
  refine OpsW.nil ?_
  refine AW.seq ?_
  refine AW.cond (b := decide (v2 < (t1.length : Int))) rfl (fun c4 => ?_) (fun c4 => ?_)
  · replace H := condT c4 H
    refine AW.skip ?_
    refine AW.seq ?_
    refine AW.block ?_
    refine AW.regionSeq ?_
    obtain ⟨g5, H⟩ := G_some H
    refine OpsW.seg 1 [14, 0, 2, 7, 10, 11, 12] [0 ≤ v2 ∧ v2 < (t1.length : Int)] [(14, .ipt (t1.flatMap (eI .i64)) (v2.toNat * 1)), (0, slA eS_Row t0), (2, .int .i64 t2), (7, .int .i64 v1), (10, slA (eI .i64) t1), (11, .int .i64 (t1.length : Int)), (12, .int .i64 v2)] (by kernel_rfl) ⟨g5, trivial⟩ ?_
    refine OpsW.asU (.int .i64 (t1.getD v2.toNat (0 : Int))) rfl rfl (T.load rfl trivial (by kernel_rfl) (fm_cell0 (eI .i64) 1 (fun _ => rfl) t1 (0 : Int) v2.toNat (ltN g5) (fun a => .val (.int .i64 a)) (fun _ => rfl))) ?_
    refine OpsW.seg 1 [9, 0, 2, 7, 10, 11, 12] [] [(9, .int .i64 (t1.getD v2.toNat (0 : Int))), (0, slA eS_Row t0), (2, .int .i64 t2), (7, .int .i64 v1), (10, slA (eI .i64) t1), (11, .int .i64 (t1.length : Int)), (12, .int .i64 v2)] (by kernel_rfl) trivial ?_
    refine OpsW.nil ?_
    refine AW.seq ?_
    refine AW.regionSeq ?_
    obtain ⟨g6, H⟩ := G_some H
    refine OpsW.seg 16 [31, 9, 0, 2, 10, 11, 12] [(!(decide ((t1.getD v2.toNat (0 : Int)) ≤ v1))) = true → (!(decide ((t1.getD v2.toNat (0 : Int)) ≤ v1))) = true, (!(decide ((t1.getD v2.toNat (0 : Int)) ≤ v1))) = true → (!(decide ((t1.getD v2.toNat (0 : Int)) ≤ v1))) = true, (!(decide ((t1.getD v2.toNat (0 : Int)) ≤ v1))) = true → (!(decide ((t1.getD v2.toNat (0 : Int)) ≤ v1))) = true, (decide ((t1.getD v2.toNat (0 : Int)) ≤ v1)) = false → (!(decide ((t1.getD v2.toNat (0 : Int)) ≤ v1))) = true, (!(cond (decide ((t1.getD v2.toNat (0 : Int)) ≤ v1)) true (decide ((t0.length : Int) < (t1.getD v2.toNat (0 : Int)))))) = true → (!(cond (decide ((t1.getD v2.toNat (0 : Int)) ≤ v1)) true (decide ((t0.length : Int) < (t1.getD v2.toNat (0 : Int)))))) = true, (!(cond (decide ((t1.getD v2.toNat (0 : Int)) ≤ v1)) true (decide ((t0.length : Int) < (t1.getD v2.toNat (0 : Int)))))) = true → (!(cond (decide ((t1.getD v2.toNat (0 : Int)) ≤ v1)) true (decide ((t0.length : Int) < (t1.getD v2.toNat (0 : Int)))))) = true, (!(cond (decide ((t1.getD v2.toNat (0 : Int)) ≤ v1)) true (decide ((t0.length : Int) < (t1.getD v2.toNat (0 : Int)))))) = true → inR ((t1.getD v2.toNat (0 : Int)) - v1), (!(cond (decide ((t1.getD v2.toNat (0 : Int)) ≤ v1)) true (decide ((t0.length : Int) < (t1.getD v2.toNat (0 : Int)))))) = true → (!(cond (decide ((t1.getD v2.toNat (0 : Int)) ≤ v1)) true (decide ((t0.length : Int) < (t1.getD v2.toNat (0 : Int)))))) = true, (!(cond (decide ((t1.getD v2.toNat (0 : Int)) ≤ v1)) true (decide ((t0.length : Int) < (t1.getD v2.toNat (0 : Int)))))) = true → (!(cond (decide ((t1.getD v2.toNat (0 : Int)) ≤ v1)) true (decide ((t0.length : Int) < (t1.getD v2.toNat (0 : Int)))))) = true, (cond (decide ((t1.getD v2.toNat (0 : Int)) ≤ v1)) true (decide ((t0.length : Int) < (t1.getD v2.toNat (0 : Int))))) = false → (!(cond (decide ((t1.getD v2.toNat (0 : Int)) ≤ v1)) true (decide ((t0.length : Int) < (t1.getD v2.toNat (0 : Int)))))) = true] [(31, .bool (cond (cond (decide ((t1.getD v2.toNat (0 : Int)) ≤ v1)) true (decide ((t0.length : Int) < (t1.getD v2.toNat (0 : Int))))) true (decide (t2 ≤ ((t1.getD v2.toNat (0 : Int)) - v1))))), (9, .int .i64 (t1.getD v2.toNat (0 : Int))), (0, slA eS_Row t0), (2, .int .i64 t2), (10, slA (eI .i64) t1), (11, .int .i64 (t1.length : Int)), (12, .int .i64 v2)] (by kernel_rfl) ⟨(fun h => h), (fun h => h), (fun h => h), (fun h => by first | exact h | simpa using h), (fun h => h), (fun h => h), g6, (fun h => h), (fun h => h), (fun h => by first | exact h | simpa using h), trivial⟩ ?_
    refine OpsW.nil ?_
    refine AW.cond (b := cond (cond (decide ((t1.getD v2.toNat (0 : Int)) ≤ v1)) true (decide ((t0.length : Int) < (t1.getD v2.toNat (0 : Int))))) true (decide (t2 ≤ ((t1.getD v2.toNat (0 : Int)) - v1)))) rfl (fun c7 => ?_) (fun c7 => ?_)
    · replace H := condT c7 H
      refine AW.regionSeq ?_
      refine OpsW.seg 1 [6] [] [(6, .bool false)] (by kernel_rfl) trivial ?_
      refine OpsW.nil ?_
      obtain rfl := Option.some.inj H
      refine AW.recast (env' := [(6, .bool false)]) (h' := []) (StC.pure (.cons .im .nil)) ?_
      refine AW.ret ?_
      try simp only [Ex.then, Ex.inBlock, Ex.noGoto, Ex.jump, reduceIte, Nat.reduceEqDiff, reduceCtorEq]
      refine Done.gen rfl (.tmp .nil) ?_
      show _ = _
      kernel_rfl
    · replace H := condF c7 H
      refine AW.skip ?_
      refine AW.seq ?_
      refine AW.regionSeq ?_
      obtain ⟨g8, H⟩ := G_some H
      obtain ⟨g9, H⟩ := G_some H
      refine OpsW.seg 10 [41, 36, 9, 0, 2, 10, 11, 12] [(decide ((t1.getD v2.toNat (0 : Int)) < (t0.length : Int))) = true → (decide ((t1.getD v2.toNat (0 : Int)) < (t0.length : Int))) = true, (decide ((t1.getD v2.toNat (0 : Int)) < (t0.length : Int))) = true → inR ((t1.getD v2.toNat (0 : Int)) - (1 : Int)), (decide ((t1.getD v2.toNat (0 : Int)) < (t0.length : Int))) = true → (decide ((t1.getD v2.toNat (0 : Int)) < (t0.length : Int))) = true, (decide ((t1.getD v2.toNat (0 : Int)) < (t0.length : Int))) = true → (decide ((t1.getD v2.toNat (0 : Int)) < (t0.length : Int))) = true, (decide ((t1.getD v2.toNat (0 : Int)) < (t0.length : Int))) = true → (0 ≤ ((t1.getD v2.toNat (0 : Int)) - (1 : Int)) ∧ ((t1.getD v2.toNat (0 : Int)) - (1 : Int)) < (t0.length : Int)), (decide ((t1.getD v2.toNat (0 : Int)) < (t0.length : Int))) = true → (decide ((t1.getD v2.toNat (0 : Int)) < (t0.length : Int))) = true] [(41, .cnd (decide ((t1.getD v2.toNat (0 : Int)) < (t0.length : Int))) (.ipt (t0.flatMap eS_Row) (((t1.getD v2.toNat (0 : Int)) - (1 : Int)).toNat * 5 + 1))), (36, .bool (decide ((t1.getD v2.toNat (0 : Int)) < (t0.length : Int)))), (9, .int .i64 (t1.getD v2.toNat (0 : Int))), (0, slA eS_Row t0), (2, .int .i64 t2), (10, slA (eI .i64) t1), (11, .int .i64 (t1.length : Int)), (12, .int .i64 v2)] (by kernel_rfl) ⟨(fun h => h), g8, (fun h => h), (fun h => h), g9, (fun h => h), trivial⟩ ?_
      refine OpsW.asG (c := decide ((t1.getD v2.toNat (0 : Int)) < (t0.length : Int))) (.bool ((t0.getD ((t1.getD v2.toNat (0 : Int)) - (1 : Int)).toNat zS_Row).Keep)) rfl rfl rfl rfl (fun hc => T.load rfl hc (by kernel_rfl) (fm_cell eS_Row 5 (fun _ => rfl) t0 zS_Row ((t1.getD v2.toNat (0 : Int)) - (1 : Int)).toNat (ltN (g9 hc)) 1 (fun a => .val (.bool a.Keep)) (fun _ => rfl))) ?_
      refine OpsW.seg 1 [43, 9, 0, 2, 10, 11, 12] [(decide ((t1.getD v2.toNat (0 : Int)) < (t0.length : Int))) = true → (decide ((t1.getD v2.toNat (0 : Int)) < (t0.length : Int))) = true] [(43, .bool (cond (decide ((t1.getD v2.toNat (0 : Int)) < (t0.length : Int))) ((t0.getD ((t1.getD v2.toNat (0 : Int)) - (1 : Int)).toNat zS_Row).Keep) false)), (9, .int .i64 (t1.getD v2.toNat (0 : Int))), (0, slA eS_Row t0), (2, .int .i64 t2), (10, slA (eI .i64) t1), (11, .int .i64 (t1.length : Int)), (12, .int .i64 v2)] (by kernel_rfl) ⟨(fun h => by first | exact h | simpa using h), trivial⟩ ?_
      refine OpsW.nil ?_
      refine AW.cond (b := cond (decide ((t1.getD v2.toNat (0 : Int)) < (t0.length : Int))) ((t0.getD ((t1.getD v2.toNat (0 : Int)) - (1 : Int)).toNat zS_Row).Keep) false) rfl (fun c10 => ?_) (fun c10 => ?_)
      · replace H := condT c10 H
        refine AW.regionSeq ?_
        refine OpsW.seg 1 [6] [] [(6, .bool false)] (by kernel_rfl) trivial ?_
        refine OpsW.nil ?_
        obtain rfl := Option.some.inj H
        refine AW.recast (env' := [(6, .bool false)]) (h' := []) (StC.pure (.cons .im .nil)) ?_
        refine AW.ret ?_
        try simp only [Ex.then, Ex.inBlock, Ex.noGoto, Ex.jump, reduceIte, Nat.reduceEqDiff, reduceCtorEq]
        refine Done.gen rfl (.tmp .nil) ?_
        show _ = _
        kernel_rfl
      · replace H := condF c10 H
        refine AW.skip ?_
        refine AW.region ?_
        refine OpsW.seg 2 [7, 0, 2, 10, 11, 12] [] [(7, .int .i64 (t1.getD v2.toNat (0 : Int))), (0, slA eS_Row t0), (2, .int .i64 t2), (10, slA (eI .i64) t1), (11, .int .i64 (t1.length : Int)), (12, .int .i64 v2)] (by kernel_rfl) trivial ?_
        refine OpsW.nil ?_
        refine AW.region ?_
        obtain ⟨g11, H⟩ := G_some H
        refine OpsW.seg 2 [12, 7, 0, 2, 10, 11] [inR (v2 + (1 : Int))] [(12, .int .i64 (v2 + (1 : Int))), (7, .int .i64 (t1.getD v2.toNat (0 : Int))), (0, slA eS_Row t0), (2, .int .i64 t2), (10, slA (eI .i64) t1), (11, .int .i64 (t1.length : Int))] (by kernel_rfl) ⟨g11, trivial⟩ ?_
        refine OpsW.nil ?_
        show ∃ y, _ ∧ StC _ _ _ _
        exact ⟨(t1.getD v2.toNat (0 : Int), v2 + (1 : Int)), H, (StC.pure (.cons .im (.cons .im (.cons .im (.cons .im (.cons .im (.cons .im .nil)))))))⟩
  · replace H := condF c4 H
    refine AW.exit ?_
    refine AW.regionSeq ?_
    refine OpsW.seg 5 [6] [] [(6, .bool (v1 == (t0.length : Int)))] (by kernel_rfl) trivial ?_
    refine OpsW.nil ?_
    obtain rfl := Option.some.inj H
    refine AW.recast (env' := [(6, .bool (v1 == (t0.length : Int)))]) (h' := []) (StC.pure (.cons .im .nil)) ?_
    refine AW.ret ?_
    try simp only [Ex.then, Ex.inBlock, Ex.noGoto, Ex.jump, reduceIte, Nat.reduceEqDiff, reduceCtorEq]
    refine Done.gen rfl (.tmp .nil) ?_
    show _ = _
    kernel_rfl
def f_page_Part_k1 (loop13 : (Int × Int) → Option (Int × Int)) (v12 : Int) (v15 : Int) : Option (Int × Int) :=
  G (inR (v12 + (1 : Int))) <|
  loop13 (v15, v12 + (1 : Int))
def f_page_Part_b1 (t0 : List S_Row) (t1 : List Int) (t2 : Int) (v5 : Int) (loop13 : (Int × Int) → Option (Int × Int)) (v11 : Int) (v12 : Int) : Option (Int × Int) :=
  cond (decide (v12 ≤ t2)) (
    G (inR (v12 - (1 : Int))) <|
    G (0 ≤ (v12 - (1 : Int)) ∧ (v12 - (1 : Int)) < (t1.length : Int)) <|
    cond (decide (v5 < (t1.getD (v12 - (1 : Int)).toNat (0 : Int)))) (
      G (inR (v11 + (1 : Int))) <|
      f_page_Part_k1 loop13 v12 (v11 + (1 : Int))) (
      f_page_Part_k1 loop13 v12 v11)) (
    G (0 ≤ v5 ∧ v5 < (t0.length : Int)) <|
    some ((t0.getD v5.toNat zS_Row).Ink, (if (26 : Int) < v11 then (26 : Int) else v11)))
def f_page_Part_b2 (t0 : List S_Row) (t1 : List Int) (t2 : Int) (loop6 : (Int) → Option (Int × Int)) (v5 : Int) : Option (Int × Int) :=
  G ((decide ((0 : Int) ≤ v5)) = true → (0 ≤ v5 ∧ v5 < (t0.length : Int))) <|
  cond (cond (decide ((0 : Int) ≤ v5)) (decide (((t0.getD v5.toNat zS_Row).Ink) ≤ (0 : Int))) false) (
    G (inR (v5 - (1 : Int))) <|
    loop6 (v5 - (1 : Int))) (
    cond (decide (v5 < (0 : Int))) (
      some ((0 : Int), (if (26 : Int) < t2 then (26 : Int) else t2))) (
      iter (fun loop (s : Int × Int) => f_page_Part_b1 t0 t1 t2 v5 loop s.1 s.2) 1000000 ((0 : Int), (1 : Int))))
def f_page_Part (t0 : List S_Row) (t1 : List Int) (t2 : Int) : Option (Int × Int) :=
  cond (cond (decide (t2 < (0 : Int))) true (decide ((t1.length : Int) ≤ t2))) (
    some ((0 : Int), (0 : Int))) (
    G (0 ≤ t2 ∧ t2 ≤ (t1.length : Int)) <|
    (f_page_last (t1.take t2.toNat)).bind fun x3 =>
    cond (cond (decide (x3 < (0 : Int))) true (decide ((t0.length : Int) ≤ x3))) (
      some ((0 : Int), (0 : Int))) (
      iter (fun loop (s : Int) => f_page_Part_b2 t0 t1 t2 loop s) 1000000 x3))
theorem f_page_Part_ok {t0 : List S_Row} {t1 : List Int} {t2 : Int} {r : Int × Int} (H : f_page_Part t0 t1 t2 = some r) : QSpec Try.prog 21 [slA eS_Row t0, slA (eI .i64) t1, .int .i64 t2] (.tup [.int .i64 r.1, .int .i64 r.2]) := by
  refine Spec.of_AW Try.func21 rfl (by simp [Try.ntmps21]) ?_
  rw [Try.ntmps21]
  unfold f_page_Part at H
  change AW _ _ _ [(0, slA eS_Row t0), (1, slA (eI .i64) t1), (2, .int .i64 t2)] [] _
  refine AW.regionSeq ?_
  refine OpsW.seg 2 [0, 1, 2] [] [(0, slA eS_Row t0), (1, slA (eI .i64) t1), (2, .int .i64 t2)] (by kernel_rfl) trivial ?_
  refine OpsW.nil ?_
  refine AW.seq ?_
  refine AW.regionSeq ?_
  refine OpsW.seg 8 [18, 0, 1, 2] [(!(decide (t2 < (0 : Int)))) = true → (!(decide (t2 < (0 : Int)))) = true, (!(decide (t2 < (0 : Int)))) = true → (!(decide (t2 < (0 : Int)))) = true, (!(decide (t2 < (0 : Int)))) = true → (!(decide (t2 < (0 : Int)))) = true, (decide (t2 < (0 : Int))) = false → (!(decide (t2 < (0 : Int)))) = true] [(18, .bool (cond (decide (t2 < (0 : Int))) true (decide ((t1.length : Int) ≤ t2)))), (0, slA eS_Row t0), (1, slA (eI .i64) t1), (2, .int .i64 t2)] (by kernel_rfl) ⟨(fun h => h), (fun h => h), (fun h => h), (fun h => by first | exact h | simpa using h), trivial⟩ ?_
  refine OpsW.nil ?_
  refine AW.cond (b := cond (decide (t2 < (0 : Int))) true (decide ((t1.length : Int) ≤ t2))) rfl (fun c1 => ?_) (fun c1 => ?_)
  · replace H := condT c1 H
    refine AW.regionSeq ?_
    refine OpsW.seg 2 [7, 6] [] [(7, .int .i64 (0 : Int)), (6, .int .i64 (0 : Int))] (by kernel_rfl) trivial ?_
    refine OpsW.nil ?_
    obtain rfl := Option.some.inj H
    refine AW.recast (env' := [(6, .int .i64 (0 : Int)), (7, .int .i64 (0 : Int))]) (h' := []) (StC.pure (.cons .im (.cons .im .nil))) ?_
    refine AW.ret ?_
    try simp only [Ex.then, Ex.inBlock, Ex.noGoto, Ex.jump, reduceIte, Nat.reduceEqDiff, reduceCtorEq]
    refine Done.gen rfl (.tmp (.tmp .nil)) ?_
    show _ = _
    kernel_rfl
  · replace H := condF c1 H
    refine AW.skip ?_
    refine AW.regionSeq ?_
    refine OpsW.seg 2 [20, 19, 0, 1, 2] [] [(20, .int .i64 t2), (19, slA (eI .i64) t1), (0, slA eS_Row t0), (1, slA (eI .i64) t1), (2, .int .i64 t2)] (by kernel_rfl) trivial ?_
    obtain ⟨g2, H⟩ := G_some H
    refine OpsW.asU (slA (eI .i64) (t1.take t2.toNat)) rfl rfl (T.slice' rfl trivial trivial trivial (by kernel_rfl) (by kernel_rfl) g2 trivial (sl_hi (eI .i64) 1 (fun _ => rfl) t1 t2 g2)) ?_
    obtain ⟨x3, hx3, H⟩ := bindS H
    refine OpsW.qcall rfl (by kernel_rfl) rfl rfl (glAll_sound trivial) (.cons (.pur rfl) .nil) (f_page_last_ok hx3) rfl ?_
    refine OpsW.seg 1 [8, 0, 1, 2] [] [(8, .int .i64 x3), (0, slA eS_Row t0), (1, slA (eI .i64) t1), (2, .int .i64 t2)] (by kernel_rfl) trivial ?_
    refine OpsW.nil ?_
    refine AW.seq ?_
    refine AW.regionSeq ?_
    refine OpsW.seg 8 [30, 8, 0, 1, 2] [(!(decide (x3 < (0 : Int)))) = true → (!(decide (x3 < (0 : Int)))) = true, (!(decide (x3 < (0 : Int)))) = true → (!(decide (x3 < (0 : Int)))) = true, (!(decide (x3 < (0 : Int)))) = true → (!(decide (x3 < (0 : Int)))) = true, (decide (x3 < (0 : Int))) = false → (!(decide (x3 < (0 : Int)))) = true] [(30, .bool (cond (decide (x3 < (0 : Int))) true (decide ((t0.length : Int) ≤ x3)))), (8, .int .i64 x3), (0, slA eS_Row t0), (1, slA (eI .i64) t1), (2, .int .i64 t2)] (by kernel_rfl) ⟨(fun h => h), (fun h => h), (fun h => h), (fun h => by first | exact h | simpa using h), trivial⟩ ?_
    refine OpsW.nil ?_
    refine AW.cond (b := cond (decide (x3 < (0 : Int))) true (decide ((t0.length : Int) ≤ x3))) rfl (fun c4 => ?_) (fun c4 => ?_)
    · replace H := condT c4 H
      refine AW.regionSeq ?_
      refine OpsW.seg 2 [7, 6] [] [(7, .int .i64 (0 : Int)), (6, .int .i64 (0 : Int))] (by kernel_rfl) trivial ?_
      refine OpsW.nil ?_
      obtain rfl := Option.some.inj H
      refine AW.recast (env' := [(6, .int .i64 (0 : Int)), (7, .int .i64 (0 : Int))]) (h' := []) (StC.pure (.cons .im (.cons .im .nil))) ?_
      refine AW.ret ?_
      try simp only [Ex.then, Ex.inBlock, Ex.noGoto, Ex.jump, reduceIte, Nat.reduceEqDiff, reduceCtorEq]
      refine Done.gen rfl (.tmp (.tmp .nil)) ?_
      show _ = _
      kernel_rfl
    · replace H := condF c4 H
      refine AW.skip ?_
      refine AW.seq ?_
      refine AW.block ?_
      refine AW.iterK (fun loop (s : Int) => f_page_Part_b2 t0 t1 t2 loop s) r (fun (s : Int) => [(0, slA eS_Row t0), (1, slA (eI .i64) t1), (2, .int .i64 t2), (8, .int .i64 s)]) (fun (s : Int) => []) ?_ 1000000 x3 H (StC.pure (.cons .im (.cons .im (.cons .im (.cons .im .nil)))))
      intro loop6 v5 H
      change f_page_Part_b2 t0 t1 t2 loop6 v5 = some r at H
      unfold f_page_Part_b2 at H
      change AW _ _ _ [(0, slA eS_Row t0), (1, slA (eI .i64) t1), (2, .int .i64 t2), (8, .int .i64 v5)] [] _
      refine AW.seq ?_
      refine AW.regionSeq ?_
      obtain ⟨g7, H⟩ := G_some H
      refine OpsW.seg 7 [37, 33, 0, 1, 2, 8] [(decide ((0 : Int) ≤ v5)) = true → (decide ((0 : Int) ≤ v5)) = true, (decide ((0 : Int) ≤ v5)) = true → (decide ((0 : Int) ≤ v5)) = true, (decide ((0 : Int) ≤ v5)) = true → (0 ≤ v5 ∧ v5 < (t0.length : Int)), (decide ((0 : Int) ≤ v5)) = true → (decide ((0 : Int) ≤ v5)) = true] [(37, .cnd (decide ((0 : Int) ≤ v5)) (.ipt (t0.flatMap eS_Row) (v5.toNat * 5 + 2))), (33, .bool (decide ((0 : Int) ≤ v5))), (0, slA eS_Row t0), (1, slA (eI .i64) t1), (2, .int .i64 t2), (8, .int .i64 v5)] (by kernel_rfl) ⟨(fun h => h), (fun h => h), g7, (fun h => h), trivial⟩ ?_
      refine OpsW.asG (c := decide ((0 : Int) ≤ v5)) (.int .i64 ((t0.getD v5.toNat zS_Row).Ink)) rfl rfl rfl rfl (fun hc => T.load rfl hc (by kernel_rfl) (fm_cell eS_Row 5 (fun _ => rfl) t0 zS_Row v5.toNat (ltN (g7 hc)) 2 (fun a => .val (.int .i64 a.Ink)) (fun _ => rfl))) ?_
      refine OpsW.seg 2 [40, 0, 1, 2, 8] [(decide ((0 : Int) ≤ v5)) = true → (decide ((0 : Int) ≤ v5)) = true, (decide ((0 : Int) ≤ v5)) = true → (decide ((0 : Int) ≤ v5)) = true] [(40, .bool (cond (decide ((0 : Int) ≤ v5)) (decide (((t0.getD v5.toNat zS_Row).Ink) ≤ (0 : Int))) false)), (0, slA eS_Row t0), (1, slA (eI .i64) t1), (2, .int .i64 t2), (8, .int .i64 v5)] (by kernel_rfl) ⟨(fun h => h), (fun h => by first | exact h | simpa using h), trivial⟩ ?_
      refine OpsW.nil ?_
      refine AW.cond (b := cond (decide ((0 : Int) ≤ v5)) (decide (((t0.getD v5.toNat zS_Row).Ink) ≤ (0 : Int))) false) rfl (fun c8 => ?_) (fun c8 => ?_)
      · replace H := condT c8 H
        refine AW.skip ?_
        refine AW.block ?_
        refine AW.region ?_
        obtain ⟨g9, H⟩ := G_some H
        refine OpsW.seg 3 [8, 0, 1, 2] [inR (v5 - (1 : Int))] [(8, .int .i64 (v5 - (1 : Int))), (0, slA eS_Row t0), (1, slA (eI .i64) t1), (2, .int .i64 t2)] (by kernel_rfl) ⟨g9, trivial⟩ ?_
        refine OpsW.nil ?_
        show ∃ y, _ ∧ StC _ _ _ _
        exact ⟨v5 - (1 : Int), H, (StC.pure (.cons .im (.cons .im (.cons .im (.cons .im .nil)))))⟩
      · replace H := condF c8 H
        refine AW.exit ?_
        refine AW.seq ?_
        refine AW.regionSeq ?_
        refine OpsW.seg 2 [44, 0, 1, 2, 8] [] [(44, .bool (decide (v5 < (0 : Int)))), (0, slA eS_Row t0), (1, slA (eI .i64) t1), (2, .int .i64 t2), (8, .int .i64 v5)] (by kernel_rfl) trivial ?_
        refine OpsW.nil ?_
        refine AW.cond (b := decide (v5 < (0 : Int))) rfl (fun c10 => ?_) (fun c10 => ?_)
        · replace H := condT c10 H
          refine AW.regionSeq ?_
          refine OpsW.seg 4 [7, 6] [] [(7, .int .i64 (if (26 : Int) < t2 then (26 : Int) else t2)), (6, .int .i64 (0 : Int))] (by kernel_rfl) trivial ?_
          refine OpsW.nil ?_
          obtain rfl := Option.some.inj H
          refine AW.recast (env' := [(6, .int .i64 (0 : Int)), (7, .int .i64 (if (26 : Int) < t2 then (26 : Int) else t2))]) (h' := []) (StC.pure (.cons .im (.cons .im .nil))) ?_
          refine AW.ret ?_
          try simp only [Ex.then, Ex.inBlock, Ex.noGoto, Ex.jump, reduceIte, Nat.reduceEqDiff, reduceCtorEq]
          refine Done.gen rfl (.tmp (.tmp .nil)) ?_
          show _ = _
          kernel_rfl
        · replace H := condF c10 H
          refine AW.skip ?_
          refine AW.regionSeq ?_
          refine OpsW.seg 1 [9, 0, 1, 2, 8] [] [(9, .int .i64 (0 : Int)), (0, slA eS_Row t0), (1, slA (eI .i64) t1), (2, .int .i64 t2), (8, .int .i64 v5)] (by kernel_rfl) trivial ?_
          refine OpsW.nil ?_
          refine AW.seq ?_
          refine AW.regionSeq ?_
          refine OpsW.seg 1 [10, 9, 0, 1, 2, 8] [] [(10, .int .i64 (1 : Int)), (9, .int .i64 (0 : Int)), (0, slA eS_Row t0), (1, slA (eI .i64) t1), (2, .int .i64 t2), (8, .int .i64 v5)] (by kernel_rfl) trivial ?_
          refine OpsW.nil ?_
          refine AW.block ?_
          refine AW.iterK (fun loop (s : Int × Int) => f_page_Part_b1 t0 t1 t2 v5 loop s.1 s.2) r (fun (s : Int × Int) => [(0, slA eS_Row t0), (1, slA (eI .i64) t1), (2, .int .i64 t2), (8, .int .i64 v5), (9, .int .i64 s.1), (10, .int .i64 s.2)]) (fun (s : Int × Int) => []) ?_ 1000000 ((0 : Int), (1 : Int)) H (StC.pure (.cons .im (.cons .im (.cons .im (.cons .im (.cons .im (.cons .im .nil)))))))
          intro loop13 s H
          obtain ⟨v11, v12⟩ := s
          change f_page_Part_b1 t0 t1 t2 v5 loop13 v11 v12 = some r at H
          unfold f_page_Part_b1 at H
          change AW _ _ _ [(0, slA eS_Row t0), (1, slA (eI .i64) t1), (2, .int .i64 t2), (8, .int .i64 v5), (9, .int .i64 v11), (10, .int .i64 v12)] [] _
          refine AW.seq ?_
          refine AW.regionSeq ?_
          refine OpsW.seg 3 [49, 0, 1, 2, 8, 9, 10] [] [(49, .bool (decide (v12 ≤ t2))), (0, slA eS_Row t0), (1, slA (eI .i64) t1), (2, .int .i64 t2), (8, .int .i64 v5), (9, .int .i64 v11), (10, .int .i64 v12)] (by kernel_rfl) trivial ?_
          refine OpsW.nil ?_
          refine AW.cond (b := decide (v12 ≤ t2)) rfl (fun c14 => ?_) (fun c14 => ?_)
          · replace H := condT c14 H
            refine AW.skip ?_
            refine AW.joinK (fun (y : Int) => f_page_Part_k1 loop13 v12 y) r (fun (y : Int) => [(0, slA eS_Row t0), (1, slA (eI .i64) t1), (2, .int .i64 t2), (8, .int .i64 v5), (9, .int .i64 y), (10, .int .i64 v12)]) (fun (y : Int) => []) ?_ ?_
            · refine AW.block ?_
              refine AW.regionSeq ?_
              obtain ⟨g17, H⟩ := G_some H
              obtain ⟨g18, H⟩ := G_some H
              refine OpsW.seg 4 [55, 0, 1, 2, 8, 9, 10] [inR (v12 - (1 : Int)), 0 ≤ (v12 - (1 : Int)) ∧ (v12 - (1 : Int)) < (t1.length : Int)] [(55, .ipt (t1.flatMap (eI .i64)) ((v12 - (1 : Int)).toNat * 1)), (0, slA eS_Row t0), (1, slA (eI .i64) t1), (2, .int .i64 t2), (8, .int .i64 v5), (9, .int .i64 v11), (10, .int .i64 v12)] (by kernel_rfl) ⟨g17, g18, trivial⟩ ?_
              refine OpsW.asU (.int .i64 (t1.getD (v12 - (1 : Int)).toNat (0 : Int))) rfl rfl (T.load rfl trivial (by kernel_rfl) (fm_cell0 (eI .i64) 1 (fun _ => rfl) t1 (0 : Int) (v12 - (1 : Int)).toNat (ltN g18) (fun a => .val (.int .i64 a)) (fun _ => rfl))) ?_
              refine OpsW.seg 2 [58, 0, 1, 2, 8, 9, 10] [] [(58, .bool (decide (v5 < (t1.getD (v12 - (1 : Int)).toNat (0 : Int))))), (0, slA eS_Row t0), (1, slA (eI .i64) t1), (2, .int .i64 t2), (8, .int .i64 v5), (9, .int .i64 v11), (10, .int .i64 v12)] (by kernel_rfl) trivial ?_
              refine OpsW.nil ?_
              refine AW.cond (b := decide (v5 < (t1.getD (v12 - (1 : Int)).toNat (0 : Int)))) rfl (fun c19 => ?_) (fun c19 => ?_)
              · replace H := condT c19 H
                refine AW.region ?_
                obtain ⟨g20, H⟩ := G_some H
                refine OpsW.seg 3 [9, 0, 1, 2, 8, 10] [inR (v11 + (1 : Int))] [(9, .int .i64 (v11 + (1 : Int))), (0, slA eS_Row t0), (1, slA (eI .i64) t1), (2, .int .i64 t2), (8, .int .i64 v5), (10, .int .i64 v12)] (by kernel_rfl) ⟨g20, trivial⟩ ?_
                refine OpsW.nil ?_
                show ∃ y, _ ∧ StC _ _ _ _
                exact ⟨v11 + (1 : Int), H, (StC.pure (.cons .im (.cons .im (.cons .im (.cons .im (.cons .im (.cons .im .nil)))))))⟩
              · replace H := condF c19 H
                refine AW.skip ?_
                show ∃ y, _ ∧ StC _ _ _ _
                exact ⟨v11, H, (StC.pure (.cons .im (.cons .im (.cons .im (.cons .im (.cons .im (.cons .im .nil)))))))⟩
            · intro v15 H
              change f_page_Part_k1 loop13 v12 v15 = some r at H
              unfold f_page_Part_k1 at H
              change AW _ _ _ [(0, slA eS_Row t0), (1, slA (eI .i64) t1), (2, .int .i64 t2), (8, .int .i64 v5), (9, .int .i64 v15), (10, .int .i64 v12)] [] _
              refine AW.region ?_
              obtain ⟨g16, H⟩ := G_some H
              refine OpsW.seg 3 [10, 0, 1, 2, 8, 9] [inR (v12 + (1 : Int))] [(10, .int .i64 (v12 + (1 : Int))), (0, slA eS_Row t0), (1, slA (eI .i64) t1), (2, .int .i64 t2), (8, .int .i64 v5), (9, .int .i64 v15)] (by kernel_rfl) ⟨g16, trivial⟩ ?_
              refine OpsW.nil ?_
              show ∃ y, _ ∧ StC _ _ _ _
              exact ⟨(v15, v12 + (1 : Int)), H, (StC.pure (.cons .im (.cons .im (.cons .im (.cons .im (.cons .im (.cons .im .nil)))))))⟩
          · replace H := condF c14 H
            refine AW.exit ?_
            refine AW.regionSeq ?_
            obtain ⟨g21, H⟩ := G_some H
            refine OpsW.seg 4 [64, 9] [0 ≤ v5 ∧ v5 < (t0.length : Int)] [(64, .ipt (t0.flatMap eS_Row) (v5.toNat * 5 + 2)), (9, .int .i64 v11)] (by kernel_rfl) ⟨g21, trivial⟩ ?_
            refine OpsW.asU (.int .i64 ((t0.getD v5.toNat zS_Row).Ink)) rfl rfl (T.load rfl trivial (by kernel_rfl) (fm_cell eS_Row 5 (fun _ => rfl) t0 zS_Row v5.toNat (ltN g21) 2 (fun a => .val (.int .i64 a.Ink)) (fun _ => rfl))) ?_
            refine OpsW.seg 4 [7, 6] [] [(7, .int .i64 (if (26 : Int) < v11 then (26 : Int) else v11)), (6, .int .i64 ((t0.getD v5.toNat zS_Row).Ink))] (by kernel_rfl) trivial ?_
            refine OpsW.nil ?_
            obtain rfl := Option.some.inj H
            refine AW.recast (env' := [(6, .int .i64 ((t0.getD v5.toNat zS_Row).Ink)), (7, .int .i64 (if (26 : Int) < v11 then (26 : Int) else v11))]) (h' := []) (StC.pure (.cons .im (.cons .im .nil))) ?_
            refine AW.ret ?_
            try simp only [Ex.then, Ex.inBlock, Ex.noGoto, Ex.jump, reduceIte, Nat.reduceEqDiff, reduceCtorEq]
            refine Done.gen rfl (.tmp (.tmp .nil)) ?_
            show _ = _
            kernel_rfl
def f_page_Fill_k1 (v1 : Int) : Option ((List Int) × Int × Int) :=
  some ([], v1, (210 : Int))
def f_page_Fill_b1 (t0 : List S_Row) (t1 : Int) (loop5 : ((List Int) × Int) → Option ((List Int) × Int × Int)) (v3 : List Int) (v4 : Int) : Option ((List Int) × Int × Int) :=
  cond (decide (v4 < (t0.length : Int))) (
    (f_page_Next t0 v4 t1).bind fun x7 =>
    (f_page_last x7).bind fun x8 =>
    cond (x8 == (0 : Int)) (
      f_page_Fill_k1 v4) (
      G (room 8 (v3.length + 1)) <|
      loop5 (v3 ++ [x8], x8))) (
    some (v3, (0 : Int), (0 : Int)))
def f_page_Fill (t0 : List S_Row) (t1 : Int) : Option ((List Int) × Int × Int) :=
  cond (cond (decide (t1 < (4 : Int))) true (decide ((40 : Int) < t1))) (
    some ([], (0 : Int), (1 : Int))) (
    iter (fun loop (s : (List Int) × Int) => f_page_Fill_b1 t0 t1 loop s.1 s.2) 1000000 ([], (0 : Int)))
theorem f_page_Fill_ok {t0 : List S_Row} {t1 : Int} {r : (List Int) × Int × Int} (H : f_page_Fill t0 t1 = some r) : QSpec Try.prog 11 [slA eS_Row t0, .int .i64 t1] (.tup [slA (eI .i64) r.1, .int .i64 r.2.1, .int .i64 r.2.2]) := by
  refine Spec.of_AW Try.func11 rfl (by simp [Try.ntmps11]) ?_
  rw [Try.ntmps11]
  unfold f_page_Fill at H
  change AW _ _ _ [(0, slA eS_Row t0), (1, .int .i64 t1)] [] _
  refine AW.regionSeq ?_
  refine OpsW.seg 3 [0, 1] [] [(0, slA eS_Row t0), (1, .int .i64 t1)] (by kernel_rfl) trivial ?_
  refine OpsW.nil ?_
  refine AW.scopeK 0 (fun (y : Int) => f_page_Fill_k1 y) r (fun (y : Int) => [(8, .int .i64 y)]) (fun (y : Int) => []) rfl ?_ ?_
  · refine AW.seq ?_
    refine AW.regionSeq ?_
    refine OpsW.seg 6 [15, 0, 1] [(!(decide (t1 < (4 : Int)))) = true → (!(decide (t1 < (4 : Int)))) = true, (decide (t1 < (4 : Int))) = false → (!(decide (t1 < (4 : Int)))) = true] [(15, .bool (cond (decide (t1 < (4 : Int))) true (decide ((40 : Int) < t1)))), (0, slA eS_Row t0), (1, .int .i64 t1)] (by kernel_rfl) ⟨(fun h => h), (fun h => by first | exact h | simpa using h), trivial⟩ ?_
    refine OpsW.nil ?_
    refine AW.cond (b := cond (decide (t1 < (4 : Int))) true (decide ((40 : Int) < t1))) rfl (fun c2 => ?_) (fun c2 => ?_)
    · replace H := condT c2 H
      refine AW.regionSeq ?_
      refine OpsW.seg 3 [6, 5, 4] [] [(6, .int .i64 (1 : Int)), (5, .int .i64 (0 : Int)), (4, .im (.val (.slice none 0 0)))] (by kernel_rfl) trivial ?_
      refine OpsW.nil ?_
      obtain rfl := Option.some.inj H
      refine AW.recast (env' := [(4, slA (eI .i64) []), (5, .int .i64 (0 : Int)), (6, .int .i64 (1 : Int))]) (h' := []) (StC.pure (.cons .nil (.cons .im (.cons .im .nil)))) ?_
      refine AW.ret ?_
      try simp only [Ex.then, Ex.inBlock, Ex.noGoto, Ex.jump, reduceIte, Nat.reduceEqDiff, reduceCtorEq]
      refine Done.gen rfl (.tmp (.tmp (.tmp .nil))) ?_
      show _ = _
      kernel_rfl
    · replace H := condF c2 H
      refine AW.skip ?_
      refine AW.regionSeq ?_
      refine OpsW.seg 1 [7, 0, 1] [] [(7, .im (.val (.slice none 0 0))), (0, slA eS_Row t0), (1, .int .i64 t1)] (by kernel_rfl) trivial ?_
      refine OpsW.nil ?_
      refine AW.regionSeq ?_
      refine OpsW.seg 1 [8, 7, 0, 1] [] [(8, .int .i64 (0 : Int)), (7, .im (.val (.slice none 0 0))), (0, slA eS_Row t0), (1, .int .i64 t1)] (by kernel_rfl) trivial ?_
      refine OpsW.nil ?_
      refine AW.seq ?_
      refine AW.block ?_
      refine AW.iterK (fun loop (s : (List Int) × Int) => f_page_Fill_b1 t0 t1 loop s.1 s.2) r (fun (s : (List Int) × Int) => [(0, slA eS_Row t0), (1, .int .i64 t1), (7, .rsl 7 0 0 s.1.length), (8, .int .i64 s.2)]) (fun (s : (List Int) × Int) => [(7, rtA 0 3 1 (eI .i64) s.1)]) ?_ 1000000 ([], (0 : Int)) H (StC.mk (phi [(7, none)]) (.new rfl .nil) rfl (.cons .im (.cons .im (.cons (.nilr rfl rfl rfl) (.cons .im .nil)))))
      intro loop5 s H
      obtain ⟨v3, v4⟩ := s
      change f_page_Fill_b1 t0 t1 loop5 v3 v4 = some r at H
      unfold f_page_Fill_b1 at H
      change AW _ _ _ [(0, slA eS_Row t0), (1, .int .i64 t1), (7, .rsl 7 0 0 v3.length), (8, .int .i64 v4)] [(7, rtA 0 3 1 (eI .i64) v3)] _
      refine AW.seq ?_
      refine AW.regionSeq ?_
      refine OpsW.seg 4 [19, 0, 1, 7, 8] [] [(19, .bool (decide (v4 < (t0.length : Int)))), (0, slA eS_Row t0), (1, .int .i64 t1), (7, .rsl 7 0 0 v3.length), (8, .int .i64 v4)] (by kernel_rfl) trivial ?_
      refine OpsW.nil ?_
      refine AW.cond (b := decide (v4 < (t0.length : Int))) rfl (fun c6 => ?_) (fun c6 => ?_)
      · replace H := condT c6 H
        refine AW.skip ?_
        refine AW.block ?_
        refine AW.regionSeq ?_
        refine OpsW.seg 3 [22, 21, 20, 0, 1, 7, 8] [] [(22, .int .i64 t1), (21, .int .i64 v4), (20, slA eS_Row t0), (0, slA eS_Row t0), (1, .int .i64 t1), (7, .rsl 7 0 0 v3.length), (8, .int .i64 v4)] (by kernel_rfl) trivial ?_
        obtain ⟨x7, hx7, H⟩ := bindS H
        refine OpsW.qcall rfl (by kernel_rfl) rfl rfl (glAll_sound trivial) (.cons (.pur rfl) (.cons (.pur rfl) (.cons (.pur rfl) .nil))) (f_page_Next_ok hx7) rfl ?_
        obtain ⟨x8, hx8, H⟩ := bindS H
        refine OpsW.qcall rfl (by kernel_rfl) rfl rfl (glAll_sound trivial) (.cons (.pur rfl) .nil) (f_page_last_ok hx8) rfl ?_
        refine OpsW.seg 1 [9, 0, 1, 7, 8] [] [(9, .int .i64 x8), (0, slA eS_Row t0), (1, .int .i64 t1), (7, .rsl 7 0 0 v3.length), (8, .int .i64 v4)] (by kernel_rfl) trivial ?_
        refine OpsW.nil ?_
        refine AW.seq ?_
        refine AW.regionSeq ?_
        refine OpsW.seg 2 [26, 9, 0, 1, 7, 8] [] [(26, .bool (x8 == (0 : Int))), (9, .int .i64 x8), (0, slA eS_Row t0), (1, .int .i64 t1), (7, .rsl 7 0 0 v3.length), (8, .int .i64 v4)] (by kernel_rfl) trivial ?_
        refine OpsW.nil ?_
        refine AW.cond (b := x8 == (0 : Int)) rfl (fun c9 => ?_) (fun c9 => ?_)
        · replace H := condT c9 H
          refine AW.goto ?_
          show _ ∧ ∃ y, _ ∧ StC _ _ _ _
          exact ⟨rfl, v4, H, (StC.pure (.cons .im .nil))⟩
        · replace H := condF c9 H
          refine AW.skip ?_
          refine AW.regionSeq ?_
          refine OpsW.seg 2 [28, 27, 9, 0, 1, 7] [] [(28, .int .i64 x8), (27, .rsl 7 0 0 v3.length), (9, .int .i64 x8), (0, slA eS_Row t0), (1, .int .i64 t1), (7, .rsl 7 0 0 v3.length)] (by kernel_rfl) trivial ?_
          obtain ⟨g10, H⟩ := G_some H
          refine OpsW.appendLF (enc := eI .i64) [x8] rfl rfl rfl (by decide) rfl rfl rfl (by simp) E29 (fun _ => rfl) (by decide) trivial (by kernel_rfl) (by kernel_rfl) (by kernel_rfl) rfl rfl rfl g10 ?_
          refine OpsW.seg 1 [7, 9, 0, 1] [] [(7, .rsl 7 1 0 ((v3 ++ [x8]).length)), (9, .int .i64 x8), (0, slA eS_Row t0), (1, .int .i64 t1)] (by kernel_rfl) trivial ?_
          refine OpsW.recast (env' := [(7, .rsl 7 0 0 ((v3 ++ [x8]).length)), (9, .int .i64 x8), (0, slA eS_Row t0), (1, .int .i64 t1)]) (h' := [(7, rtA 0 3 1 (eI .i64) (v3 ++ [x8]))]) (StC.mk (phi [(7, some 7)]) (.old rfl rfl rfl rfl rfl (CstL.ims _) .nil) rfl (.cons (.rsl rfl rfl rfl rfl rfl rfl) (.cons .im (.cons .im (.cons .im .nil))))) ?_
          refine OpsW.nil ?_
          refine AW.region ?_
          refine OpsW.seg 2 [8, 7, 0, 1] [] [(8, .int .i64 x8), (7, .rsl 7 0 0 ((v3 ++ [x8]).length)), (0, slA eS_Row t0), (1, .int .i64 t1)] (by kernel_rfl) trivial ?_
          refine OpsW.nil ?_
          show ∃ y, _ ∧ StC _ _ _ _
          exact ⟨(v3 ++ [x8], x8), H, (StC.mk (phi [(7, some 7)]) (.old rfl rfl rfl rfl rfl (CstL.ims _) .nil) rfl (.cons .im (.cons .im (.cons (.rsl rfl rfl rfl rfl rfl rfl) (.cons .im .nil)))))⟩
      · replace H := condF c6 H
        refine AW.exit ?_
        refine AW.seq ?_
        refine AW.regionSeq ?_
        refine OpsW.seg 4 [6, 5, 4] [] [(6, .int .i64 (0 : Int)), (5, .int .i64 (0 : Int)), (4, .rsl 7 0 0 v3.length)] (by kernel_rfl) trivial ?_
        refine OpsW.recast (env' := [(6, .int .i64 (0 : Int)), (5, .int .i64 (0 : Int)), (4, slA (eI .i64) v3)]) (h' := []) (StC.mk (phi []) .nil rfl (.cons .im (.cons .im (.cons (.frz rfl rfl rfl (frz_all (eI .i64) 1 (fun _ => rfl) v3) (fm_length (eI .i64) 1 (fun _ => rfl) v3) (phi_ne rfl)) .nil)))) ?_
        refine OpsW.nil ?_
        obtain rfl := Option.some.inj H
        refine AW.recast (env' := [(4, slA (eI .i64) v3), (5, .int .i64 (0 : Int)), (6, .int .i64 (0 : Int))]) (h' := []) (StC.pure (.cons .im (.cons .im (.cons .im .nil)))) ?_
        refine AW.ret ?_
        try simp only [Ex.then, Ex.inBlock, Ex.noGoto, Ex.jump, reduceIte, Nat.reduceEqDiff, reduceCtorEq]
        refine Done.gen rfl (.tmp (.tmp (.tmp .nil))) ?_
        show _ = _
        kernel_rfl
  · intro v1 H
    change f_page_Fill_k1 v1 = some r at H
    unfold f_page_Fill_k1 at H
    change AW _ _ _ [(8, .int .i64 v1)] [] _
    refine AW.skipSeq ?_
    refine AW.regionSeq ?_
    refine OpsW.seg 4 [6, 5, 4] [] [(6, .int .i64 (210 : Int)), (5, .int .i64 v1), (4, .im (.val (.slice none 0 0)))] (by kernel_rfl) trivial ?_
    refine OpsW.nil ?_
    obtain rfl := Option.some.inj H
    refine AW.recast (env' := [(4, slA (eI .i64) []), (5, .int .i64 v1), (6, .int .i64 (210 : Int))]) (h' := []) (StC.pure (.cons .nil (.cons .im (.cons .im .nil)))) ?_
    refine AW.ret ?_
    try simp only [Ex.then, Ex.inBlock, Ex.noGoto, Ex.jump, reduceIte, Nat.reduceEqDiff, reduceCtorEq]
    refine Done.gen rfl (.tmp (.tmp (.tmp .nil))) ?_
    show _ = _
    kernel_rfl
def f_R21_Same_b1 (t0 : List Int) (t1 : List Int) (loop3 : (Int) → Option Bool) (v2 : Int) : Option Bool :=
  cond (decide (v2 < (t0.length : Int))) (
    G (0 ≤ v2 ∧ v2 < (t0.length : Int)) <|
    G (0 ≤ v2 ∧ v2 < (t1.length : Int)) <|
    cond ((t0.getD v2.toNat (0 : Int)) != (t1.getD v2.toNat (0 : Int))) (
      some false) (
      G (inR (v2 + (1 : Int))) <|
      loop3 (v2 + (1 : Int)))) (
    some true)
def f_R21_Same (t0 : List Int) (t1 : List Int) : Option Bool :=
  cond ((t0.length : Int) != (t1.length : Int)) (
    some false) (
    iter (fun loop (s : Int) => f_R21_Same_b1 t0 t1 loop s) 1000000 (0 : Int))
theorem f_R21_Same_ok {t0 : List Int} {t1 : List Int} {r : Bool} (H : f_R21_Same t0 t1 = some r) : QSpec Try.prog 13 [slA (eI .i64) t0, slA (eI .i64) t1] (.bool r) := by
  refine Spec.of_AW Try.func13 rfl (by simp [Try.ntmps13]) ?_
  rw [Try.ntmps13]
  unfold f_R21_Same at H
  change AW _ _ _ [(0, slA (eI .i64) t0), (1, slA (eI .i64) t1)] [] _
  refine AW.regionSeq ?_
  refine OpsW.seg 1 [0, 1] [] [(0, slA (eI .i64) t0), (1, slA (eI .i64) t1)] (by kernel_rfl) trivial ?_
  refine OpsW.nil ?_
  refine AW.seq ?_
  refine AW.regionSeq ?_
  refine OpsW.seg 5 [10, 0, 1] [] [(10, .bool ((t0.length : Int) != (t1.length : Int))), (0, slA (eI .i64) t0), (1, slA (eI .i64) t1)] (by kernel_rfl) trivial ?_
  refine OpsW.nil ?_
  refine AW.cond (b := (t0.length : Int) != (t1.length : Int)) rfl (fun c1 => ?_) (fun c1 => ?_)
  · replace H := condT c1 H
    refine AW.regionSeq ?_
    refine OpsW.seg 1 [4] [] [(4, .bool false)] (by kernel_rfl) trivial ?_
    refine OpsW.nil ?_
    obtain rfl := Option.some.inj H
    refine AW.recast (env' := [(4, .bool false)]) (h' := []) (StC.pure (.cons .im .nil)) ?_
    refine AW.ret ?_
    try simp only [Ex.then, Ex.inBlock, Ex.noGoto, Ex.jump, reduceIte, Nat.reduceEqDiff, reduceCtorEq]
    refine Done.gen rfl (.tmp .nil) ?_
    show _ = _
    kernel_rfl
  · replace H := condF c1 H
    refine AW.skip ?_
    refine AW.seq ?_
    refine AW.regionSeq ?_
    refine OpsW.seg 1 [5, 0, 1] [] [(5, .int .i64 (0 : Int)), (0, slA (eI .i64) t0), (1, slA (eI .i64) t1)] (by kernel_rfl) trivial ?_
    refine OpsW.nil ?_
    refine AW.block ?_
    refine AW.iterK (fun loop (s : Int) => f_R21_Same_b1 t0 t1 loop s) r (fun (s : Int) => [(0, slA (eI .i64) t0), (1, slA (eI .i64) t1), (5, .int .i64 s)]) (fun (s : Int) => []) ?_ 1000000 (0 : Int) H (StC.pure (.cons .im (.cons .im (.cons .im .nil))))
    intro loop3 v2 H
    change f_R21_Same_b1 t0 t1 loop3 v2 = some r at H
    unfold f_R21_Same_b1 at H
    change AW _ _ _ [(0, slA (eI .i64) t0), (1, slA (eI .i64) t1), (5, .int .i64 v2)] [] _
    refine AW.seq ?_
    refine AW.regionSeq ?_
    refine OpsW.seg 4 [14, 0, 1, 5] [] [(14, .bool (decide (v2 < (t0.length : Int)))), (0, slA (eI .i64) t0), (1, slA (eI .i64) t1), (5, .int .i64 v2)] (by kernel_rfl) trivial ?_
    refine OpsW.nil ?_
    refine AW.cond (b := decide (v2 < (t0.length : Int))) rfl (fun c4 => ?_) (fun c4 => ?_)
    · replace H := condT c4 H
      refine AW.skip ?_
      refine AW.seq ?_
      refine AW.block ?_
      refine AW.drawSeq Try.checked.mixed (by kernel_rfl) ?_
      obtain ⟨g5, H⟩ := G_some H
      refine QOps.seg (N := 26) 3 [0 ≤ v2 ∧ v2 < (t0.length : Int)] [(19, .ipt (t0.flatMap (eI .i64)) (v2.toNat * 1)), (18, .int .i64 v2), (17, slA (eI .i64) t0), (14, .bool (decide (v2 < (t0.length : Int)))), (0, slA (eI .i64) t0), (1, slA (eI .i64) t1), (5, .int .i64 v2)] (by kernel_rfl) ⟨g5, trivial⟩ ?_
      refine QOps.asU (.int .i64 (t0.getD v2.toNat (0 : Int))) rfl (T.load rfl trivial (by kernel_rfl) (fm_cell0 (eI .i64) 1 (fun _ => rfl) t0 (0 : Int) v2.toNat (ltN g5) (fun a => .val (.int .i64 a)) (fun _ => rfl))) ?_
      obtain ⟨g6, H⟩ := G_some H
      refine QOps.seg (N := 26) 3 [0 ≤ v2 ∧ v2 < (t1.length : Int)] [(23, .ipt (t1.flatMap (eI .i64)) (v2.toNat * 1)), (22, .int .i64 v2), (21, slA (eI .i64) t1), (20, .int .i64 (t0.getD v2.toNat (0 : Int))), (19, .ipt (t0.flatMap (eI .i64)) (v2.toNat * 1)), (18, .int .i64 v2), (17, slA (eI .i64) t0), (14, .bool (decide (v2 < (t0.length : Int)))), (0, slA (eI .i64) t0), (1, slA (eI .i64) t1), (5, .int .i64 v2)] (by kernel_rfl) ⟨g6, trivial⟩ ?_
      refine QOps.asU (.int .i64 (t1.getD v2.toNat (0 : Int))) rfl (T.load rfl trivial (by kernel_rfl) (fm_cell0 (eI .i64) 1 (fun _ => rfl) t1 (0 : Int) v2.toNat (ltN g6) (fun a => .val (.int .i64 a)) (fun _ => rfl))) ?_
      refine QOps.seg (N := 26) 1 [] [(25, .bool ((t0.getD v2.toNat (0 : Int)) != (t1.getD v2.toNat (0 : Int)))), (24, .int .i64 (t1.getD v2.toNat (0 : Int))), (23, .ipt (t1.flatMap (eI .i64)) (v2.toNat * 1)), (22, .int .i64 v2), (21, slA (eI .i64) t1), (20, .int .i64 (t0.getD v2.toNat (0 : Int))), (19, .ipt (t0.flatMap (eI .i64)) (v2.toNat * 1)), (18, .int .i64 v2), (17, slA (eI .i64) t0), (14, .bool (decide (v2 < (t0.length : Int)))), (0, slA (eI .i64) t0), (1, slA (eI .i64) t1), (5, .int .i64 v2)] (by kernel_rfl) trivial ?_
      refine QOps.nil ?_
      refine AW.trim [25, 0, 1, 5] [(25, .bool ((t0.getD v2.toNat (0 : Int)) != (t1.getD v2.toNat (0 : Int)))), (0, slA (eI .i64) t0), (1, slA (eI .i64) t1), (5, .int .i64 v2)] (by kernel_rfl) ?_
      refine AW.cond (b := (t0.getD v2.toNat (0 : Int)) != (t1.getD v2.toNat (0 : Int))) rfl (fun c7 => ?_) (fun c7 => ?_)
      · replace H := condT c7 H
        refine AW.regionSeq ?_
        refine OpsW.seg 1 [4] [] [(4, .bool false)] (by kernel_rfl) trivial ?_
        refine OpsW.nil ?_
        obtain rfl := Option.some.inj H
        refine AW.recast (env' := [(4, .bool false)]) (h' := []) (StC.pure (.cons .im .nil)) ?_
        refine AW.ret ?_
        try simp only [Ex.then, Ex.inBlock, Ex.noGoto, Ex.jump, reduceIte, Nat.reduceEqDiff, reduceCtorEq]
        refine Done.gen rfl (.tmp .nil) ?_
        show _ = _
        kernel_rfl
      · replace H := condF c7 H
        refine AW.skip ?_
        refine AW.region ?_
        obtain ⟨g8, H⟩ := G_some H
        refine OpsW.seg 3 [5, 0, 1] [inR (v2 + (1 : Int))] [(5, .int .i64 (v2 + (1 : Int))), (0, slA (eI .i64) t0), (1, slA (eI .i64) t1)] (by kernel_rfl) ⟨g8, trivial⟩ ?_
        refine OpsW.nil ?_
        show ∃ y, _ ∧ StC _ _ _ _
        exact ⟨v2 + (1 : Int), H, (StC.pure (.cons .im (.cons .im (.cons .im .nil))))⟩
    · replace H := condF c4 H
      refine AW.exit ?_
      refine AW.regionSeq ?_
      refine OpsW.seg 1 [4] [] [(4, .bool true)] (by kernel_rfl) trivial ?_
      refine OpsW.nil ?_
      obtain rfl := Option.some.inj H
      refine AW.recast (env' := [(4, .bool true)]) (h' := []) (StC.pure (.cons .im .nil)) ?_
      refine AW.ret ?_
      try simp only [Ex.then, Ex.inBlock, Ex.noGoto, Ex.jump, reduceIte, Nat.reduceEqDiff, reduceCtorEq]
      refine Done.gen rfl (.tmp .nil) ?_
      show _ = _
      kernel_rfl
def f_R21_Height (t0 : Int) : Option Int :=
  G (inR ((4 : Int) + (Int.tmod (IntKind.wrap .i64 t0) (8 : Int)))) <|
  some ((4 : Int) + (Int.tmod (IntKind.wrap .i64 t0) (8 : Int)))
theorem f_R21_Height_ok {t0 : Int} {r : Int} (H : f_R21_Height t0 = some r) : QSpec Try.prog 18 [.int .u8 t0] (.int .i64 r) := by
  refine Spec.of_AW Try.func18 rfl (by simp [Try.ntmps18]) ?_
  rw [Try.ntmps18]
  unfold f_R21_Height at H
  change AW _ _ _ [(0, .int .u8 t0)] [] _
  refine AW.regionSeq ?_
  refine OpsW.seg 1 [0] [] [(0, .int .u8 t0)] (by kernel_rfl) trivial ?_
  refine OpsW.nil ?_
  refine AW.regionSeq ?_
  obtain ⟨g1, H⟩ := G_some H
  refine OpsW.seg 5 [2] [(8 : Int) ≠ 0, inR ((4 : Int) + (Int.tmod (IntKind.wrap .i64 t0) (8 : Int)))] [(2, .int .i64 ((4 : Int) + (Int.tmod (IntKind.wrap .i64 t0) (8 : Int))))] (by kernel_rfl) ⟨(by decide), g1, trivial⟩ ?_
  refine OpsW.nil ?_
  obtain rfl := Option.some.inj H
  refine AW.recast (env' := [(2, .int .i64 ((4 : Int) + (Int.tmod (IntKind.wrap .i64 t0) (8 : Int))))]) (h' := []) (StC.pure (.cons .im .nil)) ?_
  refine AW.ret ?_
  try simp only [Ex.then, Ex.inBlock, Ex.noGoto, Ex.jump, reduceIte, Nat.reduceEqDiff, reduceCtorEq]
  refine Done.gen rfl (.tmp .nil) ?_
  show _ = _
  kernel_rfl
def f_L21_rows_b1 (t0 : ByteArray) (loop3 : ((List S_Row) × Int) → Option (List S_Row)) (v1 : List S_Row) (v2 : Int) : Option (List S_Row) :=
  cond (decide (v2 < (t0.size : Int))) (
    G (0 ≤ v2 ∧ v2 < (t0.size : Int)) <|
    G (room 56 (v1.length + 1)) <|
    G (inR (v2 + (1 : Int))) <|
    loop3 (v1 ++ [(⟨[], (bAt t0 v2) == (107 : Int), (0 : Int), (0 : Int), (0 : Int)⟩ : S_Row)], v2 + (1 : Int))) (
    some v1)
def f_L21_rows (t0 : ByteArray) : Option (List S_Row) :=
  iter (fun loop (s : (List S_Row) × Int) => f_L21_rows_b1 t0 loop s.1 s.2) 1000000 (([] : List S_Row), (0 : Int))
theorem f_L21_rows_own {t0 : ByteArray} {r : List S_Row} (H : f_L21_rows t0 = some r) : Abs.Spec Try.prog 24 [.string t0] [] (fun x h => x = .rsl 1000 0 0 r.length ∧ h = [(1000, rtA 0 54 5 eS_Row r)]) := by
  refine Spec.of_AW Try.func24 rfl (by simp [Try.ntmps24]) ?_
  rw [Try.ntmps24]
  unfold f_L21_rows at H
  change AW _ _ _ [(0, .string t0)] [] _
  refine AW.regionSeq ?_
  refine OpsW.seg 1 [0] [] [(0, .string t0)] (by kernel_rfl) trivial ?_
  refine OpsW.nil ?_
  refine AW.regionSeq ?_
  refine OpsW.buildT (enc := eS_Row) ([] : List S_Row) rfl rfl rfl 5 rfl E27 (fun _ => rfl) (by decide) trivial (by kernel_rfl) (by kernel_rfl) (by kernel_rfl) rfl ?_
  refine OpsW.seg 1 [3, 0] [] [(3, .rsl 5 0 0 (([] : List S_Row).length)), (0, .string t0)] (by kernel_rfl) trivial ?_
  refine OpsW.recast (env' := [(3, .rsl 3 0 0 (([] : List S_Row).length)), (0, .string t0)]) (h' := [(3, rtA 0 54 5 eS_Row ([] : List S_Row))]) (StC.mk (phi [(3, some 5)]) (.old rfl rfl rfl rfl rfl (CstL.ims _) .nil) rfl (.cons (.rsl rfl rfl rfl rfl rfl rfl) (.cons .im .nil))) ?_
  refine OpsW.nil ?_
  refine AW.seq ?_
  refine AW.regionSeq ?_
  refine OpsW.seg 1 [4, 3, 0] [] [(4, .int .i64 (0 : Int)), (3, .rsl 3 0 0 (([] : List S_Row).length)), (0, .string t0)] (by kernel_rfl) trivial ?_
  refine OpsW.nil ?_
  refine AW.block ?_
  refine AW.iterK (fun loop (s : (List S_Row) × Int) => f_L21_rows_b1 t0 loop s.1 s.2) r (fun (s : (List S_Row) × Int) => [(0, .string t0), (3, .rsl 3 0 0 s.1.length), (4, .int .i64 s.2)]) (fun (s : (List S_Row) × Int) => [(3, rtA 0 54 5 eS_Row s.1)]) ?_ 1000000 (([] : List S_Row), (0 : Int)) H (StC.mk (phi [(3, some 3)]) (.old rfl rfl rfl rfl rfl (CstL.ims _) .nil) rfl (.cons .im (.cons (.rsl rfl rfl rfl rfl rfl rfl) (.cons .im .nil))))
  intro loop3 s H
  obtain ⟨v1, v2⟩ := s
  change f_L21_rows_b1 t0 loop3 v1 v2 = some r at H
  unfold f_L21_rows_b1 at H
  change AW _ _ _ [(0, .string t0), (3, .rsl 3 0 0 v1.length), (4, .int .i64 v2)] [(3, rtA 0 54 5 eS_Row v1)] _
  refine AW.seq ?_
  refine AW.regionSeq ?_
  refine OpsW.seg 4 [9, 0, 3, 4] [] [(9, .bool (decide (v2 < (t0.size : Int)))), (0, .string t0), (3, .rsl 3 0 0 v1.length), (4, .int .i64 v2)] (by kernel_rfl) trivial ?_
  refine OpsW.nil ?_
  refine AW.cond (b := decide (v2 < (t0.size : Int))) rfl (fun c4 => ?_) (fun c4 => ?_)
  · replace H := condT c4 H
    refine AW.skip ?_
    refine AW.seq ?_
    refine AW.block ?_
    refine AW.region ?_
    obtain ⟨g5, H⟩ := G_some H
    refine OpsW.seg 6 [17, 12, 0, 3, 4] [0 ≤ v2 ∧ v2 < (t0.size : Int)] [(17, .agg [.im (.val (.slice none 0 0)), .bool ((bAt t0 v2) == (107 : Int)), .int .i64 (0 : Int), .int .i64 (0 : Int), .int .i64 (0 : Int)]), (12, .rsl 3 0 0 v1.length), (0, .string t0), (3, .rsl 3 0 0 v1.length), (4, .int .i64 v2)] (by kernel_rfl) ⟨g5, trivial⟩ ?_
    refine OpsW.recast (env' := [(17, .agg [slA (eI .u8) [], .bool ((bAt t0 v2) == (107 : Int)), .int .i64 (0 : Int), .int .i64 (0 : Int), .int .i64 (0 : Int)]), (12, .rsl 3 0 0 v1.length), (0, .string t0), (3, .rsl 3 0 0 v1.length), (4, .int .i64 v2)]) (h' := [(3, rtA 0 54 5 eS_Row v1)]) (StC.mk (phi [(3, some 3)]) (.old rfl rfl rfl rfl rfl (CstL.ims _) .nil) rfl (.cons (.agg (.cons .nil (.cons .im (.cons .im (.cons .im (.cons .im .nil)))))) (.cons (.rsl rfl rfl rfl rfl rfl rfl) (.cons .im (.cons (.rsl rfl rfl rfl rfl rfl rfl) (.cons .im .nil)))))) ?_
    obtain ⟨g6, H⟩ := G_some H
    refine OpsW.appendLF (enc := eS_Row) [(⟨[], (bAt t0 v2) == (107 : Int), (0 : Int), (0 : Int), (0 : Int)⟩ : S_Row)] rfl rfl rfl (by decide) rfl rfl rfl (by simp) E27 (fun _ => rfl) (by decide) trivial (by kernel_rfl) (by kernel_rfl) (by kernel_rfl) rfl rfl rfl g6 ?_
    refine OpsW.seg 1 [3, 0, 4] [] [(3, .rsl 3 1 0 ((v1 ++ [(⟨[], (bAt t0 v2) == (107 : Int), (0 : Int), (0 : Int), (0 : Int)⟩ : S_Row)]).length)), (0, .string t0), (4, .int .i64 v2)] (by kernel_rfl) trivial ?_
    refine OpsW.recast (env' := [(3, .rsl 3 0 0 ((v1 ++ [(⟨[], (bAt t0 v2) == (107 : Int), (0 : Int), (0 : Int), (0 : Int)⟩ : S_Row)]).length)), (0, .string t0), (4, .int .i64 v2)]) (h' := [(3, rtA 0 54 5 eS_Row (v1 ++ [(⟨[], (bAt t0 v2) == (107 : Int), (0 : Int), (0 : Int), (0 : Int)⟩ : S_Row)]))]) (StC.mk (phi [(3, some 3)]) (.old rfl rfl rfl rfl rfl (CstL.ims _) .nil) rfl (.cons (.rsl rfl rfl rfl rfl rfl rfl) (.cons .im (.cons .im .nil)))) ?_
    refine OpsW.nil ?_
    refine AW.region ?_
    obtain ⟨g7, H⟩ := G_some H
    refine OpsW.seg 3 [4, 3, 0] [inR (v2 + (1 : Int))] [(4, .int .i64 (v2 + (1 : Int))), (3, .rsl 3 0 0 ((v1 ++ [(⟨[], (bAt t0 v2) == (107 : Int), (0 : Int), (0 : Int), (0 : Int)⟩ : S_Row)]).length)), (0, .string t0)] (by kernel_rfl) ⟨g7, trivial⟩ ?_
    refine OpsW.nil ?_
    show ∃ y, _ ∧ StC _ _ _ _
    exact ⟨(v1 ++ [(⟨[], (bAt t0 v2) == (107 : Int), (0 : Int), (0 : Int), (0 : Int)⟩ : S_Row)], v2 + (1 : Int)), H, (StC.mk (phi [(3, some 3)]) (.old rfl rfl rfl rfl rfl (CstL.ims _) .nil) rfl (.cons .im (.cons (.rsl rfl rfl rfl rfl rfl rfl) (.cons .im .nil))))⟩
  · replace H := condF c4 H
    refine AW.exit ?_
    refine AW.regionSeq ?_
    refine OpsW.seg 2 [2] [] [(2, .rsl 3 0 0 v1.length)] (by kernel_rfl) trivial ?_
    refine OpsW.nil ?_
    obtain rfl := Option.some.inj H
    refine AW.recast (env' := [(2, .rsl 1000 0 0 v1.length)]) (h' := [(1000, rtA 0 54 5 eS_Row v1)]) (StC.mk (phi [(1000, some 3)]) (.old rfl rfl rfl rfl rfl (CstL.ims _) .nil) rfl (.cons (.rsl rfl rfl rfl rfl rfl rfl) .nil)) ?_
    refine AW.ret ?_
    try simp only [Ex.then, Ex.inBlock, Ex.noGoto, Ex.jump, reduceIte, Nat.reduceEqDiff, reduceCtorEq]
    refine Done.gen rfl (.tmp .nil) ?_
    exact ⟨by kernel_rfl, rfl⟩
theorem f_L21_rows_ok {t0 : ByteArray} {r : List S_Row} (H : f_L21_rows t0 = some r) : QSpec Try.prog 24 [.string t0] (slA eS_Row r) := by
  exact QSpec.of_own (f_L21_rows_own H) (.frz rfl rfl rfl (frz_all eS_Row 5 (fun _ => rfl) r) (fm_length eS_Row 5 (fun _ => rfl) r) (phi_ne rfl))
def f_R21_Made_k1 (loop3 : ((List S_Row) × Int) → Option (List S_Row)) (v2 : Int) (v5 : List S_Row) : Option (List S_Row) :=
  G (inR (v2 + (1 : Int))) <|
  loop3 (v5, v2 + (1 : Int))
def f_R21_Made_k2 (loop3 : ((List S_Row) × Int) → Option (List S_Row)) (v2 : Int) (v8 : List S_Row) (v9 : S_Row) : Option (List S_Row) :=
  G (room 56 (v8.length + 1)) <|
  f_R21_Made_k1 loop3 v2 (v8 ++ [v9])
def f_R21_Made_b1 (t0 : List Int) (loop3 : ((List S_Row) × Int) → Option (List S_Row)) (v1 : List S_Row) (v2 : Int) : Option (List S_Row) :=
  cond (cond (decide (v2 < (t0.length : Int))) (decide (v2 < (40 : Int))) false) (
    G (0 ≤ v2 ∧ v2 < (t0.length : Int)) <|
    cond ((Int.tmod (t0.getD v2.toNat (0 : Int)) (11 : Int)) == (0 : Int)) (
      G (inR ((1 : Int) + v2)) <|
      f_R21_Made_k2 loop3 v2 v1 (⟨[(1 : Int)], (Int.tmod (t0.getD v2.toNat (0 : Int)) (4 : Int)) == (1 : Int), (1 : Int) + v2, v2, (0 : Int)⟩ : S_Row)) (
      f_R21_Made_k2 loop3 v2 v1 (⟨[(1 : Int)], (Int.tmod (t0.getD v2.toNat (0 : Int)) (4 : Int)) == (1 : Int), (0 : Int), v2, (0 : Int)⟩ : S_Row))) (
    some v1)
def f_R21_Made (t0 : List Int) : Option (List S_Row) :=
  iter (fun loop (s : (List S_Row) × Int) => f_R21_Made_b1 t0 loop s.1 s.2) 1000000 (([] : List S_Row), (0 : Int))
theorem f_R21_Made_ok {t0 : List Int} {r : List S_Row} (H : f_R21_Made t0 = some r) : QSpec Try.prog 10 [slA (eI .u8) t0] (slA eS_Row r) := by
  refine Spec.of_AW Try.func10 rfl (by simp [Try.ntmps10]) ?_
  rw [Try.ntmps10]
  unfold f_R21_Made at H
  change AW _ _ _ [(0, slA (eI .u8) t0)] [] _
  refine AW.regionSeq ?_
  refine OpsW.seg 1 [0] [] [(0, slA (eI .u8) t0)] (by kernel_rfl) trivial ?_
  refine OpsW.nil ?_
  refine AW.regionSeq ?_
  refine OpsW.buildT (enc := eS_Row) ([] : List S_Row) rfl rfl rfl 6 rfl E27 (fun _ => rfl) (by decide) trivial (by kernel_rfl) (by kernel_rfl) (by kernel_rfl) rfl ?_
  refine OpsW.seg 1 [3, 0] [] [(3, .rsl 6 0 0 (([] : List S_Row).length)), (0, slA (eI .u8) t0)] (by kernel_rfl) trivial ?_
  refine OpsW.recast (env' := [(3, .rsl 3 0 0 (([] : List S_Row).length)), (0, slA (eI .u8) t0)]) (h' := [(3, rtA 0 54 5 eS_Row ([] : List S_Row))]) (StC.mk (phi [(3, some 6)]) (.old rfl rfl rfl rfl rfl (CstL.ims _) .nil) rfl (.cons (.rsl rfl rfl rfl rfl rfl rfl) (.cons .im .nil))) ?_
  refine OpsW.nil ?_
  refine AW.seq ?_
  refine AW.regionSeq ?_
  refine OpsW.seg 1 [4, 3, 0] [] [(4, .int .i64 (0 : Int)), (3, .rsl 3 0 0 (([] : List S_Row).length)), (0, slA (eI .u8) t0)] (by kernel_rfl) trivial ?_
  refine OpsW.nil ?_
  refine AW.block ?_
  refine AW.iterK (fun loop (s : (List S_Row) × Int) => f_R21_Made_b1 t0 loop s.1 s.2) r (fun (s : (List S_Row) × Int) => [(0, slA (eI .u8) t0), (3, .rsl 3 0 0 s.1.length), (4, .int .i64 s.2)]) (fun (s : (List S_Row) × Int) => [(3, rtA 0 54 5 eS_Row s.1)]) ?_ 1000000 (([] : List S_Row), (0 : Int)) H (StC.mk (phi [(3, some 3)]) (.old rfl rfl rfl rfl rfl (CstL.ims _) .nil) rfl (.cons .im (.cons (.rsl rfl rfl rfl rfl rfl rfl) (.cons .im .nil))))
  intro loop3 s H
  obtain ⟨v1, v2⟩ := s
  change f_R21_Made_b1 t0 loop3 v1 v2 = some r at H
  unfold f_R21_Made_b1 at H
  change AW _ _ _ [(0, slA (eI .u8) t0), (3, .rsl 3 0 0 v1.length), (4, .int .i64 v2)] [(3, rtA 0 54 5 eS_Row v1)] _
  refine AW.seq ?_
  refine AW.regionSeq ?_
  refine OpsW.seg 8 [14, 0, 3, 4] [(decide (v2 < (t0.length : Int))) = true → (decide (v2 < (t0.length : Int))) = true, (decide (v2 < (t0.length : Int))) = true → (decide (v2 < (t0.length : Int))) = true] [(14, .bool (cond (decide (v2 < (t0.length : Int))) (decide (v2 < (40 : Int))) false)), (0, slA (eI .u8) t0), (3, .rsl 3 0 0 v1.length), (4, .int .i64 v2)] (by kernel_rfl) ⟨(fun h => h), (fun h => by first | exact h | simpa using h), trivial⟩ ?_
  refine OpsW.nil ?_
  refine AW.cond (b := cond (decide (v2 < (t0.length : Int))) (decide (v2 < (40 : Int))) false) rfl (fun c4 => ?_) (fun c4 => ?_)
  · replace H := condT c4 H
    refine AW.skip ?_
    refine AW.joinK (fun (y : (List S_Row)) => f_R21_Made_k1 loop3 v2 y) r (fun (y : (List S_Row)) => [(0, slA (eI .u8) t0), (3, .rsl 3 0 0 y.length), (4, .int .i64 v2)]) (fun (y : (List S_Row)) => [(3, rtA 0 54 5 eS_Row y)]) ?_ ?_
    · refine AW.block ?_
      refine AW.regionSeq ?_
      refine OpsW.buildTI (enc := eI .u8) [(1 : Int)] rfl rfl rfl E52 (fun _ => rfl) (by decide) ⟨trivial, by kernel_rfl, by kernel_rfl, by kernel_rfl, rfl⟩ ?_
      obtain ⟨g7, H⟩ := G_some H
      refine OpsW.seg 3 [20, 17, 0, 3, 4] [0 ≤ v2 ∧ v2 < (t0.length : Int)] [(20, .ipt (t0.flatMap (eI .u8)) (v2.toNat * 1)), (17, slA (eI .u8) [(1 : Int)]), (0, slA (eI .u8) t0), (3, .rsl 3 0 0 v1.length), (4, .int .i64 v2)] (by kernel_rfl) ⟨g7, trivial⟩ ?_
      refine OpsW.asU (.int .u8 (t0.getD v2.toNat (0 : Int))) rfl rfl (T.load rfl trivial (by kernel_rfl) (fm_cell0 (eI .u8) 1 (fun _ => rfl) t0 (0 : Int) v2.toNat (ltN g7) (fun a => .val (.int .u8 a)) (fun _ => rfl))) ?_
      refine OpsW.seg 4 [25, 0, 3, 4] [(4 : Int) ≠ 0] [(25, .agg [slA (eI .u8) [(1 : Int)], .bool ((Int.tmod (t0.getD v2.toNat (0 : Int)) (4 : Int)) == (1 : Int)), .int .i64 (0 : Int), .int .i64 v2, .int .i64 (0 : Int)]), (0, slA (eI .u8) t0), (3, .rsl 3 0 0 v1.length), (4, .int .i64 v2)] (by kernel_rfl) ⟨(by decide), trivial⟩ ?_
      refine OpsW.alloc' rfl rfl rfl 5 rfl (by kernel_rfl : zc Try.prog 54 = some [.slice none 0 0, .bool false, .int .i64 0, .int .i64 0, .int .i64 0]) (by kernel_rfl) ?_
      refine OpsW.store rfl rfl rfl rfl trivial trivial rfl rfl rfl (by kernel_rfl) (okCb_sound (by kernel_rfl)) (Nat.le_of_ble_eq_true (by kernel_rfl)) ?_
      change OpsW _ _ _ _ _ [(5, ⟨0, true, 54, 5, [slA (eI .u8) [(1 : Int)], .bool ((Int.tmod (t0.getD v2.toNat (0 : Int)) (4 : Int)) == (1 : Int)), .int .i64 (0 : Int), .int .i64 v2, .int .i64 (0 : Int)]⟩), (5, ⟨0, true, 54, 5, [.im (.val (.slice none 0 0)), .bool false, .int .i64 (0 : Int), .int .i64 (0 : Int), .int .i64 (0 : Int)]⟩), (3, rtA 0 54 5 eS_Row v1)] _
      refine OpsW.seg 0 [5, 0, 3, 4] [] [(5, .ref 5 0 0), (0, slA (eI .u8) t0), (3, .rsl 3 0 0 v1.length), (4, .int .i64 v2)] (by kernel_rfl) trivial ?_
      refine OpsW.recast (env' := [(5, .ref 5 0 0), (0, slA (eI .u8) t0), (3, .rsl 3 0 0 v1.length), (4, .int .i64 v2)]) (h' := [(3, rtA 0 54 5 eS_Row v1), (5, ⟨0, true, 54, 5, [slA (eI .u8) [(1 : Int)], .bool ((Int.tmod (t0.getD v2.toNat (0 : Int)) (4 : Int)) == (1 : Int)), .int .i64 (0 : Int), .int .i64 v2, .int .i64 (0 : Int)]⟩)]) (StC.mk (phi [(3, some 3), (5, some 5)]) (.old rfl rfl rfl rfl rfl (CstL.ims _) (.old rfl rfl rfl rfl rfl (.cons .im (.cons .im (.cons .im (.cons .im (.cons .im .nil))))) .nil)) rfl (.cons (.ref rfl rfl rfl rfl rfl) (.cons .im (.cons (.rsl rfl rfl rfl rfl rfl rfl) (.cons .im .nil))))) ?_
      refine OpsW.nil ?_
      refine AW.joinK (fun (y : (List S_Row) × S_Row) => f_R21_Made_k2 loop3 v2 y.1 y.2) r (fun (y : (List S_Row) × S_Row) => [(0, slA (eI .u8) t0), (3, .rsl 3 0 0 y.1.length), (4, .int .i64 v2), (5, .ref 5 0 0)]) (fun (y : (List S_Row) × S_Row) => [(3, rtA 0 54 5 eS_Row y.1), (5, ⟨0, true, 54, 5, [slA (eI .u8) y.2.Line, .bool y.2.Keep, .int .i64 y.2.Ink, .int .i64 y.2.Block, .int .i64 y.2.At]⟩)]) ?_ ?_
      · refine AW.regionSeq ?_
        refine OpsW.seg 3 [28, 5, 0, 3, 4] [0 ≤ v2 ∧ v2 < (t0.length : Int)] [(28, .ipt (t0.flatMap (eI .u8)) (v2.toNat * 1)), (5, .ref 5 0 0), (0, slA (eI .u8) t0), (3, .rsl 3 0 0 v1.length), (4, .int .i64 v2)] (by kernel_rfl) ⟨g7, trivial⟩ ?_
        refine OpsW.asU (.int .u8 (t0.getD v2.toNat (0 : Int))) rfl rfl (T.load rfl trivial (by kernel_rfl) (fm_cell0 (eI .u8) 1 (fun _ => rfl) t0 (0 : Int) v2.toNat (ltN g7) (fun a => .val (.int .u8 a)) (fun _ => rfl))) ?_
        refine OpsW.seg 2 [31, 5, 0, 3, 4] [(11 : Int) ≠ 0] [(31, .bool ((Int.tmod (t0.getD v2.toNat (0 : Int)) (11 : Int)) == (0 : Int))), (5, .ref 5 0 0), (0, slA (eI .u8) t0), (3, .rsl 3 0 0 v1.length), (4, .int .i64 v2)] (by kernel_rfl) ⟨(by decide), trivial⟩ ?_
        refine OpsW.nil ?_
        refine AW.cond (b := (Int.tmod (t0.getD v2.toNat (0 : Int)) (11 : Int)) == (0 : Int)) rfl (fun c11 => ?_) (fun c11 => ?_)
        · replace H := condT c11 H
          refine AW.region ?_
          obtain ⟨g12, H⟩ := G_some H
          refine OpsW.seg 3 [34, 33, 5, 0, 3, 4] [inR ((1 : Int) + v2)] [(34, .ref 5 0 2), (33, .int .i64 ((1 : Int) + v2)), (5, .ref 5 0 0), (0, slA (eI .u8) t0), (3, .rsl 3 0 0 v1.length), (4, .int .i64 v2)] (by kernel_rfl) ⟨g12, trivial⟩ ?_
          refine OpsW.store rfl rfl rfl rfl trivial trivial rfl rfl rfl (by kernel_rfl) (okCb_sound (by kernel_rfl)) (Nat.le_of_ble_eq_true (by kernel_rfl)) ?_
          change OpsW _ _ _ _ _ [(5, ⟨0, true, 54, 5, [slA (eI .u8) [(1 : Int)], .bool ((Int.tmod (t0.getD v2.toNat (0 : Int)) (4 : Int)) == (1 : Int)), .int .i64 ((1 : Int) + v2), .int .i64 v2, .int .i64 (0 : Int)]⟩), (3, rtA 0 54 5 eS_Row v1), (5, ⟨0, true, 54, 5, [slA (eI .u8) [(1 : Int)], .bool ((Int.tmod (t0.getD v2.toNat (0 : Int)) (4 : Int)) == (1 : Int)), .int .i64 (0 : Int), .int .i64 v2, .int .i64 (0 : Int)]⟩)] _
          refine OpsW.seg 0 [5, 0, 3, 4] [] [(5, .ref 5 0 0), (0, slA (eI .u8) t0), (3, .rsl 3 0 0 v1.length), (4, .int .i64 v2)] (by kernel_rfl) trivial ?_
          refine OpsW.recast (env' := [(5, .ref 5 0 0), (0, slA (eI .u8) t0), (3, .rsl 3 0 0 v1.length), (4, .int .i64 v2)]) (h' := [(3, rtA 0 54 5 eS_Row v1), (5, ⟨0, true, 54, 5, [slA (eI .u8) [(1 : Int)], .bool ((Int.tmod (t0.getD v2.toNat (0 : Int)) (4 : Int)) == (1 : Int)), .int .i64 ((1 : Int) + v2), .int .i64 v2, .int .i64 (0 : Int)]⟩)]) (StC.mk (phi [(3, some 3), (5, some 5)]) (.old rfl rfl rfl rfl rfl (CstL.ims _) (.old rfl rfl rfl rfl rfl (.cons .im (.cons .im (.cons .im (.cons .im (.cons .im .nil))))) .nil)) rfl (.cons (.ref rfl rfl rfl rfl rfl) (.cons .im (.cons (.rsl rfl rfl rfl rfl rfl rfl) (.cons .im .nil))))) ?_
          refine OpsW.nil ?_
          show ∃ y, _ ∧ StC _ _ _ _
          exact ⟨(v1, (⟨[(1 : Int)], (Int.tmod (t0.getD v2.toNat (0 : Int)) (4 : Int)) == (1 : Int), (1 : Int) + v2, v2, (0 : Int)⟩ : S_Row)), H, (StC.mk (phi [(3, some 3), (5, some 5)]) (.old rfl rfl rfl rfl rfl (CstL.ims _) (.old rfl rfl rfl rfl rfl (.cons .im (.cons .im (.cons .im (.cons .im (.cons .im .nil))))) .nil)) rfl (.cons .im (.cons (.rsl rfl rfl rfl rfl rfl rfl) (.cons .im (.cons (.ref rfl rfl rfl rfl rfl) .nil)))))⟩
        · replace H := condF c11 H
          refine AW.skip ?_
          show ∃ y, _ ∧ StC _ _ _ _
          exact ⟨(v1, (⟨[(1 : Int)], (Int.tmod (t0.getD v2.toNat (0 : Int)) (4 : Int)) == (1 : Int), (0 : Int), v2, (0 : Int)⟩ : S_Row)), H, (StC.mk (phi [(3, some 3), (5, some 5)]) (.old rfl rfl rfl rfl rfl (CstL.ims _) (.old rfl rfl rfl rfl rfl (.cons .im (.cons .im (.cons .im (.cons .im (.cons .im .nil))))) .nil)) rfl (.cons .im (.cons (.rsl rfl rfl rfl rfl rfl rfl) (.cons .im (.cons (.ref rfl rfl rfl rfl rfl) .nil)))))⟩
      · rintro ⟨v8, v9⟩ H
        change f_R21_Made_k2 loop3 v2 v8 v9 = some r at H
        unfold f_R21_Made_k2 at H
        change AW _ _ _ [(0, slA (eI .u8) t0), (3, .rsl 3 0 0 v8.length), (4, .int .i64 v2), (5, .ref 5 0 0)] [(3, rtA 0 54 5 eS_Row v8), (5, ⟨0, true, 54, 5, [slA (eI .u8) v9.Line, .bool v9.Keep, .int .i64 v9.Ink, .int .i64 v9.Block, .int .i64 v9.At]⟩)] _
        refine AW.region ?_
        refine OpsW.seg 2 [36, 35, 0, 3, 4] [] [(36, .agg [slA (eI .u8) v9.Line, .bool v9.Keep, .int .i64 v9.Ink, .int .i64 v9.Block, .int .i64 v9.At]), (35, .rsl 3 0 0 v8.length), (0, slA (eI .u8) t0), (3, .rsl 3 0 0 v8.length), (4, .int .i64 v2)] (by kernel_rfl) trivial ?_
        obtain ⟨g10, H⟩ := G_some H
        refine OpsW.appendLF (enc := eS_Row) [v9] rfl rfl rfl (by decide) rfl rfl rfl (by simp) E27 (fun _ => rfl) (by decide) trivial (by kernel_rfl) (by kernel_rfl) (by kernel_rfl) rfl rfl rfl g10 ?_
        refine OpsW.seg 1 [3, 0, 4] [] [(3, .rsl 3 1 0 ((v8 ++ [v9]).length)), (0, slA (eI .u8) t0), (4, .int .i64 v2)] (by kernel_rfl) trivial ?_
        refine OpsW.recast (env' := [(3, .rsl 3 0 0 ((v8 ++ [v9]).length)), (0, slA (eI .u8) t0), (4, .int .i64 v2)]) (h' := [(3, rtA 0 54 5 eS_Row (v8 ++ [v9]))]) (StC.mk (phi [(3, some 3)]) (.old rfl rfl rfl rfl rfl (CstL.ims _) .nil) rfl (.cons (.rsl rfl rfl rfl rfl rfl rfl) (.cons .im (.cons .im .nil)))) ?_
        refine OpsW.nil ?_
        show ∃ y, _ ∧ StC _ _ _ _
        exact ⟨v8 ++ [v9], H, (StC.mk (phi [(3, some 3)]) (.old rfl rfl rfl rfl rfl (CstL.ims _) .nil) rfl (.cons .im (.cons (.rsl rfl rfl rfl rfl rfl rfl) (.cons .im .nil))))⟩
    · intro v5 H
      change f_R21_Made_k1 loop3 v2 v5 = some r at H
      unfold f_R21_Made_k1 at H
      change AW _ _ _ [(0, slA (eI .u8) t0), (3, .rsl 3 0 0 v5.length), (4, .int .i64 v2)] [(3, rtA 0 54 5 eS_Row v5)] _
      refine AW.region ?_
      obtain ⟨g6, H⟩ := G_some H
      refine OpsW.seg 3 [4, 0, 3] [inR (v2 + (1 : Int))] [(4, .int .i64 (v2 + (1 : Int))), (0, slA (eI .u8) t0), (3, .rsl 3 0 0 v5.length)] (by kernel_rfl) ⟨g6, trivial⟩ ?_
      refine OpsW.nil ?_
      show ∃ y, _ ∧ StC _ _ _ _
      exact ⟨(v5, v2 + (1 : Int)), H, (StC.mk (phi [(3, some 3)]) (.old rfl rfl rfl rfl rfl (CstL.ims _) .nil) rfl (.cons .im (.cons (.rsl rfl rfl rfl rfl rfl rfl) (.cons .im .nil))))⟩
  · replace H := condF c4 H
    refine AW.exit ?_
    refine AW.regionSeq ?_
    refine OpsW.seg 2 [2] [] [(2, .rsl 3 0 0 v1.length)] (by kernel_rfl) trivial ?_
    refine OpsW.recast (env' := [(2, slA eS_Row v1)]) (h' := []) (StC.mk (phi []) .nil rfl (.cons (.frz rfl rfl rfl (frz_all eS_Row 5 (fun _ => rfl) v1) (fm_length eS_Row 5 (fun _ => rfl) v1) (phi_ne rfl)) .nil)) ?_
    refine OpsW.nil ?_
    obtain rfl := Option.some.inj H
    refine AW.recast (env' := [(2, slA eS_Row v1)]) (h' := []) (StC.pure (.cons .im .nil)) ?_
    refine AW.ret ?_
    try simp only [Ex.then, Ex.inBlock, Ex.noGoto, Ex.jump, reduceIte, Nat.reduceEqDiff, reduceCtorEq]
    refine Done.gen rfl (.tmp .nil) ?_
    show _ = _
    kernel_rfl
def f_R21_Next_k1 (loop5 : ((List Int) × Int) → Option (List Int)) (v4 : Int) (v9 : List Int) : Option (List Int) :=
  G (inR (v4 + (1 : Int))) <|
  loop5 (v9, v4 + (1 : Int))
def f_R21_Next_b1 (t0 : List S_Row) (t1 : Int) (t2 : Int) (loop5 : ((List Int) × Int) → Option (List Int)) (v3 : List Int) (v4 : Int) : Option (List Int) :=
  G ((decide (v4 ≤ (t0.length : Int))) = true → inR (v4 - t1)) <|
  G ((decide (v4 ≤ (t0.length : Int))) = true → inR (t2 - (1 : Int))) <|
  cond (cond (decide (v4 ≤ (t0.length : Int))) (decide ((v4 - t1) ≤ (t2 - (1 : Int)))) false) (
    G ((!(v4 == (t0.length : Int))) = true → inR (v4 - (1 : Int))) <|
    G ((!(v4 == (t0.length : Int))) = true → (0 ≤ (v4 - (1 : Int)) ∧ (v4 - (1 : Int)) < (t0.length : Int))) <|
    cond (cond (v4 == (t0.length : Int)) true (!((t0.getD (v4 - (1 : Int)).toNat zS_Row).Keep))) (
      G (room 8 (v3.length + 1)) <|
      f_R21_Next_k1 loop5 v4 (v3 ++ [v4])) (
      f_R21_Next_k1 loop5 v4 v3)) (
    some v3)
def f_R21_Next (t0 : List S_Row) (t1 : Int) (t2 : Int) : Option (List Int) :=
  cond (cond (decide (t1 < (0 : Int))) true (decide (t2 < (2 : Int)))) (
    some ([] : List Int)) (
    G (inR (t1 + (1 : Int))) <|
    iter (fun loop (s : (List Int) × Int) => f_R21_Next_b1 t0 t1 t2 loop s.1 s.2) 1000000 (([] : List Int), t1 + (1 : Int)))
theorem f_R21_Next_ok {t0 : List S_Row} {t1 : Int} {t2 : Int} {r : List Int} (H : f_R21_Next t0 t1 t2 = some r) : QSpec Try.prog 17 [slA eS_Row t0, .int .i64 t1, .int .i64 t2] (slA (eI .i64) r) := by
  refine Spec.of_AW Try.func17 rfl (by simp [Try.ntmps17]) ?_
  rw [Try.ntmps17]
  unfold f_R21_Next at H
  change AW _ _ _ [(0, slA eS_Row t0), (1, .int .i64 t1), (2, .int .i64 t2)] [] _
  refine AW.regionSeq ?_
  refine OpsW.seg 1 [0, 1, 2] [] [(0, slA eS_Row t0), (1, .int .i64 t1), (2, .int .i64 t2)] (by kernel_rfl) trivial ?_
  refine OpsW.nil ?_
  refine AW.regionSeq ?_
  refine OpsW.buildT (enc := eI .i64) ([] : List Int) rfl rfl rfl 9 rfl E29 (fun _ => rfl) (by decide) trivial (by kernel_rfl) (by kernel_rfl) (by kernel_rfl) rfl ?_
  refine OpsW.seg 1 [7, 0, 1, 2] [] [(7, .rsl 9 0 0 (([] : List Int).length)), (0, slA eS_Row t0), (1, .int .i64 t1), (2, .int .i64 t2)] (by kernel_rfl) trivial ?_
  refine OpsW.recast (env' := [(7, .rsl 7 0 0 (([] : List Int).length)), (0, slA eS_Row t0), (1, .int .i64 t1), (2, .int .i64 t2)]) (h' := [(7, rtA 0 3 1 (eI .i64) ([] : List Int))]) (StC.mk (phi [(7, some 9)]) (.old rfl rfl rfl rfl rfl (CstL.ims _) .nil) rfl (.cons (.rsl rfl rfl rfl rfl rfl rfl) (.cons .im (.cons .im (.cons .im .nil))))) ?_
  refine OpsW.nil ?_
  refine AW.seq ?_
  refine AW.regionSeq ?_
  refine OpsW.seg 6 [15, 7, 0, 1, 2] [(!(decide (t1 < (0 : Int)))) = true → (!(decide (t1 < (0 : Int)))) = true, (decide (t1 < (0 : Int))) = false → (!(decide (t1 < (0 : Int)))) = true] [(15, .bool (cond (decide (t1 < (0 : Int))) true (decide (t2 < (2 : Int))))), (7, .rsl 7 0 0 (([] : List Int).length)), (0, slA eS_Row t0), (1, .int .i64 t1), (2, .int .i64 t2)] (by kernel_rfl) ⟨(fun h => h), (fun h => by first | exact h | simpa using h), trivial⟩ ?_
  refine OpsW.nil ?_
  refine AW.cond (b := cond (decide (t1 < (0 : Int))) true (decide (t2 < (2 : Int)))) rfl (fun c1 => ?_) (fun c1 => ?_)
  · replace H := condT c1 H
    refine AW.regionSeq ?_
    refine OpsW.seg 2 [6] [] [(6, .rsl 7 0 0 (([] : List Int).length))] (by kernel_rfl) trivial ?_
    refine OpsW.recast (env' := [(6, slA (eI .i64) ([] : List Int))]) (h' := []) (StC.mk (phi []) .nil rfl (.cons (.frz rfl rfl rfl (frz_all (eI .i64) 1 (fun _ => rfl) ([] : List Int)) (fm_length (eI .i64) 1 (fun _ => rfl) ([] : List Int)) (phi_ne rfl)) .nil)) ?_
    refine OpsW.nil ?_
    obtain rfl := Option.some.inj H
    refine AW.recast (env' := [(6, slA (eI .i64) ([] : List Int))]) (h' := []) (StC.pure (.cons .im .nil)) ?_
    refine AW.ret ?_
    try simp only [Ex.then, Ex.inBlock, Ex.noGoto, Ex.jump, reduceIte, Nat.reduceEqDiff, reduceCtorEq]
    refine Done.gen rfl (.tmp .nil) ?_
    show _ = _
    kernel_rfl
  · replace H := condF c1 H
    refine AW.skip ?_
    refine AW.seq ?_
    refine AW.regionSeq ?_
    obtain ⟨g2, H⟩ := G_some H
    refine OpsW.seg 3 [8, 7, 0, 1, 2] [inR (t1 + (1 : Int))] [(8, .int .i64 (t1 + (1 : Int))), (7, .rsl 7 0 0 (([] : List Int).length)), (0, slA eS_Row t0), (1, .int .i64 t1), (2, .int .i64 t2)] (by kernel_rfl) ⟨g2, trivial⟩ ?_
    refine OpsW.nil ?_
    refine AW.block ?_
    refine AW.iterK (fun loop (s : (List Int) × Int) => f_R21_Next_b1 t0 t1 t2 loop s.1 s.2) r (fun (s : (List Int) × Int) => [(0, slA eS_Row t0), (1, .int .i64 t1), (2, .int .i64 t2), (7, .rsl 7 0 0 s.1.length), (8, .int .i64 s.2)]) (fun (s : (List Int) × Int) => [(7, rtA 0 3 1 (eI .i64) s.1)]) ?_ 1000000 (([] : List Int), t1 + (1 : Int)) H (StC.mk (phi [(7, some 7)]) (.old rfl rfl rfl rfl rfl (CstL.ims _) .nil) rfl (.cons .im (.cons .im (.cons .im (.cons (.rsl rfl rfl rfl rfl rfl rfl) (.cons .im .nil))))))
    intro loop5 s H
    obtain ⟨v3, v4⟩ := s
    change f_R21_Next_b1 t0 t1 t2 loop5 v3 v4 = some r at H
    unfold f_R21_Next_b1 at H
    change AW _ _ _ [(0, slA eS_Row t0), (1, .int .i64 t1), (2, .int .i64 t2), (7, .rsl 7 0 0 v3.length), (8, .int .i64 v4)] [(7, rtA 0 3 1 (eI .i64) v3)] _
    refine AW.seq ?_
    refine AW.regionSeq ?_
    obtain ⟨g6, H⟩ := G_some H
    obtain ⟨g7, H⟩ := G_some H
    refine OpsW.seg 12 [30, 0, 1, 2, 7, 8] [(decide (v4 ≤ (t0.length : Int))) = true → (decide (v4 ≤ (t0.length : Int))) = true, (decide (v4 ≤ (t0.length : Int))) = true → (decide (v4 ≤ (t0.length : Int))) = true, (decide (v4 ≤ (t0.length : Int))) = true → inR (v4 - t1), (decide (v4 ≤ (t0.length : Int))) = true → (decide (v4 ≤ (t0.length : Int))) = true, (decide (v4 ≤ (t0.length : Int))) = true → inR (t2 - (1 : Int)), (decide (v4 ≤ (t0.length : Int))) = true → (decide (v4 ≤ (t0.length : Int))) = true, (decide (v4 ≤ (t0.length : Int))) = true → (decide (v4 ≤ (t0.length : Int))) = true, (decide (v4 ≤ (t0.length : Int))) = true → (decide (v4 ≤ (t0.length : Int))) = true] [(30, .bool (cond (decide (v4 ≤ (t0.length : Int))) (decide ((v4 - t1) ≤ (t2 - (1 : Int)))) false)), (0, slA eS_Row t0), (1, .int .i64 t1), (2, .int .i64 t2), (7, .rsl 7 0 0 v3.length), (8, .int .i64 v4)] (by kernel_rfl) ⟨(fun h => h), (fun h => h), g6, (fun h => h), g7, (fun h => h), (fun h => h), (fun h => by first | exact h | simpa using h), trivial⟩ ?_
    refine OpsW.nil ?_
    refine AW.cond (b := cond (decide (v4 ≤ (t0.length : Int))) (decide ((v4 - t1) ≤ (t2 - (1 : Int)))) false) rfl (fun c8 => ?_) (fun c8 => ?_)
    · replace H := condT c8 H
      refine AW.skip ?_
      refine AW.joinK (fun (y : (List Int)) => f_R21_Next_k1 loop5 v4 y) r (fun (y : (List Int)) => [(0, slA eS_Row t0), (1, .int .i64 t1), (2, .int .i64 t2), (7, .rsl 7 0 0 y.length), (8, .int .i64 v4)]) (fun (y : (List Int)) => [(7, rtA 0 3 1 (eI .i64) y)]) ?_ ?_
      · refine AW.block ?_
        refine AW.regionSeq ?_
        obtain ⟨g11, H⟩ := G_some H
        obtain ⟨g12, H⟩ := G_some H
        refine OpsW.seg 10 [42, 37, 0, 1, 2, 7, 8] [(!(v4 == (t0.length : Int))) = true → (!(v4 == (t0.length : Int))) = true, (!(v4 == (t0.length : Int))) = true → inR (v4 - (1 : Int)), (!(v4 == (t0.length : Int))) = true → (!(v4 == (t0.length : Int))) = true, (!(v4 == (t0.length : Int))) = true → (!(v4 == (t0.length : Int))) = true, (!(v4 == (t0.length : Int))) = true → (0 ≤ (v4 - (1 : Int)) ∧ (v4 - (1 : Int)) < (t0.length : Int)), (!(v4 == (t0.length : Int))) = true → (!(v4 == (t0.length : Int))) = true] [(42, .cnd (!(v4 == (t0.length : Int))) (.ipt (t0.flatMap eS_Row) ((v4 - (1 : Int)).toNat * 5 + 1))), (37, .bool (v4 == (t0.length : Int))), (0, slA eS_Row t0), (1, .int .i64 t1), (2, .int .i64 t2), (7, .rsl 7 0 0 v3.length), (8, .int .i64 v4)] (by kernel_rfl) ⟨(fun h => h), g11, (fun h => h), (fun h => h), g12, (fun h => h), trivial⟩ ?_
        refine OpsW.asG (c := !(v4 == (t0.length : Int))) (.bool ((t0.getD (v4 - (1 : Int)).toNat zS_Row).Keep)) rfl rfl rfl rfl (fun hc => T.load rfl hc (by kernel_rfl) (fm_cell eS_Row 5 (fun _ => rfl) t0 zS_Row (v4 - (1 : Int)).toNat (ltN (g12 hc)) 1 (fun a => .val (.bool a.Keep)) (fun _ => rfl))) ?_
        refine OpsW.seg 2 [45, 0, 1, 2, 7, 8] [(!(v4 == (t0.length : Int))) = true → (!(v4 == (t0.length : Int))) = true, (v4 == (t0.length : Int)) = false → (!(v4 == (t0.length : Int))) = true] [(45, .bool (cond (v4 == (t0.length : Int)) true (!((t0.getD (v4 - (1 : Int)).toNat zS_Row).Keep)))), (0, slA eS_Row t0), (1, .int .i64 t1), (2, .int .i64 t2), (7, .rsl 7 0 0 v3.length), (8, .int .i64 v4)] (by kernel_rfl) ⟨(fun h => h), (fun h => by first | exact h | simpa using h), trivial⟩ ?_
        refine OpsW.nil ?_
        refine AW.cond (b := cond (v4 == (t0.length : Int)) true (!((t0.getD (v4 - (1 : Int)).toNat zS_Row).Keep))) rfl (fun c13 => ?_) (fun c13 => ?_)
        · replace H := condT c13 H
          refine AW.region ?_
          refine OpsW.seg 2 [47, 46, 0, 1, 2, 7, 8] [] [(47, .int .i64 v4), (46, .rsl 7 0 0 v3.length), (0, slA eS_Row t0), (1, .int .i64 t1), (2, .int .i64 t2), (7, .rsl 7 0 0 v3.length), (8, .int .i64 v4)] (by kernel_rfl) trivial ?_
          obtain ⟨g14, H⟩ := G_some H
          refine OpsW.appendLF (enc := eI .i64) [v4] rfl rfl rfl (by decide) rfl rfl rfl (by simp) E29 (fun _ => rfl) (by decide) trivial (by kernel_rfl) (by kernel_rfl) (by kernel_rfl) rfl rfl rfl g14 ?_
          refine OpsW.seg 1 [7, 0, 1, 2, 8] [] [(7, .rsl 7 1 0 ((v3 ++ [v4]).length)), (0, slA eS_Row t0), (1, .int .i64 t1), (2, .int .i64 t2), (8, .int .i64 v4)] (by kernel_rfl) trivial ?_
          refine OpsW.recast (env' := [(7, .rsl 7 0 0 ((v3 ++ [v4]).length)), (0, slA eS_Row t0), (1, .int .i64 t1), (2, .int .i64 t2), (8, .int .i64 v4)]) (h' := [(7, rtA 0 3 1 (eI .i64) (v3 ++ [v4]))]) (StC.mk (phi [(7, some 7)]) (.old rfl rfl rfl rfl rfl (CstL.ims _) .nil) rfl (.cons (.rsl rfl rfl rfl rfl rfl rfl) (.cons .im (.cons .im (.cons .im (.cons .im .nil)))))) ?_
          refine OpsW.nil ?_
          show ∃ y, _ ∧ StC _ _ _ _
          exact ⟨v3 ++ [v4], H, (StC.mk (phi [(7, some 7)]) (.old rfl rfl rfl rfl rfl (CstL.ims _) .nil) rfl (.cons .im (.cons .im (.cons .im (.cons (.rsl rfl rfl rfl rfl rfl rfl) (.cons .im .nil))))))⟩
        · replace H := condF c13 H
          refine AW.skip ?_
          show ∃ y, _ ∧ StC _ _ _ _
          exact ⟨v3, H, (StC.mk (phi [(7, some 7)]) (.old rfl rfl rfl rfl rfl (CstL.ims _) .nil) rfl (.cons .im (.cons .im (.cons .im (.cons (.rsl rfl rfl rfl rfl rfl rfl) (.cons .im .nil))))))⟩
      · intro v9 H
        change f_R21_Next_k1 loop5 v4 v9 = some r at H
        unfold f_R21_Next_k1 at H
        change AW _ _ _ [(0, slA eS_Row t0), (1, .int .i64 t1), (2, .int .i64 t2), (7, .rsl 7 0 0 v9.length), (8, .int .i64 v4)] [(7, rtA 0 3 1 (eI .i64) v9)] _
        refine AW.region ?_
        obtain ⟨g10, H⟩ := G_some H
        refine OpsW.seg 3 [8, 0, 1, 2, 7] [inR (v4 + (1 : Int))] [(8, .int .i64 (v4 + (1 : Int))), (0, slA eS_Row t0), (1, .int .i64 t1), (2, .int .i64 t2), (7, .rsl 7 0 0 v9.length)] (by kernel_rfl) ⟨g10, trivial⟩ ?_
        refine OpsW.nil ?_
        show ∃ y, _ ∧ StC _ _ _ _
        exact ⟨(v9, v4 + (1 : Int)), H, (StC.mk (phi [(7, some 7)]) (.old rfl rfl rfl rfl rfl (CstL.ims _) .nil) rfl (.cons .im (.cons .im (.cons .im (.cons (.rsl rfl rfl rfl rfl rfl rfl) (.cons .im .nil))))))⟩
    · replace H := condF c8 H
      refine AW.exit ?_
      refine AW.regionSeq ?_
      refine OpsW.seg 2 [6] [] [(6, .rsl 7 0 0 v3.length)] (by kernel_rfl) trivial ?_
      refine OpsW.recast (env' := [(6, slA (eI .i64) v3)]) (h' := []) (StC.mk (phi []) .nil rfl (.cons (.frz rfl rfl rfl (frz_all (eI .i64) 1 (fun _ => rfl) v3) (fm_length (eI .i64) 1 (fun _ => rfl) v3) (phi_ne rfl)) .nil)) ?_
      refine OpsW.nil ?_
      obtain rfl := Option.some.inj H
      refine AW.recast (env' := [(6, slA (eI .i64) v3)]) (h' := []) (StC.pure (.cons .im .nil)) ?_
      refine AW.ret ?_
      try simp only [Ex.then, Ex.inBlock, Ex.noGoto, Ex.jump, reduceIte, Nat.reduceEqDiff, reduceCtorEq]
      refine Done.gen rfl (.tmp .nil) ?_
      show _ = _
      kernel_rfl
def f_R21_Legal_b1 (t0 : List S_Row) (t1 : List Int) (t2 : Int) (loop3 : (Int × Int) → Option Bool) (v1 : Int) (v2 : Int) : Option Bool :=
  cond (decide (v2 < (t1.length : Int))) (
    G (0 ≤ v2 ∧ v2 < (t1.length : Int)) <|
    G ((!(cond (decide ((t1.getD v2.toNat (0 : Int)) ≤ v1)) true (decide ((t0.length : Int) < (t1.getD v2.toNat (0 : Int)))))) = true → inR ((t1.getD v2.toNat (0 : Int)) - v1)) <|
    G ((!(cond (decide ((t1.getD v2.toNat (0 : Int)) ≤ v1)) true (decide ((t0.length : Int) < (t1.getD v2.toNat (0 : Int)))))) = true → inR (t2 - (1 : Int))) <|
    G (((!(cond (cond (decide ((t1.getD v2.toNat (0 : Int)) ≤ v1)) true (decide ((t0.length : Int) < (t1.getD v2.toNat (0 : Int))))) true (decide ((t2 - (1 : Int)) < ((t1.getD v2.toNat (0 : Int)) - v1))))) && (decide ((t1.getD v2.toNat (0 : Int)) < (t0.length : Int)))) = true → inR ((t1.getD v2.toNat (0 : Int)) - (1 : Int))) <|
    G (((!(cond (cond (decide ((t1.getD v2.toNat (0 : Int)) ≤ v1)) true (decide ((t0.length : Int) < (t1.getD v2.toNat (0 : Int))))) true (decide ((t2 - (1 : Int)) < ((t1.getD v2.toNat (0 : Int)) - v1))))) && (decide ((t1.getD v2.toNat (0 : Int)) < (t0.length : Int)))) = true → (0 ≤ ((t1.getD v2.toNat (0 : Int)) - (1 : Int)) ∧ ((t1.getD v2.toNat (0 : Int)) - (1 : Int)) < (t0.length : Int))) <|
    cond (cond (cond (cond (decide ((t1.getD v2.toNat (0 : Int)) ≤ v1)) true (decide ((t0.length : Int) < (t1.getD v2.toNat (0 : Int))))) true (decide ((t2 - (1 : Int)) < ((t1.getD v2.toNat (0 : Int)) - v1)))) true (cond (decide ((t1.getD v2.toNat (0 : Int)) < (t0.length : Int))) ((t0.getD ((t1.getD v2.toNat (0 : Int)) - (1 : Int)).toNat zS_Row).Keep) false)) (
      some false) (
      G (inR (v2 + (1 : Int))) <|
      loop3 (t1.getD v2.toNat (0 : Int), v2 + (1 : Int)))) (
    some (v1 == (t0.length : Int)))
def f_R21_Legal (t0 : List S_Row) (t1 : List Int) (t2 : Int) : Option Bool :=
  iter (fun loop (s : Int × Int) => f_R21_Legal_b1 t0 t1 t2 loop s.1 s.2) 1000000 ((0 : Int), (0 : Int))
theorem f_R21_Legal_ok {t0 : List S_Row} {t1 : List Int} {t2 : Int} {r : Bool} (H : f_R21_Legal t0 t1 t2 = some r) : QSpec Try.prog 15 [slA eS_Row t0, slA (eI .i64) t1, .int .i64 t2] (.bool r) := by
  refine Spec.of_AW Try.func15 rfl (by simp [Try.ntmps15]) ?_
  rw [Try.ntmps15]
  unfold f_R21_Legal at H
  change AW _ _ _ [(0, slA eS_Row t0), (1, slA (eI .i64) t1), (2, .int .i64 t2)] [] _
  refine AW.regionSeq ?_
  refine OpsW.seg 1 [0, 1, 2] [] [(0, slA eS_Row t0), (1, slA (eI .i64) t1), (2, .int .i64 t2)] (by kernel_rfl) trivial ?_
  refine OpsW.nil ?_
  refine AW.regionSeq ?_
  refine OpsW.seg 1 [7, 0, 1, 2] [] [(7, .int .i64 (0 : Int)), (0, slA eS_Row t0), (1, slA (eI .i64) t1), (2, .int .i64 t2)] (by kernel_rfl) trivial ?_
  refine OpsW.nil ?_
  refine AW.seq ?_
  refine AW.regionSeq ?_
  refine OpsW.seg 1 [8, 7, 0, 1, 2] [] [(8, .int .i64 (0 : Int)), (7, .int .i64 (0 : Int)), (0, slA eS_Row t0), (1, slA (eI .i64) t1), (2, .int .i64 t2)] (by kernel_rfl) trivial ?_
  refine OpsW.nil ?_
  refine AW.block ?_
  refine AW.iterK (fun loop (s : Int × Int) => f_R21_Legal_b1 t0 t1 t2 loop s.1 s.2) r (fun (s : Int × Int) => [(0, slA eS_Row t0), (1, slA (eI .i64) t1), (2, .int .i64 t2), (7, .int .i64 s.1), (8, .int .i64 s.2)]) (fun (s : Int × Int) => []) ?_ 1000000 ((0 : Int), (0 : Int)) H (StC.pure (.cons .im (.cons .im (.cons .im (.cons .im (.cons .im .nil))))))
  intro loop3 s H
  obtain ⟨v1, v2⟩ := s
  change f_R21_Legal_b1 t0 t1 t2 loop3 v1 v2 = some r at H
  unfold f_R21_Legal_b1 at H
  change AW _ _ _ [(0, slA eS_Row t0), (1, slA (eI .i64) t1), (2, .int .i64 t2), (7, .int .i64 v1), (8, .int .i64 v2)] [] _
  refine AW.seq ?_
  refine AW.regionSeq ?_
  refine OpsW.seg 4 [12, 0, 1, 2, 7, 8] [] [(12, .bool (decide (v2 < (t1.length : Int)))), (0, slA eS_Row t0), (1, slA (eI .i64) t1), (2, .int .i64 t2), (7, .int .i64 v1), (8, .int .i64 v2)] (by kernel_rfl) trivial ?_
  refine OpsW.nil ?_
  refine AW.cond (b := decide (v2 < (t1.length : Int))) rfl (fun c4 => ?_) (fun c4 => ?_)
  · replace H := condT c4 H
    refine AW.skip ?_
    refine AW.seq ?_
    refine AW.block ?_
    refine AW.seq ?_
    refine AW.regionSeq ?_
    obtain ⟨g5, H⟩ := G_some H
    refine OpsW.seg 3 [17, 0, 1, 2, 7, 8] [0 ≤ v2 ∧ v2 < (t1.length : Int)] [(17, .ipt (t1.flatMap (eI .i64)) (v2.toNat * 1)), (0, slA eS_Row t0), (1, slA (eI .i64) t1), (2, .int .i64 t2), (7, .int .i64 v1), (8, .int .i64 v2)] (by kernel_rfl) ⟨g5, trivial⟩ ?_
    refine OpsW.asU (.int .i64 (t1.getD v2.toNat (0 : Int))) rfl rfl (T.load rfl trivial (by kernel_rfl) (fm_cell0 (eI .i64) 1 (fun _ => rfl) t1 (0 : Int) v2.toNat (ltN g5) (fun a => .val (.int .i64 a)) (fun _ => rfl))) ?_
    refine OpsW.seg 6 [24, 21, 0, 1, 2, 7, 8] [(!(decide ((t1.getD v2.toNat (0 : Int)) ≤ v1))) = true → (!(decide ((t1.getD v2.toNat (0 : Int)) ≤ v1))) = true, (!(decide ((t1.getD v2.toNat (0 : Int)) ≤ v1))) = true → (!(decide ((t1.getD v2.toNat (0 : Int)) ≤ v1))) = true, (!(decide ((t1.getD v2.toNat (0 : Int)) ≤ v1))) = true → (0 ≤ v2 ∧ v2 < (t1.length : Int))] [(24, .cnd (!(decide ((t1.getD v2.toNat (0 : Int)) ≤ v1))) (.ipt (t1.flatMap (eI .i64)) (v2.toNat * 1))), (21, .bool (decide ((t1.getD v2.toNat (0 : Int)) ≤ v1))), (0, slA eS_Row t0), (1, slA (eI .i64) t1), (2, .int .i64 t2), (7, .int .i64 v1), (8, .int .i64 v2)] (by kernel_rfl) ⟨(fun h => h), (fun h => h), (fun _ => g5), trivial⟩ ?_
    refine OpsW.asG (c := !(decide ((t1.getD v2.toNat (0 : Int)) ≤ v1))) (.int .i64 (t1.getD v2.toNat (0 : Int))) rfl rfl rfl rfl (fun hc => T.load rfl hc (by kernel_rfl) (fm_cell0 (eI .i64) 1 (fun _ => rfl) t1 (0 : Int) v2.toNat (ltN g5) (fun a => .val (.int .i64 a)) (fun _ => rfl))) ?_
    refine OpsW.seg 8 [33, 30, 0, 1, 2, 7, 8] [(!(decide ((t1.getD v2.toNat (0 : Int)) ≤ v1))) = true → (!(decide ((t1.getD v2.toNat (0 : Int)) ≤ v1))) = true, (!(decide ((t1.getD v2.toNat (0 : Int)) ≤ v1))) = true → (!(decide ((t1.getD v2.toNat (0 : Int)) ≤ v1))) = true, (!(decide ((t1.getD v2.toNat (0 : Int)) ≤ v1))) = true → (!(decide ((t1.getD v2.toNat (0 : Int)) ≤ v1))) = true, (decide ((t1.getD v2.toNat (0 : Int)) ≤ v1)) = false → (!(decide ((t1.getD v2.toNat (0 : Int)) ≤ v1))) = true, (!(cond (decide ((t1.getD v2.toNat (0 : Int)) ≤ v1)) true (decide ((t0.length : Int) < (t1.getD v2.toNat (0 : Int)))))) = true → (!(cond (decide ((t1.getD v2.toNat (0 : Int)) ≤ v1)) true (decide ((t0.length : Int) < (t1.getD v2.toNat (0 : Int)))))) = true, (!(cond (decide ((t1.getD v2.toNat (0 : Int)) ≤ v1)) true (decide ((t0.length : Int) < (t1.getD v2.toNat (0 : Int)))))) = true → (!(cond (decide ((t1.getD v2.toNat (0 : Int)) ≤ v1)) true (decide ((t0.length : Int) < (t1.getD v2.toNat (0 : Int)))))) = true, (!(cond (decide ((t1.getD v2.toNat (0 : Int)) ≤ v1)) true (decide ((t0.length : Int) < (t1.getD v2.toNat (0 : Int)))))) = true → (0 ≤ v2 ∧ v2 < (t1.length : Int))] [(33, .cnd (!(cond (decide ((t1.getD v2.toNat (0 : Int)) ≤ v1)) true (decide ((t0.length : Int) < (t1.getD v2.toNat (0 : Int)))))) (.ipt (t1.flatMap (eI .i64)) (v2.toNat * 1))), (30, .bool (cond (decide ((t1.getD v2.toNat (0 : Int)) ≤ v1)) true (decide ((t0.length : Int) < (t1.getD v2.toNat (0 : Int)))))), (0, slA eS_Row t0), (1, slA (eI .i64) t1), (2, .int .i64 t2), (7, .int .i64 v1), (8, .int .i64 v2)] (by kernel_rfl) ⟨(fun h => h), (fun h => h), (fun h => h), (fun h => by first | exact h | simpa using h), (fun h => h), (fun h => h), (fun _ => g5), trivial⟩ ?_
    refine OpsW.asG (c := !(cond (decide ((t1.getD v2.toNat (0 : Int)) ≤ v1)) true (decide ((t0.length : Int) < (t1.getD v2.toNat (0 : Int)))))) (.int .i64 (t1.getD v2.toNat (0 : Int))) rfl rfl rfl rfl (fun hc => T.load rfl hc (by kernel_rfl) (fm_cell0 (eI .i64) 1 (fun _ => rfl) t1 (0 : Int) v2.toNat (ltN g5) (fun a => .val (.int .i64 a)) (fun _ => rfl))) ?_
    obtain ⟨g6, H⟩ := G_some H
    obtain ⟨g7, H⟩ := G_some H
    refine OpsW.seg 10 [44, 41, 0, 1, 2, 8] [(!(cond (decide ((t1.getD v2.toNat (0 : Int)) ≤ v1)) true (decide ((t0.length : Int) < (t1.getD v2.toNat (0 : Int)))))) = true → (!(cond (decide ((t1.getD v2.toNat (0 : Int)) ≤ v1)) true (decide ((t0.length : Int) < (t1.getD v2.toNat (0 : Int)))))) = true, (!(cond (decide ((t1.getD v2.toNat (0 : Int)) ≤ v1)) true (decide ((t0.length : Int) < (t1.getD v2.toNat (0 : Int)))))) = true → (!(cond (decide ((t1.getD v2.toNat (0 : Int)) ≤ v1)) true (decide ((t0.length : Int) < (t1.getD v2.toNat (0 : Int)))))) = true, (!(cond (decide ((t1.getD v2.toNat (0 : Int)) ≤ v1)) true (decide ((t0.length : Int) < (t1.getD v2.toNat (0 : Int)))))) = true → inR ((t1.getD v2.toNat (0 : Int)) - v1), (!(cond (decide ((t1.getD v2.toNat (0 : Int)) ≤ v1)) true (decide ((t0.length : Int) < (t1.getD v2.toNat (0 : Int)))))) = true → (!(cond (decide ((t1.getD v2.toNat (0 : Int)) ≤ v1)) true (decide ((t0.length : Int) < (t1.getD v2.toNat (0 : Int)))))) = true, (!(cond (decide ((t1.getD v2.toNat (0 : Int)) ≤ v1)) true (decide ((t0.length : Int) < (t1.getD v2.toNat (0 : Int)))))) = true → inR (t2 - (1 : Int)), (!(cond (decide ((t1.getD v2.toNat (0 : Int)) ≤ v1)) true (decide ((t0.length : Int) < (t1.getD v2.toNat (0 : Int)))))) = true → (!(cond (decide ((t1.getD v2.toNat (0 : Int)) ≤ v1)) true (decide ((t0.length : Int) < (t1.getD v2.toNat (0 : Int)))))) = true, (!(cond (decide ((t1.getD v2.toNat (0 : Int)) ≤ v1)) true (decide ((t0.length : Int) < (t1.getD v2.toNat (0 : Int)))))) = true → (!(cond (decide ((t1.getD v2.toNat (0 : Int)) ≤ v1)) true (decide ((t0.length : Int) < (t1.getD v2.toNat (0 : Int)))))) = true, (cond (decide ((t1.getD v2.toNat (0 : Int)) ≤ v1)) true (decide ((t0.length : Int) < (t1.getD v2.toNat (0 : Int))))) = false → (!(cond (decide ((t1.getD v2.toNat (0 : Int)) ≤ v1)) true (decide ((t0.length : Int) < (t1.getD v2.toNat (0 : Int)))))) = true, (!(cond (cond (decide ((t1.getD v2.toNat (0 : Int)) ≤ v1)) true (decide ((t0.length : Int) < (t1.getD v2.toNat (0 : Int))))) true (decide ((t2 - (1 : Int)) < ((t1.getD v2.toNat (0 : Int)) - v1))))) = true → (!(cond (cond (decide ((t1.getD v2.toNat (0 : Int)) ≤ v1)) true (decide ((t0.length : Int) < (t1.getD v2.toNat (0 : Int))))) true (decide ((t2 - (1 : Int)) < ((t1.getD v2.toNat (0 : Int)) - v1))))) = true, (!(cond (cond (decide ((t1.getD v2.toNat (0 : Int)) ≤ v1)) true (decide ((t0.length : Int) < (t1.getD v2.toNat (0 : Int))))) true (decide ((t2 - (1 : Int)) < ((t1.getD v2.toNat (0 : Int)) - v1))))) = true → (!(cond (cond (decide ((t1.getD v2.toNat (0 : Int)) ≤ v1)) true (decide ((t0.length : Int) < (t1.getD v2.toNat (0 : Int))))) true (decide ((t2 - (1 : Int)) < ((t1.getD v2.toNat (0 : Int)) - v1))))) = true, (!(cond (cond (decide ((t1.getD v2.toNat (0 : Int)) ≤ v1)) true (decide ((t0.length : Int) < (t1.getD v2.toNat (0 : Int))))) true (decide ((t2 - (1 : Int)) < ((t1.getD v2.toNat (0 : Int)) - v1))))) = true → (0 ≤ v2 ∧ v2 < (t1.length : Int))] [(44, .cnd (!(cond (cond (decide ((t1.getD v2.toNat (0 : Int)) ≤ v1)) true (decide ((t0.length : Int) < (t1.getD v2.toNat (0 : Int))))) true (decide ((t2 - (1 : Int)) < ((t1.getD v2.toNat (0 : Int)) - v1))))) (.ipt (t1.flatMap (eI .i64)) (v2.toNat * 1))), (41, .bool (cond (cond (decide ((t1.getD v2.toNat (0 : Int)) ≤ v1)) true (decide ((t0.length : Int) < (t1.getD v2.toNat (0 : Int))))) true (decide ((t2 - (1 : Int)) < ((t1.getD v2.toNat (0 : Int)) - v1))))), (0, slA eS_Row t0), (1, slA (eI .i64) t1), (2, .int .i64 t2), (8, .int .i64 v2)] (by kernel_rfl) ⟨(fun h => h), (fun h => h), g6, (fun h => h), g7, (fun h => h), (fun h => h), (fun h => by first | exact h | simpa using h), (fun h => h), (fun h => h), (fun _ => g5), trivial⟩ ?_
    refine OpsW.asG (c := !(cond (cond (decide ((t1.getD v2.toNat (0 : Int)) ≤ v1)) true (decide ((t0.length : Int) < (t1.getD v2.toNat (0 : Int))))) true (decide ((t2 - (1 : Int)) < ((t1.getD v2.toNat (0 : Int)) - v1))))) (.int .i64 (t1.getD v2.toNat (0 : Int))) rfl rfl rfl rfl (fun hc => T.load rfl hc (by kernel_rfl) (fm_cell0 (eI .i64) 1 (fun _ => rfl) t1 (0 : Int) v2.toNat (ltN g5) (fun a => .val (.int .i64 a)) (fun _ => rfl))) ?_
    refine OpsW.seg 8 [53, 50, 49, 41, 0, 1, 2, 8] [(!(cond (cond (decide ((t1.getD v2.toNat (0 : Int)) ≤ v1)) true (decide ((t0.length : Int) < (t1.getD v2.toNat (0 : Int))))) true (decide ((t2 - (1 : Int)) < ((t1.getD v2.toNat (0 : Int)) - v1))))) = true → (!(cond (cond (decide ((t1.getD v2.toNat (0 : Int)) ≤ v1)) true (decide ((t0.length : Int) < (t1.getD v2.toNat (0 : Int))))) true (decide ((t2 - (1 : Int)) < ((t1.getD v2.toNat (0 : Int)) - v1))))) = true, (!(cond (cond (decide ((t1.getD v2.toNat (0 : Int)) ≤ v1)) true (decide ((t0.length : Int) < (t1.getD v2.toNat (0 : Int))))) true (decide ((t2 - (1 : Int)) < ((t1.getD v2.toNat (0 : Int)) - v1))))) = true → (!(cond (cond (decide ((t1.getD v2.toNat (0 : Int)) ≤ v1)) true (decide ((t0.length : Int) < (t1.getD v2.toNat (0 : Int))))) true (decide ((t2 - (1 : Int)) < ((t1.getD v2.toNat (0 : Int)) - v1))))) = true, (!(cond (cond (decide ((t1.getD v2.toNat (0 : Int)) ≤ v1)) true (decide ((t0.length : Int) < (t1.getD v2.toNat (0 : Int))))) true (decide ((t2 - (1 : Int)) < ((t1.getD v2.toNat (0 : Int)) - v1))))) = true → (!(cond (cond (decide ((t1.getD v2.toNat (0 : Int)) ≤ v1)) true (decide ((t0.length : Int) < (t1.getD v2.toNat (0 : Int))))) true (decide ((t2 - (1 : Int)) < ((t1.getD v2.toNat (0 : Int)) - v1))))) = true, (!(cond (cond (decide ((t1.getD v2.toNat (0 : Int)) ≤ v1)) true (decide ((t0.length : Int) < (t1.getD v2.toNat (0 : Int))))) true (decide ((t2 - (1 : Int)) < ((t1.getD v2.toNat (0 : Int)) - v1))))) = true → (!(cond (cond (decide ((t1.getD v2.toNat (0 : Int)) ≤ v1)) true (decide ((t0.length : Int) < (t1.getD v2.toNat (0 : Int))))) true (decide ((t2 - (1 : Int)) < ((t1.getD v2.toNat (0 : Int)) - v1))))) = true, ((!(cond (cond (decide ((t1.getD v2.toNat (0 : Int)) ≤ v1)) true (decide ((t0.length : Int) < (t1.getD v2.toNat (0 : Int))))) true (decide ((t2 - (1 : Int)) < ((t1.getD v2.toNat (0 : Int)) - v1))))) && (decide ((t1.getD v2.toNat (0 : Int)) < (t0.length : Int)))) = true → ((!(cond (cond (decide ((t1.getD v2.toNat (0 : Int)) ≤ v1)) true (decide ((t0.length : Int) < (t1.getD v2.toNat (0 : Int))))) true (decide ((t2 - (1 : Int)) < ((t1.getD v2.toNat (0 : Int)) - v1))))) && (decide ((t1.getD v2.toNat (0 : Int)) < (t0.length : Int)))) = true, ((!(cond (cond (decide ((t1.getD v2.toNat (0 : Int)) ≤ v1)) true (decide ((t0.length : Int) < (t1.getD v2.toNat (0 : Int))))) true (decide ((t2 - (1 : Int)) < ((t1.getD v2.toNat (0 : Int)) - v1))))) && (decide ((t1.getD v2.toNat (0 : Int)) < (t0.length : Int)))) = true → ((!(cond (cond (decide ((t1.getD v2.toNat (0 : Int)) ≤ v1)) true (decide ((t0.length : Int) < (t1.getD v2.toNat (0 : Int))))) true (decide ((t2 - (1 : Int)) < ((t1.getD v2.toNat (0 : Int)) - v1))))) && (decide ((t1.getD v2.toNat (0 : Int)) < (t0.length : Int)))) = true, ((!(cond (cond (decide ((t1.getD v2.toNat (0 : Int)) ≤ v1)) true (decide ((t0.length : Int) < (t1.getD v2.toNat (0 : Int))))) true (decide ((t2 - (1 : Int)) < ((t1.getD v2.toNat (0 : Int)) - v1))))) && (decide ((t1.getD v2.toNat (0 : Int)) < (t0.length : Int)))) = true → (0 ≤ v2 ∧ v2 < (t1.length : Int))] [(53, .cnd ((!(cond (cond (decide ((t1.getD v2.toNat (0 : Int)) ≤ v1)) true (decide ((t0.length : Int) < (t1.getD v2.toNat (0 : Int))))) true (decide ((t2 - (1 : Int)) < ((t1.getD v2.toNat (0 : Int)) - v1))))) && (decide ((t1.getD v2.toNat (0 : Int)) < (t0.length : Int)))) (.ipt (t1.flatMap (eI .i64)) (v2.toNat * 1))), (50, .cnd ((!(cond (cond (decide ((t1.getD v2.toNat (0 : Int)) ≤ v1)) true (decide ((t0.length : Int) < (t1.getD v2.toNat (0 : Int))))) true (decide ((t2 - (1 : Int)) < ((t1.getD v2.toNat (0 : Int)) - v1))))) && (decide ((t1.getD v2.toNat (0 : Int)) < (t0.length : Int)))) (slA eS_Row t0)), (49, .cnd (!(cond (cond (decide ((t1.getD v2.toNat (0 : Int)) ≤ v1)) true (decide ((t0.length : Int) < (t1.getD v2.toNat (0 : Int))))) true (decide ((t2 - (1 : Int)) < ((t1.getD v2.toNat (0 : Int)) - v1))))) (.bool (decide ((t1.getD v2.toNat (0 : Int)) < (t0.length : Int))))), (41, .bool (cond (cond (decide ((t1.getD v2.toNat (0 : Int)) ≤ v1)) true (decide ((t0.length : Int) < (t1.getD v2.toNat (0 : Int))))) true (decide ((t2 - (1 : Int)) < ((t1.getD v2.toNat (0 : Int)) - v1))))), (0, slA eS_Row t0), (1, slA (eI .i64) t1), (2, .int .i64 t2), (8, .int .i64 v2)] (by kernel_rfl) ⟨(fun h => h), (fun h => h), (fun h => h), (fun h => h), (fun h => h), (fun h => h), (fun _ => g5), trivial⟩ ?_
    refine OpsW.asG (c := (!(cond (cond (decide ((t1.getD v2.toNat (0 : Int)) ≤ v1)) true (decide ((t0.length : Int) < (t1.getD v2.toNat (0 : Int))))) true (decide ((t2 - (1 : Int)) < ((t1.getD v2.toNat (0 : Int)) - v1))))) && (decide ((t1.getD v2.toNat (0 : Int)) < (t0.length : Int)))) (.int .i64 (t1.getD v2.toNat (0 : Int))) rfl rfl rfl rfl (fun hc => T.load rfl hc (by kernel_rfl) (fm_cell0 (eI .i64) 1 (fun _ => rfl) t1 (0 : Int) v2.toNat (ltN g5) (fun a => .val (.int .i64 a)) (fun _ => rfl))) ?_
    obtain ⟨g8, H⟩ := G_some H
    obtain ⟨g9, H⟩ := G_some H
    refine OpsW.seg 3 [57, 49, 41, 0, 1, 2, 8] [((!(cond (cond (decide ((t1.getD v2.toNat (0 : Int)) ≤ v1)) true (decide ((t0.length : Int) < (t1.getD v2.toNat (0 : Int))))) true (decide ((t2 - (1 : Int)) < ((t1.getD v2.toNat (0 : Int)) - v1))))) && (decide ((t1.getD v2.toNat (0 : Int)) < (t0.length : Int)))) = true → ((!(cond (cond (decide ((t1.getD v2.toNat (0 : Int)) ≤ v1)) true (decide ((t0.length : Int) < (t1.getD v2.toNat (0 : Int))))) true (decide ((t2 - (1 : Int)) < ((t1.getD v2.toNat (0 : Int)) - v1))))) && (decide ((t1.getD v2.toNat (0 : Int)) < (t0.length : Int)))) = true, ((!(cond (cond (decide ((t1.getD v2.toNat (0 : Int)) ≤ v1)) true (decide ((t0.length : Int) < (t1.getD v2.toNat (0 : Int))))) true (decide ((t2 - (1 : Int)) < ((t1.getD v2.toNat (0 : Int)) - v1))))) && (decide ((t1.getD v2.toNat (0 : Int)) < (t0.length : Int)))) = true → inR ((t1.getD v2.toNat (0 : Int)) - (1 : Int)), ((!(cond (cond (decide ((t1.getD v2.toNat (0 : Int)) ≤ v1)) true (decide ((t0.length : Int) < (t1.getD v2.toNat (0 : Int))))) true (decide ((t2 - (1 : Int)) < ((t1.getD v2.toNat (0 : Int)) - v1))))) && (decide ((t1.getD v2.toNat (0 : Int)) < (t0.length : Int)))) = true → ((!(cond (cond (decide ((t1.getD v2.toNat (0 : Int)) ≤ v1)) true (decide ((t0.length : Int) < (t1.getD v2.toNat (0 : Int))))) true (decide ((t2 - (1 : Int)) < ((t1.getD v2.toNat (0 : Int)) - v1))))) && (decide ((t1.getD v2.toNat (0 : Int)) < (t0.length : Int)))) = true, ((!(cond (cond (decide ((t1.getD v2.toNat (0 : Int)) ≤ v1)) true (decide ((t0.length : Int) < (t1.getD v2.toNat (0 : Int))))) true (decide ((t2 - (1 : Int)) < ((t1.getD v2.toNat (0 : Int)) - v1))))) && (decide ((t1.getD v2.toNat (0 : Int)) < (t0.length : Int)))) = true → ((!(cond (cond (decide ((t1.getD v2.toNat (0 : Int)) ≤ v1)) true (decide ((t0.length : Int) < (t1.getD v2.toNat (0 : Int))))) true (decide ((t2 - (1 : Int)) < ((t1.getD v2.toNat (0 : Int)) - v1))))) && (decide ((t1.getD v2.toNat (0 : Int)) < (t0.length : Int)))) = true, ((!(cond (cond (decide ((t1.getD v2.toNat (0 : Int)) ≤ v1)) true (decide ((t0.length : Int) < (t1.getD v2.toNat (0 : Int))))) true (decide ((t2 - (1 : Int)) < ((t1.getD v2.toNat (0 : Int)) - v1))))) && (decide ((t1.getD v2.toNat (0 : Int)) < (t0.length : Int)))) = true → (0 ≤ ((t1.getD v2.toNat (0 : Int)) - (1 : Int)) ∧ ((t1.getD v2.toNat (0 : Int)) - (1 : Int)) < (t0.length : Int)), ((!(cond (cond (decide ((t1.getD v2.toNat (0 : Int)) ≤ v1)) true (decide ((t0.length : Int) < (t1.getD v2.toNat (0 : Int))))) true (decide ((t2 - (1 : Int)) < ((t1.getD v2.toNat (0 : Int)) - v1))))) && (decide ((t1.getD v2.toNat (0 : Int)) < (t0.length : Int)))) = true → ((!(cond (cond (decide ((t1.getD v2.toNat (0 : Int)) ≤ v1)) true (decide ((t0.length : Int) < (t1.getD v2.toNat (0 : Int))))) true (decide ((t2 - (1 : Int)) < ((t1.getD v2.toNat (0 : Int)) - v1))))) && (decide ((t1.getD v2.toNat (0 : Int)) < (t0.length : Int)))) = true] [(57, .cnd ((!(cond (cond (decide ((t1.getD v2.toNat (0 : Int)) ≤ v1)) true (decide ((t0.length : Int) < (t1.getD v2.toNat (0 : Int))))) true (decide ((t2 - (1 : Int)) < ((t1.getD v2.toNat (0 : Int)) - v1))))) && (decide ((t1.getD v2.toNat (0 : Int)) < (t0.length : Int)))) (.ipt (t0.flatMap eS_Row) (((t1.getD v2.toNat (0 : Int)) - (1 : Int)).toNat * 5 + 1))), (49, .cnd (!(cond (cond (decide ((t1.getD v2.toNat (0 : Int)) ≤ v1)) true (decide ((t0.length : Int) < (t1.getD v2.toNat (0 : Int))))) true (decide ((t2 - (1 : Int)) < ((t1.getD v2.toNat (0 : Int)) - v1))))) (.bool (decide ((t1.getD v2.toNat (0 : Int)) < (t0.length : Int))))), (41, .bool (cond (cond (decide ((t1.getD v2.toNat (0 : Int)) ≤ v1)) true (decide ((t0.length : Int) < (t1.getD v2.toNat (0 : Int))))) true (decide ((t2 - (1 : Int)) < ((t1.getD v2.toNat (0 : Int)) - v1))))), (0, slA eS_Row t0), (1, slA (eI .i64) t1), (2, .int .i64 t2), (8, .int .i64 v2)] (by kernel_rfl) ⟨(fun h => h), g8, (fun h => h), (fun h => h), g9, (fun h => h), trivial⟩ ?_
    refine OpsW.asG (c := (!(cond (cond (decide ((t1.getD v2.toNat (0 : Int)) ≤ v1)) true (decide ((t0.length : Int) < (t1.getD v2.toNat (0 : Int))))) true (decide ((t2 - (1 : Int)) < ((t1.getD v2.toNat (0 : Int)) - v1))))) && (decide ((t1.getD v2.toNat (0 : Int)) < (t0.length : Int)))) (.bool ((t0.getD ((t1.getD v2.toNat (0 : Int)) - (1 : Int)).toNat zS_Row).Keep)) rfl rfl rfl rfl (fun hc => T.load rfl hc (by kernel_rfl) (fm_cell eS_Row 5 (fun _ => rfl) t0 zS_Row ((t1.getD v2.toNat (0 : Int)) - (1 : Int)).toNat (ltN (g9 hc)) 1 (fun a => .val (.bool a.Keep)) (fun _ => rfl))) ?_
    refine OpsW.seg 2 [60, 0, 1, 2, 8] [(!(cond (cond (decide ((t1.getD v2.toNat (0 : Int)) ≤ v1)) true (decide ((t0.length : Int) < (t1.getD v2.toNat (0 : Int))))) true (decide ((t2 - (1 : Int)) < ((t1.getD v2.toNat (0 : Int)) - v1))))) = true → (!(cond (cond (decide ((t1.getD v2.toNat (0 : Int)) ≤ v1)) true (decide ((t0.length : Int) < (t1.getD v2.toNat (0 : Int))))) true (decide ((t2 - (1 : Int)) < ((t1.getD v2.toNat (0 : Int)) - v1))))) = true, (!(cond (cond (decide ((t1.getD v2.toNat (0 : Int)) ≤ v1)) true (decide ((t0.length : Int) < (t1.getD v2.toNat (0 : Int))))) true (decide ((t2 - (1 : Int)) < ((t1.getD v2.toNat (0 : Int)) - v1))))) = true → ((decide ((t1.getD v2.toNat (0 : Int)) < (t0.length : Int))) = true → ((!(cond (cond (decide ((t1.getD v2.toNat (0 : Int)) ≤ v1)) true (decide ((t0.length : Int) < (t1.getD v2.toNat (0 : Int))))) true (decide ((t2 - (1 : Int)) < ((t1.getD v2.toNat (0 : Int)) - v1))))) && (decide ((t1.getD v2.toNat (0 : Int)) < (t0.length : Int)))) = true), (cond (cond (decide ((t1.getD v2.toNat (0 : Int)) ≤ v1)) true (decide ((t0.length : Int) < (t1.getD v2.toNat (0 : Int))))) true (decide ((t2 - (1 : Int)) < ((t1.getD v2.toNat (0 : Int)) - v1)))) = false → (!(cond (cond (decide ((t1.getD v2.toNat (0 : Int)) ≤ v1)) true (decide ((t0.length : Int) < (t1.getD v2.toNat (0 : Int))))) true (decide ((t2 - (1 : Int)) < ((t1.getD v2.toNat (0 : Int)) - v1))))) = true] [(60, .bool (cond (cond (cond (decide ((t1.getD v2.toNat (0 : Int)) ≤ v1)) true (decide ((t0.length : Int) < (t1.getD v2.toNat (0 : Int))))) true (decide ((t2 - (1 : Int)) < ((t1.getD v2.toNat (0 : Int)) - v1)))) true (cond (decide ((t1.getD v2.toNat (0 : Int)) < (t0.length : Int))) ((t0.getD ((t1.getD v2.toNat (0 : Int)) - (1 : Int)).toNat zS_Row).Keep) false))), (0, slA eS_Row t0), (1, slA (eI .i64) t1), (2, .int .i64 t2), (8, .int .i64 v2)] (by kernel_rfl) ⟨(fun h => h), (fun h0 h => by first | exact h | (simp [h0, h]; done) | (simp at h0 h ⊢; simp [h0, h]; done) | (simp_all; done)), (fun h => by first | exact h | simpa using h), trivial⟩ ?_
    refine OpsW.nil ?_
    refine AW.cond (b := cond (cond (cond (decide ((t1.getD v2.toNat (0 : Int)) ≤ v1)) true (decide ((t0.length : Int) < (t1.getD v2.toNat (0 : Int))))) true (decide ((t2 - (1 : Int)) < ((t1.getD v2.toNat (0 : Int)) - v1)))) true (cond (decide ((t1.getD v2.toNat (0 : Int)) < (t0.length : Int))) ((t0.getD ((t1.getD v2.toNat (0 : Int)) - (1 : Int)).toNat zS_Row).Keep) false)) rfl (fun c10 => ?_) (fun c10 => ?_)
    · replace H := condT c10 H
      refine AW.regionSeq ?_
      refine OpsW.seg 1 [6] [] [(6, .bool false)] (by kernel_rfl) trivial ?_
      refine OpsW.nil ?_
      obtain rfl := Option.some.inj H
      refine AW.recast (env' := [(6, .bool false)]) (h' := []) (StC.pure (.cons .im .nil)) ?_
      refine AW.ret ?_
      try simp only [Ex.then, Ex.inBlock, Ex.noGoto, Ex.jump, reduceIte, Nat.reduceEqDiff, reduceCtorEq]
      refine Done.gen rfl (.tmp .nil) ?_
      show _ = _
      kernel_rfl
    · replace H := condF c10 H
      refine AW.skip ?_
      refine AW.region ?_
      refine OpsW.seg 3 [63, 0, 1, 2, 8] [0 ≤ v2 ∧ v2 < (t1.length : Int)] [(63, .ipt (t1.flatMap (eI .i64)) (v2.toNat * 1)), (0, slA eS_Row t0), (1, slA (eI .i64) t1), (2, .int .i64 t2), (8, .int .i64 v2)] (by kernel_rfl) ⟨g5, trivial⟩ ?_
      refine OpsW.asU (.int .i64 (t1.getD v2.toNat (0 : Int))) rfl rfl (T.load rfl trivial (by kernel_rfl) (fm_cell0 (eI .i64) 1 (fun _ => rfl) t1 (0 : Int) v2.toNat (ltN g5) (fun a => .val (.int .i64 a)) (fun _ => rfl))) ?_
      refine OpsW.seg 1 [7, 0, 1, 2, 8] [] [(7, .int .i64 (t1.getD v2.toNat (0 : Int))), (0, slA eS_Row t0), (1, slA (eI .i64) t1), (2, .int .i64 t2), (8, .int .i64 v2)] (by kernel_rfl) trivial ?_
      refine OpsW.nil ?_
      refine AW.region ?_
      obtain ⟨g11, H⟩ := G_some H
      refine OpsW.seg 3 [8, 7, 0, 1, 2] [inR (v2 + (1 : Int))] [(8, .int .i64 (v2 + (1 : Int))), (7, .int .i64 (t1.getD v2.toNat (0 : Int))), (0, slA eS_Row t0), (1, slA (eI .i64) t1), (2, .int .i64 t2)] (by kernel_rfl) ⟨g11, trivial⟩ ?_
      refine OpsW.nil ?_
      show ∃ y, _ ∧ StC _ _ _ _
      exact ⟨(t1.getD v2.toNat (0 : Int), v2 + (1 : Int)), H, (StC.pure (.cons .im (.cons .im (.cons .im (.cons .im (.cons .im .nil))))))⟩
  · replace H := condF c4 H
    refine AW.exit ?_
    refine AW.regionSeq ?_
    refine OpsW.seg 5 [6] [] [(6, .bool (v1 == (t0.length : Int)))] (by kernel_rfl) trivial ?_
    refine OpsW.nil ?_
    obtain rfl := Option.some.inj H
    refine AW.recast (env' := [(6, .bool (v1 == (t0.length : Int)))]) (h' := []) (StC.pure (.cons .im .nil)) ?_
    refine AW.ret ?_
    try simp only [Ex.then, Ex.inBlock, Ex.noGoto, Ex.jump, reduceIte, Nat.reduceEqDiff, reduceCtorEq]
    refine Done.gen rfl (.tmp .nil) ?_
    show _ = _
    kernel_rfl
def f_R21_Fill_b1 (t0 : List S_Row) (t1 : Int) (loop5 : (S_Filled × (List Int) × Int) → Option S_Filled) (v2 : S_Filled) (v3 : List Int) (v4 : Int) : Option S_Filled :=
  cond (decide (v4 < (t0.length : Int))) (
    (f_R21_Next t0 v4 t1).bind fun x7 =>
    cond ((x7.length : Int) == (0 : Int)) (
      some (⟨[], v4, (210 : Int)⟩ : S_Filled)) (
      G (inR ((x7.length : Int) - (1 : Int))) <|
      G (0 ≤ ((x7.length : Int) - (1 : Int)) ∧ ((x7.length : Int) - (1 : Int)) < (x7.length : Int)) <|
      G (room 8 (v3.length + 1)) <|
      loop5 (v2, v3 ++ [x7.getD ((x7.length : Int) - (1 : Int)).toNat (0 : Int)], x7.getD ((x7.length : Int) - (1 : Int)).toNat (0 : Int)))) (
    some (⟨v3, (0 : Int), (0 : Int)⟩ : S_Filled))
def f_R21_Fill (t0 : List S_Row) (t1 : Int) : Option S_Filled :=
  cond (cond (decide (t1 < (4 : Int))) true (decide ((40 : Int) < t1))) (
    some (⟨[], (0 : Int), (1 : Int)⟩ : S_Filled)) (
    iter (fun loop (s : S_Filled × (List Int) × Int) => f_R21_Fill_b1 t0 t1 loop s.1 s.2.1 s.2.2) 1000000 ((⟨[], (0 : Int), (0 : Int)⟩ : S_Filled), ([] : List Int), (0 : Int)))
theorem f_R21_Fill_ok {t0 : List S_Row} {t1 : Int} {r : S_Filled} (H : f_R21_Fill t0 t1 = some r) : QSpec Try.prog 12 [slA eS_Row t0, .int .i64 t1] (.agg [slA (eI .i64) r.Ends, .int .i64 r.At, .int .i64 r.E]) := by
  refine Spec.of_AW Try.func12 rfl (by simp [Try.ntmps12]) ?_
  rw [Try.ntmps12]
  unfold f_R21_Fill at H
  change AW _ _ _ [(0, slA eS_Row t0), (1, .int .i64 t1)] [] _
  refine AW.regionSeq ?_
  refine OpsW.alloc' rfl rfl rfl 4 rfl (by kernel_rfl : zc Try.prog 34 = some [.slice none 0 0, .int .i64 0, .int .i64 0]) (by kernel_rfl) ?_
  refine OpsW.recast (env' := [(4, .ref 4 0 0), (0, slA eS_Row t0), (1, .int .i64 t1)]) (h' := [(4, ⟨0, true, 34, 3, [.im (.val (.slice none 0 0)), .int .i64 (0 : Int), .int .i64 (0 : Int)]⟩)]) (StC.mk (phi [(4, some 4)]) (.old rfl rfl rfl rfl rfl (.cons .im (.cons .im (.cons .im .nil))) .nil) rfl (.cons (.ref rfl rfl rfl rfl rfl) (.cons .im (.cons .im .nil)))) ?_
  refine OpsW.nil ?_
  refine AW.seq ?_
  refine AW.regionSeq ?_
  refine OpsW.seg 6 [13, 4, 0, 1] [(!(decide (t1 < (4 : Int)))) = true → (!(decide (t1 < (4 : Int)))) = true, (decide (t1 < (4 : Int))) = false → (!(decide (t1 < (4 : Int)))) = true] [(13, .bool (cond (decide (t1 < (4 : Int))) true (decide ((40 : Int) < t1)))), (4, .ref 4 0 0), (0, slA eS_Row t0), (1, .int .i64 t1)] (by kernel_rfl) ⟨(fun h => h), (fun h => by first | exact h | simpa using h), trivial⟩ ?_
  refine OpsW.nil ?_
  refine AW.cond (b := cond (decide (t1 < (4 : Int))) true (decide ((40 : Int) < t1))) rfl (fun c1 => ?_) (fun c1 => ?_)
  · replace H := condT c1 H
    refine AW.regionSeq ?_
    refine OpsW.seg 1 [14, 4] [] [(14, .agg [.im (.val (.slice none 0 0)), .int .i64 (0 : Int), .int .i64 (1 : Int)]), (4, .ref 4 0 0)] (by kernel_rfl) trivial ?_
    refine OpsW.store rfl rfl rfl rfl trivial trivial rfl rfl rfl (by kernel_rfl) (okCb_sound (by kernel_rfl)) (Nat.le_of_ble_eq_true (by kernel_rfl)) ?_
    change OpsW _ _ _ _ _ [(4, ⟨0, true, 34, 3, [.im (.val (.slice none 0 0)), .int .i64 (0 : Int), .int .i64 (1 : Int)]⟩), (4, ⟨0, true, 34, 3, [.im (.val (.slice none 0 0)), .int .i64 (0 : Int), .int .i64 (0 : Int)]⟩)] _
    refine OpsW.seg 0 [4] [] [(4, .ref 4 0 0)] (by kernel_rfl) trivial ?_
    refine OpsW.recast (env' := [(4, .ref 4 0 0)]) (h' := [(4, ⟨0, true, 34, 3, [.im (.val (.slice none 0 0)), .int .i64 (0 : Int), .int .i64 (1 : Int)]⟩)]) (StC.mk (phi [(4, some 4)]) (.old rfl rfl rfl rfl rfl (.cons .im (.cons .im (.cons .im .nil))) .nil) rfl (.cons (.ref rfl rfl rfl rfl rfl) .nil)) ?_
    refine OpsW.nil ?_
    obtain rfl := Option.some.inj H
    refine AW.recast (env' := [(4, .ref 4 0 0)]) (h' := [(4, ⟨0, true, 34, 3, [slA (eI .i64) [], .int .i64 (0 : Int), .int .i64 (1 : Int)]⟩)]) (StC.mk (phi [(4, some 4)]) (.old rfl rfl rfl rfl rfl (.cons .nil (.cons .im (.cons .im .nil))) .nil) rfl (.cons (.ref rfl rfl rfl rfl rfl) .nil)) ?_
    refine AW.ret ?_
    try simp only [Ex.then, Ex.inBlock, Ex.noGoto, Ex.jump, reduceIte, Nat.reduceEqDiff, reduceCtorEq]
    refine Done.gen rfl (.cell rfl (by kernel_rfl) .nil) ?_
    show _ = _
    kernel_rfl
  · replace H := condF c1 H
    refine AW.skip ?_
    refine AW.regionSeq ?_
    refine OpsW.buildT (enc := eI .i64) ([] : List Int) rfl rfl rfl 15 rfl E29 (fun _ => rfl) (by decide) trivial (by kernel_rfl) (by kernel_rfl) (by kernel_rfl) rfl ?_
    refine OpsW.seg 2 [6, 5, 4, 0, 1] [] [(6, .int .i64 (0 : Int)), (5, .rsl 15 0 0 (([] : List Int).length)), (4, .ref 4 0 0), (0, slA eS_Row t0), (1, .int .i64 t1)] (by kernel_rfl) trivial ?_
    refine OpsW.recast (env' := [(6, .int .i64 (0 : Int)), (5, .rsl 5 0 0 (([] : List Int).length)), (4, .ref 4 0 0), (0, slA eS_Row t0), (1, .int .i64 t1)]) (h' := [(4, ⟨0, true, 34, 3, [.im (.val (.slice none 0 0)), .int .i64 (0 : Int), .int .i64 (0 : Int)]⟩), (5, rtA 0 3 1 (eI .i64) ([] : List Int))]) (StC.mk (phi [(4, some 4), (5, some 15)]) (.old rfl rfl rfl rfl rfl (.cons .im (.cons .im (.cons .im .nil))) (.old rfl rfl rfl rfl rfl (CstL.ims _) .nil)) rfl (.cons .im (.cons (.rsl rfl rfl rfl rfl rfl rfl) (.cons (.ref rfl rfl rfl rfl rfl) (.cons .im (.cons .im .nil)))))) ?_
    refine OpsW.nil ?_
    refine AW.seq ?_
    refine AW.block ?_
    refine AW.iterK (fun loop (s : S_Filled × (List Int) × Int) => f_R21_Fill_b1 t0 t1 loop s.1 s.2.1 s.2.2) r (fun (s : S_Filled × (List Int) × Int) => [(0, slA eS_Row t0), (1, .int .i64 t1), (4, .ref 4 0 0), (5, .rsl 5 0 0 s.2.1.length), (6, .int .i64 s.2.2)]) (fun (s : S_Filled × (List Int) × Int) => [(4, ⟨0, true, 34, 3, [slA (eI .i64) s.1.Ends, .int .i64 s.1.At, .int .i64 s.1.E]⟩), (5, rtA 0 3 1 (eI .i64) s.2.1)]) ?_ 1000000 ((⟨[], (0 : Int), (0 : Int)⟩ : S_Filled), ([] : List Int), (0 : Int)) H (StC.mk (phi [(4, some 4), (5, some 5)]) (.old rfl rfl rfl rfl rfl (.cons .nil (.cons .im (.cons .im .nil))) (.old rfl rfl rfl rfl rfl (CstL.ims _) .nil)) rfl (.cons .im (.cons .im (.cons (.ref rfl rfl rfl rfl rfl) (.cons (.rsl rfl rfl rfl rfl rfl rfl) (.cons .im .nil))))))
    intro loop5 s H
    obtain ⟨v2, v3, v4⟩ := s
    change f_R21_Fill_b1 t0 t1 loop5 v2 v3 v4 = some r at H
    unfold f_R21_Fill_b1 at H
    change AW _ _ _ [(0, slA eS_Row t0), (1, .int .i64 t1), (4, .ref 4 0 0), (5, .rsl 5 0 0 v3.length), (6, .int .i64 v4)] [(4, ⟨0, true, 34, 3, [slA (eI .i64) v2.Ends, .int .i64 v2.At, .int .i64 v2.E]⟩), (5, rtA 0 3 1 (eI .i64) v3)] _
    refine AW.seq ?_
    refine AW.regionSeq ?_
    refine OpsW.seg 4 [19, 0, 1, 4, 5, 6] [] [(19, .bool (decide (v4 < (t0.length : Int)))), (0, slA eS_Row t0), (1, .int .i64 t1), (4, .ref 4 0 0), (5, .rsl 5 0 0 v3.length), (6, .int .i64 v4)] (by kernel_rfl) trivial ?_
    refine OpsW.nil ?_
    refine AW.cond (b := decide (v4 < (t0.length : Int))) rfl (fun c6 => ?_) (fun c6 => ?_)
    · replace H := condT c6 H
      refine AW.skip ?_
      refine AW.block ?_
      refine AW.regionSeq ?_
      refine OpsW.seg 3 [22, 21, 20, 0, 1, 4, 5, 6] [] [(22, .int .i64 t1), (21, .int .i64 v4), (20, slA eS_Row t0), (0, slA eS_Row t0), (1, .int .i64 t1), (4, .ref 4 0 0), (5, .rsl 5 0 0 v3.length), (6, .int .i64 v4)] (by kernel_rfl) trivial ?_
      obtain ⟨x7, hx7, H⟩ := bindS H
      refine OpsW.qcall rfl (by kernel_rfl) rfl rfl (glAll_sound trivial) (.cons (.pur rfl) (.cons (.pur rfl) (.cons (.pur rfl) .nil))) (f_R21_Next_ok hx7) rfl ?_
      refine OpsW.seg 1 [7, 0, 1, 4, 5, 6] [] [(7, slA (eI .i64) x7), (0, slA eS_Row t0), (1, .int .i64 t1), (4, .ref 4 0 0), (5, .rsl 5 0 0 v3.length), (6, .int .i64 v4)] (by kernel_rfl) trivial ?_
      refine OpsW.nil ?_
      refine AW.seq ?_
      refine AW.regionSeq ?_
      refine OpsW.seg 3 [26, 7, 0, 1, 4, 5, 6] [] [(26, .bool ((x7.length : Int) == (0 : Int))), (7, slA (eI .i64) x7), (0, slA eS_Row t0), (1, .int .i64 t1), (4, .ref 4 0 0), (5, .rsl 5 0 0 v3.length), (6, .int .i64 v4)] (by kernel_rfl) trivial ?_
      refine OpsW.nil ?_
      refine AW.cond (b := (x7.length : Int) == (0 : Int)) rfl (fun c8 => ?_) (fun c8 => ?_)
      · replace H := condT c8 H
        refine AW.regionSeq ?_
        refine OpsW.seg 2 [28, 4] [] [(28, .agg [.im (.val (.slice none 0 0)), .int .i64 v4, .int .i64 (210 : Int)]), (4, .ref 4 0 0)] (by kernel_rfl) trivial ?_
        refine OpsW.store rfl rfl rfl rfl trivial trivial rfl rfl rfl (by kernel_rfl) (okCb_sound (by kernel_rfl)) (Nat.le_of_ble_eq_true (by kernel_rfl)) ?_
        change OpsW _ _ _ _ _ [(4, ⟨0, true, 34, 3, [.im (.val (.slice none 0 0)), .int .i64 v4, .int .i64 (210 : Int)]⟩), (4, ⟨0, true, 34, 3, [slA (eI .i64) v2.Ends, .int .i64 v2.At, .int .i64 v2.E]⟩), (5, rtA 0 3 1 (eI .i64) v3)] _
        refine OpsW.seg 0 [4] [] [(4, .ref 4 0 0)] (by kernel_rfl) trivial ?_
        refine OpsW.recast (env' := [(4, .ref 4 0 0)]) (h' := [(4, ⟨0, true, 34, 3, [.im (.val (.slice none 0 0)), .int .i64 v4, .int .i64 (210 : Int)]⟩)]) (StC.mk (phi [(4, some 4)]) (.old rfl rfl rfl rfl rfl (.cons .im (.cons .im (.cons .im .nil))) .nil) rfl (.cons (.ref rfl rfl rfl rfl rfl) .nil)) ?_
        refine OpsW.nil ?_
        obtain rfl := Option.some.inj H
        refine AW.recast (env' := [(4, .ref 4 0 0)]) (h' := [(4, ⟨0, true, 34, 3, [slA (eI .i64) [], .int .i64 v4, .int .i64 (210 : Int)]⟩)]) (StC.mk (phi [(4, some 4)]) (.old rfl rfl rfl rfl rfl (.cons .nil (.cons .im (.cons .im .nil))) .nil) rfl (.cons (.ref rfl rfl rfl rfl rfl) .nil)) ?_
        refine AW.ret ?_
        try simp only [Ex.then, Ex.inBlock, Ex.noGoto, Ex.jump, reduceIte, Nat.reduceEqDiff, reduceCtorEq]
        refine Done.gen rfl (.cell rfl (by kernel_rfl) .nil) ?_
        show _ = _
        kernel_rfl
      · replace H := condF c8 H
        refine AW.skip ?_
        refine AW.regionSeq ?_
        obtain ⟨g9, H⟩ := G_some H
        obtain ⟨g10, H⟩ := G_some H
        refine OpsW.seg 5 [33, 0, 1, 4, 5, 6] [inR ((x7.length : Int) - (1 : Int)), 0 ≤ ((x7.length : Int) - (1 : Int)) ∧ ((x7.length : Int) - (1 : Int)) < (x7.length : Int)] [(33, .ipt (x7.flatMap (eI .i64)) (((x7.length : Int) - (1 : Int)).toNat * 1)), (0, slA eS_Row t0), (1, .int .i64 t1), (4, .ref 4 0 0), (5, .rsl 5 0 0 v3.length), (6, .int .i64 v4)] (by kernel_rfl) ⟨g9, g10, trivial⟩ ?_
        refine OpsW.asU (.int .i64 (x7.getD ((x7.length : Int) - (1 : Int)).toNat (0 : Int))) rfl rfl (T.load rfl trivial (by kernel_rfl) (fm_cell0 (eI .i64) 1 (fun _ => rfl) x7 (0 : Int) ((x7.length : Int) - (1 : Int)).toNat (ltN g10) (fun a => .val (.int .i64 a)) (fun _ => rfl))) ?_
        refine OpsW.seg 1 [6, 0, 1, 4, 5] [] [(6, .int .i64 (x7.getD ((x7.length : Int) - (1 : Int)).toNat (0 : Int))), (0, slA eS_Row t0), (1, .int .i64 t1), (4, .ref 4 0 0), (5, .rsl 5 0 0 v3.length)] (by kernel_rfl) trivial ?_
        refine OpsW.nil ?_
        refine AW.region ?_
        refine OpsW.seg 2 [36, 35, 6, 0, 1, 4, 5] [] [(36, .int .i64 (x7.getD ((x7.length : Int) - (1 : Int)).toNat (0 : Int))), (35, .rsl 5 0 0 v3.length), (6, .int .i64 (x7.getD ((x7.length : Int) - (1 : Int)).toNat (0 : Int))), (0, slA eS_Row t0), (1, .int .i64 t1), (4, .ref 4 0 0), (5, .rsl 5 0 0 v3.length)] (by kernel_rfl) trivial ?_
        obtain ⟨g11, H⟩ := G_some H
        refine OpsW.appendLF (enc := eI .i64) [x7.getD ((x7.length : Int) - (1 : Int)).toNat (0 : Int)] rfl rfl rfl (by decide) rfl rfl rfl (by simp) E29 (fun _ => rfl) (by decide) trivial (by kernel_rfl) (by kernel_rfl) (by kernel_rfl) rfl rfl rfl g11 ?_
        refine OpsW.seg 1 [5, 6, 0, 1, 4] [] [(5, .rsl 5 1 0 ((v3 ++ [x7.getD ((x7.length : Int) - (1 : Int)).toNat (0 : Int)]).length)), (6, .int .i64 (x7.getD ((x7.length : Int) - (1 : Int)).toNat (0 : Int))), (0, slA eS_Row t0), (1, .int .i64 t1), (4, .ref 4 0 0)] (by kernel_rfl) trivial ?_
        refine OpsW.recast (env' := [(5, .rsl 5 0 0 ((v3 ++ [x7.getD ((x7.length : Int) - (1 : Int)).toNat (0 : Int)]).length)), (6, .int .i64 (x7.getD ((x7.length : Int) - (1 : Int)).toNat (0 : Int))), (0, slA eS_Row t0), (1, .int .i64 t1), (4, .ref 4 0 0)]) (h' := [(4, ⟨0, true, 34, 3, [slA (eI .i64) v2.Ends, .int .i64 v2.At, .int .i64 v2.E]⟩), (5, rtA 0 3 1 (eI .i64) (v3 ++ [x7.getD ((x7.length : Int) - (1 : Int)).toNat (0 : Int)]))]) (StC.mk (phi [(4, some 4), (5, some 5)]) (.old rfl rfl rfl rfl rfl (.cons .im (.cons .im (.cons .im .nil))) (.old rfl rfl rfl rfl rfl (CstL.ims _) .nil)) rfl (.cons (.rsl rfl rfl rfl rfl rfl rfl) (.cons .im (.cons .im (.cons .im (.cons (.ref rfl rfl rfl rfl rfl) .nil)))))) ?_
        refine OpsW.nil ?_
        show ∃ y, _ ∧ StC _ _ _ _
        exact ⟨(v2, v3 ++ [x7.getD ((x7.length : Int) - (1 : Int)).toNat (0 : Int)], x7.getD ((x7.length : Int) - (1 : Int)).toNat (0 : Int)), H, (StC.mk (phi [(4, some 4), (5, some 5)]) (.old rfl rfl rfl rfl rfl (.cons .im (.cons .im (.cons .im .nil))) (.old rfl rfl rfl rfl rfl (CstL.ims _) .nil)) rfl (.cons .im (.cons .im (.cons (.ref rfl rfl rfl rfl rfl) (.cons (.rsl rfl rfl rfl rfl rfl rfl) (.cons .im .nil))))))⟩
    · replace H := condF c6 H
      refine AW.exit ?_
      refine AW.regionSeq ?_
      refine OpsW.seg 1 [39, 4] [] [(39, .rsl 5 0 0 v3.length), (4, .ref 4 0 0)] (by kernel_rfl) trivial ?_
      refine OpsW.recast (env' := [(39, slA (eI .i64) v3), (4, .ref 4 0 0)]) (h' := [(4, ⟨0, true, 34, 3, [slA (eI .i64) v2.Ends, .int .i64 v2.At, .int .i64 v2.E]⟩)]) (StC.mk (phi [(4, some 4)]) (.old rfl rfl rfl rfl rfl (.cons .im (.cons .im (.cons .im .nil))) .nil) rfl (.cons (.frz rfl rfl rfl (frz_all (eI .i64) 1 (fun _ => rfl) v3) (fm_length (eI .i64) 1 (fun _ => rfl) v3) (phi_ne rfl)) (.cons (.ref rfl rfl rfl rfl rfl) .nil))) ?_
      refine OpsW.seg 1 [40, 4] [] [(40, .agg [slA (eI .i64) v3, .int .i64 (0 : Int), .int .i64 (0 : Int)]), (4, .ref 4 0 0)] (by kernel_rfl) trivial ?_
      refine OpsW.store rfl rfl rfl rfl trivial trivial rfl rfl rfl (by kernel_rfl) (okCb_sound (by kernel_rfl)) (Nat.le_of_ble_eq_true (by kernel_rfl)) ?_
      change OpsW _ _ _ _ _ [(4, ⟨0, true, 34, 3, [slA (eI .i64) v3, .int .i64 (0 : Int), .int .i64 (0 : Int)]⟩), (4, ⟨0, true, 34, 3, [slA (eI .i64) v2.Ends, .int .i64 v2.At, .int .i64 v2.E]⟩)] _
      refine OpsW.seg 0 [4] [] [(4, .ref 4 0 0)] (by kernel_rfl) trivial ?_
      refine OpsW.recast (env' := [(4, .ref 4 0 0)]) (h' := [(4, ⟨0, true, 34, 3, [slA (eI .i64) v3, .int .i64 (0 : Int), .int .i64 (0 : Int)]⟩)]) (StC.mk (phi [(4, some 4)]) (.old rfl rfl rfl rfl rfl (.cons .im (.cons .im (.cons .im .nil))) .nil) rfl (.cons (.ref rfl rfl rfl rfl rfl) .nil)) ?_
      refine OpsW.nil ?_
      obtain rfl := Option.some.inj H
      refine AW.recast (env' := [(4, .ref 4 0 0)]) (h' := [(4, ⟨0, true, 34, 3, [slA (eI .i64) v3, .int .i64 (0 : Int), .int .i64 (0 : Int)]⟩)]) (StC.mk (phi [(4, some 4)]) (.old rfl rfl rfl rfl rfl (.cons .im (.cons .im (.cons .im .nil))) .nil) rfl (.cons (.ref rfl rfl rfl rfl rfl) .nil)) ?_
      refine AW.ret ?_
      try simp only [Ex.then, Ex.inBlock, Ex.noGoto, Ex.jump, reduceIte, Nat.reduceEqDiff, reduceCtorEq]
      refine Done.gen rfl (.cell rfl (by kernel_rfl) .nil) ?_
      show _ = _
      kernel_rfl
def f_R21_First (t0 : List Int) (t1 : Int) : Option Int :=
  cond (t1 == (0 : Int)) (
    some (0 : Int)) (
    G (inR (t1 - (1 : Int))) <|
    G (0 ≤ (t1 - (1 : Int)) ∧ (t1 - (1 : Int)) < (t0.length : Int)) <|
    some (t0.getD (t1 - (1 : Int)).toNat (0 : Int)))
theorem f_R21_First_ok {t0 : List Int} {t1 : Int} {r : Int} (H : f_R21_First t0 t1 = some r) : QSpec Try.prog 23 [slA (eI .i64) t0, .int .i64 t1] (.int .i64 r) := by
  refine Spec.of_AW Try.func23 rfl (by simp [Try.ntmps23]) ?_
  rw [Try.ntmps23]
  unfold f_R21_First at H
  change AW _ _ _ [(0, slA (eI .i64) t0), (1, .int .i64 t1)] [] _
  refine AW.regionSeq ?_
  refine OpsW.seg 1 [0, 1] [] [(0, slA (eI .i64) t0), (1, .int .i64 t1)] (by kernel_rfl) trivial ?_
  refine OpsW.nil ?_
  refine AW.seq ?_
  refine AW.regionSeq ?_
  refine OpsW.seg 2 [6, 0, 1] [] [(6, .bool (t1 == (0 : Int))), (0, slA (eI .i64) t0), (1, .int .i64 t1)] (by kernel_rfl) trivial ?_
  refine OpsW.nil ?_
  refine AW.cond (b := t1 == (0 : Int)) rfl (fun c1 => ?_) (fun c1 => ?_)
  · replace H := condT c1 H
    refine AW.regionSeq ?_
    refine OpsW.seg 1 [4] [] [(4, .int .i64 (0 : Int))] (by kernel_rfl) trivial ?_
    refine OpsW.nil ?_
    obtain rfl := Option.some.inj H
    refine AW.recast (env' := [(4, .int .i64 (0 : Int))]) (h' := []) (StC.pure (.cons .im .nil)) ?_
    refine AW.ret ?_
    try simp only [Ex.then, Ex.inBlock, Ex.noGoto, Ex.jump, reduceIte, Nat.reduceEqDiff, reduceCtorEq]
    refine Done.gen rfl (.tmp .nil) ?_
    show _ = _
    kernel_rfl
  · replace H := condF c1 H
    refine AW.skip ?_
    refine AW.regionSeq ?_
    obtain ⟨g2, H⟩ := G_some H
    obtain ⟨g3, H⟩ := G_some H
    refine OpsW.seg 4 [10] [inR (t1 - (1 : Int)), 0 ≤ (t1 - (1 : Int)) ∧ (t1 - (1 : Int)) < (t0.length : Int)] [(10, .ipt (t0.flatMap (eI .i64)) ((t1 - (1 : Int)).toNat * 1))] (by kernel_rfl) ⟨g2, g3, trivial⟩ ?_
    refine OpsW.asU (.int .i64 (t0.getD (t1 - (1 : Int)).toNat (0 : Int))) rfl rfl (T.load rfl trivial (by kernel_rfl) (fm_cell0 (eI .i64) 1 (fun _ => rfl) t0 (0 : Int) (t1 - (1 : Int)).toNat (ltN g3) (fun a => .val (.int .i64 a)) (fun _ => rfl))) ?_
    refine OpsW.seg 1 [4] [] [(4, .int .i64 (t0.getD (t1 - (1 : Int)).toNat (0 : Int)))] (by kernel_rfl) trivial ?_
    refine OpsW.nil ?_
    obtain rfl := Option.some.inj H
    refine AW.recast (env' := [(4, .int .i64 (t0.getD (t1 - (1 : Int)).toNat (0 : Int)))]) (h' := []) (StC.pure (.cons .im .nil)) ?_
    refine AW.ret ?_
    try simp only [Ex.then, Ex.inBlock, Ex.noGoto, Ex.jump, reduceIte, Nat.reduceEqDiff, reduceCtorEq]
    refine Done.gen rfl (.tmp .nil) ?_
    show _ = _
    kernel_rfl
def f_R21_Fewest_k1 (loop7 : (Int × Int) → Option Int) (v6 : Int) (v9 : Int) : Option Int :=
  G (inR (v6 + (1 : Int))) <|
  loop7 (v9, v6 + (1 : Int))
def f_R21_Fewest_b1 (t0 : List S_Row) (t1 : Int) (loop3 : ((List Int) × Int) → Option Int) (v1 : List Int) (v2 : Int) (loop7 : (Int × Int) → Option Int) (v5 : Int) (v6 : Int) : Option Int :=
  cond (decide (v6 < v2)) (
    G (0 ≤ v6 ∧ v6 < (v1.length : Int)) <|
    G ((!(decide ((v1.getD v6.toNat (0 : Int)) < (0 : Int)))) = true → inR (v2 - v6)) <|
    G ((!(decide ((v1.getD v6.toNat (0 : Int)) < (0 : Int)))) = true → inR (t1 - (1 : Int))) <|
    G (((!(cond (decide ((v1.getD v6.toNat (0 : Int)) < (0 : Int))) true (decide ((t1 - (1 : Int)) < (v2 - v6))))) && (decide (v2 < (t0.length : Int)))) = true → inR (v2 - (1 : Int))) <|
    G (((!(cond (decide ((v1.getD v6.toNat (0 : Int)) < (0 : Int))) true (decide ((t1 - (1 : Int)) < (v2 - v6))))) && (decide (v2 < (t0.length : Int)))) = true → (0 ≤ (v2 - (1 : Int)) ∧ (v2 - (1 : Int)) < (t0.length : Int))) <|
    cond (cond (cond (decide ((v1.getD v6.toNat (0 : Int)) < (0 : Int))) true (decide ((t1 - (1 : Int)) < (v2 - v6)))) true (cond (decide (v2 < (t0.length : Int))) ((t0.getD (v2 - (1 : Int)).toNat zS_Row).Keep) false)) (
      f_R21_Fewest_k1 loop7 v6 v5) (
      G ((!(decide (v5 < (0 : Int)))) = true → inR ((v1.getD v6.toNat (0 : Int)) + (1 : Int))) <|
      cond (cond (decide (v5 < (0 : Int))) true (decide (((v1.getD v6.toNat (0 : Int)) + (1 : Int)) < v5))) (
        G (inR ((v1.getD v6.toNat (0 : Int)) + (1 : Int))) <|
        f_R21_Fewest_k1 loop7 v6 ((v1.getD v6.toNat (0 : Int)) + (1 : Int))) (
        f_R21_Fewest_k1 loop7 v6 v5))) (
    G (room 8 (v1.length + 1)) <|
    G (inR (v2 + (1 : Int))) <|
    loop3 (v1 ++ [v5], v2 + (1 : Int)))
def f_R21_Fewest_b2 (t0 : List S_Row) (t1 : Int) (loop3 : ((List Int) × Int) → Option Int) (v1 : List Int) (v2 : Int) : Option Int :=
  cond (decide (v2 ≤ (t0.length : Int))) (
    iter (fun loop (s : Int × Int) => f_R21_Fewest_b1 t0 t1 loop3 v1 v2 loop s.1 s.2) 1000000 ((-1 : Int), (0 : Int))) (
    G (0 ≤ (t0.length : Int) ∧ (t0.length : Int) < (v1.length : Int)) <|
    some (v1.getD (t0.length : Int).toNat (0 : Int)))
def f_R21_Fewest (t0 : List S_Row) (t1 : Int) : Option Int :=
  iter (fun loop (s : (List Int) × Int) => f_R21_Fewest_b2 t0 t1 loop s.1 s.2) 1000000 ([(0 : Int)], (1 : Int))
theorem f_R21_Fewest_ok {t0 : List S_Row} {t1 : Int} {r : Int} (H : f_R21_Fewest t0 t1 = some r) : QSpec Try.prog 19 [slA eS_Row t0, .int .i64 t1] (.int .i64 r) := by
  refine Spec.of_AW Try.func19 rfl (by simp [Try.ntmps19]) ?_
  rw [Try.ntmps19]
  unfold f_R21_Fewest at H
  change AW _ _ _ [(0, slA eS_Row t0), (1, .int .i64 t1)] [] _
  refine AW.regionSeq ?_
  refine OpsW.seg 1 [0, 1] [] [(0, slA eS_Row t0), (1, .int .i64 t1)] (by kernel_rfl) trivial ?_
  refine OpsW.nil ?_
  refine AW.regionSeq ?_
  refine OpsW.buildT (enc := eI .i64) [(0 : Int)] rfl rfl rfl 9 rfl E29 (fun _ => rfl) (by decide) trivial (by kernel_rfl) (by kernel_rfl) (by kernel_rfl) rfl ?_
  refine OpsW.seg 1 [5, 0, 1] [] [(5, .rsl 9 0 0 ([(0 : Int)].length)), (0, slA eS_Row t0), (1, .int .i64 t1)] (by kernel_rfl) trivial ?_
  refine OpsW.recast (env' := [(5, .rsl 5 0 0 ([(0 : Int)].length)), (0, slA eS_Row t0), (1, .int .i64 t1)]) (h' := [(5, rtA 0 3 1 (eI .i64) [(0 : Int)])]) (StC.mk (phi [(5, some 9)]) (.old rfl rfl rfl rfl rfl (CstL.ims _) .nil) rfl (.cons (.rsl rfl rfl rfl rfl rfl rfl) (.cons .im (.cons .im .nil)))) ?_
  refine OpsW.nil ?_
  refine AW.seq ?_
  refine AW.regionSeq ?_
  refine OpsW.seg 1 [6, 5, 0, 1] [] [(6, .int .i64 (1 : Int)), (5, .rsl 5 0 0 ([(0 : Int)].length)), (0, slA eS_Row t0), (1, .int .i64 t1)] (by kernel_rfl) trivial ?_
  refine OpsW.nil ?_
  refine AW.block ?_
  refine AW.iterK (fun loop (s : (List Int) × Int) => f_R21_Fewest_b2 t0 t1 loop s.1 s.2) r (fun (s : (List Int) × Int) => [(0, slA eS_Row t0), (1, .int .i64 t1), (5, .rsl 5 0 0 s.1.length), (6, .int .i64 s.2)]) (fun (s : (List Int) × Int) => [(5, rtA 0 3 1 (eI .i64) s.1)]) ?_ 1000000 ([(0 : Int)], (1 : Int)) H (StC.mk (phi [(5, some 5)]) (.old rfl rfl rfl rfl rfl (CstL.ims _) .nil) rfl (.cons .im (.cons .im (.cons (.rsl rfl rfl rfl rfl rfl rfl) (.cons .im .nil)))))
  intro loop3 s H
  obtain ⟨v1, v2⟩ := s
  change f_R21_Fewest_b2 t0 t1 loop3 v1 v2 = some r at H
  unfold f_R21_Fewest_b2 at H
  change AW _ _ _ [(0, slA eS_Row t0), (1, .int .i64 t1), (5, .rsl 5 0 0 v1.length), (6, .int .i64 v2)] [(5, rtA 0 3 1 (eI .i64) v1)] _
  refine AW.seq ?_
  refine AW.regionSeq ?_
  refine OpsW.seg 4 [13, 0, 1, 5, 6] [] [(13, .bool (decide (v2 ≤ (t0.length : Int)))), (0, slA eS_Row t0), (1, .int .i64 t1), (5, .rsl 5 0 0 v1.length), (6, .int .i64 v2)] (by kernel_rfl) trivial ?_
  refine OpsW.nil ?_
  refine AW.cond (b := decide (v2 ≤ (t0.length : Int))) rfl (fun c4 => ?_) (fun c4 => ?_)
  · replace H := condT c4 H
    refine AW.skip ?_
    refine AW.seq ?_
    refine AW.block ?_
    refine AW.regionSeq ?_
    refine OpsW.seg 1 [7, 0, 1, 5, 6] [] [(7, .int .i64 (-1 : Int)), (0, slA eS_Row t0), (1, .int .i64 t1), (5, .rsl 5 0 0 v1.length), (6, .int .i64 v2)] (by kernel_rfl) trivial ?_
    refine OpsW.nil ?_
    refine AW.seq ?_
    refine AW.regionSeq ?_
    refine OpsW.seg 1 [8, 7, 0, 1, 5, 6] [] [(8, .int .i64 (0 : Int)), (7, .int .i64 (-1 : Int)), (0, slA eS_Row t0), (1, .int .i64 t1), (5, .rsl 5 0 0 v1.length), (6, .int .i64 v2)] (by kernel_rfl) trivial ?_
    refine OpsW.nil ?_
    refine AW.block ?_
    refine AW.iterK (fun loop (s : Int × Int) => f_R21_Fewest_b1 t0 t1 loop3 v1 v2 loop s.1 s.2) r (fun (s : Int × Int) => [(0, slA eS_Row t0), (1, .int .i64 t1), (5, .rsl 5 0 0 v1.length), (6, .int .i64 v2), (7, .int .i64 s.1), (8, .int .i64 s.2)]) (fun (s : Int × Int) => [(5, rtA 0 3 1 (eI .i64) v1)]) ?_ 1000000 ((-1 : Int), (0 : Int)) H (StC.mk (phi [(5, some 5)]) (.old rfl rfl rfl rfl rfl (CstL.ims _) .nil) rfl (.cons .im (.cons .im (.cons (.rsl rfl rfl rfl rfl rfl rfl) (.cons .im (.cons .im (.cons .im .nil)))))))
    intro loop7 s H
    obtain ⟨v5, v6⟩ := s
    change f_R21_Fewest_b1 t0 t1 loop3 v1 v2 loop7 v5 v6 = some r at H
    unfold f_R21_Fewest_b1 at H
    change AW _ _ _ [(0, slA eS_Row t0), (1, .int .i64 t1), (5, .rsl 5 0 0 v1.length), (6, .int .i64 v2), (7, .int .i64 v5), (8, .int .i64 v6)] [(5, rtA 0 3 1 (eI .i64) v1)] _
    refine AW.seq ?_
    refine AW.regionSeq ?_
    refine OpsW.seg 3 [18, 0, 1, 5, 6, 7, 8] [] [(18, .bool (decide (v6 < v2))), (0, slA eS_Row t0), (1, .int .i64 t1), (5, .rsl 5 0 0 v1.length), (6, .int .i64 v2), (7, .int .i64 v5), (8, .int .i64 v6)] (by kernel_rfl) trivial ?_
    refine OpsW.nil ?_
    refine AW.cond (b := decide (v6 < v2)) rfl (fun c8 => ?_) (fun c8 => ?_)
    · replace H := condT c8 H
      refine AW.skip ?_
      refine AW.joinK (fun (y : Int) => f_R21_Fewest_k1 loop7 v6 y) r (fun (y : Int) => [(0, slA eS_Row t0), (1, .int .i64 t1), (5, .rsl 5 0 0 v1.length), (6, .int .i64 v2), (7, .int .i64 y), (8, .int .i64 v6)]) (fun (y : Int) => [(5, rtA 0 3 1 (eI .i64) v1)]) ?_ ?_
      · refine AW.block ?_
        refine AW.seq ?_
        refine AW.regionSeq ?_
        obtain ⟨g11, H⟩ := G_some H
        refine OpsW.seg 3 [23, 0, 1, 5, 6, 7, 8] [0 ≤ v6 ∧ v6 < (v1.length : Int)] [(23, .ref 5 0 (0 + v6.toNat * 1)), (0, slA eS_Row t0), (1, .int .i64 t1), (5, .rsl 5 0 0 v1.length), (6, .int .i64 v2), (7, .int .i64 v5), (8, .int .i64 v6)] (by kernel_rfl) ⟨g11, trivial⟩ ?_
        refine OpsW.asU (.int .i64 (v1.getD v6.toNat (0 : Int))) rfl rfl (T.loadR rfl trivial (by kernel_rfl) rfl rfl rfl (rt_cell (eI .i64) 1 (fun _ => rfl) v1 (0 : Int) v6.toNat (ltN g11) 0 (fun a => .val (.int .i64 a)) (fun _ => rfl) (by omega))) ?_
        obtain ⟨g12, H⟩ := G_some H
        obtain ⟨g13, H⟩ := G_some H
        obtain ⟨g14, H⟩ := G_some H
        obtain ⟨g15, H⟩ := G_some H
        refine OpsW.seg 20 [44, 39, 34, 0, 1, 5, 6, 7, 8] [(!(decide ((v1.getD v6.toNat (0 : Int)) < (0 : Int)))) = true → (!(decide ((v1.getD v6.toNat (0 : Int)) < (0 : Int)))) = true, (!(decide ((v1.getD v6.toNat (0 : Int)) < (0 : Int)))) = true → (!(decide ((v1.getD v6.toNat (0 : Int)) < (0 : Int)))) = true, (!(decide ((v1.getD v6.toNat (0 : Int)) < (0 : Int)))) = true → inR (v2 - v6), (!(decide ((v1.getD v6.toNat (0 : Int)) < (0 : Int)))) = true → (!(decide ((v1.getD v6.toNat (0 : Int)) < (0 : Int)))) = true, (!(decide ((v1.getD v6.toNat (0 : Int)) < (0 : Int)))) = true → inR (t1 - (1 : Int)), (!(decide ((v1.getD v6.toNat (0 : Int)) < (0 : Int)))) = true → (!(decide ((v1.getD v6.toNat (0 : Int)) < (0 : Int)))) = true, (!(decide ((v1.getD v6.toNat (0 : Int)) < (0 : Int)))) = true → (!(decide ((v1.getD v6.toNat (0 : Int)) < (0 : Int)))) = true, (decide ((v1.getD v6.toNat (0 : Int)) < (0 : Int))) = false → (!(decide ((v1.getD v6.toNat (0 : Int)) < (0 : Int)))) = true, (!(cond (decide ((v1.getD v6.toNat (0 : Int)) < (0 : Int))) true (decide ((t1 - (1 : Int)) < (v2 - v6))))) = true → (!(cond (decide ((v1.getD v6.toNat (0 : Int)) < (0 : Int))) true (decide ((t1 - (1 : Int)) < (v2 - v6))))) = true, (!(cond (decide ((v1.getD v6.toNat (0 : Int)) < (0 : Int))) true (decide ((t1 - (1 : Int)) < (v2 - v6))))) = true → (!(cond (decide ((v1.getD v6.toNat (0 : Int)) < (0 : Int))) true (decide ((t1 - (1 : Int)) < (v2 - v6))))) = true, (!(cond (decide ((v1.getD v6.toNat (0 : Int)) < (0 : Int))) true (decide ((t1 - (1 : Int)) < (v2 - v6))))) = true → (!(cond (decide ((v1.getD v6.toNat (0 : Int)) < (0 : Int))) true (decide ((t1 - (1 : Int)) < (v2 - v6))))) = true, (!(cond (decide ((v1.getD v6.toNat (0 : Int)) < (0 : Int))) true (decide ((t1 - (1 : Int)) < (v2 - v6))))) = true → (!(cond (decide ((v1.getD v6.toNat (0 : Int)) < (0 : Int))) true (decide ((t1 - (1 : Int)) < (v2 - v6))))) = true, ((!(cond (decide ((v1.getD v6.toNat (0 : Int)) < (0 : Int))) true (decide ((t1 - (1 : Int)) < (v2 - v6))))) && (decide (v2 < (t0.length : Int)))) = true → ((!(cond (decide ((v1.getD v6.toNat (0 : Int)) < (0 : Int))) true (decide ((t1 - (1 : Int)) < (v2 - v6))))) && (decide (v2 < (t0.length : Int)))) = true, ((!(cond (decide ((v1.getD v6.toNat (0 : Int)) < (0 : Int))) true (decide ((t1 - (1 : Int)) < (v2 - v6))))) && (decide (v2 < (t0.length : Int)))) = true → inR (v2 - (1 : Int)), ((!(cond (decide ((v1.getD v6.toNat (0 : Int)) < (0 : Int))) true (decide ((t1 - (1 : Int)) < (v2 - v6))))) && (decide (v2 < (t0.length : Int)))) = true → ((!(cond (decide ((v1.getD v6.toNat (0 : Int)) < (0 : Int))) true (decide ((t1 - (1 : Int)) < (v2 - v6))))) && (decide (v2 < (t0.length : Int)))) = true, ((!(cond (decide ((v1.getD v6.toNat (0 : Int)) < (0 : Int))) true (decide ((t1 - (1 : Int)) < (v2 - v6))))) && (decide (v2 < (t0.length : Int)))) = true → ((!(cond (decide ((v1.getD v6.toNat (0 : Int)) < (0 : Int))) true (decide ((t1 - (1 : Int)) < (v2 - v6))))) && (decide (v2 < (t0.length : Int)))) = true, ((!(cond (decide ((v1.getD v6.toNat (0 : Int)) < (0 : Int))) true (decide ((t1 - (1 : Int)) < (v2 - v6))))) && (decide (v2 < (t0.length : Int)))) = true → (0 ≤ (v2 - (1 : Int)) ∧ (v2 - (1 : Int)) < (t0.length : Int)), ((!(cond (decide ((v1.getD v6.toNat (0 : Int)) < (0 : Int))) true (decide ((t1 - (1 : Int)) < (v2 - v6))))) && (decide (v2 < (t0.length : Int)))) = true → ((!(cond (decide ((v1.getD v6.toNat (0 : Int)) < (0 : Int))) true (decide ((t1 - (1 : Int)) < (v2 - v6))))) && (decide (v2 < (t0.length : Int)))) = true] [(44, .cnd ((!(cond (decide ((v1.getD v6.toNat (0 : Int)) < (0 : Int))) true (decide ((t1 - (1 : Int)) < (v2 - v6))))) && (decide (v2 < (t0.length : Int)))) (.ipt (t0.flatMap eS_Row) ((v2 - (1 : Int)).toNat * 5 + 1))), (39, .cnd (!(cond (decide ((v1.getD v6.toNat (0 : Int)) < (0 : Int))) true (decide ((t1 - (1 : Int)) < (v2 - v6))))) (.bool (decide (v2 < (t0.length : Int))))), (34, .bool (cond (decide ((v1.getD v6.toNat (0 : Int)) < (0 : Int))) true (decide ((t1 - (1 : Int)) < (v2 - v6))))), (0, slA eS_Row t0), (1, .int .i64 t1), (5, .rsl 5 0 0 v1.length), (6, .int .i64 v2), (7, .int .i64 v5), (8, .int .i64 v6)] (by kernel_rfl) ⟨(fun h => h), (fun h => h), g12, (fun h => h), g13, (fun h => h), (fun h => h), (fun h => by first | exact h | simpa using h), (fun h => h), (fun h => h), (fun h => h), (fun h => h), (fun h => h), g14, (fun h => h), (fun h => h), g15, (fun h => h), trivial⟩ ?_
        refine OpsW.asG (c := (!(cond (decide ((v1.getD v6.toNat (0 : Int)) < (0 : Int))) true (decide ((t1 - (1 : Int)) < (v2 - v6))))) && (decide (v2 < (t0.length : Int)))) (.bool ((t0.getD (v2 - (1 : Int)).toNat zS_Row).Keep)) rfl rfl rfl rfl (fun hc => T.load rfl hc (by kernel_rfl) (fm_cell eS_Row 5 (fun _ => rfl) t0 zS_Row (v2 - (1 : Int)).toNat (ltN (g15 hc)) 1 (fun a => .val (.bool a.Keep)) (fun _ => rfl))) ?_
        refine OpsW.seg 2 [47, 0, 1, 5, 6, 7, 8] [(!(cond (decide ((v1.getD v6.toNat (0 : Int)) < (0 : Int))) true (decide ((t1 - (1 : Int)) < (v2 - v6))))) = true → (!(cond (decide ((v1.getD v6.toNat (0 : Int)) < (0 : Int))) true (decide ((t1 - (1 : Int)) < (v2 - v6))))) = true, (!(cond (decide ((v1.getD v6.toNat (0 : Int)) < (0 : Int))) true (decide ((t1 - (1 : Int)) < (v2 - v6))))) = true → ((decide (v2 < (t0.length : Int))) = true → ((!(cond (decide ((v1.getD v6.toNat (0 : Int)) < (0 : Int))) true (decide ((t1 - (1 : Int)) < (v2 - v6))))) && (decide (v2 < (t0.length : Int)))) = true), (cond (decide ((v1.getD v6.toNat (0 : Int)) < (0 : Int))) true (decide ((t1 - (1 : Int)) < (v2 - v6)))) = false → (!(cond (decide ((v1.getD v6.toNat (0 : Int)) < (0 : Int))) true (decide ((t1 - (1 : Int)) < (v2 - v6))))) = true] [(47, .bool (cond (cond (decide ((v1.getD v6.toNat (0 : Int)) < (0 : Int))) true (decide ((t1 - (1 : Int)) < (v2 - v6)))) true (cond (decide (v2 < (t0.length : Int))) ((t0.getD (v2 - (1 : Int)).toNat zS_Row).Keep) false))), (0, slA eS_Row t0), (1, .int .i64 t1), (5, .rsl 5 0 0 v1.length), (6, .int .i64 v2), (7, .int .i64 v5), (8, .int .i64 v6)] (by kernel_rfl) ⟨(fun h => h), (fun h0 h => by first | exact h | (simp [h0, h]; done) | (simp at h0 h ⊢; simp [h0, h]; done) | (simp_all; done)), (fun h => by first | exact h | simpa using h), trivial⟩ ?_
        refine OpsW.nil ?_
        refine AW.cond (b := cond (cond (decide ((v1.getD v6.toNat (0 : Int)) < (0 : Int))) true (decide ((t1 - (1 : Int)) < (v2 - v6)))) true (cond (decide (v2 < (t0.length : Int))) ((t0.getD (v2 - (1 : Int)).toNat zS_Row).Keep) false)) rfl (fun c16 => ?_) (fun c16 => ?_)
        · replace H := condT c16 H
          refine AW.exit ?_
          show ∃ y, _ ∧ StC _ _ _ _
          exact ⟨v5, H, (StC.mk (phi [(5, some 5)]) (.old rfl rfl rfl rfl rfl (CstL.ims _) .nil) rfl (.cons .im (.cons .im (.cons (.rsl rfl rfl rfl rfl rfl rfl) (.cons .im (.cons .im (.cons .im .nil)))))))⟩
        · replace H := condF c16 H
          refine AW.skip ?_
          refine AW.regionSeq ?_
          refine OpsW.seg 6 [53, 50, 0, 1, 5, 6, 7, 8] [(!(decide (v5 < (0 : Int)))) = true → (!(decide (v5 < (0 : Int)))) = true, (!(decide (v5 < (0 : Int)))) = true → (!(decide (v5 < (0 : Int)))) = true, (!(decide (v5 < (0 : Int)))) = true → (0 ≤ v6 ∧ v6 < (v1.length : Int))] [(53, .cnd (!(decide (v5 < (0 : Int)))) (.ref 5 0 (0 + v6.toNat * 1))), (50, .bool (decide (v5 < (0 : Int)))), (0, slA eS_Row t0), (1, .int .i64 t1), (5, .rsl 5 0 0 v1.length), (6, .int .i64 v2), (7, .int .i64 v5), (8, .int .i64 v6)] (by kernel_rfl) ⟨(fun h => h), (fun h => h), (fun _ => g11), trivial⟩ ?_
          refine OpsW.asG (c := !(decide (v5 < (0 : Int)))) (.int .i64 (v1.getD v6.toNat (0 : Int))) rfl rfl rfl rfl (fun hc => T.loadR rfl hc (by kernel_rfl) rfl rfl rfl (rt_cell (eI .i64) 1 (fun _ => rfl) v1 (0 : Int) v6.toNat (ltN g11) 0 (fun a => .val (.int .i64 a)) (fun _ => rfl) (by omega))) ?_
          obtain ⟨g17, H⟩ := G_some H
          refine OpsW.seg 4 [58, 0, 1, 5, 6, 7, 8] [(!(decide (v5 < (0 : Int)))) = true → (!(decide (v5 < (0 : Int)))) = true, (!(decide (v5 < (0 : Int)))) = true → inR ((v1.getD v6.toNat (0 : Int)) + (1 : Int)), (!(decide (v5 < (0 : Int)))) = true → (!(decide (v5 < (0 : Int)))) = true, (!(decide (v5 < (0 : Int)))) = true → (!(decide (v5 < (0 : Int)))) = true, (decide (v5 < (0 : Int))) = false → (!(decide (v5 < (0 : Int)))) = true] [(58, .bool (cond (decide (v5 < (0 : Int))) true (decide (((v1.getD v6.toNat (0 : Int)) + (1 : Int)) < v5)))), (0, slA eS_Row t0), (1, .int .i64 t1), (5, .rsl 5 0 0 v1.length), (6, .int .i64 v2), (7, .int .i64 v5), (8, .int .i64 v6)] (by kernel_rfl) ⟨(fun h => h), g17, (fun h => h), (fun h => h), (fun h => by first | exact h | simpa using h), trivial⟩ ?_
          refine OpsW.nil ?_
          refine AW.cond (b := cond (decide (v5 < (0 : Int))) true (decide (((v1.getD v6.toNat (0 : Int)) + (1 : Int)) < v5))) rfl (fun c18 => ?_) (fun c18 => ?_)
          · replace H := condT c18 H
            refine AW.region ?_
            refine OpsW.seg 3 [61, 0, 1, 5, 6, 7, 8] [0 ≤ v6 ∧ v6 < (v1.length : Int)] [(61, .ref 5 0 (0 + v6.toNat * 1)), (0, slA eS_Row t0), (1, .int .i64 t1), (5, .rsl 5 0 0 v1.length), (6, .int .i64 v2), (7, .int .i64 v5), (8, .int .i64 v6)] (by kernel_rfl) ⟨g11, trivial⟩ ?_
            refine OpsW.asU (.int .i64 (v1.getD v6.toNat (0 : Int))) rfl rfl (T.loadR rfl trivial (by kernel_rfl) rfl rfl rfl (rt_cell (eI .i64) 1 (fun _ => rfl) v1 (0 : Int) v6.toNat (ltN g11) 0 (fun a => .val (.int .i64 a)) (fun _ => rfl) (by omega))) ?_
            obtain ⟨g19, H⟩ := G_some H
            refine OpsW.seg 2 [7, 0, 1, 5, 6, 8] [inR ((v1.getD v6.toNat (0 : Int)) + (1 : Int))] [(7, .int .i64 ((v1.getD v6.toNat (0 : Int)) + (1 : Int))), (0, slA eS_Row t0), (1, .int .i64 t1), (5, .rsl 5 0 0 v1.length), (6, .int .i64 v2), (8, .int .i64 v6)] (by kernel_rfl) ⟨g19, trivial⟩ ?_
            refine OpsW.nil ?_
            show ∃ y, _ ∧ StC _ _ _ _
            exact ⟨(v1.getD v6.toNat (0 : Int)) + (1 : Int), H, (StC.mk (phi [(5, some 5)]) (.old rfl rfl rfl rfl rfl (CstL.ims _) .nil) rfl (.cons .im (.cons .im (.cons (.rsl rfl rfl rfl rfl rfl rfl) (.cons .im (.cons .im (.cons .im .nil)))))))⟩
          · replace H := condF c18 H
            refine AW.skip ?_
            show ∃ y, _ ∧ StC _ _ _ _
            exact ⟨v5, H, (StC.mk (phi [(5, some 5)]) (.old rfl rfl rfl rfl rfl (CstL.ims _) .nil) rfl (.cons .im (.cons .im (.cons (.rsl rfl rfl rfl rfl rfl rfl) (.cons .im (.cons .im (.cons .im .nil)))))))⟩
      · intro v9 H
        change f_R21_Fewest_k1 loop7 v6 v9 = some r at H
        unfold f_R21_Fewest_k1 at H
        change AW _ _ _ [(0, slA eS_Row t0), (1, .int .i64 t1), (5, .rsl 5 0 0 v1.length), (6, .int .i64 v2), (7, .int .i64 v9), (8, .int .i64 v6)] [(5, rtA 0 3 1 (eI .i64) v1)] _
        refine AW.region ?_
        obtain ⟨g10, H⟩ := G_some H
        refine OpsW.seg 3 [8, 0, 1, 5, 6, 7] [inR (v6 + (1 : Int))] [(8, .int .i64 (v6 + (1 : Int))), (0, slA eS_Row t0), (1, .int .i64 t1), (5, .rsl 5 0 0 v1.length), (6, .int .i64 v2), (7, .int .i64 v9)] (by kernel_rfl) ⟨g10, trivial⟩ ?_
        refine OpsW.nil ?_
        show ∃ y, _ ∧ StC _ _ _ _
        exact ⟨(v9, v6 + (1 : Int)), H, (StC.mk (phi [(5, some 5)]) (.old rfl rfl rfl rfl rfl (CstL.ims _) .nil) rfl (.cons .im (.cons .im (.cons (.rsl rfl rfl rfl rfl rfl rfl) (.cons .im (.cons .im (.cons .im .nil)))))))⟩
    · replace H := condF c8 H
      refine AW.exit ?_
      refine AW.region ?_
      refine OpsW.seg 2 [65, 64, 0, 1, 5, 6] [] [(65, .int .i64 v5), (64, .rsl 5 0 0 v1.length), (0, slA eS_Row t0), (1, .int .i64 t1), (5, .rsl 5 0 0 v1.length), (6, .int .i64 v2)] (by kernel_rfl) trivial ?_
      obtain ⟨g20, H⟩ := G_some H
      refine OpsW.appendLF (enc := eI .i64) [v5] rfl rfl rfl (by decide) rfl rfl rfl (by simp) E29 (fun _ => rfl) (by decide) trivial (by kernel_rfl) (by kernel_rfl) (by kernel_rfl) rfl rfl rfl g20 ?_
      refine OpsW.seg 1 [5, 0, 1, 6] [] [(5, .rsl 5 1 0 ((v1 ++ [v5]).length)), (0, slA eS_Row t0), (1, .int .i64 t1), (6, .int .i64 v2)] (by kernel_rfl) trivial ?_
      refine OpsW.recast (env' := [(5, .rsl 5 0 0 ((v1 ++ [v5]).length)), (0, slA eS_Row t0), (1, .int .i64 t1), (6, .int .i64 v2)]) (h' := [(5, rtA 0 3 1 (eI .i64) (v1 ++ [v5]))]) (StC.mk (phi [(5, some 5)]) (.old rfl rfl rfl rfl rfl (CstL.ims _) .nil) rfl (.cons (.rsl rfl rfl rfl rfl rfl rfl) (.cons .im (.cons .im (.cons .im .nil))))) ?_
      refine OpsW.nil ?_
      refine AW.region ?_
      obtain ⟨g21, H⟩ := G_some H
      refine OpsW.seg 3 [6, 5, 0, 1] [inR (v2 + (1 : Int))] [(6, .int .i64 (v2 + (1 : Int))), (5, .rsl 5 0 0 ((v1 ++ [v5]).length)), (0, slA eS_Row t0), (1, .int .i64 t1)] (by kernel_rfl) ⟨g21, trivial⟩ ?_
      refine OpsW.nil ?_
      show ∃ y, _ ∧ StC _ _ _ _
      exact ⟨(v1 ++ [v5], v2 + (1 : Int)), H, (StC.mk (phi [(5, some 5)]) (.old rfl rfl rfl rfl rfl (CstL.ims _) .nil) rfl (.cons .im (.cons .im (.cons (.rsl rfl rfl rfl rfl rfl rfl) (.cons .im .nil)))))⟩
  · replace H := condF c4 H
    refine AW.exit ?_
    refine AW.regionSeq ?_
    obtain ⟨g22, H⟩ := G_some H
    refine OpsW.seg 4 [71] [0 ≤ (t0.length : Int) ∧ (t0.length : Int) < (v1.length : Int)] [(71, .ref 5 0 (0 + (t0.length : Int).toNat * 1))] (by kernel_rfl) ⟨g22, trivial⟩ ?_
    refine OpsW.asU (.int .i64 (v1.getD (t0.length : Int).toNat (0 : Int))) rfl rfl (T.loadR rfl trivial (by kernel_rfl) rfl rfl rfl (rt_cell (eI .i64) 1 (fun _ => rfl) v1 (0 : Int) (t0.length : Int).toNat (ltN g22) 0 (fun a => .val (.int .i64 a)) (fun _ => rfl) (by omega))) ?_
    refine OpsW.seg 1 [4] [] [(4, .int .i64 (v1.getD (t0.length : Int).toNat (0 : Int)))] (by kernel_rfl) trivial ?_
    refine OpsW.nil ?_
    obtain rfl := Option.some.inj H
    refine AW.recast (env' := [(4, .int .i64 (v1.getD (t0.length : Int).toNat (0 : Int)))]) (h' := []) (StC.pure (.cons .im .nil)) ?_
    refine AW.ret ?_
    try simp only [Ex.then, Ex.inBlock, Ex.noGoto, Ex.jump, reduceIte, Nat.reduceEqDiff, reduceCtorEq]
    refine Done.gen rfl (.tmp .nil) ?_
    show _ = _
    kernel_rfl
def f_R21_Chosen_k1 (loop4 : ((List Int) × Int × Int) → Option ((List Int) × Bool)) (v3 : Int) (v6 : List Int) (v7 : Int) : Option ((List Int) × Bool) :=
  G (inR (v3 + (1 : Int))) <|
  loop4 (v6, v7, v3 + (1 : Int))
def f_R21_Chosen_k2 (loop4 : ((List Int) × Int × Int) → Option ((List Int) × Bool)) (v1 : List Int) (v3 : Int) (x9 : List Int) (v12 : Int) : Option ((List Int) × Bool) :=
  G (0 ≤ v12 ∧ v12 < (x9.length : Int)) <|
  G (room 8 (v1.length + 1)) <|
  f_R21_Chosen_k1 loop4 v3 (v1 ++ [x9.getD v12.toNat (0 : Int)]) (x9.getD v12.toNat (0 : Int))
def f_R21_Chosen_b1 (t0 : List S_Row) (t1 : Int) (t2 : List Int) (loop4 : ((List Int) × Int × Int) → Option ((List Int) × Bool)) (v1 : List Int) (v2 : Int) (v3 : Int) : Option ((List Int) × Bool) :=
  cond (decide (v2 < (t0.length : Int))) (
    (f_R21_Next t0 v2 t1).bind fun x9 =>
    cond ((x9.length : Int) == (0 : Int)) (
      some ([], false)) (
      G (inR ((x9.length : Int) - (1 : Int))) <|
      cond (decide (v3 < (t2.length : Int))) (
        G (0 ≤ v3 ∧ v3 < (t2.length : Int)) <|
        G ((x9.length : Int) ≠ 0) <|
        f_R21_Chosen_k2 loop4 v1 v3 x9 (Int.tmod (IntKind.wrap .i64 (t2.getD v3.toNat (0 : Int))) (x9.length : Int))) (
        f_R21_Chosen_k2 loop4 v1 v3 x9 ((x9.length : Int) - (1 : Int))))) (
    some (v1, true))
def f_R21_Chosen (t0 : List S_Row) (t1 : Int) (t2 : List Int) : Option ((List Int) × Bool) :=
  iter (fun loop (s : (List Int) × Int × Int) => f_R21_Chosen_b1 t0 t1 t2 loop s.1 s.2.1 s.2.2) 1000000 (([] : List Int), (0 : Int), (0 : Int))
theorem f_R21_Chosen_ok {t0 : List S_Row} {t1 : Int} {t2 : List Int} {r : (List Int) × Bool} (H : f_R21_Chosen t0 t1 t2 = some r) : QSpec Try.prog 20 [slA eS_Row t0, .int .i64 t1, slA (eI .u8) t2] (.tup [slA (eI .i64) r.1, .bool r.2]) := by
  refine Spec.of_AW Try.func20 rfl (by simp [Try.ntmps20]) ?_
  rw [Try.ntmps20]
  unfold f_R21_Chosen at H
  change AW _ _ _ [(0, slA eS_Row t0), (1, .int .i64 t1), (2, slA (eI .u8) t2)] [] _
  refine AW.regionSeq ?_
  refine OpsW.seg 2 [0, 1, 2] [] [(0, slA eS_Row t0), (1, .int .i64 t1), (2, slA (eI .u8) t2)] (by kernel_rfl) trivial ?_
  refine OpsW.nil ?_
  refine AW.regionSeq ?_
  refine OpsW.buildT (enc := eI .i64) ([] : List Int) rfl rfl rfl 13 rfl E29 (fun _ => rfl) (by decide) trivial (by kernel_rfl) (by kernel_rfl) (by kernel_rfl) rfl ?_
  refine OpsW.seg 2 [9, 8, 0, 1, 2] [] [(9, .int .i64 (0 : Int)), (8, .rsl 13 0 0 (([] : List Int).length)), (0, slA eS_Row t0), (1, .int .i64 t1), (2, slA (eI .u8) t2)] (by kernel_rfl) trivial ?_
  refine OpsW.recast (env' := [(9, .int .i64 (0 : Int)), (8, .rsl 8 0 0 (([] : List Int).length)), (0, slA eS_Row t0), (1, .int .i64 t1), (2, slA (eI .u8) t2)]) (h' := [(8, rtA 0 3 1 (eI .i64) ([] : List Int))]) (StC.mk (phi [(8, some 13)]) (.old rfl rfl rfl rfl rfl (CstL.ims _) .nil) rfl (.cons .im (.cons (.rsl rfl rfl rfl rfl rfl rfl) (.cons .im (.cons .im (.cons .im .nil)))))) ?_
  refine OpsW.nil ?_
  refine AW.seq ?_
  refine AW.regionSeq ?_
  refine OpsW.seg 1 [10, 9, 8, 0, 1, 2] [] [(10, .int .i64 (0 : Int)), (9, .int .i64 (0 : Int)), (8, .rsl 8 0 0 (([] : List Int).length)), (0, slA eS_Row t0), (1, .int .i64 t1), (2, slA (eI .u8) t2)] (by kernel_rfl) trivial ?_
  refine OpsW.nil ?_
  refine AW.block ?_
  refine AW.iterK (fun loop (s : (List Int) × Int × Int) => f_R21_Chosen_b1 t0 t1 t2 loop s.1 s.2.1 s.2.2) r (fun (s : (List Int) × Int × Int) => [(0, slA eS_Row t0), (1, .int .i64 t1), (2, slA (eI .u8) t2), (8, .rsl 8 0 0 s.1.length), (9, .int .i64 s.2.1), (10, .int .i64 s.2.2)]) (fun (s : (List Int) × Int × Int) => [(8, rtA 0 3 1 (eI .i64) s.1)]) ?_ 1000000 (([] : List Int), (0 : Int), (0 : Int)) H (StC.mk (phi [(8, some 8)]) (.old rfl rfl rfl rfl rfl (CstL.ims _) .nil) rfl (.cons .im (.cons .im (.cons .im (.cons (.rsl rfl rfl rfl rfl rfl rfl) (.cons .im (.cons .im .nil)))))))
  intro loop4 s H
  obtain ⟨v1, v2, v3⟩ := s
  change f_R21_Chosen_b1 t0 t1 t2 loop4 v1 v2 v3 = some r at H
  unfold f_R21_Chosen_b1 at H
  change AW _ _ _ [(0, slA eS_Row t0), (1, .int .i64 t1), (2, slA (eI .u8) t2), (8, .rsl 8 0 0 v1.length), (9, .int .i64 v2), (10, .int .i64 v3)] [(8, rtA 0 3 1 (eI .i64) v1)] _
  refine AW.seq ?_
  refine AW.regionSeq ?_
  refine OpsW.seg 4 [17, 0, 1, 2, 8, 9, 10] [] [(17, .bool (decide (v2 < (t0.length : Int)))), (0, slA eS_Row t0), (1, .int .i64 t1), (2, slA (eI .u8) t2), (8, .rsl 8 0 0 v1.length), (9, .int .i64 v2), (10, .int .i64 v3)] (by kernel_rfl) trivial ?_
  refine OpsW.nil ?_
  refine AW.cond (b := decide (v2 < (t0.length : Int))) rfl (fun c5 => ?_) (fun c5 => ?_)
  · replace H := condT c5 H
    refine AW.skip ?_
    refine AW.joinK (fun (y : (List Int) × Int) => f_R21_Chosen_k1 loop4 v3 y.1 y.2) r (fun (y : (List Int) × Int) => [(0, slA eS_Row t0), (1, .int .i64 t1), (2, slA (eI .u8) t2), (8, .rsl 8 0 0 y.1.length), (9, .int .i64 y.2), (10, .int .i64 v3)]) (fun (y : (List Int) × Int) => [(8, rtA 0 3 1 (eI .i64) y.1)]) ?_ ?_
    · refine AW.block ?_
      refine AW.regionSeq ?_
      refine OpsW.seg 3 [22, 21, 20, 0, 1, 2, 8, 10] [] [(22, .int .i64 t1), (21, .int .i64 v2), (20, slA eS_Row t0), (0, slA eS_Row t0), (1, .int .i64 t1), (2, slA (eI .u8) t2), (8, .rsl 8 0 0 v1.length), (10, .int .i64 v3)] (by kernel_rfl) trivial ?_
      obtain ⟨x9, hx9, H⟩ := bindS H
      refine OpsW.qcall rfl (by kernel_rfl) rfl rfl (glAll_sound trivial) (.cons (.pur rfl) (.cons (.pur rfl) (.cons (.pur rfl) .nil))) (f_R21_Next_ok hx9) rfl ?_
      refine OpsW.seg 1 [11, 0, 1, 2, 8, 10] [] [(11, slA (eI .i64) x9), (0, slA eS_Row t0), (1, .int .i64 t1), (2, slA (eI .u8) t2), (8, .rsl 8 0 0 v1.length), (10, .int .i64 v3)] (by kernel_rfl) trivial ?_
      refine OpsW.nil ?_
      refine AW.seq ?_
      refine AW.regionSeq ?_
      refine OpsW.seg 3 [26, 11, 0, 1, 2, 8, 10] [] [(26, .bool ((x9.length : Int) == (0 : Int))), (11, slA (eI .i64) x9), (0, slA eS_Row t0), (1, .int .i64 t1), (2, slA (eI .u8) t2), (8, .rsl 8 0 0 v1.length), (10, .int .i64 v3)] (by kernel_rfl) trivial ?_
      refine OpsW.nil ?_
      refine AW.cond (b := (x9.length : Int) == (0 : Int)) rfl (fun c10 => ?_) (fun c10 => ?_)
      · replace H := condT c10 H
        refine AW.regionSeq ?_
        refine OpsW.seg 2 [7, 6] [] [(7, .bool false), (6, .im (.val (.slice none 0 0)))] (by kernel_rfl) trivial ?_
        refine OpsW.nil ?_
        obtain rfl := Option.some.inj H
        refine AW.recast (env' := [(6, slA (eI .i64) []), (7, .bool false)]) (h' := []) (StC.pure (.cons .nil (.cons .im .nil))) ?_
        refine AW.ret ?_
        try simp only [Ex.then, Ex.inBlock, Ex.noGoto, Ex.jump, reduceIte, Nat.reduceEqDiff, reduceCtorEq]
        refine Done.gen rfl (.tmp (.tmp .nil)) ?_
        show _ = _
        kernel_rfl
      · replace H := condF c10 H
        refine AW.skip ?_
        refine AW.regionSeq ?_
        obtain ⟨g11, H⟩ := G_some H
        refine OpsW.seg 4 [12, 11, 0, 1, 2, 8, 10] [inR ((x9.length : Int) - (1 : Int))] [(12, .int .i64 ((x9.length : Int) - (1 : Int))), (11, slA (eI .i64) x9), (0, slA eS_Row t0), (1, .int .i64 t1), (2, slA (eI .u8) t2), (8, .rsl 8 0 0 v1.length), (10, .int .i64 v3)] (by kernel_rfl) ⟨g11, trivial⟩ ?_
        refine OpsW.nil ?_
        refine AW.joinK (fun (y : Int) => f_R21_Chosen_k2 loop4 v1 v3 x9 y) r (fun (y : Int) => [(0, slA eS_Row t0), (1, .int .i64 t1), (2, slA (eI .u8) t2), (8, .rsl 8 0 0 v1.length), (10, .int .i64 v3), (11, slA (eI .i64) x9), (12, .int .i64 y)]) (fun (y : Int) => [(8, rtA 0 3 1 (eI .i64) v1)]) ?_ ?_
        · refine AW.regionSeq ?_
          refine OpsW.seg 4 [33, 12, 11, 0, 1, 2, 8, 10] [] [(33, .bool (decide (v3 < (t2.length : Int)))), (12, .int .i64 ((x9.length : Int) - (1 : Int))), (11, slA (eI .i64) x9), (0, slA eS_Row t0), (1, .int .i64 t1), (2, slA (eI .u8) t2), (8, .rsl 8 0 0 v1.length), (10, .int .i64 v3)] (by kernel_rfl) trivial ?_
          refine OpsW.nil ?_
          refine AW.cond (b := decide (v3 < (t2.length : Int))) rfl (fun c15 => ?_) (fun c15 => ?_)
          · replace H := condT c15 H
            refine AW.region ?_
            obtain ⟨g16, H⟩ := G_some H
            refine OpsW.seg 3 [36, 12, 11, 0, 1, 2, 8, 10] [0 ≤ v3 ∧ v3 < (t2.length : Int)] [(36, .ipt (t2.flatMap (eI .u8)) (v3.toNat * 1)), (12, .int .i64 ((x9.length : Int) - (1 : Int))), (11, slA (eI .i64) x9), (0, slA eS_Row t0), (1, .int .i64 t1), (2, slA (eI .u8) t2), (8, .rsl 8 0 0 v1.length), (10, .int .i64 v3)] (by kernel_rfl) ⟨g16, trivial⟩ ?_
            refine OpsW.asU (.int .u8 (t2.getD v3.toNat (0 : Int))) rfl rfl (T.load rfl trivial (by kernel_rfl) (fm_cell0 (eI .u8) 1 (fun _ => rfl) t2 (0 : Int) v3.toNat (ltN g16) (fun a => .val (.int .u8 a)) (fun _ => rfl))) ?_
            obtain ⟨g17, H⟩ := G_some H
            refine OpsW.seg 5 [12, 11, 0, 1, 2, 8, 10] [(x9.length : Int) ≠ 0] [(12, .int .i64 (Int.tmod (IntKind.wrap .i64 (t2.getD v3.toNat (0 : Int))) (x9.length : Int))), (11, slA (eI .i64) x9), (0, slA eS_Row t0), (1, .int .i64 t1), (2, slA (eI .u8) t2), (8, .rsl 8 0 0 v1.length), (10, .int .i64 v3)] (by kernel_rfl) ⟨g17, trivial⟩ ?_
            refine OpsW.nil ?_
            show ∃ y, _ ∧ StC _ _ _ _
            exact ⟨Int.tmod (IntKind.wrap .i64 (t2.getD v3.toNat (0 : Int))) (x9.length : Int), H, (StC.mk (phi [(8, some 8)]) (.old rfl rfl rfl rfl rfl (CstL.ims _) .nil) rfl (.cons .im (.cons .im (.cons .im (.cons (.rsl rfl rfl rfl rfl rfl rfl) (.cons .im (.cons .im (.cons .im .nil))))))))⟩
          · replace H := condF c15 H
            refine AW.skip ?_
            show ∃ y, _ ∧ StC _ _ _ _
            exact ⟨(x9.length : Int) - (1 : Int), H, (StC.mk (phi [(8, some 8)]) (.old rfl rfl rfl rfl rfl (CstL.ims _) .nil) rfl (.cons .im (.cons .im (.cons .im (.cons (.rsl rfl rfl rfl rfl rfl rfl) (.cons .im (.cons .im (.cons .im .nil))))))))⟩
        · intro v12 H
          change f_R21_Chosen_k2 loop4 v1 v3 x9 v12 = some r at H
          unfold f_R21_Chosen_k2 at H
          change AW _ _ _ [(0, slA eS_Row t0), (1, .int .i64 t1), (2, slA (eI .u8) t2), (8, .rsl 8 0 0 v1.length), (10, .int .i64 v3), (11, slA (eI .i64) x9), (12, .int .i64 v12)] [(8, rtA 0 3 1 (eI .i64) v1)] _
          refine AW.regionSeq ?_
          obtain ⟨g13, H⟩ := G_some H
          refine OpsW.seg 3 [44, 0, 1, 2, 8, 10] [0 ≤ v12 ∧ v12 < (x9.length : Int)] [(44, .ipt (x9.flatMap (eI .i64)) (v12.toNat * 1)), (0, slA eS_Row t0), (1, .int .i64 t1), (2, slA (eI .u8) t2), (8, .rsl 8 0 0 v1.length), (10, .int .i64 v3)] (by kernel_rfl) ⟨g13, trivial⟩ ?_
          refine OpsW.asU (.int .i64 (x9.getD v12.toNat (0 : Int))) rfl rfl (T.load rfl trivial (by kernel_rfl) (fm_cell0 (eI .i64) 1 (fun _ => rfl) x9 (0 : Int) v12.toNat (ltN g13) (fun a => .val (.int .i64 a)) (fun _ => rfl))) ?_
          refine OpsW.seg 1 [9, 0, 1, 2, 8, 10] [] [(9, .int .i64 (x9.getD v12.toNat (0 : Int))), (0, slA eS_Row t0), (1, .int .i64 t1), (2, slA (eI .u8) t2), (8, .rsl 8 0 0 v1.length), (10, .int .i64 v3)] (by kernel_rfl) trivial ?_
          refine OpsW.nil ?_
          refine AW.region ?_
          refine OpsW.seg 2 [47, 46, 9, 0, 1, 2, 8, 10] [] [(47, .int .i64 (x9.getD v12.toNat (0 : Int))), (46, .rsl 8 0 0 v1.length), (9, .int .i64 (x9.getD v12.toNat (0 : Int))), (0, slA eS_Row t0), (1, .int .i64 t1), (2, slA (eI .u8) t2), (8, .rsl 8 0 0 v1.length), (10, .int .i64 v3)] (by kernel_rfl) trivial ?_
          obtain ⟨g14, H⟩ := G_some H
          refine OpsW.appendLF (enc := eI .i64) [x9.getD v12.toNat (0 : Int)] rfl rfl rfl (by decide) rfl rfl rfl (by simp) E29 (fun _ => rfl) (by decide) trivial (by kernel_rfl) (by kernel_rfl) (by kernel_rfl) rfl rfl rfl g14 ?_
          refine OpsW.seg 1 [8, 9, 0, 1, 2, 10] [] [(8, .rsl 8 1 0 ((v1 ++ [x9.getD v12.toNat (0 : Int)]).length)), (9, .int .i64 (x9.getD v12.toNat (0 : Int))), (0, slA eS_Row t0), (1, .int .i64 t1), (2, slA (eI .u8) t2), (10, .int .i64 v3)] (by kernel_rfl) trivial ?_
          refine OpsW.recast (env' := [(8, .rsl 8 0 0 ((v1 ++ [x9.getD v12.toNat (0 : Int)]).length)), (9, .int .i64 (x9.getD v12.toNat (0 : Int))), (0, slA eS_Row t0), (1, .int .i64 t1), (2, slA (eI .u8) t2), (10, .int .i64 v3)]) (h' := [(8, rtA 0 3 1 (eI .i64) (v1 ++ [x9.getD v12.toNat (0 : Int)]))]) (StC.mk (phi [(8, some 8)]) (.old rfl rfl rfl rfl rfl (CstL.ims _) .nil) rfl (.cons (.rsl rfl rfl rfl rfl rfl rfl) (.cons .im (.cons .im (.cons .im (.cons .im (.cons .im .nil))))))) ?_
          refine OpsW.nil ?_
          show ∃ y, _ ∧ StC _ _ _ _
          exact ⟨(v1 ++ [x9.getD v12.toNat (0 : Int)], x9.getD v12.toNat (0 : Int)), H, (StC.mk (phi [(8, some 8)]) (.old rfl rfl rfl rfl rfl (CstL.ims _) .nil) rfl (.cons .im (.cons .im (.cons .im (.cons (.rsl rfl rfl rfl rfl rfl rfl) (.cons .im (.cons .im .nil)))))))⟩
    · rintro ⟨v6, v7⟩ H
      change f_R21_Chosen_k1 loop4 v3 v6 v7 = some r at H
      unfold f_R21_Chosen_k1 at H
      change AW _ _ _ [(0, slA eS_Row t0), (1, .int .i64 t1), (2, slA (eI .u8) t2), (8, .rsl 8 0 0 v6.length), (9, .int .i64 v7), (10, .int .i64 v3)] [(8, rtA 0 3 1 (eI .i64) v6)] _
      refine AW.region ?_
      obtain ⟨g8, H⟩ := G_some H
      refine OpsW.seg 3 [10, 0, 1, 2, 8, 9] [inR (v3 + (1 : Int))] [(10, .int .i64 (v3 + (1 : Int))), (0, slA eS_Row t0), (1, .int .i64 t1), (2, slA (eI .u8) t2), (8, .rsl 8 0 0 v6.length), (9, .int .i64 v7)] (by kernel_rfl) ⟨g8, trivial⟩ ?_
      refine OpsW.nil ?_
      show ∃ y, _ ∧ StC _ _ _ _
      exact ⟨(v6, v7, v3 + (1 : Int)), H, (StC.mk (phi [(8, some 8)]) (.old rfl rfl rfl rfl rfl (CstL.ims _) .nil) rfl (.cons .im (.cons .im (.cons .im (.cons (.rsl rfl rfl rfl rfl rfl rfl) (.cons .im (.cons .im .nil)))))))⟩
  · replace H := condF c5 H
    refine AW.exit ?_
    refine AW.regionSeq ?_
    refine OpsW.seg 3 [7, 6] [] [(7, .bool true), (6, .rsl 8 0 0 v1.length)] (by kernel_rfl) trivial ?_
    refine OpsW.recast (env' := [(7, .bool true), (6, slA (eI .i64) v1)]) (h' := []) (StC.mk (phi []) .nil rfl (.cons .im (.cons (.frz rfl rfl rfl (frz_all (eI .i64) 1 (fun _ => rfl) v1) (fm_length (eI .i64) 1 (fun _ => rfl) v1) (phi_ne rfl)) .nil))) ?_
    refine OpsW.nil ?_
    obtain rfl := Option.some.inj H
    refine AW.recast (env' := [(6, slA (eI .i64) v1), (7, .bool true)]) (h' := []) (StC.pure (.cons .im (.cons .im .nil))) ?_
    refine AW.ret ?_
    try simp only [Ex.then, Ex.inBlock, Ex.noGoto, Ex.jump, reduceIte, Nat.reduceEqDiff, reduceCtorEq]
    refine Done.gen rfl (.tmp (.tmp .nil)) ?_
    show _ = _
    kernel_rfl
def f_R21_Part_k1 (loop4 : (Int × Int) → Option (Int × Int)) (v3 : Int) (v6 : Int) : Option (Int × Int) :=
  G (inR (v3 + (1 : Int))) <|
  loop4 (v6, v3 + (1 : Int))
def f_R21_Part_k2 (loop13 : (Int × Int) → Option (Int × Int)) (v12 : Int) (v15 : Int) : Option (Int × Int) :=
  G (inR (v12 + (1 : Int))) <|
  loop13 (v15, v12 + (1 : Int))
def f_R21_Part_b1 (t0 : List S_Row) (t1 : List Int) (t2 : Int) (v2 : Int) (loop13 : (Int × Int) → Option (Int × Int)) (v11 : Int) (v12 : Int) : Option (Int × Int) :=
  cond (decide (v12 ≤ t2)) (
    (f_R21_First t1 v12).bind fun x17 =>
    cond (decide (v2 < x17)) (
      G (inR (v11 + (1 : Int))) <|
      f_R21_Part_k2 loop13 v12 (v11 + (1 : Int))) (
      f_R21_Part_k2 loop13 v12 v11)) (
    G (0 ≤ v2 ∧ v2 < (t0.length : Int)) <|
    some ((t0.getD v2.toNat zS_Row).Ink, (if (26 : Int) < v11 then (26 : Int) else v11)))
def f_R21_Part_b2 (t0 : List S_Row) (t1 : List Int) (t2 : Int) (x1 : Int) (loop4 : (Int × Int) → Option (Int × Int)) (v2 : Int) (v3 : Int) : Option (Int × Int) :=
  cond (cond (decide (v3 ≤ x1)) (decide (v3 < (t0.length : Int))) false) (
    G (0 ≤ v3 ∧ v3 < (t0.length : Int)) <|
    cond (decide ((0 : Int) < ((t0.getD v3.toNat zS_Row).Ink))) (
      f_R21_Part_k1 loop4 v3 v3) (
      f_R21_Part_k1 loop4 v3 v2)) (
    cond (decide (v2 < (0 : Int))) (
      some ((0 : Int), (if (26 : Int) < t2 then (26 : Int) else t2))) (
      iter (fun loop (s : Int × Int) => f_R21_Part_b1 t0 t1 t2 v2 loop s.1 s.2) 1000000 ((0 : Int), (0 : Int))))
def f_R21_Part (t0 : List S_Row) (t1 : List Int) (t2 : Int) : Option (Int × Int) :=
  (f_R21_First t1 t2).bind fun x1 =>
  iter (fun loop (s : Int × Int) => f_R21_Part_b2 t0 t1 t2 x1 loop s.1 s.2) 1000000 ((-1 : Int), (0 : Int))
theorem f_R21_Part_ok {t0 : List S_Row} {t1 : List Int} {t2 : Int} {r : Int × Int} (H : f_R21_Part t0 t1 t2 = some r) : QSpec Try.prog 22 [slA eS_Row t0, slA (eI .i64) t1, .int .i64 t2] (.tup [.int .i64 r.1, .int .i64 r.2]) := by
  refine Spec.of_AW Try.func22 rfl (by simp [Try.ntmps22]) ?_
  rw [Try.ntmps22]
  unfold f_R21_Part at H
  change AW _ _ _ [(0, slA eS_Row t0), (1, slA (eI .i64) t1), (2, .int .i64 t2)] [] _
  refine AW.regionSeq ?_
  refine OpsW.seg 2 [0, 1, 2] [] [(0, slA eS_Row t0), (1, slA (eI .i64) t1), (2, .int .i64 t2)] (by kernel_rfl) trivial ?_
  refine OpsW.nil ?_
  refine AW.regionSeq ?_
  refine OpsW.seg 2 [14, 13, 0, 1, 2] [] [(14, .int .i64 t2), (13, slA (eI .i64) t1), (0, slA eS_Row t0), (1, slA (eI .i64) t1), (2, .int .i64 t2)] (by kernel_rfl) trivial ?_
  obtain ⟨x1, hx1, H⟩ := bindS H
  refine OpsW.qcall rfl (by kernel_rfl) rfl rfl (glAll_sound trivial) (.cons (.pur rfl) (.cons (.pur rfl) .nil)) (f_R21_First_ok hx1) rfl ?_
  refine OpsW.seg 2 [9, 8, 0, 1, 2] [] [(9, .int .i64 (-1 : Int)), (8, .int .i64 x1), (0, slA eS_Row t0), (1, slA (eI .i64) t1), (2, .int .i64 t2)] (by kernel_rfl) trivial ?_
  refine OpsW.nil ?_
  refine AW.seq ?_
  refine AW.regionSeq ?_
  refine OpsW.seg 1 [10, 9, 8, 0, 1, 2] [] [(10, .int .i64 (0 : Int)), (9, .int .i64 (-1 : Int)), (8, .int .i64 x1), (0, slA eS_Row t0), (1, slA (eI .i64) t1), (2, .int .i64 t2)] (by kernel_rfl) trivial ?_
  refine OpsW.nil ?_
  refine AW.block ?_
  refine AW.iterK (fun loop (s : Int × Int) => f_R21_Part_b2 t0 t1 t2 x1 loop s.1 s.2) r (fun (s : Int × Int) => [(0, slA eS_Row t0), (1, slA (eI .i64) t1), (2, .int .i64 t2), (8, .int .i64 x1), (9, .int .i64 s.1), (10, .int .i64 s.2)]) (fun (s : Int × Int) => []) ?_ 1000000 ((-1 : Int), (0 : Int)) H (StC.pure (.cons .im (.cons .im (.cons .im (.cons .im (.cons .im (.cons .im .nil)))))))
  intro loop4 s H
  obtain ⟨v2, v3⟩ := s
  change f_R21_Part_b2 t0 t1 t2 x1 loop4 v2 v3 = some r at H
  unfold f_R21_Part_b2 at H
  change AW _ _ _ [(0, slA eS_Row t0), (1, slA (eI .i64) t1), (2, .int .i64 t2), (8, .int .i64 x1), (9, .int .i64 v2), (10, .int .i64 v3)] [] _
  refine AW.seq ?_
  refine AW.regionSeq ?_
  refine OpsW.seg 9 [24, 0, 1, 2, 8, 9, 10] [(decide (v3 ≤ x1)) = true → (decide (v3 ≤ x1)) = true, (decide (v3 ≤ x1)) = true → (decide (v3 ≤ x1)) = true, (decide (v3 ≤ x1)) = true → (decide (v3 ≤ x1)) = true, (decide (v3 ≤ x1)) = true → (decide (v3 ≤ x1)) = true] [(24, .bool (cond (decide (v3 ≤ x1)) (decide (v3 < (t0.length : Int))) false)), (0, slA eS_Row t0), (1, slA (eI .i64) t1), (2, .int .i64 t2), (8, .int .i64 x1), (9, .int .i64 v2), (10, .int .i64 v3)] (by kernel_rfl) ⟨(fun h => h), (fun h => h), (fun h => h), (fun h => by first | exact h | simpa using h), trivial⟩ ?_
  refine OpsW.nil ?_
  refine AW.cond (b := cond (decide (v3 ≤ x1)) (decide (v3 < (t0.length : Int))) false) rfl (fun c5 => ?_) (fun c5 => ?_)
  · replace H := condT c5 H
    refine AW.skip ?_
    refine AW.joinK (fun (y : Int) => f_R21_Part_k1 loop4 v3 y) r (fun (y : Int) => [(0, slA eS_Row t0), (1, slA (eI .i64) t1), (2, .int .i64 t2), (8, .int .i64 x1), (9, .int .i64 y), (10, .int .i64 v3)]) (fun (y : Int) => []) ?_ ?_
    · refine AW.block ?_
      refine AW.regionSeq ?_
      obtain ⟨g8, H⟩ := G_some H
      refine OpsW.seg 4 [30, 0, 1, 2, 8, 9, 10] [0 ≤ v3 ∧ v3 < (t0.length : Int)] [(30, .ipt (t0.flatMap eS_Row) (v3.toNat * 5 + 2)), (0, slA eS_Row t0), (1, slA (eI .i64) t1), (2, .int .i64 t2), (8, .int .i64 x1), (9, .int .i64 v2), (10, .int .i64 v3)] (by kernel_rfl) ⟨g8, trivial⟩ ?_
      refine OpsW.asU (.int .i64 ((t0.getD v3.toNat zS_Row).Ink)) rfl rfl (T.load rfl trivial (by kernel_rfl) (fm_cell eS_Row 5 (fun _ => rfl) t0 zS_Row v3.toNat (ltN g8) 2 (fun a => .val (.int .i64 a.Ink)) (fun _ => rfl))) ?_
      refine OpsW.seg 1 [32, 0, 1, 2, 8, 9, 10] [] [(32, .bool (decide ((0 : Int) < ((t0.getD v3.toNat zS_Row).Ink)))), (0, slA eS_Row t0), (1, slA (eI .i64) t1), (2, .int .i64 t2), (8, .int .i64 x1), (9, .int .i64 v2), (10, .int .i64 v3)] (by kernel_rfl) trivial ?_
      refine OpsW.nil ?_
      refine AW.cond (b := decide ((0 : Int) < ((t0.getD v3.toNat zS_Row).Ink))) rfl (fun c9 => ?_) (fun c9 => ?_)
      · replace H := condT c9 H
        refine AW.region ?_
        refine OpsW.seg 2 [9, 0, 1, 2, 8, 10] [] [(9, .int .i64 v3), (0, slA eS_Row t0), (1, slA (eI .i64) t1), (2, .int .i64 t2), (8, .int .i64 x1), (10, .int .i64 v3)] (by kernel_rfl) trivial ?_
        refine OpsW.nil ?_
        show ∃ y, _ ∧ StC _ _ _ _
        exact ⟨v3, H, (StC.pure (.cons .im (.cons .im (.cons .im (.cons .im (.cons .im (.cons .im .nil)))))))⟩
      · replace H := condF c9 H
        refine AW.skip ?_
        show ∃ y, _ ∧ StC _ _ _ _
        exact ⟨v2, H, (StC.pure (.cons .im (.cons .im (.cons .im (.cons .im (.cons .im (.cons .im .nil)))))))⟩
    · intro v6 H
      change f_R21_Part_k1 loop4 v3 v6 = some r at H
      unfold f_R21_Part_k1 at H
      change AW _ _ _ [(0, slA eS_Row t0), (1, slA (eI .i64) t1), (2, .int .i64 t2), (8, .int .i64 x1), (9, .int .i64 v6), (10, .int .i64 v3)] [] _
      refine AW.region ?_
      obtain ⟨g7, H⟩ := G_some H
      refine OpsW.seg 3 [10, 0, 1, 2, 8, 9] [inR (v3 + (1 : Int))] [(10, .int .i64 (v3 + (1 : Int))), (0, slA eS_Row t0), (1, slA (eI .i64) t1), (2, .int .i64 t2), (8, .int .i64 x1), (9, .int .i64 v6)] (by kernel_rfl) ⟨g7, trivial⟩ ?_
      refine OpsW.nil ?_
      show ∃ y, _ ∧ StC _ _ _ _
      exact ⟨(v6, v3 + (1 : Int)), H, (StC.pure (.cons .im (.cons .im (.cons .im (.cons .im (.cons .im (.cons .im .nil)))))))⟩
  · replace H := condF c5 H
    refine AW.exit ?_
    refine AW.seq ?_
    refine AW.regionSeq ?_
    refine OpsW.seg 2 [35, 0, 1, 2, 9] [] [(35, .bool (decide (v2 < (0 : Int)))), (0, slA eS_Row t0), (1, slA (eI .i64) t1), (2, .int .i64 t2), (9, .int .i64 v2)] (by kernel_rfl) trivial ?_
    refine OpsW.nil ?_
    refine AW.cond (b := decide (v2 < (0 : Int))) rfl (fun c10 => ?_) (fun c10 => ?_)
    · replace H := condT c10 H
      refine AW.regionSeq ?_
      refine OpsW.seg 4 [7, 6] [] [(7, .int .i64 (if (26 : Int) < t2 then (26 : Int) else t2)), (6, .int .i64 (0 : Int))] (by kernel_rfl) trivial ?_
      refine OpsW.nil ?_
      obtain rfl := Option.some.inj H
      refine AW.recast (env' := [(6, .int .i64 (0 : Int)), (7, .int .i64 (if (26 : Int) < t2 then (26 : Int) else t2))]) (h' := []) (StC.pure (.cons .im (.cons .im .nil))) ?_
      refine AW.ret ?_
      try simp only [Ex.then, Ex.inBlock, Ex.noGoto, Ex.jump, reduceIte, Nat.reduceEqDiff, reduceCtorEq]
      refine Done.gen rfl (.tmp (.tmp .nil)) ?_
      show _ = _
      kernel_rfl
    · replace H := condF c10 H
      refine AW.skip ?_
      refine AW.regionSeq ?_
      refine OpsW.seg 1 [11, 0, 1, 2, 9] [] [(11, .int .i64 (0 : Int)), (0, slA eS_Row t0), (1, slA (eI .i64) t1), (2, .int .i64 t2), (9, .int .i64 v2)] (by kernel_rfl) trivial ?_
      refine OpsW.nil ?_
      refine AW.seq ?_
      refine AW.regionSeq ?_
      refine OpsW.seg 1 [12, 11, 0, 1, 2, 9] [] [(12, .int .i64 (0 : Int)), (11, .int .i64 (0 : Int)), (0, slA eS_Row t0), (1, slA (eI .i64) t1), (2, .int .i64 t2), (9, .int .i64 v2)] (by kernel_rfl) trivial ?_
      refine OpsW.nil ?_
      refine AW.block ?_
      refine AW.iterK (fun loop (s : Int × Int) => f_R21_Part_b1 t0 t1 t2 v2 loop s.1 s.2) r (fun (s : Int × Int) => [(0, slA eS_Row t0), (1, slA (eI .i64) t1), (2, .int .i64 t2), (9, .int .i64 v2), (11, .int .i64 s.1), (12, .int .i64 s.2)]) (fun (s : Int × Int) => []) ?_ 1000000 ((0 : Int), (0 : Int)) H (StC.pure (.cons .im (.cons .im (.cons .im (.cons .im (.cons .im (.cons .im .nil)))))))
      intro loop13 s H
      obtain ⟨v11, v12⟩ := s
      change f_R21_Part_b1 t0 t1 t2 v2 loop13 v11 v12 = some r at H
      unfold f_R21_Part_b1 at H
      change AW _ _ _ [(0, slA eS_Row t0), (1, slA (eI .i64) t1), (2, .int .i64 t2), (9, .int .i64 v2), (11, .int .i64 v11), (12, .int .i64 v12)] [] _
      refine AW.seq ?_
      refine AW.regionSeq ?_
      refine OpsW.seg 3 [40, 0, 1, 2, 9, 11, 12] [] [(40, .bool (decide (v12 ≤ t2))), (0, slA eS_Row t0), (1, slA (eI .i64) t1), (2, .int .i64 t2), (9, .int .i64 v2), (11, .int .i64 v11), (12, .int .i64 v12)] (by kernel_rfl) trivial ?_
      refine OpsW.nil ?_
      refine AW.cond (b := decide (v12 ≤ t2)) rfl (fun c14 => ?_) (fun c14 => ?_)
      · replace H := condT c14 H
        refine AW.skip ?_
        refine AW.joinK (fun (y : Int) => f_R21_Part_k2 loop13 v12 y) r (fun (y : Int) => [(0, slA eS_Row t0), (1, slA (eI .i64) t1), (2, .int .i64 t2), (9, .int .i64 v2), (11, .int .i64 y), (12, .int .i64 v12)]) (fun (y : Int) => []) ?_ ?_
        · refine AW.block ?_
          refine AW.regionSeq ?_
          refine OpsW.seg 2 [44, 43, 0, 1, 2, 9, 11, 12] [] [(44, .int .i64 v12), (43, slA (eI .i64) t1), (0, slA eS_Row t0), (1, slA (eI .i64) t1), (2, .int .i64 t2), (9, .int .i64 v2), (11, .int .i64 v11), (12, .int .i64 v12)] (by kernel_rfl) trivial ?_
          obtain ⟨x17, hx17, H⟩ := bindS H
          refine OpsW.qcall rfl (by kernel_rfl) rfl rfl (glAll_sound trivial) (.cons (.pur rfl) (.cons (.pur rfl) .nil)) (f_R21_First_ok hx17) rfl ?_
          refine OpsW.seg 2 [47, 0, 1, 2, 9, 11, 12] [] [(47, .bool (decide (v2 < x17))), (0, slA eS_Row t0), (1, slA (eI .i64) t1), (2, .int .i64 t2), (9, .int .i64 v2), (11, .int .i64 v11), (12, .int .i64 v12)] (by kernel_rfl) trivial ?_
          refine OpsW.nil ?_
          refine AW.cond (b := decide (v2 < x17)) rfl (fun c18 => ?_) (fun c18 => ?_)
          · replace H := condT c18 H
            refine AW.region ?_
            obtain ⟨g19, H⟩ := G_some H
            refine OpsW.seg 3 [11, 0, 1, 2, 9, 12] [inR (v11 + (1 : Int))] [(11, .int .i64 (v11 + (1 : Int))), (0, slA eS_Row t0), (1, slA (eI .i64) t1), (2, .int .i64 t2), (9, .int .i64 v2), (12, .int .i64 v12)] (by kernel_rfl) ⟨g19, trivial⟩ ?_
            refine OpsW.nil ?_
            show ∃ y, _ ∧ StC _ _ _ _
            exact ⟨v11 + (1 : Int), H, (StC.pure (.cons .im (.cons .im (.cons .im (.cons .im (.cons .im (.cons .im .nil)))))))⟩
          · replace H := condF c18 H
            refine AW.skip ?_
            show ∃ y, _ ∧ StC _ _ _ _
            exact ⟨v11, H, (StC.pure (.cons .im (.cons .im (.cons .im (.cons .im (.cons .im (.cons .im .nil)))))))⟩
        · intro v15 H
          change f_R21_Part_k2 loop13 v12 v15 = some r at H
          unfold f_R21_Part_k2 at H
          change AW _ _ _ [(0, slA eS_Row t0), (1, slA (eI .i64) t1), (2, .int .i64 t2), (9, .int .i64 v2), (11, .int .i64 v15), (12, .int .i64 v12)] [] _
          refine AW.region ?_
          obtain ⟨g16, H⟩ := G_some H
          refine OpsW.seg 3 [12, 0, 1, 2, 9, 11] [inR (v12 + (1 : Int))] [(12, .int .i64 (v12 + (1 : Int))), (0, slA eS_Row t0), (1, slA (eI .i64) t1), (2, .int .i64 t2), (9, .int .i64 v2), (11, .int .i64 v15)] (by kernel_rfl) ⟨g16, trivial⟩ ?_
          refine OpsW.nil ?_
          show ∃ y, _ ∧ StC _ _ _ _
          exact ⟨(v15, v12 + (1 : Int)), H, (StC.pure (.cons .im (.cons .im (.cons .im (.cons .im (.cons .im (.cons .im .nil)))))))⟩
      · replace H := condF c14 H
        refine AW.exit ?_
        refine AW.regionSeq ?_
        obtain ⟨g20, H⟩ := G_some H
        refine OpsW.seg 4 [53, 11] [0 ≤ v2 ∧ v2 < (t0.length : Int)] [(53, .ipt (t0.flatMap eS_Row) (v2.toNat * 5 + 2)), (11, .int .i64 v11)] (by kernel_rfl) ⟨g20, trivial⟩ ?_
        refine OpsW.asU (.int .i64 ((t0.getD v2.toNat zS_Row).Ink)) rfl rfl (T.load rfl trivial (by kernel_rfl) (fm_cell eS_Row 5 (fun _ => rfl) t0 zS_Row v2.toNat (ltN g20) 2 (fun a => .val (.int .i64 a.Ink)) (fun _ => rfl))) ?_
        refine OpsW.seg 4 [7, 6] [] [(7, .int .i64 (if (26 : Int) < v11 then (26 : Int) else v11)), (6, .int .i64 ((t0.getD v2.toNat zS_Row).Ink))] (by kernel_rfl) trivial ?_
        refine OpsW.nil ?_
        obtain rfl := Option.some.inj H
        refine AW.recast (env' := [(6, .int .i64 ((t0.getD v2.toNat zS_Row).Ink)), (7, .int .i64 (if (26 : Int) < v11 then (26 : Int) else v11))]) (h' := []) (StC.pure (.cons .im (.cons .im .nil))) ?_
        refine AW.ret ?_
        try simp only [Ex.then, Ex.inBlock, Ex.noGoto, Ex.jump, reduceIte, Nat.reduceEqDiff, reduceCtorEq]
        refine Done.gen rfl (.tmp (.tmp .nil)) ?_
        show _ = _
        kernel_rfl
end Go.Proofs.Ythfdgicfcjkfgaa
