/-
  Written by gen.py (own work): typed functions, and that the program computes them.
-/
import Derived.Test.YthfdgicfcjkfgaaW2
set_option linter.unusedSimpArgs false
set_option linter.unusedVariables false
set_option maxRecDepth 100000
namespace Go.Proofs.Ythfdgicfcjkfgaa
open Go.Abs
def f_L21_PageParts_b1 (x1 : Bool) (x2 : List S_Row) (x4 : (List Int) × Bool) (loop9 : (Int × Int × Int) → Option Bool) (v6 : Int) (v7 : Int) (v8 : Int) : Option Bool :=
  cond (decide (v8 < (x4.1.length : Int))) (
    (f_page_Part x2 x4.1 v8).bind fun x11 =>
    (f_R21_Part x2 x4.1 v8).bind fun x12 =>
    (f_R21_First x4.1 v8).bind fun x13 =>
    G ((!(cond (x11.1 != x12.1) true (x11.2 != x12.2))) = true → (0 ≤ x13 ∧ x13 < (x2.length : Int))) <|
    G (((!(cond (x11.1 != x12.1) true (x11.2 != x12.2))) && (decide ((0 : Int) < ((x2.getD x13.toNat zS_Row).Ink)))) = true → (0 ≤ x13 ∧ x13 < (x2.length : Int))) <|
    cond (cond (cond (x11.1 != x12.1) true (x11.2 != x12.2)) true (cond (decide ((0 : Int) < ((x2.getD x13.toNat zS_Row).Ink))) (cond (x11.1 != ((x2.getD x13.toNat zS_Row).Ink)) true (x11.2 != (0 : Int))) false)) (
      some false) (
      G ((cond (decide ((0 : Int) < v8)) (x11.1 == v6) false) = true → (0 ≤ x13 ∧ x13 < (x2.length : Int))) <|
      G ((cond (cond (decide ((0 : Int) < v8)) (x11.1 == v6) false) (decide (((x2.getD x13.toNat zS_Row).Ink) ≤ (0 : Int))) false) = true → inR (v7 + (1 : Int))) <|
      cond (cond (cond (cond (decide ((0 : Int) < v8)) (x11.1 == v6) false) (decide (((x2.getD x13.toNat zS_Row).Ink) ≤ (0 : Int))) false) (x11.2 != (if (26 : Int) < (v7 + (1 : Int)) then (26 : Int) else (v7 + (1 : Int)))) false) (
        some false) (
        G (inR (v8 + (1 : Int))) <|
        loop9 (x11.1, x11.2, v8 + (1 : Int))))) (
    some x1)
def f_L21_PageParts (t0 : List Int) (t1 : List Int) (t2 : Int) : Option Bool :=
  (f_L21_sanity).bind fun x1 =>
  (f_R21_Made t0).bind fun x2 =>
  (f_R21_Height t2).bind fun x3 =>
  (f_R21_Chosen x2 x3 t1).bind fun x4 =>
  cond (!x4.2) (
    some x1) (
    iter (fun loop (s : Int × Int × Int) => f_L21_PageParts_b1 x1 x2 x4 loop s.1 s.2.1 s.2.2) 1000000 ((0 : Int), (-1 : Int), (0 : Int)))
theorem f_L21_PageParts_ok {t0 : List Int} {t1 : List Int} {t2 : Int} {r : Bool} (H : f_L21_PageParts t0 t1 t2 = some r) : QSpec Try.prog 7 [slA (eI .u8) t0, slA (eI .u8) t1, .int .u8 t2] (.bool r) := by
  refine Spec.of_AW Try.func7 rfl (by simp [Try.ntmps7]) ?_
  rw [Try.ntmps7]
  unfold f_L21_PageParts at H
  change AW _ _ _ [(0, slA (eI .u8) t0), (1, slA (eI .u8) t1), (2, .int .u8 t2)] [] _
  refine AW.regionSeq ?_
  refine OpsW.seg 1 [0, 1, 2] [] [(0, slA (eI .u8) t0), (1, slA (eI .u8) t1), (2, .int .u8 t2)] (by kernel_rfl) trivial ?_
  refine OpsW.nil ?_
  refine AW.regionSeq ?_
  obtain ⟨x1, hx1, H⟩ := bindS H
  refine OpsW.qcall rfl (by kernel_rfl) rfl rfl (glAll_sound trivial) .nil (f_L21_sanity_ok hx1) rfl ?_
  refine OpsW.seg 1 [7, 0, 1, 2] [] [(7, .bool x1), (0, slA (eI .u8) t0), (1, slA (eI .u8) t1), (2, .int .u8 t2)] (by kernel_rfl) trivial ?_
  refine OpsW.nil ?_
  refine AW.regionSeq ?_
  refine OpsW.seg 1 [21, 7, 1, 2] [] [(21, slA (eI .u8) t0), (7, .bool x1), (1, slA (eI .u8) t1), (2, .int .u8 t2)] (by kernel_rfl) trivial ?_
  obtain ⟨x2, hx2, H⟩ := bindS H
  refine OpsW.qcall rfl (by kernel_rfl) rfl rfl (glAll_sound trivial) (.cons (.pur rfl) .nil) (f_R21_Made_ok hx2) rfl ?_
  refine OpsW.seg 1 [23, 22, 7, 1] [] [(23, .int .u8 t2), (22, slA eS_Row x2), (7, .bool x1), (1, slA (eI .u8) t1)] (by kernel_rfl) trivial ?_
  obtain ⟨x3, hx3, H⟩ := bindS H
  refine OpsW.qcall rfl (by kernel_rfl) rfl rfl (glAll_sound trivial) (.cons (.pur rfl) .nil) (f_R21_Height_ok hx3) rfl ?_
  refine OpsW.seg 2 [9, 8, 7, 1] [] [(9, .int .i64 x3), (8, slA eS_Row x2), (7, .bool x1), (1, slA (eI .u8) t1)] (by kernel_rfl) trivial ?_
  refine OpsW.nil ?_
  refine AW.regionSeq ?_
  refine OpsW.seg 3 [28, 27, 26, 8, 7] [] [(28, slA (eI .u8) t1), (27, .int .i64 x3), (26, slA eS_Row x2), (8, slA eS_Row x2), (7, .bool x1)] (by kernel_rfl) trivial ?_
  obtain ⟨x4, hx4, H⟩ := bindS H
  refine OpsW.qcall rfl (by kernel_rfl) rfl rfl (glAll_sound trivial) (.cons (.pur rfl) (.cons (.pur rfl) (.cons (.pur rfl) .nil))) (f_R21_Chosen_ok hx4) rfl ?_
  refine OpsW.seg 5 [11, 10, 8, 7] [] [(11, .bool x4.2), (10, slA (eI .i64) x4.1), (8, slA eS_Row x2), (7, .bool x1)] (by kernel_rfl) trivial ?_
  refine OpsW.nil ?_
  refine AW.seq ?_
  refine AW.regionSeq ?_
  refine OpsW.seg 2 [33, 10, 8, 7] [] [(33, .bool (!x4.2)), (10, slA (eI .i64) x4.1), (8, slA eS_Row x2), (7, .bool x1)] (by kernel_rfl) trivial ?_
  refine OpsW.nil ?_
  refine AW.cond (b := !x4.2) rfl (fun c5 => ?_) (fun c5 => ?_)
  · replace H := condT c5 H
    refine AW.regionSeq ?_
    refine OpsW.seg 2 [6] [] [(6, .bool x1)] (by kernel_rfl) trivial ?_
    refine OpsW.nil ?_
    obtain rfl := Option.some.inj H
    refine AW.recast (env' := [(6, .bool x1)]) (h' := []) (StC.pure (.cons .im .nil)) ?_
    refine AW.ret ?_
    try simp only [Ex.then, Ex.inBlock, Ex.noGoto, Ex.jump, reduceIte, Nat.reduceEqDiff, reduceCtorEq]
    refine Done.gen rfl (.tmp .nil) ?_
    show _ = _
    kernel_rfl
  · replace H := condF c5 H
    refine AW.skip ?_
    refine AW.regionSeq ?_
    refine OpsW.seg 2 [13, 12, 10, 8, 7] [] [(13, .int .i64 (-1 : Int)), (12, .int .i64 (0 : Int)), (10, slA (eI .i64) x4.1), (8, slA eS_Row x2), (7, .bool x1)] (by kernel_rfl) trivial ?_
    refine OpsW.nil ?_
    refine AW.seq ?_
    refine AW.regionSeq ?_
    refine OpsW.seg 1 [14, 13, 12, 10, 8, 7] [] [(14, .int .i64 (0 : Int)), (13, .int .i64 (-1 : Int)), (12, .int .i64 (0 : Int)), (10, slA (eI .i64) x4.1), (8, slA eS_Row x2), (7, .bool x1)] (by kernel_rfl) trivial ?_
    refine OpsW.nil ?_
    refine AW.block ?_
    refine AW.iterK (fun loop (s : Int × Int × Int) => f_L21_PageParts_b1 x1 x2 x4 loop s.1 s.2.1 s.2.2) r (fun (s : Int × Int × Int) => [(7, .bool x1), (8, slA eS_Row x2), (10, slA (eI .i64) x4.1), (12, .int .i64 s.1), (13, .int .i64 s.2.1), (14, .int .i64 s.2.2)]) (fun (s : Int × Int × Int) => []) ?_ 1000000 ((0 : Int), (-1 : Int), (0 : Int)) H (StC.pure (.cons .im (.cons .im (.cons .im (.cons .im (.cons .im (.cons .im .nil)))))))
    intro loop9 s H
    obtain ⟨v6, v7, v8⟩ := s
    change f_L21_PageParts_b1 x1 x2 x4 loop9 v6 v7 v8 = some r at H
    unfold f_L21_PageParts_b1 at H
    change AW _ _ _ [(7, .bool x1), (8, slA eS_Row x2), (10, slA (eI .i64) x4.1), (12, .int .i64 v6), (13, .int .i64 v7), (14, .int .i64 v8)] [] _
    refine AW.seq ?_
    refine AW.regionSeq ?_
    refine OpsW.seg 4 [38, 7, 8, 10, 12, 13, 14] [] [(38, .bool (decide (v8 < (x4.1.length : Int)))), (7, .bool x1), (8, slA eS_Row x2), (10, slA (eI .i64) x4.1), (12, .int .i64 v6), (13, .int .i64 v7), (14, .int .i64 v8)] (by kernel_rfl) trivial ?_
    refine OpsW.nil ?_
    refine AW.cond (b := decide (v8 < (x4.1.length : Int))) rfl (fun c10 => ?_) (fun c10 => ?_)
    · replace H := condT c10 H
      refine AW.skip ?_
      refine AW.seq ?_
      refine AW.block ?_
      refine AW.regionSeq ?_
      refine OpsW.seg 3 [44, 43, 42, 7, 8, 10, 12, 13, 14] [] [(44, .int .i64 v8), (43, slA (eI .i64) x4.1), (42, slA eS_Row x2), (7, .bool x1), (8, slA eS_Row x2), (10, slA (eI .i64) x4.1), (12, .int .i64 v6), (13, .int .i64 v7), (14, .int .i64 v8)] (by kernel_rfl) trivial ?_
      obtain ⟨x11, hx11, H⟩ := bindS H
      refine OpsW.qcall rfl (by kernel_rfl) rfl rfl (glAll_sound trivial) (.cons (.pur rfl) (.cons (.pur rfl) (.cons (.pur rfl) .nil))) (f_page_Part_ok hx11) rfl ?_
      refine OpsW.seg 5 [16, 15, 7, 8, 10, 12, 13, 14] [] [(16, .int .i64 x11.2), (15, .int .i64 x11.1), (7, .bool x1), (8, slA eS_Row x2), (10, slA (eI .i64) x4.1), (12, .int .i64 v6), (13, .int .i64 v7), (14, .int .i64 v8)] (by kernel_rfl) trivial ?_
      refine OpsW.nil ?_
      refine AW.regionSeq ?_
      refine OpsW.seg 3 [51, 50, 49, 16, 15, 7, 8, 10, 12, 13, 14] [] [(51, .int .i64 v8), (50, slA (eI .i64) x4.1), (49, slA eS_Row x2), (16, .int .i64 x11.2), (15, .int .i64 x11.1), (7, .bool x1), (8, slA eS_Row x2), (10, slA (eI .i64) x4.1), (12, .int .i64 v6), (13, .int .i64 v7), (14, .int .i64 v8)] (by kernel_rfl) trivial ?_
      obtain ⟨x12, hx12, H⟩ := bindS H
      refine OpsW.qcall rfl (by kernel_rfl) rfl rfl (glAll_sound trivial) (.cons (.pur rfl) (.cons (.pur rfl) (.cons (.pur rfl) .nil))) (f_R21_Part_ok hx12) rfl ?_
      refine OpsW.seg 5 [18, 17, 16, 15, 7, 8, 10, 12, 13, 14] [] [(18, .int .i64 x12.2), (17, .int .i64 x12.1), (16, .int .i64 x11.2), (15, .int .i64 x11.1), (7, .bool x1), (8, slA eS_Row x2), (10, slA (eI .i64) x4.1), (12, .int .i64 v6), (13, .int .i64 v7), (14, .int .i64 v8)] (by kernel_rfl) trivial ?_
      refine OpsW.nil ?_
      refine AW.regionSeq ?_
      refine OpsW.seg 2 [56, 55, 18, 17, 16, 15, 7, 8, 10, 12, 13, 14] [] [(56, .int .i64 v8), (55, slA (eI .i64) x4.1), (18, .int .i64 x12.2), (17, .int .i64 x12.1), (16, .int .i64 x11.2), (15, .int .i64 x11.1), (7, .bool x1), (8, slA eS_Row x2), (10, slA (eI .i64) x4.1), (12, .int .i64 v6), (13, .int .i64 v7), (14, .int .i64 v8)] (by kernel_rfl) trivial ?_
      obtain ⟨x13, hx13, H⟩ := bindS H
      refine OpsW.qcall rfl (by kernel_rfl) rfl rfl (glAll_sound trivial) (.cons (.pur rfl) (.cons (.pur rfl) .nil)) (f_R21_First_ok hx13) rfl ?_
      refine OpsW.seg 1 [19, 18, 17, 16, 15, 7, 8, 10, 12, 13, 14] [] [(19, .int .i64 x13), (18, .int .i64 x12.2), (17, .int .i64 x12.1), (16, .int .i64 x11.2), (15, .int .i64 x11.1), (7, .bool x1), (8, slA eS_Row x2), (10, slA (eI .i64) x4.1), (12, .int .i64 v6), (13, .int .i64 v7), (14, .int .i64 v8)] (by kernel_rfl) trivial ?_
      refine OpsW.nil ?_
      refine AW.seq ?_
      refine AW.regionSeq ?_
      obtain ⟨g14, H⟩ := G_some H
      refine OpsW.seg 13 [70, 66, 19, 16, 15, 7, 8, 10, 12, 13, 14] [(!(x11.1 != x12.1)) = true → (!(x11.1 != x12.1)) = true, (!(x11.1 != x12.1)) = true → (!(x11.1 != x12.1)) = true, (x11.1 != x12.1) = false → (!(x11.1 != x12.1)) = true, (!(cond (x11.1 != x12.1) true (x11.2 != x12.2))) = true → (!(cond (x11.1 != x12.1) true (x11.2 != x12.2))) = true, (!(cond (x11.1 != x12.1) true (x11.2 != x12.2))) = true → (!(cond (x11.1 != x12.1) true (x11.2 != x12.2))) = true, (!(cond (x11.1 != x12.1) true (x11.2 != x12.2))) = true → (0 ≤ x13 ∧ x13 < (x2.length : Int)), (!(cond (x11.1 != x12.1) true (x11.2 != x12.2))) = true → (!(cond (x11.1 != x12.1) true (x11.2 != x12.2))) = true] [(70, .cnd (!(cond (x11.1 != x12.1) true (x11.2 != x12.2))) (.ipt (x2.flatMap eS_Row) (x13.toNat * 5 + 2))), (66, .bool (cond (x11.1 != x12.1) true (x11.2 != x12.2))), (19, .int .i64 x13), (16, .int .i64 x11.2), (15, .int .i64 x11.1), (7, .bool x1), (8, slA eS_Row x2), (10, slA (eI .i64) x4.1), (12, .int .i64 v6), (13, .int .i64 v7), (14, .int .i64 v8)] (by kernel_rfl) ⟨(fun h => h), (fun h => h), (fun h => by first | exact h | simpa using h), (fun h => h), (fun h => h), g14, (fun h => h), trivial⟩ ?_
      refine OpsW.asG (c := !(cond (x11.1 != x12.1) true (x11.2 != x12.2))) (.int .i64 ((x2.getD x13.toNat zS_Row).Ink)) rfl rfl rfl rfl (fun hc => T.load rfl hc (by kernel_rfl) (fm_cell eS_Row 5 (fun _ => rfl) x2 zS_Row x13.toNat (ltN (g14 hc)) 2 (fun a => .val (.int .i64 a.Ink)) (fun _ => rfl))) ?_
      obtain ⟨g15, H⟩ := G_some H
      refine OpsW.seg 7 [78, 74, 73, 66, 19, 16, 15, 7, 8, 10, 12, 13, 14] [(!(cond (x11.1 != x12.1) true (x11.2 != x12.2))) = true → (!(cond (x11.1 != x12.1) true (x11.2 != x12.2))) = true, (!(cond (x11.1 != x12.1) true (x11.2 != x12.2))) = true → (!(cond (x11.1 != x12.1) true (x11.2 != x12.2))) = true, ((!(cond (x11.1 != x12.1) true (x11.2 != x12.2))) && (decide ((0 : Int) < ((x2.getD x13.toNat zS_Row).Ink)))) = true → ((!(cond (x11.1 != x12.1) true (x11.2 != x12.2))) && (decide ((0 : Int) < ((x2.getD x13.toNat zS_Row).Ink)))) = true, ((!(cond (x11.1 != x12.1) true (x11.2 != x12.2))) && (decide ((0 : Int) < ((x2.getD x13.toNat zS_Row).Ink)))) = true → ((!(cond (x11.1 != x12.1) true (x11.2 != x12.2))) && (decide ((0 : Int) < ((x2.getD x13.toNat zS_Row).Ink)))) = true, ((!(cond (x11.1 != x12.1) true (x11.2 != x12.2))) && (decide ((0 : Int) < ((x2.getD x13.toNat zS_Row).Ink)))) = true → (0 ≤ x13 ∧ x13 < (x2.length : Int)), ((!(cond (x11.1 != x12.1) true (x11.2 != x12.2))) && (decide ((0 : Int) < ((x2.getD x13.toNat zS_Row).Ink)))) = true → ((!(cond (x11.1 != x12.1) true (x11.2 != x12.2))) && (decide ((0 : Int) < ((x2.getD x13.toNat zS_Row).Ink)))) = true] [(78, .cnd ((!(cond (x11.1 != x12.1) true (x11.2 != x12.2))) && (decide ((0 : Int) < ((x2.getD x13.toNat zS_Row).Ink)))) (.ipt (x2.flatMap eS_Row) (x13.toNat * 5 + 2))), (74, .cnd ((!(cond (x11.1 != x12.1) true (x11.2 != x12.2))) && (decide ((0 : Int) < ((x2.getD x13.toNat zS_Row).Ink)))) (.int .i64 x11.1)), (73, .cnd (!(cond (x11.1 != x12.1) true (x11.2 != x12.2))) (.bool (decide ((0 : Int) < ((x2.getD x13.toNat zS_Row).Ink))))), (66, .bool (cond (x11.1 != x12.1) true (x11.2 != x12.2))), (19, .int .i64 x13), (16, .int .i64 x11.2), (15, .int .i64 x11.1), (7, .bool x1), (8, slA eS_Row x2), (10, slA (eI .i64) x4.1), (12, .int .i64 v6), (13, .int .i64 v7), (14, .int .i64 v8)] (by kernel_rfl) ⟨(fun h => h), (fun h => h), (fun h => h), (fun h => h), g15, (fun h => h), trivial⟩ ?_
      refine OpsW.asG (c := (!(cond (x11.1 != x12.1) true (x11.2 != x12.2))) && (decide ((0 : Int) < ((x2.getD x13.toNat zS_Row).Ink)))) (.int .i64 ((x2.getD x13.toNat zS_Row).Ink)) rfl rfl rfl rfl (fun hc => T.load rfl hc (by kernel_rfl) (fm_cell eS_Row 5 (fun _ => rfl) x2 zS_Row x13.toNat (ltN (g15 hc)) 2 (fun a => .val (.int .i64 a.Ink)) (fun _ => rfl))) ?_
      refine OpsW.seg 7 [86, 19, 16, 15, 7, 8, 10, 12, 13, 14] [((!(cond (x11.1 != x12.1) true (x11.2 != x12.2))) && (decide ((0 : Int) < ((x2.getD x13.toNat zS_Row).Ink)))) = true → ((!(cond (x11.1 != x12.1) true (x11.2 != x12.2))) && (decide ((0 : Int) < ((x2.getD x13.toNat zS_Row).Ink)))) = true, ((!(cond (x11.1 != x12.1) true (x11.2 != x12.2))) && (decide ((0 : Int) < ((x2.getD x13.toNat zS_Row).Ink)))) = true → ((!(cond (x11.1 != x12.1) true (x11.2 != x12.2))) && (decide ((0 : Int) < ((x2.getD x13.toNat zS_Row).Ink)))) = true, ((!(cond (x11.1 != x12.1) true (x11.2 != x12.2))) && (decide ((0 : Int) < ((x2.getD x13.toNat zS_Row).Ink)))) = true → ((!(cond (x11.1 != x12.1) true (x11.2 != x12.2))) && (decide ((0 : Int) < ((x2.getD x13.toNat zS_Row).Ink)))) = true, (((!(cond (x11.1 != x12.1) true (x11.2 != x12.2))) && (decide ((0 : Int) < ((x2.getD x13.toNat zS_Row).Ink)))) && (!(x11.1 != ((x2.getD x13.toNat zS_Row).Ink)))) = true → (((!(cond (x11.1 != x12.1) true (x11.2 != x12.2))) && (decide ((0 : Int) < ((x2.getD x13.toNat zS_Row).Ink)))) && (!(x11.1 != ((x2.getD x13.toNat zS_Row).Ink)))) = true, ((!(cond (x11.1 != x12.1) true (x11.2 != x12.2))) && (decide ((0 : Int) < ((x2.getD x13.toNat zS_Row).Ink)))) = true → ((!(cond (x11.1 != x12.1) true (x11.2 != x12.2))) && (decide ((0 : Int) < ((x2.getD x13.toNat zS_Row).Ink)))) = true, ((!(cond (x11.1 != x12.1) true (x11.2 != x12.2))) && (decide ((0 : Int) < ((x2.getD x13.toNat zS_Row).Ink)))) = true → ((x11.1 != ((x2.getD x13.toNat zS_Row).Ink)) = false → (((!(cond (x11.1 != x12.1) true (x11.2 != x12.2))) && (decide ((0 : Int) < ((x2.getD x13.toNat zS_Row).Ink)))) && (!(x11.1 != ((x2.getD x13.toNat zS_Row).Ink)))) = true), (!(cond (x11.1 != x12.1) true (x11.2 != x12.2))) = true → (!(cond (x11.1 != x12.1) true (x11.2 != x12.2))) = true, (!(cond (x11.1 != x12.1) true (x11.2 != x12.2))) = true → ((decide ((0 : Int) < ((x2.getD x13.toNat zS_Row).Ink))) = true → ((!(cond (x11.1 != x12.1) true (x11.2 != x12.2))) && (decide ((0 : Int) < ((x2.getD x13.toNat zS_Row).Ink)))) = true), (cond (x11.1 != x12.1) true (x11.2 != x12.2)) = false → (!(cond (x11.1 != x12.1) true (x11.2 != x12.2))) = true] [(86, .bool (cond (cond (x11.1 != x12.1) true (x11.2 != x12.2)) true (cond (decide ((0 : Int) < ((x2.getD x13.toNat zS_Row).Ink))) (cond (x11.1 != ((x2.getD x13.toNat zS_Row).Ink)) true (x11.2 != (0 : Int))) false))), (19, .int .i64 x13), (16, .int .i64 x11.2), (15, .int .i64 x11.1), (7, .bool x1), (8, slA eS_Row x2), (10, slA (eI .i64) x4.1), (12, .int .i64 v6), (13, .int .i64 v7), (14, .int .i64 v8)] (by kernel_rfl) ⟨(fun h => h), (fun h => h), (fun h => h), (fun h => h), (fun h => h), (fun h0 h => by first | exact h | (simp [h0, h]; done) | (simp at h0 h ⊢; simp [h0, h]; done) | (simp_all; done)), (fun h => h), (fun h0 h => by first | exact h | (simp [h0, h]; done) | (simp at h0 h ⊢; simp [h0, h]; done) | (simp_all; done)), (fun h => by first | exact h | simpa using h), trivial⟩ ?_
      refine OpsW.nil ?_
      refine AW.cond (b := cond (cond (x11.1 != x12.1) true (x11.2 != x12.2)) true (cond (decide ((0 : Int) < ((x2.getD x13.toNat zS_Row).Ink))) (cond (x11.1 != ((x2.getD x13.toNat zS_Row).Ink)) true (x11.2 != (0 : Int))) false)) rfl (fun c16 => ?_) (fun c16 => ?_)
      · replace H := condT c16 H
        refine AW.regionSeq ?_
        refine OpsW.seg 1 [6] [] [(6, .bool false)] (by kernel_rfl) trivial ?_
        refine OpsW.nil ?_
        obtain rfl := Option.some.inj H
        refine AW.recast (env' := [(6, .bool false)]) (h' := []) (StC.pure (.cons .im .nil)) ?_
        refine AW.ret ?_
        try simp only [Ex.then, Ex.inBlock, Ex.noGoto, Ex.jump, reduceIte, Nat.reduceEqDiff, reduceCtorEq]
        refine Done.gen rfl (.tmp .nil) ?_
        show _ = _
        kernel_rfl
      · replace H := condF c16 H
        refine AW.skip ?_
        refine AW.seq ?_
        refine AW.regionSeq ?_
        obtain ⟨g17, H⟩ := G_some H
        refine OpsW.seg 12 [98, 94, 16, 15, 7, 8, 10, 13, 14] [(decide ((0 : Int) < v8)) = true → (decide ((0 : Int) < v8)) = true, (decide ((0 : Int) < v8)) = true → (decide ((0 : Int) < v8)) = true, (decide ((0 : Int) < v8)) = true → (decide ((0 : Int) < v8)) = true, (cond (decide ((0 : Int) < v8)) (x11.1 == v6) false) = true → (cond (decide ((0 : Int) < v8)) (x11.1 == v6) false) = true, (cond (decide ((0 : Int) < v8)) (x11.1 == v6) false) = true → (cond (decide ((0 : Int) < v8)) (x11.1 == v6) false) = true, (cond (decide ((0 : Int) < v8)) (x11.1 == v6) false) = true → (0 ≤ x13 ∧ x13 < (x2.length : Int)), (cond (decide ((0 : Int) < v8)) (x11.1 == v6) false) = true → (cond (decide ((0 : Int) < v8)) (x11.1 == v6) false) = true] [(98, .cnd (cond (decide ((0 : Int) < v8)) (x11.1 == v6) false) (.ipt (x2.flatMap eS_Row) (x13.toNat * 5 + 2))), (94, .bool (cond (decide ((0 : Int) < v8)) (x11.1 == v6) false)), (16, .int .i64 x11.2), (15, .int .i64 x11.1), (7, .bool x1), (8, slA eS_Row x2), (10, slA (eI .i64) x4.1), (13, .int .i64 v7), (14, .int .i64 v8)] (by kernel_rfl) ⟨(fun h => h), (fun h => h), (fun h => by first | exact h | simpa using h), (fun h => h), (fun h => h), g17, (fun h => h), trivial⟩ ?_
        refine OpsW.asG (c := cond (decide ((0 : Int) < v8)) (x11.1 == v6) false) (.int .i64 ((x2.getD x13.toNat zS_Row).Ink)) rfl rfl rfl rfl (fun hc => T.load rfl hc (by kernel_rfl) (fm_cell eS_Row 5 (fun _ => rfl) x2 zS_Row x13.toNat (ltN (g17 hc)) 2 (fun a => .val (.int .i64 a.Ink)) (fun _ => rfl))) ?_
        obtain ⟨g18, H⟩ := G_some H
        refine OpsW.seg 9 [108, 16, 15, 7, 8, 10, 14] [(cond (decide ((0 : Int) < v8)) (x11.1 == v6) false) = true → (cond (decide ((0 : Int) < v8)) (x11.1 == v6) false) = true, (cond (decide ((0 : Int) < v8)) (x11.1 == v6) false) = true → (cond (decide ((0 : Int) < v8)) (x11.1 == v6) false) = true, (cond (cond (decide ((0 : Int) < v8)) (x11.1 == v6) false) (decide (((x2.getD x13.toNat zS_Row).Ink) ≤ (0 : Int))) false) = true → (cond (cond (decide ((0 : Int) < v8)) (x11.1 == v6) false) (decide (((x2.getD x13.toNat zS_Row).Ink) ≤ (0 : Int))) false) = true, (cond (cond (decide ((0 : Int) < v8)) (x11.1 == v6) false) (decide (((x2.getD x13.toNat zS_Row).Ink) ≤ (0 : Int))) false) = true → inR (v7 + (1 : Int)), (cond (cond (decide ((0 : Int) < v8)) (x11.1 == v6) false) (decide (((x2.getD x13.toNat zS_Row).Ink) ≤ (0 : Int))) false) = true → (cond (cond (decide ((0 : Int) < v8)) (x11.1 == v6) false) (decide (((x2.getD x13.toNat zS_Row).Ink) ≤ (0 : Int))) false) = true, (cond (cond (decide ((0 : Int) < v8)) (x11.1 == v6) false) (decide (((x2.getD x13.toNat zS_Row).Ink) ≤ (0 : Int))) false) = true → (cond (cond (decide ((0 : Int) < v8)) (x11.1 == v6) false) (decide (((x2.getD x13.toNat zS_Row).Ink) ≤ (0 : Int))) false) = true, (cond (cond (decide ((0 : Int) < v8)) (x11.1 == v6) false) (decide (((x2.getD x13.toNat zS_Row).Ink) ≤ (0 : Int))) false) = true → (cond (cond (decide ((0 : Int) < v8)) (x11.1 == v6) false) (decide (((x2.getD x13.toNat zS_Row).Ink) ≤ (0 : Int))) false) = true, (cond (cond (decide ((0 : Int) < v8)) (x11.1 == v6) false) (decide (((x2.getD x13.toNat zS_Row).Ink) ≤ (0 : Int))) false) = true → (cond (cond (decide ((0 : Int) < v8)) (x11.1 == v6) false) (decide (((x2.getD x13.toNat zS_Row).Ink) ≤ (0 : Int))) false) = true] [(108, .bool (cond (cond (cond (decide ((0 : Int) < v8)) (x11.1 == v6) false) (decide (((x2.getD x13.toNat zS_Row).Ink) ≤ (0 : Int))) false) (x11.2 != (if (26 : Int) < (v7 + (1 : Int)) then (26 : Int) else (v7 + (1 : Int)))) false)), (16, .int .i64 x11.2), (15, .int .i64 x11.1), (7, .bool x1), (8, slA eS_Row x2), (10, slA (eI .i64) x4.1), (14, .int .i64 v8)] (by kernel_rfl) ⟨(fun h => h), (fun h => by first | exact h | simpa using h), (fun h => h), g18, (fun h => h), (fun h => h), (fun h => h), (fun h => by first | exact h | simpa using h), trivial⟩ ?_
        refine OpsW.nil ?_
        refine AW.cond (b := cond (cond (cond (decide ((0 : Int) < v8)) (x11.1 == v6) false) (decide (((x2.getD x13.toNat zS_Row).Ink) ≤ (0 : Int))) false) (x11.2 != (if (26 : Int) < (v7 + (1 : Int)) then (26 : Int) else (v7 + (1 : Int)))) false) rfl (fun c19 => ?_) (fun c19 => ?_)
        · replace H := condT c19 H
          refine AW.regionSeq ?_
          refine OpsW.seg 1 [6] [] [(6, .bool false)] (by kernel_rfl) trivial ?_
          refine OpsW.nil ?_
          obtain rfl := Option.some.inj H
          refine AW.recast (env' := [(6, .bool false)]) (h' := []) (StC.pure (.cons .im .nil)) ?_
          refine AW.ret ?_
          try simp only [Ex.then, Ex.inBlock, Ex.noGoto, Ex.jump, reduceIte, Nat.reduceEqDiff, reduceCtorEq]
          refine Done.gen rfl (.tmp .nil) ?_
          show _ = _
          kernel_rfl
        · replace H := condF c19 H
          refine AW.skip ?_
          refine AW.region ?_
          refine OpsW.seg 4 [13, 12, 7, 8, 10, 14] [] [(13, .int .i64 x11.2), (12, .int .i64 x11.1), (7, .bool x1), (8, slA eS_Row x2), (10, slA (eI .i64) x4.1), (14, .int .i64 v8)] (by kernel_rfl) trivial ?_
          refine OpsW.nil ?_
          refine AW.region ?_
          obtain ⟨g20, H⟩ := G_some H
          refine OpsW.seg 3 [14, 13, 12, 7, 8, 10] [inR (v8 + (1 : Int))] [(14, .int .i64 (v8 + (1 : Int))), (13, .int .i64 x11.2), (12, .int .i64 x11.1), (7, .bool x1), (8, slA eS_Row x2), (10, slA (eI .i64) x4.1)] (by kernel_rfl) ⟨g20, trivial⟩ ?_
          refine OpsW.nil ?_
          show ∃ y, _ ∧ StC _ _ _ _
          exact ⟨(x11.1, x11.2, v8 + (1 : Int)), H, (StC.pure (.cons .im (.cons .im (.cons .im (.cons .im (.cons .im (.cons .im .nil)))))))⟩
    · replace H := condF c10 H
      refine AW.exit ?_
      refine AW.regionSeq ?_
      refine OpsW.seg 2 [6] [] [(6, .bool x1)] (by kernel_rfl) trivial ?_
      refine OpsW.nil ?_
      obtain rfl := Option.some.inj H
      refine AW.recast (env' := [(6, .bool x1)]) (h' := []) (StC.pure (.cons .im .nil)) ?_
      refine AW.ret ?_
      try simp only [Ex.then, Ex.inBlock, Ex.noGoto, Ex.jump, reduceIte, Nat.reduceEqDiff, reduceCtorEq]
      refine Done.gen rfl (.tmp .nil) ?_
      show _ = _
      kernel_rfl
end Go.Proofs.Ythfdgicfcjkfgaa
