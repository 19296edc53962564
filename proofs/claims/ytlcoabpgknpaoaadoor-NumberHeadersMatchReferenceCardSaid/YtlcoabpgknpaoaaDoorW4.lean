/-
  Written by gen.py (own work): typed functions, and that the program computes them.
-/
import Derived.Test.YtlcoabpgknpaoaaDoorW3
set_option linter.unusedSimpArgs false
set_option linter.unusedVariables false
set_option maxRecDepth 100000
namespace Go.Proofs.YtlcoabpgknpaoaaDoor
open Go.Abs
def f_L19_NumberHeadersMatchReference_b1 (x1 : Bool) (v8 : List Int) (x18 : List Int) (loop20 : (Int) → Option Bool) (v19 : Int) : Option Bool :=
  cond (decide (v19 < (3 : Int))) (
    G (0 ≤ v19 ∧ v19 < ([v8, x18, (([] : List Int) ++ v8) ++ [(0 : Int)]].length : Int)) <|
    (f_number_ReadHeader ([v8, x18, (([] : List Int) ++ v8) ++ [(0 : Int)]].getD v19.toNat [])).bind fun x23 =>
    (f_R19_ReadHeader ([v8, x18, (([] : List Int) ++ v8) ++ [(0 : Int)]].getD v19.toNat [])).bind fun x24 =>
    cond (cond (xor true ([x23.1.Width == x24.1.Width, x23.1.Label.N == x24.1.Label.N, x23.1.Label.K == x24.1.Label.K, x23.1.Back == x24.1.Back, x23.1.Ink == x24.1.Ink, x23.1.Part == x24.1.Part].all id)) true (x23.2 != x24.2)) (
      some false) (
      G (inR (v19 + (1 : Int))) <|
      loop20 (v19 + (1 : Int)))) (
    some x1)
def f_L19_NumberHeadersMatchReference_b2 (t2 : List Int) (x1 : Bool) (loop10 : ((List Int) × Int) → Option Bool) (v8 : List Int) (v9 : Int) : Option Bool :=
  cond (cond (decide (v9 < (t2.length : Int))) (decide (v9 < (3 : Int))) false) (
    G (0 ≤ v9 ∧ v9 < (t2.length : Int)) <|
    G ((v8.length : Int) ≠ 0) <|
    G (0 ≤ (Int.tmod (IntKind.wrap .i64 (t2.getD v9.toNat (0 : Int))) (v8.length : Int)) ∧ (Int.tmod (IntKind.wrap .i64 (t2.getD v9.toNat (0 : Int))) (v8.length : Int)) < (v8.length : Int)) <|
    G (inR (v9 + (1 : Int))) <|
    loop10 (v8.set (Int.tmod (IntKind.wrap .i64 (t2.getD v9.toNat (0 : Int))) (v8.length : Int)).toNat (IntKind.wrap .u8 (Int.tdiv (t2.getD v9.toNat (0 : Int)) (4 : Int))), v9 + (1 : Int))) (
    G (room 1 (([] : List Int).length + v8.length)) <|
    G (room 1 ((([] : List Int) ++ v8).length + 1)) <|
    (f_R01_Cells t2 (64 : Int)).bind fun x18 =>
    iter (fun loop (s : Int) => f_L19_NumberHeadersMatchReference_b1 x1 v8 x18 loop s) 1000000 (0 : Int))
def f_L19_NumberHeadersMatchReference (t0 : S_Raw) (t1 : S_Header) (t2 : List Int) : Option Bool :=
  (f_L19_sanity).bind fun x1 =>
  (f_number_Header t1).bind fun x2 =>
  (f_R19_Header t1).bind fun x3 =>
  (f_R01_Same x2.1 x3.1).bind fun x4 =>
  cond (cond (!x4) true (x2.2 != x3.2)) (
    some false) (
    (f_R19_Made t0).bind fun x6 =>
    (f_R19_Header x6).bind fun x7 =>
    iter (fun loop (s : (List Int) × Int) => f_L19_NumberHeadersMatchReference_b2 t2 x1 loop s.1 s.2) 1000000 (x7.1, (0 : Int)))
theorem f_L19_NumberHeadersMatchReference_ok {t0 : S_Raw} {t1 : S_Header} {t2 : List Int} {r : Bool} (H : f_L19_NumberHeadersMatchReference t0 t1 t2 = some r) : QSpec Tryd.prog 7 [.agg [.int .u8 t0.Width, .int .u16 t0.N, .int .u8 t0.K, .bool t0.Back, .int .u16 t0.Ink, .int .u8 t0.Part], .agg [.int .i64 t1.Width, .int .i64 t1.Label.N, .int .i64 t1.Label.K, .bool t1.Back, .int .i64 t1.Ink, .int .i64 t1.Part], slA (eI .u8) t2] (.bool r) := by
  refine Spec.of_AW Tryd.func7 rfl (by simp [Tryd.ntmps7]) ?_
  rw [Tryd.ntmps7]
  unfold f_L19_NumberHeadersMatchReference at H
  change AW _ _ _ [(0, .agg [.int .u8 t0.Width, .int .u16 t0.N, .int .u8 t0.K, .bool t0.Back, .int .u16 t0.Ink, .int .u8 t0.Part]), (1, .agg [.int .i64 t1.Width, .int .i64 t1.Label.N, .int .i64 t1.Label.K, .bool t1.Back, .int .i64 t1.Ink, .int .i64 t1.Part]), (2, slA (eI .u8) t2)] [] _
  refine AW.regionSeq ?_
  refine OpsW.box rfl rfl rfl 3 rfl (okCb_sound (by kernel_rfl)) ?_
  change OpsW _ _ _ _ _ [(3, ⟨0, true, 46, 6, [.int .u8 t0.Width, .int .u16 t0.N, .int .u8 t0.K, .bool t0.Back, .int .u16 t0.Ink, .int .u8 t0.Part]⟩)] _
  refine OpsW.box rfl rfl rfl 4 rfl (okCb_sound (by kernel_rfl)) ?_
  change OpsW _ _ _ _ _ [(4, ⟨0, true, 48, 6, [.int .i64 t1.Width, .int .i64 t1.Label.N, .int .i64 t1.Label.K, .bool t1.Back, .int .i64 t1.Ink, .int .i64 t1.Part]⟩), (3, ⟨0, true, 46, 6, [.int .u8 t0.Width, .int .u16 t0.N, .int .u8 t0.K, .bool t0.Back, .int .u16 t0.Ink, .int .u8 t0.Part]⟩)] _
  refine OpsW.seg 1 [4, 3, 2] [] [(4, .ref 4 0 0), (3, .ref 3 0 0), (2, slA (eI .u8) t2)] (by kernel_rfl) trivial ?_
  refine OpsW.recast (env' := [(4, .ref 4 0 0), (3, .ref 3 0 0), (2, slA (eI .u8) t2)]) (h' := [(3, ⟨0, true, 46, 6, [.int .u8 t0.Width, .int .u16 t0.N, .int .u8 t0.K, .bool t0.Back, .int .u16 t0.Ink, .int .u8 t0.Part]⟩), (4, ⟨0, true, 48, 6, [.int .i64 t1.Width, .int .i64 t1.Label.N, .int .i64 t1.Label.K, .bool t1.Back, .int .i64 t1.Ink, .int .i64 t1.Part]⟩)]) (StC.mk (phi [(3, some 3), (4, some 4)]) (.old rfl rfl rfl rfl rfl (.cons .im (.cons .im (.cons .im (.cons .im (.cons .im (.cons .im .nil)))))) (.old rfl rfl rfl rfl rfl (.cons .im (.cons .im (.cons .im (.cons .im (.cons .im (.cons .im .nil)))))) .nil)) rfl (.cons (.ref rfl rfl rfl rfl rfl) (.cons (.ref rfl rfl rfl rfl rfl) (.cons .im .nil)))) ?_
  refine OpsW.nil ?_
  refine AW.regionSeq ?_
  obtain ⟨x1, hx1, H⟩ := bindS H
  refine OpsW.qcall rfl (by kernel_rfl) rfl rfl (glAll_sound trivial) .nil (f_L19_sanity_ok hx1) rfl ?_
  refine OpsW.seg 1 [7, 4, 3, 2] [] [(7, .bool x1), (4, .ref 4 0 0), (3, .ref 3 0 0), (2, slA (eI .u8) t2)] (by kernel_rfl) trivial ?_
  refine OpsW.nil ?_
  refine AW.regionSeq ?_
  refine OpsW.seg 1 [24, 7, 4, 3, 2] [] [(24, .agg [.int .i64 t1.Width, .int .i64 t1.Label.N, .int .i64 t1.Label.K, .bool t1.Back, .int .i64 t1.Ink, .int .i64 t1.Part]), (7, .bool x1), (4, .ref 4 0 0), (3, .ref 3 0 0), (2, slA (eI .u8) t2)] (by kernel_rfl) trivial ?_
  obtain ⟨x2, hx2, H⟩ := bindS H
  refine OpsW.qcall rfl (by kernel_rfl) rfl rfl (glAll_sound trivial) (.cons (.pur rfl) .nil) (f_number_Header_ok hx2) rfl ?_
  refine OpsW.seg 5 [9, 8, 7, 4, 3, 2] [] [(9, .int .i64 x2.2), (8, slA (eI .u8) x2.1), (7, .bool x1), (4, .ref 4 0 0), (3, .ref 3 0 0), (2, slA (eI .u8) t2)] (by kernel_rfl) trivial ?_
  refine OpsW.nil ?_
  refine AW.regionSeq ?_
  refine OpsW.seg 1 [29, 9, 8, 7, 3, 2] [] [(29, .agg [.int .i64 t1.Width, .int .i64 t1.Label.N, .int .i64 t1.Label.K, .bool t1.Back, .int .i64 t1.Ink, .int .i64 t1.Part]), (9, .int .i64 x2.2), (8, slA (eI .u8) x2.1), (7, .bool x1), (3, .ref 3 0 0), (2, slA (eI .u8) t2)] (by kernel_rfl) trivial ?_
  obtain ⟨x3, hx3, H⟩ := bindS H
  refine OpsW.qcall rfl (by kernel_rfl) rfl rfl (glAll_sound trivial) (.cons (.pur rfl) .nil) (f_R19_Header_ok hx3) rfl ?_
  refine OpsW.seg 5 [11, 10, 9, 8, 7, 3, 2] [] [(11, .int .i64 x3.2), (10, slA (eI .u8) x3.1), (9, .int .i64 x2.2), (8, slA (eI .u8) x2.1), (7, .bool x1), (3, .ref 3 0 0), (2, slA (eI .u8) t2)] (by kernel_rfl) trivial ?_
  refine OpsW.nil ?_
  refine AW.seq ?_
  refine AW.regionSeq ?_
  refine OpsW.seg 2 [34, 33, 11, 9, 7, 3, 2] [] [(34, slA (eI .u8) x3.1), (33, slA (eI .u8) x2.1), (11, .int .i64 x3.2), (9, .int .i64 x2.2), (7, .bool x1), (3, .ref 3 0 0), (2, slA (eI .u8) t2)] (by kernel_rfl) trivial ?_
  obtain ⟨x4, hx4, H⟩ := bindS H
  refine OpsW.qcall rfl (by kernel_rfl) rfl rfl (glAll_sound trivial) (.cons (.pur rfl) (.cons (.pur rfl) .nil)) (f_R01_Same_ok hx4) rfl ?_
  refine OpsW.seg 6 [41, 7, 3, 2] [(!(!x4)) = true → (!(!x4)) = true, (!(!x4)) = true → (!(!x4)) = true, (!x4) = false → (!(!x4)) = true] [(41, .bool (cond (!x4) true (x2.2 != x3.2))), (7, .bool x1), (3, .ref 3 0 0), (2, slA (eI .u8) t2)] (by kernel_rfl) ⟨(fun h => h), (fun h => h), (fun h => by first | exact h | simpa using h), trivial⟩ ?_
  refine OpsW.nil ?_
  refine AW.cond (b := cond (!x4) true (x2.2 != x3.2)) rfl (fun c5 => ?_) (fun c5 => ?_)
  · replace H := condT c5 H
    refine AW.regionSeq ?_
    refine OpsW.seg 1 [6] [] [(6, .bool false)] (by kernel_rfl) trivial ?_
    refine OpsW.nil ?_
    obtain rfl := Option.some.inj H
    refine AW.recast (env' := [(6, .bool false)]) (h' := []) (StC.pure (.cons .im .nil)) ?_
    refine AW.ret ?_
    try simp only [Ex.then, Ex.inBlock, Ex.noGoto, Ex.jump, reduceIte, Nat.reduceEqDiff, reduceCtorEq]
    refine Done.gen rfl (.tmp .nil) ?_
    show _ = _
    kernel_rfl
  · replace H := condF c5 H
    refine AW.skip ?_
    refine AW.regionSeq ?_
    refine OpsW.seg 1 [43, 7, 2] [] [(43, .agg [.int .u8 t0.Width, .int .u16 t0.N, .int .u8 t0.K, .bool t0.Back, .int .u16 t0.Ink, .int .u8 t0.Part]), (7, .bool x1), (2, slA (eI .u8) t2)] (by kernel_rfl) trivial ?_
    obtain ⟨x6, hx6, H⟩ := bindS H
    refine OpsW.qcall rfl (by kernel_rfl) rfl rfl (glAll_sound trivial) (.cons (.pur rfl) .nil) (f_R19_Made_ok hx6) rfl ?_
    obtain ⟨x7, hx7, H⟩ := bindS H
    refine OpsW.call rfl rfl (by kernel_rfl) [] _ _ rfl (glAll_sound trivial) (.cons (.pur rfl) .nil) (f_R19_Header_own hx7) ?_
    rintro _ _ ⟨rfl, rfl⟩
    refine ⟨fresh_of (by kernel_rfl), .inl rfl, ?_⟩
    change OpsW _ _ _ _ [(45, .tup [.rsl 1000 0 0 x7.1.length, .int .i64 x7.2]), (44, .agg [.int .i64 x6.Width, .int .i64 x6.Label.N, .int .i64 x6.Label.K, .bool x6.Back, .int .i64 x6.Ink, .int .i64 x6.Part]), (43, .agg [.int .u8 t0.Width, .int .u16 t0.N, .int .u8 t0.K, .bool t0.Back, .int .u16 t0.Ink, .int .u8 t0.Part]), (7, .bool x1), (2, slA (eI .u8) t2)] [(1000, rtA 0 42 1 (eI .u8) x7.1), (3, ⟨0, true, 46, 6, [.int .u8 t0.Width, .int .u16 t0.N, .int .u8 t0.K, .bool t0.Back, .int .u16 t0.Ink, .int .u8 t0.Part]⟩), (4, ⟨0, true, 48, 6, [.int .i64 t1.Width, .int .i64 t1.Label.N, .int .i64 t1.Label.K, .bool t1.Back, .int .i64 t1.Ink, .int .i64 t1.Part]⟩)] _
    refine OpsW.recast (env' := [(45, .tup [.rsl 600 0 0 x7.1.length, .int .i64 x7.2]), (44, .agg [.int .i64 x6.Width, .int .i64 x6.Label.N, .int .i64 x6.Label.K, .bool x6.Back, .int .i64 x6.Ink, .int .i64 x6.Part]), (43, .agg [.int .u8 t0.Width, .int .u16 t0.N, .int .u8 t0.K, .bool t0.Back, .int .u16 t0.Ink, .int .u8 t0.Part]), (7, .bool x1), (2, slA (eI .u8) t2)]) (h' := [(600, rtA 0 42 1 (eI .u8) x7.1), (3, ⟨0, true, 46, 6, [.int .u8 t0.Width, .int .u16 t0.N, .int .u8 t0.K, .bool t0.Back, .int .u16 t0.Ink, .int .u8 t0.Part]⟩), (4, ⟨0, true, 48, 6, [.int .i64 t1.Width, .int .i64 t1.Label.N, .int .i64 t1.Label.K, .bool t1.Back, .int .i64 t1.Ink, .int .i64 t1.Part]⟩)]) (StC.mk (phi [(600, some 1000), (3, some 3), (4, some 4)]) (.old rfl rfl rfl rfl rfl (CstL.ims _) (.old rfl rfl rfl rfl rfl (.cons .im (.cons .im (.cons .im (.cons .im (.cons .im (.cons .im .nil)))))) (.old rfl rfl rfl rfl rfl (.cons .im (.cons .im (.cons .im (.cons .im (.cons .im (.cons .im .nil)))))) .nil))) rfl (.cons (.tup (.cons (.rsl rfl rfl rfl rfl rfl rfl) (.cons .im .nil))) (.cons (.agg (.cons .im (.cons .im (.cons .im (.cons .im (.cons .im (.cons .im .nil))))))) (.cons (.agg (.cons .im (.cons .im (.cons .im (.cons .im (.cons .im (.cons .im .nil))))))) (.cons .im (.cons .im .nil)))))) ?_
    refine OpsW.seg 5 [12, 7, 2] [] [(12, .rsl 600 0 0 x7.1.length), (7, .bool x1), (2, slA (eI .u8) t2)] (by kernel_rfl) trivial ?_
    refine OpsW.recast (env' := [(12, .rsl 12 0 0 x7.1.length), (7, .bool x1), (2, slA (eI .u8) t2)]) (h' := [(12, rtA 0 42 1 (eI .u8) x7.1)]) (StC.mk (phi [(12, some 600)]) (.old rfl rfl rfl rfl rfl (CstL.ims _) .nil) rfl (.cons (.rsl rfl rfl rfl rfl rfl rfl) (.cons .im (.cons .im .nil)))) ?_
    refine OpsW.nil ?_
    refine AW.seq ?_
    refine AW.regionSeq ?_
    refine OpsW.seg 1 [14, 12, 7, 2] [] [(14, .int .i64 (0 : Int)), (12, .rsl 12 0 0 x7.1.length), (7, .bool x1), (2, slA (eI .u8) t2)] (by kernel_rfl) trivial ?_
    refine OpsW.nil ?_
    refine AW.block ?_
    refine AW.iterK (fun loop (s : (List Int) × Int) => f_L19_NumberHeadersMatchReference_b2 t2 x1 loop s.1 s.2) r (fun (s : (List Int) × Int) => [(2, slA (eI .u8) t2), (7, .bool x1), (12, .rsl 12 0 0 s.1.length), (14, .int .i64 s.2)]) (fun (s : (List Int) × Int) => [(12, rtA 0 42 1 (eI .u8) s.1)]) ?_ 1000000 (x7.1, (0 : Int)) H (StC.mk (phi [(12, some 12)]) (.old rfl rfl rfl rfl rfl (CstL.ims _) .nil) rfl (.cons .im (.cons .im (.cons (.rsl rfl rfl rfl rfl rfl rfl) (.cons .im .nil)))))
    intro loop10 s H
    obtain ⟨v8, v9⟩ := s
    change f_L19_NumberHeadersMatchReference_b2 t2 x1 loop10 v8 v9 = some r at H
    unfold f_L19_NumberHeadersMatchReference_b2 at H
    change AW _ _ _ [(2, slA (eI .u8) t2), (7, .bool x1), (12, .rsl 12 0 0 v8.length), (14, .int .i64 v9)] [(12, rtA 0 42 1 (eI .u8) v8)] _
    refine AW.seq ?_
    refine AW.regionSeq ?_
    refine OpsW.seg 8 [55, 2, 7, 12, 14] [(decide (v9 < (t2.length : Int))) = true → (decide (v9 < (t2.length : Int))) = true, (decide (v9 < (t2.length : Int))) = true → (decide (v9 < (t2.length : Int))) = true] [(55, .bool (cond (decide (v9 < (t2.length : Int))) (decide (v9 < (3 : Int))) false)), (2, slA (eI .u8) t2), (7, .bool x1), (12, .rsl 12 0 0 v8.length), (14, .int .i64 v9)] (by kernel_rfl) ⟨(fun h => h), (fun h => by first | exact h | simpa using h), trivial⟩ ?_
    refine OpsW.nil ?_
    refine AW.cond (b := cond (decide (v9 < (t2.length : Int))) (decide (v9 < (3 : Int))) false) rfl (fun c11 => ?_) (fun c11 => ?_)
    · replace H := condT c11 H
      refine AW.skip ?_
      refine AW.seq ?_
      refine AW.block ?_
      refine AW.drawT 14 Tryd.checked.mixed (by kernel_rfl) ?_
      obtain ⟨g12, H⟩ := G_some H
      refine QOps.seg (N := 113) 4 [0 ≤ v9 ∧ v9 < (t2.length : Int)] [(61, .ipt (t2.flatMap (eI .u8)) (v9.toNat * 1)), (60, .int .i64 v9), (59, slA (eI .u8) t2), (58, .rsl 12 0 0 v8.length), (55, .bool (cond (decide (v9 < (t2.length : Int))) (decide (v9 < (3 : Int))) false)), (2, slA (eI .u8) t2), (7, .bool x1), (12, .rsl 12 0 0 v8.length), (14, .int .i64 v9)] (by kernel_rfl) ⟨g12, trivial⟩ ?_
      refine QOps.asU (.int .u8 (t2.getD v9.toNat (0 : Int))) rfl (T.load rfl trivial (by kernel_rfl) (fm_cell0 (eI .u8) 1 (fun _ => rfl) t2 (0 : Int) v9.toNat (ltN g12) (fun a => .val (.int .u8 a)) (fun _ => rfl))) ?_
      obtain ⟨g13, H⟩ := G_some H
      refine QOps.seg (N := 113) 7 [(v8.length : Int) ≠ 0, 0 ≤ v9 ∧ v9 < (t2.length : Int)] [(69, .ipt (t2.flatMap (eI .u8)) (v9.toNat * 1)), (68, .int .i64 v9), (67, slA (eI .u8) t2), (66, .int .i64 (Int.tmod (IntKind.wrap .i64 (t2.getD v9.toNat (0 : Int))) (v8.length : Int))), (65, .int .i64 (v8.length : Int)), (64, .rsl 12 0 0 v8.length), (63, .int .i64 (IntKind.wrap .i64 (t2.getD v9.toNat (0 : Int)))), (62, .int .u8 (t2.getD v9.toNat (0 : Int))), (61, .ipt (t2.flatMap (eI .u8)) (v9.toNat * 1)), (60, .int .i64 v9), (59, slA (eI .u8) t2), (58, .rsl 12 0 0 v8.length), (55, .bool (cond (decide (v9 < (t2.length : Int))) (decide (v9 < (3 : Int))) false)), (2, slA (eI .u8) t2), (7, .bool x1), (12, .rsl 12 0 0 v8.length), (14, .int .i64 v9)] (by kernel_rfl) ⟨g13, g12, trivial⟩ ?_
      refine QOps.asU (.int .u8 (t2.getD v9.toNat (0 : Int))) rfl (T.load rfl trivial (by kernel_rfl) (fm_cell0 (eI .u8) 1 (fun _ => rfl) t2 (0 : Int) v9.toNat (ltN g12) (fun a => .val (.int .u8 a)) (fun _ => rfl))) ?_
      refine QOps.seg (N := 113) 1 [(4 : Int) ≠ 0] [(71, .int .u8 (IntKind.wrap .u8 (Int.tdiv (t2.getD v9.toNat (0 : Int)) (4 : Int)))), (70, .int .u8 (t2.getD v9.toNat (0 : Int))), (69, .ipt (t2.flatMap (eI .u8)) (v9.toNat * 1)), (68, .int .i64 v9), (67, slA (eI .u8) t2), (66, .int .i64 (Int.tmod (IntKind.wrap .i64 (t2.getD v9.toNat (0 : Int))) (v8.length : Int))), (65, .int .i64 (v8.length : Int)), (64, .rsl 12 0 0 v8.length), (63, .int .i64 (IntKind.wrap .i64 (t2.getD v9.toNat (0 : Int)))), (62, .int .u8 (t2.getD v9.toNat (0 : Int))), (61, .ipt (t2.flatMap (eI .u8)) (v9.toNat * 1)), (60, .int .i64 v9), (59, slA (eI .u8) t2), (58, .rsl 12 0 0 v8.length), (55, .bool (cond (decide (v9 < (t2.length : Int))) (decide (v9 < (3 : Int))) false)), (2, slA (eI .u8) t2), (7, .bool x1), (12, .rsl 12 0 0 v8.length), (14, .int .i64 v9)] (by kernel_rfl) ⟨(by decide), trivial⟩ ?_
      refine QOps.nil ?_
      refine OpsW.seg 0 [71, 66, 58, 2, 7, 12, 14] [] [(71, .int .u8 (IntKind.wrap .u8 (Int.tdiv (t2.getD v9.toNat (0 : Int)) (4 : Int)))), (66, .int .i64 (Int.tmod (IntKind.wrap .i64 (t2.getD v9.toNat (0 : Int))) (v8.length : Int))), (58, .rsl 12 0 0 v8.length), (2, slA (eI .u8) t2), (7, .bool x1), (12, .rsl 12 0 0 v8.length), (14, .int .i64 v9)] (by kernel_rfl) trivial ?_
      obtain ⟨g14, H⟩ := G_some H
      refine OpsW.seg 1 [72, 71, 2, 7, 12, 14] [0 ≤ (Int.tmod (IntKind.wrap .i64 (t2.getD v9.toNat (0 : Int))) (v8.length : Int)) ∧ (Int.tmod (IntKind.wrap .i64 (t2.getD v9.toNat (0 : Int))) (v8.length : Int)) < (v8.length : Int)] [(72, .ref 12 0 (0 + (Int.tmod (IntKind.wrap .i64 (t2.getD v9.toNat (0 : Int))) (v8.length : Int)).toNat * 1)), (71, .int .u8 (IntKind.wrap .u8 (Int.tdiv (t2.getD v9.toNat (0 : Int)) (4 : Int)))), (2, slA (eI .u8) t2), (7, .bool x1), (12, .rsl 12 0 0 v8.length), (14, .int .i64 v9)] (by kernel_rfl) ⟨g14, trivial⟩ ?_
      refine OpsW.storeT (enc := eI .u8) (k := 1) (0 : Int) (IntKind.wrap .u8 (Int.tdiv (t2.getD v9.toNat (0 : Int)) (4 : Int))) [.val (.int .u8 (IntKind.wrap .u8 (Int.tdiv (t2.getD v9.toNat (0 : Int)) (4 : Int))))] (Int.tmod (IntKind.wrap .i64 (t2.getD v9.toNat (0 : Int))) (v8.length : Int)).toNat 0 rfl rfl rfl (by exact congrArg (AV.ref 12 0) (by first | omega | rfl | (simp; omega))) trivial trivial rfl (fun _ => rfl) rfl (by kernel_rfl) (okCb_sound (by kernel_rfl)) (ltN g14) (Nat.le_of_ble_eq_true (by kernel_rfl)) rfl ?_
      refine OpsW.weaken [(72, .ref 12 0 (0 + (Int.tmod (IntKind.wrap .i64 (t2.getD v9.toNat (0 : Int))) (v8.length : Int)).toNat * 1)), (71, .int .u8 (IntKind.wrap .u8 (Int.tdiv (t2.getD v9.toNat (0 : Int)) (4 : Int)))), (2, slA (eI .u8) t2), (7, .bool x1), (12, .rsl 12 0 0 ((v8.set (Int.tmod (IntKind.wrap .i64 (t2.getD v9.toNat (0 : Int))) (v8.length : Int)).toNat (IntKind.wrap .u8 (Int.tdiv (t2.getD v9.toNat (0 : Int)) (4 : Int)))).length)), (14, .int .i64 v9)] (Env.le_of_eq (by simp only [List.length_set, List.length_reverse])) ?_
      refine OpsW.seg 0 [2, 7, 12, 14] [] [(2, slA (eI .u8) t2), (7, .bool x1), (12, .rsl 12 0 0 ((v8.set (Int.tmod (IntKind.wrap .i64 (t2.getD v9.toNat (0 : Int))) (v8.length : Int)).toNat (IntKind.wrap .u8 (Int.tdiv (t2.getD v9.toNat (0 : Int)) (4 : Int)))).length)), (14, .int .i64 v9)] (by kernel_rfl) trivial ?_
      refine OpsW.recast (env' := [(2, slA (eI .u8) t2), (7, .bool x1), (12, .rsl 12 0 0 ((v8.set (Int.tmod (IntKind.wrap .i64 (t2.getD v9.toNat (0 : Int))) (v8.length : Int)).toNat (IntKind.wrap .u8 (Int.tdiv (t2.getD v9.toNat (0 : Int)) (4 : Int)))).length)), (14, .int .i64 v9)]) (h' := [(12, rtA 0 42 1 (eI .u8) (v8.set (Int.tmod (IntKind.wrap .i64 (t2.getD v9.toNat (0 : Int))) (v8.length : Int)).toNat (IntKind.wrap .u8 (Int.tdiv (t2.getD v9.toNat (0 : Int)) (4 : Int)))))]) (StC.mk (phi [(12, some 12)]) (.old rfl rfl rfl rfl rfl (CstL.ims _) .nil) rfl (.cons .im (.cons .im (.cons (.rsl rfl rfl rfl rfl rfl rfl) (.cons .im .nil))))) ?_
      refine OpsW.nil ?_
      refine AW.region ?_
      obtain ⟨g15, H⟩ := G_some H
      refine OpsW.seg 3 [14, 2, 7, 12] [inR (v9 + (1 : Int))] [(14, .int .i64 (v9 + (1 : Int))), (2, slA (eI .u8) t2), (7, .bool x1), (12, .rsl 12 0 0 ((v8.set (Int.tmod (IntKind.wrap .i64 (t2.getD v9.toNat (0 : Int))) (v8.length : Int)).toNat (IntKind.wrap .u8 (Int.tdiv (t2.getD v9.toNat (0 : Int)) (4 : Int)))).length))] (by kernel_rfl) ⟨g15, trivial⟩ ?_
      refine OpsW.nil ?_
      show ∃ y, _ ∧ StC _ _ _ _
      exact ⟨(v8.set (Int.tmod (IntKind.wrap .i64 (t2.getD v9.toNat (0 : Int))) (v8.length : Int)).toNat (IntKind.wrap .u8 (Int.tdiv (t2.getD v9.toNat (0 : Int)) (4 : Int))), v9 + (1 : Int)), H, (StC.mk (phi [(12, some 12)]) (.old rfl rfl rfl rfl rfl (CstL.ims _) .nil) rfl (.cons .im (.cons .im (.cons (.rsl rfl rfl rfl rfl rfl rfl) (.cons .im .nil)))))⟩
    · replace H := condF c11 H
      refine AW.exit ?_
      refine AW.regionSeq ?_
      refine OpsW.buildT (enc := eI .u8) ([] : List Int) rfl rfl rfl 73 rfl E26 (fun _ => rfl) (by decide) trivial (by kernel_rfl) (by kernel_rfl) (by kernel_rfl) rfl ?_
      refine OpsW.seg 1 [74, 73, 2, 7, 12] [] [(74, .rsl 12 0 0 v8.length), (73, .rsl 73 0 0 (([] : List Int).length)), (2, slA (eI .u8) t2), (7, .bool x1), (12, .rsl 12 0 0 v8.length)] (by kernel_rfl) trivial ?_
      obtain ⟨g16, H⟩ := G_some H
      refine OpsW.appendF (enc := eI .u8) (ys := v8) rfl rfl rfl E26 (fun _ => rfl) rfl rfl trivial (SrcA.rootF (enc := eI .u8) (fun _ => rfl) (by kernel_rfl) rfl) rfl g16 ?_
      refine OpsW.seg 1 [15, 2, 7, 12] [] [(15, .rsl 73 1 0 ((([] : List Int) ++ v8).length)), (2, slA (eI .u8) t2), (7, .bool x1), (12, .rsl 12 0 0 v8.length)] (by kernel_rfl) trivial ?_
      refine OpsW.recast (env' := [(15, .rsl 15 0 0 ((([] : List Int) ++ v8).length)), (2, slA (eI .u8) t2), (7, .bool x1), (12, slA (eI .u8) v8)]) (h' := [(15, rtA 0 42 1 (eI .u8) (([] : List Int) ++ v8))]) (StC.mk (phi [(15, some 73)]) (.old rfl rfl rfl rfl rfl (CstL.ims _) .nil) rfl (.cons (.rsl rfl rfl rfl rfl rfl rfl) (.cons .im (.cons .im (.cons (.frz rfl rfl rfl (frz_all (eI .u8) 1 (fun _ => rfl) v8) (fm_length (eI .u8) 1 (fun _ => rfl) v8) (phi_ne rfl)) .nil))))) ?_
      refine OpsW.nil ?_
      refine AW.regionSeq ?_
      refine OpsW.seg 1 [76, 15, 2, 7, 12] [] [(76, .rsl 15 0 0 ((([] : List Int) ++ v8).length)), (15, .rsl 15 0 0 ((([] : List Int) ++ v8).length)), (2, slA (eI .u8) t2), (7, .bool x1), (12, slA (eI .u8) v8)] (by kernel_rfl) trivial ?_
      obtain ⟨g17, H⟩ := G_some H
      refine OpsW.appendLF (enc := eI .u8) [(0 : Int)] rfl rfl rfl (by decide) rfl rfl rfl (by simp) E26 (fun _ => rfl) (by decide) trivial (by kernel_rfl) (by kernel_rfl) (by kernel_rfl) rfl rfl rfl g17 ?_
      refine OpsW.seg 1 [15, 2, 7, 12] [] [(15, .rsl 15 1 0 (((([] : List Int) ++ v8) ++ [(0 : Int)]).length)), (2, slA (eI .u8) t2), (7, .bool x1), (12, slA (eI .u8) v8)] (by kernel_rfl) trivial ?_
      refine OpsW.recast (env' := [(15, slA (eI .u8) ((([] : List Int) ++ v8) ++ [(0 : Int)])), (2, slA (eI .u8) t2), (7, .bool x1), (12, slA (eI .u8) v8)]) (h' := []) (StC.mk (phi []) .nil rfl (.cons (.frz rfl rfl rfl (frz_all (eI .u8) 1 (fun _ => rfl) ((([] : List Int) ++ v8) ++ [(0 : Int)])) (fm_length (eI .u8) 1 (fun _ => rfl) ((([] : List Int) ++ v8) ++ [(0 : Int)])) (phi_ne rfl)) (.cons .im (.cons .im (.cons .im .nil))))) ?_
      refine OpsW.nil ?_
      refine AW.regionSeq ?_
      refine OpsW.seg 2 [80, 79, 15, 7] [] [(80, slA (eI .u8) t2), (79, slA (eI .u8) v8), (15, slA (eI .u8) ((([] : List Int) ++ v8) ++ [(0 : Int)])), (7, .bool x1)] (by kernel_rfl) trivial ?_
      obtain ⟨x18, hx18, H⟩ := bindS H
      refine OpsW.qcall rfl (by kernel_rfl) rfl rfl (glAll_sound trivial) (.cons (.pur rfl) (.cons (.pur rfl) .nil)) (f_R01_Cells_ok hx18) rfl ?_
      refine OpsW.seg 1 [82, 81, 79, 7] [] [(82, slA (eI .u8) ((([] : List Int) ++ v8) ++ [(0 : Int)])), (81, slA (eI .u8) x18), (79, slA (eI .u8) v8), (7, .bool x1)] (by kernel_rfl) trivial ?_
      refine OpsW.buildTI (enc := eL (eI .u8)) [v8, x18, (([] : List Int) ++ v8) ++ [(0 : Int)]] rfl rfl rfl E55 (fun _ => rfl) (by decide) ⟨trivial, by kernel_rfl, by kernel_rfl, by kernel_rfl, rfl⟩ ?_
      refine OpsW.seg 1 [16, 7] [] [(16, slA (eL (eI .u8)) [v8, x18, (([] : List Int) ++ v8) ++ [(0 : Int)]]), (7, .bool x1)] (by kernel_rfl) trivial ?_
      refine OpsW.nil ?_
      refine AW.seq ?_
      refine AW.regionSeq ?_
      refine OpsW.seg 1 [17, 16, 7] [] [(17, .int .i64 (0 : Int)), (16, slA (eL (eI .u8)) [v8, x18, (([] : List Int) ++ v8) ++ [(0 : Int)]]), (7, .bool x1)] (by kernel_rfl) trivial ?_
      refine OpsW.nil ?_
      refine AW.block ?_
      refine AW.iterK (fun loop (s : Int) => f_L19_NumberHeadersMatchReference_b1 x1 v8 x18 loop s) r (fun (s : Int) => [(7, .bool x1), (16, slA (eL (eI .u8)) [v8, x18, (([] : List Int) ++ v8) ++ [(0 : Int)]]), (17, .int .i64 s)]) (fun (s : Int) => []) ?_ 1000000 (0 : Int) H (StC.pure (.cons .im (.cons .im (.cons .im .nil))))
      intro loop20 v19 H
      change f_L19_NumberHeadersMatchReference_b1 x1 v8 x18 loop20 v19 = some r at H
      unfold f_L19_NumberHeadersMatchReference_b1 at H
      change AW _ _ _ [(7, .bool x1), (16, slA (eL (eI .u8)) [v8, x18, (([] : List Int) ++ v8) ++ [(0 : Int)]]), (17, .int .i64 v19)] [] _
      refine AW.seq ?_
      refine AW.regionSeq ?_
      refine OpsW.seg 2 [85, 7, 16, 17] [] [(85, .bool (decide (v19 < (3 : Int)))), (7, .bool x1), (16, slA (eL (eI .u8)) [v8, x18, (([] : List Int) ++ v8) ++ [(0 : Int)]]), (17, .int .i64 v19)] (by kernel_rfl) trivial ?_
      refine OpsW.nil ?_
      refine AW.cond (b := decide (v19 < (3 : Int))) rfl (fun c21 => ?_) (fun c21 => ?_)
      · replace H := condT c21 H
        refine AW.skip ?_
        refine AW.seq ?_
        refine AW.block ?_
        refine AW.regionSeq ?_
        obtain ⟨g22, H⟩ := G_some H
        refine OpsW.seg 3 [91, 7, 16, 17] [0 ≤ v19 ∧ v19 < ([v8, x18, (([] : List Int) ++ v8) ++ [(0 : Int)]].length : Int)] [(91, .ipt ([v8, x18, (([] : List Int) ++ v8) ++ [(0 : Int)]].flatMap (eL (eI .u8))) (v19.toNat * 1)), (7, .bool x1), (16, slA (eL (eI .u8)) [v8, x18, (([] : List Int) ++ v8) ++ [(0 : Int)]]), (17, .int .i64 v19)] (by kernel_rfl) ⟨g22, trivial⟩ ?_
        refine OpsW.asU (slA (eI .u8) ([v8, x18, (([] : List Int) ++ v8) ++ [(0 : Int)]].getD v19.toNat [])) rfl rfl (T.load rfl trivial (by kernel_rfl) (fm_cell0 (eL (eI .u8)) 1 (fun _ => rfl) [v8, x18, (([] : List Int) ++ v8) ++ [(0 : Int)]] [] v19.toNat (ltN g22) (fun a => .sl (a.flatMap (eI .u8)) a.length) (fun _ => rfl))) ?_
        obtain ⟨x23, hx23, H⟩ := bindS H
        refine OpsW.qcall rfl (by kernel_rfl) rfl rfl (glAll_sound trivial) (.cons (.pur rfl) .nil) (f_number_ReadHeader_ok hx23) rfl ?_
        refine OpsW.seg 3 [95, 94, 7, 16, 17] [] [(95, .int .i64 x23.2), (94, .agg [.int .i64 x23.1.Width, .int .i64 x23.1.Label.N, .int .i64 x23.1.Label.K, .bool x23.1.Back, .int .i64 x23.1.Ink, .int .i64 x23.1.Part]), (7, .bool x1), (16, slA (eL (eI .u8)) [v8, x18, (([] : List Int) ++ v8) ++ [(0 : Int)]]), (17, .int .i64 v19)] (by kernel_rfl) trivial ?_
        refine OpsW.alloc' rfl rfl rfl 18 rfl (by kernel_rfl : zc Tryd.prog 48 = some [.int .i64 0, .int .i64 0, .int .i64 0, .bool false, .int .i64 0, .int .i64 0]) (by kernel_rfl) ?_
        refine OpsW.store rfl rfl rfl rfl trivial trivial rfl rfl rfl (by kernel_rfl) (okCb_sound (by kernel_rfl)) (Nat.le_of_ble_eq_true (by kernel_rfl)) ?_
        change OpsW _ _ _ _ _ [(18, ⟨0, true, 48, 6, [.int .i64 x23.1.Width, .int .i64 x23.1.Label.N, .int .i64 x23.1.Label.K, .bool x23.1.Back, .int .i64 x23.1.Ink, .int .i64 x23.1.Part]⟩), (18, ⟨0, true, 48, 6, [.int .i64 (0 : Int), .int .i64 (0 : Int), .int .i64 (0 : Int), .bool false, .int .i64 (0 : Int), .int .i64 (0 : Int)]⟩)] _
        refine OpsW.seg 1 [19, 18, 7, 16, 17] [] [(19, .int .i64 x23.2), (18, .ref 18 0 0), (7, .bool x1), (16, slA (eL (eI .u8)) [v8, x18, (([] : List Int) ++ v8) ++ [(0 : Int)]]), (17, .int .i64 v19)] (by kernel_rfl) trivial ?_
        refine OpsW.recast (env' := [(19, .int .i64 x23.2), (18, .ref 18 0 0), (7, .bool x1), (16, slA (eL (eI .u8)) [v8, x18, (([] : List Int) ++ v8) ++ [(0 : Int)]]), (17, .int .i64 v19)]) (h' := [(18, ⟨0, true, 48, 6, [.int .i64 x23.1.Width, .int .i64 x23.1.Label.N, .int .i64 x23.1.Label.K, .bool x23.1.Back, .int .i64 x23.1.Ink, .int .i64 x23.1.Part]⟩)]) (StC.mk (phi [(18, some 18)]) (.old rfl rfl rfl rfl rfl (.cons .im (.cons .im (.cons .im (.cons .im (.cons .im (.cons .im .nil)))))) .nil) rfl (.cons .im (.cons (.ref rfl rfl rfl rfl rfl) (.cons .im (.cons .im (.cons .im .nil)))))) ?_
        refine OpsW.nil ?_
        refine AW.regionSeq ?_
        refine OpsW.seg 3 [99, 19, 18, 7, 16, 17] [0 ≤ v19 ∧ v19 < ([v8, x18, (([] : List Int) ++ v8) ++ [(0 : Int)]].length : Int)] [(99, .ipt ([v8, x18, (([] : List Int) ++ v8) ++ [(0 : Int)]].flatMap (eL (eI .u8))) (v19.toNat * 1)), (19, .int .i64 x23.2), (18, .ref 18 0 0), (7, .bool x1), (16, slA (eL (eI .u8)) [v8, x18, (([] : List Int) ++ v8) ++ [(0 : Int)]]), (17, .int .i64 v19)] (by kernel_rfl) ⟨g22, trivial⟩ ?_
        refine OpsW.asU (slA (eI .u8) ([v8, x18, (([] : List Int) ++ v8) ++ [(0 : Int)]].getD v19.toNat [])) rfl rfl (T.load rfl trivial (by kernel_rfl) (fm_cell0 (eL (eI .u8)) 1 (fun _ => rfl) [v8, x18, (([] : List Int) ++ v8) ++ [(0 : Int)]] [] v19.toNat (ltN g22) (fun a => .sl (a.flatMap (eI .u8)) a.length) (fun _ => rfl))) ?_
        obtain ⟨x24, hx24, H⟩ := bindS H
        refine OpsW.qcall rfl (by kernel_rfl) rfl rfl (glAll_sound trivial) (.cons (.pur rfl) .nil) (f_R19_ReadHeader_ok hx24) rfl ?_
        refine OpsW.seg 3 [103, 102, 19, 18, 7, 16, 17] [] [(103, .int .i64 x24.2), (102, .agg [.int .i64 x24.1.Width, .int .i64 x24.1.Label.N, .int .i64 x24.1.Label.K, .bool x24.1.Back, .int .i64 x24.1.Ink, .int .i64 x24.1.Part]), (19, .int .i64 x23.2), (18, .ref 18 0 0), (7, .bool x1), (16, slA (eL (eI .u8)) [v8, x18, (([] : List Int) ++ v8) ++ [(0 : Int)]]), (17, .int .i64 v19)] (by kernel_rfl) trivial ?_
        refine OpsW.alloc' rfl rfl rfl 20 rfl (by kernel_rfl : zc Tryd.prog 48 = some [.int .i64 0, .int .i64 0, .int .i64 0, .bool false, .int .i64 0, .int .i64 0]) (by kernel_rfl) ?_
        refine OpsW.store rfl rfl rfl rfl trivial trivial rfl rfl rfl (by kernel_rfl) (okCb_sound (by kernel_rfl)) (Nat.le_of_ble_eq_true (by kernel_rfl)) ?_
        change OpsW _ _ _ _ _ [(20, ⟨0, true, 48, 6, [.int .i64 x24.1.Width, .int .i64 x24.1.Label.N, .int .i64 x24.1.Label.K, .bool x24.1.Back, .int .i64 x24.1.Ink, .int .i64 x24.1.Part]⟩), (20, ⟨0, true, 48, 6, [.int .i64 (0 : Int), .int .i64 (0 : Int), .int .i64 (0 : Int), .bool false, .int .i64 (0 : Int), .int .i64 (0 : Int)]⟩), (18, ⟨0, true, 48, 6, [.int .i64 x23.1.Width, .int .i64 x23.1.Label.N, .int .i64 x23.1.Label.K, .bool x23.1.Back, .int .i64 x23.1.Ink, .int .i64 x23.1.Part]⟩)] _
        refine OpsW.seg 1 [21, 20, 19, 18, 7, 16, 17] [] [(21, .int .i64 x24.2), (20, .ref 20 0 0), (19, .int .i64 x23.2), (18, .ref 18 0 0), (7, .bool x1), (16, slA (eL (eI .u8)) [v8, x18, (([] : List Int) ++ v8) ++ [(0 : Int)]]), (17, .int .i64 v19)] (by kernel_rfl) trivial ?_
        refine OpsW.recast (env' := [(21, .int .i64 x24.2), (20, .ref 20 0 0), (19, .int .i64 x23.2), (18, .ref 18 0 0), (7, .bool x1), (16, slA (eL (eI .u8)) [v8, x18, (([] : List Int) ++ v8) ++ [(0 : Int)]]), (17, .int .i64 v19)]) (h' := [(18, ⟨0, true, 48, 6, [.int .i64 x23.1.Width, .int .i64 x23.1.Label.N, .int .i64 x23.1.Label.K, .bool x23.1.Back, .int .i64 x23.1.Ink, .int .i64 x23.1.Part]⟩), (20, ⟨0, true, 48, 6, [.int .i64 x24.1.Width, .int .i64 x24.1.Label.N, .int .i64 x24.1.Label.K, .bool x24.1.Back, .int .i64 x24.1.Ink, .int .i64 x24.1.Part]⟩)]) (StC.mk (phi [(18, some 18), (20, some 20)]) (.old rfl rfl rfl rfl rfl (.cons .im (.cons .im (.cons .im (.cons .im (.cons .im (.cons .im .nil)))))) (.old rfl rfl rfl rfl rfl (.cons .im (.cons .im (.cons .im (.cons .im (.cons .im (.cons .im .nil)))))) .nil)) rfl (.cons .im (.cons (.ref rfl rfl rfl rfl rfl) (.cons .im (.cons (.ref rfl rfl rfl rfl rfl) (.cons .im (.cons .im (.cons .im .nil)))))))) ?_
        refine OpsW.nil ?_
        refine AW.regionSeq ?_
        refine OpsW.seg 2 [105, 104, 21, 19, 7, 16, 17] [] [(105, .agg [.int .i64 x24.1.Width, .int .i64 x24.1.Label.N, .int .i64 x24.1.Label.K, .bool x24.1.Back, .int .i64 x24.1.Ink, .int .i64 x24.1.Part]), (104, .agg [.int .i64 x23.1.Width, .int .i64 x23.1.Label.N, .int .i64 x23.1.Label.K, .bool x23.1.Back, .int .i64 x23.1.Ink, .int .i64 x23.1.Part]), (21, .int .i64 x24.2), (19, .int .i64 x23.2), (7, .bool x1), (16, slA (eL (eI .u8)) [v8, x18, (([] : List Int) ++ v8) ++ [(0 : Int)]]), (17, .int .i64 v19)] (by kernel_rfl) trivial ?_
        refine OpsW.quietU (.bool (xor true ([x23.1.Width == x24.1.Width, x23.1.Label.N == x24.1.Label.N, x23.1.Label.K == x24.1.Label.K, x23.1.Back == x24.1.Back, x23.1.Ink == x24.1.Ink, x23.1.Part == x24.1.Part].all id))) rfl rfl (Quiet.eqAgg [.int .i64 x23.1.Width, .int .i64 x23.1.Label.N, .int .i64 x23.1.Label.K, .bool x23.1.Back, .int .i64 x23.1.Ink, .int .i64 x23.1.Part] [.int .i64 x24.1.Width, .int .i64 x24.1.Label.N, .int .i64 x24.1.Label.K, .bool x24.1.Back, .int .i64 x24.1.Ink, .int .i64 x24.1.Part] [x23.1.Width == x24.1.Width, x23.1.Label.N == x24.1.Label.N, x23.1.Label.K == x24.1.Label.K, x23.1.Back == x24.1.Back, x23.1.Ink == x24.1.Ink, x23.1.Part == x24.1.Part] true rfl rfl (by kernel_rfl) (by kernel_rfl) (gpoU rfl ⟨trivial, rfl, trivial, rfl⟩)) ?_
        refine OpsW.seg 5 [111, 7, 16, 17] [(!(xor true ([x23.1.Width == x24.1.Width, x23.1.Label.N == x24.1.Label.N, x23.1.Label.K == x24.1.Label.K, x23.1.Back == x24.1.Back, x23.1.Ink == x24.1.Ink, x23.1.Part == x24.1.Part].all id))) = true → (!(xor true ([x23.1.Width == x24.1.Width, x23.1.Label.N == x24.1.Label.N, x23.1.Label.K == x24.1.Label.K, x23.1.Back == x24.1.Back, x23.1.Ink == x24.1.Ink, x23.1.Part == x24.1.Part].all id))) = true, (!(xor true ([x23.1.Width == x24.1.Width, x23.1.Label.N == x24.1.Label.N, x23.1.Label.K == x24.1.Label.K, x23.1.Back == x24.1.Back, x23.1.Ink == x24.1.Ink, x23.1.Part == x24.1.Part].all id))) = true → (!(xor true ([x23.1.Width == x24.1.Width, x23.1.Label.N == x24.1.Label.N, x23.1.Label.K == x24.1.Label.K, x23.1.Back == x24.1.Back, x23.1.Ink == x24.1.Ink, x23.1.Part == x24.1.Part].all id))) = true, (xor true ([x23.1.Width == x24.1.Width, x23.1.Label.N == x24.1.Label.N, x23.1.Label.K == x24.1.Label.K, x23.1.Back == x24.1.Back, x23.1.Ink == x24.1.Ink, x23.1.Part == x24.1.Part].all id)) = false → (!(xor true ([x23.1.Width == x24.1.Width, x23.1.Label.N == x24.1.Label.N, x23.1.Label.K == x24.1.Label.K, x23.1.Back == x24.1.Back, x23.1.Ink == x24.1.Ink, x23.1.Part == x24.1.Part].all id))) = true] [(111, .bool (cond (xor true ([x23.1.Width == x24.1.Width, x23.1.Label.N == x24.1.Label.N, x23.1.Label.K == x24.1.Label.K, x23.1.Back == x24.1.Back, x23.1.Ink == x24.1.Ink, x23.1.Part == x24.1.Part].all id)) true (x23.2 != x24.2))), (7, .bool x1), (16, slA (eL (eI .u8)) [v8, x18, (([] : List Int) ++ v8) ++ [(0 : Int)]]), (17, .int .i64 v19)] (by kernel_rfl) ⟨(fun h => h), (fun h => h), (fun h => by first | exact h | simpa using h), trivial⟩ ?_
        refine OpsW.nil ?_
        refine AW.cond (b := cond (xor true ([x23.1.Width == x24.1.Width, x23.1.Label.N == x24.1.Label.N, x23.1.Label.K == x24.1.Label.K, x23.1.Back == x24.1.Back, x23.1.Ink == x24.1.Ink, x23.1.Part == x24.1.Part].all id)) true (x23.2 != x24.2)) rfl (fun c25 => ?_) (fun c25 => ?_)
        · replace H := condT c25 H
          refine AW.regionSeq ?_
          refine OpsW.seg 1 [6] [] [(6, .bool false)] (by kernel_rfl) trivial ?_
          refine OpsW.nil ?_
          obtain rfl := Option.some.inj H
          refine AW.recast (env' := [(6, .bool false)]) (h' := []) (StC.pure (.cons .im .nil)) ?_
          refine AW.ret ?_
          try simp only [Ex.then, Ex.inBlock, Ex.noGoto, Ex.jump, reduceIte, Nat.reduceEqDiff, reduceCtorEq]
          refine Done.gen rfl (.tmp .nil) ?_
          show _ = _
          kernel_rfl
        · replace H := condF c25 H
          refine AW.skip ?_
          refine AW.region ?_
          obtain ⟨g26, H⟩ := G_some H
          refine OpsW.seg 3 [17, 7, 16] [inR (v19 + (1 : Int))] [(17, .int .i64 (v19 + (1 : Int))), (7, .bool x1), (16, slA (eL (eI .u8)) [v8, x18, (([] : List Int) ++ v8) ++ [(0 : Int)]])] (by kernel_rfl) ⟨g26, trivial⟩ ?_
          refine OpsW.nil ?_
          show ∃ y, _ ∧ StC _ _ _ _
          exact ⟨v19 + (1 : Int), H, (StC.pure (.cons .im (.cons .im (.cons .im .nil))))⟩
      · replace H := condF c21 H
        refine AW.exit ?_
        refine AW.regionSeq ?_
        refine OpsW.seg 2 [6] [] [(6, .bool x1)] (by kernel_rfl) trivial ?_
        refine OpsW.nil ?_
        obtain rfl := Option.some.inj H
        refine AW.recast (env' := [(6, .bool x1)]) (h' := []) (StC.pure (.cons .im .nil)) ?_
        refine AW.ret ?_
        try simp only [Ex.then, Ex.inBlock, Ex.noGoto, Ex.jump, reduceIte, Nat.reduceEqDiff, reduceCtorEq]
        refine Done.gen rfl (.tmp .nil) ?_
        show _ = _
        kernel_rfl
end Go.Proofs.YtlcoabpgknpaoaaDoor
