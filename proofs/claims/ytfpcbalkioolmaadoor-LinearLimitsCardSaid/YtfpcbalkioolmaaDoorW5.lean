/-
  Written by gen.py (own work): typed functions, and that the program computes them.
-/
import Derived.Test.YtfpcbalkioolmaaDoorW4
import Derived.Test.YtfpcbalkioolmaaDoorRd
set_option linter.unusedSimpArgs false
set_option linter.unusedVariables false
set_option maxRecDepth 100000
namespace Go.Proofs.YtfpcbalkioolmaaDoor
open Go.Abs
def f_linear_Write (t0 : List S_Node) : Option ((List Int) × Int) :=
  (f_formula_Valid t0).bind fun x1 =>
  cond (!x1) (
    some ([], (90 : Int))) (
    (f_linear_brackets).bind fun x3 =>
    (f_linear_writer_node (⟨t0, (0 : Int), ([] : List Int), ([] : List Int), ()⟩ : S_writer)).bind fun x4 =>
    some (x4.cells_, (0 : Int)))
theorem f_linear_Write_ok  {t0 : List S_Node} {r : (List Int) × Int} (H : f_linear_Write t0 = some r) : QSpec Tryd.prog 11 [slA eS_Node t0] (.tup [slA (eI .u8) r.1, .int .i64 r.2]) := by
  refine Spec.of_AW Tryd.func11 rfl (by simp [Tryd.ntmps11]) ?_
  rw [Tryd.ntmps11]
  unfold f_linear_Write at H
  change AW _ _ _ [(0, slA eS_Node t0)] [] _
  refine AW.regionSeq ?_
  refine OpsW.seg 2 [0] [] [(0, slA eS_Node t0)] (by kernel_rfl) trivial ?_
  refine OpsW.nil ?_
  refine AW.seq ?_
  refine AW.regionSeq ?_
  refine OpsW.seg 1 [5, 0] [] [(5, slA eS_Node t0), (0, slA eS_Node t0)] (by kernel_rfl) trivial ?_
  obtain ⟨x1, hx1, H⟩ := bindS H
  refine OpsW.qcall rfl (by kernel_rfl) rfl rfl (glAll_sound trivial) (.cons (.pur rfl) .nil) (f_formula_Valid_ok hx1) rfl ?_
  refine OpsW.seg 1 [7, 0] [] [(7, .bool (!x1)), (0, slA eS_Node t0)] (by kernel_rfl) trivial ?_
  refine OpsW.nil ?_
  refine AW.cond (b := !x1) rfl (fun c2 => ?_) (fun c2 => ?_)
  · replace H := condT c2 H
    refine AW.regionSeq ?_
    refine OpsW.seg 2 [3, 2] [] [(3, .int .i64 90), (2, .im (.val (.slice none 0 0)))] (by kernel_rfl) trivial ?_
    refine OpsW.nil ?_
    obtain rfl := Option.some.inj H
    refine AW.recast (env' := [(2, slA (eI .u8) []), (3, .int .i64 90)]) (h' := []) (StC.pure (.cons .nil (.cons .im .nil))) ?_
    refine AW.ret ?_
    try simp only [Ex.then, Ex.inBlock, Ex.noGoto, Ex.jump, reduceIte, Nat.reduceEqDiff, reduceCtorEq]
    refine Done.gen rfl (.tmp (.tmp .nil)) ?_
    show _ = _
    kernel_rfl
  · replace H := condF c2 H
    refine AW.skip ?_
    refine AW.regionSeq ?_
    refine OpsW.seg 1 [8] [] [(8, slA eS_Node t0)] (by kernel_rfl) trivial ?_
    obtain ⟨x3, hx3, H⟩ := bindS H
    refine OpsW.qcall rfl (by kernel_rfl) rfl rfl (glAll_sound trivial) .nil (f_linear_brackets_ok hx3) rfl ?_
    refine OpsW.seg 1 [10] [] [(10, .agg [slA eS_Node t0, .int .i64 0, .im (.val (.slice none 0 0)), .im (.val (.slice none 0 0)), .im (.mp (mapV brTab))])] (by kernel_rfl) trivial ?_
    refine OpsW.alloc' rfl rfl rfl 4 rfl (by kernel_rfl : zc Tryd.prog 58 = some [.slice none 0 0, .int .i64 0, .slice none 0 0, .slice none 0 0, .map none]) (by kernel_rfl) ?_
    refine OpsW.store rfl rfl rfl rfl trivial trivial rfl rfl rfl (by kernel_rfl) (okCb_sound (by kernel_rfl)) (Nat.le_of_ble_eq_true (by kernel_rfl)) ?_
    change OpsW _ _ _ _ _ [(4, ⟨0, true, 58, 5, [slA eS_Node t0, .int .i64 0, .im (.val (.slice none 0 0)), .im (.val (.slice none 0 0)), .im (.mp (mapV brTab))]⟩), (4, ⟨0, true, 58, 5, [.im (.val (.slice none 0 0)), .int .i64 0, .im (.val (.slice none 0 0)), .im (.val (.slice none 0 0)), .im (.val (.map none))]⟩)] _
    refine OpsW.seg 0 [4] [] [(4, .ref 4 0 0)] (by kernel_rfl) trivial ?_
    refine OpsW.recast (env' := [(4, .ref 4 0 0)]) (h' := [(4, ⟨0, true, 58, 5, [slA eS_Node t0, .int .i64 0, .im (.val (.slice none 0 0)), .im (.val (.slice none 0 0)), .im (.mp (mapV brTab))]⟩)]) (StC.mk (phi [(4, some 4)]) (.old rfl rfl rfl rfl rfl (.cons .im (.cons .im (.cons .im (.cons .im (.cons .im .nil))))) .nil) rfl (.cons (.ref rfl rfl rfl rfl rfl) .nil)) ?_
    refine OpsW.nil ?_
    refine AW.regionSeq ?_
    refine OpsW.recast (env' := [(4, .ref 4 0 0)]) (h' := [(4, ⟨0, true, 58, 5, [slA eS_Node t0, .int .i64 0, .rsl 5040 0 0 0, .rsl 5041 0 0 0, .im (.mp (mapV brTab))]⟩), (5040, rtA 0 33 1 (eI .u8) ([] : List Int)), (5041, rtA 0 33 1 (eI .u8) ([] : List Int))]) (StC.mk (phi [(4, some 4), (5040, none), (5041, none)]) (.old rfl rfl rfl rfl rfl (.cons .im (.cons .im (.cons (.nilr rfl rfl rfl) (.cons (.nilr rfl rfl rfl) (.cons .im .nil))))) (.new rfl (.new rfl .nil))) rfl (.cons (.ref rfl rfl rfl rfl rfl) .nil)) ?_
    obtain ⟨x4, hx4, H⟩ := bindS H
    change OpsW _ _ _ _ [(4, .ref 4 0 0)] ([(4, ⟨0, true, 58, 5, [slA eS_Node t0, .int .i64 0, .rsl 5040 0 0 0, .rsl 5041 0 0 0, .im (.mp (mapV brTab))]⟩), (5040, rtA 0 33 1 (eI .u8) ([] : List Int)), (5041, rtA 0 33 1 (eI .u8) ([] : List Int))] ++ []) _
    refine OpsW.callR [(4, ⟨0, true, 58, 5, [slA eS_Node t0, .int .i64 0, .rsl 5040 0 0 0, .rsl 5041 0 0 0, .im (.mp (mapV brTab))]⟩), (5040, rtA 0 33 1 (eI .u8) ([] : List Int)), (5041, rtA 0 33 1 (eI .u8) ([] : List Int))] [] [(2010, ⟨0, true, 58, 5, [slA eS_Node t0, .int .i64 0, .rsl 3010 0 0 0, .rsl 3011 0 0 0, .im (.mp (mapV brTab))]⟩), (3010, rtA 0 33 1 (eI .u8) ([] : List Int)), (3011, rtA 0 33 1 (eI .u8) ([] : List Int))] (phi [(2010, some 4), (3010, some 5040), (3011, some 5041)]) rfl rfl (by kernel_rfl) [.ref 2010 0 0] _ rfl (glAll_sound trivial) (.cons (.ref rfl rfl rfl rfl rfl) .nil) (f_linear_writer_node_io hx4) (fresh_of (by kernel_rfl)) (by kernel_rfl) (.cons rfl rfl rfl rfl rfl (.cons .im (.cons .im (.cons (.rsl rfl rfl rfl rfl rfl rfl) (.cons (.rsl rfl rfl rfl rfl rfl rfl) (.cons .im .nil))))) (.cons rfl rfl rfl rfl rfl (RnL.ims _) (.cons rfl rfl rfl rfl rfl (RnL.ims _) .nil))) ?_
    rintro _ _ ⟨rfl, rfl⟩
    refine ⟨.tup [], [(4, ⟨0, true, 58, 5, [slA eS_Node x4.f_, .int .i64 x4.at_, .rsl 5040 1 0 x4.level_.length, .rsl 5041 1 0 x4.cells_.length, .im (.mp (mapV brTab))]⟩), (5040, rtA 1 33 1 (eI .u8) x4.level_), (5041, rtA 1 33 1 (eI .u8) x4.cells_)], phi [(4, some 2010), (5040, some 3010), (5041, some 3011)], fresh_of (by kernel_rfl), by kernel_rfl, by kernel_rfl, (.cons rfl rfl rfl rfl rfl (.cons .im (.cons .im (.cons (.rsl rfl rfl rfl rfl rfl rfl) (.cons (.rsl rfl rfl rfl rfl rfl rfl) (.cons .im .nil))))) (.cons rfl rfl rfl rfl rfl (RnL.ims _) (.cons rfl rfl rfl rfl rfl (RnL.ims _) .nil))), (.tup .nil .nil), ?_⟩
    change OpsW _ _ _ _ [(11, .tup []), (4, .ref 4 0 0)] [(4, ⟨0, true, 58, 5, [slA eS_Node x4.f_, .int .i64 x4.at_, .rsl 5040 1 0 x4.level_.length, .rsl 5041 1 0 x4.cells_.length, .im (.mp (mapV brTab))]⟩), (5040, rtA 1 33 1 (eI .u8) x4.level_), (5041, rtA 1 33 1 (eI .u8) x4.cells_)] _
    refine OpsW.seg 0 [4] [] [(4, .ref 4 0 0)] (by kernel_rfl) trivial ?_
    refine OpsW.recast (env' := [(4, .ref 4 0 0)]) (h' := [(4, ⟨0, true, 58, 5, [slA eS_Node x4.f_, .int .i64 x4.at_, .rsl 5040 0 0 x4.level_.length, .rsl 5041 0 0 x4.cells_.length, .im (.mp (mapV brTab))]⟩), (5040, rtA 0 33 1 (eI .u8) x4.level_), (5041, rtA 0 33 1 (eI .u8) x4.cells_)]) (StC.mk (phi [(4, some 4), (5040, some 5040), (5041, some 5041)]) (.old rfl rfl rfl rfl rfl (.cons .im (.cons .im (.cons (.rsl rfl rfl rfl rfl rfl rfl) (.cons (.rsl rfl rfl rfl rfl rfl rfl) (.cons .im .nil))))) (.old rfl rfl rfl rfl rfl (CstL.ims _) (.old rfl rfl rfl rfl rfl (CstL.ims _) .nil))) rfl (.cons (.ref rfl rfl rfl rfl rfl) .nil)) ?_
    refine OpsW.nil ?_
    refine AW.regionSeq ?_
    refine OpsW.seg 4 [3, 2] [] [(3, .int .i64 0), (2, .rsl 5041 0 0 x4.cells_.length)] (by kernel_rfl) trivial ?_
    refine OpsW.recast (env' := [(3, .int .i64 0), (2, slA (eI .u8) x4.cells_)]) (h' := []) (StC.mk (phi []) .nil rfl (.cons .im (.cons (.frz rfl rfl rfl (frz_all (eI .u8) 1 (fun _ => rfl) x4.cells_) (fm_length (eI .u8) 1 (fun _ => rfl) x4.cells_) (phi_ne rfl)) .nil))) ?_
    refine OpsW.nil ?_
    obtain rfl := Option.some.inj H
    refine AW.recast (env' := [(2, slA (eI .u8) x4.cells_), (3, .int .i64 0)]) (h' := []) (StC.pure (.cons .im (.cons .im .nil))) ?_
    refine AW.ret ?_
    try simp only [Ex.then, Ex.inBlock, Ex.noGoto, Ex.jump, reduceIte, Nat.reduceEqDiff, reduceCtorEq]
    refine Done.gen rfl (.tmp (.tmp .nil)) ?_
    show _ = _
    kernel_rfl
def f_R10_Nested_b1 (t0 : Int) (loop10 : ((List Int) × Int) → Option (List Int)) (v8 : List Int) (v9 : Int) : Option (List Int) :=
  cond (decide (v9 < t0)) (
    G (room 1 (v8.length + 1)) <|
    G (inR (v9 + (1 : Int))) <|
    loop10 (v8 ++ [(62 : Int)], v9 + (1 : Int))) (
    some v8)
def f_R10_Nested_b2 (t0 : Int) (loop3 : ((List Int) × Int) → Option (List Int)) (v1 : List Int) (v2 : Int) : Option (List Int) :=
  cond (decide (v2 < t0)) (
    G (room 1 (v1.length + 1)) <|
    G (inR (v2 + (1 : Int))) <|
    loop3 (v1 ++ [(55 : Int)], v2 + (1 : Int))) (
    G (room 1 (v1.length + 2)) <|
    iter (fun loop (s : (List Int) × Int) => f_R10_Nested_b1 t0 loop s.1 s.2) 1000000 (v1 ++ [(48 : Int), (1 : Int)], (0 : Int)))
def f_R10_Nested (t0 : Int) : Option (List Int) :=
  iter (fun loop (s : (List Int) × Int) => f_R10_Nested_b2 t0 loop s.1 s.2) 1000000 (([] : List Int), (0 : Int))
theorem f_R10_Nested_ok  {t0 : Int} {r : List Int} (H : f_R10_Nested t0 = some r) : QSpec Tryd.prog 19 [.int .i64 t0] (slA (eI .u8) r) := by
  refine Spec.of_AW Tryd.func19 rfl (by simp [Tryd.ntmps19]) ?_
  rw [Tryd.ntmps19]
  unfold f_R10_Nested at H
  change AW _ _ _ [(0, .int .i64 t0)] [] _
  refine AW.regionSeq ?_
  refine OpsW.seg 1 [0] [] [(0, .int .i64 t0)] (by kernel_rfl) trivial ?_
  refine OpsW.nil ?_
  refine AW.regionSeq ?_
  refine OpsW.buildT (enc := eI .u8) ([] : List Int) rfl rfl rfl 6 rfl E28 (fun _ => rfl) (by decide) trivial (by kernel_rfl) (by kernel_rfl) (by kernel_rfl) rfl ?_
  refine OpsW.seg 1 [3, 0] [] [(3, .rsl 6 0 0 (([] : List Int).length)), (0, .int .i64 t0)] (by kernel_rfl) trivial ?_
  refine OpsW.recast (env' := [(3, .rsl 3 0 0 (([] : List Int).length)), (0, .int .i64 t0)]) (h' := [(3, rtA 0 33 1 (eI .u8) ([] : List Int))]) (StC.mk (phi [(3, some 6)]) (.old rfl rfl rfl rfl rfl (CstL.ims _) .nil) rfl (.cons (.rsl rfl rfl rfl rfl rfl rfl) (.cons .im .nil))) ?_
  refine OpsW.nil ?_
  refine AW.seq ?_
  refine AW.regionSeq ?_
  refine OpsW.seg 1 [4, 3, 0] [] [(4, .int .i64 0), (3, .rsl 3 0 0 (([] : List Int).length)), (0, .int .i64 t0)] (by kernel_rfl) trivial ?_
  refine OpsW.nil ?_
  refine AW.block ?_
  refine AW.iterK (fun loop (s : (List Int) × Int) => f_R10_Nested_b2 t0 loop s.1 s.2) r (fun (s : (List Int) × Int) => [(0, .int .i64 t0), (3, .rsl 3 0 0 s.1.length), (4, .int .i64 s.2)]) (fun (s : (List Int) × Int) => [(3, rtA 0 33 1 (eI .u8) s.1)]) ?_ 1000000 (([] : List Int), (0 : Int)) H (StC.mk (phi [(3, some 3)]) (.old rfl rfl rfl rfl rfl (CstL.ims _) .nil) rfl (.cons .im (.cons (.rsl rfl rfl rfl rfl rfl rfl) (.cons .im .nil))))
  intro loop3 s H
  obtain ⟨v1, v2⟩ := s
  change f_R10_Nested_b2 t0 loop3 v1 v2 = some r at H
  unfold f_R10_Nested_b2 at H
  change AW _ _ _ [(0, .int .i64 t0), (3, .rsl 3 0 0 v1.length), (4, .int .i64 v2)] [(3, rtA 0 33 1 (eI .u8) v1)] _
  refine AW.seq ?_
  refine AW.regionSeq ?_
  refine OpsW.seg 3 [9, 0, 3, 4] [] [(9, .bool (decide (v2 < t0))), (0, .int .i64 t0), (3, .rsl 3 0 0 v1.length), (4, .int .i64 v2)] (by kernel_rfl) trivial ?_
  refine OpsW.nil ?_
  refine AW.cond (b := decide (v2 < t0)) rfl (fun c4 => ?_) (fun c4 => ?_)
  · replace H := condT c4 H
    refine AW.skip ?_
    refine AW.seq ?_
    refine AW.block ?_
    refine AW.region ?_
    refine OpsW.seg 1 [12, 0, 3, 4] [] [(12, .rsl 3 0 0 v1.length), (0, .int .i64 t0), (3, .rsl 3 0 0 v1.length), (4, .int .i64 v2)] (by kernel_rfl) trivial ?_
    obtain ⟨g5, H⟩ := G_some H
    refine OpsW.appendLF (enc := eI .u8) [(55 : Int)] rfl rfl rfl (by decide) rfl rfl rfl (by simp) E28 (fun _ => rfl) (by decide) trivial (by kernel_rfl) (by kernel_rfl) (by kernel_rfl) rfl rfl rfl g5 ?_
    refine OpsW.seg 1 [3, 0, 4] [] [(3, .rsl 3 1 0 ((v1 ++ [(55 : Int)]).length)), (0, .int .i64 t0), (4, .int .i64 v2)] (by kernel_rfl) trivial ?_
    refine OpsW.recast (env' := [(3, .rsl 3 0 0 ((v1 ++ [(55 : Int)]).length)), (0, .int .i64 t0), (4, .int .i64 v2)]) (h' := [(3, rtA 0 33 1 (eI .u8) (v1 ++ [(55 : Int)]))]) (StC.mk (phi [(3, some 3)]) (.old rfl rfl rfl rfl rfl (CstL.ims _) .nil) rfl (.cons (.rsl rfl rfl rfl rfl rfl rfl) (.cons .im (.cons .im .nil)))) ?_
    refine OpsW.nil ?_
    refine AW.region ?_
    obtain ⟨g6, H⟩ := G_some H
    refine OpsW.seg 3 [4, 3, 0] [inR (v2 + (1 : Int))] [(4, .int .i64 (v2 + (1 : Int))), (3, .rsl 3 0 0 ((v1 ++ [(55 : Int)]).length)), (0, .int .i64 t0)] (by kernel_rfl) ⟨g6, trivial⟩ ?_
    refine OpsW.nil ?_
    show ∃ y, _ ∧ StC _ _ _ _
    exact ⟨(v1 ++ [(55 : Int)], v2 + (1 : Int)), H, (StC.mk (phi [(3, some 3)]) (.old rfl rfl rfl rfl rfl (CstL.ims _) .nil) rfl (.cons .im (.cons (.rsl rfl rfl rfl rfl rfl rfl) (.cons .im .nil))))⟩
  · replace H := condF c4 H
    refine AW.exit ?_
    refine AW.regionSeq ?_
    refine OpsW.seg 1 [15, 0, 3] [] [(15, .rsl 3 0 0 v1.length), (0, .int .i64 t0), (3, .rsl 3 0 0 v1.length)] (by kernel_rfl) trivial ?_
    obtain ⟨g7, H⟩ := G_some H
    refine OpsW.appendLF (enc := eI .u8) [(48 : Int), (1 : Int)] rfl rfl rfl (by decide) rfl rfl rfl (by simp) E28 (fun _ => rfl) (by decide) trivial (by kernel_rfl) (by kernel_rfl) (by kernel_rfl) rfl rfl rfl g7 ?_
    refine OpsW.seg 1 [3, 0] [] [(3, .rsl 3 1 0 ((v1 ++ [(48 : Int), (1 : Int)]).length)), (0, .int .i64 t0)] (by kernel_rfl) trivial ?_
    refine OpsW.recast (env' := [(3, .rsl 3 0 0 ((v1 ++ [(48 : Int), (1 : Int)]).length)), (0, .int .i64 t0)]) (h' := [(3, rtA 0 33 1 (eI .u8) (v1 ++ [(48 : Int), (1 : Int)]))]) (StC.mk (phi [(3, some 3)]) (.old rfl rfl rfl rfl rfl (CstL.ims _) .nil) rfl (.cons (.rsl rfl rfl rfl rfl rfl rfl) (.cons .im .nil))) ?_
    refine OpsW.nil ?_
    refine AW.seq ?_
    refine AW.regionSeq ?_
    refine OpsW.seg 1 [5, 3, 0] [] [(5, .int .i64 0), (3, .rsl 3 0 0 ((v1 ++ [(48 : Int), (1 : Int)]).length)), (0, .int .i64 t0)] (by kernel_rfl) trivial ?_
    refine OpsW.nil ?_
    refine AW.block ?_
    refine AW.iterK (fun loop (s : (List Int) × Int) => f_R10_Nested_b1 t0 loop s.1 s.2) r (fun (s : (List Int) × Int) => [(0, .int .i64 t0), (3, .rsl 3 0 0 s.1.length), (5, .int .i64 s.2)]) (fun (s : (List Int) × Int) => [(3, rtA 0 33 1 (eI .u8) s.1)]) ?_ 1000000 (v1 ++ [(48 : Int), (1 : Int)], (0 : Int)) H (StC.mk (phi [(3, some 3)]) (.old rfl rfl rfl rfl rfl (CstL.ims _) .nil) rfl (.cons .im (.cons (.rsl rfl rfl rfl rfl rfl rfl) (.cons .im .nil))))
    intro loop10 s H
    obtain ⟨v8, v9⟩ := s
    change f_R10_Nested_b1 t0 loop10 v8 v9 = some r at H
    unfold f_R10_Nested_b1 at H
    change AW _ _ _ [(0, .int .i64 t0), (3, .rsl 3 0 0 v8.length), (5, .int .i64 v9)] [(3, rtA 0 33 1 (eI .u8) v8)] _
    refine AW.seq ?_
    refine AW.regionSeq ?_
    refine OpsW.seg 3 [20, 0, 3, 5] [] [(20, .bool (decide (v9 < t0))), (0, .int .i64 t0), (3, .rsl 3 0 0 v8.length), (5, .int .i64 v9)] (by kernel_rfl) trivial ?_
    refine OpsW.nil ?_
    refine AW.cond (b := decide (v9 < t0)) rfl (fun c11 => ?_) (fun c11 => ?_)
    · replace H := condT c11 H
      refine AW.skip ?_
      refine AW.seq ?_
      refine AW.block ?_
      refine AW.region ?_
      refine OpsW.seg 1 [23, 0, 3, 5] [] [(23, .rsl 3 0 0 v8.length), (0, .int .i64 t0), (3, .rsl 3 0 0 v8.length), (5, .int .i64 v9)] (by kernel_rfl) trivial ?_
      obtain ⟨g12, H⟩ := G_some H
      refine OpsW.appendLF (enc := eI .u8) [(62 : Int)] rfl rfl rfl (by decide) rfl rfl rfl (by simp) E28 (fun _ => rfl) (by decide) trivial (by kernel_rfl) (by kernel_rfl) (by kernel_rfl) rfl rfl rfl g12 ?_
      refine OpsW.seg 1 [3, 0, 5] [] [(3, .rsl 3 1 0 ((v8 ++ [(62 : Int)]).length)), (0, .int .i64 t0), (5, .int .i64 v9)] (by kernel_rfl) trivial ?_
      refine OpsW.recast (env' := [(3, .rsl 3 0 0 ((v8 ++ [(62 : Int)]).length)), (0, .int .i64 t0), (5, .int .i64 v9)]) (h' := [(3, rtA 0 33 1 (eI .u8) (v8 ++ [(62 : Int)]))]) (StC.mk (phi [(3, some 3)]) (.old rfl rfl rfl rfl rfl (CstL.ims _) .nil) rfl (.cons (.rsl rfl rfl rfl rfl rfl rfl) (.cons .im (.cons .im .nil)))) ?_
      refine OpsW.nil ?_
      refine AW.region ?_
      obtain ⟨g13, H⟩ := G_some H
      refine OpsW.seg 3 [5, 3, 0] [inR (v9 + (1 : Int))] [(5, .int .i64 (v9 + (1 : Int))), (3, .rsl 3 0 0 ((v8 ++ [(62 : Int)]).length)), (0, .int .i64 t0)] (by kernel_rfl) ⟨g13, trivial⟩ ?_
      refine OpsW.nil ?_
      show ∃ y, _ ∧ StC _ _ _ _
      exact ⟨(v8 ++ [(62 : Int)], v9 + (1 : Int)), H, (StC.mk (phi [(3, some 3)]) (.old rfl rfl rfl rfl rfl (CstL.ims _) .nil) rfl (.cons .im (.cons (.rsl rfl rfl rfl rfl rfl rfl) (.cons .im .nil))))⟩
    · replace H := condF c11 H
      refine AW.exit ?_
      refine AW.regionSeq ?_
      refine OpsW.seg 2 [2] [] [(2, .rsl 3 0 0 v8.length)] (by kernel_rfl) trivial ?_
      refine OpsW.recast (env' := [(2, slA (eI .u8) v8)]) (h' := []) (StC.mk (phi []) .nil rfl (.cons (.frz rfl rfl rfl (frz_all (eI .u8) 1 (fun _ => rfl) v8) (fm_length (eI .u8) 1 (fun _ => rfl) v8) (phi_ne rfl)) .nil)) ?_
      refine OpsW.nil ?_
      obtain rfl := Option.some.inj H
      refine AW.recast (env' := [(2, slA (eI .u8) v8)]) (h' := []) (StC.pure (.cons .im .nil)) ?_
      refine AW.ret ?_
      try simp only [Ex.then, Ex.inBlock, Ex.noGoto, Ex.jump, reduceIte, Nat.reduceEqDiff, reduceCtorEq]
      refine Done.gen rfl (.tmp .nil) ?_
      show _ = _
      kernel_rfl
def f_L10_LinearLimits_k1 (t1 : List S_Node) (x1 : Bool) : Option Bool :=
  cond (decide ((10 : Int) < (t1.length : Int))) (
    some x1) (
    (f_linear_Write t1).bind fun x5 =>
    (f_R09_Valid t1).bind fun x6 =>
    some (cond (cond x1 ((x5.2 == (0 : Int)) == x6) false) (cond x6 true (cond (x5.2 == (90 : Int)) ((x5.1.length : Int) == (0 : Int)) false)) false))
def f_L10_LinearLimits (t0 : Int) (t1 : List S_Node) : Option Bool :=
  (f_L10_sanity).bind fun x1 =>
  (f_R10_Nested (IntKind.wrap .i64 (Int.tmod t0 (31 : Int)))).bind fun x2 =>
  (f_linear_Read x2).bind fun x3 =>
  cond (decide ((8 : Int) ≤ (IntKind.wrap .i64 (Int.tmod t0 (31 : Int))))) (
    cond (cond (cond (x3.2.2 != (2 : Int)) true (x3.2.1 != (0 : Int))) true (decide ((0 : Int) < (x3.1.length : Int)))) (
      some false) (
      f_L10_LinearLimits_k1 t1 x1)) (
    G ((!(x3.2.2 != (0 : Int))) = true → inR ((2 : Int) * (IntKind.wrap .i64 (Int.tmod t0 (31 : Int))))) <|
    G ((!(x3.2.2 != (0 : Int))) = true → inR (((2 : Int) * (IntKind.wrap .i64 (Int.tmod t0 (31 : Int)))) + (2 : Int))) <|
    G ((!(cond (x3.2.2 != (0 : Int)) true (x3.2.1 != (((2 : Int) * (IntKind.wrap .i64 (Int.tmod t0 (31 : Int)))) + (2 : Int))))) = true → inR ((IntKind.wrap .i64 (Int.tmod t0 (31 : Int))) + (1 : Int))) <|
    cond (cond (cond (x3.2.2 != (0 : Int)) true (x3.2.1 != (((2 : Int) * (IntKind.wrap .i64 (Int.tmod t0 (31 : Int)))) + (2 : Int)))) true ((x3.1.length : Int) != ((IntKind.wrap .i64 (Int.tmod t0 (31 : Int))) + (1 : Int)))) (
      some false) (
      f_L10_LinearLimits_k1 t1 x1))
theorem f_L10_LinearLimits_ok  {t0 : Int} {t1 : List S_Node} {r : Bool} (H : f_L10_LinearLimits t0 t1 = some r) : QSpec Tryd.prog 8 [.int .u8 t0, slA eS_Node t1] (.bool r) := by
  refine Spec.of_AW Tryd.func8 rfl (by simp [Tryd.ntmps8]) ?_
  rw [Tryd.ntmps8]
  unfold f_L10_LinearLimits at H
  change AW _ _ _ [(0, .int .u8 t0), (1, slA eS_Node t1)] [] _
  refine AW.regionSeq ?_
  refine OpsW.seg 1 [0, 1] [] [(0, .int .u8 t0), (1, slA eS_Node t1)] (by kernel_rfl) trivial ?_
  refine OpsW.nil ?_
  refine AW.regionSeq ?_
  obtain ⟨x1, hx1, H⟩ := bindS H
  refine OpsW.qcall rfl (by kernel_rfl) rfl rfl (glAll_sound trivial) .nil (f_L10_sanity_ok hx1) rfl ?_
  refine OpsW.seg 1 [5, 0, 1] [] [(5, .bool x1), (0, .int .u8 t0), (1, slA eS_Node t1)] (by kernel_rfl) trivial ?_
  refine OpsW.nil ?_
  refine AW.regionSeq ?_
  refine OpsW.seg 4 [6, 5, 1] [(31 : Int) ≠ 0] [(6, .int .i64 (IntKind.wrap .i64 (Int.tmod t0 (31 : Int)))), (5, .bool x1), (1, slA eS_Node t1)] (by kernel_rfl) ⟨(by decide), trivial⟩ ?_
  refine OpsW.nil ?_
  refine AW.regionSeq ?_
  refine OpsW.seg 1 [18, 6, 5, 1] [] [(18, .int .i64 (IntKind.wrap .i64 (Int.tmod t0 (31 : Int)))), (6, .int .i64 (IntKind.wrap .i64 (Int.tmod t0 (31 : Int)))), (5, .bool x1), (1, slA eS_Node t1)] (by kernel_rfl) trivial ?_
  obtain ⟨x2, hx2, H⟩ := bindS H
  refine OpsW.qcall rfl (by kernel_rfl) rfl rfl (glAll_sound trivial) (.cons (.pur rfl) .nil) (f_R10_Nested_ok hx2) rfl ?_
  obtain ⟨x3, hx3, H⟩ := bindS H
  refine OpsW.qcall rfl (by kernel_rfl) rfl rfl (glAll_sound trivial) (.cons (.pur rfl) .nil) (f_linear_Read_ok hx3) rfl ?_
  refine OpsW.seg 7 [9, 8, 7, 6, 5, 1] [] [(9, .int .i64 x3.2.2), (8, .int .i64 x3.2.1), (7, slA eS_Node x3.1), (6, .int .i64 (IntKind.wrap .i64 (Int.tmod t0 (31 : Int)))), (5, .bool x1), (1, slA eS_Node t1)] (by kernel_rfl) trivial ?_
  refine OpsW.nil ?_
  refine AW.joinK (fun (y : Unit) => f_L10_LinearLimits_k1 t1 x1) r (fun (y : Unit) => [(1, slA eS_Node t1), (5, .bool x1)]) (fun (y : Unit) => []) ?_ ?_
  · refine AW.regionSeq ?_
    refine OpsW.seg 2 [25, 9, 8, 7, 6, 5, 1] [] [(25, .bool (decide ((8 : Int) ≤ (IntKind.wrap .i64 (Int.tmod t0 (31 : Int)))))), (9, .int .i64 x3.2.2), (8, .int .i64 x3.2.1), (7, slA eS_Node x3.1), (6, .int .i64 (IntKind.wrap .i64 (Int.tmod t0 (31 : Int)))), (5, .bool x1), (1, slA eS_Node t1)] (by kernel_rfl) trivial ?_
    refine OpsW.nil ?_
    refine AW.cond (b := decide ((8 : Int) ≤ (IntKind.wrap .i64 (Int.tmod t0 (31 : Int))))) rfl (fun c7 => ?_) (fun c7 => ?_)
    · replace H := condT c7 H
      refine AW.regionSeq ?_
      refine OpsW.seg 11 [36, 5, 1] [(!(x3.2.2 != (2 : Int))) = true → (!(x3.2.2 != (2 : Int))) = true, (x3.2.2 != (2 : Int)) = false → (!(x3.2.2 != (2 : Int))) = true, (!(cond (x3.2.2 != (2 : Int)) true (x3.2.1 != (0 : Int)))) = true → (!(cond (x3.2.2 != (2 : Int)) true (x3.2.1 != (0 : Int)))) = true, (!(cond (x3.2.2 != (2 : Int)) true (x3.2.1 != (0 : Int)))) = true → (!(cond (x3.2.2 != (2 : Int)) true (x3.2.1 != (0 : Int)))) = true, (cond (x3.2.2 != (2 : Int)) true (x3.2.1 != (0 : Int))) = false → (!(cond (x3.2.2 != (2 : Int)) true (x3.2.1 != (0 : Int)))) = true] [(36, .bool (cond (cond (x3.2.2 != (2 : Int)) true (x3.2.1 != (0 : Int))) true (decide ((0 : Int) < (x3.1.length : Int))))), (5, .bool x1), (1, slA eS_Node t1)] (by kernel_rfl) ⟨(fun h => h), (fun h => by first | exact h | (simpa using h) | grind), (fun h => h), (fun h => h), (fun h => by first | exact h | (simpa using h) | grind), trivial⟩ ?_
      refine OpsW.nil ?_
      refine AW.cond (b := cond (cond (x3.2.2 != (2 : Int)) true (x3.2.1 != (0 : Int))) true (decide ((0 : Int) < (x3.1.length : Int)))) rfl (fun c8 => ?_) (fun c8 => ?_)
      · replace H := condT c8 H
        refine AW.regionSeq ?_
        refine OpsW.seg 1 [4] [] [(4, .bool false)] (by kernel_rfl) trivial ?_
        refine OpsW.nil ?_
        obtain rfl := Option.some.inj H
        refine AW.recast (env' := [(4, .bool false)]) (h' := []) (StC.pure (.cons .im .nil)) ?_
        refine AW.ret ?_
        try simp only [Ex.then, Ex.inBlock, Ex.noGoto, Ex.jump, reduceIte, Nat.reduceEqDiff, reduceCtorEq]
        refine Done.gen rfl (.tmp .nil) ?_
        show _ = _
        kernel_rfl
      · replace H := condF c8 H
        refine AW.skip ?_
        show ∃ y, _ ∧ StC _ _ _ _
        exact ⟨(), H, (StC.pure (.cons .im (.cons .im .nil)))⟩
    · replace H := condF c7 H
      refine AW.regionSeq ?_
      obtain ⟨g9, H⟩ := G_some H
      obtain ⟨g10, H⟩ := G_some H
      obtain ⟨g11, H⟩ := G_some H
      refine OpsW.seg 16 [52, 5, 1] [(!(x3.2.2 != (0 : Int))) = true → (!(x3.2.2 != (0 : Int))) = true, (!(x3.2.2 != (0 : Int))) = true → inR ((2 : Int) * (IntKind.wrap .i64 (Int.tmod t0 (31 : Int)))), (!(x3.2.2 != (0 : Int))) = true → (!(x3.2.2 != (0 : Int))) = true, (!(x3.2.2 != (0 : Int))) = true → inR (((2 : Int) * (IntKind.wrap .i64 (Int.tmod t0 (31 : Int)))) + (2 : Int)), (!(x3.2.2 != (0 : Int))) = true → (!(x3.2.2 != (0 : Int))) = true, (!(x3.2.2 != (0 : Int))) = true → (!(x3.2.2 != (0 : Int))) = true, (x3.2.2 != (0 : Int)) = false → (!(x3.2.2 != (0 : Int))) = true, (!(cond (x3.2.2 != (0 : Int)) true (x3.2.1 != (((2 : Int) * (IntKind.wrap .i64 (Int.tmod t0 (31 : Int)))) + (2 : Int))))) = true → (!(cond (x3.2.2 != (0 : Int)) true (x3.2.1 != (((2 : Int) * (IntKind.wrap .i64 (Int.tmod t0 (31 : Int)))) + (2 : Int))))) = true, (!(cond (x3.2.2 != (0 : Int)) true (x3.2.1 != (((2 : Int) * (IntKind.wrap .i64 (Int.tmod t0 (31 : Int)))) + (2 : Int))))) = true → (!(cond (x3.2.2 != (0 : Int)) true (x3.2.1 != (((2 : Int) * (IntKind.wrap .i64 (Int.tmod t0 (31 : Int)))) + (2 : Int))))) = true, (!(cond (x3.2.2 != (0 : Int)) true (x3.2.1 != (((2 : Int) * (IntKind.wrap .i64 (Int.tmod t0 (31 : Int)))) + (2 : Int))))) = true → inR ((IntKind.wrap .i64 (Int.tmod t0 (31 : Int))) + (1 : Int)), (!(cond (x3.2.2 != (0 : Int)) true (x3.2.1 != (((2 : Int) * (IntKind.wrap .i64 (Int.tmod t0 (31 : Int)))) + (2 : Int))))) = true → (!(cond (x3.2.2 != (0 : Int)) true (x3.2.1 != (((2 : Int) * (IntKind.wrap .i64 (Int.tmod t0 (31 : Int)))) + (2 : Int))))) = true, (!(cond (x3.2.2 != (0 : Int)) true (x3.2.1 != (((2 : Int) * (IntKind.wrap .i64 (Int.tmod t0 (31 : Int)))) + (2 : Int))))) = true → (!(cond (x3.2.2 != (0 : Int)) true (x3.2.1 != (((2 : Int) * (IntKind.wrap .i64 (Int.tmod t0 (31 : Int)))) + (2 : Int))))) = true, (cond (x3.2.2 != (0 : Int)) true (x3.2.1 != (((2 : Int) * (IntKind.wrap .i64 (Int.tmod t0 (31 : Int)))) + (2 : Int)))) = false → (!(cond (x3.2.2 != (0 : Int)) true (x3.2.1 != (((2 : Int) * (IntKind.wrap .i64 (Int.tmod t0 (31 : Int)))) + (2 : Int))))) = true] [(52, .bool (cond (cond (x3.2.2 != (0 : Int)) true (x3.2.1 != (((2 : Int) * (IntKind.wrap .i64 (Int.tmod t0 (31 : Int)))) + (2 : Int)))) true ((x3.1.length : Int) != ((IntKind.wrap .i64 (Int.tmod t0 (31 : Int))) + (1 : Int))))), (5, .bool x1), (1, slA eS_Node t1)] (by kernel_rfl) ⟨(fun h => h), g9, (fun h => h), g10, (fun h => h), (fun h => h), (fun h => by first | exact h | (simpa using h) | grind), (fun h => h), (fun h => h), g11, (fun h => h), (fun h => h), (fun h => by first | exact h | (simpa using h) | grind), trivial⟩ ?_
      refine OpsW.nil ?_
      refine AW.cond (b := cond (cond (x3.2.2 != (0 : Int)) true (x3.2.1 != (((2 : Int) * (IntKind.wrap .i64 (Int.tmod t0 (31 : Int)))) + (2 : Int)))) true ((x3.1.length : Int) != ((IntKind.wrap .i64 (Int.tmod t0 (31 : Int))) + (1 : Int)))) rfl (fun c12 => ?_) (fun c12 => ?_)
      · replace H := condT c12 H
        refine AW.regionSeq ?_
        refine OpsW.seg 1 [4] [] [(4, .bool false)] (by kernel_rfl) trivial ?_
        refine OpsW.nil ?_
        obtain rfl := Option.some.inj H
        refine AW.recast (env' := [(4, .bool false)]) (h' := []) (StC.pure (.cons .im .nil)) ?_
        refine AW.ret ?_
        try simp only [Ex.then, Ex.inBlock, Ex.noGoto, Ex.jump, reduceIte, Nat.reduceEqDiff, reduceCtorEq]
        refine Done.gen rfl (.tmp .nil) ?_
        show _ = _
        kernel_rfl
      · replace H := condF c12 H
        refine AW.skip ?_
        show ∃ y, _ ∧ StC _ _ _ _
        exact ⟨(), H, (StC.pure (.cons .im (.cons .im .nil)))⟩
  · rintro ⟨⟩ H
    change f_L10_LinearLimits_k1 t1 x1 = some r at H
    unfold f_L10_LinearLimits_k1 at H
    change AW _ _ _ [(1, slA eS_Node t1), (5, .bool x1)] [] _
    refine AW.seq ?_
    refine AW.regionSeq ?_
    refine OpsW.seg 3 [55, 1, 5] [] [(55, .bool (decide ((10 : Int) < (t1.length : Int)))), (1, slA eS_Node t1), (5, .bool x1)] (by kernel_rfl) trivial ?_
    refine OpsW.nil ?_
    refine AW.cond (b := decide ((10 : Int) < (t1.length : Int))) rfl (fun c4 => ?_) (fun c4 => ?_)
    · replace H := condT c4 H
      refine AW.regionSeq ?_
      refine OpsW.seg 2 [4] [] [(4, .bool x1)] (by kernel_rfl) trivial ?_
      refine OpsW.nil ?_
      obtain rfl := Option.some.inj H
      refine AW.recast (env' := [(4, .bool x1)]) (h' := []) (StC.pure (.cons .im .nil)) ?_
      refine AW.ret ?_
      try simp only [Ex.then, Ex.inBlock, Ex.noGoto, Ex.jump, reduceIte, Nat.reduceEqDiff, reduceCtorEq]
      refine Done.gen rfl (.tmp .nil) ?_
      show _ = _
      kernel_rfl
    · replace H := condF c4 H
      refine AW.skip ?_
      refine AW.regionSeq ?_
      refine OpsW.seg 1 [58, 1, 5] [] [(58, slA eS_Node t1), (1, slA eS_Node t1), (5, .bool x1)] (by kernel_rfl) trivial ?_
      obtain ⟨x5, hx5, H⟩ := bindS H
      refine OpsW.qcall rfl (by kernel_rfl) rfl rfl (glAll_sound trivial) (.cons (.pur rfl) .nil) (f_linear_Write_ok hx5) rfl ?_
      refine OpsW.seg 5 [11, 10, 1, 5] [] [(11, .int .i64 x5.2), (10, slA (eI .u8) x5.1), (1, slA eS_Node t1), (5, .bool x1)] (by kernel_rfl) trivial ?_
      refine OpsW.nil ?_
      refine AW.regionSeq ?_
      refine OpsW.seg 1 [62, 11, 10, 5] [] [(62, slA eS_Node t1), (11, .int .i64 x5.2), (10, slA (eI .u8) x5.1), (5, .bool x1)] (by kernel_rfl) trivial ?_
      obtain ⟨x6, hx6, H⟩ := bindS H
      refine OpsW.qcall rfl (by kernel_rfl) rfl rfl (glAll_sound trivial) (.cons (.pur rfl) .nil) (f_R09_Valid_ok hx6) rfl ?_
      refine OpsW.seg 1 [12, 11, 10, 5] [] [(12, .bool x6), (11, .int .i64 x5.2), (10, slA (eI .u8) x5.1), (5, .bool x1)] (by kernel_rfl) trivial ?_
      refine OpsW.nil ?_
      refine AW.regionSeq ?_
      refine OpsW.seg 20 [4] [x1 = true → x1 = true, x1 = true → x1 = true, x1 = true → x1 = true, x1 = true → x1 = true, (cond x1 ((x5.2 == (0 : Int)) == x6) false) = true → (cond x1 ((x5.2 == (0 : Int)) == x6) false) = true, ((cond x1 ((x5.2 == (0 : Int)) == x6) false) && (!x6)) = true → ((cond x1 ((x5.2 == (0 : Int)) == x6) false) && (!x6)) = true, ((cond x1 ((x5.2 == (0 : Int)) == x6) false) && (!x6)) = true → ((cond x1 ((x5.2 == (0 : Int)) == x6) false) && (!x6)) = true, (((cond x1 ((x5.2 == (0 : Int)) == x6) false) && (!x6)) && (x5.2 == (90 : Int))) = true → (((cond x1 ((x5.2 == (0 : Int)) == x6) false) && (!x6)) && (x5.2 == (90 : Int))) = true, (((cond x1 ((x5.2 == (0 : Int)) == x6) false) && (!x6)) && (x5.2 == (90 : Int))) = true → (((cond x1 ((x5.2 == (0 : Int)) == x6) false) && (!x6)) && (x5.2 == (90 : Int))) = true, ((cond x1 ((x5.2 == (0 : Int)) == x6) false) && (!x6)) = true → ((cond x1 ((x5.2 == (0 : Int)) == x6) false) && (!x6)) = true, ((cond x1 ((x5.2 == (0 : Int)) == x6) false) && (!x6)) = true → ((x5.2 == (90 : Int)) = true → (((cond x1 ((x5.2 == (0 : Int)) == x6) false) && (!x6)) && (x5.2 == (90 : Int))) = true), (cond x1 ((x5.2 == (0 : Int)) == x6) false) = true → (cond x1 ((x5.2 == (0 : Int)) == x6) false) = true, (cond x1 ((x5.2 == (0 : Int)) == x6) false) = true → (x6 = false → ((cond x1 ((x5.2 == (0 : Int)) == x6) false) && (!x6)) = true), (cond x1 ((x5.2 == (0 : Int)) == x6) false) = true → (cond x1 ((x5.2 == (0 : Int)) == x6) false) = true] [(4, .bool (cond (cond x1 ((x5.2 == (0 : Int)) == x6) false) (cond x6 true (cond (x5.2 == (90 : Int)) ((x5.1.length : Int) == (0 : Int)) false)) false))] (by kernel_rfl) ⟨(fun h => h), (fun h => h), (fun h => h), (fun h => by first | exact h | (simpa using h) | grind), (fun h => h), (fun h => h), (fun h => h), (fun h => h), (fun h => h), (fun h => h), (fun h0 h => by first | exact h | (simp [h0, h]; done) | (simp at h0 h ⊢; simp [h0, h]; done) | (simp_all; done) | grind), (fun h => h), (fun h0 h => by first | exact h | (simp [h0, h]; done) | (simp at h0 h ⊢; simp [h0, h]; done) | (simp_all; done) | grind), (fun h => by first | exact h | (simpa using h) | grind), trivial⟩ ?_
      refine OpsW.nil ?_
      obtain rfl := Option.some.inj H
      refine AW.recast (env' := [(4, .bool (cond (cond x1 ((x5.2 == (0 : Int)) == x6) false) (cond x6 true (cond (x5.2 == (90 : Int)) ((x5.1.length : Int) == (0 : Int)) false)) false))]) (h' := []) (StC.pure (.cons .im .nil)) ?_
      refine AW.ret ?_
      try simp only [Ex.then, Ex.inBlock, Ex.noGoto, Ex.jump, reduceIte, Nat.reduceEqDiff, reduceCtorEq]
      refine Done.gen rfl (.tmp .nil) ?_
      show _ = _
      kernel_rfl
end Go.Proofs.YtfpcbalkioolmaaDoor
