/-
  Written by gen.py (own work): typed functions, and that the program computes them.
-/
import Derived.Test.YtfpcbalkioolmaaDoorW4
set_option linter.unusedSimpArgs false
set_option linter.unusedVariables false
set_option maxRecDepth 100000
namespace Go.Proofs.YtfpcbalkioolmaaDoor
open Go.Abs
def f_linear_Write (t0 : List S_Node) : Option ((List Int) × Int) :=
  (f_formula_Valid t0).bind fun x1 =>
  cond (!x1) (
    some ([], (90 : Int))) (
    (f_linear_brackets).bind fun x3 =>
    (f_linear_writer_node (⟨t0, (0 : Int), ([] : List Int), ([] : List Int), ()⟩ : S_writer)).bind fun x4 =>
    some (x4.cells_, (0 : Int)))
theorem f_linear_Write_ok  {t0 : List S_Node} {r : (List Int) × Int} (H : f_linear_Write t0 = some r) : QSpec Tryd.prog 11 [slA eS_Node t0] (.tup [slA (eI .u8) r.1, .int .i64 r.2]) := by
  refine Spec.of_AW Tryd.func11 rfl (by simp [Tryd.ntmps11]) ?_
  rw [Tryd.ntmps11]
  unfold f_linear_Write at H
  change AW _ _ _ [(0, slA eS_Node t0)] [] _
  refine AW.regionSeq ?_
  refine OpsW.seg 2 [0] [] [(0, slA eS_Node t0)] (by kernel_rfl) trivial ?_
  refine OpsW.nil ?_
  refine AW.seq ?_
  refine AW.regionSeq ?_
  refine OpsW.seg 1 [5, 0] [] [(5, slA eS_Node t0), (0, slA eS_Node t0)] (by kernel_rfl) trivial ?_
  obtain ⟨x1, hx1, H⟩ := bindS H
  refine OpsW.qcall rfl (by kernel_rfl) rfl rfl (glAll_sound trivial) (.cons (.pur rfl) .nil) (f_formula_Valid_ok hx1) rfl ?_
  refine OpsW.seg 1 [7, 0] [] [(7, .bool (!x1)), (0, slA eS_Node t0)] (by kernel_rfl) trivial ?_
  refine OpsW.nil ?_
  refine AW.cond (b := !x1) rfl (fun c2 => ?_) (fun c2 => ?_)
  · replace H := condT c2 H
    refine AW.regionSeq ?_
    refine OpsW.seg 2 [3, 2] [] [(3, .int .i64 90), (2, .im (.val (.slice none 0 0)))] (by kernel_rfl) trivial ?_
    refine OpsW.nil ?_
    obtain rfl := Option.some.inj H
    refine AW.recast (env' := [(2, slA (eI .u8) []), (3, .int .i64 90)]) (h' := []) (StC.pure (.cons .nil (.cons .im .nil))) ?_
    refine AW.ret ?_
    try simp only [Ex.then, Ex.inBlock, Ex.noGoto, Ex.jump, reduceIte, Nat.reduceEqDiff, reduceCtorEq]
    refine Done.gen rfl (.tmp (.tmp .nil)) ?_
    show _ = _
    kernel_rfl
  · replace H := condF c2 H
    refine AW.skip ?_
    refine AW.regionSeq ?_
    refine OpsW.seg 1 [8] [] [(8, slA eS_Node t0)] (by kernel_rfl) trivial ?_
    obtain ⟨x3, hx3, H⟩ := bindS H
    refine OpsW.qcall rfl (by kernel_rfl) rfl rfl (glAll_sound trivial) .nil (f_linear_brackets_ok hx3) rfl ?_
    refine OpsW.seg 1 [10] [] [(10, .agg [slA eS_Node t0, .int .i64 0, .im (.val (.slice none 0 0)), .im (.val (.slice none 0 0)), .im (.mp (mapV brTab))])] (by kernel_rfl) trivial ?_
    refine OpsW.alloc' rfl rfl rfl 4 rfl (by kernel_rfl : zc Tryd.prog 58 = some [.slice none 0 0, .int .i64 0, .slice none 0 0, .slice none 0 0, .map none]) (by kernel_rfl) ?_
    refine OpsW.store rfl rfl rfl rfl trivial trivial rfl rfl rfl (by kernel_rfl) (okCb_sound (by kernel_rfl)) (Nat.le_of_ble_eq_true (by kernel_rfl)) ?_
    change OpsW _ _ _ _ _ [(4, ⟨0, true, 58, 5, [slA eS_Node t0, .int .i64 0, .im (.val (.slice none 0 0)), .im (.val (.slice none 0 0)), .im (.mp (mapV brTab))]⟩), (4, ⟨0, true, 58, 5, [.im (.val (.slice none 0 0)), .int .i64 0, .im (.val (.slice none 0 0)), .im (.val (.slice none 0 0)), .im (.val (.map none))]⟩)] _
    refine OpsW.seg 0 [4] [] [(4, .ref 4 0 0)] (by kernel_rfl) trivial ?_
    refine OpsW.recast (env' := [(4, .ref 4 0 0)]) (h' := [(4, ⟨0, true, 58, 5, [slA eS_Node t0, .int .i64 0, .im (.val (.slice none 0 0)), .im (.val (.slice none 0 0)), .im (.mp (mapV brTab))]⟩)]) (StC.mk (phi [(4, some 4)]) (.old rfl rfl rfl rfl rfl (.cons .im (.cons .im (.cons .im (.cons .im (.cons .im .nil))))) .nil) rfl (.cons (.ref rfl rfl rfl rfl rfl) .nil)) ?_
    refine OpsW.nil ?_
    refine AW.regionSeq ?_
    refine OpsW.recast (env' := [(4, .ref 4 0 0)]) (h' := [(4, ⟨0, true, 58, 5, [slA eS_Node t0, .int .i64 0, .rsl 5040 0 0 0, .rsl 5041 0 0 0, .im (.mp (mapV brTab))]⟩), (5040, rtA 0 33 1 (eI .u8) ([] : List Int)), (5041, rtA 0 33 1 (eI .u8) ([] : List Int))]) (StC.mk (phi [(4, some 4), (5040, none), (5041, none)]) (.old rfl rfl rfl rfl rfl (.cons .im (.cons .im (.cons (.nilr rfl rfl rfl) (.cons (.nilr rfl rfl rfl) (.cons .im .nil))))) (.new rfl (.new rfl .nil))) rfl (.cons (.ref rfl rfl rfl rfl rfl) .nil)) ?_
    obtain ⟨x4, hx4, H⟩ := bindS H
    change OpsW _ _ _ _ [(4, .ref 4 0 0)] ([(4, ⟨0, true, 58, 5, [slA eS_Node t0, .int .i64 0, .rsl 5040 0 0 0, .rsl 5041 0 0 0, .im (.mp (mapV brTab))]⟩), (5040, rtA 0 33 1 (eI .u8) ([] : List Int)), (5041, rtA 0 33 1 (eI .u8) ([] : List Int))] ++ []) _
    refine OpsW.callR [(4, ⟨0, true, 58, 5, [slA eS_Node t0, .int .i64 0, .rsl 5040 0 0 0, .rsl 5041 0 0 0, .im (.mp (mapV brTab))]⟩), (5040, rtA 0 33 1 (eI .u8) ([] : List Int)), (5041, rtA 0 33 1 (eI .u8) ([] : List Int))] [] [(2010, ⟨0, true, 58, 5, [slA eS_Node t0, .int .i64 0, .rsl 3010 0 0 0, .rsl 3011 0 0 0, .im (.mp (mapV brTab))]⟩), (3010, rtA 0 33 1 (eI .u8) ([] : List Int)), (3011, rtA 0 33 1 (eI .u8) ([] : List Int))] (phi [(2010, some 4), (3010, some 5040), (3011, some 5041)]) rfl rfl (by kernel_rfl) [.ref 2010 0 0] _ rfl (glAll_sound trivial) (.cons (.ref rfl rfl rfl rfl rfl) .nil) (f_linear_writer_node_io hx4) (fresh_of (by kernel_rfl)) (by kernel_rfl) (.cons rfl rfl rfl rfl rfl (.cons .im (.cons .im (.cons (.rsl rfl rfl rfl rfl rfl rfl) (.cons (.rsl rfl rfl rfl rfl rfl rfl) (.cons .im .nil))))) (.cons rfl rfl rfl rfl rfl (RnL.ims _) (.cons rfl rfl rfl rfl rfl (RnL.ims _) .nil))) ?_
    rintro _ _ ⟨rfl, rfl⟩
    refine ⟨.tup [], [(4, ⟨0, true, 58, 5, [slA eS_Node x4.f_, .int .i64 x4.at_, .rsl 5040 1 0 x4.level_.length, .rsl 5041 1 0 x4.cells_.length, .im (.mp (mapV brTab))]⟩), (5040, rtA 1 33 1 (eI .u8) x4.level_), (5041, rtA 1 33 1 (eI .u8) x4.cells_)], phi [(4, some 2010), (5040, some 3010), (5041, some 3011)], fresh_of (by kernel_rfl), by kernel_rfl, by kernel_rfl, (.cons rfl rfl rfl rfl rfl (.cons .im (.cons .im (.cons (.rsl rfl rfl rfl rfl rfl rfl) (.cons (.rsl rfl rfl rfl rfl rfl rfl) (.cons .im .nil))))) (.cons rfl rfl rfl rfl rfl (RnL.ims _) (.cons rfl rfl rfl rfl rfl (RnL.ims _) .nil))), (.tup .nil .nil), ?_⟩
    change OpsW _ _ _ _ [(11, .tup []), (4, .ref 4 0 0)] [(4, ⟨0, true, 58, 5, [slA eS_Node x4.f_, .int .i64 x4.at_, .rsl 5040 1 0 x4.level_.length, .rsl 5041 1 0 x4.cells_.length, .im (.mp (mapV brTab))]⟩), (5040, rtA 1 33 1 (eI .u8) x4.level_), (5041, rtA 1 33 1 (eI .u8) x4.cells_)] _
    refine OpsW.seg 0 [4] [] [(4, .ref 4 0 0)] (by kernel_rfl) trivial ?_
    refine OpsW.recast (env' := [(4, .ref 4 0 0)]) (h' := [(4, ⟨0, true, 58, 5, [slA eS_Node x4.f_, .int .i64 x4.at_, .rsl 5040 0 0 x4.level_.length, .rsl 5041 0 0 x4.cells_.length, .im (.mp (mapV brTab))]⟩), (5040, rtA 0 33 1 (eI .u8) x4.level_), (5041, rtA 0 33 1 (eI .u8) x4.cells_)]) (StC.mk (phi [(4, some 4), (5040, some 5040), (5041, some 5041)]) (.old rfl rfl rfl rfl rfl (.cons .im (.cons .im (.cons (.rsl rfl rfl rfl rfl rfl rfl) (.cons (.rsl rfl rfl rfl rfl rfl rfl) (.cons .im .nil))))) (.old rfl rfl rfl rfl rfl (CstL.ims _) (.old rfl rfl rfl rfl rfl (CstL.ims _) .nil))) rfl (.cons (.ref rfl rfl rfl rfl rfl) .nil)) ?_
    refine OpsW.nil ?_
    refine AW.regionSeq ?_
    refine OpsW.seg 4 [3, 2] [] [(3, .int .i64 0), (2, .rsl 5041 0 0 x4.cells_.length)] (by kernel_rfl) trivial ?_
    refine OpsW.recast (env' := [(3, .int .i64 0), (2, slA (eI .u8) x4.cells_)]) (h' := []) (StC.mk (phi []) .nil rfl (.cons .im (.cons (.frz rfl rfl rfl (frz_all (eI .u8) 1 (fun _ => rfl) x4.cells_) (fm_length (eI .u8) 1 (fun _ => rfl) x4.cells_) (phi_ne rfl)) .nil))) ?_
    refine OpsW.nil ?_
    obtain rfl := Option.some.inj H
    refine AW.recast (env' := [(2, slA (eI .u8) x4.cells_), (3, .int .i64 0)]) (h' := []) (StC.pure (.cons .im (.cons .im .nil))) ?_
    refine AW.ret ?_
    try simp only [Ex.then, Ex.inBlock, Ex.noGoto, Ex.jump, reduceIte, Nat.reduceEqDiff, reduceCtorEq]
    refine Done.gen rfl (.tmp (.tmp .nil)) ?_
    show _ = _
    kernel_rfl
def f_R01_ValidAll_b1 (t0 : List Int) (loop2 : (Int) → Option Bool) (v1 : Int) : Option Bool :=
  cond (decide (v1 < (t0.length : Int))) (
    G (0 ≤ v1 ∧ v1 < (t0.length : Int)) <|
    cond (decide ((64 : Int) ≤ (t0.getD v1.toNat (0 : Int)))) (
      some false) (
      G (inR (v1 + (1 : Int))) <|
      loop2 (v1 + (1 : Int)))) (
    some true)
def f_R01_ValidAll (t0 : List Int) : Option Bool :=
  iter (fun loop (s : Int) => f_R01_ValidAll_b1 t0 loop s) 1000000 (0 : Int)
theorem f_R01_ValidAll_ok  {t0 : List Int} {r : Bool} (H : f_R01_ValidAll t0 = some r) : QSpec Tryd.prog 31 [slA (eI .u8) t0] (.bool r) := by
  refine Spec.of_AW Tryd.func31 rfl (by simp [Tryd.ntmps31]) ?_
  rw [Tryd.ntmps31]
  unfold f_R01_ValidAll at H
  change AW _ _ _ [(0, slA (eI .u8) t0)] [] _
  refine AW.regionSeq ?_
  refine OpsW.seg 1 [0] [] [(0, slA (eI .u8) t0)] (by kernel_rfl) trivial ?_
  refine OpsW.nil ?_
  refine AW.seq ?_
  refine AW.regionSeq ?_
  refine OpsW.seg 1 [3, 0] [] [(3, .int .i64 0), (0, slA (eI .u8) t0)] (by kernel_rfl) trivial ?_
  refine OpsW.nil ?_
  refine AW.block ?_
  refine AW.iterK (fun loop (s : Int) => f_R01_ValidAll_b1 t0 loop s) r (fun (s : Int) => [(0, slA (eI .u8) t0), (3, .int .i64 s)]) (fun (s : Int) => []) ?_ 1000000 (0 : Int) H (StC.pure (.cons .im (.cons .im .nil)))
  intro loop2 v1 H
  change f_R01_ValidAll_b1 t0 loop2 v1 = some r at H
  unfold f_R01_ValidAll_b1 at H
  change AW _ _ _ [(0, slA (eI .u8) t0), (3, .int .i64 v1)] [] _
  refine AW.seq ?_
  refine AW.regionSeq ?_
  refine OpsW.seg 4 [7, 0, 3] [] [(7, .bool (decide (v1 < (t0.length : Int)))), (0, slA (eI .u8) t0), (3, .int .i64 v1)] (by kernel_rfl) trivial ?_
  refine OpsW.nil ?_
  refine AW.cond (b := decide (v1 < (t0.length : Int))) rfl (fun c3 => ?_) (fun c3 => ?_)
  · replace H := condT c3 H
    refine AW.skip ?_
    refine AW.seq ?_
    refine AW.block ?_
    refine AW.regionSeq ?_
    obtain ⟨g4, H⟩ := G_some H
    refine OpsW.seg 3 [12, 0, 3] [0 ≤ v1 ∧ v1 < (t0.length : Int)] [(12, .ipt (t0.flatMap (eI .u8)) (v1.toNat * 1)), (0, slA (eI .u8) t0), (3, .int .i64 v1)] (by kernel_rfl) ⟨g4, trivial⟩ ?_
    refine OpsW.asU (.int .u8 (t0.getD v1.toNat (0 : Int))) rfl rfl (T.load rfl trivial (by kernel_rfl) (fm_cell0 (eI .u8) 1 (fun _ => rfl) t0 (0 : Int) v1.toNat (ltN g4) (fun a => .val (.int .u8 a)) (fun _ => rfl))) ?_
    refine OpsW.seg 1 [14, 0, 3] [] [(14, .bool (decide ((64 : Int) ≤ (t0.getD v1.toNat (0 : Int))))), (0, slA (eI .u8) t0), (3, .int .i64 v1)] (by kernel_rfl) trivial ?_
    refine OpsW.nil ?_
    refine AW.cond (b := decide ((64 : Int) ≤ (t0.getD v1.toNat (0 : Int)))) rfl (fun c5 => ?_) (fun c5 => ?_)
    · replace H := condT c5 H
      refine AW.regionSeq ?_
      refine OpsW.seg 1 [2] [] [(2, .bool false)] (by kernel_rfl) trivial ?_
      refine OpsW.nil ?_
      obtain rfl := Option.some.inj H
      refine AW.recast (env' := [(2, .bool false)]) (h' := []) (StC.pure (.cons .im .nil)) ?_
      refine AW.ret ?_
      try simp only [Ex.then, Ex.inBlock, Ex.noGoto, Ex.jump, reduceIte, Nat.reduceEqDiff, reduceCtorEq]
      refine Done.gen rfl (.tmp .nil) ?_
      show _ = _
      kernel_rfl
    · replace H := condF c5 H
      refine AW.skip ?_
      refine AW.region ?_
      obtain ⟨g6, H⟩ := G_some H
      refine OpsW.seg 3 [3, 0] [inR (v1 + (1 : Int))] [(3, .int .i64 (v1 + (1 : Int))), (0, slA (eI .u8) t0)] (by kernel_rfl) ⟨g6, trivial⟩ ?_
      refine OpsW.nil ?_
      show ∃ y, _ ∧ StC _ _ _ _
      exact ⟨v1 + (1 : Int), H, (StC.pure (.cons .im (.cons .im .nil)))⟩
  · replace H := condF c3 H
    refine AW.exit ?_
    refine AW.regionSeq ?_
    refine OpsW.seg 1 [2] [] [(2, .bool true)] (by kernel_rfl) trivial ?_
    refine OpsW.nil ?_
    obtain rfl := Option.some.inj H
    refine AW.recast (env' := [(2, .bool true)]) (h' := []) (StC.pure (.cons .im .nil)) ?_
    refine AW.ret ?_
    try simp only [Ex.then, Ex.inBlock, Ex.noGoto, Ex.jump, reduceIte, Nat.reduceEqDiff, reduceCtorEq]
    refine Done.gen rfl (.tmp .nil) ?_
    show _ = _
    kernel_rfl
end Go.Proofs.YtfpcbalkioolmaaDoor
