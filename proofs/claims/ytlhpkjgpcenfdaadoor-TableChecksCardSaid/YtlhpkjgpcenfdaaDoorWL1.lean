/-
  Written by gen.py (own work): typed functions, and that the program computes them.
-/
import Derived.Test.YtlhpkjgpcenfdaaDoorWK1
set_option linter.unusedSimpArgs false
set_option linter.unusedVariables false
set_option maxRecDepth 100000
namespace Go.Proofs.YtlhpkjgpcenfdaaDoor
open Go.Abs
def f_L02_TableChecks_b1 (t0 : S_Table) (x1 : Bool) (loop4 : (Int) → Option Bool) (v3 : Int) : Option Bool :=
  cond (decide (v3 < (t0.Rules.length : Int))) (
    G (0 ≤ v3 ∧ v3 < (t0.Rules.length : Int)) <|
    cond (cond (decide ((6 : Int) < (((t0.Rules.getD v3.toNat zS_Rule).Print).size : Int))) true (decide ((6 : Int) < (((t0.Rules.getD v3.toNat zS_Rule).Cells).length : Int)))) (
      some x1) (
      G (inR (v3 + (1 : Int))) <|
      loop4 (v3 + (1 : Int)))) (
    (f_table_Check t0).bind fun x9 =>
    (f_R02_Check t0).bind fun x10 =>
    (cond (cond (x9.1 == x10.1) (x9.2 == x10.2) false) (f_table_Valid t0) (some false)).bind fun x11 =>
    some (cond (cond (cond (x9.1 == x10.1) (x9.2 == x10.2) false) (x11 == (x10.2 == (0 : Int))) false) x1 false))
def f_L02_TableChecks (t0 : S_Table) : Option Bool :=
  (f_L02_sanity).bind fun x1 =>
  cond (decide ((6 : Int) < (t0.Rules.length : Int))) (
    some x1) (
    iter (fun loop (s : Int) => f_L02_TableChecks_b1 t0 x1 loop s) 1000000 (0 : Int))
theorem f_L02_TableChecks_ok  {t0 : S_Table} {r : Bool} (H : f_L02_TableChecks t0 = some r) : QSpec Tryd.prog 5 [.agg [.int .i64 t0.Modes, .int .u8 t0.Accept, slA eS_Rule t0.Rules]] (.bool r) := by
  refine Spec.of_AW Tryd.func5 rfl (by simp [Tryd.ntmps5]) ?_
  rw [Tryd.ntmps5]
  unfold f_L02_TableChecks at H
  change AW _ _ _ [(0, .agg [.int .i64 t0.Modes, .int .u8 t0.Accept, slA eS_Rule t0.Rules])] [] _
  refine AW.regionSeq ?_
  refine OpsW.box rfl rfl rfl 1 rfl (okCb_sound (by kernel_rfl)) ?_
  change OpsW _ _ _ _ _ [(1, ⟨0, true, 33, 3, [.int .i64 t0.Modes, .int .u8 t0.Accept, slA eS_Rule t0.Rules]⟩)] _
  refine OpsW.seg 1 [1] [] [(1, .ref 1 0 0)] (by kernel_rfl) trivial ?_
  refine OpsW.recast (env' := [(1, .ref 1 0 0)]) (h' := [(1, ⟨0, true, 33, 3, [.int .i64 t0.Modes, .int .u8 t0.Accept, slA eS_Rule t0.Rules]⟩)]) (StC.mk (phi [(1, some 1)]) (.old rfl rfl rfl rfl rfl (.cons .im (.cons .im (.cons .im .nil))) .nil) rfl (.cons (.ref rfl rfl rfl rfl rfl) .nil)) ?_
  refine OpsW.nil ?_
  refine AW.regionSeq ?_
  obtain ⟨x1, hx1, H⟩ := bindS H
  refine OpsW.qcall rfl (by kernel_rfl) rfl rfl (glAll_sound trivial) .nil (f_L02_sanity_ok hx1) rfl ?_
  refine OpsW.seg 1 [3, 1] [] [(3, .bool x1), (1, .ref 1 0 0)] (by kernel_rfl) trivial ?_
  refine OpsW.nil ?_
  refine AW.seq ?_
  refine AW.regionSeq ?_
  refine OpsW.seg 4 [13, 3, 1] [] [(13, .bool (decide ((6 : Int) < (t0.Rules.length : Int)))), (3, .bool x1), (1, .ref 1 0 0)] (by kernel_rfl) trivial ?_
  refine OpsW.nil ?_
  refine AW.cond (b := decide ((6 : Int) < (t0.Rules.length : Int))) rfl (fun c2 => ?_) (fun c2 => ?_)
  · replace H := condT c2 H
    refine AW.regionSeq ?_
    refine OpsW.seg 2 [2] [] [(2, .bool x1)] (by kernel_rfl) trivial ?_
    refine OpsW.nil ?_
    obtain rfl := Option.some.inj H
    refine AW.recast (env' := [(2, .bool x1)]) (h' := []) (StC.pure (.cons .im .nil)) ?_
    refine AW.ret ?_
    try simp only [Ex.then, Ex.inBlock, Ex.noGoto, Ex.jump, reduceIte, Nat.reduceEqDiff, reduceCtorEq]
    refine Done.gen rfl (.tmp .nil) ?_
    show _ = _
    kernel_rfl
  · replace H := condF c2 H
    refine AW.skip ?_
    refine AW.seq ?_
    refine AW.regionSeq ?_
    refine OpsW.seg 1 [4, 3, 1] [] [(4, .int .i64 (0 : Int)), (3, .bool x1), (1, .ref 1 0 0)] (by kernel_rfl) trivial ?_
    refine OpsW.nil ?_
    refine AW.block ?_
    refine AW.iterK (fun loop (s : Int) => f_L02_TableChecks_b1 t0 x1 loop s) r (fun (s : Int) => [(1, .ref 1 0 0), (3, .bool x1), (4, .int .i64 s)]) (fun (s : Int) => [(1, ⟨0, true, 33, 3, [.int .i64 t0.Modes, .int .u8 t0.Accept, slA eS_Rule t0.Rules]⟩)]) ?_ 1000000 (0 : Int) H (StC.mk (phi [(1, some 1)]) (.old rfl rfl rfl rfl rfl (.cons .im (.cons .im (.cons .im .nil))) .nil) rfl (.cons (.ref rfl rfl rfl rfl rfl) (.cons .im (.cons .im .nil))))
    intro loop4 v3 H
    change f_L02_TableChecks_b1 t0 x1 loop4 v3 = some r at H
    unfold f_L02_TableChecks_b1 at H
    change AW _ _ _ [(1, .ref 1 0 0), (3, .bool x1), (4, .int .i64 v3)] [(1, ⟨0, true, 33, 3, [.int .i64 t0.Modes, .int .u8 t0.Accept, slA eS_Rule t0.Rules]⟩)] _
    refine AW.seq ?_
    refine AW.regionSeq ?_
    refine OpsW.seg 5 [19, 1, 3, 4] [] [(19, .bool (decide (v3 < (t0.Rules.length : Int)))), (1, .ref 1 0 0), (3, .bool x1), (4, .int .i64 v3)] (by kernel_rfl) trivial ?_
    refine OpsW.nil ?_
    refine AW.cond (b := decide (v3 < (t0.Rules.length : Int))) rfl (fun c5 => ?_) (fun c5 => ?_)
    · replace H := condT c5 H
      refine AW.skip ?_
      refine AW.seq ?_
      refine AW.block ?_
      refine AW.regionSeq ?_
      obtain ⟨g6, H⟩ := G_some H
      refine OpsW.seg 5 [26, 1, 3, 4] [0 ≤ v3 ∧ v3 < (t0.Rules.length : Int)] [(26, .ipt (t0.Rules.flatMap eS_Rule) (v3.toNat * 6 + 0)), (1, .ref 1 0 0), (3, .bool x1), (4, .int .i64 v3)] (by kernel_rfl) ⟨g6, trivial⟩ ?_
      refine OpsW.asU (.string ((t0.Rules.getD v3.toNat zS_Rule).Print)) rfl rfl (T.load rfl trivial (by kernel_rfl) (fm_cell eS_Rule 6 (fun _ => rfl) t0.Rules zS_Rule v3.toNat (ltN g6) 0 (fun a => .val (.string a.Print)) (fun _ => rfl))) ?_
      refine OpsW.seg 8 [35, 30, 1, 3, 4] [(!(decide ((6 : Int) < (((t0.Rules.getD v3.toNat zS_Rule).Print).size : Int)))) = true → (!(decide ((6 : Int) < (((t0.Rules.getD v3.toNat zS_Rule).Print).size : Int)))) = true, (!(decide ((6 : Int) < (((t0.Rules.getD v3.toNat zS_Rule).Print).size : Int)))) = true → (!(decide ((6 : Int) < (((t0.Rules.getD v3.toNat zS_Rule).Print).size : Int)))) = true, (!(decide ((6 : Int) < (((t0.Rules.getD v3.toNat zS_Rule).Print).size : Int)))) = true → (!(decide ((6 : Int) < (((t0.Rules.getD v3.toNat zS_Rule).Print).size : Int)))) = true, (!(decide ((6 : Int) < (((t0.Rules.getD v3.toNat zS_Rule).Print).size : Int)))) = true → (0 ≤ v3 ∧ v3 < (t0.Rules.length : Int)), (!(decide ((6 : Int) < (((t0.Rules.getD v3.toNat zS_Rule).Print).size : Int)))) = true → (!(decide ((6 : Int) < (((t0.Rules.getD v3.toNat zS_Rule).Print).size : Int)))) = true] [(35, .cnd (!(decide ((6 : Int) < (((t0.Rules.getD v3.toNat zS_Rule).Print).size : Int)))) (.ipt (t0.Rules.flatMap eS_Rule) (v3.toNat * 6 + 1))), (30, .bool (decide ((6 : Int) < (((t0.Rules.getD v3.toNat zS_Rule).Print).size : Int)))), (1, .ref 1 0 0), (3, .bool x1), (4, .int .i64 v3)] (by kernel_rfl) ⟨(fun h => h), (fun h => h), (fun h => h), (fun _ => g6), (fun h => h), trivial⟩ ?_
      refine OpsW.asG (c := !(decide ((6 : Int) < (((t0.Rules.getD v3.toNat zS_Rule).Print).size : Int)))) (slA (eI .u8) ((t0.Rules.getD v3.toNat zS_Rule).Cells)) rfl rfl rfl rfl (fun hc => T.load rfl hc (by kernel_rfl) (fm_cell eS_Rule 6 (fun _ => rfl) t0.Rules zS_Rule v3.toNat (ltN g6) 1 (fun a => .sl (a.Cells.flatMap (eI .u8)) a.Cells.length) (fun _ => rfl))) ?_
      refine OpsW.seg 3 [39, 1, 3, 4] [(!(decide ((6 : Int) < (((t0.Rules.getD v3.toNat zS_Rule).Print).size : Int)))) = true → (!(decide ((6 : Int) < (((t0.Rules.getD v3.toNat zS_Rule).Print).size : Int)))) = true, (!(decide ((6 : Int) < (((t0.Rules.getD v3.toNat zS_Rule).Print).size : Int)))) = true → (!(decide ((6 : Int) < (((t0.Rules.getD v3.toNat zS_Rule).Print).size : Int)))) = true, (decide ((6 : Int) < (((t0.Rules.getD v3.toNat zS_Rule).Print).size : Int))) = false → (!(decide ((6 : Int) < (((t0.Rules.getD v3.toNat zS_Rule).Print).size : Int)))) = true] [(39, .bool (cond (decide ((6 : Int) < (((t0.Rules.getD v3.toNat zS_Rule).Print).size : Int))) true (decide ((6 : Int) < (((t0.Rules.getD v3.toNat zS_Rule).Cells).length : Int))))), (1, .ref 1 0 0), (3, .bool x1), (4, .int .i64 v3)] (by kernel_rfl) ⟨(fun h => h), (fun h => h), (fun h => by first | exact h | simpa using h), trivial⟩ ?_
      refine OpsW.nil ?_
      refine AW.cond (b := cond (decide ((6 : Int) < (((t0.Rules.getD v3.toNat zS_Rule).Print).size : Int))) true (decide ((6 : Int) < (((t0.Rules.getD v3.toNat zS_Rule).Cells).length : Int)))) rfl (fun c7 => ?_) (fun c7 => ?_)
      · replace H := condT c7 H
        refine AW.regionSeq ?_
        refine OpsW.seg 2 [2] [] [(2, .bool x1)] (by kernel_rfl) trivial ?_
        refine OpsW.nil ?_
        obtain rfl := Option.some.inj H
        refine AW.recast (env' := [(2, .bool x1)]) (h' := []) (StC.pure (.cons .im .nil)) ?_
        refine AW.ret ?_
        try simp only [Ex.then, Ex.inBlock, Ex.noGoto, Ex.jump, reduceIte, Nat.reduceEqDiff, reduceCtorEq]
        refine Done.gen rfl (.tmp .nil) ?_
        show _ = _
        kernel_rfl
      · replace H := condF c7 H
        refine AW.skip ?_
        refine AW.region ?_
        obtain ⟨g8, H⟩ := G_some H
        refine OpsW.seg 3 [4, 1, 3] [inR (v3 + (1 : Int))] [(4, .int .i64 (v3 + (1 : Int))), (1, .ref 1 0 0), (3, .bool x1)] (by kernel_rfl) ⟨g8, trivial⟩ ?_
        refine OpsW.nil ?_
        show ∃ y, _ ∧ StC _ _ _ _
        exact ⟨v3 + (1 : Int), H, (StC.mk (phi [(1, some 1)]) (.old rfl rfl rfl rfl rfl (.cons .im (.cons .im (.cons .im .nil))) .nil) rfl (.cons (.ref rfl rfl rfl rfl rfl) (.cons .im (.cons .im .nil))))⟩
    · replace H := condF c5 H
      refine AW.exit ?_
      refine AW.regionSeq ?_
      refine OpsW.seg 1 [42, 1, 3] [] [(42, .agg [.int .i64 t0.Modes, .int .u8 t0.Accept, slA eS_Rule t0.Rules]), (1, .ref 1 0 0), (3, .bool x1)] (by kernel_rfl) trivial ?_
      obtain ⟨x9, hx9, H⟩ := bindS H
      refine OpsW.qcall rfl (by kernel_rfl) rfl rfl (glAll_sound trivial) (.cons (.pur rfl) .nil) (f_table_Check_ok hx9) rfl ?_
      refine OpsW.seg 5 [6, 5, 1, 3] [] [(6, .int .i64 x9.2), (5, .int .i64 x9.1), (1, .ref 1 0 0), (3, .bool x1)] (by kernel_rfl) trivial ?_
      refine OpsW.nil ?_
      refine AW.regionSeq ?_
      refine OpsW.seg 1 [47, 6, 5, 1, 3] [] [(47, .agg [.int .i64 t0.Modes, .int .u8 t0.Accept, slA eS_Rule t0.Rules]), (6, .int .i64 x9.2), (5, .int .i64 x9.1), (1, .ref 1 0 0), (3, .bool x1)] (by kernel_rfl) trivial ?_
      obtain ⟨x10, hx10, H⟩ := bindS H
      refine OpsW.qcall rfl (by kernel_rfl) rfl rfl (glAll_sound trivial) (.cons (.pur rfl) .nil) (f_R02_Check_ok hx10) rfl ?_
      refine OpsW.seg 5 [8, 7, 6, 5, 1, 3] [] [(8, .int .i64 x10.2), (7, .int .i64 x10.1), (6, .int .i64 x9.2), (5, .int .i64 x9.1), (1, .ref 1 0 0), (3, .bool x1)] (by kernel_rfl) trivial ?_
      refine OpsW.nil ?_
      refine AW.regionSeq ?_
      refine OpsW.seg 10 [60, 59, 8, 3] [(x9.1 == x10.1) = true → (x9.1 == x10.1) = true, (x9.1 == x10.1) = true → (x9.1 == x10.1) = true, (x9.1 == x10.1) = true → (x9.1 == x10.1) = true] [(60, .cnd (cond (x9.1 == x10.1) (x9.2 == x10.2) false) (.agg [.int .i64 t0.Modes, .int .u8 t0.Accept, slA eS_Rule t0.Rules])), (59, .bool (cond (x9.1 == x10.1) (x9.2 == x10.2) false)), (8, .int .i64 x10.2), (3, .bool x1)] (by kernel_rfl) ⟨(fun h => h), (fun h => h), (fun h => by first | exact h | simpa using h), trivial⟩ ?_
      obtain ⟨x11, hx11, H⟩ := bindS H
      refine OpsW.gcall (c := cond (x9.1 == x10.1) (x9.2 == x10.2) false) (r := .bool x11) [] rfl (by kernel_rfl) rfl rfl rfl rfl (fun hc => ⟨glAll_sound ⟨hc, trivial⟩, (.cons (.pur rfl) .nil), f_table_Valid_ok (condT hc hx11), .inl ⟨rfl, rfl⟩⟩) ?_
      refine OpsW.seg 8 [2] [(cond (x9.1 == x10.1) (x9.2 == x10.2) false) = true → (cond (x9.1 == x10.1) (x9.2 == x10.2) false) = true, (cond (x9.1 == x10.1) (x9.2 == x10.2) false) = true → (cond (x9.1 == x10.1) (x9.2 == x10.2) false) = true, (cond (x9.1 == x10.1) (x9.2 == x10.2) false) = true → (cond (x9.1 == x10.1) (x9.2 == x10.2) false) = true, (cond (x9.1 == x10.1) (x9.2 == x10.2) false) = true → (cond (x9.1 == x10.1) (x9.2 == x10.2) false) = true, (cond (cond (x9.1 == x10.1) (x9.2 == x10.2) false) (x11 == (x10.2 == (0 : Int))) false) = true → (cond (cond (x9.1 == x10.1) (x9.2 == x10.2) false) (x11 == (x10.2 == (0 : Int))) false) = true] [(2, .bool (cond (cond (cond (x9.1 == x10.1) (x9.2 == x10.2) false) (x11 == (x10.2 == (0 : Int))) false) x1 false))] (by kernel_rfl) ⟨(fun h => h), (fun h => h), (fun h => h), (fun h => by first | exact h | simpa using h), (fun h => by first | exact h | simpa using h), trivial⟩ ?_
      refine OpsW.nil ?_
      obtain rfl := Option.some.inj H
      refine AW.recast (env' := [(2, .bool (cond (cond (cond (x9.1 == x10.1) (x9.2 == x10.2) false) (x11 == (x10.2 == (0 : Int))) false) x1 false))]) (h' := []) (StC.pure (.cons .im .nil)) ?_
      refine AW.ret ?_
      try simp only [Ex.then, Ex.inBlock, Ex.noGoto, Ex.jump, reduceIte, Nat.reduceEqDiff, reduceCtorEq]
      refine Done.gen rfl (.tmp .nil) ?_
      show _ = _
      kernel_rfl
end Go.Proofs.YtlhpkjgpcenfdaaDoor
