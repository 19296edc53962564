/-
  Written by gen.py (own work): typed functions, and that the program computes them.
-/
import Derived.Test.YtlhpkjgpcenfdaaDoorW4
set_option linter.unusedSimpArgs false
set_option linter.unusedVariables false
set_option maxRecDepth 100000
namespace Go.Proofs.YtlhpkjgpcenfdaaDoor
open Go.Abs
def f_L02_TableCounts_b1 (t0 : Int) (t1 : Int) (t2 : Int) (x1 : Bool) (loop4 : (S_Table × Int) → Option Bool) (v2 : S_Table) (v3 : Int) : Option Bool :=
  cond (decide (v3 < (IntKind.wrap .i64 (Int.tmod t0 (67 : Int))))) (
    G (inR ((1 : Int) + (Int.tmod v3 (62 : Int)))) <|
    G (inR ((33 : Int) + v3)) <|
    G (room 64 (v2.Rules.length + 1)) <|
    G (inR (v3 + (1 : Int))) <|
    loop4 ((⟨v2.Modes, v2.Accept, v2.Rules ++ [(⟨strOf [IntKind.wrap .u8 ((33 : Int) + v3)], [IntKind.wrap .u8 ((1 : Int) + (Int.tmod v3 (62 : Int)))], (63 : Int), (63 : Int), (0 : Int), (0 : Int)⟩ : S_Rule)]⟩ : S_Table), v3 + (1 : Int))) (
    G ((cond (cond (cond (cond (decide ((1 : Int) ≤ t1)) (decide (t1 ≤ (8 : Int))) false) (decide ((0 : Int) < t2)) false) (decide ((1 : Int) ≤ (v2.Rules.length : Int))) false) (decide ((v2.Rules.length : Int) ≤ (64 : Int))) false) = true → 0 ≤ (if (8 : Int) < (if (0 : Int) > (IntKind.wrap .i64 t1) then (0 : Int) else (IntKind.wrap .i64 t1)) then (8 : Int) else (if (0 : Int) > (IntKind.wrap .i64 t1) then (0 : Int) else (IntKind.wrap .i64 t1)))) <|
    (f_table_Check v2).bind fun x11 =>
    cond (cond (cond (cond (cond (cond (decide ((1 : Int) ≤ t1)) (decide (t1 ≤ (8 : Int))) false) (decide ((0 : Int) < t2)) false) (decide ((1 : Int) ≤ (v2.Rules.length : Int))) false) (decide ((v2.Rules.length : Int) ≤ (64 : Int))) false) (decide ((IntKind.wrap .i64 t2) < (bShl .i64 (1 : Int) (if (8 : Int) < (if (0 : Int) > (IntKind.wrap .i64 t1) then (0 : Int) else (IntKind.wrap .i64 t1)) then (8 : Int) else (if (0 : Int) > (IntKind.wrap .i64 t1) then (0 : Int) else (IntKind.wrap .i64 t1)))))) false) (
      some (cond (cond (x11.2 == (0 : Int)) (x11.1 == (0 : Int)) false) x1 false)) (
      some (cond (cond (x11.2 == (1 : Int)) (x11.1 == (-1 : Int)) false) x1 false)))
def f_L02_TableCounts (t0 : Int) (t1 : Int) (t2 : Int) : Option Bool :=
  (f_L02_sanity).bind fun x1 =>
  iter (fun loop (s : S_Table × Int) => f_L02_TableCounts_b1 t0 t1 t2 x1 loop s.1 s.2) 1000000 ((⟨IntKind.wrap .i64 t1, t2, []⟩ : S_Table), (0 : Int))
theorem f_L02_TableCounts_ok  {t0 : Int} {t1 : Int} {t2 : Int} {r : Bool} (H : f_L02_TableCounts t0 t1 t2 = some r) : QSpec Tryd.prog 7 [.int .u8 t0, .int .i8 t1, .int .u8 t2] (.bool r) := by
  refine Spec.of_AW Tryd.func7 rfl (by simp [Tryd.ntmps7]) ?_
  rw [Tryd.ntmps7]
  unfold f_L02_TableCounts at H
  change AW _ _ _ [(0, .int .u8 t0), (1, .int .i8 t1), (2, .int .u8 t2)] [] _
  refine AW.regionSeq ?_
  refine OpsW.seg 1 [0, 1, 2] [] [(0, .int .u8 t0), (1, .int .i8 t1), (2, .int .u8 t2)] (by kernel_rfl) trivial ?_
  refine OpsW.nil ?_
  refine AW.regionSeq ?_
  obtain ⟨x1, hx1, H⟩ := bindS H
  refine OpsW.qcall rfl (by kernel_rfl) rfl rfl (glAll_sound trivial) .nil (f_L02_sanity_ok hx1) rfl ?_
  refine OpsW.seg 1 [7, 0, 1, 2] [] [(7, .bool x1), (0, .int .u8 t0), (1, .int .i8 t1), (2, .int .u8 t2)] (by kernel_rfl) trivial ?_
  refine OpsW.nil ?_
  refine AW.regionSeq ?_
  refine OpsW.seg 4 [18, 7, 0, 1, 2] [] [(18, .agg [.int .i64 (IntKind.wrap .i64 t1), .int .u8 t2, .im (.val (.slice none 0 0))]), (7, .bool x1), (0, .int .u8 t0), (1, .int .i8 t1), (2, .int .u8 t2)] (by kernel_rfl) trivial ?_
  refine OpsW.alloc' rfl rfl rfl 8 rfl (by kernel_rfl : zc Tryd.prog 33 = some [.int .i64 0, .int .u8 0, .slice none 0 0]) (by kernel_rfl) ?_
  refine OpsW.store rfl rfl rfl rfl trivial trivial rfl rfl rfl (by kernel_rfl) (okCb_sound (by kernel_rfl)) (Nat.le_of_ble_eq_true (by kernel_rfl)) ?_
  change OpsW _ _ _ _ _ [(8, ⟨0, true, 33, 3, [.int .i64 (IntKind.wrap .i64 t1), .int .u8 t2, .im (.val (.slice none 0 0))]⟩), (8, ⟨0, true, 33, 3, [.int .i64 (0 : Int), .int .u8 (0 : Int), .im (.val (.slice none 0 0))]⟩)] _
  refine OpsW.seg 0 [8, 7, 0, 1, 2] [] [(8, .ref 8 0 0), (7, .bool x1), (0, .int .u8 t0), (1, .int .i8 t1), (2, .int .u8 t2)] (by kernel_rfl) trivial ?_
  refine OpsW.recast (env' := [(8, .ref 8 0 0), (7, .bool x1), (0, .int .u8 t0), (1, .int .i8 t1), (2, .int .u8 t2)]) (h' := [(8, ⟨0, true, 33, 3, [.int .i64 (IntKind.wrap .i64 t1), .int .u8 t2, .im (.val (.slice none 0 0))]⟩)]) (StC.mk (phi [(8, some 8)]) (.old rfl rfl rfl rfl rfl (.cons .im (.cons .im (.cons .im .nil))) .nil) rfl (.cons (.ref rfl rfl rfl rfl rfl) (.cons .im (.cons .im (.cons .im (.cons .im .nil)))))) ?_
  refine OpsW.nil ?_
  refine AW.seq ?_
  refine AW.regionSeq ?_
  refine OpsW.seg 1 [9, 8, 7, 0, 1, 2] [] [(9, .int .i64 (0 : Int)), (8, .ref 8 0 0), (7, .bool x1), (0, .int .u8 t0), (1, .int .i8 t1), (2, .int .u8 t2)] (by kernel_rfl) trivial ?_
  refine OpsW.nil ?_
  refine AW.block ?_
  refine AW.iterK (fun loop (s : S_Table × Int) => f_L02_TableCounts_b1 t0 t1 t2 x1 loop s.1 s.2) r (fun (s : S_Table × Int) => [(0, .int .u8 t0), (1, .int .i8 t1), (2, .int .u8 t2), (7, .bool x1), (8, .ref 8 0 0), (9, .int .i64 s.2)]) (fun (s : S_Table × Int) => [(8, ⟨0, true, 33, 3, [.int .i64 s.1.Modes, .int .u8 s.1.Accept, .rsl 5080 0 0 s.1.Rules.length]⟩), (5080, rtA 0 36 6 eS_Rule s.1.Rules)]) ?_ 1000000 ((⟨IntKind.wrap .i64 t1, t2, []⟩ : S_Table), (0 : Int)) H (StC.mk (phi [(8, some 8), (5080, none)]) (.old rfl rfl rfl rfl rfl (.cons .im (.cons .im (.cons (.nilr rfl rfl rfl) .nil))) (.new rfl .nil)) rfl (.cons .im (.cons .im (.cons .im (.cons .im (.cons (.ref rfl rfl rfl rfl rfl) (.cons .im .nil)))))))
  intro loop4 s H
  obtain ⟨v2, v3⟩ := s
  change f_L02_TableCounts_b1 t0 t1 t2 x1 loop4 v2 v3 = some r at H
  unfold f_L02_TableCounts_b1 at H
  change AW _ _ _ [(0, .int .u8 t0), (1, .int .i8 t1), (2, .int .u8 t2), (7, .bool x1), (8, .ref 8 0 0), (9, .int .i64 v3)] [(8, ⟨0, true, 33, 3, [.int .i64 v2.Modes, .int .u8 v2.Accept, .rsl 5080 0 0 v2.Rules.length]⟩), (5080, rtA 0 36 6 eS_Rule v2.Rules)] _
  refine AW.seq ?_
  refine AW.regionSeq ?_
  refine OpsW.seg 5 [23, 0, 1, 2, 7, 8, 9] [(67 : Int) ≠ 0] [(23, .bool (decide (v3 < (IntKind.wrap .i64 (Int.tmod t0 (67 : Int)))))), (0, .int .u8 t0), (1, .int .i8 t1), (2, .int .u8 t2), (7, .bool x1), (8, .ref 8 0 0), (9, .int .i64 v3)] (by kernel_rfl) ⟨(by decide), trivial⟩ ?_
  refine OpsW.nil ?_
  refine AW.cond (b := decide (v3 < (IntKind.wrap .i64 (Int.tmod t0 (67 : Int))))) rfl (fun c5 => ?_) (fun c5 => ?_)
  · replace H := condT c5 H
    refine AW.skip ?_
    refine AW.seq ?_
    refine AW.block ?_
    refine AW.regionSeq ?_
    obtain ⟨g6, H⟩ := G_some H
    refine OpsW.seg 5 [10, 0, 1, 2, 7, 8, 9] [(62 : Int) ≠ 0, inR ((1 : Int) + (Int.tmod v3 (62 : Int)))] [(10, .int .u8 (IntKind.wrap .u8 ((1 : Int) + (Int.tmod v3 (62 : Int))))), (0, .int .u8 t0), (1, .int .i8 t1), (2, .int .u8 t2), (7, .bool x1), (8, .ref 8 0 0), (9, .int .i64 v3)] (by kernel_rfl) ⟨(by decide), g6, trivial⟩ ?_
    refine OpsW.nil ?_
    refine AW.region ?_
    obtain ⟨g7, H⟩ := G_some H
    refine OpsW.seg 5 [34, 31, 10, 0, 1, 2, 7, 8, 9] [inR ((33 : Int) + v3)] [(34, .int .u8 (IntKind.wrap .u8 ((33 : Int) + v3))), (31, .rsl 5080 0 0 v2.Rules.length), (10, .int .u8 (IntKind.wrap .u8 ((1 : Int) + (Int.tmod v3 (62 : Int))))), (0, .int .u8 t0), (1, .int .i8 t1), (2, .int .u8 t2), (7, .bool x1), (8, .ref 8 0 0), (9, .int .i64 v3)] (by kernel_rfl) ⟨g7, trivial⟩ ?_
    refine OpsW.buildTI (enc := eI .u8) [IntKind.wrap .u8 ((33 : Int) + v3)] rfl rfl rfl E51 (fun _ => rfl) (by decide) ⟨trivial, by kernel_rfl, by kernel_rfl, by kernel_rfl, rfl⟩ ?_
    refine OpsW.quietU (.string (strOf [IntKind.wrap .u8 ((33 : Int) + v3)])) rfl rfl (Quiet.toStr (e := 5) [IntKind.wrap .u8 ((33 : Int) + v3)] rfl (by kernel_rfl) (by kernel_rfl) (by kernel_rfl) (gpoU rfl ⟨trivial, SlV.im, SrcA.typed (enc := eI .u8) (fun _ => rfl) (by kernel_rfl) [IntKind.wrap .u8 ((33 : Int) + v3)]⟩)) ?_
    refine OpsW.seg 1 [37, 36, 31, 0, 1, 2, 7, 8, 9] [] [(37, .int .u8 (IntKind.wrap .u8 ((1 : Int) + (Int.tmod v3 (62 : Int))))), (36, .string (strOf [IntKind.wrap .u8 ((33 : Int) + v3)])), (31, .rsl 5080 0 0 v2.Rules.length), (0, .int .u8 t0), (1, .int .i8 t1), (2, .int .u8 t2), (7, .bool x1), (8, .ref 8 0 0), (9, .int .i64 v3)] (by kernel_rfl) trivial ?_
    refine OpsW.buildTI (enc := eI .u8) [IntKind.wrap .u8 ((1 : Int) + (Int.tmod v3 (62 : Int)))] rfl rfl rfl E34 (fun _ => rfl) (by decide) ⟨trivial, by kernel_rfl, by kernel_rfl, by kernel_rfl, rfl⟩ ?_
    refine OpsW.seg 1 [39, 31, 0, 1, 2, 7, 8, 9] [] [(39, .agg [.string (strOf [IntKind.wrap .u8 ((33 : Int) + v3)]), slA (eI .u8) [IntKind.wrap .u8 ((1 : Int) + (Int.tmod v3 (62 : Int)))], .int .u8 (63 : Int), .int .u8 (63 : Int), .int .i64 (0 : Int), .int .i64 (0 : Int)]), (31, .rsl 5080 0 0 v2.Rules.length), (0, .int .u8 t0), (1, .int .i8 t1), (2, .int .u8 t2), (7, .bool x1), (8, .ref 8 0 0), (9, .int .i64 v3)] (by kernel_rfl) trivial ?_
    obtain ⟨g8, H⟩ := G_some H
    refine OpsW.appendLF (enc := eS_Rule) [(⟨strOf [IntKind.wrap .u8 ((33 : Int) + v3)], [IntKind.wrap .u8 ((1 : Int) + (Int.tmod v3 (62 : Int)))], (63 : Int), (63 : Int), (0 : Int), (0 : Int)⟩ : S_Rule)] rfl rfl rfl (by decide) rfl rfl rfl (by simp) E31 (fun _ => rfl) (by decide) trivial (by kernel_rfl) (by kernel_rfl) (by kernel_rfl) rfl rfl rfl g8 ?_
    refine OpsW.seg 1 [42, 41, 0, 1, 2, 7, 8, 9] [] [(42, .ref 8 0 2), (41, .rsl 5080 1 0 ((v2.Rules ++ [(⟨strOf [IntKind.wrap .u8 ((33 : Int) + v3)], [IntKind.wrap .u8 ((1 : Int) + (Int.tmod v3 (62 : Int)))], (63 : Int), (63 : Int), (0 : Int), (0 : Int)⟩ : S_Rule)]).length)), (0, .int .u8 t0), (1, .int .i8 t1), (2, .int .u8 t2), (7, .bool x1), (8, .ref 8 0 0), (9, .int .i64 v3)] (by kernel_rfl) trivial ?_
    refine OpsW.store rfl rfl rfl rfl trivial trivial rfl rfl rfl (by kernel_rfl) (okCb_sound (by kernel_rfl)) (Nat.le_of_ble_eq_true (by kernel_rfl)) ?_
    change OpsW _ _ _ _ _ [(8, ⟨0, true, 33, 3, [.int .i64 v2.Modes, .int .u8 v2.Accept, .rsl 5080 1 0 ((v2.Rules ++ [(⟨strOf [IntKind.wrap .u8 ((33 : Int) + v3)], [IntKind.wrap .u8 ((1 : Int) + (Int.tmod v3 (62 : Int)))], (63 : Int), (63 : Int), (0 : Int), (0 : Int)⟩ : S_Rule)]).length)]⟩), (5080, rtA 1 36 6 eS_Rule (v2.Rules ++ [(⟨strOf [IntKind.wrap .u8 ((33 : Int) + v3)], [IntKind.wrap .u8 ((1 : Int) + (Int.tmod v3 (62 : Int)))], (63 : Int), (63 : Int), (0 : Int), (0 : Int)⟩ : S_Rule)])), (8, ⟨0, true, 33, 3, [.int .i64 v2.Modes, .int .u8 v2.Accept, .rsl 5080 0 0 v2.Rules.length]⟩), (5080, rtA 0 36 6 eS_Rule v2.Rules)] _
    refine OpsW.seg 0 [0, 1, 2, 7, 8, 9] [] [(0, .int .u8 t0), (1, .int .i8 t1), (2, .int .u8 t2), (7, .bool x1), (8, .ref 8 0 0), (9, .int .i64 v3)] (by kernel_rfl) trivial ?_
    refine OpsW.recast (env' := [(0, .int .u8 t0), (1, .int .i8 t1), (2, .int .u8 t2), (7, .bool x1), (8, .ref 8 0 0), (9, .int .i64 v3)]) (h' := [(8, ⟨0, true, 33, 3, [.int .i64 v2.Modes, .int .u8 v2.Accept, .rsl 5080 0 0 ((v2.Rules ++ [(⟨strOf [IntKind.wrap .u8 ((33 : Int) + v3)], [IntKind.wrap .u8 ((1 : Int) + (Int.tmod v3 (62 : Int)))], (63 : Int), (63 : Int), (0 : Int), (0 : Int)⟩ : S_Rule)]).length)]⟩), (5080, rtA 0 36 6 eS_Rule (v2.Rules ++ [(⟨strOf [IntKind.wrap .u8 ((33 : Int) + v3)], [IntKind.wrap .u8 ((1 : Int) + (Int.tmod v3 (62 : Int)))], (63 : Int), (63 : Int), (0 : Int), (0 : Int)⟩ : S_Rule)]))]) (StC.mk (phi [(8, some 8), (5080, some 5080)]) (.old rfl rfl rfl rfl rfl (.cons .im (.cons .im (.cons (.rsl rfl rfl rfl rfl rfl rfl) .nil))) (.old rfl rfl rfl rfl rfl (CstL.ims _) .nil)) rfl (.cons .im (.cons .im (.cons .im (.cons .im (.cons (.ref rfl rfl rfl rfl rfl) (.cons .im .nil))))))) ?_
    refine OpsW.nil ?_
    refine AW.region ?_
    obtain ⟨g9, H⟩ := G_some H
    refine OpsW.seg 3 [9, 0, 1, 2, 7, 8] [inR (v3 + (1 : Int))] [(9, .int .i64 (v3 + (1 : Int))), (0, .int .u8 t0), (1, .int .i8 t1), (2, .int .u8 t2), (7, .bool x1), (8, .ref 8 0 0)] (by kernel_rfl) ⟨g9, trivial⟩ ?_
    refine OpsW.nil ?_
    show ∃ y, _ ∧ StC _ _ _ _
    exact ⟨((⟨v2.Modes, v2.Accept, v2.Rules ++ [(⟨strOf [IntKind.wrap .u8 ((33 : Int) + v3)], [IntKind.wrap .u8 ((1 : Int) + (Int.tmod v3 (62 : Int)))], (63 : Int), (63 : Int), (0 : Int), (0 : Int)⟩ : S_Rule)]⟩ : S_Table), v3 + (1 : Int)), H, (StC.mk (phi [(8, some 8), (5080, some 5080)]) (.old rfl rfl rfl rfl rfl (.cons .im (.cons .im (.cons (.rsl rfl rfl rfl rfl rfl rfl) .nil))) (.old rfl rfl rfl rfl rfl (CstL.ims _) .nil)) rfl (.cons .im (.cons .im (.cons .im (.cons .im (.cons (.ref rfl rfl rfl rfl rfl) (.cons .im .nil)))))))⟩
  · replace H := condF c5 H
    refine AW.exit ?_
    refine AW.regionSeq ?_
    refine OpsW.seg 23 [11, 1, 2, 7, 8] [(decide ((1 : Int) ≤ t1)) = true → (decide ((1 : Int) ≤ t1)) = true, (decide ((1 : Int) ≤ t1)) = true → (decide ((1 : Int) ≤ t1)) = true, (cond (decide ((1 : Int) ≤ t1)) (decide (t1 ≤ (8 : Int))) false) = true → (cond (decide ((1 : Int) ≤ t1)) (decide (t1 ≤ (8 : Int))) false) = true, (cond (decide ((1 : Int) ≤ t1)) (decide (t1 ≤ (8 : Int))) false) = true → (cond (decide ((1 : Int) ≤ t1)) (decide (t1 ≤ (8 : Int))) false) = true, (cond (cond (decide ((1 : Int) ≤ t1)) (decide (t1 ≤ (8 : Int))) false) (decide ((0 : Int) < t2)) false) = true → (cond (cond (decide ((1 : Int) ≤ t1)) (decide (t1 ≤ (8 : Int))) false) (decide ((0 : Int) < t2)) false) = true, (cond (cond (decide ((1 : Int) ≤ t1)) (decide (t1 ≤ (8 : Int))) false) (decide ((0 : Int) < t2)) false) = true → (cond (cond (decide ((1 : Int) ≤ t1)) (decide (t1 ≤ (8 : Int))) false) (decide ((0 : Int) < t2)) false) = true, (cond (cond (decide ((1 : Int) ≤ t1)) (decide (t1 ≤ (8 : Int))) false) (decide ((0 : Int) < t2)) false) = true → (cond (cond (decide ((1 : Int) ≤ t1)) (decide (t1 ≤ (8 : Int))) false) (decide ((0 : Int) < t2)) false) = true, (cond (cond (decide ((1 : Int) ≤ t1)) (decide (t1 ≤ (8 : Int))) false) (decide ((0 : Int) < t2)) false) = true → (cond (cond (decide ((1 : Int) ≤ t1)) (decide (t1 ≤ (8 : Int))) false) (decide ((0 : Int) < t2)) false) = true, (cond (cond (cond (decide ((1 : Int) ≤ t1)) (decide (t1 ≤ (8 : Int))) false) (decide ((0 : Int) < t2)) false) (decide ((1 : Int) ≤ (v2.Rules.length : Int))) false) = true → (cond (cond (cond (decide ((1 : Int) ≤ t1)) (decide (t1 ≤ (8 : Int))) false) (decide ((0 : Int) < t2)) false) (decide ((1 : Int) ≤ (v2.Rules.length : Int))) false) = true, (cond (cond (cond (decide ((1 : Int) ≤ t1)) (decide (t1 ≤ (8 : Int))) false) (decide ((0 : Int) < t2)) false) (decide ((1 : Int) ≤ (v2.Rules.length : Int))) false) = true → (cond (cond (cond (decide ((1 : Int) ≤ t1)) (decide (t1 ≤ (8 : Int))) false) (decide ((0 : Int) < t2)) false) (decide ((1 : Int) ≤ (v2.Rules.length : Int))) false) = true, (cond (cond (cond (decide ((1 : Int) ≤ t1)) (decide (t1 ≤ (8 : Int))) false) (decide ((0 : Int) < t2)) false) (decide ((1 : Int) ≤ (v2.Rules.length : Int))) false) = true → (cond (cond (cond (decide ((1 : Int) ≤ t1)) (decide (t1 ≤ (8 : Int))) false) (decide ((0 : Int) < t2)) false) (decide ((1 : Int) ≤ (v2.Rules.length : Int))) false) = true, (cond (cond (cond (decide ((1 : Int) ≤ t1)) (decide (t1 ≤ (8 : Int))) false) (decide ((0 : Int) < t2)) false) (decide ((1 : Int) ≤ (v2.Rules.length : Int))) false) = true → (cond (cond (cond (decide ((1 : Int) ≤ t1)) (decide (t1 ≤ (8 : Int))) false) (decide ((0 : Int) < t2)) false) (decide ((1 : Int) ≤ (v2.Rules.length : Int))) false) = true] [(11, .bool (cond (cond (cond (cond (decide ((1 : Int) ≤ t1)) (decide (t1 ≤ (8 : Int))) false) (decide ((0 : Int) < t2)) false) (decide ((1 : Int) ≤ (v2.Rules.length : Int))) false) (decide ((v2.Rules.length : Int) ≤ (64 : Int))) false)), (1, .int .i8 t1), (2, .int .u8 t2), (7, .bool x1), (8, .ref 8 0 0)] (by kernel_rfl) ⟨(fun h => h), (fun h => by first | exact h | simpa using h), (fun h => h), (fun h => by first | exact h | simpa using h), (fun h => h), (fun h => h), (fun h => h), (fun h => by first | exact h | simpa using h), (fun h => h), (fun h => h), (fun h => h), (fun h => by first | exact h | simpa using h), trivial⟩ ?_
    refine OpsW.nil ?_
    refine AW.regionSeq ?_
    obtain ⟨g10, H⟩ := G_some H
    refine OpsW.seg 12 [11, 7, 8] [(cond (cond (cond (cond (decide ((1 : Int) ≤ t1)) (decide (t1 ≤ (8 : Int))) false) (decide ((0 : Int) < t2)) false) (decide ((1 : Int) ≤ (v2.Rules.length : Int))) false) (decide ((v2.Rules.length : Int) ≤ (64 : Int))) false) = true → (cond (cond (cond (cond (decide ((1 : Int) ≤ t1)) (decide (t1 ≤ (8 : Int))) false) (decide ((0 : Int) < t2)) false) (decide ((1 : Int) ≤ (v2.Rules.length : Int))) false) (decide ((v2.Rules.length : Int) ≤ (64 : Int))) false) = true, (cond (cond (cond (cond (decide ((1 : Int) ≤ t1)) (decide (t1 ≤ (8 : Int))) false) (decide ((0 : Int) < t2)) false) (decide ((1 : Int) ≤ (v2.Rules.length : Int))) false) (decide ((v2.Rules.length : Int) ≤ (64 : Int))) false) = true → (cond (cond (cond (cond (decide ((1 : Int) ≤ t1)) (decide (t1 ≤ (8 : Int))) false) (decide ((0 : Int) < t2)) false) (decide ((1 : Int) ≤ (v2.Rules.length : Int))) false) (decide ((v2.Rules.length : Int) ≤ (64 : Int))) false) = true, (cond (cond (cond (cond (decide ((1 : Int) ≤ t1)) (decide (t1 ≤ (8 : Int))) false) (decide ((0 : Int) < t2)) false) (decide ((1 : Int) ≤ (v2.Rules.length : Int))) false) (decide ((v2.Rules.length : Int) ≤ (64 : Int))) false) = true → (cond (cond (cond (cond (decide ((1 : Int) ≤ t1)) (decide (t1 ≤ (8 : Int))) false) (decide ((0 : Int) < t2)) false) (decide ((1 : Int) ≤ (v2.Rules.length : Int))) false) (decide ((v2.Rules.length : Int) ≤ (64 : Int))) false) = true, (cond (cond (cond (cond (decide ((1 : Int) ≤ t1)) (decide (t1 ≤ (8 : Int))) false) (decide ((0 : Int) < t2)) false) (decide ((1 : Int) ≤ (v2.Rules.length : Int))) false) (decide ((v2.Rules.length : Int) ≤ (64 : Int))) false) = true → (cond (cond (cond (cond (decide ((1 : Int) ≤ t1)) (decide (t1 ≤ (8 : Int))) false) (decide ((0 : Int) < t2)) false) (decide ((1 : Int) ≤ (v2.Rules.length : Int))) false) (decide ((v2.Rules.length : Int) ≤ (64 : Int))) false) = true, (cond (cond (cond (cond (decide ((1 : Int) ≤ t1)) (decide (t1 ≤ (8 : Int))) false) (decide ((0 : Int) < t2)) false) (decide ((1 : Int) ≤ (v2.Rules.length : Int))) false) (decide ((v2.Rules.length : Int) ≤ (64 : Int))) false) = true → (cond (cond (cond (cond (decide ((1 : Int) ≤ t1)) (decide (t1 ≤ (8 : Int))) false) (decide ((0 : Int) < t2)) false) (decide ((1 : Int) ≤ (v2.Rules.length : Int))) false) (decide ((v2.Rules.length : Int) ≤ (64 : Int))) false) = true, (cond (cond (cond (cond (decide ((1 : Int) ≤ t1)) (decide (t1 ≤ (8 : Int))) false) (decide ((0 : Int) < t2)) false) (decide ((1 : Int) ≤ (v2.Rules.length : Int))) false) (decide ((v2.Rules.length : Int) ≤ (64 : Int))) false) = true → 0 ≤ (if (8 : Int) < (if (0 : Int) > (IntKind.wrap .i64 t1) then (0 : Int) else (IntKind.wrap .i64 t1)) then (8 : Int) else (if (0 : Int) > (IntKind.wrap .i64 t1) then (0 : Int) else (IntKind.wrap .i64 t1))), (cond (cond (cond (cond (decide ((1 : Int) ≤ t1)) (decide (t1 ≤ (8 : Int))) false) (decide ((0 : Int) < t2)) false) (decide ((1 : Int) ≤ (v2.Rules.length : Int))) false) (decide ((v2.Rules.length : Int) ≤ (64 : Int))) false) = true → (cond (cond (cond (cond (decide ((1 : Int) ≤ t1)) (decide (t1 ≤ (8 : Int))) false) (decide ((0 : Int) < t2)) false) (decide ((1 : Int) ≤ (v2.Rules.length : Int))) false) (decide ((v2.Rules.length : Int) ≤ (64 : Int))) false) = true, (cond (cond (cond (cond (decide ((1 : Int) ≤ t1)) (decide (t1 ≤ (8 : Int))) false) (decide ((0 : Int) < t2)) false) (decide ((1 : Int) ≤ (v2.Rules.length : Int))) false) (decide ((v2.Rules.length : Int) ≤ (64 : Int))) false) = true → (cond (cond (cond (cond (decide ((1 : Int) ≤ t1)) (decide (t1 ≤ (8 : Int))) false) (decide ((0 : Int) < t2)) false) (decide ((1 : Int) ≤ (v2.Rules.length : Int))) false) (decide ((v2.Rules.length : Int) ≤ (64 : Int))) false) = true, (cond (cond (cond (cond (decide ((1 : Int) ≤ t1)) (decide (t1 ≤ (8 : Int))) false) (decide ((0 : Int) < t2)) false) (decide ((1 : Int) ≤ (v2.Rules.length : Int))) false) (decide ((v2.Rules.length : Int) ≤ (64 : Int))) false) = true → (cond (cond (cond (cond (decide ((1 : Int) ≤ t1)) (decide (t1 ≤ (8 : Int))) false) (decide ((0 : Int) < t2)) false) (decide ((1 : Int) ≤ (v2.Rules.length : Int))) false) (decide ((v2.Rules.length : Int) ≤ (64 : Int))) false) = true] [(11, .bool (cond (cond (cond (cond (cond (decide ((1 : Int) ≤ t1)) (decide (t1 ≤ (8 : Int))) false) (decide ((0 : Int) < t2)) false) (decide ((1 : Int) ≤ (v2.Rules.length : Int))) false) (decide ((v2.Rules.length : Int) ≤ (64 : Int))) false) (decide ((IntKind.wrap .i64 t2) < (bShl .i64 (1 : Int) (if (8 : Int) < (if (0 : Int) > (IntKind.wrap .i64 t1) then (0 : Int) else (IntKind.wrap .i64 t1)) then (8 : Int) else (if (0 : Int) > (IntKind.wrap .i64 t1) then (0 : Int) else (IntKind.wrap .i64 t1)))))) false)), (7, .bool x1), (8, .ref 8 0 0)] (by kernel_rfl) ⟨(fun h => h), (fun h => h), (fun h => h), (fun h => h), (fun h => h), g10, (fun h => h), (fun h => h), (fun h => by first | exact h | simpa using h), trivial⟩ ?_
    refine OpsW.nil ?_
    refine AW.regionSeq ?_
    refine OpsW.seg 1 [77, 11, 7] [] [(77, .agg [.int .i64 v2.Modes, .int .u8 v2.Accept, .rsl 5080 0 0 v2.Rules.length]), (11, .bool (cond (cond (cond (cond (cond (decide ((1 : Int) ≤ t1)) (decide (t1 ≤ (8 : Int))) false) (decide ((0 : Int) < t2)) false) (decide ((1 : Int) ≤ (v2.Rules.length : Int))) false) (decide ((v2.Rules.length : Int) ≤ (64 : Int))) false) (decide ((IntKind.wrap .i64 t2) < (bShl .i64 (1 : Int) (if (8 : Int) < (if (0 : Int) > (IntKind.wrap .i64 t1) then (0 : Int) else (IntKind.wrap .i64 t1)) then (8 : Int) else (if (0 : Int) > (IntKind.wrap .i64 t1) then (0 : Int) else (IntKind.wrap .i64 t1)))))) false)), (7, .bool x1)] (by kernel_rfl) trivial ?_
    obtain ⟨x11, hx11, H⟩ := bindS H
    refine OpsW.bcall (r := .tup [.int .i64 x11.1, .int .i64 x11.2]) [5080] rfl (by kernel_rfl) rfl rfl (glAll_sound trivial) (.cons (ArgS.agg (.cons (.pur rfl) (.cons (.pur rfl) (.cons (ArgS.root (enc := eS_Rule) (l := v2.Rules) (fun _ => rfl) (by simp) rfl) .nil)))) .nil) (f_table_Check_ok hx11) rfl ?_
    refine OpsW.seg 5 [13, 12, 11, 7] [] [(13, .int .i64 x11.2), (12, .int .i64 x11.1), (11, .bool (cond (cond (cond (cond (cond (decide ((1 : Int) ≤ t1)) (decide (t1 ≤ (8 : Int))) false) (decide ((0 : Int) < t2)) false) (decide ((1 : Int) ≤ (v2.Rules.length : Int))) false) (decide ((v2.Rules.length : Int) ≤ (64 : Int))) false) (decide ((IntKind.wrap .i64 t2) < (bShl .i64 (1 : Int) (if (8 : Int) < (if (0 : Int) > (IntKind.wrap .i64 t1) then (0 : Int) else (IntKind.wrap .i64 t1)) then (8 : Int) else (if (0 : Int) > (IntKind.wrap .i64 t1) then (0 : Int) else (IntKind.wrap .i64 t1)))))) false)), (7, .bool x1)] (by kernel_rfl) trivial ?_
    refine OpsW.nil ?_
    refine AW.seq ?_
    refine AW.regionSeq ?_
    refine OpsW.seg 1 [81, 13, 12, 7] [] [(81, .bool (cond (cond (cond (cond (cond (decide ((1 : Int) ≤ t1)) (decide (t1 ≤ (8 : Int))) false) (decide ((0 : Int) < t2)) false) (decide ((1 : Int) ≤ (v2.Rules.length : Int))) false) (decide ((v2.Rules.length : Int) ≤ (64 : Int))) false) (decide ((IntKind.wrap .i64 t2) < (bShl .i64 (1 : Int) (if (8 : Int) < (if (0 : Int) > (IntKind.wrap .i64 t1) then (0 : Int) else (IntKind.wrap .i64 t1)) then (8 : Int) else (if (0 : Int) > (IntKind.wrap .i64 t1) then (0 : Int) else (IntKind.wrap .i64 t1)))))) false)), (13, .int .i64 x11.2), (12, .int .i64 x11.1), (7, .bool x1)] (by kernel_rfl) trivial ?_
    refine OpsW.nil ?_
    refine AW.cond (b := cond (cond (cond (cond (cond (decide ((1 : Int) ≤ t1)) (decide (t1 ≤ (8 : Int))) false) (decide ((0 : Int) < t2)) false) (decide ((1 : Int) ≤ (v2.Rules.length : Int))) false) (decide ((v2.Rules.length : Int) ≤ (64 : Int))) false) (decide ((IntKind.wrap .i64 t2) < (bShl .i64 (1 : Int) (if (8 : Int) < (if (0 : Int) > (IntKind.wrap .i64 t1) then (0 : Int) else (IntKind.wrap .i64 t1)) then (8 : Int) else (if (0 : Int) > (IntKind.wrap .i64 t1) then (0 : Int) else (IntKind.wrap .i64 t1)))))) false) rfl (fun c12 => ?_) (fun c12 => ?_)
    · replace H := condT c12 H
      refine AW.regionSeq ?_
      refine OpsW.seg 10 [6] [(x11.2 == (0 : Int)) = true → (x11.2 == (0 : Int)) = true, (x11.2 == (0 : Int)) = true → (x11.2 == (0 : Int)) = true, (cond (x11.2 == (0 : Int)) (x11.1 == (0 : Int)) false) = true → (cond (x11.2 == (0 : Int)) (x11.1 == (0 : Int)) false) = true] [(6, .bool (cond (cond (x11.2 == (0 : Int)) (x11.1 == (0 : Int)) false) x1 false))] (by kernel_rfl) ⟨(fun h => h), (fun h => by first | exact h | simpa using h), (fun h => by first | exact h | simpa using h), trivial⟩ ?_
      refine OpsW.nil ?_
      obtain rfl := Option.some.inj H
      refine AW.recast (env' := [(6, .bool (cond (cond (x11.2 == (0 : Int)) (x11.1 == (0 : Int)) false) x1 false))]) (h' := []) (StC.pure (.cons .im .nil)) ?_
      refine AW.ret ?_
      try simp only [Ex.then, Ex.inBlock, Ex.noGoto, Ex.jump, reduceIte, Nat.reduceEqDiff, reduceCtorEq]
      refine Done.gen rfl (.tmp .nil) ?_
      show _ = _
      kernel_rfl
    · replace H := condF c12 H
      refine AW.skip ?_
      refine AW.regionSeq ?_
      refine OpsW.seg 10 [6] [(x11.2 == (1 : Int)) = true → (x11.2 == (1 : Int)) = true, (x11.2 == (1 : Int)) = true → (x11.2 == (1 : Int)) = true, (cond (x11.2 == (1 : Int)) (x11.1 == (-1 : Int)) false) = true → (cond (x11.2 == (1 : Int)) (x11.1 == (-1 : Int)) false) = true] [(6, .bool (cond (cond (x11.2 == (1 : Int)) (x11.1 == (-1 : Int)) false) x1 false))] (by kernel_rfl) ⟨(fun h => h), (fun h => by first | exact h | simpa using h), (fun h => by first | exact h | simpa using h), trivial⟩ ?_
      refine OpsW.nil ?_
      obtain rfl := Option.some.inj H
      refine AW.recast (env' := [(6, .bool (cond (cond (x11.2 == (1 : Int)) (x11.1 == (-1 : Int)) false) x1 false))]) (h' := []) (StC.pure (.cons .im .nil)) ?_
      refine AW.ret ?_
      try simp only [Ex.then, Ex.inBlock, Ex.noGoto, Ex.jump, reduceIte, Nat.reduceEqDiff, reduceCtorEq]
      refine Done.gen rfl (.tmp .nil) ?_
      show _ = _
      kernel_rfl
end Go.Proofs.YtlhpkjgpcenfdaaDoor
