/-
  Written by gen.py (own work): typed functions, and that the program computes them.
-/
import Derived.Test.YtfpcbalkioolmaaDoorW2
set_option linter.unusedSimpArgs false
set_option linter.unusedVariables false
set_option maxRecDepth 100000
namespace Go.Proofs.YtfpcbalkioolmaaDoor
open Go.Abs
def f_linear_writer_number_body_k1 (t1 : Int) (v1 : S_writer) : Option S_writer :=
  G (inR ((Int.tmod t1 (10 : Int)) + (9 : Int))) <|
  G (0 ≤ (Int.tmod ((Int.tmod t1 (10 : Int)) + (9 : Int)) (10 : Int)) ∧ (Int.tmod ((Int.tmod t1 (10 : Int)) + (9 : Int)) (10 : Int)) < (26 : Int)) <|
  (f_linear_writer_put (⟨v1.f_, v1.at_, v1.level_, v1.cells_, ()⟩ : S_writer) [tab_linear_letters.getD (Int.tmod ((Int.tmod t1 (10 : Int)) + (9 : Int)) (10 : Int)).toNat (0 : Int)]).bind fun x4 =>
  some (⟨x4.f_, x4.at_, x4.level_, x4.cells_, ()⟩ : S_writer)
def f_linear_writer_number_body (rec_f_linear_writer_number : S_writer → Int → Option S_writer) (t0 : S_writer) (t1 : Int) : Option S_writer :=
  cond (decide ((10 : Int) ≤ t1)) (
    G (inR (Int.tdiv t1 (10 : Int))) <|
    (rec_f_linear_writer_number (⟨t0.f_, t0.at_, t0.level_, t0.cells_, ()⟩ : S_writer) (Int.tdiv t1 (10 : Int))).bind fun x7 =>
    f_linear_writer_number_body_k1 t1 (⟨x7.f_, x7.at_, x7.level_, x7.cells_, ()⟩ : S_writer)) (
    f_linear_writer_number_body_k1 t1 (⟨t0.f_, t0.at_, t0.level_, t0.cells_, ()⟩ : S_writer))
theorem f_linear_writer_number_body_io {rec_f_linear_writer_number : S_writer → Int → Option S_writer} (hrec_f_linear_writer_number : ∀ (t0 : S_writer) (t1 : Int) (r : S_writer), rec_f_linear_writer_number t0 t1 = some r → Abs.Spec Tryd.prog 41 [.ref 2010 0 0, .int .i64 t1] [(2010, ⟨0, true, 58, 5, [slA eS_Node t0.f_, .int .i64 t0.at_, .rsl 3010 0 0 t0.level_.length, .rsl 3011 0 0 t0.cells_.length, .im (.mp (mapV brTab))]⟩), (3010, rtA 0 33 1 (eI .u8) t0.level_), (3011, rtA 0 33 1 (eI .u8) t0.cells_)] (fun x h => x = .tup [] ∧ h = [(2010, ⟨0, true, 58, 5, [slA eS_Node r.f_, .int .i64 r.at_, .rsl 3010 1 0 r.level_.length, .rsl 3011 1 0 r.cells_.length, .im (.mp (mapV brTab))]⟩), (3010, rtA 1 33 1 (eI .u8) r.level_), (3011, rtA 1 33 1 (eI .u8) r.cells_)])) {t0 : S_writer} {t1 : Int} {r : S_writer} (H : f_linear_writer_number_body rec_f_linear_writer_number t0 t1 = some r) : Abs.Spec Tryd.prog 41 [.ref 2010 0 0, .int .i64 t1] [(2010, ⟨0, true, 58, 5, [slA eS_Node t0.f_, .int .i64 t0.at_, .rsl 3010 0 0 t0.level_.length, .rsl 3011 0 0 t0.cells_.length, .im (.mp (mapV brTab))]⟩), (3010, rtA 0 33 1 (eI .u8) t0.level_), (3011, rtA 0 33 1 (eI .u8) t0.cells_)] (fun x h => x = .tup [] ∧ h = [(2010, ⟨0, true, 58, 5, [slA eS_Node r.f_, .int .i64 r.at_, .rsl 3010 1 0 r.level_.length, .rsl 3011 1 0 r.cells_.length, .im (.mp (mapV brTab))]⟩), (3010, rtA 1 33 1 (eI .u8) r.level_), (3011, rtA 1 33 1 (eI .u8) r.cells_)]) := by
  refine Spec.of_AW Tryd.func41 rfl (by simp [Tryd.ntmps41]) ?_
  rw [Tryd.ntmps41]
  unfold f_linear_writer_number_body at H
  change AW _ _ _ [(0, .ref 2010 0 0), (1, .int .i64 t1)] [(2010, ⟨0, true, 58, 5, [slA eS_Node t0.f_, .int .i64 t0.at_, .rsl 3010 0 0 t0.level_.length, .rsl 3011 0 0 t0.cells_.length, .im (.mp (mapV brTab))]⟩), (3010, rtA 0 33 1 (eI .u8) t0.level_), (3011, rtA 0 33 1 (eI .u8) t0.cells_)] _
  refine AW.endcast ?_
  refine AW.joinK (fun (y : S_writer) => f_linear_writer_number_body_k1 t1 y) r (fun (y : S_writer) => [(0, .ref 2010 0 0), (1, .int .i64 t1)]) (fun (y : S_writer) => [(2010, ⟨0, true, 58, 5, [slA eS_Node y.f_, .int .i64 y.at_, .rsl 3010 0 0 y.level_.length, .rsl 3011 0 0 y.cells_.length, .im (.mp (mapV brTab))]⟩), (3010, rtA 0 33 1 (eI .u8) y.level_), (3011, rtA 0 33 1 (eI .u8) y.cells_)]) ?_ ?_
  · refine AW.regionSeq ?_
    refine OpsW.seg 2 [5, 0, 1] [] [(5, .bool (decide ((10 : Int) ≤ t1))), (0, .ref 2010 0 0), (1, .int .i64 t1)] (by kernel_rfl) trivial ?_
    refine OpsW.nil ?_
    refine AW.cond (b := decide ((10 : Int) ≤ t1)) rfl (fun c5 => ?_) (fun c5 => ?_)
    · replace H := condT c5 H
      refine AW.region ?_
      obtain ⟨g6, H⟩ := G_some H
      refine OpsW.seg 3 [8, 6, 0, 1] [(10 : Int) ≠ 0, inR (Int.tdiv t1 (10 : Int))] [(8, .int .i64 (Int.tdiv t1 (10 : Int))), (6, .ref 2010 0 0), (0, .ref 2010 0 0), (1, .int .i64 t1)] (by kernel_rfl) ⟨(by decide), g6, trivial⟩ ?_
      refine OpsW.recast (env' := [(8, .int .i64 (Int.tdiv t1 (10 : Int))), (6, .ref 2010 0 0), (0, .ref 2010 0 0), (1, .int .i64 t1)]) (h' := [(2010, ⟨0, true, 58, 5, [slA eS_Node t0.f_, .int .i64 t0.at_, .rsl 3010 0 0 t0.level_.length, .rsl 3011 0 0 t0.cells_.length, .im (.mp (mapV brTab))]⟩), (3010, rtA 0 33 1 (eI .u8) t0.level_), (3011, rtA 0 33 1 (eI .u8) t0.cells_)]) (StC.mk (phi [(2010, some 2010), (3010, some 3010), (3011, some 3011)]) (.old rfl rfl rfl rfl rfl (.cons .im (.cons .im (.cons (.rsl rfl rfl rfl rfl rfl rfl) (.cons (.rsl rfl rfl rfl rfl rfl rfl) (.cons .im .nil))))) (.old rfl rfl rfl rfl rfl (CstL.ims _) (.old rfl rfl rfl rfl rfl (CstL.ims _) .nil))) rfl (.cons .im (.cons (.ref rfl rfl rfl rfl rfl) (.cons (.ref rfl rfl rfl rfl rfl) (.cons .im .nil))))) ?_
      obtain ⟨x7, hx7, H⟩ := bindS H
      change OpsW _ _ _ _ [(8, .int .i64 (Int.tdiv t1 (10 : Int))), (6, .ref 2010 0 0), (0, .ref 2010 0 0), (1, .int .i64 t1)] ([(2010, ⟨0, true, 58, 5, [slA eS_Node t0.f_, .int .i64 t0.at_, .rsl 3010 0 0 t0.level_.length, .rsl 3011 0 0 t0.cells_.length, .im (.mp (mapV brTab))]⟩), (3010, rtA 0 33 1 (eI .u8) t0.level_), (3011, rtA 0 33 1 (eI .u8) t0.cells_)] ++ []) _
      refine OpsW.callR [(2010, ⟨0, true, 58, 5, [slA eS_Node t0.f_, .int .i64 t0.at_, .rsl 3010 0 0 t0.level_.length, .rsl 3011 0 0 t0.cells_.length, .im (.mp (mapV brTab))]⟩), (3010, rtA 0 33 1 (eI .u8) t0.level_), (3011, rtA 0 33 1 (eI .u8) t0.cells_)] [] [(2010, ⟨0, true, 58, 5, [slA eS_Node t0.f_, .int .i64 t0.at_, .rsl 3010 0 0 t0.level_.length, .rsl 3011 0 0 t0.cells_.length, .im (.mp (mapV brTab))]⟩), (3010, rtA 0 33 1 (eI .u8) t0.level_), (3011, rtA 0 33 1 (eI .u8) t0.cells_)] (phi [(2010, some 2010), (3010, some 3010), (3011, some 3011)]) rfl rfl (by kernel_rfl) [.ref 2010 0 0, .int .i64 (Int.tdiv t1 (10 : Int))] _ rfl (glAll_sound trivial) (.cons (.ref rfl rfl rfl rfl rfl) (.cons .im .nil)) (hrec_f_linear_writer_number _ _ _ hx7) (fresh_of (by kernel_rfl)) (by kernel_rfl) (.cons rfl rfl rfl rfl rfl (.cons .im (.cons .im (.cons (.rsl rfl rfl rfl rfl rfl rfl) (.cons (.rsl rfl rfl rfl rfl rfl rfl) (.cons .im .nil))))) (.cons rfl rfl rfl rfl rfl (RnL.ims _) (.cons rfl rfl rfl rfl rfl (RnL.ims _) .nil))) ?_
      rintro _ _ ⟨rfl, rfl⟩
      refine ⟨.tup [], [(2010, ⟨0, true, 58, 5, [slA eS_Node x7.f_, .int .i64 x7.at_, .rsl 3010 1 0 x7.level_.length, .rsl 3011 1 0 x7.cells_.length, .im (.mp (mapV brTab))]⟩), (3010, rtA 1 33 1 (eI .u8) x7.level_), (3011, rtA 1 33 1 (eI .u8) x7.cells_)], phi [(2010, some 2010), (3010, some 3010), (3011, some 3011)], fresh_of (by kernel_rfl), by kernel_rfl, by kernel_rfl, (.cons rfl rfl rfl rfl rfl (.cons .im (.cons .im (.cons (.rsl rfl rfl rfl rfl rfl rfl) (.cons (.rsl rfl rfl rfl rfl rfl rfl) (.cons .im .nil))))) (.cons rfl rfl rfl rfl rfl (RnL.ims _) (.cons rfl rfl rfl rfl rfl (RnL.ims _) .nil))), (.tup .nil .nil), ?_⟩
      change OpsW _ _ _ _ [(9, .tup []), (8, .int .i64 (Int.tdiv t1 (10 : Int))), (6, .ref 2010 0 0), (0, .ref 2010 0 0), (1, .int .i64 t1)] [(2010, ⟨0, true, 58, 5, [slA eS_Node x7.f_, .int .i64 x7.at_, .rsl 3010 1 0 x7.level_.length, .rsl 3011 1 0 x7.cells_.length, .im (.mp (mapV brTab))]⟩), (3010, rtA 1 33 1 (eI .u8) x7.level_), (3011, rtA 1 33 1 (eI .u8) x7.cells_)] _
      refine OpsW.seg 0 [0, 1] [] [(0, .ref 2010 0 0), (1, .int .i64 t1)] (by kernel_rfl) trivial ?_
      refine OpsW.recast (env' := [(0, .ref 2010 0 0), (1, .int .i64 t1)]) (h' := [(2010, ⟨0, true, 58, 5, [slA eS_Node x7.f_, .int .i64 x7.at_, .rsl 3010 0 0 x7.level_.length, .rsl 3011 0 0 x7.cells_.length, .im (.mp (mapV brTab))]⟩), (3010, rtA 0 33 1 (eI .u8) x7.level_), (3011, rtA 0 33 1 (eI .u8) x7.cells_)]) (StC.mk (phi [(2010, some 2010), (3010, some 3010), (3011, some 3011)]) (.old rfl rfl rfl rfl rfl (.cons .im (.cons .im (.cons (.rsl rfl rfl rfl rfl rfl rfl) (.cons (.rsl rfl rfl rfl rfl rfl rfl) (.cons .im .nil))))) (.old rfl rfl rfl rfl rfl (CstL.ims _) (.old rfl rfl rfl rfl rfl (CstL.ims _) .nil))) rfl (.cons (.ref rfl rfl rfl rfl rfl) (.cons .im .nil))) ?_
      refine OpsW.nil ?_
      show ∃ y, _ ∧ StC _ _ _ _
      exact ⟨(⟨x7.f_, x7.at_, x7.level_, x7.cells_, ()⟩ : S_writer), H, (StC.mk (phi [(2010, some 2010), (3010, some 3010), (3011, some 3011)]) (.old rfl rfl rfl rfl rfl (.cons .im (.cons .im (.cons (.rsl rfl rfl rfl rfl rfl rfl) (.cons (.rsl rfl rfl rfl rfl rfl rfl) (.cons .im .nil))))) (.old rfl rfl rfl rfl rfl (CstL.ims _) (.old rfl rfl rfl rfl rfl (CstL.ims _) .nil))) rfl (.cons (.ref rfl rfl rfl rfl rfl) (.cons .im .nil)))⟩
    · replace H := condF c5 H
      refine AW.skip ?_
      show ∃ y, _ ∧ StC _ _ _ _
      exact ⟨(⟨t0.f_, t0.at_, t0.level_, t0.cells_, ()⟩ : S_writer), H, (StC.mk (phi [(2010, some 2010), (3010, some 3010), (3011, some 3011)]) (.old rfl rfl rfl rfl rfl (.cons .im (.cons .im (.cons (.rsl rfl rfl rfl rfl rfl rfl) (.cons (.rsl rfl rfl rfl rfl rfl rfl) (.cons .im .nil))))) (.old rfl rfl rfl rfl rfl (CstL.ims _) (.old rfl rfl rfl rfl rfl (CstL.ims _) .nil))) rfl (.cons (.ref rfl rfl rfl rfl rfl) (.cons .im .nil)))⟩
  · intro v1 H
    change f_linear_writer_number_body_k1 t1 v1 = some r at H
    unfold f_linear_writer_number_body_k1 at H
    change AW _ _ _ [(0, .ref 2010 0 0), (1, .int .i64 t1)] [(2010, ⟨0, true, 58, 5, [slA eS_Node v1.f_, .int .i64 v1.at_, .rsl 3010 0 0 v1.level_.length, .rsl 3011 0 0 v1.cells_.length, .im (.mp (mapV brTab))]⟩), (3010, rtA 0 33 1 (eI .u8) v1.level_), (3011, rtA 0 33 1 (eI .u8) v1.cells_)] _
    refine AW.region ?_
    obtain ⟨g2, H⟩ := G_some H
    obtain ⟨g3, H⟩ := G_some H
    refine OpsW.seg 6 [15, 10] [(10 : Int) ≠ 0, inR ((Int.tmod t1 (10 : Int)) + (9 : Int)), (10 : Int) ≠ 0, 0 ≤ (Int.tmod ((Int.tmod t1 (10 : Int)) + (9 : Int)) (10 : Int)) ∧ (Int.tmod ((Int.tmod t1 (10 : Int)) + (9 : Int)) (10 : Int)) < (26 : Int)] [(15, .ipt (tab_linear_letters.flatMap (eI .u8)) (0 + (Int.tmod ((Int.tmod t1 (10 : Int)) + (9 : Int)) (10 : Int)).toNat * 1)), (10, .ref 2010 0 0)] (by kernel_rfl) ⟨(by decide), g2, (by decide), g3, trivial⟩ ?_
    refine OpsW.asU (.int .u8 (tab_linear_letters.getD (Int.tmod ((Int.tmod t1 (10 : Int)) + (9 : Int)) (10 : Int)).toNat (0 : Int))) rfl rfl (T.load rfl trivial (by kernel_rfl) (tabOff (fm_cell0 (eI .u8) 1 (fun _ => rfl) tab_linear_letters (0 : Int) (Int.tmod ((Int.tmod t1 (10 : Int)) + (9 : Int)) (10 : Int)).toNat (ltA (n := 26) g3 rfl) (fun a => .val (.int .u8 a)) (fun _ => rfl)))) ?_
    refine OpsW.buildTI (enc := eI .u8) [tab_linear_letters.getD (Int.tmod ((Int.tmod t1 (10 : Int)) + (9 : Int)) (10 : Int)).toNat (0 : Int)] rfl rfl rfl E28 (fun _ => rfl) (by decide) ⟨trivial, by kernel_rfl, by kernel_rfl, by kernel_rfl, rfl⟩ ?_
    refine OpsW.recast (env' := [(17, slA (eI .u8) [tab_linear_letters.getD (Int.tmod ((Int.tmod t1 (10 : Int)) + (9 : Int)) (10 : Int)).toNat (0 : Int)]), (16, .int .u8 (tab_linear_letters.getD (Int.tmod ((Int.tmod t1 (10 : Int)) + (9 : Int)) (10 : Int)).toNat (0 : Int))), (15, .ipt (tab_linear_letters.flatMap (eI .u8)) (0 + (Int.tmod ((Int.tmod t1 (10 : Int)) + (9 : Int)) (10 : Int)).toNat * 1)), (10, .ref 2010 0 0)]) (h' := [(2010, ⟨0, true, 58, 5, [slA eS_Node v1.f_, .int .i64 v1.at_, .rsl 3010 0 0 v1.level_.length, .rsl 3011 0 0 v1.cells_.length, .im (.mp (mapV brTab))]⟩), (3010, rtA 0 33 1 (eI .u8) v1.level_), (3011, rtA 0 33 1 (eI .u8) v1.cells_)]) (StC.mk (phi [(2010, some 2010), (3010, some 3010), (3011, some 3011)]) (.old rfl rfl rfl rfl rfl (.cons .im (.cons .im (.cons (.rsl rfl rfl rfl rfl rfl rfl) (.cons (.rsl rfl rfl rfl rfl rfl rfl) (.cons .im .nil))))) (.old rfl rfl rfl rfl rfl (CstL.ims _) (.old rfl rfl rfl rfl rfl (CstL.ims _) .nil))) rfl (.cons .im (.cons .im (.cons .ipt (.cons (.ref rfl rfl rfl rfl rfl) .nil))))) ?_
    obtain ⟨x4, hx4, H⟩ := bindS H
    change OpsW _ _ _ _ [(17, slA (eI .u8) [tab_linear_letters.getD (Int.tmod ((Int.tmod t1 (10 : Int)) + (9 : Int)) (10 : Int)).toNat (0 : Int)]), (16, .int .u8 (tab_linear_letters.getD (Int.tmod ((Int.tmod t1 (10 : Int)) + (9 : Int)) (10 : Int)).toNat (0 : Int))), (15, .ipt (tab_linear_letters.flatMap (eI .u8)) (0 + (Int.tmod ((Int.tmod t1 (10 : Int)) + (9 : Int)) (10 : Int)).toNat * 1)), (10, .ref 2010 0 0)] ([(2010, ⟨0, true, 58, 5, [slA eS_Node v1.f_, .int .i64 v1.at_, .rsl 3010 0 0 v1.level_.length, .rsl 3011 0 0 v1.cells_.length, .im (.mp (mapV brTab))]⟩), (3010, rtA 0 33 1 (eI .u8) v1.level_), (3011, rtA 0 33 1 (eI .u8) v1.cells_)] ++ []) _
    refine OpsW.callR [(2010, ⟨0, true, 58, 5, [slA eS_Node v1.f_, .int .i64 v1.at_, .rsl 3010 0 0 v1.level_.length, .rsl 3011 0 0 v1.cells_.length, .im (.mp (mapV brTab))]⟩), (3010, rtA 0 33 1 (eI .u8) v1.level_), (3011, rtA 0 33 1 (eI .u8) v1.cells_)] [] [(2010, ⟨0, true, 58, 5, [slA eS_Node v1.f_, .int .i64 v1.at_, .rsl 3010 0 0 v1.level_.length, .rsl 3011 0 0 v1.cells_.length, .im (.mp (mapV brTab))]⟩), (3010, rtA 0 33 1 (eI .u8) v1.level_), (3011, rtA 0 33 1 (eI .u8) v1.cells_)] (phi [(2010, some 2010), (3010, some 3010), (3011, some 3011)]) rfl rfl (by kernel_rfl) [.ref 2010 0 0, slA (eI .u8) [tab_linear_letters.getD (Int.tmod ((Int.tmod t1 (10 : Int)) + (9 : Int)) (10 : Int)).toNat (0 : Int)]] _ rfl (glAll_sound trivial) (.cons (.ref rfl rfl rfl rfl rfl) (.cons .im .nil)) (f_linear_writer_put_io hx4) (fresh_of (by kernel_rfl)) (by kernel_rfl) (.cons rfl rfl rfl rfl rfl (.cons .im (.cons .im (.cons (.rsl rfl rfl rfl rfl rfl rfl) (.cons (.rsl rfl rfl rfl rfl rfl rfl) (.cons .im .nil))))) (.cons rfl rfl rfl rfl rfl (RnL.ims _) (.cons rfl rfl rfl rfl rfl (RnL.ims _) .nil))) ?_
    rintro _ _ ⟨rfl, rfl⟩
    refine ⟨.tup [], [(2010, ⟨0, true, 58, 5, [slA eS_Node x4.f_, .int .i64 x4.at_, .rsl 3010 1 0 x4.level_.length, .rsl 3011 1 0 x4.cells_.length, .im (.mp (mapV brTab))]⟩), (3010, rtA 1 33 1 (eI .u8) x4.level_), (3011, rtA 1 33 1 (eI .u8) x4.cells_)], phi [(2010, some 2010), (3010, some 3010), (3011, some 3011)], fresh_of (by kernel_rfl), by kernel_rfl, by kernel_rfl, (.cons rfl rfl rfl rfl rfl (.cons .im (.cons .im (.cons (.rsl rfl rfl rfl rfl rfl rfl) (.cons (.rsl rfl rfl rfl rfl rfl rfl) (.cons .im .nil))))) (.cons rfl rfl rfl rfl rfl (RnL.ims _) (.cons rfl rfl rfl rfl rfl (RnL.ims _) .nil))), (.tup .nil .nil), ?_⟩
    change OpsW _ _ _ _ [(18, .tup []), (17, slA (eI .u8) [tab_linear_letters.getD (Int.tmod ((Int.tmod t1 (10 : Int)) + (9 : Int)) (10 : Int)).toNat (0 : Int)]), (16, .int .u8 (tab_linear_letters.getD (Int.tmod ((Int.tmod t1 (10 : Int)) + (9 : Int)) (10 : Int)).toNat (0 : Int))), (15, .ipt (tab_linear_letters.flatMap (eI .u8)) (0 + (Int.tmod ((Int.tmod t1 (10 : Int)) + (9 : Int)) (10 : Int)).toNat * 1)), (10, .ref 2010 0 0)] [(2010, ⟨0, true, 58, 5, [slA eS_Node x4.f_, .int .i64 x4.at_, .rsl 3010 1 0 x4.level_.length, .rsl 3011 1 0 x4.cells_.length, .im (.mp (mapV brTab))]⟩), (3010, rtA 1 33 1 (eI .u8) x4.level_), (3011, rtA 1 33 1 (eI .u8) x4.cells_)] _
    refine OpsW.seg 0 [] [] [] (by kernel_rfl) trivial ?_
    refine OpsW.recast (env' := []) (h' := [(2010, ⟨0, true, 58, 5, [slA eS_Node x4.f_, .int .i64 x4.at_, .rsl 3010 0 0 x4.level_.length, .rsl 3011 0 0 x4.cells_.length, .im (.mp (mapV brTab))]⟩), (3010, rtA 0 33 1 (eI .u8) x4.level_), (3011, rtA 0 33 1 (eI .u8) x4.cells_)]) (StC.mk (phi [(2010, some 2010), (3010, some 3010), (3011, some 3011)]) (.old rfl rfl rfl rfl rfl (.cons .im (.cons .im (.cons (.rsl rfl rfl rfl rfl rfl rfl) (.cons (.rsl rfl rfl rfl rfl rfl rfl) (.cons .im .nil))))) (.old rfl rfl rfl rfl rfl (CstL.ims _) (.old rfl rfl rfl rfl rfl (CstL.ims _) .nil))) rfl .nil) ?_
    refine OpsW.nil ?_
    obtain rfl := Option.some.inj H
    show ∃ en' hp', StC _ _ en' hp' ∧ Done _ _ _ .normal en' hp'
    refine ⟨[], [(2010, ⟨0, true, 58, 5, [slA eS_Node x4.f_, .int .i64 x4.at_, .rsl 3010 1 0 x4.level_.length, .rsl 3011 1 0 x4.cells_.length, .im (.mp (mapV brTab))]⟩), (3010, rtA 1 33 1 (eI .u8) x4.level_), (3011, rtA 1 33 1 (eI .u8) x4.cells_)], (StC.mk (phi [(2010, some 2010), (3010, some 3010), (3011, some 3011)]) (.old rfl rfl rfl rfl rfl (.cons .im (.cons .im (.cons (.rsl rfl rfl rfl rfl rfl rfl) (.cons (.rsl rfl rfl rfl rfl rfl rfl) (.cons .im .nil))))) (.old rfl rfl rfl rfl rfl (CstL.ims _) (.old rfl rfl rfl rfl rfl (CstL.ims _) .nil))) rfl .nil), ?_⟩
    refine Done.genN rfl .nil ?_
    exact ⟨by kernel_rfl, by kernel_rfl⟩
def f_linear_writer_number_f : Nat → S_writer → Int → Option S_writer
  | 0, _, _ => none
  | n + 1, t0, t1 => f_linear_writer_number_body (f_linear_writer_number_f n) t0 t1
theorem f_linear_writer_number_all : ∀ n : Nat, (∀ (t0 : S_writer) (t1 : Int) (r : S_writer), f_linear_writer_number_f n t0 t1 = some r → Abs.Spec Tryd.prog 41 [.ref 2010 0 0, .int .i64 t1] [(2010, ⟨0, true, 58, 5, [slA eS_Node t0.f_, .int .i64 t0.at_, .rsl 3010 0 0 t0.level_.length, .rsl 3011 0 0 t0.cells_.length, .im (.mp (mapV brTab))]⟩), (3010, rtA 0 33 1 (eI .u8) t0.level_), (3011, rtA 0 33 1 (eI .u8) t0.cells_)] (fun x h => x = .tup [] ∧ h = [(2010, ⟨0, true, 58, 5, [slA eS_Node r.f_, .int .i64 r.at_, .rsl 3010 1 0 r.level_.length, .rsl 3011 1 0 r.cells_.length, .im (.mp (mapV brTab))]⟩), (3010, rtA 1 33 1 (eI .u8) r.level_), (3011, rtA 1 33 1 (eI .u8) r.cells_)])) ∧ True
  | 0 => by
    refine ⟨?_, trivial⟩
    · intro t0 t1 r H; rw [f_linear_writer_number_f] at H; cases H
  | n + 1 => by
    have ih := f_linear_writer_number_all n
    refine ⟨?_, trivial⟩
    · intro t0 t1 r H; rw [f_linear_writer_number_f] at H; exact f_linear_writer_number_body_io ih.1 H
def f_linear_writer_number (t0 : S_writer) (t1 : Int) : Option S_writer := f_linear_writer_number_f 1000000 t0 t1
theorem f_linear_writer_number_io {t0 : S_writer} {t1 : Int} {r : S_writer} (H : f_linear_writer_number t0 t1 = some r) : Abs.Spec Tryd.prog 41 [.ref 2010 0 0, .int .i64 t1] [(2010, ⟨0, true, 58, 5, [slA eS_Node t0.f_, .int .i64 t0.at_, .rsl 3010 0 0 t0.level_.length, .rsl 3011 0 0 t0.cells_.length, .im (.mp (mapV brTab))]⟩), (3010, rtA 0 33 1 (eI .u8) t0.level_), (3011, rtA 0 33 1 (eI .u8) t0.cells_)] (fun x h => x = .tup [] ∧ h = [(2010, ⟨0, true, 58, 5, [slA eS_Node r.f_, .int .i64 r.at_, .rsl 3010 1 0 r.level_.length, .rsl 3011 1 0 r.cells_.length, .im (.mp (mapV brTab))]⟩), (3010, rtA 1 33 1 (eI .u8) r.level_), (3011, rtA 1 33 1 (eI .u8) r.cells_)]) :=
  (f_linear_writer_number_all 1000000).1 t0 t1 r H
def f_linear_writer_put_58_0_n1000_0 (t0 : S_writer) : Option S_writer :=
  G (room 1 (t0.cells_.length + t0.level_.length)) <|
  some (⟨t0.f_, t0.at_, t0.level_, t0.cells_ ++ t0.level_, ()⟩ : S_writer)
theorem f_linear_writer_put_58_0_n1000_0_io  {t0 : S_writer} {r : S_writer} (H : f_linear_writer_put_58_0_n1000_0 t0 = some r) : Abs.Spec Tryd.prog 40 [.ref 2010 0 0, .rsl 3010 0 0 t0.level_.length] [(2010, ⟨0, true, 58, 5, [slA eS_Node t0.f_, .int .i64 t0.at_, .rsl 3010 0 0 t0.level_.length, .rsl 3011 0 0 t0.cells_.length, .im (.mp (mapV brTab))]⟩), (3010, rtA 0 33 1 (eI .u8) t0.level_), (3011, rtA 0 33 1 (eI .u8) t0.cells_)] (fun x h => x = .tup [] ∧ h = [(2010, ⟨0, true, 58, 5, [slA eS_Node r.f_, .int .i64 r.at_, .rsl 3010 1 0 r.level_.length, .rsl 3011 1 0 r.cells_.length, .im (.mp (mapV brTab))]⟩), (3010, rtA 1 33 1 (eI .u8) r.level_), (3011, rtA 1 33 1 (eI .u8) r.cells_)]) := by
  refine Spec.of_AW Tryd.func40 rfl (by simp [Tryd.ntmps40]) ?_
  rw [Tryd.ntmps40]
  unfold f_linear_writer_put_58_0_n1000_0 at H
  change AW _ _ _ [(0, .ref 2010 0 0), (1, .rsl 3010 0 0 t0.level_.length)] [(2010, ⟨0, true, 58, 5, [slA eS_Node t0.f_, .int .i64 t0.at_, .rsl 3010 0 0 t0.level_.length, .rsl 3011 0 0 t0.cells_.length, .im (.mp (mapV brTab))]⟩), (3010, rtA 0 33 1 (eI .u8) t0.level_), (3011, rtA 0 33 1 (eI .u8) t0.cells_)] _
  refine AW.endcast ?_
  refine AW.region ?_
  refine OpsW.seg 2 [5, 4, 1] [] [(5, .ref 2010 0 0), (4, .ref 2010 0 0), (1, .rsl 3010 0 0 t0.level_.length)] (by kernel_rfl) trivial ?_
  refine OpsW.quietU (.ref 2010 0 0) rfl rfl (Quiet.nilCheck rfl (gpoU rfl ⟨trivial, rfl, rfl⟩)) ?_
  refine OpsW.seg 3 [9, 8, 4] [] [(9, .rsl 3010 0 0 t0.level_.length), (8, .rsl 3011 0 0 t0.cells_.length), (4, .ref 2010 0 0)] (by kernel_rfl) trivial ?_
  obtain ⟨g1, H⟩ := G_some H
  refine OpsW.appendF (enc := eI .u8) (ys := t0.level_) rfl rfl rfl E28 (fun _ => rfl) rfl rfl trivial (SrcA.rootF (enc := eI .u8) (fun _ => rfl) (by kernel_rfl) rfl) rfl g1 ?_
  refine OpsW.quietU (.ref 2010 0 0) rfl rfl (Quiet.nilCheck rfl (gpoU rfl ⟨trivial, rfl, rfl⟩)) ?_
  refine OpsW.seg 1 [12, 10] [] [(12, .ref 2010 0 3), (10, .rsl 3011 1 0 ((t0.cells_ ++ t0.level_).length))] (by kernel_rfl) trivial ?_
  refine OpsW.store rfl rfl rfl rfl trivial trivial rfl rfl rfl (by kernel_rfl) (okCb_sound (by kernel_rfl)) (Nat.le_of_ble_eq_true (by kernel_rfl)) ?_
  change OpsW _ _ _ _ _ [(2010, ⟨0, true, 58, 5, [slA eS_Node t0.f_, .int .i64 t0.at_, .rsl 3010 0 0 t0.level_.length, .rsl 3011 1 0 ((t0.cells_ ++ t0.level_).length), .im (.mp (mapV brTab))]⟩), (3011, rtA 1 33 1 (eI .u8) (t0.cells_ ++ t0.level_)), (2010, ⟨0, true, 58, 5, [slA eS_Node t0.f_, .int .i64 t0.at_, .rsl 3010 0 0 t0.level_.length, .rsl 3011 0 0 t0.cells_.length, .im (.mp (mapV brTab))]⟩), (3010, rtA 0 33 1 (eI .u8) t0.level_), (3011, rtA 0 33 1 (eI .u8) t0.cells_)] _
  refine OpsW.seg 0 [] [] [] (by kernel_rfl) trivial ?_
  refine OpsW.recast (env' := []) (h' := [(2010, ⟨0, true, 58, 5, [slA eS_Node t0.f_, .int .i64 t0.at_, .rsl 3010 0 0 t0.level_.length, .rsl 3011 0 0 ((t0.cells_ ++ t0.level_).length), .im (.mp (mapV brTab))]⟩), (3010, rtA 0 33 1 (eI .u8) t0.level_), (3011, rtA 0 33 1 (eI .u8) (t0.cells_ ++ t0.level_))]) (StC.mk (phi [(2010, some 2010), (3010, some 3010), (3011, some 3011)]) (.old rfl rfl rfl rfl rfl (.cons .im (.cons .im (.cons (.rsl rfl rfl rfl rfl rfl rfl) (.cons (.rsl rfl rfl rfl rfl rfl rfl) (.cons .im .nil))))) (.old rfl rfl rfl rfl rfl (CstL.ims _) (.old rfl rfl rfl rfl rfl (CstL.ims _) .nil))) rfl .nil) ?_
  refine OpsW.nil ?_
  obtain rfl := Option.some.inj H
  show ∃ en' hp', StC _ _ en' hp' ∧ Done _ _ _ .normal en' hp'
  refine ⟨[], [(2010, ⟨0, true, 58, 5, [slA eS_Node t0.f_, .int .i64 t0.at_, .rsl 3010 1 0 t0.level_.length, .rsl 3011 1 0 ((t0.cells_ ++ t0.level_).length), .im (.mp (mapV brTab))]⟩), (3010, rtA 1 33 1 (eI .u8) t0.level_), (3011, rtA 1 33 1 (eI .u8) (t0.cells_ ++ t0.level_))], (StC.mk (phi [(2010, some 2010), (3010, some 3010), (3011, some 3011)]) (.old rfl rfl rfl rfl rfl (.cons .im (.cons .im (.cons (.rsl rfl rfl rfl rfl rfl rfl) (.cons (.rsl rfl rfl rfl rfl rfl rfl) (.cons .im .nil))))) (.old rfl rfl rfl rfl rfl (CstL.ims _) (.old rfl rfl rfl rfl rfl (CstL.ims _) .nil))) rfl .nil), ?_⟩
  refine Done.genN rfl .nil ?_
  exact ⟨by kernel_rfl, by kernel_rfl⟩
end Go.Proofs.YtfpcbalkioolmaaDoor
