/-
  Written by gen.py (own work): typed functions, and that the program computes them.
-/
import Derived.Test.YtlhpkjgpcenfdaaDoorW1
set_option linter.unusedSimpArgs false
set_option linter.unusedVariables false
set_option maxRecDepth 100000
namespace Go.Proofs.YtlhpkjgpcenfdaaDoor
open Go.Abs
def f_R02_Base_k1 (v2 : S_Table) (v3 : List S_Rule) : Option S_Table :=
  some (⟨(1 : Int), (1 : Int), v3⟩ : S_Table)
def f_R02_Base (t0 : Int) : Option S_Table :=
  (f_R02_letters).bind fun x1 =>
  cond ((Int.tmod t0 (8 : Int)) == (1 : Int)) (
    (f_R02_indicator (60 : Int) (3 : Int) [(0 : Int), (1 : Int)]).bind fun x5 =>
    (f_R02_simple (⟨#[49]⟩ : ByteArray) [(1 : Int)] [(1 : Int), (1 : Int)]).bind fun x6 =>
    (f_R02_simple (⟨#[50]⟩ : ByteArray) [(3 : Int)] [(1 : Int), (1 : Int)]).bind fun x7 =>
    (f_R02_simple (⟨#[32]⟩ : ByteArray) [(0 : Int)] [(1 : Int), (0 : Int)]).bind fun x8 =>
    G (room 64 (x1.length + [x5, x6, x7, x8].length)) <|
    some (⟨(2 : Int), (3 : Int), x1 ++ [x5, x6, x7, x8]⟩ : S_Table)) (
    cond ((Int.tmod t0 (8 : Int)) == (2 : Int)) (
      (f_R02_indicator (32 : Int) (2 : Int) [(0 : Int), (1 : Int)]).bind fun x11 =>
      (f_R02_simple (⟨#[65]⟩ : ByteArray) [(1 : Int)] [(1 : Int), (0 : Int)]).bind fun x12 =>
      (f_R02_simple (⟨#[66]⟩ : ByteArray) [(3 : Int)] [(1 : Int), (0 : Int)]).bind fun x13 =>
      G (room 64 (x1.length + [x11, x12, x13].length)) <|
      some (⟨(2 : Int), (1 : Int), x1 ++ [x11, x12, x13]⟩ : S_Table)) (
      cond ((Int.tmod t0 (8 : Int)) == (3 : Int)) (
        (f_R02_simple (⟨#[97, 98]⟩ : ByteArray) [(7 : Int)] [(0 : Int), (0 : Int)]).bind fun x16 =>
        (f_R02_simple (⟨#[97, 98, 99]⟩ : ByteArray) [(15 : Int)] [(0 : Int), (0 : Int)]).bind fun x17 =>
        (f_R02_simple (⟨#[99, 97]⟩ : ByteArray) [(4 : Int), (4 : Int)] [(0 : Int), (0 : Int)]).bind fun x18 =>
        G (room 64 (x1.length + [x16, x17, x18].length)) <|
        f_R02_Base_k1 (⟨(0 : Int), (0 : Int), []⟩ : S_Table) (x1 ++ [x16, x17, x18])) (
        cond ((Int.tmod t0 (8 : Int)) == (4 : Int)) (
          (f_R02_simple (⟨#[45]⟩ : ByteArray) [(1 : Int), (3 : Int)] [(0 : Int), (0 : Int)]).bind fun x21 =>
          G (room 64 (x1.length + 1)) <|
          f_R02_Base_k1 (⟨(0 : Int), (0 : Int), []⟩ : S_Table) (x1 ++ [x21])) (
          cond ((Int.tmod t0 (8 : Int)) == (5 : Int)) (
            (f_R02_simple (⟨#[98]⟩ : ByteArray) [(44 : Int)] [(0 : Int), (0 : Int)]).bind fun x24 =>
            (f_R02_simple (⟨#[99, 97, 98]⟩ : ByteArray) [(44 : Int)] [(0 : Int), (0 : Int)]).bind fun x25 =>
            (f_R02_simple (⟨#[45]⟩ : ByteArray) [(36 : Int)] [(0 : Int), (0 : Int)]).bind fun x26 =>
            G (room 64 (x1.length + [(⟨x24.Print, x24.Cells, (17 : Int), x24.Right, x24.From, x24.To⟩ : S_Rule), (⟨x25.Print, x25.Cells, (2 : Int), x25.Right, x25.From, x25.To⟩ : S_Rule), x26].length)) <|
            f_R02_Base_k1 (⟨(0 : Int), (0 : Int), []⟩ : S_Table) (x1 ++ [(⟨x24.Print, x24.Cells, (17 : Int), x24.Right, x24.From, x24.To⟩ : S_Rule), (⟨x25.Print, x25.Cells, (2 : Int), x25.Right, x25.From, x25.To⟩ : S_Rule), x26])) (
            cond ((Int.tmod t0 (8 : Int)) == (6 : Int)) (
              (f_R02_indicator (40 : Int) (1 : Int) [(0 : Int), (1 : Int)]).bind fun x29 =>
              (f_R02_simple (⟨#[225]⟩ : ByteArray) [(1 : Int)] [(1 : Int), (0 : Int)]).bind fun x30 =>
              (f_R02_simple (⟨#[226]⟩ : ByteArray) [(3 : Int)] [(1 : Int), (0 : Int)]).bind fun x31 =>
              G (room 64 (x1.length + [x29, x30, x31].length)) <|
              some (⟨(2 : Int), (1 : Int), x1 ++ [x29, x30, x31]⟩ : S_Table)) (
              cond ((Int.tmod t0 (8 : Int)) == (7 : Int)) (
                (f_R02_simple (⟨#[45]⟩ : ByteArray) [(1 : Int), (5 : Int)] [(0 : Int), (0 : Int)]).bind fun x34 =>
                (f_R02_simple (⟨#[49]⟩ : ByteArray) [(5 : Int), (5 : Int)] [(0 : Int), (0 : Int)]).bind fun x35 =>
                (f_R02_simple (⟨#[50]⟩ : ByteArray) [(5 : Int), (9 : Int)] [(0 : Int), (0 : Int)]).bind fun x36 =>
                G (room 64 (x1.length + [x34, x35, x36].length)) <|
                f_R02_Base_k1 (⟨(0 : Int), (0 : Int), []⟩ : S_Table) (x1 ++ [x34, x35, x36])) (
                f_R02_Base_k1 (⟨(0 : Int), (0 : Int), []⟩ : S_Table) x1)))))))
theorem f_R02_Base_ok  {t0 : Int} {r : S_Table} (H : f_R02_Base t0 = some r) : QSpec Tryd.prog 29 [.int .u8 t0] (.agg [.int .i64 r.Modes, .int .u8 r.Accept, slA eS_Rule r.Rules]) := by
  refine Spec.of_AW Tryd.func29 rfl (by simp [Tryd.ntmps29]) ?_
  rw [Tryd.ntmps29]
  unfold f_R02_Base at H
  change AW _ _ _ [(0, .int .u8 t0)] [] _
  refine AW.regionSeq ?_
  refine OpsW.alloc' rfl rfl rfl 2 rfl (by kernel_rfl : zc Tryd.prog 33 = some [.int .i64 0, .int .u8 0, .slice none 0 0]) (by kernel_rfl) ?_
  refine OpsW.recast (env' := [(2, .ref 2 0 0), (0, .int .u8 t0)]) (h' := [(2, ⟨0, true, 33, 3, [.int .i64 0, .int .u8 0, .im (.val (.slice none 0 0))]⟩)]) (StC.mk (phi [(2, some 2)]) (.old rfl rfl rfl rfl rfl (.cons .im (.cons .im (.cons .im .nil))) .nil) rfl (.cons (.ref rfl rfl rfl rfl rfl) (.cons .im .nil))) ?_
  refine OpsW.nil ?_
  refine AW.regionSeq ?_
  obtain ⟨x1, hx1, H⟩ := bindS H
  refine OpsW.call rfl rfl (by kernel_rfl) [] _ _ rfl (glAll_sound trivial) .nil (f_R02_letters_own hx1) ?_
  rintro _ _ ⟨rfl, rfl⟩
  refine ⟨fresh_of (by kernel_rfl), .inl rfl, ?_⟩
  change OpsW _ _ _ _ [(10, .rsl 1000 0 0 x1.length), (2, .ref 2 0 0), (0, .int .u8 t0)] [(1000, rtA 0 36 6 eS_Rule x1), (2, ⟨0, true, 33, 3, [.int .i64 0, .int .u8 0, .im (.val (.slice none 0 0))]⟩)] _
  refine OpsW.recast (env' := [(10, .rsl 600 0 0 x1.length), (2, .ref 2 0 0), (0, .int .u8 t0)]) (h' := [(600, rtA 0 36 6 eS_Rule x1), (2, ⟨0, true, 33, 3, [.int .i64 0, .int .u8 0, .im (.val (.slice none 0 0))]⟩)]) (StC.mk (phi [(600, some 1000), (2, some 2)]) (.old rfl rfl rfl rfl rfl (CstL.ims _) (.old rfl rfl rfl rfl rfl (.cons .im (.cons .im (.cons .im .nil))) .nil)) rfl (.cons (.rsl rfl rfl rfl rfl rfl rfl) (.cons (.ref rfl rfl rfl rfl rfl) (.cons .im .nil)))) ?_
  refine OpsW.seg 4 [14, 13, 12, 11, 10, 2, 0] [] [(14, .agg [.int .i64 1, .int .i64 0]), (13, .agg [.int .i64 1, .int .i64 1]), (12, .agg [.int .i64 0, .int .i64 1]), (11, .agg [.int .i64 0, .int .i64 0]), (10, .rsl 600 0 0 x1.length), (2, .ref 2 0 0), (0, .int .u8 t0)] (by kernel_rfl) trivial ?_
  refine OpsW.alloc' rfl rfl rfl 4 rfl (by kernel_rfl : zc Tryd.prog 82 = some [.int .i64 0, .int .i64 0]) (by kernel_rfl) ?_
  refine OpsW.alloc' rfl rfl rfl 5 rfl (by kernel_rfl : zc Tryd.prog 82 = some [.int .i64 0, .int .i64 0]) (by kernel_rfl) ?_
  refine OpsW.alloc' rfl rfl rfl 6 rfl (by kernel_rfl : zc Tryd.prog 82 = some [.int .i64 0, .int .i64 0]) (by kernel_rfl) ?_
  refine OpsW.alloc' rfl rfl rfl 7 rfl (by kernel_rfl : zc Tryd.prog 82 = some [.int .i64 0, .int .i64 0]) (by kernel_rfl) ?_
  refine OpsW.seg 1 [3, 7, 6, 5, 4, 14, 13, 12, 11, 2, 0] [] [(3, .rsl 600 0 0 x1.length), (7, .ref 7 0 0), (6, .ref 6 0 0), (5, .ref 5 0 0), (4, .ref 4 0 0), (14, .agg [.int .i64 1, .int .i64 0]), (13, .agg [.int .i64 1, .int .i64 1]), (12, .agg [.int .i64 0, .int .i64 1]), (11, .agg [.int .i64 0, .int .i64 0]), (2, .ref 2 0 0), (0, .int .u8 t0)] (by kernel_rfl) trivial ?_
  refine OpsW.store rfl rfl rfl rfl trivial trivial rfl rfl rfl (by kernel_rfl) (okCb_sound (by kernel_rfl)) (Nat.le_of_ble_eq_true (by kernel_rfl)) ?_
  change OpsW _ _ _ _ _ [(4, ⟨0, true, 82, 2, [.int .i64 0, .int .i64 0]⟩), (7, ⟨0, true, 82, 2, [.int .i64 0, .int .i64 0]⟩), (6, ⟨0, true, 82, 2, [.int .i64 0, .int .i64 0]⟩), (5, ⟨0, true, 82, 2, [.int .i64 0, .int .i64 0]⟩), (4, ⟨0, true, 82, 2, [.int .i64 0, .int .i64 0]⟩), (600, rtA 0 36 6 eS_Rule x1), (2, ⟨0, true, 33, 3, [.int .i64 0, .int .u8 0, .im (.val (.slice none 0 0))]⟩)] _
  refine OpsW.store rfl rfl rfl rfl trivial trivial rfl rfl rfl (by kernel_rfl) (okCb_sound (by kernel_rfl)) (Nat.le_of_ble_eq_true (by kernel_rfl)) ?_
  change OpsW _ _ _ _ _ [(5, ⟨0, true, 82, 2, [.int .i64 0, .int .i64 1]⟩), (4, ⟨0, true, 82, 2, [.int .i64 0, .int .i64 0]⟩), (7, ⟨0, true, 82, 2, [.int .i64 0, .int .i64 0]⟩), (6, ⟨0, true, 82, 2, [.int .i64 0, .int .i64 0]⟩), (5, ⟨0, true, 82, 2, [.int .i64 0, .int .i64 0]⟩), (4, ⟨0, true, 82, 2, [.int .i64 0, .int .i64 0]⟩), (600, rtA 0 36 6 eS_Rule x1), (2, ⟨0, true, 33, 3, [.int .i64 0, .int .u8 0, .im (.val (.slice none 0 0))]⟩)] _
  refine OpsW.store rfl rfl rfl rfl trivial trivial rfl rfl rfl (by kernel_rfl) (okCb_sound (by kernel_rfl)) (Nat.le_of_ble_eq_true (by kernel_rfl)) ?_
  change OpsW _ _ _ _ _ [(6, ⟨0, true, 82, 2, [.int .i64 1, .int .i64 1]⟩), (5, ⟨0, true, 82, 2, [.int .i64 0, .int .i64 1]⟩), (4, ⟨0, true, 82, 2, [.int .i64 0, .int .i64 0]⟩), (7, ⟨0, true, 82, 2, [.int .i64 0, .int .i64 0]⟩), (6, ⟨0, true, 82, 2, [.int .i64 0, .int .i64 0]⟩), (5, ⟨0, true, 82, 2, [.int .i64 0, .int .i64 0]⟩), (4, ⟨0, true, 82, 2, [.int .i64 0, .int .i64 0]⟩), (600, rtA 0 36 6 eS_Rule x1), (2, ⟨0, true, 33, 3, [.int .i64 0, .int .u8 0, .im (.val (.slice none 0 0))]⟩)] _
  refine OpsW.store rfl rfl rfl rfl trivial trivial rfl rfl rfl (by kernel_rfl) (okCb_sound (by kernel_rfl)) (Nat.le_of_ble_eq_true (by kernel_rfl)) ?_
  change OpsW _ _ _ _ _ [(7, ⟨0, true, 82, 2, [.int .i64 1, .int .i64 0]⟩), (6, ⟨0, true, 82, 2, [.int .i64 1, .int .i64 1]⟩), (5, ⟨0, true, 82, 2, [.int .i64 0, .int .i64 1]⟩), (4, ⟨0, true, 82, 2, [.int .i64 0, .int .i64 0]⟩), (7, ⟨0, true, 82, 2, [.int .i64 0, .int .i64 0]⟩), (6, ⟨0, true, 82, 2, [.int .i64 0, .int .i64 0]⟩), (5, ⟨0, true, 82, 2, [.int .i64 0, .int .i64 0]⟩), (4, ⟨0, true, 82, 2, [.int .i64 0, .int .i64 0]⟩), (600, rtA 0 36 6 eS_Rule x1), (2, ⟨0, true, 33, 3, [.int .i64 0, .int .u8 0, .im (.val (.slice none 0 0))]⟩)] _
  refine OpsW.seg 0 [3, 7, 6, 5, 4, 2, 0] [] [(3, .rsl 600 0 0 x1.length), (7, .ref 7 0 0), (6, .ref 6 0 0), (5, .ref 5 0 0), (4, .ref 4 0 0), (2, .ref 2 0 0), (0, .int .u8 t0)] (by kernel_rfl) trivial ?_
  refine OpsW.recast (env' := [(3, .rsl 3 0 0 x1.length), (7, .ref 7 0 0), (6, .ref 6 0 0), (5, .ref 5 0 0), (4, .ref 4 0 0), (2, .ref 2 0 0), (0, .int .u8 t0)]) (h' := [(2, ⟨0, true, 33, 3, [.int .i64 0, .int .u8 0, .im (.val (.slice none 0 0))]⟩), (3, rtA 0 36 6 eS_Rule x1), (4, ⟨0, true, 82, 2, [.int .i64 0, .int .i64 0]⟩), (5, ⟨0, true, 82, 2, [.int .i64 0, .int .i64 1]⟩), (6, ⟨0, true, 82, 2, [.int .i64 1, .int .i64 1]⟩), (7, ⟨0, true, 82, 2, [.int .i64 1, .int .i64 0]⟩)]) (StC.mk (phi [(2, some 2), (3, some 600), (4, some 4), (5, some 5), (6, some 6), (7, some 7)]) (.old rfl rfl rfl rfl rfl (.cons .im (.cons .im (.cons .im .nil))) (.old rfl rfl rfl rfl rfl (CstL.ims _) (.old rfl rfl rfl rfl rfl (.cons .im (.cons .im .nil)) (.old rfl rfl rfl rfl rfl (.cons .im (.cons .im .nil)) (.old rfl rfl rfl rfl rfl (.cons .im (.cons .im .nil)) (.old rfl rfl rfl rfl rfl (.cons .im (.cons .im .nil)) .nil)))))) rfl (.cons (.rsl rfl rfl rfl rfl rfl rfl) (.cons (.ref rfl rfl rfl rfl rfl) (.cons (.ref rfl rfl rfl rfl rfl) (.cons (.ref rfl rfl rfl rfl rfl) (.cons (.ref rfl rfl rfl rfl rfl) (.cons (.ref rfl rfl rfl rfl rfl) (.cons .im .nil)))))))) ?_
  refine OpsW.nil ?_
  refine AW.joinK (fun (y : S_Table × (List S_Rule)) => f_R02_Base_k1 y.1 y.2) r (fun (y : S_Table × (List S_Rule)) => [(2, .ref 2 0 0), (3, slA eS_Rule y.2)]) (fun (y : S_Table × (List S_Rule)) => [(2, ⟨0, true, 33, 3, [.int .i64 y.1.Modes, .int .u8 y.1.Accept, slA eS_Rule y.1.Rules]⟩)]) ?_ ?_
  · refine AW.regionSeq ?_
    refine OpsW.seg 2 [16, 3, 7, 6, 5, 4, 2] [(8 : Int) ≠ 0] [(16, .int .u8 (Int.tmod t0 (8 : Int))), (3, .rsl 3 0 0 x1.length), (7, .ref 7 0 0), (6, .ref 6 0 0), (5, .ref 5 0 0), (4, .ref 4 0 0), (2, .ref 2 0 0)] (by kernel_rfl) ⟨(by decide), trivial⟩ ?_
    refine OpsW.nil ?_
    refine AW.block ?_
    refine AW.regionSeq ?_
    refine OpsW.seg 2 [17, 16, 3, 7, 6, 5, 4, 2] [] [(17, .bool ((Int.tmod t0 (8 : Int)) == (1 : Int))), (16, .int .u8 (Int.tmod t0 (8 : Int))), (3, .rsl 3 0 0 x1.length), (7, .ref 7 0 0), (6, .ref 6 0 0), (5, .ref 5 0 0), (4, .ref 4 0 0), (2, .ref 2 0 0)] (by kernel_rfl) trivial ?_
    refine OpsW.nil ?_
    refine AW.cond (b := (Int.tmod t0 (8 : Int)) == (1 : Int)) rfl (fun c4 => ?_) (fun c4 => ?_)
    · replace H := condT c4 H
      refine AW.drawTSeq 13 Tryd.checked.mixed (by kernel_rfl) ?_
      refine QOps.seg (N := 121) 2 [] [(20, .agg [.int .i64 0, .int .i64 1]), (19, .rsl 3 0 0 x1.length), (17, .bool ((Int.tmod t0 (8 : Int)) == (1 : Int))), (16, .int .u8 (Int.tmod t0 (8 : Int))), (3, .rsl 3 0 0 x1.length), (7, .ref 7 0 0), (6, .ref 6 0 0), (5, .ref 5 0 0), (4, .ref 4 0 0), (2, .ref 2 0 0)] (by kernel_rfl) trivial ?_
      obtain ⟨x5, hx5, H⟩ := bindS H
      refine QOps.qcall rfl (by kernel_rfl) rfl (glAll_sound trivial) (.cons (.pur rfl) (.cons (.pur rfl) (.cons (.pur rfl) .nil))) (f_R02_indicator_ok hx5) rfl ?_
      refine QOps.buildTI (enc := eI .u8) [(1 : Int)] rfl rfl E34 (fun _ => rfl) (by decide) ⟨trivial, by kernel_rfl, by kernel_rfl, by kernel_rfl, rfl⟩ ?_
      refine QOps.seg (N := 121) 1 [] [(23, .agg [.int .i64 1, .int .i64 1]), (22, slA (eI .u8) [(1 : Int)]), (21, .agg [.string x5.Print, slA (eI .u8) x5.Cells, .int .u8 x5.Left, .int .u8 x5.Right, .int .i64 x5.From, .int .i64 x5.To]), (20, .agg [.int .i64 0, .int .i64 1]), (19, .rsl 3 0 0 x1.length), (17, .bool ((Int.tmod t0 (8 : Int)) == (1 : Int))), (16, .int .u8 (Int.tmod t0 (8 : Int))), (3, .rsl 3 0 0 x1.length), (7, .ref 7 0 0), (6, .ref 6 0 0), (5, .ref 5 0 0), (4, .ref 4 0 0), (2, .ref 2 0 0)] (by kernel_rfl) trivial ?_
      obtain ⟨x6, hx6, H⟩ := bindS H
      refine QOps.qcall rfl (by kernel_rfl) rfl (glAll_sound trivial) (.cons (.pur rfl) (.cons (.pur rfl) (.cons (.pur rfl) .nil))) (f_R02_simple_ok hx6) rfl ?_
      refine QOps.buildTI (enc := eI .u8) [(3 : Int)] rfl rfl E34 (fun _ => rfl) (by decide) ⟨trivial, by kernel_rfl, by kernel_rfl, by kernel_rfl, rfl⟩ ?_
      refine QOps.seg (N := 121) 1 [] [(26, .agg [.int .i64 1, .int .i64 1]), (25, slA (eI .u8) [(3 : Int)]), (24, .agg [.string x6.Print, slA (eI .u8) x6.Cells, .int .u8 x6.Left, .int .u8 x6.Right, .int .i64 x6.From, .int .i64 x6.To]), (23, .agg [.int .i64 1, .int .i64 1]), (22, slA (eI .u8) [(1 : Int)]), (21, .agg [.string x5.Print, slA (eI .u8) x5.Cells, .int .u8 x5.Left, .int .u8 x5.Right, .int .i64 x5.From, .int .i64 x5.To]), (20, .agg [.int .i64 0, .int .i64 1]), (19, .rsl 3 0 0 x1.length), (17, .bool ((Int.tmod t0 (8 : Int)) == (1 : Int))), (16, .int .u8 (Int.tmod t0 (8 : Int))), (3, .rsl 3 0 0 x1.length), (7, .ref 7 0 0), (6, .ref 6 0 0), (5, .ref 5 0 0), (4, .ref 4 0 0), (2, .ref 2 0 0)] (by kernel_rfl) trivial ?_
      obtain ⟨x7, hx7, H⟩ := bindS H
      refine QOps.qcall rfl (by kernel_rfl) rfl (glAll_sound trivial) (.cons (.pur rfl) (.cons (.pur rfl) (.cons (.pur rfl) .nil))) (f_R02_simple_ok hx7) rfl ?_
      refine QOps.buildTI (enc := eI .u8) [(0 : Int)] rfl rfl E34 (fun _ => rfl) (by decide) ⟨trivial, by kernel_rfl, by kernel_rfl, by kernel_rfl, rfl⟩ ?_
      refine QOps.seg (N := 121) 1 [] [(29, .agg [.int .i64 1, .int .i64 0]), (28, slA (eI .u8) [(0 : Int)]), (27, .agg [.string x7.Print, slA (eI .u8) x7.Cells, .int .u8 x7.Left, .int .u8 x7.Right, .int .i64 x7.From, .int .i64 x7.To]), (26, .agg [.int .i64 1, .int .i64 1]), (25, slA (eI .u8) [(3 : Int)]), (24, .agg [.string x6.Print, slA (eI .u8) x6.Cells, .int .u8 x6.Left, .int .u8 x6.Right, .int .i64 x6.From, .int .i64 x6.To]), (23, .agg [.int .i64 1, .int .i64 1]), (22, slA (eI .u8) [(1 : Int)]), (21, .agg [.string x5.Print, slA (eI .u8) x5.Cells, .int .u8 x5.Left, .int .u8 x5.Right, .int .i64 x5.From, .int .i64 x5.To]), (20, .agg [.int .i64 0, .int .i64 1]), (19, .rsl 3 0 0 x1.length), (17, .bool ((Int.tmod t0 (8 : Int)) == (1 : Int))), (16, .int .u8 (Int.tmod t0 (8 : Int))), (3, .rsl 3 0 0 x1.length), (7, .ref 7 0 0), (6, .ref 6 0 0), (5, .ref 5 0 0), (4, .ref 4 0 0), (2, .ref 2 0 0)] (by kernel_rfl) trivial ?_
      obtain ⟨x8, hx8, H⟩ := bindS H
      refine QOps.qcall rfl (by kernel_rfl) rfl (glAll_sound trivial) (.cons (.pur rfl) (.cons (.pur rfl) (.cons (.pur rfl) .nil))) (f_R02_simple_ok hx8) rfl ?_
      refine QOps.buildTI (enc := eS_Rule) [x5, x6, x7, x8] rfl rfl E31 (fun _ => rfl) (by decide) ⟨trivial, by kernel_rfl, by kernel_rfl, by kernel_rfl, rfl⟩ ?_
      refine QOps.nil ?_
      refine OpsW.seg 0 [31, 19, 3, 2] [] [(31, slA eS_Rule [x5, x6, x7, x8]), (19, .rsl 3 0 0 x1.length), (3, .rsl 3 0 0 x1.length), (2, .ref 2 0 0)] (by kernel_rfl) trivial ?_
      obtain ⟨g9, H⟩ := G_some H
      refine OpsW.appendF (enc := eS_Rule) (ys := [x5, x6, x7, x8]) rfl rfl rfl E31 (fun _ => rfl) rfl rfl trivial (SrcA.typed (enc := eS_Rule) (fun _ => rfl) (by kernel_rfl) [x5, x6, x7, x8]) rfl g9 ?_
      refine OpsW.seg 1 [3, 2] [] [(3, .rsl 3 1 0 ((x1 ++ [x5, x6, x7, x8]).length)), (2, .ref 2 0 0)] (by kernel_rfl) trivial ?_
      refine OpsW.recast (env' := [(3, slA eS_Rule (x1 ++ [x5, x6, x7, x8])), (2, .ref 2 0 0)]) (h' := [(2, ⟨0, true, 33, 3, [.int .i64 0, .int .u8 0, .im (.val (.slice none 0 0))]⟩)]) (StC.mk (phi [(2, some 2)]) (.old rfl rfl rfl rfl rfl (.cons .im (.cons .im (.cons .im .nil))) .nil) rfl (.cons (.frz rfl rfl rfl (frz_all eS_Rule 6 (fun _ => rfl) (x1 ++ [x5, x6, x7, x8])) (fm_length eS_Rule 6 (fun _ => rfl) (x1 ++ [x5, x6, x7, x8])) (phi_ne rfl)) (.cons (.ref rfl rfl rfl rfl rfl) .nil))) ?_
      refine OpsW.nil ?_
      refine AW.regionSeq ?_
      refine OpsW.seg 2 [34, 2] [] [(34, .agg [.int .i64 2, .int .u8 3, slA eS_Rule (x1 ++ [x5, x6, x7, x8])]), (2, .ref 2 0 0)] (by kernel_rfl) trivial ?_
      refine OpsW.store rfl rfl rfl rfl trivial trivial rfl rfl rfl (by kernel_rfl) (okCb_sound (by kernel_rfl)) (Nat.le_of_ble_eq_true (by kernel_rfl)) ?_
      change OpsW _ _ _ _ _ [(2, ⟨0, true, 33, 3, [.int .i64 2, .int .u8 3, slA eS_Rule (x1 ++ [x5, x6, x7, x8])]⟩), (2, ⟨0, true, 33, 3, [.int .i64 0, .int .u8 0, .im (.val (.slice none 0 0))]⟩)] _
      refine OpsW.seg 0 [2] [] [(2, .ref 2 0 0)] (by kernel_rfl) trivial ?_
      refine OpsW.recast (env' := [(2, .ref 2 0 0)]) (h' := [(2, ⟨0, true, 33, 3, [.int .i64 2, .int .u8 3, slA eS_Rule (x1 ++ [x5, x6, x7, x8])]⟩)]) (StC.mk (phi [(2, some 2)]) (.old rfl rfl rfl rfl rfl (.cons .im (.cons .im (.cons .im .nil))) .nil) rfl (.cons (.ref rfl rfl rfl rfl rfl) .nil)) ?_
      refine OpsW.nil ?_
      obtain rfl := Option.some.inj H
      refine AW.recast (env' := [(2, .ref 2 0 0)]) (h' := [(2, ⟨0, true, 33, 3, [.int .i64 2, .int .u8 3, slA eS_Rule (x1 ++ [x5, x6, x7, x8])]⟩)]) (StC.mk (phi [(2, some 2)]) (.old rfl rfl rfl rfl rfl (.cons .im (.cons .im (.cons .im .nil))) .nil) rfl (.cons (.ref rfl rfl rfl rfl rfl) .nil)) ?_
      refine AW.ret ?_
      try simp only [Ex.then, Ex.inBlock, Ex.noGoto, Ex.jump, reduceIte, Nat.reduceEqDiff, reduceCtorEq]
      refine Done.gen rfl (.cell rfl (by kernel_rfl) .nil) ?_
      show _ = _
      kernel_rfl
    · replace H := condF c4 H
      refine AW.regionSeq ?_
      refine OpsW.seg 2 [35, 16, 3, 7, 5, 4, 2] [] [(35, .bool ((Int.tmod t0 (8 : Int)) == (2 : Int))), (16, .int .u8 (Int.tmod t0 (8 : Int))), (3, .rsl 3 0 0 x1.length), (7, .ref 7 0 0), (5, .ref 5 0 0), (4, .ref 4 0 0), (2, .ref 2 0 0)] (by kernel_rfl) trivial ?_
      refine OpsW.nil ?_
      refine AW.cond (b := (Int.tmod t0 (8 : Int)) == (2 : Int)) rfl (fun c10 => ?_) (fun c10 => ?_)
      · replace H := condT c10 H
        refine AW.drawTSeq 10 Tryd.checked.mixed (by kernel_rfl) ?_
        refine QOps.seg (N := 121) 2 [] [(38, .agg [.int .i64 0, .int .i64 1]), (37, .rsl 3 0 0 x1.length), (35, .bool ((Int.tmod t0 (8 : Int)) == (2 : Int))), (16, .int .u8 (Int.tmod t0 (8 : Int))), (3, .rsl 3 0 0 x1.length), (7, .ref 7 0 0), (5, .ref 5 0 0), (4, .ref 4 0 0), (2, .ref 2 0 0)] (by kernel_rfl) trivial ?_
        obtain ⟨x11, hx11, H⟩ := bindS H
        refine QOps.qcall rfl (by kernel_rfl) rfl (glAll_sound trivial) (.cons (.pur rfl) (.cons (.pur rfl) (.cons (.pur rfl) .nil))) (f_R02_indicator_ok hx11) rfl ?_
        refine QOps.buildTI (enc := eI .u8) [(1 : Int)] rfl rfl E34 (fun _ => rfl) (by decide) ⟨trivial, by kernel_rfl, by kernel_rfl, by kernel_rfl, rfl⟩ ?_
        refine QOps.seg (N := 121) 1 [] [(41, .agg [.int .i64 1, .int .i64 0]), (40, slA (eI .u8) [(1 : Int)]), (39, .agg [.string x11.Print, slA (eI .u8) x11.Cells, .int .u8 x11.Left, .int .u8 x11.Right, .int .i64 x11.From, .int .i64 x11.To]), (38, .agg [.int .i64 0, .int .i64 1]), (37, .rsl 3 0 0 x1.length), (35, .bool ((Int.tmod t0 (8 : Int)) == (2 : Int))), (16, .int .u8 (Int.tmod t0 (8 : Int))), (3, .rsl 3 0 0 x1.length), (7, .ref 7 0 0), (5, .ref 5 0 0), (4, .ref 4 0 0), (2, .ref 2 0 0)] (by kernel_rfl) trivial ?_
        obtain ⟨x12, hx12, H⟩ := bindS H
        refine QOps.qcall rfl (by kernel_rfl) rfl (glAll_sound trivial) (.cons (.pur rfl) (.cons (.pur rfl) (.cons (.pur rfl) .nil))) (f_R02_simple_ok hx12) rfl ?_
        refine QOps.buildTI (enc := eI .u8) [(3 : Int)] rfl rfl E34 (fun _ => rfl) (by decide) ⟨trivial, by kernel_rfl, by kernel_rfl, by kernel_rfl, rfl⟩ ?_
        refine QOps.seg (N := 121) 1 [] [(44, .agg [.int .i64 1, .int .i64 0]), (43, slA (eI .u8) [(3 : Int)]), (42, .agg [.string x12.Print, slA (eI .u8) x12.Cells, .int .u8 x12.Left, .int .u8 x12.Right, .int .i64 x12.From, .int .i64 x12.To]), (41, .agg [.int .i64 1, .int .i64 0]), (40, slA (eI .u8) [(1 : Int)]), (39, .agg [.string x11.Print, slA (eI .u8) x11.Cells, .int .u8 x11.Left, .int .u8 x11.Right, .int .i64 x11.From, .int .i64 x11.To]), (38, .agg [.int .i64 0, .int .i64 1]), (37, .rsl 3 0 0 x1.length), (35, .bool ((Int.tmod t0 (8 : Int)) == (2 : Int))), (16, .int .u8 (Int.tmod t0 (8 : Int))), (3, .rsl 3 0 0 x1.length), (7, .ref 7 0 0), (5, .ref 5 0 0), (4, .ref 4 0 0), (2, .ref 2 0 0)] (by kernel_rfl) trivial ?_
        obtain ⟨x13, hx13, H⟩ := bindS H
        refine QOps.qcall rfl (by kernel_rfl) rfl (glAll_sound trivial) (.cons (.pur rfl) (.cons (.pur rfl) (.cons (.pur rfl) .nil))) (f_R02_simple_ok hx13) rfl ?_
        refine QOps.buildTI (enc := eS_Rule) [x11, x12, x13] rfl rfl E31 (fun _ => rfl) (by decide) ⟨trivial, by kernel_rfl, by kernel_rfl, by kernel_rfl, rfl⟩ ?_
        refine QOps.nil ?_
        refine OpsW.seg 0 [46, 37, 3, 2] [] [(46, slA eS_Rule [x11, x12, x13]), (37, .rsl 3 0 0 x1.length), (3, .rsl 3 0 0 x1.length), (2, .ref 2 0 0)] (by kernel_rfl) trivial ?_
        obtain ⟨g14, H⟩ := G_some H
        refine OpsW.appendF (enc := eS_Rule) (ys := [x11, x12, x13]) rfl rfl rfl E31 (fun _ => rfl) rfl rfl trivial (SrcA.typed (enc := eS_Rule) (fun _ => rfl) (by kernel_rfl) [x11, x12, x13]) rfl g14 ?_
        refine OpsW.seg 1 [3, 2] [] [(3, .rsl 3 1 0 ((x1 ++ [x11, x12, x13]).length)), (2, .ref 2 0 0)] (by kernel_rfl) trivial ?_
        refine OpsW.recast (env' := [(3, slA eS_Rule (x1 ++ [x11, x12, x13])), (2, .ref 2 0 0)]) (h' := [(2, ⟨0, true, 33, 3, [.int .i64 0, .int .u8 0, .im (.val (.slice none 0 0))]⟩)]) (StC.mk (phi [(2, some 2)]) (.old rfl rfl rfl rfl rfl (.cons .im (.cons .im (.cons .im .nil))) .nil) rfl (.cons (.frz rfl rfl rfl (frz_all eS_Rule 6 (fun _ => rfl) (x1 ++ [x11, x12, x13])) (fm_length eS_Rule 6 (fun _ => rfl) (x1 ++ [x11, x12, x13])) (phi_ne rfl)) (.cons (.ref rfl rfl rfl rfl rfl) .nil))) ?_
        refine OpsW.nil ?_
        refine AW.regionSeq ?_
        refine OpsW.seg 2 [49, 2] [] [(49, .agg [.int .i64 2, .int .u8 1, slA eS_Rule (x1 ++ [x11, x12, x13])]), (2, .ref 2 0 0)] (by kernel_rfl) trivial ?_
        refine OpsW.store rfl rfl rfl rfl trivial trivial rfl rfl rfl (by kernel_rfl) (okCb_sound (by kernel_rfl)) (Nat.le_of_ble_eq_true (by kernel_rfl)) ?_
        change OpsW _ _ _ _ _ [(2, ⟨0, true, 33, 3, [.int .i64 2, .int .u8 1, slA eS_Rule (x1 ++ [x11, x12, x13])]⟩), (2, ⟨0, true, 33, 3, [.int .i64 0, .int .u8 0, .im (.val (.slice none 0 0))]⟩)] _
        refine OpsW.seg 0 [2] [] [(2, .ref 2 0 0)] (by kernel_rfl) trivial ?_
        refine OpsW.recast (env' := [(2, .ref 2 0 0)]) (h' := [(2, ⟨0, true, 33, 3, [.int .i64 2, .int .u8 1, slA eS_Rule (x1 ++ [x11, x12, x13])]⟩)]) (StC.mk (phi [(2, some 2)]) (.old rfl rfl rfl rfl rfl (.cons .im (.cons .im (.cons .im .nil))) .nil) rfl (.cons (.ref rfl rfl rfl rfl rfl) .nil)) ?_
        refine OpsW.nil ?_
        obtain rfl := Option.some.inj H
        refine AW.recast (env' := [(2, .ref 2 0 0)]) (h' := [(2, ⟨0, true, 33, 3, [.int .i64 2, .int .u8 1, slA eS_Rule (x1 ++ [x11, x12, x13])]⟩)]) (StC.mk (phi [(2, some 2)]) (.old rfl rfl rfl rfl rfl (.cons .im (.cons .im (.cons .im .nil))) .nil) rfl (.cons (.ref rfl rfl rfl rfl rfl) .nil)) ?_
        refine AW.ret ?_
        try simp only [Ex.then, Ex.inBlock, Ex.noGoto, Ex.jump, reduceIte, Nat.reduceEqDiff, reduceCtorEq]
        refine Done.gen rfl (.cell rfl (by kernel_rfl) .nil) ?_
        show _ = _
        kernel_rfl
      · replace H := condF c10 H
        refine AW.regionSeq ?_
        refine OpsW.seg 2 [50, 16, 3, 7, 5, 4, 2] [] [(50, .bool ((Int.tmod t0 (8 : Int)) == (3 : Int))), (16, .int .u8 (Int.tmod t0 (8 : Int))), (3, .rsl 3 0 0 x1.length), (7, .ref 7 0 0), (5, .ref 5 0 0), (4, .ref 4 0 0), (2, .ref 2 0 0)] (by kernel_rfl) trivial ?_
        refine OpsW.nil ?_
        refine AW.cond (b := (Int.tmod t0 (8 : Int)) == (3 : Int)) rfl (fun c15 => ?_) (fun c15 => ?_)
        · replace H := condT c15 H
          refine AW.drawT 11 Tryd.checked.mixed (by kernel_rfl) ?_
          refine QOps.seg (N := 121) 1 [] [(52, .rsl 3 0 0 x1.length), (50, .bool ((Int.tmod t0 (8 : Int)) == (3 : Int))), (16, .int .u8 (Int.tmod t0 (8 : Int))), (3, .rsl 3 0 0 x1.length), (7, .ref 7 0 0), (5, .ref 5 0 0), (4, .ref 4 0 0), (2, .ref 2 0 0)] (by kernel_rfl) trivial ?_
          refine QOps.buildTI (enc := eI .u8) [(7 : Int)] rfl rfl E34 (fun _ => rfl) (by decide) ⟨trivial, by kernel_rfl, by kernel_rfl, by kernel_rfl, rfl⟩ ?_
          refine QOps.seg (N := 121) 1 [] [(54, .agg [.int .i64 0, .int .i64 0]), (53, slA (eI .u8) [(7 : Int)]), (52, .rsl 3 0 0 x1.length), (50, .bool ((Int.tmod t0 (8 : Int)) == (3 : Int))), (16, .int .u8 (Int.tmod t0 (8 : Int))), (3, .rsl 3 0 0 x1.length), (7, .ref 7 0 0), (5, .ref 5 0 0), (4, .ref 4 0 0), (2, .ref 2 0 0)] (by kernel_rfl) trivial ?_
          obtain ⟨x16, hx16, H⟩ := bindS H
          refine QOps.qcall rfl (by kernel_rfl) rfl (glAll_sound trivial) (.cons (.pur rfl) (.cons (.pur rfl) (.cons (.pur rfl) .nil))) (f_R02_simple_ok hx16) rfl ?_
          refine QOps.buildTI (enc := eI .u8) [(15 : Int)] rfl rfl E34 (fun _ => rfl) (by decide) ⟨trivial, by kernel_rfl, by kernel_rfl, by kernel_rfl, rfl⟩ ?_
          refine QOps.seg (N := 121) 1 [] [(57, .agg [.int .i64 0, .int .i64 0]), (56, slA (eI .u8) [(15 : Int)]), (55, .agg [.string x16.Print, slA (eI .u8) x16.Cells, .int .u8 x16.Left, .int .u8 x16.Right, .int .i64 x16.From, .int .i64 x16.To]), (54, .agg [.int .i64 0, .int .i64 0]), (53, slA (eI .u8) [(7 : Int)]), (52, .rsl 3 0 0 x1.length), (50, .bool ((Int.tmod t0 (8 : Int)) == (3 : Int))), (16, .int .u8 (Int.tmod t0 (8 : Int))), (3, .rsl 3 0 0 x1.length), (7, .ref 7 0 0), (5, .ref 5 0 0), (4, .ref 4 0 0), (2, .ref 2 0 0)] (by kernel_rfl) trivial ?_
          obtain ⟨x17, hx17, H⟩ := bindS H
          refine QOps.qcall rfl (by kernel_rfl) rfl (glAll_sound trivial) (.cons (.pur rfl) (.cons (.pur rfl) (.cons (.pur rfl) .nil))) (f_R02_simple_ok hx17) rfl ?_
          refine QOps.buildTI (enc := eI .u8) [(4 : Int), (4 : Int)] rfl rfl E34 (fun _ => rfl) (by decide) ⟨trivial, by kernel_rfl, by kernel_rfl, by kernel_rfl, rfl⟩ ?_
          refine QOps.seg (N := 121) 1 [] [(60, .agg [.int .i64 0, .int .i64 0]), (59, slA (eI .u8) [(4 : Int), (4 : Int)]), (58, .agg [.string x17.Print, slA (eI .u8) x17.Cells, .int .u8 x17.Left, .int .u8 x17.Right, .int .i64 x17.From, .int .i64 x17.To]), (57, .agg [.int .i64 0, .int .i64 0]), (56, slA (eI .u8) [(15 : Int)]), (55, .agg [.string x16.Print, slA (eI .u8) x16.Cells, .int .u8 x16.Left, .int .u8 x16.Right, .int .i64 x16.From, .int .i64 x16.To]), (54, .agg [.int .i64 0, .int .i64 0]), (53, slA (eI .u8) [(7 : Int)]), (52, .rsl 3 0 0 x1.length), (50, .bool ((Int.tmod t0 (8 : Int)) == (3 : Int))), (16, .int .u8 (Int.tmod t0 (8 : Int))), (3, .rsl 3 0 0 x1.length), (7, .ref 7 0 0), (5, .ref 5 0 0), (4, .ref 4 0 0), (2, .ref 2 0 0)] (by kernel_rfl) trivial ?_
          obtain ⟨x18, hx18, H⟩ := bindS H
          refine QOps.qcall rfl (by kernel_rfl) rfl (glAll_sound trivial) (.cons (.pur rfl) (.cons (.pur rfl) (.cons (.pur rfl) .nil))) (f_R02_simple_ok hx18) rfl ?_
          refine QOps.buildTI (enc := eS_Rule) [x16, x17, x18] rfl rfl E31 (fun _ => rfl) (by decide) ⟨trivial, by kernel_rfl, by kernel_rfl, by kernel_rfl, rfl⟩ ?_
          refine QOps.nil ?_
          refine OpsW.seg 0 [62, 52, 3, 2] [] [(62, slA eS_Rule [x16, x17, x18]), (52, .rsl 3 0 0 x1.length), (3, .rsl 3 0 0 x1.length), (2, .ref 2 0 0)] (by kernel_rfl) trivial ?_
          obtain ⟨g19, H⟩ := G_some H
          refine OpsW.appendF (enc := eS_Rule) (ys := [x16, x17, x18]) rfl rfl rfl E31 (fun _ => rfl) rfl rfl trivial (SrcA.typed (enc := eS_Rule) (fun _ => rfl) (by kernel_rfl) [x16, x17, x18]) rfl g19 ?_
          refine OpsW.seg 1 [3, 2] [] [(3, .rsl 3 1 0 ((x1 ++ [x16, x17, x18]).length)), (2, .ref 2 0 0)] (by kernel_rfl) trivial ?_
          refine OpsW.recast (env' := [(3, slA eS_Rule (x1 ++ [x16, x17, x18])), (2, .ref 2 0 0)]) (h' := [(2, ⟨0, true, 33, 3, [.int .i64 0, .int .u8 0, .im (.val (.slice none 0 0))]⟩)]) (StC.mk (phi [(2, some 2)]) (.old rfl rfl rfl rfl rfl (.cons .im (.cons .im (.cons .im .nil))) .nil) rfl (.cons (.frz rfl rfl rfl (frz_all eS_Rule 6 (fun _ => rfl) (x1 ++ [x16, x17, x18])) (fm_length eS_Rule 6 (fun _ => rfl) (x1 ++ [x16, x17, x18])) (phi_ne rfl)) (.cons (.ref rfl rfl rfl rfl rfl) .nil))) ?_
          refine OpsW.nil ?_
          show ∃ y, _ ∧ StC _ _ _ _
          exact ⟨((⟨(0 : Int), (0 : Int), []⟩ : S_Table), x1 ++ [x16, x17, x18]), H, (StC.mk (phi [(2, some 2)]) (.old rfl rfl rfl rfl rfl (.cons .im (.cons .im (.cons .nil .nil))) .nil) rfl (.cons (.ref rfl rfl rfl rfl rfl) (.cons .im .nil)))⟩
        · replace H := condF c15 H
          refine AW.regionSeq ?_
          refine OpsW.seg 2 [64, 16, 3, 7, 5, 4, 2] [] [(64, .bool ((Int.tmod t0 (8 : Int)) == (4 : Int))), (16, .int .u8 (Int.tmod t0 (8 : Int))), (3, .rsl 3 0 0 x1.length), (7, .ref 7 0 0), (5, .ref 5 0 0), (4, .ref 4 0 0), (2, .ref 2 0 0)] (by kernel_rfl) trivial ?_
          refine OpsW.nil ?_
          refine AW.cond (b := (Int.tmod t0 (8 : Int)) == (4 : Int)) rfl (fun c20 => ?_) (fun c20 => ?_)
          · replace H := condT c20 H
            refine AW.region ?_
            refine OpsW.seg 1 [66, 3, 4, 2] [] [(66, .rsl 3 0 0 x1.length), (3, .rsl 3 0 0 x1.length), (4, .ref 4 0 0), (2, .ref 2 0 0)] (by kernel_rfl) trivial ?_
            refine OpsW.buildTI (enc := eI .u8) [(1 : Int), (3 : Int)] rfl rfl rfl E34 (fun _ => rfl) (by decide) ⟨trivial, by kernel_rfl, by kernel_rfl, by kernel_rfl, rfl⟩ ?_
            refine OpsW.seg 1 [68, 67, 66, 3, 2] [] [(68, .agg [.int .i64 0, .int .i64 0]), (67, slA (eI .u8) [(1 : Int), (3 : Int)]), (66, .rsl 3 0 0 x1.length), (3, .rsl 3 0 0 x1.length), (2, .ref 2 0 0)] (by kernel_rfl) trivial ?_
            obtain ⟨x21, hx21, H⟩ := bindS H
            refine OpsW.qcall rfl (by kernel_rfl) rfl rfl (glAll_sound trivial) (.cons (.pur rfl) (.cons (.pur rfl) (.cons (.pur rfl) .nil))) (f_R02_simple_ok hx21) rfl ?_
            obtain ⟨g22, H⟩ := G_some H
            refine OpsW.appendLF (enc := eS_Rule) [x21] rfl rfl rfl (by decide) rfl rfl rfl (by simp) E31 (fun _ => rfl) (by decide) trivial (by kernel_rfl) (by kernel_rfl) (by kernel_rfl) rfl rfl rfl g22 ?_
            refine OpsW.seg 1 [3, 2] [] [(3, .rsl 3 1 0 ((x1 ++ [x21]).length)), (2, .ref 2 0 0)] (by kernel_rfl) trivial ?_
            refine OpsW.recast (env' := [(3, slA eS_Rule (x1 ++ [x21])), (2, .ref 2 0 0)]) (h' := [(2, ⟨0, true, 33, 3, [.int .i64 0, .int .u8 0, .im (.val (.slice none 0 0))]⟩)]) (StC.mk (phi [(2, some 2)]) (.old rfl rfl rfl rfl rfl (.cons .im (.cons .im (.cons .im .nil))) .nil) rfl (.cons (.frz rfl rfl rfl (frz_all eS_Rule 6 (fun _ => rfl) (x1 ++ [x21])) (fm_length eS_Rule 6 (fun _ => rfl) (x1 ++ [x21])) (phi_ne rfl)) (.cons (.ref rfl rfl rfl rfl rfl) .nil))) ?_
            refine OpsW.nil ?_
            show ∃ y, _ ∧ StC _ _ _ _
            exact ⟨((⟨(0 : Int), (0 : Int), []⟩ : S_Table), x1 ++ [x21]), H, (StC.mk (phi [(2, some 2)]) (.old rfl rfl rfl rfl rfl (.cons .im (.cons .im (.cons .nil .nil))) .nil) rfl (.cons (.ref rfl rfl rfl rfl rfl) (.cons .im .nil)))⟩
          · replace H := condF c20 H
            refine AW.regionSeq ?_
            refine OpsW.seg 2 [72, 16, 3, 7, 5, 4, 2] [] [(72, .bool ((Int.tmod t0 (8 : Int)) == (5 : Int))), (16, .int .u8 (Int.tmod t0 (8 : Int))), (3, .rsl 3 0 0 x1.length), (7, .ref 7 0 0), (5, .ref 5 0 0), (4, .ref 4 0 0), (2, .ref 2 0 0)] (by kernel_rfl) trivial ?_
            refine OpsW.nil ?_
            refine AW.cond (b := (Int.tmod t0 (8 : Int)) == (5 : Int)) rfl (fun c23 => ?_) (fun c23 => ?_)
            · replace H := condT c23 H
              refine AW.drawGSeq 8 [(6, 8), (7, 9)] Tryd.checked.mixed (by kernel_rfl) (by kernel_rfl) ?_
              refine DOps.q 6 (by kernel_rfl) ?_
              refine QOps.buildTI (enc := eI .u8) [(44 : Int)] rfl rfl E34 (fun _ => rfl) (by decide) ⟨trivial, by kernel_rfl, by kernel_rfl, by kernel_rfl, rfl⟩ ?_
              refine QOps.seg (N := 121) 1 [] [(75, .agg [.int .i64 0, .int .i64 0]), (74, slA (eI .u8) [(44 : Int)]), (72, .bool ((Int.tmod t0 (8 : Int)) == (5 : Int))), (16, .int .u8 (Int.tmod t0 (8 : Int))), (3, .rsl 3 0 0 x1.length), (7, .ref 7 0 0), (5, .ref 5 0 0), (4, .ref 4 0 0), (2, .ref 2 0 0)] (by kernel_rfl) trivial ?_
              obtain ⟨x24, hx24, H⟩ := bindS H
              refine QOps.qcall rfl (by kernel_rfl) rfl (glAll_sound trivial) (.cons (.pur rfl) (.cons (.pur rfl) (.cons (.pur rfl) .nil))) (f_R02_simple_ok hx24) rfl ?_
              refine QOps.buildTI (enc := eI .u8) [(44 : Int)] rfl rfl E34 (fun _ => rfl) (by decide) ⟨trivial, by kernel_rfl, by kernel_rfl, by kernel_rfl, rfl⟩ ?_
              refine QOps.seg (N := 121) 1 [] [(78, .agg [.int .i64 0, .int .i64 0]), (77, slA (eI .u8) [(44 : Int)]), (76, .agg [.string x24.Print, slA (eI .u8) x24.Cells, .int .u8 x24.Left, .int .u8 x24.Right, .int .i64 x24.From, .int .i64 x24.To]), (75, .agg [.int .i64 0, .int .i64 0]), (74, slA (eI .u8) [(44 : Int)]), (72, .bool ((Int.tmod t0 (8 : Int)) == (5 : Int))), (16, .int .u8 (Int.tmod t0 (8 : Int))), (3, .rsl 3 0 0 x1.length), (7, .ref 7 0 0), (5, .ref 5 0 0), (4, .ref 4 0 0), (2, .ref 2 0 0)] (by kernel_rfl) trivial ?_
              obtain ⟨x25, hx25, H⟩ := bindS H
              refine QOps.qcall rfl (by kernel_rfl) rfl (glAll_sound trivial) (.cons (.pur rfl) (.cons (.pur rfl) (.cons (.pur rfl) .nil))) (f_R02_simple_ok hx25) rfl ?_
              refine QOps.nil ?_
              refine DOps.e 8 rfl rfl rfl (by exact fun g hg hb => RStep.alloc rfl 8 (hg.trans rfl) (by kernel_rfl : zc Tryd.prog 36 = some [.string ⟨#[]⟩, .slice none 0 0, .int .u8 0, .int .u8 0, .int .i64 0, .int .i64 0]) (by kernel_rfl)) ?_
              refine DOps.e 9 rfl rfl rfl (by exact fun g hg hb => RStep.alloc rfl 9 (hg.trans rfl) (by kernel_rfl : zc Tryd.prog 36 = some [.string ⟨#[]⟩, .slice none 0 0, .int .u8 0, .int .u8 0, .int .i64 0, .int .i64 0]) (by kernel_rfl)) ?_
              refine DOps.nil ?_
              refine OpsW.seg 0 [9, 8, 79, 76, 3, 4, 2] [] [(9, .ref 9 0 0), (8, .ref 8 0 0), (79, .agg [.string x25.Print, slA (eI .u8) x25.Cells, .int .u8 x25.Left, .int .u8 x25.Right, .int .i64 x25.From, .int .i64 x25.To]), (76, .agg [.string x24.Print, slA (eI .u8) x24.Cells, .int .u8 x24.Left, .int .u8 x24.Right, .int .i64 x24.From, .int .i64 x24.To]), (3, .rsl 3 0 0 x1.length), (4, .ref 4 0 0), (2, .ref 2 0 0)] (by kernel_rfl) trivial ?_
              refine OpsW.store rfl rfl rfl rfl trivial trivial rfl rfl rfl (by kernel_rfl) (okCb_sound (by kernel_rfl)) (Nat.le_of_ble_eq_true (by kernel_rfl)) ?_
              change OpsW _ _ _ _ _ [(8, ⟨0, true, 36, 6, [.string x24.Print, slA (eI .u8) x24.Cells, .int .u8 x24.Left, .int .u8 x24.Right, .int .i64 x24.From, .int .i64 x24.To]⟩), (9, ⟨0, true, 36, 6, [.string (⟨#[]⟩ : ByteArray), .im (.val (.slice none 0 0)), .int .u8 0, .int .u8 0, .int .i64 0, .int .i64 0]⟩), (8, ⟨0, true, 36, 6, [.string (⟨#[]⟩ : ByteArray), .im (.val (.slice none 0 0)), .int .u8 0, .int .u8 0, .int .i64 0, .int .i64 0]⟩), (2, ⟨0, true, 33, 3, [.int .i64 0, .int .u8 0, .im (.val (.slice none 0 0))]⟩), (3, rtA 0 36 6 eS_Rule x1), (4, ⟨0, true, 82, 2, [.int .i64 0, .int .i64 0]⟩), (5, ⟨0, true, 82, 2, [.int .i64 0, .int .i64 1]⟩), (6, ⟨0, true, 82, 2, [.int .i64 1, .int .i64 1]⟩), (7, ⟨0, true, 82, 2, [.int .i64 1, .int .i64 0]⟩)] _
              refine OpsW.store rfl rfl rfl rfl trivial trivial rfl rfl rfl (by kernel_rfl) (okCb_sound (by kernel_rfl)) (Nat.le_of_ble_eq_true (by kernel_rfl)) ?_
              change OpsW _ _ _ _ _ [(9, ⟨0, true, 36, 6, [.string x25.Print, slA (eI .u8) x25.Cells, .int .u8 x25.Left, .int .u8 x25.Right, .int .i64 x25.From, .int .i64 x25.To]⟩), (8, ⟨0, true, 36, 6, [.string x24.Print, slA (eI .u8) x24.Cells, .int .u8 x24.Left, .int .u8 x24.Right, .int .i64 x24.From, .int .i64 x24.To]⟩), (9, ⟨0, true, 36, 6, [.string (⟨#[]⟩ : ByteArray), .im (.val (.slice none 0 0)), .int .u8 0, .int .u8 0, .int .i64 0, .int .i64 0]⟩), (8, ⟨0, true, 36, 6, [.string (⟨#[]⟩ : ByteArray), .im (.val (.slice none 0 0)), .int .u8 0, .int .u8 0, .int .i64 0, .int .i64 0]⟩), (2, ⟨0, true, 33, 3, [.int .i64 0, .int .u8 0, .im (.val (.slice none 0 0))]⟩), (3, rtA 0 36 6 eS_Rule x1), (4, ⟨0, true, 82, 2, [.int .i64 0, .int .i64 0]⟩), (5, ⟨0, true, 82, 2, [.int .i64 0, .int .i64 1]⟩), (6, ⟨0, true, 82, 2, [.int .i64 1, .int .i64 1]⟩), (7, ⟨0, true, 82, 2, [.int .i64 1, .int .i64 0]⟩)] _
              refine OpsW.seg 0 [9, 8, 3, 4, 2] [] [(9, .ref 9 0 0), (8, .ref 8 0 0), (3, .rsl 3 0 0 x1.length), (4, .ref 4 0 0), (2, .ref 2 0 0)] (by kernel_rfl) trivial ?_
              refine OpsW.recast (env' := [(9, .ref 9 0 0), (8, .ref 8 0 0), (3, .rsl 3 0 0 x1.length), (4, .ref 4 0 0), (2, .ref 2 0 0)]) (h' := [(2, ⟨0, true, 33, 3, [.int .i64 0, .int .u8 0, .im (.val (.slice none 0 0))]⟩), (3, rtA 0 36 6 eS_Rule x1), (4, ⟨0, true, 82, 2, [.int .i64 0, .int .i64 0]⟩), (8, ⟨0, true, 36, 6, [.string x24.Print, slA (eI .u8) x24.Cells, .int .u8 x24.Left, .int .u8 x24.Right, .int .i64 x24.From, .int .i64 x24.To]⟩), (9, ⟨0, true, 36, 6, [.string x25.Print, slA (eI .u8) x25.Cells, .int .u8 x25.Left, .int .u8 x25.Right, .int .i64 x25.From, .int .i64 x25.To]⟩)]) (StC.mk (phi [(2, some 2), (3, some 3), (4, some 4), (8, some 8), (9, some 9)]) (.old rfl rfl rfl rfl rfl (.cons .im (.cons .im (.cons .im .nil))) (.old rfl rfl rfl rfl rfl (CstL.ims _) (.old rfl rfl rfl rfl rfl (.cons .im (.cons .im .nil)) (.old rfl rfl rfl rfl rfl (.cons .im (.cons .im (.cons .im (.cons .im (.cons .im (.cons .im .nil)))))) (.old rfl rfl rfl rfl rfl (.cons .im (.cons .im (.cons .im (.cons .im (.cons .im (.cons .im .nil)))))) .nil))))) rfl (.cons (.ref rfl rfl rfl rfl rfl) (.cons (.ref rfl rfl rfl rfl rfl) (.cons (.rsl rfl rfl rfl rfl rfl rfl) (.cons (.ref rfl rfl rfl rfl rfl) (.cons (.ref rfl rfl rfl rfl rfl) .nil)))))) ?_
              refine OpsW.nil ?_
              refine AW.regionSeq ?_
              refine OpsW.seg 1 [80, 9, 8, 3, 4, 2] [] [(80, .ref 8 0 2), (9, .ref 9 0 0), (8, .ref 8 0 0), (3, .rsl 3 0 0 x1.length), (4, .ref 4 0 0), (2, .ref 2 0 0)] (by kernel_rfl) trivial ?_
              refine OpsW.store rfl rfl rfl rfl trivial trivial rfl rfl rfl (by kernel_rfl) (okCb_sound (by kernel_rfl)) (Nat.le_of_ble_eq_true (by kernel_rfl)) ?_
              change OpsW _ _ _ _ _ [(8, ⟨0, true, 36, 6, [.string x24.Print, slA (eI .u8) x24.Cells, .int .u8 17, .int .u8 x24.Right, .int .i64 x24.From, .int .i64 x24.To]⟩), (2, ⟨0, true, 33, 3, [.int .i64 0, .int .u8 0, .im (.val (.slice none 0 0))]⟩), (3, rtA 0 36 6 eS_Rule x1), (4, ⟨0, true, 82, 2, [.int .i64 0, .int .i64 0]⟩), (8, ⟨0, true, 36, 6, [.string x24.Print, slA (eI .u8) x24.Cells, .int .u8 x24.Left, .int .u8 x24.Right, .int .i64 x24.From, .int .i64 x24.To]⟩), (9, ⟨0, true, 36, 6, [.string x25.Print, slA (eI .u8) x25.Cells, .int .u8 x25.Left, .int .u8 x25.Right, .int .i64 x25.From, .int .i64 x25.To]⟩)] _
              refine OpsW.seg 1 [81, 9, 8, 3, 4, 2] [] [(81, .ref 9 0 2), (9, .ref 9 0 0), (8, .ref 8 0 0), (3, .rsl 3 0 0 x1.length), (4, .ref 4 0 0), (2, .ref 2 0 0)] (by kernel_rfl) trivial ?_
              refine OpsW.store rfl rfl rfl rfl trivial trivial rfl rfl rfl (by kernel_rfl) (okCb_sound (by kernel_rfl)) (Nat.le_of_ble_eq_true (by kernel_rfl)) ?_
              change OpsW _ _ _ _ _ [(9, ⟨0, true, 36, 6, [.string x25.Print, slA (eI .u8) x25.Cells, .int .u8 2, .int .u8 x25.Right, .int .i64 x25.From, .int .i64 x25.To]⟩), (8, ⟨0, true, 36, 6, [.string x24.Print, slA (eI .u8) x24.Cells, .int .u8 17, .int .u8 x24.Right, .int .i64 x24.From, .int .i64 x24.To]⟩), (2, ⟨0, true, 33, 3, [.int .i64 0, .int .u8 0, .im (.val (.slice none 0 0))]⟩), (3, rtA 0 36 6 eS_Rule x1), (4, ⟨0, true, 82, 2, [.int .i64 0, .int .i64 0]⟩), (8, ⟨0, true, 36, 6, [.string x24.Print, slA (eI .u8) x24.Cells, .int .u8 x24.Left, .int .u8 x24.Right, .int .i64 x24.From, .int .i64 x24.To]⟩), (9, ⟨0, true, 36, 6, [.string x25.Print, slA (eI .u8) x25.Cells, .int .u8 x25.Left, .int .u8 x25.Right, .int .i64 x25.From, .int .i64 x25.To]⟩)] _
              refine OpsW.seg 0 [9, 8, 3, 4, 2] [] [(9, .ref 9 0 0), (8, .ref 8 0 0), (3, .rsl 3 0 0 x1.length), (4, .ref 4 0 0), (2, .ref 2 0 0)] (by kernel_rfl) trivial ?_
              refine OpsW.recast (env' := [(9, .ref 9 0 0), (8, .ref 8 0 0), (3, .rsl 3 0 0 x1.length), (4, .ref 4 0 0), (2, .ref 2 0 0)]) (h' := [(2, ⟨0, true, 33, 3, [.int .i64 0, .int .u8 0, .im (.val (.slice none 0 0))]⟩), (3, rtA 0 36 6 eS_Rule x1), (4, ⟨0, true, 82, 2, [.int .i64 0, .int .i64 0]⟩), (8, ⟨0, true, 36, 6, [.string x24.Print, slA (eI .u8) x24.Cells, .int .u8 17, .int .u8 x24.Right, .int .i64 x24.From, .int .i64 x24.To]⟩), (9, ⟨0, true, 36, 6, [.string x25.Print, slA (eI .u8) x25.Cells, .int .u8 2, .int .u8 x25.Right, .int .i64 x25.From, .int .i64 x25.To]⟩)]) (StC.mk (phi [(2, some 2), (3, some 3), (4, some 4), (8, some 8), (9, some 9)]) (.old rfl rfl rfl rfl rfl (.cons .im (.cons .im (.cons .im .nil))) (.old rfl rfl rfl rfl rfl (CstL.ims _) (.old rfl rfl rfl rfl rfl (.cons .im (.cons .im .nil)) (.old rfl rfl rfl rfl rfl (.cons .im (.cons .im (.cons .im (.cons .im (.cons .im (.cons .im .nil)))))) (.old rfl rfl rfl rfl rfl (.cons .im (.cons .im (.cons .im (.cons .im (.cons .im (.cons .im .nil)))))) .nil))))) rfl (.cons (.ref rfl rfl rfl rfl rfl) (.cons (.ref rfl rfl rfl rfl rfl) (.cons (.rsl rfl rfl rfl rfl rfl rfl) (.cons (.ref rfl rfl rfl rfl rfl) (.cons (.ref rfl rfl rfl rfl rfl) .nil)))))) ?_
              refine OpsW.nil ?_
              refine AW.drawT 7 Tryd.checked.mixed (by kernel_rfl) ?_
              refine QOps.seg (N := 121) 3 [] [(84, .agg [.string x25.Print, slA (eI .u8) x25.Cells, .int .u8 2, .int .u8 x25.Right, .int .i64 x25.From, .int .i64 x25.To]), (83, .agg [.string x24.Print, slA (eI .u8) x24.Cells, .int .u8 17, .int .u8 x24.Right, .int .i64 x24.From, .int .i64 x24.To]), (82, .rsl 3 0 0 x1.length), (9, .ref 9 0 0), (8, .ref 8 0 0), (3, .rsl 3 0 0 x1.length), (4, .ref 4 0 0), (2, .ref 2 0 0)] (by kernel_rfl) trivial ?_
              refine QOps.buildTI (enc := eI .u8) [(36 : Int)] rfl rfl E34 (fun _ => rfl) (by decide) ⟨trivial, by kernel_rfl, by kernel_rfl, by kernel_rfl, rfl⟩ ?_
              refine QOps.seg (N := 121) 1 [] [(86, .agg [.int .i64 0, .int .i64 0]), (85, slA (eI .u8) [(36 : Int)]), (84, .agg [.string x25.Print, slA (eI .u8) x25.Cells, .int .u8 2, .int .u8 x25.Right, .int .i64 x25.From, .int .i64 x25.To]), (83, .agg [.string x24.Print, slA (eI .u8) x24.Cells, .int .u8 17, .int .u8 x24.Right, .int .i64 x24.From, .int .i64 x24.To]), (82, .rsl 3 0 0 x1.length), (9, .ref 9 0 0), (8, .ref 8 0 0), (3, .rsl 3 0 0 x1.length), (4, .ref 4 0 0), (2, .ref 2 0 0)] (by kernel_rfl) trivial ?_
              obtain ⟨x26, hx26, H⟩ := bindS H
              refine QOps.qcall rfl (by kernel_rfl) rfl (glAll_sound trivial) (.cons (.pur rfl) (.cons (.pur rfl) (.cons (.pur rfl) .nil))) (f_R02_simple_ok hx26) rfl ?_
              refine QOps.buildTI (enc := eS_Rule) [(⟨x24.Print, x24.Cells, (17 : Int), x24.Right, x24.From, x24.To⟩ : S_Rule), (⟨x25.Print, x25.Cells, (2 : Int), x25.Right, x25.From, x25.To⟩ : S_Rule), x26] rfl rfl E31 (fun _ => rfl) (by decide) ⟨trivial, by kernel_rfl, by kernel_rfl, by kernel_rfl, rfl⟩ ?_
              refine QOps.nil ?_
              refine OpsW.seg 0 [88, 82, 3, 2] [] [(88, slA eS_Rule [(⟨x24.Print, x24.Cells, (17 : Int), x24.Right, x24.From, x24.To⟩ : S_Rule), (⟨x25.Print, x25.Cells, (2 : Int), x25.Right, x25.From, x25.To⟩ : S_Rule), x26]), (82, .rsl 3 0 0 x1.length), (3, .rsl 3 0 0 x1.length), (2, .ref 2 0 0)] (by kernel_rfl) trivial ?_
              obtain ⟨g27, H⟩ := G_some H
              refine OpsW.appendF (enc := eS_Rule) (ys := [(⟨x24.Print, x24.Cells, (17 : Int), x24.Right, x24.From, x24.To⟩ : S_Rule), (⟨x25.Print, x25.Cells, (2 : Int), x25.Right, x25.From, x25.To⟩ : S_Rule), x26]) rfl rfl rfl E31 (fun _ => rfl) rfl rfl trivial (SrcA.typed (enc := eS_Rule) (fun _ => rfl) (by kernel_rfl) [(⟨x24.Print, x24.Cells, (17 : Int), x24.Right, x24.From, x24.To⟩ : S_Rule), (⟨x25.Print, x25.Cells, (2 : Int), x25.Right, x25.From, x25.To⟩ : S_Rule), x26]) rfl g27 ?_
              refine OpsW.seg 1 [3, 2] [] [(3, .rsl 3 1 0 ((x1 ++ [(⟨x24.Print, x24.Cells, (17 : Int), x24.Right, x24.From, x24.To⟩ : S_Rule), (⟨x25.Print, x25.Cells, (2 : Int), x25.Right, x25.From, x25.To⟩ : S_Rule), x26]).length)), (2, .ref 2 0 0)] (by kernel_rfl) trivial ?_
              refine OpsW.recast (env' := [(3, slA eS_Rule (x1 ++ [(⟨x24.Print, x24.Cells, (17 : Int), x24.Right, x24.From, x24.To⟩ : S_Rule), (⟨x25.Print, x25.Cells, (2 : Int), x25.Right, x25.From, x25.To⟩ : S_Rule), x26])), (2, .ref 2 0 0)]) (h' := [(2, ⟨0, true, 33, 3, [.int .i64 0, .int .u8 0, .im (.val (.slice none 0 0))]⟩)]) (StC.mk (phi [(2, some 2)]) (.old rfl rfl rfl rfl rfl (.cons .im (.cons .im (.cons .im .nil))) .nil) rfl (.cons (.frz rfl rfl rfl (frz_all eS_Rule 6 (fun _ => rfl) (x1 ++ [(⟨x24.Print, x24.Cells, (17 : Int), x24.Right, x24.From, x24.To⟩ : S_Rule), (⟨x25.Print, x25.Cells, (2 : Int), x25.Right, x25.From, x25.To⟩ : S_Rule), x26])) (fm_length eS_Rule 6 (fun _ => rfl) (x1 ++ [(⟨x24.Print, x24.Cells, (17 : Int), x24.Right, x24.From, x24.To⟩ : S_Rule), (⟨x25.Print, x25.Cells, (2 : Int), x25.Right, x25.From, x25.To⟩ : S_Rule), x26])) (phi_ne rfl)) (.cons (.ref rfl rfl rfl rfl rfl) .nil))) ?_
              refine OpsW.nil ?_
              show ∃ y, _ ∧ StC _ _ _ _
              exact ⟨((⟨(0 : Int), (0 : Int), []⟩ : S_Table), x1 ++ [(⟨x24.Print, x24.Cells, (17 : Int), x24.Right, x24.From, x24.To⟩ : S_Rule), (⟨x25.Print, x25.Cells, (2 : Int), x25.Right, x25.From, x25.To⟩ : S_Rule), x26]), H, (StC.mk (phi [(2, some 2)]) (.old rfl rfl rfl rfl rfl (.cons .im (.cons .im (.cons .nil .nil))) .nil) rfl (.cons (.ref rfl rfl rfl rfl rfl) (.cons .im .nil)))⟩
            · replace H := condF c23 H
              refine AW.regionSeq ?_
              refine OpsW.seg 2 [90, 16, 3, 7, 5, 4, 2] [] [(90, .bool ((Int.tmod t0 (8 : Int)) == (6 : Int))), (16, .int .u8 (Int.tmod t0 (8 : Int))), (3, .rsl 3 0 0 x1.length), (7, .ref 7 0 0), (5, .ref 5 0 0), (4, .ref 4 0 0), (2, .ref 2 0 0)] (by kernel_rfl) trivial ?_
              refine OpsW.nil ?_
              refine AW.cond (b := (Int.tmod t0 (8 : Int)) == (6 : Int)) rfl (fun c28 => ?_) (fun c28 => ?_)
              · replace H := condT c28 H
                refine AW.drawTSeq 10 Tryd.checked.mixed (by kernel_rfl) ?_
                refine QOps.seg (N := 121) 2 [] [(93, .agg [.int .i64 0, .int .i64 1]), (92, .rsl 3 0 0 x1.length), (90, .bool ((Int.tmod t0 (8 : Int)) == (6 : Int))), (16, .int .u8 (Int.tmod t0 (8 : Int))), (3, .rsl 3 0 0 x1.length), (7, .ref 7 0 0), (5, .ref 5 0 0), (4, .ref 4 0 0), (2, .ref 2 0 0)] (by kernel_rfl) trivial ?_
                obtain ⟨x29, hx29, H⟩ := bindS H
                refine QOps.qcall rfl (by kernel_rfl) rfl (glAll_sound trivial) (.cons (.pur rfl) (.cons (.pur rfl) (.cons (.pur rfl) .nil))) (f_R02_indicator_ok hx29) rfl ?_
                refine QOps.buildTI (enc := eI .u8) [(1 : Int)] rfl rfl E34 (fun _ => rfl) (by decide) ⟨trivial, by kernel_rfl, by kernel_rfl, by kernel_rfl, rfl⟩ ?_
                refine QOps.seg (N := 121) 1 [] [(96, .agg [.int .i64 1, .int .i64 0]), (95, slA (eI .u8) [(1 : Int)]), (94, .agg [.string x29.Print, slA (eI .u8) x29.Cells, .int .u8 x29.Left, .int .u8 x29.Right, .int .i64 x29.From, .int .i64 x29.To]), (93, .agg [.int .i64 0, .int .i64 1]), (92, .rsl 3 0 0 x1.length), (90, .bool ((Int.tmod t0 (8 : Int)) == (6 : Int))), (16, .int .u8 (Int.tmod t0 (8 : Int))), (3, .rsl 3 0 0 x1.length), (7, .ref 7 0 0), (5, .ref 5 0 0), (4, .ref 4 0 0), (2, .ref 2 0 0)] (by kernel_rfl) trivial ?_
                obtain ⟨x30, hx30, H⟩ := bindS H
                refine QOps.qcall rfl (by kernel_rfl) rfl (glAll_sound trivial) (.cons (.pur rfl) (.cons (.pur rfl) (.cons (.pur rfl) .nil))) (f_R02_simple_ok hx30) rfl ?_
                refine QOps.buildTI (enc := eI .u8) [(3 : Int)] rfl rfl E34 (fun _ => rfl) (by decide) ⟨trivial, by kernel_rfl, by kernel_rfl, by kernel_rfl, rfl⟩ ?_
                refine QOps.seg (N := 121) 1 [] [(99, .agg [.int .i64 1, .int .i64 0]), (98, slA (eI .u8) [(3 : Int)]), (97, .agg [.string x30.Print, slA (eI .u8) x30.Cells, .int .u8 x30.Left, .int .u8 x30.Right, .int .i64 x30.From, .int .i64 x30.To]), (96, .agg [.int .i64 1, .int .i64 0]), (95, slA (eI .u8) [(1 : Int)]), (94, .agg [.string x29.Print, slA (eI .u8) x29.Cells, .int .u8 x29.Left, .int .u8 x29.Right, .int .i64 x29.From, .int .i64 x29.To]), (93, .agg [.int .i64 0, .int .i64 1]), (92, .rsl 3 0 0 x1.length), (90, .bool ((Int.tmod t0 (8 : Int)) == (6 : Int))), (16, .int .u8 (Int.tmod t0 (8 : Int))), (3, .rsl 3 0 0 x1.length), (7, .ref 7 0 0), (5, .ref 5 0 0), (4, .ref 4 0 0), (2, .ref 2 0 0)] (by kernel_rfl) trivial ?_
                obtain ⟨x31, hx31, H⟩ := bindS H
                refine QOps.qcall rfl (by kernel_rfl) rfl (glAll_sound trivial) (.cons (.pur rfl) (.cons (.pur rfl) (.cons (.pur rfl) .nil))) (f_R02_simple_ok hx31) rfl ?_
                refine QOps.buildTI (enc := eS_Rule) [x29, x30, x31] rfl rfl E31 (fun _ => rfl) (by decide) ⟨trivial, by kernel_rfl, by kernel_rfl, by kernel_rfl, rfl⟩ ?_
                refine QOps.nil ?_
                refine OpsW.seg 0 [101, 92, 3, 2] [] [(101, slA eS_Rule [x29, x30, x31]), (92, .rsl 3 0 0 x1.length), (3, .rsl 3 0 0 x1.length), (2, .ref 2 0 0)] (by kernel_rfl) trivial ?_
                obtain ⟨g32, H⟩ := G_some H
                refine OpsW.appendF (enc := eS_Rule) (ys := [x29, x30, x31]) rfl rfl rfl E31 (fun _ => rfl) rfl rfl trivial (SrcA.typed (enc := eS_Rule) (fun _ => rfl) (by kernel_rfl) [x29, x30, x31]) rfl g32 ?_
                refine OpsW.seg 1 [3, 2] [] [(3, .rsl 3 1 0 ((x1 ++ [x29, x30, x31]).length)), (2, .ref 2 0 0)] (by kernel_rfl) trivial ?_
                refine OpsW.recast (env' := [(3, slA eS_Rule (x1 ++ [x29, x30, x31])), (2, .ref 2 0 0)]) (h' := [(2, ⟨0, true, 33, 3, [.int .i64 0, .int .u8 0, .im (.val (.slice none 0 0))]⟩)]) (StC.mk (phi [(2, some 2)]) (.old rfl rfl rfl rfl rfl (.cons .im (.cons .im (.cons .im .nil))) .nil) rfl (.cons (.frz rfl rfl rfl (frz_all eS_Rule 6 (fun _ => rfl) (x1 ++ [x29, x30, x31])) (fm_length eS_Rule 6 (fun _ => rfl) (x1 ++ [x29, x30, x31])) (phi_ne rfl)) (.cons (.ref rfl rfl rfl rfl rfl) .nil))) ?_
                refine OpsW.nil ?_
                refine AW.regionSeq ?_
                refine OpsW.seg 2 [104, 2] [] [(104, .agg [.int .i64 2, .int .u8 1, slA eS_Rule (x1 ++ [x29, x30, x31])]), (2, .ref 2 0 0)] (by kernel_rfl) trivial ?_
                refine OpsW.store rfl rfl rfl rfl trivial trivial rfl rfl rfl (by kernel_rfl) (okCb_sound (by kernel_rfl)) (Nat.le_of_ble_eq_true (by kernel_rfl)) ?_
                change OpsW _ _ _ _ _ [(2, ⟨0, true, 33, 3, [.int .i64 2, .int .u8 1, slA eS_Rule (x1 ++ [x29, x30, x31])]⟩), (2, ⟨0, true, 33, 3, [.int .i64 0, .int .u8 0, .im (.val (.slice none 0 0))]⟩)] _
                refine OpsW.seg 0 [2] [] [(2, .ref 2 0 0)] (by kernel_rfl) trivial ?_
                refine OpsW.recast (env' := [(2, .ref 2 0 0)]) (h' := [(2, ⟨0, true, 33, 3, [.int .i64 2, .int .u8 1, slA eS_Rule (x1 ++ [x29, x30, x31])]⟩)]) (StC.mk (phi [(2, some 2)]) (.old rfl rfl rfl rfl rfl (.cons .im (.cons .im (.cons .im .nil))) .nil) rfl (.cons (.ref rfl rfl rfl rfl rfl) .nil)) ?_
                refine OpsW.nil ?_
                obtain rfl := Option.some.inj H
                refine AW.recast (env' := [(2, .ref 2 0 0)]) (h' := [(2, ⟨0, true, 33, 3, [.int .i64 2, .int .u8 1, slA eS_Rule (x1 ++ [x29, x30, x31])]⟩)]) (StC.mk (phi [(2, some 2)]) (.old rfl rfl rfl rfl rfl (.cons .im (.cons .im (.cons .im .nil))) .nil) rfl (.cons (.ref rfl rfl rfl rfl rfl) .nil)) ?_
                refine AW.ret ?_
                try simp only [Ex.then, Ex.inBlock, Ex.noGoto, Ex.jump, reduceIte, Nat.reduceEqDiff, reduceCtorEq]
                refine Done.gen rfl (.cell rfl (by kernel_rfl) .nil) ?_
                show _ = _
                kernel_rfl
              · replace H := condF c28 H
                refine AW.regionSeq ?_
                refine OpsW.seg 2 [105, 3, 4, 2] [] [(105, .bool ((Int.tmod t0 (8 : Int)) == (7 : Int))), (3, .rsl 3 0 0 x1.length), (4, .ref 4 0 0), (2, .ref 2 0 0)] (by kernel_rfl) trivial ?_
                refine OpsW.nil ?_
                refine AW.cond (b := (Int.tmod t0 (8 : Int)) == (7 : Int)) rfl (fun c33 => ?_) (fun c33 => ?_)
                · replace H := condT c33 H
                  refine AW.drawT 11 Tryd.checked.mixed (by kernel_rfl) ?_
                  refine QOps.seg (N := 121) 1 [] [(107, .rsl 3 0 0 x1.length), (105, .bool ((Int.tmod t0 (8 : Int)) == (7 : Int))), (3, .rsl 3 0 0 x1.length), (4, .ref 4 0 0), (2, .ref 2 0 0)] (by kernel_rfl) trivial ?_
                  refine QOps.buildTI (enc := eI .u8) [(1 : Int), (5 : Int)] rfl rfl E34 (fun _ => rfl) (by decide) ⟨trivial, by kernel_rfl, by kernel_rfl, by kernel_rfl, rfl⟩ ?_
                  refine QOps.seg (N := 121) 1 [] [(109, .agg [.int .i64 0, .int .i64 0]), (108, slA (eI .u8) [(1 : Int), (5 : Int)]), (107, .rsl 3 0 0 x1.length), (105, .bool ((Int.tmod t0 (8 : Int)) == (7 : Int))), (3, .rsl 3 0 0 x1.length), (4, .ref 4 0 0), (2, .ref 2 0 0)] (by kernel_rfl) trivial ?_
                  obtain ⟨x34, hx34, H⟩ := bindS H
                  refine QOps.qcall rfl (by kernel_rfl) rfl (glAll_sound trivial) (.cons (.pur rfl) (.cons (.pur rfl) (.cons (.pur rfl) .nil))) (f_R02_simple_ok hx34) rfl ?_
                  refine QOps.buildTI (enc := eI .u8) [(5 : Int), (5 : Int)] rfl rfl E34 (fun _ => rfl) (by decide) ⟨trivial, by kernel_rfl, by kernel_rfl, by kernel_rfl, rfl⟩ ?_
                  refine QOps.seg (N := 121) 1 [] [(112, .agg [.int .i64 0, .int .i64 0]), (111, slA (eI .u8) [(5 : Int), (5 : Int)]), (110, .agg [.string x34.Print, slA (eI .u8) x34.Cells, .int .u8 x34.Left, .int .u8 x34.Right, .int .i64 x34.From, .int .i64 x34.To]), (109, .agg [.int .i64 0, .int .i64 0]), (108, slA (eI .u8) [(1 : Int), (5 : Int)]), (107, .rsl 3 0 0 x1.length), (105, .bool ((Int.tmod t0 (8 : Int)) == (7 : Int))), (3, .rsl 3 0 0 x1.length), (4, .ref 4 0 0), (2, .ref 2 0 0)] (by kernel_rfl) trivial ?_
                  obtain ⟨x35, hx35, H⟩ := bindS H
                  refine QOps.qcall rfl (by kernel_rfl) rfl (glAll_sound trivial) (.cons (.pur rfl) (.cons (.pur rfl) (.cons (.pur rfl) .nil))) (f_R02_simple_ok hx35) rfl ?_
                  refine QOps.buildTI (enc := eI .u8) [(5 : Int), (9 : Int)] rfl rfl E34 (fun _ => rfl) (by decide) ⟨trivial, by kernel_rfl, by kernel_rfl, by kernel_rfl, rfl⟩ ?_
                  refine QOps.seg (N := 121) 1 [] [(115, .agg [.int .i64 0, .int .i64 0]), (114, slA (eI .u8) [(5 : Int), (9 : Int)]), (113, .agg [.string x35.Print, slA (eI .u8) x35.Cells, .int .u8 x35.Left, .int .u8 x35.Right, .int .i64 x35.From, .int .i64 x35.To]), (112, .agg [.int .i64 0, .int .i64 0]), (111, slA (eI .u8) [(5 : Int), (5 : Int)]), (110, .agg [.string x34.Print, slA (eI .u8) x34.Cells, .int .u8 x34.Left, .int .u8 x34.Right, .int .i64 x34.From, .int .i64 x34.To]), (109, .agg [.int .i64 0, .int .i64 0]), (108, slA (eI .u8) [(1 : Int), (5 : Int)]), (107, .rsl 3 0 0 x1.length), (105, .bool ((Int.tmod t0 (8 : Int)) == (7 : Int))), (3, .rsl 3 0 0 x1.length), (4, .ref 4 0 0), (2, .ref 2 0 0)] (by kernel_rfl) trivial ?_
                  obtain ⟨x36, hx36, H⟩ := bindS H
                  refine QOps.qcall rfl (by kernel_rfl) rfl (glAll_sound trivial) (.cons (.pur rfl) (.cons (.pur rfl) (.cons (.pur rfl) .nil))) (f_R02_simple_ok hx36) rfl ?_
                  refine QOps.buildTI (enc := eS_Rule) [x34, x35, x36] rfl rfl E31 (fun _ => rfl) (by decide) ⟨trivial, by kernel_rfl, by kernel_rfl, by kernel_rfl, rfl⟩ ?_
                  refine QOps.nil ?_
                  refine OpsW.seg 0 [117, 107, 3, 2] [] [(117, slA eS_Rule [x34, x35, x36]), (107, .rsl 3 0 0 x1.length), (3, .rsl 3 0 0 x1.length), (2, .ref 2 0 0)] (by kernel_rfl) trivial ?_
                  obtain ⟨g37, H⟩ := G_some H
                  refine OpsW.appendF (enc := eS_Rule) (ys := [x34, x35, x36]) rfl rfl rfl E31 (fun _ => rfl) rfl rfl trivial (SrcA.typed (enc := eS_Rule) (fun _ => rfl) (by kernel_rfl) [x34, x35, x36]) rfl g37 ?_
                  refine OpsW.seg 1 [3, 2] [] [(3, .rsl 3 1 0 ((x1 ++ [x34, x35, x36]).length)), (2, .ref 2 0 0)] (by kernel_rfl) trivial ?_
                  refine OpsW.recast (env' := [(3, slA eS_Rule (x1 ++ [x34, x35, x36])), (2, .ref 2 0 0)]) (h' := [(2, ⟨0, true, 33, 3, [.int .i64 0, .int .u8 0, .im (.val (.slice none 0 0))]⟩)]) (StC.mk (phi [(2, some 2)]) (.old rfl rfl rfl rfl rfl (.cons .im (.cons .im (.cons .im .nil))) .nil) rfl (.cons (.frz rfl rfl rfl (frz_all eS_Rule 6 (fun _ => rfl) (x1 ++ [x34, x35, x36])) (fm_length eS_Rule 6 (fun _ => rfl) (x1 ++ [x34, x35, x36])) (phi_ne rfl)) (.cons (.ref rfl rfl rfl rfl rfl) .nil))) ?_
                  refine OpsW.nil ?_
                  show ∃ y, _ ∧ StC _ _ _ _
                  exact ⟨((⟨(0 : Int), (0 : Int), []⟩ : S_Table), x1 ++ [x34, x35, x36]), H, (StC.mk (phi [(2, some 2)]) (.old rfl rfl rfl rfl rfl (.cons .im (.cons .im (.cons .nil .nil))) .nil) rfl (.cons (.ref rfl rfl rfl rfl rfl) (.cons .im .nil)))⟩
                · replace H := condF c33 H
                  refine AW.skip ?_
                  show ∃ y, _ ∧ StC _ _ _ _
                  exact ⟨((⟨(0 : Int), (0 : Int), []⟩ : S_Table), x1), H, (StC.mk (phi [(2, some 2)]) (.old rfl rfl rfl rfl rfl (.cons .im (.cons .im (.cons .nil .nil))) .nil) rfl (.cons (.ref rfl rfl rfl rfl rfl) (.cons (.frz rfl rfl rfl (frz_all eS_Rule 6 (fun _ => rfl) x1) (fm_length eS_Rule 6 (fun _ => rfl) x1) (phi_ne rfl)) .nil)))⟩
  · rintro ⟨v2, v3⟩ H
    change f_R02_Base_k1 v2 v3 = some r at H
    unfold f_R02_Base_k1 at H
    change AW _ _ _ [(2, .ref 2 0 0), (3, slA eS_Rule v3)] [(2, ⟨0, true, 33, 3, [.int .i64 v2.Modes, .int .u8 v2.Accept, slA eS_Rule v2.Rules]⟩)] _
    refine AW.regionSeq ?_
    refine OpsW.seg 2 [120, 2] [] [(120, .agg [.int .i64 1, .int .u8 1, slA eS_Rule v3]), (2, .ref 2 0 0)] (by kernel_rfl) trivial ?_
    refine OpsW.store rfl rfl rfl rfl trivial trivial rfl rfl rfl (by kernel_rfl) (okCb_sound (by kernel_rfl)) (Nat.le_of_ble_eq_true (by kernel_rfl)) ?_
    change OpsW _ _ _ _ _ [(2, ⟨0, true, 33, 3, [.int .i64 1, .int .u8 1, slA eS_Rule v3]⟩), (2, ⟨0, true, 33, 3, [.int .i64 v2.Modes, .int .u8 v2.Accept, slA eS_Rule v2.Rules]⟩)] _
    refine OpsW.seg 0 [2] [] [(2, .ref 2 0 0)] (by kernel_rfl) trivial ?_
    refine OpsW.recast (env' := [(2, .ref 2 0 0)]) (h' := [(2, ⟨0, true, 33, 3, [.int .i64 1, .int .u8 1, slA eS_Rule v3]⟩)]) (StC.mk (phi [(2, some 2)]) (.old rfl rfl rfl rfl rfl (.cons .im (.cons .im (.cons .im .nil))) .nil) rfl (.cons (.ref rfl rfl rfl rfl rfl) .nil)) ?_
    refine OpsW.nil ?_
    obtain rfl := Option.some.inj H
    refine AW.recast (env' := [(2, .ref 2 0 0)]) (h' := [(2, ⟨0, true, 33, 3, [.int .i64 1, .int .u8 1, slA eS_Rule v3]⟩)]) (StC.mk (phi [(2, some 2)]) (.old rfl rfl rfl rfl rfl (.cons .im (.cons .im (.cons .im .nil))) .nil) rfl (.cons (.ref rfl rfl rfl rfl rfl) .nil)) ?_
    refine AW.ret ?_
    try simp only [Ex.then, Ex.inBlock, Ex.noGoto, Ex.jump, reduceIte, Nat.reduceEqDiff, reduceCtorEq]
    refine Done.gen rfl (.cell rfl (by kernel_rfl) .nil) ?_
    show _ = _
    kernel_rfl
def f_cell_Dots_k1 (loop3 : ((List Int) × Int) → Option ByteArray) (v2 : Int) (v5 : List Int) : Option ByteArray :=
  G (inR (v2 + (1 : Int))) <|
  loop3 (v5, v2 + (1 : Int))
def f_cell_Dots_b1 (t0 : Int) (loop3 : ((List Int) × Int) → Option ByteArray) (v1 : List Int) (v2 : Int) : Option ByteArray :=
  cond (decide (v2 < (6 : Int))) (
    G (0 ≤ v2) <|
    cond ((bAnd .u8 (bShr .u8 t0 v2) (1 : Int)) == (1 : Int)) (
      G (inR ((49 : Int) + v2)) <|
      G (room 1 (v1.length + 1)) <|
      f_cell_Dots_k1 loop3 v2 (v1 ++ [IntKind.wrap .u8 ((49 : Int) + v2)])) (
      f_cell_Dots_k1 loop3 v2 v1)) (
    cond ((v1.length : Int) == (0 : Int)) (
      some (⟨#[48]⟩ : ByteArray)) (
      some (strOf v1)))
def f_cell_Dots (t0 : Int) : Option ByteArray :=
  iter (fun loop (s : (List Int) × Int) => f_cell_Dots_b1 t0 loop s.1 s.2) 1000000 ([], (0 : Int))
theorem f_cell_Dots_ok  {t0 : Int} {r : ByteArray} (H : f_cell_Dots t0 = some r) : QSpec Tryd.prog 40 [.int .u8 t0] (.string r) := by
  refine Spec.of_AW Tryd.func40 rfl (by simp [Tryd.ntmps40]) ?_
  rw [Tryd.ntmps40]
  unfold f_cell_Dots at H
  change AW _ _ _ [(0, .int .u8 t0)] [] _
  refine AW.regionSeq ?_
  refine OpsW.seg 1 [0] [] [(0, .int .u8 t0)] (by kernel_rfl) trivial ?_
  refine OpsW.nil ?_
  refine AW.regionSeq ?_
  refine OpsW.seg 1 [3, 0] [] [(3, .im (.val (.slice none 0 0))), (0, .int .u8 t0)] (by kernel_rfl) trivial ?_
  refine OpsW.nil ?_
  refine AW.seq ?_
  refine AW.regionSeq ?_
  refine OpsW.seg 1 [5, 3, 0] [] [(5, .int .i64 0), (3, .im (.val (.slice none 0 0))), (0, .int .u8 t0)] (by kernel_rfl) trivial ?_
  refine OpsW.nil ?_
  refine AW.block ?_
  refine AW.iterK (fun loop (s : (List Int) × Int) => f_cell_Dots_b1 t0 loop s.1 s.2) r (fun (s : (List Int) × Int) => [(0, .int .u8 t0), (3, .rsl 3 0 0 s.1.length), (5, .int .i64 s.2)]) (fun (s : (List Int) × Int) => [(3, rtA 0 5 1 (eI .u8) s.1)]) ?_ 1000000 ([], (0 : Int)) H (StC.mk (phi [(3, none)]) (.new rfl .nil) rfl (.cons .im (.cons (.nilr rfl rfl rfl) (.cons .im .nil))))
  intro loop3 s H
  obtain ⟨v1, v2⟩ := s
  change f_cell_Dots_b1 t0 loop3 v1 v2 = some r at H
  unfold f_cell_Dots_b1 at H
  change AW _ _ _ [(0, .int .u8 t0), (3, .rsl 3 0 0 v1.length), (5, .int .i64 v2)] [(3, rtA 0 5 1 (eI .u8) v1)] _
  refine AW.regionSeq ?_
  refine OpsW.seg 1 [6, 0, 3, 5] [] [(6, .bool (decide (v2 < (6 : Int)))), (0, .int .u8 t0), (3, .rsl 3 0 0 v1.length), (5, .int .i64 v2)] (by kernel_rfl) trivial ?_
  refine OpsW.nil ?_
  refine AW.seq ?_
  refine AW.cond (b := decide (v2 < (6 : Int))) rfl (fun c4 => ?_) (fun c4 => ?_)
  · replace H := condT c4 H
    refine AW.skip ?_
    refine AW.joinK (fun (y : (List Int)) => f_cell_Dots_k1 loop3 v2 y) r (fun (y : (List Int)) => [(0, .int .u8 t0), (3, .rsl 3 0 0 y.length), (5, .int .i64 v2)]) (fun (y : (List Int)) => [(3, rtA 0 5 1 (eI .u8) y)]) ?_ ?_
    · refine AW.block ?_
      refine AW.regionSeq ?_
      refine OpsW.seg 2 [4, 0, 3, 5] [] [(4, .int .i64 v2), (0, .int .u8 t0), (3, .rsl 3 0 0 v1.length), (5, .int .i64 v2)] (by kernel_rfl) trivial ?_
      refine OpsW.nil ?_
      refine AW.regionSeq ?_
      obtain ⟨g7, H⟩ := G_some H
      refine OpsW.seg 5 [12, 4, 0, 3, 5] [0 ≤ v2] [(12, .bool ((bAnd .u8 (bShr .u8 t0 v2) (1 : Int)) == (1 : Int))), (4, .int .i64 v2), (0, .int .u8 t0), (3, .rsl 3 0 0 v1.length), (5, .int .i64 v2)] (by kernel_rfl) ⟨g7, trivial⟩ ?_
      refine OpsW.nil ?_
      refine AW.cond (b := (bAnd .u8 (bShr .u8 t0 v2) (1 : Int)) == (1 : Int)) rfl (fun c8 => ?_) (fun c8 => ?_)
      · replace H := condT c8 H
        refine AW.region ?_
        obtain ⟨g9, H⟩ := G_some H
        refine OpsW.seg 4 [16, 13, 0, 3, 5] [inR ((49 : Int) + v2)] [(16, .int .u8 (IntKind.wrap .u8 ((49 : Int) + v2))), (13, .rsl 3 0 0 v1.length), (0, .int .u8 t0), (3, .rsl 3 0 0 v1.length), (5, .int .i64 v2)] (by kernel_rfl) ⟨g9, trivial⟩ ?_
        obtain ⟨g10, H⟩ := G_some H
        refine OpsW.appendLF (enc := eI .u8) [IntKind.wrap .u8 ((49 : Int) + v2)] rfl rfl rfl (by decide) rfl rfl rfl (by simp) E51 (fun _ => rfl) (by decide) trivial (by kernel_rfl) (by kernel_rfl) (by kernel_rfl) rfl rfl rfl g10 ?_
        refine OpsW.seg 1 [3, 0, 5] [] [(3, .rsl 3 1 0 ((v1 ++ [IntKind.wrap .u8 ((49 : Int) + v2)]).length)), (0, .int .u8 t0), (5, .int .i64 v2)] (by kernel_rfl) trivial ?_
        refine OpsW.recast (env' := [(3, .rsl 3 0 0 ((v1 ++ [IntKind.wrap .u8 ((49 : Int) + v2)]).length)), (0, .int .u8 t0), (5, .int .i64 v2)]) (h' := [(3, rtA 0 5 1 (eI .u8) (v1 ++ [IntKind.wrap .u8 ((49 : Int) + v2)]))]) (StC.mk (phi [(3, some 3)]) (.old rfl rfl rfl rfl rfl (CstL.ims _) .nil) rfl (.cons (.rsl rfl rfl rfl rfl rfl rfl) (.cons .im (.cons .im .nil)))) ?_
        refine OpsW.nil ?_
        show ∃ y, _ ∧ StC _ _ _ _
        exact ⟨v1 ++ [IntKind.wrap .u8 ((49 : Int) + v2)], H, (StC.mk (phi [(3, some 3)]) (.old rfl rfl rfl rfl rfl (CstL.ims _) .nil) rfl (.cons .im (.cons (.rsl rfl rfl rfl rfl rfl rfl) (.cons .im .nil))))⟩
      · replace H := condF c8 H
        refine AW.skip ?_
        show ∃ y, _ ∧ StC _ _ _ _
        exact ⟨v1, H, (StC.mk (phi [(3, some 3)]) (.old rfl rfl rfl rfl rfl (CstL.ims _) .nil) rfl (.cons .im (.cons (.rsl rfl rfl rfl rfl rfl rfl) (.cons .im .nil))))⟩
    · intro v5 H
      change f_cell_Dots_k1 loop3 v2 v5 = some r at H
      unfold f_cell_Dots_k1 at H
      change AW _ _ _ [(0, .int .u8 t0), (3, .rsl 3 0 0 v5.length), (5, .int .i64 v2)] [(3, rtA 0 5 1 (eI .u8) v5)] _
      refine AW.region ?_
      obtain ⟨g6, H⟩ := G_some H
      refine OpsW.seg 2 [5, 0, 3] [inR (v2 + (1 : Int))] [(5, .int .i64 (v2 + (1 : Int))), (0, .int .u8 t0), (3, .rsl 3 0 0 v5.length)] (by kernel_rfl) ⟨g6, trivial⟩ ?_
      refine OpsW.nil ?_
      show ∃ y, _ ∧ StC _ _ _ _
      exact ⟨(v5, v2 + (1 : Int)), H, (StC.mk (phi [(3, some 3)]) (.old rfl rfl rfl rfl rfl (CstL.ims _) .nil) rfl (.cons .im (.cons (.rsl rfl rfl rfl rfl rfl rfl) (.cons .im .nil))))⟩
  · replace H := condF c4 H
    refine AW.exit ?_
    refine AW.seq ?_
    refine AW.regionSeq ?_
    refine OpsW.seg 3 [22, 3] [] [(22, .bool ((v1.length : Int) == (0 : Int))), (3, .rsl 3 0 0 v1.length)] (by kernel_rfl) trivial ?_
    refine OpsW.recast (env' := [(22, .bool ((v1.length : Int) == (0 : Int))), (3, slA (eI .u8) v1)]) (h' := []) (StC.mk (phi []) .nil rfl (.cons .im (.cons (.frz rfl rfl rfl (frz_all (eI .u8) 1 (fun _ => rfl) v1) (fm_length (eI .u8) 1 (fun _ => rfl) v1) (phi_ne rfl)) .nil))) ?_
    refine OpsW.nil ?_
    refine AW.cond (b := (v1.length : Int) == (0 : Int)) rfl (fun c11 => ?_) (fun c11 => ?_)
    · replace H := condT c11 H
      refine AW.regionSeq ?_
      refine OpsW.seg 1 [2] [] [(2, .string (⟨#[48]⟩ : ByteArray))] (by kernel_rfl) trivial ?_
      refine OpsW.nil ?_
      obtain rfl := Option.some.inj H
      refine AW.recast (env' := [(2, .string (⟨#[48]⟩ : ByteArray))]) (h' := []) (StC.pure (.cons .im .nil)) ?_
      refine AW.ret ?_
      try simp only [Ex.then, Ex.inBlock, Ex.noGoto, Ex.jump, reduceIte, Nat.reduceEqDiff, reduceCtorEq]
      refine Done.gen rfl (.tmp .nil) ?_
      show _ = _
      kernel_rfl
    · replace H := condF c11 H
      refine AW.skip ?_
      refine AW.regionSeq ?_
      refine OpsW.seg 1 [23] [] [(23, slA (eI .u8) v1)] (by kernel_rfl) trivial ?_
      refine OpsW.quietU (.string (strOf v1)) rfl rfl (Quiet.toStr (e := 5) v1 rfl (by kernel_rfl) (by kernel_rfl) (by kernel_rfl) (gpoU rfl ⟨trivial, SlV.im, SrcA.typed (enc := eI .u8) (fun _ => rfl) (by kernel_rfl) v1⟩)) ?_
      refine OpsW.seg 1 [2] [] [(2, .string (strOf v1))] (by kernel_rfl) trivial ?_
      refine OpsW.nil ?_
      obtain rfl := Option.some.inj H
      refine AW.recast (env' := [(2, .string (strOf v1))]) (h' := []) (StC.pure (.cons .im .nil)) ?_
      refine AW.ret ?_
      try simp only [Ex.then, Ex.inBlock, Ex.noGoto, Ex.jump, reduceIte, Nat.reduceEqDiff, reduceCtorEq]
      refine Done.gen rfl (.tmp .nil) ?_
      show _ = _
      kernel_rfl
def f_table_hex_b1 (t0 : ByteArray) (loop4 : ((List Int) × Int) → Option ByteArray) (v2 : List Int) (v3 : Int) : Option ByteArray :=
  cond (decide (v3 < (t0.size : Int))) (
    G (0 ≤ v3 ∧ v3 < (t0.size : Int)) <|
    G (0 ≤ (bShr .u8 (bAt t0 v3) (4 : Int)) ∧ (bShr .u8 (bAt t0 v3) (4 : Int)) < ((⟨#[48, 49, 50, 51, 52, 53, 54, 55, 56, 57, 97, 98, 99, 100, 101, 102]⟩ : ByteArray).size : Int)) <|
    G (0 ≤ (bAnd .u8 (bAt t0 v3) (15 : Int)) ∧ (bAnd .u8 (bAt t0 v3) (15 : Int)) < ((⟨#[48, 49, 50, 51, 52, 53, 54, 55, 56, 57, 97, 98, 99, 100, 101, 102]⟩ : ByteArray).size : Int)) <|
    G (room 1 (v2.length + [bAt (⟨#[48, 49, 50, 51, 52, 53, 54, 55, 56, 57, 97, 98, 99, 100, 101, 102]⟩ : ByteArray) (bShr .u8 (bAt t0 v3) (4 : Int)), bAt (⟨#[48, 49, 50, 51, 52, 53, 54, 55, 56, 57, 97, 98, 99, 100, 101, 102]⟩ : ByteArray) (bAnd .u8 (bAt t0 v3) (15 : Int))].length)) <|
    G (inR (v3 + (1 : Int))) <|
    loop4 (v2 ++ [bAt (⟨#[48, 49, 50, 51, 52, 53, 54, 55, 56, 57, 97, 98, 99, 100, 101, 102]⟩ : ByteArray) (bShr .u8 (bAt t0 v3) (4 : Int)), bAt (⟨#[48, 49, 50, 51, 52, 53, 54, 55, 56, 57, 97, 98, 99, 100, 101, 102]⟩ : ByteArray) (bAnd .u8 (bAt t0 v3) (15 : Int))], v3 + (1 : Int))) (
    some (strOf v2))
def f_table_hex (t0 : ByteArray) : Option ByteArray :=
  cond (t0.toList == (⟨#[]⟩ : ByteArray).toList) (
    some (⟨#[46]⟩ : ByteArray)) (
    iter (fun loop (s : (List Int) × Int) => f_table_hex_b1 t0 loop s.1 s.2) 1000000 ([], (0 : Int)))
theorem f_table_hex_ok  {t0 : ByteArray} {r : ByteArray} (H : f_table_hex t0 = some r) : QSpec Tryd.prog 41 [.string t0] (.string r) := by
  refine Spec.of_AW Tryd.func41 rfl (by simp [Tryd.ntmps41]) ?_
  rw [Tryd.ntmps41]
  unfold f_table_hex at H
  change AW _ _ _ [(0, .string t0)] [] _
  refine AW.regionSeq ?_
  refine OpsW.seg 1 [0] [] [(0, .string t0)] (by kernel_rfl) trivial ?_
  refine OpsW.nil ?_
  refine AW.seq ?_
  refine AW.regionSeq ?_
  refine OpsW.seg 2 [6, 0] [] [(6, .bool (t0.toList == (⟨#[]⟩ : ByteArray).toList)), (0, .string t0)] (by kernel_rfl) trivial ?_
  refine OpsW.nil ?_
  refine AW.cond (b := t0.toList == (⟨#[]⟩ : ByteArray).toList) rfl (fun c1 => ?_) (fun c1 => ?_)
  · replace H := condT c1 H
    refine AW.regionSeq ?_
    refine OpsW.seg 1 [2] [] [(2, .string (⟨#[46]⟩ : ByteArray))] (by kernel_rfl) trivial ?_
    refine OpsW.nil ?_
    obtain rfl := Option.some.inj H
    refine AW.recast (env' := [(2, .string (⟨#[46]⟩ : ByteArray))]) (h' := []) (StC.pure (.cons .im .nil)) ?_
    refine AW.ret ?_
    try simp only [Ex.then, Ex.inBlock, Ex.noGoto, Ex.jump, reduceIte, Nat.reduceEqDiff, reduceCtorEq]
    refine Done.gen rfl (.tmp .nil) ?_
    show _ = _
    kernel_rfl
  · replace H := condF c1 H
    refine AW.skip ?_
    refine AW.regionSeq ?_
    refine OpsW.seg 1 [3, 0] [] [(3, .im (.val (.slice none 0 0))), (0, .string t0)] (by kernel_rfl) trivial ?_
    refine OpsW.nil ?_
    refine AW.seq ?_
    refine AW.regionSeq ?_
    refine OpsW.seg 3 [9, 8, 3, 0] [] [(9, .int .i64 0), (8, .int .i64 (t0.size : Int)), (3, .im (.val (.slice none 0 0))), (0, .string t0)] (by kernel_rfl) trivial ?_
    refine OpsW.nil ?_
    refine AW.block ?_
    refine AW.iterK (fun loop (s : (List Int) × Int) => f_table_hex_b1 t0 loop s.1 s.2) r (fun (s : (List Int) × Int) => [(0, .string t0), (3, .rsl 3 0 0 s.1.length), (8, .int .i64 (t0.size : Int)), (9, .int .i64 s.2)]) (fun (s : (List Int) × Int) => [(3, rtA 0 5 1 (eI .u8) s.1)]) ?_ 1000000 ([], (0 : Int)) H (StC.mk (phi [(3, none)]) (.new rfl .nil) rfl (.cons .im (.cons (.nilr rfl rfl rfl) (.cons .im (.cons .im .nil)))))
    intro loop4 s H
    obtain ⟨v2, v3⟩ := s
    change f_table_hex_b1 t0 loop4 v2 v3 = some r at H
    unfold f_table_hex_b1 at H
    change AW _ _ _ [(0, .string t0), (3, .rsl 3 0 0 v2.length), (8, .int .i64 (t0.size : Int)), (9, .int .i64 v3)] [(3, rtA 0 5 1 (eI .u8) v2)] _
    refine AW.regionSeq ?_
    refine OpsW.seg 1 [10, 0, 3, 8, 9] [] [(10, .bool (decide (v3 < (t0.size : Int)))), (0, .string t0), (3, .rsl 3 0 0 v2.length), (8, .int .i64 (t0.size : Int)), (9, .int .i64 v3)] (by kernel_rfl) trivial ?_
    refine OpsW.nil ?_
    refine AW.seq ?_
    refine AW.cond (b := decide (v3 < (t0.size : Int))) rfl (fun c5 => ?_) (fun c5 => ?_)
    · replace H := condT c5 H
      refine AW.skip ?_
      refine AW.seq ?_
      refine AW.block ?_
      refine AW.regionSeq ?_
      refine OpsW.seg 2 [4, 0, 3, 8, 9] [] [(4, .int .i64 v3), (0, .string t0), (3, .rsl 3 0 0 v2.length), (8, .int .i64 (t0.size : Int)), (9, .int .i64 v3)] (by kernel_rfl) trivial ?_
      refine OpsW.nil ?_
      refine AW.drawT 12 Tryd.checked.mixed (by kernel_rfl) ?_
      obtain ⟨g6, H⟩ := G_some H
      obtain ⟨g7, H⟩ := G_some H
      obtain ⟨g8, H⟩ := G_some H
      refine QOps.seg (N := 28) 11 [0 ≤ v3 ∧ v3 < (t0.size : Int), 0 ≤ (4 : Int), 0 ≤ (bShr .u8 (bAt t0 v3) (4 : Int)) ∧ (bShr .u8 (bAt t0 v3) (4 : Int)) < ((⟨#[48, 49, 50, 51, 52, 53, 54, 55, 56, 57, 97, 98, 99, 100, 101, 102]⟩ : ByteArray).size : Int), 0 ≤ v3 ∧ v3 < (t0.size : Int), 0 ≤ (bAnd .u8 (bAt t0 v3) (15 : Int)) ∧ (bAnd .u8 (bAt t0 v3) (15 : Int)) < ((⟨#[48, 49, 50, 51, 52, 53, 54, 55, 56, 57, 97, 98, 99, 100, 101, 102]⟩ : ByteArray).size : Int)] [(22, .int .u8 (bAt (⟨#[48, 49, 50, 51, 52, 53, 54, 55, 56, 57, 97, 98, 99, 100, 101, 102]⟩ : ByteArray) (bAnd .u8 (bAt t0 v3) (15 : Int)))), (21, .int .u8 (bAnd .u8 (bAt t0 v3) (15 : Int))), (20, .int .u8 (bAt t0 v3)), (19, .int .i64 v3), (18, .string t0), (17, .int .u8 (bAt (⟨#[48, 49, 50, 51, 52, 53, 54, 55, 56, 57, 97, 98, 99, 100, 101, 102]⟩ : ByteArray) (bShr .u8 (bAt t0 v3) (4 : Int)))), (16, .int .u8 (bShr .u8 (bAt t0 v3) (4 : Int))), (15, .int .u8 (bAt t0 v3)), (14, .int .i64 v3), (13, .string t0), (12, .rsl 3 0 0 v2.length), (4, .int .i64 v3), (0, .string t0), (3, .rsl 3 0 0 v2.length), (8, .int .i64 (t0.size : Int)), (9, .int .i64 v3)] (by kernel_rfl) ⟨g6, (by decide), g7, g6, g8, trivial⟩ ?_
      refine QOps.buildTI (enc := eI .u8) [bAt (⟨#[48, 49, 50, 51, 52, 53, 54, 55, 56, 57, 97, 98, 99, 100, 101, 102]⟩ : ByteArray) (bShr .u8 (bAt t0 v3) (4 : Int)), bAt (⟨#[48, 49, 50, 51, 52, 53, 54, 55, 56, 57, 97, 98, 99, 100, 101, 102]⟩ : ByteArray) (bAnd .u8 (bAt t0 v3) (15 : Int))] rfl rfl E51 (fun _ => rfl) (by decide) ⟨trivial, by kernel_rfl, by kernel_rfl, by kernel_rfl, rfl⟩ ?_
      refine QOps.nil ?_
      refine OpsW.seg 0 [23, 12, 0, 3, 8, 9] [] [(23, slA (eI .u8) [bAt (⟨#[48, 49, 50, 51, 52, 53, 54, 55, 56, 57, 97, 98, 99, 100, 101, 102]⟩ : ByteArray) (bShr .u8 (bAt t0 v3) (4 : Int)), bAt (⟨#[48, 49, 50, 51, 52, 53, 54, 55, 56, 57, 97, 98, 99, 100, 101, 102]⟩ : ByteArray) (bAnd .u8 (bAt t0 v3) (15 : Int))]), (12, .rsl 3 0 0 v2.length), (0, .string t0), (3, .rsl 3 0 0 v2.length), (8, .int .i64 (t0.size : Int)), (9, .int .i64 v3)] (by kernel_rfl) trivial ?_
      obtain ⟨g9, H⟩ := G_some H
      refine OpsW.appendF (enc := eI .u8) (ys := [bAt (⟨#[48, 49, 50, 51, 52, 53, 54, 55, 56, 57, 97, 98, 99, 100, 101, 102]⟩ : ByteArray) (bShr .u8 (bAt t0 v3) (4 : Int)), bAt (⟨#[48, 49, 50, 51, 52, 53, 54, 55, 56, 57, 97, 98, 99, 100, 101, 102]⟩ : ByteArray) (bAnd .u8 (bAt t0 v3) (15 : Int))]) rfl rfl rfl E51 (fun _ => rfl) rfl rfl trivial (SrcA.typed (enc := eI .u8) (fun _ => rfl) (by kernel_rfl) [bAt (⟨#[48, 49, 50, 51, 52, 53, 54, 55, 56, 57, 97, 98, 99, 100, 101, 102]⟩ : ByteArray) (bShr .u8 (bAt t0 v3) (4 : Int)), bAt (⟨#[48, 49, 50, 51, 52, 53, 54, 55, 56, 57, 97, 98, 99, 100, 101, 102]⟩ : ByteArray) (bAnd .u8 (bAt t0 v3) (15 : Int))]) rfl g9 ?_
      refine OpsW.seg 1 [3, 0, 8, 9] [] [(3, .rsl 3 1 0 ((v2 ++ [bAt (⟨#[48, 49, 50, 51, 52, 53, 54, 55, 56, 57, 97, 98, 99, 100, 101, 102]⟩ : ByteArray) (bShr .u8 (bAt t0 v3) (4 : Int)), bAt (⟨#[48, 49, 50, 51, 52, 53, 54, 55, 56, 57, 97, 98, 99, 100, 101, 102]⟩ : ByteArray) (bAnd .u8 (bAt t0 v3) (15 : Int))]).length)), (0, .string t0), (8, .int .i64 (t0.size : Int)), (9, .int .i64 v3)] (by kernel_rfl) trivial ?_
      refine OpsW.recast (env' := [(3, .rsl 3 0 0 ((v2 ++ [bAt (⟨#[48, 49, 50, 51, 52, 53, 54, 55, 56, 57, 97, 98, 99, 100, 101, 102]⟩ : ByteArray) (bShr .u8 (bAt t0 v3) (4 : Int)), bAt (⟨#[48, 49, 50, 51, 52, 53, 54, 55, 56, 57, 97, 98, 99, 100, 101, 102]⟩ : ByteArray) (bAnd .u8 (bAt t0 v3) (15 : Int))]).length)), (0, .string t0), (8, .int .i64 (t0.size : Int)), (9, .int .i64 v3)]) (h' := [(3, rtA 0 5 1 (eI .u8) (v2 ++ [bAt (⟨#[48, 49, 50, 51, 52, 53, 54, 55, 56, 57, 97, 98, 99, 100, 101, 102]⟩ : ByteArray) (bShr .u8 (bAt t0 v3) (4 : Int)), bAt (⟨#[48, 49, 50, 51, 52, 53, 54, 55, 56, 57, 97, 98, 99, 100, 101, 102]⟩ : ByteArray) (bAnd .u8 (bAt t0 v3) (15 : Int))]))]) (StC.mk (phi [(3, some 3)]) (.old rfl rfl rfl rfl rfl (CstL.ims _) .nil) rfl (.cons (.rsl rfl rfl rfl rfl rfl rfl) (.cons .im (.cons .im (.cons .im .nil))))) ?_
      refine OpsW.nil ?_
      refine AW.region ?_
      obtain ⟨g10, H⟩ := G_some H
      refine OpsW.seg 2 [9, 3, 0, 8] [inR (v3 + (1 : Int))] [(9, .int .i64 (v3 + (1 : Int))), (3, .rsl 3 0 0 ((v2 ++ [bAt (⟨#[48, 49, 50, 51, 52, 53, 54, 55, 56, 57, 97, 98, 99, 100, 101, 102]⟩ : ByteArray) (bShr .u8 (bAt t0 v3) (4 : Int)), bAt (⟨#[48, 49, 50, 51, 52, 53, 54, 55, 56, 57, 97, 98, 99, 100, 101, 102]⟩ : ByteArray) (bAnd .u8 (bAt t0 v3) (15 : Int))]).length)), (0, .string t0), (8, .int .i64 (t0.size : Int))] (by kernel_rfl) ⟨g10, trivial⟩ ?_
      refine OpsW.nil ?_
      show ∃ y, _ ∧ StC _ _ _ _
      exact ⟨(v2 ++ [bAt (⟨#[48, 49, 50, 51, 52, 53, 54, 55, 56, 57, 97, 98, 99, 100, 101, 102]⟩ : ByteArray) (bShr .u8 (bAt t0 v3) (4 : Int)), bAt (⟨#[48, 49, 50, 51, 52, 53, 54, 55, 56, 57, 97, 98, 99, 100, 101, 102]⟩ : ByteArray) (bAnd .u8 (bAt t0 v3) (15 : Int))], v3 + (1 : Int)), H, (StC.mk (phi [(3, some 3)]) (.old rfl rfl rfl rfl rfl (CstL.ims _) .nil) rfl (.cons .im (.cons (.rsl rfl rfl rfl rfl rfl rfl) (.cons .im (.cons .im .nil)))))⟩
    · replace H := condF c5 H
      refine AW.exit ?_
      refine AW.regionSeq ?_
      refine OpsW.seg 1 [26] [] [(26, .rsl 3 0 0 v2.length)] (by kernel_rfl) trivial ?_
      refine OpsW.quietU (.string (strOf v2)) rfl rfl (Quiet.toStr (e := 5) v2 rfl (by kernel_rfl) (by kernel_rfl) (by kernel_rfl) (gpoU rfl ⟨trivial, SlV.rsl rfl rfl, SrcA.rootF (enc := eI .u8) (fun _ => rfl) (by kernel_rfl) rfl⟩)) ?_
      refine OpsW.seg 1 [2] [] [(2, .string (strOf v2))] (by kernel_rfl) trivial ?_
      refine OpsW.nil ?_
      obtain rfl := Option.some.inj H
      refine AW.recast (env' := [(2, .string (strOf v2))]) (h' := []) (StC.pure (.cons .im .nil)) ?_
      refine AW.ret ?_
      try simp only [Ex.then, Ex.inBlock, Ex.noGoto, Ex.jump, reduceIte, Nat.reduceEqDiff, reduceCtorEq]
      refine Done.gen rfl (.tmp .nil) ?_
      show _ = _
      kernel_rfl
def f_strings_Builder_copyCheck_n66_0 (t0 : List Int) : Option (List Int) :=
  some t0
theorem f_strings_Builder_copyCheck_n66_0_io  {t0 : List Int} {r : List Int} (H : f_strings_Builder_copyCheck_n66_0 t0 = some r) : Abs.Spec Tryd.prog 54 [.ref 2000 0 0] [(2000, ⟨0, true, 66, 2, [.im (.val (.pointer none)), .rsl 3000 0 0 t0.length]⟩), (3000, rtA 0 5 1 (eI .u8) t0)] (fun x h => x = .tup [] ∧ h = [(2000, ⟨0, true, 66, 2, [.ref 2000 0 0, .rsl 3000 1 0 r.length]⟩), (3000, rtA 1 5 1 (eI .u8) r)]) := by
  refine Spec.of_AW Tryd.func54 rfl (by simp [Tryd.ntmps54]) ?_
  rw [Tryd.ntmps54]
  unfold f_strings_Builder_copyCheck_n66_0 at H
  change AW _ _ _ [(0, .ref 2000 0 0)] [(2000, ⟨0, true, 66, 2, [.im (.val (.pointer none)), .rsl 3000 0 0 t0.length]⟩), (3000, rtA 0 5 1 (eI .u8) t0)] _
  refine AW.endcast ?_
  refine AW.regionSeq ?_
  refine OpsW.seg 1 [2, 0] [] [(2, .ref 2000 0 0), (0, .ref 2000 0 0)] (by kernel_rfl) trivial ?_
  refine OpsW.quietU (.ref 2000 0 0) rfl rfl (Quiet.nilCheck rfl (gpoU rfl ⟨trivial, rfl, rfl⟩)) ?_
  refine OpsW.seg 2 [5, 0] [] [(5, .im (.val (.pointer none))), (0, .ref 2000 0 0)] (by kernel_rfl) trivial ?_
  refine OpsW.quietU (.bool true) rfl rfl (Quiet.ptrNil (e := 66) rfl rfl (by kernel_rfl) rfl) ?_
  refine OpsW.seg 0 [6, 0] [] [(6, .bool true), (0, .ref 2000 0 0)] (by kernel_rfl) trivial ?_
  refine OpsW.nil ?_
  refine AW.cond (b := true) rfl (fun _ => ?_) (fun hc => by cases hc)
  refine AW.region ?_
  refine OpsW.seg 2 [8, 7] [] [(8, .ref 2000 0 0), (7, .ref 2000 0 0)] (by kernel_rfl) trivial ?_
  refine OpsW.quietU (.ref 2000 0 0) rfl rfl (Quiet.toUnsafe (e := 66) rfl rfl (by kernel_rfl) (by kernel_rfl) (by kernel_rfl) rfl rfl rfl rfl (Nat.zero_lt_succ _)) ?_
  refine OpsW.quietU (.ref 2000 0 0) rfl rfl (Quiet.noEscape rfl rfl Tryd.func63 (by kernel_rfl) (by kernel_rfl) (by kernel_rfl) (by kernel_rfl) rfl) ?_
  refine OpsW.quietU (.ref 2000 0 0) rfl rfl (Quiet.fromUnsafe (e := 66) rfl rfl (by kernel_rfl) (by kernel_rfl) (by kernel_rfl) rfl rfl rfl rfl (Nat.zero_lt_succ _) rfl (by kernel_rfl) (Nat.zero_lt_succ _)) ?_
  refine OpsW.quietU (.ref 2000 0 0) rfl rfl (Quiet.nilCheck rfl (gpoU rfl ⟨trivial, rfl, rfl⟩)) ?_
  refine OpsW.seg 1 [13, 11] [] [(13, .ref 2000 0 0), (11, .ref 2000 0 0)] (by kernel_rfl) trivial ?_
  refine OpsW.store rfl rfl rfl rfl trivial trivial rfl rfl rfl (by kernel_rfl) (okCb_sound (by kernel_rfl)) (Nat.le_of_ble_eq_true (by kernel_rfl)) ?_
  change OpsW _ _ _ _ _ [(2000, ⟨0, true, 66, 2, [.ref 2000 0 0, .rsl 3000 0 0 t0.length]⟩), (2000, ⟨0, true, 66, 2, [.im (.val (.pointer none)), .rsl 3000 0 0 t0.length]⟩), (3000, rtA 0 5 1 (eI .u8) t0)] _
  refine OpsW.seg 0 [] [] [] (by kernel_rfl) trivial ?_
  refine OpsW.recast (env' := []) (h' := [(2000, ⟨0, true, 66, 2, [.ref 2000 0 0, .rsl 3000 0 0 t0.length]⟩), (3000, rtA 0 5 1 (eI .u8) t0)]) (StC.mk (phi [(2000, some 2000), (3000, some 3000)]) (.old rfl rfl rfl rfl rfl (.cons (.ref rfl rfl rfl rfl rfl) (.cons (.rsl rfl rfl rfl rfl rfl rfl) .nil)) (.old rfl rfl rfl rfl rfl (CstL.ims _) .nil)) rfl .nil) ?_
  refine OpsW.nil ?_
  obtain rfl := Option.some.inj H
  show ∃ en' hp', StC _ _ en' hp' ∧ Done _ _ _ .normal en' hp'
  refine ⟨[], [(2000, ⟨0, true, 66, 2, [.ref 2000 0 0, .rsl 3000 1 0 t0.length]⟩), (3000, rtA 1 5 1 (eI .u8) t0)], (StC.mk (phi [(2000, some 2000), (3000, some 3000)]) (.old rfl rfl rfl rfl rfl (.cons (.ref rfl rfl rfl rfl rfl) (.cons (.rsl rfl rfl rfl rfl rfl rfl) .nil)) (.old rfl rfl rfl rfl rfl (CstL.ims _) .nil)) rfl .nil), ?_⟩
  refine Done.genN rfl .nil ?_
  exact ⟨by kernel_rfl, by kernel_rfl⟩
def f_strings_Builder_WriteString_n66_0 (t0 : List Int) (t1 : ByteArray) : Option (Int × Unit × (List Int)) :=
  (f_strings_Builder_copyCheck_n66_0 t0).bind fun x1 =>
  G (room 1 (x1.length + t1.size)) <|
  some ((t1.size : Int), (), x1 ++ (bytesOf t1))
theorem f_strings_Builder_WriteString_n66_0_io  {t0 : List Int} {t1 : ByteArray} {r : Int × Unit × (List Int)} (H : f_strings_Builder_WriteString_n66_0 t0 t1 = some r) : Abs.Spec Tryd.prog 37 [.ref 2000 0 0, .string t1] [(2000, ⟨0, true, 66, 2, [.im (.val (.pointer none)), .rsl 3000 0 0 t0.length]⟩), (3000, rtA 0 5 1 (eI .u8) t0)] (fun x h => x = .tup [.int .i64 r.1, .any] ∧ h = [(2000, ⟨0, true, 66, 2, [.ref 2000 0 0, .rsl 3000 1 0 r.2.2.length]⟩), (3000, rtA 1 5 1 (eI .u8) r.2.2)]) := by
  refine Spec.of_AW Tryd.func37 rfl (by simp [Tryd.ntmps37]) ?_
  rw [Tryd.ntmps37]
  unfold f_strings_Builder_WriteString_n66_0 at H
  change AW _ _ _ [(0, .ref 2000 0 0), (1, .string t1)] [(2000, ⟨0, true, 66, 2, [.im (.val (.pointer none)), .rsl 3000 0 0 t0.length]⟩), (3000, rtA 0 5 1 (eI .u8) t0)] _
  refine AW.endcast ?_
  refine AW.regionSeq ?_
  refine OpsW.seg 2 [0, 1] [] [(0, .ref 2000 0 0), (1, .string t1)] (by kernel_rfl) trivial ?_
  refine OpsW.nil ?_
  refine AW.regionSeq ?_
  refine OpsW.seg 1 [6, 0, 1] [] [(6, .ref 2000 0 0), (0, .ref 2000 0 0), (1, .string t1)] (by kernel_rfl) trivial ?_
  refine OpsW.recast (env' := [(6, .ref 2000 0 0), (0, .ref 2000 0 0), (1, .string t1)]) (h' := [(2000, ⟨0, true, 66, 2, [.im (.val (.pointer none)), .rsl 3000 0 0 t0.length]⟩), (3000, rtA 0 5 1 (eI .u8) t0)]) (StC.mk (phi [(2000, some 2000), (3000, some 3000)]) (.old rfl rfl rfl rfl rfl (.cons .im (.cons (.rsl rfl rfl rfl rfl rfl rfl) .nil)) (.old rfl rfl rfl rfl rfl (CstL.ims _) .nil)) rfl (.cons (.ref rfl rfl rfl rfl rfl) (.cons (.ref rfl rfl rfl rfl rfl) (.cons .im .nil)))) ?_
  obtain ⟨x1, hx1, H⟩ := bindS H
  change OpsW _ _ _ _ [(6, .ref 2000 0 0), (0, .ref 2000 0 0), (1, .string t1)] ([(2000, ⟨0, true, 66, 2, [.im (.val (.pointer none)), .rsl 3000 0 0 t0.length]⟩), (3000, rtA 0 5 1 (eI .u8) t0)] ++ []) _
  refine OpsW.callR [(2000, ⟨0, true, 66, 2, [.im (.val (.pointer none)), .rsl 3000 0 0 t0.length]⟩), (3000, rtA 0 5 1 (eI .u8) t0)] [] [(2000, ⟨0, true, 66, 2, [.im (.val (.pointer none)), .rsl 3000 0 0 t0.length]⟩), (3000, rtA 0 5 1 (eI .u8) t0)] (phi [(2000, some 2000), (3000, some 3000)]) rfl rfl (by kernel_rfl) [.ref 2000 0 0] _ rfl (glAll_sound trivial) (.cons (.ref rfl rfl rfl rfl rfl) .nil) (f_strings_Builder_copyCheck_n66_0_io hx1) (fresh_of (by kernel_rfl)) (by kernel_rfl) (.cons rfl rfl rfl rfl rfl (.cons .im (.cons (.rsl rfl rfl rfl rfl rfl rfl) .nil)) (.cons rfl rfl rfl rfl rfl (RnL.ims _) .nil)) ?_
  rintro _ _ ⟨rfl, rfl⟩
  refine ⟨.tup [], [(2000, ⟨0, true, 66, 2, [.ref 2000 0 0, .rsl 3000 1 0 x1.length]⟩), (3000, rtA 1 5 1 (eI .u8) x1)], phi [(2000, some 2000), (3000, some 3000)], fresh_of (by kernel_rfl), by kernel_rfl, by kernel_rfl, (.cons rfl rfl rfl rfl rfl (.cons (.ref rfl rfl rfl rfl rfl) (.cons (.rsl rfl rfl rfl rfl rfl rfl) .nil)) (.cons rfl rfl rfl rfl rfl (RnL.ims _) .nil)), (.tup .nil .nil), ?_⟩
  change OpsW _ _ _ _ [(7, .tup []), (6, .ref 2000 0 0), (0, .ref 2000 0 0), (1, .string t1)] [(2000, ⟨0, true, 66, 2, [.ref 2000 0 0, .rsl 3000 1 0 x1.length]⟩), (3000, rtA 1 5 1 (eI .u8) x1)] _
  refine OpsW.seg 0 [0, 1] [] [(0, .ref 2000 0 0), (1, .string t1)] (by kernel_rfl) trivial ?_
  refine OpsW.recast (env' := [(0, .ref 2000 0 0), (1, .string t1)]) (h' := [(2000, ⟨0, true, 66, 2, [.ref 2000 0 0, .rsl 3000 0 0 x1.length]⟩), (3000, rtA 0 5 1 (eI .u8) x1)]) (StC.mk (phi [(2000, some 2000), (3000, some 3000)]) (.old rfl rfl rfl rfl rfl (.cons (.ref rfl rfl rfl rfl rfl) (.cons (.rsl rfl rfl rfl rfl rfl rfl) .nil)) (.old rfl rfl rfl rfl rfl (CstL.ims _) .nil)) rfl (.cons (.ref rfl rfl rfl rfl rfl) (.cons .im .nil))) ?_
  refine OpsW.nil ?_
  refine AW.regionSeq ?_
  refine OpsW.seg 2 [9, 8, 1] [] [(9, .ref 2000 0 0), (8, .ref 2000 0 0), (1, .string t1)] (by kernel_rfl) trivial ?_
  refine OpsW.quietU (.ref 2000 0 0) rfl rfl (Quiet.nilCheck rfl (gpoU rfl ⟨trivial, rfl, rfl⟩)) ?_
  refine OpsW.seg 3 [13, 12, 8, 1] [] [(13, .string t1), (12, .rsl 3000 0 0 x1.length), (8, .ref 2000 0 0), (1, .string t1)] (by kernel_rfl) trivial ?_
  obtain ⟨g2, H⟩ := G_some H
  refine OpsW.appendF (enc := eI .u8) (ys := bytesOf t1) rfl rfl rfl E51 (fun _ => rfl) rfl rfl trivial (SrcA.strT (by kernel_rfl) t1) (bytesOf_len _).symm g2 ?_
  refine OpsW.quietU (.ref 2000 0 0) rfl rfl (Quiet.nilCheck rfl (gpoU rfl ⟨trivial, rfl, rfl⟩)) ?_
  refine OpsW.seg 1 [16, 14, 1] [] [(16, .ref 2000 0 1), (14, .rsl 3000 1 0 ((x1 ++ (bytesOf t1)).length)), (1, .string t1)] (by kernel_rfl) trivial ?_
  refine OpsW.store rfl rfl rfl rfl trivial trivial rfl rfl rfl (by kernel_rfl) (okCb_sound (by kernel_rfl)) (Nat.le_of_ble_eq_true (by kernel_rfl)) ?_
  change OpsW _ _ _ _ _ [(2000, ⟨0, true, 66, 2, [.ref 2000 0 0, .rsl 3000 1 0 ((x1 ++ (bytesOf t1)).length)]⟩), (3000, rtA 1 5 1 (eI .u8) (x1 ++ (bytesOf t1))), (2000, ⟨0, true, 66, 2, [.ref 2000 0 0, .rsl 3000 0 0 x1.length]⟩), (3000, rtA 0 5 1 (eI .u8) x1)] _
  refine OpsW.seg 0 [1] [] [(1, .string t1)] (by kernel_rfl) trivial ?_
  refine OpsW.recast (env' := [(1, .string t1)]) (h' := [(2000, ⟨0, true, 66, 2, [.ref 2000 0 0, .rsl 3000 0 0 ((x1 ++ (bytesOf t1)).length)]⟩), (3000, rtA 0 5 1 (eI .u8) (x1 ++ (bytesOf t1)))]) (StC.mk (phi [(2000, some 2000), (3000, some 3000)]) (.old rfl rfl rfl rfl rfl (.cons (.ref rfl rfl rfl rfl rfl) (.cons (.rsl rfl rfl rfl rfl rfl rfl) .nil)) (.old rfl rfl rfl rfl rfl (CstL.ims _) .nil)) rfl (.cons .im .nil)) ?_
  refine OpsW.nil ?_
  refine AW.regionSeq ?_
  refine OpsW.seg 4 [4] [] [(4, .int .i64 (t1.size : Int))] (by kernel_rfl) trivial ?_
  refine OpsW.nil ?_
  obtain rfl := Option.some.inj H
  refine AW.ret ?_
  show ∃ en' hp', StC _ _ en' hp' ∧ Done _ _ _ .ret en' hp'
  refine ⟨[(4, .int .i64 (t1.size : Int)), (5, .any)], [(2000, ⟨0, true, 66, 2, [.ref 2000 0 0, .rsl 3000 1 0 ((x1 ++ (bytesOf t1)).length)]⟩), (3000, rtA 1 5 1 (eI .u8) (x1 ++ (bytesOf t1)))], (StC.mk (phi [(2000, some 2000), (3000, some 3000)]) (.old rfl rfl rfl rfl rfl (.cons (.ref rfl rfl rfl rfl rfl) (.cons (.rsl rfl rfl rfl rfl rfl rfl) .nil)) (.old rfl rfl rfl rfl rfl (CstL.ims _) .nil)) rfl (.cons .im (.cons .any .nil))), ?_⟩
  refine Done.gen rfl (.tmp (.tmp .nil)) ?_
  exact ⟨by kernel_rfl, by kernel_rfl⟩
def f_strings_Builder_copyCheck (t0 : List Int) : Option (List Int) :=
  some t0
theorem f_strings_Builder_copyCheck_io  {t0 : List Int} {r : List Int} (H : f_strings_Builder_copyCheck t0 = some r) : Abs.Spec Tryd.prog 54 [.ref 2030 0 0] [(2030, ⟨0, true, 66, 2, [.ref 2030 0 0, .rsl 3030 0 0 t0.length]⟩), (3030, rtA 0 5 1 (eI .u8) t0)] (fun x h => x = .tup [] ∧ h = [(2030, ⟨0, true, 66, 2, [.ref 2030 0 0, .rsl 3030 1 0 r.length]⟩), (3030, rtA 1 5 1 (eI .u8) r)]) := by
  refine Spec.of_AW Tryd.func54 rfl (by simp [Tryd.ntmps54]) ?_
  rw [Tryd.ntmps54]
  unfold f_strings_Builder_copyCheck at H
  change AW _ _ _ [(0, .ref 2030 0 0)] [(2030, ⟨0, true, 66, 2, [.ref 2030 0 0, .rsl 3030 0 0 t0.length]⟩), (3030, rtA 0 5 1 (eI .u8) t0)] _
  refine AW.endcast ?_
  refine AW.regionSeq ?_
  refine OpsW.seg 1 [2, 0] [] [(2, .ref 2030 0 0), (0, .ref 2030 0 0)] (by kernel_rfl) trivial ?_
  refine OpsW.quietU (.ref 2030 0 0) rfl rfl (Quiet.nilCheck rfl (gpoU rfl ⟨trivial, rfl, rfl⟩)) ?_
  refine OpsW.seg 2 [5, 0] [] [(5, .ref 2030 0 0), (0, .ref 2030 0 0)] (by kernel_rfl) trivial ?_
  refine OpsW.quietU (.bool false) rfl rfl (Quiet.ptrNot (e := 66) rfl rfl (by kernel_rfl) rfl rfl) ?_
  refine OpsW.seg 0 [6, 0] [] [(6, .bool false), (0, .ref 2030 0 0)] (by kernel_rfl) trivial ?_
  refine OpsW.nil ?_
  refine AW.cond (b := false) rfl (fun hc => by cases hc) (fun _ => ?_)
  refine AW.regionSeq ?_
  refine OpsW.seg 1 [14, 0] [] [(14, .ref 2030 0 0), (0, .ref 2030 0 0)] (by kernel_rfl) trivial ?_
  refine OpsW.quietU (.ref 2030 0 0) rfl rfl (Quiet.nilCheck rfl (gpoU rfl ⟨trivial, rfl, rfl⟩)) ?_
  refine OpsW.seg 3 [18, 17] [] [(18, .ref 2030 0 0), (17, .ref 2030 0 0)] (by kernel_rfl) trivial ?_
  refine OpsW.quietU (.bool false) rfl rfl (Quiet.ptrSame (e := 66) rfl rfl (by kernel_rfl) (by kernel_rfl) rfl rfl rfl) ?_
  refine OpsW.seg 0 [19] [] [(19, .bool false)] (by kernel_rfl) trivial ?_
  refine OpsW.nil ?_
  refine AW.cond (b := false) rfl (fun hc => by cases hc) (fun _ => ?_)
  refine AW.skip ?_
  obtain rfl := Option.some.inj H
  show ∃ en' hp', StC _ _ en' hp' ∧ Done _ _ _ .normal en' hp'
  refine ⟨[], [(2030, ⟨0, true, 66, 2, [.ref 2030 0 0, .rsl 3030 1 0 t0.length]⟩), (3030, rtA 1 5 1 (eI .u8) t0)], (StC.mk (phi [(2030, some 2030), (3030, some 3030)]) (.old rfl rfl rfl rfl rfl (.cons (.ref rfl rfl rfl rfl rfl) (.cons (.rsl rfl rfl rfl rfl rfl rfl) .nil)) (.old rfl rfl rfl rfl rfl (CstL.ims _) .nil)) rfl .nil), ?_⟩
  refine Done.genN rfl .nil ?_
  exact ⟨by kernel_rfl, by kernel_rfl⟩
def f_strings_Builder_WriteString (t0 : List Int) (t1 : ByteArray) : Option (Int × Unit × (List Int)) :=
  (f_strings_Builder_copyCheck t0).bind fun x1 =>
  G (room 1 (x1.length + t1.size)) <|
  some ((t1.size : Int), (), x1 ++ (bytesOf t1))
theorem f_strings_Builder_WriteString_io  {t0 : List Int} {t1 : ByteArray} {r : Int × Unit × (List Int)} (H : f_strings_Builder_WriteString t0 t1 = some r) : Abs.Spec Tryd.prog 37 [.ref 2030 0 0, .string t1] [(2030, ⟨0, true, 66, 2, [.ref 2030 0 0, .rsl 3030 0 0 t0.length]⟩), (3030, rtA 0 5 1 (eI .u8) t0)] (fun x h => x = .tup [.int .i64 r.1, .any] ∧ h = [(2030, ⟨0, true, 66, 2, [.ref 2030 0 0, .rsl 3030 1 0 r.2.2.length]⟩), (3030, rtA 1 5 1 (eI .u8) r.2.2)]) := by
  refine Spec.of_AW Tryd.func37 rfl (by simp [Tryd.ntmps37]) ?_
  rw [Tryd.ntmps37]
  unfold f_strings_Builder_WriteString at H
  change AW _ _ _ [(0, .ref 2030 0 0), (1, .string t1)] [(2030, ⟨0, true, 66, 2, [.ref 2030 0 0, .rsl 3030 0 0 t0.length]⟩), (3030, rtA 0 5 1 (eI .u8) t0)] _
  refine AW.endcast ?_
  refine AW.regionSeq ?_
  refine OpsW.seg 2 [0, 1] [] [(0, .ref 2030 0 0), (1, .string t1)] (by kernel_rfl) trivial ?_
  refine OpsW.nil ?_
  refine AW.regionSeq ?_
  refine OpsW.seg 1 [6, 0, 1] [] [(6, .ref 2030 0 0), (0, .ref 2030 0 0), (1, .string t1)] (by kernel_rfl) trivial ?_
  refine OpsW.recast (env' := [(6, .ref 2030 0 0), (0, .ref 2030 0 0), (1, .string t1)]) (h' := [(2030, ⟨0, true, 66, 2, [.ref 2030 0 0, .rsl 3030 0 0 t0.length]⟩), (3030, rtA 0 5 1 (eI .u8) t0)]) (StC.mk (phi [(2030, some 2030), (3030, some 3030)]) (.old rfl rfl rfl rfl rfl (.cons (.ref rfl rfl rfl rfl rfl) (.cons (.rsl rfl rfl rfl rfl rfl rfl) .nil)) (.old rfl rfl rfl rfl rfl (CstL.ims _) .nil)) rfl (.cons (.ref rfl rfl rfl rfl rfl) (.cons (.ref rfl rfl rfl rfl rfl) (.cons .im .nil)))) ?_
  obtain ⟨x1, hx1, H⟩ := bindS H
  change OpsW _ _ _ _ [(6, .ref 2030 0 0), (0, .ref 2030 0 0), (1, .string t1)] ([(2030, ⟨0, true, 66, 2, [.ref 2030 0 0, .rsl 3030 0 0 t0.length]⟩), (3030, rtA 0 5 1 (eI .u8) t0)] ++ []) _
  refine OpsW.callR [(2030, ⟨0, true, 66, 2, [.ref 2030 0 0, .rsl 3030 0 0 t0.length]⟩), (3030, rtA 0 5 1 (eI .u8) t0)] [] [(2030, ⟨0, true, 66, 2, [.ref 2030 0 0, .rsl 3030 0 0 t0.length]⟩), (3030, rtA 0 5 1 (eI .u8) t0)] (phi [(2030, some 2030), (3030, some 3030)]) rfl rfl (by kernel_rfl) [.ref 2030 0 0] _ rfl (glAll_sound trivial) (.cons (.ref rfl rfl rfl rfl rfl) .nil) (f_strings_Builder_copyCheck_io hx1) (fresh_of (by kernel_rfl)) (by kernel_rfl) (.cons rfl rfl rfl rfl rfl (.cons (.ref rfl rfl rfl rfl rfl) (.cons (.rsl rfl rfl rfl rfl rfl rfl) .nil)) (.cons rfl rfl rfl rfl rfl (RnL.ims _) .nil)) ?_
  rintro _ _ ⟨rfl, rfl⟩
  refine ⟨.tup [], [(2030, ⟨0, true, 66, 2, [.ref 2030 0 0, .rsl 3030 1 0 x1.length]⟩), (3030, rtA 1 5 1 (eI .u8) x1)], phi [(2030, some 2030), (3030, some 3030)], fresh_of (by kernel_rfl), by kernel_rfl, by kernel_rfl, (.cons rfl rfl rfl rfl rfl (.cons (.ref rfl rfl rfl rfl rfl) (.cons (.rsl rfl rfl rfl rfl rfl rfl) .nil)) (.cons rfl rfl rfl rfl rfl (RnL.ims _) .nil)), (.tup .nil .nil), ?_⟩
  change OpsW _ _ _ _ [(7, .tup []), (6, .ref 2030 0 0), (0, .ref 2030 0 0), (1, .string t1)] [(2030, ⟨0, true, 66, 2, [.ref 2030 0 0, .rsl 3030 1 0 x1.length]⟩), (3030, rtA 1 5 1 (eI .u8) x1)] _
  refine OpsW.seg 0 [0, 1] [] [(0, .ref 2030 0 0), (1, .string t1)] (by kernel_rfl) trivial ?_
  refine OpsW.recast (env' := [(0, .ref 2030 0 0), (1, .string t1)]) (h' := [(2030, ⟨0, true, 66, 2, [.ref 2030 0 0, .rsl 3030 0 0 x1.length]⟩), (3030, rtA 0 5 1 (eI .u8) x1)]) (StC.mk (phi [(2030, some 2030), (3030, some 3030)]) (.old rfl rfl rfl rfl rfl (.cons (.ref rfl rfl rfl rfl rfl) (.cons (.rsl rfl rfl rfl rfl rfl rfl) .nil)) (.old rfl rfl rfl rfl rfl (CstL.ims _) .nil)) rfl (.cons (.ref rfl rfl rfl rfl rfl) (.cons .im .nil))) ?_
  refine OpsW.nil ?_
  refine AW.regionSeq ?_
  refine OpsW.seg 2 [9, 8, 1] [] [(9, .ref 2030 0 0), (8, .ref 2030 0 0), (1, .string t1)] (by kernel_rfl) trivial ?_
  refine OpsW.quietU (.ref 2030 0 0) rfl rfl (Quiet.nilCheck rfl (gpoU rfl ⟨trivial, rfl, rfl⟩)) ?_
  refine OpsW.seg 3 [13, 12, 8, 1] [] [(13, .string t1), (12, .rsl 3030 0 0 x1.length), (8, .ref 2030 0 0), (1, .string t1)] (by kernel_rfl) trivial ?_
  obtain ⟨g2, H⟩ := G_some H
  refine OpsW.appendF (enc := eI .u8) (ys := bytesOf t1) rfl rfl rfl E51 (fun _ => rfl) rfl rfl trivial (SrcA.strT (by kernel_rfl) t1) (bytesOf_len _).symm g2 ?_
  refine OpsW.quietU (.ref 2030 0 0) rfl rfl (Quiet.nilCheck rfl (gpoU rfl ⟨trivial, rfl, rfl⟩)) ?_
  refine OpsW.seg 1 [16, 14, 1] [] [(16, .ref 2030 0 1), (14, .rsl 3030 1 0 ((x1 ++ (bytesOf t1)).length)), (1, .string t1)] (by kernel_rfl) trivial ?_
  refine OpsW.store rfl rfl rfl rfl trivial trivial rfl rfl rfl (by kernel_rfl) (okCb_sound (by kernel_rfl)) (Nat.le_of_ble_eq_true (by kernel_rfl)) ?_
  change OpsW _ _ _ _ _ [(2030, ⟨0, true, 66, 2, [.ref 2030 0 0, .rsl 3030 1 0 ((x1 ++ (bytesOf t1)).length)]⟩), (3030, rtA 1 5 1 (eI .u8) (x1 ++ (bytesOf t1))), (2030, ⟨0, true, 66, 2, [.ref 2030 0 0, .rsl 3030 0 0 x1.length]⟩), (3030, rtA 0 5 1 (eI .u8) x1)] _
  refine OpsW.seg 0 [1] [] [(1, .string t1)] (by kernel_rfl) trivial ?_
  refine OpsW.recast (env' := [(1, .string t1)]) (h' := [(2030, ⟨0, true, 66, 2, [.ref 2030 0 0, .rsl 3030 0 0 ((x1 ++ (bytesOf t1)).length)]⟩), (3030, rtA 0 5 1 (eI .u8) (x1 ++ (bytesOf t1)))]) (StC.mk (phi [(2030, some 2030), (3030, some 3030)]) (.old rfl rfl rfl rfl rfl (.cons (.ref rfl rfl rfl rfl rfl) (.cons (.rsl rfl rfl rfl rfl rfl rfl) .nil)) (.old rfl rfl rfl rfl rfl (CstL.ims _) .nil)) rfl (.cons .im .nil)) ?_
  refine OpsW.nil ?_
  refine AW.regionSeq ?_
  refine OpsW.seg 4 [4] [] [(4, .int .i64 (t1.size : Int))] (by kernel_rfl) trivial ?_
  refine OpsW.nil ?_
  obtain rfl := Option.some.inj H
  refine AW.ret ?_
  show ∃ en' hp', StC _ _ en' hp' ∧ Done _ _ _ .ret en' hp'
  refine ⟨[(4, .int .i64 (t1.size : Int)), (5, .any)], [(2030, ⟨0, true, 66, 2, [.ref 2030 0 0, .rsl 3030 1 0 ((x1 ++ (bytesOf t1)).length)]⟩), (3030, rtA 1 5 1 (eI .u8) (x1 ++ (bytesOf t1)))], (StC.mk (phi [(2030, some 2030), (3030, some 3030)]) (.old rfl rfl rfl rfl rfl (.cons (.ref rfl rfl rfl rfl rfl) (.cons (.rsl rfl rfl rfl rfl rfl rfl) .nil)) (.old rfl rfl rfl rfl rfl (CstL.ims _) .nil)) rfl (.cons .im (.cons .any .nil))), ?_⟩
  refine Done.gen rfl (.tmp (.tmp .nil)) ?_
  exact ⟨by kernel_rfl, by kernel_rfl⟩
def f_strings_Builder_WriteByte (t0 : List Int) (t1 : Int) : Option (Unit × (List Int)) :=
  (f_strings_Builder_copyCheck t0).bind fun x1 =>
  G (room 1 (x1.length + 1)) <|
  some ((), x1 ++ [t1])
theorem f_strings_Builder_WriteByte_io  {t0 : List Int} {t1 : Int} {r : Unit × (List Int)} (H : f_strings_Builder_WriteByte t0 t1 = some r) : Abs.Spec Tryd.prog 39 [.ref 2030 0 0, .int .u8 t1] [(2030, ⟨0, true, 66, 2, [.ref 2030 0 0, .rsl 3030 0 0 t0.length]⟩), (3030, rtA 0 5 1 (eI .u8) t0)] (fun x h => x = .any ∧ h = [(2030, ⟨0, true, 66, 2, [.ref 2030 0 0, .rsl 3030 1 0 r.2.length]⟩), (3030, rtA 1 5 1 (eI .u8) r.2)]) := by
  refine Spec.of_AW Tryd.func39 rfl (by simp [Tryd.ntmps39]) ?_
  rw [Tryd.ntmps39]
  unfold f_strings_Builder_WriteByte at H
  change AW _ _ _ [(0, .ref 2030 0 0), (1, .int .u8 t1)] [(2030, ⟨0, true, 66, 2, [.ref 2030 0 0, .rsl 3030 0 0 t0.length]⟩), (3030, rtA 0 5 1 (eI .u8) t0)] _
  refine AW.endcast ?_
  refine AW.regionSeq ?_
  refine OpsW.seg 1 [0, 1] [] [(0, .ref 2030 0 0), (1, .int .u8 t1)] (by kernel_rfl) trivial ?_
  refine OpsW.nil ?_
  refine AW.regionSeq ?_
  refine OpsW.seg 1 [5, 0, 1] [] [(5, .ref 2030 0 0), (0, .ref 2030 0 0), (1, .int .u8 t1)] (by kernel_rfl) trivial ?_
  refine OpsW.recast (env' := [(5, .ref 2030 0 0), (0, .ref 2030 0 0), (1, .int .u8 t1)]) (h' := [(2030, ⟨0, true, 66, 2, [.ref 2030 0 0, .rsl 3030 0 0 t0.length]⟩), (3030, rtA 0 5 1 (eI .u8) t0)]) (StC.mk (phi [(2030, some 2030), (3030, some 3030)]) (.old rfl rfl rfl rfl rfl (.cons (.ref rfl rfl rfl rfl rfl) (.cons (.rsl rfl rfl rfl rfl rfl rfl) .nil)) (.old rfl rfl rfl rfl rfl (CstL.ims _) .nil)) rfl (.cons (.ref rfl rfl rfl rfl rfl) (.cons (.ref rfl rfl rfl rfl rfl) (.cons .im .nil)))) ?_
  obtain ⟨x1, hx1, H⟩ := bindS H
  change OpsW _ _ _ _ [(5, .ref 2030 0 0), (0, .ref 2030 0 0), (1, .int .u8 t1)] ([(2030, ⟨0, true, 66, 2, [.ref 2030 0 0, .rsl 3030 0 0 t0.length]⟩), (3030, rtA 0 5 1 (eI .u8) t0)] ++ []) _
  refine OpsW.callR [(2030, ⟨0, true, 66, 2, [.ref 2030 0 0, .rsl 3030 0 0 t0.length]⟩), (3030, rtA 0 5 1 (eI .u8) t0)] [] [(2030, ⟨0, true, 66, 2, [.ref 2030 0 0, .rsl 3030 0 0 t0.length]⟩), (3030, rtA 0 5 1 (eI .u8) t0)] (phi [(2030, some 2030), (3030, some 3030)]) rfl rfl (by kernel_rfl) [.ref 2030 0 0] _ rfl (glAll_sound trivial) (.cons (.ref rfl rfl rfl rfl rfl) .nil) (f_strings_Builder_copyCheck_io hx1) (fresh_of (by kernel_rfl)) (by kernel_rfl) (.cons rfl rfl rfl rfl rfl (.cons (.ref rfl rfl rfl rfl rfl) (.cons (.rsl rfl rfl rfl rfl rfl rfl) .nil)) (.cons rfl rfl rfl rfl rfl (RnL.ims _) .nil)) ?_
  rintro _ _ ⟨rfl, rfl⟩
  refine ⟨.tup [], [(2030, ⟨0, true, 66, 2, [.ref 2030 0 0, .rsl 3030 1 0 x1.length]⟩), (3030, rtA 1 5 1 (eI .u8) x1)], phi [(2030, some 2030), (3030, some 3030)], fresh_of (by kernel_rfl), by kernel_rfl, by kernel_rfl, (.cons rfl rfl rfl rfl rfl (.cons (.ref rfl rfl rfl rfl rfl) (.cons (.rsl rfl rfl rfl rfl rfl rfl) .nil)) (.cons rfl rfl rfl rfl rfl (RnL.ims _) .nil)), (.tup .nil .nil), ?_⟩
  change OpsW _ _ _ _ [(6, .tup []), (5, .ref 2030 0 0), (0, .ref 2030 0 0), (1, .int .u8 t1)] [(2030, ⟨0, true, 66, 2, [.ref 2030 0 0, .rsl 3030 1 0 x1.length]⟩), (3030, rtA 1 5 1 (eI .u8) x1)] _
  refine OpsW.seg 0 [0, 1] [] [(0, .ref 2030 0 0), (1, .int .u8 t1)] (by kernel_rfl) trivial ?_
  refine OpsW.recast (env' := [(0, .ref 2030 0 0), (1, .int .u8 t1)]) (h' := [(2030, ⟨0, true, 66, 2, [.ref 2030 0 0, .rsl 3030 0 0 x1.length]⟩), (3030, rtA 0 5 1 (eI .u8) x1)]) (StC.mk (phi [(2030, some 2030), (3030, some 3030)]) (.old rfl rfl rfl rfl rfl (.cons (.ref rfl rfl rfl rfl rfl) (.cons (.rsl rfl rfl rfl rfl rfl rfl) .nil)) (.old rfl rfl rfl rfl rfl (CstL.ims _) .nil)) rfl (.cons (.ref rfl rfl rfl rfl rfl) (.cons .im .nil))) ?_
  refine OpsW.nil ?_
  refine AW.regionSeq ?_
  refine OpsW.seg 2 [8, 7, 1] [] [(8, .ref 2030 0 0), (7, .ref 2030 0 0), (1, .int .u8 t1)] (by kernel_rfl) trivial ?_
  refine OpsW.quietU (.ref 2030 0 0) rfl rfl (Quiet.nilCheck rfl (gpoU rfl ⟨trivial, rfl, rfl⟩)) ?_
  refine OpsW.seg 3 [12, 11, 7] [] [(12, .int .u8 t1), (11, .rsl 3030 0 0 x1.length), (7, .ref 2030 0 0)] (by kernel_rfl) trivial ?_
  obtain ⟨g2, H⟩ := G_some H
  refine OpsW.appendLF (enc := eI .u8) [t1] rfl rfl rfl (by decide) rfl rfl rfl (by simp) E51 (fun _ => rfl) (by decide) trivial (by kernel_rfl) (by kernel_rfl) (by kernel_rfl) rfl rfl rfl g2 ?_
  refine OpsW.quietU (.ref 2030 0 0) rfl rfl (Quiet.nilCheck rfl (gpoU rfl ⟨trivial, rfl, rfl⟩)) ?_
  refine OpsW.seg 1 [16, 14] [] [(16, .ref 2030 0 1), (14, .rsl 3030 1 0 ((x1 ++ [t1]).length))] (by kernel_rfl) trivial ?_
  refine OpsW.store rfl rfl rfl rfl trivial trivial rfl rfl rfl (by kernel_rfl) (okCb_sound (by kernel_rfl)) (Nat.le_of_ble_eq_true (by kernel_rfl)) ?_
  change OpsW _ _ _ _ _ [(2030, ⟨0, true, 66, 2, [.ref 2030 0 0, .rsl 3030 1 0 ((x1 ++ [t1]).length)]⟩), (3030, rtA 1 5 1 (eI .u8) (x1 ++ [t1])), (2030, ⟨0, true, 66, 2, [.ref 2030 0 0, .rsl 3030 0 0 x1.length]⟩), (3030, rtA 0 5 1 (eI .u8) x1)] _
  refine OpsW.seg 0 [] [] [] (by kernel_rfl) trivial ?_
  refine OpsW.recast (env' := []) (h' := [(2030, ⟨0, true, 66, 2, [.ref 2030 0 0, .rsl 3030 0 0 ((x1 ++ [t1]).length)]⟩), (3030, rtA 0 5 1 (eI .u8) (x1 ++ [t1]))]) (StC.mk (phi [(2030, some 2030), (3030, some 3030)]) (.old rfl rfl rfl rfl rfl (.cons (.ref rfl rfl rfl rfl rfl) (.cons (.rsl rfl rfl rfl rfl rfl rfl) .nil)) (.old rfl rfl rfl rfl rfl (CstL.ims _) .nil)) rfl .nil) ?_
  refine OpsW.nil ?_
  refine AW.regionSeq ?_
  refine OpsW.seg 1 [] [] [] (by kernel_rfl) trivial ?_
  refine OpsW.nil ?_
  obtain rfl := Option.some.inj H
  refine AW.ret ?_
  show ∃ en' hp', StC _ _ en' hp' ∧ Done _ _ _ .ret en' hp'
  refine ⟨[(4, .any)], [(2030, ⟨0, true, 66, 2, [.ref 2030 0 0, .rsl 3030 1 0 ((x1 ++ [t1]).length)]⟩), (3030, rtA 1 5 1 (eI .u8) (x1 ++ [t1]))], (StC.mk (phi [(2030, some 2030), (3030, some 3030)]) (.old rfl rfl rfl rfl rfl (.cons (.ref rfl rfl rfl rfl rfl) (.cons (.rsl rfl rfl rfl rfl rfl rfl) .nil)) (.old rfl rfl rfl rfl rfl (CstL.ims _) .nil)) rfl (.cons .any .nil)), ?_⟩
  refine Done.gen rfl (.tmp .nil) ?_
  exact ⟨by kernel_rfl, by kernel_rfl⟩
def f_strings_Builder_String (t0 : List Int) : Option (ByteArray × (List Int)) :=
  G (0 < t0.length) <|
  G ((t0.all fun n => decide (0 ≤ n) && decide (n < 256)) = true) <|
  some (strOf t0, t0)
theorem f_strings_Builder_String_io  {t0 : List Int} {r : ByteArray × (List Int)} (H : f_strings_Builder_String t0 = some r) : Abs.Spec Tryd.prog 42 [.ref 2030 0 0] [(2030, ⟨0, true, 66, 2, [.ref 2030 0 0, .rsl 3030 0 0 t0.length]⟩), (3030, rtA 0 5 1 (eI .u8) t0)] (fun x h => x = .string r.1 ∧ h = [(2030, ⟨0, true, 66, 2, [.ref 2030 0 0, .rsl 3030 1 0 r.2.length]⟩), (3030, ⟨1, false, 5, 1, (r.2.flatMap (eI .u8)).map .im⟩)]) := by
  refine Spec.of_AW Tryd.func42 rfl (by simp [Tryd.ntmps42]) ?_
  rw [Tryd.ntmps42]
  unfold f_strings_Builder_String at H
  change AW _ _ _ [(0, .ref 2030 0 0)] [(2030, ⟨0, true, 66, 2, [.ref 2030 0 0, .rsl 3030 0 0 t0.length]⟩), (3030, rtA 0 5 1 (eI .u8) t0)] _
  refine AW.endcast ?_
  refine AW.regionSeq ?_
  refine OpsW.seg 1 [0] [] [(0, .ref 2030 0 0)] (by kernel_rfl) trivial ?_
  refine OpsW.nil ?_
  refine AW.drawTSeq 10 Tryd.checked.mixed (by kernel_rfl) ?_
  refine QOps.seg (N := 14) 1 [] [(3, .ref 2030 0 0), (0, .ref 2030 0 0)] (by kernel_rfl) trivial ?_
  refine QOps.quietU (.ref 2030 0 0) rfl (Quiet.nilCheck rfl (gpoU rfl ⟨trivial, rfl, rfl⟩)) ?_
  refine QOps.seg (N := 14) 2 [] [(6, .rsl 3030 0 0 t0.length), (5, .ref 2030 0 1), (4, .ref 2030 0 0), (3, .ref 2030 0 0), (0, .ref 2030 0 0)] (by kernel_rfl) trivial ?_
  obtain ⟨g1, H⟩ := G_some H
  refine QOps.quietU (.ref 3030 0 0) rfl (Quiet.sliceData rfl rfl rfl rfl rfl g1) ?_
  refine QOps.seg (N := 14) 1 [] [(8, .ref 2030 0 0), (7, .ref 3030 0 0), (6, .rsl 3030 0 0 t0.length), (5, .ref 2030 0 1), (4, .ref 2030 0 0), (3, .ref 2030 0 0), (0, .ref 2030 0 0)] (by kernel_rfl) trivial ?_
  refine QOps.quietU (.ref 2030 0 0) rfl (Quiet.nilCheck rfl (gpoU rfl ⟨trivial, rfl, rfl⟩)) ?_
  refine QOps.seg (N := 14) 3 [] [(12, .int .i64 (t0.length : Int)), (11, .rsl 3030 0 0 t0.length), (10, .ref 2030 0 1), (9, .ref 2030 0 0), (8, .ref 2030 0 0), (7, .ref 3030 0 0), (6, .rsl 3030 0 0 t0.length), (5, .ref 2030 0 1), (4, .ref 2030 0 0), (3, .ref 2030 0 0), (0, .ref 2030 0 0)] (by kernel_rfl) trivial ?_
  refine QOps.nil ?_
  refine OpsW.seg 0 [12, 7] [] [(12, .int .i64 (t0.length : Int)), (7, .ref 3030 0 0)] (by kernel_rfl) trivial ?_
  obtain ⟨g2, H⟩ := G_some H
  refine OpsW.unsafeStr (q := 3030) (l := t0) rfl rfl rfl (by kernel_rfl) (by kernel_rfl) rfl rfl rfl g1 g2 ?_
  change OpsW _ _ _ _ [(13, .string (strOf t0)), (12, .int .i64 (t0.length : Int)), (7, .ref 3030 0 0)] [(3030, ⟨0, false, 5, 1, (t0.flatMap (eI .u8)).map .im⟩), (2030, ⟨0, true, 66, 2, [.ref 2030 0 0, .rsl 3030 0 0 t0.length]⟩), (3030, rtA 0 5 1 (eI .u8) t0)] _
  refine OpsW.seg 1 [2] [] [(2, .string (strOf t0))] (by kernel_rfl) trivial ?_
  refine OpsW.recast (env' := [(2, .string (strOf t0))]) (h' := [(2030, ⟨0, true, 66, 2, [.ref 2030 0 0, .rsl 3030 0 0 t0.length]⟩), (3030, ⟨0, false, 5, 1, (t0.flatMap (eI .u8)).map .im⟩)]) (StC.mk (phi [(2030, some 2030), (3030, some 3030)]) (.old rfl rfl rfl rfl rfl (.cons (.ref rfl rfl rfl rfl rfl) (.cons (.rsl rfl rfl rfl rfl rfl rfl) .nil)) (.old rfl rfl rfl rfl rfl (CstL.ims _) .nil)) rfl (.cons .im .nil)) ?_
  refine OpsW.nil ?_
  obtain rfl := Option.some.inj H
  refine AW.ret ?_
  show ∃ en' hp', StC _ _ en' hp' ∧ Done _ _ _ .ret en' hp'
  refine ⟨[(2, .string (strOf t0))], [(2030, ⟨0, true, 66, 2, [.ref 2030 0 0, .rsl 3030 1 0 t0.length]⟩), (3030, ⟨1, false, 5, 1, (t0.flatMap (eI .u8)).map .im⟩)], (StC.mk (phi [(2030, some 2030), (3030, some 3030)]) (.old rfl rfl rfl rfl rfl (.cons (.ref rfl rfl rfl rfl rfl) (.cons (.rsl rfl rfl rfl rfl rfl rfl) .nil)) (.old rfl rfl rfl rfl rfl (CstL.ims _) .nil)) rfl (.cons .im .nil)), ?_⟩
  refine Done.gen rfl (.tmp .nil) ?_
  exact ⟨by kernel_rfl, by kernel_rfl⟩
def f_table_Format_k1 (loop26 : ((List Int) × S_Rule × Int) → Option ByteArray) (v25 : Int) (v28 : List Int) (v29 : S_Rule) : Option ByteArray :=
  G (inR (v25 + (1 : Int))) <|
  loop26 (v28, v29, v25 + (1 : Int))
def f_table_Format_k2 (v14 : S_Rule) (loop26 : ((List Int) × S_Rule × Int) → Option ByteArray) (v25 : Int) (v32 : List Int) (v33 : S_Rule) : Option ByteArray :=
  (f_cell_Dots (v14.Cells.getD v25.toNat (0 : Int))).bind fun x34 =>
  (f_strings_Builder_WriteString v32 x34).bind fun x35 =>
  f_table_Format_k1 loop26 v25 x35.2.2 v33
def f_table_Format_b1 (loop10 : ((List Int) × Int) → Option ByteArray) (v9 : Int) (v14 : S_Rule) (loop26 : ((List Int) × S_Rule × Int) → Option ByteArray) (v23 : List Int) (v24 : S_Rule) (v25 : Int) : Option ByteArray :=
  cond (decide (v25 < (v14.Cells.length : Int))) (
    G (0 ≤ v25 ∧ v25 < (v14.Cells.length : Int)) <|
    cond (decide ((0 : Int) < v25)) (
      (f_strings_Builder_WriteByte v23 (45 : Int)).bind fun x37 =>
      f_table_Format_k2 v14 loop26 v25 x37.2 v24) (
      f_table_Format_k2 v14 loop26 v25 v23 v24)) (
    (f_table_hex v24.Print).bind fun x38 =>
    G ((⟨#[32]⟩ : ByteArray).size + x38.size ≤ 9223372036854775807) <|
    G (((⟨#[32]⟩ : ByteArray) ++ x38).size + (⟨#[10]⟩ : ByteArray).size ≤ 9223372036854775807) <|
    (f_strings_Builder_WriteString v23 (((⟨#[32]⟩ : ByteArray) ++ x38) ++ (⟨#[10]⟩ : ByteArray))).bind fun x41 =>
    G (inR (v9 + (1 : Int))) <|
    loop10 (x41.2.2, v9 + (1 : Int)))
def f_table_Format_b2 (t0 : S_Table) (loop10 : ((List Int) × Int) → Option ByteArray) (v9 : Int) (loop16 : ((List Int) × S_Rule × Int) → Option ByteArray) (v13 : List Int) (v14 : S_Rule) (v15 : Int) : Option ByteArray :=
  cond (decide (v15 < ([(t0.Rules.getD v9.toNat zS_Rule).From, (t0.Rules.getD v9.toNat zS_Rule).To, IntKind.wrap .i64 ((t0.Rules.getD v9.toNat zS_Rule).Left), IntKind.wrap .i64 ((t0.Rules.getD v9.toNat zS_Rule).Right)].length : Int))) (
    G (0 ≤ v15 ∧ v15 < ([(t0.Rules.getD v9.toNat zS_Rule).From, (t0.Rules.getD v9.toNat zS_Rule).To, IntKind.wrap .i64 ((t0.Rules.getD v9.toNat zS_Rule).Left), IntKind.wrap .i64 ((t0.Rules.getD v9.toNat zS_Rule).Right)].length : Int)) <|
    (f_strconv_Itoa ([(t0.Rules.getD v9.toNat zS_Rule).From, (t0.Rules.getD v9.toNat zS_Rule).To, IntKind.wrap .i64 ((t0.Rules.getD v9.toNat zS_Rule).Left), IntKind.wrap .i64 ((t0.Rules.getD v9.toNat zS_Rule).Right)].getD v15.toNat (0 : Int))).bind fun x19 =>
    G (x19.size + (⟨#[32]⟩ : ByteArray).size ≤ 9223372036854775807) <|
    (f_strings_Builder_WriteString v13 (x19 ++ (⟨#[32]⟩ : ByteArray))).bind fun x21 =>
    G (inR (v15 + (1 : Int))) <|
    loop16 (x21.2.2, v14, v15 + (1 : Int))) (
    iter (fun loop (s : (List Int) × S_Rule × Int) => f_table_Format_b1 loop10 v9 v14 loop s.1 s.2.1 s.2.2) 1000000 (v13, v14, (0 : Int)))
def f_table_Format_b3 (t0 : S_Table) (loop10 : ((List Int) × Int) → Option ByteArray) (v8 : List Int) (v9 : Int) : Option ByteArray :=
  cond (decide (v9 < (t0.Rules.length : Int))) (
    G (0 ≤ v9 ∧ v9 < (t0.Rules.length : Int)) <|
    iter (fun loop (s : (List Int) × S_Rule × Int) => f_table_Format_b2 t0 loop10 v9 loop s.1 s.2.1 s.2.2) 1000000 (v8, (t0.Rules.getD v9.toNat zS_Rule), (0 : Int))) (
    (f_strings_Builder_String v8).bind fun x43 =>
    some x43.1)
def f_table_Format (t0 : S_Table) : Option ByteArray :=
  (f_strconv_Itoa t0.Modes).bind fun x1 =>
  G ((⟨#[109, 111, 100, 101, 115, 32]⟩ : ByteArray).size + x1.size ≤ 9223372036854775807) <|
  G (((⟨#[109, 111, 100, 101, 115, 32]⟩ : ByteArray) ++ x1).size + (⟨#[32, 97, 99, 99, 101, 112, 116, 32]⟩ : ByteArray).size ≤ 9223372036854775807) <|
  (f_strconv_Itoa (IntKind.wrap .i64 t0.Accept)).bind fun x4 =>
  G ((((⟨#[109, 111, 100, 101, 115, 32]⟩ : ByteArray) ++ x1) ++ (⟨#[32, 97, 99, 99, 101, 112, 116, 32]⟩ : ByteArray)).size + x4.size ≤ 9223372036854775807) <|
  G (((((⟨#[109, 111, 100, 101, 115, 32]⟩ : ByteArray) ++ x1) ++ (⟨#[32, 97, 99, 99, 101, 112, 116, 32]⟩ : ByteArray)) ++ x4).size + (⟨#[10]⟩ : ByteArray).size ≤ 9223372036854775807) <|
  (f_strings_Builder_WriteString_n66_0 ([] : List Int) (((((⟨#[109, 111, 100, 101, 115, 32]⟩ : ByteArray) ++ x1) ++ (⟨#[32, 97, 99, 99, 101, 112, 116, 32]⟩ : ByteArray)) ++ x4) ++ (⟨#[10]⟩ : ByteArray))).bind fun x7 =>
  iter (fun loop (s : (List Int) × Int) => f_table_Format_b3 t0 loop s.1 s.2) 1000000 (x7.2.2, (0 : Int))
theorem f_table_Format_ok  {t0 : S_Table} {r : ByteArray} (H : f_table_Format t0 = some r) : QSpec Tryd.prog 25 [.agg [.int .i64 t0.Modes, .int .u8 t0.Accept, slA eS_Rule t0.Rules]] (.string r) := by
  refine Spec.of_AW Tryd.func25 rfl (by simp [Tryd.ntmps25]) ?_
  rw [Tryd.ntmps25]
  unfold f_table_Format at H
  change AW _ _ _ [(0, .agg [.int .i64 t0.Modes, .int .u8 t0.Accept, slA eS_Rule t0.Rules])] [] _
  refine AW.regionSeq ?_
  refine OpsW.box rfl rfl rfl 1 rfl (okCb_sound (by kernel_rfl)) ?_
  change OpsW _ _ _ _ _ [(1, ⟨0, true, 33, 3, [.int .i64 t0.Modes, .int .u8 t0.Accept, slA eS_Rule t0.Rules]⟩)] _
  refine OpsW.seg 1 [1] [] [(1, .ref 1 0 0)] (by kernel_rfl) trivial ?_
  refine OpsW.recast (env' := [(1, .ref 1 0 0)]) (h' := [(1, ⟨0, true, 33, 3, [.int .i64 t0.Modes, .int .u8 t0.Accept, slA eS_Rule t0.Rules]⟩)]) (StC.mk (phi [(1, some 1)]) (.old rfl rfl rfl rfl rfl (.cons .im (.cons .im (.cons .im .nil))) .nil) rfl (.cons (.ref rfl rfl rfl rfl rfl) .nil)) ?_
  refine OpsW.nil ?_
  refine AW.regionSeq ?_
  refine OpsW.alloc' rfl rfl rfl 3 rfl (by kernel_rfl : zc Tryd.prog 66 = some [.pointer none, .slice none 0 0]) (by kernel_rfl) ?_
  refine OpsW.recast (env' := [(3, .ref 3 0 0), (1, .ref 1 0 0)]) (h' := [(1, ⟨0, true, 33, 3, [.int .i64 t0.Modes, .int .u8 t0.Accept, slA eS_Rule t0.Rules]⟩), (3, ⟨0, true, 66, 2, [.im (.val (.pointer none)), .im (.val (.slice none 0 0))]⟩)]) (StC.mk (phi [(1, some 1), (3, some 3)]) (.old rfl rfl rfl rfl rfl (.cons .im (.cons .im (.cons .im .nil))) (.old rfl rfl rfl rfl rfl (.cons .im (.cons .im .nil)) .nil)) rfl (.cons (.ref rfl rfl rfl rfl rfl) (.cons (.ref rfl rfl rfl rfl rfl) .nil))) ?_
  refine OpsW.nil ?_
  refine AW.drawTSeq 9 Tryd.checked.mixed (by kernel_rfl) ?_
  refine QOps.seg (N := 73) 2 [] [(11, .int .i64 t0.Modes), (10, .ref 1 0 0), (3, .ref 3 0 0), (1, .ref 1 0 0)] (by kernel_rfl) trivial ?_
  obtain ⟨x1, hx1, H⟩ := bindS H
  refine QOps.qcall rfl (by kernel_rfl) rfl (glAll_sound trivial) (.cons (.pur rfl) .nil) (f_strconv_Itoa_ok hx1) rfl ?_
  obtain ⟨g2, H⟩ := G_some H
  obtain ⟨g3, H⟩ := G_some H
  refine QOps.seg (N := 73) 5 [(⟨#[109, 111, 100, 101, 115, 32]⟩ : ByteArray).size + x1.size ≤ 9223372036854775807, ((⟨#[109, 111, 100, 101, 115, 32]⟩ : ByteArray) ++ x1).size + (⟨#[32, 97, 99, 99, 101, 112, 116, 32]⟩ : ByteArray).size ≤ 9223372036854775807] [(17, .int .i64 (IntKind.wrap .i64 t0.Accept)), (16, .int .u8 t0.Accept), (15, .ref 1 0 1), (14, .string (((⟨#[109, 111, 100, 101, 115, 32]⟩ : ByteArray) ++ x1) ++ (⟨#[32, 97, 99, 99, 101, 112, 116, 32]⟩ : ByteArray))), (13, .string ((⟨#[109, 111, 100, 101, 115, 32]⟩ : ByteArray) ++ x1)), (12, .string x1), (11, .int .i64 t0.Modes), (10, .ref 1 0 0), (3, .ref 3 0 0), (1, .ref 1 0 0)] (by kernel_rfl) ⟨g2, g3, trivial⟩ ?_
  obtain ⟨x4, hx4, H⟩ := bindS H
  refine QOps.qcall rfl (by kernel_rfl) rfl (glAll_sound trivial) (.cons (.pur rfl) .nil) (f_strconv_Itoa_ok hx4) rfl ?_
  refine QOps.nil ?_
  refine OpsW.seg 0 [18, 14, 3, 1] [] [(18, .string x4), (14, .string (((⟨#[109, 111, 100, 101, 115, 32]⟩ : ByteArray) ++ x1) ++ (⟨#[32, 97, 99, 99, 101, 112, 116, 32]⟩ : ByteArray))), (3, .ref 3 0 0), (1, .ref 1 0 0)] (by kernel_rfl) trivial ?_
  obtain ⟨g5, H⟩ := G_some H
  obtain ⟨g6, H⟩ := G_some H
  refine OpsW.seg 2 [20, 3, 1] [(((⟨#[109, 111, 100, 101, 115, 32]⟩ : ByteArray) ++ x1) ++ (⟨#[32, 97, 99, 99, 101, 112, 116, 32]⟩ : ByteArray)).size + x4.size ≤ 9223372036854775807, ((((⟨#[109, 111, 100, 101, 115, 32]⟩ : ByteArray) ++ x1) ++ (⟨#[32, 97, 99, 99, 101, 112, 116, 32]⟩ : ByteArray)) ++ x4).size + (⟨#[10]⟩ : ByteArray).size ≤ 9223372036854775807] [(20, .string (((((⟨#[109, 111, 100, 101, 115, 32]⟩ : ByteArray) ++ x1) ++ (⟨#[32, 97, 99, 99, 101, 112, 116, 32]⟩ : ByteArray)) ++ x4) ++ (⟨#[10]⟩ : ByteArray))), (3, .ref 3 0 0), (1, .ref 1 0 0)] (by kernel_rfl) ⟨g5, g6, trivial⟩ ?_
  refine OpsW.recast (env' := [(20, .string (((((⟨#[109, 111, 100, 101, 115, 32]⟩ : ByteArray) ++ x1) ++ (⟨#[32, 97, 99, 99, 101, 112, 116, 32]⟩ : ByteArray)) ++ x4) ++ (⟨#[10]⟩ : ByteArray))), (3, .ref 3 0 0), (1, .ref 1 0 0)]) (h' := [(3, ⟨0, true, 66, 2, [.im (.val (.pointer none)), .rsl 5030 0 0 0]⟩), (5030, rtA 0 5 1 (eI .u8) ([] : List Int)), (1, ⟨0, true, 33, 3, [.int .i64 t0.Modes, .int .u8 t0.Accept, slA eS_Rule t0.Rules]⟩)]) (StC.mk (phi [(3, some 3), (5030, none), (1, some 1)]) (.old rfl rfl rfl rfl rfl (.cons .im (.cons (.nilr rfl rfl rfl) .nil)) (.new rfl (.old rfl rfl rfl rfl rfl (.cons .im (.cons .im (.cons .im .nil))) .nil))) rfl (.cons .im (.cons (.ref rfl rfl rfl rfl rfl) (.cons (.ref rfl rfl rfl rfl rfl) .nil)))) ?_
  obtain ⟨x7, hx7, H⟩ := bindS H
  change OpsW _ _ _ _ [(20, .string (((((⟨#[109, 111, 100, 101, 115, 32]⟩ : ByteArray) ++ x1) ++ (⟨#[32, 97, 99, 99, 101, 112, 116, 32]⟩ : ByteArray)) ++ x4) ++ (⟨#[10]⟩ : ByteArray))), (3, .ref 3 0 0), (1, .ref 1 0 0)] ([(3, ⟨0, true, 66, 2, [.im (.val (.pointer none)), .rsl 5030 0 0 0]⟩), (5030, rtA 0 5 1 (eI .u8) ([] : List Int))] ++ [(1, ⟨0, true, 33, 3, [.int .i64 t0.Modes, .int .u8 t0.Accept, slA eS_Rule t0.Rules]⟩)]) _
  refine OpsW.callR [(3, ⟨0, true, 66, 2, [.im (.val (.pointer none)), .rsl 5030 0 0 0]⟩), (5030, rtA 0 5 1 (eI .u8) ([] : List Int))] [(1, ⟨0, true, 33, 3, [.int .i64 t0.Modes, .int .u8 t0.Accept, slA eS_Rule t0.Rules]⟩)] [(2000, ⟨0, true, 66, 2, [.im (.val (.pointer none)), .rsl 3000 0 0 0]⟩), (3000, rtA 0 5 1 (eI .u8) ([] : List Int))] (phi [(2000, some 3), (3000, some 5030)]) rfl rfl (by kernel_rfl) [.ref 2000 0 0, .string (((((⟨#[109, 111, 100, 101, 115, 32]⟩ : ByteArray) ++ x1) ++ (⟨#[32, 97, 99, 99, 101, 112, 116, 32]⟩ : ByteArray)) ++ x4) ++ (⟨#[10]⟩ : ByteArray))] _ rfl (glAll_sound trivial) (.cons (.ref rfl rfl rfl rfl rfl) (.cons .im .nil)) (f_strings_Builder_WriteString_n66_0_io hx7) (fresh_of (by kernel_rfl)) (by kernel_rfl) (.cons rfl rfl rfl rfl rfl (.cons .im (.cons (.rsl rfl rfl rfl rfl rfl rfl) .nil)) (.cons rfl rfl rfl rfl rfl (RnL.ims _) .nil)) ?_
  rintro _ _ ⟨rfl, rfl⟩
  refine ⟨.tup [.int .i64 x7.1, .any], [(3, ⟨0, true, 66, 2, [.ref 3 0 0, .rsl 5030 1 0 x7.2.2.length]⟩), (5030, rtA 1 5 1 (eI .u8) x7.2.2)], phi [(3, some 2000), (5030, some 3000)], fresh_of (by kernel_rfl), by kernel_rfl, by kernel_rfl, (.cons rfl rfl rfl rfl rfl (.cons (.ref rfl rfl rfl rfl rfl) (.cons (.rsl rfl rfl rfl rfl rfl rfl) .nil)) (.cons rfl rfl rfl rfl rfl (RnL.ims _) .nil)), (.tup (.cons .im (.cons .any .nil)) .nil), ?_⟩
  change OpsW _ _ _ _ [(21, .tup [.int .i64 x7.1, .any]), (20, .string (((((⟨#[109, 111, 100, 101, 115, 32]⟩ : ByteArray) ++ x1) ++ (⟨#[32, 97, 99, 99, 101, 112, 116, 32]⟩ : ByteArray)) ++ x4) ++ (⟨#[10]⟩ : ByteArray))), (3, .ref 3 0 0), (1, .ref 1 0 0)] [(3, ⟨0, true, 66, 2, [.ref 3 0 0, .rsl 5030 1 0 x7.2.2.length]⟩), (5030, rtA 1 5 1 (eI .u8) x7.2.2), (1, ⟨0, true, 33, 3, [.int .i64 t0.Modes, .int .u8 t0.Accept, slA eS_Rule t0.Rules]⟩)] _
  refine OpsW.seg 0 [3, 1] [] [(3, .ref 3 0 0), (1, .ref 1 0 0)] (by kernel_rfl) trivial ?_
  refine OpsW.recast (env' := [(3, .ref 3 0 0), (1, .ref 1 0 0)]) (h' := [(1, ⟨0, true, 33, 3, [.int .i64 t0.Modes, .int .u8 t0.Accept, slA eS_Rule t0.Rules]⟩), (3, ⟨0, true, 66, 2, [.ref 3 0 0, .rsl 5030 0 0 x7.2.2.length]⟩), (5030, rtA 0 5 1 (eI .u8) x7.2.2)]) (StC.mk (phi [(1, some 1), (3, some 3), (5030, some 5030)]) (.old rfl rfl rfl rfl rfl (.cons .im (.cons .im (.cons .im .nil))) (.old rfl rfl rfl rfl rfl (.cons (.ref rfl rfl rfl rfl rfl) (.cons (.rsl rfl rfl rfl rfl rfl rfl) .nil)) (.old rfl rfl rfl rfl rfl (CstL.ims _) .nil))) rfl (.cons (.ref rfl rfl rfl rfl rfl) (.cons (.ref rfl rfl rfl rfl rfl) .nil))) ?_
  refine OpsW.nil ?_
  refine AW.seq ?_
  refine AW.regionSeq ?_
  refine OpsW.seg 4 [25, 24, 23, 3] [] [(25, .int .i64 0), (24, .int .i64 (t0.Rules.length : Int)), (23, slA eS_Rule t0.Rules), (3, .ref 3 0 0)] (by kernel_rfl) trivial ?_
  refine OpsW.nil ?_
  refine AW.block ?_
  refine AW.iterK (fun loop (s : (List Int) × Int) => f_table_Format_b3 t0 loop s.1 s.2) r (fun (s : (List Int) × Int) => [(3, .ref 3 0 0), (23, slA eS_Rule t0.Rules), (24, .int .i64 (t0.Rules.length : Int)), (25, .int .i64 s.2)]) (fun (s : (List Int) × Int) => [(3, ⟨0, true, 66, 2, [.ref 3 0 0, .rsl 5030 0 0 s.1.length]⟩), (5030, rtA 0 5 1 (eI .u8) s.1)]) ?_ 1000000 (x7.2.2, (0 : Int)) H (StC.mk (phi [(3, some 3), (5030, some 5030)]) (.old rfl rfl rfl rfl rfl (.cons (.ref rfl rfl rfl rfl rfl) (.cons (.rsl rfl rfl rfl rfl rfl rfl) .nil)) (.old rfl rfl rfl rfl rfl (CstL.ims _) .nil)) rfl (.cons (.ref rfl rfl rfl rfl rfl) (.cons .im (.cons .im (.cons .im .nil)))))
  intro loop10 s H
  obtain ⟨v8, v9⟩ := s
  change f_table_Format_b3 t0 loop10 v8 v9 = some r at H
  unfold f_table_Format_b3 at H
  change AW _ _ _ [(3, .ref 3 0 0), (23, slA eS_Rule t0.Rules), (24, .int .i64 (t0.Rules.length : Int)), (25, .int .i64 v9)] [(3, ⟨0, true, 66, 2, [.ref 3 0 0, .rsl 5030 0 0 v8.length]⟩), (5030, rtA 0 5 1 (eI .u8) v8)] _
  refine AW.regionSeq ?_
  refine OpsW.seg 1 [26, 3, 23, 24, 25] [] [(26, .bool (decide (v9 < (t0.Rules.length : Int)))), (3, .ref 3 0 0), (23, slA eS_Rule t0.Rules), (24, .int .i64 (t0.Rules.length : Int)), (25, .int .i64 v9)] (by kernel_rfl) trivial ?_
  refine OpsW.nil ?_
  refine AW.seq ?_
  refine AW.cond (b := decide (v9 < (t0.Rules.length : Int))) rfl (fun c11 => ?_) (fun c11 => ?_)
  · replace H := condT c11 H
    refine AW.skip ?_
    refine AW.seq ?_
    refine AW.block ?_
    refine AW.regionSeq ?_
    obtain ⟨g12, H⟩ := G_some H
    refine OpsW.seg 1 [27, 3, 23, 24, 25] [0 ≤ v9 ∧ v9 < (t0.Rules.length : Int)] [(27, .ipt (t0.Rules.flatMap eS_Rule) (v9.toNat * 6)), (3, .ref 3 0 0), (23, slA eS_Rule t0.Rules), (24, .int .i64 (t0.Rules.length : Int)), (25, .int .i64 v9)] (by kernel_rfl) ⟨g12, trivial⟩ ?_
    refine OpsW.asU (.agg [.string ((t0.Rules.getD v9.toNat zS_Rule).Print), slA (eI .u8) ((t0.Rules.getD v9.toNat zS_Rule).Cells), .int .u8 ((t0.Rules.getD v9.toNat zS_Rule).Left), .int .u8 ((t0.Rules.getD v9.toNat zS_Rule).Right), .int .i64 ((t0.Rules.getD v9.toNat zS_Rule).From), .int .i64 ((t0.Rules.getD v9.toNat zS_Rule).To)]) rfl rfl (T.loadAgg (cs := t0.Rules.flatMap eS_Rule) (off := v9.toNat * 6) (ds := eS_Rule (t0.Rules.getD v9.toNat zS_Rule)) rfl trivial (by kernel_rfl) (by have := fm_length eS_Rule 6 (fun _ => rfl) t0.Rules; have := (ltN g12); omega) (fm_elem eS_Rule 6 (fun _ => rfl) t0.Rules zS_Rule v9.toNat (ltN g12))) ?_
    refine OpsW.alloc' rfl rfl rfl 5 rfl (by kernel_rfl : zc Tryd.prog 36 = some [.string ⟨#[]⟩, .slice none 0 0, .int .u8 0, .int .u8 0, .int .i64 0, .int .i64 0]) (by kernel_rfl) ?_
    refine OpsW.store rfl rfl rfl rfl trivial trivial rfl rfl rfl (by kernel_rfl) (okCb_sound (by kernel_rfl)) (Nat.le_of_ble_eq_true (by kernel_rfl)) ?_
    change OpsW _ _ _ _ _ [(5, ⟨0, true, 36, 6, [.string ((t0.Rules.getD v9.toNat zS_Rule).Print), slA (eI .u8) ((t0.Rules.getD v9.toNat zS_Rule).Cells), .int .u8 ((t0.Rules.getD v9.toNat zS_Rule).Left), .int .u8 ((t0.Rules.getD v9.toNat zS_Rule).Right), .int .i64 ((t0.Rules.getD v9.toNat zS_Rule).From), .int .i64 ((t0.Rules.getD v9.toNat zS_Rule).To)]⟩), (5, ⟨0, true, 36, 6, [.string (⟨#[]⟩ : ByteArray), .im (.val (.slice none 0 0)), .int .u8 0, .int .u8 0, .int .i64 0, .int .i64 0]⟩), (3, ⟨0, true, 66, 2, [.ref 3 0 0, .rsl 5030 0 0 v8.length]⟩), (5030, rtA 0 5 1 (eI .u8) v8)] _
    refine OpsW.seg 0 [5, 3, 23, 24, 25] [] [(5, .ref 5 0 0), (3, .ref 3 0 0), (23, slA eS_Rule t0.Rules), (24, .int .i64 (t0.Rules.length : Int)), (25, .int .i64 v9)] (by kernel_rfl) trivial ?_
    refine OpsW.recast (env' := [(5, .ref 5 0 0), (3, .ref 3 0 0), (23, slA eS_Rule t0.Rules), (24, .int .i64 (t0.Rules.length : Int)), (25, .int .i64 v9)]) (h' := [(3, ⟨0, true, 66, 2, [.ref 3 0 0, .rsl 5030 0 0 v8.length]⟩), (5, ⟨0, true, 36, 6, [.string ((t0.Rules.getD v9.toNat zS_Rule).Print), slA (eI .u8) ((t0.Rules.getD v9.toNat zS_Rule).Cells), .int .u8 ((t0.Rules.getD v9.toNat zS_Rule).Left), .int .u8 ((t0.Rules.getD v9.toNat zS_Rule).Right), .int .i64 ((t0.Rules.getD v9.toNat zS_Rule).From), .int .i64 ((t0.Rules.getD v9.toNat zS_Rule).To)]⟩), (5030, rtA 0 5 1 (eI .u8) v8)]) (StC.mk (phi [(3, some 3), (5, some 5), (5030, some 5030)]) (.old rfl rfl rfl rfl rfl (.cons (.ref rfl rfl rfl rfl rfl) (.cons (.rsl rfl rfl rfl rfl rfl rfl) .nil)) (.old rfl rfl rfl rfl rfl (.cons .im (.cons .im (.cons .im (.cons .im (.cons .im (.cons .im .nil)))))) (.old rfl rfl rfl rfl rfl (CstL.ims _) .nil))) rfl (.cons (.ref rfl rfl rfl rfl rfl) (.cons (.ref rfl rfl rfl rfl rfl) (.cons .im (.cons .im (.cons .im .nil)))))) ?_
    refine OpsW.nil ?_
    refine AW.seq ?_
    refine AW.regionSeq ?_
    refine OpsW.seg 10 [38, 35, 32, 30, 5, 3, 23, 24, 25] [] [(38, .int .i64 (IntKind.wrap .i64 ((t0.Rules.getD v9.toNat zS_Rule).Right))), (35, .int .i64 (IntKind.wrap .i64 ((t0.Rules.getD v9.toNat zS_Rule).Left))), (32, .int .i64 ((t0.Rules.getD v9.toNat zS_Rule).To)), (30, .int .i64 ((t0.Rules.getD v9.toNat zS_Rule).From)), (5, .ref 5 0 0), (3, .ref 3 0 0), (23, slA eS_Rule t0.Rules), (24, .int .i64 (t0.Rules.length : Int)), (25, .int .i64 v9)] (by kernel_rfl) trivial ?_
    refine OpsW.buildTI (enc := eI .i64) [(t0.Rules.getD v9.toNat zS_Rule).From, (t0.Rules.getD v9.toNat zS_Rule).To, IntKind.wrap .i64 ((t0.Rules.getD v9.toNat zS_Rule).Left), IntKind.wrap .i64 ((t0.Rules.getD v9.toNat zS_Rule).Right)] rfl rfl rfl E72 (fun _ => rfl) (by decide) ⟨trivial, by kernel_rfl, by kernel_rfl, by kernel_rfl, rfl⟩ ?_
    refine OpsW.seg 2 [41, 40, 39, 5, 3, 23, 24, 25] [] [(41, .int .i64 0), (40, .int .i64 ([(t0.Rules.getD v9.toNat zS_Rule).From, (t0.Rules.getD v9.toNat zS_Rule).To, IntKind.wrap .i64 ((t0.Rules.getD v9.toNat zS_Rule).Left), IntKind.wrap .i64 ((t0.Rules.getD v9.toNat zS_Rule).Right)].length : Int)), (39, slA (eI .i64) [(t0.Rules.getD v9.toNat zS_Rule).From, (t0.Rules.getD v9.toNat zS_Rule).To, IntKind.wrap .i64 ((t0.Rules.getD v9.toNat zS_Rule).Left), IntKind.wrap .i64 ((t0.Rules.getD v9.toNat zS_Rule).Right)]), (5, .ref 5 0 0), (3, .ref 3 0 0), (23, slA eS_Rule t0.Rules), (24, .int .i64 (t0.Rules.length : Int)), (25, .int .i64 v9)] (by kernel_rfl) trivial ?_
    refine OpsW.nil ?_
    refine AW.block ?_
    refine AW.iterK (fun loop (s : (List Int) × S_Rule × Int) => f_table_Format_b2 t0 loop10 v9 loop s.1 s.2.1 s.2.2) r (fun (s : (List Int) × S_Rule × Int) => [(3, .ref 3 0 0), (5, .ref 5 0 0), (23, slA eS_Rule t0.Rules), (24, .int .i64 (t0.Rules.length : Int)), (25, .int .i64 v9), (39, slA (eI .i64) [(t0.Rules.getD v9.toNat zS_Rule).From, (t0.Rules.getD v9.toNat zS_Rule).To, IntKind.wrap .i64 ((t0.Rules.getD v9.toNat zS_Rule).Left), IntKind.wrap .i64 ((t0.Rules.getD v9.toNat zS_Rule).Right)]), (40, .int .i64 ([(t0.Rules.getD v9.toNat zS_Rule).From, (t0.Rules.getD v9.toNat zS_Rule).To, IntKind.wrap .i64 ((t0.Rules.getD v9.toNat zS_Rule).Left), IntKind.wrap .i64 ((t0.Rules.getD v9.toNat zS_Rule).Right)].length : Int)), (41, .int .i64 s.2.2)]) (fun (s : (List Int) × S_Rule × Int) => [(3, ⟨0, true, 66, 2, [.ref 3 0 0, .rsl 5030 0 0 s.1.length]⟩), (5030, rtA 0 5 1 (eI .u8) s.1), (5, ⟨0, true, 36, 6, [.string s.2.1.Print, slA (eI .u8) s.2.1.Cells, .int .u8 s.2.1.Left, .int .u8 s.2.1.Right, .int .i64 s.2.1.From, .int .i64 s.2.1.To]⟩)]) ?_ 1000000 (v8, (t0.Rules.getD v9.toNat zS_Rule), (0 : Int)) H (StC.mk (phi [(3, some 3), (5030, some 5030), (5, some 5)]) (.old rfl rfl rfl rfl rfl (.cons (.ref rfl rfl rfl rfl rfl) (.cons (.rsl rfl rfl rfl rfl rfl rfl) .nil)) (.old rfl rfl rfl rfl rfl (CstL.ims _) (.old rfl rfl rfl rfl rfl (.cons .im (.cons .im (.cons .im (.cons .im (.cons .im (.cons .im .nil)))))) .nil))) rfl (.cons (.ref rfl rfl rfl rfl rfl) (.cons (.ref rfl rfl rfl rfl rfl) (.cons .im (.cons .im (.cons .im (.cons .im (.cons .im (.cons .im .nil)))))))))
    intro loop16 s H
    obtain ⟨v13, v14, v15⟩ := s
    change f_table_Format_b2 t0 loop10 v9 loop16 v13 v14 v15 = some r at H
    unfold f_table_Format_b2 at H
    change AW _ _ _ [(3, .ref 3 0 0), (5, .ref 5 0 0), (23, slA eS_Rule t0.Rules), (24, .int .i64 (t0.Rules.length : Int)), (25, .int .i64 v9), (39, slA (eI .i64) [(t0.Rules.getD v9.toNat zS_Rule).From, (t0.Rules.getD v9.toNat zS_Rule).To, IntKind.wrap .i64 ((t0.Rules.getD v9.toNat zS_Rule).Left), IntKind.wrap .i64 ((t0.Rules.getD v9.toNat zS_Rule).Right)]), (40, .int .i64 ([(t0.Rules.getD v9.toNat zS_Rule).From, (t0.Rules.getD v9.toNat zS_Rule).To, IntKind.wrap .i64 ((t0.Rules.getD v9.toNat zS_Rule).Left), IntKind.wrap .i64 ((t0.Rules.getD v9.toNat zS_Rule).Right)].length : Int)), (41, .int .i64 v15)] [(3, ⟨0, true, 66, 2, [.ref 3 0 0, .rsl 5030 0 0 v13.length]⟩), (5030, rtA 0 5 1 (eI .u8) v13), (5, ⟨0, true, 36, 6, [.string v14.Print, slA (eI .u8) v14.Cells, .int .u8 v14.Left, .int .u8 v14.Right, .int .i64 v14.From, .int .i64 v14.To]⟩)] _
    refine AW.regionSeq ?_
    refine OpsW.seg 1 [42, 3, 5, 23, 24, 25, 39, 40, 41] [] [(42, .bool (decide (v15 < ([(t0.Rules.getD v9.toNat zS_Rule).From, (t0.Rules.getD v9.toNat zS_Rule).To, IntKind.wrap .i64 ((t0.Rules.getD v9.toNat zS_Rule).Left), IntKind.wrap .i64 ((t0.Rules.getD v9.toNat zS_Rule).Right)].length : Int)))), (3, .ref 3 0 0), (5, .ref 5 0 0), (23, slA eS_Rule t0.Rules), (24, .int .i64 (t0.Rules.length : Int)), (25, .int .i64 v9), (39, slA (eI .i64) [(t0.Rules.getD v9.toNat zS_Rule).From, (t0.Rules.getD v9.toNat zS_Rule).To, IntKind.wrap .i64 ((t0.Rules.getD v9.toNat zS_Rule).Left), IntKind.wrap .i64 ((t0.Rules.getD v9.toNat zS_Rule).Right)]), (40, .int .i64 ([(t0.Rules.getD v9.toNat zS_Rule).From, (t0.Rules.getD v9.toNat zS_Rule).To, IntKind.wrap .i64 ((t0.Rules.getD v9.toNat zS_Rule).Left), IntKind.wrap .i64 ((t0.Rules.getD v9.toNat zS_Rule).Right)].length : Int)), (41, .int .i64 v15)] (by kernel_rfl) trivial ?_
    refine OpsW.nil ?_
    refine AW.seq ?_
    refine AW.cond (b := decide (v15 < ([(t0.Rules.getD v9.toNat zS_Rule).From, (t0.Rules.getD v9.toNat zS_Rule).To, IntKind.wrap .i64 ((t0.Rules.getD v9.toNat zS_Rule).Left), IntKind.wrap .i64 ((t0.Rules.getD v9.toNat zS_Rule).Right)].length : Int))) rfl (fun c17 => ?_) (fun c17 => ?_)
    · replace H := condT c17 H
      refine AW.skip ?_
      refine AW.seq ?_
      refine AW.block ?_
      refine AW.regionSeq ?_
      obtain ⟨g18, H⟩ := G_some H
      refine OpsW.seg 1 [43, 3, 5, 23, 24, 25, 39, 40, 41] [0 ≤ v15 ∧ v15 < ([(t0.Rules.getD v9.toNat zS_Rule).From, (t0.Rules.getD v9.toNat zS_Rule).To, IntKind.wrap .i64 ((t0.Rules.getD v9.toNat zS_Rule).Left), IntKind.wrap .i64 ((t0.Rules.getD v9.toNat zS_Rule).Right)].length : Int)] [(43, .ipt ([(t0.Rules.getD v9.toNat zS_Rule).From, (t0.Rules.getD v9.toNat zS_Rule).To, IntKind.wrap .i64 ((t0.Rules.getD v9.toNat zS_Rule).Left), IntKind.wrap .i64 ((t0.Rules.getD v9.toNat zS_Rule).Right)].flatMap (eI .i64)) (v15.toNat * 1)), (3, .ref 3 0 0), (5, .ref 5 0 0), (23, slA eS_Rule t0.Rules), (24, .int .i64 (t0.Rules.length : Int)), (25, .int .i64 v9), (39, slA (eI .i64) [(t0.Rules.getD v9.toNat zS_Rule).From, (t0.Rules.getD v9.toNat zS_Rule).To, IntKind.wrap .i64 ((t0.Rules.getD v9.toNat zS_Rule).Left), IntKind.wrap .i64 ((t0.Rules.getD v9.toNat zS_Rule).Right)]), (40, .int .i64 ([(t0.Rules.getD v9.toNat zS_Rule).From, (t0.Rules.getD v9.toNat zS_Rule).To, IntKind.wrap .i64 ((t0.Rules.getD v9.toNat zS_Rule).Left), IntKind.wrap .i64 ((t0.Rules.getD v9.toNat zS_Rule).Right)].length : Int)), (41, .int .i64 v15)] (by kernel_rfl) ⟨g18, trivial⟩ ?_
      refine OpsW.asU (.int .i64 ([(t0.Rules.getD v9.toNat zS_Rule).From, (t0.Rules.getD v9.toNat zS_Rule).To, IntKind.wrap .i64 ((t0.Rules.getD v9.toNat zS_Rule).Left), IntKind.wrap .i64 ((t0.Rules.getD v9.toNat zS_Rule).Right)].getD v15.toNat (0 : Int))) rfl rfl (T.load rfl trivial (by kernel_rfl) (fm_cell0 (eI .i64) 1 (fun _ => rfl) [(t0.Rules.getD v9.toNat zS_Rule).From, (t0.Rules.getD v9.toNat zS_Rule).To, IntKind.wrap .i64 ((t0.Rules.getD v9.toNat zS_Rule).Left), IntKind.wrap .i64 ((t0.Rules.getD v9.toNat zS_Rule).Right)] (0 : Int) v15.toNat (ltN g18) (fun a => .val (.int .i64 a)) (fun _ => rfl))) ?_
      refine OpsW.seg 1 [7, 3, 5, 23, 24, 25, 39, 40, 41] [] [(7, .int .i64 ([(t0.Rules.getD v9.toNat zS_Rule).From, (t0.Rules.getD v9.toNat zS_Rule).To, IntKind.wrap .i64 ((t0.Rules.getD v9.toNat zS_Rule).Left), IntKind.wrap .i64 ((t0.Rules.getD v9.toNat zS_Rule).Right)].getD v15.toNat (0 : Int))), (3, .ref 3 0 0), (5, .ref 5 0 0), (23, slA eS_Rule t0.Rules), (24, .int .i64 (t0.Rules.length : Int)), (25, .int .i64 v9), (39, slA (eI .i64) [(t0.Rules.getD v9.toNat zS_Rule).From, (t0.Rules.getD v9.toNat zS_Rule).To, IntKind.wrap .i64 ((t0.Rules.getD v9.toNat zS_Rule).Left), IntKind.wrap .i64 ((t0.Rules.getD v9.toNat zS_Rule).Right)]), (40, .int .i64 ([(t0.Rules.getD v9.toNat zS_Rule).From, (t0.Rules.getD v9.toNat zS_Rule).To, IntKind.wrap .i64 ((t0.Rules.getD v9.toNat zS_Rule).Left), IntKind.wrap .i64 ((t0.Rules.getD v9.toNat zS_Rule).Right)].length : Int)), (41, .int .i64 v15)] (by kernel_rfl) trivial ?_
      refine OpsW.nil ?_
      refine AW.region ?_
      refine OpsW.seg 1 [45, 3, 5, 23, 24, 25, 39, 40, 41] [] [(45, .int .i64 ([(t0.Rules.getD v9.toNat zS_Rule).From, (t0.Rules.getD v9.toNat zS_Rule).To, IntKind.wrap .i64 ((t0.Rules.getD v9.toNat zS_Rule).Left), IntKind.wrap .i64 ((t0.Rules.getD v9.toNat zS_Rule).Right)].getD v15.toNat (0 : Int))), (3, .ref 3 0 0), (5, .ref 5 0 0), (23, slA eS_Rule t0.Rules), (24, .int .i64 (t0.Rules.length : Int)), (25, .int .i64 v9), (39, slA (eI .i64) [(t0.Rules.getD v9.toNat zS_Rule).From, (t0.Rules.getD v9.toNat zS_Rule).To, IntKind.wrap .i64 ((t0.Rules.getD v9.toNat zS_Rule).Left), IntKind.wrap .i64 ((t0.Rules.getD v9.toNat zS_Rule).Right)]), (40, .int .i64 ([(t0.Rules.getD v9.toNat zS_Rule).From, (t0.Rules.getD v9.toNat zS_Rule).To, IntKind.wrap .i64 ((t0.Rules.getD v9.toNat zS_Rule).Left), IntKind.wrap .i64 ((t0.Rules.getD v9.toNat zS_Rule).Right)].length : Int)), (41, .int .i64 v15)] (by kernel_rfl) trivial ?_
      obtain ⟨x19, hx19, H⟩ := bindS H
      refine OpsW.qcall rfl (by kernel_rfl) rfl rfl (glAll_sound trivial) (.cons (.pur rfl) .nil) (f_strconv_Itoa_ok hx19) rfl ?_
      obtain ⟨g20, H⟩ := G_some H
      refine OpsW.seg 1 [47, 3, 5, 23, 24, 25, 39, 40, 41] [x19.size + (⟨#[32]⟩ : ByteArray).size ≤ 9223372036854775807] [(47, .string (x19 ++ (⟨#[32]⟩ : ByteArray))), (3, .ref 3 0 0), (5, .ref 5 0 0), (23, slA eS_Rule t0.Rules), (24, .int .i64 (t0.Rules.length : Int)), (25, .int .i64 v9), (39, slA (eI .i64) [(t0.Rules.getD v9.toNat zS_Rule).From, (t0.Rules.getD v9.toNat zS_Rule).To, IntKind.wrap .i64 ((t0.Rules.getD v9.toNat zS_Rule).Left), IntKind.wrap .i64 ((t0.Rules.getD v9.toNat zS_Rule).Right)]), (40, .int .i64 ([(t0.Rules.getD v9.toNat zS_Rule).From, (t0.Rules.getD v9.toNat zS_Rule).To, IntKind.wrap .i64 ((t0.Rules.getD v9.toNat zS_Rule).Left), IntKind.wrap .i64 ((t0.Rules.getD v9.toNat zS_Rule).Right)].length : Int)), (41, .int .i64 v15)] (by kernel_rfl) ⟨g20, trivial⟩ ?_
      refine OpsW.recast (env' := [(47, .string (x19 ++ (⟨#[32]⟩ : ByteArray))), (3, .ref 3 0 0), (5, .ref 5 0 0), (23, slA eS_Rule t0.Rules), (24, .int .i64 (t0.Rules.length : Int)), (25, .int .i64 v9), (39, slA (eI .i64) [(t0.Rules.getD v9.toNat zS_Rule).From, (t0.Rules.getD v9.toNat zS_Rule).To, IntKind.wrap .i64 ((t0.Rules.getD v9.toNat zS_Rule).Left), IntKind.wrap .i64 ((t0.Rules.getD v9.toNat zS_Rule).Right)]), (40, .int .i64 ([(t0.Rules.getD v9.toNat zS_Rule).From, (t0.Rules.getD v9.toNat zS_Rule).To, IntKind.wrap .i64 ((t0.Rules.getD v9.toNat zS_Rule).Left), IntKind.wrap .i64 ((t0.Rules.getD v9.toNat zS_Rule).Right)].length : Int)), (41, .int .i64 v15)]) (h' := [(3, ⟨0, true, 66, 2, [.ref 3 0 0, .rsl 5030 0 0 v13.length]⟩), (5030, rtA 0 5 1 (eI .u8) v13), (5, ⟨0, true, 36, 6, [.string v14.Print, slA (eI .u8) v14.Cells, .int .u8 v14.Left, .int .u8 v14.Right, .int .i64 v14.From, .int .i64 v14.To]⟩)]) (StC.mk (phi [(3, some 3), (5030, some 5030), (5, some 5)]) (.old rfl rfl rfl rfl rfl (.cons (.ref rfl rfl rfl rfl rfl) (.cons (.rsl rfl rfl rfl rfl rfl rfl) .nil)) (.old rfl rfl rfl rfl rfl (CstL.ims _) (.old rfl rfl rfl rfl rfl (.cons .im (.cons .im (.cons .im (.cons .im (.cons .im (.cons .im .nil)))))) .nil))) rfl (.cons .im (.cons (.ref rfl rfl rfl rfl rfl) (.cons (.ref rfl rfl rfl rfl rfl) (.cons .im (.cons .im (.cons .im (.cons .im (.cons .im (.cons .im .nil)))))))))) ?_
      obtain ⟨x21, hx21, H⟩ := bindS H
      change OpsW _ _ _ _ [(47, .string (x19 ++ (⟨#[32]⟩ : ByteArray))), (3, .ref 3 0 0), (5, .ref 5 0 0), (23, slA eS_Rule t0.Rules), (24, .int .i64 (t0.Rules.length : Int)), (25, .int .i64 v9), (39, slA (eI .i64) [(t0.Rules.getD v9.toNat zS_Rule).From, (t0.Rules.getD v9.toNat zS_Rule).To, IntKind.wrap .i64 ((t0.Rules.getD v9.toNat zS_Rule).Left), IntKind.wrap .i64 ((t0.Rules.getD v9.toNat zS_Rule).Right)]), (40, .int .i64 ([(t0.Rules.getD v9.toNat zS_Rule).From, (t0.Rules.getD v9.toNat zS_Rule).To, IntKind.wrap .i64 ((t0.Rules.getD v9.toNat zS_Rule).Left), IntKind.wrap .i64 ((t0.Rules.getD v9.toNat zS_Rule).Right)].length : Int)), (41, .int .i64 v15)] ([(3, ⟨0, true, 66, 2, [.ref 3 0 0, .rsl 5030 0 0 v13.length]⟩), (5030, rtA 0 5 1 (eI .u8) v13)] ++ [(5, ⟨0, true, 36, 6, [.string v14.Print, slA (eI .u8) v14.Cells, .int .u8 v14.Left, .int .u8 v14.Right, .int .i64 v14.From, .int .i64 v14.To]⟩)]) _
      refine OpsW.callR [(3, ⟨0, true, 66, 2, [.ref 3 0 0, .rsl 5030 0 0 v13.length]⟩), (5030, rtA 0 5 1 (eI .u8) v13)] [(5, ⟨0, true, 36, 6, [.string v14.Print, slA (eI .u8) v14.Cells, .int .u8 v14.Left, .int .u8 v14.Right, .int .i64 v14.From, .int .i64 v14.To]⟩)] [(2030, ⟨0, true, 66, 2, [.ref 2030 0 0, .rsl 3030 0 0 v13.length]⟩), (3030, rtA 0 5 1 (eI .u8) v13)] (phi [(2030, some 3), (3030, some 5030)]) rfl rfl (by kernel_rfl) [.ref 2030 0 0, .string (x19 ++ (⟨#[32]⟩ : ByteArray))] _ rfl (glAll_sound trivial) (.cons (.ref rfl rfl rfl rfl rfl) (.cons .im .nil)) (f_strings_Builder_WriteString_io hx21) (fresh_of (by kernel_rfl)) (by kernel_rfl) (.cons rfl rfl rfl rfl rfl (.cons (.ref rfl rfl rfl rfl rfl) (.cons (.rsl rfl rfl rfl rfl rfl rfl) .nil)) (.cons rfl rfl rfl rfl rfl (RnL.ims _) .nil)) ?_
      rintro _ _ ⟨rfl, rfl⟩
      refine ⟨.tup [.int .i64 x21.1, .any], [(3, ⟨0, true, 66, 2, [.ref 3 0 0, .rsl 5030 1 0 x21.2.2.length]⟩), (5030, rtA 1 5 1 (eI .u8) x21.2.2)], phi [(3, some 2030), (5030, some 3030)], fresh_of (by kernel_rfl), by kernel_rfl, by kernel_rfl, (.cons rfl rfl rfl rfl rfl (.cons (.ref rfl rfl rfl rfl rfl) (.cons (.rsl rfl rfl rfl rfl rfl rfl) .nil)) (.cons rfl rfl rfl rfl rfl (RnL.ims _) .nil)), (.tup (.cons .im (.cons .any .nil)) .nil), ?_⟩
      change OpsW _ _ _ _ [(48, .tup [.int .i64 x21.1, .any]), (47, .string (x19 ++ (⟨#[32]⟩ : ByteArray))), (3, .ref 3 0 0), (5, .ref 5 0 0), (23, slA eS_Rule t0.Rules), (24, .int .i64 (t0.Rules.length : Int)), (25, .int .i64 v9), (39, slA (eI .i64) [(t0.Rules.getD v9.toNat zS_Rule).From, (t0.Rules.getD v9.toNat zS_Rule).To, IntKind.wrap .i64 ((t0.Rules.getD v9.toNat zS_Rule).Left), IntKind.wrap .i64 ((t0.Rules.getD v9.toNat zS_Rule).Right)]), (40, .int .i64 ([(t0.Rules.getD v9.toNat zS_Rule).From, (t0.Rules.getD v9.toNat zS_Rule).To, IntKind.wrap .i64 ((t0.Rules.getD v9.toNat zS_Rule).Left), IntKind.wrap .i64 ((t0.Rules.getD v9.toNat zS_Rule).Right)].length : Int)), (41, .int .i64 v15)] [(3, ⟨0, true, 66, 2, [.ref 3 0 0, .rsl 5030 1 0 x21.2.2.length]⟩), (5030, rtA 1 5 1 (eI .u8) x21.2.2), (5, ⟨0, true, 36, 6, [.string v14.Print, slA (eI .u8) v14.Cells, .int .u8 v14.Left, .int .u8 v14.Right, .int .i64 v14.From, .int .i64 v14.To]⟩)] _
      refine OpsW.seg 0 [3, 5, 23, 24, 25, 39, 40, 41] [] [(3, .ref 3 0 0), (5, .ref 5 0 0), (23, slA eS_Rule t0.Rules), (24, .int .i64 (t0.Rules.length : Int)), (25, .int .i64 v9), (39, slA (eI .i64) [(t0.Rules.getD v9.toNat zS_Rule).From, (t0.Rules.getD v9.toNat zS_Rule).To, IntKind.wrap .i64 ((t0.Rules.getD v9.toNat zS_Rule).Left), IntKind.wrap .i64 ((t0.Rules.getD v9.toNat zS_Rule).Right)]), (40, .int .i64 ([(t0.Rules.getD v9.toNat zS_Rule).From, (t0.Rules.getD v9.toNat zS_Rule).To, IntKind.wrap .i64 ((t0.Rules.getD v9.toNat zS_Rule).Left), IntKind.wrap .i64 ((t0.Rules.getD v9.toNat zS_Rule).Right)].length : Int)), (41, .int .i64 v15)] (by kernel_rfl) trivial ?_
      refine OpsW.recast (env' := [(3, .ref 3 0 0), (5, .ref 5 0 0), (23, slA eS_Rule t0.Rules), (24, .int .i64 (t0.Rules.length : Int)), (25, .int .i64 v9), (39, slA (eI .i64) [(t0.Rules.getD v9.toNat zS_Rule).From, (t0.Rules.getD v9.toNat zS_Rule).To, IntKind.wrap .i64 ((t0.Rules.getD v9.toNat zS_Rule).Left), IntKind.wrap .i64 ((t0.Rules.getD v9.toNat zS_Rule).Right)]), (40, .int .i64 ([(t0.Rules.getD v9.toNat zS_Rule).From, (t0.Rules.getD v9.toNat zS_Rule).To, IntKind.wrap .i64 ((t0.Rules.getD v9.toNat zS_Rule).Left), IntKind.wrap .i64 ((t0.Rules.getD v9.toNat zS_Rule).Right)].length : Int)), (41, .int .i64 v15)]) (h' := [(3, ⟨0, true, 66, 2, [.ref 3 0 0, .rsl 5030 0 0 x21.2.2.length]⟩), (5, ⟨0, true, 36, 6, [.string v14.Print, slA (eI .u8) v14.Cells, .int .u8 v14.Left, .int .u8 v14.Right, .int .i64 v14.From, .int .i64 v14.To]⟩), (5030, rtA 0 5 1 (eI .u8) x21.2.2)]) (StC.mk (phi [(3, some 3), (5, some 5), (5030, some 5030)]) (.old rfl rfl rfl rfl rfl (.cons (.ref rfl rfl rfl rfl rfl) (.cons (.rsl rfl rfl rfl rfl rfl rfl) .nil)) (.old rfl rfl rfl rfl rfl (.cons .im (.cons .im (.cons .im (.cons .im (.cons .im (.cons .im .nil)))))) (.old rfl rfl rfl rfl rfl (CstL.ims _) .nil))) rfl (.cons (.ref rfl rfl rfl rfl rfl) (.cons (.ref rfl rfl rfl rfl rfl) (.cons .im (.cons .im (.cons .im (.cons .im (.cons .im (.cons .im .nil))))))))) ?_
      refine OpsW.nil ?_
      refine AW.region ?_
      obtain ⟨g22, H⟩ := G_some H
      refine OpsW.seg 2 [41, 3, 5, 23, 24, 25, 39, 40] [inR (v15 + (1 : Int))] [(41, .int .i64 (v15 + (1 : Int))), (3, .ref 3 0 0), (5, .ref 5 0 0), (23, slA eS_Rule t0.Rules), (24, .int .i64 (t0.Rules.length : Int)), (25, .int .i64 v9), (39, slA (eI .i64) [(t0.Rules.getD v9.toNat zS_Rule).From, (t0.Rules.getD v9.toNat zS_Rule).To, IntKind.wrap .i64 ((t0.Rules.getD v9.toNat zS_Rule).Left), IntKind.wrap .i64 ((t0.Rules.getD v9.toNat zS_Rule).Right)]), (40, .int .i64 ([(t0.Rules.getD v9.toNat zS_Rule).From, (t0.Rules.getD v9.toNat zS_Rule).To, IntKind.wrap .i64 ((t0.Rules.getD v9.toNat zS_Rule).Left), IntKind.wrap .i64 ((t0.Rules.getD v9.toNat zS_Rule).Right)].length : Int))] (by kernel_rfl) ⟨g22, trivial⟩ ?_
      refine OpsW.nil ?_
      show ∃ y, _ ∧ StC _ _ _ _
      exact ⟨(x21.2.2, v14, v15 + (1 : Int)), H, (StC.mk (phi [(3, some 3), (5030, some 5030), (5, some 5)]) (.old rfl rfl rfl rfl rfl (.cons (.ref rfl rfl rfl rfl rfl) (.cons (.rsl rfl rfl rfl rfl rfl rfl) .nil)) (.old rfl rfl rfl rfl rfl (CstL.ims _) (.old rfl rfl rfl rfl rfl (.cons .im (.cons .im (.cons .im (.cons .im (.cons .im (.cons .im .nil)))))) .nil))) rfl (.cons (.ref rfl rfl rfl rfl rfl) (.cons (.ref rfl rfl rfl rfl rfl) (.cons .im (.cons .im (.cons .im (.cons .im (.cons .im (.cons .im .nil)))))))))⟩
    · replace H := condF c17 H
      refine AW.exit ?_
      refine AW.seq ?_
      refine AW.regionSeq ?_
      refine OpsW.seg 4 [53, 52, 51, 3, 5, 23, 24, 25] [] [(53, .int .i64 0), (52, .int .i64 (v14.Cells.length : Int)), (51, slA (eI .u8) v14.Cells), (3, .ref 3 0 0), (5, .ref 5 0 0), (23, slA eS_Rule t0.Rules), (24, .int .i64 (t0.Rules.length : Int)), (25, .int .i64 v9)] (by kernel_rfl) trivial ?_
      refine OpsW.nil ?_
      refine AW.block ?_
      refine AW.iterK (fun loop (s : (List Int) × S_Rule × Int) => f_table_Format_b1 loop10 v9 v14 loop s.1 s.2.1 s.2.2) r (fun (s : (List Int) × S_Rule × Int) => [(3, .ref 3 0 0), (5, .ref 5 0 0), (23, slA eS_Rule t0.Rules), (24, .int .i64 (t0.Rules.length : Int)), (25, .int .i64 v9), (51, slA (eI .u8) v14.Cells), (52, .int .i64 (v14.Cells.length : Int)), (53, .int .i64 s.2.2)]) (fun (s : (List Int) × S_Rule × Int) => [(3, ⟨0, true, 66, 2, [.ref 3 0 0, .rsl 5030 0 0 s.1.length]⟩), (5030, rtA 0 5 1 (eI .u8) s.1), (5, ⟨0, true, 36, 6, [.string s.2.1.Print, slA (eI .u8) s.2.1.Cells, .int .u8 s.2.1.Left, .int .u8 s.2.1.Right, .int .i64 s.2.1.From, .int .i64 s.2.1.To]⟩)]) ?_ 1000000 (v13, v14, (0 : Int)) H (StC.mk (phi [(3, some 3), (5030, some 5030), (5, some 5)]) (.old rfl rfl rfl rfl rfl (.cons (.ref rfl rfl rfl rfl rfl) (.cons (.rsl rfl rfl rfl rfl rfl rfl) .nil)) (.old rfl rfl rfl rfl rfl (CstL.ims _) (.old rfl rfl rfl rfl rfl (.cons .im (.cons .im (.cons .im (.cons .im (.cons .im (.cons .im .nil)))))) .nil))) rfl (.cons (.ref rfl rfl rfl rfl rfl) (.cons (.ref rfl rfl rfl rfl rfl) (.cons .im (.cons .im (.cons .im (.cons .im (.cons .im (.cons .im .nil)))))))))
      intro loop26 s H
      obtain ⟨v23, v24, v25⟩ := s
      change f_table_Format_b1 loop10 v9 v14 loop26 v23 v24 v25 = some r at H
      unfold f_table_Format_b1 at H
      change AW _ _ _ [(3, .ref 3 0 0), (5, .ref 5 0 0), (23, slA eS_Rule t0.Rules), (24, .int .i64 (t0.Rules.length : Int)), (25, .int .i64 v9), (51, slA (eI .u8) v14.Cells), (52, .int .i64 (v14.Cells.length : Int)), (53, .int .i64 v25)] [(3, ⟨0, true, 66, 2, [.ref 3 0 0, .rsl 5030 0 0 v23.length]⟩), (5030, rtA 0 5 1 (eI .u8) v23), (5, ⟨0, true, 36, 6, [.string v24.Print, slA (eI .u8) v24.Cells, .int .u8 v24.Left, .int .u8 v24.Right, .int .i64 v24.From, .int .i64 v24.To]⟩)] _
      refine AW.regionSeq ?_
      refine OpsW.seg 1 [54, 3, 5, 23, 24, 25, 51, 52, 53] [] [(54, .bool (decide (v25 < (v14.Cells.length : Int)))), (3, .ref 3 0 0), (5, .ref 5 0 0), (23, slA eS_Rule t0.Rules), (24, .int .i64 (t0.Rules.length : Int)), (25, .int .i64 v9), (51, slA (eI .u8) v14.Cells), (52, .int .i64 (v14.Cells.length : Int)), (53, .int .i64 v25)] (by kernel_rfl) trivial ?_
      refine OpsW.nil ?_
      refine AW.seq ?_
      refine AW.cond (b := decide (v25 < (v14.Cells.length : Int))) rfl (fun c27 => ?_) (fun c27 => ?_)
      · replace H := condT c27 H
        refine AW.skip ?_
        refine AW.joinK (fun (y : (List Int) × S_Rule) => f_table_Format_k1 loop26 v25 y.1 y.2) r (fun (y : (List Int) × S_Rule) => [(3, .ref 3 0 0), (5, .ref 5 0 0), (23, slA eS_Rule t0.Rules), (24, .int .i64 (t0.Rules.length : Int)), (25, .int .i64 v9), (51, slA (eI .u8) v14.Cells), (52, .int .i64 (v14.Cells.length : Int)), (53, .int .i64 v25)]) (fun (y : (List Int) × S_Rule) => [(3, ⟨0, true, 66, 2, [.ref 3 0 0, .rsl 5030 0 0 y.1.length]⟩), (5030, rtA 0 5 1 (eI .u8) y.1), (5, ⟨0, true, 36, 6, [.string y.2.Print, slA (eI .u8) y.2.Cells, .int .u8 y.2.Left, .int .u8 y.2.Right, .int .i64 y.2.From, .int .i64 y.2.To]⟩)]) ?_ ?_
        · refine AW.block ?_
          refine AW.regionSeq ?_
          obtain ⟨g31, H⟩ := G_some H
          refine OpsW.seg 2 [56, 55, 3, 5, 23, 24, 25, 51, 52, 53] [0 ≤ v25 ∧ v25 < (v14.Cells.length : Int)] [(56, .ipt (v14.Cells.flatMap (eI .u8)) (v25.toNat * 1)), (55, .int .i64 v25), (3, .ref 3 0 0), (5, .ref 5 0 0), (23, slA eS_Rule t0.Rules), (24, .int .i64 (t0.Rules.length : Int)), (25, .int .i64 v9), (51, slA (eI .u8) v14.Cells), (52, .int .i64 (v14.Cells.length : Int)), (53, .int .i64 v25)] (by kernel_rfl) ⟨g31, trivial⟩ ?_
          refine OpsW.asU (.int .u8 (v14.Cells.getD v25.toNat (0 : Int))) rfl rfl (T.load rfl trivial (by kernel_rfl) (fm_cell0 (eI .u8) 1 (fun _ => rfl) v14.Cells (0 : Int) v25.toNat (ltN g31) (fun a => .val (.int .u8 a)) (fun _ => rfl))) ?_
          refine OpsW.seg 2 [9, 8, 3, 5, 23, 24, 25, 51, 52, 53] [] [(9, .int .u8 (v14.Cells.getD v25.toNat (0 : Int))), (8, .int .i64 v25), (3, .ref 3 0 0), (5, .ref 5 0 0), (23, slA eS_Rule t0.Rules), (24, .int .i64 (t0.Rules.length : Int)), (25, .int .i64 v9), (51, slA (eI .u8) v14.Cells), (52, .int .i64 (v14.Cells.length : Int)), (53, .int .i64 v25)] (by kernel_rfl) trivial ?_
          refine OpsW.nil ?_
          refine AW.joinK (fun (y : (List Int) × S_Rule) => f_table_Format_k2 v14 loop26 v25 y.1 y.2) r (fun (y : (List Int) × S_Rule) => [(3, .ref 3 0 0), (5, .ref 5 0 0), (9, .int .u8 (v14.Cells.getD v25.toNat (0 : Int))), (23, slA eS_Rule t0.Rules), (24, .int .i64 (t0.Rules.length : Int)), (25, .int .i64 v9), (51, slA (eI .u8) v14.Cells), (52, .int .i64 (v14.Cells.length : Int)), (53, .int .i64 v25)]) (fun (y : (List Int) × S_Rule) => [(3, ⟨0, true, 66, 2, [.ref 3 0 0, .rsl 5030 0 0 y.1.length]⟩), (5030, rtA 0 5 1 (eI .u8) y.1), (5, ⟨0, true, 36, 6, [.string y.2.Print, slA (eI .u8) y.2.Cells, .int .u8 y.2.Left, .int .u8 y.2.Right, .int .i64 y.2.From, .int .i64 y.2.To]⟩)]) ?_ ?_
          · refine AW.regionSeq ?_
            refine OpsW.seg 2 [59, 9, 3, 5, 23, 24, 25, 51, 52, 53] [] [(59, .bool (decide ((0 : Int) < v25))), (9, .int .u8 (v14.Cells.getD v25.toNat (0 : Int))), (3, .ref 3 0 0), (5, .ref 5 0 0), (23, slA eS_Rule t0.Rules), (24, .int .i64 (t0.Rules.length : Int)), (25, .int .i64 v9), (51, slA (eI .u8) v14.Cells), (52, .int .i64 (v14.Cells.length : Int)), (53, .int .i64 v25)] (by kernel_rfl) trivial ?_
            refine OpsW.nil ?_
            refine AW.cond (b := decide ((0 : Int) < v25)) rfl (fun c36 => ?_) (fun c36 => ?_)
            · replace H := condT c36 H
              refine AW.region ?_
              refine OpsW.recast (env' := [(59, .bool (decide ((0 : Int) < v25))), (9, .int .u8 (v14.Cells.getD v25.toNat (0 : Int))), (3, .ref 3 0 0), (5, .ref 5 0 0), (23, slA eS_Rule t0.Rules), (24, .int .i64 (t0.Rules.length : Int)), (25, .int .i64 v9), (51, slA (eI .u8) v14.Cells), (52, .int .i64 (v14.Cells.length : Int)), (53, .int .i64 v25)]) (h' := [(3, ⟨0, true, 66, 2, [.ref 3 0 0, .rsl 5030 0 0 v23.length]⟩), (5030, rtA 0 5 1 (eI .u8) v23), (5, ⟨0, true, 36, 6, [.string v24.Print, slA (eI .u8) v24.Cells, .int .u8 v24.Left, .int .u8 v24.Right, .int .i64 v24.From, .int .i64 v24.To]⟩)]) (StC.mk (phi [(3, some 3), (5030, some 5030), (5, some 5)]) (.old rfl rfl rfl rfl rfl (.cons (.ref rfl rfl rfl rfl rfl) (.cons (.rsl rfl rfl rfl rfl rfl rfl) .nil)) (.old rfl rfl rfl rfl rfl (CstL.ims _) (.old rfl rfl rfl rfl rfl (.cons .im (.cons .im (.cons .im (.cons .im (.cons .im (.cons .im .nil)))))) .nil))) rfl (.cons .im (.cons .im (.cons (.ref rfl rfl rfl rfl rfl) (.cons (.ref rfl rfl rfl rfl rfl) (.cons .im (.cons .im (.cons .im (.cons .im (.cons .im (.cons .im .nil))))))))))) ?_
              obtain ⟨x37, hx37, H⟩ := bindS H
              change OpsW _ _ _ _ [(59, .bool (decide ((0 : Int) < v25))), (9, .int .u8 (v14.Cells.getD v25.toNat (0 : Int))), (3, .ref 3 0 0), (5, .ref 5 0 0), (23, slA eS_Rule t0.Rules), (24, .int .i64 (t0.Rules.length : Int)), (25, .int .i64 v9), (51, slA (eI .u8) v14.Cells), (52, .int .i64 (v14.Cells.length : Int)), (53, .int .i64 v25)] ([(3, ⟨0, true, 66, 2, [.ref 3 0 0, .rsl 5030 0 0 v23.length]⟩), (5030, rtA 0 5 1 (eI .u8) v23)] ++ [(5, ⟨0, true, 36, 6, [.string v24.Print, slA (eI .u8) v24.Cells, .int .u8 v24.Left, .int .u8 v24.Right, .int .i64 v24.From, .int .i64 v24.To]⟩)]) _
              refine OpsW.callR [(3, ⟨0, true, 66, 2, [.ref 3 0 0, .rsl 5030 0 0 v23.length]⟩), (5030, rtA 0 5 1 (eI .u8) v23)] [(5, ⟨0, true, 36, 6, [.string v24.Print, slA (eI .u8) v24.Cells, .int .u8 v24.Left, .int .u8 v24.Right, .int .i64 v24.From, .int .i64 v24.To]⟩)] [(2030, ⟨0, true, 66, 2, [.ref 2030 0 0, .rsl 3030 0 0 v23.length]⟩), (3030, rtA 0 5 1 (eI .u8) v23)] (phi [(2030, some 3), (3030, some 5030)]) rfl rfl (by kernel_rfl) [.ref 2030 0 0, .int .u8 45] _ rfl (glAll_sound trivial) (.cons (.ref rfl rfl rfl rfl rfl) (.cons .im .nil)) (f_strings_Builder_WriteByte_io hx37) (fresh_of (by kernel_rfl)) (by kernel_rfl) (.cons rfl rfl rfl rfl rfl (.cons (.ref rfl rfl rfl rfl rfl) (.cons (.rsl rfl rfl rfl rfl rfl rfl) .nil)) (.cons rfl rfl rfl rfl rfl (RnL.ims _) .nil)) ?_
              rintro _ _ ⟨rfl, rfl⟩
              refine ⟨.any, [(3, ⟨0, true, 66, 2, [.ref 3 0 0, .rsl 5030 1 0 x37.2.length]⟩), (5030, rtA 1 5 1 (eI .u8) x37.2)], phi [(3, some 2030), (5030, some 3030)], fresh_of (by kernel_rfl), by kernel_rfl, by kernel_rfl, (.cons rfl rfl rfl rfl rfl (.cons (.ref rfl rfl rfl rfl rfl) (.cons (.rsl rfl rfl rfl rfl rfl rfl) .nil)) (.cons rfl rfl rfl rfl rfl (RnL.ims _) .nil)), (.cons .any .nil), ?_⟩
              change OpsW _ _ _ _ [(60, .any), (59, .bool (decide ((0 : Int) < v25))), (9, .int .u8 (v14.Cells.getD v25.toNat (0 : Int))), (3, .ref 3 0 0), (5, .ref 5 0 0), (23, slA eS_Rule t0.Rules), (24, .int .i64 (t0.Rules.length : Int)), (25, .int .i64 v9), (51, slA (eI .u8) v14.Cells), (52, .int .i64 (v14.Cells.length : Int)), (53, .int .i64 v25)] [(3, ⟨0, true, 66, 2, [.ref 3 0 0, .rsl 5030 1 0 x37.2.length]⟩), (5030, rtA 1 5 1 (eI .u8) x37.2), (5, ⟨0, true, 36, 6, [.string v24.Print, slA (eI .u8) v24.Cells, .int .u8 v24.Left, .int .u8 v24.Right, .int .i64 v24.From, .int .i64 v24.To]⟩)] _
              refine OpsW.seg 0 [9, 3, 5, 23, 24, 25, 51, 52, 53] [] [(9, .int .u8 (v14.Cells.getD v25.toNat (0 : Int))), (3, .ref 3 0 0), (5, .ref 5 0 0), (23, slA eS_Rule t0.Rules), (24, .int .i64 (t0.Rules.length : Int)), (25, .int .i64 v9), (51, slA (eI .u8) v14.Cells), (52, .int .i64 (v14.Cells.length : Int)), (53, .int .i64 v25)] (by kernel_rfl) trivial ?_
              refine OpsW.recast (env' := [(9, .int .u8 (v14.Cells.getD v25.toNat (0 : Int))), (3, .ref 3 0 0), (5, .ref 5 0 0), (23, slA eS_Rule t0.Rules), (24, .int .i64 (t0.Rules.length : Int)), (25, .int .i64 v9), (51, slA (eI .u8) v14.Cells), (52, .int .i64 (v14.Cells.length : Int)), (53, .int .i64 v25)]) (h' := [(3, ⟨0, true, 66, 2, [.ref 3 0 0, .rsl 5030 0 0 x37.2.length]⟩), (5, ⟨0, true, 36, 6, [.string v24.Print, slA (eI .u8) v24.Cells, .int .u8 v24.Left, .int .u8 v24.Right, .int .i64 v24.From, .int .i64 v24.To]⟩), (5030, rtA 0 5 1 (eI .u8) x37.2)]) (StC.mk (phi [(3, some 3), (5, some 5), (5030, some 5030)]) (.old rfl rfl rfl rfl rfl (.cons (.ref rfl rfl rfl rfl rfl) (.cons (.rsl rfl rfl rfl rfl rfl rfl) .nil)) (.old rfl rfl rfl rfl rfl (.cons .im (.cons .im (.cons .im (.cons .im (.cons .im (.cons .im .nil)))))) (.old rfl rfl rfl rfl rfl (CstL.ims _) .nil))) rfl (.cons .im (.cons (.ref rfl rfl rfl rfl rfl) (.cons (.ref rfl rfl rfl rfl rfl) (.cons .im (.cons .im (.cons .im (.cons .im (.cons .im (.cons .im .nil)))))))))) ?_
              refine OpsW.nil ?_
              show ∃ y, _ ∧ StC _ _ _ _
              exact ⟨(x37.2, v24), H, (StC.mk (phi [(3, some 3), (5030, some 5030), (5, some 5)]) (.old rfl rfl rfl rfl rfl (.cons (.ref rfl rfl rfl rfl rfl) (.cons (.rsl rfl rfl rfl rfl rfl rfl) .nil)) (.old rfl rfl rfl rfl rfl (CstL.ims _) (.old rfl rfl rfl rfl rfl (.cons .im (.cons .im (.cons .im (.cons .im (.cons .im (.cons .im .nil)))))) .nil))) rfl (.cons (.ref rfl rfl rfl rfl rfl) (.cons (.ref rfl rfl rfl rfl rfl) (.cons .im (.cons .im (.cons .im (.cons .im (.cons .im (.cons .im (.cons .im .nil))))))))))⟩
            · replace H := condF c36 H
              refine AW.skip ?_
              show ∃ y, _ ∧ StC _ _ _ _
              exact ⟨(v23, v24), H, (StC.mk (phi [(3, some 3), (5030, some 5030), (5, some 5)]) (.old rfl rfl rfl rfl rfl (.cons (.ref rfl rfl rfl rfl rfl) (.cons (.rsl rfl rfl rfl rfl rfl rfl) .nil)) (.old rfl rfl rfl rfl rfl (CstL.ims _) (.old rfl rfl rfl rfl rfl (.cons .im (.cons .im (.cons .im (.cons .im (.cons .im (.cons .im .nil)))))) .nil))) rfl (.cons (.ref rfl rfl rfl rfl rfl) (.cons (.ref rfl rfl rfl rfl rfl) (.cons .im (.cons .im (.cons .im (.cons .im (.cons .im (.cons .im (.cons .im .nil))))))))))⟩
          · rintro ⟨v32, v33⟩ H
            change f_table_Format_k2 v14 loop26 v25 v32 v33 = some r at H
            unfold f_table_Format_k2 at H
            change AW _ _ _ [(3, .ref 3 0 0), (5, .ref 5 0 0), (9, .int .u8 (v14.Cells.getD v25.toNat (0 : Int))), (23, slA eS_Rule t0.Rules), (24, .int .i64 (t0.Rules.length : Int)), (25, .int .i64 v9), (51, slA (eI .u8) v14.Cells), (52, .int .i64 (v14.Cells.length : Int)), (53, .int .i64 v25)] [(3, ⟨0, true, 66, 2, [.ref 3 0 0, .rsl 5030 0 0 v32.length]⟩), (5030, rtA 0 5 1 (eI .u8) v32), (5, ⟨0, true, 36, 6, [.string v33.Print, slA (eI .u8) v33.Cells, .int .u8 v33.Left, .int .u8 v33.Right, .int .i64 v33.From, .int .i64 v33.To]⟩)] _
            refine AW.region ?_
            refine OpsW.seg 1 [61, 3, 5, 23, 24, 25, 51, 52, 53] [] [(61, .int .u8 (v14.Cells.getD v25.toNat (0 : Int))), (3, .ref 3 0 0), (5, .ref 5 0 0), (23, slA eS_Rule t0.Rules), (24, .int .i64 (t0.Rules.length : Int)), (25, .int .i64 v9), (51, slA (eI .u8) v14.Cells), (52, .int .i64 (v14.Cells.length : Int)), (53, .int .i64 v25)] (by kernel_rfl) trivial ?_
            obtain ⟨x34, hx34, H⟩ := bindS H
            refine OpsW.qcall rfl (by kernel_rfl) rfl rfl (glAll_sound trivial) (.cons (.pur rfl) .nil) (f_cell_Dots_ok hx34) rfl ?_
            refine OpsW.recast (env' := [(62, .string x34), (61, .int .u8 (v14.Cells.getD v25.toNat (0 : Int))), (3, .ref 3 0 0), (5, .ref 5 0 0), (23, slA eS_Rule t0.Rules), (24, .int .i64 (t0.Rules.length : Int)), (25, .int .i64 v9), (51, slA (eI .u8) v14.Cells), (52, .int .i64 (v14.Cells.length : Int)), (53, .int .i64 v25)]) (h' := [(3, ⟨0, true, 66, 2, [.ref 3 0 0, .rsl 5030 0 0 v32.length]⟩), (5030, rtA 0 5 1 (eI .u8) v32), (5, ⟨0, true, 36, 6, [.string v33.Print, slA (eI .u8) v33.Cells, .int .u8 v33.Left, .int .u8 v33.Right, .int .i64 v33.From, .int .i64 v33.To]⟩)]) (StC.mk (phi [(3, some 3), (5030, some 5030), (5, some 5)]) (.old rfl rfl rfl rfl rfl (.cons (.ref rfl rfl rfl rfl rfl) (.cons (.rsl rfl rfl rfl rfl rfl rfl) .nil)) (.old rfl rfl rfl rfl rfl (CstL.ims _) (.old rfl rfl rfl rfl rfl (.cons .im (.cons .im (.cons .im (.cons .im (.cons .im (.cons .im .nil)))))) .nil))) rfl (.cons .im (.cons .im (.cons (.ref rfl rfl rfl rfl rfl) (.cons (.ref rfl rfl rfl rfl rfl) (.cons .im (.cons .im (.cons .im (.cons .im (.cons .im (.cons .im .nil))))))))))) ?_
            obtain ⟨x35, hx35, H⟩ := bindS H
            change OpsW _ _ _ _ [(62, .string x34), (61, .int .u8 (v14.Cells.getD v25.toNat (0 : Int))), (3, .ref 3 0 0), (5, .ref 5 0 0), (23, slA eS_Rule t0.Rules), (24, .int .i64 (t0.Rules.length : Int)), (25, .int .i64 v9), (51, slA (eI .u8) v14.Cells), (52, .int .i64 (v14.Cells.length : Int)), (53, .int .i64 v25)] ([(3, ⟨0, true, 66, 2, [.ref 3 0 0, .rsl 5030 0 0 v32.length]⟩), (5030, rtA 0 5 1 (eI .u8) v32)] ++ [(5, ⟨0, true, 36, 6, [.string v33.Print, slA (eI .u8) v33.Cells, .int .u8 v33.Left, .int .u8 v33.Right, .int .i64 v33.From, .int .i64 v33.To]⟩)]) _
            refine OpsW.callR [(3, ⟨0, true, 66, 2, [.ref 3 0 0, .rsl 5030 0 0 v32.length]⟩), (5030, rtA 0 5 1 (eI .u8) v32)] [(5, ⟨0, true, 36, 6, [.string v33.Print, slA (eI .u8) v33.Cells, .int .u8 v33.Left, .int .u8 v33.Right, .int .i64 v33.From, .int .i64 v33.To]⟩)] [(2030, ⟨0, true, 66, 2, [.ref 2030 0 0, .rsl 3030 0 0 v32.length]⟩), (3030, rtA 0 5 1 (eI .u8) v32)] (phi [(2030, some 3), (3030, some 5030)]) rfl rfl (by kernel_rfl) [.ref 2030 0 0, .string x34] _ rfl (glAll_sound trivial) (.cons (.ref rfl rfl rfl rfl rfl) (.cons .im .nil)) (f_strings_Builder_WriteString_io hx35) (fresh_of (by kernel_rfl)) (by kernel_rfl) (.cons rfl rfl rfl rfl rfl (.cons (.ref rfl rfl rfl rfl rfl) (.cons (.rsl rfl rfl rfl rfl rfl rfl) .nil)) (.cons rfl rfl rfl rfl rfl (RnL.ims _) .nil)) ?_
            rintro _ _ ⟨rfl, rfl⟩
            refine ⟨.tup [.int .i64 x35.1, .any], [(3, ⟨0, true, 66, 2, [.ref 3 0 0, .rsl 5030 1 0 x35.2.2.length]⟩), (5030, rtA 1 5 1 (eI .u8) x35.2.2)], phi [(3, some 2030), (5030, some 3030)], fresh_of (by kernel_rfl), by kernel_rfl, by kernel_rfl, (.cons rfl rfl rfl rfl rfl (.cons (.ref rfl rfl rfl rfl rfl) (.cons (.rsl rfl rfl rfl rfl rfl rfl) .nil)) (.cons rfl rfl rfl rfl rfl (RnL.ims _) .nil)), (.tup (.cons .im (.cons .any .nil)) .nil), ?_⟩
            change OpsW _ _ _ _ [(63, .tup [.int .i64 x35.1, .any]), (62, .string x34), (61, .int .u8 (v14.Cells.getD v25.toNat (0 : Int))), (3, .ref 3 0 0), (5, .ref 5 0 0), (23, slA eS_Rule t0.Rules), (24, .int .i64 (t0.Rules.length : Int)), (25, .int .i64 v9), (51, slA (eI .u8) v14.Cells), (52, .int .i64 (v14.Cells.length : Int)), (53, .int .i64 v25)] [(3, ⟨0, true, 66, 2, [.ref 3 0 0, .rsl 5030 1 0 x35.2.2.length]⟩), (5030, rtA 1 5 1 (eI .u8) x35.2.2), (5, ⟨0, true, 36, 6, [.string v33.Print, slA (eI .u8) v33.Cells, .int .u8 v33.Left, .int .u8 v33.Right, .int .i64 v33.From, .int .i64 v33.To]⟩)] _
            refine OpsW.seg 0 [3, 5, 23, 24, 25, 51, 52, 53] [] [(3, .ref 3 0 0), (5, .ref 5 0 0), (23, slA eS_Rule t0.Rules), (24, .int .i64 (t0.Rules.length : Int)), (25, .int .i64 v9), (51, slA (eI .u8) v14.Cells), (52, .int .i64 (v14.Cells.length : Int)), (53, .int .i64 v25)] (by kernel_rfl) trivial ?_
            refine OpsW.recast (env' := [(3, .ref 3 0 0), (5, .ref 5 0 0), (23, slA eS_Rule t0.Rules), (24, .int .i64 (t0.Rules.length : Int)), (25, .int .i64 v9), (51, slA (eI .u8) v14.Cells), (52, .int .i64 (v14.Cells.length : Int)), (53, .int .i64 v25)]) (h' := [(3, ⟨0, true, 66, 2, [.ref 3 0 0, .rsl 5030 0 0 x35.2.2.length]⟩), (5, ⟨0, true, 36, 6, [.string v33.Print, slA (eI .u8) v33.Cells, .int .u8 v33.Left, .int .u8 v33.Right, .int .i64 v33.From, .int .i64 v33.To]⟩), (5030, rtA 0 5 1 (eI .u8) x35.2.2)]) (StC.mk (phi [(3, some 3), (5, some 5), (5030, some 5030)]) (.old rfl rfl rfl rfl rfl (.cons (.ref rfl rfl rfl rfl rfl) (.cons (.rsl rfl rfl rfl rfl rfl rfl) .nil)) (.old rfl rfl rfl rfl rfl (.cons .im (.cons .im (.cons .im (.cons .im (.cons .im (.cons .im .nil)))))) (.old rfl rfl rfl rfl rfl (CstL.ims _) .nil))) rfl (.cons (.ref rfl rfl rfl rfl rfl) (.cons (.ref rfl rfl rfl rfl rfl) (.cons .im (.cons .im (.cons .im (.cons .im (.cons .im (.cons .im .nil))))))))) ?_
            refine OpsW.nil ?_
            show ∃ y, _ ∧ StC _ _ _ _
            exact ⟨(x35.2.2, v33), H, (StC.mk (phi [(3, some 3), (5030, some 5030), (5, some 5)]) (.old rfl rfl rfl rfl rfl (.cons (.ref rfl rfl rfl rfl rfl) (.cons (.rsl rfl rfl rfl rfl rfl rfl) .nil)) (.old rfl rfl rfl rfl rfl (CstL.ims _) (.old rfl rfl rfl rfl rfl (.cons .im (.cons .im (.cons .im (.cons .im (.cons .im (.cons .im .nil)))))) .nil))) rfl (.cons (.ref rfl rfl rfl rfl rfl) (.cons (.ref rfl rfl rfl rfl rfl) (.cons .im (.cons .im (.cons .im (.cons .im (.cons .im (.cons .im .nil)))))))))⟩
        · rintro ⟨v28, v29⟩ H
          change f_table_Format_k1 loop26 v25 v28 v29 = some r at H
          unfold f_table_Format_k1 at H
          change AW _ _ _ [(3, .ref 3 0 0), (5, .ref 5 0 0), (23, slA eS_Rule t0.Rules), (24, .int .i64 (t0.Rules.length : Int)), (25, .int .i64 v9), (51, slA (eI .u8) v14.Cells), (52, .int .i64 (v14.Cells.length : Int)), (53, .int .i64 v25)] [(3, ⟨0, true, 66, 2, [.ref 3 0 0, .rsl 5030 0 0 v28.length]⟩), (5030, rtA 0 5 1 (eI .u8) v28), (5, ⟨0, true, 36, 6, [.string v29.Print, slA (eI .u8) v29.Cells, .int .u8 v29.Left, .int .u8 v29.Right, .int .i64 v29.From, .int .i64 v29.To]⟩)] _
          refine AW.region ?_
          obtain ⟨g30, H⟩ := G_some H
          refine OpsW.seg 2 [53, 3, 5, 23, 24, 25, 51, 52] [inR (v25 + (1 : Int))] [(53, .int .i64 (v25 + (1 : Int))), (3, .ref 3 0 0), (5, .ref 5 0 0), (23, slA eS_Rule t0.Rules), (24, .int .i64 (t0.Rules.length : Int)), (25, .int .i64 v9), (51, slA (eI .u8) v14.Cells), (52, .int .i64 (v14.Cells.length : Int))] (by kernel_rfl) ⟨g30, trivial⟩ ?_
          refine OpsW.nil ?_
          show ∃ y, _ ∧ StC _ _ _ _
          exact ⟨(v28, v29, v25 + (1 : Int)), H, (StC.mk (phi [(3, some 3), (5030, some 5030), (5, some 5)]) (.old rfl rfl rfl rfl rfl (.cons (.ref rfl rfl rfl rfl rfl) (.cons (.rsl rfl rfl rfl rfl rfl rfl) .nil)) (.old rfl rfl rfl rfl rfl (CstL.ims _) (.old rfl rfl rfl rfl rfl (.cons .im (.cons .im (.cons .im (.cons .im (.cons .im (.cons .im .nil)))))) .nil))) rfl (.cons (.ref rfl rfl rfl rfl rfl) (.cons (.ref rfl rfl rfl rfl rfl) (.cons .im (.cons .im (.cons .im (.cons .im (.cons .im (.cons .im .nil)))))))))⟩
      · replace H := condF c27 H
        refine AW.exit ?_
        refine AW.region ?_
        refine OpsW.seg 2 [66, 3, 23, 24, 25] [] [(66, .string v24.Print), (3, .ref 3 0 0), (23, slA eS_Rule t0.Rules), (24, .int .i64 (t0.Rules.length : Int)), (25, .int .i64 v9)] (by kernel_rfl) trivial ?_
        obtain ⟨x38, hx38, H⟩ := bindS H
        refine OpsW.qcall rfl (by kernel_rfl) rfl rfl (glAll_sound trivial) (.cons (.pur rfl) .nil) (f_table_hex_ok hx38) rfl ?_
        obtain ⟨g39, H⟩ := G_some H
        obtain ⟨g40, H⟩ := G_some H
        refine OpsW.seg 2 [69, 3, 23, 24, 25] [(⟨#[32]⟩ : ByteArray).size + x38.size ≤ 9223372036854775807, ((⟨#[32]⟩ : ByteArray) ++ x38).size + (⟨#[10]⟩ : ByteArray).size ≤ 9223372036854775807] [(69, .string (((⟨#[32]⟩ : ByteArray) ++ x38) ++ (⟨#[10]⟩ : ByteArray))), (3, .ref 3 0 0), (23, slA eS_Rule t0.Rules), (24, .int .i64 (t0.Rules.length : Int)), (25, .int .i64 v9)] (by kernel_rfl) ⟨g39, g40, trivial⟩ ?_
        refine OpsW.recast (env' := [(69, .string (((⟨#[32]⟩ : ByteArray) ++ x38) ++ (⟨#[10]⟩ : ByteArray))), (3, .ref 3 0 0), (23, slA eS_Rule t0.Rules), (24, .int .i64 (t0.Rules.length : Int)), (25, .int .i64 v9)]) (h' := [(3, ⟨0, true, 66, 2, [.ref 3 0 0, .rsl 5030 0 0 v23.length]⟩), (5030, rtA 0 5 1 (eI .u8) v23), (5, ⟨0, true, 36, 6, [.string v24.Print, slA (eI .u8) v24.Cells, .int .u8 v24.Left, .int .u8 v24.Right, .int .i64 v24.From, .int .i64 v24.To]⟩)]) (StC.mk (phi [(3, some 3), (5030, some 5030), (5, some 5)]) (.old rfl rfl rfl rfl rfl (.cons (.ref rfl rfl rfl rfl rfl) (.cons (.rsl rfl rfl rfl rfl rfl rfl) .nil)) (.old rfl rfl rfl rfl rfl (CstL.ims _) (.old rfl rfl rfl rfl rfl (.cons .im (.cons .im (.cons .im (.cons .im (.cons .im (.cons .im .nil)))))) .nil))) rfl (.cons .im (.cons (.ref rfl rfl rfl rfl rfl) (.cons .im (.cons .im (.cons .im .nil)))))) ?_
        obtain ⟨x41, hx41, H⟩ := bindS H
        change OpsW _ _ _ _ [(69, .string (((⟨#[32]⟩ : ByteArray) ++ x38) ++ (⟨#[10]⟩ : ByteArray))), (3, .ref 3 0 0), (23, slA eS_Rule t0.Rules), (24, .int .i64 (t0.Rules.length : Int)), (25, .int .i64 v9)] ([(3, ⟨0, true, 66, 2, [.ref 3 0 0, .rsl 5030 0 0 v23.length]⟩), (5030, rtA 0 5 1 (eI .u8) v23)] ++ [(5, ⟨0, true, 36, 6, [.string v24.Print, slA (eI .u8) v24.Cells, .int .u8 v24.Left, .int .u8 v24.Right, .int .i64 v24.From, .int .i64 v24.To]⟩)]) _
        refine OpsW.callR [(3, ⟨0, true, 66, 2, [.ref 3 0 0, .rsl 5030 0 0 v23.length]⟩), (5030, rtA 0 5 1 (eI .u8) v23)] [(5, ⟨0, true, 36, 6, [.string v24.Print, slA (eI .u8) v24.Cells, .int .u8 v24.Left, .int .u8 v24.Right, .int .i64 v24.From, .int .i64 v24.To]⟩)] [(2030, ⟨0, true, 66, 2, [.ref 2030 0 0, .rsl 3030 0 0 v23.length]⟩), (3030, rtA 0 5 1 (eI .u8) v23)] (phi [(2030, some 3), (3030, some 5030)]) rfl rfl (by kernel_rfl) [.ref 2030 0 0, .string (((⟨#[32]⟩ : ByteArray) ++ x38) ++ (⟨#[10]⟩ : ByteArray))] _ rfl (glAll_sound trivial) (.cons (.ref rfl rfl rfl rfl rfl) (.cons .im .nil)) (f_strings_Builder_WriteString_io hx41) (fresh_of (by kernel_rfl)) (by kernel_rfl) (.cons rfl rfl rfl rfl rfl (.cons (.ref rfl rfl rfl rfl rfl) (.cons (.rsl rfl rfl rfl rfl rfl rfl) .nil)) (.cons rfl rfl rfl rfl rfl (RnL.ims _) .nil)) ?_
        rintro _ _ ⟨rfl, rfl⟩
        refine ⟨.tup [.int .i64 x41.1, .any], [(3, ⟨0, true, 66, 2, [.ref 3 0 0, .rsl 5030 1 0 x41.2.2.length]⟩), (5030, rtA 1 5 1 (eI .u8) x41.2.2)], phi [(3, some 2030), (5030, some 3030)], fresh_of (by kernel_rfl), by kernel_rfl, by kernel_rfl, (.cons rfl rfl rfl rfl rfl (.cons (.ref rfl rfl rfl rfl rfl) (.cons (.rsl rfl rfl rfl rfl rfl rfl) .nil)) (.cons rfl rfl rfl rfl rfl (RnL.ims _) .nil)), (.tup (.cons .im (.cons .any .nil)) .nil), ?_⟩
        change OpsW _ _ _ _ [(70, .tup [.int .i64 x41.1, .any]), (69, .string (((⟨#[32]⟩ : ByteArray) ++ x38) ++ (⟨#[10]⟩ : ByteArray))), (3, .ref 3 0 0), (23, slA eS_Rule t0.Rules), (24, .int .i64 (t0.Rules.length : Int)), (25, .int .i64 v9)] [(3, ⟨0, true, 66, 2, [.ref 3 0 0, .rsl 5030 1 0 x41.2.2.length]⟩), (5030, rtA 1 5 1 (eI .u8) x41.2.2), (5, ⟨0, true, 36, 6, [.string v24.Print, slA (eI .u8) v24.Cells, .int .u8 v24.Left, .int .u8 v24.Right, .int .i64 v24.From, .int .i64 v24.To]⟩)] _
        refine OpsW.seg 0 [3, 23, 24, 25] [] [(3, .ref 3 0 0), (23, slA eS_Rule t0.Rules), (24, .int .i64 (t0.Rules.length : Int)), (25, .int .i64 v9)] (by kernel_rfl) trivial ?_
        refine OpsW.recast (env' := [(3, .ref 3 0 0), (23, slA eS_Rule t0.Rules), (24, .int .i64 (t0.Rules.length : Int)), (25, .int .i64 v9)]) (h' := [(3, ⟨0, true, 66, 2, [.ref 3 0 0, .rsl 5030 0 0 x41.2.2.length]⟩), (5030, rtA 0 5 1 (eI .u8) x41.2.2)]) (StC.mk (phi [(3, some 3), (5030, some 5030)]) (.old rfl rfl rfl rfl rfl (.cons (.ref rfl rfl rfl rfl rfl) (.cons (.rsl rfl rfl rfl rfl rfl rfl) .nil)) (.old rfl rfl rfl rfl rfl (CstL.ims _) .nil)) rfl (.cons (.ref rfl rfl rfl rfl rfl) (.cons .im (.cons .im (.cons .im .nil))))) ?_
        refine OpsW.nil ?_
        refine AW.region ?_
        obtain ⟨g42, H⟩ := G_some H
        refine OpsW.seg 2 [25, 3, 23, 24] [inR (v9 + (1 : Int))] [(25, .int .i64 (v9 + (1 : Int))), (3, .ref 3 0 0), (23, slA eS_Rule t0.Rules), (24, .int .i64 (t0.Rules.length : Int))] (by kernel_rfl) ⟨g42, trivial⟩ ?_
        refine OpsW.nil ?_
        show ∃ y, _ ∧ StC _ _ _ _
        exact ⟨(x41.2.2, v9 + (1 : Int)), H, (StC.mk (phi [(3, some 3), (5030, some 5030)]) (.old rfl rfl rfl rfl rfl (.cons (.ref rfl rfl rfl rfl rfl) (.cons (.rsl rfl rfl rfl rfl rfl rfl) .nil)) (.old rfl rfl rfl rfl rfl (CstL.ims _) .nil)) rfl (.cons (.ref rfl rfl rfl rfl rfl) (.cons .im (.cons .im (.cons .im .nil)))))⟩
  · replace H := condF c11 H
    refine AW.exit ?_
    refine AW.regionSeq ?_
    refine OpsW.recast (env' := [(26, .bool (decide (v9 < (t0.Rules.length : Int)))), (3, .ref 3 0 0), (23, slA eS_Rule t0.Rules), (24, .int .i64 (t0.Rules.length : Int)), (25, .int .i64 v9)]) (h' := [(3, ⟨0, true, 66, 2, [.ref 3 0 0, .rsl 5030 0 0 v8.length]⟩), (5030, rtA 0 5 1 (eI .u8) v8)]) (StC.mk (phi [(3, some 3), (5030, some 5030)]) (.old rfl rfl rfl rfl rfl (.cons (.ref rfl rfl rfl rfl rfl) (.cons (.rsl rfl rfl rfl rfl rfl rfl) .nil)) (.old rfl rfl rfl rfl rfl (CstL.ims _) .nil)) rfl (.cons .im (.cons (.ref rfl rfl rfl rfl rfl) (.cons .im (.cons .im (.cons .im .nil)))))) ?_
    obtain ⟨x43, hx43, H⟩ := bindS H
    change OpsW _ _ _ _ [(26, .bool (decide (v9 < (t0.Rules.length : Int)))), (3, .ref 3 0 0), (23, slA eS_Rule t0.Rules), (24, .int .i64 (t0.Rules.length : Int)), (25, .int .i64 v9)] ([(3, ⟨0, true, 66, 2, [.ref 3 0 0, .rsl 5030 0 0 v8.length]⟩), (5030, rtA 0 5 1 (eI .u8) v8)] ++ []) _
    refine OpsW.callR [(3, ⟨0, true, 66, 2, [.ref 3 0 0, .rsl 5030 0 0 v8.length]⟩), (5030, rtA 0 5 1 (eI .u8) v8)] [] [(2030, ⟨0, true, 66, 2, [.ref 2030 0 0, .rsl 3030 0 0 v8.length]⟩), (3030, rtA 0 5 1 (eI .u8) v8)] (phi [(2030, some 3), (3030, some 5030)]) rfl rfl (by kernel_rfl) [.ref 2030 0 0] _ rfl (glAll_sound trivial) (.cons (.ref rfl rfl rfl rfl rfl) .nil) (f_strings_Builder_String_io hx43) (fresh_of (by kernel_rfl)) (by kernel_rfl) (.cons rfl rfl rfl rfl rfl (.cons (.ref rfl rfl rfl rfl rfl) (.cons (.rsl rfl rfl rfl rfl rfl rfl) .nil)) (.cons rfl rfl rfl rfl rfl (RnL.ims _) .nil)) ?_
    rintro _ _ ⟨rfl, rfl⟩
    refine ⟨.string x43.1, [(3, ⟨0, true, 66, 2, [.ref 3 0 0, .rsl 5030 1 0 x43.2.length]⟩), (5030, ⟨1, false, 5, 1, (x43.2.flatMap (eI .u8)).map .im⟩)], phi [(3, some 2030), (5030, some 3030)], fresh_of (by kernel_rfl), by kernel_rfl, by kernel_rfl, (.cons rfl rfl rfl rfl rfl (.cons (.ref rfl rfl rfl rfl rfl) (.cons (.rsl rfl rfl rfl rfl rfl rfl) .nil)) (.cons rfl rfl rfl rfl rfl (RnL.ims _) .nil)), (.cons .im .nil), ?_⟩
    change OpsW _ _ _ _ [(72, .string x43.1), (26, .bool (decide (v9 < (t0.Rules.length : Int)))), (3, .ref 3 0 0), (23, slA eS_Rule t0.Rules), (24, .int .i64 (t0.Rules.length : Int)), (25, .int .i64 v9)] [(3, ⟨0, true, 66, 2, [.ref 3 0 0, .rsl 5030 1 0 x43.2.length]⟩), (5030, ⟨1, false, 5, 1, (x43.2.flatMap (eI .u8)).map .im⟩)] _
    refine OpsW.seg 1 [2] [] [(2, .string x43.1)] (by kernel_rfl) trivial ?_
    refine OpsW.recast (env' := [(2, .string x43.1)]) (h' := []) (StC.pure (.cons .im .nil)) ?_
    refine OpsW.nil ?_
    obtain rfl := Option.some.inj H
    refine AW.recast (env' := [(2, .string x43.1)]) (h' := []) (StC.pure (.cons .im .nil)) ?_
    refine AW.ret ?_
    try simp only [Ex.then, Ex.inBlock, Ex.noGoto, Ex.jump, reduceIte, Nat.reduceEqDiff, reduceCtorEq]
    refine Done.gen rfl (.tmp .nil) ?_
    show _ = _
    kernel_rfl
def f_cell_Parse_b1 (t0 : ByteArray) (loop6 : (Int × Int × Int) → Option (Int × Int)) (v3 : Int) (v4 : Int) (v5 : Int) : Option (Int × Int) :=
  cond (decide (v5 < (t0.size : Int))) (
    G (0 ≤ v5 ∧ v5 < (t0.size : Int)) <|
    cond (cond (decide ((bAt t0 v5) ≤ v4)) true (decide ((54 : Int) < (bAt t0 v5)))) (
      some ((0 : Int), (10 : Int))) (
      G (0 ≤ (IntKind.wrap .u8 ((bAt t0 v5) - (49 : Int)))) <|
      G (inR (v5 + (1 : Int))) <|
      loop6 (bOr .u8 v3 (bShl .u8 (1 : Int) (IntKind.wrap .u8 ((bAt t0 v5) - (49 : Int)))), bAt t0 v5, v5 + (1 : Int)))) (
    some (v3, (0 : Int)))
def f_cell_Parse (t0 : ByteArray) : Option (Int × Int) :=
  cond (t0.toList == (⟨#[48]⟩ : ByteArray).toList) (
    some ((0 : Int), (0 : Int))) (
    cond (t0.toList == (⟨#[]⟩ : ByteArray).toList) (
      some ((0 : Int), (10 : Int))) (
      iter (fun loop (s : Int × Int × Int) => f_cell_Parse_b1 t0 loop s.1 s.2.1 s.2.2) 1000000 ((0 : Int), (48 : Int), (0 : Int))))
theorem f_cell_Parse_ok  {t0 : ByteArray} {r : Int × Int} (H : f_cell_Parse t0 = some r) : QSpec Tryd.prog 67 [.string t0] (.tup [.int .u8 r.1, .int .i64 r.2]) := by
  refine Spec.of_AW Tryd.func67 rfl (by simp [Tryd.ntmps67]) ?_
  rw [Tryd.ntmps67]
  unfold f_cell_Parse at H
  change AW _ _ _ [(0, .string t0)] [] _
  refine AW.regionSeq ?_
  refine OpsW.seg 2 [0] [] [(0, .string t0)] (by kernel_rfl) trivial ?_
  refine OpsW.nil ?_
  refine AW.seq ?_
  refine AW.regionSeq ?_
  refine OpsW.seg 2 [8, 0] [] [(8, .bool (t0.toList == (⟨#[48]⟩ : ByteArray).toList)), (0, .string t0)] (by kernel_rfl) trivial ?_
  refine OpsW.nil ?_
  refine AW.cond (b := t0.toList == (⟨#[48]⟩ : ByteArray).toList) rfl (fun c1 => ?_) (fun c1 => ?_)
  · replace H := condT c1 H
    refine AW.regionSeq ?_
    refine OpsW.seg 2 [3, 2] [] [(3, .int .i64 0), (2, .int .u8 0)] (by kernel_rfl) trivial ?_
    refine OpsW.nil ?_
    obtain rfl := Option.some.inj H
    refine AW.recast (env' := [(2, .int .u8 0), (3, .int .i64 0)]) (h' := []) (StC.pure (.cons .im (.cons .im .nil))) ?_
    refine AW.ret ?_
    try simp only [Ex.then, Ex.inBlock, Ex.noGoto, Ex.jump, reduceIte, Nat.reduceEqDiff, reduceCtorEq]
    refine Done.gen rfl (.tmp (.tmp .nil)) ?_
    show _ = _
    kernel_rfl
  · replace H := condF c1 H
    refine AW.skip ?_
    refine AW.seq ?_
    refine AW.regionSeq ?_
    refine OpsW.seg 2 [10, 0] [] [(10, .bool (t0.toList == (⟨#[]⟩ : ByteArray).toList)), (0, .string t0)] (by kernel_rfl) trivial ?_
    refine OpsW.nil ?_
    refine AW.cond (b := t0.toList == (⟨#[]⟩ : ByteArray).toList) rfl (fun c2 => ?_) (fun c2 => ?_)
    · replace H := condT c2 H
      refine AW.regionSeq ?_
      refine OpsW.seg 2 [3, 2] [] [(3, .int .i64 10), (2, .int .u8 0)] (by kernel_rfl) trivial ?_
      refine OpsW.nil ?_
      obtain rfl := Option.some.inj H
      refine AW.recast (env' := [(2, .int .u8 0), (3, .int .i64 10)]) (h' := []) (StC.pure (.cons .im (.cons .im .nil))) ?_
      refine AW.ret ?_
      try simp only [Ex.then, Ex.inBlock, Ex.noGoto, Ex.jump, reduceIte, Nat.reduceEqDiff, reduceCtorEq]
      refine Done.gen rfl (.tmp (.tmp .nil)) ?_
      show _ = _
      kernel_rfl
    · replace H := condF c2 H
      refine AW.skip ?_
      refine AW.regionSeq ?_
      refine OpsW.seg 1 [4, 0] [] [(4, .int .u8 0), (0, .string t0)] (by kernel_rfl) trivial ?_
      refine OpsW.nil ?_
      refine AW.regionSeq ?_
      refine OpsW.seg 1 [5, 4, 0] [] [(5, .int .u8 48), (4, .int .u8 0), (0, .string t0)] (by kernel_rfl) trivial ?_
      refine OpsW.nil ?_
      refine AW.seq ?_
      refine AW.regionSeq ?_
      refine OpsW.seg 3 [13, 12, 5, 4, 0] [] [(13, .int .i64 0), (12, .int .i64 (t0.size : Int)), (5, .int .u8 48), (4, .int .u8 0), (0, .string t0)] (by kernel_rfl) trivial ?_
      refine OpsW.nil ?_
      refine AW.block ?_
      refine AW.iterK (fun loop (s : Int × Int × Int) => f_cell_Parse_b1 t0 loop s.1 s.2.1 s.2.2) r (fun (s : Int × Int × Int) => [(0, .string t0), (4, .int .u8 s.1), (5, .int .u8 s.2.1), (12, .int .i64 (t0.size : Int)), (13, .int .i64 s.2.2)]) (fun (s : Int × Int × Int) => []) ?_ 1000000 ((0 : Int), (48 : Int), (0 : Int)) H (StC.pure (.cons .im (.cons .im (.cons .im (.cons .im (.cons .im .nil))))))
      intro loop6 s H
      obtain ⟨v3, v4, v5⟩ := s
      change f_cell_Parse_b1 t0 loop6 v3 v4 v5 = some r at H
      unfold f_cell_Parse_b1 at H
      change AW _ _ _ [(0, .string t0), (4, .int .u8 v3), (5, .int .u8 v4), (12, .int .i64 (t0.size : Int)), (13, .int .i64 v5)] [] _
      refine AW.regionSeq ?_
      refine OpsW.seg 1 [14, 0, 4, 5, 12, 13] [] [(14, .bool (decide (v5 < (t0.size : Int)))), (0, .string t0), (4, .int .u8 v3), (5, .int .u8 v4), (12, .int .i64 (t0.size : Int)), (13, .int .i64 v5)] (by kernel_rfl) trivial ?_
      refine OpsW.nil ?_
      refine AW.seq ?_
      refine AW.cond (b := decide (v5 < (t0.size : Int))) rfl (fun c7 => ?_) (fun c7 => ?_)
      · replace H := condT c7 H
        refine AW.skip ?_
        refine AW.seq ?_
        refine AW.block ?_
        refine AW.regionSeq ?_
        refine OpsW.seg 2 [6, 0, 4, 5, 12, 13] [] [(6, .int .i64 v5), (0, .string t0), (4, .int .u8 v3), (5, .int .u8 v4), (12, .int .i64 (t0.size : Int)), (13, .int .i64 v5)] (by kernel_rfl) trivial ?_
        refine OpsW.nil ?_
        refine AW.seq ?_
        refine AW.regionSeq ?_
        obtain ⟨g8, H⟩ := G_some H
        refine OpsW.seg 11 [26, 6, 0, 4, 12, 13] [0 ≤ v5 ∧ v5 < (t0.size : Int), (!(decide ((bAt t0 v5) ≤ v4))) = true → (!(decide ((bAt t0 v5) ≤ v4))) = true, (!(decide ((bAt t0 v5) ≤ v4))) = true → (!(decide ((bAt t0 v5) ≤ v4))) = true, (!(decide ((bAt t0 v5) ≤ v4))) = true → (0 ≤ v5 ∧ v5 < (t0.size : Int)), (!(decide ((bAt t0 v5) ≤ v4))) = true → (!(decide ((bAt t0 v5) ≤ v4))) = true, (decide ((bAt t0 v5) ≤ v4)) = false → (!(decide ((bAt t0 v5) ≤ v4))) = true] [(26, .bool (cond (decide ((bAt t0 v5) ≤ v4)) true (decide ((54 : Int) < (bAt t0 v5))))), (6, .int .i64 v5), (0, .string t0), (4, .int .u8 v3), (12, .int .i64 (t0.size : Int)), (13, .int .i64 v5)] (by kernel_rfl) ⟨g8, (fun h => h), (fun h => h), (fun _ => g8), (fun h => h), (fun h => by first | exact h | simpa using h), trivial⟩ ?_
        refine OpsW.nil ?_
        refine AW.cond (b := cond (decide ((bAt t0 v5) ≤ v4)) true (decide ((54 : Int) < (bAt t0 v5)))) rfl (fun c9 => ?_) (fun c9 => ?_)
        · replace H := condT c9 H
          refine AW.regionSeq ?_
          refine OpsW.seg 2 [3, 2] [] [(3, .int .i64 10), (2, .int .u8 0)] (by kernel_rfl) trivial ?_
          refine OpsW.nil ?_
          obtain rfl := Option.some.inj H
          refine AW.recast (env' := [(2, .int .u8 0), (3, .int .i64 10)]) (h' := []) (StC.pure (.cons .im (.cons .im .nil))) ?_
          refine AW.ret ?_
          try simp only [Ex.then, Ex.inBlock, Ex.noGoto, Ex.jump, reduceIte, Nat.reduceEqDiff, reduceCtorEq]
          refine Done.gen rfl (.tmp (.tmp .nil)) ?_
          show _ = _
          kernel_rfl
        · replace H := condF c9 H
          refine AW.skip ?_
          refine AW.regionSeq ?_
          refine OpsW.seg 4 [5, 0, 4, 12, 13] [0 ≤ v5 ∧ v5 < (t0.size : Int)] [(5, .int .u8 (bAt t0 v5)), (0, .string t0), (4, .int .u8 v3), (12, .int .i64 (t0.size : Int)), (13, .int .i64 v5)] (by kernel_rfl) ⟨g8, trivial⟩ ?_
          refine OpsW.nil ?_
          refine AW.region ?_
          obtain ⟨g10, H⟩ := G_some H
          refine OpsW.seg 6 [4, 5, 0, 12, 13] [0 ≤ (IntKind.wrap .u8 ((bAt t0 v5) - (49 : Int)))] [(4, .int .u8 (bOr .u8 v3 (bShl .u8 (1 : Int) (IntKind.wrap .u8 ((bAt t0 v5) - (49 : Int)))))), (5, .int .u8 (bAt t0 v5)), (0, .string t0), (12, .int .i64 (t0.size : Int)), (13, .int .i64 v5)] (by kernel_rfl) ⟨g10, trivial⟩ ?_
          refine OpsW.nil ?_
          refine AW.region ?_
          obtain ⟨g11, H⟩ := G_some H
          refine OpsW.seg 2 [13, 4, 5, 0, 12] [inR (v5 + (1 : Int))] [(13, .int .i64 (v5 + (1 : Int))), (4, .int .u8 (bOr .u8 v3 (bShl .u8 (1 : Int) (IntKind.wrap .u8 ((bAt t0 v5) - (49 : Int)))))), (5, .int .u8 (bAt t0 v5)), (0, .string t0), (12, .int .i64 (t0.size : Int))] (by kernel_rfl) ⟨g11, trivial⟩ ?_
          refine OpsW.nil ?_
          show ∃ y, _ ∧ StC _ _ _ _
          exact ⟨(bOr .u8 v3 (bShl .u8 (1 : Int) (IntKind.wrap .u8 ((bAt t0 v5) - (49 : Int)))), bAt t0 v5, v5 + (1 : Int)), H, (StC.pure (.cons .im (.cons .im (.cons .im (.cons .im (.cons .im .nil))))))⟩
      · replace H := condF c7 H
        refine AW.exit ?_
        refine AW.regionSeq ?_
        refine OpsW.seg 3 [3, 2] [] [(3, .int .i64 0), (2, .int .u8 v3)] (by kernel_rfl) trivial ?_
        refine OpsW.nil ?_
        obtain rfl := Option.some.inj H
        refine AW.recast (env' := [(2, .int .u8 v3), (3, .int .i64 0)]) (h' := []) (StC.pure (.cons .im (.cons .im .nil))) ?_
        refine AW.ret ?_
        try simp only [Ex.then, Ex.inBlock, Ex.noGoto, Ex.jump, reduceIte, Nat.reduceEqDiff, reduceCtorEq]
        refine Done.gen rfl (.tmp (.tmp .nil)) ?_
        show _ = _
        kernel_rfl
def f_table_nibble (t0 : Int) : Option Int :=
  cond (cond (decide ((48 : Int) ≤ t0)) (decide (t0 ≤ (57 : Int))) false) (
    some (IntKind.wrap .i64 (IntKind.wrap .u8 (t0 - (48 : Int))))) (
    cond (cond (decide ((97 : Int) ≤ t0)) (decide (t0 ≤ (102 : Int))) false) (
      G (inR ((IntKind.wrap .i64 (IntKind.wrap .u8 (t0 - (97 : Int)))) + (10 : Int))) <|
      some ((IntKind.wrap .i64 (IntKind.wrap .u8 (t0 - (97 : Int)))) + (10 : Int))) (
      some (-1 : Int)))
theorem f_table_nibble_ok  {t0 : Int} {r : Int} (H : f_table_nibble t0 = some r) : QSpec Tryd.prog 68 [.int .u8 t0] (.int .i64 r) := by
  refine Spec.of_AW Tryd.func68 rfl (by simp [Tryd.ntmps68]) ?_
  rw [Tryd.ntmps68]
  unfold f_table_nibble at H
  change AW _ _ _ [(0, .int .u8 t0)] [] _
  refine AW.regionSeq ?_
  refine OpsW.seg 1 [0] [] [(0, .int .u8 t0)] (by kernel_rfl) trivial ?_
  refine OpsW.nil ?_
  refine AW.seq ?_
  refine AW.block ?_
  refine AW.regionSeq ?_
  refine OpsW.seg 7 [3, 0] [(decide ((48 : Int) ≤ t0)) = true → (decide ((48 : Int) ≤ t0)) = true, (decide ((48 : Int) ≤ t0)) = true → (decide ((48 : Int) ≤ t0)) = true] [(3, .bool (cond (decide ((48 : Int) ≤ t0)) (decide (t0 ≤ (57 : Int))) false)), (0, .int .u8 t0)] (by kernel_rfl) ⟨(fun h => h), (fun h => by first | exact h | simpa using h), trivial⟩ ?_
  refine OpsW.nil ?_
  refine AW.cond (b := cond (decide ((48 : Int) ≤ t0)) (decide (t0 ≤ (57 : Int))) false) rfl (fun c1 => ?_) (fun c1 => ?_)
  · replace H := condT c1 H
    refine AW.regionSeq ?_
    refine OpsW.seg 4 [2] [] [(2, .int .i64 (IntKind.wrap .i64 (IntKind.wrap .u8 (t0 - (48 : Int)))))] (by kernel_rfl) trivial ?_
    refine OpsW.nil ?_
    obtain rfl := Option.some.inj H
    refine AW.recast (env' := [(2, .int .i64 (IntKind.wrap .i64 (IntKind.wrap .u8 (t0 - (48 : Int)))))]) (h' := []) (StC.pure (.cons .im .nil)) ?_
    refine AW.ret ?_
    try simp only [Ex.then, Ex.inBlock, Ex.noGoto, Ex.jump, reduceIte, Nat.reduceEqDiff, reduceCtorEq]
    refine Done.gen rfl (.tmp .nil) ?_
    show _ = _
    kernel_rfl
  · replace H := condF c1 H
    refine AW.regionSeq ?_
    refine OpsW.seg 7 [13, 0] [(decide ((97 : Int) ≤ t0)) = true → (decide ((97 : Int) ≤ t0)) = true, (decide ((97 : Int) ≤ t0)) = true → (decide ((97 : Int) ≤ t0)) = true] [(13, .bool (cond (decide ((97 : Int) ≤ t0)) (decide (t0 ≤ (102 : Int))) false)), (0, .int .u8 t0)] (by kernel_rfl) ⟨(fun h => h), (fun h => by first | exact h | simpa using h), trivial⟩ ?_
    refine OpsW.nil ?_
    refine AW.cond (b := cond (decide ((97 : Int) ≤ t0)) (decide (t0 ≤ (102 : Int))) false) rfl (fun c2 => ?_) (fun c2 => ?_)
    · replace H := condT c2 H
      refine AW.regionSeq ?_
      obtain ⟨g3, H⟩ := G_some H
      refine OpsW.seg 5 [2] [inR ((IntKind.wrap .i64 (IntKind.wrap .u8 (t0 - (97 : Int)))) + (10 : Int))] [(2, .int .i64 ((IntKind.wrap .i64 (IntKind.wrap .u8 (t0 - (97 : Int)))) + (10 : Int)))] (by kernel_rfl) ⟨g3, trivial⟩ ?_
      refine OpsW.nil ?_
      obtain rfl := Option.some.inj H
      refine AW.recast (env' := [(2, .int .i64 ((IntKind.wrap .i64 (IntKind.wrap .u8 (t0 - (97 : Int)))) + (10 : Int)))]) (h' := []) (StC.pure (.cons .im .nil)) ?_
      refine AW.ret ?_
      try simp only [Ex.then, Ex.inBlock, Ex.noGoto, Ex.jump, reduceIte, Nat.reduceEqDiff, reduceCtorEq]
      refine Done.gen rfl (.tmp .nil) ?_
      show _ = _
      kernel_rfl
    · replace H := condF c2 H
      refine AW.skip ?_
      refine AW.regionSeq ?_
      refine OpsW.seg 1 [2] [] [(2, .int .i64 (-1 : Int))] (by kernel_rfl) trivial ?_
      refine OpsW.nil ?_
      obtain rfl := Option.some.inj H
      refine AW.recast (env' := [(2, .int .i64 (-1 : Int))]) (h' := []) (StC.pure (.cons .im .nil)) ?_
      refine AW.ret ?_
      try simp only [Ex.then, Ex.inBlock, Ex.noGoto, Ex.jump, reduceIte, Nat.reduceEqDiff, reduceCtorEq]
      refine Done.gen rfl (.tmp .nil) ?_
      show _ = _
      kernel_rfl
end Go.Proofs.YtlhpkjgpcenfdaaDoor
