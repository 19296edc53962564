/-
  Written by gen.py (own work): typed functions, and that the program computes them.
-/
import Derived.Test.YtdegmbjhedfffaaDoorW2
set_option linter.unusedSimpArgs false
set_option linter.unusedVariables false
set_option maxRecDepth 100000
namespace Go.Proofs.YtdegmbjhedfffaaDoor
open Go.Abs
def f_L22_sanity  : Option Bool :=
  (f_note_Refer [(5 : Int)] [(9 : Int), (10 : Int)]).bind fun x1 =>
  (f_note_Refer [(5 : Int), (0 : Int)] []).bind fun x2 =>
  (f_note_Refer [(5 : Int)] [(9 : Int), (9 : Int)]).bind fun x3 =>
  (f_note_Refer [(5 : Int), (63 : Int)] []).bind fun x4 =>
  (f_note_Strip [(5 : Int), (0 : Int), (63 : Int), (60 : Int), (10 : Int), (0 : Int), (63 : Int), (60 : Int), (1 : Int), (26 : Int)]).bind fun x5 =>
  (f_note_Strip [(5 : Int), (0 : Int), (63 : Int), (60 : Int), (10 : Int), (0 : Int), (63 : Int), (60 : Int), (10 : Int)]).bind fun x6 =>
  (f_note_Strip [(0 : Int), (5 : Int)]).bind fun x7 =>
  (f_note_Strip [(5 : Int), (0 : Int), (60 : Int), (1 : Int)]).bind fun x8 =>
  (cond (cond (cond (cond (cond (cond (cond (cond (x1.2 == (0 : Int)) (x2.2 == (180 : Int)) false) (x3.2 == (220 : Int)) false) (x4.2 == (180 : Int)) false) (x5.2.2 == (0 : Int)) false) (x6.2.2 == (220 : Int)) false) (x7.2.2 == (180 : Int)) false) (x8.2.2 == (0 : Int)) false) (f_note_Numbers [(1 : Int), (4 : Int), (4 : Int), (1 : Int), (4 : Int)]) (some [])).bind fun x9 =>
  (cond (cond (cond (cond (cond (cond (cond (cond (x1.2 == (0 : Int)) (x2.2 == (180 : Int)) false) (x3.2 == (220 : Int)) false) (x4.2 == (180 : Int)) false) (x5.2.2 == (0 : Int)) false) (x6.2.2 == (220 : Int)) false) (x7.2.2 == (180 : Int)) false) (x8.2.2 == (0 : Int)) false) (f_R22_Ints x9 [(0 : Int), (1 : Int), (2 : Int), (0 : Int), (3 : Int)]) (some false)).bind fun x10 =>
  (cond (cond (cond (cond (cond (cond (cond (cond (cond (x1.2 == (0 : Int)) (x2.2 == (180 : Int)) false) (x3.2 == (220 : Int)) false) (x4.2 == (180 : Int)) false) (x5.2.2 == (0 : Int)) false) (x6.2.2 == (220 : Int)) false) (x7.2.2 == (180 : Int)) false) (x8.2.2 == (0 : Int)) false) x10 false) (f_note_After [(1 : Int), (4 : Int), (4 : Int), (1 : Int), (4 : Int)] (0 : Int)) (some [])).bind fun x11 =>
  (cond (cond (cond (cond (cond (cond (cond (cond (cond (x1.2 == (0 : Int)) (x2.2 == (180 : Int)) false) (x3.2 == (220 : Int)) false) (x4.2 == (180 : Int)) false) (x5.2.2 == (0 : Int)) false) (x6.2.2 == (220 : Int)) false) (x7.2.2 == (180 : Int)) false) (x8.2.2 == (0 : Int)) false) x10 false) (f_R22_Ints x11 [(1 : Int), (2 : Int)]) (some false)).bind fun x12 =>
  (cond (cond (cond (cond (cond (cond (cond (cond (cond (cond (x1.2 == (0 : Int)) (x2.2 == (180 : Int)) false) (x3.2 == (220 : Int)) false) (x4.2 == (180 : Int)) false) (x5.2.2 == (0 : Int)) false) (x6.2.2 == (220 : Int)) false) (x7.2.2 == (180 : Int)) false) (x8.2.2 == (0 : Int)) false) x10 false) x12 false) (f_note_After [(1 : Int), (4 : Int), (4 : Int), (1 : Int), (4 : Int)] (3 : Int)) (some [])).bind fun x13 =>
  (cond (cond (cond (cond (cond (cond (cond (cond (cond (cond (x1.2 == (0 : Int)) (x2.2 == (180 : Int)) false) (x3.2 == (220 : Int)) false) (x4.2 == (180 : Int)) false) (x5.2.2 == (0 : Int)) false) (x6.2.2 == (220 : Int)) false) (x7.2.2 == (180 : Int)) false) (x8.2.2 == (0 : Int)) false) x10 false) x12 false) (f_R22_Ints x13 [(3 : Int)]) (some false)).bind fun x14 =>
  (cond (cond (cond (cond (cond (cond (cond (cond (cond (cond (cond (x1.2 == (0 : Int)) (x2.2 == (180 : Int)) false) (x3.2 == (220 : Int)) false) (x4.2 == (180 : Int)) false) (x5.2.2 == (0 : Int)) false) (x6.2.2 == (220 : Int)) false) (x7.2.2 == (180 : Int)) false) (x8.2.2 == (0 : Int)) false) x10 false) x12 false) x14 false) (f_note_After [(1 : Int), (4 : Int), (4 : Int), (1 : Int), (4 : Int)] (1 : Int)) (some [])).bind fun x15 =>
  (cond (cond (cond (cond (cond (cond (cond (cond (cond (cond (cond (cond (x1.2 == (0 : Int)) (x2.2 == (180 : Int)) false) (x3.2 == (220 : Int)) false) (x4.2 == (180 : Int)) false) (x5.2.2 == (0 : Int)) false) (x6.2.2 == (220 : Int)) false) (x7.2.2 == (180 : Int)) false) (x8.2.2 == (0 : Int)) false) x10 false) x12 false) x14 false) ((x15.length : Int) == (0 : Int)) false) (f_note_After [(1 : Int), (4 : Int), (4 : Int), (1 : Int), (4 : Int)] (5 : Int)) (some [])).bind fun x16 =>
  (cond (cond (cond (cond (cond (cond (cond (cond (cond (cond (cond (cond (cond (x1.2 == (0 : Int)) (x2.2 == (180 : Int)) false) (x3.2 == (220 : Int)) false) (x4.2 == (180 : Int)) false) (x5.2.2 == (0 : Int)) false) (x6.2.2 == (220 : Int)) false) (x7.2.2 == (180 : Int)) false) (x8.2.2 == (0 : Int)) false) x10 false) x12 false) x14 false) ((x15.length : Int) == (0 : Int)) false) ((x16.length : Int) == (0 : Int)) false) (f_R01_Same x1.1 [(5 : Int), (0 : Int), (63 : Int), (60 : Int), (10 : Int), (0 : Int), (63 : Int), (60 : Int), (1 : Int), (26 : Int)]) (some false)).bind fun x17 =>
  (cond (cond (cond (cond (cond (cond (cond (cond (cond (cond (cond (cond (cond (cond (x1.2 == (0 : Int)) (x2.2 == (180 : Int)) false) (x3.2 == (220 : Int)) false) (x4.2 == (180 : Int)) false) (x5.2.2 == (0 : Int)) false) (x6.2.2 == (220 : Int)) false) (x7.2.2 == (180 : Int)) false) (x8.2.2 == (0 : Int)) false) x10 false) x12 false) x14 false) ((x15.length : Int) == (0 : Int)) false) ((x16.length : Int) == (0 : Int)) false) x17 false) (f_R01_Same x5.1 [(5 : Int)]) (some false)).bind fun x18 =>
  (cond (cond (cond (cond (cond (cond (cond (cond (cond (cond (cond (cond (cond (cond (cond (x1.2 == (0 : Int)) (x2.2 == (180 : Int)) false) (x3.2 == (220 : Int)) false) (x4.2 == (180 : Int)) false) (x5.2.2 == (0 : Int)) false) (x6.2.2 == (220 : Int)) false) (x7.2.2 == (180 : Int)) false) (x8.2.2 == (0 : Int)) false) x10 false) x12 false) x14 false) ((x15.length : Int) == (0 : Int)) false) ((x16.length : Int) == (0 : Int)) false) x17 false) x18 false) (f_R22_Ints x5.2.1 [(9 : Int), (10 : Int)]) (some false)).bind fun x19 =>
  (cond (cond (cond (cond (cond (cond (cond (cond (cond (cond (cond (cond (cond (cond (cond (cond (x1.2 == (0 : Int)) (x2.2 == (180 : Int)) false) (x3.2 == (220 : Int)) false) (x4.2 == (180 : Int)) false) (x5.2.2 == (0 : Int)) false) (x6.2.2 == (220 : Int)) false) (x7.2.2 == (180 : Int)) false) (x8.2.2 == (0 : Int)) false) x10 false) x12 false) x14 false) ((x15.length : Int) == (0 : Int)) false) ((x16.length : Int) == (0 : Int)) false) x17 false) x18 false) x19 false) (f_R01_Same x8.1 [(5 : Int), (0 : Int), (60 : Int), (1 : Int)]) (some false)).bind fun x20 =>
  some (cond (cond (cond (cond (cond (cond (cond (cond (cond (cond (cond (cond (cond (cond (cond (cond (cond (x1.2 == (0 : Int)) (x2.2 == (180 : Int)) false) (x3.2 == (220 : Int)) false) (x4.2 == (180 : Int)) false) (x5.2.2 == (0 : Int)) false) (x6.2.2 == (220 : Int)) false) (x7.2.2 == (180 : Int)) false) (x8.2.2 == (0 : Int)) false) x10 false) x12 false) x14 false) ((x15.length : Int) == (0 : Int)) false) ((x16.length : Int) == (0 : Int)) false) x17 false) x18 false) x19 false) x20 false) ((x8.2.1.length : Int) == (0 : Int)) false)
theorem f_L22_sanity_ok  {r : Bool} (H : f_L22_sanity = some r) : QSpec Tryd.prog 8 [] (.bool r) := by
  refine Spec.of_AW Tryd.func8 rfl (by simp [Tryd.ntmps8]) ?_
  rw [Tryd.ntmps8]
  unfold f_L22_sanity at H
  change AW _ _ _ [] [] _
  refine AW.regionSeq ?_
  refine OpsW.seg 1 [] [] [] (by kernel_rfl) trivial ?_
  refine OpsW.nil ?_
  refine AW.regionSeq ?_
  refine OpsW.buildTI (enc := eI .i64) [(1 : Int), (4 : Int), (4 : Int), (1 : Int), (4 : Int)] rfl rfl rfl E23 (fun _ => rfl) (by decide) ⟨trivial, by kernel_rfl, by kernel_rfl, by kernel_rfl, rfl⟩ ?_
  refine OpsW.seg 1 [1] [] [(1, slA (eI .i64) [(1 : Int), (4 : Int), (4 : Int), (1 : Int), (4 : Int)])] (by kernel_rfl) trivial ?_
  refine OpsW.nil ?_
  refine AW.regionSeq ?_
  refine OpsW.buildTI (enc := eI .u8) [(5 : Int)] rfl rfl rfl E34 (fun _ => rfl) (by decide) ⟨trivial, by kernel_rfl, by kernel_rfl, by kernel_rfl, rfl⟩ ?_
  refine OpsW.buildTI (enc := eI .i64) [(9 : Int), (10 : Int)] rfl rfl rfl E23 (fun _ => rfl) (by decide) ⟨trivial, by kernel_rfl, by kernel_rfl, by kernel_rfl, rfl⟩ ?_
  obtain ⟨x1, hx1, H⟩ := bindS H
  refine OpsW.qcall rfl (by kernel_rfl) rfl rfl (glAll_sound trivial) (.cons (.pur rfl) (.cons (.pur rfl) .nil)) (f_note_Refer_ok hx1) rfl ?_
  refine OpsW.seg 5 [3, 2, 1] [] [(3, .int .i64 x1.2), (2, slA (eI .u8) x1.1), (1, slA (eI .i64) [(1 : Int), (4 : Int), (4 : Int), (1 : Int), (4 : Int)])] (by kernel_rfl) trivial ?_
  refine OpsW.nil ?_
  refine AW.regionSeq ?_
  refine OpsW.buildTI (enc := eI .u8) [(5 : Int), (0 : Int)] rfl rfl rfl E34 (fun _ => rfl) (by decide) ⟨trivial, by kernel_rfl, by kernel_rfl, by kernel_rfl, rfl⟩ ?_
  obtain ⟨x2, hx2, H⟩ := bindS H
  refine OpsW.qcall rfl (by kernel_rfl) rfl rfl (glAll_sound trivial) (.cons (.pur rfl) (.cons .nil .nil)) (f_note_Refer_ok hx2) rfl ?_
  refine OpsW.seg 5 [5, 3, 2, 1] [] [(5, .int .i64 x2.2), (3, .int .i64 x1.2), (2, slA (eI .u8) x1.1), (1, slA (eI .i64) [(1 : Int), (4 : Int), (4 : Int), (1 : Int), (4 : Int)])] (by kernel_rfl) trivial ?_
  refine OpsW.nil ?_
  refine AW.regionSeq ?_
  refine OpsW.buildTI (enc := eI .u8) [(5 : Int)] rfl rfl rfl E34 (fun _ => rfl) (by decide) ⟨trivial, by kernel_rfl, by kernel_rfl, by kernel_rfl, rfl⟩ ?_
  refine OpsW.buildTI (enc := eI .i64) [(9 : Int), (9 : Int)] rfl rfl rfl E23 (fun _ => rfl) (by decide) ⟨trivial, by kernel_rfl, by kernel_rfl, by kernel_rfl, rfl⟩ ?_
  obtain ⟨x3, hx3, H⟩ := bindS H
  refine OpsW.qcall rfl (by kernel_rfl) rfl rfl (glAll_sound trivial) (.cons (.pur rfl) (.cons (.pur rfl) .nil)) (f_note_Refer_ok hx3) rfl ?_
  refine OpsW.seg 5 [7, 5, 3, 2, 1] [] [(7, .int .i64 x3.2), (5, .int .i64 x2.2), (3, .int .i64 x1.2), (2, slA (eI .u8) x1.1), (1, slA (eI .i64) [(1 : Int), (4 : Int), (4 : Int), (1 : Int), (4 : Int)])] (by kernel_rfl) trivial ?_
  refine OpsW.nil ?_
  refine AW.regionSeq ?_
  refine OpsW.buildTI (enc := eI .u8) [(5 : Int), (63 : Int)] rfl rfl rfl E34 (fun _ => rfl) (by decide) ⟨trivial, by kernel_rfl, by kernel_rfl, by kernel_rfl, rfl⟩ ?_
  obtain ⟨x4, hx4, H⟩ := bindS H
  refine OpsW.qcall rfl (by kernel_rfl) rfl rfl (glAll_sound trivial) (.cons (.pur rfl) (.cons .nil .nil)) (f_note_Refer_ok hx4) rfl ?_
  refine OpsW.seg 5 [9, 7, 5, 3, 2, 1] [] [(9, .int .i64 x4.2), (7, .int .i64 x3.2), (5, .int .i64 x2.2), (3, .int .i64 x1.2), (2, slA (eI .u8) x1.1), (1, slA (eI .i64) [(1 : Int), (4 : Int), (4 : Int), (1 : Int), (4 : Int)])] (by kernel_rfl) trivial ?_
  refine OpsW.nil ?_
  refine AW.regionSeq ?_
  refine OpsW.buildTI (enc := eI .u8) [(5 : Int), (0 : Int), (63 : Int), (60 : Int), (10 : Int), (0 : Int), (63 : Int), (60 : Int), (1 : Int), (26 : Int)] rfl rfl rfl E34 (fun _ => rfl) (by decide) ⟨trivial, by kernel_rfl, by kernel_rfl, by kernel_rfl, rfl⟩ ?_
  obtain ⟨x5, hx5, H⟩ := bindS H
  refine OpsW.qcall rfl (by kernel_rfl) rfl rfl (glAll_sound trivial) (.cons (.pur rfl) .nil) (f_note_Strip_ok hx5) rfl ?_
  refine OpsW.seg 7 [12, 11, 10, 9, 7, 5, 3, 2, 1] [] [(12, .int .i64 x5.2.2), (11, slA (eI .i64) x5.2.1), (10, slA (eI .u8) x5.1), (9, .int .i64 x4.2), (7, .int .i64 x3.2), (5, .int .i64 x2.2), (3, .int .i64 x1.2), (2, slA (eI .u8) x1.1), (1, slA (eI .i64) [(1 : Int), (4 : Int), (4 : Int), (1 : Int), (4 : Int)])] (by kernel_rfl) trivial ?_
  refine OpsW.nil ?_
  refine AW.regionSeq ?_
  refine OpsW.buildTI (enc := eI .u8) [(5 : Int), (0 : Int), (63 : Int), (60 : Int), (10 : Int), (0 : Int), (63 : Int), (60 : Int), (10 : Int)] rfl rfl rfl E34 (fun _ => rfl) (by decide) ⟨trivial, by kernel_rfl, by kernel_rfl, by kernel_rfl, rfl⟩ ?_
  obtain ⟨x6, hx6, H⟩ := bindS H
  refine OpsW.qcall rfl (by kernel_rfl) rfl rfl (glAll_sound trivial) (.cons (.pur rfl) .nil) (f_note_Strip_ok hx6) rfl ?_
  refine OpsW.seg 7 [15, 12, 11, 10, 9, 7, 5, 3, 2, 1] [] [(15, .int .i64 x6.2.2), (12, .int .i64 x5.2.2), (11, slA (eI .i64) x5.2.1), (10, slA (eI .u8) x5.1), (9, .int .i64 x4.2), (7, .int .i64 x3.2), (5, .int .i64 x2.2), (3, .int .i64 x1.2), (2, slA (eI .u8) x1.1), (1, slA (eI .i64) [(1 : Int), (4 : Int), (4 : Int), (1 : Int), (4 : Int)])] (by kernel_rfl) trivial ?_
  refine OpsW.nil ?_
  refine AW.regionSeq ?_
  refine OpsW.buildTI (enc := eI .u8) [(0 : Int), (5 : Int)] rfl rfl rfl E34 (fun _ => rfl) (by decide) ⟨trivial, by kernel_rfl, by kernel_rfl, by kernel_rfl, rfl⟩ ?_
  obtain ⟨x7, hx7, H⟩ := bindS H
  refine OpsW.qcall rfl (by kernel_rfl) rfl rfl (glAll_sound trivial) (.cons (.pur rfl) .nil) (f_note_Strip_ok hx7) rfl ?_
  refine OpsW.seg 7 [18, 15, 12, 11, 10, 9, 7, 5, 3, 2, 1] [] [(18, .int .i64 x7.2.2), (15, .int .i64 x6.2.2), (12, .int .i64 x5.2.2), (11, slA (eI .i64) x5.2.1), (10, slA (eI .u8) x5.1), (9, .int .i64 x4.2), (7, .int .i64 x3.2), (5, .int .i64 x2.2), (3, .int .i64 x1.2), (2, slA (eI .u8) x1.1), (1, slA (eI .i64) [(1 : Int), (4 : Int), (4 : Int), (1 : Int), (4 : Int)])] (by kernel_rfl) trivial ?_
  refine OpsW.nil ?_
  refine AW.regionSeq ?_
  refine OpsW.buildTI (enc := eI .u8) [(5 : Int), (0 : Int), (60 : Int), (1 : Int)] rfl rfl rfl E34 (fun _ => rfl) (by decide) ⟨trivial, by kernel_rfl, by kernel_rfl, by kernel_rfl, rfl⟩ ?_
  obtain ⟨x8, hx8, H⟩ := bindS H
  refine OpsW.qcall rfl (by kernel_rfl) rfl rfl (glAll_sound trivial) (.cons (.pur rfl) .nil) (f_note_Strip_ok hx8) rfl ?_
  refine OpsW.seg 7 [21, 20, 19, 18, 15, 12, 11, 10, 9, 7, 5, 3, 2, 1] [] [(21, .int .i64 x8.2.2), (20, slA (eI .i64) x8.2.1), (19, slA (eI .u8) x8.1), (18, .int .i64 x7.2.2), (15, .int .i64 x6.2.2), (12, .int .i64 x5.2.2), (11, slA (eI .i64) x5.2.1), (10, slA (eI .u8) x5.1), (9, .int .i64 x4.2), (7, .int .i64 x3.2), (5, .int .i64 x2.2), (3, .int .i64 x1.2), (2, slA (eI .u8) x1.1), (1, slA (eI .i64) [(1 : Int), (4 : Int), (4 : Int), (1 : Int), (4 : Int)])] (by kernel_rfl) trivial ?_
  refine OpsW.nil ?_
  refine AW.regionSeq ?_
  refine OpsW.seg 31 [22, 20, 19, 11, 10, 2, 1] [(x1.2 == (0 : Int)) = true → (x1.2 == (0 : Int)) = true, (x1.2 == (0 : Int)) = true → (x1.2 == (0 : Int)) = true, (cond (x1.2 == (0 : Int)) (x2.2 == (180 : Int)) false) = true → (cond (x1.2 == (0 : Int)) (x2.2 == (180 : Int)) false) = true, (cond (x1.2 == (0 : Int)) (x2.2 == (180 : Int)) false) = true → (cond (x1.2 == (0 : Int)) (x2.2 == (180 : Int)) false) = true, (cond (cond (x1.2 == (0 : Int)) (x2.2 == (180 : Int)) false) (x3.2 == (220 : Int)) false) = true → (cond (cond (x1.2 == (0 : Int)) (x2.2 == (180 : Int)) false) (x3.2 == (220 : Int)) false) = true, (cond (cond (x1.2 == (0 : Int)) (x2.2 == (180 : Int)) false) (x3.2 == (220 : Int)) false) = true → (cond (cond (x1.2 == (0 : Int)) (x2.2 == (180 : Int)) false) (x3.2 == (220 : Int)) false) = true, (cond (cond (cond (x1.2 == (0 : Int)) (x2.2 == (180 : Int)) false) (x3.2 == (220 : Int)) false) (x4.2 == (180 : Int)) false) = true → (cond (cond (cond (x1.2 == (0 : Int)) (x2.2 == (180 : Int)) false) (x3.2 == (220 : Int)) false) (x4.2 == (180 : Int)) false) = true, (cond (cond (cond (x1.2 == (0 : Int)) (x2.2 == (180 : Int)) false) (x3.2 == (220 : Int)) false) (x4.2 == (180 : Int)) false) = true → (cond (cond (cond (x1.2 == (0 : Int)) (x2.2 == (180 : Int)) false) (x3.2 == (220 : Int)) false) (x4.2 == (180 : Int)) false) = true, (cond (cond (cond (cond (x1.2 == (0 : Int)) (x2.2 == (180 : Int)) false) (x3.2 == (220 : Int)) false) (x4.2 == (180 : Int)) false) (x5.2.2 == (0 : Int)) false) = true → (cond (cond (cond (cond (x1.2 == (0 : Int)) (x2.2 == (180 : Int)) false) (x3.2 == (220 : Int)) false) (x4.2 == (180 : Int)) false) (x5.2.2 == (0 : Int)) false) = true, (cond (cond (cond (cond (x1.2 == (0 : Int)) (x2.2 == (180 : Int)) false) (x3.2 == (220 : Int)) false) (x4.2 == (180 : Int)) false) (x5.2.2 == (0 : Int)) false) = true → (cond (cond (cond (cond (x1.2 == (0 : Int)) (x2.2 == (180 : Int)) false) (x3.2 == (220 : Int)) false) (x4.2 == (180 : Int)) false) (x5.2.2 == (0 : Int)) false) = true, (cond (cond (cond (cond (cond (x1.2 == (0 : Int)) (x2.2 == (180 : Int)) false) (x3.2 == (220 : Int)) false) (x4.2 == (180 : Int)) false) (x5.2.2 == (0 : Int)) false) (x6.2.2 == (220 : Int)) false) = true → (cond (cond (cond (cond (cond (x1.2 == (0 : Int)) (x2.2 == (180 : Int)) false) (x3.2 == (220 : Int)) false) (x4.2 == (180 : Int)) false) (x5.2.2 == (0 : Int)) false) (x6.2.2 == (220 : Int)) false) = true, (cond (cond (cond (cond (cond (x1.2 == (0 : Int)) (x2.2 == (180 : Int)) false) (x3.2 == (220 : Int)) false) (x4.2 == (180 : Int)) false) (x5.2.2 == (0 : Int)) false) (x6.2.2 == (220 : Int)) false) = true → (cond (cond (cond (cond (cond (x1.2 == (0 : Int)) (x2.2 == (180 : Int)) false) (x3.2 == (220 : Int)) false) (x4.2 == (180 : Int)) false) (x5.2.2 == (0 : Int)) false) (x6.2.2 == (220 : Int)) false) = true, (cond (cond (cond (cond (cond (cond (x1.2 == (0 : Int)) (x2.2 == (180 : Int)) false) (x3.2 == (220 : Int)) false) (x4.2 == (180 : Int)) false) (x5.2.2 == (0 : Int)) false) (x6.2.2 == (220 : Int)) false) (x7.2.2 == (180 : Int)) false) = true → (cond (cond (cond (cond (cond (cond (x1.2 == (0 : Int)) (x2.2 == (180 : Int)) false) (x3.2 == (220 : Int)) false) (x4.2 == (180 : Int)) false) (x5.2.2 == (0 : Int)) false) (x6.2.2 == (220 : Int)) false) (x7.2.2 == (180 : Int)) false) = true, (cond (cond (cond (cond (cond (cond (x1.2 == (0 : Int)) (x2.2 == (180 : Int)) false) (x3.2 == (220 : Int)) false) (x4.2 == (180 : Int)) false) (x5.2.2 == (0 : Int)) false) (x6.2.2 == (220 : Int)) false) (x7.2.2 == (180 : Int)) false) = true → (cond (cond (cond (cond (cond (cond (x1.2 == (0 : Int)) (x2.2 == (180 : Int)) false) (x3.2 == (220 : Int)) false) (x4.2 == (180 : Int)) false) (x5.2.2 == (0 : Int)) false) (x6.2.2 == (220 : Int)) false) (x7.2.2 == (180 : Int)) false) = true] [(22, .bool (cond (cond (cond (cond (cond (cond (cond (x1.2 == (0 : Int)) (x2.2 == (180 : Int)) false) (x3.2 == (220 : Int)) false) (x4.2 == (180 : Int)) false) (x5.2.2 == (0 : Int)) false) (x6.2.2 == (220 : Int)) false) (x7.2.2 == (180 : Int)) false) (x8.2.2 == (0 : Int)) false)), (20, slA (eI .i64) x8.2.1), (19, slA (eI .u8) x8.1), (11, slA (eI .i64) x5.2.1), (10, slA (eI .u8) x5.1), (2, slA (eI .u8) x1.1), (1, slA (eI .i64) [(1 : Int), (4 : Int), (4 : Int), (1 : Int), (4 : Int)])] (by kernel_rfl) ⟨(fun h => h), (fun h => by first | exact h | simpa using h), (fun h => h), (fun h => by first | exact h | simpa using h), (fun h => h), (fun h => by first | exact h | simpa using h), (fun h => h), (fun h => by first | exact h | simpa using h), (fun h => h), (fun h => by first | exact h | simpa using h), (fun h => h), (fun h => by first | exact h | simpa using h), (fun h => h), (fun h => by first | exact h | simpa using h), trivial⟩ ?_
  refine OpsW.nil ?_
  refine AW.regionSeq ?_
  refine OpsW.seg 3 [102, 101, 20, 19, 11, 10, 2, 1] [] [(102, .cnd (cond (cond (cond (cond (cond (cond (cond (x1.2 == (0 : Int)) (x2.2 == (180 : Int)) false) (x3.2 == (220 : Int)) false) (x4.2 == (180 : Int)) false) (x5.2.2 == (0 : Int)) false) (x6.2.2 == (220 : Int)) false) (x7.2.2 == (180 : Int)) false) (x8.2.2 == (0 : Int)) false) (slA (eI .i64) [(1 : Int), (4 : Int), (4 : Int), (1 : Int), (4 : Int)])), (101, .bool (cond (cond (cond (cond (cond (cond (cond (x1.2 == (0 : Int)) (x2.2 == (180 : Int)) false) (x3.2 == (220 : Int)) false) (x4.2 == (180 : Int)) false) (x5.2.2 == (0 : Int)) false) (x6.2.2 == (220 : Int)) false) (x7.2.2 == (180 : Int)) false) (x8.2.2 == (0 : Int)) false)), (20, slA (eI .i64) x8.2.1), (19, slA (eI .u8) x8.1), (11, slA (eI .i64) x5.2.1), (10, slA (eI .u8) x5.1), (2, slA (eI .u8) x1.1), (1, slA (eI .i64) [(1 : Int), (4 : Int), (4 : Int), (1 : Int), (4 : Int)])] (by kernel_rfl) trivial ?_
  obtain ⟨x9, hx9, H⟩ := bindS H
  refine OpsW.gcall (c := cond (cond (cond (cond (cond (cond (cond (x1.2 == (0 : Int)) (x2.2 == (180 : Int)) false) (x3.2 == (220 : Int)) false) (x4.2 == (180 : Int)) false) (x5.2.2 == (0 : Int)) false) (x6.2.2 == (220 : Int)) false) (x7.2.2 == (180 : Int)) false) (x8.2.2 == (0 : Int)) false) (r := slA (eI .i64) x9) [] rfl (by kernel_rfl) rfl rfl rfl rfl (fun hc => ⟨glAll_sound ⟨hc, trivial⟩, (.cons (.pur rfl) .nil), f_note_Numbers_ok (condT hc hx9), .inl ⟨rfl, rfl⟩⟩) ?_
  refine OpsW.gbuildTI (c := cond (cond (cond (cond (cond (cond (cond (x1.2 == (0 : Int)) (x2.2 == (180 : Int)) false) (x3.2 == (220 : Int)) false) (x4.2 == (180 : Int)) false) (x5.2.2 == (0 : Int)) false) (x6.2.2 == (220 : Int)) false) (x7.2.2 == (180 : Int)) false) (x8.2.2 == (0 : Int)) false) (enc := eI .i64) [(0 : Int), (1 : Int), (2 : Int), (0 : Int), (3 : Int)] rfl rfl rfl rfl rfl E23 (fun _ => rfl) (by decide) rfl (fun hc => ⟨trivial, by kernel_rfl, by kernel_rfl, by kernel_rfl, rfl⟩) ?_
  obtain ⟨x10, hx10, H⟩ := bindS H
  refine OpsW.gcall (c := cond (cond (cond (cond (cond (cond (cond (x1.2 == (0 : Int)) (x2.2 == (180 : Int)) false) (x3.2 == (220 : Int)) false) (x4.2 == (180 : Int)) false) (x5.2.2 == (0 : Int)) false) (x6.2.2 == (220 : Int)) false) (x7.2.2 == (180 : Int)) false) (x8.2.2 == (0 : Int)) false) (r := .bool x10) [] rfl (by kernel_rfl) rfl rfl rfl rfl (fun hc => ⟨glAll_sound ⟨hc, hc, trivial⟩, (.cons (.pur rfl) (.cons (.pur rfl) .nil)), f_R22_Ints_ok (condT hc hx10), .inl ⟨rfl, rfl⟩⟩) ?_
  refine OpsW.seg 3 [108, 107, 20, 19, 11, 10, 2, 1] [(cond (cond (cond (cond (cond (cond (cond (x1.2 == (0 : Int)) (x2.2 == (180 : Int)) false) (x3.2 == (220 : Int)) false) (x4.2 == (180 : Int)) false) (x5.2.2 == (0 : Int)) false) (x6.2.2 == (220 : Int)) false) (x7.2.2 == (180 : Int)) false) (x8.2.2 == (0 : Int)) false) = true → (cond (cond (cond (cond (cond (cond (cond (x1.2 == (0 : Int)) (x2.2 == (180 : Int)) false) (x3.2 == (220 : Int)) false) (x4.2 == (180 : Int)) false) (x5.2.2 == (0 : Int)) false) (x6.2.2 == (220 : Int)) false) (x7.2.2 == (180 : Int)) false) (x8.2.2 == (0 : Int)) false) = true] [(108, .cnd (cond (cond (cond (cond (cond (cond (cond (cond (x1.2 == (0 : Int)) (x2.2 == (180 : Int)) false) (x3.2 == (220 : Int)) false) (x4.2 == (180 : Int)) false) (x5.2.2 == (0 : Int)) false) (x6.2.2 == (220 : Int)) false) (x7.2.2 == (180 : Int)) false) (x8.2.2 == (0 : Int)) false) x10 false) (slA (eI .i64) [(1 : Int), (4 : Int), (4 : Int), (1 : Int), (4 : Int)])), (107, .bool (cond (cond (cond (cond (cond (cond (cond (cond (x1.2 == (0 : Int)) (x2.2 == (180 : Int)) false) (x3.2 == (220 : Int)) false) (x4.2 == (180 : Int)) false) (x5.2.2 == (0 : Int)) false) (x6.2.2 == (220 : Int)) false) (x7.2.2 == (180 : Int)) false) (x8.2.2 == (0 : Int)) false) x10 false)), (20, slA (eI .i64) x8.2.1), (19, slA (eI .u8) x8.1), (11, slA (eI .i64) x5.2.1), (10, slA (eI .u8) x5.1), (2, slA (eI .u8) x1.1), (1, slA (eI .i64) [(1 : Int), (4 : Int), (4 : Int), (1 : Int), (4 : Int)])] (by kernel_rfl) ⟨(fun h => by first | exact h | simpa using h), trivial⟩ ?_
  obtain ⟨x11, hx11, H⟩ := bindS H
  refine OpsW.gcall (c := cond (cond (cond (cond (cond (cond (cond (cond (x1.2 == (0 : Int)) (x2.2 == (180 : Int)) false) (x3.2 == (220 : Int)) false) (x4.2 == (180 : Int)) false) (x5.2.2 == (0 : Int)) false) (x6.2.2 == (220 : Int)) false) (x7.2.2 == (180 : Int)) false) (x8.2.2 == (0 : Int)) false) x10 false) (r := slA (eI .i64) x11) [] rfl (by kernel_rfl) rfl rfl rfl rfl (fun hc => ⟨glAll_sound ⟨hc, trivial⟩, (.cons (.pur rfl) (.cons (.pur rfl) .nil)), f_note_After_ok (condT hc hx11), .inl ⟨rfl, rfl⟩⟩) ?_
  refine OpsW.gbuildTI (c := cond (cond (cond (cond (cond (cond (cond (cond (x1.2 == (0 : Int)) (x2.2 == (180 : Int)) false) (x3.2 == (220 : Int)) false) (x4.2 == (180 : Int)) false) (x5.2.2 == (0 : Int)) false) (x6.2.2 == (220 : Int)) false) (x7.2.2 == (180 : Int)) false) (x8.2.2 == (0 : Int)) false) x10 false) (enc := eI .i64) [(1 : Int), (2 : Int)] rfl rfl rfl rfl rfl E23 (fun _ => rfl) (by decide) rfl (fun hc => ⟨trivial, by kernel_rfl, by kernel_rfl, by kernel_rfl, rfl⟩) ?_
  obtain ⟨x12, hx12, H⟩ := bindS H
  refine OpsW.gcall (c := cond (cond (cond (cond (cond (cond (cond (cond (x1.2 == (0 : Int)) (x2.2 == (180 : Int)) false) (x3.2 == (220 : Int)) false) (x4.2 == (180 : Int)) false) (x5.2.2 == (0 : Int)) false) (x6.2.2 == (220 : Int)) false) (x7.2.2 == (180 : Int)) false) (x8.2.2 == (0 : Int)) false) x10 false) (r := .bool x12) [] rfl (by kernel_rfl) rfl rfl rfl rfl (fun hc => ⟨glAll_sound ⟨hc, hc, trivial⟩, (.cons (.pur rfl) (.cons (.pur rfl) .nil)), f_R22_Ints_ok (condT hc hx12), .inl ⟨rfl, rfl⟩⟩) ?_
  refine OpsW.seg 3 [114, 113, 20, 19, 11, 10, 2, 1] [(cond (cond (cond (cond (cond (cond (cond (cond (x1.2 == (0 : Int)) (x2.2 == (180 : Int)) false) (x3.2 == (220 : Int)) false) (x4.2 == (180 : Int)) false) (x5.2.2 == (0 : Int)) false) (x6.2.2 == (220 : Int)) false) (x7.2.2 == (180 : Int)) false) (x8.2.2 == (0 : Int)) false) x10 false) = true → (cond (cond (cond (cond (cond (cond (cond (cond (x1.2 == (0 : Int)) (x2.2 == (180 : Int)) false) (x3.2 == (220 : Int)) false) (x4.2 == (180 : Int)) false) (x5.2.2 == (0 : Int)) false) (x6.2.2 == (220 : Int)) false) (x7.2.2 == (180 : Int)) false) (x8.2.2 == (0 : Int)) false) x10 false) = true] [(114, .cnd (cond (cond (cond (cond (cond (cond (cond (cond (cond (x1.2 == (0 : Int)) (x2.2 == (180 : Int)) false) (x3.2 == (220 : Int)) false) (x4.2 == (180 : Int)) false) (x5.2.2 == (0 : Int)) false) (x6.2.2 == (220 : Int)) false) (x7.2.2 == (180 : Int)) false) (x8.2.2 == (0 : Int)) false) x10 false) x12 false) (slA (eI .i64) [(1 : Int), (4 : Int), (4 : Int), (1 : Int), (4 : Int)])), (113, .bool (cond (cond (cond (cond (cond (cond (cond (cond (cond (x1.2 == (0 : Int)) (x2.2 == (180 : Int)) false) (x3.2 == (220 : Int)) false) (x4.2 == (180 : Int)) false) (x5.2.2 == (0 : Int)) false) (x6.2.2 == (220 : Int)) false) (x7.2.2 == (180 : Int)) false) (x8.2.2 == (0 : Int)) false) x10 false) x12 false)), (20, slA (eI .i64) x8.2.1), (19, slA (eI .u8) x8.1), (11, slA (eI .i64) x5.2.1), (10, slA (eI .u8) x5.1), (2, slA (eI .u8) x1.1), (1, slA (eI .i64) [(1 : Int), (4 : Int), (4 : Int), (1 : Int), (4 : Int)])] (by kernel_rfl) ⟨(fun h => by first | exact h | simpa using h), trivial⟩ ?_
  obtain ⟨x13, hx13, H⟩ := bindS H
  refine OpsW.gcall (c := cond (cond (cond (cond (cond (cond (cond (cond (cond (x1.2 == (0 : Int)) (x2.2 == (180 : Int)) false) (x3.2 == (220 : Int)) false) (x4.2 == (180 : Int)) false) (x5.2.2 == (0 : Int)) false) (x6.2.2 == (220 : Int)) false) (x7.2.2 == (180 : Int)) false) (x8.2.2 == (0 : Int)) false) x10 false) x12 false) (r := slA (eI .i64) x13) [] rfl (by kernel_rfl) rfl rfl rfl rfl (fun hc => ⟨glAll_sound ⟨hc, trivial⟩, (.cons (.pur rfl) (.cons (.pur rfl) .nil)), f_note_After_ok (condT hc hx13), .inl ⟨rfl, rfl⟩⟩) ?_
  refine OpsW.gbuildTI (c := cond (cond (cond (cond (cond (cond (cond (cond (cond (x1.2 == (0 : Int)) (x2.2 == (180 : Int)) false) (x3.2 == (220 : Int)) false) (x4.2 == (180 : Int)) false) (x5.2.2 == (0 : Int)) false) (x6.2.2 == (220 : Int)) false) (x7.2.2 == (180 : Int)) false) (x8.2.2 == (0 : Int)) false) x10 false) x12 false) (enc := eI .i64) [(3 : Int)] rfl rfl rfl rfl rfl E23 (fun _ => rfl) (by decide) rfl (fun hc => ⟨trivial, by kernel_rfl, by kernel_rfl, by kernel_rfl, rfl⟩) ?_
  obtain ⟨x14, hx14, H⟩ := bindS H
  refine OpsW.gcall (c := cond (cond (cond (cond (cond (cond (cond (cond (cond (x1.2 == (0 : Int)) (x2.2 == (180 : Int)) false) (x3.2 == (220 : Int)) false) (x4.2 == (180 : Int)) false) (x5.2.2 == (0 : Int)) false) (x6.2.2 == (220 : Int)) false) (x7.2.2 == (180 : Int)) false) (x8.2.2 == (0 : Int)) false) x10 false) x12 false) (r := .bool x14) [] rfl (by kernel_rfl) rfl rfl rfl rfl (fun hc => ⟨glAll_sound ⟨hc, hc, trivial⟩, (.cons (.pur rfl) (.cons (.pur rfl) .nil)), f_R22_Ints_ok (condT hc hx14), .inl ⟨rfl, rfl⟩⟩) ?_
  refine OpsW.seg 3 [120, 119, 20, 19, 11, 10, 2, 1] [(cond (cond (cond (cond (cond (cond (cond (cond (cond (x1.2 == (0 : Int)) (x2.2 == (180 : Int)) false) (x3.2 == (220 : Int)) false) (x4.2 == (180 : Int)) false) (x5.2.2 == (0 : Int)) false) (x6.2.2 == (220 : Int)) false) (x7.2.2 == (180 : Int)) false) (x8.2.2 == (0 : Int)) false) x10 false) x12 false) = true → (cond (cond (cond (cond (cond (cond (cond (cond (cond (x1.2 == (0 : Int)) (x2.2 == (180 : Int)) false) (x3.2 == (220 : Int)) false) (x4.2 == (180 : Int)) false) (x5.2.2 == (0 : Int)) false) (x6.2.2 == (220 : Int)) false) (x7.2.2 == (180 : Int)) false) (x8.2.2 == (0 : Int)) false) x10 false) x12 false) = true] [(120, .cnd (cond (cond (cond (cond (cond (cond (cond (cond (cond (cond (x1.2 == (0 : Int)) (x2.2 == (180 : Int)) false) (x3.2 == (220 : Int)) false) (x4.2 == (180 : Int)) false) (x5.2.2 == (0 : Int)) false) (x6.2.2 == (220 : Int)) false) (x7.2.2 == (180 : Int)) false) (x8.2.2 == (0 : Int)) false) x10 false) x12 false) x14 false) (slA (eI .i64) [(1 : Int), (4 : Int), (4 : Int), (1 : Int), (4 : Int)])), (119, .bool (cond (cond (cond (cond (cond (cond (cond (cond (cond (cond (x1.2 == (0 : Int)) (x2.2 == (180 : Int)) false) (x3.2 == (220 : Int)) false) (x4.2 == (180 : Int)) false) (x5.2.2 == (0 : Int)) false) (x6.2.2 == (220 : Int)) false) (x7.2.2 == (180 : Int)) false) (x8.2.2 == (0 : Int)) false) x10 false) x12 false) x14 false)), (20, slA (eI .i64) x8.2.1), (19, slA (eI .u8) x8.1), (11, slA (eI .i64) x5.2.1), (10, slA (eI .u8) x5.1), (2, slA (eI .u8) x1.1), (1, slA (eI .i64) [(1 : Int), (4 : Int), (4 : Int), (1 : Int), (4 : Int)])] (by kernel_rfl) ⟨(fun h => by first | exact h | simpa using h), trivial⟩ ?_
  obtain ⟨x15, hx15, H⟩ := bindS H
  refine OpsW.gcall (c := cond (cond (cond (cond (cond (cond (cond (cond (cond (cond (x1.2 == (0 : Int)) (x2.2 == (180 : Int)) false) (x3.2 == (220 : Int)) false) (x4.2 == (180 : Int)) false) (x5.2.2 == (0 : Int)) false) (x6.2.2 == (220 : Int)) false) (x7.2.2 == (180 : Int)) false) (x8.2.2 == (0 : Int)) false) x10 false) x12 false) x14 false) (r := slA (eI .i64) x15) [] rfl (by kernel_rfl) rfl rfl rfl rfl (fun hc => ⟨glAll_sound ⟨hc, trivial⟩, (.cons (.pur rfl) (.cons (.pur rfl) .nil)), f_note_After_ok (condT hc hx15), .inl ⟨rfl, rfl⟩⟩) ?_
  refine OpsW.seg 5 [126, 125, 20, 19, 11, 10, 2] [(cond (cond (cond (cond (cond (cond (cond (cond (cond (cond (x1.2 == (0 : Int)) (x2.2 == (180 : Int)) false) (x3.2 == (220 : Int)) false) (x4.2 == (180 : Int)) false) (x5.2.2 == (0 : Int)) false) (x6.2.2 == (220 : Int)) false) (x7.2.2 == (180 : Int)) false) (x8.2.2 == (0 : Int)) false) x10 false) x12 false) x14 false) = true → (cond (cond (cond (cond (cond (cond (cond (cond (cond (cond (x1.2 == (0 : Int)) (x2.2 == (180 : Int)) false) (x3.2 == (220 : Int)) false) (x4.2 == (180 : Int)) false) (x5.2.2 == (0 : Int)) false) (x6.2.2 == (220 : Int)) false) (x7.2.2 == (180 : Int)) false) (x8.2.2 == (0 : Int)) false) x10 false) x12 false) x14 false) = true, (cond (cond (cond (cond (cond (cond (cond (cond (cond (cond (x1.2 == (0 : Int)) (x2.2 == (180 : Int)) false) (x3.2 == (220 : Int)) false) (x4.2 == (180 : Int)) false) (x5.2.2 == (0 : Int)) false) (x6.2.2 == (220 : Int)) false) (x7.2.2 == (180 : Int)) false) (x8.2.2 == (0 : Int)) false) x10 false) x12 false) x14 false) = true → (cond (cond (cond (cond (cond (cond (cond (cond (cond (cond (x1.2 == (0 : Int)) (x2.2 == (180 : Int)) false) (x3.2 == (220 : Int)) false) (x4.2 == (180 : Int)) false) (x5.2.2 == (0 : Int)) false) (x6.2.2 == (220 : Int)) false) (x7.2.2 == (180 : Int)) false) (x8.2.2 == (0 : Int)) false) x10 false) x12 false) x14 false) = true, (cond (cond (cond (cond (cond (cond (cond (cond (cond (cond (x1.2 == (0 : Int)) (x2.2 == (180 : Int)) false) (x3.2 == (220 : Int)) false) (x4.2 == (180 : Int)) false) (x5.2.2 == (0 : Int)) false) (x6.2.2 == (220 : Int)) false) (x7.2.2 == (180 : Int)) false) (x8.2.2 == (0 : Int)) false) x10 false) x12 false) x14 false) = true → (cond (cond (cond (cond (cond (cond (cond (cond (cond (cond (x1.2 == (0 : Int)) (x2.2 == (180 : Int)) false) (x3.2 == (220 : Int)) false) (x4.2 == (180 : Int)) false) (x5.2.2 == (0 : Int)) false) (x6.2.2 == (220 : Int)) false) (x7.2.2 == (180 : Int)) false) (x8.2.2 == (0 : Int)) false) x10 false) x12 false) x14 false) = true] [(126, .cnd (cond (cond (cond (cond (cond (cond (cond (cond (cond (cond (cond (x1.2 == (0 : Int)) (x2.2 == (180 : Int)) false) (x3.2 == (220 : Int)) false) (x4.2 == (180 : Int)) false) (x5.2.2 == (0 : Int)) false) (x6.2.2 == (220 : Int)) false) (x7.2.2 == (180 : Int)) false) (x8.2.2 == (0 : Int)) false) x10 false) x12 false) x14 false) ((x15.length : Int) == (0 : Int)) false) (slA (eI .i64) [(1 : Int), (4 : Int), (4 : Int), (1 : Int), (4 : Int)])), (125, .bool (cond (cond (cond (cond (cond (cond (cond (cond (cond (cond (cond (x1.2 == (0 : Int)) (x2.2 == (180 : Int)) false) (x3.2 == (220 : Int)) false) (x4.2 == (180 : Int)) false) (x5.2.2 == (0 : Int)) false) (x6.2.2 == (220 : Int)) false) (x7.2.2 == (180 : Int)) false) (x8.2.2 == (0 : Int)) false) x10 false) x12 false) x14 false) ((x15.length : Int) == (0 : Int)) false)), (20, slA (eI .i64) x8.2.1), (19, slA (eI .u8) x8.1), (11, slA (eI .i64) x5.2.1), (10, slA (eI .u8) x5.1), (2, slA (eI .u8) x1.1)] (by kernel_rfl) ⟨(fun h => h), (fun h => h), (fun h => by first | exact h | simpa using h), trivial⟩ ?_
  obtain ⟨x16, hx16, H⟩ := bindS H
  refine OpsW.gcall (c := cond (cond (cond (cond (cond (cond (cond (cond (cond (cond (cond (x1.2 == (0 : Int)) (x2.2 == (180 : Int)) false) (x3.2 == (220 : Int)) false) (x4.2 == (180 : Int)) false) (x5.2.2 == (0 : Int)) false) (x6.2.2 == (220 : Int)) false) (x7.2.2 == (180 : Int)) false) (x8.2.2 == (0 : Int)) false) x10 false) x12 false) x14 false) ((x15.length : Int) == (0 : Int)) false) (r := slA (eI .i64) x16) [] rfl (by kernel_rfl) rfl rfl rfl rfl (fun hc => ⟨glAll_sound ⟨hc, trivial⟩, (.cons (.pur rfl) (.cons (.pur rfl) .nil)), f_note_After_ok (condT hc hx16), .inl ⟨rfl, rfl⟩⟩) ?_
  refine OpsW.seg 5 [132, 131, 20, 19, 11, 10] [(cond (cond (cond (cond (cond (cond (cond (cond (cond (cond (cond (x1.2 == (0 : Int)) (x2.2 == (180 : Int)) false) (x3.2 == (220 : Int)) false) (x4.2 == (180 : Int)) false) (x5.2.2 == (0 : Int)) false) (x6.2.2 == (220 : Int)) false) (x7.2.2 == (180 : Int)) false) (x8.2.2 == (0 : Int)) false) x10 false) x12 false) x14 false) ((x15.length : Int) == (0 : Int)) false) = true → (cond (cond (cond (cond (cond (cond (cond (cond (cond (cond (cond (x1.2 == (0 : Int)) (x2.2 == (180 : Int)) false) (x3.2 == (220 : Int)) false) (x4.2 == (180 : Int)) false) (x5.2.2 == (0 : Int)) false) (x6.2.2 == (220 : Int)) false) (x7.2.2 == (180 : Int)) false) (x8.2.2 == (0 : Int)) false) x10 false) x12 false) x14 false) ((x15.length : Int) == (0 : Int)) false) = true, (cond (cond (cond (cond (cond (cond (cond (cond (cond (cond (cond (x1.2 == (0 : Int)) (x2.2 == (180 : Int)) false) (x3.2 == (220 : Int)) false) (x4.2 == (180 : Int)) false) (x5.2.2 == (0 : Int)) false) (x6.2.2 == (220 : Int)) false) (x7.2.2 == (180 : Int)) false) (x8.2.2 == (0 : Int)) false) x10 false) x12 false) x14 false) ((x15.length : Int) == (0 : Int)) false) = true → (cond (cond (cond (cond (cond (cond (cond (cond (cond (cond (cond (x1.2 == (0 : Int)) (x2.2 == (180 : Int)) false) (x3.2 == (220 : Int)) false) (x4.2 == (180 : Int)) false) (x5.2.2 == (0 : Int)) false) (x6.2.2 == (220 : Int)) false) (x7.2.2 == (180 : Int)) false) (x8.2.2 == (0 : Int)) false) x10 false) x12 false) x14 false) ((x15.length : Int) == (0 : Int)) false) = true, (cond (cond (cond (cond (cond (cond (cond (cond (cond (cond (cond (x1.2 == (0 : Int)) (x2.2 == (180 : Int)) false) (x3.2 == (220 : Int)) false) (x4.2 == (180 : Int)) false) (x5.2.2 == (0 : Int)) false) (x6.2.2 == (220 : Int)) false) (x7.2.2 == (180 : Int)) false) (x8.2.2 == (0 : Int)) false) x10 false) x12 false) x14 false) ((x15.length : Int) == (0 : Int)) false) = true → (cond (cond (cond (cond (cond (cond (cond (cond (cond (cond (cond (x1.2 == (0 : Int)) (x2.2 == (180 : Int)) false) (x3.2 == (220 : Int)) false) (x4.2 == (180 : Int)) false) (x5.2.2 == (0 : Int)) false) (x6.2.2 == (220 : Int)) false) (x7.2.2 == (180 : Int)) false) (x8.2.2 == (0 : Int)) false) x10 false) x12 false) x14 false) ((x15.length : Int) == (0 : Int)) false) = true] [(132, .cnd (cond (cond (cond (cond (cond (cond (cond (cond (cond (cond (cond (cond (x1.2 == (0 : Int)) (x2.2 == (180 : Int)) false) (x3.2 == (220 : Int)) false) (x4.2 == (180 : Int)) false) (x5.2.2 == (0 : Int)) false) (x6.2.2 == (220 : Int)) false) (x7.2.2 == (180 : Int)) false) (x8.2.2 == (0 : Int)) false) x10 false) x12 false) x14 false) ((x15.length : Int) == (0 : Int)) false) ((x16.length : Int) == (0 : Int)) false) (slA (eI .u8) x1.1)), (131, .bool (cond (cond (cond (cond (cond (cond (cond (cond (cond (cond (cond (cond (x1.2 == (0 : Int)) (x2.2 == (180 : Int)) false) (x3.2 == (220 : Int)) false) (x4.2 == (180 : Int)) false) (x5.2.2 == (0 : Int)) false) (x6.2.2 == (220 : Int)) false) (x7.2.2 == (180 : Int)) false) (x8.2.2 == (0 : Int)) false) x10 false) x12 false) x14 false) ((x15.length : Int) == (0 : Int)) false) ((x16.length : Int) == (0 : Int)) false)), (20, slA (eI .i64) x8.2.1), (19, slA (eI .u8) x8.1), (11, slA (eI .i64) x5.2.1), (10, slA (eI .u8) x5.1)] (by kernel_rfl) ⟨(fun h => h), (fun h => h), (fun h => by first | exact h | simpa using h), trivial⟩ ?_
  refine OpsW.gbuildTI (c := cond (cond (cond (cond (cond (cond (cond (cond (cond (cond (cond (cond (x1.2 == (0 : Int)) (x2.2 == (180 : Int)) false) (x3.2 == (220 : Int)) false) (x4.2 == (180 : Int)) false) (x5.2.2 == (0 : Int)) false) (x6.2.2 == (220 : Int)) false) (x7.2.2 == (180 : Int)) false) (x8.2.2 == (0 : Int)) false) x10 false) x12 false) x14 false) ((x15.length : Int) == (0 : Int)) false) ((x16.length : Int) == (0 : Int)) false) (enc := eI .u8) [(5 : Int), (0 : Int), (63 : Int), (60 : Int), (10 : Int), (0 : Int), (63 : Int), (60 : Int), (1 : Int), (26 : Int)] rfl rfl rfl rfl rfl E34 (fun _ => rfl) (by decide) rfl (fun hc => ⟨trivial, by kernel_rfl, by kernel_rfl, by kernel_rfl, rfl⟩) ?_
  obtain ⟨x17, hx17, H⟩ := bindS H
  refine OpsW.gcall (c := cond (cond (cond (cond (cond (cond (cond (cond (cond (cond (cond (cond (x1.2 == (0 : Int)) (x2.2 == (180 : Int)) false) (x3.2 == (220 : Int)) false) (x4.2 == (180 : Int)) false) (x5.2.2 == (0 : Int)) false) (x6.2.2 == (220 : Int)) false) (x7.2.2 == (180 : Int)) false) (x8.2.2 == (0 : Int)) false) x10 false) x12 false) x14 false) ((x15.length : Int) == (0 : Int)) false) ((x16.length : Int) == (0 : Int)) false) (r := .bool x17) [] rfl (by kernel_rfl) rfl rfl rfl rfl (fun hc => ⟨glAll_sound ⟨hc, hc, trivial⟩, (.cons (.pur rfl) (.cons (.pur rfl) .nil)), f_R01_Same_ok (condT hc hx17), .inl ⟨rfl, rfl⟩⟩) ?_
  refine OpsW.seg 3 [137, 136, 20, 19, 11] [(cond (cond (cond (cond (cond (cond (cond (cond (cond (cond (cond (cond (x1.2 == (0 : Int)) (x2.2 == (180 : Int)) false) (x3.2 == (220 : Int)) false) (x4.2 == (180 : Int)) false) (x5.2.2 == (0 : Int)) false) (x6.2.2 == (220 : Int)) false) (x7.2.2 == (180 : Int)) false) (x8.2.2 == (0 : Int)) false) x10 false) x12 false) x14 false) ((x15.length : Int) == (0 : Int)) false) ((x16.length : Int) == (0 : Int)) false) = true → (cond (cond (cond (cond (cond (cond (cond (cond (cond (cond (cond (cond (x1.2 == (0 : Int)) (x2.2 == (180 : Int)) false) (x3.2 == (220 : Int)) false) (x4.2 == (180 : Int)) false) (x5.2.2 == (0 : Int)) false) (x6.2.2 == (220 : Int)) false) (x7.2.2 == (180 : Int)) false) (x8.2.2 == (0 : Int)) false) x10 false) x12 false) x14 false) ((x15.length : Int) == (0 : Int)) false) ((x16.length : Int) == (0 : Int)) false) = true] [(137, .cnd (cond (cond (cond (cond (cond (cond (cond (cond (cond (cond (cond (cond (cond (x1.2 == (0 : Int)) (x2.2 == (180 : Int)) false) (x3.2 == (220 : Int)) false) (x4.2 == (180 : Int)) false) (x5.2.2 == (0 : Int)) false) (x6.2.2 == (220 : Int)) false) (x7.2.2 == (180 : Int)) false) (x8.2.2 == (0 : Int)) false) x10 false) x12 false) x14 false) ((x15.length : Int) == (0 : Int)) false) ((x16.length : Int) == (0 : Int)) false) x17 false) (slA (eI .u8) x5.1)), (136, .bool (cond (cond (cond (cond (cond (cond (cond (cond (cond (cond (cond (cond (cond (x1.2 == (0 : Int)) (x2.2 == (180 : Int)) false) (x3.2 == (220 : Int)) false) (x4.2 == (180 : Int)) false) (x5.2.2 == (0 : Int)) false) (x6.2.2 == (220 : Int)) false) (x7.2.2 == (180 : Int)) false) (x8.2.2 == (0 : Int)) false) x10 false) x12 false) x14 false) ((x15.length : Int) == (0 : Int)) false) ((x16.length : Int) == (0 : Int)) false) x17 false)), (20, slA (eI .i64) x8.2.1), (19, slA (eI .u8) x8.1), (11, slA (eI .i64) x5.2.1)] (by kernel_rfl) ⟨(fun h => by first | exact h | simpa using h), trivial⟩ ?_
  refine OpsW.gbuildTI (c := cond (cond (cond (cond (cond (cond (cond (cond (cond (cond (cond (cond (cond (x1.2 == (0 : Int)) (x2.2 == (180 : Int)) false) (x3.2 == (220 : Int)) false) (x4.2 == (180 : Int)) false) (x5.2.2 == (0 : Int)) false) (x6.2.2 == (220 : Int)) false) (x7.2.2 == (180 : Int)) false) (x8.2.2 == (0 : Int)) false) x10 false) x12 false) x14 false) ((x15.length : Int) == (0 : Int)) false) ((x16.length : Int) == (0 : Int)) false) x17 false) (enc := eI .u8) [(5 : Int)] rfl rfl rfl rfl rfl E34 (fun _ => rfl) (by decide) rfl (fun hc => ⟨trivial, by kernel_rfl, by kernel_rfl, by kernel_rfl, rfl⟩) ?_
  obtain ⟨x18, hx18, H⟩ := bindS H
  refine OpsW.gcall (c := cond (cond (cond (cond (cond (cond (cond (cond (cond (cond (cond (cond (cond (x1.2 == (0 : Int)) (x2.2 == (180 : Int)) false) (x3.2 == (220 : Int)) false) (x4.2 == (180 : Int)) false) (x5.2.2 == (0 : Int)) false) (x6.2.2 == (220 : Int)) false) (x7.2.2 == (180 : Int)) false) (x8.2.2 == (0 : Int)) false) x10 false) x12 false) x14 false) ((x15.length : Int) == (0 : Int)) false) ((x16.length : Int) == (0 : Int)) false) x17 false) (r := .bool x18) [] rfl (by kernel_rfl) rfl rfl rfl rfl (fun hc => ⟨glAll_sound ⟨hc, hc, trivial⟩, (.cons (.pur rfl) (.cons (.pur rfl) .nil)), f_R01_Same_ok (condT hc hx18), .inl ⟨rfl, rfl⟩⟩) ?_
  refine OpsW.seg 3 [142, 141, 20, 19] [(cond (cond (cond (cond (cond (cond (cond (cond (cond (cond (cond (cond (cond (x1.2 == (0 : Int)) (x2.2 == (180 : Int)) false) (x3.2 == (220 : Int)) false) (x4.2 == (180 : Int)) false) (x5.2.2 == (0 : Int)) false) (x6.2.2 == (220 : Int)) false) (x7.2.2 == (180 : Int)) false) (x8.2.2 == (0 : Int)) false) x10 false) x12 false) x14 false) ((x15.length : Int) == (0 : Int)) false) ((x16.length : Int) == (0 : Int)) false) x17 false) = true → (cond (cond (cond (cond (cond (cond (cond (cond (cond (cond (cond (cond (cond (x1.2 == (0 : Int)) (x2.2 == (180 : Int)) false) (x3.2 == (220 : Int)) false) (x4.2 == (180 : Int)) false) (x5.2.2 == (0 : Int)) false) (x6.2.2 == (220 : Int)) false) (x7.2.2 == (180 : Int)) false) (x8.2.2 == (0 : Int)) false) x10 false) x12 false) x14 false) ((x15.length : Int) == (0 : Int)) false) ((x16.length : Int) == (0 : Int)) false) x17 false) = true] [(142, .cnd (cond (cond (cond (cond (cond (cond (cond (cond (cond (cond (cond (cond (cond (cond (x1.2 == (0 : Int)) (x2.2 == (180 : Int)) false) (x3.2 == (220 : Int)) false) (x4.2 == (180 : Int)) false) (x5.2.2 == (0 : Int)) false) (x6.2.2 == (220 : Int)) false) (x7.2.2 == (180 : Int)) false) (x8.2.2 == (0 : Int)) false) x10 false) x12 false) x14 false) ((x15.length : Int) == (0 : Int)) false) ((x16.length : Int) == (0 : Int)) false) x17 false) x18 false) (slA (eI .i64) x5.2.1)), (141, .bool (cond (cond (cond (cond (cond (cond (cond (cond (cond (cond (cond (cond (cond (cond (x1.2 == (0 : Int)) (x2.2 == (180 : Int)) false) (x3.2 == (220 : Int)) false) (x4.2 == (180 : Int)) false) (x5.2.2 == (0 : Int)) false) (x6.2.2 == (220 : Int)) false) (x7.2.2 == (180 : Int)) false) (x8.2.2 == (0 : Int)) false) x10 false) x12 false) x14 false) ((x15.length : Int) == (0 : Int)) false) ((x16.length : Int) == (0 : Int)) false) x17 false) x18 false)), (20, slA (eI .i64) x8.2.1), (19, slA (eI .u8) x8.1)] (by kernel_rfl) ⟨(fun h => by first | exact h | simpa using h), trivial⟩ ?_
  refine OpsW.gbuildTI (c := cond (cond (cond (cond (cond (cond (cond (cond (cond (cond (cond (cond (cond (cond (x1.2 == (0 : Int)) (x2.2 == (180 : Int)) false) (x3.2 == (220 : Int)) false) (x4.2 == (180 : Int)) false) (x5.2.2 == (0 : Int)) false) (x6.2.2 == (220 : Int)) false) (x7.2.2 == (180 : Int)) false) (x8.2.2 == (0 : Int)) false) x10 false) x12 false) x14 false) ((x15.length : Int) == (0 : Int)) false) ((x16.length : Int) == (0 : Int)) false) x17 false) x18 false) (enc := eI .i64) [(9 : Int), (10 : Int)] rfl rfl rfl rfl rfl E23 (fun _ => rfl) (by decide) rfl (fun hc => ⟨trivial, by kernel_rfl, by kernel_rfl, by kernel_rfl, rfl⟩) ?_
  obtain ⟨x19, hx19, H⟩ := bindS H
  refine OpsW.gcall (c := cond (cond (cond (cond (cond (cond (cond (cond (cond (cond (cond (cond (cond (cond (x1.2 == (0 : Int)) (x2.2 == (180 : Int)) false) (x3.2 == (220 : Int)) false) (x4.2 == (180 : Int)) false) (x5.2.2 == (0 : Int)) false) (x6.2.2 == (220 : Int)) false) (x7.2.2 == (180 : Int)) false) (x8.2.2 == (0 : Int)) false) x10 false) x12 false) x14 false) ((x15.length : Int) == (0 : Int)) false) ((x16.length : Int) == (0 : Int)) false) x17 false) x18 false) (r := .bool x19) [] rfl (by kernel_rfl) rfl rfl rfl rfl (fun hc => ⟨glAll_sound ⟨hc, hc, trivial⟩, (.cons (.pur rfl) (.cons (.pur rfl) .nil)), f_R22_Ints_ok (condT hc hx19), .inl ⟨rfl, rfl⟩⟩) ?_
  refine OpsW.seg 3 [147, 146, 20] [(cond (cond (cond (cond (cond (cond (cond (cond (cond (cond (cond (cond (cond (cond (x1.2 == (0 : Int)) (x2.2 == (180 : Int)) false) (x3.2 == (220 : Int)) false) (x4.2 == (180 : Int)) false) (x5.2.2 == (0 : Int)) false) (x6.2.2 == (220 : Int)) false) (x7.2.2 == (180 : Int)) false) (x8.2.2 == (0 : Int)) false) x10 false) x12 false) x14 false) ((x15.length : Int) == (0 : Int)) false) ((x16.length : Int) == (0 : Int)) false) x17 false) x18 false) = true → (cond (cond (cond (cond (cond (cond (cond (cond (cond (cond (cond (cond (cond (cond (x1.2 == (0 : Int)) (x2.2 == (180 : Int)) false) (x3.2 == (220 : Int)) false) (x4.2 == (180 : Int)) false) (x5.2.2 == (0 : Int)) false) (x6.2.2 == (220 : Int)) false) (x7.2.2 == (180 : Int)) false) (x8.2.2 == (0 : Int)) false) x10 false) x12 false) x14 false) ((x15.length : Int) == (0 : Int)) false) ((x16.length : Int) == (0 : Int)) false) x17 false) x18 false) = true] [(147, .cnd (cond (cond (cond (cond (cond (cond (cond (cond (cond (cond (cond (cond (cond (cond (cond (x1.2 == (0 : Int)) (x2.2 == (180 : Int)) false) (x3.2 == (220 : Int)) false) (x4.2 == (180 : Int)) false) (x5.2.2 == (0 : Int)) false) (x6.2.2 == (220 : Int)) false) (x7.2.2 == (180 : Int)) false) (x8.2.2 == (0 : Int)) false) x10 false) x12 false) x14 false) ((x15.length : Int) == (0 : Int)) false) ((x16.length : Int) == (0 : Int)) false) x17 false) x18 false) x19 false) (slA (eI .u8) x8.1)), (146, .bool (cond (cond (cond (cond (cond (cond (cond (cond (cond (cond (cond (cond (cond (cond (cond (x1.2 == (0 : Int)) (x2.2 == (180 : Int)) false) (x3.2 == (220 : Int)) false) (x4.2 == (180 : Int)) false) (x5.2.2 == (0 : Int)) false) (x6.2.2 == (220 : Int)) false) (x7.2.2 == (180 : Int)) false) (x8.2.2 == (0 : Int)) false) x10 false) x12 false) x14 false) ((x15.length : Int) == (0 : Int)) false) ((x16.length : Int) == (0 : Int)) false) x17 false) x18 false) x19 false)), (20, slA (eI .i64) x8.2.1)] (by kernel_rfl) ⟨(fun h => by first | exact h | simpa using h), trivial⟩ ?_
  refine OpsW.gbuildTI (c := cond (cond (cond (cond (cond (cond (cond (cond (cond (cond (cond (cond (cond (cond (cond (x1.2 == (0 : Int)) (x2.2 == (180 : Int)) false) (x3.2 == (220 : Int)) false) (x4.2 == (180 : Int)) false) (x5.2.2 == (0 : Int)) false) (x6.2.2 == (220 : Int)) false) (x7.2.2 == (180 : Int)) false) (x8.2.2 == (0 : Int)) false) x10 false) x12 false) x14 false) ((x15.length : Int) == (0 : Int)) false) ((x16.length : Int) == (0 : Int)) false) x17 false) x18 false) x19 false) (enc := eI .u8) [(5 : Int), (0 : Int), (60 : Int), (1 : Int)] rfl rfl rfl rfl rfl E34 (fun _ => rfl) (by decide) rfl (fun hc => ⟨trivial, by kernel_rfl, by kernel_rfl, by kernel_rfl, rfl⟩) ?_
  obtain ⟨x20, hx20, H⟩ := bindS H
  refine OpsW.gcall (c := cond (cond (cond (cond (cond (cond (cond (cond (cond (cond (cond (cond (cond (cond (cond (x1.2 == (0 : Int)) (x2.2 == (180 : Int)) false) (x3.2 == (220 : Int)) false) (x4.2 == (180 : Int)) false) (x5.2.2 == (0 : Int)) false) (x6.2.2 == (220 : Int)) false) (x7.2.2 == (180 : Int)) false) (x8.2.2 == (0 : Int)) false) x10 false) x12 false) x14 false) ((x15.length : Int) == (0 : Int)) false) ((x16.length : Int) == (0 : Int)) false) x17 false) x18 false) x19 false) (r := .bool x20) [] rfl (by kernel_rfl) rfl rfl rfl rfl (fun hc => ⟨glAll_sound ⟨hc, hc, trivial⟩, (.cons (.pur rfl) (.cons (.pur rfl) .nil)), f_R01_Same_ok (condT hc hx20), .inl ⟨rfl, rfl⟩⟩) ?_
  refine OpsW.seg 7 [0] [(cond (cond (cond (cond (cond (cond (cond (cond (cond (cond (cond (cond (cond (cond (cond (x1.2 == (0 : Int)) (x2.2 == (180 : Int)) false) (x3.2 == (220 : Int)) false) (x4.2 == (180 : Int)) false) (x5.2.2 == (0 : Int)) false) (x6.2.2 == (220 : Int)) false) (x7.2.2 == (180 : Int)) false) (x8.2.2 == (0 : Int)) false) x10 false) x12 false) x14 false) ((x15.length : Int) == (0 : Int)) false) ((x16.length : Int) == (0 : Int)) false) x17 false) x18 false) x19 false) = true → (cond (cond (cond (cond (cond (cond (cond (cond (cond (cond (cond (cond (cond (cond (cond (x1.2 == (0 : Int)) (x2.2 == (180 : Int)) false) (x3.2 == (220 : Int)) false) (x4.2 == (180 : Int)) false) (x5.2.2 == (0 : Int)) false) (x6.2.2 == (220 : Int)) false) (x7.2.2 == (180 : Int)) false) (x8.2.2 == (0 : Int)) false) x10 false) x12 false) x14 false) ((x15.length : Int) == (0 : Int)) false) ((x16.length : Int) == (0 : Int)) false) x17 false) x18 false) x19 false) = true, (cond (cond (cond (cond (cond (cond (cond (cond (cond (cond (cond (cond (cond (cond (cond (cond (x1.2 == (0 : Int)) (x2.2 == (180 : Int)) false) (x3.2 == (220 : Int)) false) (x4.2 == (180 : Int)) false) (x5.2.2 == (0 : Int)) false) (x6.2.2 == (220 : Int)) false) (x7.2.2 == (180 : Int)) false) (x8.2.2 == (0 : Int)) false) x10 false) x12 false) x14 false) ((x15.length : Int) == (0 : Int)) false) ((x16.length : Int) == (0 : Int)) false) x17 false) x18 false) x19 false) x20 false) = true → (cond (cond (cond (cond (cond (cond (cond (cond (cond (cond (cond (cond (cond (cond (cond (cond (x1.2 == (0 : Int)) (x2.2 == (180 : Int)) false) (x3.2 == (220 : Int)) false) (x4.2 == (180 : Int)) false) (x5.2.2 == (0 : Int)) false) (x6.2.2 == (220 : Int)) false) (x7.2.2 == (180 : Int)) false) (x8.2.2 == (0 : Int)) false) x10 false) x12 false) x14 false) ((x15.length : Int) == (0 : Int)) false) ((x16.length : Int) == (0 : Int)) false) x17 false) x18 false) x19 false) x20 false) = true, (cond (cond (cond (cond (cond (cond (cond (cond (cond (cond (cond (cond (cond (cond (cond (cond (x1.2 == (0 : Int)) (x2.2 == (180 : Int)) false) (x3.2 == (220 : Int)) false) (x4.2 == (180 : Int)) false) (x5.2.2 == (0 : Int)) false) (x6.2.2 == (220 : Int)) false) (x7.2.2 == (180 : Int)) false) (x8.2.2 == (0 : Int)) false) x10 false) x12 false) x14 false) ((x15.length : Int) == (0 : Int)) false) ((x16.length : Int) == (0 : Int)) false) x17 false) x18 false) x19 false) x20 false) = true → (cond (cond (cond (cond (cond (cond (cond (cond (cond (cond (cond (cond (cond (cond (cond (cond (x1.2 == (0 : Int)) (x2.2 == (180 : Int)) false) (x3.2 == (220 : Int)) false) (x4.2 == (180 : Int)) false) (x5.2.2 == (0 : Int)) false) (x6.2.2 == (220 : Int)) false) (x7.2.2 == (180 : Int)) false) (x8.2.2 == (0 : Int)) false) x10 false) x12 false) x14 false) ((x15.length : Int) == (0 : Int)) false) ((x16.length : Int) == (0 : Int)) false) x17 false) x18 false) x19 false) x20 false) = true, (cond (cond (cond (cond (cond (cond (cond (cond (cond (cond (cond (cond (cond (cond (cond (cond (x1.2 == (0 : Int)) (x2.2 == (180 : Int)) false) (x3.2 == (220 : Int)) false) (x4.2 == (180 : Int)) false) (x5.2.2 == (0 : Int)) false) (x6.2.2 == (220 : Int)) false) (x7.2.2 == (180 : Int)) false) (x8.2.2 == (0 : Int)) false) x10 false) x12 false) x14 false) ((x15.length : Int) == (0 : Int)) false) ((x16.length : Int) == (0 : Int)) false) x17 false) x18 false) x19 false) x20 false) = true → (cond (cond (cond (cond (cond (cond (cond (cond (cond (cond (cond (cond (cond (cond (cond (cond (x1.2 == (0 : Int)) (x2.2 == (180 : Int)) false) (x3.2 == (220 : Int)) false) (x4.2 == (180 : Int)) false) (x5.2.2 == (0 : Int)) false) (x6.2.2 == (220 : Int)) false) (x7.2.2 == (180 : Int)) false) (x8.2.2 == (0 : Int)) false) x10 false) x12 false) x14 false) ((x15.length : Int) == (0 : Int)) false) ((x16.length : Int) == (0 : Int)) false) x17 false) x18 false) x19 false) x20 false) = true] [(0, .bool (cond (cond (cond (cond (cond (cond (cond (cond (cond (cond (cond (cond (cond (cond (cond (cond (cond (x1.2 == (0 : Int)) (x2.2 == (180 : Int)) false) (x3.2 == (220 : Int)) false) (x4.2 == (180 : Int)) false) (x5.2.2 == (0 : Int)) false) (x6.2.2 == (220 : Int)) false) (x7.2.2 == (180 : Int)) false) (x8.2.2 == (0 : Int)) false) x10 false) x12 false) x14 false) ((x15.length : Int) == (0 : Int)) false) ((x16.length : Int) == (0 : Int)) false) x17 false) x18 false) x19 false) x20 false) ((x8.2.1.length : Int) == (0 : Int)) false))] (by kernel_rfl) ⟨(fun h => by first | exact h | simpa using h), (fun h => h), (fun h => h), (fun h => by first | exact h | simpa using h), trivial⟩ ?_
  refine OpsW.nil ?_
  obtain rfl := Option.some.inj H
  refine AW.recast (env' := [(0, .bool (cond (cond (cond (cond (cond (cond (cond (cond (cond (cond (cond (cond (cond (cond (cond (cond (cond (x1.2 == (0 : Int)) (x2.2 == (180 : Int)) false) (x3.2 == (220 : Int)) false) (x4.2 == (180 : Int)) false) (x5.2.2 == (0 : Int)) false) (x6.2.2 == (220 : Int)) false) (x7.2.2 == (180 : Int)) false) (x8.2.2 == (0 : Int)) false) x10 false) x12 false) x14 false) ((x15.length : Int) == (0 : Int)) false) ((x16.length : Int) == (0 : Int)) false) x17 false) x18 false) x19 false) x20 false) ((x8.2.1.length : Int) == (0 : Int)) false))]) (h' := []) (StC.pure (.cons .im .nil)) ?_
  refine AW.ret ?_
  try simp only [Ex.then, Ex.inBlock, Ex.noGoto, Ex.jump, reduceIte, Nat.reduceEqDiff, reduceCtorEq]
  refine Done.gen rfl (.tmp .nil) ?_
  show _ = _
  kernel_rfl
def f_L22_NoteNumbersMatchReference_b1 (t1 : List Int) (x3 : List Int) (loop5 : (Int) → Option Bool) (v4 : Int) (loop16 : (Int) → Option Bool) (v15 : Int) : Option Bool :=
  cond (decide (v15 < (([x3, t1].getD v4.toNat []).length : Int))) (
    (f_note_After ([x3, t1].getD v4.toNat []) v15).bind fun x18 =>
    (f_R22_After ([x3, t1].getD v4.toNat []) v15).bind fun x19 =>
    (f_R22_Ints x18 x19).bind fun x20 =>
    cond (!x20) (
      some false) (
      G (inR (v15 + (1 : Int))) <|
      loop16 (v15 + (1 : Int)))) (
    G (inR (v4 + (1 : Int))) <|
    loop5 (v4 + (1 : Int)))
def f_L22_NoteNumbersMatchReference_b2 (t1 : List Int) (t2 : Int) (x1 : Bool) (x3 : List Int) (loop5 : (Int) → Option Bool) (v4 : Int) : Option Bool :=
  cond (decide (v4 < (2 : Int))) (
    G (0 ≤ v4 ∧ v4 < ([x3, t1].length : Int)) <|
    (f_note_Numbers ([x3, t1].getD v4.toNat [])).bind fun x8 =>
    (f_R22_Numbers ([x3, t1].getD v4.toNat [])).bind fun x9 =>
    (f_R22_Ints x8 x9).bind fun x10 =>
    (cond (!(!x10)) (f_note_After ([x3, t1].getD v4.toNat []) t2) (some [])).bind fun x11 =>
    (cond (!(!x10)) (f_R22_After ([x3, t1].getD v4.toNat []) t2) (some [])).bind fun x12 =>
    (cond (!(!x10)) (f_R22_Ints x11 x12) (some false)).bind fun x13 =>
    cond (cond (!x10) true (!x13)) (
      some false) (
      iter (fun loop (s : Int) => f_L22_NoteNumbersMatchReference_b1 t1 x3 loop5 v4 loop s) 1000000 (0 : Int))) (
    some x1)
def f_L22_NoteNumbersMatchReference (t0 : List Int) (t1 : List Int) (t2 : Int) : Option Bool :=
  (f_L22_sanity).bind fun x1 =>
  cond (decide ((20 : Int) < (t1.length : Int))) (
    some x1) (
    (f_R22_Kinds t0 (20 : Int)).bind fun x3 =>
    iter (fun loop (s : Int) => f_L22_NoteNumbersMatchReference_b2 t1 t2 x1 x3 loop s) 1000000 (0 : Int))
theorem f_L22_NoteNumbersMatchReference_ok {t0 : List Int} {t1 : List Int} {t2 : Int} {r : Bool} (H : f_L22_NoteNumbersMatchReference t0 t1 t2 = some r) : QSpec Tryd.prog 3 [slA (eI .u8) t0, slA (eI .i64) t1, .int .i64 t2] (.bool r) := by
  refine Spec.of_AW Tryd.func3 rfl (by simp [Tryd.ntmps3]) ?_
  rw [Tryd.ntmps3]
  unfold f_L22_NoteNumbersMatchReference at H
  change AW _ _ _ [(0, slA (eI .u8) t0), (1, slA (eI .i64) t1), (2, .int .i64 t2)] [] _
  refine AW.regionSeq ?_
  refine OpsW.seg 1 [0, 1, 2] [] [(0, slA (eI .u8) t0), (1, slA (eI .i64) t1), (2, .int .i64 t2)] (by kernel_rfl) trivial ?_
  refine OpsW.nil ?_
  refine AW.regionSeq ?_
  obtain ⟨x1, hx1, H⟩ := bindS H
  refine OpsW.qcall rfl (by kernel_rfl) rfl rfl (glAll_sound trivial) .nil (f_L22_sanity_ok hx1) rfl ?_
  refine OpsW.seg 1 [7, 0, 1, 2] [] [(7, .bool x1), (0, slA (eI .u8) t0), (1, slA (eI .i64) t1), (2, .int .i64 t2)] (by kernel_rfl) trivial ?_
  refine OpsW.nil ?_
  refine AW.seq ?_
  refine AW.regionSeq ?_
  refine OpsW.seg 3 [14, 7, 0, 1, 2] [] [(14, .bool (decide ((20 : Int) < (t1.length : Int)))), (7, .bool x1), (0, slA (eI .u8) t0), (1, slA (eI .i64) t1), (2, .int .i64 t2)] (by kernel_rfl) trivial ?_
  refine OpsW.nil ?_
  refine AW.cond (b := decide ((20 : Int) < (t1.length : Int))) rfl (fun c2 => ?_) (fun c2 => ?_)
  · replace H := condT c2 H
    refine AW.regionSeq ?_
    refine OpsW.seg 2 [6] [] [(6, .bool x1)] (by kernel_rfl) trivial ?_
    refine OpsW.nil ?_
    obtain rfl := Option.some.inj H
    refine AW.recast (env' := [(6, .bool x1)]) (h' := []) (StC.pure (.cons .im .nil)) ?_
    refine AW.ret ?_
    try simp only [Ex.then, Ex.inBlock, Ex.noGoto, Ex.jump, reduceIte, Nat.reduceEqDiff, reduceCtorEq]
    refine Done.gen rfl (.tmp .nil) ?_
    show _ = _
    kernel_rfl
  · replace H := condF c2 H
    refine AW.skip ?_
    refine AW.regionSeq ?_
    refine OpsW.seg 1 [16, 7, 1, 2] [] [(16, slA (eI .u8) t0), (7, .bool x1), (1, slA (eI .i64) t1), (2, .int .i64 t2)] (by kernel_rfl) trivial ?_
    obtain ⟨x3, hx3, H⟩ := bindS H
    refine OpsW.qcall rfl (by kernel_rfl) rfl rfl (glAll_sound trivial) (.cons (.pur rfl) (.cons (.pur rfl) .nil)) (f_R22_Kinds_ok hx3) rfl ?_
    refine OpsW.seg 1 [18, 17, 7, 2] [] [(18, slA (eI .i64) t1), (17, slA (eI .i64) x3), (7, .bool x1), (2, .int .i64 t2)] (by kernel_rfl) trivial ?_
    refine OpsW.buildTI (enc := eL (eI .i64)) [x3, t1] rfl rfl rfl E26 (fun _ => rfl) (by decide) ⟨trivial, by kernel_rfl, by kernel_rfl, by kernel_rfl, rfl⟩ ?_
    refine OpsW.seg 1 [8, 7, 2] [] [(8, slA (eL (eI .i64)) [x3, t1]), (7, .bool x1), (2, .int .i64 t2)] (by kernel_rfl) trivial ?_
    refine OpsW.nil ?_
    refine AW.seq ?_
    refine AW.regionSeq ?_
    refine OpsW.seg 1 [9, 8, 7, 2] [] [(9, .int .i64 (0 : Int)), (8, slA (eL (eI .i64)) [x3, t1]), (7, .bool x1), (2, .int .i64 t2)] (by kernel_rfl) trivial ?_
    refine OpsW.nil ?_
    refine AW.block ?_
    refine AW.iterK (fun loop (s : Int) => f_L22_NoteNumbersMatchReference_b2 t1 t2 x1 x3 loop s) r (fun (s : Int) => [(2, .int .i64 t2), (7, .bool x1), (8, slA (eL (eI .i64)) [x3, t1]), (9, .int .i64 s)]) (fun (s : Int) => []) ?_ 1000000 (0 : Int) H (StC.pure (.cons .im (.cons .im (.cons .im (.cons .im .nil)))))
    intro loop5 v4 H
    change f_L22_NoteNumbersMatchReference_b2 t1 t2 x1 x3 loop5 v4 = some r at H
    unfold f_L22_NoteNumbersMatchReference_b2 at H
    change AW _ _ _ [(2, .int .i64 t2), (7, .bool x1), (8, slA (eL (eI .i64)) [x3, t1]), (9, .int .i64 v4)] [] _
    refine AW.seq ?_
    refine AW.regionSeq ?_
    refine OpsW.seg 2 [21, 2, 7, 8, 9] [] [(21, .bool (decide (v4 < (2 : Int)))), (2, .int .i64 t2), (7, .bool x1), (8, slA (eL (eI .i64)) [x3, t1]), (9, .int .i64 v4)] (by kernel_rfl) trivial ?_
    refine OpsW.nil ?_
    refine AW.cond (b := decide (v4 < (2 : Int))) rfl (fun c6 => ?_) (fun c6 => ?_)
    · replace H := condT c6 H
      refine AW.skip ?_
      refine AW.seq ?_
      refine AW.block ?_
      refine AW.seq ?_
      refine AW.drawSeq Tryd.checked.mixed (by kernel_rfl) ?_
      obtain ⟨g7, H⟩ := G_some H
      refine QOps.seg (N := 76) 3 [0 ≤ v4 ∧ v4 < ([x3, t1].length : Int)] [(26, .ipt ([x3, t1].flatMap (eL (eI .i64))) (v4.toNat * 1)), (25, .int .i64 v4), (24, slA (eL (eI .i64)) [x3, t1]), (21, .bool (decide (v4 < (2 : Int)))), (2, .int .i64 t2), (7, .bool x1), (8, slA (eL (eI .i64)) [x3, t1]), (9, .int .i64 v4)] (by kernel_rfl) ⟨g7, trivial⟩ ?_
      refine QOps.asU (slA (eI .i64) ([x3, t1].getD v4.toNat [])) rfl (T.load rfl trivial (by kernel_rfl) (fm_cell0 (eL (eI .i64)) 1 (fun _ => rfl) [x3, t1] [] v4.toNat (ltN g7) (fun a => .sl (a.flatMap (eI .i64)) a.length) (fun _ => rfl))) ?_
      obtain ⟨x8, hx8, H⟩ := bindS H
      refine QOps.qcall rfl (by kernel_rfl) rfl (glAll_sound trivial) (.cons (.pur rfl) .nil) (f_note_Numbers_ok hx8) rfl ?_
      refine QOps.seg (N := 76) 3 [0 ≤ v4 ∧ v4 < ([x3, t1].length : Int)] [(31, .ipt ([x3, t1].flatMap (eL (eI .i64))) (v4.toNat * 1)), (30, .int .i64 v4), (29, slA (eL (eI .i64)) [x3, t1]), (28, slA (eI .i64) x8), (27, slA (eI .i64) ([x3, t1].getD v4.toNat [])), (26, .ipt ([x3, t1].flatMap (eL (eI .i64))) (v4.toNat * 1)), (25, .int .i64 v4), (24, slA (eL (eI .i64)) [x3, t1]), (21, .bool (decide (v4 < (2 : Int)))), (2, .int .i64 t2), (7, .bool x1), (8, slA (eL (eI .i64)) [x3, t1]), (9, .int .i64 v4)] (by kernel_rfl) ⟨g7, trivial⟩ ?_
      refine QOps.asU (slA (eI .i64) ([x3, t1].getD v4.toNat [])) rfl (T.load rfl trivial (by kernel_rfl) (fm_cell0 (eL (eI .i64)) 1 (fun _ => rfl) [x3, t1] [] v4.toNat (ltN g7) (fun a => .sl (a.flatMap (eI .i64)) a.length) (fun _ => rfl))) ?_
      obtain ⟨x9, hx9, H⟩ := bindS H
      refine QOps.qcall rfl (by kernel_rfl) rfl (glAll_sound trivial) (.cons (.pur rfl) .nil) (f_R22_Numbers_ok hx9) rfl ?_
      obtain ⟨x10, hx10, H⟩ := bindS H
      refine QOps.qcall rfl (by kernel_rfl) rfl (glAll_sound trivial) (.cons (.pur rfl) (.cons (.pur rfl) .nil)) (f_R22_Ints_ok hx10) rfl ?_
      refine QOps.seg (N := 76) 5 [(!(!x10)) = true → (!(!x10)) = true, (!(!x10)) = true → (!(!x10)) = true, (!(!x10)) = true → (0 ≤ v4 ∧ v4 < ([x3, t1].length : Int))] [(39, .cnd (!(!x10)) (.ipt ([x3, t1].flatMap (eL (eI .i64))) (v4.toNat * 1))), (38, .cnd (!(!x10)) (.int .i64 v4)), (37, .cnd (!(!x10)) (slA (eL (eI .i64)) [x3, t1])), (36, .bool (!x10)), (35, .bool (!x10)), (34, .bool x10), (33, slA (eI .i64) x9), (32, slA (eI .i64) ([x3, t1].getD v4.toNat [])), (31, .ipt ([x3, t1].flatMap (eL (eI .i64))) (v4.toNat * 1)), (30, .int .i64 v4), (29, slA (eL (eI .i64)) [x3, t1]), (28, slA (eI .i64) x8), (27, slA (eI .i64) ([x3, t1].getD v4.toNat [])), (26, .ipt ([x3, t1].flatMap (eL (eI .i64))) (v4.toNat * 1)), (25, .int .i64 v4), (24, slA (eL (eI .i64)) [x3, t1]), (21, .bool (decide (v4 < (2 : Int)))), (2, .int .i64 t2), (7, .bool x1), (8, slA (eL (eI .i64)) [x3, t1]), (9, .int .i64 v4)] (by kernel_rfl) ⟨(fun h => h), (fun h => h), (fun _ => g7), trivial⟩ ?_
      refine QOps.asG (c := !(!x10)) (slA (eI .i64) ([x3, t1].getD v4.toNat [])) rfl rfl rfl (fun hc => T.load rfl hc (by kernel_rfl) (fm_cell0 (eL (eI .i64)) 1 (fun _ => rfl) [x3, t1] [] v4.toNat (ltN g7) (fun a => .sl (a.flatMap (eI .i64)) a.length) (fun _ => rfl))) ?_
      refine QOps.seg (N := 76) 1 [] [(41, .cnd (!(!x10)) (.int .i64 t2)), (40, .cnd (!(!x10)) (slA (eI .i64) ([x3, t1].getD v4.toNat []))), (39, .cnd (!(!x10)) (.ipt ([x3, t1].flatMap (eL (eI .i64))) (v4.toNat * 1))), (38, .cnd (!(!x10)) (.int .i64 v4)), (37, .cnd (!(!x10)) (slA (eL (eI .i64)) [x3, t1])), (36, .bool (!x10)), (35, .bool (!x10)), (34, .bool x10), (33, slA (eI .i64) x9), (32, slA (eI .i64) ([x3, t1].getD v4.toNat [])), (31, .ipt ([x3, t1].flatMap (eL (eI .i64))) (v4.toNat * 1)), (30, .int .i64 v4), (29, slA (eL (eI .i64)) [x3, t1]), (28, slA (eI .i64) x8), (27, slA (eI .i64) ([x3, t1].getD v4.toNat [])), (26, .ipt ([x3, t1].flatMap (eL (eI .i64))) (v4.toNat * 1)), (25, .int .i64 v4), (24, slA (eL (eI .i64)) [x3, t1]), (21, .bool (decide (v4 < (2 : Int)))), (2, .int .i64 t2), (7, .bool x1), (8, slA (eL (eI .i64)) [x3, t1]), (9, .int .i64 v4)] (by kernel_rfl) trivial ?_
      obtain ⟨x11, hx11, H⟩ := bindS H
      refine QOps.gcall (c := !(!x10)) (r := slA (eI .i64) x11) [] rfl (by kernel_rfl) rfl rfl rfl (fun hc => ⟨glAll_sound ⟨hc, hc, trivial⟩, (.cons (.pur rfl) (.cons (.pur rfl) .nil)), f_note_After_ok (condT hc hx11), .inl ⟨rfl, rfl⟩⟩) ?_
      refine QOps.seg (N := 76) 3 [(!(!x10)) = true → (!(!x10)) = true, (!(!x10)) = true → (!(!x10)) = true, (!(!x10)) = true → (0 ≤ v4 ∧ v4 < ([x3, t1].length : Int))] [(45, .cnd (!(!x10)) (.ipt ([x3, t1].flatMap (eL (eI .i64))) (v4.toNat * 1))), (44, .cnd (!(!x10)) (.int .i64 v4)), (43, .cnd (!(!x10)) (slA (eL (eI .i64)) [x3, t1])), (42, .cnd (!(!x10)) (slA (eI .i64) x11)), (41, .cnd (!(!x10)) (.int .i64 t2)), (40, .cnd (!(!x10)) (slA (eI .i64) ([x3, t1].getD v4.toNat []))), (39, .cnd (!(!x10)) (.ipt ([x3, t1].flatMap (eL (eI .i64))) (v4.toNat * 1))), (38, .cnd (!(!x10)) (.int .i64 v4)), (37, .cnd (!(!x10)) (slA (eL (eI .i64)) [x3, t1])), (36, .bool (!x10)), (35, .bool (!x10)), (34, .bool x10), (33, slA (eI .i64) x9), (32, slA (eI .i64) ([x3, t1].getD v4.toNat [])), (31, .ipt ([x3, t1].flatMap (eL (eI .i64))) (v4.toNat * 1)), (30, .int .i64 v4), (29, slA (eL (eI .i64)) [x3, t1]), (28, slA (eI .i64) x8), (27, slA (eI .i64) ([x3, t1].getD v4.toNat [])), (26, .ipt ([x3, t1].flatMap (eL (eI .i64))) (v4.toNat * 1)), (25, .int .i64 v4), (24, slA (eL (eI .i64)) [x3, t1]), (21, .bool (decide (v4 < (2 : Int)))), (2, .int .i64 t2), (7, .bool x1), (8, slA (eL (eI .i64)) [x3, t1]), (9, .int .i64 v4)] (by kernel_rfl) ⟨(fun h => h), (fun h => h), (fun _ => g7), trivial⟩ ?_
      refine QOps.asG (c := !(!x10)) (slA (eI .i64) ([x3, t1].getD v4.toNat [])) rfl rfl rfl (fun hc => T.load rfl hc (by kernel_rfl) (fm_cell0 (eL (eI .i64)) 1 (fun _ => rfl) [x3, t1] [] v4.toNat (ltN g7) (fun a => .sl (a.flatMap (eI .i64)) a.length) (fun _ => rfl))) ?_
      refine QOps.seg (N := 76) 1 [] [(47, .cnd (!(!x10)) (.int .i64 t2)), (46, .cnd (!(!x10)) (slA (eI .i64) ([x3, t1].getD v4.toNat []))), (45, .cnd (!(!x10)) (.ipt ([x3, t1].flatMap (eL (eI .i64))) (v4.toNat * 1))), (44, .cnd (!(!x10)) (.int .i64 v4)), (43, .cnd (!(!x10)) (slA (eL (eI .i64)) [x3, t1])), (42, .cnd (!(!x10)) (slA (eI .i64) x11)), (41, .cnd (!(!x10)) (.int .i64 t2)), (40, .cnd (!(!x10)) (slA (eI .i64) ([x3, t1].getD v4.toNat []))), (39, .cnd (!(!x10)) (.ipt ([x3, t1].flatMap (eL (eI .i64))) (v4.toNat * 1))), (38, .cnd (!(!x10)) (.int .i64 v4)), (37, .cnd (!(!x10)) (slA (eL (eI .i64)) [x3, t1])), (36, .bool (!x10)), (35, .bool (!x10)), (34, .bool x10), (33, slA (eI .i64) x9), (32, slA (eI .i64) ([x3, t1].getD v4.toNat [])), (31, .ipt ([x3, t1].flatMap (eL (eI .i64))) (v4.toNat * 1)), (30, .int .i64 v4), (29, slA (eL (eI .i64)) [x3, t1]), (28, slA (eI .i64) x8), (27, slA (eI .i64) ([x3, t1].getD v4.toNat [])), (26, .ipt ([x3, t1].flatMap (eL (eI .i64))) (v4.toNat * 1)), (25, .int .i64 v4), (24, slA (eL (eI .i64)) [x3, t1]), (21, .bool (decide (v4 < (2 : Int)))), (2, .int .i64 t2), (7, .bool x1), (8, slA (eL (eI .i64)) [x3, t1]), (9, .int .i64 v4)] (by kernel_rfl) trivial ?_
      obtain ⟨x12, hx12, H⟩ := bindS H
      refine QOps.gcall (c := !(!x10)) (r := slA (eI .i64) x12) [] rfl (by kernel_rfl) rfl rfl rfl (fun hc => ⟨glAll_sound ⟨hc, hc, trivial⟩, (.cons (.pur rfl) (.cons (.pur rfl) .nil)), f_R22_After_ok (condT hc hx12), .inl ⟨rfl, rfl⟩⟩) ?_
      obtain ⟨x13, hx13, H⟩ := bindS H
      refine QOps.gcall (c := !(!x10)) (r := .bool x13) [] rfl (by kernel_rfl) rfl rfl rfl (fun hc => ⟨glAll_sound ⟨hc, hc, trivial⟩, (.cons (.pur rfl) (.cons (.pur rfl) .nil)), f_R22_Ints_ok (condT hc hx13), .inl ⟨rfl, rfl⟩⟩) ?_
      refine QOps.seg (N := 76) 2 [(!(!x10)) = true → (!(!x10)) = true, (!x10) = false → (!(!x10)) = true] [(51, .bool (cond (!x10) true (!x13))), (50, .cnd (!(!x10)) (.bool (!x13))), (49, .cnd (!(!x10)) (.bool x13)), (48, .cnd (!(!x10)) (slA (eI .i64) x12)), (47, .cnd (!(!x10)) (.int .i64 t2)), (46, .cnd (!(!x10)) (slA (eI .i64) ([x3, t1].getD v4.toNat []))), (45, .cnd (!(!x10)) (.ipt ([x3, t1].flatMap (eL (eI .i64))) (v4.toNat * 1))), (44, .cnd (!(!x10)) (.int .i64 v4)), (43, .cnd (!(!x10)) (slA (eL (eI .i64)) [x3, t1])), (42, .cnd (!(!x10)) (slA (eI .i64) x11)), (41, .cnd (!(!x10)) (.int .i64 t2)), (40, .cnd (!(!x10)) (slA (eI .i64) ([x3, t1].getD v4.toNat []))), (39, .cnd (!(!x10)) (.ipt ([x3, t1].flatMap (eL (eI .i64))) (v4.toNat * 1))), (38, .cnd (!(!x10)) (.int .i64 v4)), (37, .cnd (!(!x10)) (slA (eL (eI .i64)) [x3, t1])), (36, .bool (!x10)), (35, .bool (!x10)), (34, .bool x10), (33, slA (eI .i64) x9), (32, slA (eI .i64) ([x3, t1].getD v4.toNat [])), (31, .ipt ([x3, t1].flatMap (eL (eI .i64))) (v4.toNat * 1)), (30, .int .i64 v4), (29, slA (eL (eI .i64)) [x3, t1]), (28, slA (eI .i64) x8), (27, slA (eI .i64) ([x3, t1].getD v4.toNat [])), (26, .ipt ([x3, t1].flatMap (eL (eI .i64))) (v4.toNat * 1)), (25, .int .i64 v4), (24, slA (eL (eI .i64)) [x3, t1]), (21, .bool (decide (v4 < (2 : Int)))), (2, .int .i64 t2), (7, .bool x1), (8, slA (eL (eI .i64)) [x3, t1]), (9, .int .i64 v4)] (by kernel_rfl) ⟨(fun h => h), (fun h => by first | exact h | simpa using h), trivial⟩ ?_
      refine QOps.nil ?_
      refine AW.trim [51, 2, 7, 8, 9] [(51, .bool (cond (!x10) true (!x13))), (2, .int .i64 t2), (7, .bool x1), (8, slA (eL (eI .i64)) [x3, t1]), (9, .int .i64 v4)] (by kernel_rfl) ?_
      refine AW.cond (b := cond (!x10) true (!x13)) rfl (fun c14 => ?_) (fun c14 => ?_)
      · replace H := condT c14 H
        refine AW.regionSeq ?_
        refine OpsW.seg 1 [6] [] [(6, .bool false)] (by kernel_rfl) trivial ?_
        refine OpsW.nil ?_
        obtain rfl := Option.some.inj H
        refine AW.recast (env' := [(6, .bool false)]) (h' := []) (StC.pure (.cons .im .nil)) ?_
        refine AW.ret ?_
        try simp only [Ex.then, Ex.inBlock, Ex.noGoto, Ex.jump, reduceIte, Nat.reduceEqDiff, reduceCtorEq]
        refine Done.gen rfl (.tmp .nil) ?_
        show _ = _
        kernel_rfl
      · replace H := condF c14 H
        refine AW.skip ?_
        refine AW.regionSeq ?_
        refine OpsW.seg 1 [10, 2, 7, 8, 9] [] [(10, .int .i64 (0 : Int)), (2, .int .i64 t2), (7, .bool x1), (8, slA (eL (eI .i64)) [x3, t1]), (9, .int .i64 v4)] (by kernel_rfl) trivial ?_
        refine OpsW.nil ?_
        refine AW.block ?_
        refine AW.iterK (fun loop (s : Int) => f_L22_NoteNumbersMatchReference_b1 t1 x3 loop5 v4 loop s) r (fun (s : Int) => [(2, .int .i64 t2), (7, .bool x1), (8, slA (eL (eI .i64)) [x3, t1]), (9, .int .i64 v4), (10, .int .i64 s)]) (fun (s : Int) => []) ?_ 1000000 (0 : Int) H (StC.pure (.cons .im (.cons .im (.cons .im (.cons .im (.cons .im .nil))))))
        intro loop16 v15 H
        change f_L22_NoteNumbersMatchReference_b1 t1 x3 loop5 v4 loop16 v15 = some r at H
        unfold f_L22_NoteNumbersMatchReference_b1 at H
        change AW _ _ _ [(2, .int .i64 t2), (7, .bool x1), (8, slA (eL (eI .i64)) [x3, t1]), (9, .int .i64 v4), (10, .int .i64 v15)] [] _
        refine AW.seq ?_
        refine AW.regionSeq ?_
        refine OpsW.seg 4 [55, 52, 2, 7, 8, 9, 10] [0 ≤ v4 ∧ v4 < ([x3, t1].length : Int)] [(55, .ipt ([x3, t1].flatMap (eL (eI .i64))) (v4.toNat * 1)), (52, .int .i64 v15), (2, .int .i64 t2), (7, .bool x1), (8, slA (eL (eI .i64)) [x3, t1]), (9, .int .i64 v4), (10, .int .i64 v15)] (by kernel_rfl) ⟨g7, trivial⟩ ?_
        refine OpsW.asU (slA (eI .i64) ([x3, t1].getD v4.toNat [])) rfl rfl (T.load rfl trivial (by kernel_rfl) (fm_cell0 (eL (eI .i64)) 1 (fun _ => rfl) [x3, t1] [] v4.toNat (ltN g7) (fun a => .sl (a.flatMap (eI .i64)) a.length) (fun _ => rfl))) ?_
        refine OpsW.seg 2 [58, 2, 7, 8, 9, 10] [] [(58, .bool (decide (v15 < (([x3, t1].getD v4.toNat []).length : Int)))), (2, .int .i64 t2), (7, .bool x1), (8, slA (eL (eI .i64)) [x3, t1]), (9, .int .i64 v4), (10, .int .i64 v15)] (by kernel_rfl) trivial ?_
        refine OpsW.nil ?_
        refine AW.cond (b := decide (v15 < (([x3, t1].getD v4.toNat []).length : Int))) rfl (fun c17 => ?_) (fun c17 => ?_)
        · replace H := condT c17 H
          refine AW.skip ?_
          refine AW.seq ?_
          refine AW.block ?_
          refine AW.drawSeq Tryd.checked.mixed (by kernel_rfl) ?_
          refine QOps.seg (N := 76) 3 [0 ≤ v4 ∧ v4 < ([x3, t1].length : Int)] [(63, .ipt ([x3, t1].flatMap (eL (eI .i64))) (v4.toNat * 1)), (62, .int .i64 v4), (61, slA (eL (eI .i64)) [x3, t1]), (58, .bool (decide (v15 < (([x3, t1].getD v4.toNat []).length : Int)))), (2, .int .i64 t2), (7, .bool x1), (8, slA (eL (eI .i64)) [x3, t1]), (9, .int .i64 v4), (10, .int .i64 v15)] (by kernel_rfl) ⟨g7, trivial⟩ ?_
          refine QOps.asU (slA (eI .i64) ([x3, t1].getD v4.toNat [])) rfl (T.load rfl trivial (by kernel_rfl) (fm_cell0 (eL (eI .i64)) 1 (fun _ => rfl) [x3, t1] [] v4.toNat (ltN g7) (fun a => .sl (a.flatMap (eI .i64)) a.length) (fun _ => rfl))) ?_
          refine QOps.seg (N := 76) 1 [] [(65, .int .i64 v15), (64, slA (eI .i64) ([x3, t1].getD v4.toNat [])), (63, .ipt ([x3, t1].flatMap (eL (eI .i64))) (v4.toNat * 1)), (62, .int .i64 v4), (61, slA (eL (eI .i64)) [x3, t1]), (58, .bool (decide (v15 < (([x3, t1].getD v4.toNat []).length : Int)))), (2, .int .i64 t2), (7, .bool x1), (8, slA (eL (eI .i64)) [x3, t1]), (9, .int .i64 v4), (10, .int .i64 v15)] (by kernel_rfl) trivial ?_
          obtain ⟨x18, hx18, H⟩ := bindS H
          refine QOps.qcall rfl (by kernel_rfl) rfl (glAll_sound trivial) (.cons (.pur rfl) (.cons (.pur rfl) .nil)) (f_note_After_ok hx18) rfl ?_
          refine QOps.seg (N := 76) 3 [0 ≤ v4 ∧ v4 < ([x3, t1].length : Int)] [(69, .ipt ([x3, t1].flatMap (eL (eI .i64))) (v4.toNat * 1)), (68, .int .i64 v4), (67, slA (eL (eI .i64)) [x3, t1]), (66, slA (eI .i64) x18), (65, .int .i64 v15), (64, slA (eI .i64) ([x3, t1].getD v4.toNat [])), (63, .ipt ([x3, t1].flatMap (eL (eI .i64))) (v4.toNat * 1)), (62, .int .i64 v4), (61, slA (eL (eI .i64)) [x3, t1]), (58, .bool (decide (v15 < (([x3, t1].getD v4.toNat []).length : Int)))), (2, .int .i64 t2), (7, .bool x1), (8, slA (eL (eI .i64)) [x3, t1]), (9, .int .i64 v4), (10, .int .i64 v15)] (by kernel_rfl) ⟨g7, trivial⟩ ?_
          refine QOps.asU (slA (eI .i64) ([x3, t1].getD v4.toNat [])) rfl (T.load rfl trivial (by kernel_rfl) (fm_cell0 (eL (eI .i64)) 1 (fun _ => rfl) [x3, t1] [] v4.toNat (ltN g7) (fun a => .sl (a.flatMap (eI .i64)) a.length) (fun _ => rfl))) ?_
          refine QOps.seg (N := 76) 1 [] [(71, .int .i64 v15), (70, slA (eI .i64) ([x3, t1].getD v4.toNat [])), (69, .ipt ([x3, t1].flatMap (eL (eI .i64))) (v4.toNat * 1)), (68, .int .i64 v4), (67, slA (eL (eI .i64)) [x3, t1]), (66, slA (eI .i64) x18), (65, .int .i64 v15), (64, slA (eI .i64) ([x3, t1].getD v4.toNat [])), (63, .ipt ([x3, t1].flatMap (eL (eI .i64))) (v4.toNat * 1)), (62, .int .i64 v4), (61, slA (eL (eI .i64)) [x3, t1]), (58, .bool (decide (v15 < (([x3, t1].getD v4.toNat []).length : Int)))), (2, .int .i64 t2), (7, .bool x1), (8, slA (eL (eI .i64)) [x3, t1]), (9, .int .i64 v4), (10, .int .i64 v15)] (by kernel_rfl) trivial ?_
          obtain ⟨x19, hx19, H⟩ := bindS H
          refine QOps.qcall rfl (by kernel_rfl) rfl (glAll_sound trivial) (.cons (.pur rfl) (.cons (.pur rfl) .nil)) (f_R22_After_ok hx19) rfl ?_
          obtain ⟨x20, hx20, H⟩ := bindS H
          refine QOps.qcall rfl (by kernel_rfl) rfl (glAll_sound trivial) (.cons (.pur rfl) (.cons (.pur rfl) .nil)) (f_R22_Ints_ok hx20) rfl ?_
          refine QOps.seg (N := 76) 1 [] [(74, .bool (!x20)), (73, .bool x20), (72, slA (eI .i64) x19), (71, .int .i64 v15), (70, slA (eI .i64) ([x3, t1].getD v4.toNat [])), (69, .ipt ([x3, t1].flatMap (eL (eI .i64))) (v4.toNat * 1)), (68, .int .i64 v4), (67, slA (eL (eI .i64)) [x3, t1]), (66, slA (eI .i64) x18), (65, .int .i64 v15), (64, slA (eI .i64) ([x3, t1].getD v4.toNat [])), (63, .ipt ([x3, t1].flatMap (eL (eI .i64))) (v4.toNat * 1)), (62, .int .i64 v4), (61, slA (eL (eI .i64)) [x3, t1]), (58, .bool (decide (v15 < (([x3, t1].getD v4.toNat []).length : Int)))), (2, .int .i64 t2), (7, .bool x1), (8, slA (eL (eI .i64)) [x3, t1]), (9, .int .i64 v4), (10, .int .i64 v15)] (by kernel_rfl) trivial ?_
          refine QOps.nil ?_
          refine AW.trim [74, 2, 7, 8, 9, 10] [(74, .bool (!x20)), (2, .int .i64 t2), (7, .bool x1), (8, slA (eL (eI .i64)) [x3, t1]), (9, .int .i64 v4), (10, .int .i64 v15)] (by kernel_rfl) ?_
          refine AW.cond (b := !x20) rfl (fun c21 => ?_) (fun c21 => ?_)
          · replace H := condT c21 H
            refine AW.regionSeq ?_
            refine OpsW.seg 1 [6] [] [(6, .bool false)] (by kernel_rfl) trivial ?_
            refine OpsW.nil ?_
            obtain rfl := Option.some.inj H
            refine AW.recast (env' := [(6, .bool false)]) (h' := []) (StC.pure (.cons .im .nil)) ?_
            refine AW.ret ?_
            try simp only [Ex.then, Ex.inBlock, Ex.noGoto, Ex.jump, reduceIte, Nat.reduceEqDiff, reduceCtorEq]
            refine Done.gen rfl (.tmp .nil) ?_
            show _ = _
            kernel_rfl
          · replace H := condF c21 H
            refine AW.skip ?_
            refine AW.region ?_
            obtain ⟨g22, H⟩ := G_some H
            refine OpsW.seg 3 [10, 2, 7, 8, 9] [inR (v15 + (1 : Int))] [(10, .int .i64 (v15 + (1 : Int))), (2, .int .i64 t2), (7, .bool x1), (8, slA (eL (eI .i64)) [x3, t1]), (9, .int .i64 v4)] (by kernel_rfl) ⟨g22, trivial⟩ ?_
            refine OpsW.nil ?_
            show ∃ y, _ ∧ StC _ _ _ _
            exact ⟨v15 + (1 : Int), H, (StC.pure (.cons .im (.cons .im (.cons .im (.cons .im (.cons .im .nil))))))⟩
        · replace H := condF c17 H
          refine AW.exit ?_
          refine AW.region ?_
          obtain ⟨g23, H⟩ := G_some H
          refine OpsW.seg 3 [9, 2, 7, 8] [inR (v4 + (1 : Int))] [(9, .int .i64 (v4 + (1 : Int))), (2, .int .i64 t2), (7, .bool x1), (8, slA (eL (eI .i64)) [x3, t1])] (by kernel_rfl) ⟨g23, trivial⟩ ?_
          refine OpsW.nil ?_
          show ∃ y, _ ∧ StC _ _ _ _
          exact ⟨v4 + (1 : Int), H, (StC.pure (.cons .im (.cons .im (.cons .im (.cons .im .nil)))))⟩
    · replace H := condF c6 H
      refine AW.exit ?_
      refine AW.regionSeq ?_
      refine OpsW.seg 2 [6] [] [(6, .bool x1)] (by kernel_rfl) trivial ?_
      refine OpsW.nil ?_
      obtain rfl := Option.some.inj H
      refine AW.recast (env' := [(6, .bool x1)]) (h' := []) (StC.pure (.cons .im .nil)) ?_
      refine AW.ret ?_
      try simp only [Ex.then, Ex.inBlock, Ex.noGoto, Ex.jump, reduceIte, Nat.reduceEqDiff, reduceCtorEq]
      refine Done.gen rfl (.tmp .nil) ?_
      show _ = _
      kernel_rfl
def f_L22_NoteBelongs_k1 (loop7 : (Int × Int × Int) → Option Bool) (v6 : Int) (v9 : Int) (v10 : Int) : Option Bool :=
  G (inR (v6 + (1 : Int))) <|
  loop7 (v9, v10, v6 + (1 : Int))
def f_L22_NoteBelongs_b1 (loop7 : (Int × Int × Int) → Option Bool) (v6 : Int) (v12 : Int) (x13 : (List Int)) (loop16 : (Int × Int) → Option Bool) (v14 : Int) (v15 : Int) : Option Bool :=
  cond (decide (v15 < (x13.length : Int))) (
    G (0 ≤ v15 ∧ v15 < (x13.length : Int)) <|
    cond ((x13.getD v15.toNat (0 : Int)) != v14) (
      some false) (
      G (inR (v14 + (1 : Int))) <|
      G (inR (v15 + (1 : Int))) <|
      loop16 (v14 + (1 : Int), v15 + (1 : Int)))) (
    f_L22_NoteBelongs_k1 loop7 v6 v12 v14)
def f_L22_NoteBelongs_k2 (v3 : List Int) (loop7 : (Int × Int × Int) → Option Bool) (v5 : Int) (v6 : Int) (v12 : Int) : Option Bool :=
  (f_note_After v3 v6).bind fun x13 =>
  iter (fun loop (s : Int × Int) => f_L22_NoteBelongs_b1 loop7 v6 v12 x13 loop s.1 s.2) 1000000 (v5, (0 : Int))
def f_L22_NoteBelongs_b2 (x1 : Bool) (v3 : List Int) (loop7 : (Int × Int × Int) → Option Bool) (v4 : Int) (v5 : Int) (v6 : Int) : Option Bool :=
  cond (decide (v6 < (v3.length : Int))) (
    G (0 ≤ v6 ∧ v6 < (v3.length : Int)) <|
    cond ((v3.getD v6.toNat (0 : Int)) == (4 : Int)) (
      G (inR (v4 + (1 : Int))) <|
      f_L22_NoteBelongs_k2 v3 loop7 v5 v6 (v4 + (1 : Int))) (
      f_L22_NoteBelongs_k2 v3 loop7 v5 v6 v4)) (
    G (x1 = true → inR (v4 + (1 : Int))) <|
    some (cond x1 (v5 == (v4 + (1 : Int))) false))
def f_L22_NoteBelongs_k3 (x1 : Bool) (v3 : List Int) : Option Bool :=
  iter (fun loop (s : Int × Int × Int) => f_L22_NoteBelongs_b2 x1 v3 loop s.1 s.2.1 s.2.2) 1000000 ((0 : Int), (1 : Int), (0 : Int))
def f_L22_NoteBelongs (t0 : List Int) : Option Bool :=
  (f_L22_sanity).bind fun x1 =>
  (f_R22_Kinds t0 (20 : Int)).bind fun x2 =>
  G ((decide ((0 : Int) < (x2.length : Int))) = true → (0 ≤ (0 : Int) ∧ (0 : Int) < (x2.length : Int))) <|
  cond (cond (decide ((0 : Int) < (x2.length : Int))) ((x2.getD (0 : Int).toNat (0 : Int)) == (4 : Int)) false) (
    G (0 ≤ (0 : Int) ∧ (0 : Int) < (x2.length : Int)) <|
    f_L22_NoteBelongs_k3 x1 (x2.set (0 : Int).toNat (1 : Int))) (
    f_L22_NoteBelongs_k3 x1 x2)
theorem f_L22_NoteBelongs_ok {t0 : List Int} {r : Bool} (H : f_L22_NoteBelongs t0 = some r) : QSpec Tryd.prog 4 [slA (eI .u8) t0] (.bool r) := by
  refine Spec.of_AW Tryd.func4 rfl (by simp [Tryd.ntmps4]) ?_
  rw [Tryd.ntmps4]
  unfold f_L22_NoteBelongs at H
  change AW _ _ _ [(0, slA (eI .u8) t0)] [] _
  refine AW.regionSeq ?_
  refine OpsW.seg 1 [0] [] [(0, slA (eI .u8) t0)] (by kernel_rfl) trivial ?_
  refine OpsW.nil ?_
  refine AW.regionSeq ?_
  obtain ⟨x1, hx1, H⟩ := bindS H
  refine OpsW.qcall rfl (by kernel_rfl) rfl rfl (glAll_sound trivial) .nil (f_L22_sanity_ok hx1) rfl ?_
  refine OpsW.seg 1 [3, 0] [] [(3, .bool x1), (0, slA (eI .u8) t0)] (by kernel_rfl) trivial ?_
  refine OpsW.nil ?_
  refine AW.regionSeq ?_
  refine OpsW.seg 1 [11, 3] [] [(11, slA (eI .u8) t0), (3, .bool x1)] (by kernel_rfl) trivial ?_
  obtain ⟨x2, hx2, H⟩ := bindS H
  refine OpsW.call rfl rfl (by kernel_rfl) [] _ _ rfl (glAll_sound trivial) (.cons (.pur rfl) (.cons (.pur rfl) .nil)) (f_R22_Kinds_own hx2) ?_
  rintro _ _ ⟨rfl, rfl⟩
  refine ⟨fresh_of (by kernel_rfl), .inl rfl, ?_⟩
  change OpsW _ _ _ _ [(12, .rsl 1000 0 0 x2.length), (11, slA (eI .u8) t0), (3, .bool x1)] [(1000, rtA 0 3 1 (eI .i64) x2)] _
  refine OpsW.recast (env' := [(12, .rsl 600 0 0 x2.length), (11, slA (eI .u8) t0), (3, .bool x1)]) (h' := [(600, rtA 0 3 1 (eI .i64) x2)]) (StC.mk (phi [(600, some 1000)]) (.old rfl rfl rfl rfl rfl (CstL.ims _) .nil) rfl (.cons (.rsl rfl rfl rfl rfl rfl rfl) (.cons .im (.cons .im .nil)))) ?_
  refine OpsW.seg 1 [4, 3] [] [(4, .rsl 600 0 0 x2.length), (3, .bool x1)] (by kernel_rfl) trivial ?_
  refine OpsW.recast (env' := [(4, .rsl 4 0 0 x2.length), (3, .bool x1)]) (h' := [(4, rtA 0 3 1 (eI .i64) x2)]) (StC.mk (phi [(4, some 600)]) (.old rfl rfl rfl rfl rfl (CstL.ims _) .nil) rfl (.cons (.rsl rfl rfl rfl rfl rfl rfl) (.cons .im .nil))) ?_
  refine OpsW.nil ?_
  refine AW.joinK (fun (y : (List Int)) => f_L22_NoteBelongs_k3 x1 y) r (fun (y : (List Int)) => [(3, .bool x1), (4, slA (eI .i64) y)]) (fun (y : (List Int)) => []) ?_ ?_
  · refine AW.regionSeq ?_
    obtain ⟨g26, H⟩ := G_some H
    refine OpsW.seg 6 [18, 16, 4, 3] [(decide ((0 : Int) < (x2.length : Int))) = true → (decide ((0 : Int) < (x2.length : Int))) = true, (decide ((0 : Int) < (x2.length : Int))) = true → (0 ≤ (0 : Int) ∧ (0 : Int) < (x2.length : Int))] [(18, .cnd (decide ((0 : Int) < (x2.length : Int))) (.ref 4 0 (0 + (0 : Int).toNat * 1))), (16, .bool (decide ((0 : Int) < (x2.length : Int)))), (4, .rsl 4 0 0 x2.length), (3, .bool x1)] (by kernel_rfl) ⟨(fun h => h), g26, trivial⟩ ?_
    refine OpsW.asG (c := decide ((0 : Int) < (x2.length : Int))) (.int .i64 (x2.getD (0 : Int).toNat (0 : Int))) rfl rfl rfl rfl (fun hc => T.loadR rfl hc (by kernel_rfl) rfl rfl rfl (rt_cell (eI .i64) 1 (fun _ => rfl) x2 (0 : Int) (0 : Int).toNat (ltN (g26 hc)) 0 (fun a => .val (.int .i64 a)) (fun _ => rfl) (by omega))) ?_
    refine OpsW.seg 2 [21, 4, 3] [(decide ((0 : Int) < (x2.length : Int))) = true → (decide ((0 : Int) < (x2.length : Int))) = true, (decide ((0 : Int) < (x2.length : Int))) = true → (decide ((0 : Int) < (x2.length : Int))) = true] [(21, .bool (cond (decide ((0 : Int) < (x2.length : Int))) ((x2.getD (0 : Int).toNat (0 : Int)) == (4 : Int)) false)), (4, .rsl 4 0 0 x2.length), (3, .bool x1)] (by kernel_rfl) ⟨(fun h => h), (fun h => by first | exact h | simpa using h), trivial⟩ ?_
    refine OpsW.nil ?_
    refine AW.cond (b := cond (decide ((0 : Int) < (x2.length : Int))) ((x2.getD (0 : Int).toNat (0 : Int)) == (4 : Int)) false) rfl (fun c27 => ?_) (fun c27 => ?_)
    · replace H := condT c27 H
      refine AW.region ?_
      obtain ⟨g28, H⟩ := G_some H
      refine OpsW.seg 2 [23, 4, 3] [0 ≤ (0 : Int) ∧ (0 : Int) < (x2.length : Int)] [(23, .ref 4 0 (0 + (0 : Int).toNat * 1)), (4, .rsl 4 0 0 x2.length), (3, .bool x1)] (by kernel_rfl) ⟨g28, trivial⟩ ?_
      refine OpsW.storeT (enc := eI .i64) (k := 1) (0 : Int) (1 : Int) [.val (.int .i64 (1 : Int))] (0 : Int).toNat 0 rfl rfl rfl (by exact congrArg (AV.ref 4 0) (by first | omega | rfl | (simp; omega))) trivial trivial rfl (fun _ => rfl) rfl (by kernel_rfl) (okCb_sound (by kernel_rfl)) (ltN g28) (Nat.le_of_ble_eq_true (by kernel_rfl)) rfl ?_
      refine OpsW.weaken [(23, .ref 4 0 (0 + (0 : Int).toNat * 1)), (4, .rsl 4 0 0 ((x2.set (0 : Int).toNat (1 : Int)).length)), (3, .bool x1)] (Env.le_of_eq (by simp only [List.length_set, List.length_reverse])) ?_
      refine OpsW.seg 0 [4, 3] [] [(4, .rsl 4 0 0 ((x2.set (0 : Int).toNat (1 : Int)).length)), (3, .bool x1)] (by kernel_rfl) trivial ?_
      refine OpsW.recast (env' := [(4, slA (eI .i64) (x2.set (0 : Int).toNat (1 : Int))), (3, .bool x1)]) (h' := []) (StC.mk (phi []) .nil rfl (.cons (.frz rfl rfl rfl (frz_all (eI .i64) 1 (fun _ => rfl) (x2.set (0 : Int).toNat (1 : Int))) (fm_length (eI .i64) 1 (fun _ => rfl) (x2.set (0 : Int).toNat (1 : Int))) (phi_ne rfl)) (.cons .im .nil))) ?_
      refine OpsW.nil ?_
      show ∃ y, _ ∧ StC _ _ _ _
      exact ⟨x2.set (0 : Int).toNat (1 : Int), H, (StC.pure (.cons .im (.cons .im .nil)))⟩
    · replace H := condF c27 H
      refine AW.skip ?_
      show ∃ y, _ ∧ StC _ _ _ _
      exact ⟨x2, H, (StC.mk (phi []) .nil rfl (.cons .im (.cons (.frz rfl rfl rfl (frz_all (eI .i64) 1 (fun _ => rfl) x2) (fm_length (eI .i64) 1 (fun _ => rfl) x2) (phi_ne rfl)) .nil)))⟩
  · intro v3 H
    change f_L22_NoteBelongs_k3 x1 v3 = some r at H
    unfold f_L22_NoteBelongs_k3 at H
    change AW _ _ _ [(3, .bool x1), (4, slA (eI .i64) v3)] [] _
    refine AW.regionSeq ?_
    refine OpsW.seg 1 [5, 3, 4] [] [(5, .int .i64 (0 : Int)), (3, .bool x1), (4, slA (eI .i64) v3)] (by kernel_rfl) trivial ?_
    refine OpsW.nil ?_
    refine AW.regionSeq ?_
    refine OpsW.seg 1 [6, 5, 3, 4] [] [(6, .int .i64 (1 : Int)), (5, .int .i64 (0 : Int)), (3, .bool x1), (4, slA (eI .i64) v3)] (by kernel_rfl) trivial ?_
    refine OpsW.nil ?_
    refine AW.seq ?_
    refine AW.regionSeq ?_
    refine OpsW.seg 1 [7, 6, 5, 3, 4] [] [(7, .int .i64 (0 : Int)), (6, .int .i64 (1 : Int)), (5, .int .i64 (0 : Int)), (3, .bool x1), (4, slA (eI .i64) v3)] (by kernel_rfl) trivial ?_
    refine OpsW.nil ?_
    refine AW.block ?_
    refine AW.iterK (fun loop (s : Int × Int × Int) => f_L22_NoteBelongs_b2 x1 v3 loop s.1 s.2.1 s.2.2) r (fun (s : Int × Int × Int) => [(3, .bool x1), (4, slA (eI .i64) v3), (5, .int .i64 s.1), (6, .int .i64 s.2.1), (7, .int .i64 s.2.2)]) (fun (s : Int × Int × Int) => []) ?_ 1000000 ((0 : Int), (1 : Int), (0 : Int)) H (StC.pure (.cons .im (.cons .im (.cons .im (.cons .im (.cons .im .nil))))))
    intro loop7 s H
    obtain ⟨v4, v5, v6⟩ := s
    change f_L22_NoteBelongs_b2 x1 v3 loop7 v4 v5 v6 = some r at H
    unfold f_L22_NoteBelongs_b2 at H
    change AW _ _ _ [(3, .bool x1), (4, slA (eI .i64) v3), (5, .int .i64 v4), (6, .int .i64 v5), (7, .int .i64 v6)] [] _
    refine AW.seq ?_
    refine AW.regionSeq ?_
    refine OpsW.seg 4 [27, 3, 4, 5, 6, 7] [] [(27, .bool (decide (v6 < (v3.length : Int)))), (3, .bool x1), (4, slA (eI .i64) v3), (5, .int .i64 v4), (6, .int .i64 v5), (7, .int .i64 v6)] (by kernel_rfl) trivial ?_
    refine OpsW.nil ?_
    refine AW.cond (b := decide (v6 < (v3.length : Int))) rfl (fun c8 => ?_) (fun c8 => ?_)
    · replace H := condT c8 H
      refine AW.skip ?_
      refine AW.joinK (fun (y : Int × Int) => f_L22_NoteBelongs_k1 loop7 v6 y.1 y.2) r (fun (y : Int × Int) => [(3, .bool x1), (4, slA (eI .i64) v3), (5, .int .i64 y.1), (6, .int .i64 y.2), (7, .int .i64 v6)]) (fun (y : Int × Int) => []) ?_ ?_
      · refine AW.block ?_
        refine AW.joinK (fun (y : Int) => f_L22_NoteBelongs_k2 v3 loop7 v5 v6 y) r (fun (y : Int) => [(3, .bool x1), (4, slA (eI .i64) v3), (5, .int .i64 y), (6, .int .i64 v5), (7, .int .i64 v6)]) (fun (y : Int) => []) ?_ ?_
        · refine AW.regionSeq ?_
          obtain ⟨g22, H⟩ := G_some H
          refine OpsW.seg 3 [32, 3, 4, 5, 6, 7] [0 ≤ v6 ∧ v6 < (v3.length : Int)] [(32, .ipt (v3.flatMap (eI .i64)) (v6.toNat * 1)), (3, .bool x1), (4, slA (eI .i64) v3), (5, .int .i64 v4), (6, .int .i64 v5), (7, .int .i64 v6)] (by kernel_rfl) ⟨g22, trivial⟩ ?_
          refine OpsW.asU (.int .i64 (v3.getD v6.toNat (0 : Int))) rfl rfl (T.load rfl trivial (by kernel_rfl) (fm_cell0 (eI .i64) 1 (fun _ => rfl) v3 (0 : Int) v6.toNat (ltN g22) (fun a => .val (.int .i64 a)) (fun _ => rfl))) ?_
          refine OpsW.seg 1 [34, 3, 4, 5, 6, 7] [] [(34, .bool ((v3.getD v6.toNat (0 : Int)) == (4 : Int))), (3, .bool x1), (4, slA (eI .i64) v3), (5, .int .i64 v4), (6, .int .i64 v5), (7, .int .i64 v6)] (by kernel_rfl) trivial ?_
          refine OpsW.nil ?_
          refine AW.cond (b := (v3.getD v6.toNat (0 : Int)) == (4 : Int)) rfl (fun c23 => ?_) (fun c23 => ?_)
          · replace H := condT c23 H
            refine AW.region ?_
            obtain ⟨g24, H⟩ := G_some H
            refine OpsW.seg 3 [5, 3, 4, 6, 7] [inR (v4 + (1 : Int))] [(5, .int .i64 (v4 + (1 : Int))), (3, .bool x1), (4, slA (eI .i64) v3), (6, .int .i64 v5), (7, .int .i64 v6)] (by kernel_rfl) ⟨g24, trivial⟩ ?_
            refine OpsW.nil ?_
            show ∃ y, _ ∧ StC _ _ _ _
            exact ⟨v4 + (1 : Int), H, (StC.pure (.cons .im (.cons .im (.cons .im (.cons .im (.cons .im .nil))))))⟩
          · replace H := condF c23 H
            refine AW.skip ?_
            show ∃ y, _ ∧ StC _ _ _ _
            exact ⟨v4, H, (StC.pure (.cons .im (.cons .im (.cons .im (.cons .im (.cons .im .nil))))))⟩
        · intro v12 H
          change f_L22_NoteBelongs_k2 v3 loop7 v5 v6 v12 = some r at H
          unfold f_L22_NoteBelongs_k2 at H
          change AW _ _ _ [(3, .bool x1), (4, slA (eI .i64) v3), (5, .int .i64 v12), (6, .int .i64 v5), (7, .int .i64 v6)] [] _
          refine AW.regionSeq ?_
          refine OpsW.seg 2 [38, 37, 3, 4, 5, 6, 7] [] [(38, .int .i64 v6), (37, slA (eI .i64) v3), (3, .bool x1), (4, slA (eI .i64) v3), (5, .int .i64 v12), (6, .int .i64 v5), (7, .int .i64 v6)] (by kernel_rfl) trivial ?_
          obtain ⟨x13, hx13, H⟩ := bindS H
          refine OpsW.qcall rfl (by kernel_rfl) rfl rfl (glAll_sound trivial) (.cons (.pur rfl) (.cons (.pur rfl) .nil)) (f_note_After_ok hx13) rfl ?_
          refine OpsW.seg 1 [8, 3, 4, 5, 6, 7] [] [(8, slA (eI .i64) x13), (3, .bool x1), (4, slA (eI .i64) v3), (5, .int .i64 v12), (6, .int .i64 v5), (7, .int .i64 v6)] (by kernel_rfl) trivial ?_
          refine OpsW.nil ?_
          refine AW.regionSeq ?_
          refine OpsW.seg 1 [9, 8, 3, 4, 5, 6, 7] [] [(9, .int .i64 (0 : Int)), (8, slA (eI .i64) x13), (3, .bool x1), (4, slA (eI .i64) v3), (5, .int .i64 v12), (6, .int .i64 v5), (7, .int .i64 v6)] (by kernel_rfl) trivial ?_
          refine OpsW.nil ?_
          refine AW.block ?_
          refine AW.iterK (fun loop (s : Int × Int) => f_L22_NoteBelongs_b1 loop7 v6 v12 x13 loop s.1 s.2) r (fun (s : Int × Int) => [(3, .bool x1), (4, slA (eI .i64) v3), (5, .int .i64 v12), (6, .int .i64 s.1), (7, .int .i64 v6), (8, slA (eI .i64) x13), (9, .int .i64 s.2)]) (fun (s : Int × Int) => []) ?_ 1000000 (v5, (0 : Int)) H (StC.pure (.cons .im (.cons .im (.cons .im (.cons .im (.cons .im (.cons .im (.cons .im .nil))))))))
          intro loop16 s H
          obtain ⟨v14, v15⟩ := s
          change f_L22_NoteBelongs_b1 loop7 v6 v12 x13 loop16 v14 v15 = some r at H
          unfold f_L22_NoteBelongs_b1 at H
          change AW _ _ _ [(3, .bool x1), (4, slA (eI .i64) v3), (5, .int .i64 v12), (6, .int .i64 v14), (7, .int .i64 v6), (8, slA (eI .i64) x13), (9, .int .i64 v15)] [] _
          refine AW.seq ?_
          refine AW.regionSeq ?_
          refine OpsW.seg 4 [43, 3, 4, 5, 6, 7, 8, 9] [] [(43, .bool (decide (v15 < (x13.length : Int)))), (3, .bool x1), (4, slA (eI .i64) v3), (5, .int .i64 v12), (6, .int .i64 v14), (7, .int .i64 v6), (8, slA (eI .i64) x13), (9, .int .i64 v15)] (by kernel_rfl) trivial ?_
          refine OpsW.nil ?_
          refine AW.cond (b := decide (v15 < (x13.length : Int))) rfl (fun c17 => ?_) (fun c17 => ?_)
          · replace H := condT c17 H
            refine AW.skip ?_
            refine AW.seq ?_
            refine AW.block ?_
            refine AW.seq ?_
            refine AW.regionSeq ?_
            obtain ⟨g18, H⟩ := G_some H
            refine OpsW.seg 3 [48, 3, 4, 5, 6, 7, 8, 9] [0 ≤ v15 ∧ v15 < (x13.length : Int)] [(48, .ipt (x13.flatMap (eI .i64)) (v15.toNat * 1)), (3, .bool x1), (4, slA (eI .i64) v3), (5, .int .i64 v12), (6, .int .i64 v14), (7, .int .i64 v6), (8, slA (eI .i64) x13), (9, .int .i64 v15)] (by kernel_rfl) ⟨g18, trivial⟩ ?_
            refine OpsW.asU (.int .i64 (x13.getD v15.toNat (0 : Int))) rfl rfl (T.load rfl trivial (by kernel_rfl) (fm_cell0 (eI .i64) 1 (fun _ => rfl) x13 (0 : Int) v15.toNat (ltN g18) (fun a => .val (.int .i64 a)) (fun _ => rfl))) ?_
            refine OpsW.seg 2 [51, 3, 4, 5, 6, 7, 8, 9] [] [(51, .bool ((x13.getD v15.toNat (0 : Int)) != v14)), (3, .bool x1), (4, slA (eI .i64) v3), (5, .int .i64 v12), (6, .int .i64 v14), (7, .int .i64 v6), (8, slA (eI .i64) x13), (9, .int .i64 v15)] (by kernel_rfl) trivial ?_
            refine OpsW.nil ?_
            refine AW.cond (b := (x13.getD v15.toNat (0 : Int)) != v14) rfl (fun c19 => ?_) (fun c19 => ?_)
            · replace H := condT c19 H
              refine AW.regionSeq ?_
              refine OpsW.seg 1 [2] [] [(2, .bool false)] (by kernel_rfl) trivial ?_
              refine OpsW.nil ?_
              obtain rfl := Option.some.inj H
              refine AW.recast (env' := [(2, .bool false)]) (h' := []) (StC.pure (.cons .im .nil)) ?_
              refine AW.ret ?_
              try simp only [Ex.then, Ex.inBlock, Ex.noGoto, Ex.jump, reduceIte, Nat.reduceEqDiff, reduceCtorEq]
              refine Done.gen rfl (.tmp .nil) ?_
              show _ = _
              kernel_rfl
            · replace H := condF c19 H
              refine AW.skip ?_
              refine AW.region ?_
              obtain ⟨g20, H⟩ := G_some H
              refine OpsW.seg 3 [6, 3, 4, 5, 7, 8, 9] [inR (v14 + (1 : Int))] [(6, .int .i64 (v14 + (1 : Int))), (3, .bool x1), (4, slA (eI .i64) v3), (5, .int .i64 v12), (7, .int .i64 v6), (8, slA (eI .i64) x13), (9, .int .i64 v15)] (by kernel_rfl) ⟨g20, trivial⟩ ?_
              refine OpsW.nil ?_
              refine AW.region ?_
              obtain ⟨g21, H⟩ := G_some H
              refine OpsW.seg 3 [9, 6, 3, 4, 5, 7, 8] [inR (v15 + (1 : Int))] [(9, .int .i64 (v15 + (1 : Int))), (6, .int .i64 (v14 + (1 : Int))), (3, .bool x1), (4, slA (eI .i64) v3), (5, .int .i64 v12), (7, .int .i64 v6), (8, slA (eI .i64) x13)] (by kernel_rfl) ⟨g21, trivial⟩ ?_
              refine OpsW.nil ?_
              show ∃ y, _ ∧ StC _ _ _ _
              exact ⟨(v14 + (1 : Int), v15 + (1 : Int)), H, (StC.pure (.cons .im (.cons .im (.cons .im (.cons .im (.cons .im (.cons .im (.cons .im .nil))))))))⟩
          · replace H := condF c17 H
            refine AW.exit ?_
            show ∃ y, _ ∧ StC _ _ _ _
            exact ⟨(v12, v14), H, (StC.pure (.cons .im (.cons .im (.cons .im (.cons .im (.cons .im .nil))))))⟩
      · rintro ⟨v9, v10⟩ H
        change f_L22_NoteBelongs_k1 loop7 v6 v9 v10 = some r at H
        unfold f_L22_NoteBelongs_k1 at H
        change AW _ _ _ [(3, .bool x1), (4, slA (eI .i64) v3), (5, .int .i64 v9), (6, .int .i64 v10), (7, .int .i64 v6)] [] _
        refine AW.region ?_
        obtain ⟨g11, H⟩ := G_some H
        refine OpsW.seg 3 [7, 3, 4, 5, 6] [inR (v6 + (1 : Int))] [(7, .int .i64 (v6 + (1 : Int))), (3, .bool x1), (4, slA (eI .i64) v3), (5, .int .i64 v9), (6, .int .i64 v10)] (by kernel_rfl) ⟨g11, trivial⟩ ?_
        refine OpsW.nil ?_
        show ∃ y, _ ∧ StC _ _ _ _
        exact ⟨(v9, v10, v6 + (1 : Int)), H, (StC.pure (.cons .im (.cons .im (.cons .im (.cons .im (.cons .im .nil))))))⟩
    · replace H := condF c8 H
      refine AW.exit ?_
      refine AW.regionSeq ?_
      obtain ⟨g25, H⟩ := G_some H
      refine OpsW.seg 8 [2] [x1 = true → x1 = true, x1 = true → inR (v4 + (1 : Int)), x1 = true → x1 = true, x1 = true → x1 = true, x1 = true → x1 = true] [(2, .bool (cond x1 (v5 == (v4 + (1 : Int))) false))] (by kernel_rfl) ⟨(fun h => h), g25, (fun h => h), (fun h => h), (fun h => by first | exact h | simpa using h), trivial⟩ ?_
      refine OpsW.nil ?_
      obtain rfl := Option.some.inj H
      refine AW.recast (env' := [(2, .bool (cond x1 (v5 == (v4 + (1 : Int))) false))]) (h' := []) (StC.pure (.cons .im .nil)) ?_
      refine AW.ret ?_
      try simp only [Ex.then, Ex.inBlock, Ex.noGoto, Ex.jump, reduceIte, Nat.reduceEqDiff, reduceCtorEq]
      refine Done.gen rfl (.tmp .nil) ?_
      show _ = _
      kernel_rfl
def f_L22_NoteReferences_b1 (t1 : Int) (t2 : Int) (x1 : Bool) (x2 : List Int) (loop5 : ((List Int) × Int) → Option Bool) (v3 : List Int) (v4 : Int) : Option Bool :=
  cond (decide (v4 < (IntKind.wrap .i64 (Int.tmod t2 (7 : Int))))) (
    G (inR ((1 : Int) + (IntKind.wrap .i64 (Int.tmod t1 (99990 : Int))))) <|
    G (inR (((1 : Int) + (IntKind.wrap .i64 (Int.tmod t1 (99990 : Int)))) + v4)) <|
    G (room 8 (v3.length + 1)) <|
    G (inR (v4 + (1 : Int))) <|
    loop5 (v3 ++ [((1 : Int) + (IntKind.wrap .i64 (Int.tmod t1 (99990 : Int)))) + v4], v4 + (1 : Int))) (
    (f_note_Refer x2 v3).bind fun x11 =>
    (f_note_Refer x2 []).bind fun x12 =>
    (cond (!(cond (x11.2 != (0 : Int)) true (x12.2 != (0 : Int)))) (f_R01_Same x12.1 x2) (some false)).bind fun x13 =>
    G ((!(cond (cond (x11.2 != (0 : Int)) true (x12.2 != (0 : Int))) true (!x13))) = true → inR ((4 : Int) * (v3.length : Int))) <|
    G ((!(cond (cond (x11.2 != (0 : Int)) true (x12.2 != (0 : Int))) true (!x13))) = true → inR ((x2.length : Int) + ((4 : Int) * (v3.length : Int)))) <|
    G ((!(cond (cond (cond (x11.2 != (0 : Int)) true (x12.2 != (0 : Int))) true (!x13)) true (decide ((x11.1.length : Int) < ((x2.length : Int) + ((4 : Int) * (v3.length : Int))))))) = true → inR ((8 : Int) * (v3.length : Int))) <|
    G ((!(cond (cond (cond (x11.2 != (0 : Int)) true (x12.2 != (0 : Int))) true (!x13)) true (decide ((x11.1.length : Int) < ((x2.length : Int) + ((4 : Int) * (v3.length : Int))))))) = true → inR ((x2.length : Int) + ((8 : Int) * (v3.length : Int)))) <|
    cond (cond (cond (cond (cond (x11.2 != (0 : Int)) true (x12.2 != (0 : Int))) true (!x13)) true (decide ((x11.1.length : Int) < ((x2.length : Int) + ((4 : Int) * (v3.length : Int)))))) true (decide (((x2.length : Int) + ((8 : Int) * (v3.length : Int))) < (x11.1.length : Int)))) (
      some false) (
      (f_note_Strip x11.1).bind fun x19 =>
      (cond (cond x1 (x19.2.2 == (0 : Int)) false) (f_R01_Same x19.1 x2) (some false)).bind fun x20 =>
      (cond (cond (cond x1 (x19.2.2 == (0 : Int)) false) x20 false) (f_R22_Ints x19.2.1 v3) (some false)).bind fun x21 =>
      some (cond (cond (cond x1 (x19.2.2 == (0 : Int)) false) x20 false) x21 false)))
def f_L22_NoteReferences (t0 : List (List Int)) (t1 : Int) (t2 : Int) : Option Bool :=
  (f_L22_sanity).bind fun x1 =>
  (f_R22_Made t0 (5 : Int)).bind fun x2 =>
  iter (fun loop (s : (List Int) × Int) => f_L22_NoteReferences_b1 t1 t2 x1 x2 loop s.1 s.2) 1000000 (([] : List Int), (0 : Int))
theorem f_L22_NoteReferences_ok {t0 : List (List Int)} {t1 : Int} {t2 : Int} {r : Bool} (H : f_L22_NoteReferences t0 t1 t2 = some r) : QSpec Tryd.prog 5 [slA (eL (eI .u8)) t0, .int .u32 t1, .int .u8 t2] (.bool r) := by
  refine Spec.of_AW Tryd.func5 rfl (by simp [Tryd.ntmps5]) ?_
  rw [Tryd.ntmps5]
  unfold f_L22_NoteReferences at H
  change AW _ _ _ [(0, slA (eL (eI .u8)) t0), (1, .int .u32 t1), (2, .int .u8 t2)] [] _
  refine AW.regionSeq ?_
  refine OpsW.seg 1 [0, 1, 2] [] [(0, slA (eL (eI .u8)) t0), (1, .int .u32 t1), (2, .int .u8 t2)] (by kernel_rfl) trivial ?_
  refine OpsW.nil ?_
  refine AW.regionSeq ?_
  obtain ⟨x1, hx1, H⟩ := bindS H
  refine OpsW.qcall rfl (by kernel_rfl) rfl rfl (glAll_sound trivial) .nil (f_L22_sanity_ok hx1) rfl ?_
  refine OpsW.seg 1 [7, 0, 1, 2] [] [(7, .bool x1), (0, slA (eL (eI .u8)) t0), (1, .int .u32 t1), (2, .int .u8 t2)] (by kernel_rfl) trivial ?_
  refine OpsW.nil ?_
  refine AW.regionSeq ?_
  refine OpsW.seg 1 [19, 7, 1, 2] [] [(19, slA (eL (eI .u8)) t0), (7, .bool x1), (1, .int .u32 t1), (2, .int .u8 t2)] (by kernel_rfl) trivial ?_
  obtain ⟨x2, hx2, H⟩ := bindS H
  refine OpsW.qcall rfl (by kernel_rfl) rfl rfl (glAll_sound trivial) (.cons (.pur rfl) (.cons (.pur rfl) .nil)) (f_R22_Made_ok hx2) rfl ?_
  refine OpsW.seg 1 [8, 7, 1, 2] [] [(8, slA (eI .u8) x2), (7, .bool x1), (1, .int .u32 t1), (2, .int .u8 t2)] (by kernel_rfl) trivial ?_
  refine OpsW.nil ?_
  refine AW.regionSeq ?_
  refine OpsW.buildT (enc := eI .i64) ([] : List Int) rfl rfl rfl 21 rfl E23 (fun _ => rfl) (by decide) trivial (by kernel_rfl) (by kernel_rfl) (by kernel_rfl) rfl ?_
  refine OpsW.seg 1 [9, 8, 7, 1, 2] [] [(9, .rsl 21 0 0 (([] : List Int).length)), (8, slA (eI .u8) x2), (7, .bool x1), (1, .int .u32 t1), (2, .int .u8 t2)] (by kernel_rfl) trivial ?_
  refine OpsW.recast (env' := [(9, .rsl 9 0 0 (([] : List Int).length)), (8, slA (eI .u8) x2), (7, .bool x1), (1, .int .u32 t1), (2, .int .u8 t2)]) (h' := [(9, rtA 0 3 1 (eI .i64) ([] : List Int))]) (StC.mk (phi [(9, some 21)]) (.old rfl rfl rfl rfl rfl (CstL.ims _) .nil) rfl (.cons (.rsl rfl rfl rfl rfl rfl rfl) (.cons .im (.cons .im (.cons .im (.cons .im .nil)))))) ?_
  refine OpsW.nil ?_
  refine AW.seq ?_
  refine AW.regionSeq ?_
  refine OpsW.seg 1 [10, 9, 8, 7, 1, 2] [] [(10, .int .i64 (0 : Int)), (9, .rsl 9 0 0 (([] : List Int).length)), (8, slA (eI .u8) x2), (7, .bool x1), (1, .int .u32 t1), (2, .int .u8 t2)] (by kernel_rfl) trivial ?_
  refine OpsW.nil ?_
  refine AW.block ?_
  refine AW.iterK (fun loop (s : (List Int) × Int) => f_L22_NoteReferences_b1 t1 t2 x1 x2 loop s.1 s.2) r (fun (s : (List Int) × Int) => [(1, .int .u32 t1), (2, .int .u8 t2), (7, .bool x1), (8, slA (eI .u8) x2), (9, .rsl 9 0 0 s.1.length), (10, .int .i64 s.2)]) (fun (s : (List Int) × Int) => [(9, rtA 0 3 1 (eI .i64) s.1)]) ?_ 1000000 (([] : List Int), (0 : Int)) H (StC.mk (phi [(9, some 9)]) (.old rfl rfl rfl rfl rfl (CstL.ims _) .nil) rfl (.cons .im (.cons .im (.cons .im (.cons .im (.cons (.rsl rfl rfl rfl rfl rfl rfl) (.cons .im .nil)))))))
  intro loop5 s H
  obtain ⟨v3, v4⟩ := s
  change f_L22_NoteReferences_b1 t1 t2 x1 x2 loop5 v3 v4 = some r at H
  unfold f_L22_NoteReferences_b1 at H
  change AW _ _ _ [(1, .int .u32 t1), (2, .int .u8 t2), (7, .bool x1), (8, slA (eI .u8) x2), (9, .rsl 9 0 0 v3.length), (10, .int .i64 v4)] [(9, rtA 0 3 1 (eI .i64) v3)] _
  refine AW.seq ?_
  refine AW.regionSeq ?_
  refine OpsW.seg 5 [26, 1, 2, 7, 8, 9, 10] [(7 : Int) ≠ 0] [(26, .bool (decide (v4 < (IntKind.wrap .i64 (Int.tmod t2 (7 : Int)))))), (1, .int .u32 t1), (2, .int .u8 t2), (7, .bool x1), (8, slA (eI .u8) x2), (9, .rsl 9 0 0 v3.length), (10, .int .i64 v4)] (by kernel_rfl) ⟨(by decide), trivial⟩ ?_
  refine OpsW.nil ?_
  refine AW.cond (b := decide (v4 < (IntKind.wrap .i64 (Int.tmod t2 (7 : Int))))) rfl (fun c6 => ?_) (fun c6 => ?_)
  · replace H := condT c6 H
    refine AW.skip ?_
    refine AW.seq ?_
    refine AW.block ?_
    refine AW.region ?_
    obtain ⟨g7, H⟩ := G_some H
    obtain ⟨g8, H⟩ := G_some H
    refine OpsW.seg 7 [35, 29, 1, 2, 7, 8, 9, 10] [(99990 : Int) ≠ 0, inR ((1 : Int) + (IntKind.wrap .i64 (Int.tmod t1 (99990 : Int)))), inR (((1 : Int) + (IntKind.wrap .i64 (Int.tmod t1 (99990 : Int)))) + v4)] [(35, .int .i64 (((1 : Int) + (IntKind.wrap .i64 (Int.tmod t1 (99990 : Int)))) + v4)), (29, .rsl 9 0 0 v3.length), (1, .int .u32 t1), (2, .int .u8 t2), (7, .bool x1), (8, slA (eI .u8) x2), (9, .rsl 9 0 0 v3.length), (10, .int .i64 v4)] (by kernel_rfl) ⟨(by decide), g7, g8, trivial⟩ ?_
    obtain ⟨g9, H⟩ := G_some H
    refine OpsW.appendLF (enc := eI .i64) [((1 : Int) + (IntKind.wrap .i64 (Int.tmod t1 (99990 : Int)))) + v4] rfl rfl rfl (by decide) rfl rfl rfl (by simp) E23 (fun _ => rfl) (by decide) trivial (by kernel_rfl) (by kernel_rfl) (by kernel_rfl) rfl rfl rfl g9 ?_
    refine OpsW.seg 1 [9, 1, 2, 7, 8, 10] [] [(9, .rsl 9 1 0 ((v3 ++ [((1 : Int) + (IntKind.wrap .i64 (Int.tmod t1 (99990 : Int)))) + v4]).length)), (1, .int .u32 t1), (2, .int .u8 t2), (7, .bool x1), (8, slA (eI .u8) x2), (10, .int .i64 v4)] (by kernel_rfl) trivial ?_
    refine OpsW.recast (env' := [(9, .rsl 9 0 0 ((v3 ++ [((1 : Int) + (IntKind.wrap .i64 (Int.tmod t1 (99990 : Int)))) + v4]).length)), (1, .int .u32 t1), (2, .int .u8 t2), (7, .bool x1), (8, slA (eI .u8) x2), (10, .int .i64 v4)]) (h' := [(9, rtA 0 3 1 (eI .i64) (v3 ++ [((1 : Int) + (IntKind.wrap .i64 (Int.tmod t1 (99990 : Int)))) + v4]))]) (StC.mk (phi [(9, some 9)]) (.old rfl rfl rfl rfl rfl (CstL.ims _) .nil) rfl (.cons (.rsl rfl rfl rfl rfl rfl rfl) (.cons .im (.cons .im (.cons .im (.cons .im (.cons .im .nil))))))) ?_
    refine OpsW.nil ?_
    refine AW.region ?_
    obtain ⟨g10, H⟩ := G_some H
    refine OpsW.seg 3 [10, 9, 1, 2, 7, 8] [inR (v4 + (1 : Int))] [(10, .int .i64 (v4 + (1 : Int))), (9, .rsl 9 0 0 ((v3 ++ [((1 : Int) + (IntKind.wrap .i64 (Int.tmod t1 (99990 : Int)))) + v4]).length)), (1, .int .u32 t1), (2, .int .u8 t2), (7, .bool x1), (8, slA (eI .u8) x2)] (by kernel_rfl) ⟨g10, trivial⟩ ?_
    refine OpsW.nil ?_
    show ∃ y, _ ∧ StC _ _ _ _
    exact ⟨(v3 ++ [((1 : Int) + (IntKind.wrap .i64 (Int.tmod t1 (99990 : Int)))) + v4], v4 + (1 : Int)), H, (StC.mk (phi [(9, some 9)]) (.old rfl rfl rfl rfl rfl (CstL.ims _) .nil) rfl (.cons .im (.cons .im (.cons .im (.cons .im (.cons (.rsl rfl rfl rfl rfl rfl rfl) (.cons .im .nil)))))))⟩
  · replace H := condF c6 H
    refine AW.exit ?_
    refine AW.regionSeq ?_
    refine OpsW.seg 2 [40, 39, 7, 8, 9] [] [(40, .rsl 9 0 0 v3.length), (39, slA (eI .u8) x2), (7, .bool x1), (8, slA (eI .u8) x2), (9, .rsl 9 0 0 v3.length)] (by kernel_rfl) trivial ?_
    refine OpsW.recast (env' := [(40, slA (eI .i64) v3), (39, slA (eI .u8) x2), (7, .bool x1), (8, slA (eI .u8) x2), (9, slA (eI .i64) v3)]) (h' := []) (StC.mk (phi []) .nil rfl (.cons (.frz rfl rfl rfl (frz_all (eI .i64) 1 (fun _ => rfl) v3) (fm_length (eI .i64) 1 (fun _ => rfl) v3) (phi_ne rfl)) (.cons .im (.cons .im (.cons .im (.cons (.frz rfl rfl rfl (frz_all (eI .i64) 1 (fun _ => rfl) v3) (fm_length (eI .i64) 1 (fun _ => rfl) v3) (phi_ne rfl)) .nil)))))) ?_
    obtain ⟨x11, hx11, H⟩ := bindS H
    refine OpsW.qcall rfl (by kernel_rfl) rfl rfl (glAll_sound trivial) (.cons (.pur rfl) (.cons (.pur rfl) .nil)) (f_note_Refer_ok hx11) rfl ?_
    refine OpsW.seg 5 [12, 11, 7, 8, 9] [] [(12, .int .i64 x11.2), (11, slA (eI .u8) x11.1), (7, .bool x1), (8, slA (eI .u8) x2), (9, slA (eI .i64) v3)] (by kernel_rfl) trivial ?_
    refine OpsW.recast (env' := [(12, .int .i64 x11.2), (11, slA (eI .u8) x11.1), (7, .bool x1), (8, slA (eI .u8) x2), (9, slA (eI .i64) v3)]) (h' := []) (StC.pure (.cons .im (.cons .im (.cons .im (.cons .im (.cons .im .nil)))))) ?_
    refine OpsW.nil ?_
    refine AW.regionSeq ?_
    refine OpsW.seg 1 [45, 12, 11, 7, 8, 9] [] [(45, slA (eI .u8) x2), (12, .int .i64 x11.2), (11, slA (eI .u8) x11.1), (7, .bool x1), (8, slA (eI .u8) x2), (9, slA (eI .i64) v3)] (by kernel_rfl) trivial ?_
    obtain ⟨x12, hx12, H⟩ := bindS H
    refine OpsW.qcall rfl (by kernel_rfl) rfl rfl (glAll_sound trivial) (.cons (.pur rfl) (.cons .nil .nil)) (f_note_Refer_ok hx12) rfl ?_
    refine OpsW.seg 5 [14, 13, 12, 11, 7, 8, 9] [] [(14, .int .i64 x12.2), (13, slA (eI .u8) x12.1), (12, .int .i64 x11.2), (11, slA (eI .u8) x11.1), (7, .bool x1), (8, slA (eI .u8) x2), (9, slA (eI .i64) v3)] (by kernel_rfl) trivial ?_
    refine OpsW.nil ?_
    refine AW.seq ?_
    refine AW.regionSeq ?_
    refine OpsW.seg 9 [57, 56, 55, 11, 7, 8, 9] [(!(x11.2 != (0 : Int))) = true → (!(x11.2 != (0 : Int))) = true, (x11.2 != (0 : Int)) = false → (!(x11.2 != (0 : Int))) = true] [(57, .cnd (!(cond (x11.2 != (0 : Int)) true (x12.2 != (0 : Int)))) (slA (eI .u8) x2)), (56, .cnd (!(cond (x11.2 != (0 : Int)) true (x12.2 != (0 : Int)))) (slA (eI .u8) x12.1)), (55, .bool (cond (x11.2 != (0 : Int)) true (x12.2 != (0 : Int)))), (11, slA (eI .u8) x11.1), (7, .bool x1), (8, slA (eI .u8) x2), (9, slA (eI .i64) v3)] (by kernel_rfl) ⟨(fun h => h), (fun h => by first | exact h | simpa using h), trivial⟩ ?_
    obtain ⟨x13, hx13, H⟩ := bindS H
    refine OpsW.gcall (c := !(cond (x11.2 != (0 : Int)) true (x12.2 != (0 : Int)))) (r := .bool x13) [] rfl (by kernel_rfl) rfl rfl rfl rfl (fun hc => ⟨glAll_sound ⟨hc, hc, trivial⟩, (.cons (.pur rfl) (.cons (.pur rfl) .nil)), f_R01_Same_ok (condT hc hx13), .inl ⟨rfl, rfl⟩⟩) ?_
    obtain ⟨g14, H⟩ := G_some H
    obtain ⟨g15, H⟩ := G_some H
    obtain ⟨g16, H⟩ := G_some H
    obtain ⟨g17, H⟩ := G_some H
    refine OpsW.seg 24 [82, 11, 7, 8, 9] [(!(cond (x11.2 != (0 : Int)) true (x12.2 != (0 : Int)))) = true → (!(cond (x11.2 != (0 : Int)) true (x12.2 != (0 : Int)))) = true, (cond (x11.2 != (0 : Int)) true (x12.2 != (0 : Int))) = false → (!(cond (x11.2 != (0 : Int)) true (x12.2 != (0 : Int)))) = true, (!(cond (cond (x11.2 != (0 : Int)) true (x12.2 != (0 : Int))) true (!x13))) = true → (!(cond (cond (x11.2 != (0 : Int)) true (x12.2 != (0 : Int))) true (!x13))) = true, (!(cond (cond (x11.2 != (0 : Int)) true (x12.2 != (0 : Int))) true (!x13))) = true → (!(cond (cond (x11.2 != (0 : Int)) true (x12.2 != (0 : Int))) true (!x13))) = true, (!(cond (cond (x11.2 != (0 : Int)) true (x12.2 != (0 : Int))) true (!x13))) = true → (!(cond (cond (x11.2 != (0 : Int)) true (x12.2 != (0 : Int))) true (!x13))) = true, (!(cond (cond (x11.2 != (0 : Int)) true (x12.2 != (0 : Int))) true (!x13))) = true → (!(cond (cond (x11.2 != (0 : Int)) true (x12.2 != (0 : Int))) true (!x13))) = true, (!(cond (cond (x11.2 != (0 : Int)) true (x12.2 != (0 : Int))) true (!x13))) = true → inR ((4 : Int) * (v3.length : Int)), (!(cond (cond (x11.2 != (0 : Int)) true (x12.2 != (0 : Int))) true (!x13))) = true → (!(cond (cond (x11.2 != (0 : Int)) true (x12.2 != (0 : Int))) true (!x13))) = true, (!(cond (cond (x11.2 != (0 : Int)) true (x12.2 != (0 : Int))) true (!x13))) = true → (!(cond (cond (x11.2 != (0 : Int)) true (x12.2 != (0 : Int))) true (!x13))) = true, (!(cond (cond (x11.2 != (0 : Int)) true (x12.2 != (0 : Int))) true (!x13))) = true → inR ((x2.length : Int) + ((4 : Int) * (v3.length : Int))), (!(cond (cond (x11.2 != (0 : Int)) true (x12.2 != (0 : Int))) true (!x13))) = true → (!(cond (cond (x11.2 != (0 : Int)) true (x12.2 != (0 : Int))) true (!x13))) = true, (!(cond (cond (x11.2 != (0 : Int)) true (x12.2 != (0 : Int))) true (!x13))) = true → (!(cond (cond (x11.2 != (0 : Int)) true (x12.2 != (0 : Int))) true (!x13))) = true, (cond (cond (x11.2 != (0 : Int)) true (x12.2 != (0 : Int))) true (!x13)) = false → (!(cond (cond (x11.2 != (0 : Int)) true (x12.2 != (0 : Int))) true (!x13))) = true, (!(cond (cond (cond (x11.2 != (0 : Int)) true (x12.2 != (0 : Int))) true (!x13)) true (decide ((x11.1.length : Int) < ((x2.length : Int) + ((4 : Int) * (v3.length : Int))))))) = true → (!(cond (cond (cond (x11.2 != (0 : Int)) true (x12.2 != (0 : Int))) true (!x13)) true (decide ((x11.1.length : Int) < ((x2.length : Int) + ((4 : Int) * (v3.length : Int))))))) = true, (!(cond (cond (cond (x11.2 != (0 : Int)) true (x12.2 != (0 : Int))) true (!x13)) true (decide ((x11.1.length : Int) < ((x2.length : Int) + ((4 : Int) * (v3.length : Int))))))) = true → (!(cond (cond (cond (x11.2 != (0 : Int)) true (x12.2 != (0 : Int))) true (!x13)) true (decide ((x11.1.length : Int) < ((x2.length : Int) + ((4 : Int) * (v3.length : Int))))))) = true, (!(cond (cond (cond (x11.2 != (0 : Int)) true (x12.2 != (0 : Int))) true (!x13)) true (decide ((x11.1.length : Int) < ((x2.length : Int) + ((4 : Int) * (v3.length : Int))))))) = true → (!(cond (cond (cond (x11.2 != (0 : Int)) true (x12.2 != (0 : Int))) true (!x13)) true (decide ((x11.1.length : Int) < ((x2.length : Int) + ((4 : Int) * (v3.length : Int))))))) = true, (!(cond (cond (cond (x11.2 != (0 : Int)) true (x12.2 != (0 : Int))) true (!x13)) true (decide ((x11.1.length : Int) < ((x2.length : Int) + ((4 : Int) * (v3.length : Int))))))) = true → (!(cond (cond (cond (x11.2 != (0 : Int)) true (x12.2 != (0 : Int))) true (!x13)) true (decide ((x11.1.length : Int) < ((x2.length : Int) + ((4 : Int) * (v3.length : Int))))))) = true, (!(cond (cond (cond (x11.2 != (0 : Int)) true (x12.2 != (0 : Int))) true (!x13)) true (decide ((x11.1.length : Int) < ((x2.length : Int) + ((4 : Int) * (v3.length : Int))))))) = true → inR ((8 : Int) * (v3.length : Int)), (!(cond (cond (cond (x11.2 != (0 : Int)) true (x12.2 != (0 : Int))) true (!x13)) true (decide ((x11.1.length : Int) < ((x2.length : Int) + ((4 : Int) * (v3.length : Int))))))) = true → (!(cond (cond (cond (x11.2 != (0 : Int)) true (x12.2 != (0 : Int))) true (!x13)) true (decide ((x11.1.length : Int) < ((x2.length : Int) + ((4 : Int) * (v3.length : Int))))))) = true, (!(cond (cond (cond (x11.2 != (0 : Int)) true (x12.2 != (0 : Int))) true (!x13)) true (decide ((x11.1.length : Int) < ((x2.length : Int) + ((4 : Int) * (v3.length : Int))))))) = true → (!(cond (cond (cond (x11.2 != (0 : Int)) true (x12.2 != (0 : Int))) true (!x13)) true (decide ((x11.1.length : Int) < ((x2.length : Int) + ((4 : Int) * (v3.length : Int))))))) = true, (!(cond (cond (cond (x11.2 != (0 : Int)) true (x12.2 != (0 : Int))) true (!x13)) true (decide ((x11.1.length : Int) < ((x2.length : Int) + ((4 : Int) * (v3.length : Int))))))) = true → inR ((x2.length : Int) + ((8 : Int) * (v3.length : Int))), (!(cond (cond (cond (x11.2 != (0 : Int)) true (x12.2 != (0 : Int))) true (!x13)) true (decide ((x11.1.length : Int) < ((x2.length : Int) + ((4 : Int) * (v3.length : Int))))))) = true → (!(cond (cond (cond (x11.2 != (0 : Int)) true (x12.2 != (0 : Int))) true (!x13)) true (decide ((x11.1.length : Int) < ((x2.length : Int) + ((4 : Int) * (v3.length : Int))))))) = true, (!(cond (cond (cond (x11.2 != (0 : Int)) true (x12.2 != (0 : Int))) true (!x13)) true (decide ((x11.1.length : Int) < ((x2.length : Int) + ((4 : Int) * (v3.length : Int))))))) = true → (!(cond (cond (cond (x11.2 != (0 : Int)) true (x12.2 != (0 : Int))) true (!x13)) true (decide ((x11.1.length : Int) < ((x2.length : Int) + ((4 : Int) * (v3.length : Int))))))) = true, (cond (cond (cond (x11.2 != (0 : Int)) true (x12.2 != (0 : Int))) true (!x13)) true (decide ((x11.1.length : Int) < ((x2.length : Int) + ((4 : Int) * (v3.length : Int)))))) = false → (!(cond (cond (cond (x11.2 != (0 : Int)) true (x12.2 != (0 : Int))) true (!x13)) true (decide ((x11.1.length : Int) < ((x2.length : Int) + ((4 : Int) * (v3.length : Int))))))) = true] [(82, .bool (cond (cond (cond (cond (x11.2 != (0 : Int)) true (x12.2 != (0 : Int))) true (!x13)) true (decide ((x11.1.length : Int) < ((x2.length : Int) + ((4 : Int) * (v3.length : Int)))))) true (decide (((x2.length : Int) + ((8 : Int) * (v3.length : Int))) < (x11.1.length : Int))))), (11, slA (eI .u8) x11.1), (7, .bool x1), (8, slA (eI .u8) x2), (9, slA (eI .i64) v3)] (by kernel_rfl) ⟨(fun h => h), (fun h => by first | exact h | simpa using h), (fun h => h), (fun h => h), (fun h => h), (fun h => h), g14, (fun h => h), (fun h => h), g15, (fun h => h), (fun h => h), (fun h => by first | exact h | simpa using h), (fun h => h), (fun h => h), (fun h => h), (fun h => h), g16, (fun h => h), (fun h => h), g17, (fun h => h), (fun h => h), (fun h => by first | exact h | simpa using h), trivial⟩ ?_
    refine OpsW.nil ?_
    refine AW.cond (b := cond (cond (cond (cond (x11.2 != (0 : Int)) true (x12.2 != (0 : Int))) true (!x13)) true (decide ((x11.1.length : Int) < ((x2.length : Int) + ((4 : Int) * (v3.length : Int)))))) true (decide (((x2.length : Int) + ((8 : Int) * (v3.length : Int))) < (x11.1.length : Int)))) rfl (fun c18 => ?_) (fun c18 => ?_)
    · replace H := condT c18 H
      refine AW.regionSeq ?_
      refine OpsW.seg 1 [6] [] [(6, .bool false)] (by kernel_rfl) trivial ?_
      refine OpsW.nil ?_
      obtain rfl := Option.some.inj H
      refine AW.recast (env' := [(6, .bool false)]) (h' := []) (StC.pure (.cons .im .nil)) ?_
      refine AW.ret ?_
      try simp only [Ex.then, Ex.inBlock, Ex.noGoto, Ex.jump, reduceIte, Nat.reduceEqDiff, reduceCtorEq]
      refine Done.gen rfl (.tmp .nil) ?_
      show _ = _
      kernel_rfl
    · replace H := condF c18 H
      refine AW.skip ?_
      refine AW.regionSeq ?_
      refine OpsW.seg 1 [84, 7, 8, 9] [] [(84, slA (eI .u8) x11.1), (7, .bool x1), (8, slA (eI .u8) x2), (9, slA (eI .i64) v3)] (by kernel_rfl) trivial ?_
      obtain ⟨x19, hx19, H⟩ := bindS H
      refine OpsW.qcall rfl (by kernel_rfl) rfl rfl (glAll_sound trivial) (.cons (.pur rfl) .nil) (f_note_Strip_ok hx19) rfl ?_
      refine OpsW.seg 7 [17, 16, 15, 7, 8, 9] [] [(17, .int .i64 x19.2.2), (16, slA (eI .i64) x19.2.1), (15, slA (eI .u8) x19.1), (7, .bool x1), (8, slA (eI .u8) x2), (9, slA (eI .i64) v3)] (by kernel_rfl) trivial ?_
      refine OpsW.nil ?_
      refine AW.regionSeq ?_
      refine OpsW.seg 8 [96, 95, 94, 16, 9] [x1 = true → x1 = true, x1 = true → x1 = true] [(96, .cnd (cond x1 (x19.2.2 == (0 : Int)) false) (slA (eI .u8) x2)), (95, .cnd (cond x1 (x19.2.2 == (0 : Int)) false) (slA (eI .u8) x19.1)), (94, .bool (cond x1 (x19.2.2 == (0 : Int)) false)), (16, slA (eI .i64) x19.2.1), (9, slA (eI .i64) v3)] (by kernel_rfl) ⟨(fun h => h), (fun h => by first | exact h | simpa using h), trivial⟩ ?_
      obtain ⟨x20, hx20, H⟩ := bindS H
      refine OpsW.gcall (c := cond x1 (x19.2.2 == (0 : Int)) false) (r := .bool x20) [] rfl (by kernel_rfl) rfl rfl rfl rfl (fun hc => ⟨glAll_sound ⟨hc, hc, trivial⟩, (.cons (.pur rfl) (.cons (.pur rfl) .nil)), f_R01_Same_ok (condT hc hx20), .inl ⟨rfl, rfl⟩⟩) ?_
      refine OpsW.seg 4 [101, 100, 99] [(cond x1 (x19.2.2 == (0 : Int)) false) = true → (cond x1 (x19.2.2 == (0 : Int)) false) = true] [(101, .cnd (cond (cond x1 (x19.2.2 == (0 : Int)) false) x20 false) (slA (eI .i64) v3)), (100, .cnd (cond (cond x1 (x19.2.2 == (0 : Int)) false) x20 false) (slA (eI .i64) x19.2.1)), (99, .bool (cond (cond x1 (x19.2.2 == (0 : Int)) false) x20 false))] (by kernel_rfl) ⟨(fun h => by first | exact h | simpa using h), trivial⟩ ?_
      obtain ⟨x21, hx21, H⟩ := bindS H
      refine OpsW.gcall (c := cond (cond x1 (x19.2.2 == (0 : Int)) false) x20 false) (r := .bool x21) [] rfl (by kernel_rfl) rfl rfl rfl rfl (fun hc => ⟨glAll_sound ⟨hc, hc, trivial⟩, (.cons (.pur rfl) (.cons (.pur rfl) .nil)), f_R22_Ints_ok (condT hc hx21), .inl ⟨rfl, rfl⟩⟩) ?_
      refine OpsW.seg 2 [6] [(cond (cond x1 (x19.2.2 == (0 : Int)) false) x20 false) = true → (cond (cond x1 (x19.2.2 == (0 : Int)) false) x20 false) = true] [(6, .bool (cond (cond (cond x1 (x19.2.2 == (0 : Int)) false) x20 false) x21 false))] (by kernel_rfl) ⟨(fun h => by first | exact h | simpa using h), trivial⟩ ?_
      refine OpsW.nil ?_
      obtain rfl := Option.some.inj H
      refine AW.recast (env' := [(6, .bool (cond (cond (cond x1 (x19.2.2 == (0 : Int)) false) x20 false) x21 false))]) (h' := []) (StC.pure (.cons .im .nil)) ?_
      refine AW.ret ?_
      try simp only [Ex.then, Ex.inBlock, Ex.noGoto, Ex.jump, reduceIte, Nat.reduceEqDiff, reduceCtorEq]
      refine Done.gen rfl (.tmp .nil) ?_
      show _ = _
      kernel_rfl
def f_L22_NoteStripMatchesReference_b1 (x1 : Bool) (v8 : List Int) (v16 : List Int) (x26 : List Int) (loop28 : (Int) → Option Bool) (v27 : Int) : Option Bool :=
  cond (decide (v27 < (2 : Int))) (
    G (0 ≤ v27 ∧ v27 < ([v16, x26].length : Int)) <|
    (f_note_Strip ([v16, x26].getD v27.toNat [])).bind fun x31 =>
    (f_R22_Strip ([v16, x26].getD v27.toNat [])).bind fun x32 =>
    (f_note_Refer ([v16, x26].getD v27.toNat []) v8).bind fun x33 =>
    (f_R22_Refer ([v16, x26].getD v27.toNat []) v8).bind fun x34 =>
    (f_R01_Same x31.1 x32.1).bind fun x35 =>
    (cond (!(!x35)) (f_R22_Ints x31.2.1 x32.2.1) (some false)).bind fun x36 =>
    (cond (!(cond (cond (!x35) true (!x36)) true (x31.2.2 != x32.2.2))) (f_R01_Same x33.1 x34.1) (some false)).bind fun x37 =>
    cond (cond (cond (cond (cond (!x35) true (!x36)) true (x31.2.2 != x32.2.2)) true (!x37)) true (x33.2 != x34.2)) (
      some false) (
      G (inR (v27 + (1 : Int))) <|
      loop28 (v27 + (1 : Int)))) (
    some x1)
def f_L22_NoteStripMatchesReference_b2 (t2 : List Int) (x1 : Bool) (v8 : List Int) (loop18 : ((List Int) × Int) → Option Bool) (v16 : List Int) (v17 : Int) : Option Bool :=
  G (inR (v17 + (1 : Int))) <|
  cond (cond (decide ((v17 + (1 : Int)) < (t2.length : Int))) (decide (v17 < (4 : Int))) false) (
    G (0 ≤ v17 ∧ v17 < (t2.length : Int)) <|
    G ((v16.length : Int) ≠ 0) <|
    G (0 ≤ (v17 + (1 : Int)) ∧ (v17 + (1 : Int)) < (t2.length : Int)) <|
    G (0 ≤ (Int.tmod (IntKind.wrap .i64 (t2.getD v17.toNat (0 : Int))) (v16.length : Int)) ∧ (Int.tmod (IntKind.wrap .i64 (t2.getD v17.toNat (0 : Int))) (v16.length : Int)) < (v16.length : Int)) <|
    G (inR (v17 + (2 : Int))) <|
    loop18 (v16.set (Int.tmod (IntKind.wrap .i64 (t2.getD v17.toNat (0 : Int))) (v16.length : Int)).toNat (Int.tmod (t2.getD (v17 + (1 : Int)).toNat (0 : Int)) (64 : Int)), v17 + (2 : Int))) (
    (f_R01_Cells t2 (30 : Int)).bind fun x26 =>
    iter (fun loop (s : Int) => f_L22_NoteStripMatchesReference_b1 x1 v8 v16 x26 loop s) 1000000 (0 : Int))
def f_L22_NoteStripMatchesReference_b3 (t1 : List Int) (t2 : List Int) (x1 : Bool) (x3 : List Int) (loop10 : ((List Int) × Int) → Option Bool) (v8 : List Int) (v9 : Int) : Option Bool :=
  cond (decide (v9 < (t1.length : Int))) (
    G (inR ((7 : Int) + v9)) <|
    G (room 8 (v8.length + 1)) <|
    G (inR (v9 + (1 : Int))) <|
    loop10 (v8 ++ [(7 : Int) + v9], v9 + (1 : Int))) (
    (f_R22_Refer x3 v8).bind fun x15 =>
    iter (fun loop (s : (List Int) × Int) => f_L22_NoteStripMatchesReference_b2 t2 x1 v8 loop s.1 s.2) 1000000 (x15.1, (0 : Int)))
def f_L22_NoteStripMatchesReference (t0 : List (List Int)) (t1 : List Int) (t2 : List Int) : Option Bool :=
  (f_L22_sanity).bind fun x1 =>
  cond (decide ((4 : Int) < (t1.length : Int))) (
    some x1) (
    (f_R22_Made t0 (5 : Int)).bind fun x3 =>
    (f_note_Refer x3 t1).bind fun x4 =>
    (f_R22_Refer x3 t1).bind fun x5 =>
    (f_R01_Same x4.1 x5.1).bind fun x6 =>
    cond (cond (!x6) true (x4.2 != x5.2)) (
      some false) (
      iter (fun loop (s : (List Int) × Int) => f_L22_NoteStripMatchesReference_b3 t1 t2 x1 x3 loop s.1 s.2) 1000000 (([] : List Int), (0 : Int))))
theorem f_L22_NoteStripMatchesReference_ok {t0 : List (List Int)} {t1 : List Int} {t2 : List Int} {r : Bool} (H : f_L22_NoteStripMatchesReference t0 t1 t2 = some r) : QSpec Tryd.prog 6 [slA (eL (eI .u8)) t0, slA (eI .i64) t1, slA (eI .u8) t2] (.bool r) := by
  refine Spec.of_AW Tryd.func6 rfl (by simp [Tryd.ntmps6]) ?_
  rw [Tryd.ntmps6]
  unfold f_L22_NoteStripMatchesReference at H
  change AW _ _ _ [(0, slA (eL (eI .u8)) t0), (1, slA (eI .i64) t1), (2, slA (eI .u8) t2)] [] _
  refine AW.regionSeq ?_
  refine OpsW.seg 1 [0, 1, 2] [] [(0, slA (eL (eI .u8)) t0), (1, slA (eI .i64) t1), (2, slA (eI .u8) t2)] (by kernel_rfl) trivial ?_
  refine OpsW.nil ?_
  refine AW.regionSeq ?_
  obtain ⟨x1, hx1, H⟩ := bindS H
  refine OpsW.qcall rfl (by kernel_rfl) rfl rfl (glAll_sound trivial) .nil (f_L22_sanity_ok hx1) rfl ?_
  refine OpsW.seg 1 [7, 0, 1, 2] [] [(7, .bool x1), (0, slA (eL (eI .u8)) t0), (1, slA (eI .i64) t1), (2, slA (eI .u8) t2)] (by kernel_rfl) trivial ?_
  refine OpsW.nil ?_
  refine AW.seq ?_
  refine AW.regionSeq ?_
  refine OpsW.seg 3 [33, 7, 0, 1, 2] [] [(33, .bool (decide ((4 : Int) < (t1.length : Int)))), (7, .bool x1), (0, slA (eL (eI .u8)) t0), (1, slA (eI .i64) t1), (2, slA (eI .u8) t2)] (by kernel_rfl) trivial ?_
  refine OpsW.nil ?_
  refine AW.cond (b := decide ((4 : Int) < (t1.length : Int))) rfl (fun c2 => ?_) (fun c2 => ?_)
  · replace H := condT c2 H
    refine AW.regionSeq ?_
    refine OpsW.seg 2 [6] [] [(6, .bool x1)] (by kernel_rfl) trivial ?_
    refine OpsW.nil ?_
    obtain rfl := Option.some.inj H
    refine AW.recast (env' := [(6, .bool x1)]) (h' := []) (StC.pure (.cons .im .nil)) ?_
    refine AW.ret ?_
    try simp only [Ex.then, Ex.inBlock, Ex.noGoto, Ex.jump, reduceIte, Nat.reduceEqDiff, reduceCtorEq]
    refine Done.gen rfl (.tmp .nil) ?_
    show _ = _
    kernel_rfl
  · replace H := condF c2 H
    refine AW.skip ?_
    refine AW.regionSeq ?_
    refine OpsW.seg 1 [35, 7, 1, 2] [] [(35, slA (eL (eI .u8)) t0), (7, .bool x1), (1, slA (eI .i64) t1), (2, slA (eI .u8) t2)] (by kernel_rfl) trivial ?_
    obtain ⟨x3, hx3, H⟩ := bindS H
    refine OpsW.qcall rfl (by kernel_rfl) rfl rfl (glAll_sound trivial) (.cons (.pur rfl) (.cons (.pur rfl) .nil)) (f_R22_Made_ok hx3) rfl ?_
    refine OpsW.seg 1 [8, 7, 1, 2] [] [(8, slA (eI .u8) x3), (7, .bool x1), (1, slA (eI .i64) t1), (2, slA (eI .u8) t2)] (by kernel_rfl) trivial ?_
    refine OpsW.nil ?_
    refine AW.regionSeq ?_
    refine OpsW.seg 2 [39, 38, 8, 7, 1, 2] [] [(39, slA (eI .i64) t1), (38, slA (eI .u8) x3), (8, slA (eI .u8) x3), (7, .bool x1), (1, slA (eI .i64) t1), (2, slA (eI .u8) t2)] (by kernel_rfl) trivial ?_
    obtain ⟨x4, hx4, H⟩ := bindS H
    refine OpsW.qcall rfl (by kernel_rfl) rfl rfl (glAll_sound trivial) (.cons (.pur rfl) (.cons (.pur rfl) .nil)) (f_note_Refer_ok hx4) rfl ?_
    refine OpsW.seg 5 [10, 9, 8, 7, 1, 2] [] [(10, .int .i64 x4.2), (9, slA (eI .u8) x4.1), (8, slA (eI .u8) x3), (7, .bool x1), (1, slA (eI .i64) t1), (2, slA (eI .u8) t2)] (by kernel_rfl) trivial ?_
    refine OpsW.nil ?_
    refine AW.regionSeq ?_
    refine OpsW.seg 2 [45, 44, 10, 9, 8, 7, 1, 2] [] [(45, slA (eI .i64) t1), (44, slA (eI .u8) x3), (10, .int .i64 x4.2), (9, slA (eI .u8) x4.1), (8, slA (eI .u8) x3), (7, .bool x1), (1, slA (eI .i64) t1), (2, slA (eI .u8) t2)] (by kernel_rfl) trivial ?_
    obtain ⟨x5, hx5, H⟩ := bindS H
    refine OpsW.qcall rfl (by kernel_rfl) rfl rfl (glAll_sound trivial) (.cons (.pur rfl) (.cons (.pur rfl) .nil)) (f_R22_Refer_ok hx5) rfl ?_
    refine OpsW.seg 5 [12, 11, 10, 9, 8, 7, 1, 2] [] [(12, .int .i64 x5.2), (11, slA (eI .u8) x5.1), (10, .int .i64 x4.2), (9, slA (eI .u8) x4.1), (8, slA (eI .u8) x3), (7, .bool x1), (1, slA (eI .i64) t1), (2, slA (eI .u8) t2)] (by kernel_rfl) trivial ?_
    refine OpsW.nil ?_
    refine AW.seq ?_
    refine AW.regionSeq ?_
    refine OpsW.seg 2 [50, 49, 12, 10, 8, 7, 1, 2] [] [(50, slA (eI .u8) x5.1), (49, slA (eI .u8) x4.1), (12, .int .i64 x5.2), (10, .int .i64 x4.2), (8, slA (eI .u8) x3), (7, .bool x1), (1, slA (eI .i64) t1), (2, slA (eI .u8) t2)] (by kernel_rfl) trivial ?_
    obtain ⟨x6, hx6, H⟩ := bindS H
    refine OpsW.qcall rfl (by kernel_rfl) rfl rfl (glAll_sound trivial) (.cons (.pur rfl) (.cons (.pur rfl) .nil)) (f_R01_Same_ok hx6) rfl ?_
    refine OpsW.seg 6 [57, 8, 7, 1, 2] [(!(!x6)) = true → (!(!x6)) = true, (!(!x6)) = true → (!(!x6)) = true, (!x6) = false → (!(!x6)) = true] [(57, .bool (cond (!x6) true (x4.2 != x5.2))), (8, slA (eI .u8) x3), (7, .bool x1), (1, slA (eI .i64) t1), (2, slA (eI .u8) t2)] (by kernel_rfl) ⟨(fun h => h), (fun h => h), (fun h => by first | exact h | simpa using h), trivial⟩ ?_
    refine OpsW.nil ?_
    refine AW.cond (b := cond (!x6) true (x4.2 != x5.2)) rfl (fun c7 => ?_) (fun c7 => ?_)
    · replace H := condT c7 H
      refine AW.regionSeq ?_
      refine OpsW.seg 1 [6] [] [(6, .bool false)] (by kernel_rfl) trivial ?_
      refine OpsW.nil ?_
      obtain rfl := Option.some.inj H
      refine AW.recast (env' := [(6, .bool false)]) (h' := []) (StC.pure (.cons .im .nil)) ?_
      refine AW.ret ?_
      try simp only [Ex.then, Ex.inBlock, Ex.noGoto, Ex.jump, reduceIte, Nat.reduceEqDiff, reduceCtorEq]
      refine Done.gen rfl (.tmp .nil) ?_
      show _ = _
      kernel_rfl
    · replace H := condF c7 H
      refine AW.skip ?_
      refine AW.regionSeq ?_
      refine OpsW.buildT (enc := eI .i64) ([] : List Int) rfl rfl rfl 58 rfl E23 (fun _ => rfl) (by decide) trivial (by kernel_rfl) (by kernel_rfl) (by kernel_rfl) rfl ?_
      refine OpsW.seg 1 [13, 8, 7, 1, 2] [] [(13, .rsl 58 0 0 (([] : List Int).length)), (8, slA (eI .u8) x3), (7, .bool x1), (1, slA (eI .i64) t1), (2, slA (eI .u8) t2)] (by kernel_rfl) trivial ?_
      refine OpsW.recast (env' := [(13, .rsl 13 0 0 (([] : List Int).length)), (8, slA (eI .u8) x3), (7, .bool x1), (1, slA (eI .i64) t1), (2, slA (eI .u8) t2)]) (h' := [(13, rtA 0 3 1 (eI .i64) ([] : List Int))]) (StC.mk (phi [(13, some 58)]) (.old rfl rfl rfl rfl rfl (CstL.ims _) .nil) rfl (.cons (.rsl rfl rfl rfl rfl rfl rfl) (.cons .im (.cons .im (.cons .im (.cons .im .nil)))))) ?_
      refine OpsW.nil ?_
      refine AW.seq ?_
      refine AW.regionSeq ?_
      refine OpsW.seg 1 [14, 13, 8, 7, 1, 2] [] [(14, .int .i64 (0 : Int)), (13, .rsl 13 0 0 (([] : List Int).length)), (8, slA (eI .u8) x3), (7, .bool x1), (1, slA (eI .i64) t1), (2, slA (eI .u8) t2)] (by kernel_rfl) trivial ?_
      refine OpsW.nil ?_
      refine AW.block ?_
      refine AW.iterK (fun loop (s : (List Int) × Int) => f_L22_NoteStripMatchesReference_b3 t1 t2 x1 x3 loop s.1 s.2) r (fun (s : (List Int) × Int) => [(1, slA (eI .i64) t1), (2, slA (eI .u8) t2), (7, .bool x1), (8, slA (eI .u8) x3), (13, .rsl 13 0 0 s.1.length), (14, .int .i64 s.2)]) (fun (s : (List Int) × Int) => [(13, rtA 0 3 1 (eI .i64) s.1)]) ?_ 1000000 (([] : List Int), (0 : Int)) H (StC.mk (phi [(13, some 13)]) (.old rfl rfl rfl rfl rfl (CstL.ims _) .nil) rfl (.cons .im (.cons .im (.cons .im (.cons .im (.cons (.rsl rfl rfl rfl rfl rfl rfl) (.cons .im .nil)))))))
      intro loop10 s H
      obtain ⟨v8, v9⟩ := s
      change f_L22_NoteStripMatchesReference_b3 t1 t2 x1 x3 loop10 v8 v9 = some r at H
      unfold f_L22_NoteStripMatchesReference_b3 at H
      change AW _ _ _ [(1, slA (eI .i64) t1), (2, slA (eI .u8) t2), (7, .bool x1), (8, slA (eI .u8) x3), (13, .rsl 13 0 0 v8.length), (14, .int .i64 v9)] [(13, rtA 0 3 1 (eI .i64) v8)] _
      refine AW.seq ?_
      refine AW.regionSeq ?_
      refine OpsW.seg 4 [62, 1, 2, 7, 8, 13, 14] [] [(62, .bool (decide (v9 < (t1.length : Int)))), (1, slA (eI .i64) t1), (2, slA (eI .u8) t2), (7, .bool x1), (8, slA (eI .u8) x3), (13, .rsl 13 0 0 v8.length), (14, .int .i64 v9)] (by kernel_rfl) trivial ?_
      refine OpsW.nil ?_
      refine AW.cond (b := decide (v9 < (t1.length : Int))) rfl (fun c11 => ?_) (fun c11 => ?_)
      · replace H := condT c11 H
        refine AW.skip ?_
        refine AW.seq ?_
        refine AW.block ?_
        refine AW.region ?_
        obtain ⟨g12, H⟩ := G_some H
        refine OpsW.seg 3 [67, 65, 1, 2, 7, 8, 13, 14] [inR ((7 : Int) + v9)] [(67, .int .i64 ((7 : Int) + v9)), (65, .rsl 13 0 0 v8.length), (1, slA (eI .i64) t1), (2, slA (eI .u8) t2), (7, .bool x1), (8, slA (eI .u8) x3), (13, .rsl 13 0 0 v8.length), (14, .int .i64 v9)] (by kernel_rfl) ⟨g12, trivial⟩ ?_
        obtain ⟨g13, H⟩ := G_some H
        refine OpsW.appendLF (enc := eI .i64) [(7 : Int) + v9] rfl rfl rfl (by decide) rfl rfl rfl (by simp) E23 (fun _ => rfl) (by decide) trivial (by kernel_rfl) (by kernel_rfl) (by kernel_rfl) rfl rfl rfl g13 ?_
        refine OpsW.seg 1 [13, 1, 2, 7, 8, 14] [] [(13, .rsl 13 1 0 ((v8 ++ [(7 : Int) + v9]).length)), (1, slA (eI .i64) t1), (2, slA (eI .u8) t2), (7, .bool x1), (8, slA (eI .u8) x3), (14, .int .i64 v9)] (by kernel_rfl) trivial ?_
        refine OpsW.recast (env' := [(13, .rsl 13 0 0 ((v8 ++ [(7 : Int) + v9]).length)), (1, slA (eI .i64) t1), (2, slA (eI .u8) t2), (7, .bool x1), (8, slA (eI .u8) x3), (14, .int .i64 v9)]) (h' := [(13, rtA 0 3 1 (eI .i64) (v8 ++ [(7 : Int) + v9]))]) (StC.mk (phi [(13, some 13)]) (.old rfl rfl rfl rfl rfl (CstL.ims _) .nil) rfl (.cons (.rsl rfl rfl rfl rfl rfl rfl) (.cons .im (.cons .im (.cons .im (.cons .im (.cons .im .nil))))))) ?_
        refine OpsW.nil ?_
        refine AW.region ?_
        obtain ⟨g14, H⟩ := G_some H
        refine OpsW.seg 3 [14, 13, 1, 2, 7, 8] [inR (v9 + (1 : Int))] [(14, .int .i64 (v9 + (1 : Int))), (13, .rsl 13 0 0 ((v8 ++ [(7 : Int) + v9]).length)), (1, slA (eI .i64) t1), (2, slA (eI .u8) t2), (7, .bool x1), (8, slA (eI .u8) x3)] (by kernel_rfl) ⟨g14, trivial⟩ ?_
        refine OpsW.nil ?_
        show ∃ y, _ ∧ StC _ _ _ _
        exact ⟨(v8 ++ [(7 : Int) + v9], v9 + (1 : Int)), H, (StC.mk (phi [(13, some 13)]) (.old rfl rfl rfl rfl rfl (CstL.ims _) .nil) rfl (.cons .im (.cons .im (.cons .im (.cons .im (.cons (.rsl rfl rfl rfl rfl rfl rfl) (.cons .im .nil)))))))⟩
      · replace H := condF c11 H
        refine AW.exit ?_
        refine AW.regionSeq ?_
        refine OpsW.seg 2 [72, 71, 2, 7, 13] [] [(72, .rsl 13 0 0 v8.length), (71, slA (eI .u8) x3), (2, slA (eI .u8) t2), (7, .bool x1), (13, .rsl 13 0 0 v8.length)] (by kernel_rfl) trivial ?_
        refine OpsW.recast (env' := [(72, slA (eI .i64) v8), (71, slA (eI .u8) x3), (2, slA (eI .u8) t2), (7, .bool x1), (13, slA (eI .i64) v8)]) (h' := []) (StC.mk (phi []) .nil rfl (.cons (.frz rfl rfl rfl (frz_all (eI .i64) 1 (fun _ => rfl) v8) (fm_length (eI .i64) 1 (fun _ => rfl) v8) (phi_ne rfl)) (.cons .im (.cons .im (.cons .im (.cons (.frz rfl rfl rfl (frz_all (eI .i64) 1 (fun _ => rfl) v8) (fm_length (eI .i64) 1 (fun _ => rfl) v8) (phi_ne rfl)) .nil)))))) ?_
        obtain ⟨x15, hx15, H⟩ := bindS H
        refine OpsW.call rfl rfl (by kernel_rfl) [] _ _ rfl (glAll_sound trivial) (.cons (.pur rfl) (.cons (.pur rfl) .nil)) (f_R22_Refer_own hx15) ?_
        rintro _ _ ⟨rfl, rfl⟩
        refine ⟨fresh_of (by kernel_rfl), .inl rfl, ?_⟩
        change OpsW _ _ _ _ [(73, .tup [.rsl 1000 0 0 x15.1.length, .int .i64 x15.2]), (72, slA (eI .i64) v8), (71, slA (eI .u8) x3), (2, slA (eI .u8) t2), (7, .bool x1), (13, slA (eI .i64) v8)] [(1000, rtA 0 43 1 (eI .u8) x15.1)] _
        refine OpsW.recast (env' := [(73, .tup [.rsl 600 0 0 x15.1.length, .int .i64 x15.2]), (72, slA (eI .i64) v8), (71, slA (eI .u8) x3), (2, slA (eI .u8) t2), (7, .bool x1), (13, slA (eI .i64) v8)]) (h' := [(600, rtA 0 43 1 (eI .u8) x15.1)]) (StC.mk (phi [(600, some 1000)]) (.old rfl rfl rfl rfl rfl (CstL.ims _) .nil) rfl (.cons (.tup (.cons (.rsl rfl rfl rfl rfl rfl rfl) (.cons .im .nil))) (.cons .im (.cons .im (.cons .im (.cons .im (.cons .im .nil))))))) ?_
        refine OpsW.seg 5 [15, 2, 7, 13] [] [(15, .rsl 600 0 0 x15.1.length), (2, slA (eI .u8) t2), (7, .bool x1), (13, slA (eI .i64) v8)] (by kernel_rfl) trivial ?_
        refine OpsW.recast (env' := [(15, .rsl 15 0 0 x15.1.length), (2, slA (eI .u8) t2), (7, .bool x1), (13, slA (eI .i64) v8)]) (h' := [(15, rtA 0 43 1 (eI .u8) x15.1)]) (StC.mk (phi [(15, some 600)]) (.old rfl rfl rfl rfl rfl (CstL.ims _) .nil) rfl (.cons (.rsl rfl rfl rfl rfl rfl rfl) (.cons .im (.cons .im (.cons .im .nil))))) ?_
        refine OpsW.nil ?_
        refine AW.seq ?_
        refine AW.regionSeq ?_
        refine OpsW.seg 1 [17, 15, 2, 7, 13] [] [(17, .int .i64 (0 : Int)), (15, .rsl 15 0 0 x15.1.length), (2, slA (eI .u8) t2), (7, .bool x1), (13, slA (eI .i64) v8)] (by kernel_rfl) trivial ?_
        refine OpsW.nil ?_
        refine AW.block ?_
        refine AW.iterK (fun loop (s : (List Int) × Int) => f_L22_NoteStripMatchesReference_b2 t2 x1 v8 loop s.1 s.2) r (fun (s : (List Int) × Int) => [(2, slA (eI .u8) t2), (7, .bool x1), (13, slA (eI .i64) v8), (15, .rsl 15 0 0 s.1.length), (17, .int .i64 s.2)]) (fun (s : (List Int) × Int) => [(15, rtA 0 43 1 (eI .u8) s.1)]) ?_ 1000000 (x15.1, (0 : Int)) H (StC.mk (phi [(15, some 15)]) (.old rfl rfl rfl rfl rfl (CstL.ims _) .nil) rfl (.cons .im (.cons .im (.cons .im (.cons (.rsl rfl rfl rfl rfl rfl rfl) (.cons .im .nil))))))
        intro loop18 s H
        obtain ⟨v16, v17⟩ := s
        change f_L22_NoteStripMatchesReference_b2 t2 x1 v8 loop18 v16 v17 = some r at H
        unfold f_L22_NoteStripMatchesReference_b2 at H
        change AW _ _ _ [(2, slA (eI .u8) t2), (7, .bool x1), (13, slA (eI .i64) v8), (15, .rsl 15 0 0 v16.length), (17, .int .i64 v17)] [(15, rtA 0 43 1 (eI .u8) v16)] _
        refine AW.seq ?_
        refine AW.regionSeq ?_
        obtain ⟨g19, H⟩ := G_some H
        refine OpsW.seg 9 [84, 2, 7, 13, 15, 17] [inR (v17 + (1 : Int)), (decide ((v17 + (1 : Int)) < (t2.length : Int))) = true → (decide ((v17 + (1 : Int)) < (t2.length : Int))) = true, (decide ((v17 + (1 : Int)) < (t2.length : Int))) = true → (decide ((v17 + (1 : Int)) < (t2.length : Int))) = true] [(84, .bool (cond (decide ((v17 + (1 : Int)) < (t2.length : Int))) (decide (v17 < (4 : Int))) false)), (2, slA (eI .u8) t2), (7, .bool x1), (13, slA (eI .i64) v8), (15, .rsl 15 0 0 v16.length), (17, .int .i64 v17)] (by kernel_rfl) ⟨g19, (fun h => h), (fun h => by first | exact h | simpa using h), trivial⟩ ?_
        refine OpsW.nil ?_
        refine AW.cond (b := cond (decide ((v17 + (1 : Int)) < (t2.length : Int))) (decide (v17 < (4 : Int))) false) rfl (fun c20 => ?_) (fun c20 => ?_)
        · replace H := condT c20 H
          refine AW.skip ?_
          refine AW.seq ?_
          refine AW.block ?_
          refine AW.drawT 15 Tryd.checked.mixed (by kernel_rfl) ?_
          obtain ⟨g21, H⟩ := G_some H
          refine QOps.seg (N := 174) 4 [0 ≤ v17 ∧ v17 < (t2.length : Int)] [(90, .ipt (t2.flatMap (eI .u8)) (v17.toNat * 1)), (89, .int .i64 v17), (88, slA (eI .u8) t2), (87, .rsl 15 0 0 v16.length), (84, .bool (cond (decide ((v17 + (1 : Int)) < (t2.length : Int))) (decide (v17 < (4 : Int))) false)), (2, slA (eI .u8) t2), (7, .bool x1), (13, slA (eI .i64) v8), (15, .rsl 15 0 0 v16.length), (17, .int .i64 v17)] (by kernel_rfl) ⟨g21, trivial⟩ ?_
          refine QOps.asU (.int .u8 (t2.getD v17.toNat (0 : Int))) rfl (T.load rfl trivial (by kernel_rfl) (fm_cell0 (eI .u8) 1 (fun _ => rfl) t2 (0 : Int) v17.toNat (ltN g21) (fun a => .val (.int .u8 a)) (fun _ => rfl))) ?_
          obtain ⟨g22, H⟩ := G_some H
          obtain ⟨g23, H⟩ := G_some H
          refine QOps.seg (N := 174) 8 [(v16.length : Int) ≠ 0, inR (v17 + (1 : Int)), 0 ≤ (v17 + (1 : Int)) ∧ (v17 + (1 : Int)) < (t2.length : Int)] [(99, .ipt (t2.flatMap (eI .u8)) ((v17 + (1 : Int)).toNat * 1)), (98, .int .i64 (v17 + (1 : Int))), (97, .int .i64 v17), (96, slA (eI .u8) t2), (95, .int .i64 (Int.tmod (IntKind.wrap .i64 (t2.getD v17.toNat (0 : Int))) (v16.length : Int))), (94, .int .i64 (v16.length : Int)), (93, .rsl 15 0 0 v16.length), (92, .int .i64 (IntKind.wrap .i64 (t2.getD v17.toNat (0 : Int)))), (91, .int .u8 (t2.getD v17.toNat (0 : Int))), (90, .ipt (t2.flatMap (eI .u8)) (v17.toNat * 1)), (89, .int .i64 v17), (88, slA (eI .u8) t2), (87, .rsl 15 0 0 v16.length), (84, .bool (cond (decide ((v17 + (1 : Int)) < (t2.length : Int))) (decide (v17 < (4 : Int))) false)), (2, slA (eI .u8) t2), (7, .bool x1), (13, slA (eI .i64) v8), (15, .rsl 15 0 0 v16.length), (17, .int .i64 v17)] (by kernel_rfl) ⟨g22, g19, g23, trivial⟩ ?_
          refine QOps.asU (.int .u8 (t2.getD (v17 + (1 : Int)).toNat (0 : Int))) rfl (T.load rfl trivial (by kernel_rfl) (fm_cell (eI .u8) 1 (fun _ => rfl) t2 (0 : Int) (v17 + (1 : Int)).toNat (ltN g23) 0 (fun a => .val (.int .u8 a)) (fun _ => rfl))) ?_
          refine QOps.seg (N := 174) 1 [(64 : Int) ≠ 0] [(101, .int .u8 (Int.tmod (t2.getD (v17 + (1 : Int)).toNat (0 : Int)) (64 : Int))), (100, .int .u8 (t2.getD (v17 + (1 : Int)).toNat (0 : Int))), (99, .ipt (t2.flatMap (eI .u8)) ((v17 + (1 : Int)).toNat * 1)), (98, .int .i64 (v17 + (1 : Int))), (97, .int .i64 v17), (96, slA (eI .u8) t2), (95, .int .i64 (Int.tmod (IntKind.wrap .i64 (t2.getD v17.toNat (0 : Int))) (v16.length : Int))), (94, .int .i64 (v16.length : Int)), (93, .rsl 15 0 0 v16.length), (92, .int .i64 (IntKind.wrap .i64 (t2.getD v17.toNat (0 : Int)))), (91, .int .u8 (t2.getD v17.toNat (0 : Int))), (90, .ipt (t2.flatMap (eI .u8)) (v17.toNat * 1)), (89, .int .i64 v17), (88, slA (eI .u8) t2), (87, .rsl 15 0 0 v16.length), (84, .bool (cond (decide ((v17 + (1 : Int)) < (t2.length : Int))) (decide (v17 < (4 : Int))) false)), (2, slA (eI .u8) t2), (7, .bool x1), (13, slA (eI .i64) v8), (15, .rsl 15 0 0 v16.length), (17, .int .i64 v17)] (by kernel_rfl) ⟨(by decide), trivial⟩ ?_
          refine QOps.nil ?_
          refine OpsW.seg 0 [101, 95, 87, 2, 7, 13, 15, 17] [] [(101, .int .u8 (Int.tmod (t2.getD (v17 + (1 : Int)).toNat (0 : Int)) (64 : Int))), (95, .int .i64 (Int.tmod (IntKind.wrap .i64 (t2.getD v17.toNat (0 : Int))) (v16.length : Int))), (87, .rsl 15 0 0 v16.length), (2, slA (eI .u8) t2), (7, .bool x1), (13, slA (eI .i64) v8), (15, .rsl 15 0 0 v16.length), (17, .int .i64 v17)] (by kernel_rfl) trivial ?_
          obtain ⟨g24, H⟩ := G_some H
          refine OpsW.seg 1 [102, 101, 2, 7, 13, 15, 17] [0 ≤ (Int.tmod (IntKind.wrap .i64 (t2.getD v17.toNat (0 : Int))) (v16.length : Int)) ∧ (Int.tmod (IntKind.wrap .i64 (t2.getD v17.toNat (0 : Int))) (v16.length : Int)) < (v16.length : Int)] [(102, .ref 15 0 (0 + (Int.tmod (IntKind.wrap .i64 (t2.getD v17.toNat (0 : Int))) (v16.length : Int)).toNat * 1)), (101, .int .u8 (Int.tmod (t2.getD (v17 + (1 : Int)).toNat (0 : Int)) (64 : Int))), (2, slA (eI .u8) t2), (7, .bool x1), (13, slA (eI .i64) v8), (15, .rsl 15 0 0 v16.length), (17, .int .i64 v17)] (by kernel_rfl) ⟨g24, trivial⟩ ?_
          refine OpsW.storeT (enc := eI .u8) (k := 1) (0 : Int) (Int.tmod (t2.getD (v17 + (1 : Int)).toNat (0 : Int)) (64 : Int)) [.val (.int .u8 (Int.tmod (t2.getD (v17 + (1 : Int)).toNat (0 : Int)) (64 : Int)))] (Int.tmod (IntKind.wrap .i64 (t2.getD v17.toNat (0 : Int))) (v16.length : Int)).toNat 0 rfl rfl rfl (by exact congrArg (AV.ref 15 0) (by first | omega | rfl | (simp; omega))) trivial trivial rfl (fun _ => rfl) rfl (by kernel_rfl) (okCb_sound (by kernel_rfl)) (ltN g24) (Nat.le_of_ble_eq_true (by kernel_rfl)) rfl ?_
          refine OpsW.weaken [(102, .ref 15 0 (0 + (Int.tmod (IntKind.wrap .i64 (t2.getD v17.toNat (0 : Int))) (v16.length : Int)).toNat * 1)), (101, .int .u8 (Int.tmod (t2.getD (v17 + (1 : Int)).toNat (0 : Int)) (64 : Int))), (2, slA (eI .u8) t2), (7, .bool x1), (13, slA (eI .i64) v8), (15, .rsl 15 0 0 ((v16.set (Int.tmod (IntKind.wrap .i64 (t2.getD v17.toNat (0 : Int))) (v16.length : Int)).toNat (Int.tmod (t2.getD (v17 + (1 : Int)).toNat (0 : Int)) (64 : Int))).length)), (17, .int .i64 v17)] (Env.le_of_eq (by simp only [List.length_set, List.length_reverse])) ?_
          refine OpsW.seg 0 [2, 7, 13, 15, 17] [] [(2, slA (eI .u8) t2), (7, .bool x1), (13, slA (eI .i64) v8), (15, .rsl 15 0 0 ((v16.set (Int.tmod (IntKind.wrap .i64 (t2.getD v17.toNat (0 : Int))) (v16.length : Int)).toNat (Int.tmod (t2.getD (v17 + (1 : Int)).toNat (0 : Int)) (64 : Int))).length)), (17, .int .i64 v17)] (by kernel_rfl) trivial ?_
          refine OpsW.recast (env' := [(2, slA (eI .u8) t2), (7, .bool x1), (13, slA (eI .i64) v8), (15, .rsl 15 0 0 ((v16.set (Int.tmod (IntKind.wrap .i64 (t2.getD v17.toNat (0 : Int))) (v16.length : Int)).toNat (Int.tmod (t2.getD (v17 + (1 : Int)).toNat (0 : Int)) (64 : Int))).length)), (17, .int .i64 v17)]) (h' := [(15, rtA 0 43 1 (eI .u8) (v16.set (Int.tmod (IntKind.wrap .i64 (t2.getD v17.toNat (0 : Int))) (v16.length : Int)).toNat (Int.tmod (t2.getD (v17 + (1 : Int)).toNat (0 : Int)) (64 : Int))))]) (StC.mk (phi [(15, some 15)]) (.old rfl rfl rfl rfl rfl (CstL.ims _) .nil) rfl (.cons .im (.cons .im (.cons .im (.cons (.rsl rfl rfl rfl rfl rfl rfl) (.cons .im .nil)))))) ?_
          refine OpsW.nil ?_
          refine AW.region ?_
          obtain ⟨g25, H⟩ := G_some H
          refine OpsW.seg 3 [17, 2, 7, 13, 15] [inR (v17 + (2 : Int))] [(17, .int .i64 (v17 + (2 : Int))), (2, slA (eI .u8) t2), (7, .bool x1), (13, slA (eI .i64) v8), (15, .rsl 15 0 0 ((v16.set (Int.tmod (IntKind.wrap .i64 (t2.getD v17.toNat (0 : Int))) (v16.length : Int)).toNat (Int.tmod (t2.getD (v17 + (1 : Int)).toNat (0 : Int)) (64 : Int))).length))] (by kernel_rfl) ⟨g25, trivial⟩ ?_
          refine OpsW.nil ?_
          show ∃ y, _ ∧ StC _ _ _ _
          exact ⟨(v16.set (Int.tmod (IntKind.wrap .i64 (t2.getD v17.toNat (0 : Int))) (v16.length : Int)).toNat (Int.tmod (t2.getD (v17 + (1 : Int)).toNat (0 : Int)) (64 : Int)), v17 + (2 : Int)), H, (StC.mk (phi [(15, some 15)]) (.old rfl rfl rfl rfl rfl (CstL.ims _) .nil) rfl (.cons .im (.cons .im (.cons .im (.cons (.rsl rfl rfl rfl rfl rfl rfl) (.cons .im .nil))))))⟩
        · replace H := condF c20 H
          refine AW.exit ?_
          refine AW.regionSeq ?_
          refine OpsW.seg 2 [104, 103, 7, 13] [] [(104, slA (eI .u8) t2), (103, .rsl 15 0 0 v16.length), (7, .bool x1), (13, slA (eI .i64) v8)] (by kernel_rfl) trivial ?_
          obtain ⟨x26, hx26, H⟩ := bindS H
          refine OpsW.qcall rfl (by kernel_rfl) rfl rfl (glAll_sound trivial) (.cons (.pur rfl) (.cons (.pur rfl) .nil)) (f_R01_Cells_ok hx26) rfl ?_
          refine OpsW.recast (env' := [(105, slA (eI .u8) x26), (104, slA (eI .u8) t2), (103, slA (eI .u8) v16), (7, .bool x1), (13, slA (eI .i64) v8)]) (h' := []) (StC.mk (phi []) .nil rfl (.cons .im (.cons .im (.cons (.frz rfl rfl rfl (frz_all (eI .u8) 1 (fun _ => rfl) v16) (fm_length (eI .u8) 1 (fun _ => rfl) v16) (phi_ne rfl)) (.cons .im (.cons .im .nil)))))) ?_
          refine OpsW.buildTI (enc := eL (eI .u8)) [v16, x26] rfl rfl rfl E45 (fun _ => rfl) (by decide) ⟨trivial, by kernel_rfl, by kernel_rfl, by kernel_rfl, rfl⟩ ?_
          refine OpsW.seg 1 [18, 7, 13] [] [(18, slA (eL (eI .u8)) [v16, x26]), (7, .bool x1), (13, slA (eI .i64) v8)] (by kernel_rfl) trivial ?_
          refine OpsW.recast (env' := [(18, slA (eL (eI .u8)) [v16, x26]), (7, .bool x1), (13, slA (eI .i64) v8)]) (h' := []) (StC.pure (.cons .im (.cons .im (.cons .im .nil)))) ?_
          refine OpsW.nil ?_
          refine AW.seq ?_
          refine AW.regionSeq ?_
          refine OpsW.seg 1 [19, 18, 7, 13] [] [(19, .int .i64 (0 : Int)), (18, slA (eL (eI .u8)) [v16, x26]), (7, .bool x1), (13, slA (eI .i64) v8)] (by kernel_rfl) trivial ?_
          refine OpsW.nil ?_
          refine AW.block ?_
          refine AW.iterK (fun loop (s : Int) => f_L22_NoteStripMatchesReference_b1 x1 v8 v16 x26 loop s) r (fun (s : Int) => [(7, .bool x1), (13, slA (eI .i64) v8), (18, slA (eL (eI .u8)) [v16, x26]), (19, .int .i64 s)]) (fun (s : Int) => []) ?_ 1000000 (0 : Int) H (StC.pure (.cons .im (.cons .im (.cons .im (.cons .im .nil)))))
          intro loop28 v27 H
          change f_L22_NoteStripMatchesReference_b1 x1 v8 v16 x26 loop28 v27 = some r at H
          unfold f_L22_NoteStripMatchesReference_b1 at H
          change AW _ _ _ [(7, .bool x1), (13, slA (eI .i64) v8), (18, slA (eL (eI .u8)) [v16, x26]), (19, .int .i64 v27)] [] _
          refine AW.seq ?_
          refine AW.regionSeq ?_
          refine OpsW.seg 2 [108, 7, 13, 18, 19] [] [(108, .bool (decide (v27 < (2 : Int)))), (7, .bool x1), (13, slA (eI .i64) v8), (18, slA (eL (eI .u8)) [v16, x26]), (19, .int .i64 v27)] (by kernel_rfl) trivial ?_
          refine OpsW.nil ?_
          refine AW.cond (b := decide (v27 < (2 : Int))) rfl (fun c29 => ?_) (fun c29 => ?_)
          · replace H := condT c29 H
            refine AW.skip ?_
            refine AW.seq ?_
            refine AW.block ?_
            refine AW.regionSeq ?_
            obtain ⟨g30, H⟩ := G_some H
            refine OpsW.seg 3 [114, 7, 13, 18, 19] [0 ≤ v27 ∧ v27 < ([v16, x26].length : Int)] [(114, .ipt ([v16, x26].flatMap (eL (eI .u8))) (v27.toNat * 1)), (7, .bool x1), (13, slA (eI .i64) v8), (18, slA (eL (eI .u8)) [v16, x26]), (19, .int .i64 v27)] (by kernel_rfl) ⟨g30, trivial⟩ ?_
            refine OpsW.asU (slA (eI .u8) ([v16, x26].getD v27.toNat [])) rfl rfl (T.load rfl trivial (by kernel_rfl) (fm_cell0 (eL (eI .u8)) 1 (fun _ => rfl) [v16, x26] [] v27.toNat (ltN g30) (fun a => .sl (a.flatMap (eI .u8)) a.length) (fun _ => rfl))) ?_
            obtain ⟨x31, hx31, H⟩ := bindS H
            refine OpsW.qcall rfl (by kernel_rfl) rfl rfl (glAll_sound trivial) (.cons (.pur rfl) .nil) (f_note_Strip_ok hx31) rfl ?_
            refine OpsW.seg 7 [22, 21, 20, 7, 13, 18, 19] [] [(22, .int .i64 x31.2.2), (21, slA (eI .i64) x31.2.1), (20, slA (eI .u8) x31.1), (7, .bool x1), (13, slA (eI .i64) v8), (18, slA (eL (eI .u8)) [v16, x26]), (19, .int .i64 v27)] (by kernel_rfl) trivial ?_
            refine OpsW.nil ?_
            refine AW.regionSeq ?_
            refine OpsW.seg 3 [123, 22, 21, 20, 7, 13, 18, 19] [0 ≤ v27 ∧ v27 < ([v16, x26].length : Int)] [(123, .ipt ([v16, x26].flatMap (eL (eI .u8))) (v27.toNat * 1)), (22, .int .i64 x31.2.2), (21, slA (eI .i64) x31.2.1), (20, slA (eI .u8) x31.1), (7, .bool x1), (13, slA (eI .i64) v8), (18, slA (eL (eI .u8)) [v16, x26]), (19, .int .i64 v27)] (by kernel_rfl) ⟨g30, trivial⟩ ?_
            refine OpsW.asU (slA (eI .u8) ([v16, x26].getD v27.toNat [])) rfl rfl (T.load rfl trivial (by kernel_rfl) (fm_cell0 (eL (eI .u8)) 1 (fun _ => rfl) [v16, x26] [] v27.toNat (ltN g30) (fun a => .sl (a.flatMap (eI .u8)) a.length) (fun _ => rfl))) ?_
            obtain ⟨x32, hx32, H⟩ := bindS H
            refine OpsW.qcall rfl (by kernel_rfl) rfl rfl (glAll_sound trivial) (.cons (.pur rfl) .nil) (f_R22_Strip_ok hx32) rfl ?_
            refine OpsW.seg 7 [25, 24, 23, 22, 21, 20, 7, 13, 18, 19] [] [(25, .int .i64 x32.2.2), (24, slA (eI .i64) x32.2.1), (23, slA (eI .u8) x32.1), (22, .int .i64 x31.2.2), (21, slA (eI .i64) x31.2.1), (20, slA (eI .u8) x31.1), (7, .bool x1), (13, slA (eI .i64) v8), (18, slA (eL (eI .u8)) [v16, x26]), (19, .int .i64 v27)] (by kernel_rfl) trivial ?_
            refine OpsW.nil ?_
            refine AW.regionSeq ?_
            refine OpsW.seg 3 [132, 25, 24, 23, 22, 21, 20, 7, 13, 18, 19] [0 ≤ v27 ∧ v27 < ([v16, x26].length : Int)] [(132, .ipt ([v16, x26].flatMap (eL (eI .u8))) (v27.toNat * 1)), (25, .int .i64 x32.2.2), (24, slA (eI .i64) x32.2.1), (23, slA (eI .u8) x32.1), (22, .int .i64 x31.2.2), (21, slA (eI .i64) x31.2.1), (20, slA (eI .u8) x31.1), (7, .bool x1), (13, slA (eI .i64) v8), (18, slA (eL (eI .u8)) [v16, x26]), (19, .int .i64 v27)] (by kernel_rfl) ⟨g30, trivial⟩ ?_
            refine OpsW.asU (slA (eI .u8) ([v16, x26].getD v27.toNat [])) rfl rfl (T.load rfl trivial (by kernel_rfl) (fm_cell0 (eL (eI .u8)) 1 (fun _ => rfl) [v16, x26] [] v27.toNat (ltN g30) (fun a => .sl (a.flatMap (eI .u8)) a.length) (fun _ => rfl))) ?_
            refine OpsW.seg 1 [134, 133, 25, 24, 23, 22, 21, 20, 7, 13, 18, 19] [] [(134, slA (eI .i64) v8), (133, slA (eI .u8) ([v16, x26].getD v27.toNat [])), (25, .int .i64 x32.2.2), (24, slA (eI .i64) x32.2.1), (23, slA (eI .u8) x32.1), (22, .int .i64 x31.2.2), (21, slA (eI .i64) x31.2.1), (20, slA (eI .u8) x31.1), (7, .bool x1), (13, slA (eI .i64) v8), (18, slA (eL (eI .u8)) [v16, x26]), (19, .int .i64 v27)] (by kernel_rfl) trivial ?_
            obtain ⟨x33, hx33, H⟩ := bindS H
            refine OpsW.qcall rfl (by kernel_rfl) rfl rfl (glAll_sound trivial) (.cons (.pur rfl) (.cons (.pur rfl) .nil)) (f_note_Refer_ok hx33) rfl ?_
            refine OpsW.seg 5 [27, 26, 25, 24, 23, 22, 21, 20, 7, 13, 18, 19] [] [(27, .int .i64 x33.2), (26, slA (eI .u8) x33.1), (25, .int .i64 x32.2.2), (24, slA (eI .i64) x32.2.1), (23, slA (eI .u8) x32.1), (22, .int .i64 x31.2.2), (21, slA (eI .i64) x31.2.1), (20, slA (eI .u8) x31.1), (7, .bool x1), (13, slA (eI .i64) v8), (18, slA (eL (eI .u8)) [v16, x26]), (19, .int .i64 v27)] (by kernel_rfl) trivial ?_
            refine OpsW.nil ?_
            refine AW.regionSeq ?_
            refine OpsW.seg 3 [141, 27, 26, 25, 24, 23, 22, 21, 20, 7, 13, 18, 19] [0 ≤ v27 ∧ v27 < ([v16, x26].length : Int)] [(141, .ipt ([v16, x26].flatMap (eL (eI .u8))) (v27.toNat * 1)), (27, .int .i64 x33.2), (26, slA (eI .u8) x33.1), (25, .int .i64 x32.2.2), (24, slA (eI .i64) x32.2.1), (23, slA (eI .u8) x32.1), (22, .int .i64 x31.2.2), (21, slA (eI .i64) x31.2.1), (20, slA (eI .u8) x31.1), (7, .bool x1), (13, slA (eI .i64) v8), (18, slA (eL (eI .u8)) [v16, x26]), (19, .int .i64 v27)] (by kernel_rfl) ⟨g30, trivial⟩ ?_
            refine OpsW.asU (slA (eI .u8) ([v16, x26].getD v27.toNat [])) rfl rfl (T.load rfl trivial (by kernel_rfl) (fm_cell0 (eL (eI .u8)) 1 (fun _ => rfl) [v16, x26] [] v27.toNat (ltN g30) (fun a => .sl (a.flatMap (eI .u8)) a.length) (fun _ => rfl))) ?_
            refine OpsW.seg 1 [143, 142, 27, 26, 25, 24, 23, 22, 21, 20, 7, 13, 18, 19] [] [(143, slA (eI .i64) v8), (142, slA (eI .u8) ([v16, x26].getD v27.toNat [])), (27, .int .i64 x33.2), (26, slA (eI .u8) x33.1), (25, .int .i64 x32.2.2), (24, slA (eI .i64) x32.2.1), (23, slA (eI .u8) x32.1), (22, .int .i64 x31.2.2), (21, slA (eI .i64) x31.2.1), (20, slA (eI .u8) x31.1), (7, .bool x1), (13, slA (eI .i64) v8), (18, slA (eL (eI .u8)) [v16, x26]), (19, .int .i64 v27)] (by kernel_rfl) trivial ?_
            obtain ⟨x34, hx34, H⟩ := bindS H
            refine OpsW.qcall rfl (by kernel_rfl) rfl rfl (glAll_sound trivial) (.cons (.pur rfl) (.cons (.pur rfl) .nil)) (f_R22_Refer_ok hx34) rfl ?_
            refine OpsW.seg 5 [29, 28, 27, 26, 25, 24, 23, 22, 21, 20, 7, 13, 18, 19] [] [(29, .int .i64 x34.2), (28, slA (eI .u8) x34.1), (27, .int .i64 x33.2), (26, slA (eI .u8) x33.1), (25, .int .i64 x32.2.2), (24, slA (eI .i64) x32.2.1), (23, slA (eI .u8) x32.1), (22, .int .i64 x31.2.2), (21, slA (eI .i64) x31.2.1), (20, slA (eI .u8) x31.1), (7, .bool x1), (13, slA (eI .i64) v8), (18, slA (eL (eI .u8)) [v16, x26]), (19, .int .i64 v27)] (by kernel_rfl) trivial ?_
            refine OpsW.nil ?_
            refine AW.regionSeq ?_
            refine OpsW.seg 2 [148, 147, 29, 28, 27, 26, 25, 24, 22, 21, 7, 13, 18, 19] [] [(148, slA (eI .u8) x32.1), (147, slA (eI .u8) x31.1), (29, .int .i64 x34.2), (28, slA (eI .u8) x34.1), (27, .int .i64 x33.2), (26, slA (eI .u8) x33.1), (25, .int .i64 x32.2.2), (24, slA (eI .i64) x32.2.1), (22, .int .i64 x31.2.2), (21, slA (eI .i64) x31.2.1), (7, .bool x1), (13, slA (eI .i64) v8), (18, slA (eL (eI .u8)) [v16, x26]), (19, .int .i64 v27)] (by kernel_rfl) trivial ?_
            obtain ⟨x35, hx35, H⟩ := bindS H
            refine OpsW.qcall rfl (by kernel_rfl) rfl rfl (glAll_sound trivial) (.cons (.pur rfl) (.cons (.pur rfl) .nil)) (f_R01_Same_ok hx35) rfl ?_
            refine OpsW.seg 4 [153, 152, 151, 29, 28, 27, 26, 25, 22, 7, 13, 18, 19] [] [(153, .cnd (!(!x35)) (slA (eI .i64) x32.2.1)), (152, .cnd (!(!x35)) (slA (eI .i64) x31.2.1)), (151, .bool (!x35)), (29, .int .i64 x34.2), (28, slA (eI .u8) x34.1), (27, .int .i64 x33.2), (26, slA (eI .u8) x33.1), (25, .int .i64 x32.2.2), (22, .int .i64 x31.2.2), (7, .bool x1), (13, slA (eI .i64) v8), (18, slA (eL (eI .u8)) [v16, x26]), (19, .int .i64 v27)] (by kernel_rfl) trivial ?_
            obtain ⟨x36, hx36, H⟩ := bindS H
            refine OpsW.gcall (c := !(!x35)) (r := .bool x36) [] rfl (by kernel_rfl) rfl rfl rfl rfl (fun hc => ⟨glAll_sound ⟨hc, hc, trivial⟩, (.cons (.pur rfl) (.cons (.pur rfl) .nil)), f_R22_Ints_ok (condT hc hx36), .inl ⟨rfl, rfl⟩⟩) ?_
            refine OpsW.seg 10 [164, 163, 162, 29, 27, 7, 13, 18, 19] [(!(!x35)) = true → (!(!x35)) = true, (!x35) = false → (!(!x35)) = true, (!(cond (!x35) true (!x36))) = true → (!(cond (!x35) true (!x36))) = true, (!(cond (!x35) true (!x36))) = true → (!(cond (!x35) true (!x36))) = true, (cond (!x35) true (!x36)) = false → (!(cond (!x35) true (!x36))) = true] [(164, .cnd (!(cond (cond (!x35) true (!x36)) true (x31.2.2 != x32.2.2))) (slA (eI .u8) x34.1)), (163, .cnd (!(cond (cond (!x35) true (!x36)) true (x31.2.2 != x32.2.2))) (slA (eI .u8) x33.1)), (162, .bool (cond (cond (!x35) true (!x36)) true (x31.2.2 != x32.2.2))), (29, .int .i64 x34.2), (27, .int .i64 x33.2), (7, .bool x1), (13, slA (eI .i64) v8), (18, slA (eL (eI .u8)) [v16, x26]), (19, .int .i64 v27)] (by kernel_rfl) ⟨(fun h => h), (fun h => by first | exact h | simpa using h), (fun h => h), (fun h => h), (fun h => by first | exact h | simpa using h), trivial⟩ ?_
            obtain ⟨x37, hx37, H⟩ := bindS H
            refine OpsW.gcall (c := !(cond (cond (!x35) true (!x36)) true (x31.2.2 != x32.2.2))) (r := .bool x37) [] rfl (by kernel_rfl) rfl rfl rfl rfl (fun hc => ⟨glAll_sound ⟨hc, hc, trivial⟩, (.cons (.pur rfl) (.cons (.pur rfl) .nil)), f_R01_Same_ok (condT hc hx37), .inl ⟨rfl, rfl⟩⟩) ?_
            refine OpsW.seg 7 [172, 7, 13, 18, 19] [(!(cond (cond (!x35) true (!x36)) true (x31.2.2 != x32.2.2))) = true → (!(cond (cond (!x35) true (!x36)) true (x31.2.2 != x32.2.2))) = true, (cond (cond (!x35) true (!x36)) true (x31.2.2 != x32.2.2)) = false → (!(cond (cond (!x35) true (!x36)) true (x31.2.2 != x32.2.2))) = true, (!(cond (cond (cond (!x35) true (!x36)) true (x31.2.2 != x32.2.2)) true (!x37))) = true → (!(cond (cond (cond (!x35) true (!x36)) true (x31.2.2 != x32.2.2)) true (!x37))) = true, (!(cond (cond (cond (!x35) true (!x36)) true (x31.2.2 != x32.2.2)) true (!x37))) = true → (!(cond (cond (cond (!x35) true (!x36)) true (x31.2.2 != x32.2.2)) true (!x37))) = true, (cond (cond (cond (!x35) true (!x36)) true (x31.2.2 != x32.2.2)) true (!x37)) = false → (!(cond (cond (cond (!x35) true (!x36)) true (x31.2.2 != x32.2.2)) true (!x37))) = true] [(172, .bool (cond (cond (cond (cond (!x35) true (!x36)) true (x31.2.2 != x32.2.2)) true (!x37)) true (x33.2 != x34.2))), (7, .bool x1), (13, slA (eI .i64) v8), (18, slA (eL (eI .u8)) [v16, x26]), (19, .int .i64 v27)] (by kernel_rfl) ⟨(fun h => h), (fun h => by first | exact h | simpa using h), (fun h => h), (fun h => h), (fun h => by first | exact h | simpa using h), trivial⟩ ?_
            refine OpsW.nil ?_
            refine AW.cond (b := cond (cond (cond (cond (!x35) true (!x36)) true (x31.2.2 != x32.2.2)) true (!x37)) true (x33.2 != x34.2)) rfl (fun c38 => ?_) (fun c38 => ?_)
            · replace H := condT c38 H
              refine AW.regionSeq ?_
              refine OpsW.seg 1 [6] [] [(6, .bool false)] (by kernel_rfl) trivial ?_
              refine OpsW.nil ?_
              obtain rfl := Option.some.inj H
              refine AW.recast (env' := [(6, .bool false)]) (h' := []) (StC.pure (.cons .im .nil)) ?_
              refine AW.ret ?_
              try simp only [Ex.then, Ex.inBlock, Ex.noGoto, Ex.jump, reduceIte, Nat.reduceEqDiff, reduceCtorEq]
              refine Done.gen rfl (.tmp .nil) ?_
              show _ = _
              kernel_rfl
            · replace H := condF c38 H
              refine AW.skip ?_
              refine AW.region ?_
              obtain ⟨g39, H⟩ := G_some H
              refine OpsW.seg 3 [19, 7, 13, 18] [inR (v27 + (1 : Int))] [(19, .int .i64 (v27 + (1 : Int))), (7, .bool x1), (13, slA (eI .i64) v8), (18, slA (eL (eI .u8)) [v16, x26])] (by kernel_rfl) ⟨g39, trivial⟩ ?_
              refine OpsW.nil ?_
              show ∃ y, _ ∧ StC _ _ _ _
              exact ⟨v27 + (1 : Int), H, (StC.pure (.cons .im (.cons .im (.cons .im (.cons .im .nil)))))⟩
          · replace H := condF c29 H
            refine AW.exit ?_
            refine AW.regionSeq ?_
            refine OpsW.seg 2 [6] [] [(6, .bool x1)] (by kernel_rfl) trivial ?_
            refine OpsW.nil ?_
            obtain rfl := Option.some.inj H
            refine AW.recast (env' := [(6, .bool x1)]) (h' := []) (StC.pure (.cons .im .nil)) ?_
            refine AW.ret ?_
            try simp only [Ex.then, Ex.inBlock, Ex.noGoto, Ex.jump, reduceIte, Nat.reduceEqDiff, reduceCtorEq]
            refine Done.gen rfl (.tmp .nil) ?_
            show _ = _
            kernel_rfl
def f_L22_NoteUnique_k1 (loop13 : (Int) → Option Bool) (v12 : Int) : Option Bool :=
  G (inR (v12 + (1 : Int))) <|
  loop13 (v12 + (1 : Int))
def f_L22_NoteUnique_b1 (t2 : List Int) (x1 : Bool) (x6 : (List Int) × Int) (x11 : List Int) (loop13 : (Int) → Option Bool) (v12 : Int) : Option Bool :=
  cond (decide (v12 < (2 : Int))) (
    G (0 ≤ v12 ∧ v12 < ([(([] : List Int) ++ x6.1).set (Int.tmod (IntKind.wrap .i64 (t2.getD 1 (0 : Int))) (((([] : List Int) ++ x6.1).length : Nat) : Int)).toNat (Int.tmod (t2.getD 2 (0 : Int)) (64 : Int)), x11].length : Int)) <|
    (f_note_Strip ([(([] : List Int) ++ x6.1).set (Int.tmod (IntKind.wrap .i64 (t2.getD 1 (0 : Int))) (((([] : List Int) ++ x6.1).length : Nat) : Int)).toNat (Int.tmod (t2.getD 2 (0 : Int)) (64 : Int)), x11].getD v12.toNat [])).bind fun x17 =>
    cond (x17.2.2 != (0 : Int)) (
      f_L22_NoteUnique_k1 loop13 v12) (
      (f_note_Refer x17.1 x17.2.1).bind fun x19 =>
      (f_note_Strip x17.1).bind fun x20 =>
      (cond (!(x19.2 != (0 : Int))) (f_R01_Same x19.1 ([(([] : List Int) ++ x6.1).set (Int.tmod (IntKind.wrap .i64 (t2.getD 1 (0 : Int))) (((([] : List Int) ++ x6.1).length : Nat) : Int)).toNat (Int.tmod (t2.getD 2 (0 : Int)) (64 : Int)), x11].getD v12.toNat [])) (some false)).bind fun x21 =>
      (cond (!(cond (cond (cond (x19.2 != (0 : Int)) true (!x21)) true (x20.2.2 != (0 : Int))) true (decide ((0 : Int) < (x20.2.1.length : Int))))) (f_R01_Same x20.1 x17.1) (some false)).bind fun x22 =>
      cond (cond (cond (cond (cond (x19.2 != (0 : Int)) true (!x21)) true (x20.2.2 != (0 : Int))) true (decide ((0 : Int) < (x20.2.1.length : Int)))) true (!x22)) (
        some false) (
        f_L22_NoteUnique_k1 loop13 v12))) (
    some x1)
def f_L22_NoteUnique (t0 : List (List Int)) (t1 : List Int) (t2 : List Int) : Option Bool :=
  (f_L22_sanity).bind fun x1 =>
  G (inR ((1 : Int) + (IntKind.wrap .i64 (t2.getD 0 (0 : Int))))) <|
  (f_R22_Made t0 (5 : Int)).bind fun x3 =>
  G (inR (((1 : Int) + (IntKind.wrap .i64 (t2.getD 0 (0 : Int)))) + (1 : Int))) <|
  G (inR (((1 : Int) + (IntKind.wrap .i64 (t2.getD 0 (0 : Int)))) + (2 : Int))) <|
  (f_note_Refer x3 [(1 : Int) + (IntKind.wrap .i64 (t2.getD 0 (0 : Int))), ((1 : Int) + (IntKind.wrap .i64 (t2.getD 0 (0 : Int)))) + (1 : Int), ((1 : Int) + (IntKind.wrap .i64 (t2.getD 0 (0 : Int)))) + (2 : Int)]).bind fun x6 =>
  cond (cond (x6.2 != (0 : Int)) true ((x6.1.length : Int) == (0 : Int))) (
    some false) (
    G (room 1 (([] : List Int).length + x6.1.length)) <|
    G ((((([] : List Int) ++ x6.1).length : Nat) : Int) ≠ 0) <|
    G (0 ≤ (Int.tmod (IntKind.wrap .i64 (t2.getD 1 (0 : Int))) (((([] : List Int) ++ x6.1).length : Nat) : Int)) ∧ (Int.tmod (IntKind.wrap .i64 (t2.getD 1 (0 : Int))) (((([] : List Int) ++ x6.1).length : Nat) : Int)) < ((([] : List Int) ++ x6.1).length : Int)) <|
    (f_R01_Cells t1 (30 : Int)).bind fun x11 =>
    iter (fun loop (s : Int) => f_L22_NoteUnique_b1 t2 x1 x6 x11 loop s) 1000000 (0 : Int))
theorem f_L22_NoteUnique_ok {t0 : List (List Int)} {t1 : List Int} {t2 : List Int} {r : Bool} (H : f_L22_NoteUnique t0 t1 t2 = some r) : QSpec Tryd.prog 7 [slA (eL (eI .u8)) t0, slA (eI .u8) t1, .agg [.int .u8 (t2.getD 0 (0 : Int)), .int .u8 (t2.getD 1 (0 : Int)), .int .u8 (t2.getD 2 (0 : Int))]] (.bool r) := by
  refine Spec.of_AW Tryd.func7 rfl (by simp [Tryd.ntmps7]) ?_
  rw [Tryd.ntmps7]
  unfold f_L22_NoteUnique at H
  change AW _ _ _ [(0, slA (eL (eI .u8)) t0), (1, slA (eI .u8) t1), (2, .agg [.int .u8 (t2.getD 0 (0 : Int)), .int .u8 (t2.getD 1 (0 : Int)), .int .u8 (t2.getD 2 (0 : Int))])] [] _
  refine AW.regionSeq ?_
  refine OpsW.box rfl rfl rfl 5 rfl (okCb_sound (by kernel_rfl)) ?_
  change OpsW _ _ _ _ _ [(5, ⟨0, true, 47, 3, [.int .u8 (t2.getD 0 (0 : Int)), .int .u8 (t2.getD 1 (0 : Int)), .int .u8 (t2.getD 2 (0 : Int))]⟩)] _
  refine OpsW.seg 1 [5, 0, 1] [] [(5, .ref 5 0 0), (0, slA (eL (eI .u8)) t0), (1, slA (eI .u8) t1)] (by kernel_rfl) trivial ?_
  refine OpsW.recast (env' := [(5, .ref 5 0 0), (0, slA (eL (eI .u8)) t0), (1, slA (eI .u8) t1)]) (h' := [(5, ⟨0, true, 47, 3, [.int .u8 (t2.getD 0 (0 : Int)), .int .u8 (t2.getD 1 (0 : Int)), .int .u8 (t2.getD 2 (0 : Int))]⟩)]) (StC.mk (phi [(5, some 5)]) (.old rfl rfl rfl rfl rfl (.cons .im (.cons .im (.cons .im .nil))) .nil) rfl (.cons (.ref rfl rfl rfl rfl rfl) (.cons .im (.cons .im .nil)))) ?_
  refine OpsW.nil ?_
  refine AW.regionSeq ?_
  obtain ⟨x1, hx1, H⟩ := bindS H
  refine OpsW.qcall rfl (by kernel_rfl) rfl rfl (glAll_sound trivial) .nil (f_L22_sanity_ok hx1) rfl ?_
  refine OpsW.seg 1 [7, 5, 0, 1] [] [(7, .bool x1), (5, .ref 5 0 0), (0, slA (eL (eI .u8)) t0), (1, slA (eI .u8) t1)] (by kernel_rfl) trivial ?_
  refine OpsW.nil ?_
  refine AW.regionSeq ?_
  obtain ⟨g2, H⟩ := G_some H
  refine OpsW.seg 5 [8, 7, 5, 0, 1] [0 ≤ (0 : Int) ∧ (0 : Int) < (3 : Int), inR ((1 : Int) + (IntKind.wrap .i64 (t2.getD 0 (0 : Int))))] [(8, .int .i64 ((1 : Int) + (IntKind.wrap .i64 (t2.getD 0 (0 : Int))))), (7, .bool x1), (5, .ref 5 0 0), (0, slA (eL (eI .u8)) t0), (1, slA (eI .u8) t1)] (by kernel_rfl) ⟨(by decide), g2, trivial⟩ ?_
  refine OpsW.nil ?_
  refine AW.regionSeq ?_
  refine OpsW.seg 1 [28, 8, 7, 5, 1] [] [(28, slA (eL (eI .u8)) t0), (8, .int .i64 ((1 : Int) + (IntKind.wrap .i64 (t2.getD 0 (0 : Int))))), (7, .bool x1), (5, .ref 5 0 0), (1, slA (eI .u8) t1)] (by kernel_rfl) trivial ?_
  obtain ⟨x3, hx3, H⟩ := bindS H
  refine OpsW.qcall rfl (by kernel_rfl) rfl rfl (glAll_sound trivial) (.cons (.pur rfl) (.cons (.pur rfl) .nil)) (f_R22_Made_ok hx3) rfl ?_
  obtain ⟨g4, H⟩ := G_some H
  obtain ⟨g5, H⟩ := G_some H
  refine OpsW.seg 5 [34, 32, 30, 29, 7, 5, 1] [inR (((1 : Int) + (IntKind.wrap .i64 (t2.getD 0 (0 : Int)))) + (1 : Int)), inR (((1 : Int) + (IntKind.wrap .i64 (t2.getD 0 (0 : Int)))) + (2 : Int))] [(34, .int .i64 (((1 : Int) + (IntKind.wrap .i64 (t2.getD 0 (0 : Int)))) + (2 : Int))), (32, .int .i64 (((1 : Int) + (IntKind.wrap .i64 (t2.getD 0 (0 : Int)))) + (1 : Int))), (30, .int .i64 ((1 : Int) + (IntKind.wrap .i64 (t2.getD 0 (0 : Int))))), (29, slA (eI .u8) x3), (7, .bool x1), (5, .ref 5 0 0), (1, slA (eI .u8) t1)] (by kernel_rfl) ⟨g4, g5, trivial⟩ ?_
  refine OpsW.buildTI (enc := eI .i64) [(1 : Int) + (IntKind.wrap .i64 (t2.getD 0 (0 : Int))), ((1 : Int) + (IntKind.wrap .i64 (t2.getD 0 (0 : Int)))) + (1 : Int), ((1 : Int) + (IntKind.wrap .i64 (t2.getD 0 (0 : Int)))) + (2 : Int)] rfl rfl rfl E23 (fun _ => rfl) (by decide) ⟨trivial, by kernel_rfl, by kernel_rfl, by kernel_rfl, rfl⟩ ?_
  obtain ⟨x6, hx6, H⟩ := bindS H
  refine OpsW.qcall rfl (by kernel_rfl) rfl rfl (glAll_sound trivial) (.cons (.pur rfl) (.cons (.pur rfl) .nil)) (f_note_Refer_ok hx6) rfl ?_
  refine OpsW.seg 5 [10, 9, 7, 5, 1] [] [(10, .int .i64 x6.2), (9, slA (eI .u8) x6.1), (7, .bool x1), (5, .ref 5 0 0), (1, slA (eI .u8) t1)] (by kernel_rfl) trivial ?_
  refine OpsW.nil ?_
  refine AW.seq ?_
  refine AW.regionSeq ?_
  refine OpsW.seg 7 [45, 9, 7, 5, 1] [(!(x6.2 != (0 : Int))) = true → (!(x6.2 != (0 : Int))) = true, (!(x6.2 != (0 : Int))) = true → (!(x6.2 != (0 : Int))) = true, (x6.2 != (0 : Int)) = false → (!(x6.2 != (0 : Int))) = true] [(45, .bool (cond (x6.2 != (0 : Int)) true ((x6.1.length : Int) == (0 : Int)))), (9, slA (eI .u8) x6.1), (7, .bool x1), (5, .ref 5 0 0), (1, slA (eI .u8) t1)] (by kernel_rfl) ⟨(fun h => h), (fun h => h), (fun h => by first | exact h | simpa using h), trivial⟩ ?_
  refine OpsW.nil ?_
  refine AW.cond (b := cond (x6.2 != (0 : Int)) true ((x6.1.length : Int) == (0 : Int))) rfl (fun c7 => ?_) (fun c7 => ?_)
  · replace H := condT c7 H
    refine AW.regionSeq ?_
    refine OpsW.seg 1 [6] [] [(6, .bool false)] (by kernel_rfl) trivial ?_
    refine OpsW.nil ?_
    obtain rfl := Option.some.inj H
    refine AW.recast (env' := [(6, .bool false)]) (h' := []) (StC.pure (.cons .im .nil)) ?_
    refine AW.ret ?_
    try simp only [Ex.then, Ex.inBlock, Ex.noGoto, Ex.jump, reduceIte, Nat.reduceEqDiff, reduceCtorEq]
    refine Done.gen rfl (.tmp .nil) ?_
    show _ = _
    kernel_rfl
  · replace H := condF c7 H
    refine AW.skip ?_
    refine AW.regionSeq ?_
    refine OpsW.buildT (enc := eI .u8) ([] : List Int) rfl rfl rfl 46 rfl E34 (fun _ => rfl) (by decide) trivial (by kernel_rfl) (by kernel_rfl) (by kernel_rfl) rfl ?_
    refine OpsW.seg 1 [47, 46, 7, 5, 1] [] [(47, slA (eI .u8) x6.1), (46, .rsl 46 0 0 (([] : List Int).length)), (7, .bool x1), (5, .ref 5 0 0), (1, slA (eI .u8) t1)] (by kernel_rfl) trivial ?_
    obtain ⟨g8, H⟩ := G_some H
    refine OpsW.appendF (enc := eI .u8) (ys := x6.1) rfl rfl rfl E34 (fun _ => rfl) rfl rfl trivial (SrcA.typed (enc := eI .u8) (fun _ => rfl) (by kernel_rfl) x6.1) rfl g8 ?_
    refine OpsW.seg 1 [11, 7, 5, 1] [] [(11, .rsl 46 1 0 ((([] : List Int) ++ x6.1).length)), (7, .bool x1), (5, .ref 5 0 0), (1, slA (eI .u8) t1)] (by kernel_rfl) trivial ?_
    refine OpsW.recast (env' := [(11, .rsl 11 0 0 ((([] : List Int) ++ x6.1).length)), (7, .bool x1), (5, .ref 5 0 0), (1, slA (eI .u8) t1)]) (h' := [(5, ⟨0, true, 47, 3, [.int .u8 (t2.getD 0 (0 : Int)), .int .u8 (t2.getD 1 (0 : Int)), .int .u8 (t2.getD 2 (0 : Int))]⟩), (11, rtA 0 43 1 (eI .u8) (([] : List Int) ++ x6.1))]) (StC.mk (phi [(5, some 5), (11, some 46)]) (.old rfl rfl rfl rfl rfl (.cons .im (.cons .im (.cons .im .nil))) (.old rfl rfl rfl rfl rfl (CstL.ims _) .nil)) rfl (.cons (.rsl rfl rfl rfl rfl rfl rfl) (.cons .im (.cons (.ref rfl rfl rfl rfl rfl) (.cons .im .nil))))) ?_
    refine OpsW.nil ?_
    refine AW.drawTSeq 10 Tryd.checked.mixed (by kernel_rfl) ?_
    obtain ⟨g9, H⟩ := G_some H
    refine QOps.seg (N := 118) 10 [0 ≤ (1 : Int) ∧ (1 : Int) < (3 : Int), (((([] : List Int) ++ x6.1).length : Nat) : Int) ≠ 0, 0 ≤ (2 : Int) ∧ (2 : Int) < (3 : Int), (64 : Int) ≠ 0] [(58, .int .u8 (Int.tmod (t2.getD 2 (0 : Int)) (64 : Int))), (57, .int .u8 (t2.getD 2 (0 : Int))), (56, .ref 5 0 2), (55, .int .i64 (Int.tmod (IntKind.wrap .i64 (t2.getD 1 (0 : Int))) (((([] : List Int) ++ x6.1).length : Nat) : Int))), (54, .int .i64 (((([] : List Int) ++ x6.1).length : Nat) : Int)), (53, .rsl 11 0 0 ((([] : List Int) ++ x6.1).length)), (52, .int .i64 (IntKind.wrap .i64 (t2.getD 1 (0 : Int)))), (51, .int .u8 (t2.getD 1 (0 : Int))), (50, .ref 5 0 1), (49, .rsl 11 0 0 ((([] : List Int) ++ x6.1).length)), (11, .rsl 11 0 0 ((([] : List Int) ++ x6.1).length)), (7, .bool x1), (5, .ref 5 0 0), (1, slA (eI .u8) t1)] (by kernel_rfl) ⟨(by decide), g9, (by decide), (by decide), trivial⟩ ?_
    refine QOps.nil ?_
    refine OpsW.seg 0 [58, 55, 49, 11, 7, 1] [] [(58, .int .u8 (Int.tmod (t2.getD 2 (0 : Int)) (64 : Int))), (55, .int .i64 (Int.tmod (IntKind.wrap .i64 (t2.getD 1 (0 : Int))) (((([] : List Int) ++ x6.1).length : Nat) : Int))), (49, .rsl 11 0 0 ((([] : List Int) ++ x6.1).length)), (11, .rsl 11 0 0 ((([] : List Int) ++ x6.1).length)), (7, .bool x1), (1, slA (eI .u8) t1)] (by kernel_rfl) trivial ?_
    obtain ⟨g10, H⟩ := G_some H
    refine OpsW.seg 1 [59, 58, 11, 7, 1] [0 ≤ (Int.tmod (IntKind.wrap .i64 (t2.getD 1 (0 : Int))) (((([] : List Int) ++ x6.1).length : Nat) : Int)) ∧ (Int.tmod (IntKind.wrap .i64 (t2.getD 1 (0 : Int))) (((([] : List Int) ++ x6.1).length : Nat) : Int)) < ((([] : List Int) ++ x6.1).length : Int)] [(59, .ref 11 0 (0 + (Int.tmod (IntKind.wrap .i64 (t2.getD 1 (0 : Int))) (((([] : List Int) ++ x6.1).length : Nat) : Int)).toNat * 1)), (58, .int .u8 (Int.tmod (t2.getD 2 (0 : Int)) (64 : Int))), (11, .rsl 11 0 0 ((([] : List Int) ++ x6.1).length)), (7, .bool x1), (1, slA (eI .u8) t1)] (by kernel_rfl) ⟨g10, trivial⟩ ?_
    refine OpsW.storeT (enc := eI .u8) (k := 1) (0 : Int) (Int.tmod (t2.getD 2 (0 : Int)) (64 : Int)) [.val (.int .u8 (Int.tmod (t2.getD 2 (0 : Int)) (64 : Int)))] (Int.tmod (IntKind.wrap .i64 (t2.getD 1 (0 : Int))) (((([] : List Int) ++ x6.1).length : Nat) : Int)).toNat 0 rfl rfl rfl (by exact congrArg (AV.ref 11 0) (by first | omega | rfl | (simp; omega))) trivial trivial rfl (fun _ => rfl) rfl (by kernel_rfl) (okCb_sound (by kernel_rfl)) (ltN g10) (Nat.le_of_ble_eq_true (by kernel_rfl)) rfl ?_
    refine OpsW.weaken [(59, .ref 11 0 (0 + (Int.tmod (IntKind.wrap .i64 (t2.getD 1 (0 : Int))) (((([] : List Int) ++ x6.1).length : Nat) : Int)).toNat * 1)), (58, .int .u8 (Int.tmod (t2.getD 2 (0 : Int)) (64 : Int))), (11, .rsl 11 0 0 (((([] : List Int) ++ x6.1).set (Int.tmod (IntKind.wrap .i64 (t2.getD 1 (0 : Int))) (((([] : List Int) ++ x6.1).length : Nat) : Int)).toNat (Int.tmod (t2.getD 2 (0 : Int)) (64 : Int))).length)), (7, .bool x1), (1, slA (eI .u8) t1)] (Env.le_of_eq (by simp only [List.length_set, List.length_reverse])) ?_
    refine OpsW.seg 0 [11, 7, 1] [] [(11, .rsl 11 0 0 (((([] : List Int) ++ x6.1).set (Int.tmod (IntKind.wrap .i64 (t2.getD 1 (0 : Int))) (((([] : List Int) ++ x6.1).length : Nat) : Int)).toNat (Int.tmod (t2.getD 2 (0 : Int)) (64 : Int))).length)), (7, .bool x1), (1, slA (eI .u8) t1)] (by kernel_rfl) trivial ?_
    refine OpsW.recast (env' := [(11, slA (eI .u8) ((([] : List Int) ++ x6.1).set (Int.tmod (IntKind.wrap .i64 (t2.getD 1 (0 : Int))) (((([] : List Int) ++ x6.1).length : Nat) : Int)).toNat (Int.tmod (t2.getD 2 (0 : Int)) (64 : Int)))), (7, .bool x1), (1, slA (eI .u8) t1)]) (h' := []) (StC.mk (phi []) .nil rfl (.cons (.frz rfl rfl rfl (frz_all (eI .u8) 1 (fun _ => rfl) ((([] : List Int) ++ x6.1).set (Int.tmod (IntKind.wrap .i64 (t2.getD 1 (0 : Int))) (((([] : List Int) ++ x6.1).length : Nat) : Int)).toNat (Int.tmod (t2.getD 2 (0 : Int)) (64 : Int)))) (fm_length (eI .u8) 1 (fun _ => rfl) ((([] : List Int) ++ x6.1).set (Int.tmod (IntKind.wrap .i64 (t2.getD 1 (0 : Int))) (((([] : List Int) ++ x6.1).length : Nat) : Int)).toNat (Int.tmod (t2.getD 2 (0 : Int)) (64 : Int)))) (phi_ne rfl)) (.cons .im (.cons .im .nil)))) ?_
    refine OpsW.nil ?_
    refine AW.regionSeq ?_
    refine OpsW.seg 2 [61, 60, 7] [] [(61, slA (eI .u8) t1), (60, slA (eI .u8) ((([] : List Int) ++ x6.1).set (Int.tmod (IntKind.wrap .i64 (t2.getD 1 (0 : Int))) (((([] : List Int) ++ x6.1).length : Nat) : Int)).toNat (Int.tmod (t2.getD 2 (0 : Int)) (64 : Int)))), (7, .bool x1)] (by kernel_rfl) trivial ?_
    obtain ⟨x11, hx11, H⟩ := bindS H
    refine OpsW.qcall rfl (by kernel_rfl) rfl rfl (glAll_sound trivial) (.cons (.pur rfl) (.cons (.pur rfl) .nil)) (f_R01_Cells_ok hx11) rfl ?_
    refine OpsW.buildTI (enc := eL (eI .u8)) [(([] : List Int) ++ x6.1).set (Int.tmod (IntKind.wrap .i64 (t2.getD 1 (0 : Int))) (((([] : List Int) ++ x6.1).length : Nat) : Int)).toNat (Int.tmod (t2.getD 2 (0 : Int)) (64 : Int)), x11] rfl rfl rfl E45 (fun _ => rfl) (by decide) ⟨trivial, by kernel_rfl, by kernel_rfl, by kernel_rfl, rfl⟩ ?_
    refine OpsW.seg 1 [12, 7] [] [(12, slA (eL (eI .u8)) [(([] : List Int) ++ x6.1).set (Int.tmod (IntKind.wrap .i64 (t2.getD 1 (0 : Int))) (((([] : List Int) ++ x6.1).length : Nat) : Int)).toNat (Int.tmod (t2.getD 2 (0 : Int)) (64 : Int)), x11]), (7, .bool x1)] (by kernel_rfl) trivial ?_
    refine OpsW.nil ?_
    refine AW.seq ?_
    refine AW.regionSeq ?_
    refine OpsW.seg 1 [13, 12, 7] [] [(13, .int .i64 (0 : Int)), (12, slA (eL (eI .u8)) [(([] : List Int) ++ x6.1).set (Int.tmod (IntKind.wrap .i64 (t2.getD 1 (0 : Int))) (((([] : List Int) ++ x6.1).length : Nat) : Int)).toNat (Int.tmod (t2.getD 2 (0 : Int)) (64 : Int)), x11]), (7, .bool x1)] (by kernel_rfl) trivial ?_
    refine OpsW.nil ?_
    refine AW.block ?_
    refine AW.iterK (fun loop (s : Int) => f_L22_NoteUnique_b1 t2 x1 x6 x11 loop s) r (fun (s : Int) => [(7, .bool x1), (12, slA (eL (eI .u8)) [(([] : List Int) ++ x6.1).set (Int.tmod (IntKind.wrap .i64 (t2.getD 1 (0 : Int))) (((([] : List Int) ++ x6.1).length : Nat) : Int)).toNat (Int.tmod (t2.getD 2 (0 : Int)) (64 : Int)), x11]), (13, .int .i64 s)]) (fun (s : Int) => []) ?_ 1000000 (0 : Int) H (StC.pure (.cons .im (.cons .im (.cons .im .nil))))
    intro loop13 v12 H
    change f_L22_NoteUnique_b1 t2 x1 x6 x11 loop13 v12 = some r at H
    unfold f_L22_NoteUnique_b1 at H
    change AW _ _ _ [(7, .bool x1), (12, slA (eL (eI .u8)) [(([] : List Int) ++ x6.1).set (Int.tmod (IntKind.wrap .i64 (t2.getD 1 (0 : Int))) (((([] : List Int) ++ x6.1).length : Nat) : Int)).toNat (Int.tmod (t2.getD 2 (0 : Int)) (64 : Int)), x11]), (13, .int .i64 v12)] [] _
    refine AW.seq ?_
    refine AW.regionSeq ?_
    refine OpsW.seg 2 [65, 7, 12, 13] [] [(65, .bool (decide (v12 < (2 : Int)))), (7, .bool x1), (12, slA (eL (eI .u8)) [(([] : List Int) ++ x6.1).set (Int.tmod (IntKind.wrap .i64 (t2.getD 1 (0 : Int))) (((([] : List Int) ++ x6.1).length : Nat) : Int)).toNat (Int.tmod (t2.getD 2 (0 : Int)) (64 : Int)), x11]), (13, .int .i64 v12)] (by kernel_rfl) trivial ?_
    refine OpsW.nil ?_
    refine AW.cond (b := decide (v12 < (2 : Int))) rfl (fun c14 => ?_) (fun c14 => ?_)
    · replace H := condT c14 H
      refine AW.skip ?_
      refine AW.joinK (fun (y : Unit) => f_L22_NoteUnique_k1 loop13 v12) r (fun (y : Unit) => [(7, .bool x1), (12, slA (eL (eI .u8)) [(([] : List Int) ++ x6.1).set (Int.tmod (IntKind.wrap .i64 (t2.getD 1 (0 : Int))) (((([] : List Int) ++ x6.1).length : Nat) : Int)).toNat (Int.tmod (t2.getD 2 (0 : Int)) (64 : Int)), x11]), (13, .int .i64 v12)]) (fun (y : Unit) => []) ?_ ?_
      · refine AW.block ?_
        refine AW.regionSeq ?_
        obtain ⟨g16, H⟩ := G_some H
        refine OpsW.seg 3 [71, 7, 12, 13] [0 ≤ v12 ∧ v12 < ([(([] : List Int) ++ x6.1).set (Int.tmod (IntKind.wrap .i64 (t2.getD 1 (0 : Int))) (((([] : List Int) ++ x6.1).length : Nat) : Int)).toNat (Int.tmod (t2.getD 2 (0 : Int)) (64 : Int)), x11].length : Int)] [(71, .ipt ([(([] : List Int) ++ x6.1).set (Int.tmod (IntKind.wrap .i64 (t2.getD 1 (0 : Int))) (((([] : List Int) ++ x6.1).length : Nat) : Int)).toNat (Int.tmod (t2.getD 2 (0 : Int)) (64 : Int)), x11].flatMap (eL (eI .u8))) (v12.toNat * 1)), (7, .bool x1), (12, slA (eL (eI .u8)) [(([] : List Int) ++ x6.1).set (Int.tmod (IntKind.wrap .i64 (t2.getD 1 (0 : Int))) (((([] : List Int) ++ x6.1).length : Nat) : Int)).toNat (Int.tmod (t2.getD 2 (0 : Int)) (64 : Int)), x11]), (13, .int .i64 v12)] (by kernel_rfl) ⟨g16, trivial⟩ ?_
        refine OpsW.asU (slA (eI .u8) ([(([] : List Int) ++ x6.1).set (Int.tmod (IntKind.wrap .i64 (t2.getD 1 (0 : Int))) (((([] : List Int) ++ x6.1).length : Nat) : Int)).toNat (Int.tmod (t2.getD 2 (0 : Int)) (64 : Int)), x11].getD v12.toNat [])) rfl rfl (T.load rfl trivial (by kernel_rfl) (fm_cell0 (eL (eI .u8)) 1 (fun _ => rfl) [(([] : List Int) ++ x6.1).set (Int.tmod (IntKind.wrap .i64 (t2.getD 1 (0 : Int))) (((([] : List Int) ++ x6.1).length : Nat) : Int)).toNat (Int.tmod (t2.getD 2 (0 : Int)) (64 : Int)), x11] [] v12.toNat (ltN g16) (fun a => .sl (a.flatMap (eI .u8)) a.length) (fun _ => rfl))) ?_
        obtain ⟨x17, hx17, H⟩ := bindS H
        refine OpsW.qcall rfl (by kernel_rfl) rfl rfl (glAll_sound trivial) (.cons (.pur rfl) .nil) (f_note_Strip_ok hx17) rfl ?_
        refine OpsW.seg 7 [16, 15, 14, 7, 12, 13] [] [(16, .int .i64 x17.2.2), (15, slA (eI .i64) x17.2.1), (14, slA (eI .u8) x17.1), (7, .bool x1), (12, slA (eL (eI .u8)) [(([] : List Int) ++ x6.1).set (Int.tmod (IntKind.wrap .i64 (t2.getD 1 (0 : Int))) (((([] : List Int) ++ x6.1).length : Nat) : Int)).toNat (Int.tmod (t2.getD 2 (0 : Int)) (64 : Int)), x11]), (13, .int .i64 v12)] (by kernel_rfl) trivial ?_
        refine OpsW.nil ?_
        refine AW.seq ?_
        refine AW.regionSeq ?_
        refine OpsW.seg 2 [78, 15, 14, 7, 12, 13] [] [(78, .bool (x17.2.2 != (0 : Int))), (15, slA (eI .i64) x17.2.1), (14, slA (eI .u8) x17.1), (7, .bool x1), (12, slA (eL (eI .u8)) [(([] : List Int) ++ x6.1).set (Int.tmod (IntKind.wrap .i64 (t2.getD 1 (0 : Int))) (((([] : List Int) ++ x6.1).length : Nat) : Int)).toNat (Int.tmod (t2.getD 2 (0 : Int)) (64 : Int)), x11]), (13, .int .i64 v12)] (by kernel_rfl) trivial ?_
        refine OpsW.nil ?_
        refine AW.cond (b := x17.2.2 != (0 : Int)) rfl (fun c18 => ?_) (fun c18 => ?_)
        · replace H := condT c18 H
          refine AW.exit ?_
          show ∃ y, _ ∧ StC _ _ _ _
          exact ⟨(), H, (StC.pure (.cons .im (.cons .im (.cons .im .nil))))⟩
        · replace H := condF c18 H
          refine AW.skip ?_
          refine AW.regionSeq ?_
          refine OpsW.seg 2 [81, 80, 14, 7, 12, 13] [] [(81, slA (eI .i64) x17.2.1), (80, slA (eI .u8) x17.1), (14, slA (eI .u8) x17.1), (7, .bool x1), (12, slA (eL (eI .u8)) [(([] : List Int) ++ x6.1).set (Int.tmod (IntKind.wrap .i64 (t2.getD 1 (0 : Int))) (((([] : List Int) ++ x6.1).length : Nat) : Int)).toNat (Int.tmod (t2.getD 2 (0 : Int)) (64 : Int)), x11]), (13, .int .i64 v12)] (by kernel_rfl) trivial ?_
          obtain ⟨x19, hx19, H⟩ := bindS H
          refine OpsW.qcall rfl (by kernel_rfl) rfl rfl (glAll_sound trivial) (.cons (.pur rfl) (.cons (.pur rfl) .nil)) (f_note_Refer_ok hx19) rfl ?_
          refine OpsW.seg 5 [18, 17, 14, 7, 12, 13] [] [(18, .int .i64 x19.2), (17, slA (eI .u8) x19.1), (14, slA (eI .u8) x17.1), (7, .bool x1), (12, slA (eL (eI .u8)) [(([] : List Int) ++ x6.1).set (Int.tmod (IntKind.wrap .i64 (t2.getD 1 (0 : Int))) (((([] : List Int) ++ x6.1).length : Nat) : Int)).toNat (Int.tmod (t2.getD 2 (0 : Int)) (64 : Int)), x11]), (13, .int .i64 v12)] (by kernel_rfl) trivial ?_
          refine OpsW.nil ?_
          refine AW.regionSeq ?_
          refine OpsW.seg 1 [86, 18, 17, 14, 7, 12, 13] [] [(86, slA (eI .u8) x17.1), (18, .int .i64 x19.2), (17, slA (eI .u8) x19.1), (14, slA (eI .u8) x17.1), (7, .bool x1), (12, slA (eL (eI .u8)) [(([] : List Int) ++ x6.1).set (Int.tmod (IntKind.wrap .i64 (t2.getD 1 (0 : Int))) (((([] : List Int) ++ x6.1).length : Nat) : Int)).toNat (Int.tmod (t2.getD 2 (0 : Int)) (64 : Int)), x11]), (13, .int .i64 v12)] (by kernel_rfl) trivial ?_
          obtain ⟨x20, hx20, H⟩ := bindS H
          refine OpsW.qcall rfl (by kernel_rfl) rfl rfl (glAll_sound trivial) (.cons (.pur rfl) .nil) (f_note_Strip_ok hx20) rfl ?_
          refine OpsW.seg 7 [21, 20, 19, 18, 17, 14, 7, 12, 13] [] [(21, .int .i64 x20.2.2), (20, slA (eI .i64) x20.2.1), (19, slA (eI .u8) x20.1), (18, .int .i64 x19.2), (17, slA (eI .u8) x19.1), (14, slA (eI .u8) x17.1), (7, .bool x1), (12, slA (eL (eI .u8)) [(([] : List Int) ++ x6.1).set (Int.tmod (IntKind.wrap .i64 (t2.getD 1 (0 : Int))) (((([] : List Int) ++ x6.1).length : Nat) : Int)).toNat (Int.tmod (t2.getD 2 (0 : Int)) (64 : Int)), x11]), (13, .int .i64 v12)] (by kernel_rfl) trivial ?_
          refine OpsW.nil ?_
          refine AW.regionSeq ?_
          refine OpsW.seg 7 [97, 94, 93, 21, 20, 19, 14, 7, 12, 13] [(!(x19.2 != (0 : Int))) = true → (!(x19.2 != (0 : Int))) = true, (!(x19.2 != (0 : Int))) = true → (!(x19.2 != (0 : Int))) = true, (!(x19.2 != (0 : Int))) = true → (0 ≤ v12 ∧ v12 < ([(([] : List Int) ++ x6.1).set (Int.tmod (IntKind.wrap .i64 (t2.getD 1 (0 : Int))) (((([] : List Int) ++ x6.1).length : Nat) : Int)).toNat (Int.tmod (t2.getD 2 (0 : Int)) (64 : Int)), x11].length : Int))] [(97, .cnd (!(x19.2 != (0 : Int))) (.ipt ([(([] : List Int) ++ x6.1).set (Int.tmod (IntKind.wrap .i64 (t2.getD 1 (0 : Int))) (((([] : List Int) ++ x6.1).length : Nat) : Int)).toNat (Int.tmod (t2.getD 2 (0 : Int)) (64 : Int)), x11].flatMap (eL (eI .u8))) (v12.toNat * 1))), (94, .cnd (!(x19.2 != (0 : Int))) (slA (eI .u8) x19.1)), (93, .bool (x19.2 != (0 : Int))), (21, .int .i64 x20.2.2), (20, slA (eI .i64) x20.2.1), (19, slA (eI .u8) x20.1), (14, slA (eI .u8) x17.1), (7, .bool x1), (12, slA (eL (eI .u8)) [(([] : List Int) ++ x6.1).set (Int.tmod (IntKind.wrap .i64 (t2.getD 1 (0 : Int))) (((([] : List Int) ++ x6.1).length : Nat) : Int)).toNat (Int.tmod (t2.getD 2 (0 : Int)) (64 : Int)), x11]), (13, .int .i64 v12)] (by kernel_rfl) ⟨(fun h => h), (fun h => h), (fun _ => g16), trivial⟩ ?_
          refine OpsW.asG (c := !(x19.2 != (0 : Int))) (slA (eI .u8) ([(([] : List Int) ++ x6.1).set (Int.tmod (IntKind.wrap .i64 (t2.getD 1 (0 : Int))) (((([] : List Int) ++ x6.1).length : Nat) : Int)).toNat (Int.tmod (t2.getD 2 (0 : Int)) (64 : Int)), x11].getD v12.toNat [])) rfl rfl rfl rfl (fun hc => T.load rfl hc (by kernel_rfl) (fm_cell0 (eL (eI .u8)) 1 (fun _ => rfl) [(([] : List Int) ++ x6.1).set (Int.tmod (IntKind.wrap .i64 (t2.getD 1 (0 : Int))) (((([] : List Int) ++ x6.1).length : Nat) : Int)).toNat (Int.tmod (t2.getD 2 (0 : Int)) (64 : Int)), x11] [] v12.toNat (ltN g16) (fun a => .sl (a.flatMap (eI .u8)) a.length) (fun _ => rfl))) ?_
          obtain ⟨x21, hx21, H⟩ := bindS H
          refine OpsW.gcall (c := !(x19.2 != (0 : Int))) (r := .bool x21) [] rfl (by kernel_rfl) rfl rfl rfl rfl (fun hc => ⟨glAll_sound ⟨hc, hc, trivial⟩, (.cons (.pur rfl) (.cons (.pur rfl) .nil)), f_R01_Same_ok (condT hc hx21), .inl ⟨rfl, rfl⟩⟩) ?_
          refine OpsW.seg 14 [113, 112, 111, 7, 12, 13] [(!(x19.2 != (0 : Int))) = true → (!(x19.2 != (0 : Int))) = true, (x19.2 != (0 : Int)) = false → (!(x19.2 != (0 : Int))) = true, (!(cond (x19.2 != (0 : Int)) true (!x21))) = true → (!(cond (x19.2 != (0 : Int)) true (!x21))) = true, (cond (x19.2 != (0 : Int)) true (!x21)) = false → (!(cond (x19.2 != (0 : Int)) true (!x21))) = true, (!(cond (cond (x19.2 != (0 : Int)) true (!x21)) true (x20.2.2 != (0 : Int)))) = true → (!(cond (cond (x19.2 != (0 : Int)) true (!x21)) true (x20.2.2 != (0 : Int)))) = true, (!(cond (cond (x19.2 != (0 : Int)) true (!x21)) true (x20.2.2 != (0 : Int)))) = true → (!(cond (cond (x19.2 != (0 : Int)) true (!x21)) true (x20.2.2 != (0 : Int)))) = true, (cond (cond (x19.2 != (0 : Int)) true (!x21)) true (x20.2.2 != (0 : Int))) = false → (!(cond (cond (x19.2 != (0 : Int)) true (!x21)) true (x20.2.2 != (0 : Int)))) = true] [(113, .cnd (!(cond (cond (cond (x19.2 != (0 : Int)) true (!x21)) true (x20.2.2 != (0 : Int))) true (decide ((0 : Int) < (x20.2.1.length : Int))))) (slA (eI .u8) x17.1)), (112, .cnd (!(cond (cond (cond (x19.2 != (0 : Int)) true (!x21)) true (x20.2.2 != (0 : Int))) true (decide ((0 : Int) < (x20.2.1.length : Int))))) (slA (eI .u8) x20.1)), (111, .bool (cond (cond (cond (x19.2 != (0 : Int)) true (!x21)) true (x20.2.2 != (0 : Int))) true (decide ((0 : Int) < (x20.2.1.length : Int))))), (7, .bool x1), (12, slA (eL (eI .u8)) [(([] : List Int) ++ x6.1).set (Int.tmod (IntKind.wrap .i64 (t2.getD 1 (0 : Int))) (((([] : List Int) ++ x6.1).length : Nat) : Int)).toNat (Int.tmod (t2.getD 2 (0 : Int)) (64 : Int)), x11]), (13, .int .i64 v12)] (by kernel_rfl) ⟨(fun h => h), (fun h => by first | exact h | simpa using h), (fun h => h), (fun h => by first | exact h | simpa using h), (fun h => h), (fun h => h), (fun h => by first | exact h | simpa using h), trivial⟩ ?_
          obtain ⟨x22, hx22, H⟩ := bindS H
          refine OpsW.gcall (c := !(cond (cond (cond (x19.2 != (0 : Int)) true (!x21)) true (x20.2.2 != (0 : Int))) true (decide ((0 : Int) < (x20.2.1.length : Int))))) (r := .bool x22) [] rfl (by kernel_rfl) rfl rfl rfl rfl (fun hc => ⟨glAll_sound ⟨hc, hc, trivial⟩, (.cons (.pur rfl) (.cons (.pur rfl) .nil)), f_R01_Same_ok (condT hc hx22), .inl ⟨rfl, rfl⟩⟩) ?_
          refine OpsW.seg 2 [116, 7, 12, 13] [(!(cond (cond (cond (x19.2 != (0 : Int)) true (!x21)) true (x20.2.2 != (0 : Int))) true (decide ((0 : Int) < (x20.2.1.length : Int))))) = true → (!(cond (cond (cond (x19.2 != (0 : Int)) true (!x21)) true (x20.2.2 != (0 : Int))) true (decide ((0 : Int) < (x20.2.1.length : Int))))) = true, (cond (cond (cond (x19.2 != (0 : Int)) true (!x21)) true (x20.2.2 != (0 : Int))) true (decide ((0 : Int) < (x20.2.1.length : Int)))) = false → (!(cond (cond (cond (x19.2 != (0 : Int)) true (!x21)) true (x20.2.2 != (0 : Int))) true (decide ((0 : Int) < (x20.2.1.length : Int))))) = true] [(116, .bool (cond (cond (cond (cond (x19.2 != (0 : Int)) true (!x21)) true (x20.2.2 != (0 : Int))) true (decide ((0 : Int) < (x20.2.1.length : Int)))) true (!x22))), (7, .bool x1), (12, slA (eL (eI .u8)) [(([] : List Int) ++ x6.1).set (Int.tmod (IntKind.wrap .i64 (t2.getD 1 (0 : Int))) (((([] : List Int) ++ x6.1).length : Nat) : Int)).toNat (Int.tmod (t2.getD 2 (0 : Int)) (64 : Int)), x11]), (13, .int .i64 v12)] (by kernel_rfl) ⟨(fun h => h), (fun h => by first | exact h | simpa using h), trivial⟩ ?_
          refine OpsW.nil ?_
          refine AW.cond (b := cond (cond (cond (cond (x19.2 != (0 : Int)) true (!x21)) true (x20.2.2 != (0 : Int))) true (decide ((0 : Int) < (x20.2.1.length : Int)))) true (!x22)) rfl (fun c23 => ?_) (fun c23 => ?_)
          · replace H := condT c23 H
            refine AW.regionSeq ?_
            refine OpsW.seg 1 [6] [] [(6, .bool false)] (by kernel_rfl) trivial ?_
            refine OpsW.nil ?_
            obtain rfl := Option.some.inj H
            refine AW.recast (env' := [(6, .bool false)]) (h' := []) (StC.pure (.cons .im .nil)) ?_
            refine AW.ret ?_
            try simp only [Ex.then, Ex.inBlock, Ex.noGoto, Ex.jump, reduceIte, Nat.reduceEqDiff, reduceCtorEq]
            refine Done.gen rfl (.tmp .nil) ?_
            show _ = _
            kernel_rfl
          · replace H := condF c23 H
            refine AW.skip ?_
            show ∃ y, _ ∧ StC _ _ _ _
            exact ⟨(), H, (StC.pure (.cons .im (.cons .im (.cons .im .nil))))⟩
      · rintro ⟨⟩ H
        change f_L22_NoteUnique_k1 loop13 v12 = some r at H
        unfold f_L22_NoteUnique_k1 at H
        change AW _ _ _ [(7, .bool x1), (12, slA (eL (eI .u8)) [(([] : List Int) ++ x6.1).set (Int.tmod (IntKind.wrap .i64 (t2.getD 1 (0 : Int))) (((([] : List Int) ++ x6.1).length : Nat) : Int)).toNat (Int.tmod (t2.getD 2 (0 : Int)) (64 : Int)), x11]), (13, .int .i64 v12)] [] _
        refine AW.region ?_
        obtain ⟨g15, H⟩ := G_some H
        refine OpsW.seg 3 [13, 7, 12] [inR (v12 + (1 : Int))] [(13, .int .i64 (v12 + (1 : Int))), (7, .bool x1), (12, slA (eL (eI .u8)) [(([] : List Int) ++ x6.1).set (Int.tmod (IntKind.wrap .i64 (t2.getD 1 (0 : Int))) (((([] : List Int) ++ x6.1).length : Nat) : Int)).toNat (Int.tmod (t2.getD 2 (0 : Int)) (64 : Int)), x11])] (by kernel_rfl) ⟨g15, trivial⟩ ?_
        refine OpsW.nil ?_
        show ∃ y, _ ∧ StC _ _ _ _
        exact ⟨v12 + (1 : Int), H, (StC.pure (.cons .im (.cons .im (.cons .im .nil))))⟩
    · replace H := condF c14 H
      refine AW.exit ?_
      refine AW.regionSeq ?_
      refine OpsW.seg 2 [6] [] [(6, .bool x1)] (by kernel_rfl) trivial ?_
      refine OpsW.nil ?_
      obtain rfl := Option.some.inj H
      refine AW.recast (env' := [(6, .bool x1)]) (h' := []) (StC.pure (.cons .im .nil)) ?_
      refine AW.ret ?_
      try simp only [Ex.then, Ex.inBlock, Ex.noGoto, Ex.jump, reduceIte, Nat.reduceEqDiff, reduceCtorEq]
      refine Done.gen rfl (.tmp .nil) ?_
      show _ = _
      kernel_rfl
end Go.Proofs.YtdegmbjhedfffaaDoor
