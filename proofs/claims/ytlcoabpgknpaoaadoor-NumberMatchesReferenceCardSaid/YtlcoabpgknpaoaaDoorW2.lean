/-
  Written by gen.py (own work): typed functions, and that the program computes them.
-/
import Derived.Test.YtlcoabpgknpaoaaDoorW1
set_option linter.unusedSimpArgs false
set_option linter.unusedVariables false
set_option maxRecDepth 100000
namespace Go.Proofs.YtlcoabpgknpaoaaDoor
open Go.Abs
def f_R19_ReadHeader_k1 (t0 : List Int) (v11 : S_Header) (v12 : S_Header) : Option (S_Header × Int) :=
  (f_R19_Header v12).bind fun x13 =>
  (cond (!(x13.2 != (0 : Int))) (f_R01_Same x13.1 t0) (some false)).bind fun x14 =>
  cond (cond (x13.2 != (0 : Int)) true (!x14)) (
    some ((⟨(0 : Int), (⟨(0 : Int), (0 : Int)⟩ : S_Label), false, (0 : Int), (0 : Int)⟩ : S_Header), (190 : Int))) (
    some (v12, (0 : Int)))
def f_R19_ReadHeader_k2 (t0 : List Int) (v8 : S_Header) (v9 : List Int) (v10 : S_Header) : Option (S_Header × Int) :=
  cond (decide ((0 : Int) < (v9.length : Int))) (
    (f_R19_Read v9).bind fun x17 =>
    f_R19_ReadHeader_k1 t0 v8 (⟨v10.Width, v10.Label, v10.Back, x17.1, v10.Part⟩ : S_Header)) (
    f_R19_ReadHeader_k1 t0 v8 v10)
def f_R19_ReadHeader_k3 (loop23 : (S_Header × S_Header × Int) → Option (S_Header × Int)) (v22 : Int) (v25 : S_Header) (v26 : S_Header) : Option (S_Header × Int) :=
  G (inR (v22 + (1 : Int))) <|
  loop23 (v25, v26, v22 + (1 : Int))
def f_R19_ReadHeader_b1 (t0 : List Int) (x1 : (List Int) × (List Int)) (loop23 : (S_Header × S_Header × Int) → Option (S_Header × Int)) (v20 : S_Header) (v21 : S_Header) (v22 : Int) : Option (S_Header × Int) :=
  cond (decide (v22 ≤ (26 : Int))) (
    G (0 ≤ (1 : Int) ∧ (1 : Int) < (x1.1.length : Int)) <|
    (f_R19_Letters).bind fun x29 =>
    G (inR (v22 - (1 : Int))) <|
    G (0 ≤ (v22 - (1 : Int)) ∧ (v22 - (1 : Int)) < (x29.length : Int)) <|
    cond ((x1.1.getD (1 : Int).toNat (0 : Int)) == (x29.getD (v22 - (1 : Int)).toNat (0 : Int))) (
      f_R19_ReadHeader_k3 loop23 v22 v20 (⟨v21.Width, v21.Label, v21.Back, v21.Ink, v22⟩ : S_Header)) (
      f_R19_ReadHeader_k3 loop23 v22 v20 v21)) (
    G (0 ≤ (2 : Int) ∧ (2 : Int) ≤ (x1.1.length : Int)) <|
    f_R19_ReadHeader_k2 t0 v20 (x1.1.drop ((2 : Int).toNat)) v21)
def f_R19_ReadHeader_k4 (t0 : List Int) (x1 : (List Int) × (List Int)) (v6 : S_Header) (v7 : S_Header) : Option (S_Header × Int) :=
  G ((decide ((2 : Int) < (x1.1.length : Int))) = true → (0 ≤ (0 : Int) ∧ (0 : Int) < (x1.1.length : Int))) <|
  cond (cond (decide ((2 : Int) < (x1.1.length : Int))) ((x1.1.getD (0 : Int).toNat (0 : Int)) == (48 : Int)) false) (
    iter (fun loop (s : S_Header × S_Header × Int) => f_R19_ReadHeader_b1 t0 x1 loop s.1 s.2.1 s.2.2) 1000000 (v6, v7, (1 : Int))) (
    f_R19_ReadHeader_k2 t0 v6 x1.1 v7)
def f_R19_ReadHeader_k5 (loop38 : (S_Header × S_Header × Int) → Option (S_Header × Int)) (v37 : Int) (v40 : S_Header) (v41 : S_Header) : Option (S_Header × Int) :=
  G (inR (v37 + (1 : Int))) <|
  loop38 (v40, v41, v37 + (1 : Int))
def f_R19_ReadHeader_b2 (t0 : List Int) (x1 : (List Int) × (List Int)) (loop38 : (S_Header × S_Header × Int) → Option (S_Header × Int)) (v35 : S_Header) (v36 : S_Header) (v37 : Int) : Option (S_Header × Int) :=
  cond (decide (v37 ≤ (2 : Int))) (
    G (inR ((x1.2.length : Int) - (1 : Int))) <|
    G (0 ≤ ((x1.2.length : Int) - (1 : Int)) ∧ ((x1.2.length : Int) - (1 : Int)) < (x1.2.length : Int)) <|
    (f_R19_Letters).bind fun x45 =>
    G (inR (v37 - (1 : Int))) <|
    G (0 ≤ (v37 - (1 : Int)) ∧ (v37 - (1 : Int)) < (x45.length : Int)) <|
    cond ((x1.2.getD ((x1.2.length : Int) - (1 : Int)).toNat (0 : Int)) == (x45.getD (v37 - (1 : Int)).toNat (0 : Int))) (
      f_R19_ReadHeader_k5 loop38 v37 v35 (⟨v36.Width, (⟨v36.Label.N, v37⟩ : S_Label), v36.Back, v36.Ink, v36.Part⟩ : S_Header)) (
      f_R19_ReadHeader_k5 loop38 v37 v35 v36)) (
    f_R19_ReadHeader_k4 t0 x1 v35 v36)
def f_R19_ReadHeader (t0 : List Int) : Option (S_Header × Int) :=
  (f_R19_split t0).bind fun x1 =>
  (f_R19_Read x1.2).bind fun x2 =>
  cond (cond (x2.2.2 != (0 : Int)) true (x2.1 == (0 : Int))) (
    some ((⟨(0 : Int), (⟨(0 : Int), (0 : Int)⟩ : S_Label), false, (0 : Int), (0 : Int)⟩ : S_Header), (190 : Int))) (
    G (inR (x2.1 + (1 : Int))) <|
    G (inR (Int.tdiv (x2.1 + (1 : Int)) (2 : Int))) <|
    cond (decide (x2.2.1 < (x1.2.length : Int))) (
      iter (fun loop (s : S_Header × S_Header × Int) => f_R19_ReadHeader_b2 t0 x1 loop s.1 s.2.1 s.2.2) 1000000 ((⟨(0 : Int), (⟨(0 : Int), (0 : Int)⟩ : S_Label), false, (0 : Int), (0 : Int)⟩ : S_Header), (⟨(t0.length : Int), (⟨Int.tdiv (x2.1 + (1 : Int)) (2 : Int), (0 : Int)⟩ : S_Label), (Int.tmod x2.1 (2 : Int)) == (0 : Int), (0 : Int), (0 : Int)⟩ : S_Header), (1 : Int))) (
      f_R19_ReadHeader_k4 t0 x1 (⟨(0 : Int), (⟨(0 : Int), (0 : Int)⟩ : S_Label), false, (0 : Int), (0 : Int)⟩ : S_Header) (⟨(t0.length : Int), (⟨Int.tdiv (x2.1 + (1 : Int)) (2 : Int), (0 : Int)⟩ : S_Label), (Int.tmod x2.1 (2 : Int)) == (0 : Int), (0 : Int), (0 : Int)⟩ : S_Header)))
theorem f_R19_ReadHeader_ok {t0 : List Int} {r : S_Header × Int} (H : f_R19_ReadHeader t0 = some r) : QSpec Tryd.prog 24 [slA (eI .u8) t0] (.tup [.agg [.int .i64 r.1.Width, .int .i64 r.1.Label.N, .int .i64 r.1.Label.K, .bool r.1.Back, .int .i64 r.1.Ink, .int .i64 r.1.Part], .int .i64 r.2]) := by
  refine Spec.of_AW Tryd.func24 rfl (by simp [Tryd.ntmps24]) ?_
  rw [Tryd.ntmps24]
  unfold f_R19_ReadHeader at H
  change AW _ _ _ [(0, slA (eI .u8) t0)] [] _
  refine AW.regionSeq ?_
  refine OpsW.alloc' rfl rfl rfl 2 rfl (by kernel_rfl : zc Tryd.prog 48 = some [.int .i64 0, .int .i64 0, .int .i64 0, .bool false, .int .i64 0, .int .i64 0]) (by kernel_rfl) ?_
  refine OpsW.seg 1 [2, 0] [] [(2, .ref 2 0 0), (0, slA (eI .u8) t0)] (by kernel_rfl) trivial ?_
  refine OpsW.recast (env' := [(2, .ref 2 0 0), (0, slA (eI .u8) t0)]) (h' := [(2, ⟨0, true, 48, 6, [.int .i64 (0 : Int), .int .i64 (0 : Int), .int .i64 (0 : Int), .bool false, .int .i64 (0 : Int), .int .i64 (0 : Int)]⟩)]) (StC.mk (phi [(2, some 2)]) (.old rfl rfl rfl rfl rfl (.cons .im (.cons .im (.cons .im (.cons .im (.cons .im (.cons .im .nil)))))) .nil) rfl (.cons (.ref rfl rfl rfl rfl rfl) (.cons .im .nil))) ?_
  refine OpsW.nil ?_
  refine AW.regionSeq ?_
  refine OpsW.seg 1 [15, 2, 0] [] [(15, slA (eI .u8) t0), (2, .ref 2 0 0), (0, slA (eI .u8) t0)] (by kernel_rfl) trivial ?_
  obtain ⟨x1, hx1, H⟩ := bindS H
  refine OpsW.qcall rfl (by kernel_rfl) rfl rfl (glAll_sound trivial) (.cons (.pur rfl) .nil) (f_R19_split_ok hx1) rfl ?_
  refine OpsW.seg 5 [5, 4, 2, 0] [] [(5, slA (eI .u8) x1.2), (4, slA (eI .u8) x1.1), (2, .ref 2 0 0), (0, slA (eI .u8) t0)] (by kernel_rfl) trivial ?_
  refine OpsW.nil ?_
  refine AW.regionSeq ?_
  refine OpsW.seg 3 [21, 5, 4, 2, 0] [] [(21, .agg [.int .i64 (t0.length : Int), .int .i64 (0 : Int), .int .i64 (0 : Int), .bool false, .int .i64 (0 : Int), .int .i64 (0 : Int)]), (5, slA (eI .u8) x1.2), (4, slA (eI .u8) x1.1), (2, .ref 2 0 0), (0, slA (eI .u8) t0)] (by kernel_rfl) trivial ?_
  refine OpsW.alloc' rfl rfl rfl 6 rfl (by kernel_rfl : zc Tryd.prog 48 = some [.int .i64 0, .int .i64 0, .int .i64 0, .bool false, .int .i64 0, .int .i64 0]) (by kernel_rfl) ?_
  refine OpsW.store rfl rfl rfl rfl trivial trivial rfl rfl rfl (by kernel_rfl) (okCb_sound (by kernel_rfl)) (Nat.le_of_ble_eq_true (by kernel_rfl)) ?_
  change OpsW _ _ _ _ _ [(6, ⟨0, true, 48, 6, [.int .i64 (t0.length : Int), .int .i64 (0 : Int), .int .i64 (0 : Int), .bool false, .int .i64 (0 : Int), .int .i64 (0 : Int)]⟩), (6, ⟨0, true, 48, 6, [.int .i64 (0 : Int), .int .i64 (0 : Int), .int .i64 (0 : Int), .bool false, .int .i64 (0 : Int), .int .i64 (0 : Int)]⟩), (2, ⟨0, true, 48, 6, [.int .i64 (0 : Int), .int .i64 (0 : Int), .int .i64 (0 : Int), .bool false, .int .i64 (0 : Int), .int .i64 (0 : Int)]⟩)] _
  refine OpsW.seg 0 [6, 5, 4, 2, 0] [] [(6, .ref 6 0 0), (5, slA (eI .u8) x1.2), (4, slA (eI .u8) x1.1), (2, .ref 2 0 0), (0, slA (eI .u8) t0)] (by kernel_rfl) trivial ?_
  refine OpsW.recast (env' := [(6, .ref 6 0 0), (5, slA (eI .u8) x1.2), (4, slA (eI .u8) x1.1), (2, .ref 2 0 0), (0, slA (eI .u8) t0)]) (h' := [(2, ⟨0, true, 48, 6, [.int .i64 (0 : Int), .int .i64 (0 : Int), .int .i64 (0 : Int), .bool false, .int .i64 (0 : Int), .int .i64 (0 : Int)]⟩), (6, ⟨0, true, 48, 6, [.int .i64 (t0.length : Int), .int .i64 (0 : Int), .int .i64 (0 : Int), .bool false, .int .i64 (0 : Int), .int .i64 (0 : Int)]⟩)]) (StC.mk (phi [(2, some 2), (6, some 6)]) (.old rfl rfl rfl rfl rfl (.cons .im (.cons .im (.cons .im (.cons .im (.cons .im (.cons .im .nil)))))) (.old rfl rfl rfl rfl rfl (.cons .im (.cons .im (.cons .im (.cons .im (.cons .im (.cons .im .nil)))))) .nil)) rfl (.cons (.ref rfl rfl rfl rfl rfl) (.cons .im (.cons .im (.cons (.ref rfl rfl rfl rfl rfl) (.cons .im .nil)))))) ?_
  refine OpsW.nil ?_
  refine AW.regionSeq ?_
  refine OpsW.seg 1 [23, 6, 5, 4, 2, 0] [] [(23, slA (eI .u8) x1.2), (6, .ref 6 0 0), (5, slA (eI .u8) x1.2), (4, slA (eI .u8) x1.1), (2, .ref 2 0 0), (0, slA (eI .u8) t0)] (by kernel_rfl) trivial ?_
  obtain ⟨x2, hx2, H⟩ := bindS H
  refine OpsW.qcall rfl (by kernel_rfl) rfl rfl (glAll_sound trivial) (.cons (.pur rfl) .nil) (f_R19_Read_ok hx2) rfl ?_
  refine OpsW.seg 7 [9, 8, 7, 6, 5, 4, 2, 0] [] [(9, .int .i64 x2.2.2), (8, .int .i64 x2.2.1), (7, .int .i64 x2.1), (6, .ref 6 0 0), (5, slA (eI .u8) x1.2), (4, slA (eI .u8) x1.1), (2, .ref 2 0 0), (0, slA (eI .u8) t0)] (by kernel_rfl) trivial ?_
  refine OpsW.nil ?_
  refine AW.seq ?_
  refine AW.regionSeq ?_
  refine OpsW.seg 6 [33, 8, 7, 6, 5, 4, 2, 0] [(!(x2.2.2 != (0 : Int))) = true → (!(x2.2.2 != (0 : Int))) = true, (x2.2.2 != (0 : Int)) = false → (!(x2.2.2 != (0 : Int))) = true] [(33, .bool (cond (x2.2.2 != (0 : Int)) true (x2.1 == (0 : Int)))), (8, .int .i64 x2.2.1), (7, .int .i64 x2.1), (6, .ref 6 0 0), (5, slA (eI .u8) x1.2), (4, slA (eI .u8) x1.1), (2, .ref 2 0 0), (0, slA (eI .u8) t0)] (by kernel_rfl) ⟨(fun h => h), (fun h => by first | exact h | simpa using h), trivial⟩ ?_
  refine OpsW.nil ?_
  refine AW.cond (b := cond (x2.2.2 != (0 : Int)) true (x2.1 == (0 : Int))) rfl (fun c3 => ?_) (fun c3 => ?_)
  · replace H := condT c3 H
    refine AW.regionSeq ?_
    refine OpsW.seg 1 [34, 2] [] [(34, .agg [.int .i64 (0 : Int), .int .i64 (0 : Int), .int .i64 (0 : Int), .bool false, .int .i64 (0 : Int), .int .i64 (0 : Int)]), (2, .ref 2 0 0)] (by kernel_rfl) trivial ?_
    refine OpsW.store rfl rfl rfl rfl trivial trivial rfl rfl rfl (by kernel_rfl) (okCb_sound (by kernel_rfl)) (Nat.le_of_ble_eq_true (by kernel_rfl)) ?_
    change OpsW _ _ _ _ _ [(2, ⟨0, true, 48, 6, [.int .i64 (0 : Int), .int .i64 (0 : Int), .int .i64 (0 : Int), .bool false, .int .i64 (0 : Int), .int .i64 (0 : Int)]⟩), (2, ⟨0, true, 48, 6, [.int .i64 (0 : Int), .int .i64 (0 : Int), .int .i64 (0 : Int), .bool false, .int .i64 (0 : Int), .int .i64 (0 : Int)]⟩), (6, ⟨0, true, 48, 6, [.int .i64 (t0.length : Int), .int .i64 (0 : Int), .int .i64 (0 : Int), .bool false, .int .i64 (0 : Int), .int .i64 (0 : Int)]⟩)] _
    refine OpsW.seg 1 [3, 2] [] [(3, .int .i64 (190 : Int)), (2, .ref 2 0 0)] (by kernel_rfl) trivial ?_
    refine OpsW.recast (env' := [(3, .int .i64 (190 : Int)), (2, .ref 2 0 0)]) (h' := [(2, ⟨0, true, 48, 6, [.int .i64 (0 : Int), .int .i64 (0 : Int), .int .i64 (0 : Int), .bool false, .int .i64 (0 : Int), .int .i64 (0 : Int)]⟩)]) (StC.mk (phi [(2, some 2)]) (.old rfl rfl rfl rfl rfl (.cons .im (.cons .im (.cons .im (.cons .im (.cons .im (.cons .im .nil)))))) .nil) rfl (.cons .im (.cons (.ref rfl rfl rfl rfl rfl) .nil))) ?_
    refine OpsW.nil ?_
    obtain rfl := Option.some.inj H
    refine AW.recast (env' := [(2, .ref 2 0 0), (3, .int .i64 (190 : Int))]) (h' := [(2, ⟨0, true, 48, 6, [.int .i64 (0 : Int), .int .i64 (0 : Int), .int .i64 (0 : Int), .bool false, .int .i64 (0 : Int), .int .i64 (0 : Int)]⟩)]) (StC.mk (phi [(2, some 2)]) (.old rfl rfl rfl rfl rfl (.cons .im (.cons .im (.cons .im (.cons .im (.cons .im (.cons .im .nil)))))) .nil) rfl (.cons (.ref rfl rfl rfl rfl rfl) (.cons .im .nil))) ?_
    refine AW.ret ?_
    try simp only [Ex.then, Ex.inBlock, Ex.noGoto, Ex.jump, reduceIte, Nat.reduceEqDiff, reduceCtorEq]
    refine Done.gen rfl (.cell rfl (by kernel_rfl) (.tmp .nil)) ?_
    show _ = _
    kernel_rfl
  · replace H := condF c3 H
    refine AW.skip ?_
    refine AW.regionSeq ?_
    obtain ⟨g4, H⟩ := G_some H
    obtain ⟨g5, H⟩ := G_some H
    refine OpsW.seg 5 [39, 37, 8, 7, 6, 5, 4, 2, 0] [inR (x2.1 + (1 : Int)), (2 : Int) ≠ 0, inR (Int.tdiv (x2.1 + (1 : Int)) (2 : Int))] [(39, .ref 6 0 1), (37, .int .i64 (Int.tdiv (x2.1 + (1 : Int)) (2 : Int))), (8, .int .i64 x2.2.1), (7, .int .i64 x2.1), (6, .ref 6 0 0), (5, slA (eI .u8) x1.2), (4, slA (eI .u8) x1.1), (2, .ref 2 0 0), (0, slA (eI .u8) t0)] (by kernel_rfl) ⟨g4, (by decide), g5, trivial⟩ ?_
    refine OpsW.store rfl rfl rfl rfl trivial trivial rfl rfl rfl (by kernel_rfl) (okCb_sound (by kernel_rfl)) (Nat.le_of_ble_eq_true (by kernel_rfl)) ?_
    change OpsW _ _ _ _ _ [(6, ⟨0, true, 48, 6, [.int .i64 (t0.length : Int), .int .i64 (Int.tdiv (x2.1 + (1 : Int)) (2 : Int)), .int .i64 (0 : Int), .bool false, .int .i64 (0 : Int), .int .i64 (0 : Int)]⟩), (2, ⟨0, true, 48, 6, [.int .i64 (0 : Int), .int .i64 (0 : Int), .int .i64 (0 : Int), .bool false, .int .i64 (0 : Int), .int .i64 (0 : Int)]⟩), (6, ⟨0, true, 48, 6, [.int .i64 (t0.length : Int), .int .i64 (0 : Int), .int .i64 (0 : Int), .bool false, .int .i64 (0 : Int), .int .i64 (0 : Int)]⟩)] _
    refine OpsW.seg 0 [8, 7, 6, 5, 4, 2, 0] [] [(8, .int .i64 x2.2.1), (7, .int .i64 x2.1), (6, .ref 6 0 0), (5, slA (eI .u8) x1.2), (4, slA (eI .u8) x1.1), (2, .ref 2 0 0), (0, slA (eI .u8) t0)] (by kernel_rfl) trivial ?_
    refine OpsW.recast (env' := [(8, .int .i64 x2.2.1), (7, .int .i64 x2.1), (6, .ref 6 0 0), (5, slA (eI .u8) x1.2), (4, slA (eI .u8) x1.1), (2, .ref 2 0 0), (0, slA (eI .u8) t0)]) (h' := [(2, ⟨0, true, 48, 6, [.int .i64 (0 : Int), .int .i64 (0 : Int), .int .i64 (0 : Int), .bool false, .int .i64 (0 : Int), .int .i64 (0 : Int)]⟩), (6, ⟨0, true, 48, 6, [.int .i64 (t0.length : Int), .int .i64 (Int.tdiv (x2.1 + (1 : Int)) (2 : Int)), .int .i64 (0 : Int), .bool false, .int .i64 (0 : Int), .int .i64 (0 : Int)]⟩)]) (StC.mk (phi [(2, some 2), (6, some 6)]) (.old rfl rfl rfl rfl rfl (.cons .im (.cons .im (.cons .im (.cons .im (.cons .im (.cons .im .nil)))))) (.old rfl rfl rfl rfl rfl (.cons .im (.cons .im (.cons .im (.cons .im (.cons .im (.cons .im .nil)))))) .nil)) rfl (.cons .im (.cons .im (.cons (.ref rfl rfl rfl rfl rfl) (.cons .im (.cons .im (.cons (.ref rfl rfl rfl rfl rfl) (.cons .im .nil)))))))) ?_
    refine OpsW.nil ?_
    refine AW.regionSeq ?_
    refine OpsW.seg 4 [43, 42, 8, 6, 5, 4, 2, 0] [(2 : Int) ≠ 0] [(43, .ref 6 0 3), (42, .bool ((Int.tmod x2.1 (2 : Int)) == (0 : Int))), (8, .int .i64 x2.2.1), (6, .ref 6 0 0), (5, slA (eI .u8) x1.2), (4, slA (eI .u8) x1.1), (2, .ref 2 0 0), (0, slA (eI .u8) t0)] (by kernel_rfl) ⟨(by decide), trivial⟩ ?_
    refine OpsW.store rfl rfl rfl rfl trivial trivial rfl rfl rfl (by kernel_rfl) (okCb_sound (by kernel_rfl)) (Nat.le_of_ble_eq_true (by kernel_rfl)) ?_
    change OpsW _ _ _ _ _ [(6, ⟨0, true, 48, 6, [.int .i64 (t0.length : Int), .int .i64 (Int.tdiv (x2.1 + (1 : Int)) (2 : Int)), .int .i64 (0 : Int), .bool ((Int.tmod x2.1 (2 : Int)) == (0 : Int)), .int .i64 (0 : Int), .int .i64 (0 : Int)]⟩), (2, ⟨0, true, 48, 6, [.int .i64 (0 : Int), .int .i64 (0 : Int), .int .i64 (0 : Int), .bool false, .int .i64 (0 : Int), .int .i64 (0 : Int)]⟩), (6, ⟨0, true, 48, 6, [.int .i64 (t0.length : Int), .int .i64 (Int.tdiv (x2.1 + (1 : Int)) (2 : Int)), .int .i64 (0 : Int), .bool false, .int .i64 (0 : Int), .int .i64 (0 : Int)]⟩)] _
    refine OpsW.seg 0 [8, 6, 5, 4, 2, 0] [] [(8, .int .i64 x2.2.1), (6, .ref 6 0 0), (5, slA (eI .u8) x1.2), (4, slA (eI .u8) x1.1), (2, .ref 2 0 0), (0, slA (eI .u8) t0)] (by kernel_rfl) trivial ?_
    refine OpsW.recast (env' := [(8, .int .i64 x2.2.1), (6, .ref 6 0 0), (5, slA (eI .u8) x1.2), (4, slA (eI .u8) x1.1), (2, .ref 2 0 0), (0, slA (eI .u8) t0)]) (h' := [(2, ⟨0, true, 48, 6, [.int .i64 (0 : Int), .int .i64 (0 : Int), .int .i64 (0 : Int), .bool false, .int .i64 (0 : Int), .int .i64 (0 : Int)]⟩), (6, ⟨0, true, 48, 6, [.int .i64 (t0.length : Int), .int .i64 (Int.tdiv (x2.1 + (1 : Int)) (2 : Int)), .int .i64 (0 : Int), .bool ((Int.tmod x2.1 (2 : Int)) == (0 : Int)), .int .i64 (0 : Int), .int .i64 (0 : Int)]⟩)]) (StC.mk (phi [(2, some 2), (6, some 6)]) (.old rfl rfl rfl rfl rfl (.cons .im (.cons .im (.cons .im (.cons .im (.cons .im (.cons .im .nil)))))) (.old rfl rfl rfl rfl rfl (.cons .im (.cons .im (.cons .im (.cons .im (.cons .im (.cons .im .nil)))))) .nil)) rfl (.cons .im (.cons (.ref rfl rfl rfl rfl rfl) (.cons .im (.cons .im (.cons (.ref rfl rfl rfl rfl rfl) (.cons .im .nil))))))) ?_
    refine OpsW.nil ?_
    refine AW.joinK (fun (y : S_Header × S_Header) => f_R19_ReadHeader_k4 t0 x1 y.1 y.2) r (fun (y : S_Header × S_Header) => [(0, slA (eI .u8) t0), (2, .ref 2 0 0), (4, slA (eI .u8) x1.1), (6, .ref 6 0 0)]) (fun (y : S_Header × S_Header) => [(2, ⟨0, true, 48, 6, [.int .i64 y.1.Width, .int .i64 y.1.Label.N, .int .i64 y.1.Label.K, .bool y.1.Back, .int .i64 y.1.Ink, .int .i64 y.1.Part]⟩), (6, ⟨0, true, 48, 6, [.int .i64 y.2.Width, .int .i64 y.2.Label.N, .int .i64 y.2.Label.K, .bool y.2.Back, .int .i64 y.2.Ink, .int .i64 y.2.Part]⟩)]) ?_ ?_
    · refine AW.regionSeq ?_
      refine OpsW.seg 4 [47, 6, 5, 4, 2, 0] [] [(47, .bool (decide (x2.2.1 < (x1.2.length : Int)))), (6, .ref 6 0 0), (5, slA (eI .u8) x1.2), (4, slA (eI .u8) x1.1), (2, .ref 2 0 0), (0, slA (eI .u8) t0)] (by kernel_rfl) trivial ?_
      refine OpsW.nil ?_
      refine AW.cond (b := decide (x2.2.1 < (x1.2.length : Int))) rfl (fun c34 => ?_) (fun c34 => ?_)
      · replace H := condT c34 H
        refine AW.regionSeq ?_
        refine OpsW.seg 1 [10, 6, 5, 4, 2, 0] [] [(10, .int .i64 (1 : Int)), (6, .ref 6 0 0), (5, slA (eI .u8) x1.2), (4, slA (eI .u8) x1.1), (2, .ref 2 0 0), (0, slA (eI .u8) t0)] (by kernel_rfl) trivial ?_
        refine OpsW.nil ?_
        refine AW.block ?_
        refine AW.iterK (fun loop (s : S_Header × S_Header × Int) => f_R19_ReadHeader_b2 t0 x1 loop s.1 s.2.1 s.2.2) r (fun (s : S_Header × S_Header × Int) => [(0, slA (eI .u8) t0), (2, .ref 2 0 0), (4, slA (eI .u8) x1.1), (5, slA (eI .u8) x1.2), (6, .ref 6 0 0), (10, .int .i64 s.2.2)]) (fun (s : S_Header × S_Header × Int) => [(2, ⟨0, true, 48, 6, [.int .i64 s.1.Width, .int .i64 s.1.Label.N, .int .i64 s.1.Label.K, .bool s.1.Back, .int .i64 s.1.Ink, .int .i64 s.1.Part]⟩), (6, ⟨0, true, 48, 6, [.int .i64 s.2.1.Width, .int .i64 s.2.1.Label.N, .int .i64 s.2.1.Label.K, .bool s.2.1.Back, .int .i64 s.2.1.Ink, .int .i64 s.2.1.Part]⟩)]) ?_ 1000000 ((⟨(0 : Int), (⟨(0 : Int), (0 : Int)⟩ : S_Label), false, (0 : Int), (0 : Int)⟩ : S_Header), (⟨(t0.length : Int), (⟨Int.tdiv (x2.1 + (1 : Int)) (2 : Int), (0 : Int)⟩ : S_Label), (Int.tmod x2.1 (2 : Int)) == (0 : Int), (0 : Int), (0 : Int)⟩ : S_Header), (1 : Int)) H (StC.mk (phi [(2, some 2), (6, some 6)]) (.old rfl rfl rfl rfl rfl (.cons .im (.cons .im (.cons .im (.cons .im (.cons .im (.cons .im .nil)))))) (.old rfl rfl rfl rfl rfl (.cons .im (.cons .im (.cons .im (.cons .im (.cons .im (.cons .im .nil)))))) .nil)) rfl (.cons .im (.cons (.ref rfl rfl rfl rfl rfl) (.cons .im (.cons .im (.cons (.ref rfl rfl rfl rfl rfl) (.cons .im .nil)))))))
        intro loop38 s H
        obtain ⟨v35, v36, v37⟩ := s
        change f_R19_ReadHeader_b2 t0 x1 loop38 v35 v36 v37 = some r at H
        unfold f_R19_ReadHeader_b2 at H
        change AW _ _ _ [(0, slA (eI .u8) t0), (2, .ref 2 0 0), (4, slA (eI .u8) x1.1), (5, slA (eI .u8) x1.2), (6, .ref 6 0 0), (10, .int .i64 v37)] [(2, ⟨0, true, 48, 6, [.int .i64 v35.Width, .int .i64 v35.Label.N, .int .i64 v35.Label.K, .bool v35.Back, .int .i64 v35.Ink, .int .i64 v35.Part]⟩), (6, ⟨0, true, 48, 6, [.int .i64 v36.Width, .int .i64 v36.Label.N, .int .i64 v36.Label.K, .bool v36.Back, .int .i64 v36.Ink, .int .i64 v36.Part]⟩)] _
        refine AW.seq ?_
        refine AW.regionSeq ?_
        refine OpsW.seg 2 [49, 0, 2, 4, 5, 6, 10] [] [(49, .bool (decide (v37 ≤ (2 : Int)))), (0, slA (eI .u8) t0), (2, .ref 2 0 0), (4, slA (eI .u8) x1.1), (5, slA (eI .u8) x1.2), (6, .ref 6 0 0), (10, .int .i64 v37)] (by kernel_rfl) trivial ?_
        refine OpsW.nil ?_
        refine AW.cond (b := decide (v37 ≤ (2 : Int))) rfl (fun c39 => ?_) (fun c39 => ?_)
        · replace H := condT c39 H
          refine AW.skip ?_
          refine AW.joinK (fun (y : S_Header × S_Header) => f_R19_ReadHeader_k5 loop38 v37 y.1 y.2) r (fun (y : S_Header × S_Header) => [(0, slA (eI .u8) t0), (2, .ref 2 0 0), (4, slA (eI .u8) x1.1), (5, slA (eI .u8) x1.2), (6, .ref 6 0 0), (10, .int .i64 v37)]) (fun (y : S_Header × S_Header) => [(2, ⟨0, true, 48, 6, [.int .i64 y.1.Width, .int .i64 y.1.Label.N, .int .i64 y.1.Label.K, .bool y.1.Back, .int .i64 y.1.Ink, .int .i64 y.1.Part]⟩), (6, ⟨0, true, 48, 6, [.int .i64 y.2.Width, .int .i64 y.2.Label.N, .int .i64 y.2.Label.K, .bool y.2.Back, .int .i64 y.2.Ink, .int .i64 y.2.Part]⟩)]) ?_ ?_
          · refine AW.block ?_
            refine AW.drawSeq Tryd.checked.mixed (by kernel_rfl) ?_
            obtain ⟨g43, H⟩ := G_some H
            obtain ⟨g44, H⟩ := G_some H
            refine QOps.seg (N := 118) 5 [inR ((x1.2.length : Int) - (1 : Int)), 0 ≤ ((x1.2.length : Int) - (1 : Int)) ∧ ((x1.2.length : Int) - (1 : Int)) < (x1.2.length : Int)] [(56, .ipt (x1.2.flatMap (eI .u8)) (((x1.2.length : Int) - (1 : Int)).toNat * 1)), (55, .int .i64 ((x1.2.length : Int) - (1 : Int))), (54, .int .i64 (x1.2.length : Int)), (53, slA (eI .u8) x1.2), (52, slA (eI .u8) x1.2), (49, .bool (decide (v37 ≤ (2 : Int)))), (0, slA (eI .u8) t0), (2, .ref 2 0 0), (4, slA (eI .u8) x1.1), (5, slA (eI .u8) x1.2), (6, .ref 6 0 0), (10, .int .i64 v37)] (by kernel_rfl) ⟨g43, g44, trivial⟩ ?_
            refine QOps.asU (.int .u8 (x1.2.getD ((x1.2.length : Int) - (1 : Int)).toNat (0 : Int))) rfl (T.load rfl trivial (by kernel_rfl) (fm_cell0 (eI .u8) 1 (fun _ => rfl) x1.2 (0 : Int) ((x1.2.length : Int) - (1 : Int)).toNat (ltN g44) (fun a => .val (.int .u8 a)) (fun _ => rfl))) ?_
            obtain ⟨x45, hx45, H⟩ := bindS H
            refine QOps.qcall rfl (by kernel_rfl) rfl (glAll_sound trivial) .nil (f_R19_Letters_ok hx45) rfl ?_
            obtain ⟨g46, H⟩ := G_some H
            obtain ⟨g47, H⟩ := G_some H
            refine QOps.seg (N := 118) 3 [inR (v37 - (1 : Int)), 0 ≤ (v37 - (1 : Int)) ∧ (v37 - (1 : Int)) < (x45.length : Int)] [(61, .ipt (x45.flatMap (eI .u8)) ((v37 - (1 : Int)).toNat * 1)), (60, .int .i64 (v37 - (1 : Int))), (59, .int .i64 v37), (58, slA (eI .u8) x45), (57, .int .u8 (x1.2.getD ((x1.2.length : Int) - (1 : Int)).toNat (0 : Int))), (56, .ipt (x1.2.flatMap (eI .u8)) (((x1.2.length : Int) - (1 : Int)).toNat * 1)), (55, .int .i64 ((x1.2.length : Int) - (1 : Int))), (54, .int .i64 (x1.2.length : Int)), (53, slA (eI .u8) x1.2), (52, slA (eI .u8) x1.2), (49, .bool (decide (v37 ≤ (2 : Int)))), (0, slA (eI .u8) t0), (2, .ref 2 0 0), (4, slA (eI .u8) x1.1), (5, slA (eI .u8) x1.2), (6, .ref 6 0 0), (10, .int .i64 v37)] (by kernel_rfl) ⟨g46, g47, trivial⟩ ?_
            refine QOps.asU (.int .u8 (x45.getD (v37 - (1 : Int)).toNat (0 : Int))) rfl (T.load rfl trivial (by kernel_rfl) (fm_cell0 (eI .u8) 1 (fun _ => rfl) x45 (0 : Int) (v37 - (1 : Int)).toNat (ltN g47) (fun a => .val (.int .u8 a)) (fun _ => rfl))) ?_
            refine QOps.seg (N := 118) 1 [] [(63, .bool ((x1.2.getD ((x1.2.length : Int) - (1 : Int)).toNat (0 : Int)) == (x45.getD (v37 - (1 : Int)).toNat (0 : Int)))), (62, .int .u8 (x45.getD (v37 - (1 : Int)).toNat (0 : Int))), (61, .ipt (x45.flatMap (eI .u8)) ((v37 - (1 : Int)).toNat * 1)), (60, .int .i64 (v37 - (1 : Int))), (59, .int .i64 v37), (58, slA (eI .u8) x45), (57, .int .u8 (x1.2.getD ((x1.2.length : Int) - (1 : Int)).toNat (0 : Int))), (56, .ipt (x1.2.flatMap (eI .u8)) (((x1.2.length : Int) - (1 : Int)).toNat * 1)), (55, .int .i64 ((x1.2.length : Int) - (1 : Int))), (54, .int .i64 (x1.2.length : Int)), (53, slA (eI .u8) x1.2), (52, slA (eI .u8) x1.2), (49, .bool (decide (v37 ≤ (2 : Int)))), (0, slA (eI .u8) t0), (2, .ref 2 0 0), (4, slA (eI .u8) x1.1), (5, slA (eI .u8) x1.2), (6, .ref 6 0 0), (10, .int .i64 v37)] (by kernel_rfl) trivial ?_
            refine QOps.nil ?_
            refine AW.trim [63, 0, 2, 4, 5, 6, 10] [(63, .bool ((x1.2.getD ((x1.2.length : Int) - (1 : Int)).toNat (0 : Int)) == (x45.getD (v37 - (1 : Int)).toNat (0 : Int)))), (0, slA (eI .u8) t0), (2, .ref 2 0 0), (4, slA (eI .u8) x1.1), (5, slA (eI .u8) x1.2), (6, .ref 6 0 0), (10, .int .i64 v37)] (by kernel_rfl) ?_
            refine AW.cond (b := (x1.2.getD ((x1.2.length : Int) - (1 : Int)).toNat (0 : Int)) == (x45.getD (v37 - (1 : Int)).toNat (0 : Int))) rfl (fun c48 => ?_) (fun c48 => ?_)
            · replace H := condT c48 H
              refine AW.region ?_
              refine OpsW.seg 3 [66, 64, 0, 2, 4, 5, 6, 10] [] [(66, .ref 6 0 2), (64, .int .i64 v37), (0, slA (eI .u8) t0), (2, .ref 2 0 0), (4, slA (eI .u8) x1.1), (5, slA (eI .u8) x1.2), (6, .ref 6 0 0), (10, .int .i64 v37)] (by kernel_rfl) trivial ?_
              refine OpsW.store rfl rfl rfl rfl trivial trivial rfl rfl rfl (by kernel_rfl) (okCb_sound (by kernel_rfl)) (Nat.le_of_ble_eq_true (by kernel_rfl)) ?_
              change OpsW _ _ _ _ _ [(6, ⟨0, true, 48, 6, [.int .i64 v36.Width, .int .i64 v36.Label.N, .int .i64 v37, .bool v36.Back, .int .i64 v36.Ink, .int .i64 v36.Part]⟩), (2, ⟨0, true, 48, 6, [.int .i64 v35.Width, .int .i64 v35.Label.N, .int .i64 v35.Label.K, .bool v35.Back, .int .i64 v35.Ink, .int .i64 v35.Part]⟩), (6, ⟨0, true, 48, 6, [.int .i64 v36.Width, .int .i64 v36.Label.N, .int .i64 v36.Label.K, .bool v36.Back, .int .i64 v36.Ink, .int .i64 v36.Part]⟩)] _
              refine OpsW.seg 0 [0, 2, 4, 5, 6, 10] [] [(0, slA (eI .u8) t0), (2, .ref 2 0 0), (4, slA (eI .u8) x1.1), (5, slA (eI .u8) x1.2), (6, .ref 6 0 0), (10, .int .i64 v37)] (by kernel_rfl) trivial ?_
              refine OpsW.recast (env' := [(0, slA (eI .u8) t0), (2, .ref 2 0 0), (4, slA (eI .u8) x1.1), (5, slA (eI .u8) x1.2), (6, .ref 6 0 0), (10, .int .i64 v37)]) (h' := [(2, ⟨0, true, 48, 6, [.int .i64 v35.Width, .int .i64 v35.Label.N, .int .i64 v35.Label.K, .bool v35.Back, .int .i64 v35.Ink, .int .i64 v35.Part]⟩), (6, ⟨0, true, 48, 6, [.int .i64 v36.Width, .int .i64 v36.Label.N, .int .i64 v37, .bool v36.Back, .int .i64 v36.Ink, .int .i64 v36.Part]⟩)]) (StC.mk (phi [(2, some 2), (6, some 6)]) (.old rfl rfl rfl rfl rfl (.cons .im (.cons .im (.cons .im (.cons .im (.cons .im (.cons .im .nil)))))) (.old rfl rfl rfl rfl rfl (.cons .im (.cons .im (.cons .im (.cons .im (.cons .im (.cons .im .nil)))))) .nil)) rfl (.cons .im (.cons (.ref rfl rfl rfl rfl rfl) (.cons .im (.cons .im (.cons (.ref rfl rfl rfl rfl rfl) (.cons .im .nil))))))) ?_
              refine OpsW.nil ?_
              show ∃ y, _ ∧ StC _ _ _ _
              exact ⟨(v35, (⟨v36.Width, (⟨v36.Label.N, v37⟩ : S_Label), v36.Back, v36.Ink, v36.Part⟩ : S_Header)), H, (StC.mk (phi [(2, some 2), (6, some 6)]) (.old rfl rfl rfl rfl rfl (.cons .im (.cons .im (.cons .im (.cons .im (.cons .im (.cons .im .nil)))))) (.old rfl rfl rfl rfl rfl (.cons .im (.cons .im (.cons .im (.cons .im (.cons .im (.cons .im .nil)))))) .nil)) rfl (.cons .im (.cons (.ref rfl rfl rfl rfl rfl) (.cons .im (.cons .im (.cons (.ref rfl rfl rfl rfl rfl) (.cons .im .nil)))))))⟩
            · replace H := condF c48 H
              refine AW.skip ?_
              show ∃ y, _ ∧ StC _ _ _ _
              exact ⟨(v35, v36), H, (StC.mk (phi [(2, some 2), (6, some 6)]) (.old rfl rfl rfl rfl rfl (.cons .im (.cons .im (.cons .im (.cons .im (.cons .im (.cons .im .nil)))))) (.old rfl rfl rfl rfl rfl (.cons .im (.cons .im (.cons .im (.cons .im (.cons .im (.cons .im .nil)))))) .nil)) rfl (.cons .im (.cons (.ref rfl rfl rfl rfl rfl) (.cons .im (.cons .im (.cons (.ref rfl rfl rfl rfl rfl) (.cons .im .nil)))))))⟩
          · rintro ⟨v40, v41⟩ H
            change f_R19_ReadHeader_k5 loop38 v37 v40 v41 = some r at H
            unfold f_R19_ReadHeader_k5 at H
            change AW _ _ _ [(0, slA (eI .u8) t0), (2, .ref 2 0 0), (4, slA (eI .u8) x1.1), (5, slA (eI .u8) x1.2), (6, .ref 6 0 0), (10, .int .i64 v37)] [(2, ⟨0, true, 48, 6, [.int .i64 v40.Width, .int .i64 v40.Label.N, .int .i64 v40.Label.K, .bool v40.Back, .int .i64 v40.Ink, .int .i64 v40.Part]⟩), (6, ⟨0, true, 48, 6, [.int .i64 v41.Width, .int .i64 v41.Label.N, .int .i64 v41.Label.K, .bool v41.Back, .int .i64 v41.Ink, .int .i64 v41.Part]⟩)] _
            refine AW.region ?_
            obtain ⟨g42, H⟩ := G_some H
            refine OpsW.seg 3 [10, 0, 2, 4, 5, 6] [inR (v37 + (1 : Int))] [(10, .int .i64 (v37 + (1 : Int))), (0, slA (eI .u8) t0), (2, .ref 2 0 0), (4, slA (eI .u8) x1.1), (5, slA (eI .u8) x1.2), (6, .ref 6 0 0)] (by kernel_rfl) ⟨g42, trivial⟩ ?_
            refine OpsW.nil ?_
            show ∃ y, _ ∧ StC _ _ _ _
            exact ⟨(v40, v41, v37 + (1 : Int)), H, (StC.mk (phi [(2, some 2), (6, some 6)]) (.old rfl rfl rfl rfl rfl (.cons .im (.cons .im (.cons .im (.cons .im (.cons .im (.cons .im .nil)))))) (.old rfl rfl rfl rfl rfl (.cons .im (.cons .im (.cons .im (.cons .im (.cons .im (.cons .im .nil)))))) .nil)) rfl (.cons .im (.cons (.ref rfl rfl rfl rfl rfl) (.cons .im (.cons .im (.cons (.ref rfl rfl rfl rfl rfl) (.cons .im .nil)))))))⟩
        · replace H := condF c39 H
          refine AW.exit ?_
          show ∃ y, _ ∧ StC _ _ _ _
          exact ⟨(v35, v36), H, (StC.mk (phi [(2, some 2), (6, some 6)]) (.old rfl rfl rfl rfl rfl (.cons .im (.cons .im (.cons .im (.cons .im (.cons .im (.cons .im .nil)))))) (.old rfl rfl rfl rfl rfl (.cons .im (.cons .im (.cons .im (.cons .im (.cons .im (.cons .im .nil)))))) .nil)) rfl (.cons .im (.cons (.ref rfl rfl rfl rfl rfl) (.cons .im (.cons (.ref rfl rfl rfl rfl rfl) .nil)))))⟩
      · replace H := condF c34 H
        refine AW.skip ?_
        show ∃ y, _ ∧ StC _ _ _ _
        exact ⟨((⟨(0 : Int), (⟨(0 : Int), (0 : Int)⟩ : S_Label), false, (0 : Int), (0 : Int)⟩ : S_Header), (⟨(t0.length : Int), (⟨Int.tdiv (x2.1 + (1 : Int)) (2 : Int), (0 : Int)⟩ : S_Label), (Int.tmod x2.1 (2 : Int)) == (0 : Int), (0 : Int), (0 : Int)⟩ : S_Header)), H, (StC.mk (phi [(2, some 2), (6, some 6)]) (.old rfl rfl rfl rfl rfl (.cons .im (.cons .im (.cons .im (.cons .im (.cons .im (.cons .im .nil)))))) (.old rfl rfl rfl rfl rfl (.cons .im (.cons .im (.cons .im (.cons .im (.cons .im (.cons .im .nil)))))) .nil)) rfl (.cons .im (.cons (.ref rfl rfl rfl rfl rfl) (.cons .im (.cons (.ref rfl rfl rfl rfl rfl) .nil)))))⟩
    · rintro ⟨v6, v7⟩ H
      change f_R19_ReadHeader_k4 t0 x1 v6 v7 = some r at H
      unfold f_R19_ReadHeader_k4 at H
      change AW _ _ _ [(0, slA (eI .u8) t0), (2, .ref 2 0 0), (4, slA (eI .u8) x1.1), (6, .ref 6 0 0)] [(2, ⟨0, true, 48, 6, [.int .i64 v6.Width, .int .i64 v6.Label.N, .int .i64 v6.Label.K, .bool v6.Back, .int .i64 v6.Ink, .int .i64 v6.Part]⟩), (6, ⟨0, true, 48, 6, [.int .i64 v7.Width, .int .i64 v7.Label.N, .int .i64 v7.Label.K, .bool v7.Back, .int .i64 v7.Ink, .int .i64 v7.Part]⟩)] _
      refine AW.joinK (fun (y : S_Header × (List Int) × S_Header) => f_R19_ReadHeader_k2 t0 y.1 y.2.1 y.2.2) r (fun (y : S_Header × (List Int) × S_Header) => [(0, slA (eI .u8) t0), (2, .ref 2 0 0), (4, slA (eI .u8) y.2.1), (6, .ref 6 0 0)]) (fun (y : S_Header × (List Int) × S_Header) => [(2, ⟨0, true, 48, 6, [.int .i64 y.1.Width, .int .i64 y.1.Label.N, .int .i64 y.1.Label.K, .bool y.1.Back, .int .i64 y.1.Ink, .int .i64 y.1.Part]⟩), (6, ⟨0, true, 48, 6, [.int .i64 y.2.2.Width, .int .i64 y.2.2.Label.N, .int .i64 y.2.2.Label.K, .bool y.2.2.Back, .int .i64 y.2.2.Ink, .int .i64 y.2.2.Part]⟩)]) ?_ ?_
      · refine AW.regionSeq ?_
        obtain ⟨g18, H⟩ := G_some H
        refine OpsW.seg 6 [72, 70, 0, 2, 4, 6] [(decide ((2 : Int) < (x1.1.length : Int))) = true → (decide ((2 : Int) < (x1.1.length : Int))) = true, (decide ((2 : Int) < (x1.1.length : Int))) = true → (0 ≤ (0 : Int) ∧ (0 : Int) < (x1.1.length : Int))] [(72, .cnd (decide ((2 : Int) < (x1.1.length : Int))) (.ipt (x1.1.flatMap (eI .u8)) ((0 : Int).toNat * 1))), (70, .bool (decide ((2 : Int) < (x1.1.length : Int)))), (0, slA (eI .u8) t0), (2, .ref 2 0 0), (4, slA (eI .u8) x1.1), (6, .ref 6 0 0)] (by kernel_rfl) ⟨(fun h => h), g18, trivial⟩ ?_
        refine OpsW.asG (c := decide ((2 : Int) < (x1.1.length : Int))) (.int .u8 (x1.1.getD (0 : Int).toNat (0 : Int))) rfl rfl rfl rfl (fun hc => T.load rfl hc (by kernel_rfl) (fm_cell0 (eI .u8) 1 (fun _ => rfl) x1.1 (0 : Int) (0 : Int).toNat (ltN (g18 hc)) (fun a => .val (.int .u8 a)) (fun _ => rfl))) ?_
        refine OpsW.seg 2 [75, 0, 2, 4, 6] [(decide ((2 : Int) < (x1.1.length : Int))) = true → (decide ((2 : Int) < (x1.1.length : Int))) = true, (decide ((2 : Int) < (x1.1.length : Int))) = true → (decide ((2 : Int) < (x1.1.length : Int))) = true] [(75, .bool (cond (decide ((2 : Int) < (x1.1.length : Int))) ((x1.1.getD (0 : Int).toNat (0 : Int)) == (48 : Int)) false)), (0, slA (eI .u8) t0), (2, .ref 2 0 0), (4, slA (eI .u8) x1.1), (6, .ref 6 0 0)] (by kernel_rfl) ⟨(fun h => h), (fun h => by first | exact h | simpa using h), trivial⟩ ?_
        refine OpsW.nil ?_
        refine AW.cond (b := cond (decide ((2 : Int) < (x1.1.length : Int))) ((x1.1.getD (0 : Int).toNat (0 : Int)) == (48 : Int)) false) rfl (fun c19 => ?_) (fun c19 => ?_)
        · replace H := condT c19 H
          refine AW.seq ?_
          refine AW.regionSeq ?_
          refine OpsW.seg 1 [11, 0, 2, 4, 6] [] [(11, .int .i64 (1 : Int)), (0, slA (eI .u8) t0), (2, .ref 2 0 0), (4, slA (eI .u8) x1.1), (6, .ref 6 0 0)] (by kernel_rfl) trivial ?_
          refine OpsW.nil ?_
          refine AW.block ?_
          refine AW.iterK (fun loop (s : S_Header × S_Header × Int) => f_R19_ReadHeader_b1 t0 x1 loop s.1 s.2.1 s.2.2) r (fun (s : S_Header × S_Header × Int) => [(0, slA (eI .u8) t0), (2, .ref 2 0 0), (4, slA (eI .u8) x1.1), (6, .ref 6 0 0), (11, .int .i64 s.2.2)]) (fun (s : S_Header × S_Header × Int) => [(2, ⟨0, true, 48, 6, [.int .i64 s.1.Width, .int .i64 s.1.Label.N, .int .i64 s.1.Label.K, .bool s.1.Back, .int .i64 s.1.Ink, .int .i64 s.1.Part]⟩), (6, ⟨0, true, 48, 6, [.int .i64 s.2.1.Width, .int .i64 s.2.1.Label.N, .int .i64 s.2.1.Label.K, .bool s.2.1.Back, .int .i64 s.2.1.Ink, .int .i64 s.2.1.Part]⟩)]) ?_ 1000000 (v6, v7, (1 : Int)) H (StC.mk (phi [(2, some 2), (6, some 6)]) (.old rfl rfl rfl rfl rfl (.cons .im (.cons .im (.cons .im (.cons .im (.cons .im (.cons .im .nil)))))) (.old rfl rfl rfl rfl rfl (.cons .im (.cons .im (.cons .im (.cons .im (.cons .im (.cons .im .nil)))))) .nil)) rfl (.cons .im (.cons (.ref rfl rfl rfl rfl rfl) (.cons .im (.cons (.ref rfl rfl rfl rfl rfl) (.cons .im .nil))))))
          intro loop23 s H
          obtain ⟨v20, v21, v22⟩ := s
          change f_R19_ReadHeader_b1 t0 x1 loop23 v20 v21 v22 = some r at H
          unfold f_R19_ReadHeader_b1 at H
          change AW _ _ _ [(0, slA (eI .u8) t0), (2, .ref 2 0 0), (4, slA (eI .u8) x1.1), (6, .ref 6 0 0), (11, .int .i64 v22)] [(2, ⟨0, true, 48, 6, [.int .i64 v20.Width, .int .i64 v20.Label.N, .int .i64 v20.Label.K, .bool v20.Back, .int .i64 v20.Ink, .int .i64 v20.Part]⟩), (6, ⟨0, true, 48, 6, [.int .i64 v21.Width, .int .i64 v21.Label.N, .int .i64 v21.Label.K, .bool v21.Back, .int .i64 v21.Ink, .int .i64 v21.Part]⟩)] _
          refine AW.seq ?_
          refine AW.regionSeq ?_
          refine OpsW.seg 2 [77, 0, 2, 4, 6, 11] [] [(77, .bool (decide (v22 ≤ (26 : Int)))), (0, slA (eI .u8) t0), (2, .ref 2 0 0), (4, slA (eI .u8) x1.1), (6, .ref 6 0 0), (11, .int .i64 v22)] (by kernel_rfl) trivial ?_
          refine OpsW.nil ?_
          refine AW.cond (b := decide (v22 ≤ (26 : Int))) rfl (fun c24 => ?_) (fun c24 => ?_)
          · replace H := condT c24 H
            refine AW.skip ?_
            refine AW.joinK (fun (y : S_Header × S_Header) => f_R19_ReadHeader_k3 loop23 v22 y.1 y.2) r (fun (y : S_Header × S_Header) => [(0, slA (eI .u8) t0), (2, .ref 2 0 0), (4, slA (eI .u8) x1.1), (6, .ref 6 0 0), (11, .int .i64 v22)]) (fun (y : S_Header × S_Header) => [(2, ⟨0, true, 48, 6, [.int .i64 y.1.Width, .int .i64 y.1.Label.N, .int .i64 y.1.Label.K, .bool y.1.Back, .int .i64 y.1.Ink, .int .i64 y.1.Part]⟩), (6, ⟨0, true, 48, 6, [.int .i64 y.2.Width, .int .i64 y.2.Label.N, .int .i64 y.2.Label.K, .bool y.2.Back, .int .i64 y.2.Ink, .int .i64 y.2.Part]⟩)]) ?_ ?_
            · refine AW.block ?_
              refine AW.drawSeq Tryd.checked.mixed (by kernel_rfl) ?_
              obtain ⟨g28, H⟩ := G_some H
              refine QOps.seg (N := 118) 2 [0 ≤ (1 : Int) ∧ (1 : Int) < (x1.1.length : Int)] [(81, .ipt (x1.1.flatMap (eI .u8)) ((1 : Int).toNat * 1)), (80, slA (eI .u8) x1.1), (77, .bool (decide (v22 ≤ (26 : Int)))), (0, slA (eI .u8) t0), (2, .ref 2 0 0), (4, slA (eI .u8) x1.1), (6, .ref 6 0 0), (11, .int .i64 v22)] (by kernel_rfl) ⟨g28, trivial⟩ ?_
              refine QOps.asU (.int .u8 (x1.1.getD (1 : Int).toNat (0 : Int))) rfl (T.load rfl trivial (by kernel_rfl) (fm_cell0 (eI .u8) 1 (fun _ => rfl) x1.1 (0 : Int) (1 : Int).toNat (ltN g28) (fun a => .val (.int .u8 a)) (fun _ => rfl))) ?_
              obtain ⟨x29, hx29, H⟩ := bindS H
              refine QOps.qcall rfl (by kernel_rfl) rfl (glAll_sound trivial) .nil (f_R19_Letters_ok hx29) rfl ?_
              obtain ⟨g30, H⟩ := G_some H
              obtain ⟨g31, H⟩ := G_some H
              refine QOps.seg (N := 118) 3 [inR (v22 - (1 : Int)), 0 ≤ (v22 - (1 : Int)) ∧ (v22 - (1 : Int)) < (x29.length : Int)] [(86, .ipt (x29.flatMap (eI .u8)) ((v22 - (1 : Int)).toNat * 1)), (85, .int .i64 (v22 - (1 : Int))), (84, .int .i64 v22), (83, slA (eI .u8) x29), (82, .int .u8 (x1.1.getD (1 : Int).toNat (0 : Int))), (81, .ipt (x1.1.flatMap (eI .u8)) ((1 : Int).toNat * 1)), (80, slA (eI .u8) x1.1), (77, .bool (decide (v22 ≤ (26 : Int)))), (0, slA (eI .u8) t0), (2, .ref 2 0 0), (4, slA (eI .u8) x1.1), (6, .ref 6 0 0), (11, .int .i64 v22)] (by kernel_rfl) ⟨g30, g31, trivial⟩ ?_
              refine QOps.asU (.int .u8 (x29.getD (v22 - (1 : Int)).toNat (0 : Int))) rfl (T.load rfl trivial (by kernel_rfl) (fm_cell0 (eI .u8) 1 (fun _ => rfl) x29 (0 : Int) (v22 - (1 : Int)).toNat (ltN g31) (fun a => .val (.int .u8 a)) (fun _ => rfl))) ?_
              refine QOps.seg (N := 118) 1 [] [(88, .bool ((x1.1.getD (1 : Int).toNat (0 : Int)) == (x29.getD (v22 - (1 : Int)).toNat (0 : Int)))), (87, .int .u8 (x29.getD (v22 - (1 : Int)).toNat (0 : Int))), (86, .ipt (x29.flatMap (eI .u8)) ((v22 - (1 : Int)).toNat * 1)), (85, .int .i64 (v22 - (1 : Int))), (84, .int .i64 v22), (83, slA (eI .u8) x29), (82, .int .u8 (x1.1.getD (1 : Int).toNat (0 : Int))), (81, .ipt (x1.1.flatMap (eI .u8)) ((1 : Int).toNat * 1)), (80, slA (eI .u8) x1.1), (77, .bool (decide (v22 ≤ (26 : Int)))), (0, slA (eI .u8) t0), (2, .ref 2 0 0), (4, slA (eI .u8) x1.1), (6, .ref 6 0 0), (11, .int .i64 v22)] (by kernel_rfl) trivial ?_
              refine QOps.nil ?_
              refine AW.trim [88, 0, 2, 4, 6, 11] [(88, .bool ((x1.1.getD (1 : Int).toNat (0 : Int)) == (x29.getD (v22 - (1 : Int)).toNat (0 : Int)))), (0, slA (eI .u8) t0), (2, .ref 2 0 0), (4, slA (eI .u8) x1.1), (6, .ref 6 0 0), (11, .int .i64 v22)] (by kernel_rfl) ?_
              refine AW.cond (b := (x1.1.getD (1 : Int).toNat (0 : Int)) == (x29.getD (v22 - (1 : Int)).toNat (0 : Int))) rfl (fun c32 => ?_) (fun c32 => ?_)
              · replace H := condT c32 H
                refine AW.region ?_
                refine OpsW.seg 2 [90, 89, 0, 2, 4, 6, 11] [] [(90, .ref 6 0 5), (89, .int .i64 v22), (0, slA (eI .u8) t0), (2, .ref 2 0 0), (4, slA (eI .u8) x1.1), (6, .ref 6 0 0), (11, .int .i64 v22)] (by kernel_rfl) trivial ?_
                refine OpsW.store rfl rfl rfl rfl trivial trivial rfl rfl rfl (by kernel_rfl) (okCb_sound (by kernel_rfl)) (Nat.le_of_ble_eq_true (by kernel_rfl)) ?_
                change OpsW _ _ _ _ _ [(6, ⟨0, true, 48, 6, [.int .i64 v21.Width, .int .i64 v21.Label.N, .int .i64 v21.Label.K, .bool v21.Back, .int .i64 v21.Ink, .int .i64 v22]⟩), (2, ⟨0, true, 48, 6, [.int .i64 v20.Width, .int .i64 v20.Label.N, .int .i64 v20.Label.K, .bool v20.Back, .int .i64 v20.Ink, .int .i64 v20.Part]⟩), (6, ⟨0, true, 48, 6, [.int .i64 v21.Width, .int .i64 v21.Label.N, .int .i64 v21.Label.K, .bool v21.Back, .int .i64 v21.Ink, .int .i64 v21.Part]⟩)] _
                refine OpsW.seg 0 [0, 2, 4, 6, 11] [] [(0, slA (eI .u8) t0), (2, .ref 2 0 0), (4, slA (eI .u8) x1.1), (6, .ref 6 0 0), (11, .int .i64 v22)] (by kernel_rfl) trivial ?_
                refine OpsW.recast (env' := [(0, slA (eI .u8) t0), (2, .ref 2 0 0), (4, slA (eI .u8) x1.1), (6, .ref 6 0 0), (11, .int .i64 v22)]) (h' := [(2, ⟨0, true, 48, 6, [.int .i64 v20.Width, .int .i64 v20.Label.N, .int .i64 v20.Label.K, .bool v20.Back, .int .i64 v20.Ink, .int .i64 v20.Part]⟩), (6, ⟨0, true, 48, 6, [.int .i64 v21.Width, .int .i64 v21.Label.N, .int .i64 v21.Label.K, .bool v21.Back, .int .i64 v21.Ink, .int .i64 v22]⟩)]) (StC.mk (phi [(2, some 2), (6, some 6)]) (.old rfl rfl rfl rfl rfl (.cons .im (.cons .im (.cons .im (.cons .im (.cons .im (.cons .im .nil)))))) (.old rfl rfl rfl rfl rfl (.cons .im (.cons .im (.cons .im (.cons .im (.cons .im (.cons .im .nil)))))) .nil)) rfl (.cons .im (.cons (.ref rfl rfl rfl rfl rfl) (.cons .im (.cons (.ref rfl rfl rfl rfl rfl) (.cons .im .nil)))))) ?_
                refine OpsW.nil ?_
                show ∃ y, _ ∧ StC _ _ _ _
                exact ⟨(v20, (⟨v21.Width, v21.Label, v21.Back, v21.Ink, v22⟩ : S_Header)), H, (StC.mk (phi [(2, some 2), (6, some 6)]) (.old rfl rfl rfl rfl rfl (.cons .im (.cons .im (.cons .im (.cons .im (.cons .im (.cons .im .nil)))))) (.old rfl rfl rfl rfl rfl (.cons .im (.cons .im (.cons .im (.cons .im (.cons .im (.cons .im .nil)))))) .nil)) rfl (.cons .im (.cons (.ref rfl rfl rfl rfl rfl) (.cons .im (.cons (.ref rfl rfl rfl rfl rfl) (.cons .im .nil))))))⟩
              · replace H := condF c32 H
                refine AW.skip ?_
                show ∃ y, _ ∧ StC _ _ _ _
                exact ⟨(v20, v21), H, (StC.mk (phi [(2, some 2), (6, some 6)]) (.old rfl rfl rfl rfl rfl (.cons .im (.cons .im (.cons .im (.cons .im (.cons .im (.cons .im .nil)))))) (.old rfl rfl rfl rfl rfl (.cons .im (.cons .im (.cons .im (.cons .im (.cons .im (.cons .im .nil)))))) .nil)) rfl (.cons .im (.cons (.ref rfl rfl rfl rfl rfl) (.cons .im (.cons (.ref rfl rfl rfl rfl rfl) (.cons .im .nil))))))⟩
            · rintro ⟨v25, v26⟩ H
              change f_R19_ReadHeader_k3 loop23 v22 v25 v26 = some r at H
              unfold f_R19_ReadHeader_k3 at H
              change AW _ _ _ [(0, slA (eI .u8) t0), (2, .ref 2 0 0), (4, slA (eI .u8) x1.1), (6, .ref 6 0 0), (11, .int .i64 v22)] [(2, ⟨0, true, 48, 6, [.int .i64 v25.Width, .int .i64 v25.Label.N, .int .i64 v25.Label.K, .bool v25.Back, .int .i64 v25.Ink, .int .i64 v25.Part]⟩), (6, ⟨0, true, 48, 6, [.int .i64 v26.Width, .int .i64 v26.Label.N, .int .i64 v26.Label.K, .bool v26.Back, .int .i64 v26.Ink, .int .i64 v26.Part]⟩)] _
              refine AW.region ?_
              obtain ⟨g27, H⟩ := G_some H
              refine OpsW.seg 3 [11, 0, 2, 4, 6] [inR (v22 + (1 : Int))] [(11, .int .i64 (v22 + (1 : Int))), (0, slA (eI .u8) t0), (2, .ref 2 0 0), (4, slA (eI .u8) x1.1), (6, .ref 6 0 0)] (by kernel_rfl) ⟨g27, trivial⟩ ?_
              refine OpsW.nil ?_
              show ∃ y, _ ∧ StC _ _ _ _
              exact ⟨(v25, v26, v22 + (1 : Int)), H, (StC.mk (phi [(2, some 2), (6, some 6)]) (.old rfl rfl rfl rfl rfl (.cons .im (.cons .im (.cons .im (.cons .im (.cons .im (.cons .im .nil)))))) (.old rfl rfl rfl rfl rfl (.cons .im (.cons .im (.cons .im (.cons .im (.cons .im (.cons .im .nil)))))) .nil)) rfl (.cons .im (.cons (.ref rfl rfl rfl rfl rfl) (.cons .im (.cons (.ref rfl rfl rfl rfl rfl) (.cons .im .nil))))))⟩
          · replace H := condF c24 H
            refine AW.exit ?_
            refine AW.region ?_
            refine OpsW.seg 1 [91, 0, 2, 4, 6] [] [(91, slA (eI .u8) x1.1), (0, slA (eI .u8) t0), (2, .ref 2 0 0), (4, slA (eI .u8) x1.1), (6, .ref 6 0 0)] (by kernel_rfl) trivial ?_
            obtain ⟨g33, H⟩ := G_some H
            refine OpsW.asU (slA (eI .u8) (x1.1.drop ((2 : Int).toNat))) rfl rfl (T.slice' rfl trivial trivial trivial (by kernel_rfl) (by kernel_rfl) trivial g33 (sl_lo (eI .u8) 1 (fun _ => rfl) x1.1 (2 : Int) g33)) ?_
            refine OpsW.seg 1 [4, 0, 2, 6] [] [(4, slA (eI .u8) (x1.1.drop ((2 : Int).toNat))), (0, slA (eI .u8) t0), (2, .ref 2 0 0), (6, .ref 6 0 0)] (by kernel_rfl) trivial ?_
            refine OpsW.nil ?_
            show ∃ y, _ ∧ StC _ _ _ _
            exact ⟨(v20, x1.1.drop ((2 : Int).toNat), v21), H, (StC.mk (phi [(2, some 2), (6, some 6)]) (.old rfl rfl rfl rfl rfl (.cons .im (.cons .im (.cons .im (.cons .im (.cons .im (.cons .im .nil)))))) (.old rfl rfl rfl rfl rfl (.cons .im (.cons .im (.cons .im (.cons .im (.cons .im (.cons .im .nil)))))) .nil)) rfl (.cons .im (.cons (.ref rfl rfl rfl rfl rfl) (.cons .im (.cons (.ref rfl rfl rfl rfl rfl) .nil)))))⟩
        · replace H := condF c19 H
          refine AW.skip ?_
          show ∃ y, _ ∧ StC _ _ _ _
          exact ⟨(v6, x1.1, v7), H, (StC.mk (phi [(2, some 2), (6, some 6)]) (.old rfl rfl rfl rfl rfl (.cons .im (.cons .im (.cons .im (.cons .im (.cons .im (.cons .im .nil)))))) (.old rfl rfl rfl rfl rfl (.cons .im (.cons .im (.cons .im (.cons .im (.cons .im (.cons .im .nil)))))) .nil)) rfl (.cons .im (.cons (.ref rfl rfl rfl rfl rfl) (.cons .im (.cons (.ref rfl rfl rfl rfl rfl) .nil)))))⟩
      · rintro ⟨v8, v9, v10⟩ H
        change f_R19_ReadHeader_k2 t0 v8 v9 v10 = some r at H
        unfold f_R19_ReadHeader_k2 at H
        change AW _ _ _ [(0, slA (eI .u8) t0), (2, .ref 2 0 0), (4, slA (eI .u8) v9), (6, .ref 6 0 0)] [(2, ⟨0, true, 48, 6, [.int .i64 v8.Width, .int .i64 v8.Label.N, .int .i64 v8.Label.K, .bool v8.Back, .int .i64 v8.Ink, .int .i64 v8.Part]⟩), (6, ⟨0, true, 48, 6, [.int .i64 v10.Width, .int .i64 v10.Label.N, .int .i64 v10.Label.K, .bool v10.Back, .int .i64 v10.Ink, .int .i64 v10.Part]⟩)] _
        refine AW.joinK (fun (y : S_Header × S_Header) => f_R19_ReadHeader_k1 t0 y.1 y.2) r (fun (y : S_Header × S_Header) => [(0, slA (eI .u8) t0), (2, .ref 2 0 0), (6, .ref 6 0 0)]) (fun (y : S_Header × S_Header) => [(2, ⟨0, true, 48, 6, [.int .i64 y.1.Width, .int .i64 y.1.Label.N, .int .i64 y.1.Label.K, .bool y.1.Back, .int .i64 y.1.Ink, .int .i64 y.1.Part]⟩), (6, ⟨0, true, 48, 6, [.int .i64 y.2.Width, .int .i64 y.2.Label.N, .int .i64 y.2.Label.K, .bool y.2.Back, .int .i64 y.2.Ink, .int .i64 y.2.Part]⟩)]) ?_ ?_
        · refine AW.regionSeq ?_
          refine OpsW.seg 3 [95, 0, 2, 4, 6] [] [(95, .bool (decide ((0 : Int) < (v9.length : Int)))), (0, slA (eI .u8) t0), (2, .ref 2 0 0), (4, slA (eI .u8) v9), (6, .ref 6 0 0)] (by kernel_rfl) trivial ?_
          refine OpsW.nil ?_
          refine AW.cond (b := decide ((0 : Int) < (v9.length : Int))) rfl (fun c16 => ?_) (fun c16 => ?_)
          · replace H := condT c16 H
            refine AW.region ?_
            refine OpsW.seg 1 [97, 0, 2, 6] [] [(97, slA (eI .u8) v9), (0, slA (eI .u8) t0), (2, .ref 2 0 0), (6, .ref 6 0 0)] (by kernel_rfl) trivial ?_
            obtain ⟨x17, hx17, H⟩ := bindS H
            refine OpsW.qcall rfl (by kernel_rfl) rfl rfl (glAll_sound trivial) (.cons (.pur rfl) .nil) (f_R19_Read_ok hx17) rfl ?_
            refine OpsW.seg 5 [102, 99, 0, 2, 6] [] [(102, .ref 6 0 4), (99, .int .i64 x17.1), (0, slA (eI .u8) t0), (2, .ref 2 0 0), (6, .ref 6 0 0)] (by kernel_rfl) trivial ?_
            refine OpsW.store rfl rfl rfl rfl trivial trivial rfl rfl rfl (by kernel_rfl) (okCb_sound (by kernel_rfl)) (Nat.le_of_ble_eq_true (by kernel_rfl)) ?_
            change OpsW _ _ _ _ _ [(6, ⟨0, true, 48, 6, [.int .i64 v10.Width, .int .i64 v10.Label.N, .int .i64 v10.Label.K, .bool v10.Back, .int .i64 x17.1, .int .i64 v10.Part]⟩), (2, ⟨0, true, 48, 6, [.int .i64 v8.Width, .int .i64 v8.Label.N, .int .i64 v8.Label.K, .bool v8.Back, .int .i64 v8.Ink, .int .i64 v8.Part]⟩), (6, ⟨0, true, 48, 6, [.int .i64 v10.Width, .int .i64 v10.Label.N, .int .i64 v10.Label.K, .bool v10.Back, .int .i64 v10.Ink, .int .i64 v10.Part]⟩)] _
            refine OpsW.seg 0 [0, 2, 6] [] [(0, slA (eI .u8) t0), (2, .ref 2 0 0), (6, .ref 6 0 0)] (by kernel_rfl) trivial ?_
            refine OpsW.recast (env' := [(0, slA (eI .u8) t0), (2, .ref 2 0 0), (6, .ref 6 0 0)]) (h' := [(2, ⟨0, true, 48, 6, [.int .i64 v8.Width, .int .i64 v8.Label.N, .int .i64 v8.Label.K, .bool v8.Back, .int .i64 v8.Ink, .int .i64 v8.Part]⟩), (6, ⟨0, true, 48, 6, [.int .i64 v10.Width, .int .i64 v10.Label.N, .int .i64 v10.Label.K, .bool v10.Back, .int .i64 x17.1, .int .i64 v10.Part]⟩)]) (StC.mk (phi [(2, some 2), (6, some 6)]) (.old rfl rfl rfl rfl rfl (.cons .im (.cons .im (.cons .im (.cons .im (.cons .im (.cons .im .nil)))))) (.old rfl rfl rfl rfl rfl (.cons .im (.cons .im (.cons .im (.cons .im (.cons .im (.cons .im .nil)))))) .nil)) rfl (.cons .im (.cons (.ref rfl rfl rfl rfl rfl) (.cons (.ref rfl rfl rfl rfl rfl) .nil)))) ?_
            refine OpsW.nil ?_
            show ∃ y, _ ∧ StC _ _ _ _
            exact ⟨(v8, (⟨v10.Width, v10.Label, v10.Back, x17.1, v10.Part⟩ : S_Header)), H, (StC.mk (phi [(2, some 2), (6, some 6)]) (.old rfl rfl rfl rfl rfl (.cons .im (.cons .im (.cons .im (.cons .im (.cons .im (.cons .im .nil)))))) (.old rfl rfl rfl rfl rfl (.cons .im (.cons .im (.cons .im (.cons .im (.cons .im (.cons .im .nil)))))) .nil)) rfl (.cons .im (.cons (.ref rfl rfl rfl rfl rfl) (.cons (.ref rfl rfl rfl rfl rfl) .nil))))⟩
          · replace H := condF c16 H
            refine AW.skip ?_
            show ∃ y, _ ∧ StC _ _ _ _
            exact ⟨(v8, v10), H, (StC.mk (phi [(2, some 2), (6, some 6)]) (.old rfl rfl rfl rfl rfl (.cons .im (.cons .im (.cons .im (.cons .im (.cons .im (.cons .im .nil)))))) (.old rfl rfl rfl rfl rfl (.cons .im (.cons .im (.cons .im (.cons .im (.cons .im (.cons .im .nil)))))) .nil)) rfl (.cons .im (.cons (.ref rfl rfl rfl rfl rfl) (.cons (.ref rfl rfl rfl rfl rfl) .nil))))⟩
        · rintro ⟨v11, v12⟩ H
          change f_R19_ReadHeader_k1 t0 v11 v12 = some r at H
          unfold f_R19_ReadHeader_k1 at H
          change AW _ _ _ [(0, slA (eI .u8) t0), (2, .ref 2 0 0), (6, .ref 6 0 0)] [(2, ⟨0, true, 48, 6, [.int .i64 v11.Width, .int .i64 v11.Label.N, .int .i64 v11.Label.K, .bool v11.Back, .int .i64 v11.Ink, .int .i64 v11.Part]⟩), (6, ⟨0, true, 48, 6, [.int .i64 v12.Width, .int .i64 v12.Label.N, .int .i64 v12.Label.K, .bool v12.Back, .int .i64 v12.Ink, .int .i64 v12.Part]⟩)] _
          refine AW.regionSeq ?_
          refine OpsW.seg 1 [104, 0, 2, 6] [] [(104, .agg [.int .i64 v12.Width, .int .i64 v12.Label.N, .int .i64 v12.Label.K, .bool v12.Back, .int .i64 v12.Ink, .int .i64 v12.Part]), (0, slA (eI .u8) t0), (2, .ref 2 0 0), (6, .ref 6 0 0)] (by kernel_rfl) trivial ?_
          obtain ⟨x13, hx13, H⟩ := bindS H
          refine OpsW.qcall rfl (by kernel_rfl) rfl rfl (glAll_sound trivial) (.cons (.pur rfl) .nil) (f_R19_Header_ok hx13) rfl ?_
          refine OpsW.seg 5 [13, 12, 0, 2, 6] [] [(13, .int .i64 x13.2), (12, slA (eI .u8) x13.1), (0, slA (eI .u8) t0), (2, .ref 2 0 0), (6, .ref 6 0 0)] (by kernel_rfl) trivial ?_
          refine OpsW.nil ?_
          refine AW.seq ?_
          refine AW.regionSeq ?_
          refine OpsW.seg 5 [112, 111, 110, 2, 6] [] [(112, .cnd (!(x13.2 != (0 : Int))) (slA (eI .u8) t0)), (111, .cnd (!(x13.2 != (0 : Int))) (slA (eI .u8) x13.1)), (110, .bool (x13.2 != (0 : Int))), (2, .ref 2 0 0), (6, .ref 6 0 0)] (by kernel_rfl) trivial ?_
          obtain ⟨x14, hx14, H⟩ := bindS H
          refine OpsW.gcall (c := !(x13.2 != (0 : Int))) (r := .bool x14) [] rfl (by kernel_rfl) rfl rfl rfl rfl (fun hc => ⟨glAll_sound ⟨hc, hc, trivial⟩, (.cons (.pur rfl) (.cons (.pur rfl) .nil)), f_R01_Same_ok (condT hc hx14), .inl ⟨rfl, rfl⟩⟩) ?_
          refine OpsW.seg 2 [115, 2, 6] [(!(x13.2 != (0 : Int))) = true → (!(x13.2 != (0 : Int))) = true, (x13.2 != (0 : Int)) = false → (!(x13.2 != (0 : Int))) = true] [(115, .bool (cond (x13.2 != (0 : Int)) true (!x14))), (2, .ref 2 0 0), (6, .ref 6 0 0)] (by kernel_rfl) ⟨(fun h => h), (fun h => by first | exact h | simpa using h), trivial⟩ ?_
          refine OpsW.nil ?_
          refine AW.cond (b := cond (x13.2 != (0 : Int)) true (!x14)) rfl (fun c15 => ?_) (fun c15 => ?_)
          · replace H := condT c15 H
            refine AW.regionSeq ?_
            refine OpsW.seg 1 [116, 2] [] [(116, .agg [.int .i64 (0 : Int), .int .i64 (0 : Int), .int .i64 (0 : Int), .bool false, .int .i64 (0 : Int), .int .i64 (0 : Int)]), (2, .ref 2 0 0)] (by kernel_rfl) trivial ?_
            refine OpsW.store rfl rfl rfl rfl trivial trivial rfl rfl rfl (by kernel_rfl) (okCb_sound (by kernel_rfl)) (Nat.le_of_ble_eq_true (by kernel_rfl)) ?_
            change OpsW _ _ _ _ _ [(2, ⟨0, true, 48, 6, [.int .i64 (0 : Int), .int .i64 (0 : Int), .int .i64 (0 : Int), .bool false, .int .i64 (0 : Int), .int .i64 (0 : Int)]⟩), (2, ⟨0, true, 48, 6, [.int .i64 v11.Width, .int .i64 v11.Label.N, .int .i64 v11.Label.K, .bool v11.Back, .int .i64 v11.Ink, .int .i64 v11.Part]⟩), (6, ⟨0, true, 48, 6, [.int .i64 v12.Width, .int .i64 v12.Label.N, .int .i64 v12.Label.K, .bool v12.Back, .int .i64 v12.Ink, .int .i64 v12.Part]⟩)] _
            refine OpsW.seg 1 [3, 2] [] [(3, .int .i64 (190 : Int)), (2, .ref 2 0 0)] (by kernel_rfl) trivial ?_
            refine OpsW.recast (env' := [(3, .int .i64 (190 : Int)), (2, .ref 2 0 0)]) (h' := [(2, ⟨0, true, 48, 6, [.int .i64 (0 : Int), .int .i64 (0 : Int), .int .i64 (0 : Int), .bool false, .int .i64 (0 : Int), .int .i64 (0 : Int)]⟩)]) (StC.mk (phi [(2, some 2)]) (.old rfl rfl rfl rfl rfl (.cons .im (.cons .im (.cons .im (.cons .im (.cons .im (.cons .im .nil)))))) .nil) rfl (.cons .im (.cons (.ref rfl rfl rfl rfl rfl) .nil))) ?_
            refine OpsW.nil ?_
            obtain rfl := Option.some.inj H
            refine AW.recast (env' := [(2, .ref 2 0 0), (3, .int .i64 (190 : Int))]) (h' := [(2, ⟨0, true, 48, 6, [.int .i64 (0 : Int), .int .i64 (0 : Int), .int .i64 (0 : Int), .bool false, .int .i64 (0 : Int), .int .i64 (0 : Int)]⟩)]) (StC.mk (phi [(2, some 2)]) (.old rfl rfl rfl rfl rfl (.cons .im (.cons .im (.cons .im (.cons .im (.cons .im (.cons .im .nil)))))) .nil) rfl (.cons (.ref rfl rfl rfl rfl rfl) (.cons .im .nil))) ?_
            refine AW.ret ?_
            try simp only [Ex.then, Ex.inBlock, Ex.noGoto, Ex.jump, reduceIte, Nat.reduceEqDiff, reduceCtorEq]
            refine Done.gen rfl (.cell rfl (by kernel_rfl) (.tmp .nil)) ?_
            show _ = _
            kernel_rfl
          · replace H := condF c15 H
            refine AW.skip ?_
            refine AW.regionSeq ?_
            refine OpsW.seg 1 [117, 2] [] [(117, .agg [.int .i64 v12.Width, .int .i64 v12.Label.N, .int .i64 v12.Label.K, .bool v12.Back, .int .i64 v12.Ink, .int .i64 v12.Part]), (2, .ref 2 0 0)] (by kernel_rfl) trivial ?_
            refine OpsW.store rfl rfl rfl rfl trivial trivial rfl rfl rfl (by kernel_rfl) (okCb_sound (by kernel_rfl)) (Nat.le_of_ble_eq_true (by kernel_rfl)) ?_
            change OpsW _ _ _ _ _ [(2, ⟨0, true, 48, 6, [.int .i64 v12.Width, .int .i64 v12.Label.N, .int .i64 v12.Label.K, .bool v12.Back, .int .i64 v12.Ink, .int .i64 v12.Part]⟩), (2, ⟨0, true, 48, 6, [.int .i64 v11.Width, .int .i64 v11.Label.N, .int .i64 v11.Label.K, .bool v11.Back, .int .i64 v11.Ink, .int .i64 v11.Part]⟩), (6, ⟨0, true, 48, 6, [.int .i64 v12.Width, .int .i64 v12.Label.N, .int .i64 v12.Label.K, .bool v12.Back, .int .i64 v12.Ink, .int .i64 v12.Part]⟩)] _
            refine OpsW.seg 1 [3, 2] [] [(3, .int .i64 (0 : Int)), (2, .ref 2 0 0)] (by kernel_rfl) trivial ?_
            refine OpsW.recast (env' := [(3, .int .i64 (0 : Int)), (2, .ref 2 0 0)]) (h' := [(2, ⟨0, true, 48, 6, [.int .i64 v12.Width, .int .i64 v12.Label.N, .int .i64 v12.Label.K, .bool v12.Back, .int .i64 v12.Ink, .int .i64 v12.Part]⟩)]) (StC.mk (phi [(2, some 2)]) (.old rfl rfl rfl rfl rfl (.cons .im (.cons .im (.cons .im (.cons .im (.cons .im (.cons .im .nil)))))) .nil) rfl (.cons .im (.cons (.ref rfl rfl rfl rfl rfl) .nil))) ?_
            refine OpsW.nil ?_
            obtain rfl := Option.some.inj H
            refine AW.recast (env' := [(2, .ref 2 0 0), (3, .int .i64 (0 : Int))]) (h' := [(2, ⟨0, true, 48, 6, [.int .i64 v12.Width, .int .i64 v12.Label.N, .int .i64 v12.Label.K, .bool v12.Back, .int .i64 v12.Ink, .int .i64 v12.Part]⟩)]) (StC.mk (phi [(2, some 2)]) (.old rfl rfl rfl rfl rfl (.cons .im (.cons .im (.cons .im (.cons .im (.cons .im (.cons .im .nil)))))) .nil) rfl (.cons (.ref rfl rfl rfl rfl rfl) (.cons .im .nil))) ?_
            refine AW.ret ?_
            try simp only [Ex.then, Ex.inBlock, Ex.noGoto, Ex.jump, reduceIte, Nat.reduceEqDiff, reduceCtorEq]
            refine Done.gen rfl (.cell rfl (by kernel_rfl) (.tmp .nil)) ?_
            show _ = _
            kernel_rfl
def f_slices_Grow_api_Cell_k1 (v2 : List Int) : Option (List Int) :=
  some v2
def f_slices_Grow_api_Cell (t1 : Int) : Option (List Int) :=
  cond (decide (t1 < (0 : Int))) (
    none) (
    G (inR ((0 : Int) - ((0 : Nat) : Int))) <|
    G (inR (t1 - ((0 : Int) - ((0 : Nat) : Int)))) <|
    cond (decide ((0 : Int) < (t1 - ((0 : Int) - ((0 : Nat) : Int))))) (
      G (0 < (t1 - ((0 : Int) - ((0 : Nat) : Int)))) <|
      G (room 1 (t1 - ((0 : Int) - ((0 : Nat) : Int))).toNat) <|
      G (0 ≤ ((0 : Nat) : Int) ∧ ((0 : Nat) : Int) ≤ ((t1 - ((0 : Int) - ((0 : Nat) : Int))).toNat : Int)) <|
      f_slices_Grow_api_Cell_k1 ([] : List Int)) (
      f_slices_Grow_api_Cell_k1 []))
theorem f_slices_Grow_api_Cell_own {t1 : Int} {r : List Int} (H : f_slices_Grow_api_Cell t1 = some r) : Abs.Spec Tryd.prog 37 [.im (.val (.slice none 0 0)), .int .i64 t1] [] (fun x h => x = .rsl 1000 0 0 r.length ∧ h = [(1000, rtA 0 42 1 (eI .u8) r)]) := by
  refine Spec.of_AW Tryd.func37 rfl (by simp [Tryd.ntmps37]) ?_
  rw [Tryd.ntmps37]
  unfold f_slices_Grow_api_Cell at H
  change AW _ _ _ [(0, .im (.val (.slice none 0 0))), (1, .int .i64 t1)] [] _
  refine AW.regionSeq ?_
  refine OpsW.seg 1 [0, 1] [] [(0, .im (.val (.slice none 0 0))), (1, .int .i64 t1)] (by kernel_rfl) trivial ?_
  refine OpsW.nil ?_
  refine AW.seq ?_
  refine AW.regionSeq ?_
  refine OpsW.seg 2 [6, 0, 1] [] [(6, .bool (decide (t1 < (0 : Int)))), (0, .im (.val (.slice none 0 0))), (1, .int .i64 t1)] (by kernel_rfl) trivial ?_
  refine OpsW.nil ?_
  refine AW.cond (b := decide (t1 < (0 : Int))) rfl (fun c1 => ?_) (fun c1 => ?_)
  · replace H := condT c1 H
    cases H
  · replace H := condF c1 H
    refine AW.skip ?_
    refine AW.joinK (fun (y : (List Int)) => f_slices_Grow_api_Cell_k1 y) r (fun (y : (List Int)) => [(0, .rsl 0 0 0 y.length)]) (fun (y : (List Int)) => [(0, rtA 0 42 1 (eI .u8) y)]) ?_ ?_
    · refine AW.regionSeq ?_
      refine OpsW.seg 2 [9, 8, 0, 1] [] [(9, .im (.val (.slice none 0 0))), (8, .int .i64 t1), (0, .im (.val (.slice none 0 0))), (1, .int .i64 t1)] (by kernel_rfl) trivial ?_
      refine OpsW.quietU (.int .i64 (0 : Int)) rfl rfl (Quiet.capNil rfl (by kernel_rfl) (gpoU rfl ⟨trivial, rfl⟩)) ?_
      obtain ⟨g3, H⟩ := G_some H
      obtain ⟨g4, H⟩ := G_some H
      refine OpsW.seg 5 [1, 0] [inR ((0 : Int) - ((0 : Nat) : Int)), inR (t1 - ((0 : Int) - ((0 : Nat) : Int)))] [(1, .int .i64 (t1 - ((0 : Int) - ((0 : Nat) : Int)))), (0, .im (.val (.slice none 0 0)))] (by kernel_rfl) ⟨g3, g4, trivial⟩ ?_
      refine OpsW.nil ?_
      refine AW.regionSeq ?_
      refine OpsW.seg 2 [16, 1, 0] [] [(16, .bool (decide ((0 : Int) < (t1 - ((0 : Int) - ((0 : Nat) : Int)))))), (1, .int .i64 (t1 - ((0 : Int) - ((0 : Nat) : Int)))), (0, .im (.val (.slice none 0 0)))] (by kernel_rfl) trivial ?_
      refine OpsW.nil ?_
      refine AW.cond (b := decide ((0 : Int) < (t1 - ((0 : Int) - ((0 : Nat) : Int))))) rfl (fun c5 => ?_) (fun c5 => ?_)
      · replace H := condT c5 H
        refine AW.region ?_
        refine OpsW.seg 2 [18, 17, 1, 0] [] [(18, .im (.val (.slice none 0 0))), (17, .im (.val (.slice none 0 0))), (1, .int .i64 (t1 - ((0 : Int) - ((0 : Nat) : Int)))), (0, .im (.val (.slice none 0 0)))] (by kernel_rfl) trivial ?_
        refine OpsW.quietU (.int .i64 (0 : Int)) rfl rfl (Quiet.capNil rfl (by kernel_rfl) (gpoU rfl ⟨trivial, rfl⟩)) ?_
        refine OpsW.quietU (.im (.val (.slice none 0 0))) rfl rfl (Quiet.sliceNil rfl (by kernel_rfl) (by kernel_rfl) (gpoU rfl ⟨trivial, rfl, trivial, rfl⟩)) ?_
        refine OpsW.seg 1 [21, 20, 0] [] [(21, .int .i64 (t1 - ((0 : Int) - ((0 : Nat) : Int)))), (20, .im (.val (.slice none 0 0))), (0, .im (.val (.slice none 0 0)))] (by kernel_rfl) trivial ?_
        obtain ⟨g6, H⟩ := G_some H
        obtain ⟨g7, H⟩ := G_some H
        refine OpsW.growNil rfl rfl rfl 22 rfl E26 (by kernel_rfl) rfl rfl g6 g7 ?_
        change OpsW _ _ _ _ [(22, .rsl 22 0 0 ((t1 - ((0 : Int) - ((0 : Nat) : Int))).toNat)), (21, .int .i64 (t1 - ((0 : Int) - ((0 : Nat) : Int)))), (20, .im (.val (.slice none 0 0))), (0, .im (.val (.slice none 0 0)))] [(22, rtA 0 42 1 (eI .u8) ([] : List Int))] _
        obtain ⟨g8, H⟩ := G_some H
        refine OpsW.seg 4 [0] [0 ≤ ((0 : Nat) : Int) ∧ ((0 : Nat) : Int) ≤ ((t1 - ((0 : Int) - ((0 : Nat) : Int))).toNat : Int)] [(0, .rsl 22 0 0 (([] : List Int).length))] (by kernel_rfl) ⟨g8, trivial⟩ ?_
        refine OpsW.recast (env' := [(0, .rsl 0 0 0 (([] : List Int).length))]) (h' := [(0, rtA 0 42 1 (eI .u8) ([] : List Int))]) (StC.mk (phi [(0, some 22)]) (.old rfl rfl rfl rfl rfl (CstL.ims _) .nil) rfl (.cons (.rsl rfl rfl rfl rfl rfl rfl) .nil)) ?_
        refine OpsW.nil ?_
        show ∃ y, _ ∧ StC _ _ _ _
        exact ⟨([] : List Int), H, (StC.mk (phi [(0, some 0)]) (.old rfl rfl rfl rfl rfl (CstL.ims _) .nil) rfl (.cons (.rsl rfl rfl rfl rfl rfl rfl) .nil))⟩
      · replace H := condF c5 H
        refine AW.skip ?_
        show ∃ y, _ ∧ StC _ _ _ _
        exact ⟨[], H, (StC.mk (phi [(0, none)]) (.new rfl .nil) rfl (.cons (.nilr rfl rfl rfl) .nil))⟩
    · intro v2 H
      change f_slices_Grow_api_Cell_k1 v2 = some r at H
      unfold f_slices_Grow_api_Cell_k1 at H
      change AW _ _ _ [(0, .rsl 0 0 0 v2.length)] [(0, rtA 0 42 1 (eI .u8) v2)] _
      refine AW.regionSeq ?_
      refine OpsW.seg 2 [4] [] [(4, .rsl 0 0 0 v2.length)] (by kernel_rfl) trivial ?_
      refine OpsW.nil ?_
      obtain rfl := Option.some.inj H
      refine AW.recast (env' := [(4, .rsl 1000 0 0 v2.length)]) (h' := [(1000, rtA 0 42 1 (eI .u8) v2)]) (StC.mk (phi [(1000, some 0)]) (.old rfl rfl rfl rfl rfl (CstL.ims _) .nil) rfl (.cons (.rsl rfl rfl rfl rfl rfl rfl) .nil)) ?_
      refine AW.ret ?_
      try simp only [Ex.then, Ex.inBlock, Ex.noGoto, Ex.jump, reduceIte, Nat.reduceEqDiff, reduceCtorEq]
      refine Done.gen rfl (.tmp .nil) ?_
      exact ⟨by kernel_rfl, rfl⟩
theorem f_slices_Grow_api_Cell_ok {t1 : Int} {r : List Int} (H : f_slices_Grow_api_Cell t1 = some r) : QSpec Tryd.prog 37 [.im (.val (.slice none 0 0)), .int .i64 t1] (slA (eI .u8) r) := by
  exact QSpec.of_own (f_slices_Grow_api_Cell_own H) (.frz rfl rfl rfl (frz_all (eI .u8) 1 (fun _ => rfl) r) (fm_length (eI .u8) 1 (fun _ => rfl) r) (phi_ne rfl))
def f_slices_Concat_api_Cell_b1 (t0 : List (List Int)) (loop12 : ((List Int) × Int) → Option (List Int)) (v10 : List Int) (v11 : Int) : Option (List Int) :=
  cond (decide (v11 < (t0.length : Int))) (
    G (0 ≤ v11 ∧ v11 < (t0.length : Int)) <|
    G (room 1 (v10.length + (t0.getD v11.toNat []).length)) <|
    G (inR (v11 + (1 : Int))) <|
    loop12 (v10 ++ (t0.getD v11.toNat []), v11 + (1 : Int))) (
    some v10)
def f_slices_Concat_api_Cell_b2 (t0 : List (List Int)) (loop3 : (Int × Int) → Option (List Int)) (v1 : Int) (v2 : Int) : Option (List Int) :=
  cond (decide (v2 < (t0.length : Int))) (
    G (0 ≤ v2 ∧ v2 < (t0.length : Int)) <|
    G (inR (v1 + ((t0.getD v2.toNat []).length : Int))) <|
    cond (decide ((v1 + ((t0.getD v2.toNat []).length : Int)) < (0 : Int))) (
      none) (
      G (inR (v2 + (1 : Int))) <|
      loop3 (v1 + ((t0.getD v2.toNat []).length : Int), v2 + (1 : Int)))) (
    (f_slices_Grow_api_Cell v1).bind fun x9 =>
    iter (fun loop (s : (List Int) × Int) => f_slices_Concat_api_Cell_b1 t0 loop s.1 s.2) 1000000 (x9, (0 : Int)))
def f_slices_Concat_api_Cell (t0 : List (List Int)) : Option (List Int) :=
  iter (fun loop (s : Int × Int) => f_slices_Concat_api_Cell_b2 t0 loop s.1 s.2) 1000000 ((0 : Int), (0 : Int))
theorem f_slices_Concat_api_Cell_ok {t0 : List (List Int)} {r : List Int} (H : f_slices_Concat_api_Cell t0 = some r) : QSpec Tryd.prog 35 [slA (eL (eI .u8)) t0] (slA (eI .u8) r) := by
  refine Spec.of_AW Tryd.func35 rfl (by simp [Tryd.ntmps35]) ?_
  rw [Tryd.ntmps35]
  unfold f_slices_Concat_api_Cell at H
  change AW _ _ _ [(0, slA (eL (eI .u8)) t0)] [] _
  refine AW.regionSeq ?_
  refine OpsW.seg 1 [0] [] [(0, slA (eL (eI .u8)) t0)] (by kernel_rfl) trivial ?_
  refine OpsW.nil ?_
  refine AW.regionSeq ?_
  refine OpsW.seg 1 [3, 0] [] [(3, .int .i64 (0 : Int)), (0, slA (eL (eI .u8)) t0)] (by kernel_rfl) trivial ?_
  refine OpsW.nil ?_
  refine AW.seq ?_
  refine AW.regionSeq ?_
  refine OpsW.seg 3 [11, 10, 9, 3, 0] [] [(11, .int .i64 (0 : Int)), (10, .int .i64 (t0.length : Int)), (9, slA (eL (eI .u8)) t0), (3, .int .i64 (0 : Int)), (0, slA (eL (eI .u8)) t0)] (by kernel_rfl) trivial ?_
  refine OpsW.nil ?_
  refine AW.block ?_
  refine AW.iterK (fun loop (s : Int × Int) => f_slices_Concat_api_Cell_b2 t0 loop s.1 s.2) r (fun (s : Int × Int) => [(0, slA (eL (eI .u8)) t0), (3, .int .i64 s.1), (9, slA (eL (eI .u8)) t0), (10, .int .i64 (t0.length : Int)), (11, .int .i64 s.2)]) (fun (s : Int × Int) => []) ?_ 1000000 ((0 : Int), (0 : Int)) H (StC.pure (.cons .im (.cons .im (.cons .im (.cons .im (.cons .im .nil))))))
  intro loop3 s H
  obtain ⟨v1, v2⟩ := s
  change f_slices_Concat_api_Cell_b2 t0 loop3 v1 v2 = some r at H
  unfold f_slices_Concat_api_Cell_b2 at H
  change AW _ _ _ [(0, slA (eL (eI .u8)) t0), (3, .int .i64 v1), (9, slA (eL (eI .u8)) t0), (10, .int .i64 (t0.length : Int)), (11, .int .i64 v2)] [] _
  refine AW.regionSeq ?_
  refine OpsW.seg 1 [12, 0, 3, 9, 10, 11] [] [(12, .bool (decide (v2 < (t0.length : Int)))), (0, slA (eL (eI .u8)) t0), (3, .int .i64 v1), (9, slA (eL (eI .u8)) t0), (10, .int .i64 (t0.length : Int)), (11, .int .i64 v2)] (by kernel_rfl) trivial ?_
  refine OpsW.nil ?_
  refine AW.seq ?_
  refine AW.cond (b := decide (v2 < (t0.length : Int))) rfl (fun c4 => ?_) (fun c4 => ?_)
  · replace H := condT c4 H
    refine AW.skip ?_
    refine AW.seq ?_
    refine AW.block ?_
    refine AW.regionSeq ?_
    obtain ⟨g5, H⟩ := G_some H
    refine OpsW.seg 1 [13, 0, 3, 9, 10, 11] [0 ≤ v2 ∧ v2 < (t0.length : Int)] [(13, .ipt (t0.flatMap (eL (eI .u8))) (v2.toNat * 1)), (0, slA (eL (eI .u8)) t0), (3, .int .i64 v1), (9, slA (eL (eI .u8)) t0), (10, .int .i64 (t0.length : Int)), (11, .int .i64 v2)] (by kernel_rfl) ⟨g5, trivial⟩ ?_
    refine OpsW.asU (slA (eI .u8) (t0.getD v2.toNat [])) rfl rfl (T.load rfl trivial (by kernel_rfl) (fm_cell0 (eL (eI .u8)) 1 (fun _ => rfl) t0 [] v2.toNat (ltN g5) (fun a => .sl (a.flatMap (eI .u8)) a.length) (fun _ => rfl))) ?_
    refine OpsW.seg 1 [5, 0, 3, 9, 10, 11] [] [(5, slA (eI .u8) (t0.getD v2.toNat [])), (0, slA (eL (eI .u8)) t0), (3, .int .i64 v1), (9, slA (eL (eI .u8)) t0), (10, .int .i64 (t0.length : Int)), (11, .int .i64 v2)] (by kernel_rfl) trivial ?_
    refine OpsW.nil ?_
    refine AW.regionSeq ?_
    obtain ⟨g6, H⟩ := G_some H
    refine OpsW.seg 5 [3, 0, 9, 10, 11] [inR (v1 + ((t0.getD v2.toNat []).length : Int))] [(3, .int .i64 (v1 + ((t0.getD v2.toNat []).length : Int))), (0, slA (eL (eI .u8)) t0), (9, slA (eL (eI .u8)) t0), (10, .int .i64 (t0.length : Int)), (11, .int .i64 v2)] (by kernel_rfl) ⟨g6, trivial⟩ ?_
    refine OpsW.nil ?_
    refine AW.regionSeq ?_
    refine OpsW.seg 2 [20, 3, 0, 9, 10, 11] [] [(20, .bool (decide ((v1 + ((t0.getD v2.toNat []).length : Int)) < (0 : Int)))), (3, .int .i64 (v1 + ((t0.getD v2.toNat []).length : Int))), (0, slA (eL (eI .u8)) t0), (9, slA (eL (eI .u8)) t0), (10, .int .i64 (t0.length : Int)), (11, .int .i64 v2)] (by kernel_rfl) trivial ?_
    refine OpsW.nil ?_
    refine AW.cond (b := decide ((v1 + ((t0.getD v2.toNat []).length : Int)) < (0 : Int))) rfl (fun c7 => ?_) (fun c7 => ?_)
    · replace H := condT c7 H
      cases H
    · replace H := condF c7 H
      refine AW.skip ?_
      refine AW.region ?_
      obtain ⟨g8, H⟩ := G_some H
      refine OpsW.seg 2 [11, 3, 0, 9, 10] [inR (v2 + (1 : Int))] [(11, .int .i64 (v2 + (1 : Int))), (3, .int .i64 (v1 + ((t0.getD v2.toNat []).length : Int))), (0, slA (eL (eI .u8)) t0), (9, slA (eL (eI .u8)) t0), (10, .int .i64 (t0.length : Int))] (by kernel_rfl) ⟨g8, trivial⟩ ?_
      refine OpsW.nil ?_
      show ∃ y, _ ∧ StC _ _ _ _
      exact ⟨(v1 + ((t0.getD v2.toNat []).length : Int), v2 + (1 : Int)), H, (StC.pure (.cons .im (.cons .im (.cons .im (.cons .im (.cons .im .nil))))))⟩
  · replace H := condF c4 H
    refine AW.exit ?_
    refine AW.regionSeq ?_
    refine OpsW.seg 1 [23, 0] [] [(23, .int .i64 v1), (0, slA (eL (eI .u8)) t0)] (by kernel_rfl) trivial ?_
    obtain ⟨x9, hx9, H⟩ := bindS H
    refine OpsW.call rfl rfl (by kernel_rfl) [] _ _ rfl (glAll_sound trivial) (.cons (.pur rfl) (.cons (.pur rfl) .nil)) (f_slices_Grow_api_Cell_own hx9) ?_
    rintro _ _ ⟨rfl, rfl⟩
    refine ⟨fresh_of (by kernel_rfl), .inl rfl, ?_⟩
    change OpsW _ _ _ _ [(24, .rsl 1000 0 0 x9.length), (23, .int .i64 v1), (0, slA (eL (eI .u8)) t0)] [(1000, rtA 0 42 1 (eI .u8) x9)] _
    refine OpsW.recast (env' := [(24, .rsl 600 0 0 x9.length), (23, .int .i64 v1), (0, slA (eL (eI .u8)) t0)]) (h' := [(600, rtA 0 42 1 (eI .u8) x9)]) (StC.mk (phi [(600, some 1000)]) (.old rfl rfl rfl rfl rfl (CstL.ims _) .nil) rfl (.cons (.rsl rfl rfl rfl rfl rfl rfl) (.cons .im (.cons .im .nil)))) ?_
    refine OpsW.seg 1 [6, 0] [] [(6, .rsl 600 0 0 x9.length), (0, slA (eL (eI .u8)) t0)] (by kernel_rfl) trivial ?_
    refine OpsW.recast (env' := [(6, .rsl 6 0 0 x9.length), (0, slA (eL (eI .u8)) t0)]) (h' := [(6, rtA 0 42 1 (eI .u8) x9)]) (StC.mk (phi [(6, some 600)]) (.old rfl rfl rfl rfl rfl (CstL.ims _) .nil) rfl (.cons (.rsl rfl rfl rfl rfl rfl rfl) (.cons .im .nil))) ?_
    refine OpsW.nil ?_
    refine AW.seq ?_
    refine AW.regionSeq ?_
    refine OpsW.seg 3 [27, 26, 25, 6] [] [(27, .int .i64 (0 : Int)), (26, .int .i64 (t0.length : Int)), (25, slA (eL (eI .u8)) t0), (6, .rsl 6 0 0 x9.length)] (by kernel_rfl) trivial ?_
    refine OpsW.nil ?_
    refine AW.block ?_
    refine AW.iterK (fun loop (s : (List Int) × Int) => f_slices_Concat_api_Cell_b1 t0 loop s.1 s.2) r (fun (s : (List Int) × Int) => [(6, .rsl 6 0 0 s.1.length), (25, slA (eL (eI .u8)) t0), (26, .int .i64 (t0.length : Int)), (27, .int .i64 s.2)]) (fun (s : (List Int) × Int) => [(6, rtA 0 42 1 (eI .u8) s.1)]) ?_ 1000000 (x9, (0 : Int)) H (StC.mk (phi [(6, some 6)]) (.old rfl rfl rfl rfl rfl (CstL.ims _) .nil) rfl (.cons (.rsl rfl rfl rfl rfl rfl rfl) (.cons .im (.cons .im (.cons .im .nil)))))
    intro loop12 s H
    obtain ⟨v10, v11⟩ := s
    change f_slices_Concat_api_Cell_b1 t0 loop12 v10 v11 = some r at H
    unfold f_slices_Concat_api_Cell_b1 at H
    change AW _ _ _ [(6, .rsl 6 0 0 v10.length), (25, slA (eL (eI .u8)) t0), (26, .int .i64 (t0.length : Int)), (27, .int .i64 v11)] [(6, rtA 0 42 1 (eI .u8) v10)] _
    refine AW.regionSeq ?_
    refine OpsW.seg 1 [28, 6, 25, 26, 27] [] [(28, .bool (decide (v11 < (t0.length : Int)))), (6, .rsl 6 0 0 v10.length), (25, slA (eL (eI .u8)) t0), (26, .int .i64 (t0.length : Int)), (27, .int .i64 v11)] (by kernel_rfl) trivial ?_
    refine OpsW.nil ?_
    refine AW.seq ?_
    refine AW.cond (b := decide (v11 < (t0.length : Int))) rfl (fun c13 => ?_) (fun c13 => ?_)
    · replace H := condT c13 H
      refine AW.skip ?_
      refine AW.seq ?_
      refine AW.block ?_
      refine AW.regionSeq ?_
      obtain ⟨g14, H⟩ := G_some H
      refine OpsW.seg 1 [29, 6, 25, 26, 27] [0 ≤ v11 ∧ v11 < (t0.length : Int)] [(29, .ipt (t0.flatMap (eL (eI .u8))) (v11.toNat * 1)), (6, .rsl 6 0 0 v10.length), (25, slA (eL (eI .u8)) t0), (26, .int .i64 (t0.length : Int)), (27, .int .i64 v11)] (by kernel_rfl) ⟨g14, trivial⟩ ?_
      refine OpsW.asU (slA (eI .u8) (t0.getD v11.toNat [])) rfl rfl (T.load rfl trivial (by kernel_rfl) (fm_cell0 (eL (eI .u8)) 1 (fun _ => rfl) t0 [] v11.toNat (ltN g14) (fun a => .sl (a.flatMap (eI .u8)) a.length) (fun _ => rfl))) ?_
      refine OpsW.seg 1 [8, 6, 25, 26, 27] [] [(8, slA (eI .u8) (t0.getD v11.toNat [])), (6, .rsl 6 0 0 v10.length), (25, slA (eL (eI .u8)) t0), (26, .int .i64 (t0.length : Int)), (27, .int .i64 v11)] (by kernel_rfl) trivial ?_
      refine OpsW.nil ?_
      refine AW.region ?_
      refine OpsW.seg 2 [32, 31, 6, 25, 26, 27] [] [(32, slA (eI .u8) (t0.getD v11.toNat [])), (31, .rsl 6 0 0 v10.length), (6, .rsl 6 0 0 v10.length), (25, slA (eL (eI .u8)) t0), (26, .int .i64 (t0.length : Int)), (27, .int .i64 v11)] (by kernel_rfl) trivial ?_
      obtain ⟨g15, H⟩ := G_some H
      refine OpsW.appendF (enc := eI .u8) (ys := t0.getD v11.toNat []) rfl rfl rfl E26 (fun _ => rfl) rfl rfl trivial (SrcA.typed (enc := eI .u8) (fun _ => rfl) (by kernel_rfl) (t0.getD v11.toNat [])) rfl g15 ?_
      refine OpsW.seg 1 [6, 25, 26, 27] [] [(6, .rsl 6 1 0 ((v10 ++ (t0.getD v11.toNat [])).length)), (25, slA (eL (eI .u8)) t0), (26, .int .i64 (t0.length : Int)), (27, .int .i64 v11)] (by kernel_rfl) trivial ?_
      refine OpsW.recast (env' := [(6, .rsl 6 0 0 ((v10 ++ (t0.getD v11.toNat [])).length)), (25, slA (eL (eI .u8)) t0), (26, .int .i64 (t0.length : Int)), (27, .int .i64 v11)]) (h' := [(6, rtA 0 42 1 (eI .u8) (v10 ++ (t0.getD v11.toNat [])))]) (StC.mk (phi [(6, some 6)]) (.old rfl rfl rfl rfl rfl (CstL.ims _) .nil) rfl (.cons (.rsl rfl rfl rfl rfl rfl rfl) (.cons .im (.cons .im (.cons .im .nil))))) ?_
      refine OpsW.nil ?_
      refine AW.region ?_
      obtain ⟨g16, H⟩ := G_some H
      refine OpsW.seg 2 [27, 6, 25, 26] [inR (v11 + (1 : Int))] [(27, .int .i64 (v11 + (1 : Int))), (6, .rsl 6 0 0 ((v10 ++ (t0.getD v11.toNat [])).length)), (25, slA (eL (eI .u8)) t0), (26, .int .i64 (t0.length : Int))] (by kernel_rfl) ⟨g16, trivial⟩ ?_
      refine OpsW.nil ?_
      show ∃ y, _ ∧ StC _ _ _ _
      exact ⟨(v10 ++ (t0.getD v11.toNat []), v11 + (1 : Int)), H, (StC.mk (phi [(6, some 6)]) (.old rfl rfl rfl rfl rfl (CstL.ims _) .nil) rfl (.cons (.rsl rfl rfl rfl rfl rfl rfl) (.cons .im (.cons .im (.cons .im .nil)))))⟩
    · replace H := condF c13 H
      refine AW.exit ?_
      refine AW.regionSeq ?_
      refine OpsW.seg 2 [2] [] [(2, .rsl 6 0 0 v10.length)] (by kernel_rfl) trivial ?_
      refine OpsW.recast (env' := [(2, slA (eI .u8) v10)]) (h' := []) (StC.mk (phi []) .nil rfl (.cons (.frz rfl rfl rfl (frz_all (eI .u8) 1 (fun _ => rfl) v10) (fm_length (eI .u8) 1 (fun _ => rfl) v10) (phi_ne rfl)) .nil)) ?_
      refine OpsW.nil ?_
      obtain rfl := Option.some.inj H
      refine AW.recast (env' := [(2, slA (eI .u8) v10)]) (h' := []) (StC.pure (.cons .im .nil)) ?_
      refine AW.ret ?_
      try simp only [Ex.then, Ex.inBlock, Ex.noGoto, Ex.jump, reduceIte, Nat.reduceEqDiff, reduceCtorEq]
      refine Done.gen rfl (.tmp .nil) ?_
      show _ = _
      kernel_rfl
def f_number_join (t0 : List (List Int)) : Option (List Int) :=
  (f_slices_Concat_api_Cell t0).bind fun x1 =>
  some x1
theorem f_number_join_ok {t0 : List (List Int)} {r : List Int} (H : f_number_join t0 = some r) : QSpec Tryd.prog 29 [slA (eL (eI .u8)) t0] (slA (eI .u8) r) := by
  refine Spec.of_AW Tryd.func29 rfl (by simp [Tryd.ntmps29]) ?_
  rw [Tryd.ntmps29]
  unfold f_number_join at H
  change AW _ _ _ [(0, slA (eL (eI .u8)) t0)] [] _
  refine AW.regionSeq ?_
  refine OpsW.seg 1 [0] [] [(0, slA (eL (eI .u8)) t0)] (by kernel_rfl) trivial ?_
  refine OpsW.nil ?_
  refine AW.regionSeq ?_
  refine OpsW.seg 1 [3] [] [(3, slA (eL (eI .u8)) t0)] (by kernel_rfl) trivial ?_
  obtain ⟨x1, hx1, H⟩ := bindS H
  refine OpsW.qcall rfl (by kernel_rfl) rfl rfl (glAll_sound trivial) (.cons (.pur rfl) .nil) (f_slices_Concat_api_Cell_ok hx1) rfl ?_
  refine OpsW.seg 1 [2] [] [(2, slA (eI .u8) x1)] (by kernel_rfl) trivial ?_
  refine OpsW.nil ?_
  obtain rfl := Option.some.inj H
  refine AW.recast (env' := [(2, slA (eI .u8) x1)]) (h' := []) (StC.pure (.cons .im .nil)) ?_
  refine AW.ret ?_
  try simp only [Ex.then, Ex.inBlock, Ex.noGoto, Ex.jump, reduceIte, Nat.reduceEqDiff, reduceCtorEq]
  refine Done.gen rfl (.tmp .nil) ?_
  show _ = _
  kernel_rfl
def f_number_Write_b1 (x2 : ByteArray) (loop5 : ((List Int) × Int) → Option ((List Int) × Int)) (v3 : List Int) (v4 : Int) : Option ((List Int) × Int) :=
  cond (decide (v4 < ((bytesOf x2).length : Int))) (
    G (0 ≤ v4 ∧ v4 < ((bytesOf x2).length : Int)) <|
    G (0 ≤ (IntKind.wrap .u8 (((bytesOf x2).getD v4.toNat (0 : Int)) - (48 : Int))) ∧ (IntKind.wrap .u8 (((bytesOf x2).getD v4.toNat (0 : Int)) - (48 : Int))) < (10 : Int)) <|
    G (room 1 (v3.length + 1)) <|
    G (inR (v4 + (1 : Int))) <|
    loop5 (v3 ++ [tab_number_digits.getD (IntKind.wrap .u8 (((bytesOf x2).getD v4.toNat (0 : Int)) - (48 : Int))).toNat (0 : Int)], v4 + (1 : Int))) (
    some (v3, (0 : Int)))
def f_number_Write (t0 : Int) : Option ((List Int) × Int) :=
  cond (cond (decide (t0 < (0 : Int))) true (decide ((99999 : Int) < t0))) (
    some ([], (190 : Int))) (
    (f_strconv_Itoa t0).bind fun x2 =>
    iter (fun loop (s : (List Int) × Int) => f_number_Write_b1 x2 loop s.1 s.2) 1000000 ([(60 : Int)], (0 : Int)))
theorem f_number_Write_own {t0 : Int} {r : (List Int) × Int} (H : f_number_Write t0 = some r) : Abs.Spec Tryd.prog 9 [.int .i64 t0] [] (fun x h => x = .tup [.rsl 1000 0 0 r.1.length, .int .i64 r.2] ∧ h = [(1000, rtA 0 42 1 (eI .u8) r.1)]) := by
  refine Spec.of_AW Tryd.func9 rfl (by simp [Tryd.ntmps9]) ?_
  rw [Tryd.ntmps9]
  unfold f_number_Write at H
  change AW _ _ _ [(0, .int .i64 t0)] [] _
  refine AW.regionSeq ?_
  refine OpsW.seg 2 [0] [] [(0, .int .i64 t0)] (by kernel_rfl) trivial ?_
  refine OpsW.nil ?_
  refine AW.seq ?_
  refine AW.regionSeq ?_
  refine OpsW.seg 6 [12, 0] [(!(decide (t0 < (0 : Int)))) = true → (!(decide (t0 < (0 : Int)))) = true, (decide (t0 < (0 : Int))) = false → (!(decide (t0 < (0 : Int)))) = true] [(12, .bool (cond (decide (t0 < (0 : Int))) true (decide ((99999 : Int) < t0)))), (0, .int .i64 t0)] (by kernel_rfl) ⟨(fun h => h), (fun h => by first | exact h | simpa using h), trivial⟩ ?_
  refine OpsW.nil ?_
  refine AW.cond (b := cond (decide (t0 < (0 : Int))) true (decide ((99999 : Int) < t0))) rfl (fun c1 => ?_) (fun c1 => ?_)
  · replace H := condT c1 H
    refine AW.regionSeq ?_
    refine OpsW.seg 2 [3, 2] [] [(3, .int .i64 (190 : Int)), (2, .im (.val (.slice none 0 0)))] (by kernel_rfl) trivial ?_
    refine OpsW.nil ?_
    obtain rfl := Option.some.inj H
    refine AW.recast (env' := [(2, .rsl 1000 0 0 0), (3, .int .i64 (190 : Int))]) (h' := [(1000, rtA 0 42 1 (eI .u8) ([] : List Int))]) (StC.mk (phi [(1000, none)]) (.new rfl .nil) rfl (.cons (.nilr rfl rfl rfl) (.cons .im .nil))) ?_
    refine AW.ret ?_
    try simp only [Ex.then, Ex.inBlock, Ex.noGoto, Ex.jump, reduceIte, Nat.reduceEqDiff, reduceCtorEq]
    refine Done.gen rfl (.tmp (.tmp .nil)) ?_
    exact ⟨by kernel_rfl, rfl⟩
  · replace H := condF c1 H
    refine AW.skip ?_
    refine AW.regionSeq ?_
    refine OpsW.buildT (enc := eI .u8) [(60 : Int)] rfl rfl rfl 13 rfl E26 (fun _ => rfl) (by decide) trivial (by kernel_rfl) (by kernel_rfl) (by kernel_rfl) rfl ?_
    refine OpsW.seg 1 [4, 0] [] [(4, .rsl 13 0 0 ([(60 : Int)].length)), (0, .int .i64 t0)] (by kernel_rfl) trivial ?_
    refine OpsW.recast (env' := [(4, .rsl 4 0 0 ([(60 : Int)].length)), (0, .int .i64 t0)]) (h' := [(4, rtA 0 42 1 (eI .u8) [(60 : Int)])]) (StC.mk (phi [(4, some 13)]) (.old rfl rfl rfl rfl rfl (CstL.ims _) .nil) rfl (.cons (.rsl rfl rfl rfl rfl rfl rfl) (.cons .im .nil))) ?_
    refine OpsW.nil ?_
    refine AW.seq ?_
    refine AW.regionSeq ?_
    refine OpsW.seg 1 [14, 4] [] [(14, .int .i64 t0), (4, .rsl 4 0 0 ([(60 : Int)].length))] (by kernel_rfl) trivial ?_
    obtain ⟨x2, hx2, H⟩ := bindS H
    refine OpsW.qcall rfl (by kernel_rfl) rfl rfl (glAll_sound trivial) (.cons (.pur rfl) .nil) (f_strconv_Itoa_ok hx2) rfl ?_
    refine OpsW.quietU (slA (eI .u8) (bytesOf x2)) rfl rfl (Quiet.toBytes (e := 5) x2 rfl (by kernel_rfl) (by kernel_rfl) (by kernel_rfl) (gpoU rfl ⟨trivial, rfl⟩)) ?_
    refine OpsW.seg 2 [18, 17, 16, 4] [] [(18, .int .i64 (0 : Int)), (17, .int .i64 ((bytesOf x2).length : Int)), (16, slA (eI .u8) (bytesOf x2)), (4, .rsl 4 0 0 ([(60 : Int)].length))] (by kernel_rfl) trivial ?_
    refine OpsW.nil ?_
    refine AW.block ?_
    refine AW.iterK (fun loop (s : (List Int) × Int) => f_number_Write_b1 x2 loop s.1 s.2) r (fun (s : (List Int) × Int) => [(4, .rsl 4 0 0 s.1.length), (16, slA (eI .u8) (bytesOf x2)), (17, .int .i64 ((bytesOf x2).length : Int)), (18, .int .i64 s.2)]) (fun (s : (List Int) × Int) => [(4, rtA 0 42 1 (eI .u8) s.1)]) ?_ 1000000 ([(60 : Int)], (0 : Int)) H (StC.mk (phi [(4, some 4)]) (.old rfl rfl rfl rfl rfl (CstL.ims _) .nil) rfl (.cons (.rsl rfl rfl rfl rfl rfl rfl) (.cons .im (.cons .im (.cons .im .nil)))))
    intro loop5 s H
    obtain ⟨v3, v4⟩ := s
    change f_number_Write_b1 x2 loop5 v3 v4 = some r at H
    unfold f_number_Write_b1 at H
    change AW _ _ _ [(4, .rsl 4 0 0 v3.length), (16, slA (eI .u8) (bytesOf x2)), (17, .int .i64 ((bytesOf x2).length : Int)), (18, .int .i64 v4)] [(4, rtA 0 42 1 (eI .u8) v3)] _
    refine AW.regionSeq ?_
    refine OpsW.seg 1 [19, 4, 16, 17, 18] [] [(19, .bool (decide (v4 < ((bytesOf x2).length : Int)))), (4, .rsl 4 0 0 v3.length), (16, slA (eI .u8) (bytesOf x2)), (17, .int .i64 ((bytesOf x2).length : Int)), (18, .int .i64 v4)] (by kernel_rfl) trivial ?_
    refine OpsW.nil ?_
    refine AW.seq ?_
    refine AW.cond (b := decide (v4 < ((bytesOf x2).length : Int))) rfl (fun c6 => ?_) (fun c6 => ?_)
    · replace H := condT c6 H
      refine AW.skip ?_
      refine AW.seq ?_
      refine AW.block ?_
      refine AW.regionSeq ?_
      obtain ⟨g7, H⟩ := G_some H
      refine OpsW.seg 1 [20, 4, 16, 17, 18] [0 ≤ v4 ∧ v4 < ((bytesOf x2).length : Int)] [(20, .ipt ((bytesOf x2).flatMap (eI .u8)) (v4.toNat * 1)), (4, .rsl 4 0 0 v3.length), (16, slA (eI .u8) (bytesOf x2)), (17, .int .i64 ((bytesOf x2).length : Int)), (18, .int .i64 v4)] (by kernel_rfl) ⟨g7, trivial⟩ ?_
      refine OpsW.asU (.int .u8 ((bytesOf x2).getD v4.toNat (0 : Int))) rfl rfl (T.load rfl trivial (by kernel_rfl) (fm_cell0 (eI .u8) 1 (fun _ => rfl) (bytesOf x2) (0 : Int) v4.toNat (ltN g7) (fun a => .val (.int .u8 a)) (fun _ => rfl))) ?_
      refine OpsW.seg 1 [6, 4, 16, 17, 18] [] [(6, .int .u8 ((bytesOf x2).getD v4.toNat (0 : Int))), (4, .rsl 4 0 0 v3.length), (16, slA (eI .u8) (bytesOf x2)), (17, .int .i64 ((bytesOf x2).length : Int)), (18, .int .i64 v4)] (by kernel_rfl) trivial ?_
      refine OpsW.nil ?_
      refine AW.region ?_
      obtain ⟨g8, H⟩ := G_some H
      refine OpsW.seg 4 [25, 22, 4, 16, 17, 18] [0 ≤ (IntKind.wrap .u8 (((bytesOf x2).getD v4.toNat (0 : Int)) - (48 : Int))) ∧ (IntKind.wrap .u8 (((bytesOf x2).getD v4.toNat (0 : Int)) - (48 : Int))) < (10 : Int)] [(25, .ipt (tab_number_digits.flatMap (eI .u8)) (0 + (IntKind.wrap .u8 (((bytesOf x2).getD v4.toNat (0 : Int)) - (48 : Int))).toNat * 1)), (22, .rsl 4 0 0 v3.length), (4, .rsl 4 0 0 v3.length), (16, slA (eI .u8) (bytesOf x2)), (17, .int .i64 ((bytesOf x2).length : Int)), (18, .int .i64 v4)] (by kernel_rfl) ⟨g8, trivial⟩ ?_
      refine OpsW.asU (.int .u8 (tab_number_digits.getD (IntKind.wrap .u8 (((bytesOf x2).getD v4.toNat (0 : Int)) - (48 : Int))).toNat (0 : Int))) rfl rfl (T.load rfl trivial (by kernel_rfl) (tabOff (fm_cell0 (eI .u8) 1 (fun _ => rfl) tab_number_digits (0 : Int) (IntKind.wrap .u8 (((bytesOf x2).getD v4.toNat (0 : Int)) - (48 : Int))).toNat (ltA (n := 10) g8 rfl) (fun a => .val (.int .u8 a)) (fun _ => rfl)))) ?_
      obtain ⟨g9, H⟩ := G_some H
      refine OpsW.appendLF (enc := eI .u8) [tab_number_digits.getD (IntKind.wrap .u8 (((bytesOf x2).getD v4.toNat (0 : Int)) - (48 : Int))).toNat (0 : Int)] rfl rfl rfl (by decide) rfl rfl rfl (by simp) E26 (fun _ => rfl) (by decide) trivial (by kernel_rfl) (by kernel_rfl) (by kernel_rfl) rfl rfl rfl g9 ?_
      refine OpsW.seg 1 [4, 16, 17, 18] [] [(4, .rsl 4 1 0 ((v3 ++ [tab_number_digits.getD (IntKind.wrap .u8 (((bytesOf x2).getD v4.toNat (0 : Int)) - (48 : Int))).toNat (0 : Int)]).length)), (16, slA (eI .u8) (bytesOf x2)), (17, .int .i64 ((bytesOf x2).length : Int)), (18, .int .i64 v4)] (by kernel_rfl) trivial ?_
      refine OpsW.recast (env' := [(4, .rsl 4 0 0 ((v3 ++ [tab_number_digits.getD (IntKind.wrap .u8 (((bytesOf x2).getD v4.toNat (0 : Int)) - (48 : Int))).toNat (0 : Int)]).length)), (16, slA (eI .u8) (bytesOf x2)), (17, .int .i64 ((bytesOf x2).length : Int)), (18, .int .i64 v4)]) (h' := [(4, rtA 0 42 1 (eI .u8) (v3 ++ [tab_number_digits.getD (IntKind.wrap .u8 (((bytesOf x2).getD v4.toNat (0 : Int)) - (48 : Int))).toNat (0 : Int)]))]) (StC.mk (phi [(4, some 4)]) (.old rfl rfl rfl rfl rfl (CstL.ims _) .nil) rfl (.cons (.rsl rfl rfl rfl rfl rfl rfl) (.cons .im (.cons .im (.cons .im .nil))))) ?_
      refine OpsW.nil ?_
      refine AW.region ?_
      obtain ⟨g10, H⟩ := G_some H
      refine OpsW.seg 2 [18, 4, 16, 17] [inR (v4 + (1 : Int))] [(18, .int .i64 (v4 + (1 : Int))), (4, .rsl 4 0 0 ((v3 ++ [tab_number_digits.getD (IntKind.wrap .u8 (((bytesOf x2).getD v4.toNat (0 : Int)) - (48 : Int))).toNat (0 : Int)]).length)), (16, slA (eI .u8) (bytesOf x2)), (17, .int .i64 ((bytesOf x2).length : Int))] (by kernel_rfl) ⟨g10, trivial⟩ ?_
      refine OpsW.nil ?_
      show ∃ y, _ ∧ StC _ _ _ _
      exact ⟨(v3 ++ [tab_number_digits.getD (IntKind.wrap .u8 (((bytesOf x2).getD v4.toNat (0 : Int)) - (48 : Int))).toNat (0 : Int)], v4 + (1 : Int)), H, (StC.mk (phi [(4, some 4)]) (.old rfl rfl rfl rfl rfl (CstL.ims _) .nil) rfl (.cons (.rsl rfl rfl rfl rfl rfl rfl) (.cons .im (.cons .im (.cons .im .nil)))))⟩
    · replace H := condF c6 H
      refine AW.exit ?_
      refine AW.regionSeq ?_
      refine OpsW.seg 3 [3, 2] [] [(3, .int .i64 (0 : Int)), (2, .rsl 4 0 0 v3.length)] (by kernel_rfl) trivial ?_
      refine OpsW.nil ?_
      obtain rfl := Option.some.inj H
      refine AW.recast (env' := [(2, .rsl 1000 0 0 v3.length), (3, .int .i64 (0 : Int))]) (h' := [(1000, rtA 0 42 1 (eI .u8) v3)]) (StC.mk (phi [(1000, some 4)]) (.old rfl rfl rfl rfl rfl (CstL.ims _) .nil) rfl (.cons (.rsl rfl rfl rfl rfl rfl rfl) (.cons .im .nil))) ?_
      refine AW.ret ?_
      try simp only [Ex.then, Ex.inBlock, Ex.noGoto, Ex.jump, reduceIte, Nat.reduceEqDiff, reduceCtorEq]
      refine Done.gen rfl (.tmp (.tmp .nil)) ?_
      exact ⟨by kernel_rfl, rfl⟩
theorem f_number_Write_ok {t0 : Int} {r : (List Int) × Int} (H : f_number_Write t0 = some r) : QSpec Tryd.prog 9 [.int .i64 t0] (.tup [slA (eI .u8) r.1, .int .i64 r.2]) := by
  exact QSpec.of_own (f_number_Write_own H) (.tup (.cons (.frz rfl rfl rfl (frz_all (eI .u8) 1 (fun _ => rfl) r.1) (fm_length (eI .u8) 1 (fun _ => rfl) r.1) (phi_ne rfl)) (.cons .im .nil)))
def f_number_Page_k1 (x4 : (List Int) × Int) (v5 : List Int) : Option ((List Int) × Int) :=
  some (v5, x4.2)
def f_number_Page_k2 (t0 : S_Label) (v3 : Int) : Option ((List Int) × Int) :=
  (f_number_Write v3).bind fun x4 =>
  cond (cond (x4.2 == (0 : Int)) (decide ((0 : Int) < t0.K)) false) (
    G (inR (t0.K - (1 : Int))) <|
    G (0 ≤ (t0.K - (1 : Int)) ∧ (t0.K - (1 : Int)) < (26 : Int)) <|
    G (room 1 (x4.1.length + 2)) <|
    f_number_Page_k1 x4 (x4.1 ++ [(48 : Int), tab_number_letters.getD (t0.K - (1 : Int)).toNat (0 : Int)])) (
    f_number_Page_k1 x4 x4.1)
def f_number_Page (t0 : S_Label) (t1 : Bool) : Option ((List Int) × Int) :=
  cond (cond (cond (cond (decide (t0.N < (1 : Int))) true (decide ((9999 : Int) < t0.N))) true (decide (t0.K < (0 : Int)))) true (decide ((2 : Int) < t0.K))) (
    some ([], (190 : Int))) (
    G (inR ((2 : Int) * t0.N)) <|
    cond (!t1) (
      G (inR (((2 : Int) * t0.N) - (1 : Int))) <|
      f_number_Page_k2 t0 (((2 : Int) * t0.N) - (1 : Int))) (
      f_number_Page_k2 t0 ((2 : Int) * t0.N)))
theorem f_number_Page_ok {t0 : S_Label} {t1 : Bool} {r : (List Int) × Int} (H : f_number_Page t0 t1 = some r) : QSpec Tryd.prog 15 [.agg [.int .i64 t0.N, .int .i64 t0.K], .bool t1] (.tup [slA (eI .u8) r.1, .int .i64 r.2]) := by
  refine Spec.of_AW Tryd.func15 rfl (by simp [Tryd.ntmps15]) ?_
  rw [Tryd.ntmps15]
  unfold f_number_Page at H
  change AW _ _ _ [(0, .agg [.int .i64 t0.N, .int .i64 t0.K]), (1, .bool t1)] [] _
  refine AW.regionSeq ?_
  refine OpsW.box rfl rfl rfl 2 rfl (okCb_sound (by kernel_rfl)) ?_
  change OpsW _ _ _ _ _ [(2, ⟨0, true, 35, 2, [.int .i64 t0.N, .int .i64 t0.K]⟩)] _
  refine OpsW.seg 2 [2, 1] [] [(2, .ref 2 0 0), (1, .bool t1)] (by kernel_rfl) trivial ?_
  refine OpsW.recast (env' := [(2, .ref 2 0 0), (1, .bool t1)]) (h' := [(2, ⟨0, true, 35, 2, [.int .i64 t0.N, .int .i64 t0.K]⟩)]) (StC.mk (phi [(2, some 2)]) (.old rfl rfl rfl rfl rfl (.cons .im (.cons .im .nil)) .nil) rfl (.cons (.ref rfl rfl rfl rfl rfl) (.cons .im .nil))) ?_
  refine OpsW.nil ?_
  refine AW.seq ?_
  refine AW.regionSeq ?_
  refine OpsW.seg 18 [26, 2, 1] [(!(decide (t0.N < (1 : Int)))) = true → (!(decide (t0.N < (1 : Int)))) = true, (!(decide (t0.N < (1 : Int)))) = true → (!(decide (t0.N < (1 : Int)))) = true, (decide (t0.N < (1 : Int))) = false → (!(decide (t0.N < (1 : Int)))) = true, (!(cond (decide (t0.N < (1 : Int))) true (decide ((9999 : Int) < t0.N)))) = true → (!(cond (decide (t0.N < (1 : Int))) true (decide ((9999 : Int) < t0.N)))) = true, (!(cond (decide (t0.N < (1 : Int))) true (decide ((9999 : Int) < t0.N)))) = true → (!(cond (decide (t0.N < (1 : Int))) true (decide ((9999 : Int) < t0.N)))) = true, (cond (decide (t0.N < (1 : Int))) true (decide ((9999 : Int) < t0.N))) = false → (!(cond (decide (t0.N < (1 : Int))) true (decide ((9999 : Int) < t0.N)))) = true, (!(cond (cond (decide (t0.N < (1 : Int))) true (decide ((9999 : Int) < t0.N))) true (decide (t0.K < (0 : Int))))) = true → (!(cond (cond (decide (t0.N < (1 : Int))) true (decide ((9999 : Int) < t0.N))) true (decide (t0.K < (0 : Int))))) = true, (!(cond (cond (decide (t0.N < (1 : Int))) true (decide ((9999 : Int) < t0.N))) true (decide (t0.K < (0 : Int))))) = true → (!(cond (cond (decide (t0.N < (1 : Int))) true (decide ((9999 : Int) < t0.N))) true (decide (t0.K < (0 : Int))))) = true, (cond (cond (decide (t0.N < (1 : Int))) true (decide ((9999 : Int) < t0.N))) true (decide (t0.K < (0 : Int)))) = false → (!(cond (cond (decide (t0.N < (1 : Int))) true (decide ((9999 : Int) < t0.N))) true (decide (t0.K < (0 : Int))))) = true] [(26, .bool (cond (cond (cond (decide (t0.N < (1 : Int))) true (decide ((9999 : Int) < t0.N))) true (decide (t0.K < (0 : Int)))) true (decide ((2 : Int) < t0.K)))), (2, .ref 2 0 0), (1, .bool t1)] (by kernel_rfl) ⟨(fun h => h), (fun h => h), (fun h => by first | exact h | simpa using h), (fun h => h), (fun h => h), (fun h => by first | exact h | simpa using h), (fun h => h), (fun h => h), (fun h => by first | exact h | simpa using h), trivial⟩ ?_
  refine OpsW.nil ?_
  refine AW.cond (b := cond (cond (cond (decide (t0.N < (1 : Int))) true (decide ((9999 : Int) < t0.N))) true (decide (t0.K < (0 : Int)))) true (decide ((2 : Int) < t0.K))) rfl (fun c1 => ?_) (fun c1 => ?_)
  · replace H := condT c1 H
    refine AW.regionSeq ?_
    refine OpsW.seg 2 [5, 4] [] [(5, .int .i64 (190 : Int)), (4, .im (.val (.slice none 0 0)))] (by kernel_rfl) trivial ?_
    refine OpsW.nil ?_
    obtain rfl := Option.some.inj H
    refine AW.recast (env' := [(4, slA (eI .u8) []), (5, .int .i64 (190 : Int))]) (h' := []) (StC.pure (.cons .nil (.cons .im .nil))) ?_
    refine AW.ret ?_
    try simp only [Ex.then, Ex.inBlock, Ex.noGoto, Ex.jump, reduceIte, Nat.reduceEqDiff, reduceCtorEq]
    refine Done.gen rfl (.tmp (.tmp .nil)) ?_
    show _ = _
    kernel_rfl
  · replace H := condF c1 H
    refine AW.skip ?_
    refine AW.regionSeq ?_
    obtain ⟨g2, H⟩ := G_some H
    refine OpsW.seg 4 [6, 2, 1] [inR ((2 : Int) * t0.N)] [(6, .int .i64 ((2 : Int) * t0.N)), (2, .ref 2 0 0), (1, .bool t1)] (by kernel_rfl) ⟨g2, trivial⟩ ?_
    refine OpsW.nil ?_
    refine AW.joinK (fun (y : Int) => f_number_Page_k2 t0 y) r (fun (y : Int) => [(2, .ref 2 0 0), (6, .int .i64 y)]) (fun (y : Int) => [(2, ⟨0, true, 35, 2, [.int .i64 t0.N, .int .i64 t0.K]⟩)]) ?_ ?_
    · refine AW.regionSeq ?_
      refine OpsW.seg 2 [31, 6, 2] [] [(31, .bool (!t1)), (6, .int .i64 ((2 : Int) * t0.N)), (2, .ref 2 0 0)] (by kernel_rfl) trivial ?_
      refine OpsW.nil ?_
      refine AW.cond (b := !t1) rfl (fun c10 => ?_) (fun c10 => ?_)
      · replace H := condT c10 H
        refine AW.region ?_
        obtain ⟨g11, H⟩ := G_some H
        refine OpsW.seg 3 [6, 2] [inR (((2 : Int) * t0.N) - (1 : Int))] [(6, .int .i64 (((2 : Int) * t0.N) - (1 : Int))), (2, .ref 2 0 0)] (by kernel_rfl) ⟨g11, trivial⟩ ?_
        refine OpsW.nil ?_
        show ∃ y, _ ∧ StC _ _ _ _
        exact ⟨((2 : Int) * t0.N) - (1 : Int), H, (StC.mk (phi [(2, some 2)]) (.old rfl rfl rfl rfl rfl (.cons .im (.cons .im .nil)) .nil) rfl (.cons (.ref rfl rfl rfl rfl rfl) (.cons .im .nil)))⟩
      · replace H := condF c10 H
        refine AW.skip ?_
        show ∃ y, _ ∧ StC _ _ _ _
        exact ⟨(2 : Int) * t0.N, H, (StC.mk (phi [(2, some 2)]) (.old rfl rfl rfl rfl rfl (.cons .im (.cons .im .nil)) .nil) rfl (.cons (.ref rfl rfl rfl rfl rfl) (.cons .im .nil)))⟩
    · intro v3 H
      change f_number_Page_k2 t0 v3 = some r at H
      unfold f_number_Page_k2 at H
      change AW _ _ _ [(2, .ref 2 0 0), (6, .int .i64 v3)] [(2, ⟨0, true, 35, 2, [.int .i64 t0.N, .int .i64 t0.K]⟩)] _
      refine AW.regionSeq ?_
      refine OpsW.seg 1 [35, 2] [] [(35, .int .i64 v3), (2, .ref 2 0 0)] (by kernel_rfl) trivial ?_
      obtain ⟨x4, hx4, H⟩ := bindS H
      refine OpsW.call rfl rfl (by kernel_rfl) [] _ _ rfl (glAll_sound trivial) (.cons (.pur rfl) .nil) (f_number_Write_own hx4) ?_
      rintro _ _ ⟨rfl, rfl⟩
      refine ⟨fresh_of (by kernel_rfl), .inl rfl, ?_⟩
      change OpsW _ _ _ _ [(36, .tup [.rsl 1000 0 0 x4.1.length, .int .i64 x4.2]), (35, .int .i64 v3), (2, .ref 2 0 0)] [(1000, rtA 0 42 1 (eI .u8) x4.1), (2, ⟨0, true, 35, 2, [.int .i64 t0.N, .int .i64 t0.K]⟩)] _
      refine OpsW.recast (env' := [(36, .tup [.rsl 600 0 0 x4.1.length, .int .i64 x4.2]), (35, .int .i64 v3), (2, .ref 2 0 0)]) (h' := [(600, rtA 0 42 1 (eI .u8) x4.1), (2, ⟨0, true, 35, 2, [.int .i64 t0.N, .int .i64 t0.K]⟩)]) (StC.mk (phi [(600, some 1000), (2, some 2)]) (.old rfl rfl rfl rfl rfl (CstL.ims _) (.old rfl rfl rfl rfl rfl (.cons .im (.cons .im .nil)) .nil)) rfl (.cons (.tup (.cons (.rsl rfl rfl rfl rfl rfl rfl) (.cons .im .nil))) (.cons .im (.cons (.ref rfl rfl rfl rfl rfl) .nil)))) ?_
      refine OpsW.seg 5 [8, 7, 2] [] [(8, .int .i64 x4.2), (7, .rsl 600 0 0 x4.1.length), (2, .ref 2 0 0)] (by kernel_rfl) trivial ?_
      refine OpsW.recast (env' := [(8, .int .i64 x4.2), (7, .rsl 7 0 0 x4.1.length), (2, .ref 2 0 0)]) (h' := [(2, ⟨0, true, 35, 2, [.int .i64 t0.N, .int .i64 t0.K]⟩), (7, rtA 0 42 1 (eI .u8) x4.1)]) (StC.mk (phi [(2, some 2), (7, some 600)]) (.old rfl rfl rfl rfl rfl (.cons .im (.cons .im .nil)) (.old rfl rfl rfl rfl rfl (CstL.ims _) .nil)) rfl (.cons .im (.cons (.rsl rfl rfl rfl rfl rfl rfl) (.cons (.ref rfl rfl rfl rfl rfl) .nil)))) ?_
      refine OpsW.nil ?_
      refine AW.joinK (fun (y : (List Int)) => f_number_Page_k1 x4 y) r (fun (y : (List Int)) => [(7, slA (eI .u8) y), (8, .int .i64 x4.2)]) (fun (y : (List Int)) => []) ?_ ?_
      · refine AW.regionSeq ?_
        refine OpsW.seg 7 [45, 8, 7, 2] [(x4.2 == (0 : Int)) = true → (x4.2 == (0 : Int)) = true, (x4.2 == (0 : Int)) = true → (x4.2 == (0 : Int)) = true, (x4.2 == (0 : Int)) = true → (x4.2 == (0 : Int)) = true] [(45, .bool (cond (x4.2 == (0 : Int)) (decide ((0 : Int) < t0.K)) false)), (8, .int .i64 x4.2), (7, .rsl 7 0 0 x4.1.length), (2, .ref 2 0 0)] (by kernel_rfl) ⟨(fun h => h), (fun h => h), (fun h => by first | exact h | simpa using h), trivial⟩ ?_
        refine OpsW.nil ?_
        refine AW.cond (b := cond (x4.2 == (0 : Int)) (decide ((0 : Int) < t0.K)) false) rfl (fun c6 => ?_) (fun c6 => ?_)
        · replace H := condT c6 H
          refine AW.region ?_
          obtain ⟨g7, H⟩ := G_some H
          obtain ⟨g8, H⟩ := G_some H
          refine OpsW.seg 5 [50, 46, 8, 7] [inR (t0.K - (1 : Int)), 0 ≤ (t0.K - (1 : Int)) ∧ (t0.K - (1 : Int)) < (26 : Int)] [(50, .ipt (tab_number_letters.flatMap (eI .u8)) (0 + (t0.K - (1 : Int)).toNat * 1)), (46, .rsl 7 0 0 x4.1.length), (8, .int .i64 x4.2), (7, .rsl 7 0 0 x4.1.length)] (by kernel_rfl) ⟨g7, g8, trivial⟩ ?_
          refine OpsW.asU (.int .u8 (tab_number_letters.getD (t0.K - (1 : Int)).toNat (0 : Int))) rfl rfl (T.load rfl trivial (by kernel_rfl) (tabOff (fm_cell0 (eI .u8) 1 (fun _ => rfl) tab_number_letters (0 : Int) (t0.K - (1 : Int)).toNat (ltA (n := 26) g8 rfl) (fun a => .val (.int .u8 a)) (fun _ => rfl)))) ?_
          obtain ⟨g9, H⟩ := G_some H
          refine OpsW.appendLF (enc := eI .u8) [(48 : Int), tab_number_letters.getD (t0.K - (1 : Int)).toNat (0 : Int)] rfl rfl rfl (by decide) rfl rfl rfl (by simp) E26 (fun _ => rfl) (by decide) trivial (by kernel_rfl) (by kernel_rfl) (by kernel_rfl) rfl rfl rfl g9 ?_
          refine OpsW.seg 1 [7, 8] [] [(7, .rsl 7 1 0 ((x4.1 ++ [(48 : Int), tab_number_letters.getD (t0.K - (1 : Int)).toNat (0 : Int)]).length)), (8, .int .i64 x4.2)] (by kernel_rfl) trivial ?_
          refine OpsW.recast (env' := [(7, slA (eI .u8) (x4.1 ++ [(48 : Int), tab_number_letters.getD (t0.K - (1 : Int)).toNat (0 : Int)])), (8, .int .i64 x4.2)]) (h' := []) (StC.mk (phi []) .nil rfl (.cons (.frz rfl rfl rfl (frz_all (eI .u8) 1 (fun _ => rfl) (x4.1 ++ [(48 : Int), tab_number_letters.getD (t0.K - (1 : Int)).toNat (0 : Int)])) (fm_length (eI .u8) 1 (fun _ => rfl) (x4.1 ++ [(48 : Int), tab_number_letters.getD (t0.K - (1 : Int)).toNat (0 : Int)])) (phi_ne rfl)) (.cons .im .nil))) ?_
          refine OpsW.nil ?_
          show ∃ y, _ ∧ StC _ _ _ _
          exact ⟨x4.1 ++ [(48 : Int), tab_number_letters.getD (t0.K - (1 : Int)).toNat (0 : Int)], H, (StC.pure (.cons .im (.cons .im .nil)))⟩
        · replace H := condF c6 H
          refine AW.skip ?_
          show ∃ y, _ ∧ StC _ _ _ _
          exact ⟨x4.1, H, (StC.mk (phi []) .nil rfl (.cons (.frz rfl rfl rfl (frz_all (eI .u8) 1 (fun _ => rfl) x4.1) (fm_length (eI .u8) 1 (fun _ => rfl) x4.1) (phi_ne rfl)) (.cons .im .nil)))⟩
      · intro v5 H
        change f_number_Page_k1 x4 v5 = some r at H
        unfold f_number_Page_k1 at H
        change AW _ _ _ [(7, slA (eI .u8) v5), (8, .int .i64 x4.2)] [] _
        refine AW.regionSeq ?_
        refine OpsW.seg 4 [5, 4] [] [(5, .int .i64 x4.2), (4, slA (eI .u8) v5)] (by kernel_rfl) trivial ?_
        refine OpsW.nil ?_
        obtain rfl := Option.some.inj H
        refine AW.recast (env' := [(4, slA (eI .u8) v5), (5, .int .i64 x4.2)]) (h' := []) (StC.pure (.cons .im (.cons .im .nil))) ?_
        refine AW.ret ?_
        try simp only [Ex.then, Ex.inBlock, Ex.noGoto, Ex.jump, reduceIte, Nat.reduceEqDiff, reduceCtorEq]
        refine Done.gen rfl (.tmp (.tmp .nil)) ?_
        show _ = _
        kernel_rfl
def f_number_Ink_k1 (x2 : (List Int) × Int) (v3 : List Int) : Option ((List Int) × Int) :=
  some (v3, x2.2)
def f_number_Ink (t0 : Int) (t1 : Int) : Option ((List Int) × Int) :=
  cond (cond (cond (cond (decide (t0 < (1 : Int))) true (decide ((9999 : Int) < t0))) true (decide (t1 < (0 : Int)))) true (decide ((26 : Int) < t1))) (
    some ([], (190 : Int))) (
    (f_number_Write t0).bind fun x2 =>
    cond (cond (x2.2 == (0 : Int)) (decide ((0 : Int) < t1)) false) (
      G (inR (t1 - (1 : Int))) <|
      G (0 ≤ (t1 - (1 : Int)) ∧ (t1 - (1 : Int)) < (26 : Int)) <|
      G (room 1 ([(48 : Int), tab_number_letters.getD (t1 - (1 : Int)).toNat (0 : Int)].length + x2.1.length)) <|
      f_number_Ink_k1 x2 ([(48 : Int), tab_number_letters.getD (t1 - (1 : Int)).toNat (0 : Int)] ++ x2.1)) (
      f_number_Ink_k1 x2 x2.1))
theorem f_number_Ink_ok {t0 : Int} {t1 : Int} {r : (List Int) × Int} (H : f_number_Ink t0 t1 = some r) : QSpec Tryd.prog 17 [.int .i64 t0, .int .i64 t1] (.tup [slA (eI .u8) r.1, .int .i64 r.2]) := by
  refine Spec.of_AW Tryd.func17 rfl (by simp [Tryd.ntmps17]) ?_
  rw [Tryd.ntmps17]
  unfold f_number_Ink at H
  change AW _ _ _ [(0, .int .i64 t0), (1, .int .i64 t1)] [] _
  refine AW.regionSeq ?_
  refine OpsW.seg 2 [0, 1] [] [(0, .int .i64 t0), (1, .int .i64 t1)] (by kernel_rfl) trivial ?_
  refine OpsW.nil ?_
  refine AW.seq ?_
  refine AW.regionSeq ?_
  refine OpsW.seg 14 [21, 0, 1] [(!(decide (t0 < (1 : Int)))) = true → (!(decide (t0 < (1 : Int)))) = true, (decide (t0 < (1 : Int))) = false → (!(decide (t0 < (1 : Int)))) = true, (!(cond (decide (t0 < (1 : Int))) true (decide ((9999 : Int) < t0)))) = true → (!(cond (decide (t0 < (1 : Int))) true (decide ((9999 : Int) < t0)))) = true, (cond (decide (t0 < (1 : Int))) true (decide ((9999 : Int) < t0))) = false → (!(cond (decide (t0 < (1 : Int))) true (decide ((9999 : Int) < t0)))) = true, (!(cond (cond (decide (t0 < (1 : Int))) true (decide ((9999 : Int) < t0))) true (decide (t1 < (0 : Int))))) = true → (!(cond (cond (decide (t0 < (1 : Int))) true (decide ((9999 : Int) < t0))) true (decide (t1 < (0 : Int))))) = true, (cond (cond (decide (t0 < (1 : Int))) true (decide ((9999 : Int) < t0))) true (decide (t1 < (0 : Int)))) = false → (!(cond (cond (decide (t0 < (1 : Int))) true (decide ((9999 : Int) < t0))) true (decide (t1 < (0 : Int))))) = true] [(21, .bool (cond (cond (cond (decide (t0 < (1 : Int))) true (decide ((9999 : Int) < t0))) true (decide (t1 < (0 : Int)))) true (decide ((26 : Int) < t1)))), (0, .int .i64 t0), (1, .int .i64 t1)] (by kernel_rfl) ⟨(fun h => h), (fun h => by first | exact h | simpa using h), (fun h => h), (fun h => by first | exact h | simpa using h), (fun h => h), (fun h => by first | exact h | simpa using h), trivial⟩ ?_
  refine OpsW.nil ?_
  refine AW.cond (b := cond (cond (cond (decide (t0 < (1 : Int))) true (decide ((9999 : Int) < t0))) true (decide (t1 < (0 : Int)))) true (decide ((26 : Int) < t1))) rfl (fun c1 => ?_) (fun c1 => ?_)
  · replace H := condT c1 H
    refine AW.regionSeq ?_
    refine OpsW.seg 2 [5, 4] [] [(5, .int .i64 (190 : Int)), (4, .im (.val (.slice none 0 0)))] (by kernel_rfl) trivial ?_
    refine OpsW.nil ?_
    obtain rfl := Option.some.inj H
    refine AW.recast (env' := [(4, slA (eI .u8) []), (5, .int .i64 (190 : Int))]) (h' := []) (StC.pure (.cons .nil (.cons .im .nil))) ?_
    refine AW.ret ?_
    try simp only [Ex.then, Ex.inBlock, Ex.noGoto, Ex.jump, reduceIte, Nat.reduceEqDiff, reduceCtorEq]
    refine Done.gen rfl (.tmp (.tmp .nil)) ?_
    show _ = _
    kernel_rfl
  · replace H := condF c1 H
    refine AW.skip ?_
    refine AW.regionSeq ?_
    refine OpsW.seg 1 [23, 1] [] [(23, .int .i64 t0), (1, .int .i64 t1)] (by kernel_rfl) trivial ?_
    obtain ⟨x2, hx2, H⟩ := bindS H
    refine OpsW.qcall rfl (by kernel_rfl) rfl rfl (glAll_sound trivial) (.cons (.pur rfl) .nil) (f_number_Write_ok hx2) rfl ?_
    refine OpsW.seg 5 [7, 6, 1] [] [(7, .int .i64 x2.2), (6, slA (eI .u8) x2.1), (1, .int .i64 t1)] (by kernel_rfl) trivial ?_
    refine OpsW.nil ?_
    refine AW.joinK (fun (y : (List Int)) => f_number_Ink_k1 x2 y) r (fun (y : (List Int)) => [(6, slA (eI .u8) y), (7, .int .i64 x2.2)]) (fun (y : (List Int)) => []) ?_ ?_
    · refine AW.regionSeq ?_
      refine OpsW.seg 6 [32, 7, 6, 1] [(x2.2 == (0 : Int)) = true → (x2.2 == (0 : Int)) = true, (x2.2 == (0 : Int)) = true → (x2.2 == (0 : Int)) = true] [(32, .bool (cond (x2.2 == (0 : Int)) (decide ((0 : Int) < t1)) false)), (7, .int .i64 x2.2), (6, slA (eI .u8) x2.1), (1, .int .i64 t1)] (by kernel_rfl) ⟨(fun h => h), (fun h => by first | exact h | simpa using h), trivial⟩ ?_
      refine OpsW.nil ?_
      refine AW.cond (b := cond (x2.2 == (0 : Int)) (decide ((0 : Int) < t1)) false) rfl (fun c4 => ?_) (fun c4 => ?_)
      · replace H := condT c4 H
        refine AW.region ?_
        obtain ⟨g5, H⟩ := G_some H
        obtain ⟨g6, H⟩ := G_some H
        refine OpsW.seg 3 [35, 7, 6] [inR (t1 - (1 : Int)), 0 ≤ (t1 - (1 : Int)) ∧ (t1 - (1 : Int)) < (26 : Int)] [(35, .ipt (tab_number_letters.flatMap (eI .u8)) (0 + (t1 - (1 : Int)).toNat * 1)), (7, .int .i64 x2.2), (6, slA (eI .u8) x2.1)] (by kernel_rfl) ⟨g5, g6, trivial⟩ ?_
        refine OpsW.asU (.int .u8 (tab_number_letters.getD (t1 - (1 : Int)).toNat (0 : Int))) rfl rfl (T.load rfl trivial (by kernel_rfl) (tabOff (fm_cell0 (eI .u8) 1 (fun _ => rfl) tab_number_letters (0 : Int) (t1 - (1 : Int)).toNat (ltA (n := 26) g6 rfl) (fun a => .val (.int .u8 a)) (fun _ => rfl)))) ?_
        refine OpsW.buildT (enc := eI .u8) [(48 : Int), tab_number_letters.getD (t1 - (1 : Int)).toNat (0 : Int)] rfl rfl rfl 37 rfl E26 (fun _ => rfl) (by decide) trivial (by kernel_rfl) (by kernel_rfl) (by kernel_rfl) rfl ?_
        refine OpsW.seg 1 [38, 37, 7, 6] [] [(38, slA (eI .u8) x2.1), (37, .rsl 37 0 0 ([(48 : Int), tab_number_letters.getD (t1 - (1 : Int)).toNat (0 : Int)].length)), (7, .int .i64 x2.2), (6, slA (eI .u8) x2.1)] (by kernel_rfl) trivial ?_
        obtain ⟨g7, H⟩ := G_some H
        refine OpsW.appendF (enc := eI .u8) (ys := x2.1) rfl rfl rfl E26 (fun _ => rfl) rfl rfl trivial (SrcA.typed (enc := eI .u8) (fun _ => rfl) (by kernel_rfl) x2.1) rfl g7 ?_
        refine OpsW.seg 1 [6, 7] [] [(6, .rsl 37 1 0 (([(48 : Int), tab_number_letters.getD (t1 - (1 : Int)).toNat (0 : Int)] ++ x2.1).length)), (7, .int .i64 x2.2)] (by kernel_rfl) trivial ?_
        refine OpsW.recast (env' := [(6, slA (eI .u8) ([(48 : Int), tab_number_letters.getD (t1 - (1 : Int)).toNat (0 : Int)] ++ x2.1)), (7, .int .i64 x2.2)]) (h' := []) (StC.mk (phi []) .nil rfl (.cons (.frz rfl rfl rfl (frz_all (eI .u8) 1 (fun _ => rfl) ([(48 : Int), tab_number_letters.getD (t1 - (1 : Int)).toNat (0 : Int)] ++ x2.1)) (fm_length (eI .u8) 1 (fun _ => rfl) ([(48 : Int), tab_number_letters.getD (t1 - (1 : Int)).toNat (0 : Int)] ++ x2.1)) (phi_ne rfl)) (.cons .im .nil))) ?_
        refine OpsW.nil ?_
        show ∃ y, _ ∧ StC _ _ _ _
        exact ⟨[(48 : Int), tab_number_letters.getD (t1 - (1 : Int)).toNat (0 : Int)] ++ x2.1, H, (StC.pure (.cons .im (.cons .im .nil)))⟩
      · replace H := condF c4 H
        refine AW.skip ?_
        show ∃ y, _ ∧ StC _ _ _ _
        exact ⟨x2.1, H, (StC.pure (.cons .im (.cons .im .nil)))⟩
    · intro v3 H
      change f_number_Ink_k1 x2 v3 = some r at H
      unfold f_number_Ink_k1 at H
      change AW _ _ _ [(6, slA (eI .u8) v3), (7, .int .i64 x2.2)] [] _
      refine AW.regionSeq ?_
      refine OpsW.seg 4 [5, 4] [] [(5, .int .i64 x2.2), (4, slA (eI .u8) v3)] (by kernel_rfl) trivial ?_
      refine OpsW.nil ?_
      obtain rfl := Option.some.inj H
      refine AW.recast (env' := [(4, slA (eI .u8) v3), (5, .int .i64 x2.2)]) (h' := []) (StC.pure (.cons .im (.cons .im .nil))) ?_
      refine AW.ret ?_
      try simp only [Ex.then, Ex.inBlock, Ex.noGoto, Ex.jump, reduceIte, Nat.reduceEqDiff, reduceCtorEq]
      refine Done.gen rfl (.tmp (.tmp .nil)) ?_
      show _ = _
      kernel_rfl
def f_number_Header_k1 (t0 : S_Header) (v2 : List Int) : Option ((List Int) × Int) :=
  (f_number_Page t0.Label t0.Back).bind fun x3 =>
  cond (x3.2 != (0 : Int)) (
    some ([], (190 : Int))) (
    G (inR (t0.Width - (v2.length : Int))) <|
    G (inR ((t0.Width - (v2.length : Int)) - (x3.1.length : Int))) <|
    G (0 ≤ ((t0.Width - (v2.length : Int)) - (x3.1.length : Int)) ∧ ((t0.Width - (v2.length : Int)) - (x3.1.length : Int)) ≤ ((t0.Width - (v2.length : Int)) - (x3.1.length : Int)) ∧ ((1 : Nat) : Int) * ((t0.Width - (v2.length : Int)) - (x3.1.length : Int)) ≤ 281474976710656 ∧ ((t0.Width - (v2.length : Int)) - (x3.1.length : Int)) ≤ 9223372036854775807) <|
    (f_number_join [v2, List.replicate ((t0.Width - (v2.length : Int)) - (x3.1.length : Int)).toNat (0 : Int), x3.1]).bind fun x8 =>
    some (x8, (0 : Int)))
def f_number_Header (t0 : S_Header) : Option ((List Int) × Int) :=
  cond (cond (decide (t0.Width < (24 : Int))) true (decide ((60 : Int) < t0.Width))) (
    some ([], (1 : Int))) (
    cond (cond (t0.Ink != (0 : Int)) true (t0.Part != (0 : Int))) (
      (f_number_Ink t0.Ink t0.Part).bind fun x10 =>
      cond (x10.2 != (0 : Int)) (
        some ([], (190 : Int))) (
        f_number_Header_k1 t0 x10.1)) (
      f_number_Header_k1 t0 []))
theorem f_number_Header_ok {t0 : S_Header} {r : (List Int) × Int} (H : f_number_Header t0 = some r) : QSpec Tryd.prog 21 [.agg [.int .i64 t0.Width, .int .i64 t0.Label.N, .int .i64 t0.Label.K, .bool t0.Back, .int .i64 t0.Ink, .int .i64 t0.Part]] (.tup [slA (eI .u8) r.1, .int .i64 r.2]) := by
  refine Spec.of_AW Tryd.func21 rfl (by simp [Tryd.ntmps21]) ?_
  rw [Tryd.ntmps21]
  unfold f_number_Header at H
  change AW _ _ _ [(0, .agg [.int .i64 t0.Width, .int .i64 t0.Label.N, .int .i64 t0.Label.K, .bool t0.Back, .int .i64 t0.Ink, .int .i64 t0.Part])] [] _
  refine AW.regionSeq ?_
  refine OpsW.box rfl rfl rfl 1 rfl (okCb_sound (by kernel_rfl)) ?_
  change OpsW _ _ _ _ _ [(1, ⟨0, true, 48, 6, [.int .i64 t0.Width, .int .i64 t0.Label.N, .int .i64 t0.Label.K, .bool t0.Back, .int .i64 t0.Ink, .int .i64 t0.Part]⟩)] _
  refine OpsW.seg 2 [1] [] [(1, .ref 1 0 0)] (by kernel_rfl) trivial ?_
  refine OpsW.recast (env' := [(1, .ref 1 0 0)]) (h' := [(1, ⟨0, true, 48, 6, [.int .i64 t0.Width, .int .i64 t0.Label.N, .int .i64 t0.Label.K, .bool t0.Back, .int .i64 t0.Ink, .int .i64 t0.Part]⟩)]) (StC.mk (phi [(1, some 1)]) (.old rfl rfl rfl rfl rfl (.cons .im (.cons .im (.cons .im (.cons .im (.cons .im (.cons .im .nil)))))) .nil) rfl (.cons (.ref rfl rfl rfl rfl rfl) .nil)) ?_
  refine OpsW.nil ?_
  refine AW.seq ?_
  refine AW.regionSeq ?_
  refine OpsW.seg 8 [16, 1] [(!(decide (t0.Width < (24 : Int)))) = true → (!(decide (t0.Width < (24 : Int)))) = true, (!(decide (t0.Width < (24 : Int)))) = true → (!(decide (t0.Width < (24 : Int)))) = true, (decide (t0.Width < (24 : Int))) = false → (!(decide (t0.Width < (24 : Int)))) = true] [(16, .bool (cond (decide (t0.Width < (24 : Int))) true (decide ((60 : Int) < t0.Width)))), (1, .ref 1 0 0)] (by kernel_rfl) ⟨(fun h => h), (fun h => h), (fun h => by first | exact h | simpa using h), trivial⟩ ?_
  refine OpsW.nil ?_
  refine AW.cond (b := cond (decide (t0.Width < (24 : Int))) true (decide ((60 : Int) < t0.Width))) rfl (fun c1 => ?_) (fun c1 => ?_)
  · replace H := condT c1 H
    refine AW.regionSeq ?_
    refine OpsW.seg 2 [3, 2] [] [(3, .int .i64 (1 : Int)), (2, .im (.val (.slice none 0 0)))] (by kernel_rfl) trivial ?_
    refine OpsW.nil ?_
    obtain rfl := Option.some.inj H
    refine AW.recast (env' := [(2, slA (eI .u8) []), (3, .int .i64 (1 : Int))]) (h' := []) (StC.pure (.cons .nil (.cons .im .nil))) ?_
    refine AW.ret ?_
    try simp only [Ex.then, Ex.inBlock, Ex.noGoto, Ex.jump, reduceIte, Nat.reduceEqDiff, reduceCtorEq]
    refine Done.gen rfl (.tmp (.tmp .nil)) ?_
    show _ = _
    kernel_rfl
  · replace H := condF c1 H
    refine AW.skip ?_
    refine AW.regionSeq ?_
    refine OpsW.seg 1 [4, 1] [] [(4, .im (.val (.slice none 0 0))), (1, .ref 1 0 0)] (by kernel_rfl) trivial ?_
    refine OpsW.nil ?_
    refine AW.joinK (fun (y : (List Int)) => f_number_Header_k1 t0 y) r (fun (y : (List Int)) => [(1, .ref 1 0 0), (4, slA (eI .u8) y)]) (fun (y : (List Int)) => [(1, ⟨0, true, 48, 6, [.int .i64 t0.Width, .int .i64 t0.Label.N, .int .i64 t0.Label.K, .bool t0.Back, .int .i64 t0.Ink, .int .i64 t0.Part]⟩)]) ?_ ?_
    · refine AW.regionSeq ?_
      refine OpsW.seg 8 [24, 4, 1] [(!(t0.Ink != (0 : Int))) = true → (!(t0.Ink != (0 : Int))) = true, (!(t0.Ink != (0 : Int))) = true → (!(t0.Ink != (0 : Int))) = true, (t0.Ink != (0 : Int)) = false → (!(t0.Ink != (0 : Int))) = true] [(24, .bool (cond (t0.Ink != (0 : Int)) true (t0.Part != (0 : Int)))), (4, .im (.val (.slice none 0 0))), (1, .ref 1 0 0)] (by kernel_rfl) ⟨(fun h => h), (fun h => h), (fun h => by first | exact h | simpa using h), trivial⟩ ?_
      refine OpsW.nil ?_
      refine AW.cond (b := cond (t0.Ink != (0 : Int)) true (t0.Part != (0 : Int))) rfl (fun c9 => ?_) (fun c9 => ?_)
      · replace H := condT c9 H
        refine AW.regionSeq ?_
        refine OpsW.seg 4 [29, 27, 1] [] [(29, .int .i64 t0.Part), (27, .int .i64 t0.Ink), (1, .ref 1 0 0)] (by kernel_rfl) trivial ?_
        obtain ⟨x10, hx10, H⟩ := bindS H
        refine OpsW.qcall rfl (by kernel_rfl) rfl rfl (glAll_sound trivial) (.cons (.pur rfl) (.cons (.pur rfl) .nil)) (f_number_Ink_ok hx10) rfl ?_
        refine OpsW.seg 5 [6, 5, 1] [] [(6, .int .i64 x10.2), (5, slA (eI .u8) x10.1), (1, .ref 1 0 0)] (by kernel_rfl) trivial ?_
        refine OpsW.nil ?_
        refine AW.seq ?_
        refine AW.regionSeq ?_
        refine OpsW.seg 2 [34, 5, 1] [] [(34, .bool (x10.2 != (0 : Int))), (5, slA (eI .u8) x10.1), (1, .ref 1 0 0)] (by kernel_rfl) trivial ?_
        refine OpsW.nil ?_
        refine AW.cond (b := x10.2 != (0 : Int)) rfl (fun c11 => ?_) (fun c11 => ?_)
        · replace H := condT c11 H
          refine AW.regionSeq ?_
          refine OpsW.seg 2 [3, 2] [] [(3, .int .i64 (190 : Int)), (2, .im (.val (.slice none 0 0)))] (by kernel_rfl) trivial ?_
          refine OpsW.nil ?_
          obtain rfl := Option.some.inj H
          refine AW.recast (env' := [(2, slA (eI .u8) []), (3, .int .i64 (190 : Int))]) (h' := []) (StC.pure (.cons .nil (.cons .im .nil))) ?_
          refine AW.ret ?_
          try simp only [Ex.then, Ex.inBlock, Ex.noGoto, Ex.jump, reduceIte, Nat.reduceEqDiff, reduceCtorEq]
          refine Done.gen rfl (.tmp (.tmp .nil)) ?_
          show _ = _
          kernel_rfl
        · replace H := condF c11 H
          refine AW.skip ?_
          refine AW.region ?_
          refine OpsW.seg 2 [4, 1] [] [(4, slA (eI .u8) x10.1), (1, .ref 1 0 0)] (by kernel_rfl) trivial ?_
          refine OpsW.nil ?_
          show ∃ y, _ ∧ StC _ _ _ _
          exact ⟨x10.1, H, (StC.mk (phi [(1, some 1)]) (.old rfl rfl rfl rfl rfl (.cons .im (.cons .im (.cons .im (.cons .im (.cons .im (.cons .im .nil)))))) .nil) rfl (.cons (.ref rfl rfl rfl rfl rfl) (.cons .im .nil)))⟩
      · replace H := condF c9 H
        refine AW.skip ?_
        show ∃ y, _ ∧ StC _ _ _ _
        exact ⟨[], H, (StC.mk (phi [(1, some 1)]) (.old rfl rfl rfl rfl rfl (.cons .im (.cons .im (.cons .im (.cons .im (.cons .im (.cons .im .nil)))))) .nil) rfl (.cons (.ref rfl rfl rfl rfl rfl) (.cons .nil .nil)))⟩
    · intro v2 H
      change f_number_Header_k1 t0 v2 = some r at H
      unfold f_number_Header_k1 at H
      change AW _ _ _ [(1, .ref 1 0 0), (4, slA (eI .u8) v2)] [(1, ⟨0, true, 48, 6, [.int .i64 t0.Width, .int .i64 t0.Label.N, .int .i64 t0.Label.K, .bool t0.Back, .int .i64 t0.Ink, .int .i64 t0.Part]⟩)] _
      refine AW.regionSeq ?_
      refine OpsW.seg 4 [40, 38, 1, 4] [] [(40, .bool t0.Back), (38, .agg [.int .i64 t0.Label.N, .int .i64 t0.Label.K]), (1, .ref 1 0 0), (4, slA (eI .u8) v2)] (by kernel_rfl) trivial ?_
      obtain ⟨x3, hx3, H⟩ := bindS H
      refine OpsW.qcall rfl (by kernel_rfl) rfl rfl (glAll_sound trivial) (.cons (.pur rfl) (.cons (.pur rfl) .nil)) (f_number_Page_ok hx3) rfl ?_
      refine OpsW.seg 5 [8, 7, 1, 4] [] [(8, .int .i64 x3.2), (7, slA (eI .u8) x3.1), (1, .ref 1 0 0), (4, slA (eI .u8) v2)] (by kernel_rfl) trivial ?_
      refine OpsW.nil ?_
      refine AW.seq ?_
      refine AW.regionSeq ?_
      refine OpsW.seg 2 [45, 7, 1, 4] [] [(45, .bool (x3.2 != (0 : Int))), (7, slA (eI .u8) x3.1), (1, .ref 1 0 0), (4, slA (eI .u8) v2)] (by kernel_rfl) trivial ?_
      refine OpsW.nil ?_
      refine AW.cond (b := x3.2 != (0 : Int)) rfl (fun c4 => ?_) (fun c4 => ?_)
      · replace H := condT c4 H
        refine AW.regionSeq ?_
        refine OpsW.seg 2 [3, 2] [] [(3, .int .i64 (190 : Int)), (2, .im (.val (.slice none 0 0)))] (by kernel_rfl) trivial ?_
        refine OpsW.nil ?_
        obtain rfl := Option.some.inj H
        refine AW.recast (env' := [(2, slA (eI .u8) []), (3, .int .i64 (190 : Int))]) (h' := []) (StC.pure (.cons .nil (.cons .im .nil))) ?_
        refine AW.ret ?_
        try simp only [Ex.then, Ex.inBlock, Ex.noGoto, Ex.jump, reduceIte, Nat.reduceEqDiff, reduceCtorEq]
        refine Done.gen rfl (.tmp (.tmp .nil)) ?_
        show _ = _
        kernel_rfl
      · replace H := condF c4 H
        refine AW.skip ?_
        refine AW.regionSeq ?_
        obtain ⟨g5, H⟩ := G_some H
        obtain ⟨g6, H⟩ := G_some H
        refine OpsW.seg 9 [54, 46, 7] [inR (t0.Width - (v2.length : Int)), inR ((t0.Width - (v2.length : Int)) - (x3.1.length : Int))] [(54, .int .i64 ((t0.Width - (v2.length : Int)) - (x3.1.length : Int))), (46, slA (eI .u8) v2), (7, slA (eI .u8) x3.1)] (by kernel_rfl) ⟨g5, g6, trivial⟩ ?_
        obtain ⟨g7, H⟩ := G_some H
        refine OpsW.makeT (enc := eI .u8) (0 : Int) rfl rfl rfl 55 rfl E26 rfl rfl rfl g7 ?_
        refine OpsW.seg 1 [56, 55, 46] [] [(56, slA (eI .u8) x3.1), (55, .rsl 55 0 0 ((List.replicate ((t0.Width - (v2.length : Int)) - (x3.1.length : Int)).toNat (0 : Int)).length)), (46, slA (eI .u8) v2)] (by kernel_rfl) trivial ?_
        refine OpsW.recast (env' := [(56, slA (eI .u8) x3.1), (55, slA (eI .u8) (List.replicate ((t0.Width - (v2.length : Int)) - (x3.1.length : Int)).toNat (0 : Int))), (46, slA (eI .u8) v2)]) (h' := [(1, ⟨0, true, 48, 6, [.int .i64 t0.Width, .int .i64 t0.Label.N, .int .i64 t0.Label.K, .bool t0.Back, .int .i64 t0.Ink, .int .i64 t0.Part]⟩)]) (StC.mk (phi [(1, some 1)]) (.old rfl rfl rfl rfl rfl (.cons .im (.cons .im (.cons .im (.cons .im (.cons .im (.cons .im .nil)))))) .nil) rfl (.cons .im (.cons (.frz rfl rfl rfl (frz_all (eI .u8) 1 (fun _ => rfl) (List.replicate ((t0.Width - (v2.length : Int)) - (x3.1.length : Int)).toNat (0 : Int))) (fm_length (eI .u8) 1 (fun _ => rfl) (List.replicate ((t0.Width - (v2.length : Int)) - (x3.1.length : Int)).toNat (0 : Int))) (phi_ne rfl)) (.cons .im .nil)))) ?_
        refine OpsW.buildTI (enc := eL (eI .u8)) [v2, List.replicate ((t0.Width - (v2.length : Int)) - (x3.1.length : Int)).toNat (0 : Int), x3.1] rfl rfl rfl E55 (fun _ => rfl) (by decide) ⟨trivial, by kernel_rfl, by kernel_rfl, by kernel_rfl, rfl⟩ ?_
        obtain ⟨x8, hx8, H⟩ := bindS H
        refine OpsW.qcall rfl (by kernel_rfl) rfl rfl (glAll_sound trivial) (.cons (.pur rfl) .nil) (f_number_join_ok hx8) rfl ?_
        refine OpsW.seg 2 [3, 2] [] [(3, .int .i64 (0 : Int)), (2, slA (eI .u8) x8)] (by kernel_rfl) trivial ?_
        refine OpsW.nil ?_
        obtain rfl := Option.some.inj H
        refine AW.recast (env' := [(2, slA (eI .u8) x8), (3, .int .i64 (0 : Int))]) (h' := []) (StC.pure (.cons .im (.cons .im .nil))) ?_
        refine AW.ret ?_
        try simp only [Ex.then, Ex.inBlock, Ex.noGoto, Ex.jump, reduceIte, Nat.reduceEqDiff, reduceCtorEq]
        refine Done.gen rfl (.tmp (.tmp .nil)) ?_
        show _ = _
        kernel_rfl
def f_number_ReadHeader_k1 (t0 : List Int) (v16 : S_Header) (v17 : S_Header) : Option (S_Header × Int) :=
  (f_number_Header v17).bind fun x18 =>
  (cond (!(x18.2 != (0 : Int))) (f_slices_Equal_api_Cell x18.1 t0) (some false)).bind fun x19 =>
  cond (cond (x18.2 != (0 : Int)) true (!x19)) (
    some ((⟨(0 : Int), (⟨(0 : Int), (0 : Int)⟩ : S_Label), false, (0 : Int), (0 : Int)⟩ : S_Header), (190 : Int))) (
    some (v17, (0 : Int)))
def f_number_ReadHeader_k2 (t0 : List Int) (v4 : Int) (v9 : S_Header) (v10 : S_Header) : Option (S_Header × Int) :=
  G (inR (v4 + (1 : Int))) <|
  G (0 ≤ (v4 + (1 : Int)) ∧ (v4 + (1 : Int)) ≤ (t0.length : Int)) <|
  (f_number_Read (t0.drop ((v4 + (1 : Int)).toNat))).bind fun x13 =>
  G (inR (x13.1 + (1 : Int))) <|
  G (inR (Int.tdiv (x13.1 + (1 : Int)) (2 : Int))) <|
  G (0 ≤ x13.2.1 ∧ x13.2.1 ≤ ((t0.drop ((v4 + (1 : Int)).toNat)).length : Int)) <|
  cond ((((t0.drop ((v4 + (1 : Int)).toNat)).drop x13.2.1.toNat).length : Int) == (2 : Int)) (
    G (0 ≤ (1 : Int) ∧ (1 : Int) < (((t0.drop ((v4 + (1 : Int)).toNat)).drop x13.2.1.toNat).length : Int)) <|
    (f_number_letter (((t0.drop ((v4 + (1 : Int)).toNat)).drop x13.2.1.toNat).getD (1 : Int).toNat (0 : Int))).bind fun x24 =>
    f_number_ReadHeader_k1 t0 v9 (⟨v10.Width, (⟨Int.tdiv (x13.1 + (1 : Int)) (2 : Int), x24⟩ : S_Label), (Int.tmod x13.1 (2 : Int)) == (0 : Int), v10.Ink, v10.Part⟩ : S_Header)) (
    f_number_ReadHeader_k1 t0 v9 (⟨v10.Width, (⟨Int.tdiv (x13.1 + (1 : Int)) (2 : Int), v10.Label.K⟩ : S_Label), (Int.tmod x13.1 (2 : Int)) == (0 : Int), v10.Ink, v10.Part⟩ : S_Header))
def f_number_ReadHeader_k3 (t0 : List Int) (v4 : Int) (v27 : S_Header) (v28 : S_Header) (v29 : List Int) : Option (S_Header × Int) :=
  (f_number_Read v29).bind fun x30 =>
  f_number_ReadHeader_k2 t0 v4 v27 (⟨v28.Width, v28.Label, v28.Back, x30.1, v28.Part⟩ : S_Header)
def f_number_ReadHeader_b1 (t0 : List Int) (x1 : Int) (loop5 : (Int) → Option (S_Header × Int)) (v4 : Int) : Option (S_Header × Int) :=
  G (0 ≤ v4 ∧ v4 < (t0.length : Int)) <|
  cond ((t0.getD v4.toNat (0 : Int)) != (0 : Int)) (
    G (inR (v4 - (1 : Int))) <|
    loop5 (v4 - (1 : Int))) (
    G (0 ≤ x1 ∧ x1 ≤ (t0.length : Int)) <|
    cond (decide ((0 : Int) < ((t0.take x1.toNat).length : Int))) (
      G ((decide ((2 : Int) < ((t0.take x1.toNat).length : Int))) = true → (0 ≤ (0 : Int) ∧ (0 : Int) < ((t0.take x1.toNat).length : Int))) <|
      cond (cond (decide ((2 : Int) < ((t0.take x1.toNat).length : Int))) (((t0.take x1.toNat).getD (0 : Int).toNat (0 : Int)) == (48 : Int)) false) (
        G (0 ≤ (1 : Int) ∧ (1 : Int) < ((t0.take x1.toNat).length : Int)) <|
        (f_number_letter ((t0.take x1.toNat).getD (1 : Int).toNat (0 : Int))).bind fun x34 =>
        G (0 ≤ (2 : Int) ∧ (2 : Int) ≤ ((t0.take x1.toNat).length : Int)) <|
        f_number_ReadHeader_k3 t0 v4 (⟨(0 : Int), (⟨(0 : Int), (0 : Int)⟩ : S_Label), false, (0 : Int), (0 : Int)⟩ : S_Header) (⟨(t0.length : Int), (⟨(0 : Int), (0 : Int)⟩ : S_Label), false, (0 : Int), x34⟩ : S_Header) ((t0.take x1.toNat).drop ((2 : Int).toNat))) (
        f_number_ReadHeader_k3 t0 v4 (⟨(0 : Int), (⟨(0 : Int), (0 : Int)⟩ : S_Label), false, (0 : Int), (0 : Int)⟩ : S_Header) (⟨(t0.length : Int), (⟨(0 : Int), (0 : Int)⟩ : S_Label), false, (0 : Int), (0 : Int)⟩ : S_Header) (t0.take x1.toNat))) (
      f_number_ReadHeader_k2 t0 v4 (⟨(0 : Int), (⟨(0 : Int), (0 : Int)⟩ : S_Label), false, (0 : Int), (0 : Int)⟩ : S_Header) (⟨(t0.length : Int), (⟨(0 : Int), (0 : Int)⟩ : S_Label), false, (0 : Int), (0 : Int)⟩ : S_Header)))
def f_number_ReadHeader (t0 : List Int) : Option (S_Header × Int) :=
  (f_slices_Index_api_Cell t0 (0 : Int)).bind fun x1 =>
  cond (decide (x1 < (0 : Int))) (
    some ((⟨(0 : Int), (⟨(0 : Int), (0 : Int)⟩ : S_Label), false, (0 : Int), (0 : Int)⟩ : S_Header), (190 : Int))) (
    G (inR ((t0.length : Int) - (1 : Int))) <|
    iter (fun loop (s : Int) => f_number_ReadHeader_b1 t0 x1 loop s) 1000000 ((t0.length : Int) - (1 : Int)))
theorem f_number_ReadHeader_ok {t0 : List Int} {r : S_Header × Int} (H : f_number_ReadHeader t0 = some r) : QSpec Tryd.prog 22 [slA (eI .u8) t0] (.tup [.agg [.int .i64 r.1.Width, .int .i64 r.1.Label.N, .int .i64 r.1.Label.K, .bool r.1.Back, .int .i64 r.1.Ink, .int .i64 r.1.Part], .int .i64 r.2]) := by
  refine Spec.of_AW Tryd.func22 rfl (by simp [Tryd.ntmps22]) ?_
  rw [Tryd.ntmps22]
  unfold f_number_ReadHeader at H
  change AW _ _ _ [(0, slA (eI .u8) t0)] [] _
  refine AW.regionSeq ?_
  refine OpsW.alloc' rfl rfl rfl 2 rfl (by kernel_rfl : zc Tryd.prog 48 = some [.int .i64 0, .int .i64 0, .int .i64 0, .bool false, .int .i64 0, .int .i64 0]) (by kernel_rfl) ?_
  refine OpsW.seg 1 [2, 0] [] [(2, .ref 2 0 0), (0, slA (eI .u8) t0)] (by kernel_rfl) trivial ?_
  refine OpsW.recast (env' := [(2, .ref 2 0 0), (0, slA (eI .u8) t0)]) (h' := [(2, ⟨0, true, 48, 6, [.int .i64 (0 : Int), .int .i64 (0 : Int), .int .i64 (0 : Int), .bool false, .int .i64 (0 : Int), .int .i64 (0 : Int)]⟩)]) (StC.mk (phi [(2, some 2)]) (.old rfl rfl rfl rfl rfl (.cons .im (.cons .im (.cons .im (.cons .im (.cons .im (.cons .im .nil)))))) .nil) rfl (.cons (.ref rfl rfl rfl rfl rfl) (.cons .im .nil))) ?_
  refine OpsW.nil ?_
  refine AW.regionSeq ?_
  refine OpsW.seg 1 [14, 2, 0] [] [(14, slA (eI .u8) t0), (2, .ref 2 0 0), (0, slA (eI .u8) t0)] (by kernel_rfl) trivial ?_
  obtain ⟨x1, hx1, H⟩ := bindS H
  refine OpsW.qcall rfl (by kernel_rfl) rfl rfl (glAll_sound trivial) (.cons (.pur rfl) (.cons (.pur rfl) .nil)) (f_slices_Index_api_Cell_ok hx1) rfl ?_
  refine OpsW.seg 1 [4, 2, 0] [] [(4, .int .i64 x1), (2, .ref 2 0 0), (0, slA (eI .u8) t0)] (by kernel_rfl) trivial ?_
  refine OpsW.nil ?_
  refine AW.seq ?_
  refine AW.regionSeq ?_
  refine OpsW.seg 2 [17, 4, 2, 0] [] [(17, .bool (decide (x1 < (0 : Int)))), (4, .int .i64 x1), (2, .ref 2 0 0), (0, slA (eI .u8) t0)] (by kernel_rfl) trivial ?_
  refine OpsW.nil ?_
  refine AW.cond (b := decide (x1 < (0 : Int))) rfl (fun c2 => ?_) (fun c2 => ?_)
  · replace H := condT c2 H
    refine AW.regionSeq ?_
    refine OpsW.seg 1 [18, 2] [] [(18, .agg [.int .i64 (0 : Int), .int .i64 (0 : Int), .int .i64 (0 : Int), .bool false, .int .i64 (0 : Int), .int .i64 (0 : Int)]), (2, .ref 2 0 0)] (by kernel_rfl) trivial ?_
    refine OpsW.store rfl rfl rfl rfl trivial trivial rfl rfl rfl (by kernel_rfl) (okCb_sound (by kernel_rfl)) (Nat.le_of_ble_eq_true (by kernel_rfl)) ?_
    change OpsW _ _ _ _ _ [(2, ⟨0, true, 48, 6, [.int .i64 (0 : Int), .int .i64 (0 : Int), .int .i64 (0 : Int), .bool false, .int .i64 (0 : Int), .int .i64 (0 : Int)]⟩), (2, ⟨0, true, 48, 6, [.int .i64 (0 : Int), .int .i64 (0 : Int), .int .i64 (0 : Int), .bool false, .int .i64 (0 : Int), .int .i64 (0 : Int)]⟩)] _
    refine OpsW.seg 1 [3, 2] [] [(3, .int .i64 (190 : Int)), (2, .ref 2 0 0)] (by kernel_rfl) trivial ?_
    refine OpsW.recast (env' := [(3, .int .i64 (190 : Int)), (2, .ref 2 0 0)]) (h' := [(2, ⟨0, true, 48, 6, [.int .i64 (0 : Int), .int .i64 (0 : Int), .int .i64 (0 : Int), .bool false, .int .i64 (0 : Int), .int .i64 (0 : Int)]⟩)]) (StC.mk (phi [(2, some 2)]) (.old rfl rfl rfl rfl rfl (.cons .im (.cons .im (.cons .im (.cons .im (.cons .im (.cons .im .nil)))))) .nil) rfl (.cons .im (.cons (.ref rfl rfl rfl rfl rfl) .nil))) ?_
    refine OpsW.nil ?_
    obtain rfl := Option.some.inj H
    refine AW.recast (env' := [(2, .ref 2 0 0), (3, .int .i64 (190 : Int))]) (h' := [(2, ⟨0, true, 48, 6, [.int .i64 (0 : Int), .int .i64 (0 : Int), .int .i64 (0 : Int), .bool false, .int .i64 (0 : Int), .int .i64 (0 : Int)]⟩)]) (StC.mk (phi [(2, some 2)]) (.old rfl rfl rfl rfl rfl (.cons .im (.cons .im (.cons .im (.cons .im (.cons .im (.cons .im .nil)))))) .nil) rfl (.cons (.ref rfl rfl rfl rfl rfl) (.cons .im .nil))) ?_
    refine AW.ret ?_
    try simp only [Ex.then, Ex.inBlock, Ex.noGoto, Ex.jump, reduceIte, Nat.reduceEqDiff, reduceCtorEq]
    refine Done.gen rfl (.cell rfl (by kernel_rfl) (.tmp .nil)) ?_
    show _ = _
    kernel_rfl
  · replace H := condF c2 H
    refine AW.skip ?_
    refine AW.regionSeq ?_
    obtain ⟨g3, H⟩ := G_some H
    refine OpsW.seg 4 [5, 4, 2, 0] [inR ((t0.length : Int) - (1 : Int))] [(5, .int .i64 ((t0.length : Int) - (1 : Int))), (4, .int .i64 x1), (2, .ref 2 0 0), (0, slA (eI .u8) t0)] (by kernel_rfl) ⟨g3, trivial⟩ ?_
    refine OpsW.nil ?_
    refine AW.seq ?_
    refine AW.block ?_
    refine AW.iterK (fun loop (s : Int) => f_number_ReadHeader_b1 t0 x1 loop s) r (fun (s : Int) => [(0, slA (eI .u8) t0), (2, .ref 2 0 0), (4, .int .i64 x1), (5, .int .i64 s)]) (fun (s : Int) => [(2, ⟨0, true, 48, 6, [.int .i64 (0 : Int), .int .i64 (0 : Int), .int .i64 (0 : Int), .bool false, .int .i64 (0 : Int), .int .i64 (0 : Int)]⟩)]) ?_ 1000000 ((t0.length : Int) - (1 : Int)) H (StC.mk (phi [(2, some 2)]) (.old rfl rfl rfl rfl rfl (.cons .im (.cons .im (.cons .im (.cons .im (.cons .im (.cons .im .nil)))))) .nil) rfl (.cons .im (.cons (.ref rfl rfl rfl rfl rfl) (.cons .im (.cons .im .nil)))))
    intro loop5 v4 H
    change f_number_ReadHeader_b1 t0 x1 loop5 v4 = some r at H
    unfold f_number_ReadHeader_b1 at H
    change AW _ _ _ [(0, slA (eI .u8) t0), (2, .ref 2 0 0), (4, .int .i64 x1), (5, .int .i64 v4)] [(2, ⟨0, true, 48, 6, [.int .i64 (0 : Int), .int .i64 (0 : Int), .int .i64 (0 : Int), .bool false, .int .i64 (0 : Int), .int .i64 (0 : Int)]⟩)] _
    refine AW.seq ?_
    refine AW.regionSeq ?_
    obtain ⟨g6, H⟩ := G_some H
    refine OpsW.seg 3 [24, 0, 2, 4, 5] [0 ≤ v4 ∧ v4 < (t0.length : Int)] [(24, .ipt (t0.flatMap (eI .u8)) (v4.toNat * 1)), (0, slA (eI .u8) t0), (2, .ref 2 0 0), (4, .int .i64 x1), (5, .int .i64 v4)] (by kernel_rfl) ⟨g6, trivial⟩ ?_
    refine OpsW.asU (.int .u8 (t0.getD v4.toNat (0 : Int))) rfl rfl (T.load rfl trivial (by kernel_rfl) (fm_cell0 (eI .u8) 1 (fun _ => rfl) t0 (0 : Int) v4.toNat (ltN g6) (fun a => .val (.int .u8 a)) (fun _ => rfl))) ?_
    refine OpsW.seg 1 [26, 0, 2, 4, 5] [] [(26, .bool ((t0.getD v4.toNat (0 : Int)) != (0 : Int))), (0, slA (eI .u8) t0), (2, .ref 2 0 0), (4, .int .i64 x1), (5, .int .i64 v4)] (by kernel_rfl) trivial ?_
    refine OpsW.nil ?_
    refine AW.cond (b := (t0.getD v4.toNat (0 : Int)) != (0 : Int)) rfl (fun c7 => ?_) (fun c7 => ?_)
    · replace H := condT c7 H
      refine AW.skip ?_
      refine AW.block ?_
      refine AW.region ?_
      obtain ⟨g8, H⟩ := G_some H
      refine OpsW.seg 3 [5, 0, 2, 4] [inR (v4 - (1 : Int))] [(5, .int .i64 (v4 - (1 : Int))), (0, slA (eI .u8) t0), (2, .ref 2 0 0), (4, .int .i64 x1)] (by kernel_rfl) ⟨g8, trivial⟩ ?_
      refine OpsW.nil ?_
      show ∃ y, _ ∧ StC _ _ _ _
      exact ⟨v4 - (1 : Int), H, (StC.mk (phi [(2, some 2)]) (.old rfl rfl rfl rfl rfl (.cons .im (.cons .im (.cons .im (.cons .im (.cons .im (.cons .im .nil)))))) .nil) rfl (.cons .im (.cons (.ref rfl rfl rfl rfl rfl) (.cons .im (.cons .im .nil)))))⟩
    · replace H := condF c7 H
      refine AW.exit ?_
      refine AW.regionSeq ?_
      refine OpsW.seg 3 [31, 0, 2, 4, 5] [] [(31, .agg [.int .i64 (t0.length : Int), .int .i64 (0 : Int), .int .i64 (0 : Int), .bool false, .int .i64 (0 : Int), .int .i64 (0 : Int)]), (0, slA (eI .u8) t0), (2, .ref 2 0 0), (4, .int .i64 x1), (5, .int .i64 v4)] (by kernel_rfl) trivial ?_
      refine OpsW.alloc' rfl rfl rfl 6 rfl (by kernel_rfl : zc Tryd.prog 48 = some [.int .i64 0, .int .i64 0, .int .i64 0, .bool false, .int .i64 0, .int .i64 0]) (by kernel_rfl) ?_
      refine OpsW.store rfl rfl rfl rfl trivial trivial rfl rfl rfl (by kernel_rfl) (okCb_sound (by kernel_rfl)) (Nat.le_of_ble_eq_true (by kernel_rfl)) ?_
      change OpsW _ _ _ _ _ [(6, ⟨0, true, 48, 6, [.int .i64 (t0.length : Int), .int .i64 (0 : Int), .int .i64 (0 : Int), .bool false, .int .i64 (0 : Int), .int .i64 (0 : Int)]⟩), (6, ⟨0, true, 48, 6, [.int .i64 (0 : Int), .int .i64 (0 : Int), .int .i64 (0 : Int), .bool false, .int .i64 (0 : Int), .int .i64 (0 : Int)]⟩), (2, ⟨0, true, 48, 6, [.int .i64 (0 : Int), .int .i64 (0 : Int), .int .i64 (0 : Int), .bool false, .int .i64 (0 : Int), .int .i64 (0 : Int)]⟩)] _
      refine OpsW.seg 0 [6, 0, 2, 4, 5] [] [(6, .ref 6 0 0), (0, slA (eI .u8) t0), (2, .ref 2 0 0), (4, .int .i64 x1), (5, .int .i64 v4)] (by kernel_rfl) trivial ?_
      refine OpsW.recast (env' := [(6, .ref 6 0 0), (0, slA (eI .u8) t0), (2, .ref 2 0 0), (4, .int .i64 x1), (5, .int .i64 v4)]) (h' := [(2, ⟨0, true, 48, 6, [.int .i64 (0 : Int), .int .i64 (0 : Int), .int .i64 (0 : Int), .bool false, .int .i64 (0 : Int), .int .i64 (0 : Int)]⟩), (6, ⟨0, true, 48, 6, [.int .i64 (t0.length : Int), .int .i64 (0 : Int), .int .i64 (0 : Int), .bool false, .int .i64 (0 : Int), .int .i64 (0 : Int)]⟩)]) (StC.mk (phi [(2, some 2), (6, some 6)]) (.old rfl rfl rfl rfl rfl (.cons .im (.cons .im (.cons .im (.cons .im (.cons .im (.cons .im .nil)))))) (.old rfl rfl rfl rfl rfl (.cons .im (.cons .im (.cons .im (.cons .im (.cons .im (.cons .im .nil)))))) .nil)) rfl (.cons (.ref rfl rfl rfl rfl rfl) (.cons .im (.cons (.ref rfl rfl rfl rfl rfl) (.cons .im (.cons .im .nil)))))) ?_
      refine OpsW.nil ?_
      refine AW.joinK (fun (y : S_Header × S_Header) => f_number_ReadHeader_k2 t0 v4 y.1 y.2) r (fun (y : S_Header × S_Header) => [(0, slA (eI .u8) t0), (2, .ref 2 0 0), (5, .int .i64 v4), (6, .ref 6 0 0)]) (fun (y : S_Header × S_Header) => [(2, ⟨0, true, 48, 6, [.int .i64 y.1.Width, .int .i64 y.1.Label.N, .int .i64 y.1.Label.K, .bool y.1.Back, .int .i64 y.1.Ink, .int .i64 y.1.Part]⟩), (6, ⟨0, true, 48, 6, [.int .i64 y.2.Width, .int .i64 y.2.Label.N, .int .i64 y.2.Label.K, .bool y.2.Back, .int .i64 y.2.Ink, .int .i64 y.2.Part]⟩)]) ?_ ?_
      · refine AW.regionSeq ?_
        refine OpsW.seg 2 [33, 32, 6, 0, 2, 5] [] [(33, .int .i64 x1), (32, slA (eI .u8) t0), (6, .ref 6 0 0), (0, slA (eI .u8) t0), (2, .ref 2 0 0), (5, .int .i64 v4)] (by kernel_rfl) trivial ?_
        obtain ⟨g25, H⟩ := G_some H
        refine OpsW.asU (slA (eI .u8) (t0.take x1.toNat)) rfl rfl (T.slice' rfl trivial trivial trivial (by kernel_rfl) (by kernel_rfl) g25 trivial (sl_hi (eI .u8) 1 (fun _ => rfl) t0 x1 g25)) ?_
        refine OpsW.seg 1 [7, 6, 0, 2, 5] [] [(7, slA (eI .u8) (t0.take x1.toNat)), (6, .ref 6 0 0), (0, slA (eI .u8) t0), (2, .ref 2 0 0), (5, .int .i64 v4)] (by kernel_rfl) trivial ?_
        refine OpsW.nil ?_
        refine AW.regionSeq ?_
        refine OpsW.seg 3 [37, 7, 6, 0, 2, 5] [] [(37, .bool (decide ((0 : Int) < ((t0.take x1.toNat).length : Int)))), (7, slA (eI .u8) (t0.take x1.toNat)), (6, .ref 6 0 0), (0, slA (eI .u8) t0), (2, .ref 2 0 0), (5, .int .i64 v4)] (by kernel_rfl) trivial ?_
        refine OpsW.nil ?_
        refine AW.cond (b := decide ((0 : Int) < ((t0.take x1.toNat).length : Int))) rfl (fun c26 => ?_) (fun c26 => ?_)
        · replace H := condT c26 H
          refine AW.joinK (fun (y : S_Header × S_Header × (List Int)) => f_number_ReadHeader_k3 t0 v4 y.1 y.2.1 y.2.2) r (fun (y : S_Header × S_Header × (List Int)) => [(0, slA (eI .u8) t0), (2, .ref 2 0 0), (5, .int .i64 v4), (6, .ref 6 0 0), (7, slA (eI .u8) y.2.2)]) (fun (y : S_Header × S_Header × (List Int)) => [(2, ⟨0, true, 48, 6, [.int .i64 y.1.Width, .int .i64 y.1.Label.N, .int .i64 y.1.Label.K, .bool y.1.Back, .int .i64 y.1.Ink, .int .i64 y.1.Part]⟩), (6, ⟨0, true, 48, 6, [.int .i64 y.2.1.Width, .int .i64 y.2.1.Label.N, .int .i64 y.2.1.Label.K, .bool y.2.1.Back, .int .i64 y.2.1.Ink, .int .i64 y.2.1.Part]⟩)]) ?_ ?_
          · refine AW.regionSeq ?_
            obtain ⟨g31, H⟩ := G_some H
            refine OpsW.seg 6 [43, 41, 7, 6, 0, 2, 5] [(decide ((2 : Int) < ((t0.take x1.toNat).length : Int))) = true → (decide ((2 : Int) < ((t0.take x1.toNat).length : Int))) = true, (decide ((2 : Int) < ((t0.take x1.toNat).length : Int))) = true → (0 ≤ (0 : Int) ∧ (0 : Int) < ((t0.take x1.toNat).length : Int))] [(43, .cnd (decide ((2 : Int) < ((t0.take x1.toNat).length : Int))) (.ipt ((t0.take x1.toNat).flatMap (eI .u8)) ((0 : Int).toNat * 1))), (41, .bool (decide ((2 : Int) < ((t0.take x1.toNat).length : Int)))), (7, slA (eI .u8) (t0.take x1.toNat)), (6, .ref 6 0 0), (0, slA (eI .u8) t0), (2, .ref 2 0 0), (5, .int .i64 v4)] (by kernel_rfl) ⟨(fun h => h), g31, trivial⟩ ?_
            refine OpsW.asG (c := decide ((2 : Int) < ((t0.take x1.toNat).length : Int))) (.int .u8 ((t0.take x1.toNat).getD (0 : Int).toNat (0 : Int))) rfl rfl rfl rfl (fun hc => T.load rfl hc (by kernel_rfl) (fm_cell0 (eI .u8) 1 (fun _ => rfl) (t0.take x1.toNat) (0 : Int) (0 : Int).toNat (ltN (g31 hc)) (fun a => .val (.int .u8 a)) (fun _ => rfl))) ?_
            refine OpsW.seg 2 [46, 7, 6, 0, 2, 5] [(decide ((2 : Int) < ((t0.take x1.toNat).length : Int))) = true → (decide ((2 : Int) < ((t0.take x1.toNat).length : Int))) = true, (decide ((2 : Int) < ((t0.take x1.toNat).length : Int))) = true → (decide ((2 : Int) < ((t0.take x1.toNat).length : Int))) = true] [(46, .bool (cond (decide ((2 : Int) < ((t0.take x1.toNat).length : Int))) (((t0.take x1.toNat).getD (0 : Int).toNat (0 : Int)) == (48 : Int)) false)), (7, slA (eI .u8) (t0.take x1.toNat)), (6, .ref 6 0 0), (0, slA (eI .u8) t0), (2, .ref 2 0 0), (5, .int .i64 v4)] (by kernel_rfl) ⟨(fun h => h), (fun h => by first | exact h | simpa using h), trivial⟩ ?_
            refine OpsW.nil ?_
            refine AW.cond (b := cond (decide ((2 : Int) < ((t0.take x1.toNat).length : Int))) (((t0.take x1.toNat).getD (0 : Int).toNat (0 : Int)) == (48 : Int)) false) rfl (fun c32 => ?_) (fun c32 => ?_)
            · replace H := condT c32 H
              refine AW.regionSeq ?_
              obtain ⟨g33, H⟩ := G_some H
              refine OpsW.seg 2 [48, 7, 6, 0, 2, 5] [0 ≤ (1 : Int) ∧ (1 : Int) < ((t0.take x1.toNat).length : Int)] [(48, .ipt ((t0.take x1.toNat).flatMap (eI .u8)) ((1 : Int).toNat * 1)), (7, slA (eI .u8) (t0.take x1.toNat)), (6, .ref 6 0 0), (0, slA (eI .u8) t0), (2, .ref 2 0 0), (5, .int .i64 v4)] (by kernel_rfl) ⟨g33, trivial⟩ ?_
              refine OpsW.asU (.int .u8 ((t0.take x1.toNat).getD (1 : Int).toNat (0 : Int))) rfl rfl (T.load rfl trivial (by kernel_rfl) (fm_cell0 (eI .u8) 1 (fun _ => rfl) (t0.take x1.toNat) (0 : Int) (1 : Int).toNat (ltN g33) (fun a => .val (.int .u8 a)) (fun _ => rfl))) ?_
              obtain ⟨x34, hx34, H⟩ := bindS H
              refine OpsW.qcall rfl (by kernel_rfl) rfl rfl (glAll_sound trivial) (.cons (.pur rfl) .nil) (f_number_letter_ok hx34) rfl ?_
              refine OpsW.seg 1 [51, 50, 7, 6, 0, 2, 5] [] [(51, .ref 6 0 5), (50, .int .i64 x34), (7, slA (eI .u8) (t0.take x1.toNat)), (6, .ref 6 0 0), (0, slA (eI .u8) t0), (2, .ref 2 0 0), (5, .int .i64 v4)] (by kernel_rfl) trivial ?_
              refine OpsW.store rfl rfl rfl rfl trivial trivial rfl rfl rfl (by kernel_rfl) (okCb_sound (by kernel_rfl)) (Nat.le_of_ble_eq_true (by kernel_rfl)) ?_
              change OpsW _ _ _ _ _ [(6, ⟨0, true, 48, 6, [.int .i64 (t0.length : Int), .int .i64 (0 : Int), .int .i64 (0 : Int), .bool false, .int .i64 (0 : Int), .int .i64 x34]⟩), (2, ⟨0, true, 48, 6, [.int .i64 (0 : Int), .int .i64 (0 : Int), .int .i64 (0 : Int), .bool false, .int .i64 (0 : Int), .int .i64 (0 : Int)]⟩), (6, ⟨0, true, 48, 6, [.int .i64 (t0.length : Int), .int .i64 (0 : Int), .int .i64 (0 : Int), .bool false, .int .i64 (0 : Int), .int .i64 (0 : Int)]⟩)] _
              refine OpsW.seg 0 [7, 6, 0, 2, 5] [] [(7, slA (eI .u8) (t0.take x1.toNat)), (6, .ref 6 0 0), (0, slA (eI .u8) t0), (2, .ref 2 0 0), (5, .int .i64 v4)] (by kernel_rfl) trivial ?_
              refine OpsW.recast (env' := [(7, slA (eI .u8) (t0.take x1.toNat)), (6, .ref 6 0 0), (0, slA (eI .u8) t0), (2, .ref 2 0 0), (5, .int .i64 v4)]) (h' := [(2, ⟨0, true, 48, 6, [.int .i64 (0 : Int), .int .i64 (0 : Int), .int .i64 (0 : Int), .bool false, .int .i64 (0 : Int), .int .i64 (0 : Int)]⟩), (6, ⟨0, true, 48, 6, [.int .i64 (t0.length : Int), .int .i64 (0 : Int), .int .i64 (0 : Int), .bool false, .int .i64 (0 : Int), .int .i64 x34]⟩)]) (StC.mk (phi [(2, some 2), (6, some 6)]) (.old rfl rfl rfl rfl rfl (.cons .im (.cons .im (.cons .im (.cons .im (.cons .im (.cons .im .nil)))))) (.old rfl rfl rfl rfl rfl (.cons .im (.cons .im (.cons .im (.cons .im (.cons .im (.cons .im .nil)))))) .nil)) rfl (.cons .im (.cons (.ref rfl rfl rfl rfl rfl) (.cons .im (.cons (.ref rfl rfl rfl rfl rfl) (.cons .im .nil)))))) ?_
              refine OpsW.nil ?_
              refine AW.region ?_
              refine OpsW.seg 1 [52, 7, 6, 0, 2, 5] [] [(52, slA (eI .u8) (t0.take x1.toNat)), (7, slA (eI .u8) (t0.take x1.toNat)), (6, .ref 6 0 0), (0, slA (eI .u8) t0), (2, .ref 2 0 0), (5, .int .i64 v4)] (by kernel_rfl) trivial ?_
              obtain ⟨g35, H⟩ := G_some H
              refine OpsW.asU (slA (eI .u8) ((t0.take x1.toNat).drop ((2 : Int).toNat))) rfl rfl (T.slice' rfl trivial trivial trivial (by kernel_rfl) (by kernel_rfl) trivial g35 (sl_lo (eI .u8) 1 (fun _ => rfl) (t0.take x1.toNat) (2 : Int) g35)) ?_
              refine OpsW.seg 1 [7, 6, 0, 2, 5] [] [(7, slA (eI .u8) ((t0.take x1.toNat).drop ((2 : Int).toNat))), (6, .ref 6 0 0), (0, slA (eI .u8) t0), (2, .ref 2 0 0), (5, .int .i64 v4)] (by kernel_rfl) trivial ?_
              refine OpsW.nil ?_
              show ∃ y, _ ∧ StC _ _ _ _
              exact ⟨((⟨(0 : Int), (⟨(0 : Int), (0 : Int)⟩ : S_Label), false, (0 : Int), (0 : Int)⟩ : S_Header), (⟨(t0.length : Int), (⟨(0 : Int), (0 : Int)⟩ : S_Label), false, (0 : Int), x34⟩ : S_Header), (t0.take x1.toNat).drop ((2 : Int).toNat)), H, (StC.mk (phi [(2, some 2), (6, some 6)]) (.old rfl rfl rfl rfl rfl (.cons .im (.cons .im (.cons .im (.cons .im (.cons .im (.cons .im .nil)))))) (.old rfl rfl rfl rfl rfl (.cons .im (.cons .im (.cons .im (.cons .im (.cons .im (.cons .im .nil)))))) .nil)) rfl (.cons .im (.cons (.ref rfl rfl rfl rfl rfl) (.cons .im (.cons (.ref rfl rfl rfl rfl rfl) (.cons .im .nil))))))⟩
            · replace H := condF c32 H
              refine AW.skip ?_
              show ∃ y, _ ∧ StC _ _ _ _
              exact ⟨((⟨(0 : Int), (⟨(0 : Int), (0 : Int)⟩ : S_Label), false, (0 : Int), (0 : Int)⟩ : S_Header), (⟨(t0.length : Int), (⟨(0 : Int), (0 : Int)⟩ : S_Label), false, (0 : Int), (0 : Int)⟩ : S_Header), t0.take x1.toNat), H, (StC.mk (phi [(2, some 2), (6, some 6)]) (.old rfl rfl rfl rfl rfl (.cons .im (.cons .im (.cons .im (.cons .im (.cons .im (.cons .im .nil)))))) (.old rfl rfl rfl rfl rfl (.cons .im (.cons .im (.cons .im (.cons .im (.cons .im (.cons .im .nil)))))) .nil)) rfl (.cons .im (.cons (.ref rfl rfl rfl rfl rfl) (.cons .im (.cons (.ref rfl rfl rfl rfl rfl) (.cons .im .nil))))))⟩
          · rintro ⟨v27, v28, v29⟩ H
            change f_number_ReadHeader_k3 t0 v4 v27 v28 v29 = some r at H
            unfold f_number_ReadHeader_k3 at H
            change AW _ _ _ [(0, slA (eI .u8) t0), (2, .ref 2 0 0), (5, .int .i64 v4), (6, .ref 6 0 0), (7, slA (eI .u8) v29)] [(2, ⟨0, true, 48, 6, [.int .i64 v27.Width, .int .i64 v27.Label.N, .int .i64 v27.Label.K, .bool v27.Back, .int .i64 v27.Ink, .int .i64 v27.Part]⟩), (6, ⟨0, true, 48, 6, [.int .i64 v28.Width, .int .i64 v28.Label.N, .int .i64 v28.Label.K, .bool v28.Back, .int .i64 v28.Ink, .int .i64 v28.Part]⟩)] _
            refine AW.region ?_
            refine OpsW.seg 1 [55, 0, 2, 5, 6] [] [(55, slA (eI .u8) v29), (0, slA (eI .u8) t0), (2, .ref 2 0 0), (5, .int .i64 v4), (6, .ref 6 0 0)] (by kernel_rfl) trivial ?_
            obtain ⟨x30, hx30, H⟩ := bindS H
            refine OpsW.qcall rfl (by kernel_rfl) rfl rfl (glAll_sound trivial) (.cons (.pur rfl) .nil) (f_number_Read_ok hx30) rfl ?_
            refine OpsW.seg 5 [60, 57, 0, 2, 5, 6] [] [(60, .ref 6 0 4), (57, .int .i64 x30.1), (0, slA (eI .u8) t0), (2, .ref 2 0 0), (5, .int .i64 v4), (6, .ref 6 0 0)] (by kernel_rfl) trivial ?_
            refine OpsW.store rfl rfl rfl rfl trivial trivial rfl rfl rfl (by kernel_rfl) (okCb_sound (by kernel_rfl)) (Nat.le_of_ble_eq_true (by kernel_rfl)) ?_
            change OpsW _ _ _ _ _ [(6, ⟨0, true, 48, 6, [.int .i64 v28.Width, .int .i64 v28.Label.N, .int .i64 v28.Label.K, .bool v28.Back, .int .i64 x30.1, .int .i64 v28.Part]⟩), (2, ⟨0, true, 48, 6, [.int .i64 v27.Width, .int .i64 v27.Label.N, .int .i64 v27.Label.K, .bool v27.Back, .int .i64 v27.Ink, .int .i64 v27.Part]⟩), (6, ⟨0, true, 48, 6, [.int .i64 v28.Width, .int .i64 v28.Label.N, .int .i64 v28.Label.K, .bool v28.Back, .int .i64 v28.Ink, .int .i64 v28.Part]⟩)] _
            refine OpsW.seg 0 [0, 2, 5, 6] [] [(0, slA (eI .u8) t0), (2, .ref 2 0 0), (5, .int .i64 v4), (6, .ref 6 0 0)] (by kernel_rfl) trivial ?_
            refine OpsW.recast (env' := [(0, slA (eI .u8) t0), (2, .ref 2 0 0), (5, .int .i64 v4), (6, .ref 6 0 0)]) (h' := [(2, ⟨0, true, 48, 6, [.int .i64 v27.Width, .int .i64 v27.Label.N, .int .i64 v27.Label.K, .bool v27.Back, .int .i64 v27.Ink, .int .i64 v27.Part]⟩), (6, ⟨0, true, 48, 6, [.int .i64 v28.Width, .int .i64 v28.Label.N, .int .i64 v28.Label.K, .bool v28.Back, .int .i64 x30.1, .int .i64 v28.Part]⟩)]) (StC.mk (phi [(2, some 2), (6, some 6)]) (.old rfl rfl rfl rfl rfl (.cons .im (.cons .im (.cons .im (.cons .im (.cons .im (.cons .im .nil)))))) (.old rfl rfl rfl rfl rfl (.cons .im (.cons .im (.cons .im (.cons .im (.cons .im (.cons .im .nil)))))) .nil)) rfl (.cons .im (.cons (.ref rfl rfl rfl rfl rfl) (.cons .im (.cons (.ref rfl rfl rfl rfl rfl) .nil))))) ?_
            refine OpsW.nil ?_
            show ∃ y, _ ∧ StC _ _ _ _
            exact ⟨(v27, (⟨v28.Width, v28.Label, v28.Back, x30.1, v28.Part⟩ : S_Header)), H, (StC.mk (phi [(2, some 2), (6, some 6)]) (.old rfl rfl rfl rfl rfl (.cons .im (.cons .im (.cons .im (.cons .im (.cons .im (.cons .im .nil)))))) (.old rfl rfl rfl rfl rfl (.cons .im (.cons .im (.cons .im (.cons .im (.cons .im (.cons .im .nil)))))) .nil)) rfl (.cons .im (.cons (.ref rfl rfl rfl rfl rfl) (.cons .im (.cons (.ref rfl rfl rfl rfl rfl) .nil)))))⟩
        · replace H := condF c26 H
          refine AW.skip ?_
          show ∃ y, _ ∧ StC _ _ _ _
          exact ⟨((⟨(0 : Int), (⟨(0 : Int), (0 : Int)⟩ : S_Label), false, (0 : Int), (0 : Int)⟩ : S_Header), (⟨(t0.length : Int), (⟨(0 : Int), (0 : Int)⟩ : S_Label), false, (0 : Int), (0 : Int)⟩ : S_Header)), H, (StC.mk (phi [(2, some 2), (6, some 6)]) (.old rfl rfl rfl rfl rfl (.cons .im (.cons .im (.cons .im (.cons .im (.cons .im (.cons .im .nil)))))) (.old rfl rfl rfl rfl rfl (.cons .im (.cons .im (.cons .im (.cons .im (.cons .im (.cons .im .nil)))))) .nil)) rfl (.cons .im (.cons (.ref rfl rfl rfl rfl rfl) (.cons .im (.cons (.ref rfl rfl rfl rfl rfl) .nil)))))⟩
      · rintro ⟨v9, v10⟩ H
        change f_number_ReadHeader_k2 t0 v4 v9 v10 = some r at H
        unfold f_number_ReadHeader_k2 at H
        change AW _ _ _ [(0, slA (eI .u8) t0), (2, .ref 2 0 0), (5, .int .i64 v4), (6, .ref 6 0 0)] [(2, ⟨0, true, 48, 6, [.int .i64 v9.Width, .int .i64 v9.Label.N, .int .i64 v9.Label.K, .bool v9.Back, .int .i64 v9.Ink, .int .i64 v9.Part]⟩), (6, ⟨0, true, 48, 6, [.int .i64 v10.Width, .int .i64 v10.Label.N, .int .i64 v10.Label.K, .bool v10.Back, .int .i64 v10.Ink, .int .i64 v10.Part]⟩)] _
        refine AW.regionSeq ?_
        obtain ⟨g11, H⟩ := G_some H
        refine OpsW.seg 3 [63, 61, 0, 2, 6] [inR (v4 + (1 : Int))] [(63, .int .i64 (v4 + (1 : Int))), (61, slA (eI .u8) t0), (0, slA (eI .u8) t0), (2, .ref 2 0 0), (6, .ref 6 0 0)] (by kernel_rfl) ⟨g11, trivial⟩ ?_
        obtain ⟨g12, H⟩ := G_some H
        refine OpsW.asU (slA (eI .u8) (t0.drop ((v4 + (1 : Int)).toNat))) rfl rfl (T.slice' rfl trivial trivial trivial (by kernel_rfl) (by kernel_rfl) trivial g12 (sl_lo (eI .u8) 1 (fun _ => rfl) t0 (v4 + (1 : Int)) g12)) ?_
        refine OpsW.seg 1 [8, 0, 2, 6] [] [(8, slA (eI .u8) (t0.drop ((v4 + (1 : Int)).toNat))), (0, slA (eI .u8) t0), (2, .ref 2 0 0), (6, .ref 6 0 0)] (by kernel_rfl) trivial ?_
        refine OpsW.nil ?_
        refine AW.regionSeq ?_
        refine OpsW.seg 1 [66, 8, 0, 2, 6] [] [(66, slA (eI .u8) (t0.drop ((v4 + (1 : Int)).toNat))), (8, slA (eI .u8) (t0.drop ((v4 + (1 : Int)).toNat))), (0, slA (eI .u8) t0), (2, .ref 2 0 0), (6, .ref 6 0 0)] (by kernel_rfl) trivial ?_
        obtain ⟨x13, hx13, H⟩ := bindS H
        refine OpsW.qcall rfl (by kernel_rfl) rfl rfl (glAll_sound trivial) (.cons (.pur rfl) .nil) (f_number_Read_ok hx13) rfl ?_
        refine OpsW.seg 7 [10, 9, 8, 0, 2, 6] [] [(10, .int .i64 x13.2.1), (9, .int .i64 x13.1), (8, slA (eI .u8) (t0.drop ((v4 + (1 : Int)).toNat))), (0, slA (eI .u8) t0), (2, .ref 2 0 0), (6, .ref 6 0 0)] (by kernel_rfl) trivial ?_
        refine OpsW.nil ?_
        refine AW.regionSeq ?_
        obtain ⟨g14, H⟩ := G_some H
        obtain ⟨g15, H⟩ := G_some H
        refine OpsW.seg 8 [78, 76, 73, 10, 8, 0, 2, 6] [inR (x13.1 + (1 : Int)), (2 : Int) ≠ 0, inR (Int.tdiv (x13.1 + (1 : Int)) (2 : Int)), (2 : Int) ≠ 0] [(78, .ref 6 0 1), (76, .bool ((Int.tmod x13.1 (2 : Int)) == (0 : Int))), (73, .int .i64 (Int.tdiv (x13.1 + (1 : Int)) (2 : Int))), (10, .int .i64 x13.2.1), (8, slA (eI .u8) (t0.drop ((v4 + (1 : Int)).toNat))), (0, slA (eI .u8) t0), (2, .ref 2 0 0), (6, .ref 6 0 0)] (by kernel_rfl) ⟨g14, (by decide), g15, (by decide), trivial⟩ ?_
        refine OpsW.store rfl rfl rfl rfl trivial trivial rfl rfl rfl (by kernel_rfl) (okCb_sound (by kernel_rfl)) (Nat.le_of_ble_eq_true (by kernel_rfl)) ?_
        change OpsW _ _ _ _ _ [(6, ⟨0, true, 48, 6, [.int .i64 v10.Width, .int .i64 (Int.tdiv (x13.1 + (1 : Int)) (2 : Int)), .int .i64 v10.Label.K, .bool v10.Back, .int .i64 v10.Ink, .int .i64 v10.Part]⟩), (2, ⟨0, true, 48, 6, [.int .i64 v9.Width, .int .i64 v9.Label.N, .int .i64 v9.Label.K, .bool v9.Back, .int .i64 v9.Ink, .int .i64 v9.Part]⟩), (6, ⟨0, true, 48, 6, [.int .i64 v10.Width, .int .i64 v10.Label.N, .int .i64 v10.Label.K, .bool v10.Back, .int .i64 v10.Ink, .int .i64 v10.Part]⟩)] _
        refine OpsW.seg 1 [79, 76, 10, 8, 0, 2, 6] [] [(79, .ref 6 0 3), (76, .bool ((Int.tmod x13.1 (2 : Int)) == (0 : Int))), (10, .int .i64 x13.2.1), (8, slA (eI .u8) (t0.drop ((v4 + (1 : Int)).toNat))), (0, slA (eI .u8) t0), (2, .ref 2 0 0), (6, .ref 6 0 0)] (by kernel_rfl) trivial ?_
        refine OpsW.store rfl rfl rfl rfl trivial trivial rfl rfl rfl (by kernel_rfl) (okCb_sound (by kernel_rfl)) (Nat.le_of_ble_eq_true (by kernel_rfl)) ?_
        change OpsW _ _ _ _ _ [(6, ⟨0, true, 48, 6, [.int .i64 v10.Width, .int .i64 (Int.tdiv (x13.1 + (1 : Int)) (2 : Int)), .int .i64 v10.Label.K, .bool ((Int.tmod x13.1 (2 : Int)) == (0 : Int)), .int .i64 v10.Ink, .int .i64 v10.Part]⟩), (6, ⟨0, true, 48, 6, [.int .i64 v10.Width, .int .i64 (Int.tdiv (x13.1 + (1 : Int)) (2 : Int)), .int .i64 v10.Label.K, .bool v10.Back, .int .i64 v10.Ink, .int .i64 v10.Part]⟩), (2, ⟨0, true, 48, 6, [.int .i64 v9.Width, .int .i64 v9.Label.N, .int .i64 v9.Label.K, .bool v9.Back, .int .i64 v9.Ink, .int .i64 v9.Part]⟩), (6, ⟨0, true, 48, 6, [.int .i64 v10.Width, .int .i64 v10.Label.N, .int .i64 v10.Label.K, .bool v10.Back, .int .i64 v10.Ink, .int .i64 v10.Part]⟩)] _
        refine OpsW.seg 0 [10, 8, 0, 2, 6] [] [(10, .int .i64 x13.2.1), (8, slA (eI .u8) (t0.drop ((v4 + (1 : Int)).toNat))), (0, slA (eI .u8) t0), (2, .ref 2 0 0), (6, .ref 6 0 0)] (by kernel_rfl) trivial ?_
        refine OpsW.recast (env' := [(10, .int .i64 x13.2.1), (8, slA (eI .u8) (t0.drop ((v4 + (1 : Int)).toNat))), (0, slA (eI .u8) t0), (2, .ref 2 0 0), (6, .ref 6 0 0)]) (h' := [(2, ⟨0, true, 48, 6, [.int .i64 v9.Width, .int .i64 v9.Label.N, .int .i64 v9.Label.K, .bool v9.Back, .int .i64 v9.Ink, .int .i64 v9.Part]⟩), (6, ⟨0, true, 48, 6, [.int .i64 v10.Width, .int .i64 (Int.tdiv (x13.1 + (1 : Int)) (2 : Int)), .int .i64 v10.Label.K, .bool ((Int.tmod x13.1 (2 : Int)) == (0 : Int)), .int .i64 v10.Ink, .int .i64 v10.Part]⟩)]) (StC.mk (phi [(2, some 2), (6, some 6)]) (.old rfl rfl rfl rfl rfl (.cons .im (.cons .im (.cons .im (.cons .im (.cons .im (.cons .im .nil)))))) (.old rfl rfl rfl rfl rfl (.cons .im (.cons .im (.cons .im (.cons .im (.cons .im (.cons .im .nil)))))) .nil)) rfl (.cons .im (.cons .im (.cons .im (.cons (.ref rfl rfl rfl rfl rfl) (.cons (.ref rfl rfl rfl rfl rfl) .nil)))))) ?_
        refine OpsW.nil ?_
        refine AW.joinK (fun (y : S_Header × S_Header) => f_number_ReadHeader_k1 t0 y.1 y.2) r (fun (y : S_Header × S_Header) => [(0, slA (eI .u8) t0), (2, .ref 2 0 0), (6, .ref 6 0 0)]) (fun (y : S_Header × S_Header) => [(2, ⟨0, true, 48, 6, [.int .i64 y.1.Width, .int .i64 y.1.Label.N, .int .i64 y.1.Label.K, .bool y.1.Back, .int .i64 y.1.Ink, .int .i64 y.1.Part]⟩), (6, ⟨0, true, 48, 6, [.int .i64 y.2.Width, .int .i64 y.2.Label.N, .int .i64 y.2.Label.K, .bool y.2.Back, .int .i64 y.2.Ink, .int .i64 y.2.Part]⟩)]) ?_ ?_
        · refine AW.regionSeq ?_
          refine OpsW.seg 2 [81, 80, 8, 0, 2, 6] [] [(81, .int .i64 x13.2.1), (80, slA (eI .u8) (t0.drop ((v4 + (1 : Int)).toNat))), (8, slA (eI .u8) (t0.drop ((v4 + (1 : Int)).toNat))), (0, slA (eI .u8) t0), (2, .ref 2 0 0), (6, .ref 6 0 0)] (by kernel_rfl) trivial ?_
          obtain ⟨g21, H⟩ := G_some H
          refine OpsW.asU (slA (eI .u8) ((t0.drop ((v4 + (1 : Int)).toNat)).drop x13.2.1.toNat)) rfl rfl (T.slice' rfl trivial trivial trivial (by kernel_rfl) (by kernel_rfl) trivial g21 (sl_lo (eI .u8) 1 (fun _ => rfl) (t0.drop ((v4 + (1 : Int)).toNat)) x13.2.1 g21)) ?_
          refine OpsW.seg 1 [8, 0, 2, 6] [] [(8, slA (eI .u8) ((t0.drop ((v4 + (1 : Int)).toNat)).drop x13.2.1.toNat)), (0, slA (eI .u8) t0), (2, .ref 2 0 0), (6, .ref 6 0 0)] (by kernel_rfl) trivial ?_
          refine OpsW.nil ?_
          refine AW.regionSeq ?_
          refine OpsW.seg 3 [85, 8, 0, 2, 6] [] [(85, .bool ((((t0.drop ((v4 + (1 : Int)).toNat)).drop x13.2.1.toNat).length : Int) == (2 : Int))), (8, slA (eI .u8) ((t0.drop ((v4 + (1 : Int)).toNat)).drop x13.2.1.toNat)), (0, slA (eI .u8) t0), (2, .ref 2 0 0), (6, .ref 6 0 0)] (by kernel_rfl) trivial ?_
          refine OpsW.nil ?_
          refine AW.cond (b := (((t0.drop ((v4 + (1 : Int)).toNat)).drop x13.2.1.toNat).length : Int) == (2 : Int)) rfl (fun c22 => ?_) (fun c22 => ?_)
          · replace H := condT c22 H
            refine AW.region ?_
            obtain ⟨g23, H⟩ := G_some H
            refine OpsW.seg 2 [87, 0, 2, 6] [0 ≤ (1 : Int) ∧ (1 : Int) < (((t0.drop ((v4 + (1 : Int)).toNat)).drop x13.2.1.toNat).length : Int)] [(87, .ipt (((t0.drop ((v4 + (1 : Int)).toNat)).drop x13.2.1.toNat).flatMap (eI .u8)) ((1 : Int).toNat * 1)), (0, slA (eI .u8) t0), (2, .ref 2 0 0), (6, .ref 6 0 0)] (by kernel_rfl) ⟨g23, trivial⟩ ?_
            refine OpsW.asU (.int .u8 (((t0.drop ((v4 + (1 : Int)).toNat)).drop x13.2.1.toNat).getD (1 : Int).toNat (0 : Int))) rfl rfl (T.load rfl trivial (by kernel_rfl) (fm_cell0 (eI .u8) 1 (fun _ => rfl) ((t0.drop ((v4 + (1 : Int)).toNat)).drop x13.2.1.toNat) (0 : Int) (1 : Int).toNat (ltN g23) (fun a => .val (.int .u8 a)) (fun _ => rfl))) ?_
            obtain ⟨x24, hx24, H⟩ := bindS H
            refine OpsW.qcall rfl (by kernel_rfl) rfl rfl (glAll_sound trivial) (.cons (.pur rfl) .nil) (f_number_letter_ok hx24) rfl ?_
            refine OpsW.seg 2 [91, 89, 0, 2, 6] [] [(91, .ref 6 0 2), (89, .int .i64 x24), (0, slA (eI .u8) t0), (2, .ref 2 0 0), (6, .ref 6 0 0)] (by kernel_rfl) trivial ?_
            refine OpsW.store rfl rfl rfl rfl trivial trivial rfl rfl rfl (by kernel_rfl) (okCb_sound (by kernel_rfl)) (Nat.le_of_ble_eq_true (by kernel_rfl)) ?_
            change OpsW _ _ _ _ _ [(6, ⟨0, true, 48, 6, [.int .i64 v10.Width, .int .i64 (Int.tdiv (x13.1 + (1 : Int)) (2 : Int)), .int .i64 x24, .bool ((Int.tmod x13.1 (2 : Int)) == (0 : Int)), .int .i64 v10.Ink, .int .i64 v10.Part]⟩), (2, ⟨0, true, 48, 6, [.int .i64 v9.Width, .int .i64 v9.Label.N, .int .i64 v9.Label.K, .bool v9.Back, .int .i64 v9.Ink, .int .i64 v9.Part]⟩), (6, ⟨0, true, 48, 6, [.int .i64 v10.Width, .int .i64 (Int.tdiv (x13.1 + (1 : Int)) (2 : Int)), .int .i64 v10.Label.K, .bool ((Int.tmod x13.1 (2 : Int)) == (0 : Int)), .int .i64 v10.Ink, .int .i64 v10.Part]⟩)] _
            refine OpsW.seg 0 [0, 2, 6] [] [(0, slA (eI .u8) t0), (2, .ref 2 0 0), (6, .ref 6 0 0)] (by kernel_rfl) trivial ?_
            refine OpsW.recast (env' := [(0, slA (eI .u8) t0), (2, .ref 2 0 0), (6, .ref 6 0 0)]) (h' := [(2, ⟨0, true, 48, 6, [.int .i64 v9.Width, .int .i64 v9.Label.N, .int .i64 v9.Label.K, .bool v9.Back, .int .i64 v9.Ink, .int .i64 v9.Part]⟩), (6, ⟨0, true, 48, 6, [.int .i64 v10.Width, .int .i64 (Int.tdiv (x13.1 + (1 : Int)) (2 : Int)), .int .i64 x24, .bool ((Int.tmod x13.1 (2 : Int)) == (0 : Int)), .int .i64 v10.Ink, .int .i64 v10.Part]⟩)]) (StC.mk (phi [(2, some 2), (6, some 6)]) (.old rfl rfl rfl rfl rfl (.cons .im (.cons .im (.cons .im (.cons .im (.cons .im (.cons .im .nil)))))) (.old rfl rfl rfl rfl rfl (.cons .im (.cons .im (.cons .im (.cons .im (.cons .im (.cons .im .nil)))))) .nil)) rfl (.cons .im (.cons (.ref rfl rfl rfl rfl rfl) (.cons (.ref rfl rfl rfl rfl rfl) .nil)))) ?_
            refine OpsW.nil ?_
            show ∃ y, _ ∧ StC _ _ _ _
            exact ⟨(v9, (⟨v10.Width, (⟨Int.tdiv (x13.1 + (1 : Int)) (2 : Int), x24⟩ : S_Label), (Int.tmod x13.1 (2 : Int)) == (0 : Int), v10.Ink, v10.Part⟩ : S_Header)), H, (StC.mk (phi [(2, some 2), (6, some 6)]) (.old rfl rfl rfl rfl rfl (.cons .im (.cons .im (.cons .im (.cons .im (.cons .im (.cons .im .nil)))))) (.old rfl rfl rfl rfl rfl (.cons .im (.cons .im (.cons .im (.cons .im (.cons .im (.cons .im .nil)))))) .nil)) rfl (.cons .im (.cons (.ref rfl rfl rfl rfl rfl) (.cons (.ref rfl rfl rfl rfl rfl) .nil))))⟩
          · replace H := condF c22 H
            refine AW.skip ?_
            show ∃ y, _ ∧ StC _ _ _ _
            exact ⟨(v9, (⟨v10.Width, (⟨Int.tdiv (x13.1 + (1 : Int)) (2 : Int), v10.Label.K⟩ : S_Label), (Int.tmod x13.1 (2 : Int)) == (0 : Int), v10.Ink, v10.Part⟩ : S_Header)), H, (StC.mk (phi [(2, some 2), (6, some 6)]) (.old rfl rfl rfl rfl rfl (.cons .im (.cons .im (.cons .im (.cons .im (.cons .im (.cons .im .nil)))))) (.old rfl rfl rfl rfl rfl (.cons .im (.cons .im (.cons .im (.cons .im (.cons .im (.cons .im .nil)))))) .nil)) rfl (.cons .im (.cons (.ref rfl rfl rfl rfl rfl) (.cons (.ref rfl rfl rfl rfl rfl) .nil))))⟩
        · rintro ⟨v16, v17⟩ H
          change f_number_ReadHeader_k1 t0 v16 v17 = some r at H
          unfold f_number_ReadHeader_k1 at H
          change AW _ _ _ [(0, slA (eI .u8) t0), (2, .ref 2 0 0), (6, .ref 6 0 0)] [(2, ⟨0, true, 48, 6, [.int .i64 v16.Width, .int .i64 v16.Label.N, .int .i64 v16.Label.K, .bool v16.Back, .int .i64 v16.Ink, .int .i64 v16.Part]⟩), (6, ⟨0, true, 48, 6, [.int .i64 v17.Width, .int .i64 v17.Label.N, .int .i64 v17.Label.K, .bool v17.Back, .int .i64 v17.Ink, .int .i64 v17.Part]⟩)] _
          refine AW.seq ?_
          refine AW.regionSeq ?_
          refine OpsW.seg 1 [93, 0, 2, 6] [] [(93, .agg [.int .i64 v17.Width, .int .i64 v17.Label.N, .int .i64 v17.Label.K, .bool v17.Back, .int .i64 v17.Ink, .int .i64 v17.Part]), (0, slA (eI .u8) t0), (2, .ref 2 0 0), (6, .ref 6 0 0)] (by kernel_rfl) trivial ?_
          obtain ⟨x18, hx18, H⟩ := bindS H
          refine OpsW.qcall rfl (by kernel_rfl) rfl rfl (glAll_sound trivial) (.cons (.pur rfl) .nil) (f_number_Header_ok hx18) rfl ?_
          refine OpsW.seg 5 [13, 12, 0, 2, 6] [] [(13, .int .i64 x18.2), (12, slA (eI .u8) x18.1), (0, slA (eI .u8) t0), (2, .ref 2 0 0), (6, .ref 6 0 0)] (by kernel_rfl) trivial ?_
          refine OpsW.nil ?_
          refine AW.regionSeq ?_
          refine OpsW.seg 5 [101, 100, 99, 2, 6] [] [(101, .cnd (!(x18.2 != (0 : Int))) (slA (eI .u8) t0)), (100, .cnd (!(x18.2 != (0 : Int))) (slA (eI .u8) x18.1)), (99, .bool (x18.2 != (0 : Int))), (2, .ref 2 0 0), (6, .ref 6 0 0)] (by kernel_rfl) trivial ?_
          obtain ⟨x19, hx19, H⟩ := bindS H
          refine OpsW.gcall (c := !(x18.2 != (0 : Int))) (r := .bool x19) [] rfl (by kernel_rfl) rfl rfl rfl rfl (fun hc => ⟨glAll_sound ⟨hc, hc, trivial⟩, (.cons (.pur rfl) (.cons (.pur rfl) .nil)), f_slices_Equal_api_Cell_ok (condT hc hx19), .inl ⟨rfl, rfl⟩⟩) ?_
          refine OpsW.seg 2 [104, 2, 6] [(!(x18.2 != (0 : Int))) = true → (!(x18.2 != (0 : Int))) = true, (x18.2 != (0 : Int)) = false → (!(x18.2 != (0 : Int))) = true] [(104, .bool (cond (x18.2 != (0 : Int)) true (!x19))), (2, .ref 2 0 0), (6, .ref 6 0 0)] (by kernel_rfl) ⟨(fun h => h), (fun h => by first | exact h | simpa using h), trivial⟩ ?_
          refine OpsW.nil ?_
          refine AW.cond (b := cond (x18.2 != (0 : Int)) true (!x19)) rfl (fun c20 => ?_) (fun c20 => ?_)
          · replace H := condT c20 H
            refine AW.regionSeq ?_
            refine OpsW.seg 1 [105, 2] [] [(105, .agg [.int .i64 (0 : Int), .int .i64 (0 : Int), .int .i64 (0 : Int), .bool false, .int .i64 (0 : Int), .int .i64 (0 : Int)]), (2, .ref 2 0 0)] (by kernel_rfl) trivial ?_
            refine OpsW.store rfl rfl rfl rfl trivial trivial rfl rfl rfl (by kernel_rfl) (okCb_sound (by kernel_rfl)) (Nat.le_of_ble_eq_true (by kernel_rfl)) ?_
            change OpsW _ _ _ _ _ [(2, ⟨0, true, 48, 6, [.int .i64 (0 : Int), .int .i64 (0 : Int), .int .i64 (0 : Int), .bool false, .int .i64 (0 : Int), .int .i64 (0 : Int)]⟩), (2, ⟨0, true, 48, 6, [.int .i64 v16.Width, .int .i64 v16.Label.N, .int .i64 v16.Label.K, .bool v16.Back, .int .i64 v16.Ink, .int .i64 v16.Part]⟩), (6, ⟨0, true, 48, 6, [.int .i64 v17.Width, .int .i64 v17.Label.N, .int .i64 v17.Label.K, .bool v17.Back, .int .i64 v17.Ink, .int .i64 v17.Part]⟩)] _
            refine OpsW.seg 1 [3, 2] [] [(3, .int .i64 (190 : Int)), (2, .ref 2 0 0)] (by kernel_rfl) trivial ?_
            refine OpsW.recast (env' := [(3, .int .i64 (190 : Int)), (2, .ref 2 0 0)]) (h' := [(2, ⟨0, true, 48, 6, [.int .i64 (0 : Int), .int .i64 (0 : Int), .int .i64 (0 : Int), .bool false, .int .i64 (0 : Int), .int .i64 (0 : Int)]⟩)]) (StC.mk (phi [(2, some 2)]) (.old rfl rfl rfl rfl rfl (.cons .im (.cons .im (.cons .im (.cons .im (.cons .im (.cons .im .nil)))))) .nil) rfl (.cons .im (.cons (.ref rfl rfl rfl rfl rfl) .nil))) ?_
            refine OpsW.nil ?_
            obtain rfl := Option.some.inj H
            refine AW.recast (env' := [(2, .ref 2 0 0), (3, .int .i64 (190 : Int))]) (h' := [(2, ⟨0, true, 48, 6, [.int .i64 (0 : Int), .int .i64 (0 : Int), .int .i64 (0 : Int), .bool false, .int .i64 (0 : Int), .int .i64 (0 : Int)]⟩)]) (StC.mk (phi [(2, some 2)]) (.old rfl rfl rfl rfl rfl (.cons .im (.cons .im (.cons .im (.cons .im (.cons .im (.cons .im .nil)))))) .nil) rfl (.cons (.ref rfl rfl rfl rfl rfl) (.cons .im .nil))) ?_
            refine AW.ret ?_
            try simp only [Ex.then, Ex.inBlock, Ex.noGoto, Ex.jump, reduceIte, Nat.reduceEqDiff, reduceCtorEq]
            refine Done.gen rfl (.cell rfl (by kernel_rfl) (.tmp .nil)) ?_
            show _ = _
            kernel_rfl
          · replace H := condF c20 H
            refine AW.skip ?_
            refine AW.regionSeq ?_
            refine OpsW.seg 1 [106, 2] [] [(106, .agg [.int .i64 v17.Width, .int .i64 v17.Label.N, .int .i64 v17.Label.K, .bool v17.Back, .int .i64 v17.Ink, .int .i64 v17.Part]), (2, .ref 2 0 0)] (by kernel_rfl) trivial ?_
            refine OpsW.store rfl rfl rfl rfl trivial trivial rfl rfl rfl (by kernel_rfl) (okCb_sound (by kernel_rfl)) (Nat.le_of_ble_eq_true (by kernel_rfl)) ?_
            change OpsW _ _ _ _ _ [(2, ⟨0, true, 48, 6, [.int .i64 v17.Width, .int .i64 v17.Label.N, .int .i64 v17.Label.K, .bool v17.Back, .int .i64 v17.Ink, .int .i64 v17.Part]⟩), (2, ⟨0, true, 48, 6, [.int .i64 v16.Width, .int .i64 v16.Label.N, .int .i64 v16.Label.K, .bool v16.Back, .int .i64 v16.Ink, .int .i64 v16.Part]⟩), (6, ⟨0, true, 48, 6, [.int .i64 v17.Width, .int .i64 v17.Label.N, .int .i64 v17.Label.K, .bool v17.Back, .int .i64 v17.Ink, .int .i64 v17.Part]⟩)] _
            refine OpsW.seg 1 [3, 2] [] [(3, .int .i64 (0 : Int)), (2, .ref 2 0 0)] (by kernel_rfl) trivial ?_
            refine OpsW.recast (env' := [(3, .int .i64 (0 : Int)), (2, .ref 2 0 0)]) (h' := [(2, ⟨0, true, 48, 6, [.int .i64 v17.Width, .int .i64 v17.Label.N, .int .i64 v17.Label.K, .bool v17.Back, .int .i64 v17.Ink, .int .i64 v17.Part]⟩)]) (StC.mk (phi [(2, some 2)]) (.old rfl rfl rfl rfl rfl (.cons .im (.cons .im (.cons .im (.cons .im (.cons .im (.cons .im .nil)))))) .nil) rfl (.cons .im (.cons (.ref rfl rfl rfl rfl rfl) .nil))) ?_
            refine OpsW.nil ?_
            obtain rfl := Option.some.inj H
            refine AW.recast (env' := [(2, .ref 2 0 0), (3, .int .i64 (0 : Int))]) (h' := [(2, ⟨0, true, 48, 6, [.int .i64 v17.Width, .int .i64 v17.Label.N, .int .i64 v17.Label.K, .bool v17.Back, .int .i64 v17.Ink, .int .i64 v17.Part]⟩)]) (StC.mk (phi [(2, some 2)]) (.old rfl rfl rfl rfl rfl (.cons .im (.cons .im (.cons .im (.cons .im (.cons .im (.cons .im .nil)))))) .nil) rfl (.cons (.ref rfl rfl rfl rfl rfl) (.cons .im .nil))) ?_
            refine AW.ret ?_
            try simp only [Ex.then, Ex.inBlock, Ex.noGoto, Ex.jump, reduceIte, Nat.reduceEqDiff, reduceCtorEq]
            refine Done.gen rfl (.cell rfl (by kernel_rfl) (.tmp .nil)) ?_
            show _ = _
            kernel_rfl
end Go.Proofs.YtlcoabpgknpaoaaDoor
