/-
  Written by gen.py (own work): typed functions, and that the program computes them.
-/
import Derived.Test.YtdegmbjhedfffaaDoorW1
set_option linter.unusedSimpArgs false
set_option linter.unusedVariables false
set_option maxRecDepth 100000
namespace Go.Proofs.YtdegmbjhedfffaaDoor
open Go.Abs
def f_note_Strip_b1 (loop5 : ((List Int) × (List Int)) → Option ((List Int) × (List Int) × Int)) (v3 : List Int) (v4 : List Int) (loop8 : (Int) → Option ((List Int) × (List Int) × Int)) (v7 : Int) : Option ((List Int) × (List Int) × Int) :=
  G ((decide ((0 : Int) ≤ v7)) = true → (0 ≤ v7 ∧ v7 < (v3.length : Int))) <|
  cond (cond (decide ((0 : Int) ≤ v7)) ((v3.getD v7.toNat (0 : Int)) != (0 : Int)) false) (
    G (inR (v7 - (1 : Int))) <|
    loop8 (v7 - (1 : Int))) (
    G (inR (v7 + (1 : Int))) <|
    G (0 ≤ (v7 + (1 : Int)) ∧ (v7 + (1 : Int)) ≤ (v3.length : Int)) <|
    G (0 ≤ (0 : Int) ∧ (0 : Int) < ((v3.drop ((v7 + (1 : Int)).toNat)).length : Int)) <|
    cond (((v3.drop ((v7 + (1 : Int)).toNat)).getD (0 : Int).toNat (0 : Int)) != (63 : Int)) (
      (f_slices_Contains_api_Cell v3 (63 : Int)).bind fun x16 =>
      cond x16 (
        some ([], [], (220 : Int))) (
        (f_slices_Clone_api_Cell v3).bind fun x18 =>
        some (x18, v4.reverse, (0 : Int)))) (
      G (0 ≤ (1 : Int) ∧ (1 : Int) ≤ ((v3.drop ((v7 + (1 : Int)).toNat)).length : Int)) <|
      (f_number_Read ((v3.drop ((v7 + (1 : Int)).toNat)).drop ((1 : Int).toNat))).bind fun x20 =>
      G ((!(cond (decide (v7 < (0 : Int))) true (x20.2.2 != (0 : Int)))) = true → inR (((v3.drop ((v7 + (1 : Int)).toNat)).length : Int) - (1 : Int))) <|
      cond (cond (cond (cond (decide (v7 < (0 : Int))) true (x20.2.2 != (0 : Int))) true (x20.2.1 != (((v3.drop ((v7 + (1 : Int)).toNat)).length : Int) - (1 : Int)))) true (decide (x20.1 < (1 : Int)))) (
        some ([], [], (220 : Int))) (
        G ((decide ((0 : Int) < (v4.length : Int))) = true → inR (x20.1 + (1 : Int))) <|
        G ((decide ((0 : Int) < (v4.length : Int))) = true → inR ((v4.length : Int) - (1 : Int))) <|
        G ((decide ((0 : Int) < (v4.length : Int))) = true → (0 ≤ ((v4.length : Int) - (1 : Int)) ∧ ((v4.length : Int) - (1 : Int)) < (v4.length : Int))) <|
        cond (cond (decide ((0 : Int) < (v4.length : Int))) ((x20.1 + (1 : Int)) != (v4.getD ((v4.length : Int) - (1 : Int)).toNat (0 : Int))) false) (
          some ([], [], (220 : Int))) (
          G (room 8 (v4.length + 1)) <|
          G (0 ≤ v7 ∧ v7 ≤ (v3.length : Int)) <|
          loop5 (v3.take v7.toNat, v4 ++ [x20.1])))))
def f_note_Strip_b2 (loop5 : ((List Int) × (List Int)) → Option ((List Int) × (List Int) × Int)) (v3 : List Int) (v4 : List Int) : Option ((List Int) × (List Int) × Int) :=
  G (inR ((v3.length : Int) - (1 : Int))) <|
  iter (fun loop (s : Int) => f_note_Strip_b1 loop5 v3 v4 loop s) 1000000 ((v3.length : Int) - (1 : Int))
def f_note_Strip_k1 (v1 : List Int) (v2 : List Int) : Option ((List Int) × (List Int) × Int) :=
  iter (fun loop (s : (List Int) × (List Int)) => f_note_Strip_b2 loop s.1 s.2) 1000000 (v1, v2)
def f_note_Strip_b3 (loop33 : ((List Int) × (List Int)) → Option ((List Int) × (List Int) × Int)) (v31 : List Int) (v32 : List Int) (loop36 : (Int) → Option ((List Int) × (List Int) × Int)) (v35 : Int) : Option ((List Int) × (List Int) × Int) :=
  G ((decide ((0 : Int) ≤ v35)) = true → (0 ≤ v35 ∧ v35 < (v31.length : Int))) <|
  cond (cond (decide ((0 : Int) ≤ v35)) ((v31.getD v35.toNat (0 : Int)) != (0 : Int)) false) (
    G (inR (v35 - (1 : Int))) <|
    loop36 (v35 - (1 : Int))) (
    G (inR (v35 + (1 : Int))) <|
    G (0 ≤ (v35 + (1 : Int)) ∧ (v35 + (1 : Int)) ≤ (v31.length : Int)) <|
    G (0 ≤ (0 : Int) ∧ (0 : Int) < ((v31.drop ((v35 + (1 : Int)).toNat)).length : Int)) <|
    cond (((v31.drop ((v35 + (1 : Int)).toNat)).getD (0 : Int).toNat (0 : Int)) != (63 : Int)) (
      (f_slices_Contains_api_Cell v31 (63 : Int)).bind fun x44 =>
      cond x44 (
        some ([], [], (220 : Int))) (
        (f_slices_Clone_api_Cell v31).bind fun x46 =>
        some (x46, v32.reverse, (0 : Int)))) (
      G (0 ≤ (1 : Int) ∧ (1 : Int) ≤ ((v31.drop ((v35 + (1 : Int)).toNat)).length : Int)) <|
      (f_number_Read ((v31.drop ((v35 + (1 : Int)).toNat)).drop ((1 : Int).toNat))).bind fun x48 =>
      G ((!(cond (decide (v35 < (0 : Int))) true (x48.2.2 != (0 : Int)))) = true → inR (((v31.drop ((v35 + (1 : Int)).toNat)).length : Int) - (1 : Int))) <|
      cond (cond (cond (cond (decide (v35 < (0 : Int))) true (x48.2.2 != (0 : Int))) true (x48.2.1 != (((v31.drop ((v35 + (1 : Int)).toNat)).length : Int) - (1 : Int)))) true (decide (x48.1 < (1 : Int)))) (
        some ([], [], (220 : Int))) (
        G ((decide ((0 : Int) < (v32.length : Int))) = true → inR (x48.1 + (1 : Int))) <|
        G ((decide ((0 : Int) < (v32.length : Int))) = true → inR ((v32.length : Int) - (1 : Int))) <|
        G ((decide ((0 : Int) < (v32.length : Int))) = true → (0 ≤ ((v32.length : Int) - (1 : Int)) ∧ ((v32.length : Int) - (1 : Int)) < (v32.length : Int))) <|
        cond (cond (decide ((0 : Int) < (v32.length : Int))) ((x48.1 + (1 : Int)) != (v32.getD ((v32.length : Int) - (1 : Int)).toNat (0 : Int))) false) (
          some ([], [], (220 : Int))) (
          G (room 8 (v32.length + 1)) <|
          G (0 ≤ v35 ∧ v35 ≤ (v31.length : Int)) <|
          loop33 (v31.take v35.toNat, v32 ++ [x48.1])))))
def f_note_Strip_b4 (loop33 : ((List Int) × (List Int)) → Option ((List Int) × (List Int) × Int)) (v31 : List Int) (v32 : List Int) : Option ((List Int) × (List Int) × Int) :=
  G (inR ((v31.length : Int) - (1 : Int))) <|
  iter (fun loop (s : Int) => f_note_Strip_b3 loop33 v31 v32 loop s) 1000000 ((v31.length : Int) - (1 : Int))
def f_note_Strip (t0 : List Int) : Option ((List Int) × (List Int) × Int) :=
  (f_line_Clean t0).bind fun x29 =>
  cond (!x29.2) (
    some ([], [], (180 : Int))) (
    iter (fun loop (s : (List Int) × (List Int)) => f_note_Strip_b4 loop s.1 s.2) 1000000 (t0, []))
theorem f_note_Strip_ok {t0 : List Int} {r : (List Int) × (List Int) × Int} (H : f_note_Strip t0 = some r) : QSpec Tryd.prog 18 [slA (eI .u8) t0] (.tup [slA (eI .u8) r.1, slA (eI .i64) r.2.1, .int .i64 r.2.2]) := by
  refine Spec.of_AW Tryd.func18 rfl (by simp [Tryd.ntmps18]) ?_
  rw [Tryd.ntmps18]
  unfold f_note_Strip at H
  change AW _ _ _ [(0, slA (eI .u8) t0)] [] _
  refine AW.regionSeq ?_
  refine OpsW.seg 3 [0] [] [(0, slA (eI .u8) t0)] (by kernel_rfl) trivial ?_
  refine OpsW.nil ?_
  refine AW.scopeK 0 (fun (y : (List Int) × (List Int)) => f_note_Strip_k1 y.1 y.2) r (fun (y : (List Int) × (List Int)) => [(7, slA (eI .u8) y.1), (8, .rsl 8 0 0 y.2.length)]) (fun (y : (List Int) × (List Int)) => [(8, rtA 0 3 1 (eI .i64) y.2)]) rfl ?_ ?_
  · refine AW.seq ?_
    refine AW.regionSeq ?_
    refine OpsW.seg 1 [15, 0] [] [(15, slA (eI .u8) t0), (0, slA (eI .u8) t0)] (by kernel_rfl) trivial ?_
    obtain ⟨x29, hx29, H⟩ := bindS H
    refine OpsW.qcall rfl (by kernel_rfl) rfl rfl (glAll_sound trivial) (.cons (.pur rfl) .nil) (f_line_Clean_ok hx29) rfl ?_
    refine OpsW.seg 5 [6, 0] [] [(6, .bool x29.2), (0, slA (eI .u8) t0)] (by kernel_rfl) trivial ?_
    refine OpsW.nil ?_
    refine AW.regionSeq ?_
    refine OpsW.seg 2 [20, 0] [] [(20, .bool (!x29.2)), (0, slA (eI .u8) t0)] (by kernel_rfl) trivial ?_
    refine OpsW.nil ?_
    refine AW.cond (b := !x29.2) rfl (fun c30 => ?_) (fun c30 => ?_)
    · replace H := condT c30 H
      refine AW.regionSeq ?_
      refine OpsW.seg 3 [4, 3, 2] [] [(4, .int .i64 (180 : Int)), (3, .im (.val (.slice none 0 0))), (2, .im (.val (.slice none 0 0)))] (by kernel_rfl) trivial ?_
      refine OpsW.nil ?_
      obtain rfl := Option.some.inj H
      refine AW.recast (env' := [(2, slA (eI .u8) []), (3, slA (eI .i64) []), (4, .int .i64 (180 : Int))]) (h' := []) (StC.pure (.cons .nil (.cons .nil (.cons .im .nil)))) ?_
      refine AW.ret ?_
      try simp only [Ex.then, Ex.inBlock, Ex.noGoto, Ex.jump, reduceIte, Nat.reduceEqDiff, reduceCtorEq]
      refine Done.gen rfl (.tmp (.tmp (.tmp .nil))) ?_
      show _ = _
      kernel_rfl
    · replace H := condF c30 H
      refine AW.skip ?_
      refine AW.regionSeq ?_
      refine OpsW.seg 2 [7] [] [(7, slA (eI .u8) t0)] (by kernel_rfl) trivial ?_
      refine OpsW.nil ?_
      refine AW.regionSeq ?_
      refine OpsW.seg 1 [8, 7] [] [(8, .im (.val (.slice none 0 0))), (7, slA (eI .u8) t0)] (by kernel_rfl) trivial ?_
      refine OpsW.nil ?_
      refine AW.labelSeq ?_
      refine AW.seq ?_
      refine AW.block ?_
      refine AW.iterK (fun loop (s : (List Int) × (List Int)) => f_note_Strip_b4 loop s.1 s.2) r (fun (s : (List Int) × (List Int)) => [(7, slA (eI .u8) s.1), (8, .rsl 8 0 0 s.2.length)]) (fun (s : (List Int) × (List Int)) => [(8, rtA 0 3 1 (eI .i64) s.2)]) ?_ 1000000 (t0, []) H (StC.mk (phi [(8, none)]) (.new rfl .nil) rfl (.cons .im (.cons (.nilr rfl rfl rfl) .nil)))
      intro loop33 s H
      obtain ⟨v31, v32⟩ := s
      change f_note_Strip_b4 loop33 v31 v32 = some r at H
      unfold f_note_Strip_b4 at H
      change AW _ _ _ [(7, slA (eI .u8) v31), (8, .rsl 8 0 0 v32.length)] [(8, rtA 0 3 1 (eI .i64) v32)] _
      refine AW.block ?_
      refine AW.regionSeq ?_
      obtain ⟨g34, H⟩ := G_some H
      refine OpsW.seg 4 [9, 7, 8] [inR ((v31.length : Int) - (1 : Int))] [(9, .int .i64 ((v31.length : Int) - (1 : Int))), (7, slA (eI .u8) v31), (8, .rsl 8 0 0 v32.length)] (by kernel_rfl) ⟨g34, trivial⟩ ?_
      refine OpsW.nil ?_
      refine AW.seq ?_
      refine AW.block ?_
      refine AW.iterK (fun loop (s : Int) => f_note_Strip_b3 loop33 v31 v32 loop s) r (fun (s : Int) => [(7, slA (eI .u8) v31), (8, .rsl 8 0 0 v32.length), (9, .int .i64 s)]) (fun (s : Int) => [(8, rtA 0 3 1 (eI .i64) v32)]) ?_ 1000000 ((v31.length : Int) - (1 : Int)) H (StC.mk (phi [(8, some 8)]) (.old rfl rfl rfl rfl rfl (CstL.ims _) .nil) rfl (.cons .im (.cons (.rsl rfl rfl rfl rfl rfl rfl) (.cons .im .nil))))
      intro loop36 v35 H
      change f_note_Strip_b3 loop33 v31 v32 loop36 v35 = some r at H
      unfold f_note_Strip_b3 at H
      change AW _ _ _ [(7, slA (eI .u8) v31), (8, .rsl 8 0 0 v32.length), (9, .int .i64 v35)] [(8, rtA 0 3 1 (eI .i64) v32)] _
      refine AW.seq ?_
      refine AW.regionSeq ?_
      obtain ⟨g37, H⟩ := G_some H
      refine OpsW.seg 6 [30, 27, 7, 8, 9] [(decide ((0 : Int) ≤ v35)) = true → (decide ((0 : Int) ≤ v35)) = true, (decide ((0 : Int) ≤ v35)) = true → (decide ((0 : Int) ≤ v35)) = true, (decide ((0 : Int) ≤ v35)) = true → (0 ≤ v35 ∧ v35 < (v31.length : Int))] [(30, .cnd (decide ((0 : Int) ≤ v35)) (.ipt (v31.flatMap (eI .u8)) (v35.toNat * 1))), (27, .bool (decide ((0 : Int) ≤ v35))), (7, slA (eI .u8) v31), (8, .rsl 8 0 0 v32.length), (9, .int .i64 v35)] (by kernel_rfl) ⟨(fun h => h), (fun h => h), g37, trivial⟩ ?_
      refine OpsW.asG (c := decide ((0 : Int) ≤ v35)) (.int .u8 (v31.getD v35.toNat (0 : Int))) rfl rfl rfl rfl (fun hc => T.load rfl hc (by kernel_rfl) (fm_cell0 (eI .u8) 1 (fun _ => rfl) v31 (0 : Int) v35.toNat (ltN (g37 hc)) (fun a => .val (.int .u8 a)) (fun _ => rfl))) ?_
      refine OpsW.seg 2 [33, 7, 8, 9] [(decide ((0 : Int) ≤ v35)) = true → (decide ((0 : Int) ≤ v35)) = true, (decide ((0 : Int) ≤ v35)) = true → (decide ((0 : Int) ≤ v35)) = true] [(33, .bool (cond (decide ((0 : Int) ≤ v35)) ((v31.getD v35.toNat (0 : Int)) != (0 : Int)) false)), (7, slA (eI .u8) v31), (8, .rsl 8 0 0 v32.length), (9, .int .i64 v35)] (by kernel_rfl) ⟨(fun h => h), (fun h => by first | exact h | simpa using h), trivial⟩ ?_
      refine OpsW.nil ?_
      refine AW.cond (b := cond (decide ((0 : Int) ≤ v35)) ((v31.getD v35.toNat (0 : Int)) != (0 : Int)) false) rfl (fun c38 => ?_) (fun c38 => ?_)
      · replace H := condT c38 H
        refine AW.skip ?_
        refine AW.block ?_
        refine AW.region ?_
        obtain ⟨g39, H⟩ := G_some H
        refine OpsW.seg 3 [9, 7, 8] [inR (v35 - (1 : Int))] [(9, .int .i64 (v35 - (1 : Int))), (7, slA (eI .u8) v31), (8, .rsl 8 0 0 v32.length)] (by kernel_rfl) ⟨g39, trivial⟩ ?_
        refine OpsW.nil ?_
        show ∃ y, _ ∧ StC _ _ _ _
        exact ⟨v35 - (1 : Int), H, (StC.mk (phi [(8, some 8)]) (.old rfl rfl rfl rfl rfl (CstL.ims _) .nil) rfl (.cons .im (.cons (.rsl rfl rfl rfl rfl rfl rfl) (.cons .im .nil))))⟩
      · replace H := condF c38 H
        refine AW.exit ?_
        refine AW.regionSeq ?_
        obtain ⟨g40, H⟩ := G_some H
        refine OpsW.seg 3 [38, 36, 7, 8, 9] [inR (v35 + (1 : Int))] [(38, .int .i64 (v35 + (1 : Int))), (36, slA (eI .u8) v31), (7, slA (eI .u8) v31), (8, .rsl 8 0 0 v32.length), (9, .int .i64 v35)] (by kernel_rfl) ⟨g40, trivial⟩ ?_
        obtain ⟨g41, H⟩ := G_some H
        refine OpsW.asU (slA (eI .u8) (v31.drop ((v35 + (1 : Int)).toNat))) rfl rfl (T.slice' rfl trivial trivial trivial (by kernel_rfl) (by kernel_rfl) trivial g41 (sl_lo (eI .u8) 1 (fun _ => rfl) v31 (v35 + (1 : Int)) g41)) ?_
        refine OpsW.seg 1 [10, 7, 8, 9] [] [(10, slA (eI .u8) (v31.drop ((v35 + (1 : Int)).toNat))), (7, slA (eI .u8) v31), (8, .rsl 8 0 0 v32.length), (9, .int .i64 v35)] (by kernel_rfl) trivial ?_
        refine OpsW.nil ?_
        refine AW.seq ?_
        refine AW.regionSeq ?_
        obtain ⟨g42, H⟩ := G_some H
        refine OpsW.seg 2 [41, 10, 7, 8, 9] [0 ≤ (0 : Int) ∧ (0 : Int) < ((v31.drop ((v35 + (1 : Int)).toNat)).length : Int)] [(41, .ipt ((v31.drop ((v35 + (1 : Int)).toNat)).flatMap (eI .u8)) ((0 : Int).toNat * 1)), (10, slA (eI .u8) (v31.drop ((v35 + (1 : Int)).toNat))), (7, slA (eI .u8) v31), (8, .rsl 8 0 0 v32.length), (9, .int .i64 v35)] (by kernel_rfl) ⟨g42, trivial⟩ ?_
        refine OpsW.asU (.int .u8 ((v31.drop ((v35 + (1 : Int)).toNat)).getD (0 : Int).toNat (0 : Int))) rfl rfl (T.load rfl trivial (by kernel_rfl) (fm_cell0 (eI .u8) 1 (fun _ => rfl) (v31.drop ((v35 + (1 : Int)).toNat)) (0 : Int) (0 : Int).toNat (ltN g42) (fun a => .val (.int .u8 a)) (fun _ => rfl))) ?_
        refine OpsW.seg 1 [43, 10, 7, 8, 9] [] [(43, .bool (((v31.drop ((v35 + (1 : Int)).toNat)).getD (0 : Int).toNat (0 : Int)) != (63 : Int))), (10, slA (eI .u8) (v31.drop ((v35 + (1 : Int)).toNat))), (7, slA (eI .u8) v31), (8, .rsl 8 0 0 v32.length), (9, .int .i64 v35)] (by kernel_rfl) trivial ?_
        refine OpsW.nil ?_
        refine AW.cond (b := ((v31.drop ((v35 + (1 : Int)).toNat)).getD (0 : Int).toNat (0 : Int)) != (63 : Int)) rfl (fun c43 => ?_) (fun c43 => ?_)
        · replace H := condT c43 H
          refine AW.exit ?_
          refine AW.seq ?_
          refine AW.regionSeq ?_
          refine OpsW.seg 1 [89, 7, 8] [] [(89, slA (eI .u8) v31), (7, slA (eI .u8) v31), (8, .rsl 8 0 0 v32.length)] (by kernel_rfl) trivial ?_
          obtain ⟨x44, hx44, H⟩ := bindS H
          refine OpsW.qcall rfl (by kernel_rfl) rfl rfl (glAll_sound trivial) (.cons (.pur rfl) (.cons (.pur rfl) .nil)) (f_slices_Contains_api_Cell_ok hx44) rfl ?_
          refine OpsW.seg 0 [90, 7, 8] [] [(90, .bool x44), (7, slA (eI .u8) v31), (8, .rsl 8 0 0 v32.length)] (by kernel_rfl) trivial ?_
          refine OpsW.nil ?_
          refine AW.cond (b := x44) rfl (fun c45 => ?_) (fun c45 => ?_)
          · replace H := condT c45 H
            refine AW.regionSeq ?_
            refine OpsW.seg 3 [4, 3, 2] [] [(4, .int .i64 (220 : Int)), (3, .im (.val (.slice none 0 0))), (2, .im (.val (.slice none 0 0)))] (by kernel_rfl) trivial ?_
            refine OpsW.nil ?_
            obtain rfl := Option.some.inj H
            refine AW.recast (env' := [(2, slA (eI .u8) []), (3, slA (eI .i64) []), (4, .int .i64 (220 : Int))]) (h' := []) (StC.pure (.cons .nil (.cons .nil (.cons .im .nil)))) ?_
            refine AW.ret ?_
            try simp only [Ex.then, Ex.inBlock, Ex.noGoto, Ex.jump, reduceIte, Nat.reduceEqDiff, reduceCtorEq]
            refine Done.gen rfl (.tmp (.tmp (.tmp .nil))) ?_
            show _ = _
            kernel_rfl
          · replace H := condF c45 H
            refine AW.skip ?_
            refine AW.regionSeq ?_
            refine OpsW.seg 1 [91, 7, 8] [] [(91, .rsl 8 0 0 v32.length), (7, slA (eI .u8) v31), (8, .rsl 8 0 0 v32.length)] (by kernel_rfl) trivial ?_
            refine OpsW.reverse (enc := (eI .i64)) (l := v32) rfl rfl rfl (by kernel_rfl) (turns_reverse Tryd.rev28) rfl rfl (fun _ => rfl) ?_
            change OpsW _ _ _ _ [(92, .any), (91, .rsl 8 0 0 v32.length), (7, slA (eI .u8) v31), (8, .rsl 8 0 0 v32.length)] [(8, rtA 0 3 1 (eI .i64) v32.reverse), (8, rtA 0 3 1 (eI .i64) v32)] _
            refine OpsW.weaken [(92, .any), (91, .rsl 8 0 0 ((v32.reverse).length)), (7, slA (eI .u8) v31), (8, .rsl 8 0 0 ((v32.reverse).length))] (Env.le_of_eq (by simp only [List.length_set, List.length_reverse])) ?_
            refine OpsW.seg 0 [7, 8] [] [(7, slA (eI .u8) v31), (8, .rsl 8 0 0 ((v32.reverse).length))] (by kernel_rfl) trivial ?_
            refine OpsW.recast (env' := [(7, slA (eI .u8) v31), (8, slA (eI .i64) v32.reverse)]) (h' := []) (StC.mk (phi []) .nil rfl (.cons .im (.cons (.frz rfl rfl rfl (frz_all (eI .i64) 1 (fun _ => rfl) v32.reverse) (fm_length (eI .i64) 1 (fun _ => rfl) v32.reverse) (phi_ne rfl)) .nil))) ?_
            refine OpsW.nil ?_
            refine AW.regionSeq ?_
            refine OpsW.seg 1 [93, 8] [] [(93, slA (eI .u8) v31), (8, slA (eI .i64) v32.reverse)] (by kernel_rfl) trivial ?_
            obtain ⟨x46, hx46, H⟩ := bindS H
            refine OpsW.qcall rfl (by kernel_rfl) rfl rfl (glAll_sound trivial) (.cons (.pur rfl) .nil) (f_slices_Clone_api_Cell_ok hx46) rfl ?_
            refine OpsW.seg 4 [4, 3, 2] [] [(4, .int .i64 (0 : Int)), (3, slA (eI .i64) v32.reverse), (2, slA (eI .u8) x46)] (by kernel_rfl) trivial ?_
            refine OpsW.nil ?_
            obtain rfl := Option.some.inj H
            refine AW.recast (env' := [(2, slA (eI .u8) x46), (3, slA (eI .i64) v32.reverse), (4, .int .i64 (0 : Int))]) (h' := []) (StC.pure (.cons .im (.cons .im (.cons .im .nil)))) ?_
            refine AW.ret ?_
            try simp only [Ex.then, Ex.inBlock, Ex.noGoto, Ex.jump, reduceIte, Nat.reduceEqDiff, reduceCtorEq]
            refine Done.gen rfl (.tmp (.tmp (.tmp .nil))) ?_
            show _ = _
            kernel_rfl
        · replace H := condF c43 H
          refine AW.skip ?_
          refine AW.regionSeq ?_
          refine OpsW.seg 1 [45, 10, 7, 8, 9] [] [(45, slA (eI .u8) (v31.drop ((v35 + (1 : Int)).toNat))), (10, slA (eI .u8) (v31.drop ((v35 + (1 : Int)).toNat))), (7, slA (eI .u8) v31), (8, .rsl 8 0 0 v32.length), (9, .int .i64 v35)] (by kernel_rfl) trivial ?_
          obtain ⟨g47, H⟩ := G_some H
          refine OpsW.asU (slA (eI .u8) ((v31.drop ((v35 + (1 : Int)).toNat)).drop ((1 : Int).toNat))) rfl rfl (T.slice' rfl trivial trivial trivial (by kernel_rfl) (by kernel_rfl) trivial g47 (sl_lo (eI .u8) 1 (fun _ => rfl) (v31.drop ((v35 + (1 : Int)).toNat)) (1 : Int) g47)) ?_
          obtain ⟨x48, hx48, H⟩ := bindS H
          refine OpsW.qcall rfl (by kernel_rfl) rfl rfl (glAll_sound trivial) (.cons (.pur rfl) .nil) (f_number_Read_ok hx48) rfl ?_
          refine OpsW.seg 7 [13, 12, 11, 10, 7, 8, 9] [] [(13, .int .i64 x48.2.2), (12, .int .i64 x48.2.1), (11, .int .i64 x48.1), (10, slA (eI .u8) (v31.drop ((v35 + (1 : Int)).toNat))), (7, slA (eI .u8) v31), (8, .rsl 8 0 0 v32.length), (9, .int .i64 v35)] (by kernel_rfl) trivial ?_
          refine OpsW.nil ?_
          refine AW.seq ?_
          refine AW.regionSeq ?_
          obtain ⟨g49, H⟩ := G_some H
          refine OpsW.seg 17 [67, 11, 7, 8, 9] [(!(decide (v35 < (0 : Int)))) = true → (!(decide (v35 < (0 : Int)))) = true, (decide (v35 < (0 : Int))) = false → (!(decide (v35 < (0 : Int)))) = true, (!(cond (decide (v35 < (0 : Int))) true (x48.2.2 != (0 : Int)))) = true → (!(cond (decide (v35 < (0 : Int))) true (x48.2.2 != (0 : Int)))) = true, (!(cond (decide (v35 < (0 : Int))) true (x48.2.2 != (0 : Int)))) = true → (!(cond (decide (v35 < (0 : Int))) true (x48.2.2 != (0 : Int)))) = true, (!(cond (decide (v35 < (0 : Int))) true (x48.2.2 != (0 : Int)))) = true → inR (((v31.drop ((v35 + (1 : Int)).toNat)).length : Int) - (1 : Int)), (!(cond (decide (v35 < (0 : Int))) true (x48.2.2 != (0 : Int)))) = true → (!(cond (decide (v35 < (0 : Int))) true (x48.2.2 != (0 : Int)))) = true, (!(cond (decide (v35 < (0 : Int))) true (x48.2.2 != (0 : Int)))) = true → (!(cond (decide (v35 < (0 : Int))) true (x48.2.2 != (0 : Int)))) = true, (cond (decide (v35 < (0 : Int))) true (x48.2.2 != (0 : Int))) = false → (!(cond (decide (v35 < (0 : Int))) true (x48.2.2 != (0 : Int)))) = true, (!(cond (cond (decide (v35 < (0 : Int))) true (x48.2.2 != (0 : Int))) true (x48.2.1 != (((v31.drop ((v35 + (1 : Int)).toNat)).length : Int) - (1 : Int))))) = true → (!(cond (cond (decide (v35 < (0 : Int))) true (x48.2.2 != (0 : Int))) true (x48.2.1 != (((v31.drop ((v35 + (1 : Int)).toNat)).length : Int) - (1 : Int))))) = true, (cond (cond (decide (v35 < (0 : Int))) true (x48.2.2 != (0 : Int))) true (x48.2.1 != (((v31.drop ((v35 + (1 : Int)).toNat)).length : Int) - (1 : Int)))) = false → (!(cond (cond (decide (v35 < (0 : Int))) true (x48.2.2 != (0 : Int))) true (x48.2.1 != (((v31.drop ((v35 + (1 : Int)).toNat)).length : Int) - (1 : Int))))) = true] [(67, .bool (cond (cond (cond (decide (v35 < (0 : Int))) true (x48.2.2 != (0 : Int))) true (x48.2.1 != (((v31.drop ((v35 + (1 : Int)).toNat)).length : Int) - (1 : Int)))) true (decide (x48.1 < (1 : Int))))), (11, .int .i64 x48.1), (7, slA (eI .u8) v31), (8, .rsl 8 0 0 v32.length), (9, .int .i64 v35)] (by kernel_rfl) ⟨(fun h => h), (fun h => by first | exact h | simpa using h), (fun h => h), (fun h => h), g49, (fun h => h), (fun h => h), (fun h => by first | exact h | simpa using h), (fun h => h), (fun h => by first | exact h | simpa using h), trivial⟩ ?_
          refine OpsW.nil ?_
          refine AW.cond (b := cond (cond (cond (decide (v35 < (0 : Int))) true (x48.2.2 != (0 : Int))) true (x48.2.1 != (((v31.drop ((v35 + (1 : Int)).toNat)).length : Int) - (1 : Int)))) true (decide (x48.1 < (1 : Int)))) rfl (fun c50 => ?_) (fun c50 => ?_)
          · replace H := condT c50 H
            refine AW.regionSeq ?_
            refine OpsW.seg 3 [4, 3, 2] [] [(4, .int .i64 (220 : Int)), (3, .im (.val (.slice none 0 0))), (2, .im (.val (.slice none 0 0)))] (by kernel_rfl) trivial ?_
            refine OpsW.nil ?_
            obtain rfl := Option.some.inj H
            refine AW.recast (env' := [(2, slA (eI .u8) []), (3, slA (eI .i64) []), (4, .int .i64 (220 : Int))]) (h' := []) (StC.pure (.cons .nil (.cons .nil (.cons .im .nil)))) ?_
            refine AW.ret ?_
            try simp only [Ex.then, Ex.inBlock, Ex.noGoto, Ex.jump, reduceIte, Nat.reduceEqDiff, reduceCtorEq]
            refine Done.gen rfl (.tmp (.tmp (.tmp .nil))) ?_
            show _ = _
            kernel_rfl
          · replace H := condF c50 H
            refine AW.skip ?_
            refine AW.seq ?_
            refine AW.regionSeq ?_
            obtain ⟨g51, H⟩ := G_some H
            obtain ⟨g52, H⟩ := G_some H
            obtain ⟨g53, H⟩ := G_some H
            refine OpsW.seg 11 [78, 73, 71, 11, 7, 8, 9] [(decide ((0 : Int) < (v32.length : Int))) = true → (decide ((0 : Int) < (v32.length : Int))) = true, (decide ((0 : Int) < (v32.length : Int))) = true → inR (x48.1 + (1 : Int)), (decide ((0 : Int) < (v32.length : Int))) = true → (decide ((0 : Int) < (v32.length : Int))) = true, (decide ((0 : Int) < (v32.length : Int))) = true → (decide ((0 : Int) < (v32.length : Int))) = true, (decide ((0 : Int) < (v32.length : Int))) = true → inR ((v32.length : Int) - (1 : Int)), (decide ((0 : Int) < (v32.length : Int))) = true → (decide ((0 : Int) < (v32.length : Int))) = true, (decide ((0 : Int) < (v32.length : Int))) = true → (decide ((0 : Int) < (v32.length : Int))) = true, (decide ((0 : Int) < (v32.length : Int))) = true → (0 ≤ ((v32.length : Int) - (1 : Int)) ∧ ((v32.length : Int) - (1 : Int)) < (v32.length : Int))] [(78, .cnd (decide ((0 : Int) < (v32.length : Int))) (.ref 8 0 (0 + ((v32.length : Int) - (1 : Int)).toNat * 1))), (73, .cnd (decide ((0 : Int) < (v32.length : Int))) (.int .i64 (x48.1 + (1 : Int)))), (71, .bool (decide ((0 : Int) < (v32.length : Int)))), (11, .int .i64 x48.1), (7, slA (eI .u8) v31), (8, .rsl 8 0 0 v32.length), (9, .int .i64 v35)] (by kernel_rfl) ⟨(fun h => h), g51, (fun h => h), (fun h => h), g52, (fun h => h), (fun h => h), g53, trivial⟩ ?_
            refine OpsW.asG (c := decide ((0 : Int) < (v32.length : Int))) (.int .i64 (v32.getD ((v32.length : Int) - (1 : Int)).toNat (0 : Int))) rfl rfl rfl rfl (fun hc => T.loadR rfl hc (by kernel_rfl) rfl rfl rfl (rt_cell (eI .i64) 1 (fun _ => rfl) v32 (0 : Int) ((v32.length : Int) - (1 : Int)).toNat (ltN (g53 hc)) 0 (fun a => .val (.int .i64 a)) (fun _ => rfl) (by omega))) ?_
            refine OpsW.seg 2 [81, 11, 7, 8, 9] [(decide ((0 : Int) < (v32.length : Int))) = true → (decide ((0 : Int) < (v32.length : Int))) = true, (decide ((0 : Int) < (v32.length : Int))) = true → (decide ((0 : Int) < (v32.length : Int))) = true, (decide ((0 : Int) < (v32.length : Int))) = true → (decide ((0 : Int) < (v32.length : Int))) = true] [(81, .bool (cond (decide ((0 : Int) < (v32.length : Int))) ((x48.1 + (1 : Int)) != (v32.getD ((v32.length : Int) - (1 : Int)).toNat (0 : Int))) false)), (11, .int .i64 x48.1), (7, slA (eI .u8) v31), (8, .rsl 8 0 0 v32.length), (9, .int .i64 v35)] (by kernel_rfl) ⟨(fun h => h), (fun h => h), (fun h => by first | exact h | simpa using h), trivial⟩ ?_
            refine OpsW.nil ?_
            refine AW.cond (b := cond (decide ((0 : Int) < (v32.length : Int))) ((x48.1 + (1 : Int)) != (v32.getD ((v32.length : Int) - (1 : Int)).toNat (0 : Int))) false) rfl (fun c54 => ?_) (fun c54 => ?_)
            · replace H := condT c54 H
              refine AW.regionSeq ?_
              refine OpsW.seg 3 [4, 3, 2] [] [(4, .int .i64 (220 : Int)), (3, .im (.val (.slice none 0 0))), (2, .im (.val (.slice none 0 0)))] (by kernel_rfl) trivial ?_
              refine OpsW.nil ?_
              obtain rfl := Option.some.inj H
              refine AW.recast (env' := [(2, slA (eI .u8) []), (3, slA (eI .i64) []), (4, .int .i64 (220 : Int))]) (h' := []) (StC.pure (.cons .nil (.cons .nil (.cons .im .nil)))) ?_
              refine AW.ret ?_
              try simp only [Ex.then, Ex.inBlock, Ex.noGoto, Ex.jump, reduceIte, Nat.reduceEqDiff, reduceCtorEq]
              refine Done.gen rfl (.tmp (.tmp (.tmp .nil))) ?_
              show _ = _
              kernel_rfl
            · replace H := condF c54 H
              refine AW.skip ?_
              refine AW.regionSeq ?_
              refine OpsW.seg 2 [83, 82, 7, 8, 9] [] [(83, .int .i64 x48.1), (82, .rsl 8 0 0 v32.length), (7, slA (eI .u8) v31), (8, .rsl 8 0 0 v32.length), (9, .int .i64 v35)] (by kernel_rfl) trivial ?_
              obtain ⟨g55, H⟩ := G_some H
              refine OpsW.appendLF (enc := eI .i64) [x48.1] rfl rfl rfl (by decide) rfl rfl rfl (by simp) E23 (fun _ => rfl) (by decide) trivial (by kernel_rfl) (by kernel_rfl) (by kernel_rfl) rfl rfl rfl g55 ?_
              refine OpsW.seg 1 [8, 7, 9] [] [(8, .rsl 8 1 0 ((v32 ++ [x48.1]).length)), (7, slA (eI .u8) v31), (9, .int .i64 v35)] (by kernel_rfl) trivial ?_
              refine OpsW.recast (env' := [(8, .rsl 8 0 0 ((v32 ++ [x48.1]).length)), (7, slA (eI .u8) v31), (9, .int .i64 v35)]) (h' := [(8, rtA 0 3 1 (eI .i64) (v32 ++ [x48.1]))]) (StC.mk (phi [(8, some 8)]) (.old rfl rfl rfl rfl rfl (CstL.ims _) .nil) rfl (.cons (.rsl rfl rfl rfl rfl rfl rfl) (.cons .im (.cons .im .nil)))) ?_
              refine OpsW.nil ?_
              refine AW.region ?_
              refine OpsW.seg 2 [87, 86, 8, 7] [] [(87, .int .i64 v35), (86, slA (eI .u8) v31), (8, .rsl 8 0 0 ((v32 ++ [x48.1]).length)), (7, slA (eI .u8) v31)] (by kernel_rfl) trivial ?_
              obtain ⟨g56, H⟩ := G_some H
              refine OpsW.asU (slA (eI .u8) (v31.take v35.toNat)) rfl rfl (T.slice' rfl trivial trivial trivial (by kernel_rfl) (by kernel_rfl) g56 trivial (sl_hi (eI .u8) 1 (fun _ => rfl) v31 v35 g56)) ?_
              refine OpsW.seg 1 [7, 8] [] [(7, slA (eI .u8) (v31.take v35.toNat)), (8, .rsl 8 0 0 ((v32 ++ [x48.1]).length))] (by kernel_rfl) trivial ?_
              refine OpsW.nil ?_
              show ∃ y, _ ∧ StC _ _ _ _
              exact ⟨(v31.take v35.toNat, v32 ++ [x48.1]), H, (StC.mk (phi [(8, some 8)]) (.old rfl rfl rfl rfl rfl (CstL.ims _) .nil) rfl (.cons .im (.cons (.rsl rfl rfl rfl rfl rfl rfl) .nil)))⟩
  · rintro ⟨v1, v2⟩ H
    change f_note_Strip_k1 v1 v2 = some r at H
    unfold f_note_Strip_k1 at H
    change AW _ _ _ [(7, slA (eI .u8) v1), (8, .rsl 8 0 0 v2.length)] [(8, rtA 0 3 1 (eI .i64) v2)] _
    refine AW.skipSeq ?_
    refine AW.seq ?_
    refine AW.block ?_
    refine AW.iterK (fun loop (s : (List Int) × (List Int)) => f_note_Strip_b2 loop s.1 s.2) r (fun (s : (List Int) × (List Int)) => [(7, slA (eI .u8) s.1), (8, .rsl 8 0 0 s.2.length)]) (fun (s : (List Int) × (List Int)) => [(8, rtA 0 3 1 (eI .i64) s.2)]) ?_ 1000000 (v1, v2) H (StC.mk (phi [(8, some 8)]) (.old rfl rfl rfl rfl rfl (CstL.ims _) .nil) rfl (.cons .im (.cons (.rsl rfl rfl rfl rfl rfl rfl) .nil)))
    intro loop5 s H
    obtain ⟨v3, v4⟩ := s
    change f_note_Strip_b2 loop5 v3 v4 = some r at H
    unfold f_note_Strip_b2 at H
    change AW _ _ _ [(7, slA (eI .u8) v3), (8, .rsl 8 0 0 v4.length)] [(8, rtA 0 3 1 (eI .i64) v4)] _
    refine AW.block ?_
    refine AW.regionSeq ?_
    obtain ⟨g6, H⟩ := G_some H
    refine OpsW.seg 4 [9, 7, 8] [inR ((v3.length : Int) - (1 : Int))] [(9, .int .i64 ((v3.length : Int) - (1 : Int))), (7, slA (eI .u8) v3), (8, .rsl 8 0 0 v4.length)] (by kernel_rfl) ⟨g6, trivial⟩ ?_
    refine OpsW.nil ?_
    refine AW.seq ?_
    refine AW.block ?_
    refine AW.iterK (fun loop (s : Int) => f_note_Strip_b1 loop5 v3 v4 loop s) r (fun (s : Int) => [(7, slA (eI .u8) v3), (8, .rsl 8 0 0 v4.length), (9, .int .i64 s)]) (fun (s : Int) => [(8, rtA 0 3 1 (eI .i64) v4)]) ?_ 1000000 ((v3.length : Int) - (1 : Int)) H (StC.mk (phi [(8, some 8)]) (.old rfl rfl rfl rfl rfl (CstL.ims _) .nil) rfl (.cons .im (.cons (.rsl rfl rfl rfl rfl rfl rfl) (.cons .im .nil))))
    intro loop8 v7 H
    change f_note_Strip_b1 loop5 v3 v4 loop8 v7 = some r at H
    unfold f_note_Strip_b1 at H
    change AW _ _ _ [(7, slA (eI .u8) v3), (8, .rsl 8 0 0 v4.length), (9, .int .i64 v7)] [(8, rtA 0 3 1 (eI .i64) v4)] _
    refine AW.seq ?_
    refine AW.regionSeq ?_
    obtain ⟨g9, H⟩ := G_some H
    refine OpsW.seg 6 [30, 27, 7, 8, 9] [(decide ((0 : Int) ≤ v7)) = true → (decide ((0 : Int) ≤ v7)) = true, (decide ((0 : Int) ≤ v7)) = true → (decide ((0 : Int) ≤ v7)) = true, (decide ((0 : Int) ≤ v7)) = true → (0 ≤ v7 ∧ v7 < (v3.length : Int))] [(30, .cnd (decide ((0 : Int) ≤ v7)) (.ipt (v3.flatMap (eI .u8)) (v7.toNat * 1))), (27, .bool (decide ((0 : Int) ≤ v7))), (7, slA (eI .u8) v3), (8, .rsl 8 0 0 v4.length), (9, .int .i64 v7)] (by kernel_rfl) ⟨(fun h => h), (fun h => h), g9, trivial⟩ ?_
    refine OpsW.asG (c := decide ((0 : Int) ≤ v7)) (.int .u8 (v3.getD v7.toNat (0 : Int))) rfl rfl rfl rfl (fun hc => T.load rfl hc (by kernel_rfl) (fm_cell0 (eI .u8) 1 (fun _ => rfl) v3 (0 : Int) v7.toNat (ltN (g9 hc)) (fun a => .val (.int .u8 a)) (fun _ => rfl))) ?_
    refine OpsW.seg 2 [33, 7, 8, 9] [(decide ((0 : Int) ≤ v7)) = true → (decide ((0 : Int) ≤ v7)) = true, (decide ((0 : Int) ≤ v7)) = true → (decide ((0 : Int) ≤ v7)) = true] [(33, .bool (cond (decide ((0 : Int) ≤ v7)) ((v3.getD v7.toNat (0 : Int)) != (0 : Int)) false)), (7, slA (eI .u8) v3), (8, .rsl 8 0 0 v4.length), (9, .int .i64 v7)] (by kernel_rfl) ⟨(fun h => h), (fun h => by first | exact h | simpa using h), trivial⟩ ?_
    refine OpsW.nil ?_
    refine AW.cond (b := cond (decide ((0 : Int) ≤ v7)) ((v3.getD v7.toNat (0 : Int)) != (0 : Int)) false) rfl (fun c10 => ?_) (fun c10 => ?_)
    · replace H := condT c10 H
      refine AW.skip ?_
      refine AW.block ?_
      refine AW.region ?_
      obtain ⟨g11, H⟩ := G_some H
      refine OpsW.seg 3 [9, 7, 8] [inR (v7 - (1 : Int))] [(9, .int .i64 (v7 - (1 : Int))), (7, slA (eI .u8) v3), (8, .rsl 8 0 0 v4.length)] (by kernel_rfl) ⟨g11, trivial⟩ ?_
      refine OpsW.nil ?_
      show ∃ y, _ ∧ StC _ _ _ _
      exact ⟨v7 - (1 : Int), H, (StC.mk (phi [(8, some 8)]) (.old rfl rfl rfl rfl rfl (CstL.ims _) .nil) rfl (.cons .im (.cons (.rsl rfl rfl rfl rfl rfl rfl) (.cons .im .nil))))⟩
    · replace H := condF c10 H
      refine AW.exit ?_
      refine AW.regionSeq ?_
      obtain ⟨g12, H⟩ := G_some H
      refine OpsW.seg 3 [38, 36, 7, 8, 9] [inR (v7 + (1 : Int))] [(38, .int .i64 (v7 + (1 : Int))), (36, slA (eI .u8) v3), (7, slA (eI .u8) v3), (8, .rsl 8 0 0 v4.length), (9, .int .i64 v7)] (by kernel_rfl) ⟨g12, trivial⟩ ?_
      obtain ⟨g13, H⟩ := G_some H
      refine OpsW.asU (slA (eI .u8) (v3.drop ((v7 + (1 : Int)).toNat))) rfl rfl (T.slice' rfl trivial trivial trivial (by kernel_rfl) (by kernel_rfl) trivial g13 (sl_lo (eI .u8) 1 (fun _ => rfl) v3 (v7 + (1 : Int)) g13)) ?_
      refine OpsW.seg 1 [10, 7, 8, 9] [] [(10, slA (eI .u8) (v3.drop ((v7 + (1 : Int)).toNat))), (7, slA (eI .u8) v3), (8, .rsl 8 0 0 v4.length), (9, .int .i64 v7)] (by kernel_rfl) trivial ?_
      refine OpsW.nil ?_
      refine AW.seq ?_
      refine AW.regionSeq ?_
      obtain ⟨g14, H⟩ := G_some H
      refine OpsW.seg 2 [41, 10, 7, 8, 9] [0 ≤ (0 : Int) ∧ (0 : Int) < ((v3.drop ((v7 + (1 : Int)).toNat)).length : Int)] [(41, .ipt ((v3.drop ((v7 + (1 : Int)).toNat)).flatMap (eI .u8)) ((0 : Int).toNat * 1)), (10, slA (eI .u8) (v3.drop ((v7 + (1 : Int)).toNat))), (7, slA (eI .u8) v3), (8, .rsl 8 0 0 v4.length), (9, .int .i64 v7)] (by kernel_rfl) ⟨g14, trivial⟩ ?_
      refine OpsW.asU (.int .u8 ((v3.drop ((v7 + (1 : Int)).toNat)).getD (0 : Int).toNat (0 : Int))) rfl rfl (T.load rfl trivial (by kernel_rfl) (fm_cell0 (eI .u8) 1 (fun _ => rfl) (v3.drop ((v7 + (1 : Int)).toNat)) (0 : Int) (0 : Int).toNat (ltN g14) (fun a => .val (.int .u8 a)) (fun _ => rfl))) ?_
      refine OpsW.seg 1 [43, 10, 7, 8, 9] [] [(43, .bool (((v3.drop ((v7 + (1 : Int)).toNat)).getD (0 : Int).toNat (0 : Int)) != (63 : Int))), (10, slA (eI .u8) (v3.drop ((v7 + (1 : Int)).toNat))), (7, slA (eI .u8) v3), (8, .rsl 8 0 0 v4.length), (9, .int .i64 v7)] (by kernel_rfl) trivial ?_
      refine OpsW.nil ?_
      refine AW.cond (b := ((v3.drop ((v7 + (1 : Int)).toNat)).getD (0 : Int).toNat (0 : Int)) != (63 : Int)) rfl (fun c15 => ?_) (fun c15 => ?_)
      · replace H := condT c15 H
        refine AW.exit ?_
        refine AW.seq ?_
        refine AW.regionSeq ?_
        refine OpsW.seg 1 [89, 7, 8] [] [(89, slA (eI .u8) v3), (7, slA (eI .u8) v3), (8, .rsl 8 0 0 v4.length)] (by kernel_rfl) trivial ?_
        obtain ⟨x16, hx16, H⟩ := bindS H
        refine OpsW.qcall rfl (by kernel_rfl) rfl rfl (glAll_sound trivial) (.cons (.pur rfl) (.cons (.pur rfl) .nil)) (f_slices_Contains_api_Cell_ok hx16) rfl ?_
        refine OpsW.seg 0 [90, 7, 8] [] [(90, .bool x16), (7, slA (eI .u8) v3), (8, .rsl 8 0 0 v4.length)] (by kernel_rfl) trivial ?_
        refine OpsW.nil ?_
        refine AW.cond (b := x16) rfl (fun c17 => ?_) (fun c17 => ?_)
        · replace H := condT c17 H
          refine AW.regionSeq ?_
          refine OpsW.seg 3 [4, 3, 2] [] [(4, .int .i64 (220 : Int)), (3, .im (.val (.slice none 0 0))), (2, .im (.val (.slice none 0 0)))] (by kernel_rfl) trivial ?_
          refine OpsW.nil ?_
          obtain rfl := Option.some.inj H
          refine AW.recast (env' := [(2, slA (eI .u8) []), (3, slA (eI .i64) []), (4, .int .i64 (220 : Int))]) (h' := []) (StC.pure (.cons .nil (.cons .nil (.cons .im .nil)))) ?_
          refine AW.ret ?_
          try simp only [Ex.then, Ex.inBlock, Ex.noGoto, Ex.jump, reduceIte, Nat.reduceEqDiff, reduceCtorEq]
          refine Done.gen rfl (.tmp (.tmp (.tmp .nil))) ?_
          show _ = _
          kernel_rfl
        · replace H := condF c17 H
          refine AW.skip ?_
          refine AW.regionSeq ?_
          refine OpsW.seg 1 [91, 7, 8] [] [(91, .rsl 8 0 0 v4.length), (7, slA (eI .u8) v3), (8, .rsl 8 0 0 v4.length)] (by kernel_rfl) trivial ?_
          refine OpsW.reverse (enc := (eI .i64)) (l := v4) rfl rfl rfl (by kernel_rfl) (turns_reverse Tryd.rev28) rfl rfl (fun _ => rfl) ?_
          change OpsW _ _ _ _ [(92, .any), (91, .rsl 8 0 0 v4.length), (7, slA (eI .u8) v3), (8, .rsl 8 0 0 v4.length)] [(8, rtA 0 3 1 (eI .i64) v4.reverse), (8, rtA 0 3 1 (eI .i64) v4)] _
          refine OpsW.weaken [(92, .any), (91, .rsl 8 0 0 ((v4.reverse).length)), (7, slA (eI .u8) v3), (8, .rsl 8 0 0 ((v4.reverse).length))] (Env.le_of_eq (by simp only [List.length_set, List.length_reverse])) ?_
          refine OpsW.seg 0 [7, 8] [] [(7, slA (eI .u8) v3), (8, .rsl 8 0 0 ((v4.reverse).length))] (by kernel_rfl) trivial ?_
          refine OpsW.recast (env' := [(7, slA (eI .u8) v3), (8, slA (eI .i64) v4.reverse)]) (h' := []) (StC.mk (phi []) .nil rfl (.cons .im (.cons (.frz rfl rfl rfl (frz_all (eI .i64) 1 (fun _ => rfl) v4.reverse) (fm_length (eI .i64) 1 (fun _ => rfl) v4.reverse) (phi_ne rfl)) .nil))) ?_
          refine OpsW.nil ?_
          refine AW.regionSeq ?_
          refine OpsW.seg 1 [93, 8] [] [(93, slA (eI .u8) v3), (8, slA (eI .i64) v4.reverse)] (by kernel_rfl) trivial ?_
          obtain ⟨x18, hx18, H⟩ := bindS H
          refine OpsW.qcall rfl (by kernel_rfl) rfl rfl (glAll_sound trivial) (.cons (.pur rfl) .nil) (f_slices_Clone_api_Cell_ok hx18) rfl ?_
          refine OpsW.seg 4 [4, 3, 2] [] [(4, .int .i64 (0 : Int)), (3, slA (eI .i64) v4.reverse), (2, slA (eI .u8) x18)] (by kernel_rfl) trivial ?_
          refine OpsW.nil ?_
          obtain rfl := Option.some.inj H
          refine AW.recast (env' := [(2, slA (eI .u8) x18), (3, slA (eI .i64) v4.reverse), (4, .int .i64 (0 : Int))]) (h' := []) (StC.pure (.cons .im (.cons .im (.cons .im .nil)))) ?_
          refine AW.ret ?_
          try simp only [Ex.then, Ex.inBlock, Ex.noGoto, Ex.jump, reduceIte, Nat.reduceEqDiff, reduceCtorEq]
          refine Done.gen rfl (.tmp (.tmp (.tmp .nil))) ?_
          show _ = _
          kernel_rfl
      · replace H := condF c15 H
        refine AW.skip ?_
        refine AW.regionSeq ?_
        refine OpsW.seg 1 [45, 10, 7, 8, 9] [] [(45, slA (eI .u8) (v3.drop ((v7 + (1 : Int)).toNat))), (10, slA (eI .u8) (v3.drop ((v7 + (1 : Int)).toNat))), (7, slA (eI .u8) v3), (8, .rsl 8 0 0 v4.length), (9, .int .i64 v7)] (by kernel_rfl) trivial ?_
        obtain ⟨g19, H⟩ := G_some H
        refine OpsW.asU (slA (eI .u8) ((v3.drop ((v7 + (1 : Int)).toNat)).drop ((1 : Int).toNat))) rfl rfl (T.slice' rfl trivial trivial trivial (by kernel_rfl) (by kernel_rfl) trivial g19 (sl_lo (eI .u8) 1 (fun _ => rfl) (v3.drop ((v7 + (1 : Int)).toNat)) (1 : Int) g19)) ?_
        obtain ⟨x20, hx20, H⟩ := bindS H
        refine OpsW.qcall rfl (by kernel_rfl) rfl rfl (glAll_sound trivial) (.cons (.pur rfl) .nil) (f_number_Read_ok hx20) rfl ?_
        refine OpsW.seg 7 [13, 12, 11, 10, 7, 8, 9] [] [(13, .int .i64 x20.2.2), (12, .int .i64 x20.2.1), (11, .int .i64 x20.1), (10, slA (eI .u8) (v3.drop ((v7 + (1 : Int)).toNat))), (7, slA (eI .u8) v3), (8, .rsl 8 0 0 v4.length), (9, .int .i64 v7)] (by kernel_rfl) trivial ?_
        refine OpsW.nil ?_
        refine AW.seq ?_
        refine AW.regionSeq ?_
        obtain ⟨g21, H⟩ := G_some H
        refine OpsW.seg 17 [67, 11, 7, 8, 9] [(!(decide (v7 < (0 : Int)))) = true → (!(decide (v7 < (0 : Int)))) = true, (decide (v7 < (0 : Int))) = false → (!(decide (v7 < (0 : Int)))) = true, (!(cond (decide (v7 < (0 : Int))) true (x20.2.2 != (0 : Int)))) = true → (!(cond (decide (v7 < (0 : Int))) true (x20.2.2 != (0 : Int)))) = true, (!(cond (decide (v7 < (0 : Int))) true (x20.2.2 != (0 : Int)))) = true → (!(cond (decide (v7 < (0 : Int))) true (x20.2.2 != (0 : Int)))) = true, (!(cond (decide (v7 < (0 : Int))) true (x20.2.2 != (0 : Int)))) = true → inR (((v3.drop ((v7 + (1 : Int)).toNat)).length : Int) - (1 : Int)), (!(cond (decide (v7 < (0 : Int))) true (x20.2.2 != (0 : Int)))) = true → (!(cond (decide (v7 < (0 : Int))) true (x20.2.2 != (0 : Int)))) = true, (!(cond (decide (v7 < (0 : Int))) true (x20.2.2 != (0 : Int)))) = true → (!(cond (decide (v7 < (0 : Int))) true (x20.2.2 != (0 : Int)))) = true, (cond (decide (v7 < (0 : Int))) true (x20.2.2 != (0 : Int))) = false → (!(cond (decide (v7 < (0 : Int))) true (x20.2.2 != (0 : Int)))) = true, (!(cond (cond (decide (v7 < (0 : Int))) true (x20.2.2 != (0 : Int))) true (x20.2.1 != (((v3.drop ((v7 + (1 : Int)).toNat)).length : Int) - (1 : Int))))) = true → (!(cond (cond (decide (v7 < (0 : Int))) true (x20.2.2 != (0 : Int))) true (x20.2.1 != (((v3.drop ((v7 + (1 : Int)).toNat)).length : Int) - (1 : Int))))) = true, (cond (cond (decide (v7 < (0 : Int))) true (x20.2.2 != (0 : Int))) true (x20.2.1 != (((v3.drop ((v7 + (1 : Int)).toNat)).length : Int) - (1 : Int)))) = false → (!(cond (cond (decide (v7 < (0 : Int))) true (x20.2.2 != (0 : Int))) true (x20.2.1 != (((v3.drop ((v7 + (1 : Int)).toNat)).length : Int) - (1 : Int))))) = true] [(67, .bool (cond (cond (cond (decide (v7 < (0 : Int))) true (x20.2.2 != (0 : Int))) true (x20.2.1 != (((v3.drop ((v7 + (1 : Int)).toNat)).length : Int) - (1 : Int)))) true (decide (x20.1 < (1 : Int))))), (11, .int .i64 x20.1), (7, slA (eI .u8) v3), (8, .rsl 8 0 0 v4.length), (9, .int .i64 v7)] (by kernel_rfl) ⟨(fun h => h), (fun h => by first | exact h | simpa using h), (fun h => h), (fun h => h), g21, (fun h => h), (fun h => h), (fun h => by first | exact h | simpa using h), (fun h => h), (fun h => by first | exact h | simpa using h), trivial⟩ ?_
        refine OpsW.nil ?_
        refine AW.cond (b := cond (cond (cond (decide (v7 < (0 : Int))) true (x20.2.2 != (0 : Int))) true (x20.2.1 != (((v3.drop ((v7 + (1 : Int)).toNat)).length : Int) - (1 : Int)))) true (decide (x20.1 < (1 : Int)))) rfl (fun c22 => ?_) (fun c22 => ?_)
        · replace H := condT c22 H
          refine AW.regionSeq ?_
          refine OpsW.seg 3 [4, 3, 2] [] [(4, .int .i64 (220 : Int)), (3, .im (.val (.slice none 0 0))), (2, .im (.val (.slice none 0 0)))] (by kernel_rfl) trivial ?_
          refine OpsW.nil ?_
          obtain rfl := Option.some.inj H
          refine AW.recast (env' := [(2, slA (eI .u8) []), (3, slA (eI .i64) []), (4, .int .i64 (220 : Int))]) (h' := []) (StC.pure (.cons .nil (.cons .nil (.cons .im .nil)))) ?_
          refine AW.ret ?_
          try simp only [Ex.then, Ex.inBlock, Ex.noGoto, Ex.jump, reduceIte, Nat.reduceEqDiff, reduceCtorEq]
          refine Done.gen rfl (.tmp (.tmp (.tmp .nil))) ?_
          show _ = _
          kernel_rfl
        · replace H := condF c22 H
          refine AW.skip ?_
          refine AW.seq ?_
          refine AW.regionSeq ?_
          obtain ⟨g23, H⟩ := G_some H
          obtain ⟨g24, H⟩ := G_some H
          obtain ⟨g25, H⟩ := G_some H
          refine OpsW.seg 11 [78, 73, 71, 11, 7, 8, 9] [(decide ((0 : Int) < (v4.length : Int))) = true → (decide ((0 : Int) < (v4.length : Int))) = true, (decide ((0 : Int) < (v4.length : Int))) = true → inR (x20.1 + (1 : Int)), (decide ((0 : Int) < (v4.length : Int))) = true → (decide ((0 : Int) < (v4.length : Int))) = true, (decide ((0 : Int) < (v4.length : Int))) = true → (decide ((0 : Int) < (v4.length : Int))) = true, (decide ((0 : Int) < (v4.length : Int))) = true → inR ((v4.length : Int) - (1 : Int)), (decide ((0 : Int) < (v4.length : Int))) = true → (decide ((0 : Int) < (v4.length : Int))) = true, (decide ((0 : Int) < (v4.length : Int))) = true → (decide ((0 : Int) < (v4.length : Int))) = true, (decide ((0 : Int) < (v4.length : Int))) = true → (0 ≤ ((v4.length : Int) - (1 : Int)) ∧ ((v4.length : Int) - (1 : Int)) < (v4.length : Int))] [(78, .cnd (decide ((0 : Int) < (v4.length : Int))) (.ref 8 0 (0 + ((v4.length : Int) - (1 : Int)).toNat * 1))), (73, .cnd (decide ((0 : Int) < (v4.length : Int))) (.int .i64 (x20.1 + (1 : Int)))), (71, .bool (decide ((0 : Int) < (v4.length : Int)))), (11, .int .i64 x20.1), (7, slA (eI .u8) v3), (8, .rsl 8 0 0 v4.length), (9, .int .i64 v7)] (by kernel_rfl) ⟨(fun h => h), g23, (fun h => h), (fun h => h), g24, (fun h => h), (fun h => h), g25, trivial⟩ ?_
          refine OpsW.asG (c := decide ((0 : Int) < (v4.length : Int))) (.int .i64 (v4.getD ((v4.length : Int) - (1 : Int)).toNat (0 : Int))) rfl rfl rfl rfl (fun hc => T.loadR rfl hc (by kernel_rfl) rfl rfl rfl (rt_cell (eI .i64) 1 (fun _ => rfl) v4 (0 : Int) ((v4.length : Int) - (1 : Int)).toNat (ltN (g25 hc)) 0 (fun a => .val (.int .i64 a)) (fun _ => rfl) (by omega))) ?_
          refine OpsW.seg 2 [81, 11, 7, 8, 9] [(decide ((0 : Int) < (v4.length : Int))) = true → (decide ((0 : Int) < (v4.length : Int))) = true, (decide ((0 : Int) < (v4.length : Int))) = true → (decide ((0 : Int) < (v4.length : Int))) = true, (decide ((0 : Int) < (v4.length : Int))) = true → (decide ((0 : Int) < (v4.length : Int))) = true] [(81, .bool (cond (decide ((0 : Int) < (v4.length : Int))) ((x20.1 + (1 : Int)) != (v4.getD ((v4.length : Int) - (1 : Int)).toNat (0 : Int))) false)), (11, .int .i64 x20.1), (7, slA (eI .u8) v3), (8, .rsl 8 0 0 v4.length), (9, .int .i64 v7)] (by kernel_rfl) ⟨(fun h => h), (fun h => h), (fun h => by first | exact h | simpa using h), trivial⟩ ?_
          refine OpsW.nil ?_
          refine AW.cond (b := cond (decide ((0 : Int) < (v4.length : Int))) ((x20.1 + (1 : Int)) != (v4.getD ((v4.length : Int) - (1 : Int)).toNat (0 : Int))) false) rfl (fun c26 => ?_) (fun c26 => ?_)
          · replace H := condT c26 H
            refine AW.regionSeq ?_
            refine OpsW.seg 3 [4, 3, 2] [] [(4, .int .i64 (220 : Int)), (3, .im (.val (.slice none 0 0))), (2, .im (.val (.slice none 0 0)))] (by kernel_rfl) trivial ?_
            refine OpsW.nil ?_
            obtain rfl := Option.some.inj H
            refine AW.recast (env' := [(2, slA (eI .u8) []), (3, slA (eI .i64) []), (4, .int .i64 (220 : Int))]) (h' := []) (StC.pure (.cons .nil (.cons .nil (.cons .im .nil)))) ?_
            refine AW.ret ?_
            try simp only [Ex.then, Ex.inBlock, Ex.noGoto, Ex.jump, reduceIte, Nat.reduceEqDiff, reduceCtorEq]
            refine Done.gen rfl (.tmp (.tmp (.tmp .nil))) ?_
            show _ = _
            kernel_rfl
          · replace H := condF c26 H
            refine AW.skip ?_
            refine AW.regionSeq ?_
            refine OpsW.seg 2 [83, 82, 7, 8, 9] [] [(83, .int .i64 x20.1), (82, .rsl 8 0 0 v4.length), (7, slA (eI .u8) v3), (8, .rsl 8 0 0 v4.length), (9, .int .i64 v7)] (by kernel_rfl) trivial ?_
            obtain ⟨g27, H⟩ := G_some H
            refine OpsW.appendLF (enc := eI .i64) [x20.1] rfl rfl rfl (by decide) rfl rfl rfl (by simp) E23 (fun _ => rfl) (by decide) trivial (by kernel_rfl) (by kernel_rfl) (by kernel_rfl) rfl rfl rfl g27 ?_
            refine OpsW.seg 1 [8, 7, 9] [] [(8, .rsl 8 1 0 ((v4 ++ [x20.1]).length)), (7, slA (eI .u8) v3), (9, .int .i64 v7)] (by kernel_rfl) trivial ?_
            refine OpsW.recast (env' := [(8, .rsl 8 0 0 ((v4 ++ [x20.1]).length)), (7, slA (eI .u8) v3), (9, .int .i64 v7)]) (h' := [(8, rtA 0 3 1 (eI .i64) (v4 ++ [x20.1]))]) (StC.mk (phi [(8, some 8)]) (.old rfl rfl rfl rfl rfl (CstL.ims _) .nil) rfl (.cons (.rsl rfl rfl rfl rfl rfl rfl) (.cons .im (.cons .im .nil)))) ?_
            refine OpsW.nil ?_
            refine AW.region ?_
            refine OpsW.seg 2 [87, 86, 8, 7] [] [(87, .int .i64 v7), (86, slA (eI .u8) v3), (8, .rsl 8 0 0 ((v4 ++ [x20.1]).length)), (7, slA (eI .u8) v3)] (by kernel_rfl) trivial ?_
            obtain ⟨g28, H⟩ := G_some H
            refine OpsW.asU (slA (eI .u8) (v3.take v7.toNat)) rfl rfl (T.slice' rfl trivial trivial trivial (by kernel_rfl) (by kernel_rfl) g28 trivial (sl_hi (eI .u8) 1 (fun _ => rfl) v3 v7 g28)) ?_
            refine OpsW.seg 1 [7, 8] [] [(7, slA (eI .u8) (v3.take v7.toNat)), (8, .rsl 8 0 0 ((v4 ++ [x20.1]).length))] (by kernel_rfl) trivial ?_
            refine OpsW.nil ?_
            show ∃ y, _ ∧ StC _ _ _ _
            exact ⟨(v3.take v7.toNat, v4 ++ [x20.1]), H, (StC.mk (phi [(8, some 8)]) (.old rfl rfl rfl rfl rfl (CstL.ims _) .nil) rfl (.cons .im (.cons (.rsl rfl rfl rfl rfl rfl rfl) .nil)))⟩
def f_R01_ValidAll_b1 (t0 : List Int) (loop2 : (Int) → Option Bool) (v1 : Int) : Option Bool :=
  cond (decide (v1 < (t0.length : Int))) (
    G (0 ≤ v1 ∧ v1 < (t0.length : Int)) <|
    cond (decide ((64 : Int) ≤ (t0.getD v1.toNat (0 : Int)))) (
      some false) (
      G (inR (v1 + (1 : Int))) <|
      loop2 (v1 + (1 : Int)))) (
    some true)
def f_R01_ValidAll (t0 : List Int) : Option Bool :=
  iter (fun loop (s : Int) => f_R01_ValidAll_b1 t0 loop s) 1000000 (0 : Int)
theorem f_R01_ValidAll_ok {t0 : List Int} {r : Bool} (H : f_R01_ValidAll t0 = some r) : QSpec Tryd.prog 38 [slA (eI .u8) t0] (.bool r) := by
  refine Spec.of_AW Tryd.func38 rfl (by simp [Tryd.ntmps38]) ?_
  rw [Tryd.ntmps38]
  unfold f_R01_ValidAll at H
  change AW _ _ _ [(0, slA (eI .u8) t0)] [] _
  refine AW.regionSeq ?_
  refine OpsW.seg 1 [0] [] [(0, slA (eI .u8) t0)] (by kernel_rfl) trivial ?_
  refine OpsW.nil ?_
  refine AW.seq ?_
  refine AW.regionSeq ?_
  refine OpsW.seg 1 [3, 0] [] [(3, .int .i64 (0 : Int)), (0, slA (eI .u8) t0)] (by kernel_rfl) trivial ?_
  refine OpsW.nil ?_
  refine AW.block ?_
  refine AW.iterK (fun loop (s : Int) => f_R01_ValidAll_b1 t0 loop s) r (fun (s : Int) => [(0, slA (eI .u8) t0), (3, .int .i64 s)]) (fun (s : Int) => []) ?_ 1000000 (0 : Int) H (StC.pure (.cons .im (.cons .im .nil)))
  intro loop2 v1 H
  change f_R01_ValidAll_b1 t0 loop2 v1 = some r at H
  unfold f_R01_ValidAll_b1 at H
  change AW _ _ _ [(0, slA (eI .u8) t0), (3, .int .i64 v1)] [] _
  refine AW.seq ?_
  refine AW.regionSeq ?_
  refine OpsW.seg 4 [7, 0, 3] [] [(7, .bool (decide (v1 < (t0.length : Int)))), (0, slA (eI .u8) t0), (3, .int .i64 v1)] (by kernel_rfl) trivial ?_
  refine OpsW.nil ?_
  refine AW.cond (b := decide (v1 < (t0.length : Int))) rfl (fun c3 => ?_) (fun c3 => ?_)
  · replace H := condT c3 H
    refine AW.skip ?_
    refine AW.seq ?_
    refine AW.block ?_
    refine AW.regionSeq ?_
    obtain ⟨g4, H⟩ := G_some H
    refine OpsW.seg 3 [12, 0, 3] [0 ≤ v1 ∧ v1 < (t0.length : Int)] [(12, .ipt (t0.flatMap (eI .u8)) (v1.toNat * 1)), (0, slA (eI .u8) t0), (3, .int .i64 v1)] (by kernel_rfl) ⟨g4, trivial⟩ ?_
    refine OpsW.asU (.int .u8 (t0.getD v1.toNat (0 : Int))) rfl rfl (T.load rfl trivial (by kernel_rfl) (fm_cell0 (eI .u8) 1 (fun _ => rfl) t0 (0 : Int) v1.toNat (ltN g4) (fun a => .val (.int .u8 a)) (fun _ => rfl))) ?_
    refine OpsW.seg 1 [14, 0, 3] [] [(14, .bool (decide ((64 : Int) ≤ (t0.getD v1.toNat (0 : Int))))), (0, slA (eI .u8) t0), (3, .int .i64 v1)] (by kernel_rfl) trivial ?_
    refine OpsW.nil ?_
    refine AW.cond (b := decide ((64 : Int) ≤ (t0.getD v1.toNat (0 : Int)))) rfl (fun c5 => ?_) (fun c5 => ?_)
    · replace H := condT c5 H
      refine AW.regionSeq ?_
      refine OpsW.seg 1 [2] [] [(2, .bool false)] (by kernel_rfl) trivial ?_
      refine OpsW.nil ?_
      obtain rfl := Option.some.inj H
      refine AW.recast (env' := [(2, .bool false)]) (h' := []) (StC.pure (.cons .im .nil)) ?_
      refine AW.ret ?_
      try simp only [Ex.then, Ex.inBlock, Ex.noGoto, Ex.jump, reduceIte, Nat.reduceEqDiff, reduceCtorEq]
      refine Done.gen rfl (.tmp .nil) ?_
      show _ = _
      kernel_rfl
    · replace H := condF c5 H
      refine AW.skip ?_
      refine AW.region ?_
      obtain ⟨g6, H⟩ := G_some H
      refine OpsW.seg 3 [3, 0] [inR (v1 + (1 : Int))] [(3, .int .i64 (v1 + (1 : Int))), (0, slA (eI .u8) t0)] (by kernel_rfl) ⟨g6, trivial⟩ ?_
      refine OpsW.nil ?_
      show ∃ y, _ ∧ StC _ _ _ _
      exact ⟨v1 + (1 : Int), H, (StC.pure (.cons .im (.cons .im .nil)))⟩
  · replace H := condF c3 H
    refine AW.exit ?_
    refine AW.regionSeq ?_
    refine OpsW.seg 1 [2] [] [(2, .bool true)] (by kernel_rfl) trivial ?_
    refine OpsW.nil ?_
    obtain rfl := Option.some.inj H
    refine AW.recast (env' := [(2, .bool true)]) (h' := []) (StC.pure (.cons .im .nil)) ?_
    refine AW.ret ?_
    try simp only [Ex.then, Ex.inBlock, Ex.noGoto, Ex.jump, reduceIte, Nat.reduceEqDiff, reduceCtorEq]
    refine Done.gen rfl (.tmp .nil) ?_
    show _ = _
    kernel_rfl
def f_R22_Clean_b1 (t0 : List Int) (loop7 : (Int) → Option Bool) (v6 : Int) : Option Bool :=
  cond (decide (v6 < (t0.length : Int))) (
    G (inR (v6 - (1 : Int))) <|
    G (0 ≤ (v6 - (1 : Int)) ∧ (v6 - (1 : Int)) < (t0.length : Int)) <|
    G (((t0.getD (v6 - (1 : Int)).toNat (0 : Int)) == (0 : Int)) = true → (0 ≤ v6 ∧ v6 < (t0.length : Int))) <|
    cond (cond ((t0.getD (v6 - (1 : Int)).toNat (0 : Int)) == (0 : Int)) ((t0.getD v6.toNat (0 : Int)) == (0 : Int)) false) (
      some false) (
      G (inR (v6 + (1 : Int))) <|
      loop7 (v6 + (1 : Int)))) (
    some true)
def f_R22_Clean (t0 : List Int) : Option Bool :=
  (f_R01_ValidAll t0).bind fun x1 =>
  G ((!(cond ((t0.length : Int) == (0 : Int)) true (!x1))) = true → (0 ≤ (0 : Int) ∧ (0 : Int) < (t0.length : Int))) <|
  G ((!(cond (cond ((t0.length : Int) == (0 : Int)) true (!x1)) true ((t0.getD (0 : Int).toNat (0 : Int)) == (0 : Int)))) = true → inR ((t0.length : Int) - (1 : Int))) <|
  G ((!(cond (cond ((t0.length : Int) == (0 : Int)) true (!x1)) true ((t0.getD (0 : Int).toNat (0 : Int)) == (0 : Int)))) = true → (0 ≤ ((t0.length : Int) - (1 : Int)) ∧ ((t0.length : Int) - (1 : Int)) < (t0.length : Int))) <|
  cond (cond (cond (cond ((t0.length : Int) == (0 : Int)) true (!x1)) true ((t0.getD (0 : Int).toNat (0 : Int)) == (0 : Int))) true ((t0.getD ((t0.length : Int) - (1 : Int)).toNat (0 : Int)) == (0 : Int))) (
    some false) (
    iter (fun loop (s : Int) => f_R22_Clean_b1 t0 loop s) 1000000 (1 : Int))
theorem f_R22_Clean_ok {t0 : List Int} {r : Bool} (H : f_R22_Clean t0 = some r) : QSpec Tryd.prog 31 [slA (eI .u8) t0] (.bool r) := by
  refine Spec.of_AW Tryd.func31 rfl (by simp [Tryd.ntmps31]) ?_
  rw [Tryd.ntmps31]
  unfold f_R22_Clean at H
  change AW _ _ _ [(0, slA (eI .u8) t0)] [] _
  refine AW.regionSeq ?_
  refine OpsW.seg 1 [0] [] [(0, slA (eI .u8) t0)] (by kernel_rfl) trivial ?_
  refine OpsW.nil ?_
  refine AW.regionSeq ?_
  refine OpsW.seg 1 [5, 0] [] [(5, slA (eI .u8) t0), (0, slA (eI .u8) t0)] (by kernel_rfl) trivial ?_
  obtain ⟨x1, hx1, H⟩ := bindS H
  refine OpsW.qcall rfl (by kernel_rfl) rfl rfl (glAll_sound trivial) (.cons (.pur rfl) .nil) (f_R01_ValidAll_ok hx1) rfl ?_
  refine OpsW.seg 1 [3, 0] [] [(3, .bool x1), (0, slA (eI .u8) t0)] (by kernel_rfl) trivial ?_
  refine OpsW.nil ?_
  refine AW.seq ?_
  refine AW.regionSeq ?_
  obtain ⟨g2, H⟩ := G_some H
  refine OpsW.seg 10 [16, 14, 0] [(!((t0.length : Int) == (0 : Int))) = true → (!((t0.length : Int) == (0 : Int))) = true, ((t0.length : Int) == (0 : Int)) = false → (!((t0.length : Int) == (0 : Int))) = true, (!(cond ((t0.length : Int) == (0 : Int)) true (!x1))) = true → (!(cond ((t0.length : Int) == (0 : Int)) true (!x1))) = true, (!(cond ((t0.length : Int) == (0 : Int)) true (!x1))) = true → (0 ≤ (0 : Int) ∧ (0 : Int) < (t0.length : Int))] [(16, .cnd (!(cond ((t0.length : Int) == (0 : Int)) true (!x1))) (.ipt (t0.flatMap (eI .u8)) ((0 : Int).toNat * 1))), (14, .bool (cond ((t0.length : Int) == (0 : Int)) true (!x1))), (0, slA (eI .u8) t0)] (by kernel_rfl) ⟨(fun h => h), (fun h => by first | exact h | simpa using h), (fun h => h), g2, trivial⟩ ?_
  refine OpsW.asG (c := !(cond ((t0.length : Int) == (0 : Int)) true (!x1))) (.int .u8 (t0.getD (0 : Int).toNat (0 : Int))) rfl rfl rfl rfl (fun hc => T.load rfl hc (by kernel_rfl) (fm_cell0 (eI .u8) 1 (fun _ => rfl) t0 (0 : Int) (0 : Int).toNat (ltN (g2 hc)) (fun a => .val (.int .u8 a)) (fun _ => rfl))) ?_
  obtain ⟨g3, H⟩ := G_some H
  obtain ⟨g4, H⟩ := G_some H
  refine OpsW.seg 8 [25, 20, 0] [(!(cond ((t0.length : Int) == (0 : Int)) true (!x1))) = true → (!(cond ((t0.length : Int) == (0 : Int)) true (!x1))) = true, (cond ((t0.length : Int) == (0 : Int)) true (!x1)) = false → (!(cond ((t0.length : Int) == (0 : Int)) true (!x1))) = true, (!(cond (cond ((t0.length : Int) == (0 : Int)) true (!x1)) true ((t0.getD (0 : Int).toNat (0 : Int)) == (0 : Int)))) = true → (!(cond (cond ((t0.length : Int) == (0 : Int)) true (!x1)) true ((t0.getD (0 : Int).toNat (0 : Int)) == (0 : Int)))) = true, (!(cond (cond ((t0.length : Int) == (0 : Int)) true (!x1)) true ((t0.getD (0 : Int).toNat (0 : Int)) == (0 : Int)))) = true → (!(cond (cond ((t0.length : Int) == (0 : Int)) true (!x1)) true ((t0.getD (0 : Int).toNat (0 : Int)) == (0 : Int)))) = true, (!(cond (cond ((t0.length : Int) == (0 : Int)) true (!x1)) true ((t0.getD (0 : Int).toNat (0 : Int)) == (0 : Int)))) = true → inR ((t0.length : Int) - (1 : Int)), (!(cond (cond ((t0.length : Int) == (0 : Int)) true (!x1)) true ((t0.getD (0 : Int).toNat (0 : Int)) == (0 : Int)))) = true → (!(cond (cond ((t0.length : Int) == (0 : Int)) true (!x1)) true ((t0.getD (0 : Int).toNat (0 : Int)) == (0 : Int)))) = true, (!(cond (cond ((t0.length : Int) == (0 : Int)) true (!x1)) true ((t0.getD (0 : Int).toNat (0 : Int)) == (0 : Int)))) = true → (!(cond (cond ((t0.length : Int) == (0 : Int)) true (!x1)) true ((t0.getD (0 : Int).toNat (0 : Int)) == (0 : Int)))) = true, (!(cond (cond ((t0.length : Int) == (0 : Int)) true (!x1)) true ((t0.getD (0 : Int).toNat (0 : Int)) == (0 : Int)))) = true → (0 ≤ ((t0.length : Int) - (1 : Int)) ∧ ((t0.length : Int) - (1 : Int)) < (t0.length : Int))] [(25, .cnd (!(cond (cond ((t0.length : Int) == (0 : Int)) true (!x1)) true ((t0.getD (0 : Int).toNat (0 : Int)) == (0 : Int)))) (.ipt (t0.flatMap (eI .u8)) (((t0.length : Int) - (1 : Int)).toNat * 1))), (20, .bool (cond (cond ((t0.length : Int) == (0 : Int)) true (!x1)) true ((t0.getD (0 : Int).toNat (0 : Int)) == (0 : Int)))), (0, slA (eI .u8) t0)] (by kernel_rfl) ⟨(fun h => h), (fun h => by first | exact h | simpa using h), (fun h => h), (fun h => h), g3, (fun h => h), (fun h => h), g4, trivial⟩ ?_
  refine OpsW.asG (c := !(cond (cond ((t0.length : Int) == (0 : Int)) true (!x1)) true ((t0.getD (0 : Int).toNat (0 : Int)) == (0 : Int)))) (.int .u8 (t0.getD ((t0.length : Int) - (1 : Int)).toNat (0 : Int))) rfl rfl rfl rfl (fun hc => T.load rfl hc (by kernel_rfl) (fm_cell0 (eI .u8) 1 (fun _ => rfl) t0 (0 : Int) ((t0.length : Int) - (1 : Int)).toNat (ltN (g4 hc)) (fun a => .val (.int .u8 a)) (fun _ => rfl))) ?_
  refine OpsW.seg 2 [28, 0] [(!(cond (cond ((t0.length : Int) == (0 : Int)) true (!x1)) true ((t0.getD (0 : Int).toNat (0 : Int)) == (0 : Int)))) = true → (!(cond (cond ((t0.length : Int) == (0 : Int)) true (!x1)) true ((t0.getD (0 : Int).toNat (0 : Int)) == (0 : Int)))) = true, (cond (cond ((t0.length : Int) == (0 : Int)) true (!x1)) true ((t0.getD (0 : Int).toNat (0 : Int)) == (0 : Int))) = false → (!(cond (cond ((t0.length : Int) == (0 : Int)) true (!x1)) true ((t0.getD (0 : Int).toNat (0 : Int)) == (0 : Int)))) = true] [(28, .bool (cond (cond (cond ((t0.length : Int) == (0 : Int)) true (!x1)) true ((t0.getD (0 : Int).toNat (0 : Int)) == (0 : Int))) true ((t0.getD ((t0.length : Int) - (1 : Int)).toNat (0 : Int)) == (0 : Int)))), (0, slA (eI .u8) t0)] (by kernel_rfl) ⟨(fun h => h), (fun h => by first | exact h | simpa using h), trivial⟩ ?_
  refine OpsW.nil ?_
  refine AW.cond (b := cond (cond (cond ((t0.length : Int) == (0 : Int)) true (!x1)) true ((t0.getD (0 : Int).toNat (0 : Int)) == (0 : Int))) true ((t0.getD ((t0.length : Int) - (1 : Int)).toNat (0 : Int)) == (0 : Int))) rfl (fun c5 => ?_) (fun c5 => ?_)
  · replace H := condT c5 H
    refine AW.regionSeq ?_
    refine OpsW.seg 1 [2] [] [(2, .bool false)] (by kernel_rfl) trivial ?_
    refine OpsW.nil ?_
    obtain rfl := Option.some.inj H
    refine AW.recast (env' := [(2, .bool false)]) (h' := []) (StC.pure (.cons .im .nil)) ?_
    refine AW.ret ?_
    try simp only [Ex.then, Ex.inBlock, Ex.noGoto, Ex.jump, reduceIte, Nat.reduceEqDiff, reduceCtorEq]
    refine Done.gen rfl (.tmp .nil) ?_
    show _ = _
    kernel_rfl
  · replace H := condF c5 H
    refine AW.skip ?_
    refine AW.seq ?_
    refine AW.regionSeq ?_
    refine OpsW.seg 1 [4, 0] [] [(4, .int .i64 (1 : Int)), (0, slA (eI .u8) t0)] (by kernel_rfl) trivial ?_
    refine OpsW.nil ?_
    refine AW.block ?_
    refine AW.iterK (fun loop (s : Int) => f_R22_Clean_b1 t0 loop s) r (fun (s : Int) => [(0, slA (eI .u8) t0), (4, .int .i64 s)]) (fun (s : Int) => []) ?_ 1000000 (1 : Int) H (StC.pure (.cons .im (.cons .im .nil)))
    intro loop7 v6 H
    change f_R22_Clean_b1 t0 loop7 v6 = some r at H
    unfold f_R22_Clean_b1 at H
    change AW _ _ _ [(0, slA (eI .u8) t0), (4, .int .i64 v6)] [] _
    refine AW.seq ?_
    refine AW.regionSeq ?_
    refine OpsW.seg 4 [32, 0, 4] [] [(32, .bool (decide (v6 < (t0.length : Int)))), (0, slA (eI .u8) t0), (4, .int .i64 v6)] (by kernel_rfl) trivial ?_
    refine OpsW.nil ?_
    refine AW.cond (b := decide (v6 < (t0.length : Int))) rfl (fun c8 => ?_) (fun c8 => ?_)
    · replace H := condT c8 H
      refine AW.skip ?_
      refine AW.seq ?_
      refine AW.block ?_
      refine AW.regionSeq ?_
      obtain ⟨g9, H⟩ := G_some H
      obtain ⟨g10, H⟩ := G_some H
      refine OpsW.seg 4 [38, 0, 4] [inR (v6 - (1 : Int)), 0 ≤ (v6 - (1 : Int)) ∧ (v6 - (1 : Int)) < (t0.length : Int)] [(38, .ipt (t0.flatMap (eI .u8)) ((v6 - (1 : Int)).toNat * 1)), (0, slA (eI .u8) t0), (4, .int .i64 v6)] (by kernel_rfl) ⟨g9, g10, trivial⟩ ?_
      refine OpsW.asU (.int .u8 (t0.getD (v6 - (1 : Int)).toNat (0 : Int))) rfl rfl (T.load rfl trivial (by kernel_rfl) (fm_cell0 (eI .u8) 1 (fun _ => rfl) t0 (0 : Int) (v6 - (1 : Int)).toNat (ltN g10) (fun a => .val (.int .u8 a)) (fun _ => rfl))) ?_
      obtain ⟨g11, H⟩ := G_some H
      refine OpsW.seg 5 [44, 41, 0, 4] [((t0.getD (v6 - (1 : Int)).toNat (0 : Int)) == (0 : Int)) = true → ((t0.getD (v6 - (1 : Int)).toNat (0 : Int)) == (0 : Int)) = true, ((t0.getD (v6 - (1 : Int)).toNat (0 : Int)) == (0 : Int)) = true → ((t0.getD (v6 - (1 : Int)).toNat (0 : Int)) == (0 : Int)) = true, ((t0.getD (v6 - (1 : Int)).toNat (0 : Int)) == (0 : Int)) = true → (0 ≤ v6 ∧ v6 < (t0.length : Int))] [(44, .cnd ((t0.getD (v6 - (1 : Int)).toNat (0 : Int)) == (0 : Int)) (.ipt (t0.flatMap (eI .u8)) (v6.toNat * 1))), (41, .bool ((t0.getD (v6 - (1 : Int)).toNat (0 : Int)) == (0 : Int))), (0, slA (eI .u8) t0), (4, .int .i64 v6)] (by kernel_rfl) ⟨(fun h => h), (fun h => h), g11, trivial⟩ ?_
      refine OpsW.asG (c := (t0.getD (v6 - (1 : Int)).toNat (0 : Int)) == (0 : Int)) (.int .u8 (t0.getD v6.toNat (0 : Int))) rfl rfl rfl rfl (fun hc => T.load rfl hc (by kernel_rfl) (fm_cell0 (eI .u8) 1 (fun _ => rfl) t0 (0 : Int) v6.toNat (ltN (g11 hc)) (fun a => .val (.int .u8 a)) (fun _ => rfl))) ?_
      refine OpsW.seg 2 [47, 0, 4] [((t0.getD (v6 - (1 : Int)).toNat (0 : Int)) == (0 : Int)) = true → ((t0.getD (v6 - (1 : Int)).toNat (0 : Int)) == (0 : Int)) = true, ((t0.getD (v6 - (1 : Int)).toNat (0 : Int)) == (0 : Int)) = true → ((t0.getD (v6 - (1 : Int)).toNat (0 : Int)) == (0 : Int)) = true] [(47, .bool (cond ((t0.getD (v6 - (1 : Int)).toNat (0 : Int)) == (0 : Int)) ((t0.getD v6.toNat (0 : Int)) == (0 : Int)) false)), (0, slA (eI .u8) t0), (4, .int .i64 v6)] (by kernel_rfl) ⟨(fun h => h), (fun h => by first | exact h | simpa using h), trivial⟩ ?_
      refine OpsW.nil ?_
      refine AW.cond (b := cond ((t0.getD (v6 - (1 : Int)).toNat (0 : Int)) == (0 : Int)) ((t0.getD v6.toNat (0 : Int)) == (0 : Int)) false) rfl (fun c12 => ?_) (fun c12 => ?_)
      · replace H := condT c12 H
        refine AW.regionSeq ?_
        refine OpsW.seg 1 [2] [] [(2, .bool false)] (by kernel_rfl) trivial ?_
        refine OpsW.nil ?_
        obtain rfl := Option.some.inj H
        refine AW.recast (env' := [(2, .bool false)]) (h' := []) (StC.pure (.cons .im .nil)) ?_
        refine AW.ret ?_
        try simp only [Ex.then, Ex.inBlock, Ex.noGoto, Ex.jump, reduceIte, Nat.reduceEqDiff, reduceCtorEq]
        refine Done.gen rfl (.tmp .nil) ?_
        show _ = _
        kernel_rfl
      · replace H := condF c12 H
        refine AW.skip ?_
        refine AW.region ?_
        obtain ⟨g13, H⟩ := G_some H
        refine OpsW.seg 3 [4, 0] [inR (v6 + (1 : Int))] [(4, .int .i64 (v6 + (1 : Int))), (0, slA (eI .u8) t0)] (by kernel_rfl) ⟨g13, trivial⟩ ?_
        refine OpsW.nil ?_
        show ∃ y, _ ∧ StC _ _ _ _
        exact ⟨v6 + (1 : Int), H, (StC.pure (.cons .im (.cons .im .nil)))⟩
    · replace H := condF c8 H
      refine AW.exit ?_
      refine AW.regionSeq ?_
      refine OpsW.seg 1 [2] [] [(2, .bool true)] (by kernel_rfl) trivial ?_
      refine OpsW.nil ?_
      obtain rfl := Option.some.inj H
      refine AW.recast (env' := [(2, .bool true)]) (h' := []) (StC.pure (.cons .im .nil)) ?_
      refine AW.ret ?_
      try simp only [Ex.then, Ex.inBlock, Ex.noGoto, Ex.jump, reduceIte, Nat.reduceEqDiff, reduceCtorEq]
      refine Done.gen rfl (.tmp .nil) ?_
      show _ = _
      kernel_rfl
def f_R22_Plain_b1 (t0 : List Int) (x1 : Bool) (loop3 : (Int) → Option Bool) (v2 : Int) : Option Bool :=
  cond (decide (v2 < (t0.length : Int))) (
    G (0 ≤ v2 ∧ v2 < (t0.length : Int)) <|
    cond ((t0.getD v2.toNat (0 : Int)) == (63 : Int)) (
      some false) (
      G (inR (v2 + (1 : Int))) <|
      loop3 (v2 + (1 : Int)))) (
    some x1)
def f_R22_Plain (t0 : List Int) : Option Bool :=
  (f_R22_Clean t0).bind fun x1 =>
  iter (fun loop (s : Int) => f_R22_Plain_b1 t0 x1 loop s) 1000000 (0 : Int)
theorem f_R22_Plain_ok {t0 : List Int} {r : Bool} (H : f_R22_Plain t0 = some r) : QSpec Tryd.prog 29 [slA (eI .u8) t0] (.bool r) := by
  refine Spec.of_AW Tryd.func29 rfl (by simp [Tryd.ntmps29]) ?_
  rw [Tryd.ntmps29]
  unfold f_R22_Plain at H
  change AW _ _ _ [(0, slA (eI .u8) t0)] [] _
  refine AW.regionSeq ?_
  refine OpsW.seg 1 [0] [] [(0, slA (eI .u8) t0)] (by kernel_rfl) trivial ?_
  refine OpsW.nil ?_
  refine AW.regionSeq ?_
  refine OpsW.seg 1 [5, 0] [] [(5, slA (eI .u8) t0), (0, slA (eI .u8) t0)] (by kernel_rfl) trivial ?_
  obtain ⟨x1, hx1, H⟩ := bindS H
  refine OpsW.qcall rfl (by kernel_rfl) rfl rfl (glAll_sound trivial) (.cons (.pur rfl) .nil) (f_R22_Clean_ok hx1) rfl ?_
  refine OpsW.seg 1 [3, 0] [] [(3, .bool x1), (0, slA (eI .u8) t0)] (by kernel_rfl) trivial ?_
  refine OpsW.nil ?_
  refine AW.seq ?_
  refine AW.regionSeq ?_
  refine OpsW.seg 1 [4, 3, 0] [] [(4, .int .i64 (0 : Int)), (3, .bool x1), (0, slA (eI .u8) t0)] (by kernel_rfl) trivial ?_
  refine OpsW.nil ?_
  refine AW.block ?_
  refine AW.iterK (fun loop (s : Int) => f_R22_Plain_b1 t0 x1 loop s) r (fun (s : Int) => [(0, slA (eI .u8) t0), (3, .bool x1), (4, .int .i64 s)]) (fun (s : Int) => []) ?_ 1000000 (0 : Int) H (StC.pure (.cons .im (.cons .im (.cons .im .nil))))
  intro loop3 v2 H
  change f_R22_Plain_b1 t0 x1 loop3 v2 = some r at H
  unfold f_R22_Plain_b1 at H
  change AW _ _ _ [(0, slA (eI .u8) t0), (3, .bool x1), (4, .int .i64 v2)] [] _
  refine AW.seq ?_
  refine AW.regionSeq ?_
  refine OpsW.seg 4 [10, 0, 3, 4] [] [(10, .bool (decide (v2 < (t0.length : Int)))), (0, slA (eI .u8) t0), (3, .bool x1), (4, .int .i64 v2)] (by kernel_rfl) trivial ?_
  refine OpsW.nil ?_
  refine AW.cond (b := decide (v2 < (t0.length : Int))) rfl (fun c4 => ?_) (fun c4 => ?_)
  · replace H := condT c4 H
    refine AW.skip ?_
    refine AW.seq ?_
    refine AW.block ?_
    refine AW.regionSeq ?_
    obtain ⟨g5, H⟩ := G_some H
    refine OpsW.seg 3 [15, 0, 3, 4] [0 ≤ v2 ∧ v2 < (t0.length : Int)] [(15, .ipt (t0.flatMap (eI .u8)) (v2.toNat * 1)), (0, slA (eI .u8) t0), (3, .bool x1), (4, .int .i64 v2)] (by kernel_rfl) ⟨g5, trivial⟩ ?_
    refine OpsW.asU (.int .u8 (t0.getD v2.toNat (0 : Int))) rfl rfl (T.load rfl trivial (by kernel_rfl) (fm_cell0 (eI .u8) 1 (fun _ => rfl) t0 (0 : Int) v2.toNat (ltN g5) (fun a => .val (.int .u8 a)) (fun _ => rfl))) ?_
    refine OpsW.seg 1 [17, 0, 3, 4] [] [(17, .bool ((t0.getD v2.toNat (0 : Int)) == (63 : Int))), (0, slA (eI .u8) t0), (3, .bool x1), (4, .int .i64 v2)] (by kernel_rfl) trivial ?_
    refine OpsW.nil ?_
    refine AW.cond (b := (t0.getD v2.toNat (0 : Int)) == (63 : Int)) rfl (fun c6 => ?_) (fun c6 => ?_)
    · replace H := condT c6 H
      refine AW.regionSeq ?_
      refine OpsW.seg 1 [2] [] [(2, .bool false)] (by kernel_rfl) trivial ?_
      refine OpsW.nil ?_
      obtain rfl := Option.some.inj H
      refine AW.recast (env' := [(2, .bool false)]) (h' := []) (StC.pure (.cons .im .nil)) ?_
      refine AW.ret ?_
      try simp only [Ex.then, Ex.inBlock, Ex.noGoto, Ex.jump, reduceIte, Nat.reduceEqDiff, reduceCtorEq]
      refine Done.gen rfl (.tmp .nil) ?_
      show _ = _
      kernel_rfl
    · replace H := condF c6 H
      refine AW.skip ?_
      refine AW.region ?_
      obtain ⟨g7, H⟩ := G_some H
      refine OpsW.seg 3 [4, 0, 3] [inR (v2 + (1 : Int))] [(4, .int .i64 (v2 + (1 : Int))), (0, slA (eI .u8) t0), (3, .bool x1)] (by kernel_rfl) ⟨g7, trivial⟩ ?_
      refine OpsW.nil ?_
      show ∃ y, _ ∧ StC _ _ _ _
      exact ⟨v2 + (1 : Int), H, (StC.pure (.cons .im (.cons .im (.cons .im .nil))))⟩
  · replace H := condF c4 H
    refine AW.exit ?_
    refine AW.regionSeq ?_
    refine OpsW.seg 2 [2] [] [(2, .bool x1)] (by kernel_rfl) trivial ?_
    refine OpsW.nil ?_
    obtain rfl := Option.some.inj H
    refine AW.recast (env' := [(2, .bool x1)]) (h' := []) (StC.pure (.cons .im .nil)) ?_
    refine AW.ret ?_
    try simp only [Ex.then, Ex.inBlock, Ex.noGoto, Ex.jump, reduceIte, Nat.reduceEqDiff, reduceCtorEq]
    refine Done.gen rfl (.tmp .nil) ?_
    show _ = _
    kernel_rfl
def f_R19_Letters  : Option (List Int) :=
  some [(1 : Int), (3 : Int), (9 : Int), (25 : Int), (17 : Int), (11 : Int), (27 : Int), (19 : Int), (10 : Int), (26 : Int), (5 : Int), (7 : Int), (13 : Int), (29 : Int), (21 : Int), (15 : Int), (31 : Int), (23 : Int), (14 : Int), (30 : Int), (37 : Int), (39 : Int), (58 : Int), (45 : Int), (61 : Int), (53 : Int)]
theorem f_R19_Letters_ok  {r : List Int} (H : f_R19_Letters = some r) : QSpec Tryd.prog 41 [] (slA (eI .u8) r) := by
  refine Spec.of_AW Tryd.func41 rfl (by simp [Tryd.ntmps41]) ?_
  rw [Tryd.ntmps41]
  unfold f_R19_Letters at H
  change AW _ _ _ [] [] _
  refine AW.regionSeq ?_
  refine OpsW.seg 1 [] [] [] (by kernel_rfl) trivial ?_
  refine OpsW.nil ?_
  refine AW.regionSeq ?_
  refine OpsW.buildTI (enc := eI .u8) [(1 : Int), (3 : Int), (9 : Int), (25 : Int), (17 : Int), (11 : Int), (27 : Int), (19 : Int), (10 : Int), (26 : Int), (5 : Int), (7 : Int), (13 : Int), (29 : Int), (21 : Int), (15 : Int), (31 : Int), (23 : Int), (14 : Int), (30 : Int), (37 : Int), (39 : Int), (58 : Int), (45 : Int), (61 : Int), (53 : Int)] rfl rfl rfl E34 (fun _ => rfl) (by decide) ⟨trivial, by kernel_rfl, by kernel_rfl, by kernel_rfl, rfl⟩ ?_
  refine OpsW.seg 1 [0] [] [(0, slA (eI .u8) [(1 : Int), (3 : Int), (9 : Int), (25 : Int), (17 : Int), (11 : Int), (27 : Int), (19 : Int), (10 : Int), (26 : Int), (5 : Int), (7 : Int), (13 : Int), (29 : Int), (21 : Int), (15 : Int), (31 : Int), (23 : Int), (14 : Int), (30 : Int), (37 : Int), (39 : Int), (58 : Int), (45 : Int), (61 : Int), (53 : Int)])] (by kernel_rfl) trivial ?_
  refine OpsW.nil ?_
  obtain rfl := Option.some.inj H
  refine AW.recast (env' := [(0, slA (eI .u8) [(1 : Int), (3 : Int), (9 : Int), (25 : Int), (17 : Int), (11 : Int), (27 : Int), (19 : Int), (10 : Int), (26 : Int), (5 : Int), (7 : Int), (13 : Int), (29 : Int), (21 : Int), (15 : Int), (31 : Int), (23 : Int), (14 : Int), (30 : Int), (37 : Int), (39 : Int), (58 : Int), (45 : Int), (61 : Int), (53 : Int)])]) (h' := []) (StC.pure (.cons .im .nil)) ?_
  refine AW.ret ?_
  try simp only [Ex.then, Ex.inBlock, Ex.noGoto, Ex.jump, reduceIte, Nat.reduceEqDiff, reduceCtorEq]
  refine Done.gen rfl (.tmp .nil) ?_
  show _ = _
  kernel_rfl
def f_R19_Digit (t0 : Int) : Option Int :=
  (f_R19_Letters).bind fun x1 =>
  G (inR (t0 + (9 : Int))) <|
  G (0 ≤ (Int.tmod (t0 + (9 : Int)) (10 : Int)) ∧ (Int.tmod (t0 + (9 : Int)) (10 : Int)) < (x1.length : Int)) <|
  some (x1.getD (Int.tmod (t0 + (9 : Int)) (10 : Int)).toNat (0 : Int))
theorem f_R19_Digit_ok {t0 : Int} {r : Int} (H : f_R19_Digit t0 = some r) : QSpec Tryd.prog 37 [.int .i64 t0] (.int .u8 r) := by
  refine Spec.of_AW Tryd.func37 rfl (by simp [Tryd.ntmps37]) ?_
  rw [Tryd.ntmps37]
  unfold f_R19_Digit at H
  change AW _ _ _ [(0, .int .i64 t0)] [] _
  refine AW.regionSeq ?_
  refine OpsW.seg 1 [0] [] [(0, .int .i64 t0)] (by kernel_rfl) trivial ?_
  refine OpsW.nil ?_
  refine AW.regionSeq ?_
  obtain ⟨x1, hx1, H⟩ := bindS H
  refine OpsW.qcall rfl (by kernel_rfl) rfl rfl (glAll_sound trivial) .nil (f_R19_Letters_ok hx1) rfl ?_
  obtain ⟨g2, H⟩ := G_some H
  obtain ⟨g3, H⟩ := G_some H
  refine OpsW.seg 4 [7] [inR (t0 + (9 : Int)), (10 : Int) ≠ 0, 0 ≤ (Int.tmod (t0 + (9 : Int)) (10 : Int)) ∧ (Int.tmod (t0 + (9 : Int)) (10 : Int)) < (x1.length : Int)] [(7, .ipt (x1.flatMap (eI .u8)) ((Int.tmod (t0 + (9 : Int)) (10 : Int)).toNat * 1))] (by kernel_rfl) ⟨g2, (by decide), g3, trivial⟩ ?_
  refine OpsW.asU (.int .u8 (x1.getD (Int.tmod (t0 + (9 : Int)) (10 : Int)).toNat (0 : Int))) rfl rfl (T.load rfl trivial (by kernel_rfl) (fm_cell (eI .u8) 1 (fun _ => rfl) x1 (0 : Int) (Int.tmod (t0 + (9 : Int)) (10 : Int)).toNat (ltN g3) 0 (fun a => .val (.int .u8 a)) (fun _ => rfl))) ?_
  refine OpsW.seg 1 [2] [] [(2, .int .u8 (x1.getD (Int.tmod (t0 + (9 : Int)) (10 : Int)).toNat (0 : Int)))] (by kernel_rfl) trivial ?_
  refine OpsW.nil ?_
  obtain rfl := Option.some.inj H
  refine AW.recast (env' := [(2, .int .u8 (x1.getD (Int.tmod (t0 + (9 : Int)) (10 : Int)).toNat (0 : Int)))]) (h' := []) (StC.pure (.cons .im .nil)) ?_
  refine AW.ret ?_
  try simp only [Ex.then, Ex.inBlock, Ex.noGoto, Ex.jump, reduceIte, Nat.reduceEqDiff, reduceCtorEq]
  refine Done.gen rfl (.tmp .nil) ?_
  show _ = _
  kernel_rfl
def f_R19_Write_k1 (loop4 : ((List Int) × Int) → Option ((List Int) × Int)) (v3 : Int) (v6 : List Int) : Option ((List Int) × Int) :=
  G (inR (Int.tdiv v3 (10 : Int))) <|
  loop4 (v6, Int.tdiv v3 (10 : Int))
def f_R19_Write_b1 (t0 : Int) (loop4 : ((List Int) × Int) → Option ((List Int) × Int)) (v2 : List Int) (v3 : Int) : Option ((List Int) × Int) :=
  cond (decide ((0 : Int) < v3)) (
    cond (cond (decide (v3 ≤ t0)) true (v3 == (1 : Int))) (
      G (v3 ≠ 0) <|
      G (inR (Int.tdiv t0 v3)) <|
      (f_R19_Digit (Int.tmod (Int.tdiv t0 v3) (10 : Int))).bind fun x11 =>
      G (room 1 (v2.length + 1)) <|
      f_R19_Write_k1 loop4 v3 (v2 ++ [x11])) (
      f_R19_Write_k1 loop4 v3 v2)) (
    some (v2, (0 : Int)))
def f_R19_Write (t0 : Int) : Option ((List Int) × Int) :=
  cond (cond (decide (t0 < (0 : Int))) true (decide ((99999 : Int) < t0))) (
    some ([], (190 : Int))) (
    iter (fun loop (s : (List Int) × Int) => f_R19_Write_b1 t0 loop s.1 s.2) 1000000 ([(60 : Int)], (10000 : Int)))
theorem f_R19_Write_ok {t0 : Int} {r : (List Int) × Int} (H : f_R19_Write t0 = some r) : QSpec Tryd.prog 30 [.int .i64 t0] (.tup [slA (eI .u8) r.1, .int .i64 r.2]) := by
  refine Spec.of_AW Tryd.func30 rfl (by simp [Tryd.ntmps30]) ?_
  rw [Tryd.ntmps30]
  unfold f_R19_Write at H
  change AW _ _ _ [(0, .int .i64 t0)] [] _
  refine AW.regionSeq ?_
  refine OpsW.seg 2 [0] [] [(0, .int .i64 t0)] (by kernel_rfl) trivial ?_
  refine OpsW.nil ?_
  refine AW.seq ?_
  refine AW.regionSeq ?_
  refine OpsW.seg 6 [11, 0] [(!(decide (t0 < (0 : Int)))) = true → (!(decide (t0 < (0 : Int)))) = true, (decide (t0 < (0 : Int))) = false → (!(decide (t0 < (0 : Int)))) = true] [(11, .bool (cond (decide (t0 < (0 : Int))) true (decide ((99999 : Int) < t0)))), (0, .int .i64 t0)] (by kernel_rfl) ⟨(fun h => h), (fun h => by first | exact h | simpa using h), trivial⟩ ?_
  refine OpsW.nil ?_
  refine AW.cond (b := cond (decide (t0 < (0 : Int))) true (decide ((99999 : Int) < t0))) rfl (fun c1 => ?_) (fun c1 => ?_)
  · replace H := condT c1 H
    refine AW.regionSeq ?_
    refine OpsW.seg 2 [3, 2] [] [(3, .int .i64 (190 : Int)), (2, .im (.val (.slice none 0 0)))] (by kernel_rfl) trivial ?_
    refine OpsW.nil ?_
    obtain rfl := Option.some.inj H
    refine AW.recast (env' := [(2, slA (eI .u8) []), (3, .int .i64 (190 : Int))]) (h' := []) (StC.pure (.cons .nil (.cons .im .nil))) ?_
    refine AW.ret ?_
    try simp only [Ex.then, Ex.inBlock, Ex.noGoto, Ex.jump, reduceIte, Nat.reduceEqDiff, reduceCtorEq]
    refine Done.gen rfl (.tmp (.tmp .nil)) ?_
    show _ = _
    kernel_rfl
  · replace H := condF c1 H
    refine AW.skip ?_
    refine AW.regionSeq ?_
    refine OpsW.buildT (enc := eI .u8) [(60 : Int)] rfl rfl rfl 12 rfl E34 (fun _ => rfl) (by decide) trivial (by kernel_rfl) (by kernel_rfl) (by kernel_rfl) rfl ?_
    refine OpsW.seg 1 [4, 0] [] [(4, .rsl 12 0 0 ([(60 : Int)].length)), (0, .int .i64 t0)] (by kernel_rfl) trivial ?_
    refine OpsW.recast (env' := [(4, .rsl 4 0 0 ([(60 : Int)].length)), (0, .int .i64 t0)]) (h' := [(4, rtA 0 43 1 (eI .u8) [(60 : Int)])]) (StC.mk (phi [(4, some 12)]) (.old rfl rfl rfl rfl rfl (CstL.ims _) .nil) rfl (.cons (.rsl rfl rfl rfl rfl rfl rfl) (.cons .im .nil))) ?_
    refine OpsW.nil ?_
    refine AW.seq ?_
    refine AW.regionSeq ?_
    refine OpsW.seg 1 [5, 4, 0] [] [(5, .int .i64 (10000 : Int)), (4, .rsl 4 0 0 ([(60 : Int)].length)), (0, .int .i64 t0)] (by kernel_rfl) trivial ?_
    refine OpsW.nil ?_
    refine AW.block ?_
    refine AW.iterK (fun loop (s : (List Int) × Int) => f_R19_Write_b1 t0 loop s.1 s.2) r (fun (s : (List Int) × Int) => [(0, .int .i64 t0), (4, .rsl 4 0 0 s.1.length), (5, .int .i64 s.2)]) (fun (s : (List Int) × Int) => [(4, rtA 0 43 1 (eI .u8) s.1)]) ?_ 1000000 ([(60 : Int)], (10000 : Int)) H (StC.mk (phi [(4, some 4)]) (.old rfl rfl rfl rfl rfl (CstL.ims _) .nil) rfl (.cons .im (.cons (.rsl rfl rfl rfl rfl rfl rfl) (.cons .im .nil))))
    intro loop4 s H
    obtain ⟨v2, v3⟩ := s
    change f_R19_Write_b1 t0 loop4 v2 v3 = some r at H
    unfold f_R19_Write_b1 at H
    change AW _ _ _ [(0, .int .i64 t0), (4, .rsl 4 0 0 v2.length), (5, .int .i64 v3)] [(4, rtA 0 43 1 (eI .u8) v2)] _
    refine AW.seq ?_
    refine AW.regionSeq ?_
    refine OpsW.seg 2 [14, 0, 4, 5] [] [(14, .bool (decide ((0 : Int) < v3))), (0, .int .i64 t0), (4, .rsl 4 0 0 v2.length), (5, .int .i64 v3)] (by kernel_rfl) trivial ?_
    refine OpsW.nil ?_
    refine AW.cond (b := decide ((0 : Int) < v3)) rfl (fun c5 => ?_) (fun c5 => ?_)
    · replace H := condT c5 H
      refine AW.skip ?_
      refine AW.joinK (fun (y : (List Int)) => f_R19_Write_k1 loop4 v3 y) r (fun (y : (List Int)) => [(0, .int .i64 t0), (4, .rsl 4 0 0 y.length), (5, .int .i64 v3)]) (fun (y : (List Int)) => [(4, rtA 0 43 1 (eI .u8) y)]) ?_ ?_
      · refine AW.block ?_
        refine AW.regionSeq ?_
        refine OpsW.seg 7 [23, 0, 4, 5] [(!(decide (v3 ≤ t0))) = true → (!(decide (v3 ≤ t0))) = true, (decide (v3 ≤ t0)) = false → (!(decide (v3 ≤ t0))) = true] [(23, .bool (cond (decide (v3 ≤ t0)) true (v3 == (1 : Int)))), (0, .int .i64 t0), (4, .rsl 4 0 0 v2.length), (5, .int .i64 v3)] (by kernel_rfl) ⟨(fun h => h), (fun h => by first | exact h | simpa using h), trivial⟩ ?_
        refine OpsW.nil ?_
        refine AW.cond (b := cond (decide (v3 ≤ t0)) true (v3 == (1 : Int))) rfl (fun c8 => ?_) (fun c8 => ?_)
        · replace H := condT c8 H
          refine AW.region ?_
          obtain ⟨g9, H⟩ := G_some H
          obtain ⟨g10, H⟩ := G_some H
          refine OpsW.seg 5 [28, 24, 0, 4, 5] [v3 ≠ 0, inR (Int.tdiv t0 v3), (10 : Int) ≠ 0] [(28, .int .i64 (Int.tmod (Int.tdiv t0 v3) (10 : Int))), (24, .rsl 4 0 0 v2.length), (0, .int .i64 t0), (4, .rsl 4 0 0 v2.length), (5, .int .i64 v3)] (by kernel_rfl) ⟨g9, g10, (by decide), trivial⟩ ?_
          obtain ⟨x11, hx11, H⟩ := bindS H
          refine OpsW.qcall rfl (by kernel_rfl) rfl rfl (glAll_sound trivial) (.cons (.pur rfl) .nil) (f_R19_Digit_ok hx11) rfl ?_
          obtain ⟨g12, H⟩ := G_some H
          refine OpsW.appendLF (enc := eI .u8) [x11] rfl rfl rfl (by decide) rfl rfl rfl (by simp) E34 (fun _ => rfl) (by decide) trivial (by kernel_rfl) (by kernel_rfl) (by kernel_rfl) rfl rfl rfl g12 ?_
          refine OpsW.seg 1 [4, 0, 5] [] [(4, .rsl 4 1 0 ((v2 ++ [x11]).length)), (0, .int .i64 t0), (5, .int .i64 v3)] (by kernel_rfl) trivial ?_
          refine OpsW.recast (env' := [(4, .rsl 4 0 0 ((v2 ++ [x11]).length)), (0, .int .i64 t0), (5, .int .i64 v3)]) (h' := [(4, rtA 0 43 1 (eI .u8) (v2 ++ [x11]))]) (StC.mk (phi [(4, some 4)]) (.old rfl rfl rfl rfl rfl (CstL.ims _) .nil) rfl (.cons (.rsl rfl rfl rfl rfl rfl rfl) (.cons .im (.cons .im .nil)))) ?_
          refine OpsW.nil ?_
          show ∃ y, _ ∧ StC _ _ _ _
          exact ⟨v2 ++ [x11], H, (StC.mk (phi [(4, some 4)]) (.old rfl rfl rfl rfl rfl (CstL.ims _) .nil) rfl (.cons .im (.cons (.rsl rfl rfl rfl rfl rfl rfl) (.cons .im .nil))))⟩
        · replace H := condF c8 H
          refine AW.skip ?_
          show ∃ y, _ ∧ StC _ _ _ _
          exact ⟨v2, H, (StC.mk (phi [(4, some 4)]) (.old rfl rfl rfl rfl rfl (CstL.ims _) .nil) rfl (.cons .im (.cons (.rsl rfl rfl rfl rfl rfl rfl) (.cons .im .nil))))⟩
      · intro v6 H
        change f_R19_Write_k1 loop4 v3 v6 = some r at H
        unfold f_R19_Write_k1 at H
        change AW _ _ _ [(0, .int .i64 t0), (4, .rsl 4 0 0 v6.length), (5, .int .i64 v3)] [(4, rtA 0 43 1 (eI .u8) v6)] _
        refine AW.region ?_
        obtain ⟨g7, H⟩ := G_some H
        refine OpsW.seg 3 [5, 0, 4] [(10 : Int) ≠ 0, inR (Int.tdiv v3 (10 : Int))] [(5, .int .i64 (Int.tdiv v3 (10 : Int))), (0, .int .i64 t0), (4, .rsl 4 0 0 v6.length)] (by kernel_rfl) ⟨(by decide), g7, trivial⟩ ?_
        refine OpsW.nil ?_
        show ∃ y, _ ∧ StC _ _ _ _
        exact ⟨(v6, Int.tdiv v3 (10 : Int)), H, (StC.mk (phi [(4, some 4)]) (.old rfl rfl rfl rfl rfl (CstL.ims _) .nil) rfl (.cons .im (.cons (.rsl rfl rfl rfl rfl rfl rfl) (.cons .im .nil))))⟩
    · replace H := condF c5 H
      refine AW.exit ?_
      refine AW.regionSeq ?_
      refine OpsW.seg 3 [3, 2] [] [(3, .int .i64 (0 : Int)), (2, .rsl 4 0 0 v2.length)] (by kernel_rfl) trivial ?_
      refine OpsW.recast (env' := [(3, .int .i64 (0 : Int)), (2, slA (eI .u8) v2)]) (h' := []) (StC.mk (phi []) .nil rfl (.cons .im (.cons (.frz rfl rfl rfl (frz_all (eI .u8) 1 (fun _ => rfl) v2) (fm_length (eI .u8) 1 (fun _ => rfl) v2) (phi_ne rfl)) .nil))) ?_
      refine OpsW.nil ?_
      obtain rfl := Option.some.inj H
      refine AW.recast (env' := [(2, slA (eI .u8) v2), (3, .int .i64 (0 : Int))]) (h' := []) (StC.pure (.cons .im (.cons .im .nil))) ?_
      refine AW.ret ?_
      try simp only [Ex.then, Ex.inBlock, Ex.noGoto, Ex.jump, reduceIte, Nat.reduceEqDiff, reduceCtorEq]
      refine Done.gen rfl (.tmp (.tmp .nil)) ?_
      show _ = _
      kernel_rfl
def f_R22_Refer_b1 (t1 : List Int) (loop6 : ((List Int) × Int) → Option ((List Int) × Int)) (v4 : List Int) (v5 : Int) : Option ((List Int) × Int) :=
  cond (decide (v5 < (t1.length : Int))) (
    G (0 ≤ v5 ∧ v5 < (t1.length : Int)) <|
    G (((!(cond (decide ((t1.getD v5.toNat (0 : Int)) < (1 : Int))) true (decide ((99999 : Int) < (t1.getD v5.toNat (0 : Int)))))) && (decide ((0 : Int) < v5))) = true → inR (v5 - (1 : Int))) <|
    G (((!(cond (decide ((t1.getD v5.toNat (0 : Int)) < (1 : Int))) true (decide ((99999 : Int) < (t1.getD v5.toNat (0 : Int)))))) && (decide ((0 : Int) < v5))) = true → (0 ≤ (v5 - (1 : Int)) ∧ (v5 - (1 : Int)) < (t1.length : Int))) <|
    G (((!(cond (decide ((t1.getD v5.toNat (0 : Int)) < (1 : Int))) true (decide ((99999 : Int) < (t1.getD v5.toNat (0 : Int)))))) && (decide ((0 : Int) < v5))) = true → inR ((t1.getD (v5 - (1 : Int)).toNat (0 : Int)) + (1 : Int))) <|
    cond (cond (cond (decide ((t1.getD v5.toNat (0 : Int)) < (1 : Int))) true (decide ((99999 : Int) < (t1.getD v5.toNat (0 : Int))))) true (cond (decide ((0 : Int) < v5)) ((t1.getD v5.toNat (0 : Int)) != ((t1.getD (v5 - (1 : Int)).toNat (0 : Int)) + (1 : Int))) false)) (
      some ([], (220 : Int))) (
      (f_R19_Write (t1.getD v5.toNat (0 : Int))).bind fun x13 =>
      G (room 1 (v4.length + 2)) <|
      G (room 1 ((v4 ++ [(0 : Int), (63 : Int)]).length + x13.1.length)) <|
      G (inR (v5 + (1 : Int))) <|
      loop6 ((v4 ++ [(0 : Int), (63 : Int)]) ++ x13.1, v5 + (1 : Int)))) (
    some (v4, (0 : Int)))
def f_R22_Refer (t0 : List Int) (t1 : List Int) : Option ((List Int) × Int) :=
  (f_R22_Plain t0).bind fun x1 =>
  cond (!x1) (
    some ([], (180 : Int))) (
    G (room 1 (([] : List Int).length + t0.length)) <|
    iter (fun loop (s : (List Int) × Int) => f_R22_Refer_b1 t1 loop s.1 s.2) 1000000 (([] : List Int) ++ t0, (0 : Int)))
theorem f_R22_Refer_own {t0 : List Int} {t1 : List Int} {r : (List Int) × Int} (H : f_R22_Refer t0 t1 = some r) : Abs.Spec Tryd.prog 19 [slA (eI .u8) t0, slA (eI .i64) t1] [] (fun x h => x = .tup [.rsl 1000 0 0 r.1.length, .int .i64 r.2] ∧ h = [(1000, rtA 0 43 1 (eI .u8) r.1)]) := by
  refine Spec.of_AW Tryd.func19 rfl (by simp [Tryd.ntmps19]) ?_
  rw [Tryd.ntmps19]
  unfold f_R22_Refer at H
  change AW _ _ _ [(0, slA (eI .u8) t0), (1, slA (eI .i64) t1)] [] _
  refine AW.regionSeq ?_
  refine OpsW.seg 2 [0, 1] [] [(0, slA (eI .u8) t0), (1, slA (eI .i64) t1)] (by kernel_rfl) trivial ?_
  refine OpsW.nil ?_
  refine AW.regionSeq ?_
  refine OpsW.seg 1 [12, 0, 1] [] [(12, slA (eI .u8) t0), (0, slA (eI .u8) t0), (1, slA (eI .i64) t1)] (by kernel_rfl) trivial ?_
  obtain ⟨x1, hx1, H⟩ := bindS H
  refine OpsW.qcall rfl (by kernel_rfl) rfl rfl (glAll_sound trivial) (.cons (.pur rfl) .nil) (f_R22_Plain_ok hx1) rfl ?_
  refine OpsW.seg 1 [6, 0, 1] [] [(6, .bool x1), (0, slA (eI .u8) t0), (1, slA (eI .i64) t1)] (by kernel_rfl) trivial ?_
  refine OpsW.nil ?_
  refine AW.seq ?_
  refine AW.regionSeq ?_
  refine OpsW.seg 2 [15, 0, 1] [] [(15, .bool (!x1)), (0, slA (eI .u8) t0), (1, slA (eI .i64) t1)] (by kernel_rfl) trivial ?_
  refine OpsW.nil ?_
  refine AW.cond (b := !x1) rfl (fun c2 => ?_) (fun c2 => ?_)
  · replace H := condT c2 H
    refine AW.regionSeq ?_
    refine OpsW.seg 2 [5, 4] [] [(5, .int .i64 (180 : Int)), (4, .im (.val (.slice none 0 0)))] (by kernel_rfl) trivial ?_
    refine OpsW.nil ?_
    obtain rfl := Option.some.inj H
    refine AW.recast (env' := [(4, .rsl 1000 0 0 0), (5, .int .i64 (180 : Int))]) (h' := [(1000, rtA 0 43 1 (eI .u8) ([] : List Int))]) (StC.mk (phi [(1000, none)]) (.new rfl .nil) rfl (.cons (.nilr rfl rfl rfl) (.cons .im .nil))) ?_
    refine AW.ret ?_
    try simp only [Ex.then, Ex.inBlock, Ex.noGoto, Ex.jump, reduceIte, Nat.reduceEqDiff, reduceCtorEq]
    refine Done.gen rfl (.tmp (.tmp .nil)) ?_
    exact ⟨by kernel_rfl, rfl⟩
  · replace H := condF c2 H
    refine AW.skip ?_
    refine AW.regionSeq ?_
    refine OpsW.buildT (enc := eI .u8) ([] : List Int) rfl rfl rfl 16 rfl E34 (fun _ => rfl) (by decide) trivial (by kernel_rfl) (by kernel_rfl) (by kernel_rfl) rfl ?_
    refine OpsW.seg 1 [17, 16, 1] [] [(17, slA (eI .u8) t0), (16, .rsl 16 0 0 (([] : List Int).length)), (1, slA (eI .i64) t1)] (by kernel_rfl) trivial ?_
    obtain ⟨g3, H⟩ := G_some H
    refine OpsW.appendF (enc := eI .u8) (ys := t0) rfl rfl rfl E34 (fun _ => rfl) rfl rfl trivial (SrcA.typed (enc := eI .u8) (fun _ => rfl) (by kernel_rfl) t0) rfl g3 ?_
    refine OpsW.seg 1 [7, 1] [] [(7, .rsl 16 1 0 ((([] : List Int) ++ t0).length)), (1, slA (eI .i64) t1)] (by kernel_rfl) trivial ?_
    refine OpsW.recast (env' := [(7, .rsl 7 0 0 ((([] : List Int) ++ t0).length)), (1, slA (eI .i64) t1)]) (h' := [(7, rtA 0 43 1 (eI .u8) (([] : List Int) ++ t0))]) (StC.mk (phi [(7, some 16)]) (.old rfl rfl rfl rfl rfl (CstL.ims _) .nil) rfl (.cons (.rsl rfl rfl rfl rfl rfl rfl) (.cons .im .nil))) ?_
    refine OpsW.nil ?_
    refine AW.seq ?_
    refine AW.regionSeq ?_
    refine OpsW.seg 1 [8, 7, 1] [] [(8, .int .i64 (0 : Int)), (7, .rsl 7 0 0 ((([] : List Int) ++ t0).length)), (1, slA (eI .i64) t1)] (by kernel_rfl) trivial ?_
    refine OpsW.nil ?_
    refine AW.block ?_
    refine AW.iterK (fun loop (s : (List Int) × Int) => f_R22_Refer_b1 t1 loop s.1 s.2) r (fun (s : (List Int) × Int) => [(1, slA (eI .i64) t1), (7, .rsl 7 0 0 s.1.length), (8, .int .i64 s.2)]) (fun (s : (List Int) × Int) => [(7, rtA 0 43 1 (eI .u8) s.1)]) ?_ 1000000 (([] : List Int) ++ t0, (0 : Int)) H (StC.mk (phi [(7, some 7)]) (.old rfl rfl rfl rfl rfl (CstL.ims _) .nil) rfl (.cons .im (.cons (.rsl rfl rfl rfl rfl rfl rfl) (.cons .im .nil))))
    intro loop6 s H
    obtain ⟨v4, v5⟩ := s
    change f_R22_Refer_b1 t1 loop6 v4 v5 = some r at H
    unfold f_R22_Refer_b1 at H
    change AW _ _ _ [(1, slA (eI .i64) t1), (7, .rsl 7 0 0 v4.length), (8, .int .i64 v5)] [(7, rtA 0 43 1 (eI .u8) v4)] _
    refine AW.seq ?_
    refine AW.regionSeq ?_
    refine OpsW.seg 4 [22, 1, 7, 8] [] [(22, .bool (decide (v5 < (t1.length : Int)))), (1, slA (eI .i64) t1), (7, .rsl 7 0 0 v4.length), (8, .int .i64 v5)] (by kernel_rfl) trivial ?_
    refine OpsW.nil ?_
    refine AW.cond (b := decide (v5 < (t1.length : Int))) rfl (fun c7 => ?_) (fun c7 => ?_)
    · replace H := condT c7 H
      refine AW.skip ?_
      refine AW.seq ?_
      refine AW.block ?_
      refine AW.regionSeq ?_
      obtain ⟨g8, H⟩ := G_some H
      refine OpsW.seg 3 [27, 1, 7, 8] [0 ≤ v5 ∧ v5 < (t1.length : Int)] [(27, .ipt (t1.flatMap (eI .i64)) (v5.toNat * 1)), (1, slA (eI .i64) t1), (7, .rsl 7 0 0 v4.length), (8, .int .i64 v5)] (by kernel_rfl) ⟨g8, trivial⟩ ?_
      refine OpsW.asU (.int .i64 (t1.getD v5.toNat (0 : Int))) rfl rfl (T.load rfl trivial (by kernel_rfl) (fm_cell0 (eI .i64) 1 (fun _ => rfl) t1 (0 : Int) v5.toNat (ltN g8) (fun a => .val (.int .i64 a)) (fun _ => rfl))) ?_
      refine OpsW.seg 1 [9, 1, 7, 8] [] [(9, .int .i64 (t1.getD v5.toNat (0 : Int))), (1, slA (eI .i64) t1), (7, .rsl 7 0 0 v4.length), (8, .int .i64 v5)] (by kernel_rfl) trivial ?_
      refine OpsW.nil ?_
      refine AW.seq ?_
      refine AW.regionSeq ?_
      obtain ⟨g9, H⟩ := G_some H
      obtain ⟨g10, H⟩ := G_some H
      refine OpsW.seg 15 [43, 39, 38, 35, 9, 1, 7, 8] [(!(decide ((t1.getD v5.toNat (0 : Int)) < (1 : Int)))) = true → (!(decide ((t1.getD v5.toNat (0 : Int)) < (1 : Int)))) = true, (decide ((t1.getD v5.toNat (0 : Int)) < (1 : Int))) = false → (!(decide ((t1.getD v5.toNat (0 : Int)) < (1 : Int)))) = true, (!(cond (decide ((t1.getD v5.toNat (0 : Int)) < (1 : Int))) true (decide ((99999 : Int) < (t1.getD v5.toNat (0 : Int)))))) = true → (!(cond (decide ((t1.getD v5.toNat (0 : Int)) < (1 : Int))) true (decide ((99999 : Int) < (t1.getD v5.toNat (0 : Int)))))) = true, (!(cond (decide ((t1.getD v5.toNat (0 : Int)) < (1 : Int))) true (decide ((99999 : Int) < (t1.getD v5.toNat (0 : Int)))))) = true → (!(cond (decide ((t1.getD v5.toNat (0 : Int)) < (1 : Int))) true (decide ((99999 : Int) < (t1.getD v5.toNat (0 : Int)))))) = true, ((!(cond (decide ((t1.getD v5.toNat (0 : Int)) < (1 : Int))) true (decide ((99999 : Int) < (t1.getD v5.toNat (0 : Int)))))) && (decide ((0 : Int) < v5))) = true → ((!(cond (decide ((t1.getD v5.toNat (0 : Int)) < (1 : Int))) true (decide ((99999 : Int) < (t1.getD v5.toNat (0 : Int)))))) && (decide ((0 : Int) < v5))) = true, ((!(cond (decide ((t1.getD v5.toNat (0 : Int)) < (1 : Int))) true (decide ((99999 : Int) < (t1.getD v5.toNat (0 : Int)))))) && (decide ((0 : Int) < v5))) = true → inR (v5 - (1 : Int)), ((!(cond (decide ((t1.getD v5.toNat (0 : Int)) < (1 : Int))) true (decide ((99999 : Int) < (t1.getD v5.toNat (0 : Int)))))) && (decide ((0 : Int) < v5))) = true → ((!(cond (decide ((t1.getD v5.toNat (0 : Int)) < (1 : Int))) true (decide ((99999 : Int) < (t1.getD v5.toNat (0 : Int)))))) && (decide ((0 : Int) < v5))) = true, ((!(cond (decide ((t1.getD v5.toNat (0 : Int)) < (1 : Int))) true (decide ((99999 : Int) < (t1.getD v5.toNat (0 : Int)))))) && (decide ((0 : Int) < v5))) = true → ((!(cond (decide ((t1.getD v5.toNat (0 : Int)) < (1 : Int))) true (decide ((99999 : Int) < (t1.getD v5.toNat (0 : Int)))))) && (decide ((0 : Int) < v5))) = true, ((!(cond (decide ((t1.getD v5.toNat (0 : Int)) < (1 : Int))) true (decide ((99999 : Int) < (t1.getD v5.toNat (0 : Int)))))) && (decide ((0 : Int) < v5))) = true → (0 ≤ (v5 - (1 : Int)) ∧ (v5 - (1 : Int)) < (t1.length : Int))] [(43, .cnd ((!(cond (decide ((t1.getD v5.toNat (0 : Int)) < (1 : Int))) true (decide ((99999 : Int) < (t1.getD v5.toNat (0 : Int)))))) && (decide ((0 : Int) < v5))) (.ipt (t1.flatMap (eI .i64)) ((v5 - (1 : Int)).toNat * 1))), (39, .cnd ((!(cond (decide ((t1.getD v5.toNat (0 : Int)) < (1 : Int))) true (decide ((99999 : Int) < (t1.getD v5.toNat (0 : Int)))))) && (decide ((0 : Int) < v5))) (.int .i64 (t1.getD v5.toNat (0 : Int)))), (38, .cnd (!(cond (decide ((t1.getD v5.toNat (0 : Int)) < (1 : Int))) true (decide ((99999 : Int) < (t1.getD v5.toNat (0 : Int)))))) (.bool (decide ((0 : Int) < v5)))), (35, .bool (cond (decide ((t1.getD v5.toNat (0 : Int)) < (1 : Int))) true (decide ((99999 : Int) < (t1.getD v5.toNat (0 : Int)))))), (9, .int .i64 (t1.getD v5.toNat (0 : Int))), (1, slA (eI .i64) t1), (7, .rsl 7 0 0 v4.length), (8, .int .i64 v5)] (by kernel_rfl) ⟨(fun h => h), (fun h => by first | exact h | simpa using h), (fun h => h), (fun h => h), (fun h => h), g9, (fun h => h), (fun h => h), g10, trivial⟩ ?_
      refine OpsW.asG (c := (!(cond (decide ((t1.getD v5.toNat (0 : Int)) < (1 : Int))) true (decide ((99999 : Int) < (t1.getD v5.toNat (0 : Int)))))) && (decide ((0 : Int) < v5))) (.int .i64 (t1.getD (v5 - (1 : Int)).toNat (0 : Int))) rfl rfl rfl rfl (fun hc => T.load rfl hc (by kernel_rfl) (fm_cell0 (eI .i64) 1 (fun _ => rfl) t1 (0 : Int) (v5 - (1 : Int)).toNat (ltN (g10 hc)) (fun a => .val (.int .i64 a)) (fun _ => rfl))) ?_
      obtain ⟨g11, H⟩ := G_some H
      refine OpsW.seg 4 [48, 9, 1, 7, 8] [((!(cond (decide ((t1.getD v5.toNat (0 : Int)) < (1 : Int))) true (decide ((99999 : Int) < (t1.getD v5.toNat (0 : Int)))))) && (decide ((0 : Int) < v5))) = true → ((!(cond (decide ((t1.getD v5.toNat (0 : Int)) < (1 : Int))) true (decide ((99999 : Int) < (t1.getD v5.toNat (0 : Int)))))) && (decide ((0 : Int) < v5))) = true, ((!(cond (decide ((t1.getD v5.toNat (0 : Int)) < (1 : Int))) true (decide ((99999 : Int) < (t1.getD v5.toNat (0 : Int)))))) && (decide ((0 : Int) < v5))) = true → inR ((t1.getD (v5 - (1 : Int)).toNat (0 : Int)) + (1 : Int)), ((!(cond (decide ((t1.getD v5.toNat (0 : Int)) < (1 : Int))) true (decide ((99999 : Int) < (t1.getD v5.toNat (0 : Int)))))) && (decide ((0 : Int) < v5))) = true → ((!(cond (decide ((t1.getD v5.toNat (0 : Int)) < (1 : Int))) true (decide ((99999 : Int) < (t1.getD v5.toNat (0 : Int)))))) && (decide ((0 : Int) < v5))) = true, ((!(cond (decide ((t1.getD v5.toNat (0 : Int)) < (1 : Int))) true (decide ((99999 : Int) < (t1.getD v5.toNat (0 : Int)))))) && (decide ((0 : Int) < v5))) = true → ((!(cond (decide ((t1.getD v5.toNat (0 : Int)) < (1 : Int))) true (decide ((99999 : Int) < (t1.getD v5.toNat (0 : Int)))))) && (decide ((0 : Int) < v5))) = true, (!(cond (decide ((t1.getD v5.toNat (0 : Int)) < (1 : Int))) true (decide ((99999 : Int) < (t1.getD v5.toNat (0 : Int)))))) = true → (!(cond (decide ((t1.getD v5.toNat (0 : Int)) < (1 : Int))) true (decide ((99999 : Int) < (t1.getD v5.toNat (0 : Int)))))) = true, (!(cond (decide ((t1.getD v5.toNat (0 : Int)) < (1 : Int))) true (decide ((99999 : Int) < (t1.getD v5.toNat (0 : Int)))))) = true → ((decide ((0 : Int) < v5)) = true → ((!(cond (decide ((t1.getD v5.toNat (0 : Int)) < (1 : Int))) true (decide ((99999 : Int) < (t1.getD v5.toNat (0 : Int)))))) && (decide ((0 : Int) < v5))) = true), (cond (decide ((t1.getD v5.toNat (0 : Int)) < (1 : Int))) true (decide ((99999 : Int) < (t1.getD v5.toNat (0 : Int))))) = false → (!(cond (decide ((t1.getD v5.toNat (0 : Int)) < (1 : Int))) true (decide ((99999 : Int) < (t1.getD v5.toNat (0 : Int)))))) = true] [(48, .bool (cond (cond (decide ((t1.getD v5.toNat (0 : Int)) < (1 : Int))) true (decide ((99999 : Int) < (t1.getD v5.toNat (0 : Int))))) true (cond (decide ((0 : Int) < v5)) ((t1.getD v5.toNat (0 : Int)) != ((t1.getD (v5 - (1 : Int)).toNat (0 : Int)) + (1 : Int))) false))), (9, .int .i64 (t1.getD v5.toNat (0 : Int))), (1, slA (eI .i64) t1), (7, .rsl 7 0 0 v4.length), (8, .int .i64 v5)] (by kernel_rfl) ⟨(fun h => h), g11, (fun h => h), (fun h => h), (fun h => h), (fun h0 h => by first | exact h | (simp [h0, h]; done) | (simp at h0 h ⊢; simp [h0, h]; done) | (simp_all; done)), (fun h => by first | exact h | simpa using h), trivial⟩ ?_
      refine OpsW.nil ?_
      refine AW.cond (b := cond (cond (decide ((t1.getD v5.toNat (0 : Int)) < (1 : Int))) true (decide ((99999 : Int) < (t1.getD v5.toNat (0 : Int))))) true (cond (decide ((0 : Int) < v5)) ((t1.getD v5.toNat (0 : Int)) != ((t1.getD (v5 - (1 : Int)).toNat (0 : Int)) + (1 : Int))) false)) rfl (fun c12 => ?_) (fun c12 => ?_)
      · replace H := condT c12 H
        refine AW.regionSeq ?_
        refine OpsW.seg 2 [5, 4] [] [(5, .int .i64 (220 : Int)), (4, .im (.val (.slice none 0 0)))] (by kernel_rfl) trivial ?_
        refine OpsW.nil ?_
        obtain rfl := Option.some.inj H
        refine AW.recast (env' := [(4, .rsl 1000 0 0 0), (5, .int .i64 (220 : Int))]) (h' := [(1000, rtA 0 43 1 (eI .u8) ([] : List Int))]) (StC.mk (phi [(1000, none)]) (.new rfl .nil) rfl (.cons (.nilr rfl rfl rfl) (.cons .im .nil))) ?_
        refine AW.ret ?_
        try simp only [Ex.then, Ex.inBlock, Ex.noGoto, Ex.jump, reduceIte, Nat.reduceEqDiff, reduceCtorEq]
        refine Done.gen rfl (.tmp (.tmp .nil)) ?_
        exact ⟨by kernel_rfl, rfl⟩
      · replace H := condF c12 H
        refine AW.skip ?_
        refine AW.regionSeq ?_
        refine OpsW.seg 1 [50, 1, 7, 8] [] [(50, .int .i64 (t1.getD v5.toNat (0 : Int))), (1, slA (eI .i64) t1), (7, .rsl 7 0 0 v4.length), (8, .int .i64 v5)] (by kernel_rfl) trivial ?_
        obtain ⟨x13, hx13, H⟩ := bindS H
        refine OpsW.qcall rfl (by kernel_rfl) rfl rfl (glAll_sound trivial) (.cons (.pur rfl) .nil) (f_R19_Write_ok hx13) rfl ?_
        refine OpsW.seg 5 [10, 1, 7, 8] [] [(10, slA (eI .u8) x13.1), (1, slA (eI .i64) t1), (7, .rsl 7 0 0 v4.length), (8, .int .i64 v5)] (by kernel_rfl) trivial ?_
        refine OpsW.nil ?_
        refine AW.regionSeq ?_
        refine OpsW.seg 1 [54, 10, 1, 7, 8] [] [(54, .rsl 7 0 0 v4.length), (10, slA (eI .u8) x13.1), (1, slA (eI .i64) t1), (7, .rsl 7 0 0 v4.length), (8, .int .i64 v5)] (by kernel_rfl) trivial ?_
        obtain ⟨g14, H⟩ := G_some H
        refine OpsW.appendLF (enc := eI .u8) [(0 : Int), (63 : Int)] rfl rfl rfl (by decide) rfl rfl rfl (by simp) E34 (fun _ => rfl) (by decide) trivial (by kernel_rfl) (by kernel_rfl) (by kernel_rfl) rfl rfl rfl g14 ?_
        refine OpsW.seg 1 [7, 10, 1, 8] [] [(7, .rsl 7 1 0 ((v4 ++ [(0 : Int), (63 : Int)]).length)), (10, slA (eI .u8) x13.1), (1, slA (eI .i64) t1), (8, .int .i64 v5)] (by kernel_rfl) trivial ?_
        refine OpsW.recast (env' := [(7, .rsl 7 0 0 ((v4 ++ [(0 : Int), (63 : Int)]).length)), (10, slA (eI .u8) x13.1), (1, slA (eI .i64) t1), (8, .int .i64 v5)]) (h' := [(7, rtA 0 43 1 (eI .u8) (v4 ++ [(0 : Int), (63 : Int)]))]) (StC.mk (phi [(7, some 7)]) (.old rfl rfl rfl rfl rfl (CstL.ims _) .nil) rfl (.cons (.rsl rfl rfl rfl rfl rfl rfl) (.cons .im (.cons .im (.cons .im .nil))))) ?_
        refine OpsW.nil ?_
        refine AW.region ?_
        refine OpsW.seg 2 [58, 57, 7, 1, 8] [] [(58, slA (eI .u8) x13.1), (57, .rsl 7 0 0 ((v4 ++ [(0 : Int), (63 : Int)]).length)), (7, .rsl 7 0 0 ((v4 ++ [(0 : Int), (63 : Int)]).length)), (1, slA (eI .i64) t1), (8, .int .i64 v5)] (by kernel_rfl) trivial ?_
        obtain ⟨g15, H⟩ := G_some H
        refine OpsW.appendF (enc := eI .u8) (ys := x13.1) rfl rfl rfl E34 (fun _ => rfl) rfl rfl trivial (SrcA.typed (enc := eI .u8) (fun _ => rfl) (by kernel_rfl) x13.1) rfl g15 ?_
        refine OpsW.seg 1 [7, 1, 8] [] [(7, .rsl 7 1 0 (((v4 ++ [(0 : Int), (63 : Int)]) ++ x13.1).length)), (1, slA (eI .i64) t1), (8, .int .i64 v5)] (by kernel_rfl) trivial ?_
        refine OpsW.recast (env' := [(7, .rsl 7 0 0 (((v4 ++ [(0 : Int), (63 : Int)]) ++ x13.1).length)), (1, slA (eI .i64) t1), (8, .int .i64 v5)]) (h' := [(7, rtA 0 43 1 (eI .u8) ((v4 ++ [(0 : Int), (63 : Int)]) ++ x13.1))]) (StC.mk (phi [(7, some 7)]) (.old rfl rfl rfl rfl rfl (CstL.ims _) .nil) rfl (.cons (.rsl rfl rfl rfl rfl rfl rfl) (.cons .im (.cons .im .nil)))) ?_
        refine OpsW.nil ?_
        refine AW.region ?_
        obtain ⟨g16, H⟩ := G_some H
        refine OpsW.seg 3 [8, 7, 1] [inR (v5 + (1 : Int))] [(8, .int .i64 (v5 + (1 : Int))), (7, .rsl 7 0 0 (((v4 ++ [(0 : Int), (63 : Int)]) ++ x13.1).length)), (1, slA (eI .i64) t1)] (by kernel_rfl) ⟨g16, trivial⟩ ?_
        refine OpsW.nil ?_
        show ∃ y, _ ∧ StC _ _ _ _
        exact ⟨((v4 ++ [(0 : Int), (63 : Int)]) ++ x13.1, v5 + (1 : Int)), H, (StC.mk (phi [(7, some 7)]) (.old rfl rfl rfl rfl rfl (CstL.ims _) .nil) rfl (.cons .im (.cons (.rsl rfl rfl rfl rfl rfl rfl) (.cons .im .nil))))⟩
    · replace H := condF c7 H
      refine AW.exit ?_
      refine AW.regionSeq ?_
      refine OpsW.seg 3 [5, 4] [] [(5, .int .i64 (0 : Int)), (4, .rsl 7 0 0 v4.length)] (by kernel_rfl) trivial ?_
      refine OpsW.nil ?_
      obtain rfl := Option.some.inj H
      refine AW.recast (env' := [(4, .rsl 1000 0 0 v4.length), (5, .int .i64 (0 : Int))]) (h' := [(1000, rtA 0 43 1 (eI .u8) v4)]) (StC.mk (phi [(1000, some 7)]) (.old rfl rfl rfl rfl rfl (CstL.ims _) .nil) rfl (.cons (.rsl rfl rfl rfl rfl rfl rfl) (.cons .im .nil))) ?_
      refine AW.ret ?_
      try simp only [Ex.then, Ex.inBlock, Ex.noGoto, Ex.jump, reduceIte, Nat.reduceEqDiff, reduceCtorEq]
      refine Done.gen rfl (.tmp (.tmp .nil)) ?_
      exact ⟨by kernel_rfl, rfl⟩
theorem f_R22_Refer_ok {t0 : List Int} {t1 : List Int} {r : (List Int) × Int} (H : f_R22_Refer t0 t1 = some r) : QSpec Tryd.prog 19 [slA (eI .u8) t0, slA (eI .i64) t1] (.tup [slA (eI .u8) r.1, .int .i64 r.2]) := by
  exact QSpec.of_own (f_R22_Refer_own H) (.tup (.cons (.frz rfl rfl rfl (frz_all (eI .u8) 1 (fun _ => rfl) r.1) (fm_length (eI .u8) 1 (fun _ => rfl) r.1) (phi_ne rfl)) (.cons .im .nil)))
def f_R01_Cells_b1 (t0 : List Int) (t1 : Int) (loop3 : ((List Int) × Int) → Option (List Int)) (v1 : List Int) (v2 : Int) : Option (List Int) :=
  cond (cond (decide (v2 < (t0.length : Int))) (decide (v2 < t1)) false) (
    G (0 ≤ v2 ∧ v2 < (t0.length : Int)) <|
    G (room 1 (v1.length + 1)) <|
    G (inR (v2 + (1 : Int))) <|
    loop3 (v1 ++ [Int.tmod (t0.getD v2.toNat (0 : Int)) (64 : Int)], v2 + (1 : Int))) (
    some v1)
def f_R01_Cells (t0 : List Int) (t1 : Int) : Option (List Int) :=
  iter (fun loop (s : (List Int) × Int) => f_R01_Cells_b1 t0 t1 loop s.1 s.2) 1000000 (([] : List Int), (0 : Int))
theorem f_R01_Cells_ok {t0 : List Int} {t1 : Int} {r : List Int} (H : f_R01_Cells t0 t1 = some r) : QSpec Tryd.prog 20 [slA (eI .u8) t0, .int .i64 t1] (slA (eI .u8) r) := by
  refine Spec.of_AW Tryd.func20 rfl (by simp [Tryd.ntmps20]) ?_
  rw [Tryd.ntmps20]
  unfold f_R01_Cells at H
  change AW _ _ _ [(0, slA (eI .u8) t0), (1, .int .i64 t1)] [] _
  refine AW.regionSeq ?_
  refine OpsW.seg 1 [0, 1] [] [(0, slA (eI .u8) t0), (1, .int .i64 t1)] (by kernel_rfl) trivial ?_
  refine OpsW.nil ?_
  refine AW.regionSeq ?_
  refine OpsW.buildT (enc := eI .u8) ([] : List Int) rfl rfl rfl 7 rfl E34 (fun _ => rfl) (by decide) trivial (by kernel_rfl) (by kernel_rfl) (by kernel_rfl) rfl ?_
  refine OpsW.seg 1 [5, 0, 1] [] [(5, .rsl 7 0 0 (([] : List Int).length)), (0, slA (eI .u8) t0), (1, .int .i64 t1)] (by kernel_rfl) trivial ?_
  refine OpsW.recast (env' := [(5, .rsl 5 0 0 (([] : List Int).length)), (0, slA (eI .u8) t0), (1, .int .i64 t1)]) (h' := [(5, rtA 0 43 1 (eI .u8) ([] : List Int))]) (StC.mk (phi [(5, some 7)]) (.old rfl rfl rfl rfl rfl (CstL.ims _) .nil) rfl (.cons (.rsl rfl rfl rfl rfl rfl rfl) (.cons .im (.cons .im .nil)))) ?_
  refine OpsW.nil ?_
  refine AW.seq ?_
  refine AW.regionSeq ?_
  refine OpsW.seg 1 [6, 5, 0, 1] [] [(6, .int .i64 (0 : Int)), (5, .rsl 5 0 0 (([] : List Int).length)), (0, slA (eI .u8) t0), (1, .int .i64 t1)] (by kernel_rfl) trivial ?_
  refine OpsW.nil ?_
  refine AW.block ?_
  refine AW.iterK (fun loop (s : (List Int) × Int) => f_R01_Cells_b1 t0 t1 loop s.1 s.2) r (fun (s : (List Int) × Int) => [(0, slA (eI .u8) t0), (1, .int .i64 t1), (5, .rsl 5 0 0 s.1.length), (6, .int .i64 s.2)]) (fun (s : (List Int) × Int) => [(5, rtA 0 43 1 (eI .u8) s.1)]) ?_ 1000000 (([] : List Int), (0 : Int)) H (StC.mk (phi [(5, some 5)]) (.old rfl rfl rfl rfl rfl (CstL.ims _) .nil) rfl (.cons .im (.cons .im (.cons (.rsl rfl rfl rfl rfl rfl rfl) (.cons .im .nil)))))
  intro loop3 s H
  obtain ⟨v1, v2⟩ := s
  change f_R01_Cells_b1 t0 t1 loop3 v1 v2 = some r at H
  unfold f_R01_Cells_b1 at H
  change AW _ _ _ [(0, slA (eI .u8) t0), (1, .int .i64 t1), (5, .rsl 5 0 0 v1.length), (6, .int .i64 v2)] [(5, rtA 0 43 1 (eI .u8) v1)] _
  refine AW.seq ?_
  refine AW.regionSeq ?_
  refine OpsW.seg 9 [16, 0, 1, 5, 6] [(decide (v2 < (t0.length : Int))) = true → (decide (v2 < (t0.length : Int))) = true, (decide (v2 < (t0.length : Int))) = true → (decide (v2 < (t0.length : Int))) = true, (decide (v2 < (t0.length : Int))) = true → (decide (v2 < (t0.length : Int))) = true] [(16, .bool (cond (decide (v2 < (t0.length : Int))) (decide (v2 < t1)) false)), (0, slA (eI .u8) t0), (1, .int .i64 t1), (5, .rsl 5 0 0 v1.length), (6, .int .i64 v2)] (by kernel_rfl) ⟨(fun h => h), (fun h => h), (fun h => by first | exact h | simpa using h), trivial⟩ ?_
  refine OpsW.nil ?_
  refine AW.cond (b := cond (decide (v2 < (t0.length : Int))) (decide (v2 < t1)) false) rfl (fun c4 => ?_) (fun c4 => ?_)
  · replace H := condT c4 H
    refine AW.skip ?_
    refine AW.seq ?_
    refine AW.block ?_
    refine AW.region ?_
    obtain ⟨g5, H⟩ := G_some H
    refine OpsW.seg 4 [22, 19, 0, 1, 5, 6] [0 ≤ v2 ∧ v2 < (t0.length : Int)] [(22, .ipt (t0.flatMap (eI .u8)) (v2.toNat * 1)), (19, .rsl 5 0 0 v1.length), (0, slA (eI .u8) t0), (1, .int .i64 t1), (5, .rsl 5 0 0 v1.length), (6, .int .i64 v2)] (by kernel_rfl) ⟨g5, trivial⟩ ?_
    refine OpsW.asU (.int .u8 (t0.getD v2.toNat (0 : Int))) rfl rfl (T.load rfl trivial (by kernel_rfl) (fm_cell0 (eI .u8) 1 (fun _ => rfl) t0 (0 : Int) v2.toNat (ltN g5) (fun a => .val (.int .u8 a)) (fun _ => rfl))) ?_
    refine OpsW.seg 1 [24, 19, 0, 1, 5, 6] [(64 : Int) ≠ 0] [(24, .int .u8 (Int.tmod (t0.getD v2.toNat (0 : Int)) (64 : Int))), (19, .rsl 5 0 0 v1.length), (0, slA (eI .u8) t0), (1, .int .i64 t1), (5, .rsl 5 0 0 v1.length), (6, .int .i64 v2)] (by kernel_rfl) ⟨(by decide), trivial⟩ ?_
    obtain ⟨g6, H⟩ := G_some H
    refine OpsW.appendLF (enc := eI .u8) [Int.tmod (t0.getD v2.toNat (0 : Int)) (64 : Int)] rfl rfl rfl (by decide) rfl rfl rfl (by simp) E34 (fun _ => rfl) (by decide) trivial (by kernel_rfl) (by kernel_rfl) (by kernel_rfl) rfl rfl rfl g6 ?_
    refine OpsW.seg 1 [5, 0, 1, 6] [] [(5, .rsl 5 1 0 ((v1 ++ [Int.tmod (t0.getD v2.toNat (0 : Int)) (64 : Int)]).length)), (0, slA (eI .u8) t0), (1, .int .i64 t1), (6, .int .i64 v2)] (by kernel_rfl) trivial ?_
    refine OpsW.recast (env' := [(5, .rsl 5 0 0 ((v1 ++ [Int.tmod (t0.getD v2.toNat (0 : Int)) (64 : Int)]).length)), (0, slA (eI .u8) t0), (1, .int .i64 t1), (6, .int .i64 v2)]) (h' := [(5, rtA 0 43 1 (eI .u8) (v1 ++ [Int.tmod (t0.getD v2.toNat (0 : Int)) (64 : Int)]))]) (StC.mk (phi [(5, some 5)]) (.old rfl rfl rfl rfl rfl (CstL.ims _) .nil) rfl (.cons (.rsl rfl rfl rfl rfl rfl rfl) (.cons .im (.cons .im (.cons .im .nil))))) ?_
    refine OpsW.nil ?_
    refine AW.region ?_
    obtain ⟨g7, H⟩ := G_some H
    refine OpsW.seg 3 [6, 5, 0, 1] [inR (v2 + (1 : Int))] [(6, .int .i64 (v2 + (1 : Int))), (5, .rsl 5 0 0 ((v1 ++ [Int.tmod (t0.getD v2.toNat (0 : Int)) (64 : Int)]).length)), (0, slA (eI .u8) t0), (1, .int .i64 t1)] (by kernel_rfl) ⟨g7, trivial⟩ ?_
    refine OpsW.nil ?_
    show ∃ y, _ ∧ StC _ _ _ _
    exact ⟨(v1 ++ [Int.tmod (t0.getD v2.toNat (0 : Int)) (64 : Int)], v2 + (1 : Int)), H, (StC.mk (phi [(5, some 5)]) (.old rfl rfl rfl rfl rfl (CstL.ims _) .nil) rfl (.cons .im (.cons .im (.cons (.rsl rfl rfl rfl rfl rfl rfl) (.cons .im .nil)))))⟩
  · replace H := condF c4 H
    refine AW.exit ?_
    refine AW.regionSeq ?_
    refine OpsW.seg 2 [4] [] [(4, .rsl 5 0 0 v1.length)] (by kernel_rfl) trivial ?_
    refine OpsW.recast (env' := [(4, slA (eI .u8) v1)]) (h' := []) (StC.mk (phi []) .nil rfl (.cons (.frz rfl rfl rfl (frz_all (eI .u8) 1 (fun _ => rfl) v1) (fm_length (eI .u8) 1 (fun _ => rfl) v1) (phi_ne rfl)) .nil)) ?_
    refine OpsW.nil ?_
    obtain rfl := Option.some.inj H
    refine AW.recast (env' := [(4, slA (eI .u8) v1)]) (h' := []) (StC.pure (.cons .im .nil)) ?_
    refine AW.ret ?_
    try simp only [Ex.then, Ex.inBlock, Ex.noGoto, Ex.jump, reduceIte, Nat.reduceEqDiff, reduceCtorEq]
    refine Done.gen rfl (.tmp .nil) ?_
    show _ = _
    kernel_rfl
def f_R19_IsDigit_b1 (t0 : Int) (loop2 : (Int) → Option Bool) (v1 : Int) : Option Bool :=
  cond (decide (v1 < (10 : Int))) (
    (f_R19_Digit v1).bind fun x4 =>
    cond (x4 == t0) (
      some true) (
      G (inR (v1 + (1 : Int))) <|
      loop2 (v1 + (1 : Int)))) (
    some false)
def f_R19_IsDigit (t0 : Int) : Option Bool :=
  iter (fun loop (s : Int) => f_R19_IsDigit_b1 t0 loop s) 1000000 (0 : Int)
theorem f_R19_IsDigit_ok {t0 : Int} {r : Bool} (H : f_R19_IsDigit t0 = some r) : QSpec Tryd.prog 39 [.int .u8 t0] (.bool r) := by
  refine Spec.of_AW Tryd.func39 rfl (by simp [Tryd.ntmps39]) ?_
  rw [Tryd.ntmps39]
  unfold f_R19_IsDigit at H
  change AW _ _ _ [(0, .int .u8 t0)] [] _
  refine AW.regionSeq ?_
  refine OpsW.seg 1 [0] [] [(0, .int .u8 t0)] (by kernel_rfl) trivial ?_
  refine OpsW.nil ?_
  refine AW.seq ?_
  refine AW.regionSeq ?_
  refine OpsW.seg 1 [3, 0] [] [(3, .int .i64 (0 : Int)), (0, .int .u8 t0)] (by kernel_rfl) trivial ?_
  refine OpsW.nil ?_
  refine AW.block ?_
  refine AW.iterK (fun loop (s : Int) => f_R19_IsDigit_b1 t0 loop s) r (fun (s : Int) => [(0, .int .u8 t0), (3, .int .i64 s)]) (fun (s : Int) => []) ?_ 1000000 (0 : Int) H (StC.pure (.cons .im (.cons .im .nil)))
  intro loop2 v1 H
  change f_R19_IsDigit_b1 t0 loop2 v1 = some r at H
  unfold f_R19_IsDigit_b1 at H
  change AW _ _ _ [(0, .int .u8 t0), (3, .int .i64 v1)] [] _
  refine AW.seq ?_
  refine AW.regionSeq ?_
  refine OpsW.seg 2 [5, 0, 3] [] [(5, .bool (decide (v1 < (10 : Int)))), (0, .int .u8 t0), (3, .int .i64 v1)] (by kernel_rfl) trivial ?_
  refine OpsW.nil ?_
  refine AW.cond (b := decide (v1 < (10 : Int))) rfl (fun c3 => ?_) (fun c3 => ?_)
  · replace H := condT c3 H
    refine AW.skip ?_
    refine AW.seq ?_
    refine AW.block ?_
    refine AW.regionSeq ?_
    refine OpsW.seg 1 [8, 0, 3] [] [(8, .int .i64 v1), (0, .int .u8 t0), (3, .int .i64 v1)] (by kernel_rfl) trivial ?_
    obtain ⟨x4, hx4, H⟩ := bindS H
    refine OpsW.qcall rfl (by kernel_rfl) rfl rfl (glAll_sound trivial) (.cons (.pur rfl) .nil) (f_R19_Digit_ok hx4) rfl ?_
    refine OpsW.seg 2 [11, 0, 3] [] [(11, .bool (x4 == t0)), (0, .int .u8 t0), (3, .int .i64 v1)] (by kernel_rfl) trivial ?_
    refine OpsW.nil ?_
    refine AW.cond (b := x4 == t0) rfl (fun c5 => ?_) (fun c5 => ?_)
    · replace H := condT c5 H
      refine AW.regionSeq ?_
      refine OpsW.seg 1 [2] [] [(2, .bool true)] (by kernel_rfl) trivial ?_
      refine OpsW.nil ?_
      obtain rfl := Option.some.inj H
      refine AW.recast (env' := [(2, .bool true)]) (h' := []) (StC.pure (.cons .im .nil)) ?_
      refine AW.ret ?_
      try simp only [Ex.then, Ex.inBlock, Ex.noGoto, Ex.jump, reduceIte, Nat.reduceEqDiff, reduceCtorEq]
      refine Done.gen rfl (.tmp .nil) ?_
      show _ = _
      kernel_rfl
    · replace H := condF c5 H
      refine AW.skip ?_
      refine AW.region ?_
      obtain ⟨g6, H⟩ := G_some H
      refine OpsW.seg 3 [3, 0] [inR (v1 + (1 : Int))] [(3, .int .i64 (v1 + (1 : Int))), (0, .int .u8 t0)] (by kernel_rfl) ⟨g6, trivial⟩ ?_
      refine OpsW.nil ?_
      show ∃ y, _ ∧ StC _ _ _ _
      exact ⟨v1 + (1 : Int), H, (StC.pure (.cons .im (.cons .im .nil)))⟩
  · replace H := condF c3 H
    refine AW.exit ?_
    refine AW.regionSeq ?_
    refine OpsW.seg 1 [2] [] [(2, .bool false)] (by kernel_rfl) trivial ?_
    refine OpsW.nil ?_
    obtain rfl := Option.some.inj H
    refine AW.recast (env' := [(2, .bool false)]) (h' := []) (StC.pure (.cons .im .nil)) ?_
    refine AW.ret ?_
    try simp only [Ex.then, Ex.inBlock, Ex.noGoto, Ex.jump, reduceIte, Nat.reduceEqDiff, reduceCtorEq]
    refine Done.gen rfl (.tmp .nil) ?_
    show _ = _
    kernel_rfl
def f_R19_Read_k1 (loop11 : (Int × Int) → Option (Int × Int × Int)) (v10 : Int) (v13 : Int) : Option (Int × Int × Int) :=
  G (inR (v10 + (1 : Int))) <|
  loop11 (v13, v10 + (1 : Int))
def f_R19_Read_b1 (t0 : List Int) (loop5 : (Int × Int) → Option (Int × Int × Int)) (v3 : Int) (loop11 : (Int × Int) → Option (Int × Int × Int)) (v9 : Int) (v10 : Int) : Option (Int × Int × Int) :=
  cond (decide (v10 < (10 : Int))) (
    (f_R19_Digit v10).bind fun x15 =>
    G (0 ≤ v3 ∧ v3 < (t0.length : Int)) <|
    cond (x15 == (t0.getD v3.toNat (0 : Int))) (
      G (inR ((10 : Int) * v9)) <|
      G (inR (((10 : Int) * v9) + v10)) <|
      f_R19_Read_k1 loop11 v10 (((10 : Int) * v9) + v10)) (
      f_R19_Read_k1 loop11 v10 v9)) (
    G (inR (v3 + (1 : Int))) <|
    loop5 (v3 + (1 : Int), v9))
def f_R19_Read_b2 (t0 : List Int) (loop5 : (Int × Int) → Option (Int × Int × Int)) (v3 : Int) (v4 : Int) : Option (Int × Int × Int) :=
  G ((decide (v3 < (t0.length : Int))) = true → (0 ≤ v3 ∧ v3 < (t0.length : Int))) <|
  (cond (decide (v3 < (t0.length : Int))) (f_R19_IsDigit (t0.getD v3.toNat (0 : Int))) (some false)).bind fun x7 =>
  cond (cond (cond (decide (v3 < (t0.length : Int))) x7 false) (decide (v3 < (7 : Int))) false) (
    iter (fun loop (s : Int × Int) => f_R19_Read_b1 t0 loop5 v3 loop s.1 s.2) 1000000 (v4, (0 : Int))) (
    (f_R19_Write v4).bind fun x21 =>
    G ((!(cond (cond (x21.2 != (0 : Int)) true (v3 == (1 : Int))) true (decide ((6 : Int) < v3)))) = true → (0 ≤ v3 ∧ v3 ≤ (t0.length : Int))) <|
    (cond (!(cond (cond (x21.2 != (0 : Int)) true (v3 == (1 : Int))) true (decide ((6 : Int) < v3)))) (f_R01_Same x21.1 (t0.take v3.toNat)) (some false)).bind fun x23 =>
    cond (cond (cond (cond (x21.2 != (0 : Int)) true (v3 == (1 : Int))) true (decide ((6 : Int) < v3))) true (!x23)) (
      some ((0 : Int), (0 : Int), (190 : Int))) (
      some (v4, v3, (0 : Int))))
def f_R19_Read (t0 : List Int) : Option (Int × Int × Int) :=
  G ((!(decide ((t0.length : Int) < (2 : Int)))) = true → (0 ≤ (0 : Int) ∧ (0 : Int) < (t0.length : Int))) <|
  cond (cond (decide ((t0.length : Int) < (2 : Int))) true ((t0.getD (0 : Int).toNat (0 : Int)) != (60 : Int))) (
    some ((0 : Int), (0 : Int), (190 : Int))) (
    iter (fun loop (s : Int × Int) => f_R19_Read_b2 t0 loop s.1 s.2) 1000000 ((1 : Int), (0 : Int)))
theorem f_R19_Read_ok {t0 : List Int} {r : Int × Int × Int} (H : f_R19_Read t0 = some r) : QSpec Tryd.prog 32 [slA (eI .u8) t0] (.tup [.int .i64 r.1, .int .i64 r.2.1, .int .i64 r.2.2]) := by
  refine Spec.of_AW Tryd.func32 rfl (by simp [Tryd.ntmps32]) ?_
  rw [Tryd.ntmps32]
  unfold f_R19_Read at H
  change AW _ _ _ [(0, slA (eI .u8) t0)] [] _
  refine AW.regionSeq ?_
  refine OpsW.seg 3 [0] [] [(0, slA (eI .u8) t0)] (by kernel_rfl) trivial ?_
  refine OpsW.nil ?_
  refine AW.seq ?_
  refine AW.regionSeq ?_
  obtain ⟨g1, H⟩ := G_some H
  refine OpsW.seg 6 [15, 13, 0] [(!(decide ((t0.length : Int) < (2 : Int)))) = true → (!(decide ((t0.length : Int) < (2 : Int)))) = true, (!(decide ((t0.length : Int) < (2 : Int)))) = true → (0 ≤ (0 : Int) ∧ (0 : Int) < (t0.length : Int))] [(15, .cnd (!(decide ((t0.length : Int) < (2 : Int)))) (.ipt (t0.flatMap (eI .u8)) ((0 : Int).toNat * 1))), (13, .bool (decide ((t0.length : Int) < (2 : Int)))), (0, slA (eI .u8) t0)] (by kernel_rfl) ⟨(fun h => h), g1, trivial⟩ ?_
  refine OpsW.asG (c := !(decide ((t0.length : Int) < (2 : Int)))) (.int .u8 (t0.getD (0 : Int).toNat (0 : Int))) rfl rfl rfl rfl (fun hc => T.load rfl hc (by kernel_rfl) (fm_cell0 (eI .u8) 1 (fun _ => rfl) t0 (0 : Int) (0 : Int).toNat (ltN (g1 hc)) (fun a => .val (.int .u8 a)) (fun _ => rfl))) ?_
  refine OpsW.seg 2 [18, 0] [(!(decide ((t0.length : Int) < (2 : Int)))) = true → (!(decide ((t0.length : Int) < (2 : Int)))) = true, (decide ((t0.length : Int) < (2 : Int))) = false → (!(decide ((t0.length : Int) < (2 : Int)))) = true] [(18, .bool (cond (decide ((t0.length : Int) < (2 : Int))) true ((t0.getD (0 : Int).toNat (0 : Int)) != (60 : Int)))), (0, slA (eI .u8) t0)] (by kernel_rfl) ⟨(fun h => h), (fun h => by first | exact h | simpa using h), trivial⟩ ?_
  refine OpsW.nil ?_
  refine AW.cond (b := cond (decide ((t0.length : Int) < (2 : Int))) true ((t0.getD (0 : Int).toNat (0 : Int)) != (60 : Int))) rfl (fun c2 => ?_) (fun c2 => ?_)
  · replace H := condT c2 H
    refine AW.regionSeq ?_
    refine OpsW.seg 3 [4, 3, 2] [] [(4, .int .i64 (190 : Int)), (3, .int .i64 (0 : Int)), (2, .int .i64 (0 : Int))] (by kernel_rfl) trivial ?_
    refine OpsW.nil ?_
    obtain rfl := Option.some.inj H
    refine AW.recast (env' := [(2, .int .i64 (0 : Int)), (3, .int .i64 (0 : Int)), (4, .int .i64 (190 : Int))]) (h' := []) (StC.pure (.cons .im (.cons .im (.cons .im .nil)))) ?_
    refine AW.ret ?_
    try simp only [Ex.then, Ex.inBlock, Ex.noGoto, Ex.jump, reduceIte, Nat.reduceEqDiff, reduceCtorEq]
    refine Done.gen rfl (.tmp (.tmp (.tmp .nil))) ?_
    show _ = _
    kernel_rfl
  · replace H := condF c2 H
    refine AW.skip ?_
    refine AW.regionSeq ?_
    refine OpsW.seg 1 [5, 0] [] [(5, .int .i64 (1 : Int)), (0, slA (eI .u8) t0)] (by kernel_rfl) trivial ?_
    refine OpsW.nil ?_
    refine AW.regionSeq ?_
    refine OpsW.seg 1 [6, 5, 0] [] [(6, .int .i64 (0 : Int)), (5, .int .i64 (1 : Int)), (0, slA (eI .u8) t0)] (by kernel_rfl) trivial ?_
    refine OpsW.nil ?_
    refine AW.seq ?_
    refine AW.block ?_
    refine AW.iterK (fun loop (s : Int × Int) => f_R19_Read_b2 t0 loop s.1 s.2) r (fun (s : Int × Int) => [(0, slA (eI .u8) t0), (5, .int .i64 s.1), (6, .int .i64 s.2)]) (fun (s : Int × Int) => []) ?_ 1000000 ((1 : Int), (0 : Int)) H (StC.pure (.cons .im (.cons .im (.cons .im .nil))))
    intro loop5 s H
    obtain ⟨v3, v4⟩ := s
    change f_R19_Read_b2 t0 loop5 v3 v4 = some r at H
    unfold f_R19_Read_b2 at H
    change AW _ _ _ [(0, slA (eI .u8) t0), (5, .int .i64 v3), (6, .int .i64 v4)] [] _
    refine AW.seq ?_
    refine AW.regionSeq ?_
    obtain ⟨g6, H⟩ := G_some H
    refine OpsW.seg 8 [26, 23, 0, 5, 6] [(decide (v3 < (t0.length : Int))) = true → (decide (v3 < (t0.length : Int))) = true, (decide (v3 < (t0.length : Int))) = true → (decide (v3 < (t0.length : Int))) = true, (decide (v3 < (t0.length : Int))) = true → (0 ≤ v3 ∧ v3 < (t0.length : Int))] [(26, .cnd (decide (v3 < (t0.length : Int))) (.ipt (t0.flatMap (eI .u8)) (v3.toNat * 1))), (23, .bool (decide (v3 < (t0.length : Int)))), (0, slA (eI .u8) t0), (5, .int .i64 v3), (6, .int .i64 v4)] (by kernel_rfl) ⟨(fun h => h), (fun h => h), g6, trivial⟩ ?_
    refine OpsW.asG (c := decide (v3 < (t0.length : Int))) (.int .u8 (t0.getD v3.toNat (0 : Int))) rfl rfl rfl rfl (fun hc => T.load rfl hc (by kernel_rfl) (fm_cell0 (eI .u8) 1 (fun _ => rfl) t0 (0 : Int) v3.toNat (ltN (g6 hc)) (fun a => .val (.int .u8 a)) (fun _ => rfl))) ?_
    obtain ⟨x7, hx7, H⟩ := bindS H
    refine OpsW.gcall (c := decide (v3 < (t0.length : Int))) (r := .bool x7) [] rfl (by kernel_rfl) rfl rfl rfl rfl (fun hc => ⟨glAll_sound ⟨hc, trivial⟩, (.cons (.pur rfl) .nil), f_R19_IsDigit_ok (condT hc hx7), .inl ⟨rfl, rfl⟩⟩) ?_
    refine OpsW.seg 5 [33, 0, 5, 6] [(decide (v3 < (t0.length : Int))) = true → (decide (v3 < (t0.length : Int))) = true, (cond (decide (v3 < (t0.length : Int))) x7 false) = true → (cond (decide (v3 < (t0.length : Int))) x7 false) = true, (cond (decide (v3 < (t0.length : Int))) x7 false) = true → (cond (decide (v3 < (t0.length : Int))) x7 false) = true] [(33, .bool (cond (cond (decide (v3 < (t0.length : Int))) x7 false) (decide (v3 < (7 : Int))) false)), (0, slA (eI .u8) t0), (5, .int .i64 v3), (6, .int .i64 v4)] (by kernel_rfl) ⟨(fun h => by first | exact h | simpa using h), (fun h => h), (fun h => by first | exact h | simpa using h), trivial⟩ ?_
    refine OpsW.nil ?_
    refine AW.cond (b := cond (cond (decide (v3 < (t0.length : Int))) x7 false) (decide (v3 < (7 : Int))) false) rfl (fun c8 => ?_) (fun c8 => ?_)
    · replace H := condT c8 H
      refine AW.skip ?_
      refine AW.block ?_
      refine AW.seq ?_
      refine AW.regionSeq ?_
      refine OpsW.seg 1 [7, 0, 5, 6] [] [(7, .int .i64 (0 : Int)), (0, slA (eI .u8) t0), (5, .int .i64 v3), (6, .int .i64 v4)] (by kernel_rfl) trivial ?_
      refine OpsW.nil ?_
      refine AW.block ?_
      refine AW.iterK (fun loop (s : Int × Int) => f_R19_Read_b1 t0 loop5 v3 loop s.1 s.2) r (fun (s : Int × Int) => [(0, slA (eI .u8) t0), (5, .int .i64 v3), (6, .int .i64 s.1), (7, .int .i64 s.2)]) (fun (s : Int × Int) => []) ?_ 1000000 (v4, (0 : Int)) H (StC.pure (.cons .im (.cons .im (.cons .im (.cons .im .nil)))))
      intro loop11 s H
      obtain ⟨v9, v10⟩ := s
      change f_R19_Read_b1 t0 loop5 v3 loop11 v9 v10 = some r at H
      unfold f_R19_Read_b1 at H
      change AW _ _ _ [(0, slA (eI .u8) t0), (5, .int .i64 v3), (6, .int .i64 v9), (7, .int .i64 v10)] [] _
      refine AW.seq ?_
      refine AW.regionSeq ?_
      refine OpsW.seg 2 [35, 0, 5, 6, 7] [] [(35, .bool (decide (v10 < (10 : Int)))), (0, slA (eI .u8) t0), (5, .int .i64 v3), (6, .int .i64 v9), (7, .int .i64 v10)] (by kernel_rfl) trivial ?_
      refine OpsW.nil ?_
      refine AW.cond (b := decide (v10 < (10 : Int))) rfl (fun c12 => ?_) (fun c12 => ?_)
      · replace H := condT c12 H
        refine AW.skip ?_
        refine AW.joinK (fun (y : Int) => f_R19_Read_k1 loop11 v10 y) r (fun (y : Int) => [(0, slA (eI .u8) t0), (5, .int .i64 v3), (6, .int .i64 y), (7, .int .i64 v10)]) (fun (y : Int) => []) ?_ ?_
        · refine AW.block ?_
          refine AW.drawSeq Tryd.checked.mixed (by kernel_rfl) ?_
          refine QOps.seg (N := 76) 1 [] [(38, .int .i64 v10), (35, .bool (decide (v10 < (10 : Int)))), (0, slA (eI .u8) t0), (5, .int .i64 v3), (6, .int .i64 v9), (7, .int .i64 v10)] (by kernel_rfl) trivial ?_
          obtain ⟨x15, hx15, H⟩ := bindS H
          refine QOps.qcall rfl (by kernel_rfl) rfl (glAll_sound trivial) (.cons (.pur rfl) .nil) (f_R19_Digit_ok hx15) rfl ?_
          obtain ⟨g16, H⟩ := G_some H
          refine QOps.seg (N := 76) 3 [0 ≤ v3 ∧ v3 < (t0.length : Int)] [(42, .ipt (t0.flatMap (eI .u8)) (v3.toNat * 1)), (41, .int .i64 v3), (40, slA (eI .u8) t0), (39, .int .u8 x15), (38, .int .i64 v10), (35, .bool (decide (v10 < (10 : Int)))), (0, slA (eI .u8) t0), (5, .int .i64 v3), (6, .int .i64 v9), (7, .int .i64 v10)] (by kernel_rfl) ⟨g16, trivial⟩ ?_
          refine QOps.asU (.int .u8 (t0.getD v3.toNat (0 : Int))) rfl (T.load rfl trivial (by kernel_rfl) (fm_cell0 (eI .u8) 1 (fun _ => rfl) t0 (0 : Int) v3.toNat (ltN g16) (fun a => .val (.int .u8 a)) (fun _ => rfl))) ?_
          refine QOps.seg (N := 76) 1 [] [(44, .bool (x15 == (t0.getD v3.toNat (0 : Int)))), (43, .int .u8 (t0.getD v3.toNat (0 : Int))), (42, .ipt (t0.flatMap (eI .u8)) (v3.toNat * 1)), (41, .int .i64 v3), (40, slA (eI .u8) t0), (39, .int .u8 x15), (38, .int .i64 v10), (35, .bool (decide (v10 < (10 : Int)))), (0, slA (eI .u8) t0), (5, .int .i64 v3), (6, .int .i64 v9), (7, .int .i64 v10)] (by kernel_rfl) trivial ?_
          refine QOps.nil ?_
          refine AW.trim [44, 0, 5, 6, 7] [(44, .bool (x15 == (t0.getD v3.toNat (0 : Int)))), (0, slA (eI .u8) t0), (5, .int .i64 v3), (6, .int .i64 v9), (7, .int .i64 v10)] (by kernel_rfl) ?_
          refine AW.cond (b := x15 == (t0.getD v3.toNat (0 : Int))) rfl (fun c17 => ?_) (fun c17 => ?_)
          · replace H := condT c17 H
            refine AW.region ?_
            obtain ⟨g18, H⟩ := G_some H
            obtain ⟨g19, H⟩ := G_some H
            refine OpsW.seg 5 [6, 0, 5, 7] [inR ((10 : Int) * v9), inR (((10 : Int) * v9) + v10)] [(6, .int .i64 (((10 : Int) * v9) + v10)), (0, slA (eI .u8) t0), (5, .int .i64 v3), (7, .int .i64 v10)] (by kernel_rfl) ⟨g18, g19, trivial⟩ ?_
            refine OpsW.nil ?_
            show ∃ y, _ ∧ StC _ _ _ _
            exact ⟨((10 : Int) * v9) + v10, H, (StC.pure (.cons .im (.cons .im (.cons .im (.cons .im .nil)))))⟩
          · replace H := condF c17 H
            refine AW.skip ?_
            show ∃ y, _ ∧ StC _ _ _ _
            exact ⟨v9, H, (StC.pure (.cons .im (.cons .im (.cons .im (.cons .im .nil)))))⟩
        · intro v13 H
          change f_R19_Read_k1 loop11 v10 v13 = some r at H
          unfold f_R19_Read_k1 at H
          change AW _ _ _ [(0, slA (eI .u8) t0), (5, .int .i64 v3), (6, .int .i64 v13), (7, .int .i64 v10)] [] _
          refine AW.region ?_
          obtain ⟨g14, H⟩ := G_some H
          refine OpsW.seg 3 [7, 0, 5, 6] [inR (v10 + (1 : Int))] [(7, .int .i64 (v10 + (1 : Int))), (0, slA (eI .u8) t0), (5, .int .i64 v3), (6, .int .i64 v13)] (by kernel_rfl) ⟨g14, trivial⟩ ?_
          refine OpsW.nil ?_
          show ∃ y, _ ∧ StC _ _ _ _
          exact ⟨(v13, v10 + (1 : Int)), H, (StC.pure (.cons .im (.cons .im (.cons .im (.cons .im .nil)))))⟩
      · replace H := condF c12 H
        refine AW.exit ?_
        refine AW.region ?_
        obtain ⟨g20, H⟩ := G_some H
        refine OpsW.seg 3 [5, 0, 6] [inR (v3 + (1 : Int))] [(5, .int .i64 (v3 + (1 : Int))), (0, slA (eI .u8) t0), (6, .int .i64 v9)] (by kernel_rfl) ⟨g20, trivial⟩ ?_
        refine OpsW.nil ?_
        show ∃ y, _ ∧ StC _ _ _ _
        exact ⟨(v3 + (1 : Int), v9), H, (StC.pure (.cons .im (.cons .im (.cons .im .nil))))⟩
    · replace H := condF c8 H
      refine AW.exit ?_
      refine AW.regionSeq ?_
      refine OpsW.seg 1 [52, 0, 5, 6] [] [(52, .int .i64 v4), (0, slA (eI .u8) t0), (5, .int .i64 v3), (6, .int .i64 v4)] (by kernel_rfl) trivial ?_
      obtain ⟨x21, hx21, H⟩ := bindS H
      refine OpsW.qcall rfl (by kernel_rfl) rfl rfl (glAll_sound trivial) (.cons (.pur rfl) .nil) (f_R19_Write_ok hx21) rfl ?_
      refine OpsW.seg 5 [9, 8, 0, 5, 6] [] [(9, .int .i64 x21.2), (8, slA (eI .u8) x21.1), (0, slA (eI .u8) t0), (5, .int .i64 v3), (6, .int .i64 v4)] (by kernel_rfl) trivial ?_
      refine OpsW.nil ?_
      refine AW.seq ?_
      refine AW.regionSeq ?_
      refine OpsW.seg 14 [69, 68, 67, 66, 5, 6] [(!(x21.2 != (0 : Int))) = true → (!(x21.2 != (0 : Int))) = true, (x21.2 != (0 : Int)) = false → (!(x21.2 != (0 : Int))) = true, (!(cond (x21.2 != (0 : Int)) true (v3 == (1 : Int)))) = true → (!(cond (x21.2 != (0 : Int)) true (v3 == (1 : Int)))) = true, (cond (x21.2 != (0 : Int)) true (v3 == (1 : Int))) = false → (!(cond (x21.2 != (0 : Int)) true (v3 == (1 : Int)))) = true] [(69, .cnd (!(cond (cond (x21.2 != (0 : Int)) true (v3 == (1 : Int))) true (decide ((6 : Int) < v3)))) (.int .i64 v3)), (68, .cnd (!(cond (cond (x21.2 != (0 : Int)) true (v3 == (1 : Int))) true (decide ((6 : Int) < v3)))) (slA (eI .u8) t0)), (67, .cnd (!(cond (cond (x21.2 != (0 : Int)) true (v3 == (1 : Int))) true (decide ((6 : Int) < v3)))) (slA (eI .u8) x21.1)), (66, .bool (cond (cond (x21.2 != (0 : Int)) true (v3 == (1 : Int))) true (decide ((6 : Int) < v3)))), (5, .int .i64 v3), (6, .int .i64 v4)] (by kernel_rfl) ⟨(fun h => h), (fun h => by first | exact h | simpa using h), (fun h => h), (fun h => by first | exact h | simpa using h), trivial⟩ ?_
      obtain ⟨g22, H⟩ := G_some H
      refine OpsW.asG (c := !(cond (cond (x21.2 != (0 : Int)) true (v3 == (1 : Int))) true (decide ((6 : Int) < v3)))) (slA (eI .u8) (t0.take v3.toNat)) rfl rfl rfl rfl (fun hc => T.slice' rfl hc trivial hc (by kernel_rfl) (by kernel_rfl) (g22 hc) trivial (sl_hi (eI .u8) 1 (fun _ => rfl) t0 v3 (g22 hc))) ?_
      obtain ⟨x23, hx23, H⟩ := bindS H
      refine OpsW.gcall (c := !(cond (cond (x21.2 != (0 : Int)) true (v3 == (1 : Int))) true (decide ((6 : Int) < v3)))) (r := .bool x23) [] rfl (by kernel_rfl) rfl rfl rfl rfl (fun hc => ⟨glAll_sound ⟨hc, hc, trivial⟩, (.cons (.pur rfl) (.cons (.pur rfl) .nil)), f_R01_Same_ok (condT hc hx23), .inl ⟨rfl, rfl⟩⟩) ?_
      refine OpsW.seg 2 [73, 5, 6] [(!(cond (cond (x21.2 != (0 : Int)) true (v3 == (1 : Int))) true (decide ((6 : Int) < v3)))) = true → (!(cond (cond (x21.2 != (0 : Int)) true (v3 == (1 : Int))) true (decide ((6 : Int) < v3)))) = true, (cond (cond (x21.2 != (0 : Int)) true (v3 == (1 : Int))) true (decide ((6 : Int) < v3))) = false → (!(cond (cond (x21.2 != (0 : Int)) true (v3 == (1 : Int))) true (decide ((6 : Int) < v3)))) = true] [(73, .bool (cond (cond (cond (x21.2 != (0 : Int)) true (v3 == (1 : Int))) true (decide ((6 : Int) < v3))) true (!x23))), (5, .int .i64 v3), (6, .int .i64 v4)] (by kernel_rfl) ⟨(fun h => h), (fun h => by first | exact h | simpa using h), trivial⟩ ?_
      refine OpsW.nil ?_
      refine AW.cond (b := cond (cond (cond (x21.2 != (0 : Int)) true (v3 == (1 : Int))) true (decide ((6 : Int) < v3))) true (!x23)) rfl (fun c24 => ?_) (fun c24 => ?_)
      · replace H := condT c24 H
        refine AW.regionSeq ?_
        refine OpsW.seg 3 [4, 3, 2] [] [(4, .int .i64 (190 : Int)), (3, .int .i64 (0 : Int)), (2, .int .i64 (0 : Int))] (by kernel_rfl) trivial ?_
        refine OpsW.nil ?_
        obtain rfl := Option.some.inj H
        refine AW.recast (env' := [(2, .int .i64 (0 : Int)), (3, .int .i64 (0 : Int)), (4, .int .i64 (190 : Int))]) (h' := []) (StC.pure (.cons .im (.cons .im (.cons .im .nil)))) ?_
        refine AW.ret ?_
        try simp only [Ex.then, Ex.inBlock, Ex.noGoto, Ex.jump, reduceIte, Nat.reduceEqDiff, reduceCtorEq]
        refine Done.gen rfl (.tmp (.tmp (.tmp .nil))) ?_
        show _ = _
        kernel_rfl
      · replace H := condF c24 H
        refine AW.skip ?_
        refine AW.regionSeq ?_
        refine OpsW.seg 5 [4, 3, 2] [] [(4, .int .i64 (0 : Int)), (3, .int .i64 v3), (2, .int .i64 v4)] (by kernel_rfl) trivial ?_
        refine OpsW.nil ?_
        obtain rfl := Option.some.inj H
        refine AW.recast (env' := [(2, .int .i64 v4), (3, .int .i64 v3), (4, .int .i64 (0 : Int))]) (h' := []) (StC.pure (.cons .im (.cons .im (.cons .im .nil)))) ?_
        refine AW.ret ?_
        try simp only [Ex.then, Ex.inBlock, Ex.noGoto, Ex.jump, reduceIte, Nat.reduceEqDiff, reduceCtorEq]
        refine Done.gen rfl (.tmp (.tmp (.tmp .nil))) ?_
        show _ = _
        kernel_rfl
def f_R22_Strip_k1 (loop12 : ((List Int) × Int) → Option ((List Int) × (List Int) × Int)) (v11 : Int) (v14 : List Int) : Option ((List Int) × (List Int) × Int) :=
  G (inR (v11 + (1 : Int))) <|
  loop12 (v14, v11 + (1 : Int))
def f_R22_Strip_b1 (t0 : List Int) (v9 : List Int) (loop12 : ((List Int) × Int) → Option ((List Int) × (List Int) × Int)) (v10 : List Int) (v11 : Int) : Option ((List Int) × (List Int) × Int) :=
  cond (decide (v11 < (t0.length : Int))) (
    G (0 ≤ v11 ∧ v11 < (t0.length : Int)) <|
    cond ((t0.getD v11.toNat (0 : Int)) == (63 : Int)) (
      G (inR (v11 + (1 : Int))) <|
      G (0 ≤ (v11 + (1 : Int)) ∧ (v11 + (1 : Int)) ≤ (t0.length : Int)) <|
      (f_R19_Read (t0.drop ((v11 + (1 : Int)).toNat))).bind fun x20 =>
      cond (x20.2.2 != (0 : Int)) (
        some ([], [], (220 : Int))) (
        G (room 8 (v10.length + 1)) <|
        f_R22_Strip_k1 loop12 v11 (v10 ++ [x20.1]))) (
      f_R22_Strip_k1 loop12 v11 v10)) (
    (f_R22_Refer v9 v10).bind fun x23 =>
    (cond (!(x23.2 != (0 : Int))) (f_R01_Same x23.1 t0) (some false)).bind fun x24 =>
    cond (cond (x23.2 != (0 : Int)) true (!x24)) (
      some ([], [], (220 : Int))) (
      some (v9, v10, (0 : Int))))
def f_R22_Strip_k2 (t0 : List Int) (v3 : Int) (v9 : List Int) : Option ((List Int) × (List Int) × Int) :=
  iter (fun loop (s : (List Int) × Int) => f_R22_Strip_b1 t0 v9 loop s.1 s.2) 1000000 (([] : List Int), v3)
def f_R22_Strip_b2 (t0 : List Int) (loop4 : (Int) → Option ((List Int) × (List Int) × Int)) (v3 : Int) : Option ((List Int) × (List Int) × Int) :=
  G ((decide (v3 < (t0.length : Int))) = true → (0 ≤ v3 ∧ v3 < (t0.length : Int))) <|
  cond (cond (decide (v3 < (t0.length : Int))) ((t0.getD v3.toNat (0 : Int)) != (63 : Int)) false) (
    G (inR (v3 + (1 : Int))) <|
    loop4 (v3 + (1 : Int))) (
    G (0 ≤ v3 ∧ v3 ≤ (t0.length : Int)) <|
    cond (cond (decide (v3 < (t0.length : Int))) (decide ((0 : Int) < v3)) false) (
      G (inR (v3 - (1 : Int))) <|
      G (0 ≤ (v3 - (1 : Int)) ∧ (v3 - (1 : Int)) ≤ (t0.length : Int)) <|
      f_R22_Strip_k2 t0 v3 (t0.take ((v3 - (1 : Int)).toNat))) (
      f_R22_Strip_k2 t0 v3 (t0.take v3.toNat)))
def f_R22_Strip (t0 : List Int) : Option ((List Int) × (List Int) × Int) :=
  (f_R22_Clean t0).bind fun x1 =>
  cond (!x1) (
    some ([], [], (180 : Int))) (
    iter (fun loop (s : Int) => f_R22_Strip_b2 t0 loop s) 1000000 (0 : Int))
theorem f_R22_Strip_ok {t0 : List Int} {r : (List Int) × (List Int) × Int} (H : f_R22_Strip t0 = some r) : QSpec Tryd.prog 21 [slA (eI .u8) t0] (.tup [slA (eI .u8) r.1, slA (eI .i64) r.2.1, .int .i64 r.2.2]) := by
  refine Spec.of_AW Tryd.func21 rfl (by simp [Tryd.ntmps21]) ?_
  rw [Tryd.ntmps21]
  unfold f_R22_Strip at H
  change AW _ _ _ [(0, slA (eI .u8) t0)] [] _
  refine AW.regionSeq ?_
  refine OpsW.seg 3 [0] [] [(0, slA (eI .u8) t0)] (by kernel_rfl) trivial ?_
  refine OpsW.nil ?_
  refine AW.regionSeq ?_
  refine OpsW.seg 1 [15, 0] [] [(15, slA (eI .u8) t0), (0, slA (eI .u8) t0)] (by kernel_rfl) trivial ?_
  obtain ⟨x1, hx1, H⟩ := bindS H
  refine OpsW.qcall rfl (by kernel_rfl) rfl rfl (glAll_sound trivial) (.cons (.pur rfl) .nil) (f_R22_Clean_ok hx1) rfl ?_
  refine OpsW.seg 1 [5, 0] [] [(5, .bool x1), (0, slA (eI .u8) t0)] (by kernel_rfl) trivial ?_
  refine OpsW.nil ?_
  refine AW.seq ?_
  refine AW.regionSeq ?_
  refine OpsW.seg 2 [18, 0] [] [(18, .bool (!x1)), (0, slA (eI .u8) t0)] (by kernel_rfl) trivial ?_
  refine OpsW.nil ?_
  refine AW.cond (b := !x1) rfl (fun c2 => ?_) (fun c2 => ?_)
  · replace H := condT c2 H
    refine AW.regionSeq ?_
    refine OpsW.seg 3 [4, 3, 2] [] [(4, .int .i64 (180 : Int)), (3, .im (.val (.slice none 0 0))), (2, .im (.val (.slice none 0 0)))] (by kernel_rfl) trivial ?_
    refine OpsW.nil ?_
    obtain rfl := Option.some.inj H
    refine AW.recast (env' := [(2, slA (eI .u8) []), (3, slA (eI .i64) []), (4, .int .i64 (180 : Int))]) (h' := []) (StC.pure (.cons .nil (.cons .nil (.cons .im .nil)))) ?_
    refine AW.ret ?_
    try simp only [Ex.then, Ex.inBlock, Ex.noGoto, Ex.jump, reduceIte, Nat.reduceEqDiff, reduceCtorEq]
    refine Done.gen rfl (.tmp (.tmp (.tmp .nil))) ?_
    show _ = _
    kernel_rfl
  · replace H := condF c2 H
    refine AW.skip ?_
    refine AW.regionSeq ?_
    refine OpsW.seg 1 [6, 0] [] [(6, .int .i64 (0 : Int)), (0, slA (eI .u8) t0)] (by kernel_rfl) trivial ?_
    refine OpsW.nil ?_
    refine AW.seq ?_
    refine AW.block ?_
    refine AW.iterK (fun loop (s : Int) => f_R22_Strip_b2 t0 loop s) r (fun (s : Int) => [(0, slA (eI .u8) t0), (6, .int .i64 s)]) (fun (s : Int) => []) ?_ 1000000 (0 : Int) H (StC.pure (.cons .im (.cons .im .nil)))
    intro loop4 v3 H
    change f_R22_Strip_b2 t0 loop4 v3 = some r at H
    unfold f_R22_Strip_b2 at H
    change AW _ _ _ [(0, slA (eI .u8) t0), (6, .int .i64 v3)] [] _
    refine AW.seq ?_
    refine AW.regionSeq ?_
    obtain ⟨g5, H⟩ := G_some H
    refine OpsW.seg 8 [26, 23, 0, 6] [(decide (v3 < (t0.length : Int))) = true → (decide (v3 < (t0.length : Int))) = true, (decide (v3 < (t0.length : Int))) = true → (decide (v3 < (t0.length : Int))) = true, (decide (v3 < (t0.length : Int))) = true → (0 ≤ v3 ∧ v3 < (t0.length : Int))] [(26, .cnd (decide (v3 < (t0.length : Int))) (.ipt (t0.flatMap (eI .u8)) (v3.toNat * 1))), (23, .bool (decide (v3 < (t0.length : Int)))), (0, slA (eI .u8) t0), (6, .int .i64 v3)] (by kernel_rfl) ⟨(fun h => h), (fun h => h), g5, trivial⟩ ?_
    refine OpsW.asG (c := decide (v3 < (t0.length : Int))) (.int .u8 (t0.getD v3.toNat (0 : Int))) rfl rfl rfl rfl (fun hc => T.load rfl hc (by kernel_rfl) (fm_cell0 (eI .u8) 1 (fun _ => rfl) t0 (0 : Int) v3.toNat (ltN (g5 hc)) (fun a => .val (.int .u8 a)) (fun _ => rfl))) ?_
    refine OpsW.seg 2 [29, 0, 6] [(decide (v3 < (t0.length : Int))) = true → (decide (v3 < (t0.length : Int))) = true, (decide (v3 < (t0.length : Int))) = true → (decide (v3 < (t0.length : Int))) = true] [(29, .bool (cond (decide (v3 < (t0.length : Int))) ((t0.getD v3.toNat (0 : Int)) != (63 : Int)) false)), (0, slA (eI .u8) t0), (6, .int .i64 v3)] (by kernel_rfl) ⟨(fun h => h), (fun h => by first | exact h | simpa using h), trivial⟩ ?_
    refine OpsW.nil ?_
    refine AW.cond (b := cond (decide (v3 < (t0.length : Int))) ((t0.getD v3.toNat (0 : Int)) != (63 : Int)) false) rfl (fun c6 => ?_) (fun c6 => ?_)
    · replace H := condT c6 H
      refine AW.skip ?_
      refine AW.block ?_
      refine AW.region ?_
      obtain ⟨g7, H⟩ := G_some H
      refine OpsW.seg 3 [6, 0] [inR (v3 + (1 : Int))] [(6, .int .i64 (v3 + (1 : Int))), (0, slA (eI .u8) t0)] (by kernel_rfl) ⟨g7, trivial⟩ ?_
      refine OpsW.nil ?_
      show ∃ y, _ ∧ StC _ _ _ _
      exact ⟨v3 + (1 : Int), H, (StC.pure (.cons .im (.cons .im .nil)))⟩
    · replace H := condF c6 H
      refine AW.exit ?_
      refine AW.regionSeq ?_
      refine OpsW.seg 2 [33, 32, 0, 6] [] [(33, .int .i64 v3), (32, slA (eI .u8) t0), (0, slA (eI .u8) t0), (6, .int .i64 v3)] (by kernel_rfl) trivial ?_
      obtain ⟨g8, H⟩ := G_some H
      refine OpsW.asU (slA (eI .u8) (t0.take v3.toNat)) rfl rfl (T.slice' rfl trivial trivial trivial (by kernel_rfl) (by kernel_rfl) g8 trivial (sl_hi (eI .u8) 1 (fun _ => rfl) t0 v3 g8)) ?_
      refine OpsW.seg 1 [7, 0, 6] [] [(7, slA (eI .u8) (t0.take v3.toNat)), (0, slA (eI .u8) t0), (6, .int .i64 v3)] (by kernel_rfl) trivial ?_
      refine OpsW.nil ?_
      refine AW.joinK (fun (y : (List Int)) => f_R22_Strip_k2 t0 v3 y) r (fun (y : (List Int)) => [(0, slA (eI .u8) t0), (6, .int .i64 v3), (7, slA (eI .u8) y)]) (fun (y : (List Int)) => []) ?_ ?_
      · refine AW.regionSeq ?_
        refine OpsW.seg 8 [42, 7, 0, 6] [(decide (v3 < (t0.length : Int))) = true → (decide (v3 < (t0.length : Int))) = true, (decide (v3 < (t0.length : Int))) = true → (decide (v3 < (t0.length : Int))) = true] [(42, .bool (cond (decide (v3 < (t0.length : Int))) (decide ((0 : Int) < v3)) false)), (7, slA (eI .u8) (t0.take v3.toNat)), (0, slA (eI .u8) t0), (6, .int .i64 v3)] (by kernel_rfl) ⟨(fun h => h), (fun h => by first | exact h | simpa using h), trivial⟩ ?_
        refine OpsW.nil ?_
        refine AW.cond (b := cond (decide (v3 < (t0.length : Int))) (decide ((0 : Int) < v3)) false) rfl (fun c26 => ?_) (fun c26 => ?_)
        · replace H := condT c26 H
          refine AW.region ?_
          obtain ⟨g27, H⟩ := G_some H
          refine OpsW.seg 3 [45, 43, 7, 0, 6] [inR (v3 - (1 : Int))] [(45, .int .i64 (v3 - (1 : Int))), (43, slA (eI .u8) t0), (7, slA (eI .u8) (t0.take v3.toNat)), (0, slA (eI .u8) t0), (6, .int .i64 v3)] (by kernel_rfl) ⟨g27, trivial⟩ ?_
          obtain ⟨g28, H⟩ := G_some H
          refine OpsW.asU (slA (eI .u8) (t0.take ((v3 - (1 : Int)).toNat))) rfl rfl (T.slice' rfl trivial trivial trivial (by kernel_rfl) (by kernel_rfl) g28 trivial (sl_hi (eI .u8) 1 (fun _ => rfl) t0 (v3 - (1 : Int)) g28)) ?_
          refine OpsW.seg 1 [7, 0, 6] [] [(7, slA (eI .u8) (t0.take ((v3 - (1 : Int)).toNat))), (0, slA (eI .u8) t0), (6, .int .i64 v3)] (by kernel_rfl) trivial ?_
          refine OpsW.nil ?_
          show ∃ y, _ ∧ StC _ _ _ _
          exact ⟨t0.take ((v3 - (1 : Int)).toNat), H, (StC.pure (.cons .im (.cons .im (.cons .im .nil))))⟩
        · replace H := condF c26 H
          refine AW.skip ?_
          show ∃ y, _ ∧ StC _ _ _ _
          exact ⟨t0.take v3.toNat, H, (StC.pure (.cons .im (.cons .im (.cons .im .nil))))⟩
      · intro v9 H
        change f_R22_Strip_k2 t0 v3 v9 = some r at H
        unfold f_R22_Strip_k2 at H
        change AW _ _ _ [(0, slA (eI .u8) t0), (6, .int .i64 v3), (7, slA (eI .u8) v9)] [] _
        refine AW.regionSeq ?_
        refine OpsW.buildT (enc := eI .i64) ([] : List Int) rfl rfl rfl 47 rfl E23 (fun _ => rfl) (by decide) trivial (by kernel_rfl) (by kernel_rfl) (by kernel_rfl) rfl ?_
        refine OpsW.seg 1 [8, 0, 6, 7] [] [(8, .rsl 47 0 0 (([] : List Int).length)), (0, slA (eI .u8) t0), (6, .int .i64 v3), (7, slA (eI .u8) v9)] (by kernel_rfl) trivial ?_
        refine OpsW.recast (env' := [(8, .rsl 8 0 0 (([] : List Int).length)), (0, slA (eI .u8) t0), (6, .int .i64 v3), (7, slA (eI .u8) v9)]) (h' := [(8, rtA 0 3 1 (eI .i64) ([] : List Int))]) (StC.mk (phi [(8, some 47)]) (.old rfl rfl rfl rfl rfl (CstL.ims _) .nil) rfl (.cons (.rsl rfl rfl rfl rfl rfl rfl) (.cons .im (.cons .im (.cons .im .nil))))) ?_
        refine OpsW.nil ?_
        refine AW.seq ?_
        refine AW.regionSeq ?_
        refine OpsW.seg 2 [9, 8, 0, 7] [] [(9, .int .i64 v3), (8, .rsl 8 0 0 (([] : List Int).length)), (0, slA (eI .u8) t0), (7, slA (eI .u8) v9)] (by kernel_rfl) trivial ?_
        refine OpsW.nil ?_
        refine AW.block ?_
        refine AW.iterK (fun loop (s : (List Int) × Int) => f_R22_Strip_b1 t0 v9 loop s.1 s.2) r (fun (s : (List Int) × Int) => [(0, slA (eI .u8) t0), (7, slA (eI .u8) v9), (8, .rsl 8 0 0 s.1.length), (9, .int .i64 s.2)]) (fun (s : (List Int) × Int) => [(8, rtA 0 3 1 (eI .i64) s.1)]) ?_ 1000000 (([] : List Int), v3) H (StC.mk (phi [(8, some 8)]) (.old rfl rfl rfl rfl rfl (CstL.ims _) .nil) rfl (.cons .im (.cons .im (.cons (.rsl rfl rfl rfl rfl rfl rfl) (.cons .im .nil)))))
        intro loop12 s H
        obtain ⟨v10, v11⟩ := s
        change f_R22_Strip_b1 t0 v9 loop12 v10 v11 = some r at H
        unfold f_R22_Strip_b1 at H
        change AW _ _ _ [(0, slA (eI .u8) t0), (7, slA (eI .u8) v9), (8, .rsl 8 0 0 v10.length), (9, .int .i64 v11)] [(8, rtA 0 3 1 (eI .i64) v10)] _
        refine AW.seq ?_
        refine AW.regionSeq ?_
        refine OpsW.seg 4 [52, 0, 7, 8, 9] [] [(52, .bool (decide (v11 < (t0.length : Int)))), (0, slA (eI .u8) t0), (7, slA (eI .u8) v9), (8, .rsl 8 0 0 v10.length), (9, .int .i64 v11)] (by kernel_rfl) trivial ?_
        refine OpsW.nil ?_
        refine AW.cond (b := decide (v11 < (t0.length : Int))) rfl (fun c13 => ?_) (fun c13 => ?_)
        · replace H := condT c13 H
          refine AW.skip ?_
          refine AW.joinK (fun (y : (List Int)) => f_R22_Strip_k1 loop12 v11 y) r (fun (y : (List Int)) => [(0, slA (eI .u8) t0), (7, slA (eI .u8) v9), (8, .rsl 8 0 0 y.length), (9, .int .i64 v11)]) (fun (y : (List Int)) => [(8, rtA 0 3 1 (eI .i64) y)]) ?_ ?_
          · refine AW.block ?_
            refine AW.regionSeq ?_
            obtain ⟨g16, H⟩ := G_some H
            refine OpsW.seg 3 [57, 0, 7, 8, 9] [0 ≤ v11 ∧ v11 < (t0.length : Int)] [(57, .ipt (t0.flatMap (eI .u8)) (v11.toNat * 1)), (0, slA (eI .u8) t0), (7, slA (eI .u8) v9), (8, .rsl 8 0 0 v10.length), (9, .int .i64 v11)] (by kernel_rfl) ⟨g16, trivial⟩ ?_
            refine OpsW.asU (.int .u8 (t0.getD v11.toNat (0 : Int))) rfl rfl (T.load rfl trivial (by kernel_rfl) (fm_cell0 (eI .u8) 1 (fun _ => rfl) t0 (0 : Int) v11.toNat (ltN g16) (fun a => .val (.int .u8 a)) (fun _ => rfl))) ?_
            refine OpsW.seg 1 [59, 0, 7, 8, 9] [] [(59, .bool ((t0.getD v11.toNat (0 : Int)) == (63 : Int))), (0, slA (eI .u8) t0), (7, slA (eI .u8) v9), (8, .rsl 8 0 0 v10.length), (9, .int .i64 v11)] (by kernel_rfl) trivial ?_
            refine OpsW.nil ?_
            refine AW.cond (b := (t0.getD v11.toNat (0 : Int)) == (63 : Int)) rfl (fun c17 => ?_) (fun c17 => ?_)
            · replace H := condT c17 H
              refine AW.regionSeq ?_
              obtain ⟨g18, H⟩ := G_some H
              refine OpsW.seg 3 [63, 61, 0, 7, 8, 9] [inR (v11 + (1 : Int))] [(63, .int .i64 (v11 + (1 : Int))), (61, slA (eI .u8) t0), (0, slA (eI .u8) t0), (7, slA (eI .u8) v9), (8, .rsl 8 0 0 v10.length), (9, .int .i64 v11)] (by kernel_rfl) ⟨g18, trivial⟩ ?_
              obtain ⟨g19, H⟩ := G_some H
              refine OpsW.asU (slA (eI .u8) (t0.drop ((v11 + (1 : Int)).toNat))) rfl rfl (T.slice' rfl trivial trivial trivial (by kernel_rfl) (by kernel_rfl) trivial g19 (sl_lo (eI .u8) 1 (fun _ => rfl) t0 (v11 + (1 : Int)) g19)) ?_
              obtain ⟨x20, hx20, H⟩ := bindS H
              refine OpsW.qcall rfl (by kernel_rfl) rfl rfl (glAll_sound trivial) (.cons (.pur rfl) .nil) (f_R19_Read_ok hx20) rfl ?_
              refine OpsW.seg 7 [12, 10, 0, 7, 8, 9] [] [(12, .int .i64 x20.2.2), (10, .int .i64 x20.1), (0, slA (eI .u8) t0), (7, slA (eI .u8) v9), (8, .rsl 8 0 0 v10.length), (9, .int .i64 v11)] (by kernel_rfl) trivial ?_
              refine OpsW.nil ?_
              refine AW.seq ?_
              refine AW.regionSeq ?_
              refine OpsW.seg 2 [70, 10, 0, 7, 8, 9] [] [(70, .bool (x20.2.2 != (0 : Int))), (10, .int .i64 x20.1), (0, slA (eI .u8) t0), (7, slA (eI .u8) v9), (8, .rsl 8 0 0 v10.length), (9, .int .i64 v11)] (by kernel_rfl) trivial ?_
              refine OpsW.nil ?_
              refine AW.cond (b := x20.2.2 != (0 : Int)) rfl (fun c21 => ?_) (fun c21 => ?_)
              · replace H := condT c21 H
                refine AW.regionSeq ?_
                refine OpsW.seg 3 [4, 3, 2] [] [(4, .int .i64 (220 : Int)), (3, .im (.val (.slice none 0 0))), (2, .im (.val (.slice none 0 0)))] (by kernel_rfl) trivial ?_
                refine OpsW.nil ?_
                obtain rfl := Option.some.inj H
                refine AW.recast (env' := [(2, slA (eI .u8) []), (3, slA (eI .i64) []), (4, .int .i64 (220 : Int))]) (h' := []) (StC.pure (.cons .nil (.cons .nil (.cons .im .nil)))) ?_
                refine AW.ret ?_
                try simp only [Ex.then, Ex.inBlock, Ex.noGoto, Ex.jump, reduceIte, Nat.reduceEqDiff, reduceCtorEq]
                refine Done.gen rfl (.tmp (.tmp (.tmp .nil))) ?_
                show _ = _
                kernel_rfl
              · replace H := condF c21 H
                refine AW.skip ?_
                refine AW.region ?_
                refine OpsW.seg 2 [72, 71, 0, 7, 8, 9] [] [(72, .int .i64 x20.1), (71, .rsl 8 0 0 v10.length), (0, slA (eI .u8) t0), (7, slA (eI .u8) v9), (8, .rsl 8 0 0 v10.length), (9, .int .i64 v11)] (by kernel_rfl) trivial ?_
                obtain ⟨g22, H⟩ := G_some H
                refine OpsW.appendLF (enc := eI .i64) [x20.1] rfl rfl rfl (by decide) rfl rfl rfl (by simp) E23 (fun _ => rfl) (by decide) trivial (by kernel_rfl) (by kernel_rfl) (by kernel_rfl) rfl rfl rfl g22 ?_
                refine OpsW.seg 1 [8, 0, 7, 9] [] [(8, .rsl 8 1 0 ((v10 ++ [x20.1]).length)), (0, slA (eI .u8) t0), (7, slA (eI .u8) v9), (9, .int .i64 v11)] (by kernel_rfl) trivial ?_
                refine OpsW.recast (env' := [(8, .rsl 8 0 0 ((v10 ++ [x20.1]).length)), (0, slA (eI .u8) t0), (7, slA (eI .u8) v9), (9, .int .i64 v11)]) (h' := [(8, rtA 0 3 1 (eI .i64) (v10 ++ [x20.1]))]) (StC.mk (phi [(8, some 8)]) (.old rfl rfl rfl rfl rfl (CstL.ims _) .nil) rfl (.cons (.rsl rfl rfl rfl rfl rfl rfl) (.cons .im (.cons .im (.cons .im .nil))))) ?_
                refine OpsW.nil ?_
                show ∃ y, _ ∧ StC _ _ _ _
                exact ⟨v10 ++ [x20.1], H, (StC.mk (phi [(8, some 8)]) (.old rfl rfl rfl rfl rfl (CstL.ims _) .nil) rfl (.cons .im (.cons .im (.cons (.rsl rfl rfl rfl rfl rfl rfl) (.cons .im .nil)))))⟩
            · replace H := condF c17 H
              refine AW.skip ?_
              show ∃ y, _ ∧ StC _ _ _ _
              exact ⟨v10, H, (StC.mk (phi [(8, some 8)]) (.old rfl rfl rfl rfl rfl (CstL.ims _) .nil) rfl (.cons .im (.cons .im (.cons (.rsl rfl rfl rfl rfl rfl rfl) (.cons .im .nil)))))⟩
          · intro v14 H
            change f_R22_Strip_k1 loop12 v11 v14 = some r at H
            unfold f_R22_Strip_k1 at H
            change AW _ _ _ [(0, slA (eI .u8) t0), (7, slA (eI .u8) v9), (8, .rsl 8 0 0 v14.length), (9, .int .i64 v11)] [(8, rtA 0 3 1 (eI .i64) v14)] _
            refine AW.region ?_
            obtain ⟨g15, H⟩ := G_some H
            refine OpsW.seg 3 [9, 0, 7, 8] [inR (v11 + (1 : Int))] [(9, .int .i64 (v11 + (1 : Int))), (0, slA (eI .u8) t0), (7, slA (eI .u8) v9), (8, .rsl 8 0 0 v14.length)] (by kernel_rfl) ⟨g15, trivial⟩ ?_
            refine OpsW.nil ?_
            show ∃ y, _ ∧ StC _ _ _ _
            exact ⟨(v14, v11 + (1 : Int)), H, (StC.mk (phi [(8, some 8)]) (.old rfl rfl rfl rfl rfl (CstL.ims _) .nil) rfl (.cons .im (.cons .im (.cons (.rsl rfl rfl rfl rfl rfl rfl) (.cons .im .nil)))))⟩
        · replace H := condF c13 H
          refine AW.exit ?_
          refine AW.regionSeq ?_
          refine OpsW.seg 2 [77, 76, 0, 7, 8] [] [(77, .rsl 8 0 0 v10.length), (76, slA (eI .u8) v9), (0, slA (eI .u8) t0), (7, slA (eI .u8) v9), (8, .rsl 8 0 0 v10.length)] (by kernel_rfl) trivial ?_
          refine OpsW.recast (env' := [(77, slA (eI .i64) v10), (76, slA (eI .u8) v9), (0, slA (eI .u8) t0), (7, slA (eI .u8) v9), (8, slA (eI .i64) v10)]) (h' := []) (StC.mk (phi []) .nil rfl (.cons (.frz rfl rfl rfl (frz_all (eI .i64) 1 (fun _ => rfl) v10) (fm_length (eI .i64) 1 (fun _ => rfl) v10) (phi_ne rfl)) (.cons .im (.cons .im (.cons .im (.cons (.frz rfl rfl rfl (frz_all (eI .i64) 1 (fun _ => rfl) v10) (fm_length (eI .i64) 1 (fun _ => rfl) v10) (phi_ne rfl)) .nil)))))) ?_
          obtain ⟨x23, hx23, H⟩ := bindS H
          refine OpsW.qcall rfl (by kernel_rfl) rfl rfl (glAll_sound trivial) (.cons (.pur rfl) (.cons (.pur rfl) .nil)) (f_R22_Refer_ok hx23) rfl ?_
          refine OpsW.seg 5 [14, 13, 0, 7, 8] [] [(14, .int .i64 x23.2), (13, slA (eI .u8) x23.1), (0, slA (eI .u8) t0), (7, slA (eI .u8) v9), (8, slA (eI .i64) v10)] (by kernel_rfl) trivial ?_
          refine OpsW.recast (env' := [(14, .int .i64 x23.2), (13, slA (eI .u8) x23.1), (0, slA (eI .u8) t0), (7, slA (eI .u8) v9), (8, slA (eI .i64) v10)]) (h' := []) (StC.pure (.cons .im (.cons .im (.cons .im (.cons .im (.cons .im .nil)))))) ?_
          refine OpsW.nil ?_
          refine AW.seq ?_
          refine AW.regionSeq ?_
          refine OpsW.seg 5 [85, 84, 83, 7, 8] [] [(85, .cnd (!(x23.2 != (0 : Int))) (slA (eI .u8) t0)), (84, .cnd (!(x23.2 != (0 : Int))) (slA (eI .u8) x23.1)), (83, .bool (x23.2 != (0 : Int))), (7, slA (eI .u8) v9), (8, slA (eI .i64) v10)] (by kernel_rfl) trivial ?_
          obtain ⟨x24, hx24, H⟩ := bindS H
          refine OpsW.gcall (c := !(x23.2 != (0 : Int))) (r := .bool x24) [] rfl (by kernel_rfl) rfl rfl rfl rfl (fun hc => ⟨glAll_sound ⟨hc, hc, trivial⟩, (.cons (.pur rfl) (.cons (.pur rfl) .nil)), f_R01_Same_ok (condT hc hx24), .inl ⟨rfl, rfl⟩⟩) ?_
          refine OpsW.seg 2 [88, 7, 8] [(!(x23.2 != (0 : Int))) = true → (!(x23.2 != (0 : Int))) = true, (x23.2 != (0 : Int)) = false → (!(x23.2 != (0 : Int))) = true] [(88, .bool (cond (x23.2 != (0 : Int)) true (!x24))), (7, slA (eI .u8) v9), (8, slA (eI .i64) v10)] (by kernel_rfl) ⟨(fun h => h), (fun h => by first | exact h | simpa using h), trivial⟩ ?_
          refine OpsW.nil ?_
          refine AW.cond (b := cond (x23.2 != (0 : Int)) true (!x24)) rfl (fun c25 => ?_) (fun c25 => ?_)
          · replace H := condT c25 H
            refine AW.regionSeq ?_
            refine OpsW.seg 3 [4, 3, 2] [] [(4, .int .i64 (220 : Int)), (3, .im (.val (.slice none 0 0))), (2, .im (.val (.slice none 0 0)))] (by kernel_rfl) trivial ?_
            refine OpsW.nil ?_
            obtain rfl := Option.some.inj H
            refine AW.recast (env' := [(2, slA (eI .u8) []), (3, slA (eI .i64) []), (4, .int .i64 (220 : Int))]) (h' := []) (StC.pure (.cons .nil (.cons .nil (.cons .im .nil)))) ?_
            refine AW.ret ?_
            try simp only [Ex.then, Ex.inBlock, Ex.noGoto, Ex.jump, reduceIte, Nat.reduceEqDiff, reduceCtorEq]
            refine Done.gen rfl (.tmp (.tmp (.tmp .nil))) ?_
            show _ = _
            kernel_rfl
          · replace H := condF c25 H
            refine AW.skip ?_
            refine AW.regionSeq ?_
            refine OpsW.seg 5 [4, 3, 2] [] [(4, .int .i64 (0 : Int)), (3, slA (eI .i64) v10), (2, slA (eI .u8) v9)] (by kernel_rfl) trivial ?_
            refine OpsW.nil ?_
            obtain rfl := Option.some.inj H
            refine AW.recast (env' := [(2, slA (eI .u8) v9), (3, slA (eI .i64) v10), (4, .int .i64 (0 : Int))]) (h' := []) (StC.pure (.cons .im (.cons .im (.cons .im .nil)))) ?_
            refine AW.ret ?_
            try simp only [Ex.then, Ex.inBlock, Ex.noGoto, Ex.jump, reduceIte, Nat.reduceEqDiff, reduceCtorEq]
            refine Done.gen rfl (.tmp (.tmp (.tmp .nil))) ?_
            show _ = _
            kernel_rfl
end Go.Proofs.YtdegmbjhedfffaaDoor
