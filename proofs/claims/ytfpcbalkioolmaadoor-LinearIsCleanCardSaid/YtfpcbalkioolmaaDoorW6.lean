/-
  Written by gen.py (own work): typed functions, and that the program computes them.
-/
import Derived.Test.YtfpcbalkioolmaaDoorW5
set_option linter.unusedSimpArgs false
set_option linter.unusedVariables false
set_option maxRecDepth 100000
namespace Go.Proofs.YtfpcbalkioolmaaDoor
open Go.Abs
def f_R10_Clean_b1 (t0 : List Int) (loop7 : (Int) → Option Bool) (v6 : Int) : Option Bool :=
  cond (decide (v6 < (t0.length : Int))) (
    G (0 ≤ v6 ∧ v6 < (t0.length : Int)) <|
    G (((!((t0.getD v6.toNat (0 : Int)) == (63 : Int))) && (decide ((0 : Int) < v6))) = true → inR (v6 - (1 : Int))) <|
    G (((!((t0.getD v6.toNat (0 : Int)) == (63 : Int))) && (decide ((0 : Int) < v6))) = true → (0 ≤ (v6 - (1 : Int)) ∧ (v6 - (1 : Int)) < (t0.length : Int))) <|
    cond (cond ((t0.getD v6.toNat (0 : Int)) == (63 : Int)) true (cond (cond (decide ((0 : Int) < v6)) ((t0.getD (v6 - (1 : Int)).toNat (0 : Int)) == (0 : Int)) false) ((t0.getD v6.toNat (0 : Int)) == (0 : Int)) false)) (
      some false) (
      G (inR (v6 + (1 : Int))) <|
      loop7 (v6 + (1 : Int)))) (
    some true)
def f_R10_Clean (t0 : List Int) : Option Bool :=
  (f_R01_ValidAll t0).bind fun x1 =>
  G ((!(cond ((t0.length : Int) == (0 : Int)) true (!x1))) = true → (0 ≤ (0 : Int) ∧ (0 : Int) < (t0.length : Int))) <|
  G ((!(cond (cond ((t0.length : Int) == (0 : Int)) true (!x1)) true ((t0.getD (0 : Int).toNat (0 : Int)) == (0 : Int)))) = true → inR ((t0.length : Int) - (1 : Int))) <|
  G ((!(cond (cond ((t0.length : Int) == (0 : Int)) true (!x1)) true ((t0.getD (0 : Int).toNat (0 : Int)) == (0 : Int)))) = true → (0 ≤ ((t0.length : Int) - (1 : Int)) ∧ ((t0.length : Int) - (1 : Int)) < (t0.length : Int))) <|
  cond (cond (cond (cond ((t0.length : Int) == (0 : Int)) true (!x1)) true ((t0.getD (0 : Int).toNat (0 : Int)) == (0 : Int))) true ((t0.getD ((t0.length : Int) - (1 : Int)).toNat (0 : Int)) == (0 : Int))) (
    some false) (
    iter (fun loop (s : Int) => f_R10_Clean_b1 t0 loop s) 1000000 (0 : Int))
theorem f_R10_Clean_ok  {t0 : List Int} {r : Bool} (H : f_R10_Clean t0 = some r) : QSpec Tryd.prog 18 [slA (eI .u8) t0] (.bool r) := by
  refine Spec.of_AW Tryd.func18 rfl (by simp [Tryd.ntmps18]) ?_
  rw [Tryd.ntmps18]
  unfold f_R10_Clean at H
  change AW _ _ _ [(0, slA (eI .u8) t0)] [] _
  refine AW.regionSeq ?_
  refine OpsW.seg 1 [0] [] [(0, slA (eI .u8) t0)] (by kernel_rfl) trivial ?_
  refine OpsW.nil ?_
  refine AW.regionSeq ?_
  refine OpsW.seg 1 [5, 0] [] [(5, slA (eI .u8) t0), (0, slA (eI .u8) t0)] (by kernel_rfl) trivial ?_
  obtain ⟨x1, hx1, H⟩ := bindS H
  refine OpsW.qcall rfl (by kernel_rfl) rfl rfl (glAll_sound trivial) (.cons (.pur rfl) .nil) (f_R01_ValidAll_ok hx1) rfl ?_
  refine OpsW.seg 1 [3, 0] [] [(3, .bool x1), (0, slA (eI .u8) t0)] (by kernel_rfl) trivial ?_
  refine OpsW.nil ?_
  refine AW.seq ?_
  refine AW.regionSeq ?_
  obtain ⟨g2, H⟩ := G_some H
  refine OpsW.seg 10 [16, 14, 0] [(!((t0.length : Int) == (0 : Int))) = true → (!((t0.length : Int) == (0 : Int))) = true, ((t0.length : Int) == (0 : Int)) = false → (!((t0.length : Int) == (0 : Int))) = true, (!(cond ((t0.length : Int) == (0 : Int)) true (!x1))) = true → (!(cond ((t0.length : Int) == (0 : Int)) true (!x1))) = true, (!(cond ((t0.length : Int) == (0 : Int)) true (!x1))) = true → (0 ≤ (0 : Int) ∧ (0 : Int) < (t0.length : Int))] [(16, .cnd (!(cond ((t0.length : Int) == (0 : Int)) true (!x1))) (.ipt (t0.flatMap (eI .u8)) ((0 : Int).toNat * 1))), (14, .bool (cond ((t0.length : Int) == (0 : Int)) true (!x1))), (0, slA (eI .u8) t0)] (by kernel_rfl) ⟨(fun h => h), (fun h => by first | exact h | (simpa using h) | grind), (fun h => h), g2, trivial⟩ ?_
  refine OpsW.asG (c := !(cond ((t0.length : Int) == (0 : Int)) true (!x1))) (.int .u8 (t0.getD (0 : Int).toNat (0 : Int))) rfl rfl rfl rfl (fun hc => T.load rfl hc (by kernel_rfl) (fm_cell0 (eI .u8) 1 (fun _ => rfl) t0 (0 : Int) (0 : Int).toNat (ltN (g2 hc)) (fun a => .val (.int .u8 a)) (fun _ => rfl))) ?_
  obtain ⟨g3, H⟩ := G_some H
  obtain ⟨g4, H⟩ := G_some H
  refine OpsW.seg 8 [25, 20, 0] [(!(cond ((t0.length : Int) == (0 : Int)) true (!x1))) = true → (!(cond ((t0.length : Int) == (0 : Int)) true (!x1))) = true, (cond ((t0.length : Int) == (0 : Int)) true (!x1)) = false → (!(cond ((t0.length : Int) == (0 : Int)) true (!x1))) = true, (!(cond (cond ((t0.length : Int) == (0 : Int)) true (!x1)) true ((t0.getD (0 : Int).toNat (0 : Int)) == (0 : Int)))) = true → (!(cond (cond ((t0.length : Int) == (0 : Int)) true (!x1)) true ((t0.getD (0 : Int).toNat (0 : Int)) == (0 : Int)))) = true, (!(cond (cond ((t0.length : Int) == (0 : Int)) true (!x1)) true ((t0.getD (0 : Int).toNat (0 : Int)) == (0 : Int)))) = true → (!(cond (cond ((t0.length : Int) == (0 : Int)) true (!x1)) true ((t0.getD (0 : Int).toNat (0 : Int)) == (0 : Int)))) = true, (!(cond (cond ((t0.length : Int) == (0 : Int)) true (!x1)) true ((t0.getD (0 : Int).toNat (0 : Int)) == (0 : Int)))) = true → inR ((t0.length : Int) - (1 : Int)), (!(cond (cond ((t0.length : Int) == (0 : Int)) true (!x1)) true ((t0.getD (0 : Int).toNat (0 : Int)) == (0 : Int)))) = true → (!(cond (cond ((t0.length : Int) == (0 : Int)) true (!x1)) true ((t0.getD (0 : Int).toNat (0 : Int)) == (0 : Int)))) = true, (!(cond (cond ((t0.length : Int) == (0 : Int)) true (!x1)) true ((t0.getD (0 : Int).toNat (0 : Int)) == (0 : Int)))) = true → (!(cond (cond ((t0.length : Int) == (0 : Int)) true (!x1)) true ((t0.getD (0 : Int).toNat (0 : Int)) == (0 : Int)))) = true, (!(cond (cond ((t0.length : Int) == (0 : Int)) true (!x1)) true ((t0.getD (0 : Int).toNat (0 : Int)) == (0 : Int)))) = true → (0 ≤ ((t0.length : Int) - (1 : Int)) ∧ ((t0.length : Int) - (1 : Int)) < (t0.length : Int))] [(25, .cnd (!(cond (cond ((t0.length : Int) == (0 : Int)) true (!x1)) true ((t0.getD (0 : Int).toNat (0 : Int)) == (0 : Int)))) (.ipt (t0.flatMap (eI .u8)) (((t0.length : Int) - (1 : Int)).toNat * 1))), (20, .bool (cond (cond ((t0.length : Int) == (0 : Int)) true (!x1)) true ((t0.getD (0 : Int).toNat (0 : Int)) == (0 : Int)))), (0, slA (eI .u8) t0)] (by kernel_rfl) ⟨(fun h => h), (fun h => by first | exact h | (simpa using h) | grind), (fun h => h), (fun h => h), g3, (fun h => h), (fun h => h), g4, trivial⟩ ?_
  refine OpsW.asG (c := !(cond (cond ((t0.length : Int) == (0 : Int)) true (!x1)) true ((t0.getD (0 : Int).toNat (0 : Int)) == (0 : Int)))) (.int .u8 (t0.getD ((t0.length : Int) - (1 : Int)).toNat (0 : Int))) rfl rfl rfl rfl (fun hc => T.load rfl hc (by kernel_rfl) (fm_cell0 (eI .u8) 1 (fun _ => rfl) t0 (0 : Int) ((t0.length : Int) - (1 : Int)).toNat (ltN (g4 hc)) (fun a => .val (.int .u8 a)) (fun _ => rfl))) ?_
  refine OpsW.seg 2 [28, 0] [(!(cond (cond ((t0.length : Int) == (0 : Int)) true (!x1)) true ((t0.getD (0 : Int).toNat (0 : Int)) == (0 : Int)))) = true → (!(cond (cond ((t0.length : Int) == (0 : Int)) true (!x1)) true ((t0.getD (0 : Int).toNat (0 : Int)) == (0 : Int)))) = true, (cond (cond ((t0.length : Int) == (0 : Int)) true (!x1)) true ((t0.getD (0 : Int).toNat (0 : Int)) == (0 : Int))) = false → (!(cond (cond ((t0.length : Int) == (0 : Int)) true (!x1)) true ((t0.getD (0 : Int).toNat (0 : Int)) == (0 : Int)))) = true] [(28, .bool (cond (cond (cond ((t0.length : Int) == (0 : Int)) true (!x1)) true ((t0.getD (0 : Int).toNat (0 : Int)) == (0 : Int))) true ((t0.getD ((t0.length : Int) - (1 : Int)).toNat (0 : Int)) == (0 : Int)))), (0, slA (eI .u8) t0)] (by kernel_rfl) ⟨(fun h => h), (fun h => by first | exact h | (simpa using h) | grind), trivial⟩ ?_
  refine OpsW.nil ?_
  refine AW.cond (b := cond (cond (cond ((t0.length : Int) == (0 : Int)) true (!x1)) true ((t0.getD (0 : Int).toNat (0 : Int)) == (0 : Int))) true ((t0.getD ((t0.length : Int) - (1 : Int)).toNat (0 : Int)) == (0 : Int))) rfl (fun c5 => ?_) (fun c5 => ?_)
  · replace H := condT c5 H
    refine AW.regionSeq ?_
    refine OpsW.seg 1 [2] [] [(2, .bool false)] (by kernel_rfl) trivial ?_
    refine OpsW.nil ?_
    obtain rfl := Option.some.inj H
    refine AW.recast (env' := [(2, .bool false)]) (h' := []) (StC.pure (.cons .im .nil)) ?_
    refine AW.ret ?_
    try simp only [Ex.then, Ex.inBlock, Ex.noGoto, Ex.jump, reduceIte, Nat.reduceEqDiff, reduceCtorEq]
    refine Done.gen rfl (.tmp .nil) ?_
    show _ = _
    kernel_rfl
  · replace H := condF c5 H
    refine AW.skip ?_
    refine AW.seq ?_
    refine AW.regionSeq ?_
    refine OpsW.seg 1 [4, 0] [] [(4, .int .i64 0), (0, slA (eI .u8) t0)] (by kernel_rfl) trivial ?_
    refine OpsW.nil ?_
    refine AW.block ?_
    refine AW.iterK (fun loop (s : Int) => f_R10_Clean_b1 t0 loop s) r (fun (s : Int) => [(0, slA (eI .u8) t0), (4, .int .i64 s)]) (fun (s : Int) => []) ?_ 1000000 (0 : Int) H (StC.pure (.cons .im (.cons .im .nil)))
    intro loop7 v6 H
    change f_R10_Clean_b1 t0 loop7 v6 = some r at H
    unfold f_R10_Clean_b1 at H
    change AW _ _ _ [(0, slA (eI .u8) t0), (4, .int .i64 v6)] [] _
    refine AW.seq ?_
    refine AW.regionSeq ?_
    refine OpsW.seg 4 [32, 0, 4] [] [(32, .bool (decide (v6 < (t0.length : Int)))), (0, slA (eI .u8) t0), (4, .int .i64 v6)] (by kernel_rfl) trivial ?_
    refine OpsW.nil ?_
    refine AW.cond (b := decide (v6 < (t0.length : Int))) rfl (fun c8 => ?_) (fun c8 => ?_)
    · replace H := condT c8 H
      refine AW.skip ?_
      refine AW.seq ?_
      refine AW.block ?_
      refine AW.regionSeq ?_
      obtain ⟨g9, H⟩ := G_some H
      refine OpsW.seg 3 [37, 0, 4] [0 ≤ v6 ∧ v6 < (t0.length : Int)] [(37, .ipt (t0.flatMap (eI .u8)) (v6.toNat * 1)), (0, slA (eI .u8) t0), (4, .int .i64 v6)] (by kernel_rfl) ⟨g9, trivial⟩ ?_
      refine OpsW.asU (.int .u8 (t0.getD v6.toNat (0 : Int))) rfl rfl (T.load rfl trivial (by kernel_rfl) (fm_cell0 (eI .u8) 1 (fun _ => rfl) t0 (0 : Int) v6.toNat (ltN g9) (fun a => .val (.int .u8 a)) (fun _ => rfl))) ?_
      obtain ⟨g10, H⟩ := G_some H
      obtain ⟨g11, H⟩ := G_some H
      refine OpsW.seg 9 [47, 43, 40, 0, 4] [(!((t0.getD v6.toNat (0 : Int)) == (63 : Int))) = true → (!((t0.getD v6.toNat (0 : Int)) == (63 : Int))) = true, (!((t0.getD v6.toNat (0 : Int)) == (63 : Int))) = true → (!((t0.getD v6.toNat (0 : Int)) == (63 : Int))) = true, ((!((t0.getD v6.toNat (0 : Int)) == (63 : Int))) && (decide ((0 : Int) < v6))) = true → ((!((t0.getD v6.toNat (0 : Int)) == (63 : Int))) && (decide ((0 : Int) < v6))) = true, ((!((t0.getD v6.toNat (0 : Int)) == (63 : Int))) && (decide ((0 : Int) < v6))) = true → inR (v6 - (1 : Int)), ((!((t0.getD v6.toNat (0 : Int)) == (63 : Int))) && (decide ((0 : Int) < v6))) = true → ((!((t0.getD v6.toNat (0 : Int)) == (63 : Int))) && (decide ((0 : Int) < v6))) = true, ((!((t0.getD v6.toNat (0 : Int)) == (63 : Int))) && (decide ((0 : Int) < v6))) = true → ((!((t0.getD v6.toNat (0 : Int)) == (63 : Int))) && (decide ((0 : Int) < v6))) = true, ((!((t0.getD v6.toNat (0 : Int)) == (63 : Int))) && (decide ((0 : Int) < v6))) = true → (0 ≤ (v6 - (1 : Int)) ∧ (v6 - (1 : Int)) < (t0.length : Int))] [(47, .cnd ((!((t0.getD v6.toNat (0 : Int)) == (63 : Int))) && (decide ((0 : Int) < v6))) (.ipt (t0.flatMap (eI .u8)) ((v6 - (1 : Int)).toNat * 1))), (43, .cnd (!((t0.getD v6.toNat (0 : Int)) == (63 : Int))) (.bool (decide ((0 : Int) < v6)))), (40, .bool ((t0.getD v6.toNat (0 : Int)) == (63 : Int))), (0, slA (eI .u8) t0), (4, .int .i64 v6)] (by kernel_rfl) ⟨(fun h => h), (fun h => h), (fun h => h), g10, (fun h => h), (fun h => h), g11, trivial⟩ ?_
      refine OpsW.asG (c := (!((t0.getD v6.toNat (0 : Int)) == (63 : Int))) && (decide ((0 : Int) < v6))) (.int .u8 (t0.getD (v6 - (1 : Int)).toNat (0 : Int))) rfl rfl rfl rfl (fun hc => T.load rfl hc (by kernel_rfl) (fm_cell0 (eI .u8) 1 (fun _ => rfl) t0 (0 : Int) (v6 - (1 : Int)).toNat (ltN (g11 hc)) (fun a => .val (.int .u8 a)) (fun _ => rfl))) ?_
      refine OpsW.seg 6 [54, 51, 40, 0, 4] [((!((t0.getD v6.toNat (0 : Int)) == (63 : Int))) && (decide ((0 : Int) < v6))) = true → ((!((t0.getD v6.toNat (0 : Int)) == (63 : Int))) && (decide ((0 : Int) < v6))) = true, (!((t0.getD v6.toNat (0 : Int)) == (63 : Int))) = true → (!((t0.getD v6.toNat (0 : Int)) == (63 : Int))) = true, (!((t0.getD v6.toNat (0 : Int)) == (63 : Int))) = true → ((decide ((0 : Int) < v6)) = true → ((!((t0.getD v6.toNat (0 : Int)) == (63 : Int))) && (decide ((0 : Int) < v6))) = true), (!((t0.getD v6.toNat (0 : Int)) == (63 : Int))) = true → (!((t0.getD v6.toNat (0 : Int)) == (63 : Int))) = true, ((!((t0.getD v6.toNat (0 : Int)) == (63 : Int))) && (cond (decide ((0 : Int) < v6)) ((t0.getD (v6 - (1 : Int)).toNat (0 : Int)) == (0 : Int)) false)) = true → ((!((t0.getD v6.toNat (0 : Int)) == (63 : Int))) && (cond (decide ((0 : Int) < v6)) ((t0.getD (v6 - (1 : Int)).toNat (0 : Int)) == (0 : Int)) false)) = true, ((!((t0.getD v6.toNat (0 : Int)) == (63 : Int))) && (cond (decide ((0 : Int) < v6)) ((t0.getD (v6 - (1 : Int)).toNat (0 : Int)) == (0 : Int)) false)) = true → ((!((t0.getD v6.toNat (0 : Int)) == (63 : Int))) && (cond (decide ((0 : Int) < v6)) ((t0.getD (v6 - (1 : Int)).toNat (0 : Int)) == (0 : Int)) false)) = true, ((!((t0.getD v6.toNat (0 : Int)) == (63 : Int))) && (cond (decide ((0 : Int) < v6)) ((t0.getD (v6 - (1 : Int)).toNat (0 : Int)) == (0 : Int)) false)) = true → (0 ≤ v6 ∧ v6 < (t0.length : Int))] [(54, .cnd ((!((t0.getD v6.toNat (0 : Int)) == (63 : Int))) && (cond (decide ((0 : Int) < v6)) ((t0.getD (v6 - (1 : Int)).toNat (0 : Int)) == (0 : Int)) false)) (.ipt (t0.flatMap (eI .u8)) (v6.toNat * 1))), (51, .cnd (!((t0.getD v6.toNat (0 : Int)) == (63 : Int))) (.bool (cond (decide ((0 : Int) < v6)) ((t0.getD (v6 - (1 : Int)).toNat (0 : Int)) == (0 : Int)) false))), (40, .bool ((t0.getD v6.toNat (0 : Int)) == (63 : Int))), (0, slA (eI .u8) t0), (4, .int .i64 v6)] (by kernel_rfl) ⟨(fun h => h), (fun h => h), (fun h0 h => by first | exact h | (simp [h0, h]; done) | (simp at h0 h ⊢; simp [h0, h]; done) | (simp_all; done) | grind), (fun h => h), (fun h => h), (fun h => h), (fun _ => g9), trivial⟩ ?_
      refine OpsW.asG (c := (!((t0.getD v6.toNat (0 : Int)) == (63 : Int))) && (cond (decide ((0 : Int) < v6)) ((t0.getD (v6 - (1 : Int)).toNat (0 : Int)) == (0 : Int)) false)) (.int .u8 (t0.getD v6.toNat (0 : Int))) rfl rfl rfl rfl (fun hc => T.load rfl hc (by kernel_rfl) (fm_cell0 (eI .u8) 1 (fun _ => rfl) t0 (0 : Int) v6.toNat (ltN g9) (fun a => .val (.int .u8 a)) (fun _ => rfl))) ?_
      refine OpsW.seg 3 [58, 0, 4] [((!((t0.getD v6.toNat (0 : Int)) == (63 : Int))) && (cond (decide ((0 : Int) < v6)) ((t0.getD (v6 - (1 : Int)).toNat (0 : Int)) == (0 : Int)) false)) = true → ((!((t0.getD v6.toNat (0 : Int)) == (63 : Int))) && (cond (decide ((0 : Int) < v6)) ((t0.getD (v6 - (1 : Int)).toNat (0 : Int)) == (0 : Int)) false)) = true, (!((t0.getD v6.toNat (0 : Int)) == (63 : Int))) = true → (!((t0.getD v6.toNat (0 : Int)) == (63 : Int))) = true, (!((t0.getD v6.toNat (0 : Int)) == (63 : Int))) = true → ((cond (decide ((0 : Int) < v6)) ((t0.getD (v6 - (1 : Int)).toNat (0 : Int)) == (0 : Int)) false) = true → ((!((t0.getD v6.toNat (0 : Int)) == (63 : Int))) && (cond (decide ((0 : Int) < v6)) ((t0.getD (v6 - (1 : Int)).toNat (0 : Int)) == (0 : Int)) false)) = true), ((t0.getD v6.toNat (0 : Int)) == (63 : Int)) = false → (!((t0.getD v6.toNat (0 : Int)) == (63 : Int))) = true] [(58, .bool (cond ((t0.getD v6.toNat (0 : Int)) == (63 : Int)) true (cond (cond (decide ((0 : Int) < v6)) ((t0.getD (v6 - (1 : Int)).toNat (0 : Int)) == (0 : Int)) false) ((t0.getD v6.toNat (0 : Int)) == (0 : Int)) false))), (0, slA (eI .u8) t0), (4, .int .i64 v6)] (by kernel_rfl) ⟨(fun h => h), (fun h => h), (fun h0 h => by first | exact h | (simp [h0, h]; done) | (simp at h0 h ⊢; simp [h0, h]; done) | (simp_all; done) | grind), (fun h => by first | exact h | (simpa using h) | grind), trivial⟩ ?_
      refine OpsW.nil ?_
      refine AW.cond (b := cond ((t0.getD v6.toNat (0 : Int)) == (63 : Int)) true (cond (cond (decide ((0 : Int) < v6)) ((t0.getD (v6 - (1 : Int)).toNat (0 : Int)) == (0 : Int)) false) ((t0.getD v6.toNat (0 : Int)) == (0 : Int)) false)) rfl (fun c12 => ?_) (fun c12 => ?_)
      · replace H := condT c12 H
        refine AW.regionSeq ?_
        refine OpsW.seg 1 [2] [] [(2, .bool false)] (by kernel_rfl) trivial ?_
        refine OpsW.nil ?_
        obtain rfl := Option.some.inj H
        refine AW.recast (env' := [(2, .bool false)]) (h' := []) (StC.pure (.cons .im .nil)) ?_
        refine AW.ret ?_
        try simp only [Ex.then, Ex.inBlock, Ex.noGoto, Ex.jump, reduceIte, Nat.reduceEqDiff, reduceCtorEq]
        refine Done.gen rfl (.tmp .nil) ?_
        show _ = _
        kernel_rfl
      · replace H := condF c12 H
        refine AW.skip ?_
        refine AW.region ?_
        obtain ⟨g13, H⟩ := G_some H
        refine OpsW.seg 3 [4, 0] [inR (v6 + (1 : Int))] [(4, .int .i64 (v6 + (1 : Int))), (0, slA (eI .u8) t0)] (by kernel_rfl) ⟨g13, trivial⟩ ?_
        refine OpsW.nil ?_
        show ∃ y, _ ∧ StC _ _ _ _
        exact ⟨v6 + (1 : Int), H, (StC.pure (.cons .im (.cons .im .nil)))⟩
    · replace H := condF c8 H
      refine AW.exit ?_
      refine AW.regionSeq ?_
      refine OpsW.seg 1 [2] [] [(2, .bool true)] (by kernel_rfl) trivial ?_
      refine OpsW.nil ?_
      obtain rfl := Option.some.inj H
      refine AW.recast (env' := [(2, .bool true)]) (h' := []) (StC.pure (.cons .im .nil)) ?_
      refine AW.ret ?_
      try simp only [Ex.then, Ex.inBlock, Ex.noGoto, Ex.jump, reduceIte, Nat.reduceEqDiff, reduceCtorEq]
      refine Done.gen rfl (.tmp .nil) ?_
      show _ = _
      kernel_rfl
def f_L10_LinearIsClean (t0 : List Int) : Option Bool :=
  (f_L10_sanity).bind fun x1 =>
  (f_R09_Made t0).bind fun x2 =>
  (f_linear_Write x2).bind fun x3 =>
  (cond (cond x1 (x3.2 == (0 : Int)) false) (f_R10_Clean x3.1) (some false)).bind fun x4 =>
  some (cond (cond x1 (x3.2 == (0 : Int)) false) x4 false)
theorem f_L10_LinearIsClean_ok  {t0 : List Int} {r : Bool} (H : f_L10_LinearIsClean t0 = some r) : QSpec Tryd.prog 7 [slA (eI .u8) t0] (.bool r) := by
  refine Spec.of_AW Tryd.func7 rfl (by simp [Tryd.ntmps7]) ?_
  rw [Tryd.ntmps7]
  unfold f_L10_LinearIsClean at H
  change AW _ _ _ [(0, slA (eI .u8) t0)] [] _
  refine AW.regionSeq ?_
  refine OpsW.seg 1 [0] [] [(0, slA (eI .u8) t0)] (by kernel_rfl) trivial ?_
  refine OpsW.nil ?_
  refine AW.regionSeq ?_
  obtain ⟨x1, hx1, H⟩ := bindS H
  refine OpsW.qcall rfl (by kernel_rfl) rfl rfl (glAll_sound trivial) .nil (f_L10_sanity_ok hx1) rfl ?_
  refine OpsW.seg 1 [3, 0] [] [(3, .bool x1), (0, slA (eI .u8) t0)] (by kernel_rfl) trivial ?_
  refine OpsW.nil ?_
  refine AW.regionSeq ?_
  refine OpsW.seg 1 [8, 3] [] [(8, slA (eI .u8) t0), (3, .bool x1)] (by kernel_rfl) trivial ?_
  obtain ⟨x2, hx2, H⟩ := bindS H
  refine OpsW.qcall rfl (by kernel_rfl) rfl rfl (glAll_sound trivial) (.cons (.pur rfl) .nil) (f_R09_Made_ok hx2) rfl ?_
  obtain ⟨x3, hx3, H⟩ := bindS H
  refine OpsW.qcall rfl (by kernel_rfl) rfl rfl (glAll_sound trivial) (.cons (.pur rfl) .nil) (f_linear_Write_ok hx3) rfl ?_
  refine OpsW.seg 5 [5, 4, 3] [] [(5, .int .i64 x3.2), (4, slA (eI .u8) x3.1), (3, .bool x1)] (by kernel_rfl) trivial ?_
  refine OpsW.nil ?_
  refine AW.regionSeq ?_
  refine OpsW.seg 7 [19, 18] [x1 = true → x1 = true, x1 = true → x1 = true] [(19, .cnd (cond x1 (x3.2 == (0 : Int)) false) (slA (eI .u8) x3.1)), (18, .bool (cond x1 (x3.2 == (0 : Int)) false))] (by kernel_rfl) ⟨(fun h => h), (fun h => by first | exact h | (simpa using h) | grind), trivial⟩ ?_
  obtain ⟨x4, hx4, H⟩ := bindS H
  refine OpsW.gcall (c := cond x1 (x3.2 == (0 : Int)) false) (r := .bool x4) [] rfl (by kernel_rfl) rfl rfl rfl rfl (fun hc => ⟨glAll_sound ⟨hc, trivial⟩, (.cons (.pur rfl) .nil), f_R10_Clean_ok (condT hc hx4), .inl ⟨rfl, rfl⟩⟩) ?_
  refine OpsW.seg 2 [2] [(cond x1 (x3.2 == (0 : Int)) false) = true → (cond x1 (x3.2 == (0 : Int)) false) = true] [(2, .bool (cond (cond x1 (x3.2 == (0 : Int)) false) x4 false))] (by kernel_rfl) ⟨(fun h => by first | exact h | (simpa using h) | grind), trivial⟩ ?_
  refine OpsW.nil ?_
  obtain rfl := Option.some.inj H
  refine AW.recast (env' := [(2, .bool (cond (cond x1 (x3.2 == (0 : Int)) false) x4 false))]) (h' := []) (StC.pure (.cons .im .nil)) ?_
  refine AW.ret ?_
  try simp only [Ex.then, Ex.inBlock, Ex.noGoto, Ex.jump, reduceIte, Nat.reduceEqDiff, reduceCtorEq]
  refine Done.gen rfl (.tmp .nil) ?_
  show _ = _
  kernel_rfl
end Go.Proofs.YtfpcbalkioolmaaDoor
