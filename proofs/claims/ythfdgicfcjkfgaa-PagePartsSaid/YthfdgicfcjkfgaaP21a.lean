/-
  Own work. Chapter 21, plain part.
-/
import Derived.Test.YthfdgicfcjkfgaaPl
import Derived.Test.YthfdgicfcjkfgaaW3
set_option linter.unusedSimpArgs false
set_option linter.unusedVariables false
set_option linter.unusedSimpArgs false
set_option linter.unusedVariables false
namespace Go.Proofs.Ythfdgicfcjkfgaa
open Go.Abs
theorem sanity_true : f_L21_sanity = some true := by kernel_rfl

theorem same_loop (t0 t1 : List Int) (hl : t0.length = t1.length) (hb : t0.length < 1000000000) : ∀ (n i : Nat), t0.length < n + i → i ≤ t0.length →
    iter (fun loop (s : Int) => f_R21_Same_b1 t0 t1 loop s) n (i : Int) = some (decide (t0.drop i = t1.drop i))
  | 0, i, h1, h2 => by omega
  | n + 1, i, h1, h2 => by
    rw [iter_succ]
    rw [f_R21_Same_b1]
    by_cases h : i < t0.length
    · have ih := same_loop t0 t1 hl hb n (i + 1) (by omega) (by omega)
      rw [cond_pos (by simpa using h), G_pos (by omega), G_pos (by omega), G_inR (by omega)]
      rw [getD_drop t0 i 0 h, getD_drop t1 i 0 (by omega)]
      simp only [Int.toNat_natCast]
      by_cases he : t0.getD i 0 = t1.getD i 0
      · rw [cond_neg (by rw [he]; exact bne_self_eq_false _)]
        rw [show ((i : Int) + 1) = ((i + 1 : Nat) : Int) from by omega, ih]
        simp only [he, List.cons.injEq, true_and]
      · rw [cond_pos (bne_iff_ne.2 he)]
        have : ¬ (t0.getD i 0 :: t0.drop (i + 1) = t1.getD i 0 :: t1.drop (i + 1)) := fun e => he (List.cons.inj e).1
        rw [decide_eq_false this]
    · rw [cond_neg (by simpa using h)]
      have e : i = t0.length := by omega
      rw [List.drop_eq_nil_of_le (by omega), List.drop_eq_nil_of_le (by omega)]
      simp
theorem f_same (t0 t1 : List Int) (hb : t0.length < 900000) : f_R21_Same t0 t1 = some (decide (t0 = t1)) := by
  unfold f_R21_Same
  by_cases hl : t0.length = t1.length
  · rw [cond_neg (by simp [hl])]
    have := same_loop t0 t1 hl (by omega) 1000000 0 (by omega) (by omega)
    simpa using this
  · rw [cond_pos (by simp; omega)]
    have : ¬ t0 = t1 := fun e => hl (by rw [e])
    simp [this]
end Go.Proofs.Ythfdgicfcjkfgaa
