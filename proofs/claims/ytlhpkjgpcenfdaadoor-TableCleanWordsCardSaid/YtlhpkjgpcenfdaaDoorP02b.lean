/-
  Own work. Chapter 02, plain part: TableTexts, TableCleanWords.
-/
import Derived.Test.YtlhpkjgpcenfdaaDoorP02a
import Derived.Test.YtlhpkjgpcenfdaaDoorWT1
import Derived.Test.YtlhpkjgpcenfdaaDoorGen7
set_option linter.unusedSimpArgs false
set_option linter.unusedVariables false
set_option linter.unusedSimpArgs false
set_option linter.unusedVariables false
namespace Go.Proofs.YtlhpkjgpcenfdaaDoor
open Go.Abs
theorem class_r (x : Int) : f_R02_Class x = some (cls x) := (rfl : f_R02_Class x = f_table_Class x).trans (class_t x)
theorem clean_r (s : ByteArray) (hb : (s.size : Int) < 9223372036854775807) : ∀ (n k fuel : Nat), s.size = k + n → 0 < k → n < fuel → iter (fun loop (v : Int) => f_R02_Clean_b1 s loop v) fuel (k : Int) = some (clR s k n) := by
  intro n
  induction n with
  | zero =>
    intro k fuel hs hk hf
    obtain ⟨fuel, rfl⟩ : ∃ f, fuel = f + 1 := ⟨fuel - 1, by omega⟩
    rw [iter_succ, f_R02_Clean_b1, cd_neg (by omega), clR]
  | succ n ih =>
    intro k fuel hs hk hf
    obtain ⟨fuel, rfl⟩ : ∃ f, fuel = f + 1 := ⟨fuel - 1, by omega⟩
    rw [iter_succ, f_R02_Clean_b1, cd_pos (by omega), G_pos (by omega), isSp_r, Option.bind_some, G_imp (fun _ => inR_of (by omega)), G_imp (fun _ => by omega), isSp_r, clR]
    have hx : (cond (spc (bAt s (k : Int))) (some (spc (bAt s ((k : Int) - 1)))) (some false)) = some (spc (bAt s (k : Int)) && spc (bAt s ((k : Int) - 1))) := by cases spc (bAt s (k : Int)) <;> rfl
    rw [hx, Option.bind_some]
    have hy : cond (spc (bAt s (k : Int))) (spc (bAt s (k : Int)) && spc (bAt s ((k : Int) - 1))) false = (spc (bAt s (k : Int)) && spc (bAt s ((k : Int) - 1))) := by cases spc (bAt s (k : Int)) <;> rfl
    rw [hy]
    cases hc : (spc (bAt s (k : Int)) && spc (bAt s ((k : Int) - 1))) with
    | true => rw [cond_true, if_pos rfl]
    | false => rw [cond_false, G_inR (by omega), show (k : Int) + 1 = ((k + 1 : Nat) : Int) from by omega, ih (k + 1) fuel (by omega) (by omega) (by omega), if_neg (by simp)]
theorem clean_ref (s : ByteArray) (h : s.size ≤ 999999) : f_R02_Clean s = some (clean s) := by
  unfold f_R02_Clean clean
  rw [isText_r s h, Option.bind_some]
  simp only [or_tt]
  rw [isSp_r, isSp_r]
  by_cases h1 : 1 ≤ s.size
  · by_cases h2 : s.size ≤ 400
    · rw [decide_eq_true h1, decide_eq_true h2, show ((s.size : Int) == 0) = false from beq_eq_false_iff_ne.2 (by omega), show decide ((400 : Int) < (s.size : Int)) = false from decide_eq_false (by omega)]
      rw [G_imp (fun _ => by omega)]
      cases ha : allc s 0 s.size with
      | false =>
        simp only [Bool.not_false, Bool.or_true, Bool.true_or, Bool.not_true, cond_false, Option.bind_some]
        rw [cI_neg, cI_neg]
        simp
      | true =>
        simp only [Bool.not_true, Bool.false_or, Bool.or_false, Bool.not_false, cond_true, Option.bind_some, Bool.true_and, Bool.and_true]
        obtain ⟨m, hm⟩ : ∃ m, s.size = m + 1 := ⟨s.size - 1, by omega⟩
        have hT : clT s 0 s.size 0 = (!spc (bAt s (0 : Int)) && (clR s 1 m && !spc (bAt s ((s.size : Int) - 1)))) := by
          rw [hm, clT, clT_clR s m 0]
          have e : (((m + 1 : Nat) : Int) - 1) = ((0 + m : Nat) : Int) := by omega
          rw [e]
          cases spc (bAt s ((0 : Nat) : Int)) <;> rfl
        rw [hT]
        cases h0 : spc (bAt s (0 : Int)) with
        | true =>
          rw [G_imp (fun _ => inR_of (by omega)), G_imp (fun _ => by omega)]
          rfl
        | false =>
          rw [G_imp (fun _ => inR_of (by omega)), G_imp (fun _ => by omega)]
          simp only [Bool.not_false, cond_true, Option.bind_some, Bool.false_or, Bool.true_and]
          cases h9 : spc (bAt s ((s.size : Int) - 1)) with
          | true => simp
          | false =>
            have := clean_r s (by omega) m 1 1000000 (by omega) (by omega) (by omega)
            rw [cond_false, Bool.not_false, Bool.and_true]
            exact this
    · rw [decide_eq_false h2, show decide ((400 : Int) < (s.size : Int)) = true from decide_eq_true (by omega)]
      simp only [Bool.or_true, Bool.not_true, cond_false, Option.bind_some, Bool.true_or]
      rw [cI_neg, cI_neg, cI_neg]
      simp
  · rw [decide_eq_false h1, show ((s.size : Int) == 0) = true from beq_iff_eq.2 (by omega)]
    simp only [Bool.or_true, Bool.not_true, cond_false, Option.bind_some, Bool.true_or]
    rw [cI_neg, cI_neg, cI_neg]
    simp
theorem size_extract (s : ByteArray) (a b : Nat) (hb : b ≤ s.size) : (s.extract a b).size = b - a := by
  rw [ByteArray.size_extract, Nat.min_eq_left hb]
theorem tableTexts_plain (s : ByteArray) (b n : Int) (hn : 0 ≤ n ∧ n ≤ 65535) : f_L02_TableTexts s b n = some true := by
  unfold f_L02_TableTexts
  rw [sanity_true, Option.bind_some]
  by_cases h : (500 : Int) < (s.size : Int)
  · rw [cd_pos h]
  rw [cd_neg h]
  have hs : s.size ≤ 500 := by omega
  rw [text_r, text_eq s (by omega), Option.bind_some, Option.bind_some, class_t, Option.bind_some, class_r, Option.bind_some, clean_table s (by omega), clean_ref s (by omega)]
  rw [bne_self_eq_false (cls b), bne_self_eq_false (textP s 0 s.size).1, bne_self_eq_false (textP s 0 s.size).2, cond_false, cond_false, Bool.not_false, cond_true, Option.bind_some, Option.bind_some, cond_false, bne_self_eq_false (clean s), cond_false]
  rw [wrap_i64 (by omega), Int.tmod_eq_emod_of_nonneg hn.1]
  have he := Int.emod_nonneg n (show ((s.size : Int) + 1) ≠ 0 by omega)
  have hl := Int.emod_lt_of_pos n (show (0 : Int) < (s.size : Int) + 1 by omega)
  rw [G_inR (by omega), G_pos (by omega), G_pos (by omega)]
  obtain ⟨i, hi⟩ : ∃ i : Nat, n % ((s.size : Int) + 1) = (i : Int) := ⟨(n % ((s.size : Int) + 1)).toNat, by omega⟩
  rw [hi] at hl ⊢
  rw [Int.toNat_natCast]
  have s1 := size_extract s 0 i (by omega)
  have s2 := size_extract s i s.size (Nat.le_refl _)
  rw [text_eq _ (by omega), text_eq _ (by omega), Option.bind_some, Option.bind_some, textP_all, textP_all, textP_all, s1, s2, allc_extract s 0 i (by omega) _ 0 (by omega), allc_extract s i s.size (Nat.le_refl _) _ 0 (by omega), and_tt]
  have := allc_add s i (s.size - i) 0
  rw [show i + (s.size - i) = s.size by omega] at this
  simp only [Nat.zero_add, Nat.add_zero, Nat.sub_zero] at this ⊢
  rw [this]
  cases allc s 0 i <;> cases allc s i (s.size - i) <;> rfl

/- Words. -/
def clW (s : ByteArray) : Nat → Nat → Bool → Bool
  | _, 0, e => !e
  | k, n + 1, e => if spc (bAt s k) && e then false else clW s (k + 1) n (spc (bAt s k))
theorem clT_clW (s : ByteArray) : ∀ (n k : Nat) (x : Int), clT s k n (cls x) = clW s k n (spc x) := by
  intro n
  induction n with
  | zero => intro k x; rw [clT, clW, ← cls_sp]; rfl
  | succ n ih =>
    intro k x
    rw [clT, clW, cls_ne0, cls_sp, Bool.false_or, ih]
theorem clT_first (s : ByteArray) (n : Nat) : clT s 0 (n + 1) 0 = clW s 0 (n + 1) true := by
  rw [clT, clW, clT_clW]
  rfl
theorem clean_words (s : ByteArray) : clean s = (decide (s.size ≤ 400) && (allc s 0 s.size && clW s 0 s.size true)) := by
  unfold clean
  cases h : s.size with
  | zero => simp [clW]
  | succ n => rw [clT_first, decide_eq_true (by omega : 1 ≤ n + 1), Bool.true_and, Bool.and_assoc]
theorem words_loop (s : ByteArray) (x1 : Bool) (hb : (s.size : Int) < 9223372036854775807) : ∀ (n k fuel : Nat) (word : Int) (want : Bool), s.size = k + n → n < fuel → 0 ≤ word → word ≤ k →
    iter (fun loop (v : Int × Bool × Int) => f_L02_TableCleanWords_b1 s x1 loop v.1 v.2.1 v.2.2) fuel (word, want, (k : Int)) = (f_table_Clean s).bind fun x => some (cond (x == (want && (allc s k n && clW s k n (!decide (0 < word))))) x1 false) := by
  intro n
  induction n with
  | zero =>
    intro k fuel word want hs hf h0 hk
    obtain ⟨fuel, rfl⟩ : ∃ f, fuel = f + 1 := ⟨fuel - 1, by omega⟩
    rw [iter_succ]
    dsimp only
    rw [f_L02_TableCleanWords_b1, cd_neg (by omega), and_tt, allc, clW, Bool.true_and, Bool.not_not]
  | succ n ih =>
    intro k fuel word want hs hf h0 hk
    obtain ⟨fuel, rfl⟩ : ∃ f, fuel = f + 1 := ⟨fuel - 1, by omega⟩
    have k2 : ∀ v : Bool, f_L02_TableCleanWords_k2 s (iter (fun loop (v : Int × Bool × Int) => f_L02_TableCleanWords_b1 s x1 loop v.1 v.2.1 v.2.2) fuel) word (k : Int) v = (f_table_Clean s).bind fun x => some (cond (x == (v && (allc s (k + 1) n && clW s k (n + 1) (!decide (0 < word))))) x1 false) := by
      intro v
      rw [f_L02_TableCleanWords_k2, G_pos (by omega), isSp_r, Option.bind_some, clW]
      cases hsp : spc (bAt s (k : Int)) with
      | false =>
        rw [Bool.not_false, cond_true, G_inR (by omega), f_L02_TableCleanWords_k1, G_inR (by omega), show (k : Int) + 1 = ((k + 1 : Nat) : Int) from by omega, ih (k + 1) fuel _ v (by omega) (by omega) (by omega) (by omega), decide_eq_true (by omega : 0 < word + 1), Bool.not_true, Bool.false_and, if_neg (by simp)]
      | true =>
        rw [Bool.not_true, cond_false, f_L02_TableCleanWords_k1, G_inR (by omega), show (k : Int) + 1 = ((k + 1 : Nat) : Int) from by omega, ih (k + 1) fuel _ _ (by omega) (by omega) (by omega) (by omega), and_tt, Bool.true_and]
        by_cases hw : 0 < word
        · rw [decide_eq_true hw, Bool.and_true, Bool.not_true, if_neg (by simp), decide_eq_false (by omega : ¬ (0 : Int) < 0), Bool.not_false]
        · rw [decide_eq_false hw, Bool.and_false, Bool.not_false, if_pos rfl, Bool.and_false, Bool.and_false, Bool.false_and]
    rw [iter_succ]
    dsimp only
    rw [f_L02_TableCleanWords_b1, cd_pos (by omega), G_pos (by omega), isChr_r, Option.bind_some, allc]
    cases hc : chr (bAt s (k : Int)) with
    | false => rw [Bool.not_false, cond_true, k2, Bool.false_and, Bool.false_and, Bool.false_and, Bool.and_false]
    | true => rw [Bool.not_true, cond_false, k2, Bool.true_and]
theorem tableCleanWords_plain (s : ByteArray) : f_L02_TableCleanWords s = some true := by
  unfold f_L02_TableCleanWords
  rw [sanity_true, Option.bind_some]
  by_cases h : (500 : Int) < (s.size : Int)
  · rw [cd_pos h]
  rw [cd_neg h]
  have hs : s.size ≤ 500 := by omega
  have := words_loop s true (by omega) s.size 0 1000000 0 (decide ((s.size : Int) ≤ 400)) (by omega) (by omega) (by omega) (by omega)
  refine this.trans ?_
  rw [clean_table s (by omega), Option.bind_some, clean_words]
  have e1 : decide ((s.size : Int) ≤ 400) = decide (s.size ≤ 400) := by rw [decide_eq_decide]; omega
  rw [e1, decide_eq_false (by omega : ¬ (0 : Int) < 0), Bool.not_false, beq_self_eq_true, cond_true]

theorem plain_TableTexts {t0 : ByteArray} {t1 t2 : Int} (h0 : okStr t0) (h1 : okInt .u8 t1) (h2 : okInt .u16 t2) : f_L02_TableTexts t0 t1 t2 = some true := by
  simp only [okInt] at h2
  exact tableTexts_plain t0 t1 t2 (by omega)
theorem plain_TableCleanWords {t0 : ByteArray} (h0 : okStr t0) : f_L02_TableCleanWords t0 = some true := tableCleanWords_plain t0
end Go.Proofs.YtlhpkjgpcenfdaaDoor
