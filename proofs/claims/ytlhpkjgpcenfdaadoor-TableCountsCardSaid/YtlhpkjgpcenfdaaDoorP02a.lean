/-
  Own work. Chapter 02, plain part: texts and clean texts.
-/
import Derived.Test.YtlhpkjgpcenfdaaDoorWD1
import Derived.Test.YtlhpkjgpcenfdaaDoorPl2
set_option linter.unusedSimpArgs false
set_option linter.unusedVariables false
set_option linter.unusedSimpArgs false
set_option linter.unusedVariables false
namespace Go.Proofs.YtlhpkjgpcenfdaaDoor
open Go.Abs
theorem sanity_true : f_L02_sanity = some true := by kernel_rfl
def lo7 (x : Int) : Int := bAnd .u8 x 127
def chr (x : Int) : Bool := decide (32 ≤ lo7 x) && decide (lo7 x ≤ 126)
def spc (x : Int) : Bool := lo7 x == 32
def cls (x : Int) : Int := if 97 ≤ lo7 x ∧ lo7 x ≤ 122 then 1 else if 65 ≤ lo7 x ∧ lo7 x ≤ 90 then 2 else if 48 ≤ lo7 x ∧ lo7 x ≤ 57 then 3 else if lo7 x = 32 then 4 else 5
theorem isChr_t (x : Int) : f_table_isCharacter x = some (chr x) := by unfold f_table_isCharacter chr lo7; rw [and_tt]
theorem isChr_r (x : Int) : f_R02_Character x = some (chr x) := by unfold f_R02_Character chr lo7; rw [and_tt]
theorem isSp_r (x : Int) : f_R02_Space x = some (spc x) := rfl
theorem class_t (x : Int) : f_table_Class x = some (cls x) := by
  unfold f_table_Class cls lo7
  generalize bAnd .u8 x 127 = y
  simp only [and_tt]
  by_cases h1 : 97 ≤ y ∧ y ≤ 122
  · simp [h1]
  · by_cases h2 : 65 ≤ y ∧ y ≤ 90
    · have : ¬ (97 ≤ y) := by omega
      simp [h2, this]
    · by_cases h3 : 48 ≤ y ∧ y ≤ 57
      · have a : ¬ (97 ≤ y) := by omega
        have b : ¬ (65 ≤ y) := by omega
        simp [h3, a, b]
      · rw [if_neg h1, if_neg h2, if_neg h3]
        have a : (decide (97 ≤ y) && decide (y ≤ 122)) = false := by simp; omega
        have b : (decide (65 ≤ y) && decide (y ≤ 90)) = false := by simp; omega
        have c : (decide (48 ≤ y) && decide (y ≤ 57)) = false := by simp; omega
        rw [a, b, c]
        by_cases h4 : y = 32
        · simp [h4]
        · have d : (y == 32) = false := by simpa using h4
          simp [d, h4]
theorem cls_sp (x : Int) : (cls x == 4) = spc x := by
  unfold cls spc
  generalize lo7 x = y
  rw [Bool.eq_iff_iff, beq_iff_eq, beq_iff_eq]
  split
  · constructor <;> intro <;> omega
  · split
    · constructor <;> intro <;> omega
    · split
      · constructor <;> intro <;> omega
      · split <;> constructor <;> intro <;> omega
theorem cls_ne0 (x : Int) : (cls x == 0) = false := by
  unfold cls
  simp only [beq_eq_false_iff_ne, ne_eq]
  split
  · omega
  · split
    · omega
    · split
      · omega
      · split <;> omega
/-- The first byte that is no character. -/
def textP (s : ByteArray) : Nat → Nat → Int × Int
  | k, 0 => ((s.size : Int), 0)
  | k, n + 1 => if chr (bAt s k) then textP s (k + 1) n else ((k : Int), 60)
theorem text_t (s : ByteArray) (hb : (s.size : Int) < 9223372036854775807) : ∀ (n k fuel : Nat), s.size = k + n → n < fuel → iter (fun loop (v : Int) => f_table_Text_b1 s loop v) fuel (k : Int) = some (textP s k n) := by
  intro n
  induction n with
  | zero =>
    intro k fuel hs hf
    obtain ⟨fuel, rfl⟩ : ∃ f, fuel = f + 1 := ⟨fuel - 1, by omega⟩
    rw [iter_succ, f_table_Text_b1, cd_neg (by omega), textP]
  | succ n ih =>
    intro k fuel hs hf
    obtain ⟨fuel, rfl⟩ : ∃ f, fuel = f + 1 := ⟨fuel - 1, by omega⟩
    rw [iter_succ, f_table_Text_b1, cd_pos (by omega), G_pos (by omega), isChr_t, Option.bind_some, textP]
    cases hc : chr (bAt s (k : Int)) with
    | true =>
      rw [Bool.not_true, cond_false, G_inR (by omega), show (k : Int) + 1 = ((k + 1 : Nat) : Int) from by omega, ih (k + 1) fuel (by omega) (by omega), if_pos rfl]
    | false => rw [Bool.not_false, cond_true, if_neg (by simp)]
theorem text_r (s : ByteArray) : f_R02_Text s = f_table_Text s := rfl
theorem text_eq (s : ByteArray) (h : s.size ≤ 999999) : f_table_Text s = some (textP s 0 s.size) := text_t s (by omega) s.size 0 1000000 (by omega) (by omega)
def allc (s : ByteArray) : Nat → Nat → Bool
  | _, 0 => true
  | k, n + 1 => chr (bAt s k) && allc s (k + 1) n
theorem textP_all (s : ByteArray) : ∀ (n k : Nat), ((textP s k n).2 == 0) = allc s k n
  | 0, k => rfl
  | n + 1, k => by
    simp only [textP, allc]
    cases hc : chr (bAt s k) with
    | true => simpa using textP_all s n (k + 1)
    | false => simp
theorem allc_add (s : ByteArray) : ∀ (m n k : Nat), allc s k (m + n) = (allc s k m && allc s (k + m) n)
  | 0, n, k => by simp [allc]
  | m + 1, n, k => by
    rw [show m + 1 + n = (m + n) + 1 by omega]
    simp only [allc]
    rw [allc_add s m n (k + 1), Bool.and_assoc, show k + 1 + m = k + (m + 1) by omega]
theorem bAt_extract (s : ByteArray) (a b : Nat) (hb : b ≤ s.size) (j : Nat) (hj : j < b - a) : bAt (s.extract a b) (j : Int) = bAt s ((a + j : Nat) : Int) := by
  unfold bAt
  congr 1
  have e1 : (s.extract a b).data.toList = (s.data.toList.drop a).take (b - a) := by
    rw [ByteArray.data_extract, Array.toList_extract]
  rw [e1]
  simp only [Int.toNat_natCast, List.getD_eq_getElem?_getD, List.getElem?_take, List.getElem?_drop]
  rw [if_pos hj]
theorem allc_extract (s : ByteArray) (a b : Nat) (hb : b ≤ s.size) : ∀ (n k : Nat), k + n ≤ b - a → allc (s.extract a b) k n = allc s (a + k) n
  | 0, k, _ => rfl
  | n + 1, k, h => by
    simp only [allc]
    rw [bAt_extract s a b hb k (by omega), allc_extract s a b hb n (k + 1) (by omega)]
    rfl

/- Clean texts. -/
def clT (s : ByteArray) : Nat → Nat → Int → Bool
  | _, 0, last => last != 4
  | k, n + 1, last => if spc (bAt s k) && (last == 0 || last == 4) then false else clT s (k + 1) n (cls (bAt s k))
def clR (s : ByteArray) : Nat → Nat → Bool
  | _, 0 => true
  | k, n + 1 => if spc (bAt s k) && spc (bAt s ((k : Int) - 1)) then false else clR s (k + 1) n
theorem clean_t (s : ByteArray) (hb : (s.size : Int) < 9223372036854775807) : ∀ (n k fuel : Nat) (last : Int), s.size = k + n → n < fuel → iter (fun loop (v : Int × Int) => f_table_Clean_b1 s loop v.1 v.2) fuel (last, (k : Int)) = some (clT s k n last) := by
  intro n
  induction n with
  | zero =>
    intro k fuel last hs hf
    obtain ⟨fuel, rfl⟩ : ∃ f, fuel = f + 1 := ⟨fuel - 1, by omega⟩
    rw [iter_succ]
    dsimp only
    rw [f_table_Clean_b1, cd_neg (by omega), clT]
  | succ n ih =>
    intro k fuel last hs hf
    obtain ⟨fuel, rfl⟩ : ∃ f, fuel = f + 1 := ⟨fuel - 1, by omega⟩
    rw [iter_succ]
    dsimp only
    rw [f_table_Clean_b1, cd_pos (by omega), G_pos (by omega), class_t, Option.bind_some, cls_sp, or_tt, and_tt, clT]
    cases hc : (spc (bAt s (k : Int)) && (last == 0 || last == 4)) with
    | true => rw [cond_true, if_pos rfl]
    | false => rw [cond_false, G_inR (by omega), show (k : Int) + 1 = ((k + 1 : Nat) : Int) from by omega, ih (k + 1) fuel _ (by omega) (by omega), if_neg (by simp)]
theorem clT_clR (s : ByteArray) : ∀ (n k : Nat), clT s (k + 1) n (cls (bAt s k)) = (clR s (k + 1) n && !spc (bAt s ((k + n : Nat) : Int))) := by
  intro n
  induction n with
  | zero =>
    intro k
    rw [clT, clR, Bool.true_and, Nat.add_zero, ← cls_sp]
    rfl
  | succ n ih =>
    intro k
    rw [clT, clR, cls_ne0, cls_sp, Bool.false_or, show ((k + 1 : Nat) : Int) - 1 = (k : Int) from by omega]
    cases hc : (spc (bAt s ((k + 1 : Nat) : Int)) && spc (bAt s (k : Int))) with
    | true => rw [if_pos rfl, if_pos rfl, Bool.false_and]
    | false => rw [if_neg (by simp), if_neg (by simp), ih (k + 1), show k + 1 + n = k + (n + 1) from by omega]
/-- A text is clean. -/
def clean (s : ByteArray) : Bool := decide (1 ≤ s.size) && decide (s.size ≤ 400) && allc s 0 s.size && clT s 0 s.size 0
theorem clean_table (s : ByteArray) (h : s.size ≤ 999999) : f_table_Clean s = some (clean s) := by
  unfold f_table_Clean clean
  rw [or_tt, text_eq s h, Option.bind_some]
  by_cases h1 : 1 ≤ s.size
  · by_cases h2 : s.size ≤ 400
    · rw [cond_neg (by simp; omega), decide_eq_true h1, decide_eq_true h2]
      have h3 := textP_all s s.size 0
      cases ha : allc s 0 s.size with
      | true =>
        rw [ha] at h3
        rw [cn_neg (by simpa using h3)]
        have := clean_t s (by omega) s.size 0 1000000 0 (by omega) (by omega)
        exact this
      | false =>
        rw [ha] at h3
        rw [cn_pos (by simpa using h3)]
        rfl
    · rw [cond_pos (by simp; omega), decide_eq_false h2]
      simp
  · rw [cond_pos (by simp; omega), decide_eq_false h1]
    simp
theorem isText_r (s : ByteArray) (h : s.size ≤ 999999) : f_R02_IsText s = some (allc s 0 s.size) := by
  unfold f_R02_IsText
  rw [text_r, text_eq s h, Option.bind_some, textP_all]
end Go.Proofs.YtlhpkjgpcenfdaaDoor
