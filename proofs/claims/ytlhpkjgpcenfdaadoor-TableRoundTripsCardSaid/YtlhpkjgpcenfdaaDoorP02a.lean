/-
  Own work. Chapter 02, plain part: texts and clean texts.
-/
import Derived.Test.YtlhpkjgpcenfdaaDoorWD1
import Derived.Test.YtlhpkjgpcenfdaaDoorPl2
set_option linter.unusedSimpArgs false
set_option linter.unusedVariables false
set_option linter.unusedSimpArgs false
set_option linter.unusedVariables false
namespace Go.Proofs.YtlhpkjgpcenfdaaDoor
open Go.Abs
theorem sanity_true : f_L02_sanity = some true := by kernel_rfl
def lo7 (x : Int) : Int := bAnd .u8 x 127
def chr (x : Int) : Bool := decide (32 ≤ lo7 x) && decide (lo7 x ≤ 126)
def spc (x : Int) : Bool := lo7 x == 32
def cls (x : Int) : Int := if 97 ≤ lo7 x ∧ lo7 x ≤ 122 then 1 else if 65 ≤ lo7 x ∧ lo7 x ≤ 90 then 2 else if 48 ≤ lo7 x ∧ lo7 x ≤ 57 then 3 else if lo7 x = 32 then 4 else 5
theorem isChr_t (x : Int) : f_table_isCharacter x = some (chr x) := by unfold f_table_isCharacter chr lo7; rw [and_tt]
theorem isSp_r (x : Int) : f_R02_Space x = some (spc x) := rfl
theorem class_t (x : Int) : f_table_Class x = some (cls x) := by
  unfold f_table_Class cls lo7
  generalize bAnd .u8 x 127 = y
  simp only [and_tt]
  by_cases h1 : 97 ≤ y ∧ y ≤ 122
  · simp [h1]
  · by_cases h2 : 65 ≤ y ∧ y ≤ 90
    · have : ¬ (97 ≤ y) := by omega
      simp [h2, this]
    · by_cases h3 : 48 ≤ y ∧ y ≤ 57
      · have a : ¬ (97 ≤ y) := by omega
        have b : ¬ (65 ≤ y) := by omega
        simp [h3, a, b]
      · rw [if_neg h1, if_neg h2, if_neg h3]
        have a : (decide (97 ≤ y) && decide (y ≤ 122)) = false := by simp; omega
        have b : (decide (65 ≤ y) && decide (y ≤ 90)) = false := by simp; omega
        have c : (decide (48 ≤ y) && decide (y ≤ 57)) = false := by simp; omega
        rw [a, b, c]
        by_cases h4 : y = 32
        · simp [h4]
        · have d : (y == 32) = false := by simpa using h4
          simp [d, h4]
theorem cls_sp (x : Int) : (cls x == 4) = spc x := by
  unfold cls spc
  generalize lo7 x = y
  rw [Bool.eq_iff_iff, beq_iff_eq, beq_iff_eq]
  split
  · constructor <;> intro <;> omega
  · split
    · constructor <;> intro <;> omega
    · split
      · constructor <;> intro <;> omega
      · split <;> constructor <;> intro <;> omega
def textP (s : ByteArray) : Nat → Nat → Int × Int
  | k, 0 => ((s.size : Int), 0)
  | k, n + 1 => if chr (bAt s k) then textP s (k + 1) n else ((k : Int), 60)
theorem text_t (s : ByteArray) (hb : (s.size : Int) < 9223372036854775807) : ∀ (n k fuel : Nat), s.size = k + n → n < fuel → iter (fun loop (v : Int) => f_table_Text_b1 s loop v) fuel (k : Int) = some (textP s k n) := by
  intro n
  induction n with
  | zero =>
    intro k fuel hs hf
    obtain ⟨fuel, rfl⟩ : ∃ f, fuel = f + 1 := ⟨fuel - 1, by omega⟩
    rw [iter_succ, f_table_Text_b1, cd_neg (by omega), textP]
  | succ n ih =>
    intro k fuel hs hf
    obtain ⟨fuel, rfl⟩ : ∃ f, fuel = f + 1 := ⟨fuel - 1, by omega⟩
    rw [iter_succ, f_table_Text_b1, cd_pos (by omega), G_pos (by omega), isChr_t, Option.bind_some, textP]
    cases hc : chr (bAt s (k : Int)) with
    | true =>
      rw [Bool.not_true, cond_false, G_inR (by omega), show (k : Int) + 1 = ((k + 1 : Nat) : Int) from by omega, ih (k + 1) fuel (by omega) (by omega), if_pos rfl]
    | false => rw [Bool.not_false, cond_true, if_neg (by simp)]
theorem text_r (s : ByteArray) : f_R02_Text s = f_table_Text s := rfl
theorem text_eq (s : ByteArray) (h : s.size ≤ 999999) : f_table_Text s = some (textP s 0 s.size) := text_t s (by omega) s.size 0 1000000 (by omega) (by omega)
def allc (s : ByteArray) : Nat → Nat → Bool
  | _, 0 => true
  | k, n + 1 => chr (bAt s k) && allc s (k + 1) n
theorem textP_all (s : ByteArray) : ∀ (n k : Nat), ((textP s k n).2 == 0) = allc s k n
  | 0, k => rfl
  | n + 1, k => by
    simp only [textP, allc]
    cases hc : chr (bAt s k) with
    | true => simpa using textP_all s n (k + 1)
    | false => simp
/- Clean texts. -/
def clT (s : ByteArray) : Nat → Nat → Int → Bool
  | _, 0, last => last != 4
  | k, n + 1, last => if spc (bAt s k) && (last == 0 || last == 4) then false else clT s (k + 1) n (cls (bAt s k))
def clean (s : ByteArray) : Bool := decide (1 ≤ s.size) && decide (s.size ≤ 400) && allc s 0 s.size && clT s 0 s.size 0
theorem isText_r (s : ByteArray) (h : s.size ≤ 999999) : f_R02_IsText s = some (allc s 0 s.size) := by
  unfold f_R02_IsText
  rw [text_r, text_eq s h, Option.bind_some, textP_all]
end Go.Proofs.YtlhpkjgpcenfdaaDoor
