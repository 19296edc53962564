/-
  Own work. Chapter 02, plain part: sound rules, equal rules, checks.
-/
import Derived.Test.YtlhpkjgpcenfdaaDoorP02a
import Derived.Test.YtlhpkjgpcenfdaaDoorPl3
import Derived.Test.YtlhpkjgpcenfdaaDoorWK1
set_option linter.unusedSimpArgs false
set_option linter.unusedVariables false
set_option linter.unusedSimpArgs false
set_option linter.unusedVariables false
namespace Go.Proofs.YtlhpkjgpcenfdaaDoor
open Go.Abs
def spcAny (s : ByteArray) : Nat → Nat → Bool
  | _, 0 => false
  | k, n + 1 => spc (bAt s k) || spcAny s (k + 1) n
theorem hasSpace_t (s : ByteArray) (h : s.size ≤ 999999) : f_table_hasSpace s = some (spcAny s 0 s.size) := by
  have := iter_ind (b := fun loop (v : Int) => f_table_hasSpace_b1 s loop v) (fun v => 0 ≤ v ∧ v ≤ (s.size : Int)) (fun v => ((s.size : Int) - v).toNat) (fun v => some (spcAny s v.toNat (s.size - v.toNat))) (by
    intro loop v hv ih
    obtain ⟨k, rfl⟩ := nat_of hv.1
    rw [f_table_hasSpace_b1, Int.toNat_natCast]
    by_cases hk : k < s.size
    · obtain ⟨m, hm⟩ : ∃ m, s.size - k = m + 1 := ⟨s.size - k - 1, by omega⟩
      rw [cd_pos (by omega), G_pos (by omega), class_t, Option.bind_some, cls_sp, hm, spcAny, G_inR (by omega), ih _ (by omega) (by omega), natAdd1, Int.toNat_natCast, show s.size - (k + 1) = m by omega]
      cases hc : spc (bAt s (k : Int)) <;> rfl
    · rw [cd_neg (by omega), show s.size - k = 0 by omega, spcAny]) 1000000 0 (by omega) (by omega)
  exact this
def okCell (c : Int) : Bool := decide (c < 63) && c != 0
theorem cells_t (r : S_Rule) (h : r.Cells.length ≤ 999999) : iter (fun loop (v : Int) => f_table_sound_b1 r loop v) 1000000 0 = some (r.Cells.all okCell) := by
  have := iter_ind (b := fun loop (v : Int) => f_table_sound_b1 r loop v) (fun v => 0 ≤ v ∧ v ≤ (r.Cells.length : Int)) (fun v => ((r.Cells.length : Int) - v).toNat) (fun v => some ((r.Cells.drop v.toNat).all okCell)) (by
    intro loop v hv ih
    obtain ⟨k, rfl⟩ := nat_of hv.1
    rw [f_table_sound_b1, Int.toNat_natCast]
    by_cases hk : k < r.Cells.length
    · rw [cd_pos (by omega), G_pos (by omega), f_cell_Valid, Option.bind_some, or_tt, or_tt, getD_drop r.Cells k 0 hk, List.all_cons]
      have e : (!decide (r.Cells.getD k 0 < 64) || r.Cells.getD k 0 == 63 || r.Cells.getD k 0 == 0) = !okCell (r.Cells.getD k 0) := by
        unfold okCell
        generalize r.Cells.getD k 0 = c
        rw [Bool.eq_iff_iff]
        simp
        omega
      rw [e, G_inR (by omega), ih _ (by omega) (by omega), natAdd1, Int.toNat_natCast]
      cases hc : okCell (r.Cells.getD k 0) <;> rfl
    · rw [cd_neg (by omega), List.drop_eq_nil_of_le (by omega), List.all_nil]) 1000000 0 (by omega) (by omega)
  exact this
def masks (r : S_Rule) (m : Int) : Bool := decide (1 ≤ r.Left ∧ r.Left ≤ 63 ∧ 1 ≤ r.Right ∧ r.Right ≤ 63 ∧ 0 ≤ r.From ∧ r.From < m ∧ 0 ≤ r.To ∧ r.To < m)
def soundB (r : S_Rule) (m : Int) : Bool :=
  decide (r.Print.size ≤ 4 ∧ 1 ≤ r.Cells.length ∧ r.Cells.length ≤ 4) && (allc r.Print 0 r.Print.size && (masks r m &&
    (if spcAny r.Print 0 r.Print.size then decide (r.Print.size = 1) && (decide (r.Cells.length = 1) && r.Cells.getD 0 0 == 0) else r.Cells.all okCell)))
theorem sound_t (r : S_Rule) (m : Int) : f_table_sound r m = some (soundB r m) := by
  unfold f_table_sound soundB
  simp only [or_tt]
  by_cases h1 : r.Print.size ≤ 4 ∧ 1 ≤ r.Cells.length ∧ r.Cells.length ≤ 4
  · rw [cond_neg (by simp; omega), decide_eq_true h1, Bool.true_and, text_eq _ (by omega), Option.bind_some]
    have h2 := textP_all r.Print r.Print.size 0
    cases ha : allc r.Print 0 r.Print.size with
    | false =>
      rw [ha] at h2
      rw [cn_pos (by simpa using h2)]
      rfl
    | true =>
      rw [ha] at h2
      rw [cn_neg (by simpa using h2), Bool.true_and]
      unfold masks
      by_cases h3 : 1 ≤ r.Left ∧ r.Left ≤ 63 ∧ 1 ≤ r.Right ∧ r.Right ≤ 63
      · rw [cond_neg (by simp; omega)]
        by_cases h4 : 0 ≤ r.From ∧ r.From < m ∧ 0 ≤ r.To ∧ r.To < m
        · rw [cond_neg (by simp; omega), decide_eq_true (by omega), Bool.true_and, hasSpace_t _ (by omega), Option.bind_some]
          cases hsp : spcAny r.Print 0 r.Print.size with
          | false => rw [cond_false, if_neg (by simp), cells_t r (by omega)]
          | true =>
            rw [cond_true, if_pos rfl, and_tt, and_tt, G_imp (fun _ => by omega)]
            congr 1
            rw [Bool.eq_iff_iff]
            simp
            omega
        · rw [cond_pos (by simp; omega), decide_eq_false (by omega)]
          rfl
      · rw [cond_pos (by simp; omega), decide_eq_false (by omega)]
        rfl
  · rw [cond_pos (by simp; omega), decide_eq_false h1]
    rfl
theorem spc_r (r : S_Rule) (h : r.Print.size ≤ 999999) : iter (fun loop (s : Bool × Int) => f_R02_Sound_b2 r loop s.1 s.2) 1000000 (false, (0 : Int)) =
    iter (fun loop (s : Bool × Int) => f_R02_Sound_b1 r (spcAny r.Print 0 r.Print.size) loop s.1 s.2) 1000000 (false, (0 : Int)) := by
  have := iter_ind (b := fun loop (v : Bool × Int) => f_R02_Sound_b2 r loop v.1 v.2) (fun v => 0 ≤ v.2 ∧ v.2 ≤ (r.Print.size : Int)) (fun v => ((r.Print.size : Int) - v.2).toNat) (fun v => iter (fun loop (s : Bool × Int) => f_R02_Sound_b1 r (v.1 || spcAny r.Print v.2.toNat (r.Print.size - v.2.toNat)) loop s.1 s.2) 1000000 (false, (0 : Int))) (by
    intro loop v hv ih
    obtain ⟨b, v⟩ := v
    dsimp only at hv ih ⊢
    obtain ⟨k, rfl⟩ := nat_of hv.1
    rw [f_R02_Sound_b2, Int.toNat_natCast]
    by_cases hk : k < r.Print.size
    · obtain ⟨m, hm⟩ : ∃ m, r.Print.size - k = m + 1 := ⟨r.Print.size - k - 1, by omega⟩
      rw [cd_pos (by omega), G_imp (fun _ => by omega), isSp_r, hm, spcAny]
      have e : cond (!b) (some (spc (bAt r.Print (k : Int)))) (some false) = some (!b && spc (bAt r.Print (k : Int))) := by cases b <;> rfl
      rw [e, Option.bind_some, G_inR (by omega), ih _ (by dsimp only; omega) (by dsimp only; omega)]
      dsimp only
      rw [natAdd1, Int.toNat_natCast, show r.Print.size - (k + 1) = m by omega]
      have e2 : (cond b true (!b && spc (bAt r.Print (k : Int))) || spcAny r.Print (k + 1) m) = (b || (spc (bAt r.Print (k : Int)) || spcAny r.Print (k + 1) m)) := by
        cases b <;> cases spc (bAt r.Print (k : Int)) <;> rfl
      rw [e2]
    · rw [cd_neg (by omega), show r.Print.size - k = 0 by omega, spcAny, Bool.or_false]) 1000000 (false, 0) (by dsimp only; omega) (by dsimp only; omega)
  exact this
theorem cells_r (r : S_Rule) (sp : Bool) (h : r.Cells.length ≤ 999999) : iter (fun loop (s : Bool × Int) => f_R02_Sound_b1 r sp loop s.1 s.2) 1000000 (false, (0 : Int)) =
    some (r.Cells.all (fun c => decide (c < 63)) && (if sp then decide (r.Print.size = 1) && (decide (r.Cells.length = 1) && r.Cells.any (· == 0)) else !r.Cells.any (· == 0))) := by
  have := iter_ind (b := fun loop (v : Bool × Int) => f_R02_Sound_b1 r sp loop v.1 v.2) (fun v => 0 ≤ v.2 ∧ v.2 ≤ (r.Cells.length : Int)) (fun v => ((r.Cells.length : Int) - v.2).toNat) (fun v => some ((r.Cells.drop v.2.toNat).all (fun c => decide (c < 63)) && (if sp then decide (r.Print.size = 1) && (decide (r.Cells.length = 1) && (v.1 || (r.Cells.drop v.2.toNat).any (· == 0))) else !(v.1 || (r.Cells.drop v.2.toNat).any (· == 0))))) (by
    intro loop v hv ih
    obtain ⟨b, v⟩ := v
    dsimp only at hv ih ⊢
    obtain ⟨k, rfl⟩ := nat_of hv.1
    rw [f_R02_Sound_b1, Int.toNat_natCast]
    by_cases hk : k < r.Cells.length
    · rw [cd_pos (by omega), G_pos (by omega), getD_drop r.Cells k 0 hk, List.all_cons, List.any_cons]
      by_cases h63 : 63 ≤ r.Cells.getD k 0
      · rw [cd_pos h63, decide_eq_false (by omega)]
        rfl
      · rw [cd_neg h63, decide_eq_true (by omega), G_inR (by omega), ih _ (by dsimp only; omega) (by dsimp only; omega)]
        dsimp only
        rw [natAdd1, Int.toNat_natCast, or_tt, Bool.true_and, Bool.or_assoc]
    · rw [cd_neg (by omega), List.drop_eq_nil_of_le (by omega), List.all_nil, List.any_nil, Bool.or_false, Bool.true_and, and_tt, and_tt]
      cases sp with
      | false => rfl
      | true =>
        rw [Bool.not_true, cond_false, if_pos rfl]
        have e1 : ((r.Print.size : Int) == 1) = decide (r.Print.size = 1) := by rw [Bool.eq_iff_iff]; simp; omega
        have e2 : ((r.Cells.length : Int) == 1) = decide (r.Cells.length = 1) := by rw [Bool.eq_iff_iff]; simp; omega
        rw [e1, e2, Bool.and_assoc]) 1000000 (false, 0) (by dsimp only; omega) (by dsimp only; omega)
  refine this.trans ?_
  rw [Int.toNat_zero, List.drop_zero, Bool.false_or]
theorem sound_r (r : S_Rule) (m : Int) (h : r.Print.size ≤ 999999) : f_R02_Sound r m = some (soundB r m) := by
  unfold f_R02_Sound soundB
  rw [isText_r _ h, Option.bind_some]
  simp only [or_tt]
  by_cases h1 : r.Print.size ≤ 4 ∧ 1 ≤ r.Cells.length ∧ r.Cells.length ≤ 4
  · rw [decide_eq_true h1, Bool.true_and]
    cases ha : allc r.Print 0 r.Print.size with
    | false => rw [cond_pos (by simp)]; rfl
    | true =>
      rw [cond_neg (by simp; omega), Bool.true_and]
      unfold masks
      by_cases h3 : 1 ≤ r.Left ∧ r.Left ≤ 63 ∧ 1 ≤ r.Right ∧ r.Right ≤ 63 ∧ 0 ≤ r.From ∧ r.From < m ∧ 0 ≤ r.To ∧ r.To < m
      · rw [cond_neg (by simp; omega), decide_eq_true h3, Bool.true_and, spc_r r h, cells_r r _ (by omega)]
        congr 1
        cases hsp : spcAny r.Print 0 r.Print.size with
        | false =>
          rw [if_neg (by simp), if_neg (by simp)]
          generalize r.Cells = l
          induction l with
          | nil => rfl
          | cons a l ih =>
            rw [List.all_cons, List.any_cons, List.all_cons, ← ih, okCell]
            have e : (a != 0) = !(a == 0) := rfl
            rw [e]
            cases decide (a < 63) <;> cases (a == 0) <;> cases l.all (fun c => decide (c < 63)) <;> cases l.any (· == 0) <;> rfl
        | true =>
          rw [if_pos rfl, if_pos rfl]
          match hl : r.Cells, h1 with
          | [], h1 => simp
          | [a], h1 =>
            rw [Bool.eq_iff_iff]
            simp
            omega
          | a :: b :: l, h1 => simp
      · rw [cond_pos (by simp; omega), decide_eq_false h3]
        rfl
  · rw [cond_pos (by simp; omega), decide_eq_false h1]
    rfl
theorem same_cells (a b : List Int) (h : a.length ≤ 999999) : f_R02_SameCells a b = some (decide (a = b)) := by
  unfold f_R02_SameCells
  by_cases hl : a.length = b.length
  · rw [cn_neg (by omega)]
    have := iter_ind (b := fun loop (v : Int) => f_R02_SameCells_b1 a b loop v) (fun v => 0 ≤ v ∧ v ≤ (a.length : Int)) (fun v => ((a.length : Int) - v).toNat) (fun v => some (decide (a.drop v.toNat = b.drop v.toNat))) (by
      intro loop v hv ih
      obtain ⟨k, rfl⟩ := nat_of hv.1
      rw [f_R02_SameCells_b1, Int.toNat_natCast]
      by_cases hk : k < a.length
      · rw [cd_pos (by omega), G_pos (by omega), G_pos (by omega), getD_drop a k 0 hk, getD_drop b k 0 (by omega)]
        by_cases he : a.getD k 0 = b.getD k 0
        · rw [cn_neg he, G_inR (by omega), ih _ (by omega) (by omega), natAdd1, Int.toNat_natCast, he]
          simp
        · rw [cn_pos he]
          simp [he]
          exact fun h => absurd h (by simpa [List.getD_eq_getElem?_getD] using he)
      · rw [cd_neg (by omega), List.drop_eq_nil_of_le (by omega), List.drop_eq_nil_of_le (by omega)]
        rfl) 1000000 0 (by omega) (by omega)
    exact this
  · rw [cn_pos (by omega), decide_eq_false]
    intro e
    exact hl (by rw [e])
theorem slices_equal (a b : List Int) : f_slices_Equal_api_Cell a b = f_R02_SameCells a b := rfl
def sameB (a b : S_Rule) : Bool := decide (a = b)
theorem same_r (a b : S_Rule) (h : a.Cells.length ≤ 999999) : f_R02_SameRule a b = some (sameB a b) := by
  unfold f_R02_SameRule sameB
  rw [same_cells _ _ h, toList_beq]
  obtain ⟨p, c, l, r, f, t⟩ := a
  obtain ⟨p', c', l', r', f', t'⟩ := b
  simp only [and_tt]
  have e : (if (decide (p = p')) = true then some (decide (c = c')) else some false) = some (decide (p = p') && decide (c = c')) := by cases decide (p = p') <;> rfl
  rw [← Bool.cond_eq_ite] at e
  rw [e, Option.bind_some]
  congr 1
  rw [Bool.eq_iff_iff]
  simp
  constructor <;> intro h <;> simp_all
theorem same_t (a b : S_Rule) (h : a.Cells.length ≤ 999999) : f_table_equal a b = some (sameB a b) := by
  unfold f_table_equal sameB
  rw [slices_equal, same_cells _ _ h, toList_beq]
  obtain ⟨p, c, l, r, f, t⟩ := a
  obtain ⟨p', c', l', r', f', t'⟩ := b
  simp only [and_tt]
  have e : ∀ x : Bool, cond x (some (decide (c = c'))) (some false) = some (x && decide (c = c')) := by intro x; cases x <;> rfl
  rw [e, Option.bind_some]
  congr 1
  rw [Bool.eq_iff_iff]
  simp
  constructor <;> intro h <;> simp_all
end Go.Proofs.YtlhpkjgpcenfdaaDoor
