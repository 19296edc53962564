/-
  Own work. Chapter 02, plain part: Check.
-/
import Derived.Test.YtlhpkjgpcenfdaaDoorP02c
set_option linter.unusedSimpArgs false
set_option linter.unusedVariables false
set_option linter.unusedSimpArgs false
set_option linter.unusedVariables false
namespace Go.Proofs.YtlhpkjgpcenfdaaDoor
open Go.Abs
def badR (m : Int) (l : List S_Rule) (i : Nat) : Bool := !soundB (l.getD i zS_Rule) m || (l.take i).any (fun b => sameB b (l.getD i zS_Rule))
def chk (m : Int) (l : List S_Rule) : Nat → Nat → Int × Int
  | _, 0 => (0, 0)
  | k, n + 1 => if badR m l k then ((k : Int), 20) else chk m l (k + 1) n
def hdr (t : S_Table) : Prop := 1 ≤ t.Modes ∧ t.Modes ≤ 8 ∧ t.Accept ≠ 0 ∧ ¬ (bShl .i64 1 t.Modes ≤ IntKind.wrap .i64 t.Accept) ∧ 1 ≤ t.Rules.length ∧ t.Rules.length ≤ 64
instance (t : S_Table) : Decidable (hdr t) := inferInstanceAs (Decidable (_ ∧ _))
def checkB (t : S_Table) : Int × Int := if hdr t then chk t.Modes t.Rules 0 t.Rules.length else (-1, 1)
def small (l : List S_Rule) : Prop := ∀ r ∈ l, r.Print.size ≤ 999999 ∧ r.Cells.length ≤ 999999
theorem getD_mem' {α : Type} (l : List α) (k : Nat) (d : α) (h : k < l.length) : l.getD k d ∈ l := by
  rw [List.getD_eq_getElem?_getD, List.getElem?_eq_getElem h]
  exact List.getElem_mem h
theorem getD_take' {α : Type} (l : List α) (i k : Nat) (d : α) (h : k < i) : (l.take i).getD k d = l.getD k d := by
  rw [List.getD_eq_getElem?_getD, List.getD_eq_getElem?_getD, List.getElem?_take, if_pos h]
theorem check_in_t (t : S_Table) (hs : small t.Rules) (hl : t.Rules.length ≤ 64) (loop7 : S_Table × Int → Option (Int × Int)) (i : Nat) (hi : i < t.Rules.length) (r : S_Rule) :
    iter (fun loop (s : S_Table × S_Rule × Int) => f_table_Check_b1 loop7 t (i : Int) loop s.1 s.2.1 s.2.2) 1000000 (t, r, (0 : Int)) = (if (t.Rules.take i).any (fun b => sameB b r) then some ((i : Int), 20) else loop7 (t, ((i + 1 : Nat) : Int))) := by
  have hL : (t.Rules.take i).length = i := by rw [List.length_take]; omega
  have := iter_ind (b := fun loop (s : S_Table × S_Rule × Int) => f_table_Check_b1 loop7 t (i : Int) loop s.1 s.2.1 s.2.2) (fun s => s.1 = t ∧ s.2.1 = r ∧ 0 ≤ s.2.2 ∧ s.2.2 ≤ (i : Int)) (fun s => ((i : Int) - s.2.2).toNat) (fun s => if ((t.Rules.take i).drop s.2.2.toNat).any (fun b => sameB b r) then some ((i : Int), 20) else loop7 (t, ((i + 1 : Nat) : Int))) (by
    intro loop s hv ih
    obtain ⟨s1, s2, v⟩ := s
    dsimp only at hv ih ⊢
    obtain ⟨rfl, rfl, h0, h1⟩ := hv
    obtain ⟨k, rfl⟩ := nat_of h0
    rw [f_table_Check_b1, Int.toNat_natCast, Int.toNat_natCast, hL]
    by_cases hk : k < i
    · have hm := hs _ (getD_mem' s1.Rules k zS_Rule (by omega))
      rw [cd_pos (by omega), G_pos (by omega), same_t _ _ (by rw [getD_take' _ _ _ _ hk]; exact hm.2), Option.bind_some, getD_drop (s1.Rules.take i) k zS_Rule (by omega), List.any_cons, G_inR (by omega), ih _ ⟨rfl, rfl, by dsimp only; omega, by dsimp only; omega⟩ (by dsimp only; omega)]
      dsimp only
      rw [natAdd1, Int.toNat_natCast]
      cases hc : sameB ((s1.Rules.take i).getD k zS_Rule) s2 <;> rfl
    · rw [cd_neg (by omega), G_inR (by omega), List.drop_eq_nil_of_le (by omega), List.any_nil, if_neg (by simp), natAdd1]) 1000000 (t, r, 0) ⟨rfl, rfl, by dsimp only; omega, by dsimp only; omega⟩ (by dsimp only; omega)
  exact this
theorem check_t (t : S_Table) (hs : small t.Rules) (ha : 0 ≤ t.Accept ∧ t.Accept ≤ 255) : f_table_Check t = some (checkB t) := by
  unfold f_table_Check checkB
  simp only [or_tt]
  by_cases hm : 1 ≤ t.Modes ∧ t.Modes ≤ 8
  · rw [cond_neg (by simp; omega), G_imp (fun _ => by omega)]
    by_cases h2 : t.Accept ≠ 0 ∧ ¬ (bShl .i64 1 t.Modes ≤ IntKind.wrap .i64 t.Accept)
    · rw [cond_neg (by simp [h2.1]; exact Int.not_le.1 h2.2)]
      by_cases h3 : 1 ≤ t.Rules.length ∧ t.Rules.length ≤ 64
      · rw [cond_neg (by simp; omega), if_pos ⟨hm.1, hm.2, h2.1, h2.2, h3.1, h3.2⟩]
        have := iter_ind (b := fun loop (s : S_Table × Int) => f_table_Check_b2 t loop s.1 s.2) (fun s => s.1 = t ∧ 0 ≤ s.2 ∧ s.2 ≤ (t.Rules.length : Int)) (fun s => ((t.Rules.length : Int) - s.2).toNat) (fun s => some (chk t.Modes t.Rules s.2.toNat (t.Rules.length - s.2.toNat))) (by
          intro loop s hv ih
          obtain ⟨s1, v⟩ := s
          dsimp only at hv ih ⊢
          obtain ⟨rfl, h0, h1⟩ := hv
          obtain ⟨k, rfl⟩ := nat_of h0
          rw [f_table_Check_b2, Int.toNat_natCast]
          by_cases hk : k < s1.Rules.length
          · obtain ⟨n, hn⟩ : ∃ n, s1.Rules.length - k = n + 1 := ⟨s1.Rules.length - k - 1, by omega⟩
            rw [cd_pos (by omega), G_pos (by omega), sound_t, Option.bind_some, G_pos (by omega), check_in_t s1 hs h3.2 loop k hk, ih _ ⟨rfl, by dsimp only; omega, by dsimp only; omega⟩ (by dsimp only; omega), hn, chk, badR]
            dsimp only
            rw [Int.toNat_natCast, show s1.Rules.length - (k + 1) = n by omega]
            cases hc : soundB (s1.Rules.getD k zS_Rule) s1.Modes with
            | false => rfl
            | true =>
              rw [Bool.not_true, cond_false, Bool.false_or]
              split <;> rfl
          · rw [cd_neg (by omega), show s1.Rules.length - k = 0 by omega, chk]) 1000000 (t, 0) ⟨rfl, by dsimp only; omega, by dsimp only; omega⟩ (by dsimp only; omega)
        exact this
      · rw [cond_pos (by simp; omega), if_neg (by unfold hdr; omega)]
    · rw [cond_pos (by
        by_cases h : t.Accept = 0
        · simp [h]
        · simp [h]
          exact Decidable.not_not.1 fun x => h2 ⟨h, x⟩), if_neg (fun x => h2 ⟨x.2.2.1, x.2.2.2.1⟩)]
  · rw [cond_pos (by simp; omega), if_neg (by unfold hdr; omega)]
theorem check_in_r (t : S_Table) (hs : small t.Rules) (hl : t.Rules.length ≤ 64) (loop4 : Int → Option (Int × Int)) (i : Nat) (hi : i < t.Rules.length) :
    iter (fun loop (s : Int) => f_R02_Check_b1 t loop4 (i : Int) loop s) 1000000 (0 : Int) = (if (t.Rules.take i).any (fun b => sameB b (t.Rules.getD i zS_Rule)) then some ((i : Int), 20) else loop4 ((i + 1 : Nat) : Int)) := by
  have hL : (t.Rules.take i).length = i := by rw [List.length_take]; omega
  have := iter_ind (b := fun loop (s : Int) => f_R02_Check_b1 t loop4 (i : Int) loop s) (fun s => 0 ≤ s ∧ s ≤ (i : Int)) (fun s => ((i : Int) - s).toNat) (fun s => if ((t.Rules.take i).drop s.toNat).any (fun b => sameB b (t.Rules.getD i zS_Rule)) then some ((i : Int), 20) else loop4 ((i + 1 : Nat) : Int)) (by
    intro loop v hv ih
    obtain ⟨k, rfl⟩ := nat_of hv.1
    rw [f_R02_Check_b1, Int.toNat_natCast, Int.toNat_natCast]
    by_cases hk : k < i
    · have hm := hs _ (getD_mem' t.Rules k zS_Rule (by omega))
      rw [cd_pos (by omega), G_pos (by omega), same_r _ _ hm.2, Option.bind_some, getD_drop (t.Rules.take i) k zS_Rule (by omega), List.any_cons, G_inR (by omega), ih _ (by omega) (by omega), natAdd1, Int.toNat_natCast, getD_take' _ _ _ _ hk]
      cases hc : sameB (t.Rules.getD k zS_Rule) (t.Rules.getD i zS_Rule) <;> rfl
    · rw [cd_neg (by omega), G_inR (by omega), List.drop_eq_nil_of_le (by omega), List.any_nil, if_neg (by simp), natAdd1]) 1000000 0 (by omega) (by omega)
  exact this
theorem check_r (t : S_Table) (hs : small t.Rules) (ha : 0 ≤ t.Accept ∧ t.Accept ≤ 255) : f_R02_Check t = some (checkB t) := by
  unfold f_R02_Check checkB
  simp only [or_tt]
  by_cases hm : 1 ≤ t.Modes ∧ t.Modes ≤ 8
  · rw [G_imp (fun _ => by omega)]
    by_cases h2 : t.Accept ≠ 0 ∧ ¬ (bShl .i64 1 t.Modes ≤ IntKind.wrap .i64 t.Accept)
    · by_cases h3 : 1 ≤ t.Rules.length ∧ t.Rules.length ≤ 64
      · have h5 := Int.not_le.1 h2.2
        rw [cond_neg (by simp [h2.1]; omega), if_pos ⟨hm.1, hm.2, h2.1, h2.2, h3.1, h3.2⟩]
        have := iter_ind (b := fun loop (s : Int) => f_R02_Check_b2 t loop s) (fun s => 0 ≤ s ∧ s ≤ (t.Rules.length : Int)) (fun s => ((t.Rules.length : Int) - s).toNat) (fun s => some (chk t.Modes t.Rules s.toNat (t.Rules.length - s.toNat))) (by
          intro loop v hv ih
          obtain ⟨k, rfl⟩ := nat_of hv.1
          rw [f_R02_Check_b2, Int.toNat_natCast]
          by_cases hk : k < t.Rules.length
          · obtain ⟨n, hn⟩ : ∃ n, t.Rules.length - k = n + 1 := ⟨t.Rules.length - k - 1, by omega⟩
            have hm := hs _ (getD_mem' t.Rules k zS_Rule (by omega))
            rw [cd_pos (by omega), G_pos (by omega), sound_r _ _ hm.1, Option.bind_some, check_in_r t hs h3.2 loop k hk, ih _ (by omega) (by omega), hn, chk, badR, Int.toNat_natCast, show t.Rules.length - (k + 1) = n by omega]
            cases hc : soundB (t.Rules.getD k zS_Rule) t.Modes with
            | false => rfl
            | true =>
              rw [Bool.not_true, cond_false, Bool.false_or]
              split <;> rfl
          · rw [cd_neg (by omega), show t.Rules.length - k = 0 by omega, chk]) 1000000 0 (by omega) (by omega)
        exact this
      · rw [cond_pos (by simp; omega), if_neg (by unfold hdr; omega)]
    · rw [cond_pos (by
        by_cases h : t.Accept = 0
        · simp [h]
        · have h6 := Decidable.not_not.1 fun x => h2 ⟨h, x⟩
          simp [h]
          omega), if_neg (fun x => h2 ⟨x.2.2.1, x.2.2.2.1⟩)]
  · rw [G_imp (fun h => absurd h (by simp; omega)), cond_pos (by simp; omega), if_neg (by unfold hdr; omega)]
theorem valid_t (t : S_Table) (hs : small t.Rules) (ha : 0 ≤ t.Accept ∧ t.Accept ≤ 255) : f_table_Valid t = some ((checkB t).2 == 0) := by
  rw [f_table_Valid, check_t t hs ha, Option.bind_some]
theorem valid_r (t : S_Table) (hs : small t.Rules) (ha : 0 ≤ t.Accept ∧ t.Accept ≤ 255) : f_R02_Valid t = some ((checkB t).2 == 0) := by
  rw [f_R02_Valid, check_r t hs ha, Option.bind_some]
end Go.Proofs.YtlhpkjgpcenfdaaDoor
