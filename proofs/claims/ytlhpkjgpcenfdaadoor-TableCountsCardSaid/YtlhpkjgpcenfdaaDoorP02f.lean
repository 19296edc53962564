/-
  Own work. Chapter 02, plain part: valid tables; TableCounts.
-/
import Derived.Test.YtlhpkjgpcenfdaaDoorP02d
import Derived.Test.YtlhpkjgpcenfdaaDoorWN1
import Derived.Test.YtlhpkjgpcenfdaaDoorLibC
import Derived.Test.YtlhpkjgpcenfdaaDoorSh
set_option linter.unusedSimpArgs false
set_option linter.unusedVariables false
set_option linter.unusedSimpArgs false
set_option linter.unusedVariables false
namespace Go.Proofs.YtlhpkjgpcenfdaaDoor
open Go.Abs
theorem chk_ok (m : Int) (l : List S_Rule) : ∀ (n k : Nat), (∀ i, k ≤ i → i < k + n → badR m l i = false) → chk m l k n = (0, 0)
  | 0, k, _ => rfl
  | n + 1, k, h => by
    rw [chk, if_neg (by rw [h k (by omega) (by omega)]; simp)]
    exact chk_ok m l n (k + 1) fun i h1 h2 => h i (by omega) (by omega)
theorem chk_bad (m : Int) (l : List S_Rule) (j : Nat) (hj : badR m l j = true) : ∀ (n k : Nat), k ≤ j → j < k + n → (∀ i, k ≤ i → i < j → badR m l i = false) → chk m l k n = ((j : Int), 20)
  | 0, k, h1, h2, _ => by omega
  | n + 1, k, h1, h2, h => by
    rw [chk]
    by_cases e : k = j
    · rw [e, if_pos hj]
    · rw [if_neg (by rw [h k (by omega) (by omega)]; simp)]
      exact chk_bad m l j hj n (k + 1) (by omega) (by omega) fun i h1 h2 => h i (by omega) (by omega)
/-- The part of soundness that asks for no number of modes. -/
def soundA (r : S_Rule) : Bool :=
  decide (r.Print.size ≤ 4 ∧ 1 ≤ r.Cells.length ∧ r.Cells.length ≤ 4) && (allc r.Print 0 r.Print.size &&
    (if spcAny r.Print 0 r.Print.size then decide (r.Print.size = 1) && (decide (r.Cells.length = 1) && r.Cells.getD 0 0 == 0) else r.Cells.all okCell))
theorem soundB_split (r : S_Rule) (m : Int) : soundB r m = (soundA r && masks r m) := by
  unfold soundB soundA
  generalize (if spcAny r.Print 0 r.Print.size then decide (r.Print.size = 1) && (decide (r.Cells.length = 1) && r.Cells.getD 0 0 == 0) else r.Cells.all okCell) = x
  cases decide (r.Print.size ≤ 4 ∧ 1 ≤ r.Cells.length ∧ r.Cells.length ≤ 4) <;> cases allc r.Print 0 r.Print.size <;> cases masks r m <;> cases x <;> rfl
def ruleN (i : Nat) : S_Rule := ⟨strOf [IntKind.wrap .u8 (33 + (i : Int))], [IntKind.wrap .u8 (1 + Int.tmod (i : Int) 62)], 63, 63, 0, 0⟩
def rulesN (n : Nat) : List S_Rule := (List.range n).map ruleN
theorem rulesN_len (n : Nat) : (rulesN n).length = n := by simp [rulesN]
theorem rulesN_succ (n : Nat) : rulesN (n + 1) = rulesN n ++ [ruleN n] := by simp [rulesN, List.range_succ]
theorem rulesN_get (n i : Nat) (h : i < n) : (rulesN n).getD i zS_Rule = ruleN i := by
  rw [List.getD_eq_getElem?_getD, rulesN, List.getElem?_map, List.getElem?_range h]
  rfl
theorem ruleN_sound : (List.range 67).all (fun i => soundA (ruleN i)) = true := by kernel_rfl
theorem ruleN_byte : (List.range 67).all (fun i => decide (bAt (ruleN i).Print 0 = 33 + (i : Int))) = true := by kernel_rfl
theorem ruleN_inj (i j : Nat) (hi : i < 67) (hj : j < 67) (h : ruleN i = ruleN j) : i = j := by
  have h1 := List.all_eq_true.1 ruleN_byte i (List.mem_range.2 hi)
  have h2 := List.all_eq_true.1 ruleN_byte j (List.mem_range.2 hj)
  rw [decide_eq_true_eq] at h1 h2
  rw [h] at h1
  omega
theorem masksN (i : Nat) (m : Int) (h : 1 ≤ m) : masks (ruleN i) m = true := by
  unfold masks ruleN
  rw [decide_eq_true_eq]
  dsimp only
  omega
theorem rulesN_good (n : Nat) (m : Int) (hn : n ≤ 66) (hm : 1 ≤ m) (i : Nat) (hi : i < n) : badR m (rulesN n) i = false := by
  unfold badR
  rw [rulesN_get n i hi, soundB_split, masksN i m hm, List.all_eq_true.1 ruleN_sound i (List.mem_range.2 (by omega))]
  rw [Bool.true_and, Bool.not_true, Bool.false_or]
  rw [List.any_eq_false]
  intro r hr
  rw [rulesN, ← List.map_take, List.take_range, Nat.min_eq_left (by omega), List.mem_map] at hr
  obtain ⟨j, hj, rfl⟩ := hr
  have hj := List.mem_range.1 hj
  unfold sameB
  rw [decide_eq_true_eq]
  intro e
  have := ruleN_inj j i (by omega) (by omega) e
  omega
theorem shl_modes (m a : Int) (h : 1 ≤ m ∧ m ≤ 8) : 0 ≤ bShl .i64 1 m := by
  obtain ⟨k, rfl⟩ := nat_of (by omega : (0 : Int) ≤ m)
  have : k < 9 := by omega
  match k, this with
  | 0, _ => exact by decide
  | 1, _ => exact by decide
  | 2, _ => exact by decide
  | 3, _ => exact by decide
  | 4, _ => exact by decide
  | 5, _ => exact by decide
  | 6, _ => exact by decide
  | 7, _ => exact by decide
  | 8, _ => exact by decide
theorem plain_TableCounts {t0 t1 t2 : Int} (h0 : okInt .u8 t0) (h1 : okInt .i8 t1) (h2 : okInt .u8 t2) : f_L02_TableCounts t0 t1 t2 = some true := by
  have b0 : 0 ≤ t0 ∧ t0 ≤ 255 := h0
  have b1 : -128 ≤ t1 ∧ t1 ≤ 127 := h1
  have b2 : 0 ≤ t2 ∧ t2 ≤ 255 := h2
  unfold f_L02_TableCounts
  rw [sanity_true, Option.bind_some, wrap_i64 (n := t1) (by omega)]
  have hN : 0 ≤ Int.tmod t0 67 ∧ Int.tmod t0 67 < 67 := by rw [Int.tmod_eq_emod_of_nonneg b0.1]; omega
  have := iter_ind (b := fun loop (s : S_Table × Int) => f_L02_TableCounts_b1 t0 t1 t2 true loop s.1 s.2) (fun s => 0 ≤ s.2 ∧ s.2 ≤ Int.tmod t0 67 ∧ s.1 = ⟨t1, t2, rulesN s.2.toNat⟩) (fun s => (Int.tmod t0 67 - s.2).toNat) (fun s => some true) (by
    intro loop s hv ih
    obtain ⟨s1, v⟩ := s
    dsimp only at hv ih ⊢
    obtain ⟨hv0, hv1, rfl⟩ := hv
    obtain ⟨k, rfl⟩ := nat_of hv0
    rw [f_L02_TableCounts_b1, Int.toNat_natCast, wrap_i64 (n := Int.tmod t0 67) (by omega)]
    dsimp only
    have hkm : 0 ≤ Int.tmod (k : Int) 62 ∧ Int.tmod (k : Int) 62 < 62 := by rw [Int.tmod_eq_emod_of_nonneg (by omega)]; omega
    by_cases hk : (k : Int) < Int.tmod t0 67
    · rw [cd_pos hk, G_inR (by omega), G_inR (by omega), G_room (by rw [rulesN_len]; omega), G_inR (by omega), ih _ ⟨by dsimp only; omega, by dsimp only; omega, ?_⟩ (by dsimp only; omega)]
      dsimp only
      rw [natAdd1, Int.toNat_natCast, rulesN_succ]
      rfl
    · rw [cd_neg hk, wrap_i64 (n := t1) (by omega), wrap_i64 (n := t2) (by omega)]
      have hsm : small (rulesN k) := by
        intro r hr
        obtain ⟨i, hi, rfl⟩ := List.mem_map.1 hr
        have hi := List.mem_range.1 hi
        have := List.all_eq_true.1 ruleN_sound i (List.mem_range.2 (by omega))
        unfold soundA at this
        simp only [Bool.and_eq_true, decide_eq_true_eq] at this
        omega
      rw [G_imp (fun _ => by split <;> split <;> omega), check_t _ hsm b2, Option.bind_some, rulesN_len]
      simp only [and_tt]
      unfold checkB
      by_cases hm : 1 ≤ t1 ∧ t1 ≤ 8
      · have e1 : (if (8 : Int) < (if (0 : Int) > t1 then (0 : Int) else t1) then (8 : Int) else (if (0 : Int) > t1 then (0 : Int) else t1)) = t1 := by
          rw [if_neg (by omega), if_neg (by omega)]
        rw [e1]
        have hsh := shl_modes t1 t2 hm
        by_cases hh : hdr ⟨t1, t2, rulesN k⟩
        · rw [if_pos hh]
          obtain ⟨g1, g2, g3, g4, g5, g6⟩ := hh
          dsimp only at g1 g2 g3 g4 g5 g6 ⊢
          rw [rulesN_len] at g5 g6 ⊢
          rw [wrap_i64 (n := t2) (by omega)] at g4
          rw [chk_ok t1 (rulesN k) k 0 (fun i h1 h2 => rulesN_good k t1 (by omega) (by omega) i (by omega))]
          rw [cond_pos (by simp; omega)]
          rfl
        · rw [if_neg hh, cond_neg]
          · rfl
          · unfold hdr at hh
            dsimp only at hh
            rw [rulesN_len, wrap_i64 (n := t2) (by omega)] at hh
            rw [Bool.eq_false_iff]
            intro hc
            simp at hc
            apply hh
            omega
      · have hh : ¬ hdr ⟨t1, t2, rulesN k⟩ := fun x => hm ⟨x.1, x.2.1⟩
        rw [if_neg hh, cond_neg]
        · rfl
        · simp
          omega) 1000000 (⟨t1, t2, []⟩, 0) ⟨by dsimp only; omega, by dsimp only; omega, rfl⟩ (by dsimp only; omega)
  exact this
end Go.Proofs.YtlhpkjgpcenfdaaDoor
