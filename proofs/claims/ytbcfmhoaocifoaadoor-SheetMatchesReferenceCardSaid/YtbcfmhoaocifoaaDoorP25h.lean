/-
  Own work. Chapter 25, plain part: pages are known by their cells; lines of a description; comparisons.
-/
import Derived.Test.YtbcfmhoaocifoaaDoorP25g
set_option linter.unusedSimpArgs false
set_option linter.unusedVariables false
set_option maxRecDepth 10000
set_option linter.unusedSimpArgs false
set_option linter.unusedVariables false
namespace Go.Proofs.YtbcfmhoaocifoaaDoor
open Go.Abs
theorem z0_iff (c : Int) : z0 c = true ↔ c = 0 := beq_iff_eq
theorem zE_iff (l : List Int) : zE l = true ↔ l = [] := by
  unfold zE
  rw [beq_iff_eq]
  constructor
  · intro h
    exact List.eq_nil_of_length_eq_zero (by omega)
  · intro h
    rw [h]
    rfl
theorem trim_getD {α : Type} {z : α → Bool} {d : α} (hz : ∀ x, z x = true ↔ x = d) (l : List α) (k : Nat) : (trim z l).getD k d = l.getD k d := by
  by_cases h : k < lend z l
  · exact trim_get z l k d h
  · rw [getD_nil (trim z l) k d (by rw [trim_len]; omega)]
    by_cases h2 : k < l.length
    · exact ((hz _).1 (lend_in z d l k (by omega) h2)).symm
    · exact (getD_nil l k d (by omega)).symm
/-! Comparisons. -/
theorem ext_iff {α : Type} [DecidableEq α] (a b : List α) (d : α) (hl : a.length = b.length) : (∀ k, k < a.length → a.getD k d = b.getD k d) ↔ a = b :=
  ⟨fun h => row_ext d hl h, fun h => by subst h; exact fun _ _ => rfl⟩
theorem ite_dec {p : Prop} [Decidable p] : (if p then some true else some false) = some (decide p) := by
  by_cases h : p
  · rw [if_pos h, decide_eq_true h]
  · rw [if_neg h, decide_eq_false h]
def shortD (d : List (List Bool)) : Prop := d.length < 900000 ∧ ∀ i, (d.getD i []).length < 900000
theorem shortD_mat (h w : Nat) (u : Nat → Nat → Bool) (hh : h < 900000) (hw : w < 900000) : shortD (mat h w u) := by
  refine ⟨by rw [mat_len]; exact hh, fun i => ?_⟩
  by_cases e : i < h
  · rw [mat_row _ _ _ _ e, row_len]
    exact hw
  · rw [getD_nil _ _ _ (by rw [mat_len]; omega)]
    simp
theorem r_sameRows (p q : List (List Bool)) (h : shortD p) : f_R25_sameRows p q = some (decide (p = q)) := by
  have h1 := h.1
  unfold f_R25_sameRows
  by_cases hl : p.length = q.length
  · rw [cn_neg (by omega), loop_allO p.length (fun k => p.getD k [] = q.getD k []) (some true) (some false) h1, ite_dec]
    · congr 1
      rw [decide_eq_decide]
      exact ext_iff p q [] hl
    · intro loop k hk
      have h2 := h.2 k
      unfold f_R25_sameRows_b2
      rw [Int.toNat_natCast, cd_pos (by omega), G_pos (by omega), G_pos (by omega)]
      by_cases el : (p.getD k []).length = (q.getD k []).length
      · rw [cn_neg (by omega), loop_allO (p.getD k []).length (fun j => (p.getD k []).getD j false = (q.getD k []).getD j false) (loop ((k + 1 : Nat) : Int)) (some false) h2]
        · have := ext_iff (p.getD k []) (q.getD k []) false el
          by_cases e : p.getD k [] = q.getD k []
          · rw [if_pos e, if_pos (this.2 e)]
          · rw [if_neg e, if_neg (fun a => e (this.1 a))]
        · intro loop2 j hj
          unfold f_R25_sameRows_b1
          rw [Int.toNat_natCast, Int.toNat_natCast, cd_pos (by omega), G_pos (by omega), G_pos (by omega), G_inR (by omega), natAdd1]
          generalize (p.getD k []).getD j false = a
          generalize (q.getD k []).getD j false = b
          cases a <;> cases b <;> rfl
        · intro loop2
          unfold f_R25_sameRows_b1
          rw [Int.toNat_natCast, cd_neg (by omega), G_inR (by omega), natAdd1]
      · rw [cn_pos (by omega), if_neg (fun e => el (by rw [e]))]
    · intro loop
      unfold f_R25_sameRows_b2
      rw [cd_neg (by omega)]
  · rw [cn_pos (by omega), decide_eq_false (fun e => hl (by rw [e]))]
theorem plate_ext (p q : S_Plate) : p = q ↔ (p.W = q.W ∧ p.H = q.H) ∧ p.Up = q.Up ∧ p.Down = q.Down := by
  cases p
  cases q
  simp [and_assoc]
theorem eq_steps (a b : S_Plate) (f : List (List Bool) → List (List Bool) → Option Bool) (h1 : f a.Up b.Up = some (decide (a.Up = b.Up))) (h2 : f a.Down b.Down = some (decide (a.Down = b.Down))) :
    ((cond (cond (a.W == b.W) (a.H == b.H) false) (f a.Up b.Up) (some false)).bind fun x1 =>
      (cond (cond (cond (a.W == b.W) (a.H == b.H) false) x1 false) (f a.Down b.Down) (some false)).bind fun x2 =>
      some (cond (cond (cond (a.W == b.W) (a.H == b.H) false) x1 false) x2 false)) = some (decide (a = b)) := by
  have e := plate_ext a b
  rw [h1, h2]
  have : (decide (a = b)) = ((a.W == b.W) && (a.H == b.H) && decide (a.Up = b.Up) && decide (a.Down = b.Down)) := by
    rw [Bool.eq_iff_iff]
    simp only [decide_eq_true_eq, Bool.and_eq_true, beq_iff_eq, e, and_assoc]
  rw [this]
  generalize (a.W == b.W) = x1
  generalize (a.H == b.H) = x2
  generalize decide (a.Up = b.Up) = x3
  generalize decide (a.Down = b.Down) = x4
  cases x1 <;> cases x2 <;> cases x3 <;> cases x4 <;> rfl
theorem r_equal (a b : S_Plate) (h1 : shortD a.Up) (h2 : shortD a.Down) : f_R25_Equal a b = some (decide (a = b)) := eq_steps a b f_R25_sameRows (r_sameRows _ _ h1) (r_sameRows _ _ h2)
/-! Lines of a description. -/
def cellsP (l : List Int) (w : Nat) : List Int := row (min l.length w) fun i => Int.tmod (l.getD i 0) 64
def linesP (l : List (List Int)) (w h : Nat) : List (List Int) := trim zE (row (min l.length h) fun i => trim z0 (cellsP (l.getD i []) w))
theorem r_cells (l : List Int) (w : Nat) (h : w < 900000) : f_R01_Cells l (w : Int) = some (cellsP l w) := by
  unfold f_R01_Cells
  refine loop_up (fun k => (row k (fun i => Int.tmod (l.getD i 0) 64), (k : Int))) (min l.length w) _ (by omega) ?_ ?_
  · intro loop k hk
    unfold f_R01_Cells_b1
    simp only []
    rw [Int.toNat_natCast, decide_eq_true (show (k : Int) < (l.length : Int) by omega), decide_eq_true (show (k : Int) < (w : Int) by omega), row_len, G_pos (by omega), G_room (by omega), G_inR (by omega), natAdd1, row_snoc k (fun i => Int.tmod (l.getD i 0) 64)]
    rfl
  · intro loop
    unfold f_R01_Cells_b1
    simp only []
    by_cases e : (((min l.length w : Nat) : Int)) < (l.length : Int)
    · rw [decide_eq_true e, decide_eq_false (show ¬ (((min l.length w : Nat) : Int)) < (w : Int) by omega)]
      rfl
    · rw [decide_eq_false e]
      rfl
theorem r_linesDrop (loop17 : List (List Int) → Option (List (List Int))) : ∀ v : List (List Int), v.length < 900000 → iter (fun loop (s : List (List Int)) => f_R25_lines_b2 loop s) 1000000 v = some (trim zE v) := by
  intro v hv
  refine iter_ind (b := fun loop (s : List (List Int)) => f_R25_lines_b2 loop s) (fun s => s.length < 900000) (fun s => s.length) (fun s => some (trim zE s)) ?_ 1000000 v hv (by omega)
  intro loop s hs ih
  unfold f_R25_lines_b2
  rw [cI_pos (inR_of (by omega)), G_imp (fun a => by have := of_decide_eq_true a; omega)]
  by_cases h0 : 0 < s.length
  · have e1 : ((s.length : Int) - 1).toNat = s.length - 1 := by omega
    rw [cd_pos (by omega), e1]
    have es : s = s.take (s.length - 1) ++ [s.getD (s.length - 1) []] := by
      have := take_snoc s (s.length - 1) [] (by omega)
      rw [show s.length - 1 + 1 = s.length by omega, List.take_length] at this
      exact this
    have el : lend zE s = if zE (s.getD (s.length - 1) []) then lend zE (s.take (s.length - 1)) else s.length := by
      have := lend_snoc zE (s.getD (s.length - 1) []) (s.take (s.length - 1))
      rw [← es, List.length_take, show min (s.length - 1) s.length + 1 = s.length by omega] at this
      exact this
    show cond (zE (s.getD (s.length - 1) [])) _ _ = _
    cases hz : zE (s.getD (s.length - 1) []) with
    | true =>
      rw [cond_pos rfl, G_inR (by omega), G_pos (by omega)]
      rw [ih (s.take (s.length - 1)) (by rw [List.length_take]; omega) (by rw [List.length_take]; omega)]
      rw [hz, if_pos rfl] at el
      have := lend_le zE (s.take (s.length - 1))
      rw [List.length_take] at this
      rw [trim, trim, el, List.take_take, show min (lend zE (s.take (s.length - 1))) (s.length - 1) = lend zE (s.take (s.length - 1)) by omega]
    | false =>
      rw [hz, if_neg (by simp)] at el
      rw [cond_neg rfl, trim, el, List.take_length]
  · have : s = [] := List.eq_nil_of_length_eq_zero (by omega)
    subst this
    rfl
theorem r_lines (l : List (List Int)) (w h : Nat) (hw : w < 900000) (hh : h < 900000) : f_R25_lines l (w : Int) (h : Int) = some (linesP l w h) := by
  unfold f_R25_lines
  refine loop_up (fun k => (row k (fun i => trim z0 (cellsP (l.getD i []) w)), (k : Int))) (min l.length h) _ (by omega) ?_ ?_
  · intro loop k hk
    unfold f_R25_lines_b3
    simp only []
    rw [Int.toNat_natCast, decide_eq_true (show (k : Int) < (l.length : Int) by omega), decide_eq_true (show (k : Int) < (h : Int) by omega), G_pos (by omega), r_cells _ _ hw, Option.bind_some]
    show iter _ _ _ = _
    have hc : (cellsP (l.getD k []) w).length < 900000 := by rw [cellsP, row_len]; omega
    generalize hx : cellsP (l.getD k []) w = x at *
    have key := iter_ind (b := fun loop8 (s : Int) => f_R25_lines_b1 loop (row k (fun i => trim z0 (cellsP (l.getD i []) w))) (k : Int) x loop8 s) (fun s => ∃ j : Nat, s = (j : Int) ∧ j ≤ x.length) (fun s => s.toNat) (fun s => loop (row k (fun i => trim z0 (cellsP (l.getD i []) w)) ++ [x.take (lend z0 (x.take s.toNat))], ((k + 1 : Nat) : Int))) (fun loop8 s hs ih => by
      obtain ⟨j, rfl, hj⟩ := hs
      unfold f_R25_lines_b1
      rw [Int.toNat_natCast]
      cases j with
      | zero =>
        rw [G_imp (fun a => absurd a (by decide)), G_imp (fun a => absurd a (by decide)), cond_neg (by simp), G_pos (by omega), row_len, G_room (by omega), G_inR (by omega), natAdd1]
        rfl
      | succ j =>
        rw [cI_pos (inR_of (by omega)), cI_pos (by omega), show ((j + 1 : Nat) : Int) - 1 = (j : Int) by omega, Int.toNat_natCast, take_snoc x j 0 (by omega), lend_snoc, cd_pos (by omega)]
        show cond (z0 (x.getD j 0)) _ _ = _
        cases hz : z0 (x.getD j 0) with
        | true =>
          rw [cond_pos rfl, G_inR (by omega), ih _ ⟨j, rfl, by omega⟩ (by omega), Int.toNat_natCast, if_pos rfl]
        | false =>
          rw [cond_neg rfl, G_pos (by omega), row_len, G_room (by omega), G_inR (by omega), natAdd1, if_neg (by simp), List.length_take, show min j x.length + 1 = j + 1 by omega, take_snoc x j 0 (by omega)]) 1000000 (x.length : Int) ⟨x.length, rfl, Nat.le_refl _⟩ (by omega)
    rw [key, Int.toNat_natCast, List.take_length]
    rw [← row_snoc, ← hx]
    rfl
  · intro loop
    unfold f_R25_lines_b3
    simp only []
    have : cond (decide (((min l.length h : Nat) : Int) < (l.length : Int))) (decide (((min l.length h : Nat) : Int) < (h : Int))) false = false := by
      by_cases e : (((min l.length h : Nat) : Int)) < (l.length : Int)
      · rw [decide_eq_true e, decide_eq_false (show ¬ (((min l.length h : Nat) : Int)) < (h : Int) by omega)]
        rfl
      · rw [decide_eq_false e]
        rfl
    rw [cond_neg this, r_linesDrop (fun _ => none) _ (by rw [row_len]; omega)]
    rfl
end Go.Proofs.YtbcfmhoaocifoaaDoor
