/-
 Own work. Chapter 25, plain part: grids from cells; Press.
-/
import Derived.Test.YtbcfmhoaocifoaaDoorP25e
set_option linter.unusedSimpArgs false
set_option linter.unusedVariables false
set_option maxRecDepth 10000
set_option linter.unusedSimpArgs false
set_option linter.unusedVariables false
namespace Go.Proofs.YtbcfmhoaocifoaaDoor
open Go.Abs
theorem tabY (k : Nat) (h : k < 6) : (tabS_0.getD k zS_Point).Y = ((k % 3 : Nat) : Int) := by
 match k, h with
 | 0, _ => rfl
 | 1, _ => rfl
 | 2, _ => rfl
 | 3, _ => rfl
 | 4, _ => rfl
 | 5, _ => rfl
theorem tabX (k : Nat) (h : k < 6) : (tabS_0.getD k zS_Point).X = ((k / 3 : Nat) : Int) := by
 match k, h with
 | 0, _ => rfl
 | 1, _ => rfl
 | 2, _ => rfl
 | 3, _ => rfl
 | 4, _ => rfl
 | 5, _ => rfl
def prog (r i k y x : Nat) : Prop := y / 3 < r ∨ (y / 3 = r ∧ (x / 2 < i ∨ (x / 2 = i ∧ x % 2 * 3 + y % 3 < k)))
instance (r i k y x : Nat) : Decidable (prog r i k y x) := inferInstanceAs (Decidable (y / 3 < r ∨ (y / 3 = r ∧ (x / 2 < i ∨ (x / 2 = i ∧ x % 2 * 3 + y % 3 < k)))))
def gone (p : List (List Int)) (r i k y x : Nat) : Bool := if prog r i k y x then dot p y x else false
theorem dot_far (p : List (List Int)) (y x : Nat) (h : cellAt p (y / 3) (x / 2) = 0) : dot p y x = false := by
 unfold dot
 rw [h]
 exact bit_zero _ (by omega)
theorem dot_at (p : List (List Int)) (r i k : Nat) (hk : k < 6) : dot p (3 * r + k % 3) (2 * i + k / 3) = bit (cellAt p r i) k := by
 unfold dot
 rw [show (3 * r + k % 3) / 3 = r by omega, show (2 * i + k / 3) / 2 = i by omega, show (2 * i + k / 3) % 2 * 3 + (3 * r + k % 3) % 3 = k by omega]
theorem cell_far1 (p : List (List Int)) (r c : Nat) (h : p.length ≤ r) : cellAt p r c = 0 := by
 unfold cellAt
 rw [getD_nil p r [] h]
 rfl
theorem cell_far2 (p : List (List Int)) (r c : Nat) (h : (p.getD r []).length ≤ c) : cellAt p r c = 0 := getD_nil _ _ _ h
theorem gone_congr {p : List (List Int)} {a b c a' b' c' y x : Nat} (h : prog a b c y x ↔ prog a' b' c' y x) : gone p a b c y x = gone p a' b' c' y x := by
 unfold gone
 congr 1
 exact propext h
def fitG (p : List (List Int)) (W H : Nat) : Prop := W % 2 = 0 ∧ H % 3 = 0 ∧ W ≤ 200 ∧ H ≤ 200 ∧ p.length ≤ H / 3 ∧ (∀ i, i < p.length → (p.getD i []).length ≤ W / 2 ∧ ∀ k, k < (p.getD i []).length → (p.getD i []).getD k 0 < 64)
theorem g_fromCells (p : List (List Int)) (W H : Nat) (h : fitG p W H) : f_grid_FromCells p (W : Int) (H : Int) = some (⟨(W : Int), (H : Int), mat H W (dot p)⟩, 0) := by
 obtain ⟨hw2, hh3, hw, hh, hl, hr⟩ := h
 have e2 : Int.tdiv (H : Int) 3 = ((H / 3 : Nat) : Int) := by rw [Int.tdiv_eq_ediv_of_nonneg (by omega)]; omega
 have e1 : Int.tdiv (W : Int) 2 = ((W / 2 : Nat) : Int) := by rw [Int.tdiv_eq_ediv_of_nonneg (by omega)]; omega
 have m2 : Int.tmod (H : Int) 3 = 0 := by rw [Int.tmod_eq_emod_of_nonneg (by omega)]; omega
 have m1 : Int.tmod (W : Int) 2 = 0 := by rw [Int.tmod_eq_emod_of_nonneg (by omega)]; omega
 unfold f_grid_FromCells
 rw [e2, m2, m1, cI_pos (inR_of (by omega)), decide_eq_false (show ¬ (W : Int) < 0 by omega), decide_eq_false (show ¬ (200 : Int) < (W : Int) by omega), decide_eq_false (show ¬ (H : Int) < 0 by omega), decide_eq_false (show ¬ (200 : Int) < (H : Int) by omega), decide_eq_false (show ¬ ((H / 3 : Nat) : Int) < (p.length : Int) by omega)]
 show iter _ _ _ = _
 refine loop_up (fun k => ((⟨0, 0, []⟩ : S_Grid), (k : Int))) p.length _ (by omega) ?_ ?_
 ·intro loop k hk
  have hrk := hr k hk
  unfold f_grid_FromCells_b5
  simp only []
  rw [e1, cd_pos (by omega), G_pos (by omega), G_inR (by omega), Int.toNat_natCast, cd_neg (by omega)]
  refine loop_up (fun j => ((⟨0, 0, []⟩ : S_Grid), (j : Int))) (p.getD k []).length _ (by omega) ?_ ?_
  ·intro loop2 j hj
   unfold f_grid_FromCells_b1 f_cell_Valid
   simp only [Int.toNat_natCast]
   rw [cd_pos (by omega), G_pos (by omega), Option.bind_some, decide_eq_true (hrk.2 j hj), G_inR (by omega), natAdd1]
   rfl
  ·intro loop2
   unfold f_grid_FromCells_b1
   simp only [Int.toNat_natCast]
   rw [cd_neg (by omega), G_inR (by omega), natAdd1]
 ·intro loop
  unfold f_grid_FromCells_b5
  simp only []
  rw [cd_neg (by omega), g_new W H hw hh, Option.bind_some]
  rw [show mat H W (fun _ _ => false) = mat H W (gone p 0 0 0) from mat_congr fun y x _ _ => by simp [gone, prog]]
  refine loop_up (fun r => ((⟨0, 0, []⟩ : S_Grid), (⟨(W : Int), (H : Int), mat H W (gone p r 0 0)⟩ : S_Grid), (r : Int))) p.length _ (by omega) ?_ ?_
  ·intro loop2 r hrl
   have hrr := hr r hrl
   unfold f_grid_FromCells_b4
   simp only []
   rw [cd_pos (by omega), G_pos (by omega)]
   refine loop_up (fun i => ((⟨0, 0, []⟩ : S_Grid), (⟨(W : Int), (H : Int), mat H W (gone p r i 0)⟩ : S_Grid), (i : Int))) (p.getD r []).length _ (by omega) ?_ ?_
   ·intro loop3 i hi
    have hri := hrr.1
    unfold f_grid_FromCells_b3
    simp only [Int.toNat_natCast]
    rw [cd_pos (by omega), G_pos (by omega)]
    refine loop_up (fun k => ((⟨0, 0, []⟩ : S_Grid), (⟨(W : Int), (H : Int), mat H W (gone p r i k)⟩ : S_Grid), (k : Int))) 6 _ (by omega) ?_ ?_
    ·intro loop4 k hk
     show f_grid_FromCells_b2 p (r : Int) loop3 (i : Int) loop4 ⟨0, 0, []⟩ ⟨(W : Int), (H : Int), mat H W (gone p r i k)⟩ (k : Int) = _
     unfold f_grid_FromCells_b2 f_grid_FromCells_k1
     rw [Int.toNat_natCast k, Int.toNat_natCast r, Int.toNat_natCast i, tabX k hk, tabY k hk, cd_pos (by omega), G_pos (by omega), show ((3 : Int) * (r : Int)) + ((k % 3 : Nat) : Int) = ((3 * r + k % 3 : Nat) : Int) by push_cast; rfl, show ((2 : Int) * (i : Int)) + ((k / 3 : Nat) : Int) = ((2 * i + k / 3 : Nat) : Int) by push_cast; rfl, Int.toNat_natCast, Int.toNat_natCast,
      G_inR (n := (3 : Int) * (r : Int)) (by omega), G_pos (p := 0 ≤ (k : Int) ∧ (k : Int) < 6) (by omega), G_inR (n := ((3 * r + k % 3 : Nat) : Int)) (by omega), G_inR (n := (2 : Int) * (i : Int)) (by omega), G_inR (n := ((2 * i + k / 3 : Nat) : Int)) (by omega), G_inR (n := (k : Int) + 1) (by omega), mat_len, mat_row H W (gone p r i k) (3 * r + k % 3) (by omega), row_len, G_pos (p := 0 ≤ ((3 * r + k % 3 : Nat) : Int) ∧ ((3 * r + k % 3 : Nat) : Int) < (H : Int)) (by omega), G_pos (p := 0 ≤ ((2 * i + k / 3 : Nat) : Int) ∧ ((2 * i + k / 3 : Nat) : Int) < (W : Int)) (by omega)]
     show cond (bit (cellAt p r i) k) _ _ = _
     rw [← mat_row H W (gone p r i k) (3 * r + k % 3) (by omega), mat_set _ _ _ _ _ _ (by omega), natAdd1]
     have hd := dot_at p r i k hk
     have place : ∀ y x : Nat, prog r i (k + 1) y x ↔ prog r i k y x ∨ (y = 3 * r + k % 3 ∧ x = 2 * i + k / 3) := by
      intro y x
      unfold prog
      omega
     cases hb : bit (cellAt p r i) k with
     | true =>
      rw [hb] at hd
      refine congrArg (fun m => loop4 ((⟨0, 0, []⟩ : S_Grid), (⟨(W : Int), (H : Int), m⟩ : S_Grid), ((k + 1 : Nat) : Int))) (mat_congr ?_)
      intro y x hy hx
      unfold gone
      by_cases e : y = 3 * r + k % 3 ∧ x = 2 * i + k / 3
      ·rw [if_pos e, if_pos ((place y x).2 (Or.inr e)), e.1, e.2, hd]
      ·rw [if_neg e]
       congr 1
       exact propext ⟨fun a => (place y x).2 (Or.inl a), fun a => ((place y x).1 a).resolve_right e⟩
     | false =>
      rw [hb] at hd
      rw [cond_neg rfl, G_inR (by omega)]
      refine congrArg (fun m => loop4 ((⟨0, 0, []⟩ : S_Grid), (⟨(W : Int), (H : Int), m⟩ : S_Grid), ((k + 1 : Nat) : Int))) (mat_congr ?_)
      intro y x hy hx
      unfold gone
      by_cases e : y = 3 * r + k % 3 ∧ x = 2 * i + k / 3
      ·rw [if_pos ((place y x).2 (Or.inr e)), e.1, e.2, hd]
       simp
      ·congr 1
       exact propext ⟨fun a => (place y x).2 (Or.inl a), fun a => ((place y x).1 a).resolve_right e⟩
    ·intro loop4
     unfold f_grid_FromCells_b2
     simp only []
     rw [cd_neg (by omega), G_inR (by omega), natAdd1, mat_congr (f := gone p r i 6) (f' := gone p r (i + 1) 0) (fun y x _ _ => gone_congr (by unfold prog; omega))]
   ·intro loop3
    unfold f_grid_FromCells_b3
    simp only [Int.toNat_natCast]
    rw [cd_neg (by omega), G_inR (by omega), natAdd1, mat_congr (f := gone p r (p.getD r []).length 0) (f' := gone p (r + 1) 0 0)]
    intro y x hy hx
    unfold gone
    by_cases e : y / 3 = r ∧ (p.getD r []).length ≤ x / 2
    ·rw [dot_far p y x (by rw [e.1]; exact cell_far2 _ _ _ e.2)]
     simp
    ·congr 1
     unfold prog
     exact propext (by omega)
  ·intro loop2
   unfold f_grid_FromCells_b4
   simp only []
   rw [cd_neg (by omega), mat_congr (f := gone p p.length 0 0) (f' := dot p)]
   intro y x hy hx
   unfold gone
   by_cases e : y / 3 < p.length
   ·rw [if_pos (show prog p.length 0 0 y x from Or.inl e)]
   ·rw [dot_far p y x (cell_far1 _ _ _ (by omega))]
    simp
theorem fitG_of {p : List (List Int)} {w h : Nat} (f : fitsP p (w : Int) (h : Int)) (hw : w ≤ 60) (hh : h ≤ 40) : fitG p (2 * w) (3 * h) := by
 refine ⟨by omega, by omega, by omega, by omega, by have := f.1; omega, fun i hi => ?_⟩
 have := f.2.1 i hi
 exact ⟨by have := this.1; omega, this.2.2⟩
theorem s_raise (p : List (List Int)) (W H : Nat) (h : fitG p W H) : f_sheet_raise_fn32 p (W : Int) (H : Int) = some (mat H W (dot p), 0) := by
 have hw := h.2.2.1
 have hh := h.2.2.2.1
 unfold f_sheet_raise_fn32
 rw [g_fromCells p W H h, Option.bind_some, cn_neg rfl]
 simp only []
 rw [mat_len, G_pos (by omega), Int.toNat_natCast, part0 H (fun y => row W (dot p y))]
 refine loop_up (fun k => (row H (part k (fun y => row W (dot p y)) []), (k : Int))) H _ (by omega) ?_ ?_
 ·intro loop k hk
  unfold f_sheet_raise_fn32_b1
  simp only []
  rw [mat_len, row_len, cd_pos (by omega), G_pos (by omega), Int.toNat_natCast, mat_row _ _ _ _ hk, s_straight _ (by rw [row_len]; omega), Option.bind_some, G_pos (by omega), G_inR (by omega), partS _ _ _ _ _ rfl, natAdd1]
 ·intro loop
  unfold f_sheet_raise_fn32_b1
  simp only []
  rw [mat_len, cd_neg (by omega), partE]
  rfl
theorem s_raiseT (p : List (List Int)) (W H : Nat) (h : fitG p W H) : f_sheet_raise_fn33 p (W : Int) (H : Int) = some (mat H W (fun y x => dot p y (W - 1 - x)), 0) := by
 have hw := h.2.2.1
 have hh := h.2.2.2.1
 unfold f_sheet_raise_fn33
 rw [g_fromCells p W H h, Option.bind_some, cn_neg rfl]
 simp only []
 rw [mat_len, G_pos (by omega), Int.toNat_natCast, part0 H (fun y => row W fun x => dot p y (W - 1 - x))]
 refine loop_up (fun k => (row H (part k (fun y => row W fun x => dot p y (W - 1 - x)) []), (k : Int))) H _ (by omega) ?_ ?_
 ·intro loop k hk
  unfold f_sheet_raise_fn33_b1
  simp only []
  rw [mat_len, row_len, cd_pos (by omega), G_pos (by omega), Int.toNat_natCast, mat_row _ _ _ _ hk, s_turned _ (by rw [row_len]; omega), Option.bind_some, G_pos (by omega), G_inR (by omega), row_rev, partS _ _ _ _ _ rfl, natAdd1]
 ·intro loop
  unfold f_sheet_raise_fn33_b1
  simp only []
  rw [mat_len, cd_neg (by omega), partE]
  rfl
def plateOf (l : S_Leaf) (w h : Nat) : S_Plate := PL (2 * w) (3 * h) (dot l.Front) (fun y x => dot l.Back y (2 * w - 1 - x))
def sizeOk (w h : Int) : Prop := 24 ≤ w ∧ w ≤ 60 ∧ 4 ≤ h ∧ h ≤ 40
instance (w h : Int) : Decidable (sizeOk w h) := inferInstanceAs (Decidable (24 ≤ w ∧ w ≤ 60 ∧ 4 ≤ h ∧ h ≤ 40))
def pressP (l : S_Leaf) (f : S_Format) : S_Plate × Int :=
 if sizeOk f.Width f.Height then (if fitsP l.Front f.Width f.Height ∧ fitsP l.Back f.Width f.Height then (plateOf l f.Width.toNat f.Height.toNat, 0) else (⟨0, 0, [], []⟩, 250)) else (⟨0, 0, [], []⟩, 1)
theorem size_cond {w h : Int} {α : Type} {a b : α} : cond (cond (cond (cond (decide (w < (24 : Int))) true (decide ((60 : Int) < w))) true (decide (h < (4 : Int)))) true (decide ((40 : Int) < h))) a b = if sizeOk w h then b else a := by
 by_cases h1 : sizeOk w h
 ·obtain ⟨a, b, c, d⟩ := h1
  rw [if_pos ⟨a, b, c, d⟩, decide_eq_false (by omega), decide_eq_false (by omega), decide_eq_false (by omega), decide_eq_false (by omega)]
  rfl
 ·rw [if_neg h1]
  by_cases q1 : w < 24
  ·rw [decide_eq_true q1]; simp
  ·by_cases q2 : 60 < w
   ·rw [decide_eq_true q2]; simp
   ·by_cases q3 : h < 4
    ·rw [decide_eq_true q3]; simp
    ·by_cases q4 : 40 < h
     ·rw [decide_eq_true q4]; simp
     ·exact absurd ⟨by omega, by omega, by omega, by omega⟩ h1
theorem s_press (l : S_Leaf) (f : S_Format) (h1 : shortP l.Front) (h2 : shortP l.Back) : f_sheet_Press l f = some (pressP l f) := by
 unfold f_sheet_Press pressP
 rw [size_cond]
 by_cases hs : sizeOk f.Width f.Height
 ·rw [if_pos hs, if_pos hs, s_fits _ _ h1, Option.bind_some, s_fits _ _ h2]
  by_cases q1 : fitsP l.Front f.Width f.Height
  ·rw [decide_eq_true q1]
   by_cases q2 : fitsP l.Back f.Width f.Height
   ·rw [decide_eq_true q2, if_pos ⟨q1, q2⟩]
    obtain ⟨a, b, c, d⟩ := hs
    obtain ⟨w, hw⟩ := nat_of (x := f.Width) (by omega)
    obtain ⟨h, hh⟩ := nat_of (x := f.Height) (by omega)
    rw [hw, hh] at q1 q2 ⊢
    rw [hw] at a b
    rw [hh] at c d
    show G _ _ = _
    rw [show (2 : Int) * (w : Int) = ((2 * w : Nat) : Int) by push_cast; rfl, show (3 : Int) * (h : Int) = ((3 * h : Nat) : Int) by push_cast; rfl, G_inR (by omega), G_inR (by omega), s_raise _ _ _ (fitG_of q1 (by omega) (by omega)), Option.bind_some, cn_neg rfl, s_raiseT _ _ _ (fitG_of q2 (by omega) (by omega)), Option.bind_some, cn_neg rfl]
    rfl
   ·rw [decide_eq_false q2, if_neg (fun a => q2 a.2)]
    rfl
  ·rw [decide_eq_false q1, if_neg (fun a => q1 a.1)]
   rfl
 ·rw [if_neg hs, if_neg hs]
end Go.Proofs.YtbcfmhoaocifoaaDoor
