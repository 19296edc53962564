/-
 Own work. Chapter 25, plain part: pages that fit; the dots of a page; Press.
-/
import Derived.Test.YtbcfmhoaocifoaaDoorP25d
set_option linter.unusedSimpArgs false
set_option linter.unusedVariables false
set_option maxRecDepth 10000
set_option linter.unusedSimpArgs false
set_option linter.unusedVariables false
namespace Go.Proofs.YtbcfmhoaocifoaaDoor
open Go.Abs
def cellAt (p : List (List Int)) (r c : Nat) : Int := (p.getD r []).getD c 0
def dot (p : List (List Int)) (y x : Nat) : Bool := bit (cellAt p (y / 3) (x / 2)) (x % 2 * 3 + y % 3)
def z0 (c : Int) : Bool := c == 0
def zE (l : List Int) : Bool := (l.length : Int) == 0
def lineOk (l : List Int) (w : Int) : Prop := (l.length : Int) ≤ w ∧ canL z0 0 l ∧ ∀ k, k < l.length → l.getD k 0 < 64
def fitsP (p : List (List Int)) (w h : Int) : Prop := (p.length : Int) ≤ h ∧ (∀ i, i < p.length → lineOk (p.getD i []) w) ∧ canL zE [] p
instance {α : Type} (z : α → Bool) (d : α) (l : List α) : Decidable (canL z d l) := inferInstanceAs (Decidable (0 < l.length → z (l.getD (l.length - 1) d) = false))
instance (l : List Int) (w : Int) : Decidable (lineOk l w) := inferInstanceAs (Decidable ((l.length : Int) ≤ w ∧ canL z0 0 l ∧ ∀ k, k < l.length → l.getD k 0 < 64))
instance (p : List (List Int)) (w h : Int) : Decidable (fitsP p w h) := inferInstanceAs (Decidable ((p.length : Int) ≤ h ∧ (∀ i, i < p.length → lineOk (p.getD i []) w) ∧ canL zE [] p))
def shortP (p : List (List Int)) : Prop := p.length < 900000 ∧ ∀ i, (p.getD i []).length < 900000
theorem getD_nil {α : Type} (l : List α) (i : Nat) (d : α) (h : l.length ≤ i) : l.getD i d = d := by simp [List.getD_eq_getElem?_getD, h]
theorem canL_last {α : Type} (z : α → Bool) (d : α) (l : List α) (h : 0 < l.length) : canL z d l ↔ z (l.getD (((l.length : Int) - 1).toNat) d) = false := by
 rw [show ((l.length : Int) - 1).toNat = l.length - 1 by omega]
 exact ⟨fun a => a h, fun a _ => a⟩
theorem s_fits (p : List (List Int)) (f : S_Format) (hs : shortP p) : f_sheet_fits p f = some (decide (fitsP p f.Width f.Height)) := by
 unfold f_sheet_fits
 by_cases h1 : f.Height < (p.length : Int)
 ·rw [cd_pos h1, decide_eq_false (fun a => by have := a.1; omega)]
 ·rw [cd_neg h1, loop_allO p.length (fun i => lineOk (p.getD i []) f.Width) (some (decide (canL zE [] p))) (some false) hs.1]
  ·by_cases h2 : ∀ k, k < p.length → lineOk (p.getD k []) f.Width
   ·rw [if_pos h2]
    congr 1
    rw [decide_eq_decide]
    exact ⟨fun a => ⟨by omega, h2, a⟩, fun a => a.2.2⟩
   ·rw [if_neg h2, decide_eq_false (fun a => h2 a.2.1)]
  ·intro loop k hk
   have hr := hs.2 k
   have hl := hs.1
   unfold f_sheet_fits_b2
   rw [cd_pos (by omega), G_pos (by omega), Int.toNat_natCast, cI_pos (inR_of (by omega)), G_imp (fun a => by simp only [Bool.and_eq_true, decide_eq_true_eq] at a; omega)]
   by_cases hw : f.Width < ((p.getD k []).length : Int)
   ·rw [cd_pos hw, if_neg (fun a => by have := a.1; omega)]
    rfl
   ·rw [cd_neg hw]
    by_cases hc : canL z0 0 (p.getD k [])
    ·have e : (cond (decide ((0 : Int) < ((p.getD k []).length : Int))) (((p.getD k []).getD (((p.getD k []).length : Int) - (1 : Int)).toNat (0 : Int)) == (0 : Int)) false) = false := by
      by_cases h0 : 0 < (p.getD k []).length
      ·rw [cd_pos (by omega)]
       exact (canL_last z0 0 _ h0).1 hc
      ·rw [cd_neg (by omega)]
     rw [e, loop_allO (p.getD k []).length (fun j => (p.getD k []).getD j 0 < 64) (loop ((k + 1 : Nat) : Int)) (some false) hr]
     ·by_cases h3 : ∀ j, j < (p.getD k []).length → (p.getD k []).getD j 0 < 64
      ·rw [if_pos h3, if_pos ⟨by omega, hc, h3⟩]
       rfl
      ·rw [if_neg h3, if_neg (fun a => h3 a.2.2)]
       rfl
     ·intro loop2 j hj
      unfold f_sheet_fits_b1 f_cell_Valid
      rw [Int.toNat_natCast, cd_pos (by omega), Int.toNat_natCast, G_pos (by omega), Option.bind_some]
      by_cases hv : (p.getD k []).getD j 0 < 64
      ·rw [if_pos hv, decide_eq_true hv, G_inR (by omega), natAdd1]
       rfl
      ·rw [if_neg hv, decide_eq_false hv]
       rfl
     ·intro loop2
      unfold f_sheet_fits_b1
      rw [cd_neg (by rw [Int.toNat_natCast]; omega), G_inR (by omega), natAdd1]
    ·have h0 : 0 < (p.getD k []).length := by
      by_cases h0 : 0 < (p.getD k []).length
      ·exact h0
      ·exact absurd (fun a => absurd a h0) hc
     have e : (cond (decide ((0 : Int) < ((p.getD k []).length : Int))) (((p.getD k []).getD (((p.getD k []).length : Int) - (1 : Int)).toNat (0 : Int)) == (0 : Int)) false) = true := by
      rw [cd_pos (by omega)]
      have := mt (canL_last z0 0 _ h0).2 hc
      simpa [z0] using this
     rw [e, if_neg (fun a => hc a.2.1)]
     rfl
  ·intro loop
   have hl := hs.1
   unfold f_sheet_fits_b2
   rw [cd_neg (by omega)]
   by_cases h0 : (p.length : Int) = 0
   ·rw [h0]
    have : canL zE [] p := fun a => by omega
    rw [decide_eq_true this]
    simp [G, inR]
   ·rw [cI_pos (inR_of (by omega)), cI_pos (by omega), cb_neg h0]
    congr 1
    rw [decide_eq_decide, canL_last zE [] p (by omega)]
    simp only [zE, beq_eq_false_iff_ne]
    omega
theorem s_straight (l : List Bool) (h : l.length < 900000) : f_sheet_straight l = some l := by
 unfold f_sheet_straight
 rw [G_pos (by omega), G_pos (by simp)]
theorem s_turned (l : List Bool) (h : l.length < 900000) : f_sheet_turned l = some l.reverse := by
 unfold f_sheet_turned
 rw [s_straight l h, Option.bind_some]
def part {α : Type} (k : Nat) (g : Nat → α) (d : α) : Nat → α := fun i => if i < k then g i else d
theorem part0 {α : Type} (n : Nat) (g : Nat → α) (d : α) : List.replicate n d = row n (part 0 g d) := by
 rw [row_rep]
 exact row_congr fun k _ => by simp [part]
theorem partS {α : Type} (n k : Nat) (g : Nat → α) (d v : α) (hv : v = g k) : (row n (part k g d)).set k v = row n (part (k + 1) g d) := by
 rw [row_set]
 apply row_congr
 intro i hi
 subst hv
 unfold part
 by_cases e : i = k
 ·rw [if_pos e, if_pos (by omega), e]
 ·rw [if_neg e]
  by_cases h : i < k
  ·rw [if_pos h, if_pos (by omega)]
  ·rw [if_neg h, if_neg (by omega)]
theorem partE {α : Type} (n : Nat) (g : Nat → α) (d : α) : row n (part n g d) = row n g := row_congr fun k hk => by simp [part, hk]
theorem clamp (n : Nat) (h : n ≤ 200) : (if (200 : Int) < (if (0 : Int) > (n : Int) then (0 : Int) else (n : Int)) then (200 : Int) else (if (0 : Int) > (n : Int) then (0 : Int) else (n : Int))) = (n : Int) := by
 rw [if_neg (show ¬ (0 : Int) > (n : Int) by omega), if_neg (by omega)]
theorem g_new (w h : Nat) (hw : w ≤ 200) (hh : h ≤ 200) : f_grid_New (w : Int) (h : Int) = some ⟨(w : Int), (h : Int), mat h w fun _ _ => false⟩ := by
 unfold f_grid_New
 rw [clamp h hh, clamp w hw, G_pos (by omega), Int.toNat_natCast, part0 h (fun _ => row w fun _ => false)]
 refine loop_up (fun k => ((⟨0, 0, []⟩ : S_Grid), (⟨(w : Int), (h : Int), row h (part k (fun _ => row w fun _ => false) [])⟩ : S_Grid), (k : Int))) h _ (by omega) ?_ ?_
 ·intro loop k hk
  unfold f_grid_New_b1
  simp only []
  rw [clamp h hh, clamp w hw, cd_pos (by omega), G_pos (by omega), G_pos (by rw [row_len]; omega), G_inR (by omega), Int.toNat_natCast, Int.toNat_natCast, row_rep, partS _ _ _ _ _ rfl, natAdd1]
 ·intro loop
  unfold f_grid_New_b1
  simp only []
  rw [clamp h hh, cd_neg (by omega), partE]
  rfl
end Go.Proofs.YtbcfmhoaocifoaaDoor
