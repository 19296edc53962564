/- Own work. -/
import Derived.Test.YtbcfmhoaocifoaaDoorP25d
set_option linter.unusedSimpArgs false
set_option linter.unusedVariables false
set_option maxRecDepth 10000
namespace Go.Proofs.YtbcfmhoaocifoaaDoor
open Go.Abs
def cellAt (p : List (List Int)) (r c : Nat) : Int := (p.getD r []).getD c 0
def dot (p : List (List Int)) (y x : Nat) : Bool := bit (cellAt p (y / 3) (x / 2)) (x % 2 * 3 + y % 3)
def z0 (c : Int) : Bool := c == 0
def zE (l : List Int) : Bool := (l.length : Int) == 0
def lineOk (l : List Int) (w : Int) : Prop := (l.length : Int) ≤ w ∧ canL z0 0 l ∧ ∀ k, k < l.length → l.getD k 0 < 64
def fitsP (p : List (List Int)) (w h : Int) : Prop := (p.length : Int) ≤ h ∧ (∀ i, i < p.length → lineOk (p.getD i []) w) ∧ canL zE [] p
instance {α : Type} (z : α → Bool) (d : α) (l : List α) : Decidable (canL z d l) := inferInstanceAs (Decidable (0 < l.length → z (l.getD (l.length - 1) d) = false))
instance (l : List Int) (w : Int) : Decidable (lineOk l w) := inferInstanceAs (Decidable ((l.length : Int) ≤ w ∧ canL z0 0 l ∧ ∀ k, k < l.length → l.getD k 0 < 64))
instance (p : List (List Int)) (w h : Int) : Decidable (fitsP p w h) := inferInstanceAs (Decidable ((p.length : Int) ≤ h ∧ (∀ i, i < p.length → lineOk (p.getD i []) w) ∧ canL zE [] p))
def shortP (p : List (List Int)) : Prop := p.length < 900000 ∧ ∀ i, (p.getD i []).length < 900000
theorem getD_nil {α : Type} (l : List α) (i : Nat) (d : α) (h : l.length ≤ i) : l.getD i d = d := by simp [Xc, h]
theorem canL_last {α : Type} (z : α → Bool) (d : α) (l : List α) (h : 0 < l.length) : canL z d l ↔ z (l.getD (((l.length : Int) - 1).toNat) d) = false := by
 rw [show ((l.length : Int) - 1).toNat = l.length - 1 by omega]
 exact ⟨fun a => a h, fun a _ => a⟩
theorem r_validAll (l : List Int) (h : l.length < 900000) : Y54 l = some (decide (∀ k, k < l.length → l.getD k 0 < 64)) := by
 unfold Y54
 rw [loop_allO l.length (fun k => l.getD k 0 < 64) (some true) (some false) h]
 ·by_cases h2 : ∀ k, k < l.length → l.getD k 0 < 64
  ·rw [if_pos h2, decide_eq_true h2]
  ·rw [if_neg h2, decide_eq_false h2]
 ·intro loop k hk
  unfold Y2x
  rw [Y09 (by omega), X5, Yw (by omega)]
  by_cases hv : l.getD k 0 < 64
  ·rw [Y0b (by omega), Yx (by omega), if_pos hv, Y11]
  ·rw [Y09 (by omega), if_neg hv]
 ·intro loop
  unfold Y2x
  rw [Y0b (by omega)]
theorem r_fits (p : List (List Int)) (w h : Int) (hs : shortP p) : f_R25_Fits p w h = some (decide (fitsP p w h)) := by
 unfold f_R25_Fits
 by_cases h1 : h < (p.length : Int)
 ·rw [Y09 h1, decide_eq_false (fun a => by have := a.1; omega)]
 ·rw [Y0b h1, loop_allO p.length (fun i => lineOk (p.getD i []) w ∧ (i + 1 = p.length → 0 < (p.getD i []).length)) (some true) (some false) hs.1]
  ·have : (∀ k, k < p.length → lineOk (p.getD k []) w ∧ (k + 1 = p.length → 0 < (p.getD k []).length)) ↔ fitsP p w h := by
    constructor
    ·intro a
     refine ⟨by omega, fun i hi => (a i hi).1, fun h0 => ?_⟩
     have := (a (p.length - 1) (by omega)).2 (by omega)
     simp only [zE, beq_eq_false_iff_ne]
     omega
    ·intro a i hi
     refine ⟨a.2.1 i hi, fun e => ?_⟩
     have := a.2.2 (by omega)
     rw [show p.length - 1 = i by omega] at this
     simp only [zE, beq_eq_false_iff_ne] at this
     omega
   by_cases h2 : fitsP p w h
   ·rw [if_pos (this.2 h2), decide_eq_true h2]
   ·rw [if_neg (fun a => h2 (this.1 a)), decide_eq_false h2]
  ·intro loop k hk
   have hr := hs.2 k
   have hl := hs.1
   unfold f_R25_Fits_b1
   rw [Y09 (by omega), Yw (by omega), X5, r_validAll _ hr, X8, cI_pos (inR_of (by omega)), G_imp (fun a => by simp only [X3, decide_eq_true_eq] at a; omega), cI_pos (inR_of (by omega))]
   by_cases hw : w < ((p.getD k []).length : Int)
   ·rw [Y09 hw, if_neg (fun a => by have := a.1.1; omega)]
    rfl
   ·rw [Y0b hw]
    by_cases hv : ∀ j, j < (p.getD k []).length → (p.getD k []).getD j 0 < 64
    ·rw [decide_eq_true hv]
     by_cases h0 : 0 < (p.getD k []).length
     ·rw [Y09 (x := ((p.getD k []).getD (((p.getD k []).length : Int) - (1 : Int)).toNat (0 : Int)) == (0 : Int)) (by omega), cb_neg (a := ((p.getD k []).length : Int)) (by omega)]
      by_cases hc : canL z0 0 (p.getD k [])
      ·have : (((p.getD k []).getD (((p.getD k []).length : Int) - (1 : Int)).toNat (0 : Int)) == (0 : Int)) = false := (canL_last z0 0 _ h0).1 hc
       rw [this, if_pos ⟨⟨by omega, hc, hv⟩, fun _ => h0⟩, Yx (by omega), Y11]
       rfl
      ·have : (((p.getD k []).getD (((p.getD k []).length : Int) - (1 : Int)).toNat (0 : Int)) == (0 : Int)) = true := by
        have := mt (canL_last z0 0 _ h0).2 hc
        simpa [z0] using this
       rw [this, if_neg (fun a => hc a.1.2.1)]
       rfl
     ·rw [Y0b (x := ((p.getD k []).getD (((p.getD k []).length : Int) - (1 : Int)).toNat (0 : Int)) == (0 : Int)) (by omega), cb_pos (a := ((p.getD k []).length : Int)) (by omega)]
      have hc : canL z0 0 (p.getD k []) := fun a => absurd a h0
      by_cases he : k + 1 = p.length
      ·rw [if_neg (fun a => h0 (a.2 he)), beq_iff_eq.2 (show (k : Int) = (p.length : Int) - 1 by omega)]
       rfl
      ·rw [if_pos ⟨⟨by omega, hc, hv⟩, fun a => absurd a he⟩, beq_eq_false_iff_ne.2 (show ¬ (k : Int) = (p.length : Int) - 1 by omega), Yx (by omega), Y11]
       rfl
    ·rw [decide_eq_false hv, if_neg (fun a => hv a.1.2.2)]
     rfl
  ·intro loop
   unfold f_R25_Fits_b1
   rw [Y0b (by omega)]
theorem s_straight (l : List Bool) (h : l.length < 900000) : Y15 l = some l := by
 unfold Y15
 rw [Yw (by omega), Yw (by simp)]
theorem s_turned (l : List Bool) (h : l.length < 900000) : Y3k l = some l.reverse := by
 unfold Y3k
 rw [s_straight l h, X8]
def part {α : Type} (k : Nat) (g : Nat → α) (d : α) : Nat → α := fun i => if i < k then g i else d
theorem part0 {α : Type} (n : Nat) (g : Nat → α) (d : α) : List.replicate n d = row n (part 0 g d) := by
 rw [row_rep]
 exact Y1l fun k _ => by simp [part]
theorem partS {α : Type} (n k : Nat) (g : Nat → α) (d v : α) (hv : v = g k) : (row n (part k g d)).set k v = row n (part (k + 1) g d) := by
 rw [row_set]
 apply Y1l
 intro i hi
 subst hv
 unfold part
 by_cases e : i = k
 ·rw [if_pos e, if_pos (by omega), e]
 ·rw [if_neg e]
  by_cases h : i < k
  ·rw [if_pos h, if_pos (by omega)]
  ·rw [if_neg h, if_neg (by omega)]
theorem partE {α : Type} (n : Nat) (g : Nat → α) (d : α) : row n (part n g d) = row n g := Y1l fun k hk => by simp [part, hk]
end Go.Proofs.YtbcfmhoaocifoaaDoor
