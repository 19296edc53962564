/-
  Own work. Chapter 25, plain part: pages that fit; the dots of a page; Press.
-/
import Derived.Test.YtbcfmhoaocifoaaDoorP25d
set_option linter.unusedSimpArgs false
set_option linter.unusedVariables false
set_option maxRecDepth 10000
set_option linter.unusedSimpArgs false
set_option linter.unusedVariables false
namespace Go.Proofs.YtbcfmhoaocifoaaDoor
open Go.Abs
def cellAt (p : List (List Int)) (r c : Nat) : Int := (p.getD r []).getD c 0
def z0 (c : Int) : Bool := c == 0
def zE (l : List Int) : Bool := (l.length : Int) == 0
def lineOk (l : List Int) (w : Int) : Prop := (l.length : Int) ≤ w ∧ canL z0 0 l ∧ ∀ k, k < l.length → l.getD k 0 < 64
def fitsP (p : List (List Int)) (w h : Int) : Prop := (p.length : Int) ≤ h ∧ (∀ i, i < p.length → lineOk (p.getD i []) w) ∧ canL zE [] p
instance {α : Type} (z : α → Bool) (d : α) (l : List α) : Decidable (canL z d l) := inferInstanceAs (Decidable (0 < l.length → z (l.getD (l.length - 1) d) = false))
instance (l : List Int) (w : Int) : Decidable (lineOk l w) := inferInstanceAs (Decidable ((l.length : Int) ≤ w ∧ canL z0 0 l ∧ ∀ k, k < l.length → l.getD k 0 < 64))
instance (p : List (List Int)) (w h : Int) : Decidable (fitsP p w h) := inferInstanceAs (Decidable ((p.length : Int) ≤ h ∧ (∀ i, i < p.length → lineOk (p.getD i []) w) ∧ canL zE [] p))
def shortP (p : List (List Int)) : Prop := p.length < 900000 ∧ ∀ i, (p.getD i []).length < 900000
theorem getD_nil {α : Type} (l : List α) (i : Nat) (d : α) (h : l.length ≤ i) : l.getD i d = d := by simp [List.getD_eq_getElem?_getD, h]
theorem s_straight (l : List Bool) (h : l.length < 900000) : f_sheet_straight l = some l := by
  unfold f_sheet_straight
  rw [G_pos (by omega), G_pos (by simp)]
theorem s_turned (l : List Bool) (h : l.length < 900000) : f_sheet_turned l = some l.reverse := by
  unfold f_sheet_turned
  rw [s_straight l h, Option.bind_some]
def part {α : Type} (k : Nat) (g : Nat → α) (d : α) : Nat → α := fun i => if i < k then g i else d
theorem part0 {α : Type} (n : Nat) (g : Nat → α) (d : α) : List.replicate n d = row n (part 0 g d) := by
  rw [row_rep]
  exact row_congr fun k _ => by simp [part]
theorem partS {α : Type} (n k : Nat) (g : Nat → α) (d v : α) (hv : v = g k) : (row n (part k g d)).set k v = row n (part (k + 1) g d) := by
  rw [row_set]
  apply row_congr
  intro i hi
  subst hv
  unfold part
  by_cases e : i = k
  · rw [if_pos e, if_pos (by omega), e]
  · rw [if_neg e]
    by_cases h : i < k
    · rw [if_pos h, if_pos (by omega)]
    · rw [if_neg h, if_neg (by omega)]
theorem partE {α : Type} (n : Nat) (g : Nat → α) (d : α) : row n (part n g d) = row n g := row_congr fun k hk => by simp [part, hk]
end Go.Proofs.YtbcfmhoaocifoaaDoor
