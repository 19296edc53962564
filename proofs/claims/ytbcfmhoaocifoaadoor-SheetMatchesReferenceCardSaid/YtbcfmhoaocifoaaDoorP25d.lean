/-
  Own work. Chapter 25, plain part: plates by their dots; empty and turned plates; dots of cells.
-/
import Derived.Test.YtbcfmhoaocifoaaDoorP25c
set_option linter.unusedSimpArgs false
set_option linter.unusedVariables false
set_option maxRecDepth 10000
set_option linter.unusedSimpArgs false
set_option linter.unusedVariables false
namespace Go.Proofs.YtbcfmhoaocifoaaDoor
open Go.Abs
abbrev PL (w h : Nat) (u v : Nat → Nat → Bool) : S_Plate := ⟨(w : Int), (h : Int), mat h w u, mat h w v⟩
theorem PL_congr {w h : Nat} {u v u' v' : Nat → Nat → Bool} (e : ∀ y x, y < h → x < w → u y x = u' y x) (e' : ∀ y x, y < h → x < w → v y x = v' y x) : PL w h u v = PL w h u' v' := by
  unfold PL
  rw [mat_congr e, mat_congr e']
theorem natSub1 (w j : Nat) (h : j < w) : (((w : Int) - 1 - (j : Int))).toNat = w - 1 - j := by omega
def upto (k j : Nat) (f : Nat → Nat → Bool) : Nat → Nat → Bool := fun y x => if y < k ∨ (y = k ∧ x < j) then f y x else false
theorem mat_uptoE (h w k : Nat) (f : Nat → Nat → Bool) : mat h w (upto k w f) = mat h w (upto (k + 1) 0 f) := mat_congr fun y x hy hx => by
  unfold upto
  congr 1
  exact propext ⟨fun a => by omega, fun a => by omega⟩
theorem mat_uptoH (h w : Nat) (f : Nat → Nat → Bool) : mat h w (upto h 0 f) = mat h w f := mat_congr fun y x hy hx => by simp [upto, hy]
theorem mat_uptoS (h w k j : Nat) (f : Nat → Nat → Bool) (v : Bool) (hk : k < h) (hv : v = f k j) : (mat h w (upto k j f)).set k (((mat h w (upto k j f)).getD k []).set j v) = mat h w (upto k (j + 1) f) := by
  rw [mat_set _ _ _ _ _ _ hk]
  apply mat_congr
  intro y x hy hx
  subst hv
  unfold upto
  by_cases e : y = k ∧ x = j
  · rw [if_pos e, if_pos (by omega), e.1, e.2]
  · rw [if_neg e]
    congr 1
    exact propext ⟨fun a => by omega, fun a => by omega⟩
def uptoR (w k j : Nat) (f : Nat → Nat → Bool) : Nat → Nat → Bool := fun y x => if y < k ∨ (y = k ∧ w - 1 - x < j) then f y x else false
theorem mat_uptoRE (h w k : Nat) (f : Nat → Nat → Bool) : mat h w (uptoR w k w f) = mat h w (uptoR w (k + 1) 0 f) := mat_congr fun y x hy hx => by
  unfold uptoR
  congr 1
  exact propext ⟨fun a => by omega, fun a => by omega⟩
theorem mat_uptoRH (h w : Nat) (f : Nat → Nat → Bool) : mat h w (uptoR w h 0 f) = mat h w f := mat_congr fun y x hy hx => by simp [uptoR, hy]
theorem mat_uptoRS (h w k j : Nat) (f : Nat → Nat → Bool) (v : Bool) (hk : k < h) (hj : j < w) (hv : v = f k (w - 1 - j)) : (mat h w (uptoR w k j f)).set k (((mat h w (uptoR w k j f)).getD k []).set (w - 1 - j) v) = mat h w (uptoR w k (j + 1) f) := by
  rw [mat_set _ _ _ _ _ _ hk]
  apply mat_congr
  intro y x hy hx
  subst hv
  unfold uptoR
  by_cases e : y = k ∧ x = w - 1 - j
  · rw [if_pos e, if_pos (by omega), e.1, e.2]
  · rw [if_neg e]
    congr 1
    exact propext ⟨fun a => by omega, fun a => by omega⟩
theorem r_empty (w h : Nat) (hw : w < 900000) (hh : h < 900000) : f_R25_Empty (w : Int) (h : Int) = some (PL w h (fun _ _ => false) (fun _ _ => false)) := by
  unfold f_R25_Empty
  refine loop_up (fun k => ((⟨0, 0, [], []⟩ : S_Plate), (⟨(w : Int), (h : Int), row k (fun _ => row w fun _ => false), row k (fun _ => row w fun _ => false)⟩ : S_Plate), (k : Int))) h _ hh ?_ ?_
  · intro loop k hk
    unfold f_R25_Empty_b1
    simp only []
    rw [cd_pos (by omega), G_pos (by omega), G_room (by rw [row_len]; omega), G_room (by rw [row_len]; omega), G_inR (by omega), Int.toNat_natCast, row_rep, row_snoc k (fun _ => row w fun _ => false), natAdd1]
  · intro loop
    unfold f_R25_Empty_b1
    simp only []
    rw [cd_neg (by omega)]
    rfl
def bit (c : Int) (k : Nat) : Bool := (bAnd .u8 (bShr .u8 c (k : Int)) 1) == 1
def cellU (f : Nat → Bool) : Nat → Int
  | 0 => 0
  | k + 1 => cellU f k + (if f k then ((2 ^ k : Nat) : Int) else 0)
def cellOf (f : Nat → Bool) : Int := cellU f 6
theorem bit_zero_tab : (List.range 6).all (fun k => bit 0 k == false) = true := by kernel_rfl
theorem bit_zero (k : Nat) (hk : k < 6) : bit 0 k = false := by
  have := List.all_eq_true.1 bit_zero_tab k (List.mem_range.2 hk)
  simpa using this
end Go.Proofs.YtbcfmhoaocifoaaDoor
