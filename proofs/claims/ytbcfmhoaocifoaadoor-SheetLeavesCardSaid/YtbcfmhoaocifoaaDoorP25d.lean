/-
 Own work. Chapter 25, plain part: plates by their dots; empty and turned plates; dots of cells.
-/
import Derived.Test.YtbcfmhoaocifoaaDoorP25c
set_option linter.unusedSimpArgs false
set_option linter.unusedVariables false
set_option maxRecDepth 10000
set_option linter.unusedSimpArgs false
set_option linter.unusedVariables false
namespace Go.Proofs.YtbcfmhoaocifoaaDoor
open Go.Abs
abbrev PL (w h : Nat) (u v : Nat → Nat → Bool) : S_Plate := ⟨(w : Int), (h : Int), mat h w u, mat h w v⟩
theorem PL_congr {w h : Nat} {u v u' v' : Nat → Nat → Bool} (e : ∀ y x, y < h → x < w → u y x = u' y x) (e' : ∀ y x, y < h → x < w → v y x = v' y x) : PL w h u v = PL w h u' v' := by
 unfold PL
 rw [mat_congr e, mat_congr e']
theorem natSub1 (w j : Nat) (h : j < w) : (((w : Int) - 1 - (j : Int))).toNat = w - 1 - j := by omega
def upto (k j : Nat) (f : Nat → Nat → Bool) : Nat → Nat → Bool := fun y x => if y < k ∨ (y = k ∧ x < j) then f y x else false
theorem mat_uptoE (h w k : Nat) (f : Nat → Nat → Bool) : mat h w (upto k w f) = mat h w (upto (k + 1) 0 f) := mat_congr fun y x hy hx => by
 unfold upto
 congr 1
 exact propext ⟨fun a => by omega, fun a => by omega⟩
theorem mat_uptoH (h w : Nat) (f : Nat → Nat → Bool) : mat h w (upto h 0 f) = mat h w f := mat_congr fun y x hy hx => by simp [upto, hy]
theorem mat_uptoS (h w k j : Nat) (f : Nat → Nat → Bool) (v : Bool) (hk : k < h) (hv : v = f k j) : (mat h w (upto k j f)).set k (((mat h w (upto k j f)).getD k []).set j v) = mat h w (upto k (j + 1) f) := by
 rw [mat_set _ _ _ _ _ _ hk]
 apply mat_congr
 intro y x hy hx
 subst hv
 unfold upto
 by_cases e : y = k ∧ x = j
 ·rw [if_pos e, if_pos (by omega), e.1, e.2]
 ·rw [if_neg e]
  congr 1
  exact propext ⟨fun a => by omega, fun a => by omega⟩
theorem r_empty (w h : Nat) (hw : w < 900000) (hh : h < 900000) : f_R25_Empty (w : Int) (h : Int) = some (PL w h (fun _ _ => false) (fun _ _ => false)) := by
 unfold f_R25_Empty
 refine loop_up (fun k => ((⟨0, 0, [], []⟩ : S_Plate), (⟨(w : Int), (h : Int), row k (fun _ => row w fun _ => false), row k (fun _ => row w fun _ => false)⟩ : S_Plate), (k : Int))) h _ hh ?_ ?_
 ·intro loop k hk
  unfold f_R25_Empty_b1
  simp only []
  rw [cd_pos (by omega), G_pos (by omega), G_room (by rw [row_len]; omega), G_room (by rw [row_len]; omega), G_inR (by omega), Int.toNat_natCast, row_rep, row_snoc k (fun _ => row w fun _ => false), natAdd1]
 ·intro loop
  unfold f_R25_Empty_b1
  simp only []
  rw [cd_neg (by omega)]
  rfl
theorem r_turned (w h : Nat) (u v : Nat → Nat → Bool) (hw : w < 900000) (hh : h < 900000) : f_R25_Turned (PL w h u v) = some (PL w h (fun y x => v y (w - 1 - x)) (fun y x => u y (w - 1 - x))) := by
 unfold f_R25_Turned
 rw [show (PL w h u v).W = (w : Int) from rfl, show (PL w h u v).H = (h : Int) from rfl, r_empty w h hw hh, Option.bind_some]
 rw [show PL w h (fun _ _ => false) (fun _ _ => false) = PL w h (upto 0 0 fun y x => v y (w - 1 - x)) (upto 0 0 fun y x => u y (w - 1 - x)) from PL_congr (fun y x _ _ => by simp [upto]) (fun y x _ _ => by simp [upto])]
 refine loop_up (fun k => (PL w h u v, (⟨0, 0, [], []⟩ : S_Plate), PL w h (upto k 0 fun y x => v y (w - 1 - x)) (upto k 0 fun y x => u y (w - 1 - x)), (k : Int))) h _ hh ?_ ?_
 ·intro loop k hk
  unfold f_R25_Turned_b2
  rw [cd_pos (show (k : Int) < (h : Int) by omega)]
  refine loop_up (fun j => (PL w h u v, (⟨0, 0, [], []⟩ : S_Plate), PL w h (upto k j fun y x => v y (w - 1 - x)) (upto k j fun y x => u y (w - 1 - x)), (j : Int))) w _ hw ?_ ?_
  ·intro loop2 j hj
   unfold f_R25_Turned_b1
   simp only [PL, Int.toNat_natCast, natSub1 w j hj, mat_len]
   rw [cd_pos (by omega), G_pos (by omega), G_pos (by omega), G_inR (by omega), G_inR (by omega), mat_row h w v k hk, mat_row h w u k hk, row_len, row_len, mat_row h w (upto k j _) k hk, mat_row h w (upto k j _) k hk, row_len, row_len,
    G_pos (by omega), G_pos (by omega), G_pos (by omega), G_pos (by omega), G_pos (by omega), G_pos (by omega), G_inR (by omega), row_get _ _ _ _ (by omega), row_get _ _ _ _ (by omega),
    ← mat_row h w _ k hk, ← mat_row h w _ k hk, mat_uptoS _ _ _ _ _ _ hk rfl, mat_uptoS _ _ _ _ _ _ hk rfl, natAdd1]
  ·intro loop2
   unfold f_R25_Turned_b1
   simp only [PL]
   rw [cd_neg (by omega), G_inR (by omega), mat_uptoE, mat_uptoE, natAdd1]
 ·intro loop
  unfold f_R25_Turned_b2
  simp only [PL]
  rw [cd_neg (by omega), mat_uptoH, mat_uptoH]
def bit (c : Int) (k : Nat) : Bool := (bAnd .u8 (bShr .u8 c (k : Int)) 1) == 1
def cellU (f : Nat → Bool) : Nat → Int
 | 0 => 0
 | k + 1 => cellU f k + (if f k then ((2 ^ k : Nat) : Int) else 0)
def cellOf (f : Nat → Bool) : Int := cellU f 6
theorem cellU_congr {f g : Nat → Bool} : ∀ (n : Nat), (∀ k, k < n → f k = g k) → cellU f n = cellU g n
 | 0, _ => rfl
 | n + 1, h => by
  unfold cellU
  rw [cellU_congr n (fun k hk => h k (by omega)), h n (by omega)]
theorem bits6 (P : (Nat → Bool) → Prop) (hc : ∀ f g : Nat → Bool, (∀ k, k < 6 → f k = g k) → P f → P g)
  (h : ∀ a b c d e i : Bool, P (fun k => [a, b, c, d, e, i].getD k false)) (f : Nat → Bool) : P f := by
 refine hc _ f ?_ (h (f 0) (f 1) (f 2) (f 3) (f 4) (f 5))
 intro k hk
 match k, hk with
 | 0, _ => rfl
 | 1, _ => rfl
 | 2, _ => rfl
 | 3, _ => rfl
 | 4, _ => rfl
 | 5, _ => rfl
theorem bit_tab : ∀ a b c d e i : Bool, (List.range 6).all (fun k => bit (cellOf (fun k => [a, b, c, d, e, i].getD k false)) k == [a, b, c, d, e, i].getD k false) = true := by
 intro a b c d e i
 cases a <;> cases b <;> cases c <;> cases d <;> cases e <;> cases i <;> kernel_rfl
theorem bit_cellOf (f : Nat → Bool) (k : Nat) (hk : k < 6) : bit (cellOf f) k = f k := by
 revert k
 refine bits6 (fun f => ∀ k, k < 6 → bit (cellOf f) k = f k) ?_ ?_ f
 ·intro f g e h k hk
  rw [← e k hk, ← h k hk, cellOf, cellOf, cellU_congr 6 (fun k hk => (e k hk).symm)]
 ·intro a b c d e i k hk
  have := List.all_eq_true.1 (bit_tab a b c d e i) k (List.mem_range.2 hk)
  simpa using this
theorem or_tab : ∀ a b c d e i : Bool, (List.range 6).all (fun k => ([a, b, c, d, e, i].getD k false == false) || (bOr .u8 (cellU (fun k => [a, b, c, d, e, i].getD k false) k) (bShl .u8 1 (k : Int)) == cellU (fun k => [a, b, c, d, e, i].getD k false) (k + 1) && IntKind.wrap .u8 (cellU (fun k => [a, b, c, d, e, i].getD k false) k + (bShl .u8 1 (k : Int))) == cellU (fun k => [a, b, c, d, e, i].getD k false) (k + 1))) = true := by
 intro a b c d e i
 cases a <;> cases b <;> cases c <;> cases d <;> cases e <;> cases i <;> kernel_rfl
theorem cellU_step (f : Nat → Bool) (k : Nat) (hk : k < 6) (hf : f k = true) : bOr .u8 (cellU f k) (bShl .u8 1 (k : Int)) = cellU f (k + 1) ∧ IntKind.wrap .u8 (cellU f k + (bShl .u8 1 (k : Int))) = cellU f (k + 1) := by
 revert k
 refine bits6 (fun f => ∀ k, k < 6 → f k = true → bOr .u8 (cellU f k) (bShl .u8 1 (k : Int)) = cellU f (k + 1) ∧ IntKind.wrap .u8 (cellU f k + (bShl .u8 1 (k : Int))) = cellU f (k + 1)) ?_ ?_ f
 ·intro f g e h k hk hg
  rw [← cellU_congr k (fun i hi => e i (by omega)), ← cellU_congr (k + 1) (fun i hi => e i (by omega))]
  exact h k hk (by rw [e k hk]; exact hg)
 ·intro a b c d e i k hk hf
  have := List.all_eq_true.1 (or_tab a b c d e i) k (List.mem_range.2 hk)
  simp only [] at hf
  rw [hf] at this
  simpa using this
theorem cell_tab : (List.range 64).all (fun c => cellOf (bit (c : Int)) == (c : Int)) = true := by kernel_rfl
theorem cellOf_bit (c : Int) (h : 0 ≤ c ∧ c < 64) : cellOf (bit c) = c := by
 obtain ⟨n, rfl⟩ := nat_of h.1
 have := List.all_eq_true.1 cell_tab n (List.mem_range.2 (by omega))
 simpa using this
theorem cellOf_range (f : Nat → Bool) : 0 ≤ cellOf f ∧ cellOf f < 64 := by
 simp only [cellOf, cellU]
 repeat' split
 all_goals simp
theorem bit_zero_tab : (List.range 6).all (fun k => bit 0 k == false) = true := by kernel_rfl
theorem bit_zero (k : Nat) (hk : k < 6) : bit 0 k = false := by
 have := List.all_eq_true.1 bit_zero_tab k (List.mem_range.2 hk)
 simpa using this
end Go.Proofs.YtbcfmhoaocifoaaDoor
