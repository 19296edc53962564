/- Own work. -/
import Derived.Test.YtbcfmhoaocifoaaDoorP25c
set_option linter.unusedSimpArgs false
set_option linter.unusedVariables false
set_option maxRecDepth 10000
namespace Go.Proofs.YtbcfmhoaocifoaaDoor
open Go.Abs
abbrev PL (w h : Nat) (u v : Nat → Nat → Bool) : Y4 := ⟨(w : Int), (h : Int), mat h w u, mat h w v⟩
theorem PL_congr {w h : Nat} {u v u' v' : Nat → Nat → Bool} (e : ∀ y x, y < h → x < w → u y x = u' y x) (e' : ∀ y x, y < h → x < w → v y x = v' y x) : PL w h u v = PL w h u' v' := by
 unfold PL
 rw [mat_congr e, mat_congr e']
theorem natSub1 (w j : Nat) (h : j < w) : (((w : Int) - 1 - (j : Int))).toNat = w - 1 - j := by omega
def upto (k j : Nat) (f : Nat → Nat → Bool) : Nat → Nat → Bool := fun y x => if y < k ∨ (y = k ∧ x < j) then f y x else false
theorem mat_uptoE (h w k : Nat) (f : Nat → Nat → Bool) : mat h w (upto k w f) = mat h w (upto (k + 1) 0 f) := mat_congr fun y x hy hx => by
 unfold upto
 congr 1
 exact propext ⟨fun a => by omega, fun a => by omega⟩
theorem mat_uptoH (h w : Nat) (f : Nat → Nat → Bool) : mat h w (upto h 0 f) = mat h w f := mat_congr fun y x hy hx => by simp [upto, hy]
theorem mat_uptoS (h w k j : Nat) (f : Nat → Nat → Bool) (v : Bool) (hk : k < h) (hv : v = f k j) : (mat h w (upto k j f)).set k (((mat h w (upto k j f)).getD k []).set j v) = mat h w (upto k (j + 1) f) := by
 rw [mat_set _ _ _ _ _ _ hk]
 apply mat_congr
 intro y x hy hx
 subst hv
 unfold upto
 by_cases e : y = k ∧ x = j
 ·rw [if_pos e, if_pos (by omega), e.1, e.2]
 ·rw [if_neg e]
  congr 1
  exact propext ⟨fun a => by omega, fun a => by omega⟩
def uptoR (w k j : Nat) (f : Nat → Nat → Bool) : Nat → Nat → Bool := fun y x => if y < k ∨ (y = k ∧ w - 1 - x < j) then f y x else false
theorem mat_uptoRE (h w k : Nat) (f : Nat → Nat → Bool) : mat h w (uptoR w k w f) = mat h w (uptoR w (k + 1) 0 f) := mat_congr fun y x hy hx => by
 unfold uptoR
 congr 1
 exact propext ⟨fun a => by omega, fun a => by omega⟩
theorem mat_uptoRH (h w : Nat) (f : Nat → Nat → Bool) : mat h w (uptoR w h 0 f) = mat h w f := mat_congr fun y x hy hx => by simp [uptoR, hy]
theorem mat_uptoRS (h w k j : Nat) (f : Nat → Nat → Bool) (v : Bool) (hk : k < h) (hj : j < w) (hv : v = f k (w - 1 - j)) : (mat h w (uptoR w k j f)).set k (((mat h w (uptoR w k j f)).getD k []).set (w - 1 - j) v) = mat h w (uptoR w k (j + 1) f) := by
 rw [mat_set _ _ _ _ _ _ hk]
 apply mat_congr
 intro y x hy hx
 subst hv
 unfold uptoR
 by_cases e : y = k ∧ x = w - 1 - j
 ·rw [if_pos e, if_pos (by omega), e.1, e.2]
 ·rw [if_neg e]
  congr 1
  exact propext ⟨fun a => by omega, fun a => by omega⟩
theorem r_empty (w h : Nat) (hw : w < 900000) (hh : h < 900000) : Y1u (w : Int) (h : Int) = some (PL w h (fun _ _ => false) (fun _ _ => false)) := by
 unfold Y1u
 refine Y36 (fun k => ((⟨0, 0, [], []⟩ : Y4), (⟨(w : Int), (h : Int), row k (fun _ => row w fun _ => false), row k (fun _ => row w fun _ => false)⟩ : Y4), (k : Int))) h _ hh ?_ ?_
 ·intro loop k hk
  unfold Y52
  simp only []
  rw [Y09 (by omega), Yw (by omega), Y4s (by rw [Y02]; omega), Y4s (by rw [Y02]; omega), Yx (by omega), X5, row_rep, row_snoc k (fun _ => row w fun _ => false), Y11]
 ·intro loop
  unfold Y52
  simp only []
  rw [Y0b (by omega)]
  rfl
theorem r_turned (w h : Nat) (u v : Nat → Nat → Bool) (hw : w < 900000) (hh : h < 900000) : Y20 (PL w h u v) = some (PL w h (fun y x => v y (w - 1 - x)) (fun y x => u y (w - 1 - x))) := by
 unfold Y20
 rw [show (PL w h u v).W = (w : Int) from rfl, show (PL w h u v).H = (h : Int) from rfl, r_empty w h hw hh, X8]
 rw [show PL w h (fun _ _ => false) (fun _ _ => false) = PL w h (upto 0 0 fun y x => v y (w - 1 - x)) (upto 0 0 fun y x => u y (w - 1 - x)) from PL_congr (fun y x _ _ => by simp [upto]) (fun y x _ _ => by simp [upto])]
 refine Y36 (fun k => (PL w h u v, (⟨0, 0, [], []⟩ : Y4), PL w h (upto k 0 fun y x => v y (w - 1 - x)) (upto k 0 fun y x => u y (w - 1 - x)), (k : Int))) h _ hh ?_ ?_
 ·intro loop k hk
  unfold Y47
  rw [Y09 (show (k : Int) < (h : Int) by omega)]
  refine Y36 (fun j => (PL w h u v, (⟨0, 0, [], []⟩ : Y4), PL w h (upto k j fun y x => v y (w - 1 - x)) (upto k j fun y x => u y (w - 1 - x)), (j : Int))) w _ hw ?_ ?_
  ·intro loop2 j hj
   unfold Y48
   simp only [PL, X5, natSub1 w j hj, Y12]
   rw [Y09 (by omega), Yw (by omega), Yw (by omega), Yx (by omega), Yx (by omega), Y1r h w v k hk, Y1r h w u k hk, Y02, Y02, Y1r h w (upto k j _) k hk, Y1r h w (upto k j _) k hk, Y02, Y02,
    Yw (by omega), Yw (by omega), Yw (by omega), Yw (by omega), Yw (by omega), Yw (by omega), Yx (by omega), Y4t _ _ _ _ (by omega), Y4t _ _ _ _ (by omega),
    ← Y1r h w _ k hk, ← Y1r h w _ k hk, mat_uptoS _ _ _ _ _ _ hk rfl, mat_uptoS _ _ _ _ _ _ hk rfl, Y11]
  ·intro loop2
   unfold Y48
   simp only [PL]
   rw [Y0b (by omega), Yx (by omega), mat_uptoE, mat_uptoE, Y11]
 ·intro loop
  unfold Y47
  simp only [PL]
  rw [Y0b (by omega), mat_uptoH, mat_uptoH]
def bit (c : Int) (k : Nat) : Bool := (bAnd .u8 (bShr .u8 c (k : Int)) 1) == 1
def cellU (f : Nat → Bool) : Nat → Int
 | 0 => 0
 | k + 1 => cellU f k + (if f k then ((2 ^ k : Nat) : Int) else 0)
def cellOf (f : Nat → Bool) : Int := cellU f 6
theorem cellU_congr {f g : Nat → Bool} : ∀ (n : Nat), (∀ k, k < n → f k = g k) → cellU f n = cellU g n
 | 0, _ => rfl
 | n + 1, h => by
  unfold cellU
  rw [cellU_congr n (fun k hk => h k (by omega)), h n (by omega)]
theorem bits6 (P : (Nat → Bool) → Prop) (hc : ∀ f g : Nat → Bool, (∀ k, k < 6 → f k = g k) → P f → P g)
  (h : ∀ a b c d e i : Bool, P (fun k => [a, b, c, d, e, i].getD k false)) (f : Nat → Bool) : P f := by
 refine hc _ f ?_ (h (f 0) (f 1) (f 2) (f 3) (f 4) (f 5))
 intro k hk
 match k, hk with
 | 0, _ => rfl
 | 1, _ => rfl
 | 2, _ => rfl
 | 3, _ => rfl
 | 4, _ => rfl
 | 5, _ => rfl
theorem or_tab : ∀ a b c d e i : Bool, (List.range 6).all (fun k => ([a, b, c, d, e, i].getD k false == false) || (bOr .u8 (cellU (fun k => [a, b, c, d, e, i].getD k false) k) (bShl .u8 1 (k : Int)) == cellU (fun k => [a, b, c, d, e, i].getD k false) (k + 1) && IntKind.wrap .u8 (cellU (fun k => [a, b, c, d, e, i].getD k false) k + (bShl .u8 1 (k : Int))) == cellU (fun k => [a, b, c, d, e, i].getD k false) (k + 1))) = true := by
 intro a b c d e i
 cases a <;> cases b <;> cases c <;> cases d <;> cases e <;> cases i <;> kernel_rfl
theorem cellU_step (f : Nat → Bool) (k : Nat) (hk : k < 6) (hf : f k = true) : bOr .u8 (cellU f k) (bShl .u8 1 (k : Int)) = cellU f (k + 1) ∧ IntKind.wrap .u8 (cellU f k + (bShl .u8 1 (k : Int))) = cellU f (k + 1) := by
 revert k
 refine bits6 (fun f => ∀ k, k < 6 → f k = true → bOr .u8 (cellU f k) (bShl .u8 1 (k : Int)) = cellU f (k + 1) ∧ IntKind.wrap .u8 (cellU f k + (bShl .u8 1 (k : Int))) = cellU f (k + 1)) ?_ ?_ f
 ·intro f g e h k hk hg
  rw [← cellU_congr k (fun i hi => e i (by omega)), ← cellU_congr (k + 1) (fun i hi => e i (by omega))]
  exact h k hk (by rw [e k hk]; exact hg)
 ·intro a b c d e i k hk hf
  have := X7.1 (or_tab a b c d e i) k (Xe.2 hk)
  simp only [] at hf
  rw [hf] at this
  simpa using this
end Go.Proofs.YtbcfmhoaocifoaaDoor
