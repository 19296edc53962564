/-
 Own work. Chapter 25, plain part: the reference's pages; leaves of plates.
-/
import Derived.Test.YtbcfmhoaocifoaaDoorP25k
import Derived.Test.YtbcfmhoaocifoaaDoorPH
set_option linter.unusedSimpArgs false
set_option linter.unusedVariables false
set_option maxRecDepth 10000
set_option linter.unusedSimpArgs false
set_option linter.unusedVariables false
namespace Go.Proofs.YtbcfmhoaocifoaaDoor
open Go.Abs
def rh (l : List Int) : S_Header × Int := (f_number_ReadHeader l).getD (zeroH, 0)
theorem rh_both (l : List Int) (hl : l.length < 900000) : f_number_ReadHeader l = some (rh l) ∧ f_R19_ReadHeader l = some (rh l) := by
 obtain ⟨x, a, b⟩ := hs_eq l hl
 unfold rh
 rw [a]
 exact ⟨rfl, b⟩
theorem rh_hd (h : S_Header) (k : okH h) : rh (hd h) = (h, 0) := by
 have hl : (hd h).length < 900000 := by
  rw [hd_len h k]
  have := k.1
  omega
 rcases n_hs (hd h) hl with ⟨h', k', e, f⟩ | ⟨_, f⟩
 ·unfold rh
  rw [f, hd_inj h' h k' k e]
  rfl
 ·exact absurd rfl (f h k)
def headP (p : List (List Int)) (w : Int) : S_Header × Bool := if p.length = 0 then (zeroH, false) else ((rh (p.getD 0 [])).1, (rh (p.getD 0 [])).2 == 0 && (rh (p.getD 0 [])).1.Width == w)
theorem s_header (p : List (List Int)) (w : Int) (h : shortP p) : f_sheet_header p w = some (headP p w) := by
 unfold f_sheet_header headP
 by_cases e : p.length = 0
 ·rw [cb_pos (by omega), if_pos e]
  rfl
 ·rw [cb_neg (by omega), if_neg e, G_pos (by omega), show (0 : Int).toNat = 0 from rfl, (rh_both _ (h.2 0)).1, Option.bind_some, and_tt]
def zLeaf : S_Leaf := ⟨⟨0, 0⟩, [], []⟩
def sameL (a b : S_Label) : Bool := [a.N == b.N, a.K == b.K].all id
def badL (f b : List (List Int)) (w : Int) : Bool := !(headP f w).2 || (headP f w).1.Back || (decide ((0 : Int) < (b.length : Int)) && (!(headP b w).2 || !(headP b w).1.Back || !(sameL (headP b w).1.Label (headP f w).1.Label)))
def leafP (f b : List (List Int)) (w : Int) : S_Leaf × Int := if badL f b w then (zLeaf, 250) else (⟨(headP f w).1.Label, f, b⟩, 0)
theorem s_leaf (W H : Nat) (u v : Nat → Nat → Bool) (h : okWH W H) : f_sheet_Leaf (PL W H u v) = some (leafP (pageOf u (W / 2) (H / 3)) (pageOf (rev W v) (W / 2) (H / 3)) ((W / 2 : Nat) : Int)) := by
 have hh := h
 obtain ⟨a, b, c, d, e, f⟩ := hh
 have e1 : Int.tdiv (W : Int) 2 = ((W / 2 : Nat) : Int) := by rw [Int.tdiv_eq_ediv_of_nonneg (by omega)]; omega
 have k1 := s_header (pageOf u (W / 2) (H / 3)) ((W / 2 : Nat) : Int) (pageOf_short _ _ _ (by omega) (by omega))
 have k2 := s_header (pageOf (rev W v) (W / 2) (H / 3)) ((W / 2 : Nat) : Int) (pageOf_short _ _ _ (by omega) (by omega))
 unfold f_sheet_Leaf f_sheet_Leaf_k1
 rw [s_validPL W H u v h, Option.bind_some, Bool.not_true, cond_false, s_front W H u v h, Option.bind_some, s_back W H u v h, Option.bind_some, show (PL W H u v).W = (W : Int) from rfl, e1, G_inR (by omega), show pageOf (fun y x => v y (W - 1 - x)) (W / 2) (H / 3) = pageOf (rev W v) (W / 2) (H / 3) from rfl, k1, Option.bind_some, k2, Option.bind_some]
 unfold leafP badL sameL zLeaf
 try dsimp only
 generalize pageOf u (W / 2) (H / 3) = p
 generalize pageOf (rev W v) (W / 2) (H / 3) = q
 generalize headP p ((W / 2 : Nat) : Int) = x
 generalize headP q ((W / 2 : Nat) : Int) = y
 generalize ([y.1.Label.N == x.1.Label.N, y.1.Label.K == x.1.Label.K].all id) = s
 generalize decide ((0 : Int) < (q.length : Int)) = t
 obtain ⟨x1, x2⟩ := x
 obtain ⟨y1, y2⟩ := y
 dsimp only
 generalize hb : x1.Back = xb
 generalize y1.Back = yb
 cases x2 <;> cases xb <;> cases t <;> cases y2 <;> cases yb <;> cases s <;> rfl
theorem sameL_iff (a b : S_Label) : sameL a b = decide (a = b) := by
 obtain ⟨n, k⟩ := a
 obtain ⟨n', k'⟩ := b
 rw [Bool.eq_iff_iff]
 simp [sameL]
theorem r_sameLeaf (a b : S_Leaf) (h : shortLeaf a) : f_R25_Same a b = some (decide (a = b)) := by
 have e : a = b ↔ a.Label = b.Label ∧ a.Front = b.Front ∧ a.Back = b.Back := by
  cases a
  cases b
  simp
 unfold f_R25_Same
 rw [r_samePage _ _ h.1, r_samePage _ _ h.2, show [a.Label.N == b.Label.N, a.Label.K == b.Label.K].all id = decide (a.Label = b.Label) from sameL_iff _ _]
 have : decide (a = b) = (decide (a.Label = b.Label) && decide (a.Front = b.Front) && decide (a.Back = b.Back)) := by
  rw [Bool.eq_iff_iff]
  simp only [decide_eq_true_eq, Bool.and_eq_true, e, and_assoc]
 rw [this]
 generalize decide (a.Label = b.Label) = x
 generalize decide (a.Front = b.Front) = y
 generalize decide (a.Back = b.Back) = z
 cases x <;> cases y <;> cases z <;> rfl
theorem leafP_short (f b : List (List Int)) (w : Int) (h1 : shortP f) (h2 : shortP b) : shortLeaf (leafP f b w).1 := by
 have z : shortP [] := ⟨by simp, fun i => by simp⟩
 unfold leafP
 split
 ·exact ⟨z, z⟩
 ·exact ⟨h1, h2⟩
end Go.Proofs.YtbcfmhoaocifoaaDoor
