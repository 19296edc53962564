/- Own work. -/
import Derived.Test.YtbcfmhoaocifoaaDoorP25a
set_option linter.unusedSimpArgs false
set_option linter.unusedVariables false
namespace Go.Proofs.YtbcfmhoaocifoaaDoor
open Go.Abs
theorem loop_all {b : (Int → Option Bool) → Int → Option Bool} (n : Nat) (P : Nat → Prop) [DecidablePred P] (hn : n < 900000)
  (h : ∀ (loop : Int → Option Bool) (k : Nat), k < n → b loop (k : Int) = if P k then loop ((k + 1 : Nat) : Int) else some false)
  (h0 : ∀ (loop : Int → Option Bool), b loop (n : Int) = some true) : iter b 1000000 (0 : Int) = some (decide (∀ k, k < n → P k)) := by
 have := iter_ind (b := b) (fun s => ∃ k : Nat, s = (k : Int) ∧ k ≤ n) (fun s => n - s.toNat) (fun s => some (decide (∀ k, k < n → s.toNat ≤ k → P k))) (fun loop s hs ih => by
  obtain ⟨k, rfl, hk⟩ := hs
  by_cases hkn : k = n
  ·subst hkn
   rw [h0, decide_eq_true (fun i h1 h2 => absurd h1 (by omega))]
  ·rw [h loop k (by omega)]
   by_cases hp : P k
   ·rw [if_pos hp, ih _ ⟨k + 1, rfl, by omega⟩ (by omega)]
    congr 1
    rw [decide_eq_decide]
    constructor
    ·intro hx i h2 h1
     by_cases hik : i = k
     ·subst hik; exact hp
     ·exact hx i h2 (by omega)
    ·intro hx i h2 h1
     exact hx i h2 (by omega)
   ·rw [if_neg hp, decide_eq_false (fun hx => hp (hx k (by omega) (by omega)))]) 1000000 0 ⟨0, rfl, by omega⟩ (by omega)
 rw [this]
 simp
def rowsOk {α : Type} (d : List (List α)) (w : Int) : Prop := ∀ k, k < d.length → ((d.getD k []).length : Int) = w
instance {α : Type} (d : List (List α)) (w : Int) : Decidable (rowsOk d w) := inferInstanceAs (Decidable (∀ k, k < d.length → ((d.getD k []).length : Int) = w))
theorem s_filled (d : List (List Bool)) (w h : Int) (hd : d.length < 900000) : Y3m d w h = some (decide ((d.length : Int) = h ∧ rowsOk d w)) := by
 unfold Y3m
 by_cases hh : (d.length : Int) = h
 ·rw [cn_neg hh, loop_all d.length (fun k => ((d.getD k []).length : Int) = w) hd]
  ·congr 1
   rw [decide_eq_decide]
   exact ⟨fun hx => ⟨hh, hx⟩, fun hx => hx.2⟩
  ·intro loop k hk
   unfold Y2s
   rw [Y09 (by omega), Yw (by omega), X5]
   by_cases hw : ((d.getD k []).length : Int) = w
   ·rw [cn_neg hw, Yx (by omega), if_pos hw, Y11]
   ·rw [cn_pos hw, if_neg hw]
  ·intro loop
   unfold Y2s
   rw [Y0b (by omega)]
 ·rw [cn_pos hh, decide_eq_false (fun hx => hh hx.1)]
theorem r_rows (d : List (List Bool)) (w h : Int) (hd : d.length < 900000) : f_R25_rows d w h = some (decide ((d.length : Int) = h ∧ rowsOk d w)) := by
 unfold f_R25_rows
 by_cases hh : (d.length : Int) = h
 ·rw [cn_neg hh, loop_all d.length (fun k => ((d.getD k []).length : Int) = w) hd]
  ·congr 1
   rw [decide_eq_decide]
   exact ⟨fun hx => ⟨hh, hx⟩, fun hx => hx.2⟩
  ·intro loop k hk
   unfold f_R25_rows_b1
   rw [Y09 (by omega), Yw (by omega), X5]
   by_cases hw : ((d.getD k []).length : Int) = w
   ·rw [cn_neg hw, Yx (by omega), if_pos hw, Y11]
   ·rw [cn_pos hw, if_neg hw]
  ·intro loop
   unfold f_R25_rows_b1
   rw [Y0b (by omega)]
 ·rw [cn_pos hh, decide_eq_false (fun hx => hh hx.1)]
def vsz (W H : Int) : Bool := !((Int.tmod W 2 != 0) || decide (Int.tdiv W 2 < 24) || decide (60 < Int.tdiv W 2)) && !((Int.tmod H 3 != 0) || decide (Int.tdiv H 3 < 4) || decide (40 < Int.tdiv H 3))
def vpl (p : Y4) : Bool := vsz p.W p.H && (decide ((p.Up.length : Int) = p.H ∧ rowsOk p.Up p.W) && decide ((p.Down.length : Int) = p.H ∧ rowsOk p.Down p.W))
theorem tdiv_in {n q : Int} (h : -4611686018427387904 ≤ n ∧ n ≤ 4611686018427387904) : -9223372036854775808 ≤ Int.tdiv n q ∧ Int.tdiv n q ≤ 9223372036854775807 := by
 have := Int.natAbs_tdiv_le_natAbs n q
 omega
def small (n : Int) : Prop := -4611686018427387904 ≤ n ∧ n ≤ 4611686018427387904
theorem s_valid (p : Y4) (hW : small p.W) (hH : small p.H) (hu : p.Up.length < 900000) (hd : p.Down.length < 900000) : Y0h p = some (vpl p) := by
 unfold Y0h vpl vsz
 rw [cI_pos (inR_of (tdiv_in hW)), cI_pos (inR_of (tdiv_in hW)), cI_pos (inR_of (tdiv_in hH)), cI_pos (inR_of (tdiv_in hH)), s_filled _ _ _ hu, s_filled _ _ _ hd]
 generalize decide ((p.Up.length : Int) = p.H ∧ rowsOk p.Up p.W) = a
 generalize decide ((p.Down.length : Int) = p.H ∧ rowsOk p.Down p.W) = b
 generalize (Int.tmod p.W 2 != 0) = c
 generalize decide (Int.tdiv p.W 2 < 24) = d
 generalize decide (60 < Int.tdiv p.W 2) = e
 generalize (Int.tmod p.H 3 != 0) = f
 generalize decide (Int.tdiv p.H 3 < 4) = g
 generalize decide (40 < Int.tdiv p.H 3) = i
 cases a <;> cases b <;> cases c <;> cases d <;> cases e <;> cases f <;> cases g <;> cases i <;> rfl
theorem r_valid (p : Y4) (hW : small p.W) (hH : small p.H) (hu : p.Up.length < 900000) (hd : p.Down.length < 900000) : Y46 p = some (vpl p) := by
 unfold Y46 vpl vsz
 rw [cI_pos (inR_of (tdiv_in hW)), cI_pos (inR_of (tdiv_in hW)), cI_pos (inR_of (tdiv_in hH)), cI_pos (inR_of (tdiv_in hH)), r_rows _ _ _ hu, r_rows _ _ _ hd]
 generalize decide ((p.Up.length : Int) = p.H ∧ rowsOk p.Up p.W) = a
 generalize decide ((p.Down.length : Int) = p.H ∧ rowsOk p.Down p.W) = b
 generalize (Int.tmod p.W 2 != 0) = c
 generalize decide (Int.tdiv p.W 2 < 24) = d
 generalize decide (60 < Int.tdiv p.W 2) = e
 generalize (Int.tmod p.H 3 != 0) = f
 generalize decide (Int.tdiv p.H 3 < 4) = g
 generalize decide (40 < Int.tdiv p.H 3) = i
 cases a <;> cases b <;> cases c <;> cases d <;> cases e <;> cases f <;> cases g <;> cases i <;> rfl
end Go.Proofs.YtbcfmhoaocifoaaDoor
