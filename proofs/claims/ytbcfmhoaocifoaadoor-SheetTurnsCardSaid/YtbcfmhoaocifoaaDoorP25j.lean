/-
  Own work. Chapter 25, plain part: plates with some dots; the law SheetPlates.
-/
import Derived.Test.YtbcfmhoaocifoaaDoorP25i
set_option linter.unusedSimpArgs false
set_option linter.unusedVariables false
set_option maxRecDepth 10000
set_option linter.unusedSimpArgs false
set_option linter.unusedVariables false
namespace Go.Proofs.YtbcfmhoaocifoaaDoor
open Go.Abs
theorem ok3 {t1 : List (List Int)} (k : okList (okArr 3 (okInt .u8)) t1) (i j : Nat) (hi : i < t1.length) (hj : j < 3) : 0 ≤ (t1.getD i (List.replicate 3 (0 : Int))).getD j 0 ∧ (t1.getD i (List.replicate 3 (0 : Int))).getD j 0 ≤ 255 := by
  have h1 := k.1 _ (getD_in t1 i (List.replicate 3 (0 : Int)) hi)
  exact h1.1 _ (getD_in _ j 0 (by rw [h1.2]; exact hj))
theorem tmodN (a : Int) (n : Nat) (h : 0 ≤ a) (hn : 0 < n) : ∃ m : Nat, Int.tmod a (n : Int) = (m : Int) ∧ m < n := by
  obtain ⟨b, rfl⟩ := nat_of h
  exact ⟨b % n, by rw [Int.tmod_eq_emod_of_nonneg (by omega)]; rfl, Nat.mod_lt _ hn⟩
theorem r_plate {t0 : S_Raw} (k : okS_Raw t0) (t1 : List (List Int)) (k1 : okList (okArr 3 (okInt .u8)) t1) : ∃ u v, f_R25_Plate t0 t1 = some (PL (2 * fW t0) (3 * fH t0) u v) := by
  have hw := fW_in t0
  have hh := fH_in t0
  unfold f_R25_Plate
  rw [r_format k, Option.bind_some]
  dsimp only
  rw [show (2 : Int) * (fW t0 : Int) = ((2 * fW t0 : Nat) : Int) by omega, show (3 : Int) * (fH t0 : Int) = ((3 * fH t0 : Nat) : Int) by omega, G_inR (by omega), G_inR (by omega), r_empty _ _ (by omega) (by omega), Option.bind_some]
  have hW0 : 0 < 2 * fW t0 := by omega
  have hH0 : 0 < 3 * fH t0 := by omega
  generalize 2 * fW t0 = W at *
  generalize 3 * fH t0 = H at *
  have key := WP.iter (b := fun loop (s : S_Plate × S_Plate × Int) => f_R25_Plate_b1 t1 loop s.1 s.2.1 s.2.2) (Q := fun p => ∃ u v, p = PL W H u v) (fun s => (∃ u v, s.2.1 = PL W H u v) ∧ ∃ i : Nat, s.2.2 = (i : Int) ∧ i ≤ 40) (fun s => 40 - s.2.2.toNat) (fun loop s hs ih => by
    obtain ⟨v5, v6, v7⟩ := s
    obtain ⟨⟨u, v, hv6⟩, i, hv7, hi⟩ := hs
    dsimp only at hv6 hv7
    subst hv6
    subst hv7
    unfold f_R25_Plate_b1 f_R25_Plate_k1
    rw [and_tt]
    cases hc : (decide ((i : Int) < (t1.length : Int)) && decide ((i : Int) < 40)) with
    | false =>
      rw [cond_neg rfl]
      exact WP.some ⟨u, v, rfl⟩
    | true =>
      rw [Bool.and_eq_true] at hc
      have c1 := of_decide_eq_true hc.1
      have c2 := of_decide_eq_true hc.2
      have o0 := ok3 k1 i 0 (by omega) (by omega)
      have o1 := ok3 k1 i 1 (by omega) (by omega)
      dsimp only
      rw [cond_pos rfl, G_pos (by omega), G_pos (show ((H : Nat) : Int) ≠ 0 by omega), G_pos (show ((W : Nat) : Int) ≠ 0 by omega), Int.toNat_natCast]
      generalize (t1.getD i (List.replicate 3 (0 : Int))).getD 0 0 = a0 at *
      generalize (t1.getD i (List.replicate 3 (0 : Int))).getD 1 0 = a1 at *
      rw [wrap_i64 (by omega), wrap_i64 (by omega)]
      obtain ⟨y, hy, hy'⟩ := tmodN a1 H (by omega) hH0
      obtain ⟨x, hx, hx'⟩ := tmodN a0 W (by omega) hW0
      dsimp only [PL]
      rw [hy, hx, Int.toNat_natCast, Int.toNat_natCast, mat_len, mat_len, mat_row _ _ _ _ hy', mat_row _ _ _ _ hy', row_len, row_len, ← mat_row H W _ y hy', ← mat_row H W _ y hy', mat_set _ _ _ _ _ _ hy', mat_set _ _ _ _ _ _ hy']
      refine WP.cond (fun _ => ?_) (fun _ => ?_)
      · rw [G_pos (by omega), G_pos (by omega), G_inR (by omega), natAdd1]
        exact ih _ ⟨⟨_, _, rfl⟩, i + 1, rfl, by omega⟩ (by simp; omega)
      · rw [G_pos (by omega), G_pos (by omega), G_inR (by omega), natAdd1]
        exact ih _ ⟨⟨_, _, rfl⟩, i + 1, rfl, by omega⟩ (by simp; omega)) 1000000 ((⟨0, 0, [], []⟩ : S_Plate), PL W H (fun _ _ => false) (fun _ _ => false), 0) ⟨⟨_, _, rfl⟩, 0, rfl, by omega⟩ (by simp)
  obtain ⟨p, e, u, v, rfl⟩ := key
  exact ⟨u, v, e⟩
def rev (W : Nat) (v : Nat → Nat → Bool) : Nat → Nat → Bool := fun y x => v y (W - 1 - x)
theorem front_PL (w h : Nat) (u v : Nat → Nat → Bool) (hw : 24 ≤ w ∧ w ≤ 60) (hh : 4 ≤ h ∧ h ≤ 40) : f_sheet_Front (PL (2 * w) (3 * h) u v) = some (pageOf u w h) := by
  rw [s_front _ _ _ _ (okWH_of w h hw hh), show 2 * w / 2 = w by omega, show 3 * h / 3 = h by omega]
theorem back_PL (w h : Nat) (u v : Nat → Nat → Bool) (hw : 24 ≤ w ∧ w ≤ 60) (hh : 4 ≤ h ∧ h ≤ 40) : f_sheet_Back (PL (2 * w) (3 * h) u v) = some (pageOf (rev (2 * w) v) w h) := by
  rw [s_back _ _ _ _ (okWH_of w h hw hh), show 2 * w / 2 = w by omega, show 3 * h / 3 = h by omega]
  rfl
end Go.Proofs.YtbcfmhoaocifoaaDoor
