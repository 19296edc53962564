/-
  Own work. Chapter 25, plain part: the dots are counted; the law SheetTurns.
-/
import Derived.Test.YtbcfmhoaocifoaaDoorP25j
set_option linter.unusedSimpArgs false
set_option linter.unusedVariables false
set_option maxRecDepth 10000
set_option linter.unusedSimpArgs false
set_option linter.unusedVariables false
namespace Go.Proofs.YtbcfmhoaocifoaaDoor
open Go.Abs
def sumN : Nat → (Nat → Int) → Int
  | 0, _ => 0
  | n + 1, f => sumN n f + f n
theorem sumN_congr {f g : Nat → Int} : ∀ (n : Nat), (∀ k, k < n → f k = g k) → sumN n f = sumN n g
  | 0, _ => rfl
  | n + 1, h => by rw [sumN, sumN, sumN_congr n (fun k hk => h k (by omega)), h n (by omega)]
theorem sumN_add (f g : Nat → Int) : ∀ n : Nat, sumN n (fun k => f k + g k) = sumN n f + sumN n g
  | 0 => rfl
  | n + 1 => by rw [sumN, sumN, sumN, sumN_add f g n]; omega
theorem sumN_bound {f : Nat → Int} (B : Int) (hB : 0 ≤ B) : ∀ (n : Nat), (∀ k, k < n → 0 ≤ f k ∧ f k ≤ B) → 0 ≤ sumN n f ∧ sumN n f ≤ n * B
  | 0, _ => by simp [sumN]
  | n + 1, h => by
    have a := sumN_bound B hB n (fun k hk => h k (by omega))
    have b := h n (by omega)
    rw [sumN]
    have : ((n + 1 : Nat) : Int) * B = n * B + B := by push_cast; rw [Int.add_mul, Int.one_mul]
    omega
theorem sumN_zero {f : Nat → Int} : ∀ (n : Nat), (∀ k, k < n → f k = 0) → sumN n f = 0
  | 0, _ => rfl
  | n + 1, h => by rw [sumN, sumN_zero n (fun k hk => h k (by omega)), h n (by omega)]; rfl
theorem sumN_trunc {f : Nat → Int} (m : Nat) : ∀ (n : Nat), m ≤ n → (∀ k, m ≤ k → k < n → f k = 0) → sumN n f = sumN m f
  | 0, h, _ => by rw [show m = 0 by omega]
  | n + 1, h, hz => by
    by_cases e : m = n + 1
    · rw [e]
    · rw [sumN, sumN_trunc m n (by omega) (fun k a b => hz k a (by omega)), hz n (by omega) (by omega), Int.add_zero]
theorem sumN_shift (f : Nat → Int) : ∀ n : Nat, sumN (n + 1) f = f 0 + sumN n (fun k => f (k + 1))
  | 0 => by simp [sumN]
  | n + 1 => by rw [sumN, sumN_shift f n, sumN]; omega
theorem sumN_rev (f : Nat → Int) : ∀ n : Nat, sumN n (fun k => f (n - 1 - k)) = sumN n f
  | 0 => rfl
  | n + 1 => by
    rw [sumN_shift]
    have := sumN_congr (f := fun k => f (n + 1 - 1 - (k + 1))) (g := fun k => f (n - 1 - k)) n (fun k hk => by
      show f _ = f _
      congr 1
      omega)
    rw [this, sumN_rev f n, sumN]
    simp
    omega
theorem sumN_two (f : Nat → Int) : ∀ n : Nat, sumN (2 * n) f = sumN n (fun c => f (2 * c) + f (2 * c + 1))
  | 0 => rfl
  | n + 1 => by rw [show 2 * (n + 1) = 2 * n + 1 + 1 by omega, sumN, sumN, sumN_two f n, sumN]; omega
theorem sumN_three (f : Nat → Int) : ∀ n : Nat, sumN (3 * n) f = sumN n (fun c => f (3 * c) + f (3 * c + 1) + f (3 * c + 2))
  | 0 => rfl
  | n + 1 => by rw [show 3 * (n + 1) = 3 * n + 1 + 1 + 1 by omega, sumN, sumN, sumN, sumN_three f n, sumN]; omega
def b01 (b : Bool) : Int := if b then 1 else 0
theorem b01_in (b : Bool) : 0 ≤ b01 b ∧ b01 b ≤ 1 := by cases b <;> decide
def cnt (c : Int) : Int := sumN 6 fun k => b01 (bit c k)
theorem cnt_in (c : Int) : 0 ≤ cnt c ∧ cnt c ≤ 6 := by
  have := sumN_bound (f := fun k => b01 (bit c k)) 1 (by omega) 6 (fun k _ => b01_in _)
  unfold cnt
  omega
theorem cnt_zero : cnt 0 = 0 := sumN_zero 6 fun k hk => by rw [bit_zero k hk]; rfl
theorem cnt_cells (u : Nat → Nat → Bool) (r c : Nat) : cnt (cells u r c) = b01 (u (3 * r) (2 * c)) + b01 (u (3 * r + 1) (2 * c)) + b01 (u (3 * r + 2) (2 * c)) + (b01 (u (3 * r) (2 * c + 1)) + b01 (u (3 * r + 1) (2 * c + 1)) + b01 (u (3 * r + 2) (2 * c + 1))) := by
  unfold cnt
  rw [sumN_congr (g := fun k => b01 (u (3 * r + k % 3) (2 * c + k / 3))) 6 (fun k hk => by rw [cells, bit_cellOf _ _ hk])]
  simp only [sumN]
  simp
  omega
theorem dots_cells (u : Nat → Nat → Bool) (w h : Nat) : sumN (3 * h) (fun y => sumN (2 * w) fun x => b01 (u y x)) = sumN h fun r => sumN w fun c => cnt (cells u r c) := by
  rw [sumN_three]
  apply sumN_congr
  intro r _
  rw [sumN_two, sumN_two, sumN_two, ← sumN_add, ← sumN_add]
  apply sumN_congr
  intro c _
  rw [cnt_cells]
  omega
def cntP (p : List (List Int)) : Int := sumN p.length fun r => sumN (p.getD r []).length fun c => cnt ((p.getD r []).getD c 0)
theorem cntP_pageOf (u : Nat → Nat → Bool) (w h : Nat) : cntP (pageOf u w h) = sumN (3 * h) fun y => sumN (2 * w) fun x => b01 (u y x) := by
  rw [dots_cells]
  unfold cntP
  have key : ∀ r c, (((pageOf u w h).getD r []).getD c 0) = cellAt (pageOf u w h) r c := fun _ _ => rfl
  rw [← sumN_trunc (f := fun r => sumN ((pageOf u w h).getD r []).length fun c => cnt (((pageOf u w h).getD r []).getD c 0)) (pageOf u w h).length h (pageOf_len u w h) (fun k a b => by rw [getD_nil _ k [] a]; rfl)]
  apply sumN_congr
  intro r hr
  have hl : ((pageOf u w h).getD r []).length ≤ w := by
    rw [pageOf_line, if_pos hr]
    exact lineOf_len _ _ _
  rw [← sumN_trunc (f := fun c => cnt (((pageOf u w h).getD r []).getD c 0)) ((pageOf u w h).getD r []).length w hl (fun k a b => by rw [getD_nil _ k 0 a, cnt_zero])]
  apply sumN_congr
  intro c hc
  rw [key, cellAt_pageOf, if_pos ⟨hr, hc⟩]
theorem r_distance (c : Int) : f_R01_Distance c 0 = some (cnt c) := by
  unfold f_R01_Distance
  have := loop_up (b := fun loop (s : Int × Int) => f_R01_Distance_b1 c 0 loop s.1 s.2) (fun k => (sumN k (fun k => b01 (bit c k)), ((k + 1 : Nat) : Int))) 6 (some (cnt c)) (by omega) (fun loop k hk => by
    have hb := sumN_bound (f := fun k => b01 (bit c k)) 1 (by omega) k (fun k _ => b01_in _)
    unfold f_R01_Distance_b1 f_R01_Distance_k1 f_R01_Has
    dsimp only
    rw [cd_pos (by omega), show ((k + 1 : Nat) : Int) - 1 = (k : Int) by omega, G_inR (by omega), G_pos (by omega), Option.bind_some, G_inR (by omega), G_pos (by omega), Option.bind_some]
    show cond (bit c k != bit 0 k) _ _ = _
    rw [bit_zero k hk, sumN, G_inR (by omega), natAdd1]
    cases hx : bit c k with
    | true => 
      rw [show (true != false) = true from rfl, cond_true, G_inR (by omega)]
      rfl
    | false => 
      rw [show (false != false) = false from rfl, cond_false, G_inR (by omega)]
      simp [b01]) (fun loop => by
    unfold f_R01_Distance_b1
    dsimp only
    rw [cd_neg (by omega)]
    rfl)
  exact this
theorem turn_count (W H : Nat) (u v : Nat → Nat → Bool) (hW : W ≤ 60) (hH : H ≤ 24) (p1 p2 : List (List Int)) (out : Option Bool)
    (h : iter (fun loop (s : Int × Int) => f_L25_SheetTurns_b4 true p1 p2 loop s.1 s.2) 1000000 (sumN H (fun y => sumN W fun x => b01 (u y x) + b01 (v y x)), 0) = out) :
    iter (fun loop (s : Int × Int) => f_L25_SheetTurns_b5 true (PL W H u v) p1 p2 loop s.1 s.2) 1000000 (0, 0) = out := by
  have hin : ∀ y n, n ≤ W → 0 ≤ sumN n (fun x => b01 (u y x) + b01 (v y x)) ∧ sumN n (fun x => b01 (u y x) + b01 (v y x)) ≤ 120 := by
    intro y n hn
    have := sumN_bound (f := fun x => b01 (u y x) + b01 (v y x)) 2 (by omega) n (fun k _ => by have := b01_in (u y k); have := b01_in (v y k); omega)
    omega
  have hout : ∀ n, n ≤ H → 0 ≤ sumN n (fun y => sumN W fun x => b01 (u y x) + b01 (v y x)) ∧ sumN n (fun y => sumN W fun x => b01 (u y x) + b01 (v y x)) ≤ 2880 := by
    intro n hn
    have := sumN_bound (f := fun y => sumN W fun x => b01 (u y x) + b01 (v y x)) 120 (by omega) n (fun k _ => hin k W (by omega))
    omega
  refine loop_up (fun y => (sumN y (fun y => sumN W fun x => b01 (u y x) + b01 (v y x)), (y : Int))) H _ (by omega) ?_ ?_
  · intro loop y hy
    have hb := hout y (by omega)
    unfold f_L25_SheetTurns_b5
    dsimp only
    rw [cd_pos (show (y : Int) < (H : Int) by omega)]
    have e0 : sumN y (fun y => sumN W fun x => b01 (u y x) + b01 (v y x)) = sumN y (fun y => sumN W fun x => b01 (u y x) + b01 (v y x)) + sumN 0 (fun x => b01 (u y x) + b01 (v y x)) := by simp [sumN]
    rw [e0]
    refine loop_up (fun x => (sumN y (fun y => sumN W fun x => b01 (u y x) + b01 (v y x)) + sumN x (fun x => b01 (u y x) + b01 (v y x)), (x : Int))) W _ (by omega) ?_ ?_
    · intro loop2 x hx
      have hc := hin y x (by omega)
      unfold f_L25_SheetTurns_b1 f_L25_SheetTurns_k2 f_L25_SheetTurns_k1
      dsimp only
      rw [Int.toNat_natCast, Int.toNat_natCast, cd_pos (show (x : Int) < (W : Int) by omega), mat_len, mat_len, G_pos (by omega), mat_row _ _ _ _ hy, mat_row _ _ _ _ hy, row_len, row_len, G_pos (by omega), row_get _ _ _ _ hx, row_get _ _ _ _ hx]
      generalize sumN y (fun y => sumN W fun x => b01 (u y x) + b01 (v y x)) = A at *
      rw [sumN, natAdd1]
      generalize sumN x (fun x => b01 (u y x) + b01 (v y x)) = B at *
      cases hu : u y x with
      | true =>
        rw [cond_true, G_inR (by omega), G_pos (by omega), G_pos (by omega)]
        cases hv : v y x with
        | true =>
          rw [cond_true, G_inR (by omega), G_inR (by omega), show A + B + 1 + 1 = A + (B + (b01 true + b01 true)) by simp [b01]; omega]
        | false =>
          rw [cond_false, G_inR (by omega), show A + B + 1 = A + (B + (b01 true + b01 false)) by simp [b01]; omega]
      | false =>
        rw [cond_false, G_pos (by omega), G_pos (by omega)]
        cases hv : v y x with
        | true =>
          rw [cond_true, G_inR (by omega), G_inR (by omega), show A + B + 1 = A + (B + (b01 false + b01 true)) by simp [b01]; omega]
        | false =>
          rw [cond_false, G_inR (by omega), show A + B = A + (B + (b01 false + b01 false)) by simp [b01]]
    · intro loop2
      unfold f_L25_SheetTurns_b1
      dsimp only
      rw [cd_neg (show ¬ (W : Int) < (W : Int) by omega), G_inR (by omega), natAdd1, sumN]
  · intro loop
    unfold f_L25_SheetTurns_b5
    dsimp only
    rw [cd_neg (show ¬ (H : Int) < (H : Int) by omega)]
    exact h
theorem turn_pages (p1 p2 : List (List Int)) (w h : Nat) (hw : w ≤ 30) (hh : h ≤ 8) (f1 : fitsP p1 w h) (f2 : fitsP p2 w h) (T : Int) (hT : 0 ≤ T ∧ T ≤ 2880) :
    iter (fun loop (s : Int × Int) => f_L25_SheetTurns_b4 true p1 p2 loop s.1 s.2) 1000000 (T, 0) = some (T - cntP p1 - cntP p2 == 0) := by
  have hf : ∀ i, i < 2 → fitsP ([p1, p2].getD i []) w h := by
    intro i hi
    match i, hi with
    | 0, _ => exact f1
    | 1, _ => exact f2
  have hbr : ∀ i, i < 2 → ∀ r, r < ([p1, p2].getD i []).length → ∀ n, n ≤ (([p1, p2].getD i []).getD r []).length → 0 ≤ sumN n (fun c => cnt ((([p1, p2].getD i []).getD r []).getD c 0)) ∧ sumN n (fun c => cnt ((([p1, p2].getD i []).getD r []).getD c 0)) ≤ 180 := by
    intro i hi r hr n hn
    have := sumN_bound (f := fun c => cnt ((([p1, p2].getD i []).getD r []).getD c 0)) 6 (by omega) n (fun k _ => cnt_in _)
    have := ((hf i hi).2.1 r hr).1
    omega
  have hbp : ∀ i, i < 2 → ∀ n, n ≤ ([p1, p2].getD i []).length → 0 ≤ sumN n (fun r => sumN (([p1, p2].getD i []).getD r []).length fun c => cnt ((([p1, p2].getD i []).getD r []).getD c 0)) ∧ sumN n (fun r => sumN (([p1, p2].getD i []).getD r []).length fun c => cnt ((([p1, p2].getD i []).getD r []).getD c 0)) ≤ 1440 := by
    intro i hi n hn
    have := sumN_bound (f := fun r => sumN (([p1, p2].getD i []).getD r []).length fun c => cnt ((([p1, p2].getD i []).getD r []).getD c 0)) 180 (by omega) n (fun k hk => hbr i hi k (by omega) _ (Nat.le_refl _))
    have := (hf i hi).1
    omega
  have hbs : ∀ n, n ≤ 2 → 0 ≤ sumN n (fun i => cntP ([p1, p2].getD i [])) ∧ sumN n (fun i => cntP ([p1, p2].getD i [])) ≤ 2880 := by
    intro n hn
    have := sumN_bound (f := fun i => cntP ([p1, p2].getD i [])) 1440 (by omega) n (fun k hk => hbp k (by omega) _ (Nat.le_refl _))
    omega
  have e0 : (T, (0 : Int)) = (T - sumN 0 (fun i => cntP ([p1, p2].getD i [])), (0 : Int)) := by simp [sumN]
  rw [e0]
  refine loop_up (fun i => (T - sumN i (fun i => cntP ([p1, p2].getD i [])), (i : Int))) 2 _ (by omega) ?_ ?_
  · intro loop i hi
    have b1 := hbs i (by omega)
    have hl := (hf i hi).1
    have b2 := hbp i hi
    have b3 := hbr i hi
    unfold f_L25_SheetTurns_b4
    dsimp only
    rw [Int.toNat_natCast, cd_pos (by omega), G_pos (by omega), G_pos (show [p1, p2].length = 2 from rfl), cd_neg (by omega), sumN]
    generalize sumN i (fun i => cntP ([p1, p2].getD i [])) = S at *
    have e1 : T - S = T - S - sumN 0 (fun r => sumN (([p1, p2].getD i []).getD r []).length fun c => cnt ((([p1, p2].getD i []).getD r []).getD c 0)) := by simp [sumN]
    rw [e1]
    refine loop_up (fun r => (T - S - sumN r (fun r => sumN (([p1, p2].getD i []).getD r []).length fun c => cnt ((([p1, p2].getD i []).getD r []).getD c 0)), (r : Int))) ([p1, p2].getD i []).length _ (by omega) ?_ ?_
    · intro loop2 r hr
      have b4 := b2 r (by omega)
      have b5 := b3 r hr
      have hlr := ((hf i hi).2.1 r hr).1
      unfold f_L25_SheetTurns_b3
      dsimp only
      rw [Int.toNat_natCast, cd_pos (by omega), sumN]
      generalize sumN r (fun r => sumN (([p1, p2].getD i []).getD r []).length fun c => cnt ((([p1, p2].getD i []).getD r []).getD c 0)) = R at *
      have e2 : T - S - R = T - S - R - sumN 0 (fun c => cnt ((([p1, p2].getD i []).getD r []).getD c 0)) := by simp [sumN]
      rw [e2]
      refine loop_up (fun c => (T - S - R - sumN c (fun c => cnt ((([p1, p2].getD i []).getD r []).getD c 0)), (c : Int))) (([p1, p2].getD i []).getD r []).length _ (by omega) ?_ ?_
      · intro loop3 c hc
        have b6 := b5 c (by omega)
        have b7 := cnt_in ((([p1, p2].getD i []).getD r []).getD c 0)
        unfold f_L25_SheetTurns_b2
        dsimp only
        rw [Int.toNat_natCast, Int.toNat_natCast, Int.toNat_natCast, G_pos (by omega), cd_pos (by omega), G_pos (by omega), r_distance, Option.bind_some, sumN]
        generalize sumN c (fun c => cnt ((([p1, p2].getD i []).getD r []).getD c 0)) = C at *
        rw [G_inR (by omega), G_inR (by omega), natAdd1, show T - S - R - C - cnt ((([p1, p2].getD i []).getD r []).getD c 0) = T - S - R - (C + cnt ((([p1, p2].getD i []).getD r []).getD c 0)) by omega]
      · intro loop3
        unfold f_L25_SheetTurns_b2
        dsimp only
        rw [Int.toNat_natCast, Int.toNat_natCast, G_pos (by omega), cd_neg (by omega), G_inR (by omega), natAdd1, show T - S - R - sumN (([p1, p2].getD i []).getD r []).length (fun c => cnt ((([p1, p2].getD i []).getD r []).getD c 0)) = T - S - (R + sumN (([p1, p2].getD i []).getD r []).length (fun c => cnt ((([p1, p2].getD i []).getD r []).getD c 0))) by omega]
    · intro loop2
      unfold f_L25_SheetTurns_b3
      dsimp only
      rw [Int.toNat_natCast, cd_neg (by omega), G_inR (by omega), natAdd1, show T - S - sumN ([p1, p2].getD i []).length (fun r => sumN (([p1, p2].getD i []).getD r []).length fun c => cnt ((([p1, p2].getD i []).getD r []).getD c 0)) = T - (S + cntP ([p1, p2].getD i [])) by unfold cntP; omega]
  · intro loop
    unfold f_L25_SheetTurns_b4
    dsimp only
    rw [cd_neg (by omega), cond_true, show T - sumN 2 (fun i => cntP ([p1, p2].getD i [])) = T - cntP p1 - cntP p2 by simp [sumN]; omega]
theorem plain_SheetTurns {t0 : S_Raw} {t1 : List (List Int)} (k : okS_Raw t0) (k1 : okList (okArr 3 (okInt .u8)) t1) : f_L25_SheetTurns t0 t1 = some true := by
  have hw := fW_in t0
  have hh := fH_in t0
  obtain ⟨u, v, hp⟩ := r_plate k t1 k1
  unfold f_L25_SheetTurns
  rw [sanity_true, Option.bind_some, hp, Option.bind_some, r_turned _ _ _ _ (by omega) (by omega), Option.bind_some, front_PL _ _ _ _ (by omega) (by omega), Option.bind_some, back_PL _ _ _ _ (by omega) (by omega), Option.bind_some, front_PL _ _ _ _ (by omega) (by omega), Option.bind_some]
  generalize fW t0 = w at *
  generalize fH t0 = h at *
  rw [show pageOf (fun y x => v y (2 * w - 1 - x)) w h = pageOf (rev (2 * w) v) w h from rfl, r_samePage _ _ (pageOf_short _ w h (by omega) (by omega)), Option.bind_some, decide_eq_true rfl]
  rw [Bool.not_true, Bool.not_false, cond_true, back_PL _ _ _ _ (by omega) (by omega), Option.bind_some, cond_true, pageOf_congr (u := rev (2 * w) fun y x => u y (2 * w - 1 - x)) (v := u) (fun y x _ hx => by
    show u y (2 * w - 1 - (2 * w - 1 - x)) = _
    rw [show 2 * w - 1 - (2 * w - 1 - x) = x by omega]), r_samePage _ _ (pageOf_short _ w h (by omega) (by omega)), Option.bind_some, decide_eq_true rfl, Bool.not_true, cond_false, cond_false]
  have hc1 := cntP_pageOf u w h
  have hc2 := cntP_pageOf (rev (2 * w) v) w h
  have hr : sumN (3 * h) (fun y => sumN (2 * w) fun x => b01 (rev (2 * w) v y x)) = sumN (3 * h) (fun y => sumN (2 * w) fun x => b01 (v y x)) :=
    sumN_congr _ fun y _ => sumN_rev (fun x => b01 (v y x)) (2 * w)
  have hs : sumN (3 * h) (fun y => sumN (2 * w) fun x => b01 (u y x) + b01 (v y x)) = cntP (pageOf u w h) + cntP (pageOf (rev (2 * w) v) w h) := by
    rw [hc1, hc2, hr, ← sumN_add]
    exact sumN_congr _ fun y _ => sumN_add _ _ _
  have hin : ∀ y, 0 ≤ sumN (2 * w) (fun x => b01 (u y x) + b01 (v y x)) ∧ sumN (2 * w) (fun x => b01 (u y x) + b01 (v y x)) ≤ 120 := by
    intro y
    have := sumN_bound (f := fun x => b01 (u y x) + b01 (v y x)) 2 (by omega) (2 * w) (fun k _ => by have := b01_in (u y k); have := b01_in (v y k); omega)
    omega
  have hT := sumN_bound (f := fun y => sumN (2 * w) fun x => b01 (u y x) + b01 (v y x)) 120 (by omega) (3 * h) (fun k _ => hin k)
  refine turn_count (2 * w) (3 * h) u v (by omega) (by omega) _ _ _ ?_
  rw [turn_pages _ _ w h (by omega) (by omega) (pageOf_fits _ _ _) (pageOf_fits _ _ _) _ (by omega), hs]
  congr 1
  rw [beq_iff_eq]
  omega
end Go.Proofs.YtbcfmhoaocifoaaDoor
