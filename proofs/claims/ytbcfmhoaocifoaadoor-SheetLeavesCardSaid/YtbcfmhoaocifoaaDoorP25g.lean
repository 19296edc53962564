/-
 Own work. Chapter 25, plain part: pages from dots.
-/
import Derived.Test.YtbcfmhoaocifoaaDoorP25f
set_option linter.unusedSimpArgs false
set_option linter.unusedVariables false
set_option maxRecDepth 10000
set_option linter.unusedSimpArgs false
set_option linter.unusedVariables false
namespace Go.Proofs.YtbcfmhoaocifoaaDoor
open Go.Abs
def cells (u : Nat → Nat → Bool) (r c : Nat) : Int := cellOf fun k => u (3 * r + k % 3) (2 * c + k / 3)
def lineOf (u : Nat → Nat → Bool) (w r : Nat) : List Int := trim z0 (row w (cells u r))
def pageOf (u : Nat → Nat → Bool) (w h : Nat) : List (List Int) := trim zE (row h (lineOf u w))
theorem l_trim (l : List Int) (h : l.length < 900000) : f_line_Trim l = some (trim z0 l) := by
 unfold f_line_Trim
 have key := iter_ind (b := fun loop (s : Int) => f_line_Trim_b1 l loop s) (fun s => ∃ k : Nat, s = (k : Int) ∧ k ≤ l.length) (fun s => s.toNat) (fun s => some (l.take (lend z0 (l.take s.toNat)))) (fun loop s hs ih => by
  obtain ⟨k, rfl, hk⟩ := hs
  unfold f_line_Trim_b1
  rw [Int.toNat_natCast]
  cases k with
  | zero =>
   rw [G_imp (fun a => absurd a (by decide)), G_imp (fun a => absurd a (by decide)), cond_neg (by simp), G_pos (by omega)]
   rfl
  | succ k =>
   rw [cI_pos (inR_of (by omega)), cI_pos (by omega), show ((k + 1 : Nat) : Int) - 1 = (k : Int) by omega, Int.toNat_natCast, take_snoc l k 0 (by omega), lend_snoc, cd_pos (by omega)]
   show cond (z0 (l.getD k 0)) _ _ = _
   cases hz : z0 (l.getD k 0) with
   | true =>
    rw [cond_pos rfl, G_inR (by omega), ih _ ⟨k, rfl, by omega⟩ (by omega), Int.toNat_natCast, if_pos rfl]
   | false =>
    rw [cond_neg rfl, G_pos (by omega), if_neg (by simp), List.length_take, show min k l.length + 1 = k + 1 by omega, take_snoc l k 0 (by omega)]) 1000000 (l.length : Int) ⟨l.length, rfl, Nat.le_refl _⟩ (by omega)
 rw [key, Int.toNat_natCast, List.take_length]
 rfl
theorem g_valid (W H : Nat) (u : Nat → Nat → Bool) (hw : W ≤ 200) (hh : H ≤ 200) : f_grid_Valid ⟨(W : Int), (H : Int), mat H W u⟩ = some true := by
 unfold f_grid_Valid
 rw [show (S_Grid.mk (W : Int) (H : Int) (mat H W u)).W = (W : Int) from rfl, show (S_Grid.mk (W : Int) (H : Int) (mat H W u)).H = (H : Int) from rfl, show (S_Grid.mk (W : Int) (H : Int) (mat H W u)).Dots = mat H W u from rfl, mat_len, decide_eq_false (show ¬ (W : Int) < 0 by omega), decide_eq_false (show ¬ (200 : Int) < (W : Int) by omega), decide_eq_false (show ¬ (H : Int) < 0 by omega), decide_eq_false (show ¬ (200 : Int) < (H : Int) by omega), bne_self_eq_false]
 show iter _ _ _ = _
 refine loop_up (fun k => (k : Int)) H _ (by omega) ?_ ?_
 ·intro loop k hk
  unfold f_grid_Valid_b1
  rw [show (S_Grid.mk (W : Int) (H : Int) (mat H W u)).Dots = mat H W u from rfl, mat_len, Int.toNat_natCast, mat_row _ _ _ _ hk, row_len, cd_pos (by omega), G_pos (by omega), cn_neg rfl, G_inR (by omega), natAdd1]
 ·intro loop
  unfold f_grid_Valid_b1
  rw [show (S_Grid.mk (W : Int) (H : Int) (mat H W u)).Dots = mat H W u from rfl, mat_len, cd_neg (by omega)]
def doneC (u : Nat → Nat → Bool) (w r i k : Nat) : List Int := row w fun c => if c < i then cells u r c else if c = i then cellU (fun k => u (3 * r + k % 3) (2 * i + k / 3)) k else 0
def stC (u : Nat → Nat → Bool) (w h r : Nat) (now : List Int) : List (List Int) := row h fun r' => if r' < r then row w (cells u r') else if r' = r then now else []
theorem stC_len (u : Nat → Nat → Bool) (w h r : Nat) (now : List Int) : (stC u w h r now).length = h := row_len _ _
theorem stC_get (u : Nat → Nat → Bool) (w h r : Nat) (now : List Int) (hr : r < h) : (stC u w h r now).getD r [] = now := by
 rw [stC, row_get _ _ _ _ hr, if_neg (by omega), if_pos rfl]
theorem stC_set (u : Nat → Nat → Bool) (w h r : Nat) (now then' : List Int) (hr : r < h) : (stC u w h r now).set r then' = stC u w h r then' := by
 rw [stC, row_set]
 apply row_congr
 intro i hi
 by_cases e : i = r
 ·rw [if_pos e, if_neg (by omega), if_pos e]
 ·rw [if_neg e, if_neg e, if_neg e]
theorem g_toCells (W H : Nat) (u : Nat → Nat → Bool) (h2 : W % 2 = 0) (h3 : H % 3 = 0) (hw : W ≤ 200) (hh : H ≤ 200) :
  f_grid_ToCells ⟨(W : Int), (H : Int), mat H W u⟩ = some (row (H / 3) fun r => row (W / 2) (cells u r), 0) := by
 have e2 : Int.tdiv (H : Int) 3 = ((H / 3 : Nat) : Int) := by rw [Int.tdiv_eq_ediv_of_nonneg (by omega)]; omega
 have e1 : Int.tdiv (W : Int) 2 = ((W / 2 : Nat) : Int) := by rw [Int.tdiv_eq_ediv_of_nonneg (by omega)]; omega
 have m2 : Int.tmod (H : Int) 3 = 0 := by rw [Int.tmod_eq_emod_of_nonneg (by omega)]; omega
 have m1 : Int.tmod (W : Int) 2 = 0 := by rw [Int.tmod_eq_emod_of_nonneg (by omega)]; omega
 unfold f_grid_ToCells
 rw [g_valid W H u hw hh, Option.bind_some]
 rw [show (S_Grid.mk (W : Int) (H : Int) (mat H W u)).W = (W : Int) from rfl, show (S_Grid.mk (W : Int) (H : Int) (mat H W u)).H = (H : Int) from rfl, m1, m2, e2]
 show G _ _ = _
 rw [G_inR (by omega), G_pos (by omega), Int.toNat_natCast]
 rw [show List.replicate (H / 3) ([] : List Int) = stC u (W / 2) (H / 3) 0 [] from by
  rw [row_rep]
  exact row_congr fun k _ => by rw [if_neg (by omega)]; split <;> rfl]
 have hW : W / 2 ≤ 100 := by omega
 have hH : H / 3 ≤ 100 := by omega
 have hWW : W = 2 * (W / 2) := by omega
 have hHH : H = 3 * (H / 3) := by omega
 generalize W / 2 = w at *
 generalize H / 3 = h at *
 refine loop_up (fun r => ((⟨(W : Int), (H : Int), mat H W u⟩ : S_Grid), stC u w h r [], (r : Int))) h _ (by omega) ?_ ?_
 ·intro loop r hr
  show f_grid_ToCells_b3 _ loop ⟨(W : Int), (H : Int), mat H W u⟩ (stC u w h r []) (r : Int) = _
  unfold f_grid_ToCells_b3
  rw [e1, e2, List.length_replicate, Int.toNat_natCast, Int.toNat_natCast, Int.toNat_natCast, cd_pos (by omega), G_inR (by omega), G_pos (by omega), List.length_set, stC_len, G_pos (by omega), G_pos (by omega), stC_set _ _ _ _ _ _ hr]
  rw [show List.replicate w (0 : Int) = doneC u w r 0 0 from by
   rw [row_rep]
   exact row_congr fun k _ => by rw [if_neg (by omega)]; split <;> rfl]
  refine loop_up (fun i => ((⟨(W : Int), (H : Int), mat H W u⟩ : S_Grid), stC u w h r (doneC u w r i 0), (i : Int))) w _ (by omega) ?_ ?_
  ·intro loop2 i hi
   show f_grid_ToCells_b2 loop ⟨(W : Int), (H : Int), mat H W u⟩ (stC u w h r []) (r : Int) loop2 ⟨(W : Int), (H : Int), mat H W u⟩ (stC u w h r (doneC u w r i 0)) (i : Int) = _
   unfold f_grid_ToCells_b2
   rw [e1, Int.toNat_natCast, Int.toNat_natCast, stC_set _ _ _ _ _ _ hr, stC_get _ _ _ _ _ hr, List.length_replicate, cd_pos (by omega)]
   refine loop_up (fun k => ((⟨(W : Int), (H : Int), mat H W u⟩ : S_Grid), stC u w h r (doneC u w r i k), (k : Int))) 6 _ (by omega) ?_ ?_
   ·intro loop3 k hk
    show f_grid_ToCells_b1 (r : Int) loop2 (i : Int) loop3 ⟨(W : Int), (H : Int), mat H W u⟩ (stC u w h r (doneC u w r i k)) (k : Int) = _
    unfold f_grid_ToCells_b1 f_grid_ToCells_k1
    have hd : (doneC u w r i k).getD i 0 = cellU (fun k => u (3 * r + k % 3) (2 * i + k / 3)) k := by rw [doneC, row_get _ _ _ _ hi, if_neg (by omega), if_pos rfl]
    have hn : ∀ v, v = cellU (fun k => u (3 * r + k % 3) (2 * i + k / 3)) (k + 1) → (doneC u w r i k).set i v = doneC u w r i (k + 1) := by
     intro v hv
     rw [doneC, row_set]
     apply row_congr
     intro c hc
     by_cases e : c = i
     ·rw [if_pos e, if_neg (by omega), if_pos e, hv]
     ·rw [if_neg e, if_neg e, if_neg e]
    rw [Int.toNat_natCast k, Int.toNat_natCast r, Int.toNat_natCast i, tabX k hk, tabY k hk, cd_pos (by omega), show ((3 : Int) * (r : Int)) + ((k % 3 : Nat) : Int) = ((3 * r + k % 3 : Nat) : Int) by push_cast; rfl, show ((2 : Int) * (i : Int)) + ((k / 3 : Nat) : Int) = ((2 * i + k / 3 : Nat) : Int) by push_cast; rfl, Int.toNat_natCast, Int.toNat_natCast,
     show (S_Grid.mk (W : Int) (H : Int) (mat H W u)).Dots = mat H W u from rfl, mat_len, mat_row H W u (3 * r + k % 3) (by omega), row_len, row_get W _ _ _ (by omega), stC_len, stC_get _ _ _ _ _ hr, hd,
     G_inR (n := (3 : Int) * (r : Int)) (by omega), G_pos (p := 0 ≤ (k : Int) ∧ (k : Int) < 6) (by omega), G_inR (n := ((3 * r + k % 3 : Nat) : Int)) (by omega), G_pos (p := 0 ≤ ((3 * r + k % 3 : Nat) : Int) ∧ ((3 * r + k % 3 : Nat) : Int) < (H : Int)) (by omega), G_inR (n := (2 : Int) * (i : Int)) (by omega), G_inR (n := ((2 * i + k / 3 : Nat) : Int)) (by omega), G_pos (p := 0 ≤ ((2 * i + k / 3 : Nat) : Int) ∧ ((2 * i + k / 3 : Nat) : Int) < (W : Int)) (by omega), G_inR (n := (k : Int) + 1) (by omega),
     G_pos (p := 0 ≤ (r : Int) ∧ (r : Int) < (h : Int)) (by omega), stC_set _ _ _ _ _ _ hr, natAdd1]
    rw [show (doneC u w r i k).length = w from row_len _ _, G_pos (p := 0 ≤ (i : Int) ∧ (i : Int) < (w : Int)) (by omega), G_pos (p := 0 ≤ (k : Int)) (by omega)]
    cases hb : u (3 * r + k % 3) (2 * i + k / 3) with
    | true =>
     rw [cond_pos rfl, hn _ (cellU_step (fun k => u (3 * r + k % 3) (2 * i + k / 3)) k hk hb).1]
    | false =>
     rw [cond_neg rfl]
     have : doneC u w r i (k + 1) = doneC u w r i k := by
      apply row_congr
      intro c hc
      have : cellU (fun k => u (3 * r + k % 3) (2 * i + k / 3)) (k + 1) = cellU (fun k => u (3 * r + k % 3) (2 * i + k / 3)) k := by
       simp [cellU, hb]
      rw [this]
     rw [this, G_inR (by omega)]
   ·intro loop3
    show f_grid_ToCells_b1 (r : Int) loop2 (i : Int) loop3 ⟨(W : Int), (H : Int), mat H W u⟩ (stC u w h r (doneC u w r i 6)) 6 = _
    unfold f_grid_ToCells_b1
    rw [cd_neg (by omega), G_inR (by omega), natAdd1]
    have : doneC u w r i 6 = doneC u w r (i + 1) 0 := by
     apply row_congr
     intro c hc
     by_cases e : c < i
     ·rw [if_pos e, if_pos (by omega)]
     ·by_cases e' : c = i
      ·rw [if_neg e, if_pos e', if_pos (by omega), e']
       rfl
      ·rw [if_neg e, if_neg e', if_neg (by omega)]
       split <;> rfl
    rw [this]
  ·intro loop2
   show f_grid_ToCells_b2 loop ⟨(W : Int), (H : Int), mat H W u⟩ (stC u w h r []) (r : Int) loop2 ⟨(W : Int), (H : Int), mat H W u⟩ (stC u w h r (doneC u w r w 0)) (w : Int) = _
   unfold f_grid_ToCells_b2
   rw [e1, Int.toNat_natCast, Int.toNat_natCast, stC_set _ _ _ _ _ _ hr, stC_get _ _ _ _ _ hr, List.length_replicate, cd_neg (by omega), G_inR (by omega), natAdd1]
   have : stC u w h r (doneC u w r w 0) = stC u w h (r + 1) [] := by
    apply row_congr
    intro c hc
    by_cases e : c < r
    ·rw [if_pos e, if_pos (by omega)]
    ·by_cases e' : c = r
     ·rw [if_neg e, if_pos e', if_pos (by omega), e']
      exact row_congr fun k hk => by rw [if_pos hk]
     ·rw [if_neg e, if_neg e', if_neg (by omega)]
      split <;> rfl
   rw [this]
 ·intro loop
  show f_grid_ToCells_b3 _ loop ⟨(W : Int), (H : Int), mat H W u⟩ (stC u w h h []) (h : Int) = _
  unfold f_grid_ToCells_b3
  rw [e2, List.length_replicate, Int.toNat_natCast, cd_neg (by omega)]
  have : stC u w h h [] = row h fun r => row w (cells u r) := row_congr fun k hk => by rw [if_pos hk]
  rw [this]
theorem lend_row (z : List Int → Bool) (g : Nat → List Int) (k : Nat) : lend z (row (k + 1) g) = if z (g k) then lend z (row k g) else k + 1 := by
 rw [← row_snoc, lend_snoc, row_len]
theorem cl_pos {l : List Int} {α : Type} {a b : α} : cond (decide ((0 : Int) < (l.length : Int))) a b = if zE l then b else a := by
 by_cases h : 0 < l.length
 ·rw [cd_pos (by omega), if_neg (fun a => by unfold zE at a; have := beq_iff_eq.1 a; omega)]
 ·rw [cd_neg (by omega), if_pos (by unfold zE; exact beq_iff_eq.2 (by omega))]
theorem s_lower (W H : Nat) (u : Nat → Nat → Bool) (h2 : W % 2 = 0) (h3 : H % 3 = 0) (hw : W ≤ 200) (hh : H ≤ 200) :
  f_sheet_lower_fn32 (mat H W u) (W : Int) (H : Int) = some (pageOf u (W / 2) (H / 3)) := by
 unfold f_sheet_lower_fn32
 rw [mat_len, G_pos (by omega), Int.toNat_natCast, part0 H (fun y => row W (u y))]
 refine loop_up (fun k => (row H (part k (fun y => row W (u y)) []), (k : Int))) H _ (by omega) ?_ ?_
 ·intro loop k hk
  unfold f_sheet_lower_fn32_b2
  simp only []
  rw [mat_len, row_len, cd_pos (by omega), G_pos (by omega), Int.toNat_natCast, mat_row _ _ _ _ hk, s_straight _ (by rw [row_len]; omega), Option.bind_some, G_pos (by omega), G_inR (by omega), partS _ _ _ _ _ rfl, natAdd1]
 ·intro loop
  unfold f_sheet_lower_fn32_b2
  simp only []
  rw [mat_len, cd_neg (by omega), partE, show row H (fun y => row W (u y)) = mat H W u from rfl, g_toCells W H u h2 h3 hw hh, Option.bind_some, cn_neg rfl]
  simp only []
  rw [row_len, G_pos (by omega)]
  refine loop_up (fun k => (row k (lineOf u (W / 2)), ((lend zE (row k (lineOf u (W / 2))) : Nat) : Int), (k : Int))) (H / 3) _ (by omega) ?_ ?_
  ·intro loop2 k hk
   show f_sheet_lower_fn32_b1 (row (H / 3) fun r => row (W / 2) (cells u r), 0) loop2 (row k (lineOf u (W / 2))) ((lend zE (row k (lineOf u (W / 2))) : Nat) : Int) (k : Int) = _
   unfold f_sheet_lower_fn32_b1 f_sheet_lower_fn32_k1
   rw [Int.toNat_natCast]
   simp only []
   rw [row_len, cd_pos (by omega), G_pos (by omega), row_get _ _ _ _ hk, l_trim _ (by rw [row_len]; omega), Option.bind_some, row_len, G_room (by omega), show trim z0 (row (W / 2) (cells u k)) = lineOf u (W / 2) k from rfl, row_snoc, row_len, G_pos (by omega), row_get (k + 1) _ _ _ (by omega), cl_pos, G_inR (by omega), lend_row, natAdd1]
   by_cases hz : zE (lineOf u (W / 2) k)
   ·rw [if_pos hz, if_pos hz]
   ·rw [if_neg hz, if_neg hz, G_inR (by omega), G_inR (by omega)]
  ·intro loop2
   show f_sheet_lower_fn32_b1 (row (H / 3) fun r => row (W / 2) (cells u r), 0) loop2 (row (H / 3) (lineOf u (W / 2))) ((lend zE (row (H / 3) (lineOf u (W / 2))) : Nat) : Int) ((H / 3 : Nat) : Int) = _
   unfold f_sheet_lower_fn32_b1
   simp only []
   have := lend_le zE (row (H / 3) (lineOf u (W / 2)))
   rw [row_len, cd_neg (by omega), G_pos (by omega), Int.toNat_natCast]
   rfl
theorem s_lowerT (W H : Nat) (u : Nat → Nat → Bool) (h2 : W % 2 = 0) (h3 : H % 3 = 0) (hw : W ≤ 200) (hh : H ≤ 200) :
  f_sheet_lower_fn33 (mat H W u) (W : Int) (H : Int) = some (pageOf (fun y x => u y (W - 1 - x)) (W / 2) (H / 3)) := by
 unfold f_sheet_lower_fn33
 rw [mat_len, G_pos (by omega), Int.toNat_natCast, part0 H (fun y => row W fun x => u y (W - 1 - x))]
 refine loop_up (fun k => (row H (part k (fun y => row W fun x => u y (W - 1 - x)) []), (k : Int))) H _ (by omega) ?_ ?_
 ·intro loop k hk
  unfold f_sheet_lower_fn33_b2
  simp only []
  rw [mat_len, row_len, cd_pos (by omega), G_pos (by omega), Int.toNat_natCast, mat_row _ _ _ _ hk, s_turned _ (by rw [row_len]; omega), Option.bind_some, G_pos (by omega), G_inR (by omega), row_rev, partS _ _ _ _ _ rfl, natAdd1]
 ·intro loop
  unfold f_sheet_lower_fn33_b2
  simp only []
  rw [mat_len, cd_neg (by omega), partE, show row H (fun y => row W fun x => u y (W - 1 - x)) = mat H W (fun y x => u y (W - 1 - x)) from rfl, g_toCells W H _ h2 h3 hw hh, Option.bind_some, cn_neg rfl]
  simp only []
  generalize (fun y x => u y (W - 1 - x)) = u
  rw [row_len, G_pos (by omega)]
  refine loop_up (fun k => (row k (lineOf u (W / 2)), ((lend zE (row k (lineOf u (W / 2))) : Nat) : Int), (k : Int))) (H / 3) _ (by omega) ?_ ?_
  ·intro loop2 k hk
   show f_sheet_lower_fn33_b1 (row (H / 3) fun r => row (W / 2) (cells u r), 0) loop2 (row k (lineOf u (W / 2))) ((lend zE (row k (lineOf u (W / 2))) : Nat) : Int) (k : Int) = _
   unfold f_sheet_lower_fn33_b1 f_sheet_lower_fn33_k1
   rw [Int.toNat_natCast]
   simp only []
   rw [row_len, cd_pos (by omega), G_pos (by omega), row_get _ _ _ _ hk, l_trim _ (by rw [row_len]; omega), Option.bind_some, row_len, G_room (by omega), show trim z0 (row (W / 2) (cells u k)) = lineOf u (W / 2) k from rfl, row_snoc, row_len, G_pos (by omega), row_get (k + 1) _ _ _ (by omega), cl_pos, G_inR (by omega), lend_row, natAdd1]
   by_cases hz : zE (lineOf u (W / 2) k)
   ·rw [if_pos hz, if_pos hz]
   ·rw [if_neg hz, if_neg hz, G_inR (by omega), G_inR (by omega)]
  ·intro loop2
   show f_sheet_lower_fn33_b1 (row (H / 3) fun r => row (W / 2) (cells u r), 0) loop2 (row (H / 3) (lineOf u (W / 2))) ((lend zE (row (H / 3) (lineOf u (W / 2))) : Nat) : Int) ((H / 3 : Nat) : Int) = _
   unfold f_sheet_lower_fn33_b1
   simp only []
   have := lend_le zE (row (H / 3) (lineOf u (W / 2)))
   rw [row_len, cd_neg (by omega), G_pos (by omega), Int.toNat_natCast]
   rfl
def okWH (W H : Nat) : Prop := W % 2 = 0 ∧ H % 3 = 0 ∧ 48 ≤ W ∧ W ≤ 120 ∧ 12 ≤ H ∧ H ≤ 120
theorem vpl_PL (W H : Nat) (u v : Nat → Nat → Bool) (h : okWH W H) : vpl (PL W H u v) = true := by
 obtain ⟨a, b, c, d, e, f⟩ := h
 have e2 : Int.tdiv (H : Int) 3 = ((H / 3 : Nat) : Int) := by rw [Int.tdiv_eq_ediv_of_nonneg (by omega)]; omega
 have e1 : Int.tdiv (W : Int) 2 = ((W / 2 : Nat) : Int) := by rw [Int.tdiv_eq_ediv_of_nonneg (by omega)]; omega
 have m2 : Int.tmod (H : Int) 3 = 0 := by rw [Int.tmod_eq_emod_of_nonneg (by omega)]; omega
 have m1 : Int.tmod (W : Int) 2 = 0 := by rw [Int.tmod_eq_emod_of_nonneg (by omega)]; omega
 unfold vpl vsz
 rw [decide_eq_true (mat_ok H W u), decide_eq_true (mat_ok H W v)]
 simp only [PL, e1, e2, m1, m2]
 rw [decide_eq_false (by omega), decide_eq_false (by omega), decide_eq_false (by omega), decide_eq_false (by omega)]
 rfl
theorem s_validPL (W H : Nat) (u v : Nat → Nat → Bool) (h : okWH W H) : f_sheet_Valid (PL W H u v) = some true := by
 have hh := h
 obtain ⟨a, b, c, d, e, f⟩ := hh
 rw [s_valid _ (by unfold small; simp only [PL]; omega) (by unfold small; simp only [PL]; omega) (by simp only [PL, mat_len]; omega) (by simp only [PL, mat_len]; omega), vpl_PL W H u v h]
theorem r_validPL (W H : Nat) (u v : Nat → Nat → Bool) (h : okWH W H) : f_R25_Valid (PL W H u v) = some true := by
 have hh := h
 obtain ⟨a, b, c, d, e, f⟩ := hh
 rw [r_valid _ (by unfold small; simp only [PL]; omega) (by unfold small; simp only [PL]; omega) (by simp only [PL, mat_len]; omega) (by simp only [PL, mat_len]; omega), vpl_PL W H u v h]
theorem s_front (W H : Nat) (u v : Nat → Nat → Bool) (h : okWH W H) : f_sheet_Front (PL W H u v) = some (pageOf u (W / 2) (H / 3)) := by
 have hh := h
 obtain ⟨a, b, c, d, e, f⟩ := hh
 unfold f_sheet_Front
 rw [s_validPL W H u v h, Option.bind_some, show (!true) = false from rfl, cond_neg rfl, s_lower W H u a b (by omega) (by omega), Option.bind_some]
theorem s_back (W H : Nat) (u v : Nat → Nat → Bool) (h : okWH W H) : f_sheet_Back (PL W H u v) = some (pageOf (fun y x => v y (W - 1 - x)) (W / 2) (H / 3)) := by
 have hh := h
 obtain ⟨a, b, c, d, e, f⟩ := hh
 unfold f_sheet_Back
 rw [s_validPL W H u v h, Option.bind_some, show (!true) = false from rfl, cond_neg rfl, s_lowerT W H v a b (by omega) (by omega), Option.bind_some]
end Go.Proofs.YtbcfmhoaocifoaaDoor
