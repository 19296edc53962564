/- Own work. -/
import Derived.Test.YtbcfmhoaocifoaaDoorP25f
set_option linter.unusedSimpArgs false
set_option linter.unusedVariables false
set_option maxRecDepth 10000
namespace Go.Proofs.YtbcfmhoaocifoaaDoor
open Go.Abs
def cells (u : Nat → Nat → Bool) (r c : Nat) : Int := cellOf fun k => u (3 * r + k % 3) (2 * c + k / 3)
def Y13 (u : Nat → Nat → Bool) (w r : Nat) : List Int := trim z0 (row w (cells u r))
def Y30 (u : Nat → Nat → Bool) (w h : Nat) : List (List Int) := trim zE (row h (Y13 u w))
theorem l_trim (l : List Int) (h : l.length < 900000) : f_line_Trim l = some (trim z0 l) := by
 unfold f_line_Trim
 have key := iter_ind (b := fun loop (s : Int) => Y4v l loop s) (fun s => ∃ k : Nat, s = (k : Int) ∧ k ≤ l.length) (fun s => s.toNat) (fun s => some (l.take (lend z0 (l.take s.toNat)))) (fun loop s hs ih => by
  obtain ⟨k, rfl, hk⟩ := hs
  unfold Y4v
  rw [X5]
  cases k with
  | zero =>
   rw [G_imp (fun a => absurd a (by decide)), G_imp (fun a => absurd a (by decide)), Y00 (by simp), Yw (by omega)]
   rfl
  | succ k =>
   rw [cI_pos (inR_of (by omega)), cI_pos (by omega), show ((k + 1 : Nat) : Int) - 1 = (k : Int) by omega, X5, take_snoc l k 0 (by omega), lend_snoc, Y09 (by omega)]
   show cond (z0 (l.getD k 0)) _ _ = _
   cases hz : z0 (l.getD k 0) with
   | true =>
    rw [Y03 rfl, Yx (by omega), ih _ ⟨k, rfl, by omega⟩ (by omega), X5, if_pos rfl]
   | false =>
    rw [Y00 rfl, Yw (by omega), if_neg (by simp), Xq, show min k l.length + 1 = k + 1 by omega, take_snoc l k 0 (by omega)]) 1000000 (l.length : Int) ⟨l.length, rfl, Xi _⟩ (by omega)
 rw [key, X5, X1e]
 rfl
theorem g_valid (W H : Nat) (u : Nat → Nat → Bool) (hw : W ≤ 200) (hh : H ≤ 200) : f_grid_Valid ⟨(W : Int), (H : Int), mat H W u⟩ = some true := by
 unfold f_grid_Valid
 rw [show (Yk.mk (W : Int) (H : Int) (mat H W u)).W = (W : Int) from rfl, show (Yk.mk (W : Int) (H : Int) (mat H W u)).H = (H : Int) from rfl, show (Yk.mk (W : Int) (H : Int) (mat H W u)).Dots = mat H W u from rfl, Y12, decide_eq_false (show ¬ (W : Int) < 0 by omega), decide_eq_false (show ¬ (200 : Int) < (W : Int) by omega), decide_eq_false (show ¬ (H : Int) < 0 by omega), decide_eq_false (show ¬ (200 : Int) < (H : Int) by omega), bne_self_eq_false]
 show iter _ _ _ = _
 refine Y36 (fun k => (k : Int)) H _ (by omega) ?_ ?_
 ·intro loop k hk
  unfold Y45
  rw [show (Yk.mk (W : Int) (H : Int) (mat H W u)).Dots = mat H W u from rfl, Y12, X5, Y1r _ _ _ _ hk, Y02, Y09 (by omega), Yw (by omega), cn_neg rfl, Yx (by omega), Y11]
 ·intro loop
  unfold Y45
  rw [show (Yk.mk (W : Int) (H : Int) (mat H W u)).Dots = mat H W u from rfl, Y12, Y0b (by omega)]
def doneC (u : Nat → Nat → Bool) (w r i k : Nat) : List Int := row w fun c => if c < i then cells u r c else if c = i then cellU (fun k => u (3 * r + k % 3) (2 * i + k / 3)) k else 0
def stC (u : Nat → Nat → Bool) (w h r : Nat) (now : List Int) : List (List Int) := row h fun r' => if r' < r then row w (cells u r') else if r' = r then now else []
theorem stC_len (u : Nat → Nat → Bool) (w h r : Nat) (now : List Int) : (stC u w h r now).length = h := Y02 _ _
theorem stC_get (u : Nat → Nat → Bool) (w h r : Nat) (now : List Int) (hr : r < h) : (stC u w h r now).getD r [] = now := by
 rw [stC, Y4t _ _ _ _ hr, if_neg (by omega), if_pos rfl]
theorem stC_set (u : Nat → Nat → Bool) (w h r : Nat) (now then' : List Int) (hr : r < h) : (stC u w h r now).set r then' = stC u w h r then' := by
 rw [stC, row_set]
 apply Y1l
 intro i hi
 by_cases e : i = r
 ·rw [if_pos e, if_neg (by omega), if_pos e]
 ·rw [if_neg e, if_neg e, if_neg e]
theorem g_toCells (W H : Nat) (u : Nat → Nat → Bool) (h2 : W % 2 = 0) (h3 : H % 3 = 0) (hw : W ≤ 200) (hh : H ≤ 200) :
  Y3n ⟨(W : Int), (H : Int), mat H W u⟩ = some (row (H / 3) fun r => row (W / 2) (cells u r), 0) := by
 have e2 : Int.tdiv (H : Int) 3 = ((H / 3 : Nat) : Int) := by rw [Xp (by omega)]; omega
 have e1 : Int.tdiv (W : Int) 2 = ((W / 2 : Nat) : Int) := by rw [Xp (by omega)]; omega
 have m2 : Int.tmod (H : Int) 3 = 0 := by rw [Xr (by omega)]; omega
 have m1 : Int.tmod (W : Int) 2 = 0 := by rw [Xr (by omega)]; omega
 unfold Y3n
 rw [g_valid W H u hw hh, X8]
 rw [show (Yk.mk (W : Int) (H : Int) (mat H W u)).W = (W : Int) from rfl, show (Yk.mk (W : Int) (H : Int) (mat H W u)).H = (H : Int) from rfl, m1, m2, e2]
 show G _ _ = _
 rw [Yx (by omega), Yw (by omega), X5]
 rw [show List.replicate (H / 3) ([] : List Int) = stC u (W / 2) (H / 3) 0 [] from by
  rw [row_rep]
  exact Y1l fun k _ => by rw [if_neg (by omega)]; split <;> rfl]
 have hW : W / 2 ≤ 100 := by omega
 have hH : H / 3 ≤ 100 := by omega
 have hWW : W = 2 * (W / 2) := by omega
 have hHH : H = 3 * (H / 3) := by omega
 generalize W / 2 = w at *
 generalize H / 3 = h at *
 refine Y36 (fun r => ((⟨(W : Int), (H : Int), mat H W u⟩ : Yk), stC u w h r [], (r : Int))) h _ (by omega) ?_ ?_
 ·intro loop r hr
  show Y0w _ loop ⟨(W : Int), (H : Int), mat H W u⟩ (stC u w h r []) (r : Int) = _
  unfold Y0w
  rw [e1, e2, Xn, X5, X5, X5, Y09 (by omega), Yx (by omega), Yw (by omega), Xs, stC_len, Yw (by omega), Yw (by omega), stC_set _ _ _ _ _ _ hr]
  rw [show List.replicate w (0 : Int) = doneC u w r 0 0 from by
   rw [row_rep]
   exact Y1l fun k _ => by rw [if_neg (by omega)]; split <;> rfl]
  refine Y36 (fun i => ((⟨(W : Int), (H : Int), mat H W u⟩ : Yk), stC u w h r (doneC u w r i 0), (i : Int))) w _ (by omega) ?_ ?_
  ·intro loop2 i hi
   show Y0x loop ⟨(W : Int), (H : Int), mat H W u⟩ (stC u w h r []) (r : Int) loop2 ⟨(W : Int), (H : Int), mat H W u⟩ (stC u w h r (doneC u w r i 0)) (i : Int) = _
   unfold Y0x
   rw [e1, X5, X5, stC_set _ _ _ _ _ _ hr, stC_get _ _ _ _ _ hr, Xn, Y09 (by omega)]
   refine Y36 (fun k => ((⟨(W : Int), (H : Int), mat H W u⟩ : Yk), stC u w h r (doneC u w r i k), (k : Int))) 6 _ (by omega) ?_ ?_
   ·intro loop3 k hk
    show Y0y (r : Int) loop2 (i : Int) loop3 ⟨(W : Int), (H : Int), mat H W u⟩ (stC u w h r (doneC u w r i k)) (k : Int) = _
    unfold Y0y Y23
    have hd : (doneC u w r i k).getD i 0 = cellU (fun k => u (3 * r + k % 3) (2 * i + k / 3)) k := by rw [doneC, Y4t _ _ _ _ hi, if_neg (by omega), if_pos rfl]
    have hn : ∀ v, v = cellU (fun k => u (3 * r + k % 3) (2 * i + k / 3)) (k + 1) → (doneC u w r i k).set i v = doneC u w r i (k + 1) := by
     intro v hv
     rw [doneC, row_set]
     apply Y1l
     intro c hc
     by_cases e : c = i
     ·rw [if_pos e, if_neg (by omega), if_pos e, hv]
     ·rw [if_neg e, if_neg e, if_neg e]
    rw [X5 k, X5 r, X5 i, tabX k hk, tabY k hk, Y09 (by omega), show ((3 : Int) * (r : Int)) + ((k % 3 : Nat) : Int) = ((3 * r + k % 3 : Nat) : Int) by push_cast; rfl, show ((2 : Int) * (i : Int)) + ((k / 3 : Nat) : Int) = ((2 * i + k / 3 : Nat) : Int) by push_cast; rfl, X5, X5,
     show (Yk.mk (W : Int) (H : Int) (mat H W u)).Dots = mat H W u from rfl, Y12, Y1r H W u (3 * r + k % 3) (by omega), Y02, Y4t W _ _ _ (by omega), stC_len, stC_get _ _ _ _ _ hr, hd,
     Yx (n := (3 : Int) * (r : Int)) (by omega), Yw (p := 0 ≤ (k : Int) ∧ (k : Int) < 6) (by omega), Yx (n := ((3 * r + k % 3 : Nat) : Int)) (by omega), Yw (p := 0 ≤ ((3 * r + k % 3 : Nat) : Int) ∧ ((3 * r + k % 3 : Nat) : Int) < (H : Int)) (by omega), Yx (n := (2 : Int) * (i : Int)) (by omega), Yx (n := ((2 * i + k / 3 : Nat) : Int)) (by omega), Yw (p := 0 ≤ ((2 * i + k / 3 : Nat) : Int) ∧ ((2 * i + k / 3 : Nat) : Int) < (W : Int)) (by omega), Yx (n := (k : Int) + 1) (by omega),
     Yw (p := 0 ≤ (r : Int) ∧ (r : Int) < (h : Int)) (by omega), stC_set _ _ _ _ _ _ hr, Y11]
    rw [show (doneC u w r i k).length = w from Y02 _ _, Yw (p := 0 ≤ (i : Int) ∧ (i : Int) < (w : Int)) (by omega), Yw (p := 0 ≤ (k : Int)) (by omega)]
    cases hb : u (3 * r + k % 3) (2 * i + k / 3) with
    | true =>
     rw [Y03 rfl, hn _ (cellU_step (fun k => u (3 * r + k % 3) (2 * i + k / 3)) k hk hb).1]
    | false =>
     rw [Y00 rfl]
     have : doneC u w r i (k + 1) = doneC u w r i k := by
      apply Y1l
      intro c hc
      have : cellU (fun k => u (3 * r + k % 3) (2 * i + k / 3)) (k + 1) = cellU (fun k => u (3 * r + k % 3) (2 * i + k / 3)) k := by
       simp [cellU, hb]
      rw [this]
     rw [this, Yx (by omega)]
   ·intro loop3
    show Y0y (r : Int) loop2 (i : Int) loop3 ⟨(W : Int), (H : Int), mat H W u⟩ (stC u w h r (doneC u w r i 6)) 6 = _
    unfold Y0y
    rw [Y0b (by omega), Yx (by omega), Y11]
    have : doneC u w r i 6 = doneC u w r (i + 1) 0 := by
     apply Y1l
     intro c hc
     by_cases e : c < i
     ·rw [if_pos e, if_pos (by omega)]
     ·by_cases e' : c = i
      ·rw [if_neg e, if_pos e', if_pos (by omega), e']
       rfl
      ·rw [if_neg e, if_neg e', if_neg (by omega)]
       split <;> rfl
    rw [this]
  ·intro loop2
   show Y0x loop ⟨(W : Int), (H : Int), mat H W u⟩ (stC u w h r []) (r : Int) loop2 ⟨(W : Int), (H : Int), mat H W u⟩ (stC u w h r (doneC u w r w 0)) (w : Int) = _
   unfold Y0x
   rw [e1, X5, X5, stC_set _ _ _ _ _ _ hr, stC_get _ _ _ _ _ hr, Xn, Y0b (by omega), Yx (by omega), Y11]
   have : stC u w h r (doneC u w r w 0) = stC u w h (r + 1) [] := by
    apply Y1l
    intro c hc
    by_cases e : c < r
    ·rw [if_pos e, if_pos (by omega)]
    ·by_cases e' : c = r
     ·rw [if_neg e, if_pos e', if_pos (by omega), e']
      exact Y1l fun k hk => by rw [if_pos hk]
     ·rw [if_neg e, if_neg e', if_neg (by omega)]
      split <;> rfl
   rw [this]
 ·intro loop
  show Y0w _ loop ⟨(W : Int), (H : Int), mat H W u⟩ (stC u w h h []) (h : Int) = _
  unfold Y0w
  rw [e2, Xn, X5, Y0b (by omega)]
  have : stC u w h h [] = row h fun r => row w (cells u r) := Y1l fun k hk => by rw [if_pos hk]
  rw [this]
theorem lend_row (z : List Int → Bool) (g : Nat → List Int) (k : Nat) : lend z (row (k + 1) g) = if z (g k) then lend z (row k g) else k + 1 := by
 rw [← row_snoc, lend_snoc, Y02]
theorem cl_pos {l : List Int} {α : Type} {a b : α} : cond (decide ((0 : Int) < (l.length : Int))) a b = if zE l then b else a := by
 by_cases h : 0 < l.length
 ·rw [Y09 (by omega), if_neg (fun a => by unfold zE at a; have := beq_iff_eq.1 a; omega)]
 ·rw [Y0b (by omega), if_pos (by unfold zE; exact beq_iff_eq.2 (by omega))]
theorem s_lower (W H : Nat) (u : Nat → Nat → Bool) (h2 : W % 2 = 0) (h3 : H % 3 = 0) (hw : W ≤ 200) (hh : H ≤ 200) :
  Y2i (mat H W u) (W : Int) (H : Int) = some (Y30 u (W / 2) (H / 3)) := by
 unfold Y2i
 rw [Y12, Yw (by omega), X5, part0 H (fun y => row W (u y))]
 refine Y36 (fun k => (row H (part k (fun y => row W (u y)) []), (k : Int))) H _ (by omega) ?_ ?_
 ·intro loop k hk
  unfold Y1p
  simp only []
  rw [Y12, Y02, Y09 (by omega), Yw (by omega), X5, Y1r _ _ _ _ hk, s_straight _ (by rw [Y02]; omega), X8, Yw (by omega), Yx (by omega), partS _ _ _ _ _ rfl, Y11]
 ·intro loop
  unfold Y1p
  simp only []
  rw [Y12, Y0b (by omega), partE, show row H (fun y => row W (u y)) = mat H W u from rfl, g_toCells W H u h2 h3 hw hh, X8, cn_neg rfl]
  simp only []
  rw [Y02, Yw (by omega)]
  refine Y36 (fun k => (row k (Y13 u (W / 2)), ((lend zE (row k (Y13 u (W / 2))) : Nat) : Int), (k : Int))) (H / 3) _ (by omega) ?_ ?_
  ·intro loop2 k hk
   show Y0f (row (H / 3) fun r => row (W / 2) (cells u r), 0) loop2 (row k (Y13 u (W / 2))) ((lend zE (row k (Y13 u (W / 2))) : Nat) : Int) (k : Int) = _
   unfold Y0f Y1o
   rw [X5]
   simp only []
   rw [Y02, Y09 (by omega), Yw (by omega), Y4t _ _ _ _ hk, l_trim _ (by rw [Y02]; omega), X8, Y02, Y4s (by omega), show trim z0 (row (W / 2) (cells u k)) = Y13 u (W / 2) k from rfl, row_snoc, Y02, Yw (by omega), Y4t (k + 1) _ _ _ (by omega), cl_pos, Yx (by omega), lend_row, Y11]
   by_cases hz : zE (Y13 u (W / 2) k)
   ·rw [if_pos hz, if_pos hz]
   ·rw [if_neg hz, if_neg hz, Yx (by omega), Yx (by omega)]
  ·intro loop2
   show Y0f (row (H / 3) fun r => row (W / 2) (cells u r), 0) loop2 (row (H / 3) (Y13 u (W / 2))) ((lend zE (row (H / 3) (Y13 u (W / 2))) : Nat) : Int) ((H / 3 : Nat) : Int) = _
   unfold Y0f
   simp only []
   have := lend_le zE (row (H / 3) (Y13 u (W / 2)))
   rw [Y02, Y0b (by omega), Yw (by omega), X5]
   rfl
theorem s_lowerT (W H : Nat) (u : Nat → Nat → Bool) (h2 : W % 2 = 0) (h3 : H % 3 = 0) (hw : W ≤ 200) (hh : H ≤ 200) :
  Y2h (mat H W u) (W : Int) (H : Int) = some (Y30 (fun y x => u y (W - 1 - x)) (W / 2) (H / 3)) := by
 unfold Y2h
 rw [Y12, Yw (by omega), X5, part0 H (fun y => row W fun x => u y (W - 1 - x))]
 refine Y36 (fun k => (row H (part k (fun y => row W fun x => u y (W - 1 - x)) []), (k : Int))) H _ (by omega) ?_ ?_
 ·intro loop k hk
  unfold Y1n
  simp only []
  rw [Y12, Y02, Y09 (by omega), Yw (by omega), X5, Y1r _ _ _ _ hk, s_turned _ (by rw [Y02]; omega), X8, Yw (by omega), Yx (by omega), row_rev, partS _ _ _ _ _ rfl, Y11]
 ·intro loop
  unfold Y1n
  simp only []
  rw [Y12, Y0b (by omega), partE, show row H (fun y => row W fun x => u y (W - 1 - x)) = mat H W (fun y x => u y (W - 1 - x)) from rfl, g_toCells W H _ h2 h3 hw hh, X8, cn_neg rfl]
  simp only []
  generalize (fun y x => u y (W - 1 - x)) = u
  rw [Y02, Yw (by omega)]
  refine Y36 (fun k => (row k (Y13 u (W / 2)), ((lend zE (row k (Y13 u (W / 2))) : Nat) : Int), (k : Int))) (H / 3) _ (by omega) ?_ ?_
  ·intro loop2 k hk
   show Y0e (row (H / 3) fun r => row (W / 2) (cells u r), 0) loop2 (row k (Y13 u (W / 2))) ((lend zE (row k (Y13 u (W / 2))) : Nat) : Int) (k : Int) = _
   unfold Y0e Y1m
   rw [X5]
   simp only []
   rw [Y02, Y09 (by omega), Yw (by omega), Y4t _ _ _ _ hk, l_trim _ (by rw [Y02]; omega), X8, Y02, Y4s (by omega), show trim z0 (row (W / 2) (cells u k)) = Y13 u (W / 2) k from rfl, row_snoc, Y02, Yw (by omega), Y4t (k + 1) _ _ _ (by omega), cl_pos, Yx (by omega), lend_row, Y11]
   by_cases hz : zE (Y13 u (W / 2) k)
   ·rw [if_pos hz, if_pos hz]
   ·rw [if_neg hz, if_neg hz, Yx (by omega), Yx (by omega)]
  ·intro loop2
   show Y0e (row (H / 3) fun r => row (W / 2) (cells u r), 0) loop2 (row (H / 3) (Y13 u (W / 2))) ((lend zE (row (H / 3) (Y13 u (W / 2))) : Nat) : Int) ((H / 3 : Nat) : Int) = _
   unfold Y0e
   simp only []
   have := lend_le zE (row (H / 3) (Y13 u (W / 2)))
   rw [Y02, Y0b (by omega), Yw (by omega), X5]
   rfl
def okWH (W H : Nat) : Prop := W % 2 = 0 ∧ H % 3 = 0 ∧ 48 ≤ W ∧ W ≤ 120 ∧ 12 ≤ H ∧ H ≤ 120
theorem vpl_PL (W H : Nat) (u v : Nat → Nat → Bool) (h : okWH W H) : vpl (PL W H u v) = true := by
 obtain ⟨a, b, c, d, e, f⟩ := h
 have e2 : Int.tdiv (H : Int) 3 = ((H / 3 : Nat) : Int) := by rw [Xp (by omega)]; omega
 have e1 : Int.tdiv (W : Int) 2 = ((W / 2 : Nat) : Int) := by rw [Xp (by omega)]; omega
 have m2 : Int.tmod (H : Int) 3 = 0 := by rw [Xr (by omega)]; omega
 have m1 : Int.tmod (W : Int) 2 = 0 := by rw [Xr (by omega)]; omega
 unfold vpl vsz
 rw [decide_eq_true (mat_ok H W u), decide_eq_true (mat_ok H W v)]
 simp only [PL, e1, e2, m1, m2]
 rw [decide_eq_false (by omega), decide_eq_false (by omega), decide_eq_false (by omega), decide_eq_false (by omega)]
 rfl
theorem s_validPL (W H : Nat) (u v : Nat → Nat → Bool) (h : okWH W H) : Y0h (PL W H u v) = some true := by
 have hh := h
 obtain ⟨a, b, c, d, e, f⟩ := hh
 rw [s_valid _ (by unfold small; simp only [PL]; omega) (by unfold small; simp only [PL]; omega) (by simp only [PL, Y12]; omega) (by simp only [PL, Y12]; omega), vpl_PL W H u v h]
theorem r_validPL (W H : Nat) (u v : Nat → Nat → Bool) (h : okWH W H) : Y46 (PL W H u v) = some true := by
 have hh := h
 obtain ⟨a, b, c, d, e, f⟩ := hh
 rw [r_valid _ (by unfold small; simp only [PL]; omega) (by unfold small; simp only [PL]; omega) (by simp only [PL, Y12]; omega) (by simp only [PL, Y12]; omega), vpl_PL W H u v h]
theorem s_front (W H : Nat) (u v : Nat → Nat → Bool) (h : okWH W H) : Y4e (PL W H u v) = some (Y30 u (W / 2) (H / 3)) := by
 have hh := h
 obtain ⟨a, b, c, d, e, f⟩ := hh
 unfold Y4e
 rw [s_validPL W H u v h, X8, show (!true) = false from rfl, Y00 rfl, s_lower W H u a b (by omega) (by omega), X8]
theorem s_back (W H : Nat) (u v : Nat → Nat → Bool) (h : okWH W H) : Y42 (PL W H u v) = some (Y30 (fun y x => v y (W - 1 - x)) (W / 2) (H / 3)) := by
 have hh := h
 obtain ⟨a, b, c, d, e, f⟩ := hh
 unfold Y42
 rw [s_validPL W H u v h, X8, show (!true) = false from rfl, Y00 rfl, s_lowerT W H v a b (by omega) (by omega), X8]
end Go.Proofs.YtbcfmhoaocifoaaDoor
