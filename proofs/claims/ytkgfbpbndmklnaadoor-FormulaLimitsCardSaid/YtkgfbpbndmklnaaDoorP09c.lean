/- Own work. -/
import Derived.Test.YtkgfbpbndmklnaaDoorP09b
import Derived.Test.YtkgfbpbndmklnaaDoorFmX
set_option linter.unusedSimpArgs false
set_option linter.unusedVariables false
namespace Go.Proofs.YtkgfbpbndmklnaaDoor
open Go.Abs
def par : Nat → Tr → Tr
  | 0, T => T
  | k + 1, T => .node ⟨10, 0⟩ [par k T]
theorem par_good {d : Nat} {T : Tr} (h : Y2o d T) : ∀ k : Nat, Y2o (k + d) (par k T)
  | 0 => by rw [X05]; exact h
  | k + 1 => by
    rw [show k + 1 + d = (k + d) + 1 by omega]
    refine ⟨rfl, ⟨par_good h k, trivial⟩, fun i x hx => rfl⟩
theorem par_tx (k : Nat) (T : Tr) : (par (k + 1) T).tx = [40] ++ (par k T).tx ++ [41] := by
  rw [par, Tr.tx, if_neg (by decide), if_neg (by decide), wrapT, if_neg (by decide), if_pos rfl, txs, txs, if_pos rfl]
  simp
theorem par_flat (k : Nat) (T : Tr) : (par (k + 1) T).flat = [⟨10, 0⟩] ++ (par k T).flat := by
  rw [par, Tr.flat, flatL, flatL]; simp
theorem par_len (T : Tr) : ∀ k : Nat, (par k T).flat.length = k + T.flat.length
  | 0 => by simp [par]
  | k + 1 => by rw [par_flat, X4, par_len T k]; simp; omega
theorem par_txl (T : Tr) : ∀ k : Nat, (par k T).tx.length = 2 * k + T.tx.length
  | 0 => by simp [par]
  | k + 1 => by rw [par_tx, X4, X4, par_txl T k]; simp; omega
theorem par_dep (T : Tr) : ∀ k : Nat, (par k T).dep = k + T.dep
  | 0 => by simp [par]
  | k + 1 => by
    have := dep_pos (par k T)
    rw [par, Tr.dep, depL, depL, Vp, par_dep T k]
    push_cast; omega
def xT : Tr := .node ⟨1, 23⟩ []
def sm : Nat → Tr
  | 0 => xT
  | k + 1 => .node ⟨2, 0⟩ [sm k, xT]
theorem xT_good (d : Nat) : Y2o (d + 1) xT := ⟨rfl, trivial, fun i k hk => by simp at hk⟩
theorem sm_good : ∀ k : Nat, Y2o (k + 1) (sm k)
  | 0 => xT_good 0
  | k + 1 => by
    refine ⟨rfl, ⟨sm_good k, xT_good k, trivial⟩, fun i x hx => ?_⟩
    match i, hx with
    | 0, hx => cases hx; cases k <;> rfl
    | 1, hx => cases hx; rfl
    | i + 2, hx => simp at hx
theorem xT_tx : xT.tx = [120] := by rw [xT, Tr.tx, if_neg (by decide), if_pos rfl]; rfl
theorem sm_tx (k : Nat) : (sm (k + 1)).tx = (sm k).tx ++ [43, 120] := by
  rw [sm, Tr.tx, if_neg (by decide), if_neg (by decide), wrapT, if_pos (by decide), txs, txs, txs, if_pos rfl, if_neg (by decide), xT_tx]
  rw [X0e, X0a]
  rfl
theorem sm_txl : ∀ k : Nat, (sm k).tx.length = 2 * k + 1
  | 0 => by rw [sm, xT_tx]; rfl
  | k + 1 => by rw [sm_tx, X4, sm_txl k]; simp; omega
theorem sm_dep : ∀ k : Nat, (sm k).dep = k + 1
  | 0 => rfl
  | k + 1 => by
    have e : xT.dep = 1 := rfl
    rw [sm, dep_two, sm_dep k, e, Vn]
    push_cast; omega
theorem sm_len : ∀ k : Nat, (sm k).flat.length = 2 * k + 1
  | 0 => rfl
  | k + 1 => by
    have e : xT.flat.length = 1 := rfl
    rw [sm, flat_two, sm_len k, e]; omega
theorem Same_refl (f : List Y4) (hl : f.length ≤ 100000) : f_R09_Same f f = some true := by
  unfold f_R09_Same
  rw [bne_self_eq_false, cond_false]
  have run : ∀ (j i m : Nat), i + j = f.length → iter (fun loop (s : Int) => Y3w f f loop s) (m + 1 + j) (i : Int) = some true := by
    intro j
    induction j with
    | zero =>
      intro i m hi
      rw [X0d, Y0r]
      unfold Y3w
      rw [Y2x (by omega)]
    | succ j ih =>
      intro i m hi
      rw [show m + 1 + (j + 1) = (m + 1 + j) + 1 by omega, Y0r]
      show Y3w f f _ _ = _
      unfold Y3w
      rw [Y3b (by omega), Y2q (by omega), Y2q (by omega), beq_self_eq_true, beq_self_eq_true, show (xor true ([true, true].all id)) = false from rfl, cond_false, Y3h (by omega)]
      exact ih (i + 1) m (by omega)
  have := run f.length 0 (999999 - f.length) (by omega)
  rw [show 999999 - f.length + 1 + f.length = 1000000 by omega] at this
  exact this
theorem ar_okN {n : Y4} {k : Nat} (h : ar n = some k) : okN n := by
  have hc := ar_cases h
  obtain ⟨o, N⟩ := n
  have : 0 ≤ N ∧ N ≤ 99999 := by
    unfold ar at h
    simp only at h
    repeat' split at h
    all_goals first
      | omega
      | cases h
  simp only at hc
  exact ⟨⟨by simp only; omega, by simp only; omega⟩, ⟨by simp only; omega, by simp only; omega⟩⟩
mutual
theorem good_okN : ∀ (d : Nat) (T : Tr), Y2o d T → ∀ n ∈ T.flat, okN n
  | 0, T, h, _, _ => by cases T; exact h.elim
  | d + 1, .node n ks, h, m, hm => by
    rw [Tr.flat, X00] at hm
    rcases hm with rfl | hm
    · exact ar_okN h.1
    · exact goodL_okN d ks h.2.1 m hm
theorem goodL_okN : ∀ (d : Nat) (ks : List Tr), goodL d ks → ∀ n ∈ flatL ks, okN n
  | d, [], _, m, hm => by rw [flatL] at hm; cases hm
  | d, k :: ks, h, m, hm => by
    rw [flatL, Xw] at hm
    rcases hm with hm | hm
    · exact good_okN d k h.1 m hm
    · exact goodL_okN d ks h.2 m hm
end
theorem formula_Valid_good {d : Nat} {T : Tr} (hd : d ≤ 100) (h : Y2o d T) (hl : T.flat.length ≤ 1000) : Y2d T.flat = some (decide (T.flat.length ≤ 60 ∧ T.dep ≤ 8)) := by
  by_cases hs : T.flat.length ≤ 60 ∧ T.dep ≤ 8
  · rw [decide_eq_true hs]
    exact formula_Valid_ok (good_IsT _ _ (good_at d T h 8 hs.2)) (by omega) hs.1
  · rw [decide_eq_false hs]
    obtain ⟨b, hb, hb2⟩ := formula_Valid_tot (good_okN d T h)
    cases b with
    | false => exact hb
    | true =>
      exfalso
      obtain ⟨h60, e, he, hT⟩ := hb2 rfl
      obtain ⟨U, u1, u2⟩ := IsT_good e _ hT
      have := flat_inj hd (by omega) h u2 u1.symm (by omega)
      subst this
      have := good_dep_le e T u2
      exact hs ⟨h60, by omega⟩
def flB1 (t1 t2 : Int) (f : List Y4) (v6 : ByteArray) (v7 : List Y4) : (ByteArray × Int → Option Bool) → ByteArray × Int → Option Bool := fun loop s => Y05 t1 t2 true f v6 v7 loop s.1 s.2
def flB2 (t1 t2 : Int) (f : List Y4) : (ByteArray × List Y4 × Int → Option Bool) → ByteArray × List Y4 × Int → Option Bool := fun loop s => Y0t t1 t2 true f loop s.1 s.2.1 s.2.2
theorem plain_FormulaLimits {t0 : List Int} {t1 t2 : Int} (h0 : okList (okInt .u8) t0) (h1 : okInt .u8 t1) (h2 : okInt .u8 t2) : Y40 t0 t1 t2 = some true := by
  obtain ⟨T, hM, hg, hl, hx⟩ := Made_good h0
  have h1' : 0 ≤ t1 ∧ t1 ≤ 255 := h1
  have h2' : 0 ≤ t2 ∧ t2 ≤ 255 := h2
  obtain ⟨k, hk, hk40⟩ : ∃ k : Nat, Int.tmod (IntKind.wrap .i64 t1) 41 = (k : Int) ∧ k ≤ 40 := by
    rw [wrap_i64 (by omega), X0r h1'.1]
    exact ⟨(t1 % 41).toNat, by omega, by omega⟩
  obtain ⟨v, hv, hv39⟩ : ∃ v : Nat, Int.tmod (IntKind.wrap .i64 t2) 40 = (v : Int) ∧ v ≤ 39 := by
    rw [wrap_i64 (by omega), X0r h2'.1]
    exact ⟨(t2 % 40).toNat, by omega, by omega⟩
  unfold Y40
  rw [show f_L09_sanity = some true from rfl, X9, hM, X9, hv, Y3h (by omega), R09_Print_ok (by omega) hg hl, X9, X0a]
  rw [Y2q (by unfold room; simp only [Xj]; omega)]
  have hdp := dep_pos T
  have hd5 := good_dep_le 5 T hg
  have gk := par_good hg k
  have lk := par_len T k
  have dk := par_dep T k
  have xk := par_txl T k
  -- the end
  have fin : Y05 t1 t2 true T.flat (B (par k T).tx) (par k T).flat (fun _ => none) (B (sm v).tx) ((1 + v : Nat) : Int) = some true := by
    unfold Y05
    rw [hk, hv, Y2x (by omega)]
    have szp : (B (par k T).tx).size = 2 * k + T.tx.length := by rw [B_size, xk]
    have szm : (B (sm v).tx).size = 2 * v + 1 := by rw [B_size, sm_txl]
    rw [parse_read (by rw [szp]; omega) (rdF_text gk), X9, parse_read (by rw [szm]; omega) (rdF_text (sm_good v)), X9, R09_Depth_ok (by omega) hg (by omega), X9, Y3h (by omega)]
    rw [szm, dk, sm_dep, sm_len]
    have eV := formula_Valid_good (by omega) gk (by omega)
    have eS := Same_refl (par k T).flat (by omega)
    rw [dk] at eV
    have sec : (cond (cond (cond (decide ((8 : Int) < (1 : Int) + (v : Int))) (((if (60 : Int) < ((2 * v + 1 : Nat) : Int) ∨ (8 : Int) < (v : Int) + 1 then (([] : List Y4), (0 : Int), (2 : Int)) else ((sm v).flat, ((2 * v + 1 : Nat) : Int), 0)).2.2 == (2 : Int))) false) ((if (60 : Int) < ((2 * v + 1 : Nat) : Int) ∨ (8 : Int) < (v : Int) + 1 then (([] : List Y4), (0 : Int), (2 : Int)) else ((sm v).flat, ((2 * v + 1 : Nat) : Int), 0)).2.1 == (0 : Int)) false) true (cond (cond (!(decide ((8 : Int) < (1 : Int) + (v : Int)))) ((if (60 : Int) < ((2 * v + 1 : Nat) : Int) ∨ (8 : Int) < (v : Int) + 1 then (([] : List Y4), (0 : Int), (2 : Int)) else ((sm v).flat, ((2 * v + 1 : Nat) : Int), 0)).2.2 == (0 : Int)) false) ((if (60 : Int) < ((2 * v + 1 : Nat) : Int) ∨ (8 : Int) < (v : Int) + 1 then (([] : List Y4), (0 : Int), (2 : Int)) else ((sm v).flat, ((2 * v + 1 : Nat) : Int), 0)).2.1 == ((2 * v + 1 : Nat) : Int)) false)) = true := by
      by_cases h8 : (8 : Int) < 1 + (v : Int)
      · rw [Vp, decide_eq_true h8]; rfl
      · rw [Vn, decide_eq_false h8]; simp
    rw [sec]
    by_cases hdeep : (60 : Int) < ((par k T).flat.length : Int) ∨ (8 : Int) < (k : Int) + T.dep
    · have e1 : (cond (decide ((8 : Int) < T.dep + (k : Int))) true (decide ((60 : Int) < ((par k T).flat.length : Int)))) = true := by
        rcases hdeep with h | h
        · rw [decide_eq_true (p := (60 : Int) < _) h]; cases decide ((8 : Int) < T.dep + (k : Int)) <;> rfl
        · rw [decide_eq_true (p := (8 : Int) < _) (by omega)]; rfl
      rw [decide_eq_false (by omega)] at eV
      rw [if_pos hdeep, e1]
      simp [eV]
    · have e1 : (cond (decide ((8 : Int) < T.dep + (k : Int))) true (decide ((60 : Int) < ((par k T).flat.length : Int)))) = false := by
        rw [decide_eq_false (by omega), cond_false, decide_eq_false (by omega)]
      rw [decide_eq_true (by omega)] at eV
      rw [if_neg hdeep, e1]
      simp [eV, eS]
  have fin2 : ∀ L, Y05 t1 t2 true T.flat (B (par k T).tx) (par k T).flat L (B (sm v).tx) ((1 + v : Nat) : Int) = some true := fun L => by
    rw [← fin]
    unfold Y05
    rw [hk, hv, Y2x (by omega), Y2x (by omega)]
  have runS : ∀ (j i m : Nat), i + j = v → iter (flB1 t1 t2 T.flat (B (par k T).tx) (par k T).flat) (m + 1 + j) (B (sm i).tx, ((1 + i : Nat) : Int)) = some true := by
    intro j
    induction j with
    | zero =>
      intro i m hi
      have : i = v := by omega
      subst this
      rw [X0d, Y0r]
      exact fin2 _
    | succ j ih =>
      intro i m hi
      rw [show m + 1 + (j + 1) = (m + 1 + j) + 1 by omega, Y0r]
      have := ih (i + 1) m (by omega)
      generalize iter (flB1 t1 t2 T.flat (B (par k T).tx) (par k T).flat) (m + 1 + j) = L at this ⊢
      show Y05 t1 t2 true T.flat (B (par k T).tx) (par k T).flat L (B (sm i).tx) ((1 + i : Nat) : Int) = _
      unfold Y05
      rw [hv, Y3b (by omega), show (⟨#[43, 120]⟩ : ByteArray) = B [43, 120] from rfl, Y2q (bsz (by rw [sm_txl]; simp only [Xb, Xj]; omega)), Y3h (by omega), B_app, ← sm_tx]
      rw [show ((1 + i : Nat) : Int) + 1 = ((1 + (i + 1) : Nat) : Int) by omega]
      exact this
  have runP : ∀ (j i m : Nat), i + j = k → iter (flB2 t1 t2 T.flat) (m + 1 + j) (B (par i T).tx, (par i T).flat, (i : Int)) = some true := by
    intro j
    induction j with
    | zero =>
      intro i m hi
      have : i = k := by omega
      subst this
      rw [X0d, Y0r]
      show Y0t t1 t2 true T.flat _ (B (par i T).tx) (par i T).flat (i : Int) = _
      unfold Y0t
      rw [hk, Y2x (by omega)]
      have := runS v 0 (999999 - v) (by omega)
      rw [show 999999 - v + 1 + v = 1000000 by omega] at this
      rw [show (⟨#[120]⟩ : ByteArray) = B (sm 0).tx by rw [sm, xT_tx]; rfl]
      exact this
    | succ j ih =>
      intro i m hi
      rw [show m + 1 + (j + 1) = (m + 1 + j) + 1 by omega, Y0r]
      have := ih (i + 1) m (by omega)
      generalize iter (flB2 t1 t2 T.flat) (m + 1 + j) = L at this ⊢
      show Y0t t1 t2 true T.flat L (B (par i T).tx) (par i T).flat (i : Int) = _
      unfold Y0t
      have xi := par_txl T i
      have li := par_len T i
      rw [hk, Y3b (by omega), show (⟨#[40]⟩ : ByteArray) = B [40] from rfl, show (⟨#[41]⟩ : ByteArray) = B [41] from rfl, B_app, Y2q (bsz (by rw [xi]; simp only [Xb, Xj]; omega)), Y2q (bsz (by simp only [X4, Xb, Xj]; omega)), Y2q (by unfold room; simp only [Xb, Xj]; omega), Y3h (by omega), B_app, ← par_tx, ← par_flat]
      exact this
  have := runP k 0 (999999 - k) (by omega)
  rw [show 999999 - k + 1 + k = 1000000 by omega] at this
  exact this
end Go.Proofs.YtkgfbpbndmklnaaDoor
