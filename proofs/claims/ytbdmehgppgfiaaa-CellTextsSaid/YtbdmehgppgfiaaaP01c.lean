/-
  Own work. Chapter 01, plain part: costs and laws.
-/
import Derived.Test.YtbdmehgppgfiaaaP01b
set_option linter.unusedSimpArgs false
set_option linter.unusedVariables false
set_option maxRecDepth 100000
set_option linter.unusedSimpArgs false
set_option linter.unusedVariables false
namespace Go.Proofs.Ytbdmehgppgfiaaa
open Go.Abs

theorem f_cost (up m k : Nat) (h1 : up < 64) (h2 : m < 64) (h3 : k < 64) : f_cell_Cost ⟨up, m⟩ k = some (C m (up ^^^ k)) := by
  unfold f_cell_Cost
  rw [bXor_nat up k h1 h3, bind_some' (f_C m _ h2 (xor_lt up k h1 h3)).1]
theorem f_fits (up m k : Nat) (h1 : up < 64) (h2 : m < 64) (h3 : k < 64) : f_cell_Fits ⟨up, m⟩ k = some (C m (up ^^^ k) == 0) := by
  unfold f_cell_Fits
  rw [bind_some' (f_cost up m k h1 h2 h3)]
/-- How many of the dots from `k` on differ and are not doubtful. -/
def cf (m up c : Nat) (k : Nat) : Nat := ((List.range' k (6 - k)).countP fun i => !m.testBit i && (up.testBit i != c.testBit i))
theorem cf_step (m up c k : Nat) (hk : k < 6) : cf m up c k = cf m up c (k + 1) + if (!m.testBit k && (up.testBit k != c.testBit k)) then 1 else 0 := by
  unfold cf
  rw [show 6 - k = (6 - (k + 1)) + 1 from by omega, List.range'_succ, List.countP_cons]
theorem cf_xor (m up c : Nat) : cf m up c 0 = (List.range 6).countP (fun i => !m.testBit i && (up ^^^ c).testBit i) := by
  unfold cf
  rw [List.range_eq_range']
  congr 1
  funext i
  rw [Nat.testBit_xor]
theorem refCost_loop (up m c : Nat) (h1 : up < 64) (h2 : m < 64) (h3 : c < 64) : ∀ (n k : Nat) (v : Int), k ≤ 6 → 6 < n + k → 0 ≤ v ∧ v ≤ k →
    iter (fun loop (s : Int × Int) => f_R01_Cost_b1 ⟨up, m⟩ c loop s.1 s.2) n (v, (k : Int) + 1) = some (v + cf m up c k)
  | 0, k, v, a1, a2, a3 => by omega
  | n + 1, k, v, a1, a2, a3 => by
    rw [iter_succ, f_R01_Cost_b1]
    dsimp only
    by_cases hk : k < 6
    · have ih := refCost_loop up m c h1 h2 h3 n (k + 1)
      rw [cond_pos (by simp; omega), bind_some' (f_has m h2 k hk)]
      have hst := cf_step m up c k hk
      rw [hst]
      cases hm : m.testBit k with
      | true =>
        have hnt : (!true) = false := by decide
        rw [cond_neg hnt, bind_some' rfl, cond_neg hnt, bind_some' rfl, cond_neg (b := cond _ _ _) (by rw [hnt]; rfl), f_R01_Cost_k1, G_inR (by omega), if_neg (by simp), Nat.add_zero]
        have := ih v (by omega) (by omega) (by omega)
        rw [show (k : Int) + 1 + 1 = ((k + 1 : Nat) : Int) + 1 from by omega, this]
      | false =>
        simp only [Bool.not_false, cond_true, Bool.true_and]
        rw [bind_some' (f_has up h1 k hk), bind_some' (f_has c h3 k hk)]
        by_cases hd : (up.testBit k != c.testBit k) = true
        · rw [cond_pos hd, if_pos hd, G_inR (by omega), f_R01_Cost_k1, G_inR (by omega)]
          have := ih (v + 1) (by omega) (by omega) (by omega)
          rw [show (k : Int) + 1 + 1 = ((k + 1 : Nat) : Int) + 1 from by omega, this]
          congr 1
          omega
        · rw [cond_neg (by simpa using hd), if_neg hd, f_R01_Cost_k1, G_inR (by omega)]
          have := ih v (by omega) (by omega) (by omega)
          rw [show (k : Int) + 1 + 1 = ((k + 1 : Nat) : Int) + 1 from by omega, this]
          congr 1
    · rw [cond_neg (by simp; omega), show k = 6 from by omega]
      simp [cf]
theorem f_refCost (up m c : Nat) (h1 : up < 64) (h2 : m < 64) (h3 : c < 64) : f_R01_Cost ⟨up, m⟩ c = some (C m (up ^^^ c)) := by
  have := refCost_loop up m c h1 h2 h3 1000000 0 0 (by omega) (by omega) (by omega)
  have e := (f_C m (up ^^^ c) h2 (xor_lt up c h1 h3)).2.2.2.2
  rw [← cf_xor] at e
  unfold f_R01_Cost
  rw [show ((0 : Int), (1 : Int)) = ((0 : Int), ((0 : Nat) : Int) + 1) from rfl, this, e]
  simp
theorem refFits_loop (up m c : Nat) (h1 : up < 64) (h2 : m < 64) (h3 : c < 64) : ∀ (n k : Nat), k ≤ 6 → 6 < n + k →
    iter (fun loop (s : Int) => f_R01_Fits_b1 ⟨up, m⟩ c loop s) n ((k : Int) + 1) = some (cf m up c k == 0)
  | 0, k, a1, a2 => by omega
  | n + 1, k, a1, a2 => by
    rw [iter_succ, f_R01_Fits_b1]
    dsimp only
    by_cases hk : k < 6
    · have ih := refFits_loop up m c h1 h2 h3 n (k + 1)
      rw [cond_pos (by simp; omega), bind_some' (f_has m h2 k hk)]
      have hst := cf_step m up c k hk
      rw [hst]
      cases hm : m.testBit k with
      | true =>
        have hnt : (!true) = false := by decide
        rw [cond_neg hnt, bind_some' rfl, cond_neg hnt, bind_some' rfl, cond_neg (b := cond _ _ _) (by rw [hnt]; rfl), G_inR (by omega), if_neg (by simp), Nat.add_zero]
        have := ih (by omega) (by omega)
        rw [show (k : Int) + 1 + 1 = ((k + 1 : Nat) : Int) + 1 from by omega, this]
      | false =>
        simp only [Bool.not_false, cond_true, Bool.true_and]
        rw [bind_some' (f_has up h1 k hk), bind_some' (f_has c h3 k hk)]
        by_cases hd : (up.testBit k != c.testBit k) = true
        · rw [cond_pos hd, if_pos hd]
          congr 1
        · rw [cond_neg (by simpa using hd), if_neg hd, G_inR (by omega)]
          have := ih (by omega) (by omega)
          rw [show (k : Int) + 1 + 1 = ((k + 1 : Nat) : Int) + 1 from by omega, this]
          congr 1
    · rw [cond_neg (by simp; omega), show k = 6 from by omega]
      simp [cf]
theorem f_refFits (up m c : Nat) (h1 : up < 64) (h2 : m < 64) (h3 : c < 64) : f_R01_Fits ⟨up, m⟩ c = some (C m (up ^^^ c) == 0) := by
  have := refFits_loop up m c h1 h2 h3 1000000 0 (by omega) (by omega)
  have e := (f_C m (up ^^^ c) h2 (xor_lt up c h1 h3)).2.2.2.2
  rw [← cf_xor] at e
  unfold f_R01_Fits
  rw [show (1 : Int) = ((0 : Nat) : Int) + 1 from rfl, this, e]
  congr 1
  rw [Bool.eq_iff_iff]
  simp

theorem law_metric (t0 t1 t2 : Int) (h0 : 0 ≤ t0 ∧ t0 ≤ 255) (h1 : 0 ≤ t1 ∧ t1 ≤ 255) (h2 : 0 ≤ t2 ∧ t2 ≤ 255) : f_L01_CellMetric t0 t1 t2 = some true := by
  obtain ⟨a, ha, ea⟩ := tmod64 t0 h0
  obtain ⟨b, hb, eb⟩ := tmod64 t1 h1
  obtain ⟨c, hc, ec⟩ := tmod64 t2 h2
  have dab := f_D a b ha hb
  have dba := f_D b a hb ha
  have dac := f_D a c ha hc
  have dcb := f_D c b hc hb
  have ma := f_M a ha
  have mb := f_M b hb
  have mm := f_M (M a) ma.2.2.1
  have tri := D_tri a b c ha hb hc
  have dm := D_M a b ha hb
  have dmm := f_D (M a) (M b) ma.2.2.1 mb.2.2.1
  have dm0 := f_D (M a) 0 ma.2.2.1 (by omega)
  have da0 := f_D a 0 ha (by omega)
  unfold f_L01_CellMetric
  rw [bind_some' sanity_true, ea, eb, ec, bind_some' dab.1, bind_some' ma.1, cond_neg (by simp; omega), bind_some' dba.1]
  have e1 : (D a b == D b a) = true := by rw [dab.2.2.2.1]; simp
  have e2 : ((D a b == 0) == ((a : Int) == (b : Int))) = true := by
    rw [beq_iff_eq, Bool.eq_iff_iff]
    have := dab.2.2.2.2.1
    simp only [beq_iff_eq]
    rw [this]
    omega
  rw [cond_pos (b := cond _ _ _) (by rw [e1, e2]; rfl), bind_some' dac.1, cond_pos (b := cond _ _ _) (by rw [e1, e2]; rfl), bind_some' dcb.1, G_imp (fun _ => inR_of (by omega))]
  rw [e1, e2]
  have e3 : decide (D a b ≤ D a c + D c b) = true := by simpa using tri
  have e4 : decide (0 ≤ D a b) = true := by simpa using dab.2.2.2.2.2.1
  have e5 : decide (D a b ≤ 6) = true := by simpa using dab.2.2.2.2.2.2
  rw [e3, e4, e5]
  simp only [cond_true]
  rw [bind_some' mm.1, ma.2.2.2.1]
  simp only [beq_self_eq_true, cond_true]
  rw [bind_some' mb.1, bind_some' dmm.1, dm]
  simp only [beq_self_eq_true, cond_true]
  have z : ((0 : Nat) : Int) = 0 := rfl
  rw [z] at dm0 da0
  rw [bind_some' dm0.1, bind_some' da0.1, ma.2.2.2.2]
  simp
end Go.Proofs.Ytbdmehgppgfiaaa
