/- Own work. -/
import Derived.Test.YtioockkejhpleaaDoorFm5
import Derived.Test.YtioockkejhpleaaDoorFm12
set_option linter.unusedSimpArgs false
set_option linter.unusedVariables false
namespace Go.Proofs.YtioockkejhpleaaDoor
open Go.Abs
theorem flatL_app : ∀ (a b : List Tr), Y1o (a ++ b) = Y1o a ++ Y1o b
  | [], b => rfl
  | k :: a, b => by rw [X06, Y1o, Y1o, flatL_app a b, Xb]
theorem cellsL_cons (l : List Int) (n : Y4) (i : Nat) (k : Tr) (ks : List Tr) : Y1u l n i (k :: ks) = sepC n i ++ k.cells l ++ Y1u l n (i + 1) ks := by rw [Y1u]
def midC (o : Int) : Int := if o = 6 then 12 else if o = 12 ∨ o = 13 then 32 else 0
theorem map_all {o : Int} (h : o = 6 ∨ 9 ≤ o ∧ o ≤ 13) : Y26 Y8 o = [openC o, midC o, Y43 o] := by
  have hc : o = 6 ∨ o = 9 ∨ o = 10 ∨ o = 11 ∨ o = 12 ∨ o = 13 := by omega
  rcases hc with rfl | rfl | rfl | rfl | rfl | rfl <;> rfl
theorem brk_runC {F : Y5 → Option Y5} {f : List Y4} {d : Nat} (hF : NodeC F f d) (hl6 : f.length ≤ 100000) {n : Y4} {ks : List Tr} {pre post : List Y4} {l : List Int} (hks : goodL d ks) (hf : f = pre ++ (n :: Y1o ks) ++ post) (ha : ar n = some ks.length) (h6 : n.Op = 6 ∨ 9 ≤ n.Op ∧ n.Op ≤ 13)
    (hl : lvOk l) (h40 : l.length + d + 1 ≤ 30) :
    ∀ (ls done : List Tr) (m : Nat) (c : List Int), ks = done ++ ls → c.length + 100 * (Y1o ls).length + ls.length + 1 ≤ 1000000 →
      iter (bkB F (ks.length : Int)) (m + 1 + ls.length) (W f (pre.length + 1 + (Y1o done).length) l c, n, [openC n.Op, midC n.Op, Y43 n.Op], (done.length : Int)) = some (W f (pre.length + 1 + (Y1o ks).length) l (c ++ (Y1u l n done.length ls ++ [Y43 n.Op]))) ∧ (Y1u l n done.length ls).length ≤ ls.length + 100 * (Y1o ls).length := by
  intro ls
  induction ls with
  | nil =>
    intro done m c he hc
    have hd : done = ks := by simpa using he.symm
    subst hd
    refine ⟨?_, by rw [Y1u]; simp⟩
    rw [show m + 1 + ([] : List Tr).length = m + 1 by simp, Yy]
    show Yf F (done.length : Int) _ (W f (pre.length + 1 + (Y1o done).length) l c) n [openC n.Op, midC n.Op, Y43 n.Op] (done.length : Int) = _
    unfold Yf
    rw [Y07 (by omega), show ([openC n.Op, midC n.Op, Y43 n.Op] : List Int).getD 2 0 = Y43 n.Op from rfl]
    rw [Y4n (by simp only [X7, X8]; omega), X0, Y1u]
    rfl
  | cons k ls ih =>
    intro done m c he hc
    have hkl : ks.length = done.length + (ls.length + 1) := by rw [he]; simp
    have h16 := ar_le ha
    have hg := Y2x.1 hks k (by rw [he]; simp)
    have hfk : f = (pre ++ n :: Y1o done) ++ k.flat ++ (Y1o ls ++ post) := by rw [hf, he, flatL_app, Y1o]; simp
    have hpk : (pre ++ n :: Y1o done).length = pre.length + 1 + (Y1o done).length := by rw [X2, X7]; omega
    have hfl : (Y1o (k :: ls)).length = k.flat.length + (Y1o ls).length := by rw [Y1o, X2]
    have hfd : (Y1o (done ++ [k])).length = (Y1o done).length + k.flat.length := by rw [flatL_app, X2]; simp [Y1o]
    rw [hfl] at hc ⊢
    have hlen : (k :: ls).length = ls.length + 1 := rfl
    rw [hlen] at hc ⊢
    have op : ∀ (c : List Int), c.length + 100 * (k.flat.length + (Y1o ls).length) + ls.length + 1 ≤ 1000000 → Yn F (iter (bkB F (ks.length : Int)) (m + 1 + ls.length)) (done.length : Int) (W f (pre.length + 1 + (Y1o done).length) l c) n [openC n.Op, midC n.Op, Y43 n.Op] = some (W f (pre.length + 1 + (Y1o ks).length) l (c ++ (k.cells l ++ Y1u l n (done.length + 1) ls ++ [Y43 n.Op]))) ∧ (k.cells l).length + (Y1u l n (done.length + 1) ls).length ≤ ls.length + 100 * (k.flat.length + (Y1o ls).length) := by
      intro c hc
      obtain ⟨r1, r3⟩ := hF k _ _ l c hg hfk hl (by omega) (by omega)
      rw [hpk] at r1
      obtain ⟨q1, q3⟩ := ih (done ++ [k]) m (c ++ k.cells l) (by rw [he]; simp) (by simp only [X2]; omega)
      have hdl : (done ++ [k]).length = done.length + 1 := by simp
      rw [hdl, hfd, ← X0h] at q1
      rw [hdl] at q3
      refine ⟨?_, by omega⟩
      unfold Yn Y0r
      simp only
      rw [r1, X0, Y09 (by omega)]
      have e : c ++ (k.cells l ++ Y1u l n (done.length + 1) ls ++ [Y43 n.Op]) = c ++ k.cells l ++ (Y1u l n (done.length + 1) ls ++ [Y43 n.Op]) := by simp
      rw [e, ← q1]
      rfl
    rw [show m + 1 + (ls.length + 1) = (m + 1 + ls.length) + 1 by omega, Yy, cellsL_cons]
    show Yf F (ks.length : Int) (iter (bkB F (ks.length : Int)) (m + 1 + ls.length)) (W f (pre.length + 1 + (Y1o done).length) l c) n [openC n.Op, midC n.Op, Y43 n.Op] (done.length : Int) = _ ∧ _
    unfold Yf
    simp only
    rw [Y0b (by omega)]
    by_cases h0 : (done.length : Int) = 0
    · rw [Yo h0]
      obtain ⟨e1, e3⟩ := op c (by omega)
      have hs : sepC n done.length = [] := by unfold sepC; rw [if_pos (by omega)]
      rw [hs]
      refine ⟨e1, by simp only [X2, X8]; omega⟩
    · rw [Yi h0]
      have hlt : 1 < ks.length := by omega
      have sp : ∀ b : Bool, sepC n done.length = [if b then 51 else midC n.Op] → Ym F (iter (bkB F (ks.length : Int)) (m + 1 + ls.length)) n [openC n.Op, midC n.Op, Y43 n.Op] (done.length : Int) (W f (pre.length + 1 + (Y1o done).length) l c) b = some (W f (pre.length + 1 + (Y1o ks).length) l (c ++ (sepC n done.length ++ k.cells l ++ Y1u l n (done.length + 1) ls ++ [Y43 n.Op]))) ∧ (sepC n done.length ++ k.cells l ++ Y1u l n (done.length + 1) ls).length ≤ ls.length + 1 + 100 * (k.flat.length + (Y1o ls).length) := by
        intro b hb
        rw [hb]
        obtain ⟨e1, e3⟩ := op (c ++ [if b then 51 else midC n.Op]) (by simp only [X2, X7, X8]; omega)
        refine ⟨?_, by simp only [X2, X7, X8]; omega⟩
        have e : c ++ ([if b then 51 else midC n.Op] ++ k.cells l ++ Y1u l n (done.length + 1) ls ++ [Y43 n.Op]) = c ++ [if b then 51 else midC n.Op] ++ (k.cells l ++ Y1u l n (done.length + 1) ls ++ [Y43 n.Op]) := by simp
        rw [e, ← e1]
        unfold Ym
        cases b with
        | true =>
          simp only
          rw [cond_true, Y4n (by simp only [X7, X8]; omega), X0]
          rfl
        | false =>
          simp only
          rw [cond_false, show ([openC n.Op, midC n.Op, Y43 n.Op] : List Int).getD 1 0 = midC n.Op from rfl, Y4n (by simp only [X7, X8]; omega), X0]
          rfl
      by_cases h12 : n.Op = 12
      · have e12 : (n.Op == 12) = true := beq_iff_eq.2 h12
        have e13 : (n.Op == 13) = false := beq_eq_false_iff_ne.2 (by omega)
        have hm : midC n.Op = 32 := by rw [h12]; rfl
        rw [e12, e13, cond_true]
        by_cases hN : (done.length : Int) = n.N
        · have eN : ((done.length : Int) == n.N) = true := beq_iff_eq.2 hN
          rw [eN, cond_true]
          exact sp true (by unfold sepC; rw [if_neg (by omega), if_pos h12, if_pos hN]; rfl)
        · have eN : ((done.length : Int) == n.N) = false := beq_eq_false_iff_ne.2 hN
          rw [eN, cond_false, Y01 (fun h => by cases h), cond_false]
          exact sp false (by unfold sepC; rw [if_neg (by omega), if_pos h12, if_neg hN, hm]; rfl)
      · have e12 : (n.Op == 12) = false := beq_eq_false_iff_ne.2 h12
        rw [e12, cond_false, cond_false]
        by_cases h13 : n.Op = 13
        · have e13 : (n.Op == 13) = true := beq_iff_eq.2 h13
          have hm : midC n.Op = 32 := by rw [h13]; rfl
          obtain ⟨hk, q⟩ := ar_mat ha h13
          have hN8 : n.N % 8 ≠ 0 := fun hz => by rw [hz, Int.mul_zero] at hk; omega
          have t1 : Int.tmod n.N 8 = n.N % 8 := tmod8 (by omega)
          have t2 : Int.tmod (done.length : Int) (n.N % 8) = (done.length : Int) % (n.N % 8) := tmod_n (by omega) _
          rw [e13, t1, Y01 (fun _ => hN8), cond_true, t2]
          by_cases hz : (done.length : Int) % (n.N % 8) = 0
          · have eN : ((done.length : Int) % (n.N % 8) == 0) = true := beq_iff_eq.2 hz
            rw [eN]
            exact sp true (by unfold sepC; rw [if_neg (by omega), if_neg h12, if_pos h13, if_pos hz]; rfl)
          · have eN : ((done.length : Int) % (n.N % 8) == 0) = false := beq_eq_false_iff_ne.2 hz
            rw [eN]
            exact sp false (by unfold sepC; rw [if_neg (by omega), if_neg h12, if_pos h13, if_neg hz, hm]; rfl)
        · have e13 : (n.Op == 13) = false := beq_eq_false_iff_ne.2 h13
          have ho6 : n.Op = 6 := by
            rcases h6 with h | h
            · exact h
            · have := ar_one ha (by omega) (by omega); omega
          have hm : midC n.Op = 12 := by rw [ho6]; rfl
          rw [e13, Y01 (fun h => by cases h), cond_false]
          exact sp false (by unfold sepC; rw [if_neg (by omega), if_neg h12, if_neg h13, hm]; rfl)
end Go.Proofs.YtioockkejhpleaaDoor
