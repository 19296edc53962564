/- Own work. -/
import Derived.Test.YtioockkejhpleaaDoorFm11
set_option linter.unusedSimpArgs false
set_option linter.unusedVariables false
namespace Go.Proofs.YtioockkejhpleaaDoor
open Go.Abs
theorem linear_sign_eq (o : Int) : Y3m o = some (signC o) := by
  unfold Y3m signC
  by_cases h2 : o = 2
  · rw [Yo h2, if_pos h2]
  rw [Yi h2, if_neg h2]
  by_cases h3 : o = 3
  · rw [Yo h3, if_pos h3]
  rw [Yi h3, if_neg h3]
  by_cases h4 : o = 4
  · rw [Yo h4, if_pos h4]
  rw [Yi h4, if_neg h4]
theorem linear_exponent_eq (o : Int) : Y2c o = some (expC o) := by
  unfold Y2c expC
  by_cases h : o = 7
  · rw [Yo h, if_pos h]
  · rw [Yi h, if_neg h]
theorem linear_simple_eq {o : Int} (h0 : 0 ≤ o ∧ o ≤ 13) : Y41 o = some (simpleO o) := by
  have hc : o = 0 ∨ o = 1 ∨ o = 2 ∨ o = 3 ∨ o = 4 ∨ o = 5 ∨ o = 6 ∨ o = 7 ∨ o = 8 ∨ o = 9 ∨ o = 10 ∨ o = 11 ∨ o = 12 ∨ o = 13 := by omega
  rcases hc with rfl | rfl | rfl | rfl | rfl | rfl | rfl | rfl | rfl | rfl | rfl | rfl | rfl | rfl <;> rfl
theorem lvOk_snoc {l : List Int} (h : lvOk l) (o : Int) : lvOk (l ++ [expC o]) := fun y hy => by
  rcases X07.1 hy with hy | hy
  · exact h y hy
  · have : y = expC o := by simpa using hy
    rw [this]; unfold expC; split <;> omega
def NodeC (F : Y5 → Option Y5) (f : List Y4) (d : Nat) : Prop := ∀ (T : Tr) (pre post : List Y4) (l c : List Int), T.good d → f = pre ++ T.flat ++ post → lvOk l → c.length + 100 * T.flat.length ≤ 1000000 → l.length + d ≤ 30 →
  F (W f pre.length l c) = some (W f (pre.length + T.flat.length) l (c ++ T.cells l)) ∧ (T.cells l).length ≤ 100 * T.flat.length
theorem pow_k1C {F : Y5 → Option Y5} {f : List Y4} {d : Nat} (hF : NodeC F f d) {o : Int} {T : Tr} {pre post : List Y4} {l c : List Int} (ht : T.good d) (hf : f = pre ++ T.flat ++ post) (hl : lvOk l) (hc : c.length + 100 * T.flat.length + 64 ≤ 1000000) (h40 : l.length + d + 1 ≤ 30) :
    Y02 F o (W f pre.length l c) = some (W f (pre.length + T.flat.length) l (c ++ ((16 :: (l ++ [expC o])) ++ T.cells (l ++ [expC o]) ++ (16 :: l)))) ∧ (T.cells (l ++ [expC o])).length ≤ 100 * T.flat.length := by
  have hl2 := lvOk_snoc hl o
  have hll : (l ++ [expC o]).length = l.length + 1 := by simp
  obtain ⟨r1, r3⟩ := hF T pre post (l ++ [expC o]) (c ++ [16] ++ (l ++ [expC o])) ht hf hl2 (by simp only [X2, X7, X8]; omega) (by omega)
  refine ⟨?_, r3⟩
  unfold Y02
  rw [linear_exponent_eq, X0, Y0e (by simp only [X7, X8]; omega)]
  simp only
  rw [Y4n (by simp only [X7, X8]; omega), X0]
  simp only
  rw [putl_ok (by simp only [X2, X7, X8]; omega), X0]
  simp only
  rw [r1, X0]
  simp only
  rw [hll, Y09 (by omega), Y01 (by omega)]
  rw [show (((l.length + 1 : Nat) : Int) - 1).toNat = l.length by omega, X12]
  rw [Y4n (by simp only [X2, X7, X8]; omega), X0]
  simp only
  rw [putl_ok (by simp only [X2, X7, X8]; omega), X0]
  simp only [Xb, X06, X02]
def PowC (F : Y5 → Int → Option Y5) (f : List Y4) (d : Nat) : Prop := ∀ (n : Y4) (a b : Tr) (pre post : List Y4) (l c : List Int), a.good d → b.good d → f = pre ++ (n :: (a.flat ++ b.flat)) ++ post → lvOk l → c.length + 100 * (1 + a.flat.length + b.flat.length) ≤ 1000000 → l.length + d + 1 ≤ 30 →
  F (W f (pre.length + 1) l c) n.Op = some (W f (pre.length + 1 + a.flat.length + b.flat.length) l (c ++ powC l (expC n.Op) [a, b])) ∧ (powC l (expC n.Op) [a, b]).length ≤ 100 * (1 + a.flat.length + b.flat.length)
theorem good_head {d : Nat} {T : Tr} (h : T.good d) : 0 ≤ (hd T.flat).Op ∧ (hd T.flat).Op ≤ 13 := by
  cases d with
  | zero => cases T; exact h.elim
  | succ d =>
    cases T with
    | node n ks =>
      have hc := ar_cases h.1
      have e : hd (Tr.node n ks).flat = n := by rw [Tr.flat]; rfl
      rw [e]
      omega
theorem good_pos {d : Nat} {T : Tr} (h : T.good d) : 0 < T.flat.length := (Y3u d T h).pos
theorem powC_eq (l : List Int) (x : Int) (a b : Tr) : powC l x [a, b] = (if simpleO (hd a.flat).Op then a.cells l else 35 :: (a.cells l ++ [50])) ++ (16 :: (l ++ [x])) ++ b.cells (l ++ [x]) ++ (16 :: l) := by rw [powC]
theorem power_bodyC {F : Y5 → Option Y5} {f : List Y4} {d : Nat} (hF : NodeC F f d) (hl6 : f.length ≤ 100000) (P : Y5 → Int → Option Y5) (B : Y5 → Y4 → Int → Option Y5) : PowC (Y0m F P B) f d := by
  intro n a b pre post l c ha hb hf hl hc h40
  have hap := good_pos ha
  have hlen : pre.length + 1 < f.length := by
    rw [hf]; simp; omega
  have hpl : (pre ++ [n]).length = pre.length + 1 := by simp
  have hfa : f = (pre ++ [n]) ++ a.flat ++ (b.flat ++ post) := by rw [hf]; simp
  have hfb : f = (pre ++ n :: a.flat) ++ b.flat ++ post := by rw [hf]; simp
  have hpl2 : (pre ++ n :: a.flat).length = pre.length + 1 + a.flat.length := by simp; omega
  have hh := (hd_at (Y3u d a ha) hfa).1
  rw [hpl] at hh
  rw [powC_eq]
  unfold Y0m
  simp only
  rw [Y01 (by omega), Xa, hh, linear_simple_eq (good_head ha), X0]
  cases hs : simpleO (hd a.flat).Op with
  | true =>
    obtain ⟨r1, r3⟩ := hF a _ _ l c ha hfa hl (by omega) (by omega)
    rw [hpl] at r1
    obtain ⟨q1, q3⟩ := pow_k1C hF (o := n.Op) (c := c ++ a.cells l) hb hfb hl (by simp only [X2]; omega) h40
    rw [hpl2] at q1
    refine ⟨?_, by rw [if_pos rfl]; simp only [X2, X7, X8]; omega⟩
    rw [cond_true, r1, X0, if_pos rfl]
    simp only
    rw [q1]
    simp only [Xb]
  | false =>
    obtain ⟨r1, r3⟩ := hF a _ _ l (c ++ [35]) ha hfa hl (by simp only [X2, X7, X8]; omega) (by omega)
    rw [hpl] at r1
    obtain ⟨q1, q3⟩ := pow_k1C hF (o := n.Op) (c := c ++ [35] ++ a.cells l ++ [50]) hb hfb hl (by simp only [X2, X7, X8]; omega) h40
    rw [hpl2] at q1
    refine ⟨?_, by rw [if_neg (by simp)]; simp only [X2, X7, X8]; omega⟩
    rw [cond_false, Y4n (by simp only [X7, X8]; omega), X0]
    simp only
    rw [r1, X0]
    simp only
    rw [Y4n (by simp only [X2, X7, X8]; omega), X0]
    simp only
    rw [q1, if_neg (by simp)]
    simp only [Xb, X06, X02]
end Go.Proofs.YtioockkejhpleaaDoor
