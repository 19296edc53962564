/- Own work. -/
import Derived.Test.YtkgfbpbndmklnaaDoorW3
import Derived.Test.YtkgfbpbndmklnaaDoorPl2
import Derived.Test.YtkgfbpbndmklnaaDoorPl3
set_option linter.unusedSimpArgs false
set_option linter.unusedVariables false
namespace Go.Proofs.YtkgfbpbndmklnaaDoor
open Go.Abs
def ar (n : Y2) : Option Nat :=
  if n.Op = 0 then (if 0 ≤ n.N ∧ n.N ≤ 99999 then some 0 else none)
  else if n.Op = 1 then (if 0 ≤ n.N ∧ n.N ≤ 25 then some 0 else none)
  else if 2 ≤ n.Op ∧ n.Op ≤ 8 then (if n.N = 0 then some 2 else none)
  else if 9 ≤ n.Op ∧ n.Op ≤ 11 then (if n.N = 0 then some 1 else none)
  else if n.Op = 12 then (if 2 ≤ n.N ∧ n.N ≤ 5 then some (n.N.toNat + 1) else none)
  else if n.Op = 13 then (if 8 ≤ n.N ∧ n.N < 40 ∧ 1 ≤ n.N % 8 ∧ n.N % 8 ≤ 4 then some ((n.N / 8 * (n.N % 8)).toNat) else none)
  else none
def pr (o : Int) : Int := if o = 5 then 1 else if o = 2 ∨ o = 3 then 2 else if o = 4 then 3 else 4
def adm (n : Y2) (i : Nat) (m : Y2) : Bool :=
  if 2 ≤ n.Op ∧ n.Op ≤ 5 then (if i = 0 then decide (pr n.Op ≤ pr m.Op) else decide (pr n.Op < pr m.Op)) else if n.Op = 12 then decide (m.Op = 0) else true
def hd (l : List Y2) : Y2 := l.getD 0 Yf
def IsTA (A : Y2 → Nat → Y2 → Bool) : Nat → List Y2 → Prop
  | 0, _ => False
  | d + 1, l => ∃ (n : Y2) (ks : List (List Y2)), l = n :: ks.flatten ∧ ar n = some ks.length ∧ (∀ k ∈ ks, IsTA A d k) ∧ ∀ (i : Nat) (k : List Y2), ks[i]? = some k → A n i (hd k) = true
abbrev IsT := IsTA adm
variable {A : Y2 → Nat → Y2 → Bool}
theorem IsTA.mono : ∀ {d : Nat} {t : List Y2}, IsTA A d t → IsTA A (d + 1) t
  | 0, t, h => h.elim
  | d + 1, t, h => by
    obtain ⟨n, ks, h1, h2, h3, h4⟩ := h
    exact ⟨n, ks, h1, h2, fun k hk => IsTA.mono (h3 k hk), h4⟩
theorem IsTA.le {d e : Nat} {t : List Y2} (h : IsTA A d t) (hde : d ≤ e) : IsTA A e t := by
  induction e with
  | zero => have : d = 0 := by omega
            subst this; exact h
  | succ e ih =>
    by_cases he : d = e + 1
    · subst he; exact h
    · exact (ih (by omega)).mono
theorem IsTA.pos {d : Nat} {t : List Y2} (h : IsTA A d t) : 0 < t.length := by
  cases d with
  | zero => exact h.elim
  | succ d => obtain ⟨n, ks, rfl, _⟩ := h; simp
theorem IsT.le {d e : Nat} {t : List Y2} (h : IsT d t) (hde : d ≤ e) : IsT e t := IsTA.le h hde
theorem ar_cases {n : Y2} {k : Nat} (h : ar n = some k) : n.Op = 0 ∨ n.Op = 1 ∨ n.Op = 2 ∨ n.Op = 3 ∨ n.Op = 4 ∨ n.Op = 5 ∨ n.Op = 6 ∨ n.Op = 7 ∨ n.Op = 8 ∨ n.Op = 9 ∨ n.Op = 10 ∨ n.Op = 11 ∨ n.Op = 12 ∨ n.Op = 13 := by
  unfold ar at h
  repeat' split at h
  all_goals first
    | omega
    | cases h
theorem tdiv8 {n : Int} (h : 0 ≤ n) : Int.tdiv n 8 = n / 8 := Int.tdiv_eq_ediv_of_nonneg h
theorem tmod8 {n : Int} (h : 0 ≤ n) : Int.tmod n 8 = n % 8 := Int.tmod_eq_emod_of_nonneg h
theorem mat_mul {n : Int} (h : 8 ≤ n ∧ n < 40 ∧ 1 ≤ n % 8 ∧ n % 8 ≤ 4) : 0 ≤ n / 8 * (n % 8) ∧ n / 8 * (n % 8) ≤ 16 := by
  have h1 : n / 8 ≤ 4 := by omega
  have h2 : n % 8 ≤ 4 := by omega
  have h3 : 0 ≤ n / 8 := by omega
  have h4 : 0 ≤ n % 8 := by omega
  have := Int.mul_le_mul h1 h2 h4 (by omega : (0 : Int) ≤ 4)
  exact ⟨Int.mul_nonneg h3 h4, by omega⟩
theorem ar_le {n : Y2} {k : Nat} (h : ar n = some k) : k ≤ 16 := by
  unfold ar at h
  repeat' split at h
  all_goals simp only [X0, reduceCtorEq] at h
  all_goals subst h
  all_goals first
    | omega
    | (rename_i hx
       have := mat_mul hx
       omega)
theorem R09_Arity_ok {n : Y2} {k : Nat} (h : ar n = some k) : Y2a n = some (k : Int) := by
  have hc := ar_cases h
  obtain ⟨o, N⟩ := n
  simp only at hc
  rcases hc with rfl | rfl | rfl | rfl | rfl | rfl | rfl | rfl | rfl | rfl | rfl | rfl | rfl | rfl
  all_goals first
    | (simp only [ar, Int.reduceEq, if_false, if_true, Int.reduceLE, and_true, true_and, and_self, and_false, false_and] at h
       split at h
       · rename_i hN
         simp only [X0] at h
         subst h
         first
           | (simp [Y2a, Y0j, Y1w, hN]; done)
           | (have h3 : inR (N + 1) := inR_of (by omega)
              simp [Y2a, Y0j, Y1w, hN, Y2y h3]; omega)
           | (have h0 : 0 ≤ N := by omega
              have hm := mat_mul hN
              have h3 : inR (N / 8) := inR_of (by omega)
              have h4 : inR (N / 8 * (N % 8)) := inR_of (by omega)
              have c1 : (0 : Int) < N := by omega
              have c2 : 1 ≤ N / 8 := by omega
              have c3 : N / 8 ≤ 4 := by omega
              simp [Y2a, Y0j, Y1w, tdiv8 h0, tmod8 h0, Y2y h3, Y2y h4, c1, c2, c3, hN]
              exact (Int.max_eq_left hm.1).symm)
       · cases h)
theorem formula_arity_ok {n : Y2} {k : Nat} (h : ar n = some k) : Y1k n = some ((k : Int), true) := by
  have hc := ar_cases h
  obtain ⟨o, N⟩ := n
  simp only at hc
  rcases hc with rfl | rfl | rfl | rfl | rfl | rfl | rfl | rfl | rfl | rfl | rfl | rfl | rfl | rfl
  all_goals first
    | (simp only [ar, Int.reduceEq, if_false, if_true, Int.reduceLE, and_true, true_and, and_self, and_false, false_and] at h
       split at h
       · rename_i hN
         simp only [X0] at h
         subst h
         first
           | (simp [Y1k, Yq, Y0s, hN]; done)
           | (have h3 : inR (N + 1) := inR_of (by omega)
              have c1 : ¬ N < 2 := by omega
              have c2 : ¬ 5 < N := by omega
              simp [Y1k, Yq, Y0s, c1, c2, Y2y h3]; omega)
           | (have h0 : 0 ≤ N := by omega
              have hm := mat_mul hN
              have h3 : inR (N / 8) := inR_of (by omega)
              have h4 : inR (N / 8 * (N % 8)) := inR_of (by omega)
              have c1 : ¬ N < 0 := by omega
              have c2 : 1 ≤ N / 8 := by omega
              have c3 : N / 8 ≤ 4 := by omega
              simp [Y1k, Yq, Y0s, tdiv8 h0, tmod8 h0, Y2y h3, Y2y h4, c1, c2, c3, hN]
              exact (Int.max_eq_left hm.1).symm)
       · cases h)
theorem R09_prec (o : Int) : Y1b o = some (pr o) := by
  unfold Y1b Y21 Y2k pr
  by_cases h5 : o = 5
  · simp [h5]
  · by_cases h2 : o = 2
    · simp [h2]
    · by_cases h3 : o = 3
      · simp [h3]
      · have b5 : (o == 5) = false := by simpa using h5
        have b2 : (o == 2) = false := by simpa using h2
        have b3 : (o == 3) = false := by simpa using h3
        by_cases h4 : o = 4
        · simp [h4]
        · have b4 : (o == 4) = false := by simpa using h4
          simp [h5, h2, h3, h4, b5, b2, b3, b4]
theorem formula_prec (o : Int) : Y0e o = some (pr o) := by
  unfold Y0e Y19 Y1s pr
  by_cases h5 : o = 5
  · simp [h5]
  · by_cases h2 : o = 2
    · simp [h2]
    · by_cases h3 : o = 3
      · simp [h3]
      · have b5 : (o == 5) = false := by simpa using h5
        have b2 : (o == 2) = false := by simpa using h2
        have b3 : (o == 3) = false := by simpa using h3
        by_cases h4 : o = 4
        · simp [h4]
        · have b4 : (o == 4) = false := by simpa using h4
          simp [h5, h2, h3, h4, b5, b2, b3, b4]
theorem formula_adm (n m : Y2) (i : Nat) : Y2n n (i : Int) m = some (adm n i m) := by
  unfold Y2n Y0y Y2h adm
  have hi : ((i : Int) == 0) = decide (i = 0) := by
    rw [Bool.eq_iff_iff]; simp
  simp only [formula_prec, X8, hi]
  by_cases h2 : n.Op = 2
  · by_cases h0 : i = 0 <;> simp [h2, h0]
  · by_cases h3 : n.Op = 3
    · by_cases h0 : i = 0 <;> simp [h3, h0]
    · by_cases h4 : n.Op = 4
      · by_cases h0 : i = 0 <;> simp [h4, h0]
      · by_cases h5 : n.Op = 5
        · by_cases h0 : i = 0 <;> simp [h5, h0]
        · have hn : ¬ (2 ≤ n.Op ∧ n.Op ≤ 5) := by omega
          by_cases h12 : n.Op = 12
          · simp [h12, Bool.beq_eq_decide_eq]
          · have b5 : (n.Op == 5) = false := by simpa using h5
            have b2 : (n.Op == 2) = false := by simpa using h2
            have b3 : (n.Op == 3) = false := by simpa using h3
            have b4 : (n.Op == 4) = false := by simpa using h4
            have b12 : (n.Op == 12) = false := by simpa using h12
            simp [h12, hn, b2, b3, b4, b5, b12]
theorem getD_mid (pre post : List Y2) (n : Y2) : (pre ++ n :: post).getD pre.length Yf = n := by simp [List.getD]
/- The reference's End. -/
def endB (f : List Y2) : (Int × Int → Option Int) → Int × Int → Option Int := fun loop s => Y3i f loop s.1 s.2
theorem end_step {f pre post : List Y2} {n : Y2} {k : Nat} (hf : f = pre ++ n :: post) (hl : f.length ≤ 100000) (ha : ar n = some k) {o : Nat} (h0 : 0 < o) (h1 : o ≤ 4000000) (loop : Int × Int → Option Int) :
    endB f loop ((pre.length : Int), (o : Int)) = loop (((pre.length + 1 : Nat) : Int), ((o + k - 1 : Nat) : Int)) := by
  have hlt : pre.length < f.length := by rw [hf]; simp
  have hg : f.getD pre.length Yf = n := by rw [hf]; exact getD_mid _ _ _
  have hk := ar_le ha
  unfold endB Y3i
  have c1 : decide ((0 : Int) < (o : Int)) = true := by simpa using h0
  have c2 : decide ((pre.length : Int) < 0) = false := by simp
  have c3 : decide ((f.length : Int) ≤ (pre.length : Int)) = false := by simp; omega
  have c4 : decide ((k : Int) < 0) = false := by simp
  have hb : (0 : Int) ≤ (pre.length : Int) ∧ (pre.length : Int) < (f.length : Int) := by omega
  have g1 : inR ((k : Int) - 1) := inR_of (by omega)
  have g2 : inR ((o : Int) + ((k : Int) - 1)) := inR_of (by omega)
  have g3 : inR ((pre.length : Int) + 1) := inR_of (by omega)
  simp only [c1, cond_true, c2, cond_false, c3, X0r, Xt, hg, R09_Arity_ok ha, X8, c4, Y2y hb, Y2y g1, Y2y g2, Y2y g3]
  rw [Y2y (fun _ => hb)]
  have e1 : (o : Int) + ((k : Int) - 1) = ((o + k - 1 : Nat) : Int) := by omega
  rw [e1]
  rfl
theorem end_run (f : List Y2) (hl : f.length ≤ 100000) : ∀ (d : Nat) (t pre post : List Y2) (o : Nat), IsTA A d t → f = pre ++ t ++ post → 0 < o → o + 16 * t.length ≤ 4000000 → ∀ m, iter (endB f) (m + t.length) ((pre.length : Int), (o : Int)) = iter (endB f) m (((pre.length + t.length : Nat) : Int), ((o - 1 : Nat) : Int))
  | 0, _, _, _, _, h, _, _, _ => h.elim
  | d + 1, t, pre, post, o, h, hf, h0, h1 => by
    intro m
    obtain ⟨n, ks, rfl, ha, hks, _⟩ := h
    have hf' : f = pre ++ n :: (ks.flatten ++ post) := by rw [hf]; simp
    have hlen : (n :: ks.flatten).length = ks.flatten.length + 1 := by simp
    rw [hlen, show m + (ks.flatten.length + 1) = (m + ks.flatten.length) + 1 by omega, Y05, end_step hf' hl ha h0 (by omega)]
    have kids : ∀ (ks : List (List Y2)) (pre post : List Y2) (o : Nat), (∀ k ∈ ks, IsTA A d k) → f = pre ++ (ks.flatten ++ post) → ks.length ≤ o → o + 16 * ks.flatten.length ≤ 4000000 → ∀ m, iter (endB f) (m + ks.flatten.length) ((pre.length : Int), (o : Int)) = iter (endB f) m (((pre.length + ks.flatten.length : Nat) : Int), ((o - ks.length : Nat) : Int)) := by
      intro ks
      induction ks with
      | nil => intro pre post o _ _ _ _ m; simp
      | cons k ks ih =>
        intro pre post o hk hf ho h1 m
        simp only [Xx, X01, Xa] at ho h1 ⊢
        have e1 := end_run f hl d k pre (ks.flatten ++ post) o (hk k (by simp)) (by rw [hf]; simp) (by omega) (by omega) (m + ks.flatten.length)
        rw [show m + (k.length + ks.flatten.length) = m + ks.flatten.length + k.length by omega, e1]
        have e2 := ih (pre ++ k) post (o - 1) (fun q hq => hk q (by simp [hq])) (by rw [hf]; simp) (by omega) (by omega) m
        simp only [Xa] at e2
        rw [e2, show pre.length + k.length + ks.flatten.length = pre.length + (k.length + ks.flatten.length) by omega, show o - 1 - ks.length = o - (ks.length + 1) by omega]
    have hk := ar_le ha
    have e3 := kids ks (pre ++ [n]) post (o + ks.length - 1) hks (by rw [hf']; simp) (by omega) (by omega) m
    simp only [Xa, Xe] at e3
    rw [e3, show pre.length + 1 + ks.flatten.length = pre.length + (ks.flatten.length + 1) by omega, show o + ks.length - 1 - ks.length = o - 1 by omega]
theorem End_ok {f pre t post : List Y2} {d : Nat} (ht : IsTA A d t) (hf : f = pre ++ t ++ post) (hl : f.length ≤ 100000) : f_R09_End f (pre.length : Int) = some ((pre.length + t.length : Nat) : Int) := by
  have hle : t.length ≤ f.length := by rw [hf]; simp; omega
  have e := end_run f hl d t pre post 1 ht hf (by omega) (by omega) (999999 - t.length + 1)
  unfold f_R09_End
  have e2 : 999999 - t.length + 1 + t.length = 1000000 := by omega
  rw [e2] at e
  refine Eq.trans e ?_
  rw [Y05]
  unfold endB Y3i
  simp
end Go.Proofs.YtkgfbpbndmklnaaDoor
