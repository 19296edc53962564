/- Own work. -/
import Derived.Test.YtkgfbpbndmklnaaDoorLibG
import Derived.Test.YtkgfbpbndmklnaaDoorW3
set_option linter.unusedSimpArgs false
set_option linter.unusedVariables false
namespace Go.Abs
theorem Y3h {n : Int} {α : Type} {x : Option α} (h : -9223372036854775808 ≤ n ∧ n ≤ 9223372036854775807) : G (inR n) x = x := if_pos h
theorem G_room {b n : Nat} {α : Type} {x : Option α} (h : n * b ≤ 140737488355328 ∧ n ≤ 140737488355328) : G (room b n) x = x := if_pos h
theorem inR_of {n : Int} (h : -9223372036854775808 ≤ n ∧ n ≤ 9223372036854775807) : inR n := h
theorem wrap_i64 {n : Int} (h : -9223372036854775808 ≤ n ∧ n ≤ 9223372036854775807) : IntKind.wrap .i64 n = n := IntWalk.i64_in n h
theorem Y3b {p : Prop} [Decidable p] {α : Type} {x y : α} (h : p) : cond (decide p) x y = x := by rw [decide_eq_true h]; rfl
theorem Y2x {p : Prop} [Decidable p] {α : Type} {x y : α} (h : ¬ p) : cond (decide p) x y = y := by rw [decide_eq_false h]; rfl
theorem Y3q {α : Type} {a b : Int} {x y : α} (h : a = b) : cond (a == b) x y = x := by rw [beq_iff_eq.2 h]; rfl
theorem Y3i {α : Type} {a b : Int} {x y : α} (h : ¬ a = b) : cond (a == b) x y = y := by rw [beq_eq_false_iff_ne.2 h]; rfl
theorem cn_neg {α : Type} {a b : Int} {x y : α} (h : a = b) : cond (a != b) x y = y := by rw [h, bne_self_eq_false]; rfl
end Go.Abs
namespace Go.Proofs.YtkgfbpbndmklnaaDoor
section
open Go.Abs
def ar (n : Y4) : Option Nat :=
  if n.Op = 0 then (if 0 ≤ n.N ∧ n.N ≤ 99999 then some 0 else none)
  else if n.Op = 1 then (if 0 ≤ n.N ∧ n.N ≤ 25 then some 0 else none)
  else if 2 ≤ n.Op ∧ n.Op ≤ 8 then (if n.N = 0 then some 2 else none)
  else if 9 ≤ n.Op ∧ n.Op ≤ 11 then (if n.N = 0 then some 1 else none)
  else if n.Op = 12 then (if 2 ≤ n.N ∧ n.N ≤ 5 then some (n.N.toNat + 1) else none)
  else if n.Op = 13 then (if 8 ≤ n.N ∧ n.N < 40 ∧ 1 ≤ n.N % 8 ∧ n.N % 8 ≤ 4 then some ((n.N / 8 * (n.N % 8)).toNat) else none)
  else none
def pr (o : Int) : Int := if o = 5 then 1 else if o = 2 ∨ o = 3 then 2 else if o = 4 then 3 else 4
def adm (n : Y4) (i : Nat) (m : Y4) : Bool :=
  if 2 ≤ n.Op ∧ n.Op ≤ 5 then (if i = 0 then decide (pr n.Op ≤ pr m.Op) else decide (pr n.Op < pr m.Op)) else if n.Op = 12 then decide (m.Op = 0) else true
def hd (l : List Y4) : Y4 := l.getD 0 Yf
def IsTA (A : Y4 → Nat → Y4 → Bool) : Nat → List Y4 → Prop
  | 0, _ => False
  | d + 1, l => ∃ (n : Y4) (ks : List (List Y4)), l = n :: ks.flatten ∧ ar n = some ks.length ∧ (∀ k ∈ ks, IsTA A d k) ∧ ∀ (i : Nat) (k : List Y4), ks[i]? = some k → A n i (hd k) = true
abbrev IsT := IsTA adm
variable {A : Y4 → Nat → Y4 → Bool}
theorem IsTA.mono : ∀ {d : Nat} {t : List Y4}, IsTA A d t → IsTA A (d + 1) t
  | 0, t, h => h.elim
  | d + 1, t, h => by
    obtain ⟨n, ks, h1, h2, h3, h4⟩ := h
    exact ⟨n, ks, h1, h2, fun k hk => IsTA.mono (h3 k hk), h4⟩
theorem IsTA.le {d e : Nat} {t : List Y4} (h : IsTA A d t) (hde : d ≤ e) : IsTA A e t := by
  induction e with
  | zero => have : d = 0 := by omega
            subst this; exact h
  | succ e ih =>
    by_cases he : d = e + 1
    · subst he; exact h
    · exact (ih (by omega)).mono
theorem IsTA.pos {d : Nat} {t : List Y4} (h : IsTA A d t) : 0 < t.length := by
  cases d with
  | zero => exact h.elim
  | succ d => obtain ⟨n, ks, rfl, _⟩ := h; simp
theorem IsT.le {d e : Nat} {t : List Y4} (h : IsT d t) (hde : d ≤ e) : IsT e t := IsTA.le h hde
theorem ar_cases {n : Y4} {k : Nat} (h : ar n = some k) : n.Op = 0 ∨ n.Op = 1 ∨ n.Op = 2 ∨ n.Op = 3 ∨ n.Op = 4 ∨ n.Op = 5 ∨ n.Op = 6 ∨ n.Op = 7 ∨ n.Op = 8 ∨ n.Op = 9 ∨ n.Op = 10 ∨ n.Op = 11 ∨ n.Op = 12 ∨ n.Op = 13 := by
  unfold ar at h
  repeat' split at h
  all_goals first
    | omega
    | cases h
theorem tdiv8 {n : Int} (h : 0 ≤ n) : Int.tdiv n 8 = n / 8 := Int.tdiv_eq_ediv_of_nonneg h
theorem tmod8 {n : Int} (h : 0 ≤ n) : Int.tmod n 8 = n % 8 := X0r h
theorem mat_mul {n : Int} (h : 8 ≤ n ∧ n < 40 ∧ 1 ≤ n % 8 ∧ n % 8 ≤ 4) : 0 ≤ n / 8 * (n % 8) ∧ n / 8 * (n % 8) ≤ 16 := by
  have h1 : n / 8 ≤ 4 := by omega
  have h2 : n % 8 ≤ 4 := by omega
  have h3 : 0 ≤ n / 8 := by omega
  have h4 : 0 ≤ n % 8 := by omega
  have := Int.mul_le_mul h1 h2 h4 (by omega : (0 : Int) ≤ 4)
  exact ⟨Int.mul_nonneg h3 h4, by omega⟩
theorem ar_le {n : Y4} {k : Nat} (h : ar n = some k) : k ≤ 16 := by
  unfold ar at h
  repeat' split at h
  all_goals simp only [X0, reduceCtorEq] at h
  all_goals subst h
  all_goals first
    | omega
    | (rename_i hx
       have := mat_mul hx
       omega)
theorem R09_Arity_ok {n : Y4} {k : Nat} (h : ar n = some k) : Y3z n = some (k : Int) := by
  have hc := ar_cases h
  obtain ⟨o, N⟩ := n
  simp only at hc
  rcases hc with rfl | rfl | rfl | rfl | rfl | rfl | rfl | rfl | rfl | rfl | rfl | rfl | rfl | rfl
  all_goals first
    | (simp only [ar, Int.reduceEq, if_false, if_true, Int.reduceLE, and_true, true_and, and_self, and_false, false_and] at h
       split at h
       · rename_i hN
         simp only [X0] at h
         subst h
         first
           | (simp [Y3z, Y1f, Y2w, hN]; done)
           | (have h3 : inR (N + 1) := inR_of (by omega)
              simp [Y3z, Y1f, Y2w, hN, Y2q h3]; omega)
           | (have h0 : 0 ≤ N := by omega
              have hm := mat_mul hN
              have h3 : inR (N / 8) := inR_of (by omega)
              have h4 : inR (N / 8 * (N % 8)) := inR_of (by omega)
              have c1 : (0 : Int) < N := by omega
              have c2 : 1 ≤ N / 8 := by omega
              have c3 : N / 8 ≤ 4 := by omega
              simp [Y3z, Y1f, Y2w, tdiv8 h0, tmod8 h0, Y2q h3, Y2q h4, c1, c2, c3, hN]
              exact (Int.max_eq_left hm.1).symm)
       · cases h)
theorem formula_arity_ok {n : Y4} {k : Nat} (h : ar n = some k) : Y1a n = some ((k : Int), true) := by
  have hc := ar_cases h
  obtain ⟨o, N⟩ := n
  simp only at hc
  rcases hc with rfl | rfl | rfl | rfl | rfl | rfl | rfl | rfl | rfl | rfl | rfl | rfl | rfl | rfl
  all_goals first
    | (simp only [ar, Int.reduceEq, if_false, if_true, Int.reduceLE, and_true, true_and, and_self, and_false, false_and] at h
       split at h
       · rename_i hN
         simp only [X0] at h
         subst h
         first
           | (simp [Y1a, Yz, Y0y, hN]; done)
           | (have h3 : inR (N + 1) := inR_of (by omega)
              have c1 : ¬ N < 2 := by omega
              have c2 : ¬ 5 < N := by omega
              simp [Y1a, Yz, Y0y, c1, c2, Y2q h3]; omega)
           | (have h0 : 0 ≤ N := by omega
              have hm := mat_mul hN
              have h3 : inR (N / 8) := inR_of (by omega)
              have h4 : inR (N / 8 * (N % 8)) := inR_of (by omega)
              have c1 : ¬ N < 0 := by omega
              have c2 : 1 ≤ N / 8 := by omega
              have c3 : N / 8 ≤ 4 := by omega
              simp [Y1a, Yz, Y0y, tdiv8 h0, tmod8 h0, Y2q h3, Y2q h4, c1, c2, c3, hN]
              exact (Int.max_eq_left hm.1).symm)
       · cases h)
theorem R09_prec (o : Int) : Y25 o = some (pr o) := by
  unfold Y25 Y33 Y3y pr
  by_cases h5 : o = 5
  · simp [h5]
  · by_cases h2 : o = 2
    · simp [h2]
    · by_cases h3 : o = 3
      · simp [h3]
      · have b5 : (o == 5) = false := by simpa using h5
        have b2 : (o == 2) = false := by simpa using h2
        have b3 : (o == 3) = false := by simpa using h3
        by_cases h4 : o = 4
        · simp [h4]
        · have b4 : (o == 4) = false := by simpa using h4
          simp [h5, h2, h3, h4, b5, b2, b3, b4]
theorem formula_prec (o : Int) : Y16 o = some (pr o) := by
  unfold Y16 Y20 Y2t pr
  by_cases h5 : o = 5
  · simp [h5]
  · by_cases h2 : o = 2
    · simp [h2]
    · by_cases h3 : o = 3
      · simp [h3]
      · have b5 : (o == 5) = false := by simpa using h5
        have b2 : (o == 2) = false := by simpa using h2
        have b3 : (o == 3) = false := by simpa using h3
        by_cases h4 : o = 4
        · simp [h4]
        · have b4 : (o == 4) = false := by simpa using h4
          simp [h5, h2, h3, h4, b5, b2, b3, b4]
theorem formula_adm (n m : Y4) (i : Nat) : Y47 n (i : Int) m = some (adm n i m) := by
  unfold Y47 Y1t Y3u adm
  have hi : ((i : Int) == 0) = decide (i = 0) := by
    rw [Bool.eq_iff_iff]; simp
  simp only [formula_prec, X9, hi]
  by_cases h2 : n.Op = 2
  · by_cases h0 : i = 0 <;> simp [h2, h0]
  · by_cases h3 : n.Op = 3
    · by_cases h0 : i = 0 <;> simp [h3, h0]
    · by_cases h4 : n.Op = 4
      · by_cases h0 : i = 0 <;> simp [h4, h0]
      · by_cases h5 : n.Op = 5
        · by_cases h0 : i = 0 <;> simp [h5, h0]
        · have hn : ¬ (2 ≤ n.Op ∧ n.Op ≤ 5) := by omega
          by_cases h12 : n.Op = 12
          · simp [h12, Bool.beq_eq_decide_eq]
          · have b5 : (n.Op == 5) = false := by simpa using h5
            have b2 : (n.Op == 2) = false := by simpa using h2
            have b3 : (n.Op == 3) = false := by simpa using h3
            have b4 : (n.Op == 4) = false := by simpa using h4
            have b12 : (n.Op == 12) = false := by simpa using h12
            simp [h12, hn, b2, b3, b4, b5, b12]
theorem getD_mid (pre post : List Y4) (n : Y4) : (pre ++ n :: post).getD pre.length Yf = n := by simp [List.getD]
def endB (f : List Y4) : (Int × Int → Option Int) → Int × Int → Option Int := fun loop s => Y56 f loop s.1 s.2
theorem end_step {f pre post : List Y4} {n : Y4} {k : Nat} (hf : f = pre ++ n :: post) (hl : f.length ≤ 100000) (ha : ar n = some k) {o : Nat} (h0 : 0 < o) (h1 : o ≤ 4000000) (loop : Int × Int → Option Int) :
    endB f loop ((pre.length : Int), (o : Int)) = loop (((pre.length + 1 : Nat) : Int), ((o + k - 1 : Nat) : Int)) := by
  have hlt : pre.length < f.length := by rw [hf]; simp
  have hg : f.getD pre.length Yf = n := by rw [hf]; exact getD_mid _ _ _
  have hk := ar_le ha
  unfold endB Y56
  have c1 : decide ((0 : Int) < (o : Int)) = true := by simpa using h0
  have c2 : decide ((pre.length : Int) < 0) = false := by simp
  have c3 : decide ((f.length : Int) ≤ (pre.length : Int)) = false := by simp; omega
  have c4 : decide ((k : Int) < 0) = false := by simp
  have hb : (0 : Int) ≤ (pre.length : Int) ∧ (pre.length : Int) < (f.length : Int) := by omega
  have g1 : inR ((k : Int) - 1) := inR_of (by omega)
  have g2 : inR ((o : Int) + ((k : Int) - 1)) := inR_of (by omega)
  have g3 : inR ((pre.length : Int) + 1) := inR_of (by omega)
  simp only [c1, cond_true, c2, cond_false, c3, X1b, X06, hg, R09_Arity_ok ha, X9, c4, Y2q hb, Y2q g1, Y2q g2, Y2q g3]
  rw [Y2q (fun _ => hb)]
  have e1 : (o : Int) + ((k : Int) - 1) = ((o + k - 1 : Nat) : Int) := by omega
  rw [e1]
  rfl
theorem end_run (f : List Y4) (hl : f.length ≤ 100000) : ∀ (d : Nat) (t pre post : List Y4) (o : Nat), IsTA A d t → f = pre ++ t ++ post → 0 < o → o + 16 * t.length ≤ 4000000 → ∀ m, iter (endB f) (m + t.length) ((pre.length : Int), (o : Int)) = iter (endB f) m (((pre.length + t.length : Nat) : Int), ((o - 1 : Nat) : Int))
  | 0, _, _, _, _, h, _, _, _ => h.elim
  | d + 1, t, pre, post, o, h, hf, h0, h1 => by
    intro m
    obtain ⟨n, ks, rfl, ha, hks, _⟩ := h
    have hf' : f = pre ++ n :: (ks.flatten ++ post) := by rw [hf]; simp
    have hlen : (n :: ks.flatten).length = ks.flatten.length + 1 := by simp
    rw [hlen, show m + (ks.flatten.length + 1) = (m + ks.flatten.length) + 1 by omega, Y0r, end_step hf' hl ha h0 (by omega)]
    have kids : ∀ (ks : List (List Y4)) (pre post : List Y4) (o : Nat), (∀ k ∈ ks, IsTA A d k) → f = pre ++ (ks.flatten ++ post) → ks.length ≤ o → o + 16 * ks.flatten.length ≤ 4000000 → ∀ m, iter (endB f) (m + ks.flatten.length) ((pre.length : Int), (o : Int)) = iter (endB f) m (((pre.length + ks.flatten.length : Nat) : Int), ((o - ks.length : Nat) : Int)) := by
      intro ks
      induction ks with
      | nil => intro pre post o _ _ _ _ m; simp
      | cons k ks ih =>
        intro pre post o hk hf ho h1 m
        simp only [Xb, X0j, X4] at ho h1 ⊢
        have e1 := end_run f hl d k pre (ks.flatten ++ post) o (hk k (by simp)) (by rw [hf]; simp) (by omega) (by omega) (m + ks.flatten.length)
        rw [show m + (k.length + ks.flatten.length) = m + ks.flatten.length + k.length by omega, e1]
        have e2 := ih (pre ++ k) post (o - 1) (fun q hq => hk q (by simp [hq])) (by rw [hf]; simp) (by omega) (by omega) m
        simp only [X4] at e2
        rw [e2, show pre.length + k.length + ks.flatten.length = pre.length + (k.length + ks.flatten.length) by omega, show o - 1 - ks.length = o - (ks.length + 1) by omega]
    have hk := ar_le ha
    have e3 := kids ks (pre ++ [n]) post (o + ks.length - 1) hks (by rw [hf']; simp) (by omega) (by omega) m
    simp only [X4, Xh] at e3
    rw [e3, show pre.length + 1 + ks.flatten.length = pre.length + (ks.flatten.length + 1) by omega, show o + ks.length - 1 - ks.length = o - 1 by omega]
theorem End_ok {f pre t post : List Y4} {d : Nat} (ht : IsTA A d t) (hf : f = pre ++ t ++ post) (hl : f.length ≤ 100000) : f_R09_End f (pre.length : Int) = some ((pre.length + t.length : Nat) : Int) := by
  have hle : t.length ≤ f.length := by rw [hf]; simp; omega
  have e := end_run f hl d t pre post 1 ht hf (by omega) (by omega) (999999 - t.length + 1)
  unfold f_R09_End
  have e2 : 999999 - t.length + 1 + t.length = 1000000 := by omega
  rw [e2] at e
  refine Eq.trans e ?_
  rw [Y0r]
  unfold endB Y56
  simp
end
section
open Go.Abs
variable {A : Y4 → Nat → Y4 → Bool}
section
variable {ks : List (List Y4)} {f pre post : List Y4} {d : Nat} {n : Y4}
theorem tmod_n {v : Int} (h : 0 ≤ v) (n : Int) : Int.tmod v n = v % n := X0r h
def offs : Nat → List (List Y4) → List Int
  | _, [] => []
  | p, k :: ks => (p : Int) :: offs (p + k.length) ks
theorem Y4y : ∀ (ks : List (List Y4)) (p : Nat), (offs p ks).length = ks.length
  | [], _ => rfl
  | k :: ks, p => by simp [offs, Y4y ks]
theorem offs_app : ∀ (ks ls : List (List Y4)) (p : Nat), offs p (ks ++ ls) = offs p ks ++ offs (p + ks.flatten.length) ls
  | [], ls, p => by simp [offs]
  | k :: ks, ls, p => by simp [offs, offs_app ks ls, X1h]
theorem offs_get : ∀ (ks : List (List Y4)) (p i : Nat), i < ks.length → (offs p ks).getD i 0 = ((p + (ks.take i).flatten.length : Nat) : Int)
  | [], p, i, h => by simp at h
  | k :: ks, p, 0, h => by simp [offs]
  | k :: ks, p, i + 1, h => by
    simp only [offs, List.getD_cons_succ]
    rw [offs_get ks _ i (by simpa using h)]
    simp [X1h]
def opB (f : List Y4) (i : Int) : (List Int × Int × Int → Option (List Int)) → List Int × Int × Int → Option (List Int) := fun loop s => Y26 f i loop s.1 s.2.1 s.2.2
theorem op_run (hf : f = pre ++ (n :: ks.flatten) ++ post) (hl : f.length ≤ 100000) (ha : ar n = some ks.length) (hks : ∀ k ∈ ks, IsTA A d k) :
    ∀ (ls done : List (List Y4)) (m : Nat), ks = done ++ ls → iter (opB f (pre.length : Int)) (m + 1 + ls.length) (offs (pre.length + 1) done, ((pre.length + 1 + done.flatten.length : Nat) : Int), (done.length : Int)) = some (offs (pre.length + 1) ks) := by
  have hlt : pre.length < f.length := by rw [hf]; simp
  have hg : f.getD pre.length Yf = n := by rw [hf, Xs]; exact getD_mid _ _ _
  have hb : (0 : Int) ≤ (pre.length : Int) ∧ (pre.length : Int) < (f.length : Int) := by omega
  intro ls
  induction ls with
  | nil =>
    intro done m he
    have hd : done = ks := by simpa using he.symm
    subst hd
    rw [show m + 1 + ([] : List (List Y4)).length = m + 1 by simp, Y0r]
    unfold opB Y26
    simp only [Y2q hb, X06, hg, R09_Arity_ok ha, X9]
    rw [Y2x (by omega)]
  | cons k ls ih =>
    intro done m he
    rw [show m + 1 + (k :: ls).length = (m + 1 + ls.length) + 1 by simp; omega, Y0r]
    have hkl : ks.length = done.length + (ls.length + 1) := by rw [he]; simp
    have h16 := ar_le ha
    have hf2 : f = (pre ++ n :: done.flatten) ++ k ++ (ls.flatten ++ post) := by rw [hf, he]; simp
    have hE := End_ok (hks k (by rw [he]; simp)) hf2 hl
    have hpl : (pre ++ n :: done.flatten).length = pre.length + 1 + done.flatten.length := by simp; omega
    rw [hpl] at hE
    have e : opB f (pre.length : Int) (iter (opB f (pre.length : Int)) (m + 1 + ls.length)) (offs (pre.length + 1) done, ((pre.length + 1 + done.flatten.length : Nat) : Int), (done.length : Int)) =
        iter (opB f (pre.length : Int)) (m + 1 + ls.length) (offs (pre.length + 1) done ++ [((pre.length + 1 + done.flatten.length : Nat) : Int)], ((pre.length + 1 + done.flatten.length + k.length : Nat) : Int), (done.length : Int) + 1) := by
      show Y26 _ _ _ _ _ _ = _
      unfold Y26
      simp only [Y2q hb, X06, hg, R09_Arity_ok ha, X9]
      rw [Y3b (by omega), G_room (by rw [Y4y]; omega), hE, X9, Y3h (by omega)]
    rw [e]
    have e2 := ih (done ++ [k]) m (by rw [he]; simp)
    rw [offs_app, show offs (pre.length + 1 + done.flatten.length) [k] = [((pre.length + 1 + done.flatten.length : Nat) : Int)] from rfl] at e2
    rw [← e2]
    congr 3
    · simp [X1h]
    · simp
theorem Operands_ok (hf : f = pre ++ (n :: ks.flatten) ++ post) (hl : f.length ≤ 100000) (ha : ar n = some ks.length) (hks : ∀ k ∈ ks, IsTA A d k) :
    Y3d f (pre.length : Int) = some (offs (pre.length + 1) ks) := by
  have hlt : pre.length < f.length := by rw [hf]; simp
  have h16 := ar_le ha
  unfold Y3d
  rw [Y3h (by omega)]
  have e := op_run hf hl ha hks ks [] (999999 - ks.length) rfl
  rw [show 999999 - ks.length + 1 + ks.length = 1000000 by omega] at e
  have e0 : (pre.length : Int) + 1 = ((pre.length + 1 + ([] : List (List Y4)).flatten.length : Nat) : Int) := by simp
  rw [e0]
  exact e
theorem hd_at {k : List Y4} (hk : IsTA A d k) (hf : f = pre ++ k ++ post) : f.getD pre.length Yf = hd k ∧ pre.length < f.length := by
  have := hk.pos
  cases k with
  | nil => simp at this
  | cons x k =>
    subst hf
    refine ⟨?_, by simp⟩
    rw [Xs]
    exact getD_mid _ _ _
theorem kid_at (hf : f = pre ++ (n :: ks.flatten) ++ post) (hks : ∀ k ∈ ks, IsTA A d k) {i : Nat} {k : List Y4} (hk : ks[i]? = some k) :
    f = (pre ++ n :: (ks.take i).flatten) ++ k ++ ((ks.drop (i + 1)).flatten ++ post) ∧ (pre ++ n :: (ks.take i).flatten).length = pre.length + 1 + (ks.take i).flatten.length ∧ f.getD (pre.length + 1 + (ks.take i).flatten.length) Yf = hd k ∧ pre.length + 1 + (ks.take i).flatten.length < f.length := by
  have hi := (Xm.1 hk).1
  have hke := (Xm.1 hk).2
  have hsp : ks = ks.take i ++ k :: ks.drop (i + 1) := by
    rw [← hke, List.getElem_cons_drop, X0u]
  have h1 : f = (pre ++ n :: (ks.take i).flatten) ++ k ++ ((ks.drop (i + 1)).flatten ++ post) := by
    have : ks.flatten = (ks.take i).flatten ++ (k ++ (ks.drop (i + 1)).flatten) := by
      conv => lhs; rw [hsp]
      simp
    rw [hf, this]; simp
  have h2 : (pre ++ n :: (ks.take i).flatten).length = pre.length + 1 + (ks.take i).flatten.length := by simp; omega
  have h3 := hd_at (hks k (X0p hk)) h1
  rw [h2] at h3
  exact ⟨h1, h2, h3.1, h3.2⟩
def sdB (f : List Y4) (l : List Int) : (Int → Option Bool) → Int → Option Bool := fun loop s => Y3c f l loop s
theorem sound_ok (hf : f = pre ++ (n :: ks.flatten) ++ post) (hl : f.length ≤ 100000) (ha : ar n = some ks.length) (hks : ∀ k ∈ ks, IsTA A d k)
    (had : ∀ (i : Nat) (k : List Y4), ks[i]? = some k → adm n i (hd k) = true) : f_R09_sound f (pre.length : Int) = some true := by
  have hlt : pre.length < f.length := by rw [hf]; simp
  have hg : f.getD pre.length Yf = n := by rw [hf, Xs]; exact getD_mid _ _ _
  have hb : (0 : Int) ≤ (pre.length : Int) ∧ (pre.length : Int) < (f.length : Int) := by omega
  have h16 := ar_le ha
  have two : 2 ≤ n.Op → n.Op ≤ 5 → Y2a f (pre.length : Int) (offs (pre.length + 1) ks) true = some true := by
    intro h2 h5
    have hk2 : ks.length = 2 := by
      unfold ar at ha
      rw [Vn, Vn, Vp] at ha
      split at ha
      · simpa using ha.symm
      · cases ha
    match hks2 : ks, hk2 with
    | [a, b], _ =>
      have k0 := kid_at (i := 0) (k := a) hf hks rfl
      have k1 := kid_at (i := 1) (k := b) hf hks rfl
      have a0 := had 0 a rfl
      have a1 := had 1 b rfl
      unfold adm at a0 a1
      rw [if_pos ⟨h2, h5⟩] at a0 a1
      simp only [if_true, Nat.succ_ne_zero, if_false, decide_eq_true_eq] at a0 a1
      simp only [List.take_zero, List.flatten_nil, Xj, X0d, X07, X0j, X4] at k0 k1
      unfold Y2a
      simp only [cond_true, X06, hg, R09_prec, X9, offs, Xb, Xj, Int.toNat_zero, X16]
      rw [Y2q (by omega), Y2q (by omega), k0.2.2.1]
      have c1 : decide (pr n.Op ≤ pr (hd a).Op) = true := by simpa using a0
      rw [c1]
      have e1 : ([((pre.length + 1 : Nat) : Int), ((pre.length + 1 + a.length : Nat) : Int)] : List Int).getD (1 : Int).toNat 0 = ((pre.length + 1 + a.length : Nat) : Int) := rfl
      rw [e1]
      rw [Y2q (fun _ => by omega), Y2q (fun _ => by omega)]
      simp only [cond_true, X06, k1.2.2.1, X9, X0, decide_eq_true_eq]
      exact a1
  unfold f_R09_sound
  rw [Operands_ok hf hl ha hks, X9, Y2q hb]
  simp only [X06, hg]
  by_cases h2 : n.Op = 2
  · rw [Y3q h2, beq_iff_eq.2 h2]; exact two (by omega) (by omega)
  · rw [Y3i h2]
    by_cases h3 : n.Op = 3
    · rw [Y3q h3, beq_iff_eq.2 h3]; exact two (by omega) (by omega)
    · rw [Y3i h3]
      by_cases h4 : n.Op = 4
      · rw [Y3q h4, beq_iff_eq.2 h4]; exact two (by omega) (by omega)
      · rw [Y3i h4]
        by_cases h5 : n.Op = 5
        · rw [beq_iff_eq.2 h5]; exact two (by omega) (by omega)
        · rw [beq_eq_false_iff_ne.2 h5]
          unfold Y2a
          simp only [cond_false, X06, hg]
          by_cases h12 : n.Op = 12
          · rw [Y3q h12]
            have run : ∀ (j i m : Nat), i + j = ks.length → iter (sdB f (offs (pre.length + 1) ks)) (m + 1 + j) (i : Int) = some true := by
              intro j
              induction j with
              | zero =>
                intro i m hi
                rw [X0d, Y0r]
                unfold sdB Y3c Y4w
                rw [Y2x (by rw [Y4y]; omega)]
              | succ j ih =>
                intro i m hi
                rw [show m + 1 + (j + 1) = (m + 1 + j) + 1 by omega, Y0r]
                have hik : i < ks.length := by omega
                have kk := kid_at (i := i) (k := ks[i]) hf hks (X2 hik)
                have aa := had i _ (X2 hik)
                unfold adm at aa
                rw [Vn, if_pos h12] at aa
                have aa' : (hd ks[i]).Op = 0 := by simpa using aa
                have e : sdB f (offs (pre.length + 1) ks) (iter (sdB f (offs (pre.length + 1) ks)) (m + 1 + j)) (i : Int) = iter (sdB f (offs (pre.length + 1) ks)) (m + 1 + j) ((i + 1 : Nat) : Int) := by
                  show Y3c _ _ _ _ = _
                  unfold Y3c
                  simp only [X06, offs_get ks _ i hik]
                  rw [Y3b (by rw [Y4y]; omega), Y2q (by rw [Y4y]; omega), Y2q (by omega), kk.2.2.1, cn_neg aa', Y3h (by omega)]
                  rfl
                rw [e]
                exact ih (i + 1) m (by omega)
            have e := run ks.length 0 (999999 - ks.length) (by omega)
            rw [show 999999 - ks.length + 1 + ks.length = 1000000 by omega] at e
            exact e
          · rw [Y3i h12]; rfl
theorem sub_at : ∀ (d : Nat) (t : List Y4) (i : Nat), IsTA A d t → i < t.length → ∃ (pre : List Y4) (n : Y4) (ks : List (List Y4)) (post : List Y4) (e : Nat), t = pre ++ (n :: ks.flatten) ++ post ∧ pre.length = i ∧ ar n = some ks.length ∧ (∀ k ∈ ks, IsTA A e k) ∧ ∀ (j : Nat) (k : List Y4), ks[j]? = some k → A n j (hd k) = true
  | 0, _, _, h, _ => h.elim
  | d + 1, t, i, h, hi => by
    obtain ⟨n, ks, rfl, h2, h3, h4⟩ := h
    cases i with
    | zero => exact ⟨[], n, ks, [], d, by simp, rfl, h2, h3, h4⟩
    | succ i =>
      have kids : ∀ (ls : List (List Y4)) (i : Nat), (∀ k ∈ ls, IsTA A d k) → i < ls.flatten.length → ∃ (pre : List Y4) (n : Y4) (ks : List (List Y4)) (post : List Y4) (e : Nat), ls.flatten = pre ++ (n :: ks.flatten) ++ post ∧ pre.length = i ∧ ar n = some ks.length ∧ (∀ k ∈ ks, IsTA A e k) ∧ ∀ (j : Nat) (k : List Y4), ks[j]? = some k → A n j (hd k) = true := by
        intro ls
        induction ls with
        | nil => intro i _ hi; simp at hi
        | cons l ls ih =>
          intro i hk hi
          by_cases hil : i < l.length
          · obtain ⟨pre, n, ks, post, e, h1, h5, h6⟩ := sub_at d l i (hk l (by simp)) hil
            exact ⟨pre, n, ks, post ++ ls.flatten, e, by rw [X0j, h1]; simp, h5, h6⟩
          · obtain ⟨pre, n, ks, post, e, h1, h5, h6⟩ := ih (i - l.length) (fun k hk' => hk k (by simp [hk'])) (by simp only [X0j, X4] at hi; omega)
            exact ⟨l ++ pre, n, ks, post, e, by rw [X0j, h1]; simp, by simp only [X4]; omega, h6⟩
      obtain ⟨pre, n', ks', post, e, h1, h5, h6⟩ := kids ks i h3 (by simpa using hi)
      exact ⟨n :: pre, n', ks', post, e, by rw [h1]; simp, by simp [h5], h6⟩
def trB (f : List Y4) : (Int → Option Bool) → Int → Option Bool := fun loop s => Y3v f loop s
theorem Tree_ok (ht : IsT d f) (hl : f.length ≤ 200) : f_R09_Tree f = some true := by
  have hp := ht.pos
  unfold f_R09_Tree
  have hE := End_ok (f := f) (pre := []) (post := []) ht (by simp) (by omega)
  simp only [Xj, X05] at hE
  have c1 : ((f.length : Int) == 0) = false := by rw [beq_eq_false_iff_ne]; omega
  have c2 : decide ((200 : Int) < (f.length : Int)) = false := by rw [decide_eq_false_iff_not]; omega
  have hE' : f_R09_End f 0 = some (f.length : Int) := hE
  simp only [c1, c2, cond_false, X1b, cond_true, hE', X9, bne_self_eq_false]
  have run : ∀ (j i m : Nat), i + j = f.length → iter (trB f) (m + 1 + j) (i : Int) = some true := by
    intro j
    induction j with
    | zero =>
      intro i m hi
      rw [X0d, Y0r]
      unfold trB Y3v
      rw [Y2x (by omega)]
    | succ j ih =>
      intro i m hi
      rw [show m + 1 + (j + 1) = (m + 1 + j) + 1 by omega, Y0r]
      obtain ⟨pre, n, ks, post, e, h1, h2, h3, h4, h5⟩ := sub_at d f i ht (by omega)
      have hs := sound_ok h1 (by omega) h3 h4 h5
      rw [h2] at hs
      have e : trB f (iter (trB f) (m + 1 + j)) (i : Int) = iter (trB f) (m + 1 + j) ((i + 1 : Nat) : Int) := by
        show Y3v _ _ _ = _
        unfold Y3v
        rw [Y3b (by omega), hs, X9, Bool.not_true, cond_false, Y3h (by omega)]
        rfl
      rw [e]
      exact ih (i + 1) m (by omega)
  have e := run f.length 0 (999999 - f.length) (by omega)
  rw [show 999999 - f.length + 1 + f.length = 1000000 by omega] at e
  exact e
def dpB (f : List Y4) (l : List Int) (rc : List Y4 → Int → Option Int) : (Int × Int → Option Int) → Int × Int → Option Int := fun loop s => Y1c rc f l loop s.1 s.2
theorem depth_ok (hl : f.length ≤ 100000) : ∀ (d : Nat) (t pre post : List Y4) (m : Nat), d ≤ 100 → IsTA A d t → f = pre ++ t ++ post → ∃ v : Nat, 1 ≤ v ∧ v ≤ d ∧ IsTA A v t ∧ Y1i (m + d) f (pre.length : Int) = some (v : Int)
  | 0, _, _, _, _, _, h, _ => h.elim
  | d + 1, t, pre, post, m, h100, h, hf => by
    obtain ⟨n, ks, rfl, ha, hks, had⟩ := h
    rw [show m + (d + 1) = (m + d) + 1 by omega, Y1i]
    unfold Y4z
    rw [Operands_ok hf hl ha hks, X9]
    have h16 := ar_le ha
    have run : ∀ (j i q v : Nat), i + j = ks.length → v ≤ d → (∀ k ∈ ks.take i, IsTA A v k) → ∃ r : Nat, r ≤ d ∧ (∀ k ∈ ks, IsTA A r k) ∧ iter (dpB f (offs (pre.length + 1) ks) (Y1i (m + d))) (q + 1 + j) ((v : Int), (i : Int)) = some ((r + 1 : Nat) : Int) := by
      intro j
      induction j with
      | zero =>
        intro i q v hi hv hk
        refine ⟨v, hv, by rwa [Xt (by omega)] at hk, ?_⟩
        rw [X0d, Y0r]
        show Y1c _ f _ _ (v : Int) (i : Int) = _
        unfold Y1c
        rw [Y2x (by rw [Y4y]; omega), Y3h (by omega)]
        rfl
      | succ j ih =>
        intro i q v hi hv hk
        rw [show q + 1 + (j + 1) = (q + 1 + j) + 1 by omega, Y0r]
        have hik : i < ks.length := by omega
        have kk := kid_at (i := i) (k := ks[i]) hf hks (X2 hik)
        obtain ⟨u, u1, u2, u4, u3⟩ := depth_ok hl d ks[i] _ _ m (by omega) (hks _ (List.getElem_mem hik)) kk.1
        rw [kk.2.1] at u3
        have e : dpB f (offs (pre.length + 1) ks) (Y1i (m + d)) (iter (dpB f (offs (pre.length + 1) ks) (Y1i (m + d))) (q + 1 + j)) ((v : Int), (i : Int)) = iter (dpB f (offs (pre.length + 1) ks) (Y1i (m + d))) (q + 1 + j) (((max v u : Nat) : Int), ((i + 1 : Nat) : Int)) := by
          show Y1c _ _ _ _ _ _ = _
          unfold Y1c
          simp only [X06, offs_get ks _ i hik]
          rw [Y3b (by rw [Y4y]; omega), Y2q (by rw [Y4y]; omega), u3, X9, Y3h (by omega)]
          have e0 : (if (u : Int) > (v : Int) then (u : Int) else (v : Int)) = ((max v u : Nat) : Int) := by split <;> omega
          rw [e0]
          rfl
        rw [e]
        refine ih (i + 1) q _ (by omega) (by omega) (fun k hk' => ?_)
        rw [List.take_succ_eq_append_getElem hik] at hk'
        rcases Xw.1 hk' with h | h
        · exact (hk k h).le (by omega)
        · have : k = ks[i] := by simpa using h
          rw [this]; exact u4.le (by omega)
    obtain ⟨r, r2, r4, r3⟩ := run ks.length 0 (999999 - ks.length) 0 (by omega) (by omega) (fun k hk => by simp at hk)
    rw [show 999999 - ks.length + 1 + ks.length = 1000000 by omega] at r3
    exact ⟨r + 1, by omega, by omega, ⟨n, ks, rfl, ha, r4, had⟩, r3⟩
theorem R09_Valid_ok (ht : IsT d f) (hd : d ≤ 8) (hl : f.length ≤ 100000) : f_R09_Valid f = some (decide (f.length ≤ 60)) := by
  unfold f_R09_Valid
  by_cases h : f.length ≤ 60
  · rw [Y3b (by omega), Tree_ok ht (by omega), X9]
    obtain ⟨v, v1, v2, _, v3⟩ := depth_ok hl d f [] [] (1000000 - d) (by omega) ht (by simp)
    rw [show 1000000 - d + d = 1000000 by omega] at v3
    have hD : Y4o f = some (v : Int) := by
      unfold Y4o f_R09_depth
      have v3' : Y1i 1000000 f 0 = some (v : Int) := v3
      rw [v3', X9]
    rw [Y3b (by omega), cond_true, hD, X9, decide_eq_true h, show decide ((v : Int) ≤ 8) = true by rw [decide_eq_true_iff]; omega]
    rfl
  · rw [Y2x (by omega), X9, Y2x (by omega), cond_false, X9, decide_eq_false h]
    rfl
def meB (f : List Y4) (i : Int) (x : Int × Bool) (rc : List Y4 → Int → Option (Int × Int × Bool)) : (Int × Int × Int → Option (Int × Int × Bool)) → Int × Int × Int → Option (Int × Int × Bool) := fun loop s => Ys rc f i x loop s.1 s.2.1 s.2.2
theorem measure_ok (hl : f.length ≤ 100000) : ∀ (d : Nat) (t pre post : List Y4) (m : Nat), d ≤ 100 → IsT d t → f = pre ++ t ++ post → ∃ v : Int, 1 ≤ v ∧ v ≤ d ∧ Yo (m + d) f (pre.length : Int) = some (((pre.length + t.length : Nat) : Int), v, true) := by
  intro d
  induction d with
  | zero => intro _ _ _ _ _ h _; exact h.elim
  | succ d measure_ok =>
    intro t pre post m h100 h hf
    obtain ⟨n, ks, rfl, ha, hks, had⟩ := h
    have hlt : pre.length < f.length := by rw [hf]; simp
    have hg : f.getD pre.length Yf = n := by rw [hf, Xs]; exact getD_mid _ _ _
    have h16 := ar_le ha
    rw [show m + (d + 1) = (m + d) + 1 by omega, Yo]
    unfold Y1p
    rw [Y2x (by omega), Y2q (by omega)]
    rw [X06, hg, formula_arity_ok ha, X9, show (!((ks.length : Int), true).2) = false from rfl, cond_false]
    rw [Y3h (by omega)]
    have run : ∀ (j i q : Nat) (v : Int), i + j = ks.length → 1 ≤ v → v ≤ ((d + 1 : Nat) : Int) → ∃ r : Int, 1 ≤ r ∧ r ≤ ((d + 1 : Nat) : Int) ∧ iter (meB f (pre.length : Int) ((ks.length : Int), true) (Yo (m + d))) (q + 1 + j) (((pre.length + 1 + (ks.take i).flatten.length : Nat) : Int), v, (i : Int)) =
        some (((pre.length + 1 + ks.flatten.length : Nat) : Int), r, true) := by
      intro j
      induction j with
      | zero =>
        intro i q v hi h0 hv
        refine ⟨v, by omega, by omega, ?_⟩
        rw [X0d, Y0r]
        show Ys _ _ _ _ _ _ _ _ = _
        unfold Ys
        rw [Y2x (by simp only; omega), Xt (by omega)]
      | succ j ih =>
        intro i q v hi h0 hv
        rw [show q + 1 + (j + 1) = (q + 1 + j) + 1 by omega, Y0r]
        have hik : i < ks.length := by omega
        have kk := kid_at (i := i) (k := ks[i]) hf hks (X2 hik)
        have aa := had i _ (X2 hik)
        obtain ⟨u, u1, u2, u3⟩ := measure_ok ks[i] _ _ m (by omega) (hks _ (List.getElem_mem hik)) kk.1
        rw [kk.2.1] at u3
        have htk : (ks.take (i + 1)).flatten.length = (ks.take i).flatten.length + ks[i].length := by
          rw [List.take_succ_eq_append_getElem hik]
          simp only [X17, X0j, List.flatten_nil, X0e, X4]
        have e : meB f (pre.length : Int) ((ks.length : Int), true) (Yo (m + d)) (iter (meB f (pre.length : Int) ((ks.length : Int), true) (Yo (m + d))) (q + 1 + j)) (((pre.length + 1 + (ks.take i).flatten.length : Nat) : Int), v, (i : Int)) =
            iter (meB f (pre.length : Int) ((ks.length : Int), true) (Yo (m + d))) (q + 1 + j) (((pre.length + 1 + (ks.take (i + 1)).flatten.length : Nat) : Int), (if u + 1 > v then u + 1 else v), ((i + 1 : Nat) : Int)) := by
          show Ys _ _ _ _ _ _ _ _ = _
          unfold Ys
          have c1 : decide ((f.length : Int) ≤ ((pre.length + 1 + (ks.take i).flatten.length : Nat) : Int)) = false := by rw [decide_eq_false_iff_not]; omega
          simp only [c1, X1b, cond_true, cond_false, X06, hg, kk.2.2.1, formula_adm, aa, X9, Bool.not_true, u3]
          rw [Y3b (by omega), Y2q (fun _ => by omega), Y3h (by omega), Y3h (by omega), htk]
          congr 3
          omega
        rw [e]
        exact ih (i + 1) q _ (by omega) (by split <;> omega) (by split <;> omega)
    obtain ⟨r, r1, r2, r3⟩ := run ks.length 0 (999999 - ks.length) 1 (by omega) (by omega) (by omega)
    rw [show 999999 - ks.length + 1 + ks.length = 1000000 by omega] at r3
    refine ⟨r, r1, r2, ?_⟩
    have e0 : (pre.length : Int) + 1 = ((pre.length + 1 + (ks.take 0).flatten.length : Nat) : Int) := by simp
    rw [e0, show pre.length + (n :: ks.flatten).length = pre.length + 1 + ks.flatten.length by simp; omega]
    exact r3
theorem formula_Valid_ok (ht : IsT d f) (hd : d ≤ 8) (hl : f.length ≤ 60) : Y2d f = some true := by
  obtain ⟨v, v1, v2, v3⟩ := measure_ok (f := f) (by omega) d f [] [] (1000000 - d) (by omega) ht (by simp)
  rw [show 1000000 - d + d = 1000000 by omega] at v3
  have v3' : Y3m f 0 = some ((f.length : Int), v, true) := by
    unfold Y3m
    simpa using v3
  unfold Y2d Y4m
  rw [Y2x (by omega), v3', X9]
  simp only [Bool.not_true, cond_false, X1b, cond_true, bne_self_eq_false]
  rw [Y2x (by omega), X9]
  rw [show decide ((0 : Int) < v) = true by rw [decide_eq_true_iff]; omega]
end
end
open Go.Abs
def OkM (s : Y8) : Prop := (∀ i : Nat, 0 ≤ s.B.getD i 0 ∧ s.B.getD i 0 ≤ 255) ∧ s.B.length ≤ 40 ∧ 0 ≤ s.At ∧ s.At ≤ s.B.length
section
variable {least kd : Int} {m : Nat} {n : Y4} {s : Y8} {S : Y8 → Int → Int → Option (List (List Y4) × Y8)} {T : Y8 → Int → Int → Option (List Y4 × Y8)}
theorem take_ok (h : OkM s) : ∃ (v : Int) (s' : Y8), Y0m s = some (v, s') ∧ 0 ≤ v ∧ v ≤ 255 ∧ OkM s' := by
  obtain ⟨h1, h2, h3, h4⟩ := h
  unfold Y0m
  by_cases hc : (s.B.length : Int) ≤ s.At
  · exact ⟨0, s, by rw [Y3b hc], by omega, by omega, h1, h2, h3, h4⟩
  · have hb := h1 ((s.At + 1) - 1).toNat
    refine ⟨_, ⟨s.B, s.At + 1⟩, by rw [Y2x hc, Y3h (by omega), Y3h (by omega), Y2q (by omega), wrap_i64 (by omega)], hb.1, hb.2, h1, h2, by simp only; omega, by simp only; omega⟩
theorem number_ok (h : OkM s) : ∃ (n : Y4) (s' : Y8), Y1o s = some ([n], s') ∧ n.Op = 0 ∧ 0 ≤ n.N ∧ n.N ≤ 99999 ∧ OkM s' := by
  obtain ⟨v, s1, e1, v0, v1, h1⟩ := take_ok h
  obtain ⟨w, s2, e2, w0, w1, h2⟩ := take_ok h1
  have hm : 0 ≤ w % 3 ∧ w % 3 ≤ 2 := by omega
  have hp : 0 ≤ v * (1 + w % 3) ∧ v * (1 + w % 3) ≤ 255 * 3 := ⟨Int.mul_nonneg v0 (by omega), Int.mul_le_mul v1 (by omega) (by omega) (by omega)⟩
  refine ⟨⟨0, v * (1 + w % 3)⟩, s2, ?_, rfl, hp.1, by simp only; omega, h2⟩
  unfold Y1o
  rw [e1, X9, e2, X9]
  simp only [tmod_n w0]
  rw [Y3h (by omega), Y3h (by omega)]
def jnB (l : List (List Y4)) : (List Y4 × Int → Option (List Y4)) → List Y4 × Int → Option (List Y4) := fun loop s => Y32 l loop s.1 s.2
theorem flat_len {L : Nat} : ∀ (ks : List (List Y4)), (∀ k ∈ ks, k.length ≤ L) → ks.flatten.length ≤ ks.length * L
  | [], _ => by simp
  | k :: ks, h => by
    have := flat_len ks (fun x hx => h x (by simp [hx]))
    have h0 := h k (by simp)
    simp only [X0j, X4, Xb, X0m]
    omega
theorem joined_ok {ks : List (List Y4)} (h1 : ks.length ≤ 16) (h2 : ∀ k ∈ ks, k.length ≤ 100000) : Y1u n ks = some (n :: ks.flatten) := by
  have run : ∀ (ls done : List (List Y4)) (m : Nat), ks = done ++ ls → iter (jnB ks) (m + 1 + ls.length) (n :: done.flatten, (done.length : Int)) = some (n :: ks.flatten) := by
    intro ls
    induction ls with
    | nil =>
      intro done m he
      have hd : done = ks := by simpa using he.symm
      subst hd
      rw [show m + 1 + ([] : List (List Y4)).length = m + 1 by simp, Y0r]
      unfold jnB Y32
      rw [Y2x (by omega)]
    | cons k ls ih =>
      intro done m he
      rw [show m + 1 + (k :: ls).length = (m + 1 + ls.length) + 1 by simp; omega, Y0r]
      have hkl : ks.length = done.length + (ls.length + 1) := by rw [he]; simp
      have hg : ks.getD done.length [] = k := by rw [he]; simp [List.getD]
      have hk := h2 k (by rw [he]; simp)
      have hfl := flat_len done (L := 100000) (fun x hx => h2 x (by rw [he]; simp [hx]))
      have hfl2 : done.flatten.length ≤ 1600000 := X0g hfl (by have : done.length ≤ 16 := (by omega); omega)
      have e : jnB ks (iter (jnB ks) (m + 1 + ls.length)) (n :: done.flatten, (done.length : Int)) = iter (jnB ks) (m + 1 + ls.length) ((n :: done.flatten) ++ k, (done.length : Int) + 1) := by
        show Y32 _ _ _ _ = _
        unfold Y32
        rw [Y3b (by omega), Y2q (by omega), X06, hg, G_room (by simp only [Xb]; omega), Y3h (by omega)]
      rw [e]
      have e2 := ih (done ++ [k]) m (by rw [he]; simp)
      rw [← e2]
      congr 2
      · simp
      · simp
  unfold Y1u
  have e := run ks [] (999999 - ks.length) rfl
  rw [show 999999 - ks.length + 1 + ks.length = 1000000 by omega] at e
  exact e
def Pt (m : Nat) (least : Int) (t : List Y4) : Prop := IsT m t ∧ least ≤ pr (hd t).Op ∧ 3 * t.length + 1 ≤ 4 ^ m
theorem four_pos (m : Nat) : 1 ≤ 4 ^ m := Nat.one_le_two_pow (n := 2 * m) |> fun h => by rwa [Nat.pow_mul] at h
theorem four_le (h : m ≤ 5) : 4 ^ m ≤ 1024 := X0g (Nat.pow_le_pow_right (by omega) h) (by decide)
theorem mkT {ks : List (List Y4)} (hm : m ≤ 5) (ha : ar n = some ks.length) (h4 : ks.length ≤ 4) (hks : ∀ k ∈ ks, IsT m k ∧ 3 * k.length + 1 ≤ 4 ^ m)
    (had : ∀ (i : Nat) (k : List Y4), ks[i]? = some k → adm n i (hd k) = true) : Y1u n ks = some (n :: ks.flatten) ∧ IsT (m + 1) (n :: ks.flatten) ∧ 3 * (n :: ks.flatten).length + 1 ≤ 4 ^ (m + 1) := by
  have p1 := four_pos m
  have p2 := four_le hm
  refine ⟨joined_ok (by omega) (fun k hk => ?_), ⟨n, ks, rfl, ha, fun k hk => (hks k hk).1, had⟩, ?_⟩
  · have := (hks k hk).2; omega
  · have hf := flat_len ks (L := (4 ^ m - 1) / 3) (fun k hk => by have := (hks k hk).2; omega)
    rw [Nat.pow_succ, Xb]
    have : ks.length * ((4 ^ m - 1) / 3) ≤ 4 * ((4 ^ m - 1) / 3) := X0o _ h4
    omega
theorem Pt.up {t : List Y4} {l : Int} (h : Pt m l t) : IsT m t ∧ 3 * t.length + 1 ≤ 4 ^ m := ⟨h.1, h.2.2⟩
theorem leafT (ha : ar n = some 0) (hp : pr n.Op = 4) (hm : 1 ≤ m) (hl : least ≤ 4) : Pt m least [n] := by
  refine ⟨IsT.le (d := 1) ⟨n, [], rfl, ha, fun k hk => by simp at hk, fun i k hk => by simp at hk⟩ hm, ?_, ?_⟩
  · show least ≤ pr n.Op; omega
  · have : 4 ^ 1 ≤ 4 ^ m := Nat.pow_le_pow_right (by omega) hm
    simp only [Xb, Xj]
    omega
def TOk (T : Y8 → Int → Int → Option (List Y4 × Y8)) (m : Nat) : Prop := ∀ (s : Y8) (least : Int), OkM s → 1 ≤ least → least ≤ 4 → ∃ t s', T s (m : Int) least = some (t, s') ∧ Pt m least t ∧ OkM s'
def SOk (S : Y8 → Int → Int → Option (List (List Y4) × Y8)) (m : Nat) : Prop := ∀ (s : Y8) (c : Nat), c ≤ 4 → OkM s → ∃ ks s', S s (c : Int) (m : Int) = some (ks, s') ∧ ks.length = c ∧ (∀ k ∈ ks, Pt m 1 k) ∧ OkM s'
def numB (x1 x36 : Int × Y8) : (Y8 × List (List Y4) × Int → Option (List Y4 × Y8)) → Y8 × List (List Y4) × Int → Option (List Y4 × Y8) := fun loop s => Y0b x1 x36 loop s.1 s.2.1 s.2.2
theorem num_run (x1 x36 : Int × Y8) (c : Nat) (hc : (2 : Int) + Int.tmod x36.1 2 = (c : Int)) (hc3 : c ≤ 3) : ∀ (j m : Nat) (s : Y8) (ks : List (List Y4)), ks.length + j = c + 1 → OkM s → (∀ k ∈ ks, ∃ n : Y4, k = [n] ∧ n.Op = 0 ∧ 0 ≤ n.N ∧ n.N ≤ 99999) →
    ∃ (ks' : List (List Y4)) (s' : Y8), iter (numB x1 x36) (m + 1 + j) (s, ks, (ks.length : Int)) = (Y1u ⟨Int.tmod x1.1 14, (c : Int)⟩ ks').bind (fun x46 => some (x46, s')) ∧ ks'.length = c + 1 ∧ OkM s' ∧ (∀ k ∈ ks', ∃ n : Y4, k = [n] ∧ n.Op = 0 ∧ 0 ≤ n.N ∧ n.N ≤ 99999)
  | 0, m, s, ks, hl, hs, hk => by
    refine ⟨ks, s, ?_, by omega, hs, hk⟩
    rw [X0d, Y0r]
    show Y0b x1 x36 _ s ks (ks.length : Int) = _
    unfold Y0b
    rw [hc, Y2x (by omega)]
    rfl
  | j + 1, m, s, ks, hl, hs, hk => by
    obtain ⟨n, s1, e1, n0, n1, n2, h1⟩ := number_ok hs
    obtain ⟨ks', s', r1, r2⟩ := num_run x1 x36 c hc hc3 j m s1 (ks ++ [[n]]) (by simp; omega) h1 (fun k hk' => by
      rcases Xw.1 hk' with h | h
      · exact hk k h
      · exact ⟨n, by simpa using h, n0, n1, n2⟩)
    refine ⟨ks', s', ?_, r2⟩
    rw [← r1, show m + 1 + (j + 1) = (m + 1 + j) + 1 by omega, Y0r]
    show Y0b x1 x36 _ s ks (ks.length : Int) = _
    unfold Y0b
    rw [hc, Y3b (by omega), e1, X9, G_room (by omega), Y3h (by omega)]
    rw [show ((ks ++ [[n]]).length : Int) = (ks.length : Int) + 1 by simp]
theorem two_ok (hm : 1 ≤ m) (h5 : m ≤ 4) (hS : SOk S m) (hs : OkM s) {c : Nat} (hc : c ≤ 4) (ha : ar n = some c) (hp : pr n.Op = 4) (hb : ¬ (2 ≤ n.Op ∧ n.Op ≤ 5)) (hb2 : n.Op ≠ 12) (hl : least ≤ 4) :
    ∃ t s', ((S s (c : Int) (m : Int)).bind fun x33 => (Y1u n x33.1).bind fun x34 => some (x34, x33.2)) = some (t, s') ∧ Pt (m + 1) least t ∧ OkM s' := by
  obtain ⟨ks, s', e, k1, k2, k3⟩ := hS s c hc hs
  obtain ⟨j1, j2, j3⟩ := mkT (n := n) (ks := ks) (m := m) (by omega) (by rw [k1]; exact ha) (by omega) (fun k hk => (k2 k hk).up) (fun i k _ => by
    unfold adm
    rw [if_neg hb, if_neg hb2])
  refine ⟨_, s', by rw [e, X9]; simp only; rw [j1, X9], ⟨j2, ?_, j3⟩, k3⟩
  show least ≤ pr n.Op
  omega
theorem k2_ok (hm : 1 ≤ m) (h5 : m ≤ 4) (hS : SOk S m) (hs : OkM s) (x1 : Int × Y8) (hk : Int.tmod x1.1 14 = kd) (h9 : 9 ≤ kd) (h13 : kd ≤ 13) (hl : least ≤ 4) :
    ∃ t s', Y0x S ((m + 1 : Nat) : Int) x1 s (decide (kd ≤ 11)) = some (t, s') ∧ Pt (m + 1) least t ∧ OkM s' := by
  unfold Y0x Yy
  rw [hk]
  have hm1 : ((m + 1 : Nat) : Int) - 1 = (m : Int) := by omega
  by_cases h11 : kd ≤ 11
  · rw [Y3b h11, Y3h (by omega), hm1]
    have := two_ok hm h5 hS hs (n := ⟨kd, 0⟩) (c := 1) (by omega) (by
      unfold ar; simp only
      rw [Vn, Vn, Vn, Vp]; rfl) (by
      unfold pr; simp only
      rw [Vn, Vn, Vn]) (by simp only; omega) (by simp only; omega) hl
    exact this
  · rw [Y2x h11]
    by_cases h12 : kd = 12
    · rw [Y3q h12]
      obtain ⟨v, s1, e1, v0, v1, h1⟩ := take_ok hs
      rw [e1, X9]
      have hv : Int.tmod v 2 = v % 2 := tmod_n v0 2
      obtain ⟨c, hc⟩ : ∃ c : Nat, (2 : Int) + v % 2 = (c : Int) := ⟨(2 + v % 2).toNat, by omega⟩
      rw [Y3h (by simp only [hv]; omega)]
      obtain ⟨ks, s', r1, r2, r3, r4⟩ := num_run x1 (v, s1) c (by simp only [hv]; exact hc) (by omega) (c + 1) (999999 - (c + 1)) s1 [] (by simp) h1 (by simp)
      rw [show 999999 - (c + 1) + 1 + (c + 1) = 1000000 by omega, hk] at r1
      obtain ⟨j1, j2, j3⟩ := mkT (n := ⟨kd, (c : Int)⟩) (ks := ks) (m := m) (by omega) (by
        unfold ar; simp only
        rw [Vn, Vn, Vn, Vn, if_pos h12, Vp, r2]
        simp) (by omega) (fun k hk' => by
          obtain ⟨n, rfl, n0, n1, n2⟩ := r4 k hk'
          have := leafT (n := n) (by unfold ar; rw [if_pos n0, if_pos ⟨n1, n2⟩]) (by rw [n0]; rfl) hm (least := 1) (by omega)
          exact this.up) (fun i k hk' => by
          obtain ⟨n, rfl, n0, n1, n2⟩ := r4 k (X0p hk')
          unfold adm
          simp only
          rw [Vn, if_pos h12]
          exact decide_eq_true n0)
      rw [j1] at r1
      refine ⟨_, s', r1, ⟨j2, ?_, j3⟩, r3⟩
      show least ≤ pr kd
      rw [h12]
      exact hl
    · rw [Y3i h12]
      have h13' : kd = 13 := by omega
      obtain ⟨v, s1, e1, v0, v1, h1⟩ := take_ok hs
      obtain ⟨w, s2, e2, w0, w1, h2⟩ := take_ok h1
      rw [e1, X9]
      have hv : Int.tmod v 2 = v % 2 := tmod_n v0 2
      have hw : Int.tmod w 2 = w % 2 := tmod_n w0 2
      simp only [hv]
      rw [Y3h (by omega), e2, X9]
      simp only [hw]
      rw [Y3h (by omega), Y3h (by omega), Y3h (by omega)]
      have cs : ∃ (a b : Int) (c : Nat), 1 + v % 2 = a ∧ 1 + w % 2 = b ∧ a * b = (c : Int) ∧ c ≤ 4 ∧ ar ⟨kd, 8 * a + b⟩ = some c := by
        have ha : v % 2 = 0 ∨ v % 2 = 1 := by omega
        have hb : w % 2 = 0 ∨ w % 2 = 1 := by omega
        subst h13'
        rcases ha with ha | ha <;> rcases hb with hb | hb <;> rw [ha, hb]
        · exact ⟨1, 1, 1, rfl, rfl, rfl, by omega, rfl⟩
        · exact ⟨1, 2, 2, rfl, rfl, rfl, by omega, rfl⟩
        · exact ⟨2, 1, 2, rfl, rfl, rfl, by omega, rfl⟩
        · exact ⟨2, 2, 4, rfl, rfl, rfl, by omega, rfl⟩
      obtain ⟨a, b, c, ea, eb, ec, hc, har⟩ := cs
      rw [ea, eb, ec, Y3h (by omega), Y3h (by omega), hm1]
      exact two_ok hm h5 hS h2 (n := ⟨kd, 8 * a + b⟩) hc har (by rw [h13']; rfl) (by simp only; omega) (by simp only; omega) hl
theorem k3_ok (hm : 1 ≤ m) (h5 : m ≤ 4) (hS : SOk S m) (hs : OkM s) (x1 : Int × Y8) (hk : Int.tmod x1.1 14 = kd) (h9 : 6 ≤ kd) (h13 : kd ≤ 13) (hl : least ≤ 4) :
    ∃ t s', Y0w S ((m + 1 : Nat) : Int) x1 s (decide (kd ≤ 8)) = some (t, s') ∧ Pt (m + 1) least t ∧ OkM s' := by
  unfold Y0w
  rw [hk]
  have hm1 : ((m + 1 : Nat) : Int) - 1 = (m : Int) := by omega
  by_cases h8 : kd ≤ 8
  · rw [Y3b h8, Y3h (by omega), hm1]
    have := two_ok hm h5 hS hs (n := ⟨kd, 0⟩) (c := 2) (by omega) (by
      unfold ar; simp only
      rw [Vn, Vn, Vp]; rfl) (by
      unfold pr; simp only
      rw [Vn, Vn, Vn]) (by simp only; omega) (by simp only; omega) hl
    exact this
  · rw [Y2x h8]
    have := k2_ok hm h5 hS hs x1 hk (by omega) h13 hl
    by_cases h9' : kd = 9
    · rw [Y3q h9', beq_iff_eq.2 h9']
      rwa [decide_eq_true (by omega : kd ≤ 11)] at this
    · rw [Y3i h9']
      by_cases h10 : kd = 10
      · rw [Y3q h10, beq_iff_eq.2 h10]
        rwa [decide_eq_true (by omega : kd ≤ 11)] at this
      · rw [Y3i h10]
        rwa [show (kd == 11) = decide (kd ≤ 11) by
          by_cases h : kd = 11
          · rw [beq_iff_eq.2 h, decide_eq_true (by omega)]
          · rw [beq_eq_false_iff_ne.2 h, decide_eq_false (by omega)]]
theorem k4_ok (hm : 1 ≤ m) (h5 : m ≤ 4) (hT : 2 ≤ m → TOk T (m - 1)) (hS : SOk S m) (hs : OkM s) (x1 : Int × Y8) (hk : Int.tmod x1.1 14 = kd) (h9 : 2 ≤ kd) (h13 : kd ≤ 13) (h2m : kd ≤ 5 → 2 ≤ m) (hl0 : 1 ≤ least) (hl : least ≤ 4) :
    ∃ t s', Y0a T S ((m + 1 : Nat) : Int) least x1 s (decide (kd ≤ 5)) = some (t, s') ∧ Pt (m + 1) least t ∧ OkM s' := by
  unfold Y0a Yy
  rw [hk]
  by_cases h8 : kd ≤ 5
  · have hm2 := h2m h8
    have hm1 : ((m + 1 : Nat) : Int) - 2 = ((m - 1 : Nat) : Int) := by omega
    have hp : 1 ≤ pr kd ∧ pr kd ≤ 3 := by
      unfold pr
      split
      · omega
      · split
        · omega
        · rw [Vp]; omega
    rw [Y3b h8, R09_prec, X9, Y3h (by omega), hm1]
    obtain ⟨a, s1, e1, a1, h1⟩ := hT hm2 s (pr kd) hs hp.1 (by omega)
    rw [e1, X9, Y3h (by omega)]
    obtain ⟨b, s2, e2, b1, h2⟩ := hT hm2 s1 (pr kd + 1) h1 (by omega) (by omega)
    simp only
    rw [e2, X9]
    obtain ⟨m', rfl⟩ : ∃ m', m = m' + 1 := ⟨m - 1, by omega⟩
    rw [Nat.add_sub_cancel] at a1 b1
    obtain ⟨j1, j2, j3⟩ := mkT (n := ⟨kd, 0⟩) (ks := [a, b]) (m := m') (by omega) (by
      unfold ar; simp only
      rw [Vn, Vn, Vp]; rfl) (by simp) (fun k hk' => by
        simp only [X00, X09, or_false] at hk'
        rcases hk' with rfl | rfl
        · exact a1.up
        · exact b1.up) (fun i k hk' => by
        unfold adm
        simp only
        rw [Vp]
        match i, hk' with
        | 0, hk' =>
          obtain rfl : a = k := by simpa using hk'
          rw [if_pos rfl]
          exact decide_eq_true a1.2.1
        | 1, hk' =>
          obtain rfl : b = k := by simpa using hk'
          rw [Vn]
          exact decide_eq_true (by have := b1.2.1; omega))
    simp only
    rw [j1, X9]
    by_cases hlt : pr kd < least
    · rw [Y3b hlt]
      obtain ⟨q1, q2, q3⟩ := mkT (n := ⟨10, 0⟩) (ks := [(⟨kd, 0⟩ : Y4) :: [a, b].flatten]) (m := m' + 1) (by omega) rfl (by simp) (fun k hk' => by
        simp only [X00, X09, or_false] at hk'
        subst hk'
        exact ⟨j2, j3⟩) (fun i k hk' => rfl)
      rw [q1, X9]
      exact ⟨_, _, rfl, ⟨q2, hl, q3⟩, h2⟩
    · rw [Y2x hlt]
      refine ⟨_, _, rfl, ⟨j2.mono, ?_, ?_⟩, h2⟩
      · show least ≤ pr kd; omega
      · have : 4 ^ (m' + 1) ≤ 4 ^ (m' + 1 + 1) := Nat.pow_le_pow_right (by omega) (by omega)
        omega
  · rw [Y2x h8]
    have := k3_ok hm h5 hS hs x1 hk (by omega) h13 hl
    by_cases h6 : kd = 6
    · rw [Y3q h6, beq_iff_eq.2 h6]
      rwa [decide_eq_true (by omega : kd ≤ 8)] at this
    · rw [Y3i h6]
      by_cases h7 : kd = 7
      · rw [Y3q h7, beq_iff_eq.2 h7]
        rwa [decide_eq_true (by omega : kd ≤ 8)] at this
      · rw [Y3i h7]
        rwa [show (kd == 8) = decide (kd ≤ 8) by
          by_cases h : kd = 8
          · rw [beq_iff_eq.2 h, decide_eq_true (by omega)]
          · rw [beq_eq_false_iff_ne.2 h, decide_eq_false (by omega)]]
theorem tree_body_ok (h5 : m ≤ 4) (hT : 2 ≤ m → TOk T (m - 1)) (hS : 1 ≤ m → SOk S m) (hs : OkM s) (hl0 : 1 ≤ least) (hl : least ≤ 4) :
    ∃ t s', Y2e T S s ((m + 1 : Nat) : Int) least = some (t, s') ∧ Pt (m + 1) least t ∧ OkM s' := by
  unfold Y2e
  obtain ⟨v, s1, e1, v0, v1, h1⟩ := take_ok hs
  rw [e1, X9]
  obtain ⟨kd, hk⟩ : ∃ kd, Int.tmod v 14 = kd := ⟨_, rfl⟩
  have hkd : 0 ≤ kd ∧ kd ≤ 13 := by rw [← hk, tmod_n v0]; omega
  have hk' : Int.tmod (v, s1).1 14 = kd := hk
  simp only [hk]
  have nl : ∃ t s', ((Y1o s1).bind fun x9 => some (x9.1, x9.2)) = some (t, s') ∧ Pt (m + 1) least t ∧ OkM s' := by
    obtain ⟨n, s2, e2, n0, n1, n2, h2⟩ := number_ok h1
    refine ⟨[n], s2, by rw [e2, X9], leafT (by unfold ar; rw [if_pos n0, if_pos ⟨n1, n2⟩]) (by rw [n0]; rfl) (by omega) hl, h2⟩
  have vl : ∃ t s', ((Y0m s1).bind fun x4 => some ([(⟨(1 : Int), Int.tmod x4.1 (26 : Int)⟩ : Y4)], x4.2)) = some (t, s') ∧ Pt (m + 1) least t ∧ OkM s' := by
    obtain ⟨w, s2, e2, w0, w1, h2⟩ := take_ok h1
    refine ⟨[⟨1, w % 26⟩], s2, by rw [e2, X9]; simp only [tmod_n w0], leafT (by unfold ar; rw [if_neg (show ¬ (1 : Int) = 0 by omega), if_pos rfl, if_pos (show 0 ≤ w % 26 ∧ w % 26 ≤ 25 by omega)]) rfl (by omega) hl, h2⟩
  have hcond : (bif decide (((m + 1 : Nat) : Int) < 2) then true else bif bif decide (((m + 1 : Nat) : Int) < 3) then decide (kd < 6) else false then decide (1 < kd) else false) = decide (m = 0 ∨ (m = 1 ∧ kd < 6 ∧ 1 < kd)) := by
    by_cases h0 : m = 0
    · rw [decide_eq_true (by omega : ((m + 1 : Nat) : Int) < 2), decide_eq_true (Or.inl h0)]; rfl
    · rw [decide_eq_false (by omega : ¬ ((m + 1 : Nat) : Int) < 2)]
      by_cases h1 : m = 1
      · rw [decide_eq_true (by omega : ((m + 1 : Nat) : Int) < 3)]
        by_cases h6 : kd < 6
        · by_cases h1k : 1 < kd
          · rw [decide_eq_true h6, decide_eq_true h1k, decide_eq_true (Or.inr ⟨h1, h6, h1k⟩)]; rfl
          · rw [decide_eq_true h6, decide_eq_false h1k, decide_eq_false (by omega)]; rfl
        · rw [decide_eq_false h6, decide_eq_false (by omega : ¬ (m = 0 ∨ (m = 1 ∧ kd < 6 ∧ 1 < kd)))]; rfl
      · rw [decide_eq_false (by omega : ¬ ((m + 1 : Nat) : Int) < 3), decide_eq_false (by omega : ¬ (m = 0 ∨ (m = 1 ∧ kd < 6 ∧ 1 < kd)))]; rfl
  rw [hcond]
  by_cases hc : m = 0 ∨ (m = 1 ∧ kd < 6 ∧ 1 < kd)
  · rw [Y3b hc]
    by_cases hp : Int.tmod kd 2 = 1
    · rw [Y3q hp]; exact vl
    · rw [Y3i hp]; exact nl
  · rw [Y2x hc]
    by_cases h0 : kd = 0
    · rw [Y3q h0]; exact nl
    rw [Y3i h0]
    by_cases h1' : kd = 1
    · rw [Y3q h1']; exact vl
    rw [Y3i h1']
    have hm : 1 ≤ m := by omega
    have := k4_ok hm h5 hT (hS hm) h1 (v, s1) hk' (by omega) hkd.2 (by omega) hl0 hl
    by_cases h2 : kd = 2
    · rw [Y3q h2, beq_iff_eq.2 h2]
      rwa [decide_eq_true (by omega : kd ≤ 5)] at this
    · rw [Y3i h2]
      by_cases h3 : kd = 3
      · rw [Y3q h3, beq_iff_eq.2 h3]
        rwa [decide_eq_true (by omega : kd ≤ 5)] at this
      · rw [Y3i h3]
        by_cases h4 : kd = 4
        · rw [Y3q h4, beq_iff_eq.2 h4]
          rwa [decide_eq_true (by omega : kd ≤ 5)] at this
        · rw [Y3i h4]
          rwa [show (kd == 5) = decide (kd ≤ 5) by
            by_cases h : kd = 5
            · rw [beq_iff_eq.2 h, decide_eq_true (by omega)]
            · rw [beq_eq_false_iff_ne.2 h, decide_eq_false (by omega)]]
def smB (T : Y8 → Int → Int → Option (List Y4 × Y8)) (c m : Int) : (Y8 × List (List Y4) × Int → Option (List (List Y4) × Y8)) → Y8 × List (List Y4) × Int → Option (List (List Y4) × Y8) := fun loop s => Y0c T c m loop s.1 s.2.1 s.2.2
theorem some_body_ok (hT : TOk T m) (R : Y8 → Int → Int → Option (List (List Y4) × Y8)) (hs : OkM s) {c : Nat} (hc : c ≤ 4) :
    ∃ ks s', Y3a T R s (c : Int) (m : Int) = some (ks, s') ∧ ks.length = c ∧ (∀ k ∈ ks, Pt m 1 k) ∧ OkM s' := by
  have run : ∀ (j q : Nat) (s : Y8) (ks : List (List Y4)), ks.length + j = c → OkM s → (∀ k ∈ ks, Pt m 1 k) → ∃ ks' s', iter (smB T (c : Int) (m : Int)) (q + 1 + j) (s, ks, (ks.length : Int)) = some (ks', s') ∧ ks'.length = c ∧ (∀ k ∈ ks', Pt m 1 k) ∧ OkM s' := by
    intro j
    induction j with
    | zero =>
      intro q s ks hl hs hk
      refine ⟨ks, s, ?_, by omega, hk, hs⟩
      rw [X0d, Y0r]
      show Y0c T (c : Int) (m : Int) _ s ks (ks.length : Int) = _
      unfold Y0c
      rw [Y2x (by omega)]
    | succ j ih =>
      intro q s ks hl hs hk
      obtain ⟨t, s1, e1, t1, h1⟩ := hT s 1 hs (by omega) (by omega)
      obtain ⟨ks', s', r⟩ := ih q s1 (ks ++ [t]) (by simp; omega) h1 (fun k hk' => by
        rcases Xw.1 hk' with h | h
        · exact hk k h
        · have : k = t := by simpa using h
          rw [this]; exact t1)
      refine ⟨ks', s', ?_, r.2⟩
      rw [← r.1, show q + 1 + (j + 1) = (q + 1 + j) + 1 by omega, Y0r]
      show Y0c T (c : Int) (m : Int) _ s ks (ks.length : Int) = _
      unfold Y0c
      rw [Y3b (by omega), e1, X9, G_room (by omega), Y3h (by omega)]
      rw [show ((ks ++ [t]).length : Int) = (ks.length : Int) + 1 by simp]
  obtain ⟨ks', s', r⟩ := run c (999999 - c) s [] (by simp) hs (by simp)
  rw [show 999999 - c + 1 + c = 1000000 by omega] at r
  exact ⟨ks', s', r.1, r.2⟩
theorem maker_ok : ∀ (m e : Nat), m ≤ 4 → TOk (Y18 (2 * m + 1 + e)) (m + 1) ∧ SOk (Y21 (2 * m + 2 + e)) (m + 1) := by
  intro m
  induction m using Nat.strongRecOn with
  | ind m ih =>
    intro e hm
    have hT : ∀ e, TOk (Y18 (2 * m + 1 + e)) (m + 1) := by
      intro e s least hs h0 h4
      rw [show 2 * m + 1 + e = (2 * m + e) + 1 by omega, Y18]
      refine tree_body_ok hm (fun h2 => ?_) (fun h1 => ?_) hs h0 h4
      · have := (ih (m - 2) (by omega) (3 + e) (by omega)).1
        rwa [show 2 * (m - 2) + 1 + (3 + e) = 2 * m + e by omega, show m - 2 + 1 = m - 1 by omega] at this
      · have := (ih (m - 1) (by omega) e (by omega)).2
        rwa [show 2 * (m - 1) + 2 + e = 2 * m + e by omega, show m - 1 + 1 = m by omega] at this
    refine ⟨hT e, fun s c hc hs => ?_⟩
    rw [show 2 * m + 2 + e = (2 * m + 1 + e) + 1 by omega, Y21]
    exact some_body_ok (hT e) _ hs hc
theorem Made_tree {t0 : List Int} (h0 : okList (okInt .u8) t0) : ∃ f : List Y4, f_R09_Made t0 = some f ∧ IsT 5 f ∧ f.length ≤ 60 := by
  unfold f_R09_Made
  have hn : (0 : Int) ≤ (if (40 : Int) < (t0.length : Int) then (40 : Int) else (t0.length : Int)) ∧ (if (40 : Int) < (t0.length : Int) then (40 : Int) else (t0.length : Int)) ≤ (t0.length : Int) ∧ (if (40 : Int) < (t0.length : Int) then (40 : Int) else (t0.length : Int)) ≤ 40 := by split <;> omega
  rw [Y2q ⟨hn.1, hn.2.1⟩]
  have hs : OkM ⟨t0.take ((if (40 : Int) < (t0.length : Int) then (40 : Int) else (t0.length : Int)).toNat), 0⟩ := by
    refine ⟨fun i => ?_, ?_, by simp, by simp⟩
    · simp only [List.getD]
      cases h : (t0.take ((if (40 : Int) < (t0.length : Int) then (40 : Int) else (t0.length : Int)).toNat))[i]? with
      | none => simp
      | some x => exact h0.1 x (X0y (X0p h))
    · simp only [X0c]; omega
  obtain ⟨t, s', e1, t1, h1⟩ := (maker_ok 4 999991 (by omega)).1 _ 1 hs (by omega) (by omega)
  have e1' : f_R09_maker_tree (⟨t0.take ((if (40 : Int) < (t0.length : Int) then (40 : Int) else (t0.length : Int)).toNat), (0 : Int)⟩ : Y8) (5 : Int) (1 : Int) = some (t, s') := e1
  rw [e1', X9]
  have hb := t1.2.2
  have : (4 : Nat) ^ (4 + 1) = 1024 := by decide
  simp only
  rw [R09_Valid_ok t1.1 (by omega) (by omega), X9]
  by_cases h : t.length ≤ 60
  · rw [decide_eq_true h]
    exact ⟨t, rfl, t1.1, h⟩
  · rw [decide_eq_false h]
    exact ⟨_, rfl, IsT.le (d := 1) ⟨⟨1, 0⟩, [], rfl, rfl, fun k hk => by simp at hk, fun i k hk => by simp at hk⟩ (by omega), by simp⟩
def okN (n : Y4) : Prop := (-9223372036854775808 ≤ n.Op ∧ n.Op ≤ 9223372036854775807) ∧ -9223372036854775808 ≤ n.N ∧ n.N ≤ 9223372036854775807
theorem tdiv8_le {n : Int} (h : -9223372036854775808 ≤ n ∧ n ≤ 9223372036854775807) : -9223372036854775808 ≤ Int.tdiv n 8 ∧ Int.tdiv n 8 ≤ 9223372036854775807 := by
  by_cases h0 : 0 ≤ n
  · rw [tdiv8 h0]; omega
  · have : Int.tdiv n 8 = -(Int.tdiv (-n) 8) := by rw [Int.neg_tdiv]; omega
    rw [this, tdiv8 (by omega)]
    omega
theorem ar_none_mat (h : ar n = none) (h13 : n.Op = 13) : ¬ (8 ≤ n.N ∧ n.N < 40 ∧ 1 ≤ n.N % 8 ∧ n.N % 8 ≤ 4) := by
  unfold ar at h
  rw [Vn, Vn, Vn, Vn, Vn, if_pos h13] at h
  split at h
  · cases h
  · assumption
theorem cond_and (a b : Bool) : cond a b false = (a && b) := by cases a <;> rfl
theorem mat_cond {N : Int} (h : ¬ (8 ≤ N ∧ N < 40 ∧ 1 ≤ N % 8 ∧ N % 8 ≤ 4)) (h0 : 0 ≤ N) :
    (bif bif bif decide ((1 : Int) ≤ (Int.tdiv N (8 : Int))) then decide ((Int.tdiv N (8 : Int)) ≤ (4 : Int)) else false then decide ((1 : Int) ≤ (Int.tmod N (8 : Int))) else false then decide ((Int.tmod N (8 : Int)) ≤ (4 : Int)) else false) = false := by
  rw [tdiv8 h0, tmod8 h0]
  simp only [cond_and]
  rw [← X1g]
  simp only [X3, decide_eq_true_eq]
  omega
theorem formula_arity_none (h : ar n = none) (hn : okN n) : ∃ k : Int, Y1a n = some (k, false) := by
  obtain ⟨o, N⟩ := n
  have hN := hn.2
  simp only at hN
  by_cases h0 : o = 0
  · subst h0
    have hc : ¬ (0 ≤ N ∧ N ≤ 99999) := by
      unfold ar at h; simp only [if_true] at h
      split at h
      · cases h
      · assumption
    refine ⟨0, ?_⟩
    unfold Y1a
    simp only [cond_and]
    rw [Y3q rfl]
    congr 2
    rw [← X1g]; simpa using hc
  by_cases h1 : o = 1
  · subst h1
    have hc : ¬ (0 ≤ N ∧ N ≤ 25) := by
      unfold ar at h; simp only [if_true] at h
      rw [Vn] at h
      split at h
      · cases h
      · assumption
    refine ⟨0, ?_⟩
    unfold Y1a
    simp only [cond_and]
    rw [Y3i (by omega), Y3q rfl]
    congr 2
    rw [← X1g]; simpa using hc
  have k2 : ∀ b : Bool, (b = true → 9 ≤ o ∧ o ≤ 11) → (b = false → ¬ (9 ≤ o ∧ o ≤ 11)) → ¬ (2 ≤ o ∧ o ≤ 8) → ∃ k : Int, Y0y ⟨o, N⟩ b = some (k, false) := by
    intro b hb hb' h28
    unfold Y0y Y4g
    cases b with
    | true =>
      have := hb rfl
      unfold ar at h; simp only at h
      rw [if_neg h0, if_neg h1, if_neg h28, if_pos this] at h
      rw [cond_true]
      refine ⟨1, ?_⟩
      split at h
      · cases h
      · rename_i hz; rw [beq_eq_false_iff_ne.2 hz]
    | false =>
      have h911 := hb' rfl
      rw [cond_false]
      simp only
      by_cases h12 : o = 12
      · unfold ar at h; simp only at h
        rw [if_neg h0, if_neg h1, if_neg h28, if_neg h911, if_pos h12] at h
        rw [Y3q h12]
        have hz : ¬ (2 ≤ N ∧ N ≤ 5) := by
          split at h
          · cases h
          · assumption
        have hc : (bif decide (N < 2) then true else decide ((5 : Int) < N)) = true := by
          by_cases hx : N < 2
          · rw [decide_eq_true hx]; rfl
          · rw [decide_eq_false hx, decide_eq_true (by omega)]; rfl
        rw [hc, cond_true]
        exact ⟨0, rfl⟩
      rw [Y3i h12]
      by_cases h13 : o = 13
      · have hz := ar_none_mat h h13
        rw [Y3q h13]
        by_cases hneg : N < 0
        · rw [Y3b hneg]; exact ⟨0, rfl⟩
        rw [Y2x hneg]
        have h8 : 0 ≤ N := by omega
        have hm : 0 ≤ N / 8 * (N % 8) ∧ N / 8 * (N % 8) ≤ 9223372036854775807 := by
          have a1 : N / 8 ≤ 1152921504606846975 := by omega
          have a2 : N % 8 ≤ 7 := by omega
          have := Int.mul_le_mul a1 a2 (by omega) (by omega : (0 : Int) ≤ 1152921504606846975)
          exact ⟨Int.mul_nonneg (by omega) (by omega), by omega⟩
        rw [mat_cond hz h8, Y3h (tdiv8_le hN), tdiv8 h8, tmod8 h8, Y3h (by omega)]
        exact ⟨_, rfl⟩
      · rw [Y3i h13]; exact ⟨0, rfl⟩
  have k3 : ∀ b : Bool, (b = true → 2 ≤ o ∧ o ≤ 8) → (b = false → ¬ (2 ≤ o ∧ o ≤ 8)) → ∃ k : Int, Yz ⟨o, N⟩ b = some (k, false) := by
    intro b hb hb'
    unfold Yz
    cases b with
    | true =>
      have := hb rfl
      unfold ar at h; simp only at h
      rw [if_neg h0, if_neg h1, if_pos this] at h
      rw [cond_true]
      refine ⟨2, ?_⟩
      split at h
      · cases h
      · rename_i hz; rw [beq_eq_false_iff_ne.2 hz]
    | false =>
      have h28 := hb' rfl
      rw [cond_false]
      simp only
      by_cases h9 : o = 9
      · rw [Y3q h9]; exact k2 _ (fun _ => by omega) (fun hx => absurd h9 (beq_eq_false_iff_ne.1 hx)) h28
      rw [Y3i h9]
      by_cases h10 : o = 10
      · rw [Y3q h10]; exact k2 _ (fun _ => by omega) (fun hx => absurd h10 (beq_eq_false_iff_ne.1 hx)) h28
      rw [Y3i h10]
      exact k2 _ (fun hx => by have := beq_iff_eq.1 hx; omega) (fun hx => by have := beq_eq_false_iff_ne.1 hx; omega) h28
  unfold Y1a
  simp only
  rw [Y3i h0, Y3i h1]
  by_cases h2 : o = 2
  · rw [Y3q h2]; exact k3 _ (fun _ => by omega) (fun hx => absurd h2 (beq_eq_false_iff_ne.1 hx))
  rw [Y3i h2]
  by_cases h2 : o = 3
  · rw [Y3q h2]; exact k3 _ (fun _ => by omega) (fun hx => absurd h2 (beq_eq_false_iff_ne.1 hx))
  rw [Y3i h2]
  by_cases h2 : o = 4
  · rw [Y3q h2]; exact k3 _ (fun _ => by omega) (fun hx => absurd h2 (beq_eq_false_iff_ne.1 hx))
  rw [Y3i h2]
  by_cases h2 : o = 5
  · rw [Y3q h2]; exact k3 _ (fun _ => by omega) (fun hx => absurd h2 (beq_eq_false_iff_ne.1 hx))
  rw [Y3i h2]
  by_cases h2 : o = 6
  · rw [Y3q h2]; exact k3 _ (fun _ => by omega) (fun hx => absurd h2 (beq_eq_false_iff_ne.1 hx))
  rw [Y3i h2]
  by_cases h2 : o = 7
  · rw [Y3q h2]; exact k3 _ (fun _ => by omega) (fun hx => absurd h2 (beq_eq_false_iff_ne.1 hx))
  rw [Y3i h2]
  exact k3 _ (fun hx => by have := beq_iff_eq.1 hx; omega) (fun hx => by have := beq_eq_false_iff_ne.1 hx; omega)
theorem measure_tot {f : List Y4} (hl : f.length ≤ 60) (hN : ∀ n ∈ f, okN n) : ∀ (r i m : Nat), i ≤ f.length → f.length - i ≤ r →
    ∃ (e v : Int) (ok : Bool), Yo (m + r + 1) f (i : Int) = some (e, v, ok) ∧ (ok = true → ∃ (t pre post : List Y4) (d : Nat), f = pre ++ t ++ post ∧ pre.length = i ∧ e = ((i + t.length : Nat) : Int) ∧ v = (d : Int) ∧ 1 ≤ d ∧ d ≤ t.length ∧ IsT d t) := by
  intro r
  induction r with
  | zero =>
    intro i m hi hr
    refine ⟨0, 0, false, ?_, fun h => by cases h⟩
    rw [Yo]
    unfold Y1p
    rw [Y3b (by omega)]
  | succ r ih =>
    intro i m hi hr
    rw [Yo]
    unfold Y1p
    by_cases hiL : f.length ≤ i
    · rw [Y3b (by omega)]
      exact ⟨0, 0, false, rfl, fun h => by cases h⟩
    rw [Y2x (by omega), Y2q (by omega)]
    have hlt : i < f.length := by omega
    obtain ⟨pre, n, post, hf, hpl⟩ : ∃ (pre : List Y4) (n : Y4) (post : List Y4), f = pre ++ n :: post ∧ pre.length = i :=
      ⟨f.take i, f[i], f.drop (i + 1), by rw [List.getElem_cons_drop, X0u], by rw [X0c]; omega⟩
    have hg : f.getD i Yf = n := by rw [hf, ← hpl]; exact getD_mid _ _ _
    rw [X06, hg]
    have hnN := hN n (by rw [hf]; simp)
    cases har : ar n with
    | none =>
      obtain ⟨k, hk⟩ := formula_arity_none har hnN
      rw [hk, X9]
      exact ⟨0, 0, false, rfl, fun h => by cases h⟩
    | some c =>
      have h16 := ar_le har
      rw [formula_arity_ok har, X9, show (!((c : Int), true).2) = false from rfl, cond_false, Y3h (by omega)]
      have run : ∀ (j q : Nat) (ks : List (List Y4)) (d : Nat) (rest : List Y4), post = ks.flatten ++ rest → ks.length + j = c → (∀ k ∈ ks, IsT d k) → (∀ (i : Nat) (k : List Y4), ks[i]? = some k → adm n i (hd k) = true) → d ≤ ks.flatten.length →
          ∃ (e v : Int) (ok : Bool), iter (meB f (i : Int) ((c : Int), true) (Yo (m + (r + 1)))) (q + 1 + j) (((i + 1 + ks.flatten.length : Nat) : Int), ((d + 1 : Nat) : Int), (ks.length : Int)) = some (e, v, ok) ∧ (ok = true → ∃ (t pre post : List Y4) (d : Nat), f = pre ++ t ++ post ∧ pre.length = i ∧ e = ((i + t.length : Nat) : Int) ∧ v = (d : Int) ∧ 1 ≤ d ∧ d ≤ t.length ∧ IsT d t) := by
        intro j
        induction j with
        | zero =>
          intro q ks d rest hp hk hT hA hdl
          refine ⟨((i + 1 + ks.flatten.length : Nat) : Int), ((d + 1 : Nat) : Int), true, ?_, fun _ => ⟨n :: ks.flatten, pre, rest, d + 1, ?_, hpl, ?_, rfl, by omega, by simp only [Xb]; omega, ⟨n, ks, rfl, by rw [har]; congr 1; omega, hT, hA⟩⟩⟩
          · rw [X0d, Y0r]
            show Ys _ f (i : Int) ((c : Int), true) _ ((i + 1 + ks.flatten.length : Nat) : Int) ((d + 1 : Nat) : Int) (ks.length : Int) = _
            unfold Ys
            rw [Y2x (by simp only; omega)]
          · rw [hf, hp]; simp
          · rw [Xb]; omega
        | succ j ihj =>
          intro q ks d rest hp hk hT hA hdl
          rw [show q + 1 + (j + 1) = (q + 1 + j) + 1 by omega, Y0r]
          have hfr : f = (pre ++ n :: ks.flatten) ++ rest := by rw [hf, hp]; simp
          have hprl : (pre ++ n :: ks.flatten).length = i + 1 + ks.flatten.length := by rw [X4, Xb]; omega
          show ∃ (e v : Int) (ok : Bool), Ys (Yo (m + (r + 1))) f (i : Int) ((c : Int), true) (iter (meB f (i : Int) ((c : Int), true) (Yo (m + (r + 1)))) (q + 1 + j)) ((i + 1 + ks.flatten.length : Nat) : Int) ((d + 1 : Nat) : Int) (ks.length : Int) = some (e, v, ok) ∧ _
          generalize hI : iter (meB f (i : Int) ((c : Int), true) (Yo (m + (r + 1)))) (q + 1 + j) = I
          unfold Ys
          rw [Y3b (by simp only; omega)]
          by_cases hpL : f.length ≤ i + 1 + ks.flatten.length
          · have c1 : decide ((f.length : Int) ≤ ((i + 1 + ks.flatten.length : Nat) : Int)) = true := by rw [decide_eq_true_iff]; omega
            rw [c1]
            exact ⟨0, 0, false, rfl, fun h => by cases h⟩
          · have c1 : decide ((f.length : Int) ≤ ((i + 1 + ks.flatten.length : Nat) : Int)) = false := by rw [decide_eq_false_iff_not]; omega
            cases rest with
            | nil => rw [hfr, X4, hprl] at hpL; simp at hpL
            | cons x rest' =>
              have hgx : f.getD (i + 1 + ks.flatten.length) Yf = x := by rw [hfr, ← hprl]; exact getD_mid _ _ _
              simp only [c1, X1b, cond_true, cond_false, X06, hg, hgx, formula_adm]
              rw [Y2q (fun _ => by omega), X9]
              cases hadm : adm n ks.length x with
              | false => exact ⟨0, 0, false, rfl, fun h => by cases h⟩
              | true =>
                rw [Bool.not_true, cond_false]
                obtain ⟨e1, v1, ok1, r1, r2⟩ := ih (i + 1 + ks.flatten.length) m (by omega) (by omega)
                rw [show m + (r + 1) = m + r + 1 by omega, r1, X9]
                cases ok1 with
                | false => exact ⟨0, 0, false, rfl, fun h => by cases h⟩
                | true =>
                  obtain ⟨t1, pre1, post1, d1, q1, q2, q3, q4, q5, q6, q7⟩ := r2 rfl
                  have hrest : x :: rest' = t1 ++ post1 := by
                    have h1 : (pre ++ n :: ks.flatten) ++ (x :: rest') = pre1 ++ (t1 ++ post1) := by rw [← hfr, q1, Xs]
                    exact (List.append_inj h1 (by rw [hprl, q2])).2
                  have htl : i + 1 + ks.flatten.length + t1.length ≤ f.length := by rw [q1, X4, X4, q2]; omega
                  have hhd : hd t1 = x := by
                    have := q7.pos
                    cases t1 with
                    | nil => simp at this
                    | cons y t => simp only [X03, List.cons.injEq] at hrest; exact hrest.1.symm
                  have hfl : (ks ++ [t1]).flatten.length = ks.flatten.length + t1.length := by
                    simp only [X17, X0j, List.flatten_nil, X0e, X4]
                  obtain ⟨e, v, ok, s1, s2⟩ := ihj q (ks ++ [t1]) (max d d1) post1 (by rw [hp, hrest]; simp) (by simp; omega) (fun k hk' => by
                    rcases Xw.1 hk' with h | h
                    · exact (hT k h).le (by omega)
                    · have : k = t1 := by simpa using h
                      rw [this]; exact q7.le (by omega)) (fun i k hik => by
                    by_cases hil : i < ks.length
                    · rw [X0f hil] at hik; exact hA i k hik
                    · rw [X04 (by omega)] at hik
                      have hi0 : i - ks.length = 0 := by
                        rcases Nat.eq_zero_or_pos (i - ks.length) with h | h
                        · exact h
                        · rw [List.getElem?_eq_none (by simp; omega)] at hik; cases hik
                      rw [hi0] at hik
                      have : t1 = k := by simpa using hik
                      rw [← this, hhd, show i = ks.length by omega]; exact hadm) (by rw [hfl]; omega)
                  refine ⟨e, v, ok, ?_, s2⟩
                  rw [← s1, hI]
                  simp only [Bool.not_true, cond_false]
                  rw [Y3h (by omega), Y3h (by omega), hfl]
                  have e0 : (if v1 + 1 > ((d + 1 : Nat) : Int) then v1 + 1 else ((d + 1 : Nat) : Int)) = ((max d d1 + 1 : Nat) : Int) := by
                    split <;> omega
                  rw [e0, q3, ← X1h]
                  simp
      have := run c (999999 - c) [] 0 post rfl (by simp) (fun k hk => by simp at hk) (fun i k hk => by simp at hk) (by simp)
      rw [show 999999 - c + 1 + c = 1000000 by omega] at this
      exact this
theorem formula_Valid_tot {f : List Y4} (hN : ∀ n ∈ f, okN n) : ∃ b : Bool, Y2d f = some b ∧ (b = true → f.length ≤ 60 ∧ ∃ d, d ≤ 8 ∧ IsT d f) := by
  unfold Y2d Y4m
  by_cases h60 : f.length ≤ 60
  · rw [Y2x (by omega)]
    obtain ⟨e, v, ok, r1, r2⟩ := measure_tot h60 hN (f.length) 0 (999999 - f.length) (by omega) (by omega)
    rw [show 999999 - f.length + f.length + 1 = 1000000 by omega] at r1
    have r1' : Y3m f 0 = some (e, v, ok) := r1
    rw [r1', X9]
    simp only
    cases hc : (bif bif !ok then true else e != (f.length : Int) then true else decide ((8 : Int) < v)) with
    | true => rw [cond_true, X9]; exact ⟨_, rfl, fun h => by simp at h⟩
    | false =>
      rw [cond_false, X9]
      refine ⟨_, rfl, fun _ => ⟨h60, ?_⟩⟩
      cases ok with
      | false => simp at hc
      | true =>
        obtain ⟨t, pre, post, d, q1, q2, q3, q4, q5, q6, q7⟩ := r2 rfl
        have hp0 : pre = [] := X15.1 q2
        subst hp0
        have hc2 : (e != (f.length : Int)) = false ∧ decide ((8 : Int) < v) = false := by
          revert hc
          cases (e != (f.length : Int)) <;> cases decide ((8 : Int) < v) <;> simp
        have he : e = (f.length : Int) := by simpa using hc2.1
        have hv : ¬ (8 : Int) < v := of_decide_eq_false hc2.2
        have hpost : post = [] := by
          have hfl : f.length = t.length + post.length := by rw [q1]; simp
          exact X15.1 (by omega)
        subst hpost
        have : f = t := by rw [q1]; simp
        exact ⟨d, by omega, by rw [this]; exact q7⟩
  · rw [Y3b (by omega), X9]
    exact ⟨_, rfl, fun h => by simp at h⟩
inductive Tr where
  | node (n : Y4) (ks : List Tr)
end
mutual
def Tr.flat : Tr → List Y4
  | .node n ks => n :: flatL ks
def flatL : List Tr → List Y4
  | [] => []
  | k :: ks => k.flat ++ flatL ks
end
mutual
def Y2o : Nat → Tr → Prop
  | 0, _ => False
  | d + 1, .node n ks => ar n = some ks.length ∧ goodL d ks ∧ ∀ (i : Nat) (k : Tr), ks[i]? = some k → adm n i (hd k.flat) = true
def goodL : Nat → List Tr → Prop
  | _, [] => True
  | d, k :: ks => Y2o d k ∧ goodL d ks
end
theorem flatL_map : ∀ ks : List Tr, flatL ks = (ks.map Tr.flat).flatten
  | [] => rfl
  | k :: ks => by rw [flatL, flatL_map ks]; rfl
theorem goodL_iff {d : Nat} : ∀ {ks : List Tr}, goodL d ks ↔ ∀ k ∈ ks, Y2o d k
  | [] => by simp [goodL]
  | k :: ks => by simp [goodL, goodL_iff (ks := ks)]
theorem good_IsT : ∀ (d : Nat) (T : Tr), Y2o d T → IsT d T.flat
  | 0, T, h => by cases T; exact h.elim
  | d + 1, .node n ks, h => by
    obtain ⟨h1, h2, h3⟩ := h
    refine ⟨n, ks.map Tr.flat, by rw [Tr.flat, flatL_map], by rw [X02]; exact h1, fun k hk => ?_, fun i k hk => ?_⟩
    · obtain ⟨T, hT, rfl⟩ := X01.1 hk
      exact good_IsT d T (goodL_iff.1 h2 T hT)
    · rw [X0i] at hk
      cases hi : ks[i]? with
      | none => rw [hi] at hk; cases hk
      | some T =>
        rw [hi] at hk
        simp only [Xx, X0] at hk
        rw [← hk]; exact h3 i T hi
theorem IsT_good : ∀ (d : Nat) (t : List Y4), IsT d t → ∃ T : Tr, T.flat = t ∧ Y2o d T
  | 0, t, h => h.elim
  | d + 1, t, h => by
    obtain ⟨n, ks, rfl, h1, h2, h3⟩ := h
    have kids : ∀ ls : List (List Y4), (∀ k ∈ ls, IsT d k) → ∃ Ts : List Tr, Ts.map Tr.flat = ls ∧ goodL d Ts := by
      intro ls
      induction ls with
      | nil => intro _; exact ⟨[], rfl, trivial⟩
      | cons l ls ih =>
        intro hl
        obtain ⟨T, e, g⟩ := IsT_good d l (hl l (by simp))
        obtain ⟨Ts, es, gs⟩ := ih (fun k hk => hl k (by simp [hk]))
        exact ⟨T :: Ts, by rw [Xp, e, es], g, gs⟩
    obtain ⟨Ts, es, gs⟩ := kids ks h2
    refine ⟨.node n Ts, by rw [Tr.flat, flatL_map, es], by rw [h1, ← es, X02], gs, fun i k hk => ?_⟩
    exact h3 i k.flat (by rw [← es, X0i, hk]; rfl)
mutual
def Tr.dep : Tr → Int
  | .node _ ks => depL 1 ks
def depL : Int → List Tr → Int
  | d, [] => d
  | d, k :: ks => depL (if k.dep + 1 > d then k.dep + 1 else d) ks
end
end Go.Proofs.YtkgfbpbndmklnaaDoor
