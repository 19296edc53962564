/- Own work. -/
import Derived.Test.YtioockkejhpleaaDoorFm4
set_option linter.unusedSimpArgs false
set_option linter.unusedVariables false
namespace Go.Proofs.YtioockkejhpleaaDoor
open Go.Abs
theorem at1 (i : Nat) : (i : Int) + 1 = ((i + 1 : Nat) : Int) := rfl
theorem ar_num {n : Y4} {k : Nat} (h : ar n = some k) (h0 : n.Op = 0) : k = 0 ∧ 0 ≤ n.N ∧ n.N ≤ 99999 := by
  unfold ar at h
  rw [if_pos h0] at h
  split at h
  · rename_i hx; exact ⟨(X5 h).symm, hx⟩
  · cases h
theorem ar_var {n : Y4} {k : Nat} (h : ar n = some k) (h0 : n.Op = 1) : k = 0 ∧ 0 ≤ n.N ∧ n.N ≤ 25 := by
  unfold ar at h
  rw [if_neg (by omega), if_pos h0] at h
  split at h
  · rename_i hx; exact ⟨(X5 h).symm, hx⟩
  · cases h
theorem ar_two {n : Y4} {k : Nat} (h : ar n = some k) (h2 : 2 ≤ n.Op) (h8 : n.Op ≤ 8) : k = 2 := by
  unfold ar at h
  rw [if_neg (by omega), if_neg (by omega), if_pos ⟨h2, h8⟩] at h
  split at h
  · exact (X5 h).symm
  · cases h
theorem ar_one {n : Y4} {k : Nat} (h : ar n = some k) (h2 : 9 ≤ n.Op) (h8 : n.Op ≤ 11) : k = 1 := by
  unfold ar at h
  rw [if_neg (by omega), if_neg (by omega), if_neg (by omega), if_pos ⟨h2, h8⟩] at h
  split at h
  · exact (X5 h).symm
  · cases h
theorem ar_tab {n : Y4} {k : Nat} (h : ar n = some k) (h2 : n.Op = 12) : (k : Int) = n.N + 1 ∧ 2 ≤ n.N ∧ n.N ≤ 5 := by
  unfold ar at h
  rw [if_neg (by omega), if_neg (by omega), if_neg (by omega), if_neg (by omega), if_pos h2] at h
  split at h
  · have := X5 h; omega
  · cases h
theorem ar_mat {n : Y4} {k : Nat} (h : ar n = some k) (h2 : n.Op = 13) : (k : Int) = n.N / 8 * (n.N % 8) ∧ 8 ≤ n.N ∧ n.N < 40 ∧ (k : Int) ≤ 16 := by
  unfold ar at h
  rw [if_neg (by omega), if_neg (by omega), if_neg (by omega), if_neg (by omega), if_neg (by omega), if_pos h2] at h
  split at h
  · rename_i hx
    have := mat_mul hx
    have hk := X5 h
    rw [← hk]
    omega
  · cases h
theorem node_k1 {P : Y5 → Int → Option Y5} {B : Y5 → Y4 → Int → Option Y5} {f : List Y4} {d : Nat} (hP : PowOk P f d) (hB : BrkOk B f d) (hl6 : f.length ≤ 100000) {n : Y4} {ks : List (List Y4)} {pre post : List Y4} {l c : List Int} (hks : ∀ k ∈ ks, IsT d k) (hf : f = pre ++ (n :: ks.flatten) ++ post) (ha : ar n = some ks.length)
    (h6 : 6 ≤ n.Op) (hl : lvOk l) (hc : c.length + 100 * (1 + ks.flatten.length) ≤ 1000000) (h40 : l.length + d + 1 ≤ 30) :
    ∃ out, Y03 P B (W f pre.length l c) (W f (pre.length + 1) l c) (decide (n.Op = 7 ∨ n.Op = 8)) = some (W f (pre.length + 1 + ks.flatten.length) l (c ++ out)) ∧ cl true out ∧ out.length ≤ 100 * (1 + ks.flatten.length) := by
  have hg : f.getD pre.length Y7 = n := by rw [hf, Xb]; exact Y3v _ _ _
  unfold Y03
  simp only [Xa, hg]
  by_cases h78 : n.Op = 7 ∨ n.Op = 8
  · rw [Y0b h78]
    have hk2 := ar_two ha (by omega) (by omega)
    match ks, hk2 with
    | [a, b], _ =>
      have e : ([a, b] : List (List Y4)).flatten = a ++ b := by simp
      rw [e] at hf hc ⊢
      simp only [X2] at hc ⊢
      obtain ⟨o, e1, e2, e3⟩ := hP n a b pre post l c (hks a (by simp)) (hks b (by simp)) hf hl (by omega) h40
      refine ⟨o, ?_, e2, by omega⟩
      rw [e1, X0, X0h (pre.length + 1)]
  · rw [Y07 h78]
    have hb : n.Op ≠ 7 ∧ n.Op ≠ 8 := by omega
    obtain ⟨o, e1, e2, e3⟩ := hB n ks pre post l c hks hf ha (tri_ok ha (by omega)) hl hc h40
    refine ⟨o, ?_, e2, e3⟩
    by_cases h12 : n.Op = 12
    · obtain ⟨hk, q⟩ := ar_tab ha h12
      rw [Yo h12, Y09 (by omega), ← hk, e1, X0]
    rw [Yi h12]
    by_cases h13 : n.Op = 13
    · obtain ⟨hk, q⟩ := ar_mat ha h13
      rw [Yo h13, tdiv8 (by omega), tmod8 (by omega), ← hk, Y09 (by omega), Y09 (by omega), e1, X0]
    rw [Yi h13]
    by_cases h6' : n.Op = 6
    · have hk2 := ar_two ha (by omega) (by omega)
      rw [hk2] at e1
      rw [Yo h6']
      have e1' : B ⟨f, ((pre.length + 1 : Nat) : Int), l, c, ()⟩ n 2 = _ := e1
      rw [e1', X0]
    · have hc := ar_cases ha
      have hk1 := ar_one ha (by omega) (by omega)
      rw [hk1] at e1
      rw [Yi h6']
      have e1' : B ⟨f, ((pre.length + 1 : Nat) : Int), l, c, ()⟩ n 1 = _ := e1
      rw [e1', X0]
theorem node_k2 {F : Y5 → Option Y5} {P : Y5 → Int → Option Y5} {B : Y5 → Y4 → Int → Option Y5} {f : List Y4} {d : Nat} (hF : NodeOk F f d) (hP : PowOk P f d) (hB : BrkOk B f d) (hl6 : f.length ≤ 100000) {n : Y4} {ks : List (List Y4)} {pre post : List Y4} {l c : List Int} (hks : ∀ k ∈ ks, IsT d k) (hf : f = pre ++ (n :: ks.flatten) ++ post) (ha : ar n = some ks.length)
    (h6 : 2 ≤ n.Op) (hl : lvOk l) (hc : c.length + 100 * (1 + ks.flatten.length) ≤ 1000000) (h40 : l.length + d + 1 ≤ 30) :
    ∃ out, Yu F P B (W f pre.length l c) (W f (pre.length + 1) l c) (decide (n.Op ≤ 5)) = some (W f (pre.length + 1 + ks.flatten.length) l (c ++ out)) ∧ cl true out ∧ out.length ≤ 100 * (1 + ks.flatten.length) := by
  have hg : f.getD pre.length Y7 = n := by rw [hf, Xb]; exact Y3v _ _ _
  unfold Yu
  simp only [Xa, hg]
  by_cases h5 : n.Op ≤ 5
  · rw [Y0b h5]
    have hk2 := ar_two ha (by omega) (by omega)
    match ks, hk2 with
    | [a, b], _ =>
      have e : ([a, b] : List (List Y4)).flatten = a ++ b := by simp
      rw [e] at hf hc ⊢
      simp only [X2] at hc ⊢
      have hfa : f = (pre ++ [n]) ++ a ++ (b ++ post) := by rw [hf]; simp
      have hfb : f = (pre ++ n :: a) ++ b ++ post := by rw [hf]; simp
      have hpl : (pre ++ [n]).length = pre.length + 1 := by simp
      have hpl2 : (pre ++ n :: a).length = pre.length + 1 + a.length := by simp; omega
      obtain ⟨o1, r1, r2, r3⟩ := hF a _ _ l c (hks a (by simp)) hfa hl (by omega) (by omega)
      rw [hpl] at r1
      obtain ⟨s, hs⟩ := sign_some n.Op
      have hs3 : s.length ≤ 3 := by
        obtain ⟨s', h, h3, _⟩ := sign_ok (o := n.Op) r2 r2
        rw [hs] at h; cases h; exact h3
      obtain ⟨o2, q1, q2, q3⟩ := hF b _ _ l (c ++ o1 ++ s) (hks b (by simp)) hfb hl (by simp only [X2]; omega) (by omega)
      rw [hpl2] at q1
      have hcl : cl true (o1 ++ s ++ o2) := by
        obtain ⟨s', h, _, h3⟩ := sign_ok (o := n.Op) r2 q2
        rw [hs] at h; cases h; exact h3
      refine ⟨o1 ++ s ++ o2, ?_, hcl, by simp only [X2]; omega⟩
      rw [r1, X0, hs, X0]
      simp only
      rw [Y4n (by simp only [X2]; omega), X0]
      simp only
      rw [q1, X0, X0h (pre.length + 1)]
      simp only [Xb]
  · rw [Y07 h5]
    have := node_k1 hP hB hl6 hks hf ha (by omega) hl hc h40
    by_cases h7 : n.Op = 7
    · rw [Yo h7, beq_iff_eq.2 h7]
      rwa [decide_eq_true (Or.inl h7)] at this
    · rw [Yi h7]
      rwa [show (n.Op == 8) = decide (n.Op = 7 ∨ n.Op = 8) by
        by_cases h : n.Op = 8
        · rw [beq_iff_eq.2 h, decide_eq_true (Or.inr h)]
        · rw [beq_eq_false_iff_ne.2 h, decide_eq_false (by omega)]]
theorem node_body_ok {F : Y5 → Option Y5} {P : Y5 → Int → Option Y5} {B : Y5 → Y4 → Int → Option Y5} {f : List Y4} {d : Nat} (hF : NodeOk F f d) (hP : PowOk P f d) (hB : BrkOk B f d) (hl6 : f.length ≤ 100000) : NodeOk (Y0u F P B) f (d + 1) := by
  intro t pre post l c ht hf hl hc h40
  obtain ⟨n, ks, rfl, ha, hks, had⟩ := ht
  have hg : f.getD pre.length Y7 = n := by rw [hf, Xb]; exact Y3v _ _ _
  have hlt : pre.length < f.length := by rw [hf]; simp
  have htl : (n :: ks.flatten).length = 1 + ks.flatten.length := by rw [X7]; omega
  rw [htl] at hc ⊢
  unfold Y0u
  simp only [Xa, hg]
  rw [Y01 (by omega), Y09 (by omega), at1]
  by_cases h0 : n.Op = 0
  · obtain ⟨hk, n0, n1⟩ := ar_num ha h0
    have hks0 : ks = [] := X0o.1 hk
    subst hks0
    obtain ⟨o, e1, e2, e3⟩ := num_ok (f := f) (i := pre.length + 1) (l := l) 4 999995 n.N (c ++ [60]) n0 (by omega) n1 (by simp only [X2, X7, X8]; omega)
    refine ⟨[60] ++ o, ?_, Y58 (Y5b ⟨by omega, by omega⟩) e2, by simp only [X2, X7, X8, X0e]; omega⟩
    rw [Yo h0, Y4n (by simp only [X7, X8]; omega), X0]
    have e1' : Y3g ⟨f, ((pre.length + 1 : Nat) : Int), l, c ++ [60], ()⟩ n.N = _ := e1
    simp only
    rw [e1', X0, ← Xb]
    rfl
  rw [Yi h0]
  by_cases h1 : n.Op = 1
  · obtain ⟨hk, n0, n1⟩ := ar_var ha h1
    have hks0 : ks = [] := X0o.1 hk
    subst hks0
    have hlt := let_ok (i := n.N) (by omega)
    refine ⟨[48, Y9.getD n.N.toNat 0], ?_, Y58 (a := [48]) (Y5b ⟨by omega, by omega⟩) (Y5b hlt), by simp⟩
    rw [Yo h1, Y01 (by omega), Y4n (by simp only [X7, X8]; omega), X0]
    rfl
  rw [Yi h1]
  have hcs := ar_cases ha
  have := node_k2 hF hP hB hl6 hks hf ha (by omega) hl hc (by omega)
  rw [← X0h]
  by_cases h2 : n.Op = 2
  · rw [Yo h2, beq_iff_eq.2 h2]
    rwa [decide_eq_true (by omega : n.Op ≤ 5)] at this
  rw [Yi h2]
  by_cases h3 : n.Op = 3
  · rw [Yo h3, beq_iff_eq.2 h3]
    rwa [decide_eq_true (by omega : n.Op ≤ 5)] at this
  rw [Yi h3]
  by_cases h4 : n.Op = 4
  · rw [Yo h4, beq_iff_eq.2 h4]
    rwa [decide_eq_true (by omega : n.Op ≤ 5)] at this
  rw [Yi h4]
  rwa [show (n.Op == 5) = decide (n.Op ≤ 5) by
    by_cases h : n.Op = 5
    · rw [beq_iff_eq.2 h, decide_eq_true (by omega)]
    · rw [beq_eq_false_iff_ne.2 h, decide_eq_false (by omega)]]
theorem node_ok {f : List Y4} (hl6 : f.length ≤ 100000) : ∀ (d e : Nat), NodeOk (Yw (2 * d + e)) f d
  | 0, e => fun t pre post l c ht => ht.elim
  | d + 1, e => by
    have h1 : NodeOk (Yw (2 * d + e + 1)) f d := by
      have := node_ok hl6 d (e + 1)
      rwa [← X0h] at this
    have hP : PowOk (Yl (2 * d + e + 1)) f d := by
      have := power_body_ok (node_ok hl6 d e) hl6 (Yl (2 * d + e)) (Yg (2 * d + e))
      exact fun n a b pre post l c x1 x2 x3 x4 x5 x6 => by rw [Yl]; exact this n a b pre post l c x1 x2 x3 x4 x5 x6
    have hB : BrkOk (Yg (2 * d + e + 1)) f d := by
      have := brk_body_ok (node_ok hl6 d e) hl6 (Yl (2 * d + e)) (Yg (2 * d + e))
      exact fun n a pre post l c x1 x2 x3 x4 x5 x6 x7 => by rw [Yg]; exact this n a pre post l c x1 x2 x3 x4 x5 x6 x7
    have := node_body_ok h1 hP hB hl6
    rw [show 2 * (d + 1) + e = (2 * d + e + 1) + 1 by omega]
    exact fun t pre post l c x1 x2 x3 x4 x5 => by rw [Yw]; exact this t pre post l c x1 x2 x3 x4 x5
theorem Write_ok {f : List Y4} {d : Nat} (ht : IsT d f) (hd : d ≤ 8) (hl : f.length ≤ 60) : ∃ out, Y3q f = some (out, 0) ∧ cl true out ∧ out.length ≤ 6000 := by
  obtain ⟨o, e1, e2, e3⟩ := node_ok (f := f) (by omega) d (1000000 - 2 * d) f [] [] [] [] ht (by simp) (fun x hx => by simp at hx) (by simp; omega) (by simp; omega)
  rw [show 2 * d + (1000000 - 2 * d) = 1000000 by omega] at e1
  refine ⟨o, ?_, e2, by omega⟩
  unfold Y3q
  rw [Y5c ht hd hl, X0, X17, cond_false]
  have hb : Y52 = some () := rfl
  rw [hb, X0]
  have e1' : Y3x ⟨f, 0, [], [], ()⟩ = some (W f (([] : List Y4).length + f.length) [] ([] ++ o)) := e1
  rw [e1', X0]
  rfl
theorem cl_get : ∀ (o : List Int) (z : Bool), cl z o → ∀ i : Nat, i < o.length → 0 ≤ o.getD i 0 ∧ o.getD i 0 ≤ 62 ∧ (o.getD i 0 = 0 → (0 < i → o.getD (i - 1) 0 ≠ 0) ∧ (i = 0 → z = false) ∧ i + 1 < o.length)
  | [], _, _, i, hi => by simp at hi
  | x :: r, z, h, 0, hi => by
    refine ⟨h.1, h.2.1, fun hx => ⟨fun h => by omega, fun _ => h.2.2.1 hx, ?_⟩⟩
    have hx' : x = 0 := hx
    have h4 := h.2.2.2
    rw [decide_eq_true hx'] at h4
    cases r with
    | nil => cases h4
    | cons y r => simp
  | x :: r, z, h, i + 1, hi => by
    obtain ⟨h1, h2, h3⟩ := cl_get r _ h.2.2.2 i (by simpa using hi)
    refine ⟨h1, h2, fun hx => ?_⟩
    obtain ⟨q1, q2, q3⟩ := h3 hx
    refine ⟨fun _ => ?_, fun h => by omega, by simp only [X7]; omega⟩
    cases i with
    | zero => simpa using q2 rfl
    | succ i => exact q1 (by omega)
end Go.Proofs.YtioockkejhpleaaDoor
