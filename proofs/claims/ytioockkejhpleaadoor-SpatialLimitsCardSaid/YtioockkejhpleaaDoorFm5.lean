/-
  Own work. What linear.Write answers for a tree is clean.
-/
import Derived.Test.YtioockkejhpleaaDoorFm4
set_option linter.unusedSimpArgs false
set_option linter.unusedVariables false
set_option linter.unusedSimpArgs false
set_option linter.unusedVariables false
namespace Go.Proofs.YtioockkejhpleaaDoor
open Go.Abs
theorem at1 (i : Nat) : (i : Int) + 1 = ((i + 1 : Nat) : Int) := rfl
theorem ar_num {n : S_Node} {k : Nat} (h : ar n = some k) (h0 : n.Op = 0) : k = 0 ∧ 0 ≤ n.N ∧ n.N ≤ 99999 := by
  unfold ar at h
  rw [if_pos h0] at h
  split at h
  · rename_i hx; exact ⟨(Option.some.inj h).symm, hx⟩
  · cases h
theorem ar_var {n : S_Node} {k : Nat} (h : ar n = some k) (h0 : n.Op = 1) : k = 0 ∧ 0 ≤ n.N ∧ n.N ≤ 25 := by
  unfold ar at h
  rw [if_neg (by omega), if_pos h0] at h
  split at h
  · rename_i hx; exact ⟨(Option.some.inj h).symm, hx⟩
  · cases h
theorem ar_two {n : S_Node} {k : Nat} (h : ar n = some k) (h2 : 2 ≤ n.Op) (h8 : n.Op ≤ 8) : k = 2 := by
  unfold ar at h
  rw [if_neg (by omega), if_neg (by omega), if_pos ⟨h2, h8⟩] at h
  split at h
  · exact (Option.some.inj h).symm
  · cases h
theorem ar_one {n : S_Node} {k : Nat} (h : ar n = some k) (h2 : 9 ≤ n.Op) (h8 : n.Op ≤ 11) : k = 1 := by
  unfold ar at h
  rw [if_neg (by omega), if_neg (by omega), if_neg (by omega), if_pos ⟨h2, h8⟩] at h
  split at h
  · exact (Option.some.inj h).symm
  · cases h
theorem ar_tab {n : S_Node} {k : Nat} (h : ar n = some k) (h2 : n.Op = 12) : (k : Int) = n.N + 1 ∧ 2 ≤ n.N ∧ n.N ≤ 5 := by
  unfold ar at h
  rw [if_neg (by omega), if_neg (by omega), if_neg (by omega), if_neg (by omega), if_pos h2] at h
  split at h
  · have := Option.some.inj h; omega
  · cases h
theorem ar_mat {n : S_Node} {k : Nat} (h : ar n = some k) (h2 : n.Op = 13) : (k : Int) = n.N / 8 * (n.N % 8) ∧ 8 ≤ n.N ∧ n.N < 40 ∧ (k : Int) ≤ 16 := by
  unfold ar at h
  rw [if_neg (by omega), if_neg (by omega), if_neg (by omega), if_neg (by omega), if_neg (by omega), if_pos h2] at h
  split at h
  · rename_i hx
    have := mat_mul hx
    have hk := Option.some.inj h
    rw [← hk]
    omega
  · cases h
theorem node_k1 {P : S_writer → Int → Option S_writer} {B : S_writer → S_Node → Int → Option S_writer} {f : List S_Node} {d : Nat} (hP : PowOk P f d) (hB : BrkOk B f d) (hl6 : f.length ≤ 100000) {n : S_Node} {ks : List (List S_Node)} {pre post : List S_Node} {l c : List Int} (hks : ∀ k ∈ ks, IsT d k) (hf : f = pre ++ (n :: ks.flatten) ++ post) (ha : ar n = some ks.length)
    (h6 : 6 ≤ n.Op) (hl : lvOk l) (hc : c.length + 100 * (1 + ks.flatten.length) ≤ 1000000) (h40 : l.length + d + 1 ≤ 30) :
    ∃ out, f_linear_writer_node_body_k1 P B (W f pre.length l c) (W f (pre.length + 1) l c) (decide (n.Op = 7 ∨ n.Op = 8)) = some (W f (pre.length + 1 + ks.flatten.length) l (c ++ out)) ∧ cl true out ∧ out.length ≤ 100 * (1 + ks.flatten.length) := by
  have hg : f.getD pre.length zS_Node = n := by rw [hf, List.append_assoc]; exact getD_mid _ _ _
  unfold f_linear_writer_node_body_k1
  simp only [Int.toNat_natCast, hg]
  by_cases h78 : n.Op = 7 ∨ n.Op = 8
  · rw [cd_pos h78]
    have hk2 := ar_two ha (by omega) (by omega)
    match ks, hk2 with
    | [a, b], _ =>
      have e : ([a, b] : List (List S_Node)).flatten = a ++ b := by simp
      rw [e] at hf hc ⊢
      simp only [List.length_append] at hc ⊢
      obtain ⟨o, e1, e2, e3⟩ := hP n a b pre post l c (hks a (by simp)) (hks b (by simp)) hf hl (by omega) h40
      refine ⟨o, ?_, e2, by omega⟩
      rw [e1, Option.bind_some, Nat.add_assoc (pre.length + 1)]
  · rw [cd_neg h78]
    have hb : n.Op ≠ 7 ∧ n.Op ≠ 8 := by omega
    obtain ⟨o, e1, e2, e3⟩ := hB n ks pre post l c hks hf ha (tri_ok ha (by omega)) hl hc h40
    refine ⟨o, ?_, e2, e3⟩
    by_cases h12 : n.Op = 12
    · obtain ⟨hk, q⟩ := ar_tab ha h12
      rw [cb_pos h12, G_inR (by omega), ← hk, e1, Option.bind_some]
    rw [cb_neg h12]
    by_cases h13 : n.Op = 13
    · obtain ⟨hk, q⟩ := ar_mat ha h13
      rw [cb_pos h13, tdiv8 (by omega), tmod8 (by omega), ← hk, G_inR (by omega), G_inR (by omega), e1, Option.bind_some]
    rw [cb_neg h13]
    by_cases h6' : n.Op = 6
    · have hk2 := ar_two ha (by omega) (by omega)
      rw [hk2] at e1
      rw [cb_pos h6']
      have e1' : B ⟨f, ((pre.length + 1 : Nat) : Int), l, c, ()⟩ n 2 = _ := e1
      rw [e1', Option.bind_some]
    · have hc := ar_cases ha
      have hk1 := ar_one ha (by omega) (by omega)
      rw [hk1] at e1
      rw [cb_neg h6']
      have e1' : B ⟨f, ((pre.length + 1 : Nat) : Int), l, c, ()⟩ n 1 = _ := e1
      rw [e1', Option.bind_some]
theorem node_k2 {F : S_writer → Option S_writer} {P : S_writer → Int → Option S_writer} {B : S_writer → S_Node → Int → Option S_writer} {f : List S_Node} {d : Nat} (hF : NodeOk F f d) (hP : PowOk P f d) (hB : BrkOk B f d) (hl6 : f.length ≤ 100000) {n : S_Node} {ks : List (List S_Node)} {pre post : List S_Node} {l c : List Int} (hks : ∀ k ∈ ks, IsT d k) (hf : f = pre ++ (n :: ks.flatten) ++ post) (ha : ar n = some ks.length)
    (h6 : 2 ≤ n.Op) (hl : lvOk l) (hc : c.length + 100 * (1 + ks.flatten.length) ≤ 1000000) (h40 : l.length + d + 1 ≤ 30) :
    ∃ out, f_linear_writer_node_body_k2 F P B (W f pre.length l c) (W f (pre.length + 1) l c) (decide (n.Op ≤ 5)) = some (W f (pre.length + 1 + ks.flatten.length) l (c ++ out)) ∧ cl true out ∧ out.length ≤ 100 * (1 + ks.flatten.length) := by
  have hg : f.getD pre.length zS_Node = n := by rw [hf, List.append_assoc]; exact getD_mid _ _ _
  unfold f_linear_writer_node_body_k2
  simp only [Int.toNat_natCast, hg]
  by_cases h5 : n.Op ≤ 5
  · rw [cd_pos h5]
    have hk2 := ar_two ha (by omega) (by omega)
    match ks, hk2 with
    | [a, b], _ =>
      have e : ([a, b] : List (List S_Node)).flatten = a ++ b := by simp
      rw [e] at hf hc ⊢
      simp only [List.length_append] at hc ⊢
      have hfa : f = (pre ++ [n]) ++ a ++ (b ++ post) := by rw [hf]; simp
      have hfb : f = (pre ++ n :: a) ++ b ++ post := by rw [hf]; simp
      have hpl : (pre ++ [n]).length = pre.length + 1 := by simp
      have hpl2 : (pre ++ n :: a).length = pre.length + 1 + a.length := by simp; omega
      obtain ⟨o1, r1, r2, r3⟩ := hF a _ _ l c (hks a (by simp)) hfa hl (by omega) (by omega)
      rw [hpl] at r1
      obtain ⟨s, hs⟩ := sign_some n.Op
      have hs3 : s.length ≤ 3 := by
        obtain ⟨s', h, h3, _⟩ := sign_ok (o := n.Op) r2 r2
        rw [hs] at h; cases h; exact h3
      obtain ⟨o2, q1, q2, q3⟩ := hF b _ _ l (c ++ o1 ++ s) (hks b (by simp)) hfb hl (by simp only [List.length_append]; omega) (by omega)
      rw [hpl2] at q1
      have hcl : cl true (o1 ++ s ++ o2) := by
        obtain ⟨s', h, _, h3⟩ := sign_ok (o := n.Op) r2 q2
        rw [hs] at h; cases h; exact h3
      refine ⟨o1 ++ s ++ o2, ?_, hcl, by simp only [List.length_append]; omega⟩
      rw [r1, Option.bind_some, hs, Option.bind_some]
      simp only
      rw [put_ok (by simp only [List.length_append]; omega), Option.bind_some]
      simp only
      rw [q1, Option.bind_some, Nat.add_assoc (pre.length + 1)]
      simp only [List.append_assoc]
  · rw [cd_neg h5]
    have := node_k1 hP hB hl6 hks hf ha (by omega) hl hc h40
    by_cases h7 : n.Op = 7
    · rw [cb_pos h7, beq_iff_eq.2 h7]
      rwa [decide_eq_true (Or.inl h7)] at this
    · rw [cb_neg h7]
      rwa [show (n.Op == 8) = decide (n.Op = 7 ∨ n.Op = 8) by
        by_cases h : n.Op = 8
        · rw [beq_iff_eq.2 h, decide_eq_true (Or.inr h)]
        · rw [beq_eq_false_iff_ne.2 h, decide_eq_false (by omega)]]
theorem node_body_ok {F : S_writer → Option S_writer} {P : S_writer → Int → Option S_writer} {B : S_writer → S_Node → Int → Option S_writer} {f : List S_Node} {d : Nat} (hF : NodeOk F f d) (hP : PowOk P f d) (hB : BrkOk B f d) (hl6 : f.length ≤ 100000) : NodeOk (f_linear_writer_node_body F P B) f (d + 1) := by
  intro t pre post l c ht hf hl hc h40
  obtain ⟨n, ks, rfl, ha, hks, had⟩ := ht
  have hg : f.getD pre.length zS_Node = n := by rw [hf, List.append_assoc]; exact getD_mid _ _ _
  have hlt : pre.length < f.length := by rw [hf]; simp
  have htl : (n :: ks.flatten).length = 1 + ks.flatten.length := by rw [List.length_cons]; omega
  rw [htl] at hc ⊢
  unfold f_linear_writer_node_body
  simp only [Int.toNat_natCast, hg]
  rw [G_pos (by omega), G_inR (by omega), at1]
  by_cases h0 : n.Op = 0
  · obtain ⟨hk, n0, n1⟩ := ar_num ha h0
    have hks0 : ks = [] := List.length_eq_zero_iff.1 hk
    subst hks0
    obtain ⟨o, e1, e2, e3⟩ := num_ok (f := f) (i := pre.length + 1) (l := l) 4 999995 n.N (c ++ [60]) n0 (by omega) n1 (by simp only [List.length_append, List.length_cons, List.length_nil]; omega)
    refine ⟨[60] ++ o, ?_, cl_cat (cl_one ⟨by omega, by omega⟩) e2, by simp only [List.length_append, List.length_cons, List.length_nil, List.flatten_nil]; omega⟩
    rw [cb_pos h0, put_ok (by simp only [List.length_cons, List.length_nil]; omega), Option.bind_some]
    have e1' : f_linear_writer_number ⟨f, ((pre.length + 1 : Nat) : Int), l, c ++ [60], ()⟩ n.N = _ := e1
    simp only
    rw [e1', Option.bind_some, ← List.append_assoc]
    rfl
  rw [cb_neg h0]
  by_cases h1 : n.Op = 1
  · obtain ⟨hk, n0, n1⟩ := ar_var ha h1
    have hks0 : ks = [] := List.length_eq_zero_iff.1 hk
    subst hks0
    have hlt := let_ok (i := n.N) (by omega)
    refine ⟨[48, tab_linear_letters.getD n.N.toNat 0], ?_, cl_cat (a := [48]) (cl_one ⟨by omega, by omega⟩) (cl_one hlt), by simp⟩
    rw [cb_pos h1, G_pos (by omega), put_ok (by simp only [List.length_cons, List.length_nil]; omega), Option.bind_some]
    rfl
  rw [cb_neg h1]
  have hcs := ar_cases ha
  have := node_k2 hF hP hB hl6 hks hf ha (by omega) hl hc (by omega)
  rw [← Nat.add_assoc]
  by_cases h2 : n.Op = 2
  · rw [cb_pos h2, beq_iff_eq.2 h2]
    rwa [decide_eq_true (by omega : n.Op ≤ 5)] at this
  rw [cb_neg h2]
  by_cases h3 : n.Op = 3
  · rw [cb_pos h3, beq_iff_eq.2 h3]
    rwa [decide_eq_true (by omega : n.Op ≤ 5)] at this
  rw [cb_neg h3]
  by_cases h4 : n.Op = 4
  · rw [cb_pos h4, beq_iff_eq.2 h4]
    rwa [decide_eq_true (by omega : n.Op ≤ 5)] at this
  rw [cb_neg h4]
  rwa [show (n.Op == 5) = decide (n.Op ≤ 5) by
    by_cases h : n.Op = 5
    · rw [beq_iff_eq.2 h, decide_eq_true (by omega)]
    · rw [beq_eq_false_iff_ne.2 h, decide_eq_false (by omega)]]
theorem node_ok {f : List S_Node} (hl6 : f.length ≤ 100000) : ∀ (d e : Nat), NodeOk (f_linear_writer_node_f (2 * d + e)) f d
  | 0, e => fun t pre post l c ht => ht.elim
  | d + 1, e => by
    have h1 : NodeOk (f_linear_writer_node_f (2 * d + e + 1)) f d := by
      have := node_ok hl6 d (e + 1)
      rwa [← Nat.add_assoc] at this
    have hP : PowOk (f_linear_writer_power_f (2 * d + e + 1)) f d := by
      have := power_body_ok (node_ok hl6 d e) hl6 (f_linear_writer_power_f (2 * d + e)) (f_linear_writer_bracketed_f (2 * d + e))
      exact fun n a b pre post l c x1 x2 x3 x4 x5 x6 => by rw [f_linear_writer_power_f]; exact this n a b pre post l c x1 x2 x3 x4 x5 x6
    have hB : BrkOk (f_linear_writer_bracketed_f (2 * d + e + 1)) f d := by
      have := brk_body_ok (node_ok hl6 d e) hl6 (f_linear_writer_power_f (2 * d + e)) (f_linear_writer_bracketed_f (2 * d + e))
      exact fun n a pre post l c x1 x2 x3 x4 x5 x6 x7 => by rw [f_linear_writer_bracketed_f]; exact this n a pre post l c x1 x2 x3 x4 x5 x6 x7
    have := node_body_ok h1 hP hB hl6
    rw [show 2 * (d + 1) + e = (2 * d + e + 1) + 1 by omega]
    exact fun t pre post l c x1 x2 x3 x4 x5 => by rw [f_linear_writer_node_f]; exact this t pre post l c x1 x2 x3 x4 x5
theorem Write_ok {f : List S_Node} {d : Nat} (ht : IsT d f) (hd : d ≤ 8) (hl : f.length ≤ 60) : ∃ out, f_linear_Write f = some (out, 0) ∧ cl true out ∧ out.length ≤ 6000 := by
  obtain ⟨o, e1, e2, e3⟩ := node_ok (f := f) (by omega) d (1000000 - 2 * d) f [] [] [] [] ht (by simp) (fun x hx => by simp at hx) (by simp; omega) (by simp; omega)
  rw [show 2 * d + (1000000 - 2 * d) = 1000000 by omega] at e1
  refine ⟨o, ?_, e2, by omega⟩
  unfold f_linear_Write
  rw [formula_Valid_ok ht hd hl, Option.bind_some, Bool.not_true, cond_false]
  have hb : f_linear_brackets = some () := rfl
  rw [hb, Option.bind_some]
  have e1' : f_linear_writer_node ⟨f, 0, [], [], ()⟩ = some (W f (([] : List S_Node).length + f.length) [] ([] ++ o)) := e1
  rw [e1', Option.bind_some]
  rfl
end Go.Proofs.YtioockkejhpleaaDoor
