/- Own work. -/
import Derived.Test.YtioockkejhpleaaDoorFm13
set_option linter.unusedSimpArgs false
set_option linter.unusedVariables false
namespace Go.Proofs.YtioockkejhpleaaDoor
open Go.Abs
def BrkC (F : Y5 → Y4 → Int → Option Y5) (f : List Y4) (d : Nat) : Prop := ∀ (n : Y4) (ks : List Tr) (pre post : List Y4) (l c : List Int), goodL d ks → f = pre ++ (n :: Y1o ks) ++ post → ar n = some ks.length → (n.Op = 6 ∨ 9 ≤ n.Op ∧ n.Op ≤ 13) → lvOk l → c.length + 100 * (1 + (Y1o ks).length) ≤ 1000000 → l.length + d + 1 ≤ 30 →
  F (W f (pre.length + 1) l c) n (ks.length : Int) = some (W f (pre.length + 1 + (Y1o ks).length) l (c ++ (openC n.Op :: (Y1u l n 0 ks ++ [Y43 n.Op])))) ∧ (Y1u l n 0 ks).length ≤ ks.length + 100 * (Y1o ks).length
theorem brk_bodyC {F : Y5 → Option Y5} {f : List Y4} {d : Nat} (hF : NodeC F f d) (hl6 : f.length ≤ 100000) (P : Y5 → Int → Option Y5) (B : Y5 → Y4 → Int → Option Y5) : BrkC (Y06 F P B) f d := by
  intro n ks pre post l c hks hf ha h6 hl hc h40
  have h16 := ar_le ha
  obtain ⟨e1, e3⟩ := brk_runC hF hl6 hks hf ha h6 hl h40 ks [] (999999 - ks.length) (c ++ [openC n.Op]) rfl (by simp only [X2, X7, X8]; omega)
  rw [show 999999 - ks.length + 1 + ks.length = 1000000 by omega] at e1
  have hz : (Y1o ([] : List Tr)).length = 0 := rfl
  rw [hz, X0d, Xb] at e1
  refine ⟨?_, e3⟩
  unfold Y06
  rw [map_all h6]
  simp only
  rw [show ([openC n.Op, midC n.Op, Y43 n.Op] : List Int).getD 0 0 = openC n.Op from rfl, show ([openC n.Op, midC n.Op, Y43 n.Op] : List Int).getD 1 0 = midC n.Op from rfl, show ([openC n.Op, midC n.Op, Y43 n.Op] : List Int).getD 2 0 = Y43 n.Op from rfl]
  rw [Y4n (by simp only [X7, X8]; omega), X0]
  exact e1
theorem good_two {d : Nat} {n : Y4} {ks : List Tr} (ha : ar n = some ks.length) (h2 : 2 ≤ n.Op) (h8 : n.Op ≤ 8) : ∃ a b, ks = [a, b] := by
  have hk2 := ar_two ha h2 h8
  match ks, hk2 with
  | [a, b], _ => exact ⟨a, b, rfl⟩
theorem flatL_two (a b : Tr) : Y1o [a, b] = a.flat ++ b.flat := by simp [Y1o]
theorem cells_node (l : List Int) (n : Y4) (ks : List Tr) : (Tr.node n ks).cells l = if n.Op = 0 then 60 :: digs n.N
    else if n.Op = 1 then [48, Y9.getD n.N.toNat 0]
    else if n.Op ≤ 5 then binC l (signC n.Op) ks
    else if n.Op = 7 ∨ n.Op = 8 then powC l (expC n.Op) ks
    else openC n.Op :: (Y1u l n 0 ks ++ [Y43 n.Op]) := by rw [Tr.cells]
theorem binC_eq (l s : List Int) (a b : Tr) : binC l s [a, b] = a.cells l ++ s ++ b.cells l := by rw [binC]
theorem node_k1C {P : Y5 → Int → Option Y5} {B : Y5 → Y4 → Int → Option Y5} {f : List Y4} {d : Nat} (hP : PowC P f d) (hB : BrkC B f d) (hl6 : f.length ≤ 100000) {n : Y4} {ks : List Tr} {pre post : List Y4} {l c : List Int} (hks : goodL d ks) (hf : f = pre ++ (n :: Y1o ks) ++ post) (ha : ar n = some ks.length)
    (h6 : 6 ≤ n.Op) (hl : lvOk l) (hc : c.length + 100 * (1 + (Y1o ks).length) ≤ 1000000) (h40 : l.length + d + 1 ≤ 30) :
    Y03 P B (W f pre.length l c) (W f (pre.length + 1) l c) (decide (n.Op = 7 ∨ n.Op = 8)) = some (W f (pre.length + 1 + (Y1o ks).length) l (c ++ (Tr.node n ks).cells l)) ∧ ((Tr.node n ks).cells l).length ≤ 100 * (1 + (Y1o ks).length) := by
  have hg : f.getD pre.length Y7 = n := by rw [hf, Xb]; exact Y3v _ _ _
  rw [cells_node, if_neg (by omega), if_neg (by omega), if_neg (by omega)]
  unfold Y03
  simp only [Xa, hg]
  by_cases h78 : n.Op = 7 ∨ n.Op = 8
  · rw [Y0b h78, if_pos h78]
    obtain ⟨a, b, rfl⟩ := good_two (d := d) ha (by omega) (by omega)
    rw [flatL_two] at hf hc ⊢
    simp only [X2] at hc ⊢
    have hga := Y2x.1 hks a (by simp)
    have hgb := Y2x.1 hks b (by simp)
    obtain ⟨e1, e3⟩ := hP n a b pre post l c hga hgb hf hl (by omega) h40
    refine ⟨?_, by omega⟩
    rw [e1, X0, X0h (pre.length + 1)]
  · rw [Y07 h78, if_neg h78]
    have hcs := ar_cases ha
    obtain ⟨e1, e3⟩ := hB n ks pre post l c hks hf ha (by omega) hl hc h40
    have h16 := ar_le ha
    refine ⟨?_, by simp only [X7, X2, X8]; omega⟩
    by_cases h12 : n.Op = 12
    · obtain ⟨hk, q⟩ := ar_tab ha h12
      rw [Yo h12, Y09 (by omega), ← hk, e1, X0]
    rw [Yi h12]
    by_cases h13 : n.Op = 13
    · obtain ⟨hk, q⟩ := ar_mat ha h13
      rw [Yo h13, tdiv8 (by omega), tmod8 (by omega), ← hk, Y09 (by omega), Y09 (by omega), e1, X0]
    rw [Yi h13]
    by_cases h6' : n.Op = 6
    · have hk2 := ar_two ha (by omega) (by omega)
      rw [hk2] at e1
      rw [Yo h6']
      have e1' : B ⟨f, ((pre.length + 1 : Nat) : Int), l, c, ()⟩ n 2 = _ := e1
      rw [e1', X0]
    · have hk1 := ar_one ha (by omega) (by omega)
      rw [hk1] at e1
      rw [Yi h6']
      have e1' : B ⟨f, ((pre.length + 1 : Nat) : Int), l, c, ()⟩ n 1 = _ := e1
      rw [e1', X0]
theorem node_k2C {F : Y5 → Option Y5} {P : Y5 → Int → Option Y5} {B : Y5 → Y4 → Int → Option Y5} {f : List Y4} {d : Nat} (hF : NodeC F f d) (hP : PowC P f d) (hB : BrkC B f d) (hl6 : f.length ≤ 100000) {n : Y4} {ks : List Tr} {pre post : List Y4} {l c : List Int} (hks : goodL d ks) (hf : f = pre ++ (n :: Y1o ks) ++ post) (ha : ar n = some ks.length)
    (h6 : 2 ≤ n.Op) (hl : lvOk l) (hc : c.length + 100 * (1 + (Y1o ks).length) ≤ 1000000) (h40 : l.length + d + 1 ≤ 30) :
    Yu F P B (W f pre.length l c) (W f (pre.length + 1) l c) (decide (n.Op ≤ 5)) = some (W f (pre.length + 1 + (Y1o ks).length) l (c ++ (Tr.node n ks).cells l)) ∧ ((Tr.node n ks).cells l).length ≤ 100 * (1 + (Y1o ks).length) := by
  have hg : f.getD pre.length Y7 = n := by rw [hf, Xb]; exact Y3v _ _ _
  unfold Yu
  simp only [Xa, hg]
  by_cases h5 : n.Op ≤ 5
  · rw [Y0b h5, cells_node, if_neg (by omega), if_neg (by omega), if_pos h5]
    obtain ⟨a, b, rfl⟩ := good_two (d := d) ha (by omega) (by omega)
    rw [flatL_two] at hf hc ⊢
    rw [binC_eq]
    simp only [X2] at hc ⊢
    have hga := Y2x.1 hks a (by simp)
    have hgb := Y2x.1 hks b (by simp)
    have hfa : f = (pre ++ [n]) ++ a.flat ++ (b.flat ++ post) := by rw [hf]; simp
    have hfb : f = (pre ++ n :: a.flat) ++ b.flat ++ post := by rw [hf]; simp
    have hpl : (pre ++ [n]).length = pre.length + 1 := by simp
    have hpl2 : (pre ++ n :: a.flat).length = pre.length + 1 + a.flat.length := by simp; omega
    obtain ⟨r1, r3⟩ := hF a _ _ l c hga hfa hl (by omega) (by omega)
    rw [hpl] at r1
    have hs3 : (signC n.Op).length ≤ 3 := by unfold signC; repeat' split
                                             all_goals simp
    obtain ⟨q1, q3⟩ := hF b _ _ l (c ++ a.cells l ++ signC n.Op) hgb hfb hl (by simp only [X2]; omega) (by omega)
    rw [hpl2] at q1
    refine ⟨?_, by omega⟩
    rw [r1, X0, linear_sign_eq, X0]
    simp only
    rw [Y4n (by simp only [X2]; omega), X0]
    simp only
    rw [q1, X0, X0h (pre.length + 1)]
    simp only [Xb]
  · rw [Y07 h5]
    have := node_k1C hP hB hl6 hks hf ha (by omega) hl hc h40
    by_cases h7 : n.Op = 7
    · rw [Yo h7, beq_iff_eq.2 h7]
      rwa [decide_eq_true (Or.inl h7)] at this
    · rw [Yi h7]
      rwa [show (n.Op == 8) = decide (n.Op = 7 ∨ n.Op = 8) by
        by_cases h : n.Op = 8
        · rw [beq_iff_eq.2 h, decide_eq_true (Or.inr h)]
        · rw [beq_eq_false_iff_ne.2 h, decide_eq_false (by omega)]]
theorem node_bodyC {F : Y5 → Option Y5} {P : Y5 → Int → Option Y5} {B : Y5 → Y4 → Int → Option Y5} {f : List Y4} {d : Nat} (hF : NodeC F f d) (hP : PowC P f d) (hB : BrkC B f d) (hl6 : f.length ≤ 100000) : NodeC (Y0u F P B) f (d + 1) := by
  intro T pre post l c ht hf hl hc h40
  cases T with
  | node n ks =>
    obtain ⟨ha, hks, had⟩ := ht
    have efl : (Tr.node n ks).flat = n :: Y1o ks := by rw [Tr.flat]
    rw [efl] at hf hc ⊢
    have hg : f.getD pre.length Y7 = n := by rw [hf, Xb]; exact Y3v _ _ _
    have hlt : pre.length < f.length := by rw [hf]; simp
    have htl : (n :: Y1o ks).length = 1 + (Y1o ks).length := by rw [X7]; omega
    rw [htl] at hc ⊢
    unfold Y0u
    simp only [Xa, hg]
    rw [Y01 (by omega), Y09 (by omega), at1]
    by_cases h0 : n.Op = 0
    · obtain ⟨hk, n0, n1⟩ := ar_num ha h0
      have hks0 : ks = [] := X0o.1 hk
      subst hks0
      obtain ⟨e1, e3⟩ := lin_num (f := f) (i := pre.length + 1) (l := l) 4 999995 n.N (c ++ [60]) n0 (by omega) n1 (by simp only [X2, X7, X8]; omega)
      rw [cells_node, if_pos h0]
      refine ⟨?_, by simp only [X7, Y1o, X8]; omega⟩
      rw [Yo h0, Y4n (by simp only [X7, X8]; omega), X0]
      have e1' : Y3g ⟨f, ((pre.length + 1 : Nat) : Int), l, c ++ [60], ()⟩ n.N = _ := e1
      simp only
      rw [e1', X0, Xb]
      rfl
    rw [Yi h0]
    by_cases h1 : n.Op = 1
    · obtain ⟨hk, n0, n1⟩ := ar_var ha h1
      have hks0 : ks = [] := X0o.1 hk
      subst hks0
      rw [cells_node, if_neg h0, if_pos h1]
      refine ⟨?_, by simp [Y1o]⟩
      rw [Yo h1, Y01 (by omega), Y4n (by simp only [X7, X8]; omega), X0]
      rfl
    rw [Yi h1]
    have hcs := ar_cases ha
    have := node_k2C hF hP hB hl6 hks hf ha (by omega) hl hc (by omega)
    rw [← X0h]
    by_cases h2 : n.Op = 2
    · rw [Yo h2, beq_iff_eq.2 h2]
      rwa [decide_eq_true (by omega : n.Op ≤ 5)] at this
    rw [Yi h2]
    by_cases h3 : n.Op = 3
    · rw [Yo h3, beq_iff_eq.2 h3]
      rwa [decide_eq_true (by omega : n.Op ≤ 5)] at this
    rw [Yi h3]
    by_cases h4 : n.Op = 4
    · rw [Yo h4, beq_iff_eq.2 h4]
      rwa [decide_eq_true (by omega : n.Op ≤ 5)] at this
    rw [Yi h4]
    rwa [show (n.Op == 5) = decide (n.Op ≤ 5) by
      by_cases h : n.Op = 5
      · rw [beq_iff_eq.2 h, decide_eq_true (by omega)]
      · rw [beq_eq_false_iff_ne.2 h, decide_eq_false (by omega)]]
theorem node_okC {f : List Y4} (hl6 : f.length ≤ 100000) : ∀ (d e : Nat), NodeC (Yw (2 * d + e)) f d
  | 0, e => fun T pre post l c ht => by cases T; exact ht.elim
  | d + 1, e => by
    have h1 : NodeC (Yw (2 * d + e + 1)) f d := by
      have := node_okC hl6 d (e + 1)
      rwa [← X0h] at this
    have hP : PowC (Yl (2 * d + e + 1)) f d := by
      have := power_bodyC (node_okC hl6 d e) hl6 (Yl (2 * d + e)) (Yg (2 * d + e))
      exact fun n a b pre post l c x1 x2 x3 x4 x5 x6 => by rw [Yl]; exact this n a b pre post l c x1 x2 x3 x4 x5 x6
    have hB : BrkC (Yg (2 * d + e + 1)) f d := by
      have := brk_bodyC (node_okC hl6 d e) hl6 (Yl (2 * d + e)) (Yg (2 * d + e))
      exact fun n a pre post l c x1 x2 x3 x4 x5 x6 x7 => by rw [Yg]; exact this n a pre post l c x1 x2 x3 x4 x5 x6 x7
    have := node_bodyC h1 hP hB hl6
    rw [show 2 * (d + 1) + e = (2 * d + e + 1) + 1 by omega]
    exact fun t pre post l c x1 x2 x3 x4 x5 => by rw [Yw]; exact this t pre post l c x1 x2 x3 x4 x5
theorem Write_cells {T : Tr} {d : Nat} (ht : T.good d) (hd : d ≤ 8) (hl : T.flat.length ≤ 60) : Y3q T.flat = some (T.cells [], 0) ∧ (T.cells []).length ≤ 6000 := by
  obtain ⟨e1, e3⟩ := node_okC (f := T.flat) (by omega) d (1000000 - 2 * d) T [] [] [] [] ht (by simp) (fun x hx => by simp at hx) (by simp; omega) (by simp; omega)
  rw [show 2 * d + (1000000 - 2 * d) = 1000000 by omega] at e1
  refine ⟨?_, by omega⟩
  unfold Y3q
  rw [Y5c (Y3u d T ht) hd hl, X0, X17, cond_false]
  have hb : Y52 = some () := rfl
  rw [hb, X0]
  have e1' : Y3x ⟨T.flat, 0, [], [], ()⟩ = some (W T.flat (([] : List Y4).length + T.flat.length) [] ([] ++ T.cells [])) := e1
  rw [e1', X0]
  rfl
end Go.Proofs.YtioockkejhpleaaDoor
