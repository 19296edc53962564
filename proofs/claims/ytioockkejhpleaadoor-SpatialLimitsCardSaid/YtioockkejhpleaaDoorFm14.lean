/-
  Own work. linear.Write answers the cells of the tree.
-/
import Derived.Test.YtioockkejhpleaaDoorFm13
set_option linter.unusedSimpArgs false
set_option linter.unusedVariables false
set_option linter.unusedSimpArgs false
set_option linter.unusedVariables false
namespace Go.Proofs.YtioockkejhpleaaDoor
open Go.Abs
def BrkC (F : S_writer → S_Node → Int → Option S_writer) (f : List S_Node) (d : Nat) : Prop := ∀ (n : S_Node) (ks : List Tr) (pre post : List S_Node) (l c : List Int), goodL d ks → f = pre ++ (n :: flatL ks) ++ post → ar n = some ks.length → (n.Op = 6 ∨ 9 ≤ n.Op ∧ n.Op ≤ 13) → lvOk l → c.length + 100 * (1 + (flatL ks).length) ≤ 1000000 → l.length + d + 1 ≤ 30 →
  F (W f (pre.length + 1) l c) n (ks.length : Int) = some (W f (pre.length + 1 + (flatL ks).length) l (c ++ (openC n.Op :: (cellsL l n 0 ks ++ [closeC n.Op])))) ∧ (cellsL l n 0 ks).length ≤ ks.length + 100 * (flatL ks).length
theorem brk_bodyC {F : S_writer → Option S_writer} {f : List S_Node} {d : Nat} (hF : NodeC F f d) (hl6 : f.length ≤ 100000) (P : S_writer → Int → Option S_writer) (B : S_writer → S_Node → Int → Option S_writer) : BrkC (f_linear_writer_bracketed_body F P B) f d := by
  intro n ks pre post l c hks hf ha h6 hl hc h40
  have h16 := ar_le ha
  obtain ⟨e1, e3⟩ := brk_runC hF hl6 hks hf ha h6 hl h40 ks [] (999999 - ks.length) (c ++ [openC n.Op]) rfl (by simp only [List.length_append, List.length_cons, List.length_nil]; omega)
  rw [show 999999 - ks.length + 1 + ks.length = 1000000 by omega] at e1
  have hz : (flatL ([] : List Tr)).length = 0 := rfl
  rw [hz, Nat.add_zero, List.append_assoc] at e1
  refine ⟨?_, e3⟩
  unfold f_linear_writer_bracketed_body
  rw [map_all h6]
  simp only
  rw [show ([openC n.Op, midC n.Op, closeC n.Op] : List Int).getD 0 0 = openC n.Op from rfl, show ([openC n.Op, midC n.Op, closeC n.Op] : List Int).getD 1 0 = midC n.Op from rfl, show ([openC n.Op, midC n.Op, closeC n.Op] : List Int).getD 2 0 = closeC n.Op from rfl]
  rw [put_ok (by simp only [List.length_cons, List.length_nil]; omega), Option.bind_some]
  exact e1
theorem good_two {d : Nat} {n : S_Node} {ks : List Tr} (ha : ar n = some ks.length) (h2 : 2 ≤ n.Op) (h8 : n.Op ≤ 8) : ∃ a b, ks = [a, b] := by
  have hk2 := ar_two ha h2 h8
  match ks, hk2 with
  | [a, b], _ => exact ⟨a, b, rfl⟩
theorem flatL_two (a b : Tr) : flatL [a, b] = a.flat ++ b.flat := by simp [flatL]
theorem cells_node (l : List Int) (n : S_Node) (ks : List Tr) : (Tr.node n ks).cells l = if n.Op = 0 then 60 :: digs n.N
    else if n.Op = 1 then [48, tab_linear_letters.getD n.N.toNat 0]
    else if n.Op ≤ 5 then binC l (signC n.Op) ks
    else if n.Op = 7 ∨ n.Op = 8 then powC l (expC n.Op) ks
    else openC n.Op :: (cellsL l n 0 ks ++ [closeC n.Op]) := by rw [Tr.cells]
theorem binC_eq (l s : List Int) (a b : Tr) : binC l s [a, b] = a.cells l ++ s ++ b.cells l := by rw [binC]
theorem node_k1C {P : S_writer → Int → Option S_writer} {B : S_writer → S_Node → Int → Option S_writer} {f : List S_Node} {d : Nat} (hP : PowC P f d) (hB : BrkC B f d) (hl6 : f.length ≤ 100000) {n : S_Node} {ks : List Tr} {pre post : List S_Node} {l c : List Int} (hks : goodL d ks) (hf : f = pre ++ (n :: flatL ks) ++ post) (ha : ar n = some ks.length)
    (h6 : 6 ≤ n.Op) (hl : lvOk l) (hc : c.length + 100 * (1 + (flatL ks).length) ≤ 1000000) (h40 : l.length + d + 1 ≤ 30) :
    f_linear_writer_node_body_k1 P B (W f pre.length l c) (W f (pre.length + 1) l c) (decide (n.Op = 7 ∨ n.Op = 8)) = some (W f (pre.length + 1 + (flatL ks).length) l (c ++ (Tr.node n ks).cells l)) ∧ ((Tr.node n ks).cells l).length ≤ 100 * (1 + (flatL ks).length) := by
  have hg : f.getD pre.length zS_Node = n := by rw [hf, List.append_assoc]; exact getD_mid _ _ _
  rw [cells_node, if_neg (by omega), if_neg (by omega), if_neg (by omega)]
  unfold f_linear_writer_node_body_k1
  simp only [Int.toNat_natCast, hg]
  by_cases h78 : n.Op = 7 ∨ n.Op = 8
  · rw [cd_pos h78, if_pos h78]
    obtain ⟨a, b, rfl⟩ := good_two (d := d) ha (by omega) (by omega)
    rw [flatL_two] at hf hc ⊢
    simp only [List.length_append] at hc ⊢
    have hga := goodL_iff.1 hks a (by simp)
    have hgb := goodL_iff.1 hks b (by simp)
    obtain ⟨e1, e3⟩ := hP n a b pre post l c hga hgb hf hl (by omega) h40
    refine ⟨?_, by omega⟩
    rw [e1, Option.bind_some, Nat.add_assoc (pre.length + 1)]
  · rw [cd_neg h78, if_neg h78]
    have hcs := ar_cases ha
    obtain ⟨e1, e3⟩ := hB n ks pre post l c hks hf ha (by omega) hl hc h40
    have h16 := ar_le ha
    refine ⟨?_, by simp only [List.length_cons, List.length_append, List.length_nil]; omega⟩
    by_cases h12 : n.Op = 12
    · obtain ⟨hk, q⟩ := ar_tab ha h12
      rw [cb_pos h12, G_inR (by omega), ← hk, e1, Option.bind_some]
    rw [cb_neg h12]
    by_cases h13 : n.Op = 13
    · obtain ⟨hk, q⟩ := ar_mat ha h13
      rw [cb_pos h13, tdiv8 (by omega), tmod8 (by omega), ← hk, G_inR (by omega), G_inR (by omega), e1, Option.bind_some]
    rw [cb_neg h13]
    by_cases h6' : n.Op = 6
    · have hk2 := ar_two ha (by omega) (by omega)
      rw [hk2] at e1
      rw [cb_pos h6']
      have e1' : B ⟨f, ((pre.length + 1 : Nat) : Int), l, c, ()⟩ n 2 = _ := e1
      rw [e1', Option.bind_some]
    · have hk1 := ar_one ha (by omega) (by omega)
      rw [hk1] at e1
      rw [cb_neg h6']
      have e1' : B ⟨f, ((pre.length + 1 : Nat) : Int), l, c, ()⟩ n 1 = _ := e1
      rw [e1', Option.bind_some]
theorem node_k2C {F : S_writer → Option S_writer} {P : S_writer → Int → Option S_writer} {B : S_writer → S_Node → Int → Option S_writer} {f : List S_Node} {d : Nat} (hF : NodeC F f d) (hP : PowC P f d) (hB : BrkC B f d) (hl6 : f.length ≤ 100000) {n : S_Node} {ks : List Tr} {pre post : List S_Node} {l c : List Int} (hks : goodL d ks) (hf : f = pre ++ (n :: flatL ks) ++ post) (ha : ar n = some ks.length)
    (h6 : 2 ≤ n.Op) (hl : lvOk l) (hc : c.length + 100 * (1 + (flatL ks).length) ≤ 1000000) (h40 : l.length + d + 1 ≤ 30) :
    f_linear_writer_node_body_k2 F P B (W f pre.length l c) (W f (pre.length + 1) l c) (decide (n.Op ≤ 5)) = some (W f (pre.length + 1 + (flatL ks).length) l (c ++ (Tr.node n ks).cells l)) ∧ ((Tr.node n ks).cells l).length ≤ 100 * (1 + (flatL ks).length) := by
  have hg : f.getD pre.length zS_Node = n := by rw [hf, List.append_assoc]; exact getD_mid _ _ _
  unfold f_linear_writer_node_body_k2
  simp only [Int.toNat_natCast, hg]
  by_cases h5 : n.Op ≤ 5
  · rw [cd_pos h5, cells_node, if_neg (by omega), if_neg (by omega), if_pos h5]
    obtain ⟨a, b, rfl⟩ := good_two (d := d) ha (by omega) (by omega)
    rw [flatL_two] at hf hc ⊢
    rw [binC_eq]
    simp only [List.length_append] at hc ⊢
    have hga := goodL_iff.1 hks a (by simp)
    have hgb := goodL_iff.1 hks b (by simp)
    have hfa : f = (pre ++ [n]) ++ a.flat ++ (b.flat ++ post) := by rw [hf]; simp
    have hfb : f = (pre ++ n :: a.flat) ++ b.flat ++ post := by rw [hf]; simp
    have hpl : (pre ++ [n]).length = pre.length + 1 := by simp
    have hpl2 : (pre ++ n :: a.flat).length = pre.length + 1 + a.flat.length := by simp; omega
    obtain ⟨r1, r3⟩ := hF a _ _ l c hga hfa hl (by omega) (by omega)
    rw [hpl] at r1
    have hs3 : (signC n.Op).length ≤ 3 := by unfold signC; repeat' split
                                             all_goals simp
    obtain ⟨q1, q3⟩ := hF b _ _ l (c ++ a.cells l ++ signC n.Op) hgb hfb hl (by simp only [List.length_append]; omega) (by omega)
    rw [hpl2] at q1
    refine ⟨?_, by omega⟩
    rw [r1, Option.bind_some, linear_sign_eq, Option.bind_some]
    simp only
    rw [put_ok (by simp only [List.length_append]; omega), Option.bind_some]
    simp only
    rw [q1, Option.bind_some, Nat.add_assoc (pre.length + 1)]
    simp only [List.append_assoc]
  · rw [cd_neg h5]
    have := node_k1C hP hB hl6 hks hf ha (by omega) hl hc h40
    by_cases h7 : n.Op = 7
    · rw [cb_pos h7, beq_iff_eq.2 h7]
      rwa [decide_eq_true (Or.inl h7)] at this
    · rw [cb_neg h7]
      rwa [show (n.Op == 8) = decide (n.Op = 7 ∨ n.Op = 8) by
        by_cases h : n.Op = 8
        · rw [beq_iff_eq.2 h, decide_eq_true (Or.inr h)]
        · rw [beq_eq_false_iff_ne.2 h, decide_eq_false (by omega)]]
theorem node_bodyC {F : S_writer → Option S_writer} {P : S_writer → Int → Option S_writer} {B : S_writer → S_Node → Int → Option S_writer} {f : List S_Node} {d : Nat} (hF : NodeC F f d) (hP : PowC P f d) (hB : BrkC B f d) (hl6 : f.length ≤ 100000) : NodeC (f_linear_writer_node_body F P B) f (d + 1) := by
  intro T pre post l c ht hf hl hc h40
  cases T with
  | node n ks =>
    obtain ⟨ha, hks, had⟩ := ht
    have efl : (Tr.node n ks).flat = n :: flatL ks := by rw [Tr.flat]
    rw [efl] at hf hc ⊢
    have hg : f.getD pre.length zS_Node = n := by rw [hf, List.append_assoc]; exact getD_mid _ _ _
    have hlt : pre.length < f.length := by rw [hf]; simp
    have htl : (n :: flatL ks).length = 1 + (flatL ks).length := by rw [List.length_cons]; omega
    rw [htl] at hc ⊢
    unfold f_linear_writer_node_body
    simp only [Int.toNat_natCast, hg]
    rw [G_pos (by omega), G_inR (by omega), at1]
    by_cases h0 : n.Op = 0
    · obtain ⟨hk, n0, n1⟩ := ar_num ha h0
      have hks0 : ks = [] := List.length_eq_zero_iff.1 hk
      subst hks0
      obtain ⟨e1, e3⟩ := lin_num (f := f) (i := pre.length + 1) (l := l) 4 999995 n.N (c ++ [60]) n0 (by omega) n1 (by simp only [List.length_append, List.length_cons, List.length_nil]; omega)
      rw [cells_node, if_pos h0]
      refine ⟨?_, by simp only [List.length_cons, flatL, List.length_nil]; omega⟩
      rw [cb_pos h0, put_ok (by simp only [List.length_cons, List.length_nil]; omega), Option.bind_some]
      have e1' : f_linear_writer_number ⟨f, ((pre.length + 1 : Nat) : Int), l, c ++ [60], ()⟩ n.N = _ := e1
      simp only
      rw [e1', Option.bind_some, List.append_assoc]
      rfl
    rw [cb_neg h0]
    by_cases h1 : n.Op = 1
    · obtain ⟨hk, n0, n1⟩ := ar_var ha h1
      have hks0 : ks = [] := List.length_eq_zero_iff.1 hk
      subst hks0
      rw [cells_node, if_neg h0, if_pos h1]
      refine ⟨?_, by simp [flatL]⟩
      rw [cb_pos h1, G_pos (by omega), put_ok (by simp only [List.length_cons, List.length_nil]; omega), Option.bind_some]
      rfl
    rw [cb_neg h1]
    have hcs := ar_cases ha
    have := node_k2C hF hP hB hl6 hks hf ha (by omega) hl hc (by omega)
    rw [← Nat.add_assoc]
    by_cases h2 : n.Op = 2
    · rw [cb_pos h2, beq_iff_eq.2 h2]
      rwa [decide_eq_true (by omega : n.Op ≤ 5)] at this
    rw [cb_neg h2]
    by_cases h3 : n.Op = 3
    · rw [cb_pos h3, beq_iff_eq.2 h3]
      rwa [decide_eq_true (by omega : n.Op ≤ 5)] at this
    rw [cb_neg h3]
    by_cases h4 : n.Op = 4
    · rw [cb_pos h4, beq_iff_eq.2 h4]
      rwa [decide_eq_true (by omega : n.Op ≤ 5)] at this
    rw [cb_neg h4]
    rwa [show (n.Op == 5) = decide (n.Op ≤ 5) by
      by_cases h : n.Op = 5
      · rw [beq_iff_eq.2 h, decide_eq_true (by omega)]
      · rw [beq_eq_false_iff_ne.2 h, decide_eq_false (by omega)]]
theorem node_okC {f : List S_Node} (hl6 : f.length ≤ 100000) : ∀ (d e : Nat), NodeC (f_linear_writer_node_f (2 * d + e)) f d
  | 0, e => fun T pre post l c ht => by cases T; exact ht.elim
  | d + 1, e => by
    have h1 : NodeC (f_linear_writer_node_f (2 * d + e + 1)) f d := by
      have := node_okC hl6 d (e + 1)
      rwa [← Nat.add_assoc] at this
    have hP : PowC (f_linear_writer_power_f (2 * d + e + 1)) f d := by
      have := power_bodyC (node_okC hl6 d e) hl6 (f_linear_writer_power_f (2 * d + e)) (f_linear_writer_bracketed_f (2 * d + e))
      exact fun n a b pre post l c x1 x2 x3 x4 x5 x6 => by rw [f_linear_writer_power_f]; exact this n a b pre post l c x1 x2 x3 x4 x5 x6
    have hB : BrkC (f_linear_writer_bracketed_f (2 * d + e + 1)) f d := by
      have := brk_bodyC (node_okC hl6 d e) hl6 (f_linear_writer_power_f (2 * d + e)) (f_linear_writer_bracketed_f (2 * d + e))
      exact fun n a pre post l c x1 x2 x3 x4 x5 x6 x7 => by rw [f_linear_writer_bracketed_f]; exact this n a pre post l c x1 x2 x3 x4 x5 x6 x7
    have := node_bodyC h1 hP hB hl6
    rw [show 2 * (d + 1) + e = (2 * d + e + 1) + 1 by omega]
    exact fun t pre post l c x1 x2 x3 x4 x5 => by rw [f_linear_writer_node_f]; exact this t pre post l c x1 x2 x3 x4 x5
theorem Write_cells {T : Tr} {d : Nat} (ht : T.good d) (hd : d ≤ 8) (hl : T.flat.length ≤ 60) : f_linear_Write T.flat = some (T.cells [], 0) ∧ (T.cells []).length ≤ 6000 := by
  obtain ⟨e1, e3⟩ := node_okC (f := T.flat) (by omega) d (1000000 - 2 * d) T [] [] [] [] ht (by simp) (fun x hx => by simp at hx) (by simp; omega) (by simp; omega)
  rw [show 2 * d + (1000000 - 2 * d) = 1000000 by omega] at e1
  refine ⟨?_, by omega⟩
  unfold f_linear_Write
  rw [formula_Valid_ok (good_IsT d T ht) hd hl, Option.bind_some, Bool.not_true, cond_false]
  have hb : f_linear_brackets = some () := rfl
  rw [hb, Option.bind_some]
  have e1' : f_linear_writer_node ⟨T.flat, 0, [], [], ()⟩ = some (W T.flat (([] : List S_Node).length + T.flat.length) [] ([] ++ T.cells [])) := e1
  rw [e1', Option.bind_some]
  rfl
end Go.Proofs.YtioockkejhpleaaDoor
