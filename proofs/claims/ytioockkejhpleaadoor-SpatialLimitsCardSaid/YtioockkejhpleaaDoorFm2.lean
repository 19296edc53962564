/-
  Own work. Formulas as prefix lists, part 2: Operands, sound, Tree, Depth and Valid of trees.
-/
import Derived.Test.YtioockkejhpleaaDoorFm1
set_option linter.unusedSimpArgs false
set_option linter.unusedVariables false
set_option linter.unusedSimpArgs false
set_option linter.unusedVariables false
namespace Go.Proofs.YtioockkejhpleaaDoor
open Go.Abs
variable {A : S_Node → Nat → S_Node → Bool}
theorem tmod_n {v : Int} (h : 0 ≤ v) (n : Int) : Int.tmod v n = v % n := Int.tmod_eq_emod_of_nonneg h
def offs : Nat → List (List S_Node) → List Int
  | _, [] => []
  | p, k :: ks => (p : Int) :: offs (p + k.length) ks
theorem offs_len : ∀ (ks : List (List S_Node)) (p : Nat), (offs p ks).length = ks.length
  | [], _ => rfl
  | k :: ks, p => by simp [offs, offs_len ks]
theorem offs_app : ∀ (ks ls : List (List S_Node)) (p : Nat), offs p (ks ++ ls) = offs p ks ++ offs (p + ks.flatten.length) ls
  | [], ls, p => by simp [offs]
  | k :: ks, ls, p => by simp [offs, offs_app ks ls, Nat.add_assoc]
theorem offs_get : ∀ (ks : List (List S_Node)) (p i : Nat), i < ks.length → (offs p ks).getD i 0 = ((p + (ks.take i).flatten.length : Nat) : Int)
  | [], p, i, h => by simp at h
  | k :: ks, p, 0, h => by simp [offs]
  | k :: ks, p, i + 1, h => by
    simp only [offs, List.getD_cons_succ]
    rw [offs_get ks _ i (by simpa using h)]
    simp [Nat.add_assoc]
def opB (f : List S_Node) (i : Int) : (List Int × Int × Int → Option (List Int)) → List Int × Int × Int → Option (List Int) := fun loop s => f_R09_Operands_b1 f i loop s.1 s.2.1 s.2.2
theorem op_run {f pre post : List S_Node} {n : S_Node} {ks : List (List S_Node)} {d : Nat} (hf : f = pre ++ (n :: ks.flatten) ++ post) (hl : f.length ≤ 100000) (ha : ar n = some ks.length) (hks : ∀ k ∈ ks, IsTA A d k) :
    ∀ (ls done : List (List S_Node)) (m : Nat), ks = done ++ ls → iter (opB f (pre.length : Int)) (m + 1 + ls.length) (offs (pre.length + 1) done, ((pre.length + 1 + done.flatten.length : Nat) : Int), (done.length : Int)) = some (offs (pre.length + 1) ks) := by
  have hlt : pre.length < f.length := by rw [hf]; simp
  have hg : f.getD pre.length zS_Node = n := by rw [hf, List.append_assoc]; exact getD_mid _ _ _
  have hb : (0 : Int) ≤ (pre.length : Int) ∧ (pre.length : Int) < (f.length : Int) := by omega
  intro ls
  induction ls with
  | nil =>
    intro done m he
    have hd : done = ks := by simpa using he.symm
    subst hd
    rw [show m + 1 + ([] : List (List S_Node)).length = m + 1 by simp, iter_succ]
    unfold opB f_R09_Operands_b1
    simp only [G_pos hb, Int.toNat_natCast, hg, R09_Arity_ok ha, Option.bind_some]
    rw [cd_neg (by omega)]
  | cons k ls ih =>
    intro done m he
    rw [show m + 1 + (k :: ls).length = (m + 1 + ls.length) + 1 by simp; omega, iter_succ]
    have hkl : ks.length = done.length + (ls.length + 1) := by rw [he]; simp
    have h16 := ar_le ha
    have hf2 : f = (pre ++ n :: done.flatten) ++ k ++ (ls.flatten ++ post) := by rw [hf, he]; simp
    have hE := End_ok (hks k (by rw [he]; simp)) hf2 hl
    have hpl : (pre ++ n :: done.flatten).length = pre.length + 1 + done.flatten.length := by simp; omega
    rw [hpl] at hE
    have e : opB f (pre.length : Int) (iter (opB f (pre.length : Int)) (m + 1 + ls.length)) (offs (pre.length + 1) done, ((pre.length + 1 + done.flatten.length : Nat) : Int), (done.length : Int)) =
        iter (opB f (pre.length : Int)) (m + 1 + ls.length) (offs (pre.length + 1) done ++ [((pre.length + 1 + done.flatten.length : Nat) : Int)], ((pre.length + 1 + done.flatten.length + k.length : Nat) : Int), (done.length : Int) + 1) := by
      show f_R09_Operands_b1 _ _ _ _ _ _ = _
      unfold f_R09_Operands_b1
      simp only [G_pos hb, Int.toNat_natCast, hg, R09_Arity_ok ha, Option.bind_some]
      rw [cd_pos (by omega), G_room (by rw [offs_len]; omega), hE, Option.bind_some, G_inR (by omega)]
    rw [e]
    have e2 := ih (done ++ [k]) m (by rw [he]; simp)
    rw [offs_app, show offs (pre.length + 1 + done.flatten.length) [k] = [((pre.length + 1 + done.flatten.length : Nat) : Int)] from rfl] at e2
    rw [← e2]
    congr 3
    · simp [Nat.add_assoc]
    · simp
theorem Operands_ok {f pre post : List S_Node} {n : S_Node} {ks : List (List S_Node)} {d : Nat} (hf : f = pre ++ (n :: ks.flatten) ++ post) (hl : f.length ≤ 100000) (ha : ar n = some ks.length) (hks : ∀ k ∈ ks, IsTA A d k) :
    f_R09_Operands f (pre.length : Int) = some (offs (pre.length + 1) ks) := by
  have hlt : pre.length < f.length := by rw [hf]; simp
  have h16 := ar_le ha
  unfold f_R09_Operands
  rw [G_inR (by omega)]
  have e := op_run hf hl ha hks ks [] (999999 - ks.length) rfl
  rw [show 999999 - ks.length + 1 + ks.length = 1000000 by omega] at e
  have e0 : (pre.length : Int) + 1 = ((pre.length + 1 + ([] : List (List S_Node)).flatten.length : Nat) : Int) := by simp
  rw [e0]
  exact e
theorem hd_at {f pre k post : List S_Node} {d : Nat} (hk : IsTA A d k) (hf : f = pre ++ k ++ post) : f.getD pre.length zS_Node = hd k ∧ pre.length < f.length := by
  have := hk.pos
  cases k with
  | nil => simp at this
  | cons x k =>
    subst hf
    refine ⟨?_, by simp⟩
    rw [List.append_assoc]
    exact getD_mid _ _ _
theorem kid_at {f pre post : List S_Node} {n : S_Node} {ks : List (List S_Node)} {d : Nat} (hf : f = pre ++ (n :: ks.flatten) ++ post) (hks : ∀ k ∈ ks, IsTA A d k) {i : Nat} {k : List S_Node} (hk : ks[i]? = some k) :
    f = (pre ++ n :: (ks.take i).flatten) ++ k ++ ((ks.drop (i + 1)).flatten ++ post) ∧ (pre ++ n :: (ks.take i).flatten).length = pre.length + 1 + (ks.take i).flatten.length ∧ f.getD (pre.length + 1 + (ks.take i).flatten.length) zS_Node = hd k ∧ pre.length + 1 + (ks.take i).flatten.length < f.length := by
  have hi := (List.getElem?_eq_some_iff.1 hk).1
  have hke := (List.getElem?_eq_some_iff.1 hk).2
  have hsp : ks = ks.take i ++ k :: ks.drop (i + 1) := by
    rw [← hke, List.getElem_cons_drop, List.take_append_drop]
  have h1 : f = (pre ++ n :: (ks.take i).flatten) ++ k ++ ((ks.drop (i + 1)).flatten ++ post) := by
    have : ks.flatten = (ks.take i).flatten ++ (k ++ (ks.drop (i + 1)).flatten) := by
      conv => lhs; rw [hsp]
      simp
    rw [hf, this]; simp
  have h2 : (pre ++ n :: (ks.take i).flatten).length = pre.length + 1 + (ks.take i).flatten.length := by simp; omega
  have h3 := hd_at (hks k (List.mem_of_getElem? hk)) h1
  rw [h2] at h3
  exact ⟨h1, h2, h3.1, h3.2⟩
def sdB (f : List S_Node) (l : List Int) : (Int → Option Bool) → Int → Option Bool := fun loop s => f_R09_sound_b1 f l loop s
theorem sound_ok {f pre post : List S_Node} {n : S_Node} {ks : List (List S_Node)} {d : Nat} (hf : f = pre ++ (n :: ks.flatten) ++ post) (hl : f.length ≤ 100000) (ha : ar n = some ks.length) (hks : ∀ k ∈ ks, IsTA A d k)
    (had : ∀ (i : Nat) (k : List S_Node), ks[i]? = some k → adm n i (hd k) = true) : f_R09_sound f (pre.length : Int) = some true := by
  have hlt : pre.length < f.length := by rw [hf]; simp
  have hg : f.getD pre.length zS_Node = n := by rw [hf, List.append_assoc]; exact getD_mid _ _ _
  have hb : (0 : Int) ≤ (pre.length : Int) ∧ (pre.length : Int) < (f.length : Int) := by omega
  have h16 := ar_le ha
  have two : 2 ≤ n.Op → n.Op ≤ 5 → f_R09_sound_k2 f (pre.length : Int) (offs (pre.length + 1) ks) true = some true := by
    intro h2 h5
    have hk2 : ks.length = 2 := by
      unfold ar at ha
      rw [if_neg (by omega), if_neg (by omega), if_pos (by omega)] at ha
      split at ha
      · simpa using ha.symm
      · cases ha
    match hks2 : ks, hk2 with
    | [a, b], _ =>
      have k0 := kid_at (i := 0) (k := a) hf hks rfl
      have k1 := kid_at (i := 1) (k := b) hf hks rfl
      have a0 := had 0 a rfl
      have a1 := had 1 b rfl
      unfold adm at a0 a1
      rw [if_pos ⟨h2, h5⟩] at a0 a1
      simp only [if_true, Nat.succ_ne_zero, if_false, decide_eq_true_eq] at a0 a1
      simp only [List.take_zero, List.flatten_nil, List.length_nil, Nat.add_zero, List.take_succ_cons, List.flatten_cons, List.length_append] at k0 k1
      unfold f_R09_sound_k2
      simp only [cond_true, Int.toNat_natCast, hg, R09_prec, Option.bind_some, offs, List.length_cons, List.length_nil, Int.toNat_zero, List.getD_cons_zero]
      rw [G_pos (by omega), G_pos (by omega), k0.2.2.1]
      have c1 : decide (pr n.Op ≤ pr (hd a).Op) = true := by simpa using a0
      rw [c1]
      have e1 : ([((pre.length + 1 : Nat) : Int), ((pre.length + 1 + a.length : Nat) : Int)] : List Int).getD (1 : Int).toNat 0 = ((pre.length + 1 + a.length : Nat) : Int) := rfl
      rw [e1]
      rw [G_pos (fun _ => by omega), G_pos (fun _ => by omega)]
      simp only [cond_true, Int.toNat_natCast, k1.2.2.1, Option.bind_some, Option.some.injEq, decide_eq_true_eq]
      exact a1
  unfold f_R09_sound
  rw [Operands_ok hf hl ha hks, Option.bind_some, G_pos hb]
  simp only [Int.toNat_natCast, hg]
  by_cases h2 : n.Op = 2
  · rw [cb_pos h2, beq_iff_eq.2 h2]; exact two (by omega) (by omega)
  · rw [cb_neg h2]
    by_cases h3 : n.Op = 3
    · rw [cb_pos h3, beq_iff_eq.2 h3]; exact two (by omega) (by omega)
    · rw [cb_neg h3]
      by_cases h4 : n.Op = 4
      · rw [cb_pos h4, beq_iff_eq.2 h4]; exact two (by omega) (by omega)
      · rw [cb_neg h4]
        by_cases h5 : n.Op = 5
        · rw [beq_iff_eq.2 h5]; exact two (by omega) (by omega)
        · rw [beq_eq_false_iff_ne.2 h5]
          unfold f_R09_sound_k2
          simp only [cond_false, Int.toNat_natCast, hg]
          by_cases h12 : n.Op = 12
          · rw [cb_pos h12]
            have run : ∀ (j i m : Nat), i + j = ks.length → iter (sdB f (offs (pre.length + 1) ks)) (m + 1 + j) (i : Int) = some true := by
              intro j
              induction j with
              | zero =>
                intro i m hi
                rw [Nat.add_zero, iter_succ]
                unfold sdB f_R09_sound_b1 f_R09_sound_k1
                rw [cd_neg (by rw [offs_len]; omega)]
              | succ j ih =>
                intro i m hi
                rw [show m + 1 + (j + 1) = (m + 1 + j) + 1 by omega, iter_succ]
                have hik : i < ks.length := by omega
                have kk := kid_at (i := i) (k := ks[i]) hf hks (List.getElem?_eq_getElem hik)
                have aa := had i _ (List.getElem?_eq_getElem hik)
                unfold adm at aa
                rw [if_neg (by omega), if_pos h12] at aa
                have aa' : (hd ks[i]).Op = 0 := by simpa using aa
                have e : sdB f (offs (pre.length + 1) ks) (iter (sdB f (offs (pre.length + 1) ks)) (m + 1 + j)) (i : Int) = iter (sdB f (offs (pre.length + 1) ks)) (m + 1 + j) ((i + 1 : Nat) : Int) := by
                  show f_R09_sound_b1 _ _ _ _ = _
                  unfold f_R09_sound_b1
                  simp only [Int.toNat_natCast, offs_get ks _ i hik]
                  rw [cd_pos (by rw [offs_len]; omega), G_pos (by rw [offs_len]; omega), G_pos (by omega), kk.2.2.1, cn_neg aa', G_inR (by omega)]
                  rfl
                rw [e]
                exact ih (i + 1) m (by omega)
            have e := run ks.length 0 (999999 - ks.length) (by omega)
            rw [show 999999 - ks.length + 1 + ks.length = 1000000 by omega] at e
            exact e
          · rw [cb_neg h12]; rfl
theorem sub_at : ∀ (d : Nat) (t : List S_Node) (i : Nat), IsTA A d t → i < t.length → ∃ (pre : List S_Node) (n : S_Node) (ks : List (List S_Node)) (post : List S_Node) (e : Nat), t = pre ++ (n :: ks.flatten) ++ post ∧ pre.length = i ∧ ar n = some ks.length ∧ (∀ k ∈ ks, IsTA A e k) ∧ ∀ (j : Nat) (k : List S_Node), ks[j]? = some k → A n j (hd k) = true
  | 0, _, _, h, _ => h.elim
  | d + 1, t, i, h, hi => by
    obtain ⟨n, ks, rfl, h2, h3, h4⟩ := h
    cases i with
    | zero => exact ⟨[], n, ks, [], d, by simp, rfl, h2, h3, h4⟩
    | succ i =>
      have kids : ∀ (ls : List (List S_Node)) (i : Nat), (∀ k ∈ ls, IsTA A d k) → i < ls.flatten.length → ∃ (pre : List S_Node) (n : S_Node) (ks : List (List S_Node)) (post : List S_Node) (e : Nat), ls.flatten = pre ++ (n :: ks.flatten) ++ post ∧ pre.length = i ∧ ar n = some ks.length ∧ (∀ k ∈ ks, IsTA A e k) ∧ ∀ (j : Nat) (k : List S_Node), ks[j]? = some k → A n j (hd k) = true := by
        intro ls
        induction ls with
        | nil => intro i _ hi; simp at hi
        | cons l ls ih =>
          intro i hk hi
          by_cases hil : i < l.length
          · obtain ⟨pre, n, ks, post, e, h1, h5, h6⟩ := sub_at d l i (hk l (by simp)) hil
            exact ⟨pre, n, ks, post ++ ls.flatten, e, by rw [List.flatten_cons, h1]; simp, h5, h6⟩
          · obtain ⟨pre, n, ks, post, e, h1, h5, h6⟩ := ih (i - l.length) (fun k hk' => hk k (by simp [hk'])) (by simp only [List.flatten_cons, List.length_append] at hi; omega)
            exact ⟨l ++ pre, n, ks, post, e, by rw [List.flatten_cons, h1]; simp, by simp only [List.length_append]; omega, h6⟩
      obtain ⟨pre, n', ks', post, e, h1, h5, h6⟩ := kids ks i h3 (by simpa using hi)
      exact ⟨n :: pre, n', ks', post, e, by rw [h1]; simp, by simp [h5], h6⟩
def trB (f : List S_Node) : (Int → Option Bool) → Int → Option Bool := fun loop s => f_R09_Tree_b1 f loop s
theorem Tree_ok {f : List S_Node} {d : Nat} (ht : IsT d f) (hl : f.length ≤ 200) : f_R09_Tree f = some true := by
  have hp := ht.pos
  unfold f_R09_Tree
  have hE := End_ok (f := f) (pre := []) (post := []) ht (by simp) (by omega)
  simp only [List.length_nil, Nat.zero_add] at hE
  have c1 : ((f.length : Int) == 0) = false := by rw [beq_eq_false_iff_ne]; omega
  have c2 : decide ((200 : Int) < (f.length : Int)) = false := by rw [decide_eq_false_iff_not]; omega
  have hE' : f_R09_End f 0 = some (f.length : Int) := hE
  simp only [c1, c2, cond_false, Bool.not_false, cond_true, hE', Option.bind_some, bne_self_eq_false]
  have run : ∀ (j i m : Nat), i + j = f.length → iter (trB f) (m + 1 + j) (i : Int) = some true := by
    intro j
    induction j with
    | zero =>
      intro i m hi
      rw [Nat.add_zero, iter_succ]
      unfold trB f_R09_Tree_b1
      rw [cd_neg (by omega)]
    | succ j ih =>
      intro i m hi
      rw [show m + 1 + (j + 1) = (m + 1 + j) + 1 by omega, iter_succ]
      obtain ⟨pre, n, ks, post, e, h1, h2, h3, h4, h5⟩ := sub_at d f i ht (by omega)
      have hs := sound_ok h1 (by omega) h3 h4 h5
      rw [h2] at hs
      have e : trB f (iter (trB f) (m + 1 + j)) (i : Int) = iter (trB f) (m + 1 + j) ((i + 1 : Nat) : Int) := by
        show f_R09_Tree_b1 _ _ _ = _
        unfold f_R09_Tree_b1
        rw [cd_pos (by omega), hs, Option.bind_some, Bool.not_true, cond_false, G_inR (by omega)]
        rfl
      rw [e]
      exact ih (i + 1) m (by omega)
  have e := run f.length 0 (999999 - f.length) (by omega)
  rw [show 999999 - f.length + 1 + f.length = 1000000 by omega] at e
  exact e
def dpB (f : List S_Node) (l : List Int) (rc : List S_Node → Int → Option Int) : (Int × Int → Option Int) → Int × Int → Option Int := fun loop s => f_R09_depth_body_b1 rc f l loop s.1 s.2
theorem depth_ok {f : List S_Node} (hl : f.length ≤ 100000) : ∀ (d : Nat) (t pre post : List S_Node) (m : Nat), d ≤ 100 → IsTA A d t → f = pre ++ t ++ post → ∃ v : Nat, 1 ≤ v ∧ v ≤ d ∧ IsTA A v t ∧ f_R09_depth_f (m + d) f (pre.length : Int) = some (v : Int)
  | 0, _, _, _, _, _, h, _ => h.elim
  | d + 1, t, pre, post, m, h100, h, hf => by
    obtain ⟨n, ks, rfl, ha, hks, had⟩ := h
    rw [show m + (d + 1) = (m + d) + 1 by omega, f_R09_depth_f]
    unfold f_R09_depth_body
    rw [Operands_ok hf hl ha hks, Option.bind_some]
    have h16 := ar_le ha
    have run : ∀ (j i q v : Nat), i + j = ks.length → v ≤ d → (∀ k ∈ ks.take i, IsTA A v k) → ∃ r : Nat, r ≤ d ∧ (∀ k ∈ ks, IsTA A r k) ∧ iter (dpB f (offs (pre.length + 1) ks) (f_R09_depth_f (m + d))) (q + 1 + j) ((v : Int), (i : Int)) = some ((r + 1 : Nat) : Int) := by
      intro j
      induction j with
      | zero =>
        intro i q v hi hv hk
        refine ⟨v, hv, by rwa [List.take_of_length_le (by omega)] at hk, ?_⟩
        rw [Nat.add_zero, iter_succ]
        show f_R09_depth_body_b1 _ f _ _ (v : Int) (i : Int) = _
        unfold f_R09_depth_body_b1
        rw [cd_neg (by rw [offs_len]; omega), G_inR (by omega)]
        rfl
      | succ j ih =>
        intro i q v hi hv hk
        rw [show q + 1 + (j + 1) = (q + 1 + j) + 1 by omega, iter_succ]
        have hik : i < ks.length := by omega
        have kk := kid_at (i := i) (k := ks[i]) hf hks (List.getElem?_eq_getElem hik)
        obtain ⟨u, u1, u2, u4, u3⟩ := depth_ok hl d ks[i] _ _ m (by omega) (hks _ (List.getElem_mem hik)) kk.1
        rw [kk.2.1] at u3
        have e : dpB f (offs (pre.length + 1) ks) (f_R09_depth_f (m + d)) (iter (dpB f (offs (pre.length + 1) ks) (f_R09_depth_f (m + d))) (q + 1 + j)) ((v : Int), (i : Int)) = iter (dpB f (offs (pre.length + 1) ks) (f_R09_depth_f (m + d))) (q + 1 + j) (((max v u : Nat) : Int), ((i + 1 : Nat) : Int)) := by
          show f_R09_depth_body_b1 _ _ _ _ _ _ = _
          unfold f_R09_depth_body_b1
          simp only [Int.toNat_natCast, offs_get ks _ i hik]
          rw [cd_pos (by rw [offs_len]; omega), G_pos (by rw [offs_len]; omega), u3, Option.bind_some, G_inR (by omega)]
          have e0 : (if (u : Int) > (v : Int) then (u : Int) else (v : Int)) = ((max v u : Nat) : Int) := by split <;> omega
          rw [e0]
          rfl
        rw [e]
        refine ih (i + 1) q _ (by omega) (by omega) (fun k hk' => ?_)
        rw [List.take_succ_eq_append_getElem hik] at hk'
        rcases List.mem_append.1 hk' with h | h
        · exact (hk k h).le (by omega)
        · have : k = ks[i] := by simpa using h
          rw [this]; exact u4.le (by omega)
    obtain ⟨r, r2, r4, r3⟩ := run ks.length 0 (999999 - ks.length) 0 (by omega) (by omega) (fun k hk => by simp at hk)
    rw [show 999999 - ks.length + 1 + ks.length = 1000000 by omega] at r3
    exact ⟨r + 1, by omega, by omega, ⟨n, ks, rfl, ha, r4, had⟩, r3⟩
theorem R09_Valid_ok {f : List S_Node} {d : Nat} (ht : IsT d f) (hd : d ≤ 8) (hl : f.length ≤ 100000) : f_R09_Valid f = some (decide (f.length ≤ 60)) := by
  unfold f_R09_Valid
  by_cases h : f.length ≤ 60
  · rw [cd_pos (by omega), Tree_ok ht (by omega), Option.bind_some]
    obtain ⟨v, v1, v2, _, v3⟩ := depth_ok hl d f [] [] (1000000 - d) (by omega) ht (by simp)
    rw [show 1000000 - d + d = 1000000 by omega] at v3
    have hD : f_R09_Depth f = some (v : Int) := by
      unfold f_R09_Depth f_R09_depth
      have v3' : f_R09_depth_f 1000000 f 0 = some (v : Int) := v3
      rw [v3', Option.bind_some]
    rw [cd_pos (by omega), cond_true, hD, Option.bind_some, decide_eq_true h, show decide ((v : Int) ≤ 8) = true by rw [decide_eq_true_iff]; omega]
    rfl
  · rw [cd_neg (by omega), Option.bind_some, cd_neg (by omega), cond_false, Option.bind_some, decide_eq_false h]
    rfl
/- The program's measure. -/
def meB (f : List S_Node) (i : Int) (x : Int × Bool) (rc : List S_Node → Int → Option (Int × Int × Bool)) : (Int × Int × Int → Option (Int × Int × Bool)) → Int × Int × Int → Option (Int × Int × Bool) := fun loop s => f_formula_measure_body_b1 rc f i x loop s.1 s.2.1 s.2.2
theorem measure_ok {f : List S_Node} (hl : f.length ≤ 100000) : ∀ (d : Nat) (t pre post : List S_Node) (m : Nat), d ≤ 100 → IsT d t → f = pre ++ t ++ post → ∃ v : Int, 1 ≤ v ∧ v ≤ d ∧ f_formula_measure_f (m + d) f (pre.length : Int) = some (((pre.length + t.length : Nat) : Int), v, true) := by
  intro d
  induction d with
  | zero => intro _ _ _ _ _ h _; exact h.elim
  | succ d measure_ok =>
    intro t pre post m h100 h hf
    obtain ⟨n, ks, rfl, ha, hks, had⟩ := h
    have hlt : pre.length < f.length := by rw [hf]; simp
    have hg : f.getD pre.length zS_Node = n := by rw [hf, List.append_assoc]; exact getD_mid _ _ _
    have h16 := ar_le ha
    rw [show m + (d + 1) = (m + d) + 1 by omega, f_formula_measure_f]
    unfold f_formula_measure_body
    rw [cd_neg (by omega), G_pos (by omega)]
    rw [Int.toNat_natCast, hg, formula_arity_ok ha, Option.bind_some, show (!((ks.length : Int), true).2) = false from rfl, cond_false]
    rw [G_inR (by omega)]
    have run : ∀ (j i q : Nat) (v : Int), i + j = ks.length → 1 ≤ v → v ≤ ((d + 1 : Nat) : Int) → ∃ r : Int, 1 ≤ r ∧ r ≤ ((d + 1 : Nat) : Int) ∧ iter (meB f (pre.length : Int) ((ks.length : Int), true) (f_formula_measure_f (m + d))) (q + 1 + j) (((pre.length + 1 + (ks.take i).flatten.length : Nat) : Int), v, (i : Int)) =
        some (((pre.length + 1 + ks.flatten.length : Nat) : Int), r, true) := by
      intro j
      induction j with
      | zero =>
        intro i q v hi h0 hv
        refine ⟨v, by omega, by omega, ?_⟩
        rw [Nat.add_zero, iter_succ]
        show f_formula_measure_body_b1 _ _ _ _ _ _ _ _ = _
        unfold f_formula_measure_body_b1
        rw [cd_neg (by simp only; omega), List.take_of_length_le (by omega)]
      | succ j ih =>
        intro i q v hi h0 hv
        rw [show q + 1 + (j + 1) = (q + 1 + j) + 1 by omega, iter_succ]
        have hik : i < ks.length := by omega
        have kk := kid_at (i := i) (k := ks[i]) hf hks (List.getElem?_eq_getElem hik)
        have aa := had i _ (List.getElem?_eq_getElem hik)
        obtain ⟨u, u1, u2, u3⟩ := measure_ok ks[i] _ _ m (by omega) (hks _ (List.getElem_mem hik)) kk.1
        rw [kk.2.1] at u3
        have htk : (ks.take (i + 1)).flatten.length = (ks.take i).flatten.length + ks[i].length := by
          rw [List.take_succ_eq_append_getElem hik]
          simp only [List.flatten_append, List.flatten_cons, List.flatten_nil, List.append_nil, List.length_append]
        have e : meB f (pre.length : Int) ((ks.length : Int), true) (f_formula_measure_f (m + d)) (iter (meB f (pre.length : Int) ((ks.length : Int), true) (f_formula_measure_f (m + d))) (q + 1 + j)) (((pre.length + 1 + (ks.take i).flatten.length : Nat) : Int), v, (i : Int)) =
            iter (meB f (pre.length : Int) ((ks.length : Int), true) (f_formula_measure_f (m + d))) (q + 1 + j) (((pre.length + 1 + (ks.take (i + 1)).flatten.length : Nat) : Int), (if u + 1 > v then u + 1 else v), ((i + 1 : Nat) : Int)) := by
          show f_formula_measure_body_b1 _ _ _ _ _ _ _ _ = _
          unfold f_formula_measure_body_b1
          have c1 : decide ((f.length : Int) ≤ ((pre.length + 1 + (ks.take i).flatten.length : Nat) : Int)) = false := by rw [decide_eq_false_iff_not]; omega
          simp only [c1, Bool.not_false, cond_true, cond_false, Int.toNat_natCast, hg, kk.2.2.1, formula_adm, aa, Option.bind_some, Bool.not_true, u3]
          rw [cd_pos (by omega), G_pos (fun _ => by omega), G_inR (by omega), G_inR (by omega), htk]
          congr 3
          omega
        rw [e]
        exact ih (i + 1) q _ (by omega) (by split <;> omega) (by split <;> omega)
    obtain ⟨r, r1, r2, r3⟩ := run ks.length 0 (999999 - ks.length) 1 (by omega) (by omega) (by omega)
    rw [show 999999 - ks.length + 1 + ks.length = 1000000 by omega] at r3
    refine ⟨r, r1, r2, ?_⟩
    have e0 : (pre.length : Int) + 1 = ((pre.length + 1 + (ks.take 0).flatten.length : Nat) : Int) := by simp
    rw [e0, show pre.length + (n :: ks.flatten).length = pre.length + 1 + ks.flatten.length by simp; omega]
    exact r3
theorem formula_Valid_ok {f : List S_Node} {d : Nat} (ht : IsT d f) (hd : d ≤ 8) (hl : f.length ≤ 60) : f_formula_Valid f = some true := by
  obtain ⟨v, v1, v2, v3⟩ := measure_ok (f := f) (by omega) d f [] [] (1000000 - d) (by omega) ht (by simp)
  rw [show 1000000 - d + d = 1000000 by omega] at v3
  have v3' : f_formula_measure f 0 = some ((f.length : Int), v, true) := by
    unfold f_formula_measure
    simpa using v3
  unfold f_formula_Valid f_formula_Depth
  rw [cd_neg (by omega), v3', Option.bind_some]
  simp only [Bool.not_true, cond_false, Bool.not_false, cond_true, bne_self_eq_false]
  rw [cd_neg (by omega), Option.bind_some]
  rw [show decide ((0 : Int) < v) = true by rw [decide_eq_true_iff]; omega]
end Go.Proofs.YtioockkejhpleaaDoor
