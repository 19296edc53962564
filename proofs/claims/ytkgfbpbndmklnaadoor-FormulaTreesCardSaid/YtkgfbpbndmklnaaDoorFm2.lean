/- Own work. -/
import Derived.Test.YtkgfbpbndmklnaaDoorFm1
set_option linter.unusedSimpArgs false
set_option linter.unusedVariables false
namespace Go.Proofs.YtkgfbpbndmklnaaDoor
open Go.Abs
variable {A : Y2 → Nat → Y2 → Bool}
theorem tmod_n {v : Int} (h : 0 ≤ v) (n : Int) : Int.tmod v n = v % n := Int.tmod_eq_emod_of_nonneg h
def offs : Nat → List (List Y2) → List Int
  | _, [] => []
  | p, k :: ks => (p : Int) :: offs (p + k.length) ks
theorem Y3e : ∀ (ks : List (List Y2)) (p : Nat), (offs p ks).length = ks.length
  | [], _ => rfl
  | k :: ks, p => by simp [offs, Y3e ks]
theorem offs_app : ∀ (ks ls : List (List Y2)) (p : Nat), offs p (ks ++ ls) = offs p ks ++ offs (p + ks.flatten.length) ls
  | [], ls, p => by simp [offs]
  | k :: ks, ls, p => by simp [offs, offs_app ks ls, Nat.add_assoc]
theorem offs_get : ∀ (ks : List (List Y2)) (p i : Nat), i < ks.length → (offs p ks).getD i 0 = ((p + (ks.take i).flatten.length : Nat) : Int)
  | [], p, i, h => by simp at h
  | k :: ks, p, 0, h => by simp [offs]
  | k :: ks, p, i + 1, h => by
    simp only [offs, List.getD_cons_succ]
    rw [offs_get ks _ i (by simpa using h)]
    simp [Nat.add_assoc]
def opB (f : List Y2) (i : Int) : (List Int × Int × Int → Option (List Int)) → List Int × Int × Int → Option (List Int) := fun loop s => Y1f f i loop s.1 s.2.1 s.2.2
theorem op_run {f pre post : List Y2} {n : Y2} {ks : List (List Y2)} {d : Nat} (hf : f = pre ++ (n :: ks.flatten) ++ post) (hl : f.length ≤ 100000) (ha : ar n = some ks.length) (hks : ∀ k ∈ ks, IsTA A d k) :
    ∀ (ls done : List (List Y2)) (m : Nat), ks = done ++ ls → iter (opB f (pre.length : Int)) (m + 1 + ls.length) (offs (pre.length + 1) done, ((pre.length + 1 + done.flatten.length : Nat) : Int), (done.length : Int)) = some (offs (pre.length + 1) ks) := by
  have hlt : pre.length < f.length := by rw [hf]; simp
  have hg : f.getD pre.length Yf = n := by rw [hf, Xv]; exact getD_mid _ _ _
  have hb : (0 : Int) ≤ (pre.length : Int) ∧ (pre.length : Int) < (f.length : Int) := by omega
  intro ls
  induction ls with
  | nil =>
    intro done m he
    have hd : done = ks := by simpa using he.symm
    subst hd
    rw [show m + 1 + ([] : List (List Y2)).length = m + 1 by simp, Y05]
    unfold opB Y1f
    simp only [Y2y hb, Xt, hg, R09_Arity_ok ha, X8]
    rw [Y28 (by omega)]
  | cons k ls ih =>
    intro done m he
    rw [show m + 1 + (k :: ls).length = (m + 1 + ls.length) + 1 by simp; omega, Y05]
    have hkl : ks.length = done.length + (ls.length + 1) := by rw [he]; simp
    have h16 := ar_le ha
    have hf2 : f = (pre ++ n :: done.flatten) ++ k ++ (ls.flatten ++ post) := by rw [hf, he]; simp
    have hE := End_ok (hks k (by rw [he]; simp)) hf2 hl
    have hpl : (pre ++ n :: done.flatten).length = pre.length + 1 + done.flatten.length := by simp; omega
    rw [hpl] at hE
    have e : opB f (pre.length : Int) (iter (opB f (pre.length : Int)) (m + 1 + ls.length)) (offs (pre.length + 1) done, ((pre.length + 1 + done.flatten.length : Nat) : Int), (done.length : Int)) =
        iter (opB f (pre.length : Int)) (m + 1 + ls.length) (offs (pre.length + 1) done ++ [((pre.length + 1 + done.flatten.length : Nat) : Int)], ((pre.length + 1 + done.flatten.length + k.length : Nat) : Int), (done.length : Int) + 1) := by
      show Y1f _ _ _ _ _ _ = _
      unfold Y1f
      simp only [Y2y hb, Xt, hg, R09_Arity_ok ha, X8]
      rw [Y3c (by omega), G_room (by rw [Y3e]; omega), hE, X8, Y32 (by omega)]
    rw [e]
    have e2 := ih (done ++ [k]) m (by rw [he]; simp)
    rw [offs_app, show offs (pre.length + 1 + done.flatten.length) [k] = [((pre.length + 1 + done.flatten.length : Nat) : Int)] from rfl] at e2
    rw [← e2]
    congr 3
    · simp [Nat.add_assoc]
    · simp
theorem Operands_ok {f pre post : List Y2} {n : Y2} {ks : List (List Y2)} {d : Nat} (hf : f = pre ++ (n :: ks.flatten) ++ post) (hl : f.length ≤ 100000) (ha : ar n = some ks.length) (hks : ∀ k ∈ ks, IsTA A d k) :
    Y1v f (pre.length : Int) = some (offs (pre.length + 1) ks) := by
  have hlt : pre.length < f.length := by rw [hf]; simp
  have h16 := ar_le ha
  unfold Y1v
  rw [Y32 (by omega)]
  have e := op_run hf hl ha hks ks [] (999999 - ks.length) rfl
  rw [show 999999 - ks.length + 1 + ks.length = 1000000 by omega] at e
  have e0 : (pre.length : Int) + 1 = ((pre.length + 1 + ([] : List (List Y2)).flatten.length : Nat) : Int) := by simp
  rw [e0]
  exact e
theorem hd_at {f pre k post : List Y2} {d : Nat} (hk : IsTA A d k) (hf : f = pre ++ k ++ post) : f.getD pre.length Yf = hd k ∧ pre.length < f.length := by
  have := hk.pos
  cases k with
  | nil => simp at this
  | cons x k =>
    subst hf
    refine ⟨?_, by simp⟩
    rw [Xv]
    exact getD_mid _ _ _
theorem kid_at {f pre post : List Y2} {n : Y2} {ks : List (List Y2)} {d : Nat} (hf : f = pre ++ (n :: ks.flatten) ++ post) (hks : ∀ k ∈ ks, IsTA A d k) {i : Nat} {k : List Y2} (hk : ks[i]? = some k) :
    f = (pre ++ n :: (ks.take i).flatten) ++ k ++ ((ks.drop (i + 1)).flatten ++ post) ∧ (pre ++ n :: (ks.take i).flatten).length = pre.length + 1 + (ks.take i).flatten.length ∧ f.getD (pre.length + 1 + (ks.take i).flatten.length) Yf = hd k ∧ pre.length + 1 + (ks.take i).flatten.length < f.length := by
  have hi := (Xj.1 hk).1
  have hke := (Xj.1 hk).2
  have hsp : ks = ks.take i ++ k :: ks.drop (i + 1) := by
    rw [← hke, List.getElem_cons_drop, X10]
  have h1 : f = (pre ++ n :: (ks.take i).flatten) ++ k ++ ((ks.drop (i + 1)).flatten ++ post) := by
    have : ks.flatten = (ks.take i).flatten ++ (k ++ (ks.drop (i + 1)).flatten) := by
      conv => lhs; rw [hsp]
      simp
    rw [hf, this]; simp
  have h2 : (pre ++ n :: (ks.take i).flatten).length = pre.length + 1 + (ks.take i).flatten.length := by simp; omega
  have h3 := hd_at (hks k (X0f hk)) h1
  rw [h2] at h3
  exact ⟨h1, h2, h3.1, h3.2⟩
def sdB (f : List Y2) (l : List Int) : (Int → Option Bool) → Int → Option Bool := fun loop s => Y29 f l loop s
theorem sound_ok {f pre post : List Y2} {n : Y2} {ks : List (List Y2)} {d : Nat} (hf : f = pre ++ (n :: ks.flatten) ++ post) (hl : f.length ≤ 100000) (ha : ar n = some ks.length) (hks : ∀ k ∈ ks, IsTA A d k)
    (had : ∀ (i : Nat) (k : List Y2), ks[i]? = some k → adm n i (hd k) = true) : f_R09_sound f (pre.length : Int) = some true := by
  have hlt : pre.length < f.length := by rw [hf]; simp
  have hg : f.getD pre.length Yf = n := by rw [hf, Xv]; exact getD_mid _ _ _
  have hb : (0 : Int) ≤ (pre.length : Int) ∧ (pre.length : Int) < (f.length : Int) := by omega
  have h16 := ar_le ha
  have two : 2 ≤ n.Op → n.Op ≤ 5 → Y1h f (pre.length : Int) (offs (pre.length + 1) ks) true = some true := by
    intro h2 h5
    have hk2 : ks.length = 2 := by
      unfold ar at ha
      rw [if_neg (by omega), if_neg (by omega), if_pos (by omega)] at ha
      split at ha
      · simpa using ha.symm
      · cases ha
    match hks2 : ks, hk2 with
    | [a, b], _ =>
      have k0 := kid_at (i := 0) (k := a) hf hks rfl
      have k1 := kid_at (i := 1) (k := b) hf hks rfl
      have a0 := had 0 a rfl
      have a1 := had 1 b rfl
      unfold adm at a0 a1
      rw [if_pos ⟨h2, h5⟩] at a0 a1
      simp only [if_true, Nat.succ_ne_zero, if_false, decide_eq_true_eq] at a0 a1
      simp only [List.take_zero, X13, X0m, X05, X00, X01, Xa] at k0 k1
      unfold Y1h
      simp only [cond_true, Xt, hg, R09_prec, X8, offs, Xx, X0m, Int.toNat_zero, X0v]
      rw [Y2y (by omega), Y2y (by omega), k0.2.2.1]
      have c1 : decide (pr n.Op ≤ pr (hd a).Op) = true := by simpa using a0
      rw [c1]
      have e1 : ([((pre.length + 1 : Nat) : Int), ((pre.length + 1 + a.length : Nat) : Int)] : List Int).getD (1 : Int).toNat 0 = ((pre.length + 1 + a.length : Nat) : Int) := rfl
      rw [e1]
      rw [Y2y (fun _ => by omega), Y2y (fun _ => by omega)]
      simp only [cond_true, Xt, k1.2.2.1, X8, X0, decide_eq_true_eq]
      exact a1
  unfold f_R09_sound
  rw [Operands_ok hf hl ha hks, X8, Y2y hb]
  simp only [Xt, hg]
  by_cases h2 : n.Op = 2
  · rw [cb_pos h2, beq_iff_eq.2 h2]; exact two (by omega) (by omega)
  · rw [cb_neg h2]
    by_cases h3 : n.Op = 3
    · rw [cb_pos h3, beq_iff_eq.2 h3]; exact two (by omega) (by omega)
    · rw [cb_neg h3]
      by_cases h4 : n.Op = 4
      · rw [cb_pos h4, beq_iff_eq.2 h4]; exact two (by omega) (by omega)
      · rw [cb_neg h4]
        by_cases h5 : n.Op = 5
        · rw [beq_iff_eq.2 h5]; exact two (by omega) (by omega)
        · rw [beq_eq_false_iff_ne.2 h5]
          unfold Y1h
          simp only [cond_false, Xt, hg]
          by_cases h12 : n.Op = 12
          · rw [cb_pos h12]
            have run : ∀ (j i m : Nat), i + j = ks.length → iter (sdB f (offs (pre.length + 1) ks)) (m + 1 + j) (i : Int) = some true := by
              intro j
              induction j with
              | zero =>
                intro i m hi
                rw [X05, Y05]
                unfold sdB Y29 Y3b
                rw [Y28 (by rw [Y3e]; omega)]
              | succ j ih =>
                intro i m hi
                rw [show m + 1 + (j + 1) = (m + 1 + j) + 1 by omega, Y05]
                have hik : i < ks.length := by omega
                have kk := kid_at (i := i) (k := ks[i]) hf hks (X2 hik)
                have aa := had i _ (X2 hik)
                unfold adm at aa
                rw [if_neg (by omega), if_pos h12] at aa
                have aa' : (hd ks[i]).Op = 0 := by simpa using aa
                have e : sdB f (offs (pre.length + 1) ks) (iter (sdB f (offs (pre.length + 1) ks)) (m + 1 + j)) (i : Int) = iter (sdB f (offs (pre.length + 1) ks)) (m + 1 + j) ((i + 1 : Nat) : Int) := by
                  show Y29 _ _ _ _ = _
                  unfold Y29
                  simp only [Xt, offs_get ks _ i hik]
                  rw [Y3c (by rw [Y3e]; omega), Y2y (by rw [Y3e]; omega), Y2y (by omega), kk.2.2.1, cn_neg aa', Y32 (by omega)]
                  rfl
                rw [e]
                exact ih (i + 1) m (by omega)
            have e := run ks.length 0 (999999 - ks.length) (by omega)
            rw [show 999999 - ks.length + 1 + ks.length = 1000000 by omega] at e
            exact e
          · rw [cb_neg h12]; rfl
theorem sub_at : ∀ (d : Nat) (t : List Y2) (i : Nat), IsTA A d t → i < t.length → ∃ (pre : List Y2) (n : Y2) (ks : List (List Y2)) (post : List Y2) (e : Nat), t = pre ++ (n :: ks.flatten) ++ post ∧ pre.length = i ∧ ar n = some ks.length ∧ (∀ k ∈ ks, IsTA A e k) ∧ ∀ (j : Nat) (k : List Y2), ks[j]? = some k → A n j (hd k) = true
  | 0, _, _, h, _ => h.elim
  | d + 1, t, i, h, hi => by
    obtain ⟨n, ks, rfl, h2, h3, h4⟩ := h
    cases i with
    | zero => exact ⟨[], n, ks, [], d, by simp, rfl, h2, h3, h4⟩
    | succ i =>
      have kids : ∀ (ls : List (List Y2)) (i : Nat), (∀ k ∈ ls, IsTA A d k) → i < ls.flatten.length → ∃ (pre : List Y2) (n : Y2) (ks : List (List Y2)) (post : List Y2) (e : Nat), ls.flatten = pre ++ (n :: ks.flatten) ++ post ∧ pre.length = i ∧ ar n = some ks.length ∧ (∀ k ∈ ks, IsTA A e k) ∧ ∀ (j : Nat) (k : List Y2), ks[j]? = some k → A n j (hd k) = true := by
        intro ls
        induction ls with
        | nil => intro i _ hi; simp at hi
        | cons l ls ih =>
          intro i hk hi
          by_cases hil : i < l.length
          · obtain ⟨pre, n, ks, post, e, h1, h5, h6⟩ := sub_at d l i (hk l (by simp)) hil
            exact ⟨pre, n, ks, post ++ ls.flatten, e, by rw [X01, h1]; simp, h5, h6⟩
          · obtain ⟨pre, n, ks, post, e, h1, h5, h6⟩ := ih (i - l.length) (fun k hk' => hk k (by simp [hk'])) (by simp only [X01, Xa] at hi; omega)
            exact ⟨l ++ pre, n, ks, post, e, by rw [X01, h1]; simp, by simp only [Xa]; omega, h6⟩
      obtain ⟨pre, n', ks', post, e, h1, h5, h6⟩ := kids ks i h3 (by simpa using hi)
      exact ⟨n :: pre, n', ks', post, e, by rw [h1]; simp, by simp [h5], h6⟩
def trB (f : List Y2) : (Int → Option Bool) → Int → Option Bool := fun loop s => Y2i f loop s
theorem Tree_ok {f : List Y2} {d : Nat} (ht : IsT d f) (hl : f.length ≤ 200) : f_R09_Tree f = some true := by
  have hp := ht.pos
  unfold f_R09_Tree
  have hE := End_ok (f := f) (pre := []) (post := []) ht (by simp) (by omega)
  simp only [X0m, X04] at hE
  have c1 : ((f.length : Int) == 0) = false := by rw [beq_eq_false_iff_ne]; omega
  have c2 : decide ((200 : Int) < (f.length : Int)) = false := by rw [decide_eq_false_iff_not]; omega
  have hE' : f_R09_End f 0 = some (f.length : Int) := hE
  simp only [c1, c2, cond_false, X0r, cond_true, hE', X8, bne_self_eq_false]
  have run : ∀ (j i m : Nat), i + j = f.length → iter (trB f) (m + 1 + j) (i : Int) = some true := by
    intro j
    induction j with
    | zero =>
      intro i m hi
      rw [X05, Y05]
      unfold trB Y2i
      rw [Y28 (by omega)]
    | succ j ih =>
      intro i m hi
      rw [show m + 1 + (j + 1) = (m + 1 + j) + 1 by omega, Y05]
      obtain ⟨pre, n, ks, post, e, h1, h2, h3, h4, h5⟩ := sub_at d f i ht (by omega)
      have hs := sound_ok h1 (by omega) h3 h4 h5
      rw [h2] at hs
      have e : trB f (iter (trB f) (m + 1 + j)) (i : Int) = iter (trB f) (m + 1 + j) ((i + 1 : Nat) : Int) := by
        show Y2i _ _ _ = _
        unfold Y2i
        rw [Y3c (by omega), hs, X8, X1c, cond_false, Y32 (by omega)]
        rfl
      rw [e]
      exact ih (i + 1) m (by omega)
  have e := run f.length 0 (999999 - f.length) (by omega)
  rw [show 999999 - f.length + 1 + f.length = 1000000 by omega] at e
  exact e
def dpB (f : List Y2) (l : List Int) (rc : List Y2 → Int → Option Int) : (Int × Int → Option Int) → Int × Int → Option Int := fun loop s => Y0h rc f l loop s.1 s.2
theorem depth_ok {f : List Y2} (hl : f.length ≤ 100000) : ∀ (d : Nat) (t pre post : List Y2) (m : Nat), d ≤ 100 → IsTA A d t → f = pre ++ t ++ post → ∃ v : Nat, 1 ≤ v ∧ v ≤ d ∧ IsTA A v t ∧ Y0v (m + d) f (pre.length : Int) = some (v : Int)
  | 0, _, _, _, _, _, h, _ => h.elim
  | d + 1, t, pre, post, m, h100, h, hf => by
    obtain ⟨n, ks, rfl, ha, hks, had⟩ := h
    rw [show m + (d + 1) = (m + d) + 1 by omega, Y0v]
    unfold Y3f
    rw [Operands_ok hf hl ha hks, X8]
    have h16 := ar_le ha
    have run : ∀ (j i q v : Nat), i + j = ks.length → v ≤ d → (∀ k ∈ ks.take i, IsTA A v k) → ∃ r : Nat, r ≤ d ∧ (∀ k ∈ ks, IsTA A r k) ∧ iter (dpB f (offs (pre.length + 1) ks) (Y0v (m + d))) (q + 1 + j) ((v : Int), (i : Int)) = some ((r + 1 : Nat) : Int) := by
      intro j
      induction j with
      | zero =>
        intro i q v hi hv hk
        refine ⟨v, hv, by rwa [Xm (by omega)] at hk, ?_⟩
        rw [X05, Y05]
        show Y0h _ f _ _ (v : Int) (i : Int) = _
        unfold Y0h
        rw [Y28 (by rw [Y3e]; omega), Y32 (by omega)]
        rfl
      | succ j ih =>
        intro i q v hi hv hk
        rw [show q + 1 + (j + 1) = (q + 1 + j) + 1 by omega, Y05]
        have hik : i < ks.length := by omega
        have kk := kid_at (i := i) (k := ks[i]) hf hks (X2 hik)
        obtain ⟨u, u1, u2, u4, u3⟩ := depth_ok hl d ks[i] _ _ m (by omega) (hks _ (List.getElem_mem hik)) kk.1
        rw [kk.2.1] at u3
        have e : dpB f (offs (pre.length + 1) ks) (Y0v (m + d)) (iter (dpB f (offs (pre.length + 1) ks) (Y0v (m + d))) (q + 1 + j)) ((v : Int), (i : Int)) = iter (dpB f (offs (pre.length + 1) ks) (Y0v (m + d))) (q + 1 + j) (((max v u : Nat) : Int), ((i + 1 : Nat) : Int)) := by
          show Y0h _ _ _ _ _ _ = _
          unfold Y0h
          simp only [Xt, offs_get ks _ i hik]
          rw [Y3c (by rw [Y3e]; omega), Y2y (by rw [Y3e]; omega), u3, X8, Y32 (by omega)]
          have e0 : (if (u : Int) > (v : Int) then (u : Int) else (v : Int)) = ((max v u : Nat) : Int) := by split <;> omega
          rw [e0]
          rfl
        rw [e]
        refine ih (i + 1) q _ (by omega) (by omega) (fun k hk' => ?_)
        rw [X0s hik] at hk'
        rcases Xz.1 hk' with h | h
        · exact (hk k h).le (by omega)
        · have : k = ks[i] := by simpa using h
          rw [this]; exact u4.le (by omega)
    obtain ⟨r, r2, r4, r3⟩ := run ks.length 0 (999999 - ks.length) 0 (by omega) (by omega) (fun k hk => by simp at hk)
    rw [show 999999 - ks.length + 1 + ks.length = 1000000 by omega] at r3
    exact ⟨r + 1, by omega, by omega, ⟨n, ks, rfl, ha, r4, had⟩, r3⟩
theorem R09_Valid_ok {f : List Y2} {d : Nat} (ht : IsT d f) (hd : d ≤ 8) (hl : f.length ≤ 100000) : f_R09_Valid f = some (decide (f.length ≤ 60)) := by
  unfold f_R09_Valid
  by_cases h : f.length ≤ 60
  · rw [Y3c (by omega), Tree_ok ht (by omega), X8]
    obtain ⟨v, v1, v2, _, v3⟩ := depth_ok hl d f [] [] (1000000 - d) (by omega) ht (by simp)
    rw [show 1000000 - d + d = 1000000 by omega] at v3
    have hD : f_R09_Depth f = some (v : Int) := by
      unfold f_R09_Depth f_R09_depth
      have v3' : Y0v 1000000 f 0 = some (v : Int) := v3
      rw [v3', X8]
    rw [Y3c (by omega), cond_true, hD, X8, decide_eq_true h, show decide ((v : Int) ≤ 8) = true by rw [decide_eq_true_iff]; omega]
    rfl
  · rw [Y28 (by omega), X8, Y28 (by omega), cond_false, X8, decide_eq_false h]
    rfl
/- The program's measure. -/
def meB (f : List Y2) (i : Int) (x : Int × Bool) (rc : List Y2 → Int → Option (Int × Int × Bool)) : (Int × Int × Int → Option (Int × Int × Bool)) → Int × Int × Int → Option (Int × Int × Bool) := fun loop s => Yd rc f i x loop s.1 s.2.1 s.2.2
theorem measure_ok {f : List Y2} (hl : f.length ≤ 100000) : ∀ (d : Nat) (t pre post : List Y2) (m : Nat), d ≤ 100 → IsT d t → f = pre ++ t ++ post → ∃ v : Int, 1 ≤ v ∧ v ≤ d ∧ Yc (m + d) f (pre.length : Int) = some (((pre.length + t.length : Nat) : Int), v, true) := by
  intro d
  induction d with
  | zero => intro _ _ _ _ _ h _; exact h.elim
  | succ d measure_ok =>
    intro t pre post m h100 h hf
    obtain ⟨n, ks, rfl, ha, hks, had⟩ := h
    have hlt : pre.length < f.length := by rw [hf]; simp
    have hg : f.getD pre.length Yf = n := by rw [hf, Xv]; exact getD_mid _ _ _
    have h16 := ar_le ha
    rw [show m + (d + 1) = (m + d) + 1 by omega, Yc]
    unfold Y1c
    rw [Y28 (by omega), Y2y (by omega)]
    rw [Xt, hg, formula_arity_ok ha, X8, show (!((ks.length : Int), true).2) = false from rfl, cond_false]
    rw [Y32 (by omega)]
    have run : ∀ (j i q : Nat) (v : Int), i + j = ks.length → 1 ≤ v → v ≤ ((d + 1 : Nat) : Int) → ∃ r : Int, 1 ≤ r ∧ r ≤ ((d + 1 : Nat) : Int) ∧ iter (meB f (pre.length : Int) ((ks.length : Int), true) (Yc (m + d))) (q + 1 + j) (((pre.length + 1 + (ks.take i).flatten.length : Nat) : Int), v, (i : Int)) =
        some (((pre.length + 1 + ks.flatten.length : Nat) : Int), r, true) := by
      intro j
      induction j with
      | zero =>
        intro i q v hi h0 hv
        refine ⟨v, by omega, by omega, ?_⟩
        rw [X05, Y05]
        show Yd _ _ _ _ _ _ _ _ = _
        unfold Yd
        rw [Y28 (by simp only; omega), Xm (by omega)]
      | succ j ih =>
        intro i q v hi h0 hv
        rw [show q + 1 + (j + 1) = (q + 1 + j) + 1 by omega, Y05]
        have hik : i < ks.length := by omega
        have kk := kid_at (i := i) (k := ks[i]) hf hks (X2 hik)
        have aa := had i _ (X2 hik)
        obtain ⟨u, u1, u2, u3⟩ := measure_ok ks[i] _ _ m (by omega) (hks _ (List.getElem_mem hik)) kk.1
        rw [kk.2.1] at u3
        have htk : (ks.take (i + 1)).flatten.length = (ks.take i).flatten.length + ks[i].length := by
          rw [X0s hik]
          simp only [X0w, X01, X13, X0k, Xa]
        have e : meB f (pre.length : Int) ((ks.length : Int), true) (Yc (m + d)) (iter (meB f (pre.length : Int) ((ks.length : Int), true) (Yc (m + d))) (q + 1 + j)) (((pre.length + 1 + (ks.take i).flatten.length : Nat) : Int), v, (i : Int)) =
            iter (meB f (pre.length : Int) ((ks.length : Int), true) (Yc (m + d))) (q + 1 + j) (((pre.length + 1 + (ks.take (i + 1)).flatten.length : Nat) : Int), (if u + 1 > v then u + 1 else v), ((i + 1 : Nat) : Int)) := by
          show Yd _ _ _ _ _ _ _ _ = _
          unfold Yd
          have c1 : decide ((f.length : Int) ≤ ((pre.length + 1 + (ks.take i).flatten.length : Nat) : Int)) = false := by rw [decide_eq_false_iff_not]; omega
          simp only [c1, X0r, cond_true, cond_false, Xt, hg, kk.2.2.1, formula_adm, aa, X8, X1c, u3]
          rw [Y3c (by omega), Y2y (fun _ => by omega), Y32 (by omega), Y32 (by omega), htk]
          congr 3
          omega
        rw [e]
        exact ih (i + 1) q _ (by omega) (by split <;> omega) (by split <;> omega)
    obtain ⟨r, r1, r2, r3⟩ := run ks.length 0 (999999 - ks.length) 1 (by omega) (by omega) (by omega)
    rw [show 999999 - ks.length + 1 + ks.length = 1000000 by omega] at r3
    refine ⟨r, r1, r2, ?_⟩
    have e0 : (pre.length : Int) + 1 = ((pre.length + 1 + (ks.take 0).flatten.length : Nat) : Int) := by simp
    rw [e0, show pre.length + (n :: ks.flatten).length = pre.length + 1 + ks.flatten.length by simp; omega]
    exact r3
theorem formula_Valid_ok {f : List Y2} {d : Nat} (ht : IsT d f) (hd : d ≤ 8) (hl : f.length ≤ 60) : Y2d f = some true := by
  obtain ⟨v, v1, v2, v3⟩ := measure_ok (f := f) (by omega) d f [] [] (1000000 - d) (by omega) ht (by simp)
  rw [show 1000000 - d + d = 1000000 by omega] at v3
  have v3' : Y0l f 0 = some ((f.length : Int), v, true) := by
    unfold Y0l
    simpa using v3
  unfold Y2d Y1l
  rw [Y28 (by omega), v3', X8]
  simp only [X1c, cond_false, X0r, cond_true, bne_self_eq_false]
  rw [Y28 (by omega), X8]
  rw [show decide ((0 : Int) < v) = true by rw [decide_eq_true_iff]; omega]
end Go.Proofs.YtkgfbpbndmklnaaDoor
