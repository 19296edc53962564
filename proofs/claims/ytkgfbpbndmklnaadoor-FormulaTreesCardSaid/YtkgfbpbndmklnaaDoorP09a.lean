/- Own work. -/
import Derived.Test.YtkgfbpbndmklnaaDoorFm3
import Derived.Test.YtkgfbpbndmklnaaDoorFm9
set_option linter.unusedSimpArgs false
set_option linter.unusedVariables false
namespace Go.Proofs.YtkgfbpbndmklnaaDoor
open Go.Abs
theorem sub_atD : ∀ (d : Nat) (t : List Y2) (i : Nat), IsT d t → i < t.length → ∃ (pre : List Y2) (n : Y2) (ks : List (List Y2)) (post : List Y2) (e : Nat), t = pre ++ (n :: ks.flatten) ++ post ∧ pre.length = i ∧ ar n = some ks.length ∧ (∀ k ∈ ks, IsT e k) ∧ (∀ (j : Nat) (k : List Y2), ks[j]? = some k → adm n j (hd k) = true) ∧ e < d
  | 0, _, _, h, _ => h.elim
  | d + 1, t, i, h, hi => by
    obtain ⟨n, ks, rfl, h2, h3, h4⟩ := h
    cases i with
    | zero => exact ⟨[], n, ks, [], d, by simp, rfl, h2, h3, h4, by omega⟩
    | succ i =>
      have kids : ∀ (ls : List (List Y2)) (i : Nat), (∀ k ∈ ls, IsT d k) → i < ls.flatten.length → ∃ (pre : List Y2) (n : Y2) (ks : List (List Y2)) (post : List Y2) (e : Nat), ls.flatten = pre ++ (n :: ks.flatten) ++ post ∧ pre.length = i ∧ ar n = some ks.length ∧ (∀ k ∈ ks, IsT e k) ∧ (∀ (j : Nat) (k : List Y2), ks[j]? = some k → adm n j (hd k) = true) ∧ e < d := by
        intro ls
        induction ls with
        | nil => intro i _ hi; simp at hi
        | cons l ls ih =>
          intro i hk hi
          by_cases hil : i < l.length
          · obtain ⟨pre, n, ks, post, e, h1, h5, h6, h7, h8, h9⟩ := sub_atD d l i (hk l (by simp)) hil
            exact ⟨pre, n, ks, post ++ ls.flatten, e, by rw [X01, h1]; simp, h5, h6, h7, h8, by omega⟩
          · obtain ⟨pre, n, ks, post, e, h1, h5, h6, h7, h8, h9⟩ := ih (i - l.length) (fun k hk' => hk k (by simp [hk'])) (by simp only [X01, Xa] at hi; omega)
            exact ⟨l ++ pre, n, ks, post, e, by rw [X01, h1]; simp, by simp only [Xa]; omega, h6, h7, h8, h9⟩
      obtain ⟨pre, n', ks', post, e, h1, h5, h6, h7, h8, h9⟩ := kids ks i h3 (by simpa using hi)
      exact ⟨n :: pre, n', ks', post, e, by rw [h1]; simp, by simp [h5], h6, h7, h8, by omega⟩
theorem measure_at {f pre t post : List Y2} {d : Nat} (hl : f.length ≤ 100000) (hd : d ≤ 100) (ht : IsT d t) (hf : f = pre ++ t ++ post) : ∃ v : Int, Y0l f (pre.length : Int) = some (((pre.length + t.length : Nat) : Int), v, true) := by
  obtain ⟨v, v1, v2, v3⟩ := measure_ok hl d t pre post (1000000 - d) hd ht hf
  rw [show 1000000 - d + d = 1000000 by omega] at v3
  exact ⟨v, v3⟩
def poB (f : List Y2) (x : Int × Bool) : (List Int × Int × Int → Option (List Int)) → List Int × Int × Int → Option (List Int) := fun loop s => Y0z f x loop s.1 s.2.1 s.2.2
theorem pOperands_ok {f pre post : List Y2} {n : Y2} {ks : List (List Y2)} {d e : Nat} (hT : IsT d f) (hd : d ≤ 8) (he : e ≤ 8) (hf : f = pre ++ (n :: ks.flatten) ++ post) (hl : f.length ≤ 60) (ha : ar n = some ks.length) (hks : ∀ k ∈ ks, IsT e k) :
    Y25 f (pre.length : Int) = some (offs (pre.length + 1) ks) := by
  have hlt : pre.length < f.length := by rw [hf]; simp
  have hg : f.getD pre.length Yf = n := by rw [hf, Xv]; exact getD_mid _ _ _
  have h16 := ar_le ha
  have hv := formula_Valid_ok hT hd hl
  unfold Y25
  have d1 : decide ((pre.length : Int) < 0) = false := decide_eq_false (by omega)
  have d2 : decide ((f.length : Int) ≤ (pre.length : Int)) = false := decide_eq_false (by omega)
  simp only [d1, d2, cond_false, X0r, cond_true, hv, X8, X1c]
  rw [Y2y (by omega), Xt, hg, formula_arity_ok ha, X8, Y32 (by omega)]
  have run : ∀ (ls done : List (List Y2)) (m : Nat), ks = done ++ ls → iter (poB f ((ks.length : Int), true)) (m + 1 + ls.length) (offs (pre.length + 1) done, ((pre.length + 1 + done.flatten.length : Nat) : Int), (done.length : Int)) = some (offs (pre.length + 1) ks) := by
    intro ls
    induction ls with
    | nil =>
      intro done m he
      have hd : done = ks := by simpa using he.symm
      subst hd
      rw [show m + 1 + ([] : List (List Y2)).length = m + 1 by simp, Y05]
      unfold poB Y0z
      simp only
      rw [Y28 (by omega)]
    | cons k ls ih =>
      intro done m he
      rw [show m + 1 + (k :: ls).length = (m + 1 + ls.length) + 1 by simp; omega, Y05]
      have hkl : ks.length = done.length + (ls.length + 1) := by rw [he]; simp
      have hf2 : f = (pre ++ n :: done.flatten) ++ k ++ (ls.flatten ++ post) := by rw [hf, he]; simp
      have hpl : (pre ++ n :: done.flatten).length = pre.length + 1 + done.flatten.length := by simp; omega
      obtain ⟨v, hv⟩ := measure_at (by omega) (by omega) (hks k (by rw [he]; simp)) hf2
      rw [hpl] at hv
      have hol : (offs (pre.length + 1) done).length = done.length := Y3e _ _
      unfold poB Y0z
      simp only
      rw [Y3c (by omega), G_room (by omega), hv, X8, Y32 (by omega)]
      have := ih (done ++ [k]) m (by rw [he]; simp)
      rw [offs_app] at this
      simp only [X0w, Xa, Xe, X01, X13, X0k, offs] at this
      rw [show pre.length + 1 + (done.flatten.length + k.length) = pre.length + 1 + done.flatten.length + k.length by omega] at this
      push_cast at this ⊢
      exact this
  have := run ks [] (999999 - ks.length) rfl
  rw [show 999999 - ks.length + 1 + ks.length = 1000000 by omega] at this
  have e0 : ((pre.length + 1 + ([] : List (List Y2)).flatten.length : Nat) : Int) = (pre.length : Int) + 1 := by simp
  rw [e0] at this
  exact this
theorem pEnd_ok {f pre t post : List Y2} {d e : Nat} (hT : IsT d f) (hd : d ≤ 8) (he : e ≤ 8) (ht : IsT e t) (hf : f = pre ++ t ++ post) (hl : f.length ≤ 60) : Y26 f (pre.length : Int) = some ((pre.length + t.length : Nat) : Int) := by
  have hp := ht.pos
  have hlt : pre.length < f.length := by rw [hf]; simp; omega
  obtain ⟨v, hv⟩ := measure_at (by omega) (by omega) ht hf
  unfold Y26
  have d1 : decide ((pre.length : Int) < 0) = false := decide_eq_false (by omega)
  have d2 : decide ((f.length : Int) ≤ (pre.length : Int)) = false := decide_eq_false (by omega)
  simp only [d1, d2, cond_false, X0r, cond_true, formula_Valid_ok hT hd hl, X8, X1c]
  rw [hv, X8]
theorem pDepth_ok {t : List Y2} {d : Nat} {v : Int} (hd : d ≤ 8) (hM : MeasAt d t v) (hl : t.length ≤ 60) : Y1l t = some v := by
  obtain ⟨h1, h2, h3⟩ := hM
  have := h3 t [] [] (1000000 - d) (by omega) (by simp)
  rw [show 1000000 - d + d = 1000000 by omega] at this
  have e : Y0l t 0 = some ((t.length : Int), v, true) := by
    have h4 : Y0l t 0 = Yc 1000000 t ((([] : List Y2).length : Nat) : Int) := rfl
    rw [h4, this]; simp
  unfold Y1l
  rw [Y28 (by omega), e, X8]
  simp only [X1c, bne_self_eq_false, cond_false]
  rw [Y28 (by omega)]
def t1B (f : List Y2) (loop4 : Int → Option Bool) (v : Int) (l : List Int) : (Int × Int → Option Bool) → Int × Int → Option Bool := fun loop s => Y13 f loop4 v l loop s.1 s.2
def t3B (x1 : Bool) (f : List Y2) : (Int → Option Bool) → Int → Option Bool := fun loop s => Y11 x1 f loop s
def t2B (x1 : Bool) (f : List Y2) (l : List Int) : (Int × Int → Option Bool) → Int × Int → Option Bool := fun loop s => Y12 x1 f l loop s.1 s.2
theorem t1_run {f pre post : List Y2} {n : Y2} {ks : List (List Y2)} {d e : Nat} (hT : IsT d f) (hd : d ≤ 7) (he : e ≤ 7) (hf : f = pre ++ (n :: ks.flatten) ++ post) (hl : f.length ≤ 60) (ha : ar n = some ks.length) (hks : ∀ k ∈ ks, IsT e k) (hT1 : IsT (e + 1) (n :: ks.flatten)) (loop4 : Int → Option Bool) :
    ∀ (ls done : List (List Y2)) (m : Nat), ks = done ++ ls → iter (t1B f loop4 (pre.length : Int) (offs (pre.length + 1) ks)) (m + 1 + ls.length) (((pre.length + 1 + done.flatten.length : Nat) : Int), (done.length : Int)) = loop4 ((pre.length : Int) + 1) := by
  have h16 := ar_le ha
  have hlt : pre.length < f.length := by rw [hf]; simp
  have hol : (offs (pre.length + 1) ks).length = ks.length := Y3e _ _
  have hlen : pre.length + 1 + ks.flatten.length + post.length = f.length := by rw [hf]; simp; omega
  intro ls
  induction ls with
  | nil =>
    intro done m hk
    have hdn : done = ks := by simpa using hk.symm
    subst hdn
    rw [show m + 1 + ([] : List (List Y2)).length = m + 1 by simp, Y05]
    unfold t1B Y13
    simp only
    rw [Y28 (by omega), pEnd_ok hT (by omega) (show e + 1 ≤ 8 by omega) hT1 hf hl, X8]
    have e1 : ((pre.length + (n :: done.flatten).length : Nat) : Int) = ((pre.length + 1 + done.flatten.length : Nat) : Int) := by simp; omega
    rw [e1, bne_self_eq_false, cond_false]
  | cons k ls ih =>
    intro done m hk
    rw [show m + 1 + (k :: ls).length = (m + 1 + ls.length) + 1 by simp; omega, Y05]
    have hkl : ks.length = done.length + (ls.length + 1) := by rw [hk]; simp
    have hf2 : f = (pre ++ n :: done.flatten) ++ k ++ (ls.flatten ++ post) := by rw [hf, hk]; simp
    have hpl : (pre ++ n :: done.flatten).length = pre.length + 1 + done.flatten.length := by simp; omega
    have hkt := hks k (by rw [hk]; simp)
    have hE := pEnd_ok hT (by omega) (show e ≤ 8 by omega) hkt hf2 hl
    rw [hpl] at hE
    have hp := hkt.pos
    have hlf := congrArg List.length hf2
    simp only [Xa, Xx] at hlf
    have hget : (offs (pre.length + 1) ks).getD done.length 0 = ((pre.length + 1 + done.flatten.length : Nat) : Int) := by
      rw [offs_get _ _ _ (by omega), hk]; simp
    unfold t1B Y13
    simp only
    rw [Y3c (by omega), Y2y (by omega), Xt, hget, bne_self_eq_false, cond_false, hE, X8]
    rw [Y28 (by push_cast; omega), Y28 (by push_cast; omega), Y32 (by omega)]
    have := ih (done ++ [k]) m (by rw [hk]; simp)
    simp only [X0w, Xa, Xe, X01, X13, X0k] at this
    rw [show pre.length + 1 + (done.flatten.length + k.length) = pre.length + 1 + done.flatten.length + k.length by omega] at this
    push_cast at this ⊢
    exact this
theorem upMax_max : ∀ (vs : List Int) (v : Int), vs.foldl upMax (v + 1) = vs.foldl (fun a u => if u > a then u else a) v + 1
  | [], _ => rfl
  | u :: vs, v => by
    rw [X1b, X1b, ← upMax_max vs]
    congr 1
    unfold upMax
    split <;> split <;> omega
theorem t2_run {f : List Y2} {n : Y2} {ks : List (List Y2)} {vs : List Int} {d : Nat} (x1 : Bool) (hT : IsT (d + 1) f) (hd : d ≤ 7) (hf : f = n :: ks.flatten) (hl : f.length ≤ 60) (ha : ar n = some ks.length) (hks : ∀ k ∈ ks, IsT d k) (hvl : vs.length = ks.length)
    (hv : ∀ (i : Nat) (k : List Y2) (v : Int), ks[i]? = some k → vs[i]? = some v → MeasAt d k v) (hM : MeasAt (d + 1) f (vs.foldl upMax 1)) :
    ∀ (ls done : List (List Y2)) (us es : List Int) (m : Nat), ks = done ++ ls → vs = es ++ us → es.length = done.length → iter (t2B x1 f (offs 1 ks)) (m + 1 + ls.length) (es.foldl (fun a u => if u > a then u else a) 0, (done.length : Int)) = some x1 := by
  have h16 := ar_le ha
  have hol : (offs 1 ks).length = ks.length := Y3e _ _
  have hf0 : f = [] ++ (n :: ks.flatten) ++ [] := by rw [hf]; simp
  have hbound : ∀ (us : List Int), (∀ u ∈ us, 1 ≤ u ∧ u ≤ 100) → ∀ a : Int, 0 ≤ a → a ≤ 100 → 0 ≤ us.foldl (fun a u => if u > a then u else a) a ∧ us.foldl (fun a u => if u > a then u else a) a ≤ 100 := by
    intro us
    induction us with
    | nil => intro _ a h1 h2; exact ⟨h1, h2⟩
    | cons u us ih =>
      intro hu a h1 h2
      rw [X1b]
      have := hu u (by simp)
      refine ih (fun x hx => hu x (by simp [hx])) _ ?_ ?_ <;> split <;> omega
  have hvs : ∀ u ∈ vs, 1 ≤ u ∧ u ≤ 100 := fun u hu => by
    obtain ⟨i, hi, rfl⟩ := List.getElem_of_mem hu
    have := hv i ks[i] vs[i] (X2 (by omega)) (X2 hi)
    have h1 := this.1
    have h2 := this.2.1
    exact ⟨h1, by omega⟩
  intro ls
  induction ls with
  | nil =>
    intro done us es m hk hes hel
    have hdn : done = ks := by simpa using hk.symm
    subst hdn
    have hus : us = [] := by
      have := congrArg List.length hes
      simp only [Xa] at this
      exact Xo (by omega)
    subst hus
    rw [X0k] at hes
    subst hes
    have hb := hbound vs hvs 0 (by omega) (by omega)
    rw [show m + 1 + ([] : List (List Y2)).length = m + 1 by simp, Y05]
    unfold t2B Y12
    simp only
    have hE : Y26 f 0 = some (f.length : Int) := by
      have := pEnd_ok (pre := []) (post := []) hT (by omega) (show d + 1 ≤ 8 by omega) hT (by simp) hl
      simpa using this
    rw [Y28 (by omega), hE, X8, beq_self_eq_true, cond_true, pDepth_ok (by omega) hM hl, X8]
    have e1 := upMax_max vs 0
    rw [show (0 : Int) + 1 = 1 by rfl] at e1
    rw [e1, Y2y (fun _ => inR_of (by omega)), beq_self_eq_true]
    rfl
  | cons k ls ih =>
    intro done us es m hk hes hel
    rw [show m + 1 + (k :: ls).length = (m + 1 + ls.length) + 1 by simp; omega, Y05]
    have hkl : ks.length = done.length + (ls.length + 1) := by rw [hk]; simp
    obtain ⟨u, us', rfl⟩ : ∃ u us', us = u :: us' := by
      cases us with
      | nil => have := congrArg List.length hes; simp at this; omega
      | cons u us' => exact ⟨u, us', rfl⟩
    have hf2 : f = (n :: done.flatten) ++ k ++ ls.flatten := by rw [hf, hk]; simp
    have hkt := hks k (by rw [hk]; simp)
    have hE := End_ok hkt hf2 (by omega)
    have hpl : ((n :: done.flatten).length : Int) = ((1 + done.flatten.length : Nat) : Int) := by simp; omega
    rw [hpl] at hE
    have hget : (offs 1 ks).getD done.length 0 = ((1 + done.flatten.length : Nat) : Int) := by
      rw [offs_get _ _ _ (by omega), hk]; simp
    have hlf := congrArg List.length hf2
    simp only [Xa, Xx] at hlf
    have hke : ks[done.length]? = some k := by rw [hk]; simp
    have hue : vs[done.length]? = some u := by rw [hes, ← hel]; simp
    have hD := pDepth_ok (by omega) (hv _ _ _ hke hue) (show k.length ≤ 60 by omega)
    have hu := hvs u (by rw [hes]; simp)
    have e2 : ((n :: done.flatten).length + k.length : Nat) = 1 + done.flatten.length + k.length := by simp; omega
    rw [e2] at hE
    unfold t2B Y12
    simp only
    rw [Y3c (by omega), Y2y (by omega), Xt, hget, hE, X8, Y2y (by omega), Y2y (by omega)]
    simp only [Xt]
    have esl : (f.drop (1 + done.flatten.length)).take (1 + done.flatten.length + k.length - (1 + done.flatten.length)) = k := by
      rw [hf2, show 1 + done.flatten.length + k.length - (1 + done.flatten.length) = k.length by omega, Xv, X0y (by simp; omega), List.drop_of_length_le (by simp; omega)]
      simp
    rw [esl, hD, X8, Y32 (by omega)]
    have := ih (done ++ [k]) us' (es ++ [u]) m (by rw [hk]; simp) (by rw [hes]; simp) (by simp [hel])
    rw [List.foldl_append] at this
    simp only [X1b, List.foldl_nil, Xa, Xe] at this
    push_cast at this
    exact this
theorem plain_FormulaTrees {t0 : List Int} (h0 : okList (okInt .u8) t0) : Y2v t0 = some true := by
  obtain ⟨f, hf, hT, hl⟩ := Made_tree h0
  unfold Y2v
  rw [show f_L09_sanity = some true from rfl, X8, hf, X8]
  have run : ∀ (j i m : Nat), i + j = f.length → iter (t3B true f) (m + 1 + j) (i : Int) = some true := by
    intro j
    induction j with
    | zero =>
      intro i m hi
      rw [X05, Y05]
      unfold t3B Y11
      rw [Y28 (by omega)]
      obtain ⟨n, ks, hfe, ha, hks, had⟩ : ∃ (n : Y2) (ks : List (List Y2)), f = n :: ks.flatten ∧ ar n = some ks.length ∧ (∀ k ∈ ks, IsT 4 k) ∧ ∀ (i : Nat) (k : List Y2), ks[i]? = some k → adm n i (hd k) = true := id hT
      have hO := Operands_ok (f := f) (pre := []) (post := []) (n := n) (ks := ks) (by rw [hfe]; simp) (by omega) ha hks
      have h16 := ar_le ha
      have vals : ∀ ls : List (List Y2), (∀ k ∈ ls, IsT 4 k) → ∃ vs : List Int, vs.length = ls.length ∧ ∀ (i : Nat) (k : List Y2) (v : Int), ls[i]? = some k → vs[i]? = some v → MeasAt 4 k v := by
        intro ls
        induction ls with
        | nil => intro _; exact ⟨[], rfl, fun i k v hk => by simp at hk⟩
        | cons l ls ih =>
          intro hl
          obtain ⟨v, hv⟩ := measure_dep 4 l (by omega) (hl l (by simp))
          obtain ⟨vs, hvl, hvs⟩ := ih (fun k hk => hl k (by simp [hk]))
          refine ⟨v :: vs, by simp [hvl], fun i k u hk hu => ?_⟩
          cases i with
          | zero => simp only [X08, X0] at hk hu; subst hk; subst hu; exact hv
          | succ i => simp only [X09] at hk hu; exact hvs i k u hk hu
      obtain ⟨vs, hvl, hvs⟩ := vals ks hks
      have hM := measure_node (by omega) ha hks had hvl hvs
      rw [← hfe] at hM
      have hO' : Y1v f 0 = some (offs 1 ks) := by
        have e0 : ((([] : List Y2).length : Nat) : Int) = 0 := rfl
        rw [e0] at hO
        rw [hO]; rfl
      rw [hO', X8]
      have := t2_run true hT (by omega) hfe hl ha hks hvl hvs hM ks [] vs [] (999999 - ks.length) rfl rfl rfl
      rw [show 999999 - ks.length + 1 + ks.length = 1000000 by omega] at this
      exact this
    | succ j ih =>
      intro i m hi
      rw [show m + 1 + (j + 1) = (m + 1 + j) + 1 by omega, Y05]
      obtain ⟨pre, n, ks, post, e, h1, h2, h3, h4, h5, h6⟩ := sub_atD 5 f i hT (by omega)
      have h16 := ar_le h3
      have hT1 : IsT (e + 1) (n :: ks.flatten) := ⟨n, ks, rfl, h3, h4, h5⟩
      have hO := pOperands_ok hT (by omega) (show e ≤ 8 by omega) h1 hl h3 h4
      rw [h2] at hO
      have hg : f.getD i Yf = n := by rw [← h2, h1, Xv]; exact getD_mid _ _ _
      have hR := t1_run hT (by omega) (show e ≤ 7 by omega) h1 hl h3 h4 hT1 (iter (t3B true f) (m + 1 + j)) ks [] (999999 - ks.length) rfl
      rw [show 999999 - ks.length + 1 + ks.length = 1000000 by omega, h2] at hR
      have e0 : ((i + 1 + ([] : List (List Y2)).flatten.length : Nat) : Int) = (i : Int) + 1 := by simp
      rw [e0] at hR
      unfold t3B Y11
      rw [Y3c (by omega), hO, X8, Y32 (by omega), Y2y (by omega), Xt, hg, R09_Arity_ok h3, X8, Y3e, bne_self_eq_false, cond_false]
      refine Eq.trans hR ?_
      have := ih (i + 1) m (by omega)
      rw [show ((i + 1 : Nat) : Int) = (i : Int) + 1 by omega] at this
      exact this
  have := run f.length 0 (999999 - f.length) (by omega)
  rw [show 999999 - f.length + 1 + f.length = 1000000 by omega] at this
  exact this
end Go.Proofs.YtkgfbpbndmklnaaDoor
