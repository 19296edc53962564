/- Own work. -/
import Derived.Test.YtioockkejhpleaaDoorSp4
import Derived.Test.YtioockkejhpleaaDoorSh
set_option linter.unusedSimpArgs false
set_option linter.unusedVariables false
namespace Go.Proofs.YtioockkejhpleaaDoor
open Go.Abs
/- Trees are a code without common beginnings. -/
theorem head_eq {a b ra rb : List Y4} {d e : Nat} (ha : IsT d a) (hb : IsT e b) (h : a ++ ra = b ++ rb) (hl : (a ++ ra).length ≤ 100000) : a = b ∧ ra = rb := by
  have e1 := End_ok (f := a ++ ra) (pre := []) ha rfl hl
  have e2 := End_ok (f := a ++ ra) (pre := []) hb (by rw [h]; rfl) hl
  rw [e1] at e2
  have h3 : a.length = b.length := by
    have := X5 e2
    simp only [X8] at this
    omega
  exact List.append_inj h h3
theorem flatten_inj {d e : Nat} : ∀ (xs ys : List (List Y4)), (∀ a ∈ xs, IsT d a) → (∀ b ∈ ys, IsT e b) → xs.flatten = ys.flatten → xs.flatten.length ≤ 100000 → xs = ys
  | [], [], _, _, _, _ => rfl
  | [], b :: ys, _, hb, h, _ => by
    have := (hb b (by simp)).pos
    have := congrArg List.length h
    simp only [X0e, Xr, X2, X8] at this
    omega
  | a :: xs, [], ha, _, h, _ => by
    have := (ha a (by simp)).pos
    have := congrArg List.length h
    simp only [X0e, Xr, X2, X8] at this
    omega
  | a :: xs, b :: ys, ha, hb, h, hl => by
    rw [Xr] at h hl
    rw [Xr] at h
    obtain ⟨h1, h2⟩ := head_eq (ha a (by simp)) (hb b (by simp)) h hl
    rw [X2] at hl
    rw [h1, flatten_inj xs ys (fun x hx => ha x (by simp [hx])) (fun x hx => hb x (by simp [hx])) h2 (by omega)]
theorem good_inj : ∀ (d e : Nat) (A B : Tr), A.good d → B.good e → A.flat = B.flat → A.flat.length ≤ 100000 → A = B
  | 0, _, A, _, h, _, _, _ => by cases A; exact h.elim
  | d + 1, 0, _, B, _, h, _, _ => by cases B; exact h.elim
  | d + 1, e + 1, .node n ks, .node m ls, ha, hb, h, hl => by
    rw [Tr.flat, Tr.flat, List.cons.injEq] at h
    rw [Tr.flat, X7, Y3k] at hl
    obtain ⟨rfl, h2⟩ := h
    have h3 : (ks.map Tr.flat).flatten = (ls.map Tr.flat).flatten := by rw [← Y3k, ← Y3k]; exact h2
    have ka : ∀ a ∈ ks.map Tr.flat, IsT d a := by
      intro a h; obtain ⟨T, hT, rfl⟩ := Xy.1 h; exact Y3u d T (Y2x.1 ha.2.1 T hT)
    have kb : ∀ a ∈ ls.map Tr.flat, IsT e a := by
      intro a h; obtain ⟨T, hT, rfl⟩ := Xy.1 h; exact Y3u e T (Y2x.1 hb.2.1 T hT)
    have h4 := flatten_inj _ _ ka kb h3 (by omega)
    have key : ∀ (ks ls : List Tr), goodL d ks → goodL e ls → ks.map Tr.flat = ls.map Tr.flat → (ks.map Tr.flat).flatten.length ≤ 100000 → ks = ls := by
      intro ks
      induction ks with
      | nil => intro ls _ _ h _; cases ls with
        | nil => rfl
        | cons l ls => cases h
      | cons k ks ih =>
        intro ls ga gb h hl
        cases ls with
        | nil => cases h
        | cons l ls =>
          rw [Xs, Xs, List.cons.injEq] at h
          rw [Xs, Xr, X2] at hl
          rw [good_inj d e k l ga.1 gb.1 h.1 (by omega), ih ls ga.2 gb.2 h.2 (by omega)]
    rw [key ks ls ha.2.1 hb.2.1 h4 (by omega)]
/- Equal rows. -/
theorem SameCells_eq (a b : List Int) (ha : a.length ≤ 100000) : Y50 a b = some (decide (a = b)) := by
  unfold Y50
  by_cases hl : a.length = b.length
  · rw [cn_neg (by omega)]
    by_cases he : a = b
    · subst he
      rw [decide_eq_true rfl]
      refine Y3b (fun k => (k : Int)) a.length _ (by omega) (fun loop k hk => ?_) fun loop => ?_
      · unfold Y24
        rw [Y0b (by omega), Y01 (by omega), Y01 (by omega), cn_neg rfl, Y09 (by omega)]; rfl
      · unfold Y24
        rw [Y07 (by omega)]
    · rw [decide_eq_false he]
      -- the first place at which they differ
      have ex : ∃ k, k < a.length ∧ a.getD k 0 ≠ b.getD k 0 ∧ ∀ j, j < k → a.getD j 0 = b.getD j 0 := by
        have h1 : ∃ k, k < a.length ∧ a.getD k 0 ≠ b.getD k 0 := by
          apply Classical.byContradiction
          intro hn
          refine he (X19 hl fun i h1 h2 => ?_)
          apply Classical.byContradiction
          intro hne
          refine hn ⟨i, h1, ?_⟩
          rw [Xf, Xf, X6 h1, X6 h2]
          exact hne
        have h2 : ∀ m, (∃ k, k < m ∧ k < a.length ∧ a.getD k 0 ≠ b.getD k 0) → ∃ k, k < a.length ∧ a.getD k 0 ≠ b.getD k 0 ∧ ∀ j, j < k → a.getD j 0 = b.getD j 0 := by
          intro m
          induction m with
          | zero => rintro ⟨k, h, _⟩; omega
          | succ m ih =>
            rintro ⟨k, h, h3, h4⟩
            by_cases hq : ∃ k, k < m ∧ k < a.length ∧ a.getD k 0 ≠ b.getD k 0
            · exact ih hq
            · have hkm : k = m := by
                apply Classical.byContradiction
                intro hne
                exact hq ⟨k, by omega, h3, h4⟩
              subst hkm
              refine ⟨k, h3, h4, fun j hj => ?_⟩
              apply Classical.byContradiction
              intro hne
              exact hq ⟨j, hj, by omega, hne⟩
        obtain ⟨k, h3, h4⟩ := h1
        exact h2 (k + 1) ⟨k, by omega, h3, h4⟩
      obtain ⟨k, h1, h2, h3⟩ := ex
      refine Y3b (fun k => (k : Int)) k _ (by omega) (fun loop j hj => ?_) fun loop => ?_
      · unfold Y24
        rw [Y0b (by omega), Y01 (by omega), Y01 (by omega), Xa, cn_neg (h3 j hj), Y09 (by omega)]; rfl
      · unfold Y24
        rw [Y0b (by omega), Y01 (by omega), Y01 (by omega), Xa, cn_pos h2]
  · rw [cn_pos (by omega), decide_eq_false fun e => hl (by rw [e])]
/- What the reference makes. -/
def EN (e : List Y4) : Prop := (∃ n : Int, 0 ≤ n ∧ n ≤ 65025 ∧ e = [⟨0, n⟩]) ∨ ∃ n : Int, (0 ≤ n ∧ n ≤ 255) ∧ (e = [⟨1, n % 26⟩] ∨ e = [⟨2, 0⟩, ⟨1, n % 26⟩, ⟨0, n⟩] ∨ e = [⟨3, 0⟩, ⟨0, n⟩, ⟨1, n % 26⟩] ∨ e = [⟨4, 0⟩, ⟨0, n⟩, ⟨1, n % 26⟩] ∨ e = [⟨7, 0⟩, ⟨1, n % 26⟩, ⟨0, n⟩] ∨ e = [⟨9, 0⟩, ⟨10, 0⟩, ⟨2, 0⟩, ⟨1, n % 26⟩, ⟨0, n⟩] ∨ e = [⟨6, 0⟩, ⟨0, n⟩, ⟨1, n % 26⟩])
theorem okN_of {o n : Int} (h1 : 0 ≤ o ∧ o ≤ 100) (h2 : 0 ≤ n ∧ n ≤ 100000) : okN ⟨o, n⟩ := ⟨⟨by show -9223372036854775808 ≤ o; omega, by show o ≤ _; omega⟩, by show -9223372036854775808 ≤ n; omega, by show n ≤ _; omega⟩
theorem all_nil {α : Type} (p : α → Prop) : ∀ y ∈ ([] : List α), p y := fun _ h => by cases h
theorem all_cons {α : Type} {p : α → Prop} {x : α} {l : List α} (h : p x) (t : ∀ y ∈ l, p y) : ∀ y ∈ x :: l, p y := fun y hy => by
  rcases X03.1 hy with rfl | hy
  · exact h
  · exact t y hy
theorem EN.okN {e : List Y4} (h : EN e) : (∀ n ∈ e, okN n) ∧ 0 < e.length ∧ e.length ≤ 5 := by
  rcases h with ⟨n, h0, h1, rfl⟩ | ⟨n, ⟨h0, h1⟩, h⟩
  · refine ⟨fun m hm => ?_, by simp, by simp⟩
    rw [X1k] at hm; subst hm
    exact okN_of (by omega) (by omega)
  · have h2 : 0 ≤ n % 26 ∧ n % 26 ≤ 25 := by omega
    generalize n % 26 = v at h h2
    rcases h with rfl | rfl | rfl | rfl | rfl | rfl | rfl <;>
      (refine ⟨?_, by simp, by simp⟩; repeat (first | exact all_nil _ | refine all_cons (okN_of (by omega) (by omega)) ?_))
theorem Entry_ok {k n : Int} (hk : 0 ≤ k ∧ k ≤ 255) (hn : 0 ≤ n ∧ n ≤ 255) : ∃ e, Y4z k n = some e ∧ EN e := by
  have h26 : Int.tmod n 26 = n % 26 := tmod_n hn.1 26
  have hv : 0 ≤ n % 26 ∧ n % 26 ≤ 25 := by omega
  unfold Y4z
  rw [h26, wrap_i64 (by omega), wrap_i64 (by omega)]
  by_cases c1 : Int.tmod k 8 = 1
  · exact ⟨_, Yo c1, .inr ⟨n, hn, .inl rfl⟩⟩
  rw [Yi c1]
  by_cases c2 : Int.tmod k 8 = 2
  · exact ⟨_, Yo c2, .inr ⟨n, hn, .inr (.inl rfl)⟩⟩
  rw [Yi c2]
  by_cases c3 : Int.tmod k 8 = 3
  · exact ⟨_, Yo c3, .inr ⟨n, hn, .inr (.inr (.inl rfl))⟩⟩
  rw [Yi c3]
  by_cases c4 : Int.tmod k 8 = 4
  · exact ⟨_, Yo c4, .inr ⟨n, hn, .inr (.inr (.inr (.inl rfl)))⟩⟩
  rw [Yi c4]
  by_cases c5 : Int.tmod k 8 = 5
  · exact ⟨_, Yo c5, .inr ⟨n, hn, .inr (.inr (.inr (.inr (.inl rfl))))⟩⟩
  rw [Yi c5]
  by_cases c6 : Int.tmod k 8 = 6
  · exact ⟨_, Yo c6, .inr ⟨n, hn, .inr (.inr (.inr (.inr (.inr (.inl rfl)))))⟩⟩
  rw [Yi c6]
  by_cases c7 : Int.tmod k 8 = 7
  · exact ⟨_, Yo c7, .inr ⟨n, hn, .inr (.inr (.inr (.inr (.inr (.inr rfl)))))⟩⟩
  rw [Yi c7]
  exact ⟨_, rfl, .inl ⟨n, hn.1, by omega, rfl⟩⟩
def MadeP (f : List Y4) : Prop := EN f ∨ ∃ (top : Y4) (es : List (List Y4)), f = top :: es.flatten ∧ (∀ e ∈ es, EN e) ∧ es.length ≤ 16 ∧ okN top
theorem MadeP.okN {f : List Y4} (h : MadeP f) : (∀ n ∈ f, okN n) ∧ 0 < f.length ∧ f.length ≤ 100 := by
  rcases h with h | ⟨top, es, rfl, h1, h2, h3⟩
  · have := EN.okN h; exact ⟨this.1, this.2.1, by omega⟩
  · have hb : es.flatten.length ≤ es.length * 5 := by
      clear h2
      induction es with
      | nil => simp
      | cons e es ih =>
        have := ih fun e he => h1 e (by simp [he])
        have := (EN.okN (h1 e (by simp))).2.2
        simp only [Xr, X2, X7]
        omega
    refine ⟨fun n hn => ?_, by simp, by simp only [X7]; omega⟩
    rcases X03.1 hn with rfl | hn
    · exact h3
    · obtain ⟨e, he, hn⟩ := List.mem_flatten.1 hn
      exact (EN.okN (h1 e he)).1 n hn
theorem Made_k3 {t0 : Y39} (h0 : okS_Raw t0) {top : Y4} (ht : okN top) {m : Nat} (hm : m ≤ 16) : ∃ f, Y54 t0 [top] (m : Int) = some f ∧ MadeP f := by
  obtain ⟨hK, hN, hL, _⟩ := h0
  have hK' : 0 ≤ t0.Kind ∧ t0.Kind ≤ 255 := hK
  have hN' : 0 ≤ t0.N ∧ t0.N ≤ 255 := hN
  -- the byte pairs
  have pair : ∀ i : Nat, i < t0.L.length → ∃ a b : Int, t0.L.getD i (List.replicate 2 0) = [a, b] ∧ (0 ≤ a ∧ a ≤ 255) ∧ 0 ≤ b ∧ b ≤ 255 := by
    intro i hi
    obtain ⟨h1, h2⟩ := hL _ (Y3w (d := List.replicate 2 0) hi)
    generalize t0.L.getD i (List.replicate 2 0) = p at h1 h2
    match p, h1, h2 with
    | [a, b], h1, _ => exact ⟨a, b, rfl, h1 a (by simp), h1 b (by simp)⟩
  have step : ∀ (loop : Y39 × List Y4 × Int → Option (List Y4)) (v : List Y4) (i : Nat) (a b : Int), v.length ≤ 1000 → i ≤ 16 → (0 ≤ a ∧ a ≤ 255) → (0 ≤ b ∧ b ≤ 255) → ∃ e, EN e ∧ Y49 loop (i : Int) t0 v [a, b] = loop (t0, v ++ e, ((i + 1 : Nat) : Int)) := by
    intro loop v i a b hv hi ha hb
    unfold Y49
    have g0 : ([a, b] : List Int).getD 0 0 = a := rfl
    have g1 : ([a, b] : List Int).getD 1 0 = b := rfl
    rw [g0, g1]
    have hab : 0 ≤ a * b ∧ a * b ≤ 65025 := by
      refine ⟨Int.mul_nonneg ha.1 hb.1, ?_⟩
      have h1 : a * b ≤ 255 * b := Int.mul_le_mul_of_nonneg_right ha.2 hb.1
      omega
    by_cases c0 : Int.tmod t0.Kind 4 = 0
    · rw [Yo c0, wrap_i64 (by omega), wrap_i64 (by omega), Y09 (by omega), Y0e (by omega)]
      refine ⟨[⟨0, a * b⟩], .inl ⟨a * b, hab.1, hab.2, rfl⟩, ?_⟩
      unfold Y55
      rw [Y09 (by omega)]; rfl
    · obtain ⟨e, h1, h2⟩ := Entry_ok ha hb
      have := (EN.okN h2).2.2
      rw [Yi c0, h1, X0, Y0e (by omega)]
      refine ⟨e, h2, ?_⟩
      unfold Y55
      rw [Y09 (by omega)]; rfl
  have run : ∀ (j i q : Nat) (es : List (List Y4)), i + j = m → es.length = i → (∀ e ∈ es, EN e) → ∃ f, iter (fun loop (s : Y39 × List Y4 × Int) => Y2o (m : Int) loop s.1 s.2.1 s.2.2) (q + 1 + j) (t0, top :: es.flatten, (i : Int)) = some f ∧ MadeP f := by
    intro j
    induction j with
    | zero =>
      intro i q es hi he hE
      rw [X0d, Yy]
      show ∃ f, Y2o (m : Int) _ t0 (top :: es.flatten) (i : Int) = some f ∧ _
      have hP : MadeP (top :: es.flatten) := .inr ⟨top, es, rfl, hE, by omega, ht⟩
      unfold Y2o
      rw [Y07 (by omega)]
      obtain ⟨b, e1, _⟩ := R09_Valid_tot hP.okN.1
      rw [e1, X0]
      cases b with
      | true => exact ⟨_, rfl, hP⟩
      | false =>
        obtain ⟨e, h1, h2⟩ := Entry_ok (k := 0) (n := t0.N) (by omega) hN'
        show ∃ f, (Y4z 0 t0.N).bind _ = some f ∧ _
        rw [h1]
        exact ⟨e, rfl, .inl h2⟩
    | succ j ih =>
      intro i q es hi he hE
      rw [show q + 1 + (j + 1) = (q + 1 + j) + 1 by omega, Yy]
      show ∃ f, Y2o (m : Int) _ t0 (top :: es.flatten) (i : Int) = some f ∧ _
      have hlen := (MadeP.okN (.inr ⟨top, es, rfl, hE, by omega, ht⟩ : MadeP (top :: es.flatten))).2.2
      have fin : ∀ a b : Int, (0 ≤ a ∧ a ≤ 255) → (0 ≤ b ∧ b ≤ 255) → ∃ f, Y49 (iter (fun loop (s : Y39 × List Y4 × Int) => Y2o (m : Int) loop s.1 s.2.1 s.2.2) (q + 1 + j)) (i : Int) t0 (top :: es.flatten) [a, b] = some f ∧ MadeP f := by
        intro a b ha hb
        obtain ⟨e, h1, h2⟩ := step (iter (fun loop (s : Y39 × List Y4 × Int) => Y2o (m : Int) loop s.1 s.2.1 s.2.2) (q + 1 + j)) (top :: es.flatten) i a b (by omega) (by omega) ha hb
        rw [h2]
        have h3 := ih (i + 1) q (es ++ [e]) (by omega) (by simp [he]) (fun x hx => by
          rcases X07.1 hx with hx | hx
          · exact hE x hx
          · rw [X1k] at hx; rw [hx]; exact h1)
        rw [X0b, Xr, X0e, X09] at h3
        exact h3
      unfold Y2o
      rw [Y0b (by omega)]
      by_cases hiL : i < t0.L.length
      · obtain ⟨a, b, e1, ha, hb⟩ := pair i hiL
        rw [Y0b (by omega), Y01 (by omega), Xa, e1]
        exact fin a b ha hb
      · rw [Y07 (by omega)]
        exact fin 0 0 (by omega) (by omega)
  have h := run m 0 (999999 - m) [] (by omega) rfl (by simp)
  rw [show 999999 - m + 1 + m = 1000000 by omega] at h
  exact h
theorem Made_ok {t0 : Y39} (h0 : okS_Raw t0) : ∃ f, f_R11_Made t0 = some f ∧ MadeP f := by
  have hN : 0 ≤ t0.N ∧ t0.N ≤ 255 := h0.2.1
  have n4 : Int.tmod t0.N 4 = t0.N % 4 := tmod_n hN.1 4
  have d4 : Int.tdiv t0.N 4 = t0.N / 4 := X0c hN.1
  have d8 : Int.tdiv t0.N 8 = t0.N / 8 := X0c hN.1
  have w8 : ∀ x : Int, 0 ≤ x → x ≤ 255 → IntKind.wrap .u8 x = x := fun x h1 h2 => by
    show x % 256 = x
    omega
  have okT : ∀ o x : Int, 0 ≤ o → o ≤ 100 → 0 ≤ x → x ≤ 100 → okN ⟨o, x⟩ := fun o x _ _ _ _ => okN_of (by omega) (by omega)
  unfold f_R11_Made
  rw [n4, d4, d8, w8 (t0.N / 4) (by omega) (by omega), w8 (t0.N / 8) (by omega) (by omega), tmod_n (by omega : 0 ≤ t0.N / 4) 4, wrap_i64 (by omega), wrap_i64 (by omega)]
  by_cases c0 : Int.tmod t0.Kind 4 = 0
  · rw [Yo c0, Y09 (by omega), Y09 (by omega)]
    obtain ⟨m, hm⟩ := nat_of (by omega : 0 ≤ 3 + t0.N % 4)
    rw [hm]
    exact Made_k3 h0 (okT _ _ (by omega) (by omega) (by omega) (by omega)) (by omega)
  rw [Yi c0]
  by_cases c1 : Int.tmod t0.Kind 4 = 1
  · rw [Yo c1]
    obtain ⟨a, ha⟩ := nat_of (by omega : 0 ≤ 1 + t0.N % 4)
    obtain ⟨b, hb⟩ := nat_of (by omega : 0 ≤ 1 + t0.N / 4 % 4)
    rw [ha, hb]
    have hab : a * b ≤ 4 * 4 := Nat.mul_le_mul (by omega) (by omega)
    rw [Y09 (by omega), Y09 (by omega), ← Int.natCast_mul, Y09 (by omega), Y09 (by omega), Y09 (by omega)]
    exact Made_k3 h0 (okT _ _ (by omega) (by omega) (by omega) (by omega)) (by omega)
  rw [Yi c1]
  by_cases c3 : Int.tmod t0.Kind 4 = 3
  · rw [Yo c3]
    obtain ⟨e, h1, h2⟩ := Entry_ok hN (n := t0.N / 8) (by omega)
    rw [h1]
    exact ⟨e, rfl, .inl h2⟩
  rw [Yi c3]
  exact Made_k3 h0 (okT 6 0 (by omega) (by omega) (by omega) (by omega)) (m := 2) (by omega)
end Go.Proofs.YtioockkejhpleaaDoor
