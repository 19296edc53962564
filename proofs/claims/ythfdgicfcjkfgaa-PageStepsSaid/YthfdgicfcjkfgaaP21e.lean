/-
  Own work. Chapter 21, plain part: the laws.
-/
import Derived.Test.YthfdgicfcjkfgaaP21d
set_option linter.unusedSimpArgs false
set_option linter.unusedVariables false
set_option linter.unusedSimpArgs false
set_option linter.unusedVariables false
namespace Go.Proofs.Ythfdgicfcjkfgaa
open Go.Abs

theorem tmod8 (n : Int) (hn : 0 ≤ n ∧ n ≤ 255) : 0 ≤ n.tmod 8 ∧ n.tmod 8 ≤ 7 := by
  have := Int.tmod_eq_emod_of_nonneg (b := 8) hn.1
  omega
theorem made_lt (l : List Int) : (made l).length < 100000 := by have := made_len l; omega

theorem law_heights (t0 t1 t2 : List Int) (h1 : okBytes t1) (h2 : okBytes t2) : f_L21_PageHeights t0 t1 t2 = some true := by
  have hb0 := h2.get 0
  have hb1 := h2.get 1
  have hh := height_bounds _ hb0
  have hm := tmod8 _ hb1
  have hr := made_lt t0
  unfold f_L21_PageHeights
  rw [bind_some' sanity_true, bind_some' (f_made t0), bind_some' (f_height _ hb0), wrap_i64 (by omega), G_inR (by omega), bind_some' (f_fill _ _ hr (by omega)), bind_some' (f_fill _ _ hr (by omega)), bind_some' (f_chosen _ _ _ hr (by omega) h1)]
  generalize made t0 = R at hr ⊢
  generalize hH : height (t2.getD 0 0) = h at hh ⊢
  generalize hM : h + (t2.getD 1 0).tmod 8 = m
  have hhm : h ≤ m := by omega
  rw [cond_neg (b := cond _ _ _)]
  · cases hc : (chosen R h t1).2 with
    | false => rfl
    | true =>
      have hl := chosen_legal R h t1 hc
      have hb := chosen_bounds R h t1 (by omega)
      have : legal R (chosen R h t1).1 m = true := legalFrom_mono R h m hhm _ 0 hl
      rw [show (!!true) = true from rfl, cond_true, bind_some' (f_legal _ _ _ hr (by omega) hb.1 (by omega)), this]
      rfl
  · cases he : (fill R h).2.2 == 0 with
    | false => rfl
    | true =>
      obtain ⟨g1, g2⟩ := fill_heights R h m hhm (by omega) (by simpa using he)
      rw [g1]
      simp
      omega

/-- Where pages can end, and with how many pages. -/
inductive Reach (R : List S_Row) (h : Int) : Nat → Nat → Prop
  | zero : Reach R h 0 0
  | step {n s e : Nat} : Reach R h n s → s < e → e ≤ R.length → (e : Int) - s ≤ h - 1 → okEnd R e = true → Reach R h (n + 1) e
theorem Reach.le {R : List S_Row} {h : Int} {n e : Nat} (hr : Reach R h n e) : e ≤ R.length := by
  cases hr <;> omega
theorem Reach.legal {R : List S_Row} {h : Int} {n e : Nat} (hr : Reach R h n e) : ∀ L, legalFrom R h e L = true → ∃ L', L'.length = n + L.length ∧ legalFrom R h 0 L' = true := by
  induction hr with
  | zero => intro L hl; exact ⟨L, by omega, hl⟩
  | @step n s e _ h1 h2 h3 h4 ih =>
    intro L hl
    obtain ⟨L', a, b⟩ := ih (e :: L) ((legal_cons R h s e L).2 ⟨(mem_next' R s e h).2 ⟨by omega, by omega, h3, by simpa using h4⟩, hl⟩)
    exact ⟨L', by simp only [List.length_cons] at a; omega, b⟩
theorem Reach.of_legal {R : List S_Row} {h : Int} : ∀ (L : List Int) (f n : Nat), legalFrom R h f L = true → Reach R h n f → Reach R h (n + L.length) R.length
  | [], f, n, hl, hr => by
    simp only [legalFrom, beq_iff_eq] at hl
    rw [show R.length = f from by omega]
    exact hr
  | e :: L, f, n, hl, hr => by
    rw [legal_cons] at hl
    obtain ⟨m, rfl, h1, h2, h3, _, h4⟩ := next_mem hl.1
    have := Reach.of_legal L m (n + 1) hl.2 (.step hr (by omega) h2 h3 h4)
    rw [show n + (((m : Int)) :: L).length = n + 1 + L.length from by simp; omega]
    exact this
/-- The least number of pages that end at `e`, among those whose last page begins before `s`. -/
def BestTo (R : List S_Row) (h : Int) (e s : Nat) (b : Int) : Prop :=
  (b < 0 → b = -1 ∧ ∀ n t, t < s → Reach R h n t → ¬ (t < e ∧ (e : Int) - t ≤ h - 1 ∧ okEnd R e = true)) ∧
  (0 ≤ b → b ≤ e ∧ (∃ t, t < s ∧ Reach R h (b.toNat - 1) t ∧ t < e ∧ (e : Int) - t ≤ h - 1 ∧ okEnd R e = true ∧ 1 ≤ b) ∧ ∀ n t, t < s → Reach R h n t → (t < e ∧ (e : Int) - t ≤ h - 1 ∧ okEnd R e = true) → b ≤ (n : Int) + 1)
def Best (R : List S_Row) (h : Int) (e : Nat) (b : Int) : Prop := (b < 0 → b = -1 ∧ ∀ n, ¬ Reach R h n e) ∧ (0 ≤ b → b ≤ e ∧ Reach R h b.toNat e ∧ ∀ n, Reach R h n e → b ≤ n)
theorem Best.zero (R : List S_Row) (h : Int) : Best R h 0 0 := ⟨fun h => by omega, fun _ => ⟨by omega, .zero, fun n _ => by omega⟩⟩
theorem Best.of {R : List S_Row} {h : Int} {e : Nat} {b : Int} (he : 1 ≤ e) (hl : e ≤ R.length) (hb : BestTo R h e e b) : Best R h e b := by
  refine ⟨fun h0 => ⟨(hb.1 h0).1, fun n hr => ?_⟩, fun h0 => ?_⟩
  · cases hr with
    | zero => omega
    | step h1 h2 h3 h4 h5 => exact (hb.1 h0).2 _ _ h2 h1 ⟨h2, h4, h5⟩
  · obtain ⟨h1, ⟨t, h2, h3, h4, h5, h6, h7⟩, h8⟩ := hb.2 h0
    refine ⟨h1, ?_, fun n hr => ?_⟩
    · have := Reach.step h3 h4 hl h5 h6
      rw [show b.toNat - 1 + 1 = b.toNat from by omega] at this
      exact this
    · cases hr with
      | zero => omega
      | step g1 g2 g3 g4 g5 =>
        have := h8 _ _ g2 g1 ⟨g2, g4, g5⟩
        omega
theorem BestTo.zero (R : List S_Row) (h : Int) (e : Nat) : BestTo R h e 0 (-1) := ⟨fun _ => ⟨rfl, fun n t ht => by omega⟩, fun h => by omega⟩
/-- One more place at which the last page may begin. -/
theorem BestTo.succ {R : List S_Row} {h : Int} {e s : Nat} {b x : Int} (hs : s < e) (hb : BestTo R h e s b) (hx : Best R h s x) :
    BestTo R h e (s + 1) (if x < 0 ∨ h - 1 < (e : Int) - s ∨ okEnd R e = false then b else if b < 0 ∨ x + 1 < b then x + 1 else b) := by
  by_cases hc : x < 0 ∨ h - 1 < (e : Int) - s ∨ okEnd R e = false
  · rw [if_pos hc]
    have key : ∀ n, Reach R h n s → ¬ (s < e ∧ (e : Int) - s ≤ h - 1 ∧ okEnd R e = true) := by
      rintro n hr ⟨h1, h2, h3⟩
      rcases hc with hc | hc | hc
      · exact (hx.1 hc).2 n hr
      · omega
      · rw [hc] at h3; cases h3
    refine ⟨fun h0 => ⟨(hb.1 h0).1, fun n t ht hr => ?_⟩, fun h0 => ?_⟩
    · by_cases hts : t = s
      · subst hts; exact key n hr
      · exact (hb.1 h0).2 n t (by omega) hr
    · obtain ⟨h1, ⟨t, h2, h3⟩, h8⟩ := hb.2 h0
      refine ⟨h1, ⟨t, by omega, h3⟩, fun n t ht hr hy => ?_⟩
      by_cases hts : t = s
      · subst hts; exact absurd hy (key n hr)
      · exact h8 n t (by omega) hr hy
  · rw [if_neg hc]
    have hx0 : 0 ≤ x := by omega
    obtain ⟨x1, x2, x3⟩ := hx.2 hx0
    have hok : okEnd R e = true := by cases h : okEnd R e <;> simp_all
    by_cases hd : b < 0 ∨ x + 1 < b
    · rw [if_pos hd]
      refine ⟨fun h0 => by omega, fun _ => ⟨by omega, ⟨s, by omega, ?_, hs, by omega, hok, by omega⟩, fun n t ht hr hy => ?_⟩⟩
      · rw [show (x + 1).toNat - 1 = x.toNat from by omega]; exact x2
      · by_cases hts : t = s
        · subst hts; have := x3 n hr; omega
        · by_cases hb0 : b < 0
          · exact absurd hy ((hb.1 hb0).2 n t (by omega) hr)
          · have := (hb.2 (by omega)).2.2 n t (by omega) hr hy
            omega
    · rw [if_neg hd]
      have hb0 : 0 ≤ b := by omega
      obtain ⟨h1, ⟨t, h2, h3⟩, h8⟩ := hb.2 hb0
      refine ⟨fun h0 => by omega, fun _ => ⟨h1, ⟨t, by omega, h3⟩, fun n t ht hr hy => ?_⟩⟩
      by_cases hts : t = s
      · subst hts; have := x3 n hr; omega
      · exact h8 n t (by omega) hr hy

theorem fewest_inner (R : List S_Row) (h : Int) (K : (List Int) × Int → Option Int) (B : List Int) (e : Nat) (hr : R.length < 100000) (hh : -100000 < h ∧ h < 100000) (he : 1 ≤ e) (hel : e ≤ R.length) (hB : B.length = e) (hbest : ∀ s, s < e → Best R h s (B.getD s 0)) : ∀ (n s : Nat) (b : Int), s ≤ e → e < n + s → BestTo R h e s b →
    ∃ b', BestTo R h e e b' ∧ iter (fun loop (s : Int × Int) => f_R21_Fewest_b1 R h K B e loop s.1 s.2) n (b, (s : Int)) = K (B ++ [b'], (e : Int) + 1)
  | 0, s, b, h1, h2, hb => by omega
  | n + 1, s, b, h1, h2, hb => by
    rw [iter_succ, f_R21_Fewest_b1]
    dsimp only
    by_cases hs : s < e
    · have hx := hbest s hs
      have hnext := BestTo.succ hs hb hx
      obtain ⟨b', g1, g2⟩ := fewest_inner R h K B e hr hh he hel hB hbest n (s + 1) _ (by omega) (by omega) hnext
      refine ⟨b', g1, ?_⟩
      rw [← g2, cond_pos (by simpa using hs), G_pos (by omega)]
      have hE : B.getD ((s : Int)).toNat 0 = B.getD s 0 := rfl
      rw [hE]
      have hxb : B.getD s 0 ≤ 100000 ∧ -1 ≤ B.getD s 0 := by
        by_cases h0 : B.getD s 0 < 0
        · have := (hx.1 h0).1; omega
        · have := (hx.2 (by omega)).1; omega
      have hbb : b ≤ 100000 ∧ -1 ≤ b := by
        by_cases h0 : b < 0
        · have := (hb.1 h0).1; omega
        · have := (hb.2 (by omega)).1; omega
      generalize B.getD s 0 = x at hx hnext g2 hxb ⊢
      rw [G_imp (fun _ => inR_of (by omega)), G_imp (fun _ => inR_of (by omega)), G_imp (fun _ => inR_of (by omega)), G_imp (fun hc => by simp at hc; omega)]
      have hok : (cond (decide ((e : Int) < (R.length : Int))) ((R.getD ((e : Int) - 1).toNat zS_Row).Keep) false) = !okEnd R e := by
        rw [← ok_end R e he]
        by_cases hlt : e < R.length
        · rw [cond_pos (by simpa using hlt), cond_neg (by simp; omega)]
          simp
        · rw [cond_neg (by simpa using hlt), cond_pos (by simp; omega)]
          rfl
      rw [hok]
      by_cases hc : x < 0 ∨ h - 1 < (e : Int) - s ∨ okEnd R e = false
      · rw [if_pos hc, cond_pos]
        · rw [f_R21_Fewest_k1, G_inR (by omega)]; rfl
        · rcases hc with hc | hc | hc <;> simp [hc]
      · rw [if_neg hc, cond_neg, G_imp (fun _ => inR_of (by omega))]
        · by_cases hd : b < 0 ∨ x + 1 < b
          · rw [if_pos hd, cond_pos, G_inR (by omega), f_R21_Fewest_k1, G_inR (by omega)]
            · rfl
            · rcases hd with hd | hd <;> simp [hd]
          · rw [if_neg hd, cond_neg, f_R21_Fewest_k1, G_inR (by omega)]
            · rfl
            · simp; omega
        · have hok2 : okEnd R e = true := by cases h : okEnd R e <;> simp_all
          rw [hok2]
          simp
          omega
    · have hse : s = e := by omega
      subst hse
      refine ⟨b, hb, ?_⟩
      rw [cond_neg (by simp), G_room (by omega), G_inR (by omega)]
theorem fewest_outer (R : List S_Row) (h : Int) (hr : R.length < 100000) (hh : -100000 < h ∧ h < 100000) : ∀ (n e : Nat) (B : List Int), 1 ≤ e → e ≤ R.length + 1 → R.length + 1 < n + e → B.length = e → (∀ s, s < e → Best R h s (B.getD s 0)) →
    ∃ b, Best R h R.length b ∧ iter (fun loop (s : (List Int) × Int) => f_R21_Fewest_b2 R h loop s.1 s.2) n (B, (e : Int)) = some b
  | 0, e, B, h1, h2, h3, h4, h5 => by omega
  | n + 1, e, B, h1, h2, h3, h4, h5 => by
    rw [iter_succ, f_R21_Fewest_b2]
    dsimp only
    by_cases he : e ≤ R.length
    · rw [cond_pos (by simp; omega)]
      obtain ⟨b', g1, g2⟩ := fewest_inner R h (iter (fun loop (s : (List Int) × Int) => f_R21_Fewest_b2 R h loop s.1 s.2) n) B e hr hh h1 he h4 h5 1000000 0 (-1) (by omega) (by omega) (BestTo.zero R h e)
      have g3 := Best.of h1 he g1
      rw [show ((0 : Nat) : Int) = 0 from rfl] at g2
      rw [g2]
      have := fewest_outer R h hr hh n (e + 1) (B ++ [b']) (by omega) (by omega) (by omega) (by simp [h4]) (fun s hs => ?_)
      · rw [show ((e + 1 : Nat) : Int) = (e : Int) + 1 from by omega] at this
        exact this
      · by_cases hse : s < e
        · rw [List.getD_eq_getElem?_getD, List.getElem?_append_left (by omega), ← List.getD_eq_getElem?_getD]
          exact h5 s hse
        · rw [show s = e from by omega, List.getD_eq_getElem?_getD, List.getElem?_append_right (by omega)]
          simpa [h4] using g3
    · rw [cond_neg (by simp; omega), G_pos (by omega)]
      refine ⟨_, ?_, rfl⟩
      have := h5 R.length (by omega)
      exact this
theorem f_fewest (R : List S_Row) (h : Int) (hr : R.length < 100000) (hh : -100000 < h ∧ h < 100000) : ∃ b, Best R h R.length b ∧ f_R21_Fewest R h = some b := by
  have := fewest_outer R h hr hh 1000000 1 [0] (by omega) (by omega) (by omega) rfl (fun s hs => by rw [show s = 0 from by omega]; exact Best.zero R h)
  exact this

theorem law_fills (t0 : List Int) (t1 : Int) (h1 : 0 ≤ t1 ∧ t1 ≤ 255) : f_L21_PageFills t0 t1 = some true := by
  have hh := height_bounds _ h1
  have hr := made_lt t0
  unfold f_L21_PageFills
  rw [bind_some' sanity_true, bind_some' (f_made t0), bind_some' (f_height _ h1), bind_some' (f_fill _ _ hr (by omega))]
  obtain ⟨b, hb, hf⟩ := f_fewest (made t0) (height t1) hr (by omega)
  rw [bind_some' hf]
  generalize made t0 = R at hr hb hf ⊢
  generalize height t1 = h at hh hb hf ⊢
  have hfe : fill R h = match (fillR R h).2 with | none => ((fillR R h).1, 0, 0) | some f => ([], (f : Int), 210) := by
    unfold fill; rw [if_neg (by omega)]; cases (fillR R h).2 <;> rfl
  cases hx : (fillR R h).2 with
  | some g =>
    have hfg : fill R h = ([], (g : Int), 210) := by rw [hfe, hx]
    obtain ⟨hg1, hg2⟩ := fillGo_stuck R h _ _ _ hx
    have hbneg : b < 0 := by
      by_cases h0 : b < 0
      · exact h0
      · exfalso
        obtain ⟨_, hre, _⟩ := hb.2 (by omega)
        obtain ⟨L, _, hL⟩ := hre.legal [] (by simp [legalFrom])
        have := (greedy R h h (Int.le_refl _) L 0 0 (R.length + 1) hL (Nat.le_refl _) (by omega) (by omega)).1
        unfold fillR at hx
        rw [this] at hx
        cases hx
    rw [hfg]
    rw [cond_pos (by rfl)]
    have hnx : f_R21_Next R (g : Int) h = some [] := by rw [f_refNext R g h hr (by omega) (by omega), hg2]
    dsimp only
    simp only [hnx, hbneg, decide_true]
    have h5 : (g : Int) < R.length := by omega
    simp [h5]
  | none =>
    have hfg : fill R h = ((fillR R h).1, 0, 0) := by rw [hfe, hx]
    have hlegal : legalFrom R h ((0 : Nat) : Int) (fillR R h).1 = true := fillGo_legal R h h (Int.le_refl _) (R.length + 1) 0 (by omega) (by omega) hx
    have hlen : (fillR R h).1.length ≤ R.length := legal_len R _ h hlegal
    have hsm := legal_small R _ h (by omega) hlegal
    have hbl : ((fillR R h).1.length : Int) = b := by
      have hre := Reach.of_legal _ 0 0 hlegal (.zero)
      rw [Nat.zero_add] at hre
      have h0 : 0 ≤ b := by
        by_cases h0 : b < 0
        · exact absurd hre ((hb.1 h0).2 _)
        · omega
      obtain ⟨_, hre2, hmin⟩ := hb.2 h0
      obtain ⟨L, hL1, hL⟩ := hre2.legal [] (by simp [legalFrom])
      have hg : (fillR R h).1.length ≤ L.length := (greedy R h h (Int.le_refl _) L 0 0 (R.length + 1) hL (Nat.le_refl _) (by omega) (by omega)).2
      have := hmin _ hre
      simp only [List.length_nil, Nat.add_zero] at hL1
      omega
    have hl2 : legal R (fillR R h).1 h = true := hlegal
    rw [hfg]
    dsimp only
    rw [cond_neg (by rfl), bind_some' (f_refLegal R _ h hr (by omega) hsm (by omega)), hl2, cond_true, bind_some' (f_legal R _ h hr (by omega) hsm (by omega)), hl2]
    simp [hbl]
end Go.Proofs.Ythfdgicfcjkfgaa
