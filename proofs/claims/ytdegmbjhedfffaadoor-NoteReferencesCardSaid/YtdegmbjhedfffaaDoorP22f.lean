/-
  Own work. Chapter 22, plain part: the laws NoteReferences, NoteStripMatchesReference, NoteUnique.
-/
import Derived.Test.YtdegmbjhedfffaaDoorP22e
set_option linter.unusedSimpArgs false
set_option linter.unusedVariables false
set_option maxRecDepth 100000
set_option linter.unusedSimpArgs false
set_option linter.unusedVariables false
namespace Go.Proofs.YtdegmbjhedfffaaDoor
open Go.Abs
def wordB (w : List Int) : Prop := ∀ c ∈ w, 1 ≤ c ∧ c ≤ 62
theorem wordB.w {w : List Int} (h : wordB w) : ∀ c ∈ w, c ≠ 0 ∧ c < 64 := fun c hc => by have := h c hc; omega
theorem wordB.n {w : List Int} (h : wordB w) : (63 : Int) ∉ w := fun hc => by have := h 63 hc; omega
theorem made_cell (x : Int) (h : 0 ≤ x) : 1 ≤ IntKind.wrap .u8 (1 + Int.tmod x 62) ∧ IntKind.wrap .u8 (1 + Int.tmod x 62) ≤ 62 := by
  have h1 := Int.emod_nonneg x (show (62 : Int) ≠ 0 by omega)
  have h2 := Int.emod_lt_of_pos x (show (0 : Int) < 62 by omega)
  rw [Int.tmod_eq_emod_of_nonneg h, wrap_u8 (by omega)]
  omega
theorem made_inner (t : List (List Int)) (loop3 : (List Int) × Int → Option (List Int)) (i : Nat) (L : List Int) (hL : t.getD i [] = L) (hb : ∀ x ∈ L, 0 ≤ x) (base : List Int) (hbl : base.length < 1000) (hi : i < 1000) : ∀ (n k : Nat) (w : List Int), 4 < n + k → k ≤ 4 → k ≤ L.length → w.length = k → wordB w →
    ∃ w', w'.length ≤ 4 ∧ (L ≠ [] → w' ≠ []) ∧ wordB w' ∧ iter (fun loop (s : (List Int) × Int) => f_R22_Made_b1 t loop3 (i : Int) loop s.1 s.2) n (base ++ w, (k : Int)) = loop3 (base ++ w', ((i + 1 : Nat) : Int))
  | 0, k, w, h1, h2, h3, h4, h5 => by omega
  | n + 1, k, w, h1, h2, h3, h4, h5 => by
    rw [iter_succ]
    dsimp only
    rw [f_R22_Made_b1, Int.toNat_natCast, hL]
    by_cases h : k < L.length ∧ k < 4
    · rw [cond_pos (by rw [and_tt]; simp; omega), G_pos (by omega), G_room (by simp; omega), G_inR (by omega), Int.toNat_natCast, show (k : Int) + 1 = ((k + 1 : Nat) : Int) from by omega, List.append_assoc]
      have hm := made_cell (L.getD k 0) (hb _ (getD_mem L k h.1))
      exact made_inner t loop3 i L hL hb base hbl hi n (k + 1) _ (by omega) (by omega) (by omega) (by simp [h4]) (fun c hc => by
        rcases List.mem_append.1 hc with hc | hc
        · exact h5 c hc
        · rw [List.mem_singleton] at hc
          rw [hc]; exact hm)
    · rw [cond_neg (by rw [and_tt]; simp; omega), f_R22_Made_k1, G_inR (by omega)]
      refine ⟨w, by omega, fun hne => ?_, h5, rfl⟩
      have : 0 < L.length := List.length_pos_iff.2 hne
      exact List.ne_nil_of_length_pos (by omega)
theorem made_outer (t : List (List Int)) (hb : ∀ L ∈ t, ∀ x ∈ L, 0 ≤ x) : ∀ (n i : Nat) (v : List Int), 5 < n + i → i ≤ 5 → i ≤ t.length → v.length ≤ 1 + 5 * i → cl v = true → (63 : Int) ∉ v →
    ∃ c, iter (fun loop (s : (List Int) × Int) => f_R22_Made_b2 t 5 loop s.1 s.2) n (v, (i : Int)) = some c ∧ plB c = true ∧ c.length ≤ 100
  | 0, i, v, h1, h2, h3, h4, h5, h6 => by omega
  | n + 1, i, v, h1, h2, h3, h4, h5, h6 => by
    rw [iter_succ]
    dsimp only
    rw [f_R22_Made_b2]
    by_cases h : i < t.length ∧ i < 5
    · rw [cond_pos (by rw [and_tt]; simp; omega), G_pos (by omega), Int.toNat_natCast]
      generalize hL : t.getD i [] = L
      have hLm : ∀ x ∈ L, 0 ≤ x := by
        rw [List.getD_eq_getElem?_getD, List.getElem?_eq_getElem h.1] at hL
        exact hb L (by rw [← hL]; exact List.getElem_mem h.1)
      by_cases h0 : L.length = 0
      · rw [cb_pos (by omega), f_R22_Made_k1, G_inR (by omega), show (i : Int) + 1 = ((i + 1 : Nat) : Int) from by omega]
        exact made_outer t hb n (i + 1) v (by omega) (by omega) (by omega) (by omega) h5 h6
      · have hne : L ≠ [] := fun e => h0 (by rw [e]; rfl)
        rw [cb_neg (by omega), cond_dec]
        split
        · rw [G_room (by omega), f_R22_Made_k2]
          obtain ⟨w', g1, g2, g3, g4⟩ := made_inner t (iter (fun loop (s : (List Int) × Int) => f_R22_Made_b2 t 5 loop s.1 s.2) n) i L hL hLm (v ++ [0]) (by simp; omega) (by omega) 1000000 0 [] (by omega) (by omega) (by omega) rfl (fun c hc => by simp at hc)
          rw [List.append_nil] at g4
          have hw := g2 hne
          have := made_outer t hb n (i + 1) ((v ++ [0]) ++ w') (by omega) (by omega) (by omega) (by simp; omega) (by
            unfold cl at h5 ⊢
            rw [List.append_assoc, scan_app _ _ _ h5, List.singleton_append, scan, scan_word' _ w' hw g3.w]; rfl) (by
            rw [List.mem_append, List.mem_append]
            rintro ((e | e) | e)
            · exact h6 e
            · exact absurd e (by decide)
            · exact g3.n e)
          rw [← g4] at this
          exact this
        · rw [f_R22_Made_k2]
          obtain ⟨w', g1, g2, g3, g4⟩ := made_inner t (iter (fun loop (s : (List Int) × Int) => f_R22_Made_b2 t 5 loop s.1 s.2) n) i L hL hLm v (by omega) (by omega) 1000000 0 [] (by omega) (by omega) (by omega) rfl (fun c hc => by simp at hc)
          rw [List.append_nil] at g4
          have hw := g2 hne
          have := made_outer t hb n (i + 1) (v ++ w') (by omega) (by omega) (by omega) (by simp; omega) (by
            unfold cl at h5 ⊢
            rw [scan_app _ _ _ h5, scan_word' _ w' hw g3.w]) (by
            rw [List.mem_append]
            rintro (e | e)
            · exact h6 e
            · exact g3.n e)
          rw [← g4] at this
          exact this
    · rw [cond_neg (by rw [and_tt]; simp; omega)]
      exact ⟨v, rfl, (plB_iff _).2 ⟨h5, h6⟩, by omega⟩
theorem f_made {t : List (List Int)} (ht : okList (okList (okInt .u8)) t) : ∃ c, f_R22_Made t 5 = some c ∧ plB c = true ∧ c.length ≤ 100 := by
  unfold f_R22_Made
  have hw : ∀ x : Int, 0 ≤ IntKind.wrap .u8 x ∧ IntKind.wrap .u8 x ≤ 255 := fun x => by
    unfold IntKind.wrap; simp [IntKind.bits, IntKind.signed] <;> omega
  have h0 := (hw (t.length : Int)).1
  have h1 := Int.emod_nonneg (IntKind.wrap .u8 (t.length : Int)) (show (61 : Int) ≠ 0 by omega)
  have h2 := Int.emod_lt_of_pos (IntKind.wrap .u8 (t.length : Int)) (show (0 : Int) < 61 by omega)
  rw [Int.tmod_eq_emod_of_nonneg h0, wrap_u8 (by omega)]
  generalize IntKind.wrap .u8 (t.length : Int) % 61 = x at h1 h2
  have hwb : wordB [1 + x] := fun c hc => by rw [List.mem_singleton] at hc; omega
  exact made_outer t (fun L hL x hx => ((ht.1 L hL).1 x hx).1) 1000000 0 [1 + x] (by omega) (by omega) (by omega) (by simp) (scan_word' _ _ (by simp) hwb.w) hwb.n
/-- Numbers from f on. -/
def run0 (f : Int) : Nat → List Int
  | 0 => []
  | m + 1 => f :: run0 (f + 1) m
theorem run0_len (f : Int) (m : Nat) : (run0 f m).length = m := by
  induction m generalizing f with
  | zero => rfl
  | succ m ih => rw [run0, List.length_cons, ih]
theorem run0_snoc (f : Int) (m : Nat) : run0 f (m + 1) = run0 f m ++ [f + (m : Int)] := by
  induction m generalizing f with
  | zero => simp [run0]
  | succ m ih =>
    rw [run0, ih (f + 1), run0]
    simp
    omega
theorem run0_ok : ∀ (m : Nat) (f : Int) (p : Option Int), 1 ≤ f → f + (m : Int) ≤ 100000 → (∀ q, p = some q → f = q + 1) → okF p (run0 f m) = true
  | 0, f, p, h1, h2, h3 => rfl
  | m + 1, f, p, h1, h2, h3 => by
    rw [run0, okF, run0_ok m (f + 1) (some f) (by omega) (by omega) (fun q hq => by cases hq; rfl), decide_eq_true h1, decide_eq_true (show f ≤ 99999 by omega)]
    cases p with
    | none => rfl
    | some q => rw [Option.all_some, decide_eq_true (h3 q rfl)]; rfl
theorem dec_run (c : List Int) (hc : plB c = true) (f : Int) (m : Nat) (h1 : 1 ≤ f) (h2 : f + (m : Int) ≤ 100000) : decS (c ++ tl (run0 f m)) c (run0 f m) := ⟨hc, run0_ok m f none h1 h2 (fun q hq => by cases hq), rfl⟩
theorem nr_loop (t1 t2 : Int) (c : List Int) (hc : plB c = true) (hcl : c.length ≤ 100) (k : Nat) (hk : k ≤ 6) (hk2 : IntKind.wrap .i64 (Int.tmod t2 7) = (k : Int)) (f : Int) (hf : IntKind.wrap .i64 (Int.tmod t1 99990) = f) (hf1 : 0 ≤ f) (hf2 : f < 99990) : ∀ (n i : Nat), k < n + i → i ≤ k →
    iter (fun loop (s : (List Int) × Int) => f_L22_NoteReferences_b1 t1 t2 true c loop s.1 s.2) n (run0 (1 + f) i, (i : Int)) = some true
  | 0, i, h1, h2 => by omega
  | n + 1, i, h1, h2 => by
    rw [iter_succ]
    dsimp only
    rw [f_L22_NoteReferences_b1, hk2, hf]
    by_cases h : i < k
    · rw [cond_pos (by simp; omega), G_inR (by omega), G_inR (by omega), G_room (by rw [run0_len]; omega), G_inR (by omega), show (i : Int) + 1 = ((i + 1 : Nat) : Int) from by omega, ← run0_snoc]
      exact nr_loop t1 t2 c hc hcl k hk hk2 f hf hf1 hf2 n (i + 1) (by omega) (by omega)
    · obtain rfl : i = k := by omega
      have hd := dec_run c hc (1 + f) i (by omega) (by omega)
      have hd0 := dec_run c hc 1 0 (by omega) (by omega)
      have hl := run0_len (1 + f) i
      have htl := tl_len (run0 (1 + f) i)
      have htl2 := okF_len_tl (run0 (1 + f) i)
      rw [cond_neg (by simp), bind_some' (f_refer c _ (by omega) (by omega)), bind_some' (f_refer c [] (by omega) (by simp)), hd.refer]
      have e0 : refS c [] = (c, 0) := by
        have := hd0.refer
        rw [show run0 1 0 = [] from rfl, tl_nil, List.append_nil] at this
        exact this
      rw [e0]
      dsimp only
      rw [bind_some' (a := true) (by rw [cond_pos (by rfl)]; exact same_self c (by omega))]
      rw [G_pos (fun _ => by unfold inR; omega), G_pos (fun _ => by unfold inR; omega), G_pos (fun _ => by unfold inR; omega), G_pos (fun _ => by unfold inR; omega)]
      rw [cond_neg (b := cond _ _ _) (by
        rw [decide_eq_false (show ¬ (((c ++ tl (run0 (1 + f) i)).length : Int) < (c.length : Int) + 4 * ((run0 (1 + f) i).length : Int)) by simp; omega), decide_eq_false (show ¬ ((c.length : Int) + 8 * ((run0 (1 + f) i).length : Int) < ((c ++ tl (run0 (1 + f) i)).length : Int)) by simp; omega)]
        rfl)]
      rw [bind_some' (note_dec hd (by simp; omega))]
      dsimp only
      rw [bind_some' (a := true) (by rw [cond_pos (by rfl)]; exact same_self c (by omega)), bind_some' (a := true) (by rw [cond_pos (by rfl)]; exact ints_self _ (by omega))]
      rfl
theorem plain_NoteReferences {t0 : List (List Int)} {t1 t2 : Int} (h0 : okList (okList (okInt .u8)) t0) (h1 : okInt .u32 t1) (h2 : okInt .u8 t2) : f_L22_NoteReferences t0 t1 t2 = some true := by
  unfold f_L22_NoteReferences
  obtain ⟨c, hc, hp, hl⟩ := f_made h0
  rw [bind_some' sanity_true, bind_some' hc]
  obtain ⟨a1, a2, a3⟩ := wrap_rem (n := t1) (m := 99990) h1.1 (by omega) (by omega)
  obtain ⟨b1, b2, b3⟩ := wrap_rem (n := t2) (m := 7) h2.1 (by omega) (by omega)
  exact nr_loop t1 t2 c hp hl (t2 % 7).toNat (by omega) (by rw [b1]; omega) (t1 % 99990) a1 a2 a3 1000000 0 (by omega) (by omega)
theorem sm_last (v8 v16 x26 : List Int) (h8 : v8.length ≤ 4) (h16 : v16.length ≤ 1000) (h26 : x26.length ≤ 1000) : ∀ (n k : Nat), 2 < n + k → k ≤ 2 →
    iter (fun loop (s : Int) => f_L22_NoteStripMatchesReference_b1 true v8 v16 x26 loop s) n (k : Int) = some true
  | 0, k, h1, h2 => by omega
  | n + 1, k, h1, h2 => by
    rw [iter_succ, f_L22_NoteStripMatchesReference_b1]
    by_cases h : k < 2
    · obtain ⟨L, hL, hLl⟩ : ∃ L, [v16, x26].getD k [] = L ∧ L.length ≤ 1000 := by
        match k, h with
        | 0, _ => exact ⟨v16, rfl, h16⟩
        | 1, _ => exact ⟨x26, rfl, h26⟩
      obtain ⟨x, hx, hy, _, hx1, hx2⟩ := strip_eq L hLl
      have hr := refS_len L v8
      rw [cond_pos (by simp; omega), G_pos (by simp; omega), Int.toNat_natCast, hL, bind_some' hx, bind_some' hy, bind_some' (f_refer L v8 (by omega) (by omega)), bind_some' (f_refRefer L v8 (by omega) (by omega))]
      rw [bind_some' (same_self x.1 (by omega)), bind_some' (a := true) (by rw [cond_pos (by rfl)]; exact ints_self _ (by omega))]
      have e1 : (x.2.2 != x.2.2) = false := bne_self_eq_false _
      have e2 : ((refS L v8).2 != (refS L v8).2) = false := bne_self_eq_false _
      rw [e1, e2, bind_some' (a := true) (by rw [cond_pos (by rfl)]; exact same_self _ (by omega)), cond_neg (b := cond _ _ _) (by rfl), G_inR (by omega), show (k : Int) + 1 = ((k + 1 : Nat) : Int) from by omega]
      exact sm_last v8 v16 x26 h8 h16 h26 n (k + 1) (by omega) (by omega)
    · rw [cond_neg (by simp; omega)]
theorem tmod_idx (x : Int) (m : Nat) (hx : 0 ≤ x) (hm : 0 < m) : 0 ≤ Int.tmod x (m : Int) ∧ Int.tmod x (m : Int) < (m : Int) := by
  rw [Int.tmod_eq_emod_of_nonneg hx]
  exact ⟨Int.emod_nonneg x (by omega), Int.emod_lt_of_pos x (by omega)⟩
theorem f_cells30 (t : List Int) : ∃ r, f_R01_Cells t 30 = some r ∧ r.length ≤ 30 := ⟨_, f_cells t 30 (by omega), by simp; omega⟩
theorem sm_mid (t2 : List Int) (ht : okList (okInt .u8) t2) (v8 : List Int) (h8 : v8.length ≤ 4) : ∀ (n i : Nat) (v16 : List Int), 6 < n + i → i ≤ 6 → 0 < v16.length → v16.length ≤ 1000 →
    iter (fun loop (s : (List Int) × Int) => f_L22_NoteStripMatchesReference_b2 t2 true v8 loop s.1 s.2) n (v16, (i : Int)) = some true
  | 0, i, v16, h1, h2, h3, h4 => by omega
  | n + 1, i, v16, h1, h2, h3, h4 => by
    rw [iter_succ]
    dsimp only
    rw [f_L22_NoteStripMatchesReference_b2, G_inR (by omega)]
    by_cases h : i + 1 < t2.length ∧ i < 4
    · have hx := (ht.1 _ (getD_mem t2 i (by omega))).1
      have hx2 := (ht.1 _ (getD_mem t2 i (by omega))).2
      have hi := tmod_idx (t2.getD i 0) v16.length hx h3
      rw [cond_pos (by rw [and_tt]; simp; omega), G_pos (by omega), G_pos (by omega), G_pos (by omega), Int.toNat_natCast, wrap_i64 (by omega), G_pos hi, G_inR (by omega), show (i : Int) + 2 = ((i + 2 : Nat) : Int) from by omega]
      exact sm_mid t2 ht v8 h8 n (i + 2) _ (by omega) (by omega) (by simpa using h3) (by simpa using h4)
    · obtain ⟨r, hr, hrl⟩ := f_cells30 t2
      rw [cond_neg (by rw [and_tt]; simp; omega), bind_some' hr]
      exact sm_last v8 v16 _ h8 h4 (by omega) 1000000 0 (by omega) (by omega)
theorem sm_first (t1 t2 : List Int) (ht : okList (okInt .u8) t2) (h4 : t1.length ≤ 4) (c : List Int) (hc : plB c = true) (hcl : c.length ≤ 100) : ∀ (n i : Nat), t1.length < n + i → i ≤ t1.length →
    iter (fun loop (s : (List Int) × Int) => f_L22_NoteStripMatchesReference_b3 t1 t2 true c loop s.1 s.2) n (run0 7 i, (i : Int)) = some true
  | 0, i, h1, h2 => by omega
  | n + 1, i, h1, h2 => by
    rw [iter_succ]
    dsimp only
    rw [f_L22_NoteStripMatchesReference_b3]
    by_cases h : i < t1.length
    · rw [cond_pos (by simp; omega), G_inR (by omega), G_room (by rw [run0_len]; omega), G_inR (by omega), show (i : Int) + 1 = ((i + 1 : Nat) : Int) from by omega, ← run0_snoc]
      exact sm_first t1 t2 ht h4 c hc hcl n (i + 1) (by omega) (by omega)
    · have hd := dec_run c hc 7 i (by omega) (by omega)
      have hl := run0_len 7 i
      have htl := tl_len (run0 7 i)
      have hpos : 0 < c.length := by
        rcases Nat.eq_zero_or_pos c.length with e | e
        · rw [List.length_eq_zero_iff.1 e] at hc
          exact absurd hc (by decide)
        · exact e
      rw [cond_neg (by simp; omega), bind_some' (f_refRefer c _ (by omega) (by omega)), hd.refer]
      exact sm_mid t2 ht _ (by omega) 1000000 0 _ (by omega) (by omega) (by simp; omega) (by simp; omega)
theorem plain_NoteStripMatchesReference {t0 : List (List Int)} {t1 t2 : List Int} (h0 : okList (okList (okInt .u8)) t0) (h1 : okList (okInt .i64) t1) (h2 : okList (okInt .u8) t2) : f_L22_NoteStripMatchesReference t0 t1 t2 = some true := by
  unfold f_L22_NoteStripMatchesReference
  rw [bind_some' sanity_true]
  by_cases h : 4 < t1.length
  · rw [cond_pos (by simp; omega)]
  · obtain ⟨c, hc, hp, hl⟩ := f_made h0
    have hr := refS_len c t1
    have e2 : ((refS c t1).2 != (refS c t1).2) = false := bne_self_eq_false _
    rw [cond_neg (by simp; omega), bind_some' hc, bind_some' (f_refer c t1 (by omega) (by omega)), bind_some' (f_refRefer c t1 (by omega) (by omega)), bind_some' (same_self _ (by omega)), e2, cond_neg (b := cond _ _ _) (by rfl)]
    exact sm_first t1 t2 h2 (by omega) c hp hl 1000000 0 (by omega) (by omega)
theorem nu_loop (t2 : List Int) (x6 : List Int × Int) (x11 A : List Int) (hA : (([] : List Int) ++ x6.1).set (Int.tmod (IntKind.wrap .i64 (t2.getD 1 0)) (((([] : List Int) ++ x6.1).length : Nat) : Int)).toNat (Int.tmod (t2.getD 2 0) 64) = A) (hAl : A.length ≤ 1000) (h11 : x11.length ≤ 1000) : ∀ (n k : Nat), 2 < n + k → k ≤ 2 →
    iter (fun loop (s : Int) => f_L22_NoteUnique_b1 t2 true x6 x11 loop s) n (k : Int) = some true
  | 0, k, h1, h2 => by omega
  | n + 1, k, h1, h2 => by
    rw [iter_succ, f_L22_NoteUnique_b1, hA]
    by_cases h : k < 2
    · obtain ⟨L, hL, hLl⟩ : ∃ L, [A, x11].getD k [] = L ∧ L.length ≤ 1000 := by
        match k, h with
        | 0, _ => exact ⟨A, rfl, hAl⟩
        | 1, _ => exact ⟨x11, rfl, h11⟩
      have ih := nu_loop t2 x6 x11 A hA hAl h11 n (k + 1) (by omega) (by omega)
      obtain ⟨x, hx, _, hd, hx1, hx2⟩ := strip_eq L hLl
      rw [cond_pos (by simp; omega), G_pos (by simp; omega), Int.toNat_natCast, hL, bind_some' hx]
      by_cases h0 : x.2.2 = 0
      · have hdec := hd h0
        have hself : decS x.1 x.1 [] := ⟨hdec.1, rfl, by rw [tl_nil, List.append_nil]⟩
        rw [cn_neg h0, bind_some' (f_refer x.1 x.2.1 (by omega) hx2), bind_some' (note_dec hself hx1), hdec.refer]
        dsimp only
        rw [bind_some' (a := true) (by rw [cond_pos (by rfl)]; exact same_self _ (by omega)), bind_some' (a := true) (by rw [cond_pos (by rfl)]; exact same_self _ (by omega)), cond_neg (b := cond _ _ _) (by rfl), f_L22_NoteUnique_k1, G_inR (by omega)]
        exact ih
      · rw [cn_pos h0, f_L22_NoteUnique_k1, G_inR (by omega)]
        exact ih
    · rw [cond_neg (by simp; omega)]
theorem plain_NoteUnique {t0 : List (List Int)} {t1 t2 : List Int} (h0 : okList (okList (okInt .u8)) t0) (h1 : okList (okInt .u8) t1) (h2 : okArr 3 (okInt .u8) t2) : f_L22_NoteUnique t0 t1 t2 = some true := by
  unfold f_L22_NoteUnique
  obtain ⟨c, hc, hp, hl⟩ := f_made h0
  have a0 := h2.1 _ (getD_mem t2 0 (by rw [h2.2]; omega))
  have a1 := h2.1 _ (getD_mem t2 1 (by rw [h2.2]; omega))
  have b0 : 0 ≤ t2.getD 0 0 ∧ t2.getD 0 0 ≤ 255 := a0
  have b1 : 0 ≤ t2.getD 1 0 ∧ t2.getD 1 0 ≤ 255 := a1
  rw [bind_some' sanity_true, wrap_i64 (n := t2.getD 0 0) (by omega), G_inR (by omega), bind_some' hc, G_inR (by omega), G_inR (by omega)]
  have er : [1 + t2.getD 0 0, (1 + t2.getD 0 0) + 1, (1 + t2.getD 0 0) + 2] = run0 (1 + t2.getD 0 0) 3 := by
    simp [run0]
    omega
  have hd := dec_run c hp (1 + t2.getD 0 0) 3 (by omega) (by omega)
  have htl := tl_len (run0 (1 + t2.getD 0 0) 3)
  have hrl := run0_len (1 + t2.getD 0 0) 3
  have hpos : 0 < c.length := by
    rcases Nat.eq_zero_or_pos c.length with e | e
    · rw [List.length_eq_zero_iff.1 e] at hp
      exact absurd hp (by decide)
    · exact e
  rw [er, bind_some' (f_refer c _ (by omega) (by omega)), hd.refer]
  dsimp only
  have hAl : (c ++ tl (run0 (1 + t2.getD 0 0) 3)).length ≤ 1000 := by rw [List.length_append]; omega
  have hAp : 0 < (c ++ tl (run0 (1 + t2.getD 0 0) 3)).length := by rw [List.length_append]; omega
  generalize c ++ tl (run0 (1 + t2.getD 0 0) 3) = A0 at hAl hAp
  have hi := tmod_idx (t2.getD 1 0) A0.length b1.1 hAp
  obtain ⟨r, hr, hrl2⟩ := f_cells30 t1
  rw [cond_neg (b := cond _ _ _) (by
    rw [show (((0 : Int) != 0)) = false from rfl, cond_neg rfl]
    exact beq_eq_false_iff_ne.2 (by omega)), G_room (by simp; omega), G_pos (by rw [List.nil_append]; omega), wrap_i64 (n := t2.getD 1 0) (by omega), G_pos (by rw [List.nil_append]; exact hi), bind_some' hr]
  exact nu_loop t2 (A0, 0) _ _ rfl (by simpa using hAl) (by omega) 1000000 0 (by omega) (by omega)
end Go.Proofs.YtdegmbjhedfffaaDoor
