/-
  Own work. Chapter 22, plain part: the reference's reading; both agree.
-/
import Derived.Test.YtdegmbjhedfffaaDoorP22d
set_option linter.unusedSimpArgs false
set_option linter.unusedVariables false
set_option maxRecDepth 100000
set_option linter.unusedSimpArgs false
set_option linter.unusedVariables false
namespace Go.Proofs.YtdegmbjhedfffaaDoor
open Go.Abs
theorem scan_app : ∀ (z : Bool) (a b : List Int), scan z a = true → scan z (a ++ b) = scan false b
  | z, [], b, h => by
    have : z = false := by simpa [scan] using h
    rw [this]; rfl
  | z, c :: a, b, h => by
    rw [scan] at h
    simp only [Bool.and_eq_true] at h
    rw [List.cons_append, scan, h.1.1, h.1.2, scan_app _ a b h.2]
    rfl
theorem scan_word : ∀ (w : List Int), (∀ c ∈ w, c ≠ 0 ∧ c < 64) → scan false w = true
  | [], _ => rfl
  | c :: w, h => by
    have h1 := h c (by simp)
    rw [scan, decide_eq_true h1.2, decide_eq_false h1.1, scan_word w fun d hd => h d (by simp [hd])]
    rfl
theorem scan_word' (z : Bool) (w : List Int) (hne : w ≠ []) (h : ∀ c ∈ w, c ≠ 0 ∧ c < 64) : scan z w = true := by
  cases w with
  | nil => exact absurd rfl hne
  | cons c w =>
    have h1 := h c (by simp)
    rw [scan, decide_eq_true h1.2, decide_eq_false h1.1, scan_word w fun d hd => h d (by simp [hd])]
    simp
theorem wr_word (n : Nat) : ∀ c ∈ wr n, c ≠ 0 ∧ c < 64 := fun c hc => ⟨(wr_cells n c hc).2.1, (wr_cells n c hc).2.2.2⟩
theorem scan_tl : ∀ ns : List Int, scan false (tl ns) = true
  | [] => rfl
  | n :: r => by
    rw [tl_cons, scan, scan, show decide ((63 : Int) = 0) = false from rfl, scan_app _ _ _ (scan_word _ (wr_word _)), scan_tl r]
    rfl
theorem plB_iff (l : List Int) : plB l = true ↔ cl l = true ∧ (63 : Int) ∉ l := by unfold plB; simp
theorem decS.clean {l text ns : List Int} (h : decS l text ns) : cl l = true := by
  obtain ⟨h1, _, h3⟩ := h
  have := ((plB_iff _).1 h1).1
  unfold cl at this ⊢
  rw [h3, scan_app _ _ _ this, scan_tl]
theorem decS.len {l text ns : List Int} (h : decS l text ns) : text.length ≤ l.length ∧ ns.length * 4 ≤ l.length := by
  have := okF_len_tl ns
  rw [h.2.2, List.length_append]
  omega
theorem decS.refer {l text ns : List Int} (h : decS l text ns) : refS text ns = (l, 0) := by
  unfold refS
  rw [if_pos h.1, if_pos h.2.1, h.2.2]
theorem decS_of {l text ns : List Int} (h : refS text ns = (l, 0)) : decS l text ns := by
  unfold refS at h
  split at h
  · rename_i h1
    split at h
    · rename_i h2
      exact ⟨h1, h2, (Prod.mk.inj h).1.symm⟩
    · have := (Prod.mk.inj h).2; omega
  · have := (Prod.mk.inj h).2; omega
theorem note_dec {l text ns : List Int} (h : decS l text ns) (hl : l.length ≤ 1000) : f_note_Strip l = some (text, ns, 0) := by
  have hc := h.clean
  have hlen := h.len
  unfold f_note_Strip
  obtain ⟨k, hk⟩ := f_clean l (by omega)
  rw [bind_some' hk]
  dsimp only
  rw [hc, cond_neg (by rfl)]
  have h3 := h.2.2
  subst h3
  have := strip_dec text h.1 ns.length ns [] 1000000 rfl (by omega) (by omega) (by simp; omega) hc (by simpa using h.2.1)
  rw [List.append_nil] at this
  exact this
theorem note_180 {l : List Int} (h : cl l = false) (hl : l.length ≤ 1000) : f_note_Strip l = some ([], [], 180) := by
  unfold f_note_Strip
  obtain ⟨k, hk⟩ := f_clean l (by omega)
  rw [bind_some' hk]
  dsimp only
  rw [h, cond_pos (by rfl)]
/-- The end of the reference's reading. -/
def finR (l text ns : List Int) : Option (List Int × List Int × Int) := some (if refS text ns = (l, 0) then (text, ns, 0) else ([], [], 220))
theorem tl_len : ∀ ns : List Int, (tl ns).length ≤ 8 * ns.length
  | [] => by simp [tl]
  | n :: r => by
    have := wr_len n.toNat
    have := tl_len r
    rw [tl_cons]
    simp
    omega
theorem refS_len (l ns : List Int) : (refS l ns).1.length ≤ l.length + 8 * ns.length := by
  unfold refS
  split
  · split
    · have := tl_len ns
      simp
      omega
    · simp
  · simp
theorem fin_eq (l text ns : List Int) (h1 : text.length ≤ 1000) (h2 : ns.length ≤ 1000) :
    ((f_R22_Refer text ns).bind fun x23 => (cond (!(x23.2 != 0)) (f_R01_Same x23.1 l) (some false)).bind fun x24 => cond (cond (x23.2 != 0) true (!x24)) (some ([], [], 220)) (some (text, ns, 0))) = finR l text ns := by
  rw [bind_some' (f_refRefer text ns (by omega) h2)]
  unfold finR
  have hlen := refS_len text ns
  by_cases h0 : (refS text ns).2 = 0
  · have e1 : ((refS text ns).2 != 0) = false := by rw [h0]; rfl
    rw [e1, cond_pos (b := !false) (by rfl), f_same _ _ (by omega), bind_some' rfl]
    by_cases he : (refS text ns).1 = l
    · rw [if_pos (Prod.ext he h0), decide_eq_true he]
      rfl
    · rw [if_neg (fun e => he (congrArg Prod.fst e)), decide_eq_false he]
      rfl
  · have e1 : ((refS text ns).2 != 0) = true := bne_iff_ne.2 h0
    rw [e1, bind_some' (a := false) (by rfl), if_neg (fun e => h0 (congrArg Prod.snd e))]
    rfl
abbrev rLoop (l text : List Int) (n : Nat) (s : List Int × Int) : Option (List Int × List Int × Int) := iter (fun loop (s : (List Int) × Int) => f_R22_Strip_b1 l text loop s.1 s.2) n s
theorem r_end (l text v : List Int) (i n : Nat) (hi : l.length ≤ i) (hn : 0 < n) (h1 : text.length ≤ 1000) (h2 : v.length ≤ 1000) : rLoop l text n (v, (i : Int)) = finR l text v := by
  obtain ⟨n, rfl⟩ : ∃ m, n = m + 1 := ⟨n - 1, by omega⟩
  unfold rLoop
  rw [iter_succ]
  dsimp only
  rw [f_R22_Strip_b1, cond_neg (by simp; omega)]
  exact fin_eq l text v h1 h2
theorem r_skip (l text v : List Int) (i n : Nat) (c : Int) (s : List Int) (hl : l.length ≤ 1000) (hd : l.drop i = c :: s) (hc : c ≠ 63) (hn : 0 < n) : rLoop l text n (v, (i : Int)) = rLoop l text (n - 1) (v, ((i + 1 : Nat) : Int)) := by
  have hi : i < l.length := by
    have := congrArg List.length hd
    simp at this
    omega
  have hg : l.getD i 0 = c := by
    rw [getD_drop l i 0 hi] at hd
    exact (List.cons.inj hd).1
  obtain ⟨n, rfl⟩ : ∃ m, n = m + 1 := ⟨n - 1, by omega⟩
  unfold rLoop
  rw [iter_succ]
  dsimp only
  rw [f_R22_Strip_b1, cond_pos (by simpa using hi), G_pos (by omega), Int.toNat_natCast, hg, cb_neg hc, f_R22_Strip_k1, G_inR (by omega)]
  rfl
theorem r_skips (l text v : List Int) (hl : l.length ≤ 1000) : ∀ (a : List Int) (i n : Nat) (s : List Int), (63 : Int) ∉ a → l.drop i = a ++ s → l.length < n + i → ∃ n', l.length < n' + (i + a.length) ∧ rLoop l text n (v, (i : Int)) = rLoop l text n' (v, ((i + a.length : Nat) : Int))
  | [], i, n, s, _, _, h => ⟨n, h, rfl⟩
  | c :: a, i, n, s, h63, hd, h => by
    have hi : i < l.length := by
      have := congrArg List.length hd
      simp at this
      omega
    have hd2 : l.drop (i + 1) = a ++ s := by rw [← List.drop_drop, hd]; rfl
    have hn : 0 < n ∨ n = 0 := by omega
    rcases hn with hn | rfl
    · obtain ⟨n', e1, e2⟩ := r_skips l text v hl a (i + 1) (n - 1) s (fun e => h63 (by simp [e])) hd2 (by omega)
      refine ⟨n', by simp; omega, ?_⟩
      rw [r_skip l text v i n c (a ++ s) hl hd (fun e => h63 (by simp [e])) hn, e2]
      congr 2
      simp
      omega
    · omega
theorem r_63 (l text v : List Int) (i n : Nat) (s r : List Int) (m : Nat) (hl : l.length ≤ 1000) (hv : v.length ≤ 1000) (hd : l.drop i = 63 :: s) (hm : Dec s m r) (hn : 0 < n) : rLoop l text n (v, (i : Int)) = rLoop l text (n - 1) (v ++ [(m : Int)], ((i + 1 : Nat) : Int)) := by
  have hi : i < l.length := by
    have := congrArg List.length hd
    simp at this
    omega
  have hg : l.getD i 0 = 63 := by
    rw [getD_drop l i 0 hi] at hd
    exact (List.cons.inj hd).1
  have hd2 : l.drop (i + 1) = s := by rw [← List.drop_drop, hd]; rfl
  have hsl : s.length < 900000 := by
    have := congrArg List.length hd2
    simp at this
    omega
  obtain ⟨n, rfl⟩ : ∃ m, n = m + 1 := ⟨n - 1, by omega⟩
  have hrd : f_R19_Read s = some ((m : Int), ((wr m).length : Int), 0) := by
    rcases ref_rs s hsl with ⟨_, h⟩ | ⟨q, r', h1, h2⟩
    · exact absurd hm (h m r)
    · obtain ⟨rfl, rfl⟩ := hm.unique h1
      exact h2
  unfold rLoop
  rw [iter_succ]
  dsimp only
  rw [f_R22_Strip_b1, cond_pos (by simpa using hi), G_pos (by omega), Int.toNat_natCast, hg, cb_pos rfl, G_inR (by omega), G_pos (by omega), show ((i : Int) + 1).toNat = i + 1 from by omega, hd2, bind_some' hrd, cn_neg rfl, G_room (by omega), f_R22_Strip_k1, G_inR (by omega)]
  rfl
theorem r_total (l text : List Int) (hl : l.length ≤ 1000) (ht : text.length ≤ 1000) : ∀ (n i : Nat) (v : List Int), l.length < n + i → i ≤ l.length → v.length ≤ i →
    rLoop l text n (v, (i : Int)) = some ([], [], 220) ∨ ∃ N, N.length ≤ 1000 ∧ rLoop l text n (v, (i : Int)) = finR l text N
  | 0, i, v, h1, h2, h3 => by omega
  | n + 1, i, v, h1, h2, h3 => by
    by_cases hi : i < l.length
    · have hd := getD_drop l i 0 hi
      by_cases h63 : l.getD i 0 = 63
      · rw [h63] at hd
        rcases ref_rs (l.drop (i + 1)) (by simp; omega) with ⟨h, _⟩ | ⟨q, r, h, _⟩
        · refine .inl ?_
          unfold rLoop
          rw [iter_succ]
          dsimp only
          rw [f_R22_Strip_b1, cond_pos (by simpa using hi), G_pos (by omega), Int.toNat_natCast, h63, cb_pos rfl, G_inR (by omega), G_pos (by omega), show ((i : Int) + 1).toNat = i + 1 from by omega, bind_some' h, cn_pos (by decide)]
        · rw [r_63 l text v i (n + 1) _ r q hl (by omega) hd h (by omega)]
          exact r_total l text hl ht n (i + 1) _ (by omega) (by omega) (by simp; omega)
      · rw [r_skip l text v i (n + 1) _ _ hl hd h63 (by omega)]
        exact r_total l text hl ht n (i + 1) v (by omega) (by omega) (by omega)
    · exact .inr ⟨v, by omega, r_end l text v i (n + 1) (by omega) (by omega) ht (by omega)⟩
theorem r_tl (l text : List Int) (hl : l.length ≤ 1000) (ht : text.length ≤ 1000) : ∀ (ns : List Int) (i n : Nat) (v : List Int), (∀ m ∈ ns, 1 ≤ m ∧ m ≤ 99999) → l.drop i = tl ns → i ≤ l.length → l.length < n + i → v.length + ns.length ≤ 1000 → rLoop l text n (v, (i : Int)) = finR l text (v ++ ns)
  | [], i, n, v, _, hd, hi0, h, hv => by
    have hi : l.length ≤ i := by
      have := congrArg List.length hd
      rw [tl_nil] at this
      simp at this
      omega
    rw [List.append_nil]
    exact r_end l text v i n hi (by omega) ht (by simp at hv; omega)
  | m :: ns, i, n, v, hm, hd, hi0, h, hv => by
    rw [tl_cons] at hd
    have hlen : i + (tl ns).length + (wr m.toNat).length + 2 = l.length := by
      have := congrArg List.length hd
      simp at this
      omega
    obtain ⟨n1, e1, e2⟩ := r_skips l text v hl [0] i n (63 :: (wr m.toNat ++ tl ns)) (by decide) hd h
    rw [e2]
    have hd1 : l.drop (i + 1) = 63 :: (wr m.toNat ++ tl ns) := by rw [← List.drop_drop, hd]; rfl
    have hm1 := hm m (by simp)
    have hdec : Dec (wr m.toNat ++ tl ns) m.toNat (tl ns) := ⟨rfl, by omega, tl_nd ns⟩
    simp only [List.length_cons, List.length_nil, Nat.zero_add] at e1 ⊢
    rw [r_63 l text v (i + 1) n1 _ _ _ hl (by simp at hv; omega) hd1 hdec (by omega)]
    have hd2 : l.drop (i + 1 + 1) = wr m.toNat ++ tl ns := by rw [← List.drop_drop, hd1]; rfl
    obtain ⟨n2, e3, e4⟩ := r_skips l text (v ++ [((m.toNat : Nat) : Int)]) hl (wr m.toNat) (i + 1 + 1) (n1 - 1) (tl ns) (wr_63 _) hd2 (by omega)
    rw [e4]
    have hd3 : l.drop (i + 1 + 1 + (wr m.toNat).length) = tl ns := by rw [← List.drop_drop, hd2]; simp
    rw [r_tl l text hl ht ns _ n2 _ (fun x hx => hm x (by simp [hx])) hd3 (by omega) e3 (by simp at hv ⊢; omega), show ((m.toNat : Nat) : Int) = m from by omega]
    simp
theorem first_at (l : List Int) (p q : List Int) (hl : l.length ≤ 1000) (e : l = p ++ q) (hp : (63 : Int) ∉ p) (hq : q = [] ∨ ∃ r, q = 63 :: r) : ∀ (k n i : Nat), i + k = p.length → k < n →
    iter (fun loop (s : Int) => f_R22_Strip_b2 l loop s) n (i : Int) = f_R22_Strip_b2 l (fun _ => none) (p.length : Int)
  | 0, n + 1, i, h1, h2 => by
    have hlen := congrArg List.length e
    simp only [List.length_append] at hlen
    obtain rfl : i = p.length := by omega
    rw [iter_succ, f_R22_Strip_b2, f_R22_Strip_b2]
    have hst : (cond (decide ((p.length : Int) < (l.length : Int))) (l.getD (p.length : Int).toNat 0 != 63) false) = false := by
      rcases hq with rfl | ⟨r, rfl⟩
      · rw [cond_neg (by simp at hlen ⊢; omega)]
      · rw [e, Int.toNat_natCast, show (p ++ 63 :: r).getD p.length 0 = 63 from getD_app_right p (63 :: r) 0, and_tt]
        simp
    rw [cond_neg (b := cond _ _ _) hst, cond_neg (b := cond _ _ _) hst]
  | k + 1, n + 1, i, h1, h2 => by
    have hlen := congrArg List.length e
    simp only [List.length_append] at hlen
    have hg : l.getD i 0 ≠ 63 := by
      rw [e, List.getD_eq_getElem?_getD, List.getElem?_append_left (by omega), ← List.getD_eq_getElem?_getD]
      exact fun h => hp (h ▸ getD_mem p i (by omega))
    rw [iter_succ, f_R22_Strip_b2, G_pos (fun _ => by omega), cond_pos (b := cond _ _ _) (by rw [Int.toNat_natCast, cond_pos (by simp; omega)]; exact bne_iff_ne.2 hg), G_inR (by omega), show (i : Int) + 1 = ((i + 1 : Nat) : Int) from by omega]
    exact first_at l p q hl e hp hq k n (i + 1) (by omega) (by omega)
theorem split63 : ∀ l : List Int, ∃ p q, l = p ++ q ∧ (63 : Int) ∉ p ∧ (q = [] ∨ ∃ r, q = 63 :: r)
  | [] => ⟨[], [], rfl, by simp, .inl rfl⟩
  | c :: r => by
    by_cases h : c = 63
    · exact ⟨[], c :: r, rfl, by simp, .inr ⟨r, by rw [h]⟩⟩
    · obtain ⟨p, q, rfl, h1, h2⟩ := split63 r
      exact ⟨c :: p, q, rfl, fun e => by
        rcases List.mem_cons.1 e with e | e
        · exact h e.symm
        · exact h1 e, h2⟩
/-- The text of the reference: what lies ahead of the first full cell and its blank. -/
def textR (p q : List Int) : List Int := if q = [] then p else p.take (p.length - 1)
theorem ref_strip (l p q : List Int) (hl : l.length ≤ 1000) (hc : cl l = true) (e : l = p ++ q) (hp : (63 : Int) ∉ p) (hq : q = [] ∨ ∃ r, q = 63 :: r) : f_R22_Strip l = rLoop l (textR p q) 1000000 ([], (p.length : Int)) := by
  have hlen := congrArg List.length e
  simp only [List.length_append] at hlen
  unfold f_R22_Strip
  rw [bind_some' (f_refClean l (by omega)), hc, cond_neg (by rfl)]
  refine (first_at l p q hl e hp hq p.length 1000000 0 (by omega) (by omega)).trans ?_
  have hst : (cond (decide ((p.length : Int) < (l.length : Int))) (l.getD (p.length : Int).toNat 0 != 63) false) = false := by
    rcases hq with rfl | ⟨r, rfl⟩
    · rw [cond_neg (by simp at hlen ⊢; omega)]
    · rw [e, Int.toNat_natCast, show (p ++ 63 :: r).getD p.length 0 = 63 from getD_app_right p (63 :: r) 0, and_tt]
      simp
  rw [f_R22_Strip_b2, G_pos (fun h => by have := of_decide_eq_true h; omega), cond_neg (b := cond _ _ _) hst, G_pos (by omega), and_tt]
  unfold textR
  rcases hq with rfl | ⟨r, rfl⟩
  · rw [cond_neg (by simp at hlen ⊢; omega), if_pos rfl, f_R22_Strip_k2, Int.toNat_natCast]
    have : l.take p.length = p := by rw [e]; simp
    rw [this]
  · rw [if_neg (by simp)]
    by_cases h0 : 0 < p.length
    · rw [cond_pos (by simp at hlen ⊢; omega), G_inR (by omega), G_pos (by omega), f_R22_Strip_k2, show ((p.length : Int) - 1).toNat = p.length - 1 from by omega]
      have : l.take (p.length - 1) = p.take (p.length - 1) := by rw [e, List.take_append_of_le_length (by omega)]
      rw [this]
    · rw [cond_neg (by rw [Bool.and_eq_false_iff]; exact .inr (decide_eq_false (by omega))), f_R22_Strip_k2, Int.toNat_natCast]
      have hp0 : p.length = 0 := by omega
      have : p = [] := List.length_eq_zero_iff.1 hp0
      subst this
      rfl
theorem textR_len (p q : List Int) : (textR p q).length ≤ p.length := by
  unfold textR
  split
  · omega
  · simp <;> omega
theorem ref_total (l : List Int) (hl : l.length ≤ 1000) (hc : cl l = true) : f_R22_Strip l = some ([], [], 220) ∨ ∃ text ns, decS l text ns ∧ f_R22_Strip l = some (text, ns, 0) := by
  obtain ⟨p, q, e, hp, hq⟩ := split63 l
  have hlen := congrArg List.length e
  simp only [List.length_append] at hlen
  have htl := textR_len p q
  rw [ref_strip l p q hl hc e hp hq]
  rcases r_total l (textR p q) hl (by omega) 1000000 p.length [] (by omega) (by omega) (by simp) with h | ⟨N, h1, h2⟩
  · exact .inl h
  · rw [h2]
    unfold finR
    split
    · rename_i h3
      exact .inr ⟨_, N, decS_of h3, rfl⟩
    · exact .inl rfl
theorem okF_all : ∀ (p : Option Int) (ns : List Int), okF p ns = true → ∀ m ∈ ns, 1 ≤ m ∧ m ≤ 99999
  | p, [], _, m, hm => by simp at hm
  | p, n :: r, h, m, hm => by
    rw [okF] at h
    simp only [Bool.and_eq_true, decide_eq_true_eq] at h
    rcases List.mem_cons.1 hm with rfl | hm
    · exact h.1.1
    · exact okF_all _ r h.2 m hm
theorem ref_dec {l text ns : List Int} (h : decS l text ns) (hl : l.length ≤ 1000) : f_R22_Strip l = some (text, ns, 0) := by
  have hc := h.clean
  have hlen := h.len
  have h63 := ((plB_iff _).1 h.1).2
  cases ns with
  | nil =>
    have e : l = text ++ [] := by rw [h.2.2, tl_nil]
    rw [ref_strip l text [] hl hc e h63 (.inl rfl)]
    have ht : textR text [] = text := by simp [textR]
    rw [ht, r_end l text [] text.length 1000000 (by rw [e]; simp) (by omega) (by omega) (by simp)]
    unfold finR
    rw [if_pos h.refer]
  | cons m r =>
    have e : l = (text ++ [0]) ++ 63 :: (wr m.toNat ++ tl r) := by rw [h.2.2, tl_cons]; simp
    have hp : (63 : Int) ∉ (text ++ [0]) := by
      rw [List.mem_append]
      rintro (h | h)
      · exact h63 h
      · exact absurd h (by decide)
    rw [ref_strip l _ _ hl hc e hp (.inr ⟨_, rfl⟩)]
    have ht : textR (text ++ [0]) (63 :: (wr m.toNat ++ tl r)) = text := by simp [textR]
    have hl2 := congrArg List.length e
    simp only [List.length_append, List.length_cons, List.length_nil] at hl2
    have hall := okF_all _ _ h.2.1
    have hd1 : l.drop (text ++ [0]).length = 63 :: (wr m.toNat ++ tl r) := by rw [e]; simp
    have hm1 := hall m (by simp)
    have hdec : Dec (wr m.toNat ++ tl r) m.toNat (tl r) := ⟨rfl, by omega, tl_nd r⟩
    rw [ht]
    refine (r_63 l text [] (text ++ [0]).length 1000000 _ _ _ hl (by simp) hd1 hdec (by omega)).trans ?_
    have hd2 : l.drop ((text ++ [0]).length + 1) = wr m.toNat ++ tl r := by rw [← List.drop_drop, hd1]; rfl
    obtain ⟨n2, e3, e4⟩ := r_skips l text ([] ++ [((m.toNat : Nat) : Int)]) hl (wr m.toNat) _ (1000000 - 1) (tl r) (wr_63 _) hd2 (by simp; omega)
    rw [e4]
    have hd3 : l.drop ((text ++ [0]).length + 1 + (wr m.toNat).length) = tl r := by rw [← List.drop_drop, hd2]; simp
    have hlr := h.len.2
    rw [r_tl l text hl (by omega) r _ n2 _ (fun x hx => hall x (by simp [hx])) hd3 (by simp; omega) e3 (by simp at hlr ⊢; omega), show ((m.toNat : Nat) : Int) = m from by omega]
    unfold finR
    rw [if_pos (by simpa using h.refer)]
    rfl
theorem ref_180 {l : List Int} (h : cl l = false) (hl : l.length ≤ 1000) : f_R22_Strip l = some ([], [], 180) := by
  unfold f_R22_Strip
  rw [bind_some' (f_refClean l (by omega)), h, cond_pos (by rfl)]
/-- Both read alike. -/
theorem strip_eq (l : List Int) (hl : l.length ≤ 1000) : ∃ x, f_note_Strip l = some x ∧ f_R22_Strip l = some x ∧ (x.2.2 = 0 → decS l x.1 x.2.1) ∧ x.1.length ≤ 1000 ∧ x.2.1.length ≤ 1000 := by
  cases hc : cl l
  · exact ⟨_, note_180 hc hl, ref_180 hc hl, fun h => by simp at h, by simp, by simp⟩
  · rcases note_total l (by omega) hc with h | ⟨text, ns, hd, h⟩
    · rcases ref_total l hl hc with h' | ⟨text, ns, hd, h'⟩
      · exact ⟨_, h, h', fun h => by simp at h, by simp, by simp⟩
      · rw [note_dec hd hl] at h
        simp at h
    · have := hd.len
      exact ⟨_, h, ref_dec hd hl, fun _ => hd, by simp; omega, by simp; omega⟩
end Go.Proofs.YtdegmbjhedfffaaDoor
