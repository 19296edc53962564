/-
  Own work. Chapter 21, plain part: further laws.
-/
import Derived.Test.YthfdgicfcjkfgaaP21e
set_option linter.unusedSimpArgs false
set_option linter.unusedVariables false
set_option linter.unusedSimpArgs false
set_option linter.unusedVariables false
namespace Go.Proofs.Ythfdgicfcjkfgaa
open Go.Abs

theorem mem_next_int (R : List S_Row) (f e h : Int) : e ∈ next R f h ↔ 0 ≤ f ∧ f < e ∧ e ≤ R.length ∧ e - f ≤ h - 1 ∧ okEnd R e.toNat = true := by
  by_cases hf : 0 ≤ f
  · obtain ⟨n, rfl⟩ : ∃ n : Nat, f = n := ⟨f.toNat, by omega⟩
    rw [mem_next']
    simp [hf]
  · constructor
    · intro he; obtain ⟨n, _, h1, _, _, h2, _⟩ := next_mem he; omega
    · intro he; omega
/-- The loop that looks for an end among those that may follow. -/
theorem steps_inner (K : Int × Bool × Int → Option Bool) (M N : List Int) (fits : Bool) (i : Nat) (hi : i < M.length) (hM : M.length < 100000) (hN : N.length < 100000) : ∀ (n k : Nat) (found : Bool), k ≤ N.length → N.length < n + k → (found = decide (M.getD i 0 ∈ N.take k)) →
    iter (fun loop (s : Bool × Int) => f_L21_PageSteps_b1 M K fits i N loop s.1 s.2) n (found, (k : Int)) = K (M.getD i 0, cond fits (decide (M.getD i 0 ∈ N)) false, (i : Int) + 1)
  | 0, k, found, h1, h2, h3 => by omega
  | n + 1, k, found, h1, h2, h3 => by
    rw [iter_succ, f_L21_PageSteps_b1]
    dsimp only
    by_cases hk : k < N.length
    · have ih := steps_inner K M N fits i hi hM hN n (k + 1)
      rw [cond_pos (by simpa using hk), G_imp (fun _ => by omega), G_imp (fun _ => by omega), G_inR (by omega)]
      refine ih _ (by omega) (by omega) ?_
      have hE : M.getD ((i : Int)).toNat 0 = M.getD i 0 := rfl
      have hF : N.getD ((k : Int)).toNat 0 = N.getD k 0 := rfl
      rw [hE, hF, h3, List.take_add_one, List.getElem?_eq_getElem hk]
      simp only [List.getD_eq_getElem?_getD, List.getElem?_eq_getElem hk, Option.getD_some, Option.toList, List.mem_append, List.mem_singleton]
      generalize M[i]?.getD 0 = x
      by_cases hx : x ∈ N.take k
      · simp [hx]
      · simp only [hx, decide_false, cond_false, false_or]
        rw [Bool.eq_iff_iff]
        constructor
        · intro h; simp at h ⊢; exact h.symm
        · intro h; simp at h ⊢; exact h.symm
    · rw [cond_neg (by simpa using hk), G_pos (by omega), G_inR (by omega), h3, List.take_of_length_le (by omega)]
      rfl
theorem steps_outer (R : List S_Row) (h : Int) (C : (List Int) × Bool) (M : List Int) (hr : R.length < 100000) (hh : 2 ≤ h ∧ h < 100000) (hM : M.length < 100000) (hs : small M) (hb : ∀ x ∈ M, -100000 < x ∧ x < 100000) (hC : legal R C.1 h = true) (hCl : C.1.length < 100000) (hCs : small C.1) : ∀ (n i : Nat) (f : Int) (fits : Bool), i ≤ M.length → M.length < n + i →
    -100000 < f ∧ f < 100000 → (fits = true → 0 ≤ f) → legal R M h = (fits && legalFrom R h f (M.drop i)) →
    iter (fun loop (s : Int × Bool × Int) => f_L21_PageSteps_b2 true R h C M loop s.1 s.2.1 s.2.2) n (f, fits, (i : Int)) = some true
  | 0, i, f, fits, h1, h2, h3, h4, h5 => by omega
  | n + 1, i, f, fits, h1, h2, h3, h4, h5 => by
    rw [iter_succ, f_L21_PageSteps_b2]
    dsimp only
    by_cases hi : i < M.length
    · have hlen := next_len R f h
      rw [cond_pos (by simpa using hi), bind_some' (f_next R f h hr h3 (by omega))]
      have := steps_inner (iter (fun loop (s : Int × Bool × Int) => f_L21_PageSteps_b2 true R h C M loop s.1 s.2.1 s.2.2) n) M (next R f h) fits i hi hM (by omega) 1000000 0 false (by omega) (by omega) (by simp)
      rw [show ((0 : Nat) : Int) = 0 from rfl] at this
      rw [this]
      have hmem : M.getD i 0 ∈ M := getD_mem hi
      have hx := hb _ hmem
      rw [getD_drop M i 0 hi] at h5
      have ih := steps_outer R h C M hr hh hM hs hb hC hCl hCs n (i + 1) (M.getD i 0) (cond fits (decide (M.getD i 0 ∈ next R f h)) false) (by omega) (by omega) hx
      rw [show (i : Int) + 1 = ((i + 1 : Nat) : Int) from by omega]
      generalize M.getD i 0 = e at h5 ih hx ⊢
      refine ih ?_ ?_
      · intro he
        cases fits with
        | false => cases he
        | true =>
          have : e ∈ next R f h := by simpa using he
          have := (mem_next_int R f e h).1 this
          omega
      · rw [h5]
        cases fits with
        | false => rfl
        | true =>
          have hf := h4 rfl
          obtain ⟨m, rfl⟩ : ∃ m : Nat, f = m := ⟨f.toNat, by omega⟩
          have := legal_cons R h m e (M.drop (i + 1))
          rw [Bool.eq_iff_iff]
          simp only [Bool.true_and, cond_true, Bool.and_eq_true, decide_eq_true_eq]
          exact this
    · rw [cond_neg (by simpa using hi), bind_some' (f_legal R C.1 h hr hCl hCs (by omega)), hC, cond_true, bind_some' (f_legal R M h hr hM hs (by omega)), h5, List.drop_eq_nil_of_le (by omega)]
      simp only [legalFrom]
      cases fits <;> simp
theorem law_steps (t0 t1 t2 : List Int) (h1 : okBytes t1) (h2 : okBytes t2) : f_L21_PageSteps t0 t1 t2 = some true := by
  have hb0 := h2.get 0
  have hb1 := h2.get 1
  have hb2 := h2.get 2
  have hh := height_bounds _ hb0
  have hr := made_lt t0
  have hr2 := made_len t0
  unfold f_L21_PageSteps
  rw [bind_some' sanity_true, bind_some' (f_made t0), bind_some' (f_height _ hb0), bind_some' (f_chosen _ _ _ hr (by omega) h1)]
  generalize made t0 = R at hr hr2 ⊢
  generalize height (t2.getD 0 0) = h at hh ⊢
  cases hc : (chosen R h t1).2 with
  | false => rfl
  | true =>
    have hl := chosen_legal R h t1 hc
    have hbd := chosen_bounds R h t1 (by omega)
    have hbd2 := (legal_bounds R h _ 0 (by omega) hl).1
    rw [cond_neg (by rfl)]
    simp only [List.length_nil, List.nil_append]
    rw [G_room (by omega)]
    generalize hC : chosen R h t1 = C at hl hbd hbd2 hc ⊢
    have key : ∀ M : List Int, M.length = C.1.length → (∀ x ∈ M, -100000 < x ∧ x < 100000) → f_L21_PageSteps_k1 true R h C M = some true := by
      intro M hM hx
      unfold f_L21_PageSteps_k1
      exact steps_outer R h C M hr (by omega) (by omega) (fun x h => by have := hx x h; omega) hx hl (by omega) hbd.1 1000000 0 0 true (by omega) (by omega) (by omega) (by simp) (by rfl)
    have hCb : ∀ x ∈ C.1, -100 ≤ x ∧ x ≤ 100 := fun x hx => by have := hbd2 x hx; omega
    by_cases h0 : 0 < C.1.length
    · rw [cond_pos (by simpa using h0), G_pos (by omega), wrap_i64 (by omega), wrap_i64 (by omega)]
      have hm1 := Int.tmod_eq_emod_of_nonneg (b := (C.1.length : Int)) hb1.1
      have hm2 := Int.tmod_eq_emod_of_nonneg (b := 5) hb2.1
      have hl1 := Int.emod_lt_of_pos (t2.getD 1 0) (show (0 : Int) < (C.1.length : Int) by omega)
      have hl0 := Int.emod_nonneg (t2.getD 1 0) (show (C.1.length : Int) ≠ 0 by omega)
      rw [G_pos (by omega), G_inR (by omega)]
      have hg := hCb _ (getD_mem (i := (Int.tmod (t2.getD 1 0) (C.1.length : Int)).toNat) (xs := C.1) (by omega))
      rw [G_inR (by omega)]
      refine key _ (by simp) fun x hx => ?_
      rcases List.mem_or_eq_of_mem_set hx with hx | hx
      · have := hCb x hx; omega
      · omega
    · rw [cond_neg (by simpa using h0)]
      exact key _ rfl fun x hx => by have := hCb x hx; omega

/-- Made rows begin different ink pages. -/
theorem made_ink (l : List Int) (k : Nat) : inkAt (made l) k = 0 ∨ (inkAt (made l) k = 1 + (k : Int)) := by
  unfold inkAt made madeN
  by_cases hk : k < min l.length 40
  · rw [List.getD_eq_getElem?_getD, List.getElem?_map, List.getElem?_range hk]
    simp only [Option.map_some, Option.getD_some, madeRow]
    split
    · right; rfl
    · left; rfl
  · left
    rw [List.getD_eq_getElem?_getD, List.getElem?_eq_none (by simp; omega)]
    rfl
theorem inkRow_pos (R : List S_Row) : ∀ n, 0 ≤ inkRow R n → 0 < inkAt R (inkRow R n).toNat
  | 0, h => by simp [inkRow] at h
  | n + 1, h => by
    unfold inkRow at h ⊢
    split
    · rename_i hx
      rw [if_pos hx] at h
      exact inkRow_pos R n h
    · rename_i hx
      simp only [Int.toNat_natCast]
      omega
theorem legal_sorted (R : List S_Row) (h : Int) : ∀ (L : List Int) (f : Nat) (i : Nat), legalFrom R h f L = true → (∀ e ∈ L.take i, e ≤ max (f : Int) (last (L.take i))) ∧ (i < L.length → last (L.take i) < R.length ∧ 0 ≤ last (L.take i) ∧ (i ≠ 0 → (f : Int) < last (L.take i)))
  | [], f, i, _ => ⟨by simp, by simp⟩
  | e :: L, f, 0, hl => by
    rw [legal_cons] at hl
    obtain ⟨n, rfl, h1, h2, _⟩ := next_mem hl.1
    exact ⟨by simp, fun _ => ⟨by simp [last]; omega, by simp [last], fun h => absurd rfl h⟩⟩
  | e :: L, f, i + 1, hl => by
    rw [legal_cons] at hl
    obtain ⟨n, rfl, h1, h2, _⟩ := next_mem hl.1
    obtain ⟨i1, i2⟩ := legal_sorted R h L n i hl.2
    have hlast : last ((n : Int) :: L.take i) = if L.take i = [] then (n : Int) else last (L.take i) := by
      cases hx : L.take i with
      | nil => simp [last]
      | cons a b => simp [last, List.getLast?_cons_cons]
    simp only [List.take_succ_cons, List.length_cons]
    rw [hlast]
    by_cases h0 : L.take i = []
    · rw [if_pos h0, h0]
      refine ⟨by simp; omega, fun hi => ⟨?_, by omega, fun _ => by omega⟩⟩
      have : i = 0 ∨ L = [] := by simpa using h0
      rcases this with rfl | rfl
      · cases L with
        | nil => simp at hi
        | cons a L =>
          have hl2 := hl.2
          rw [legal_cons] at hl2
          obtain ⟨m, rfl, h3, h4, _⟩ := next_mem hl2.1
          omega
      · simp at hi
    · rw [if_neg h0]
      refine ⟨fun x hx => ?_, fun hi => ?_⟩
      · rcases List.mem_cons.1 hx with rfl | hx
        · have hm := i1 (last (L.take i)) (last_mem h0)
          by_cases hil : i < L.length
          · have := (i2 hil).2.2 (fun h => h0 (by rw [h]; rfl))
            omega
          · have := legal_bounds R h L n h2 hl.2
            have hle : last (L.take i) ∈ L := List.mem_of_mem_take (last_mem h0)
            -- the last end is the number of rows, and all lie behind n
            rw [List.take_of_length_le (by omega)] at hle ⊢
            have hsorted : ∀ (L : List Int) (n : Nat), legalFrom R h n L = true → ∀ x ∈ L, (n : Int) < x := by
              intro L
              induction L with
              | nil => intro n _ x hx; simp at hx
              | cons a L ih =>
                intro n hl x hx
                rw [legal_cons] at hl
                obtain ⟨m, rfl, h3, h4, _⟩ := next_mem hl.1
                rcases List.mem_cons.1 hx with rfl | hx
                · omega
                · have := ih m hl.2 x hx; omega
            have := hsorted L n hl.2 _ hle
            omega
        · have := i1 x hx
          by_cases hil : i < L.length
          · have := (i2 hil).2.2 (fun h => h0 (by rw [h]; rfl))
            omega
          · have hsorted : ∀ (L : List Int) (n : Nat), legalFrom R h n L = true → ∀ x ∈ L, (n : Int) < x := by
              intro L
              induction L with
              | nil => intro n _ x hx; simp at hx
              | cons a L ih =>
                intro n hl x hx
                rw [legal_cons] at hl
                obtain ⟨m, rfl, h3, h4, _⟩ := next_mem hl.1
                rcases List.mem_cons.1 hx with rfl | hx
                · omega
                · have := ih m hl.2 x hx; omega
            have := hsorted L n hl.2 _ (List.mem_of_mem_take (last_mem h0))
            omega
      · have hil : i < L.length := by omega
        obtain ⟨a, b, c⟩ := i2 hil
        exact ⟨a, b, fun _ => by have := c (fun h => h0 (by rw [h]; rfl)); omega⟩
theorem cnt_zero (ends : List Int) (row : Int) (i : Nat) (h : ∀ e ∈ ends.take i, e ≤ row) : cnt ends row i = 0 := by
  unfold cnt
  rw [List.countP_eq_zero]
  intro e he
  have := h e he
  simp; omega
theorem last_take_succ (ends : List Int) (k : Nat) (h : k < ends.length) : last (ends.take (k + 1)) = ends.getD k 0 := by
  rw [List.take_add_one, List.getElem?_eq_getElem h]
  show last (ends.take k ++ [ends[k]]) = _
  rw [last_append, List.getD_eq_getElem?_getD, List.getElem?_eq_getElem h]
  rfl

theorem parts_loop (l : List Int) (h : Int) (C : (List Int) × Bool) (hl : legal (made l) C.1 h = true) : ∀ (n i : Nat) (before lst : Int), i ≤ C.1.length → C.1.length < n + i →
    (0 < i → (before, lst) = part (made l) C.1 ((i : Int) - 1)) → (i = 0 → before = 0 ∧ lst = -1) →
    iter (fun loop (s : Int × Int × Int) => f_L21_PageParts_b1 true (made l) C loop s.1 s.2.1 s.2.2) n (before, lst, (i : Int)) = some true
  | 0, i, before, lst, h1, h2, h3, h4 => by omega
  | n + 1, i, before, lst, h1, h2, h3, h4 => by
    have hr := made_lt l
    have hlen := legal_len (made l) C.1 h hl
    have hsm := legal_small (made l) C.1 h (by omega) hl
    rw [iter_succ, f_L21_PageParts_b1]
    dsimp only
    by_cases hi : i < C.1.length
    · have ih := parts_loop l h C hl n (i + 1)
      obtain ⟨hs1, hs2⟩ := legal_sorted (made l) h C.1 0 i hl
      obtain ⟨hs3, hs4, hs5⟩ := hs2 hi
      rw [cond_pos (by simpa using hi), bind_some' (f_part (made l) C.1 i hr (by omega) hsm), bind_some' (f_refPart (made l) C.1 i hr (by omega) hi hs4 hs3), bind_some' (f_first C.1 i (by omega) (by omega))]
      obtain ⟨k, hk⟩ : ∃ k : Nat, last (C.1.take i) = k := ⟨(last (C.1.take i)).toNat, by omega⟩
      have hpart : part (made l) C.1 i = partAt (made l) C.1 i k := by
        unfold part
        rw [if_neg (by omega)]
        simp only [Int.toNat_natCast]
        rw [if_neg (by omega), hk]
        rfl
      rw [hk, G_imp (fun _ => by omega), G_imp (fun _ => by omega)]
      have hE : (made l).getD ((k : Int)).toNat zS_Row = (made l).getD k zS_Row := rfl
      rw [hE]
      have hink : ((made l).getD k zS_Row).Ink = inkAt (made l) k := rfl
      rw [hink]
      have hlt := inkRow_lt (made l) (k + 1)
      -- the first condition
      rw [cond_neg (b := cond _ _ _)]
      · rw [G_imp (fun _ => by omega)]
        have hpr : (part (made l) C.1 i).2 ≤ 26 ∧ 0 ≤ (part (made l) C.1 i).2 := by
          rw [hpart]
          unfold partAt
          split <;> dsimp only <;> omega
        have hlst : lst ≤ 26 ∧ -1 ≤ lst := by
          by_cases h0 : i = 0
          · have := h4 h0; omega
          · have h6 := h3 (by omega)
            have e : lst = (part (made l) C.1 ((i : Int) - 1)).2 := by rw [← h6]
            rw [e]
            unfold part
            split
            · dsimp only; omega
            · split
              · dsimp only; omega
              · unfold partAt
                split <;> dsimp only <;> omega
        rw [G_imp (fun _ => inR_of (by omega))]
        rw [cond_neg (b := cond _ _ _), G_inR (by omega)]
        · refine ih _ _ (by omega) (by omega) (fun _ => ?_) (fun h => by omega)
          rw [show ((i + 1 : Nat) : Int) - 1 = (i : Int) from by omega]
        · --
          by_cases hcnd : (0 < (i : Int)) ∧ (part (made l) C.1 i).1 = before ∧ inkAt (made l) k ≤ 0
          · obtain ⟨c1, c2, c3⟩ := hcnd
            have h6 := h3 (by omega)
            have hi1 : i - 1 < C.1.length := by omega
            obtain ⟨hs1', hs2'⟩ := legal_sorted (made l) h C.1 0 (i - 1) hl
            obtain ⟨hs3', hs4', hs5'⟩ := hs2' hi1
            obtain ⟨k', hk'⟩ : ∃ k : Nat, last (C.1.take (i - 1)) = k := ⟨(last (C.1.take (i - 1))).toNat, by omega⟩
            have hpart' : part (made l) C.1 ((i : Int) - 1) = partAt (made l) C.1 (i - 1) k' := by
              unfold part
              rw [if_neg (by omega), show ((i : Int) - 1).toNat = i - 1 from by omega, if_neg (by omega), hk']
              rfl
            rw [hpart'] at h6
            have hb : before = (partAt (made l) C.1 (i - 1) k').1 := by rw [← h6]
            have hls : lst = (partAt (made l) C.1 (i - 1) k').2 := by rw [← h6]
            have hlt' := inkRow_lt (made l) (k' + 1)
            have hgoal : (part (made l) C.1 i).2 = min (lst + 1) 26 := by
              rw [hpart] at c2 ⊢
              rw [hb] at c2
              rw [hls]
              unfold partAt at c2 ⊢
              by_cases hx : inkRow (made l) (k + 1) < 0
              · rw [if_pos hx] at c2 ⊢
                by_cases hx' : inkRow (made l) (k' + 1) < 0
                · rw [if_pos hx']; dsimp only; omega
                · rw [if_neg hx'] at c2
                  have := inkRow_pos (made l) (k' + 1) (by omega)
                  dsimp only at c2
                  omega
              · rw [if_neg hx] at c2 ⊢
                have hp := inkRow_pos (made l) (k + 1) (by omega)
                by_cases hx' : inkRow (made l) (k' + 1) < 0
                · rw [if_pos hx'] at c2
                  dsimp only at c2
                  omega
                · rw [if_neg hx'] at c2 ⊢
                  have hp' := inkRow_pos (made l) (k' + 1) (by omega)
                  dsimp only at c2 ⊢
                  have e1 := made_ink l (inkRow (made l) (k + 1)).toNat
                  have e2 := made_ink l (inkRow (made l) (k' + 1)).toNat
                  have heq : inkRow (made l) (k' + 1) = inkRow (made l) (k + 1) := by omega
                  rw [heq]
                  have hcs := cnt_succ C.1 (inkRow (made l) (k + 1)) (i - 1) hi1
                  rw [show i - 1 + 1 = i from by omega] at hcs
                  have hlk : C.1.getD (i - 1) 0 = k := by
                    rw [← last_take_succ C.1 (i - 1) hi1, show i - 1 + 1 = i from by omega, hk]
                  have hne : inkRow (made l) (k + 1) ≠ k := by
                    intro e
                    rw [e] at hp
                    simp only [Int.toNat_natCast] at hp
                    omega
                  rw [hlk, if_pos (by omega)] at hcs
                  rw [hcs]
                  omega
            rw [hgoal, minIf]
            simp
          · have hd : (cond (cond (decide (0 < (i : Int))) ((part (made l) C.1 i).1 == before) false) (decide (inkAt (made l) k ≤ 0)) false) = false := by
              rw [Bool.eq_false_iff]
              intro e
              apply hcnd
              simp at e
              exact ⟨by omega, e.1.2, e.2⟩
            rw [hd]; rfl
      · --
        simp only [bne_self_eq_false, cond_false]
        by_cases hx : 0 < inkAt (made l) k
        · have hrow : inkRow (made l) (k + 1) = k := by
            unfold inkRow
            rw [if_neg (by omega)]
          have hpp : partAt (made l) C.1 i k = (inkAt (made l) k, 0) := by
            unfold partAt
            rw [hrow, if_neg (by omega), cnt_zero C.1 k i (fun e he => by have := hs1 e he; omega)]
            rfl
          rw [hpart, hpp]
          simp
        · rw [cond_neg (by simpa using hx)]
    · rw [cond_neg (by simpa using hi)]
theorem law_parts (t0 t1 : List Int) (t2 : Int) (h1 : okBytes t1) (h2 : 0 ≤ t2 ∧ t2 ≤ 255) : f_L21_PageParts t0 t1 t2 = some true := by
  have hh := height_bounds _ h2
  have hr := made_lt t0
  have hr2 := made_len t0
  unfold f_L21_PageParts
  rw [bind_some' sanity_true, bind_some' (f_made t0), bind_some' (f_height _ h2), bind_some' (f_chosen _ _ _ hr (by omega) h1)]
  cases hc : (chosen (made t0) (height t2) t1).2 with
  | false => rfl
  | true =>
    have hl := chosen_legal _ _ t1 hc
    have hlen := legal_len _ _ _ hl
    rw [cond_neg (by rfl)]
    exact parts_loop t0 (height t2) _ hl 1000000 0 0 (-1) (by omega) (by omega) (by omega) (fun _ => ⟨rfl, rfl⟩)

def okI8 (bs : List Int) : Prop := ∀ b ∈ bs, -128 ≤ b ∧ b ≤ 127
theorem okI8.get {bs : List Int} (h : okI8 bs) (i : Nat) : -128 ≤ bs.getD i 0 ∧ bs.getD i 0 ≤ 127 := by
  by_cases hi : i < bs.length
  · rw [List.getD_eq_getElem?_getD, List.getElem?_eq_getElem hi]
    exact h _ (List.getElem_mem hi)
  · rw [List.getD_eq_getElem?_getD, List.getElem?_eq_none (by omega)]
    simp
theorem matches_end (R : List S_Row) (w ends : List Int) (hr : R.length < 100000) (hw : okI8 w) (hl : ends.length < 100000) (hs : small ends) : f_L21_PageMatchesReference_k1 true R w ends = some true := by
  have h0 := hw.get 0
  have h1 := hw.get 1
  have hfl := fill_len R (w.getD 0 0)
  have hnl := next_len R (w.getD 1 0) (w.getD 0 0)
  unfold f_L21_PageMatchesReference_k1
  rw [wrap_i64 (by omega), wrap_i64 (by omega), bind_some' (f_fill R _ hr (by omega)), bind_some' (f_refFill R _ hr (by omega))]
  dsimp only
  rw [bind_some' (f_same _ _ (by omega))]
  simp only [bne_self_eq_false, decide_true, Bool.not_true, cond_false, Bool.not_false, cond_true]
  rw [bind_some' (f_legal R ends _ hr hl hs (by omega)), bind_some' (f_refLegal R ends _ hr hl hs (by omega))]
  simp only [bne_self_eq_false, Bool.not_false, cond_true]
  rw [bind_some' (f_next R _ _ hr (by omega) (by omega)), bind_some' (f_refNext R _ _ hr (by omega) (by omega)), bind_some' (f_same _ _ (by omega))]
  simp
theorem matches_loop (R : List S_Row) (raw w : List Int) (hr : R.length < 100000) (hw : okI8 w) (hraw : okI8 raw) (hwl : w.length = 2) : ∀ (n i : Nat) (ends : List Int) (lst : Int), i ≤ 40 → i ≤ raw.length → 40 < n + i → ends.length = i → (∀ x ∈ ends, -6000 < x ∧ x < 6000) → -128 * (i : Int) ≤ lst ∧ lst ≤ 128 * (i : Int) →
    iter (fun loop (s : (List Int) × (List Int) × Int × Int) => f_L21_PageMatchesReference_b1 raw true R loop s.1 s.2.1 s.2.2.1 s.2.2.2) n (w, ends, lst, (i : Int)) = some true
  | 0, i, ends, lst, h1, h2, h3, h4, h5, h6 => by omega
  | n + 1, i, ends, lst, h1, h2, h3, h4, h5, h6 => by
    rw [iter_succ, f_L21_PageMatchesReference_b1]
    dsimp only
    have hw2 : [w.getD 0 0, w.getD 1 0] = w := by
      match w, hwl with
      | [a, b], _ => rfl
    by_cases hi : i < raw.length ∧ i < 40
    · have hb := hraw.get i
      rw [cond_pos (by simp; omega), G_pos (by omega)]
      have hE : raw.getD ((i : Int)).toNat 0 = raw.getD i 0 := rfl
      rw [hE]
      rw [wrap_i64 (by omega)]
      generalize raw.getD i 0 = b at hb ⊢
      rw [G_inR (by omega), G_room (by omega), G_inR (by omega), hw2]
      have ih := matches_loop R raw w hr hw hraw hwl n (i + 1) (ends ++ [lst + b]) (lst + b) (by omega) (by omega) (by omega) (by simp; omega) (fun x hx => by
        rcases List.mem_append.1 hx with hx | hx
        · exact h5 x hx
        · simp at hx; omega) (by omega)
      rw [show (i : Int) + 1 = ((i + 1 : Nat) : Int) from by omega]
      exact ih
    · rw [cond_neg (by simp; omega), hw2]
      by_cases hm : ((w.getD 0 0).tmod 3 == 0) = true
      · rw [cond_pos hm, G_room (by omega)]
        refine matches_end R w _ hr hw (by simp; omega) fun x hx => ?_
        rcases List.mem_append.1 hx with hx | hx
        · have := h5 x hx; omega
        · simp at hx; omega
      · rw [cond_neg (by simpa using hm)]
        exact matches_end R w _ hr hw (by omega) fun x hx => by have := h5 x hx; omega
theorem law_matches (t0 t1 t2 : List Int) (h1 : okI8 t1) (hl : t1.length = 2) (h2 : okI8 t2) : f_L21_PageMatchesReference t0 t1 t2 = some true := by
  unfold f_L21_PageMatchesReference
  rw [bind_some' sanity_true, bind_some' (f_made t0)]
  have hw2 : [t1.getD 0 0, t1.getD 1 0] = t1 := by
    match t1, hl with
    | [a, b], _ => rfl
  rw [hw2]
  exact matches_loop (made t0) t2 t1 (made_lt t0) h1 h2 hl 1000000 0 [] 0 (by omega) (by omega) (by omega) rfl (by simp) (by omega)
end Go.Proofs.Ythfdgicfcjkfgaa
