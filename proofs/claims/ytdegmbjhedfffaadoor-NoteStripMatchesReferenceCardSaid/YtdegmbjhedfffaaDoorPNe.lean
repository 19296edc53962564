/-
  Own work. Numbers, plain part: numbers are read.
-/
import Derived.Test.YtdegmbjhedfffaaDoorPNd
import Derived.Test.YtdegmbjhedfffaaDoorPl2
set_option linter.unusedSimpArgs false
set_option linter.unusedVariables false
set_option maxRecDepth 100000
set_option linter.unusedSimpArgs false
set_option linter.unusedVariables false
namespace Go.Proofs.YtdegmbjhedfffaaDoor
open Go.Abs
/-- The value of a digit's cell; 10 for other cells. -/
def dv (c : Int) : Nat := tab_number_digits.idxOf c
theorem dv_le (c : Int) : dv c ≤ 10 := by
  have h : dv c ≤ tab_number_digits.length := List.idxOf_le_length
  exact h
theorem dg_dv (c : Int) (h : dv c < 10) : dg (dv c) = c := by
  have h' : tab_number_digits.idxOf c < tab_number_digits.length := h
  have e : tab_number_digits[tab_number_digits.idxOf c] = c := List.getElem_idxOf h'
  unfold dg dv
  rw [List.getD_eq_getElem?_getD, List.getElem?_eq_getElem h', e]
  rfl
theorem dv_dg (d : Nat) (h : d < 10) : dv (dg d) = d := by
  have := (inv_dg d h).1
  unfold inv at this
  unfold dv
  omega
theorem dg_eq {c : Int} {j : Nat} (hj : j < 10) : dg j = c ↔ dv c = j := by
  constructor
  · intro h; rw [← h, dv_dg j hj]
  · intro h; rw [← h, dg_dv c (by omega)]
theorem dg_inj {i j : Nat} (hi : i < 10) (hj : j < 10) (h : dg i = dg j) : i = j := by
  have := (dg_eq hi).1 h
  rw [dv_dg j hj] at this
  exact this.symm
theorem read_inner (t0 : List Int) (c : Int) (k : Nat) (hk : k < t0.length) (hc : t0.getD k 0 = c) (v : Nat) (hv : v < 1000000000) (hk2 : k < 1000000000) (loop9 : Int × Int → Option (Int × Int × Int)) : ∀ n j : Nat, 10 < n + j → j ≤ dv c →
    iter (fun loop (s : Int × Int × Int) => f_number_Read_b3 t0 loop9 loop s.1 s.2.1 s.2.2) n ((v : Int), (k : Int), (j : Int)) = if dv c < 10 then (if 5 < k then some (0, 0, 190) else loop9 (((10 * v + dv c : Nat) : Int), ((k + 1 : Nat) : Int))) else f_number_Read_k3 t0 v k
  | 0, j, h1, h2 => by have := dv_le c; omega
  | n + 1, j, h1, h2 => by
    rw [iter_succ, f_number_Read_b3]
    dsimp only
    have hle := dv_le c
    by_cases hj : j < 10
    · have ih := read_inner t0 c k hk hc v hv hk2 loop9 n (j + 1) (by omega)
      rw [cd_pos (by omega), G_pos (by omega), G_pos (by rfl), G_pos (by omega), Int.toNat_natCast, Int.toNat_natCast, hc]
      by_cases he : dv c = j
      · have e1 : tab_number_digits.getD j 0 = c := (dg_eq hj).2 he
        rw [cond_pos (by rw [e1]; exact beq_self_eq_true c), if_pos (by omega)]
        by_cases h5 : 5 < k
        · rw [cond_pos (by simp; omega), if_pos h5]
        · rw [cond_neg (by simp; omega), if_neg h5, G_inR (by omega), G_inR (by omega), G_inR (by omega)]
          congr 2
          omega
      · have e1 : ¬ tab_number_digits.getD j 0 = c := fun h => he ((dg_eq hj).1 h)
        rw [cond_neg (beq_eq_false_iff_ne.2 e1), G_inR (by omega)]
        exact ih (by omega)
    · rw [cd_neg (by omega), if_neg (by omega)]
/-- The digits at the beginning of a list, and their value. -/
def dgs (l : List Int) : List Int := l.takeWhile fun c => decide (dv c < 10)
def vl (v : Nat) (l : List Int) : Nat := l.foldl (fun a c => 10 * a + dv c) v
theorem vl_le : ∀ (l : List Int) (v : Nat), (∀ c ∈ l, dv c < 10) → vl v l < (v + 1) * 10 ^ l.length
  | [], v, h => by simp [vl]
  | c :: l, v, h => by
    have h1 := h c (List.mem_cons_self ..)
    have := vl_le l (10 * v + dv c) fun d hd => h d (List.mem_cons_of_mem _ hd)
    have e : vl v (c :: l) = vl (10 * v + dv c) l := rfl
    rw [e, List.length_cons, Nat.pow_succ]
    refine Nat.lt_of_lt_of_le this ?_
    rw [← Nat.mul_assoc, Nat.mul_right_comm]
    exact Nat.mul_le_mul_right _ (by omega)
def rerr : Int × Int × Int := (0, 0, 190)
theorem read_outer (t0 : List Int) : ∀ (n k v : Nat), t0.length < n + k → 1 ≤ k → k ≤ t0.length → k ≤ 6 → v < 10 ^ (k - 1) →
    iter (fun loop (s : Int × Int) => f_number_Read_b4 t0 loop s.1 s.2) n ((v : Int), (k : Int)) = if 6 < k + (dgs (t0.drop k)).length then some rerr else f_number_Read_k3 t0 ((vl v (dgs (t0.drop k)) : Nat) : Int) ((k + (dgs (t0.drop k)).length : Nat) : Int)
  | 0, k, v, h1, h2, h3, h4, h5 => by omega
  | n + 1, k, v, h1, h2, h3, h4, h5 => by
    rw [iter_succ, f_number_Read_b4]
    dsimp only
    have hv : v < 1000000000 := by
      have : 10 ^ (k - 1) ≤ 10 ^ 6 := Nat.pow_le_pow_right (by omega) (by omega)
      omega
    by_cases hk : k < t0.length
    · have ed : t0.drop k = t0.getD k 0 :: t0.drop (k + 1) := getD_drop t0 k 0 hk
      rw [cond_pos (by simpa using hk)]
      have hin := read_inner t0 (t0.getD k 0) k hk rfl v hv (by omega) (fun s => iter (fun loop (s : Int × Int) => f_number_Read_b4 t0 loop s.1 s.2) n s) 1000000 0 (by omega) (by omega)
      refine Eq.trans hin ?_
      generalize hc : t0.getD k 0 = c at ed
      by_cases hd : dv c < 10
      · have ed2 : dgs (t0.drop k) = c :: dgs (t0.drop (k + 1)) := by
          rw [ed]; unfold dgs
          rw [List.takeWhile_cons_of_pos (by simpa using hd)]
        rw [if_pos hd, ed2]
        by_cases h6 : 5 < k
        · rw [if_pos h6, if_pos (by rw [List.length_cons]; omega)]; rfl
        · have ih := read_outer t0 n (k + 1) (10 * v + dv c) (by omega) (by omega) (by omega) (by omega) (by
            have e : 10 ^ (k + 1 - 1) = 10 ^ (k - 1) * 10 := by rw [← Nat.pow_succ]; congr 1; omega
            rw [e]; omega)
          rw [if_neg h6]
          refine Eq.trans ih ?_
          have el : k + 1 + (dgs (t0.drop (k + 1))).length = k + (c :: dgs (t0.drop (k + 1))).length := by rw [List.length_cons]; omega
          rw [el]
          rfl
      · have ed2 : dgs (t0.drop k) = [] := by
          rw [ed]; unfold dgs
          rw [List.takeWhile_cons_of_neg (by simpa using hd)]
        rw [if_neg hd, ed2, if_neg (by simp; omega)]
        rfl
    · have ed2 : dgs (t0.drop k) = [] := by
        rw [List.drop_eq_nil_of_le (by omega)]; rfl
      rw [cond_neg (by simpa using hk), ed2, if_neg (by simp; omega)]
      rfl
/-- What is read: a number that was written, with no digit behind it. -/
def nd (l : List Int) : Prop := ∀ c r, l = c :: r → ¬ dv c < 10
def Dec (l : List Int) (n : Nat) (r : List Int) : Prop := l = wr n ++ r ∧ n ≤ 99999 ∧ nd r
theorem wr_digits (n : Nat) (c : Int) (h : c ∈ (wr n).tail) : dv c < 10 := by
  unfold wr at h
  rw [List.tail_cons] at h
  obtain ⟨x, hx, rfl⟩ := List.mem_map.1 h
  have := decs_in 5 n x hx
  rw [dv_dg _ (by omega)]
  omega
theorem takeWhile_app {α : Type} (p : α → Bool) (a b : List α) (ha : ∀ x ∈ a, p x = true) (hb : ∀ c r, b = c :: r → p c = false) : (a ++ b).takeWhile p = a := by
  rw [List.takeWhile_append_of_pos ha]
  match b, hb with
  | [], _ => simp
  | c :: r, hb => rw [List.takeWhile_cons_of_neg (by rw [hb c r rfl]; simp)]; simp
theorem wr_cons (n : Nat) : wr n = 60 :: (wr n).tail := by unfold wr; rfl
theorem Dec.dgs {l : List Int} {n : Nat} {r : List Int} (h : Dec l n r) : l = 60 :: ((wr n).tail ++ r) ∧ dgs (l.drop 1) = (wr n).tail := by
  obtain ⟨h1, h2, h3⟩ := h
  have e : l = 60 :: ((wr n).tail ++ r) := by
    rw [h1]; conv => lhs; rw [wr_cons]
    rfl
  refine ⟨e, ?_⟩
  rw [e]
  exact takeWhile_app _ _ _ (fun c hc => decide_eq_true (wr_digits n c hc)) (fun c r' hr => decide_eq_false (h3 c r' hr))
theorem Dec.unique {l : List Int} {n m : Nat} {r s : List Int} (h : Dec l n r) (h' : Dec l m s) : n = m ∧ r = s := by
  have e1 := h.dgs.2
  rw [h'.dgs.2] at e1
  have e2 : wr n = wr m := by rw [wr_cons n, wr_cons m, e1]
  have e3 := wr_inj n m h.2.1 h'.2.1 e2
  subst e3
  exact ⟨rfl, List.append_cancel_left (h.1.symm.trans h'.1)⟩
/-- The digits of a value. -/
theorem vl_append (v : Nat) (a : List Int) (c : Int) : vl v (a ++ [c]) = 10 * vl v a + dv c := by
  unfold vl; rw [List.foldl_append]; rfl
theorem vl_pos : ∀ (l : List Int) (v : Nat), 0 < v → 0 < vl v l
  | [], v, h => h
  | c :: l, v, h => vl_pos l (10 * v + dv c) (by omega)
theorem decs_of_digits : ∀ (m : Nat) (l : List Int), l.length = m + 1 → (∀ c ∈ l, dv c < 10) → (m = 0 ∨ ∃ c r, l = c :: r ∧ 0 < dv c) → ∀ k, m + 1 ≤ k → decs k (vl 0 l) = l.map fun c => 48 + (dv c : Int)
  | 0, l, hl, hd, h0, k, hk => by
    match l, hl with
    | [c], _ =>
      have := hd c (List.mem_cons_self ..)
      obtain ⟨k, rfl⟩ : ∃ j, k = j + 1 := ⟨k - 1, by omega⟩
      have e : vl 0 [c] = dv c := by simp [vl]
      rw [e, decs, if_pos this]
      rfl
  | m + 1, l, hl, hd, h0, k, hk => by
    obtain ⟨a, c, rfl⟩ : ∃ a c, l = a ++ [c] := ⟨l.dropLast, l.getLast (by intro e; rw [e] at hl; simp at hl), (List.dropLast_concat_getLast _).symm⟩
    have hla : a.length = m + 1 := by simp at hl; omega
    have hc := hd c (by simp)
    obtain ⟨k, rfl⟩ : ∃ j, k = j + 1 := ⟨k - 1, by omega⟩
    have h0' : ∃ c' r, a = c' :: r ∧ 0 < dv c' := by
      rcases h0 with h0 | ⟨x, r, e, hx⟩
      · omega
      · match a, hla with
        | y :: a', _ => 
          rw [List.cons_append] at e
          obtain ⟨e1, e2⟩ := List.cons.inj e
          exact ⟨y, a', rfl, by rw [e1]; exact hx⟩
    have hp : 0 < vl 0 a := by
      obtain ⟨c', r, e, hx⟩ := h0'
      rw [e]
      exact vl_pos r (10 * 0 + dv c') (by omega)
    have ih := decs_of_digits m a hla (fun x hx => hd x (by simp [hx])) (.inr h0') k (by omega)
    rw [vl_append, decs, if_neg (by omega), show (10 * vl 0 a + dv c) / 10 = vl 0 a from by omega, show (10 * vl 0 a + dv c) % 10 = dv c from by omega, ih, List.map_append]
    rfl
theorem wr_of_digits (l : List Int) (h1 : 1 ≤ l.length) (h2 : l.length ≤ 5) (hd : ∀ c ∈ l, dv c < 10) (h0 : l.length = 1 ∨ ∃ c r, l = c :: r ∧ 0 < dv c) : wr (vl 0 l) = 60 :: l := by
  have := decs_of_digits (l.length - 1) l (by omega) hd (by rcases h0 with h | h; exact .inl (by omega); exact .inr h) 5 (by omega)
  unfold wr
  rw [this, List.map_map]
  congr 1
  conv => rhs; rw [← List.map_id l]
  refine List.map_congr_left fun c hc => ?_
  simp only [Function.comp, id]
  rw [show ((48 : Int) + (dv c : Int) - 48).toNat = dv c from by omega, dg_dv c (hd c hc)]
theorem wr_lead (n : Nat) (hn : n ≤ 99999) : (wr n).tail.length = 1 ∨ ∃ c r, (wr n).tail = c :: r ∧ 0 < dv c := by
  have key : ∀ (k m : Nat), m < 10 ^ k → 0 < k → (decs k m).length = 1 ∨ ∃ c r, decs k m = c :: r ∧ 48 < c := by
    intro k
    induction k with
    | zero => intro m _ h; omega
    | succ k ih =>
      intro m hm _
      rw [decs]
      by_cases h : m < 10
      · rw [if_pos h]; exact .inl rfl
      · rw [if_neg h]
        have hk : 0 < k := by
          rcases Nat.eq_zero_or_pos k with e | e
          · subst e; simp at hm; omega
          · exact e
        have h1 : m / 10 < 10 ^ k := by rw [Nat.div_lt_iff_lt_mul (by omega)]; rw [Nat.pow_succ] at hm; exact hm
        right
        rcases ih (m / 10) h1 hk with e | ⟨c, r, e, hc⟩
        · obtain ⟨k, rfl⟩ : ∃ j, k = j + 1 := ⟨k - 1, by omega⟩
          rw [decs] at e ⊢
          by_cases h10 : m / 10 < 10
          · rw [if_pos h10]; exact ⟨_, _, rfl, by omega⟩
          · rw [if_neg h10] at e
            have : 1 ≤ (decs k (m / 10 / 10)).length := by
              match k, h1, h10 with
              | 0, h1, h10 => simp at h1; omega
              | k + 1, _, _ => rw [decs]; split <;> simp
            simp at e
            rw [e] at this
            simp at this
        · rw [e]; exact ⟨c, _, rfl, hc⟩
  have e : (wr n).tail = (decs 5 n).map fun x => dg (x - 48).toNat := by unfold wr; rfl
  rw [e]
  rcases key 5 n (by omega) (by omega) with h | ⟨c, r, h, hc⟩
  · left; simpa using h
  · right
    rw [h]
    have := decs_in 5 n c (by rw [h]; simp)
    refine ⟨_, _, rfl, ?_⟩
    rw [dv_dg _ (by omega)]
    omega
end Go.Proofs.YtdegmbjhedfffaaDoor
