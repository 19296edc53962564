/-
  Own work. Numbers, plain part: what the two readers read.
-/
import Derived.Test.YtdegmbjhedfffaaDoorPNe
set_option linter.unusedSimpArgs false
set_option linter.unusedVariables false
set_option maxRecDepth 100000
set_option linter.unusedSimpArgs false
set_option linter.unusedVariables false
namespace Go.Proofs.YtdegmbjhedfffaaDoor
open Go.Abs
def goodD (ds : List Int) : Prop := 1 ≤ ds.length ∧ ds.length ≤ 5 ∧ (ds.length = 1 ∨ ∃ c r, ds = c :: r ∧ 0 < dv c)
theorem dgs_digits (l : List Int) : ∀ c ∈ dgs l, dv c < 10 := fun c hc => by
  have h : (dgs l).all (fun c => decide (dv c < 10)) = true := List.all_takeWhile
  have := List.all_eq_true.1 h c hc
  simpa using this
theorem vl_bound (ds : List Int) (hd : ∀ c ∈ ds, dv c < 10) (h : ds.length ≤ 5) : vl 0 ds ≤ 99999 := by
  have := vl_le ds 0 hd
  have h2 : 10 ^ ds.length ≤ 10 ^ 5 := Nat.pow_le_pow_right (by omega) h
  omega
theorem dec_of (cs : List Int) (h : goodD (dgs cs)) : Dec (60 :: cs) (vl 0 (dgs cs)) (cs.dropWhile fun c => decide (dv c < 10)) ∧ (wr (vl 0 (dgs cs))).length = 1 + (dgs cs).length := by
  have hw := wr_of_digits (dgs cs) h.1 h.2.1 (dgs_digits cs) h.2.2
  refine ⟨⟨?_, vl_bound _ (dgs_digits cs) h.2.1, ?_⟩, ?_⟩
  · rw [hw, List.cons_append]
    congr 1
    exact (List.takeWhile_append_dropWhile).symm
  · intro c r e hlt
    have h1 := List.head?_dropWhile_not (p := fun c => decide (dv c < 10)) (l := cs)
    rw [e] at h1
    simp at h1
    omega
  · rw [hw, List.length_cons]; omega
theorem dec_good {cs : List Int} {n : Nat} {r : List Int} (h : Dec (60 :: cs) n r) : goodD (dgs cs) := by
  have e := h.dgs.2
  rw [List.drop_succ_cons, List.drop_zero] at e
  rw [e]
  have h1 := wr_len n
  have h2 := wr_lead n h.2.1
  rw [wr_cons n, List.length_cons] at h1
  exact ⟨by omega, by omega, h2⟩
/-- What a reader of numbers does. -/
def RS (f : List Int → Option (Int × Int × Int)) : Prop := ∀ l, l.length < 900000 →
  (f l = some (0, 0, 190) ∧ ∀ n r, ¬ Dec l n r) ∨ ∃ n r, Dec l n r ∧ f l = some ((n : Int), ((wr n).length : Int), 0)
theorem rs_of (f : List Int → Option (Int × Int × Int)) (h0 : f [] = some (0, 0, 190)) (h1 : ∀ c cs, c ≠ 60 → f (c :: cs) = some (0, 0, 190))
    (h2 : ∀ cs, cs.length < 900000 → goodD (dgs cs) → f (60 :: cs) = some ((vl 0 (dgs cs) : Int), ((1 + (dgs cs).length : Nat) : Int), 0))
    (h3 : ∀ cs, cs.length < 900000 → ¬ goodD (dgs cs) → f (60 :: cs) = some (0, 0, 190)) : RS f := by
  intro l hl
  match l with
  | [] => exact .inl ⟨h0, fun n r h => by have := h.dgs.1; simp at this⟩
  | c :: cs =>
    by_cases hc : c = 60
    · subst hc
      by_cases hg : goodD (dgs cs)
      · obtain ⟨a, b⟩ := dec_of cs hg
        exact .inr ⟨_, _, a, by rw [b]; exact h2 cs (by simp at hl; omega) hg⟩
      · exact .inl ⟨h3 cs (by simp at hl; omega) hg, fun n r h => hg (dec_good h)⟩
    · exact .inl ⟨h1 c cs hc, fun n r h => by have := h.dgs.1; simp at this; exact hc this.1⟩
theorem rs_eq {f g : List Int → Option (Int × Int × Int)} (hf : RS f) (hg : RS g) (l : List Int) (hl : l.length < 900000) : ∃ x, f l = some x ∧ g l = some x := by
  rcases hf l hl with ⟨a, b⟩ | ⟨n, r, a, b⟩
  · rcases hg l hl with ⟨c, d⟩ | ⟨m, s, c, d⟩
    · exact ⟨_, a, c⟩
    · exact absurd c (b m s)
  · rcases hg l hl with ⟨c, d⟩ | ⟨m, s, c, d⟩
    · exact absurd a (d n r)
    · obtain ⟨rfl, rfl⟩ := a.unique c
      exact ⟨_, b, d⟩
theorem goodD_lead {ds : List Int} (h1 : 1 ≤ ds.length) (h5 : ds.length ≤ 5) : goodD ds ↔ (ds.length = 1 ∨ dv (ds.getD 0 0) ≠ 0) := by
  match ds, h1 with
  | c :: r, _ =>
    constructor
    · rintro ⟨_, _, h | ⟨c', r', e, h⟩⟩
      · exact .inl h
      · right; simp at e ⊢; rw [e.1]; omega
    · rintro (h | h)
      · exact ⟨by omega, h5, .inl h⟩
      · exact ⟨by simp, h5, .inr ⟨c, r, rfl, by simp at h; omega⟩⟩
theorem dgs_head (cs : List Int) (h : 1 ≤ (dgs cs).length) : (dgs cs).getD 0 0 = cs.getD 0 0 := by
  match cs with
  | [] => simp [dgs] at h
  | c :: cs =>
    unfold dgs at h ⊢
    by_cases hd : dv c < 10
    · rw [List.takeWhile_cons_of_pos (by simpa using hd)]; rfl
    · rw [List.takeWhile_cons_of_neg (by simpa using hd)] at h; simp at h
theorem dgs_le (cs : List Int) : (dgs cs).length ≤ cs.length := by
  have h : (cs.takeWhile fun c => decide (dv c < 10)).length + (cs.dropWhile fun c => decide (dv c < 10)).length = cs.length := by
    rw [← List.length_append, List.takeWhile_append_dropWhile]
  unfold dgs; omega
theorem dv_zero (c : Int) : dv c = 0 ↔ c = 26 := by
  constructor
  · intro h
    have := dg_dv c (by omega)
    rw [h] at this
    exact this.symm
  · rintro rfl; rfl
theorem read_k3 (cs : List Int) (v k : Nat) (hk : k = 1 + (dgs cs).length) (h5 : (dgs cs).length ≤ 5) : f_number_Read_k3 (60 :: cs) v k = if (dgs cs).length = 0 ∨ (2 ≤ (dgs cs).length ∧ dv ((dgs cs).getD 0 0) = 0) then some (0, 0, 190) else some ((v : Int), (k : Int), 0) := by
  unfold f_number_Read_k3
  have hle := dgs_le cs
  rw [G_pos (by
    intro h
    simp at h
    simp
    omega)]
  have e : (60 :: cs).getD (1 : Int).toNat 0 = cs.getD 0 0 := rfl
  have e2 : tab_number_digits.getD (0 : Int).toNat 0 = 26 := rfl
  rw [e, e2]
  by_cases h : (dgs cs).length = 0 ∨ (2 ≤ (dgs cs).length ∧ dv ((dgs cs).getD 0 0) = 0)
  · rw [if_pos h, cond_pos]
    rcases h with h | ⟨h, h'⟩
    · have : k = 1 := by omega
      subst this; rfl
    · rw [dgs_head cs (by omega), dv_zero] at h'
      rw [h', or_tt, and_tt]
      simp
      omega
  · rw [if_neg h, cond_neg]
    rw [or_tt, and_tt]
    simp only [Bool.or_eq_false_iff, Bool.and_eq_false_iff, beq_eq_false_iff_ne, decide_eq_false_iff_not]
    refine ⟨by omega, ?_⟩
    by_cases h2 : 2 ≤ (dgs cs).length
    · right
      intro e
      rw [← dv_zero, ← dgs_head cs (by omega)] at e
      exact h (.inr ⟨h2, e⟩)
    · left; omega
theorem number_rs : RS f_number_Read := by
  have start : ∀ cs : List Int, cs.length < 900000 → f_number_Read (60 :: cs) = if 6 < 1 + (dgs cs).length then some rerr else f_number_Read_k3 (60 :: cs) ((vl 0 (dgs cs) : Nat) : Int) ((1 + (dgs cs).length : Nat) : Int) := by
    intro cs hl
    unfold f_number_Read
    rw [G_pos (by simp), cond_neg (by simp; omega)]
    exact read_outer (60 :: cs) 1000000 1 0 (by simp; omega) (by omega) (by simp) (by omega) (by simp)
  refine rs_of _ (by kernel_rfl) ?_ ?_ ?_
  · intro c cs hc
    unfold f_number_Read
    rw [G_pos (by simp), cond_pos (by simp [hc])]
  · intro cs hl hg
    rw [start cs hl, if_neg (by have := hg.2.1; omega), read_k3 cs _ _ rfl hg.2.1, if_neg]
    · have := hg.1
      rw [goodD_lead hg.1 hg.2.1] at hg
      omega
  · intro cs hl hg
    rw [start cs hl]
    by_cases h6 : 6 < 1 + (dgs cs).length
    · rw [if_pos h6]; rfl
    · rw [if_neg h6, read_k3 cs _ _ rfl (by omega), if_pos]
      by_cases h0 : (dgs cs).length = 0
      · exact .inl h0
      · rw [goodD_lead (by omega) (by omega)] at hg
        omega
theorem isDigit_loop (c : Int) : ∀ n j : Nat, 10 < n + j → j ≤ dv c → iter (fun loop (s : Int) => f_R19_IsDigit_b1 c loop s) n (j : Int) = some (decide (dv c < 10))
  | 0, j, h1, h2 => by have := dv_le c; omega
  | n + 1, j, h1, h2 => by
    rw [iter_succ, f_R19_IsDigit_b1]
    have hle := dv_le c
    by_cases hj : j < 10
    · rw [cd_pos (by omega), bind_some' (f_digit j hj)]
      by_cases he : dv c = j
      · rw [cb_pos ((dg_eq hj).2 he), decide_eq_true (by omega)]
      · rw [cb_neg (fun e => he ((dg_eq hj).1 e)), G_inR (by omega)]
        exact isDigit_loop c n (j + 1) (by omega) (by omega)
    · rw [cd_neg (by omega), decide_eq_false (by omega)]
theorem f_isDigit (c : Int) : f_R19_IsDigit c = some (decide (dv c < 10)) := isDigit_loop c 1000000 0 (by omega) (by omega)
theorem refRead_inner (t0 : List Int) (c : Int) (k : Nat) (hk : k < t0.length) (hc : t0.getD k 0 = c) (hd : dv c < 10) (v : Nat) (hv : v < 1000000000) (hk2 : k < 1000000000) (loop5 : Int × Int → Option (Int × Int × Int)) : ∀ n j : Nat, 10 < n + j → j ≤ 10 →
    iter (fun loop (s : Int × Int) => f_R19_Read_b1 t0 loop5 (k : Int) loop s.1 s.2) n (((if j ≤ dv c then v else 10 * v + dv c : Nat) : Int), (j : Int)) = loop5 (((k + 1 : Nat) : Int), ((10 * v + dv c : Nat) : Int))
  | 0, j, h1, h2 => by omega
  | n + 1, j, h1, h2 => by
    rw [iter_succ, f_R19_Read_b1]
    dsimp only
    by_cases hj : j < 10
    · have ih := refRead_inner t0 c k hk hc hd v hv hk2 loop5 n (j + 1) (by omega) (by omega)
      rw [cd_pos (by omega), bind_some' (f_digit j hj), G_pos (by omega), Int.toNat_natCast, hc]
      by_cases he : dv c = j
      · rw [cb_pos ((dg_eq hj).2 he), if_pos (by omega), G_inR (by omega), G_inR (by omega)]
        unfold f_R19_Read_k1
        rw [G_inR (by omega)]
        rw [if_neg (by omega)] at ih
        rw [show (10 : Int) * (v : Int) + (j : Int) = ((10 * v + dv c : Nat) : Int) from by omega]
        exact ih
      · rw [cb_neg (fun e => he ((dg_eq hj).1 e))]
        unfold f_R19_Read_k1
        rw [G_inR (by omega)]
        have e : (if j + 1 ≤ dv c then v else 10 * v + dv c) = if j ≤ dv c then v else 10 * v + dv c := by
          by_cases h : j + 1 ≤ dv c
          · rw [if_pos h, if_pos (by omega)]
          · rw [if_neg h, if_neg (by omega)]
        rw [e] at ih
        exact ih
    · rw [cd_neg (by omega), G_inR (by omega), if_neg (by omega)]
      congr 2
/-- The end of the reference's reading. -/
def refEnd (t0 : List Int) (k v : Nat) : Option (Int × Int × Int) :=
  if 99999 < v ∨ k = 1 ∨ 6 < k ∨ wr v ≠ t0.take k then some (0, 0, 190) else some ((v : Int), (k : Int), 0)
theorem refRead_outer (t0 : List Int) (ht : t0.length < 1000000) : ∀ (n k v : Nat), t0.length < n + k → 1 ≤ k → k ≤ t0.length → k ≤ 7 → v < 10 ^ (k - 1) →
    iter (fun loop (s : Int × Int) => f_R19_Read_b2 t0 loop s.1 s.2) n ((k : Int), (v : Int)) = refEnd t0 (k + ((dgs (t0.drop k)).take (7 - k)).length) (vl v ((dgs (t0.drop k)).take (7 - k)))
  | 0, k, v, h1, h2, h3, h4, h5 => by omega
  | n + 1, k, v, h1, h2, h3, h4, h5 => by
    rw [iter_succ, f_R19_Read_b2]
    dsimp only
    have hv : v < 1000000000 := by
      have : 10 ^ (k - 1) ≤ 10 ^ 7 := Nat.pow_le_pow_right (by omega) (by omega)
      omega
    rw [G_pos (fun h => by simp at h; omega)]
    have fin : (f_R19_Write (v : Int)).bind (fun x21 =>
        G ((!(cond (cond (x21.2 != (0 : Int)) true ((k : Int) == (1 : Int))) true (decide ((6 : Int) < (k : Int))))) = true → (0 ≤ (k : Int) ∧ (k : Int) ≤ (t0.length : Int))) <|
        (cond (!(cond (cond (x21.2 != (0 : Int)) true ((k : Int) == (1 : Int))) true (decide ((6 : Int) < (k : Int))))) (f_R01_Same x21.1 (t0.take (k : Int).toNat)) (some false)).bind fun x23 =>
        cond (cond (cond (cond (x21.2 != (0 : Int)) true ((k : Int) == (1 : Int))) true (decide ((6 : Int) < (k : Int)))) true (!x23)) (
          some ((0 : Int), (0 : Int), (190 : Int))) (
          some ((v : Int), (k : Int), (0 : Int)))) = refEnd t0 k v := by
      unfold refEnd
      by_cases hb : 99999 < v
      · rw [bind_some' (f_refWrite_bad v (by omega)), if_pos (.inl hb)]
        rw [G_pos (fun _ => by omega)]
        rfl
      · rw [bind_some' (f_refWrite v (by omega)), G_pos (fun _ => by omega)]
        dsimp only
        by_cases h1 : k = 1
        · subst h1; rw [if_pos (by omega)]; rfl
        · by_cases h6 : 6 < k
          · rw [if_pos (by omega)]
            have : k = 7 := by omega
            subst this; rfl
          · have e1 : (cond (cond ((0 : Int) != (0 : Int)) true ((k : Int) == (1 : Int))) true (decide ((6 : Int) < (k : Int)))) = false := by
              rw [or_tt, or_tt]; simp; omega
            rw [e1]
            have hs := f_same (wr v) (t0.take k) (by have := wr_len v; omega)
            rw [Int.toNat_natCast]
            rw [bind_some' (by exact hs)]
            by_cases hw : wr v = t0.take k
            · rw [decide_eq_true hw, if_neg (by
                rintro (h | h | h | h)
                · exact hb h
                · exact h1 h
                · exact h6 h
                · exact h hw)]
              rfl
            · rw [decide_eq_false hw, if_pos (.inr (.inr (.inr hw)))]
              rfl
    by_cases hk : k < t0.length
    · have ed : t0.drop k = t0.getD k 0 :: t0.drop (k + 1) := getD_drop t0 k 0 hk
      rw [cd_pos (by omega), Int.toNat_natCast, bind_some' (f_isDigit _)]
      generalize hc : t0.getD k 0 = c at ed
      rw [cd_pos (by omega)]
      by_cases hd : dv c < 10
      · have ed2 : dgs (t0.drop k) = c :: dgs (t0.drop (k + 1)) := by
          rw [ed]; unfold dgs
          rw [List.takeWhile_cons_of_pos (by simpa using hd)]
        rw [decide_eq_true hd]
        by_cases h7 : k < 7
        · rw [cond_pos (by simp; omega)]
          have hin := refRead_inner t0 c k hk hc hd v hv (by omega) (fun s => iter (fun loop (s : Int × Int) => f_R19_Read_b2 t0 loop s.1 s.2) n s) 1000000 0 (by omega) (by omega)
          rw [if_pos (by omega)] at hin
          refine Eq.trans hin ?_
          have ih := refRead_outer t0 ht n (k + 1) (10 * v + dv c) (by omega) (by omega) (by omega) (by omega) (by
            have e : 10 ^ (k + 1 - 1) = 10 ^ (k - 1) * 10 := by rw [← Nat.pow_succ]; congr 1; omega
            rw [e]; omega)
          refine Eq.trans ih ?_
          rw [ed2, show 7 - k = (7 - (k + 1)) + 1 from by omega, List.take_succ_cons, List.length_cons]
          rw [show k + 1 + ((dgs (t0.drop (k + 1))).take (7 - (k + 1))).length = k + (((dgs (t0.drop (k + 1))).take (7 - (k + 1))).length + 1) from by omega]
          rfl
        · rw [cond_neg (b := cond true _ _) (by simp; omega)]
          rw [show 7 - k = 0 from by omega, List.take_zero]
          exact fin
      · have ed2 : dgs (t0.drop k) = [] := by
          rw [ed]; unfold dgs
          rw [List.takeWhile_cons_of_neg (by simpa using hd)]
        rw [decide_eq_false hd, ed2, List.take_nil]
        exact fin
    · have ed2 : dgs (t0.drop k) = [] := by
        rw [List.drop_eq_nil_of_le (by omega)]; rfl
      rw [cd_neg (by omega), ed2, List.take_nil]
      rw [Option.bind_some, cd_neg (by omega)]
      exact fin
theorem ref_rs : RS f_R19_Read := by
  have start : ∀ cs : List Int, cs.length < 900000 → cs ≠ [] → f_R19_Read (60 :: cs) = refEnd (60 :: cs) (1 + ((dgs cs).take 6).length) (vl 0 ((dgs cs).take 6)) := by
    intro cs hl hne
    have : 0 < cs.length := by rcases cs with _ | _ <;> simp at hne ⊢
    unfold f_R19_Read
    rw [G_pos (by simp), cond_neg (by simp; omega)]
    exact refRead_outer (60 :: cs) (by simp; omega) 1000000 1 0 (by simp; omega) (by omega) (by simp) (by omega) (by simp)
  refine rs_of _ (by kernel_rfl) ?_ ?_ ?_
  · intro c cs hc
    unfold f_R19_Read
    rw [G_pos (by simp), cond_pos (by simp [hc])]
  · intro cs hl hg
    have h1 := hg.1
    have h5 := hg.2.1
    have hle := dgs_le cs
    rw [start cs hl (by intro e; subst e; have e0 : (dgs []).length = 0 := rfl; omega), List.take_of_length_le (by omega)]
    unfold refEnd
    have hw := wr_of_digits (dgs cs) h1 h5 (dgs_digits cs) hg.2.2
    have hb := vl_bound (dgs cs) (dgs_digits cs) h5
    rw [if_neg]
    rintro (h | h | h | h)
    · omega
    · omega
    · omega
    · apply h
      rw [hw, Nat.add_comm, List.take_succ_cons]
      congr 1
      have : dgs cs ++ cs.dropWhile (fun c => decide (dv c < 10)) = cs := List.takeWhile_append_dropWhile
      conv => rhs; rw [← this]
      rw [List.take_left']
      rw [this]
  · intro cs hl hg
    by_cases hne : cs = []
    · subst hne; kernel_rfl
    · rw [start cs hl hne]
      unfold refEnd
      rw [if_pos]
      by_cases h0 : (dgs cs).length = 0
      · right; left; rw [List.length_take]; omega
      · by_cases h6 : 6 ≤ (dgs cs).length
        · right; right; left; rw [List.length_take]; omega
        · rw [List.take_of_length_le (by omega)]
          right; right; right
          intro e
          apply hg
          refine ⟨by omega, by omega, ?_⟩
          have hb := vl_bound (dgs cs) (dgs_digits cs) (by omega)
          have hl := wr_lead _ hb
          have et : (wr (vl 0 (dgs cs))).tail = dgs cs := by
            rw [e, Nat.add_comm, List.take_succ_cons, List.tail_cons]
            have : dgs cs ++ cs.dropWhile (fun c => decide (dv c < 10)) = cs := List.takeWhile_append_dropWhile
            conv => lhs; rw [← this]
            rw [List.take_left']
            rw [this]
          rw [et] at hl
          exact hl
end Go.Proofs.YtdegmbjhedfffaaDoor
