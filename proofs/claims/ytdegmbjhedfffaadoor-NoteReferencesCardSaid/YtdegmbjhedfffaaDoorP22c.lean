/-
  Own work. Chapter 22, plain part: clean cells; references are written.
-/
import Derived.Test.YtdegmbjhedfffaaDoorP22b
set_option linter.unusedSimpArgs false
set_option linter.unusedVariables false
set_option maxRecDepth 100000
set_option linter.unusedSimpArgs false
set_option linter.unusedVariables false
namespace Go.Proofs.YtdegmbjhedfffaaDoor
open Go.Abs
/-- Clean cells, from a place on: z says whether a blank (or nothing) is ahead. -/
def scan : Bool → List Int → Bool
  | z, [] => !z
  | z, c :: r => decide (c < 64) && !(z && decide (c = 0)) && scan (decide (c = 0)) r
def cl (l : List Int) : Bool := scan true l
def zat (t : List Int) (i : Nat) : Bool := decide (i = 0 ∨ t.getD (i - 1) 0 = 0)
theorem clean_loop (t : List Int) (hb : t.length < 900000) : ∀ (n i : Nat), t.length < n + i → i ≤ t.length →
    ∃ k, iter (fun loop (s : Int) => f_line_Clean_b1 t loop s) n (i : Int) = some (k, scan (zat t i) (t.drop i))
  | 0, i, h1, h2 => by omega
  | n + 1, i, h1, h2 => by
    rw [iter_succ, f_line_Clean_b1]
    by_cases h : i < t.length
    · obtain ⟨k, ih⟩ := clean_loop t hb n (i + 1) (by omega) (by omega)
      rw [cond_pos (by simpa using h), G_pos (by omega), Int.toNat_natCast, f_cell_Valid, bind_some' rfl, getD_drop t i 0 h, scan]
      have hz : zat t (i + 1) = decide (t.getD i 0 = 0) := by unfold zat; simp
      rw [hz] at ih
      generalize t.getD i 0 = c at ih ⊢
      rw [G_pos (fun hc => by
        simp only [Bool.and_eq_true, Bool.not_eq_true', beq_eq_false_iff_ne] at hc
        unfold inR; omega), G_pos (fun hc => by
        simp only [Bool.and_eq_true, Bool.not_eq_true', beq_eq_false_iff_ne] at hc
        omega)]
      have hzi : (cond ((i : Int) == 0) true (t.getD ((i : Int) - 1).toNat 0 == 0)) = zat t i := by
        unfold zat
        by_cases h0 : i = 0
        · subst h0; rfl
        · rw [cond_neg (beq_eq_false_iff_ne.2 (by omega)), show ((i : Int) - 1).toNat = i - 1 from by omega]
          rw [Bool.eq_iff_iff]
          simp [h0]
      rw [hzi]
      by_cases hc : c < 64
      · by_cases hb2 : zat t i = true ∧ c = 0
        · rw [cond_pos (b := cond _ _ _) (by rw [hb2.1, beq_iff_eq.2 hb2.2]; simp [hc])]
          exact ⟨(i : Int), by rw [hb2.1, hb2.2]; rfl⟩
        · rw [cond_neg (b := cond _ _ _) (by
            rw [decide_eq_true hc]
            by_cases h0 : c = 0
            · have : zat t i = false := by
                cases hz2 : zat t i
                · rfl
                · exact absurd ⟨hz2, h0⟩ hb2
              rw [this, beq_iff_eq.2 h0]; rfl
            · rw [beq_eq_false_iff_ne.2 h0]; rfl), G_inR (by omega), show (i : Int) + 1 = ((i + 1 : Nat) : Int) from by omega, ih]
          refine ⟨k, ?_⟩
          have : (zat t i && decide (c = 0)) = false := by
            cases hz2 : zat t i
            · rfl
            · have : ¬ c = 0 := fun e => hb2 ⟨hz2, e⟩
              simp [this]
          rw [this, decide_eq_true hc]
          rfl
      · rw [cond_pos (b := cond _ _ _) (by rw [decide_eq_false hc]; rfl)]
        exact ⟨_, by rw [decide_eq_false hc]; rfl⟩
    · obtain rfl : i = t.length := by omega
      rw [cond_neg (by simp), List.drop_eq_nil_of_le (Nat.le_refl _), scan]
      by_cases h0 : t.length = 0
      · rw [cb_pos (by omega)]
        exact ⟨0, by unfold zat; simp [h0]⟩
      · rw [cb_neg (by omega), G_inR (by omega), G_pos (by omega), show ((t.length : Int) - 1).toNat = t.length - 1 from by omega]
        by_cases hl : t.getD (t.length - 1) 0 = 0
        · rw [cb_pos hl]
          exact ⟨(t.length : Int) - 1, by unfold zat; rw [decide_eq_true (.inr hl)]; rfl⟩
        · rw [cb_neg hl]
          exact ⟨_, by unfold zat; rw [decide_eq_false (by simp only [not_or]; exact ⟨h0, hl⟩)]; rfl⟩
theorem f_clean (t : List Int) (hb : t.length < 900000) : ∃ k, f_line_Clean t = some (k, cl t) := clean_loop t hb 1000000 0 (by omega) (by omega)
theorem index_loop (t : List Int) (c : Int) (hb : t.length < 900000) : ∀ (n i : Nat), t.length < n + i → i ≤ t.length →
    ∃ x, iter (fun loop (s : Int) => f_slices_Index_api_Cell_b1 t c loop s) n (i : Int) = some x ∧ (0 ≤ x ↔ c ∈ t.drop i)
  | 0, i, h1, h2 => by omega
  | n + 1, i, h1, h2 => by
    rw [iter_succ, f_slices_Index_api_Cell_b1]
    by_cases h : i < t.length
    · obtain ⟨x, ih, hx⟩ := index_loop t c hb n (i + 1) (by omega) (by omega)
      rw [cond_pos (by simpa using h), G_pos (by omega), Int.toNat_natCast, getD_drop t i 0 h]
      by_cases hc : c = t.getD i 0
      · rw [cb_pos hc]
        exact ⟨_, rfl, by rw [← hc]; simp <;> omega⟩
      · rw [cb_neg hc, G_inR (by omega), show (i : Int) + 1 = ((i + 1 : Nat) : Int) from by omega, ih]
        exact ⟨x, rfl, by rw [hx, List.mem_cons]; simp only [hc, false_or]⟩
    · rw [cond_neg (by simpa using h), List.drop_eq_nil_of_le (by omega)]
      exact ⟨_, rfl, by simp⟩
theorem f_contains (t : List Int) (c : Int) (hb : t.length < 900000) : f_slices_Contains_api_Cell t c = some (decide (c ∈ t)) := by
  unfold f_slices_Contains_api_Cell
  obtain ⟨x, h1, h2⟩ := index_loop t c hb 1000000 0 (by omega) (by omega)
  rw [show f_slices_Index_api_Cell t c = some x from h1]
  simp only [Option.bind_some, Option.some.injEq]
  rw [List.drop_zero] at h2
  rw [decide_eq_decide, h2]
theorem f_clone (t : List Int) (hb : t.length < 900000) : f_slices_Clone_api_Cell t = some t := by
  unfold f_slices_Clone_api_Cell
  rw [G_room (by simp; omega)]
  rfl
/-- The same, part by part. -/
def noadj : Bool → List Int → Bool
  | _, [] => true
  | z, c :: r => !(z && decide (c = 0)) && noadj (decide (c = 0)) r
def lastz : Bool → List Int → Bool
  | z, [] => z
  | _, c :: r => lastz (decide (c = 0)) r
theorem scan_parts : ∀ (z : Bool) (l : List Int), scan z l = (l.all (fun c => decide (c < 64)) && noadj z l && !lastz z l)
  | z, [] => by simp [scan, noadj, lastz]
  | z, c :: r => by
    rw [scan, scan_parts _ r, noadj, lastz, List.all_cons]
    cases decide (c < 64) <;> cases (!(z && decide (c = 0))) <;> simp
theorem lastz_last : ∀ (l : List Int) (z : Bool), l ≠ [] → lastz z l = decide (l.getD (l.length - 1) 0 = 0)
  | [c], z, _ => by simp [lastz]
  | c :: d :: r, z, _ => by
    rw [lastz, lastz_last (d :: r) _ (by simp)]
    simp
theorem valid_loop (t : List Int) (hb : t.length < 900000) : ∀ (n i : Nat), t.length < n + i → i ≤ t.length →
    iter (fun loop (s : Int) => f_R01_ValidAll_b1 t loop s) n (i : Int) = some ((t.drop i).all fun c => decide (c < 64))
  | 0, i, h1, h2 => by omega
  | n + 1, i, h1, h2 => by
    rw [iter_succ, f_R01_ValidAll_b1]
    by_cases h : i < t.length
    · rw [cond_pos (by simpa using h), G_pos (by omega), Int.toNat_natCast, getD_drop t i 0 h, List.all_cons]
      by_cases hc : 64 ≤ t.getD i 0
      · rw [cd_pos hc, decide_eq_false (by omega)]
        rfl
      · rw [cd_neg hc, G_inR (by omega), decide_eq_true (show t.getD i 0 < 64 by omega)]
        exact valid_loop t hb n (i + 1) (by omega) (by omega)
    · rw [cond_neg (by simpa using h), List.drop_eq_nil_of_le (by omega)]
      rfl
theorem adj_loop (t : List Int) (hb : t.length < 900000) : ∀ (n i : Nat), t.length < n + i → 1 ≤ i → i ≤ t.length →
    iter (fun loop (s : Int) => f_R22_Clean_b1 t loop s) n (i : Int) = some (noadj (decide (t.getD (i - 1) 0 = 0)) (t.drop i))
  | 0, i, h1, h0, h2 => by omega
  | n + 1, i, h1, h0, h2 => by
    rw [iter_succ, f_R22_Clean_b1]
    by_cases h : i < t.length
    · have ih := adj_loop t hb n (i + 1) (by omega) (by omega) (by omega)
      rw [cond_pos (by simpa using h), G_inR (by omega), G_pos (by omega), G_pos (fun _ => by omega), Int.toNat_natCast, show ((i : Int) - 1).toNat = i - 1 from by omega, getD_drop t i 0 h, noadj, and_tt]
      rw [Nat.add_sub_cancel] at ih
      by_cases hc : t.getD (i - 1) 0 = 0 ∧ t.getD i 0 = 0
      · rw [cond_pos (by rw [Bool.and_eq_true]; exact ⟨beq_iff_eq.2 hc.1, beq_iff_eq.2 hc.2⟩), hc.1, hc.2]
        rfl
      · rw [cond_neg (by
          rw [Bool.and_eq_false_iff]
          by_cases h3 : t.getD (i - 1) 0 = 0
          · exact .inr (beq_eq_false_iff_ne.2 fun e => hc ⟨h3, e⟩)
          · exact .inl (beq_eq_false_iff_ne.2 h3)), G_inR (by omega), show (i : Int) + 1 = ((i + 1 : Nat) : Int) from by omega, ih]
        have : (decide (t.getD (i - 1) 0 = 0) && decide (t.getD i 0 = 0)) = false := by
          rw [← Bool.decide_and, decide_eq_false hc]
        rw [this]
        rfl
    · rw [cond_neg (by simpa using h), List.drop_eq_nil_of_le (by omega)]
      rfl
theorem f_refClean (t : List Int) (hb : t.length < 900000) : f_R22_Clean t = some (cl t) := by
  unfold f_R22_Clean
  have hv := valid_loop t hb 1000000 0 (by omega) (by omega)
  rw [show f_R01_ValidAll t = _ from hv, Option.bind_some, List.drop_zero]
  unfold cl
  rw [scan_parts]
  cases ht : t with
  | nil => rfl
  | cons c r =>
    rw [← ht]
    have hl : 0 < t.length := by rw [ht]; simp
    have hc : t.getD 0 0 = c := by rw [ht]; rfl
    rw [G_pos (fun _ => by omega), G_pos (fun _ => by unfold inR; omega), G_pos (fun _ => by omega), or_tt, or_tt, or_tt]
    rw [show ((t.length : Int) - 1).toNat = t.length - 1 from by omega, show (0 : Int).toNat = 0 from rfl]
    rw [beq_eq_false_iff_ne.2 (show ¬ (t.length : Int) = 0 by omega), Bool.false_or]
    have hlz := lastz_last t true (by rw [ht]; simp)
    rw [hlz]
    generalize (t.all fun c => decide (c < 64)) = va
    cases va
    · rw [cond_pos (by simp)]; simp
    · by_cases h0 : t.getD 0 0 = 0
      · rw [cond_pos (by rw [beq_iff_eq.2 h0]; simp)]
        have : noadj true t = false := by
          rw [ht, noadj]
          rw [hc] at h0
          rw [h0]; rfl
        rw [this]; simp
      · by_cases hz : t.getD (t.length - 1) 0 = 0
        · rw [cond_pos (by rw [beq_iff_eq.2 hz]; simp), decide_eq_true hz]; simp
        · rw [cond_neg (by rw [beq_eq_false_iff_ne.2 hz, beq_eq_false_iff_ne.2 h0]; rfl), decide_eq_false hz]
          refine (adj_loop t hb 1000000 1 (by omega) (by omega) (by omega)).trans ?_
          rw [Nat.sub_self]
          have : noadj true t = noadj (decide (t.getD 0 0 = 0)) (t.drop 1) := by
            rw [hc]
            rw [hc] at h0
            rw [ht, noadj, decide_eq_false h0]; rfl
          rw [this]
          simp
theorem plain_loop (t : List Int) (b : Bool) (hb : t.length < 900000) : ∀ (n i : Nat), t.length < n + i → i ≤ t.length →
    iter (fun loop (s : Int) => f_R22_Plain_b1 t b loop s) n (i : Int) = some (b && decide (63 ∉ t.drop i))
  | 0, i, h1, h2 => by omega
  | n + 1, i, h1, h2 => by
    rw [iter_succ, f_R22_Plain_b1]
    by_cases h : i < t.length
    · rw [cond_pos (by simpa using h), G_pos (by omega), Int.toNat_natCast, getD_drop t i 0 h]
      by_cases hc : t.getD i 0 = 63
      · rw [cb_pos hc, hc]
        simp
      · rw [cb_neg hc, G_inR (by omega), show (i : Int) + 1 = ((i + 1 : Nat) : Int) from by omega, plain_loop t b hb n (i + 1) (by omega) (by omega)]
        congr 2
        rw [decide_eq_decide, List.mem_cons]
        simp only [not_or]
        exact ⟨fun h => ⟨fun e => hc e.symm, h⟩, fun h => h.2⟩
    · rw [cond_neg (by simpa using h), List.drop_eq_nil_of_le (by omega)]
      simp
/-- Plain cells. -/
def plB (l : List Int) : Bool := cl l && decide (63 ∉ l)
theorem f_plain (t : List Int) (hb : t.length < 900000) : f_R22_Plain t = some (plB t) := by
  unfold f_R22_Plain
  rw [bind_some' (f_refClean t hb)]
  exact plain_loop t _ hb 1000000 0 (by omega) (by omega)
/-- Numbers of notes that follow one another; their references. -/
def okF : Option Int → List Int → Bool
  | _, [] => true
  | p, n :: r => decide (1 ≤ n) && decide (n ≤ 99999) && p.all (fun m => decide (n = m + 1)) && okF (some n) r
def tl (ns : List Int) : List Int := ns.flatMap fun n => 0 :: 63 :: wr n.toNat
def prv (t : List Int) (i : Nat) : Option Int := if i = 0 then none else some (t.getD (i - 1) 0)
theorem prv_succ (t : List Int) (i : Nat) : prv t (i + 1) = some (t.getD i 0) := by simp [prv]
def refS (l ns : List Int) : List Int × Int := if plB l then (if okF none ns then (l ++ tl ns, 0) else ([], 220)) else ([], 180)
theorem refer_step {t : List Int} {i : Nat} (htl : t.length ≤ 1000) (hi : i < t.length) (hp : ∀ m, prv t i = some m → 1 ≤ m ∧ m ≤ 99999) :
    (((!(cond (decide (t.getD i 0 < 1)) true (decide (99999 < t.getD i 0)))) && decide ((0 : Int) < (i : Int))) = true → inR ((i : Int) - 1)) ∧
    (((!(cond (decide (t.getD i 0 < 1)) true (decide (99999 < t.getD i 0)))) && decide ((0 : Int) < (i : Int))) = true → (0 ≤ (i : Int) - 1 ∧ (i : Int) - 1 < t.length)) ∧
    (((!(cond (decide (t.getD i 0 < 1)) true (decide (99999 < t.getD i 0)))) && decide ((0 : Int) < (i : Int))) = true → inR (t.getD ((i : Int) - 1).toNat 0 + 1)) ∧
    (cond (cond (decide (t.getD i 0 < 1)) true (decide (99999 < t.getD i 0))) true (cond (decide ((0 : Int) < (i : Int))) (t.getD i 0 != t.getD ((i : Int) - 1).toNat 0 + 1) false)) =
      !(decide (1 ≤ t.getD i 0) && decide (t.getD i 0 ≤ 99999) && (prv t i).all (fun m => decide (t.getD i 0 = m + 1))) := by
  by_cases h0 : i = 0
  · subst h0
    refine ⟨by simp, by simp, by simp, ?_⟩
    simp only [prv, if_true, Option.all_none, Bool.and_true]
    rw [or_tt, or_tt, cond_neg (by simp)]
    generalize t.getD 0 0 = x
    rw [show decide (x < 1) = !decide (1 ≤ x) from by rw [← decide_not, decide_eq_decide]; omega, show decide (99999 < x) = !decide (x ≤ 99999) from by rw [← decide_not, decide_eq_decide]; omega]
    cases decide (1 ≤ x) <;> cases decide (x ≤ 99999) <;> rfl
  · have e1 : ((i : Int) - 1).toNat = i - 1 := by omega
    have hpr : prv t i = some (t.getD (i - 1) 0) := by simp [prv, h0]
    have hm := hp _ hpr
    rw [e1, hpr]
    refine ⟨fun _ => by unfold inR; omega, fun _ => by omega, fun _ => by unfold inR; omega, ?_⟩
    rw [or_tt, or_tt, cond_pos (by simp; omega), Option.all_some]
    generalize t.getD (i - 1) 0 = m at hm
    generalize t.getD i 0 = x
    rw [show decide (x < 1) = !decide (1 ≤ x) from by rw [← decide_not, decide_eq_decide]; omega, show decide (99999 < x) = !decide (x ≤ 99999) from by rw [← decide_not, decide_eq_decide]; omega, show (x != m + 1) = !decide (x = m + 1) from by by_cases h : x = m + 1 <;> simp [h]]
    cases decide (1 ≤ x) <;> cases decide (x ≤ 99999) <;> cases decide (x = m + 1) <;> rfl
theorem refer_loop (t : List Int) (ht : t.length ≤ 1000) : ∀ (n i : Nat) (v : List Int), t.length < n + i → i ≤ t.length → v.length + 8 * (t.length - i) ≤ 100000 → (∀ m, prv t i = some m → 1 ≤ m ∧ m ≤ 99999) →
    iter (fun loop (s : (List Int) × Int) => f_note_Refer_b1 t loop s.1 s.2) n (v, (i : Int)) = some (if okF (prv t i) (t.drop i) then (v ++ tl (t.drop i), 0) else ([], 220))
  | 0, i, v, h1, h2, h3, h4 => by omega
  | n + 1, i, v, h1, h2, h3, h4 => by
    rw [iter_succ]
    dsimp only
    rw [f_note_Refer_b1]
    by_cases h : i < t.length
    · obtain ⟨g1, g2, g3, g4⟩ := refer_step ht h h4
      rw [cond_pos (by simpa using h), G_pos (by omega), Int.toNat_natCast, G_pos g1, G_pos g2, G_pos g3, g4, getD_drop t i 0 h, okF]
      have hpn := prv_succ t i
      generalize hx : t.getD i 0 = x at hpn
      cases hok : (decide (1 ≤ x) && decide (x ≤ 99999) && (prv t i).all (fun m => decide (x = m + 1)))
      · rw [cond_pos (by rfl), Bool.false_and, if_neg (by simp)]
      · have hr : 1 ≤ x ∧ x ≤ 99999 := by
          simp only [Bool.and_eq_true, decide_eq_true_eq] at hok
          exact hok.1
        have hw := wr_len x.toNat
        rw [cond_neg (by rfl), bind_some' (n_write x), writeS_pos (by omega), cn_neg rfl, G_room (by omega), G_room (by simp; omega), G_inR (by omega), show (i : Int) + 1 = ((i + 1 : Nat) : Int) from by omega]
        have ih := refer_loop t ht n (i + 1) ((v ++ [0, 63]) ++ wr x.toNat) (by omega) (by omega) (by simp; omega) (fun m hm => by rw [hpn] at hm; cases hm; exact hr)
        rw [ih, Bool.true_and, hpn]
        unfold tl
        rw [List.flatMap_cons]
        simp
    · rw [cond_neg (by simpa using h), List.drop_eq_nil_of_le (by omega), okF]
      simp [tl]
theorem f_refer (l ns : List Int) (hl : l.length ≤ 10000) (hn : ns.length ≤ 1000) : f_note_Refer l ns = some (refS l ns) := by
  unfold f_note_Refer refS plB
  obtain ⟨k, hk⟩ := f_clean l (by omega)
  rw [bind_some' hk]
  dsimp only
  cases hc : cl l
  · rw [bind_some' (a := false) (by rfl), cond_pos (by rfl)]
    rfl
  · rw [bind_some' (a := decide (63 ∈ l)) (by rw [cond_pos (by rfl)]; exact f_contains l 63 (by omega))]
    by_cases h63 : (63 : Int) ∈ l
    · rw [cond_pos (b := cond _ _ _) (by simp [h63]), if_neg (by simp [h63])]
    · rw [cond_neg (b := cond _ _ _) (by simp [h63]), bind_some' (f_clone l (by omega)), if_pos (by simp [h63])]
      exact refer_loop ns hn 1000000 0 l (by omega) (by omega) (by omega) (fun m hm => by simp [prv] at hm)
theorem refRefer_loop (t : List Int) (ht : t.length ≤ 1000) : ∀ (n i : Nat) (v : List Int), t.length < n + i → i ≤ t.length → v.length + 8 * (t.length - i) ≤ 100000 → (∀ m, prv t i = some m → 1 ≤ m ∧ m ≤ 99999) →
    iter (fun loop (s : (List Int) × Int) => f_R22_Refer_b1 t loop s.1 s.2) n (v, (i : Int)) = some (if okF (prv t i) (t.drop i) then (v ++ tl (t.drop i), 0) else ([], 220))
  | 0, i, v, h1, h2, h3, h4 => by omega
  | n + 1, i, v, h1, h2, h3, h4 => by
    rw [iter_succ]
    dsimp only
    rw [f_R22_Refer_b1]
    by_cases h : i < t.length
    · obtain ⟨g1, g2, g3, g4⟩ := refer_step ht h h4
      rw [cond_pos (by simpa using h), G_pos (by omega), Int.toNat_natCast, G_pos g1, G_pos g2, G_pos g3, g4, getD_drop t i 0 h, okF]
      have hpn := prv_succ t i
      generalize hx : t.getD i 0 = x at hpn
      cases hok : (decide (1 ≤ x) && decide (x ≤ 99999) && (prv t i).all (fun m => decide (x = m + 1)))
      · rw [cond_pos (by rfl), Bool.false_and, if_neg (by simp)]
      · have hr : 1 ≤ x ∧ x ≤ 99999 := by
          simp only [Bool.and_eq_true, decide_eq_true_eq] at hok
          exact hok.1
        have hw := wr_len x.toNat
        rw [cond_neg (by rfl), bind_some' (r_write x), writeS_pos (by omega), G_room (by omega), G_room (by simp; omega), G_inR (by omega), show (i : Int) + 1 = ((i + 1 : Nat) : Int) from by omega]
        have ih := refRefer_loop t ht n (i + 1) ((v ++ [0, 63]) ++ wr x.toNat) (by omega) (by omega) (by simp; omega) (fun m hm => by rw [hpn] at hm; cases hm; exact hr)
        rw [ih, Bool.true_and, hpn]
        unfold tl
        rw [List.flatMap_cons]
        simp
    · rw [cond_neg (by simpa using h), List.drop_eq_nil_of_le (by omega), okF]
      simp [tl]
theorem f_refRefer (l ns : List Int) (hl : l.length ≤ 10000) (hn : ns.length ≤ 1000) : f_R22_Refer l ns = some (refS l ns) := by
  unfold f_R22_Refer refS
  rw [bind_some' (f_plain l (by omega))]
  cases plB l
  · rw [cond_pos (by rfl)]
    rfl
  · rw [cond_neg (by rfl), G_room (by simp; omega), if_pos rfl]
    exact refRefer_loop ns hn 1000000 0 ([] ++ l) (by omega) (by omega) (by simp; omega) (fun m hm => by simp [prv] at hm)
end Go.Proofs.YtdegmbjhedfffaaDoor
