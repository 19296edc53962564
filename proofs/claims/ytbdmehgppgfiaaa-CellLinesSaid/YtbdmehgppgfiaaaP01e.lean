/-
  Own work. Chapter 01, plain part: lines.
-/
import Derived.Test.YtbdmehgppgfiaaaP01m
set_option linter.unusedSimpArgs false
set_option linter.unusedVariables false
set_option maxRecDepth 100000
set_option linter.unusedSimpArgs false
set_option linter.unusedVariables false
namespace Go.Proofs.Ytbdmehgppgfiaaa
open Go.Abs

theorem same_loop (t0 t1 : List Int) (hl : t0.length = t1.length) (hb : t0.length < 1000000000) : ∀ (n i : Nat), t0.length < n + i → i ≤ t0.length →
    iter (fun loop (s : Int) => f_R01_Same_b1 t0 t1 loop s) n (i : Int) = some (decide (t0.drop i = t1.drop i))
  | 0, i, h1, h2 => by omega
  | n + 1, i, h1, h2 => by
    rw [iter_succ]
    rw [f_R01_Same_b1]
    by_cases h : i < t0.length
    · have ih := same_loop t0 t1 hl hb n (i + 1) (by omega) (by omega)
      rw [cond_pos (by simpa using h), G_pos (by omega), G_pos (by omega), G_inR (by omega)]
      rw [getD_drop t0 i 0 h, getD_drop t1 i 0 (by omega)]
      simp only [Int.toNat_natCast]
      by_cases he : t0.getD i 0 = t1.getD i 0
      · rw [cond_neg (by rw [he]; exact bne_self_eq_false _)]
        rw [show ((i : Int) + 1) = ((i + 1 : Nat) : Int) from by omega, ih]
        simp only [he, List.cons.injEq, true_and]
      · rw [cond_pos (bne_iff_ne.2 he)]
        have : ¬ (t0.getD i 0 :: t0.drop (i + 1) = t1.getD i 0 :: t1.drop (i + 1)) := fun e => he (List.cons.inj e).1
        rw [decide_eq_false this]
    · rw [cond_neg (by simpa using h)]
      have e : i = t0.length := by omega
      rw [List.drop_eq_nil_of_le (by omega), List.drop_eq_nil_of_le (by omega)]
      simp
theorem f_same (t0 t1 : List Int) (hb : t0.length < 900000) : f_R01_Same t0 t1 = some (decide (t0 = t1)) := by
  unfold f_R01_Same
  by_cases hl : t0.length = t1.length
  · rw [cond_neg (by simp [hl])]
    have := same_loop t0 t1 hl (by omega) 1000000 0 (by omega) (by omega)
    simpa using this
  · rw [cond_pos (by simp; omega)]
    have : ¬ t0 = t1 := fun e => hl (by rw [e])
    simp [this]

/-- What a byte stands for, and whether it stands for a cell. -/
def cv (b : UInt8) : Int := tbl.getD b.toNat 0
def okb (b : UInt8) : Bool := cv b != 255
def lv (l : List UInt8) : List Int := l.map cv
def line (l : List UInt8) : List Int × Int × Int := if l.all okb = true then (lv l, (l.length : Int), 0) else ([], ((l.takeWhile okb).length : Int), 10)
theorem line_good {l : List UInt8} (h : l.all okb = true) : line l = (lv l, (l.length : Int), 0) := if_pos h
theorem take_step (l : List UInt8) (i : Nat) (h : i < l.length) : l.take (i + 1) = l.take i ++ [l.getD i 0] := by
  rw [List.take_add_one, List.getElem?_eq_getElem h, List.getD_eq_getElem?_getD, List.getElem?_eq_getElem h]
  rfl
theorem line_bad {l : List UInt8} {i : Nat} (h : i < l.length) (h1 : (l.take i).all okb = true) (h2 : okb (l.getD i 0) = false) : line l = ([], (i : Int), 10) := by
  have e : l = l.take i ++ (l.getD i 0 :: l.drop (i + 1)) := by
    have h4 := List.take_append_drop i l
    rw [getD_drop l i 0 h] at h4
    exact h4.symm
  have hn : ¬ l.all okb = true := by
    intro h3
    rw [e, List.all_append, List.all_cons, h2] at h3
    simp at h3
  unfold line
  rw [if_neg hn]
  have h5 : (l.takeWhile okb).length = i := by
    rw [e, List.takeWhile_append_of_pos (fun a ha => List.all_eq_true.1 h1 a ha), List.takeWhile_cons_of_neg (by rw [h2]; simp)]
    simp
    omega
  rw [h5]
theorem bad_at {l : List UInt8} (h : ¬ l.all okb = true) : (l.takeWhile okb).length < l.length ∧ okb (l.getD (l.takeWhile okb).length 0) = false ∧ (l.take (l.takeWhile okb).length).all okb = true := by
  induction l with
  | nil => simp at h
  | cons a l ih =>
    by_cases ha : okb a = true
    · rw [List.takeWhile_cons_of_pos ha]
      have := ih (by intro h3; apply h; rw [List.all_cons, ha, h3]; rfl)
      simp only [List.length_cons, List.getD_cons_succ, List.take_succ_cons, List.all_cons, ha, Bool.true_and]
      exact ⟨by omega, this.2⟩
    · rw [List.takeWhile_cons_of_neg ha]
      simp only [List.length_nil, List.length_cons, List.getD_cons_zero, List.take_zero, List.all_nil, and_true]
      exact ⟨by omega, by simpa using ha⟩
theorem set_mid (a : List Int) (n : Nat) (i : Nat) (x : Int) (h : a.length = i) : (a ++ List.replicate (n + 1) 0).set i x = (a ++ [x]) ++ List.replicate n 0 := by
  subst h
  simp [List.set_append, List.replicate_succ]
theorem len_bytes (s : ByteArray) : s.data.toList.length = s.size := by simp
theorem cv_eq (s : ByteArray) (i : Nat) : tbl.getD (bAt s i).toNat 0 = cv (s.data.toList.getD i 0) := by
  rw [bAt_nat, Int.toNat_natCast]; rfl
theorem bAt_in (s : ByteArray) (i : Nat) : 0 ≤ bAt s i ∧ bAt s i < 256 := by
  rw [bAt_nat]
  have := bAt_lt s i
  omega
theorem line_loop (s : ByteArray) (hs : s.size < 900000) : ∀ (n i : Nat), s.size < n + i → i ≤ s.size → (s.data.toList.take i).all okb = true →
    iter (fun loop (x : (List Int) × (List Int) × Int) => f_cell_Line_b1 s loop x.1 x.2.1 x.2.2) n (tbl, lv (s.data.toList.take i) ++ List.replicate (s.size - i) 0, (i : Int)) = some (line s.data.toList)
  | 0, i, h1, h2, h3 => by omega
  | n + 1, i, h1, h2, h3 => by
    rw [iter_succ, f_cell_Line_b1]
    dsimp only
    have hl : (lv (s.data.toList.take i)).length = i := by unfold lv; rw [List.length_map, List.length_take, len_bytes]; omega
    by_cases hi : i < s.size
    · have hset := set_mid (lv (s.data.toList.take i)) (s.size - i - 1) i (cv (s.data.toList.getD i 0)) hl
      rw [show s.size - i - 1 + 1 = s.size - i from by omega] at hset
      have hget : ((lv (s.data.toList.take i) ++ [cv (s.data.toList.getD i 0)]) ++ List.replicate (s.size - i - 1) 0).getD i 0 = cv (s.data.toList.getD i 0) := by
        rw [List.append_assoc, List.getD_eq_getElem?_getD, List.getElem?_append_right (by omega), hl]
        simp
      rw [cond_pos (by simpa using hi), G_pos (by omega), G_pos (bAt_in s i), G_pos tbl_len, Int.toNat_natCast, cv_eq, hset, hget,
        G_pos (by rw [List.length_append, hl, List.length_replicate]; omega), G_pos (by rw [List.length_append, List.length_append, hl, List.length_replicate]; simp; omega)]
      by_cases hb : okb (s.data.toList.getD i 0) = true
      · have ih := line_loop s hs n (i + 1) (by omega) (by omega) (by rw [take_step _ i (by rw [len_bytes]; exact hi), List.all_append, h3]; simp only [List.all_cons, List.all_nil, hb]; rfl)
        rw [cond_neg (by unfold okb at hb; simpa using hb), G_inR (by omega)]
        rw [take_step _ i (by rw [len_bytes]; exact hi)] at ih
        unfold lv at ih ⊢
        rw [List.map_append, List.map_singleton, show s.size - (i + 1) = s.size - i - 1 from by omega, show ((i + 1 : Nat) : Int) = (i : Int) + 1 from by omega] at ih
        exact ih
      · have hb' : okb (s.data.toList.getD i 0) = false := by simpa using hb
        rw [cond_pos (by unfold okb at hb'; simpa using hb'), line_bad (by rw [len_bytes]; exact hi) h3 hb']
    · have hi' : i = s.size := by omega
      rw [cond_neg (by simpa using hi), hi', Nat.sub_self, List.replicate_zero, List.append_nil, List.take_of_length_le (by rw [len_bytes]; omega)]
      rw [hi', List.take_of_length_le (by rw [len_bytes]; omega)] at h3
      rw [line_good h3, len_bytes]
theorem f_line (s : ByteArray) (hs : s.size < 900000) : f_cell_Line s = some (line s.data.toList) := by
  unfold f_cell_Line
  have := line_loop s hs 1000000 0 (by omega) (by omega) (by rfl)
  rw [bind_some' byBytes_eq, G_pos (by kernel_rfl), G_pos tbl_len, G_pos (by omega), Int.toNat_natCast]
  exact this
theorem refLine_loop (s : ByteArray) (hs : s.size < 900000) : ∀ (n i : Nat), s.size < n + i → i ≤ s.size → (s.data.toList.take i).all okb = true →
    iter (fun loop (x : (List Int) × Int) => f_R01_Line_b1 s loop x.1 x.2) n (lv (s.data.toList.take i), (i : Int)) = some (line s.data.toList)
  | 0, i, h1, h2, h3 => by omega
  | n + 1, i, h1, h2, h3 => by
    rw [iter_succ, f_R01_Line_b1]
    dsimp only
    have hl : (lv (s.data.toList.take i)).length = i := by unfold lv; rw [List.length_map, List.length_take, len_bytes]; omega
    by_cases hi : i < s.size
    · have hfa := f_refFa (s.data.toList.getD i 0).toNat (bAt_lt s i)
      rw [cond_pos (by simpa using hi), G_pos (by omega), bAt_nat, bind_some' hfa]
      by_cases hb : okb (s.data.toList.getD i 0) = true
      · have hb2 : ¬ tbl.getD (s.data.toList.getD i 0).toNat 0 = 255 := by unfold okb cv at hb; simpa using hb
        have hfa2 : fa (s.data.toList.getD i 0).toNat = (cv (s.data.toList.getD i 0), 0) := if_neg hb2
        have ih := refLine_loop s hs n (i + 1) (by omega) (by omega) (by rw [take_step _ i (by rw [len_bytes]; exact hi), List.all_append, h3]; simp only [List.all_cons, List.all_nil, hb]; rfl)
        rw [hfa2, cond_neg (by rfl), G_room (by rw [hl]; omega), G_inR (by omega)]
        rw [take_step _ i (by rw [len_bytes]; exact hi)] at ih
        unfold lv at ih ⊢
        rw [List.map_append, List.map_singleton, show ((i + 1 : Nat) : Int) = (i : Int) + 1 from by omega] at ih
        exact ih
      · have hb' : okb (s.data.toList.getD i 0) = false := by simpa using hb
        have hb2 : tbl.getD (s.data.toList.getD i 0).toNat 0 = 255 := by unfold okb cv at hb'; simpa using hb'
        have hfa2 : fa (s.data.toList.getD i 0).toNat = (0, 10) := if_pos hb2
        rw [hfa2, cond_pos (by rfl), line_bad (by rw [len_bytes]; exact hi) h3 hb']
    · have hi' : i = s.size := by omega
      rw [cond_neg (by simpa using hi), hi', List.take_of_length_le (by rw [len_bytes]; omega)]
      rw [hi', List.take_of_length_le (by rw [len_bytes]; omega)] at h3
      rw [line_good h3, len_bytes]
theorem f_refLine (s : ByteArray) (hs : s.size < 900000) : f_R01_Line s = some (line s.data.toList) := by
  unfold f_R01_Line
  exact refLine_loop s hs 1000000 0 (by omega) (by omega) (by rfl)
theorem line_len (l : List UInt8) : (line l).1.length ≤ l.length := by
  unfold line
  split
  · unfold lv; simp
  · simp
theorem law_matches (t0 : List Int) (t1 : ByteArray) (t2 : Int) (h0 : okArr 2 (okInt .u8) t0) (h2 : 0 ≤ t2 ∧ t2 ≤ 255) : f_L01_CellMatchesReference t0 t1 t2 = some true := by
  obtain ⟨up, hu, eu⟩ := tmod64 _ (okArr_getD h0 0)
  obtain ⟨m, hm, em⟩ := tmod64 _ (okArr_getD h0 1)
  obtain ⟨c, hc, ec⟩ := tmod64 _ h2
  obtain ⟨t2, rfl⟩ : ∃ n : Nat, t2 = (n : Int) := ⟨t2.toNat, by omega⟩
  unfold f_L01_CellMatchesReference
  rw [bind_some' sanity_true, bind_some' (f_fa t2 (by omega)), bind_some' (f_refFa t2 (by omega))]
  by_cases hs : t1.size ≤ 12
  · obtain ⟨p, hp⟩ : ∃ p, f_cell_Parse t1 = some p := by
      rcases parse_spec t1 (by omega) with ⟨c, _, _, h⟩ | ⟨_, h⟩ <;> exact ⟨_, h⟩
    have hsame := f_same (line t1.data.toList).1 (line t1.data.toList).1 (by have := line_len t1.data.toList; rw [len_bytes] at this; omega)
    rw [decide_eq_true rfl] at hsame
    have hfelt : f_R01_Felt (t0.getD 0 0) (t0.getD 1 0) = some ⟨up, m⟩ := by unfold f_R01_Felt; rw [eu, em]
    have hv : ∃ b, f_cell_Valid (t0.getD 0 0) = some b ∧ f_R01_Valid (t0.getD 0 0) = some b := ⟨_, rfl, rfl⟩
    obtain ⟨b, hv1, hv2⟩ := hv
    have nt : ∀ b : Bool, cond true b false = b := fun b => rfl
    rw [cond_neg (by simp; omega), bind_some' hp, bind_some' (by rw [f_refParse t1 (by omega)]; exact hp), bind_some' (f_line t1 (by omega)), bind_some' (f_refLine t1 (by omega))]
    rw [bne_self_eq_false, bne_self_eq_false, bne_self_eq_false, bne_self_eq_false]
    rw [bind_some' (a := true) (by exact hsame), bne_self_eq_false, bne_self_eq_false, cond_neg (by rfl), bind_some' hfelt, bind_some' (by exact hv1), bind_some' (by exact hv2), eu, em, ec]
    rw [beq_self_eq_true, bind_some' (by exact f_dots up hu), bind_some' (by exact f_refDots up hu), beq_self_eq_true, bind_some' (by exact (f_asc up hu).1), bind_some' (by exact (f_asc up hu).2.1), beq_self_eq_true]
    rw [bind_some' (by exact (f_D up m hu hm).1), bind_some' (by exact (f_D up m hu hm).2.1), beq_self_eq_true, bind_some' (by exact (f_M up hu).1), bind_some' (by exact (f_M up hu).2.1), beq_self_eq_true]
    rw [bind_some' (by exact f_fits up m c hu hm hc), bind_some' (by exact f_refFits up m c hu hm hc), beq_self_eq_true, bind_some' (by exact f_cost up m c hu hm hc), bind_some' (by exact f_refCost up m c hu hm hc), beq_self_eq_true]
    rfl
  · rw [cond_pos (by simp; omega)]
theorem plain_CellMatchesReference {t0 : List Int} {t1 : ByteArray} {t2 : Int} (h0 : okArr 2 (okInt .u8) t0) (h1 : okStr t1) (h2 : okInt .u8 t2) : f_L01_CellMatchesReference t0 t1 t2 = some true := law_matches t0 t1 t2 h0 h2
end Go.Proofs.Ytbdmehgppgfiaaa
