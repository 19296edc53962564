/-
  Own work. Chapter 01, plain part: texts and lines, laws.
-/
import Derived.Test.YtbdmehgppgfiaaaP01e
set_option linter.unusedSimpArgs false
set_option linter.unusedVariables false
set_option maxRecDepth 100000
set_option linter.unusedSimpArgs false
set_option linter.unusedVariables false
namespace Go.Proofs.Ytbdmehgppgfiaaa
open Go.Abs

theorem asc_nat (c : Nat) (hc : c < 64) : ∃ a : Nat, asc c = (a : Int) ∧ a < 256 ∧ fa a = ((c : Int), 0) := by
  obtain ⟨_, _, h3, h4, h5⟩ := f_asc c hc
  refine ⟨(asc c).toNat, by omega, by omega, h3⟩
theorem texts_end (t0 : ByteArray) (t1 : Nat) (h1 : t1 < 256) (hs : t0.size ≤ 8) : ((f_cell_Parse t0).bind fun x12 =>
      (f_cell_FromAscii t1).bind fun x13 =>
      (cond ((x12.2 == 0) && (!(decide (64 ≤ x12.1)))) (f_cell_Dots x12.1) (some ByteArray.empty)).bind fun x14 =>
      cond (cond (x12.2 == 0) (cond (decide (64 ≤ x12.1)) true (!(x14.toList == t0.toList))) false) (
        some false) (
        (cond ((true && (!(x13.2 != 0))) && (decide (x13.1 < 64))) (f_cell_Ascii x13.1) (some 0)).bind fun x16 =>
        some (cond true (cond (x13.2 != 0) true (cond (decide (x13.1 < 64)) (x16 == (t1 : Int)) false)) false))) = some true := by
  have hfin : ((cond ((true && (!((fa t1).2 != 0))) && (decide ((fa t1).1 < 64))) (f_cell_Ascii (fa t1).1) (some 0)).bind fun x16 =>
        some (cond true (cond ((fa t1).2 != 0) true (cond (decide ((fa t1).1 < 64)) (x16 == (t1 : Int)) false)) false)) = some true := by
    rcases fa_asc t1 h1 with h | ⟨c, hc, h, ha⟩
    · rw [h]; rfl
    · rw [h, bind_some' (a := asc c) (by rw [cond_pos (by simp; omega)]; exact (f_asc c hc).1), ha, beq_self_eq_true]
      have : decide ((c : Int) < 64) = true := decide_eq_true (by omega)
      rw [this]
      rfl
  rcases parse_spec t0 (by omega) with ⟨c, hc, h1', h2⟩ | ⟨_, h2⟩
  · rw [bind_some' h2, bind_some' (f_fa t1 h1), bind_some' (a := dots c) (by rw [cond_pos (by simp; omega)]; exact f_dots c hc), h1', beq_self_eq_true, beq_self_eq_true]
    have : decide (64 ≤ (c : Int)) = false := decide_eq_false (by omega)
    rw [this, cond_neg (by rfl)]
    exact hfin
  · rw [bind_some' h2, bind_some' (f_fa t1 h1), bind_some' (a := ByteArray.empty) (by rfl), cond_neg (by rfl)]
    exact hfin
theorem texts_loop (t0 : ByteArray) (t1 : Nat) (h1 : t1 < 256) : ∀ (n k : Nat), k ≤ 64 → 64 < n + k →
    iter (fun loop (s : Int) => f_L01_CellTexts_b1 t0 t1 true loop s) n (k : Int) = some true
  | 0, k, a1, a2 => by omega
  | n + 1, k, a1, a2 => by
    rw [iter_succ, f_L01_CellTexts_b1]
    by_cases hk : k < 64
    · have ih := texts_loop t0 t1 h1 n (k + 1) (by omega) (by omega)
      obtain ⟨a, ha, ha2, ha3⟩ := asc_nat k hk
      rw [cond_pos (by simp; omega), wrap_u8 (by omega), bind_some' (f_dots k hk), bind_some' (parse_dots k hk), bind_some' (f_asc k hk).1, ha, bind_some' (f_fa a ha2), ha3,
        bne_self_eq_false, bne_self_eq_false, cond_neg (by rfl), G_inR (by omega), show (k : Int) + 1 = ((k + 1 : Nat) : Int) from by omega]
      exact ih
    · rw [cond_neg (by simp; omega)]
      by_cases hs : t0.size ≤ 8
      · rw [cond_neg (by simp; omega)]
        exact texts_end t0 t1 h1 hs
      · rw [cond_pos (by simp; omega)]
theorem law_texts (t0 : ByteArray) (t1 : Int) (h1 : 0 ≤ t1 ∧ t1 ≤ 255) : f_L01_CellTexts t0 t1 = some true := by
  obtain ⟨t1, rfl⟩ : ∃ n : Nat, t1 = (n : Int) := ⟨t1.toNat, by omega⟩
  unfold f_L01_CellTexts
  rw [bind_some' sanity_true]
  exact texts_loop t0 t1 (by omega) 1000000 0 (by omega) (by omega)

/- Lines. -/
def CellsOk (l : List Int) : Prop := ∀ x ∈ l, ∃ c : Nat, c < 64 ∧ x = (c : Int)
theorem take_stepI (l : List Int) (i : Nat) (h : i < l.length) : l.take (i + 1) = l.take i ++ [l.getD i 0] := by
  rw [List.take_add_one, List.getElem?_eq_getElem h, List.getD_eq_getElem?_getD, List.getElem?_eq_getElem h]
  rfl
theorem getD_mem (l : List Int) (i : Nat) (h : i < l.length) : l.getD i 0 ∈ l := by
  rw [List.getD_eq_getElem?_getD, List.getElem?_eq_getElem h]
  exact List.getElem_mem h
theorem cells_loop (t0 : List Int) : ∀ (n i : Nat), 20 < n + i → i ≤ 20 → i ≤ t0.length →
    iter (fun loop (s : (List Int) × Int) => f_R01_Cells_b1 t0 20 loop s.1 s.2) n ((t0.take i).map (fun x => Int.tmod x 64), (i : Int)) = some ((t0.take 20).map fun x => Int.tmod x 64)
  | 0, i, h1, h2, h3 => by omega
  | n + 1, i, h1, h2, h3 => by
    rw [iter_succ, f_R01_Cells_b1]
    dsimp only
    by_cases hi : i < t0.length ∧ i < 20
    · have ih := cells_loop t0 n (i + 1) (by omega) (by omega) (by omega)
      rw [cond_pos (b := cond _ _ _) (by simp; omega), G_pos (by omega), G_room (by rw [List.length_map, List.length_take]; omega), G_inR (by omega), Int.toNat_natCast]
      rw [take_stepI t0 i hi.1, List.map_append, List.map_singleton, show ((i + 1 : Nat) : Int) = (i : Int) + 1 from by omega] at ih
      exact ih
    · rw [cond_neg (b := cond _ _ _) (by simp; omega)]
      by_cases h : i = 20
      · rw [h]
      · rw [List.take_of_length_le (by omega), List.take_of_length_le (by omega)]
theorem f_cells (t0 : List Int) : f_R01_Cells t0 20 = some ((t0.take 20).map fun x => Int.tmod x 64) := by
  unfold f_R01_Cells
  exact cells_loop t0 1000000 0 (by omega) (by omega) (by omega)
def ac (x : Int) : Int := asc x.toNat
theorem show_loop (l : List Int) (h : CellsOk l) (hl : l.length < 900000) : ∀ (n i : Nat), l.length < n + i → i ≤ l.length →
    iter (fun loop (s : (List Int) × Int) => f_cell_Show_b1 l loop s.1 s.2) n ((l.take i).map ac ++ List.replicate (l.length - i) 0, (i : Int)) = some (strOf (l.map ac))
  | 0, i, h1, h2 => by omega
  | n + 1, i, h1, h2 => by
    rw [iter_succ, f_cell_Show_b1]
    dsimp only
    have hll : ((l.take i).map ac).length = i := by rw [List.length_map, List.length_take]; omega
    by_cases hi : i < l.length
    · have ih := show_loop l h hl n (i + 1) (by omega) (by omega)
      obtain ⟨c, hc, he⟩ := h _ (getD_mem l i hi)
      have hac : ac (l.getD i 0) = asc c := by unfold ac; rw [he]; rfl
      have hset := set_mid ((l.take i).map ac) (l.length - i - 1) i (asc c) hll
      rw [show l.length - i - 1 + 1 = l.length - i from by omega] at hset
      rw [take_stepI l i hi, List.map_append, List.map_singleton, hac, show l.length - (i + 1) = l.length - i - 1 from by omega, show ((i + 1 : Nat) : Int) = (i : Int) + 1 from by omega] at ih
      rw [cond_pos (by simpa using hi), G_pos (by omega), Int.toNat_natCast, he, bind_some' (f_asc c hc).1, G_pos (by rw [List.length_append, hll, List.length_replicate]; omega), G_inR (by omega), hset]
      exact ih
    · rw [cond_neg (by simpa using hi), show l.length - i = 0 from by omega, List.replicate_zero, List.append_nil, List.take_of_length_le (by omega)]
theorem f_show (l : List Int) (h : CellsOk l) (hl : l.length < 900000) : f_cell_Show l = some (strOf (l.map ac)) := by
  unfold f_cell_Show
  rw [G_pos (by omega), Int.toNat_natCast]
  exact show_loop l h hl 1000000 0 (by omega) (by omega)
theorem valid_loop (l : List Int) (h : CellsOk l) (hl : l.length < 900000) : ∀ (n i : Nat), l.length < n + i → i ≤ l.length →
    iter (fun loop (s : Int) => f_R01_ValidAll_b1 l loop s) n (i : Int) = some true
  | 0, i, h1, h2 => by omega
  | n + 1, i, h1, h2 => by
    rw [iter_succ, f_R01_ValidAll_b1]
    by_cases hi : i < l.length
    · obtain ⟨c, hc, he⟩ := h _ (getD_mem l i hi)
      rw [cond_pos (by simpa using hi), G_pos (by omega), Int.toNat_natCast, he, cond_neg (by simp; omega), G_inR (by omega), show (i : Int) + 1 = ((i + 1 : Nat) : Int) from by omega]
      exact valid_loop l h hl n (i + 1) (by omega) (by omega)
    · rw [cond_neg (by simpa using hi)]
theorem f_validAll (l : List Int) (h : CellsOk l) (hl : l.length < 900000) : f_R01_ValidAll l = some true := by
  unfold f_R01_ValidAll
  exact valid_loop l h hl 1000000 0 (by omega) (by omega)
theorem cv_of_fa {a c : Nat} (h : fa a = ((c : Int), 0)) (ha : a < 256) : tbl.getD a 0 = (c : Int) ∧ ¬ tbl.getD a 0 = 255 := by
  unfold fa at h
  split at h
  · simp at h
  · rename_i hn
    exact ⟨(Prod.mk.inj h).1, hn⟩
theorem cv_ac (x : Int) (h : ∃ c : Nat, c < 64 ∧ x = (c : Int)) : cv (UInt8.ofNat (ac x).toNat) = x ∧ okb (UInt8.ofNat (ac x).toNat) = true := by
  obtain ⟨c, hc, rfl⟩ := h
  obtain ⟨a, h1, h2, h3⟩ := asc_nat c hc
  have e : UInt8.ofNat (ac (c : Int)).toNat = UInt8.ofNat a := by
    have : ac (c : Int) = (a : Int) := h1
    rw [this]; rfl
  have e2 : (UInt8.ofNat a).toNat = a := by simp; omega
  have e3 := cv_of_fa h3 h2
  have e4 : cv (UInt8.ofNat a) = (c : Int) := by unfold cv; rw [e2]; exact e3.1
  rw [e]
  refine ⟨e4, ?_⟩
  unfold okb
  rw [e4]
  simp
  omega
theorem ac_cv (b : UInt8) (h : okb b = true) : (∃ c : Nat, c < 64 ∧ cv b = (c : Int)) ∧ ac (cv b) = (b.toNat : Int) := by
  have hn : ¬ tbl.getD b.toNat 0 = 255 := by unfold okb cv at h; simpa using h
  have hfa : fa b.toNat = (tbl.getD b.toNat 0, 0) := if_neg hn
  rcases fa_asc b.toNat b.toNat_lt with h1 | ⟨c, hc, h1, h2⟩
  · rw [hfa] at h1; simp at h1
  · rw [hfa] at h1
    have h3 : cv b = (c : Int) := (Prod.mk.inj h1).1
    refine ⟨⟨c, hc, h3⟩, ?_⟩
    rw [h3]
    exact h2
theorem lv_show (l : List Int) (h : CellsOk l) : lv (strOf (l.map ac)).data.toList = l ∧ (strOf (l.map ac)).data.toList.all okb = true := by
  rw [strOf_data, List.map_map]
  unfold lv
  rw [List.map_map]
  constructor
  · conv => rhs; rw [← List.map_id l]
    exact List.map_congr_left fun x hx => (cv_ac x (h x hx)).1
  · rw [List.all_map, List.all_eq_true]
    exact fun x hx => (cv_ac x (h x hx)).2
theorem show_lv (s : ByteArray) (h : s.data.toList.all okb = true) : CellsOk (lv s.data.toList) ∧ strOf ((lv s.data.toList).map ac) = s := by
  have h' := List.all_eq_true.1 h
  constructor
  · intro x hx
    unfold lv at hx
    obtain ⟨b, hb, rfl⟩ := List.mem_map.1 hx
    exact (ac_cv b (h' b hb)).1
  · refine WideShapes.bytes_inj ?_
    rw [strOf_data]
    unfold lv
    rw [List.map_map, List.map_map]
    conv => rhs; rw [← List.map_id s.data.toList]
    refine List.map_congr_left fun b hb => ?_
    have := (ac_cv b (h' b hb)).2
    simp only [Function.comp, this]
    simp
theorem extract_l (s : ByteArray) (k : Nat) : (s.extract 0 k).data.toList = s.data.toList.take k := by
  simp [ByteArray.data_extract]
theorem extract_r (s : ByteArray) (k : Nat) : (s.extract k s.size).data.toList = s.data.toList.drop k := by
  simp [ByteArray.data_extract, List.take_of_length_le]
theorem law_lines (t0 : List Int) (t1 : ByteArray) (t2 : Int) (h0 : okList (okInt .u8) t0) (h2 : 0 ≤ t2 ∧ t2 ≤ 255) : f_L01_CellLines t0 t1 t2 = some true := by
  unfold f_L01_CellLines
  rw [bind_some' sanity_true, bind_some' (f_cells t0)]
  have hc : CellsOk ((t0.take 20).map fun x => Int.tmod x 64) := by
    intro x hx
    obtain ⟨y, hy, rfl⟩ := List.mem_map.1 hx
    exact tmod64 y (h0.1 y (List.mem_of_mem_take hy))
  have hcl : ((t0.take 20).map fun x => Int.tmod x 64).length ≤ 20 := by rw [List.length_map, List.length_take]; omega
  generalize ((t0.take 20).map fun x => Int.tmod x 64) = cs at hc hcl ⊢
  have hsh := lv_show cs hc
  have hsz : (strOf (cs.map ac)).data.toList.length = cs.length := by rw [len_bytes, strOf_size, List.length_map]
  have hln : f_cell_Line (strOf (cs.map ac)) = some (cs, (cs.length : Int), 0) := by
    rw [f_line _ (by rw [strOf_size, List.length_map]; omega), line_good hsh.2, hsh.1, hsz]
  have hsame := f_same cs cs (by omega)
  rw [decide_eq_true rfl] at hsame
  rw [bind_some' (f_show cs hc (by omega)), bind_some' hln]
  dsimp only
  rw [bne_self_eq_false, bne_self_eq_false, bind_some' (a := true) (by exact hsame)]
  by_cases hs : t1.size ≤ 20
  · have d1 : decide (20 < (t1.size : Int)) = false := decide_eq_false (by omega)
    rw [d1, cond_neg (b := cond _ _ _) (by rfl), bind_some' (f_line t1 (by omega))]
    by_cases hg : t1.data.toList.all okb = true
    · rw [line_good hg]
      dsimp only
      rw [bne_self_eq_false, cond_neg (b := false) rfl, wrap_i64 (by omega), G_inR (by omega), G_pos (by omega)]
      have hk : ∃ k : Nat, k ≤ t1.size ∧ Int.tmod t2 ((t1.size : Int) + 1) = (k : Int) := by
        rw [Int.tmod_eq_emod_of_nonneg h2.1]
        have a1 := Int.emod_nonneg t2 (b := (t1.size : Int) + 1) (by omega)
        have a2 := Int.emod_lt_of_pos t2 (b := (t1.size : Int) + 1) (by omega)
        exact ⟨(t2 % ((t1.size : Int) + 1)).toNat, by omega, by omega⟩
      obtain ⟨k, hk1, hk2⟩ := hk
      obtain ⟨hok, hback⟩ := show_lv t1 hg
      have hshow : f_cell_Show (lv t1.data.toList) = some t1 := by rw [f_show _ hok (by unfold lv; rw [List.length_map, len_bytes]; omega), hback]
      have hall := List.all_eq_true.1 hg
      have hgl : (t1.extract 0 k).data.toList.all okb = true := by rw [extract_l]; exact List.all_eq_true.2 fun x hx => hall x (List.mem_of_mem_take hx)
      have hgr : (t1.extract k t1.size).data.toList.all okb = true := by rw [extract_r]; exact List.all_eq_true.2 fun x hx => hall x (List.mem_of_mem_drop hx)
      have hlv : (lv t1.data.toList).length = t1.size := by unfold lv; rw [List.length_map, len_bytes]
      have hj : ([] : List Int) ++ lv (t1.data.toList.take k) ++ lv (t1.data.toList.drop k) = lv t1.data.toList := by
        rw [List.nil_append]
        unfold lv
        rw [← List.map_append, List.take_append_drop]
      have hl1 : (lv (t1.data.toList.take k)).length ≤ 20 := by unfold lv; rw [List.length_map, List.length_take, len_bytes]; omega
      have hl2 : (lv (t1.data.toList.drop k)).length ≤ 20 := by unfold lv; rw [List.length_map, List.length_drop, len_bytes]; omega
      have hsame2 := f_same (lv t1.data.toList) (lv t1.data.toList) (by omega)
      rw [decide_eq_true rfl] at hsame2
      have s1 : (t1.extract 0 k).size < 900000 := by rw [← len_bytes, extract_l, List.length_take, len_bytes]; omega
      have s2 : (t1.extract k t1.size).size < 900000 := by rw [← len_bytes, extract_r, List.length_drop, len_bytes]; omega
      rw [hk2, G_pos (by omega), Int.toNat_natCast, bind_some' (f_line _ s1), line_good hgl, bind_some' (f_line _ s2), line_good hgr, extract_l, extract_r]
      dsimp only
      rw [G_room (by simp; omega), G_room (by rw [List.nil_append]; omega)]
      rw [bind_some' (a := true) (by exact f_validAll _ hok (by omega)), bind_some' (a := t1) (by exact hshow), beq_self_eq_true, beq_self_eq_true, hj]
      rw [bind_some' (a := true) (by exact hsame2)]
      rfl
    · obtain ⟨b1, b2, b3⟩ := bad_at hg
      have hbad := line_bad b1 b3 b2
      rw [hbad]
      dsimp only
      generalize (t1.data.toList.takeWhile okb).length = k at b1 b2 b3
      rw [len_bytes] at b1
      have d2 : decide ((k : Int) < 0) = false := decide_eq_false (by omega)
      have d3 : decide ((t1.size : Int) ≤ (k : Int)) = false := decide_eq_false (by omega)
      have hfa : fa (t1.data.toList.getD k 0).toNat = (0, 10) := by
        have : tbl.getD (t1.data.toList.getD k 0).toNat 0 = 255 := by unfold okb cv at b2; simpa using b2
        exact if_pos this
      have s1 : (t1.extract 0 k).size = k := by rw [← len_bytes, extract_l, List.length_take, len_bytes]; omega
      have hgl : (t1.extract 0 k).data.toList.all okb = true := by rw [extract_l]; exact b3
      rw [cond_pos (b := (10 : Int) != 0) rfl, d2, d3, cond_neg (b := cond _ _ _) (by rfl), G_pos (by omega), bAt_nat, bind_some' (f_fa _ (bAt_lt t1 k)), hfa, G_pos (by omega), Int.toNat_natCast, bind_some' (f_line _ (by omega)), line_good hgl, len_bytes, s1]
      dsimp only
      rw [beq_self_eq_true, beq_self_eq_true, beq_self_eq_true]
      rfl
  · have d1 : decide (20 < (t1.size : Int)) = true := decide_eq_true (by omega)
    rw [d1, cond_pos (b := cond _ _ _) (by rfl), beq_self_eq_true, beq_self_eq_true, bind_some' (a := true) (by exact hsame)]
    rfl
theorem plain_CellTexts {t0 : ByteArray} {t1 : Int} (h0 : okStr t0) (h1 : okInt .u8 t1) : f_L01_CellTexts t0 t1 = some true := law_texts t0 t1 h1
theorem plain_CellLines {t0 : List Int} {t1 : ByteArray} {t2 : Int} (h0 : okList (okInt .u8) t0) (h1 : okStr t1) (h2 : okInt .u8 t2) : f_L01_CellLines t0 t1 t2 = some true := law_lines t0 t1 t2 h0 h2
end Go.Proofs.Ytbdmehgppgfiaaa
