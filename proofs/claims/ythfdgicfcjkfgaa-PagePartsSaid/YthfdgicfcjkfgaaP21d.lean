/-
  Own work. Chapter 21, plain part: rows that are made, ends that are chosen, parts.
-/
import Derived.Test.YthfdgicfcjkfgaaP21c
set_option linter.unusedSimpArgs false
set_option linter.unusedVariables false
set_option linter.unusedSimpArgs false
set_option linter.unusedVariables false
namespace Go.Proofs.Ythfdgicfcjkfgaa
open Go.Abs

def madeRow (i : Nat) (x : Int) : S_Row := ⟨[1], x.tmod 4 == 1, if x.tmod 11 == 0 then 1 + (i : Int) else 0, i, 0⟩
def madeN (l : List Int) (n : Nat) : List S_Row := (List.range n).map fun i => madeRow i (l.getD i 0)
def made (l : List Int) : List S_Row := madeN l (min l.length 40)
theorem madeN_succ (l : List Int) (n : Nat) : madeN l (n + 1) = madeN l n ++ [madeRow n (l.getD n 0)] := by
  simp [madeN, List.range_succ]
theorem madeN_len (l : List Int) (n : Nat) : (madeN l n).length = n := by simp [madeN]
theorem made_len (l : List Int) : (made l).length ≤ 40 := by simp [made, madeN_len]; omega
theorem made_loop (l : List Int) : ∀ (n i : Nat), i ≤ min l.length 40 → min l.length 40 < n + i →
    iter (fun loop (s : (List S_Row) × Int) => f_R21_Made_b1 l loop s.1 s.2) n (madeN l i, (i : Int)) = some (made l)
  | 0, i, h1, h2 => by omega
  | n + 1, i, h1, h2 => by
    rw [iter_succ, f_R21_Made_b1]
    dsimp only
    by_cases hi : i < min l.length 40
    · have ih := made_loop l n (i + 1) (by omega) (by omega)
      have hl := madeN_len l i
      rw [madeN_succ] at ih
      rw [cond_pos (by simp; omega), G_pos (by omega)]
      have hE : l.getD ((i : Int)).toNat 0 = l.getD i 0 := rfl
      rw [hE]
      unfold madeRow at ih
      by_cases hx : ((l.getD i 0).tmod 11 == 0) = true
      · rw [cond_pos hx, G_inR (by omega), f_R21_Made_k2, G_room (by omega), f_R21_Made_k1, G_inR (by omega)]
        rw [if_pos hx] at ih
        exact ih
      · rw [cond_neg (by simpa using hx), f_R21_Made_k2, G_room (by omega), f_R21_Made_k1, G_inR (by omega)]
        rw [if_neg hx] at ih
        exact ih
    · rw [cond_neg (by simp; omega)]
      unfold made
      rw [show i = min l.length 40 from by omega]
theorem f_made (l : List Int) : f_R21_Made l = some (made l) := made_loop l 1000000 0 (by omega) (by omega)

def okBytes (bs : List Int) : Prop := ∀ b ∈ bs, 0 ≤ b ∧ b ≤ 255
theorem okBytes.get {bs : List Int} (h : okBytes bs) (i : Nat) : 0 ≤ bs.getD i 0 ∧ bs.getD i 0 ≤ 255 := by
  by_cases hi : i < bs.length
  · rw [List.getD_eq_getElem?_getD, List.getElem?_eq_getElem hi]
    exact h _ (List.getElem_mem hi)
  · rw [List.getD_eq_getElem?_getD, List.getElem?_eq_none (by omega)]
    simp
def chosenOut (acc : List Int) (x : List Int × Bool) : List Int × Bool := if x.2 then (acc ++ x.1, true) else ([], false)
theorem chosen_loop (rows : List S_Row) (h : Int) (bs : List Int) (hr : rows.length < 100000) (hh : -100000 < h ∧ h < 100000) (hb : okBytes bs) : ∀ (m n f k : Nat) (acc : List Int), f ≤ rows.length → rows.length + 1 ≤ m + f → m ≤ n → acc.length ≤ f → k ≤ f →
    iter (fun loop (s : (List Int) × Int × Int) => f_R21_Chosen_b1 rows h bs loop s.1 s.2.1 s.2.2) n (acc, (f : Int), (k : Int)) = some (chosenOut acc (chosenGo rows h bs m f k))
  | 0, n, f, k, acc, h1, h2, h3, h4, h5 => by omega
  | m + 1, 0, f, k, acc, h1, h2, h3, h4, h5 => by omega
  | m + 1, n + 1, f, k, acc, h1, h2, h3, h4, h5 => by
    rw [iter_succ, f_R21_Chosen_b1]
    dsimp only
    unfold chosenGo
    by_cases hf : f < rows.length
    · rw [if_pos hf, cond_pos (by simpa using hf), bind_some' (f_refNext rows f h hr (by omega) hh)]
      by_cases hn : next rows f h = []
      · rw [if_pos hn, cond_pos (by rw [hn]; rfl)]
        rfl
      · have hp := List.length_pos_iff.2 hn
        have hlen := next_len rows f h
        rw [if_neg hn, cond_neg (by simp; omega), G_inR (by omega)]
        have hmem := getD_mem (chosen_idx (next rows f h) (bs.getD k 0).toNat (k < bs.length) hn)
        obtain ⟨e, he, he1, he2, _⟩ := next_mem hmem
        have ih := chosen_loop rows h bs hr hh hb m n e (k + 1) (acc ++ [(e : Int)]) he2 (by omega) (by omega) (by simp; omega) (by omega)
        dsimp only
        rw [he]
        simp only [Int.toNat_natCast]
        have fin : some (chosenOut (acc ++ [(e : Int)]) (chosenGo rows h bs m e (k + 1))) = some (chosenOut acc (((e : Int) :: (chosenGo rows h bs m e (k + 1)).1, (chosenGo rows h bs m e (k + 1)).2))) := by
          unfold chosenOut
          cases (chosenGo rows h bs m e (k + 1)).2 <;> simp
        rw [fin] at ih
        by_cases hk : k < bs.length
        · have hbk := hb.get k
          have hm : Int.tmod (IntKind.wrap .i64 (bs.getD k 0)) ((next rows f h).length : Int) = (((bs.getD k 0).toNat % (next rows f h).length : Nat) : Int) := by
            rw [wrap_i64 (by omega), Int.tmod_eq_emod_of_nonneg hbk.1]
            rw [← Int.toNat_of_nonneg hbk.1]
            simp
          rw [if_pos hk] at he
          have hlt := Nat.mod_lt (bs.getD k 0).toNat hp
          have hidx : (next rows f h).getD (Int.tmod (IntKind.wrap .i64 (bs.getD k 0)) ((next rows f h).length : Int)).toNat 0 = e := by
            rw [hm]; exact he
          rw [cond_pos (by simpa using hk), G_pos (by omega), G_pos (by omega), f_R21_Chosen_k2, G_pos (by rw [hm]; omega), G_room (by omega), f_R21_Chosen_k1, G_inR (by omega), hidx]
          exact ih
        · rw [if_neg hk] at he
          have hidx : (next rows f h).getD (((next rows f h).length : Int) - 1).toNat 0 = e := by
            rw [show (((next rows f h).length : Int) - 1).toNat = (next rows f h).length - 1 from by omega]; exact he
          rw [cond_neg (by simpa using hk), f_R21_Chosen_k2, G_pos (by omega), G_room (by omega), f_R21_Chosen_k1, G_inR (by omega), hidx]
          exact ih
    · rw [if_neg hf, cond_neg (by simpa using hf)]
      simp [chosenOut]
theorem f_chosen (rows : List S_Row) (h : Int) (bs : List Int) (hr : rows.length < 100000) (hh : -100000 < h ∧ h < 100000) (hb : okBytes bs) : f_R21_Chosen rows h bs = some (chosen rows h bs) := by
  have := chosen_loop rows h bs hr hh hb (rows.length + 1) 1000000 0 0 [] (by omega) (by omega) (by omega) (by simp) (by omega)
  unfold f_R21_Chosen chosen
  rw [show (([] : List Int), (0 : Int), (0 : Int)) = (([] : List Int), ((0 : Nat) : Int), ((0 : Nat) : Int)) from rfl, this]
  unfold chosenOut
  simp

theorem f_first (ends : List Int) (i : Nat) (hl : ends.length < 100000) (hi : i ≤ ends.length) : f_R21_First ends i = some (last (ends.take i)) := by
  unfold f_R21_First
  by_cases h0 : i = 0
  · subst h0; rfl
  · rw [cond_neg (by simp; omega), G_inR (by omega), G_pos (by omega)]
    have hne : ends.take i ≠ [] := by
      intro e
      have := congrArg List.length e
      simp only [List.length_take, List.length_nil] at this
      omega
    have := getLast_get (ends.take i) hne
    rw [show (ends.take i).length - 1 = i - 1 from by simp; omega, List.getElem?_take, if_pos (by omega)] at this
    rw [show ((i : Int) - 1).toNat = i - 1 from by omega, List.getD_eq_getElem?_getD, this]
    rfl

theorem cnt_succ (ends : List Int) (row : Int) (i : Nat) (h : i < ends.length) : cnt ends row (i + 1) = cnt ends row i + if ends.getD i 0 > row then 1 else 0 := by
  unfold cnt
  rw [List.take_add_one, List.countP_append, List.getElem?_eq_getElem h]
  simp only [Option.toList, List.countP_singleton, List.getD_eq_getElem?_getD, List.getElem?_eq_getElem h, Option.getD_some, decide_eq_true_eq]
theorem cnt_le (ends : List Int) (row : Int) (i : Nat) : cnt ends row i ≤ i := by
  unfold cnt
  exact Nat.le_trans List.countP_le_length (by simp; omega)
theorem part_count (rows : List S_Row) (ends : List Int) (i row : Nat) (hl : ends.length < 100000) (hi : i < ends.length) (hrow : row < rows.length) : ∀ (n k : Nat), 1 ≤ k → k ≤ i + 1 → i + 1 < n + k →
    iter (fun loop (s : Int × Int) => f_page_Part_b1 rows ends i row loop s.1 s.2) n ((cnt ends row (k - 1) : Int), (k : Int)) = some (inkAt rows row, min (cnt ends row i : Int) 26)
  | 0, k, h1, h2, h3 => by omega
  | n + 1, k, h1, h2, h3 => by
    rw [iter_succ, f_page_Part_b1]
    dsimp only
    by_cases hk : k ≤ i
    · have ih := part_count rows ends i row hl hi hrow n (k + 1) (by omega) (by omega) (by omega)
      have hc := cnt_succ ends row (k - 1) (by omega)
      have hcl := cnt_le ends row (k - 1)
      rw [show k - 1 + 1 = k from by omega] at hc
      rw [show k + 1 - 1 = k from by omega, hc] at ih
      rw [cond_pos (by simp; omega), G_inR (by omega), G_pos (by omega)]
      have hE : ends.getD ((k : Int) - 1).toNat 0 = ends.getD (k - 1) 0 := by rw [show ((k : Int) - 1).toNat = k - 1 from by omega]
      rw [hE]
      by_cases hx : ends.getD (k - 1) 0 > (row : Int)
      · rw [if_pos hx] at ih
        rw [cond_pos (decide_eq_true hx), G_inR (by omega), f_page_Part_k1, G_inR (by omega)]
        exact ih
      · rw [if_neg hx] at ih
        rw [cond_neg (decide_eq_false hx), f_page_Part_k1, G_inR (by omega)]
        exact ih
    · rw [cond_neg (by simp; omega), G_pos (by omega), show k - 1 = i from by omega, minIf]
      rfl
theorem part_row (rows : List S_Row) (ends : List Int) (i : Nat) (hr : rows.length < 100000) (hl : ends.length < 100000) (hi : i < ends.length) : ∀ (n k : Nat), k ≤ rows.length → k < n →
    iter (fun loop (s : Int) => f_page_Part_b2 rows ends i loop s) n ((k : Int) - 1) = some (if inkRow rows k < 0 then (0, min (i : Int) 26) else (inkAt rows (inkRow rows k).toNat, min (cnt ends (inkRow rows k) i : Int) 26))
  | 0, k, h1, h2 => by omega
  | n + 1, k, h1, h2 => by
    rw [iter_succ, f_page_Part_b2, G_imp (fun hc => by simp at hc; omega)]
    cases k with
    | zero =>
      rw [cond_neg (by simp), cond_pos (by simp), minIf]
      rfl
    | succ k =>
      have hE : rows.getD (((k + 1 : Nat) : Int) - 1).toNat zS_Row = rows.getD k zS_Row := by rw [show (((k + 1 : Nat) : Int) - 1).toNat = k from by omega]
      rw [hE]
      unfold inkRow
      by_cases hx : inkAt rows k ≤ 0
      · have ih := part_row rows ends i hr hl hi n k (by omega) (by omega)
        rw [if_pos hx, cond_pos (by rw [cond_pos (by simp)]; exact decide_eq_true hx), G_inR (by omega)]
        rw [show ((k + 1 : Nat) : Int) - 1 - 1 = (k : Int) - 1 from by omega]
        exact ih
      · rw [if_neg hx, cond_neg (by rw [cond_pos (by simp)]; exact decide_eq_false hx), cond_neg (by simp), if_neg (by omega)]
        have := part_count rows ends i k hl hi (by omega) 1000000 1 (by omega) (by omega) (by omega)
        rw [show ((k + 1 : Nat) : Int) - 1 = (k : Int) from by omega]
        simp only [Int.toNat_natCast]
        rw [show ((cnt ends (k : Int) (1 - 1) : Nat) : Int) = 0 from by simp [cnt], show ((1 : Nat) : Int) = 1 from rfl] at this
        exact this
theorem f_part (rows : List S_Row) (ends : List Int) (i : Int) (hr : rows.length < 100000) (hl : ends.length < 100000) (hs : small ends) : f_page_Part rows ends i = some (part rows ends i) := by
  unfold f_page_Part part
  by_cases hc : i < 0 ∨ (ends.length : Int) ≤ i
  · rw [if_pos hc, cond_pos]
    rcases hc with hc | hc <;> simp [hc]
  · obtain ⟨i, rfl⟩ : ∃ n : Nat, i = n := ⟨i.toNat, by omega⟩
    have hsl : small (ends.take i) := hs.mono fun y hy => List.mem_of_mem_take hy
    rw [if_neg hc, cond_neg (by simp; omega), G_pos (by omega)]
    simp only [Int.toNat_natCast]
    rw [bind_some' (f_last _ (by simp; omega))]
    by_cases hc2 : last (ends.take i) < 0 ∨ (rows.length : Int) ≤ last (ends.take i)
    · rw [if_pos hc2, cond_pos]
      rcases hc2 with hc2 | hc2 <;> simp [hc2]
    · rw [if_neg hc2, cond_neg (by simp; omega)]
      obtain ⟨k, hk⟩ : ∃ n : Nat, last (ends.take i) = n := ⟨(last (ends.take i)).toNat, by omega⟩
      rw [hk]
      simp only [Int.toNat_natCast]
      have := part_row rows ends i hr hl (by omega) 1000000 (k + 1) (by omega) (by omega)
      rw [show ((k + 1 : Nat) : Int) - 1 = (k : Int) from by omega] at this
      rw [this]
      rfl

theorem refPart_count (rows : List S_Row) (ends : List Int) (i row : Nat) (hl : ends.length < 100000) (hi : i < ends.length) (hrow : row < rows.length) : ∀ (n k : Nat), k ≤ i + 1 → i + 1 < n + k →
    iter (fun loop (s : Int × Int) => f_R21_Part_b1 rows ends i row loop s.1 s.2) n ((cnt ends row (k - 1) : Int), (k : Int)) = some (inkAt rows row, min (cnt ends row i : Int) 26)
  | 0, k, h2, h3 => by omega
  | n + 1, k, h2, h3 => by
    rw [iter_succ, f_R21_Part_b1]
    dsimp only
    by_cases hk : k ≤ i
    · have ih := refPart_count rows ends i row hl hi hrow n (k + 1) (by omega) (by omega)
      rw [cond_pos (by simp; omega), bind_some' (f_first ends k hl (by omega))]
      rw [show k + 1 - 1 = k from by omega] at ih
      have hcl := cnt_le ends row (k - 1)
      cases k with
      | zero =>
        rw [show last (ends.take 0) = 0 from rfl, cond_neg (decide_eq_false (by omega)), f_R21_Part_k2, G_inR (by omega)]
        exact ih
      | succ k =>
        have hc := cnt_succ ends row k (by omega)
        have hE : last (ends.take (k + 1)) = ends.getD k 0 := by
          rw [List.take_add_one, List.getElem?_eq_getElem (show k < ends.length by omega)]
          show last (ends.take k ++ [ends[k]]) = _
          rw [last_append, List.getD_eq_getElem?_getD, List.getElem?_eq_getElem (show k < ends.length by omega)]
          rfl
        rw [hE]
        rw [hc] at ih
        simp only [Nat.add_sub_cancel] at hcl ⊢
        by_cases hx : ends.getD k 0 > (row : Int)
        · rw [if_pos hx] at ih
          rw [cond_pos (decide_eq_true hx), G_inR (by omega), f_R21_Part_k2, G_inR (by omega)]
          exact ih
        · rw [if_neg hx] at ih
          rw [cond_neg (decide_eq_false hx), f_R21_Part_k2, G_inR (by omega)]
          exact ih
    · rw [cond_neg (by simp; omega), G_pos (by omega), show k - 1 = i from by omega, minIf]
      rfl
theorem refPart_row (rows : List S_Row) (ends : List Int) (i k : Nat) (hr : rows.length < 100000) (hl : ends.length < 100000) (hi : i < ends.length) (hk : k < rows.length) : ∀ (n j : Nat), j ≤ k + 1 → k + 1 < n + j →
    iter (fun loop (s : Int × Int) => f_R21_Part_b2 rows ends i k loop s.1 s.2) n (inkRow rows j, (j : Int)) = some (if inkRow rows (k + 1) < 0 then (0, min (i : Int) 26) else (inkAt rows (inkRow rows (k + 1)).toNat, min (cnt ends (inkRow rows (k + 1)) i : Int) 26))
  | 0, j, h1, h2 => by omega
  | n + 1, j, h1, h2 => by
    rw [iter_succ, f_R21_Part_b2]
    dsimp only
    by_cases hj : j ≤ k
    · have ih := refPart_row rows ends i k hr hl hi hk n (j + 1) (by omega) (by omega)
      have hE : rows.getD ((j : Int)).toNat zS_Row = rows.getD j zS_Row := rfl
      rw [cond_pos (by simp; omega), G_pos (by omega), hE]
      rw [inkRow] at ih
      by_cases hx : inkAt rows j ≤ 0
      · rw [if_pos hx] at ih
        rw [cond_neg (decide_eq_false (by exact Int.not_lt.2 hx)), f_R21_Part_k1, G_inR (by omega)]
        exact ih
      · rw [if_neg hx] at ih
        rw [cond_pos (decide_eq_true (by exact Int.not_le.1 hx)), f_R21_Part_k1, G_inR (by omega)]
        exact ih
    · rw [cond_neg (by simp; omega), show j = k + 1 from by omega]
      have hlt := inkRow_lt rows (k + 1)
      by_cases hx : inkRow rows (k + 1) < 0
      · rw [if_pos hx, cond_pos (by simpa using hx), minIf]
      · rw [if_neg hx, cond_neg (by simpa using hx)]
        obtain ⟨q, hq⟩ : ∃ n : Nat, inkRow rows (k + 1) = n := ⟨(inkRow rows (k + 1)).toNat, by omega⟩
        rw [hq]
        have := refPart_count rows ends i q hl hi (by omega) 1000000 0 (by omega) (by omega)
        rw [show ((cnt ends (q : Int) (0 - 1) : Nat) : Int) = 0 from by simp [cnt], show ((0 : Nat) : Int) = 0 from rfl] at this
        simp only [Int.toNat_natCast]
        exact this
theorem f_refPart (rows : List S_Row) (ends : List Int) (i : Nat) (hr : rows.length < 100000) (hl : ends.length < 100000) (hi : i < ends.length) (h0 : 0 ≤ last (ends.take i)) (h1 : last (ends.take i) < rows.length) : f_R21_Part rows ends i = some (part rows ends i) := by
  unfold f_R21_Part part
  rw [bind_some' (f_first ends i hl (by omega)), if_neg (by omega)]
  simp only [Int.toNat_natCast]
  rw [if_neg (by omega)]
  obtain ⟨k, hk⟩ : ∃ n : Nat, last (ends.take i) = n := ⟨(last (ends.take i)).toNat, by omega⟩
  rw [hk]
  simp only [Int.toNat_natCast]
  have := refPart_row rows ends i k hr hl hi (by omega) 1000000 0 (by omega) (by omega)
  rw [show inkRow rows 0 = -1 from rfl, show ((0 : Nat) : Int) = 0 from rfl] at this
  rw [this]
  rfl
end Go.Proofs.Ythfdgicfcjkfgaa
