/-
  Own work. Numbers, plain part: numbers are written.
-/
import Derived.Test.YtdegmbjhedfffaaDoorPl
import Derived.Test.YtdegmbjhedfffaaDoorW3
set_option linter.unusedSimpArgs false
set_option linter.unusedVariables false
set_option maxRecDepth 100000
set_option linter.unusedSimpArgs false
set_option linter.unusedVariables false
namespace Go.Proofs.YtdegmbjhedfffaaDoor
open Go.Abs
theorem wrap_u8 {n : Int} (h : 0 ≤ n ∧ n ≤ 255) : IntKind.wrap .u8 n = n := by
  unfold IntKind.wrap; simp [IntKind.bits, IntKind.signed] <;> omega
theorem same_loop (t0 t1 : List Int) (hl : t0.length = t1.length) (hb : t0.length < 1000000000) : ∀ (n i : Nat), t0.length < n + i → i ≤ t0.length →
    iter (fun loop (s : Int) => f_R01_Same_b1 t0 t1 loop s) n (i : Int) = some (decide (t0.drop i = t1.drop i))
  | 0, i, h1, h2 => by omega
  | n + 1, i, h1, h2 => by
    rw [iter_succ]
    rw [f_R01_Same_b1]
    by_cases h : i < t0.length
    · have ih := same_loop t0 t1 hl hb n (i + 1) (by omega) (by omega)
      rw [cond_pos (by simpa using h), G_pos (by omega), G_pos (by omega), G_inR (by omega)]
      rw [getD_drop t0 i 0 h, getD_drop t1 i 0 (by omega)]
      simp only [Int.toNat_natCast]
      by_cases he : t0.getD i 0 = t1.getD i 0
      · rw [cond_neg (by rw [he]; exact bne_self_eq_false _)]
        rw [show ((i : Int) + 1) = ((i + 1 : Nat) : Int) from by omega, ih]
        simp only [he, List.cons.injEq, true_and]
      · rw [cond_pos (bne_iff_ne.2 he)]
        have : ¬ (t0.getD i 0 :: t0.drop (i + 1) = t1.getD i 0 :: t1.drop (i + 1)) := fun e => he (List.cons.inj e).1
        rw [decide_eq_false this]
    · rw [cond_neg (by simpa using h)]
      have e : i = t0.length := by omega
      rw [List.drop_eq_nil_of_le (by omega), List.drop_eq_nil_of_le (by omega)]
      simp
theorem f_same (t0 t1 : List Int) (hb : t0.length < 900000) : f_R01_Same t0 t1 = some (decide (t0 = t1)) := by
  unfold f_R01_Same
  by_cases hl : t0.length = t1.length
  · rw [cond_neg (by simp [hl])]
    have := same_loop t0 t1 hl (by omega) 1000000 0 (by omega) (by omega)
    simpa using this
  · rw [cond_pos (by simp; omega)]
    have : ¬ t0 = t1 := fun e => hl (by rw [e])
    simp [this]
/-- The cell of a digit; the cells of a number. -/
def dg (d : Nat) : Int := tab_number_digits.getD d 0
def wr (n : Nat) : List Int := 60 :: (decs 5 n).map fun x => dg (x - 48).toNat
theorem decs_in : ∀ (k n : Nat) (x : Int), x ∈ decs k n → 48 ≤ x ∧ x ≤ 57
  | 0, n, x, h => by simp [decs] at h
  | k + 1, n, x, h => by
    rw [decs] at h
    split at h
    · simp at h; omega
    · rcases List.mem_append.1 h with h | h
      · exact decs_in k _ x h
      · simp at h; omega
theorem decs_len : ∀ (k n : Nat), (decs k n).length ≤ k
  | 0, n => by simp [decs]
  | k + 1, n => by
    rw [decs]
    split
    · simp
    · have := decs_len k (n / 10); simp; omega
theorem bytes_strOf (l : List Int) (h : ∀ x ∈ l, 0 ≤ x ∧ x ≤ 255) : bytesOf (strOf l) = l := by
  unfold bytesOf
  rw [strOf_data, List.map_map]
  conv => rhs; rw [← List.map_id l]
  refine List.map_congr_left fun x hx => ?_
  have := h x hx
  simp only [Function.comp, id]
  rw [UInt8.toNat_ofNat']
  omega
theorem take_stepI (l : List Int) (i : Nat) (h : i < l.length) : l.take (i + 1) = l.take i ++ [l.getD i 0] := by
  rw [List.take_add_one, List.getElem?_eq_getElem h, List.getD_eq_getElem?_getD, List.getElem?_eq_getElem h]
  rfl
theorem getD_mem (l : List Int) (i : Nat) (h : i < l.length) : l.getD i 0 ∈ l := by
  rw [List.getD_eq_getElem?_getD, List.getElem?_eq_getElem h]
  exact List.getElem_mem h
theorem write_loop (b : ByteArray) (l : List Int) (hb : bytesOf b = l) (h : ∀ x ∈ l, 48 ≤ x ∧ x ≤ 57) (hl : l.length ≤ 5) : ∀ (n i : Nat), l.length < n + i → i ≤ l.length →
    iter (fun loop (s : (List Int) × Int) => f_number_Write_b1 b loop s.1 s.2) n (60 :: (l.take i).map (fun x => dg (x - 48).toNat), (i : Int)) = some (60 :: l.map (fun x => dg (x - 48).toNat), 0)
  | 0, i, h1, h2 => by omega
  | n + 1, i, h1, h2 => by
    rw [iter_succ, f_number_Write_b1, hb]
    dsimp only
    by_cases hi : i < l.length
    · have ih := write_loop b l hb h hl n (i + 1) (by omega) (by omega)
      have hm := h _ (getD_mem l i hi)
      rw [take_stepI l i hi, List.map_append, List.map_singleton] at ih
      rw [cond_pos (by simpa using hi), G_pos (by omega), Int.toNat_natCast]
      generalize l.getD i 0 = x at hm ih ⊢
      rw [wrap_u8 (by omega), G_pos (by omega), G_room (by simp; omega), G_inR (by omega), show (i : Int) + 1 = ((i + 1 : Nat) : Int) from by omega]
      exact ih
    · rw [cond_neg (by simpa using hi), List.take_of_length_le (by omega)]
theorem f_write (n : Nat) (hn : n ≤ 99999) : f_number_Write n = some (wr n, 0) := by
  unfold f_number_Write
  rw [cond_neg (b := cond _ _ _) (by simp; omega)]
  have h1 : f_strconv_Itoa n = some (strOf (decs 5 n)) := by
    unfold f_strconv_Itoa
    rw [G_pos (by omega), Int.toNat_natCast]
  rw [bind_some' h1]
  exact write_loop _ (decs 5 n) (bytes_strOf _ fun x hx => by have := decs_in 5 n x hx; omega) (fun x hx => decs_in 5 n x hx) (decs_len 5 n) 1000000 0 (by have := decs_len 5 n; omega) (by omega)
theorem f_write_bad (n : Int) (hn : n < 0 ∨ 99999 < n) : f_number_Write n = some ([], 190) := by
  unfold f_number_Write
  rw [cond_pos (b := cond _ _ _) (by rcases hn with h | h <;> simp [h])]
end Go.Proofs.YtdegmbjhedfffaaDoor
