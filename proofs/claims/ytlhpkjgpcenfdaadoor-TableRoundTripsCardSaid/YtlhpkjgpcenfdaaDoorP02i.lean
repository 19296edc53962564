/-
  Own work. Chapter 02, plain part: numbers, cells and bytes as they are written; lines are cut.
-/
import Derived.Test.YtlhpkjgpcenfdaaDoorP02g
import Derived.Test.YtlhpkjgpcenfdaaDoorPl4
import Derived.Test.YtlhpkjgpcenfdaaDoorWR1
set_option linter.unusedSimpArgs false
set_option linter.unusedVariables false
set_option linter.unusedSimpArgs false
set_option linter.unusedVariables false
namespace Go.Proofs.YtlhpkjgpcenfdaaDoor
open Go.Abs
theorem index_mid (c : UInt8) (a b : List UInt8) (h : c ∉ a) : f_stringslite_Index (B (a ++ c :: b)) (B [c]) = some (a.length : Int) := by
  unfold f_stringslite_Index
  rw [or_tt, B_beq, B_size]
  by_cases e : [c] = a ++ c :: b
  · have : a = [] := by
      cases a with
      | nil => rfl
      | cons x a => simp at e
    subst this
    rw [cond_pos (by simp; simpa using e)]
    rfl
  · rw [cond_neg (by simp [e]), cond_pos (by rfl), G_pos (by simp), show bAt (B [c]) 0 = ((c.toNat : Nat) : Int) from rfl, f_IndexByte, B_data, Option.bind_some]
    congr 1
    rw [Int.toNat_natCast]
    have : c.toNat.toUInt8 = c := by simp
    rw [this]
    exact indexByte_mid c b a h
theorem index_no (c : UInt8) (a : List UInt8) (h : c ∉ a) : f_stringslite_Index (B a) (B [c]) = some (-1) := by
  unfold f_stringslite_Index
  rw [or_tt, B_beq, B_size]
  have e : ¬ [c] = a := by rintro rfl; simp at h
  rw [cond_neg (by simp [e]), cond_pos (by rfl), G_pos (by simp), show bAt (B [c]) 0 = ((c.toNat : Nat) : Int) from rfl, f_IndexByte, B_data, Option.bind_some]
  congr 1
  rw [Int.toNat_natCast]
  have : c.toNat.toUInt8 = c := by simp
  rw [this]
  exact indexByte_no c a h
theorem cut_mid (c : UInt8) (a b : List UInt8) (h : c ∉ a) (hl : (a ++ c :: b).length ≤ 1000000) : f_strings_Cut (B (a ++ c :: b)) (B [c]) = some (B a, B b, true) := by
  unfold f_strings_Cut f_stringslite_Cut
  rw [List.length_append, List.length_cons] at hl
  rw [index_mid c a b h, Option.bind_some, cd_pos (by omega), B_size, B_size, List.length_append, List.length_cons, G_pos (by omega), G_inR (by simp; omega), G_pos (by simp; omega), Option.bind_some, B_extract, B_extract]
  have : ((a.length : Int) + (([c] : List UInt8).length : Int)).toNat = a.length + 1 := by simp
  have e : (a ++ c :: b).drop (a.length + 1) = b := by rw [← List.drop_drop]; simp
  have e0 : ((a ++ c :: b).drop 0).take ((a.length : Int).toNat - 0) = a := by simp
  dsimp only
  rw [this, e, List.take_of_length_le (l := b) (by omega), e0]
theorem cut_no (c : UInt8) (a : List UInt8) (h : c ∉ a) : f_strings_Cut (B a) (B [c]) = some (B a, B [], false) := by
  unfold f_strings_Cut f_stringslite_Cut
  rw [index_no c a h, Option.bind_some, cd_neg (by omega), Option.bind_some]
  rfl
theorem next_mid (a b : List UInt8) (w : Bool) (h : (32 : UInt8) ∉ a) (hl : (a ++ 32 :: b).length ≤ 1000000) : f_table_text_next_91_0 ⟨⟨B (a ++ 32 :: b), false⟩, w⟩ = some (B a, true, ⟨⟨B b, false⟩, w⟩) := by
  unfold f_table_text_next_91_0
  dsimp only
  rw [cond_false, show (⟨#[32]⟩ : ByteArray) = B [32] from rfl, cut_mid 32 a b h hl, Option.bind_some]
  rfl
theorem next_last (a : List UInt8) (w : Bool) (h : (32 : UInt8) ∉ a) : f_table_text_next_91_0 ⟨⟨B a, false⟩, w⟩ = some (B a, true, ⟨⟨B [], true⟩, w⟩) := by
  unfold f_table_text_next_91_0
  dsimp only
  rw [cond_false, show (⟨#[32]⟩ : ByteArray) = B [32] from rfl, cut_no 32 a h, Option.bind_some]
  rfl
theorem word_mid (a b : List UInt8) (w : Bool) (h : (32 : UInt8) ∉ a) (hl : (a ++ 32 :: b).length ≤ 1000000) : f_table_fields_word ⟨⟨B (a ++ 32 :: b), false⟩, w⟩ (B a) = some ⟨⟨B b, false⟩, w⟩ := by
  unfold f_table_fields_word
  rw [next_mid a b w h hl, Option.bind_some]
  dsimp only
  rw [beq_self_eq_true]
  rfl
/- Numbers. -/
def decU (n : Nat) : List UInt8 := toU (decs 5 n)
def numP (t1 : Int) : List UInt8 → Int → Option Int
  | [], v => if t1 < v then none else some v
  | b :: l, v => if b.toNat < 48 ∨ 57 < b.toNat then none else numP t1 l (10 * v + ((b.toNat : Int) - 48))
def numR (st : S_fields) : Option Int → Int × S_fields
  | some n => (n, st)
  | none => (0, ⟨st.text_, true⟩)
theorem num_loop (t1 : Int) (l : List UInt8) (st : S_fields) (hl : l.length ≤ 3) : iter (fun loop (s : S_fields × Int × Int) => f_table_fields_number_b1 t1 (B l, true, st) loop s.1 s.2.1 s.2.2) 1000000 (st, 0, 0) = some (numR st (numP t1 l 0)) := by
  have := iter_ind (b := fun loop (s : S_fields × Int × Int) => f_table_fields_number_b1 t1 (B l, true, st) loop s.1 s.2.1 s.2.2) (fun s => s.1 = st ∧ 0 ≤ s.2.2 ∧ s.2.2 ≤ (l.length : Int) ∧ 0 ≤ s.2.1 ∧ s.2.1 < ((10 ^ s.2.2.toNat : Nat) : Int)) (fun s => ((l.length : Int) - s.2.2).toNat) (fun s => some (numR st (numP t1 (l.drop s.2.2.toNat) s.2.1))) (by
    intro loop s hv ih
    obtain ⟨s1, v, k⟩ := s
    dsimp only at hv ih ⊢
    obtain ⟨rfl, h0, h1, h2, h3⟩ := hv
    obtain ⟨k, rfl⟩ := nat_of h0
    rw [Int.toNat_natCast] at h3 ⊢
    unfold f_table_fields_number_b1
    dsimp only
    rw [B_size]
    by_cases hk : k < l.length
    · have hb := (l.getD k 0).toNat_lt
      rw [cd_pos (by omega), G_pos (by omega), or_tt, B_at, getD_drop l k 0 hk, numP]
      by_cases hd : (l.getD k 0).toNat < 48 ∨ 57 < (l.getD k 0).toNat
      · rw [cond_pos (by simp only [Bool.or_eq_true, decide_eq_true_eq]; omega), if_pos hd]
        rfl
      · have hp : 10 ^ k ≤ 10 ^ 2 := Nat.pow_le_pow_right (by omega) (by omega)
        have hp2 : 10 ^ (k + 1) = 10 * 10 ^ k := by rw [Nat.pow_succ, Nat.mul_comm]
        rw [cond_neg (by simp only [Bool.or_eq_false_iff, decide_eq_false_iff_not]; omega), if_neg hd, wrap_u8' (by omega), wrap_i64 (by omega), G_inR (by omega), G_inR (by omega), G_inR (by omega), ih _ ⟨rfl, by dsimp only; omega, by dsimp only; omega, by dsimp only; omega, by
          dsimp only
          rw [natAdd1, Int.toNat_natCast, hp2]
          omega⟩ (by dsimp only; omega)]
        dsimp only
        rw [natAdd1, Int.toNat_natCast]
    · rw [cd_neg (by omega), List.drop_eq_nil_of_le (by omega), numP, cond_dec]
      split <;> rfl) 1000000 (st, 0, 0) ⟨rfl, by dsimp only; omega, by dsimp only; omega, by dsimp only; omega, by dsimp only; simp⟩ (by dsimp only; omega)
  exact this
def decOk (n : Nat) : Bool := decide (numP 999 (decU n) 0 = some (n : Int)) && (decide (numP 255 (decU n) 0 = some (n : Int)) && (decide (1 ≤ (decU n).length ∧ (decU n).length ≤ 3) && (((decU n).all fun b => decide (48 ≤ b ∧ b ≤ 57)) && (decide ((decU n).length ≤ 1) || decide ((decU n).getD 0 0 ≠ 48)))))
theorem dec_all : (List.range 256).all decOk = true := by kernel_rfl
theorem dec_ok (n : Nat) (h : n < 256) : numP 999 (decU n) 0 = some (n : Int) ∧ numP 255 (decU n) 0 = some (n : Int) ∧ (1 ≤ (decU n).length ∧ (decU n).length ≤ 3) ∧ (∀ b ∈ decU n, 48 ≤ b ∧ b ≤ 57) ∧ ((decU n).length ≤ 1 ∨ (decU n).getD 0 0 ≠ 48) := by
  have := all_of dec_all n h
  unfold decOk at this
  simp only [Bool.and_eq_true, Bool.or_eq_true, decide_eq_true_eq, List.all_eq_true] at this
  exact this
theorem number_of {f st : S_fields} {n : Nat} {t1 : Int} (ht : t1 = 999 ∨ t1 = 255) (hn : n < 256) (h : f_table_text_next_91_0 f = some (B (decU n), true, st)) : f_table_fields_number f t1 = some ((n : Int), st) := by
  obtain ⟨d1, d2, d3, d4, d5⟩ := dec_ok n hn
  unfold f_table_fields_number
  rw [h, Option.bind_some]
  dsimp only
  rw [G_imp (fun _ => by rw [B_size]; omega), B_size]
  simp only [or_tt, and_tt]
  have e0 : (bAt (B (decU n)) 0 == 48 && decide (1 < ((decU n).length : Int))) = false := by
    rcases d5 with d | d
    · rw [decide_eq_false (by omega), Bool.and_false]
    · have : ¬ bAt (B (decU n)) 0 = 48 := by
        intro e
        apply d
        have e' : (((decU n).getD 0 0).toNat : Int) = 48 := e
        have : ((decU n).getD 0 0).toNat = (48 : UInt8).toNat := by show _ = 48; omega
        exact UInt8.toNat_inj.1 this
      rw [beq_eq_false_iff_ne.2 this, Bool.false_and]
  rw [cond_neg (by
    rw [Bool.and_comm] at e0
    rw [e0]
    simp
    omega), num_loop t1 (decU n) st (by omega)]
  rcases ht with rfl | rfl
  · rw [d1]; rfl
  · rw [d2]; rfl
theorem dec_no (n : Nat) (h : n < 256) (c : UInt8) (hc : c < 48) : c ∉ decU n := by
  intro hm
  have := ((dec_ok n h).2.2.2.1 c hm).1
  exact absurd this (by simpa using hc)
theorem itoa_eq (n : Nat) (h : n < 256) : f_strconv_Itoa (n : Int) = some (B (decU n)) := by
  unfold f_strconv_Itoa
  rw [G_pos (by omega), Int.toNat_natCast, strOf_B]
  rfl
theorem decimal_all : (List.range 256).all (fun n => decide ((f_R02_Decimal (n : Int)).map (fun s => s.data.toList) = some (decU n))) = true := by kernel_rfl
theorem decimal_eq (n : Nat) (h : n < 256) : f_R02_Decimal (n : Int) = some (B (decU n)) := by
  have := all_of decimal_all n h
  rw [decide_eq_true_eq] at this
  cases hd : f_R02_Decimal (n : Int) with
  | none => rw [hd] at this; simp at this
  | some s =>
    rw [hd] at this
    have e : s.data.toList = decU n := by simpa using this
    rw [← e]
    rfl
/- Cells. -/
def dotsU (c : Nat) : List UInt8 := if c = 0 then [48] else ((List.range 6).filter fun k => c / 2 ^ k % 2 == 1).map fun k => UInt8.ofNat (49 + k)
def dotsOk (c : Nat) : Bool := decide ((f_cell_Dots (c : Int)).map (fun s => s.data.toList) = some (dotsU c)) && (decide ((f_R01_Dots (c : Int)).map (fun s => s.data.toList) = some (dotsU c)) && (decide (f_cell_Parse (B (dotsU c)) = some ((c : Int), 0)) && (((dotsU c).all fun b => decide (48 ≤ b ∧ b ≤ 54)) && decide ((dotsU c).length ≤ 6))))
theorem dots_all : (List.range 64).all dotsOk = true := by kernel_rfl
theorem map_data {o : Option ByteArray} {l : List UInt8} (h : o.map (fun s => s.data.toList) = some l) : o = some (B l) := by
  cases o with
  | none => simp at h
  | some s =>
    have e : s.data.toList = l := by simpa using h
    rw [← e]
    rfl
theorem dots_ok (c : Nat) (h : c < 64) : f_cell_Dots (c : Int) = some (B (dotsU c)) ∧ f_R01_Dots (c : Int) = some (B (dotsU c)) ∧ f_cell_Parse (B (dotsU c)) = some ((c : Int), 0) ∧ (∀ b ∈ dotsU c, 48 ≤ b ∧ b ≤ 54) ∧ (dotsU c).length ≤ 6 := by
  have := all_of dots_all c h
  unfold dotsOk at this
  simp only [Bool.and_eq_true, decide_eq_true_eq, List.all_eq_true] at this
  exact ⟨map_data this.1, map_data this.2.1, this.2.2.1, this.2.2.2.1, this.2.2.2.2⟩
theorem dots_no (c : Nat) (h : c < 64) (b : UInt8) (hb : b < 48) : b ∉ dotsU c := by
  intro hm
  have := ((dots_ok c h).2.2.2.1 b hm).1
  exact absurd this (by simpa using hb)
def joinC : List Int → List UInt8
  | [] => []
  | c :: cs => dotsU c.toNat ++ cs.flatMap fun c => 45 :: dotsU c.toNat
theorem joinC_cons (c d : Int) (cs : List Int) : joinC (c :: d :: cs) = dotsU c.toNat ++ 45 :: joinC (d :: cs) := by
  simp [joinC]
theorem joinC_snoc (l : List Int) (c : Int) (h : l ≠ []) : joinC (l ++ [c]) = joinC l ++ 45 :: dotsU c.toNat := by
  cases l with
  | nil => exact absurd rfl h
  | cons a l => simp [joinC]
def okCells (l : List Int) : Prop := ∀ c ∈ l, 0 ≤ c ∧ c < 64
theorem joinC_no (l : List Int) (h : okCells l) (b : UInt8) (hb : b < 45) : b ∉ joinC l := by
  cases l with
  | nil => simp [joinC]
  | cons c cs =>
    have h48 : b < 48 := by
      have : b.toNat < 45 := hb
      show b.toNat < 48
      omega
    have h1 := h c List.mem_cons_self
    rw [joinC, List.mem_append, not_or]
    refine ⟨dots_no _ (by omega) b h48, ?_⟩
    intro hm
    obtain ⟨d, hd, hm⟩ := List.mem_flatMap.1 hm
    have h2 := h d (List.mem_cons_of_mem _ hd)
    rcases List.mem_cons.1 hm with rfl | hm
    · exact absurd hb (by decide)
    · exact dots_no _ (by omega) b h48 hm
theorem joinC_len (l : List Int) (h : okCells l) : (joinC l).length ≤ 7 * l.length := by
  cases l with
  | nil => simp [joinC]
  | cons c cs =>
    have h1 := h c List.mem_cons_self
    have := (dots_ok c.toNat (by omega)).2.2.2.2
    have h2 : (cs.flatMap fun c => 45 :: dotsU c.toNat).length ≤ 7 * cs.length := by
      clear this
      have hc : okCells cs := fun d hd => h d (List.mem_cons_of_mem _ hd)
      clear h h1
      induction cs with
      | nil => simp
      | cons d cs ih =>
        have h3 := hc d List.mem_cons_self
        have h4 := (dots_ok d.toNat (by omega)).2.2.2.2
        have := ih fun e he => hc e (List.mem_cons_of_mem _ he)
        rw [List.flatMap_cons, List.length_append, List.length_cons, List.length_cons]
        omega
    rw [joinC, List.length_append, List.length_cons]
    omega
theorem cells_of {f st : S_fields} {l : List Int} (hl : okCells l) (h0 : l ≠ []) (hs : l.length ≤ 1000) (h : f_table_text_next_91_0 f = some (B (joinC l), true, st)) : f_table_fields_cells f = some (l, st) := by
  unfold f_table_fields_cells
  rw [h, Option.bind_some]
  dsimp only
  rw [Bool.not_true, cond_false]
  have := iter_ind (b := fun loop (s : S_fields × ByteArray × (List Int) × Bool) => f_table_fields_cells_b1 loop s.1 s.2.1 s.2.2.1 s.2.2.2) (fun s => s.1 = st ∧ ((s.2.2.2 = false ∧ s.2.2.1 = l) ∨ (s.2.2.2 = true ∧ ∃ cs, cs ≠ [] ∧ s.2.1 = B (joinC cs) ∧ s.2.2.1 ++ cs = l))) (fun s => if s.2.2.2 then (l.length + 1 - s.2.2.1.length) else 0) (fun s => some (l, st)) (by
    intro loop s hv ih
    obtain ⟨s1, s2, s3, s4⟩ := s
    dsimp only at hv ih ⊢
    obtain ⟨rfl, ⟨rfl, rfl⟩ | ⟨rfl, cs, hcs, rfl, rfl⟩⟩ := hv
    · rfl
    · unfold f_table_fields_cells_b1
      rw [cond_true, show (⟨#[45]⟩ : ByteArray) = B [45] from rfl]
      rw [List.length_append] at hs
      match cs, hcs with
      | [c], _ =>
        have hc := hl c (by simp)
        have e1 : joinC [c] = dotsU c.toNat := by simp [joinC]
        rw [e1, cut_no 45 _ (dots_no _ (by omega) 45 (by decide)), Option.bind_some]
        dsimp only
        rw [(dots_ok c.toNat (by omega)).2.2.1, Option.bind_some]
        dsimp only
        rw [cn_neg rfl, G_room (by omega), ih _ ⟨rfl, .inl ⟨rfl, ?_⟩⟩ ?_]
        · dsimp only
          rw [Int.toNat_of_nonneg hc.1]
        · dsimp only
          rw [if_neg (by simp), if_pos rfl, List.length_append]
          simp
          omega
      | c :: d :: cs, _ =>
        have hc := hl c (by simp)
        have hj := joinC_len (d :: cs) (fun e he => hl e (by simp at he ⊢; grind))
        have hd := (dots_ok c.toNat (by omega)).2.2.2.2
        simp only [List.length_cons] at hs hj
        rw [joinC_cons, cut_mid 45 _ _ (dots_no _ (by omega) 45 (by decide)) (by rw [List.length_append, List.length_cons]; omega), Option.bind_some]
        dsimp only
        rw [(dots_ok c.toNat (by omega)).2.2.1, Option.bind_some]
        dsimp only
        rw [cn_neg rfl, G_room (by omega), ih _ ⟨rfl, .inr ⟨rfl, d :: cs, by simp, rfl, ?_⟩⟩ ?_]
        · dsimp only
          rw [Int.toNat_of_nonneg hc.1, List.append_assoc]
          rfl
        · dsimp only
          rw [if_pos rfl, if_pos rfl, List.length_append, List.length_append]
          simp
          omega) 1000000 (st, B (joinC l), [], true) ⟨rfl, .inr ⟨rfl, l, h0, rfl, rfl⟩⟩ (by dsimp only; rw [if_pos rfl]; simp; omega)
  exact this
/- Bytes. -/
def dig (k : Nat) : UInt8 := [48, 49, 50, 51, 52, 53, 54, 55, 56, 57, 97, 98, 99, 100, 101, 102].getD k 0
def hexU (l : List UInt8) : List UInt8 := l.flatMap fun b => [dig (b.toNat / 16), dig (b.toNat % 16)]
def hexF (l : List UInt8) : List UInt8 := if l = [] then [46] else hexU l
def hexOk (b : Nat) : Bool :=
  decide (f_table_nibble ((dig (b / 16)).toNat : Int) = some ((b / 16 : Nat) : Int)) && (decide (f_table_nibble ((dig (b % 16)).toNat : Int) = some ((b % 16 : Nat) : Int)) && (decide (IntKind.wrap .u8 (bOr .i64 (bShl .i64 ((b / 16 : Nat) : Int) 4) ((b % 16 : Nat) : Int)) = (b : Int)) &&
    (decide (48 ≤ dig (b / 16) ∧ 48 ≤ dig (b % 16)) && (decide (bShr .u8 (b : Int) 4 = ((b / 16 : Nat) : Int) ∧ bAnd .u8 (b : Int) 15 = ((b % 16 : Nat) : Int))))))
theorem hex_all : (List.range 256).all hexOk = true := by kernel_rfl
theorem hex_ok (b : Nat) (h : b < 256) : f_table_nibble ((dig (b / 16)).toNat : Int) = some ((b / 16 : Nat) : Int) ∧ f_table_nibble ((dig (b % 16)).toNat : Int) = some ((b % 16 : Nat) : Int) ∧ IntKind.wrap .u8 (bOr .i64 (bShl .i64 ((b / 16 : Nat) : Int) 4) ((b % 16 : Nat) : Int)) = (b : Int) ∧ (48 ≤ dig (b / 16) ∧ 48 ≤ dig (b % 16)) ∧ (bShr .u8 (b : Int) 4 = ((b / 16 : Nat) : Int) ∧ bAnd .u8 (b : Int) 15 = ((b % 16 : Nat) : Int)) := by
  have := all_of hex_all b h
  unfold hexOk at this
  simp only [Bool.and_eq_true, decide_eq_true_eq] at this
  exact this
theorem hexU_len (l : List UInt8) : (hexU l).length = 2 * l.length := by
  induction l with
  | nil => rfl
  | cons a l ih => rw [hexU, List.flatMap_cons, List.length_append, ← hexU, ih]; simp; omega
theorem hexU_get : ∀ (l : List UInt8) (j : Nat), j < l.length → (hexU l).getD (2 * j) 0 = dig ((l.getD j 0).toNat / 16) ∧ (hexU l).getD (2 * j + 1) 0 = dig ((l.getD j 0).toNat % 16)
  | a :: l, 0, _ => ⟨rfl, rfl⟩
  | a :: l, j + 1, h => by
    have := hexU_get l j (by simpa using h)
    have e : hexU (a :: l) = dig (a.toNat / 16) :: dig (a.toNat % 16) :: hexU l := rfl
    rw [e, show 2 * (j + 1) = 2 * j + 1 + 1 by omega]
    simpa using this
theorem hexF_no (l : List UInt8) (b : UInt8) (hb : b < 46) : b ∉ hexF l := by
  unfold hexF
  split
  · rw [List.mem_singleton]
    rintro rfl
    exact absurd hb (by decide)
  · intro hm
    obtain ⟨a, _, hm⟩ := List.mem_flatMap.1 hm
    have h := (hex_ok a.toNat a.toNat_lt).2.2.2.1
    have hb' : b.toNat < 46 := hb
    have h1 : 48 ≤ (dig (a.toNat / 16)).toNat := h.1
    have h2 : 48 ≤ (dig (a.toNat % 16)).toNat := h.2
    rcases List.mem_cons.1 hm with rfl | hm
    · omega
    · rw [List.mem_singleton.1 hm] at hb'
      omega
theorem bytes_of {f st : S_fields} {l : List UInt8} (hl : l.length ≤ 1000) (h : f_table_text_next_91_0 f = some (B (hexF l), true, st)) : f_table_fields_bytes f = some (B l, st) := by
  unfold f_table_fields_bytes
  rw [h, Option.bind_some]
  dsimp only
  rw [cond_true, show (⟨#[46]⟩ : ByteArray) = B [46] from rfl, B_beq]
  by_cases e : l = []
  · subst e
    rfl
  · have e1 : hexF l = hexU l := if_neg e
    have hlen := hexU_len l
    have hpos : 0 < l.length := List.length_pos_iff.2 e
    rw [e1, cond_neg (by
      rw [decide_eq_false_iff_not]
      intro e2
      rw [e2] at hlen
      simp at hlen
      omega), show (⟨#[]⟩ : ByteArray) = B [] from rfl, B_beq]
    simp only [or_tt]
    rw [cond_neg (by
      rw [B_size, hlen, Int.tmod_eq_emod_of_nonneg (by omega)]
      have : ¬ hexU l = [] := by
        intro e2
        rw [e2] at hlen
        simp at hlen
        omega
      simp [this])]
    have := iter_ind (b := fun loop (s : S_fields × (List Int) × Int) => f_table_fields_bytes_b1 (B (hexU l), true, st) loop s.1 s.2.1 s.2.2) (fun s => s.1 = st ∧ ∃ j : Nat, s.2.2 = 2 * (j : Int) ∧ j ≤ l.length ∧ s.2.1 = lnt (l.take j)) (fun s => (2 * (l.length : Int) - s.2.2).toNat) (fun s => some (B l, st)) (by
      intro loop s hv ih
      obtain ⟨s1, s2, s3⟩ := s
      dsimp only at hv ih ⊢
      obtain ⟨rfl, j, rfl, hj, rfl⟩ := hv
      unfold f_table_fields_bytes_b1
      dsimp only
      rw [B_size, hlen]
      by_cases hk : j < l.length
      · have hb := (l.getD j 0).toNat_lt
        obtain ⟨x1, x2, x3, _⟩ := hex_ok _ hb
        have hg := hexU_get l j hk
        have e2 : (2 * (j : Int)) = ((2 * j : Nat) : Int) := by omega
        rw [cd_pos (by omega), G_pos (by omega), e2, B_at, hg.1, x1, Option.bind_some, G_inR (by omega), G_pos (by omega), natAdd1, B_at, hg.2, x2, Option.bind_some, or_tt, cond_neg (by simp; omega), G_room (by rw [lnt_len, List.length_take]; omega), G_inR (by omega), x3, ih _ ⟨rfl, j + 1, by dsimp only; omega, by omega, ?_⟩ (by dsimp only; omega)]
        dsimp only
        have et : l.take (j + 1) = l.take j ++ [l.getD j 0] := by
          rw [List.take_succ_eq_append_getElem hk]
          congr 2
          rw [List.getD_eq_getElem?_getD, List.getElem?_eq_getElem hk]
          rfl
        rw [et, lnt_app]
        rfl
      · rw [cd_neg (by omega), List.take_of_length_le (by omega), strOf_lnt]) 1000000 (st, [], 0) ⟨rfl, 0, rfl, by omega, rfl⟩ (by dsimp only; omega)
    exact this
end Go.Proofs.YtlhpkjgpcenfdaaDoor
