/-
  Own work. Chapter 02, plain part: Format.
-/
import Derived.Test.YtlhpkjgpcenfdaaDoorP02i
set_option linter.unusedSimpArgs false
set_option linter.unusedVariables false
set_option linter.unusedSimpArgs false
set_option linter.unusedVariables false
namespace Go.Proofs.YtlhpkjgpcenfdaaDoor
open Go.Abs
theorem take_snoc {α : Type} (l : List α) (k : Nat) (d : α) (h : k < l.length) : l.take (k + 1) = l.take k ++ [l.getD k d] := by
  rw [List.take_succ_eq_append_getElem h]
  congr 2
  rw [List.getD_eq_getElem?_getD, List.getElem?_eq_getElem h]
  rfl
theorem hexU_snoc (l : List UInt8) (b : UInt8) : hexU (l ++ [b]) = hexU l ++ [dig (b.toNat / 16), dig (b.toNat % 16)] := by simp [hexU]
theorem dig_at (k : Nat) (h : k < 16) : bAt (⟨#[48, 49, 50, 51, 52, 53, 54, 55, 56, 57, 97, 98, 99, 100, 101, 102]⟩ : ByteArray) (k : Int) = ((dig k).toNat : Int) := rfl
theorem hex_eq (l : List UInt8) (hl : l.length ≤ 1000) : f_table_hex (B l) = some (B (hexF l)) := by
  unfold f_table_hex hexF
  rw [show (⟨#[]⟩ : ByteArray) = B [] from rfl, B_beq, cond_dec]
  by_cases e : l = []
  · rw [if_pos e, if_pos e]
    rfl
  · rw [if_neg e, if_neg e]
    have := iter_ind (b := fun loop (s : (List Int) × Int) => f_table_hex_b1 (B l) loop s.1 s.2) (fun s => 0 ≤ s.2 ∧ s.2 ≤ (l.length : Int) ∧ s.1 = lnt (hexU (l.take s.2.toNat))) (fun s => ((l.length : Int) - s.2).toNat) (fun s => some (B (hexU l))) (by
      intro loop s hv ih
      obtain ⟨s1, v⟩ := s
      dsimp only at hv ih ⊢
      obtain ⟨h0, h1, rfl⟩ := hv
      obtain ⟨k, rfl⟩ := nat_of h0
      rw [Int.toNat_natCast]
      unfold f_table_hex_b1
      rw [B_size]
      by_cases hk : k < l.length
      · have hb := (l.getD k 0).toNat_lt
        obtain ⟨_, _, _, _, y1, y2⟩ := hex_ok _ hb
        rw [B_at, y1, y2, dig_at _ (by omega), dig_at _ (by omega)]
        rw [cd_pos (by omega), G_pos (by omega), G_pos ⟨by omega, by show (((l.getD k 0).toNat / 16 : Nat) : Int) < 16; omega⟩, G_pos ⟨by omega, by show (((l.getD k 0).toNat % 16 : Nat) : Int) < 16; omega⟩, G_room (by simp only [lnt_len, hexU_len, List.length_take, List.length_cons, List.length_nil]; omega), G_inR (by omega), ih _ ⟨by dsimp only; omega, by dsimp only; omega, ?_⟩ (by dsimp only; omega)]
        dsimp only
        rw [natAdd1, Int.toNat_natCast, take_snoc l k 0 hk, hexU_snoc, lnt_app]
        rfl
      · rw [cd_neg (by omega), List.take_of_length_le (by omega), strOf_lnt]) 1000000 ([], 0) ⟨by dsimp only; omega, by dsimp only; omega, rfl⟩ (by dsimp only; omega)
    exact this
theorem write_eq (L l : List UInt8) (h : L.length + l.length ≤ 1000000) : f_strings_Builder_WriteString (lnt L) (B l) = some ((l.length : Int), (), lnt (L ++ l)) := by
  unfold f_strings_Builder_WriteString f_strings_Builder_copyCheck
  rw [Option.bind_some, G_room (by rw [lnt_len, B_size]; omega), bytesOf_B, lnt_app, B_size]
theorem writeB_eq (L : List UInt8) (b : UInt8) (h : L.length ≤ 1000000) : f_strings_Builder_WriteByte (lnt L) (b.toNat : Int) = some ((), lnt (L ++ [b])) := by
  unfold f_strings_Builder_WriteByte f_strings_Builder_copyCheck
  rw [Option.bind_some, G_room (by rw [lnt_len]; omega), lnt_app]
  rfl
def okRule (r : S_Rule) : Prop := okCells r.Cells ∧ 1 ≤ r.Cells.length ∧ r.Cells.length ≤ 4 ∧ r.Print.size ≤ 4 ∧ (0 ≤ r.From ∧ r.From < 256) ∧ (0 ≤ r.To ∧ r.To < 256) ∧ (0 ≤ r.Left ∧ r.Left < 256) ∧ (0 ≤ r.Right ∧ r.Right < 256)
def pU (r : S_Rule) : List UInt8 := r.Print.data.toList
def nums (r : S_Rule) : List Int := [r.From, r.To, r.Left, r.Right]
def numsU (l : List Int) : List UInt8 := l.flatMap fun n => decU n.toNat ++ [32]
def lineU (r : S_Rule) : List UInt8 := numsU (nums r) ++ (joinC r.Cells ++ 32 :: hexF (pU r))
theorem pU_B (r : S_Rule) : r.Print = B (pU r) := rfl
theorem hexF_len (l : List UInt8) : (hexF l).length ≤ 2 * l.length + 1 := by
  unfold hexF
  split
  · simp
  · rw [hexU_len]; omega
theorem numsU_len (l : List Int) (h : ∀ n ∈ l, 0 ≤ n ∧ n < 256) : (numsU l).length ≤ 4 * l.length := by
  induction l with
  | nil => exact Nat.le_refl _
  | cons a l ih =>
    have h1 := h a List.mem_cons_self
    have h2 := (dec_ok a.toNat (by omega)).2.2.1
    have h3 := ih fun n hn => h n (List.mem_cons_of_mem _ hn)
    rw [numsU, List.flatMap_cons, List.length_append, List.length_append, ← numsU]
    simp only [List.length_cons, List.length_nil]
    omega
theorem nums_ok {r : S_Rule} (h : okRule r) : ∀ n ∈ nums r, 0 ≤ n ∧ n < 256 := by
  obtain ⟨_, _, _, _, h1, h2, h3, h4⟩ := h
  intro n hn
  simp only [nums, List.mem_cons, List.not_mem_nil, or_false] at hn
  rcases hn with rfl | rfl | rfl | rfl <;> assumption
theorem pU_len {r : S_Rule} (h : okRule r) : (pU r).length ≤ 4 := h.2.2.2.1
theorem lineU_len {r : S_Rule} (h : okRule r) : (lineU r).length ≤ 60 := by
  have h1 := numsU_len _ (nums_ok h)
  have h2 := joinC_len _ h.1
  have h3 := hexF_len (pU r)
  have h4 := pU_len h
  have h5 := h.2.2.1
  have e : (nums r).length = 4 := rfl
  rw [lineU, List.length_append, List.length_append, List.length_cons]
  omega
theorem fmt_cells (loop10 : (List Int) × Int → Option ByteArray) (i : Nat) (hi : i < 1000) (r : S_Rule) (h : okRule r) (L : List UInt8) (hL : L.length ≤ 10000) :
    iter (fun loop (s : (List Int) × S_Rule × Int) => f_table_Format_b1 loop10 (i : Int) r loop s.1 s.2.1 s.2.2) 1000000 (lnt L, r, 0) = loop10 (lnt (L ++ (joinC r.Cells ++ 32 :: hexF (pU r)) ++ [10]), ((i + 1 : Nat) : Int)) := by
  have hj := joinC_len _ h.1
  have hh := hexF_len (pU r)
  have hp := pU_len h
  have hc4 := h.2.2.1
  have := iter_ind (b := fun loop (s : (List Int) × S_Rule × Int) => f_table_Format_b1 loop10 (i : Int) r loop s.1 s.2.1 s.2.2) (fun s => s.2.1 = r ∧ 0 ≤ s.2.2 ∧ s.2.2 ≤ (r.Cells.length : Int) ∧ s.1 = lnt (L ++ joinC (r.Cells.take s.2.2.toNat))) (fun s => ((r.Cells.length : Int) - s.2.2).toNat) (fun s => loop10 (lnt (L ++ (joinC r.Cells ++ 32 :: hexF (pU r)) ++ [10]), ((i + 1 : Nat) : Int))) (by
    intro loop s hv ih
    obtain ⟨s1, s2, v⟩ := s
    dsimp only at hv ih ⊢
    obtain ⟨rfl, h0, h1, rfl⟩ := hv
    obtain ⟨k, rfl⟩ := nat_of h0
    rw [Int.toNat_natCast]
    unfold f_table_Format_b1
    have hjk : okCells (s2.Cells.take k) := fun c hc => h.1 c (List.mem_of_mem_take hc)
    have hjl := joinC_len _ hjk
    rw [List.length_take] at hjl
    by_cases hk : k < s2.Cells.length
    · have hc := h.1 _ (getD_mem' s2.Cells k 0 hk)
      obtain ⟨cn, hcn⟩ := nat_of hc.1
      have hd := dots_ok cn (by omega)
      have hk2 : ∀ M : List UInt8, M.length ≤ 20000 → M ++ dotsU cn = L ++ joinC (s2.Cells.take (k + 1)) → f_table_Format_k2 s2 loop (k : Int) (lnt M) s2 = loop10 (lnt (L ++ (joinC s2.Cells ++ 32 :: hexF (pU s2)) ++ [10]), ((i + 1 : Nat) : Int)) := by
        intro M hM hMe
        unfold f_table_Format_k2 f_table_Format_k1
        rw [Int.toNat_natCast, hcn, hd.1, Option.bind_some, write_eq _ _ (by have := hd.2.2.2.2; omega), Option.bind_some]
        dsimp only
        rw [G_inR (by omega), ih _ ⟨rfl, by dsimp only; omega, by dsimp only; omega, ?_⟩ (by dsimp only; omega)]
        dsimp only
        rw [hMe, natAdd1, Int.toNat_natCast]
      rw [cd_pos (by omega), G_pos (by omega)]
      by_cases hk0 : 0 < k
      · rw [cd_pos (by omega), show (45 : Int) = (((45 : UInt8).toNat : Nat) : Int) from rfl, writeB_eq _ _ (by rw [List.length_append]; omega), Option.bind_some]
        dsimp only
        refine hk2 _ (by simp only [List.length_append, List.length_cons, List.length_nil]; omega) ?_
        have hne : s2.Cells.take k ≠ [] := by
          intro e
          have := congrArg List.length e
          rw [List.length_take, List.length_nil] at this
          omega
        rw [take_snoc _ _ 0 hk, joinC_snoc _ _ hne, hcn, Int.toNat_natCast]
        simp
      · have : k = 0 := by omega
        subst this
        rw [cd_neg (by omega)]
        refine hk2 _ (by simp only [List.length_append]; omega) ?_
        rw [take_snoc _ _ 0 hk, hcn]
        simp [joinC]
    · rw [cd_neg (by omega), pU_B s2, hex_eq _ (by omega), Option.bind_some, List.take_of_length_le (by omega), show (⟨#[32]⟩ : ByteArray) = B [32] from rfl, show (⟨#[10]⟩ : ByteArray) = B [10] from rfl, B_app, B_app, B_size, B_size, B_size, B_size]
      rw [G_pos (by simp; omega), G_pos (by simp; omega), write_eq _ _ (by simp only [List.length_append, List.length_cons, List.length_nil]; omega), Option.bind_some]
      dsimp only
      rw [G_inR (by omega), natAdd1]
      simp) 1000000 (lnt L, r, 0) ⟨rfl, by dsimp only; omega, by dsimp only; omega, by dsimp only; simp [joinC]⟩ (by dsimp only; omega)
  exact this
theorem fmt_rule (t : S_Table) (loop10 : (List Int) × Int → Option ByteArray) (i : Nat) (hi : i < 1000) (h : okRule (t.Rules.getD i zS_Rule)) (L : List UInt8) (hL : L.length ≤ 9000) :
    iter (fun loop (s : (List Int) × S_Rule × Int) => f_table_Format_b2 t loop10 (i : Int) loop s.1 s.2.1 s.2.2) 1000000 (lnt L, t.Rules.getD i zS_Rule, 0) = loop10 (lnt (L ++ lineU (t.Rules.getD i zS_Rule) ++ [10]), ((i + 1 : Nat) : Int)) := by
  have hno := nums_ok h
  have := iter_ind (b := fun loop (s : (List Int) × S_Rule × Int) => f_table_Format_b2 t loop10 (i : Int) loop s.1 s.2.1 s.2.2) (fun s => s.2.1 = t.Rules.getD i zS_Rule ∧ 0 ≤ s.2.2 ∧ s.2.2 ≤ 4 ∧ s.1 = lnt (L ++ numsU ((nums (t.Rules.getD i zS_Rule)).take s.2.2.toNat))) (fun s => (4 - s.2.2).toNat) (fun s => loop10 (lnt (L ++ lineU (t.Rules.getD i zS_Rule) ++ [10]), ((i + 1 : Nat) : Int))) (by
    intro loop s hv ih
    obtain ⟨s1, s2, v⟩ := s
    dsimp only at hv ih ⊢
    obtain ⟨rfl, h0, h1, rfl⟩ := hv
    obtain ⟨k, rfl⟩ := nat_of h0
    unfold f_table_Format_b2
    rw [Int.toNat_natCast, Int.toNat_natCast]
    generalize t.Rules.getD i zS_Rule = r at *
    have hL4 : (nums r).length = 4 := rfl
    have hb := h.2.2.2.2
    have e : [r.From, r.To, IntKind.wrap .i64 r.Left, IntKind.wrap .i64 r.Right] = nums r := by
      rw [wrap_i64 (n := r.Left) (by omega), wrap_i64 (n := r.Right) (by omega)]
      rfl
    rw [e, hL4]
    have hnt := numsU_len ((nums r).take k) (fun n hn => hno n (List.mem_of_mem_take hn))
    rw [List.length_take] at hnt
    by_cases hk : k < 4
    · have hn := hno _ (getD_mem' (nums r) k 0 (by omega))
      obtain ⟨n, hne⟩ := nat_of hn.1
      have hd := (dec_ok n (by omega)).2.2.1
      rw [cd_pos (by omega), G_pos (by omega), hne, itoa_eq n (by omega), Option.bind_some, show (⟨#[32]⟩ : ByteArray) = B [32] from rfl, B_app, B_size, B_size, G_pos (by simp; omega), write_eq _ _ (by simp only [List.length_append, List.length_cons, List.length_nil]; omega), Option.bind_some]
      dsimp only
      rw [G_inR (by omega), ih _ ⟨rfl, by dsimp only; omega, by dsimp only; omega, ?_⟩ (by dsimp only; omega)]
      dsimp only
      rw [natAdd1, Int.toNat_natCast, take_snoc _ _ 0 (by omega), hne]
      simp [numsU]
    · rw [cd_neg (by omega), List.take_of_length_le (by omega), fmt_cells loop10 i hi r h _ (by rw [List.length_append]; have := numsU_len _ hno; omega)]
      simp [lineU]) 1000000 (lnt L, t.Rules.getD i zS_Rule, 0) ⟨rfl, by dsimp only; omega, by dsimp only; omega, by dsimp only; simp [numsU]⟩ (by dsimp only; omega)
  exact this
def linesU (l : List S_Rule) : List UInt8 := l.flatMap fun r => lineU r ++ [10]
def headU (t : S_Table) : List UInt8 := [109, 111, 100, 101, 115] ++ 32 :: (decU t.Modes.toNat ++ 32 :: ([97, 99, 99, 101, 112, 116] ++ 32 :: decU t.Accept.toNat))
def fmtU (t : S_Table) : List UInt8 := headU t ++ 10 :: linesU t.Rules
def okTab (t : S_Table) : Prop := (∀ r ∈ t.Rules, okRule r) ∧ t.Rules.length ≤ 10 ∧ (0 ≤ t.Modes ∧ t.Modes < 256) ∧ (0 ≤ t.Accept ∧ t.Accept < 256)
theorem linesU_len (l : List S_Rule) (h : ∀ r ∈ l, okRule r) : (linesU l).length ≤ 61 * l.length := by
  induction l with
  | nil => exact Nat.le_refl _
  | cons a l ih =>
    have h1 := lineU_len (h a List.mem_cons_self)
    have h3 := ih fun n hn => h n (List.mem_cons_of_mem _ hn)
    rw [linesU, List.flatMap_cons, List.length_append, List.length_append, ← linesU]
    simp only [List.length_cons, List.length_nil]
    omega
theorem headU_len {t : S_Table} (h : okTab t) : (headU t).length ≤ 30 := by
  have h1 := (dec_ok t.Modes.toNat (by have := h.2.2.1; omega)).2.2.1
  have h2 := (dec_ok t.Accept.toNat (by have := h.2.2.2; omega)).2.2.1
  simp only [headU, List.length_append, List.length_cons, List.length_nil]
  omega
theorem format_t (t : S_Table) (h : okTab t) : f_table_Format t = some (B (fmtU t)) := by
  obtain ⟨hr, hl, hm, ha⟩ := h
  have hhl := headU_len ⟨hr, hl, hm, ha⟩
  obtain ⟨m, hme⟩ := nat_of hm.1
  obtain ⟨a, hae⟩ := nat_of ha.1
  have h1 := (dec_ok m (by omega)).2.2.1
  have h2 := (dec_ok a (by omega)).2.2.1
  unfold f_table_Format
  rw [wrap_i64 (n := t.Accept) (by omega), hme, hae, itoa_eq m (by omega), itoa_eq a (by omega), Option.bind_some, Option.bind_some]
  rw [show (⟨#[109, 111, 100, 101, 115, 32]⟩ : ByteArray) = B [109, 111, 100, 101, 115, 32] from rfl, show (⟨#[32, 97, 99, 99, 101, 112, 116, 32]⟩ : ByteArray) = B [32, 97, 99, 99, 101, 112, 116, 32] from rfl, show (⟨#[10]⟩ : ByteArray) = B [10] from rfl, B_app, B_app, B_app, B_app]
  rw [G_pos (by simp only [B_size]; simp; omega), G_pos (by simp only [B_size]; simp; omega), G_pos (by simp only [B_size]; simp; omega), G_pos (by simp only [B_size]; simp; omega)]
  have e : [109, 111, 100, 101, 115, 32] ++ decU m ++ [32, 97, 99, 99, 101, 112, 116, 32] ++ decU a ++ [10] = headU t ++ [10] := by
    rw [headU, hme, hae]
    simp
  rw [e]
  unfold f_strings_Builder_WriteString_n66_0 f_strings_Builder_copyCheck_n66_0
  rw [Option.bind_some, G_room (by rw [B_size]; simp; omega), Option.bind_some]
  dsimp only
  rw [List.nil_append, bytesOf_B]
  have := iter_ind (b := fun loop (s : (List Int) × Int) => f_table_Format_b3 t loop s.1 s.2) (fun s => 0 ≤ s.2 ∧ s.2 ≤ (t.Rules.length : Int) ∧ s.1 = lnt (headU t ++ [10] ++ linesU (t.Rules.take s.2.toNat))) (fun s => ((t.Rules.length : Int) - s.2).toNat) (fun s => some (B (fmtU t))) (by
    intro loop s hv ih
    obtain ⟨s1, v⟩ := s
    dsimp only at hv ih ⊢
    obtain ⟨h0, h1, rfl⟩ := hv
    obtain ⟨k, rfl⟩ := nat_of h0
    unfold f_table_Format_b3
    rw [Int.toNat_natCast]
    have hll := linesU_len (t.Rules.take k) (fun r hr' => hr r (List.mem_of_mem_take hr'))
    rw [List.length_take] at hll
    by_cases hk : k < t.Rules.length
    · rw [cd_pos (by omega), G_pos (by omega), fmt_rule t loop k (by omega) (hr _ (getD_mem' _ _ _ hk)) _ (by simp only [List.length_append, List.length_cons, List.length_nil]; omega), ih _ ⟨by dsimp only; omega, by dsimp only; omega, ?_⟩ (by dsimp only; omega)]
      dsimp only
      rw [Int.toNat_natCast, take_snoc _ _ zS_Rule hk]
      simp [linesU]
    · rw [cd_neg (by omega), List.take_of_length_le (by omega)]
      unfold f_strings_Builder_String
      rw [G_pos (by rw [lnt_len]; simp; omega), G_pos (lnt_bytes _), Option.bind_some]
      dsimp only
      rw [strOf_lnt, fmtU]
      simp) 1000000 (lnt (headU t ++ [10]), 0) ⟨by dsimp only; omega, by dsimp only; omega, by dsimp only; simp [linesU]⟩ (by dsimp only; omega)
  exact this
end Go.Proofs.YtlhpkjgpcenfdaaDoor
