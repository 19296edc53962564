/-
  Own work. Chapter 02, plain part: the reference's Format; Parse; TableRoundTrips.
-/
import Derived.Test.YtlhpkjgpcenfdaaDoorP02j
set_option linter.unusedSimpArgs false
set_option linter.unusedVariables false
set_option linter.unusedSimpArgs false
set_option linter.unusedVariables false
namespace Go.Proofs.YtlhpkjgpcenfdaaDoor
open Go.Abs
def hexRef (b : Nat) : Bool :=
  decide (((⟨#[48, 49, 50, 51, 52, 53, 54, 55, 56, 57, 97, 98, 99, 100, 101, 102]⟩ : ByteArray).extract ((Int.tdiv (b : Int) 16).toNat) (((Int.tdiv (b : Int) 16) + 1).toNat)).data.toList = [dig (b / 16)]) && decide (((⟨#[48, 49, 50, 51, 52, 53, 54, 55, 56, 57, 97, 98, 99, 100, 101, 102]⟩ : ByteArray).extract ((Int.tmod (b : Int) 16).toNat) (((Int.tmod (b : Int) 16) + 1).toNat)).data.toList = [dig (b % 16)])
theorem hexRef_all : (List.range 256).all hexRef = true := by kernel_rfl
theorem hexRef_ok (b : Nat) (h : b < 256) : (⟨#[48, 49, 50, 51, 52, 53, 54, 55, 56, 57, 97, 98, 99, 100, 101, 102]⟩ : ByteArray).extract ((Int.tdiv (b : Int) 16).toNat) (((Int.tdiv (b : Int) 16) + 1).toNat) = B [dig (b / 16)] ∧ (⟨#[48, 49, 50, 51, 52, 53, 54, 55, 56, 57, 97, 98, 99, 100, 101, 102]⟩ : ByteArray).extract ((Int.tmod (b : Int) 16).toNat) (((Int.tmod (b : Int) 16) + 1).toNat) = B [dig (b % 16)] := by
  have := all_of hexRef_all b h
  unfold hexRef at this
  simp only [Bool.and_eq_true, decide_eq_true_eq] at this
  exact ⟨WideShapes.bytes_inj this.1, WideShapes.bytes_inj this.2⟩
section
variable (t : S_Table) (loop10 : S_Table × ByteArray × Int → Option ByteArray) (i : Nat) (hi : i < 1000) (h : okRule (t.Rules.getD i zS_Rule))
include hi h
theorem ref_hex (L : List UInt8) (hL : L.length ≤ 10000) :
    iter (fun loop (s : ByteArray × Int) => f_R02_Format_b1 loop10 t (i : Int) loop s.1 s.2) 1000000 (B L, 0) = loop10 (t, B (L ++ hexF (pU (t.Rules.getD i zS_Rule)) ++ [10]), ((i + 1 : Nat) : Int)) := by
  have hp := pU_len h
  have hk4 : ∀ M : List UInt8, M.length ≤ 20000 → f_R02_Format_k4 loop10 t (i : Int) (B M) = loop10 (t, B (M ++ [10]), ((i + 1 : Nat) : Int)) := by
    intro M hM
    unfold f_R02_Format_k4 f_R02_Format_k1
    rw [show (⟨#[10]⟩ : ByteArray) = B [10] from rfl, B_app, G_pos (by rw [B_size, B_size]; simp; omega), G_inR (by omega), natAdd1]
  have := iter_ind (b := fun loop (s : ByteArray × Int) => f_R02_Format_b1 loop10 t (i : Int) loop s.1 s.2) (fun s => 0 ≤ s.2 ∧ s.2 ≤ ((pU (t.Rules.getD i zS_Rule)).length : Int) ∧ s.1 = B (L ++ hexU ((pU (t.Rules.getD i zS_Rule)).take s.2.toNat))) (fun s => (((pU (t.Rules.getD i zS_Rule)).length : Int) - s.2).toNat) (fun s => loop10 (t, B (L ++ hexF (pU (t.Rules.getD i zS_Rule)) ++ [10]), ((i + 1 : Nat) : Int))) (by
    intro loop s hv ih
    obtain ⟨s1, v⟩ := s
    dsimp only at hv ih ⊢
    obtain ⟨h0, h1, rfl⟩ := hv
    obtain ⟨k, rfl⟩ := nat_of h0
    unfold f_R02_Format_b1
    rw [Int.toNat_natCast, Int.toNat_natCast]
    generalize t.Rules.getD i zS_Rule = r at *
    rw [pU_B r, B_size]
    have hxl := hexU_len ((pU r).take k)
    rw [List.length_take] at hxl
    by_cases hk : k < (pU r).length
    · have hb := ((pU r).getD k 0).toNat_lt
      obtain ⟨y1, y2⟩ := hexRef_ok _ hb
      have hd : Int.tdiv (((pU r).getD k 0).toNat : Int) 16 = ((((pU r).getD k 0).toNat / 16 : Nat) : Int) := by rw [Int.tdiv_eq_ediv_of_nonneg (by omega)]; omega
      have hm : Int.tmod (((pU r).getD k 0).toNat : Int) 16 = ((((pU r).getD k 0).toNat % 16 : Nat) : Int) := by rw [Int.tmod_eq_emod_of_nonneg (by omega)]; omega
      rw [B_at, wrap_i64 (by omega), y1, y2, B_app, B_app]
      have s16 : (⟨#[48, 49, 50, 51, 52, 53, 54, 55, 56, 57, 97, 98, 99, 100, 101, 102]⟩ : ByteArray).size = 16 := rfl
      rw [cd_pos (by omega), G_pos (by omega), G_inR (by omega), G_inR (by omega), G_pos (by rw [s16]; omega), G_pos (by omega), G_inR (by omega), G_pos (by rw [s16]; omega), G_pos (by omega), G_pos (by simp only [B_size]; simp), G_pos (by simp only [B_size, List.length_append, List.length_cons, List.length_nil]; omega), G_inR (by omega), ih _ ⟨by dsimp only; omega, by dsimp only; omega, ?_⟩ (by dsimp only; omega)]
      dsimp only
      rw [natAdd1, Int.toNat_natCast, take_snoc _ _ 0 hk, hexU_snoc]
      simp
    · rw [cd_neg (by omega), List.take_of_length_le (by omega)]
      have hxl2 := hexU_len (pU r)
      by_cases e : pU r = []
      · rw [cb_pos (by rw [e]; rfl), show (⟨#[46]⟩ : ByteArray) = B [46] from rfl, B_app, G_pos (by simp only [B_size, List.length_append, List.length_cons, List.length_nil]; omega), hk4 _ (by simp only [List.length_append, List.length_cons, List.length_nil]; omega)]
        unfold hexF
        rw [if_pos e, e]
        simp [hexU]
      · have : 0 < (pU r).length := List.length_pos_iff.2 e
        rw [cb_neg (by omega), hk4 _ (by simp only [List.length_append]; omega)]
        unfold hexF
        rw [if_neg e]) 1000000 (B L, 0) ⟨by dsimp only; omega, by dsimp only; omega, by dsimp only; simp [hexU]⟩ (by dsimp only; omega)
  exact this
theorem ref_cells (L : List UInt8) (hL : L.length ≤ 9900) :
    iter (fun loop (s : ByteArray × Int) => f_R02_Format_b2 loop10 t (i : Int) loop s.1 s.2) 1000000 (B L, 0) = loop10 (t, B (L ++ (joinC (t.Rules.getD i zS_Rule).Cells ++ 32 :: hexF (pU (t.Rules.getD i zS_Rule))) ++ [10]), ((i + 1 : Nat) : Int)) := by
  have hj := joinC_len _ h.1
  have hc4 := h.2.2.1
  have hx := ref_hex t loop10 i hi h
  have := iter_ind (b := fun loop (s : ByteArray × Int) => f_R02_Format_b2 loop10 t (i : Int) loop s.1 s.2) (fun s => 0 ≤ s.2 ∧ s.2 ≤ ((t.Rules.getD i zS_Rule).Cells.length : Int) ∧ s.1 = B (L ++ joinC ((t.Rules.getD i zS_Rule).Cells.take s.2.toNat))) (fun s => (((t.Rules.getD i zS_Rule).Cells.length : Int) - s.2).toNat) (fun s => loop10 (t, B (L ++ (joinC (t.Rules.getD i zS_Rule).Cells ++ 32 :: hexF (pU (t.Rules.getD i zS_Rule))) ++ [10]), ((i + 1 : Nat) : Int))) (by
    intro loop s hv ih
    obtain ⟨s1, v⟩ := s
    dsimp only at hv ih ⊢
    obtain ⟨h0, h1, rfl⟩ := hv
    obtain ⟨k, rfl⟩ := nat_of h0
    unfold f_R02_Format_b2
    rw [Int.toNat_natCast, Int.toNat_natCast]
    have hjk : okCells ((t.Rules.getD i zS_Rule).Cells.take k) := fun c hc => h.1 c (List.mem_of_mem_take hc)
    have hjl := joinC_len _ hjk
    rw [List.length_take] at hjl
    by_cases hk : k < (t.Rules.getD i zS_Rule).Cells.length
    · have hc := h.1 _ (getD_mem' (t.Rules.getD i zS_Rule).Cells k 0 hk)
      obtain ⟨cn, hcn⟩ := nat_of hc.1
      have hd := dots_ok cn (by omega)
      have hk2 : ∀ M : List UInt8, M.length ≤ 20000 → M ++ dotsU cn = L ++ joinC ((t.Rules.getD i zS_Rule).Cells.take (k + 1)) → f_R02_Format_k3 t (i : Int) loop (k : Int) (B M) = loop10 (t, B (L ++ (joinC (t.Rules.getD i zS_Rule).Cells ++ 32 :: hexF (pU (t.Rules.getD i zS_Rule))) ++ [10]), ((i + 1 : Nat) : Int)) := by
        intro M hM hMe
        unfold f_R02_Format_k3 f_R02_Format_k2
        have hd6 := hd.2.2.2.2
        rw [Int.toNat_natCast, Int.toNat_natCast, G_pos (by omega), hcn, hd.2.1, Option.bind_some, B_app, G_pos (by rw [B_size, B_size]; omega), G_inR (by omega), ih _ ⟨by dsimp only; omega, by dsimp only; omega, ?_⟩ (by dsimp only; omega)]
        dsimp only
        rw [hMe, natAdd1, Int.toNat_natCast]
      rw [cd_pos (by omega)]
      by_cases hk0 : 0 < k
      · rw [cd_pos (by omega), show (⟨#[45]⟩ : ByteArray) = B [45] from rfl, B_app, G_pos (by simp only [B_size, List.length_append, List.length_cons, List.length_nil]; omega)]
        refine hk2 _ (by simp only [List.length_append, List.length_cons, List.length_nil]; omega) ?_
        have hne : (t.Rules.getD i zS_Rule).Cells.take k ≠ [] := by
          intro e
          have := congrArg List.length e
          rw [List.length_take, List.length_nil] at this
          omega
        rw [take_snoc _ _ 0 hk, joinC_snoc _ _ hne, hcn, Int.toNat_natCast]
        simp
      · have : k = 0 := by omega
        subst this
        rw [cd_neg (by omega)]
        refine hk2 _ (by simp only [List.length_append]; omega) ?_
        rw [take_snoc _ _ 0 hk, hcn]
        simp [joinC]
    · rw [cd_neg (by omega), List.take_of_length_le (by omega), show (⟨#[32]⟩ : ByteArray) = B [32] from rfl, B_app, G_pos (by simp only [B_size, List.length_append, List.length_cons, List.length_nil]; omega), hx _ (by simp only [List.length_append, List.length_cons, List.length_nil]; omega)]
      simp) 1000000 (B L, 0) ⟨by dsimp only; omega, by dsimp only; omega, by dsimp only; simp [joinC]⟩ (by dsimp only; omega)
  exact this
end
theorem format_r (t : S_Table) (h : okTab t) : f_R02_Format t = some (B (fmtU t)) := by
  obtain ⟨hr, hl, hm, ha⟩ := h
  have hhl := headU_len ⟨hr, hl, hm, ha⟩
  obtain ⟨m, hme⟩ := nat_of hm.1
  obtain ⟨a, hae⟩ := nat_of ha.1
  have h1 := (dec_ok m (by omega)).2.2.1
  have h2 := (dec_ok a (by omega)).2.2.1
  unfold f_R02_Format
  rw [wrap_i64 (n := t.Accept) (by omega), hme, hae, decimal_eq m (by omega), decimal_eq a (by omega), Option.bind_some, Option.bind_some]
  rw [show (⟨#[109, 111, 100, 101, 115, 32]⟩ : ByteArray) = B [109, 111, 100, 101, 115, 32] from rfl, show (⟨#[32, 97, 99, 99, 101, 112, 116, 32]⟩ : ByteArray) = B [32, 97, 99, 99, 101, 112, 116, 32] from rfl, show (⟨#[10]⟩ : ByteArray) = B [10] from rfl, B_app, B_app, B_app, B_app]
  rw [G_pos (by simp only [B_size, List.length_append, List.length_cons, List.length_nil]; omega), G_pos (by simp only [B_size, List.length_append, List.length_cons, List.length_nil]; omega), G_pos (by simp only [B_size, List.length_append, List.length_cons, List.length_nil]; omega), G_pos (by simp only [B_size, List.length_append, List.length_cons, List.length_nil]; omega)]
  have e : [109, 111, 100, 101, 115, 32] ++ decU m ++ [32, 97, 99, 99, 101, 112, 116, 32] ++ decU a ++ [10] = headU t ++ [10] := by
    rw [headU, hme, hae]
    simp
  rw [e]
  have := iter_ind (b := fun loop (s : S_Table × ByteArray × Int) => f_R02_Format_b3 loop s.1 s.2.1 s.2.2) (fun s => s.1 = t ∧ 0 ≤ s.2.2 ∧ s.2.2 ≤ (t.Rules.length : Int) ∧ s.2.1 = B (headU t ++ [10] ++ linesU (t.Rules.take s.2.2.toNat))) (fun s => ((t.Rules.length : Int) - s.2.2).toNat) (fun s => some (B (fmtU t))) (by
    intro loop s hv ih
    obtain ⟨s1, s2, v⟩ := s
    dsimp only at hv ih ⊢
    obtain ⟨rfl, h0, h1, rfl⟩ := hv
    obtain ⟨k, rfl⟩ := nat_of h0
    unfold f_R02_Format_b3
    rw [Int.toNat_natCast]
    have hll := linesU_len (s1.Rules.take k) (fun r hr' => hr r (List.mem_of_mem_take hr'))
    rw [List.length_take] at hll
    by_cases hk : k < s1.Rules.length
    · have hok := hr _ (getD_mem' _ _ zS_Rule hk)
      have hx := ref_cells s1 loop k (by omega) hok
      have hno := nums_ok hok
      have hnl := numsU_len _ hno
      obtain ⟨_, _, _, _, b1, b2, b3, b4⟩ := hok
      have enu : numsU (nums (s1.Rules.getD k zS_Rule)) = decU (s1.Rules.getD k zS_Rule).From.toNat ++ [32] ++ decU (s1.Rules.getD k zS_Rule).To.toNat ++ [32] ++ decU (s1.Rules.getD k zS_Rule).Left.toNat ++ [32] ++ decU (s1.Rules.getD k zS_Rule).Right.toNat ++ [32] := by simp [numsU, nums]
      have elu : lineU (s1.Rules.getD k zS_Rule) = numsU (nums (s1.Rules.getD k zS_Rule)) ++ (joinC (s1.Rules.getD k zS_Rule).Cells ++ 32 :: hexF (pU (s1.Rules.getD k zS_Rule))) := rfl
      rw [cd_pos (by omega), G_pos (by omega), wrap_i64 (n := (s1.Rules.getD k zS_Rule).Left) (by omega), wrap_i64 (n := (s1.Rules.getD k zS_Rule).Right) (by omega)]
      generalize hgr : s1.Rules.getD k zS_Rule = r at *
      obtain ⟨n1, e1⟩ := nat_of b1.1
      obtain ⟨n2, e2⟩ := nat_of b2.1
      obtain ⟨n3, e3⟩ := nat_of b3.1
      obtain ⟨n4, e4⟩ := nat_of b4.1
      rw [e1, e2, e3, e4] at enu ⊢
      simp only [Int.toNat_natCast] at enu
      have d1 := (dec_ok n1 (by omega)).2.2.1
      have d2 := (dec_ok n2 (by omega)).2.2.1
      have d3 := (dec_ok n3 (by omega)).2.2.1
      have d4 := (dec_ok n4 (by omega)).2.2.1
      rw [decimal_eq n1 (by omega), decimal_eq n2 (by omega), decimal_eq n3 (by omega), decimal_eq n4 (by omega), Option.bind_some, Option.bind_some, Option.bind_some, Option.bind_some, show (⟨#[32]⟩ : ByteArray) = B [32] from rfl]
      rw [B_app, B_app, B_app, B_app, B_app, B_app, B_app, B_app, ← enu]
      rw [G_pos (by simp only [B_size, List.length_append, List.length_cons, List.length_nil]; omega), G_pos (by simp only [B_size, List.length_append, List.length_cons, List.length_nil]; omega), G_pos (by simp only [B_size, List.length_append, List.length_cons, List.length_nil]; omega), G_pos (by simp only [B_size, List.length_append, List.length_cons, List.length_nil]; omega), G_pos (by simp only [B_size, List.length_append, List.length_cons, List.length_nil]; omega), G_pos (by simp only [B_size, List.length_append, List.length_cons, List.length_nil]; omega), G_pos (by simp only [B_size, List.length_append, List.length_cons, List.length_nil]; omega), G_pos (by simp only [B_size]; simp only [List.length_append, List.length_cons, List.length_nil]; have : (nums r).length = 4 := rfl; omega)]
      rw [hx _ (by simp only [List.length_append, List.length_cons, List.length_nil]; have : (nums r).length = 4 := rfl; omega), ih _ ⟨rfl, by dsimp only; omega, by dsimp only; omega, ?_⟩ (by dsimp only; omega)]
      dsimp only
      rw [Int.toNat_natCast, take_snoc _ _ zS_Rule hk, hgr]
      have e9 : linesU (s1.Rules.take k ++ [r]) = linesU (s1.Rules.take k) ++ (lineU r ++ [10]) := by simp [linesU]
      rw [e9, elu]
      simp only [List.append_assoc]
    · rw [cd_neg (by omega), List.take_of_length_le (by omega), fmtU]
      simp) 1000000 (t, B (headU t ++ [10]), 0) ⟨rfl, by dsimp only; omega, by dsimp only; omega, by dsimp only; simp [linesU]⟩ (by dsimp only; omega)
  exact this
/- Parse. -/
theorem start_eq (t s : S_Table) (h : okTab t) : f_table_start s (B (headU t)) = some (true, ⟨t.Modes, t.Accept, s.Rules⟩) := by
  obtain ⟨hr, hl, hm, ha⟩ := h
  have hhl := headU_len ⟨hr, hl, hm, ha⟩
  unfold f_table_start
  unfold headU at hhl ⊢
  obtain ⟨m, hme⟩ := nat_of hm.1
  obtain ⟨a, hae⟩ := nat_of ha.1
  rw [hme, hae] at hhl ⊢
  rw [Int.toNat_natCast, Int.toNat_natCast] at hhl ⊢
  have n32 : ∀ n, n < 256 → (32 : UInt8) ∉ decU n := fun n hn => dec_no n hn 32 (by decide)
  simp only [List.length_append, List.length_cons, List.length_nil] at hhl
  rw [show (⟨#[109, 111, 100, 101, 115]⟩ : ByteArray) = B [109, 111, 100, 101, 115] from rfl, show (⟨#[97, 99, 99, 101, 112, 116]⟩ : ByteArray) = B [97, 99, 99, 101, 112, 116] from rfl]
  rw [word_mid _ _ _ (by decide) (by simp only [List.length_append, List.length_cons, List.length_nil]; omega), Option.bind_some]
  rw [number_of (.inl rfl) (by omega) (next_mid (decU m) _ _ (n32 m (by omega)) (by simp only [List.length_append, List.length_cons, List.length_nil]; omega)), Option.bind_some]
  dsimp only
  rw [word_mid _ _ _ (by decide) (by simp only [List.length_append, List.length_cons, List.length_nil]; omega), Option.bind_some]
  rw [number_of (.inr rfl) (by omega) (next_last (decU a) _ (n32 a (by omega))), Option.bind_some]
  unfold f_table_fields_right
  rw [Option.bind_some]
  dsimp only
  rw [wrap_u8' (by omega)]
  rfl
theorem rule_eq (r : S_Rule) (s : S_Table) (h : okRule r) (hs : s.Rules.length ≤ 1000) : f_table_rule s (B (lineU r)) = some (true, ⟨s.Modes, s.Accept, s.Rules ++ [r]⟩) := by
  have hll := lineU_len h
  obtain ⟨hc, h1, h2, h3, b1, b2, b3, b4⟩ := h
  have elu : lineU r = decU r.From.toNat ++ 32 :: (decU r.To.toNat ++ 32 :: (decU r.Left.toNat ++ 32 :: (decU r.Right.toNat ++ 32 :: (joinC r.Cells ++ 32 :: hexF (pU r))))) := by simp [lineU, numsU, nums]
  unfold f_table_rule
  rw [elu] at hll ⊢
  obtain ⟨n1, e1⟩ := nat_of b1.1
  obtain ⟨n2, e2⟩ := nat_of b2.1
  obtain ⟨n3, e3⟩ := nat_of b3.1
  obtain ⟨n4, e4⟩ := nat_of b4.1
  have n32 : ∀ n, n < 256 → (32 : UInt8) ∉ decU n := fun n hn => dec_no n hn 32 (by decide)
  rw [e1, e2, e3, e4] at hll ⊢
  simp only [Int.toNat_natCast] at hll ⊢
  simp only [List.length_append, List.length_cons] at hll
  rw [number_of (.inl rfl) (by omega) (next_mid (decU n1) _ _ (n32 n1 (by omega)) (by simp only [List.length_append, List.length_cons]; omega)), Option.bind_some]
  dsimp only
  rw [number_of (.inl rfl) (by omega) (next_mid (decU n2) _ _ (n32 n2 (by omega)) (by simp only [List.length_append, List.length_cons]; omega)), Option.bind_some]
  dsimp only
  rw [number_of (.inr rfl) (by omega) (next_mid (decU n3) _ _ (n32 n3 (by omega)) (by simp only [List.length_append, List.length_cons]; omega)), Option.bind_some]
  dsimp only
  rw [number_of (.inr rfl) (by omega) (next_mid (decU n4) _ _ (n32 n4 (by omega)) (by simp only [List.length_append, List.length_cons]; omega)), Option.bind_some]
  dsimp only
  rw [cells_of hc (by rintro e; rw [e] at h1; simp at h1) (by omega) (next_mid (joinC r.Cells) _ _ (joinC_no _ hc 32 (by decide)) (by simp only [List.length_append, List.length_cons]; omega)), Option.bind_some]
  dsimp only
  rw [bytes_of (l := pU r) (by have : (pU r).length ≤ 4 := h3; omega) (next_last _ _ (hexF_no _ 32 (by decide))), Option.bind_some]
  dsimp only
  rw [G_room (by simp; omega), wrap_u8' (by omega), wrap_u8' (by omega)]
  unfold f_table_fields_right
  rw [Option.bind_some]
  dsimp only
  rw [← pU_B r, ← e1, ← e2, ← e3, ← e4]
  rfl
theorem lineU_no (r : S_Rule) (h : okRule r) : (10 : UInt8) ∉ lineU r := by
  have hno := nums_ok h
  unfold lineU
  intro hm
  rcases List.mem_append.1 hm with hm | hm
  · obtain ⟨n, hn, hm⟩ := List.mem_flatMap.1 hm
    have := hno n hn
    rcases List.mem_append.1 hm with hm | hm
    · exact dec_no _ (by omega) 10 (by decide) hm
    · exact absurd hm (by decide)
  · rcases List.mem_append.1 hm with hm | hm
    · exact joinC_no _ h.1 10 (by decide) hm
    · rcases List.mem_cons.1 hm with hm | hm
      · exact absurd hm (by decide)
      · exact hexF_no _ 10 (by decide) hm
theorem headU_no {t : S_Table} (h : okTab t) : (10 : UInt8) ∉ headU t := by
  obtain ⟨hr, hl, hm, ha⟩ := h
  unfold headU
  have d1 := dec_no t.Modes.toNat (by omega) 10 (by decide)
  have d2 := dec_no t.Accept.toNat (by omega) 10 (by decide)
  simp only [List.mem_append, List.mem_cons, List.not_mem_nil, or_false, not_or]
  refine ⟨by decide, by decide, d1, by decide, by decide, by decide, d2⟩
theorem parse_eq (t : S_Table) (h : okTab t) (hc : f_table_Check t = some (0, 0)) : f_table_Parse (B (fmtU t)) = some (t, 0, 0) := by
  obtain ⟨hr, hl, hm, ha⟩ := h
  have hhl := headU_len ⟨hr, hl, hm, ha⟩
  unfold f_table_Parse
  have := iter_ind (b := fun loop (s : ByteArray × S_Table × S_Table × Int) => f_table_Parse_b1 loop s.1 s.2.1 s.2.2.1 s.2.2.2) (fun s => (s.2.2.2 = 0 ∧ s.1 = B (fmtU t) ∧ s.2.2.1.Rules = []) ∨ ∃ k : Nat, k ≤ t.Rules.length ∧ s.2.2.2 = (k : Int) + 1 ∧ s.1 = B (linesU (t.Rules.drop k)) ∧ s.2.2.1 = ⟨t.Modes, t.Accept, t.Rules.take k⟩) (fun s => ((t.Rules.length : Int) + 1 - s.2.2.2).toNat) (fun s => some (t, 0, 0)) (by
    intro loop s hv ih
    obtain ⟨s1, s2, s3, v⟩ := s
    dsimp only at hv ih ⊢
    unfold f_table_Parse_b1 f_table_Parse_k1
    rw [or_tt, show (⟨#[10]⟩ : ByteArray) = B [10] from rfl, show (⟨#[]⟩ : ByteArray) = B [] from rfl]
    rcases hv with ⟨rfl, rfl, h3⟩ | ⟨k, hk, rfl, rfl, rfl⟩
    · have hll := linesU_len t.Rules hr
      rw [cond_pos (by simp), fmtU, cut_mid 10 _ _ (headU_no ⟨hr, hl, hm, ha⟩) (by simp only [List.length_append, List.length_cons]; omega), Option.bind_some]
      dsimp only
      rw [Bool.not_true, cond_false, cb_pos rfl, start_eq t s3 ⟨hr, hl, hm, ha⟩, Option.bind_some]
      dsimp only
      rw [Bool.not_true, cond_false, G_inR (by omega), ih _ (.inr ⟨0, by omega, rfl, rfl, by rw [h3]; rfl⟩) (by dsimp only; omega)]
    · by_cases hk2 : k < t.Rules.length
      · have hok := hr _ (getD_mem' t.Rules k zS_Rule hk2)
        have hll := linesU_len (t.Rules.drop (k + 1)) (fun r hr' => hr r (List.mem_of_mem_drop hr'))
        have hl1 := lineU_len hok
        rw [List.length_drop] at hll
        have e : linesU (t.Rules.drop k) = lineU (t.Rules.getD k zS_Rule) ++ 10 :: linesU (t.Rules.drop (k + 1)) := by
          rw [getD_drop t.Rules k zS_Rule hk2, linesU, List.flatMap_cons]
          simp [linesU]
        rw [e, B_beq, cond_pos (by simp), cut_mid 10 _ _ (lineU_no _ hok) (by simp only [List.length_append, List.length_cons]; omega), Option.bind_some]
        dsimp only
        rw [Bool.not_true, cond_false, cb_neg (by omega), rule_eq _ _ hok (by dsimp only; rw [List.length_take]; omega), Option.bind_some]
        dsimp only
        rw [Bool.not_true, cond_false, G_inR (by omega), ih _ (.inr ⟨k + 1, by omega, by dsimp only; omega, rfl, by rw [take_snoc _ _ zS_Rule hk2]⟩) (by dsimp only; omega)]
      · have e : linesU (t.Rules.drop k) = [] := by
          rw [List.drop_eq_nil_of_le (by omega)]
          rfl
        have e2 : (⟨t.Modes, t.Accept, t.Rules.take k⟩ : S_Table) = t := by rw [List.take_of_length_le (by omega)]
        rw [e, B_beq, cond_neg (by simp; omega), e2, hc, Option.bind_some]
        rfl) 1000000 (B (fmtU t), ⟨0, 0, []⟩, ⟨0, 0, []⟩, 0) (.inl ⟨rfl, rfl, rfl⟩) (by dsimp only; omega)
  exact this
theorem same_tab (t : S_Table) (hl : t.Rules.length ≤ 1000) (hs : small t.Rules) : f_R02_Same t t = some true := by
  unfold f_R02_Same
  rw [bne_self_eq_false, bne_self_eq_false, bne_self_eq_false, cond_false, cond_false, cond_false]
  have := iter_ind (b := fun loop (s : Int) => f_R02_Same_b1 t t loop s) (fun s => 0 ≤ s ∧ s ≤ (t.Rules.length : Int)) (fun s => ((t.Rules.length : Int) - s).toNat) (fun s => some true) (by
    intro loop v hv ih
    obtain ⟨k, rfl⟩ := nat_of hv.1
    rw [f_R02_Same_b1, Int.toNat_natCast]
    by_cases hk : k < t.Rules.length
    · have hm := hs _ (getD_mem' t.Rules k zS_Rule (by omega))
      rw [cd_pos (by omega), G_pos (by omega), G_pos (by omega), same_r _ _ hm.2, Option.bind_some, G_inR (by omega), ih _ (by omega) (by omega)]
      have : sameB (t.Rules.getD k zS_Rule) (t.Rules.getD k zS_Rule) = true := by unfold sameB; simp
      rw [this]
      rfl
    · rw [cd_neg (by omega)]) 1000000 0 (by omega) (by omega)
  exact this
theorem plain_TableRoundTrips {t0 : S_Raw} (h0 : okS_Raw t0) : f_L02_TableRoundTrips t0 = some true := by
  apply WP.eq
  unfold f_L02_TableRoundTrips
  refine WP.bind sanity_true (WP.bindW ?_)
  refine (made_ok t0 h0).imp fun t ht => ?_
  obtain ⟨hv, hl, ha, hnn⟩ := ht
  have hh := hv.1
  unfold hdr at hh
  have hsm := good_small hv.2
  have hok : okTab t := by
    refine ⟨fun r hr => ?_, hl, by omega, by omega⟩
    have h1 := hv.2.1 r hr
    have h2 := List.all_eq_true.1 hnn r hr
    unfold nnR at h2
    have h2 := List.all_eq_true.1 h2
    unfold soundB masks at h1
    simp only [Bool.and_eq_true, decide_eq_true_eq] at h1
    obtain ⟨⟨g1, g2, g3⟩, _, ⟨g4, g5, g6, g7, g8, g9, g10, g11⟩, g12⟩ := h1
    refine ⟨?_, g2, g3, g1, by omega, by omega, by omega, by omega⟩
    intro c hc
    have hc0 := h2 c hc
    rw [decide_eq_true_eq] at hc0
    split at g12
    · simp only [Bool.and_eq_true, decide_eq_true_eq] at g12
      obtain ⟨_, e1, e2⟩ := g12
      match hq : r.Cells, e1 with
      | [x], _ =>
        rw [hq] at e2 hc
        rw [List.mem_singleton] at hc
        have : x = 0 := by simpa using e2
        omega
    · have := List.all_eq_true.1 g12 c hc
      unfold okCell at this
      simp only [Bool.and_eq_true, decide_eq_true_eq] at this
      omega
  have hck : f_table_Check t = some (0, 0) := by rw [check_t t hsm (by omega), validT_check hv]
  refine WP.bind (format_t t hok) (WP.bind (parse_eq t hok hck) (WP.bind (format_r t hok) ?_))
  dsimp only
  rw [beq_self_eq_true]
  refine WP.bind (a := true) ?_ (WP.some rfl)
  exact same_tab t (by omega) hsm
end Go.Proofs.YtlhpkjgpcenfdaaDoor
