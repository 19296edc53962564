/-
  Own work. Chapter 02, plain part: the tables that are made are valid.
-/
import Derived.Test.YtlhpkjgpcenfdaaDoorP02f
import Derived.Test.YtlhpkjgpcenfdaaDoorWM1
set_option linter.unusedSimpArgs false
set_option linter.unusedVariables false
set_option linter.unusedSimpArgs false
set_option linter.unusedVariables false
namespace Go.Proofs.YtlhpkjgpcenfdaaDoor
open Go.Abs
theorem chk_zero (m : Int) (l : List S_Rule) : ∀ (n k : Nat), (chk m l k n).2 = 0 → ∀ i, k ≤ i → i < k + n → badR m l i = false
  | 0, k, _, i, h1, h2 => by omega
  | n + 1, k, h, i, h1, h2 => by
    rw [chk] at h
    cases hb : badR m l k with
    | true =>
      rw [if_pos hb] at h
      exact absurd h (by show ¬ (20 : Int) = 0; omega)
    | false =>
      rw [if_neg (by rw [hb]; simp)] at h
      by_cases e : i = k
      · rw [e, hb]
      · exact chk_zero m l n (k + 1) h i (by omega) (by omega)
def good (m : Int) (l : List S_Rule) : Prop := (∀ r ∈ l, soundB r m = true) ∧ l.Nodup
theorem good_sub {m : Int} {l k : List S_Rule} (h : good m l) (hs : k.Sublist l) : good m k := ⟨fun r hr => h.1 r (hs.subset hr), h.2.sublist hs⟩
theorem good_small {m : Int} {l : List S_Rule} (h : good m l) : small l := by
  intro r hr
  have := h.1 r hr
  unfold soundB at this
  simp only [Bool.and_eq_true, decide_eq_true_eq] at this
  omega
theorem good_fine {m : Int} {l : List S_Rule} (h : good m l) (i : Nat) (hi : i < l.length) : badR m l i = false := by
  unfold badR
  rw [h.1 _ (getD_mem' l i zS_Rule hi), Bool.not_true, Bool.false_or, List.any_eq_false]
  intro r hr
  unfold sameB
  rw [decide_eq_true_eq]
  intro e
  have hd := h.2
  rw [← List.take_append_drop i l, getD_drop l i zS_Rule hi] at hd
  have := (List.nodup_append.1 hd).2.2 r hr (l.getD i zS_Rule) (List.mem_cons_self)
  exact this e
theorem good_snoc {m : Int} {l : List S_Rule} {x : S_Rule} (h : good m l) (hb : badR m (l ++ [x]) l.length = false) : good m (l ++ [x]) := by
  unfold badR at hb
  have e : (l ++ [x]).getD l.length zS_Rule = x := by simp [List.getD_eq_getElem?_getD]
  rw [e, List.take_left', Bool.or_eq_false_iff] at hb
  · refine ⟨fun r hr => ?_, ?_⟩
    · rcases List.mem_append.1 hr with hr | hr
      · exact h.1 r hr
      · rw [List.mem_singleton.1 hr]
        simpa using hb.1
    · rw [List.nodup_append]
      refine ⟨h.2, by simp, ?_⟩
      intro a ha b hbb
      rw [List.mem_singleton.1 hbb]
      have := List.any_eq_false.1 hb.2 a ha
      unfold sameB at this
      simpa using this
  · rfl
def validT (t : S_Table) : Prop := hdr t ∧ good t.Modes t.Rules
instance (m : Int) (l : List S_Rule) : Decidable (good m l) := inferInstanceAs (Decidable (_ ∧ _))
instance (t : S_Table) : Decidable (validT t) := inferInstanceAs (Decidable (_ ∧ _))
theorem validT_check {t : S_Table} (h : validT t) : checkB t = (0, 0) := by
  unfold checkB
  rw [if_pos h.1]
  exact chk_ok _ _ _ 0 fun i h1 h2 => good_fine h.2 i (by omega)
theorem all_of {n : Nat} {p : Nat → Bool} (h : (List.range n).all p = true) (k : Nat) (hk : k < n) : p k = true := List.all_eq_true.1 h k (List.mem_range.2 hk)
def nnR (r : S_Rule) : Bool := r.Cells.all fun c => decide (0 ≤ c)
def baseOk (t : S_Table) : Bool := t.Rules.all nnR && (decide (validT t) && (decide (t.Rules.length ≤ 8) && (decide (t.Modes ≤ 2) && decide (0 ≤ t.Accept ∧ t.Accept ≤ 3))))
theorem base_all : (List.range 256).all (fun b => match f_R02_Base (b : Int) with | some t => baseOk t | none => false) = true := by kernel_rfl
theorem base_ok (b : Int) (h : okInt .u8 b) : ∃ t, f_R02_Base b = some t ∧ validT t ∧ t.Rules.length ≤ 8 ∧ t.Modes ≤ 2 ∧ (0 ≤ t.Accept ∧ t.Accept ≤ 3) ∧ t.Rules.all nnR = true := by
  have hb : 0 ≤ b ∧ b ≤ 255 := h
  obtain ⟨k, rfl⟩ := nat_of hb.1
  have := all_of base_all k (by omega)
  split at this
  · rename_i t e
    unfold baseOk at this
    simp only [Bool.and_eq_true, decide_eq_true_eq] at this
    exact ⟨t, e, this.2.1, this.2.2.1, this.2.2.2.1, this.2.2.2.2, this.1⟩
  · exact absurd this (by simp)
theorem tmod_small (x : Int) (n : Nat) (h : 0 ≤ x) (hn : 0 < n) : 0 ≤ Int.tmod x (n : Int) ∧ Int.tmod x (n : Int) < (n : Int) := by
  rw [Int.tmod_eq_emod_of_nonneg h]
  exact ⟨Int.emod_nonneg _ (by omega), Int.emod_lt_of_pos _ (by omega)⟩
theorem okList_get {p : Int → Prop} {l : List Int} (h : okList p l) (k : Nat) (hk : k < l.length) : p (l.getD k 0) := h.1 _ (getD_mem' l k 0 hk)
theorem tab_nn (k : Nat) : 0 ≤ [(1 : Int), (3 : Int), (9 : Int), (5 : Int), (7 : Int), (32 : Int), (44 : Int), (60 : Int)].getD k 0 := by
  rcases Nat.lt_or_ge k 8 with h | h
  · have := all_of (n := 8) (p := fun k => decide (0 ≤ [(1 : Int), (3 : Int), (9 : Int), (5 : Int), (7 : Int), (32 : Int), (44 : Int), (60 : Int)].getD k 0)) (by kernel_rfl) k h
    simpa using this
  · rw [List.getD_eq_getElem?_getD, List.getElem?_eq_none (by simpa using h)]
    exact Int.le_refl 0
theorem rule_total (x : S_RawRule) (m : Int) (h : okS_RawRule x) (hm : m ≠ 0) : WP (f_R02_Rule x m) (fun r => r.Print.size ≤ 3 ∧ r.Cells.length ≤ 3 ∧ nnR r = true) := by
  obtain ⟨hP, hC, hL, hR, hW⟩ := h
  have bL : 0 ≤ x.L ∧ x.L ≤ 255 := hL
  have bR : 0 ≤ x.R ∧ x.R ≤ 255 := hR
  unfold f_R02_Rule
  refine WP.G (tmod_small x.L 8 bL.1 (by omega)) (WP.G (tmod_small x.R 8 bR.1 (by omega)) (WP.G hm ?_))
  refine WP.iter (fun s => s.1.P = x.P ∧ s.1.C = x.C ∧ s.1.L = x.L ∧ 0 ≤ s.2.2.2 ∧ s.2.2.2 ≤ 3 ∧ (s.2.2.1.Print.size : Int) = s.2.2.2) (fun s => (3 - s.2.2.2).toNat) ?_ 1000000 _ ⟨rfl, rfl, rfl, by dsimp only; omega, by dsimp only; omega, rfl⟩ (by dsimp only; omega)
  rintro loop ⟨v4, v5, v6, v7⟩ ⟨h1, h2, h3, h4, h5, h6⟩ ih
  dsimp only at h1 h2 h3 h4 h5 h6 ih ⊢
  unfold f_R02_Rule_b2
  rw [and_tt]
  refine WP.cond (fun hc => ?_) (fun hc => ?_)
  · simp only [Bool.and_eq_true, decide_eq_true_eq] at hc
    obtain ⟨k, rfl⟩ := nat_of h4
    rw [h1] at hc ⊢
    rw [Int.toNat_natCast]
    have hp : 0 ≤ x.P.getD k 0 ∧ x.P.getD k 0 ≤ 255 := okList_get hP k (by omega)
    have ht : 0 ≤ Int.tmod (x.P.getD k 0) 9 ∧ Int.tmod (x.P.getD k 0) 9 < 9 := tmod_small (x.P.getD k 0) 9 hp.1 (by omega)
    rw [wrap_i64 (n := Int.tmod (x.P.getD k 0) 9) (by omega)]
    obtain ⟨j, hj⟩ := nat_of ht.1
    have hj9 : j < 9 := by omega
    have e9 : Int.tmod (x.P.getD k 0) 9 = (j : Int) := hj
    rw [e9, natAdd1, Int.toNat_natCast, Int.toNat_natCast]
    have hsz : ((⟨#[97, 98, 99, 65, 66, 49, 50, 45, 46]⟩ : ByteArray).extract j (j + 1)).size = 1 := by
      rw [ByteArray.size_extract]
      show min (j + 1) 9 - j = 1
      omega
    refine WP.G (by omega) (WP.G (inR_of (by omega)) (WP.G ⟨by omega, by show ((j + 1 : Nat) : Int) ≤ 9; omega⟩ (WP.G (by omega) (WP.G (by rw [hsz]; omega) (WP.G (inR_of (by omega)) ?_)))))
    refine ih _ ⟨rfl, h2, h3, by dsimp only; omega, by dsimp only; omega, ?_⟩ (by dsimp only; omega)
    dsimp only
    rw [ByteArray.size_append, hsz]
    omega
  · have hl : 0 ≤ Int.tdiv v4.L 8 ∧ Int.tdiv v4.L 8 ≤ 31 := by
      rw [h3, Int.tdiv_eq_ediv_of_nonneg bL.1]
      omega
    have hw : IntKind.wrap .u8 (Int.tdiv v4.L 8) = Int.tdiv v4.L 8 := by
      obtain ⟨j, hj⟩ := nat_of hl.1
      rw [hj]
      have := all_of (n := 32) (p := fun j => decide (IntKind.wrap .u8 (j : Int) = (j : Int))) (by kernel_rfl) j (by omega)
      simpa using this
    rw [hw]
    refine WP.G (tmod_small _ 8 hl.1 (by omega)) ?_
    refine WP.iter (fun s => s.1.C = x.C ∧ 0 ≤ s.2.2.2 ∧ s.2.2.2 ≤ 2 ∧ s.2.2.1.Print.size ≤ 3 ∧ (s.2.2.1.Cells.length : Int) = 1 + s.2.2.2 ∧ nnR s.2.2.1 = true) (fun s => (2 - s.2.2.2).toNat) ?_ 1000000 _ ⟨h2, by dsimp only; omega, by dsimp only; omega, by dsimp only; omega, rfl, by
      unfold nnR
      rw [List.all_cons, List.all_nil, Bool.and_true, decide_eq_true_eq]
      exact tab_nn _⟩ (by dsimp only; omega)
    rintro loop' ⟨v17, v18, v19, v20⟩ ⟨g1, g2, g3, g4, g5, g6⟩ ih'
    dsimp only at g1 g2 g3 g4 g5 g6 ih' ⊢
    unfold f_R02_Rule_b1
    rw [and_tt]
    refine WP.cond (fun hc => ?_) (fun hc => ?_)
    · simp only [Bool.and_eq_true, decide_eq_true_eq] at hc
      obtain ⟨k, rfl⟩ := nat_of g2
      rw [g1] at hc ⊢
      rw [Int.toNat_natCast]
      have hp : 0 ≤ x.C.getD k 0 ∧ x.C.getD k 0 ≤ 255 := okList_get hC k (by omega)
      refine WP.G (by omega) (WP.G (tmod_small _ 8 hp.1 (by omega)) (WP.G (room_of (by simp; omega)) (WP.G (inR_of (by omega)) ?_)))
      refine ih' _ ⟨rfl, by dsimp only; omega, by dsimp only; omega, g4, ?_, ?_⟩ (by dsimp only; omega)
      · simp
        omega
      · unfold nnR at g6 ⊢
        rw [List.all_append, g6, List.all_cons, List.all_nil, Bool.and_true, Bool.true_and, decide_eq_true_eq]
        exact tab_nn _
    · exact WP.some ⟨g4, by omega, g6⟩
theorem made_ok (x : S_Raw) (h : okS_Raw x) : WP (f_R02_Made x) (fun t => validT t ∧ t.Rules.length ≤ 10 ∧ (0 ≤ t.Accept ∧ t.Accept ≤ 3) ∧ t.Rules.all nnR = true) := by
  obtain ⟨hB, hD, hM⟩ := h
  obtain ⟨t, ht, hv, hl, hm, ha, hnn⟩ := base_ok x.Base hB
  unfold f_R02_Made
  refine WP.bind ht ?_
  have hm1 : 1 ≤ t.Modes := hv.1.1
  refine WP.iter (fun s => s.1 = x ∧ s.2.2.1.Modes = t.Modes ∧ s.2.2.1.Accept = t.Accept ∧ 0 ≤ s.2.2.2 ∧ s.2.2.2 ≤ (t.Rules.length : Int) ∧ s.2.2.1.Rules.Sublist (t.Rules.take s.2.2.2.toNat)) (fun s => ((t.Rules.length : Int) - s.2.2.2).toNat) ?_ 1000000 _ ⟨rfl, rfl, rfl, by dsimp only; omega, by dsimp only; omega, by exact List.nil_sublist _⟩ (by dsimp only; omega)
  rintro loop ⟨v2, v3, v4, v5⟩ ⟨h1, h2, h3, h4, h5, h6⟩ ih
  dsimp only at h1 h2 h3 h4 h5 h6 ih ⊢
  subst h1
  obtain ⟨k, rfl⟩ := nat_of h4
  rw [Int.toNat_natCast] at h6
  unfold f_R02_Made_b2
  rw [Int.toNat_natCast]
  have hlen := h6.length_le
  rw [List.length_take] at hlen
  refine WP.cond (fun hc => ?_) (fun hc => ?_)
  · rw [decide_eq_true_eq] at hc
    have hk : k < t.Rules.length := by omega
    have et : t.Rules.take (k + 1) = t.Rules.take k ++ [t.Rules.getD k zS_Rule] := by
      rw [List.take_succ_eq_append_getElem hk]
      congr 2
      rw [List.getD_eq_getElem?_getD, List.getElem?_eq_getElem hk]
      rfl
    refine WP.G (by omega) (WP.cond (fun _ => ?_) (fun _ => ?_))
    · refine WP.G (by omega) (WP.G (room_of (by simp; omega)) (WP.G (inR_of (by omega)) ?_))
      refine ih _ ⟨rfl, h2, h3, by dsimp only; omega, by dsimp only; omega, ?_⟩ (by dsimp only; omega)
      dsimp only
      rw [natAdd1, Int.toNat_natCast, et]
      exact h6.append (List.Sublist.refl _)
    · refine WP.G (inR_of (by omega)) ?_
      refine ih _ ⟨rfl, h2, h3, by dsimp only; omega, by dsimp only; omega, ?_⟩ (by dsimp only; omega)
      dsimp only
      rw [natAdd1, Int.toNat_natCast, et]
      exact h6.trans (List.sublist_append_left _ _)
  · refine WP.iter (fun s => s.1 = v2 ∧ s.2.2.1.Modes = t.Modes ∧ s.2.2.1.Accept = t.Accept ∧ 0 ≤ s.2.2.2 ∧ s.2.2.2 ≤ 2 ∧ good t.Modes s.2.2.1.Rules ∧ (s.2.2.1.Rules.length : Int) ≤ 8 + s.2.2.2 ∧ s.2.2.1.Rules.all nnR = true) (fun s => (2 - s.2.2.2).toNat) ?_ 1000000 _ ⟨rfl, h2, h3, by dsimp only; omega, by dsimp only; omega, good_sub hv.2 (h6.trans (List.take_sublist _ _)), by dsimp only; omega, by
      rw [List.all_eq_true] at hnn ⊢
      exact fun r hr => hnn r ((h6.trans (List.take_sublist _ _)).subset hr)⟩ (by dsimp only; omega)
    rintro loop' ⟨v16, v17, v18, v19⟩ ⟨g1, g2, g3, g4, g5, g6, g7, g8⟩ ih'
    dsimp only at g1 g2 g3 g4 g5 g6 g7 g8 ih' ⊢
    subst g1
    obtain ⟨j, rfl⟩ := nat_of g4
    unfold f_R02_Made_b1
    rw [Int.toNat_natCast, and_tt]
    refine WP.cond (fun hc => ?_) (fun hc => ?_)
    · simp only [Bool.and_eq_true, decide_eq_true_eq] at hc
      have hr := hM.1 _ (getD_mem' v16.More j zS_RawRule (by omega))
      refine WP.G (by omega) (WP.bindW ?_)
      rw [g2]
      have hw := hr.2.2.2.2
      have h00 := hw.1 _ (getD_mem' _ 0 0 (by rw [hw.2]; omega))
      have h01 := hw.1 _ (getD_mem' _ 1 0 (by rw [hw.2]; omega))
      refine (rule_total (⟨_, _, _, _, [_, _]⟩ : S_RawRule) t.Modes ⟨hr.1, hr.2.1, hr.2.2.1, hr.2.2.2.1, by
        refine ⟨fun y hy => ?_, rfl⟩
        rcases List.mem_cons.1 hy with rfl | hy
        · exact h00
        · rw [List.mem_singleton.1 hy]
          exact h01⟩ (by omega)).imp fun r hr => ?_
      have hsm : small (v18.Rules ++ [r]) := by
        intro q hq
        rcases List.mem_append.1 hq with hq | hq
        · exact good_small g6 q hq
        · rw [List.mem_singleton.1 hq]
          omega
      refine WP.G (room_of (by simp; omega)) (WP.bind (valid_r _ hsm (by dsimp only; omega)) ?_)
      refine WP.cond (fun hc => ?_) (fun hc => ?_)
      · have el : (v18.Rules ++ [r]).length = v18.Rules.length + 1 := by simp
        rw [el]
        refine WP.G (inR_of (by omega)) (WP.G (by omega) (WP.G (inR_of (by omega)) ?_))
        refine ih' _ ⟨rfl, rfl, g3, by dsimp only; omega, by dsimp only; omega, ?_, ?_, ?_⟩ (by dsimp only; omega)
        all_goals
          have e0 : ((((v18.Rules.length + 1 : Nat) : Int) - 1).toNat) = v18.Rules.length := by omega
          dsimp only
          rw [e0, List.take_left' rfl]
        · exact g6
        · omega
        · exact g8
      · refine WP.G (inR_of (by omega)) ?_
        refine ih' _ ⟨rfl, rfl, g3, by dsimp only; omega, by dsimp only; omega, ?_, ?_, ?_⟩ (by dsimp only; omega)
        · dsimp only
          refine good_snoc g6 ?_
          rw [Bool.not_eq_false', beq_iff_eq] at hc
          unfold checkB at hc
          split at hc
          · refine chk_zero _ _ _ 0 hc _ (by omega) ?_
            dsimp only
            simp
          · exact absurd hc (by show ¬ (1 : Int) = 0; omega)
        · dsimp only
          simp
          omega
        · dsimp only
          rw [List.all_append, g8, List.all_cons, List.all_nil, Bool.and_true, Bool.true_and]
          exact hr.2.2
    · have hh := hv.1
      unfold hdr at hh
      refine WP.cond (fun hc => ?_) (fun hc => ?_)
      · refine WP.some ⟨⟨?_, ?_⟩, ?_, ?_, hnn⟩
        · unfold hdr
          dsimp only
          rw [g2, g3]
          exact hh
        · dsimp only
          rw [g2]
          exact hv.2
        · dsimp only
          omega
        · dsimp only
          omega
      · rw [beq_eq_false_iff_ne] at hc
        refine WP.some ⟨⟨?_, ?_⟩, ?_, ?_, g8⟩
        · unfold hdr
          rw [g2, g3]
          refine ⟨hh.1, hh.2.1, hh.2.2.1, hh.2.2.2.1, by omega, by omega⟩
        · rw [g2]
          exact g6
        · omega
        · omega
end Go.Proofs.YtlhpkjgpcenfdaaDoor
