/-
  Own work. Chapter 19, plain part: all results, for all arguments; the laws NumberMatchesReference and NumberReads.
-/
import Derived.Test.YtlcoabpgknpaoaaDoorP19f
set_option linter.unusedSimpArgs false
set_option linter.unusedVariables false
set_option maxRecDepth 100000
set_option linter.unusedSimpArgs false
set_option linter.unusedVariables false
namespace Go.Proofs.YtlcoabpgknpaoaaDoor
open Go.Abs
def writeS (n : Int) : List Int × Int := if 0 ≤ n ∧ n ≤ 99999 then (wr n.toNat, 0) else ([], 190)
theorem writeS_pos {n : Int} (h : 0 ≤ n ∧ n ≤ 99999) : writeS n = (wr n.toNat, 0) := if_pos h
theorem writeS_neg {n : Int} (h : ¬ (0 ≤ n ∧ n ≤ 99999)) : writeS n = ([], 190) := if_neg h
theorem n_write (n : Int) : f_number_Write n = some (writeS n) := by
  by_cases h : 0 ≤ n ∧ n ≤ 99999
  · rw [writeS_pos h]
    have := f_write n.toNat (by omega)
    rw [show ((n.toNat : Nat) : Int) = n from by omega] at this
    exact this
  · rw [writeS_neg h, f_write_bad n (by omega)]
theorem r_write (n : Int) : f_R19_Write n = some (writeS n) := by
  by_cases h : 0 ≤ n ∧ n ≤ 99999
  · rw [writeS_pos h]
    have := f_refWrite n.toNat (by omega)
    rw [show ((n.toNat : Nat) : Int) = n from by omega] at this
    exact this
  · rw [writeS_neg h, f_refWrite_bad n (by omega)]
def okL (n k : Int) : Prop := 1 ≤ n ∧ n ≤ 9999 ∧ 0 ≤ k ∧ k ≤ 2
instance (n k : Int) : Decidable (okL n k) := by unfold okL; infer_instance
def pageS (n k : Int) (b : Bool) : List Int × Int := if okL n k then (pg n.toNat k.toNat b, 0) else ([], 190)
theorem n_page (n k : Int) (b : Bool) : f_number_Page ⟨n, k⟩ b = some (pageS n k b) := by
  unfold pageS
  by_cases h : okL n k
  · rw [if_pos h]
    have hh := h
    unfold okL at hh
    have := f_page n.toNat k.toNat b (by omega) (by omega) (by omega)
    rw [show ((n.toNat : Nat) : Int) = n from by omega, show ((k.toNat : Nat) : Int) = k from by omega] at this
    exact this
  · rw [if_neg h]
    unfold okL at h
    unfold f_number_Page
    rw [cond_pos (b := cond _ _ _) (by simp only [or_tt]; simp; omega)]
theorem letters_eq : f_R19_Letters = some tab_number_letters := by kernel_rfl
theorem r_page (n k : Int) (b : Bool) : f_R19_Page ⟨n, k⟩ b = some (pageS n k b) := by
  unfold pageS f_R19_Page
  by_cases h : okL n k
  · have hh := h
    unfold okL at hh
    have hv : f_R19_ValidLabel ⟨n, k⟩ = some true := by
      unfold f_R19_ValidLabel
      simp only [and_tt]
      congr 1
      simp; omega
    have key : ∀ m : Int, 0 ≤ m → m ≤ 99999 → f_R19_Page_k2 ⟨n, k⟩ m = some (wr m.toNat ++ mk k.toNat, 0) := by
      intro m h0 h1
      unfold f_R19_Page_k2
      rw [bind_some' (r_write m), writeS_pos ⟨h0, h1⟩]
      have hl := wr_len m.toNat
      dsimp only
      by_cases hk : k = 0
      · subst hk
        rw [cd_neg (by omega)]
        unfold f_R19_Page_k1 mk
        simp
      · rw [cd_pos (by omega), bind_some' letters_eq, G_inR (by omega), G_pos (by have : tab_number_letters.length = 26 := rfl; omega), G_room (by simp; omega)]
        unfold f_R19_Page_k1 mk
        rw [if_neg (by omega), show (k - 1).toNat = k.toNat - 1 from by omega]
    rw [if_pos h, bind_some' hv, cond_neg (b := !true) rfl, G_inR (by show _ ∧ _; dsimp only; omega), G_inR (by show _ ∧ _; dsimp only; omega)]
    cases b
    · rw [cond_neg rfl, key _ (by dsimp only; omega) (by dsimp only; omega)]
      unfold pg
      rw [show ((2 : Int) * n - 1).toNat = 2 * n.toNat - 1 from by omega]
      rfl
    · rw [cond_pos rfl, key _ (by dsimp only; omega) (by dsimp only; omega)]
      unfold pg
      rw [show ((2 : Int) * n).toNat = 2 * n.toNat from by omega]
      rfl
  · rw [if_neg h]
    unfold okL at h
    have hv : f_R19_ValidLabel ⟨n, k⟩ = some false := by
      unfold f_R19_ValidLabel
      simp only [and_tt]
      congr 1
      simp; omega
    rw [bind_some' hv, cond_pos (b := !false) rfl]
def ik (n p : Nat) : List Int := mk p ++ wr n
def okI (n p : Int) : Prop := 1 ≤ n ∧ n ≤ 9999 ∧ 0 ≤ p ∧ p ≤ 26
instance (n k : Int) : Decidable (okI n k) := by unfold okI; infer_instance
def inkS (n p : Int) : List Int × Int := if okI n p then (ik n.toNat p.toNat, 0) else ([], 190)
theorem n_ink (n p : Int) : f_number_Ink n p = some (inkS n p) := by
  unfold inkS f_number_Ink
  by_cases h : okI n p
  · have hh := h
    unfold okI at hh
    have hl := wr_len n.toNat
    rw [if_pos h, cond_neg (b := cond _ _ _) (by simp only [or_tt]; simp; omega), bind_some' (n_write n), writeS_pos (by omega)]
    dsimp only
    by_cases hp : p = 0
    · subst hp
      rw [cond_neg (b := cond _ _ _) (by simp)]
      unfold f_number_Ink_k1 ik mk
      simp
    · rw [cond_pos (b := cond _ _ _) (by rw [and_tt]; simp; omega), G_inR (by omega), G_pos (by omega), G_room (by simp; omega)]
      unfold f_number_Ink_k1 ik mk
      rw [if_neg (by omega), show (p - 1).toNat = p.toNat - 1 from by omega]
  · rw [if_neg h]
    unfold okI at h
    rw [cond_pos (b := cond _ _ _) (by simp only [or_tt]; simp; omega)]
theorem r_ink (n p : Int) : f_R19_Ink n p = some (inkS n p) := by
  unfold inkS f_R19_Ink
  by_cases h : okI n p
  · have hh := h
    unfold okI at hh
    have hl := wr_len n.toNat
    rw [if_pos h, cond_neg (b := cond _ _ _) (by simp only [or_tt]; simp; omega), bind_some' (r_write n), writeS_pos (by omega)]
    dsimp only
    by_cases hp : p = 0
    · subst hp
      rw [cb_pos rfl]
      unfold ik mk
      simp
    · rw [cb_neg hp, bind_some' letters_eq, G_inR (by omega), G_pos (by have : tab_number_letters.length = 26 := rfl; omega), G_room (by simp; omega)]
      unfold ik mk
      rw [if_neg (by omega), show (p - 1).toNat = p.toNat - 1 from by omega]
  · rw [if_neg h]
    unfold okI at h
    rw [cond_pos (b := cond _ _ _) (by simp only [or_tt]; simp; omega)]
theorem ik_len (n p : Nat) : (ik n p).length ≤ 8 := by
  unfold ik
  have h1 := wr_len n
  have h2 : (mk p).length ≤ 2 := by unfold mk; split <;> simp
  rw [List.length_append]
  omega
theorem writeS_len (n : Int) : (writeS n).1.length ≤ 6 := by
  unfold writeS; split
  · exact (wr_len _).2
  · simp
theorem pageS_len (n k : Int) (b : Bool) : (pageS n k b).1.length ≤ 8 := by
  unfold pageS; split
  · exact pg_len _ _ _
  · simp
theorem inkS_len (n k : Int) : (inkS n k).1.length ≤ 8 := by
  unfold inkS; split
  · exact ik_len _ _
  · simp
theorem same_self (l : List Int) (h : l.length < 900000) : f_R01_Same l l = some true := by
  rw [f_same l l h]; simp
theorem cells_loop (t : List Int) (m : Nat) (hm : m < 100000) : ∀ (n i : Nat), m < n + i → i ≤ t.length → i ≤ m →
    iter (fun loop (s : (List Int) × Int) => f_R01_Cells_b1 t (m : Int) loop s.1 s.2) n ((t.take i).map (Int.tmod · 64), (i : Int)) = some ((t.take m).map (Int.tmod · 64))
  | 0, i, h1, h2, h3 => by omega
  | n + 1, i, h1, h2, h3 => by
    rw [iter_succ, f_R01_Cells_b1]
    dsimp only
    by_cases hi : i < t.length ∧ i < m
    · have ih := cells_loop t m hm n (i + 1) (by omega) (by omega) (by omega)
      rw [take_stepI t i hi.1, List.map_append, List.map_singleton] at ih
      rw [cond_pos (by rw [and_tt]; simp; omega), G_pos (by omega), G_room (by simp; omega), G_inR (by omega), Int.toNat_natCast]
      exact ih
    · rw [cond_neg (by rw [and_tt]; simp; omega)]
      by_cases h : i = m
      · rw [h]
      · rw [List.take_of_length_le (by omega), List.take_of_length_le (by omega)]
theorem f_cells (t : List Int) (m : Nat) (hm : m < 100000) : f_R01_Cells t (m : Int) = some ((t.take m).map (Int.tmod · 64)) := by
  have := cells_loop t m hm 1000000 0 (by omega) (by omega) (by omega)
  exact this
theorem plain_NumberMatchesReference {n : Int} {w l : List Int} (h0 : okInt .i64 n) (h1 : okArr 3 (okInt .i64) w) (h2 : okList (okInt .u8) l) : f_L19_NumberMatchesReference n w l = some true := by
  unfold f_L19_NumberMatchesReference
  rw [bind_some' sanity_true]
  have inner : ∀ (x : Int × Int × Int) (k i : Nat), 2 < k + i → i ≤ 2 → iter (fun loop (s : Int) => f_L19_NumberMatchesReference_b1 n w true x x loop s) k (i : Int) = some true := by
    intro x k
    induction k with
    | zero => intro i h1 h2; omega
    | succ k ih =>
      intro i h1 h2
      rw [iter_succ, f_L19_NumberMatchesReference_b1]
      by_cases hi : i < 2
      · rw [cd_pos (by omega), G_pos (by simp; omega)]
        generalize ([(⟨(w.getD 0 (0 : Int)), (w.getD 1 (0 : Int))⟩ : S_Label), (⟨Int.tmod (w.getD 0 (0 : Int)) (10001 : Int), Int.tmod (w.getD 1 (0 : Int)) (4 : Int)⟩ : S_Label)].getD (i : Int).toNat zS_Label) = lb
        obtain ⟨N, K⟩ := lb
        generalize (Int.tmod n 2 == 0) = b
        dsimp only
        rw [bind_some' (n_page N K b), bind_some' (r_page N K b), bind_some' (n_ink _ _), bind_some' (r_ink _ _), bind_some' (same_self _ (by have := pageS_len N K b; omega))]
        rw [show (!(cond (!true) true ((pageS N K b).2 != (pageS N K b).2))) = true from by simp]
        rw [cond_true, bind_some' (same_self _ (by have := inkS_len N (Int.tmod (w.getD 2 0) 28); omega))]
        rw [cond_neg (by simp), G_inR (by omega)]
        exact ih (i + 1) (by omega) (by omega)
      · rw [cd_neg (by omega)]
        simp
  have outer : ∀ (k i : Nat), 3 < k + i → i ≤ 3 → iter (fun loop (s : Int) => f_L19_NumberMatchesReference_b2 n w l true loop s) k (i : Int) = some true := by
    intro k
    induction k with
    | zero => intro i h1 h2; omega
    | succ k ih =>
      intro i h1 h2
      rw [iter_succ, f_L19_NumberMatchesReference_b2]
      by_cases hi : i < 3
      · rw [cd_pos (by omega), G_pos (by simp; omega), bind_some' (n_write _), bind_some' (r_write _), bind_some' (same_self _ (by have := writeS_len ([n, Int.tmod n 100000, Int.tmod n 200].getD (i : Int).toNat 0); omega))]
        rw [cond_neg (b := cond _ _ _) (by simp), G_inR (by omega)]
        exact ih (i + 1) (by omega) (by omega)
      · rw [cd_neg (by omega)]
        have hc := f_cells l 12 (by omega)
        rw [bind_some' (by exact hc)]
        obtain ⟨x, e1, e2⟩ := rs_eq number_rs ref_rs ((l.take 12).map (Int.tmod · 64)) (by simp; omega)
        rw [bind_some' e1, bind_some' e2]
        exact inner x 1000000 0 (by omega) (by omega)
  exact outer 1000000 0 (by omega) (by omega)
theorem plain_NumberReads {n : Int} {l : List Int} (h0 : okInt .u32 n) (h1 : okList (okInt .u8) l) : f_L19_NumberReads n l = some true := by
  unfold f_L19_NumberReads
  obtain ⟨m, hm, em⟩ := tmodN (m := 100000) h0.1 (by omega)
  have em' : IntKind.wrap .i64 (Int.tmod n 100000) = (m : Int) := by
    have : Int.tmod n 100000 = (m : Int) := em
    rw [this, wrap_i64 (by omega)]
  have hl := wr_len m
  have hc := f_cells l 10 (by omega)
  rw [bind_some' sanity_true, em', bind_some' (f_write m (by omega))]
  dsimp only
  rw [cond_neg (b := cond _ _ _) (by simp only [or_tt]; simp; omega), bind_some' (by exact hc)]
  have hlen : ((l.take 10).map (Int.tmod · 64)).length ≤ 10 := by simp; omega
  generalize (l.take 10).map (Int.tmod · 64) = r at hlen
  rw [List.nil_append, G_room (by simp; omega), G_room (by omega)]
  have hrs := number_rs (wr m ++ r) (by rw [List.length_append]; omega)
  have hnd : (r = [] ∨ ¬ dv (r.getD 0 0) < 10) → Dec (wr m ++ r) m r := by
    intro h
    refine ⟨rfl, by omega, ?_⟩
    intro c s e
    subst e
    simpa using h
  rcases hrs with ⟨a, b⟩ | ⟨v, s, a, b⟩
  · rw [bind_some' a]
    have hne : r ≠ [] := fun e => b m r (hnd (.inl e))
    have hpos : 0 < r.length := by rcases r with _ | _ <;> simp at hne ⊢
    have hd : dv (r.getD 0 0) < 10 := Decidable.byContradiction fun e => b m r (hnd (.inr e))
    rw [G_pos (fun _ => by omega), cond_pos (b := !_) (by simp; first | exact hne | omega), bind_some' (f_isDigit _)]
    rw [show (0 : Int).toNat = 0 from rfl, decide_eq_true hd, cond_neg (b := cond _ _ _) (by rw [or_tt]; simp; intro e; exact hne e), cond_pos (b := (190 : Int) != 0) rfl]
    rfl
  · rw [bind_some' b, G_pos (fun h => by simp at h; have hpos : 0 < r.length := (by rcases r with _ | _ <;> simp at h ⊢); omega)]
    dsimp only
    by_cases hc : r = [] ∨ ¬ dv (r.getD 0 0) < 10
    · obtain ⟨rfl, rfl⟩ := a.unique (hnd hc)
      have hx : (cond (!((s.length : Int) == (0 : Int))) (f_R19_IsDigit (s.getD (0 : Int).toNat (0 : Int))) (some false)) = some false := by
        by_cases he : s = []
        · subst he; rfl
        · have hpos : 0 < s.length := by rcases s with _ | _ <;> simp at he ⊢
          rw [cond_pos (by simp; first | exact he | omega), f_isDigit, show (0 : Int).toNat = 0 from rfl, decide_eq_false (hc.resolve_left he)]
      rw [bind_some' hx, cond_pos (b := cond _ _ _) (by rw [or_tt]; simp)]
      simp
    · have hne : ¬ r = [] := fun e => hc (.inl e)
      have hpos : 0 < r.length := by rcases r with _ | _ <;> simp at hne ⊢
      have hd : dv (r.getD 0 0) < 10 := Decidable.byContradiction fun e => hc (.inr e)
      rw [cond_pos (b := !_) (by simp; first | exact hne | omega), bind_some' (f_isDigit _), show (0 : Int).toNat = 0 from rfl, decide_eq_true hd, cond_neg (b := cond _ _ _) (by rw [or_tt]; simp; intro e; exact hne e), cond_neg (b := (0 : Int) != 0) rfl]
      rw [bind_some' (f_write v a.2.1)]
      have hlv := wr_len v
      have hle : (wr v).length ≤ (wr m ++ r).length := by rw [a.1, List.length_append]; omega
      dsimp only
      have e : (cond (cond (cond true ((0 : Int) == 0) false) (decide ((0 : Int) ≤ ((wr v).length : Int))) false) (decide (((wr v).length : Int) ≤ ((wr m ++ r).length : Int))) false) = true := by
        simp only [and_tt]
        simp
        simp at hle
        omega
      rw [e, G_pos (fun _ => by omega), cond_true, Int.toNat_natCast]
      have et : (wr m ++ r).take (wr v).length = wr v := by rw [a.1]; exact List.take_left' rfl
      rw [et, bind_some' (same_self _ (by omega))]
      rfl
end Go.Proofs.YtlcoabpgknpaoaaDoor
