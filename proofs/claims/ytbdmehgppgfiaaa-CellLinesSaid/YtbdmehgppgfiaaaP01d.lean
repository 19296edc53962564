/-
  Own work. Chapter 01, plain part: doubt, and texts of dots.
-/
import Derived.Test.YtbdmehgppgfiaaaP01c
set_option linter.unusedSimpArgs false
set_option linter.unusedVariables false
set_option maxRecDepth 100000
set_option linter.unusedSimpArgs false
set_option linter.unusedVariables false
namespace Go.Proofs.Ytbdmehgppgfiaaa
open Go.Abs

/-- How many of the first `k` cells have no cost. -/
def cz (m up k : Nat) : Nat := (List.range k).countP fun j => C m (up ^^^ j) == 0
theorem cz_succ (m up k : Nat) : cz m up (k + 1) = cz m up k + if (C m (up ^^^ k) == 0) = true then 1 else 0 := by
  unfold cz
  rw [List.range_succ, List.countP_append, List.countP_singleton]
theorem xor_perm (up : Nat) (h : up < 64) : ((List.range 64).map fun j => up ^^^ j).Perm (List.range 64) := by
  have := all_of (n := 64) (p := fun up => ((List.range 64).map fun j => up ^^^ j).isPerm (List.range 64)) (by kernel_rfl) up h
  exact List.isPerm_iff.1 this
theorem cz_all (m up : Nat) (hm : m < 64) (hu : up < 64) : ((cz m up 64 : Nat) : Int) = bShl .i64 1 (D m 0) := by
  have h1 := all_of (n := 64) (p := fun m => decide ((((List.range 64).countP fun u => C m u == 0 : Nat) : Int) = bShl .i64 1 (D m 0))) (by kernel_rfl) m hm
  simp only [decide_eq_true_eq] at h1
  rw [← h1]
  have h2 := (xor_perm up hu).countP_eq (fun u => C m u == 0)
  rw [List.countP_map] at h2
  unfold cz
  exact congrArg _ h2
theorem doubt_loop (up m : Nat) (h1 : up < 64) (h2 : m < 64) : ∀ (n k : Nat), k ≤ 64 → 64 < n + k →
    iter (fun loop (s : Int × Int) => f_L01_CellDoubt_b1 true ⟨up, m⟩ (D m 0) loop s.1 s.2) n ((cz m up k : Int), (k : Int)) = some true
  | 0, k, a1, a2 => by omega
  | n + 1, k, a1, a2 => by
    rw [iter_succ, f_L01_CellDoubt_b1]
    dsimp only
    have hd0 := f_D m 0 h2 (by omega)
    by_cases hk : k < 64
    · have ih := doubt_loop up m h1 h2 n (k + 1) (by omega) (by omega)
      have hc := f_C m (up ^^^ k) h2 (xor_lt up k h1 hk)
      have hD := f_D up k h1 hk
      have hle : cz m up k ≤ k := by unfold cz; exact Nat.le_trans List.countP_le_length (by simp)
      rw [cond_pos (by simp; omega), wrap_u8 (by omega), bind_some' (f_cost up m k h1 h2 hk), bind_some' hD.1, bind_some' (f_fits up m k h1 h2 hk), G_imp (fun _ => inR_of (by omega))]
      have e1 : ((C m (up ^^^ k) == 0) != (C m (up ^^^ k) == 0)) = false := bne_self_eq_false _
      have e2 : decide (C m (up ^^^ k) < 0) = false := decide_eq_false (by omega)
      have e3 : decide (D up k < C m (up ^^^ k)) = false := decide_eq_false (by rw [hD.2.2.1]; omega)
      have e4 : decide (C m (up ^^^ k) + D m 0 < D up k) = false := decide_eq_false (by rw [hD.2.2.1]; omega)
      rw [e1, e2, e3, e4, cond_neg (b := cond _ _ _) (by rfl)]
      have hs := cz_succ m up k
      rw [hs] at ih
      rw [show ((k + 1 : Nat) : Int) = (k : Int) + 1 from by omega] at ih
      by_cases hz : (C m (up ^^^ k) == 0) = true
      · rw [if_pos hz] at ih
        rw [cond_pos hz, G_inR (by omega), f_L01_CellDoubt_k1, G_inR (by omega)]
        rw [show ((cz m up k + 1 : Nat) : Int) = (cz m up k : Int) + 1 from by omega] at ih
        exact ih
      · rw [if_neg hz, Nat.add_zero] at ih
        rw [cond_neg (by simpa using hz), f_L01_CellDoubt_k1, G_inR (by omega)]
        exact ih
    · rw [cond_neg (by simp; omega), G_imp (fun _ => by omega), show k = 64 from by omega, cz_all m up h2 h1]
      simp
theorem law_doubt (t0 : List Int) (h0 : 0 ≤ t0.getD 0 0 ∧ t0.getD 0 0 ≤ 255) (h1 : 0 ≤ t0.getD 1 0 ∧ t0.getD 1 0 ≤ 255) : f_L01_CellDoubt t0 = some true := by
  obtain ⟨up, hu, eu⟩ := tmod64 _ h0
  obtain ⟨m, hm, em⟩ := tmod64 _ h1
  have hd0 := f_D m 0 hm (by omega)
  unfold f_L01_CellDoubt
  rw [bind_some' sanity_true]
  unfold f_R01_Felt
  rw [bind_some' rfl, eu, em]
  dsimp only
  rw [show ((0 : Nat) : Int) = 0 from rfl] at hd0
  rw [bind_some' hd0.1, cond_neg (b := cond _ _ _) (by simp; omega)]
  exact doubt_loop up m hu hm 1000000 0 (by omega) (by omega)

/- Texts. -/
theorem toList_loop (bs : ByteArray) : ∀ (n i : Nat) (r : List UInt8), bs.size = n + i → ByteArray.toList.loop bs i r = r.reverse ++ bs.data.toList.drop i
  | 0, i, r, h => by
    rw [ByteArray.toList.loop, if_neg (by omega), List.drop_eq_nil_of_le (by simp; omega)]
    simp
  | n + 1, i, r, h => by
    have hi : i < bs.size := by omega
    have hi' : i < bs.data.toList.length := by simpa using hi
    rw [ByteArray.toList.loop, if_pos hi, toList_loop bs n (i + 1) _ (by omega), List.drop_eq_getElem_cons hi']
    simp only [List.reverse_cons, List.append_assoc, List.singleton_append]
    congr 2
    simp [ByteArray.get!, hi]
theorem toList_data (bs : ByteArray) : bs.toList = bs.data.toList := by
  unfold ByteArray.toList
  rw [toList_loop bs bs.size 0 [] (by omega)]
  simp
theorem toList_beq (a b : ByteArray) : (a.toList == b.toList) = decide (a = b) := by
  rw [toList_data, toList_data, Bool.eq_iff_iff]
  simp only [beq_iff_eq, decide_eq_true_eq]
  exact ⟨fun h => WideShapes.bytes_inj h, fun h => by rw [h]⟩
theorem bAt_nat (s : ByteArray) (i : Nat) : bAt s i = ((s.data.toList.getD i 0).toNat : Int) := rfl
theorem bAt_lt (s : ByteArray) (i : Nat) : (s.data.toList.getD i 0).toNat < 256 := (s.data.toList.getD i 0).toNat_lt
theorem parse_dots (c : Nat) (hc : c < 64) : f_cell_Parse (dots c) = some ((c : Int), 0) := by
  have := all_of (n := 64) (p := fun c => decide (f_cell_Parse (dots c) = some ((c : Int), 0))) (by kernel_rfl) c hc
  simpa using this
theorem dots_inj (a b : Nat) (ha : a < 64) (hb : b < 64) (h : dots a = dots b) : a = b := by
  have h1 := parse_dots a ha
  rw [h, parse_dots b hb] at h1
  simp at h1
  omega
/-- The digits of a cell. -/
def d8 (c : Nat) : List UInt8 := if c = 0 then [] else (dots c).data.toList
theorem d8_step (c d : Nat) (hc : c < 64) (hd : d < 6) (h : c < 2 ^ d) : d8 (c + 2 ^ d) = d8 c ++ [UInt8.ofNat (49 + d)] ∧ bOr .u8 c (bShl .u8 1 d) = ((c + 2 ^ d : Nat) : Int) ∧ c + 2 ^ d < 64 ∧ c + 2 ^ d < 2 ^ (d + 1) := by
  have := all_of2 (n := 64) (m := 6) (p := fun c d => decide (c < 2 ^ d → d8 (c + 2 ^ d) = d8 c ++ [UInt8.ofNat (49 + d)] ∧ bOr .u8 c (bShl .u8 1 d) = ((c + 2 ^ d : Nat) : Int) ∧ c + 2 ^ d < 64 ∧ c + 2 ^ d < 2 ^ (d + 1))) (by kernel_rfl) c d hc hd
  simp only [decide_eq_true_eq] at this
  exact this h
theorem parse_loop (s : ByteArray) (hs : s.size < 100000) : ∀ (n i c q : Nat), i ≤ s.size → s.size < n + i → c < 64 → q ≤ 6 → c < 2 ^ q → s.data.toList.take i = d8 c →
    iter (fun loop (x : Int × Int × Int) => f_cell_Parse_b1 s loop x.1 x.2.1 x.2.2) n ((c : Int), 48 + (q : Int), (i : Int)) = some (0, 10) ∨
    ∃ c' : Nat, c' < 64 ∧ iter (fun loop (x : Int × Int × Int) => f_cell_Parse_b1 s loop x.1 x.2.1 x.2.2) n ((c : Int), 48 + (q : Int), (i : Int)) = some ((c' : Int), 0) ∧ s.data.toList = d8 c'
  | 0, i, c, q, h1, h2, h3, h4, h5, h6 => by omega
  | n + 1, i, c, q, h1, h2, h3, h4, h5, h6 => by
    rw [iter_succ, f_cell_Parse_b1]
    dsimp only
    by_cases hi : i < s.size
    · rw [cond_pos (by simpa using hi), G_pos (by omega), bAt_nat]
      have hlt := bAt_lt s i
      have hi' : i < s.data.toList.length := by simpa using hi
      have hby : s.data.toList.getD i 0 = UInt8.ofNat (s.data.toList.getD i 0).toNat := by simp
      have htk : s.data.toList.take (i + 1) = s.data.toList.take i ++ [s.data.toList.getD i 0] := by
        rw [List.take_add_one, List.getElem?_eq_getElem hi', List.getD_eq_getElem?_getD, List.getElem?_eq_getElem hi']
        rfl
      rw [hby] at htk
      generalize (s.data.toList.getD i 0).toNat = b at hlt htk ⊢
      by_cases hb : (b : Int) ≤ 48 + (q : Int) ∨ 54 < (b : Int)
      · rw [cond_pos (b := cond _ _ _) (by rcases hb with hb | hb <;> simp [hb])]
        exact .inl rfl
      · have h7 : ¬ (b : Int) ≤ 48 + (q : Int) := by omega
        have h8 : ¬ 54 < (b : Int) := by omega
        rw [cond_neg (b := cond _ _ _) (by simp [h7, h8]), wrap_u8 (by omega), G_pos (by omega), G_inR (by omega)]
        obtain ⟨d, hd⟩ : ∃ d : Nat, b = 49 + d := ⟨b - 49, by omega⟩
        subst hd
        have hpow : 2 ^ q ≤ 2 ^ d := Nat.pow_le_pow_right (by omega) (by omega)
        obtain ⟨k1, k2, k3, k4⟩ := d8_step c d h3 (by omega) (by omega)
        have e1 : ((49 + d : Nat) : Int) - 49 = (d : Int) := by omega
        rw [e1, k2]
        have ih := parse_loop s hs n (i + 1) (c + 2 ^ d) (d + 1) (by omega) (by omega) k3 (by omega) k4 (by rw [htk, h6, k1])
        rw [show (48 : Int) + ((d + 1 : Nat) : Int) = ((49 + d : Nat) : Int) from by omega, show ((i + 1 : Nat) : Int) = (i : Int) + 1 from by omega] at ih
        exact ih
    · rw [cond_neg (by simpa using hi)]
      refine .inr ⟨c, h3, rfl, ?_⟩
      rw [← h6, List.take_of_length_le (by simp; exact (by omega : s.size ≤ i))]
theorem parse_spec (s : ByteArray) (hs : s.size < 100000) : (∃ c : Nat, c < 64 ∧ s = dots c ∧ f_cell_Parse s = some ((c : Int), 0)) ∨ ((∀ c : Nat, c < 64 → s ≠ dots c) ∧ f_cell_Parse s = some (0, 10)) := by
  by_cases hex : ∃ c : Nat, c < 64 ∧ s = dots c
  · obtain ⟨c, hc, rfl⟩ := hex
    exact .inl ⟨c, hc, rfl, parse_dots c hc⟩
  · right
    have hno : ∀ c : Nat, c < 64 → s ≠ dots c := fun c hc e => hex ⟨c, hc, e⟩
    refine ⟨hno, ?_⟩
    unfold f_cell_Parse
    rw [toList_beq, toList_beq]
    have h0 : ¬ s = ⟨#[48]⟩ := fun e => hno 0 (by omega) (by rw [e]; kernel_rfl)
    rw [cond_neg (decide_eq_false h0)]
    by_cases h1 : s = ⟨#[]⟩
    · rw [cond_pos (decide_eq_true h1)]
    · rw [cond_neg (decide_eq_false h1)]
      have := parse_loop s hs 1000000 0 0 0 (by omega) (by omega) (by omega) (by omega) (by omega) (by rfl)
      rcases this with h | ⟨c, hc, _, h⟩
      · exact h
      · exfalso
        unfold d8 at h
        split at h
        · exact h1 (WideShapes.bytes_inj (by rw [h]))
        · exact hno c hc (WideShapes.bytes_inj h)
theorem refParse_loop (s : ByteArray) : ∀ (n k : Nat), k ≤ 64 → 64 < n + k →
    (∀ c : Nat, c < 64 → k ≤ c → s = dots c → (∀ j, k ≤ j → j < c → s ≠ dots j) → iter (fun loop (x : Int) => f_R01_Parse_b1 s loop x) n (k : Int) = some ((c : Int), 0)) ∧
    ((∀ c : Nat, c < 64 → k ≤ c → s ≠ dots c) → iter (fun loop (x : Int) => f_R01_Parse_b1 s loop x) n (k : Int) = some (0, 10))
  | 0, k, h1, h2 => by omega
  | n + 1, k, h1, h2 => by
    rw [iter_succ, f_R01_Parse_b1]
    by_cases hk : k < 64
    · obtain ⟨i1, i2⟩ := refParse_loop s n (k + 1) (by omega) (by omega)
      rw [cond_pos (by simp; omega), bind_some' (f_refDots k hk), toList_beq, wrap_u8 (by omega)]
      rw [show ((k + 1 : Nat) : Int) = (k : Int) + 1 from by omega] at i1 i2
      by_cases he : dots k = s
      · rw [cond_pos (decide_eq_true he)]
        refine ⟨fun c hc hkc hs hmin => ?_, fun hno => absurd he.symm (hno k hk (Nat.le_refl _))⟩
        have : k = c := dots_inj k c hk hc (by rw [he, hs])
        rw [this]
      · rw [cond_neg (decide_eq_false he)]
        refine ⟨fun c hc hkc hs hmin => i1 c hc ?_ hs (fun j h3 h4 => hmin j (by omega) h4), fun hno => i2 fun c hc h3 => hno c hc (by omega)⟩
        by_cases hck : c = k
        · subst hck; exact absurd hs.symm he
        · omega
    · rw [cond_neg (by simp; omega)]
      exact ⟨fun c hc hkc => by omega, fun _ => rfl⟩
theorem f_refParse (s : ByteArray) (hs : s.size < 100000) : f_R01_Parse s = f_cell_Parse s := by
  obtain ⟨i1, i2⟩ := refParse_loop s 1000000 0 (by omega) (by omega)
  unfold f_R01_Parse
  rw [show (0 : Int) = ((0 : Nat) : Int) from rfl]
  rcases parse_spec s hs with ⟨c, hc, h1, h2⟩ | ⟨h1, h2⟩
  · rw [h2, i1 c hc (by omega) h1 (fun j _ h4 e => by
      have := dots_inj j c (by omega) hc (by rw [← e, h1])
      omega)]
  · rw [h2, i2 (fun c hc _ => h1 c hc)]
end Go.Proofs.Ytbdmehgppgfiaaa
