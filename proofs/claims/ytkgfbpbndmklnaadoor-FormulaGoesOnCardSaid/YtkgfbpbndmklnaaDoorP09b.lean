/- Own work. -/
import Derived.Test.YtkgfbpbndmklnaaDoorQuC
set_option linter.unusedSimpArgs false
set_option linter.unusedVariables false
namespace Go.Proofs.YtkgfbpbndmklnaaDoor
open Go.Abs
theorem Made_good {t0 : List Int} (h0 : okList (okInt .u8) t0) : ∃ T : Tr, f_R09_Made t0 = some T.flat ∧ Tr.good 5 T ∧ T.flat.length ≤ 60 ∧ T.tx.length + 1 ≤ 600 := by
  obtain ⟨f, hf, hT, hl⟩ := Made_tree h0
  obtain ⟨T, rfl, hg⟩ := IsT_good 5 f hT
  have := tx_len T
  exact ⟨T, hf, hg, hl, by omega⟩
theorem extract_B (l : List UInt8) (i : Nat) : (B l).extract 0 i = B (l.take i) := by
  rw [B_extract]; simp
theorem begin_cases {T : Tr} (h : Tr.good 5 T) (hl : T.flat.length ≤ 60) {i : Nat} (hi : i ≤ T.tx.length) :
    (∃ y : Tr, rdF (B (T.tx.take i)) = .ok [y] (i : Int) ∧ y.flat.length ≤ 60 ∧ y.dep ≤ 8) ∨ rdF (B (T.tx.take i)) = .err (i : Int) := by
  have sz : (B (T.tx.take i)).size = i := by rw [B_size, X03]; omega
  have g : Ag (B (T.tx.take i)) (B T.tx) (((B (T.tx.take i)).size : Nat) - 1) := by
    have := ag_app (T.tx.take i) [] (T.tx.drop i) (m := ((B (T.tx.take i)).size : Nat) - 1) (by rw [B_size]; omega)
    rw [X0f, X0k] at this
    exact this
  have hd := good_dep_le 5 T h
  rcases rdF_prefix g (by rw [sz, B_size]; exact hi) (rdF_text h) with ⟨y, h1, h2⟩ | h1
  · rw [sz] at h1; exact .inl ⟨y, h1, by have := h2.1; omega, by have := h2.2; omega⟩
  · rw [sz] at h1; exact .inr h1
theorem plain_FormulaGoesOn {t0 : List Int} {t1 : Int} {t2 : List Int} (h0 : okList (okInt .u8) t0) (h1 : okInt .u8 t1) (h2 : okList (okInt .u8) t2) : Y3d t0 t1 t2 = some true := by
  obtain ⟨T, hM, hg, hl, hx⟩ := Made_good h0
  have h1' : 0 ≤ t1 ∧ t1 ≤ 255 := h1
  unfold Y3d
  rw [show f_L09_sanity = some true from rfl, Xa, hM, Xa, R09_Print_ok (by omega) hg hl, Xa, B_size, wrap_i64 (by omega)]
  obtain ⟨i, hi, hiL⟩ : ∃ i : Nat, Int.tmod t1 ((T.tx.length : Int) + 1) = (i : Int) ∧ i ≤ T.tx.length := by
    rw [X11 h1'.1]
    have a := Int.emod_nonneg t1 (b := (T.tx.length : Int) + 1) (by omega)
    have b := Int.emod_lt_of_pos t1 (b := (T.tx.length : Int) + 1) (by omega)
    exact ⟨(t1 % ((T.tx.length : Int) + 1)).toNat, by omega, by omega⟩
  rw [hi, Y45 (by omega), Y2p (by omega), Y2p (by omega), X0a, extract_B]
  have szu : (B (T.tx.take i)).size = i := by rw [B_size, X03]; omega
  obtain ⟨m, hm, hm8, hml⟩ : ∃ m : Nat, (if (8 : Int) < (t2.length : Int) then (8 : Int) else (t2.length : Int)) = (m : Int) ∧ m ≤ 8 ∧ m ≤ t2.length := by
    split
    · exact ⟨8, by omega, by omega, by omega⟩
    · exact ⟨t2.length, by omega, by omega, by omega⟩
  rw [hm, X0a, strOf_B, B_app, B_size, B_size, Y2p (x := G _ _) (by omega)]
  have ml : (toU (t2.take m)).length = m := by unfold toU; rw [X01, X03]; omega
  have tl : (T.tx.take i).length = i := by rw [X03]; omega
  generalize hu : T.tx.take i = u at *
  generalize hv : toU (t2.take m) = v at *
  have sz : (B (u ++ v)).size = i + m := by rw [B_size, X4]; omega
  rw [Y2p (by omega)]
  have first : ∃ x7 : List Y4 × Int × Int, Y0g (B u) = some x7 ∧ cond (x7.2.2 != (0 : Int)) (cond (x7.2.2 != (90 : Int)) true (x7.2.1 != (i : Int))) false = false := by
    rcases begin_cases hg hl hiL with ⟨y, e, y1, y2⟩ | e
    · rw [hu] at e
      have := parse_read (t := B u) (by rw [szu]; omega) (x := y) (by rw [szu]; exact e)
      rw [Vn] at this
      exact ⟨_, this, by simp⟩
    · rw [hu] at e
      exact ⟨_, parse_err (by rw [szu]; omega) e, by simp⟩
  obtain ⟨x7, e7, c7⟩ := first
  rw [e7, Xa, c7, cond_false]
  rcases stops_or (B (u ++ v)) with ⟨n, hn⟩ | ⟨x, hn⟩
  · obtain ⟨n0, n1⟩ := hn.range
    rw [sz] at n1
    have ni : (i : Int) ≤ n := by
      by_cases hlt : n < (i : Int)
      · exfalso
        have g := ag_app u v [] (m := n) (by omega)
        rw [X0f] at g
        have st := hn.move g (by rw [szu]; exact hlt)
        rcases begin_cases hg hl hiL with ⟨y, e, y1, y2⟩ | e <;> rw [hu] at e <;> rcases st with st | ⟨l, st, _⟩ <;> rw [e] at st <;> cases st <;> omega
      · omega
    rw [hn.parse (by rw [sz]; omega), Xa]
    simp only [bne_self_eq_false, cond_false]
    rw [decide_eq_false (by omega), cond_false, sz, decide_eq_false (by omega), cond_false]
    by_cases hE : n = ((i + m : Nat) : Int)
    · rw [hE, beq_self_eq_true, cond_true]
    · rw [show (n == ((i + m : Nat) : Int)) = false by rw [beq_eq_false_iff_ne]; exact hE, cond_false, Y45 (by omega), Y2p (by omega)]
      obtain ⟨k, rfl⟩ : ∃ k : Nat, n = (k : Int) := ⟨n.toNat, by omega⟩
      rw [show ((k : Int) + 1).toNat = k + 1 by omega, extract_B, show (⟨#[49, 41]⟩ : ByteArray) = B [49, 41] from rfl, Y2p (bsz (by rw [X03]; simp only [Xb, Xk, X4]; omega)), B_app]
      have lk : ((u ++ v).take (k + 1)).length = k + 1 := by rw [X03, X4]; omega
      have g := ag_app ((u ++ v).take (k + 1)) ((u ++ v).drop (k + 1)) [49, 41] (m := (k : Int)) (by omega)
      rw [X0k] at g
      have sz2 : (B ((u ++ v).take (k + 1) ++ [49, 41])).size = k + 3 := by rw [B_size, X4, lk]; rfl
      rw [(hn.move g (by rw [sz2]; omega)).parse (by rw [sz2]; omega), Xa]
      simp
  · have := parse_read (t := B (u ++ v)) (by rw [sz]; omega) hn
    rw [this, Xa]
    split
    · simp
    · simp [sz, ml, tl]
end Go.Proofs.YtkgfbpbndmklnaaDoor
