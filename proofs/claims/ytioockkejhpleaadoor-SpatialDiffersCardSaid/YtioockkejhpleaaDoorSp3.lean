/- Own work. -/
import Derived.Test.YtioockkejhpleaaDoorSp2
set_option linter.unusedSimpArgs false
set_option linter.unusedVariables false
namespace Go.Proofs.YtioockkejhpleaaDoor
open Go.Abs
def mcell (l : List (List Int)) (c : Nat) (w : Nat → Nat) (i j : Nat) : List Int := l.getD (i * c + j) [] ++ (rp (w j - (l.getD (i * c + j) []).length) 0 ++ (if j + 1 < c then [0, 0] else []))
def mpre (l : List (List Int)) (c : Nat) (w : Nat → Nat) (i j : Nat) : List Int := [55, 0] ++ ((List.range j).map (mcell l c w i)).flatten
theorem mpre_succ (l : List (List Int)) (c : Nat) (w : Nat → Nat) (i j : Nat) : mpre l c w i (j + 1) = mpre l c w i j ++ mcell l c w i j := by
  unfold mpre
  rw [List.range_succ, X0s, X0b, Xs, X0y, Xr, X0e, X09, Xb]
def mrow (l : List (List Int)) (c : Nat) (w : Nat → Nat) (i : Nat) : List Int := mpre l c w i c ++ [0, 62]
def Y29 (l : List (List Int)) (r c : Nat) (w : Nat → Nat) : List (List Int) := (List.range r).map (mrow l c w)
theorem matRows_succ (l : List (List Int)) (r c : Nat) (w : Nat → Nat) : Y29 l (r + 1) c w = Y29 l r c w ++ [mrow l c w r] := by
  unfold Y29
  rw [List.range_succ, X0s]; rfl
def WOk (l : List (List Int)) (r c : Nat) (w : Nat → Nat) : Prop := (∀ j, w j ≤ 6000) ∧ ∀ i j, i < r → j < c → (l.getD (i * c + j) []).length ≤ w j
theorem mcell_len {l : List (List Int)} {r c : Nat} {w : Nat → Nat} (hw : WOk l r c w) {i j : Nat} (hi : i < r) (hj : j < c) : (mcell l c w i j).length = w j + (if j + 1 < c then 2 else 0) := by
  have := hw.2 i j hi hj
  unfold mcell
  rw [X2, X2, X01]
  split <;> simp only [X7, X8] <;> omega
theorem mpre_len {l : List (List Int)} {r c : Nat} {w : Nat → Nat} (hw : WOk l r c w) {i : Nat} (hi : i < r) : ∀ j, j ≤ c → (mpre l c w i j).length ≤ 2 + 6002 * j
  | 0, _ => by simp [mpre]
  | j + 1, hj => by
    rw [mpre_succ, X2, mcell_len hw hi (by omega)]
    have := mpre_len hw hi j (by omega)
    have := hw.1 j
    split <;> omega
theorem mat_lt {r c i j n : Nat} (hn : n = r * c) (hi : i < r) (hj : j < c) : i * c + j < n := by
  have h1 : (i + 1) * c ≤ r * c := X0u c (by omega)
  rw [X0j, Nat.one_mul] at h1
  omega
theorem matRows_len (l : List (List Int)) (r c : Nat) (w : Nat → Nat) : (Y29 l r c w).length = r := by simp [Y29]
/- The program's rows, once the widths are known. -/
theorem layM_rows {t : Y4} {l : List (List Int)} {r c : Nat} {w : Nat → Nat} (hr : Int.tdiv t.N 8 = (r : Int)) (hc : Int.tmod t.N 8 = (c : Int)) (hr4 : r ≤ 4) (hc1 : 1 ≤ c) (hc4 : c ≤ 4) (hl : l.length = r * c) (hs : Sml l) (hw : WOk l r c w) :
    iter (fun loop (s : List (List Int) × Int) => Y0v t l ((List.range c).map fun j => ((w j : Nat) : Int)) loop s.1 s.2) 1000000 ([], (0 : Int)) = some (Y29 l r c w) := by
  have hlen : l.length ≤ 16 := by rw [hl]; exact Nat.mul_le_mul hr4 hc4
  refine Y3b (fun i => (Y29 l i c w, (i : Int))) r _ (by omega) (fun loop i hi => ?_) fun loop => ?_
  · show Y0v t l _ loop (Y29 l i c w) (i : Int) = _
    unfold Y0v
    rw [hr, Y0b (by omega)]
    have hml := matRows_len l i c w
    refine Y3b (fun j => (Y29 l i c w, mpre l c w i j, (j : Int))) c _ (by omega) (fun loop2 j hj => ?_) fun loop2 => ?_
    · show Y16 t l _ loop (i : Int) loop2 (Y29 l i c w) (mpre l c w i j) (j : Int) = _
      have hij := mat_lt hl hi hj
      have hx := hw.2 i j hi hj
      have hwj := hw.1 j
      have hp := mpre_len hw hi j (by omega)
      have e1 : (i : Int) * (c : Int) = ((i * c : Nat) : Int) := (Int.natCast_mul i c).symm
      have e2 : ((i * c : Nat) : Int) + (j : Int) = ((i * c + j : Nat) : Int) := by omega
      have hb : i * c ≤ 16 := by omega
      have e3 : (((List.range c).map fun j => ((w j : Nat) : Int)).getD j 0) = ((w j : Nat) : Int) := by
        rw [Xf, Xw, X15 hj]; rfl
      unfold Y16
      rw [hc, Y0b (by omega), e1, Y09 (by omega), e2, Y09 (by omega), Y01 (by omega), Xa, Xa, Y0e (by omega), Y01 (by rw [Xh, X1e]; omega), e3, Y09 (by omega),
        show ((w j : Nat) : Int) - ((l.getD (i * c + j) []).length : Int) = ((w j - (l.getD (i * c + j) []).length : Nat) : Int) by omega, blanks_ok (by omega), X0, Y0e (by simp only [X2, X01]; omega), Y09 (by omega)]
      show _ = loop2 (Y29 l i c w, mpre l c w i (j + 1), ((j + 1 : Nat) : Int))
      by_cases hlast : j + 1 < c
      · rw [Y0b (by omega), Y0e (by simp only [X2, X01]; omega)]
        unfold Y1l
        rw [Y09 (by omega), mpre_succ]
        unfold mcell
        rw [if_pos hlast, Xb, Xb]; rfl
      · rw [Y07 (by omega)]
        unfold Y1l
        rw [Y09 (by omega), mpre_succ]
        unfold mcell
        rw [if_neg hlast, X09, Xb]; rfl
    · show Y16 t l _ loop (i : Int) loop2 (Y29 l i c w) (mpre l c w i c) (c : Int) = _
      have hp := mpre_len hw hi c (by omega)
      unfold Y16
      rw [hc, Y07 (by omega), Y0e (by omega), Y0e (by omega), Y09 (by omega)]
      show _ = loop (Y29 l (i + 1) c w, ((i + 1 : Nat) : Int))
      rw [matRows_succ]; rfl
  · show Y0v t l _ loop (Y29 l r c w) (r : Int) = _
    unfold Y0v
    rw [hr, Y07 (by omega)]
/- The widths of columns, as the program finds them: after `k` entries. -/
def cm (l : List (List Int)) (c : Nat) : Nat → Nat → Nat
  | 0, _ => 0
  | k + 1, j => if k % c = j then max (cm l c k j) (l.getD k []).length else cm l c k j
theorem cm_le {l : List (List Int)} {c : Nat} (hs : Sml l) : ∀ k j, k ≤ l.length → cm l c k j ≤ 6000
  | 0, j, _ => by simp [cm]
  | k + 1, j, h => by
    have h1 := cm_le (c := c) hs k j (by omega)
    have h2 := (hs.at (i := k) (by omega)).1
    unfold cm
    split <;> omega
theorem cm_ge {l : List (List Int)} {c : Nat} : ∀ k i, i < k → (l.getD i []).length ≤ cm l c k (i % c)
  | 0, i, h => by omega
  | k + 1, i, h => by
    unfold cm
    by_cases e : i = k
    · subst e; rw [if_pos rfl]; omega
    · have := cm_ge (l := l) (c := c) k i (by omega)
      split <;> omega
theorem cm_ok {l : List (List Int)} {r c : Nat} (hl : l.length = r * c) (hc1 : 1 ≤ c) (hs : Sml l) : WOk l r c (cm l c l.length) := by
  refine ⟨fun j => cm_le hs _ j (Xi _), fun i j hi hj => ?_⟩
  have h1 := cm_ge (l := l) (c := c) l.length (i * c + j) (mat_lt hl hi hj)
  rwa [Nat.mul_add_mod_self_right, Nat.mod_eq_of_lt hj] at h1
theorem layMatrix_ok {t : Y4} {l : List (List Int)} {r c : Nat} (hr : Int.tdiv t.N 8 = (r : Int)) (hc : Int.tmod t.N 8 = (c : Int)) (hr4 : r ≤ 4) (hc1 : 1 ≤ c) (hc4 : c ≤ 4) (hl : l.length = r * c) (hs : Sml l) :
    Y2b t l = some (Y29 l r c (cm l c l.length)) := by
  have hlen : l.length ≤ 16 := by rw [hl]; exact Nat.mul_le_mul hr4 hc4
  unfold Y2b
  rw [hr, hc, Y09 (by omega), Y01 (by omega), Xa]
  have st0 : List.replicate c (0 : Int) = (List.range c).map fun j => ((cm l c 0 j : Nat) : Int) := by
    apply X19 <;> simp [cm]
  rw [st0]
  refine Y3b (fun k => ((List.range c).map fun j => ((cm l c k j : Nat) : Int), (k : Int))) l.length _ (by omega) (fun loop k hk => ?_) fun loop => ?_
  · show Y15 t l loop ((List.range c).map fun j => ((cm l c k j : Nat) : Int)) (k : Int) = _
    have hmod : k % c < c := Nat.mod_lt _ (by omega)
    have e0 : Int.tmod (k : Int) (c : Int) = ((k % c : Nat) : Int) := by rw [Int.tmod_eq_emod_of_nonneg (by omega)]; omega
    have e3 : (((List.range c).map fun j => ((cm l c k j : Nat) : Int)).getD (k % c) 0) = ((cm l c k (k % c) : Nat) : Int) := by
      rw [Xf, Xw, X15 hmod]; rfl
    unfold Y15
    rw [Y0b (by omega), Y01 (by omega), hc, Y01 (by omega), e0, Y01 (by rw [Xh, X1e]; omega), Y09 (by omega), Xa, Xa, e3, if_max]
    show _ = loop ((List.range c).map fun j => ((cm l c (k + 1) j : Nat) : Int), ((k + 1 : Nat) : Int))
    have e4 : ((List.range c).map fun j => ((cm l c k j : Nat) : Int)).set (k % c) ((max (cm l c k (k % c)) (l.getD k []).length : Nat) : Int) = (List.range c).map fun j => ((cm l c (k + 1) j : Nat) : Int) := by
      apply X19
      · simp
      · intro j h1 h2
        rw [List.getElem_set]
        simp only [List.getElem_map, List.getElem_range, cm]
        split <;> rename_i he
        · rw [he]
        · rfl
    rw [e4]; rfl
  · show Y15 t l loop ((List.range c).map fun j => ((cm l c l.length j : Nat) : Int)) (l.length : Int) = _
    unfold Y15
    rw [Y07 (by omega)]
    exact layM_rows hr hc hr4 hc1 hc4 hl hs (cm_ok hl hc1 hs)
/- The widths of columns, as the reference finds them: after `t` entries of the column. -/
def cw (l : List (List Int)) (c j : Nat) : Nat → Nat
  | 0 => 0
  | t + 1 => max (cw l c j t) (l.getD (j + t * c) []).length
theorem cm_row {l : List (List Int)} {c : Nat} (hc1 : 1 ≤ c) (t : Nat) {j : Nat} (hj : j < c) (ih : cm l c (t * c) j = cw l c j t) : ∀ s, s ≤ c → cm l c (t * c + s) j = if j < s then cw l c j (t + 1) else cw l c j t
  | 0, _ => by rw [if_neg (by omega)]; exact ih
  | s + 1, h => by
    have h1 := cm_row hc1 t hj ih s (by omega)
    have hm : (t * c + s) % c = s := by rw [Nat.mul_add_mod_self_right, Nat.mod_eq_of_lt (by omega)]
    show cm l c (t * c + s + 1) j = _
    unfold cm
    rw [hm, h1]
    by_cases e : s = j
    · subst e
      rw [if_pos rfl, if_neg (by omega), if_pos (by omega)]
      show _ = max (cw l c s t) (l.getD (s + t * c) []).length
      rw [Nat.add_comm s (t * c)]
    · rw [if_neg e]
      by_cases e2 : j < s
      · rw [if_pos e2, if_pos (by omega)]
      · rw [if_neg e2, if_neg (by omega)]
theorem cm_cw (l : List (List Int)) {c : Nat} (hc1 : 1 ≤ c) {j : Nat} (hj : j < c) : ∀ t, cm l c (t * c) j = cw l c j t
  | 0 => by rw [X10]; rfl
  | t + 1 => by
    have h := cm_row hc1 t hj (cm_cw l hc1 hj t) c (Xi _)
    rw [if_pos hj] at h
    rw [X0j, Nat.one_mul]; exact h
theorem R11_mat_ok {l : List (List Int)} {r c : Nat} (hr1 : 1 ≤ r) (hr4 : r ≤ 4) (hc1 : 1 ≤ c) (hc4 : c ≤ 4) (hl : l.length = r * c) (hs : Sml l) :
    f_R11_matrix l (c : Int) = some (Y29 l r c (cm l c l.length)) := by
  have hlen : l.length ≤ 16 := by rw [hl]; exact Nat.mul_le_mul hr4 hc4
  have hw := cm_ok hl hc1 hs
  unfold f_R11_matrix
  have st0 : (([] : List (List Int)), (0 : Int)) = (Y29 l 0 c (cm l c l.length), ((0 * c : Nat) : Int)) := by rw [X10]; rfl
  rw [st0]
  refine Y3b (fun i => (Y29 l i c (cm l c l.length), ((i * c : Nat) : Int))) r _ (by omega) (fun loop i hi => ?_) fun loop => ?_
  · show Y4v l (c : Int) loop (Y29 l i c (cm l c l.length)) ((i * c : Nat) : Int) = _
    have hi0 := mat_lt (j := 0) hl hi (by omega)
    unfold Y4v
    rw [Y0b (by omega)]
    have hml := matRows_len l i c (cm l c l.length)
    refine Y3b (fun j => (mpre l c (cm l c l.length) i j, (j : Int))) c _ (by omega) (fun loop2 j hj => ?_) fun loop2 => ?_
    · show Y4w l (c : Int) loop (Y29 l i c (cm l c l.length)) ((i * c : Nat) : Int) loop2 (mpre l c (cm l c l.length) i j) (j : Int) = _
      unfold Y4w
      rw [Y0b (by omega)]
      have hij := mat_lt hl hi hj
      have hx := hw.2 i j hi hj
      have hwj := hw.1 j
      have hp := mpre_len hw hi j (by omega)
      have st0 : ((0 : Int), (j : Int)) = (((cw l c j 0 : Nat) : Int), ((j + 0 * c : Nat) : Int)) := by simp [cw]
      rw [st0]
      refine Y3b (fun t => (((cw l c j t : Nat) : Int), ((j + t * c : Nat) : Int))) r _ (by omega) (fun loop3 t ht => ?_) fun loop3 => ?_
      · show Y4x l (c : Int) ((i * c : Nat) : Int) loop2 (mpre l c (cm l c l.length) i j) (j : Int) loop3 ((cw l c j t : Nat) : Int) ((j + t * c : Nat) : Int) = _
        have htj := mat_lt hl ht hj
        unfold Y4x
        rw [Y0b (by omega), Y01 (by omega), Y09 (by omega), Xa, if_max]
        show _ = loop3 (((cw l c j (t + 1) : Nat) : Int), ((j + (t + 1) * c : Nat) : Int))
        rw [show ((j + t * c : Nat) : Int) + (c : Int) = ((j + (t + 1) * c : Nat) : Int) by rw [X0j, Nat.one_mul]; omega]
        rfl
      · show Y4x l (c : Int) ((i * c : Nat) : Int) loop2 (mpre l c (cm l c l.length) i j) (j : Int) loop3 ((cw l c j r : Nat) : Int) ((j + r * c : Nat) : Int) = _
        have ew : cw l c j r = cm l c l.length j := by rw [hl]; exact (cm_cw l hc1 hj r).symm
        have e2 : ((i * c : Nat) : Int) + (j : Int) = ((i * c + j : Nat) : Int) := by omega
        unfold Y4x
        rw [Y07 (by omega), Y09 (by omega), e2, Y01 (by omega), Xa, ew, right_ok hx (by omega), X0, joined_ok (by simp only [X2, X01]; omega), X0, Y09 (by omega)]
        show _ = loop2 (mpre l c (cm l c l.length) i (j + 1), ((j + 1 : Nat) : Int))
        by_cases hlast : j + 1 < c
        · rw [Y0b (by omega), show (2 : Int) = ((2 : Nat) : Int) from rfl, R11_blanks_ok (by omega), X0, joined_ok (by simp only [X2, X01]; omega), X0]
          unfold f_R11_matrix_k1
          rw [Y09 (by omega), mpre_succ]
          unfold mcell
          rw [if_pos hlast, Xb, Xb]; rfl
        · rw [Y07 (by omega)]
          unfold f_R11_matrix_k1
          rw [Y09 (by omega), mpre_succ]
          unfold mcell
          rw [if_neg hlast, X09]; rfl
    · show Y4w l (c : Int) loop (Y29 l i c (cm l c l.length)) ((i * c : Nat) : Int) loop2 (mpre l c (cm l c l.length) i c) (c : Int) = _
      have hp := mpre_len hw hi c (by omega)
      unfold Y4w
      rw [Y07 (by omega), Y0e (by omega), Y0e (by omega), Y09 (by omega)]
      show _ = loop (Y29 l (i + 1) c (cm l c l.length), (((i + 1) * c : Nat) : Int))
      rw [matRows_succ, show ((i * c : Nat) : Int) + (c : Int) = (((i + 1) * c : Nat) : Int) by rw [X0j, Nat.one_mul]; omega]; rfl
  · show Y4v l (c : Int) loop (Y29 l r c (cm l c l.length)) ((r * c : Nat) : Int) = _
    unfold Y4v
    rw [Y07 (by omega)]
theorem R11_matrix_ok {t : Y4} {l : List (List Int)} {r c : Nat} (ht : t.Op = 13) (hc : Int.tmod t.N 8 = (c : Int)) (hr1 : 1 ≤ r) (hr4 : r ≤ 4) (hc1 : 1 ≤ c) (hc4 : c ≤ 4) (hl : l.length = r * c) (hs : Sml l) :
    f_R11_rows t l = some (Y29 l r c (cm l c l.length)) := by
  have hlen : l.length ≤ 16 := by rw [hl]; exact Nat.mul_le_mul hr4 hc4
  refine R11_rows_mx (by omega) _ fun loop => ?_
  unfold Y3o
  rw [Y07 (by omega), Yo ht, hc, R11_mat_ok hr1 hr4 hc1 hc4 hl hs]
  rfl
end Go.Proofs.YtioockkejhpleaaDoor
