/- Own work. -/
import Derived.Test.YtioockkejhpleaaDoorSp5a
set_option linter.unusedSimpArgs false
set_option linter.unusedVariables false
namespace Go.Proofs.YtioockkejhpleaaDoor
open Go.Abs
theorem cl_ne {o : List Int} (h : cl true o) : 0 < o.length := by
  cases o with
  | nil => cases h
  | cons x r => simp
theorem cl_first {o : List Int} (h : cl true o) : o.getD 0 0 ≠ 0 := fun e => by
  have := (cl_get o true h 0 (cl_ne h)).2.2 e
  have := this.2.1 rfl
  cases this
theorem cl_mem {o : List Int} (h : cl true o) : ∀ x ∈ o, 0 ≤ x ∧ x ≤ 62 := fun x hx => by
  obtain ⟨i, hi, rfl⟩ := X13.1 hx
  have := cl_get o true h i hi
  rw [Xf, X6 hi] at this
  exact ⟨this.1, this.2.1⟩
theorem cells_cl {K : Tr} {d : Nat} (hK : K.good d) (hd : d ≤ 8) (hl : K.flat.length ≤ 60) : cl true (K.cells []) := by
  obtain ⟨o, q1, q2, q3⟩ := Write_ok (Y3u d K hK) hd hl
  rw [(Write_cells hK hd hl).1] at q1
  have := X5 q1
  simp only [Prod.mk.injEq, and_true] at this
  rw [this]; exact q2
section
variable {f : List Y4} {n : Y4} {ks : List Tr} {d : Nat}
theorem Fml.clean (F : Fml f n ks d) : ∀ x ∈ ks.map fun k => k.cells [], cl true x := by
  intro x hx
  obtain ⟨K, hK, rfl⟩ := Xy.1 hx
  obtain ⟨i, hi, rfl⟩ := X13.1 hK
  obtain ⟨K', e1, e2, e3, e4, e5, e6, e7⟩ := F.at hi
  rw [X6 hi, X1] at e1
  rw [e1]
  exact cells_cl e2 (by have := F.d7; omega) e5
def RowOk (W : Nat) (row : List Int) : Prop := row.length = W ∧ (∃ x ∈ row, x ≠ 0) ∧ ∀ x ∈ row, 0 ≤ x ∧ x ≤ 62
theorem rowL_ok {w : Nat} {a : Int} {x : List Int} (ha : 0 ≤ a ∧ a ≤ 62) (hx : cl true x) (hw : x.length ≤ w) : RowOk (w + 2) (rowL w a x) := by
  unfold rowL
  refine ⟨by simp only [X2, X01, X7, X8]; omega, ⟨x.getD 0 0, by simp only [X07]; exact .inr (.inr (Y3w (cl_ne hx))), cl_first hx⟩, fun y hy => ?_⟩
  simp only [X07, X03, X0m, or_false, X11] at hy
  rcases hy with (rfl | rfl) | ⟨_, rfl⟩ | hy
  · exact ha
  · omega
  · omega
  · exact cl_mem hx y hy
theorem rowR_ok {w : Nat} {a : Int} {x : List Int} (ha : 0 ≤ a ∧ a ≤ 62) (hx : cl true x) (hw : x.length ≤ w) : RowOk (w + 2) (rowR w a x) := by
  unfold rowR
  refine ⟨by simp only [X2, X01, X7, X8]; omega, ⟨x.getD 0 0, by simp only [X07]; exact .inr (.inl (Y3w (cl_ne hx))), cl_first hx⟩, fun y hy => ?_⟩
  simp only [X07, X03, X0m, or_false, X11] at hy
  rcases hy with (rfl | rfl) | hy | ⟨_, rfl⟩
  · exact ha
  · omega
  · exact cl_mem hx y hy
  · omega
theorem bar_ok (w : Nat) : RowOk (w + 2) (rp (w + 2) 36) := by
  refine ⟨X01, ⟨36, by rw [X11]; exact ⟨by omega, rfl⟩, by decide⟩, fun y hy => ?_⟩
  rw [X11] at hy
  omega
def msum (c : Nat) (w : Nat → Nat) : Nat → Nat
  | 0 => 2
  | j + 1 => msum c w j + (w j + (if j + 1 < c then 2 else 0))
theorem mpre_sum {l : List (List Int)} {r c : Nat} {w : Nat → Nat} (hw : WOk l r c w) {i : Nat} (hi : i < r) : ∀ j, j ≤ c → (mpre l c w i j).length = msum c w j
  | 0, _ => rfl
  | j + 1, h => by
    rw [mpre_succ, X2, mcell_len hw hi (by omega), mpre_sum hw hi j (by omega)]; rfl
theorem mpre_mem {l : List (List Int)} {r c : Nat} {w : Nat → Nat} (hl : l.length = r * c) (hcl : ∀ x ∈ l, cl true x) {i : Nat} (hi : i < r) : ∀ j, j ≤ c → ∀ x ∈ mpre l c w i j, 0 ≤ x ∧ x ≤ 62
  | 0, _, x, hx => by
    simp only [mpre, List.range_zero, X0y, X0e, X09, X03, X0m, or_false] at hx
    omega
  | j + 1, h, x, hx => by
    rw [mpre_succ, X07] at hx
    rcases hx with hx | hx
    · exact mpre_mem hl hcl hi j (by omega) x hx
    · unfold mcell at hx
      simp only [X07, X11] at hx
      rcases hx with hx | ⟨_, rfl⟩ | hx
      · exact cl_mem (hcl _ (Y3w (mat_lt hl hi (by omega)))) x hx
      · omega
      · split at hx
        · simp only [X03, X0m, or_false] at hx; omega
        · simp at hx
theorem rows_ok (F : Fml f n ks d) (h : n.Op = 12 ∨ n.Op = 13 ∨ n.Op = 6) : ∃ W, ∀ row ∈ Y3t n (ks.map fun k => k.cells []), RowOk W row := by
  have hcl := F.clean
  have hs := F.sml
  generalize hl0 : (ks.map fun k => k.cells []) = l at *
  have hlen : l.length = ks.length := by rw [← hl0, Xh]
  unfold Y3t
  split
  · rename_i h12
    have := ar_tab F.ar h12
    refine ⟨mx l + 2, fun row hr => ?_⟩
    unfold sumRows at hr
    simp only [X07, Xy, X03, X0m, or_false] at hr
    rcases hr with ⟨x, hx, rfl⟩ | rfl | rfl
    · have hx' := X0w hx
      exact rowL_ok (by omega) (hcl x hx') (mx_le hx')
    · exact bar_ok _
    · have hx := Y3w (d := []) (by omega : l.length - 1 < l.length)
      exact rowL_ok (by omega) (hcl _ hx) (mx_le hx)
  · split
    · rename_i h13
      obtain ⟨r, c, e1, e2, e3, e4, e5, e6, e7, e8, e9⟩ := mat_dims F.ar h13
      rw [← e3, ← e4]
      have hl : l.length = r * c := by rw [hlen]; exact e9
      have hw := cm_ok hl e7 hs
      refine ⟨msum c (cm l c l.length) c + 2, fun row hr => ?_⟩
      unfold Y29 at hr
      obtain ⟨i, hi, rfl⟩ := Xy.1 hr
      rw [Xl] at hi
      unfold mrow
      refine ⟨by rw [X2, mpre_sum hw hi c (Xi _)]; rfl, ⟨62, by simp, by decide⟩, fun x hx => ?_⟩
      rw [X07] at hx
      rcases hx with hx | hx
      · exact mpre_mem hl hcl hi c (Xi _) x hx
      · simp only [X03, X0m, or_false] at hx; omega
    · have h6 : ks.length = 2 := ar_two F.ar (by omega) (by omega)
      refine ⟨mx l + 2, fun row hr => ?_⟩
      have x0 := Y3w (d := []) (by omega : 0 < l.length)
      have x1 := Y3w (d := []) (by omega : 1 < l.length)
      unfold fracRows at hr
      simp only [X03, X0m, or_false] at hr
      rcases hr with rfl | rfl | rfl
      · exact rowR_ok (by omega) (hcl _ x0) (mx_le x0)
      · exact bar_ok _
      · exact rowR_ok (by omega) (hcl _ x1) (mx_le x1)
theorem rows_len (F : Fml f n ks d) (h : n.Op = 12 ∨ n.Op = 13 ∨ n.Op = 6) : (n.Op = 12 → ((Y3t n (ks.map fun k => k.cells [])).length : Int) = n.N + 2) ∧ (n.Op = 13 → ((Y3t n (ks.map fun k => k.cells [])).length : Int) = Int.tdiv n.N 8) ∧ (n.Op = 6 → (Y3t n (ks.map fun k => k.cells [])).length = 3) := by
  refine ⟨fun e => ?_, fun e => ?_, fun e => ?_⟩
  · have := ar_tab F.ar e
    unfold Y3t sumRows
    rw [if_pos e]
    simp only [X2, Xh, Xt, X7, X8]
    omega
  · obtain ⟨r, c, e1, e2, e3, e4, e5, e6, e7, e8, e9⟩ := mat_dims F.ar e
    unfold Y3t
    rw [if_neg (by omega), if_pos e, matRows_len, ← e3, e1]
  · unfold Y3t
    rw [if_neg (by omega), if_neg (by omega)]; rfl
theorem rows_small (F : Fml f n ks d) (h : n.Op = 12 ∨ n.Op = 13 ∨ n.Op = 6) : (Y3t n (ks.map fun k => k.cells [])).length ≤ 10 := by
  obtain ⟨h1, h2, h3⟩ := rows_len F h
  rcases h with e | e | e
  · have := ar_tab F.ar e; have := h1 e; omega
  · obtain ⟨r, c, e1, e2, e3, e4, e5, e6, e7, e8, e9⟩ := mat_dims F.ar e
    have := h2 e; omega
  · have := h3 e; omega
end
/- Trim. -/
def tlen (t : List Int) : Nat → Nat
  | 0 => 0
  | k + 1 => if t.getD k 0 = 0 then tlen t k else k + 1
theorem tlen_gt {t : List Int} : ∀ k j, j < k → t.getD j 0 ≠ 0 → j < tlen t k
  | 0, j, h, _ => by omega
  | k + 1, j, h, hn => by
    unfold tlen
    split
    · rename_i e
      by_cases hj : j = k
      · subst hj; exact absurd e hn
      · exact tlen_gt k j (by omega) hn
    · omega
theorem Trim_ok {t : List Int} (hl : t.length ≤ 100000) : f_R11_Trim t = some (t.take (tlen t t.length)) := by
  have run : ∀ (k q : Nat), k ≤ t.length → iter (fun loop (s : Int) => Y53 t loop s) (q + 1 + k) (k : Int) = some (t.take (tlen t k)) := by
    intro k
    induction k with
    | zero =>
      intro q hk
      rw [X0d, Yy]
      unfold Y53
      rw [Y01 (fun h => by have := of_decide_eq_true h; omega), Y01 (fun h => by have := of_decide_eq_true h; omega), decide_eq_false (by omega), cond_false, cond_false, Y01 (by omega)]
      rfl
    | succ k ih =>
      intro q hk
      rw [show q + 1 + (k + 1) = (q + 1 + k) + 1 by omega, Yy]
      unfold Y53
      rw [Y01 (fun h => inR_of (by omega)), Y01 (fun h => by omega), decide_eq_true (by omega), cond_true, show (((k + 1 : Nat) : Int) - 1).toNat = k by omega]
      unfold tlen
      by_cases h0 : t.getD k 0 = 0
      · rw [Yo h0, if_pos h0, Y09 (by omega), show ((k + 1 : Nat) : Int) - 1 = (k : Int) by omega]
        exact ih q (by omega)
      · rw [Yi h0, if_neg h0, Y01 (by omega), Xa]
  have h := run t.length (999999 - t.length) (Xi _)
  rw [show 999999 - t.length + 1 + t.length = 1000000 by omega] at h
  exact h
theorem ar_N {n : Y4} {k : Nat} (h : ar n = some k) : 0 ≤ n.N ∧ n.N ≤ 99999 := by
  unfold ar at h
  split at h
  · split at h
    · omega
    · cases h
  · split at h
    · split at h
      · omega
      · cases h
    · split at h
      · split at h
        · omega
        · cases h
      · split at h
        · split at h
          · omega
          · cases h
        · split at h
          · split at h
            · omega
            · cases h
          · split at h
            · split at h
              · omega
              · cases h
            · cases h
/- Chains of sums. -/
end Go.Proofs.YtioockkejhpleaaDoor
