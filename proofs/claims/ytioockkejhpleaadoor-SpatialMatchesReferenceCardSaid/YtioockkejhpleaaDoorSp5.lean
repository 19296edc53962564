/- Own work. -/
import Derived.Test.YtioockkejhpleaaDoorSp5a
set_option linter.unusedSimpArgs false
set_option linter.unusedVariables false
namespace Go.Proofs.YtioockkejhpleaaDoor
open Go.Abs
theorem cl_ne {o : List Int} (h : cl true o) : 0 < o.length := by
  cases o with
  | nil => cases h
  | cons x r => simp
theorem cl_first {o : List Int} (h : cl true o) : o.getD 0 0 ≠ 0 := fun e => by
  have := (cl_get o true h 0 (cl_ne h)).2.2 e
  have := this.2.1 rfl
  cases this
theorem cl_mem {o : List Int} (h : cl true o) : ∀ x ∈ o, 0 ≤ x ∧ x ≤ 62 := fun x hx => by
  obtain ⟨i, hi, rfl⟩ := X19.1 hx
  have := cl_get o true h i hi
  rw [Xl, X7 hi] at this
  exact ⟨this.1, this.2.1⟩
theorem cells_cl {K : Tr} {d : Nat} (hK : K.good d) (hd : d ≤ 8) (hl : K.flat.length ≤ 60) : cl true (K.cells []) := by
  obtain ⟨o, q1, q2, q3⟩ := Write_ok (Y5c d K hK) hd hl
  rw [(Write_cells hK hd hl).1] at q1
  have := X2 q1
  simp only [Prod.mk.injEq, and_true] at this
  rw [this]; exact q2
section
variable {f : List Y4} {n : Y4} {ks : List Tr} {d : Nat}
theorem Fml.clean (F : Fml f n ks d) : ∀ x ∈ ks.map fun k => k.cells [], cl true x := by
  intro x hx
  obtain ⟨K, hK, rfl⟩ := Xx.1 hx
  obtain ⟨i, hi, rfl⟩ := X19.1 hK
  obtain ⟨K', e1, e2, e3, e4, e5, e6, e7⟩ := F.at hi
  rw [X7 hi, X1] at e1
  rw [e1]
  exact cells_cl e2 (by have := F.d7; omega) e5
def RowOk (W : Nat) (row : List Int) : Prop := row.length = W ∧ (∃ x ∈ row, x ≠ 0) ∧ ∀ x ∈ row, 0 ≤ x ∧ x ≤ 62
theorem rowL_ok {w : Nat} {a : Int} {x : List Int} (ha : 0 ≤ a ∧ a ≤ 62) (hx : cl true x) (hw : x.length ≤ w) : RowOk (w + 2) (rowL w a x) := by
  unfold rowL
  refine ⟨by simp only [X3, Xz, X6, X8]; omega, ⟨x.getD 0 0, by simp only [X07]; exact .inr (.inr (getD_mem (cl_ne hx))), cl_first hx⟩, fun y hy => ?_⟩
  simp only [X07, X08, X13, or_false, X1b] at hy
  rcases hy with (rfl | rfl) | ⟨_, rfl⟩ | hy
  · exact ha
  · omega
  · omega
  · exact cl_mem hx y hy
theorem rowR_ok {w : Nat} {a : Int} {x : List Int} (ha : 0 ≤ a ∧ a ≤ 62) (hx : cl true x) (hw : x.length ≤ w) : RowOk (w + 2) (rowR w a x) := by
  unfold rowR
  refine ⟨by simp only [X3, Xz, X6, X8]; omega, ⟨x.getD 0 0, by simp only [X07]; exact .inr (.inl (getD_mem (cl_ne hx))), cl_first hx⟩, fun y hy => ?_⟩
  simp only [X07, X08, X13, or_false, X1b] at hy
  rcases hy with (rfl | rfl) | hy | ⟨_, rfl⟩
  · exact ha
  · omega
  · exact cl_mem hx y hy
  · omega
theorem bar_ok (w : Nat) : RowOk (w + 2) (rp (w + 2) 36) := by
  refine ⟨Xz, ⟨36, by rw [X1b]; exact ⟨by omega, rfl⟩, by decide⟩, fun y hy => ?_⟩
  rw [X1b] at hy
  omega
def msum (c : Nat) (w : Nat → Nat) : Nat → Nat
  | 0 => 2
  | j + 1 => msum c w j + (w j + (if j + 1 < c then 2 else 0))
theorem mpre_sum {l : List (List Int)} {r c : Nat} {w : Nat → Nat} (hw : WOk l r c w) {i : Nat} (hi : i < r) : ∀ j, j ≤ c → (mpre l c w i j).length = msum c w j
  | 0, _ => rfl
  | j + 1, h => by
    rw [mpre_succ, X3, mcell_len hw hi (by omega), mpre_sum hw hi j (by omega)]; rfl
theorem mpre_mem {l : List (List Int)} {r c : Nat} {w : Nat → Nat} (hl : l.length = r * c) (hcl : ∀ x ∈ l, cl true x) {i : Nat} (hi : i < r) : ∀ j, j ≤ c → ∀ x ∈ mpre l c w i j, 0 ≤ x ∧ x ≤ 62
  | 0, _, x, hx => by
    simp only [mpre, List.range_zero, X0y, X0f, X0h, X08, X13, or_false] at hx
    omega
  | j + 1, h, x, hx => by
    rw [mpre_succ, X07] at hx
    rcases hx with hx | hx
    · exact mpre_mem hl hcl hi j (by omega) x hx
    · unfold mcell at hx
      simp only [X07, X1b] at hx
      rcases hx with hx | ⟨_, rfl⟩ | hx
      · exact cl_mem (hcl _ (getD_mem (mat_lt hl hi (by omega)))) x hx
      · omega
      · split at hx
        · simp only [X08, X13, or_false] at hx; omega
        · simp at hx
theorem rows_ok (F : Fml f n ks d) (h : n.Op = 12 ∨ n.Op = 13 ∨ n.Op = 6) : ∃ W, ∀ row ∈ Y4x n (ks.map fun k => k.cells []), RowOk W row := by
  have hcl := F.clean
  have hs := F.sml
  generalize hl0 : (ks.map fun k => k.cells []) = l at *
  have hlen : l.length = ks.length := by rw [← hl0, Xj]
  unfold Y4x
  split
  · rename_i h12
    have := ar_tab F.ar h12
    refine ⟨mx l + 2, fun row hr => ?_⟩
    unfold sumRows at hr
    simp only [X07, Xx, X08, X13, or_false] at hr
    rcases hr with ⟨x, hx, rfl⟩ | rfl | rfl
    · have hx' := X0v hx
      exact rowL_ok (by omega) (hcl x hx') (mx_le hx')
    · exact bar_ok _
    · have hx := getD_mem (d := []) (by omega : l.length - 1 < l.length)
      exact rowL_ok (by omega) (hcl _ hx) (mx_le hx)
  · split
    · rename_i h13
      obtain ⟨r, c, e1, e2, e3, e4, e5, e6, e7, e8, e9⟩ := mat_dims F.ar h13
      rw [← e3, ← e4]
      have hl : l.length = r * c := by rw [hlen]; exact e9
      have hw := cm_ok hl e7 hs
      refine ⟨msum c (cm l c l.length) c + 2, fun row hr => ?_⟩
      unfold Y2y at hr
      obtain ⟨i, hi, rfl⟩ := Xx.1 hr
      rw [Xk] at hi
      unfold mrow
      refine ⟨by rw [X3, mpre_sum hw hi c (Xh _)]; rfl, ⟨62, by simp, by decide⟩, fun x hx => ?_⟩
      rw [X07] at hx
      rcases hx with hx | hx
      · exact mpre_mem hl hcl hi c (Xh _) x hx
      · simp only [X08, X13, or_false] at hx; omega
    · have h6 : ks.length = 2 := ar_two F.ar (by omega) (by omega)
      refine ⟨mx l + 2, fun row hr => ?_⟩
      have x0 := getD_mem (d := []) (by omega : 0 < l.length)
      have x1 := getD_mem (d := []) (by omega : 1 < l.length)
      unfold fracRows at hr
      simp only [X08, X13, or_false] at hr
      rcases hr with rfl | rfl | rfl
      · exact rowR_ok (by omega) (hcl _ x0) (mx_le x0)
      · exact bar_ok _
      · exact rowR_ok (by omega) (hcl _ x1) (mx_le x1)
theorem rows_len (F : Fml f n ks d) (h : n.Op = 12 ∨ n.Op = 13 ∨ n.Op = 6) : (n.Op = 12 → ((Y4x n (ks.map fun k => k.cells [])).length : Int) = n.N + 2) ∧ (n.Op = 13 → ((Y4x n (ks.map fun k => k.cells [])).length : Int) = Int.tdiv n.N 8) ∧ (n.Op = 6 → (Y4x n (ks.map fun k => k.cells [])).length = 3) := by
  refine ⟨fun e => ?_, fun e => ?_, fun e => ?_⟩
  · have := ar_tab F.ar e
    unfold Y4x sumRows
    rw [if_pos e]
    simp only [X3, Xj, Xw, X6, X8]
    omega
  · obtain ⟨r, c, e1, e2, e3, e4, e5, e6, e7, e8, e9⟩ := mat_dims F.ar e
    unfold Y4x
    rw [if_neg (by omega), if_pos e, matRows_len, ← e3, e1]
  · unfold Y4x
    rw [if_neg (by omega), if_neg (by omega)]; rfl
theorem rows_small (F : Fml f n ks d) (h : n.Op = 12 ∨ n.Op = 13 ∨ n.Op = 6) : (Y4x n (ks.map fun k => k.cells [])).length ≤ 10 := by
  obtain ⟨h1, h2, h3⟩ := rows_len F h
  rcases h with e | e | e
  · have := ar_tab F.ar e; have := h1 e; omega
  · obtain ⟨r, c, e1, e2, e3, e4, e5, e6, e7, e8, e9⟩ := mat_dims F.ar e
    have := h2 e; omega
  · have := h3 e; omega
end
/- Trim. -/
theorem plain_SpatialMatchesReference {t0 : Y4v} {t1 : Int} (h0 : okS_Raw t0) (h1 : okInt .u8 t1) : Y21 t0 t1 = some true := by
  obtain ⟨f, e1, e2⟩ := Made_ok h0
  obtain ⟨q1, q2, q3⟩ := e2.okN
  have h1' : 0 ≤ t1 ∧ t1 ≤ 255 := h1
  have em : Int.tmod (IntKind.wrap .i64 t1) (f.length : Int) = t1 % (f.length : Int) := by rw [wrap_i64 (by omega), tmod_n h1'.1]
  have hm1 := Int.emod_nonneg t1 (by omega : (f.length : Int) ≠ 0)
  have hm2 := Int.emod_lt_of_pos t1 (by omega : (0 : Int) < (f.length : Int))
  obtain ⟨k, hk⟩ := nat_of hm1
  have all : ∀ i, i < 3 → ∀ n ∈ ([f, f.take k, f.drop k] : List (List Y4)).getD i [], okN n := by
    intro i hi
    rcases (by omega : i = 0 ∨ i = 1 ∨ i = 2) with rfl | rfl | rfl
    · exact q1
    · exact fun n hn => q1 n (X0v hn)
    · exact fun n hn => q1 n (X18 hn)
  have agree : ∀ g : List Y4, (∀ n ∈ g, okN n) → ∃ rows e, Y2s g = some (rows, e) ∧ Y5o g = some (rows, e) ∧ Y5y rows rows = some true := by
    intro g hg
    rcases Lays_agree hg with ⟨a1, a2, _⟩ | ⟨n, ks, d, F, a1, a2⟩
    · exact ⟨[], 90, a1, a2, Equal_self (by simp) (by simp)⟩
    · have key : Y5y (layOf n (ks.map fun k => k.cells [])).1 (layOf n (ks.map fun k => k.cells [])).1 = some true := by
        unfold layOf
        split
        · rename_i hop
          unfold chk
          split
          · exact Equal_self (by simp) (by simp)
          · rename_i h24
            obtain ⟨W, hW⟩ := rows_ok F hop
            have hp := rows_pos F hop
            have w0 := (hW _ (getD_mem (d := []) hp)).1
            have hsm := rows_small F hop
            generalize Y4x n (ks.map fun k => k.cells []) = rows at *
            exact Equal_self (a := rows) (by omega) (fun x hx => by have := (hW x hx).1; omega)
        · exact Equal_self (by simp) (by simp)
      generalize layOf n (ks.map fun k => k.cells []) = q at a1 a2 key
      obtain ⟨rows, e⟩ := q
      exact ⟨rows, e, a1, a2, key⟩
  unfold Y21
  have hs : f_L11_sanity = some true := rfl
  rw [hs, X0, e1, X0, em, hk, Y0a (by omega), Y0a (by omega)]
  refine Y32 (fun i => (i : Int)) 3 _ (by omega) (fun loop i hi => ?_) fun loop => ?_
  · unfold Y11
    rw [em, hk, Xa, Y0i (by show (i : Int) < 3; omega), Y0a (by show 0 ≤ (i : Int) ∧ (i : Int) < 3; omega), Xa]
    obtain ⟨rows, e, r1, r2, r3⟩ := agree _ (all i hi)
    rw [r1, X0, r2, X0, r3, X0]
    have c0 : (bif !true then true else e != e) = false := by
      show (e != e) = false
      exact bne_self_eq_false e
    have fits1 : Y5n (([f, f.take k, f.drop k] : List (List Y4)).getD i []) = some (e == 0) := by unfold Y5n; rw [r1]; rfl
    have fits2 : f_R11_Fits (([f, f.take k, f.drop k] : List (List Y4)).getD i []) = some (e == 0) := by unfold f_R11_Fits; rw [r2]; rfl
    rw [c0, show (!false) = true from rfl, cond_true, cond_true, fits1, X0, fits2, X0, cond_false, bne_self_eq_false, cond_false, Y0g (by omega)]
    rfl
  · unfold Y11
    rw [em, hk, Y0e (by show ¬ ((3 : Nat) : Int) < 3; omega)]
/- Chains of sums. -/
end Go.Proofs.YtioockkejhpleaaDoor
