/-
  Own work. SpatialMatchesReference, SpatialForm, SpatialLimits.
-/
import Derived.Test.YtioockkejhpleaaDoorSp5a
set_option linter.unusedSimpArgs false
set_option linter.unusedVariables false
set_option linter.unusedSimpArgs false
set_option linter.unusedVariables false
namespace Go.Proofs.YtioockkejhpleaaDoor
open Go.Abs
theorem cl_ne {o : List Int} (h : cl true o) : 0 < o.length := by
  cases o with
  | nil => cases h
  | cons x r => simp
theorem cl_first {o : List Int} (h : cl true o) : o.getD 0 0 ≠ 0 := fun e => by
  have := (cl_get o true h 0 (cl_ne h)).2.2 e
  have := this.2.1 rfl
  cases this
theorem cl_mem {o : List Int} (h : cl true o) : ∀ x ∈ o, 0 ≤ x ∧ x ≤ 62 := fun x hx => by
  obtain ⟨i, hi, rfl⟩ := List.mem_iff_getElem.1 hx
  have := cl_get o true h i hi
  rw [List.getD_eq_getElem?_getD, List.getElem?_eq_getElem hi] at this
  exact ⟨this.1, this.2.1⟩
theorem cells_cl {K : Tr} {d : Nat} (hK : K.good d) (hd : d ≤ 8) (hl : K.flat.length ≤ 60) : cl true (K.cells []) := by
  obtain ⟨o, q1, q2, q3⟩ := Write_ok (good_IsT d K hK) hd hl
  rw [(Write_cells hK hd hl).1] at q1
  have := Option.some.inj q1
  simp only [Prod.mk.injEq, and_true] at this
  rw [this]; exact q2
section
variable {f : List S_Node} {n : S_Node} {ks : List Tr} {d : Nat}
theorem Fml.clean (F : Fml f n ks d) : ∀ x ∈ ks.map fun k => k.cells [], cl true x := by
  intro x hx
  obtain ⟨K, hK, rfl⟩ := List.mem_map.1 hx
  obtain ⟨i, hi, rfl⟩ := List.mem_iff_getElem.1 hK
  obtain ⟨K', e1, e2, e3, e4, e5, e6, e7⟩ := F.at hi
  rw [List.getElem?_eq_getElem hi, Option.some.injEq] at e1
  rw [e1]
  exact cells_cl e2 (by have := F.d7; omega) e5
def RowOk (W : Nat) (row : List Int) : Prop := row.length = W ∧ (∃ x ∈ row, x ≠ 0) ∧ ∀ x ∈ row, 0 ≤ x ∧ x ≤ 62
theorem rowL_ok {w : Nat} {a : Int} {x : List Int} (ha : 0 ≤ a ∧ a ≤ 62) (hx : cl true x) (hw : x.length ≤ w) : RowOk (w + 2) (rowL w a x) := by
  unfold rowL
  refine ⟨by simp only [List.length_append, List.length_replicate, List.length_cons, List.length_nil]; omega, ⟨x.getD 0 0, by simp only [List.mem_append]; exact .inr (.inr (getD_mem (cl_ne hx))), cl_first hx⟩, fun y hy => ?_⟩
  simp only [List.mem_append, List.mem_cons, List.not_mem_nil, or_false, List.mem_replicate] at hy
  rcases hy with (rfl | rfl) | ⟨_, rfl⟩ | hy
  · exact ha
  · omega
  · omega
  · exact cl_mem hx y hy
theorem rowR_ok {w : Nat} {a : Int} {x : List Int} (ha : 0 ≤ a ∧ a ≤ 62) (hx : cl true x) (hw : x.length ≤ w) : RowOk (w + 2) (rowR w a x) := by
  unfold rowR
  refine ⟨by simp only [List.length_append, List.length_replicate, List.length_cons, List.length_nil]; omega, ⟨x.getD 0 0, by simp only [List.mem_append]; exact .inr (.inl (getD_mem (cl_ne hx))), cl_first hx⟩, fun y hy => ?_⟩
  simp only [List.mem_append, List.mem_cons, List.not_mem_nil, or_false, List.mem_replicate] at hy
  rcases hy with (rfl | rfl) | hy | ⟨_, rfl⟩
  · exact ha
  · omega
  · exact cl_mem hx y hy
  · omega
theorem bar_ok (w : Nat) : RowOk (w + 2) (rp (w + 2) 36) := by
  refine ⟨List.length_replicate, ⟨36, by rw [List.mem_replicate]; exact ⟨by omega, rfl⟩, by decide⟩, fun y hy => ?_⟩
  rw [List.mem_replicate] at hy
  omega
def msum (c : Nat) (w : Nat → Nat) : Nat → Nat
  | 0 => 2
  | j + 1 => msum c w j + (w j + (if j + 1 < c then 2 else 0))
theorem mpre_sum {l : List (List Int)} {r c : Nat} {w : Nat → Nat} (hw : WOk l r c w) {i : Nat} (hi : i < r) : ∀ j, j ≤ c → (mpre l c w i j).length = msum c w j
  | 0, _ => rfl
  | j + 1, h => by
    rw [mpre_succ, List.length_append, mcell_len hw hi (by omega), mpre_sum hw hi j (by omega)]; rfl
theorem mpre_mem {l : List (List Int)} {r c : Nat} {w : Nat → Nat} (hl : l.length = r * c) (hcl : ∀ x ∈ l, cl true x) {i : Nat} (hi : i < r) : ∀ j, j ≤ c → ∀ x ∈ mpre l c w i j, 0 ≤ x ∧ x ≤ 62
  | 0, _, x, hx => by
    simp only [mpre, List.range_zero, List.map_nil, List.flatten_nil, List.append_nil, List.mem_cons, List.not_mem_nil, or_false] at hx
    omega
  | j + 1, h, x, hx => by
    rw [mpre_succ, List.mem_append] at hx
    rcases hx with hx | hx
    · exact mpre_mem hl hcl hi j (by omega) x hx
    · unfold mcell at hx
      simp only [List.mem_append, List.mem_replicate] at hx
      rcases hx with hx | ⟨_, rfl⟩ | hx
      · exact cl_mem (hcl _ (getD_mem (mat_lt hl hi (by omega)))) x hx
      · omega
      · split at hx
        · simp only [List.mem_cons, List.not_mem_nil, or_false] at hx; omega
        · simp at hx
theorem rows_ok (F : Fml f n ks d) (h : n.Op = 12 ∨ n.Op = 13 ∨ n.Op = 6) : ∃ W, ∀ row ∈ rowsOf n (ks.map fun k => k.cells []), RowOk W row := by
  have hcl := F.clean
  have hs := F.sml
  generalize hl0 : (ks.map fun k => k.cells []) = l at *
  have hlen : l.length = ks.length := by rw [← hl0, List.length_map]
  unfold rowsOf
  split
  · rename_i h12
    have := ar_tab F.ar h12
    refine ⟨mx l + 2, fun row hr => ?_⟩
    unfold sumRows at hr
    simp only [List.mem_append, List.mem_map, List.mem_cons, List.not_mem_nil, or_false] at hr
    rcases hr with ⟨x, hx, rfl⟩ | rfl | rfl
    · have hx' := List.mem_of_mem_take hx
      exact rowL_ok (by omega) (hcl x hx') (mx_le hx')
    · exact bar_ok _
    · have hx := getD_mem (d := []) (by omega : l.length - 1 < l.length)
      exact rowL_ok (by omega) (hcl _ hx) (mx_le hx)
  · split
    · rename_i h13
      obtain ⟨r, c, e1, e2, e3, e4, e5, e6, e7, e8, e9⟩ := mat_dims F.ar h13
      rw [← e3, ← e4]
      have hl : l.length = r * c := by rw [hlen]; exact e9
      have hw := cm_ok hl e7 hs
      refine ⟨msum c (cm l c l.length) c + 2, fun row hr => ?_⟩
      unfold matRows at hr
      obtain ⟨i, hi, rfl⟩ := List.mem_map.1 hr
      rw [List.mem_range] at hi
      unfold mrow
      refine ⟨by rw [List.length_append, mpre_sum hw hi c (Nat.le_refl _)]; rfl, ⟨62, by simp, by decide⟩, fun x hx => ?_⟩
      rw [List.mem_append] at hx
      rcases hx with hx | hx
      · exact mpre_mem hl hcl hi c (Nat.le_refl _) x hx
      · simp only [List.mem_cons, List.not_mem_nil, or_false] at hx; omega
    · have h6 : ks.length = 2 := ar_two F.ar (by omega) (by omega)
      refine ⟨mx l + 2, fun row hr => ?_⟩
      have x0 := getD_mem (d := []) (by omega : 0 < l.length)
      have x1 := getD_mem (d := []) (by omega : 1 < l.length)
      unfold fracRows at hr
      simp only [List.mem_cons, List.not_mem_nil, or_false] at hr
      rcases hr with rfl | rfl | rfl
      · exact rowR_ok (by omega) (hcl _ x0) (mx_le x0)
      · exact bar_ok _
      · exact rowR_ok (by omega) (hcl _ x1) (mx_le x1)
theorem rows_len (F : Fml f n ks d) (h : n.Op = 12 ∨ n.Op = 13 ∨ n.Op = 6) : (n.Op = 12 → ((rowsOf n (ks.map fun k => k.cells [])).length : Int) = n.N + 2) ∧ (n.Op = 13 → ((rowsOf n (ks.map fun k => k.cells [])).length : Int) = Int.tdiv n.N 8) ∧ (n.Op = 6 → (rowsOf n (ks.map fun k => k.cells [])).length = 3) := by
  refine ⟨fun e => ?_, fun e => ?_, fun e => ?_⟩
  · have := ar_tab F.ar e
    unfold rowsOf sumRows
    rw [if_pos e]
    simp only [List.length_append, List.length_map, List.length_take, List.length_cons, List.length_nil]
    omega
  · obtain ⟨r, c, e1, e2, e3, e4, e5, e6, e7, e8, e9⟩ := mat_dims F.ar e
    unfold rowsOf
    rw [if_neg (by omega), if_pos e, matRows_len, ← e3, e1]
  · unfold rowsOf
    rw [if_neg (by omega), if_neg (by omega)]; rfl
theorem rows_small (F : Fml f n ks d) (h : n.Op = 12 ∨ n.Op = 13 ∨ n.Op = 6) : (rowsOf n (ks.map fun k => k.cells [])).length ≤ 10 := by
  obtain ⟨h1, h2, h3⟩ := rows_len F h
  rcases h with e | e | e
  · have := ar_tab F.ar e; have := h1 e; omega
  · obtain ⟨r, c, e1, e2, e3, e4, e5, e6, e7, e8, e9⟩ := mat_dims F.ar e
    have := h2 e; omega
  · have := h3 e; omega
end
/- Trim. -/
def tlen (t : List Int) : Nat → Nat
  | 0 => 0
  | k + 1 => if t.getD k 0 = 0 then tlen t k else k + 1
theorem tlen_gt {t : List Int} : ∀ k j, j < k → t.getD j 0 ≠ 0 → j < tlen t k
  | 0, j, h, _ => by omega
  | k + 1, j, h, hn => by
    unfold tlen
    split
    · rename_i e
      by_cases hj : j = k
      · subst hj; exact absurd e hn
      · exact tlen_gt k j (by omega) hn
    · omega
theorem Trim_ok {t : List Int} (hl : t.length ≤ 100000) : f_R11_Trim t = some (t.take (tlen t t.length)) := by
  have run : ∀ (k q : Nat), k ≤ t.length → iter (fun loop (s : Int) => f_R11_Trim_b1 t loop s) (q + 1 + k) (k : Int) = some (t.take (tlen t k)) := by
    intro k
    induction k with
    | zero =>
      intro q hk
      rw [Nat.add_zero, iter_succ]
      unfold f_R11_Trim_b1
      rw [G_pos (fun h => by have := of_decide_eq_true h; omega), G_pos (fun h => by have := of_decide_eq_true h; omega), decide_eq_false (by omega), cond_false, cond_false, G_pos (by omega)]
      rfl
    | succ k ih =>
      intro q hk
      rw [show q + 1 + (k + 1) = (q + 1 + k) + 1 by omega, iter_succ]
      unfold f_R11_Trim_b1
      rw [G_pos (fun h => inR_of (by omega)), G_pos (fun h => by omega), decide_eq_true (by omega), cond_true, show (((k + 1 : Nat) : Int) - 1).toNat = k by omega]
      unfold tlen
      by_cases h0 : t.getD k 0 = 0
      · rw [cb_pos h0, if_pos h0, G_inR (by omega), show ((k + 1 : Nat) : Int) - 1 = (k : Int) by omega]
        exact ih q (by omega)
      · rw [cb_neg h0, if_neg h0, G_pos (by omega), Int.toNat_natCast]
  have h := run t.length (999999 - t.length) (Nat.le_refl _)
  rw [show 999999 - t.length + 1 + t.length = 1000000 by omega] at h
  exact h
theorem ar_N {n : S_Node} {k : Nat} (h : ar n = some k) : 0 ≤ n.N ∧ n.N ≤ 99999 := by
  unfold ar at h
  split at h
  · split at h
    · omega
    · cases h
  · split at h
    · split at h
      · omega
      · cases h
    · split at h
      · split at h
        · omega
        · cases h
      · split at h
        · split at h
          · omega
          · cases h
        · split at h
          · split at h
            · omega
            · cases h
          · split at h
            · split at h
              · omega
              · cases h
            · cases h
theorem plain_SpatialForm {t0 : S_Raw} (h0 : okS_Raw t0) : f_L11_SpatialForm t0 = some true := by
  obtain ⟨f, e1, e2⟩ := Made_ok h0
  obtain ⟨q1, q2, q3⟩ := e2.okN
  unfold f_L11_SpatialForm
  have hs : f_L11_sanity = some true := rfl
  rw [hs, Option.bind_some, e1, Option.bind_some]
  rcases Lays_agree q1 with ⟨a1, a2, _⟩ | ⟨n, ks, d, F, a1, a2⟩
  · rw [a1, Option.bind_some]; rfl
  rw [a1, Option.bind_some]
  unfold layOf
  split
  case isFalse => rfl
  rename_i hop
  unfold chk
  split
  case isTrue => rfl
  rename_i h24
  have en : f.getD (0 : Int).toNat zS_Node = n := by rw [F.eq]; rfl
  obtain ⟨W, hW⟩ := rows_ok F hop
  have hp := rows_pos F hop
  have hsm := rows_small F hop
  obtain ⟨l1, l2, l3⟩ := rows_len F hop
  have w0 := (hW _ (getD_mem (d := []) hp)).1
  generalize rowsOf n (ks.map fun k => k.cells []) = rows at *
  have hN := ar_N F.ar
  have hdiv : Int.tdiv n.N 8 = n.N / 8 := Int.tdiv_eq_ediv_of_nonneg hN.1
  rw [cn_neg rfl, en]
  rw [cI_pos (by omega), cI_pos (by omega), cI_pos (inR_of (by omega)), cI_pos (by omega), cI_pos (by omega), cI_pos (inR_of (by omega)), cI_pos (by omega)]
  have b0 : ((rows.length : Int) == 0) = false := beq_eq_false_iff_ne.2 (by omega)
  have c1 : (bif n.Op == 13 then ((rows.length : Int) != Int.tdiv n.N 8) else false) = false := by
    by_cases e : n.Op = 13
    · rw [l2 e, bne_self_eq_false]; cases (n.Op == 13) <;> rfl
    · rw [beq_eq_false_iff_ne.2 e]; rfl
  have c2 : (bif n.Op == 12 then ((rows.length : Int) != n.N + 2) else false) = false := by
    by_cases e : n.Op = 12
    · rw [l1 e, bne_self_eq_false]; cases (n.Op == 12) <;> rfl
    · rw [beq_eq_false_iff_ne.2 e]; rfl
  have c3 : (bif n.Op == 6 then ((rows.length : Int) != 3) else false) = false := by
    by_cases e : n.Op = 6
    · rw [show (rows.length : Int) = 3 by have := l3 e; omega, bne_self_eq_false]; cases (n.Op == 6) <;> rfl
    · rw [beq_eq_false_iff_ne.2 e]; rfl
  rw [b0, c1, c2, c3, cond_false, cond_false, cond_false, cond_false]
  refine loop_up (fun i => (i : Int)) rows.length _ (by omega) (fun loop i hi => ?_) fun loop => ?_
  · obtain ⟨g1, ⟨y, g2, g3⟩, g4⟩ := hW _ (getD_mem (d := []) hi)
    unfold f_L11_SpatialForm_b2
    rw [show ((rows, (0 : Int)) : List (List Int) × Int).1 = rows from rfl, cd_pos (by omega), G_pos (by omega), G_pos (by omega), Int.toNat_natCast, show (0 : Int).toNat = 0 from rfl]
    have c4 : (bif (((rows.getD i []).length : Int) != ((rows.getD 0 []).length : Int)) then true else decide ((24 : Int) < ((rows.getD i []).length : Int))) = false := by
      rw [show ((rows.getD i []).length : Int) = ((rows.getD 0 []).length : Int) by rw [g1, w0], bne_self_eq_false, cond_false, decide_eq_false (by omega)]
    rw [c4, show (!false) = true from rfl, cond_true, Trim_ok (by omega), Option.bind_some, cond_false]
    have c5 : ((((rows.getD i []).take (tlen (rows.getD i []) (rows.getD i []).length)).length : Int) == 0) = false := by
      obtain ⟨j, hj, rfl⟩ := List.mem_iff_getElem.1 g2
      have := tlen_gt (t := rows.getD i []) (rows.getD i []).length j hj (by rw [List.getD_eq_getElem?_getD (l := rows.getD i []), List.getElem?_eq_getElem hj]; exact g3)
      rw [List.length_take]
      exact beq_eq_false_iff_ne.2 (by omega)
    rw [c5, cond_false]
    refine loop_up (fun j => (j : Int)) (rows.getD i []).length _ (by omega) (fun loop2 j hj => ?_) fun loop2 => ?_
    · unfold f_L11_SpatialForm_b1
      have := g4 _ (getD_mem (d := 0) hj)
      rw [show ((rows, (0 : Int)) : List (List Int) × Int).1 = rows from rfl, Int.toNat_natCast, Int.toNat_natCast, cd_pos (by omega), G_pos (by omega), cd_neg (by omega), G_inR (by omega)]; rfl
    · unfold f_L11_SpatialForm_b1
      rw [show ((rows, (0 : Int)) : List (List Int) × Int).1 = rows from rfl, Int.toNat_natCast, cd_neg (by omega), G_inR (by omega)]; rfl
  · unfold f_L11_SpatialForm_b2
    rw [show ((rows, (0 : Int)) : List (List Int) × Int).1 = rows from rfl, cd_neg (by omega)]
/- Chains of sums. -/
end Go.Proofs.YtioockkejhpleaaDoor
