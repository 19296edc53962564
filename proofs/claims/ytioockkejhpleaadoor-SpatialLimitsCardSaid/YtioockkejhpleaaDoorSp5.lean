/-
  Own work. SpatialMatchesReference, SpatialForm, SpatialLimits.
-/
import Derived.Test.YtioockkejhpleaaDoorSp5a
set_option linter.unusedSimpArgs false
set_option linter.unusedVariables false
set_option linter.unusedSimpArgs false
set_option linter.unusedVariables false
namespace Go.Proofs.YtioockkejhpleaaDoor
open Go.Abs
theorem cells_cl {K : Tr} {d : Nat} (hK : K.good d) (hd : d ≤ 8) (hl : K.flat.length ≤ 60) : cl true (K.cells []) := by
  obtain ⟨o, q1, q2, q3⟩ := Write_ok (good_IsT d K hK) hd hl
  rw [(Write_cells hK hd hl).1] at q1
  have := Option.some.inj q1
  simp only [Prod.mk.injEq, and_true] at this
  rw [this]; exact q2
section
variable {f : List S_Node} {n : S_Node} {ks : List Tr} {d : Nat}
theorem Fml.clean (F : Fml f n ks d) : ∀ x ∈ ks.map fun k => k.cells [], cl true x := by
  intro x hx
  obtain ⟨K, hK, rfl⟩ := List.mem_map.1 hx
  obtain ⟨i, hi, rfl⟩ := List.mem_iff_getElem.1 hK
  obtain ⟨K', e1, e2, e3, e4, e5, e6, e7⟩ := F.at hi
  rw [List.getElem?_eq_getElem hi, Option.some.injEq] at e1
  rw [e1]
  exact cells_cl e2 (by have := F.d7; omega) e5
end
/- Trim. -/
theorem ar_N {n : S_Node} {k : Nat} (h : ar n = some k) : 0 ≤ n.N ∧ n.N ≤ 99999 := by
  unfold ar at h
  split at h
  · split at h
    · omega
    · cases h
  · split at h
    · split at h
      · omega
      · cases h
    · split at h
      · split at h
        · omega
        · cases h
      · split at h
        · split at h
          · omega
          · cases h
        · split at h
          · split at h
            · omega
            · cases h
          · split at h
            · split at h
              · omega
              · cases h
            · cases h
/- Chains of sums. -/
def chain (v k : Int) (m : Nat) : List S_Node := List.replicate m (⟨2, 0⟩ : S_Node) ++ [(⟨1, v⟩ : S_Node)] ++ List.replicate m (⟨0, k⟩ : S_Node)
theorem chain_len (v k : Int) (m : Nat) : (chain v k m).length = 2 * m + 1 := by
  unfold chain
  simp only [List.length_append, List.length_replicate, List.length_cons, List.length_nil]; omega
theorem chain_succ (v k : Int) (m : Nat) : ([(⟨(2 : Int), (0 : Int)⟩ : S_Node)] ++ chain v k m) ++ [(⟨(0 : Int), k⟩ : S_Node)] = chain v k (m + 1) := by
  unfold chain
  rw [List.replicate_succ, List.replicate_succ' (n := m) (a := (⟨0, k⟩ : S_Node))]
  simp [List.append_assoc]
theorem chain_okN {v k : Int} (hv : 0 ≤ v ∧ v ≤ 255) (hk : 0 ≤ k ∧ k ≤ 255) (m : Nat) : ∀ n ∈ chain v k m, okN n := by
  intro n hn
  unfold chain at hn
  simp only [List.mem_append, List.mem_replicate, List.mem_cons, List.not_mem_nil, or_false] at hn
  rcases hn with (⟨_, rfl⟩ | rfl) | ⟨_, rfl⟩ <;> exact okN_of (by omega) (by omega)
theorem Lim_in {t0 t1 t2 : Int} (h2 : 0 ≤ t2 ∧ t2 ≤ 255) {v4 : Nat} (h4 : v4 < 2) {m : Nat} (hm : IntKind.wrap .i64 (([Int.tmod t0 13, Int.tmod t1 13] : List Int).getD v4 0) = (m : Int)) (hm12 : m ≤ 12) {v2 : List S_Node} (hv2 : v2.length ≤ 1000) {v3 : Nat} (loop5 : List S_Node × Int × Int → Option Bool) :
    iter (fun loop (s : List S_Node × List S_Node × Int) => f_L11_SpatialLimits_b1 t0 t1 t2 true loop5 (v3 : Int) (v4 : Int) loop s.1 s.2.1 s.2.2) 1000000 (v2, [(⟨(1 : Int), IntKind.wrap .i64 (Int.tmod t2 26)⟩ : S_Node)], (0 : Int)) = some true ∨
      ∃ (T : Tr) (d : Nat), T.good d ∧ d ≤ 8 ∧ T.flat.length ≤ 60 ∧ iter (fun loop (s : List S_Node × List S_Node × Int) => f_L11_SpatialLimits_b1 t0 t1 t2 true loop5 (v3 : Int) (v4 : Int) loop s.1 s.2.1 s.2.2) 1000000 (v2, [(⟨(1 : Int), IntKind.wrap .i64 (Int.tmod t2 26)⟩ : S_Node)], (0 : Int)) = loop5 (v2 ++ T.flat, ((max v3 (T.cells []).length : Nat) : Int), ((v4 + 1 : Nat) : Int)) := by
  have ev : IntKind.wrap .i64 (Int.tmod t2 26) = t2 % 26 := by rw [tmod_n h2.1, wrap_i64 (by omega)]
  have ek : IntKind.wrap .i64 t2 = t2 := wrap_i64 (by omega)
  have hN := chain_okN (v := t2 % 26) (k := t2) (by omega) h2 m
  have hlen := chain_len (t2 % 26) t2 m
  rw [ev]
  have run : ∀ out : Option Bool, (∀ loop : List S_Node × List S_Node × Int → Option Bool, f_L11_SpatialLimits_b1 t0 t1 t2 true loop5 (v3 : Int) (v4 : Int) loop v2 (chain (t2 % 26) t2 m) (m : Int) = out) → iter (fun loop (s : List S_Node × List S_Node × Int) => f_L11_SpatialLimits_b1 t0 t1 t2 true loop5 (v3 : Int) (v4 : Int) loop s.1 s.2.1 s.2.2) 1000000 (v2, [(⟨(1 : Int), t2 % 26⟩ : S_Node)], (0 : Int)) = out := by
    intro out ho
    refine loop_up (fun j => (v2, chain (t2 % 26) t2 j, (j : Int))) m out (by omega) (fun loop j hj => ?_) ho
    show f_L11_SpatialLimits_b1 t0 t1 t2 true loop5 (v3 : Int) (v4 : Int) loop v2 (chain (t2 % 26) t2 j) (j : Int) = _
    have hl := chain_len (t2 % 26) t2 j
    unfold f_L11_SpatialLimits_b1
    rw [Int.toNat_natCast, G_pos (by show 0 ≤ (v4 : Int) ∧ (v4 : Int) < 2; omega), hm, cd_pos (by omega), G_room (by rw [hl]; simp only [List.length_cons, List.length_nil]; omega), G_room (by rw [List.length_append, hl]; simp only [List.length_cons, List.length_nil]; omega), G_inR (by omega), ek, chain_succ]
    rfl
  have fin : ∀ loop : List S_Node × List S_Node × Int → Option Bool, f_L11_SpatialLimits_b1 t0 t1 t2 true loop5 (v3 : Int) (v4 : Int) loop v2 (chain (t2 % 26) t2 m) (m : Int) = (f_R09_Valid (chain (t2 % 26) t2 m)).bind fun x16 => cond (!x16) (some true) ((f_R10_Write (chain (t2 % 26) t2 m)).bind fun x18 => cond (x18.2 != (0 : Int)) (some true) (loop5 (v2 ++ chain (t2 % 26) t2 m, (if (x18.1.length : Int) > (v3 : Int) then (x18.1.length : Int) else (v3 : Int)), ((v4 + 1 : Nat) : Int)))) := by
    intro loop
    unfold f_L11_SpatialLimits_b1
    rw [Int.toNat_natCast, G_pos (by show 0 ≤ (v4 : Int) ∧ (v4 : Int) < 2; omega), hm, cd_neg (by omega)]
    have r1 : room 16 (v2.length + (chain (t2 % 26) t2 m).length) := room_of (by omega)
    have r2 : inR ((v4 : Int) + 1) := inR_of (by omega)
    simp only [G_pos r1, G_pos r2]
    rfl
  rcases Writes_agree hN with ⟨_, _, a3⟩ | ⟨T, d, eT, gT, h8, h60, a1, a2⟩
  · refine .inl (run _ fun loop => ?_)
    rw [fin, a3, Option.bind_some]; rfl
  · refine .inr ⟨T, d, gT, h8, by rw [eT]; exact h60, run _ fun loop => ?_⟩
    have hv : f_R09_Valid (chain (t2 % 26) t2 m) = some true := by
      rw [← eT, R09_Valid_ok (good_IsT d T gT) h8 (by rw [eT]; omega), eT, decide_eq_true h60]
    rw [fin, hv, Option.bind_some, a2, Option.bind_some, show (!true) = false from rfl, cond_false, cn_neg rfl, if_max, eT]
theorem plain_SpatialLimits {t0 t1 t2 : Int} (h0 : okInt .u8 t0) (h1 : okInt .u8 t1) (h2 : okInt .u8 t2) : f_L11_SpatialLimits t0 t1 t2 = some true := by
  have g0 : 0 ≤ t0 ∧ t0 ≤ 255 := h0
  have g1 : 0 ≤ t1 ∧ t1 ≤ 255 := h1
  have g2 : 0 ≤ t2 ∧ t2 ≤ 255 := h2
  obtain ⟨m0, hm0⟩ := nat_of (by omega : 0 ≤ t0 % 13)
  obtain ⟨m1, hm1⟩ := nat_of (by omega : 0 ≤ t1 % 13)
  have e0 : IntKind.wrap .i64 (([Int.tmod t0 13, Int.tmod t1 13] : List Int).getD 0 0) = (m0 : Int) := by
    show IntKind.wrap .i64 (Int.tmod t0 13) = _
    rw [tmod_n g0.1, wrap_i64 (by omega), hm0]
  have e1 : IntKind.wrap .i64 (([Int.tmod t0 13, Int.tmod t1 13] : List Int).getD 1 0) = (m1 : Int) := by
    show IntKind.wrap .i64 (Int.tmod t1 13) = _
    rw [tmod_n g1.1, wrap_i64 (by omega), hm1]
  unfold f_L11_SpatialLimits
  have hs : f_L11_sanity = some true := rfl
  rw [hs, Option.bind_some, show (1000000 : Nat) = 999999 + 1 from rfl, iter_succ]
  show f_L11_SpatialLimits_b2 t0 t1 t2 true _ [(⟨(6 : Int), (0 : Int)⟩ : S_Node)] ((0 : Nat) : Int) ((0 : Nat) : Int) = _
  rw [show (999999 : Nat) = 999998 + 1 from rfl]
  unfold f_L11_SpatialLimits_b2
  rw [cd_pos (by omega)]
  have hl0 : ([(⟨(6 : Int), (0 : Int)⟩ : S_Node)]).length ≤ 1000 := by decide
  rcases Lim_in g2 (by omega) e0 (by omega) hl0 (v3 := 0) (iter (fun loop (s : List S_Node × Int × Int) => f_L11_SpatialLimits_b2 t0 t1 t2 true loop s.1 s.2.1 s.2.2) (999998 + 1)) with hA | ⟨T1, d1, gT1, h81, hl1, hA⟩
  · exact hA
  refine hA.trans ?_
  rw [iter_succ]
  show f_L11_SpatialLimits_b2 t0 t1 t2 true _ ([(⟨(6 : Int), (0 : Int)⟩ : S_Node)] ++ T1.flat) ((max 0 (T1.cells []).length : Nat) : Int) ((1 : Nat) : Int) = _
  rw [show (999998 : Nat) = 999997 + 1 from rfl]
  unfold f_L11_SpatialLimits_b2
  rw [cd_pos (by omega)]
  have hl3 : ([(⟨(6 : Int), (0 : Int)⟩ : S_Node)] ++ T1.flat).length ≤ 1000 := by
    simp only [List.length_append, List.length_cons, List.length_nil]; omega
  rcases Lim_in g2 (by omega) e1 (by omega) hl3 (v3 := max 0 (T1.cells []).length) (iter (fun loop (s : List S_Node × Int × Int) => f_L11_SpatialLimits_b2 t0 t1 t2 true loop s.1 s.2.1 s.2.2) (999997 + 1)) with hB | ⟨T2, d2, gT2, h82, hl2, hB⟩
  · exact hB
  refine hB.trans ?_
  rw [iter_succ]
  show f_L11_SpatialLimits_b2 t0 t1 t2 true _ (([(⟨(6 : Int), (0 : Int)⟩ : S_Node)] ++ T1.flat) ++ T2.flat) ((max (max 0 (T1.cells []).length) (T2.cells []).length : Nat) : Int) ((2 : Nat) : Int) = _
  unfold f_L11_SpatialLimits_b2
  rw [cd_neg (by omega)]
  have okT : ∀ (T : Tr) (d : Nat), T.good d → ∀ n ∈ T.flat, okN n := by
    have key : ∀ (d : Nat) (T : Tr), T.good d → ∀ n ∈ T.flat, okN n := by
      intro d
      induction d with
      | zero => intro T h; cases T; exact h.elim
      | succ d ih =>
        intro T h n hn
        cases T with
        | node m ks =>
          rw [Tr.flat, flatL_map] at hn
          rcases List.mem_cons.1 hn with rfl | hn
          · have hN := ar_N h.1
            have hO := ar_cases h.1
            exact ⟨⟨by omega, by omega⟩, by omega, by omega⟩
          · obtain ⟨l, hl, hn⟩ := List.mem_flatten.1 hn
            obtain ⟨K, hK, rfl⟩ := List.mem_map.1 hl
            exact ih K (goodL_iff.1 h.2.1 K hK) n hn
    exact fun T d => key d T
  have hN : ∀ n ∈ ([(⟨(6 : Int), (0 : Int)⟩ : S_Node)] ++ T1.flat) ++ T2.flat, okN n := by
    intro n hn
    simp only [List.mem_append, List.mem_cons, List.not_mem_nil, or_false] at hn
    rcases hn with (rfl | hn) | hn
    · exact okN_of (by omega) (by omega)
    · exact okT T1 d1 gT1 n hn
    · exact okT T2 d2 gT2 n hn
  rcases Lays_agree hN with ⟨_, _, a3⟩ | ⟨n, ks, d, F, a1, a2⟩
  · rw [a3, Option.bind_some]; rfl
  · rw [F.validR, Option.bind_some]
    have hop : n = ⟨6, 0⟩ := by
      have := F.eq
      rw [List.append_assoc, List.singleton_append, List.cons.injEq] at this
      exact this.1.symm
    have hfl : (ks.map Tr.flat).flatten = [T1.flat, T2.flat].flatten := by
      have := F.eq
      rw [List.append_assoc, List.singleton_append, List.cons.injEq] at this
      rw [← flatL_map, ← this.2]; simp
    have hlen := F.len
    simp only [List.length_append, List.length_cons, List.length_nil] at hlen
    have hb : ∀ b ∈ [T1.flat, T2.flat], IsT 8 b := by
      intro b hb
      simp only [List.mem_cons, List.not_mem_nil, or_false] at hb
      rcases hb with rfl | rfl
      · exact (good_IsT d1 T1 gT1).le h81
      · exact (good_IsT d2 T2 gT2).le h82
    have hk := flatten_inj _ _ F.kids hb hfl (by rw [hfl]; simp; omega)
    have hk2 : ks.length = 2 := by
      have := congrArg List.length hk
      rw [List.length_map] at this
      exact this
    obtain ⟨A, B, rfl⟩ : ∃ A B, ks = [A, B] := by
      match ks, hk2 with
      | [A, B], _ => exact ⟨A, B, rfl⟩
    simp only [List.map_cons, List.map_nil, List.cons.injEq, and_true] at hk
    have gA := F.good.1
    have gB := F.good.2.1
    obtain rfl := good_inj _ _ _ _ gA gT1 hk.1 (by rw [hk.1]; omega)
    obtain rfl := good_inj _ _ _ _ gB gT2 hk.2 (by rw [hk.2]; omega)
    have hcl := F.clean
    have fits : f_spatial_Fits (([(⟨(6 : Int), (0 : Int)⟩ : S_Node)] ++ A.flat) ++ B.flat) = some (decide (max (A.cells []).length (B.cells []).length ≤ 22)) := by
      unfold f_spatial_Fits
      rw [a1, Option.bind_some, hop]
      have em : mx [A.cells [], B.cells []] = max (A.cells []).length (B.cells []).length := by
        show max (max 0 _) _ = _; omega
      have el : ((fracRows [A.cells [], B.cells []]).getD 0 []).length = max (A.cells []).length (B.cells []).length + 2 := by
        show (rowR (mx [A.cells [], B.cells []]) 57 (A.cells [])).length = _
        rw [em]; unfold rowR
        simp only [List.length_append, List.length_replicate, List.length_cons, List.length_nil]; omega
      show some ((chk (fracRows [A.cells [], B.cells []])).2 == 0) = _
      unfold chk
      rw [el]
      by_cases h22 : max (A.cells []).length (B.cells []).length ≤ 22
      · rw [if_neg (by omega), decide_eq_true h22]; rfl
      · rw [if_pos (by omega), decide_eq_false h22]; rfl
    rw [show (!(!true)) = true from rfl, cond_true, fits, Option.bind_some, show (!true) = false from rfl, cond_false]
    have e22 : decide (max (A.cells []).length (B.cells []).length ≤ 22) = decide (((max (max 0 (A.cells []).length) (B.cells []).length : Nat) : Int) ≤ 22) := by
      by_cases h22 : max (A.cells []).length (B.cells []).length ≤ 22
      · rw [decide_eq_true h22, decide_eq_true (by omega)]
      · rw [decide_eq_false h22, decide_eq_false (by omega)]
    rw [e22, beq_self_eq_true]; rfl
end Go.Proofs.YtioockkejhpleaaDoor
