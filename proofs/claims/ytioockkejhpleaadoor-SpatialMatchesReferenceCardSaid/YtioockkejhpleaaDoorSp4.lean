/- Own work. -/
import Derived.Test.YtioockkejhpleaaDoorSp3
set_option linter.unusedSimpArgs false
set_option linter.unusedVariables false
namespace Go.Proofs.YtioockkejhpleaaDoor
open Go.Abs
theorem slice_mid {α : Type} (pre k post : List α) : ((pre ++ k ++ post).drop pre.length).take (pre.length + k.length - pre.length) = k := by
  rw [Xe, List.drop_left, show pre.length + k.length - pre.length = k.length by omega, X0z]
theorem measure_at {f pre t post : List Y4} {d : Nat} (hl : f.length ≤ 100000) (hd : d ≤ 100) (ht : IsT d t) (hf : f = pre ++ t ++ post) : ∃ v : Int, Y24 f (pre.length : Int) = some (((pre.length + t.length : Nat) : Int), v, true) := by
  obtain ⟨v, _, _, h⟩ := measure_ok hl d t pre post (1000000 - d) hd ht hf
  rw [show 1000000 - d + d = 1000000 by omega] at h
  exact ⟨v, h⟩
structure Fml (f : List Y4) (n : Y4) (ks : List Tr) (d : Nat) : Prop where
  eq : f = n :: Y1z ks
  ar : ar n = some ks.length
  good : goodL d ks
  adm : ∀ (i : Nat) (k : Tr), ks[i]? = some k → adm n i (hd k.flat) = true
  d7 : d ≤ 7
  len : f.length ≤ 60
theorem Fml.of {T : Tr} {d : Nat} (h : T.good d) (hd : d ≤ 8) (hl : T.flat.length ≤ 60) : ∃ n ks e, T = .node n ks ∧ Fml T.flat n ks e := by
  match d, T, h with
  | 0, T, h => cases T; exact h.elim
  | e + 1, .node n ks, h => exact ⟨n, ks, e, rfl, rfl, h.1, h.2.1, h.2.2, by omega, hl⟩
section
variable {f : List Y4} {n : Y4} {ks : List Tr} {d : Nat}
theorem Fml.kids (F : Fml f n ks d) : ∀ k ∈ ks.map Tr.flat, IsT d k := by
  intro k hk
  obtain ⟨T, hT, rfl⟩ := Xx.1 hk
  exact Y5c d T (Y42.1 F.good T hT)
theorem Fml.tree (F : Fml f n ks d) : IsT (d + 1) f := by
  rw [F.eq]
  exact Y5c (d + 1) (.node n ks) ⟨F.ar, F.good, F.adm⟩
theorem Fml.valid (F : Fml f n ks d) : Y0y f = some true := Y5t F.tree (by have := F.d7; omega) F.len
theorem Fml.validR (F : Fml f n ks d) : Y34 f = some true := by
  rw [R09_Valid_ok F.tree (by have := F.d7; omega) (by have := F.len; omega), decide_eq_true F.len]
theorem Fml.at (F : Fml f n ks d) {i : Nat} (hi : i < ks.length) : ∃ k : Tr, ks[i]? = some k ∧ k.good d ∧ f = ([] ++ n :: ((ks.map Tr.flat).take i).flatten) ++ k.flat ++ (((ks.map Tr.flat).drop (i + 1)).flatten ++ []) ∧ ([] ++ n :: ((ks.map Tr.flat).take i).flatten).length = 1 + ((ks.map Tr.flat).take i).flatten.length ∧ k.flat.length ≤ 60 ∧
    (((ks.map Tr.flat).take (i + 1)).flatten.length = ((ks.map Tr.flat).take i).flatten.length + k.flat.length) ∧ 1 + ((ks.map Tr.flat).take i).flatten.length + k.flat.length ≤ f.length := by
  have hk : ks[i]? = some ks[i] := X7 hi
  have hg := Y42.1 F.good ks[i] (List.getElem_mem hi)
  have hf : f = [] ++ (n :: (ks.map Tr.flat).flatten) ++ [] := by rw [F.eq, flatL_map]; simp
  obtain ⟨h1, h2, h3, h4⟩ := kid_at hf F.kids (i := i) (k := ks[i].flat) (by rw [X00, hk]; rfl)
  have hlen := F.len
  have e1 : f.length = 1 + ((ks.map Tr.flat).take i).flatten.length + ks[i].flat.length + (((ks.map Tr.flat).drop (i + 1)).flatten).length := by
    conv => lhs; rw [h1]
    simp only [X3, X6, X8]; omega
  refine ⟨ks[i], hk, hg, h1, by rw [h2]; simp, by omega, ?_, by omega⟩
  rw [flat_take (ks.map Tr.flat) i (by simpa using hi), X3]
  congr 2
  rw [Xl, X00, hk]; rfl
theorem Fml.count (F : Fml f n ks d) : ks.length ≤ 16 := ar_le F.ar
theorem offs_snoc (kl : List (List Y4)) (p i : Nat) (h : i < kl.length) : offs p (kl.take (i + 1)) = offs p (kl.take i) ++ [((p + (kl.take i).flatten.length : Nat) : Int)] := by
  rw [take_snoc kl i [] h, offs_app]; rfl
theorem Fml.operands (F : Fml f n ks d) : Y3u f 0 = some (offs 1 (ks.map Tr.flat)) := by
  have hlen := F.len
  have h0 : 0 < f.length := by rw [F.eq]; simp
  have h16 := F.count
  unfold Y3u
  have c0 : (bif decide ((0 : Int) < 0) then true else decide ((f.length : Int) ≤ 0)) = false := by
    rw [decide_eq_false (by omega), cond_false, decide_eq_false (by omega)]
  rw [c0]
  show (Y0y f).bind _ = _
  rw [F.valid, X0]
  show G _ _ = _
  rw [Y0a (by omega)]
  have e0 : f.getD (0 : Int).toNat Yb = n := by rw [F.eq]; rfl
  rw [e0, formula_arity_ok F.ar, X0, Y0g (by omega)]
  refine Y32 (fun k => (offs 1 ((ks.map Tr.flat).take k), ((1 + ((ks.map Tr.flat).take k).flatten.length : Nat) : Int), (k : Int))) ks.length _ (by omega) (fun loop k hk => ?_) fun loop => ?_
  · show Y1f f _ loop (offs 1 ((ks.map Tr.flat).take k)) ((1 + ((ks.map Tr.flat).take k).flatten.length : Nat) : Int) (k : Int) = _
    obtain ⟨K, e1, e2, e3, e4, e5, e6, e7⟩ := F.at hk
    obtain ⟨v, hv⟩ := measure_at (by omega) (by have := F.d7; omega) (Y5c d K e2) e3
    rw [e4] at hv
    unfold Y1f
    rw [Y0i (by show (k : Int) < (ks.length : Int); omega), Y0j (by rw [Y36, Xw]; omega), hv, X0, Y0g (by omega)]
    show loop (_, _, _) = loop (offs 1 ((ks.map Tr.flat).take (k + 1)), ((1 + ((ks.map Tr.flat).take (k + 1)).flatten.length : Nat) : Int), ((k + 1 : Nat) : Int))
    rw [offs_snoc _ _ _ (by simpa using hk), e6, ← X0c]; rfl
  · show Y1f f _ loop _ _ _ = _
    unfold Y1f
    rw [Y0e (by show ¬ (ks.length : Int) < (ks.length : Int); omega), Xs (by simp)]
theorem Fml.end_ (F : Fml f n ks d) {i : Nat} (hi : i < ks.length) {K : Tr} (hK : ks[i]? = some K) : f_formula_End f ((1 + ((ks.map Tr.flat).take i).flatten.length : Nat) : Int) = some ((1 + ((ks.map Tr.flat).take i).flatten.length + K.flat.length : Nat) : Int) := by
  have hlen := F.len
  obtain ⟨K', e1, e2, e3, e4, e5, e6, e7⟩ := F.at hi
  obtain rfl : K' = K := by rw [hK] at e1; exact (X2 e1).symm
  have hpos := good_pos e2
  unfold f_formula_End
  have c0 : (bif decide (((1 + ((ks.map Tr.flat).take i).flatten.length : Nat) : Int) < 0) then true else decide ((f.length : Int) ≤ ((1 + ((ks.map Tr.flat).take i).flatten.length : Nat) : Int))) = false := by
    rw [decide_eq_false (by omega), cond_false, decide_eq_false (by omega)]
  rw [c0]
  show (Y0y f).bind _ = _
  rw [F.valid, X0]
  show Option.bind _ _ = _
  obtain ⟨v, hv⟩ := measure_at (by omega) (by have := F.d7; omega) (Y5c d K' e2) e3
  rw [e4] at hv
  rw [hv]; rfl
theorem map_snoc {α β : Type} (g : α → β) (l : List α) (i : Nat) (x : α) (h : l[i]? = some x) : (l.take (i + 1)).map g = (l.take i).map g ++ [g x] := by
  rw [List.take_add_one, h, X0t]; rfl
theorem Fml.cells (F : Fml f n ks d) : Y53 f = some (ks.map fun k => k.cells [], true) := by
  have h16 := F.count
  have hlen := F.len
  unfold Y53
  rw [F.operands, X0]
  refine Y32 (fun k => ((ks.take k).map fun k => k.cells [], (k : Int))) ks.length _ (by omega) (fun loop k hk => ?_) fun loop => ?_
  · show Y2e f _ loop ((ks.take k).map fun k => k.cells []) (k : Int) = _
    obtain ⟨K, e1, e2, e3, e4, e5, e6, e7⟩ := F.at hk
    have eo := offs_get (ks.map Tr.flat) 1 k (by simpa using hk)
    unfold Y2e
    rw [Y0i (by rw [Y36, Xj]; omega), Y0a (by rw [Y36, Xj]; omega), Xa, eo, F.end_ hk e1, X0, Y0a (by omega), Y0a (by omega), Xa, Xa]
    have es : (f.drop (1 + ((ks.map Tr.flat).take k).flatten.length)).take (1 + ((ks.map Tr.flat).take k).flatten.length + K.flat.length - (1 + ((ks.map Tr.flat).take k).flatten.length)) = K.flat := by
      have := slice_mid ([] ++ n :: ((ks.map Tr.flat).take k).flatten) K.flat (((ks.map Tr.flat).drop (k + 1)).flatten ++ [])
      rw [← e3, e4] at this
      exact this
    rw [es, (Write_cells e2 (by have := F.d7; omega) e5).1, X0, cn_neg rfl, Y0j (by rw [Xj, Xw]; omega), Y0g (by omega)]
    show _ = loop ((ks.take (k + 1)).map fun k => k.cells [], ((k + 1 : Nat) : Int))
    rw [map_snoc _ ks k K e1]; rfl
  · show Y2e f _ loop ((ks.take ks.length).map fun k => k.cells []) (ks.length : Int) = _
    unfold Y2e
    rw [Y0e (by rw [Y36, Xj]; omega), Xs (Xh _)]
theorem Fml.sml (F : Fml f n ks d) : Sml (ks.map fun k => k.cells []) := by
  intro x hx
  obtain ⟨K, hK, rfl⟩ := Xx.1 hx
  obtain ⟨i, hi, rfl⟩ := X19.1 hK
  obtain ⟨K', e1, e2, e3, e4, e5, e6, e7⟩ := F.at hi
  rw [X7 hi, X1] at e1
  rw [e1]
  exact (Write_cells e2 (by have := F.d7; omega) e5).2
/- The reference's entries. -/
theorem Fml.entries (F : Fml f n ks d) : f_R11_Entries f = some (ks.map Tr.flat) := by
  have h16 := F.count
  have hlen := F.len
  have hf : f = [] ++ (n :: (ks.map Tr.flat).flatten) ++ [] := by rw [F.eq, flatL_map]; simp
  unfold f_R11_Entries
  have ho := Operands_ok hf (by omega) (by rw [Xj]; exact F.ar) F.kids
  rw [show (([] : List Y4).length : Int) = 0 from rfl, show ([] : List Y4).length + 1 = 1 from rfl] at ho
  rw [ho, X0]
  refine Y32 (fun k => ((ks.map Tr.flat).take k, (k : Int))) ks.length _ (by omega) (fun loop k hk => ?_) fun loop => ?_
  · show Y33 f _ loop ((ks.map Tr.flat).take k) (k : Int) = _
    obtain ⟨K, e1, e2, e3, e4, e5, e6, e7⟩ := F.at hk
    have eo := offs_get (ks.map Tr.flat) 1 k (by simpa using hk)
    have ee := End_ok (Y5c d K e2) e3 (by omega)
    rw [e4] at ee
    have es : (f.drop (1 + ((ks.map Tr.flat).take k).flatten.length)).take (1 + ((ks.map Tr.flat).take k).flatten.length + K.flat.length - (1 + ((ks.map Tr.flat).take k).flatten.length)) = K.flat := by
      have := slice_mid ([] ++ n :: ((ks.map Tr.flat).take k).flatten) K.flat (((ks.map Tr.flat).drop (k + 1)).flatten ++ [])
      rw [← e3, e4] at this
      exact this
    unfold Y33
    rw [Y0i (by rw [Y36, Xj]; omega), Y0a (by rw [Y36, Xj]; omega), Xa, eo, ee, X0, Y0a (by omega), Y0a (by omega), Xa, Xa, es,
      Y0j (by rw [Xw, Xj]; simp only [X6, X8]; omega), Y0g (by omega)]
    show _ = loop ((ks.map Tr.flat).take (k + 1), ((k + 1 : Nat) : Int))
    rw [take_snoc _ k [] (by simpa using hk), show (ks.map Tr.flat).getD k [] = K.flat by rw [Xl, X00, e1]; rfl]; rfl
  · show Y33 f _ loop ((ks.map Tr.flat).take ks.length) (ks.length : Int) = _
    unfold Y33
    rw [Y0e (by rw [Y36, Xj]; omega), Xs (by simp)]
def Y4x (n : Y4) (l : List (List Int)) : List (List Int) :=
  if n.Op = 12 then sumRows l else if n.Op = 13 then Y2y l (n.N / 8).toNat (n.N % 8).toNat (cm l (n.N % 8).toNat l.length) else fracRows l
def chk (rows : List (List Int)) : List (List Int) × Int := if 24 < (rows.getD 0 []).length then ([], 110) else (rows, 0)
def layOf (n : Y4) (l : List (List Int)) : List (List Int) × Int := if n.Op = 12 ∨ n.Op = 13 ∨ n.Op = 6 then chk (Y4x n l) else ([], 110)
theorem mat_dims {k : Nat} (h : Go.Proofs.YtioockkejhpleaaDoor.ar n = some k) (h13 : n.Op = 13) : ∃ r c : Nat, Int.tdiv n.N 8 = (r : Int) ∧ Int.tmod n.N 8 = (c : Int) ∧ r = (n.N / 8).toNat ∧ c = (n.N % 8).toNat ∧ 1 ≤ r ∧ r ≤ 4 ∧ 1 ≤ c ∧ c ≤ 4 ∧ k = r * c := by
  unfold Go.Proofs.YtioockkejhpleaaDoor.ar at h
  rw [if_neg (by omega), if_neg (by omega), if_neg (by omega), if_neg (by omega), if_neg (by omega), if_pos h13] at h
  split at h
  · rename_i hN
    rw [X1] at h
    have e1 := tdiv8 (n := n.N) (by omega)
    have e2 := tmod8 (n := n.N) (by omega)
    refine ⟨(n.N / 8).toNat, (n.N % 8).toNat, by omega, by omega, rfl, rfl, by omega, by omega, by omega, by omega, ?_⟩
    rw [← h]
    obtain ⟨a, ha⟩ : ∃ a : Nat, n.N / 8 = (a : Int) := ⟨(n.N / 8).toNat, by omega⟩
    obtain ⟨b, hb⟩ : ∃ b : Nat, n.N % 8 = (b : Int) := ⟨(n.N % 8).toNat, by omega⟩
    rw [ha, hb, ← Int.natCast_mul, Xa, Xa, Xa]
  · cases h
theorem rows_pos (F : Fml f n ks d) (h : n.Op = 12 ∨ n.Op = 13 ∨ n.Op = 6) : 0 < (Y4x n (ks.map fun k => k.cells [])).length := by
  unfold Y4x
  split
  · simp [sumRows]
  · split
    · rename_i h13
      obtain ⟨r, c, _, _, hr, _, h1, _⟩ := mat_dims F.ar h13
      rw [matRows_len, ← hr]; exact h1
    · simp [fracRows]
theorem Fml.disp (F : Fml f n ks d) (h : n.Op = 12 ∨ n.Op = 13 ∨ n.Op = 6) : (n.Op = 12 → Y3q n (ks.map fun k => k.cells []) = some (Y4x n (ks.map fun k => k.cells []))) ∧ (n.Op = 13 → Y2m n (ks.map fun k => k.cells []) = some (Y4x n (ks.map fun k => k.cells []))) ∧ (n.Op = 6 → Y3d n (ks.map fun k => k.cells []) = some (Y4x n (ks.map fun k => k.cells []))) ∧ Y63 n (ks.map fun k => k.cells []) = some (Y4x n (ks.map fun k => k.cells [])) := by
  have hs := F.sml
  have h16 := F.count
  have h12 : n.Op = 12 → 0 < ks.length := fun e => by have := ar_tab F.ar e; omega
  have h6 : n.Op = 6 → ks.length = 2 := fun e => ar_two F.ar (by omega) (by omega)
  refine ⟨fun e => ?_, fun e => ?_, fun e => ?_, ?_⟩
  · have := h12 e
    rw [laySum_ok (by rw [Xj]; omega) (by rw [Xj]; omega) hs]; unfold Y4x; rw [if_pos e]
  · obtain ⟨r, c, e1, e2, e3, e4, e5, e6, e7, e8, e9⟩ := mat_dims F.ar e
    rw [layMatrix_ok e1 e2 e6 e7 e8 (by rw [Xj]; exact e9) hs]; unfold Y4x; rw [if_neg (by omega), if_pos e, ← e3, ← e4]
  · rw [layFrac_ok (by rw [Xj]; exact h6 e) hs]; unfold Y4x; rw [if_neg (by omega), if_neg (by omega)]
  · rcases h with e | e | e
    · have := h12 e
      rw [R11_sum_ok e (by rw [Xj]; omega) (by rw [Xj]; omega) hs]; unfold Y4x; rw [if_pos e]
    · obtain ⟨r, c, e1, e2, e3, e4, e5, e6, e7, e8, e9⟩ := mat_dims F.ar e
      rw [R11_matrix_ok e e2 e5 e6 e7 e8 (by rw [Xj]; exact e9) hs]; unfold Y4x; rw [if_neg (by omega), if_pos e, ← e3, ← e4]
    · rw [R11_frac_ok e (by rw [Xj]; exact h6 e) hs]; unfold Y4x; rw [if_neg (by omega), if_neg (by omega)]
def F3 : List S_form := [(⟨(44 : Int), (12 : Int), 36, 37⟩ : S_form), (⟨(55 : Int), (13 : Int), 38, 39⟩ : S_form), (⟨(57 : Int), (6 : Int), 40, 41⟩ : S_form)]
theorem Fml.skip (F : Fml f n ks d) {k : Nat} (hk : k < 3) (hne : (F3.getD k zS_form).op_ ≠ n.Op) (loop : Int → Option (List (List Int) × Int)) : Y1p f F3 loop (k : Int) = loop ((k + 1 : Nat) : Int) := by
  have h0 : 0 < f.length := by rw [F.eq]; simp
  have e0 : f.getD (0 : Int).toNat Yb = n := by rw [F.eq]; rfl
  unfold Y1p
  rw [Y0i (by show (k : Int) < 3; omega), Y0a (by show 0 ≤ (k : Int) ∧ (k : Int) < 3; omega), Y0a (by omega), e0, Xa, cn_pos hne, Y0g (by omega)]
  rfl
theorem Fml.hit (F : Fml f n ks d) {k : Nat} (hk : k < 3) (he : (F3.getD k zS_form).op_ = n.Op) {rows : List (List Int)} (hd : Y3s (F3.getD k zS_form).lay_ n (ks.map fun k => k.cells []) = some rows) (hr : 0 < rows.length) (loop : Int → Option (List (List Int) × Int)) : Y1p f F3 loop (k : Int) = some (chk rows) := by
  have h0 : 0 < f.length := by rw [F.eq]; simp
  have e0 : f.getD (0 : Int).toNat Yb = n := by rw [F.eq]; rfl
  unfold Y1p
  rw [Y0i (by show (k : Int) < 3; omega), Y0a (by show 0 ≤ (k : Int) ∧ (k : Int) < 3; omega), Y0a (by omega), e0, Xa, cn_neg he, F.cells, X0]
  show (Y3s _ _ _).bind _ = _
  rw [hd, X0, Y0a (by omega), show (0 : Int).toNat = 0 from rfl]
  unfold chk
  by_cases h24 : 24 < (rows.getD 0 []).length
  · rw [Y0i (by omega), if_pos h24]; rfl
  · rw [Y0e (by omega), if_neg h24]
theorem Fml.lay (F : Fml f n ks d) : Y2s f = some (layOf n (ks.map fun k => k.cells [])) := by
  unfold Y2s
  rw [F.valid, X0, show (!true) = false from rfl, cond_false, show f_spatial_forms = some F3 from rfl, X0]
  have run : ∀ (k : Nat) (out : Option (List (List Int) × Int)), k ≤ 3 → (∀ j, j < k → (F3.getD j zS_form).op_ ≠ n.Op) → (∀ loop, Y1p f F3 loop (k : Int) = out) → iter (fun loop s => Y1p f F3 loop s) 1000000 (0 : Int) = out := by
    intro k out hk hne h
    exact Y32 (fun k => (k : Int)) k out (by omega) (fun loop j hj => F.skip (by omega) (hne j hj) loop) h
  unfold layOf
  by_cases h : n.Op = 12 ∨ n.Op = 13 ∨ n.Op = 6
  · rw [if_pos h]
    have hp := rows_pos F h
    obtain ⟨d1, d2, d3, _⟩ := F.disp h
    rcases h with e | e | e
    · exact run 0 _ (by omega) (fun j hj => absurd hj (by omega)) (F.hit (k := 0) (by omega) (by rw [e]; rfl) (d1 e) hp)
    · exact run 1 _ (by omega) (fun j hj => by obtain rfl : j = 0 := by omega
                                               show (12 : Int) ≠ n.Op; omega) (F.hit (k := 1) (by omega) (by rw [e]; rfl) (d2 e) hp)
    · exact run 2 _ (by omega) (fun j hj => by
          rcases (by omega : j = 0 ∨ j = 1) with rfl | rfl
          · show (12 : Int) ≠ n.Op; omega
          · show (13 : Int) ≠ n.Op; omega) (F.hit (k := 2) (by omega) (by rw [e]; rfl) (d3 e) hp)
  · rw [if_neg h]
    refine run 3 _ (by omega) (fun j hj => ?_) fun loop => ?_
    · rcases (by omega : j = 0 ∨ j = 1 ∨ j = 2) with rfl | rfl | rfl
      · show (12 : Int) ≠ n.Op; omega
      · show (13 : Int) ≠ n.Op; omega
      · show (6 : Int) ≠ n.Op; omega
    · unfold Y1p
      rw [Y0e (by show ¬ ((3 : Nat) : Int) < 3; omega)]; rfl
theorem Fml.layR (F : Fml f n ks d) : Y5o f = some (layOf n (ks.map fun k => k.cells [])) := by
  have h0 : 0 < f.length := by rw [F.eq]; simp
  have h16 := F.count
  have e0 : f.getD (0 : Int).toNat Yb = n := by rw [F.eq]; rfl
  unfold Y5o
  rw [F.validR, X0]
  show G _ _ = _
  rw [Y0a (by omega), e0]
  unfold layOf
  by_cases h : n.Op = 12 ∨ n.Op = 13 ∨ n.Op = 6
  · have c0 : (bif bif n.Op != 12 then n.Op != 13 else false then n.Op != 6 else false) = false := by
      rcases h with e | e | e <;> rw [e] <;> rfl
    rw [c0, cond_false, if_pos h, F.entries, X0]
    refine Y32 (fun k => ((ks.take k).map fun k => k.cells [], (k : Int))) ks.length _ (by omega) (fun loop k hk => ?_) fun loop => ?_
    · show Y57 f _ loop ((ks.take k).map fun k => k.cells []) (k : Int) = _
      obtain ⟨K, e1, e2, e3, e4, e5, e6, e7⟩ := F.at hk
      unfold Y57
      rw [Y0i (by rw [Xj]; omega), Y0a (by rw [Xj]; omega), Xa, show (ks.map Tr.flat).getD k [] = K.flat by rw [Xl, X00, e1]; rfl,
        R10_Write_cells e2 (by have := F.d7; omega) e5, X0, cn_neg rfl, Y0j (by rw [Xj, Xw]; omega), Y0g (by omega)]
      show _ = loop ((ks.take (k + 1)).map fun k => k.cells [], ((k + 1 : Nat) : Int))
      rw [map_snoc _ ks k K e1]; rfl
    · show Y57 f _ loop ((ks.take ks.length).map fun k => k.cells []) (ks.length : Int) = _
      unfold Y57
      have hp := rows_pos F h
      rw [Y0e (by rw [Xj]; omega), Xs (Xh _), e0, (F.disp h).2.2.2, X0, Y0a (by omega), show (0 : Int).toNat = 0 from rfl]
      unfold chk
      by_cases h24 : 24 < ((Y4x n (ks.map fun k => k.cells [])).getD 0 []).length
      · rw [Y0i (by omega), if_pos h24]
      · rw [Y0e (by omega), if_neg h24]
  · have c0 : (bif bif n.Op != 12 then n.Op != 13 else false then n.Op != 6 else false) = true := by
      rw [bne_iff_ne.2 (by omega : n.Op ≠ 12), bne_iff_ne.2 (by omega : n.Op ≠ 13), bne_iff_ne.2 (by omega : n.Op ≠ 6)]; rfl
    rw [c0, cond_true, if_neg h]
end
theorem Lays_agree {f : List Y4} (hN : ∀ n ∈ f, okN n) : (Y2s f = some ([], 90) ∧ Y5o f = some ([], 90) ∧ Y34 f = some false) ∨
    ∃ n ks d, Fml f n ks d ∧ Y2s f = some (layOf n (ks.map fun k => k.cells [])) ∧ Y5o f = some (layOf n (ks.map fun k => k.cells [])) := by
  obtain ⟨b, e1, e2, h⟩ := Valid_agree hN
  cases b with
  | false =>
    refine .inl ⟨?_, ?_, e2⟩
    · unfold Y2s; rw [e1, X0]; rfl
    · unfold Y5o; rw [e2, X0]; rfl
  | true =>
    obtain ⟨h60, d, hd8, hd⟩ := h rfl
    obtain ⟨T, rfl, hT⟩ := IsT_good d f hd
    obtain ⟨n, ks, e, rfl, F⟩ := Fml.of hT hd8 h60
    exact .inr ⟨n, ks, e, F, F.lay, F.layR⟩
end Go.Proofs.YtioockkejhpleaaDoor
