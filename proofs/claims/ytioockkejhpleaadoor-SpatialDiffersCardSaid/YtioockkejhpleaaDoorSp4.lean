/- Own work. -/
import Derived.Test.YtioockkejhpleaaDoorSp3
set_option linter.unusedSimpArgs false
set_option linter.unusedVariables false
namespace Go.Proofs.YtioockkejhpleaaDoor
open Go.Abs
theorem slice_mid {α : Type} (pre k post : List α) : ((pre ++ k ++ post).drop pre.length).take (pre.length + k.length - pre.length) = k := by
  rw [Xb, List.drop_left, show pre.length + k.length - pre.length = k.length by omega, X12]
theorem measure_at {f pre t post : List Y4} {d : Nat} (hl : f.length ≤ 100000) (hd : d ≤ 100) (ht : IsT d t) (hf : f = pre ++ t ++ post) : ∃ v : Int, Y1s f (pre.length : Int) = some (((pre.length + t.length : Nat) : Int), v, true) := by
  obtain ⟨v, _, _, h⟩ := measure_ok hl d t pre post (1000000 - d) hd ht hf
  rw [show 1000000 - d + d = 1000000 by omega] at h
  exact ⟨v, h⟩
structure Fml (f : List Y4) (n : Y4) (ks : List Tr) (d : Nat) : Prop where
  eq : f = n :: Y1o ks
  ar : ar n = some ks.length
  good : goodL d ks
  adm : ∀ (i : Nat) (k : Tr), ks[i]? = some k → adm n i (hd k.flat) = true
  d7 : d ≤ 7
  len : f.length ≤ 60
theorem Fml.of {T : Tr} {d : Nat} (h : T.good d) (hd : d ≤ 8) (hl : T.flat.length ≤ 60) : ∃ n ks e, T = .node n ks ∧ Fml T.flat n ks e := by
  match d, T, h with
  | 0, T, h => cases T; exact h.elim
  | e + 1, .node n ks, h => exact ⟨n, ks, e, rfl, rfl, h.1, h.2.1, h.2.2, by omega, hl⟩
section
variable {f : List Y4} {n : Y4} {ks : List Tr} {d : Nat}
theorem Fml.kids (F : Fml f n ks d) : ∀ k ∈ ks.map Tr.flat, IsT d k := by
  intro k hk
  obtain ⟨T, hT, rfl⟩ := Xy.1 hk
  exact Y3u d T (Y2x.1 F.good T hT)
theorem Fml.tree (F : Fml f n ks d) : IsT (d + 1) f := by
  rw [F.eq]
  exact Y3u (d + 1) (.node n ks) ⟨F.ar, F.good, F.adm⟩
theorem Fml.valid (F : Fml f n ks d) : Y0t f = some true := Y5c F.tree (by have := F.d7; omega) F.len
theorem Fml.validR (F : Fml f n ks d) : Y2v f = some true := by
  rw [R09_Valid_ok F.tree (by have := F.d7; omega) (by have := F.len; omega), decide_eq_true F.len]
theorem Fml.at (F : Fml f n ks d) {i : Nat} (hi : i < ks.length) : ∃ k : Tr, ks[i]? = some k ∧ k.good d ∧ f = ([] ++ n :: ((ks.map Tr.flat).take i).flatten) ++ k.flat ++ (((ks.map Tr.flat).drop (i + 1)).flatten ++ []) ∧ ([] ++ n :: ((ks.map Tr.flat).take i).flatten).length = 1 + ((ks.map Tr.flat).take i).flatten.length ∧ k.flat.length ≤ 60 ∧
    (((ks.map Tr.flat).take (i + 1)).flatten.length = ((ks.map Tr.flat).take i).flatten.length + k.flat.length) ∧ 1 + ((ks.map Tr.flat).take i).flatten.length + k.flat.length ≤ f.length := by
  have hk : ks[i]? = some ks[i] := X6 hi
  have hg := Y2x.1 F.good ks[i] (X18 hi)
  have hf : f = [] ++ (n :: (ks.map Tr.flat).flatten) ++ [] := by rw [F.eq, Y3k]; simp
  obtain ⟨h1, h2, h3, h4⟩ := kid_at hf F.kids (i := i) (k := ks[i].flat) (by rw [Xw, hk]; rfl)
  have hlen := F.len
  have e1 : f.length = 1 + ((ks.map Tr.flat).take i).flatten.length + ks[i].flat.length + (((ks.map Tr.flat).drop (i + 1)).flatten).length := by
    conv => lhs; rw [h1]
    simp only [X2, X7, X8]; omega
  refine ⟨ks[i], hk, hg, h1, by rw [h2]; simp, by omega, ?_, by omega⟩
  rw [flat_take (ks.map Tr.flat) i (by simpa using hi), X2]
  congr 2
  rw [Xf, Xw, hk]; rfl
theorem Fml.count (F : Fml f n ks d) : ks.length ≤ 16 := ar_le F.ar
theorem offs_snoc (kl : List (List Y4)) (p i : Nat) (h : i < kl.length) : offs p (kl.take (i + 1)) = offs p (kl.take i) ++ [((p + (kl.take i).flatten.length : Nat) : Int)] := by
  rw [take_snoc kl i [] h, offs_app]; rfl
theorem Fml.operands (F : Fml f n ks d) : Y3n f 0 = some (offs 1 (ks.map Tr.flat)) := by
  have hlen := F.len
  have h0 : 0 < f.length := by rw [F.eq]; simp
  have h16 := F.count
  unfold Y3n
  have c0 : (bif decide ((0 : Int) < 0) then true else decide ((f.length : Int) ≤ 0)) = false := by
    rw [decide_eq_false (by omega), cond_false, decide_eq_false (by omega)]
  rw [c0]
  show (Y0t f).bind _ = _
  rw [F.valid, X0]
  show G _ _ = _
  rw [Y01 (by omega)]
  have e0 : f.getD (0 : Int).toNat Y7 = n := by rw [F.eq]; rfl
  rw [e0, formula_arity_ok F.ar, X0, Y09 (by omega)]
  refine Y3b (fun k => (offs 1 ((ks.map Tr.flat).take k), ((1 + ((ks.map Tr.flat).take k).flatten.length : Nat) : Int), (k : Int))) ks.length _ (by omega) (fun loop k hk => ?_) fun loop => ?_
  · show Y1a f _ loop (offs 1 ((ks.map Tr.flat).take k)) ((1 + ((ks.map Tr.flat).take k).flatten.length : Nat) : Int) (k : Int) = _
    obtain ⟨K, e1, e2, e3, e4, e5, e6, e7⟩ := F.at hk
    obtain ⟨v, hv⟩ := measure_at (by omega) (by have := F.d7; omega) (Y3u d K e2) e3
    rw [e4] at hv
    unfold Y1a
    rw [Y0b (by show (k : Int) < (ks.length : Int); omega), Y0e (by rw [Y2y, Xt]; omega), hv, X0, Y09 (by omega)]
    show loop (_, _, _) = loop (offs 1 ((ks.map Tr.flat).take (k + 1)), ((1 + ((ks.map Tr.flat).take (k + 1)).flatten.length : Nat) : Int), ((k + 1 : Nat) : Int))
    rw [offs_snoc _ _ _ (by simpa using hk), e6, ← X0h]; rfl
  · show Y1a f _ loop _ _ _ = _
    unfold Y1a
    rw [Y07 (by show ¬ (ks.length : Int) < (ks.length : Int); omega), Xu (by simp)]
theorem Fml.end_ (F : Fml f n ks d) {i : Nat} (hi : i < ks.length) {K : Tr} (hK : ks[i]? = some K) : f_formula_End f ((1 + ((ks.map Tr.flat).take i).flatten.length : Nat) : Int) = some ((1 + ((ks.map Tr.flat).take i).flatten.length + K.flat.length : Nat) : Int) := by
  have hlen := F.len
  obtain ⟨K', e1, e2, e3, e4, e5, e6, e7⟩ := F.at hi
  obtain rfl : K' = K := by rw [hK] at e1; exact (X5 e1).symm
  have hpos := good_pos e2
  unfold f_formula_End
  have c0 : (bif decide (((1 + ((ks.map Tr.flat).take i).flatten.length : Nat) : Int) < 0) then true else decide ((f.length : Int) ≤ ((1 + ((ks.map Tr.flat).take i).flatten.length : Nat) : Int))) = false := by
    rw [decide_eq_false (by omega), cond_false, decide_eq_false (by omega)]
  rw [c0]
  show (Y0t f).bind _ = _
  rw [F.valid, X0]
  show Option.bind _ _ = _
  obtain ⟨v, hv⟩ := measure_at (by omega) (by have := F.d7; omega) (Y3u d K' e2) e3
  rw [e4] at hv
  rw [hv]; rfl
theorem map_snoc {α β : Type} (g : α → β) (l : List α) (i : Nat) (x : α) (h : l[i]? = some x) : (l.take (i + 1)).map g = (l.take i).map g ++ [g x] := by
  rw [List.take_add_one, h, X0s]; rfl
theorem Fml.cells (F : Fml f n ks d) : Y4t f = some (ks.map fun k => k.cells [], true) := by
  have h16 := F.count
  have hlen := F.len
  unfold Y4t
  rw [F.operands, X0]
  refine Y3b (fun k => ((ks.take k).map fun k => k.cells [], (k : Int))) ks.length _ (by omega) (fun loop k hk => ?_) fun loop => ?_
  · show Y22 f _ loop ((ks.take k).map fun k => k.cells []) (k : Int) = _
    obtain ⟨K, e1, e2, e3, e4, e5, e6, e7⟩ := F.at hk
    have eo := offs_get (ks.map Tr.flat) 1 k (by simpa using hk)
    unfold Y22
    rw [Y0b (by rw [Y2y, Xh]; omega), Y01 (by rw [Y2y, Xh]; omega), Xa, eo, F.end_ hk e1, X0, Y01 (by omega), Y01 (by omega), Xa, Xa]
    have es : (f.drop (1 + ((ks.map Tr.flat).take k).flatten.length)).take (1 + ((ks.map Tr.flat).take k).flatten.length + K.flat.length - (1 + ((ks.map Tr.flat).take k).flatten.length)) = K.flat := by
      have := slice_mid ([] ++ n :: ((ks.map Tr.flat).take k).flatten) K.flat (((ks.map Tr.flat).drop (k + 1)).flatten ++ [])
      rw [← e3, e4] at this
      exact this
    rw [es, (Write_cells e2 (by have := F.d7; omega) e5).1, X0, cn_neg rfl, Y0e (by rw [Xh, Xt]; omega), Y09 (by omega)]
    show _ = loop ((ks.take (k + 1)).map fun k => k.cells [], ((k + 1 : Nat) : Int))
    rw [map_snoc _ ks k K e1]; rfl
  · show Y22 f _ loop ((ks.take ks.length).map fun k => k.cells []) (ks.length : Int) = _
    unfold Y22
    rw [Y07 (by rw [Y2y, Xh]; omega), Xu (Xi _)]
theorem Fml.sml (F : Fml f n ks d) : Sml (ks.map fun k => k.cells []) := by
  intro x hx
  obtain ⟨K, hK, rfl⟩ := Xy.1 hx
  obtain ⟨i, hi, rfl⟩ := X13.1 hK
  obtain ⟨K', e1, e2, e3, e4, e5, e6, e7⟩ := F.at hi
  rw [X6 hi, X1] at e1
  rw [e1]
  exact (Write_cells e2 (by have := F.d7; omega) e5).2
/- The reference's entries. -/
theorem Fml.entries (F : Fml f n ks d) : f_R11_Entries f = some (ks.map Tr.flat) := by
  have h16 := F.count
  have hlen := F.len
  have hf : f = [] ++ (n :: (ks.map Tr.flat).flatten) ++ [] := by rw [F.eq, Y3k]; simp
  unfold f_R11_Entries
  have ho := Operands_ok hf (by omega) (by rw [Xh]; exact F.ar) F.kids
  rw [show (([] : List Y4).length : Int) = 0 from rfl, show ([] : List Y4).length + 1 = 1 from rfl] at ho
  rw [ho, X0]
  refine Y3b (fun k => ((ks.map Tr.flat).take k, (k : Int))) ks.length _ (by omega) (fun loop k hk => ?_) fun loop => ?_
  · show Y4h f _ loop ((ks.map Tr.flat).take k) (k : Int) = _
    obtain ⟨K, e1, e2, e3, e4, e5, e6, e7⟩ := F.at hk
    have eo := offs_get (ks.map Tr.flat) 1 k (by simpa using hk)
    have ee := End_ok (Y3u d K e2) e3 (by omega)
    rw [e4] at ee
    have es : (f.drop (1 + ((ks.map Tr.flat).take k).flatten.length)).take (1 + ((ks.map Tr.flat).take k).flatten.length + K.flat.length - (1 + ((ks.map Tr.flat).take k).flatten.length)) = K.flat := by
      have := slice_mid ([] ++ n :: ((ks.map Tr.flat).take k).flatten) K.flat (((ks.map Tr.flat).drop (k + 1)).flatten ++ [])
      rw [← e3, e4] at this
      exact this
    unfold Y4h
    rw [Y0b (by rw [Y2y, Xh]; omega), Y01 (by rw [Y2y, Xh]; omega), Xa, eo, ee, X0, Y01 (by omega), Y01 (by omega), Xa, Xa, es,
      Y0e (by rw [Xt, Xh]; simp only [X7, X8]; omega), Y09 (by omega)]
    show _ = loop ((ks.map Tr.flat).take (k + 1), ((k + 1 : Nat) : Int))
    rw [take_snoc _ k [] (by simpa using hk), show (ks.map Tr.flat).getD k [] = K.flat by rw [Xf, Xw, e1]; rfl]; rfl
  · show Y4h f _ loop ((ks.map Tr.flat).take ks.length) (ks.length : Int) = _
    unfold Y4h
    rw [Y07 (by rw [Y2y, Xh]; omega), Xu (by simp)]
def Y3t (n : Y4) (l : List (List Int)) : List (List Int) :=
  if n.Op = 12 then sumRows l else if n.Op = 13 then Y29 l (n.N / 8).toNat (n.N % 8).toNat (cm l (n.N % 8).toNat l.length) else fracRows l
def chk (rows : List (List Int)) : List (List Int) × Int := if 24 < (rows.getD 0 []).length then ([], 110) else (rows, 0)
def layOf (n : Y4) (l : List (List Int)) : List (List Int) × Int := if n.Op = 12 ∨ n.Op = 13 ∨ n.Op = 6 then chk (Y3t n l) else ([], 110)
theorem mat_dims {k : Nat} (h : Go.Proofs.YtioockkejhpleaaDoor.ar n = some k) (h13 : n.Op = 13) : ∃ r c : Nat, Int.tdiv n.N 8 = (r : Int) ∧ Int.tmod n.N 8 = (c : Int) ∧ r = (n.N / 8).toNat ∧ c = (n.N % 8).toNat ∧ 1 ≤ r ∧ r ≤ 4 ∧ 1 ≤ c ∧ c ≤ 4 ∧ k = r * c := by
  unfold Go.Proofs.YtioockkejhpleaaDoor.ar at h
  rw [if_neg (by omega), if_neg (by omega), if_neg (by omega), if_neg (by omega), if_neg (by omega), if_pos h13] at h
  split at h
  · rename_i hN
    rw [X1] at h
    have e1 := tdiv8 (n := n.N) (by omega)
    have e2 := tmod8 (n := n.N) (by omega)
    refine ⟨(n.N / 8).toNat, (n.N % 8).toNat, by omega, by omega, rfl, rfl, by omega, by omega, by omega, by omega, ?_⟩
    rw [← h]
    obtain ⟨a, ha⟩ : ∃ a : Nat, n.N / 8 = (a : Int) := ⟨(n.N / 8).toNat, by omega⟩
    obtain ⟨b, hb⟩ : ∃ b : Nat, n.N % 8 = (b : Int) := ⟨(n.N % 8).toNat, by omega⟩
    rw [ha, hb, ← Int.natCast_mul, Xa, Xa, Xa]
  · cases h
theorem rows_pos (F : Fml f n ks d) (h : n.Op = 12 ∨ n.Op = 13 ∨ n.Op = 6) : 0 < (Y3t n (ks.map fun k => k.cells [])).length := by
  unfold Y3t
  split
  · simp [sumRows]
  · split
    · rename_i h13
      obtain ⟨r, c, _, _, hr, _, h1, _⟩ := mat_dims F.ar h13
      rw [matRows_len, ← hr]; exact h1
    · simp [fracRows]
theorem Fml.disp (F : Fml f n ks d) (h : n.Op = 12 ∨ n.Op = 13 ∨ n.Op = 6) : (n.Op = 12 → Y3i n (ks.map fun k => k.cells []) = some (Y3t n (ks.map fun k => k.cells []))) ∧ (n.Op = 13 → Y2b n (ks.map fun k => k.cells []) = some (Y3t n (ks.map fun k => k.cells []))) ∧ (n.Op = 6 → Y37 n (ks.map fun k => k.cells []) = some (Y3t n (ks.map fun k => k.cells []))) ∧ f_R11_rows n (ks.map fun k => k.cells []) = some (Y3t n (ks.map fun k => k.cells [])) := by
  have hs := F.sml
  have h16 := F.count
  have h12 : n.Op = 12 → 0 < ks.length := fun e => by have := ar_tab F.ar e; omega
  have h6 : n.Op = 6 → ks.length = 2 := fun e => ar_two F.ar (by omega) (by omega)
  refine ⟨fun e => ?_, fun e => ?_, fun e => ?_, ?_⟩
  · have := h12 e
    rw [laySum_ok (by rw [Xh]; omega) (by rw [Xh]; omega) hs]; unfold Y3t; rw [if_pos e]
  · obtain ⟨r, c, e1, e2, e3, e4, e5, e6, e7, e8, e9⟩ := mat_dims F.ar e
    rw [layMatrix_ok e1 e2 e6 e7 e8 (by rw [Xh]; exact e9) hs]; unfold Y3t; rw [if_neg (by omega), if_pos e, ← e3, ← e4]
  · rw [layFrac_ok (by rw [Xh]; exact h6 e) hs]; unfold Y3t; rw [if_neg (by omega), if_neg (by omega)]
  · rcases h with e | e | e
    · have := h12 e
      rw [R11_sum_ok e (by rw [Xh]; omega) (by rw [Xh]; omega) hs]; unfold Y3t; rw [if_pos e]
    · obtain ⟨r, c, e1, e2, e3, e4, e5, e6, e7, e8, e9⟩ := mat_dims F.ar e
      rw [R11_matrix_ok e e2 e5 e6 e7 e8 (by rw [Xh]; exact e9) hs]; unfold Y3t; rw [if_neg (by omega), if_pos e, ← e3, ← e4]
    · rw [R11_frac_ok e (by rw [Xh]; exact h6 e) hs]; unfold Y3t; rw [if_neg (by omega), if_neg (by omega)]
def F3 : List S_form := [(⟨(44 : Int), (12 : Int), 36, 37⟩ : S_form), (⟨(55 : Int), (13 : Int), 38, 39⟩ : S_form), (⟨(57 : Int), (6 : Int), 40, 41⟩ : S_form)]
theorem Fml.skip (F : Fml f n ks d) {k : Nat} (hk : k < 3) (hne : (F3.getD k zS_form).op_ ≠ n.Op) (loop : Int → Option (List (List Int) × Int)) : Y1d f F3 loop (k : Int) = loop ((k + 1 : Nat) : Int) := by
  have h0 : 0 < f.length := by rw [F.eq]; simp
  have e0 : f.getD (0 : Int).toNat Y7 = n := by rw [F.eq]; rfl
  unfold Y1d
  rw [Y0b (by show (k : Int) < 3; omega), Y01 (by show 0 ≤ (k : Int) ∧ (k : Int) < 3; omega), Y01 (by omega), e0, Xa, cn_pos hne, Y09 (by omega)]
  rfl
theorem Fml.hit (F : Fml f n ks d) {k : Nat} (hk : k < 3) (he : (F3.getD k zS_form).op_ = n.Op) {rows : List (List Int)} (hd : Y3l (F3.getD k zS_form).lay_ n (ks.map fun k => k.cells []) = some rows) (hr : 0 < rows.length) (loop : Int → Option (List (List Int) × Int)) : Y1d f F3 loop (k : Int) = some (chk rows) := by
  have h0 : 0 < f.length := by rw [F.eq]; simp
  have e0 : f.getD (0 : Int).toNat Y7 = n := by rw [F.eq]; rfl
  unfold Y1d
  rw [Y0b (by show (k : Int) < 3; omega), Y01 (by show 0 ≤ (k : Int) ∧ (k : Int) < 3; omega), Y01 (by omega), e0, Xa, cn_neg he, F.cells, X0]
  show (Y3l _ _ _).bind _ = _
  rw [hd, X0, Y01 (by omega), show (0 : Int).toNat = 0 from rfl]
  unfold chk
  by_cases h24 : 24 < (rows.getD 0 []).length
  · rw [Y0b (by omega), if_pos h24]; rfl
  · rw [Y07 (by omega), if_neg h24]
theorem Fml.lay (F : Fml f n ks d) : Y2m f = some (layOf n (ks.map fun k => k.cells [])) := by
  unfold Y2m
  rw [F.valid, X0, show (!true) = false from rfl, cond_false, show f_spatial_forms = some F3 from rfl, X0]
  have run : ∀ (k : Nat) (out : Option (List (List Int) × Int)), k ≤ 3 → (∀ j, j < k → (F3.getD j zS_form).op_ ≠ n.Op) → (∀ loop, Y1d f F3 loop (k : Int) = out) → iter (fun loop s => Y1d f F3 loop s) 1000000 (0 : Int) = out := by
    intro k out hk hne h
    exact Y3b (fun k => (k : Int)) k out (by omega) (fun loop j hj => F.skip (by omega) (hne j hj) loop) h
  unfold layOf
  by_cases h : n.Op = 12 ∨ n.Op = 13 ∨ n.Op = 6
  · rw [if_pos h]
    have hp := rows_pos F h
    obtain ⟨d1, d2, d3, _⟩ := F.disp h
    rcases h with e | e | e
    · exact run 0 _ (by omega) (fun j hj => absurd hj (by omega)) (F.hit (k := 0) (by omega) (by rw [e]; rfl) (d1 e) hp)
    · exact run 1 _ (by omega) (fun j hj => by obtain rfl : j = 0 := by omega
                                               show (12 : Int) ≠ n.Op; omega) (F.hit (k := 1) (by omega) (by rw [e]; rfl) (d2 e) hp)
    · exact run 2 _ (by omega) (fun j hj => by
          rcases (by omega : j = 0 ∨ j = 1) with rfl | rfl
          · show (12 : Int) ≠ n.Op; omega
          · show (13 : Int) ≠ n.Op; omega) (F.hit (k := 2) (by omega) (by rw [e]; rfl) (d3 e) hp)
  · rw [if_neg h]
    refine run 3 _ (by omega) (fun j hj => ?_) fun loop => ?_
    · rcases (by omega : j = 0 ∨ j = 1 ∨ j = 2) with rfl | rfl | rfl
      · show (12 : Int) ≠ n.Op; omega
      · show (13 : Int) ≠ n.Op; omega
      · show (6 : Int) ≠ n.Op; omega
    · unfold Y1d
      rw [Y07 (by show ¬ ((3 : Nat) : Int) < 3; omega)]; rfl
theorem Fml.layR (F : Fml f n ks d) : f_R11_Lay f = some (layOf n (ks.map fun k => k.cells [])) := by
  have h0 : 0 < f.length := by rw [F.eq]; simp
  have h16 := F.count
  have e0 : f.getD (0 : Int).toNat Y7 = n := by rw [F.eq]; rfl
  unfold f_R11_Lay
  rw [F.validR, X0]
  show G _ _ = _
  rw [Y01 (by omega), e0]
  unfold layOf
  by_cases h : n.Op = 12 ∨ n.Op = 13 ∨ n.Op = 6
  · have c0 : (bif bif n.Op != 12 then n.Op != 13 else false then n.Op != 6 else false) = false := by
      rcases h with e | e | e <;> rw [e] <;> rfl
    rw [c0, cond_false, if_pos h, F.entries, X0]
    refine Y3b (fun k => ((ks.take k).map fun k => k.cells [], (k : Int))) ks.length _ (by omega) (fun loop k hk => ?_) fun loop => ?_
    · show f_R11_Lay_b1 f _ loop ((ks.take k).map fun k => k.cells []) (k : Int) = _
      obtain ⟨K, e1, e2, e3, e4, e5, e6, e7⟩ := F.at hk
      unfold f_R11_Lay_b1
      rw [Y0b (by rw [Xh]; omega), Y01 (by rw [Xh]; omega), Xa, show (ks.map Tr.flat).getD k [] = K.flat by rw [Xf, Xw, e1]; rfl,
        R10_Write_cells e2 (by have := F.d7; omega) e5, X0, cn_neg rfl, Y0e (by rw [Xh, Xt]; omega), Y09 (by omega)]
      show _ = loop ((ks.take (k + 1)).map fun k => k.cells [], ((k + 1 : Nat) : Int))
      rw [map_snoc _ ks k K e1]; rfl
    · show f_R11_Lay_b1 f _ loop ((ks.take ks.length).map fun k => k.cells []) (ks.length : Int) = _
      unfold f_R11_Lay_b1
      have hp := rows_pos F h
      rw [Y07 (by rw [Xh]; omega), Xu (Xi _), e0, (F.disp h).2.2.2, X0, Y01 (by omega), show (0 : Int).toNat = 0 from rfl]
      unfold chk
      by_cases h24 : 24 < ((Y3t n (ks.map fun k => k.cells [])).getD 0 []).length
      · rw [Y0b (by omega), if_pos h24]
      · rw [Y07 (by omega), if_neg h24]
  · have c0 : (bif bif n.Op != 12 then n.Op != 13 else false then n.Op != 6 else false) = true := by
      rw [bne_iff_ne.2 (by omega : n.Op ≠ 12), bne_iff_ne.2 (by omega : n.Op ≠ 13), bne_iff_ne.2 (by omega : n.Op ≠ 6)]; rfl
    rw [c0, cond_true, if_neg h]
end
theorem Lays_agree {f : List Y4} (hN : ∀ n ∈ f, okN n) : (Y2m f = some ([], 90) ∧ f_R11_Lay f = some ([], 90) ∧ Y2v f = some false) ∨
    ∃ n ks d, Fml f n ks d ∧ Y2m f = some (layOf n (ks.map fun k => k.cells [])) ∧ f_R11_Lay f = some (layOf n (ks.map fun k => k.cells [])) := by
  obtain ⟨b, e1, e2, h⟩ := Valid_agree hN
  cases b with
  | false =>
    refine .inl ⟨?_, ?_, e2⟩
    · unfold Y2m; rw [e1, X0]; rfl
    · unfold f_R11_Lay; rw [e2, X0]; rfl
  | true =>
    obtain ⟨h60, d, hd8, hd⟩ := h rfl
    obtain ⟨T, rfl, hT⟩ := IsT_good d f hd
    obtain ⟨n, ks, e, rfl, F⟩ := Fml.of hT hd8 h60
    exact .inr ⟨n, ks, e, F, F.lay, F.layR⟩
end Go.Proofs.YtioockkejhpleaaDoor
