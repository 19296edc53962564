/-
  Own work. Spatial layouts as functions of the entries' cells; the program and the reference lay out alike.
-/
import Derived.Test.YtioockkejhpleaaDoorSp1
set_option linter.unusedSimpArgs false
set_option linter.unusedVariables false
set_option linter.unusedSimpArgs false
set_option linter.unusedVariables false
namespace Go.Proofs.YtioockkejhpleaaDoor
open Go.Abs
def rowL (w : Nat) (a : Int) (x : List Int) : List Int := [a, 0] ++ (rp (w - x.length) 0 ++ x)
def rowR (w : Nat) (a : Int) (x : List Int) : List Int := [a, 0] ++ (x ++ rp (w - x.length) 0)
def sumRows (l : List (List Int)) : List (List Int) := (l.take (l.length - 1)).map (rowL (mx l) 44) ++ [rp (mx l + 2) 36, rowL (mx l) 0 (l.getD (l.length - 1) [])]
def fracRows (l : List (List Int)) : List (List Int) := [rowR (mx l) 57 (l.getD 0 []), rp (mx l + 2) 36, rowR (mx l) 0 (l.getD 1 [])]
theorem flat3 (a b c : List Int) : [a, b, c].flatten = a ++ (b ++ c) := by simp
def Sml (l : List (List Int)) : Prop := ∀ x ∈ l, x.length ≤ 6000
theorem Sml.mx {l : List (List Int)} (h : Sml l) : mx l ≤ 6000 := mx_bound h
theorem Sml.at {l : List (List Int)} (h : Sml l) {i : Nat} (hi : i < l.length) : (l.getD i []).length ≤ 6000 ∧ (l.getD i []).length ≤ Go.Proofs.YtioockkejhpleaaDoor.mx l := ⟨h _ (getD_mem hi), mx_le (getD_mem hi)⟩
theorem laySum_ok {t : S_Node} {l : List (List Int)} (h0 : 0 < l.length) (h1 : l.length ≤ 100) (hs : Sml l) : f_spatial_laySum t l = some (sumRows l) := by
  have hm := hs.mx
  unfold f_spatial_laySum
  rw [longest_ok (by omega), Option.bind_some, G_inR (by omega)]
  have e := loop_up (b := fun (loop : List (List Int) × Int → Option (List (List Int))) (s : List (List Int) × Int) => f_spatial_laySum_b1 l ((mx l : Nat) : Int) loop s.1 s.2) (fun k => (if k < l.length then (l.take k).map (rowL (mx l) 44) else sumRows l, (k : Int))) l.length (some (sumRows l)) (by omega) (fun loop k hk => ?_) fun loop => ?_
  · rw [if_pos h0] at e; exact e
  · have hx := hs.at hk
    show f_spatial_laySum_b1 l _ loop (if k < l.length then (l.take k).map (rowL (mx l) 44) else sumRows l) (k : Int) = loop (if k + 1 < l.length then (l.take (k + 1)).map (rowL (mx l) 44) else sumRows l, ((k + 1 : Nat) : Int))
    rw [if_pos hk]
    unfold f_spatial_laySum_b1
    rw [cd_pos (by omega), G_pos (by omega)]
    have k2 : ∀ (v10 : List (List Int)) (a : Int), v10.length ≤ 1000 → f_spatial_laySum_k2 l ((mx l : Nat) : Int) loop (k : Int) v10 a = loop (v10 ++ [rowL (mx l) a (l.getD k [])], ((k + 1 : Nat) : Int)) := by
      intro v10 a hv
      unfold f_spatial_laySum_k2
      rw [Int.toNat_natCast, G_inR (by omega), show ((mx l : Nat) : Int) - ((l.getD k []).length : Int) = ((mx l - (l.getD k []).length : Nat) : Int) by omega, blanks_ok (by omega), Option.bind_some, Concat_ok (by simp) (by rw [flat3]; simp only [List.length_append, List.length_replicate, List.length_cons, List.length_nil, List.length_map, List.length_take]; omega), Option.bind_some, flat3, G_room (by omega)]
      unfold f_spatial_laySum_k1
      rw [G_inR (by omega)]
      rfl
    by_cases hl : k + 1 < l.length
    · rw [cb_neg (by omega), if_pos hl, k2 _ _ (by simp; omega), take_snoc l k [] hk, List.map_append]; rfl
    · rw [cb_pos (by omega), if_neg hl, G_inR (by omega), show ((mx l : Nat) : Int) + 2 = ((mx l + 2 : Nat) : Int) by omega, fill_ok (by omega), Option.bind_some, G_room (by simp; omega), k2 _ _ (by simp; omega)]
      have e : k = l.length - 1 := by omega
      unfold sumRows
      rw [← e, List.append_assoc]; rfl
  · show f_spatial_laySum_b1 l _ loop (if l.length < l.length then _ else sumRows l) (l.length : Int) = _
    rw [if_neg (Nat.lt_irrefl _)]
    unfold f_spatial_laySum_b1
    rw [cd_neg (by omega)]
theorem layFrac_ok {t : S_Node} {l : List (List Int)} (h2 : l.length = 2) (hs : Sml l) : f_spatial_layFrac t l = some (fracRows l) := by
  have hm := hs.mx
  have x0 := hs.at (i := 0) (by omega)
  have x1 := hs.at (i := 1) (by omega)
  unfold f_spatial_layFrac
  rw [longest_ok (by omega), Option.bind_some, G_pos (by omega), G_pos (by omega), show (0 : Int).toNat = 0 from rfl, show (1 : Int).toNat = 1 from rfl, G_inR (by omega),
    show ((mx l : Nat) : Int) - ((l.getD 0 []).length : Int) = ((mx l - (l.getD 0 []).length : Nat) : Int) by omega, blanks_ok (by omega), Option.bind_some, Concat_ok (by simp) (by rw [flat3]; simp only [List.length_append, List.length_replicate, List.length_cons, List.length_nil, List.length_map, List.length_take]; omega), Option.bind_some, flat3, G_inR (by omega),
    show ((mx l : Nat) : Int) + 2 = ((mx l + 2 : Nat) : Int) by omega, fill_ok (by omega), Option.bind_some, show (2 : Int) = ((2 : Nat) : Int) from rfl, blanks_ok (by omega), Option.bind_some, G_inR (by omega),
    show ((mx l : Nat) : Int) - ((l.getD 1 []).length : Int) = ((mx l - (l.getD 1 []).length : Nat) : Int) by omega, blanks_ok (by omega), Option.bind_some, Concat_ok (by simp) (by rw [flat3]; simp only [List.length_append, List.length_replicate, List.length_cons, List.length_nil, List.length_map, List.length_take]; omega), Option.bind_some, flat3]
  rfl
theorem R11_rows_mx {t : S_Node} {l : List (List Int)} (h1 : l.length ≤ 100) (k : Option (List (List Int))) (hk : ∀ loop, f_R11_rows_b2 t l loop ((mx l : Nat) : Int) (l.length : Int) = k) : f_R11_rows t l = k := by
  refine loop_up (fun k => (((mx (l.take k) : Nat) : Int), (k : Int))) l.length _ (by omega) (fun loop k hk => ?_) fun loop => ?_
  · show f_R11_rows_b2 t l loop _ _ = _
    unfold f_R11_rows_b2
    rw [cd_pos (by omega), G_pos (by omega), G_inR (by omega), Int.toNat_natCast, if_max, take_snoc l k [] hk, mx_snoc]
    rfl
  · show f_R11_rows_b2 t l loop _ _ = _
    rw [List.take_of_length_le (Nat.le_refl _)]
    exact hk loop
theorem R11_sum_ok {t : S_Node} {l : List (List Int)} (ht : t.Op = 12) (h0 : 0 < l.length) (h1 : l.length ≤ 100) (hs : Sml l) : f_R11_rows t l = some (sumRows l) := by
  have hm := hs.mx
  refine R11_rows_mx h1 _ fun loop => ?_
  unfold f_R11_rows_b2
  rw [cd_neg (by omega), cb_neg (by omega), G_inR (by omega)]
  refine loop_up (fun k => (t, (l.take k).map (rowL (mx l) 44), (k : Int))) (l.length - 1) _ (by omega) (fun loop k hk => ?_) fun loop => ?_
  · have hx := hs.at (i := k) (by omega)
    show f_R11_rows_b1 l _ loop t ((l.take k).map (rowL (mx l) 44)) (k : Int) = _
    unfold f_R11_rows_b1
    rw [cd_pos (by omega), cb_pos ht, G_pos (by omega), Int.toNat_natCast, left_ok hx.2 (by omega), Option.bind_some, joined_ok (by simp only [List.length_append, List.length_replicate, List.length_cons, List.length_nil, List.length_map, List.length_take]; omega), Option.bind_some, G_room (by simp; omega)]
    unfold f_R11_rows_k1
    rw [G_inR (by omega), take_snoc l k [] (by omega), List.map_append]
    rfl
  · have hx := hs.at (i := l.length - 1) (by omega)
    show f_R11_rows_b1 l _ loop t ((l.take (l.length - 1)).map (rowL (mx l) 44)) ((l.length - 1 : Nat) : Int) = _
    unfold f_R11_rows_b1
    rw [cd_neg (by omega), G_inR (by omega), show ((mx l : Nat) : Int) + 2 = ((mx l + 2 : Nat) : Int) by omega, R11_bar_ok (by omega), Option.bind_some, G_room (by simp; omega), cb_pos ht, show (2 : Int) = ((2 : Nat) : Int) from rfl, R11_blanks_ok (by omega), Option.bind_some, G_pos (by omega),
      show ((l.length : Int) - 1).toNat = l.length - 1 by omega, left_ok hx.2 (by omega), Option.bind_some, joined_ok (by simp only [List.length_append, List.length_replicate, List.length_cons, List.length_nil, List.length_map, List.length_take]; omega), Option.bind_some, G_room (by simp; omega), List.append_assoc]
    rfl
theorem R11_frac_ok {t : S_Node} {l : List (List Int)} (ht : t.Op = 6) (h2 : l.length = 2) (hs : Sml l) : f_R11_rows t l = some (fracRows l) := by
  have hm := hs.mx
  have x0 := hs.at (i := 0) (by omega)
  have x1 := hs.at (i := 1) (by omega)
  refine R11_rows_mx (by omega) _ fun loop => ?_
  unfold f_R11_rows_b2
  rw [cd_neg (by omega), cb_neg (by omega), G_inR (by omega)]
  refine loop_up (fun k => (t, if k = 0 then [] else [rowR (mx l) 57 (l.getD 0 [])], (k : Int))) 1 _ (by omega) (fun loop k hk => ?_) fun loop => ?_
  · obtain rfl : k = 0 := by omega
    show f_R11_rows_b1 l _ loop t [] ((0 : Nat) : Int) = loop (t, [rowR (mx l) 57 (l.getD 0 [])], ((1 : Nat) : Int))
    unfold f_R11_rows_b1
    rw [cd_pos (by omega), cb_neg (by omega), G_pos (by omega), Int.toNat_natCast, right_ok x0.2 (by omega), Option.bind_some, joined_ok (by simp only [List.length_append, List.length_replicate, List.length_cons, List.length_nil, List.length_map, List.length_take]; omega), Option.bind_some, G_room (by simp)]
    unfold f_R11_rows_k1
    rw [G_inR (by omega)]
    rfl
  · show f_R11_rows_b1 l _ loop t [rowR (mx l) 57 (l.getD 0 [])] ((1 : Nat) : Int) = _
    unfold f_R11_rows_b1
    rw [cd_neg (by omega), G_inR (by omega), show ((mx l : Nat) : Int) + 2 = ((mx l + 2 : Nat) : Int) by omega, R11_bar_ok (by omega), Option.bind_some, G_room (by simp), cb_neg (by omega), show (2 : Int) = ((2 : Nat) : Int) from rfl, R11_blanks_ok (by omega), Option.bind_some, G_pos (by omega),
      show ((l.length : Int) - 1).toNat = 1 by omega, right_ok x1.2 (by omega), Option.bind_some, joined_ok (by simp only [List.length_append, List.length_replicate, List.length_cons, List.length_nil, List.length_map, List.length_take]; omega), Option.bind_some, G_room (by simp)]
    rfl
end Go.Proofs.YtioockkejhpleaaDoor
