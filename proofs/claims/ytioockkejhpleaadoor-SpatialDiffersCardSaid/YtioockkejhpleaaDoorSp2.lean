/- Own work. -/
import Derived.Test.YtioockkejhpleaaDoorSp1
set_option linter.unusedSimpArgs false
set_option linter.unusedVariables false
namespace Go.Proofs.YtioockkejhpleaaDoor
open Go.Abs
def rowL (w : Nat) (a : Int) (x : List Int) : List Int := [a, 0] ++ (rp (w - x.length) 0 ++ x)
def rowR (w : Nat) (a : Int) (x : List Int) : List Int := [a, 0] ++ (x ++ rp (w - x.length) 0)
def sumRows (l : List (List Int)) : List (List Int) := (l.take (l.length - 1)).map (rowL (mx l) 44) ++ [rp (mx l + 2) 36, rowL (mx l) 0 (l.getD (l.length - 1) [])]
def fracRows (l : List (List Int)) : List (List Int) := [rowR (mx l) 57 (l.getD 0 []), rp (mx l + 2) 36, rowR (mx l) 0 (l.getD 1 [])]
theorem flat3 (a b c : List Int) : [a, b, c].flatten = a ++ (b ++ c) := by simp
def Sml (l : List (List Int)) : Prop := ∀ x ∈ l, x.length ≤ 6000
theorem Sml.mx {l : List (List Int)} (h : Sml l) : mx l ≤ 6000 := mx_bound h
theorem Sml.at {l : List (List Int)} (h : Sml l) {i : Nat} (hi : i < l.length) : (l.getD i []).length ≤ 6000 ∧ (l.getD i []).length ≤ Go.Proofs.YtioockkejhpleaaDoor.mx l := ⟨h _ (Y3w hi), mx_le (Y3w hi)⟩
theorem laySum_ok {t : Y4} {l : List (List Int)} (h0 : 0 < l.length) (h1 : l.length ≤ 100) (hs : Sml l) : Y3i t l = some (sumRows l) := by
  have hm := hs.mx
  unfold Y3i
  rw [longest_ok (by omega), X0, Y09 (by omega)]
  have e := Y3b (b := fun (loop : List (List Int) × Int → Option (List (List Int))) (s : List (List Int) × Int) => Y19 l ((mx l : Nat) : Int) loop s.1 s.2) (fun k => (if k < l.length then (l.take k).map (rowL (mx l) 44) else sumRows l, (k : Int))) l.length (some (sumRows l)) (by omega) (fun loop k hk => ?_) fun loop => ?_
  · rw [if_pos h0] at e; exact e
  · have hx := hs.at hk
    show Y19 l _ loop (if k < l.length then (l.take k).map (rowL (mx l) 44) else sumRows l) (k : Int) = loop (if k + 1 < l.length then (l.take (k + 1)).map (rowL (mx l) 44) else sumRows l, ((k + 1 : Nat) : Int))
    rw [if_pos hk]
    unfold Y19
    rw [Y0b (by omega), Y01 (by omega)]
    have k2 : ∀ (v10 : List (List Int)) (a : Int), v10.length ≤ 1000 → Y2a l ((mx l : Nat) : Int) loop (k : Int) v10 a = loop (v10 ++ [rowL (mx l) a (l.getD k [])], ((k + 1 : Nat) : Int)) := by
      intro v10 a hv
      unfold Y2a
      rw [Xa, Y09 (by omega), show ((mx l : Nat) : Int) - ((l.getD k []).length : Int) = ((mx l - (l.getD k []).length : Nat) : Int) by omega, blanks_ok (by omega), X0, Concat_ok (by simp) (by rw [flat3]; simp only [X2, X01, X7, X8, Xh, Xt]; omega), X0, flat3, Y0e (by omega)]
      unfold Y47
      rw [Y09 (by omega)]
      rfl
    by_cases hl : k + 1 < l.length
    · rw [Yi (by omega), if_pos hl, k2 _ _ (by simp; omega), take_snoc l k [] hk, X0s]; rfl
    · rw [Yo (by omega), if_neg hl, Y09 (by omega), show ((mx l : Nat) : Int) + 2 = ((mx l + 2 : Nat) : Int) by omega, fill_ok (by omega), X0, Y0e (by simp; omega), k2 _ _ (by simp; omega)]
      have e : k = l.length - 1 := by omega
      unfold sumRows
      rw [← e, Xb]; rfl
  · show Y19 l _ loop (if l.length < l.length then _ else sumRows l) (l.length : Int) = _
    rw [if_neg (Nat.lt_irrefl _)]
    unfold Y19
    rw [Y07 (by omega)]
theorem layFrac_ok {t : Y4} {l : List (List Int)} (h2 : l.length = 2) (hs : Sml l) : Y37 t l = some (fracRows l) := by
  have hm := hs.mx
  have x0 := hs.at (i := 0) (by omega)
  have x1 := hs.at (i := 1) (by omega)
  unfold Y37
  rw [longest_ok (by omega), X0, Y01 (by omega), Y01 (by omega), show (0 : Int).toNat = 0 from rfl, show (1 : Int).toNat = 1 from rfl, Y09 (by omega),
    show ((mx l : Nat) : Int) - ((l.getD 0 []).length : Int) = ((mx l - (l.getD 0 []).length : Nat) : Int) by omega, blanks_ok (by omega), X0, Concat_ok (by simp) (by rw [flat3]; simp only [X2, X01, X7, X8, Xh, Xt]; omega), X0, flat3, Y09 (by omega),
    show ((mx l : Nat) : Int) + 2 = ((mx l + 2 : Nat) : Int) by omega, fill_ok (by omega), X0, show (2 : Int) = ((2 : Nat) : Int) from rfl, blanks_ok (by omega), X0, Y09 (by omega),
    show ((mx l : Nat) : Int) - ((l.getD 1 []).length : Int) = ((mx l - (l.getD 1 []).length : Nat) : Int) by omega, blanks_ok (by omega), X0, Concat_ok (by simp) (by rw [flat3]; simp only [X2, X01, X7, X8, Xh, Xt]; omega), X0, flat3]
  rfl
theorem R11_rows_mx {t : Y4} {l : List (List Int)} (h1 : l.length ≤ 100) (k : Option (List (List Int))) (hk : ∀ loop, Y3o t l loop ((mx l : Nat) : Int) (l.length : Int) = k) : f_R11_rows t l = k := by
  refine Y3b (fun k => (((mx (l.take k) : Nat) : Int), (k : Int))) l.length _ (by omega) (fun loop k hk => ?_) fun loop => ?_
  · show Y3o t l loop _ _ = _
    unfold Y3o
    rw [Y0b (by omega), Y01 (by omega), Y09 (by omega), Xa, if_max, take_snoc l k [] hk, mx_snoc]
    rfl
  · show Y3o t l loop _ _ = _
    rw [Xu (Xi _)]
    exact hk loop
theorem R11_sum_ok {t : Y4} {l : List (List Int)} (ht : t.Op = 12) (h0 : 0 < l.length) (h1 : l.length ≤ 100) (hs : Sml l) : f_R11_rows t l = some (sumRows l) := by
  have hm := hs.mx
  refine R11_rows_mx h1 _ fun loop => ?_
  unfold Y3o
  rw [Y07 (by omega), Yi (by omega), Y09 (by omega)]
  refine Y3b (fun k => (t, (l.take k).map (rowL (mx l) 44), (k : Int))) (l.length - 1) _ (by omega) (fun loop k hk => ?_) fun loop => ?_
  · have hx := hs.at (i := k) (by omega)
    show Y31 l _ loop t ((l.take k).map (rowL (mx l) 44)) (k : Int) = _
    unfold Y31
    rw [Y0b (by omega), Yo ht, Y01 (by omega), Xa, left_ok hx.2 (by omega), X0, joined_ok (by simp only [X2, X01, X7, X8, Xh, Xt]; omega), X0, Y0e (by simp; omega)]
    unfold f_R11_rows_k1
    rw [Y09 (by omega), take_snoc l k [] (by omega), X0s]
    rfl
  · have hx := hs.at (i := l.length - 1) (by omega)
    show Y31 l _ loop t ((l.take (l.length - 1)).map (rowL (mx l) 44)) ((l.length - 1 : Nat) : Int) = _
    unfold Y31
    rw [Y07 (by omega), Y09 (by omega), show ((mx l : Nat) : Int) + 2 = ((mx l + 2 : Nat) : Int) by omega, R11_bar_ok (by omega), X0, Y0e (by simp; omega), Yo ht, show (2 : Int) = ((2 : Nat) : Int) from rfl, R11_blanks_ok (by omega), X0, Y01 (by omega),
      show ((l.length : Int) - 1).toNat = l.length - 1 by omega, left_ok hx.2 (by omega), X0, joined_ok (by simp only [X2, X01, X7, X8, Xh, Xt]; omega), X0, Y0e (by simp; omega), Xb]
    rfl
theorem R11_frac_ok {t : Y4} {l : List (List Int)} (ht : t.Op = 6) (h2 : l.length = 2) (hs : Sml l) : f_R11_rows t l = some (fracRows l) := by
  have hm := hs.mx
  have x0 := hs.at (i := 0) (by omega)
  have x1 := hs.at (i := 1) (by omega)
  refine R11_rows_mx (by omega) _ fun loop => ?_
  unfold Y3o
  rw [Y07 (by omega), Yi (by omega), Y09 (by omega)]
  refine Y3b (fun k => (t, if k = 0 then [] else [rowR (mx l) 57 (l.getD 0 [])], (k : Int))) 1 _ (by omega) (fun loop k hk => ?_) fun loop => ?_
  · obtain rfl : k = 0 := by omega
    show Y31 l _ loop t [] ((0 : Nat) : Int) = loop (t, [rowR (mx l) 57 (l.getD 0 [])], ((1 : Nat) : Int))
    unfold Y31
    rw [Y0b (by omega), Yi (by omega), Y01 (by omega), Xa, right_ok x0.2 (by omega), X0, joined_ok (by simp only [X2, X01, X7, X8, Xh, Xt]; omega), X0, Y0e (by simp)]
    unfold f_R11_rows_k1
    rw [Y09 (by omega)]
    rfl
  · show Y31 l _ loop t [rowR (mx l) 57 (l.getD 0 [])] ((1 : Nat) : Int) = _
    unfold Y31
    rw [Y07 (by omega), Y09 (by omega), show ((mx l : Nat) : Int) + 2 = ((mx l + 2 : Nat) : Int) by omega, R11_bar_ok (by omega), X0, Y0e (by simp), Yi (by omega), show (2 : Int) = ((2 : Nat) : Int) from rfl, R11_blanks_ok (by omega), X0, Y01 (by omega),
      show ((l.length : Int) - 1).toNat = 1 by omega, right_ok x1.2 (by omega), X0, joined_ok (by simp only [X2, X01, X7, X8, Xh, Xt]; omega), X0, Y0e (by simp)]
    rfl
end Go.Proofs.YtioockkejhpleaaDoor
