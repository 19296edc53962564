/- Own work. -/
import Derived.Test.YtioockkejhpleaaDoorFm16
set_option linter.unusedSimpArgs false
set_option linter.unusedVariables false
namespace Go.Proofs.YtioockkejhpleaaDoor
open Go.Abs
theorem Y3b {S R : Type} {b : (S → Option R) → S → Option R} (st : Nat → S) (n : Nat) (out : Option R) (hn : n < 900000)
    (h : ∀ (loop : S → Option R) (k : Nat), k < n → b loop (st k) = loop (st (k + 1))) (h0 : ∀ loop : S → Option R, b loop (st n) = out) : iter b 1000000 (st 0) = out := by
  have key : ∀ (d fuel k : Nat), n - k = d → k ≤ n → d < fuel → iter b fuel (st k) = out := by
    intro d
    induction d with
    | zero =>
      intro fuel k h1 h2 h3
      obtain ⟨f, rfl⟩ : ∃ f, fuel = f + 1 := ⟨fuel - 1, by omega⟩
      have : k = n := by omega
      subst this
      exact h0 _
    | succ d ih =>
      intro fuel k h1 h2 h3
      obtain ⟨f, rfl⟩ : ∃ f, fuel = f + 1 := ⟨fuel - 1, by omega⟩
      show b (iter b f) (st k) = out
      rw [h _ k (by omega)]
      exact ih f (k + 1) (by omega) (by omega) (by omega)
  exact key (n - 0) 1000000 0 rfl (Nat.zero_le _) (by omega)
abbrev rp (k : Nat) (x : Int) : List Int := List.replicate k x
theorem rp_snoc (i : Nat) (x : Int) : rp i x ++ [x] = rp (i + 1) x := (List.replicate_succ' (n := i) (a := x)).symm
theorem take_snoc {α : Type} (l : List α) (i : Nat) (d : α) (h : i < l.length) : l.take (i + 1) = l.take i ++ [l.getD i d] := by
  rw [List.take_add_one, X6 h, Xf, X6 h]; rfl
def mx (l : List (List Int)) : Nat := l.foldl (fun m x => max m x.length) 0
theorem mx_snoc (l : List (List Int)) (x : List Int) : mx (l ++ [x]) = max (mx l) x.length := by
  unfold mx; rw [List.foldl_append]; rfl
theorem foldl_mx (l : List (List Int)) : ∀ m : Nat, l.foldl (fun m x => max m x.length) m = max m (mx l) := by
  unfold mx
  induction l with
  | nil => intro m; simp
  | cons x l ih => intro m; rw [List.foldl_cons, List.foldl_cons, ih, ih (max 0 x.length)]; omega
theorem mx_le {l : List (List Int)} {x : List Int} (h : x ∈ l) : x.length ≤ mx l := by
  induction l with
  | nil => simp at h
  | cons y l ih =>
    have e : mx (y :: l) = max y.length (mx l) := by
      show l.foldl _ (max 0 y.length) = _
      rw [foldl_mx]; omega
    rw [e]
    rcases X03.1 h with rfl | h
    · omega
    · have := ih h; omega
theorem mx_bound {l : List (List Int)} {B : Nat} (h : ∀ x ∈ l, x.length ≤ B) : mx l ≤ B := by
  induction l with
  | nil => simp [mx]
  | cons y l ih =>
    have e : mx (y :: l) = max y.length (mx l) := by
      show l.foldl _ (max 0 y.length) = _
      rw [foldl_mx]; omega
    rw [e]
    have := h y (by simp)
    have := ih fun x hx => h x (by simp [hx])
    omega
theorem if_max (a b : Nat) : (if (a : Int) > (b : Int) then (a : Int) else (b : Int)) = ((max b a : Nat) : Int) := by
  split <;> omega
theorem Y3w {α : Type} {l : List α} {i : Nat} {d : α} (h : i < l.length) : l.getD i d ∈ l := by
  rw [Xf, X6 h]; exact X18 h
theorem longest_ok {l : List (List Int)} (hl : l.length ≤ 1000) : Y1k l = some ((mx l : Nat) : Int) := by
  refine Y3b (fun k => (((mx (l.take k) : Nat) : Int), (k : Int))) l.length _ (by omega) (fun loop k hk => ?_) fun loop => ?_
  · show Y0a l loop _ _ = _
    unfold Y0a
    rw [Y0b (by omega), Y01 (by omega), Y09 (by omega), Xa, if_max, take_snoc l k [] hk, mx_snoc]
    rfl
  · show Y0a l loop _ _ = _
    unfold Y0a
    rw [Y07 (by omega), Xu (Xi _)]
theorem fill_ok {x : Int} {k : Nat} (hk : k ≤ 20000) : Y0z x (k : Int) = some (rp k x) := by
  unfold Y0z
  rw [Y01 (by split <;> omega)]
  refine Y3b (fun i => (rp i x, (i : Int))) k _ (by omega) (fun loop i hi => ?_) fun loop => ?_
  · show Y0l x k loop _ _ = _
    unfold Y0l
    rw [Y0b (by omega), Y0e (by simp; omega), Y09 (by omega), rp_snoc]
    rfl
  · show Y0l x k loop _ _ = _
    unfold Y0l
    rw [Y07 (by omega)]
theorem blanks_ok {k : Nat} (hk : k ≤ 20000) : Y1p (k : Int) = some (rp k 0) := by
  unfold Y1p
  rw [fill_ok hk]; rfl
theorem Grow_ok {k : Nat} (hk : k ≤ 10000000) : Y27 (k : Int) = some [] := by
  unfold Y27
  rw [Y07 (by omega), Y09 (by omega), Y09 (by omega)]
  by_cases h : (0 : Int) < (k : Int) - ((0 : Int) - ((0 : Nat) : Int))
  · rw [Y0b h, Y01 h, Y0e (by omega), Y01 (by omega)]; rfl
  · rw [Y07 h]; rfl
theorem flat_take {α : Type} (l : List (List α)) (i : Nat) (h : i < l.length) : (l.take (i + 1)).flatten = (l.take i).flatten ++ l.getD i [] := by
  rw [take_snoc l i [] h, X0b, Xr, X0e, X09]
theorem flat_take_le {α : Type} (l : List (List α)) (i : Nat) : (l.take i).flatten.length ≤ l.flatten.length := by
  conv => rhs; rw [← X0k i l, X0b, X2]
  omega
theorem Concat_ok {l : List (List Int)} (h1 : l.length ≤ 1000) (h2 : l.flatten.length ≤ 1000000) : Y18 l = some l.flatten := by
  refine Y3b (fun k => ((((l.take k).flatten.length : Nat) : Int), (k : Int))) l.length _ (by omega) (fun loop k hk => ?_) fun loop => ?_
  · have h3 := flat_take_le l (k + 1)
    have h4 := flat_take l k hk
    have h5 : (l.take (k + 1)).flatten.length = (l.take k).flatten.length + (l.getD k []).length := by rw [h4, X2]
    show Y0h l loop _ _ = _
    unfold Y0h
    rw [Y0b (by omega), Y01 (by omega), Xa, Y09 (by omega), Y07 (by omega), Y09 (by omega), h5]
    rfl
  · show Y0h l loop _ _ = _
    unfold Y0h
    rw [Y07 (by omega), Xu (Xi _), Grow_ok (by omega), X0]
    refine Y3b (fun k => ((l.take k).flatten, (k : Int))) l.length _ (by omega) (fun loop k hk => ?_) fun loop => ?_
    · have h3 := flat_take_le l (k + 1)
      have h4 := flat_take l k hk
      have h5 : (l.take (k + 1)).flatten.length = (l.take k).flatten.length + (l.getD k []).length := by rw [h4, X2]
      show Y0i l loop (l.take _).flatten _ = _
      unfold Y0i
      rw [Y0b (by omega), Y01 (by omega), Xa, Y0e (by omega), Y09 (by omega), h4]
      rfl
    · show Y0i l loop (l.take _).flatten _ = _
      unfold Y0i
      rw [Y07 (by omega), Xu (Xi _)]
/- The reference's pieces. -/
theorem R11_blanks_ok {k : Nat} (hk : k ≤ 20000) : Y5j (k : Int) = some (rp k 0) := by
  refine Y3b (fun i => (rp i 0, (i : Int))) k _ (by omega) (fun loop i hi => ?_) fun loop => ?_
  · show Y4y k loop _ _ = _
    unfold Y4y
    rw [Y0b (by omega), Y0e (by simp; omega), Y09 (by omega), rp_snoc]
    rfl
  · show Y4y k loop _ _ = _
    unfold Y4y
    rw [Y07 (by omega)]
theorem R11_bar_ok {k : Nat} (hk : k ≤ 20000) : f_R11_bar (k : Int) = some (rp k 36) := by
  refine Y3b (fun i => (rp i 36, (i : Int))) k _ (by omega) (fun loop i hi => ?_) fun loop => ?_
  · show f_R11_bar_b1 k loop _ _ = _
    unfold f_R11_bar_b1
    rw [Y0b (by omega), Y0e (by simp; omega), Y09 (by omega), rp_snoc]
    rfl
  · show f_R11_bar_b1 k loop _ _ = _
    unfold f_R11_bar_b1
    rw [Y07 (by omega)]
theorem joined_ok {a b : List Int} (h : a.length + b.length ≤ 1000000) : Y35 a b = some (a ++ b) := by
  unfold Y35
  rw [Y0e (by simp; omega), Y0e (by simp; omega)]; rfl
theorem left_ok {a : List Int} {w : Nat} (h : a.length ≤ w) (hw : w ≤ 20000) : f_R11_left a (w : Int) = some (rp (w - a.length) 0 ++ a) := by
  unfold f_R11_left
  rw [Y09 (by omega), show (w : Int) - (a.length : Int) = ((w - a.length : Nat) : Int) by omega, R11_blanks_ok (by omega), X0, joined_ok (by simp; omega)]; rfl
theorem right_ok {a : List Int} {w : Nat} (h : a.length ≤ w) (hw : w ≤ 20000) : f_R11_right a (w : Int) = some (a ++ rp (w - a.length) 0) := by
  unfold f_R11_right
  rw [Y09 (by omega), show (w : Int) - (a.length : Int) = ((w - a.length : Nat) : Int) by omega, R11_blanks_ok (by omega), X0, joined_ok (by simp; omega)]; rfl
end Go.Proofs.YtioockkejhpleaaDoor
