/- Own work. -/
import Derived.Test.YtbcfmhoaocifoaaDoorP25b
set_option linter.unusedSimpArgs false
set_option linter.unusedVariables false
namespace Go.Proofs.YtbcfmhoaocifoaaDoor
open Go.Abs
theorem Y36 {S R : Type} {b : (S → Option R) → S → Option R} (st : Nat → S) (n : Nat) (out : Option R) (hn : n < 900000)
  (h : ∀ (loop : S → Option R) (k : Nat), k < n → b loop (st k) = loop (st (k + 1))) (h0 : ∀ loop : S → Option R, b loop (st n) = out) : iter b 1000000 (st 0) = out := by
 have key : ∀ (d fuel k : Nat), n - k = d → k ≤ n → d < fuel → iter b fuel (st k) = out := by
  intro d
  induction d with
  | zero =>
   intro fuel k h1 h2 h3
   obtain ⟨f, rfl⟩ : ∃ f, fuel = f + 1 := ⟨fuel - 1, by omega⟩
   have : k = n := by omega
   subst this
   exact h0 _
  | succ d ih =>
   intro fuel k h1 h2 h3
   obtain ⟨f, rfl⟩ : ∃ f, fuel = f + 1 := ⟨fuel - 1, by omega⟩
   show b (iter b f) (st k) = out
   rw [h _ k (by omega)]
   exact ih f (k + 1) (by omega) (by omega) (by omega)
 exact key n 1000000 0 (by omega) (by omega) (by omega)
theorem loop_allO {R : Type} {b : (Int → Option R) → Int → Option R} (n : Nat) (P : Nat → Prop) [DecidablePred P] (out bad : Option R) (hn : n < 900000)
  (h : ∀ (loop : Int → Option R) (k : Nat), k < n → b loop (k : Int) = if P k then loop ((k + 1 : Nat) : Int) else bad)
  (h0 : ∀ loop : Int → Option R, b loop (n : Int) = out) : iter b 1000000 (0 : Int) = if ∀ k, k < n → P k then out else bad := by
 have key : ∀ (d fuel k : Nat), n - k = d → k ≤ n → d < fuel → iter b fuel (k : Int) = if ∀ i, i < n → k ≤ i → P i then out else bad := by
  intro d
  induction d with
  | zero =>
   intro fuel k h1 h2 h3
   obtain ⟨f, rfl⟩ : ∃ f, fuel = f + 1 := ⟨fuel - 1, by omega⟩
   have : k = n := by omega
   subst this
   rw [if_pos (fun i h1 h2 => absurd h1 (by omega))]
   exact h0 _
  | succ d ih =>
   intro fuel k h1 h2 h3
   obtain ⟨f, rfl⟩ : ∃ f, fuel = f + 1 := ⟨fuel - 1, by omega⟩
   show b (iter b f) (k : Int) = _
   rw [h _ k (by omega)]
   by_cases hp : P k
   ·rw [if_pos hp, ih f (k + 1) (by omega) (by omega) (by omega)]
    have : (∀ i, i < n → k + 1 ≤ i → P i) ↔ (∀ i, i < n → k ≤ i → P i) :=
     ⟨fun hx i a c => if e : i = k then e ▸ hp else hx i a (by omega), fun hx i a c => hx i a (by omega)⟩
    simp only [this]
   ·rw [if_neg hp, if_neg (fun hx => hp (hx k (by omega) (by omega)))]
 rw [show (0 : Int) = ((0 : Nat) : Int) from rfl, key n 1000000 0 (by omega) (by omega) (by omega)]
 simp
def row {α : Type} (w : Nat) (g : Nat → α) : List α := (List.range w).map g
theorem Y02 {α : Type} (w : Nat) (g : Nat → α) : (row w g).length = w := by simp [row]
theorem Y4t {α : Type} (w : Nat) (g : Nat → α) (k : Nat) (d : α) (h : k < w) : (row w g).getD k d = g k := by simp [row, Xc, h]
theorem row_get0 {α : Type} (w : Nat) (g : Nat → α) (k : Nat) (d : α) (h : w ≤ k) : (row w g).getD k d = d := by simp [row, Xc, h]
theorem row_ext {α : Type} {l l' : List α} (d : α) (h : l.length = l'.length) (hk : ∀ k, k < l.length → l.getD k d = l'.getD k d) : l = l' := by
 apply List.ext_getElem h
 intro i h1 h2
 have := hk i h1
 simpa [Xc, h1, h2] using this
theorem Y1l {α : Type} {w : Nat} {g g' : Nat → α} (h : ∀ k, k < w → g k = g' k) : row w g = row w g' := by
 apply X1g
 intro k hk
 exact h k (Xe.1 hk)
theorem row_set {α : Type} (w : Nat) (g : Nat → α) (k : Nat) (v : α) : (row w g).set k v = row w (fun i => if i = k then v else g i) := by
 apply List.ext_getElem (by simp [row])
 intro i h1 h2
 simp only [row, List.getElem_set, List.getElem_map, List.getElem_range, eq_comm (a := k)]
theorem row_snoc {α : Type} (n : Nat) (g : Nat → α) : row n g ++ [g n] = row (n + 1) g := by simp [row, List.range_succ]
theorem row_rep {α : Type} (w : Nat) (v : α) : List.replicate w v = row w (fun _ => v) := by
 apply List.ext_getElem (by simp [row])
 intro i h1 h2
 simp [row]
theorem row_rev {α : Type} (w : Nat) (g : Nat → α) : (row w g).reverse = row w (fun i => g (w - 1 - i)) := by
 apply List.ext_getElem (by simp [row])
 intro i h1 h2
 simp [row]
theorem row_of {α : Type} (l : List α) (d : α) : l = row l.length (fun i => l.getD i d) := by
 apply row_ext d (Y02 _ _).symm
 intro k hk
 rw [Y4t _ _ _ _ hk]
def mat (h w : Nat) (f : Nat → Nat → Bool) : List (List Bool) := row h fun y => row w (f y)
theorem Y12 (h w : Nat) (f : Nat → Nat → Bool) : (mat h w f).length = h := Y02 _ _
theorem Y1r (h w : Nat) (f : Nat → Nat → Bool) (y : Nat) (hy : y < h) : (mat h w f).getD y [] = row w (f y) := Y4t _ _ _ _ hy
theorem mat_congr {h w : Nat} {f f' : Nat → Nat → Bool} (e : ∀ y x, y < h → x < w → f y x = f' y x) : mat h w f = mat h w f' :=
 Y1l fun y hy => Y1l fun x hx => e y x hy hx
theorem mat_set (h w : Nat) (f : Nat → Nat → Bool) (y x : Nat) (v : Bool) (hy : y < h) : (mat h w f).set y (((mat h w f).getD y []).set x v) = mat h w (fun y' x' => if y' = y ∧ x' = x then v else f y' x') := by
 rw [Y1r _ _ _ _ hy, row_set, mat, row_set]
 apply Y1l
 intro i hi
 by_cases e : i = y
 ·subst e
  rw [if_pos rfl]
  apply Y1l
  intro j hj
  by_cases e' : j = x
  ·simp [e']
  ·simp [e']
 ·rw [if_neg e]
  apply Y1l
  intro j hj
  simp [e]
theorem mat_of (d : List (List Bool)) (w h : Nat) (e : (d.length : Int) = (h : Int) ∧ rowsOk d (w : Int)) : d = mat h w (fun y x => (d.getD y []).getD x false) := by
 have hl : d.length = h := by omega
 apply row_ext [] (by rw [Y12, hl])
 intro k hk
 rw [Y1r _ _ _ _ (by omega)]
 have := e.2 k hk
 have h2 : (d.getD k []).length = w := by omega
 have := row_of (d.getD k []) false
 rw [h2] at this
 exact this
theorem mat_ok (h w : Nat) (f : Nat → Nat → Bool) : ((mat h w f).length : Int) = (h : Int) ∧ rowsOk (mat h w f) (w : Int) := by
 refine ⟨by rw [Y12], fun k hk => ?_⟩
 rw [Y12] at hk
 rw [Y1r _ _ _ _ hk, Y02]
def lend {α : Type} (z : α → Bool) : List α → Nat
 | [] => 0
 | a :: l => if lend z l = 0 then (if z a then 0 else 1) else lend z l + 1
theorem lend_le {α : Type} (z : α → Bool) : ∀ l : List α, lend z l ≤ l.length
 | [] => Xi _
 | a :: l => by
  have := lend_le z l
  simp only [lend, Xw]
  split
  ·split <;> omega
  ·omega
theorem lend_snoc {α : Type} (z : α → Bool) (a : α) : ∀ l : List α, lend z (l ++ [a]) = if z a then lend z l else l.length + 1
 | [] => by simp [lend]
 | b :: l => by
  rw [X0a]
  simp only [lend, lend_snoc z a l, Xw]
  by_cases h : z a
  ·simp only [h, if_true]
  ·simp [h]
theorem lend_in {α : Type} (z : α → Bool) (d : α) : ∀ (l : List α) (i : Nat), lend z l ≤ i → i < l.length → z (l.getD i d) = true
 | [], i, h1, h2 => absurd h2 (by simp)
 | a :: l, i, h1, h2 => by
  simp only [lend] at h1
  split at h1
  ·rename_i h0
   split at h1
   ·rename_i ha
    cases i with
    | zero => simpa using ha
    | succ i =>
     have := lend_in z d l i (by omega) (by simpa using h2)
     simpa using this
   ·cases i with
    | zero => omega
    | succ i =>
     have := lend_in z d l i (by omega) (by simpa using h2)
     simpa using this
  ·cases i with
   | zero => omega
   | succ i =>
    have := lend_in z d l i (by omega) (by simpa using h2)
    simpa using this
theorem lend_last {α : Type} (z : α → Bool) (d : α) : ∀ (l : List α), 0 < lend z l → z (l.getD (lend z l - 1) d) = false
 | [], h => absurd h (by simp [lend])
 | a :: l, h => by
  simp only [lend] at h ⊢
  split
  ·rename_i h0
   rw [if_pos h0] at h
   split
   ·rename_i ha
    rw [if_pos ha] at h
    omega
   ·rename_i ha
    simpa using ha
  ·rename_i h0
   have := lend_last z d l (by omega)
   rw [Nat.add_sub_cancel]
   obtain ⟨m, hm⟩ : ∃ m, lend z l = m + 1 := ⟨lend z l - 1, by omega⟩
   rw [hm] at this ⊢
   simpa using this
def trim {α : Type} (z : α → Bool) (l : List α) : List α := l.take (lend z l)
theorem trim_len {α : Type} (z : α → Bool) (l : List α) : (trim z l).length = lend z l := by
 have := lend_le z l
 simp [trim]
 omega
theorem trim_get {α : Type} (z : α → Bool) (l : List α) (i : Nat) (d : α) (h : i < lend z l) : (trim z l).getD i d = l.getD i d := by
 simp [trim, Xc, Xa, h]
def canL {α : Type} (z : α → Bool) (d : α) (l : List α) : Prop := 0 < l.length → z (l.getD (l.length - 1) d) = false
theorem trim_can {α : Type} (z : α → Bool) (d : α) (l : List α) : canL z d (trim z l) := by
 intro h
 rw [trim_len] at h ⊢
 rw [trim_get z l _ d (by omega)]
 exact lend_last z d l h
theorem take_snoc {α : Type} (l : List α) (k : Nat) (d : α) (h : k < l.length) : l.take (k + 1) = l.take k ++ [l.getD k d] := by
 rw [List.take_succ_eq_append_getElem h]
 simp [Xc, h]
end Go.Proofs.YtbcfmhoaocifoaaDoor
