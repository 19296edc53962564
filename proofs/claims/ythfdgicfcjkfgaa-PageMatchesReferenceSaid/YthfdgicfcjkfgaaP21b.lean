/-
  Own work. Chapter 21, the plain law: what the functions compute, and what holds of it.
-/
import Derived.Test.YthfdgicfcjkfgaaP21a
set_option linter.unusedSimpArgs false
set_option linter.unusedVariables false
set_option linter.unusedSimpArgs false
set_option linter.unusedVariables false
namespace Go.Proofs.Ythfdgicfcjkfgaa
open Go.Abs
def last (xs : List Int) : Int := xs.getLast?.getD 0
theorem getLast_get (xs : List Int) (h : xs ≠ []) : xs[xs.length - 1]? = some (last xs) := by
  unfold last
  rw [List.getLast?_eq_getElem?]
  have : xs.length - 1 < xs.length := by have := List.length_pos_iff.2 h; omega
  simp [List.getElem?_eq_getElem this]

def keepAt (rows : List S_Row) (i : Nat) : Bool := (rows.getD i zS_Row).Keep
def inkAt (rows : List S_Row) (i : Nat) : Int := (rows.getD i zS_Row).Ink
/-- An end that a page may have. -/
def okEnd (rows : List S_Row) (e : Nat) : Bool := e == rows.length || !keepAt rows (e - 1)
/-- The ends from `a` on, before `b`. -/
def sel (rows : List S_Row) (a b : Nat) : List Int := ((List.range' a (b - a)).filter (okEnd rows)).map fun (n : Nat) => (n : Int)
theorem sel_self (rows : List S_Row) (a : Nat) : sel rows a a = [] := by simp [sel]
theorem sel_succ (rows : List S_Row) (a b : Nat) (h : a ≤ b) : sel rows a (b + 1) = sel rows a b ++ if okEnd rows b then [(b : Int)] else [] := by
  unfold sel
  rw [show b + 1 - a = (b - a) + 1 from by omega, List.range'_concat]
  simp only [Nat.one_mul, List.filter_append, List.map_append]
  rw [show a + (b - a) = b from by omega]
  congr 1
  by_cases hb : okEnd rows b <;> simp [hb]
theorem sel_len (rows : List S_Row) (a b : Nat) : (sel rows a b).length ≤ b - a := by
  unfold sel
  rw [List.length_map]
  exact Nat.le_trans (List.length_filter_le _ _) (by simp)

def next (rows : List S_Row) (from_ h : Int) : List Int :=
  if from_ < 0 ∨ (rows.length : Int) ≤ from_ ∨ h < 2 then [] else sel rows (from_.toNat + 1) (from_.toNat + 1 + min (h - 1).toNat (rows.length - from_.toNat))

def legalFrom (rows : List S_Row) (h : Int) : Int → List Int → Bool
  | f, [] => f == rows.length
  | f, e :: es => if e ≤ f ∨ (rows.length : Int) < e ∨ h ≤ e - f then false else if e < rows.length ∧ keepAt rows (e - 1).toNat = true then false else legalFrom rows h e es
def legal (rows : List S_Row) (ends : List Int) (h : Int) : Bool := legalFrom rows h 0 ends

def small (xs : List Int) : Prop := ∀ x ∈ xs, -1000000000000 < x ∧ x < 1000000000000
theorem small.get {xs : List Int} (hs : small xs) (i : Nat) : -1000000000000 < xs.getD i 0 ∧ xs.getD i 0 < 1000000000000 := by
  by_cases hi : i < xs.length
  · rw [List.getD_eq_getElem?_getD, List.getElem?_eq_getElem hi]
    exact hs _ (List.getElem_mem hi)
  · rw [List.getD_eq_getElem?_getD, List.getElem?_eq_none (by omega)]
    simp

theorem sel_mem {rows : List S_Row} {a b : Nat} {x : Int} (hx : x ∈ sel rows a b) : ∃ n : Nat, x = n ∧ a ≤ n ∧ n < b ∧ okEnd rows n = true := by
  unfold sel at hx
  obtain ⟨n, hn, rfl⟩ := List.mem_map.1 hx
  obtain ⟨h1, h2⟩ := List.mem_filter.1 hn
  simp only [List.mem_range'_1] at h1
  exact ⟨n, rfl, h1.1, by omega, h2⟩
theorem next_mem {rows : List S_Row} {f h x : Int} (hx : x ∈ next rows f h) : ∃ n : Nat, x = n ∧ f < n ∧ n ≤ rows.length ∧ n - f ≤ h - 1 ∧ 0 ≤ f ∧ okEnd rows n = true := by
  unfold next at hx
  split at hx
  · simp at hx
  · obtain ⟨n, rfl, h1, h2, h3⟩ := sel_mem hx
    exact ⟨n, rfl, by omega, by omega, by omega, by omega, h3⟩
theorem last_mem {xs : List Int} (h : xs ≠ []) : last xs ∈ xs := by
  unfold last
  rw [List.getLast?_eq_some_getLast h]
  exact List.getLast_mem h
theorem next_len (rows : List S_Row) (f h : Int) : (next rows f h).length ≤ rows.length := by
  unfold next
  split
  · simp
  · have := sel_len rows (f.toNat + 1) (f.toNat + 1 + min (h - 1).toNat (rows.length - f.toNat))
    omega
theorem last_nil_iff (rows : List S_Row) (f h : Int) : last (next rows f h) = 0 ↔ next rows f h = [] := by
  constructor
  · intro h0
    rcases Classical.em (next rows f h = []) with hn | hn
    · exact hn
    · obtain ⟨n, h1, h2, _, _, h3, _⟩ := next_mem (last_mem hn)
      omega
  · intro h0
    rw [h0]
    rfl

def fillGo (rows : List S_Row) (h : Int) : Nat → Nat → List Int × Option Nat
  | 0, _ => ([], none)
  | m + 1, f => if f < rows.length then (if next rows f h = [] then ([], some f) else
      (last (next rows f h) :: (fillGo rows h m (last (next rows f h)).toNat).1, (fillGo rows h m (last (next rows f h)).toNat).2)) else ([], none)
def fillR (rows : List S_Row) (h : Int) : List Int × Option Nat := fillGo rows h (rows.length + 1) 0
/-- Ends, place, error. -/
def fill (rows : List S_Row) (h : Int) : List Int × Int × Int :=
  if h < 4 ∨ 40 < h then ([], 0, 1) else match (fillR rows h).2 with
    | none => ((fillR rows h).1, 0, 0)
    | some f => ([], f, 210)
def height (n : Int) : Int := 4 + n.tmod 8
/-- The last row before `n` that starts an ink page. -/
def inkRow (rows : List S_Row) : Nat → Int
  | 0 => -1
  | n + 1 => if inkAt rows n ≤ 0 then inkRow rows n else n
theorem inkRow_lt (rows : List S_Row) : ∀ n, inkRow rows n < n ∧ -1 ≤ inkRow rows n
  | 0 => by simp [inkRow]
  | n + 1 => by
    have := inkRow_lt rows n
    unfold inkRow
    split <;> omega
/-- How many of the first `i` ends lie behind `row`. -/
def cnt (ends : List Int) (row : Int) (i : Nat) : Nat := (ends.take i).countP fun e => decide (e > row)
/-- The ink page and its part on a page that begins with the row `k`. -/
def partAt (rows : List S_Row) (ends : List Int) (i k : Nat) : Int × Int :=
  if inkRow rows (k + 1) < 0 then (0, min (i : Int) 26) else (inkAt rows (inkRow rows (k + 1)).toNat, min (cnt ends (inkRow rows (k + 1)) i : Int) 26)
def part (rows : List S_Row) (ends : List Int) (i : Int) : Int × Int :=
  if i < 0 ∨ (ends.length : Int) ≤ i then (0, 0) else
    if last (ends.take i.toNat) < 0 ∨ (rows.length : Int) ≤ last (ends.take i.toNat) then (0, 0) else partAt rows ends i.toNat (last (ends.take i.toNat)).toNat
theorem small.mono {xs ys : List Int} (hs : small xs) (h : ∀ y ∈ ys, y ∈ xs) : small ys := fun y hy => hs y (h y hy)
theorem small.last {xs : List Int} (hs : small xs) : -1000000000000 < last xs ∧ last xs < 1000000000000 := by
  rcases Classical.em (xs = []) with rfl | h
  · simp [Go.Proofs.Ythfdgicfcjkfgaa.last]
  · exact hs _ (last_mem h)

theorem minIf (a b : Int) : (if b < a then b else a) = min a b := by omega

theorem sel_congr {R R' : List S_Row} {a b : Nat} (h : ∀ e, a ≤ e → e < b → okEnd R e = okEnd R' e) : sel R a b = sel R' a b := by
  unfold sel
  congr 1
  refine List.filter_congr fun e he => ?_
  simp only [List.mem_range'_1] at he
  exact h e he.1 (by omega)
theorem last_append (xs : List Int) (x : Int) : last (xs ++ [x]) = x := by simp [last]
theorem okEnd_len (R : List S_Row) : okEnd R R.length = true := by simp [okEnd]
theorem keepAt_append (R S : List S_Row) (i : Nat) (h : i < R.length) : keepAt (R ++ S) i = keepAt R i := by
  unfold keepAt
  simp only [List.getD_eq_getElem?_getD]
  rw [List.getElem?_append_left h]
theorem height_bounds (n : Int) (hn : 0 ≤ n ∧ n ≤ 255) : 4 ≤ height n ∧ height n ≤ 11 := by
  unfold height
  have := Int.tmod_eq_emod_of_nonneg (b := 8) hn.1
  omega

theorem next_append (R : List S_Row) (r : S_Row) (f : Nat) (h : Int) (hf : f < R.length) (hh : 2 ≤ h) (hl : last (next R f h) < R.length) : next (R ++ [r]) f h = next R f h := by
  unfold next at hl ⊢
  rw [if_neg (by omega)] at hl
  rw [if_neg (by simp; omega), if_neg (by omega)]
  simp only [Int.toNat_natCast, List.length_append, List.length_singleton] at hl ⊢
  have h1 : f + 1 + min (h - 1).toNat (R.length - f) ≤ R.length := by
    rcases Nat.lt_or_ge R.length (f + 1 + min (h - 1).toNat (R.length - f)) with hx | hx
    · exfalso
      rw [show f + 1 + min (h - 1).toNat (R.length - f) = R.length + 1 from by omega, sel_succ R (f + 1) R.length (by omega), okEnd_len] at hl
      simp only [if_true, last_append] at hl
      omega
    · exact hx
  rw [show min (h - 1).toNat (R.length + 1 - f) = min (h - 1).toNat (R.length - f) from by omega]
  refine sel_congr fun e he1 he2 => ?_
  unfold okEnd
  rw [keepAt_append R [r] (e - 1) (by omega)]
  congr 1
  rw [Bool.eq_iff_iff, beq_iff_eq, beq_iff_eq]
  simp
  omega

theorem fillGo_grow (R : List S_Row) (r : S_Row) (h : Int) (hh : 2 ≤ h) : ∀ (m m' f : Nat), R.length + 1 ≤ m + f → R.length + 2 ≤ m' + f → (fillGo R h m f).2 = none → (fillGo (R ++ [r]) h m' f).2 = none → (fillGo R h m f).1 ≠ [] →
    (fillGo R h m f).1.length ≤ (fillGo (R ++ [r]) h m' f).1.length ∧ (fillGo (R ++ [r]) h m' f).1.take ((fillGo R h m f).1.length - 1) = (fillGo R h m f).1.take ((fillGo R h m f).1.length - 1)
  | 0, m', f, hm, hm', _, _, hne => by simp [fillGo] at hne
  | m + 1, m', f, hm, hm', h1, h2, hne => by
    by_cases hf : f < R.length
    · obtain ⟨m', rfl⟩ : ∃ k, m' = k + 1 := ⟨m' - 1, by omega⟩
      have hf' : f < (R ++ [r]).length := by simp; omega
      by_cases hn : next R f h = []
      · simp [fillGo, hf, hn] at h1
      by_cases hn' : next (R ++ [r]) f h = []
      · simp only [fillGo, if_pos hf', if_pos hn'] at h2
        cases h2
      simp only [fillGo, if_pos hf, if_pos hf', if_neg hn, if_neg hn'] at h1 h2 hne ⊢
      obtain ⟨e, he, he1, he2, _⟩ := next_mem (last_mem hn)
      rw [he] at h1 ⊢
      simp only [Int.toNat_natCast] at h1 ⊢
      rcases Nat.lt_or_ge e R.length with hlt | hge
      · have hna := next_append R r f h hf hh (by omega)
        rw [hna, he] at h2 ⊢
        simp only [Int.toNat_natCast] at h2 ⊢
        have hne2 : (fillGo R h m e).1 ≠ [] := by
          obtain ⟨m, rfl⟩ : ∃ k, m = k + 1 := ⟨m - 1, by omega⟩
          by_cases hn2 : next R e h = []
          · simp [fillGo, hlt, hn2] at h1
          · simp [fillGo, hlt, hn2]
        obtain ⟨i1, i2⟩ := fillGo_grow R r h hh m m' e (by omega) (by omega) h1 h2 hne2
        have hpos : 1 ≤ (fillGo R h m e).1.length := by
          have := List.length_pos_iff.2 hne2
          omega
        obtain ⟨k, hk⟩ : ∃ k, (fillGo R h m e).1.length = k + 1 := ⟨_, (Nat.sub_add_cancel hpos).symm⟩
        rw [hk] at i1 i2
        simp only [List.length_cons, hk, Nat.add_sub_cancel, List.take_succ_cons] at i1 i2 ⊢
        exact ⟨by omega, by rw [i2]⟩
      · have hg : fillGo R h m e = ([], none) := by
          cases m with
          | zero => rfl
          | succ m => simp [fillGo, show ¬ e < R.length from by omega]
        rw [hg]
        simp
    · simp [fillGo, hf] at hne

theorem fill_grow (R : List S_Row) (r : S_Row) (h : Int) (hh : 4 ≤ h ∧ h ≤ 40) (h1 : (fill R h).2.2 = 0) (h2 : (fill (R ++ [r]) h).2.2 = 0) (hne : (fill R h).1 ≠ []) :
    (fill R h).1.length ≤ (fill (R ++ [r]) h).1.length ∧ (fill (R ++ [r]) h).1.take ((fill R h).1.length - 1) = (fill R h).1.take ((fill R h).1.length - 1) := by
  unfold fill at h1 h2 hne ⊢
  rw [if_neg (by omega)] at h1 h2 hne ⊢
  rw [if_neg (by omega)]
  cases e1 : (fillR R h).2 with
  | some f => simp [e1] at h1
  | none =>
    cases e2 : (fillR (R ++ [r]) h).2 with
    | some f => simp [e2] at h2
    | none =>
      simp only [e1, e2] at hne ⊢
      exact fillGo_grow R r h (by omega) _ _ 0 (by simp) (by simp) e1 e2 hne
theorem fill_err (R : List S_Row) (h : Int) (hh : 4 ≤ h ∧ h ≤ 40) : (fill R h).2.2 = 0 ∨ (fill R h).2.2 = 210 := by
  unfold fill
  rw [if_neg (by omega)]
  split <;> simp
theorem fillGo_len (R : List S_Row) (h : Int) : ∀ m f, (fillGo R h m f).1.length ≤ m
  | 0, f => by simp [fillGo]
  | m + 1, f => by
    unfold fillGo
    split
    · split
      · simp
      · have := fillGo_len R h m (last (next R f h)).toNat
        simp; omega
    · simp
theorem fill_len (R : List S_Row) (h : Int) : (fill R h).1.length ≤ R.length + 1 := by
  unfold fill
  split
  · simp
  · split
    · exact fillGo_len R h _ _
    · simp
theorem sel_last (R : List S_Row) (a : Nat) : ∀ b e, a ≤ e → e < b → okEnd R e = true → (e : Int) ≤ last (sel R a b) ∧ sel R a b ≠ []
  | 0, e, _, h, _ => by omega
  | b + 1, e, h1, h2, h3 => by
    rw [sel_succ R a b (by omega)]
    by_cases hb : okEnd R b = true
    · rw [hb]
      simp only [if_true, last_append]
      exact ⟨by omega, by simp⟩
    · have he : e ≠ b := fun h => hb (h ▸ h3)
      have := sel_last R a b e h1 (by omega) h3
      simp only [hb, if_false, List.append_nil, Bool.false_eq_true]
      exact this
theorem mem_next (R : List S_Row) (f e : Nat) (h : Int) (h1 : f < e) (h2 : e ≤ R.length) (h3 : (e : Int) - f ≤ h - 1) (h4 : okEnd R e = true) : (e : Int) ≤ last (next R f h) ∧ next R f h ≠ [] := by
  unfold next
  rw [if_neg (by omega)]
  simp only [Int.toNat_natCast]
  exact sel_last R (f + 1) _ e (by omega) (by omega) h4
theorem mem_next' (R : List S_Row) (f : Nat) (e h : Int) : e ∈ next R f h ↔ f < e ∧ e ≤ R.length ∧ e - f ≤ h - 1 ∧ okEnd R e.toNat = true := by
  constructor
  · intro he
    obtain ⟨n, rfl, h1, h2, h3, _, h4⟩ := next_mem he
    exact ⟨h1, by omega, h3, by simpa using h4⟩
  · rintro ⟨h1, h2, h3, h4⟩
    unfold next
    rw [if_neg (by omega)]
    simp only [Int.toNat_natCast]
    unfold sel
    exact List.mem_map.2 ⟨e.toNat, List.mem_filter.2 ⟨List.mem_range'_1.2 ⟨by omega, by omega⟩, h4⟩, by omega⟩
theorem legal_cons (R : List S_Row) (h : Int) (f : Nat) (e : Int) (es : List Int) : legalFrom R h f (e :: es) = true ↔ e ∈ next R f h ∧ legalFrom R h e es = true := by
  rw [mem_next', show legalFrom R h f (e :: es) = (if e ≤ (f : Int) ∨ (R.length : Int) < e ∨ h ≤ e - f then false else if e < R.length ∧ keepAt R (e - 1).toNat = true then false else legalFrom R h e es) from rfl]
  split
  · constructor
    · intro hx; cases hx
    · rintro ⟨⟨h1, h2, h3, _⟩, _⟩; omega
  · rename_i hn
    have hok : okEnd R e.toNat = true ↔ ¬ (e < R.length ∧ keepAt R (e - 1).toNat = true) := by
      unfold okEnd
      rw [show e.toNat - 1 = (e - 1).toNat from by omega]
      simp only [Bool.or_eq_true, beq_iff_eq, Bool.not_eq_true', not_and, Bool.not_eq_true]
      constructor
      · rintro (hx | hx) hlt
        · omega
        · exact hx
      · intro hx
        rcases Int.lt_or_le e R.length with hlt | hge
        · exact .inr (hx hlt)
        · left; omega
    split
    · rename_i hk
      constructor
      · intro hx; cases hx
      · rintro ⟨⟨_, _, _, hx⟩, _⟩
        exact absurd hk (hok.1 hx)
    · rename_i hk
      constructor
      · intro hx
        exact ⟨⟨by omega, by omega, by omega, hok.2 hk⟩, hx⟩
      · exact fun hx => hx.2

/-- Who turns late ends early: from further on, with a greater height, filling needs no more pages than any way does. -/
theorem greedy (R : List S_Row) (h h2 : Int) (hh : h ≤ h2) : ∀ (L : List Int) (f1 f2 m : Nat), legalFrom R h f1 L = true → f1 ≤ f2 → f2 ≤ R.length → R.length + 1 ≤ m + f2 →
    (fillGo R h2 m f2).2 = none ∧ (fillGo R h2 m f2).1.length ≤ L.length
  | [], f1, f2, m, hl, h1, h3, hm => by
    simp only [legalFrom, beq_iff_eq] at hl
    obtain ⟨m, rfl⟩ : ∃ k, m = k + 1 := ⟨m - 1, by omega⟩
    simp [fillGo, show ¬ f2 < R.length from by omega]
  | e :: L, f1, f2, m, hl, h1, h3, hm => by
    rw [legal_cons] at hl
    obtain ⟨hn, hl⟩ := hl
    obtain ⟨n, rfl, hn1, hn2, hn3, _, hn4⟩ := next_mem hn
    rcases Nat.lt_or_ge f2 n with hlt | hge
    · obtain ⟨k, rfl⟩ : ∃ k, m = k + 1 := ⟨m - 1, by omega⟩
      obtain ⟨hm1, hm2⟩ := mem_next R f2 n h2 hlt hn2 (by omega) hn4
      obtain ⟨e2, he2, he21, he22, _⟩ := next_mem (last_mem hm2)
      have ih := greedy R h h2 hh L n e2 k hl (by omega) he22 (by omega)
      simp only [fillGo, if_pos (show f2 < R.length from by omega), if_neg hm2, he2, Int.toNat_natCast]
      exact ⟨ih.1, by simp only [List.length_cons]; omega⟩
    · have ih := greedy R h h2 hh L n f2 m hl hge h3 hm
      exact ⟨ih.1, by simp only [List.length_cons]; omega⟩

theorem fillGo_legal (R : List S_Row) (h h2 : Int) (hh : h ≤ h2) : ∀ (m f : Nat), f ≤ R.length → R.length + 1 ≤ m + f → (fillGo R h m f).2 = none → legalFrom R h2 f (fillGo R h m f).1 = true
  | 0, f, h1, h2, h3 => by omega
  | m + 1, f, h1, hm, h3 => by
    by_cases hf : f < R.length
    · by_cases hn : next R f h = []
      · simp [fillGo, hf, hn] at h3
      · simp only [fillGo, if_pos hf, if_neg hn] at h3 ⊢
        obtain ⟨e, he, he1, he2, he3, _, he4⟩ := next_mem (last_mem hn)
        rw [he] at h3 ⊢
        simp only [Int.toNat_natCast] at h3 ⊢
        rw [legal_cons]
        exact ⟨(mem_next' R f e h2).2 ⟨by omega, by omega, by omega, by simpa using he4⟩, fillGo_legal R h h2 hh m e he2 (by omega) h3⟩
    · simp only [fillGo, if_neg hf, legalFrom, beq_iff_eq]
      omega

theorem fillGo_stuck (R : List S_Row) (h : Int) : ∀ (m f g : Nat), (fillGo R h m f).2 = some g → g < R.length ∧ next R g h = []
  | 0, f, g, hx => by simp [fillGo] at hx
  | m + 1, f, g, hx => by
    by_cases hf : f < R.length
    · by_cases hn : next R f h = []
      · simp only [fillGo, if_pos hf, if_pos hn, Option.some.injEq] at hx
        subst hx
        exact ⟨hf, hn⟩
      · simp only [fillGo, if_pos hf, if_neg hn] at hx
        exact fillGo_stuck R h m _ g hx
    · simp [fillGo, hf] at hx

theorem fill_heights (R : List S_Row) (h h2 : Int) (hh : h ≤ h2) (hb : 4 ≤ h ∧ h2 ≤ 40) (h0 : (fill R h).2.2 = 0) : (fill R h2).2.2 = 0 ∧ (fill R h2).1.length ≤ (fill R h).1.length := by
  unfold fill at h0 ⊢
  rw [if_neg (by omega)] at h0 ⊢
  rw [if_neg (by omega)]
  cases e1 : (fillR R h).2 with
  | some f => simp [e1] at h0
  | none =>
    have hl := fillGo_legal R h h (Int.le_refl _) (R.length + 1) 0 (by omega) (by omega) e1
    obtain ⟨g1, g2⟩ := greedy R h h2 hh _ 0 0 (R.length + 1) hl (Nat.le_refl _) (by omega) (by omega)
    have e2 : (fillR R h2).2 = none := g1
    simp only [e2]
    exact ⟨trivial, g2⟩
theorem legalFrom_mono (R : List S_Row) (h h2 : Int) (hh : h ≤ h2) : ∀ (L : List Int) (f : Nat), legalFrom R h f L = true → legalFrom R h2 f L = true
  | [], f, hl => hl
  | e :: L, f, hl => by
    rw [legal_cons] at hl ⊢
    obtain ⟨n, rfl, h1, h2', h3, h4, h5⟩ := next_mem hl.1
    exact ⟨(mem_next' R f n h2).2 ⟨by omega, by omega, by omega, by simpa using h5⟩, legalFrom_mono R h h2 hh L n hl.2⟩

/-- The way that some bytes choose. -/
def chosenGo (R : List S_Row) (h : Int) (bs : List Int) : Nat → Nat → Nat → List Int × Bool
  | 0, _, _ => ([], false)
  | m + 1, f, k => if f < R.length then (if next R f h = [] then ([], false) else
      let e := (next R f h).getD (if k < bs.length then ((bs.getD k 0).toNat % (next R f h).length) else (next R f h).length - 1) 0
      (e :: (chosenGo R h bs m e.toNat (k + 1)).1, (chosenGo R h bs m e.toNat (k + 1)).2)) else ([], true)
def chosen (R : List S_Row) (h : Int) (bs : List Int) : List Int × Bool :=
  if (chosenGo R h bs (R.length + 1) 0 0).2 then ((chosenGo R h bs (R.length + 1) 0 0).1, true) else ([], false)
theorem getD_mem {xs : List Int} {i : Nat} (h : i < xs.length) : xs.getD i 0 ∈ xs := by
  rw [List.getD_eq_getElem?_getD, List.getElem?_eq_getElem h]
  exact List.getElem_mem h
theorem chosen_idx (xs : List Int) (b : Nat) (p : Prop) [Decidable p] (h : xs ≠ []) : (if p then b % xs.length else xs.length - 1) < xs.length := by
  have := List.length_pos_iff.2 h
  split
  · exact Nat.mod_lt _ this
  · omega
theorem chosenGo_legal (R : List S_Row) (h : Int) (bs : List Int) : ∀ (m f k : Nat), f ≤ R.length → (chosenGo R h bs m f k).2 = true → legalFrom R h f (chosenGo R h bs m f k).1 = true
  | 0, f, k, h1, h3 => by simp [chosenGo] at h3
  | m + 1, f, k, h1, h3 => by
    by_cases hf : f < R.length
    · by_cases hn : next R f h = []
      · simp [chosenGo, hf, hn] at h3
      · simp only [chosenGo, if_pos hf, if_neg hn] at h3 ⊢
        have hmem := getD_mem (chosen_idx (next R f h) (bs.getD k 0).toNat (k < bs.length) hn)
        generalize (next R f h).getD (if k < bs.length then ((bs.getD k 0).toNat % (next R f h).length) else (next R f h).length - 1) 0 = e at hmem h3 ⊢
        rw [legal_cons]
        obtain ⟨n, rfl, _, h2', _⟩ := next_mem hmem
        exact ⟨hmem, chosenGo_legal R h bs m n (k + 1) h2' h3⟩
    · simp only [chosenGo, if_neg hf, legalFrom, beq_iff_eq]
      omega
theorem chosen_legal (R : List S_Row) (h : Int) (bs : List Int) (hc : (chosen R h bs).2 = true) : legal R (chosen R h bs).1 h = true := by
  unfold chosen at hc ⊢
  split at hc
  · rename_i hx
    rw [if_pos hx]
    exact chosenGo_legal R h bs _ 0 0 (by omega) hx
  · cases hc
theorem legal_bounds (R : List S_Row) (h : Int) : ∀ (L : List Int) (f : Nat), f ≤ R.length → legalFrom R h f L = true → (∀ e ∈ L, 0 < e ∧ e ≤ R.length) ∧ L.length + f ≤ R.length
  | [], f, hf, _ => ⟨by simp, by simpa using hf⟩
  | e :: L, f, hf, hl => by
    rw [legal_cons] at hl
    obtain ⟨n, rfl, h1, h2, _⟩ := next_mem hl.1
    obtain ⟨i1, i2⟩ := legal_bounds R h L n h2 hl.2
    refine ⟨fun x hx => ?_, by simp only [List.length_cons]; omega⟩
    rcases List.mem_cons.1 hx with rfl | hx
    · omega
    · exact i1 x hx
theorem legal_small (R : List S_Row) (L : List Int) (h : Int) (hR : R.length < 1000000) (hl : legal R L h = true) : small L := fun x hx => by
  have := (legal_bounds R h L 0 (by omega) hl).1 x hx
  omega
theorem legal_len (R : List S_Row) (L : List Int) (h : Int) (hl : legal R L h = true) : L.length ≤ R.length := by
  have := (legal_bounds R h L 0 (by omega) hl).2
  omega
theorem chosen_bounds (R : List S_Row) (h : Int) (bs : List Int) (hR : R.length < 1000000) : small (chosen R h bs).1 ∧ (chosen R h bs).1.length ≤ R.length := by
  by_cases hc : (chosen R h bs).2 = true
  · exact ⟨legal_small R _ h hR (chosen_legal R h bs hc), legal_len R _ h (chosen_legal R h bs hc)⟩
  · have : (chosen R h bs).1 = [] := by
      unfold chosen at hc ⊢
      split
      · rename_i hx; rw [if_pos hx] at hc; exact absurd rfl hc
      · rfl
    rw [this]
    exact ⟨fun x hx => by simp at hx, by simp⟩
end Go.Proofs.Ythfdgicfcjkfgaa
