/- Own work. -/
import Derived.Test.YtioockkejhpleaaDoorSp5
set_option linter.unusedSimpArgs false
set_option linter.unusedVariables false
namespace Go.Proofs.YtioockkejhpleaaDoor
open Go.Abs
abbrev Lt (v : Int) : Int := Y9.getD v.toNat 0
def isD (x : Int) : Bool := decide (x ∈ [1, 3, 9, 25, 17, 11, 27, 19, 10, 26])
theorem ten {d : Int} (h : 0 ≤ d ∧ d < 10) : d = 0 ∨ d = 1 ∨ d = 2 ∨ d = 3 ∨ d = 4 ∨ d = 5 ∨ d = 6 ∨ d = 7 ∨ d = 8 ∨ d = 9 := by omega
def undg (x : Int) : Int := if x = 1 then 1 else if x = 3 then 2 else if x = 9 then 3 else if x = 25 then 4 else if x = 17 then 5 else if x = 11 then 6 else if x = 27 then 7 else if x = 19 then 8 else if x = 10 then 9 else 0
theorem dg_facts {d : Int} (h : 0 ≤ d ∧ d < 10) : isD (dg d) = true ∧ undg (dg d) = d := by
  rcases ten h with rfl | rfl | rfl | rfl | rfl | rfl | rfl | rfl | rfl | rfl <;> exact ⟨rfl, rfl⟩
def dec (l : List Int) : Int := l.foldl (fun a x => 10 * a + undg x) 0
theorem dec_snoc (l : List Int) (x : Int) : dec (l ++ [x]) = 10 * dec l + undg x := by unfold dec; rw [List.foldl_append]; rfl
theorem digs_facts : ∀ (k : Nat) {n : Int}, 0 ≤ n → n < (10 : Int) ^ (k + 1) → n ≤ 99999 → dec (digs n) = n ∧ (∀ x ∈ digs n, isD x = true) ∧ 0 < (digs n).length
  | 0, n, h0, h1, _ => by
    rw [digs_one h0 (by simpa using h1)]
    obtain ⟨a, b⟩ := dg_facts (d := n) ⟨h0, by simpa using h1⟩
    refine ⟨by show 10 * 0 + undg (dg n) = n; rw [b]; omega, fun x hx => ?_, by simp⟩
    rw [X1k] at hx; rw [hx]; exact a
  | k + 1, n, h0, h1, h9 => by
    by_cases h : n < 10
    · exact digs_facts 0 h0 (by simpa using h) h9
    · have h2 : n / 10 < (10 : Int) ^ (k + 1) := by
        rw [Int.pow_succ] at h1
        omega
      obtain ⟨e1, e2, e3⟩ := digs_facts k (n := n / 10) (by omega) h2 (by omega)
      obtain ⟨a, b⟩ := dg_facts (d := n % 10) (by omega)
      rw [digs_step (by omega) h9]
      refine ⟨by rw [dec_snoc, e1, b]; omega, fun x hx => ?_, by simp⟩
      rcases X07.1 hx with hx | hx
      · exact e2 x hx
      · rw [X1k] at hx; rw [hx]; exact a
theorem digs_ok {n : Int} (h : 0 ≤ n ∧ n ≤ 99999) : dec (digs n) = n ∧ (∀ x ∈ digs n, isD x = true) ∧ 0 < (digs n).length := by
  have e : (10 : Int) ^ (4 + 1) = 100000 := by decide
  exact digs_facts 4 h.1 (by rw [e]; omega) h.2
theorem isD_ne {x : Int} (h : isD x = true) : x ≠ 0 ∧ x ≠ 36 ∧ x ≠ 33 ∧ x ≠ 16 ∧ x ≠ 62 ∧ x ≠ 12 := by
  have := of_decide_eq_true h
  simp only [X03, X0m, or_false] at this
  omega
theorem Y38 {n m : Int} (hn : 0 ≤ n ∧ n ≤ 99999) (hm : 0 ≤ m ∧ m ≤ 99999) {a b : List Int} (ha : ∀ x ∈ a.head?, isD x = false) (hb : ∀ x ∈ b.head?, isD x = false) (h : digs n ++ a = digs m ++ b) : n = m ∧ a = b := by
  have tw : ∀ (l r : List Int), (∀ x ∈ l, isD x = true) → (∀ x ∈ r.head?, isD x = false) → (l ++ r).takeWhile isD = l ∧ (l ++ r).dropWhile isD = r := by
    intro l r hl hr
    induction l with
    | nil =>
      cases r with
      | nil => exact ⟨rfl, rfl⟩
      | cons y r =>
        have := hr y (by simp)
        simp [List.takeWhile, List.dropWhile, this]
    | cons x l ih =>
      obtain ⟨i1, i2⟩ := ih fun y hy => hl y (by simp [hy])
      have hx := hl x (by simp)
      simp only [X06, List.takeWhile_cons, List.dropWhile_cons, hx, if_true, i1, i2, and_self]
  obtain ⟨n1, n2, _⟩ := digs_ok hn
  obtain ⟨m1, m2, _⟩ := digs_ok hm
  obtain ⟨t1, t2⟩ := tw _ _ n2 ha
  obtain ⟨s1, s2⟩ := tw _ _ m2 hb
  rw [h] at t1 t2
  have e1 : digs n = digs m := t1.symm.trans s1
  exact ⟨by rw [← n1, ← m1, e1], t2.symm.trans s2⟩
theorem Lt_nz {v : Int} (h : 0 ≤ v ∧ v ≤ 25) : Lt v ≠ 0 := by
  have := let_ok (i := v) ⟨h.1, by omega⟩
  show Y9.getD v.toNat 0 ≠ 0
  omega
theorem Lt_inj {v w : Int} (hv : 0 ≤ v ∧ v ≤ 25) (hw : 0 ≤ w ∧ w ≤ 25) (h : Lt v = Lt w) : v = w := by
  have key : ∀ a b : Fin 26, Y9.getD a.val 0 = Y9.getD b.val 0 → a = b := by decide
  have := key ⟨v.toNat, by omega⟩ ⟨w.toNat, by omega⟩ h
  have := congrArg Fin.val this
  simp only at this
  omega
def EC (e : List Y4) (c : List Int) : Prop := (∃ n : Int, (0 ≤ n ∧ n ≤ 65025) ∧ e = [⟨0, n⟩] ∧ c = 60 :: digs n) ∨ (∃ v : Int, (0 ≤ v ∧ v ≤ 25) ∧ e = [⟨1, v⟩] ∧ c = [48, Lt v]) ∨ ∃ n v : Int, (0 ≤ n ∧ n ≤ 255) ∧ v = n % 26 ∧
  ((e = [⟨2, 0⟩, ⟨1, v⟩, ⟨0, n⟩] ∧ c = 48 :: Lt v :: 44 :: 60 :: (digs n ++ [])) ∨ (e = [⟨3, 0⟩, ⟨0, n⟩, ⟨1, v⟩] ∧ c = 60 :: (digs n ++ [36, 48, Lt v])) ∨ (e = [⟨4, 0⟩, ⟨0, n⟩, ⟨1, v⟩] ∧ c = 60 :: (digs n ++ [33, 48, Lt v])) ∨
   (e = [⟨7, 0⟩, ⟨1, v⟩, ⟨0, n⟩] ∧ c = 48 :: Lt v :: 16 :: 24 :: 60 :: (digs n ++ [16])) ∨ (e = [⟨9, 0⟩, ⟨10, 0⟩, ⟨2, 0⟩, ⟨1, v⟩, ⟨0, n⟩] ∧ c = 28 :: 55 :: 48 :: Lt v :: 44 :: 60 :: (digs n ++ [62, 59])) ∨
   (e = [⟨6, 0⟩, ⟨0, n⟩, ⟨1, v⟩] ∧ c = 57 :: 60 :: (digs n ++ [12, 48, Lt v, 47])))
theorem ar_num' {n : Int} (h : 0 ≤ n ∧ n ≤ 99999) : ar ⟨0, n⟩ = some 0 := by unfold ar; rw [if_pos rfl, if_pos h]
theorem ar_var' {v : Int} (h : 0 ≤ v ∧ v ≤ 25) : ar ⟨1, v⟩ = some 0 := by
  unfold ar
  rw [if_neg (by show ¬ (1 : Int) = 0; decide), if_pos rfl, if_pos h]
abbrev tn (n : Int) : Tr := .node ⟨0, n⟩ []
abbrev tv (v : Int) : Tr := .node ⟨1, v⟩ []
theorem tn_good {n : Int} (h : 0 ≤ n ∧ n ≤ 99999) (d : Nat) : (tn n).good (d + 1) := ⟨ar_num' h, trivial, fun i k hk => by cases hk⟩
theorem tv_good {v : Int} (h : 0 ≤ v ∧ v ≤ 25) (d : Nat) : (tv v).good (d + 1) := ⟨ar_var' h, trivial, fun i k hk => by cases hk⟩
theorem two_good {o : Int} {A B : Tr} {d : Nat} (ho : ar ⟨o, 0⟩ = some 2) (hA : A.good d) (hB : B.good d) (a0 : adm ⟨o, 0⟩ 0 (hd A.flat) = true) (a1 : adm ⟨o, 0⟩ 1 (hd B.flat) = true) : (Tr.node ⟨o, 0⟩ [A, B]).good (d + 1) := by
  refine ⟨ho, ⟨hA, hB, trivial⟩, fun i k hk => ?_⟩
  match i, hk with
  | 0, hk => cases hk; exact a0
  | 1, hk => cases hk; exact a1
  | i + 2, hk => cases hk
theorem one_good {o : Int} {A : Tr} {d : Nat} (ho : ar ⟨o, 0⟩ = some 1) (hA : A.good d) (a0 : adm ⟨o, 0⟩ 0 (hd A.flat) = true) : (Tr.node ⟨o, 0⟩ [A]).good (d + 1) := by
  refine ⟨ho, ⟨hA, trivial⟩, fun i k hk => ?_⟩
  match i, hk with
  | 0, hk => cases hk; exact a0
  | i + 1, hk => cases hk
theorem EN_tree {e : List Y4} (h : EN e) : ∃ T : Tr, T.flat = e ∧ T.good 5 ∧ EC e (T.cells []) := by
  rcases h with ⟨n, h0, h1, rfl⟩ | ⟨n, h, h'⟩
  · exact ⟨tn n, rfl, tn_good ⟨h0, by omega⟩ 4, .inl ⟨n, ⟨h0, h1⟩, rfl, rfl⟩⟩
  · have hv : 0 ≤ n % 26 ∧ n % 26 ≤ 25 := by omega
    have gn := tn_good (n := n) (by omega)
    have gv := tv_good hv
    rcases h' with rfl | rfl | rfl | rfl | rfl | rfl | rfl
    · exact ⟨tv (n % 26), rfl, gv 4, .inr (.inl ⟨n % 26, hv, rfl, rfl⟩)⟩
    · exact ⟨.node ⟨2, 0⟩ [tv (n % 26), tn n], rfl, two_good rfl (gv 3) (gn 3) rfl rfl, .inr (.inr ⟨n, n % 26, h, rfl, .inl ⟨rfl, by rw [X09]; rfl⟩⟩)⟩
    · exact ⟨.node ⟨3, 0⟩ [tn n, tv (n % 26)], rfl, two_good rfl (gn 3) (gv 3) rfl rfl, .inr (.inr ⟨n, n % 26, h, rfl, .inr (.inl ⟨rfl, by show (60 :: digs n) ++ [36] ++ _ = _; rw [Xb]; rfl⟩)⟩)⟩
    · exact ⟨.node ⟨4, 0⟩ [tn n, tv (n % 26)], rfl, two_good rfl (gn 3) (gv 3) rfl rfl, .inr (.inr ⟨n, n % 26, h, rfl, .inr (.inr (.inl ⟨rfl, by show (60 :: digs n) ++ [33] ++ _ = _; rw [Xb]; rfl⟩))⟩)⟩
    · exact ⟨.node ⟨7, 0⟩ [tv (n % 26), tn n], rfl, two_good rfl (gv 3) (gn 3) rfl rfl, .inr (.inr ⟨n, n % 26, h, rfl, .inr (.inr (.inr (.inl ⟨rfl, rfl⟩)))⟩)⟩
    · refine ⟨.node ⟨9, 0⟩ [.node ⟨10, 0⟩ [.node ⟨2, 0⟩ [tv (n % 26), tn n]]], rfl, one_good rfl (one_good rfl (two_good rfl (gv 1) (gn 1) rfl rfl) rfl) rfl, .inr (.inr ⟨n, n % 26, h, rfl, .inr (.inr (.inr (.inr (.inl ⟨rfl, ?_⟩))))⟩)⟩
      show 28 :: (([] ++ (55 :: (([] ++ ([48, Lt (n % 26)] ++ [44] ++ (60 :: digs n)) ++ []) ++ [62])) ++ []) ++ [59]) = _
      simp
    · refine ⟨.node ⟨6, 0⟩ [tn n, tv (n % 26)], rfl, two_good rfl (gn 3) (gv 3) rfl rfl, .inr (.inr ⟨n, n % 26, h, rfl, .inr (.inr (.inr (.inr (.inr ⟨rfl, ?_⟩))))⟩)⟩
      show 57 :: (([] ++ (60 :: digs n) ++ ([12] ++ [48, Lt (n % 26)] ++ [])) ++ [47]) = _
      simp
theorem EC_nz {e : List Y4} {c : List Int} (h : EC e c) : (∀ x ∈ c, x ≠ 0) ∧ c ≠ [] := by
  have dz : ∀ n : Int, 0 ≤ n → n ≤ 99999 → ∀ x ∈ digs n, x ≠ 0 := fun n h0 h1 x hx => (isD_ne ((digs_ok ⟨h0, h1⟩).2.1 x hx)).1
  rcases h with ⟨n, h, rfl, rfl⟩ | ⟨v, h, rfl, rfl⟩ | ⟨n, v, h, rfl, h'⟩
  · refine ⟨fun x hx => ?_, by simp⟩
    rcases X03.1 hx with rfl | hx
    · decide
    · exact dz n h.1 (by omega) x hx
  · refine ⟨fun x hx => ?_, by simp⟩
    simp only [X03, X0m, or_false] at hx
    rcases hx with rfl | rfl
    · decide
    · exact Lt_nz h
  · have d := dz n h.1 (by omega)
    have l := Lt_nz (v := n % 26) (by omega)
    generalize Lt (n % 26) = L at l h'
    rcases h' with ⟨_, rfl⟩ | ⟨_, rfl⟩ | ⟨_, rfl⟩ | ⟨_, rfl⟩ | ⟨_, rfl⟩ | ⟨_, rfl⟩ <;>
      (refine ⟨fun x hx => ?_, by simp⟩
       simp only [X03, X07, X0m, or_false] at hx
       intro hx0
       subst hx0
       have hd0 : ¬ (0 : Int) ∈ digs n := fun h => d 0 h rfl
       have hl0 : ¬ (0 : Int) = L := fun h => l h.symm
       simp [hd0, hl0] at hx)
theorem EC_inj {e e' : List Y4} {c : List Int} (h : EC e c) (h' : EC e' c) : e = e' := by
  have hd36 : ∀ y : List Int, ∀ x ∈ ((36 : Int) :: y).head?, isD x = false := fun y x hx => by simp at hx; subst hx; rfl
  have hd33 : ∀ y : List Int, ∀ x ∈ ((33 : Int) :: y).head?, isD x = false := fun y x hx => by simp at hx; subst hx; rfl
  have hd16 : ∀ y : List Int, ∀ x ∈ ((16 : Int) :: y).head?, isD x = false := fun y x hx => by simp at hx; subst hx; rfl
  have hd62 : ∀ y : List Int, ∀ x ∈ ((62 : Int) :: y).head?, isD x = false := fun y x hx => by simp at hx; subst hx; rfl
  have hd12 : ∀ y : List Int, ∀ x ∈ ((12 : Int) :: y).head?, isD x = false := fun y x hx => by simp at hx; subst hx; rfl
  have hd0 : ∀ x ∈ ([] : List Int).head?, isD x = false := fun x hx => by simp at hx
  have nilr : ∀ n : Int, digs n = digs n ++ [] := fun n => (X09 _).symm
  have b1 : ∀ n : Int, (0 ≤ n ∧ n ≤ 65025) → 0 ≤ n ∧ n ≤ 99999 := fun n h => by omega
  have b2 : ∀ n : Int, (0 ≤ n ∧ n ≤ 255) → 0 ≤ n ∧ n ≤ 99999 := fun n h => by omega
  rcases h with ⟨n, h, rfl, rfl⟩ | ⟨v, h, rfl, rfl⟩ | ⟨n, v, h, rfl, hh⟩
  · rcases h' with ⟨m, k, rfl, q⟩ | ⟨w, k, rfl, q⟩ | ⟨m, w, k, rfl, kk⟩
    · rw [List.cons.injEq] at q
      rw [(Y38 (b1 n h) (b1 m k) hd0 hd0 (by rw [← nilr, ← nilr]; exact q.2)).1]
    · exact absurd (List.cons.inj q).1 (by decide)
    · rcases kk with ⟨_, q⟩ | ⟨_, q⟩ | ⟨_, q⟩ | ⟨_, q⟩ | ⟨_, q⟩ | ⟨_, q⟩
      · exact absurd (List.cons.inj q).1 (by decide)
      · rw [List.cons.injEq] at q
        exact absurd (Y38 (b1 n h) (b2 m k) hd0 (hd36 _) (by rw [← nilr]; exact q.2)).2 (by simp)
      · rw [List.cons.injEq] at q
        exact absurd (Y38 (b1 n h) (b2 m k) hd0 (hd33 _) (by rw [← nilr]; exact q.2)).2 (by simp)
      · exact absurd (List.cons.inj q).1 (by decide)
      · exact absurd (List.cons.inj q).1 (by decide)
      · exact absurd (List.cons.inj q).1 (by decide)
  · rcases h' with ⟨m, k, rfl, q⟩ | ⟨w, k, rfl, q⟩ | ⟨m, w, k, rfl, kk⟩
    · exact absurd (List.cons.inj q).1 (by decide)
    · simp only [List.cons.injEq, true_and, and_true] at q
      rw [Lt_inj h k q]
    · rcases kk with ⟨_, q⟩ | ⟨_, q⟩ | ⟨_, q⟩ | ⟨_, q⟩ | ⟨_, q⟩ | ⟨_, q⟩
      · simp at q
      · exact absurd (List.cons.inj q).1 (by decide)
      · exact absurd (List.cons.inj q).1 (by decide)
      · simp at q
      · exact absurd (List.cons.inj q).1 (by decide)
      · exact absurd (List.cons.inj q).1 (by decide)
  · rcases h' with ⟨m, k, rfl, q⟩ | ⟨w, k, rfl, q⟩ | ⟨m, w, k, rfl, kk⟩
    · rcases hh with ⟨_, p⟩ | ⟨_, p⟩ | ⟨_, p⟩ | ⟨_, p⟩ | ⟨_, p⟩ | ⟨_, p⟩ <;> rw [q, List.cons.injEq] at p
      · exact absurd p.1 (by decide)
      · exact absurd (Y38 (b1 m k) (b2 n h) hd0 (hd36 _) (by rw [← nilr]; exact p.2)).2 (by simp)
      · exact absurd (Y38 (b1 m k) (b2 n h) hd0 (hd33 _) (by rw [← nilr]; exact p.2)).2 (by simp)
      · exact absurd p.1 (by decide)
      · exact absurd p.1 (by decide)
      · exact absurd p.1 (by decide)
    · rcases hh with ⟨_, p⟩ | ⟨_, p⟩ | ⟨_, p⟩ | ⟨_, p⟩ | ⟨_, p⟩ | ⟨_, p⟩ <;> rw [q] at p <;> simp at p
    · rcases hh with ⟨rfl, p⟩ | ⟨rfl, p⟩ | ⟨rfl, p⟩ | ⟨rfl, p⟩ | ⟨rfl, p⟩ | ⟨rfl, p⟩ <;> rcases kk with ⟨rfl, q⟩ | ⟨rfl, q⟩ | ⟨rfl, q⟩ | ⟨rfl, q⟩ | ⟨rfl, q⟩ | ⟨rfl, q⟩ <;> rw [p] at q <;> simp only [List.cons.injEq, true_and, reduceCtorEq, false_and, and_false, Int.reduceEq] at q
      · rw [(Y38 (b2 n h) (b2 m k) hd0 hd0 q.2).1]
      · rw [(Y38 (b2 n h) (b2 m k) (hd36 _) (hd36 _) q).1]
      · exact absurd (Y38 (b2 n h) (b2 m k) (hd36 _) (hd33 _) q).2 (by simp)
      · exact absurd (Y38 (b2 n h) (b2 m k) (hd33 _) (hd36 _) q).2 (by simp)
      · rw [(Y38 (b2 n h) (b2 m k) (hd33 _) (hd33 _) q).1]
      · rw [(Y38 (b2 n h) (b2 m k) (hd16 _) (hd16 _) q.2).1]
      · rw [(Y38 (b2 n h) (b2 m k) (hd62 _) (hd62 _) q.2).1]
      · rw [(Y38 (b2 n h) (b2 m k) (hd12 _) (hd12 _) q).1]
end Go.Proofs.YtioockkejhpleaaDoor
