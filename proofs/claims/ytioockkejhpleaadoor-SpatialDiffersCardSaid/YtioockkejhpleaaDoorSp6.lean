/- Own work. -/
import Derived.Test.YtioockkejhpleaaDoorSp6a
set_option linter.unusedSimpArgs false
set_option linter.unusedVariables false
namespace Go.Proofs.YtioockkejhpleaaDoor
open Go.Abs
theorem loop_all {b : (Int → Option Bool) → Int → Option Bool} (n : Nat) (p : Nat → Bool) (hn : n < 900000) (step : ∀ (loop : Int → Option Bool) (k : Nat), k < n → b loop (k : Int) = if p k = true then loop ((k + 1 : Nat) : Int) else some false) (fin : ∀ loop : Int → Option Bool, b loop (n : Int) = some true) :
    ∃ r : Bool, iter b 1000000 (0 : Int) = some r ∧ (r = true ↔ ∀ k, k < n → p k = true) := by
  have run : ∀ (j k q : Nat), k + j = n → ∃ r : Bool, iter b (q + 1 + j) (k : Int) = some r ∧ (r = true ↔ ∀ i, k ≤ i → i < n → p i = true) := by
    intro j
    induction j with
    | zero =>
      intro k q hk
      obtain rfl : k = n := by omega
      rw [X0d, Yy, fin]
      exact ⟨true, rfl, by simp; omega⟩
    | succ j ih =>
      intro k q hk
      rw [show q + 1 + (j + 1) = (q + 1 + j) + 1 by omega, Yy, step _ k (by omega)]
      by_cases hp : p k = true
      · rw [if_pos hp]
        obtain ⟨r, e1, e2⟩ := ih (k + 1) q (by omega)
        refine ⟨r, e1, e2.trans ⟨fun h i h1 h2 => ?_, fun h i h1 h2 => h i (by omega) h2⟩⟩
        by_cases e : i = k
        · rw [e]; exact hp
        · exact h i (by omega) h2
      · rw [if_neg hp]
        exact ⟨false, rfl, by constructor
                              · intro h; cases h
                              · intro h; exact absurd (h k (Xi _) (by omega)) hp⟩
  obtain ⟨r, e1, e2⟩ := run n 0 (999999 - n) (by omega)
  rw [show 999999 - n + 1 + n = 1000000 by omega] at e1
  exact ⟨r, e1, e2.trans ⟨fun h k hk => h k (Nat.zero_le _) hk, fun h k _ hk => h k hk⟩⟩
theorem ext_getD {α : Type} {a b : List α} {d : α} (hl : a.length = b.length) (h : ∀ k, k < a.length → a.getD k d = b.getD k d) : a = b := by
  refine X19 hl fun i h1 h2 => ?_
  have := h i h1
  rw [Xf, Xf, X6 h1, X6 h2] at this
  exact this
theorem Same_ok {a b : List Y4} (ha : a.length ≤ 1000) : ∃ r : Bool, f_R11_Same a b = some r ∧ (r = true ↔ a = b) := by
  unfold f_R11_Same
  by_cases hl : a.length = b.length
  · rw [cn_neg (by omega)]
    obtain ⟨r, e1, e2⟩ := loop_all (b := fun loop s => Y3p a b loop s) a.length (fun k => decide (a.getD k Y7 = b.getD k Y7)) (by omega) (fun loop k hk => by
      show Y3p a b loop (k : Int) = _
      unfold Y3p
      rw [Y0b (by omega), Y01 (by omega), Y01 (by omega), Xa]
      by_cases he : a.getD k Y7 = b.getD k Y7
      · rw [he]
        have c0 : xor true (([(b.getD k Y7).Op == (b.getD k Y7).Op, (b.getD k Y7).N == (b.getD k Y7).N] : List Bool).all id) = false := by rw [beq_self_eq_true, beq_self_eq_true]; rfl
        rw [c0, cond_false, Y09 (by omega), if_pos (decide_eq_true rfl)]; rfl
      · have c0 : xor true (([(a.getD k Y7).Op == (b.getD k Y7).Op, (a.getD k Y7).N == (b.getD k Y7).N] : List Bool).all id) = true := by
          have : (([(a.getD k Y7).Op == (b.getD k Y7).Op, (a.getD k Y7).N == (b.getD k Y7).N] : List Bool).all id) = false := by
            apply Bool.eq_false_iff.2
            intro h
            simp only [X1f, List.all_nil, id, Bool.and_true, X3, beq_iff_eq] at h
            refine he ?_
            cases hx : a.getD k Y7
            cases hy : b.getD k Y7
            rw [hx, hy] at h
            obtain ⟨h1, h2⟩ := h
            simp only at h1 h2
            rw [h1, h2]
          rw [this]; rfl
        rw [c0, cond_true, if_neg (by rw [decide_eq_true_eq]; exact he)]) (fun loop => by
      show Y3p a b loop (a.length : Int) = _
      unfold Y3p
      rw [Y07 (by omega)])
    refine ⟨r, e1, e2.trans ⟨fun h => ext_getD (d := Y7) hl fun k hk => of_decide_eq_true (h k hk), fun h k hk => by rw [h]; exact decide_eq_true rfl⟩⟩
  · rw [cn_pos (by omega)]
    exact ⟨false, rfl, by constructor
                          · intro h; cases h
                          · intro h; exact absurd (by rw [h]) hl⟩
def trimF (t : List Int) : List Int := t.take (tlen t t.length)
theorem SameRows_ok {a b : List (List Int)} (ha : a.length ≤ 1000) (h1 : ∀ x ∈ a, x.length ≤ 100000) (h2 : ∀ x ∈ b, x.length ≤ 100000) : ∃ r : Bool, Y4j a b = some r ∧ (r = true ↔ a.map trimF = b.map trimF) := by
  unfold Y4j
  by_cases hl : a.length = b.length
  · rw [cn_neg (by omega)]
    obtain ⟨r, e1, e2⟩ := loop_all (b := fun loop s => Y1t a b loop s) a.length (fun k => decide (trimF (a.getD k []) = trimF (b.getD k []))) (by omega) (fun loop k hk => by
      show Y1t a b loop (k : Int) = _
      have q1 := h1 _ (Y3w (d := []) hk)
      have q2 := h2 _ (Y3w (d := []) (by omega : k < b.length))
      unfold Y1t
      rw [Y0b (by omega), Y01 (by omega), Xa, Trim_ok q1, X0, Y01 (by omega), Trim_ok q2, X0, SameCells_eq _ _ (by rw [Xt]; omega), X0]
      show cond (!decide (trimF (a.getD k []) = trimF (b.getD k []))) _ _ = _
      by_cases he : trimF (a.getD k []) = trimF (b.getD k [])
      · rw [decide_eq_true he, show (!true) = false from rfl, cond_false, Y09 (by omega), if_pos rfl]; rfl
      · rw [decide_eq_false he, show (!false) = true from rfl, cond_true, if_neg (by decide)]) (fun loop => by
      show Y1t a b loop (a.length : Int) = _
      unfold Y1t
      rw [Y07 (by omega)])
    refine ⟨r, e1, e2.trans ⟨fun h => ?_, fun h k hk => ?_⟩⟩
    · refine X19 (by simp [hl]) fun i q1 q2 => ?_
      rw [Xh] at q1 q2
      have := of_decide_eq_true (h i q1)
      rw [Xf, Xf, X6 q1, X6 q2] at this
      simpa using this
    · refine decide_eq_true ?_
      have := congrArg (fun l => l.getD k []) h
      simp only [Xf, Xw, X6 hk, X6 (by omega : k < b.length), Xp, Xm] at this ⊢
      exact this
  · rw [cn_pos (by omega)]
    exact ⟨false, rfl, by constructor
                          · intro h; cases h
                          · intro h; exact absurd (by have := congrArg List.length h; simpa using this) hl⟩
/- The words of a row. -/
def wd : List Int → List Int → List (List Int)
  | acc, [] => if acc = [] then [] else [acc]
  | acc, x :: r => if x = 0 then (if acc = [] then wd [] r else acc :: wd [] r) else wd (acc ++ [x]) r
theorem wd_word : ∀ (a acc r : List Int), (∀ x ∈ a, x ≠ 0) → wd acc (a ++ r) = wd (acc ++ a) r
  | [], acc, r, _ => by simp
  | x :: a, acc, r, h => by
    rw [X06, wd, if_neg (h x (by simp)), wd_word a _ r fun y hy => h y (by simp [hy]), Xb]; rfl
theorem wd_zero {acc r : List Int} (h : acc ≠ []) : wd acc (0 :: r) = acc :: wd [] r := by rw [wd, if_pos rfl, if_neg h]
theorem wd_z0 (r : List Int) : wd [] (0 :: r) = wd [] r := by rw [wd, if_pos rfl, if_pos rfl]
theorem wd_zs (r : List Int) : ∀ k, wd [] (rp k 0 ++ r) = wd [] r
  | 0 => rfl
  | k + 1 => by
    show wd [] (0 :: (rp k 0 ++ r)) = _
    rw [wd_z0, wd_zs r k]
theorem wd_nil {a : List Int} (h : ∀ x ∈ a, x ≠ 0) (hn : a ≠ []) : wd [] a = [a] := by
  have := wd_word a [] [] h
  rw [X09, X02] at this
  rw [this, wd, if_neg hn]
theorem wd_sep {x r : List Int} (h : x ≠ []) : ∀ p, wd x (rp p 0 ++ 0 :: r) = x :: wd [] r
  | 0 => wd_zero h
  | p + 1 => by
    show wd x (0 :: (rp p 0 ++ 0 :: r)) = _
    rw [wd_zero h, wd_zs, wd_z0]
theorem wd_trail : ∀ (a acc : List Int) (k : Nat), wd acc (a ++ rp k 0) = wd acc a
  | [], acc, 0 => by simp
  | [], acc, k + 1 => by
    have hz : wd [] (rp k 0) = [] := by
      have := wd_zs [] k
      rw [X09] at this
      rw [this]; rfl
    show (if (0 : Int) = 0 then (if acc = [] then wd [] (rp k 0) else acc :: wd [] (rp k 0)) else wd (acc ++ [0]) (rp k 0)) = (if acc = [] then [] else [acc])
    rw [if_pos rfl, hz]
  | x :: a, acc, k => by
    rw [X06, wd, wd]
    split
    · split
      · exact wd_trail a [] k
      · rw [wd_trail a [] k]
    · exact wd_trail a _ k
theorem trim_wd (t : List Int) : wd [] (trimF t) = wd [] t := by
  have hd : t.drop (tlen t t.length) = rp (t.length - tlen t t.length) 0 := by
    refine List.eq_replicate_iff.2 ⟨by simp, fun b hb => ?_⟩
    obtain ⟨i, hi, rfl⟩ := X13.1 hb
    rw [X1i] at hi
    rw [List.getElem_drop]
    apply Classical.byContradiction
    intro hne
    have := tlen_gt (t := t) t.length (tlen t t.length + i) (by omega) (by rw [Xf, X6 (by omega)]; exact hne)
    omega
  have : t = trimF t ++ rp (t.length - tlen t t.length) 0 := by
    rw [← hd]; exact (X0k _ t).symm
  conv => rhs; rw [this]
  rw [wd_trail]
def Wd (x : List Int) : Prop := (∀ y ∈ x, y ≠ 0) ∧ x ≠ []
theorem wd_rowL (w : Nat) {a : Int} {x : List Int} (hx : Wd x) : wd [] (rowL w a x) = if a = 0 then [x] else [[a], x] := by
  have h1 : wd [] (0 :: (rp (w - x.length) 0 ++ x)) = [x] := by rw [wd_z0, wd_zs, wd_nil hx.1 hx.2]
  show wd [] (a :: 0 :: (rp (w - x.length) 0 ++ x)) = _
  split
  · rename_i e
    rw [e, wd_z0, h1]
  · rename_i e
    rw [wd, if_neg e, X02, wd_zero (by simp), wd_zs, wd_nil hx.1 hx.2]
theorem wd_rowR (w : Nat) {a : Int} {x : List Int} (hx : Wd x) : wd [] (rowR w a x) = if a = 0 then [x] else [[a], x] := by
  show wd [] (a :: 0 :: (x ++ rp (w - x.length) 0)) = _
  split
  · rename_i e
    rw [e, wd_z0, wd_z0, wd_trail, wd_nil hx.1 hx.2]
  · rename_i e
    rw [wd, if_neg e, X02, wd_zero (by simp), wd_trail, wd_nil hx.1 hx.2]
theorem wd_cells {l : List (List Int)} {r c : Nat} {w : Nat → Nat} (hl : l.length = r * c) (hx : ∀ x ∈ l, Wd x) {i : Nat} (hi : i < r) : ∀ m j, j + m = c → wd [] (((List.range' j m).map (mcell l c w i)).flatten ++ [0, 62]) = (List.range' j m).map (fun j => l.getD (i * c + j) []) ++ [[62]]
  | 0, j, h => by
    show wd [] [0, 62] = [[62]]
    rfl
  | m + 1, j, h => by
    have ih := wd_cells (w := w) hl hx hi m (j + 1) (by omega)
    obtain ⟨x1, x2⟩ := hx _ (Y3w (d := []) (mat_lt hl hi (by omega : j < c)))
    rw [List.range'_succ, Xs, Xs, Xr, X06, ← ih, Xb]
    unfold mcell
    rw [Xb, wd_word _ _ _ x1, X02, Xb]
    by_cases hm : j + 1 < c
    · rw [if_pos hm]
      show wd _ (rp _ 0 ++ 0 :: (0 :: _)) = _
      rw [wd_sep x2, wd_z0]; rfl
    · have hm0 : m = 0 := by omega
      subst hm0
      rw [if_neg hm]
      show wd _ (rp _ 0 ++ 0 :: [62]) = _
      rw [wd_sep x2]; rfl
theorem wd_mrow {l : List (List Int)} {r c : Nat} {w : Nat → Nat} (hl : l.length = r * c) (hx : ∀ x ∈ l, Wd x) {i : Nat} (hi : i < r) : wd [] (mrow l c w i) = [55] :: ((List.range c).map (fun j => l.getD (i * c + j) []) ++ [[62]]) := by
  unfold mrow mpre
  rw [Xb, List.range_eq_range', ← wd_cells (w := w) hl hx hi c 0 (by omega)]
  show wd [] (55 :: 0 :: _) = _
  rw [wd, if_neg (by decide), X02, wd_zero (by simp)]
  rfl
def keyOf (n : Y4) (l : List (List Int)) : List (List (List Int)) := (Y3t n l).map (wd [])
section
variable {f : List Y4} {n : Y4} {ks : List Tr} {d : Nat}
theorem key_sum {l : List (List Int)} (h12 : n.Op = 12) (hp : 0 < l.length) (hx : ∀ x ∈ l, Wd x) : keyOf n l = (l.take (l.length - 1)).map (fun x => [[44], x]) ++ [[rp (mx l + 2) 36], [l.getD (l.length - 1) []]] := by
  unfold keyOf Y3t sumRows
  rw [if_pos h12, X0s, X1c]
  congr 1
  · refine X14 fun x hxm => ?_
    show wd [] (rowL _ 44 x) = _
    rw [wd_rowL _ (hx x (X0w hxm)), if_neg (by decide)]
  · show [wd [] (rp (mx l + 2) 36), wd [] (rowL _ 0 _)] = _
    rw [wd_rowL _ (hx _ (Y3w (by omega))), if_pos rfl, wd_nil (fun x hx => by rw [(X11.1 hx).2]; decide) (by simp)]
theorem key_frac {l : List (List Int)} (h6 : n.Op = 6) (h2 : l.length = 2) (hx : ∀ x ∈ l, Wd x) : keyOf n l = [[[57], l.getD 0 []], [rp (mx l + 2) 36], [l.getD 1 []]] := by
  unfold keyOf Y3t fracRows
  rw [if_neg (by omega), if_neg (by omega)]
  show [wd [] (rowR _ 57 _), wd [] (rp (mx l + 2) 36), wd [] (rowR _ 0 _)] = _
  rw [wd_rowR _ (hx _ (Y3w (by omega))), if_neg (by decide), wd_rowR _ (hx _ (Y3w (by omega))), if_pos rfl, wd_nil (fun x hx => by rw [(X11.1 hx).2]; decide) (by simp)]
theorem key_mat {l : List (List Int)} {r c : Nat} (h13 : n.Op = 13) (er : r = (n.N / 8).toNat) (ec : c = (n.N % 8).toNat) (hl : l.length = r * c) (hx : ∀ x ∈ l, Wd x) : keyOf n l = (List.range r).map fun i => [55] :: ((List.range c).map (fun j => l.getD (i * c + j) []) ++ [[62]]) := by
  unfold keyOf Y3t Y29
  rw [if_neg (by omega), if_pos h13, ← er, ← ec, X1c]
  refine X14 fun i hi => ?_
  exact wd_mrow hl hx (Xl.1 hi)
theorem MadeP.entries (h : MadeP f) (F : Fml f n ks d) (hop : n.Op = 12 ∨ n.Op = 13 ∨ n.Op = 6) : ∀ k ∈ ks, EC k.flat (k.cells []) := by
  have key : ∀ (top : Y4) (es : List (List Y4)), f = top :: es.flatten → (∀ e ∈ es, EN e) → ∀ k ∈ ks, EC k.flat (k.cells []) := by
    intro top es he hE k hk
    have h1 : (ks.map Tr.flat).flatten = es.flatten := by
      have := F.eq
      rw [he, List.cons.injEq, Y3k] at this
      exact this.2.symm
    have hT : ∀ e ∈ es, IsT 5 e := fun e he => by
      obtain ⟨T, e1, e2, _⟩ := EN_tree (hE e he)
      rw [← e1]; exact Y3u 5 T e2
    have hlen := F.len
    rw [F.eq, X7, Y3k] at hlen
    have h2 := flatten_inj _ _ F.kids hT h1 (by omega)
    have hk2 : k.flat ∈ es := by rw [← h2]; exact Xy.2 ⟨k, hk, rfl⟩
    obtain ⟨T, e1, e2, e3⟩ := EN_tree (hE _ hk2)
    have hl5 := (EN.okN (hE _ hk2)).2.2
    have := good_inj _ _ T k e2 (Y2x.1 F.good k hk) e1 (by rw [e1]; omega)
    rw [← e1, ← this]; rw [← e1] at e3; exact e3
  rcases h with h | ⟨top, es, h1, h2, _⟩
  · have hn : f.getD 0 Y7 = n := by rw [F.eq]; rfl
    rcases h with ⟨m, _, _, rfl⟩ | ⟨m, hm, rfl | rfl | rfl | rfl | rfl | rfl | rfl⟩
    all_goals first
      | (exfalso; rw [← hn] at hop; simp only [X0l] at hop; omega)
      | skip
    refine key ⟨6, 0⟩ [[⟨0, m⟩], [⟨1, m % 26⟩]] rfl fun e he => ?_
    simp only [X03, X0m, or_false] at he
    rcases he with rfl | rfl
    · exact .inl ⟨m, hm.1, by omega, rfl⟩
    · refine .inr ⟨m % 26, by omega, .inl ?_⟩
      rw [Int.emod_emod_of_dvd m (by decide : (26 : Int) ∣ 26)]
  · exact key top es h1 h2
theorem take_last {α : Type} (l : List α) (d : α) (h : 0 < l.length) : l = l.take (l.length - 1) ++ [l.getD (l.length - 1) d] := by
  have := take_snoc l (l.length - 1) d (by omega)
  rw [← this, show l.length - 1 + 1 = l.length by omega, Xu (Xi _)]
theorem key_inj {f' : List Y4} {n' : Y4} {ks' : List Tr} {d' : Nat} (F : Fml f n ks d) (F' : Fml f' n' ks' d') (hop : n.Op = 12 ∨ n.Op = 13 ∨ n.Op = 6) (hop' : n'.Op = 12 ∨ n'.Op = 13 ∨ n'.Op = 6) (hE : ∀ k ∈ ks, EC k.flat (k.cells [])) (hE' : ∀ k ∈ ks', EC k.flat (k.cells []))
    (h : keyOf n (ks.map fun k => k.cells []) = keyOf n' (ks'.map fun k => k.cells [])) : f = f' := by
  have wdE : ∀ (ks : List Tr), (∀ k ∈ ks, EC k.flat (k.cells [])) → ∀ x ∈ ks.map (fun k => k.cells []), Wd x := by
    intro ks hE x hx
    obtain ⟨k, hk, rfl⟩ := Xy.1 hx
    exact EC_nz (hE k hk)
  have hx := wdE ks hE
  have hx' := wdE ks' hE'
  -- it is enough that the nodes and the cells agree
  have fin : n = n' → (ks.map fun k => k.cells []) = (ks'.map fun k => k.cells []) → f = f' := by
    intro hn hl
    have hlen : ks.length = ks'.length := by have := congrArg List.length hl; simpa using this
    have hk : ks.map Tr.flat = ks'.map Tr.flat := by
      refine X19 (by simp [hlen]) fun i q1 q2 => ?_
      rw [Xh] at q1 q2
      rw [List.getElem_map, List.getElem_map]
      have e := congrArg (fun l => l[i]?) hl
      simp only [Xw, X6 q1, X6 q2, Xp, X1] at e
      have a1 := hE _ (X18 q1)
      have a2 := hE' _ (X18 q2)
      rw [e] at a1
      exact EC_inj a1 a2
    rw [F.eq, F'.eq, hn, Y3k, Y3k, hk]
  have hL : ∀ ks : List Tr, (ks.map fun k => k.cells []).length = ks.length := fun ks => Xh _
  have cnt12 : ∀ {n : Y4} {ks : List Tr}, ar n = some ks.length → n.Op = 12 → (ks.length : Int) = n.N + 1 ∧ 2 ≤ n.N := fun ha e => by have := ar_tab ha e; exact ⟨this.1, this.2.1⟩
  have cnt6 : ∀ {n : Y4} {ks : List Tr}, ar n = some ks.length → n.Op = 6 → ks.length = 2 ∧ n.N = 0 := fun {n ks} ha e => by
    refine ⟨ar_two ha (by omega) (by omega), ?_⟩
    unfold ar at ha
    rw [if_neg (by omega), if_neg (by omega), if_pos (by omega)] at ha
    split at ha
    · assumption
    · cases ha
  have node : n.Op = n'.Op → n.N = n'.N → n = n' := by
    intro h1 h2
    cases n; cases n'
    simp only at h1 h2
    rw [h1, h2]
  -- the first word of the first row tells the operator
  have first : ∀ {n : Y4} {ks : List Tr} {f : List Y4} {d : Nat}, Fml f n ks d → (n.Op = 12 ∨ n.Op = 13 ∨ n.Op = 6) → (∀ x ∈ ks.map (fun k => k.cells []), Wd x) → ((keyOf n (ks.map fun k => k.cells [])).getD 0 []).getD 0 [] = [if n.Op = 12 then 44 else if n.Op = 13 then 55 else 57] := by
    intro n ks f d F hop hx
    rcases hop with e | e | e
    · have := cnt12 F.ar e
      rw [key_sum e (by rw [hL]; omega) hx, if_pos e]
      obtain ⟨a, l, hal⟩ : ∃ a l, (ks.map fun k => k.cells []).take ((ks.map fun k => k.cells []).length - 1) = a :: l := by
        cases hq : (ks.map fun k => k.cells []).take ((ks.map fun k => k.cells []).length - 1) with
        | nil =>
          have := congrArg List.length hq
          rw [Xt, hL, X8] at this
          omega
        | cons a l => exact ⟨a, l, rfl⟩
      rw [hal]; rfl
    · obtain ⟨r, c, e1, e2, e3, e4, e5, e6, e7, e8, e9⟩ := mat_dims F.ar e
      rw [key_mat e e3 e4 (by rw [hL]; exact e9) hx, if_neg (by omega), if_pos e]
      obtain ⟨r', rfl⟩ : ∃ r', r = r' + 1 := ⟨r - 1, by omega⟩
      rw [List.range_succ_eq_map]; rfl
    · rw [key_frac e (by rw [hL]; exact (cnt6 F.ar e).1) hx, if_neg (by omega), if_neg (by omega)]; rfl
  have hop2 : n.Op = n'.Op := by
    have a1 := first F hop hx
    rw [h, first F' hop' hx'] at a1
    simp only [List.cons.injEq, and_true] at a1
    rcases hop with e | e | e <;> rcases hop' with e' | e' | e' <;> rw [e, e'] at a1 ⊢ <;> simp at a1
  rcases hop with e | e | e
  · have e' : n'.Op = 12 := by omega
    have c1 := cnt12 F.ar e
    have c2 := cnt12 F'.ar e'
    rw [key_sum e (by rw [hL]; omega) hx, key_sum e' (by rw [hL]; omega) hx'] at h
    have hlen : ks.length = ks'.length := by
      have := congrArg List.length h
      simp only [X2, Xh, Xt, X7, X8] at this
      omega
    obtain ⟨h1, h2⟩ := List.append_inj h (by simp only [Xh, Xt]; omega)
    refine fin (node hop2 (by omega)) ?_
    have h3 : (ks.map fun k => k.cells []).take ((ks.map fun k => k.cells []).length - 1) = (ks'.map fun k => k.cells []).take ((ks'.map fun k => k.cells []).length - 1) := by
      have := congrArg (List.map fun y : List (List Int) => y.getD 1 []) h1
      rw [X1c, X1c] at this
      have idm : ∀ l : List (List Int), l.map ((fun y : List (List Int) => y.getD 1 []) ∘ fun x => [[44], x]) = l := fun l => by
        conv => rhs; rw [← List.map_id l]
        rfl
      rw [idm, idm] at this
      exact this
    simp only [List.cons.injEq, and_true] at h2
    rw [take_last (ks.map fun k => k.cells []) [] (by rw [hL]; omega), take_last (ks'.map fun k => k.cells []) [] (by rw [hL]; omega), h3, h2.2]
  · have e' : n'.Op = 13 := by omega
    obtain ⟨r, c, m1, m2, m3, m4, m5, m6, m7, m8, m9⟩ := mat_dims F.ar e
    obtain ⟨r', c', p1, p2, p3, p4, p5, p6, p7, p8, p9⟩ := mat_dims F'.ar e'
    rw [key_mat e m3 m4 (by rw [hL]; exact m9) hx, key_mat e' p3 p4 (by rw [hL]; exact p9) hx'] at h
    have hr : r = r' := by have := congrArg List.length h; simpa using this
    subst hr
    have row : ∀ i, i < r → (List.range c).map (fun j => (ks.map fun k => k.cells []).getD (i * c + j) []) = (List.range c').map (fun j => (ks'.map fun k => k.cells []).getD (i * c' + j) []) := by
      intro i hi
      have := congrArg (fun l => l[i]?) h
      simp only [Xw, X15 hi, Xp, X1, List.cons.injEq, true_and] at this
      exact List.append_cancel_right this
    have hc : c = c' := by have := congrArg List.length (row 0 (by omega)); simpa using this
    subst hc
    have hN : n.N = n'.N := by
      have a1 := ar_N F.ar
      have a2 := ar_N F'.ar
      have b1 := X0c (b := 8) a1.1
      have b2 := X0c (b := 8) a2.1
      have b3 := tmod_n a1.1 8
      have b4 := tmod_n a2.1 8
      omega
    refine fin (node hop2 hN) ?_
    refine ext_getD (d := []) (by rw [hL, hL]; omega) fun k hk => ?_
    rw [hL, m9] at hk
    have hi : k / c < r := Nat.div_lt_of_lt_mul (by rw [Nat.mul_comm]; exact hk)
    have hj : k % c < c := Nat.mod_lt _ (by omega)
    have := congrArg (fun l => l[k % c]?) (row _ hi)
    simp only [Xw, X15 hj, Xp, X1] at this
    rw [show k / c * c + k % c = k by rw [Nat.mul_comm]; exact Nat.div_add_mod k c] at this
    exact this
  · have e' : n'.Op = 6 := by omega
    obtain ⟨c1, c3⟩ := cnt6 F.ar e
    obtain ⟨c2, c4⟩ := cnt6 F'.ar e'
    rw [key_frac e (by rw [hL]; exact c1) hx, key_frac e' (by rw [hL]; exact c2) hx'] at h
    simp only [List.cons.injEq, and_true, true_and] at h
    refine fin (node hop2 (by omega)) ?_
    refine ext_getD (d := []) (by rw [hL, hL]; omega) fun k hk => ?_
    rw [hL] at hk
    rcases (by omega : k = 0 ∨ k = 1) with rfl | rfl
    · exact h.1
    · exact h.2.2
end
theorem lay_cases {f : List Y4} (hP : MadeP f) : ∃ rows e, Y2m f = some (rows, e) ∧ (e ≠ 0 ∨ (e = 0 ∧ ∃ n ks d, Fml f n ks d ∧ (n.Op = 12 ∨ n.Op = 13 ∨ n.Op = 6) ∧ rows = Y3t n (ks.map fun k => k.cells []) ∧ rows.length ≤ 10 ∧ ∀ x ∈ rows, x.length ≤ 24)) := by
  rcases Lays_agree hP.okN.1 with ⟨a1, a2, _⟩ | ⟨n, ks, d, F, a1, a2⟩
  · exact ⟨[], 90, a1, .inl (by decide)⟩
  · unfold layOf at a1
    split at a1
    · rename_i hop
      unfold chk at a1
      split at a1
      · exact ⟨[], 110, a1, .inl (by decide)⟩
      · rename_i h24
        obtain ⟨W, hW⟩ := rows_ok F hop
        have hp := rows_pos F hop
        have w0 := (hW _ (Y3w (d := []) hp)).1
        exact ⟨_, 0, a1, .inr ⟨rfl, n, ks, d, F, hop, rfl, rows_small F hop, fun x hx => by have := (hW x hx).1; omega⟩⟩
    · exact ⟨[], 110, a1, .inl (by decide)⟩
theorem Differs_k1 {f g : List Y4} (hf : MadeP f) (hg : MadeP g) : Y1i true f g = some true := by
  unfold Y1i
  obtain ⟨ra, ea, a1, a2⟩ := lay_cases hf
  obtain ⟨rb, eb, b1, b2⟩ := lay_cases hg
  rw [a1, X0, b1, X0]
  rcases a2 with a2 | ⟨rfl, n, ks, d, F, hop, hra, la, wa⟩
  · rw [show ((ra, ea).2 != (0 : Int)) = true from bne_iff_ne.2 a2]; rfl
  rcases b2 with b2 | ⟨rfl, n', ks', d', F', hop', hrb, lb, wb⟩
  · rw [show ((rb, eb).2 != (0 : Int)) = true from bne_iff_ne.2 b2]
    show cond (cond ((0 : Int) != 0) true true) _ _ = _
    rfl
  obtain ⟨r1, q1, q2⟩ := SameRows_ok (a := ra) (b := rb) (by omega) (fun x hx => by have := wa x hx; omega) (fun x hx => by have := wb x hx; omega)
  obtain ⟨r2, q3, q4⟩ := Same_ok (a := f) (b := g) (by have := hf.okN.2.2; omega)
  show cond (cond ((0 : Int) != 0) true ((0 : Int) != 0)) _ _ = _
  rw [show (cond ((0 : Int) != 0) true ((0 : Int) != 0)) = false from rfl, cond_false]
  show (Y4j ra rb).bind _ = _
  rw [q1, X0, q3, X0]
  have : r1 = r2 := by
    apply Bool.eq_iff_iff.2
    rw [q2, q4]
    constructor
    · intro h
      refine key_inj F F' hop hop' (hf.entries F hop) (hg.entries F' hop') ?_
      unfold keyOf
      rw [← hra, ← hrb]
      have h2 := congrArg (List.map (wd [])) h
      rw [X1c, X1c] at h2
      have e : ∀ l : List (List Int), l.map (wd [] ∘ trimF) = l.map (wd []) := fun l => X14 fun x _ => trim_wd x
      rw [e, e] at h2
      exact h2
    · intro h
      subst h
      rw [a1] at b1
      simp only [X1, Prod.mk.injEq, and_true] at b1
      rw [b1]
  rw [this, beq_self_eq_true]; rfl
theorem plain_SpatialDiffers {t0 t1 : Y39} {t2 : Int} (h0 : okS_Raw t0) (h1 : okS_Raw t1) (h2 : okInt .u8 t2) (hlen : t0.L.length * 2 ≤ 140737488355328) : Y3y t0 t1 t2 = some true := by
  obtain ⟨f, e1, e2⟩ := Made_ok h0
  obtain ⟨g, e3, e4⟩ := Made_ok h1
  have g2 : 0 ≤ t2 ∧ t2 ≤ 255 := h2
  unfold Y3y
  have hs : f_L11_sanity = some true := rfl
  rw [hs, X0, e1, X0, e3, X0]
  by_cases hodd : Int.tmod t2 2 = 1
  case neg => rw [Yi hodd]; exact Differs_k1 e2 e4
  have hL := h0.2.2
  have k2 : ∀ y : Y39, okS_Raw y → Y1h true f y = some true := by
    intro y hy
    obtain ⟨g', e5, e6⟩ := Made_ok hy
    unfold Y1h
    rw [e5, X0]
    exact Differs_k1 e2 e6
  rw [Yo hodd, X02, X8, X0i, Y0e (by omega)]
  by_cases hn : (0 : Int) < ((t0.L.length : Nat) : Int)
  · rw [Y0b hn, wrap_i64 (by omega), tmod_n g2.1, Y01 (by omega), Y01 ⟨Int.emod_nonneg _ (by omega), Int.emod_lt_of_pos _ hn⟩]
    refine k2 _ ⟨h0.1, h0.2.1, fun x hx => ?_, ?_⟩
    · rcases List.mem_or_eq_of_mem_set hx with hx | rfl
      · exact hL.1 x hx
      · refine ⟨fun y hy => ?_, rfl⟩
        have hd : Int.tdiv t2 2 = t2 / 2 := X0c g2.1
        have hw : IntKind.wrap .u8 (Int.tdiv t2 2) = t2 / 2 := by
          rw [hd]
          show (t2 / 2) % 256 = _
          omega
        simp only [X03, X0m, or_false] at hy
        rcases hy with rfl | rfl
        · exact h2
        · show 0 ≤ _ ∧ _ ≤ 255
          rw [hw]; omega
    · rw [List.length_set]; exact hL.2
  · rw [Y07 hn]
    exact k2 _ ⟨h0.1, h0.2.1, hL⟩
end Go.Proofs.YtioockkejhpleaaDoor
