/- Own work. -/
import Derived.Test.YtioockkejhpleaaDoorFm10
set_option linter.unusedSimpArgs false
set_option linter.unusedVariables false
namespace Go.Proofs.YtioockkejhpleaaDoor
open Go.Abs
inductive Tr where
  | node (n : Y4) (ks : List Tr)
mutual
def Tr.flat : Tr → List Y4
  | .node n ks => n :: Y1o ks
def Y1o : List Tr → List Y4
  | [] => []
  | k :: ks => k.flat ++ Y1o ks
end
mutual
def Tr.good : Nat → Tr → Prop
  | 0, _ => False
  | d + 1, .node n ks => ar n = some ks.length ∧ goodL d ks ∧ ∀ (i : Nat) (k : Tr), ks[i]? = some k → adm n i (hd k.flat) = true
def goodL : Nat → List Tr → Prop
  | _, [] => True
  | d, k :: ks => Tr.good d k ∧ goodL d ks
end
theorem Y3k : ∀ ks : List Tr, Y1o ks = (ks.map Tr.flat).flatten
  | [] => rfl
  | k :: ks => by rw [Y1o, Y3k ks]; rfl
theorem Y2x {d : Nat} : ∀ {ks : List Tr}, goodL d ks ↔ ∀ k ∈ ks, Tr.good d k
  | [] => by simp [goodL]
  | k :: ks => by simp [goodL, Y2x (ks := ks)]
theorem Y3u : ∀ (d : Nat) (T : Tr), Tr.good d T → IsT d T.flat
  | 0, T, h => by cases T; exact h.elim
  | d + 1, .node n ks, h => by
    obtain ⟨h1, h2, h3⟩ := h
    refine ⟨n, ks.map Tr.flat, by rw [Tr.flat, Y3k], by rw [Xh]; exact h1, fun k hk => ?_, fun i k hk => ?_⟩
    · obtain ⟨T, hT, rfl⟩ := Xy.1 hk
      exact Y3u d T (Y2x.1 h2 T hT)
    · rw [Xw] at hk
      cases hi : ks[i]? with
      | none => rw [hi] at hk; cases hk
      | some T =>
        rw [hi] at hk
        simp only [Xp, X1] at hk
        rw [← hk]; exact h3 i T hi
theorem IsT_good : ∀ (d : Nat) (t : List Y4), IsT d t → ∃ T : Tr, T.flat = t ∧ Tr.good d T
  | 0, t, h => h.elim
  | d + 1, t, h => by
    obtain ⟨n, ks, rfl, h1, h2, h3⟩ := h
    have kids : ∀ ls : List (List Y4), (∀ k ∈ ls, IsT d k) → ∃ Ts : List Tr, Ts.map Tr.flat = ls ∧ goodL d Ts := by
      intro ls
      induction ls with
      | nil => intro _; exact ⟨[], rfl, trivial⟩
      | cons l ls ih =>
        intro hl
        obtain ⟨T, e, g⟩ := IsT_good d l (hl l (by simp))
        obtain ⟨Ts, es, gs⟩ := ih (fun k hk => hl k (by simp [hk]))
        exact ⟨T :: Ts, by rw [Xs, e, es], g, gs⟩
    obtain ⟨Ts, es, gs⟩ := kids ks h2
    refine ⟨.node n Ts, by rw [Tr.flat, Y3k, es], by rw [h1, ← es, Xh], gs, fun i k hk => ?_⟩
    exact h3 i k.flat (by rw [← es, Xw, hk]; rfl)
def signC (o : Int) : List Int := if o = 2 then [44] else if o = 3 then [36] else if o = 4 then [33] else [0, 54, 0]
def expC (o : Int) : Int := if o = 7 then 24 else 6
def simpleO (o : Int) : Bool := decide (o = 0 ∨ o = 1 ∨ o = 6 ∨ 9 ≤ o)
def sepC (n : Y4) (i : Nat) : List Int :=
  if i = 0 then [] else if n.Op = 12 then (if (i : Int) = n.N then [51] else [32]) else if n.Op = 13 then (if (i : Int) % (n.N % 8) = 0 then [51] else [32]) else [12]
def openC (o : Int) : Int := if o = 6 then 57 else if o = 9 then 28 else if o = 10 then 55 else if o = 11 then 42 else if o = 12 then 56 else 41
def Y43 (o : Int) : Int := if o = 6 then 47 else if o = 9 then 59 else if o = 10 then 62 else if o = 11 then 46 else if o = 12 then 34 else 43
mutual
def Tr.cells : List Int → Tr → List Int
  | l, .node n ks =>
    if n.Op = 0 then 60 :: digs n.N
    else if n.Op = 1 then [48, Y9.getD n.N.toNat 0]
    else if n.Op ≤ 5 then binC l (signC n.Op) ks
    else if n.Op = 7 ∨ n.Op = 8 then powC l (expC n.Op) ks
    else openC n.Op :: (Y1u l n 0 ks ++ [Y43 n.Op])
def binC : List Int → List Int → List Tr → List Int
  | l, s, a :: b :: _ => a.cells l ++ s ++ b.cells l
  | _, _, _ => []
def powC : List Int → Int → List Tr → List Int
  | l, x, a :: b :: _ => (if simpleO (hd a.flat).Op then a.cells l else 35 :: (a.cells l ++ [50])) ++ (16 :: (l ++ [x])) ++ b.cells (l ++ [x]) ++ (16 :: l)
  | _, _, _ => []
def Y1u : List Int → Y4 → Nat → List Tr → List Int
  | _, _, _, [] => []
  | l, n, i, k :: ks => sepC n i ++ k.cells l ++ Y1u l n (i + 1) ks
end
end Go.Proofs.YtioockkejhpleaaDoor
