/-
  Own work. The generated walks, part 1: the evaluator of plain operations that yields its conditions as a list; guards and loops of the typed functions.
-/
import Derived.Test.YtlhpkjgpcenfdaaDoorAbs13
set_option linter.unusedSimpArgs false
set_option linter.unusedVariables false
set_option linter.unusedSimpArgs false
set_option linter.unusedVariables false
namespace Go.Abs
open Go.RowKit

def inR (n : Int) : Prop := -9223372036854775808 ≤ n ∧ n ≤ 9223372036854775807
instance (n : Int) : Decidable (inR n) := inferInstanceAs (Decidable (_ ∧ _))
/-- A condition ahead of a result. -/
def G (p : Prop) [Decidable p] {α : Type} (x : Option α) : Option α := if p then x else none
theorem G_some {p : Prop} [Decidable p] {α : Type} {x : Option α} {r : α} (h : G p x = some r) : p ∧ x = some r := by
  unfold G at h
  split at h
  · exact ⟨by assumption, h⟩
  · cases h
theorem G_pos {p : Prop} [Decidable p] {α : Type} (hp : p) (x : Option α) : G p x = x := if_pos hp
/-- A loop with its continuation. -/
def iter {S R : Type} (b : (S → Option R) → S → Option R) : Nat → S → Option R
  | 0, _ => none
  | n + 1, s => b (iter b n) s
theorem iter_succ {S R : Type} (b : (S → Option R) → S → Option R) (n : Nat) (s : S) : iter b (n + 1) s = b (iter b n) s := rfl

def AllP : List Prop → Prop
  | [] => True
  | p :: ps => p ∧ AllP ps
theorem AllP.append {ps qs : List Prop} (h : AllP (ps ++ qs)) : AllP ps ∧ AllP qs := by
  induction ps with
  | nil => exact ⟨trivial, h⟩
  | cons p ps ih =>
    simp only [List.cons_append, AllP] at h ⊢
    exact ⟨⟨h.1, (ih h.2).1⟩, (ih h.2).2⟩
theorem AllP.map_imp {c : Prop} {ps : List Prop} (h : AllP (ps.map fun p => c → p)) (hc : c) : AllP ps := by
  induction ps with
  | nil => trivial
  | cons p ps ih =>
    simp only [List.map_cons, AllP] at h ⊢
    exact ⟨h.1 hc, ih h.2⟩

def gl : AV → List Prop
  | .cnd g _ => [g = true]
  | _ => []
theorem gl_gd {x : AV} (h : AllP (gl x)) : gd x := by
  cases x <;> simp_all [gl, gd, AllP]
def glo (ρ : Operand → AV) : Option Operand → List Prop
  | some x => gl (ρ x)
  | none => []
theorem glo_gdo {ρ : Operand → AV} {o : Option Operand} (h : AllP (glo ρ o)) : gdo ρ o := by
  cases o with
  | none => trivial
  | some x => exact gl_gd h

def okL (k : IntKind) (n : Int) : List Prop := match k with
  | .i64 => [inR n]
  | _ => []
theorem okL_okA {k : IntKind} {n : Int} (h : AllP (okL k n)) : okA k n := by
  cases k <;> simp_all [okL, okA, AllP, inR]

def obBin (P : Program) (t : TypeId) (op : BinOp) (x y : AV) : Option (List Prop) := match x, y with
  | .im (.val (.int k a)), .im (.val (.int k' b)) => match op with
    | .shl => some [0 ≤ b]
    | .shr => some [0 ≤ b]
    | .add => if k = k' then some (okL k (a + b)) else none
    | .sub => if k = k' then some (okL k (a - b)) else none
    | .mul => if k = k' then some (okL k (a * b)) else none
    | .quo => if k = k' then some ((b ≠ 0) :: okL k (a.tdiv b)) else none
    | .rem => if k = k' then some [b ≠ 0] else none
    | _ => if k = k' then some [] else none
  | .im (.val (.bool _)), .im (.val (.bool _)) => match op with
    | .eql => if tk P t = 5 then some [] else none
    | .neq => if tk P t = 5 then some [] else none
    | _ => none
  | .im (.val (.string a)), .im (.val (.string b)) => match op with
    | .add => some [a.size + b.size ≤ 9223372036854775807]
    | .eql => some [] | .neq => some [] | .lss => some [] | .leq => some [] | .gtr => some [] | .geq => some []
    | _ => none
  | _, _ => none

theorem obBin_sound {P : Program} {t : TypeId} {op : BinOp} {x y : AV} {ps : List Prop} (h : obBin P t op x y = some ps) (hp : AllP ps) : poBin P t op x y := by
  unfold obBin at h
  split at h
  · rename_i k a k' b
    unfold poBin
    cases op <;> simp only at h ⊢ <;> first
      | (simp only [Option.some.injEq] at h; subst h; exact hp.1)
      | (split at h
         · rename_i hk
           simp only [Option.some.injEq] at h
           subst h
           first
             | exact hk
             | exact ⟨hk, okL_okA hp⟩
             | exact ⟨hk, hp.1, okL_okA hp.2⟩
             | exact ⟨hk, hp.1⟩
         · cases h)
  · unfold poBin
    cases op <;> simp only at h ⊢ <;> first
      | (split at h
         · assumption
         · cases h)
      | cases h
  · unfold poBin
    cases op <;> simp only at h ⊢ <;> first
      | trivial
      | (simp only [Option.some.injEq] at h; subst h; exact hp.1)
      | cases h
  · cases h

def oneAb (h : Hp) : AV → Bool
  | .im (.val u) => u.oneCell'
  | .im (.sl _ _) => true
  | .ref r ver _ => (h.at r).map (·.ver) == some ver
  | .rsl r ver _ _ => (h.at r).map (·.ver) == some ver
  | _ => false
theorem oneAb_sound {h : Hp} {x : AV} (hx : oneAb h x = true) : oneA h x := by
  unfold oneAb at hx
  unfold oneA
  split at hx <;> simp_all
def okCb (h : Hp) : AV → Bool
  | .agg cs => cs.all (oneAb h)
  | v => oneAb h v
theorem okCb_sound {h : Hp} {x : AV} (hx : okCb h x = true) : okC h x := by
  unfold okCb at hx
  unfold okC
  split at hx
  · intro y hy
    exact oneAb_sound (List.all_eq_true.1 hx y hy)
  · split
    · simp_all
    · exact oneAb_sound hx

def obLo (hi : Nat) : Option AV → Option (List Prop)
  | none => some []
  | some (.im (.val (.int _ l))) => some [0 ≤ l ∧ l ≤ hi]
  | _ => none
theorem obLo_sound {hi : Nat} {x : Option AV} {ps : List Prop} (h : obLo hi x = some ps) (hp : AllP ps) : okLo hi x := by
  unfold obLo at h
  unfold okLo
  split at h
  · trivial
  · simp only [Option.some.injEq] at h; subst h; exact hp.1
  · cases h
def cat2 (x y : Option (List Prop)) : Option (List Prop) := match x, y with
  | some a, some b => some (a ++ b)
  | _, _ => none
theorem cat2_some {x y : Option (List Prop)} {ps : List Prop} (h : cat2 x y = some ps) (hp : AllP ps) : ∃ a b, x = some a ∧ y = some b ∧ AllP a ∧ AllP b := by
  unfold cat2 at h
  split at h
  · rename_i a b
    simp only [Option.some.injEq] at h
    subst h
    exact ⟨a, b, rfl, rfl, hp.append.1, hp.append.2⟩
  · cases h
def chk (p : Prop) [Decidable p] (x : Option (List Prop)) : Option (List Prop) := if p then x else none
theorem chk_some {p : Prop} [Decidable p] {x : Option (List Prop)} {ps : List Prop} (h : chk p x = some ps) : p ∧ x = some ps := by
  unfold chk at h
  split at h
  · exact ⟨by assumption, h⟩
  · cases h

def obPart (cs : List AV) (off : Nat) (s : Option (Option Nat)) : Option (List Prop) := match s with
  | some none => chk (off < cs.length) (some [])
  | some (some n) => chk (off + n ≤ cs.length) (some [])
  | none => none
theorem obPart_sound {cs : List AV} {off : Nat} {s : Option (Option Nat)} {ps : List Prop} (h : obPart cs off s = some ps) : poPart cs off s := by
  unfold obPart at h
  unfold poPart
  split at h
  · exact (chk_some h).1
  · exact (chk_some h).1
  · cases h

def glAll (ρ : Operand → AV) : List Operand → List Prop
  | [] => []
  | x :: xs => gl (ρ x) ++ glAll ρ xs
theorem glAll_sound {ρ : Operand → AV} : ∀ {xs : List Operand}, AllP (glAll ρ xs) → ∀ x ∈ xs, gd (ρ x)
  | [], _, x, hx => by simp at hx
  | y :: ys, h, x, hx => by
    have := h.append
    rcases List.mem_cons.1 hx with rfl | hx
    · exact gl_gd this.1
    · exact glAll_sound this.2 x hx

/-- The conditions of an operation that only computes. -/
def ob (P : Program) (h : Hp) (ρ : Operand → AV) : Op → Option (List Prop)
  | .move x => some (gl (ρ x))
  | .assign x => some (gl (ρ x))
  | .pick c a b => match st (ρ c) with
    | .im (.val (.bool g)) => some (gl (ρ c) ++ ((gl (ρ a)).map fun p => g = true → p) ++ ((gl (ρ b)).map fun p => g = false → p))
    | _ => none
  | .binOp op t x y _ => cat2 (some (gl (ρ x) ++ gl (ρ y))) (obBin P t op (st (ρ x)) (st (ρ y)))
  | .unOp op _ x => match op, st (ρ x) with
    | .not, .im (.val (.bool _)) => some (gl (ρ x))
    | .neg, .im (.val (.int k n)) => some (gl (ρ x) ++ okL k (0 - n))
    | _, _ => none
  | .convert s d x => match st (ρ x), ik P d with
    | .im (.val (.int _ _)), some _ => chk (tk P s ≠ 0) (some (gl (ρ x)))
    | .im (.val (.string _)), none => chk (tk P s = 2 ∧ tk P d = 2) (some (gl (ρ x)))
    | _, _ => none
  | .fieldAddr s x f => match fo P s f, st (ρ x) with
    | some _, .ipt _ _ => some (gl (ρ x))
    | some _, .ref r ver _ => chk ((h.at r).map (·.ver) = some ver) (some (gl (ρ x)))
    | _, _ => none
  | .field t x f => match st (ρ x), fl P t f with
    | .agg cs, some (off, ty) => cat2 (some (gl (ρ x))) (obPart cs off (lz P ty))
    | _, _ => none
  | .indexAddr t x i => match ez P t, st (ρ x), st (ρ i) with
    | some _, .im (.sl _ n), .im (.val (.int _ j)) => chk (tk P t = 1) (some (gl (ρ x) ++ gl (ρ i) ++ [0 ≤ j ∧ j < (n : Int)]))
    | some k, .rsl r ver _ n, .im (.val (.int _ j)) => chk (tk P t = 1 ∧ (h.at r).map (fun rt => (rt.ver, rt.k)) = some (ver, k)) (some (gl (ρ x) ++ gl (ρ i) ++ [0 ≤ j ∧ j < (n : Int)]))
    | some _, .ref r ver _, .im (.val (.int _ j)) => (match alen P t with | some n => chk ((h.at r).map (·.ver) = some ver) (some (gl (ρ x) ++ gl (ρ i) ++ [0 ≤ j ∧ j < (n : Int)])) | none => none)
    | some _, .ipt _ _, .im (.val (.int _ j)) => (match alen P t with | some n => some (gl (ρ x) ++ gl (ρ i) ++ [0 ≤ j ∧ j < (n : Int)]) | none => none)
    | _, _, _ => none
  | .index t x i => match st (ρ x), st (ρ i) with
    | .im (.val (.string s)), .im (.val (.int _ j)) => chk (tk P t = 2) (some (gl (ρ x) ++ gl (ρ i) ++ [0 ≤ j ∧ j < (s.size : Int)]))
    | .agg cs, .im (.val (.int _ j)) => (match ez P t, aty P t, alen P t with
      | some k, some e, some n => cat2 (some (gl (ρ x) ++ gl (ρ i) ++ [0 ≤ j ∧ j < (n : Int)])) (obPart cs (j.toNat * k) (lz P e))
      | _, _, _ => none)
    | _, _ => none
  | .load t x => match lz P t, st (ρ x) with
    | some none, .ref r ver off => (match h.at r with | some rt => chk (rt.ver = ver ∧ rt.live = true ∧ off < rt.cs.length) (some (gl (ρ x))) | none => none)
    | some (some n), .ref r ver off => (match h.at r with | some rt => chk (rt.ver = ver ∧ rt.live = true ∧ off + n ≤ rt.cs.length) (some (gl (ρ x))) | none => none)
    | _, _ => none
  | .extract x i => match st (ρ x) with
    | .tup vs => chk (i < vs.length) (some (gl (ρ x)))
    | _ => none
  | .slice t x lo hi none => match st (ρ x) with
    | .im (.val (.string s)) => chk (tk P t = 2) (cat2 (some (gl (ρ x) ++ glo ρ lo ++ glo ρ hi)) (cat2 (obLo s.size (hi.map fun y => st (ρ y))) (obLo (highOf s.size (hi.map fun y => st (ρ y))) (lo.map fun y => st (ρ y)))))
    | .rsl r ver _ n => (match ez P t with | some k => chk (tk P t = 1 ∧ (h.at r).map (fun rt => (rt.ver, rt.k)) = some (ver, k)) (cat2 (some (gl (ρ x) ++ glo ρ lo ++ glo ρ hi)) (cat2 (obLo n (hi.map fun y => st (ρ y))) (obLo (highOf n (hi.map fun y => st (ρ y))) (lo.map fun y => st (ρ y))))) | none => none)
    | _ => none
  | .build t ps => chk ((ps.toList.all fun p => okCb h (st (ρ p.2))) = true ∧ (match zc P t, fps P t, alen P t, ez P t with
      | some z, some fs, _, _ => (fillA h (fs[·]?) (z.map fun v => .im (.val v)) (ps.toList.map fun p => (p.1, st (ρ p.2)))).isSome
      | some z, none, some _, some k => (fillA h (fun i => some (i * k, k)) (z.map fun v => .im (.val v)) (ps.toList.map fun p => (p.1, st (ρ p.2)))).isSome
      | _, _, _, _ => false) = true) (some (glAll ρ (ps.toList.map (·.2))))
  | .call ⟨.builtin .len, ⟨[x]⟩, ⟨[t]⟩⟩ => match st (ρ x) with
    | .im (.sl _ _) => chk (tk P t = 1) (some (gl (ρ x)))
    | .im (.val (.slice _ _ _)) => chk (tk P t = 1) (some (gl (ρ x)))
    | .rsl r ver _ _ => chk (tk P t = 1 ∧ (h.at r).map (·.ver) = some ver) (some (gl (ρ x)))
    | .im (.val (.string _)) => chk (tk P t = 2) (some (gl (ρ x)))
    | _ => none
  | .call ⟨.builtin .min, ⟨[x, y]⟩, _⟩ => match st (ρ x), st (ρ y) with
    | .im (.val (.int _ _)), .im (.val (.int _ _)) => some (gl (ρ x) ++ gl (ρ y))
    | _, _ => none
  | .call ⟨.builtin .max, ⟨[x, y]⟩, _⟩ => match st (ρ x), st (ρ y) with
    | .im (.val (.int _ _)), .im (.val (.int _ _)) => some (gl (ρ x) ++ gl (ρ y))
    | _, _ => none
  | _ => none

theorem ob_sound {P : Program} {h : Hp} {ρ : Operand → AV} {op : Op} {qs : List Prop} (ho : ob P h ρ op = some qs) (hq : AllP qs) : po P h ρ op := by
  unfold ob at ho
  split at ho
  case h_1 x => simp only [Option.some.injEq] at ho; subst ho; exact gl_gd hq
  case h_2 x => simp only [Option.some.injEq] at ho; subst ho; exact gl_gd hq
  case h_3 c a b =>
    split at ho
    · rename_i g hg
      simp only [Option.some.injEq] at ho; subst ho
      have h1 := hq.append
      have h2 := h1.1.append
      refine ⟨gl_gd h2.1, ?_⟩
      unfold poPick
      rw [hg]
      exact ⟨fun e => gl_gd (h2.2.map_imp e), fun e => gl_gd (h1.2.map_imp e)⟩
    · cases ho
  case h_4 op t x y _ =>
    obtain ⟨a, b, h1, h2, h3, h4⟩ := cat2_some ho hq
    simp only [Option.some.injEq] at h1
    subst h1
    have h5 := h3.append
    exact ⟨gl_gd h5.1, gl_gd h5.2, obBin_sound h2 h4⟩
  case h_5 op _ x =>
    split at ho
    · rename_i b hb
      simp only [Option.some.injEq] at ho; subst ho
      refine ⟨gl_gd hq, ?_⟩
      rw [hb]
      trivial
    · rename_i k n hn
      simp only [Option.some.injEq] at ho; subst ho
      have h5 := hq.append
      refine ⟨gl_gd h5.1, ?_⟩
      rw [hn]
      exact okL_okA h5.2
    · cases ho
  case h_6 s d x =>
    split at ho
    · rename_i k n k' hn hk
      obtain ⟨h1, h2⟩ := chk_some ho
      simp only [Option.some.injEq] at h2; subst h2
      refine ⟨gl_gd hq, ?_⟩
      unfold poConv
      rw [hn, hk]
      exact h1
    · rename_i s' hn hk
      obtain ⟨h1, h2⟩ := chk_some ho
      simp only [Option.some.injEq] at h2; subst h2
      refine ⟨gl_gd hq, ?_⟩
      unfold poConv
      rw [hn, hk]
      exact h1
    · cases ho
  case h_7 s x f =>
    split at ho
    · rename_i d cs off hd hx
      simp only [Option.some.injEq] at ho; subst ho
      refine ⟨gl_gd hq, ?_⟩
      unfold poField
      rw [hd, hx]
      trivial
    · rename_i d r ver off hd hx
      obtain ⟨h1, h2⟩ := chk_some ho
      simp only [Option.some.injEq] at h2; subst h2
      refine ⟨gl_gd hq, ?_⟩
      unfold poField
      rw [hd, hx]
      exact h1
    · cases ho
  case h_8 t x f =>
    split at ho
    · rename_i cs off ty hx hf
      obtain ⟨a, b, h1, h2, h3, h4⟩ := cat2_some ho hq
      simp only [Option.some.injEq] at h1
      subst h1
      refine ⟨gl_gd h3, ?_⟩
      unfold poFld
      rw [hx, hf]
      exact obPart_sound h2
    · cases ho
  case h_9 t x i =>
    split at ho
    · rename_i k cs n k' j he hx hi
      obtain ⟨h1, h2⟩ := chk_some ho
      simp only [Option.some.injEq] at h2; subst h2
      have h5 := hq.append
      have h6 := h5.1.append
      refine ⟨gl_gd h6.1, gl_gd h6.2, ?_⟩
      unfold poIdx
      rw [he, hx, hi]
      exact ⟨h1, h5.2.1⟩
    · rename_i k r ver off n k' j he hx hi
      obtain ⟨h1, h2⟩ := chk_some ho
      simp only [Option.some.injEq] at h2; subst h2
      have h5 := hq.append
      have h6 := h5.1.append
      refine ⟨gl_gd h6.1, gl_gd h6.2, ?_⟩
      unfold poIdx
      rw [he, hx, hi]
      exact ⟨h1.1, h1.2, h5.2.1⟩
    · rename_i k r ver off k' j he hx hi
      split at ho
      · rename_i n hn
        obtain ⟨h1, h2⟩ := chk_some ho
        simp only [Option.some.injEq] at h2; subst h2
        have h5 := hq.append
        have h6 := h5.1.append
        refine ⟨gl_gd h6.1, gl_gd h6.2, ?_⟩
        unfold poIdx
        rw [he, hx, hi, hn]
        exact ⟨h1, h5.2.1⟩
      · cases ho
    · rename_i k cs off k' j he hx hi
      split at ho
      · rename_i n hn
        simp only [Option.some.injEq] at ho; subst ho
        have h5 := hq.append
        have h6 := h5.1.append
        refine ⟨gl_gd h6.1, gl_gd h6.2, ?_⟩
        unfold poIdx
        rw [he, hx, hi]
        simp only [hn]
        exact h5.2.1
      · cases ho
    · cases ho
  case h_10 t x i =>
    split at ho
    · rename_i s k j hx hi
      obtain ⟨h1, h2⟩ := chk_some ho
      simp only [Option.some.injEq] at h2; subst h2
      have h5 := hq.append
      have h6 := h5.1.append
      refine ⟨gl_gd h6.1, gl_gd h6.2, ?_⟩
      unfold poIndex
      rw [hx, hi]
      exact ⟨h1, h5.2.1⟩
    · rename_i cs k j hx hi
      split at ho
      · rename_i k e n hk he hn
        obtain ⟨a, b, h1, h2, h3, h4⟩ := cat2_some ho hq
        simp only [Option.some.injEq] at h1
        subst h1
        have h5 := h3.append
        have h6 := h5.1.append
        refine ⟨gl_gd h6.1, gl_gd h6.2, ?_⟩
        unfold poIndex
        rw [hx, hi, hk, he, hn]
        exact ⟨h5.2.1.1, h5.2.1.2, obPart_sound h2⟩
      · cases ho
    · cases ho
  case h_11 t x =>
    split at ho
    · rename_i r ver off hl hx
      split at ho
      · rename_i rt hrt
        obtain ⟨h1, h2⟩ := chk_some ho
        simp only [Option.some.injEq] at h2; subst h2
        refine ⟨gl_gd hq, ?_⟩
        unfold poLoad
        rw [hl, hx]
        simp only [hrt]
        exact h1
      · cases ho
    · rename_i n r ver off hl hx
      split at ho
      · rename_i rt hrt
        obtain ⟨h1, h2⟩ := chk_some ho
        simp only [Option.some.injEq] at h2; subst h2
        refine ⟨gl_gd hq, ?_⟩
        unfold poLoad
        rw [hl, hx]
        simp only [hrt]
        exact h1
      · cases ho
    · cases ho
  case h_12 x i =>
    split at ho
    · rename_i vs hx
      obtain ⟨h1, h2⟩ := chk_some ho
      simp only [Option.some.injEq] at h2; subst h2
      refine ⟨gl_gd hq, ?_⟩
      rw [hx]
      exact h1
    · cases ho
  case h_13 t x lo hi =>
    split at ho
    · rename_i s hx
      obtain ⟨h1, h2⟩ := chk_some ho
      obtain ⟨a, b, h3, h4, h5, h6⟩ := cat2_some h2 hq
      obtain ⟨c, d, h7, h8, h9, h10⟩ := cat2_some h4 h6
      simp only [Option.some.injEq] at h3
      subst h3
      have h11 := h5.append
      have h12 := h11.1.append
      refine ⟨gl_gd h12.1, glo_gdo h12.2, glo_gdo h11.2, ?_⟩
      unfold poSlice
      rw [hx]
      have he : ez P t = none := by
        have := tk_str h1
        unfold ez
        rw [this]
      rw [he]
      exact ⟨h1, obLo_sound h7 h9, obLo_sound h8 h10⟩
    · rename_i r ver off n hx
      split at ho
      · rename_i k hk
        obtain ⟨h1, h2⟩ := chk_some ho
        obtain ⟨a, b, h3, h4, h5, h6⟩ := cat2_some h2 hq
        obtain ⟨c, d, h7, h8, h9, h10⟩ := cat2_some h4 h6
        simp only [Option.some.injEq] at h3
        subst h3
        have h11 := h5.append
        have h12 := h11.1.append
        refine ⟨gl_gd h12.1, glo_gdo h12.2, glo_gdo h11.2, ?_⟩
        unfold poSlice
        rw [hx, hk]
        exact ⟨h1.1, h1.2, obLo_sound h7 h9, obLo_sound h8 h10⟩
      · cases ho
    · cases ho
  case h_14 t ps =>
    obtain ⟨⟨h1, h2⟩, h3⟩ := chk_some ho
    simp only [Option.some.injEq] at h3; subst h3
    have hg := glAll_sound hq
    refine ⟨fun p hp => hg p.2 (List.mem_map.2 ⟨p, hp, rfl⟩), ?_⟩
    unfold poBuild
    refine ⟨fun p hp => ?_, ?_⟩
    · obtain ⟨q, hq', rfl⟩ := List.mem_map.1 hp
      exact okCb_sound (List.all_eq_true.1 h1 q hq')
    · split at h2
      · rename_i e1 e2
        rw [e1, e2]
        exact h2
      · rename_i e1 e2 e3 e4
        rw [e1, e2, e3, e4]
        exact h2
      · cases h2
  case h_15 x t =>
    split at ho
    all_goals first
      | (rename_i hx
         obtain ⟨h1, h2⟩ := chk_some ho
         simp only [Option.some.injEq] at h2
         subst h2
         refine ⟨gl_gd hq, ?_⟩
         unfold poLen
         rw [hx]
         exact h1)
      | cases ho
  case h_16 x y _ =>
    split at ho
    · rename_i hx hy
      simp only [Option.some.injEq] at ho; subst ho
      have h5 := hq.append
      refine ⟨gl_gd h5.1, gl_gd h5.2, ?_⟩
      unfold poMin
      rw [hx, hy]
      trivial
    · cases ho
  case h_17 x y _ =>
    split at ho
    · rename_i hx hy
      simp only [Option.some.injEq] at ho; subst ho
      have h5 := hq.append
      refine ⟨gl_gd h5.1, gl_gd h5.2, ?_⟩
      unfold poMin
      rw [hx, hy]
      trivial
    · cases ho
  case h_18 => cases ho

section
variable {P : Program} {N : Nat} {ops : Array Oper} {env : Env} {h : Hp}

def gob (ops : Array Oper) (env : Env) (o : Oper) (x : Option (List Prop)) : Option (List Prop) := match o.guard with
  | none => x
  | some (j, b) => match (ops[j]?).bind (·.dst) with
    | some t => (match gcond b (rd env t) with | some c => x.map fun l => l.map fun p => c = true → p | none => none)
    | none => none

theorem gob_sound {o : Oper} {x : Option (List Prop)} {φ : Prop} {qs : List Prop} (hx : ∀ ps, x = some ps → AllP ps → φ) (h1 : gob ops env o x = some qs) (h2 : AllP qs) : gpo ops env o φ := by
  unfold gob at h1
  unfold gpo
  split at h1
  · rename_i hg
    rw [hg]
    exact hx _ h1 h2
  · rename_i j b hg
    split at h1
    · rename_i t ht
      split at h1
      · rename_i c hc
        rw [hg]
        simp only [ht, hc]
        intro hcc
        cases x with
        | none => simp at h1
        | some ps =>
          simp only [Option.map_some, Option.some.injEq] at h1
          subst h1
          exact hx ps rfl (h2.map_imp hcc)
      · cases h1
    · cases h1

/-- A value is worked out before it is kept. -/
def frc {β : Type} (x : AV) (k : AV → β) : β := match x with
  | .im (.val (.int kk n)) => k (.im (.val (.int kk n)))
  | .im (.val (.bool b)) => k (.im (.val (.bool b)))
  | .im (.val v) => k (.im (.val v))
  | .im (.sl cs n) => k (.im (.sl cs n))
  | .agg cs => k (.agg cs)
  | .tup cs => k (.tup cs)
  | .ipt cs off => k (.ipt cs off)
  | .ref r v o => k (.ref r v o)
  | .rsl r v o n => k (.rsl r v o n)
  | .cnd g (.im (.val (.int kk n))) => k (.cnd g (.im (.val (.int kk n))))
  | .cnd g (.im (.val (.bool b))) => k (.cnd g (.im (.val (.bool b))))
  | .cnd g x => k (.cnd g x)
  | .any => k .any
theorem frc_eq {β : Type} (x : AV) (k : AV → β) : frc x k = k x := by unfold frc; split <;> rfl

/-- Operations that only compute, one after the other: their conditions, and the state behind them. -/
def evalS (P : Program) (N : Nat) (ops : Array Oper) (h : Hp) : List Oper → Env → Option (List Prop × Env)
  | [], env => some ([], env)
  | o :: l, env => if o.dst.all (· < N) = true then (match gob ops env o (ob P h (rdo env) o.op) with
    | some ps => frc (gav ops env o (pv P h (rdo env) o.op)) fun v => (match evalS P N ops h l (setd env o.dst v) with
      | some (qs, e) => some (ps ++ qs, e)
      | none => none)
    | none => none) else none

theorem evalS_pw : ∀ (l : List Oper) (env : Env) (qs : List Prop) (e : Env) (K : Env → Prop), evalS P N ops h l env = some (qs, e) → AllP qs → K e → pw P N ops h l env K
  | [], env, qs, e, K, he, _, hK => by
    simp only [evalS, Option.some.injEq, Prod.mk.injEq] at he
    obtain ⟨_, rfl⟩ := he
    exact hK
  | o :: l, env, qs, e, K, he, hq, hK => by
    simp only [evalS, frc_eq] at he
    split at he
    · rename_i hd
      split at he
      · rename_i ps hps
        split at he
        · rename_i qs' e' hr
          simp only [Option.some.injEq, Prod.mk.injEq] at he
          obtain ⟨rfl, rfl⟩ := he
          exact ⟨hd, gob_sound (fun ps hp ha => ob_sound hp ha) hps hq.append.1, evalS_pw l _ _ _ K hr hq.append.2 hK⟩
        · cases he
      · cases he
    · cases he

/-- Only the slots `l` are kept. -/
def kept (l : List Nat) : Option (List Prop × Env) → Option (List Prop × Env)
  | some (qs, e) => some (qs, e.keep l)
  | none => none

theorem OpsW.weaken {l : List Oper} {K : Env → Hp → Prop} (env' : Env) (hle : Env.le env env') (hw : OpsW P N ops l env' h K) : OpsW P N ops l env h K :=
  fun X a w ι Q H S hQ => hw X a w ι Q H (S.le hle) hQ
theorem Env.le_keep (env : Env) (l : List Nat) : Env.le env (env.keep l) := fun i => by rw [rd_keep]; split <;> simp

/-- The first `n` operations of a region. -/
theorem OpsW.seg (n : Nat) (l : List Nat) (qs : List Prop) (env' : Env) {os : List Oper} {K : Env → Hp → Prop} (he : kept l (evalS P N ops h (os.take n) env) = some (qs, env')) (hq : AllP qs)
    (hw : OpsW P N ops (os.drop n) env' h K) : OpsW P N ops os env h K := by
  unfold kept at he
  split at he
  · rename_i qs' e hev
    simp only [Option.some.injEq, Prod.mk.injEq] at he
    obtain ⟨rfl, rfl⟩ := he
    exact OpsW.pures n os env (evalS_pw _ _ _ _ _ hev hq (OpsW.weaken _ (Env.le_keep e l) hw))
  · cases he

theorem QOps.seg (n : Nat) (qs : List Prop) (env' : Env) {os : List Oper} {K : Env → Prop} (he : evalS P N ops h (os.take n) env = some (qs, env')) (hq : AllP qs)
    (hw : QOps P ops h (os.drop n) env' K) : QOps P ops h os env K :=
  QOps.pures (N := N) n os env (evalS_pw _ _ _ _ _ he hq hw)

end
end Go.Abs
