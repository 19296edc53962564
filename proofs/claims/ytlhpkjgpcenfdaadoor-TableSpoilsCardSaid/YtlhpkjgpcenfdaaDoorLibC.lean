/-
  Own work. Several texts of the library in one.
-/
import Derived.Test.YtlhpkjgpcenfdaaDoorLibB
import Derived.Laws.BytesString
import Derived.Laws.IdiomStrings
import Derived.Laws.CopyRow
set_option linter.unusedSimpArgs false
set_option linter.unusedVariables false
/-
  Own work. The generated walks, part 1: the evaluator of plain operations that yields its conditions as a list; guards and loops of the typed functions.
-/
namespace Go.Abs
open Go.RowKit
def inR (n : Int) : Prop := -9223372036854775808 ≤ n ∧ n ≤ 9223372036854775807
instance (n : Int) : Decidable (inR n) := inferInstanceAs (Decidable (_ ∧ _))
def G (p : Prop) [Decidable p] {α : Type} (x : Option α) : Option α := if p then x else none
theorem G_some {p : Prop} [Decidable p] {α : Type} {x : Option α} {r : α} (h : G p x = some r) : p ∧ x = some r := by
  unfold G at h
  split at h
  · exact ⟨by assumption, h⟩
  · cases h
theorem G_pos {p : Prop} [Decidable p] {α : Type} (hp : p) (x : Option α) : G p x = x := if_pos hp
def iter {S R : Type} (b : (S → Option R) → S → Option R) : Nat → S → Option R
  | 0, _ => none
  | n + 1, s => b (iter b n) s
theorem iter_succ {S R : Type} (b : (S → Option R) → S → Option R) (n : Nat) (s : S) : iter b (n + 1) s = b (iter b n) s := rfl
def AllP : List Prop → Prop
  | [] => True
  | p :: ps => p ∧ AllP ps
theorem AllP.append {ps qs : List Prop} (h : AllP (ps ++ qs)) : AllP ps ∧ AllP qs := by
  induction ps with
  | nil => exact ⟨trivial, h⟩
  | cons p ps ih =>
    simp only [List.cons_append, AllP] at h ⊢
    exact ⟨⟨h.1, (ih h.2).1⟩, (ih h.2).2⟩
theorem AllP.map_imp {c : Prop} {ps : List Prop} (h : AllP (ps.map fun p => c → p)) (hc : c) : AllP ps := by
  induction ps with
  | nil => trivial
  | cons p ps ih =>
    simp only [List.map_cons, AllP] at h ⊢
    exact ⟨h.1 hc, ih h.2⟩
def gl : AV → List Prop
  | .cnd g _ => [g = true]
  | _ => []
theorem gl_gd {x : AV} (h : AllP (gl x)) : gd x := by
  cases x <;> simp_all [gl, gd, AllP]
def glo (ρ : Operand → AV) : Option Operand → List Prop
  | some x => gl (ρ x)
  | none => []
theorem glo_gdo {ρ : Operand → AV} {o : Option Operand} (h : AllP (glo ρ o)) : gdo ρ o := by
  cases o with
  | none => trivial
  | some x => exact gl_gd h
def okL (k : IntKind) (n : Int) : List Prop := match k with
  | .i64 => [inR n]
  | _ => []
theorem okL_okA {k : IntKind} {n : Int} (h : AllP (okL k n)) : okA k n := by
  cases k <;> simp_all [okL, okA, AllP, inR]
def obBin (P : Program) (t : TypeId) (op : BinOp) (x y : AV) : Option (List Prop) := match x, y with
  | .im (.val (.int k a)), .im (.val (.int k' b)) => match op with
    | .shl => some [0 ≤ b]
    | .shr => some [0 ≤ b]
    | .add => if k = k' then some (okL k (a + b)) else none
    | .sub => if k = k' then some (okL k (a - b)) else none
    | .mul => if k = k' then some (okL k (a * b)) else none
    | .quo => if k = k' then some ((b ≠ 0) :: okL k (a.tdiv b)) else none
    | .rem => if k = k' then some [b ≠ 0] else none
    | _ => if k = k' then some [] else none
  | .im (.val (.bool _)), .im (.val (.bool _)) => match op with
    | .eql => if tk P t = 5 then some [] else none
    | .neq => if tk P t = 5 then some [] else none
    | _ => none
  | .im (.val (.string a)), .im (.val (.string b)) => match op with
    | .add => some [a.size + b.size ≤ 9223372036854775807]
    | .eql => some [] | .neq => some [] | .lss => some [] | .leq => some [] | .gtr => some [] | .geq => some []
    | _ => none
  | _, _ => none
theorem obBin_sound {P : Program} {t : TypeId} {op : BinOp} {x y : AV} {ps : List Prop} (h : obBin P t op x y = some ps) (hp : AllP ps) : poBin P t op x y := by
  unfold obBin at h
  split at h
  · rename_i k a k' b
    unfold poBin
    cases op <;> simp only at h ⊢ <;> first
      | (simp only [Option.some.injEq] at h; subst h; exact hp.1)
      | (split at h
         · rename_i hk
           simp only [Option.some.injEq] at h
           subst h
           first
             | exact hk
             | exact ⟨hk, okL_okA hp⟩
             | exact ⟨hk, hp.1, okL_okA hp.2⟩
             | exact ⟨hk, hp.1⟩
         · cases h)
  · unfold poBin
    cases op <;> simp only at h ⊢ <;> first
      | (split at h
         · assumption
         · cases h)
      | cases h
  · unfold poBin
    cases op <;> simp only at h ⊢ <;> first
      | trivial
      | (simp only [Option.some.injEq] at h; subst h; exact hp.1)
      | cases h
  · cases h
def oneAb (h : Hp) : AV → Bool
  | .im (.val u) => u.oneCell'
  | .im (.sl _ _) => true
  | .ref r ver _ => (h.at r).map (·.ver) == some ver
  | .rsl r ver _ _ => (h.at r).map (·.ver) == some ver
  | _ => false
theorem oneAb_sound {h : Hp} {x : AV} (hx : oneAb h x = true) : oneA h x := by
  unfold oneAb at hx
  unfold oneA
  split at hx <;> simp_all
def okCb (h : Hp) : AV → Bool
  | .agg cs => cs.all (oneAb h)
  | v => oneAb h v
theorem okCb_sound {h : Hp} {x : AV} (hx : okCb h x = true) : okC h x := by
  unfold okCb at hx
  unfold okC
  split at hx
  · intro y hy
    exact oneAb_sound (List.all_eq_true.1 hx y hy)
  · split
    · simp_all
    · exact oneAb_sound hx
def obLo (hi : Nat) : Option AV → Option (List Prop)
  | none => some []
  | some (.im (.val (.int _ l))) => some [0 ≤ l ∧ l ≤ hi]
  | _ => none
theorem obLo_sound {hi : Nat} {x : Option AV} {ps : List Prop} (h : obLo hi x = some ps) (hp : AllP ps) : okLo hi x := by
  unfold obLo at h
  unfold okLo
  split at h
  · trivial
  · simp only [Option.some.injEq] at h; subst h; exact hp.1
  · cases h
def cat2 (x y : Option (List Prop)) : Option (List Prop) := match x, y with
  | some a, some b => some (a ++ b)
  | _, _ => none
theorem cat2_some {x y : Option (List Prop)} {ps : List Prop} (h : cat2 x y = some ps) (hp : AllP ps) : ∃ a b, x = some a ∧ y = some b ∧ AllP a ∧ AllP b := by
  unfold cat2 at h
  split at h
  · rename_i a b
    simp only [Option.some.injEq] at h
    subst h
    exact ⟨a, b, rfl, rfl, hp.append.1, hp.append.2⟩
  · cases h
def chk (p : Prop) [Decidable p] (x : Option (List Prop)) : Option (List Prop) := if p then x else none
theorem chk_some {p : Prop} [Decidable p] {x : Option (List Prop)} {ps : List Prop} (h : chk p x = some ps) : p ∧ x = some ps := by
  unfold chk at h
  split at h
  · exact ⟨by assumption, h⟩
  · cases h
def obPart (cs : List AV) (off : Nat) (s : Option (Option Nat)) : Option (List Prop) := match s with
  | some none => chk (off < cs.length) (some [])
  | some (some n) => chk (off + n ≤ cs.length) (some [])
  | none => none
theorem obPart_sound {cs : List AV} {off : Nat} {s : Option (Option Nat)} {ps : List Prop} (h : obPart cs off s = some ps) : poPart cs off s := by
  unfold obPart at h
  unfold poPart
  split at h
  · exact (chk_some h).1
  · exact (chk_some h).1
  · cases h
def glAll (ρ : Operand → AV) : List Operand → List Prop
  | [] => []
  | x :: xs => gl (ρ x) ++ glAll ρ xs
theorem glAll_sound {ρ : Operand → AV} : ∀ {xs : List Operand}, AllP (glAll ρ xs) → ∀ x ∈ xs, gd (ρ x)
  | [], _, x, hx => by simp at hx
  | y :: ys, h, x, hx => by
    have := h.append
    rcases List.mem_cons.1 hx with rfl | hx
    · exact gl_gd this.1
    · exact glAll_sound this.2 x hx
def ob (P : Program) (h : Hp) (ρ : Operand → AV) : Op → Option (List Prop)
  | .move x => some (gl (ρ x))
  | .assign x => some (gl (ρ x))
  | .pick c a b => match st (ρ c) with
    | .im (.val (.bool g)) => some (gl (ρ c) ++ ((gl (ρ a)).map fun p => g = true → p) ++ ((gl (ρ b)).map fun p => g = false → p))
    | _ => none
  | .binOp op t x y _ => cat2 (some (gl (ρ x) ++ gl (ρ y))) (obBin P t op (st (ρ x)) (st (ρ y)))
  | .unOp op _ x => match op, st (ρ x) with
    | .not, .im (.val (.bool _)) => some (gl (ρ x))
    | .neg, .im (.val (.int k n)) => some (gl (ρ x) ++ okL k (0 - n))
    | _, _ => none
  | .convert s d x => match st (ρ x), ik P d with
    | .im (.val (.int _ _)), some _ => chk (tk P s ≠ 0) (some (gl (ρ x)))
    | .im (.val (.string _)), none => chk (tk P s = 2 ∧ tk P d = 2) (some (gl (ρ x)))
    | _, _ => none
  | .fieldAddr s x f => match fo P s f, st (ρ x) with
    | some _, .ipt _ _ => some (gl (ρ x))
    | some _, .ref r ver _ => chk ((h.at r).map (·.ver) = some ver) (some (gl (ρ x)))
    | _, _ => none
  | .field t x f => match st (ρ x), fl P t f with
    | .agg cs, some (off, ty) => cat2 (some (gl (ρ x))) (obPart cs off (lz P ty))
    | _, _ => none
  | .indexAddr t x i => match ez P t, st (ρ x), st (ρ i) with
    | some _, .im (.sl _ n), .im (.val (.int _ j)) => chk (tk P t = 1) (some (gl (ρ x) ++ gl (ρ i) ++ [0 ≤ j ∧ j < (n : Int)]))
    | some k, .rsl r ver _ n, .im (.val (.int _ j)) => chk (tk P t = 1 ∧ (h.at r).map (fun rt => (rt.ver, rt.k)) = some (ver, k)) (some (gl (ρ x) ++ gl (ρ i) ++ [0 ≤ j ∧ j < (n : Int)]))
    | some _, .ref r ver _, .im (.val (.int _ j)) => (match alen P t with | some n => chk ((h.at r).map (·.ver) = some ver) (some (gl (ρ x) ++ gl (ρ i) ++ [0 ≤ j ∧ j < (n : Int)])) | none => none)
    | some _, .ipt _ _, .im (.val (.int _ j)) => (match alen P t with | some n => some (gl (ρ x) ++ gl (ρ i) ++ [0 ≤ j ∧ j < (n : Int)]) | none => none)
    | _, _, _ => none
  | .index t x i => match st (ρ x), st (ρ i) with
    | .im (.val (.string s)), .im (.val (.int _ j)) => chk (tk P t = 2) (some (gl (ρ x) ++ gl (ρ i) ++ [0 ≤ j ∧ j < (s.size : Int)]))
    | .agg cs, .im (.val (.int _ j)) => (match ez P t, aty P t, alen P t with
      | some k, some e, some n => cat2 (some (gl (ρ x) ++ gl (ρ i) ++ [0 ≤ j ∧ j < (n : Int)])) (obPart cs (j.toNat * k) (lz P e))
      | _, _, _ => none)
    | _, _ => none
  | .load t x => match lz P t, st (ρ x) with
    | some none, .ref r ver off => (match h.at r with | some rt => chk (rt.ver = ver ∧ rt.live = true ∧ off < rt.cs.length) (some (gl (ρ x))) | none => none)
    | some (some n), .ref r ver off => (match h.at r with | some rt => chk (rt.ver = ver ∧ rt.live = true ∧ off + n ≤ rt.cs.length) (some (gl (ρ x))) | none => none)
    | _, _ => none
  | .extract x i => match st (ρ x) with
    | .tup vs => chk (i < vs.length) (some (gl (ρ x)))
    | _ => none
  | .slice t x lo hi none => match st (ρ x) with
    | .im (.val (.string s)) => chk (tk P t = 2) (cat2 (some (gl (ρ x) ++ glo ρ lo ++ glo ρ hi)) (cat2 (obLo s.size (hi.map fun y => st (ρ y))) (obLo (highOf s.size (hi.map fun y => st (ρ y))) (lo.map fun y => st (ρ y)))))
    | .rsl r ver _ n => (match ez P t with | some k => chk (tk P t = 1 ∧ (h.at r).map (fun rt => (rt.ver, rt.k)) = some (ver, k)) (cat2 (some (gl (ρ x) ++ glo ρ lo ++ glo ρ hi)) (cat2 (obLo n (hi.map fun y => st (ρ y))) (obLo (highOf n (hi.map fun y => st (ρ y))) (lo.map fun y => st (ρ y))))) | none => none)
    | _ => none
  | .build t ps => chk ((ps.toList.all fun p => okCb h (st (ρ p.2))) = true ∧ (match zc P t, fps P t, alen P t, ez P t with
      | some z, some fs, _, _ => (fillA h (fs[·]?) (z.map fun v => .im (.val v)) (ps.toList.map fun p => (p.1, st (ρ p.2)))).isSome
      | some z, none, some _, some k => (fillA h (fun i => some (i * k, k)) (z.map fun v => .im (.val v)) (ps.toList.map fun p => (p.1, st (ρ p.2)))).isSome
      | _, _, _, _ => false) = true) (some (glAll ρ (ps.toList.map (·.2))))
  | .call ⟨.builtin .len, ⟨[x]⟩, ⟨[t]⟩⟩ => match st (ρ x) with
    | .im (.sl _ _) => chk (tk P t = 1) (some (gl (ρ x)))
    | .im (.val (.slice _ _ _)) => chk (tk P t = 1) (some (gl (ρ x)))
    | .rsl r ver _ _ => chk (tk P t = 1 ∧ (h.at r).map (·.ver) = some ver) (some (gl (ρ x)))
    | .im (.val (.string _)) => chk (tk P t = 2) (some (gl (ρ x)))
    | _ => none
  | .call ⟨.builtin .min, ⟨[x, y]⟩, _⟩ => match st (ρ x), st (ρ y) with
    | .im (.val (.int _ _)), .im (.val (.int _ _)) => some (gl (ρ x) ++ gl (ρ y))
    | _, _ => none
  | .call ⟨.builtin .max, ⟨[x, y]⟩, _⟩ => match st (ρ x), st (ρ y) with
    | .im (.val (.int _ _)), .im (.val (.int _ _)) => some (gl (ρ x) ++ gl (ρ y))
    | _, _ => none
  | _ => none
theorem ob_sound {P : Program} {h : Hp} {ρ : Operand → AV} {op : Op} {qs : List Prop} (ho : ob P h ρ op = some qs) (hq : AllP qs) : po P h ρ op := by
  unfold ob at ho
  split at ho
  case h_1 x => simp only [Option.some.injEq] at ho; subst ho; exact gl_gd hq
  case h_2 x => simp only [Option.some.injEq] at ho; subst ho; exact gl_gd hq
  case h_3 c a b =>
    split at ho
    · rename_i g hg
      simp only [Option.some.injEq] at ho; subst ho
      have h1 := hq.append
      have h2 := h1.1.append
      refine ⟨gl_gd h2.1, ?_⟩
      unfold poPick
      rw [hg]
      exact ⟨fun e => gl_gd (h2.2.map_imp e), fun e => gl_gd (h1.2.map_imp e)⟩
    · cases ho
  case h_4 op t x y _ =>
    obtain ⟨a, b, h1, h2, h3, h4⟩ := cat2_some ho hq
    simp only [Option.some.injEq] at h1
    subst h1
    have h5 := h3.append
    exact ⟨gl_gd h5.1, gl_gd h5.2, obBin_sound h2 h4⟩
  case h_5 op _ x =>
    split at ho
    · rename_i b hb
      simp only [Option.some.injEq] at ho; subst ho
      refine ⟨gl_gd hq, ?_⟩
      rw [hb]
      trivial
    · rename_i k n hn
      simp only [Option.some.injEq] at ho; subst ho
      have h5 := hq.append
      refine ⟨gl_gd h5.1, ?_⟩
      rw [hn]
      exact okL_okA h5.2
    · cases ho
  case h_6 s d x =>
    split at ho
    · rename_i k n k' hn hk
      obtain ⟨h1, h2⟩ := chk_some ho
      simp only [Option.some.injEq] at h2; subst h2
      refine ⟨gl_gd hq, ?_⟩
      unfold poConv
      rw [hn, hk]
      exact h1
    · rename_i s' hn hk
      obtain ⟨h1, h2⟩ := chk_some ho
      simp only [Option.some.injEq] at h2; subst h2
      refine ⟨gl_gd hq, ?_⟩
      unfold poConv
      rw [hn, hk]
      exact h1
    · cases ho
  case h_7 s x f =>
    split at ho
    · rename_i d cs off hd hx
      simp only [Option.some.injEq] at ho; subst ho
      refine ⟨gl_gd hq, ?_⟩
      unfold poField
      rw [hd, hx]
      trivial
    · rename_i d r ver off hd hx
      obtain ⟨h1, h2⟩ := chk_some ho
      simp only [Option.some.injEq] at h2; subst h2
      refine ⟨gl_gd hq, ?_⟩
      unfold poField
      rw [hd, hx]
      exact h1
    · cases ho
  case h_8 t x f =>
    split at ho
    · rename_i cs off ty hx hf
      obtain ⟨a, b, h1, h2, h3, h4⟩ := cat2_some ho hq
      simp only [Option.some.injEq] at h1
      subst h1
      refine ⟨gl_gd h3, ?_⟩
      unfold poFld
      rw [hx, hf]
      exact obPart_sound h2
    · cases ho
  case h_9 t x i =>
    split at ho
    · rename_i k cs n k' j he hx hi
      obtain ⟨h1, h2⟩ := chk_some ho
      simp only [Option.some.injEq] at h2; subst h2
      have h5 := hq.append
      have h6 := h5.1.append
      refine ⟨gl_gd h6.1, gl_gd h6.2, ?_⟩
      unfold poIdx
      rw [he, hx, hi]
      exact ⟨h1, h5.2.1⟩
    · rename_i k r ver off n k' j he hx hi
      obtain ⟨h1, h2⟩ := chk_some ho
      simp only [Option.some.injEq] at h2; subst h2
      have h5 := hq.append
      have h6 := h5.1.append
      refine ⟨gl_gd h6.1, gl_gd h6.2, ?_⟩
      unfold poIdx
      rw [he, hx, hi]
      exact ⟨h1.1, h1.2, h5.2.1⟩
    · rename_i k r ver off k' j he hx hi
      split at ho
      · rename_i n hn
        obtain ⟨h1, h2⟩ := chk_some ho
        simp only [Option.some.injEq] at h2; subst h2
        have h5 := hq.append
        have h6 := h5.1.append
        refine ⟨gl_gd h6.1, gl_gd h6.2, ?_⟩
        unfold poIdx
        rw [he, hx, hi, hn]
        exact ⟨h1, h5.2.1⟩
      · cases ho
    · rename_i k cs off k' j he hx hi
      split at ho
      · rename_i n hn
        simp only [Option.some.injEq] at ho; subst ho
        have h5 := hq.append
        have h6 := h5.1.append
        refine ⟨gl_gd h6.1, gl_gd h6.2, ?_⟩
        unfold poIdx
        rw [he, hx, hi]
        simp only [hn]
        exact h5.2.1
      · cases ho
    · cases ho
  case h_10 t x i =>
    split at ho
    · rename_i s k j hx hi
      obtain ⟨h1, h2⟩ := chk_some ho
      simp only [Option.some.injEq] at h2; subst h2
      have h5 := hq.append
      have h6 := h5.1.append
      refine ⟨gl_gd h6.1, gl_gd h6.2, ?_⟩
      unfold poIndex
      rw [hx, hi]
      exact ⟨h1, h5.2.1⟩
    · rename_i cs k j hx hi
      split at ho
      · rename_i k e n hk he hn
        obtain ⟨a, b, h1, h2, h3, h4⟩ := cat2_some ho hq
        simp only [Option.some.injEq] at h1
        subst h1
        have h5 := h3.append
        have h6 := h5.1.append
        refine ⟨gl_gd h6.1, gl_gd h6.2, ?_⟩
        unfold poIndex
        rw [hx, hi, hk, he, hn]
        exact ⟨h5.2.1.1, h5.2.1.2, obPart_sound h2⟩
      · cases ho
    · cases ho
  case h_11 t x =>
    split at ho
    · rename_i r ver off hl hx
      split at ho
      · rename_i rt hrt
        obtain ⟨h1, h2⟩ := chk_some ho
        simp only [Option.some.injEq] at h2; subst h2
        refine ⟨gl_gd hq, ?_⟩
        unfold poLoad
        rw [hl, hx]
        simp only [hrt]
        exact h1
      · cases ho
    · rename_i n r ver off hl hx
      split at ho
      · rename_i rt hrt
        obtain ⟨h1, h2⟩ := chk_some ho
        simp only [Option.some.injEq] at h2; subst h2
        refine ⟨gl_gd hq, ?_⟩
        unfold poLoad
        rw [hl, hx]
        simp only [hrt]
        exact h1
      · cases ho
    · cases ho
  case h_12 x i =>
    split at ho
    · rename_i vs hx
      obtain ⟨h1, h2⟩ := chk_some ho
      simp only [Option.some.injEq] at h2; subst h2
      refine ⟨gl_gd hq, ?_⟩
      rw [hx]
      exact h1
    · cases ho
  case h_13 t x lo hi =>
    split at ho
    · rename_i s hx
      obtain ⟨h1, h2⟩ := chk_some ho
      obtain ⟨a, b, h3, h4, h5, h6⟩ := cat2_some h2 hq
      obtain ⟨c, d, h7, h8, h9, h10⟩ := cat2_some h4 h6
      simp only [Option.some.injEq] at h3
      subst h3
      have h11 := h5.append
      have h12 := h11.1.append
      refine ⟨gl_gd h12.1, glo_gdo h12.2, glo_gdo h11.2, ?_⟩
      unfold poSlice
      rw [hx]
      have he : ez P t = none := by
        have := tk_str h1
        unfold ez
        rw [this]
      rw [he]
      exact ⟨h1, obLo_sound h7 h9, obLo_sound h8 h10⟩
    · rename_i r ver off n hx
      split at ho
      · rename_i k hk
        obtain ⟨h1, h2⟩ := chk_some ho
        obtain ⟨a, b, h3, h4, h5, h6⟩ := cat2_some h2 hq
        obtain ⟨c, d, h7, h8, h9, h10⟩ := cat2_some h4 h6
        simp only [Option.some.injEq] at h3
        subst h3
        have h11 := h5.append
        have h12 := h11.1.append
        refine ⟨gl_gd h12.1, glo_gdo h12.2, glo_gdo h11.2, ?_⟩
        unfold poSlice
        rw [hx, hk]
        exact ⟨h1.1, h1.2, obLo_sound h7 h9, obLo_sound h8 h10⟩
      · cases ho
    · cases ho
  case h_14 t ps =>
    obtain ⟨⟨h1, h2⟩, h3⟩ := chk_some ho
    simp only [Option.some.injEq] at h3; subst h3
    have hg := glAll_sound hq
    refine ⟨fun p hp => hg p.2 (List.mem_map.2 ⟨p, hp, rfl⟩), ?_⟩
    unfold poBuild
    refine ⟨fun p hp => ?_, ?_⟩
    · obtain ⟨q, hq', rfl⟩ := List.mem_map.1 hp
      exact okCb_sound (List.all_eq_true.1 h1 q hq')
    · split at h2
      · rename_i e1 e2
        rw [e1, e2]
        exact h2
      · rename_i e1 e2 e3 e4
        rw [e1, e2, e3, e4]
        exact h2
      · cases h2
  case h_15 x t =>
    split at ho
    all_goals first
      | (rename_i hx
         obtain ⟨h1, h2⟩ := chk_some ho
         simp only [Option.some.injEq] at h2
         subst h2
         refine ⟨gl_gd hq, ?_⟩
         unfold poLen
         rw [hx]
         exact h1)
      | cases ho
  case h_16 x y _ =>
    split at ho
    · rename_i hx hy
      simp only [Option.some.injEq] at ho; subst ho
      have h5 := hq.append
      refine ⟨gl_gd h5.1, gl_gd h5.2, ?_⟩
      unfold poMin
      rw [hx, hy]
      trivial
    · cases ho
  case h_17 x y _ =>
    split at ho
    · rename_i hx hy
      simp only [Option.some.injEq] at ho; subst ho
      have h5 := hq.append
      refine ⟨gl_gd h5.1, gl_gd h5.2, ?_⟩
      unfold poMin
      rw [hx, hy]
      trivial
    · cases ho
  case h_18 => cases ho
section
variable {P : Program} {N : Nat} {ops : Array Oper} {env : Env} {h : Hp}
def gob (ops : Array Oper) (env : Env) (o : Oper) (x : Option (List Prop)) : Option (List Prop) := match o.guard with
  | none => x
  | some (j, b) => match (ops[j]?).bind (·.dst) with
    | some t => (match gcond b (rd env t) with | some c => x.map fun l => l.map fun p => c = true → p | none => none)
    | none => none
theorem gob_sound {o : Oper} {x : Option (List Prop)} {φ : Prop} {qs : List Prop} (hx : ∀ ps, x = some ps → AllP ps → φ) (h1 : gob ops env o x = some qs) (h2 : AllP qs) : gpo ops env o φ := by
  unfold gob at h1
  unfold gpo
  split at h1
  · rename_i hg
    rw [hg]
    exact hx _ h1 h2
  · rename_i j b hg
    split at h1
    · rename_i t ht
      split at h1
      · rename_i c hc
        rw [hg]
        simp only [ht, hc]
        intro hcc
        cases x with
        | none => simp at h1
        | some ps =>
          simp only [Option.map_some, Option.some.injEq] at h1
          subst h1
          exact hx ps rfl (h2.map_imp hcc)
      · cases h1
    · cases h1
def frc {β : Type} (x : AV) (k : AV → β) : β := match x with
  | .im (.val (.int kk n)) => k (.im (.val (.int kk n)))
  | .im (.val (.bool b)) => k (.im (.val (.bool b)))
  | .im (.val v) => k (.im (.val v))
  | .im (.sl cs n) => k (.im (.sl cs n))
  | .agg cs => k (.agg cs)
  | .tup cs => k (.tup cs)
  | .ipt cs off => k (.ipt cs off)
  | .ref r v o => k (.ref r v o)
  | .rsl r v o n => k (.rsl r v o n)
  | .cnd g (.im (.val (.int kk n))) => k (.cnd g (.im (.val (.int kk n))))
  | .cnd g (.im (.val (.bool b))) => k (.cnd g (.im (.val (.bool b))))
  | .cnd g x => k (.cnd g x)
  | .any => k .any
theorem frc_eq {β : Type} (x : AV) (k : AV → β) : frc x k = k x := by unfold frc; split <;> rfl
def evalS (P : Program) (N : Nat) (ops : Array Oper) (h : Hp) : List Oper → Env → Option (List Prop × Env)
  | [], env => some ([], env)
  | o :: l, env => if o.dst.all (· < N) = true then (match gob ops env o (ob P h (rdo env) o.op) with
    | some ps => frc (gav ops env o (pv P h (rdo env) o.op)) fun v => (match evalS P N ops h l (setd env o.dst v) with
      | some (qs, e) => some (ps ++ qs, e)
      | none => none)
    | none => none) else none
theorem evalS_pw : ∀ (l : List Oper) (env : Env) (qs : List Prop) (e : Env) (K : Env → Prop), evalS P N ops h l env = some (qs, e) → AllP qs → K e → pw P N ops h l env K
  | [], env, qs, e, K, he, _, hK => by
    simp only [evalS, Option.some.injEq, Prod.mk.injEq] at he
    obtain ⟨_, rfl⟩ := he
    exact hK
  | o :: l, env, qs, e, K, he, hq, hK => by
    simp only [evalS, frc_eq] at he
    split at he
    · rename_i hd
      split at he
      · rename_i ps hps
        split at he
        · rename_i qs' e' hr
          simp only [Option.some.injEq, Prod.mk.injEq] at he
          obtain ⟨rfl, rfl⟩ := he
          exact ⟨hd, gob_sound (fun ps hp ha => ob_sound hp ha) hps hq.append.1, evalS_pw l _ _ _ K hr hq.append.2 hK⟩
        · cases he
      · cases he
    · cases he
def kept (l : List Nat) : Option (List Prop × Env) → Option (List Prop × Env)
  | some (qs, e) => some (qs, e.keep l)
  | none => none
theorem OpsW.weaken {l : List Oper} {K : Env → Hp → Prop} (env' : Env) (hle : Env.le env env') (hw : OpsW P N ops l env' h K) : OpsW P N ops l env h K :=
  fun X a w ι Q H S hQ => hw X a w ι Q H (S.le hle) hQ
theorem Env.le_keep (env : Env) (l : List Nat) : Env.le env (env.keep l) := fun i => by rw [rd_keep]; split <;> simp
theorem OpsW.seg (n : Nat) (l : List Nat) (qs : List Prop) (env' : Env) {os : List Oper} {K : Env → Hp → Prop} (he : kept l (evalS P N ops h (os.take n) env) = some (qs, env')) (hq : AllP qs)
    (hw : OpsW P N ops (os.drop n) env' h K) : OpsW P N ops os env h K := by
  unfold kept at he
  split at he
  · rename_i qs' e hev
    simp only [Option.some.injEq, Prod.mk.injEq] at he
    obtain ⟨rfl, rfl⟩ := he
    exact OpsW.pures n os env (evalS_pw _ _ _ _ _ hev hq (OpsW.weaken _ (Env.le_keep e l) hw))
  · cases he
theorem QOps.seg (n : Nat) (qs : List Prop) (env' : Env) {os : List Oper} {K : Env → Prop} (he : evalS P N ops h (os.take n) env = some (qs, env')) (hq : AllP qs)
    (hw : QOps P ops h (os.drop n) env' K) : QOps P ops h os env K :=
  QOps.pures (N := N) n os env (evalS_pw _ _ _ _ _ he hq hw)
end
end Go.Abs
/-
  Own work. The generated walks, part 2: states told anew (roots renamed, given up or begun), joins and loops by their typed continuations.
-/
namespace Go.Abs
open Go.RowKit
mutual
inductive Cst (h h' : Hp) (φ : Nat → Option Nat) : AV → AV → Prop
  | any {x : AV} : Cst h h' φ x .any
  | im {x : IV} : Cst h h' φ (.im x) (.im x)
  | nil : Cst h h' φ (.im (.val (.slice none 0 0))) (.im (.sl [] 0))
  | agg {cs ds : List AV} : CstL h h' φ cs ds → Cst h h' φ (.agg cs) (.agg ds)
  | tup {cs ds : List AV} : CstL h h' φ cs ds → Cst h h' φ (.tup cs) (.tup ds)
  | ipt {cs : List IV} {off : Nat} : Cst h h' φ (.ipt cs off) (.ipt cs off)
  | ref {r r' ver ver' off : Nat} {rt rt' : Rt} : h.at r = some rt → h'.at r' = some rt' → φ r' = some r → rt.ver = ver → rt'.ver = ver' → Cst h h' φ (.ref r ver off) (.ref r' ver' off)
  | rsl {r r' ver ver' off n : Nat} {rt rt' : Rt} : h.at r = some rt → h'.at r' = some rt' → φ r' = some r → rt.ver = ver → rt'.ver = ver' → rt'.k = rt.k → Cst h h' φ (.rsl r ver off n) (.rsl r' ver' off n)
  | nilr {r' ver' : Nat} {rt' : Rt} : h'.at r' = some rt' → φ r' = none → rt'.ver = ver' → Cst h h' φ (.im (.val (.slice none 0 0))) (.rsl r' ver' 0 0)
  | frz {r ver off n : Nat} {rt : Rt} {ys : List IV} : h.at r = some rt → rt.ver = ver → rt.live = true → (rt.cs.drop off).take (n * rt.k) = ys.map .im → ys.length = n * rt.k → (∀ r' rt', h'.at r' = some rt' → φ r' ≠ some r) → Cst h h' φ (.rsl r ver off n) (.im (.sl ys n))
  | cnd {g : Bool} {x y : AV} : Cst h h' φ x y → Cst h h' φ (.cnd g x) (.cnd g y)
inductive CstL (h h' : Hp) (φ : Nat → Option Nat) : List AV → List AV → Prop
  | nil : CstL h h' φ [] []
  | cons {x y : AV} {xs ys : List AV} : Cst h h' φ x y → CstL h h' φ xs ys → CstL h h' φ (x :: xs) (y :: ys)
end
theorem CstL.ims {h h' : Hp} {φ : Nat → Option Nat} : ∀ (ys : List IV), CstL h h' φ (ys.map .im) (ys.map .im)
  | [] => .nil
  | y :: ys => .cons .im (CstL.ims ys)
structure RtC (h h' : Hp) (φ : Nat → Option Nat) : Prop where
  root : ∀ r' rt', h'.at r' = some rt' → match φ r' with
    | some r => ∃ rt, h.at r = some rt ∧ rt'.live = rt.live ∧ rt'.e = rt.e ∧ rt'.k = rt.k ∧ CstL h h' φ rt.cs rt'.cs
    | none => rt'.cs = []
  inj : ∀ r' s' rt' st', h'.at r' = some rt' → h'.at s' = some st' → φ r' = φ s' → φ r' ≠ none → r' = s'
  pin : ∀ r rt, h.at r = some rt → (2000 ≤ r ∧ r < 3000) → φ r = some r ∧ ∃ rt', h'.at r = some rt' ∧ (rt'.ver = 0 → rt.ver = 0)
def iotaC (ι : Nat → Bk) (φ : Nat → Option Nat) (r' : Nat) : Bk := match φ r' with
  | some r => ι r
  | none => ⟨none, 0⟩
theorem RtC.own {X : Ctx} {h h' : Hp} {φ : Nat → Option Nat} {ι : Nat → Bk} (R : RtC h h' φ) (β : Nat) (ho : Own X.B h' (iotaC ι φ) β) : Own X.B h ι β := by
  rcases ho with hb | ⟨r', rt', hr', hl, hg⟩
  · exact .inl hb
  · have h1 := R.root r' rt' hr'
    unfold iotaC at hg
    cases hφ : φ r' with
    | none => rw [hφ] at hg; simp at hg
    | some r =>
      simp only [hφ] at h1 hg
      obtain ⟨rt, h2, h3, _⟩ := h1
      exact .inr ⟨r, rt, h2, by rw [← h3]; exact hl, hg⟩
mutual
theorem VR.cast {X : Ctx} {w : World} {h h' : Hp} {φ : Nat → Option Nat} {ι : Nat → Bk} (H : Hol X h ι w) (R : RtC h h' φ) : ∀ (x y : AV) (v : Value), Cst h h' φ x y → VR w h ι (Own X.B h ι) x v → VR w h' (iotaC ι φ) (Own X.B h' (iotaC ι φ)) y v
  | x, .any, v, _, _ => by simp only [VR]
  | _, _, v, .im (x := x), hv => by
    simp only [VR] at hv ⊢
    exact VRI.keep (fun β _ hA => ⟨rfl, fun ho => hA (R.own β ho)⟩) x v hv
  | _, _, v, .nil, hv => by
    rw [VR.val_iff] at hv
    subst hv
    simp only [VR, VRI]
    exact ⟨none, 0, [], rfl, Nat.le_refl _, by simp, fun a ha => by simp at ha, by simp [VRIL]⟩
  | _, _, v, .agg (cs := cs) (ds := ds) hc, hv => by
    simp only [VR] at hv ⊢
    obtain ⟨l, hl, hr⟩ := hv
    exact ⟨l, hl, VRL.cast H R cs ds l hc hr⟩
  | _, _, v, .tup (cs := cs) (ds := ds) hc, hv => by
    simp only [VR] at hv ⊢
    obtain ⟨l, hl, hr⟩ := hv
    exact ⟨l, hl, VRL.cast H R cs ds l hc hr⟩
  | _, _, v, .ipt, hv => by
    simp only [VR] at hv ⊢
    obtain ⟨a, l, hl, hlie, hr⟩ := hv
    exact ⟨a, l, hl, hlie.keep (fun β _ hA => ⟨rfl, fun ho => hA (R.own β ho)⟩), VRIL.keep (fun β _ hA => ⟨rfl, fun ho => hA (R.own β ho)⟩) _ l hr⟩
  | _, _, v, .ref (rt := rt) (rt' := rt') h1 h2 h3 h4 h5, hv => by
    simp only [VR] at hv ⊢
    obtain ⟨rt0, hrt, hle, himp⟩ := hv
    rw [h1] at hrt
    cases hrt
    refine ⟨rt', h2, by omega, fun _ => ?_⟩
    have := himp h4.symm
    unfold iotaC
    rw [h3]
    exact this
  | _, _, v, .rsl (rt := rt) (rt' := rt') h1 h2 h3 h4 h5 h6, hv => by
    simp only [VR] at hv ⊢
    obtain ⟨rt0, hrt, hle, himp⟩ := hv
    rw [h1] at hrt
    cases hrt
    refine ⟨rt', h2, by omega, fun _ => ?_⟩
    have := himp h4.symm
    unfold iotaC
    rw [h3, h6]
    exact this
  | _, _, v, .nilr (rt' := rt') h1 h2 h3, hv => by
    rw [VR.val_iff] at hv
    subst hv
    simp only [VR]
    refine ⟨rt', h1, by omega, fun _ => ?_⟩
    unfold iotaC
    rw [h2]
    exact ⟨none, 0, rfl, Nat.le_refl _, .inl ⟨rfl, rfl, rfl, rfl, rfl⟩⟩
  | _, _, v, .frz (r := r) (rt := rt) h1 h2 h3 h4 h5 h6, hv => by
    have hsrc := ArgS.slice (h := h) (bs := [r]) (by simp) h1 h2 h3 h4 h5 X ι w _ H hv
    refine VR.pure (fun β _ hA => ⟨rfl, fun ho => hA ?_⟩) _ _ rfl hsrc
    refine ⟨R.own β ho, fun s hs hg => ?_⟩
    simp at hs
    subst hs
    rcases ho with hb | ⟨r', rt', hr', hl, hg'⟩
    · exact (H.place s rt β h1 h3 hg).1 hb
    · have h7 := R.root r' rt' hr'
      unfold iotaC at hg'
      cases hφ : φ r' with
      | none => rw [hφ] at hg'; simp at hg'
      | some q =>
        simp only [hφ] at h7 hg'
        obtain ⟨rt2, h8, h9, _⟩ := h7
        have hq := H.inj q s rt2 rt β h8 h1 (by rw [← h9]; exact hl) h3 hg' hg
        subst hq
        exact h6 r' rt' hr' hφ
  | _, _, v, .cnd (x := x) (y := y) hc, hv => by
    simp only [VR] at hv ⊢
    exact ⟨fun hg => VR.cast H R x y v hc (hv.1 hg), hv.2⟩
theorem VRL.cast {X : Ctx} {w : World} {h h' : Hp} {φ : Nat → Option Nat} {ι : Nat → Bk} (H : Hol X h ι w) (R : RtC h h' φ) : ∀ (xs ys : List AV) (l : List Value), CstL h h' φ xs ys → VRL w h ι (Own X.B h ι) xs l → VRL w h' (iotaC ι φ) (Own X.B h' (iotaC ι φ)) ys l
  | _, _, l, .nil, hv => by simpa only [VRL] using hv
  | _, _, l, .cons (x := x) (y := y) (xs := xs) (ys := ys) hc hs, hv => by
    simp only [VRL] at hv ⊢
    obtain ⟨v, l', hl, hv, hr⟩ := hv
    exact ⟨v, l', hl, VR.cast H R x y v hc hv, VRL.cast H R xs ys l' hs hr⟩
end
theorem CstL.length {h h' : Hp} {φ : Nat → Option Nat} : ∀ {xs ys : List AV}, CstL h h' φ xs ys → xs.length = ys.length
  | _, _, .nil => rfl
  | _, _, .cons _ hs => by simp [CstL.length hs]
theorem Hol.cast {X : Ctx} {w : World} {h h' : Hp} {φ : Nat → Option Nat} {ι : Nat → Bk} (H : Hol X h ι w) (R : RtC h h' φ) : Hol X h' (iotaC ι φ) w where
  roots r' rt' hr' hl := by
    have h1 := R.root r' rt' hr'
    cases hφ : φ r' with
    | none =>
      simp only [hφ] at h1
      left
      unfold iotaC
      rw [hφ]
      exact ⟨rfl, h1, rfl⟩
    | some r =>
      simp only [hφ] at h1
      obtain ⟨rt, h2, h3, h4, h5, h6⟩ := h1
      have e : iotaC ι φ r' = ι r := by unfold iotaC; rw [hφ]
      rw [e]
      have hlen := h6.length
      rcases H.roots r rt h2 (by rw [← h3]; exact hl) with ⟨c1, c2, c3⟩ | ⟨g, arr, c1, c2, c3, c4, c5, c6⟩
      · left
        refine ⟨c1, ?_, c3⟩
        rw [c2] at hlen
        exact List.eq_nil_of_length_eq_zero hlen.symm
      · right
        refine ⟨g, arr, c1, by rw [h4]; exact c2, by rw [h5]; exact c3, c4, ?_, ?_⟩
        · rw [← hlen]; exact VRL.cast H R _ _ _ h6 c5
        · rw [← hlen]; exact c6
  inj r' s' rt' st' g hr hs hlr hls hgr hgs := by
    have h1 := R.root r' rt' hr
    have h2 := R.root s' st' hs
    unfold iotaC at hgr hgs
    cases hφ : φ r' with
    | none => rw [hφ] at hgr; simp at hgr
    | some r =>
      cases hψ : φ s' with
      | none => rw [hψ] at hgs; simp at hgs
      | some s =>
        simp only [hφ] at h1 hgr
        simp only [hψ] at h2 hgs
        obtain ⟨rt, a1, a2, _⟩ := h1
        obtain ⟨st, b1, b2, _⟩ := h2
        have := H.inj r s rt st g a1 b1 (by rw [← a2]; exact hlr) (by rw [← b2]; exact hls) hgr hgs
        subst this
        exact R.inj r' s' rt' st' hr hs (by rw [hφ, hψ]) (by rw [hφ]; simp)
  place r' rt' g hr hl hg := by
    have h1 := R.root r' rt' hr
    unfold iotaC at hg
    cases hφ : φ r' with
    | none => rw [hφ] at hg; simp at hg
    | some r =>
      simp only [hφ] at h1 hg
      obtain ⟨rt, a1, a2, _⟩ := h1
      exact H.place r rt g a1 (by rw [← a2]; exact hl) hg
  pin r b k hp := by
    obtain ⟨h1, rt, h2, h3⟩ := H.pin r b k hp
    obtain ⟨h4, rt', h5, h6⟩ := R.pin r rt h2 h1
    have h7 := R.root r rt' h5
    rw [h4] at h7
    obtain ⟨rt2, b1, _, _, b4, _⟩ := h7
    rw [h2] at b1
    cases b1
    refine ⟨h1, rt', h5, fun hv => ?_⟩
    unfold iotaC
    rw [h4, b4]
    exact h3 (h6 hv)
  os := H.os
  tape := H.tape
  output := H.output
  size := H.size
  frame := H.frame
  old := H.old
  glob := H.glob
inductive EnvC (h h' : Hp) (φ : Nat → Option Nat) (env : Env) : Env → Prop
  | nil : EnvC h h' φ env []
  | cons {i : Nat} {v : AV} {r : Env} : Cst h h' φ (rd env i) v → EnvC h h' φ env r → EnvC h h' φ env ((i, v) :: r)
theorem EnvC.all {h h' : Hp} {φ : Nat → Option Nat} {env : Env} : ∀ {env' : Env}, EnvC h h' φ env env' → ∀ i, Cst h h' φ (rd env i) (rd env' i)
  | _, .nil, i => .any
  | _, .cons (i := j) hc hr, i => by
    simp only [rd]
    by_cases hj : j = i
    · subst hj; rw [if_pos rfl]; exact hc
    · rw [if_neg hj]; exact EnvC.all hr i
def StC (env : Env) (h : Hp) (env' : Env) (h' : Hp) : Prop := ∃ φ, RtC h h' φ ∧ EnvC h h' φ env env'
section
variable {P : Program} {N : Nat} {ops : Array Oper} {env : Env} {h : Hp} {Q : Exit → Env → Hp → Prop}
theorem Slots.cast {X : Ctx} {w : World} {h' : Hp} {env' : Env} {φ : Nat → Option Nat} {ι : Nat → Bk} {a : Act} (H : Hol X h ι w) (R : RtC h h' φ) (E : EnvC h h' φ env env') (S : Slots N env h ι (Own X.B h ι) a w) :
    Slots N env' h' (iotaC ι φ) (Own X.B h' (iotaC ι φ)) a w :=
  ⟨S.size, S.defers, fun i => VR.cast H R _ _ _ (E.all i) (S.at_ i)⟩
theorem AW.recast {c : Code} {env' : Env} {h' : Hp} (hs : StC env h env' h') (hw : AW P N c env' h' Q) : AW P N c env h Q := by
  obtain ⟨φ, R, E⟩ := hs
  intro X a w ι H S
  exact hw X a w _ (H.cast R) (Slots.cast H R E S)
theorem OpsW.recast {l : List Oper} {K : Env → Hp → Prop} {env' : Env} {h' : Hp} (hs : StC env h env' h') (hw : OpsW P N ops l env' h' K) : OpsW P N ops l env h K := by
  obtain ⟨φ, R, E⟩ := hs
  intro X a w ι Q H S hQ
  exact hw X a w _ Q (H.cast R) (Slots.cast H R E S) hQ
theorem AW.joinK {c z : Code} {α ρ : Type} (K : α → Option ρ) (r : ρ) (E : α → Env) (Gh : α → Hp)
    (hc : AW P N c env h (Ex.then (fun e h => ∃ y, K y = some r ∧ StC e h (E y) (Gh y)) Q)) (hz : ∀ y, K y = some r → AW P N z (E y) (Gh y) Q) : AW P N (.seq c z) env h Q :=
  AW.seq (AW.mono hc fun x e h hq => by
    cases x with
    | normal =>
      obtain ⟨y, hy, hs⟩ := hq
      exact AW.recast hs (hz y hy)
    | _ => exact hq)
theorem AW.iterK {c : Code} {S R : Type} (b : (S → Option R) → S → Option R) (r : R) (E : S → Env) (Gh : S → Hp)
    (body : ∀ (loop : S → Option R) (s : S), b loop s = some r → AW P N c (E s) (Gh s) (Ex.then (fun e h => ∃ s', loop s' = some r ∧ StC e h (E s') (Gh s')) Q))
    (n : Nat) (s : S) (hi : iter b n s = some r) (hs : StC env h (E s) (Gh s)) : AW P N (.loop c) env h Q := by
  refine AW.loop (α := Nat × S × Env × Hp) (fun x => x.2.2.1) (fun x => x.2.2.2) (fun x => iter b x.1 x.2.1 = some r ∧ StC x.2.2.1 x.2.2.2 (E x.2.1) (Gh x.2.1)) (fun x => x.1) (n, s, env, h) ⟨hi, hs⟩
    (fun i => .inr rfl) (fun i => rfl) ?_
  rintro ⟨n, s, e, h⟩ ⟨hi, hs⟩
  refine AW.recast hs ?_
  cases n with
  | zero => simp [iter] at hi
  | succ n =>
    refine AW.mono (body (iter b n) s hi) fun x e' h' hq => ?_
    cases x with
    | normal =>
      obtain ⟨s', h1, h2⟩ := hq
      exact ⟨(n, s', e', h'), ⟨h1, h2⟩, by simp, fun i => .inr rfl, fun i => rfl⟩
    | _ => exact hq
inductive RtsC (h h' : Hp) (φ : Nat → Option Nat) : Hp → Prop
  | nil : RtsC h h' φ []
  | new {r' ver' e k : Nat} {live : Bool} {l : Hp} : φ r' = none → RtsC h h' φ l → RtsC h h' φ ((r', ⟨ver', live, e, k, []⟩) :: l)
  | old {r r' : Nat} {rt rt' : Rt} {l : Hp} : φ r' = some r → h.at r = some rt → rt'.live = rt.live → rt'.e = rt.e → rt'.k = rt.k → CstL h h' φ rt.cs rt'.cs → RtsC h h' φ l → RtsC h h' φ ((r', rt') :: l)
theorem RtsC.root {h h' : Hp} {φ : Nat → Option Nat} : ∀ {l : Hp}, RtsC h h' φ l → ∀ r' rt', l.at r' = some rt' → match φ r' with
    | some r => ∃ rt, h.at r = some rt ∧ rt'.live = rt.live ∧ rt'.e = rt.e ∧ rt'.k = rt.k ∧ CstL h h' φ rt.cs rt'.cs
    | none => rt'.cs = []
  | _, .nil, r', rt', hr => by simp [Hp.at] at hr
  | _, .new (r' := q) h1 hl, r', rt', hr => by
    simp only [Hp.at] at hr
    split at hr
    · rename_i he; subst he; cases hr; rw [h1]
    · exact RtsC.root hl r' rt' hr
  | _, .old (r := r) (r' := q) (rt := rt) h1 h2 h3 h4 h5 h6 hl, r', rt', hr => by
    simp only [Hp.at] at hr
    split at hr
    · rename_i he; subst he; cases hr; rw [h1]; exact ⟨rt, h2, h3, h4, h5, h6⟩
    · exact RtsC.root hl r' rt' hr
def injB (h' : Hp) (φ : Nat → Option Nat) : Bool := (h'.map (·.1)).all fun i => (h'.map (·.1)).all fun j => (i == j) || (φ i == none) || !(φ i == φ j)
theorem mem_of_at : ∀ {h : Hp} {r : Nat} {rt : Rt}, h.at r = some rt → r ∈ h.map (·.1)
  | [], r, rt, hr => by simp [Hp.at] at hr
  | (i, x) :: l, r, rt, hr => by
    simp only [Hp.at] at hr
    split at hr
    · rename_i he; simp [he]
    · simp only [List.map_cons, List.mem_cons]; exact .inr (mem_of_at hr)
def pinB (h h' : Hp) (φ : Nat → Option Nat) : Bool := (h.map (·.1)).all fun r => decide (r < 2000) || decide (3000 ≤ r) || (φ r == some r && (match h.at r, h'.at r with
  | some rt, some rt' => decide (rt'.ver ≠ 0) || decide (rt.ver = 0)
  | _, _ => false))
theorem pinB.sound {h h' : Hp} {φ : Nat → Option Nat} (hb : pinB h h' φ = true) (r : Nat) (rt : Rt) (hr : h.at r = some rt) (h2 : 2000 ≤ r ∧ r < 3000) : φ r = some r ∧ ∃ rt', h'.at r = some rt' ∧ (rt'.ver = 0 → rt.ver = 0) := by
  unfold pinB at hb
  have h1 := List.all_eq_true.1 hb r (mem_of_at hr)
  simp only [Bool.or_eq_true, decide_eq_true_eq, Bool.and_eq_true, beq_iff_eq] at h1
  rcases h1 with (h1 | h1) | ⟨h1, h3⟩
  · omega
  · omega
  · refine ⟨h1, ?_⟩
    rw [hr] at h3
    cases hx : h'.at r with
    | none => rw [hx] at h3; simp at h3
    | some rt' =>
      rw [hx] at h3
      simp only [Bool.or_eq_true, decide_eq_true_eq] at h3
      refine ⟨rt', rfl, fun h0 => ?_⟩
      rcases h3 with h3 | h3
      · exact absurd h0 h3
      · exact h3
theorem StC.mk {env' : Env} {h' : Hp} (φ : Nat → Option Nat) (hr : RtsC h h' φ h') (hib : (injB h' φ && pinB h h' φ) = true) (he : EnvC h h' φ env env') : StC env h env' h' := by
  obtain ⟨hi, hp⟩ := Bool.and_eq_true_iff.1 hib
  refine ⟨φ, ⟨hr.root, fun r' s' rt' st' h1 h2 h3 h4 => ?_, pinB.sound hp⟩, he⟩
  unfold injB at hi
  have h5 := List.all_eq_true.1 (List.all_eq_true.1 hi r' (mem_of_at h1)) s' (mem_of_at h2)
  simp only [Bool.or_eq_true, beq_iff_eq, Bool.not_eq_true', beq_eq_false_iff_ne, ne_eq] at h5
  rcases h5 with (h5 | h5) | h5
  · exact h5
  · exact absurd h5 h4
  · exact absurd h3 h5
theorem StC.pure {env' : Env} (he : EnvC h [] (fun _ => none) env env') (hp : (h.all fun x => decide (x.1 < 2000) || decide (3000 ≤ x.1)) = true := by rfl) : StC env h env' [] := by
  refine StC.mk (fun _ => none) .nil ?_ he
  rw [Bool.and_eq_true_iff]
  refine ⟨rfl, ?_⟩
  unfold pinB
  rw [List.all_eq_true]
  intro r hr
  obtain ⟨x, hx, rfl⟩ := List.mem_map.1 hr
  have := List.all_eq_true.1 hp x hx
  rw [this]
  rfl
end
end Go.Abs
/-
  Own work. The generated walks, part 3: typed lists as slices: elements read, parts, appends, stores; one operation with its value told.
-/
namespace Go.Abs
open Go.RowKit
def eB (b : Bool) : List IV := [.val (.bool b)]
def eS (s : ByteArray) : List IV := [.val (.string s)]
def eL {α : Type} (enc : α → List IV) (l : List α) : List IV := [.sl (l.flatMap enc) l.length]
abbrev slA {α : Type} (enc : α → List IV) (l : List α) : AV := .im (.sl (l.flatMap enc) l.length)
abbrev rtA {α : Type} (ver e k : Nat) (enc : α → List IV) (l : List α) : Rt := ⟨ver, true, e, k, (l.flatMap enc).map .im⟩
theorem fm_cell {α : Type} (enc : α → List IV) (k : Nat) (hk : ∀ a, (enc a).length = k) (l : List α) (d : α) (i : Nat) (hi : i < l.length) (o : Nat) (c : α → IV) (hc : ∀ a, (enc a)[o]? = some (c a)) :
    (l.flatMap enc)[i * k + o]? = some (c (l.getD i d)) := by
  have ho : o < k := by
    have h1 := hc d
    have h2 := hk d
    have h3 := (List.getElem?_eq_some_iff.1 h1).1
    omega
  rw [fm_get enc k l (fun a _ => hk a) i o ho, List.getElem?_eq_getElem hi]
  simp [hc, List.getD_eq_getElem?_getD, List.getElem?_eq_getElem hi]
theorem fm_cell0 {α : Type} (enc : α → List IV) (k : Nat) (hk : ∀ a, (enc a).length = k) (l : List α) (d : α) (i : Nat) (hi : i < l.length) (c : α → IV) (hc : ∀ a, (enc a)[0]? = some (c a)) :
    (l.flatMap enc)[i * k]? = some (c (l.getD i d)) := fm_cell enc k hk l d i hi 0 c hc
theorem fm_length {α : Type} (enc : α → List IV) (k : Nat) (hk : ∀ a, (enc a).length = k) (l : List α) : (l.flatMap enc).length = l.length * k := fm_len enc k l fun a _ => hk a
theorem fm_drop {α : Type} (enc : α → List IV) (k : Nat) (hk : ∀ a, (enc a).length = k) : ∀ (l : List α) (i : Nat), (l.flatMap enc).drop (i * k) = (l.drop i).flatMap enc
  | l, 0 => by simp
  | [], i + 1 => by simp
  | a :: l, i + 1 => by
    rw [List.flatMap_cons, List.drop_succ_cons, ← fm_drop enc k hk l i, Nat.add_mul, Nat.one_mul, Nat.add_comm, ← List.drop_drop, ← hk a, List.drop_left]
theorem fm_take {α : Type} (enc : α → List IV) (k : Nat) (hk : ∀ a, (enc a).length = k) : ∀ (l : List α) (i : Nat), (l.flatMap enc).take (i * k) = (l.take i).flatMap enc
  | l, 0 => by simp
  | [], i + 1 => by simp
  | a :: l, i + 1 => by
    rw [List.flatMap_cons, List.take_succ_cons, List.flatMap_cons, ← fm_take enc k hk l i, Nat.add_mul, Nat.one_mul, Nat.add_comm, ← hk a, List.take_length_add_append]
theorem fm_elem {α : Type} (enc : α → List IV) (k : Nat) (hk : ∀ a, (enc a).length = k) (l : List α) (d : α) (i : Nat) (hi : i < l.length) : ((l.flatMap enc).drop (i * k)).take k = enc (l.getD i d) := by
  rw [fm_drop enc k hk, List.drop_eq_getElem_cons hi, List.flatMap_cons]
  rw [show k = (enc l[i]).length from (hk _).symm, List.take_left]
  simp [List.getD_eq_getElem?_getD, List.getElem?_eq_getElem hi]
theorem fm_part {α : Type} (enc : α → List IV) (k : Nat) (hk : ∀ a, (enc a).length = k) (l : List α) (lo m : Nat) : ((l.flatMap enc).drop (lo * k)).take (m * k) = ((l.drop lo).take m).flatMap enc := by
  rw [fm_drop enc k hk, fm_take enc k hk]
section
variable {P : Program} {N : Nat} {ops : Array Oper} {env : Env} {h : Hp}
theorem T.load {ρ : Operand → AV} {x : Operand} {t : TypeId} {cs : List IV} {off : Nat} {c : IV} (hx : st (ρ x) = .ipt cs off) (hg : gd (ρ x)) (hl : lz P t = some none) (hc : cs[off]? = some c) :
    po P h ρ (.load t x) ∧ pv P h ρ (.load t x) = .im c := by
  simp only [po, pv, hx, hl, poLoad, pvLoad, hc]
  exact ⟨⟨hg, (List.getElem?_eq_some_iff.1 hc).1⟩, trivial⟩
theorem T.loadAgg {ρ : Operand → AV} {x : Operand} {t : TypeId} {cs ds : List IV} {off n : Nat} (hx : st (ρ x) = .ipt cs off) (hg : gd (ρ x)) (hl : lz P t = some (some n)) (hn : off + n ≤ cs.length) (hc : (cs.drop off).take n = ds) :
    po P h ρ (.load t x) ∧ pv P h ρ (.load t x) = .agg (ds.map .im) := by
  simp only [po, pv, hx, hl, poLoad, pvLoad, hc]
  exact ⟨⟨hg, hn⟩, trivial⟩
theorem T.slice {ρ : Operand → AV} {x : Operand} {lo hi : Option Operand} {t : TypeId} {cs ds : List IV} {n k m : Nat} (hx : st (ρ x) = .im (.sl cs n)) (hg : gd (ρ x)) (hgl : gdo ρ lo) (hgh : gdo ρ hi) (ht : tk P t = 1) (hk : ez P t = some k)
    (h1 : okLo n (hi.map fun y => st (ρ y))) (h2 : okLo (highOf n (hi.map fun y => st (ρ y))) (lo.map fun y => st (ρ y))) (hm : highOf n (hi.map fun y => st (ρ y)) - lowOf (lo.map fun y => st (ρ y)) = m)
    (hd : (cs.drop (lowOf (lo.map fun y => st (ρ y)) * k)).take (m * k) = ds) :
    po P h ρ (.slice t x lo hi none) ∧ pv P h ρ (.slice t x lo hi none) = .im (.sl ds m) := by
  subst hm
  simp only [po, pv, hx, hk, poSlice, pvSlice, hd]
  exact ⟨⟨hg, hgl, hgh, ht, h1, h2⟩, trivial⟩
theorem T.loadRAgg {ρ : Operand → AV} {x : Operand} {t : TypeId} {r ver off n : Nat} {rt : Rt} {ds : List AV} (hx : st (ρ x) = .ref r ver off) (hg : gd (ρ x)) (hl : lz P t = some (some n)) (hrt : h.at r = some rt) (hv : rt.ver = ver) (hli : rt.live = true) (hn : off + n ≤ rt.cs.length) (hc : (rt.cs.drop off).take n = ds) :
    po P h ρ (.load t x) ∧ pv P h ρ (.load t x) = .agg ds := by
  simp only [po, pv, hx, hl, poLoad, pvLoad, hrt, hc]
  exact ⟨⟨hg, hv, hli, hn⟩, trivial⟩
theorem map_get {l : List IV} {i : Nat} {c : IV} (h : l[i]? = some c) : (l.map AV.im)[i]? = some (.im c) := by rw [List.getElem?_map, h]; rfl
theorem OpsW.asU {o : Oper} {rest : List Oper} {K : Env → Hp → Prop} (x : AV) (hgu : o.guard = none) (hd : o.dst.all (· < N) = true) (hop : po P h (rdo env) o.op ∧ pv P h (rdo env) o.op = x)
    (hr : OpsW P N ops rest (setd env o.dst x) h K) : OpsW P N ops (o :: rest) env h K := by
  have e : gav ops env o x = x := by unfold gav; rw [hgu]
  exact OpsW.as x hd (by unfold gpo; rw [hgu]; exact hop) (by rw [e]; exact hr)
theorem OpsW.asG {o : Oper} {rest : List Oper} {K : Env → Hp → Prop} (x : AV) {j t : Nat} {b c : Bool} (hgu : o.guard = some (j, b)) (hj : (ops[j]?).bind (·.dst) = some t) (hc : gcond b (rd env t) = some c) (hd : o.dst.all (· < N) = true)
    (hop : c = true → po P h (rdo env) o.op ∧ pv P h (rdo env) o.op = x) (hr : OpsW P N ops rest (setd env o.dst (.cnd c x)) h K) : OpsW P N ops (o :: rest) env h K := by
  have e : gav ops env o x = .cnd c x := by unfold gav; simp only [hgu, hj, hc]
  exact OpsW.as x hd (by unfold gpo; simp only [hgu, hj, hc]; exact hop) (by rw [e]; exact hr)
theorem QOps.asU {o : Oper} {rest : List Oper} {K : Env → Prop} (x : AV) (hgu : o.guard = none) (hop : po P h (rdo env) o.op ∧ pv P h (rdo env) o.op = x)
    (hr : QOps P ops h rest (setd env o.dst x) K) : QOps P ops h (o :: rest) env K := by
  have e : gav ops env o x = x := by unfold gav; rw [hgu]
  exact QOps.as x (by unfold gpo; rw [hgu]; exact hop) (by rw [e]; exact hr)
theorem QOps.asG {o : Oper} {rest : List Oper} {K : Env → Prop} (x : AV) {j t : Nat} {b c : Bool} (hgu : o.guard = some (j, b)) (hj : (ops[j]?).bind (·.dst) = some t) (hc : gcond b (rd env t) = some c)
    (hop : c = true → po P h (rdo env) o.op ∧ pv P h (rdo env) o.op = x) (hr : QOps P ops h rest (setd env o.dst (.cnd c x)) K) : QOps P ops h (o :: rest) env K := by
  have e : gav ops env o x = .cnd c x := by unfold gav; simp only [hgu, hj, hc]
  exact QOps.as x (by unfold gpo; simp only [hgu, hj, hc]; exact hop) (by rw [e]; exact hr)
def room (bytes n : Nat) : Prop := n * bytes ≤ 140737488355328 ∧ n ≤ 140737488355328
instance (bytes n : Nat) : Decidable (room bytes n) := inferInstanceAs (Decidable (_ ∧ _))
theorem put_app {α : Type} (enc : α → List IV) (k n : Nat) (hk : ∀ a, (enc a).length = k) (l ys : List α) : (((l.flatMap enc).map AV.im).take (n * k)) ++ ((ys.flatMap enc).map AV.im) = ((l.take n ++ ys).flatMap enc).map AV.im := by
  rw [List.flatMap_append, List.map_append, ← List.map_take, fm_take enc k hk]
theorem OpsW.appendT {o : Oper} {rest : List Oper} {K : Env → Hp → Prop} {s x : Operand} {t u e : TypeId} {k bytes : Nat} {z : List Value} {α : Type} {enc : α → List IV} {l ys : List α} (ho : o.op = .call ⟨.builtin .append, #[s, x], #[t, u]⟩) (hgu : o.guard = none) (hd : o.dst.all (· < N) = true)
    {r ver n m : Nat} (E : Elem P t e k bytes z) (hk : ∀ a, (enc a).length = k) (hs : rdo env s = .rsl r ver 0 n) (hrt : h.at r = some (rtA ver e k enc l)) (hn : n ≤ l.length)
    (hx : gd (rdo env x)) (src : SrcA P h u k (st (rdo env x)) m ((ys.flatMap enc).map .im)) (hm : m = ys.length) (hsz : room bytes (n + m))
    (hw : OpsW P N ops rest (setd env o.dst (.rsl r (ver + 1) 0 (l.take n ++ ys).length)) ((r, rtA (ver + 1) e k enc (l.take n ++ ys)) :: h) K) : OpsW P N ops (o :: rest) env h K := by
  subst hm
  refine OpsW.append ho hgu hd E hs hrt rfl rfl rfl rfl ?_ hx src hsz.1 hsz.2 ?_
  · simp only [List.length_map]; rw [fm_length enc k hk]; exact Nat.mul_le_mul_right _ hn
  · have e1 : (l.take n ++ ys).length = n + ys.length := by simp; omega
    rw [e1] at hw
    rw [put_app enc k n hk]
    exact hw
theorem SrcA.typed {u : TypeId} {k : Nat} {α : Type} {enc : α → List IV} (hk : ∀ a, (enc a).length = k) (hu : tk P u = 1) (ys : List α) : SrcA P h u k (slA enc ys) ys.length ((ys.flatMap enc).map .im) :=
  SrcA.im hu (fm_length enc k hk ys)
theorem SrcA.root {u : TypeId} {r ver k e m off : Nat} {α : Type} {enc : α → List IV} {l : List α} (hk : ∀ a, (enc a).length = k) (hu : tk P u = 1) (hrt : h.at r = some (rtA ver e k enc l)) (hm : off + m ≤ l.length) :
    SrcA P h u k (.rsl r ver (off * k) m) m ((((l.drop off).take m).flatMap enc).map .im) := by
  have := SrcA.rsl (P := P) (u := u) (off := off * k) (m := m) hu hrt rfl rfl rfl (by simp only [List.length_map]; rw [fm_length enc k hk, ← Nat.add_mul]; exact Nat.mul_le_mul_right _ hm)
  rw [← List.map_drop, ← List.map_take, fm_part enc k hk] at this
  exact this
theorem bytes_enc (s : ByteArray) : s.data.toList.map (fun b => AV.int .u8 b.toNat) = ((s.data.toList.map fun b => ((b.toNat : Nat) : Int)).flatMap (eI .u8)).map .im := by
  generalize s.data.toList = l
  induction l with
  | nil => rfl
  | cons b l ih => simp only [List.map_cons, List.flatMap_cons, List.map_append, ih]; rfl
theorem SrcA.strT {u : TypeId} (hu : tk P u = 2) (s : ByteArray) : SrcA P h u 1 (.string s) s.size (((s.data.toList.map fun b => ((b.toNat : Nat) : Int)).flatMap (eI .u8)).map .im) := by
  rw [← bytes_enc]; exact SrcA.str hu
theorem OpsW.appendLT {o1 o2 : Oper} {rest : List Oper} {K : Env → Hp → Prop} {s : Operand} {d1 t e : TypeId} {k bytes m : Nat} {z : List Value} {ps : List (Nat × Operand)} {α : Type} {enc : α → List IV} {l : List α} (ys : List α) (h1 : o1.op = .buildSlice t m ps.toArray) (hd1 : o1.dst = some d1) (hg1 : o1.guard = none) (hN : d1 < N)
    (h2 : o2.op = .call ⟨.builtin .append, #[s, .tmp d1], #[t, t]⟩) (hg2 : o2.guard = none) (hd2 : o2.dst.all (· < N) = true) (hsd : s ≠ .tmp d1) (E : Elem P t e k bytes z) (hk : ∀ a, (enc a).length = k) (hm : m * k ≤ 16777216)
    (hgd : ∀ p ∈ ps, gd (rdo env p.2)) (hok : ∀ p ∈ ps, okC h (st (rdo env p.2))) (hf : fillA h (fun i => some (i * k, k)) (zerosA z m) (ps.map fun p => (p.1, st (rdo env p.2))) = some ((ys.flatMap enc).map .im))
    (hone : ∀ x ∈ (ys.flatMap enc).map AV.im, oneA h x) (hml : m = ys.length)
    {r ver n : Nat} (hs : rdo env s = .rsl r ver 0 n) (hrt : h.at r = some (rtA ver e k enc l)) (hn : n ≤ l.length) (hsz : room bytes (n + m))
    (hw : OpsW P N ops rest (setd ((d1, .any) :: env) o2.dst (.rsl r (ver + 1) 0 (l.take n ++ ys).length)) ((r, rtA (ver + 1) e k enc (l.take n ++ ys)) :: h) K) : OpsW P N ops (o1 :: o2 :: rest) env h K := by
  subst hml
  refine OpsW.appendL h1 hd1 hg1 hN h2 hg2 hd2 hsd E hm hgd hok _ hf hone (by simp only [List.length_map]; rw [fm_length enc k hk]) hs hrt rfl rfl rfl rfl ?_ hsz.1 hsz.2 ?_
  · simp only [List.length_map]; rw [fm_length enc k hk]; exact Nat.mul_le_mul_right _ hn
  · have e1 : (l.take n ++ ys).length = n + ys.length := by simp; omega
    rw [e1] at hw
    rw [put_app enc k n hk]
    exact hw
theorem take_all_len {α : Type} (l : List α) : l.take l.length = l := List.take_length
theorem frz_all {α : Type} (enc : α → List IV) (k : Nat) (hk : ∀ a, (enc a).length = k) (l : List α) : (((l.flatMap enc).map AV.im).drop 0).take (l.length * k) = (l.flatMap enc).map AV.im := by
  rw [List.drop_zero, List.take_of_length_le (by simp only [List.length_map]; rw [fm_length enc k hk]; exact Nat.le_refl _)]
theorem put_set {α : Type} (enc : α → List IV) (k : Nat) (hk : ∀ a, (enc a).length = k) : ∀ (l : List α) (d x : α) (i o : Nat) (cs : List IV), i < l.length → o + cs.length ≤ k → putA (enc (l.getD i d)) o cs = enc x →
    putA ((l.flatMap enc).map AV.im) (i * k + o) (cs.map AV.im) = ((l.set i x).flatMap enc).map AV.im
  | [], d, x, i, o, cs, hi, _, _ => by simp at hi
  | a :: l, d, x, 0, o, cs, _, ho, hx => by
    simp only [Nat.zero_mul, Nat.zero_add, List.set_cons_zero, List.flatMap_cons, List.map_append]
    rw [← hx]
    simp only [List.getD_cons_zero]
    have ha := hk a
    unfold putA
    rw [List.take_append_of_le_length (by simp; omega), List.drop_append_of_le_length (by simp; omega)]
    simp [List.map_take, List.map_drop, List.append_assoc]
  | a :: l, d, x, i + 1, o, cs, hi, ho, hx => by
    have ih := put_set enc k hk l d x i o cs (by simpa using hi) ho (by simpa using hx)
    simp only [List.set_cons_succ, List.flatMap_cons, List.map_append]
    rw [← ih]
    have ha : ((enc a).map AV.im).length = k := by simp [hk a]
    have e1 : (i + 1) * k + o = ((enc a).map AV.im).length + (i * k + o) := by rw [ha, Nat.add_mul]; omega
    unfold putA
    rw [e1, List.take_length_add_append, Nat.add_assoc, List.drop_length_add_append]
    simp [List.append_assoc]
theorem OpsW.storeT {o : Oper} {rest : List Oper} {K : Env → Hp → Prop} {t : TypeId} {x y : Operand} {α : Type} {enc : α → List IV} {l : List α} {e k : Nat} (d v : α) (cs : List IV) (i off : Nat) (ho : o.op = .store t x y) (hgu : o.guard = none) (hdn : o.dst = none) {r ver : Nat}
    (hx : st (rdo env x) = .ref r ver (i * k + off)) (hgx : gd (rdo env x)) (hgy : gd (rdo env y)) (hrt : h.at r = some (rtA ver e k enc l)) (hk : ∀ a, (enc a).length = k) (hy : cellsA (st (rdo env y)) = cs.map .im) (hsz : szt P t = some cs.length) (hok : okC h (st (rdo env y)))
    (hi : i < l.length) (ho2 : off + cs.length ≤ k) (hp : putA (enc (l.getD i d)) off cs = enc v)
    (hw : OpsW P N ops rest env ((r, rtA ver e k enc (l.set i v)) :: h) K) : OpsW P N ops (o :: rest) env h K := by
  refine OpsW.store ho hgu hdn hx hgx hgy hrt rfl rfl (by rw [hy, hsz]; simp) hok ?_ ?_
  · rw [hy]
    simp only [List.length_map]
    rw [fm_length enc k hk]
    have : (i + 1) * k ≤ l.length * k := Nat.mul_le_mul_right _ hi
    rw [Nat.add_mul] at this
    omega
  · rw [hy]
    simp only []
    rw [put_set enc k hk l d v i off cs hi ho2 hp]
    exact hw
end
end Go.Abs
/-
  Own work. The generated walks, part 4: forms of the rules that the generator uses.
-/
namespace Go.Abs
open Go.RowKit
def phi : List (Nat × Option Nat) → Nat → Option Nat
  | [], _ => none
  | (i, v) :: l, j => if i = j then v else phi l j
theorem phi_ne {h' : Hp} {l : List (Nat × Option Nat)} {r : Nat} (ha : (l.all fun p => !(p.2 == some r)) = true) : ∀ (r' : Nat) (rt' : Rt), h'.at r' = some rt' → phi l r' ≠ some r := by
  intro r' rt' hx
  clear hx rt'
  induction l with
  | nil => simp [phi]
  | cons p l ih =>
    obtain ⟨i, v⟩ := p
    simp only [List.all_cons, Bool.and_eq_true] at ha
    simp only [phi]
    split
    · intro e; rw [e] at ha; simp at ha
    · exact ih ha.2
theorem condT {b : Bool} {α : Type} {x y : Option α} {r : α} (hb : b = true) (h : cond b x y = some r) : x = some r := by subst hb; exact h
theorem condF {b : Bool} {α : Type} {x y : Option α} {r : α} (hb : b = false) (h : cond b x y = some r) : y = some r := by subst hb; exact h
theorem bindS {α β : Type} {o : Option α} {f : α → Option β} {r : β} (h : o.bind f = some r) : ∃ x, o = some x ∧ f x = some r := Option.bind_eq_some_iff.1 h
theorem ltN {j : Int} {n : Nat} (h : 0 ≤ j ∧ j < (n : Int)) : j.toNat < n := by omega
def bAnd (k : IntKind) (a b : Int) : Int := k.wrap (BitVec.ofInt k.bits a &&& BitVec.ofInt k.bits b).toNat
def bOr (k : IntKind) (a b : Int) : Int := k.wrap (BitVec.ofInt k.bits a ||| BitVec.ofInt k.bits b).toNat
def bShl (k : IntKind) (a b : Int) : Int := k.wrap (a * 2 ^ min b.toNat k.bits)
def bShr (k : IntKind) (a b : Int) : Int := a.fdiv (2 ^ min b.toNat k.bits)
def bAt (s : ByteArray) (j : Int) : Int := ((s.data.toList.getD j.toNat 0).toNat : Int)
section
variable {P : Program} {N : Nat} {ops : Array Oper} {env : Env} {h : Hp}
theorem OpsW.appendF {o : Oper} {rest : List Oper} {K : Env → Hp → Prop} {s x : Operand} {t u e : TypeId} {k bytes : Nat} {z : List Value} {α : Type} {enc : α → List IV} {l ys : List α} (ho : o.op = .call ⟨.builtin .append, #[s, x], #[t, u]⟩) (hgu : o.guard = none) (hd : o.dst.all (· < N) = true)
    {r ver m : Nat} (E : Elem P t e k bytes z) (hk : ∀ a, (enc a).length = k) (hs : rdo env s = .rsl r ver 0 l.length) (hrt : h.at r = some (rtA ver e k enc l))
    (hx : gd (rdo env x)) (src : SrcA P h u k (st (rdo env x)) m ((ys.flatMap enc).map .im)) (hm : m = ys.length) (hsz : room bytes (l.length + m))
    (hw : OpsW P N ops rest (setd env o.dst (.rsl r (ver + 1) 0 (l ++ ys).length)) ((r, rtA (ver + 1) e k enc (l ++ ys)) :: h) K) : OpsW P N ops (o :: rest) env h K :=
  OpsW.appendT ho hgu hd E hk hs hrt (Nat.le_refl _) hx src hm hsz (by rw [take_all_len]; exact hw)
theorem OpsW.appendLF {o1 o2 : Oper} {rest : List Oper} {K : Env → Hp → Prop} {s : Operand} {d1 t e : TypeId} {k bytes m : Nat} {z : List Value} {ps : List (Nat × Operand)} {α : Type} {enc : α → List IV} {l : List α} (ys : List α) (h1 : o1.op = .buildSlice t m ps.toArray) (hd1 : o1.dst = some d1) (hg1 : o1.guard = none) (hN : d1 < N)
    (h2 : o2.op = .call ⟨.builtin .append, #[s, .tmp d1], #[t, t]⟩) (hg2 : o2.guard = none) (hd2 : o2.dst.all (· < N) = true) (hsd : s ≠ .tmp d1) (E : Elem P t e k bytes z) (hk : ∀ a, (enc a).length = k) (hm : m * k ≤ 16777216)
    (hgd : AllP (glAll (rdo env) (ps.map (·.2)))) (hok : (ps.all fun p => okCb h (st (rdo env p.2))) = true) (hf : fillA h (fun i => some (i * k, k)) (zerosA z m) (ps.map fun p => (p.1, st (rdo env p.2))) = some ((ys.flatMap enc).map .im))
    (hone : (((ys.flatMap enc).map AV.im).all (oneAb h)) = true) (hml : m = ys.length)
    {r ver : Nat} (hs : rdo env s = .rsl r ver 0 l.length) (hrt : h.at r = some (rtA ver e k enc l)) (hsz : room bytes (l.length + m))
    (hw : OpsW P N ops rest (setd ((d1, .any) :: env) o2.dst (.rsl r (ver + 1) 0 (l ++ ys).length)) ((r, rtA (ver + 1) e k enc (l ++ ys)) :: h) K) : OpsW P N ops (o1 :: o2 :: rest) env h K :=
  OpsW.appendLT ys h1 hd1 hg1 hN h2 hg2 hd2 hsd E hk hm (fun p hp => glAll_sound hgd p.2 (List.mem_map.2 ⟨p, hp, rfl⟩)) (fun p hp => okCb_sound (List.all_eq_true.1 hok p hp)) hf
    (fun x hx => oneAb_sound (List.all_eq_true.1 hone x hx)) hml hs hrt (Nat.le_refl _) hsz (by rw [take_all_len]; exact hw)
theorem OpsW.buildT {o : Oper} {rest : List Oper} {K : Env → Hp → Prop} {t e : TypeId} {len k bytes : Nat} {z : List Value} {ps : List (Nat × Operand)} {α : Type} {enc : α → List IV} (ys : List α) (ho : o.op = .buildSlice t len ps.toArray) (hgu : o.guard = none) (hd : o.dst.all (· < N) = true)
    (r : Nat) (hr : h.at r = none) (E : Elem P t e k bytes z) (hk : ∀ a, (enc a).length = k) (hlen : len * k ≤ 16777216) (hgd : AllP (glAll (rdo env) (ps.map (·.2)))) (hok : (ps.all fun p => okCb h (st (rdo env p.2))) = true)
    (hf : fillA h (fun i => some (i * k, k)) (zerosA z len) (ps.map fun p => (p.1, st (rdo env p.2))) = some ((ys.flatMap enc).map .im)) (hone : (((ys.flatMap enc).map AV.im).all (oneAb h)) = true) (hml : len = ys.length)
    (hw : OpsW P N ops rest (setd env o.dst (.rsl r 0 0 ys.length)) ((r, rtA 0 e k enc ys) :: h) K) : OpsW P N ops (o :: rest) env h K := by
  subst hml
  exact OpsW.buildSlice ho hgu hd r hr E hlen (fun p hp => glAll_sound hgd p.2 (List.mem_map.2 ⟨p, hp, rfl⟩)) (fun p hp => okCb_sound (List.all_eq_true.1 hok p hp)) _ hf
    (fun x hx => oneAb_sound (List.all_eq_true.1 hone x hx)) (by simp only [List.length_map]; rw [fm_length enc k hk]) hw
theorem Quiet.buildTI {o : Oper} {t e : TypeId} {len k bytes : Nat} {z : List Value} {ps : List (Nat × Operand)} {α : Type} {enc : α → List IV} (ys : List α) (ho : o.op = .buildSlice t len ps.toArray)
    (E : Elem P t e k bytes z) (hk : ∀ a, (enc a).length = k) (hlen : len * k ≤ 16777216)
    (hg : gpo ops env o (AllP (glAll (rdo env) (ps.map (·.2))) ∧ (ps.all fun p => okCb h (st (rdo env p.2))) = true ∧ fillA h (fun i => some (i * k, k)) (zerosA z len) (ps.map fun p => (p.1, st (rdo env p.2))) = some ((ys.flatMap enc).map .im) ∧ (((ys.flatMap enc).map AV.im).all (oneAb h)) = true ∧ len = ys.length)) :
    Quiet P ops o env h (gav ops env o (.im (.sl (ys.flatMap enc) len))) := by
  refine Quiet.buildI (ys := ys.flatMap enc) ho E hlen ?_
  unfold gpo at hg ⊢
  have key : (AllP (glAll (rdo env) (ps.map (·.2))) ∧ (ps.all fun p => okCb h (st (rdo env p.2))) = true ∧ fillA h (fun i => some (i * k, k)) (zerosA z len) (ps.map fun p => (p.1, st (rdo env p.2))) = some ((ys.flatMap enc).map .im) ∧ (((ys.flatMap enc).map AV.im).all (oneAb h)) = true ∧ len = ys.length) →
      ((∀ p ∈ ps, gd (rdo env p.2)) ∧ (∀ p ∈ ps, okC h (st (rdo env p.2))) ∧ fillA h (fun i => some (i * k, k)) (zerosA z len) (ps.map fun p => (p.1, st (rdo env p.2))) = some ((ys.flatMap enc).map .im) ∧ (∀ x ∈ (ys.flatMap enc).map AV.im, oneA h x) ∧ (ys.flatMap enc).length = len * k) :=
    fun ⟨a, b, c, d, e⟩ => ⟨fun p hp => glAll_sound a p.2 (List.mem_map.2 ⟨p, hp, rfl⟩), fun p hp => okCb_sound (List.all_eq_true.1 b p hp), c, fun x hx => oneAb_sound (List.all_eq_true.1 d x hx), by rw [fm_length enc k hk, e]⟩
  split at hg
  · exact key hg
  · split at hg
    · split at hg
      · exact fun hc => key (hg hc)
      · exact hg
    · exact hg
theorem OpsW.buildTI {o : Oper} {rest : List Oper} {K : Env → Hp → Prop} {t e : TypeId} {len k bytes : Nat} {z : List Value} {ps : List (Nat × Operand)} {α : Type} {enc : α → List IV} (ys : List α) (ho : o.op = .buildSlice t len ps.toArray) (hgu : o.guard = none) (hd : o.dst.all (· < N) = true)
    (E : Elem P t e k bytes z) (hk : ∀ a, (enc a).length = k) (hlen : len * k ≤ 16777216)
    (hg : AllP (glAll (rdo env) (ps.map (·.2))) ∧ (ps.all fun p => okCb h (st (rdo env p.2))) = true ∧ fillA h (fun i => some (i * k, k)) (zerosA z len) (ps.map fun p => (p.1, st (rdo env p.2))) = some ((ys.flatMap enc).map .im) ∧ (((ys.flatMap enc).map AV.im).all (oneAb h)) = true ∧ len = ys.length)
    (hr : OpsW P N ops rest (setd env o.dst (slA enc ys)) h K) : OpsW P N ops (o :: rest) env h K := by
  have hq := Quiet.buildTI (ops := ops) (env := env) (h := h) ys ho E hk hlen (by unfold gpo; rw [hgu]; exact hg)
  have e1 : gav ops env o (.im (.sl (ys.flatMap enc) len)) = slA enc ys := by unfold gav; rw [hgu, hg.2.2.2.2]
  rw [e1] at hq
  exact OpsW.quiet hd hq hr
theorem QOps.buildTI {o : Oper} {rest : List Oper} {K : Env → Prop} {t e : TypeId} {len k bytes : Nat} {z : List Value} {ps : List (Nat × Operand)} {α : Type} {enc : α → List IV} (ys : List α) (ho : o.op = .buildSlice t len ps.toArray) (hgu : o.guard = none)
    (E : Elem P t e k bytes z) (hk : ∀ a, (enc a).length = k) (hlen : len * k ≤ 16777216)
    (hg : AllP (glAll (rdo env) (ps.map (·.2))) ∧ (ps.all fun p => okCb h (st (rdo env p.2))) = true ∧ fillA h (fun i => some (i * k, k)) (zerosA z len) (ps.map fun p => (p.1, st (rdo env p.2))) = some ((ys.flatMap enc).map .im) ∧ (((ys.flatMap enc).map AV.im).all (oneAb h)) = true ∧ len = ys.length)
    (hr : QOps P ops h rest (setd env o.dst (slA enc ys)) K) : QOps P ops h (o :: rest) env K := by
  have hq := Quiet.buildTI (ops := ops) (env := env) (h := h) ys ho E hk hlen (by unfold gpo; rw [hgu]; exact hg)
  have e1 : gav ops env o (.im (.sl (ys.flatMap enc) len)) = slA enc ys := by unfold gav; rw [hgu, hg.2.2.2.2]
  rw [e1] at hq
  exact ⟨_, hq, hr⟩
theorem ArgS.root {bs : List Nat} {r ver e k : Nat} {α : Type} {enc : α → List IV} {l : List α} (hk : ∀ a, (enc a).length = k) (hb : r ∈ bs) (hrt : h.at r = some (rtA ver e k enc l)) : ArgS h bs (.rsl r ver 0 l.length) (slA enc l) :=
  ArgS.slice hb hrt rfl rfl (frz_all enc k hk l) (fm_length enc k hk l)
end
end Go.Abs
/-
  Own work. The generated walks, part 5: small forms.
-/
namespace Go.Abs
open Go.RowKit
def bytesOf (s : ByteArray) : List Int := s.data.toList.map fun b => ((b.toNat : Nat) : Int)
theorem bytesOf_len (s : ByteArray) : (bytesOf s).length = s.size := by simp [bytesOf]
theorem Env.le_of_eq {e e' : Env} (h : e = e') : Env.le e e' := by subst h; exact fun i => .inr rfl
section
variable {P : Program} {N : Nat} {ops : Array Oper} {env : Env} {h : Hp} {Q : Exit → Env → Hp → Prop}
theorem AW.trim {c : Code} (l : List Nat) (env' : Env) (he : env.keep l = env') (hw : AW P N c env' h Q) : AW P N c env h Q := AW.keep l (by rw [he]; exact hw)
theorem OpsW.alloc' {o : Oper} {rest : List Oper} {K : Env → Hp → Prop} {e : TypeId} {z : List Value} (ho : o.op = .alloc e) (hgu : o.guard = none) (hd : o.dst.all (· < N) = true) (r : Nat) (hr : h.at r = none)
    (hz : zc P e = some z) (hz1 : z.all (·.oneCell') = true) (hw : OpsW P N ops rest (setd env o.dst (.ref r 0 0)) ((r, ⟨0, true, e, z.length, z.map fun v => .im (.val v)⟩) :: h) K) : OpsW P N ops (o :: rest) env h K :=
  OpsW.alloc ho hgu hd r hr z hz hz1 hw
theorem SrcA.rootF {u : TypeId} {r ver k e : Nat} {α : Type} {enc : α → List IV} {l : List α} (hk : ∀ a, (enc a).length = k) (hu : tk P u = 1) (hrt : h.at r = some (rtA ver e k enc l)) :
    SrcA P h u k (.rsl r ver 0 l.length) l.length ((l.flatMap enc).map .im) := by
  have := SrcA.root (P := P) (u := u) (off := 0) (m := l.length) hk hu hrt (by omega)
  simpa using this
theorem rt_cell {α : Type} (enc : α → List IV) (k : Nat) (hk : ∀ a, (enc a).length = k) (l : List α) (d : α) (i : Nat) (hi : i < l.length) (o : Nat) (c : α → IV) (hc : ∀ a, (enc a)[o]? = some (c a)) {off : Nat} (ho : off = i * k + o) :
    ((l.flatMap enc).map AV.im)[off]? = some (.im (c (l.getD i d))) := by
  subst ho
  exact map_get (fm_cell enc k hk l d i hi o c hc)
theorem rt_elem {α : Type} (enc : α → List IV) (k : Nat) (hk : ∀ a, (enc a).length = k) (l : List α) (d : α) (i : Nat) (hi : i < l.length) : (((l.flatMap enc).map AV.im).drop (0 + i * k)).take k = (enc (l.getD i d)).map AV.im := by
  rw [Nat.zero_add, ← List.map_drop, ← List.map_take, fm_elem enc k hk l d i hi]
theorem rt_elem_le {α : Type} (enc : α → List IV) (k : Nat) (hk : ∀ a, (enc a).length = k) (l : List α) (i : Nat) (hi : i < l.length) : 0 + i * k + k ≤ ((l.flatMap enc).map AV.im).length := by
  rw [List.length_map, fm_length enc k hk]
  have : (i + 1) * k ≤ l.length * k := Nat.mul_le_mul_right _ hi
  rw [Nat.add_mul] at this
  omega
def PartOf (n k : Nat) (cs : List IV) (lo hi : Nat) (x : IV) : Prop := x = .sl ((cs.drop (lo * k)).take ((hi - lo) * k)) (hi - lo)
theorem T.slice' {ρ : Operand → AV} {x : Operand} {lo hi : Option Operand} {t : TypeId} {cs : List IV} {n k : Nat} {y : IV} (hx : st (ρ x) = .im (.sl cs n)) (hg : gd (ρ x)) (hgl : gdo ρ lo) (hgh : gdo ρ hi) (ht : tk P t = 1) (hk : ez P t = some k)
    (h1 : okLo n (hi.map fun y => st (ρ y))) (h2 : okLo (highOf n (hi.map fun y => st (ρ y))) (lo.map fun y => st (ρ y)))
    (hd : PartOf n k cs (lowOf (lo.map fun y => st (ρ y))) (highOf n (hi.map fun y => st (ρ y))) y) :
    po P h ρ (.slice t x lo hi none) ∧ pv P h ρ (.slice t x lo hi none) = .im y := by
  unfold PartOf at hd
  rw [hd]
  exact T.slice hx hg hgl hgh ht hk h1 h2 rfl rfl
theorem sl_hi {α : Type} (enc : α → List IV) (k : Nat) (hk : ∀ a, (enc a).length = k) (l : List α) (hi : Int) (h1 : 0 ≤ hi ∧ hi ≤ (l.length : Int)) :
    PartOf l.length k (l.flatMap enc) 0 hi.toNat (.sl ((l.take hi.toNat).flatMap enc) (l.take hi.toNat).length) := by
  unfold PartOf
  rw [fm_part enc k hk]
  simp
  omega
inductive ResV (P : Program) (h : Hp) (env : Env) : List ResultVar → List AV → Prop
  | nil : ResV P h env [] []
  | tmp {t : Nat} {rs : List ResultVar} {xs : List AV} : ResV P h env rs xs → ResV P h env (.tmp t :: rs) (rd env t :: xs)
  | cell {a t r ver off : Nat} {rs : List ResultVar} {xs : List AV} : rd env a = .ref r ver off → ob P h (fun _ => .ref r ver off) (.load t (.tmp 0)) = some [] → ResV P h env rs xs → ResV P h env (.cell a t :: rs) (pvLoad h (lz P t) (.ref r ver off) :: xs)
  | cellW {a t r ver n : Nat} {rt : Rt} {rs : List ResultVar} {xs : List AV} : rd env a = .ref r ver 0 → lz P t = some (some n) → h.at r = some rt → rt.ver = ver → rt.live = true → rt.cs.length = n → ResV P h env rs xs → ResV P h env (.cell a t :: rs) (.agg rt.cs :: xs)
def resOf : List AV → AV
  | [x] => x
  | xs => .tup xs
theorem loadAt_loadVar {t : TypeId} {u v : Value} {w : World} (hl : (Instr.loadAt t u).run P w = .ok v w) {g off : Nat} (hu : u = .pointer (some ⟨g, off, none⟩)) : (do loadVar t (← asAddr u) : Sem Value).run P w = .ok v w := by
  subst hu
  simp [Instr.loadAt, Instr.sureAddr, Sem.run_bind, asAddr] at hl ⊢
  exact hl
def resOne (tmps : Array Value) : ResultVar → Sem Value
  | .tmp t => pure (tmps.getD t undef)
  | .cell b t => do loadVar t (← asAddr (tmps.getD b undef))
theorem results_resOne (fn : Func) (tmps : Array Value) : results fn tmps = (do
    let vs ← fn.results.mapM (resOne tmps)
    pure (if h : vs.size = 1 then vs[0] else .tuple vs)) := by
  unfold results
  congr 2
theorem ResV.run {rs : List ResultVar} {xs : List AV} (hv : ResV P h env rs xs) {X : Ctx} {a : Act} {w : World} {ι : Nat → Bk} (H : Hol X h ι w) (S : Slots N env h ι (Own X.B h ι) a w) :
    ∃ vs : List Value, (rs.mapM (resOne a.tmps)).run P w = .ok vs w ∧ VRL w h ι (Own X.B h ι) xs vs := by
  induction hv with
  | nil => exact ⟨[], by simp, by simp [VRL]⟩
  | @tmp t rs xs _ ih =>
    obtain ⟨vs, h1, h2⟩ := ih
    refine ⟨a.tmps.getD t undef :: vs, ?_, by simp only [VRL]; exact ⟨_, _, rfl, S.at_ t, h2⟩⟩
    rw [List.mapM_cons, Sem.run_bind]
    have e : (resOne a.tmps (.tmp t)).run P w = .ok (a.tmps.getD t undef) w := by simp only [resOne, Sem.run_pure]
    rw [e]
    simp only [Result.andThen_ok, Sem.run_bind, h1, Sem.run_pure]
  | @cell b t r ver off rs xs h3 h4 _ ih =>
    obtain ⟨vs, h1, h2⟩ := ih
    have hp := ob_sound h4 trivial
    have hb := S.at_ b
    rw [h3] at hb
    have hx : VR w h ι (Own X.B h ι) (.ref r ver off) (a.tmps.getD b undef) := hb
    obtain ⟨v, h5, h6⟩ := load_sound (P := P) (t := t) H hp.2 hx
    have hn : (h.at r).map (·.ver) = some ver := by
      have hpl := hp.2
      simp only [st] at hpl
      unfold poLoad at hpl
      split at hpl
      · rename_i e; cases e
      · rename_i e; cases e
      · rename_i e
        cases e
        split at hpl
        · rename_i rt hrt; rw [hrt]; simp [hpl.1]
        · exact hpl.elim
      · rename_i e
        cases e
        split at hpl
        · rename_i rt hrt; rw [hrt]; simp [hpl.1]
        · exact hpl.elim
      · exact hpl.elim
    obtain ⟨rt, g, _, _, _, hu⟩ := VR.ref_now hx hn
    refine ⟨v :: vs, ?_, by simp only [VRL]; exact ⟨_, _, rfl, h6, h2⟩⟩
    have h7 : (resOne a.tmps (.cell b t)).run P w = .ok v w := loadAt_loadVar h5 hu
    rw [List.mapM_cons, Sem.run_bind, h7]
    simp only [Result.andThen_ok, Sem.run_bind, h1, Sem.run_pure]
  | @cellW b t r ver n rt rs xs h3 h4 h5 h6 h7 h8 _ ih =>
    obtain ⟨vs, h1, h2⟩ := ih
    have hx := S.at_ b
    rw [h3] at hx
    have hpl : poLoad h (lz P t) (.ref r ver 0) := by
      unfold poLoad
      rw [h4]
      simp only [h5]
      exact ⟨h6, h7, by omega⟩
    obtain ⟨v, g5, g6⟩ := load_sound (P := P) (t := t) H hpl hx
    obtain ⟨rt', g, _, _, _, hu⟩ := VR.ref_now hx (by simp [h5, h6])
    have e : pvLoad h (lz P t) (.ref r ver 0) = .agg rt.cs := by
      unfold pvLoad
      rw [h4]
      simp only [h5, List.drop_zero]
      rw [List.take_of_length_le (by omega)]
    rw [e] at g6
    refine ⟨v :: vs, ?_, by simp only [VRL]; exact ⟨_, _, rfl, g6, h2⟩⟩
    have g7 : (resOne a.tmps (.cell b t)).run P w = .ok v w := loadAt_loadVar g5 hu
    rw [List.mapM_cons, Sem.run_bind, g7]
    simp only [Result.andThen_ok, Sem.run_bind, h1, Sem.run_pure]
theorem Done.gen {fn : Func} {rs : List ResultVar} {xs : List AV} {R : AV → Hp → Prop} (hres : fn.results = rs.toArray) (hv : ResV P h env rs xs) (hR : R (resOf xs) h) : Done P fn R .ret env h := by
  refine ⟨resOf xs, fun X a w ι H S => ?_, hR⟩
  obtain ⟨vs, h1, h2⟩ := hv.run H S
  have hlen := h2.length
  refine ⟨if h : vs.length = 1 then vs[0] else .tuple vs.toArray, ?_, ?_⟩
  · rw [results_resOne, hres, List.mapM_toArray, Sem.run_bind]
    have e : (Functor.map List.toArray (rs.mapM (resOne a.tmps)) : Sem (Array Value)).run P w = .ok vs.toArray w := by
      rw [map_eq_pure_bind, Sem.run_bind, h1]
      simp only [Result.andThen_ok, Sem.run_pure]
    rw [e]
    simp only [Result.andThen_ok, Sem.run_pure, List.size_toArray, List.getElem_toArray]
  · cases xs with
    | nil =>
      simp at hlen
      subst hlen
      simp only [resOf, VR]
      exact ⟨[], rfl, h2⟩
    | cons x xs =>
      cases xs with
      | nil =>
        simp only [VRL] at h2
        obtain ⟨v, l', rfl, hx, rfl⟩ := h2
        simpa [resOf] using hx
      | cons y ys =>
        have : ¬ vs.length = 1 := by simp at hlen; omega
        rw [dif_neg this]
        simp only [resOf, VR]
        exact ⟨vs, rfl, h2⟩
theorem fresh_of {h h' : Hp} (ha : ((h'.map (·.1)).all fun i => (h.map (·.1)).all fun j => !(i == j)) = true) : ∀ i rt, h'.at i = some rt → h.at i = none := by
  intro i rt hi
  cases hh : h.at i with
  | none => rfl
  | some rt2 =>
    have := List.all_eq_true.1 (List.all_eq_true.1 ha i (mem_of_at hi)) i (mem_of_at hh)
    simp at this
end
end Go.Abs
/-
  Own work. The generated walks, part 6: regions whose order is drawn at first, with a tail in the order of the text.
-/
namespace Go.Abs
open Go.RowKit
section
variable {P : Program} {N : Nat} {ops : Array Oper} {env : Env} {h : Hp}
def reachB (ops : Array Oper) : Nat → Nat → Nat → Bool
  | 0, _, _ => false
  | f + 1, i, j => match ops[i]? with
    | none => false
    | some o => (o.after.any fun e => Region.binds .any e && e.on == j) || (o.after.any fun e => Region.binds .any e && reachB ops f e.on j)
theorem reach_listed {S : Nat → Bool} (down : ∀ (k : Nat) (o : Oper), S k = true → ops[k]? = some o → ∀ e ∈ o.after, Region.binds .any e = true → S e.on = true) :
    ∀ (f i j : Nat) (o : Oper), ops[i]? = some o → (∀ e ∈ o.after, Region.binds .any e = true → S e.on = true) → reachB ops f i j = true → S j = true
  | 0, i, j, o, ho, hp, h => by simp [reachB] at h
  | f + 1, i, j, o, ho, hp, h => by
    unfold reachB at h
    simp only [ho, Bool.or_eq_true] at h
    rcases h with h | h
    · obtain ⟨e, he, hb⟩ := Array.any_eq_true'.1 h
      simp only [Bool.and_eq_true, beq_iff_eq] at hb
      rw [← hb.2]
      exact hp e he hb.1
    · obtain ⟨e, he, hb⟩ := Array.any_eq_true'.1 h
      simp only [Bool.and_eq_true] at hb
      have hS := hp e he hb.1
      cases hoe : ops[e.on]? with
      | none =>
        cases f with
        | zero => simp [reachB] at hb
        | succ f => simp [reachB, hoe] at hb
      | some oe => exact reach_listed down f e.on j oe hoe (down e.on oe hS hoe) hb.2
def drawOkM (N : Nat) (ops : Array Oper) (m : Nat) : Bool :=
  decide (m ≤ ops.size) && ((List.range m).all fun i => match ops[i]? with
    | none => false
    | some o => o.dst.all (· < N) && o.after.all (fun e => !Region.binds .any e || e.on < i) &&
      (List.range m).all fun j => match ops[j]? with
        | none => false
        | some p => match p.dst with
          | none => true
          | some d => if i = j then !(o.looksAt ops).contains d else
              o.dst != some d && (!(o.looksAt ops).contains d || (j < i && o.after.any fun e => Region.binds .any e && e.on == j) || (i < j && p.after.any fun e => Region.binds .any e && e.on == i))) &&
  ((List.range ops.size).all fun i => decide (i < m) || match ops[i]? with
    | none => false
    | some o => o.after.all (fun e => !Region.binds .any e || e.on < i) && ((List.range i).all fun j => reachB ops ops.size i j))
structure DrawOkM (N : Nat) (ops : Array Oper) (m : Nat) : Prop where
  le : m ≤ ops.size
  dst : ∀ (i : Nat) (o : Oper), i < m → ops[i]? = some o → o.dst.all (· < N) = true
  back : ∀ (i : Nat) (o : Oper), ops[i]? = some o → ∀ e ∈ o.after, Region.binds .any e = true → e.on < i
  self : ∀ (i : Nat) (o : Oper) (d : Nat), i < m → ops[i]? = some o → o.dst = some d → d ∉ o.looksAt ops
  one : ∀ (i j : Nat) (o p : Oper) (d : Nat), i < m → j < m → ops[i]? = some o → ops[j]? = some p → o.dst = some d → p.dst = some d → i = j
  look : ∀ (i j : Nat) (o p : Oper) (d : Nat), i < m → j < m → ops[i]? = some o → ops[j]? = some p → i ≠ j → p.dst = some d → d ∈ o.looksAt ops →
    (j < i ∧ ∃ e ∈ o.after, Region.binds .any e = true ∧ e.on = j) ∨ (i < j ∧ ∃ e ∈ p.after, Region.binds .any e = true ∧ e.on = i)
  tail : ∀ (i : Nat) (o : Oper), m ≤ i → ops[i]? = some o → ∀ j, j < i → reachB ops ops.size i j = true
theorem drawOkM.spec {m : Nat} (hk : drawOkM N ops m = true) : DrawOkM N ops m := by
  unfold drawOkM at hk
  simp only [Bool.and_eq_true, decide_eq_true_eq] at hk
  obtain ⟨⟨hle, hk⟩, ht⟩ := hk
  have key : ∀ (i : Nat) (o : Oper), i < m → ops[i]? = some o → (o.dst.all (· < N) = true) ∧ (∀ e ∈ o.after, Region.binds .any e = true → e.on < i) ∧
      ∀ (j : Nat) (p : Oper) (d : Nat), j < m → ops[j]? = some p → p.dst = some d → (i = j → d ∉ o.looksAt ops) ∧ (i ≠ j → o.dst ≠ some d ∧ (d ∈ o.looksAt ops →
        (j < i ∧ ∃ e ∈ o.after, Region.binds .any e = true ∧ e.on = j) ∨ (i < j ∧ ∃ e ∈ p.after, Region.binds .any e = true ∧ e.on = i))) := by
    intro i o him ho
    have h1 := List.all_eq_true.1 hk i (List.mem_range.2 him)
    simp only [ho, Bool.and_eq_true] at h1
    obtain ⟨⟨h1, h2⟩, h3⟩ := h1
    refine ⟨h1, fun e he hb => ?_, fun j p d hjm hp hd => ?_⟩
    · have := Array.all_eq_true_iff_forall_mem.1 h2 e he
      simpa [hb] using this
    · have h4 := List.all_eq_true.1 h3 j (List.mem_range.2 hjm)
      simp only [hp, hd] at h4
      refine ⟨fun e => ?_, fun e => ?_⟩
      · rw [if_pos e] at h4; simpa using h4
      · rw [if_neg e] at h4
        simp only [Bool.and_eq_true, bne_iff_ne, ne_eq, Bool.or_eq_true] at h4
        refine ⟨h4.1, fun hl => ?_⟩
        rcases h4.2 with (h5 | h5) | h5
        · simp [hl] at h5
        · simp only [Bool.and_eq_true, decide_eq_true_eq] at h5
          obtain ⟨h6, h7⟩ := h5
          obtain ⟨e, he, hb⟩ := Array.any_eq_true'.1 h7
          simp only [Bool.and_eq_true, beq_iff_eq] at hb
          exact .inl ⟨h6, e, he, hb.1, hb.2⟩
        · simp only [Bool.and_eq_true, decide_eq_true_eq] at h5
          obtain ⟨h6, h7⟩ := h5
          obtain ⟨e, he, hb⟩ := Array.any_eq_true'.1 h7
          simp only [Bool.and_eq_true, beq_iff_eq] at hb
          exact .inr ⟨h6, e, he, hb.1, hb.2⟩
  have keyT : ∀ (i : Nat) (o : Oper), m ≤ i → ops[i]? = some o → (∀ e ∈ o.after, Region.binds .any e = true → e.on < i) ∧ ∀ j, j < i → reachB ops ops.size i j = true := by
    intro i o him ho
    have hi : i < ops.size := (Array.getElem?_eq_some_iff.1 ho).1
    have h1 := List.all_eq_true.1 ht i (List.mem_range.2 hi)
    simp only [ho, Bool.or_eq_true, decide_eq_true_eq, Bool.and_eq_true] at h1
    rcases h1 with h1 | ⟨h1, h2⟩
    · omega
    · refine ⟨fun e he hb => ?_, fun j hj => ?_⟩
      · have := Array.all_eq_true_iff_forall_mem.1 h1 e he
        simpa [hb] using this
      · exact List.all_eq_true.1 h2 j (List.mem_range.2 hj)
  refine ⟨hle, fun i o hi ho => (key i o hi ho).1, fun i o ho => ?_, fun i o d hi ho hd => ((key i o hi ho).2.2 i o d hi ho hd).1 rfl,
    fun i j o p d hi hj ho hp hd he => ?_, fun i j o p d hi hj ho hp hij hd hl => (((key i o hi ho).2.2 j p d hj hp hd).2 hij).2 hl, fun i o hi ho => (keyT i o hi ho).2⟩
  · by_cases hi : i < m
    · exact (key i o hi ho).2.1
    · exact (keyT i o (by omega) ho).1
  · by_cases hij : i = j
    · exact hij
    · exact absurd hd (((key i o hi ho).2.2 j p d hj hp he).2 hij).1
theorem wpAny_tail {Q : Exit → Act → World → Prop} {m0 : Nat} (D : DrawOkM N ops m0) : ∀ (n m fuel : Nat) (listed : Array Bool) (a : Act) (w : World), m0 ≤ m → ops.size = m + n → n ≤ fuel → listed.size = ops.size → (∀ i, i < ops.size → listed.getD i false = decide (i < m)) →
    wpList P ops Q (ops.toList.drop m) a w → wpAny P .any ops Q fuel listed a w := by
  have rdy : ∀ (m : Nat) (listed : Array Bool), m0 ≤ m → listed.size = ops.size → (∀ i, i < ops.size → listed.getD i false = decide (i < m)) → ∀ i, i ∈ Region.ready .any ops listed ↔ (i = m ∧ m < ops.size) := by
    intro m listed hm hsz hl i
    unfold Region.ready
    rw [List.mem_filter, List.mem_range]
    have gd : ∀ i, i < ops.size → listed.getD i true = decide (i < m) := by
      intro i hi
      have := hl i hi
      simp only [Array.getD_eq_getD_getElem?, Array.getElem?_eq_getElem (show i < listed.size by omega), Option.getD_some] at this ⊢
      exact this
    constructor
    · rintro ⟨hi, h2⟩
      have ho : ops[i]? = some ops[i] := Array.getElem?_eq_getElem hi
      simp only [ho, Option.map_some, Option.getD_some, Bool.and_eq_true, Bool.not_eq_true', gd i hi] at h2
      have him : m ≤ i := by simpa using h2.1
      by_cases hlt : m < i
      · exfalso
        have hre := D.tail i _ (by omega) ho m hlt
        have hpre : ∀ e ∈ (ops[i]).after, Region.binds .any e = true → e.on < m := fun e he hb => by
          have := Array.all_eq_true_iff_forall_mem.1 h2.2 e he
          have hlt := D.back i _ ho e he hb
          rw [hl e.on (by omega)] at this
          simpa [hb] using this
        have := reach_listed (S := fun k => decide (k < m)) (fun k o hk hok e he hb => by
          have h1 := D.back k o hok e he hb
          simp only [decide_eq_true_eq] at hk ⊢
          omega) ops.size i m _ ho (fun e he hb => by simpa using hpre e he hb) hre
        simp at this
      · exact ⟨by omega, by omega⟩
    · rintro ⟨rfl, hi⟩
      have ho : ops[i]? = some ops[i] := Array.getElem?_eq_getElem hi
      refine ⟨hi, ?_⟩
      simp only [ho, Option.map_some, Option.getD_some, Bool.and_eq_true, Bool.not_eq_true', gd i hi]
      refine ⟨by simp, Array.all_eq_true_iff_forall_mem.2 fun e he => ?_⟩
      cases hb : Region.binds .any e with
      | false => simp
      | true =>
        have := D.back i _ ho e he hb
        simp [hl e.on (by omega), this]
  intro n
  induction n with
  | zero =>
    intro m fuel listed a w hm hsz hf hls hl hw
    have hr : Region.ready .any ops listed = [] := List.eq_nil_iff_forall_not_mem.2 fun i hi => by
      have := (rdy m listed hm hls hl i).1 hi
      omega
    have hd : ops.toList.drop m = [] := List.drop_eq_nil_of_le (by simp; omega)
    rw [hd] at hw
    cases fuel with
    | zero => exact ⟨hr, hw⟩
    | succ fuel => exact ⟨fun _ => hw, fun i hi => by rw [hr] at hi; cases hi⟩
  | succ n ih =>
    intro m fuel listed a w hm hsz hf hls hl hw
    cases fuel with
    | zero => omega
    | succ fuel =>
      have hlt : m < ops.size := by omega
      have hmem : m ∈ Region.ready .any ops listed := (rdy m listed hm hls hl m).2 ⟨rfl, hlt⟩
      refine ⟨fun hr => (by rw [hr] at hmem; cases hmem), fun i hi => ?_⟩
      obtain ⟨rfl, _⟩ := (rdy m listed hm hls hl i).1 hi
      have ho : ops[i]? = some ops[i] := Array.getElem?_eq_getElem hlt
      have hd : ops.toList.drop i = ops[i] :: ops.toList.drop (i + 1) := by
        rw [List.drop_eq_getElem_cons (by simpa using hlt)]
        simp
      rw [hd] at hw
      have hstep : wpOp P ops Q i (wpList P ops Q (ops.toList.drop (i + 1))) a w := by
        unfold wpOp
        simp only [ho]
        exact hw
      refine wpOp_mono (fun a' w' h' => ?_) hstep
      refine ih (i + 1) fuel _ a' w' (by omega) (by omega) (by omega) (by simpa using hls) (fun k hk => ?_) h'
      simp only [Array.getD_eq_getD_getElem?]
      by_cases hki : i = k
      · subst hki; rw [Array.getElem?_setIfInBounds_self_of_lt (by omega)]; simp
      · rw [Array.getElem?_setIfInBounds_ne hki]
        have := hl k hk
        simp only [Array.getD_eq_getD_getElem?] at this
        rw [this]
        by_cases h1 : k < i
        · simp [h1]; omega
        · have : ¬ k < i + 1 := by omega
          simp [h1, this]
theorem unlisted_lt' {n i : Nat} {listed : Array Bool} (hi : i < n) (hn : n ≤ listed.size) (hu : listed.getD i true = false) :
    ((List.range n).filter fun j => !(listed.setIfInBounds i true).getD j true).length < ((List.range n).filter fun j => !listed.getD j true).length := by
  have e : ((List.range n).filter fun j => !(listed.setIfInBounds i true).getD j true) = ((List.range n).filter fun j => !listed.getD j true).filter (· != i) := by
    rw [List.filter_filter]
    apply List.filter_congr
    intro j hj
    simp only [Array.getD_eq_getD_getElem?]
    by_cases hij : i = j
    · subst hij
      rw [Array.getElem?_setIfInBounds_self_of_lt (by omega)]
      simp
    · rw [Array.getElem?_setIfInBounds_ne hij]
      have : (j != i) = true := by simp; omega
      simp [this]
  rw [e]
  apply List.length_filter_lt_length_iff_exists.2
  exact ⟨i, List.mem_filter.2 ⟨List.mem_range.2 hi, by simp [hu]⟩, by simp⟩
theorem AW.drawT {id : Nat} {Q : Exit → Env → Hp → Prop} (m : Nat) (hm : P.follows .mixedOrders = true) (hk : drawOkM N ops m = true) (hq : QOps P ops h (ops.toList.take m) env (fun e => OpsW P N ops (ops.toList.drop m) e h (Q .normal))) :
    AW P N (.region id ops true) env h Q := by
  have D := drawOkM.spec hk
  have hmle := D.le
  obtain ⟨vs, hlen, hK, hvs⟩ := QOps.vals _ _ hq
  have hlen' : vs.length = m := by rw [hlen]; simp; omega
  have hget : ∀ i, i < m → (ops.toList.take m)[i]? = ops[i]? := fun i hi => by rw [List.getElem?_take, if_pos hi]; simp
  intro X a w ι H S
  refine wp_region_any hm ?_
  have hdrew : Below w.heap.size w { w with drawn := w.drawn + 1 } := ⟨rfl, rfl, rfl, Nat.le_refl _, fun _ _ => rfl⟩
  have H' := H.below hdrew
  have S' := S.below hdrew
  generalize ({ w with drawn := w.drawn + 1 } : World) = w1 at H' S'
  clear hdrew H S w
  have main : ∀ (fuel : Nat) (listed : Array Bool) (a : Act) (w : World), listed.size = ops.size → ((List.range m).filter fun j => !listed.getD j true).length + (ops.size - m) ≤ fuel → (∀ k, m ≤ k → listed.getD k false = false) → Hol X h ι w →
      Mid N ops env vs h ι (Own X.B h ι) (fun i => listed.getD i false) a w →
      wpAny P .any ops (fun e a' w' => ∃ env' h' ι', Q e env' h' ∧ Hol X h' ι' w' ∧ Slots N env' h' ι' (Own X.B h' ι') a' w') fuel listed a w := by
    have fin : ∀ (fuel : Nat) (listed : Array Bool) (a : Act) (w : World), listed.size = ops.size → ops.size - m ≤ fuel → (∀ k, m ≤ k → listed.getD k false = false) → (∀ i, i < m → listed.getD i false = true) → Hol X h ι w → Mid N ops env vs h ι (Own X.B h ι) (fun i => listed.getD i false) a w →
        wpAny P .any ops (fun e a' w' => ∃ env' h' ι', Q e env' h' ∧ Hol X h' ι' w' ∧ Slots N env' h' ι' (Own X.B h' ι') a' w') fuel listed a w := by
      intro fuel listed a w hsz hfu hno all H M
      have hS : Slots N (envAt env (ops.toList.take m) vs) h ι (Own X.B h ι) a w := by
        refine ⟨M.size, M.defers, fun s => ?_⟩
        by_cases hex : ∃ (i : Nat) (o : Oper), i < m ∧ ops[i]? = some o ∧ o.dst = some s
        · obtain ⟨i, o, hi, ho, hd⟩ := hex
          have hv : vs[i]? = some (vs[i]'(by omega)) := List.getElem?_eq_getElem (by omega)
          rw [envAt_some (ops.toList.take m) vs env i o _ (by rw [hget i hi]; exact ho) hv hd (fun j p hp e => by
            have hj : j < m := by
              have := (List.getElem?_eq_some_iff.1 hp).1
              simp at this; omega
            rw [hget j hj] at hp
            exact (D.one i j o p s hi hj ho hp hd e).symm)]
          exact M.put i o _ s (all i hi) ho hv hd
        · rw [envAt_none (ops.toList.take m) vs env (fun i o ho e => by
            have hi : i < m := by
              have := (List.getElem?_eq_some_iff.1 ho).1
              simp at this; omega
            rw [hget i hi] at ho
            exact hex ⟨i, o, hi, ho, e⟩)]
          refine M.left s (fun i o hSi ho e => ?_)
          by_cases hi : i < m
          · exact hex ⟨i, o, hi, ho, e⟩
          · simp only [hno i (by omega)] at hSi; cases hSi
      refine wpAny_tail D (ops.size - m) m fuel listed a w (Nat.le_refl _) (by omega) hfu hsz (fun i hi => ?_) (hK X a w ι _ H hS fun env' h' ι' a' w' hq H2 S2 => ⟨env', h', ι', hq, H2, S2⟩)
      by_cases him : i < m
      · rw [all i him]; simp [him]
      · rw [hno i (by omega)]; simp [him]
    intro fuel
    induction fuel with
    | zero =>
      intro listed a w hsz hc hno H M
      refine fin 0 listed a w hsz (by omega) hno (fun i hi => ?_) H M
      have h0 : ((List.range m).filter fun j => !listed.getD j true) = [] := List.eq_nil_of_length_eq_zero (by omega)
      rw [List.filter_eq_nil_iff] at h0
      have := h0 i (List.mem_range.2 hi)
      simp only [Bool.not_eq_true, Bool.not_eq_false'] at this
      have hi' : i < listed.size := by omega
      simp only [Array.getD_eq_getD_getElem?, Array.getElem?_eq_getElem hi', Option.getD_some] at this ⊢
      exact this
    | succ fuel ih =>
      intro listed a w hsz hc hno H M
      by_cases hall : ∀ i, i < m → listed.getD i false = true
      · exact fin (fuel + 1) listed a w hsz (by omega) hno hall H M
      have hlow : ∀ i, i ∈ Region.ready .any ops listed → i < m := by
        intro i hi
        unfold Region.ready at hi
        obtain ⟨hir, hi2⟩ := List.mem_filter.1 hi
        have hi' : i < ops.size := List.mem_range.1 hir
        have ho : ops[i]? = some ops[i] := Array.getElem?_eq_getElem hi'
        simp only [ho, Option.map_some, Option.getD_some, Bool.and_eq_true, Bool.not_eq_true'] at hi2
        by_cases him : i < m
        · exact him
        · exfalso
          refine hall fun j hj => ?_
          have hre := D.tail i _ (by omega) ho j (by omega)
          exact reach_listed (S := fun k => listed.getD k false) M.down ops.size i j _ ho (fun e he hb => by
            have := Array.all_eq_true_iff_forall_mem.1 hi2.2 e he
            simpa [hb] using this) hre
      refine ⟨fun hr => ?_, fun i hi => ?_⟩
      · exfalso
        refine hall fun i => ?_
        induction i using Nat.strongRecOn with
        | _ i ihi =>
          intro hi
          cases hl : listed.getD i false with
          | true => rfl
          | false =>
            exfalso
            have hmem : i ∈ Region.ready .any ops listed := by
              unfold Region.ready
              refine List.mem_filter.2 ⟨List.mem_range.2 (by omega), ?_⟩
              have ho : ops[i]? = some (ops[i]'(by omega)) := Array.getElem?_eq_getElem (by omega)
              have hl' : listed.getD i true = false := by
                have hi' : i < listed.size := by omega
                simp only [Array.getD_eq_getD_getElem?, Array.getElem?_eq_getElem hi', Option.getD_some] at hl ⊢
                exact hl
              simp only [hl', Bool.not_false, Bool.true_and, ho, Option.map_some, Option.getD_some]
              refine Array.all_eq_true_iff_forall_mem.2 fun e he => ?_
              cases hb : Region.binds .any e with
              | false => simp
              | true =>
                have := D.back i _ ho e he hb
                simp [ihi e.on this (by omega)]
            rw [hr] at hmem
            cases hmem
      have him : i < m := hlow i hi
      unfold Region.ready at hi
      obtain ⟨hir, hi2⟩ := List.mem_filter.1 hi
      have hi' : i < ops.size := List.mem_range.1 hir
      have ho : ops[i]? = some ops[i] := Array.getElem?_eq_getElem hi'
      simp only [ho, Option.map_some, Option.getD_some, Bool.and_eq_true, Bool.not_eq_true'] at hi2
      obtain ⟨hul, hpred⟩ := hi2
      have hpred' : ∀ e ∈ (ops[i]).after, Region.binds .any e = true → listed.getD e.on false = true := fun e he hb => by
        have := Array.all_eq_true_iff_forall_mem.1 hpred e he
        simpa [hb] using this
      have hulf : listed.getD i false = false := by
        have hi'' : i < listed.size := by omega
        simp only [Array.getD_eq_getD_getElem?, Array.getElem?_eq_getElem hi'', Option.getD_some] at hul ⊢
        exact hul
      have hSm : ∀ k, listed.getD k false = true → k < m := fun k hk => by
        by_cases hkm : k < m
        · exact hkm
        · rw [hno k (by omega)] at hk; cases hk
      have hv : vs[i]? = some (vs[i]'(by omega)) := List.getElem?_eq_getElem (by omega)
      have hqi := hvs i ops[i] _ (by rw [hget i him]; exact ho) hv
      rw [List.take_take, show min i m = i from by omega] at hqi
      simp only [wpOp, ho]
      have hlook : ∀ s, s ∈ (ops[i]).looksAt ops → VR w h ι (Own X.B h ι) (rd (envAt env (ops.toList.take i) (vs.take i)) s) (a.tmps.getD s undef) := by
        intro s hs
        by_cases hex : ∃ (j : Nat) (p : Oper), j < m ∧ ops[j]? = some p ∧ p.dst = some s
        · obtain ⟨j, p, hj, hp, hd⟩ := hex
          have hij : i ≠ j := by
            rintro rfl
            rw [ho] at hp
            cases hp
            exact D.self i _ s him ho hd hs
          rcases D.look i j _ p s him hj ho hp hij hd hs with ⟨hlt, e, he, hb, hon⟩ | ⟨hlt, e, he, hb, hon⟩
          · have hS : listed.getD j false = true := hon ▸ hpred' e he hb
            have hvj : vs[j]? = some (vs[j]'(by omega)) := List.getElem?_eq_getElem (by omega)
            rw [envAt_some (ops.toList.take i) (vs.take i) env j p (vs[j]'(by omega)) (by rw [List.getElem?_take, if_pos hlt]; simpa using hp) (by rw [List.getElem?_take, if_pos hlt]; exact hvj) hd
              (fun k q hq e => by
                rw [List.getElem?_take] at hq
                split at hq
                · exact (D.one j k p q s hj (by omega) hp (by simpa using hq) hd e).symm
                · cases hq)]
            exact M.put j p _ s hS hp hvj hd
          · rw [envAt_none (ops.toList.take i) (vs.take i) env (fun k q hq e => by
              rw [List.getElem?_take] at hq
              split at hq
              · have := D.one j k p q s hj (by omega) hp (by simpa using hq) hd e
                omega
              · cases hq)]
            refine M.left s (fun k q hk hq e => ?_)
            have hjk := D.one j k p q s hj (hSm k hk) hp hq hd e
            subst hjk
            rw [hp] at hq
            cases hq
            have := M.down j p hk hp _ he hb
            rw [hon] at this
            simp [hulf] at this
        · rw [envAt_none (ops.toList.take i) (vs.take i) env (fun k q hq e => by
            rw [List.getElem?_take] at hq
            split at hq
            · exact hex ⟨k, q, by omega, by simpa using hq, e⟩
            · cases hq)]
          exact M.left s (fun k q hk hq e => hex ⟨k, q, hSm k hk, hq, e⟩)
      have step := hqi X a w ι (fun e a' w' => ∃ env' h' ι', Q e env' h' ∧ Hol X h' ι' w' ∧ Slots N env' h' ι' (Own X.B h' ι') a' w') H hlook
        (wpAny P .any ops (fun e a' w' => ∃ env' h' ι', Q e env' h' ∧ Hol X h' ι' w' ∧ Slots N env' h' ι' (Own X.B h' ι') a' w') fuel (listed.setIfInBounds i true)) ?_
      · split
        · rename_i hw; rw [if_pos hw] at step; exact .inl step
        · rename_i hw; rw [if_neg hw] at step; exact step
      · intro v w' hb hvv
        have hset : ∀ k, (listed.setIfInBounds i true).getD k false = if k = i then true else listed.getD k false := by
          intro k
          simp only [Array.getD_eq_getD_getElem?]
          by_cases hki : k = i
          · subst hki; rw [Array.getElem?_setIfInBounds_self_of_lt (by omega)]; simp
          · rw [Array.getElem?_setIfInBounds_ne (fun e => hki e.symm)]; simp [hki]
        refine ih _ _ _ (by simpa using hsz) ?_ (fun k hkm => by rw [hset k, if_neg (by omega)]; exact hno k hkm) (H.below hb) ?_
        · have := unlisted_lt' him (by omega) hul
          omega
        · have hKB : Keep w h ι (Own X.B h ι) w' h ι (Own X.B h ι) := Keep.below hb
          have hother : ∀ s, (ops[i]).dst ≠ some s → (a.put (ops[i]).dst v).tmps.getD s undef = a.tmps.getD s undef := by
            intro s hs
            cases hd : (ops[i]).dst with
            | none => rfl
            | some d =>
              have : d ≠ s := fun e => hs (by rw [hd, e])
              simp only [Act.put, Array.getD_eq_getD_getElem?, Array.getElem?_setIfInBounds_ne this]
          have hself : ∀ s, (ops[i]).dst = some s → (a.put (ops[i]).dst v).tmps.getD s undef = v := by
            intro s hs
            have hsN : s < N := by have := D.dst i _ him ho; rw [hs] at this; simpa using this
            rw [hs]
            simp only [Act.put, Array.getD_eq_getD_getElem?]
            rw [Array.getElem?_setIfInBounds_self_of_lt (by rw [M.size]; exact hsN)]
            rfl
          refine ⟨?_, ?_, ?_, ?_, ?_⟩
          · rw [← M.size]; unfold Act.put; split <;> simp
          · rw [← M.defers]; unfold Act.put; split <;> rfl
          · intro k o u s hk hok huk hd
            simp only [hset] at hk
            by_cases hki : k = i
            · subst hki
              rw [ho] at hok; cases hok
              rw [hv] at huk; cases huk
              rw [hself s hd]
              exact hvv
            · rw [if_neg hki] at hk
              rw [hother s (fun e => hki (D.one k i o _ s (hSm k hk) him hok ho hd e))]
              exact VR.keep hKB _ _ (M.put k o u s hk hok huk hd)
          · intro s hs
            have hne : (ops[i]).dst ≠ some s := hs i _ (by simp [hset]) ho
            rw [hother s hne]
            refine VR.keep hKB _ _ (M.left s fun k o hk hok => hs k o ?_ hok)
            simp only [hset]
            split
            · rfl
            · exact hk
          · intro k o hk hok e he hb'
            simp only [hset] at hk ⊢
            by_cases hki : k = i
            · subst hki
              rw [ho] at hok; cases hok
              have := hpred' e he hb'
              split
              · rfl
              · exact this
            · rw [if_neg hki] at hk
              have := M.down k o hk hok e he hb'
              split
              · rfl
              · exact this
  refine main (ops.size) _ a w1 (by simp) ?_ (fun k hk => ?_) H' ⟨S'.size, S'.defers, ?_, ?_, ?_⟩
  · have := List.length_filter_le (fun j => !(Array.replicate ops.size false).getD j true) (List.range m)
    simp only [List.length_range] at this
    omega
  · simp only [Array.getD_eq_getD_getElem?, Array.getElem?_replicate]; split <;> rfl
  · intro i o v s hS
    exfalso
    have : (Array.replicate ops.size false).getD i false = false := by
      simp only [Array.getD_eq_getD_getElem?, Array.getElem?_replicate]; split <;> rfl
    simp only [this] at hS
    cases hS
  · exact fun s _ => S'.at_ s
  · intro i o hS
    exfalso
    have : (Array.replicate ops.size false).getD i false = false := by
      simp only [Array.getD_eq_getD_getElem?, Array.getElem?_replicate]; split <;> rfl
    simp only [this] at hS
    cases hS
theorem AW.drawTSeq {id : Nat} {y : Code} {Q : Exit → Env → Hp → Prop} (m : Nat) (hm : P.follows .mixedOrders = true) (hk : drawOkM N ops m = true) (hq : QOps P ops h (ops.toList.take m) env (fun e => OpsW P N ops (ops.toList.drop m) e h (fun e h => AW P N y e h Q))) :
    AW P N (.seq (.region id ops true) y) env h Q :=
  AW.seq (AW.drawT m hm hk hq)
end
end Go.Abs
/-
  Own work. The generated walks, part 7: arguments that can be read as data, as typed values.
-/
namespace Go.Abs
open Go.RowKit
def okInt : IntKind → Int → Prop
  | .u8, n => 0 ≤ n ∧ n ≤ 255
  | .u16, n => 0 ≤ n ∧ n ≤ 65535
  | .u32, n => 0 ≤ n ∧ n ≤ 4294967295
  | .u64, n => 0 ≤ n ∧ n ≤ 18446744073709551615
  | .i8, n => -128 ≤ n ∧ n ≤ 127
  | .i16, n => -32768 ≤ n ∧ n ≤ 32767
  | .i32, n => -2147483648 ≤ n ∧ n ≤ 2147483647
  | .i64, n => -9223372036854775808 ≤ n ∧ n ≤ 9223372036854775807
theorem okInt_of {k : IntKind} {n : Int} (h : (Lit.int k n).wf = true) : okInt k n := by
  cases k <;> simpa [okInt, Lit.wf, IntKind.min, IntKind.max, IntKind.signed, IntKind.bits] using h
def okAny {α : Type} (_ : α) : Prop := True
def okStr (s : ByteArray) : Prop := s.size ≤ maxLen
def okList {α : Type} (ok : α → Prop) (l : List α) : Prop := (∀ x ∈ l, ok x) ∧ l.length ≤ maxLen
def okArr {α : Type} (n : Nat) (ok : α → Prop) (l : List α) : Prop := (∀ x ∈ l, ok x) ∧ l.length = n
def Typ (P : Program) (t : TypeId) {α : Type} (enc : α → List IV) (ok : α → Prop) : Prop := ∀ xs, Shp P t xs → ∃ v, xs = enc v ∧ ok v
section
variable {P : Program} {α : Type} {enc : α → List IV} {ok : α → Prop}
theorem Typ.int {t : TypeId} {k : IntKind} (ht : P.underlying t = some (.int k)) : Typ P t (eI k) (okInt k) := fun xs hs => by
  obtain ⟨n, rfl, hn⟩ := hs.int_inv ht
  exact ⟨n, rfl, okInt_of hn⟩
theorem Typ.bool {t : TypeId} (ht : P.underlying t = some .bool) : Typ P t eB okAny := fun xs hs => by
  obtain ⟨b, rfl⟩ := hs.bool_inv ht
  exact ⟨b, rfl, trivial⟩
theorem Typ.str {t : TypeId} (ht : P.underlying t = some .string) : Typ P t eS okStr := fun xs hs => by
  obtain ⟨s, rfl, h⟩ := hs.str_inv ht
  exact ⟨s, rfl, h⟩
theorem Typ.each {e : TypeId} (he : Typ P e enc ok) : ∀ (xss : List (List IV)), (∀ ys ∈ xss, Shp P e ys) → ∃ l : List α, xss = l.map enc ∧ ∀ x ∈ l, ok x
  | [], _ => ⟨[], rfl, by simp⟩
  | y :: ys, h => by
    obtain ⟨v, rfl, hv⟩ := he y (h y (by simp))
    obtain ⟨l, rfl, hl⟩ := Typ.each he ys fun z hz => h z (by simp [hz])
    exact ⟨v :: l, rfl, fun x hx => by rcases List.mem_cons.1 hx with rfl | hx; exact hv; exact hl x hx⟩
theorem flatten_map (l : List α) : (l.map enc).flatten = l.flatMap enc := by
  induction l with
  | nil => rfl
  | cons a l ih => simp [List.flatMap_cons, ih]
theorem Typ.sl {t e : TypeId} (ht : P.underlying t = some (.slice e)) (he : Typ P e enc ok) : Typ P t (eL enc) (okList ok) := fun xs hs => by
  obtain ⟨xss, rfl, h1, h2⟩ := hs.sl_inv ht
  obtain ⟨l, rfl, hl⟩ := Typ.each he xss h1
  refine ⟨l, ?_, hl, by simpa using h2⟩
  unfold eL
  rw [flatten_map, List.length_map]
theorem Typ.arr {t e : TypeId} {n : Nat} (ht : P.underlying t = some (.array n e)) (he : Typ P e enc ok) : Typ P t (fun l => l.flatMap enc) (okArr n ok) := fun xs hs => by
  obtain ⟨xss, rfl, h1, h2⟩ := hs.arr_inv ht
  obtain ⟨l, rfl, hl⟩ := Typ.each he xss h1
  exact ⟨l, flatten_map l, hl, by simpa using h2⟩
theorem ShpL.of : ∀ (ts : List TypeId) (xss : List (List IV)), xss.length = ts.length → (∀ (i : Nat) (t : TypeId) (xs : List IV), ts[i]? = some t → xss[i]? = some xs → Shp P t xs) → ShpL P ts xss
  | [], [], _, _ => trivial
  | [], _ :: _, h, _ => by simp at h
  | _ :: _, [], h, _ => by simp at h
  | t :: ts, x :: xss, h, hx => ⟨hx 0 t x rfl rfl, ShpL.of ts xss (by simpa using h) fun i u y h1 h2 => hx (i + 1) u y h1 h2⟩
theorem Shp.fields {t : TypeId} {fs : Array Field} {xs : List IV} (hs : Shp P t xs) (ht : P.underlying t = some (.struct fs)) (ts : List TypeId) (hts : fs.toList.map (·.type) = ts) : ∃ xss : List (List IV), xs = xss.flatten ∧ ShpL P ts xss := by
  obtain ⟨xss, rfl, h1, h2⟩ := hs.st_inv ht
  refine ⟨xss, rfl, ShpL.of ts xss (by rw [h1, ← hts]; simp) fun i t y h3 h4 => ?_⟩
  rw [← hts, List.getElem?_map] at h3
  cases hf : fs.toList[i]? with
  | none => rw [hf] at h3; simp at h3
  | some f =>
    rw [hf] at h3
    simp at h3
    subst h3
    exact h2 i f y (by simpa using hf) h4
end
end Go.Abs
/-
  Own work. The generated walks, part 8: strings and bytes; arrays; parts of owned slices; copy.
-/
namespace Go.Abs
open Go.RowKit
def strOf (l : List Int) : ByteArray := l.foldl (fun r n => r.push (UInt8.ofNat n.toNat)) ByteArray.empty
theorem foldl_push (l : List Int) : ∀ r : ByteArray, l.foldl (fun r n => r.push (UInt8.ofNat n.toNat)) r = ⟨r.data ++ (l.map fun n => UInt8.ofNat n.toNat).toArray⟩ := by
  induction l with
  | nil => intro r; simp
  | cons n l ih => intro r; simp only [List.foldl_cons, ih]; simp [ByteArray.push]
theorem strOf_data (l : List Int) : (strOf l).data.toList = l.map fun n => UInt8.ofNat n.toNat := by
  unfold strOf; rw [foldl_push]
  show (#[] ++ (l.map fun (n : Int) => UInt8.ofNat n.toNat).toArray).toList = _
  simp
section
variable {P : Program} {N : Nat} {ops : Array Oper} {env : Env} {h : Hp}
def SlV (h : Hp) (x : AV) : Prop := ∀ (X : Ctx) (ι : Nat → Bk) (w : World) (v : Value), Hol X h ι w → VR w h ι (Own X.B h ι) x v → ∃ ao n c, v = .slice ao n c
theorem SlV.im {cs : List IV} {n : Nat} : SlV h (.im (.sl cs n)) := fun X ι w v H hv => by
  simp only [VR, VRI] at hv
  obtain ⟨ao, cap, l, rfl, _⟩ := hv
  exact ⟨ao, n, cap, rfl⟩
theorem SlV.nil : SlV h (.im (.val (.slice none 0 0))) := fun X ι w v H hv => by
  rw [VR.val_iff] at hv
  exact ⟨none, 0, 0, hv⟩
theorem SlV.rsl {r ver off n : Nat} {rt : Rt} (hrt : h.at r = some rt) (hv : rt.ver = ver) : SlV h (.rsl r ver off n) := fun X ι w v H hv' => by
  obtain ⟨rt', _, _, _, ao, c, rfl, _⟩ := VR.rsl_now (k := rt.k) hv' (by simp [hrt, hv])
  exact ⟨ao, n, c, rfl⟩
theorem VRL_ints {w : World} {ι : Nat → Bk} {A : Nat → Prop} {k : IntKind} : ∀ (l : List Int) (vs : List Value), VRL w h ι A ((l.flatMap (eI k)).map .im) vs → vs = l.map (Value.int k)
  | [], vs, hv => by simpa [VRL] using hv
  | n :: l, vs, hv => by
    simp only [List.flatMap_cons, eI, List.cons_append, List.nil_append, List.map_cons, VRL] at hv
    obtain ⟨v, l', rfl, hv, hr⟩ := hv
    rw [VR.val_iff] at hv
    subst hv
    rw [VRL_ints l l' hr]
    rfl
theorem Quiet.toStr {o : Oper} {s d e : TypeId} {x : Operand} (l : List Int) (ho : o.op = .convert s d x) (hs : P.underlying s = some (.slice e)) (he : P.underlying e = some (.int .u8)) (hd : P.underlying d = some .string)
    (hg : gpo ops env o (gd (rdo env x) ∧ SlV h (st (rdo env x)) ∧ SrcA P h s 1 (st (rdo env x)) l.length ((l.flatMap (eI .u8)).map .im))) : Quiet P ops o env h (gav ops env o (.string (strOf l))) :=
  Quiet.guarded hg fun ⟨hgd, hsl, hsrc⟩ X a w ι Q H hop next hn => by
    have hv := (hop x (by simp [ho, Op.operands])).st hgd
    obtain ⟨ao, n, c, hev⟩ := hsl X ι w _ H hv
    obtain ⟨h1, l0, h2, h3, h4, h5⟩ := hsrc.2 X ι w _ H hv
    have hl0 := VRL_ints l l0 h2
    subst hl0
    have hrun : (convert s d (a.eval x)).run P w = .ok (.string (strOf l)) w := by
      have h6 := h5 w rfl
      have h7 := h1 w
      rw [hev] at h6 h7 ⊢
      rw [run_convert_bytes_string w s d e ao n c hs he hd]
      cases ao with
      | none =>
        simp [Builtin.firstCells] at h6
        have : l = [] := by simpa using h6
        subst this
        simp [Conv.bytesToString, strOf]
      | some ad =>
        have hn : n = l.length := by simpa [Builtin.lenOf] using h7
        simp only [Builtin.firstCells, Nat.mul_one] at h6
        rw [hn]
        exact run_bytesToString w ad l.length c l h6
    have hex : (execOp a.eval o).run P w = .ok (.value (.string (strOf l))) w := by
      simp only [execOp, ho, Sem.run_bind, hrun, Result.andThen_ok, Sem.run_pure]
    simp only [Oper.wp, hex, Oper.upon]
    exact hn _ _ (Below.refl _ _) (by simp [VR, VRI])
theorem OpsW.quietU {o : Oper} {rest : List Oper} {K : Env → Hp → Prop} (x : AV) (hgu : o.guard = none) (hd : o.dst.all (· < N) = true) (hq : Quiet P ops o env h (gav ops env o x)) (hr : OpsW P N ops rest (setd env o.dst x) h K) : OpsW P N ops (o :: rest) env h K := by
  have e : gav ops env o x = x := by unfold gav; rw [hgu]
  rw [e] at hq
  exact OpsW.quiet hd hq hr
theorem OpsW.quietG {o : Oper} {rest : List Oper} {K : Env → Hp → Prop} (x : AV) {j t : Nat} {b c : Bool} (hgu : o.guard = some (j, b)) (hj : (ops[j]?).bind (·.dst) = some t) (hc : gcond b (rd env t) = some c) (hd : o.dst.all (· < N) = true) (hq : Quiet P ops o env h (gav ops env o x)) (hr : OpsW P N ops rest (setd env o.dst (.cnd c x)) h K) : OpsW P N ops (o :: rest) env h K := by
  have e : gav ops env o x = .cnd c x := by unfold gav; simp only [hgu, hj, hc]
  rw [e] at hq
  exact OpsW.quiet hd hq hr
theorem QOps.quietU {o : Oper} {rest : List Oper} {K : Env → Prop} (x : AV) (hgu : o.guard = none) (hq : Quiet P ops o env h (gav ops env o x)) (hr : QOps P ops h rest (setd env o.dst x) K) : QOps P ops h (o :: rest) env K := by
  have e : gav ops env o x = x := by unfold gav; rw [hgu]
  rw [e] at hq
  exact ⟨_, hq, hr⟩
theorem QOps.quietG {o : Oper} {rest : List Oper} {K : Env → Prop} (x : AV) {j t : Nat} {b c : Bool} (hgu : o.guard = some (j, b)) (hj : (ops[j]?).bind (·.dst) = some t) (hc : gcond b (rd env t) = some c) (hq : Quiet P ops o env h (gav ops env o x)) (hr : QOps P ops h rest (setd env o.dst (.cnd c x)) K) : QOps P ops h (o :: rest) env K := by
  have e : gav ops env o x = .cnd c x := by unfold gav; simp only [hgu, hj, hc]
  rw [e] at hq
  exact ⟨_, hq, hr⟩
theorem gpoU {o : Oper} {φ : Prop} (hgu : o.guard = none) (h : φ) : gpo ops env o φ := by unfold gpo; rw [hgu]; exact h
theorem gpoG {o : Oper} {φ : Prop} {j t : Nat} {b c : Bool} (hgu : o.guard = some (j, b)) (hj : (ops[j]?).bind (·.dst) = some t) (hc : gcond b (rd env t) = some c) (h : c = true → φ) : gpo ops env o φ := by
  unfold gpo; simp only [hgu, hj, hc]; exact h
end
end Go.Abs
/-
  Own work. The generated walks, part 9: arrays that are written; a loop over the characters of a string.
-/
namespace Go.Abs
open Go.RowKit
section
variable {P : Program} {N : Nat} {ops : Array Oper} {env : Env} {h : Hp}
/- A block that holds no cells may be thought of as owned by somebody. -/
theorem Lie.grow {w : World} {A : Nat → Prop} {g : Nat} (hg : ∀ a : Addr, a.block = g → w.cell? a = none) {a : Addr} {l : List Value} (hl : Lie w A a l) : Lie w (fun β => A β ∨ β = g) a l := by
  intro i u hu
  obtain ⟨h1, h2, h3⟩ := hl i u hu
  refine ⟨h1, ?_, h3⟩
  rintro (h4 | h4)
  · exact h2 h4
  · have := hg (a.add i) (by rw [add_block]; exact h4)
    rw [this] at h1
    cases h1
mutual
theorem VRI.grow {w : World} {A : Nat → Prop} {g : Nat} (hg : ∀ a : Addr, a.block = g → w.cell? a = none) : ∀ (x : IV) (v : Value), VRI w A x v → VRI w (fun β => A β ∨ β = g) x v
  | .val _, _, h => by simpa only [VRI] using h
  | .sl cs n, v, h => by
    simp only [VRI] at h ⊢
    obtain ⟨ao, cap, l, hv, hn, hnone, hlie, hl⟩ := h
    exact ⟨ao, cap, l, hv, hn, hnone, fun a ha => (hlie a ha).grow hg, VRIL.grow hg cs l hl⟩
theorem VRIL.grow {w : World} {A : Nat → Prop} {g : Nat} (hg : ∀ a : Addr, a.block = g → w.cell? a = none) : ∀ (cs : List IV) (l : List Value), VRIL w A cs l → VRIL w (fun β => A β ∨ β = g) cs l
  | [], _, h => by simpa only [VRIL] using h
  | c :: cs, l, h => by
    simp only [VRIL] at h ⊢
    obtain ⟨v, l', hl, hv, hr⟩ := h
    exact ⟨v, l', hl, VRI.grow hg c v hv, VRIL.grow hg cs l' hr⟩
end
mutual
theorem VR.grow {w : World} {h : Hp} {ι : Nat → Bk} {A : Nat → Prop} {g : Nat} (hg : ∀ a : Addr, a.block = g → w.cell? a = none) : ∀ (x : AV) (v : Value), VR w h ι A x v → VR w h ι (fun β => A β ∨ β = g) x v
  | .any, _, _ => by simp only [VR]
  | .im x, v, hv => by simp only [VR] at hv ⊢; exact VRI.grow hg x v hv
  | .agg cs, v, hv => by
    simp only [VR] at hv ⊢
    obtain ⟨l, hl, hr⟩ := hv
    exact ⟨l, hl, VRL.grow hg cs l hr⟩
  | .tup cs, v, hv => by
    simp only [VR] at hv ⊢
    obtain ⟨l, hl, hr⟩ := hv
    exact ⟨l, hl, VRL.grow hg cs l hr⟩
  | .ipt cs off, v, hv => by
    simp only [VR] at hv ⊢
    obtain ⟨a, l, hl, hlie, hr⟩ := hv
    exact ⟨a, l, hl, hlie.grow hg, VRIL.grow hg cs l hr⟩
  | .ref r ver off, v, hv => by simpa only [VR] using hv
  | .rsl r ver off n, v, hv => by simpa only [VR] using hv
  | .cnd g' x, v, hv => by simp only [VR] at hv ⊢; exact ⟨fun hc => VR.grow hg x v (hv.1 hc), hv.2⟩
theorem VRL.grow {w : World} {h : Hp} {ι : Nat → Bk} {A : Nat → Prop} {g : Nat} (hg : ∀ a : Addr, a.block = g → w.cell? a = none) : ∀ (cs : List AV) (l : List Value), VRL w h ι A cs l → VRL w h ι (fun β => A β ∨ β = g) cs l
  | [], _, hv => by simpa only [VRL] using hv
  | c :: cs, l, hv => by
    simp only [VRL] at hv ⊢
    obtain ⟨v, l', hl, hv, hr⟩ := hv
    exact ⟨v, l', hl, VR.grow hg c v hv, VRL.grow hg cs l' hr⟩
end
theorem own_or (B : Nat → Prop) (h : Hp) (ι : Nat → Bk) (g : Nat) : Own (fun β => B β ∨ β = g) h ι = fun β => Own B h ι β ∨ β = g := by
  funext β
  unfold Own
  apply propext
  constructor
  · rintro ((h1 | h1) | h1)
    · exact .inl (.inl h1)
    · exact .inr h1
    · exact .inl (.inr h1)
  · rintro ((h1 | h1) | h1)
    · exact .inl (.inl h1)
    · exact .inr h1
    · exact .inl (.inr h1)
theorem Slots.grow {X : Ctx} {ι : Nat → Bk} {a : Act} {w : World} {g : Nat} (hg : ∀ a : Addr, a.block = g → w.cell? a = none) (S : Slots N env h ι (Own X.B h ι) a w) : Slots N env h ι (Own (fun β => X.B β ∨ β = g) h ι) a w :=
  ⟨S.size, S.defers, fun i => by rw [own_or]; exact VR.grow hg _ _ (S.at_ i)⟩
theorem keep_iter {X : Ctx} {ι : Nat → Bk} {w w' : World} {g : Nat} (hoth : ∀ β, β ≠ g → w'.heap[β]? = w.heap[β]?) : Keep w h ι (fun β => Own X.B h ι β ∨ β = g) w' h ι (Own X.B h ι) :=
  ⟨fun β _ hA => ⟨hoth β (fun e => hA (.inr e)), fun ho => hA (.inl ho)⟩, fun _ rt hr => ⟨rt, hr, Nat.le_refl _, fun _ => ⟨rfl, rfl⟩⟩⟩
theorem Hol.iter {X : Ctx} {ι : Nat → Bk} {w w' : World} {g : Nat} (H : Hol X h ι w) (hno : ¬ Own X.B h ι g) (hg : ∀ a : Addr, a.block = g → w.cell? a = none) (h0 : X.w0.heap.size ≤ g)
    (hos : w'.os = w.os) (ht : w'.tape = w.tape) (hou : w'.output = w.output) (hsz : w'.heap.size = w.heap.size) (hoth : ∀ β, β ≠ g → w'.heap[β]? = w.heap[β]?) : Hol X h ι w' where
  roots r rt hr hl := by
    rcases H.roots r rt hr hl with hn | ⟨g', arr, c1, c2, c3, c4, c5, c6⟩
    · exact .inl hn
    · have hne : g' ≠ g := fun e => hno (.inr ⟨r, rt, hr, hl, by rw [← e]; exact c1⟩)
      exact .inr ⟨g', arr, c1, by rw [hoth g' hne]; exact c2, c3, c4, VRL.keep (keep_iter hoth) _ _ (VRL.grow hg _ _ c5), c6⟩
  inj := H.inj
  place := H.place
  os := hos.trans H.os
  tape := ht.trans H.tape
  output := hou.trans H.output
  size := by rw [hsz]; exact H.size
  frame β hβ hS := by rw [hoth β (by omega)]; exact H.frame β hβ hS
  old := H.old
  glob := H.glob
  pin := H.pin
theorem Slots.iter {X : Ctx} {ι : Nat → Bk} {a : Act} {w w' : World} {g : Nat} (hg : ∀ a : Addr, a.block = g → w.cell? a = none) (hoth : ∀ β, β ≠ g → w'.heap[β]? = w.heap[β]?) (S : Slots N env h ι (Own X.B h ι) a w) : Slots N env h ι (Own X.B h ι) a w' :=
  ⟨S.size, S.defers, fun i => VR.keep (keep_iter hoth) _ _ (VR.grow hg _ _ (S.at_ i))⟩
end
end Go.Abs
