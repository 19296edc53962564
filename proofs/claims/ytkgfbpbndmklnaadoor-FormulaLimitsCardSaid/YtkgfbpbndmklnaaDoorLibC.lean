/- Own work. -/
import Derived.Test.YtkgfbpbndmklnaaDoorLibB
import Derived.Laws.BytesString
import Derived.Laws.IdiomStrings
import Derived.Laws.CopyRow
set_option linter.unusedSimpArgs false
set_option linter.unusedVariables false
namespace Go.Abs
open Go.RowKit
def inR (n : Int) : Prop := -9223372036854775808 ≤ n ∧ n ≤ 9223372036854775807
instance (n : Int) : Decidable (inR n) := inferInstanceAs (Decidable (_ ∧ _))
def G (p : Prop) [Decidable p] {α : Type} (x : Option α) : Option α := if p then x else none
theorem Yt {p : Prop} [Decidable p] {α : Type} {x : Option α} {r : α} (h : G p x = some r) : p ∧ x = some r := by
 unfold G at h
 split at h
 ·exact ⟨by assumption, h⟩
 ·cases h
theorem Y2q {p : Prop} [Decidable p] {α : Type} (hp : p) (x : Option α) : G p x = x := if_pos hp
def iter {S R : Type} (b : (S → Option R) → S → Option R) : Nat → S → Option R
 | 0, _ => none
 | n + 1, s => b (iter b n) s
theorem Y0r {S R : Type} (b : (S → Option R) → S → Option R) (n : Nat) (s : S) : iter b (n + 1) s = b (iter b n) s := rfl
def AllP : List Prop → Prop
 | [] => True
 | p :: ps => p ∧ AllP ps
theorem AllP.append {ps qs : List Prop} (h : AllP (ps ++ qs)) : AllP ps ∧ AllP qs := by
 induction ps with
 | nil => exact ⟨trivial, h⟩
 | cons p ps ih =>
  simp only [X03, AllP] at h ⊢
  exact ⟨⟨h.1, (ih h.2).1⟩, (ih h.2).2⟩
theorem AllP.map_imp {c : Prop} {ps : List Prop} (h : AllP (ps.map fun p => c → p)) (hc : c) : AllP ps := by
 induction ps with
 | nil => trivial
 | cons p ps ih =>
  simp only [Xp, AllP] at h ⊢
  exact ⟨h.1 hc, ih h.2⟩
def gl : AV → List Prop
 | .cnd g _ => [g = true]
 | _ => []
theorem Y45 {x : AV} (h : AllP (gl x)) : gd x := by
 cases x <;> simp_all [gl, gd, AllP]
def glo (ρ : Operand → AV) : Option Operand → List Prop
 | some x => gl (ρ x)
 | none => []
theorem glo_gdo {ρ : Operand → AV} {o : Option Operand} (h : AllP (glo ρ o)) : gdo ρ o := by
 cases o with
 | none => trivial
 | some x => exact Y45 h
def okL (k : IntKind) (n : Int) : List Prop := match k with
 | .i64 => [inR n]
 | _ => []
theorem okL_okA {k : IntKind} {n : Int} (h : AllP (okL k n)) : okA k n := by
 cases k <;> simp_all [okL, okA, AllP, inR]
def obBin (P : Program) (t : TypeId) (op : BinOp) (x y : AV) : Option (List Prop) := match x, y with
 | .im (.val (.int k a)), .im (.val (.int k' b)) => match op with
  | .shl => some [0 ≤ b]
  | .shr => some [0 ≤ b]
  | .add => if k = k' then some (okL k (a + b)) else none
  | .sub => if k = k' then some (okL k (a - b)) else none
  | .mul => if k = k' then some (okL k (a * b)) else none
  | .quo => if k = k' then some ((b ≠ 0) :: okL k (a.tdiv b)) else none
  | .rem => if k = k' then some [b ≠ 0] else none
  | _ => if k = k' then some [] else none
 | .im (.val (.bool _)), .im (.val (.bool _)) => match op with
  | .eql => if tk P t = 5 then some [] else none
  | .neq => if tk P t = 5 then some [] else none
  | _ => none
 | .im (.val (.string a)), .im (.val (.string b)) => match op with
  | .add => some [a.size + b.size ≤ 9223372036854775807]
  | .eql => some [] | .neq => some [] | .lss => some [] | .leq => some [] | .gtr => some [] | .geq => some []
  | _ => none
 | _, _ => none
theorem obBin_sound {P : Program} {t : TypeId} {op : BinOp} {x y : AV} {ps : List Prop} (h : obBin P t op x y = some ps) (hp : AllP ps) : poBin P t op x y := by
  unfold obBin at h
  split at h
  · rename_i k a k' b
    unfold poBin
    cases op <;> simp only at h ⊢ <;> first
      | (simp only [X0] at h; subst h; exact hp.1)
      | (split at h
         · rename_i hk
           simp only [X0] at h
           subst h
           first
             | exact hk
             | exact ⟨hk, okL_okA hp⟩
             | exact ⟨hk, hp.1, okL_okA hp.2⟩
             | exact ⟨hk, hp.1⟩
         · cases h)
  · unfold poBin
    cases op <;> simp only at h ⊢ <;> first
      | (split at h
         · assumption
         · cases h)
      | cases h
  · unfold poBin
    cases op <;> simp only at h ⊢ <;> first
      | trivial
      | (simp only [X0] at h; subst h; exact hp.1)
      | cases h
  · cases h
def oneAb (h : Hp) : AV → Bool
 | .im (.val u) => u.oneCell'
 | .im (.sl _ _) => true
 | .im (.mp _) => true
 | .fnv _ _ => true
 | .ref r ver _ => (h.at r).map (·.ver) == some ver
 | .rsl r ver _ _ => (h.at r).map (·.ver) == some ver
 | _ => false
theorem oneAb_sound {h : Hp} {x : AV} (hx : oneAb h x = true) : oneA h x := by
 unfold oneAb at hx
 unfold oneA
 split at hx <;> simp_all
def okCb (h : Hp) : AV → Bool
 | .agg cs => cs.all (oneAb h)
 | v => oneAb h v
theorem Y23 {h : Hp} {x : AV} (hx : okCb h x = true) : okC h x := by
 unfold okCb at hx
 unfold okC
 split at hx
 ·intro y hy
  exact oneAb_sound (Xa.1 hx y hy)
 ·split
  ·simp_all
  ·exact oneAb_sound hx
def obLo (hi : Nat) : Option AV → Option (List Prop)
 | none => some []
 | some (.im (.val (.int _ l))) => some [0 ≤ l ∧ l ≤ hi]
 | _ => none
theorem obLo_sound {hi : Nat} {x : Option AV} {ps : List Prop} (h : obLo hi x = some ps) (hp : AllP ps) : okLo hi x := by
 unfold obLo at h
 unfold okLo
 split at h
 ·trivial
 ·simp only [X0] at h; subst h; exact hp.1
 ·cases h
def cat2 (x y : Option (List Prop)) : Option (List Prop) := match x, y with
 | some a, some b => some (a ++ b)
 | _, _ => none
theorem cat2_some {x y : Option (List Prop)} {ps : List Prop} (h : cat2 x y = some ps) (hp : AllP ps) : ∃ a b, x = some a ∧ y = some b ∧ AllP a ∧ AllP b := by
 unfold cat2 at h
 split at h
 ·rename_i a b
  simp only [X0] at h
  subst h
  exact ⟨a, b, rfl, rfl, hp.append.1, hp.append.2⟩
 ·cases h
def chk (p : Prop) [Decidable p] (x : Option (List Prop)) : Option (List Prop) := if p then x else none
theorem Y3k {p : Prop} [Decidable p] {x : Option (List Prop)} {ps : List Prop} (h : chk p x = some ps) : p ∧ x = some ps := by
 unfold chk at h
 split at h
 ·exact ⟨by assumption, h⟩
 ·cases h
def obPart (cs : List AV) (off : Nat) (s : Option (Option Nat)) : Option (List Prop) := match s with
 | some none => chk (off < cs.length) (some [])
 | some (some n) => chk (off + n ≤ cs.length) (some [])
 | none => none
theorem obPart_sound {cs : List AV} {off : Nat} {s : Option (Option Nat)} {ps : List Prop} (h : obPart cs off s = some ps) : poPart cs off s := by
 unfold obPart at h
 unfold poPart
 split at h
 ·exact (Y3k h).1
 ·exact (Y3k h).1
 ·cases h
def glAll (ρ : Operand → AV) : List Operand → List Prop
 | [] => []
 | x :: xs => gl (ρ x) ++ glAll ρ xs
theorem Yi {ρ : Operand → AV} : ∀ {xs : List Operand}, AllP (glAll ρ xs) → ∀ x ∈ xs, gd (ρ x)
 | [], _, x, hx => by simp at hx
 | y :: ys, h, x, hx => by
  have := h.append
  rcases X00.1 hx with rfl | hx
  ·exact Y45 this.1
  ·exact Yi this.2 x hx
def ob (P : Program) (h : Hp) (ρ : Operand → AV) : Op → Option (List Prop)
 | .move x => some (gl (ρ x))
 | .assign x => some (gl (ρ x))
 | .pick c a b => match st (ρ c) with
  | .im (.val (.bool g)) => some (gl (ρ c) ++ ((gl (ρ a)).map fun p => g = true → p) ++ ((gl (ρ b)).map fun p => g = false → p))
  | _ => none
 | .binOp op t x y _ => cat2 (some (gl (ρ x) ++ gl (ρ y))) (obBin P t op (st (ρ x)) (st (ρ y)))
 | .unOp op _ x => match op, st (ρ x) with
  | .not, .im (.val (.bool _)) => some (gl (ρ x))
  | .neg, .im (.val (.int k n)) => some (gl (ρ x) ++ okL k (0 - n))
  | _, _ => none
 | .convert s d x => match st (ρ x), ik P d with
  | .im (.val (.int _ _)), some _ => chk (tk P s ≠ 0) (some (gl (ρ x)))
  | .im (.val (.string _)), none => chk (tk P s = 2 ∧ tk P d = 2) (some (gl (ρ x)))
  | _, _ => none
 | .fieldAddr s x f => match fo P s f, st (ρ x) with
  | some _, .ipt _ _ => some (gl (ρ x))
  | some _, .ref r ver _ => chk ((h.at r).map (·.ver) = some ver) (some (gl (ρ x)))
  | _, _ => none
 | .field t x f => match st (ρ x), fl P t f with
  | .agg cs, some (off, ty) => cat2 (some (gl (ρ x))) (obPart cs off (lz P ty))
  | _, _ => none
 | .indexAddr t x i => match ez P t, st (ρ x), st (ρ i) with
  | some _, .im (.sl _ n), .im (.val (.int _ j)) => chk (tk P t = 1) (some (gl (ρ x) ++ gl (ρ i) ++ [0 ≤ j ∧ j < (n : Int)]))
  | some k, .rsl r ver _ n, .im (.val (.int _ j)) => chk (tk P t = 1 ∧ (h.at r).map (fun rt => (rt.ver, rt.k)) = some (ver, k)) (some (gl (ρ x) ++ gl (ρ i) ++ [0 ≤ j ∧ j < (n : Int)]))
  | some _, .ref r ver _, .im (.val (.int _ j)) => (match alen P t with | some n => chk ((h.at r).map (·.ver) = some ver) (some (gl (ρ x) ++ gl (ρ i) ++ [0 ≤ j ∧ j < (n : Int)])) | none => none)
  | some _, .ipt _ _, .im (.val (.int _ j)) => (match alen P t with | some n => some (gl (ρ x) ++ gl (ρ i) ++ [0 ≤ j ∧ j < (n : Int)]) | none => none)
  | _, _, _ => none
 | .index t x i => match st (ρ x), st (ρ i) with
  | .im (.val (.string s)), .im (.val (.int _ j)) => chk (tk P t = 2) (some (gl (ρ x) ++ gl (ρ i) ++ [0 ≤ j ∧ j < (s.size : Int)]))
  | .agg cs, .im (.val (.int _ j)) => (match ez P t, aty P t, alen P t with
   | some k, some e, some n => cat2 (some (gl (ρ x) ++ gl (ρ i) ++ [0 ≤ j ∧ j < (n : Int)])) (obPart cs (j.toNat * k) (lz P e))
   | _, _, _ => none)
  | _, _ => none
 | .load t x => match lz P t, st (ρ x) with
  | some none, .ref r ver off => (match h.at r with | some rt => chk (rt.ver = ver ∧ rt.live = true ∧ off < rt.cs.length) (some (gl (ρ x))) | none => none)
  | some (some n), .ref r ver off => (match h.at r with | some rt => chk (rt.ver = ver ∧ rt.live = true ∧ off + n ≤ rt.cs.length) (some (gl (ρ x))) | none => none)
  | _, _ => none
 | .extract x i => match st (ρ x) with
  | .tup vs => chk (i < vs.length) (some (gl (ρ x)))
  | _ => none
 | .slice t x lo hi none => match st (ρ x) with
  | .im (.val (.string s)) => chk (tk P t = 2) (cat2 (some (gl (ρ x) ++ glo ρ lo ++ glo ρ hi)) (cat2 (obLo s.size (hi.map fun y => st (ρ y))) (obLo (Y29 s.size (hi.map fun y => st (ρ y))) (lo.map fun y => st (ρ y)))))
  | .rsl r ver _ n => (match ez P t with | some k => chk (tk P t = 1 ∧ (h.at r).map (fun rt => (rt.ver, rt.k)) = some (ver, k)) (cat2 (some (gl (ρ x) ++ glo ρ lo ++ glo ρ hi)) (cat2 (obLo n (hi.map fun y => st (ρ y))) (obLo (Y29 n (hi.map fun y => st (ρ y))) (lo.map fun y => st (ρ y))))) | none => none)
  | _ => none
 | .build t ps => chk ((ps.toList.all fun p => okCb h (st (ρ p.2))) = true ∧ (match zc P t, fps P t, alen P t, ez P t with
   | some z, some fs, _, _ => (Y46 h (fs[·]?) (z.map fun v => .im (.val v)) (ps.toList.map fun p => (p.1, st (ρ p.2)))).isSome
   | some z, none, some _, some k => (Y46 h (fun i => some (i * k, k)) (z.map fun v => .im (.val v)) (ps.toList.map fun p => (p.1, st (ρ p.2)))).isSome
   | _, _, _, _ => false) = true) (some (glAll ρ (ps.toList.map (·.2))))
 | .call ⟨.builtin .len, ⟨[x]⟩, ⟨[t]⟩⟩ => match st (ρ x) with
  | .im (.sl _ _) => chk (tk P t = 1) (some (gl (ρ x)))
  | .im (.val (.slice _ _ _)) => chk (tk P t = 1) (some (gl (ρ x)))
  | .rsl r ver _ _ => chk (tk P t = 1 ∧ (h.at r).map (·.ver) = some ver) (some (gl (ρ x)))
  | .im (.val (.string _)) => chk (tk P t = 2) (some (gl (ρ x)))
  | _ => none
 | .call ⟨.builtin .min, ⟨[x, y]⟩, _⟩ => match st (ρ x), st (ρ y) with
  | .im (.val (.int _ _)), .im (.val (.int _ _)) => some (gl (ρ x) ++ gl (ρ y))
  | _, _ => none
 | .call ⟨.builtin .max, ⟨[x, y]⟩, _⟩ => match st (ρ x), st (ρ y) with
  | .im (.val (.int _ _)), .im (.val (.int _ _)) => some (gl (ρ x) ++ gl (ρ y))
  | _, _ => none
 | _ => none
theorem ob_sound {P : Program} {h : Hp} {ρ : Operand → AV} {op : Op} {qs : List Prop} (ho : ob P h ρ op = some qs) (hq : AllP qs) : po P h ρ op := by
  unfold ob at ho
  split at ho
  case h_1 x => simp only [X0] at ho; subst ho; exact Y45 hq
  case h_2 x => simp only [X0] at ho; subst ho; exact Y45 hq
  case h_3 c a b =>
    split at ho
    · rename_i g hg
      simp only [X0] at ho; subst ho
      have h1 := hq.append
      have h2 := h1.1.append
      refine ⟨Y45 h2.1, ?_⟩
      unfold poPick
      rw [hg]
      exact ⟨fun e => Y45 (h2.2.map_imp e), fun e => Y45 (h1.2.map_imp e)⟩
    · cases ho
  case h_4 op t x y _ =>
    obtain ⟨a, b, h1, h2, h3, h4⟩ := cat2_some ho hq
    simp only [X0] at h1
    subst h1
    have h5 := h3.append
    exact ⟨Y45 h5.1, Y45 h5.2, obBin_sound h2 h4⟩
  case h_5 op _ x =>
    split at ho
    · rename_i b hb
      simp only [X0] at ho; subst ho
      refine ⟨Y45 hq, ?_⟩
      rw [hb]
      trivial
    · rename_i k n hn
      simp only [X0] at ho; subst ho
      have h5 := hq.append
      refine ⟨Y45 h5.1, ?_⟩
      rw [hn]
      exact okL_okA h5.2
    · cases ho
  case h_6 s d x =>
    split at ho
    · rename_i k n k' hn hk
      obtain ⟨h1, h2⟩ := Y3k ho
      simp only [X0] at h2; subst h2
      refine ⟨Y45 hq, ?_⟩
      unfold poConv
      rw [hn, hk]
      exact h1
    · rename_i s' hn hk
      obtain ⟨h1, h2⟩ := Y3k ho
      simp only [X0] at h2; subst h2
      refine ⟨Y45 hq, ?_⟩
      unfold poConv
      rw [hn, hk]
      exact h1
    · cases ho
  case h_7 s x f =>
    split at ho
    · rename_i d cs off hd hx
      simp only [X0] at ho; subst ho
      refine ⟨Y45 hq, ?_⟩
      unfold poField
      rw [hd, hx]
      trivial
    · rename_i d r ver off hd hx
      obtain ⟨h1, h2⟩ := Y3k ho
      simp only [X0] at h2; subst h2
      refine ⟨Y45 hq, ?_⟩
      unfold poField
      rw [hd, hx]
      exact h1
    · cases ho
  case h_8 t x f =>
    split at ho
    · rename_i cs off ty hx hf
      obtain ⟨a, b, h1, h2, h3, h4⟩ := cat2_some ho hq
      simp only [X0] at h1
      subst h1
      refine ⟨Y45 h3, ?_⟩
      unfold poFld
      rw [hx, hf]
      exact obPart_sound h2
    · cases ho
  case h_9 t x i =>
    split at ho
    · rename_i k cs n k' j he hx hi
      obtain ⟨h1, h2⟩ := Y3k ho
      simp only [X0] at h2; subst h2
      have h5 := hq.append
      have h6 := h5.1.append
      refine ⟨Y45 h6.1, Y45 h6.2, ?_⟩
      unfold poIdx
      rw [he, hx, hi]
      exact ⟨h1, h5.2.1⟩
    · rename_i k r ver off n k' j he hx hi
      obtain ⟨h1, h2⟩ := Y3k ho
      simp only [X0] at h2; subst h2
      have h5 := hq.append
      have h6 := h5.1.append
      refine ⟨Y45 h6.1, Y45 h6.2, ?_⟩
      unfold poIdx
      rw [he, hx, hi]
      exact ⟨h1.1, h1.2, h5.2.1⟩
    · rename_i k r ver off k' j he hx hi
      split at ho
      · rename_i n hn
        obtain ⟨h1, h2⟩ := Y3k ho
        simp only [X0] at h2; subst h2
        have h5 := hq.append
        have h6 := h5.1.append
        refine ⟨Y45 h6.1, Y45 h6.2, ?_⟩
        unfold poIdx
        rw [he, hx, hi, hn]
        exact ⟨h1, h5.2.1⟩
      · cases ho
    · rename_i k cs off k' j he hx hi
      split at ho
      · rename_i n hn
        simp only [X0] at ho; subst ho
        have h5 := hq.append
        have h6 := h5.1.append
        refine ⟨Y45 h6.1, Y45 h6.2, ?_⟩
        unfold poIdx
        rw [he, hx, hi]
        simp only [hn]
        exact h5.2.1
      · cases ho
    · cases ho
  case h_10 t x i =>
    split at ho
    · rename_i s k j hx hi
      obtain ⟨h1, h2⟩ := Y3k ho
      simp only [X0] at h2; subst h2
      have h5 := hq.append
      have h6 := h5.1.append
      refine ⟨Y45 h6.1, Y45 h6.2, ?_⟩
      unfold poIndex
      rw [hx, hi]
      exact ⟨h1, h5.2.1⟩
    · rename_i cs k j hx hi
      split at ho
      · rename_i k e n hk he hn
        obtain ⟨a, b, h1, h2, h3, h4⟩ := cat2_some ho hq
        simp only [X0] at h1
        subst h1
        have h5 := h3.append
        have h6 := h5.1.append
        refine ⟨Y45 h6.1, Y45 h6.2, ?_⟩
        unfold poIndex
        rw [hx, hi, hk, he, hn]
        exact ⟨h5.2.1.1, h5.2.1.2, obPart_sound h2⟩
      · cases ho
    · cases ho
  case h_11 t x =>
    split at ho
    · rename_i r ver off hl hx
      split at ho
      · rename_i rt hrt
        obtain ⟨h1, h2⟩ := Y3k ho
        simp only [X0] at h2; subst h2
        refine ⟨Y45 hq, ?_⟩
        unfold poLoad
        rw [hl, hx]
        simp only [hrt]
        exact h1
      · cases ho
    · rename_i n r ver off hl hx
      split at ho
      · rename_i rt hrt
        obtain ⟨h1, h2⟩ := Y3k ho
        simp only [X0] at h2; subst h2
        refine ⟨Y45 hq, ?_⟩
        unfold poLoad
        rw [hl, hx]
        simp only [hrt]
        exact h1
      · cases ho
    · cases ho
  case h_12 x i =>
    split at ho
    · rename_i vs hx
      obtain ⟨h1, h2⟩ := Y3k ho
      simp only [X0] at h2; subst h2
      refine ⟨Y45 hq, ?_⟩
      rw [hx]
      exact h1
    · cases ho
  case h_13 t x lo hi =>
    split at ho
    · rename_i s hx
      obtain ⟨h1, h2⟩ := Y3k ho
      obtain ⟨a, b, h3, h4, h5, h6⟩ := cat2_some h2 hq
      obtain ⟨c, d, h7, h8, h9, h10⟩ := cat2_some h4 h6
      simp only [X0] at h3
      subst h3
      have h11 := h5.append
      have h12 := h11.1.append
      refine ⟨Y45 h12.1, glo_gdo h12.2, glo_gdo h11.2, ?_⟩
      unfold poSlice
      rw [hx]
      have he : ez P t = none := by
        have := tk_str h1
        unfold ez
        rw [this]
      rw [he]
      exact ⟨h1, obLo_sound h7 h9, obLo_sound h8 h10⟩
    · rename_i r ver off n hx
      split at ho
      · rename_i k hk
        obtain ⟨h1, h2⟩ := Y3k ho
        obtain ⟨a, b, h3, h4, h5, h6⟩ := cat2_some h2 hq
        obtain ⟨c, d, h7, h8, h9, h10⟩ := cat2_some h4 h6
        simp only [X0] at h3
        subst h3
        have h11 := h5.append
        have h12 := h11.1.append
        refine ⟨Y45 h12.1, glo_gdo h12.2, glo_gdo h11.2, ?_⟩
        unfold poSlice
        rw [hx, hk]
        exact ⟨h1.1, h1.2, obLo_sound h7 h9, obLo_sound h8 h10⟩
      · cases ho
    · cases ho
  case h_14 t ps =>
    obtain ⟨⟨h1, h2⟩, h3⟩ := Y3k ho
    simp only [X0] at h3; subst h3
    have hg := Yi hq
    refine ⟨fun p hp => hg p.2 (X01.2 ⟨p, hp, rfl⟩), ?_⟩
    unfold poBuild
    refine ⟨fun p hp => ?_, ?_⟩
    · obtain ⟨q, hq', rfl⟩ := X01.1 hp
      exact Y23 (Xa.1 h1 q hq')
    · split at h2
      · rename_i e1 e2
        rw [e1, e2]
        exact h2
      · rename_i e1 e2 e3 e4
        rw [e1, e2, e3, e4]
        exact h2
      · cases h2
  case h_15 x t =>
    split at ho
    all_goals first
      | (rename_i hx
         obtain ⟨h1, h2⟩ := Y3k ho
         simp only [X0] at h2
         subst h2
         refine ⟨Y45 hq, ?_⟩
         unfold poLen
         rw [hx]
         exact h1)
      | cases ho
  case h_16 x y _ =>
    split at ho
    · rename_i hx hy
      simp only [X0] at ho; subst ho
      have h5 := hq.append
      refine ⟨Y45 h5.1, Y45 h5.2, ?_⟩
      unfold poMin
      rw [hx, hy]
      trivial
    · cases ho
  case h_17 x y _ =>
    split at ho
    · rename_i hx hy
      simp only [X0] at ho; subst ho
      have h5 := hq.append
      refine ⟨Y45 h5.1, Y45 h5.2, ?_⟩
      unfold poMin
      rw [hx, hy]
      trivial
    · cases ho
  case h_18 => cases ho
section
variable {P : Program} {N : Nat} {ops : Array Oper} {env : Env} {h : Hp}
def gob (ops : Array Oper) (env : Env) (o : Oper) (x : Option (List Prop)) : Option (List Prop) := match o.guard with
 | none => x
 | some (j, b) => match (ops[j]?).bind (·.dst) with
  | some t => (match gcond b (rd env t) with | some c => x.map fun l => l.map fun p => c = true → p | none => none)
  | none => none
theorem gob_sound {o : Oper} {x : Option (List Prop)} {φ : Prop} {qs : List Prop} (hx : ∀ ps, x = some ps → AllP ps → φ) (h1 : gob ops env o x = some qs) (h2 : AllP qs) : gpo ops env o φ := by
 unfold gob at h1
 unfold gpo
 split at h1
 ·rename_i hg
  rw [hg]
  exact hx _ h1 h2
 ·rename_i j b hg
  split at h1
  ·rename_i t ht
   split at h1
   ·rename_i c hc
    rw [hg]
    simp only [ht, hc]
    intro hcc
    cases x with
    | none => simp at h1
    | some ps =>
     simp only [Xx, X0] at h1
     subst h1
     exact hx ps rfl (h2.map_imp hcc)
   ·cases h1
  ·cases h1
def frc {β : Type} (x : AV) (k : AV → β) : β := match x with
 | .im (.val (.int kk n)) => k (.im (.val (.int kk n)))
 | .im (.val (.bool b)) => k (.im (.val (.bool b)))
 | .im (.val v) => k (.im (.val v))
 | .im (.sl cs n) => k (.im (.sl cs n))
 | .im (.mp es) => k (.im (.mp es))
 | .fnv f cs => k (.fnv f cs)
 | .agg cs => k (.agg cs)
 | .tup cs => k (.tup cs)
 | .ipt cs off => k (.ipt cs off)
 | .ref r v o => k (.ref r v o)
 | .rsl r v o n => k (.rsl r v o n)
 | .cnd g (.im (.val (.int kk n))) => k (.cnd g (.im (.val (.int kk n))))
 | .cnd g (.im (.val (.bool b))) => k (.cnd g (.im (.val (.bool b))))
 | .cnd g x => k (.cnd g x)
 | .any => k .any
theorem frc_eq {β : Type} (x : AV) (k : AV → β) : frc x k = k x := by unfold frc; split <;> rfl
def evalS (P : Program) (N : Nat) (ops : Array Oper) (h : Hp) : List Oper → Env → Option (List Prop × Env)
 | [], env => some ([], env)
 | o :: l, env => if o.dst.all (· < N) = true then (match gob ops env o (ob P h (rdo env) o.op) with
  | some ps => frc (gav ops env o (pv P h (rdo env) o.op)) fun v => (match evalS P N ops h l (setd env o.dst v) with
   | some (qs, e) => some (ps ++ qs, e)
   | none => none)
  | none => none) else none
theorem evalS_pw : ∀ (l : List Oper) (env : Env) (qs : List Prop) (e : Env) (K : Env → Prop), evalS P N ops h l env = some (qs, e) → AllP qs → K e → pw P N ops h l env K
 | [], env, qs, e, K, he, _, hK => by
  simp only [evalS, X0, Prod.mk.injEq] at he
  obtain ⟨_, rfl⟩ := he
  exact hK
 | o :: l, env, qs, e, K, he, hq, hK => by
  simp only [evalS, frc_eq] at he
  split at he
  ·rename_i hd
   split at he
   ·rename_i ps hps
    split at he
    ·rename_i qs' e' hr
     simp only [X0, Prod.mk.injEq] at he
     obtain ⟨rfl, rfl⟩ := he
     exact ⟨hd, gob_sound (fun ps hp ha => ob_sound hp ha) hps hq.append.1, evalS_pw l _ _ _ K hr hq.append.2 hK⟩
    ·cases he
   ·cases he
  ·cases he
def kept (l : List Nat) : Option (List Prop × Env) → Option (List Prop × Env)
 | some (qs, e) => some (qs, e.keep l)
 | none => none
theorem OpsW.weaken {l : List Oper} {K : Env → Hp → Prop} (env' : Env) (hle : Env.le env env') (hw : OpsW P N ops l env' h K) : OpsW P N ops l env h K :=
 fun X a w ι Q H S hQ => hw X a w ι Q H (S.le hle) hQ
theorem Env.le_keep (env : Env) (l : List Nat) : Env.le env (env.keep l) := fun i => by rw [rd_keep]; split <;> simp
theorem OpsW.seg (n : Nat) (l : List Nat) (qs : List Prop) (env' : Env) {os : List Oper} {K : Env → Hp → Prop} (he : kept l (evalS P N ops h (os.take n) env) = some (qs, env')) (hq : AllP qs)
  (hw : OpsW P N ops (os.drop n) env' h K) : OpsW P N ops os env h K := by
 unfold kept at he
 split at he
 ·rename_i qs' e hev
  simp only [X0, Prod.mk.injEq] at he
  obtain ⟨rfl, rfl⟩ := he
  exact OpsW.pures n os env (evalS_pw _ _ _ _ _ hev hq (OpsW.weaken _ (Env.le_keep e l) hw))
 ·cases he
theorem QOps.seg (n : Nat) (qs : List Prop) (env' : Env) {os : List Oper} {K : Env → Prop} (he : evalS P N ops h (os.take n) env = some (qs, env')) (hq : AllP qs)
  (hw : QOps P ops h (os.drop n) env' K) : QOps P ops h os env K :=
 QOps.pures (N := N) n os env (evalS_pw _ _ _ _ _ he hq hw)
end
def Y2y (ι : Nat → Bk) (φ : Nat → Option Nat) (r' : Nat) : Bk := match φ r' with
 | some r => ι r
 | none => ⟨none, 0⟩
mutual
inductive Cst (h h' : Hp) (φ : Nat → Option Nat) : AV → AV → Prop
 | any {x : AV} : Cst h h' φ x .any
 | im {x : IV} : Cst h h' φ (.im x) (.im x)
 | nil : Cst h h' φ (.im (.val (.slice none 0 0))) (.im (.sl [] 0))
 | agg {cs ds : List AV} : CstL h h' φ cs ds → Cst h h' φ (.agg cs) (.agg ds)
 | tup {cs ds : List AV} : CstL h h' φ cs ds → Cst h h' φ (.tup cs) (.tup ds)
 | ipt {cs : List IV} {off : Nat} : Cst h h' φ (.ipt cs off) (.ipt cs off)
 | ref {r r' ver ver' off : Nat} {rt rt' : Rt} : h.at r = some rt → h'.at r' = some rt' → φ r' = some r → rt.ver = ver → rt'.ver = ver' → Cst h h' φ (.ref r ver off) (.ref r' ver' off)
 | rsl {r r' ver ver' off n : Nat} {rt rt' : Rt} : h.at r = some rt → h'.at r' = some rt' → φ r' = some r → rt.ver = ver → rt'.ver = ver' → rt'.k = rt.k → Cst h h' φ (.rsl r ver off n) (.rsl r' ver' off n)
 | nilr {r' ver' : Nat} {rt' : Rt} : h'.at r' = some rt' → φ r' = none → rt'.ver = ver' → Cst h h' φ (.im (.val (.slice none 0 0))) (.rsl r' ver' 0 0)
 | frz {r ver off n : Nat} {rt : Rt} {ys : List IV} : h.at r = some rt → rt.ver = ver → rt.live = true → (rt.cs.drop off).take (n * rt.k) = ys.map .im → ys.length = n * rt.k → (∀ r' rt', h'.at r' = some rt' → φ r' ≠ some r) → Cst h h' φ (.rsl r ver off n) (.im (.sl ys n))
 | cnd {g : Bool} {x y : AV} : Cst h h' φ x y → Cst h h' φ (.cnd g x) (.cnd g y)
 | sem {x : AV} {y : IV} : (∀ (X : Ctx) (w : World) (ι : Nat → Bk) (v : Value), Hol X h ι w → (∀ β, Own X.B h' (Y2y ι φ) β → Own X.B h ι β) → (∀ r' rt' r, h'.at r' = some rt' → rt'.live = true → φ r' = some r → ∃ rt, h.at r = some rt ∧ rt.live = true) → VR w h ι (Own X.B h ι) x v → VRI w (Own X.B h' (Y2y ι φ)) y v) → Cst h h' φ x (.im y)
inductive CstL (h h' : Hp) (φ : Nat → Option Nat) : List AV → List AV → Prop
 | nil : CstL h h' φ [] []
 | cons {x y : AV} {xs ys : List AV} : Cst h h' φ x y → CstL h h' φ xs ys → CstL h h' φ (x :: xs) (y :: ys)
end
theorem CstL.ims {h h' : Hp} {φ : Nat → Option Nat} : ∀ (ys : List IV), CstL h h' φ (ys.map .im) (ys.map .im)
 | [] => .nil
 | y :: ys => .cons .im (CstL.ims ys)
theorem CstL.i2 {h h' : Hp} {φ : Nat → Option Nat} {x1 x2 : IV} {xs ys : List AV} (k : CstL h h' φ xs ys) : CstL h h' φ (.im x1 :: .im x2 :: xs) (.im x1 :: .im x2 :: ys) := .cons .im (.cons .im k)
structure RtC (h h' : Hp) (φ : Nat → Option Nat) : Prop where
 root : ∀ r' rt', h'.at r' = some rt' → match φ r' with
  | some r => ∃ rt, h.at r = some rt ∧ rt'.live = rt.live ∧ rt'.e = rt.e ∧ rt'.k = rt.k ∧ CstL h h' φ rt.cs rt'.cs
  | none => rt'.cs = []
 inj : ∀ r' s' rt' st', h'.at r' = some rt' → h'.at s' = some st' → φ r' = φ s' → φ r' ≠ none → r' = s'
 pin : ∀ r rt, h.at r = some rt → (2000 ≤ r ∧ r < 3000) → φ r = some r ∧ ∃ rt', h'.at r = some rt' ∧ (rt'.ver = 0 → rt.ver = 0)
theorem RtC.own {X : Ctx} {h h' : Hp} {φ : Nat → Option Nat} {ι : Nat → Bk} (R : RtC h h' φ) (β : Nat) (ho : Own X.B h' (Y2y ι φ) β) : Own X.B h ι β := by
 rcases ho with hb | ⟨r', rt', hr', hl, hg⟩
 ·exact .inl hb
 ·have h1 := R.root r' rt' hr'
  unfold Y2y at hg
  cases hφ : φ r' with
  | none => rw [hφ] at hg; simp at hg
  | some r =>
   simp only [hφ] at h1 hg
   obtain ⟨rt, h2, h3, _⟩ := h1
   exact .inr ⟨r, rt, h2, by rw [← h3]; exact hl, hg⟩
mutual
theorem VR.cast {X : Ctx} {w : World} {h h' : Hp} {φ : Nat → Option Nat} {ι : Nat → Bk} (H : Hol X h ι w) (R : RtC h h' φ) : ∀ (x y : AV) (v : Value), Cst h h' φ x y → VR w h ι (Own X.B h ι) x v → VR w h' (Y2y ι φ) (Own X.B h' (Y2y ι φ)) y v
 | x, .any, v, _, _ => by simp only [VR]
 | _, _, v, .im (x := x), hv => by
  simp only [VR] at hv ⊢
  exact VRI.keep (fun β _ hA => ⟨rfl, fun ho => hA (R.own β ho)⟩) x v hv
 | _, _, v, .nil, hv => by
  rw [Y02] at hv
  subst hv
  simp only [VR, VRI]
  exact ⟨none, 0, [], rfl, Xf _, by simp, fun a ha => by simp at ha, by simp [VRIL]⟩
 | _, _, v, .agg (cs := cs) (ds := ds) hc, hv => by
  simp only [VR] at hv ⊢
  obtain ⟨l, hl, hr⟩ := hv
  exact ⟨l, hl, VRL.cast H R cs ds l hc hr⟩
 | _, _, v, .tup (cs := cs) (ds := ds) hc, hv => by
  simp only [VR] at hv ⊢
  obtain ⟨l, hl, hr⟩ := hv
  exact ⟨l, hl, VRL.cast H R cs ds l hc hr⟩
 | _, _, v, .ipt, hv => by
  simp only [VR] at hv ⊢
  obtain ⟨a, l, hl, hlie, hr⟩ := hv
  exact ⟨a, l, hl, hlie.keep (fun β _ hA => ⟨rfl, fun ho => hA (R.own β ho)⟩), VRIL.keep (fun β _ hA => ⟨rfl, fun ho => hA (R.own β ho)⟩) _ l hr⟩
 | _, _, v, .ref (rt := rt) (rt' := rt') h1 h2 h3 h4 h5, hv => by
  simp only [VR] at hv ⊢
  obtain ⟨rt0, hrt, hle, himp⟩ := hv
  rw [h1] at hrt
  cases hrt
  refine ⟨rt', h2, by omega, fun _ => ?_⟩
  have := himp h4.symm
  unfold Y2y
  rw [h3]
  exact this
 | _, _, v, .rsl (rt := rt) (rt' := rt') h1 h2 h3 h4 h5 h6, hv => by
  simp only [VR] at hv ⊢
  obtain ⟨rt0, hrt, hle, himp⟩ := hv
  rw [h1] at hrt
  cases hrt
  refine ⟨rt', h2, by omega, fun _ => ?_⟩
  have := himp h4.symm
  unfold Y2y
  rw [h3, h6]
  exact this
 | _, _, v, .nilr (rt' := rt') h1 h2 h3, hv => by
  rw [Y02] at hv
  subst hv
  simp only [VR]
  refine ⟨rt', h1, by omega, fun _ => ?_⟩
  unfold Y2y
  rw [h2]
  exact ⟨none, 0, rfl, Xf _, .inl ⟨rfl, rfl, rfl, rfl, rfl⟩⟩
 | _, _, v, .frz (r := r) (rt := rt) h1 h2 h3 h4 h5 h6, hv => by
  have hsrc := ArgS.slice (h := h) (bs := [r]) (by simp) h1 h2 h3 h4 h5 X ι w _ H hv
  refine VR.pure (fun β _ hA => ⟨rfl, fun ho => hA ?_⟩) _ _ rfl hsrc
  refine ⟨R.own β ho, fun s hs hg => ?_⟩
  simp at hs
  subst hs
  rcases ho with hb | ⟨r', rt', hr', hl, hg'⟩
  ·exact (H.place s rt β h1 h3 hg).1 hb
  ·have h7 := R.root r' rt' hr'
   unfold Y2y at hg'
   cases hφ : φ r' with
   | none => rw [hφ] at hg'; simp at hg'
   | some q =>
    simp only [hφ] at h7 hg'
    obtain ⟨rt2, h8, h9, _⟩ := h7
    have hq := H.inj q s rt2 rt β h8 h1 (by rw [← h9]; exact hl) h3 hg' hg
    subst hq
    exact h6 r' rt' hr' hφ
 | _, _, v, .cnd (x := x) (y := y) hc, hv => by
  simp only [VR] at hv ⊢
  exact ⟨fun hg => VR.cast H R x y v hc (hv.1 hg), hv.2⟩
 | _, _, v, .sem hs, hv => by
  simp only [VR]
  refine hs X w ι v H R.own (fun r' rt' r h1 h2 h3 => ?_) hv
  have h4 := R.root r' rt' h1
  simp only [h3] at h4
  obtain ⟨rt, h5, h6, _⟩ := h4
  exact ⟨rt, h5, by rw [← h6]; exact h2⟩
theorem VRL.cast {X : Ctx} {w : World} {h h' : Hp} {φ : Nat → Option Nat} {ι : Nat → Bk} (H : Hol X h ι w) (R : RtC h h' φ) : ∀ (xs ys : List AV) (l : List Value), CstL h h' φ xs ys → VRL w h ι (Own X.B h ι) xs l → VRL w h' (Y2y ι φ) (Own X.B h' (Y2y ι φ)) ys l
 | _, _, l, .nil, hv => by simpa only [VRL] using hv
 | _, _, l, .cons (x := x) (y := y) (xs := xs) (ys := ys) hc hs, hv => by
  simp only [VRL] at hv ⊢
  obtain ⟨v, l', hl, hv, hr⟩ := hv
  exact ⟨v, l', hl, VR.cast H R x y v hc hv, VRL.cast H R xs ys l' hs hr⟩
end
section
variable {env : Env} {h h' : Hp} {φ : Nat → Option Nat}
theorem CstL.length : ∀ {xs ys : List AV}, CstL h h' φ xs ys → xs.length = ys.length
 | _, _, .nil => rfl
 | _, _, .cons _ hs => by simp [CstL.length hs]
theorem Hol.cast {X : Ctx} {w : World} {ι : Nat → Bk} (H : Hol X h ι w) (R : RtC h h' φ) : Hol X h' (Y2y ι φ) w where
 roots r' rt' hr' hl := by
  have h1 := R.root r' rt' hr'
  cases hφ : φ r' with
  | none =>
   simp only [hφ] at h1
   left
   unfold Y2y
   rw [hφ]
   exact ⟨rfl, h1, rfl⟩
  | some r =>
   simp only [hφ] at h1
   obtain ⟨rt, h2, h3, h4, h5, h6⟩ := h1
   have e : Y2y ι φ r' = ι r := by unfold Y2y; rw [hφ]
   rw [e]
   have hlen := h6.length
   rcases H.roots r rt h2 (by rw [← h3]; exact hl) with ⟨c1, c2, c3⟩ | ⟨g, arr, c1, c2, c3, c4, c5, c6⟩
   ·left
    refine ⟨c1, ?_, c3⟩
    rw [c2] at hlen
    exact Xn hlen.symm
   ·right
    refine ⟨g, arr, c1, by rw [h4]; exact c2, by rw [h5]; exact c3, c4, ?_, ?_⟩
    ·rw [← hlen]; exact VRL.cast H R _ _ _ h6 c5
    ·rw [← hlen]; exact c6
 inj r' s' rt' st' g hr hs hlr hls hgr hgs := by
  have h1 := R.root r' rt' hr
  have h2 := R.root s' st' hs
  unfold Y2y at hgr hgs
  cases hφ : φ r' with
  | none => rw [hφ] at hgr; simp at hgr
  | some r =>
   cases hψ : φ s' with
   | none => rw [hψ] at hgs; simp at hgs
   | some s =>
    simp only [hφ] at h1 hgr
    simp only [hψ] at h2 hgs
    obtain ⟨rt, a1, a2, _⟩ := h1
    obtain ⟨st, b1, b2, _⟩ := h2
    have := H.inj r s rt st g a1 b1 (by rw [← a2]; exact hlr) (by rw [← b2]; exact hls) hgr hgs
    subst this
    exact R.inj r' s' rt' st' hr hs (by rw [hφ, hψ]) (by rw [hφ]; simp)
 place r' rt' g hr hl hg := by
  have h1 := R.root r' rt' hr
  unfold Y2y at hg
  cases hφ : φ r' with
  | none => rw [hφ] at hg; simp at hg
  | some r =>
   simp only [hφ] at h1 hg
   obtain ⟨rt, a1, a2, _⟩ := h1
   exact H.place r rt g a1 (by rw [← a2]; exact hl) hg
 pin r b k hp := by
  obtain ⟨h1, rt, h2, h3⟩ := H.pin r b k hp
  obtain ⟨h4, rt', h5, h6⟩ := R.pin r rt h2 h1
  have h7 := R.root r rt' h5
  rw [h4] at h7
  obtain ⟨rt2, b1, _, _, b4, _⟩ := h7
  rw [h2] at b1
  cases b1
  refine ⟨h1, rt', h5, fun hv => ?_⟩
  unfold Y2y
  rw [h4, b4]
  exact h3 (h6 hv)
 os := H.os
 tape := H.tape
 output := H.output
 size := H.size
 frame := H.frame
 old := H.old
 glob := H.glob
inductive EnvC (h h' : Hp) (φ : Nat → Option Nat) (env : Env) : Env → Prop
 | nil : EnvC h h' φ env []
 | cons {i : Nat} {v : AV} {r : Env} : Cst h h' φ (rd env i) v → EnvC h h' φ env r → EnvC h h' φ env ((i, v) :: r)
theorem Cst.imE {x : AV} {y : IV} (e : x = .im y) : Cst h h' φ x (.im y) := by
 subst e
 exact .im
theorem EnvC.i2 {h h' : Hp} {φ : Nat → Option Nat} {env : Env} {i1 i2 : Nat} {x1 x2 : IV} {r : Env} (k : EnvC h h' φ env r) (e1 : rd env i1 = .im x1 := by rfl) (e2 : rd env i2 = .im x2 := by rfl) : EnvC h h' φ env ((i1, .im x1) :: (i2, .im x2) :: r) := .cons (.imE e1) (.cons (.imE e2) k)
theorem EnvC.i3 {h h' : Hp} {φ : Nat → Option Nat} {env : Env} {i1 i2 i3 : Nat} {x1 x2 x3 : IV} {r : Env} (k : EnvC h h' φ env r) (e1 : rd env i1 = .im x1 := by rfl) (e2 : rd env i2 = .im x2 := by rfl) (e3 : rd env i3 = .im x3 := by rfl) : EnvC h h' φ env ((i1, .im x1) :: (i2, .im x2) :: (i3, .im x3) :: r) := .cons (.imE e1) (.cons (.imE e2) (.cons (.imE e3) k))
theorem EnvC.i4 {h h' : Hp} {φ : Nat → Option Nat} {env : Env} {i1 i2 i3 i4 : Nat} {x1 x2 x3 x4 : IV} {r : Env} (k : EnvC h h' φ env r) (e1 : rd env i1 = .im x1 := by rfl) (e2 : rd env i2 = .im x2 := by rfl) (e3 : rd env i3 = .im x3 := by rfl) (e4 : rd env i4 = .im x4 := by rfl) : EnvC h h' φ env ((i1, .im x1) :: (i2, .im x2) :: (i3, .im x3) :: (i4, .im x4) :: r) := .cons (.imE e1) (.cons (.imE e2) (.cons (.imE e3) (.cons (.imE e4) k)))
theorem EnvC.i5 {h h' : Hp} {φ : Nat → Option Nat} {env : Env} {i1 i2 i3 i4 i5 : Nat} {x1 x2 x3 x4 x5 : IV} {r : Env} (k : EnvC h h' φ env r) (e1 : rd env i1 = .im x1 := by rfl) (e2 : rd env i2 = .im x2 := by rfl) (e3 : rd env i3 = .im x3 := by rfl) (e4 : rd env i4 = .im x4 := by rfl) (e5 : rd env i5 = .im x5 := by rfl) : EnvC h h' φ env ((i1, .im x1) :: (i2, .im x2) :: (i3, .im x3) :: (i4, .im x4) :: (i5, .im x5) :: r) := .cons (.imE e1) (.cons (.imE e2) (.cons (.imE e3) (.cons (.imE e4) (.cons (.imE e5) k))))
theorem EnvC.i6 {h h' : Hp} {φ : Nat → Option Nat} {env : Env} {i1 i2 i3 i4 i5 i6 : Nat} {x1 x2 x3 x4 x5 x6 : IV} {r : Env} (k : EnvC h h' φ env r) (e1 : rd env i1 = .im x1 := by rfl) (e2 : rd env i2 = .im x2 := by rfl) (e3 : rd env i3 = .im x3 := by rfl) (e4 : rd env i4 = .im x4 := by rfl) (e5 : rd env i5 = .im x5 := by rfl) (e6 : rd env i6 = .im x6 := by rfl) : EnvC h h' φ env ((i1, .im x1) :: (i2, .im x2) :: (i3, .im x3) :: (i4, .im x4) :: (i5, .im x5) :: (i6, .im x6) :: r) := .cons (.imE e1) (.cons (.imE e2) (.cons (.imE e3) (.cons (.imE e4) (.cons (.imE e5) (.cons (.imE e6) k)))))
theorem EnvC.i7 {i1 i2 i3 i4 i5 i6 i7 : Nat} {x1 x2 x3 x4 x5 x6 x7 : IV} {r : Env} (k : EnvC h h' φ env r) (e1 : rd env i1 = .im x1 := by rfl) (e2 : rd env i2 = .im x2 := by rfl) (e3 : rd env i3 = .im x3 := by rfl) (e4 : rd env i4 = .im x4 := by rfl) (e5 : rd env i5 = .im x5 := by rfl) (e6 : rd env i6 = .im x6 := by rfl) (e7 : rd env i7 = .im x7 := by rfl) : EnvC h h' φ env ((i1, .im x1) :: (i2, .im x2) :: (i3, .im x3) :: (i4, .im x4) :: (i5, .im x5) :: (i6, .im x6) :: (i7, .im x7) :: r) := .cons (.imE e1) (.cons (.imE e2) (.cons (.imE e3) (.cons (.imE e4) (.cons (.imE e5) (.cons (.imE e6) (.cons (.imE e7) k))))))
theorem EnvC.i8 {i1 i2 i3 i4 i5 i6 i7 i8 : Nat} {x1 x2 x3 x4 x5 x6 x7 x8 : IV} {r : Env} (k : EnvC h h' φ env r) (e1 : rd env i1 = .im x1 := by rfl) (e2 : rd env i2 = .im x2 := by rfl) (e3 : rd env i3 = .im x3 := by rfl) (e4 : rd env i4 = .im x4 := by rfl) (e5 : rd env i5 = .im x5 := by rfl) (e6 : rd env i6 = .im x6 := by rfl) (e7 : rd env i7 = .im x7 := by rfl) (e8 : rd env i8 = .im x8 := by rfl) : EnvC h h' φ env ((i1, .im x1) :: (i2, .im x2) :: (i3, .im x3) :: (i4, .im x4) :: (i5, .im x5) :: (i6, .im x6) :: (i7, .im x7) :: (i8, .im x8) :: r) := .cons (.imE e1) (.cons (.imE e2) (.cons (.imE e3) (.cons (.imE e4) (.cons (.imE e5) (.cons (.imE e6) (.cons (.imE e7) (.cons (.imE e8) k)))))))
theorem EnvC.all : ∀ {env' : Env}, EnvC h h' φ env env' → ∀ i, Cst h h' φ (rd env i) (rd env' i)
 | _, .nil, i => .any
 | _, .cons (i := j) hc hr, i => by
  simp only [rd]
  by_cases hj : j = i
  ·subst hj; rw [if_pos rfl]; exact hc
  ·rw [if_neg hj]; exact EnvC.all hr i
def StC (env : Env) (h : Hp) (env' : Env) (h' : Hp) : Prop := ∃ φ, RtC h h' φ ∧ EnvC h h' φ env env'
end
section
variable {P : Program} {N : Nat} {ops : Array Oper} {env : Env} {h : Hp} {Q : Exit → Env → Hp → Prop}
theorem Slots.cast {X : Ctx} {w : World} {h' : Hp} {env' : Env} {φ : Nat → Option Nat} {ι : Nat → Bk} {a : Act} (H : Hol X h ι w) (R : RtC h h' φ) (E : EnvC h h' φ env env') (S : Slots N env h ι (Own X.B h ι) a w) :
  Slots N env' h' (Y2y ι φ) (Own X.B h' (Y2y ι φ)) a w :=
 ⟨S.size, S.defers, fun i => VR.cast H R _ _ _ (E.all i) (S.at_ i)⟩
theorem AW.recast {c : Code} {env' : Env} {h' : Hp} (hs : StC env h env' h') (hw : AW P N c env' h' Q) : AW P N c env h Q := by
 obtain ⟨φ, R, E⟩ := hs
 intro X a w ι H S
 exact hw X a w _ (H.cast R) (Slots.cast H R E S)
theorem OpsW.recast {l : List Oper} {K : Env → Hp → Prop} {env' : Env} {h' : Hp} (hs : StC env h env' h') (hw : OpsW P N ops l env' h' K) : OpsW P N ops l env h K := by
 obtain ⟨φ, R, E⟩ := hs
 intro X a w ι Q H S hQ
 exact hw X a w _ Q (H.cast R) (Slots.cast H R E S) hQ
theorem Y22 {c z : Code} {α ρ : Type} (K : α → Option ρ) (r : ρ) (E : α → Env) (Gh : α → Hp)
  (hc : AW P N c env h (Ex.then (fun e h => ∃ y, K y = some r ∧ StC e h (E y) (Gh y)) Q)) (hz : ∀ y, K y = some r → AW P N z (E y) (Gh y) Q) : AW P N (.seq c z) env h Q :=
 Y0e (AW.mono hc fun x e h hq => by
  cases x with
  | normal =>
   obtain ⟨y, hy, hs⟩ := hq
   exact AW.recast hs (hz y hy)
  | _ => exact hq)
theorem Y4i {c : Code} {S R : Type} (b : (S → Option R) → S → Option R) (r : R) (E : S → Env) (Gh : S → Hp)
  (body : ∀ (loop : S → Option R) (s : S), b loop s = some r → AW P N c (E s) (Gh s) (Ex.then (fun e h => ∃ s', loop s' = some r ∧ StC e h (E s') (Gh s')) Q))
  (n : Nat) (s : S) (hi : iter b n s = some r) (hs : StC env h (E s) (Gh s)) : AW P N (.loop c) env h Q := by
 refine AW.loop (α := Nat × S × Env × Hp) (fun x => x.2.2.1) (fun x => x.2.2.2) (fun x => iter b x.1 x.2.1 = some r ∧ StC x.2.2.1 x.2.2.2 (E x.2.1) (Gh x.2.1)) (fun x => x.1) (n, s, env, h) ⟨hi, hs⟩
  (fun i => .inr rfl) (fun i => rfl) ?_
 rintro ⟨n, s, e, h⟩ ⟨hi, hs⟩
 refine AW.recast hs ?_
 cases n with
 | zero => simp [iter] at hi
 | succ n =>
  refine AW.mono (body (iter b n) s hi) fun x e' h' hq => ?_
  cases x with
  | normal =>
   obtain ⟨s', h1, h2⟩ := hq
   exact ⟨(n, s', e', h'), ⟨h1, h2⟩, by simp, fun i => .inr rfl, fun i => rfl⟩
  | _ => exact hq
inductive RtsC (h h' : Hp) (φ : Nat → Option Nat) : Hp → Prop
 | nil : RtsC h h' φ []
 | new {r' ver' e k : Nat} {live : Bool} {l : Hp} : φ r' = none → RtsC h h' φ l → RtsC h h' φ ((r', ⟨ver', live, e, k, []⟩) :: l)
 | old {r r' : Nat} {rt rt' : Rt} {l : Hp} : φ r' = some r → h.at r = some rt → rt'.live = rt.live → rt'.e = rt.e → rt'.k = rt.k → CstL h h' φ rt.cs rt'.cs → RtsC h h' φ l → RtsC h h' φ ((r', rt') :: l)
theorem RtsC.root {h h' : Hp} {φ : Nat → Option Nat} : ∀ {l : Hp}, RtsC h h' φ l → ∀ r' rt', l.at r' = some rt' → match φ r' with
  | some r => ∃ rt, h.at r = some rt ∧ rt'.live = rt.live ∧ rt'.e = rt.e ∧ rt'.k = rt.k ∧ CstL h h' φ rt.cs rt'.cs
  | none => rt'.cs = []
 | _, .nil, r', rt', hr => by simp [Hp.at] at hr
 | _, .new (r' := q) h1 hl, r', rt', hr => by
  simp only [Hp.at] at hr
  split at hr
  ·rename_i he; subst he; cases hr; rw [h1]
  ·exact RtsC.root hl r' rt' hr
 | _, .old (r := r) (r' := q) (rt := rt) h1 h2 h3 h4 h5 h6 hl, r', rt', hr => by
  simp only [Hp.at] at hr
  split at hr
  ·rename_i he; subst he; cases hr; rw [h1]; exact ⟨rt, h2, h3, h4, h5, h6⟩
  ·exact RtsC.root hl r' rt' hr
def injB (h' : Hp) (φ : Nat → Option Nat) : Bool := (h'.map (·.1)).all fun i => (h'.map (·.1)).all fun j => (i == j) || (φ i == none) || !(φ i == φ j)
theorem Y4l : ∀ {h : Hp} {r : Nat} {rt : Rt}, h.at r = some rt → r ∈ h.map (·.1)
 | [], r, rt, hr => by simp [Hp.at] at hr
 | (i, x) :: l, r, rt, hr => by
  simp only [Hp.at] at hr
  split at hr
  ·rename_i he; simp [he]
  ·simp only [Xp, X00]; exact .inr (Y4l hr)
def pinB (h h' : Hp) (φ : Nat → Option Nat) : Bool := (h.map (·.1)).all fun r => decide (r < 2000) || decide (3000 ≤ r) || (φ r == some r && (match h.at r, h'.at r with
  | some rt, some rt' => decide (rt'.ver ≠ 0) || decide (rt.ver = 0)
  | _, _ => false))
theorem pinB.sound {h h' : Hp} {φ : Nat → Option Nat} (hb : pinB h h' φ = true) (r : Nat) (rt : Rt) (hr : h.at r = some rt) (h2 : 2000 ≤ r ∧ r < 3000) : φ r = some r ∧ ∃ rt', h'.at r = some rt' ∧ (rt'.ver = 0 → rt.ver = 0) := by
 unfold pinB at hb
 have h1 := Xa.1 hb r (Y4l hr)
 simp only [X0b, decide_eq_true_eq, X3, beq_iff_eq] at h1
 rcases h1 with (h1 | h1) | ⟨h1, h3⟩
 ·omega
 ·omega
 ·refine ⟨h1, ?_⟩
  rw [hr] at h3
  cases hx : h'.at r with
  | none => rw [hx] at h3; simp at h3
  | some rt' =>
   rw [hx] at h3
   simp only [X0b, decide_eq_true_eq] at h3
   refine ⟨rt', rfl, fun h0 => ?_⟩
   rcases h3 with h3 | h3
   ·exact absurd h0 h3
   ·exact h3
theorem StC.mk {env' : Env} {h' : Hp} (φ : Nat → Option Nat) (hr : RtsC h h' φ h') (hib : (injB h' φ && pinB h h' φ) = true) (he : EnvC h h' φ env env') : StC env h env' h' := by
 obtain ⟨hi, hp⟩ := Bool.and_eq_true_iff.1 hib
 refine ⟨φ, ⟨hr.root, fun r' s' rt' st' h1 h2 h3 h4 => ?_, pinB.sound hp⟩, he⟩
 unfold injB at hi
 have h5 := Xa.1 (Xa.1 hi r' (Y4l h1)) s' (Y4l h2)
 simp only [X0b, beq_iff_eq, X0s, beq_eq_false_iff_ne, ne_eq] at h5
 rcases h5 with (h5 | h5) | h5
 ·exact h5
 ·exact absurd h5 h4
 ·exact absurd h3 h5
theorem StC.pure {env' : Env} (he : EnvC h [] (fun _ => none) env env') (hp : (h.all fun x => decide (x.1 < 2000) || decide (3000 ≤ x.1)) = true := by rfl) : StC env h env' [] := by
 refine StC.mk (fun _ => none) .nil ?_ he
 rw [Bool.and_eq_true_iff]
 refine ⟨rfl, ?_⟩
 unfold pinB
 rw [Xa]
 intro r hr
 obtain ⟨x, hx, rfl⟩ := X01.1 hr
 have := Xa.1 hp x hx
 rw [this]
 rfl
end
def eB (b : Bool) : List IV := [.val (.bool b)]
def eS (s : ByteArray) : List IV := [.val (.string s)]
def eL {α : Type} (enc : α → List IV) (l : List α) : List IV := [.sl (l.flatMap enc) l.length]
abbrev slA {α : Type} (enc : α → List IV) (l : List α) : AV := .im (.sl (l.flatMap enc) l.length)
abbrev rtA {α : Type} (ver e k : Nat) (enc : α → List IV) (l : List α) : Rt := ⟨ver, true, e, k, (l.flatMap enc).map .im⟩
theorem fm_cell {α : Type} (enc : α → List IV) (k : Nat) (hk : ∀ a, (enc a).length = k) (l : List α) (d : α) (i : Nat) (hi : i < l.length) (o : Nat) (c : α → IV) (hc : ∀ a, (enc a)[o]? = some (c a)) :
  (l.flatMap enc)[i * k + o]? = some (c (l.getD i d)) := by
 have ho : o < k := by
  have h1 := hc d
  have h2 := hk d
  have h3 := (Xm.1 h1).1
  omega
 rw [fm_get enc k l (fun a _ => hk a) i o ho, X2 hi]
 simp [hc, X8, X2 hi]
theorem fm_cell0 {α : Type} (enc : α → List IV) (k : Nat) (hk : ∀ a, (enc a).length = k) (l : List α) (d : α) (i : Nat) (hi : i < l.length) (c : α → IV) (hc : ∀ a, (enc a)[0]? = some (c a)) :
  (l.flatMap enc)[i * k]? = some (c (l.getD i d)) := fm_cell enc k hk l d i hi 0 c hc
theorem Y15 {α : Type} (enc : α → List IV) (k : Nat) (hk : ∀ a, (enc a).length = k) (l : List α) : (l.flatMap enc).length = l.length * k := fm_len enc k l fun a _ => hk a
theorem fm_drop {α : Type} (enc : α → List IV) (k : Nat) (hk : ∀ a, (enc a).length = k) : ∀ (l : List α) (i : Nat), (l.flatMap enc).drop (i * k) = (l.drop i).flatMap enc
 | l, 0 => by simp
 | [], i + 1 => by simp
 | a :: l, i + 1 => by
  rw [Xq, X19, ← fm_drop enc k hk l i, X0m, Nat.one_mul, Nat.add_comm, ← List.drop_drop, ← hk a, List.drop_left]
theorem fm_take {α : Type} (enc : α → List IV) (k : Nat) (hk : ∀ a, (enc a).length = k) : ∀ (l : List α) (i : Nat), (l.flatMap enc).take (i * k) = (l.take i).flatMap enc
 | l, 0 => by simp
 | [], i + 1 => by simp
 | a :: l, i + 1 => by
  rw [Xq, X07, Xq, ← fm_take enc k hk l i, X0m, Nat.one_mul, Nat.add_comm, ← hk a, List.take_length_add_append]
theorem fm_elem {α : Type} (enc : α → List IV) (k : Nat) (hk : ∀ a, (enc a).length = k) (l : List α) (d : α) (i : Nat) (hi : i < l.length) : ((l.flatMap enc).drop (i * k)).take k = enc (l.getD i d) := by
 rw [fm_drop enc k hk, X0k hi, Xq]
 rw [show k = (enc l[i]).length from (hk _).symm, List.take_left]
 simp [X8, X2 hi]
theorem fm_part {α : Type} (enc : α → List IV) (k : Nat) (hk : ∀ a, (enc a).length = k) (l : List α) (lo m : Nat) : ((l.flatMap enc).drop (lo * k)).take (m * k) = ((l.drop lo).take m).flatMap enc := by
 rw [fm_drop enc k hk, fm_take enc k hk]
section
variable {P : Program} {N : Nat} {ops : Array Oper} {env : Env} {h : Hp}
section
variable {K : Env → Hp → Prop} {cs : List IV} {rest : List Oper} {n k m : Nat} {o : Oper} {x : Operand} {ρ : Operand → AV} {α : Type} {t : TypeId} {enc : α → List IV}
theorem T.load {off : Nat} {c : IV} (hx : st (ρ x) = .ipt cs off) (hg : gd (ρ x)) (hl : lz P t = some none) (hc : cs[off]? = some c) :
  po P h ρ (.load t x) ∧ pv P h ρ (.load t x) = .im c := by
 simp only [po, pv, hx, hl, poLoad, Y4u, hc]
 exact ⟨⟨hg, (Xm.1 hc).1⟩, trivial⟩
theorem T.loadAgg {ds : List IV} {off : Nat} (hx : st (ρ x) = .ipt cs off) (hg : gd (ρ x)) (hl : lz P t = some (some n)) (hn : off + n ≤ cs.length) (hc : (cs.drop off).take n = ds) :
  po P h ρ (.load t x) ∧ pv P h ρ (.load t x) = .agg (ds.map .im) := by
 simp only [po, pv, hx, hl, poLoad, Y4u, hc]
 exact ⟨⟨hg, hn⟩, trivial⟩
theorem T.slice {lo hi : Option Operand} {ds : List IV} (hx : st (ρ x) = .im (.sl cs n)) (hg : gd (ρ x)) (hgl : gdo ρ lo) (hgh : gdo ρ hi) (ht : tk P t = 1) (hk : ez P t = some k)
  (h1 : okLo n (hi.map fun y => st (ρ y))) (h2 : okLo (Y29 n (hi.map fun y => st (ρ y))) (lo.map fun y => st (ρ y))) (hm : Y29 n (hi.map fun y => st (ρ y)) - Y4v (lo.map fun y => st (ρ y)) = m)
  (hd : (cs.drop (Y4v (lo.map fun y => st (ρ y)) * k)).take (m * k) = ds) :
  po P h ρ (.slice t x lo hi none) ∧ pv P h ρ (.slice t x lo hi none) = .im (.sl ds m) := by
 subst hm
 simp only [po, pv, hx, hk, poSlice, pvSlice, hd]
 exact ⟨⟨hg, hgl, hgh, ht, h1, h2⟩, trivial⟩
theorem OpsW.asU (x : AV) (hgu : o.guard = none) (hd : o.dst.all (· < N) = true) (hop : po P h (rdo env) o.op ∧ pv P h (rdo env) o.op = x)
  (hr : OpsW P N ops rest (setd env o.dst x) h K) : OpsW P N ops (o :: rest) env h K := by
 have e : gav ops env o x = x := by unfold gav; rw [hgu]
 exact OpsW.as x hd (by unfold gpo; rw [hgu]; exact hop) (by rw [e]; exact hr)
theorem OpsW.asG (x : AV) {j t : Nat} {b c : Bool} (hgu : o.guard = some (j, b)) (hj : (ops[j]?).bind (·.dst) = some t) (hc : gcond b (rd env t) = some c) (hd : o.dst.all (· < N) = true)
  (hop : c = true → po P h (rdo env) o.op ∧ pv P h (rdo env) o.op = x) (hr : OpsW P N ops rest (setd env o.dst (.cnd c x)) h K) : OpsW P N ops (o :: rest) env h K := by
 have e : gav ops env o x = .cnd c x := by unfold gav; simp only [hgu, hj, hc]
 exact OpsW.as x hd (by unfold gpo; simp only [hgu, hj, hc]; exact hop) (by rw [e]; exact hr)
theorem QOps.asU {K : Env → Prop} (x : AV) (hgu : o.guard = none) (hop : po P h (rdo env) o.op ∧ pv P h (rdo env) o.op = x)
  (hr : QOps P ops h rest (setd env o.dst x) K) : QOps P ops h (o :: rest) env K := by
 have e : gav ops env o x = x := by unfold gav; rw [hgu]
 exact QOps.as x (by unfold gpo; rw [hgu]; exact hop) (by rw [e]; exact hr)
theorem QOps.asG {K : Env → Prop} (x : AV) {j t : Nat} {b c : Bool} (hgu : o.guard = some (j, b)) (hj : (ops[j]?).bind (·.dst) = some t) (hc : gcond b (rd env t) = some c)
  (hop : c = true → po P h (rdo env) o.op ∧ pv P h (rdo env) o.op = x) (hr : QOps P ops h rest (setd env o.dst (.cnd c x)) K) : QOps P ops h (o :: rest) env K := by
 have e : gav ops env o x = .cnd c x := by unfold gav; simp only [hgu, hj, hc]
 exact QOps.as x (by unfold gpo; simp only [hgu, hj, hc]; exact hop) (by rw [e]; exact hr)
def room (bytes n : Nat) : Prop := n * bytes ≤ 140737488355328 ∧ n ≤ 140737488355328
instance (bytes n : Nat) : Decidable (room bytes n) := inferInstanceAs (Decidable (_ ∧ _))
theorem put_app (enc : α → List IV) (k n : Nat) (hk : ∀ a, (enc a).length = k) (l ys : List α) : (((l.flatMap enc).map AV.im).take (n * k)) ++ ((ys.flatMap enc).map AV.im) = ((l.take n ++ ys).flatMap enc).map AV.im := by
 rw [X18, X0v, ← List.map_take, fm_take enc k hk]
theorem OpsW.appendT {s : Operand} {u e : TypeId} {bytes : Nat} {z : List Value} {l ys : List α} (ho : o.op = .call ⟨.builtin .append, #[s, x], #[t, u]⟩) (hgu : o.guard = none) (hd : o.dst.all (· < N) = true)
  {r ver : Nat} (E : Elem P t e k bytes z) (hk : ∀ a, (enc a).length = k) (hs : rdo env s = .rsl r ver 0 n) (hrt : h.at r = some (rtA ver e k enc l)) (hn : n ≤ l.length)
  (hx : gd (rdo env x)) (src : SrcA P h u k (st (rdo env x)) m ((ys.flatMap enc).map .im)) (hm : m = ys.length) (hsz : room bytes (n + m))
  (hw : OpsW P N ops rest (setd env o.dst (.rsl r (ver + 1) 0 (l.take n ++ ys).length)) ((r, rtA (ver + 1) e k enc (l.take n ++ ys)) :: h) K) : OpsW P N ops (o :: rest) env h K := by
 subst hm
 refine OpsW.append ho hgu hd E hs hrt rfl rfl rfl rfl ?_ hx src hsz.1 hsz.2 ?_
 ·simp only [X02]; rw [Y15 enc k hk]; exact X0o _ hn
 ·have e1 : (l.take n ++ ys).length = n + ys.length := by simp; omega
  rw [e1] at hw
  rw [put_app enc k n hk]
  exact hw
theorem SrcA.typed {u : TypeId} (hk : ∀ a, (enc a).length = k) (hu : tk P u = 1) (ys : List α) : SrcA P h u k (slA enc ys) ys.length ((ys.flatMap enc).map .im) :=
 SrcA.im hu (Y15 enc k hk ys)
theorem OpsW.appendLT {o1 o2 : Oper} {s : Operand} {d1 e : TypeId} {bytes : Nat} {z : List Value} {ps : List (Nat × Operand)} {l : List α} (ys : List α) (h1 : o1.op = .buildSlice t m ps.toArray) (hd1 : o1.dst = some d1) (hg1 : o1.guard = none) (hN : d1 < N)
  (h2 : o2.op = .call ⟨.builtin .append, #[s, .tmp d1], #[t, t]⟩) (hg2 : o2.guard = none) (hd2 : o2.dst.all (· < N) = true) (hsd : s ≠ .tmp d1) (E : Elem P t e k bytes z) (hk : ∀ a, (enc a).length = k) (hm : m * k ≤ 16777216)
  (hgd : ∀ p ∈ ps, gd (rdo env p.2)) (hok : ∀ p ∈ ps, okC h (st (rdo env p.2))) (hf : Y46 h (fun i => some (i * k, k)) (Y3r z m) (ps.map fun p => (p.1, st (rdo env p.2))) = some ((ys.flatMap enc).map .im))
  (hone : ∀ x ∈ (ys.flatMap enc).map AV.im, oneA h x) (hml : m = ys.length)
  {r ver : Nat} (hs : rdo env s = .rsl r ver 0 n) (hrt : h.at r = some (rtA ver e k enc l)) (hn : n ≤ l.length) (hsz : room bytes (n + m))
  (hw : OpsW P N ops rest (setd ((d1, .any) :: env) o2.dst (.rsl r (ver + 1) 0 (l.take n ++ ys).length)) ((r, rtA (ver + 1) e k enc (l.take n ++ ys)) :: h) K) : OpsW P N ops (o1 :: o2 :: rest) env h K := by
 subst hml
 refine OpsW.appendL h1 hd1 hg1 hN h2 hg2 hd2 hsd E hm hgd hok _ hf hone (by simp only [X02]; rw [Y15 enc k hk]) hs hrt rfl rfl rfl rfl ?_ hsz.1 hsz.2 ?_
 ·simp only [X02]; rw [Y15 enc k hk]; exact X0o _ hn
 ·have e1 : (l.take n ++ ys).length = n + ys.length := by simp; omega
  rw [e1] at hw
  rw [put_app enc k n hk]
  exact hw
theorem take_all_len (l : List α) : l.take l.length = l := List.take_length
theorem frz_all (enc : α → List IV) (k : Nat) (hk : ∀ a, (enc a).length = k) (l : List α) : (((l.flatMap enc).map AV.im).drop 0).take (l.length * k) = (l.flatMap enc).map AV.im := by
 rw [List.drop_zero, Xt (by simp only [X02]; rw [Y15 enc k hk]; exact Xf _)]
end
end
def phi : List (Nat × Option Nat) → Nat → Option Nat
 | [], _ => none
 | (i, v) :: l, j => if i = j then v else phi l j
theorem phi_ne {h' : Hp} {l : List (Nat × Option Nat)} {r : Nat} (ha : (l.all fun p => !(p.2 == some r)) = true) : ∀ (r' : Nat) (rt' : Rt), h'.at r' = some rt' → phi l r' ≠ some r := by
 intro r' rt' hx
 clear hx rt'
 induction l with
 | nil => simp [phi]
 | cons p l ih =>
  obtain ⟨i, v⟩ := p
  simp only [List.all_cons, X3] at ha
  simp only [phi]
  split
  ·intro e; rw [e] at ha; simp at ha
  ·exact ih ha.2
theorem condT {b : Bool} {α : Type} {x y : Option α} {r : α} (hb : b = true) (h : cond b x y = some r) : x = some r := by subst hb; exact h
theorem condF {b : Bool} {α : Type} {x y : Option α} {r : α} (hb : b = false) (h : cond b x y = some r) : y = some r := by subst hb; exact h
theorem Y1j {α β : Type} {o : Option α} {f : α → Option β} {r : β} (h : o.bind f = some r) : ∃ x, o = some x ∧ f x = some r := Option.bind_eq_some_iff.1 h
theorem ltN {j : Int} {n : Nat} (h : 0 ≤ j ∧ j < (n : Int)) : j.toNat < n := by omega
section
variable {P : Program} {N : Nat} {ops : Array Oper} {env : Env} {h : Hp}
section
variable {K : Env → Hp → Prop} {ps : List (Nat × Operand)} {rest : List Oper} {z : List Value} {k bytes len : Nat} {o : Oper} {α : Type} {t e : TypeId} {enc : α → List IV}
theorem OpsW.appendF {s x : Operand} {u : TypeId} {l ys : List α} (ho : o.op = .call ⟨.builtin .append, #[s, x], #[t, u]⟩) (hgu : o.guard = none) (hd : o.dst.all (· < N) = true)
  {r ver m : Nat} (E : Elem P t e k bytes z) (hk : ∀ a, (enc a).length = k) (hs : rdo env s = .rsl r ver 0 l.length) (hrt : h.at r = some (rtA ver e k enc l))
  (hx : gd (rdo env x)) (src : SrcA P h u k (st (rdo env x)) m ((ys.flatMap enc).map .im)) (hm : m = ys.length) (hsz : room bytes (l.length + m))
  (hw : OpsW P N ops rest (setd env o.dst (.rsl r (ver + 1) 0 (l ++ ys).length)) ((r, rtA (ver + 1) e k enc (l ++ ys)) :: h) K) : OpsW P N ops (o :: rest) env h K :=
 OpsW.appendT ho hgu hd E hk hs hrt (Xf _) hx src hm hsz (by rw [take_all_len]; exact hw)
theorem OpsW.appendLF {o1 o2 : Oper} {s : Operand} {d1 : TypeId} {m : Nat} {l : List α} (ys : List α) (h1 : o1.op = .buildSlice t m ps.toArray) (hd1 : o1.dst = some d1) (hg1 : o1.guard = none) (hN : d1 < N)
  (h2 : o2.op = .call ⟨.builtin .append, #[s, .tmp d1], #[t, t]⟩) (hg2 : o2.guard = none) (hd2 : o2.dst.all (· < N) = true) (hsd : s ≠ .tmp d1) (E : Elem P t e k bytes z) (hk : ∀ a, (enc a).length = k) (hm : m * k ≤ 16777216)
  (hgd : AllP (glAll (rdo env) (ps.map (·.2)))) (hok : (ps.all fun p => okCb h (st (rdo env p.2))) = true) (hf : Y46 h (fun i => some (i * k, k)) (Y3r z m) (ps.map fun p => (p.1, st (rdo env p.2))) = some ((ys.flatMap enc).map .im))
  (hone : (((ys.flatMap enc).map AV.im).all (oneAb h)) = true) (hml : m = ys.length)
  {r ver : Nat} (hs : rdo env s = .rsl r ver 0 l.length) (hrt : h.at r = some (rtA ver e k enc l)) (hsz : room bytes (l.length + m))
  (hw : OpsW P N ops rest (setd ((d1, .any) :: env) o2.dst (.rsl r (ver + 1) 0 (l ++ ys).length)) ((r, rtA (ver + 1) e k enc (l ++ ys)) :: h) K) : OpsW P N ops (o1 :: o2 :: rest) env h K :=
 OpsW.appendLT ys h1 hd1 hg1 hN h2 hg2 hd2 hsd E hk hm (fun p hp => Yi hgd p.2 (X01.2 ⟨p, hp, rfl⟩)) (fun p hp => Y23 (Xa.1 hok p hp)) hf
  (fun x hx => oneAb_sound (Xa.1 hone x hx)) hml hs hrt (Xf _) hsz (by rw [take_all_len]; exact hw)
theorem OpsW.buildT (ys : List α) (ho : o.op = .buildSlice t len ps.toArray) (hgu : o.guard = none) (hd : o.dst.all (· < N) = true)
  (r : Nat) (hr : h.at r = none) (E : Elem P t e k bytes z) (hk : ∀ a, (enc a).length = k) (hlen : len * k ≤ 16777216) (hgd : AllP (glAll (rdo env) (ps.map (·.2)))) (hok : (ps.all fun p => okCb h (st (rdo env p.2))) = true)
  (hf : Y46 h (fun i => some (i * k, k)) (Y3r z len) (ps.map fun p => (p.1, st (rdo env p.2))) = some ((ys.flatMap enc).map .im)) (hone : (((ys.flatMap enc).map AV.im).all (oneAb h)) = true) (hml : len = ys.length)
  (hw : OpsW P N ops rest (setd env o.dst (.rsl r 0 0 ys.length)) ((r, rtA 0 e k enc ys) :: h) K) : OpsW P N ops (o :: rest) env h K := by
 subst hml
 exact OpsW.buildSlice ho hgu hd r hr E hlen (fun p hp => Yi hgd p.2 (X01.2 ⟨p, hp, rfl⟩)) (fun p hp => Y23 (Xa.1 hok p hp)) _ hf
  (fun x hx => oneAb_sound (Xa.1 hone x hx)) (by simp only [X02]; rw [Y15 enc k hk]) hw
theorem Quiet.buildTI (ys : List α) (ho : o.op = .buildSlice t len ps.toArray)
  (E : Elem P t e k bytes z) (hk : ∀ a, (enc a).length = k) (hlen : len * k ≤ 16777216)
  (hg : gpo ops env o (AllP (glAll (rdo env) (ps.map (·.2))) ∧ (ps.all fun p => okCb h (st (rdo env p.2))) = true ∧ Y46 h (fun i => some (i * k, k)) (Y3r z len) (ps.map fun p => (p.1, st (rdo env p.2))) = some ((ys.flatMap enc).map .im) ∧ (((ys.flatMap enc).map AV.im).all (oneAb h)) = true ∧ len = ys.length)) :
  Quiet P ops o env h (gav ops env o (.im (.sl (ys.flatMap enc) len))) := by
 refine Quiet.buildI (ys := ys.flatMap enc) ho E hlen ?_
 unfold gpo at hg ⊢
 have key : (AllP (glAll (rdo env) (ps.map (·.2))) ∧ (ps.all fun p => okCb h (st (rdo env p.2))) = true ∧ Y46 h (fun i => some (i * k, k)) (Y3r z len) (ps.map fun p => (p.1, st (rdo env p.2))) = some ((ys.flatMap enc).map .im) ∧ (((ys.flatMap enc).map AV.im).all (oneAb h)) = true ∧ len = ys.length) →
   ((∀ p ∈ ps, gd (rdo env p.2)) ∧ (∀ p ∈ ps, okC h (st (rdo env p.2))) ∧ Y46 h (fun i => some (i * k, k)) (Y3r z len) (ps.map fun p => (p.1, st (rdo env p.2))) = some ((ys.flatMap enc).map .im) ∧ (∀ x ∈ (ys.flatMap enc).map AV.im, oneA h x) ∧ (ys.flatMap enc).length = len * k) :=
  fun ⟨a, b, c, d, e⟩ => ⟨fun p hp => Yi a p.2 (X01.2 ⟨p, hp, rfl⟩), fun p hp => Y23 (Xa.1 b p hp), c, fun x hx => oneAb_sound (Xa.1 d x hx), by rw [Y15 enc k hk, e]⟩
 split at hg
 ·exact key hg
 ·split at hg
  ·split at hg
   ·exact fun hc => key (hg hc)
   ·exact hg
  ·exact hg
theorem OpsW.buildTI (ys : List α) (ho : o.op = .buildSlice t len ps.toArray) (hgu : o.guard = none) (hd : o.dst.all (· < N) = true)
  (E : Elem P t e k bytes z) (hk : ∀ a, (enc a).length = k) (hlen : len * k ≤ 16777216)
  (hg : AllP (glAll (rdo env) (ps.map (·.2))) ∧ (ps.all fun p => okCb h (st (rdo env p.2))) = true ∧ Y46 h (fun i => some (i * k, k)) (Y3r z len) (ps.map fun p => (p.1, st (rdo env p.2))) = some ((ys.flatMap enc).map .im) ∧ (((ys.flatMap enc).map AV.im).all (oneAb h)) = true ∧ len = ys.length)
  (hr : OpsW P N ops rest (setd env o.dst (slA enc ys)) h K) : OpsW P N ops (o :: rest) env h K := by
 have hq := Quiet.buildTI (ops := ops) (env := env) (h := h) ys ho E hk hlen (by unfold gpo; rw [hgu]; exact hg)
 have e1 : gav ops env o (.im (.sl (ys.flatMap enc) len)) = slA enc ys := by unfold gav; rw [hgu, hg.2.2.2.2]
 rw [e1] at hq
 exact OpsW.quiet hd hq hr
theorem QOps.buildTI {K : Env → Prop} (ys : List α) (ho : o.op = .buildSlice t len ps.toArray) (hgu : o.guard = none)
  (E : Elem P t e k bytes z) (hk : ∀ a, (enc a).length = k) (hlen : len * k ≤ 16777216)
  (hg : AllP (glAll (rdo env) (ps.map (·.2))) ∧ (ps.all fun p => okCb h (st (rdo env p.2))) = true ∧ Y46 h (fun i => some (i * k, k)) (Y3r z len) (ps.map fun p => (p.1, st (rdo env p.2))) = some ((ys.flatMap enc).map .im) ∧ (((ys.flatMap enc).map AV.im).all (oneAb h)) = true ∧ len = ys.length)
  (hr : QOps P ops h rest (setd env o.dst (slA enc ys)) K) : QOps P ops h (o :: rest) env K := by
 have hq := Quiet.buildTI (ops := ops) (env := env) (h := h) ys ho E hk hlen (by unfold gpo; rw [hgu]; exact hg)
 have e1 : gav ops env o (.im (.sl (ys.flatMap enc) len)) = slA enc ys := by unfold gav; rw [hgu, hg.2.2.2.2]
 rw [e1] at hq
 exact ⟨_, hq, hr⟩
end
end
def bytesOf (s : ByteArray) : List Int := s.data.toList.map fun b => ((b.toNat : Nat) : Int)
theorem bytesOf_len (s : ByteArray) : (bytesOf s).length = s.size := by simp [bytesOf]
section
variable {P : Program} {N : Nat} {ops : Array Oper} {env : Env} {h : Hp} {Q : Exit → Env → Hp → Prop}
theorem AW.trim {c : Code} (l : List Nat) (env' : Env) (he : env.keep l = env') (hw : AW P N c env' h Q) : AW P N c env h Q := AW.keep l (by rw [he]; exact hw)
def PartOf (n k : Nat) (cs : List IV) (lo hi : Nat) (x : IV) : Prop := x = .sl ((cs.drop (lo * k)).take ((hi - lo) * k)) (hi - lo)
theorem T.slice' {ρ : Operand → AV} {x : Operand} {lo hi : Option Operand} {t : TypeId} {cs : List IV} {n k : Nat} {y : IV} (hx : st (ρ x) = .im (.sl cs n)) (hg : gd (ρ x)) (hgl : gdo ρ lo) (hgh : gdo ρ hi) (ht : tk P t = 1) (hk : ez P t = some k)
  (h1 : okLo n (hi.map fun y => st (ρ y))) (h2 : okLo (Y29 n (hi.map fun y => st (ρ y))) (lo.map fun y => st (ρ y)))
  (hd : PartOf n k cs (Y4v (lo.map fun y => st (ρ y))) (Y29 n (hi.map fun y => st (ρ y))) y) :
  po P h ρ (.slice t x lo hi none) ∧ pv P h ρ (.slice t x lo hi none) = .im y := by
 unfold PartOf at hd
 rw [hd]
 exact T.slice hx hg hgl hgh ht hk h1 h2 rfl rfl
theorem sl_hi {α : Type} (enc : α → List IV) (k : Nat) (hk : ∀ a, (enc a).length = k) (l : List α) (hi : Int) (h1 : 0 ≤ hi ∧ hi ≤ (l.length : Int)) :
  PartOf l.length k (l.flatMap enc) 0 hi.toNat (.sl ((l.take hi.toNat).flatMap enc) (l.take hi.toNat).length) := by
 unfold PartOf
 rw [fm_part enc k hk]
 simp
 omega
inductive ResV (P : Program) (h : Hp) (env : Env) : List ResultVar → List AV → Prop
 | nil : ResV P h env [] []
 | tmp {t : Nat} {rs : List ResultVar} {xs : List AV} : ResV P h env rs xs → ResV P h env (.tmp t :: rs) (rd env t :: xs)
 | cell {a t r ver off : Nat} {rs : List ResultVar} {xs : List AV} : rd env a = .ref r ver off → ob P h (fun _ => .ref r ver off) (.load t (.tmp 0)) = some [] → ResV P h env rs xs → ResV P h env (.cell a t :: rs) (Y4u h (lz P t) (.ref r ver off) :: xs)
 | cellW {a t r ver n : Nat} {rt : Rt} {rs : List ResultVar} {xs : List AV} : rd env a = .ref r ver 0 → lz P t = some (some n) → h.at r = some rt → rt.ver = ver → rt.live = true → rt.cs.length = n → ResV P h env rs xs → ResV P h env (.cell a t :: rs) (.agg rt.cs :: xs)
def resOf : List AV → AV
 | [x] => x
 | xs => .tup xs
theorem loadAt_loadVar {t : TypeId} {u v : Value} {w : World} (hl : (Instr.loadAt t u).run P w = .ok v w) {g off : Nat} (hu : u = .pointer (some ⟨g, off, none⟩)) : (do loadVar t (← asAddr u) : Sem Value).run P w = .ok v w := by
 subst hu
 simp [Instr.loadAt, Instr.sureAddr, X6, asAddr] at hl ⊢
 exact hl
def resOne (tmps : Array Value) : ResultVar → Sem Value
 | .tmp t => pure (tmps.getD t undef)
 | .cell b t => do loadVar t (← asAddr (tmps.getD b undef))
theorem results_resOne (fn : Func) (tmps : Array Value) : results fn tmps = (do
  let vs ← fn.results.mapM (resOne tmps)
  pure (if h : vs.size = 1 then vs[0] else .tuple vs)) := by
 unfold results
 congr 2
theorem ResV.run {rs : List ResultVar} {xs : List AV} (hv : ResV P h env rs xs) {X : Ctx} {a : Act} {w : World} {ι : Nat → Bk} (H : Hol X h ι w) (S : Slots N env h ι (Own X.B h ι) a w) :
  ∃ vs : List Value, (rs.mapM (resOne a.tmps)).run P w = .ok vs w ∧ VRL w h ι (Own X.B h ι) xs vs := by
 induction hv with
 | nil => exact ⟨[], by simp, by simp [VRL]⟩
 | @tmp t rs xs _ ih =>
  obtain ⟨vs, h1, h2⟩ := ih
  refine ⟨a.tmps.getD t undef :: vs, ?_, by simp only [VRL]; exact ⟨_, _, rfl, S.at_ t, h2⟩⟩
  rw [List.mapM_cons, X6]
  have e : (resOne a.tmps (.tmp t)).run P w = .ok (a.tmps.getD t undef) w := by simp only [resOne, Xz]
  rw [e]
  simp only [Xi, X6, h1, Xz]
 | @cell b t r ver off rs xs h3 h4 _ ih =>
  obtain ⟨vs, h1, h2⟩ := ih
  have hp := ob_sound h4 trivial
  have hb := S.at_ b
  rw [h3] at hb
  have hx : VR w h ι (Own X.B h ι) (.ref r ver off) (a.tmps.getD b undef) := hb
  obtain ⟨v, h5, h6⟩ := load_sound (P := P) (t := t) H hp.2 hx
  have hn : (h.at r).map (·.ver) = some ver := by
   have hpl := hp.2
   simp only [st] at hpl
   unfold poLoad at hpl
   split at hpl
   ·rename_i e; cases e
   ·rename_i e; cases e
   ·rename_i e
    cases e
    split at hpl
    ·rename_i rt hrt; rw [hrt]; simp [hpl.1]
    ·exact hpl.elim
   ·rename_i e
    cases e
    split at hpl
    ·rename_i rt hrt; rw [hrt]; simp [hpl.1]
    ·exact hpl.elim
   ·exact hpl.elim
  obtain ⟨rt, g, _, _, _, hu⟩ := Y4b hx hn
  refine ⟨v :: vs, ?_, by simp only [VRL]; exact ⟨_, _, rfl, h6, h2⟩⟩
  have h7 : (resOne a.tmps (.cell b t)).run P w = .ok v w := loadAt_loadVar h5 hu
  rw [List.mapM_cons, X6, h7]
  simp only [Xi, X6, h1, Xz]
 | @cellW b t r ver n rt rs xs h3 h4 h5 h6 h7 h8 _ ih =>
  obtain ⟨vs, h1, h2⟩ := ih
  have hx := S.at_ b
  rw [h3] at hx
  have hpl : poLoad h (lz P t) (.ref r ver 0) := by
   unfold poLoad
   rw [h4]
   simp only [h5]
   exact ⟨h6, h7, by omega⟩
  obtain ⟨v, g5, g6⟩ := load_sound (P := P) (t := t) H hpl hx
  obtain ⟨rt', g, _, _, _, hu⟩ := Y4b hx (by simp [h5, h6])
  have e : Y4u h (lz P t) (.ref r ver 0) = .agg rt.cs := by
   unfold Y4u
   rw [h4]
   simp only [h5, List.drop_zero]
   rw [Xt (by omega)]
  rw [e] at g6
  refine ⟨v :: vs, ?_, by simp only [VRL]; exact ⟨_, _, rfl, g6, h2⟩⟩
  have g7 : (resOne a.tmps (.cell b t)).run P w = .ok v w := loadAt_loadVar g5 hu
  rw [List.mapM_cons, X6, g7]
  simp only [Xi, X6, h1, Xz]
theorem Y4t {fn : Func} {rs : List ResultVar} {xs : List AV} {R : AV → Hp → Prop} (hres : fn.results = rs.toArray) (hv : ResV P h env rs xs) (hR : R (resOf xs) h) : Done P fn R .ret env h := by
 refine ⟨resOf xs, fun X a w ι H S => ?_, hR⟩
 obtain ⟨vs, h1, h2⟩ := hv.run H S
 have hlen := h2.length
 refine ⟨if h : vs.length = 1 then vs[0] else .tuple vs.toArray, ?_, ?_⟩
 ·rw [results_resOne, hres, List.mapM_toArray, X6]
  have e : (Functor.map List.toArray (rs.mapM (resOne a.tmps)) : Sem (Array Value)).run P w = .ok vs.toArray w := by
   rw [map_eq_pure_bind, X6, h1]
   simp only [Xi, Xz]
  rw [e]
  simp only [Xi, Xz, X1d, List.getElem_toArray]
 ·cases xs with
  | nil =>
   simp at hlen
   subst hlen
   simp only [resOf, VR]
   exact ⟨[], rfl, h2⟩
  | cons x xs =>
   cases xs with
   | nil =>
    simp only [VRL] at h2
    obtain ⟨v, l', rfl, hx, rfl⟩ := h2
    simpa [resOf] using hx
   | cons y ys =>
    have : ¬ vs.length = 1 := by simp at hlen; omega
    rw [dif_neg this]
    simp only [resOf, VR]
    exact ⟨vs, rfl, h2⟩
theorem Y0f {h h' : Hp} (ha : ((h'.map (·.1)).all fun i => (h.map (·.1)).all fun j => !(i == j)) = true) : ∀ i rt, h'.at i = some rt → h.at i = none := by
 intro i rt hi
 cases hh : h.at i with
 | none => rfl
 | some rt2 =>
  have := Xa.1 (Xa.1 ha i (Y4l hi)) i (Y4l hh)
  simp at this
end
section
variable {P : Program} {N : Nat} {ops : Array Oper} {env : Env} {h : Hp}
def reachB (ops : Array Oper) : Nat → Nat → Nat → Bool
 | 0, _, _ => false
 | f + 1, i, j => match ops[i]? with
  | none => false
  | some o => (o.after.any fun e => Region.binds .any e && e.on == j) || (o.after.any fun e => Region.binds .any e && reachB ops f e.on j)
theorem Y53 {S : Nat → Bool} (down : ∀ (k : Nat) (o : Oper), S k = true → ops[k]? = some o → ∀ e ∈ o.after, Region.binds .any e = true → S e.on = true) :
  ∀ (f i j : Nat) (o : Oper), ops[i]? = some o → (∀ e ∈ o.after, Region.binds .any e = true → S e.on = true) → reachB ops f i j = true → S j = true
 | 0, i, j, o, ho, hp, h => by simp [reachB] at h
 | f + 1, i, j, o, ho, hp, h => by
  unfold reachB at h
  simp only [ho, X0b] at h
  rcases h with h | h
  ·obtain ⟨e, he, hb⟩ := X1c.1 h
   simp only [X3, beq_iff_eq] at hb
   rw [← hb.2]
   exact hp e he hb.1
  ·obtain ⟨e, he, hb⟩ := X1c.1 h
   simp only [X3] at hb
   have hS := hp e he hb.1
   cases hoe : ops[e.on]? with
   | none =>
    cases f with
    | zero => simp [reachB] at hb
    | succ f => simp [reachB, hoe] at hb
   | some oe => exact Y53 down f e.on j oe hoe (down e.on oe hS hoe) hb.2
theorem unlisted_lt' {n i : Nat} {listed : Array Bool} (hi : i < n) (hn : n ≤ listed.size) (hu : listed.getD i true = false) :
  ((List.range n).filter fun j => !(listed.setIfInBounds i true).getD j true).length < ((List.range n).filter fun j => !listed.getD j true).length := by
 have e : ((List.range n).filter fun j => !(listed.setIfInBounds i true).getD j true) = ((List.range n).filter fun j => !listed.getD j true).filter (· != i) := by
  rw [List.filter_filter]
  apply List.filter_congr
  intro j hj
  simp only [X5]
  by_cases hij : i = j
  ·subst hij
   rw [Xg (by omega)]
   simp
  ·rw [Xl hij]
   have : (j != i) = true := by simp; omega
   simp [this]
 rw [e]
 apply List.length_filter_lt_length_iff_exists.2
 exact ⟨i, X0n.2 ⟨Xo.2 hi, by simp [hu]⟩, by simp⟩
end
def okInt : IntKind → Int → Prop
 | .u8, n => 0 ≤ n ∧ n ≤ 255
 | .u16, n => 0 ≤ n ∧ n ≤ 65535
 | .u32, n => 0 ≤ n ∧ n ≤ 4294967295
 | .u64, n => 0 ≤ n ∧ n ≤ 18446744073709551615
 | .i8, n => -128 ≤ n ∧ n ≤ 127
 | .i16, n => -32768 ≤ n ∧ n ≤ 32767
 | .i32, n => -2147483648 ≤ n ∧ n ≤ 2147483647
 | .i64, n => -9223372036854775808 ≤ n ∧ n ≤ 9223372036854775807
theorem okInt_of {k : IntKind} {n : Int} (h : (Lit.int k n).wf = true) : okInt k n := by
 cases k <;> simpa [okInt, Lit.wf, IntKind.min, IntKind.max, IntKind.signed, IntKind.bits] using h
def okList {α : Type} (ok : α → Prop) (l : List α) : Prop := (∀ x ∈ l, ok x) ∧ l.length ≤ maxLen
def Typ (P : Program) (t : TypeId) {α : Type} (enc : α → List IV) (ok : α → Prop) : Prop := ∀ xs, Shp P t xs → ∃ v, xs = enc v ∧ ok v
section
variable {P : Program} {α : Type} {enc : α → List IV} {ok : α → Prop}
theorem Typ.int {t : TypeId} {k : IntKind} (ht : P.underlying t = some (.int k)) : Typ P t (eI k) (okInt k) := fun xs hs => by
 obtain ⟨n, rfl, hn⟩ := hs.int_inv ht
 exact ⟨n, rfl, okInt_of hn⟩
theorem Typ.each {e : TypeId} (he : Typ P e enc ok) : ∀ (xss : List (List IV)), (∀ ys ∈ xss, Shp P e ys) → ∃ l : List α, xss = l.map enc ∧ ∀ x ∈ l, ok x
 | [], _ => ⟨[], rfl, by simp⟩
 | y :: ys, h => by
  obtain ⟨v, rfl, hv⟩ := he y (h y (by simp))
  obtain ⟨l, rfl, hl⟩ := Typ.each he ys fun z hz => h z (by simp [hz])
  exact ⟨v :: l, rfl, fun x hx => by rcases X00.1 hx with rfl | hx; exact hv; exact hl x hx⟩
theorem flatten_map (l : List α) : (l.map enc).flatten = l.flatMap enc := by
 induction l with
 | nil => rfl
 | cons a l ih => simp [Xq, ih]
theorem Typ.sl {t e : TypeId} (ht : P.underlying t = some (.slice e)) (he : Typ P e enc ok) : Typ P t (eL enc) (okList ok) := fun xs hs => by
 obtain ⟨xss, rfl, h1, h2⟩ := hs.sl_inv ht
 obtain ⟨l, rfl, hl⟩ := Typ.each he xss h1
 refine ⟨l, ?_, hl, by simpa using h2⟩
 unfold eL
 rw [flatten_map, X02]
end
def strOf (l : List Int) : ByteArray := l.foldl (fun r n => r.push (UInt8.ofNat n.toNat)) ByteArray.empty
theorem foldl_push (l : List Int) : ∀ r : ByteArray, l.foldl (fun r n => r.push (UInt8.ofNat n.toNat)) r = ⟨r.data ++ (l.map fun n => UInt8.ofNat n.toNat).toArray⟩ := by
 induction l with
 | nil => intro r; simp
 | cons n l ih => intro r; simp only [X11, ih]; simp [ByteArray.push]
theorem strOf_data (l : List Int) : (strOf l).data.toList = l.map fun n => UInt8.ofNat n.toNat := by
 unfold strOf; rw [foldl_push]
 show (#[] ++ (l.map fun (n : Int) => UInt8.ofNat n.toNat).toArray).toList = _
 simp
section
variable {P : Program} {N : Nat} {ops : Array Oper} {env : Env} {h : Hp}
def SlV (h : Hp) (x : AV) : Prop := ∀ (X : Ctx) (ι : Nat → Bk) (w : World) (v : Value), Hol X h ι w → VR w h ι (Own X.B h ι) x v → ∃ ao n c, v = .slice ao n c
theorem SlV.im {cs : List IV} {n : Nat} : SlV h (.im (.sl cs n)) := fun X ι w v H hv => by
 simp only [VR, VRI] at hv
 obtain ⟨ao, cap, l, rfl, _⟩ := hv
 exact ⟨ao, n, cap, rfl⟩
theorem SlV.nil : SlV h (.im (.val (.slice none 0 0))) := fun X ι w v H hv => by
 rw [Y02] at hv
 exact ⟨none, 0, 0, hv⟩
theorem SlV.rsl {r ver off n : Nat} {rt : Rt} (hrt : h.at r = some rt) (hv : rt.ver = ver) : SlV h (.rsl r ver off n) := fun X ι w v H hv' => by
 obtain ⟨rt', _, _, _, ao, c, rfl, _⟩ := VR.rsl_now (k := rt.k) hv' (by simp [hrt, hv])
 exact ⟨ao, n, c, rfl⟩
theorem VRL_ints {w : World} {ι : Nat → Bk} {A : Nat → Prop} {k : IntKind} : ∀ (l : List Int) (vs : List Value), VRL w h ι A ((l.flatMap (eI k)).map .im) vs → vs = l.map (Value.int k)
 | [], vs, hv => by simpa [VRL] using hv
 | n :: l, vs, hv => by
  simp only [Xq, eI, X03, X0a, Xp, VRL] at hv
  obtain ⟨v, l', rfl, hv, hr⟩ := hv
  rw [Y02] at hv
  subst hv
  rw [VRL_ints l l' hr]
  rfl
theorem Quiet.toStr {o : Oper} {s d e : TypeId} {x : Operand} (l : List Int) (ho : o.op = .convert s d x) (hs : P.underlying s = some (.slice e)) (he : P.underlying e = some (.int .u8)) (hd : P.underlying d = some .string)
  (hg : gpo ops env o (gd (rdo env x) ∧ SlV h (st (rdo env x)) ∧ SrcA P h s 1 (st (rdo env x)) l.length ((l.flatMap (eI .u8)).map .im))) : Quiet P ops o env h (gav ops env o (.string (strOf l))) :=
 Y1k hg fun ⟨hgd, hsl, hsrc⟩ X a w ι Q H hop next hn => by
  have hv := (hop x (by simp [ho, Op.operands])).st hgd
  obtain ⟨ao, n, c, hev⟩ := hsl X ι w _ H hv
  obtain ⟨h1, l0, h2, h3, h4, h5⟩ := hsrc.2 X ι w _ H hv
  have hl0 := VRL_ints l l0 h2
  subst hl0
  have hrun : (convert s d (a.eval x)).run P w = .ok (.string (strOf l)) w := by
   have h6 := h5 w rfl
   have h7 := h1 w
   rw [hev] at h6 h7 ⊢
   rw [run_convert_bytes_string w s d e ao n c hs he hd]
   cases ao with
   | none =>
    simp [Builtin.firstCells] at h6
    have : l = [] := by simpa using h6
    subst this
    simp [Conv.bytesToString, strOf]
   | some ad =>
    have hn : n = l.length := by simpa [Builtin.lenOf] using h7
    simp only [Builtin.firstCells, Nat.mul_one] at h6
    rw [hn]
    exact run_bytesToString w ad l.length c l h6
  have hex : (execOp a.eval o).run P w = .ok (.value (.string (strOf l))) w := by
   simp only [execOp, ho, X6, hrun, Xi, Xz]
  simp only [Oper.wp, hex, Oper.upon]
  exact hn _ _ (Below.refl _ _) (by simp [VR, VRI])
theorem OpsW.quietU {o : Oper} {rest : List Oper} {K : Env → Hp → Prop} (x : AV) (hgu : o.guard = none) (hd : o.dst.all (· < N) = true) (hq : Quiet P ops o env h (gav ops env o x)) (hr : OpsW P N ops rest (setd env o.dst x) h K) : OpsW P N ops (o :: rest) env h K := by
 have e : gav ops env o x = x := by unfold gav; rw [hgu]
 rw [e] at hq
 exact OpsW.quiet hd hq hr
theorem QOps.quietU {o : Oper} {rest : List Oper} {K : Env → Prop} (x : AV) (hgu : o.guard = none) (hq : Quiet P ops o env h (gav ops env o x)) (hr : QOps P ops h rest (setd env o.dst x) K) : QOps P ops h (o :: rest) env K := by
 have e : gav ops env o x = x := by unfold gav; rw [hgu]
 rw [e] at hq
 exact ⟨_, hq, hr⟩
theorem gpoU {o : Oper} {φ : Prop} (hgu : o.guard = none) (h : φ) : gpo ops env o φ := by unfold gpo; rw [hgu]; exact h
theorem Quiet.toBytes {o : Oper} {s d e : TypeId} {x : Operand} (b : ByteArray) (ho : o.op = .convert s d x) (hs : P.underlying s = some .string) (hd : P.underlying d = some (.slice e)) (he : P.underlying e = some (.int .u8))
  (hg : gpo ops env o (gd (rdo env x) ∧ st (rdo env x) = .string b)) : Quiet P ops o env h (gav ops env o (slA (eI .u8) (bytesOf b))) :=
 Y1k hg fun ⟨hgd, hsl⟩ X a w ι Q H hop next hn => by
  have hv := (hop x (by simp [ho, Op.operands])).st hgd
  rw [hsl, Y02] at hv
  have hrun := run_bytes_of_string (P := P) w s d e b hs hd he
  have hex : (execOp a.eval o).run P w = .ok (.value (.slice (some ⟨w.heap.size, 0, none⟩) b.size (grownCap w b.size 0 e)))
   (w.drew.alloc (.cells (bytesRow b (grownCap w b.size 0 e)) e ((bytesRow b (grownCap w b.size 0 e)).size, (bytesRow b (grownCap w b.size 0 e)).size + 1))) := by
   simp only [execOp, ho, X6, hv, hrun, Xi, Xz]
  simp only [Oper.wp, hex, Oper.upon]
  have hb0 : Below w.heap.size w w.drew := ⟨rfl, rfl, rfl, Xf _, fun _ _ => rfl⟩
  have hb : Below w.heap.size w (w.drew.alloc (.cells (bytesRow b (grownCap w b.size 0 e)) e ((bytesRow b (grownCap w b.size 0 e)).size, (bytesRow b (grownCap w b.size 0 e)).size + 1))) := hb0.alloc (Xf _) _
  refine hn _ _ hb ?_
  simp only [VR, VRI]
  refine ⟨some ⟨w.heap.size, 0, none⟩, grownCap w b.size 0 e, b.data.toList.map (fun b => Value.int .u8 b.toNat), ?_, ?_, by simp, fun a' ha' => ?_, ?_⟩
  ·rw [bytesOf_len]
  ·rw [bytesOf_len]; exact grownCap_ge _ _ _ _
  ·simp at ha'
   subst ha'
   intro j v hv
   refine ⟨?_, fun ho => by have := H.own_lt ho; simp at this, ?_⟩
   ·rw [Y4s, X05, cell_of_row _ w.heap.size j (bytesRow b (grownCap w b.size 0 e)) e _ (heap_alloc_new w.drew _)]
    have hj := (Xm.1 hv).1
    simp only [X02, X0h] at hj
    unfold bytesRow
    rw [X1f (by simpa using hj)]
    simpa using hv
   ·obtain ⟨c, _, rfl⟩ := X01.1 (X0p hv)
    rfl
  ·unfold bytesOf
   generalize b.data.toList = l
   induction l with
   | nil => simp [VRIL]
   | cons c l ih =>
    simp only [Xp, Xq, eI, X03, X0a, VRIL, VRI]
    exact ⟨_, _, rfl, rfl, ih⟩
end
section
variable {P : Program} {N : Nat} {ops : Array Oper} {env : Env} {h : Hp}
def NoCell (w : World) (g : Nat) : Prop := (∀ a : Addr, a.block = g → w.cell? a = none) ∧ ∀ ents c, w.heap[g]? ≠ some (.map ents c)
theorem Lie.grow {w : World} {A : Nat → Prop} {g : Nat} (hg : NoCell w g) {a : Addr} {l : List Value} (hl : Lie w A a l) : Lie w (fun β => A β ∨ β = g) a l := by
 intro i u hu
 obtain ⟨h1, h2, h3⟩ := hl i u hu
 refine ⟨h1, ?_, h3⟩
 rintro (h4 | h4)
 ·exact h2 h4
 ·have := hg.1 (a.add i) (by rw [add_block]; exact h4)
  rw [this] at h1
  cases h1
mutual
theorem VRI.grow {w : World} {A : Nat → Prop} {g : Nat} (hg : NoCell w g) : ∀ (x : IV) (v : Value), VRI w A x v → VRI w (fun β => A β ∨ β = g) x v
 | .val _, _, h => by simpa only [VRI] using h
 | .sl cs n, v, h => by
  simp only [VRI] at h ⊢
  obtain ⟨ao, cap, l, hv, hn, hnone, hlie, hl⟩ := h
  exact ⟨ao, cap, l, hv, hn, hnone, fun a ha => (hlie a ha).grow hg, VRIL.grow hg cs l hl⟩
 | .mp es, v, h => by
  simp only [VRI] at h ⊢
  obtain ⟨g', ents, c, hv, h1, h2, h3⟩ := h
  exact ⟨g', ents, c, hv, h1, fun h4 => h4.elim h2 fun e => hg.2 ents c (e ▸ h1), h3⟩
theorem VRIL.grow {w : World} {A : Nat → Prop} {g : Nat} (hg : NoCell w g) : ∀ (cs : List IV) (l : List Value), VRIL w A cs l → VRIL w (fun β => A β ∨ β = g) cs l
 | [], _, h => by simpa only [VRIL] using h
 | c :: cs, l, h => by
  simp only [VRIL] at h ⊢
  obtain ⟨v, l', hl, hv, hr⟩ := h
  exact ⟨v, l', hl, VRI.grow hg c v hv, VRIL.grow hg cs l' hr⟩
end
mutual
theorem VR.grow {w : World} {h : Hp} {ι : Nat → Bk} {A : Nat → Prop} {g : Nat} (hg : NoCell w g) : ∀ (x : AV) (v : Value), VR w h ι A x v → VR w h ι (fun β => A β ∨ β = g) x v
 | .any, _, _ => by simp only [VR]
 | .im x, v, hv => by simp only [VR] at hv ⊢; exact VRI.grow hg x v hv
 | .agg cs, v, hv => by
  simp only [VR] at hv ⊢
  obtain ⟨l, hl, hr⟩ := hv
  exact ⟨l, hl, VRL.grow hg cs l hr⟩
 | .tup cs, v, hv => by
  simp only [VR] at hv ⊢
  obtain ⟨l, hl, hr⟩ := hv
  exact ⟨l, hl, VRL.grow hg cs l hr⟩
 | .ipt cs off, v, hv => by
  simp only [VR] at hv ⊢
  obtain ⟨a, l, hl, hlie, hr⟩ := hv
  exact ⟨a, l, hl, hlie.grow hg, VRIL.grow hg cs l hr⟩
 | .ref r ver off, v, hv => by simpa only [VR] using hv
 | .rsl r ver off n, v, hv => by simpa only [VR] using hv
 | .cnd g' x, v, hv => by simp only [VR] at hv ⊢; exact ⟨fun hc => VR.grow hg x v (hv.1 hc), hv.2⟩
 | .fnv f cs, v, hv => by
  simp only [VR] at hv ⊢
  obtain ⟨l, hl, hr⟩ := hv
  exact ⟨l, hl, VRL.grow hg cs l hr⟩
theorem VRL.grow {w : World} {h : Hp} {ι : Nat → Bk} {A : Nat → Prop} {g : Nat} (hg : NoCell w g) : ∀ (cs : List AV) (l : List Value), VRL w h ι A cs l → VRL w h ι (fun β => A β ∨ β = g) cs l
 | [], _, hv => by simpa only [VRL] using hv
 | c :: cs, l, hv => by
  simp only [VRL] at hv ⊢
  obtain ⟨v, l', hl, hv, hr⟩ := hv
  exact ⟨v, l', hl, VR.grow hg c v hv, VRL.grow hg cs l' hr⟩
end
theorem own_or (B : Nat → Prop) (h : Hp) (ι : Nat → Bk) (g : Nat) : Own (fun β => B β ∨ β = g) h ι = fun β => Own B h ι β ∨ β = g := by
 funext β
 unfold Own
 apply propext
 constructor
 ·rintro ((h1 | h1) | h1)
  ·exact .inl (.inl h1)
  ·exact .inr h1
  ·exact .inl (.inr h1)
 ·rintro ((h1 | h1) | h1)
  ·exact .inl (.inl h1)
  ·exact .inr h1
  ·exact .inl (.inr h1)
theorem Slots.grow {X : Ctx} {ι : Nat → Bk} {a : Act} {w : World} {g : Nat} (hg : NoCell w g) (S : Slots N env h ι (Own X.B h ι) a w) : Slots N env h ι (Own (fun β => X.B β ∨ β = g) h ι) a w :=
 ⟨S.size, S.defers, fun i => by rw [own_or]; exact VR.grow hg _ _ (S.at_ i)⟩
end
end Go.Abs
