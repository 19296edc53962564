/-
  Own work. The generated walks, part 2: states told anew (roots renamed, given up or begun), joins and loops by their typed continuations.
-/
import Derived.Test.YtlhpkjgpcenfdaaDoorGen1
set_option linter.unusedSimpArgs false
set_option linter.unusedVariables false
set_option linter.unusedSimpArgs false
set_option linter.unusedVariables false
namespace Go.Abs
open Go.RowKit

mutual
/-- A value of the state with the roots `h`, and how the state with the roots `h'` tells it; `φ` tells which root of `h` a root of `h'` is (none: a nil slice). -/
inductive Cst (h h' : Hp) (φ : Nat → Option Nat) : AV → AV → Prop
  | any {x : AV} : Cst h h' φ x .any
  | im {x : IV} : Cst h h' φ (.im x) (.im x)
  | nil : Cst h h' φ (.im (.val (.slice none 0 0))) (.im (.sl [] 0))
  | agg {cs ds : List AV} : CstL h h' φ cs ds → Cst h h' φ (.agg cs) (.agg ds)
  | tup {cs ds : List AV} : CstL h h' φ cs ds → Cst h h' φ (.tup cs) (.tup ds)
  | ipt {cs : List IV} {off : Nat} : Cst h h' φ (.ipt cs off) (.ipt cs off)
  | ref {r r' ver ver' off : Nat} {rt rt' : Rt} : h.at r = some rt → h'.at r' = some rt' → φ r' = some r → rt.ver = ver → rt'.ver = ver' → Cst h h' φ (.ref r ver off) (.ref r' ver' off)
  | rsl {r r' ver ver' off n : Nat} {rt rt' : Rt} : h.at r = some rt → h'.at r' = some rt' → φ r' = some r → rt.ver = ver → rt'.ver = ver' → rt'.k = rt.k → Cst h h' φ (.rsl r ver off n) (.rsl r' ver' off n)
  | nilr {r' ver' : Nat} {rt' : Rt} : h'.at r' = some rt' → φ r' = none → rt'.ver = ver' → Cst h h' φ (.im (.val (.slice none 0 0))) (.rsl r' ver' 0 0)
  | frz {r ver off n : Nat} {rt : Rt} {ys : List IV} : h.at r = some rt → rt.ver = ver → rt.live = true → (rt.cs.drop off).take (n * rt.k) = ys.map .im → ys.length = n * rt.k → (∀ r' rt', h'.at r' = some rt' → φ r' ≠ some r) → Cst h h' φ (.rsl r ver off n) (.im (.sl ys n))
  | cnd {g : Bool} {x y : AV} : Cst h h' φ x y → Cst h h' φ (.cnd g x) (.cnd g y)
inductive CstL (h h' : Hp) (φ : Nat → Option Nat) : List AV → List AV → Prop
  | nil : CstL h h' φ [] []
  | cons {x y : AV} {xs ys : List AV} : Cst h h' φ x y → CstL h h' φ xs ys → CstL h h' φ (x :: xs) (y :: ys)
end

theorem CstL.ims {h h' : Hp} {φ : Nat → Option Nat} : ∀ (ys : List IV), CstL h h' φ (ys.map .im) (ys.map .im)
  | [] => .nil
  | y :: ys => .cons .im (CstL.ims ys)

/-- The roots. -/
structure RtC (h h' : Hp) (φ : Nat → Option Nat) : Prop where
  root : ∀ r' rt', h'.at r' = some rt' → match φ r' with
    | some r => ∃ rt, h.at r = some rt ∧ rt'.live = rt.live ∧ rt'.e = rt.e ∧ rt'.k = rt.k ∧ CstL h h' φ rt.cs rt'.cs
    | none => rt'.cs = []
  inj : ∀ r' s' rt' st', h'.at r' = some rt' → h'.at s' = some st' → φ r' = φ s' → φ r' ≠ none → r' = s'
  pin : ∀ r rt, h.at r = some rt → (2000 ≤ r ∧ r < 3000) → φ r = some r ∧ ∃ rt', h'.at r = some rt' ∧ (rt'.ver = 0 → rt.ver = 0)

def iotaC (ι : Nat → Bk) (φ : Nat → Option Nat) (r' : Nat) : Bk := match φ r' with
  | some r => ι r
  | none => ⟨none, 0⟩

theorem RtC.own {X : Ctx} {h h' : Hp} {φ : Nat → Option Nat} {ι : Nat → Bk} (R : RtC h h' φ) (β : Nat) (ho : Own X.B h' (iotaC ι φ) β) : Own X.B h ι β := by
  rcases ho with hb | ⟨r', rt', hr', hl, hg⟩
  · exact .inl hb
  · have h1 := R.root r' rt' hr'
    unfold iotaC at hg
    cases hφ : φ r' with
    | none => rw [hφ] at hg; simp at hg
    | some r =>
      simp only [hφ] at h1 hg
      obtain ⟨rt, h2, h3, _⟩ := h1
      exact .inr ⟨r, rt, h2, by rw [← h3]; exact hl, hg⟩

mutual
theorem VR.cast {X : Ctx} {w : World} {h h' : Hp} {φ : Nat → Option Nat} {ι : Nat → Bk} (H : Hol X h ι w) (R : RtC h h' φ) : ∀ (x y : AV) (v : Value), Cst h h' φ x y → VR w h ι (Own X.B h ι) x v → VR w h' (iotaC ι φ) (Own X.B h' (iotaC ι φ)) y v
  | x, .any, v, _, _ => by simp only [VR]
  | _, _, v, .im (x := x), hv => by
    simp only [VR] at hv ⊢
    exact VRI.keep (fun β _ hA => ⟨rfl, fun ho => hA (R.own β ho)⟩) x v hv
  | _, _, v, .nil, hv => by
    rw [VR.val_iff] at hv
    subst hv
    simp only [VR, VRI]
    exact ⟨none, 0, [], rfl, Nat.le_refl _, by simp, fun a ha => by simp at ha, by simp [VRIL]⟩
  | _, _, v, .agg (cs := cs) (ds := ds) hc, hv => by
    simp only [VR] at hv ⊢
    obtain ⟨l, hl, hr⟩ := hv
    exact ⟨l, hl, VRL.cast H R cs ds l hc hr⟩
  | _, _, v, .tup (cs := cs) (ds := ds) hc, hv => by
    simp only [VR] at hv ⊢
    obtain ⟨l, hl, hr⟩ := hv
    exact ⟨l, hl, VRL.cast H R cs ds l hc hr⟩
  | _, _, v, .ipt, hv => by
    simp only [VR] at hv ⊢
    obtain ⟨a, l, hl, hlie, hr⟩ := hv
    exact ⟨a, l, hl, hlie.keep (fun β _ hA => ⟨rfl, fun ho => hA (R.own β ho)⟩), VRIL.keep (fun β _ hA => ⟨rfl, fun ho => hA (R.own β ho)⟩) _ l hr⟩
  | _, _, v, .ref (rt := rt) (rt' := rt') h1 h2 h3 h4 h5, hv => by
    simp only [VR] at hv ⊢
    obtain ⟨rt0, hrt, hle, himp⟩ := hv
    rw [h1] at hrt
    cases hrt
    refine ⟨rt', h2, by omega, fun _ => ?_⟩
    have := himp h4.symm
    unfold iotaC
    rw [h3]
    exact this
  | _, _, v, .rsl (rt := rt) (rt' := rt') h1 h2 h3 h4 h5 h6, hv => by
    simp only [VR] at hv ⊢
    obtain ⟨rt0, hrt, hle, himp⟩ := hv
    rw [h1] at hrt
    cases hrt
    refine ⟨rt', h2, by omega, fun _ => ?_⟩
    have := himp h4.symm
    unfold iotaC
    rw [h3, h6]
    exact this
  | _, _, v, .nilr (rt' := rt') h1 h2 h3, hv => by
    rw [VR.val_iff] at hv
    subst hv
    simp only [VR]
    refine ⟨rt', h1, by omega, fun _ => ?_⟩
    unfold iotaC
    rw [h2]
    exact ⟨none, 0, rfl, Nat.le_refl _, .inl ⟨rfl, rfl, rfl, rfl, rfl⟩⟩
  | _, _, v, .frz (r := r) (rt := rt) h1 h2 h3 h4 h5 h6, hv => by
    have hsrc := ArgS.slice (h := h) (bs := [r]) (by simp) h1 h2 h3 h4 h5 X ι w _ H hv
    refine VR.pure (fun β _ hA => ⟨rfl, fun ho => hA ?_⟩) _ _ rfl hsrc
    refine ⟨R.own β ho, fun s hs hg => ?_⟩
    simp at hs
    subst hs
    rcases ho with hb | ⟨r', rt', hr', hl, hg'⟩
    · exact (H.place s rt β h1 h3 hg).1 hb
    · have h7 := R.root r' rt' hr'
      unfold iotaC at hg'
      cases hφ : φ r' with
      | none => rw [hφ] at hg'; simp at hg'
      | some q =>
        simp only [hφ] at h7 hg'
        obtain ⟨rt2, h8, h9, _⟩ := h7
        have hq := H.inj q s rt2 rt β h8 h1 (by rw [← h9]; exact hl) h3 hg' hg
        subst hq
        exact h6 r' rt' hr' hφ
  | _, _, v, .cnd (x := x) (y := y) hc, hv => by
    simp only [VR] at hv ⊢
    exact ⟨fun hg => VR.cast H R x y v hc (hv.1 hg), hv.2⟩
theorem VRL.cast {X : Ctx} {w : World} {h h' : Hp} {φ : Nat → Option Nat} {ι : Nat → Bk} (H : Hol X h ι w) (R : RtC h h' φ) : ∀ (xs ys : List AV) (l : List Value), CstL h h' φ xs ys → VRL w h ι (Own X.B h ι) xs l → VRL w h' (iotaC ι φ) (Own X.B h' (iotaC ι φ)) ys l
  | _, _, l, .nil, hv => by simpa only [VRL] using hv
  | _, _, l, .cons (x := x) (y := y) (xs := xs) (ys := ys) hc hs, hv => by
    simp only [VRL] at hv ⊢
    obtain ⟨v, l', hl, hv, hr⟩ := hv
    exact ⟨v, l', hl, VR.cast H R x y v hc hv, VRL.cast H R xs ys l' hs hr⟩
end

theorem CstL.length {h h' : Hp} {φ : Nat → Option Nat} : ∀ {xs ys : List AV}, CstL h h' φ xs ys → xs.length = ys.length
  | _, _, .nil => rfl
  | _, _, .cons _ hs => by simp [CstL.length hs]

theorem Hol.cast {X : Ctx} {w : World} {h h' : Hp} {φ : Nat → Option Nat} {ι : Nat → Bk} (H : Hol X h ι w) (R : RtC h h' φ) : Hol X h' (iotaC ι φ) w where
  roots r' rt' hr' hl := by
    have h1 := R.root r' rt' hr'
    cases hφ : φ r' with
    | none =>
      simp only [hφ] at h1
      left
      unfold iotaC
      rw [hφ]
      exact ⟨rfl, h1, rfl⟩
    | some r =>
      simp only [hφ] at h1
      obtain ⟨rt, h2, h3, h4, h5, h6⟩ := h1
      have e : iotaC ι φ r' = ι r := by unfold iotaC; rw [hφ]
      rw [e]
      have hlen := h6.length
      rcases H.roots r rt h2 (by rw [← h3]; exact hl) with ⟨c1, c2, c3⟩ | ⟨g, arr, c1, c2, c3, c4, c5, c6⟩
      · left
        refine ⟨c1, ?_, c3⟩
        rw [c2] at hlen
        exact List.eq_nil_of_length_eq_zero hlen.symm
      · right
        refine ⟨g, arr, c1, by rw [h4]; exact c2, by rw [h5]; exact c3, c4, ?_, ?_⟩
        · rw [← hlen]; exact VRL.cast H R _ _ _ h6 c5
        · rw [← hlen]; exact c6
  inj r' s' rt' st' g hr hs hlr hls hgr hgs := by
    have h1 := R.root r' rt' hr
    have h2 := R.root s' st' hs
    unfold iotaC at hgr hgs
    cases hφ : φ r' with
    | none => rw [hφ] at hgr; simp at hgr
    | some r =>
      cases hψ : φ s' with
      | none => rw [hψ] at hgs; simp at hgs
      | some s =>
        simp only [hφ] at h1 hgr
        simp only [hψ] at h2 hgs
        obtain ⟨rt, a1, a2, _⟩ := h1
        obtain ⟨st, b1, b2, _⟩ := h2
        have := H.inj r s rt st g a1 b1 (by rw [← a2]; exact hlr) (by rw [← b2]; exact hls) hgr hgs
        subst this
        exact R.inj r' s' rt' st' hr hs (by rw [hφ, hψ]) (by rw [hφ]; simp)
  place r' rt' g hr hl hg := by
    have h1 := R.root r' rt' hr
    unfold iotaC at hg
    cases hφ : φ r' with
    | none => rw [hφ] at hg; simp at hg
    | some r =>
      simp only [hφ] at h1 hg
      obtain ⟨rt, a1, a2, _⟩ := h1
      exact H.place r rt g a1 (by rw [← a2]; exact hl) hg
  pin r b k hp := by
    obtain ⟨h1, rt, h2, h3⟩ := H.pin r b k hp
    obtain ⟨h4, rt', h5, h6⟩ := R.pin r rt h2 h1
    have h7 := R.root r rt' h5
    rw [h4] at h7
    obtain ⟨rt2, b1, _, _, b4, _⟩ := h7
    rw [h2] at b1
    cases b1
    refine ⟨h1, rt', h5, fun hv => ?_⟩
    unfold iotaC
    rw [h4, b4]
    exact h3 (h6 hv)
  os := H.os
  tape := H.tape
  output := H.output
  size := H.size
  frame := H.frame
  old := H.old
  glob := H.glob

/-- The slots. -/
inductive EnvC (h h' : Hp) (φ : Nat → Option Nat) (env : Env) : Env → Prop
  | nil : EnvC h h' φ env []
  | cons {i : Nat} {v : AV} {r : Env} : Cst h h' φ (rd env i) v → EnvC h h' φ env r → EnvC h h' φ env ((i, v) :: r)

theorem EnvC.all {h h' : Hp} {φ : Nat → Option Nat} {env : Env} : ∀ {env' : Env}, EnvC h h' φ env env' → ∀ i, Cst h h' φ (rd env i) (rd env' i)
  | _, .nil, i => .any
  | _, .cons (i := j) hc hr, i => by
    simp only [rd]
    by_cases hj : j = i
    · subst hj; rw [if_pos rfl]; exact hc
    · rw [if_neg hj]; exact EnvC.all hr i

/-- One state is told anew by another one. -/
def StC (env : Env) (h : Hp) (env' : Env) (h' : Hp) : Prop := ∃ φ, RtC h h' φ ∧ EnvC h h' φ env env'

section
variable {P : Program} {N : Nat} {ops : Array Oper} {env : Env} {h : Hp} {Q : Exit → Env → Hp → Prop}

theorem Slots.cast {X : Ctx} {w : World} {h' : Hp} {env' : Env} {φ : Nat → Option Nat} {ι : Nat → Bk} {a : Act} (H : Hol X h ι w) (R : RtC h h' φ) (E : EnvC h h' φ env env') (S : Slots N env h ι (Own X.B h ι) a w) :
    Slots N env' h' (iotaC ι φ) (Own X.B h' (iotaC ι φ)) a w :=
  ⟨S.size, S.defers, fun i => VR.cast H R _ _ _ (E.all i) (S.at_ i)⟩

theorem AW.recast {c : Code} {env' : Env} {h' : Hp} (hs : StC env h env' h') (hw : AW P N c env' h' Q) : AW P N c env h Q := by
  obtain ⟨φ, R, E⟩ := hs
  intro X a w ι H S
  exact hw X a w _ (H.cast R) (Slots.cast H R E S)

theorem OpsW.recast {l : List Oper} {K : Env → Hp → Prop} {env' : Env} {h' : Hp} (hs : StC env h env' h') (hw : OpsW P N ops l env' h' K) : OpsW P N ops l env h K := by
  obtain ⟨φ, R, E⟩ := hs
  intro X a w ι Q H S hQ
  exact hw X a w _ Q (H.cast R) (Slots.cast H R E S) hQ

/-- Where ways meet. -/
theorem AW.joinK {c z : Code} {α ρ : Type} (K : α → Option ρ) (r : ρ) (E : α → Env) (Gh : α → Hp)
    (hc : AW P N c env h (Ex.then (fun e h => ∃ y, K y = some r ∧ StC e h (E y) (Gh y)) Q)) (hz : ∀ y, K y = some r → AW P N z (E y) (Gh y) Q) : AW P N (.seq c z) env h Q :=
  AW.seq (AW.mono hc fun x e h hq => by
    cases x with
    | normal =>
      obtain ⟨y, hy, hs⟩ := hq
      exact AW.recast hs (hz y hy)
    | _ => exact hq)

theorem toJoin {α ρ : Type} {K : α → Option ρ} {r : ρ} {E : α → Env} {Gh : α → Hp} {e : Env} {h : Hp} (y : α) (hy : K y = some r) (hs : StC e h (E y) (Gh y)) : ∃ y, K y = some r ∧ StC e h (E y) (Gh y) := ⟨y, hy, hs⟩

theorem AW.iterK {c : Code} {S R : Type} (b : (S → Option R) → S → Option R) (r : R) (E : S → Env) (Gh : S → Hp)
    (body : ∀ (loop : S → Option R) (s : S), b loop s = some r → AW P N c (E s) (Gh s) (Ex.then (fun e h => ∃ s', loop s' = some r ∧ StC e h (E s') (Gh s')) Q))
    (n : Nat) (s : S) (hi : iter b n s = some r) (hs : StC env h (E s) (Gh s)) : AW P N (.loop c) env h Q := by
  refine AW.loop (α := Nat × S × Env × Hp) (fun x => x.2.2.1) (fun x => x.2.2.2) (fun x => iter b x.1 x.2.1 = some r ∧ StC x.2.2.1 x.2.2.2 (E x.2.1) (Gh x.2.1)) (fun x => x.1) (n, s, env, h) ⟨hi, hs⟩
    (fun i => .inr rfl) (fun i => rfl) ?_
  rintro ⟨n, s, e, h⟩ ⟨hi, hs⟩
  refine AW.recast hs ?_
  cases n with
  | zero => simp [iter] at hi
  | succ n =>
    refine AW.mono (body (iter b n) s hi) fun x e' h' hq => ?_
    cases x with
    | normal =>
      obtain ⟨s', h1, h2⟩ := hq
      exact ⟨(n, s', e', h'), ⟨h1, h2⟩, by simp, fun i => .inr rfl, fun i => rfl⟩
    | _ => exact hq

/-- The proofs of the roots' part. -/
inductive RtsC (h h' : Hp) (φ : Nat → Option Nat) : Hp → Prop
  | nil : RtsC h h' φ []
  | new {r' ver' e k : Nat} {live : Bool} {l : Hp} : φ r' = none → RtsC h h' φ l → RtsC h h' φ ((r', ⟨ver', live, e, k, []⟩) :: l)
  | old {r r' : Nat} {rt rt' : Rt} {l : Hp} : φ r' = some r → h.at r = some rt → rt'.live = rt.live → rt'.e = rt.e → rt'.k = rt.k → CstL h h' φ rt.cs rt'.cs → RtsC h h' φ l → RtsC h h' φ ((r', rt') :: l)

theorem RtsC.root {h h' : Hp} {φ : Nat → Option Nat} : ∀ {l : Hp}, RtsC h h' φ l → ∀ r' rt', l.at r' = some rt' → match φ r' with
    | some r => ∃ rt, h.at r = some rt ∧ rt'.live = rt.live ∧ rt'.e = rt.e ∧ rt'.k = rt.k ∧ CstL h h' φ rt.cs rt'.cs
    | none => rt'.cs = []
  | _, .nil, r', rt', hr => by simp [Hp.at] at hr
  | _, .new (r' := q) h1 hl, r', rt', hr => by
    simp only [Hp.at] at hr
    split at hr
    · rename_i he; subst he; cases hr; rw [h1]
    · exact RtsC.root hl r' rt' hr
  | _, .old (r := r) (r' := q) (rt := rt) h1 h2 h3 h4 h5 h6 hl, r', rt', hr => by
    simp only [Hp.at] at hr
    split at hr
    · rename_i he; subst he; cases hr; rw [h1]; exact ⟨rt, h2, h3, h4, h5, h6⟩
    · exact RtsC.root hl r' rt' hr

def injB (h' : Hp) (φ : Nat → Option Nat) : Bool := (h'.map (·.1)).all fun i => (h'.map (·.1)).all fun j => (i == j) || (φ i == none) || !(φ i == φ j)

theorem mem_of_at : ∀ {h : Hp} {r : Nat} {rt : Rt}, h.at r = some rt → r ∈ h.map (·.1)
  | [], r, rt, hr => by simp [Hp.at] at hr
  | (i, x) :: l, r, rt, hr => by
    simp only [Hp.at] at hr
    split at hr
    · rename_i he; simp [he]
    · simp only [List.map_cons, List.mem_cons]; exact .inr (mem_of_at hr)

/-- The roots that were handed in keep their names. -/
def pinB (h h' : Hp) (φ : Nat → Option Nat) : Bool := (h.map (·.1)).all fun r => decide (r < 2000) || decide (3000 ≤ r) || (φ r == some r && (match h.at r, h'.at r with
  | some rt, some rt' => decide (rt'.ver ≠ 0) || decide (rt.ver = 0)
  | _, _ => false))
theorem pinB.sound {h h' : Hp} {φ : Nat → Option Nat} (hb : pinB h h' φ = true) (r : Nat) (rt : Rt) (hr : h.at r = some rt) (h2 : 2000 ≤ r ∧ r < 3000) : φ r = some r ∧ ∃ rt', h'.at r = some rt' ∧ (rt'.ver = 0 → rt.ver = 0) := by
  unfold pinB at hb
  have h1 := List.all_eq_true.1 hb r (mem_of_at hr)
  simp only [Bool.or_eq_true, decide_eq_true_eq, Bool.and_eq_true, beq_iff_eq] at h1
  rcases h1 with (h1 | h1) | ⟨h1, h3⟩
  · omega
  · omega
  · refine ⟨h1, ?_⟩
    rw [hr] at h3
    cases hx : h'.at r with
    | none => rw [hx] at h3; simp at h3
    | some rt' =>
      rw [hx] at h3
      simp only [Bool.or_eq_true, decide_eq_true_eq] at h3
      refine ⟨rt', rfl, fun h0 => ?_⟩
      rcases h3 with h3 | h3
      · exact absurd h0 h3
      · exact h3
theorem StC.mk {env' : Env} {h' : Hp} (φ : Nat → Option Nat) (hr : RtsC h h' φ h') (hib : (injB h' φ && pinB h h' φ) = true) (he : EnvC h h' φ env env') : StC env h env' h' := by
  obtain ⟨hi, hp⟩ := Bool.and_eq_true_iff.1 hib
  refine ⟨φ, ⟨hr.root, fun r' s' rt' st' h1 h2 h3 h4 => ?_, pinB.sound hp⟩, he⟩
  unfold injB at hi
  have h5 := List.all_eq_true.1 (List.all_eq_true.1 hi r' (mem_of_at h1)) s' (mem_of_at h2)
  simp only [Bool.or_eq_true, beq_iff_eq, Bool.not_eq_true', beq_eq_false_iff_ne, ne_eq] at h5
  rcases h5 with (h5 | h5) | h5
  · exact h5
  · exact absurd h5 h4
  · exact absurd h3 h5

/-- Without roots behind. -/
theorem StC.pure {env' : Env} (he : EnvC h [] (fun _ => none) env env') (hp : (h.all fun x => decide (x.1 < 2000) || decide (3000 ≤ x.1)) = true := by rfl) : StC env h env' [] := by
  refine StC.mk (fun _ => none) .nil ?_ he
  rw [Bool.and_eq_true_iff]
  refine ⟨rfl, ?_⟩
  unfold pinB
  rw [List.all_eq_true]
  intro r hr
  obtain ⟨x, hx, rfl⟩ := List.mem_map.1 hr
  have := List.all_eq_true.1 hp x hx
  rw [this]
  rfl

end
end Go.Abs
