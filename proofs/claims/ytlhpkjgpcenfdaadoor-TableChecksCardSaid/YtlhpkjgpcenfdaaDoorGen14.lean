/-
  Own work. The generated walks, part 14: calls to which roots are handed (pointers to variables of the caller's own, slices that the callee writes).
-/
import Derived.Test.YtlhpkjgpcenfdaaDoorGen13
set_option linter.unusedSimpArgs false
set_option linter.unusedVariables false
set_option linter.unusedSimpArgs false
set_option linter.unusedVariables false
namespace Go.Abs
open Go.RowKit
section
variable {P : Program} {N : Nat} {ops : Array Oper} {env : Env} {h : Hp}
/-- How a value of the state with the roots `h` is told with the roots `k`; `φ` tells which root of `h` a root of `k` is. Nothing is given up. -/
inductive Rn1 (h k : Hp) (φ : Nat → Option Nat) : AV → AV → Prop
  | any {x : AV} : Rn1 h k φ x .any
  | im {x : IV} : Rn1 h k φ (.im x) (.im x)
  | nil : Rn1 h k φ (.im (.val (.slice none 0 0))) (.im (.sl [] 0))
  | ipt {cs : List IV} {off : Nat} : Rn1 h k φ (.ipt cs off) (.ipt cs off)
  | ref {r r' ver ver' off : Nat} {rt rt' : Rt} : h.at r = some rt → k.at r' = some rt' → φ r' = some r → rt.ver = ver → rt'.ver = ver' → Rn1 h k φ (.ref r ver off) (.ref r' ver' off)
  | rsl {r r' ver ver' off n : Nat} {rt rt' : Rt} : h.at r = some rt → k.at r' = some rt' → φ r' = some r → rt.ver = ver → rt'.ver = ver' → rt'.k = rt.k → Rn1 h k φ (.rsl r ver off n) (.rsl r' ver' off n)
inductive RnL (h k : Hp) (φ : Nat → Option Nat) : List AV → List AV → Prop
  | nil : RnL h k φ [] []
  | cons {x y : AV} {xs ys : List AV} : Rn1 h k φ x y → RnL h k φ xs ys → RnL h k φ (x :: xs) (y :: ys)
  | agg {cs ds xs ys : List AV} : RnL h k φ cs ds → RnL h k φ xs ys → RnL h k φ (.agg cs :: xs) (.agg ds :: ys)
  | tup {cs ds xs ys : List AV} : RnL h k φ cs ds → RnL h k φ xs ys → RnL h k φ (.tup cs :: xs) (.tup ds :: ys)
theorem RnL.ims {h k : Hp} {φ : Nat → Option Nat} : ∀ (ys : List IV), RnL h k φ (ys.map .im) (ys.map .im)
  | [] => .nil
  | y :: ys => .cons .im (RnL.ims ys)
theorem VR.rn1 {w : World} {k : Hp} {φ : Nat → Option Nat} {ι : Nat → Bk} {A : Nat → Prop} {x y : AV} {v : Value} (hr : Rn1 h k φ x y) (hv : VR w h ι A x v) : VR w k (iotaC ι φ) A y v := by
  cases hr with
  | any => simp only [VR]
  | im => simpa only [VR] using hv
  | nil => exact Sub.nil w k _ A v (by simpa only [VR] using hv)
  | ipt => simpa only [VR] using hv
  | ref h1 h2 h3 h4 h5 =>
    simp only [VR] at hv ⊢
    obtain ⟨rt0, hrt, hle, himp⟩ := hv
    rw [h1] at hrt
    cases hrt
    refine ⟨_, h2, by omega, fun _ => ?_⟩
    have := himp h4.symm
    unfold iotaC
    rw [h3]
    exact this
  | rsl h1 h2 h3 h4 h5 h6 =>
    simp only [VR] at hv ⊢
    obtain ⟨rt0, hrt, hle, himp⟩ := hv
    rw [h1] at hrt
    cases hrt
    refine ⟨_, h2, by omega, fun _ => ?_⟩
    have := himp h4.symm
    unfold iotaC
    rw [h3, h6]
    exact this
theorem VRL.rn {w : World} {k : Hp} {φ : Nat → Option Nat} {ι : Nat → Bk} {A : Nat → Prop} {xs ys : List AV} (hr : RnL h k φ xs ys) : ∀ {l : List Value}, VRL w h ι A xs l → VRL w k (iotaC ι φ) A ys l := by
  induction hr with
  | nil => intro l hv; simpa only [VRL] using hv
  | cons h1 _ ih =>
    intro l hv
    simp only [VRL] at hv ⊢
    obtain ⟨v, l', hl, hv, hr⟩ := hv
    exact ⟨v, l', hl, VR.rn1 h1 hv, ih hr⟩
  | agg _ _ ih1 ih2 =>
    intro l hv
    simp only [VRL, VR] at hv ⊢
    obtain ⟨v, l', hl, ⟨l2, hl2, hr2⟩, hr⟩ := hv
    exact ⟨v, l', hl, ⟨l2, hl2, ih1 hr2⟩, ih2 hr⟩
  | tup _ _ ih1 ih2 =>
    intro l hv
    simp only [VRL, VR] at hv ⊢
    obtain ⟨v, l', hl, ⟨l2, hl2, hr2⟩, hr⟩ := hv
    exact ⟨v, l', hl, ⟨l2, hl2, ih1 hr2⟩, ih2 hr⟩
theorem VR.rn {w : World} {k : Hp} {φ : Nat → Option Nat} {ι : Nat → Bk} {A : Nat → Prop} {x y : AV} {v : Value} (hr : RnL h k φ [x] [y]) (hv : VR w h ι A x v) : VR w k (iotaC ι φ) A y v := by
  have := VRL.rn (l := [v]) hr (by simp only [VRL]; exact ⟨v, [], rfl, hv, rfl⟩)
  simp only [VRL] at this
  obtain ⟨v', l', hl, hv', _⟩ := this
  cases hl
  exact hv'
/-- The roots. -/
inductive RnH (h k : Hp) (φ : Nat → Option Nat) : Hp → Prop
  | nil : RnH h k φ []
  | cons {r r' : Nat} {rt rt' : Rt} {l : Hp} : φ r' = some r → h.at r = some rt → rt'.live = rt.live → rt'.e = rt.e → rt'.k = rt.k → RnL h k φ rt.cs rt'.cs → RnH h k φ l → RnH h k φ ((r', rt') :: l)
theorem RnL.length {k : Hp} {φ : Nat → Option Nat} {xs ys : List AV} (hr : RnL h k φ xs ys) : xs.length = ys.length := by
  induction hr with
  | nil => rfl
  | cons _ _ ih => simp [ih]
  | agg _ _ _ ih => simp [ih]
  | tup _ _ _ ih => simp [ih]
theorem RnH.root {k : Hp} {φ : Nat → Option Nat} : ∀ {l : Hp}, RnH h k φ l → ∀ r' rt', l.at r' = some rt' → ∃ r rt, φ r' = some r ∧ h.at r = some rt ∧ rt'.live = rt.live ∧ rt'.e = rt.e ∧ rt'.k = rt.k ∧ RnL h k φ rt.cs rt'.cs
  | _, .nil, r, rt, hr => by simp [Hp.at] at hr
  | _, .cons h1 h2 h3 h4 h5 h6 hl, r', rt', hr => by
    simp only [Hp.at] at hr
    split at hr
    · rename_i he; cases hr; subst he; exact ⟨_, _, h1, h2, h3, h4, h5, h6⟩
    · exact RnH.root hl r' rt' hr
theorem RootOK.rn {w : World} {k : Hp} {φ : Nat → Option Nat} {ι : Nat → Bk} {A : Nat → Prop} {b : Bk} {rt rt' : Rt} (h4 : rt'.e = rt.e) (h5 : rt'.k = rt.k) (h6 : RnL h k φ rt.cs rt'.cs) (hr : RootOK w h ι A b rt) : RootOK w k (iotaC ι φ) A b rt' := by
  have hlen := h6.length
  rcases hr with ⟨c1, c2, c3⟩ | ⟨g, arr, c1, c2, c3, c4, c5, c6⟩
  · left
    refine ⟨c1, ?_, c3⟩
    rw [c2] at hlen
    exact List.eq_nil_of_length_eq_zero hlen.symm
  · right
    exact ⟨g, arr, c1, by rw [h4]; exact c2, by rw [h5]; exact c3, c4, by rw [← hlen]; exact VRL.rn h6 c5, by rw [← hlen]; exact c6⟩
theorem injB.sound {k : Hp} {φ : Nat → Option Nat} (hi : injB k φ = true) {r s : Nat} {rt st : Rt} (h1 : k.at r = some rt) (h2 : k.at s = some st) (h3 : φ r = φ s) (h4 : φ r ≠ none) : r = s := by
  unfold injB at hi
  have h5 := List.all_eq_true.1 (List.all_eq_true.1 hi r (mem_of_at h1)) s (mem_of_at h2)
  simp only [Bool.or_eq_true, beq_iff_eq, Bool.not_eq_true', beq_eq_false_iff_ne, ne_eq] at h5
  rcases h5 with (h5 | h5) | h5
  · exact h5
  · exact absurd h5 h4
  · exact absurd h3 h5
theorem at_of_mem : ∀ {h : Hp} {r : Nat}, r ∈ h.map (·.1) → ∃ rt, h.at r = some rt
  | [], r, hr => by simp at hr
  | (i, x) :: l, r, hr => by
    simp only [Hp.at]
    split
    · exact ⟨x, rfl⟩
    · rename_i hne
      simp only [List.map_cons, List.mem_cons] at hr
      exact at_of_mem (hr.resolve_left fun e => hne e.symm)
/-- The handed roots `k` of the caller are the roots `k2` of the callee. -/
def bijB (k k2 : Hp) (φ : Nat → Option Nat) : Bool := injB k2 φ && ((k2.map (·.1)).all fun r' => match φ r' with | some r => (k.map (·.1)).contains r | none => false) && ((k.map (·.1)).all fun r => (k2.map (·.1)).any fun r' => φ r' == some r)
theorem bijB.inj {k k2 : Hp} {φ : Nat → Option Nat} (hb : bijB k k2 φ = true) : injB k2 φ = true := by
  unfold bijB at hb
  simp only [Bool.and_eq_true] at hb
  exact hb.1.1
theorem bijB.into {k k2 : Hp} {φ : Nat → Option Nat} (hb : bijB k k2 φ = true) {r' : Nat} {rt' : Rt} (hr : k2.at r' = some rt') : ∃ r rt, φ r' = some r ∧ k.at r = some rt := by
  unfold bijB at hb
  simp only [Bool.and_eq_true] at hb
  have := List.all_eq_true.1 hb.1.2 r' (mem_of_at hr)
  cases hφ : φ r' with
  | none => rw [hφ] at this; cases this
  | some r =>
    rw [hφ] at this
    simp only [List.contains_eq_mem, decide_eq_true_eq] at this
    obtain ⟨rt, h1⟩ := at_of_mem this
    exact ⟨r, rt, rfl, h1⟩
theorem bijB.onto {k k2 : Hp} {φ : Nat → Option Nat} (hb : bijB k k2 φ = true) {r : Nat} {rt : Rt} (hr : k.at r = some rt) : ∃ r' rt', φ r' = some r ∧ k2.at r' = some rt' := by
  unfold bijB at hb
  simp only [Bool.and_eq_true] at hb
  have := List.all_eq_true.1 hb.2 r (mem_of_at hr)
  obtain ⟨r', h1, h2⟩ := List.any_eq_true.1 this
  obtain ⟨rt', h3⟩ := at_of_mem h1
  exact ⟨r', rt', by simpa using h2, h3⟩
theorem own_split {X : Ctx} {k q : Hp} {ι : Nat → Bk} (hdis : ∀ i rt, k.at i = some rt → q.at i = none) : Own (Own X.B q ι) k ι = Own X.B (k ++ q) ι := by
  funext β
  refine propext ⟨?_, ?_⟩
  · rintro ((hb | ⟨r, rt, hr, hl, hg⟩) | ⟨r, rt, hr, hl, hg⟩)
    · exact .inl hb
    · refine .inr ⟨r, rt, ?_, hl, hg⟩
      rw [at_append]
      cases hx : k.at r with
      | none => exact hr
      | some y => have := hdis r y hx; rw [hr] at this; cases this
    · exact .inr ⟨r, rt, by rw [at_append, hr], hl, hg⟩
  · rintro (hb | ⟨r, rt, hr, hl, hg⟩)
    · exact .inl (.inl hb)
    · rw [at_append] at hr
      cases hx : k.at r with
      | none => rw [hx] at hr; exact .inl (.inr ⟨r, rt, hr, hl, hg⟩)
      | some y => rw [hx] at hr; cases hr; exact .inr ⟨r, rt, hx, hl, hg⟩
theorem own_ren {X : Ctx} {k q k2 : Hp} {φ : Nat → Option Nat} {ι : Nat → Bk} (hdis : ∀ i rt, k.at i = some rt → q.at i = none) (hb : bijB k k2 φ = true) (hrn : RnH (k ++ q) k2 φ k2) : Own (Own X.B q ι) k2 (iotaC ι φ) = Own X.B (k ++ q) ι := by
  rw [← own_split hdis]
  funext β
  refine propext ⟨?_, ?_⟩
  · rintro (h1 | ⟨r', rt', hr', hl, hg⟩)
    · exact .inl h1
    · obtain ⟨r, rt, e1, e2⟩ := bijB.into hb hr'
      obtain ⟨r2, rt2, f1, f2, f3, _⟩ := hrn.root r' rt' hr'
      rw [e1] at f1
      cases f1
      rw [at_append, e2] at f2
      cases f2
      unfold iotaC at hg
      rw [e1] at hg
      exact .inr ⟨r, rt, e2, by rw [← f3]; exact hl, hg⟩
  · rintro (h1 | ⟨r, rt, hr, hl, hg⟩)
    · exact .inl h1
    · obtain ⟨r', rt', e1, e2⟩ := bijB.onto hb hr
      obtain ⟨r2, rt2, f1, f2, f3, _⟩ := hrn.root r' rt' e2
      rw [e1] at f1
      cases f1
      rw [at_append, hr] at f2
      cases f2
      refine .inr ⟨r', rt', e2, by rw [f3]; exact hl, ?_⟩
      unfold iotaC
      rw [e1]
      exact hg
theorem Hol.startR {X : Ctx} {k q k2 : Hp} {φ : Nat → Option Nat} {ι : Nat → Bk} {w : World} (H : Hol X (k ++ q) ι w) (hdis : ∀ i rt, k.at i = some rt → q.at i = none) (hb : bijB k k2 φ = true) (hrn : RnH (k ++ q) k2 φ k2) :
    Hol ⟨w, Own X.B q ι, Own (fun _ => False) k2 (iotaC ι φ), pinOf k2 (iotaC ι φ)⟩ k2 (iotaC ι φ) w := by
  have hat : ∀ r' rt', k2.at r' = some rt' → ∃ r rt, φ r' = some r ∧ k.at r = some rt ∧ rt'.live = rt.live ∧ rt'.e = rt.e ∧ rt'.k = rt.k ∧ RnL (k ++ q) k2 φ rt.cs rt'.cs ∧ iotaC ι φ r' = ι r := fun r' rt' hr' => by
    obtain ⟨r, rt, e1, e2⟩ := bijB.into hb hr'
    obtain ⟨r2, rt2, f1, f2, f3, f4, f5, f6⟩ := hrn.root r' rt' hr'
    rw [e1] at f1
    cases f1
    rw [at_append, e2] at f2
    cases f2
    exact ⟨r, rt, e1, e2, f3, f4, f5, f6, by unfold iotaC; rw [e1]⟩
  have hq : ∀ r rt, q.at r = some rt → Hp.at (k ++ q) r = some rt := fun r rt hr => by
    rw [at_append]
    cases hx : k.at r with
    | none => exact hr
    | some y => have := hdis r y hx; rw [hr] at this; cases this
  have hk : ∀ r rt, k.at r = some rt → Hp.at (k ++ q) r = some rt := fun r rt hr => by rw [at_append, hr]
  exact {
    roots := fun r' rt' hr' hl => by
      obtain ⟨r, rt, e1, e2, e3, e4, e5, e6, e7⟩ := hat r' rt' hr'
      rw [own_ren hdis hb hrn, e7]
      exact (H.roots r rt (hk r rt e2) (by rw [← e3]; exact hl)).rn e4 e5 e6
    inj := fun r' s' rt' st' g hr hs hlr hls hgr hgs => by
      obtain ⟨r, rt, e1, e2, e3, e4, e5, e6, e7⟩ := hat r' rt' hr
      obtain ⟨s, st, d1, d2, d3, d4, d5, d6, d7⟩ := hat s' st' hs
      rw [e7] at hgr
      rw [d7] at hgs
      have := H.inj r s rt st g (hk r rt e2) (hk s st d2) (by rw [← e3]; exact hlr) (by rw [← d3]; exact hls) hgr hgs
      subst this
      exact injB.sound (bijB.inj hb) hr hs (by rw [e1, d1]) (by rw [e1]; simp)
    place := fun r' rt' g hr hl hg => by
      obtain ⟨r, rt, e1, e2, e3, e4, e5, e6, e7⟩ := hat r' rt' hr
      refine ⟨?_, .inr (.inr ⟨r', rt', hr, hl, hg⟩)⟩
      rw [e7] at hg
      rintro (hB | ⟨r2, rt2, hr2, hl2, hg2⟩)
      · exact (H.place r rt g (hk r rt e2) (by rw [← e3]; exact hl) hg).1 hB
      · have := H.inj r r2 rt rt2 g (hk r rt e2) (hq r2 rt2 hr2) (by rw [← e3]; exact hl) hl2 hg hg2
        subst this
        have := hdis r rt e2
        rw [hr2] at this
        cases this
    os := rfl
    tape := rfl
    output := rfl
    size := Nat.le_refl _
    frame := fun _ _ _ => rfl
    old := fun β hB => by
      have hown : ∀ β, Own (fun _ => False) k2 (iotaC ι φ) β → ∃ r rt, k.at r = some rt ∧ rt.live = true ∧ (ι r).blk = some β := by
        rintro β (hs | ⟨r', rt', hr, hl, hg⟩)
        · exact hs.elim
        · obtain ⟨r, rt, e1, e2, e3, e4, e5, e6, e7⟩ := hat r' rt' hr
          rw [e7] at hg
          exact ⟨r, rt, e2, by rw [← e3]; exact hl, hg⟩
      rcases hB with hB | ⟨r, rt, hr, hl, hg⟩
      · refine ⟨Nat.lt_of_lt_of_le (H.old β hB).1 H.size, fun hs => ?_⟩
        obtain ⟨r, rt, e1, e2, e3⟩ := hown β hs
        exact (H.place r rt β (hk r rt e1) e2 e3).1 hB
      · refine ⟨?_, fun hs => ?_⟩
        · obtain ⟨arr, h2, _⟩ := (H.roots r rt (hq r rt hr) hl).row hg
          exact lt_of_heap h2
        · obtain ⟨r2, rt2, e1, e2, e3⟩ := hown β hs
          have := H.inj r r2 rt rt2 β (hq r rt hr) (hk r2 rt2 e1) hl e2 hg e3
          subst this
          have := hdis r rt2 e1
          rw [hr] at this
          cases this
    glob := H.globOK.keep fun β _ hn => ⟨rfl, fun ho => hn (by
      rw [← own_ren hdis hb hrn]
      rcases ho with ho | ho | ho
      · exact .inl ho
      · exact ho.elim
      · exact .inr ho)⟩
    pin := fun r b kk hp => by
      change pinOf k2 (iotaC ι φ) r = some (b, kk) at hp
      unfold pinOf at hp
      cases hx : k2.at r with
      | none => rw [hx] at hp; cases hp
      | some rt =>
        rw [hx] at hp
        simp only [Option.bind_some] at hp
        split at hp
        · rename_i hc
          cases hp
          exact ⟨hc.1, rt, rfl, fun _ => ⟨rfl, rfl⟩⟩
        · cases hp }
/-- What comes back: each handed root is there, where it was or moved. -/
def backB (k k2 h2 hc : Hp) (φ ψ : Nat → Option Nat) : Bool := (k.map (·.1)).all fun r => match k.at r, hc.at r with
  | some rt, some rc => decide (rt.ver = 0) && (decide (0 < rc.ver) || (match ψ r with
    | some r' => φ r' == some r && decide (2000 ≤ r') && decide (r' < 3000) && (match k2.at r', h2.at r' with | some x, some y => decide (x.ver = 0) && decide (y.ver = 0) | _, _ => false)
    | none => false))
  | _, _ => false
theorem backB.spec {k k2 h2 hc : Hp} {φ ψ : Nat → Option Nat} (hb : backB k k2 h2 hc φ ψ = true) {r : Nat} {rt : Rt} (hr : k.at r = some rt) : rt.ver = 0 ∧ ∃ rc, hc.at r = some rc ∧ (0 < rc.ver ∨ ∃ r' x y, ψ r = some r' ∧ φ r' = some r ∧ (2000 ≤ r' ∧ r' < 3000) ∧ k2.at r' = some x ∧ x.ver = 0 ∧ h2.at r' = some y ∧ y.ver = 0) := by
  unfold backB at hb
  have h1 := List.all_eq_true.1 hb r (mem_of_at hr)
  rw [hr] at h1
  cases hx : hc.at r with
  | none => rw [hx] at h1; simp at h1
  | some rc =>
    rw [hx] at h1
    simp only [Bool.and_eq_true, decide_eq_true_eq, Bool.or_eq_true] at h1
    refine ⟨h1.1, rc, rfl, ?_⟩
    rcases h1.2 with h2' | h2'
    · exact .inl h2'
    · right
      cases hψ : ψ r with
      | none => rw [hψ] at h2'; simp at h2'
      | some r' =>
        rw [hψ] at h2'
        simp only [Bool.and_eq_true, decide_eq_true_eq, beq_iff_eq] at h2'
        obtain ⟨⟨⟨e1, e2⟩, e3⟩, e4⟩ := h2'
        cases hk : k2.at r' with
        | none => rw [hk] at e4; simp at e4
        | some x =>
          cases hh : h2.at r' with
          | none => rw [hk, hh] at e4; simp at e4
          | some y =>
            rw [hk, hh] at e4
            simp only [Bool.and_eq_true, decide_eq_true_eq] at e4
            exact ⟨r', x, y, rfl, e1, ⟨e2, e3⟩, hk, e4.1, hh, e4.2⟩
theorem join_callR {X : Ctx} {k q k2 h2 hc : Hp} {φ ψ : Nat → Option Nat} {ι ι' : Nat → Bk} {w w' : World} {r r2 : AV} {v : Value} (H : Hol X (k ++ q) ι w) (hdis : ∀ i rt, k.at i = some rt → q.at i = none) (hb : bijB k k2 φ = true) (hrn : RnH (k ++ q) k2 φ k2)
    (H' : Hol ⟨w, Own X.B q ι, Own (fun _ => False) k2 (iotaC ι φ), pinOf k2 (iotaC ι φ)⟩ h2 ι' w') (hnew : ∀ i rt, hc.at i = some rt → q.at i = none) (hbk : backB k k2 h2 hc φ ψ = true) (hinj : injB hc ψ = true) (hrc : RnH h2 hc ψ hc) (hres : RnL h2 hc ψ [r2] [r])
    (hv : VR w' h2 ι' (Own (Own X.B q ι) h2 ι') r2 v) :
    ∃ ι'', Hol X (hc ++ q) ι'' w' ∧ VR w' (hc ++ q) ι'' (Own X.B (hc ++ q) ι'') r v ∧ Keep w (k ++ q) ι (Own X.B (k ++ q) ι) w' (hc ++ q) ι'' (Own X.B (hc ++ q) ι'') := by
  let ι'' : Nat → Bk := fun i => if (hc.at i).isSome then iotaC ι' ψ i else ι i
  have i1 : ∀ i rt, hc.at i = some rt → ι'' i = iotaC ι' ψ i := fun i rt hi => by simp [ι'', hi]
  have i2 : ∀ i rt, q.at i = some rt → ι'' i = ι i := fun i rt hi => by
    have : hc.at i = none := by
      cases hx : hc.at i with
      | none => rfl
      | some y => have := hnew i y hx; rw [hi] at this; cases this
    simp [ι'', this]
  have a1 : ∀ i rt, hc.at i = some rt → Hp.at (hc ++ q) i = some rt := fun i rt hi => by rw [at_append, hi]
  have a2 : ∀ i rt, q.at i = some rt → Hp.at (hc ++ q) i = some rt := fun i rt hi => by
    rw [at_append]
    cases hx : hc.at i with
    | none => exact hi
    | some y => have := hnew i y hx; rw [hi] at this; cases this
  have a3 : ∀ i rt, Hp.at (hc ++ q) i = some rt → hc.at i = some rt ∨ (hc.at i = none ∧ q.at i = some rt) := fun i rt hi => by
    rw [at_append] at hi
    cases hx : hc.at i with
    | none => rw [hx] at hi; exact .inr ⟨rfl, hi⟩
    | some y => rw [hx] at hi; exact .inl hi
  have b2 : ∀ i rt, q.at i = some rt → Hp.at (k ++ q) i = some rt := fun i rt hi => by
    rw [at_append]
    cases hx : k.at i with
    | none => exact hi
    | some y => have := hdis i y hx; rw [hi] at this; cases this
  have hO := own_ren (X := X) (ι := ι) hdis hb hrn
  have hS : ∀ β, Own (fun _ => False) k2 (iotaC ι φ) β → ∃ r rt, k.at r = some rt ∧ rt.live = true ∧ (ι r).blk = some β := by
    rintro β (hs | ⟨r', rt', hr, hl, hg⟩)
    · exact hs.elim
    · obtain ⟨r, rt, e1, e2⟩ := bijB.into hb hr
      obtain ⟨r3, rt3, f1, f2, f3, _⟩ := hrn.root r' rt' hr
      rw [e1] at f1
      cases f1
      rw [at_append, e2] at f2
      cases f2
      unfold iotaC at hg
      rw [e1] at hg
      exact ⟨r, rt, e2, by rw [← f3]; exact hl, hg⟩
  have hat : ∀ i rc, hc.at i = some rc → ∃ i' rt, ψ i = some i' ∧ h2.at i' = some rt ∧ rc.live = rt.live ∧ rc.e = rt.e ∧ rc.k = rt.k ∧ RnL h2 hc ψ rt.cs rc.cs ∧ ι'' i = ι' i' := fun i rc hi => by
    obtain ⟨i', rt, e1, e2, e3, e4, e5, e6⟩ := hrc.root i rc hi
    exact ⟨i', rt, e1, e2, e3, e4, e5, e6, by rw [i1 i rc hi]; unfold iotaC; rw [e1]⟩
  have hplace : ∀ i rc g, hc.at i = some rc → rc.live = true → (ι'' i).blk = some g → ¬ Own X.B q ι g ∧ (w.heap.size ≤ g ∨ ∃ r2 rt2, k.at r2 = some rt2 ∧ rt2.live = true ∧ (ι r2).blk = some g) := fun i rc g hi hl hg => by
    obtain ⟨i', rt, e1, e2, e3, _, _, _, e7⟩ := hat i rc hi
    rw [e7] at hg
    obtain ⟨h1, h3⟩ := H'.place i' rt g e2 (by rw [← e3]; exact hl) hg
    refine ⟨h1, ?_⟩
    rcases h3 with h3 | h3
    · exact .inl h3
    · exact .inr (hS g h3)
  -- who owns what behind the call
  have hsub : ∀ β, Own X.B (hc ++ q) ι'' β → Own (Own X.B q ι) h2 ι' β := by
    rintro β (hB | ⟨i, rc, hi, hl, hg⟩)
    · exact .inl (.inl hB)
    · rcases a3 i rc hi with h1 | ⟨_, h1⟩
      · obtain ⟨i', rt, e1, e2, e3, _, _, _, e7⟩ := hat i rc h1
        rw [e7] at hg
        exact .inr ⟨i', rt, e2, by rw [← e3]; exact hl, hg⟩
      · rw [i2 i rc h1] at hg
        exact .inl (.inr ⟨i, rc, h1, hl, hg⟩)
  have K1 : Keep w (k ++ q) ι (Own X.B (k ++ q) ι) w' (hc ++ q) ι'' (Own X.B (hc ++ q) ι'') := by
    refine ⟨fun β hβ hA => ⟨H'.frame β hβ fun hs => ?_, fun ho => ?_⟩, fun r rt hr => ?_⟩
    · obtain ⟨r, rt, e1, e2, e3⟩ := hS β hs
      exact hA (.inr ⟨r, rt, by rw [at_append, e1], e2, e3⟩)
    · rcases ho with hB | ⟨i, rc, hi, hl, hg⟩
      · exact hA (.inl hB)
      · rcases a3 i rc hi with h1 | ⟨_, h1⟩
        · rcases (hplace i rc β h1 hl hg).2 with h3 | ⟨r2, rt2, h3, h4, h5⟩
          · omega
          · exact hA (.inr ⟨r2, rt2, by rw [at_append, h3], h4, h5⟩)
        · rw [i2 i rc h1] at hg
          exact hA (.inr ⟨i, rc, b2 i rc h1, hl, hg⟩)
    · rw [at_append] at hr
      cases hx : k.at r with
      | none =>
        rw [hx] at hr
        exact ⟨rt, a2 r rt hr, Nat.le_refl _, fun _ => ⟨i2 r rt hr, rfl⟩⟩
      | some y =>
        rw [hx] at hr
        cases hr
        obtain ⟨p0, rc, p1, p2⟩ := backB.spec hbk hx
        refine ⟨rc, a1 r rc p1, by omega, fun hv0 => ?_⟩
        rcases p2 with p2 | ⟨r', x, y, e1, e2, e3, e4, e5, e6, e7⟩
        · omega
        · obtain ⟨_, rtx, f1, f2⟩ := H'.pin r' (iotaC ι φ r') x.k (by simp [pinOf, e4, e3, e5])
          rw [e6] at f1
          cases f1
          obtain ⟨g1, g2⟩ := f2 e7
          obtain ⟨i', rt2, d1, d2, d3, d4, d5, d6, d7⟩ := hat r rc p1
          rw [e1] at d1
          cases d1
          rw [e6] at d2
          cases d2
          obtain ⟨r3, rt3, c1, c2, c3, c4, c5, _⟩ := hrn.root r' x e4
          rw [e2] at c1
          cases c1
          rw [at_append, hx] at c2
          cases c2
          refine ⟨?_, ?_⟩
          · rw [d7, g1]
            unfold iotaC
            rw [e2]
          · rw [d5, g2, c5]
  have K2 : ∀ (hh : Hp) (jj : Nat → Bk), (∀ i rt, hh.at i = some rt → Hp.at (hc ++ q) i = some rt ∧ ι'' i = jj i) → Keep w' hh jj (Own (Own X.B q ι) h2 ι') w' (hc ++ q) ι'' (Own X.B (hc ++ q) ι'') := fun hh jj hx =>
    ⟨fun β _ hA => ⟨rfl, fun ho => hA (hsub β ho)⟩, fun r rt hr => ⟨rt, (hx r rt hr).1, Nat.le_refl _, fun _ => ⟨(hx r rt hr).2, rfl⟩⟩⟩
  have K3 := K2 hc (iotaC ι' ψ) (fun i rt hi => ⟨a1 i rt hi, i1 i rt hi⟩)
  refine ⟨ι'', ?_, VR.keep K3 _ _ (VR.rn hres hv), K1⟩
  exact {
    roots := fun i rc hi hl => by
      rcases a3 i rc hi with h1 | ⟨_, h1⟩
      · obtain ⟨i', rt, e1, e2, e3, e4, e5, e6, e7⟩ := hat i rc h1
        rw [e7]
        rcases (H'.roots i' rt e2 (by rw [← e3]; exact hl)).rn e4 e5 e6 with hn | ⟨g, arr, c1, c2, c3, c4, c5, c6⟩
        · exact .inl hn
        · exact .inr ⟨g, arr, c1, c2, c3, c4, VRL.keep K3 _ _ c5, c6⟩
      · rw [i2 i rc h1]
        rcases H.roots i rc (b2 i rc h1) hl with hn | ⟨g, arr, c1, c2, c3, c4, c5, c6⟩
        · exact .inl hn
        · refine .inr ⟨g, arr, c1, (H'.frame g (lt_of_heap c2) fun hs => ?_).trans c2, c3, c4, VRL.keep K1 _ _ c5, c6⟩
          obtain ⟨r2, rt2, hr2, hl2, hg2⟩ := hS g hs
          have := H.inj i r2 rc rt2 g (b2 i rc h1) (by rw [at_append, hr2]) hl hl2 c1 hg2
          subst this
          have := hdis i rt2 hr2
          rw [h1] at this
          cases this
    inj := fun i j ri rj g hi hj hli hlj hgi hgj => by
      rcases a3 i ri hi with h1 | ⟨_, h1⟩ <;> rcases a3 j rj hj with h3 | ⟨_, h3⟩
      · obtain ⟨i', rt, e1, e2, e3, e4, e5, e6, e7⟩ := hat i ri h1
        obtain ⟨j', st, d1, d2, d3, d4, d5, d6, d7⟩ := hat j rj h3
        rw [e7] at hgi
        rw [d7] at hgj
        have := H'.inj i' j' rt st g e2 d2 (by rw [← e3]; exact hli) (by rw [← d3]; exact hlj) hgi hgj
        subst this
        exact injB.sound hinj h1 h3 (by rw [e1, d1]) (by rw [e1]; simp)
      · rw [i2 j rj h3] at hgj
        exact absurd (.inr ⟨j, rj, h3, hlj, hgj⟩) (hplace i ri g h1 hli hgi).1
      · rw [i2 i ri h1] at hgi
        exact absurd (.inr ⟨i, ri, h1, hli, hgi⟩) (hplace j rj g h3 hlj hgj).1
      · rw [i2 i ri h1] at hgi; rw [i2 j rj h3] at hgj
        exact H.inj i j ri rj g (b2 i ri h1) (b2 j rj h3) hli hlj hgi hgj
    place := fun i rc g hi hl hg => by
      rcases a3 i rc hi with h1 | ⟨_, h1⟩
      · obtain ⟨p1, p2⟩ := hplace i rc g h1 hl hg
        refine ⟨fun hB => p1 (.inl hB), ?_⟩
        rcases p2 with p2 | ⟨r2, rt2, e1, e2, e3⟩
        · exact .inl (Nat.le_trans H.size p2)
        · exact (H.place r2 rt2 g (by rw [at_append, e1]) e2 e3).2
      · rw [i2 i rc h1] at hg
        exact H.place i rc g (b2 i rc h1) hl hg
    os := H'.os.trans H.os
    tape := H'.tape.trans H.tape
    output := H'.output.trans H.output
    size := Nat.le_trans H.size H'.size
    frame := fun β hβ hS2 => by
      refine (H'.frame β (Nat.lt_of_lt_of_le hβ H.size) fun hs => ?_).trans (H.frame β hβ hS2)
      obtain ⟨r, rt, hr, hl, hg⟩ := hS β hs
      rcases (H.place r rt β (by rw [at_append, hr]) hl hg).2 with h1 | h1
      · omega
      · exact hS2 h1
    old := H.old
    glob := H.glob
    pin := fun r b kk hp => by
      obtain ⟨h1, rt, h3, h4⟩ := H.pin r b kk hp
      refine ⟨h1, ?_⟩
      obtain ⟨rt', e1, e2, e3⟩ := K1.hp r rt h3
      refine ⟨rt', e1, fun hv0 => ?_⟩
      obtain ⟨e4, e5⟩ := e3 (by omega)
      rw [e4, e5]
      exact h4 (by omega) }
/-- A call to which the roots `k` are handed; the callee calls them `k2`. -/
theorem OpsW.callR {o : Oper} {f : FuncId} {xs : List Operand} {ts : Array TypeId} {rest : List Oper} {K : Env → Hp → Prop} (k q k2 : Hp) (φ : Nat → Option Nat) (ho : o.op = .call ⟨.value (.func f), xs.toArray, ts⟩) (hgu : o.guard = none) (hc : callable P f = true)
    (ys : List AV) (R : AV → Hp → Prop) (hd : o.dst.all (· < N) = true) (hgd : ∀ x ∈ xs, gd (rdo env x)) (hargs : RnL (k ++ q) k2 φ (xs.map fun x => st (rdo env x)) ys) (hs : Spec P f ys k2 R)
    (hdis : ∀ i rt, k.at i = some rt → q.at i = none) (hb : bijB k k2 φ = true) (hrn : RnH (k ++ q) k2 φ k2)
    (hR : ∀ r2 h2, R r2 h2 → ∃ (r : AV) (hcc : Hp) (ψ : Nat → Option Nat), (∀ i rt, hcc.at i = some rt → q.at i = none) ∧ backB k k2 h2 hcc φ ψ = true ∧ injB hcc ψ = true ∧ RnH h2 hcc ψ hcc ∧ RnL h2 hcc ψ [r2] [r] ∧ OpsW P N ops rest (setd env o.dst r) (hcc ++ q) K) : OpsW P N ops (o :: rest) env (k ++ q) K := by
  intro X a w ι Q H S hQ
  refine wpList_plain hgu fun K' hK' => wp_call ho hc ?_
  have hvs := args_vr xs hgd (fun x _ => S.eval H.globOK x)
  have hvs' := VRL.rn (ι := ι) hargs hvs
  refine (hs w (iotaC ι φ) (Own X.B q ι) _ (H.startR hdis hb hrn) (by rw [own_ren hdis hb hrn]; exact hvs')).mono ?_
  rintro e w' ⟨v, r2, h2, ι', rfl, hRr, H', hv⟩
  obtain ⟨r, hcc, ψ, e1, e2, e3, e4, e5, e6⟩ := hR r2 h2 hRr
  obtain ⟨ι'', Hj, hvj, Kj⟩ := join_callR H hdis hb hrn H' e1 e2 e3 e4 e5 hv
  refine ⟨v, rfl, hK' _ _ ?_⟩
  refine e6 X _ w' ι'' Q Hj ?_ hQ
  exact Slots.putd ⟨S.size, S.defers, fun i => VR.keep Kj _ _ (S.at_ i)⟩ hd hvj
/-- The end of a function may be told anew. -/
theorem AW.endcast {c : Code} {Q : Exit → Env → Hp → Prop} (hw : AW P N c env h (fun e en hp => ∃ en' hp', StC en hp en' hp' ∧ Q e en' hp')) : AW P N c env h Q := by
  intro X a w ι H S
  refine wp_mono (hw X a w ι H S) ?_
  rintro e a' w' ⟨env', h', ι', ⟨en, hp, ⟨φ, R, E⟩, hq⟩, H', S'⟩
  exact ⟨en, hp, _, hq, H'.cast R, Slots.cast H' R E S'⟩
end
end Go.Abs
