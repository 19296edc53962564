/- Own work. -/
import Derived.Test.YtbcfmhoaocifoaaDoorLibF
namespace Go
abbrev Value.j (n : Int) : Value := .int .i64 n
end Go
set_option linter.unusedSimpArgs false
set_option linter.unusedVariables false
/-
 Own work. The generated walks, part 29: regions that draw their order and in which a root that was there before is turned, while the other operations do not look at it.
-/
namespace Go.Abs
open Go.RowKit
section
variable {P : Program} {N : Nat} {ops : Array Oper} {env : Env} {h : Hp}
def imB : AV → Bool
 | .im _ => true
 | _ => false
def inHb (h : Hp) : AV → Bool
 | .any => true
 | .im _ => true
 | .ipt _ _ => true
 | .ref r _ _ => (h.at r).isSome
 | .rsl r _ _ _ => (h.at r).isSome
 | .agg cs => cs.all imB
 | _ => false
theorem VRL.imAll {w : World} {h g : Hp} {ι : Nat → Bk} {A : Nat → Prop} : ∀ (cs : List AV) (l : List Value), cs.all imB = true → VRL w g ι A cs l → VRL w h ι A cs l
 | [], l, _, hv => by simpa only [VRL] using hv
 | c :: cs, l, hi, hv => by
  rw [X0i, X3] at hi
  simp only [VRL] at hv ⊢
  obtain ⟨v, l', e, h1, h2⟩ := hv
  refine ⟨v, l', e, ?_, VRL.imAll cs l' hi.2 h2⟩
  cases c with
  | im x => simpa only [VR] using h1
  | _ => simp [imB] at hi
theorem VR.inH {w : World} {h g : Hp} {ι : Nat → Bk} {A : Nat → Prop} (hsub : ∀ s rt, h.at s = some rt → g.at s = some rt) {x : AV} {v : Value} (hi : inHb h x = true) (hv : VR w g ι A x v) : VR w h ι A x v := by
 cases x with
 | any => simp only [VR]
 | im x => simpa only [VR] using hv
 | ipt cs off => simpa only [VR] using hv
 | agg cs =>
  simp only [VR] at hv ⊢
  obtain ⟨l, e, h1⟩ := hv
  exact ⟨l, e, VRL.imAll cs l hi h1⟩
 | ref r ver off =>
  simp only [VR] at hv ⊢
  obtain ⟨rt, h1⟩ := X1h.1 hi
  obtain ⟨rt', h2, h3⟩ := hv
  rw [hsub r rt h1] at h2
  cases h2
  exact ⟨rt, h1, h3⟩
 | rsl r ver off n =>
  simp only [VR] at hv ⊢
  obtain ⟨rt, h1⟩ := X1h.1 hi
  obtain ⟨rt', h2, h3⟩ := hv
  rw [hsub r rt h1] at h2
  cases h2
  exact ⟨rt, h1, h3⟩
 | _ => simp [inHb] at hi
theorem rd_app : ∀ (env ext : Env) (s : Nat), rd env s = .any ∨ rd (env ++ ext) s = rd env s
 | [], ext, s => .inl rfl
 | (i, v) :: env, ext, s => by
  simp only [X0a, rd]
  by_cases hi : i = s
  ·rw [if_pos hi, if_pos hi]
   exact .inr rfl
  ·rw [if_neg hi, if_neg hi]
   exact rd_app env ext s
def imC (h : Hp) : AV → Bool
 | .im _ => true
 | .rsl r _ _ _ => (h.at r).isSome
 | _ => false
inductive ImsH (h0 : Hp) : Hp → Prop
 | nil : ImsH h0 []
 | cons {i : Nat} {rt : Rt} {l : Hp} : rt.cs.all (imC h0) = true → ImsH h0 l → ImsH h0 ((i, rt) :: l)
 | ims {i : Nat} {rt : Rt} {l : Hp} (ys : List IV) : rt.cs = ys.map .im → ImsH h0 l → ImsH h0 ((i, rt) :: l)
theorem ims_all (h0 : Hp) : ∀ ys : List IV, (ys.map AV.im).all (imC h0) = true
 | [] => rfl
 | y :: ys => by rw [X00, X0i, ims_all h0 ys]; rfl
theorem ImsH.get {h0 : Hp} : ∀ {h : Hp}, ImsH h0 h → ∀ r rt, h.at r = some rt → rt.cs.all (imC h0) = true
 | _, .nil, r, rt, hr => by simp [Hp.at] at hr
 | _, .cons hi hl, r, rt, hr => by
  simp only [Hp.at] at hr
  split at hr
  ·cases hr; exact hi
  ·exact hl.get r rt hr
 | _, .ims ys hi hl, r, rt, hr => by
  simp only [Hp.at] at hr
  split at hr
  ·cases hr; rw [hi]; exact ims_all h0 ys
  ·exact hl.get r rt hr
theorem VRL.imKeep {w : World} {h g : Hp} {ι : Nat → Bk} {A A' : Nat → Prop} (hsub : ∀ s rt, h.at s = some rt → g.at s = some rt) (hA : ∀ β, A' β → A β) : ∀ (cs : List AV) (l : List Value), cs.all (imC h) = true → VRL w g ι A cs l → VRL w h ι A' cs l
 | [], l, _, hv => by simpa only [VRL] using hv
 | c :: cs, l, hi, hv => by
  rw [X0i, X3] at hi
  simp only [VRL] at hv ⊢
  obtain ⟨v, l', e, h1, h2⟩ := hv
  refine ⟨v, l', e, ?_, VRL.imKeep hsub hA cs l' hi.2 h2⟩
  cases c with
  | im x =>
   simp only [VR] at h1 ⊢
   exact VRI.keep (fun β _ hn => ⟨rfl, fun ha => hn (hA β ha)⟩) x v h1
  | rsl r ver off n =>
   simp only [VR] at h1 ⊢
   obtain ⟨rt, h3⟩ := X1h.1 hi.1
   obtain ⟨rt', h4, h5⟩ := h1
   rw [hsub r rt h3] at h4
   cases h4
   exact ⟨rt, h3, h5⟩
  | _ => simp [imC] at hi
theorem Hol.sub {X : Ctx} {h g : Hp} {ι : Nat → Bk} {w : World} (H : Hol X g ι w) (hsub : ∀ s rt, h.at s = some rt → g.at s = some rt) (him : ImsH h h) (hpin : ∀ s rt, g.at s = some rt → 2000 ≤ s ∧ s < 3000 → h.at s = some rt) : Hol X h ι w where
 roots r rt hr hl := by
  have hA : ∀ β, Own X.B h ι β → Own X.B g ι β := fun β ho => by
   rcases ho with ho | ⟨s, st, h1, h2, h3⟩
   ·exact .inl ho
   ·exact .inr ⟨s, st, hsub s st h1, h2, h3⟩
  rcases H.roots r rt (hsub r rt hr) hl with c | ⟨q, arr, c1, c2, c3, c4, c5, c6⟩
  ·exact .inl c
  ·exact .inr ⟨q, arr, c1, c2, c3, c4, VRL.imKeep hsub hA _ _ (him.get r rt hr) c5, c6⟩
 inj r r' rt rt' q h1 h2 := H.inj r r' rt rt' q (hsub _ _ h1) (hsub _ _ h2)
 place r rt q h1 := H.place r rt q (hsub _ _ h1)
 os := H.os
 tape := H.tape
 output := H.output
 size := H.size
 frame := H.frame
 old := H.old
 glob := H.glob
 pin r b k hp := by
  obtain ⟨a, rt, c, d⟩ := H.pin r b k hp
  exact ⟨a, rt, hpin r rt c a, d⟩
def DOpsY (P : Program) (ops : Array Oper) (h : Hp) (ext : Env) (effs : List (Nat × Nat × List Nat)) : Nat → List Oper → Env → Hp → (Env → Hp → Prop) → Prop
 | _, [], env, g, K => K (env ++ ext) g
 | i, o :: l, env, g, K => match effX effs i with
  | none => ∃ av, Quiet P ops o env h av ∧ DOpsY P ops h ext effs (i + 1) l (setd env o.dst av) g K
  | some r => ∃ rt' av, o.guard = none ∧ h.at r = none ∧ (∀ g' : Hp, (∀ q, q ∈ r :: depX effs i → g'.at q = g.at q) → (∀ s rt, h.at s = some rt → g'.at s = some rt) → RStep P o (env ++ ext) g' r rt' av) ∧ DOpsY P ops h ext effs (i + 1) l (setd env o.dst av) ((r, rt') :: g) K
theorem DOpsY.nil {effs : List (Nat × Nat × List Nat)} {i : Nat} {g : Hp} {K : Env → Hp → Prop} {ext : Env} (hK : K (env ++ ext) g) : DOpsY P ops h ext effs i [] env g K := hK
theorem DOpsY.q {ext : Env} {effs : List (Nat × Nat × List Nat)} {g : Hp} {K : Env → Hp → Prop} : ∀ (n : Nat) {i : Nat} {l : List Oper} {env : Env}, ((List.range n).all fun j => (effX effs (i + j)).isNone) = true → QOps P ops h (l.take n) env (fun e => DOpsY P ops h ext effs (i + n) (l.drop n) e g K) → DOpsY P ops h ext effs i l env g K
 | 0, i, l, env, _, hq => by simpa [QOps] using hq
 | n + 1, i, [], env, _, hq => by simpa [QOps, DOpsY] using hq
 | n + 1, i, o :: l, env, ha, hq => by
  simp only [X08, QOps, X0x] at hq
  obtain ⟨av, h1, h2⟩ := hq
  have h0 := X7.1 ha 0 (by simp)
  simp only [X0u, X10] at h0
  simp only [DOpsY, h0]
  refine ⟨av, h1, DOpsY.q n (X7.2 fun j hj => ?_) (by rwa [show i + 1 + n = i + (n + 1) by omega])⟩
  have := X7.1 ha (j + 1) (by simpa using hj)
  rwa [show i + (j + 1) = i + 1 + j by omega] at this
theorem DOpsY.e {ext : Env} {effs : List (Nat × Nat × List Nat)} {i : Nat} {o : Oper} {l : List Oper} {g : Hp} {K : Env → Hp → Prop} {rt' : Rt} {av : AV} (r : Nat) (he : effX effs i = some r) (hg : o.guard = none) (hr : h.at r = none)
  (hs : ∀ g' : Hp, (∀ q, q ∈ r :: depX effs i → g'.at q = g.at q) → (∀ s rt, h.at s = some rt → g'.at s = some rt) → RStep P o (env ++ ext) g' r rt' av) (hw : DOpsY P ops h ext effs (i + 1) l (setd env o.dst av) ((r, rt') :: g) K) : DOpsY P ops h ext effs i (o :: l) env g K := by
 simp only [DOpsY, he]
 exact ⟨rt', av, hg, hr, hs, hw⟩
theorem setd_app (env ext : Env) (d : Option Nat) (v : AV) : setd env d v ++ ext = setd (env ++ ext) d v := by cases d <;> rfl
theorem DOpsY.vals {ext : Env} {effs : List (Nat × Nat × List Nat)} {K : Env → Hp → Prop} : ∀ (l : List Oper) (i : Nat) (env : Env) (g : Hp), DOpsY P ops h ext effs i l env g K → ∃ (vs : List AV) (ks : List (Option (Nat × Rt))), vs.length = l.length ∧ ks.length = l.length ∧ K (Y24 (env ++ ext) l vs) (gAt ks g) ∧
  ∀ (j : Nat) (o : Oper) (v : AV) (k : Option (Nat × Rt)), l[j]? = some o → vs[j]? = some v → ks[j]? = some k → (k.map (·.1) = effX effs (i + j)) ∧ match k with
   | none => Quiet P ops o (Y24 env (l.take j) (vs.take j)) h v
   | some (r, rt') => o.guard = none ∧ h.at r = none ∧ ∀ g' : Hp, (∀ q, q ∈ r :: depX effs (i + j) → g'.at q = (gAt (ks.take j) g).at q) → (∀ s rt, h.at s = some rt → g'.at s = some rt) → RStep P o (Y24 (env ++ ext) (l.take j) (vs.take j)) g' r rt' v
 | [], i, env, g, hq => ⟨[], [], rfl, rfl, hq, fun j o v k ho => by simp at ho⟩
 | o :: l, i, env, g, hq => by
  cases he : effX effs i with
  | none =>
   simp only [DOpsY, he] at hq
   obtain ⟨av, h1, h2⟩ := hq
   obtain ⟨vs, ks, h3, h3', h4, h5⟩ := DOpsY.vals l _ _ _ h2
   simp only [setd_app] at h4 h5
   refine ⟨av :: vs, none :: ks, by simp [h3], by simp [h3'], h4, fun j p v k ho hv hk => ?_⟩
   cases j with
   | zero =>
    simp at ho hv hk
    subst ho hv hk
    exact ⟨by simp [he], by simpa [Y24] using h1⟩
   | succ j =>
    simp at ho hv hk
    have := h5 j p v k ho hv hk
    rw [show i + 1 + j = i + (j + 1) by omega] at this
    simpa [Y24, gAt] using this
  | some r =>
   simp only [DOpsY, he] at hq
   obtain ⟨rt', av, h0, h1, h1', h2⟩ := hq
   obtain ⟨vs, ks, h3, h3', h4, h5⟩ := DOpsY.vals l _ _ _ h2
   simp only [setd_app] at h4 h5
   refine ⟨av :: vs, some (r, rt') :: ks, by simp [h3], by simp [h3'], h4, fun j p v k ho hv hk => ?_⟩
   cases j with
   | zero =>
    simp at ho hv hk
    subst ho hv hk
    exact ⟨by simp [he], h0, h1, h1'⟩
   | succ j =>
    simp at ho hv hk
    have := h5 j p v k ho hv hk
    rw [show i + 1 + j = i + (j + 1) by omega] at this
    simpa [Y24, gAt] using this
structure MidY (N : Nat) (ops : Array Oper) (env envF : Env) (vs : List AV) (ks : List (Option (Nat × Rt))) (h g : Hp) (ι : Nat → Bk) (A : Nat → Prop) (S : Nat → Bool) (a : Act) (w : World) : Prop where
 size : a.tmps.size = N
 defers : a.defers = []
 putQ : ∀ (i : Nat) (o : Oper) (v : AV) (s : Nat), S i = true → ops[i]? = some o → vs[i]? = some v → ks[i]? = some none → o.dst = some s → VR w h ι A v (a.tmps.getD s undef)
 putE : ∀ (i : Nat) (o : Oper) (v : AV) (s : Nat), S i = true → ops[i]? = some o → vs[i]? = some v → o.dst = some s → VR w g ι A v (a.tmps.getD s undef)
 left : ∀ s, (∀ (i : Nat) (o : Oper), S i = true → ops[i]? = some o → o.dst ≠ some s) → VR w h ι A (rd env s) (a.tmps.getD s undef)
 leftX : ∀ s, (∀ (i : Nat) (o : Oper), S i = true → ops[i]? = some o → o.dst ≠ some s) → VR w g ι A (rd envF s) (a.tmps.getD s undef)
 down : ∀ (i : Nat) (o : Oper), S i = true → ops[i]? = some o → ∀ e ∈ o.after, Region.binds .any e = true → S e.on = true
theorem MidY.step {envF : Env} {ι ι' : Nat → Bk} {g g' : Hp} {A A' : Nat → Prop} {m i : Nat} {ds : List Nat} {vs : List AV} {ks : List (Option (Nat × Rt))} {S S2 : Nat → Bool} {a : Act} {w w' : World} {v : Value} {u0 : AV} {oi : Oper} (D : DrawOkP N ops m ds) (M : MidY N ops env envF vs ks h g ι A S a w) (hSm : ∀ k, S k = true → k < m) (him : i < m) (ho : ops[i]? = some oi)
  (hv : vs[i]? = some u0) (hset : ∀ k, S2 k = if k = i then true else S k) (hpred' : ∀ e ∈ oi.after, Region.binds .any e = true → S e.on = true) (hKB : Keep w h ι A w' h ι' A') (hKG : Keep w g ι A w' g' ι' A') (hvq : ks[i]? = some none → VR w' h ι' A' u0 v) (hvv : VR w' g' ι' A' u0 v) :
  MidY N ops env envF vs ks h g' ι' A' S2 (a.put oi.dst v) w' := by
 have hother : ∀ s, oi.dst ≠ some s → (a.put oi.dst v).tmps.getD s undef = a.tmps.getD s undef := by
  intro s hs
  cases hd : oi.dst with
  | none => rfl
  | some d =>
   have : d ≠ s := fun e => hs (by rw [hd, e])
   simp only [Act.put, X2, Xo this]
 have hself : ∀ s, oi.dst = some s → (a.put oi.dst v).tmps.getD s undef = v := by
  intro s hs
  have hsN : s < N := by have := D.dst i _ him ho; rw [hs] at this; simpa using this
  rw [hs]
  simp only [Act.put, X2]
  rw [Xf (by rw [M.size]; exact hsN)]
  rfl
 refine ⟨?_, ?_, ?_, ?_, ?_, ?_, ?_⟩
 ·rw [← M.size]; unfold Act.put; split <;> simp
 ·rw [← M.defers]; unfold Act.put; split <;> rfl
 ·intro k o u s hk hok huk hks hd
  simp only [hset] at hk
  by_cases hki : k = i
  ·subst hki
   rw [ho] at hok; cases hok
   rw [hv] at huk; cases huk
   rw [hself s hd]
   exact hvq hks
  ·rw [if_neg hki] at hk
   rw [hother s (fun e => hki (D.one k i o _ s (hSm k hk) him hok ho hd e))]
   exact VR.keep hKB _ _ (M.putQ k o u s hk hok huk hks hd)
 ·intro k o u s hk hok huk hd
  simp only [hset] at hk
  by_cases hki : k = i
  ·subst hki
   rw [ho] at hok; cases hok
   rw [hv] at huk; cases huk
   rw [hself s hd]
   exact hvv
  ·rw [if_neg hki] at hk
   rw [hother s (fun e => hki (D.one k i o _ s (hSm k hk) him hok ho hd e))]
   exact VR.keep hKG _ _ (M.putE k o u s hk hok huk hd)
 ·intro s hs
  have hne : oi.dst ≠ some s := hs i _ (by simp [hset]) ho
  rw [hother s hne]
  refine VR.keep hKB _ _ (M.left s fun k o hk hok => hs k o ?_ hok)
  simp only [hset]
  split
  ·rfl
  ·exact hk
 ·intro s hs
  have hne : oi.dst ≠ some s := hs i _ (by simp [hset]) ho
  rw [hother s hne]
  refine VR.keep hKG _ _ (M.leftX s fun k o hk hok => hs k o ?_ hok)
  simp only [hset]
  split
  ·rfl
  ·exact hk
 ·intro k o hk hok e he hb'
  simp only [hset] at hk ⊢
  by_cases hki : k = i
  ·subst hki
   rw [ho] at hok; cases hok
   have := hpred' e he hb'
   split
   ·rfl
   ·exact this
  ·rw [if_neg hki] at hk
   have := M.down k o hk hok e he hb'
   split
   ·rfl
   ·exact this
theorem AW.drawY {id : Nat} {Q : Exit → Env → Hp → Prop} (ext : Env) (g0 : Hp) (m : Nat) (effs : List (Nat × Nat × List Nat)) (hm : P.follows .mixedOrders = true) (hk : drawOkP N ops m [] = true) (hef : effOkX ops m effs = true) (hsub : ∀ s rt, h.at s = some rt → g0.at s = some rt) (him : ImsH h h) (hpin : ∀ s rt, g0.at s = some rt → 2000 ≤ s ∧ s < 3000 → h.at s = some rt) (hev : ∀ s, inHb h (rd env s) = true)
  (hq : DOpsY P ops h ext effs 0 (ops.toList.take m) env g0 (fun e g => OpsW P N ops (ops.toList.drop m) e g (Q .normal))) : AW P N (.region id ops true) (env ++ ext) g0 Q := by
 have D := drawOkP.spec hk
 have hmle := D.le
 obtain ⟨vs, ks, hlen, hlenk, hK, hvs⟩ := DOpsY.vals _ _ _ _ hq
 have hlen' : vs.length = m := by rw [hlen]; simp; omega
 have hlenk' : ks.length = m := by rw [hlenk]; simp; omega
 have hget : ∀ i, i < m → (ops.toList.take m)[i]? = ops[i]? := fun i hi => by rw [Xa, if_pos hi]; simp
 -- the roots that are turned
 have hks : ∀ (j r : Nat) (rt : Rt), ks[j]? = some (some (r, rt)) → j < m ∧ effX effs j = some r ∧ h.at r = none := fun j r rt hj => by
  have hjm : j < m := by rw [← hlenk']; exact (Xk.1 hj).1
  have ho : ops[j]? = some (ops[j]'(by omega)) := X6 (by omega)
  have hv : vs[j]? = some (vs[j]'(by omega)) := X4 (by omega)
  have h1 := hvs j _ _ _ (by rw [hget j hjm]; exact ho) hv hj
  refine ⟨hjm, ?_, h1.2.2.1⟩
  have := h1.1
  simp only [Xg, Xl] at this
  exact this.symm
 intro X a w ι0 H S
 refine wp_mono (Q := fun e a' w' => e = Exit.normal ∧ ∃ env' h' ι', Q .normal env' h' ∧ Hol X h' ι' w' ∧ Slots N env' h' ι' (Own X.B h' ι') a' w') (wp_region_any hm ?_) (fun e a' w' ⟨he, hq⟩ => by subst he; exact hq)
 have hdrew : Below w.heap.size w { w with drawn := w.drawn + 1 } := ⟨rfl, rfl, rfl, Xi _, fun _ _ => rfl⟩
 have H' := H.below hdrew
 have S' := S.below hdrew
 generalize ({ w with drawn := w.drawn + 1 } : World) = w1 at H' S'
 clear hdrew H S w
 have Hs : Hol X h ι0 w1 := H'.sub hsub him hpin
 have main : ∀ (fuel : Nat) (listed : Array Bool) (a : Act) (w : World) (g : Hp) (ι : Nat → Bk), listed.size = ops.size → ((List.range m).filter fun j => !listed.getD j true).length + (ops.size - m) ≤ fuel → (∀ k, m ≤ k → listed.getD k false = false) → Hol X g ι w →
   (∀ q, g.at q = stS (fun i => listed.getD i false) q 0 ks (g0.at q)) → (∀ r rt, h.at r = some rt → ι r = ι0 r) →
   MidY N ops env (env ++ ext) vs ks h g ι (Own X.B g ι) (fun i => listed.getD i false) a w →
   wpAny P .any ops (fun e a' w' => e = Exit.normal ∧ ∃ env' h' ι', Q .normal env' h' ∧ Hol X h' ι' w' ∧ Slots N env' h' ι' (Own X.B h' ι') a' w') fuel listed a w := by
  have base : ∀ (S : Nat → Bool) (g : Hp), (∀ q, g.at q = stS S q 0 ks (g0.at q)) → ∀ s rt, h.at s = some rt → g.at s = some rt := fun S g hg s rt hs => by
   rw [hg s, Y3j ks 0 _ (fun j rt' hj => by
    have := (hks j s rt' hj).2.2
    rw [hs] at this
    cases this)]
   exact hsub s rt hs
  have fin : ∀ (fuel : Nat) (listed : Array Bool) (a : Act) (w : World) (g : Hp) (ι : Nat → Bk), listed.size = ops.size → ops.size - m ≤ fuel → (∀ k, m ≤ k → listed.getD k false = false) → (∀ i, i < m → listed.getD i false = true) → Hol X g ι w →
    (∀ q, g.at q = stS (fun i => listed.getD i false) q 0 ks (g0.at q)) → MidY N ops env (env ++ ext) vs ks h g ι (Own X.B g ι) (fun i => listed.getD i false) a w →
    wpAny P .any ops (fun e a' w' => e = Exit.normal ∧ ∃ env' h' ι', Q .normal env' h' ∧ Hol X h' ι' w' ∧ Slots N env' h' ι' (Own X.B h' ι') a' w') fuel listed a w := by
   intro fuel listed a w g ι hsz hfu hno all H hg M
   have hgq : ∀ q, (gAt ks g0).at q = g.at q := fun q => by
    have := gAt.st (r := q) ks 0 m g0
    rw [Xx (by omega)] at this
    rw [this, hg q]
    refine stS.congr ks 0 _ fun j rt hj => ?_
    have := (hks j q rt hj).1
    simp [all j this, this]
   have hKhg : Keep w h ι (Own X.B g ι) w g ι (Own X.B g ι) := ⟨fun β _ hA => ⟨rfl, hA⟩, fun r rt hr => ⟨rt, base _ g hg r rt hr, Xi _, fun _ => ⟨rfl, rfl⟩⟩⟩
   have hS : Slots N (Y24 (env ++ ext) (ops.toList.take m) vs) g ι (Own X.B g ι) a w := by
    refine ⟨M.size, M.defers, fun s => ?_⟩
    by_cases hex : ∃ (i : Nat) (o : Oper), i < m ∧ ops[i]? = some o ∧ o.dst = some s
    ·obtain ⟨i, o, hi, ho, hd⟩ := hex
     have hv : vs[i]? = some (vs[i]'(by omega)) := X4 (by omega)
     rw [Y2y (ops.toList.take m) vs (env ++ ext) i o _ (by rw [hget i hi]; exact ho) hv hd (fun j p hp e => by
      have hj : j < m := by
       have := (Xk.1 hp).1
       simp at this; omega
      rw [hget j hj] at hp
      exact (D.one i j o p s hi hj ho hp hd e).symm)]
     exact M.putE i o _ s (all i hi) ho hv hd
    ·rw [Y0z (ops.toList.take m) vs (env ++ ext) (fun i o ho e => by
      have hi : i < m := by
       have := (Xk.1 ho).1
       simp at this; omega
      rw [hget i hi] at ho
      exact hex ⟨i, o, hi, ho, e⟩)]
     refine M.leftX s (fun i o hSi ho e => ?_)
     by_cases hi : i < m
     ·exact hex ⟨i, o, hi, ho, e⟩
     ·simp only [hno i (by omega)] at hSi; cases hSi
   have hS2 : Slots N (Y24 (env ++ ext) (ops.toList.take m) vs) (gAt ks g0) ι (Own X.B (gAt ks g0) ι) a w := by
    rw [own_congr hgq]
    exact ⟨hS.size, hS.defers, fun i => VR.keep (Keep.congr hgq) _ _ (hS.at_ i)⟩
   refine wpAny_tailP D (ops.size - m) m fuel listed a w (Xi _) (by omega) hfu hsz (fun i hi => ?_) (hK X a w ι _ (H.congr hgq) hS2 fun env' h' ι' a' w' hq H2 S2 => ⟨rfl, env', h', ι', hq, H2, S2⟩)
   by_cases him : i < m
   ·rw [all i him]; simp [him]
   ·rw [hno i (by omega)]; simp [him]
  intro fuel
  induction fuel with
  | zero =>
   intro listed a w g ι hsz hc hno H hg hi M
   refine fin 0 listed a w g ι hsz (by omega) hno (fun i hi => ?_) H hg M
   have h0 : ((List.range m).filter fun j => !listed.getD j true) = [] := Xj (by omega)
   rw [X16] at h0
   have := h0 i (Xe.2 hi)
   simp only [Bool.not_eq_true, X1k] at this
   have hi' : i < listed.size := by omega
   simp only [X2, X6 hi', Xh] at this ⊢
   exact this
  | succ fuel ih =>
   intro listed a w g ι hsz hc hno H hg hι M
   by_cases hall : ∀ i, i < m → listed.getD i false = true
   ·exact fin (fuel + 1) listed a w g ι hsz (by omega) hno hall H hg M
   have hlow : ∀ i, i ∈ Region.ready .any ops listed → i < m := by
    intro i hi
    unfold Region.ready at hi
    obtain ⟨hir, hi2⟩ := X05.1 hi
    have hi' : i < ops.size := Xe.1 hir
    have ho : ops[i]? = some ops[i] := X6 hi'
    simp only [ho, Xg, Xh, X3, Xy] at hi2
    by_cases him : i < m
    ·exact him
    ·exfalso
     refine hall fun j hj => ?_
     have hre := D.tail i _ (by omega) ho j (by omega) (by simp)
     exact Y0a (S := fun k => listed.getD k false) M.down ops.size i j _ ho (fun e he hb => by
      have := Xd.1 hi2.2 e he
      simpa [hb] using this) hre
   refine ⟨fun hr => ?_, fun i hi => ?_⟩
   ·exfalso
    refine hall fun i => ?_
    induction i using Nat.strongRecOn with
    | _ i ihi =>
     intro hi
     cases hl : listed.getD i false with
     | true => rfl
     | false =>
      exfalso
      have hmem : i ∈ Region.ready .any ops listed := by
       unfold Region.ready
       refine X05.2 ⟨Xe.2 (by omega), ?_⟩
       have ho : ops[i]? = some (ops[i]'(by omega)) := X6 (by omega)
       have hl' : listed.getD i true = false := by
        have hi' : i < listed.size := by omega
        simp only [X2, X6 hi', Xh] at hl ⊢
        exact hl
       simp only [hl', Bool.not_false, Bool.true_and, ho, Xg, Xh]
       refine Xd.2 fun e he => ?_
       cases hb : Region.binds .any e with
       | false => simp
       | true =>
        have := D.back i _ ho e he hb
        simp [ihi e.on this (by omega)]
      rw [hr] at hmem
      cases hmem
   have him : i < m := hlow i hi
   unfold Region.ready at hi
   obtain ⟨hir, hi2⟩ := X05.1 hi
   have hi' : i < ops.size := Xe.1 hir
   have ho : ops[i]? = some ops[i] := X6 hi'
   simp only [ho, Xg, Xh, X3, Xy] at hi2
   obtain ⟨hul, hpred⟩ := hi2
   have hpred' : ∀ e ∈ (ops[i]).after, Region.binds .any e = true → listed.getD e.on false = true := fun e he hb => by
    have := Xd.1 hpred e he
    simpa [hb] using this
   have hulf : listed.getD i false = false := by
    have hi'' : i < listed.size := by omega
    simp only [X2, X6 hi'', Xh] at hul ⊢
    exact hul
   have hSm : ∀ k, listed.getD k false = true → k < m := fun k hk => by
    by_cases hkm : k < m
    ·exact hkm
    ·rw [hno k (by omega)] at hk; cases hk
   have hv : vs[i]? = some (vs[i]'(by omega)) := X4 (by omega)
   have hki : ks[i]? = some (ks[i]'(by omega)) := X4 (by omega)
   have hqi := hvs i ops[i] _ _ (by rw [hget i him]; exact ho) hv hki
   rw [X0h, show min i m = i from by omega, Xl] at hqi
   have hb := base _ g hg
   have hKhg : ∀ w', Keep w' h ι (Own X.B g ι) w' g ι (Own X.B g ι) := fun w' => ⟨fun β _ hA => ⟨rfl, hA⟩, fun r rt hr => ⟨rt, hb r rt hr, Xi _, fun _ => ⟨rfl, rfl⟩⟩⟩
   have hset : ∀ k, (listed.setIfInBounds i true).getD k false = if k = i then true else listed.getD k false := by
    intro k
    simp only [X2]
    by_cases hki : k = i
    ·subst hki; rw [Xf (by omega)]; simp
    ·rw [Xo (fun e => hki e.symm)]; simp [hki]
   have hnext : ∀ k, m ≤ k → (listed.setIfInBounds i true).getD k false = false := fun k hkm => by rw [hset k, if_neg (by omega)]; exact hno k hkm
   have hfu : ((List.range m).filter fun j => !(listed.setIfInBounds i true).getD j true).length + (ops.size - m) ≤ fuel := by
    have := unlisted_lt' him (by omega) hul
    omega
   -- what it looks at, as it is in the order of the text
   have hlookG : ∀ s, s ∈ (ops[i]).looksAt ops → VR w g ι (Own X.B g ι) (rd (Y24 (env ++ ext) (ops.toList.take i) (vs.take i)) s) (a.tmps.getD s undef) ∧ (effX effs i = none → VR w h ι (Own X.B g ι) (rd (Y24 env (ops.toList.take i) (vs.take i)) s) (a.tmps.getD s undef)) := by
    intro s hs
    by_cases hex : ∃ (j : Nat) (p : Oper), j < m ∧ ops[j]? = some p ∧ p.dst = some s
    ·obtain ⟨j, p, hj, hp, hd⟩ := hex
     have hij : i ≠ j := by
      rintro rfl
      rw [ho] at hp
      cases hp
      exact D.self i _ s him ho hd hs
     rcases D.look i j _ p s him hj ho hp hij hd hs with ⟨hlt, e, he, hbd, hon⟩ | ⟨hlt, e, he, hbd, hon⟩
     ·have hS : listed.getD j false = true := hon ▸ hpred' e he hbd
      have hvj : vs[j]? = some (vs[j]'(by omega)) := X4 (by omega)
      have hkj : ks[j]? = some (ks[j]'(by omega)) := X4 (by omega)
      have w1 : ∀ e0 : Env, rd (Y24 e0 (ops.toList.take i) (vs.take i)) s = (vs[j]'(by omega)) := fun e0 => by
       rw [Y2y (ops.toList.take i) (vs.take i) e0 j p (vs[j]'(by omega)) (by rw [Xa, if_pos hlt]; simpa using hp) (by rw [Xa, if_pos hlt]; exact hvj) hd
        (fun k q hq e => by
         rw [Xa] at hq
         split at hq
         ·exact (D.one j k p q s hj (by omega) hp (by simpa using hq) hd e).symm
         ·cases hq)]
      rw [w1, w1]
      refine ⟨M.putE j p _ s hS hp hvj hd, fun hqu => ?_⟩
      have hkn : ks[j]'(by omega) = none := by
       cases hkk : ks[j]'(by omega) with
       | none => rfl
       | some q =>
        exfalso
        obtain ⟨r, rt⟩ := q
        have := hks j r rt (by rw [hkj, hkk])
        exact effOkX.look hef him hj ho hp hqu this.2.1 hd hs
      exact M.putQ j p _ s hS hp hvj (by rw [hkj, hkn]) hd
     ·have w2 : ∀ e0 : Env, rd (Y24 e0 (ops.toList.take i) (vs.take i)) s = rd e0 s := fun e0 => by
       rw [Y0z (ops.toList.take i) (vs.take i) e0 (fun k q hq e => by
        rw [Xa] at hq
        split at hq
        ·have := D.one j k p q s hj (by omega) hp (by simpa using hq) hd e
         omega
        ·cases hq)]
      rw [w2, w2]
      have hun : ∀ (k : Nat) (q : Oper), listed.getD k false = true → ops[k]? = some q → q.dst ≠ some s := fun k q hk hq e2 => by
       have hjk := D.one j k p q s hj (hSm k hk) hp hq hd e2
       subst hjk
       rw [hp] at hq
       cases hq
       have := M.down j p hk hp _ he hbd
       rw [hon] at this
       simp [hulf] at this
      exact ⟨M.leftX s hun, fun _ => M.left s hun⟩
    ·have w2 : ∀ e0 : Env, rd (Y24 e0 (ops.toList.take i) (vs.take i)) s = rd e0 s := fun e0 => by
      rw [Y0z (ops.toList.take i) (vs.take i) e0 (fun k q hq e => by
       rw [Xa] at hq
       split at hq
       ·exact hex ⟨k, q, by omega, by simpa using hq, e⟩
       ·cases hq)]
     rw [w2, w2]
     have hun : ∀ (k : Nat) (q : Oper), listed.getD k false = true → ops[k]? = some q → q.dst ≠ some s := fun k q hk hq e => hex ⟨k, q, hSm k hk, hq, e⟩
     exact ⟨M.leftX s hun, fun _ => M.left s hun⟩
   simp only [wpOp, ho]
   cases hkk : ks[i]'(by omega) with
   | none =>
    rw [hkk] at hqi
    obtain ⟨he, hqi⟩ := hqi
    simp only [Option.map_none] at he
    have step := hqi (ctxOf X h g ι w) a w ι (fun e a' w' => e = Exit.normal ∧ ∃ env' h' ι', Q .normal env' h' ∧ Hol X h' ι' w' ∧ Slots N env' h' ι' (Own X.B h' ι') a' w') (H.only hb Hs hι) (fun s hs => by
      rw [own_ctxOf hb]
      exact (hlookG s hs).2 he.symm)
     (wpAny P .any ops (fun e a' w' => e = Exit.normal ∧ ∃ env' h' ι', Q .normal env' h' ∧ Hol X h' ι' w' ∧ Slots N env' h' ι' (Own X.B h' ι') a' w') fuel (listed.setIfInBounds i true)) ?_
    ·split
     ·rename_i hw; rw [if_pos hw] at step; exact .inl step
     ·rename_i hw; rw [if_neg hw] at step; exact step
    ·intro v w' hbl hvv
     rw [own_ctxOf hb] at hvv
     refine ih _ _ _ g ι (by simpa using hsz) hfu hnext (H.below hbl) (fun q => ?_) hι ?_
     ·rw [hg q]
      refine stS.congr ks 0 _ fun j rt hj => ?_
      simp only [Xl, hset]
      split
      ·rename_i hji
       subst hji
       rw [hki, hkk] at hj
       cases hj
      ·rfl
     ·exact MidY.step D M hSm him ho hv hset hpred' (Keep.below hbl) (Keep.below hbl) (fun _ => hvv) (VR.keep (hKhg w') _ _ hvv)
   | some p =>
    obtain ⟨r, rt'⟩ := p
    rw [hkk] at hqi
    obtain ⟨he, hgu, hrn, hqi⟩ := hqi
    simp only [Xg] at he
    have hpre : ∀ q, q ∈ r :: depX effs i → g.at q = (gAt (ks.take i) g0).at q := by
     intro q hqm
     rw [hg q, gAt.st ks 0 i g0]
     refine stS.congr ks 0 _ fun j rt hj => ?_
     obtain ⟨hjm, hje, _⟩ := hks j q rt hj
     have hord : j ≠ i → (j < i → Y3w ops ops.size i j = true) ∧ (i < j → Y3w ops ops.size j i = true) := fun hne => by
      rcases X0n.1 hqm with rfl | hqd
      ·exact ⟨fun hlt => effOkX.order hef him hlt hje he.symm, fun hlt => effOkX.order hef hjm hlt he.symm hje⟩
      ·exact effOkX.dep hef him hjm hne hqd hje
     simp only [Xl]
     by_cases hji : j < i
     ·rw [show decide (j < i) = true by simpa using hji]
      have hre := (hord (by omega)).1 hji
      exact Y0a (S := fun k => listed.getD k false) M.down ops.size i j _ ho hpred' hre
     ·rw [show decide (j < i) = false by simpa using hji]
      by_cases hij : j = i
      ·subst hij; exact hulf
      ·cases hlj : listed.getD j false with
       | false => rfl
       | true =>
        exfalso
        have hre := (hord hij).2 (by omega)
        have hoj : ops[j]? = some (ops[j]'(by omega)) := X6 (by omega)
        have := Y0a (S := fun k => listed.getD k false) M.down ops.size j i _ hoj (M.down j _ hlj hoj) hre
        simp [hulf] at this
    have hwant : Region.wanted (ops[i]) (yielded ops a.tmps) = true := by simp [Region.wanted, hgu]
    rw [if_pos hwant]
    refine .inl (hqi g hpre hb X a w ι _ _ H (operand_vr H.globOK (fun s hs => (hlookG s hs).1)) fun b' w' v H2 Kp hvv => ?_)
    have hne : ∀ s rt, h.at s = some rt → s ≠ r := fun s rt hs e => by rw [e, hrn] at hs; cases hs
    refine ih _ _ _ _ _ (by simpa using hsz) hfu hnext H2 (fun q => ?_) (fun s rt hs => by rw [Y25 (hne s rt hs)]; exact hι s rt hs) ?_
    ·by_cases hqr : q = r
     ·subst hqr
      rw [Y17]
      symm
      refine stS.last ks 0 i rt' _ (by rw [hki, hkk]) (by simp [hset]) fun j rt'' hij hj => ?_
      obtain ⟨hjm, hje, _⟩ := hks j q rt'' hj
      simp only [Xl, hset]
      rw [if_neg (by omega)]
      cases hlj : listed.getD j false with
      | false => rfl
      | true =>
       exfalso
       have hre := effOkX.order hef hjm hij he.symm hje
       have hoj : ops[j]? = some (ops[j]'(by omega)) := X6 (by omega)
       have := Y0a (S := fun k => listed.getD k false) M.down ops.size j i _ hoj (M.down j _ hlj hoj) hre
       simp [hulf] at this
     ·have e1 : Hp.at ((r, rt') :: g) q = g.at q := by simp only [Hp.at]; rw [if_neg (fun e => hqr e.symm)]
      rw [e1, hg q]
      refine stS.congr ks 0 _ fun j rt hj => ?_
      simp only [Xl, hset]
      split
      ·rename_i hji
       subst hji
       rw [hki, hkk] at hj
       cases hj
       exact absurd rfl hqr
      ·rfl
    ·refine MidY.step D M hSm him ho hv hset hpred' ⟨Kp.blk, fun s rt hs => ⟨rt, hs, Xi _, fun _ => ⟨Y25 (hne s rt hs), rfl⟩⟩⟩ Kp (fun hkn => ?_) hvv
     rw [hki, hkk] at hkn
     cases hkn
 have hrep : ∀ i, (Array.replicate ops.size false).getD i false = false := fun i => by
  simp only [X2, X0b]; split <;> rfl
 refine main ops.size _ a w1 g0 ι0 (by simp) ?_ (fun k _ => hrep k) H' (fun q => (Y3j ks 0 _ fun j rt hj => hrep _).symm) (fun _ _ _ => rfl) ⟨S'.size, S'.defers, ?_, ?_, fun s _ => ?_, fun s _ => S'.at_ s, ?_⟩
 ·have := X19 (fun j => !(Array.replicate ops.size false).getD j true) (List.range m)
  simp only [List.length_range] at this
  omega
 ·intro i o v s hS
  simp only [hrep] at hS
  cases hS
 ·intro i o v s hS
  simp only [hrep] at hS
  cases hS
 ·rcases rd_app env ext s with e | e
  ·rw [e]
   simp [VR]
  ·exact VR.inH hsub (hev s) (by rw [← e]; exact S'.at_ s)
 ·intro i o hS
  simp only [hrep] at hS
  cases hS
theorem AW.drawYSeq {id : Nat} {y : Code} {Q : Exit → Env → Hp → Prop} (ext : Env) (g0 : Hp) (m : Nat) (effs : List (Nat × Nat × List Nat)) (hm : P.follows .mixedOrders = true) (hk : drawOkP N ops m [] = true) (hef : effOkX ops m effs = true) (hsub : ∀ s rt, h.at s = some rt → g0.at s = some rt) (him : ImsH h h) (hpin : ∀ s rt, g0.at s = some rt → 2000 ≤ s ∧ s < 3000 → h.at s = some rt) (hev : ∀ s, inHb h (rd env s) = true) (hq : DOpsY P ops h ext effs 0 (ops.toList.take m) env g0 (fun e g => OpsW P N ops (ops.toList.drop m) e g (fun e h => AW P N y e h Q))) :
  AW P N (.seq (.region id ops true) y) (env ++ ext) g0 Q :=
 Yc (AW.drawY ext g0 m effs hm hk hef hsub him hpin hev hq)
end
end Go.Abs
/-
 Own work. The generated walks, part 30: a store in a drawn region.
-/
namespace Go.Abs
open Go.RowKit
section
variable {P : Program} {N : Nat} {ops : Array Oper} {env : Env} {h : Hp}
theorem RStep.store {o : Oper} {t : TypeId} {x y : Operand} (ho : o.op = .store t x y) {r ver off : Nat} {rt : Rt}
  (hx : st (rdo env x) = .ref r ver off) (hgx : gd (rdo env x)) (hgy : gd (rdo env y)) (hrt : h.at r = some rt) (hver : rt.ver = ver) (hl : rt.live = true) (hsz : szt P t = some (Y2z (st (rdo env y))).length) (hok : okC h (st (rdo env y)))
  (hfit : off + (Y2z (st (rdo env y))).length ≤ rt.cs.length) : RStep P o env h r ⟨rt.ver, true, rt.e, rt.k, putA rt.cs off (Y2z (st (rdo env y)))⟩ .any := by
 intro X a w ι Q next H hop hnx
 obtain ⟨rt', g, hrt', _, hg, hxv⟩ := Y4p (hx ▸ (hop x (by simp [ho, Op.operands])).st hgx) (by simp [hrt, hver])
 rw [hrt] at hrt'
 cases hrt'
 obtain ⟨arr, c1, c2, c3, c4, c5⟩ := (H.roots r rt hrt hl).row hg
 obtain ⟨hv1, hv2⟩ := hok.sound ((hop y (by simp [ho, Op.operands])).st hgy)
 have hvl : (a.eval y).cells.toList.length = (Y2z (st (rdo env y))).length := hv1.length
 have hcl : (arr.toList.take rt.cs.length).length = rt.cs.length := c4.length
 have hal : rt.cs.length ≤ arr.size := by simp at hcl; omega
 have hst := run_storeCells_at P g off rt.e (a.eval y).cells.toList 0 arr w c1 (by simp at hvl ⊢; omega) hv2
 simp only [X0u] at hst
 have hrun : (execOp a.eval o).run P w = .ok .skip (w.setRow g (putA arr.toList off (a.eval y).cells.toList).toArray) := by
  have hi : ∃ i, P.info? t = some i ∧ i.size = (a.eval y).cells.size := by
   unfold szt at hsz
   cases hi : P.info? t with
   | none => simp [hi] at hsz
   | some i => simp [hi] at hsz; exact ⟨i, rfl, by simp at hvl; omega⟩
  obtain ⟨i, hi, his⟩ := hi
  simp only [execOp, ho, Instr.storeAt, hxv, Instr.sureAddr, storeVar, sizeOf, typeInfo, program, X9, Sem.run, Xz, hi, Xm, his, ne_eq, not_true_eq_false, if_false, hst, putA]
 simp only [Oper.wp, hrun, Oper.upon]
 have htk : (putA arr.toList off (a.eval y).cells.toList).take rt.cs.length = putA (arr.toList.take rt.cs.length) off (a.eval y).cells.toList := by
  unfold putA
  have e1 : arr.toList.take off = (arr.toList.take rt.cs.length).take off := by rw [X0h]; congr 1; omega
  rw [X03, X03, List.take_append, List.take_append]
  have l1 : (arr.toList.take off).length = off := by simp; omega
  rw [l1]
  have l2 : (List.take rt.cs.length (List.take off arr.toList)) = List.take off arr.toList := by rw [X0h]; congr 1; omega
  rw [l2, e1]
  congr 1
  have l3 : (List.take (rt.cs.length - off) (a.eval y).cells.toList) = (a.eval y).cells.toList := Xx (by omega)
  rw [l3]
  congr 1
  rw [List.drop_take]
  congr 1
  omega
 have hpl : (putA rt.cs off (Y2z (st (rdo env y)))).length = rt.cs.length := by
  unfold putA; simp; omega
 have hup := H.upd r ⟨rt.ver, true, rt.e, rt.k, putA rt.cs off (Y2z (st (rdo env y)))⟩ (ι r) (w.setRow g (putA arr.toList off (a.eval y).cells.toList).toArray) rfl rfl rfl (by simp)
  (fun β hβ hne => setRow_other w g β _ (fun ee => hne rt hrt hl (by rw [ee]; exact hg))) (fun rt2 h2 => by rw [hrt] at h2; cases h2; exact .inr ⟨rfl, rfl, rfl⟩) (fun _ g' hg' => .inr ⟨rt, hrt, hl, hg'⟩) (fun _ Kp => by
   refine .inr ⟨g, _, hg, setRow_heap w g arr _ rt.e _ c1, ?_, c3, ?_, ?_⟩
   ·simp only [putA, X0l, Xu, Xq, X1f, X0m] at hvl ⊢
    omega
   ·rw [hpl]
    show VRL _ _ _ _ _ (List.take rt.cs.length (putA arr.toList off (a.eval y).cells.toList))
    rw [htk]
    exact VRL.putA off (VRL.keep Kp _ _ c4) (VRL.keep Kp _ _ hv1)
   ·rw [hpl]
    show ∀ u ∈ (List.take rt.cs.length (putA arr.toList off (a.eval y).cells.toList)), u.oneCell' = true
    rw [htk]
    intro u hu
    unfold putA at hu
    rcases X0p.1 hu with hu | hu
    ·rcases X0p.1 hu with hu | hu
     ·exact c5 u (List.mem_of_mem_take hu)
     ·exact hv2 u hu
    ·exact c5 u (List.mem_of_mem_drop hu))
 exact hnx _ _ _ hup.1 hup.2 (by simp only [VR])
theorem sub_ins {h1 h2 : Hp} {r : Nat} {rt : Rt} (hn : ((h1 ++ h2).at r).isNone = true) : ∀ s rt', Hp.at (h1 ++ h2) s = some rt' → Hp.at (h1 ++ (r, rt) :: h2) s = some rt' := by
 intro s rt' hs
 have hne : ¬ r = s := by
  rintro rfl
  rw [X10] at hn
  rw [hn] at hs
  cases hs
 rw [Y0s] at hs
 rw [Y0s]
 have e : Hp.at ((r, rt) :: h2) s = Hp.at h2 s := by simp only [Hp.at, if_neg hne]
 rw [e]
 exact hs
theorem pin_ins {h1 h2 : Hp} {r : Nat} {rt : Rt} (hn : (decide (r < 2000) || decide (3000 ≤ r)) = true) : ∀ s rt', Hp.at (h1 ++ (r, rt) :: h2) s = some rt' → 2000 ≤ s ∧ s < 3000 → Hp.at (h1 ++ h2) s = some rt' := by
 intro s rt' hs h2'
 simp only [X0c, decide_eq_true_eq] at hn
 rw [Y0s] at hs
 rw [Y0s]
 have e : Hp.at ((r, rt) :: h2) s = Hp.at h2 s := by simp only [Hp.at, if_neg (show ¬ r = s by omega)]
 rw [e] at hs
 exact hs
def envIn (h : Hp) (env : Env) : Bool := env.all fun p => inHb h p.2
theorem envIn_rd {h : Hp} : ∀ {env : Env}, envIn h env = true → ∀ s, inHb h (rd env s) = true
 | [], _, s => rfl
 | (i, v) :: env, hi, s => by
  unfold envIn at hi
  rw [X0i, X3] at hi
  rw [rd]
  split
  ·exact hi.1
  ·exact envIn_rd hi.2 s
theorem RStep.move {o : Oper} {x : Operand} (ho : o.op = .move x) {r : Nat} {rt : Rt} (hrt : h.at r = some rt) : RStep P o env h r rt (rdo env x) := by
 intro X a w ι Q next H hop hnx
 have he : ∀ q, Hp.at ((r, rt) :: h) q = h.at q := fun q => by
  simp only [Hp.at]
  split
  ·rename_i e
   subst e
   exact hrt.symm
  ·rfl
 have hu : upd ι r (ι r) = ι := by
  funext q
  unfold upd
  split <;> simp_all
 have hrun : (execOp a.eval o).run P w = .ok (.value (a.eval x)) w := by simp [execOp, ho]
 simp only [Oper.wp, hrun, Oper.upon]
 have hv := hop x (by simp [ho, Op.operands])
 refine hnx (ι r) w _ (by rw [hu]; exact H.congr he) (by rw [hu, own_congr he]; exact Keep.congr he) (by rw [hu, own_congr he]; exact VR.keep (Keep.congr he) _ _ hv)
end
end Go.Abs
namespace Go.Abs
theorem Y2 {P : Program} {N : Nat} {ops : Array Oper} {env : Env} {h : Hp} (n : Nat) (l : List Nat) (env' : Env) {os : List Oper} {K : Env → Hp → Prop} (hw : OpsW P N ops (os.drop n) env' h K)
  (he : kept l (evalS P N ops h (os.take n) env) = some ([], env') := by kernel_rfl) : OpsW P N ops os env h K := OpsW.seg n l [] env' he trivial hw
theorem Y5k {P : Program} {N : Nat} {ops : Array Oper} {env : Env} {h : Hp} (n : Nat) (l : List Nat) (qs : List Prop) (env' : Env) {os : List Oper} {K : Env → Hp → Prop} (hq : AllP qs) (hw : OpsW P N ops (os.drop n) env' h K)
  (he : kept l (evalS P N ops h (os.take n) env) = some (qs, env') := by kernel_rfl) : OpsW P N ops os env h K := OpsW.seg n l qs env' he hq hw
def qsO : Option (List Prop × Env) → List Prop
 | some (q, _) => q
 | none => [False]
theorem Y8 {P : Program} {N : Nat} {ops : Array Oper} {env : Env} {h : Hp} (n : Nat) (l : List Nat) (env' : Env) {os : List Oper} {K : Env → Hp → Prop} (hq : AllP (qsO (kept l (evalS P N ops h (os.take n) env)))) (hw : OpsW P N ops (os.drop n) env' h K)
  (he : (kept l (evalS P N ops h (os.take n) env)).map Prod.snd = some env' := by kernel_rfl) : OpsW P N ops os env h K := by
 cases hk : kept l (evalS P N ops h (os.take n) env) with
 | none => rw [hk] at he; cases he
 | some x =>
  rw [hk] at he hq
  obtain ⟨q, e⟩ := x
  simp only [Xg, Xb] at he
  subst he
  exact OpsW.seg n l q e hk hq hw
theorem QOps.sz {P : Program} {ops : Array Oper} {env : Env} {h : Hp} {N : Nat} (n : Nat) (env' : Env) {os : List Oper} {K : Env → Prop} (hq : AllP (qsO (evalS P N ops h (os.take n) env))) (hw : QOps P ops h (os.drop n) env' K)
  (he : (evalS P N ops h (os.take n) env).map Prod.snd = some env' := by kernel_rfl) : QOps P ops h os env K := by
 cases hk : evalS P N ops h (os.take n) env with
 | none => rw [hk] at he; cases he
 | some x =>
  rw [hk] at he hq
  obtain ⟨q, e⟩ := x
  simp only [Xg, Xb] at he
  subst he
  exact QOps.seg (N := N) n q e hk hq hw
theorem Ya {P : Program} {N : Nat} {ops : Array Oper} {env : Env} {h : Hp} {l : List Oper} {K : Env → Hp → Prop} (env' : Env) (h' : Hp) (hs : StC env h env' h') (hw : OpsW P N ops l env' h' K) : OpsW P N ops l env h K := OpsW.recast hs hw
theorem Yh {P : Program} {fn : Func} {r : AV} {rs : List ResultVar} {xs : List AV} {env : Env} {h : Hp} (hres : fn.results = rs.toArray) (hv : ResV P h env rs xs) (e : resOf xs = r := by kernel_rfl) : Done P fn (fun r' _ => r' = r) .ret env h := Y1k hres hv e
theorem Ys {P : Program} {N : Nat} {ops : Array Oper} {env : Env} {h : Hp} {o : Oper} {f : FuncId} {xs : List Operand} {ts : Array TypeId} {rest : List Oper} {K : Env → Hp → Prop} {ys : List AV} {r : AV} (ho : o.op = .call ⟨.value (.func f), xs.toArray, ts⟩) (ha : ArgL h [] (xs.map fun x => st (rdo env x)) ys) (hs : QSpec P f ys r) (hr : OpsW P N ops rest (setd env o.dst r) h K)
  (hc : Y5a P f = true := by kernel_rfl) (hgu : o.guard = none := by rfl) (hd : o.dst.all (· < N) = true := by rfl) (hgd : ∀ x ∈ xs, gd (rdo env x) := by exact Yg trivial) (hp : pur r = true := by rfl) : OpsW P N ops (o :: rest) env h K := OpsW.qcall ho hc hgu hd hgd ha hs hp hr
theorem RtsC.o {h h' : Hp} {φ : Nat → Option Nat} {r r' : Nat} {rt rt' : Rt} {l : Hp} (e : (φ r', h.at r, rt'.live, rt'.e, rt'.k) = (some r, some rt, rt.live, rt.e, rt.k)) (c : CstL h h' φ rt.cs rt'.cs) (k : RtsC h h' φ l) : RtsC h h' φ ((r', rt') :: l) := by
 simp only [Prod.mk.injEq] at e
 exact .old e.1 e.2.1 e.2.2.1 e.2.2.2.1 e.2.2.2.2 c k
theorem Cst.r {h h' : Hp} {φ : Nat → Option Nat} {r r' ver ver' off : Nat} {rt rt' : Rt} (e : (h.at r, h'.at r', φ r', rt.ver, rt'.ver) = (some rt, some rt', some r, ver, ver')) : Cst h h' φ (.ref r ver off) (.ref r' ver' off) := by
 simp only [Prod.mk.injEq] at e
 exact .ref e.1 e.2.1 e.2.2.1 e.2.2.2.1 e.2.2.2.2
theorem Cst.s {h h' : Hp} {φ : Nat → Option Nat} {r r' ver ver' off n : Nat} {rt rt' : Rt} (e : (h.at r, h'.at r', φ r', rt.ver, rt'.ver, rt'.k) = (some rt, some rt', some r, ver, ver', rt.k)) : Cst h h' φ (.rsl r ver off n) (.rsl r' ver' off n) := by
 simp only [Prod.mk.injEq] at e
 exact .rsl e.1 e.2.1 e.2.2.1 e.2.2.2.1 e.2.2.2.2.1 e.2.2.2.2.2
theorem Ex.t {n : Env → Hp → Prop} {Q : Exit → Env → Hp → Prop} {e : Env} {h : Hp} : Ex.then n Q .ret e h = Q .ret e h := rfl
theorem Ex.b {i : Nat} {Q : Exit → Env → Hp → Prop} {e : Env} {h : Hp} : Ex.inBlock i Q .ret e h = Q .ret e h := rfl
theorem Ex.n {Q : Exit → Env → Hp → Prop} {e : Env} {h : Hp} : Ex.noGoto Q .ret e h = Q .ret e h := rfl
theorem Ex.y {l : Nat} {J : Env → Hp → Prop} {Q : Exit → Env → Hp → Prop} {e : Env} {h : Hp} : Ex.jump l J Q .ret e h = Q .ret e h := rfl
abbrev AV.j (n : Int) : AV := .int .i64 n
abbrev sU (l : List Int) : AV := slA (eI .u8) l
abbrev sC (l : List (List Int)) : AV := slA (eL (eI .u8)) l
abbrev sD (l : List (List Bool)) : AV := slA (eL eB) l
theorem Y9 {P : Program} {N : Nat} {c : Operand} {x y : Code} {env : Env} {h : Hp} {Q : Exit → Env → Hp → Prop} {b : Bool} {α : Type} {u v : Option α} {r : α} (H : _root_.cond b u v = some r) (hc : rdo env c = .bool b)
  (h1 : b = true → u = some r → AW P N x env h Q) (h2 : b = false → v = some r → AW P N y env h Q) : AW P N (.cond c x y) env h Q :=
 AW.cond hc (fun e => h1 e (condT e H)) (fun e => h2 e (condF e H))
end Go.Abs
