/-
  Own work. Several texts of the library in one.
-/
import Derived.Test.YtfpcbalkioolmaaDoorLibF
namespace Go
abbrev Value.j (n : Int) : Value := .int .i64 n
end Go
set_option linter.unusedSimpArgs false
set_option linter.unusedVariables false
/-
  Own work. The generated walks, part 29: regions that draw their order and in which a root that was there before is turned, while the other operations do not look at it.
-/
namespace Go.Abs
open Go.RowKit
section
variable {P : Program} {N : Nat} {ops : Array Oper} {env : Env} {h : Hp}
def imC (h : Hp) : AV → Bool
  | .im _ => true
  | .rsl r _ _ _ => (h.at r).isSome
  | _ => false
inductive ImsH (h0 : Hp) : Hp → Prop
  | nil : ImsH h0 []
  | cons {i : Nat} {rt : Rt} {l : Hp} : rt.cs.all (imC h0) = true → ImsH h0 l → ImsH h0 ((i, rt) :: l)
  | ims {i : Nat} {rt : Rt} {l : Hp} (ys : List IV) : rt.cs = ys.map .im → ImsH h0 l → ImsH h0 ((i, rt) :: l)
theorem ims_all (h0 : Hp) : ∀ ys : List IV, (ys.map AV.im).all (imC h0) = true
  | [] => rfl
  | y :: ys => by rw [List.map_cons, List.all_cons, ims_all h0 ys]; rfl
theorem ImsH.get {h0 : Hp} : ∀ {h : Hp}, ImsH h0 h → ∀ r rt, h.at r = some rt → rt.cs.all (imC h0) = true
  | _, .nil, r, rt, hr => by simp [Hp.at] at hr
  | _, .cons hi hl, r, rt, hr => by
    simp only [Hp.at] at hr
    split at hr
    · cases hr; exact hi
    · exact hl.get r rt hr
  | _, .ims ys hi hl, r, rt, hr => by
    simp only [Hp.at] at hr
    split at hr
    · cases hr; rw [hi]; exact ims_all h0 ys
    · exact hl.get r rt hr
theorem VRL.imKeep {w : World} {h g : Hp} {ι : Nat → Bk} {A A' : Nat → Prop} (hsub : ∀ s rt, h.at s = some rt → g.at s = some rt) (hA : ∀ β, A' β → A β) : ∀ (cs : List AV) (l : List Value), cs.all (imC h) = true → VRL w g ι A cs l → VRL w h ι A' cs l
  | [], l, _, hv => by simpa only [VRL] using hv
  | c :: cs, l, hi, hv => by
    rw [List.all_cons, Bool.and_eq_true] at hi
    simp only [VRL] at hv ⊢
    obtain ⟨v, l', e, h1, h2⟩ := hv
    refine ⟨v, l', e, ?_, VRL.imKeep hsub hA cs l' hi.2 h2⟩
    cases c with
    | im x =>
      simp only [VR] at h1 ⊢
      exact VRI.keep (fun β _ hn => ⟨rfl, fun ha => hn (hA β ha)⟩) x v h1
    | rsl r ver off n =>
      simp only [VR] at h1 ⊢
      obtain ⟨rt, h3⟩ := Option.isSome_iff_exists.1 hi.1
      obtain ⟨rt', h4, h5⟩ := h1
      rw [hsub r rt h3] at h4
      cases h4
      exact ⟨rt, h3, h5⟩
    | _ => simp [imC] at hi
theorem Hol.sub {X : Ctx} {h g : Hp} {ι : Nat → Bk} {w : World} (H : Hol X g ι w) (hsub : ∀ s rt, h.at s = some rt → g.at s = some rt) (him : ImsH h h) (hpin : ∀ s rt, g.at s = some rt → 2000 ≤ s ∧ s < 3000 → h.at s = some rt) : Hol X h ι w where
  roots r rt hr hl := by
    have hA : ∀ β, Own X.B h ι β → Own X.B g ι β := fun β ho => by
      rcases ho with ho | ⟨s, st, h1, h2, h3⟩
      · exact .inl ho
      · exact .inr ⟨s, st, hsub s st h1, h2, h3⟩
    rcases H.roots r rt (hsub r rt hr) hl with c | ⟨q, arr, c1, c2, c3, c4, c5, c6⟩
    · exact .inl c
    · exact .inr ⟨q, arr, c1, c2, c3, c4, VRL.imKeep hsub hA _ _ (him.get r rt hr) c5, c6⟩
  inj r r' rt rt' q h1 h2 := H.inj r r' rt rt' q (hsub _ _ h1) (hsub _ _ h2)
  place r rt q h1 := H.place r rt q (hsub _ _ h1)
  os := H.os
  tape := H.tape
  output := H.output
  size := H.size
  frame := H.frame
  old := H.old
  glob := H.glob
  pin r b k hp := by
    obtain ⟨a, rt, c, d⟩ := H.pin r b k hp
    exact ⟨a, rt, hpin r rt c a, d⟩
def DOpsY (P : Program) (ops : Array Oper) (h : Hp) (ext : Env) (effs : List (Nat × Nat × List Nat)) : Nat → List Oper → Env → Hp → (Env → Hp → Prop) → Prop
  | _, [], env, g, K => K (env ++ ext) g
  | i, o :: l, env, g, K => match effX effs i with
    | none => ∃ av, Quiet P ops o env h av ∧ DOpsY P ops h ext effs (i + 1) l (setd env o.dst av) g K
    | some r => ∃ rt' av, o.guard = none ∧ h.at r = none ∧ (∀ g' : Hp, (∀ q, q ∈ r :: depX effs i → g'.at q = g.at q) → (∀ s rt, h.at s = some rt → g'.at s = some rt) → RStep P o (env ++ ext) g' r rt' av) ∧ DOpsY P ops h ext effs (i + 1) l (setd env o.dst av) ((r, rt') :: g) K
theorem DOpsY.nil {effs : List (Nat × Nat × List Nat)} {i : Nat} {g : Hp} {K : Env → Hp → Prop} {ext : Env} (hK : K (env ++ ext) g) : DOpsY P ops h ext effs i [] env g K := hK
theorem DOpsY.q {ext : Env} {effs : List (Nat × Nat × List Nat)} {g : Hp} {K : Env → Hp → Prop} : ∀ (n : Nat) {i : Nat} {l : List Oper} {env : Env}, ((List.range n).all fun j => (effX effs (i + j)).isNone) = true → QOps P ops h (l.take n) env (fun e => DOpsY P ops h ext effs (i + n) (l.drop n) e g K) → DOpsY P ops h ext effs i l env g K
  | 0, i, l, env, _, hq => by simpa [QOps] using hq
  | n + 1, i, [], env, _, hq => by simpa [QOps, DOpsY] using hq
  | n + 1, i, o :: l, env, ha, hq => by
    simp only [List.take_succ_cons, QOps, List.drop_succ_cons] at hq
    obtain ⟨av, h1, h2⟩ := hq
    have h0 := List.all_eq_true.1 ha 0 (by simp)
    simp only [Nat.add_zero, Option.isNone_iff_eq_none] at h0
    simp only [DOpsY, h0]
    refine ⟨av, h1, DOpsY.q n (List.all_eq_true.2 fun j hj => ?_) (by rwa [show i + 1 + n = i + (n + 1) by omega])⟩
    have := List.all_eq_true.1 ha (j + 1) (by simpa using hj)
    rwa [show i + (j + 1) = i + 1 + j by omega] at this
theorem DOpsY.e {ext : Env} {effs : List (Nat × Nat × List Nat)} {i : Nat} {o : Oper} {l : List Oper} {g : Hp} {K : Env → Hp → Prop} {rt' : Rt} {av : AV} (r : Nat) (he : effX effs i = some r) (hg : o.guard = none) (hr : h.at r = none)
    (hs : ∀ g' : Hp, (∀ q, q ∈ r :: depX effs i → g'.at q = g.at q) → (∀ s rt, h.at s = some rt → g'.at s = some rt) → RStep P o (env ++ ext) g' r rt' av) (hw : DOpsY P ops h ext effs (i + 1) l (setd env o.dst av) ((r, rt') :: g) K) : DOpsY P ops h ext effs i (o :: l) env g K := by
  simp only [DOpsY, he]
  exact ⟨rt', av, hg, hr, hs, hw⟩
structure MidY (N : Nat) (ops : Array Oper) (env envF : Env) (vs : List AV) (ks : List (Option (Nat × Rt))) (h g : Hp) (ι : Nat → Bk) (A : Nat → Prop) (S : Nat → Bool) (a : Act) (w : World) : Prop where
  size : a.tmps.size = N
  defers : a.defers = []
  putQ : ∀ (i : Nat) (o : Oper) (v : AV) (s : Nat), S i = true → ops[i]? = some o → vs[i]? = some v → ks[i]? = some none → o.dst = some s → VR w h ι A v (a.tmps.getD s undef)
  putE : ∀ (i : Nat) (o : Oper) (v : AV) (s : Nat), S i = true → ops[i]? = some o → vs[i]? = some v → o.dst = some s → VR w g ι A v (a.tmps.getD s undef)
  left : ∀ s, (∀ (i : Nat) (o : Oper), S i = true → ops[i]? = some o → o.dst ≠ some s) → VR w h ι A (rd env s) (a.tmps.getD s undef)
  leftX : ∀ s, (∀ (i : Nat) (o : Oper), S i = true → ops[i]? = some o → o.dst ≠ some s) → VR w g ι A (rd envF s) (a.tmps.getD s undef)
  down : ∀ (i : Nat) (o : Oper), S i = true → ops[i]? = some o → ∀ e ∈ o.after, Region.binds .any e = true → S e.on = true
theorem MidY.step {envF : Env} {ι ι' : Nat → Bk} {g g' : Hp} {A A' : Nat → Prop} {m i : Nat} {ds : List Nat} {vs : List AV} {ks : List (Option (Nat × Rt))} {S S2 : Nat → Bool} {a : Act} {w w' : World} {v : Value} {u0 : AV} {oi : Oper} (D : DrawOkP N ops m ds) (M : MidY N ops env envF vs ks h g ι A S a w) (hSm : ∀ k, S k = true → k < m) (him : i < m) (ho : ops[i]? = some oi)
    (hv : vs[i]? = some u0) (hset : ∀ k, S2 k = if k = i then true else S k) (hpred' : ∀ e ∈ oi.after, Region.binds .any e = true → S e.on = true) (hKB : Keep w h ι A w' h ι' A') (hKG : Keep w g ι A w' g' ι' A') (hvq : ks[i]? = some none → VR w' h ι' A' u0 v) (hvv : VR w' g' ι' A' u0 v) :
    MidY N ops env envF vs ks h g' ι' A' S2 (a.put oi.dst v) w' := by
  have hother : ∀ s, oi.dst ≠ some s → (a.put oi.dst v).tmps.getD s undef = a.tmps.getD s undef := by
    intro s hs
    cases hd : oi.dst with
    | none => rfl
    | some d =>
      have : d ≠ s := fun e => hs (by rw [hd, e])
      simp only [Act.put, Array.getD_eq_getD_getElem?, Array.getElem?_setIfInBounds_ne this]
  have hself : ∀ s, oi.dst = some s → (a.put oi.dst v).tmps.getD s undef = v := by
    intro s hs
    have hsN : s < N := by have := D.dst i _ him ho; rw [hs] at this; simpa using this
    rw [hs]
    simp only [Act.put, Array.getD_eq_getD_getElem?]
    rw [Array.getElem?_setIfInBounds_self_of_lt (by rw [M.size]; exact hsN)]
    rfl
  refine ⟨?_, ?_, ?_, ?_, ?_, ?_, ?_⟩
  · rw [← M.size]; unfold Act.put; split <;> simp
  · rw [← M.defers]; unfold Act.put; split <;> rfl
  · intro k o u s hk hok huk hks hd
    simp only [hset] at hk
    by_cases hki : k = i
    · subst hki
      rw [ho] at hok; cases hok
      rw [hv] at huk; cases huk
      rw [hself s hd]
      exact hvq hks
    · rw [if_neg hki] at hk
      rw [hother s (fun e => hki (D.one k i o _ s (hSm k hk) him hok ho hd e))]
      exact VR.keep hKB _ _ (M.putQ k o u s hk hok huk hks hd)
  · intro k o u s hk hok huk hd
    simp only [hset] at hk
    by_cases hki : k = i
    · subst hki
      rw [ho] at hok; cases hok
      rw [hv] at huk; cases huk
      rw [hself s hd]
      exact hvv
    · rw [if_neg hki] at hk
      rw [hother s (fun e => hki (D.one k i o _ s (hSm k hk) him hok ho hd e))]
      exact VR.keep hKG _ _ (M.putE k o u s hk hok huk hd)
  · intro s hs
    have hne : oi.dst ≠ some s := hs i _ (by simp [hset]) ho
    rw [hother s hne]
    refine VR.keep hKB _ _ (M.left s fun k o hk hok => hs k o ?_ hok)
    simp only [hset]
    split
    · rfl
    · exact hk
  · intro s hs
    have hne : oi.dst ≠ some s := hs i _ (by simp [hset]) ho
    rw [hother s hne]
    refine VR.keep hKG _ _ (M.leftX s fun k o hk hok => hs k o ?_ hok)
    simp only [hset]
    split
    · rfl
    · exact hk
  · intro k o hk hok e he hb'
    simp only [hset] at hk ⊢
    by_cases hki : k = i
    · subst hki
      rw [ho] at hok; cases hok
      have := hpred' e he hb'
      split
      · rfl
      · exact this
    · rw [if_neg hki] at hk
      have := M.down k o hk hok e he hb'
      split
      · rfl
      · exact this
end
end Go.Abs
/-
  Own work. The generated walks, part 30: a store in a drawn region.
-/
namespace Go.Abs
open Go.RowKit
section
variable {P : Program} {N : Nat} {ops : Array Oper} {env : Env} {h : Hp}
theorem RStep.store {o : Oper} {t : TypeId} {x y : Operand} (ho : o.op = .store t x y) {r ver off : Nat} {rt : Rt}
    (hx : st (rdo env x) = .ref r ver off) (hgx : gd (rdo env x)) (hgy : gd (rdo env y)) (hrt : h.at r = some rt) (hver : rt.ver = ver) (hl : rt.live = true) (hsz : szt P t = some (cellsA (st (rdo env y))).length) (hok : okC h (st (rdo env y)))
    (hfit : off + (cellsA (st (rdo env y))).length ≤ rt.cs.length) : RStep P o env h r ⟨rt.ver, true, rt.e, rt.k, putA rt.cs off (cellsA (st (rdo env y)))⟩ .any := by
  intro X a w ι Q next H hop hnx
  obtain ⟨rt', g, hrt', _, hg, hxv⟩ := VR.ref_now (hx ▸ (hop x (by simp [ho, Op.operands])).st hgx) (by simp [hrt, hver])
  rw [hrt] at hrt'
  cases hrt'
  obtain ⟨arr, c1, c2, c3, c4, c5⟩ := (H.roots r rt hrt hl).row hg
  obtain ⟨hv1, hv2⟩ := hok.sound ((hop y (by simp [ho, Op.operands])).st hgy)
  have hvl : (a.eval y).cells.toList.length = (cellsA (st (rdo env y))).length := hv1.length
  have hcl : (arr.toList.take rt.cs.length).length = rt.cs.length := c4.length
  have hal : rt.cs.length ≤ arr.size := by simp at hcl; omega
  have hst := run_storeCells_at P g off rt.e (a.eval y).cells.toList 0 arr w c1 (by simp at hvl ⊢; omega) hv2
  simp only [Nat.add_zero] at hst
  have hrun : (execOp a.eval o).run P w = .ok .skip (w.setRow g (putA arr.toList off (a.eval y).cells.toList).toArray) := by
    have hi : ∃ i, P.info? t = some i ∧ i.size = (a.eval y).cells.size := by
      unfold szt at hsz
      cases hi : P.info? t with
      | none => simp [hi] at hsz
      | some i => simp [hi] at hsz; exact ⟨i, rfl, by simp at hvl; omega⟩
    obtain ⟨i, hi, his⟩ := hi
    simp only [execOp, ho, Instr.storeAt, hxv, Instr.sureAddr, storeVar, sizeOf, typeInfo, program, Sem.run_bind, Sem.run, Sem.run_pure, hi, Result.andThen_ok, his, ne_eq, not_true_eq_false, if_false, hst, putA]
  simp only [Oper.wp, hrun, Oper.upon]
  have htk : (putA arr.toList off (a.eval y).cells.toList).take rt.cs.length = putA (arr.toList.take rt.cs.length) off (a.eval y).cells.toList := by
    unfold putA
    have e1 : arr.toList.take off = (arr.toList.take rt.cs.length).take off := by rw [List.take_take]; congr 1; omega
    rw [List.append_assoc, List.append_assoc, List.take_append, List.take_append]
    have l1 : (arr.toList.take off).length = off := by simp; omega
    rw [l1]
    have l2 : (List.take rt.cs.length (List.take off arr.toList)) = List.take off arr.toList := by rw [List.take_take]; congr 1; omega
    rw [l2, e1]
    congr 1
    have l3 : (List.take (rt.cs.length - off) (a.eval y).cells.toList) = (a.eval y).cells.toList := List.take_of_length_le (by omega)
    rw [l3]
    congr 1
    rw [List.drop_take]
    congr 1
    omega
  have hpl : (putA rt.cs off (cellsA (st (rdo env y)))).length = rt.cs.length := by
    unfold putA; simp; omega
  have hup := H.upd r ⟨rt.ver, true, rt.e, rt.k, putA rt.cs off (cellsA (st (rdo env y)))⟩ (ι r) (w.setRow g (putA arr.toList off (a.eval y).cells.toList).toArray) rfl rfl rfl (by simp)
    (fun β hβ hne => setRow_other w g β _ (fun ee => hne rt hrt hl (by rw [ee]; exact hg))) (fun rt2 h2 => by rw [hrt] at h2; cases h2; exact .inr ⟨rfl, rfl, rfl⟩) (fun _ g' hg' => .inr ⟨rt, hrt, hl, hg'⟩) (fun _ Kp => by
      refine .inr ⟨g, _, hg, setRow_heap w g arr _ rt.e _ c1, ?_, c3, ?_, ?_⟩
      · simp only [putA, List.size_toArray, List.length_append, List.length_take, List.length_drop, Array.length_toList] at hvl ⊢
        omega
      · rw [hpl]
        show VRL _ _ _ _ _ (List.take rt.cs.length (putA arr.toList off (a.eval y).cells.toList))
        rw [htk]
        exact VRL.putA off (VRL.keep Kp _ _ c4) (VRL.keep Kp _ _ hv1)
      · rw [hpl]
        show ∀ u ∈ (List.take rt.cs.length (putA arr.toList off (a.eval y).cells.toList)), u.oneCell' = true
        rw [htk]
        intro u hu
        unfold putA at hu
        rcases List.mem_append.1 hu with hu | hu
        · rcases List.mem_append.1 hu with hu | hu
          · exact c5 u (List.mem_of_mem_take hu)
          · exact hv2 u hu
        · exact c5 u (List.mem_of_mem_drop hu))
  exact hnx _ _ _ hup.1 hup.2 (by simp only [VR])
theorem RStep.move {o : Oper} {x : Operand} (ho : o.op = .move x) {r : Nat} {rt : Rt} (hrt : h.at r = some rt) : RStep P o env h r rt (rdo env x) := by
  intro X a w ι Q next H hop hnx
  have he : ∀ q, Hp.at ((r, rt) :: h) q = h.at q := fun q => by
    simp only [Hp.at]
    split
    · rename_i e
      subst e
      exact hrt.symm
    · rfl
  have hu : upd ι r (ι r) = ι := by
    funext q
    unfold upd
    split <;> simp_all
  have hrun : (execOp a.eval o).run P w = .ok (.value (a.eval x)) w := by simp [execOp, ho]
  simp only [Oper.wp, hrun, Oper.upon]
  have hv := hop x (by simp [ho, Op.operands])
  refine hnx (ι r) w _ (by rw [hu]; exact H.congr he) (by rw [hu, own_congr he]; exact Keep.congr he) (by rw [hu, own_congr he]; exact VR.keep (Keep.congr he) _ _ hv)
end
end Go.Abs
/-
  Own work. Short forms of rules, for shorter generated texts.
-/
namespace Go.Abs
theorem OpsW.rc {P : Program} {N : Nat} {ops : Array Oper} {env : Env} {h : Hp} {l : List Oper} {K : Env → Hp → Prop} (env' : Env) (h' : Hp) (hs : StC env h env' h') (hw : OpsW P N ops l env' h' K) : OpsW P N ops l env h K := OpsW.recast hs hw
theorem RtsC.o {h h' : Hp} {φ : Nat → Option Nat} {r r' : Nat} {rt rt' : Rt} {l : Hp} (e : (φ r', h.at r, rt'.live, rt'.e, rt'.k) = (some r, some rt, rt.live, rt.e, rt.k)) (c : CstL h h' φ rt.cs rt'.cs) (k : RtsC h h' φ l) : RtsC h h' φ ((r', rt') :: l) := by
  simp only [Prod.mk.injEq] at e
  exact .old e.1 e.2.1 e.2.2.1 e.2.2.2.1 e.2.2.2.2 c k
theorem Cst.r {h h' : Hp} {φ : Nat → Option Nat} {r r' ver ver' off : Nat} {rt rt' : Rt} (e : (h.at r, h'.at r', φ r', rt.ver, rt'.ver) = (some rt, some rt', some r, ver, ver')) : Cst h h' φ (.ref r ver off) (.ref r' ver' off) := by
  simp only [Prod.mk.injEq] at e
  exact .ref e.1 e.2.1 e.2.2.1 e.2.2.2.1 e.2.2.2.2
theorem Cst.s {h h' : Hp} {φ : Nat → Option Nat} {r r' ver ver' off n : Nat} {rt rt' : Rt} (e : (h.at r, h'.at r', φ r', rt.ver, rt'.ver, rt'.k) = (some rt, some rt', some r, ver, ver', rt.k)) : Cst h h' φ (.rsl r ver off n) (.rsl r' ver' off n) := by
  simp only [Prod.mk.injEq] at e
  exact .rsl e.1 e.2.1 e.2.2.1 e.2.2.2.1 e.2.2.2.2.1 e.2.2.2.2.2
theorem Ex.t {n : Env → Hp → Prop} {Q : Exit → Env → Hp → Prop} {e : Env} {h : Hp} : Ex.then n Q .ret e h = Q .ret e h := rfl
theorem Ex.b {i : Nat} {Q : Exit → Env → Hp → Prop} {e : Env} {h : Hp} : Ex.inBlock i Q .ret e h = Q .ret e h := rfl
theorem Ex.n {Q : Exit → Env → Hp → Prop} {e : Env} {h : Hp} : Ex.noGoto Q .ret e h = Q .ret e h := rfl
theorem Ex.y {l : Nat} {J : Env → Hp → Prop} {Q : Exit → Env → Hp → Prop} {e : Env} {h : Hp} : Ex.jump l J Q .ret e h = Q .ret e h := rfl
abbrev AV.j (n : Int) : AV := .int .i64 n
end Go.Abs
/-
  Own work. The generated walks, part 32: maps that are only read.
-/
namespace Go.Abs
open Go.RowKit
section
variable {P : Program} {N : Nat} {ops : Array Oper} {env : Env} {h : Hp}
/- Maps that are only read: keys are numbers. -/
def findM (k : IntKind) (n : Int) : List (Value × Value) → Option (Option Value)
  | [] => some none
  | (.int k' m, v) :: es => if k = k' then (if n = m then some (some v) else findM k n es) else none
  | _ :: _ => none
theorem findM_sound {k : IntKind} {n : Int} (d : TypeDesc) (hd : d = .int k) : ∀ (es : List MapEntry) (i : Nat) (r : Option Value), findM k n (es.map fun e => (e.key, e.val)) = some r →
    ∃ q, Instr.findNow d (.int k n) es i = some q ∧ (match q, r with | some (_, v), some u => v = u | none, none => True | _, _ => False)
  | [], i, r, hf => by simp [findM] at hf; subst hf; exact ⟨none, by simp [Instr.findNow], trivial⟩
  | e :: es, i, r, hf => by
    simp only [List.map_cons] at hf
    cases hk : e.key with
    | int k' m =>
      rw [hk] at hf
      simp only [findM] at hf
      split at hf
      · rename_i ek
        subst ek
        split at hf
        · rename_i en
          subst en
          simp only [Option.some.injEq] at hf
          subst hf
          exact ⟨some (i, e.val), by simp [Instr.findNow, hk, hd, Instr.sameNow], rfl⟩
        · rename_i en
          obtain ⟨q, h1, h2⟩ := findM_sound d hd es (i + 1) r hf
          have hb : (n == m) = false := by simpa using en
          exact ⟨q, by rw [hd] at h1; simp [Instr.findNow, hk, hd, Instr.sameNow, hb, h1], h2⟩
      · cases hf
    | _ => rw [hk] at hf; simp [findM] at hf
def ofV : Value → AV
  | .agg cs => .agg (cs.toList.map fun u => .im (.val u))
  | .tuple _ => .any
  | v => .im (.val v)
theorem ofV_sound {w : World} {ι : Nat → Bk} {A : Nat → Prop} (v : Value) : VR w h ι A (ofV v) v := by
  cases v with
  | agg cs => simp only [ofV, VR]; exact ⟨cs.toList, by simp, VRL.vals _⟩
  | _ => simp [ofV, VR, VRI]
def zv (P : Program) (t : TypeId) : Option Value := match P.info? t with
  | some i => i.zero
  | none => none
theorem zv_run {t : TypeId} {v : Value} {w : World} (hz : zv P t = some v) : (zeroValue t).run P w = .ok v w := by
  unfold zv at hz
  split at hz
  · rename_i i hi
    simp [zeroValue, typeInfo, program, Sem.run, Sem.run_bind, hi, hz]
  · cases hz
def lookE (P : Program) (t : TypeId) (x i : AV) : Option AV := match x, i with
  | .im (.mp es), .im (.val (.int k n)) => match P.underlying t with
    | some (.map kt et) => if ik P kt = some k then (match findM k n es with
      | some (some v) => some (ofV v)
      | some none => (zv P et).map ofV
      | none => none) else none
    | _ => none
  | _, _ => none
theorem Quiet.lookup {o : Oper} {t : TypeId} {x y : Operand} {r : AV} (ho : o.op = .lookup t x y false) (hg : gpo ops env o (gd (rdo env x) ∧ gd (rdo env y) ∧ lookE P t (st (rdo env x)) (st (rdo env y)) = some r)) : Quiet P ops o env h (gav ops env o r) :=
  Quiet.guarded hg fun ⟨hgx, hgy, hl⟩ X a w ι Q H hop next hn => by
  have hx := (hop x (by simp [ho, Op.operands])).st hgx
  have hy := (hop y (by simp [ho, Op.operands])).st hgy
  unfold lookE at hl
  split at hl
  · rename_i es k n h1 h2
    rw [h1] at hx
    rw [h2, VR.val_iff] at hy
    split at hl
    · rename_i kt et hu
      split at hl
      · rename_i hk0
        have hk := ik_some hk0
        simp only [VR, VRI] at hx
        obtain ⟨g, ents, clock, hv, hg, _, he⟩ := hx
        have hget : (getObj g).run P w = .ok (.map ents clock) w := by simp [getObj, Sem.run, hg]
        have hck : (Instr.checkKey ents.isEmpty 10000 kt (.int k n)).run P w = .ok () w := by
          rw [show (10000 : Nat) = 9999 + 1 from rfl, Instr.checkKey]
          simp [Sem.run_bind, run_underlying hk]
        have hfin : ∀ rr v, findM k n es = some rr → (match rr with | some u => v = u | none => zv P et = some v) → (execOp a.eval o).run P w = .ok (.value v) w := by
          intro rr v hf hz
          rw [← he] at hf
          obtain ⟨q, hq1, hq2⟩ := findM_sound (.int k) rfl ents.toList 0 rr hf
          have hfk : (Instr.findKey kt (.int k n) ents.toList).run P w = .ok q w := by
            simp [Instr.findKey, Sem.run_bind, run_underlying hk, hq1]
          simp only [execOp, ho, Instr.lookup, hv, hy, Sem.run_bind, run_underlying hu, hget, Result.andThen_ok, Sem.run_pure, hck, hfk]
          cases q with
          | none =>
            cases rr with
            | none => simp [Sem.run_bind, zv_run hz]
            | some u => exact hq2.elim
          | some p =>
            obtain ⟨j, v'⟩ := p
            cases rr with
            | none => exact hq2.elim
            | some u => simp at hq2 hz; subst hq2; subst hz; simp
        split at hl
        · rename_i v hf
          simp only [Option.some.injEq] at hl
          subst hl
          simp only [Oper.wp, hfin (some v) v hf rfl, Oper.upon]
          exact hn v w (Below.refl _ _) (ofV_sound v)
        · rename_i hf
          cases hz : zv P et with
          | none => rw [hz] at hl; simp at hl
          | some v =>
            rw [hz] at hl
            simp only [Option.map_some, Option.some.injEq] at hl
            subst hl
            simp only [Oper.wp, hfin none v hf hz, Oper.upon]
            exact hn v w (Below.refl _ _) (ofV_sound v)
        · cases hl
      · cases hl
    · cases hl
  · cases hl
/- A table of short rows of cells, as a map. -/
def mapV (tab : List (Int × List Int)) : List (Value × Value) := tab.map fun p => (.int .i64 p.1, .agg (p.2.map (Value.int .u8)).toArray)
def mapAt (tab : List (Int × List Int)) (n : Int) : List Int := match tab with
  | [] => [0, 0, 0]
  | (m, l) :: r => if n = m then l else mapAt r n
theorem mapAt_len : ∀ (tab : List (Int × List Int)) (n : Int), (tab.all fun p => p.2.length == 3) = true → (mapAt tab n).length = 3
  | [], n, _ => rfl
  | (m, l) :: r, n, ht => by
    rw [List.all_cons, Bool.and_eq_true] at ht
    unfold mapAt
    split
    · simpa using ht.1
    · exact mapAt_len r n ht.2
theorem findM_tab {n : Int} : ∀ (tab : List (Int × List Int)), findM .i64 n (mapV tab) = some (some (Value.agg ((mapAt tab n).map (Value.int .u8)).toArray)) ∨ (findM .i64 n (mapV tab) = some none ∧ mapAt tab n = [0, 0, 0])
  | [] => .inr ⟨rfl, rfl⟩
  | (m, l) :: r => by
    simp only [mapV, List.map_cons, findM, if_true, mapAt]
    split
    · exact .inl rfl
    · exact findM_tab r
theorem look3 {tab : List (Int × List Int)} {n : Int} {t kt et : TypeId} (hu : P.underlying t = some (.map kt et)) (hk : ik P kt = some .i64) (hz : zv P et = some (.agg #[.int .u8 0, .int .u8 0, .int .u8 0])) (ht : (tab.all fun p => p.2.length == 3) = true) :
    lookE P t (.im (.mp (mapV tab))) (.int .i64 n) = some (.agg [.int .u8 ((mapAt tab n).getD 0 0), .int .u8 ((mapAt tab n).getD 1 0), .int .u8 ((mapAt tab n).getD 2 0)]) := by
  have hl := mapAt_len tab n ht
  have h3 : ∃ a b c, mapAt tab n = [a, b, c] := by
    match hm : mapAt tab n, hl with
    | [a, b, c], _ => exact ⟨a, b, c, rfl⟩
  obtain ⟨a, b, c, hm⟩ := h3
  unfold lookE
  simp only [hu, hk, if_true]
  rcases findM_tab (n := n) tab with h1 | ⟨h1, h2⟩
  · rw [h1, hm]; rfl
  · rw [h1, hz, h2]; rfl
end
end Go.Abs
