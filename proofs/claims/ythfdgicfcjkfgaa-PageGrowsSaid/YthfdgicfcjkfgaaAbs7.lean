/-
  Own work. The abstract layer, part 7: calls by contract.
-/
import Derived.Test.YthfdgicfcjkfgaaAbs6
set_option linter.unusedSimpArgs false
set_option linter.unusedVariables false
namespace Go.Abs
open Go.RowKit

mutual
/-- No owned root is mentioned. -/
def pur : AV → Bool
  | .any => true
  | .im _ => true
  | .agg cs => purL cs
  | .tup cs => purL cs
  | .ipt _ _ => true
  | .ref _ _ _ => false
  | .rsl _ _ _ _ => false
  | .cnd _ x => pur x
def purL : List AV → Bool
  | [] => true
  | c :: cs => pur c && purL cs
end

mutual
/-- No immutable memory is mentioned. -/
def flat : AV → Bool
  | .any => true
  | .im (.val _) => true
  | .im (.sl _ _) => false
  | .agg cs => flatL cs
  | .tup cs => flatL cs
  | .ipt _ _ => false
  | .ref _ _ _ => true
  | .rsl _ _ _ _ => true
  | .cnd _ x => flat x
def flatL : List AV → Bool
  | [] => true
  | c :: cs => flat c && flatL cs
end

mutual
theorem VR.pure {w w' : World} {h h' : Hp} {ι ι' : Nat → Bk} {A A' : Nat → Prop} (hk : ∀ β, β < w.heap.size → ¬ A β → w'.heap[β]? = w.heap[β]? ∧ ¬ A' β) : ∀ (x : AV) (v : Value), pur x = true → VR w h ι A x v → VR w' h' ι' A' x v
  | .any, _, _, _ => by simp only [VR]
  | .im x, v, _, hv => by simp only [VR] at hv ⊢; exact VRI.keep hk x v hv
  | .agg cs, v, hp, hv => by
    simp only [VR] at hv ⊢
    obtain ⟨l, hl, hr⟩ := hv
    exact ⟨l, hl, VRL.pure hk cs l (by simpa only [pur] using hp) hr⟩
  | .tup cs, v, hp, hv => by
    simp only [VR] at hv ⊢
    obtain ⟨l, hl, hr⟩ := hv
    exact ⟨l, hl, VRL.pure hk cs l (by simpa only [pur] using hp) hr⟩
  | .ipt cs off, v, _, hv => by
    simp only [VR] at hv ⊢
    obtain ⟨a, l, hl, hlie, hr⟩ := hv
    exact ⟨a, l, hl, hlie.keep hk, VRIL.keep hk cs l hr⟩
  | .ref _ _ _, _, hp, _ => by simp [pur] at hp
  | .rsl _ _ _ _, _, hp, _ => by simp [pur] at hp
  | .cnd g x, v, hp, hv => by simp only [VR] at hv ⊢; exact ⟨fun hg => VR.pure hk x v (by simpa only [pur] using hp) (hv.1 hg), hv.2⟩
theorem VRL.pure {w w' : World} {h h' : Hp} {ι ι' : Nat → Bk} {A A' : Nat → Prop} (hk : ∀ β, β < w.heap.size → ¬ A β → w'.heap[β]? = w.heap[β]? ∧ ¬ A' β) : ∀ (cs : List AV) (l : List Value), purL cs = true → VRL w h ι A cs l → VRL w' h' ι' A' cs l
  | [], _, _, hv => by simpa only [VRL] using hv
  | c :: cs, l, hp, hv => by
    simp only [VRL] at hv ⊢
    simp only [purL, Bool.and_eq_true] at hp
    obtain ⟨v, l', hl, hv, hr⟩ := hv
    exact ⟨v, l', hl, VR.pure hk c v hp.1 hv, VRL.pure hk cs l' hp.2 hr⟩
end

mutual
theorem VR.flat {w w' : World} {h h' : Hp} {ι ι' : Nat → Bk} {A A' : Nat → Prop} (hh : ∀ r rt, h.at r = some rt → ∃ rt', h'.at r = some rt' ∧ rt.ver ≤ rt'.ver ∧ (rt'.ver = rt.ver → ι' r = ι r ∧ rt'.k = rt.k)) :
    ∀ (x : AV) (v : Value), Abs.flat x = true → VR w h ι A x v → VR w' h' ι' A' x v
  | .any, _, _, _ => by simp only [VR]
  | .im (.val u), v, _, hv => by simpa [VR, VRI] using hv
  | .im (.sl _ _), _, hp, _ => by simp [Abs.flat] at hp
  | .agg cs, v, hp, hv => by
    simp only [VR] at hv ⊢
    obtain ⟨l, hl, hr⟩ := hv
    exact ⟨l, hl, VRL.flat hh cs l (by simpa only [Abs.flat] using hp) hr⟩
  | .tup cs, v, hp, hv => by
    simp only [VR] at hv ⊢
    obtain ⟨l, hl, hr⟩ := hv
    exact ⟨l, hl, VRL.flat hh cs l (by simpa only [Abs.flat] using hp) hr⟩
  | .ipt _ _, _, hp, _ => by simp [Abs.flat] at hp
  | .ref r ver off, v, _, hv => by
    simp only [VR] at hv ⊢
    obtain ⟨rt, hrt, hle, himp⟩ := hv
    obtain ⟨rt', hrt', hle', himp'⟩ := hh r rt hrt
    refine ⟨rt', hrt', Nat.le_trans hle hle', fun he => ?_⟩
    have h1 : rt'.ver = rt.ver := by omega
    rw [(himp' h1).1]
    exact himp (by omega)
  | .rsl r ver off n, v, _, hv => by
    simp only [VR] at hv ⊢
    obtain ⟨rt, hrt, hle, himp⟩ := hv
    obtain ⟨rt', hrt', hle', himp'⟩ := hh r rt hrt
    refine ⟨rt', hrt', Nat.le_trans hle hle', fun he => ?_⟩
    have h1 : rt'.ver = rt.ver := by omega
    rw [(himp' h1).1, (himp' h1).2]
    exact himp (by omega)
  | .cnd g x, v, hp, hv => by simp only [VR] at hv ⊢; exact ⟨fun hg => VR.flat hh x v (by simpa only [Abs.flat] using hp) (hv.1 hg), hv.2⟩
theorem VRL.flat {w w' : World} {h h' : Hp} {ι ι' : Nat → Bk} {A A' : Nat → Prop} (hh : ∀ r rt, h.at r = some rt → ∃ rt', h'.at r = some rt' ∧ rt.ver ≤ rt'.ver ∧ (rt'.ver = rt.ver → ι' r = ι r ∧ rt'.k = rt.k)) :
    ∀ (cs : List AV) (l : List Value), flatL cs = true → VRL w h ι A cs l → VRL w' h' ι' A' cs l
  | [], _, _, hv => by simpa only [VRL] using hv
  | c :: cs, l, hp, hv => by
    simp only [VRL] at hv ⊢
    simp only [flatL, Bool.and_eq_true] at hp
    obtain ⟨v, l', hl, hv, hr⟩ := hv
    exact ⟨v, l', hl, VR.flat hh c v hp.1 hv, VRL.flat hh cs l' hp.2 hr⟩
end

mutual
/-- No memory at all is mentioned. -/
def scal : AV → Bool
  | .any => true
  | .im (.val _) => true
  | .im (.sl _ _) => false
  | .agg cs => scalL cs
  | .tup cs => scalL cs
  | .ipt _ _ => false
  | .ref _ _ _ => false
  | .rsl _ _ _ _ => false
  | .cnd _ x => scal x
def scalL : List AV → Bool
  | [] => true
  | c :: cs => scal c && scalL cs
end

mutual
theorem VR.scal {w w' : World} {h h' : Hp} {ι ι' : Nat → Bk} {A A' : Nat → Prop} : ∀ (x : AV) (v : Value), Abs.scal x = true → VR w h ι A x v → VR w' h' ι' A' x v
  | .any, _, _, _ => by simp only [VR]
  | .im (.val u), v, _, hv => by simpa [VR, VRI] using hv
  | .im (.sl _ _), _, hp, _ => by simp [Abs.scal] at hp
  | .agg cs, v, hp, hv => by
    simp only [VR] at hv ⊢
    obtain ⟨l, hl, hr⟩ := hv
    exact ⟨l, hl, VRL.scal cs l (by simpa only [Abs.scal] using hp) hr⟩
  | .tup cs, v, hp, hv => by
    simp only [VR] at hv ⊢
    obtain ⟨l, hl, hr⟩ := hv
    exact ⟨l, hl, VRL.scal cs l (by simpa only [Abs.scal] using hp) hr⟩
  | .ipt _ _, _, hp, _ => by simp [Abs.scal] at hp
  | .ref _ _ _, _, hp, _ => by simp [Abs.scal] at hp
  | .rsl _ _ _ _, _, hp, _ => by simp [Abs.scal] at hp
  | .cnd g x, v, hp, hv => by simp only [VR] at hv ⊢; exact ⟨fun hg => VR.scal x v (by simpa only [Abs.scal] using hp) (hv.1 hg), hv.2⟩
theorem VRL.scal {w w' : World} {h h' : Hp} {ι ι' : Nat → Bk} {A A' : Nat → Prop} : ∀ (cs : List AV) (l : List Value), scalL cs = true → VRL w h ι A cs l → VRL w' h' ι' A' cs l
  | [], _, _, hv => by simpa only [VRL] using hv
  | c :: cs, l, hp, hv => by
    simp only [VRL] at hv ⊢
    simp only [scalL, Bool.and_eq_true] at hp
    obtain ⟨v, l', hl, hv, hr⟩ := hv
    exact ⟨v, l', hl, VR.scal c v hp.1 hv, VRL.scal cs l' hp.2 hr⟩
end

/-- What a callee may not touch, of what the caller owns: all but the roots `bs` that it only reads. -/
def Brw (B : Nat → Prop) (h : Hp) (ι : Nat → Bk) (bs : List Nat) (β : Nat) : Prop := Own B h ι β ∧ ∀ r ∈ bs, (ι r).blk ≠ some β

/-- An argument as the caller has it (`x`) and as the callee sees it (`y`). -/
def ArgS (h : Hp) (bs : List Nat) (x y : AV) : Prop :=
  ∀ (X : Ctx) (ι : Nat → Bk) (w : World) (v : Value), Hol X h ι w → VR w h ι (Own X.B h ι) x v → VR w [] ι (Brw X.B h ι bs) y v

section
variable {P : Program} {N : Nat} {ops : Array Oper} {env : Env} {h : Hp} {bs : List Nat}

theorem ArgS.pur {x : AV} (hp : pur x = true) : ArgS h bs x x := fun _ _ _ v _ hv => VR.pure (fun _ _ hA => ⟨rfl, fun hb => hA hb.1⟩) x v hp hv

theorem ArgS.nil : ArgS h bs (.im (.val (.slice none 0 0))) (.im (.sl [] 0)) := fun _ _ _ v _ hv => by
  rw [VR.val_iff] at hv
  subst hv
  simp only [VR, VRI]
  exact ⟨none, 0, [], rfl, Nat.le_refl _, by simp, fun a ha => by simp at ha, by simp [VRIL]⟩

theorem RootOK.row {w : World} {ι : Nat → Bk} {A : Nat → Prop} {b : Bk} {rt : Rt} {g : Nat} (hr : RootOK w h ι A b rt) (hg : b.blk = some g) :
    ∃ arr : Array Value, w.heap[g]? = some (.cells arr rt.e (0, 0)) ∧ arr.size = b.cap * rt.k ∧ b.cap ≤ maxLen ∧ VRL w h ι A rt.cs (arr.toList.take rt.cs.length) ∧ ∀ u ∈ arr.toList.take rt.cs.length, u.oneCell' = true := by
  rcases hr with ⟨h1, _⟩ | ⟨g', arr, h1, h2⟩
  · rw [h1] at hg; cases hg
  · rw [h1] at hg
    have hg : g' = g := by simpa using hg
    subst hg
    exact ⟨arr, h2⟩

/-- A slice of an owned root, read by the callee. -/
theorem ArgS.slice {r ver off n : Nat} {rt : Rt} {ys : List IV} (hb : r ∈ bs) (hrt : h.at r = some rt) (hver : rt.ver = ver) (hl : rt.live = true)
    (hcs : (rt.cs.drop off).take (n * rt.k) = ys.map .im) (hn : ys.length = n * rt.k) : ArgS h bs (.rsl r ver off n) (.im (.sl ys n)) := by
  intro X ι w v H hv
  obtain ⟨rt', hrt', _, hk, ao, c, rfl, hnc, hcase⟩ := VR.rsl_now (k := rt.k) hv (by simp [hrt, hver])
  rw [hrt] at hrt'
  cases hrt'
  have hR := H.roots r rt hrt hl
  simp only [VR, VRI]
  have hA : ∀ β, (ι r).blk = some β → ¬ Brw X.B h ι bs β := fun β hβ hbr => hbr.2 r hb hβ
  rcases hcase with ⟨b1, rfl, rfl, rfl, rfl⟩ | ⟨g, hg, ⟨rfl, hcap⟩ | ⟨rfl, rfl⟩⟩
  · have : ys = [] := List.eq_nil_of_length_eq_zero (by simpa using hn)
    subst this
    exact ⟨none, 0, [], rfl, Nat.le_refl _, by simp, fun a ha => by simp at ha, by simp [VRIL]⟩
  · obtain ⟨arr, h1, h2, h3, h4, h5⟩ := hR.row hg
    have h6 := (h4.drop off).take (n * rt.k)
    rw [hcs] at h6
    have hI := VRL.toI h6
    refine ⟨some ⟨g, off, none⟩, c, _, rfl, hnc, fun e => by simp at e, ?_, VRIL.keep (fun β hβ hA' => ⟨rfl, fun hb => hA' hb.1⟩) _ _ hI⟩
    intro a ha
    simp at ha
    subst ha
    intro i u hu
    rw [List.getElem?_take] at hu
    split at hu
    · rw [List.getElem?_drop, List.getElem?_take] at hu
      split at hu
      · rename_i hlt
        refine ⟨?_, hA g hg, ?_⟩
        · rw [addr_add, cell_of_row w g (off + i) arr rt.e (0, 0) h1]
          simpa using hu
        · apply h5
          exact List.mem_of_getElem? (i := off + i) (by rw [List.getElem?_take, if_pos hlt]; exact hu)
      · cases hu
    · cases hu
  · have : ys = [] := List.eq_nil_of_length_eq_zero (by simpa using hn)
    subst this
    by_cases hao : ao = none
    · subst hao
      exact ⟨none, 0, [], rfl, Nat.le_refl _, by simp, fun a ha => by simp at ha, by simp [VRIL]⟩
    · exact ⟨ao, 0, [], rfl, Nat.le_refl _, fun e => absurd e hao, fun a _ i u hu => by simp at hu, by simp [VRIL]⟩

/-- The arguments of a call. -/
inductive ArgL (h : Hp) (bs : List Nat) : List AV → List AV → Prop
  | nil : ArgL h bs [] []
  | cons {x y : AV} {xs ys : List AV} : ArgS h bs x y → ArgL h bs xs ys → ArgL h bs (x :: xs) (y :: ys)

theorem ArgL.sound {xs ys : List AV} (ha : ArgL h bs xs ys) {X : Ctx} {ι : Nat → Bk} {w : World} (H : Hol X h ι w) : ∀ vs : List Value, VRL w h ι (Own X.B h ι) xs vs → VRL w [] ι (Brw X.B h ι bs) ys vs := by
  induction ha with
  | nil => intro vs hv; simpa only [VRL] using hv
  | cons hs _ ih =>
    intro vs hv
    simp only [VRL] at hv ⊢
    obtain ⟨v, l', rfl, hv, hr⟩ := hv
    exact ⟨v, l', rfl, hs X ι w v H hv, ih l' hr⟩

def callable (P : Program) (f : FuncId) : Bool := match P.funcs[f]? with
  | some fn => fn.name != "runtime.NumGoroutine" && fn.body.isSome
  | none => false

theorem callFunc_run {f : FuncId} {w : World} {args : Array Value} (hc : callable P f = true) : (callFunc f args).run P w = .ok (.enter f args) w := by
  unfold callable at hc
  split at hc
  · rename_i fn hf
    simp only [Bool.and_eq_true, bne_iff_ne, ne_eq] at hc
    obtain ⟨c, hb⟩ : ∃ c, fn.body = some c := by cases hb : fn.body <;> simp_all
    simp [callFunc, program, Sem.run, hf, hc.1, hb]
  · cases hc

theorem wp_call {o : Oper} {f : FuncId} {xs : List Operand} {ts : Array TypeId} (ho : o.op = .call ⟨.value (.func f), xs.toArray, ts⟩) (hc : callable P f = true) {a : Act} {w : World} {next : Act → World → Prop} {Q : Exit → Act → World → Prop}
    (hw : Calls P f (xs.map a.eval).toArray w fun e w' => ∃ v, e = .returned v ∧ next (a.put o.dst v) w') : o.wp P a w next Q := by
  have hr : (execOp a.eval o).run P w = .ok (.enter f (xs.map a.eval).toArray) w := by
    simp only [execOp, ho, resolve, Act.eval, Sem.run_bind]
    have hof : Deferred.ofValue (.func (.func f) #[] #[]) (xs.toArray.map a.eval) = Pure.pure ({ target := .fn (.func f) #[], args := #[] ++ xs.toArray.map a.eval } : Deferred) := rfl
    simp only [hof, Sem.run_pure, Result.andThen_ok, invoke, Array.append_empty, Array.empty_append, callFunc_run hc]
    simp
  simp only [Oper.wp, hr, Oper.upon]
  refine hw.mono fun e w' ⟨v, he, hn⟩ => ?_
  subst he
  exact hn

theorem Hol.start {X : Ctx} {ι : Nat → Bk} {w : World} (H : Hol X h ι w) (bs : List Nat) : Hol ⟨w, Brw X.B h ι bs, Own (fun _ => False) [] ι⟩ [] ι w where
  roots r rt hr := by simp [Hp.at] at hr
  inj r r' rt rt' g hr := by simp [Hp.at] at hr
  place r rt g hr := by simp [Hp.at] at hr
  os := rfl
  tape := rfl
  output := rfl
  size := Nat.le_refl _
  frame _ _ _ := rfl
  old β hb := by
    refine ⟨?_, fun hs => ?_⟩
    · rcases hb.1 with hB | ⟨r, rt, hr, hl, hblk⟩
      · exact Nat.lt_of_lt_of_le (H.old β hB).1 H.size
      · obtain ⟨arr, h1, _⟩ := (H.roots r rt hr hl).row hblk
        exact lt_of_heap h1
    · rcases hs with hs | ⟨r, rt, hr, _⟩
      · exact hs
      · simp [Hp.at] at hr

/-- A contract of a function that only reads and makes new memory, which nobody owns. -/
def QSpec (P : Program) (f : FuncId) (args : List AV) (r : AV) : Prop := Spec P f args [] fun r' _ => r' = r

/-- A weaker description of a value. -/
def Sub (x y : AV) : Prop := ∀ (w : World) (h : Hp) (ι : Nat → Bk) (A : Nat → Prop) (v : Value), VR w h ι A x v → VR w h ι A y v
theorem Sub.refl (x : AV) : Sub x x := fun _ _ _ _ _ h => h
theorem Sub.nil : Sub (.im (.val (.slice none 0 0))) (.im (.sl [] 0)) := fun _ _ _ _ v hv => by
  rw [VR.val_iff] at hv
  subst hv
  simp only [VR, VRI]
  exact ⟨none, 0, [], rfl, Nat.le_refl _, by simp, fun a ha => by simp at ha, by simp [VRIL]⟩
theorem Sub.tup2 {a b a' b' : AV} (h1 : Sub a a') (h2 : Sub b b') : Sub (.tup [a, b]) (.tup [a', b']) := fun w h ι A v hv => by
  simp only [VR, VRL] at hv ⊢
  obtain ⟨l, rfl, u, l1, rfl, hu, u2, l2, rfl, hu2, rfl⟩ := hv
  exact ⟨_, rfl, _, _, rfl, h1 _ _ _ _ _ hu, _, _, rfl, h2 _ _ _ _ _ hu2, rfl⟩
theorem Sub.tup3 {a b c a' b' c' : AV} (h1 : Sub a a') (h2 : Sub b b') (h3 : Sub c c') : Sub (.tup [a, b, c]) (.tup [a', b', c']) := fun w h ι A v hv => by
  simp only [VR, VRL] at hv ⊢
  obtain ⟨l, rfl, u, l1, rfl, hu, u2, l2, rfl, hu2, u3, l3, rfl, hu3, rfl⟩ := hv
  exact ⟨_, rfl, _, _, rfl, h1 _ _ _ _ _ hu, _, _, rfl, h2 _ _ _ _ _ hu2, _, _, rfl, h3 _ _ _ _ _ hu3, rfl⟩

theorem Res.sub {fn : Func} {r r' : AV} (hr : Res P fn env h r) (hs : Sub r r') : Res P fn env h r' := fun X a w ι H S => by
  obtain ⟨v, h1, h2⟩ := hr X a w ι H S
  exact ⟨v, h1, hs _ _ _ _ _ h2⟩

theorem Hol.after {B : Nat → Prop} {ι ι' : Nat → Bk} {w w' : World} {h' : Hp} (H' : Hol ⟨w, B, Own (fun _ => False) [] ι⟩ h' ι' w') : Below w.heap.size w w' :=
  ⟨H'.os, H'.tape, H'.output, H'.size, fun β hβ => H'.frame β hβ fun hs => by
    rcases hs with hs | ⟨r, rt, hr, _⟩
    · exact hs
    · simp [Hp.at] at hr⟩

theorem args_vr {w : World} {ι : Nat → Bk} {A : Nat → Prop} {a : Act} : ∀ (xs : List Operand), (∀ x ∈ xs, gd (rdo env x)) → (∀ x ∈ xs, VR w h ι A (rdo env x) (a.eval x)) → VRL w h ι A (xs.map fun x => st (rdo env x)) (xs.map a.eval)
  | [], _, _ => by simp [VRL]
  | x :: xs, hg, hv => by
    simp only [List.map_cons, VRL]
    exact ⟨_, _, rfl, (hv x (by simp)).st (hg x (by simp)), args_vr xs (fun y hy => hg y (by simp [hy])) (fun y hy => hv y (by simp [hy]))⟩

theorem Quiet.call {o : Oper} {f : FuncId} {xs : List Operand} {ts : Array TypeId} (ho : o.op = .call ⟨.value (.func f), xs.toArray, ts⟩) (hc : callable P f = true) (bs : List Nat) (ys : List AV) (r : AV)
    (hg : gpo ops env o ((∀ x ∈ xs, gd (rdo env x)) ∧ ArgL h bs (xs.map fun x => st (rdo env x)) ys ∧ QSpec P f ys r ∧ ((bs = [] ∧ Abs.pur r = true) ∨ Abs.scal r = true))) :
    Quiet P ops o env h (gav ops env o r) :=
  Quiet.guarded hg fun ⟨hgd, hargs, hs, hr⟩ X a w ι Q H hop next hn => by
    refine wp_call ho hc ?_
    have hvs := args_vr xs hgd (fun x hx => hop x (by simp [ho, Op.operands, Call.operands, hx]))
    have hvs' := hargs.sound H _ hvs
    have hBO : Own (Brw X.B h ι bs) [] ι = Brw X.B h ι bs := by
      funext β
      simp [Own, Hp.at]
    refine (hs w ι (Brw X.B h ι bs) _ (H.start bs) (by rw [hBO]; exact hvs')).mono ?_
    rintro e w' ⟨v, r', h', ι', rfl, rfl, H', hv⟩
    refine ⟨v, rfl, hn v w' H'.after ?_⟩
    rcases hr with ⟨rfl, hp⟩ | hf
    · refine VR.pure (fun β hβ hA => ⟨rfl, fun ho => hA (.inl ⟨ho, by simp⟩)⟩) _ _ hp hv
    · exact VR.scal _ _ hf hv

/-- The heap of the caller behind a call: the new roots, and its own. -/
theorem at_append (h' h : Hp) (i : Nat) : Hp.at (h' ++ h) i = match h'.at i with | some rt => some rt | none => h.at i := by
  induction h' with
  | nil => simp [Hp.at]
  | cons p r ih =>
    obtain ⟨j, rt⟩ := p
    simp only [List.cons_append, Hp.at]
    by_cases hj : j = i
    · simp [hj]
    · simp [hj, ih]

def okRes (bs : List Nat) (r : AV) (h' : Hp) : Prop := bs = [] ∨ (Abs.flat r = true ∧ ∀ i rt, h'.at i = some rt → flatL rt.cs = true)

theorem join_call {X : Ctx} {ι ι' : Nat → Bk} {w w' : World} {h' : Hp} {r : AV} {v : Value} (H : Hol X h ι w) (H' : Hol ⟨w, Brw X.B h ι bs, Own (fun _ => False) [] ι⟩ h' ι' w')
    (hnew : ∀ i rt, h'.at i = some rt → h.at i = none) (hok : okRes bs r h') (hv : VR w' h' ι' (Own (Brw X.B h ι bs) h' ι') r v) :
    ∃ ι'', Hol X (h' ++ h) ι'' w' ∧ VR w' (h' ++ h) ι'' (Own X.B (h' ++ h) ι'') r v ∧ Keep w h ι (Own X.B h ι) w' (h' ++ h) ι'' (Own X.B (h' ++ h) ι'') := by
  have hB := H'.after
  let ι'' : Nat → Bk := fun i => if (h'.at i).isSome then ι' i else ι i
  have i1 : ∀ i rt, h'.at i = some rt → ι'' i = ι' i := fun i rt hi => by simp [ι'', hi]
  have i2 : ∀ i rt, h.at i = some rt → ι'' i = ι i := fun i rt hi => by
    have : h'.at i = none := by
      cases hx : h'.at i with
      | none => rfl
      | some y => have := hnew i y hx; rw [hi] at this; cases this
    simp [ι'', this]
  have a1 : ∀ i rt, h'.at i = some rt → Hp.at (h' ++ h) i = some rt := fun i rt hi => by rw [at_append, hi]
  have a2 : ∀ i rt, h.at i = some rt → Hp.at (h' ++ h) i = some rt := fun i rt hi => by
    rw [at_append]
    cases hx : h'.at i with
    | none => exact hi
    | some y => have := hnew i y hx; rw [hi] at this; cases this
  have a3 : ∀ i rt, Hp.at (h' ++ h) i = some rt → h'.at i = some rt ∨ (h'.at i = none ∧ h.at i = some rt) := fun i rt hi => by
    rw [at_append] at hi
    cases hx : h'.at i with
    | none => rw [hx] at hi; exact .inr ⟨rfl, hi⟩
    | some y => rw [hx] at hi; exact .inl hi
  -- the new roots lie behind the old heap
  have hplace : ∀ r rt g, h'.at r = some rt → rt.live = true → (ι' r).blk = some g → w.heap.size ≤ g := fun r rt g hr hl hg => by
    rcases (H'.place r rt g hr hl hg).2 with h1 | h1
    · exact h1
    · rcases h1 with h1 | ⟨_, _, h1, _⟩
      · exact h1.elim
      · simp [Hp.at] at h1
  have hold : ∀ r rt g, h.at r = some rt → rt.live = true → (ι r).blk = some g → g < w.heap.size := fun r rt g hr hl hg => by
    obtain ⟨arr, h1, _⟩ := (H.roots r rt hr hl).row hg
    exact lt_of_heap h1
  have hOld : ∀ β, Own X.B h ι β → β < w.heap.size := fun β hb => by
    rcases hb with hb | ⟨r, rt, hr, hl, hg⟩
    · exact Nat.lt_of_lt_of_le (H.old β hb).1 H.size
    · exact hold r rt β hr hl hg
  have hOwn : ∀ β, Own X.B (h' ++ h) ι'' β ↔ Own X.B h ι β ∨ ∃ r rt, h'.at r = some rt ∧ rt.live = true ∧ (ι' r).blk = some β := by
    intro β
    constructor
    · rintro (hb | ⟨r, rt, hr, hl, hg⟩)
      · exact .inl (.inl hb)
      · rcases a3 r rt hr with h1 | ⟨_, h1⟩
        · rw [i1 r rt h1] at hg; exact .inr ⟨r, rt, h1, hl, hg⟩
        · rw [i2 r rt h1] at hg; exact .inl (.inr ⟨r, rt, h1, hl, hg⟩)
    · rintro ((hb | ⟨r, rt, hr, hl, hg⟩) | ⟨r, rt, hr, hl, hg⟩)
      · exact .inl hb
      · exact .inr ⟨r, rt, a2 r rt hr, hl, by rw [i2 r rt hr]; exact hg⟩
      · exact .inr ⟨r, rt, a1 r rt hr, hl, by rw [i1 r rt hr]; exact hg⟩
  have K1 : Keep w h ι (Own X.B h ι) w' (h' ++ h) ι'' (Own X.B (h' ++ h) ι'') :=
    ⟨fun β hβ hA => ⟨hB.block β hβ, fun ho => by
        rcases (hOwn β).1 ho with h1 | ⟨r, rt, hr, hl, hg⟩
        · exact hA h1
        · have := hplace r rt β hr hl hg; omega⟩,
     fun r rt hr => ⟨rt, a2 r rt hr, Nat.le_refl _, fun _ => ⟨i2 r rt hr, rfl⟩⟩⟩
  have hh1 : ∀ r rt, h'.at r = some rt → ∃ rt', Hp.at (h' ++ h) r = some rt' ∧ rt.ver ≤ rt'.ver ∧ (rt'.ver = rt.ver → ι'' r = ι' r ∧ rt'.k = rt.k) :=
    fun r rt hr => ⟨rt, a1 r rt hr, Nat.le_refl _, fun _ => ⟨i1 r rt hr, rfl⟩⟩
  have K2 : bs = [] → Keep w' h' ι' (Own (Brw X.B h ι bs) h' ι') w' (h' ++ h) ι'' (Own X.B (h' ++ h) ι'') := fun hbs =>
    ⟨fun β _ hA => ⟨rfl, fun ho => hA (by
        rcases (hOwn β).1 ho with h1 | h1
        · exact .inl ⟨h1, by simp [hbs]⟩
        · exact .inr h1)⟩, hh1⟩
  refine ⟨ι'', ?_, ?_, K1⟩
  · exact {
      roots := fun r rt hr hl => by
        rcases a3 r rt hr with h1 | ⟨_, h1⟩
        · rw [i1 r rt h1]
          rcases H'.roots r rt h1 hl with hn | ⟨g, arr, c1, c2, c3, c4, c5, c6⟩
          · exact .inl hn
          · refine .inr ⟨g, arr, c1, c2, c3, c4, ?_, c6⟩
            rcases hok with hbs | ⟨_, hf⟩
            · exact VRL.keep (K2 hbs) _ _ c5
            · exact VRL.flat hh1 _ _ (hf r rt h1) c5
        · rw [i2 r rt h1]
          rcases H.roots r rt h1 hl with hn | ⟨g, arr, c1, c2, c3, c4, c5, c6⟩
          · exact .inl hn
          · exact .inr ⟨g, arr, c1, (hB.block g (lt_of_heap c2)).trans c2, c3, c4, VRL.keep K1 _ _ c5, c6⟩
      inj := fun r r' rt rt' g hr hr' hl hl' hg hg' => by
        rcases a3 r rt hr with h1 | ⟨_, h1⟩ <;> rcases a3 r' rt' hr' with h2 | ⟨_, h2⟩
        · rw [i1 r rt h1] at hg; rw [i1 r' rt' h2] at hg'
          exact H'.inj r r' rt rt' g h1 h2 hl hl' hg hg'
        · rw [i1 r rt h1] at hg; rw [i2 r' rt' h2] at hg'
          have := hplace r rt g h1 hl hg; have := hold r' rt' g h2 hl' hg'; omega
        · rw [i2 r rt h1] at hg; rw [i1 r' rt' h2] at hg'
          have := hold r rt g h1 hl hg; have := hplace r' rt' g h2 hl' hg'; omega
        · rw [i2 r rt h1] at hg; rw [i2 r' rt' h2] at hg'
          exact H.inj r r' rt rt' g h1 h2 hl hl' hg hg'
      place := fun r rt g hr hl hg => by
        rcases a3 r rt hr with h1 | ⟨_, h1⟩
        · rw [i1 r rt h1] at hg
          have hp := hplace r rt g h1 hl hg
          exact ⟨fun hb => by have := (H.old g hb).1; have := H.size; omega, .inl (Nat.le_trans H.size hp)⟩
        · rw [i2 r rt h1] at hg
          exact H.place r rt g h1 hl hg
      os := hB.os.trans H.os
      tape := hB.tape.trans H.tape
      output := hB.output.trans H.output
      size := Nat.le_trans H.size hB.size
      frame := fun β hβ hS => (hB.block β (Nat.lt_of_lt_of_le hβ H.size)).trans (H.frame β hβ hS)
      old := H.old }
  · rcases hok with hbs | ⟨hf, _⟩
    · exact VR.keep (K2 hbs) _ _ hv
    · exact VR.flat hh1 _ _ hf hv

/-- A call whose result may be new roots. -/
theorem OpsW.call {o : Oper} {f : FuncId} {xs : List Operand} {ts : Array TypeId} {rest : List Oper} {K : Env → Hp → Prop} (ho : o.op = .call ⟨.value (.func f), xs.toArray, ts⟩) (hgu : o.guard = none) (hc : callable P f = true)
    (bs : List Nat) (ys : List AV) (R : AV → Hp → Prop) (hd : o.dst.all (· < N) = true) (hgd : ∀ x ∈ xs, gd (rdo env x)) (hargs : ArgL h bs (xs.map fun x => st (rdo env x)) ys) (hs : Spec P f ys [] R)
    (hR : ∀ r h', R r h' → (∀ i rt, h'.at i = some rt → h.at i = none) ∧ okRes bs r h' ∧ OpsW P N ops rest (setd env o.dst r) (h' ++ h) K) : OpsW P N ops (o :: rest) env h K := by
  intro X a w ι Q H S hQ
  refine wpList_plain hgu fun K' hK' => wp_call ho hc ?_
  have hvs := args_vr xs hgd (fun x _ => S.eval x)
  have hvs' := hargs.sound H _ hvs
  have hBO : Own (Brw X.B h ι bs) [] ι = Brw X.B h ι bs := by
    funext β
    simp [Own, Hp.at]
  refine (hs w ι (Brw X.B h ι bs) _ (H.start bs) (by rw [hBO]; exact hvs')).mono ?_
  rintro e w' ⟨v, r, h', ι', rfl, hRr, H', hv⟩
  obtain ⟨h1, h2, h3⟩ := hR r h' hRr
  obtain ⟨ι'', Hj, hvj, Kj⟩ := join_call H H' h1 h2 hv
  refine ⟨v, rfl, hK' _ _ ?_⟩
  refine h3 X _ w' ι'' Q Hj ?_ hQ
  exact Slots.putd ⟨S.size, S.defers, fun i => VR.keep Kj _ _ (S.at_ i)⟩ hd hvj

end
end Go.Abs
