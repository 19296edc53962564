/-
  Own work. Several texts of the library in one.
-/
import Derived.Test.YtlhpkjgpcenfdaaDoorLibA
import Derived.Laws.OwnMore
import Derived.Laws.MakeOwn
import Derived.ScopeJumps
import Derived.Deep.Slices
import Derived.OpenShut
import Derived.WalkKit
import Derived.ProofKit
import Derived.ShutString
import Derived.ChangeOld
set_option linter.unusedSimpArgs false
set_option linter.unusedVariables false
/-
  Own work. The abstract layer, part 7: calls by contract.
-/
namespace Go.Abs
open Go.RowKit
mutual
def pur : AV → Bool
  | .any => true
  | .im _ => true
  | .agg cs => purL cs
  | .tup cs => purL cs
  | .ipt _ _ => true
  | .ref _ _ _ => false
  | .rsl _ _ _ _ => false
  | .cnd _ x => pur x
def purL : List AV → Bool
  | [] => true
  | c :: cs => pur c && purL cs
end
mutual
def flat : AV → Bool
  | .any => true
  | .im (.val _) => true
  | .im (.sl _ _) => false
  | .agg cs => flatL cs
  | .tup cs => flatL cs
  | .ipt _ _ => false
  | .ref _ _ _ => true
  | .rsl _ _ _ _ => true
  | .cnd _ x => flat x
def flatL : List AV → Bool
  | [] => true
  | c :: cs => flat c && flatL cs
end
mutual
theorem VR.pure {w w' : World} {h h' : Hp} {ι ι' : Nat → Bk} {A A' : Nat → Prop} (hk : ∀ β, β < w.heap.size → ¬ A β → w'.heap[β]? = w.heap[β]? ∧ ¬ A' β) : ∀ (x : AV) (v : Value), pur x = true → VR w h ι A x v → VR w' h' ι' A' x v
  | .any, _, _, _ => by simp only [VR]
  | .im x, v, _, hv => by simp only [VR] at hv ⊢; exact VRI.keep hk x v hv
  | .agg cs, v, hp, hv => by
    simp only [VR] at hv ⊢
    obtain ⟨l, hl, hr⟩ := hv
    exact ⟨l, hl, VRL.pure hk cs l (by simpa only [pur] using hp) hr⟩
  | .tup cs, v, hp, hv => by
    simp only [VR] at hv ⊢
    obtain ⟨l, hl, hr⟩ := hv
    exact ⟨l, hl, VRL.pure hk cs l (by simpa only [pur] using hp) hr⟩
  | .ipt cs off, v, _, hv => by
    simp only [VR] at hv ⊢
    obtain ⟨a, l, hl, hlie, hr⟩ := hv
    exact ⟨a, l, hl, hlie.keep hk, VRIL.keep hk cs l hr⟩
  | .ref _ _ _, _, hp, _ => by simp [pur] at hp
  | .rsl _ _ _ _, _, hp, _ => by simp [pur] at hp
  | .cnd g x, v, hp, hv => by simp only [VR] at hv ⊢; exact ⟨fun hg => VR.pure hk x v (by simpa only [pur] using hp) (hv.1 hg), hv.2⟩
theorem VRL.pure {w w' : World} {h h' : Hp} {ι ι' : Nat → Bk} {A A' : Nat → Prop} (hk : ∀ β, β < w.heap.size → ¬ A β → w'.heap[β]? = w.heap[β]? ∧ ¬ A' β) : ∀ (cs : List AV) (l : List Value), purL cs = true → VRL w h ι A cs l → VRL w' h' ι' A' cs l
  | [], _, _, hv => by simpa only [VRL] using hv
  | c :: cs, l, hp, hv => by
    simp only [VRL] at hv ⊢
    simp only [purL, Bool.and_eq_true] at hp
    obtain ⟨v, l', hl, hv, hr⟩ := hv
    exact ⟨v, l', hl, VR.pure hk c v hp.1 hv, VRL.pure hk cs l' hp.2 hr⟩
end
mutual
theorem VR.flat {w w' : World} {h h' : Hp} {ι ι' : Nat → Bk} {A A' : Nat → Prop} (hh : ∀ r rt, h.at r = some rt → ∃ rt', h'.at r = some rt' ∧ rt.ver ≤ rt'.ver ∧ (rt'.ver = rt.ver → ι' r = ι r ∧ rt'.k = rt.k)) :
    ∀ (x : AV) (v : Value), Abs.flat x = true → VR w h ι A x v → VR w' h' ι' A' x v
  | .any, _, _, _ => by simp only [VR]
  | .im (.val u), v, _, hv => by simpa [VR, VRI] using hv
  | .im (.sl _ _), _, hp, _ => by simp [Abs.flat] at hp
  | .agg cs, v, hp, hv => by
    simp only [VR] at hv ⊢
    obtain ⟨l, hl, hr⟩ := hv
    exact ⟨l, hl, VRL.flat hh cs l (by simpa only [Abs.flat] using hp) hr⟩
  | .tup cs, v, hp, hv => by
    simp only [VR] at hv ⊢
    obtain ⟨l, hl, hr⟩ := hv
    exact ⟨l, hl, VRL.flat hh cs l (by simpa only [Abs.flat] using hp) hr⟩
  | .ipt _ _, _, hp, _ => by simp [Abs.flat] at hp
  | .ref r ver off, v, _, hv => by
    simp only [VR] at hv ⊢
    obtain ⟨rt, hrt, hle, himp⟩ := hv
    obtain ⟨rt', hrt', hle', himp'⟩ := hh r rt hrt
    refine ⟨rt', hrt', Nat.le_trans hle hle', fun he => ?_⟩
    have h1 : rt'.ver = rt.ver := by omega
    rw [(himp' h1).1]
    exact himp (by omega)
  | .rsl r ver off n, v, _, hv => by
    simp only [VR] at hv ⊢
    obtain ⟨rt, hrt, hle, himp⟩ := hv
    obtain ⟨rt', hrt', hle', himp'⟩ := hh r rt hrt
    refine ⟨rt', hrt', Nat.le_trans hle hle', fun he => ?_⟩
    have h1 : rt'.ver = rt.ver := by omega
    rw [(himp' h1).1, (himp' h1).2]
    exact himp (by omega)
  | .cnd g x, v, hp, hv => by simp only [VR] at hv ⊢; exact ⟨fun hg => VR.flat hh x v (by simpa only [Abs.flat] using hp) (hv.1 hg), hv.2⟩
theorem VRL.flat {w w' : World} {h h' : Hp} {ι ι' : Nat → Bk} {A A' : Nat → Prop} (hh : ∀ r rt, h.at r = some rt → ∃ rt', h'.at r = some rt' ∧ rt.ver ≤ rt'.ver ∧ (rt'.ver = rt.ver → ι' r = ι r ∧ rt'.k = rt.k)) :
    ∀ (cs : List AV) (l : List Value), flatL cs = true → VRL w h ι A cs l → VRL w' h' ι' A' cs l
  | [], _, _, hv => by simpa only [VRL] using hv
  | c :: cs, l, hp, hv => by
    simp only [VRL] at hv ⊢
    simp only [flatL, Bool.and_eq_true] at hp
    obtain ⟨v, l', hl, hv, hr⟩ := hv
    exact ⟨v, l', hl, VR.flat hh c v hp.1 hv, VRL.flat hh cs l' hp.2 hr⟩
end
mutual
def scal : AV → Bool
  | .any => true
  | .im (.val _) => true
  | .im (.sl _ _) => false
  | .agg cs => scalL cs
  | .tup cs => scalL cs
  | .ipt _ _ => false
  | .ref _ _ _ => false
  | .rsl _ _ _ _ => false
  | .cnd _ x => scal x
def scalL : List AV → Bool
  | [] => true
  | c :: cs => scal c && scalL cs
end
mutual
theorem VR.scal {w w' : World} {h h' : Hp} {ι ι' : Nat → Bk} {A A' : Nat → Prop} : ∀ (x : AV) (v : Value), Abs.scal x = true → VR w h ι A x v → VR w' h' ι' A' x v
  | .any, _, _, _ => by simp only [VR]
  | .im (.val u), v, _, hv => by simpa [VR, VRI] using hv
  | .im (.sl _ _), _, hp, _ => by simp [Abs.scal] at hp
  | .agg cs, v, hp, hv => by
    simp only [VR] at hv ⊢
    obtain ⟨l, hl, hr⟩ := hv
    exact ⟨l, hl, VRL.scal cs l (by simpa only [Abs.scal] using hp) hr⟩
  | .tup cs, v, hp, hv => by
    simp only [VR] at hv ⊢
    obtain ⟨l, hl, hr⟩ := hv
    exact ⟨l, hl, VRL.scal cs l (by simpa only [Abs.scal] using hp) hr⟩
  | .ipt _ _, _, hp, _ => by simp [Abs.scal] at hp
  | .ref _ _ _, _, hp, _ => by simp [Abs.scal] at hp
  | .rsl _ _ _ _, _, hp, _ => by simp [Abs.scal] at hp
  | .cnd g x, v, hp, hv => by simp only [VR] at hv ⊢; exact ⟨fun hg => VR.scal x v (by simpa only [Abs.scal] using hp) (hv.1 hg), hv.2⟩
theorem VRL.scal {w w' : World} {h h' : Hp} {ι ι' : Nat → Bk} {A A' : Nat → Prop} : ∀ (cs : List AV) (l : List Value), scalL cs = true → VRL w h ι A cs l → VRL w' h' ι' A' cs l
  | [], _, _, hv => by simpa only [VRL] using hv
  | c :: cs, l, hp, hv => by
    simp only [VRL] at hv ⊢
    simp only [scalL, Bool.and_eq_true] at hp
    obtain ⟨v, l', hl, hv, hr⟩ := hv
    exact ⟨v, l', hl, VR.scal c v hp.1 hv, VRL.scal cs l' hp.2 hr⟩
end
def Brw (B : Nat → Prop) (h : Hp) (ι : Nat → Bk) (bs : List Nat) (β : Nat) : Prop := Own B h ι β ∧ ∀ r ∈ bs, (ι r).blk ≠ some β
def ArgS (h : Hp) (bs : List Nat) (x y : AV) : Prop :=
  ∀ (X : Ctx) (ι : Nat → Bk) (w : World) (v : Value), Hol X h ι w → VR w h ι (Own X.B h ι) x v → VR w [] ι (Brw X.B h ι bs) y v
section
variable {P : Program} {N : Nat} {ops : Array Oper} {env : Env} {h : Hp} {bs : List Nat}
theorem ArgS.pur {x : AV} (hp : pur x = true) : ArgS h bs x x := fun _ _ _ v _ hv => VR.pure (fun _ _ hA => ⟨rfl, fun hb => hA hb.1⟩) x v hp hv
theorem ArgS.nil : ArgS h bs (.im (.val (.slice none 0 0))) (.im (.sl [] 0)) := fun _ _ _ v _ hv => by
  rw [VR.val_iff] at hv
  subst hv
  simp only [VR, VRI]
  exact ⟨none, 0, [], rfl, Nat.le_refl _, by simp, fun a ha => by simp at ha, by simp [VRIL]⟩
theorem RootOK.row {w : World} {ι : Nat → Bk} {A : Nat → Prop} {b : Bk} {rt : Rt} {g : Nat} (hr : RootOK w h ι A b rt) (hg : b.blk = some g) :
    ∃ arr : Array Value, w.heap[g]? = some (.cells arr rt.e (0, 0)) ∧ arr.size = b.cap * rt.k ∧ b.cap ≤ maxLen ∧ VRL w h ι A rt.cs (arr.toList.take rt.cs.length) ∧ ∀ u ∈ arr.toList.take rt.cs.length, u.oneCell' = true := by
  rcases hr with ⟨h1, _⟩ | ⟨g', arr, h1, h2⟩
  · rw [h1] at hg; cases hg
  · rw [h1] at hg
    have hg : g' = g := by simpa using hg
    subst hg
    exact ⟨arr, h2⟩
theorem ArgS.slice {r ver off n : Nat} {rt : Rt} {ys : List IV} (hb : r ∈ bs) (hrt : h.at r = some rt) (hver : rt.ver = ver) (hl : rt.live = true)
    (hcs : (rt.cs.drop off).take (n * rt.k) = ys.map .im) (hn : ys.length = n * rt.k) : ArgS h bs (.rsl r ver off n) (.im (.sl ys n)) := by
  intro X ι w v H hv
  obtain ⟨rt', hrt', _, hk, ao, c, rfl, hnc, hcase⟩ := VR.rsl_now (k := rt.k) hv (by simp [hrt, hver])
  rw [hrt] at hrt'
  cases hrt'
  have hR := H.roots r rt hrt hl
  simp only [VR, VRI]
  have hA : ∀ β, (ι r).blk = some β → ¬ Brw X.B h ι bs β := fun β hβ hbr => hbr.2 r hb hβ
  rcases hcase with ⟨b1, rfl, rfl, rfl, rfl⟩ | ⟨g, hg, ⟨rfl, hcap⟩ | ⟨rfl, rfl⟩⟩
  · have : ys = [] := List.eq_nil_of_length_eq_zero (by simpa using hn)
    subst this
    exact ⟨none, 0, [], rfl, Nat.le_refl _, by simp, fun a ha => by simp at ha, by simp [VRIL]⟩
  · obtain ⟨arr, h1, h2, h3, h4, h5⟩ := hR.row hg
    have h6 := (h4.drop off).take (n * rt.k)
    rw [hcs] at h6
    have hI := VRL.toI h6
    refine ⟨some ⟨g, off, none⟩, c, _, rfl, hnc, fun e => by simp at e, ?_, VRIL.keep (fun β hβ hA' => ⟨rfl, fun hb => hA' hb.1⟩) _ _ hI⟩
    intro a ha
    simp at ha
    subst ha
    intro i u hu
    rw [List.getElem?_take] at hu
    split at hu
    · rw [List.getElem?_drop, List.getElem?_take] at hu
      split at hu
      · rename_i hlt
        refine ⟨?_, hA g hg, ?_⟩
        · rw [addr_add, cell_of_row w g (off + i) arr rt.e (0, 0) h1]
          simpa using hu
        · apply h5
          exact List.mem_of_getElem? (i := off + i) (by rw [List.getElem?_take, if_pos hlt]; exact hu)
      · cases hu
    · cases hu
  · have : ys = [] := List.eq_nil_of_length_eq_zero (by simpa using hn)
    subst this
    by_cases hao : ao = none
    · subst hao
      exact ⟨none, 0, [], rfl, Nat.le_refl _, by simp, fun a ha => by simp at ha, by simp [VRIL]⟩
    · exact ⟨ao, 0, [], rfl, Nat.le_refl _, fun e => absurd e hao, fun a _ i u hu => by simp at hu, by simp [VRIL]⟩
inductive ArgL (h : Hp) (bs : List Nat) : List AV → List AV → Prop
  | nil : ArgL h bs [] []
  | cons {x y : AV} {xs ys : List AV} : ArgS h bs x y → ArgL h bs xs ys → ArgL h bs (x :: xs) (y :: ys)
theorem ArgL.sound {xs ys : List AV} (ha : ArgL h bs xs ys) {X : Ctx} {ι : Nat → Bk} {w : World} (H : Hol X h ι w) : ∀ vs : List Value, VRL w h ι (Own X.B h ι) xs vs → VRL w [] ι (Brw X.B h ι bs) ys vs := by
  induction ha with
  | nil => intro vs hv; simpa only [VRL] using hv
  | cons hs _ ih =>
    intro vs hv
    simp only [VRL] at hv ⊢
    obtain ⟨v, l', rfl, hv, hr⟩ := hv
    exact ⟨v, l', rfl, hs X ι w v H hv, ih l' hr⟩
def callable (P : Program) (f : FuncId) : Bool := match P.funcs[f]? with
  | some fn => fn.name != "runtime.NumGoroutine" && fn.body.isSome
  | none => false
theorem callFunc_run {f : FuncId} {w : World} {args : Array Value} (hc : callable P f = true) : (callFunc f args).run P w = .ok (.enter f args) w := by
  unfold callable at hc
  split at hc
  · rename_i fn hf
    simp only [Bool.and_eq_true, bne_iff_ne, ne_eq] at hc
    obtain ⟨c, hb⟩ : ∃ c, fn.body = some c := by cases hb : fn.body <;> simp_all
    simp [callFunc, program, Sem.run, hf, hc.1, hb]
  · cases hc
theorem wp_call {o : Oper} {f : FuncId} {xs : List Operand} {ts : Array TypeId} (ho : o.op = .call ⟨.value (.func f), xs.toArray, ts⟩) (hc : callable P f = true) {a : Act} {w : World} {next : Act → World → Prop} {Q : Exit → Act → World → Prop}
    (hw : Calls P f (xs.map a.eval).toArray w fun e w' => ∃ v, e = .returned v ∧ next (a.put o.dst v) w') : o.wp P a w next Q := by
  have hr : (execOp a.eval o).run P w = .ok (.enter f (xs.map a.eval).toArray) w := by
    simp only [execOp, ho, resolve, Act.eval, Sem.run_bind]
    have hof : Deferred.ofValue (.func (.func f) #[] #[]) (xs.toArray.map a.eval) = Pure.pure ({ target := .fn (.func f) #[], args := #[] ++ xs.toArray.map a.eval } : Deferred) := rfl
    simp only [hof, Sem.run_pure, Result.andThen_ok, invoke, Array.append_empty, Array.empty_append, callFunc_run hc]
    simp
  simp only [Oper.wp, hr, Oper.upon]
  refine hw.mono fun e w' ⟨v, he, hn⟩ => ?_
  subst he
  exact hn
theorem Hol.start {X : Ctx} {ι : Nat → Bk} {w : World} (H : Hol X h ι w) (bs : List Nat) : Hol ⟨w, Brw X.B h ι bs, Own (fun _ => False) [] ι, pinOf [] ι⟩ [] ι w where
  pin r b k hp := by simp [pinOf, Hp.at] at hp
  roots r rt hr := by simp [Hp.at] at hr
  inj r r' rt rt' g hr := by simp [Hp.at] at hr
  place r rt g hr := by simp [Hp.at] at hr
  os := rfl
  tape := rfl
  output := rfl
  size := Nat.le_refl _
  frame _ _ _ := rfl
  glob := H.globOK.keep fun β _ hn => ⟨rfl, fun ho => by
    rcases ho with ho | ho | ⟨r, rt, hr, _⟩
    · exact hn ho.1
    · exact ho
    · simp [Hp.at] at hr⟩
  old β hb := by
    refine ⟨?_, fun hs => ?_⟩
    · rcases hb.1 with hB | ⟨r, rt, hr, hl, hblk⟩
      · exact Nat.lt_of_lt_of_le (H.old β hB).1 H.size
      · obtain ⟨arr, h1, _⟩ := (H.roots r rt hr hl).row hblk
        exact lt_of_heap h1
    · rcases hs with hs | ⟨r, rt, hr, _⟩
      · exact hs
      · simp [Hp.at] at hr
def QSpec (P : Program) (f : FuncId) (args : List AV) (r : AV) : Prop := Spec P f args [] fun r' _ => r' = r
def Sub (x y : AV) : Prop := ∀ (w : World) (h : Hp) (ι : Nat → Bk) (A : Nat → Prop) (v : Value), VR w h ι A x v → VR w h ι A y v
theorem Sub.refl (x : AV) : Sub x x := fun _ _ _ _ _ h => h
theorem Sub.nil : Sub (.im (.val (.slice none 0 0))) (.im (.sl [] 0)) := fun _ _ _ _ v hv => by
  rw [VR.val_iff] at hv
  subst hv
  simp only [VR, VRI]
  exact ⟨none, 0, [], rfl, Nat.le_refl _, by simp, fun a ha => by simp at ha, by simp [VRIL]⟩
theorem Sub.tup2 {a b a' b' : AV} (h1 : Sub a a') (h2 : Sub b b') : Sub (.tup [a, b]) (.tup [a', b']) := fun w h ι A v hv => by
  simp only [VR, VRL] at hv ⊢
  obtain ⟨l, rfl, u, l1, rfl, hu, u2, l2, rfl, hu2, rfl⟩ := hv
  exact ⟨_, rfl, _, _, rfl, h1 _ _ _ _ _ hu, _, _, rfl, h2 _ _ _ _ _ hu2, rfl⟩
theorem Res.sub {fn : Func} {r r' : AV} (hr : Res P fn env h r) (hs : Sub r r') : Res P fn env h r' := fun X a w ι H S => by
  obtain ⟨v, h1, h2⟩ := hr X a w ι H S
  exact ⟨v, h1, hs _ _ _ _ _ h2⟩
theorem Hol.after {B : Nat → Prop} {ι ι' : Nat → Bk} {w w' : World} {h' : Hp} {p : Nat → Option (Bk × Nat)} (H' : Hol ⟨w, B, Own (fun _ => False) [] ι, p⟩ h' ι' w') : Below w.heap.size w w' :=
  ⟨H'.os, H'.tape, H'.output, H'.size, fun β hβ => H'.frame β hβ fun hs => by
    rcases hs with hs | ⟨r, rt, hr, _⟩
    · exact hs
    · simp [Hp.at] at hr⟩
theorem args_vr {w : World} {ι : Nat → Bk} {A : Nat → Prop} {a : Act} : ∀ (xs : List Operand), (∀ x ∈ xs, gd (rdo env x)) → (∀ x ∈ xs, VR w h ι A (rdo env x) (a.eval x)) → VRL w h ι A (xs.map fun x => st (rdo env x)) (xs.map a.eval)
  | [], _, _ => by simp [VRL]
  | x :: xs, hg, hv => by
    simp only [List.map_cons, VRL]
    exact ⟨_, _, rfl, (hv x (by simp)).st (hg x (by simp)), args_vr xs (fun y hy => hg y (by simp [hy])) (fun y hy => hv y (by simp [hy]))⟩
theorem Quiet.call {o : Oper} {f : FuncId} {xs : List Operand} {ts : Array TypeId} (ho : o.op = .call ⟨.value (.func f), xs.toArray, ts⟩) (hc : callable P f = true) (bs : List Nat) (ys : List AV) (r : AV)
    (hg : gpo ops env o ((∀ x ∈ xs, gd (rdo env x)) ∧ ArgL h bs (xs.map fun x => st (rdo env x)) ys ∧ QSpec P f ys r ∧ ((bs = [] ∧ Abs.pur r = true) ∨ Abs.scal r = true))) :
    Quiet P ops o env h (gav ops env o r) :=
  Quiet.guarded hg fun ⟨hgd, hargs, hs, hr⟩ X a w ι Q H hop next hn => by
    refine wp_call ho hc ?_
    have hvs := args_vr xs hgd (fun x hx => hop x (by simp [ho, Op.operands, Call.operands, hx]))
    have hvs' := hargs.sound H _ hvs
    have hBO : Own (Brw X.B h ι bs) [] ι = Brw X.B h ι bs := by
      funext β
      simp [Own, Hp.at]
    refine (hs w ι (Brw X.B h ι bs) _ (H.start bs) (by rw [hBO]; exact hvs')).mono ?_
    rintro e w' ⟨v, r', h', ι', rfl, rfl, H', hv⟩
    refine ⟨v, rfl, hn v w' H'.after ?_⟩
    rcases hr with ⟨rfl, hp⟩ | hf
    · refine VR.pure (fun β hβ hA => ⟨rfl, fun ho => hA (.inl ⟨ho, by simp⟩)⟩) _ _ hp hv
    · exact VR.scal _ _ hf hv
theorem at_append (h' h : Hp) (i : Nat) : Hp.at (h' ++ h) i = match h'.at i with | some rt => some rt | none => h.at i := by
  induction h' with
  | nil => simp [Hp.at]
  | cons p r ih =>
    obtain ⟨j, rt⟩ := p
    simp only [List.cons_append, Hp.at]
    by_cases hj : j = i
    · simp [hj]
    · simp [hj, ih]
def okRes (bs : List Nat) (r : AV) (h' : Hp) : Prop := bs = [] ∨ (Abs.flat r = true ∧ ∀ i rt, h'.at i = some rt → flatL rt.cs = true)
theorem join_call {X : Ctx} {ι ι' : Nat → Bk} {w w' : World} {h' : Hp} {r : AV} {v : Value} (H : Hol X h ι w) (H' : Hol ⟨w, Brw X.B h ι bs, Own (fun _ => False) [] ι, pinOf [] ι⟩ h' ι' w')
    (hnew : ∀ i rt, h'.at i = some rt → h.at i = none) (hok : okRes bs r h') (hv : VR w' h' ι' (Own (Brw X.B h ι bs) h' ι') r v) :
    ∃ ι'', Hol X (h' ++ h) ι'' w' ∧ VR w' (h' ++ h) ι'' (Own X.B (h' ++ h) ι'') r v ∧ Keep w h ι (Own X.B h ι) w' (h' ++ h) ι'' (Own X.B (h' ++ h) ι'') := by
  have hB := H'.after
  let ι'' : Nat → Bk := fun i => if (h'.at i).isSome then ι' i else ι i
  have i1 : ∀ i rt, h'.at i = some rt → ι'' i = ι' i := fun i rt hi => by simp [ι'', hi]
  have i2 : ∀ i rt, h.at i = some rt → ι'' i = ι i := fun i rt hi => by
    have : h'.at i = none := by
      cases hx : h'.at i with
      | none => rfl
      | some y => have := hnew i y hx; rw [hi] at this; cases this
    simp [ι'', this]
  have a1 : ∀ i rt, h'.at i = some rt → Hp.at (h' ++ h) i = some rt := fun i rt hi => by rw [at_append, hi]
  have a2 : ∀ i rt, h.at i = some rt → Hp.at (h' ++ h) i = some rt := fun i rt hi => by
    rw [at_append]
    cases hx : h'.at i with
    | none => exact hi
    | some y => have := hnew i y hx; rw [hi] at this; cases this
  have a3 : ∀ i rt, Hp.at (h' ++ h) i = some rt → h'.at i = some rt ∨ (h'.at i = none ∧ h.at i = some rt) := fun i rt hi => by
    rw [at_append] at hi
    cases hx : h'.at i with
    | none => rw [hx] at hi; exact .inr ⟨rfl, hi⟩
    | some y => rw [hx] at hi; exact .inl hi
  -- the new roots lie behind the old heap
  have hplace : ∀ r rt g, h'.at r = some rt → rt.live = true → (ι' r).blk = some g → w.heap.size ≤ g := fun r rt g hr hl hg => by
    rcases (H'.place r rt g hr hl hg).2 with h1 | h1
    · exact h1
    · rcases h1 with h1 | ⟨_, _, h1, _⟩
      · exact h1.elim
      · simp [Hp.at] at h1
  have hold : ∀ r rt g, h.at r = some rt → rt.live = true → (ι r).blk = some g → g < w.heap.size := fun r rt g hr hl hg => by
    obtain ⟨arr, h1, _⟩ := (H.roots r rt hr hl).row hg
    exact lt_of_heap h1
  have hOld : ∀ β, Own X.B h ι β → β < w.heap.size := fun β hb => by
    rcases hb with hb | ⟨r, rt, hr, hl, hg⟩
    · exact Nat.lt_of_lt_of_le (H.old β hb).1 H.size
    · exact hold r rt β hr hl hg
  have hOwn : ∀ β, Own X.B (h' ++ h) ι'' β ↔ Own X.B h ι β ∨ ∃ r rt, h'.at r = some rt ∧ rt.live = true ∧ (ι' r).blk = some β := by
    intro β
    constructor
    · rintro (hb | ⟨r, rt, hr, hl, hg⟩)
      · exact .inl (.inl hb)
      · rcases a3 r rt hr with h1 | ⟨_, h1⟩
        · rw [i1 r rt h1] at hg; exact .inr ⟨r, rt, h1, hl, hg⟩
        · rw [i2 r rt h1] at hg; exact .inl (.inr ⟨r, rt, h1, hl, hg⟩)
    · rintro ((hb | ⟨r, rt, hr, hl, hg⟩) | ⟨r, rt, hr, hl, hg⟩)
      · exact .inl hb
      · exact .inr ⟨r, rt, a2 r rt hr, hl, by rw [i2 r rt hr]; exact hg⟩
      · exact .inr ⟨r, rt, a1 r rt hr, hl, by rw [i1 r rt hr]; exact hg⟩
  have K1 : Keep w h ι (Own X.B h ι) w' (h' ++ h) ι'' (Own X.B (h' ++ h) ι'') :=
    ⟨fun β hβ hA => ⟨hB.block β hβ, fun ho => by
        rcases (hOwn β).1 ho with h1 | ⟨r, rt, hr, hl, hg⟩
        · exact hA h1
        · have := hplace r rt β hr hl hg; omega⟩,
     fun r rt hr => ⟨rt, a2 r rt hr, Nat.le_refl _, fun _ => ⟨i2 r rt hr, rfl⟩⟩⟩
  have hh1 : ∀ r rt, h'.at r = some rt → ∃ rt', Hp.at (h' ++ h) r = some rt' ∧ rt.ver ≤ rt'.ver ∧ (rt'.ver = rt.ver → ι'' r = ι' r ∧ rt'.k = rt.k) :=
    fun r rt hr => ⟨rt, a1 r rt hr, Nat.le_refl _, fun _ => ⟨i1 r rt hr, rfl⟩⟩
  have K2 : bs = [] → Keep w' h' ι' (Own (Brw X.B h ι bs) h' ι') w' (h' ++ h) ι'' (Own X.B (h' ++ h) ι'') := fun hbs =>
    ⟨fun β _ hA => ⟨rfl, fun ho => hA (by
        rcases (hOwn β).1 ho with h1 | h1
        · exact .inl ⟨h1, by simp [hbs]⟩
        · exact .inr h1)⟩, hh1⟩
  refine ⟨ι'', ?_, ?_, K1⟩
  · exact {
      roots := fun r rt hr hl => by
        rcases a3 r rt hr with h1 | ⟨_, h1⟩
        · rw [i1 r rt h1]
          rcases H'.roots r rt h1 hl with hn | ⟨g, arr, c1, c2, c3, c4, c5, c6⟩
          · exact .inl hn
          · refine .inr ⟨g, arr, c1, c2, c3, c4, ?_, c6⟩
            rcases hok with hbs | ⟨_, hf⟩
            · exact VRL.keep (K2 hbs) _ _ c5
            · exact VRL.flat hh1 _ _ (hf r rt h1) c5
        · rw [i2 r rt h1]
          rcases H.roots r rt h1 hl with hn | ⟨g, arr, c1, c2, c3, c4, c5, c6⟩
          · exact .inl hn
          · exact .inr ⟨g, arr, c1, (hB.block g (lt_of_heap c2)).trans c2, c3, c4, VRL.keep K1 _ _ c5, c6⟩
      inj := fun r r' rt rt' g hr hr' hl hl' hg hg' => by
        rcases a3 r rt hr with h1 | ⟨_, h1⟩ <;> rcases a3 r' rt' hr' with h2 | ⟨_, h2⟩
        · rw [i1 r rt h1] at hg; rw [i1 r' rt' h2] at hg'
          exact H'.inj r r' rt rt' g h1 h2 hl hl' hg hg'
        · rw [i1 r rt h1] at hg; rw [i2 r' rt' h2] at hg'
          have := hplace r rt g h1 hl hg; have := hold r' rt' g h2 hl' hg'; omega
        · rw [i2 r rt h1] at hg; rw [i1 r' rt' h2] at hg'
          have := hold r rt g h1 hl hg; have := hplace r' rt' g h2 hl' hg'; omega
        · rw [i2 r rt h1] at hg; rw [i2 r' rt' h2] at hg'
          exact H.inj r r' rt rt' g h1 h2 hl hl' hg hg'
      place := fun r rt g hr hl hg => by
        rcases a3 r rt hr with h1 | ⟨_, h1⟩
        · rw [i1 r rt h1] at hg
          have hp := hplace r rt g h1 hl hg
          exact ⟨fun hb => by have := (H.old g hb).1; have := H.size; omega, .inl (Nat.le_trans H.size hp)⟩
        · rw [i2 r rt h1] at hg
          exact H.place r rt g h1 hl hg
      os := hB.os.trans H.os
      tape := hB.tape.trans H.tape
      output := hB.output.trans H.output
      size := Nat.le_trans H.size hB.size
      frame := fun β hβ hS => (hB.block β (Nat.lt_of_lt_of_le hβ H.size)).trans (H.frame β hβ hS)
      old := H.old
      glob := H.glob
      pin := fun r b k hp => by
        obtain ⟨h1, rt, h2, h3⟩ := H.pin r b k hp
        exact ⟨h1, rt, a2 r rt h2, fun hv => by rw [i2 r rt h2]; exact h3 hv⟩ }
  · rcases hok with hbs | ⟨hf, _⟩
    · exact VR.keep (K2 hbs) _ _ hv
    · exact VR.flat hh1 _ _ hf hv
theorem OpsW.call {o : Oper} {f : FuncId} {xs : List Operand} {ts : Array TypeId} {rest : List Oper} {K : Env → Hp → Prop} (ho : o.op = .call ⟨.value (.func f), xs.toArray, ts⟩) (hgu : o.guard = none) (hc : callable P f = true)
    (bs : List Nat) (ys : List AV) (R : AV → Hp → Prop) (hd : o.dst.all (· < N) = true) (hgd : ∀ x ∈ xs, gd (rdo env x)) (hargs : ArgL h bs (xs.map fun x => st (rdo env x)) ys) (hs : Spec P f ys [] R)
    (hR : ∀ r h', R r h' → (∀ i rt, h'.at i = some rt → h.at i = none) ∧ okRes bs r h' ∧ OpsW P N ops rest (setd env o.dst r) (h' ++ h) K) : OpsW P N ops (o :: rest) env h K := by
  intro X a w ι Q H S hQ
  refine wpList_plain hgu fun K' hK' => wp_call ho hc ?_
  have hvs := args_vr xs hgd (fun x _ => S.eval H.globOK x)
  have hvs' := hargs.sound H _ hvs
  have hBO : Own (Brw X.B h ι bs) [] ι = Brw X.B h ι bs := by
    funext β
    simp [Own, Hp.at]
  refine (hs w ι (Brw X.B h ι bs) _ (H.start bs) (by rw [hBO]; exact hvs')).mono ?_
  rintro e w' ⟨v, r, h', ι', rfl, hRr, H', hv⟩
  obtain ⟨h1, h2, h3⟩ := hR r h' hRr
  obtain ⟨ι'', Hj, hvj, Kj⟩ := join_call H H' h1 h2 hv
  refine ⟨v, rfl, hK' _ _ ?_⟩
  refine h3 X _ w' ι'' Q Hj ?_ hQ
  exact Slots.putd ⟨S.size, S.defers, fun i => VR.keep Kj _ _ (S.at_ i)⟩ hd hvj
end
end Go.Abs
/-
  Own work. The abstract layer, part 8: roots that are made, written, appended to, given up.
-/
namespace Go.Abs
open Go.RowKit
def upd (ι : Nat → Bk) (r : Nat) (b : Bk) : Nat → Bk := fun i => if i = r then b else ι i
theorem upd_same (ι : Nat → Bk) (r : Nat) (b : Bk) : upd ι r b r = b := by simp [upd]
theorem upd_other {ι : Nat → Bk} {r i : Nat} {b : Bk} (h : i ≠ r) : upd ι r b i = ι i := by simp [upd, h]
section
variable {P : Program} {N : Nat} {ops : Array Oper} {env : Env} {h : Hp}
theorem at_cons_same (r : Nat) (rt : Rt) (h : Hp) : Hp.at ((r, rt) :: h) r = some rt := by simp [Hp.at]
theorem at_cons_other {r i : Nat} {rt : Rt} (hi : i ≠ r) : Hp.at ((r, rt) :: h) i = h.at i := by simp only [Hp.at]; rw [if_neg (fun e => hi e.symm)]
theorem Hol.upd {X : Ctx} {ι : Nat → Bk} {w : World} (H : Hol X h ι w) (r : Nat) (rt' : Rt) (b' : Bk) (w' : World)
    (hos : w'.os = w.os) (htape : w'.tape = w.tape) (hout : w'.output = w.output) (hsz : w.heap.size ≤ w'.heap.size)
    (hblk : ∀ β, β < w.heap.size → (∀ rt, h.at r = some rt → rt.live = true → (ι r).blk ≠ some β) → w'.heap[β]? = w.heap[β]?)
    (hver : ∀ rt, h.at r = some rt → rt.ver < rt'.ver ∨ (rt'.ver = rt.ver ∧ b' = ι r ∧ rt'.k = rt.k))
    (hnew : rt'.live = true → ∀ g, b'.blk = some g → w.heap.size ≤ g ∨ ∃ rt, h.at r = some rt ∧ rt.live = true ∧ (ι r).blk = some g)
    (hroot : rt'.live = true → Keep w h ι (Own X.B h ι) w' ((r, rt') :: h) (upd ι r b') (Own X.B ((r, rt') :: h) (upd ι r b')) →
      RootOK w' ((r, rt') :: h) (upd ι r b') (Own X.B ((r, rt') :: h) (upd ι r b')) b' rt') :
    Hol X ((r, rt') :: h) (upd ι r b') w' ∧ Keep w h ι (Own X.B h ι) w' ((r, rt') :: h) (upd ι r b') (Own X.B ((r, rt') :: h) (upd ι r b')) := by
  have hold : ∀ r rt g, h.at r = some rt → rt.live = true → (ι r).blk = some g → g < w.heap.size := fun r rt g hr hl hg => by
    obtain ⟨arr, h1, _⟩ := (H.roots r rt hr hl).row hg
    exact lt_of_heap h1
  have K : Keep w h ι (Own X.B h ι) w' ((r, rt') :: h) (Abs.upd ι r b') (Own X.B ((r, rt') :: h) (Abs.upd ι r b')) := by
    refine ⟨fun β hβ hA => ⟨hblk β hβ fun rt hr hl hg => hA (.inr ⟨r, rt, hr, hl, hg⟩), ?_⟩, ?_⟩
    · rintro (hb | ⟨i, rt, hi, hl, hg⟩)
      · exact hA (.inl hb)
      · by_cases hir : i = r
        · subst hir
          rw [at_cons_same] at hi
          cases hi
          rw [upd_same] at hg
          rcases hnew hl β hg with h1 | ⟨rt, h1, h2, h3⟩
          · omega
          · exact hA (.inr ⟨i, rt, h1, h2, h3⟩)
        · rw [at_cons_other hir] at hi
          rw [upd_other hir] at hg
          exact hA (.inr ⟨i, rt, hi, hl, hg⟩)
    · intro i rt hi
      by_cases hir : i = r
      · subst hir
        refine ⟨rt', at_cons_same _ _ _, ?_, fun he => ?_⟩
        · rcases hver rt hi with h1 | ⟨h1, _⟩ <;> omega
        · rcases hver rt hi with h1 | ⟨_, h2, h3⟩
          · omega
          · exact ⟨by rw [upd_same, h2], h3⟩
      · exact ⟨rt, by rw [at_cons_other hir]; exact hi, Nat.le_refl _, fun _ => ⟨upd_other hir, rfl⟩⟩
  refine ⟨?_, K⟩
  exact {
    roots := fun i rt hi hl => by
      by_cases hir : i = r
      · subst hir
        rw [at_cons_same] at hi
        cases hi
        rw [upd_same]
        exact hroot hl K
      · rw [at_cons_other hir] at hi
        rw [upd_other hir]
        rcases H.roots i rt hi hl with hn | ⟨g, arr, c1, c2, c3, c4, c5, c6⟩
        · exact .inl hn
        · refine .inr ⟨g, arr, c1, ?_, c3, c4, VRL.keep K _ _ c5, c6⟩
          rw [hblk g (lt_of_heap c2) (fun rt2 h2 hl2 hg2 => hir (H.inj i r rt rt2 g hi h2 hl hl2 c1 hg2))]
          exact c2
    inj := fun i j rti rtj g hi hj hli hlj hgi hgj => by
      by_cases hir : i = r <;> by_cases hjr : j = r
      · rw [hir, hjr]
      · subst hir
        rw [at_cons_same] at hi; cases hi
        rw [at_cons_other hjr] at hj
        rw [upd_same] at hgi
        rw [upd_other hjr] at hgj
        rcases hnew hli g hgi with h1 | ⟨rt, h1, h2, h3⟩
        · have := hold j rtj g hj hlj hgj; omega
        · exact H.inj i j rt rtj g h1 hj h2 hlj h3 hgj
      · subst hjr
        rw [at_cons_same] at hj; cases hj
        rw [at_cons_other hir] at hi
        rw [upd_same] at hgj
        rw [upd_other hir] at hgi
        rcases hnew hlj g hgj with h1 | ⟨rt, h1, h2, h3⟩
        · have := hold i rti g hi hli hgi; omega
        · exact H.inj i j rti rt g hi h1 hli h2 hgi h3
      · rw [at_cons_other hir] at hi
        rw [at_cons_other hjr] at hj
        rw [upd_other hir] at hgi
        rw [upd_other hjr] at hgj
        exact H.inj i j rti rtj g hi hj hli hlj hgi hgj
    place := fun i rt g hi hl hg => by
      by_cases hir : i = r
      · subst hir
        rw [at_cons_same] at hi; cases hi
        rw [upd_same] at hg
        rcases hnew hl g hg with h1 | ⟨rt, h1, h2, h3⟩
        · exact ⟨fun hb => by have := (H.old g hb).1; have := H.size; omega, .inl (Nat.le_trans H.size h1)⟩
        · exact H.place i rt g h1 h2 h3
      · rw [at_cons_other hir] at hi
        rw [upd_other hir] at hg
        exact H.place i rt g hi hl hg
    os := hos.trans H.os
    tape := htape.trans H.tape
    output := hout.trans H.output
    size := Nat.le_trans H.size hsz
    frame := fun β hβ hS => by
      rw [hblk β (Nat.lt_of_lt_of_le hβ H.size) (fun rt hr hl hg => by
        rcases (H.place r rt β hr hl hg).2 with h1 | h1
        · omega
        · exact hS h1)]
      exact H.frame β hβ hS
    old := H.old
    glob := H.glob
    pin := fun i b k hp => by
      obtain ⟨h1, rt, h2, h3⟩ := H.pin i b k hp
      refine ⟨h1, ?_⟩
      by_cases hir : i = r
      · subst hir
        refine ⟨rt', at_cons_same _ _ _, fun hv => ?_⟩
        rcases hver rt h2 with h4 | ⟨h4, h5, h6⟩
        · omega
        · rw [upd_same, h5, h6]
          exact h3 (by omega)
      · exact ⟨rt, by rw [at_cons_other hir]; exact h2, fun hv => by rw [upd_other hir]; exact h3 hv⟩ }
theorem OpsW.root {o : Oper} {rest : List Oper} {K : Env → Hp → Prop} (hgu : o.guard = none) (hd : o.dst.all (· < N) = true) (r : Nat) (rt' : Rt) (av : AV)
    (hstep : ∀ (X : Ctx) (a : Act) (w : World) (ι : Nat → Bk) (Q : Exit → Act → World → Prop) (next : Act → World → Prop), Hol X h ι w → (∀ x, VR w h ι (Own X.B h ι) (rdo env x) (a.eval x)) →
      (∀ b' w' v, Hol X ((r, rt') :: h) (upd ι r b') w' → Keep w h ι (Own X.B h ι) w' ((r, rt') :: h) (upd ι r b') (Own X.B ((r, rt') :: h) (upd ι r b')) →
        VR w' ((r, rt') :: h) (upd ι r b') (Own X.B ((r, rt') :: h) (upd ι r b')) av v → next (a.put o.dst v) w') → o.wp P a w next Q)
    (hr : OpsW P N ops rest (setd env o.dst av) ((r, rt') :: h) K) : OpsW P N ops (o :: rest) env h K := by
  intro X a w ι Q H S hQ
  refine wpList_plain hgu fun K' hK' => hstep X a w ι Q K' H (fun x => S.eval H.globOK x) fun b' w' v H' Kp hv => hK' _ _ ?_
  exact hr X _ w' _ Q H' (Slots.putd ⟨S.size, S.defers, fun i => VR.keep Kp _ _ (S.at_ i)⟩ hd hv) hQ
theorem take_all {l : List Value} {n : Nat} (h : l.length = n) : l.take n = l := by rw [← h]; exact List.take_length
theorem Hol.alloc {X : Ctx} {ι : Nat → Bk} {w : World} (H : Hol X h ι w) (r : Nat) (hr : h.at r = none) (e : TypeId) (k cap : Nat) (cs : List AV) (arr : Array Value) (hcap : arr.size = cap * k) (hm : cap ≤ maxLen)
    (hv : VRL w h ι (Own X.B h ι) cs (arr.toList.take cs.length)) (h1 : ∀ u ∈ arr.toList.take cs.length, u.oneCell' = true) :
    Hol X ((r, ⟨0, true, e, k, cs⟩) :: h) (Abs.upd ι r ⟨some w.heap.size, cap⟩) (w.alloc (.cells arr e)) ∧
      Keep w h ι (Own X.B h ι) (w.alloc (.cells arr e)) ((r, ⟨0, true, e, k, cs⟩) :: h) (Abs.upd ι r ⟨some w.heap.size, cap⟩) (Own X.B ((r, ⟨0, true, e, k, cs⟩) :: h) (Abs.upd ι r ⟨some w.heap.size, cap⟩)) := by
  refine H.upd r ⟨0, true, e, k, cs⟩ ⟨some w.heap.size, cap⟩ (w.alloc (.cells arr e)) rfl rfl rfl (by simp) (fun β hβ _ => Below.heap_alloc w _ β hβ) (fun rt h2 => by rw [hr] at h2; cases h2) (fun _ g hg => .inl (by simp at hg; omega)) ?_
  intro _ K
  exact .inr ⟨w.heap.size, arr, rfl, heap_alloc_new w _, hcap, hm, VRL.keep K _ _ hv, h1⟩
theorem VR.newref {w : World} {ι : Nat → Bk} {A : Nat → Prop} {r : Nat} {rt : Rt} {b : Bk} {g : Nat} (hg : b.blk = some g) (off : Nat) : VR w ((r, rt) :: h) (Abs.upd ι r b) A (.ref r rt.ver off) (.pointer (some ⟨g, off, none⟩)) := by
  simp only [VR]
  exact ⟨rt, at_cons_same _ _ _, Nat.le_refl _, fun _ => ⟨g, by rw [upd_same]; exact hg, rfl⟩⟩
theorem VR.newrsl {w : World} {ι : Nat → Bk} {A : Nat → Prop} {r : Nat} {rt : Rt} {b : Bk} {n : Nat} {v : Value} (hs : SlR rt.k b 0 n v) : VR w ((r, rt) :: h) (Abs.upd ι r b) A (.rsl r rt.ver 0 n) v := by
  simp only [VR]
  exact ⟨rt, at_cons_same _ _ _, Nat.le_refl _, fun _ => by rw [upd_same]; exact hs⟩
theorem OpsW.box {o : Oper} {rest : List Oper} {K : Env → Hp → Prop} {e : TypeId} {x : Operand} (ho : o.op = .box e x) (hgu : o.guard = none) (hd : o.dst.all (· < N) = true) (r : Nat) (hr : h.at r = none)
    (hx : okC h (rdo env x)) (hw : OpsW P N ops rest (setd env o.dst (.ref r 0 0)) ((r, ⟨0, true, e, (cellsA (rdo env x)).length, cellsA (rdo env x)⟩) :: h) K) : OpsW P N ops (o :: rest) env h K := by
  refine OpsW.root hgu hd r _ _ ?_ hw
  intro X a w ι Q next H hop hn
  obtain ⟨h1, h2⟩ := hx.sound (hop x)
  have hlen : (a.eval x).cells.size = (cellsA (rdo env x)).length := by simpa using h1.length
  have htk : (a.eval x).cells.toList.take (cellsA (rdo env x)).length = (a.eval x).cells.toList := take_all (by simpa using hlen)
  obtain ⟨H', K'⟩ := H.alloc r hr e (cellsA (rdo env x)).length 1 (cellsA (rdo env x)) (a.eval x).cells (by omega) (by simp [maxLen]) (by rw [htk]; exact h1) (by rw [htk]; exact h2)
  have hrun : (execOp a.eval o).run P w = .ok (.value (.pointer (some ⟨w.heap.size, 0, none⟩))) (w.alloc (.cells (a.eval x).cells e)) := by
    simp [execOp, ho, Instr.box, newVar, newRow, Sem.run_bind]
  simp only [Oper.wp, hrun, Oper.upon]
  exact hn _ _ _ H' K' (VR.newref (rt := ⟨0, true, e, _, _⟩) rfl 0)
theorem OpsW.alloc {o : Oper} {rest : List Oper} {K : Env → Hp → Prop} {e : TypeId} (ho : o.op = .alloc e) (hgu : o.guard = none) (hd : o.dst.all (· < N) = true) (r : Nat) (hr : h.at r = none)
    (z : List Value) (hz : zc P e = some z) (hz1 : z.all (·.oneCell') = true) (hw : OpsW P N ops rest (setd env o.dst (.ref r 0 0)) ((r, ⟨0, true, e, z.length, z.map fun v => .im (.val v)⟩) :: h) K) : OpsW P N ops (o :: rest) env h K := by
  refine OpsW.root hgu hd r _ _ ?_ hw
  intro X a w ι Q next H hop hn
  obtain ⟨u, hu, hcu⟩ := zc_some (w := w) hz
  have hlen : u.cells.size = z.length := by rw [← hcu]; simp
  have htk : u.cells.toList.take (z.map fun v => AV.im (.val v)).length = z := by rw [hcu]; exact take_all (by simp)
  obtain ⟨H', K'⟩ := H.alloc r hr e z.length 1 (z.map fun v => .im (.val v)) u.cells (by omega) (by simp [maxLen]) (by rw [htk]; exact VRL.vals z) (by rw [htk]; exact fun v hv => List.all_eq_true.1 hz1 v hv)
  have hrun : (execOp a.eval o).run P w = .ok (.value (.pointer (some ⟨w.heap.size, 0, none⟩))) (w.alloc (.cells u.cells e)) := by
    simp [execOp, ho, Instr.alloc, newVar, newRow, Sem.run_bind, hu]
  simp only [Oper.wp, hrun, Oper.upon]
  exact hn _ _ _ H' K' (VR.newref (rt := ⟨0, true, e, _, _⟩) rfl 0)
def sle (P : Program) (t : TypeId) : Option TypeId := match P.underlying t with
  | some (.slice e) => some e
  | _ => none
theorem sle_some {t e : TypeId} (hs : sle P t = some e) : P.underlying t = some (.slice e) := by
  unfold sle at hs
  split at hs <;> simp_all
structure Elem (P : Program) (t e : TypeId) (k bytes : Nat) (z : List Value) : Prop where
  sle : Abs.sle P t = some e
  zc : Abs.zc P e = some z
  size : (P.info? e).map (fun i => (i.size, i.bytes)) = some (k, bytes)
  zlen : z.length = k
  one : z.all (·.oneCell') = true
  pos : 0 < k
theorem zeros_eq (z : Array Value) (k n : Nat) (hk : z.size = k) (hp : 0 < k) : ((Array.range (n * k)).map (z[· % z.size]!)).toList = (List.replicate n z.toList).flatten := by
  subst hk
  induction n with
  | zero => simp
  | succ n ih =>
    have e1 : (Array.range ((n + 1) * z.size)).toList = (Array.range (n * z.size)).toList ++ (List.range z.size).map (n * z.size + ·) := by
      simp only [Array.toList_range, Nat.add_mul, Nat.one_mul]
      rw [List.range_add]
    simp only [Array.toList_map] at ih ⊢
    rw [e1, List.map_append, ih]
    rw [List.replicate_succ', List.flatten_append]
    congr 1
    simp only [List.map_map, List.flatten_cons, List.flatten_nil, List.append_nil]
    apply List.ext_getElem
    · simp
    · intro i h1 h2
      have hi : i < z.size := by simpa using h2
      simp [Nat.mul_add_mod_self_right, Nat.mod_eq_of_lt hi, Nat.add_comm, hi]
def zerosA (z : List Value) (n : Nat) : List AV := ((List.replicate n z).flatten).map fun v => .im (.val v)
theorem OpsW.buildSlice {o : Oper} {rest : List Oper} {K : Env → Hp → Prop} {t e : TypeId} {len k bytes : Nat} {z : List Value} {ps : List (Nat × Operand)} (ho : o.op = .buildSlice t len ps.toArray) (hgu : o.guard = none) (hd : o.dst.all (· < N) = true)
    (r : Nat) (hr : h.at r = none) (E : Elem P t e k bytes z) (hlen : len * k ≤ 16777216) (hgd : ∀ p ∈ ps, gd (rdo env p.2)) (hok : ∀ p ∈ ps, okC h (st (rdo env p.2))) (cs : List AV)
    (hf : fillA h (fun i => some (i * k, k)) (zerosA z len) (ps.map fun p => (p.1, st (rdo env p.2))) = some cs)
    (hone : ∀ x ∈ cs, oneA h x) (hcl : cs.length = len * k)
    (hw : OpsW P N ops rest (setd env o.dst (.rsl r 0 0 len)) ((r, ⟨0, true, e, k, cs⟩) :: h) K) : OpsW P N ops (o :: rest) env h K := by
  refine OpsW.root hgu hd r _ _ ?_ hw
  intro X a w ι Q next H hop hn
  obtain ⟨u, hu, hcu⟩ := zc_some (w := w) E.zc
  have hui : ∃ i, P.info? e = some i ∧ i.size = k ∧ i.bytes = bytes := by
    have := E.size
    cases hi : P.info? e with
    | none => simp [hi] at this
    | some i => simp [hi] at this; exact ⟨i, rfl, this⟩
  obtain ⟨i, hi, hisz, hiby⟩ := hui
  have husz : u.cells.size = k := by rw [← E.zlen, ← hcu]; simp
  have hvp := VRP.mk (h := h) (w := w) (ι := ι) (A := Own X.B h ι) (η := a.eval) ps hgd (fun p _ => hop p.2)
  have hz0 : VRL w h ι (Own X.B h ι) (zerosA z len) ((Array.range (len * k)).map (u.cells[· % u.cells.size]!)).toList := by
    rw [zeros_eq u.cells k len husz E.pos, hcu]
    exact VRL.vals _
  obtain ⟨arr, h1, h2⟩ := fill_sound (arr := (Array.range (len * k)).map (u.cells[· % u.cells.size]!)) hf hvp (fun p hp => by
    obtain ⟨q, hq, rfl⟩ := List.mem_map.1 hp
    exact hok q hq) hz0
  have hal : arr.size = len * k := by rw [← hcl]; simpa using h2.length
  have htk : arr.toList.take cs.length = arr.toList := take_all (by simp [hal, hcl])
  have hlm : len ≤ maxLen := by
    have : len ≤ len * k := Nat.le_mul_of_pos_right _ E.pos
    simp only [maxLen]; omega
  obtain ⟨H', K'⟩ := H.alloc r hr e k len cs arr hal hlm (by rw [htk]; exact h2) (by rw [htk]; exact oneA.sound_list hone h2)
  have hrun : (execOp a.eval o).run P w = .ok (.value (.slice (some ⟨w.heap.size, 0, none⟩) len len)) (w.alloc (.cells arr e)) := by
    have hbig : ¬ (len * k > 2 ^ 24) := by omega
    have hps : (ps.toArray.map fun p => (p.1, a.eval p.2)).toList = ps.map fun p => (p.1, a.eval p.2) := by simp
    simp only [execOp, ho, Instr.buildSlice, Sem.run_bind, run_underlying (sle_some E.sle), sizeOf, typeInfo, program, Sem.run, hi, Result.andThen_ok, Sem.run_pure, hisz]
    by_cases h0 : len * k = 0
    · have hl0 : len = 0 := by
        rcases Nat.mul_eq_zero.1 h0 with h | h
        · exact h
        · have := E.pos; omega
      subst hl0
      have e0 : Array.range 0 = #[] := rfl
      simp only [Nat.zero_mul, e0, List.map_toArray, List.map_nil] at h1
      simp [e0, h1, newRow, Sem.run_bind]
    · simp [h0, hbig, hu, h1, newRow, Sem.run_bind]
  simp only [Oper.wp, hrun, Oper.upon]
  refine hn _ _ _ H' K' (VR.newrsl (rt := ⟨0, true, e, k, cs⟩) ?_)
  exact ⟨_, _, rfl, Nat.le_refl _, .inr ⟨w.heap.size, rfl, .inl ⟨rfl, by simp⟩⟩⟩
end
end Go.Abs
/-
  Own work. The abstract layer, part 9: append, store, make; nil slices as roots; roots given up.
-/
namespace Go.Abs
open Go.RowKit
section
variable {P : Program}
theorem run_append_fit (w : World) {t u ty e : TypeId} {i : TypeInfo} (ht : P.underlying t = some (.slice e)) (hu : (∃ e', P.underlying u = some (.slice e')) ∨ P.underlying u = some .string) (hi : P.info? e = some i)
    (g n cap : Nat) (cur : Array Value) (hg : w.heap[g]? = some (.cells cur e (0, 0))) (x : Value) (m : Nat) (l : List Value) (hlen : (Builtin.lenOf x).run P w = .ok m w) (hf : (Builtin.firstCells i.size m x).run P w = .ok l.toArray w)
    (h1 : ∀ v ∈ l, v.oneCell' = true) (hroom : n + m ≤ cap) (hfit : n * i.size + l.length ≤ cur.size) :
    (Builtin.append_ #[t, u] ty #[.slice (some ⟨g, 0, none⟩) n cap, x]).run P w =
      .ok (.slice (some ⟨g, 0, none⟩) (n + m) cap) (w.setRow g (putA cur.toList (n * i.size) l).toArray) := by
  have hst := run_storeCells_at P g (n * i.size) e l 0 cur w hg (by simpa using hfit) h1
  simp only [Nat.add_zero] at hst
  rcases hu with ⟨e', hu⟩ | hu
  · simp [Builtin.append_, run_underlying ht, run_underlying hu, sizeOf, typeInfo, hi, hlen, hroom, hf, addr_add, hst, putA]
  · simp [Builtin.append_, run_underlying ht, run_underlying hu, sizeOf, typeInfo, hi, hlen, hroom, hf, addr_add, hst, putA]
theorem run_append_new (w : World) {t u ty e : TypeId} {i : TypeInfo} {z : Value} (ht : P.underlying t = some (.slice e)) (hu : (∃ e', P.underlying u = some (.slice e')) ∨ P.underlying u = some .string) (hi : P.info? e = some i) (hz : i.zero = some z)
    (ao : Option Addr) (n cap : Nat) (olds : List Value) (hfo : (Builtin.firstCells i.size n (.slice ao n cap)).run P w.drew = .ok olds.toArray w.drew)
    (x : Value) (m : Nat) (l : List Value) (hlen : (Builtin.lenOf x).run P w = .ok m w) (hf : (Builtin.firstCells i.size m x).run P w.drew = .ok l.toArray w.drew)
    (hg : cap < n + m) (h63 : ((n + m : Nat) : Int) ≤ 9223372036854775807) (hfit : Builtin.nextslicecap (n + m) cap * i.bytes ≤ 281474976710656) :
    (Builtin.append_ #[t, u] ty #[.slice ao n cap, x]).run P w =
      .ok (.slice (some ⟨w.heap.size, 0, none⟩) (n + m) (grownCap w (n + m) cap e))
        (w.drew.alloc (.cells (olds ++ l ++ (Builtin.zeroCells z.cells (grownCap w (n + m) cap e - (n + m))).toList).toArray e)) := by
  have hn : ¬ (n + m ≤ cap) := by omega
  have h63' : ¬ (9223372036854775807 < ((n : Int) + (m : Int))) := by omega
  have h48' : ¬ (281474976710656 < Builtin.nextslicecap (n + m) cap * i.bytes) := by omega
  rcases hu with ⟨e', hu⟩ | hu
  · simp [Builtin.append_, run_underlying ht, run_underlying hu, sizeOf, typeInfo, zeroValue, hi, hz, hlen, hn, h63', h48', Question.forced, hf, hfo, newRow, grownCap]
    congr 2
    apply Array.ext'
    simp [List.append_assoc]
  · simp [Builtin.append_, run_underlying ht, run_underlying hu, sizeOf, typeInfo, zeroValue, hi, hz, hlen, hn, h63', h48', Question.forced, hf, hfo, newRow, grownCap]
    congr 2
    apply Array.ext'
    simp [List.append_assoc]
def SrcA (P : Program) (h : Hp) (u : TypeId) (k : Nat) (x : AV) (m : Nat) (news : List AV) : Prop :=
  ((∃ e', P.underlying u = some (.slice e')) ∨ P.underlying u = some .string) ∧ ∀ (X : Ctx) (ι : Nat → Bk) (w : World) (v : Value), Hol X h ι w → VR w h ι (Own X.B h ι) x v →
    (∀ w', (Builtin.lenOf v).run P w' = .ok m w') ∧ ∃ l : List Value, VRL w h ι (Own X.B h ι) news l ∧ (∀ u ∈ l, u.oneCell' = true) ∧ l.length = m * k ∧
      ∀ w' : World, w'.heap = w.heap → (Builtin.firstCells k m v).run P w' = .ok l.toArray w'
variable {N : Nat} {ops : Array Oper} {env : Env} {h : Hp}
theorem cell?_heap {w w' : World} (he : w'.heap = w.heap) (a : Addr) : w'.cell? a = w.cell? a := by simp [World.cell?, he]
theorem tk_notint {u : TypeId} (hu : tk P u = 1 ∨ tk P u = 2) : (∃ e', P.underlying u = some (.slice e')) ∨ P.underlying u = some .string := by
  rcases hu with hu | hu
  · exact .inl (tk_slice hu)
  · exact .inr (tk_str hu)
theorem SrcA.im {u : TypeId} {k m : Nat} {ys : List IV} (hu : tk P u = 1) (hl : ys.length = m * k) : SrcA P h u k (.im (.sl ys m)) m (ys.map .im) := by
  refine ⟨tk_notint (.inl hu), fun X ι w v H hv => ?_⟩
  simp only [VR, VRI] at hv
  obtain ⟨ao, cap, l, rfl, hn, hnone, hlie, hls⟩ := hv
  refine ⟨fun w' => by simp [Builtin.lenOf], l, VRL.ofI hls, ?_, by rw [hls.length, hl], ?_⟩
  · intro u hu
    obtain ⟨i, hi⟩ := List.getElem?_of_mem hu
    cases ao with
    | none => have := (hnone rfl).2.2; subst this; simp at hu
    | some a => exact (hlie a rfl i u hi).2.2
  · intro w' hw'
    cases ao with
    | none => have := (hnone rfl).2.2; subst this; simp [Builtin.firstCells]
    | some a => exact run_firstCells_some w' k m a m cap l (by rw [hls.length, hl]) (fun j v hv => by rw [cell?_heap hw']; exact (hlie a rfl j v hv).1)
theorem SrcA.nil {u : TypeId} {k : Nat} (hu : tk P u = 1) : SrcA P h u k (.im (.val (.slice none 0 0))) 0 [] := by
  refine ⟨tk_notint (.inl hu), fun X ι w v H hv => ?_⟩
  rw [VR.val_iff] at hv
  subst hv
  exact ⟨fun w' => by simp [Builtin.lenOf], [], by simp [VRL], by simp, by simp, fun w' _ => by simp [Builtin.firstCells]⟩
theorem SrcA.rsl {u : TypeId} {r ver off k m : Nat} {rt : Rt} (hu : tk P u = 1) (hrt : h.at r = some rt) (hver : rt.ver = ver) (hl : rt.live = true) (hk : rt.k = k) (hfit : off + m * k ≤ rt.cs.length) :
    SrcA P h u k (.rsl r ver off m) m ((rt.cs.drop off).take (m * k)) := by
  refine ⟨tk_notint (.inl hu), fun X ι w v H hv => ?_⟩
  obtain ⟨rt', hrt', _, hk', ao, c, rfl, hnc, hcase⟩ := VR.rsl_now (k := k) hv (by simp [hrt, hver, hk])
  rw [hrt] at hrt'
  cases hrt'
  refine ⟨fun w' => by simp [Builtin.lenOf], ?_⟩
  rcases hcase with ⟨b1, rfl, rfl, rfl, rfl⟩ | ⟨g, hg, ⟨rfl, hcap⟩ | ⟨rfl, rfl⟩⟩
  · exact ⟨[], by simp [VRL], by simp, by simp, fun w' _ => by simp [Builtin.firstCells]⟩
  · obtain ⟨arr, h1, h2, h3, h4, h5⟩ := (H.roots r rt hrt hl).row hg
    have h6 := (h4.drop off).take (m * k)
    have hl6 := h6.length
    have hlen : (((arr.toList.take rt.cs.length).drop off).take (m * k)).length = m * k := by
      rw [hl6]; simp; omega
    refine ⟨_, h6, fun u hu => h5 u (List.mem_of_mem_drop (List.mem_of_mem_take hu)), hlen, fun w' hw' => ?_⟩
    refine run_firstCells_some w' k m _ m c _ hlen (fun j v hv => ?_)
    rw [cell?_heap hw', addr_add, cell_of_row w g (off + j) arr rt.e (0, 0) h1]
    rw [List.getElem?_take] at hv
    split at hv
    · rw [List.getElem?_drop, List.getElem?_take] at hv
      split at hv
      · simpa using hv
      · cases hv
    · cases hv
  · refine ⟨[], by simp [VRL], by simp, by simp, fun w' _ => ?_⟩
    cases ao with
    | none => simp [Builtin.firstCells]
    | some a => simp [Builtin.firstCells, loadCells, loadCellsFrom]
theorem SrcA.str {u : TypeId} {s : ByteArray} (hu : tk P u = 2) : SrcA P h u 1 (.string s) s.size (s.data.toList.map fun b => .int .u8 b.toNat) := by
  refine ⟨tk_notint (.inr hu), fun X ι w v H hv => ?_⟩
  rw [VR.val_iff] at hv
  subst hv
  refine ⟨fun w' => by simp [Builtin.lenOf], s.data.toList.map fun b => .int .u8 b.toNat, ?_, ?_, ?_, fun w' _ => ?_⟩
  · have := VRL.vals (w := w) (h := h) (ι := ι) (A := Own X.B h ι) (s.data.toList.map fun b => Value.int .u8 b.toNat)
    simpa [List.map_map, Function.comp_def] using this
  · intro u hu
    obtain ⟨b, _, rfl⟩ := List.mem_map.1 hu
    rfl
  · simp
  · have hx : (s.extract 0 s.size).data = s.data := by simp
    simp only [Builtin.firstCells, hx, Sem.run_pure]
    congr 1
    apply Array.ext'
    simp
theorem Elem.info {t e : TypeId} {k bytes : Nat} {z : List Value} (E : Elem P t e k bytes z) : ∃ i u, P.info? e = some i ∧ i.size = k ∧ i.bytes = bytes ∧ i.zero = some u ∧ u.cells.toList = z := by
  have h1 := E.size
  have h2 := E.zc
  unfold Abs.zc at h2
  cases hi : P.info? e with
  | none => simp [hi] at h1
  | some i =>
    simp [hi] at h1 h2
    obtain ⟨u, hu, hz⟩ := h2
    exact ⟨i, u, rfl, h1.1, h1.2, hu, hz⟩
theorem append_core {o : Oper} {s x : Operand} {t u e : TypeId} {k bytes : Nat} {z : List Value} (ho : o.op = .call ⟨.builtin .append, #[s, x], #[t, u]⟩)
    {r ver n m : Nat} {rt : Rt} {news : List AV} (E : Elem P t e k bytes z) (hrt : h.at r = some rt) (hver : rt.ver = ver) (hl : rt.live = true) (he : rt.e = e) (hk : rt.k = k) (hn : n * k ≤ rt.cs.length)
    (hsz : (n + m) * bytes ≤ 140737488355328) (hmx : n + m ≤ 140737488355328) (hud : (∃ e', P.underlying u = some (.slice e')) ∨ P.underlying u = some .string)
    {X : Ctx} {a : Act} {w : World} {ι : Nat → Bk} {Q : Exit → Act → World → Prop} {next : Act → World → Prop} (H : Hol X h ι w) (hop : VR w h ι (Own X.B h ι) (.rsl r ver 0 n) (a.eval s))
    (hlen : ∀ w', (Builtin.lenOf (a.eval x)).run P w' = .ok m w') {l : List Value} (hvl : VRL w h ι (Own X.B h ι) news l) (hl1 : ∀ u ∈ l, u.oneCell' = true) (hll : l.length = m * k)
    (hfc : ∀ w' : World, w'.heap = w.heap → (Builtin.firstCells k m (a.eval x)).run P w' = .ok l.toArray w')
    (hnx : ∀ b' w' v, Hol X ((r, ⟨ver + 1, true, e, k, rt.cs.take (n * k) ++ news⟩) :: h) (upd ι r b') w' →
      Keep w h ι (Own X.B h ι) w' ((r, ⟨ver + 1, true, e, k, rt.cs.take (n * k) ++ news⟩) :: h) (upd ι r b') (Own X.B ((r, ⟨ver + 1, true, e, k, rt.cs.take (n * k) ++ news⟩) :: h) (upd ι r b')) →
      VR w' ((r, ⟨ver + 1, true, e, k, rt.cs.take (n * k) ++ news⟩) :: h) (upd ι r b') (Own X.B ((r, ⟨ver + 1, true, e, k, rt.cs.take (n * k) ++ news⟩) :: h) (upd ι r b')) (.rsl r (ver + 1) 0 (n + m)) v → next (a.put o.dst v) w') :
    o.wp P a w next Q := by
  obtain ⟨i, zu, hi, hisz, hiby, hiz, hzu⟩ := E.info
  obtain ⟨rt', hrt', _, _, ao, c, hsv, hnc, hcase⟩ := VR.rsl_now (k := k) hop (by simp [hrt, hver, hk])
  rw [hrt] at hrt'
  cases hrt'
  have hpos := E.pos
  have hexec : ∀ v w', (Builtin.append_ #[t, u] o.type #[.slice ao n c, a.eval x]).run P w = .ok v w' → (execOp a.eval o).run P w = .ok (.value v) w' := by
    intro v w' hr
    simp only [execOp, ho, resolve, invoke, builtin, Sem.run_bind, Sem.run_pure, Result.andThen_ok, List.map_toArray, List.map_cons, List.map_nil, hsv, hr]
  -- the elements that were there
  have hold : ∃ olds : List Value, VRL w h ι (Own X.B h ι) (rt.cs.take (n * k)) olds ∧ (∀ u ∈ olds, u.oneCell' = true) ∧ olds.length = n * k ∧
      ∀ w' : World, w'.heap = w.heap → (Builtin.firstCells k n (.slice ao n c)).run P w' = .ok olds.toArray w' := by
    have := (SrcA.rsl (P := P) (u := t) (h := h) (r := r) (ver := ver) (off := 0) (k := k) (m := n) (by have := sle_some E.sle; simp [tk, this]) hrt hver hl hk (by omega)).2 X ι w _ H hop
    rw [hsv] at this
    obtain ⟨_, olds, h1, h2, h3, h4⟩ := this
    exact ⟨olds, by simpa using h1, h2, h3, h4⟩
  obtain ⟨olds, ho1, ho2, ho3, ho4⟩ := hold
  have hnl : VRL w h ι (Own X.B h ι) (rt.cs.take (n * k) ++ news) (olds ++ l) := ho1.append hvl
  have hnll : (olds ++ l).length = (rt.cs.take (n * k) ++ news).length := hnl.length
  have hn1 : ∀ u ∈ olds ++ l, u.oneCell' = true := fun u hu => by
    rcases List.mem_append.1 hu with hu | hu
    · exact ho2 u hu
    · exact hl1 u hu
  -- where it grows
  have hgrow : c < n + m → o.wp P a w next Q := by
    intro hgt
    have hfit : Builtin.nextslicecap (n + m) c * i.bytes ≤ 281474976710656 := growslice_fits hgt (by rw [hiby]; exact hsz)
    have hr := run_append_new (P := P) w (ty := o.type) (sle_some E.sle) hud hi hiz ao n c olds (by rw [hisz]; exact ho4 _ rfl) (a.eval x) m l (hlen w) (by rw [hisz]; exact hfc _ rfl) hgt (by omega) hfit
    have hcap : grownCap w (n + m) c e ≤ maxLen := grownCap_le_maxLen w _ _ _ (by simp only [maxLen]; omega)
    have hge := grownCap_ge w (n + m) c e
    have hasz : ((olds ++ l ++ (Builtin.zeroCells zu.cells (grownCap w (n + m) c e - (n + m))).toList).toArray).size = grownCap w (n + m) c e * k := by
      have hzs : zu.cells.size = k := by rw [← E.zlen, ← hzu]; simp
      simp only [List.size_toArray, List.length_append, ho3, hll, Array.length_toList, size_zeroCells, hzs]
      rw [← Nat.add_mul, ← Nat.add_mul]
      congr 1
      omega
    have hwd : Below w.heap.size w w.drew := ⟨rfl, rfl, rfl, Nat.le_refl _, fun _ _ => rfl⟩
    have hup := H.upd r ⟨ver + 1, true, e, k, rt.cs.take (n * k) ++ news⟩ ⟨some w.heap.size, grownCap w (n + m) c e⟩ (w.drew.alloc (.cells (olds ++ l ++ (Builtin.zeroCells zu.cells (grownCap w (n + m) c e - (n + m))).toList).toArray e))
      rfl rfl rfl (by simp) (fun β hβ _ => Below.heap_alloc w.drew _ β hβ) (fun rt2 h2 => by rw [hrt] at h2; cases h2; left; simp only; omega) (fun _ g hg => .inl (by simp at hg; omega)) (fun _ Kp => by
        refine .inr ⟨w.heap.size, _, rfl, heap_alloc_new w.drew _, hasz, hcap, ?_, ?_⟩
        · have htk : ((olds ++ l ++ (Builtin.zeroCells zu.cells (grownCap w (n + m) c e - (n + m))).toList).toArray).toList.take (rt.cs.take (n * k) ++ news).length = olds ++ l := by
            rw [← hnll]; exact List.take_left
          rw [htk]
          exact VRL.keep Kp _ _ hnl
        · have htk : ((olds ++ l ++ (Builtin.zeroCells zu.cells (grownCap w (n + m) c e - (n + m))).toList).toArray).toList.take (rt.cs.take (n * k) ++ news).length = olds ++ l := by
            rw [← hnll]; exact List.take_left
          rw [htk]
          exact hn1)
    simp only [Oper.wp, hexec _ _ hr, Oper.upon]
    refine hnx _ _ _ hup.1 hup.2 (VR.newrsl (rt := ⟨ver + 1, true, e, k, _⟩) ?_)
    exact ⟨_, _, rfl, hge, .inr ⟨w.heap.size, rfl, .inl ⟨rfl, by simp⟩⟩⟩
  rcases hcase with ⟨b1, rfl, rfl, rfl, _⟩ | ⟨g, hg, hrest⟩
  · --
    by_cases hm : m = 0
    · subst hm
      have hl0 : l = [] := List.eq_nil_of_length_eq_zero (by simpa using hll)
      have hnews : news = [] := by
        have := hvl.length
        rw [hl0] at this
        exact List.eq_nil_of_length_eq_zero (by simpa using this.symm)
      have hr : (Builtin.append_ #[t, u] o.type #[.slice none 0 0, a.eval x]).run P w = .ok (.slice none 0 0) w := by
        have h2 := hfc w rfl
        have h1 := hlen w
        rw [hl0] at h2
        rcases hud with ⟨e', hud⟩ | hud <;> simp [Builtin.append_, run_underlying (sle_some E.sle), run_underlying hud, sizeOf, typeInfo, hi, hisz, h1, h2]
      have hup := H.upd r ⟨ver + 1, true, e, k, rt.cs.take (0 * k) ++ news⟩ ⟨none, 0⟩ w rfl rfl rfl (Nat.le_refl _) (fun β _ _ => rfl) (fun rt2 h2 => by rw [hrt] at h2; cases h2; left; simp only; omega) (fun _ g hg => by simp at hg) (fun _ Kp => .inl ⟨rfl, by simp [hnews], rfl⟩)
      simp only [Oper.wp, hexec _ _ hr, Oper.upon]
      refine hnx _ _ _ hup.1 hup.2 (VR.newrsl (rt := ⟨ver + 1, true, e, k, _⟩) ?_)
      exact ⟨_, _, rfl, Nat.le_refl _, .inl ⟨rfl, rfl, rfl, rfl, rfl⟩⟩
    · exact hgrow (by omega)
  · obtain ⟨arr, c1, c2, c3, c4, c5⟩ := (H.roots r rt hrt hl).row hg
    by_cases hroom : n + m ≤ c
    · rcases hrest with ⟨rfl, hcap⟩ | ⟨rfl, rfl⟩
      · have hce : c = (ι r).cap := by
          have : c * k = (ι r).cap * k := by omega
          exact Nat.eq_of_mul_eq_mul_right hpos this
        subst hce
        rw [he] at c1
        rw [hk] at c2
        have hfit : n * k + l.length ≤ arr.size := by rw [hll, c2, ← Nat.add_mul]; exact Nat.mul_le_mul_right _ hroom
        have hr := run_append_fit (P := P) w (ty := o.type) (sle_some E.sle) hud hi g n (ι r).cap arr c1 (a.eval x) m l (hlen w) (by rw [hisz]; exact hfc w rfl) hl1 hroom (by rw [hisz]; exact hfit)
        rw [hisz] at hr
        have holds : arr.toList.take (n * k) = olds := by
          have h2 := ho4 w rfl
          have h3 := run_firstCells_some (P := P) w k n ⟨g, 0, none⟩ n (ι r).cap (arr.toList.take (n * k)) (by simp; omega) (fun j v hv => by
            rw [addr_add, Nat.zero_add, cell_of_row w g j arr e (0, 0) c1]
            rw [List.getElem?_take] at hv
            split at hv
            · simpa using hv
            · cases hv)
          rw [h2] at h3
          simp at h3
          exact h3.symm
        have htk : ((Abs.putA arr.toList (n * k) l).toArray).toList.take (rt.cs.take (n * k) ++ news).length = olds ++ l := by
          rw [← hnll]
          simp only [Abs.putA, holds]
          exact List.take_left
        have hup := H.upd r ⟨ver + 1, true, e, k, rt.cs.take (n * k) ++ news⟩ (ι r) (w.setRow g (Abs.putA arr.toList (n * k) l).toArray) rfl rfl rfl (by simp)
          (fun β hβ hne => setRow_other w g β _ (fun ee => hne rt hrt hl (by rw [ee]; exact hg))) (fun rt2 h2 => by rw [hrt] at h2; cases h2; left; simp only; omega) (fun _ g' hg' => .inr ⟨rt, hrt, hl, hg'⟩) (fun _ Kp => by
            refine .inr ⟨g, _, hg, setRow_heap w g arr _ e _ c1, ?_, c3, ?_, ?_⟩
            · simp only [Abs.putA, List.size_toArray, List.length_append, List.length_take, List.length_drop, Array.length_toList]
              omega
            · rw [htk]; exact VRL.keep Kp _ _ hnl
            · rw [htk]; exact hn1)
        simp only [Oper.wp, hexec _ _ hr, Oper.upon]
        refine hnx _ _ _ hup.1 hup.2 (VR.newrsl (rt := ⟨ver + 1, true, e, k, _⟩) ?_)
        exact ⟨_, _, rfl, hroom, .inr ⟨g, hg, .inl ⟨rfl, by simp⟩⟩⟩
      · --
        have hm0 : m = 0 := by omega
        subst hm0
        have hl0 : l = [] := List.eq_nil_of_length_eq_zero (by simpa using hll)
        have hnews : news = [] := by
          have := hvl.length
          rw [hl0] at this
          exact List.eq_nil_of_length_eq_zero (by simpa using this.symm)
        have hr : (Builtin.append_ #[t, u] o.type #[.slice ao 0 0, a.eval x]).run P w = .ok (.slice ao 0 0) w := by
          have h2 := hfc w rfl
          have h1 := hlen w
          rw [hl0] at h2
          rcases hud with ⟨e', hud⟩ | hud <;> cases ao <;> simp [Builtin.append_, run_underlying (sle_some E.sle), run_underlying hud, sizeOf, typeInfo, hi, hisz, h1, h2, storeCells]
        have hup := H.upd r ⟨ver + 1, true, e, k, rt.cs.take (0 * k) ++ news⟩ (ι r) w rfl rfl rfl (Nat.le_refl _)
          (fun β _ _ => rfl) (fun rt2 h2 => by rw [hrt] at h2; cases h2; left; simp only; omega) (fun _ g' hg' => .inr ⟨rt, hrt, hl, hg'⟩) (fun _ Kp => by
            refine .inr ⟨g, arr, hg, by rw [c1, he], by rw [c2, hk], c3, ?_, ?_⟩
            · simp [hnews, VRL]
            · simp [hnews])
        simp only [Oper.wp, hexec _ _ hr, Oper.upon]
        refine hnx _ _ _ hup.1 hup.2 (VR.newrsl (rt := ⟨ver + 1, true, e, k, _⟩) ?_)
        exact ⟨_, _, rfl, Nat.le_refl _, .inr ⟨g, hg, .inr ⟨rfl, rfl⟩⟩⟩
    · exact hgrow (by omega)
theorem OpsW.append {o : Oper} {rest : List Oper} {K : Env → Hp → Prop} {s x : Operand} {t u e : TypeId} {k bytes : Nat} {z : List Value} (ho : o.op = .call ⟨.builtin .append, #[s, x], #[t, u]⟩) (hgu : o.guard = none) (hd : o.dst.all (· < N) = true)
    {r ver n m : Nat} {rt : Rt} {news : List AV} (E : Elem P t e k bytes z) (hs : rdo env s = .rsl r ver 0 n) (hrt : h.at r = some rt) (hver : rt.ver = ver) (hl : rt.live = true) (he : rt.e = e) (hk : rt.k = k) (hn : n * k ≤ rt.cs.length)
    (hx : gd (rdo env x)) (src : SrcA P h u k (st (rdo env x)) m news) (hsz : (n + m) * bytes ≤ 140737488355328) (hmx : n + m ≤ 140737488355328)
    (hw : OpsW P N ops rest (setd env o.dst (.rsl r (ver + 1) 0 (n + m))) ((r, ⟨ver + 1, true, e, k, rt.cs.take (n * k) ++ news⟩) :: h) K) : OpsW P N ops (o :: rest) env h K := by
  refine OpsW.root hgu hd r _ _ ?_ hw
  intro X a w ι Q next H hop hnx
  obtain ⟨hud, hsrc⟩ := src
  obtain ⟨hlen, l, hvl, hl1, hll, hfc⟩ := hsrc X ι w (a.eval x) H ((hop x).st hx)
  exact append_core ho E hrt hver hl he hk hn hsz hmx hud H (hs ▸ hop s) hlen hvl hl1 hll hfc hnx
theorem build_cells {o : Oper} {t e : TypeId} {len k bytes : Nat} {z : List Value} {ps : List (Nat × Operand)} (ho : o.op = .buildSlice t len ps.toArray) (E : Elem P t e k bytes z) (hlen : len * k ≤ 16777216)
    (hgd : ∀ p ∈ ps, gd (rdo env p.2)) (hok : ∀ p ∈ ps, okC h (st (rdo env p.2))) {cs : List AV} (hf : fillA h (fun i => some (i * k, k)) (zerosA z len) (ps.map fun p => (p.1, st (rdo env p.2))) = some cs)
    (hone : ∀ x ∈ cs, oneA h x) (hcl : cs.length = len * k) {A : Nat → Prop} {a : Act} {w : World} {ι : Nat → Bk} (hop : ∀ x, VR w h ι A (rdo env x) (a.eval x)) :
    ∃ arr : Array Value, VRL w h ι A cs arr.toList ∧ arr.size = len * k ∧ (∀ u ∈ arr.toList, u.oneCell' = true) ∧
      (execOp a.eval o).run P w = .ok (.value (.slice (some ⟨w.heap.size, 0, none⟩) len len)) (w.alloc (.cells arr e)) := by
  obtain ⟨u, hu, hcu⟩ := zc_some (w := w) E.zc
  obtain ⟨i, zu, hi, hisz, hiby, hiz, hzu⟩ := E.info
  have husz : u.cells.size = k := by rw [← E.zlen, ← hcu]; simp
  have hvp := VRP.mk (h := h) (w := w) (ι := ι) (A := A) (η := a.eval) ps hgd (fun p _ => hop p.2)
  have hz0 : VRL w h ι A (zerosA z len) ((Array.range (len * k)).map (u.cells[· % u.cells.size]!)).toList := by
    rw [zeros_eq u.cells k len husz E.pos, hcu]
    exact VRL.vals _
  obtain ⟨arr, h1, h2⟩ := fill_sound (arr := (Array.range (len * k)).map (u.cells[· % u.cells.size]!)) hf hvp (fun p hp => by
    obtain ⟨q, hq, rfl⟩ := List.mem_map.1 hp
    exact hok q hq) hz0
  have hal : arr.size = len * k := by rw [← hcl]; simpa using h2.length
  refine ⟨arr, h2, hal, oneA.sound_list hone h2, ?_⟩
  have hbig : ¬ (len * k > 2 ^ 24) := by omega
  simp only [execOp, ho, Instr.buildSlice, Sem.run_bind, run_underlying (sle_some E.sle), sizeOf, typeInfo, program, Sem.run, hi, Result.andThen_ok, Sem.run_pure, hisz]
  by_cases h0 : len * k = 0
  · have hl0 : len = 0 := by
      rcases Nat.mul_eq_zero.1 h0 with h | h
      · exact h
      · have := E.pos; omega
    subst hl0
    have e0 : Array.range 0 = #[] := rfl
    simp only [Nat.zero_mul, e0, List.map_toArray, List.map_nil] at h1
    simp [e0, h1, newRow, Sem.run_bind]
  · simp [h0, hbig, hu, h1, newRow, Sem.run_bind]
theorem OpsW.appendL {o1 o2 : Oper} {rest : List Oper} {K : Env → Hp → Prop} {s : Operand} {d1 t e : TypeId} {k bytes m : Nat} {z : List Value} {ps : List (Nat × Operand)} (h1 : o1.op = .buildSlice t m ps.toArray) (hd1 : o1.dst = some d1) (hg1 : o1.guard = none) (hN : d1 < N)
    (h2 : o2.op = .call ⟨.builtin .append, #[s, .tmp d1], #[t, t]⟩) (hg2 : o2.guard = none) (hd2 : o2.dst.all (· < N) = true) (hsd : s ≠ .tmp d1) (E : Elem P t e k bytes z) (hm : m * k ≤ 16777216)
    (hgd : ∀ p ∈ ps, gd (rdo env p.2)) (hok : ∀ p ∈ ps, okC h (st (rdo env p.2))) (cs : List AV) (hf : fillA h (fun i => some (i * k, k)) (zerosA z m) (ps.map fun p => (p.1, st (rdo env p.2))) = some cs)
    (hone : ∀ x ∈ cs, oneA h x) (hcl : cs.length = m * k)
    {r ver n : Nat} {rt : Rt} (hs : rdo env s = .rsl r ver 0 n) (hrt : h.at r = some rt) (hver : rt.ver = ver) (hl : rt.live = true) (he : rt.e = e) (hk : rt.k = k) (hn : n * k ≤ rt.cs.length)
    (hsz : (n + m) * bytes ≤ 140737488355328) (hmx : n + m ≤ 140737488355328)
    (hw : OpsW P N ops rest (setd ((d1, .any) :: env) o2.dst (.rsl r (ver + 1) 0 (n + m))) ((r, ⟨ver + 1, true, e, k, rt.cs.take (n * k) ++ cs⟩) :: h) K) : OpsW P N ops (o1 :: o2 :: rest) env h K := by
  intro X a w ι Q H S hQ
  obtain ⟨arr, ha1, ha2, ha3, hrun⟩ := build_cells (P := P) h1 E hm hgd hok hf hone hcl (fun x => S.eval H.globOK x)
  have hb : Below w.heap.size w (w.alloc (.cells arr e)) := (Below.refl _ _).alloc (Nat.le_refl _) _
  refine wpList_plain hg1 fun K1 hK1 => ?_
  simp only [Oper.wp, hrun, Oper.upon, hd1]
  refine hK1 _ _ (wpList_plain hg2 fun K2 hK2 => ?_)
  have S1 := (S.below hb).put (v := .slice (some ⟨w.heap.size, 0, none⟩) m m) (av := .any) hN (by simp [VR])
  have H1 := H.below hb
  have hev : (a.put (some d1) (.slice (some ⟨w.heap.size, 0, none⟩) m m)).eval (.tmp d1) = .slice (some ⟨w.heap.size, 0, none⟩) m m := by
    have : d1 < a.tmps.size := by rw [S.size]; exact hN
    simp only [Act.eval, Act.put, Array.getD_eq_getD_getElem?, Array.getElem?_setIfInBounds_self_of_lt this, Option.getD_some]
  have hes : (a.put (some d1) (.slice (some ⟨w.heap.size, 0, none⟩) m m)).eval s = a.eval s := Act.eval_put (fun d hd hsx => by
    simp at hd
    subst hd
    exact hsd hsx)
  have hblk : (w.alloc (.cells arr e)).heap[w.heap.size]? = some (.cells arr e (0, 0)) := heap_alloc_new w _
  have hsl : VR (w.alloc (.cells arr e)) h ι (Own X.B h ι) (.rsl r ver 0 n) ((a.put (some d1) (.slice (some ⟨w.heap.size, 0, none⟩) m m)).eval s) := by
    rw [hes, ← hs]
    exact VR.keep (Keep.below hb) _ _ (S.eval H.globOK s)
  refine append_core h2 E hrt hver hl he hk hn hsz hmx (.inl ⟨e, sle_some E.sle⟩) H1 hsl (fun w' => by rw [hev]; simp [Builtin.lenOf]) (VRL.keep (Keep.below hb) _ _ ha1) ha3 (by simpa using ha2) (fun w' hw' => by
    rw [hev]
    refine run_firstCells_some w' k m _ m m arr.toList (by simpa using ha2) (fun j v hv => ?_)
    rw [cell?_heap hw', addr_add, Nat.zero_add, cell_of_row _ w.heap.size j arr e (0, 0) hblk]
    simpa using hv) ?_
  intro b' w' v H' Kp hv
  refine hK2 _ _ (hw X _ w' _ Q H' ?_ hQ)
  have S2 : Slots N ((d1, .any) :: env) _ _ _ (a.put (some d1) (.slice (some ⟨w.heap.size, 0, none⟩) m m)) w' := ⟨S1.size, S1.defers, fun i => VR.keep Kp _ _ (S1.at_ i)⟩
  exact S2.putd (d := o2.dst) hd2 hv
end
end Go.Abs
/-
  Own work. The abstract layer, part 10: store, make; nil slices as roots; roots frozen or dropped.
-/
namespace Go.Abs
open Go.RowKit
section
variable {P : Program} {N : Nat} {ops : Array Oper} {env : Env} {h : Hp} {Q : Exit → Env → Hp → Prop}
def szt (P : Program) (t : TypeId) : Option Nat := (P.info? t).map (·.size)
theorem OpsW.store {o : Oper} {rest : List Oper} {K : Env → Hp → Prop} {t : TypeId} {x y : Operand} (ho : o.op = .store t x y) (hgu : o.guard = none) (hdn : o.dst = none) {r ver off : Nat} {rt : Rt}
    (hx : st (rdo env x) = .ref r ver off) (hgx : gd (rdo env x)) (hgy : gd (rdo env y)) (hrt : h.at r = some rt) (hver : rt.ver = ver) (hl : rt.live = true) (hsz : szt P t = some (cellsA (st (rdo env y))).length) (hok : okC h (st (rdo env y)))
    (hfit : off + (cellsA (st (rdo env y))).length ≤ rt.cs.length)
    (hw : OpsW P N ops rest env ((r, ⟨rt.ver, true, rt.e, rt.k, putA rt.cs off (cellsA (st (rdo env y)))⟩) :: h) K) : OpsW P N ops (o :: rest) env h K := by
  refine OpsW.root hgu (by simp [hdn]) r _ .any ?_ (by rw [hdn]; exact hw)
  intro X a w ι Q next H hop hnx
  obtain ⟨rt', g, hrt', _, hg, hxv⟩ := VR.ref_now (hx ▸ (hop x).st hgx) (by simp [hrt, hver])
  rw [hrt] at hrt'
  cases hrt'
  obtain ⟨arr, c1, c2, c3, c4, c5⟩ := (H.roots r rt hrt hl).row hg
  obtain ⟨hv1, hv2⟩ := hok.sound ((hop y).st hgy)
  have hvl : (a.eval y).cells.toList.length = (cellsA (st (rdo env y))).length := hv1.length
  have hcl : (arr.toList.take rt.cs.length).length = rt.cs.length := c4.length
  have hal : rt.cs.length ≤ arr.size := by simp at hcl; omega
  have hst := run_storeCells_at P g off rt.e (a.eval y).cells.toList 0 arr w c1 (by simp at hvl ⊢; omega) hv2
  simp only [Nat.add_zero] at hst
  have hrun : (execOp a.eval o).run P w = .ok .skip (w.setRow g (putA arr.toList off (a.eval y).cells.toList).toArray) := by
    have hi : ∃ i, P.info? t = some i ∧ i.size = (a.eval y).cells.size := by
      unfold szt at hsz
      cases hi : P.info? t with
      | none => simp [hi] at hsz
      | some i => simp [hi] at hsz; exact ⟨i, rfl, by simp at hvl; omega⟩
    obtain ⟨i, hi, his⟩ := hi
    simp only [execOp, ho, Instr.storeAt, hxv, Instr.sureAddr, storeVar, sizeOf, typeInfo, program, Sem.run_bind, Sem.run, Sem.run_pure, hi, Result.andThen_ok, his, ne_eq, not_true_eq_false, if_false, hst, putA]
  simp only [Oper.wp, hrun, Oper.upon]
  have htk : (putA arr.toList off (a.eval y).cells.toList).take rt.cs.length = putA (arr.toList.take rt.cs.length) off (a.eval y).cells.toList := by
    unfold putA
    have e1 : arr.toList.take off = (arr.toList.take rt.cs.length).take off := by rw [List.take_take]; congr 1; omega
    rw [List.append_assoc, List.append_assoc, List.take_append, List.take_append]
    have l1 : (arr.toList.take off).length = off := by simp; omega
    rw [l1]
    have l2 : (List.take rt.cs.length (List.take off arr.toList)) = List.take off arr.toList := by rw [List.take_take]; congr 1; omega
    rw [l2, e1]
    congr 1
    have l3 : (List.take (rt.cs.length - off) (a.eval y).cells.toList) = (a.eval y).cells.toList := List.take_of_length_le (by omega)
    rw [l3]
    congr 1
    rw [List.drop_take]
    congr 1
    omega
  have hpl : (putA rt.cs off (cellsA (st (rdo env y)))).length = rt.cs.length := by
    unfold putA; simp; omega
  have hup := H.upd r ⟨rt.ver, true, rt.e, rt.k, putA rt.cs off (cellsA (st (rdo env y)))⟩ (ι r) (w.setRow g (putA arr.toList off (a.eval y).cells.toList).toArray) rfl rfl rfl (by simp)
    (fun β hβ hne => setRow_other w g β _ (fun ee => hne rt hrt hl (by rw [ee]; exact hg))) (fun rt2 h2 => by rw [hrt] at h2; cases h2; exact .inr ⟨rfl, rfl, rfl⟩) (fun _ g' hg' => .inr ⟨rt, hrt, hl, hg'⟩) (fun _ Kp => by
      refine .inr ⟨g, _, hg, setRow_heap w g arr _ rt.e _ c1, ?_, c3, ?_, ?_⟩
      · simp only [putA, List.size_toArray, List.length_append, List.length_take, List.length_drop, Array.length_toList] at hvl ⊢
        omega
      · rw [hpl]
        show VRL _ _ _ _ _ (List.take rt.cs.length (putA arr.toList off (a.eval y).cells.toList))
        rw [htk]
        exact VRL.putA off (VRL.keep Kp _ _ c4) (VRL.keep Kp _ _ hv1)
      · rw [hpl]
        show ∀ u ∈ (List.take rt.cs.length (putA arr.toList off (a.eval y).cells.toList)), u.oneCell' = true
        rw [htk]
        intro u hu
        unfold putA at hu
        rcases List.mem_append.1 hu with hu | hu
        · rcases List.mem_append.1 hu with hu | hu
          · exact c5 u (List.mem_of_mem_take hu)
          · exact hv2 u hu
        · exact c5 u (List.mem_of_mem_drop hu))
  exact hnx _ _ _ hup.1 hup.2 (by simp only [VR])
theorem AW.freeze {c : Code} (t r : Nat) {ver off n : Nat} {rt : Rt} {ys : List IV} (ht : rd env t = .rsl r ver off n) (hrt : h.at r = some rt) (hver : rt.ver = ver) (hl : rt.live = true) (hcs : rt.cs = ys.map .im) (hfit : off + n * rt.k ≤ ys.length)
    (hw : AW P N c ((t, .im (.sl ((ys.drop off).take (n * rt.k)) n)) :: env) ((r, ⟨rt.ver + 1, false, rt.e, rt.k, []⟩) :: h) Q) : AW P N c env h Q := by
  intro X a w ι H S
  have hup := H.upd r ⟨rt.ver + 1, false, rt.e, rt.k, []⟩ (ι r) w rfl rfl rfl (Nat.le_refl _) (fun β _ _ => rfl) (fun rt2 h2 => by rw [hrt] at h2; cases h2; left; simp only; omega) (fun hf => by simp at hf) (fun hf => by simp at hf)
  refine hw X a w _ hup.1 ⟨S.size, S.defers, fun i => ?_⟩
  by_cases hi : t = i
  · subst hi
    have hv := S.at_ t
    rw [ht] at hv
    simp only [rd, if_true]
    have hsrc := ArgS.slice (h := h) (bs := [r]) (r := r) (ver := ver) (off := off) (n := n) (rt := rt) (ys := (ys.drop off).take (n * rt.k)) (by simp) hrt hver hl (by rw [hcs, ← List.map_drop, ← List.map_take]) (by simp; omega) X ι w _ H hv
    refine VR.pure (fun β _ hA => ⟨rfl, fun ho => hA ?_⟩) _ _ rfl hsrc
    rcases ho with hb | ⟨j, rtj, hj, hlj, hg⟩
    · refine ⟨.inl hb, fun r' hr' hg => ?_⟩
      simp at hr'
      subst hr'
      exact (H.place r' rt β hrt hl hg).1 hb
    · by_cases hjr : j = r
      · subst hjr
        rw [at_cons_same] at hj
        cases hj
        simp at hlj
      · rw [at_cons_other hjr] at hj
        rw [upd_other hjr] at hg
        refine ⟨.inr ⟨j, rtj, hj, hlj, hg⟩, fun r' hr' hg' => ?_⟩
        simp at hr'
        subst hr'
        exact hjr (H.inj j r' rtj rt β hj hrt hlj hl hg hg')
  · simp only [rd, if_neg hi]
    exact VR.keep hup.2 _ _ (S.at_ i)
mutual
def men (r : Nat) : AV → Bool
  | .any => false
  | .im _ => false
  | .agg cs => menL r cs
  | .tup cs => menL r cs
  | .ipt _ _ => false
  | .ref i _ _ => i == r
  | .rsl i _ _ _ => i == r
  | .cnd _ x => men r x
def menL (r : Nat) : List AV → Bool
  | [] => false
  | c :: cs => men r c || menL r cs
end
mutual
theorem VR.drop {w : World} {h h' : Hp} {ι : Nat → Bk} {A A' : Nat → Prop} {r : Nat} (hA : ∀ β, A' β → A β) (hh : ∀ i rt, i ≠ r → h.at i = some rt → h'.at i = some rt) : ∀ (x : AV) (v : Value), men r x = false → VR w h ι A x v → VR w h' ι A' x v
  | .any, _, _, _ => by simp only [VR]
  | .im x, v, _, hv => by simp only [VR] at hv ⊢; exact VRI.keep (fun β _ hn => ⟨rfl, fun ha => hn (hA β ha)⟩) x v hv
  | .agg cs, v, hm, hv => by
    simp only [VR] at hv ⊢
    obtain ⟨l, hl, hr⟩ := hv
    exact ⟨l, hl, VRL.dropR hA hh cs l (by simpa only [men] using hm) hr⟩
  | .tup cs, v, hm, hv => by
    simp only [VR] at hv ⊢
    obtain ⟨l, hl, hr⟩ := hv
    exact ⟨l, hl, VRL.dropR hA hh cs l (by simpa only [men] using hm) hr⟩
  | .ipt cs off, v, _, hv => by
    simp only [VR] at hv ⊢
    obtain ⟨a, l, hl, hlie, hr⟩ := hv
    exact ⟨a, l, hl, hlie.keep (fun β _ hn => ⟨rfl, fun ha => hn (hA β ha)⟩), VRIL.keep (fun β _ hn => ⟨rfl, fun ha => hn (hA β ha)⟩) cs l hr⟩
  | .ref i ver off, v, hm, hv => by
    simp only [VR] at hv ⊢
    obtain ⟨rt, hrt, hrest⟩ := hv
    exact ⟨rt, hh i rt (by simpa [men] using hm) hrt, hrest⟩
  | .rsl i ver off n, v, hm, hv => by
    simp only [VR] at hv ⊢
    obtain ⟨rt, hrt, hrest⟩ := hv
    exact ⟨rt, hh i rt (by simpa [men] using hm) hrt, hrest⟩
  | .cnd g x, v, hm, hv => by simp only [VR] at hv ⊢; exact ⟨fun hg => VR.drop hA hh x v (by simpa only [men] using hm) (hv.1 hg), hv.2⟩
theorem VRL.dropR {w : World} {h h' : Hp} {ι : Nat → Bk} {A A' : Nat → Prop} {r : Nat} (hA : ∀ β, A' β → A β) (hh : ∀ i rt, i ≠ r → h.at i = some rt → h'.at i = some rt) : ∀ (cs : List AV) (l : List Value), menL r cs = false → VRL w h ι A cs l → VRL w h' ι A' cs l
  | [], _, _, hv => by simpa only [VRL] using hv
  | c :: cs, l, hm, hv => by
    simp only [VRL] at hv ⊢
    simp only [menL, Bool.or_eq_false_iff] at hm
    obtain ⟨v, l', hl, hv, hr⟩ := hv
    exact ⟨v, l', hl, VR.drop hA hh c v hm.1 hv, VRL.dropR hA hh cs l' hm.2 hr⟩
end
theorem AW.drop {c : Code} (r : Nat) (hr2 : r < 2000) (h' : Hp) (hh : ∀ i, h'.at i = if i = r then none else h.at i) (henv : ∀ i, men r (rd env i) = false) (hroots : ∀ i rt, i ≠ r → h.at i = some rt → menL r rt.cs = false) (hw : AW P N c env h' Q) : AW P N c env h Q := by
  intro X a w ι H S
  have h1 : ∀ i rt, i ≠ r → h.at i = some rt → h'.at i = some rt := fun i rt hi hr => by rw [hh i, if_neg hi]; exact hr
  have h2 : ∀ i rt, h'.at i = some rt → i ≠ r ∧ h.at i = some rt := fun i rt hi => by
    rw [hh i] at hi
    split at hi
    · cases hi
    · rename_i hne; exact ⟨hne, hi⟩
  have hA : ∀ β, Own X.B h' ι β → Own X.B h ι β := by
    rintro β (hb | ⟨i, rt, hi, hl, hg⟩)
    · exact .inl hb
    · exact .inr ⟨i, rt, (h2 i rt hi).2, hl, hg⟩
  refine hw X a w ι ?_ ⟨S.size, S.defers, fun i => VR.drop hA h1 _ _ (henv i) (S.at_ i)⟩
  exact {
    roots := fun i rt hi hl => by
      obtain ⟨hne, hi'⟩ := h2 i rt hi
      rcases H.roots i rt hi' hl with hn | ⟨g, arr, c1, c2, c3, c4, c5, c6⟩
      · exact .inl hn
      · exact .inr ⟨g, arr, c1, c2, c3, c4, VRL.dropR hA h1 _ _ (hroots i rt hne hi') c5, c6⟩
    inj := fun i j rti rtj g hi hj => H.inj i j rti rtj g (h2 i rti hi).2 (h2 j rtj hj).2
    place := fun i rt g hi => H.place i rt g (h2 i rt hi).2
    pin := fun i b k hp => by
      obtain ⟨p1, rt, p2, p3⟩ := H.pin i b k hp
      exact ⟨p1, rt, h1 i rt (by omega) p2, p3⟩
    os := H.os
    tape := H.tape
    output := H.output
    size := H.size
    frame := H.frame
    old := H.old
    glob := H.glob }
theorem OpsW.make {o : Oper} {rest : List Oper} {K : Env → Hp → Prop} {t e : TypeId} {k bytes : Nat} {z : List Value} {x y : Operand} (ho : o.op = .makeSlice t x y) (hgu : o.guard = none) (hd : o.dst.all (· < N) = true)
    (r : Nat) (hr : h.at r = none) (E : Elem P t e k bytes z) {kx ky : IntKind} {l c : Int} (hx : rdo env x = .int kx l) (hy : rdo env y = .int ky c) (h0 : 0 ≤ l) (hlc : l ≤ c) (hb : (bytes : Int) * c ≤ 281474976710656) (h63 : c ≤ 9223372036854775807)
    (hw : OpsW P N ops rest (setd env o.dst (.rsl r 0 0 l.toNat)) ((r, ⟨0, true, e, k, zerosA z l.toNat⟩) :: h) K) : OpsW P N ops (o :: rest) env h K := by
  refine OpsW.root hgu hd r _ _ ?_ hw
  intro X a w ι Q next H hop hn
  obtain ⟨i, zu, hi, hisz, hiby, hiz, hzu⟩ := E.info
  have hxv := hop x
  have hyv := hop y
  rw [hx, VR.int_iff] at hxv
  rw [hy, VR.int_iff] at hyv
  have hzs : zu.cells.size = k := by rw [← E.zlen, ← hzu]; simp
  have hr1 := run_make (P := P) w t e i zu (sle_some E.sle) hi hiz kx ky l c h0 hlc (by rw [hiby]; exact hb) h63
  rw [hisz] at hr1
  have hal : (madeCells zu.cells (c.toNat * k)).toList = (List.replicate c.toNat z).flatten := by
    unfold madeCells
    rw [zeros_eq zu.cells k c.toNat hzs E.pos, hzu]
  have hzl : ((List.replicate l.toNat z).flatten).length = l.toNat * k := by simp [E.zlen]
  have htk : (madeCells zu.cells (c.toNat * k)).toList.take (zerosA z l.toNat).length = (List.replicate l.toNat z).flatten := by
    have h1 : (zerosA z l.toNat).length = ((List.replicate l.toNat z).flatten).length := by simp [zerosA]
    rw [hal, h1]
    have h2 : List.replicate c.toNat z = List.replicate l.toNat z ++ List.replicate (c.toNat - l.toNat) z := by rw [List.replicate_append_replicate]; congr 1; omega
    rw [h2, List.flatten_append]
    exact List.take_left
  obtain ⟨H', K'⟩ := H.alloc r hr e k c.toNat (zerosA z l.toNat) (madeCells zu.cells (c.toNat * k)) (size_madeCells _ _) (by simp only [maxLen]; omega) (by rw [htk]; exact VRL.vals _) (by
    rw [htk]
    intro u hu
    obtain ⟨y, hy, huy⟩ := List.mem_flatten.1 hu
    rw [List.eq_of_mem_replicate hy] at huy
    exact List.all_eq_true.1 E.one u huy)
  have hrun : (execOp a.eval o).run P w = .ok (.value (.slice (some ⟨w.heap.size, 0, none⟩) l.toNat c.toNat)) (w.alloc (.cells (madeCells zu.cells (c.toNat * k)) e)) := by
    simp only [execOp, ho, Sem.run_bind, hxv, hyv, hr1, Result.andThen_ok, Sem.run_pure]
  simp only [Oper.wp, hrun, Oper.upon]
  refine hn _ _ _ H' K' (VR.newrsl (rt := ⟨0, true, e, k, _⟩) ?_)
  exact ⟨_, _, rfl, by omega, .inr ⟨w.heap.size, rfl, .inl ⟨rfl, by simp⟩⟩⟩
end
end Go.Abs
/-
  Own work. The abstract layer, part 11: rows of computing operations at once.
-/
namespace Go.Abs
open Go.RowKit
section
variable {P : Program} {N : Nat} {ops : Array Oper} {env : Env} {h : Hp}
def pw (P : Program) (N : Nat) (ops : Array Oper) (h : Hp) : List Oper → Env → (Env → Prop) → Prop
  | [], env, K => K env
  | o :: l, env, K => o.dst.all (· < N) = true ∧ gpo ops env o (po P h (rdo env) o.op) ∧ pw P N ops h l (setd env o.dst (gav ops env o (pv P h (rdo env) o.op))) K
theorem OpsW.pures {K : Env → Hp → Prop} : ∀ (n : Nat) (l : List Oper) (env : Env), pw P N ops h (l.take n) env (fun env' => OpsW P N ops (l.drop n) env' h K) → OpsW P N ops l env h K
  | 0, l, env, hw => by simpa [pw] using hw
  | n + 1, [], env, hw => by simpa [pw] using hw
  | n + 1, o :: l, env, hw => by
    simp only [List.take_succ_cons, List.drop_succ_cons, pw] at hw
    exact OpsW.pure hw.1 hw.2.1 (OpsW.pures n l _ hw.2.2)
theorem OpsW.all {K : Env → Hp → Prop} : ∀ (l : List Oper) (env : Env), pw P N ops h l env (fun env' => K env' h) → OpsW P N ops l env h K
  | [], env, hw => OpsW.nil hw
  | o :: l, env, hw => by
    simp only [pw] at hw
    exact OpsW.pure hw.1 hw.2.1 (OpsW.all l _ hw.2.2)
theorem QOps.all {K : Env → Prop} : ∀ (l : List Oper) (env : Env), pw P N ops h l env K → QOps P ops h l env K
  | [], env, hw => hw
  | o :: l, env, hw => by
    simp only [pw] at hw
    exact QOps.pure hw.2.1 (QOps.all l _ hw.2.2)
theorem QOps.pures {K : Env → Prop} : ∀ (n : Nat) (l : List Oper) (env : Env), pw P N ops h (l.take n) env (fun env' => QOps P ops h (l.drop n) env' K) → QOps P ops h l env K
  | 0, l, env, hw => by simpa [pw] using hw
  | n + 1, [], env, hw => by simpa [pw] using hw
  | n + 1, o :: l, env, hw => by
    simp only [List.take_succ_cons, List.drop_succ_cons, pw] at hw
    exact QOps.pure hw.2.1 (QOps.pures n l _ hw.2.2)
theorem OpsW.as {o : Oper} {rest : List Oper} {K : Env → Hp → Prop} (x : AV) (hd : o.dst.all (· < N) = true) (hg : gpo ops env o (po P h (rdo env) o.op ∧ pv P h (rdo env) o.op = x))
    (hr : OpsW P N ops rest (setd env o.dst (gav ops env o x)) h K) : OpsW P N ops (o :: rest) env h K :=
  OpsW.quiet hd (Quiet.guarded hg fun hp X a w ι Q H hop next hn => by
    obtain ⟨v, hr, hv⟩ := pv_sound (P := P) H hp.1 hop
    simp only [Oper.wp, hr, Oper.upon]
    exact hn v w (Below.refl _ _) (hp.2 ▸ hv)) hr
theorem QOps.as {o : Oper} {rest : List Oper} {K : Env → Prop} (x : AV) (hg : gpo ops env o (po P h (rdo env) o.op ∧ pv P h (rdo env) o.op = x))
    (hr : QOps P ops h rest (setd env o.dst (gav ops env o x)) K) : QOps P ops h (o :: rest) env K :=
  ⟨_, Quiet.guarded hg fun hp X a w ι Q H hop next hn => by
    obtain ⟨v, hr, hv⟩ := pv_sound (P := P) H hp.1 hop
    simp only [Oper.wp, hr, Oper.upon]
    exact hn v w (Below.refl _ _) (hp.2 ▸ hv), hr⟩
variable {Q : Exit → Env → Hp → Prop}
theorem Env.le.nil : Env.le env [] := fun _ => .inl rfl
theorem Env.le.cons {i : Nat} {v : AV} {r : Env} (hv : rd env i = v) (hr : Env.le env r) : Env.le env ((i, v) :: r) := by
  intro j
  by_cases hj : i = j
  · subst hj; right; simp [rd, hv]
  · simp only [rd, if_neg hj]; exact hr j
theorem Done.one {fn : Func} {t : Nat} {x r : AV} {R : AV → Hp → Prop} (hres : fn.results = #[.tmp t]) (hx : rd env t = x) (hs : Sub x r) (hR : R r h) : Done P fn R .ret env h :=
  ⟨r, (Res.tmp hres).sub (hx ▸ hs), hR⟩
theorem Done.two {fn : Func} {t u : Nat} {x y r s : AV} {R : AV → Hp → Prop} (hres : fn.results = #[.tmp t, .tmp u]) (hx : rd env t = x) (hy : rd env u = y) (hs : Sub x r) (hs2 : Sub y s) (hR : R (.tup [r, s]) h) : Done P fn R .ret env h :=
  ⟨_, (Res.tmp2 hres).sub (by rw [hx, hy]; exact Sub.tup2 hs hs2), hR⟩
theorem Hp.eqv.refl (h : Hp) : Hp.eqv h h := fun _ => rfl
theorem OpsW.qcall {o : Oper} {f : FuncId} {xs : List Operand} {ts : Array TypeId} {rest : List Oper} {K : Env → Hp → Prop} {ys : List AV} {r : AV} (ho : o.op = .call ⟨.value (.func f), xs.toArray, ts⟩) (hc : callable P f = true) (hgu : o.guard = none) (hd : o.dst.all (· < N) = true)
    (hgd : ∀ x ∈ xs, gd (rdo env x)) (ha : ArgL h [] (xs.map fun x => st (rdo env x)) ys) (hs : QSpec P f ys r) (hp : pur r = true) (hr : OpsW P N ops rest (setd env o.dst r) h K) : OpsW P N ops (o :: rest) env h K := by
  have hq := Quiet.call (ops := ops) (env := env) ho hc [] ys r (by unfold gpo; rw [hgu]; exact ⟨hgd, ha, hs, .inl ⟨rfl, hp⟩⟩)
  have e : gav ops env o r = r := by unfold gav; rw [hgu]
  rw [e] at hq
  exact OpsW.quiet hd hq hr
theorem QOps.qcall {o : Oper} {f : FuncId} {xs : List Operand} {ts : Array TypeId} {rest : List Oper} {K : Env → Prop} {ys : List AV} {r : AV} (ho : o.op = .call ⟨.value (.func f), xs.toArray, ts⟩) (hc : callable P f = true) (hgu : o.guard = none)
    (hgd : ∀ x ∈ xs, gd (rdo env x)) (ha : ArgL h [] (xs.map fun x => st (rdo env x)) ys) (hs : QSpec P f ys r) (hp : pur r = true) (hr : QOps P ops h rest (setd env o.dst r) K) : QOps P ops h (o :: rest) env K := by
  have hq := Quiet.call (ops := ops) (env := env) ho hc [] ys r (by unfold gpo; rw [hgu]; exact ⟨hgd, ha, hs, .inl ⟨rfl, hp⟩⟩)
  have e : gav ops env o r = r := by unfold gav; rw [hgu]
  rw [e] at hq
  exact ⟨_, hq, hr⟩
theorem OpsW.bcall {o : Oper} {f : FuncId} {xs : List Operand} {ts : Array TypeId} {rest : List Oper} {K : Env → Hp → Prop} {ys : List AV} {r : AV} (bs : List Nat) (ho : o.op = .call ⟨.value (.func f), xs.toArray, ts⟩) (hc : callable P f = true) (hgu : o.guard = none) (hd : o.dst.all (· < N) = true)
    (hgd : ∀ x ∈ xs, gd (rdo env x)) (ha : ArgL h bs (xs.map fun x => st (rdo env x)) ys) (hs : QSpec P f ys r) (hp : scal r = true) (hr : OpsW P N ops rest (setd env o.dst r) h K) : OpsW P N ops (o :: rest) env h K := by
  have hq := Quiet.call (ops := ops) (env := env) ho hc bs ys r (by unfold gpo; rw [hgu]; exact ⟨hgd, ha, hs, .inr hp⟩)
  have e : gav ops env o r = r := by unfold gav; rw [hgu]
  rw [e] at hq
  exact OpsW.quiet hd hq hr
theorem OpsW.gcall {o : Oper} {f : FuncId} {xs : List Operand} {ts : Array TypeId} {rest : List Oper} {K : Env → Hp → Prop} {ys : List AV} {r : AV} {j t : Nat} {b c : Bool} (bs : List Nat) (ho : o.op = .call ⟨.value (.func f), xs.toArray, ts⟩) (hc : callable P f = true)
    (hgu : o.guard = some (j, b)) (hj : (ops[j]?).bind (·.dst) = some t) (hgc : gcond b (rd env t) = some c) (hd : o.dst.all (· < N) = true)
    (hs : c = true → (∀ x ∈ xs, gd (rdo env x)) ∧ ArgL h bs (xs.map fun x => st (rdo env x)) ys ∧ QSpec P f ys r ∧ ((bs = [] ∧ pur r = true) ∨ scal r = true)) (hr : OpsW P N ops rest (setd env o.dst (.cnd c r)) h K) : OpsW P N ops (o :: rest) env h K := by
  have hq := Quiet.call (ops := ops) (env := env) ho hc bs ys r (by unfold gpo; simp only [hgu, hj, hgc]; exact hs)
  have e : gav ops env o r = .cnd c r := by unfold gav; simp only [hgu, hj, hgc]
  rw [e] at hq
  exact OpsW.quiet hd hq hr
theorem QOps.gcall {o : Oper} {f : FuncId} {xs : List Operand} {ts : Array TypeId} {rest : List Oper} {K : Env → Prop} {ys : List AV} {r : AV} {j t : Nat} {b c : Bool} (bs : List Nat) (ho : o.op = .call ⟨.value (.func f), xs.toArray, ts⟩) (hc : callable P f = true)
    (hgu : o.guard = some (j, b)) (hj : (ops[j]?).bind (·.dst) = some t) (hgc : gcond b (rd env t) = some c)
    (hs : c = true → (∀ x ∈ xs, gd (rdo env x)) ∧ ArgL h bs (xs.map fun x => st (rdo env x)) ys ∧ QSpec P f ys r ∧ ((bs = [] ∧ pur r = true) ∨ scal r = true)) (hr : QOps P ops h rest (setd env o.dst (.cnd c r)) K) : QOps P ops h (o :: rest) env K := by
  have hq := Quiet.call (ops := ops) (env := env) ho hc bs ys r (by unfold gpo; simp only [hgu, hj, hgc]; exact hs)
  have e : gav ops env o r = .cnd c r := by unfold gav; simp only [hgu, hj, hgc]
  rw [e] at hq
  exact ⟨_, hq, hr⟩
def Ex.jump (l : Nat) (J : Env → Hp → Prop) (Q : Exit → Env → Hp → Prop) : Exit → Env → Hp → Prop
  | .goto l', e, h => l' = l ∧ J e h
  | x, e, h => Q x e h
theorem Hol.own_lt {X : Ctx} {ι : Nat → Bk} {w : World} (H : Hol X h ι w) {β : Nat} (hb : Own X.B h ι β) : β < w.heap.size := by
  rcases hb with hb | ⟨r, rt, hr, hl, hg⟩
  · exact Nat.lt_of_lt_of_le (H.old β hb).1 H.size
  · obtain ⟨arr, h1, _⟩ := (H.roots r rt hr hl).row hg
    exact lt_of_heap h1
theorem Quiet.buildI {o : Oper} {t e : TypeId} {len k bytes : Nat} {z : List Value} {ps : List (Nat × Operand)} {ys : List IV} (ho : o.op = .buildSlice t len ps.toArray) (E : Elem P t e k bytes z) (hlen : len * k ≤ 16777216)
    (hg : gpo ops env o ((∀ p ∈ ps, gd (rdo env p.2)) ∧ (∀ p ∈ ps, okC h (st (rdo env p.2))) ∧ fillA h (fun i => some (i * k, k)) (zerosA z len) (ps.map fun p => (p.1, st (rdo env p.2))) = some (ys.map .im) ∧ (∀ x ∈ ys.map AV.im, oneA h x) ∧ ys.length = len * k)) :
    Quiet P ops o env h (gav ops env o (.im (.sl ys len))) :=
  Quiet.guarded hg fun ⟨hgd, hok, hf, hone, hcl⟩ X a w ι Q H hop next hn => by
    obtain ⟨u, hu, hcu⟩ := zc_some (w := w) E.zc
    obtain ⟨i, zu, hi, hisz, hiby, hiz, hzu⟩ := E.info
    have husz : u.cells.size = k := by rw [← E.zlen, ← hcu]; simp
    have hvp := VRP.mk (h := h) (w := w) (ι := ι) (A := Own X.B h ι) (η := a.eval) ps hgd (fun p hp => hop p.2 (by rw [ho]; simp only [Op.operands]; exact (List.mem_toArray).2 (List.mem_map.2 ⟨p, by simpa using hp, rfl⟩)))
    have hz0 : VRL w h ι (Own X.B h ι) (zerosA z len) ((Array.range (len * k)).map (u.cells[· % u.cells.size]!)).toList := by
      rw [zeros_eq u.cells k len husz E.pos, hcu]
      exact VRL.vals _
    obtain ⟨arr, h1, h2⟩ := fill_sound (arr := (Array.range (len * k)).map (u.cells[· % u.cells.size]!)) hf hvp (fun p hp => by
      obtain ⟨q, hq, rfl⟩ := List.mem_map.1 hp
      exact hok q hq) hz0
    have hal : arr.size = len * k := by rw [← hcl]; simpa using h2.length
    have hbig : ¬ (len * k > 2 ^ 24) := by omega
    have hrun : (execOp a.eval o).run P w = .ok (.value (.slice (some ⟨w.heap.size, 0, none⟩) len len)) (w.alloc (.cells arr e)) := by
      simp only [execOp, ho, Instr.buildSlice, Sem.run_bind, run_underlying (sle_some E.sle), sizeOf, typeInfo, program, Sem.run, hi, Result.andThen_ok, Sem.run_pure, hisz]
      by_cases h0 : len * k = 0
      · have hl0 : len = 0 := by
          rcases Nat.mul_eq_zero.1 h0 with h | h
          · exact h
          · have := E.pos; omega
        subst hl0
        have e0 : Array.range 0 = #[] := rfl
        simp only [Nat.zero_mul, e0, List.map_toArray, List.map_nil] at h1
        simp [e0, h1, newRow, Sem.run_bind]
      · simp [h0, hbig, hu, h1, newRow, Sem.run_bind]
    simp only [Oper.wp, hrun, Oper.upon]
    have hb : Below w.heap.size w (w.alloc (.cells arr e)) := (Below.refl _ _).alloc (Nat.le_refl _) _
    refine hn _ _ hb ?_
    simp only [VR, VRI]
    have hI := VRL.toI (VRL.keep (Keep.below hb) _ _ h2)
    refine ⟨some ⟨w.heap.size, 0, none⟩, len, arr.toList, rfl, Nat.le_refl _, by simp, fun a' ha' => ?_, hI⟩
    simp at ha'
    subst ha'
    intro j v hv
    refine ⟨?_, fun ho => by have := H.own_lt ho; simp at this, oneA.sound_list hone h2 v (List.mem_of_getElem? hv)⟩
    rw [addr_add, Nat.zero_add, cell_of_row _ w.heap.size j arr e (0, 0) (heap_alloc_new w _)]
    simpa using hv
theorem OpsW.buildI {o : Oper} {rest : List Oper} {K : Env → Hp → Prop} {t e : TypeId} {len k bytes : Nat} {z : List Value} {ps : List (Nat × Operand)} {ys : List IV} (ho : o.op = .buildSlice t len ps.toArray) (hgu : o.guard = none) (hd : o.dst.all (· < N) = true) (E : Elem P t e k bytes z) (hlen : len * k ≤ 16777216)
    (hgd : ∀ p ∈ ps, gd (rdo env p.2)) (hok : ∀ p ∈ ps, okC h (st (rdo env p.2))) (hf : fillA h (fun i => some (i * k, k)) (zerosA z len) (ps.map fun p => (p.1, st (rdo env p.2))) = some (ys.map .im)) (hone : ∀ x ∈ ys.map AV.im, oneA h x) (hcl : ys.length = len * k)
    (hr : OpsW P N ops rest (setd env o.dst (.im (.sl ys len))) h K) : OpsW P N ops (o :: rest) env h K := by
  have hq := Quiet.buildI (ops := ops) (env := env) (h := h) ho E hlen (ys := ys) (by unfold gpo; rw [hgu]; exact ⟨hgd, hok, hf, hone, hcl⟩)
  have e1 : gav ops env o (.im (.sl ys len)) = .im (.sl ys len) := by unfold gav; rw [hgu]
  rw [e1] at hq
  exact OpsW.quiet hd hq hr
theorem AW.cut {c z : Code} {Q' : Exit → Env → Hp → Prop} {α : Type} (E : α → Env) (G : α → Hp) (J : α → Prop) (hw : AW P N c env h (Ex.then (fun e h => ∃ y, J y ∧ Env.le e (E y) ∧ Hp.eqv h (G y)) Q)) (hn : ∀ y, J y → AW P N z (E y) (G y) Q') :
    AW P N c env h (Ex.then (fun e h => AW P N z e h Q') Q) :=
  AW.mono hw fun x e h hq => by
    cases x with
    | normal =>
      obtain ⟨y, h1, h2, h3⟩ := hq
      exact AW.heap _ h3 (AW.weaken _ h2 (hn y h1))
    | _ => exact hq
end
end Go.Abs
/-
  Own work. The abstract layer, part 12: plain arguments, as the form of claims reads them, are immutable data; from a contract to a call.
-/
namespace Go.Abs
open Go.RowKit Go.Deep
inductive Shp (P : Program) : TypeId → List IV → Prop
  | int {t : TypeId} {k : IntKind} {n : Int} (ht : P.underlying t = some (.int k)) (hn : (Lit.int k n).wf = true) : Shp P t [.val (.int k n)]
  | bool {t : TypeId} {b : Bool} (ht : P.underlying t = some .bool) : Shp P t [.val (.bool b)]
  | str {t : TypeId} {s : ByteArray} (ht : P.underlying t = some .string) (hs : s.size ≤ maxLen) : Shp P t [.val (.string s)]
  | sl {t e : TypeId} (xss : List (List IV)) (ht : P.underlying t = some (.slice e)) (hx : ∀ xs ∈ xss, Shp P e xs) (hn : xss.length ≤ maxLen) : Shp P t [.sl xss.flatten xss.length]
  | arr {t e : TypeId} {n : Nat} (xss : List (List IV)) (ht : P.underlying t = some (.array n e)) (hx : ∀ xs ∈ xss, Shp P e xs) (hn : xss.length = n) : Shp P t xss.flatten
  | st {t : TypeId} {fs : Array Field} (xss : List (List IV)) (ht : P.underlying t = some (.struct fs)) (hn : xss.length = fs.size) (hx : ∀ (i : Nat) (f : Field) (xs : List IV), fs[i]? = some f → xss[i]? = some xs → Shp P f.type xs) : Shp P t xss.flatten
def seqFields (P : Program) : Nat → List Field → Bool
  | _, [] => true
  | o, f :: fs => f.offset == o && seqFields P (o + P.cellsOf f.type) fs
def plainT (P : Program) : Nat → TypeId → Bool
  | 0, _ => false
  | n + 1, t => match P.underlying t with
    | some (.int _) => P.cellsOf t == 1
    | some .bool => P.cellsOf t == 1
    | some .string => P.cellsOf t == 1
    | some (.slice e) => P.cellsOf t == 1 && decide (0 < P.cellsOf e) && plainT P n e
    | some (.array k e) => P.cellsOf t == k * P.cellsOf e && plainT P n e
    | some (.struct fs) => P.cellsOf t == (fs.toList.map fun f => P.cellsOf f.type).sum && seqFields P 0 fs.toList && fs.toList.all fun f => plainT P n f.type
    | _ => false
theorem VRIL.append {w : World} {A : Nat → Prop} : ∀ {cs ds : List IV} {l m : List Value}, VRIL w A cs l → VRIL w A ds m → VRIL w A (cs ++ ds) (l ++ m)
  | [], ds, l, m, hv, hm => by simp only [VRIL] at hv; subst hv; simpa using hm
  | c :: cs, ds, l, m, hv, hm => by
    simp only [VRIL] at hv
    obtain ⟨v, l', rfl, hv, hr⟩ := hv
    simp only [List.cons_append, VRIL]
    exact ⟨v, l' ++ m, rfl, hv, VRIL.append hr hm⟩
theorem VRIL.flat {w : World} {A : Nat → Prop} {α : Type} (f : α → List IV) (g : α → List Value) : ∀ (l : List α), (∀ a ∈ l, VRIL w A (f a) (g a)) → VRIL w A (l.flatMap f) (l.flatMap g)
  | [], _ => by simp [VRIL]
  | a :: l, h => by
    simp only [List.flatMap_cons]
    exact VRIL.append (h a (by simp)) (VRIL.flat f g l fun b hb => h b (by simp [hb]))
theorem fm_get {α β : Type} (f : α → List β) (k : Nat) : ∀ (l : List α), (∀ a ∈ l, (f a).length = k) → ∀ (i j : Nat), j < k → (l.flatMap f)[i * k + j]? = (l[i]?).bind fun a => (f a)[j]?
  | [], _, i, j, _ => by simp
  | a :: l, hf, i, j, hj => by
    cases i with
    | zero =>
      simp only [List.flatMap_cons, Nat.zero_mul, Nat.zero_add, List.getElem?_cons_zero, Option.bind_some]
      rw [List.getElem?_append_left (by rw [hf a (by simp)]; exact hj)]
    | succ i =>
      simp only [List.flatMap_cons, List.getElem?_cons_succ]
      rw [List.getElem?_append_right (by rw [hf a (by simp), Nat.add_mul]; omega)]
      rw [← fm_get f k l (fun b hb => hf b (by simp [hb])) i j hj]
      congr 1
      rw [hf a (by simp), Nat.add_mul]
      omega
theorem fm_len {α β : Type} (f : α → List β) (k : Nat) (l : List α) (hf : ∀ a ∈ l, (f a).length = k) : (l.flatMap f).length = l.length * k := by
  induction l with
  | nil => simp
  | cons a l ih => simp [List.flatMap_cons, ih fun b hb => hf b (by simp [hb]), hf a (by simp), Nat.add_mul, Nat.add_comm]
theorem chunks {α : Type} (c : Nat) : ∀ (k : Nat) (cs : List α), cs.length = k * c → (List.range k).flatMap (fun i => (cs.drop (i * c)).take c) = cs
  | 0, cs, h => by simp at h; simp [h]
  | k + 1, cs, h => by
    rw [List.range_succ, List.flatMap_append]
    have h1 : (List.range k).flatMap (fun i => (cs.drop (i * c)).take c) = (List.range k).flatMap (fun i => ((cs.take (k * c)).drop (i * c)).take c) := by
      have e : ∀ i ∈ List.range k, (cs.drop (i * c)).take c = ((cs.take (k * c)).drop (i * c)).take c := by
        intro i hi
        have hi : i < k := List.mem_range.1 hi
        rw [List.drop_take, List.take_take]
        congr 1
        have : (i + 1) * c ≤ k * c := Nat.mul_le_mul_right c hi
        rw [Nat.add_mul] at this
        omega
      unfold List.flatMap
      rw [List.map_congr_left e]
    rw [h1, chunks c k (cs.take (k * c)) (by rw [List.length_take, h, Nat.add_mul]; omega)]
    simp only [List.flatMap_cons, List.flatMap_nil, List.append_nil]
    have h2 : (cs.drop (k * c)).take c = cs.drop (k * c) := List.take_of_length_le (by rw [List.length_drop, h, Nat.add_mul]; omega)
    rw [h2]
    exact List.take_append_drop _ _
theorem seq_chunks {α : Type} (P : Program) : ∀ (fs : List Field) (o : Nat) (cs : List α), seqFields P o fs = true → cs.length = o + (fs.map fun f => P.cellsOf f.type).sum →
    fs.flatMap (fun f => (cs.drop f.offset).take (P.cellsOf f.type)) = cs.drop o
  | [], o, cs, _, hl => by simp at hl; simp [hl]
  | f :: fs, o, cs, hs, hl => by
    simp only [seqFields, Bool.and_eq_true, beq_iff_eq] at hs
    simp only [List.map_cons, List.sum_cons] at hl
    simp only [List.flatMap_cons]
    rw [seq_chunks P fs (o + P.cellsOf f.type) cs hs.2 (by omega), hs.1, ← List.drop_drop]
    exact List.take_append_drop _ _
theorem flatMap_range {α β : Type} (l : List α) (f : α → List β) : l.flatMap f = (List.range l.length).flatMap fun i => ((l[i]?).map f).getD [] := by
  induction l with
  | nil => simp
  | cons a l ih =>
    rw [List.length_cons, List.range_succ_eq_map]
    simp only [List.flatMap_cons, List.getElem?_cons_zero, Option.map_some, Option.getD_some, List.flatMap_map, List.getElem?_cons_succ]
    rw [ih]
section
variable {H : Type} {enc : TypeId × Value → H} {P : Program} {w : World} {base : Nat} {spare : Nat → Bool} {held : Bool}
theorem read_plain : ∀ (n : Nat) (t : TypeId) (fuel : Nat) (cs : List Value) (x : DataW H × List MemPlace), plainT P n t = true → DataW.trod enc P w base spare held fuel t cs = some x →
    ∃ xs : List IV, Shp P t xs ∧ VRIL w (fun _ => False) xs cs ∧ (∀ v ∈ cs, v.oneCell' = true) ∧ cs.length = P.cellsOf t := by
  intro n
  induction n with
  | zero => intro t fuel cs x hp; simp [plainT] at hp
  | succ n ih =>
    intro t fuel cs x hp hx
    unfold plainT at hp
    split at hp
    · rename_i k hu
      obtain ⟨m, rfl, _, hwf⟩ := DataW.trod_int hu hx
      exact ⟨[.val (.int k m)], .int hu hwf, by simp [VRIL, VRI], by simp [Value.oneCell'], by simpa using (beq_iff_eq.1 hp).symm⟩
    · rename_i hu
      obtain ⟨b, rfl, _⟩ := DataW.trod_bool hu hx
      exact ⟨[.val (.bool b)], .bool hu, by simp [VRIL, VRI], by simp [Value.oneCell'], by simpa using (beq_iff_eq.1 hp).symm⟩
    · rename_i hu
      obtain ⟨s, rfl, _, hs⟩ := DataW.trod_string hu hx
      exact ⟨[.val (.string s)], .str hu hs, by simp [VRIL, VRI], by simp [Value.oneCell'], by simpa using (beq_iff_eq.1 hp).symm⟩
    · rename_i e hu
      simp only [Bool.and_eq_true, beq_iff_eq, decide_eq_true_eq] at hp
      obtain ⟨⟨hp1, hp2⟩, hp3⟩ := hp
      rcases open_slice hu hx with ⟨rfl, _⟩ | ⟨a, len, cap, m, n', D, Pl, rfl, _, hl, hm, hmm, _, hi⟩
      · refine ⟨[.sl [] 0], .sl [] hu (by simp) (by simp), ?_, by simp [Value.oneCell'], by simp [hp1]⟩
        simp only [VRIL, VRI]
        exact ⟨_, _, rfl, ⟨none, 0, [], rfl, Nat.le_refl _, by simp, fun a ha => by simp at ha, rfl⟩, rfl⟩
      · have hlm : len ≤ m := by rw [hmm]; split <;> omega
        have key : ∀ i, i < len → ∃ (q : List Value × List IV), w.cells? base (a.add (i * P.cellsOf e)) (P.cellsOf e) = some q.1 ∧ Shp P e q.2 ∧ VRIL w (fun _ => False) q.2 q.1 ∧ (∀ v ∈ q.1, v.oneCell' = true) ∧ q.1.length = P.cellsOf e := by
          intro i hil
          obtain ⟨cs', h1, h2⟩ := hi i (by omega)
          obtain ⟨xs, h3, h4, h5, h6⟩ := ih e n' cs' _ hp3 h2
          exact ⟨(cs', xs), h1, h3, h4, h5, h6⟩
        obtain ⟨q, hq⟩ := choose_lt (α := List Value × List IV) key
        refine ⟨[.sl (((List.range len).map fun i => (q i).2).flatten) (((List.range len).map fun i => (q i).2).length)], .sl _ hu ?_ (by simp; omega), ?_, by simp [Value.oneCell'], by simp [hp1]⟩
        · intro xs hxs
          obtain ⟨i, hi, rfl⟩ := List.mem_map.1 hxs
          exact (hq i (List.mem_range.1 hi)).2.1
        · simp only [VRIL, VRI]
          refine ⟨_, _, rfl, ⟨some a, cap, (List.range len).flatMap (fun i => (q i).1), by simp, by simpa using hl, by simp, ?_, ?_⟩, rfl⟩
          · intro a' ha'
            simp at ha'
            subst ha'
            intro j u hu'
            have hlen : ((List.range len).flatMap fun i => (q i).1).length = len * P.cellsOf e := by
              rw [fm_len (fun i => (q i).1) (P.cellsOf e) (List.range len) (fun i hi => (hq i (List.mem_range.1 hi)).2.2.2.2)]; simp
            have hj : j < len * P.cellsOf e := by rw [← hlen]; exact (List.getElem?_eq_some_iff.1 hu').1
            have hdm := Nat.div_add_mod j (P.cellsOf e)
            have hml := Nat.mod_lt j hp2
            have hdl : j / P.cellsOf e < len := Nat.div_lt_of_lt_mul (by rw [Nat.mul_comm]; exact hj)
            have hj2 : j = j / P.cellsOf e * P.cellsOf e + j % P.cellsOf e := by rw [Nat.mul_comm]; exact hdm.symm
            rw [hj2, fm_get (fun i => (q i).1) (P.cellsOf e) (List.range len) (fun i hi => (hq i (List.mem_range.1 hi)).2.2.2.2) _ _ hml] at hu'
            rw [List.getElem?_range hdl] at hu'
            simp only [Option.bind_some] at hu'
            obtain ⟨h1, _, _, h5, h6⟩ := hq _ hdl
            obtain ⟨_, _, hcell⟩ := World.cells?_some h1
            have := hcell (j % P.cellsOf e) hml
            rw [add_add, ← hj2] at this
            exact ⟨this.trans hu', by simp, h5 u (List.mem_of_getElem? hu')⟩
          · rw [← List.flatMap_def]
            exact VRIL.flat _ _ _ fun i hi => (hq i (List.mem_range.1 hi)).2.2.1
    · rename_i k e hu
      simp only [Bool.and_eq_true, beq_iff_eq] at hp
      obtain ⟨xs, m, _, _, hlen, _, hi⟩ := DataW.trod_array hu hx
      rw [hp.1] at hlen
      have key : ∀ i, i < k → ∃ ys : List IV, Shp P e ys ∧ VRIL w (fun _ => False) ys ((cs.drop (i * P.cellsOf e)).take (P.cellsOf e)) ∧ ∀ v ∈ (cs.drop (i * P.cellsOf e)).take (P.cellsOf e), v.oneCell' = true := by
        intro i hik
        have h1 := hi i hik
        rename_i hxl
        cases hxi : xs[i]? with
        | none =>
          exfalso
          rw [hxi] at h1
          have : i < xs.length := by omega
          simp [List.getElem?_eq_getElem this] at hxi
        | some y =>
          rw [hxi] at h1
          obtain ⟨ys, h3, h4, h5, _⟩ := ih e m _ _ hp.2 h1
          exact ⟨ys, h3, h4, h5⟩
      obtain ⟨q, hq⟩ := choose_lt (α := List IV) key
      have hch := chunks (P.cellsOf e) k cs hlen
      refine ⟨((List.range k).map q).flatten, .arr _ hu ?_ (by simp), ?_, ?_, by rw [hlen, hp.1]⟩
      · intro ys hys
        obtain ⟨i, hi, rfl⟩ := List.mem_map.1 hys
        exact (hq i (List.mem_range.1 hi)).1
      · rw [← List.flatMap_def]
        have := VRIL.flat q (fun i => (cs.drop (i * P.cellsOf e)).take (P.cellsOf e)) (List.range k) (w := w) (A := fun _ => False) fun i hi => (hq i (List.mem_range.1 hi)).2.1
        rwa [hch] at this
      · intro v hv
        rw [← hch] at hv
        obtain ⟨i, hi, hv⟩ := List.mem_flatMap.1 hv
        exact (hq i (List.mem_range.1 hi)).2.2 v hv
    · rename_i fs hu
      simp only [Bool.and_eq_true, beq_iff_eq] at hp
      obtain ⟨⟨hp1, hp2⟩, hp3⟩ := hp
      obtain ⟨xs, m, _, _, hlen, hxl, hi⟩ := DataW.trod_struct hu hx
      rw [hp1] at hlen
      have key : ∀ i, i < fs.size → ∃ ys : List IV, ∀ f, fs[i]? = some f → Shp P f.type ys ∧ VRIL w (fun _ => False) ys ((cs.drop f.offset).take (P.cellsOf f.type)) ∧ ∀ v ∈ (cs.drop f.offset).take (P.cellsOf f.type), v.oneCell' = true := by
        intro i hik
        have hf : fs[i]? = some fs[i] := Array.getElem?_eq_getElem hik
        have h1 := hi i _ hf
        have hxi : xs[i]? = some (xs[i]'(by omega)) := List.getElem?_eq_getElem (by omega)
        rw [hxi] at h1
        obtain ⟨ys, h3, h4, h5, _⟩ := ih fs[i].type m _ _ (List.all_eq_true.1 hp3 _ (by simp)) h1
        exact ⟨ys, fun f hf' => by rw [hf] at hf'; cases hf'; exact ⟨h3, h4, h5⟩⟩
      obtain ⟨q, hq⟩ := choose_lt (α := List IV) key
      have hch := seq_chunks P fs.toList 0 cs hp2 (by rw [hlen]; simp)
      simp only [List.drop_zero] at hch
      refine ⟨((List.range fs.size).map q).flatten, .st _ hu (by simp) ?_, ?_, ?_, by rw [hlen, hp1]⟩
      · intro i f ys hf hys
        have hik : i < fs.size := (Array.getElem?_eq_some_iff.1 hf).1
        rw [List.getElem?_map, List.getElem?_range hik] at hys
        simp at hys
        subst hys
        exact (hq i hik f hf).1
      · rw [← List.flatMap_def]
        rw [flatMap_range] at hch
        have := VRIL.flat q (fun i => ((fs.toList[i]?).map (fun f => (cs.drop f.offset).take (P.cellsOf f.type))).getD []) (List.range fs.size) (w := w) (A := fun _ => False) (fun i hi => by
          have hik := List.mem_range.1 hi
          have hf : fs[i]? = some fs[i] := Array.getElem?_eq_getElem hik
          have hf' : fs.toList[i]? = some fs[i] := by simp
          rw [hf']
          exact (hq i hik _ hf).2.1)
        have hch' : (List.range fs.size).flatMap (fun i => ((fs.toList[i]?).map (fun f => (cs.drop f.offset).take (P.cellsOf f.type))).getD []) = cs := by
          have hss : fs.toList.length = fs.size := by simp
          rw [← hss]; exact hch
        rwa [hch'] at this
      · intro v hv
        rw [← hch] at hv
        obtain ⟨f, hf, hv⟩ := List.mem_flatMap.1 hv
        obtain ⟨i, hif⟩ := List.getElem?_of_mem hf
        have hif' : fs[i]? = some f := by simpa using hif
        have hik : i < fs.size := (Array.getElem?_eq_some_iff.1 hif').1
        exact (hq i hik f hif').2.2 v hv
    · cases hp
end
def argA (P : Program) (t : TypeId) (xs : List IV) : AV := match lz P t with
  | some (some _) => .agg (xs.map .im)
  | _ => (match xs with | [x] => .im x | _ => .any)
theorem Hol.empty (w : World) (hg : GlobOK w (fun _ => False)) (ι : Nat → Bk) : Hol ⟨w, fun _ => False, Own (fun _ => False) [] ι, pinOf [] ι⟩ [] ι w where
  pin r b k hp := by simp [pinOf, Hp.at] at hp
  roots r rt hr := by simp [Hp.at] at hr
  inj r r' rt rt' g hr := by simp [Hp.at] at hr
  place r rt g hr := by simp [Hp.at] at hr
  os := rfl
  tape := rfl
  output := rfl
  size := Nat.le_refl _
  frame _ _ _ := rfl
  old β hb := hb.elim
  glob := hg.keep fun β _ hn => ⟨rfl, fun ho => by
    rcases ho with ho | ho | ⟨r, rt, hr, _⟩
    · exact ho
    · exact ho
    · simp [Hp.at] at hr⟩
theorem QSpec.calls {P : Program} {f : FuncId} {args : List AV} {u : Value} {w : World} {vs : List Value} (hs : QSpec P f args (.im (.val u))) (hg : GlobOK w (fun _ => False)) (hv : VRL w [] (fun _ => ⟨none, 0⟩) (fun _ => False) args vs) :
    Calls P f vs.toArray w fun e w' => e = .returned u ∧ Below w.heap.size w w' := by
  have hO : Own (fun _ => False) [] (fun _ => (⟨none, 0⟩ : Bk)) = fun _ => False := by funext β; simp [Own, Hp.at]
  refine (hs w (fun _ => ⟨none, 0⟩) (fun _ => False) vs (Hol.empty w hg _) (by rw [hO]; exact hv)).mono ?_
  rintro e w' ⟨v, r, h', ι', rfl, rfl, H', hvr⟩
  rw [VR.val_iff] at hvr
  subst hvr
  exact ⟨rfl, H'.after⟩
end Go.Abs
/-
  Own work. The abstract layer, part 13: the arguments of a law, all at once; what a shape says of plain types.
-/
namespace Go.Abs
open Go.RowKit Go.Deep Go.ChangeShapes Go.WideShapes
section
variable {H : Type} {enc : TypeId × Value → H} {P : Program}
theorem trodAll_below (hl : laidOutB P = true) {W W' : World} (hb : Below W.heap.size W W') : ∀ (ts : List TypeId) (vs : List Value) (ds : List (DataW H)) (ps : List MemPlace), (ts.all fun t => P.readableRec t && decide (t < P.types.size)) = true →
    DataW.TrodAll enc P W 0 (fun _ => true) true ts vs ds ps → DataW.TrodAll enc P W' 0 (fun b => decide (b < W.heap.size)) true ts vs ds ps
  | [], vs, ds, ps, _, h => by
    obtain ⟨rfl, rfl, rfl⟩ := trodAll_nil h
    exact trodAll_mk0
  | t :: ts, vs, ds, ps, ht, h => by
    obtain ⟨v, vs', d, ds', p, q, rfl, rfl, rfl, h1, h2⟩ := trodAll_cons h
    simp only [List.all_cons, Bool.and_eq_true, decide_eq_true_eq] at ht
    have k1 := h1
    have lt0 : ∀ x ∈ p, x.block < W.heap.size := by obtain ⟨m, hm⟩ := k1; exact DataW.trod_lt m _ _ _ hm
    exact trodAll_cons_mk (Below.trod hl ht.1.1 ht.1.2 h1 hb lt0) (trodAll_below hl hb ts vs' ds' q (by simpa only [List.all_eq_true, Bool.and_eq_true, decide_eq_true_eq] using ht.2) h2)
def ShpL (P : Program) : List TypeId → List (List IV) → Prop
  | [], [] => True
  | t :: ts, x :: xs => Shp P t x ∧ ShpL P ts xs
  | _, _ => False
def argsA (P : Program) : List TypeId → List (List IV) → List AV
  | t :: ts, x :: xs => argA P t x :: argsA P ts xs
  | _, _ => []
theorem Shp.one {t : TypeId} {xs : List IV} (hs : Shp P t xs) (hz : lz P t = some none) : ∃ x, xs = [x] := by
  cases hs with
  | int => exact ⟨_, rfl⟩
  | bool => exact ⟨_, rfl⟩
  | str => exact ⟨_, rfl⟩
  | sl => exact ⟨_, rfl⟩
  | arr xss ht => simp [lz, ht] at hz
  | st xss ht => simp [lz, ht] at hz
theorem args_read {W : World} : ∀ (ts : List TypeId) (vs : List Value) (ds : List (DataW H)) (ps : List MemPlace), (ts.all fun t => plainT P 12 t && (lz P t).isSome) = true →
    (∀ (j : Nat) (t : TypeId) (v : Value), ts[j]? = some t → vs[j]? = some v → Value.okWide P W .any 0 t v) →
    DataW.TrodAll enc P W 0 (fun _ => true) true ts vs ds ps → ∃ xss, ShpL P ts xss ∧ VRL W [] (fun _ => ⟨none, 0⟩) (fun _ => False) (argsA P ts xss) vs
  | [], vs, ds, ps, _, _, h => by
    obtain ⟨rfl, rfl, rfl⟩ := trodAll_nil h
    exact ⟨[], by simp [ShpL], by simp [argsA, VRL]⟩
  | t :: ts, vs, ds, ps, ht, hok, h => by
    obtain ⟨v, vs', d, ds', p, q, rfl, rfl, rfl, h1, h2⟩ := trodAll_cons h
    simp only [List.all_cons, Bool.and_eq_true] at ht
    obtain ⟨xss, h3, h4⟩ := args_read ts vs' ds' q (by simpa only [List.all_eq_true, Bool.and_eq_true] using ht.2) (fun j t' v' hj hv => hok (j + 1) t' v' (by simpa using hj) (by simpa using hv)) h2
    obtain ⟨fuel, hf⟩ := h1
    obtain ⟨xs, h5, h6, h7, h8⟩ := read_plain 12 t fuel v.cells.toList _ ht.1.1 hf
    refine ⟨xs :: xss, ⟨h5, h3⟩, ?_⟩
    simp only [argsA, VRL]
    refine ⟨v, vs', rfl, ?_, h4⟩
    have hv := hok 0 t v (by simp) (by simp)
    unfold argA
    cases hz : lz P t with
    | none => rw [hz] at ht; simp at ht
    | some o =>
      cases o with
      | none =>
        obtain ⟨x, rfl⟩ := h5.one hz
        simp only [VRIL] at h6
        obtain ⟨u, l', hl, hu, rfl⟩ := h6
        have hvu : v = u := by
          cases v <;> simp_all [Value.cells, Value.oneCell']
          rename_i cs
          have : u ∈ cs.toList := by rw [hl]; simp
          unfold Value.okWide at hv
          unfold lz at hz
          cases hd : P.underlying t with
          | none => simp [hd] at hz
          | some dd =>
            rw [hd] at hv hz
            cases dd <;> simp_all [Cell.okWide, Cell.ok]
        subst hvu
        simp only [VR]
        exact hu
      | some n =>
        have : ∃ cs, v = .agg cs := by
          unfold lz at hz
          unfold Value.okWide at hv
          cases hd : P.underlying t with
          | none => simp [hd] at hz
          | some dd =>
            rw [hd] at hv hz
            cases dd <;> simp_all <;> (obtain ⟨cs, rfl, _⟩ := hv; exact ⟨cs, rfl⟩)
        obtain ⟨cs, rfl⟩ := this
        simp only [VR]
        exact ⟨cs.toList, by simp, VRL.ofI (by simpa [Value.cells] using h6)⟩
/- What a shape says. -/
theorem Shp.int_inv {t : TypeId} {k : IntKind} {xs : List IV} (hs : Shp P t xs) (ht : P.underlying t = some (.int k)) : ∃ n, xs = [.val (.int k n)] ∧ (Lit.int k n).wf = true := by
  cases hs with
  | int h1 h2 => rw [ht] at h1; cases h1; exact ⟨_, rfl, h2⟩
  | bool h1 => rw [ht] at h1; cases h1
  | str h1 => rw [ht] at h1; cases h1
  | sl _ h1 => rw [ht] at h1; cases h1
  | arr _ h1 => rw [ht] at h1; cases h1
  | st _ h1 => rw [ht] at h1; cases h1
theorem Shp.bool_inv {t : TypeId} {xs : List IV} (hs : Shp P t xs) (ht : P.underlying t = some .bool) : ∃ b, xs = [.val (.bool b)] := by
  cases hs with
  | int h1 h2 => rw [ht] at h1; cases h1
  | bool h1 => exact ⟨_, rfl⟩
  | str h1 => rw [ht] at h1; cases h1
  | sl _ h1 => rw [ht] at h1; cases h1
  | arr _ h1 => rw [ht] at h1; cases h1
  | st _ h1 => rw [ht] at h1; cases h1
theorem Shp.str_inv {t : TypeId} {xs : List IV} (hs : Shp P t xs) (ht : P.underlying t = some .string) : ∃ s : ByteArray, xs = [.val (.string s)] ∧ s.size ≤ maxLen := by
  cases hs with
  | int h1 h2 => rw [ht] at h1; cases h1
  | bool h1 => rw [ht] at h1; cases h1
  | str h1 h2 => exact ⟨_, rfl, h2⟩
  | sl _ h1 => rw [ht] at h1; cases h1
  | arr _ h1 => rw [ht] at h1; cases h1
  | st _ h1 => rw [ht] at h1; cases h1
theorem Shp.sl_inv {t e : TypeId} {xs : List IV} (hs : Shp P t xs) (ht : P.underlying t = some (.slice e)) : ∃ xss : List (List IV), xs = [.sl xss.flatten xss.length] ∧ (∀ ys ∈ xss, Shp P e ys) ∧ xss.length ≤ maxLen := by
  cases hs with
  | int h1 h2 => rw [ht] at h1; cases h1
  | bool h1 => rw [ht] at h1; cases h1
  | str h1 h2 => rw [ht] at h1; cases h1
  | sl xss h1 h2 h3 => rw [ht] at h1; cases h1; exact ⟨xss, rfl, h2, h3⟩
  | arr _ h1 => rw [ht] at h1; cases h1
  | st _ h1 => rw [ht] at h1; cases h1
theorem Shp.arr_inv {t e : TypeId} {n : Nat} {xs : List IV} (hs : Shp P t xs) (ht : P.underlying t = some (.array n e)) : ∃ xss : List (List IV), xs = xss.flatten ∧ (∀ ys ∈ xss, Shp P e ys) ∧ xss.length = n := by
  cases hs with
  | int h1 h2 => rw [ht] at h1; cases h1
  | bool h1 => rw [ht] at h1; cases h1
  | str h1 h2 => rw [ht] at h1; cases h1
  | sl _ h1 => rw [ht] at h1; cases h1
  | arr xss h1 h2 h3 => rw [ht] at h1; cases h1; exact ⟨xss, rfl, h2, h3⟩
  | st _ h1 => rw [ht] at h1; cases h1
theorem Shp.st_inv {t : TypeId} {fs : Array Field} {xs : List IV} (hs : Shp P t xs) (ht : P.underlying t = some (.struct fs)) :
    ∃ xss : List (List IV), xs = xss.flatten ∧ xss.length = fs.size ∧ ∀ (i : Nat) (f : Field) (ys : List IV), fs[i]? = some f → xss[i]? = some ys → Shp P f.type ys := by
  cases hs with
  | int h1 h2 => rw [ht] at h1; cases h1
  | bool h1 => rw [ht] at h1; cases h1
  | str h1 h2 => rw [ht] at h1; cases h1
  | sl _ h1 => rw [ht] at h1; cases h1
  | arr _ h1 => rw [ht] at h1; cases h1
  | st xss h1 h2 h3 => rw [ht] at h1; cases h1; exact ⟨xss, rfl, h2, h3⟩
end
end Go.Abs
