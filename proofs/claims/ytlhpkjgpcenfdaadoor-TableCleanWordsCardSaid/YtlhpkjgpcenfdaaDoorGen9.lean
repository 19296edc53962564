/-
  Own work. The generated walks, part 9: arrays that are written; a loop over the characters of a string.
-/
import Derived.Test.YtlhpkjgpcenfdaaDoorGen8
set_option linter.unusedSimpArgs false
set_option linter.unusedVariables false
set_option linter.unusedSimpArgs false
set_option linter.unusedVariables false
namespace Go.Abs
open Go.RowKit
section
variable {P : Program} {N : Nat} {ops : Array Oper} {env : Env} {h : Hp}

/-- A store into an element of a typed array. -/
theorem OpsW.storeA {o : Oper} {rest : List Oper} {K : Env → Hp → Prop} {t : TypeId} {x y : Operand} {α : Type} {enc : α → List IV} {l : List α} {e k kk : Nat} (d v : α) (cs : List IV) (i off : Nat) (ho : o.op = .store t x y) (hgu : o.guard = none) (hdn : o.dst = none) {r ver : Nat}
    (hx : st (rdo env x) = .ref r ver (i * k + off)) (hgx : gd (rdo env x)) (hgy : gd (rdo env y)) (hrt : h.at r = some ⟨ver, true, e, kk, (l.flatMap enc).map .im⟩) (hk : ∀ a, (enc a).length = k) (hy : cellsA (st (rdo env y)) = cs.map .im) (hsz : szt P t = some cs.length) (hok : okC h (st (rdo env y)))
    (hi : i < l.length) (ho2 : off + cs.length ≤ k) (hp : putA (enc (l.getD i d)) off cs = enc v)
    (hw : OpsW P N ops rest env ((r, ⟨ver, true, e, kk, ((l.set i v).flatMap enc).map .im⟩) :: h) K) : OpsW P N ops (o :: rest) env h K := by
  refine OpsW.store ho hgu hdn hx hgx hgy hrt rfl rfl (by rw [hy, hsz]; simp) hok ?_ ?_
  · rw [hy]
    simp only [List.length_map]
    rw [fm_length enc k hk]
    have : (i + 1) * k ≤ l.length * k := Nat.mul_le_mul_right _ hi
    rw [Nat.add_mul] at this
    omega
  · rw [hy]
    simp only []
    rw [put_set enc k hk l d v i off cs hi ho2 hp]
    exact hw
theorem putA_all {α : Type} (a b : List α) (h : a.length = b.length) : putA a 0 b = b := by
  unfold putA
  rw [List.take_zero, List.drop_eq_nil_of_le (by omega)]
  simp
/-- A whole array is stored. -/
theorem OpsW.storeW {o : Oper} {rest : List Oper} {K : Env → Hp → Prop} {t : TypeId} {x y : Operand} {α : Type} {enc : α → List IV} {l : List α} {k : Nat} {rt : Rt} (ho : o.op = .store t x y) (hgu : o.guard = none) (hdn : o.dst = none) {r ver n : Nat}
    (hx : st (rdo env x) = .ref r ver 0) (hgx : gd (rdo env x)) (hgy : gd (rdo env y)) (hrt : h.at r = some rt) (hver : rt.ver = ver) (hl : rt.live = true) (hk : ∀ a, (enc a).length = k) (hy : st (rdo env y) = .agg ((l.flatMap enc).map .im)) (hsz : szt P t = some (n * k)) (hn : l.length = n) (hcs : rt.cs.length = n * k) (hone : ∀ a, (enc a).all (fun c => oneAb h (.im c)) = true)
    (hw : OpsW P N ops rest env ((r, ⟨ver, true, rt.e, rt.k, (l.flatMap enc).map .im⟩) :: h) K) : OpsW P N ops (o :: rest) env h K := by
  have hlen : ((l.flatMap enc).map AV.im).length = n * k := by simp only [List.length_map]; rw [fm_length enc k hk, hn]
  refine OpsW.store ho hgu hdn hx hgx hgy hrt hver hl (by rw [hy, hsz]; simp only [cellsA]; rw [hlen]) ?_ ?_ ?_
  · rw [hy]
    intro c hc
    obtain ⟨c', hc', rfl⟩ := List.mem_map.1 hc
    obtain ⟨a, _, ha⟩ := List.mem_flatMap.1 hc'
    exact oneAb_sound (List.all_eq_true.1 (hone a) c' ha)
  · rw [hy]; simp only [cellsA]; omega
  · rw [hy, hver]
    simp only [cellsA]
    rw [putA_all _ _ (by omega)]
    exact hw

theorem purL_ims (ys : List IV) : purL (ys.map .im) = true := by
  induction ys with
  | nil => rfl
  | cons y ys ih => simp [purL, pur, ih]
theorem pur_agg (ys : List IV) : pur (.agg (ys.map .im)) = true := by simp [pur, purL_ims]
theorem ltA {j : Int} {n : Nat} {α : Type} {l : List α} (h : 0 ≤ j ∧ j < (n : Int)) (hl : l.length = n) : j.toNat < l.length := by omega
theorem tabOff {α : Type} {l : List α} {i : Nat} {x : Option α} (h : l[i]? = x) : l[0 + i]? = x := by rw [Nat.zero_add]; exact h
/-- A new array, typed. -/
theorem OpsW.allocT {o : Oper} {rest : List Oper} {K : Env → Hp → Prop} {e : TypeId} {z : List Value} {α : Type} {enc : α → List IV} (d : α) (n kk : Nat) (ho : o.op = .alloc e) (hgu : o.guard = none) (hd : o.dst.all (· < N) = true) (r : Nat) (hr : h.at r = none)
    (hz : zc P e = some z) (hz1 : z.all (·.oneCell') = true) (hk : z.length = kk) (hzz : z.map (fun v => AV.im (.val v)) = ((List.replicate n d).flatMap enc).map .im)
    (hw : OpsW P N ops rest (setd env o.dst (.ref r 0 0)) ((r, ⟨0, true, e, kk, ((List.replicate n d).flatMap enc).map .im⟩) :: h) K) : OpsW P N ops (o :: rest) env h K := by
  refine OpsW.alloc ho hgu hd r hr z hz hz1 ?_
  rw [hzz, hk]
  exact hw
/-- A whole array is read. -/
theorem T.loadW {ρ : Operand → AV} {x : Operand} {t : TypeId} {r ver n : Nat} {rt : Rt} (hx : st (ρ x) = .ref r ver 0) (hg : gd (ρ x)) (hl : lz P t = some (some n)) (hrt : h.at r = some rt) (hv : rt.ver = ver) (hli : rt.live = true) (hn : rt.cs.length = n) :
    po P h ρ (.load t x) ∧ pv P h ρ (.load t x) = .agg rt.cs :=
  T.loadRAgg hx hg hl hrt hv hli (by omega) (by rw [List.drop_zero, List.take_of_length_le (by omega)])
theorem arr_len {α : Type} (enc : α → List IV) (k : Nat) (hk : ∀ a, (enc a).length = k) (l : List α) {n m : Nat} (hl : l.length = n) (hm : n * k = m) : ((l.flatMap enc).map AV.im).length = m := by
  rw [List.length_map, fm_length enc k hk, hl, hm]

/- A block that holds no cells may be thought of as owned by somebody. -/
theorem Lie.grow {w : World} {A : Nat → Prop} {g : Nat} (hg : ∀ a : Addr, a.block = g → w.cell? a = none) {a : Addr} {l : List Value} (hl : Lie w A a l) : Lie w (fun β => A β ∨ β = g) a l := by
  intro i u hu
  obtain ⟨h1, h2, h3⟩ := hl i u hu
  refine ⟨h1, ?_, h3⟩
  rintro (h4 | h4)
  · exact h2 h4
  · have := hg (a.add i) (by rw [add_block]; exact h4)
    rw [this] at h1
    cases h1
mutual
theorem VRI.grow {w : World} {A : Nat → Prop} {g : Nat} (hg : ∀ a : Addr, a.block = g → w.cell? a = none) : ∀ (x : IV) (v : Value), VRI w A x v → VRI w (fun β => A β ∨ β = g) x v
  | .val _, _, h => by simpa only [VRI] using h
  | .sl cs n, v, h => by
    simp only [VRI] at h ⊢
    obtain ⟨ao, cap, l, hv, hn, hnone, hlie, hl⟩ := h
    exact ⟨ao, cap, l, hv, hn, hnone, fun a ha => (hlie a ha).grow hg, VRIL.grow hg cs l hl⟩
theorem VRIL.grow {w : World} {A : Nat → Prop} {g : Nat} (hg : ∀ a : Addr, a.block = g → w.cell? a = none) : ∀ (cs : List IV) (l : List Value), VRIL w A cs l → VRIL w (fun β => A β ∨ β = g) cs l
  | [], _, h => by simpa only [VRIL] using h
  | c :: cs, l, h => by
    simp only [VRIL] at h ⊢
    obtain ⟨v, l', hl, hv, hr⟩ := h
    exact ⟨v, l', hl, VRI.grow hg c v hv, VRIL.grow hg cs l' hr⟩
end
mutual
theorem VR.grow {w : World} {h : Hp} {ι : Nat → Bk} {A : Nat → Prop} {g : Nat} (hg : ∀ a : Addr, a.block = g → w.cell? a = none) : ∀ (x : AV) (v : Value), VR w h ι A x v → VR w h ι (fun β => A β ∨ β = g) x v
  | .any, _, _ => by simp only [VR]
  | .im x, v, hv => by simp only [VR] at hv ⊢; exact VRI.grow hg x v hv
  | .agg cs, v, hv => by
    simp only [VR] at hv ⊢
    obtain ⟨l, hl, hr⟩ := hv
    exact ⟨l, hl, VRL.grow hg cs l hr⟩
  | .tup cs, v, hv => by
    simp only [VR] at hv ⊢
    obtain ⟨l, hl, hr⟩ := hv
    exact ⟨l, hl, VRL.grow hg cs l hr⟩
  | .ipt cs off, v, hv => by
    simp only [VR] at hv ⊢
    obtain ⟨a, l, hl, hlie, hr⟩ := hv
    exact ⟨a, l, hl, hlie.grow hg, VRIL.grow hg cs l hr⟩
  | .ref r ver off, v, hv => by simpa only [VR] using hv
  | .rsl r ver off n, v, hv => by simpa only [VR] using hv
  | .cnd g' x, v, hv => by simp only [VR] at hv ⊢; exact ⟨fun hc => VR.grow hg x v (hv.1 hc), hv.2⟩
theorem VRL.grow {w : World} {h : Hp} {ι : Nat → Bk} {A : Nat → Prop} {g : Nat} (hg : ∀ a : Addr, a.block = g → w.cell? a = none) : ∀ (cs : List AV) (l : List Value), VRL w h ι A cs l → VRL w h ι (fun β => A β ∨ β = g) cs l
  | [], _, hv => by simpa only [VRL] using hv
  | c :: cs, l, hv => by
    simp only [VRL] at hv ⊢
    obtain ⟨v, l', hl, hv, hr⟩ := hv
    exact ⟨v, l', hl, VR.grow hg c v hv, VRL.grow hg cs l' hr⟩
end

theorem own_or (B : Nat → Prop) (h : Hp) (ι : Nat → Bk) (g : Nat) : Own (fun β => B β ∨ β = g) h ι = fun β => Own B h ι β ∨ β = g := by
  funext β
  unfold Own
  apply propext
  constructor
  · rintro ((h1 | h1) | h1)
    · exact .inl (.inl h1)
    · exact .inr h1
    · exact .inl (.inr h1)
  · rintro ((h1 | h1) | h1)
    · exact .inl (.inl h1)
    · exact .inr h1
    · exact .inl (.inr h1)

/-- A step from one context to one that knows more: `g` is a block of nobody's that holds no cells. -/
theorem Hol.shut {X : Ctx} {ι : Nat → Bk} {w : World} {g : Nat} (H : Hol X h ι w) (hlt : g < w.heap.size) (hno : ¬ Own X.B h ι g) (hg : ∀ a : Addr, a.block = g → w.cell? a = none) :
    Hol ⟨w, fun β => X.B β ∨ β = g, Own (fun _ => False) h ι, X.pin⟩ h ι w where
  pin := H.pin
  roots r rt hr hl := by
    rcases H.roots r rt hr hl with hn | ⟨g', arr, c1, c2, c3, c4, c5, c6⟩
    · exact .inl hn
    · exact .inr ⟨g', arr, c1, c2, c3, c4, by rw [own_or]; exact VRL.grow hg _ _ c5, c6⟩
  inj := H.inj
  place r rt g' hr hl hg' := by
    refine ⟨?_, .inr (.inr ⟨r, rt, hr, hl, hg'⟩)⟩
    rintro (h1 | h1)
    · exact (H.place r rt g' hr hl hg').1 h1
    · subst h1; exact hno (.inr ⟨r, rt, hr, hl, hg'⟩)
  os := rfl
  tape := rfl
  output := rfl
  size := Nat.le_refl _
  frame _ _ _ := rfl
  glob := by
    intro p cs hc
    obtain ⟨h2, arr, e, fr, h3, h4, h5, h6⟩ := H.globOK p cs hc
    refine ⟨?_, arr, e, fr, h3, h4, h5, h6⟩
    rintro ((hb | hb) | hb | ⟨r, rt, hr, hl, hb⟩)
    · exact h2 (.inl hb)
    · have h7 := hg ⟨p, 0, none⟩ hb
      simp only [World.cell?, h3] at h7
      apply h5
      simpa using h7
    · exact hb
    · exact h2 (.inr ⟨r, rt, hr, hl, hb⟩)
  old β hb := by
    rcases hb with hb | hb
    · refine ⟨Nat.lt_of_lt_of_le (H.old β hb).1 H.size, ?_⟩
      rintro (h1 | ⟨r, rt, hr, hl, hg'⟩)
      · exact h1
      · exact (H.place r rt β hr hl hg').1 hb
    · subst hb
      refine ⟨hlt, ?_⟩
      rintro (h1 | ⟨r, rt, hr, hl, hg'⟩)
      · exact h1
      · exact hno (.inr ⟨r, rt, hr, hl, hg'⟩)
/-- And back. -/
theorem Hol.unshut {X : Ctx} {ι ι' : Nat → Bk} {w w' : World} {h' : Hp} {g : Nat} (H : Hol X h ι w) (H' : Hol ⟨w, fun β => X.B β ∨ β = g, Own (fun _ => False) h ι, X.pin⟩ h' ι' w') : Hol X h' ι' w' ∧ (g < w.heap.size → ¬ Own (fun _ => False) h ι g → w'.heap[g]? = w.heap[g]?) ∧ (¬ X.B g → ¬ Own X.B h' ι' g) := by
  have hsub : ∀ β, Own X.B h' ι' β → Own (fun β => X.B β ∨ β = g) h' ι' β := by
    rintro β (h1 | h1)
    · exact .inl (.inl h1)
    · exact .inr h1
  refine ⟨⟨fun r rt hr hl => ?_, H'.inj, fun r rt g' hr hl hg' => ?_, H'.os.trans H.os, H'.tape.trans H.tape, H'.output.trans H.output, Nat.le_trans H.size H'.size, fun β hβ hS => ?_, H.old, H.glob, H'.pin⟩, fun hlt hno => H'.frame g hlt hno, fun hB ho => ?_⟩
  · rcases H'.roots r rt hr hl with hn | ⟨g', arr, c1, c2, c3, c4, c5, c6⟩
    · exact .inl hn
    · exact .inr ⟨g', arr, c1, c2, c3, c4, VRL.keep ⟨fun β _ hA => ⟨rfl, fun ho => hA (hsub β ho)⟩, fun r rt hr => ⟨rt, hr, Nat.le_refl _, fun _ => ⟨rfl, rfl⟩⟩⟩ _ _ c5, c6⟩
  · obtain ⟨h1, h2⟩ := H'.place r rt g' hr hl hg'
    refine ⟨fun hb => h1 (.inl hb), ?_⟩
    rcases h2 with h2 | (h2 | ⟨r2, rt2, hr2, hl2, hg2⟩)
    · exact .inl (Nat.le_trans H.size h2)
    · exact h2.elim
    · exact (H.place r2 rt2 g' hr2 hl2 hg2).2
  · rw [H'.frame β (Nat.lt_of_lt_of_le hβ H.size) ?_]
    · exact H.frame β hβ hS
    · rintro (h1 | ⟨r, rt, hr, hl, hg'⟩)
      · exact h1
      · rcases (H.place r rt β hr hl hg').2 with h3 | h3
        · omega
        · exact hS h3
  · rcases ho with ho | ⟨r, rt, hr, hl, hg'⟩
    · exact hB ho
    · exact (H'.place r rt g hr hl hg').1 (.inr rfl)

abbrev ptrV (g : Nat) : AV := .im (.val (.pointer (some ⟨g, 0, none⟩)))

theorem Slots.shrink {X : Ctx} {B' : Nat → Prop} {ι : Nat → Bk} {a : Act} {w : World} (hB : ∀ β, X.B β → B' β) (S : Slots N env h ι (Own B' h ι) a w) : Slots N env h ι (Own X.B h ι) a w :=
  ⟨S.size, S.defers, fun i => VR.keep ⟨fun β _ hA => ⟨rfl, fun ho => hA (by
    rcases ho with ho | ho
    · exact .inl (hB β ho)
    · exact .inr ho)⟩, fun r rt hr => ⟨rt, hr, Nat.le_refl _, fun _ => ⟨rfl, rfl⟩⟩⟩ _ _ (S.at_ i)⟩
theorem Slots.grow {X : Ctx} {ι : Nat → Bk} {a : Act} {w : World} {g : Nat} (hg : ∀ a : Addr, a.block = g → w.cell? a = none) (S : Slots N env h ι (Own X.B h ι) a w) : Slots N env h ι (Own (fun β => X.B β ∨ β = g) h ι) a w :=
  ⟨S.size, S.defers, fun i => by rw [own_or]; exact VR.grow hg _ _ (S.at_ i)⟩

/-- The block of an iterator is turned. -/
theorem keep_iter {X : Ctx} {ι : Nat → Bk} {w w' : World} {g : Nat} (hoth : ∀ β, β ≠ g → w'.heap[β]? = w.heap[β]?) : Keep w h ι (fun β => Own X.B h ι β ∨ β = g) w' h ι (Own X.B h ι) :=
  ⟨fun β _ hA => ⟨hoth β (fun e => hA (.inr e)), fun ho => hA (.inl ho)⟩, fun _ rt hr => ⟨rt, hr, Nat.le_refl _, fun _ => ⟨rfl, rfl⟩⟩⟩
theorem Hol.iter {X : Ctx} {ι : Nat → Bk} {w w' : World} {g : Nat} (H : Hol X h ι w) (hno : ¬ Own X.B h ι g) (hg : ∀ a : Addr, a.block = g → w.cell? a = none) (h0 : X.w0.heap.size ≤ g)
    (hos : w'.os = w.os) (ht : w'.tape = w.tape) (hou : w'.output = w.output) (hsz : w'.heap.size = w.heap.size) (hoth : ∀ β, β ≠ g → w'.heap[β]? = w.heap[β]?) : Hol X h ι w' where
  roots r rt hr hl := by
    rcases H.roots r rt hr hl with hn | ⟨g', arr, c1, c2, c3, c4, c5, c6⟩
    · exact .inl hn
    · have hne : g' ≠ g := fun e => hno (.inr ⟨r, rt, hr, hl, by rw [← e]; exact c1⟩)
      exact .inr ⟨g', arr, c1, by rw [hoth g' hne]; exact c2, c3, c4, VRL.keep (keep_iter hoth) _ _ (VRL.grow hg _ _ c5), c6⟩
  inj := H.inj
  place := H.place
  os := hos.trans H.os
  tape := ht.trans H.tape
  output := hou.trans H.output
  size := by rw [hsz]; exact H.size
  frame β hβ hS := by rw [hoth β (by omega)]; exact H.frame β hβ hS
  old := H.old
  glob := H.glob
  pin := H.pin
theorem Slots.iter {X : Ctx} {ι : Nat → Bk} {a : Act} {w w' : World} {g : Nat} (hg : ∀ a : Addr, a.block = g → w.cell? a = none) (hoth : ∀ β, β ≠ g → w'.heap[β]? = w.heap[β]?) (S : Slots N env h ι (Own X.B h ι) a w) : Slots N env h ι (Own X.B h ι) a w' :=
  ⟨S.size, S.defers, fun i => VR.keep (keep_iter hoth) _ _ (VR.grow hg _ _ (S.at_ i))⟩
theorem nocell {w : World} {g : Nat} {s : ByteArray} {pos : Nat} (hg : w.heap[g]? = some (.stringIter s pos)) : ∀ a : Addr, a.block = g → w.cell? a = none := by
  intro a ha
  subst ha
  simp [World.cell?, hg]

theorem run_next_str {w : World} {g : Nat} {s : ByteArray} {pos : Nat} {ty : TypeId} (hg : w.heap[g]? = some (.stringIter s pos)) (hp : pos < s.size) :
    (Instr.next (.pointer (some ⟨g, 0, none⟩)) true ty).run P w = .ok (.tuple #[.bool true, .int .i64 pos, .int .i32 (Utf8.decode s pos).1]) { w with heap := w.heap.setIfInBounds g (.stringIter s (pos + (Utf8.decode s pos).2)) } := by
  have h1 : (getObj g).run P w = .ok (.stringIter s pos) w := by simp [getObj, Sem.run, hg]
  have h2 : ∀ o, (setObj g o).run P w = .ok () { w with heap := w.heap.setIfInBounds g o } := fun o => by simp [setObj, Sem.run, hg]
  simp [Instr.next, Sem.run_bind, h1, h2, hp, goInt]
theorem run_next_over {w : World} {g : Nat} {s : ByteArray} {pos : Nat} {ty : TypeId} (hg : w.heap[g]? = some (.stringIter s pos)) (hp : ¬ pos < s.size) :
    (Instr.next (.pointer (some ⟨g, 0, none⟩)) true ty).run P w = .ok (.tuple #[.bool false]) w := by
  have h1 : (getObj g).run P w = .ok (.stringIter s pos) w := by simp [getObj, Sem.run, hg]
  simp [Instr.next, Sem.run_bind, h1, hp]

/-- A loop over the characters of a string. -/
theorem AW.strLoop {S R : Type} {Q : Exit → Env → Hp → Prop} (str : ByteArray) (b : (Nat × S → Option R) → Nat × S → Option R) (r : R) (E : S → Env) (Gh : S → Hp) (K : S → Option R) {rid r2 bid ti tn tb : Nat} {oR oN oE : Oper} {x : Operand} {ty : TypeId} {body : Code}
    (hR : oR.op = .range ty x) (hRd : oR.dst = some ti) (hRg : oR.guard = none) (hRx : rdo env x = .string str) (hty : tk P ty = 2)
    (hN : oN.op = .next (.tmp ti) true) (hNd : oN.dst = some tn) (hNg : oN.guard = none) (hE : oE.op = .extract (.tmp tn) 0) (hEd : oE.dst = some tb) (hEg : oE.guard = none)
    (hti : ti < N) (htn : tn < N) (htb : tb < N) (hd : ti ≠ tn ∧ ti ≠ tb ∧ tn ≠ tb) (hfree : ∀ s, rd (E s) ti = .any ∧ rd (E s) tn = .any ∧ rd (E s) tb = .any)
    (hrefl : ∀ s, StC (E s) (Gh s) (E s) (Gh s)) (hstop : ∀ loop pos s, ¬ pos < str.size → b loop (pos, s) = some r → K s = some r)
    (hbody : ∀ (g : Nat) (loop : Nat × S → Option R) (pos : Nat) (s : S), pos < str.size → b loop (pos, s) = some r →
      AW P N body ((tb, .bool true) :: (tn, .tup [.bool true, .int .i64 pos, .int .i32 (Utf8.decode str pos).1]) :: (ti, ptrV g) :: E s) (Gh s)
        (Ex.then (fun e h => ∃ s', loop (pos + (Utf8.decode str pos).2, s') = some r ∧ StC e h ((ti, ptrV g) :: E s') (Gh s')) (Ex.inBlock bid (Ex.then (fun e h => ∃ y, K y = some r ∧ StC e h (E y) (Gh y)) Q))))
    (n : Nat) (s : S) (hi : iter b n (0, s) = some r) (hs : StC env h (E s) (Gh s)) :
    AW P N (.seq (.region rid #[oR] false) (.block bid (.loop (.seq (.region r2 #[oN, oE] false) (.seq (.cond (.tmp tb) .skip (.exit bid)) body))))) env h (Ex.then (fun e h => ∃ y, K y = some r ∧ StC e h (E y) (Gh y)) Q) := by
  intro X a w ι H S
  have hx := S.eval H.globOK x
  rw [hRx, VR.val_iff] at hx
  have hexR : (execOp a.eval oR).run P w = .ok (.value (.pointer (some ⟨w.heap.size, 0, none⟩))) (w.alloc (.stringIter str 0)) := by
    simp only [execOp, hR, hx, Instr.range, Sem.run_bind, run_underlying (tk_str hty), Result.andThen_ok, Sem.run_pure, run_newObj_alloc]
  refine wp_seq (wp_region_list (ops := #[oR]) (wpList_plain (rest := []) hRg fun K' hK' => ?_))
  simp only [Oper.wp, hexR, Oper.upon]
  refine hK' _ _ ?_
  show (Code.block bid _).wp P _ _ _
  have hb : Below w.heap.size w (w.alloc (.stringIter str 0)) := (Below.refl _ _).alloc (Nat.le_refl _) _
  obtain ⟨φ, RC, EC⟩ := hs
  have H1 := (H.below hb).cast RC
  have S1 := Slots.cast (H.below hb) RC EC (S.below hb)
  have hg1 : (w.alloc (.stringIter str 0)).heap[w.heap.size]? = some (.stringIter str 0) := by
    show (w.heap.push _)[w.heap.size]? = _
    simp
  have S2 := S1.put (d := ti) hti (v := .pointer (some ⟨w.heap.size, 0, none⟩)) (av := ptrV w.heap.size) (by simp [VR, VRI])
  have hno1 : ¬ Own X.B (Gh s) (iotaC ι φ) w.heap.size := fun ho => by
    have := H.own_lt (RC.own _ ho)
    omega
  have hw0 : X.w0.heap.size ≤ w.heap.size := H.size
  rw [hRd]
  generalize w.heap.size = g at hg1 S2 hno1 hw0
  generalize w.alloc (.stringIter str 0) = w1 at hg1 S2 H1
  generalize iotaC ι φ = ι1 at H1 S2 hno1
  clear S1 hb H S RC EC hexR hx
  refine wp_block (wp_loop_ghost (fun m a w => ∃ (s : S) (pos : Nat) (ι : Nat → Bk), iter b m (pos, s) = some r ∧ Hol X (Gh s) ι w ∧ Slots N ((ti, ptrV g) :: E s) (Gh s) ι (Own X.B (Gh s) ι) a w ∧ w.heap[g]? = some (.stringIter str pos) ∧ ¬ Own X.B (Gh s) ι g) n
    ⟨s, 0, ι1, hi, H1, S2, hg1, hno1⟩ ?_)
  rintro m a w ⟨s, pos, ι, hi, H, S, hg, hno⟩
  cases m with
  | zero => simp [Abs.iter] at hi
  | succ m =>
    rw [iter_succ] at hi
    have hnc := nocell hg
    have hlt : g < w.heap.size := lt_of_heap hg
    have hptr : a.eval (.tmp ti) = .pointer (some ⟨g, 0, none⟩) := by
      have := S.eval H.globOK (.tmp ti)
      simp only [rdo, rd, if_true] at this
      rw [VR.val_iff] at this
      exact this
    refine wp_seq (wp_region_list (ops := #[oN, oE]) (wpList_plain (rest := [oE]) hNg fun K1 hK1 => ?_))
    by_cases hp : pos < str.size
    · have hexN : (execOp a.eval oN).run P w = .ok (.value (.tuple #[.bool true, .int .i64 pos, .int .i32 (Utf8.decode str pos).1])) { w with heap := w.heap.setIfInBounds g (.stringIter str (pos + (Utf8.decode str pos).2)) } := by
        simp only [execOp, hN, hptr, Sem.run_bind, run_next_str hg hp, Result.andThen_ok, Sem.run_pure]
      simp only [Oper.wp, hexN, Oper.upon]
      refine hK1 _ _ (wpList_plain (rest := []) hEg fun K2 hK2 => ?_)
      have hoth : ∀ β, β ≠ g → ({ w with heap := w.heap.setIfInBounds g (.stringIter str (pos + (Utf8.decode str pos).2)) } : World).heap[β]? = w.heap[β]? := fun β hβ => by
        show (w.heap.setIfInBounds g _)[β]? = _
        rw [Array.getElem?_setIfInBounds_ne (Ne.symm hβ)]
      have hg' : ({ w with heap := w.heap.setIfInBounds g (.stringIter str (pos + (Utf8.decode str pos).2)) } : World).heap[g]? = some (.stringIter str (pos + (Utf8.decode str pos).2)) := by
        show (w.heap.setIfInBounds g _)[g]? = _
        rw [Array.getElem?_setIfInBounds_self_of_lt hlt]
      have H' := H.iter (w' := { w with heap := w.heap.setIfInBounds g (.stringIter str (pos + (Utf8.decode str pos).2)) }) hno hnc hw0 rfl rfl rfl (by simp) hoth
      have S' := S.iter hnc hoth
      generalize ({ w with heap := w.heap.setIfInBounds g (.stringIter str (pos + (Utf8.decode str pos).2)) } : World) = w2 at hg' H' S' hoth
      have S3 := S'.put (d := tn) htn (v := .tuple #[.bool true, .int .i64 pos, .int .i32 (Utf8.decode str pos).1]) (av := .tup [.bool true, .int .i64 pos, .int .i32 (Utf8.decode str pos).1]) (by
        simp only [VR]
        exact ⟨[_, _, _], rfl, by simp only [VRL, VR, VRI]; exact ⟨_, _, rfl, rfl, _, _, rfl, rfl, _, _, rfl, rfl, rfl⟩⟩)
      rw [hNd]
      generalize a.put (some tn) (.tuple #[.bool true, .int .i64 pos, .int .i32 (Utf8.decode str pos).1]) = a2 at S3
      have htup : a2.eval (.tmp tn) = .tuple #[.bool true, .int .i64 pos, .int .i32 (Utf8.decode str pos).1] := by
        have := S3.eval H'.globOK (.tmp tn)
        simp only [rdo, rd, if_true, VR, VRL, VRI] at this
        obtain ⟨l, hl, v1, l1, rfl, rfl, v2, l2, rfl, rfl, v3, l3, rfl, rfl, rfl⟩ := this
        exact hl
      have hexE : (execOp a2.eval oE).run P w2 = .ok (.value (.bool true)) w2 := by
        simp only [execOp, hE, htup, Sem.run_bind]
        simp [Instr.extract]
      simp only [Oper.wp, hexE, Oper.upon]
      refine hK2 _ _ ?_
      rw [hEd]
      have S4 := S3.put (d := tb) htb (v := .bool true) (av := .bool true) (by simp [VR, VRI])
      generalize a2.put (some tb) (.bool true) = a3 at S4
      have hlt2 : g < w2.heap.size := lt_of_heap hg'
      have hnc2 := nocell hg'
      have HS := H'.shut hlt2 hno hnc2
      have SS := S4.grow hnc2
      have htb' : a3.eval (.tmp tb) = .bool true := by
        have := S4.eval H'.globOK (.tmp tb)
        simp only [rdo, rd, if_true] at this
        rw [VR.val_iff] at this
        exact this
      show (Code.seq _ _).wp P _ _ _
      refine wp_seq (wp_cond htb' ?_)
      rw [if_pos rfl]
      refine wp_skip ?_
      show body.wp P _ _ _
      refine wp_mono (hbody g (Abs.iter b m) pos s hp hi ⟨w2, fun β => X.B β ∨ β = g, Own (fun _ => False) (Gh s) ι, X.pin⟩ a3 w2 ι HS SS) ?_
      rintro e a' w' ⟨env', h', ι', hq, Hn, Sn⟩
      obtain ⟨HX, hfr, hnw⟩ := H'.unshut Hn
      have hXB : ¬ X.B g := fun hb => hno (.inl hb)
      have hown0 : ¬ Own (fun _ => False) (Gh s) ι g := fun ho => hno (by
        rcases ho with ho | ho
        · exact ho.elim
        · exact .inr ho)
      have hgn := (hfr hlt2 hown0).trans hg'
      have hnn := hnw hXB
      have SX : Slots N env' h' ι' (Own X.B h' ι') a' w' := Slots.shrink (B' := fun β => X.B β ∨ β = g) (fun β hb => .inl hb) Sn
      cases e with
      | normal =>
        obtain ⟨s', hs', φ, RC, EC⟩ := hq
        exact ⟨m, by omega, s', pos + (Utf8.decode str pos).2, iotaC ι' φ, hs', HX.cast RC, Slots.cast HX RC EC SX, hgn, fun ho => hnn (RC.own _ ho)⟩
      | exit id' =>
        simp only [Exit.then, Exit.inBlock]
        simp only [Ex.then, Ex.inBlock] at hq
        split
        · rename_i he
          rw [if_pos he] at hq
          exact ⟨env', h', ι', hq, HX, SX⟩
        · rename_i he
          rw [if_neg he] at hq
          exact ⟨env', h', ι', hq, HX, SX⟩
      | _ => exact ⟨env', h', ι', hq, HX, SX⟩
    · have hexN : (execOp a.eval oN).run P w = .ok (.value (.tuple #[.bool false])) w := by
        simp only [execOp, hN, hptr, Sem.run_bind, run_next_over hg hp, Result.andThen_ok, Sem.run_pure]
      simp only [Oper.wp, hexN, Oper.upon]
      refine hK1 _ _ (wpList_plain (rest := []) hEg fun K2 hK2 => ?_)
      have S3 := S.put (d := tn) htn (v := .tuple #[.bool false]) (av := .tup [.bool false]) (by
        simp only [VR]
        exact ⟨[_], rfl, by simp only [VRL, VR, VRI]; exact ⟨_, _, rfl, rfl, rfl⟩⟩)
      rw [hNd]
      generalize a.put (some tn) (.tuple #[.bool false]) = a2 at S3
      have htup : a2.eval (.tmp tn) = .tuple #[.bool false] := by
        have := S3.eval H.globOK (.tmp tn)
        simp only [rdo, rd, if_true, VR, VRL, VRI] at this
        obtain ⟨l, hl, v1, l1, rfl, rfl, rfl⟩ := this
        exact hl
      have hexE : (execOp a2.eval oE).run P w = .ok (.value (.bool false)) w := by
        simp only [execOp, hE, htup, Sem.run_bind]
        simp [Instr.extract]
      simp only [Oper.wp, hexE, Oper.upon]
      refine hK2 _ _ ?_
      rw [hEd]
      have S4 := S3.put (d := tb) htb (v := .bool false) (av := .bool false) (by simp [VR, VRI])
      generalize a2.put (some tb) (.bool false) = a3 at S4
      have htb' : a3.eval (.tmp tb) = .bool false := by
        have := S4.eval H.globOK (.tmp tb)
        simp only [rdo, rd, if_true] at this
        rw [VR.val_iff] at this
        exact this
      show (Code.seq _ _).wp P _ _ _
      refine wp_seq (wp_cond htb' ?_)
      rw [if_neg (by simp)]
      refine wp_exit ?_
      simp only [Exit.then, Exit.inBlock, if_true]
      have hK := hstop _ pos s hp hi
      have SE : Slots N (E s) (Gh s) ι (Own X.B (Gh s) ι) a3 w := by
        refine S4.le fun i => ?_
        obtain ⟨f1, f2, f3⟩ := hfree s
        simp only [rd]
        by_cases h1 : tb = i
        · subst h1; exact .inl f3
        · rw [if_neg h1]
          by_cases h2 : tn = i
          · subst h2; exact .inl f2
          · rw [if_neg h2]
            by_cases h3 : ti = i
            · subst h3; exact .inl f1
            · rw [if_neg h3]; exact .inr rfl
      refine ⟨E s, Gh s, ι, ?_, H, SE⟩
      exact ⟨s, hK, hrefl s⟩
end
end Go.Abs
