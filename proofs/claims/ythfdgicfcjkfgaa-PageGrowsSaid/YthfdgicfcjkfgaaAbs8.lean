/-
  Own work. The abstract layer, part 8: roots that are made, written, appended to, given up.
-/
import Derived.Test.YthfdgicfcjkfgaaAbs7
import Derived.Laws.OwnMore
import Derived.Laws.MakeOwn
set_option linter.unusedSimpArgs false
set_option linter.unusedVariables false
namespace Go.Abs
open Go.RowKit

def upd (ι : Nat → Bk) (r : Nat) (b : Bk) : Nat → Bk := fun i => if i = r then b else ι i

theorem upd_same (ι : Nat → Bk) (r : Nat) (b : Bk) : upd ι r b r = b := by simp [upd]
theorem upd_other {ι : Nat → Bk} {r i : Nat} {b : Bk} (h : i ≠ r) : upd ι r b i = ι i := by simp [upd, h]

section
variable {P : Program} {N : Nat} {ops : Array Oper} {env : Env} {h : Hp}

theorem at_cons_same (r : Nat) (rt : Rt) (h : Hp) : Hp.at ((r, rt) :: h) r = some rt := by simp [Hp.at]
theorem at_cons_other {r i : Nat} {rt : Rt} (hi : i ≠ r) : Hp.at ((r, rt) :: h) i = h.at i := by simp only [Hp.at]; rw [if_neg (fun e => hi e.symm)]

theorem Hol.upd {X : Ctx} {ι : Nat → Bk} {w : World} (H : Hol X h ι w) (r : Nat) (rt' : Rt) (b' : Bk) (w' : World)
    (hos : w'.os = w.os) (htape : w'.tape = w.tape) (hout : w'.output = w.output) (hsz : w.heap.size ≤ w'.heap.size)
    (hblk : ∀ β, β < w.heap.size → (∀ rt, h.at r = some rt → rt.live = true → (ι r).blk ≠ some β) → w'.heap[β]? = w.heap[β]?)
    (hver : ∀ rt, h.at r = some rt → rt.ver < rt'.ver ∨ (rt'.ver = rt.ver ∧ b' = ι r ∧ rt'.k = rt.k))
    (hnew : rt'.live = true → ∀ g, b'.blk = some g → w.heap.size ≤ g ∨ ∃ rt, h.at r = some rt ∧ rt.live = true ∧ (ι r).blk = some g)
    (hroot : rt'.live = true → Keep w h ι (Own X.B h ι) w' ((r, rt') :: h) (upd ι r b') (Own X.B ((r, rt') :: h) (upd ι r b')) →
      RootOK w' ((r, rt') :: h) (upd ι r b') (Own X.B ((r, rt') :: h) (upd ι r b')) b' rt') :
    Hol X ((r, rt') :: h) (upd ι r b') w' ∧ Keep w h ι (Own X.B h ι) w' ((r, rt') :: h) (upd ι r b') (Own X.B ((r, rt') :: h) (upd ι r b')) := by
  have hold : ∀ r rt g, h.at r = some rt → rt.live = true → (ι r).blk = some g → g < w.heap.size := fun r rt g hr hl hg => by
    obtain ⟨arr, h1, _⟩ := (H.roots r rt hr hl).row hg
    exact lt_of_heap h1
  have K : Keep w h ι (Own X.B h ι) w' ((r, rt') :: h) (Abs.upd ι r b') (Own X.B ((r, rt') :: h) (Abs.upd ι r b')) := by
    refine ⟨fun β hβ hA => ⟨hblk β hβ fun rt hr hl hg => hA (.inr ⟨r, rt, hr, hl, hg⟩), ?_⟩, ?_⟩
    · rintro (hb | ⟨i, rt, hi, hl, hg⟩)
      · exact hA (.inl hb)
      · by_cases hir : i = r
        · subst hir
          rw [at_cons_same] at hi
          cases hi
          rw [upd_same] at hg
          rcases hnew hl β hg with h1 | ⟨rt, h1, h2, h3⟩
          · omega
          · exact hA (.inr ⟨i, rt, h1, h2, h3⟩)
        · rw [at_cons_other hir] at hi
          rw [upd_other hir] at hg
          exact hA (.inr ⟨i, rt, hi, hl, hg⟩)
    · intro i rt hi
      by_cases hir : i = r
      · subst hir
        refine ⟨rt', at_cons_same _ _ _, ?_, fun he => ?_⟩
        · rcases hver rt hi with h1 | ⟨h1, _⟩ <;> omega
        · rcases hver rt hi with h1 | ⟨_, h2, h3⟩
          · omega
          · exact ⟨by rw [upd_same, h2], h3⟩
      · exact ⟨rt, by rw [at_cons_other hir]; exact hi, Nat.le_refl _, fun _ => ⟨upd_other hir, rfl⟩⟩
  refine ⟨?_, K⟩
  exact {
    roots := fun i rt hi hl => by
      by_cases hir : i = r
      · subst hir
        rw [at_cons_same] at hi
        cases hi
        rw [upd_same]
        exact hroot hl K
      · rw [at_cons_other hir] at hi
        rw [upd_other hir]
        rcases H.roots i rt hi hl with hn | ⟨g, arr, c1, c2, c3, c4, c5, c6⟩
        · exact .inl hn
        · refine .inr ⟨g, arr, c1, ?_, c3, c4, VRL.keep K _ _ c5, c6⟩
          rw [hblk g (lt_of_heap c2) (fun rt2 h2 hl2 hg2 => hir (H.inj i r rt rt2 g hi h2 hl hl2 c1 hg2))]
          exact c2
    inj := fun i j rti rtj g hi hj hli hlj hgi hgj => by
      by_cases hir : i = r <;> by_cases hjr : j = r
      · rw [hir, hjr]
      · subst hir
        rw [at_cons_same] at hi; cases hi
        rw [at_cons_other hjr] at hj
        rw [upd_same] at hgi
        rw [upd_other hjr] at hgj
        rcases hnew hli g hgi with h1 | ⟨rt, h1, h2, h3⟩
        · have := hold j rtj g hj hlj hgj; omega
        · exact H.inj i j rt rtj g h1 hj h2 hlj h3 hgj
      · subst hjr
        rw [at_cons_same] at hj; cases hj
        rw [at_cons_other hir] at hi
        rw [upd_same] at hgj
        rw [upd_other hir] at hgi
        rcases hnew hlj g hgj with h1 | ⟨rt, h1, h2, h3⟩
        · have := hold i rti g hi hli hgi; omega
        · exact H.inj i j rti rt g hi h1 hli h2 hgi h3
      · rw [at_cons_other hir] at hi
        rw [at_cons_other hjr] at hj
        rw [upd_other hir] at hgi
        rw [upd_other hjr] at hgj
        exact H.inj i j rti rtj g hi hj hli hlj hgi hgj
    place := fun i rt g hi hl hg => by
      by_cases hir : i = r
      · subst hir
        rw [at_cons_same] at hi; cases hi
        rw [upd_same] at hg
        rcases hnew hl g hg with h1 | ⟨rt, h1, h2, h3⟩
        · exact ⟨fun hb => by have := (H.old g hb).1; have := H.size; omega, .inl (Nat.le_trans H.size h1)⟩
        · exact H.place i rt g h1 h2 h3
      · rw [at_cons_other hir] at hi
        rw [upd_other hir] at hg
        exact H.place i rt g hi hl hg
    os := hos.trans H.os
    tape := htape.trans H.tape
    output := hout.trans H.output
    size := Nat.le_trans H.size hsz
    frame := fun β hβ hS => by
      rw [hblk β (Nat.lt_of_lt_of_le hβ H.size) (fun rt hr hl hg => by
        rcases (H.place r rt β hr hl hg).2 with h1 | h1
        · omega
        · exact hS h1)]
      exact H.frame β hβ hS
    old := H.old }

/-- A step that turns one root and yields a value. -/
theorem OpsW.root {o : Oper} {rest : List Oper} {K : Env → Hp → Prop} (hgu : o.guard = none) (hd : o.dst.all (· < N) = true) (r : Nat) (rt' : Rt) (av : AV)
    (hstep : ∀ (X : Ctx) (a : Act) (w : World) (ι : Nat → Bk) (Q : Exit → Act → World → Prop) (next : Act → World → Prop), Hol X h ι w → (∀ x, VR w h ι (Own X.B h ι) (rdo env x) (a.eval x)) →
      (∀ b' w' v, Hol X ((r, rt') :: h) (upd ι r b') w' → Keep w h ι (Own X.B h ι) w' ((r, rt') :: h) (upd ι r b') (Own X.B ((r, rt') :: h) (upd ι r b')) →
        VR w' ((r, rt') :: h) (upd ι r b') (Own X.B ((r, rt') :: h) (upd ι r b')) av v → next (a.put o.dst v) w') → o.wp P a w next Q)
    (hr : OpsW P N ops rest (setd env o.dst av) ((r, rt') :: h) K) : OpsW P N ops (o :: rest) env h K := by
  intro X a w ι Q H S hQ
  refine wpList_plain hgu fun K' hK' => hstep X a w ι Q K' H (fun x => S.eval x) fun b' w' v H' Kp hv => hK' _ _ ?_
  exact hr X _ w' _ Q H' (Slots.putd ⟨S.size, S.defers, fun i => VR.keep Kp _ _ (S.at_ i)⟩ hd hv) hQ

theorem take_all {l : List Value} {n : Nat} (h : l.length = n) : l.take n = l := by rw [← h]; exact List.take_length

/-- A new block whose cells are `cs`, with room for `cap` elements of `k` cells. -/
theorem Hol.alloc {X : Ctx} {ι : Nat → Bk} {w : World} (H : Hol X h ι w) (r : Nat) (hr : h.at r = none) (e : TypeId) (k cap : Nat) (cs : List AV) (arr : Array Value) (hcap : arr.size = cap * k) (hm : cap ≤ maxLen)
    (hv : VRL w h ι (Own X.B h ι) cs (arr.toList.take cs.length)) (h1 : ∀ u ∈ arr.toList.take cs.length, u.oneCell' = true) :
    Hol X ((r, ⟨0, true, e, k, cs⟩) :: h) (Abs.upd ι r ⟨some w.heap.size, cap⟩) (w.alloc (.cells arr e)) ∧
      Keep w h ι (Own X.B h ι) (w.alloc (.cells arr e)) ((r, ⟨0, true, e, k, cs⟩) :: h) (Abs.upd ι r ⟨some w.heap.size, cap⟩) (Own X.B ((r, ⟨0, true, e, k, cs⟩) :: h) (Abs.upd ι r ⟨some w.heap.size, cap⟩)) := by
  refine H.upd r ⟨0, true, e, k, cs⟩ ⟨some w.heap.size, cap⟩ (w.alloc (.cells arr e)) rfl rfl rfl (by simp) (fun β hβ _ => Below.heap_alloc w _ β hβ) (fun rt h2 => by rw [hr] at h2; cases h2) (fun _ g hg => .inl (by simp at hg; omega)) ?_
  intro _ K
  exact .inr ⟨w.heap.size, arr, rfl, heap_alloc_new w _, hcap, hm, VRL.keep K _ _ hv, h1⟩

theorem VR.newref {w : World} {ι : Nat → Bk} {A : Nat → Prop} {r : Nat} {rt : Rt} {b : Bk} {g : Nat} (hg : b.blk = some g) (off : Nat) : VR w ((r, rt) :: h) (Abs.upd ι r b) A (.ref r rt.ver off) (.pointer (some ⟨g, off, none⟩)) := by
  simp only [VR]
  exact ⟨rt, at_cons_same _ _ _, Nat.le_refl _, fun _ => ⟨g, by rw [upd_same]; exact hg, rfl⟩⟩

theorem VR.newrsl {w : World} {ι : Nat → Bk} {A : Nat → Prop} {r : Nat} {rt : Rt} {b : Bk} {n : Nat} {v : Value} (hs : SlR rt.k b 0 n v) : VR w ((r, rt) :: h) (Abs.upd ι r b) A (.rsl r rt.ver 0 n) v := by
  simp only [VR]
  exact ⟨rt, at_cons_same _ _ _, Nat.le_refl _, fun _ => by rw [upd_same]; exact hs⟩

/-- A variable of the call's own that begins with a value. -/
theorem OpsW.box {o : Oper} {rest : List Oper} {K : Env → Hp → Prop} {e : TypeId} {x : Operand} (ho : o.op = .box e x) (hgu : o.guard = none) (hd : o.dst.all (· < N) = true) (r : Nat) (hr : h.at r = none)
    (hx : okC h (rdo env x)) (hw : OpsW P N ops rest (setd env o.dst (.ref r 0 0)) ((r, ⟨0, true, e, (cellsA (rdo env x)).length, cellsA (rdo env x)⟩) :: h) K) : OpsW P N ops (o :: rest) env h K := by
  refine OpsW.root hgu hd r _ _ ?_ hw
  intro X a w ι Q next H hop hn
  obtain ⟨h1, h2⟩ := hx.sound (hop x)
  have hlen : (a.eval x).cells.size = (cellsA (rdo env x)).length := by simpa using h1.length
  have htk : (a.eval x).cells.toList.take (cellsA (rdo env x)).length = (a.eval x).cells.toList := take_all (by simpa using hlen)
  obtain ⟨H', K'⟩ := H.alloc r hr e (cellsA (rdo env x)).length 1 (cellsA (rdo env x)) (a.eval x).cells (by omega) (by simp [maxLen]) (by rw [htk]; exact h1) (by rw [htk]; exact h2)
  have hrun : (execOp a.eval o).run P w = .ok (.value (.pointer (some ⟨w.heap.size, 0, none⟩))) (w.alloc (.cells (a.eval x).cells e)) := by
    simp [execOp, ho, Instr.box, newVar, newRow, Sem.run_bind]
  simp only [Oper.wp, hrun, Oper.upon]
  exact hn _ _ _ H' K' (VR.newref (rt := ⟨0, true, e, _, _⟩) rfl 0)

/-- A variable of the call's own that begins with zero. -/
theorem OpsW.alloc {o : Oper} {rest : List Oper} {K : Env → Hp → Prop} {e : TypeId} (ho : o.op = .alloc e) (hgu : o.guard = none) (hd : o.dst.all (· < N) = true) (r : Nat) (hr : h.at r = none)
    (z : List Value) (hz : zc P e = some z) (hz1 : z.all (·.oneCell') = true) (hw : OpsW P N ops rest (setd env o.dst (.ref r 0 0)) ((r, ⟨0, true, e, z.length, z.map fun v => .im (.val v)⟩) :: h) K) : OpsW P N ops (o :: rest) env h K := by
  refine OpsW.root hgu hd r _ _ ?_ hw
  intro X a w ι Q next H hop hn
  obtain ⟨u, hu, hcu⟩ := zc_some (w := w) hz
  have hlen : u.cells.size = z.length := by rw [← hcu]; simp
  have htk : u.cells.toList.take (z.map fun v => AV.im (.val v)).length = z := by rw [hcu]; exact take_all (by simp)
  obtain ⟨H', K'⟩ := H.alloc r hr e z.length 1 (z.map fun v => .im (.val v)) u.cells (by omega) (by simp [maxLen]) (by rw [htk]; exact VRL.vals z) (by rw [htk]; exact fun v hv => List.all_eq_true.1 hz1 v hv)
  have hrun : (execOp a.eval o).run P w = .ok (.value (.pointer (some ⟨w.heap.size, 0, none⟩))) (w.alloc (.cells u.cells e)) := by
    simp [execOp, ho, Instr.alloc, newVar, newRow, Sem.run_bind, hu]
  simp only [Oper.wp, hrun, Oper.upon]
  exact hn _ _ _ H' K' (VR.newref (rt := ⟨0, true, e, _, _⟩) rfl 0)

/-- The zero cells of an element of a slice type, and the type. -/
def sle (P : Program) (t : TypeId) : Option TypeId := match P.underlying t with
  | some (.slice e) => some e
  | _ => none

theorem sle_some {t e : TypeId} (hs : sle P t = some e) : P.underlying t = some (.slice e) := by
  unfold sle at hs
  split at hs <;> simp_all

/-- What must be known of the element type of a slice that is made or grown. -/
structure Elem (P : Program) (t e : TypeId) (k bytes : Nat) (z : List Value) : Prop where
  sle : Abs.sle P t = some e
  zc : Abs.zc P e = some z
  size : (P.info? e).map (fun i => (i.size, i.bytes)) = some (k, bytes)
  zlen : z.length = k
  one : z.all (·.oneCell') = true
  pos : 0 < k

theorem zeros_eq (z : Array Value) (k n : Nat) (hk : z.size = k) (hp : 0 < k) : ((Array.range (n * k)).map (z[· % z.size]!)).toList = (List.replicate n z.toList).flatten := by
  subst hk
  induction n with
  | zero => simp
  | succ n ih =>
    have e1 : (Array.range ((n + 1) * z.size)).toList = (Array.range (n * z.size)).toList ++ (List.range z.size).map (n * z.size + ·) := by
      simp only [Array.toList_range, Nat.add_mul, Nat.one_mul]
      rw [List.range_add]
    simp only [Array.toList_map] at ih ⊢
    rw [e1, List.map_append, ih]
    rw [List.replicate_succ', List.flatten_append]
    congr 1
    simp only [List.map_map, List.flatten_cons, List.flatten_nil, List.append_nil]
    apply List.ext_getElem
    · simp
    · intro i h1 h2
      have hi : i < z.size := by simpa using h2
      simp [Nat.mul_add_mod_self_right, Nat.mod_eq_of_lt hi, Nat.add_comm, hi]

def zerosA (z : List Value) (n : Nat) : List AV := ((List.replicate n z).flatten).map fun v => .im (.val v)

/-- A literal slice. -/
theorem OpsW.buildSlice {o : Oper} {rest : List Oper} {K : Env → Hp → Prop} {t e : TypeId} {len k bytes : Nat} {z : List Value} {ps : List (Nat × Operand)} (ho : o.op = .buildSlice t len ps.toArray) (hgu : o.guard = none) (hd : o.dst.all (· < N) = true)
    (r : Nat) (hr : h.at r = none) (E : Elem P t e k bytes z) (hlen : len * k ≤ 16777216) (hgd : ∀ p ∈ ps, gd (rdo env p.2)) (hok : ∀ p ∈ ps, okC h (st (rdo env p.2))) (cs : List AV)
    (hf : fillA h (fun i => some (i * k, k)) (zerosA z len) (ps.map fun p => (p.1, st (rdo env p.2))) = some cs)
    (hone : ∀ x ∈ cs, oneA h x) (hcl : cs.length = len * k)
    (hw : OpsW P N ops rest (setd env o.dst (.rsl r 0 0 len)) ((r, ⟨0, true, e, k, cs⟩) :: h) K) : OpsW P N ops (o :: rest) env h K := by
  refine OpsW.root hgu hd r _ _ ?_ hw
  intro X a w ι Q next H hop hn
  obtain ⟨u, hu, hcu⟩ := zc_some (w := w) E.zc
  have hui : ∃ i, P.info? e = some i ∧ i.size = k ∧ i.bytes = bytes := by
    have := E.size
    cases hi : P.info? e with
    | none => simp [hi] at this
    | some i => simp [hi] at this; exact ⟨i, rfl, this⟩
  obtain ⟨i, hi, hisz, hiby⟩ := hui
  have husz : u.cells.size = k := by rw [← E.zlen, ← hcu]; simp
  have hvp := VRP.mk (h := h) (w := w) (ι := ι) (A := Own X.B h ι) (η := a.eval) ps hgd (fun p _ => hop p.2)
  have hz0 : VRL w h ι (Own X.B h ι) (zerosA z len) ((Array.range (len * k)).map (u.cells[· % u.cells.size]!)).toList := by
    rw [zeros_eq u.cells k len husz E.pos, hcu]
    exact VRL.vals _
  obtain ⟨arr, h1, h2⟩ := fill_sound (arr := (Array.range (len * k)).map (u.cells[· % u.cells.size]!)) hf hvp (fun p hp => by
    obtain ⟨q, hq, rfl⟩ := List.mem_map.1 hp
    exact hok q hq) hz0
  have hal : arr.size = len * k := by rw [← hcl]; simpa using h2.length
  have htk : arr.toList.take cs.length = arr.toList := take_all (by simp [hal, hcl])
  have hlm : len ≤ maxLen := by
    have : len ≤ len * k := Nat.le_mul_of_pos_right _ E.pos
    simp only [maxLen]; omega
  obtain ⟨H', K'⟩ := H.alloc r hr e k len cs arr hal hlm (by rw [htk]; exact h2) (by rw [htk]; exact oneA.sound_list hone h2)
  have hrun : (execOp a.eval o).run P w = .ok (.value (.slice (some ⟨w.heap.size, 0, none⟩) len len)) (w.alloc (.cells arr e)) := by
    have hbig : ¬ (len * k > 2 ^ 24) := by omega
    have hps : (ps.toArray.map fun p => (p.1, a.eval p.2)).toList = ps.map fun p => (p.1, a.eval p.2) := by simp
    simp only [execOp, ho, Instr.buildSlice, Sem.run_bind, run_underlying (sle_some E.sle), sizeOf, typeInfo, program, Sem.run, hi, Result.andThen_ok, Sem.run_pure, hisz]
    by_cases h0 : len * k = 0
    · have hl0 : len = 0 := by
        rcases Nat.mul_eq_zero.1 h0 with h | h
        · exact h
        · have := E.pos; omega
      subst hl0
      have e0 : Array.range 0 = #[] := rfl
      simp only [Nat.zero_mul, e0, List.map_toArray, List.map_nil] at h1
      simp [e0, h1, newRow, Sem.run_bind]
    · simp [h0, hbig, hu, h1, newRow, Sem.run_bind]
  simp only [Oper.wp, hrun, Oper.upon]
  refine hn _ _ _ H' K' (VR.newrsl (rt := ⟨0, true, e, k, cs⟩) ?_)
  exact ⟨_, _, rfl, Nat.le_refl _, .inr ⟨w.heap.size, rfl, .inl ⟨rfl, by simp⟩⟩⟩

end
end Go.Abs
