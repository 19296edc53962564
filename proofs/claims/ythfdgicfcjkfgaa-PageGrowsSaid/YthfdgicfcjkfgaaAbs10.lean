/-
  Own work. The abstract layer, part 10: store, make; nil slices as roots; roots frozen or dropped.
-/
import Derived.Test.YthfdgicfcjkfgaaAbs9
set_option linter.unusedSimpArgs false
set_option linter.unusedVariables false
namespace Go.Abs
open Go.RowKit

section
variable {P : Program} {N : Nat} {ops : Array Oper} {env : Env} {h : Hp} {Q : Exit → Env → Hp → Prop}

def szt (P : Program) (t : TypeId) : Option Nat := (P.info? t).map (·.size)

theorem OpsW.store {o : Oper} {rest : List Oper} {K : Env → Hp → Prop} {t : TypeId} {x y : Operand} (ho : o.op = .store t x y) (hgu : o.guard = none) (hdn : o.dst = none) {r ver off : Nat} {rt : Rt}
    (hx : st (rdo env x) = .ref r ver off) (hgx : gd (rdo env x)) (hgy : gd (rdo env y)) (hrt : h.at r = some rt) (hver : rt.ver = ver) (hl : rt.live = true) (hsz : szt P t = some (cellsA (st (rdo env y))).length) (hok : okC h (st (rdo env y)))
    (hfit : off + (cellsA (st (rdo env y))).length ≤ rt.cs.length)
    (hw : OpsW P N ops rest env ((r, ⟨rt.ver, true, rt.e, rt.k, putA rt.cs off (cellsA (st (rdo env y)))⟩) :: h) K) : OpsW P N ops (o :: rest) env h K := by
  refine OpsW.root hgu (by simp [hdn]) r _ .any ?_ (by rw [hdn]; exact hw)
  intro X a w ι Q next H hop hnx
  obtain ⟨rt', g, hrt', _, hg, hxv⟩ := VR.ref_now (hx ▸ (hop x).st hgx) (by simp [hrt, hver])
  rw [hrt] at hrt'
  cases hrt'
  obtain ⟨arr, c1, c2, c3, c4, c5⟩ := (H.roots r rt hrt hl).row hg
  obtain ⟨hv1, hv2⟩ := hok.sound ((hop y).st hgy)
  have hvl : (a.eval y).cells.toList.length = (cellsA (st (rdo env y))).length := hv1.length
  have hcl : (arr.toList.take rt.cs.length).length = rt.cs.length := c4.length
  have hal : rt.cs.length ≤ arr.size := by simp at hcl; omega
  have hst := run_storeCells_at P g off rt.e (a.eval y).cells.toList 0 arr w c1 (by simp at hvl ⊢; omega) hv2
  simp only [Nat.add_zero] at hst
  have hrun : (execOp a.eval o).run P w = .ok .skip (w.setRow g (putA arr.toList off (a.eval y).cells.toList).toArray) := by
    have hi : ∃ i, P.info? t = some i ∧ i.size = (a.eval y).cells.size := by
      unfold szt at hsz
      cases hi : P.info? t with
      | none => simp [hi] at hsz
      | some i => simp [hi] at hsz; exact ⟨i, rfl, by simp at hvl; omega⟩
    obtain ⟨i, hi, his⟩ := hi
    simp only [execOp, ho, Instr.storeAt, hxv, Instr.sureAddr, storeVar, sizeOf, typeInfo, program, Sem.run_bind, Sem.run, Sem.run_pure, hi, Result.andThen_ok, his, ne_eq, not_true_eq_false, if_false, hst, putA]
  simp only [Oper.wp, hrun, Oper.upon]
  have htk : (putA arr.toList off (a.eval y).cells.toList).take rt.cs.length = putA (arr.toList.take rt.cs.length) off (a.eval y).cells.toList := by
    unfold putA
    have e1 : arr.toList.take off = (arr.toList.take rt.cs.length).take off := by rw [List.take_take]; congr 1; omega
    rw [List.append_assoc, List.append_assoc, List.take_append, List.take_append]
    have l1 : (arr.toList.take off).length = off := by simp; omega
    rw [l1]
    have l2 : (List.take rt.cs.length (List.take off arr.toList)) = List.take off arr.toList := by rw [List.take_take]; congr 1; omega
    rw [l2, e1]
    congr 1
    have l3 : (List.take (rt.cs.length - off) (a.eval y).cells.toList) = (a.eval y).cells.toList := List.take_of_length_le (by omega)
    rw [l3]
    congr 1
    rw [List.drop_take]
    congr 1
    omega
  have hpl : (putA rt.cs off (cellsA (st (rdo env y)))).length = rt.cs.length := by
    unfold putA; simp; omega
  have hup := H.upd r ⟨rt.ver, true, rt.e, rt.k, putA rt.cs off (cellsA (st (rdo env y)))⟩ (ι r) (w.setRow g (putA arr.toList off (a.eval y).cells.toList).toArray) rfl rfl rfl (by simp)
    (fun β hβ hne => setRow_other w g β _ (fun ee => hne rt hrt hl (by rw [ee]; exact hg))) (fun rt2 h2 => by rw [hrt] at h2; cases h2; exact .inr ⟨rfl, rfl, rfl⟩) (fun _ g' hg' => .inr ⟨rt, hrt, hl, hg'⟩) (fun _ Kp => by
      refine .inr ⟨g, _, hg, setRow_heap w g arr _ rt.e _ c1, ?_, c3, ?_, ?_⟩
      · simp only [putA, List.size_toArray, List.length_append, List.length_take, List.length_drop, Array.length_toList] at hvl ⊢
        omega
      · rw [hpl]
        show VRL _ _ _ _ _ (List.take rt.cs.length (putA arr.toList off (a.eval y).cells.toList))
        rw [htk]
        exact VRL.putA off (VRL.keep Kp _ _ c4) (VRL.keep Kp _ _ hv1)
      · rw [hpl]
        show ∀ u ∈ (List.take rt.cs.length (putA arr.toList off (a.eval y).cells.toList)), u.oneCell' = true
        rw [htk]
        intro u hu
        unfold putA at hu
        rcases List.mem_append.1 hu with hu | hu
        · rcases List.mem_append.1 hu with hu | hu
          · exact c5 u (List.mem_of_mem_take hu)
          · exact hv2 u hu
        · exact c5 u (List.mem_of_mem_drop hu))
  exact hnx _ _ _ hup.1 hup.2 (by simp only [VR])

/-- A nil slice becomes a root of its own. -/
theorem AW.nilroot {c : Code} (t r : Nat) (e k : Nat) (ht : rd env t = .im (.val (.slice none 0 0))) (hr : h.at r = none) (hw : AW P N c ((t, .rsl r 0 0 0) :: env) ((r, ⟨0, true, e, k, []⟩) :: h) Q) : AW P N c env h Q := by
  intro X a w ι H S
  have hup := H.upd r ⟨0, true, e, k, []⟩ ⟨none, 0⟩ w rfl rfl rfl (Nat.le_refl _) (fun β _ _ => rfl) (fun rt2 h2 => by rw [hr] at h2; cases h2) (fun _ g hg => by simp at hg) (fun _ Kp => .inl ⟨rfl, rfl, rfl⟩)
  refine hw X a w _ hup.1 ⟨S.size, S.defers, fun i => ?_⟩
  by_cases hi : t = i
  · subst hi
    have hv := S.at_ t
    rw [ht, VR.val_iff] at hv
    simp only [rd, if_true, hv]
    exact VR.newrsl (rt := ⟨0, true, e, k, []⟩) ⟨none, 0, rfl, Nat.le_refl _, .inl ⟨rfl, rfl, rfl, rfl, rfl⟩⟩
  · simp only [rd, if_neg hi]
    exact VR.keep hup.2 _ _ (S.at_ i)

/-- A root whose cells are data is given up: the slice in slot `t` is immutable from now on. -/
theorem AW.freeze {c : Code} (t r : Nat) {ver off n : Nat} {rt : Rt} {ys : List IV} (ht : rd env t = .rsl r ver off n) (hrt : h.at r = some rt) (hver : rt.ver = ver) (hl : rt.live = true) (hcs : rt.cs = ys.map .im) (hfit : off + n * rt.k ≤ ys.length)
    (hw : AW P N c ((t, .im (.sl ((ys.drop off).take (n * rt.k)) n)) :: env) ((r, ⟨rt.ver + 1, false, rt.e, rt.k, []⟩) :: h) Q) : AW P N c env h Q := by
  intro X a w ι H S
  have hup := H.upd r ⟨rt.ver + 1, false, rt.e, rt.k, []⟩ (ι r) w rfl rfl rfl (Nat.le_refl _) (fun β _ _ => rfl) (fun rt2 h2 => by rw [hrt] at h2; cases h2; left; simp only; omega) (fun hf => by simp at hf) (fun hf => by simp at hf)
  refine hw X a w _ hup.1 ⟨S.size, S.defers, fun i => ?_⟩
  by_cases hi : t = i
  · subst hi
    have hv := S.at_ t
    rw [ht] at hv
    simp only [rd, if_true]
    have hsrc := ArgS.slice (h := h) (bs := [r]) (r := r) (ver := ver) (off := off) (n := n) (rt := rt) (ys := (ys.drop off).take (n * rt.k)) (by simp) hrt hver hl (by rw [hcs, ← List.map_drop, ← List.map_take]) (by simp; omega) X ι w _ H hv
    refine VR.pure (fun β _ hA => ⟨rfl, fun ho => hA ?_⟩) _ _ rfl hsrc
    rcases ho with hb | ⟨j, rtj, hj, hlj, hg⟩
    · refine ⟨.inl hb, fun r' hr' hg => ?_⟩
      simp at hr'
      subst hr'
      exact (H.place r' rt β hrt hl hg).1 hb
    · by_cases hjr : j = r
      · subst hjr
        rw [at_cons_same] at hj
        cases hj
        simp at hlj
      · rw [at_cons_other hjr] at hj
        rw [upd_other hjr] at hg
        refine ⟨.inr ⟨j, rtj, hj, hlj, hg⟩, fun r' hr' hg' => ?_⟩
        simp at hr'
        subst hr'
        exact hjr (H.inj j r' rtj rt β hj hrt hlj hl hg hg')
  · simp only [rd, if_neg hi]
    exact VR.keep hup.2 _ _ (S.at_ i)

mutual
/-- Is root `r` mentioned? -/
def men (r : Nat) : AV → Bool
  | .any => false
  | .im _ => false
  | .agg cs => menL r cs
  | .tup cs => menL r cs
  | .ipt _ _ => false
  | .ref i _ _ => i == r
  | .rsl i _ _ _ => i == r
  | .cnd _ x => men r x
def menL (r : Nat) : List AV → Bool
  | [] => false
  | c :: cs => men r c || menL r cs
end

theorem menL_im (r : Nat) (ys : List IV) : menL r (ys.map .im) = false := by
  induction ys with
  | nil => simp [menL]
  | cons y ys ih => simp [menL, men, ih]

mutual
theorem VR.drop {w : World} {h h' : Hp} {ι : Nat → Bk} {A A' : Nat → Prop} {r : Nat} (hA : ∀ β, A' β → A β) (hh : ∀ i rt, i ≠ r → h.at i = some rt → h'.at i = some rt) : ∀ (x : AV) (v : Value), men r x = false → VR w h ι A x v → VR w h' ι A' x v
  | .any, _, _, _ => by simp only [VR]
  | .im x, v, _, hv => by simp only [VR] at hv ⊢; exact VRI.keep (fun β _ hn => ⟨rfl, fun ha => hn (hA β ha)⟩) x v hv
  | .agg cs, v, hm, hv => by
    simp only [VR] at hv ⊢
    obtain ⟨l, hl, hr⟩ := hv
    exact ⟨l, hl, VRL.dropR hA hh cs l (by simpa only [men] using hm) hr⟩
  | .tup cs, v, hm, hv => by
    simp only [VR] at hv ⊢
    obtain ⟨l, hl, hr⟩ := hv
    exact ⟨l, hl, VRL.dropR hA hh cs l (by simpa only [men] using hm) hr⟩
  | .ipt cs off, v, _, hv => by
    simp only [VR] at hv ⊢
    obtain ⟨a, l, hl, hlie, hr⟩ := hv
    exact ⟨a, l, hl, hlie.keep (fun β _ hn => ⟨rfl, fun ha => hn (hA β ha)⟩), VRIL.keep (fun β _ hn => ⟨rfl, fun ha => hn (hA β ha)⟩) cs l hr⟩
  | .ref i ver off, v, hm, hv => by
    simp only [VR] at hv ⊢
    obtain ⟨rt, hrt, hrest⟩ := hv
    exact ⟨rt, hh i rt (by simpa [men] using hm) hrt, hrest⟩
  | .rsl i ver off n, v, hm, hv => by
    simp only [VR] at hv ⊢
    obtain ⟨rt, hrt, hrest⟩ := hv
    exact ⟨rt, hh i rt (by simpa [men] using hm) hrt, hrest⟩
  | .cnd g x, v, hm, hv => by simp only [VR] at hv ⊢; exact ⟨fun hg => VR.drop hA hh x v (by simpa only [men] using hm) (hv.1 hg), hv.2⟩
theorem VRL.dropR {w : World} {h h' : Hp} {ι : Nat → Bk} {A A' : Nat → Prop} {r : Nat} (hA : ∀ β, A' β → A β) (hh : ∀ i rt, i ≠ r → h.at i = some rt → h'.at i = some rt) : ∀ (cs : List AV) (l : List Value), menL r cs = false → VRL w h ι A cs l → VRL w h' ι A' cs l
  | [], _, _, hv => by simpa only [VRL] using hv
  | c :: cs, l, hm, hv => by
    simp only [VRL] at hv ⊢
    simp only [menL, Bool.or_eq_false_iff] at hm
    obtain ⟨v, l', hl, hv, hr⟩ := hv
    exact ⟨v, l', hl, VR.drop hA hh c v hm.1 hv, VRL.dropR hA hh cs l' hm.2 hr⟩
end

/-- A root that nothing mentions is dropped. -/
theorem AW.drop {c : Code} (r : Nat) (h' : Hp) (hh : ∀ i, h'.at i = if i = r then none else h.at i) (henv : ∀ i, men r (rd env i) = false) (hroots : ∀ i rt, i ≠ r → h.at i = some rt → menL r rt.cs = false) (hw : AW P N c env h' Q) : AW P N c env h Q := by
  intro X a w ι H S
  have h1 : ∀ i rt, i ≠ r → h.at i = some rt → h'.at i = some rt := fun i rt hi hr => by rw [hh i, if_neg hi]; exact hr
  have h2 : ∀ i rt, h'.at i = some rt → i ≠ r ∧ h.at i = some rt := fun i rt hi => by
    rw [hh i] at hi
    split at hi
    · cases hi
    · rename_i hne; exact ⟨hne, hi⟩
  have hA : ∀ β, Own X.B h' ι β → Own X.B h ι β := by
    rintro β (hb | ⟨i, rt, hi, hl, hg⟩)
    · exact .inl hb
    · exact .inr ⟨i, rt, (h2 i rt hi).2, hl, hg⟩
  refine hw X a w ι ?_ ⟨S.size, S.defers, fun i => VR.drop hA h1 _ _ (henv i) (S.at_ i)⟩
  exact {
    roots := fun i rt hi hl => by
      obtain ⟨hne, hi'⟩ := h2 i rt hi
      rcases H.roots i rt hi' hl with hn | ⟨g, arr, c1, c2, c3, c4, c5, c6⟩
      · exact .inl hn
      · exact .inr ⟨g, arr, c1, c2, c3, c4, VRL.dropR hA h1 _ _ (hroots i rt hne hi') c5, c6⟩
    inj := fun i j rti rtj g hi hj => H.inj i j rti rtj g (h2 i rti hi).2 (h2 j rtj hj).2
    place := fun i rt g hi => H.place i rt g (h2 i rt hi).2
    os := H.os
    tape := H.tape
    output := H.output
    size := H.size
    frame := H.frame
    old := H.old }


/-- make([]T, l, c). -/
theorem OpsW.make {o : Oper} {rest : List Oper} {K : Env → Hp → Prop} {t e : TypeId} {k bytes : Nat} {z : List Value} {x y : Operand} (ho : o.op = .makeSlice t x y) (hgu : o.guard = none) (hd : o.dst.all (· < N) = true)
    (r : Nat) (hr : h.at r = none) (E : Elem P t e k bytes z) {kx ky : IntKind} {l c : Int} (hx : rdo env x = .int kx l) (hy : rdo env y = .int ky c) (h0 : 0 ≤ l) (hlc : l ≤ c) (hb : (bytes : Int) * c ≤ 281474976710656) (h63 : c ≤ 9223372036854775807)
    (hw : OpsW P N ops rest (setd env o.dst (.rsl r 0 0 l.toNat)) ((r, ⟨0, true, e, k, zerosA z l.toNat⟩) :: h) K) : OpsW P N ops (o :: rest) env h K := by
  refine OpsW.root hgu hd r _ _ ?_ hw
  intro X a w ι Q next H hop hn
  obtain ⟨i, zu, hi, hisz, hiby, hiz, hzu⟩ := E.info
  have hxv := hop x
  have hyv := hop y
  rw [hx, VR.int_iff] at hxv
  rw [hy, VR.int_iff] at hyv
  have hzs : zu.cells.size = k := by rw [← E.zlen, ← hzu]; simp
  have hr1 := run_make (P := P) w t e i zu (sle_some E.sle) hi hiz kx ky l c h0 hlc (by rw [hiby]; exact hb) h63
  rw [hisz] at hr1
  have hal : (madeCells zu.cells (c.toNat * k)).toList = (List.replicate c.toNat z).flatten := by
    unfold madeCells
    rw [zeros_eq zu.cells k c.toNat hzs E.pos, hzu]
  have hzl : ((List.replicate l.toNat z).flatten).length = l.toNat * k := by simp [E.zlen]
  have htk : (madeCells zu.cells (c.toNat * k)).toList.take (zerosA z l.toNat).length = (List.replicate l.toNat z).flatten := by
    have h1 : (zerosA z l.toNat).length = ((List.replicate l.toNat z).flatten).length := by simp [zerosA]
    rw [hal, h1]
    have h2 : List.replicate c.toNat z = List.replicate l.toNat z ++ List.replicate (c.toNat - l.toNat) z := by rw [List.replicate_append_replicate]; congr 1; omega
    rw [h2, List.flatten_append]
    exact List.take_left
  obtain ⟨H', K'⟩ := H.alloc r hr e k c.toNat (zerosA z l.toNat) (madeCells zu.cells (c.toNat * k)) (size_madeCells _ _) (by simp only [maxLen]; omega) (by rw [htk]; exact VRL.vals _) (by
    rw [htk]
    intro u hu
    obtain ⟨y, hy, huy⟩ := List.mem_flatten.1 hu
    rw [List.eq_of_mem_replicate hy] at huy
    exact List.all_eq_true.1 E.one u huy)
  have hrun : (execOp a.eval o).run P w = .ok (.value (.slice (some ⟨w.heap.size, 0, none⟩) l.toNat c.toNat)) (w.alloc (.cells (madeCells zu.cells (c.toNat * k)) e)) := by
    simp only [execOp, ho, Sem.run_bind, hxv, hyv, hr1, Result.andThen_ok, Sem.run_pure]
  simp only [Oper.wp, hrun, Oper.upon]
  refine hn _ _ _ H' K' (VR.newrsl (rt := ⟨0, true, e, k, _⟩) ?_)
  exact ⟨_, _, rfl, by omega, .inr ⟨w.heap.size, rfl, .inl ⟨rfl, by simp⟩⟩⟩

end
end Go.Abs
