/-
  Own work. The generated walks, part 18: what strings.Builder needs: pointers that are compared and turned to raw ones and back, the bytes of a row taken as a string.
-/
import Derived.Lib.Builder
import Derived.Lib.UnsafeStr
import Derived.LaidEqlPtr
import Derived.Laws.Externs
import Derived.Test.YtlhpkjgpcenfdaaDoorGen17
set_option linter.unusedSimpArgs false
set_option linter.unusedVariables false
set_option linter.unusedSimpArgs false
set_option linter.unusedVariables false
namespace Go.Abs
open Go.RowKit
section
variable {P : Program} {N : Nat} {ops : Array Oper} {env : Env} {h : Hp}
/-- A pointer that is nil is asked whether it is nil. -/
theorem Quiet.ptrNil {o : Oper} {x : Operand} {t ty e : TypeId} (ho : o.op = .binOp .eql t x (.const (.pointer none)) ty) (hgu : o.guard = none) (ht : P.underlying t = some (.pointer e)) (hx : rdo env x = .im (.val (.pointer none))) :
    Quiet P ops o env h (.bool true) := by
  have := Quiet.guarded (P := P) (ops := ops) (env := env) (h := h) (o := o) (av := .bool true) (φ := True) (by unfold gpo; rw [hgu]; trivial) (fun _ X a w ι Q H hop next hn => by
    have hv := hop x (by simp [ho, Op.operands])
    rw [hx, VR.val_iff] at hv
    have hund : (underlying t).run P w = .ok (.pointer e) w := by simp [run_underlying ht]
    have heq : (Op.equal t (.pointer none) (.pointer none)).run P w = .ok true w := by
      unfold Op.equal Op.maxDepth Op.equalIn
      simp [Sem.run_bind, hund]
    have hy : a.eval (.const (.pointer none)) = .pointer none := rfl
    have hex : (execOp a.eval o).run P w = .ok (.value (.bool true)) w := by simp [execOp, ho, eqGuard, binOp, Sem.run_bind, hv, hy, heq]
    simp only [Oper.wp, hex, Oper.upon]
    exact hn _ _ (Below.refl _ _) (by simp [VR, VRI]))
  unfold gav at this
  rw [hgu] at this
  exact this
/-- A pointer to a root is asked whether it is nil. -/
theorem Quiet.ptrNot {o : Oper} {x : Operand} {t ty e r ver off : Nat} (ho : o.op = .binOp .eql t x (.const (.pointer none)) ty) (hgu : o.guard = none) (ht : P.underlying t = some (.pointer e)) (hx : rdo env x = .ref r ver off) (hn : (h.at r).map (·.ver) = some ver) :
    Quiet P ops o env h (.bool false) := by
  have := Quiet.guarded (P := P) (ops := ops) (env := env) (h := h) (o := o) (av := .bool false) (φ := True) (by unfold gpo; rw [hgu]; trivial) (fun _ X a w ι Q H hop next hnx => by
    have hv := hop x (by simp [ho, Op.operands])
    rw [hx] at hv
    obtain ⟨rt, g, _, _, _, hp⟩ := VR.ref_now hv hn
    have hund : (underlying t).run P w = .ok (.pointer e) w := by simp [run_underlying ht]
    have heq : (Op.equal t (.pointer (some ⟨g, off, none⟩)) (.pointer none)).run P w = .ok false w := by
      unfold Op.equal Op.maxDepth Op.equalIn
      simp [Sem.run_bind, hund]
    have hy : a.eval (.const (.pointer none)) = .pointer none := rfl
    have hex : (execOp a.eval o).run P w = .ok (.value (.bool false)) w := by simp [execOp, ho, eqGuard, binOp, Sem.run_bind, hp, hy, heq]
    simp only [Oper.wp, hex, Oper.upon]
    exact hnx _ _ (Below.refl _ _) (by simp [VR, VRI]))
  unfold gav at this
  rw [hgu] at this
  exact this
/-- Two pointers to one place are not unequal. -/
theorem Quiet.ptrSame {o : Oper} {x y : Operand} {t ty e r ver off : Nat} (ho : o.op = .binOp .neq t x y ty) (hgu : o.guard = none) (ht : P.underlying t = some (.pointer e)) (hj : (P.info? e).isSome = true) (hx : rdo env x = .ref r ver off) (hy : rdo env y = .ref r ver off) (hn : (h.at r).map (·.ver) = some ver) :
    Quiet P ops o env h (.bool false) := by
  obtain ⟨j, hj⟩ := Option.isSome_iff_exists.1 hj
  have := Quiet.guarded (P := P) (ops := ops) (env := env) (h := h) (o := o) (av := .bool false) (φ := True) (by unfold gpo; rw [hgu]; trivial) (fun _ X a w ι Q H hop next hnx => by
    have hv := hop x (by simp [ho, Op.operands])
    rw [hx] at hv
    obtain ⟨rt, g, _, _, e1, hp⟩ := VR.ref_now hv hn
    have hv2 := hop y (by simp [ho, Op.operands])
    rw [hy] at hv2
    obtain ⟨rt2, g2, _, _, e2, hp2⟩ := VR.ref_now hv2 hn
    rw [e1] at e2
    cases e2
    have hex : (execOp a.eval o).run P w = .ok (.value (.bool false)) w := by
      have := Lib.run_neq_ptr_same (P := P) (w := w) ⟨g, off, none⟩ ht hj
      simp [execOp, ho, eqGuard, Sem.run_bind, hp, hp2, this]
    simp only [Oper.wp, hex, Oper.upon]
    exact hnx _ _ (Below.refl _ _) (by simp [VR, VRI]))
  unfold gav at this
  rw [hgu] at this
  exact this
/-- A pointer to a variable of its own is turned to an raw one. -/
theorem Quiet.toUnsafe {o : Oper} {x : Operand} {t u e r ver : Nat} {rt : Rt} (ho : o.op = .convert t u x) (hgu : o.guard = none) (ht : P.underlying t = some (.pointer e)) (hu : P.underlying u = some .unsafePointer) (hj : ((P.info? e).any fun j => j.size != 0) = true) (hx : rdo env x = .ref r ver 0) (hrt : h.at r = some rt) (hver : rt.ver = ver) (hl : rt.live = true) (hc : 0 < rt.cs.length) :
    Quiet P ops o env h (.ref r ver 0) := by
  obtain ⟨j, hj, hjs⟩ : ∃ j, P.info? e = some j ∧ j.size ≠ 0 := by
    cases hi : P.info? e with
    | none => rw [hi] at hj; simp at hj
    | some j => rw [hi] at hj; exact ⟨j, rfl, by simpa using hj⟩
  have := Quiet.guarded (P := P) (ops := ops) (env := env) (h := h) (o := o) (av := .ref r ver 0) (φ := True) (by unfold gpo; rw [hgu]; trivial) (fun _ X a w ι Q H hop next hnx => by
    have hv := hop x (by simp [ho, Op.operands])
    rw [hx] at hv
    have hv' := hv
    obtain ⟨rt2, g, e0, _, e1, hp⟩ := VR.ref_now hv (by simp [hrt, hver])
    obtain ⟨arr, c1, c2, c3, c4, c5⟩ := (H.roots r rt hrt hl).row e1
    have hal : 0 < arr.size := by
      have := c4.length
      simp at this
      omega
    have hex : (execOp a.eval o).run P w = .ok (.value (.pointer (some ⟨g, 0, none⟩))) w := by
      have := Lib.run_to_unsafe (P := P) (w := w) (e := rt.e) (cells := arr.size) ⟨g, 0, none⟩ ht hu hj hjs (by simp [World.shape?, c1]) (by simpa using hal)
      simp [execOp, ho, Sem.run_bind, hp, this]
    simp only [Oper.wp, hex, Oper.upon]
    refine hnx _ _ (Below.refl _ _) ?_
    rw [← hp]
    exact hv')
  unfold gav at this
  rw [hgu] at this
  exact this
/-- .. and back. -/
theorem liesAt_self {e : TypeId} (count : Nat) (hn : 0 < count) (hc : P.cellsOf e ≠ 0) : liesAt P P.depth e count 0 e 1 = true := by
  have hd : P.depth = (2 * (P.types.size + Made.depth) + 1) + 1 := rfl
  rw [hd]
  simp only [liesAt, Bool.or_eq_true]
  left
  rw [hd]
  have h1 : 1 ≤ count := hn
  simp [rowAt, h1, sameLayout, hc]
theorem Quiet.fromUnsafe {o : Oper} {x : Operand} {t u e r ver : Nat} {rt : Rt} (ho : o.op = .convert u t x) (hgu : o.guard = none) (ht : P.underlying t = some (.pointer e)) (hu : P.underlying u = some .unsafePointer) (hj : (P.info? e).isSome = true) (hx : rdo env x = .ref r ver 0) (hrt : h.at r = some rt) (hver : rt.ver = ver) (hl : rt.live = true) (hc : 0 < rt.cs.length) (he : rt.e = e) (hk : P.cellsOf e = rt.k) (hk0 : 0 < rt.k) : Quiet P ops o env h (.ref r ver 0) := by
  obtain ⟨j, hj⟩ := Option.isSome_iff_exists.1 hj
  have := Quiet.guarded (P := P) (ops := ops) (env := env) (h := h) (o := o) (av := .ref r ver 0) (φ := True) (by unfold gpo; rw [hgu]; trivial) (fun _ X a w ι Q H hop next hnx => by
    have hv := hop x (by simp [ho, Op.operands])
    rw [hx] at hv
    have hv' := hv
    obtain ⟨rt2, g, e0, _, e1, hp⟩ := VR.ref_now hv (by simp [hrt, hver])
    obtain ⟨arr, c1, c2, c3, c4, c5⟩ := (H.roots r rt hrt hl).row e1
    have hal : 0 < (ι r).cap := by
      have := c4.length
      simp at this
      rcases Nat.eq_zero_or_pos (ι r).cap with h0 | h0
      · rw [h0, Nat.zero_mul] at c2; omega
      · exact h0
    have hex : (execOp a.eval o).run P w = .ok (.value (.pointer (some ⟨g, 0, none⟩))) w := by
      have := Lib.run_from_unsafe (P := P) (w := w) (e := rt.e) (cells := arr.size) ⟨g, 0, none⟩ hu ht hj (by simp [World.shape?, c1]) (by rw [c2, he, hk, Nat.mul_div_cancel _ hk0]; exact liesAt_self _ hal (by omega))
      simp [execOp, ho, Sem.run_bind, hp, this]
    simp only [Oper.wp, hex, Oper.upon]
    refine hnx _ _ (Below.refl _ _) ?_
    rw [← hp]
    exact hv')
  unfold gav at this
  rw [hgu] at this
  exact this
/-- internal/abi.NoEscape. -/
theorem Quiet.noEscape {o : Oper} {f : FuncId} {fn : Func} {x : Operand} {ts : Array TypeId} {av : AV} (ho : o.op = .call ⟨.value (.func f), #[x], ts⟩) (hgu : o.guard = none) (hf : P.funcs[f]? = some fn) (hname : (fn.name == "runtime.NumGoroutine") = false)
    (hb : fn.body.isNone = true) (hn : Extern.findNext fn = none) (he : Extern.find fn = some Extern.AbiNoEscape.same) (hx : rdo env x = av) : Quiet P ops o env h av := by
  have := Quiet.guarded (P := P) (ops := ops) (env := env) (h := h) (o := o) (av := av) (φ := True) (by unfold gpo; rw [hgu]; trivial) (fun _ X a w ι Q H hop next hnx => by
    have hv := hop x (by simp [ho, Op.operands, Call.operands])
    rw [hx] at hv
    have hex : (execOp a.eval o).run P w = .ok (.value (a.eval x)) w := by
      have hy : a.eval (.func f) = .func (.func f) #[] #[] := rfl
      simp only [execOp, ho, resolve, hy, Sem.run_bind]
      have hof : Deferred.ofValue (.func (.func f) #[] #[]) (#[x].map a.eval) = Pure.pure ({ target := .fn (.func f) #[], args := #[] ++ #[x].map a.eval } : Deferred) := rfl
      have hcf := run_callFunc_extern (P := P) hf hname hb hn he #[a.eval x] w
      rw [Lib.run_noEscape] at hcf
      simp only [Result.andThen] at hcf
      simp only [hof, Sem.run_pure, Result.andThen_ok, invoke, Array.append_empty, Array.empty_append]
      simpa using hcf
    simp only [Oper.wp, hex, Oper.upon]
    exact hnx _ _ (Below.refl _ _) hv)
  unfold gav at this
  rw [hgu] at this
  exact this

/-- The first place of a row. -/
theorem Quiet.sliceData {o : Oper} {x : Operand} {t r ver n : Nat} {rt : Rt} (ho : o.op = .call ⟨.builtin .unsafeSliceData, #[x], #[t]⟩) (hgu : o.guard = none) (hx : rdo env x = .rsl r ver 0 n) (hrt : h.at r = some rt) (hver : rt.ver = ver) (hn : 0 < n) :
    Quiet P ops o env h (.ref r ver 0) := by
  have := Quiet.guarded (P := P) (ops := ops) (env := env) (h := h) (o := o) (av := .ref r ver 0) (φ := True) (by unfold gpo; rw [hgu]; trivial) (fun _ X a w ι Q H hop next hnx => by
    have hv := hop x (by simp [ho, Op.operands, Call.operands])
    rw [hx] at hv
    obtain ⟨rt2, e0, e1, e2, ao, c, hsv, hnc, hcase⟩ := VR.rsl_now (k := rt.k) hv (by simp [hrt, hver])
    rcases hcase with ⟨_, _, h0, _⟩ | ⟨g, hg, ⟨rfl, hcap⟩ | ⟨h0, _⟩⟩
    · omega
    · have hrun := Lib.run_unsafeSliceData_row (P := P) (w := w) #[t] o.type ⟨g, 0, none⟩ n c (by omega)
      have hex : (execOp a.eval o).run P w = .ok (.value (.pointer (some ⟨g, 0, none⟩))) w := by
        simp only [execOp, ho, resolve, invoke, builtin, Sem.run_bind, Sem.run_pure, Result.andThen_ok, List.map_toArray, List.map_cons, List.map_nil, hsv, hrun]
      simp only [Oper.wp, hex, Oper.upon]
      refine hnx _ _ (Below.refl _ _) ?_
      simp only [VR]
      exact ⟨rt, hrt, by omega, fun _ => ⟨g, hg, rfl⟩⟩
    · omega)
  unfold gav at this
  rw [hgu] at this
  exact this
theorem freeze_other (w : World) (g n β : Nat) (hne : β ≠ g) : (w.freeze ⟨g, 0, none⟩ n).heap[β]? = w.heap[β]? := by
  unfold World.freeze
  split
  · rfl
  · simp only [Array.getElem?_modify]
    rw [if_neg (fun e => hne e.symm)]
theorem freeze_size (w : World) (g n : Nat) : (w.freeze ⟨g, 0, none⟩ n).heap.size = w.heap.size := by
  unfold World.freeze
  split
  · rfl
  · simp
theorem freeze_os (w : World) (a : Addr) (n : Nat) : (w.freeze a n).os = w.os ∧ (w.freeze a n).tape = w.tape ∧ (w.freeze a n).output = w.output := by
  unfold World.freeze
  split <;> exact ⟨rfl, rfl, rfl⟩
/-- The bytes of a row of the call's own are taken as a string; the row is written no more. -/
theorem OpsW.unsafeStr {o : Oper} {rest : List Oper} {K : Env → Hp → Prop} {x y : Operand} {pt it e q ver : Nat} {l : List Int} (ho : o.op = .call ⟨.builtin .unsafeString, #[x, y], #[pt, it]⟩) (hgu : o.guard = none) (hd : o.dst.all (· < N) = true)
    (hp : P.underlying pt = some (.pointer e)) (hc : P.cellsOf e = 1) (hx : rdo env x = .ref q ver 0) (hy : rdo env y = .int .i64 l.length) (hrt : h.at q = some (rtA ver e 1 (eI .u8) l)) (h0 : 0 < l.length) (hr : (l.all fun n => decide (0 ≤ n) && decide (n < 256)) = true)
    (hw : OpsW P N ops rest (setd env o.dst (.string (strOf l))) ((q, { rtA ver e 1 (eI .u8) l with live := false }) :: h) K) : OpsW P N ops (o :: rest) env h K := by
  refine OpsW.root hgu hd q _ _ ?_ hw
  intro X a w ι Q next H hop hnx
  have hvx := hop x
  rw [hx] at hvx
  obtain ⟨rt2, g, _, _, e1, hpx⟩ := VR.ref_now hvx (by simp [hrt, rtA])
  have hvy := hop y
  rw [hy, VR.int_iff] at hvy
  obtain ⟨arr, c1, c2, c3, c4, c5⟩ := (H.roots q _ hrt rfl).row e1
  have hlen : ((l.flatMap (eI .u8)).map AV.im).length = l.length := by simp only [List.length_map]; rw [fm_length (eI .u8) 1 (fun _ => rfl)]; omega
  have hcs : (rtA ver e 1 (eI .u8) l).cs = (l.flatMap (eI .u8)).map AV.im := rfl
  rw [hcs] at c4 c5
  let bs : List UInt8 := l.map fun n => UInt8.ofNat n.toNat
  have hbl : bs.length = l.length := by simp [bs]
  have hal : l.length ≤ arr.size := by
    have := c4.length
    rw [hlen] at this
    simp at this
    omega
  have hcell : ∀ j z, bs[j]? = some z → w.cell? ((⟨g, 0, none⟩ : Addr).add j) = some (.int .u8 z.toNat) := by
    intro j z hz
    have hj : j < l.length := by rw [← hbl]; exact (List.getElem?_eq_some_iff.1 hz).1
    have hlj : l[j]? = some l[j] := List.getElem?_eq_getElem hj
    have hzz : z = UInt8.ofNat (l[j]).toNat := by
      simp only [bs, List.getElem?_map, hlj, Option.map_some, Option.some.injEq] at hz
      exact hz.symm
    have hrg := List.all_eq_true.1 hr l[j] (List.getElem_mem hj)
    simp only [Bool.and_eq_true, decide_eq_true_eq] at hrg
    have hcj : ((l.flatMap (eI .u8)).map AV.im)[j]? = some (.im (.val (.int .u8 l[j]))) := by
      have := rt_cell (eI .u8) 1 (fun _ => rfl) l 0 j hj 0 (fun a => .val (.int .u8 a)) (fun _ => rfl) (off := j) (by omega)
      rw [this]
      simp [List.getD_eq_getElem?_getD, hlj]
    obtain ⟨v, hv1, hv2⟩ := c4.get j _ hcj
    simp only [VR, VRI] at hv2
    subst hv2
    rw [List.getElem?_take] at hv1
    split at hv1
    · rw [addr_add, Nat.zero_add, cell_of_row w g j arr _ (0, 0) c1]
      rw [show arr[j]? = some (.int .u8 l[j]) from by simpa using hv1, hzz]
      have : ((UInt8.ofNat (l[j]).toNat).toNat : Int) = l[j] := by
        rw [UInt8.toNat_ofNat']
        omega
      rw [this]
    · cases hv1
  have hrun := Lib.run_unsafeString_row (P := P) (w := w) pt it o.type e hp hc g arr.size (by simp [World.shape?, c1, rtA]) bs (by intro hb; rw [hb] at hbl; simp at hbl; omega) (by omega) (by
    have : (ι q).cap ≤ maxLen := c3
    simp only [rtA] at c2
    unfold maxLen at this
    omega) hcell
  rw [hbl] at hrun
  have hex : (execOp a.eval o).run P w = .ok (.value (.string ⟨bs.toArray⟩)) (w.freeze ⟨g, 0, none⟩ l.length) := by
    simp only [execOp, ho, resolve, invoke, builtin, Sem.run_bind, Sem.run_pure, Result.andThen_ok, List.map_toArray, List.map_cons, List.map_nil, hpx, hvy, hrun]
  obtain ⟨o1, o2, o3⟩ := freeze_os w ⟨g, 0, none⟩ l.length
  have hup := H.upd q { rtA ver e 1 (eI .u8) l with live := false } (ι q) (w.freeze ⟨g, 0, none⟩ l.length) o1 o2 o3 (by rw [freeze_size]; exact Nat.le_refl _)
    (fun β _ hne => freeze_other w g _ β (fun ee => hne _ hrt rfl (by rw [ee]; exact e1))) (fun rt3 h3 => by rw [hrt] at h3; cases h3; right; exact ⟨rfl, rfl, rfl⟩) (fun hl => by cases hl) (fun hl => by cases hl)
  simp only [Oper.wp, hex, Oper.upon]
  refine hnx _ _ _ hup.1 hup.2 ?_
  have : strOf l = ⟨bs.toArray⟩ := by
    refine WideShapes.bytes_inj ?_
    rw [strOf_data]
  rw [this]
  simp [VR, VRI]
end
end Go.Abs
