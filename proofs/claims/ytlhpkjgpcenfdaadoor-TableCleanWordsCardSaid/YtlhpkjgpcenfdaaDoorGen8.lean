/-
  Own work. The generated walks, part 8: strings and bytes; arrays; parts of owned slices; copy.
-/
import Derived.Test.YtlhpkjgpcenfdaaDoorGen7
import Derived.Laws.BytesString
import Derived.Laws.IdiomStrings
import Derived.Laws.CopyRow
set_option linter.unusedSimpArgs false
set_option linter.unusedVariables false
set_option linter.unusedSimpArgs false
set_option linter.unusedVariables false
namespace Go.Abs
open Go.RowKit

/-- The string of some bytes. -/
def strOf (l : List Int) : ByteArray := l.foldl (fun r n => r.push (UInt8.ofNat n.toNat)) ByteArray.empty
theorem foldl_push (l : List Int) : ∀ r : ByteArray, l.foldl (fun r n => r.push (UInt8.ofNat n.toNat)) r = ⟨r.data ++ (l.map fun n => UInt8.ofNat n.toNat).toArray⟩ := by
  induction l with
  | nil => intro r; simp
  | cons n l ih => intro r; simp only [List.foldl_cons, ih]; simp [ByteArray.push]
theorem strOf_data (l : List Int) : (strOf l).data.toList = l.map fun n => UInt8.ofNat n.toNat := by
  unfold strOf; rw [foldl_push]
  show (#[] ++ (l.map fun (n : Int) => UInt8.ofNat n.toNat).toArray).toList = _
  simp
theorem strOf_size (l : List Int) : (strOf l).size = l.length := by
  have := congrArg List.length (strOf_data l)
  simpa using this

section
variable {P : Program} {N : Nat} {ops : Array Oper} {env : Env} {h : Hp}

/-- A value that is a slice. -/
def SlV (h : Hp) (x : AV) : Prop := ∀ (X : Ctx) (ι : Nat → Bk) (w : World) (v : Value), Hol X h ι w → VR w h ι (Own X.B h ι) x v → ∃ ao n c, v = .slice ao n c
theorem SlV.im {cs : List IV} {n : Nat} : SlV h (.im (.sl cs n)) := fun X ι w v H hv => by
  simp only [VR, VRI] at hv
  obtain ⟨ao, cap, l, rfl, _⟩ := hv
  exact ⟨ao, n, cap, rfl⟩
theorem SlV.nil : SlV h (.im (.val (.slice none 0 0))) := fun X ι w v H hv => by
  rw [VR.val_iff] at hv
  exact ⟨none, 0, 0, hv⟩
theorem SlV.rsl {r ver off n : Nat} {rt : Rt} (hrt : h.at r = some rt) (hv : rt.ver = ver) : SlV h (.rsl r ver off n) := fun X ι w v H hv' => by
  obtain ⟨rt', _, _, _, ao, c, rfl, _⟩ := VR.rsl_now (k := rt.k) hv' (by simp [hrt, hv])
  exact ⟨ao, n, c, rfl⟩

theorem VRL_ints {w : World} {ι : Nat → Bk} {A : Nat → Prop} {k : IntKind} : ∀ (l : List Int) (vs : List Value), VRL w h ι A ((l.flatMap (eI k)).map .im) vs → vs = l.map (Value.int k)
  | [], vs, hv => by simpa [VRL] using hv
  | n :: l, vs, hv => by
    simp only [List.flatMap_cons, eI, List.cons_append, List.nil_append, List.map_cons, VRL] at hv
    obtain ⟨v, l', rfl, hv, hr⟩ := hv
    rw [VR.val_iff] at hv
    subst hv
    rw [VRL_ints l l' hr]
    rfl

/-- string(bytes). -/
theorem Quiet.toStr {o : Oper} {s d e : TypeId} {x : Operand} (l : List Int) (ho : o.op = .convert s d x) (hs : P.underlying s = some (.slice e)) (he : P.underlying e = some (.int .u8)) (hd : P.underlying d = some .string)
    (hg : gpo ops env o (gd (rdo env x) ∧ SlV h (st (rdo env x)) ∧ SrcA P h s 1 (st (rdo env x)) l.length ((l.flatMap (eI .u8)).map .im))) : Quiet P ops o env h (gav ops env o (.string (strOf l))) :=
  Quiet.guarded hg fun ⟨hgd, hsl, hsrc⟩ X a w ι Q H hop next hn => by
    have hv := (hop x (by simp [ho, Op.operands])).st hgd
    obtain ⟨ao, n, c, hev⟩ := hsl X ι w _ H hv
    obtain ⟨h1, l0, h2, h3, h4, h5⟩ := hsrc.2 X ι w _ H hv
    have hl0 := VRL_ints l l0 h2
    subst hl0
    have hrun : (convert s d (a.eval x)).run P w = .ok (.string (strOf l)) w := by
      have h6 := h5 w rfl
      have h7 := h1 w
      rw [hev] at h6 h7 ⊢
      rw [run_convert_bytes_string w s d e ao n c hs he hd]
      cases ao with
      | none =>
        simp [Builtin.firstCells] at h6
        have : l = [] := by simpa using h6
        subst this
        simp [Conv.bytesToString, strOf]
      | some ad =>
        have hn : n = l.length := by simpa [Builtin.lenOf] using h7
        simp only [Builtin.firstCells, Nat.mul_one] at h6
        rw [hn]
        exact run_bytesToString w ad l.length c l h6
    have hex : (execOp a.eval o).run P w = .ok (.value (.string (strOf l))) w := by
      simp only [execOp, ho, Sem.run_bind, hrun, Result.andThen_ok, Sem.run_pure]
    simp only [Oper.wp, hex, Oper.upon]
    exact hn _ _ (Below.refl _ _) (by simp [VR, VRI])

theorem OpsW.quietU {o : Oper} {rest : List Oper} {K : Env → Hp → Prop} (x : AV) (hgu : o.guard = none) (hd : o.dst.all (· < N) = true) (hq : Quiet P ops o env h (gav ops env o x)) (hr : OpsW P N ops rest (setd env o.dst x) h K) : OpsW P N ops (o :: rest) env h K := by
  have e : gav ops env o x = x := by unfold gav; rw [hgu]
  rw [e] at hq
  exact OpsW.quiet hd hq hr
theorem OpsW.quietG {o : Oper} {rest : List Oper} {K : Env → Hp → Prop} (x : AV) {j t : Nat} {b c : Bool} (hgu : o.guard = some (j, b)) (hj : (ops[j]?).bind (·.dst) = some t) (hc : gcond b (rd env t) = some c) (hd : o.dst.all (· < N) = true) (hq : Quiet P ops o env h (gav ops env o x)) (hr : OpsW P N ops rest (setd env o.dst (.cnd c x)) h K) : OpsW P N ops (o :: rest) env h K := by
  have e : gav ops env o x = .cnd c x := by unfold gav; simp only [hgu, hj, hc]
  rw [e] at hq
  exact OpsW.quiet hd hq hr
theorem QOps.quietU {o : Oper} {rest : List Oper} {K : Env → Prop} (x : AV) (hgu : o.guard = none) (hq : Quiet P ops o env h (gav ops env o x)) (hr : QOps P ops h rest (setd env o.dst x) K) : QOps P ops h (o :: rest) env K := by
  have e : gav ops env o x = x := by unfold gav; rw [hgu]
  rw [e] at hq
  exact ⟨_, hq, hr⟩
theorem QOps.quietG {o : Oper} {rest : List Oper} {K : Env → Prop} (x : AV) {j t : Nat} {b c : Bool} (hgu : o.guard = some (j, b)) (hj : (ops[j]?).bind (·.dst) = some t) (hc : gcond b (rd env t) = some c) (hq : Quiet P ops o env h (gav ops env o x)) (hr : QOps P ops h rest (setd env o.dst (.cnd c x)) K) : QOps P ops h (o :: rest) env K := by
  have e : gav ops env o x = .cnd c x := by unfold gav; simp only [hgu, hj, hc]
  rw [e] at hq
  exact ⟨_, hq, hr⟩
theorem gpoU {o : Oper} {φ : Prop} (hgu : o.guard = none) (h : φ) : gpo ops env o φ := by unfold gpo; rw [hgu]; exact h
theorem gpoG {o : Oper} {φ : Prop} {j t : Nat} {b c : Bool} (hgu : o.guard = some (j, b)) (hj : (ops[j]?).bind (·.dst) = some t) (hc : gcond b (rd env t) = some c) (h : c = true → φ) : gpo ops env o φ := by
  unfold gpo; simp only [hgu, hj, hc]; exact h

/-- []byte(string), only read. -/
theorem Quiet.toBytes {o : Oper} {s d e : TypeId} {x : Operand} (b : ByteArray) (ho : o.op = .convert s d x) (hs : P.underlying s = some .string) (hd : P.underlying d = some (.slice e)) (he : P.underlying e = some (.int .u8))
    (hg : gpo ops env o (gd (rdo env x) ∧ st (rdo env x) = .string b)) : Quiet P ops o env h (gav ops env o (slA (eI .u8) (bytesOf b))) :=
  Quiet.guarded hg fun ⟨hgd, hsl⟩ X a w ι Q H hop next hn => by
    have hv := (hop x (by simp [ho, Op.operands])).st hgd
    rw [hsl, VR.val_iff] at hv
    have hrun := run_bytes_of_string (P := P) w s d e b hs hd he
    have hex : (execOp a.eval o).run P w = .ok (.value (.slice (some ⟨w.heap.size, 0, none⟩) b.size (grownCap w b.size 0 e)))
      (w.drew.alloc (.cells (bytesRow b (grownCap w b.size 0 e)) e ((bytesRow b (grownCap w b.size 0 e)).size, (bytesRow b (grownCap w b.size 0 e)).size + 1))) := by
      simp only [execOp, ho, Sem.run_bind, hv, hrun, Result.andThen_ok, Sem.run_pure]
    simp only [Oper.wp, hex, Oper.upon]
    have hb0 : Below w.heap.size w w.drew := ⟨rfl, rfl, rfl, Nat.le_refl _, fun _ _ => rfl⟩
    have hb : Below w.heap.size w (w.drew.alloc (.cells (bytesRow b (grownCap w b.size 0 e)) e ((bytesRow b (grownCap w b.size 0 e)).size, (bytesRow b (grownCap w b.size 0 e)).size + 1))) := hb0.alloc (Nat.le_refl _) _
    refine hn _ _ hb ?_
    simp only [VR, VRI]
    refine ⟨some ⟨w.heap.size, 0, none⟩, grownCap w b.size 0 e, b.data.toList.map (fun b => Value.int .u8 b.toNat), ?_, ?_, by simp, fun a' ha' => ?_, ?_⟩
    · rw [bytesOf_len]
    · rw [bytesOf_len]; exact grownCap_ge _ _ _ _
    · simp at ha'
      subst ha'
      intro j v hv
      refine ⟨?_, fun ho => by have := H.own_lt ho; simp at this, ?_⟩
      · rw [addr_add, Nat.zero_add, cell_of_row _ w.heap.size j (bytesRow b (grownCap w b.size 0 e)) e _ (heap_alloc_new w.drew _)]
        have hj := (List.getElem?_eq_some_iff.1 hv).1
        simp only [List.length_map, Array.length_toList] at hj
        unfold bytesRow
        rw [Array.getElem?_append_left (by simpa using hj)]
        simpa using hv
      · obtain ⟨c, _, rfl⟩ := List.mem_map.1 (List.mem_of_getElem? hv)
        rfl
    · unfold bytesOf
      generalize b.data.toList = l
      induction l with
      | nil => simp [VRIL]
      | cons c l ih =>
        simp only [List.map_cons, List.flatMap_cons, eI, List.cons_append, List.nil_append, VRIL, VRI]
        exact ⟨_, _, rfl, rfl, ih⟩
end
end Go.Abs
