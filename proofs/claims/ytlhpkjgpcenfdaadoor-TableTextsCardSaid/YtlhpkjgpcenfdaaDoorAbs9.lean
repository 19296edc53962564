/-
  Own work. The abstract layer, part 9: append, store, make; nil slices as roots; roots given up.
-/
import Derived.Test.YtlhpkjgpcenfdaaDoorAbs8
set_option linter.unusedSimpArgs false
set_option linter.unusedVariables false
set_option linter.unusedSimpArgs false
set_option linter.unusedVariables false
namespace Go.Abs
open Go.RowKit

section
variable {P : Program}

theorem run_append_fit (w : World) {t u ty e : TypeId} {i : TypeInfo} (ht : P.underlying t = some (.slice e)) (hu : (∃ e', P.underlying u = some (.slice e')) ∨ P.underlying u = some .string) (hi : P.info? e = some i)
    (g n cap : Nat) (cur : Array Value) (hg : w.heap[g]? = some (.cells cur e (0, 0))) (x : Value) (m : Nat) (l : List Value) (hlen : (Builtin.lenOf x).run P w = .ok m w) (hf : (Builtin.firstCells i.size m x).run P w = .ok l.toArray w)
    (h1 : ∀ v ∈ l, v.oneCell' = true) (hroom : n + m ≤ cap) (hfit : n * i.size + l.length ≤ cur.size) :
    (Builtin.append_ #[t, u] ty #[.slice (some ⟨g, 0, none⟩) n cap, x]).run P w =
      .ok (.slice (some ⟨g, 0, none⟩) (n + m) cap) (w.setRow g (putA cur.toList (n * i.size) l).toArray) := by
  have hst := run_storeCells_at P g (n * i.size) e l 0 cur w hg (by simpa using hfit) h1
  simp only [Nat.add_zero] at hst
  rcases hu with ⟨e', hu⟩ | hu
  · simp [Builtin.append_, run_underlying ht, run_underlying hu, sizeOf, typeInfo, hi, hlen, hroom, hf, addr_add, hst, putA]
  · simp [Builtin.append_, run_underlying ht, run_underlying hu, sizeOf, typeInfo, hi, hlen, hroom, hf, addr_add, hst, putA]

theorem run_append_new (w : World) {t u ty e : TypeId} {i : TypeInfo} {z : Value} (ht : P.underlying t = some (.slice e)) (hu : (∃ e', P.underlying u = some (.slice e')) ∨ P.underlying u = some .string) (hi : P.info? e = some i) (hz : i.zero = some z)
    (ao : Option Addr) (n cap : Nat) (olds : List Value) (hfo : (Builtin.firstCells i.size n (.slice ao n cap)).run P w.drew = .ok olds.toArray w.drew)
    (x : Value) (m : Nat) (l : List Value) (hlen : (Builtin.lenOf x).run P w = .ok m w) (hf : (Builtin.firstCells i.size m x).run P w.drew = .ok l.toArray w.drew)
    (hg : cap < n + m) (h63 : ((n + m : Nat) : Int) ≤ 9223372036854775807) (hfit : Builtin.nextslicecap (n + m) cap * i.bytes ≤ 281474976710656) :
    (Builtin.append_ #[t, u] ty #[.slice ao n cap, x]).run P w =
      .ok (.slice (some ⟨w.heap.size, 0, none⟩) (n + m) (grownCap w (n + m) cap e))
        (w.drew.alloc (.cells (olds ++ l ++ (Builtin.zeroCells z.cells (grownCap w (n + m) cap e - (n + m))).toList).toArray e)) := by
  have hn : ¬ (n + m ≤ cap) := by omega
  have h63' : ¬ (9223372036854775807 < ((n : Int) + (m : Int))) := by omega
  have h48' : ¬ (281474976710656 < Builtin.nextslicecap (n + m) cap * i.bytes) := by omega
  rcases hu with ⟨e', hu⟩ | hu
  · simp [Builtin.append_, run_underlying ht, run_underlying hu, sizeOf, typeInfo, zeroValue, hi, hz, hlen, hn, h63', h48', Question.forced, hf, hfo, newRow, grownCap]
    congr 2
    apply Array.ext'
    simp [List.append_assoc]
  · simp [Builtin.append_, run_underlying ht, run_underlying hu, sizeOf, typeInfo, zeroValue, hi, hz, hlen, hn, h63', h48', Question.forced, hf, hfo, newRow, grownCap]
    congr 2
    apply Array.ext'
    simp [List.append_assoc]

/-- What is appended: `m` elements of `k` cells. -/
def SrcA (P : Program) (h : Hp) (u : TypeId) (k : Nat) (x : AV) (m : Nat) (news : List AV) : Prop :=
  ((∃ e', P.underlying u = some (.slice e')) ∨ P.underlying u = some .string) ∧ ∀ (X : Ctx) (ι : Nat → Bk) (w : World) (v : Value), Hol X h ι w → VR w h ι (Own X.B h ι) x v →
    (∀ w', (Builtin.lenOf v).run P w' = .ok m w') ∧ ∃ l : List Value, VRL w h ι (Own X.B h ι) news l ∧ (∀ u ∈ l, u.oneCell' = true) ∧ l.length = m * k ∧
      ∀ w' : World, w'.heap = w.heap → (Builtin.firstCells k m v).run P w' = .ok l.toArray w'

variable {N : Nat} {ops : Array Oper} {env : Env} {h : Hp}

theorem cell?_heap {w w' : World} (he : w'.heap = w.heap) (a : Addr) : w'.cell? a = w.cell? a := by simp [World.cell?, he]

theorem tk_notint {u : TypeId} (hu : tk P u = 1 ∨ tk P u = 2) : (∃ e', P.underlying u = some (.slice e')) ∨ P.underlying u = some .string := by
  rcases hu with hu | hu
  · exact .inl (tk_slice hu)
  · exact .inr (tk_str hu)

theorem SrcA.im {u : TypeId} {k m : Nat} {ys : List IV} (hu : tk P u = 1) (hl : ys.length = m * k) : SrcA P h u k (.im (.sl ys m)) m (ys.map .im) := by
  refine ⟨tk_notint (.inl hu), fun X ι w v H hv => ?_⟩
  simp only [VR, VRI] at hv
  obtain ⟨ao, cap, l, rfl, hn, hnone, hlie, hls⟩ := hv
  refine ⟨fun w' => by simp [Builtin.lenOf], l, VRL.ofI hls, ?_, by rw [hls.length, hl], ?_⟩
  · intro u hu
    obtain ⟨i, hi⟩ := List.getElem?_of_mem hu
    cases ao with
    | none => have := (hnone rfl).2.2; subst this; simp at hu
    | some a => exact (hlie a rfl i u hi).2.2
  · intro w' hw'
    cases ao with
    | none => have := (hnone rfl).2.2; subst this; simp [Builtin.firstCells]
    | some a => exact run_firstCells_some w' k m a m cap l (by rw [hls.length, hl]) (fun j v hv => by rw [cell?_heap hw']; exact (hlie a rfl j v hv).1)

theorem SrcA.nil {u : TypeId} {k : Nat} (hu : tk P u = 1) : SrcA P h u k (.im (.val (.slice none 0 0))) 0 [] := by
  refine ⟨tk_notint (.inl hu), fun X ι w v H hv => ?_⟩
  rw [VR.val_iff] at hv
  subst hv
  exact ⟨fun w' => by simp [Builtin.lenOf], [], by simp [VRL], by simp, by simp, fun w' _ => by simp [Builtin.firstCells]⟩

theorem SrcA.rsl {u : TypeId} {r ver off k m : Nat} {rt : Rt} (hu : tk P u = 1) (hrt : h.at r = some rt) (hver : rt.ver = ver) (hl : rt.live = true) (hk : rt.k = k) (hfit : off + m * k ≤ rt.cs.length) :
    SrcA P h u k (.rsl r ver off m) m ((rt.cs.drop off).take (m * k)) := by
  refine ⟨tk_notint (.inl hu), fun X ι w v H hv => ?_⟩
  obtain ⟨rt', hrt', _, hk', ao, c, rfl, hnc, hcase⟩ := VR.rsl_now (k := k) hv (by simp [hrt, hver, hk])
  rw [hrt] at hrt'
  cases hrt'
  refine ⟨fun w' => by simp [Builtin.lenOf], ?_⟩
  rcases hcase with ⟨b1, rfl, rfl, rfl, rfl⟩ | ⟨g, hg, ⟨rfl, hcap⟩ | ⟨rfl, rfl⟩⟩
  · exact ⟨[], by simp [VRL], by simp, by simp, fun w' _ => by simp [Builtin.firstCells]⟩
  · obtain ⟨arr, h1, h2, h3, h4, h5⟩ := (H.roots r rt hrt hl).row hg
    have h6 := (h4.drop off).take (m * k)
    have hl6 := h6.length
    have hlen : (((arr.toList.take rt.cs.length).drop off).take (m * k)).length = m * k := by
      rw [hl6]; simp; omega
    refine ⟨_, h6, fun u hu => h5 u (List.mem_of_mem_drop (List.mem_of_mem_take hu)), hlen, fun w' hw' => ?_⟩
    refine run_firstCells_some w' k m _ m c _ hlen (fun j v hv => ?_)
    rw [cell?_heap hw', addr_add, cell_of_row w g (off + j) arr rt.e (0, 0) h1]
    rw [List.getElem?_take] at hv
    split at hv
    · rw [List.getElem?_drop, List.getElem?_take] at hv
      split at hv
      · simpa using hv
      · cases hv
    · cases hv
  · refine ⟨[], by simp [VRL], by simp, by simp, fun w' _ => ?_⟩
    cases ao with
    | none => simp [Builtin.firstCells]
    | some a => simp [Builtin.firstCells, loadCells, loadCellsFrom]

theorem SrcA.str {u : TypeId} {s : ByteArray} (hu : tk P u = 2) : SrcA P h u 1 (.string s) s.size (s.data.toList.map fun b => .int .u8 b.toNat) := by
  refine ⟨tk_notint (.inr hu), fun X ι w v H hv => ?_⟩
  rw [VR.val_iff] at hv
  subst hv
  refine ⟨fun w' => by simp [Builtin.lenOf], s.data.toList.map fun b => .int .u8 b.toNat, ?_, ?_, ?_, fun w' _ => ?_⟩
  · have := VRL.vals (w := w) (h := h) (ι := ι) (A := Own X.B h ι) (s.data.toList.map fun b => Value.int .u8 b.toNat)
    simpa [List.map_map, Function.comp_def] using this
  · intro u hu
    obtain ⟨b, _, rfl⟩ := List.mem_map.1 hu
    rfl
  · simp
  · have hx : (s.extract 0 s.size).data = s.data := by simp
    simp only [Builtin.firstCells, hx, Sem.run_pure]
    congr 1
    apply Array.ext'
    simp

theorem Elem.info {t e : TypeId} {k bytes : Nat} {z : List Value} (E : Elem P t e k bytes z) : ∃ i u, P.info? e = some i ∧ i.size = k ∧ i.bytes = bytes ∧ i.zero = some u ∧ u.cells.toList = z := by
  have h1 := E.size
  have h2 := E.zc
  unfold Abs.zc at h2
  cases hi : P.info? e with
  | none => simp [hi] at h1
  | some i =>
    simp [hi] at h1 h2
    obtain ⟨u, hu, hz⟩ := h2
    exact ⟨i, u, rfl, h1.1, h1.2, hu, hz⟩

theorem append_core {o : Oper} {s x : Operand} {t u e : TypeId} {k bytes : Nat} {z : List Value} (ho : o.op = .call ⟨.builtin .append, #[s, x], #[t, u]⟩)
    {r ver n m : Nat} {rt : Rt} {news : List AV} (E : Elem P t e k bytes z) (hrt : h.at r = some rt) (hver : rt.ver = ver) (hl : rt.live = true) (he : rt.e = e) (hk : rt.k = k) (hn : n * k ≤ rt.cs.length)
    (hsz : (n + m) * bytes ≤ 140737488355328) (hmx : n + m ≤ 140737488355328) (hud : (∃ e', P.underlying u = some (.slice e')) ∨ P.underlying u = some .string)
    {X : Ctx} {a : Act} {w : World} {ι : Nat → Bk} {Q : Exit → Act → World → Prop} {next : Act → World → Prop} (H : Hol X h ι w) (hop : VR w h ι (Own X.B h ι) (.rsl r ver 0 n) (a.eval s))
    (hlen : ∀ w', (Builtin.lenOf (a.eval x)).run P w' = .ok m w') {l : List Value} (hvl : VRL w h ι (Own X.B h ι) news l) (hl1 : ∀ u ∈ l, u.oneCell' = true) (hll : l.length = m * k)
    (hfc : ∀ w' : World, w'.heap = w.heap → (Builtin.firstCells k m (a.eval x)).run P w' = .ok l.toArray w')
    (hnx : ∀ b' w' v, Hol X ((r, ⟨ver + 1, true, e, k, rt.cs.take (n * k) ++ news⟩) :: h) (upd ι r b') w' →
      Keep w h ι (Own X.B h ι) w' ((r, ⟨ver + 1, true, e, k, rt.cs.take (n * k) ++ news⟩) :: h) (upd ι r b') (Own X.B ((r, ⟨ver + 1, true, e, k, rt.cs.take (n * k) ++ news⟩) :: h) (upd ι r b')) →
      VR w' ((r, ⟨ver + 1, true, e, k, rt.cs.take (n * k) ++ news⟩) :: h) (upd ι r b') (Own X.B ((r, ⟨ver + 1, true, e, k, rt.cs.take (n * k) ++ news⟩) :: h) (upd ι r b')) (.rsl r (ver + 1) 0 (n + m)) v → next (a.put o.dst v) w') :
    o.wp P a w next Q := by
  obtain ⟨i, zu, hi, hisz, hiby, hiz, hzu⟩ := E.info
  obtain ⟨rt', hrt', _, _, ao, c, hsv, hnc, hcase⟩ := VR.rsl_now (k := k) hop (by simp [hrt, hver, hk])
  rw [hrt] at hrt'
  cases hrt'
  have hpos := E.pos
  have hexec : ∀ v w', (Builtin.append_ #[t, u] o.type #[.slice ao n c, a.eval x]).run P w = .ok v w' → (execOp a.eval o).run P w = .ok (.value v) w' := by
    intro v w' hr
    simp only [execOp, ho, resolve, invoke, builtin, Sem.run_bind, Sem.run_pure, Result.andThen_ok, List.map_toArray, List.map_cons, List.map_nil, hsv, hr]
  -- the elements that were there
  have hold : ∃ olds : List Value, VRL w h ι (Own X.B h ι) (rt.cs.take (n * k)) olds ∧ (∀ u ∈ olds, u.oneCell' = true) ∧ olds.length = n * k ∧
      ∀ w' : World, w'.heap = w.heap → (Builtin.firstCells k n (.slice ao n c)).run P w' = .ok olds.toArray w' := by
    have := (SrcA.rsl (P := P) (u := t) (h := h) (r := r) (ver := ver) (off := 0) (k := k) (m := n) (by have := sle_some E.sle; simp [tk, this]) hrt hver hl hk (by omega)).2 X ι w _ H hop
    rw [hsv] at this
    obtain ⟨_, olds, h1, h2, h3, h4⟩ := this
    exact ⟨olds, by simpa using h1, h2, h3, h4⟩
  obtain ⟨olds, ho1, ho2, ho3, ho4⟩ := hold
  have hnl : VRL w h ι (Own X.B h ι) (rt.cs.take (n * k) ++ news) (olds ++ l) := ho1.append hvl
  have hnll : (olds ++ l).length = (rt.cs.take (n * k) ++ news).length := hnl.length
  have hn1 : ∀ u ∈ olds ++ l, u.oneCell' = true := fun u hu => by
    rcases List.mem_append.1 hu with hu | hu
    · exact ho2 u hu
    · exact hl1 u hu
  -- where it grows
  have hgrow : c < n + m → o.wp P a w next Q := by
    intro hgt
    have hfit : Builtin.nextslicecap (n + m) c * i.bytes ≤ 281474976710656 := growslice_fits hgt (by rw [hiby]; exact hsz)
    have hr := run_append_new (P := P) w (ty := o.type) (sle_some E.sle) hud hi hiz ao n c olds (by rw [hisz]; exact ho4 _ rfl) (a.eval x) m l (hlen w) (by rw [hisz]; exact hfc _ rfl) hgt (by omega) hfit
    have hcap : grownCap w (n + m) c e ≤ maxLen := grownCap_le_maxLen w _ _ _ (by simp only [maxLen]; omega)
    have hge := grownCap_ge w (n + m) c e
    have hasz : ((olds ++ l ++ (Builtin.zeroCells zu.cells (grownCap w (n + m) c e - (n + m))).toList).toArray).size = grownCap w (n + m) c e * k := by
      have hzs : zu.cells.size = k := by rw [← E.zlen, ← hzu]; simp
      simp only [List.size_toArray, List.length_append, ho3, hll, Array.length_toList, size_zeroCells, hzs]
      rw [← Nat.add_mul, ← Nat.add_mul]
      congr 1
      omega
    have hwd : Below w.heap.size w w.drew := ⟨rfl, rfl, rfl, Nat.le_refl _, fun _ _ => rfl⟩
    have hup := H.upd r ⟨ver + 1, true, e, k, rt.cs.take (n * k) ++ news⟩ ⟨some w.heap.size, grownCap w (n + m) c e⟩ (w.drew.alloc (.cells (olds ++ l ++ (Builtin.zeroCells zu.cells (grownCap w (n + m) c e - (n + m))).toList).toArray e))
      rfl rfl rfl (by simp) (fun β hβ _ => Below.heap_alloc w.drew _ β hβ) (fun rt2 h2 => by rw [hrt] at h2; cases h2; left; simp only; omega) (fun _ g hg => .inl (by simp at hg; omega)) (fun _ Kp => by
        refine .inr ⟨w.heap.size, _, rfl, heap_alloc_new w.drew _, hasz, hcap, ?_, ?_⟩
        · have htk : ((olds ++ l ++ (Builtin.zeroCells zu.cells (grownCap w (n + m) c e - (n + m))).toList).toArray).toList.take (rt.cs.take (n * k) ++ news).length = olds ++ l := by
            rw [← hnll]; exact List.take_left
          rw [htk]
          exact VRL.keep Kp _ _ hnl
        · have htk : ((olds ++ l ++ (Builtin.zeroCells zu.cells (grownCap w (n + m) c e - (n + m))).toList).toArray).toList.take (rt.cs.take (n * k) ++ news).length = olds ++ l := by
            rw [← hnll]; exact List.take_left
          rw [htk]
          exact hn1)
    simp only [Oper.wp, hexec _ _ hr, Oper.upon]
    refine hnx _ _ _ hup.1 hup.2 (VR.newrsl (rt := ⟨ver + 1, true, e, k, _⟩) ?_)
    exact ⟨_, _, rfl, hge, .inr ⟨w.heap.size, rfl, .inl ⟨rfl, by simp⟩⟩⟩
  rcases hcase with ⟨b1, rfl, rfl, rfl, _⟩ | ⟨g, hg, hrest⟩
  · --
    by_cases hm : m = 0
    · subst hm
      have hl0 : l = [] := List.eq_nil_of_length_eq_zero (by simpa using hll)
      have hnews : news = [] := by
        have := hvl.length
        rw [hl0] at this
        exact List.eq_nil_of_length_eq_zero (by simpa using this.symm)
      have hr : (Builtin.append_ #[t, u] o.type #[.slice none 0 0, a.eval x]).run P w = .ok (.slice none 0 0) w := by
        have h2 := hfc w rfl
        have h1 := hlen w
        rw [hl0] at h2
        rcases hud with ⟨e', hud⟩ | hud <;> simp [Builtin.append_, run_underlying (sle_some E.sle), run_underlying hud, sizeOf, typeInfo, hi, hisz, h1, h2]
      have hup := H.upd r ⟨ver + 1, true, e, k, rt.cs.take (0 * k) ++ news⟩ ⟨none, 0⟩ w rfl rfl rfl (Nat.le_refl _) (fun β _ _ => rfl) (fun rt2 h2 => by rw [hrt] at h2; cases h2; left; simp only; omega) (fun _ g hg => by simp at hg) (fun _ Kp => .inl ⟨rfl, by simp [hnews], rfl⟩)
      simp only [Oper.wp, hexec _ _ hr, Oper.upon]
      refine hnx _ _ _ hup.1 hup.2 (VR.newrsl (rt := ⟨ver + 1, true, e, k, _⟩) ?_)
      exact ⟨_, _, rfl, Nat.le_refl _, .inl ⟨rfl, rfl, rfl, rfl, rfl⟩⟩
    · exact hgrow (by omega)
  · obtain ⟨arr, c1, c2, c3, c4, c5⟩ := (H.roots r rt hrt hl).row hg
    by_cases hroom : n + m ≤ c
    · rcases hrest with ⟨rfl, hcap⟩ | ⟨rfl, rfl⟩
      · have hce : c = (ι r).cap := by
          have : c * k = (ι r).cap * k := by omega
          exact Nat.eq_of_mul_eq_mul_right hpos this
        subst hce
        rw [he] at c1
        rw [hk] at c2
        have hfit : n * k + l.length ≤ arr.size := by rw [hll, c2, ← Nat.add_mul]; exact Nat.mul_le_mul_right _ hroom
        have hr := run_append_fit (P := P) w (ty := o.type) (sle_some E.sle) hud hi g n (ι r).cap arr c1 (a.eval x) m l (hlen w) (by rw [hisz]; exact hfc w rfl) hl1 hroom (by rw [hisz]; exact hfit)
        rw [hisz] at hr
        have holds : arr.toList.take (n * k) = olds := by
          have h2 := ho4 w rfl
          have h3 := run_firstCells_some (P := P) w k n ⟨g, 0, none⟩ n (ι r).cap (arr.toList.take (n * k)) (by simp; omega) (fun j v hv => by
            rw [addr_add, Nat.zero_add, cell_of_row w g j arr e (0, 0) c1]
            rw [List.getElem?_take] at hv
            split at hv
            · simpa using hv
            · cases hv)
          rw [h2] at h3
          simp at h3
          exact h3.symm
        have htk : ((Abs.putA arr.toList (n * k) l).toArray).toList.take (rt.cs.take (n * k) ++ news).length = olds ++ l := by
          rw [← hnll]
          simp only [Abs.putA, holds]
          exact List.take_left
        have hup := H.upd r ⟨ver + 1, true, e, k, rt.cs.take (n * k) ++ news⟩ (ι r) (w.setRow g (Abs.putA arr.toList (n * k) l).toArray) rfl rfl rfl (by simp)
          (fun β hβ hne => setRow_other w g β _ (fun ee => hne rt hrt hl (by rw [ee]; exact hg))) (fun rt2 h2 => by rw [hrt] at h2; cases h2; left; simp only; omega) (fun _ g' hg' => .inr ⟨rt, hrt, hl, hg'⟩) (fun _ Kp => by
            refine .inr ⟨g, _, hg, setRow_heap w g arr _ e _ c1, ?_, c3, ?_, ?_⟩
            · simp only [Abs.putA, List.size_toArray, List.length_append, List.length_take, List.length_drop, Array.length_toList]
              omega
            · rw [htk]; exact VRL.keep Kp _ _ hnl
            · rw [htk]; exact hn1)
        simp only [Oper.wp, hexec _ _ hr, Oper.upon]
        refine hnx _ _ _ hup.1 hup.2 (VR.newrsl (rt := ⟨ver + 1, true, e, k, _⟩) ?_)
        exact ⟨_, _, rfl, hroom, .inr ⟨g, hg, .inl ⟨rfl, by simp⟩⟩⟩
      · --
        have hm0 : m = 0 := by omega
        subst hm0
        have hl0 : l = [] := List.eq_nil_of_length_eq_zero (by simpa using hll)
        have hnews : news = [] := by
          have := hvl.length
          rw [hl0] at this
          exact List.eq_nil_of_length_eq_zero (by simpa using this.symm)
        have hr : (Builtin.append_ #[t, u] o.type #[.slice ao 0 0, a.eval x]).run P w = .ok (.slice ao 0 0) w := by
          have h2 := hfc w rfl
          have h1 := hlen w
          rw [hl0] at h2
          rcases hud with ⟨e', hud⟩ | hud <;> cases ao <;> simp [Builtin.append_, run_underlying (sle_some E.sle), run_underlying hud, sizeOf, typeInfo, hi, hisz, h1, h2, storeCells]
        have hup := H.upd r ⟨ver + 1, true, e, k, rt.cs.take (0 * k) ++ news⟩ (ι r) w rfl rfl rfl (Nat.le_refl _)
          (fun β _ _ => rfl) (fun rt2 h2 => by rw [hrt] at h2; cases h2; left; simp only; omega) (fun _ g' hg' => .inr ⟨rt, hrt, hl, hg'⟩) (fun _ Kp => by
            refine .inr ⟨g, arr, hg, by rw [c1, he], by rw [c2, hk], c3, ?_, ?_⟩
            · simp [hnews, VRL]
            · simp [hnews])
        simp only [Oper.wp, hexec _ _ hr, Oper.upon]
        refine hnx _ _ _ hup.1 hup.2 (VR.newrsl (rt := ⟨ver + 1, true, e, k, _⟩) ?_)
        exact ⟨_, _, rfl, Nat.le_refl _, .inr ⟨g, hg, .inr ⟨rfl, rfl⟩⟩⟩
    · exact hgrow (by omega)


theorem OpsW.append {o : Oper} {rest : List Oper} {K : Env → Hp → Prop} {s x : Operand} {t u e : TypeId} {k bytes : Nat} {z : List Value} (ho : o.op = .call ⟨.builtin .append, #[s, x], #[t, u]⟩) (hgu : o.guard = none) (hd : o.dst.all (· < N) = true)
    {r ver n m : Nat} {rt : Rt} {news : List AV} (E : Elem P t e k bytes z) (hs : rdo env s = .rsl r ver 0 n) (hrt : h.at r = some rt) (hver : rt.ver = ver) (hl : rt.live = true) (he : rt.e = e) (hk : rt.k = k) (hn : n * k ≤ rt.cs.length)
    (hx : gd (rdo env x)) (src : SrcA P h u k (st (rdo env x)) m news) (hsz : (n + m) * bytes ≤ 140737488355328) (hmx : n + m ≤ 140737488355328)
    (hw : OpsW P N ops rest (setd env o.dst (.rsl r (ver + 1) 0 (n + m))) ((r, ⟨ver + 1, true, e, k, rt.cs.take (n * k) ++ news⟩) :: h) K) : OpsW P N ops (o :: rest) env h K := by
  refine OpsW.root hgu hd r _ _ ?_ hw
  intro X a w ι Q next H hop hnx
  obtain ⟨hud, hsrc⟩ := src
  obtain ⟨hlen, l, hvl, hl1, hll, hfc⟩ := hsrc X ι w (a.eval x) H ((hop x).st hx)
  exact append_core ho E hrt hver hl he hk hn hsz hmx hud H (hs ▸ hop s) hlen hvl hl1 hll hfc hnx

/-- The elements of a literal slice. -/
theorem build_cells {o : Oper} {t e : TypeId} {len k bytes : Nat} {z : List Value} {ps : List (Nat × Operand)} (ho : o.op = .buildSlice t len ps.toArray) (E : Elem P t e k bytes z) (hlen : len * k ≤ 16777216)
    (hgd : ∀ p ∈ ps, gd (rdo env p.2)) (hok : ∀ p ∈ ps, okC h (st (rdo env p.2))) {cs : List AV} (hf : fillA h (fun i => some (i * k, k)) (zerosA z len) (ps.map fun p => (p.1, st (rdo env p.2))) = some cs)
    (hone : ∀ x ∈ cs, oneA h x) (hcl : cs.length = len * k) {A : Nat → Prop} {a : Act} {w : World} {ι : Nat → Bk} (hop : ∀ x, VR w h ι A (rdo env x) (a.eval x)) :
    ∃ arr : Array Value, VRL w h ι A cs arr.toList ∧ arr.size = len * k ∧ (∀ u ∈ arr.toList, u.oneCell' = true) ∧
      (execOp a.eval o).run P w = .ok (.value (.slice (some ⟨w.heap.size, 0, none⟩) len len)) (w.alloc (.cells arr e)) := by
  obtain ⟨u, hu, hcu⟩ := zc_some (w := w) E.zc
  obtain ⟨i, zu, hi, hisz, hiby, hiz, hzu⟩ := E.info
  have husz : u.cells.size = k := by rw [← E.zlen, ← hcu]; simp
  have hvp := VRP.mk (h := h) (w := w) (ι := ι) (A := A) (η := a.eval) ps hgd (fun p _ => hop p.2)
  have hz0 : VRL w h ι A (zerosA z len) ((Array.range (len * k)).map (u.cells[· % u.cells.size]!)).toList := by
    rw [zeros_eq u.cells k len husz E.pos, hcu]
    exact VRL.vals _
  obtain ⟨arr, h1, h2⟩ := fill_sound (arr := (Array.range (len * k)).map (u.cells[· % u.cells.size]!)) hf hvp (fun p hp => by
    obtain ⟨q, hq, rfl⟩ := List.mem_map.1 hp
    exact hok q hq) hz0
  have hal : arr.size = len * k := by rw [← hcl]; simpa using h2.length
  refine ⟨arr, h2, hal, oneA.sound_list hone h2, ?_⟩
  have hbig : ¬ (len * k > 2 ^ 24) := by omega
  simp only [execOp, ho, Instr.buildSlice, Sem.run_bind, run_underlying (sle_some E.sle), sizeOf, typeInfo, program, Sem.run, hi, Result.andThen_ok, Sem.run_pure, hisz]
  by_cases h0 : len * k = 0
  · have hl0 : len = 0 := by
      rcases Nat.mul_eq_zero.1 h0 with h | h
      · exact h
      · have := E.pos; omega
    subst hl0
    have e0 : Array.range 0 = #[] := rfl
    simp only [Nat.zero_mul, e0, List.map_toArray, List.map_nil] at h1
    simp [e0, h1, newRow, Sem.run_bind]
  · simp [h0, hbig, hu, h1, newRow, Sem.run_bind]

/-- append(s, a, b, ..): the literal slice of the elements, and the append behind it. -/
theorem OpsW.appendL {o1 o2 : Oper} {rest : List Oper} {K : Env → Hp → Prop} {s : Operand} {d1 t e : TypeId} {k bytes m : Nat} {z : List Value} {ps : List (Nat × Operand)} (h1 : o1.op = .buildSlice t m ps.toArray) (hd1 : o1.dst = some d1) (hg1 : o1.guard = none) (hN : d1 < N)
    (h2 : o2.op = .call ⟨.builtin .append, #[s, .tmp d1], #[t, t]⟩) (hg2 : o2.guard = none) (hd2 : o2.dst.all (· < N) = true) (hsd : s ≠ .tmp d1) (E : Elem P t e k bytes z) (hm : m * k ≤ 16777216)
    (hgd : ∀ p ∈ ps, gd (rdo env p.2)) (hok : ∀ p ∈ ps, okC h (st (rdo env p.2))) (cs : List AV) (hf : fillA h (fun i => some (i * k, k)) (zerosA z m) (ps.map fun p => (p.1, st (rdo env p.2))) = some cs)
    (hone : ∀ x ∈ cs, oneA h x) (hcl : cs.length = m * k)
    {r ver n : Nat} {rt : Rt} (hs : rdo env s = .rsl r ver 0 n) (hrt : h.at r = some rt) (hver : rt.ver = ver) (hl : rt.live = true) (he : rt.e = e) (hk : rt.k = k) (hn : n * k ≤ rt.cs.length)
    (hsz : (n + m) * bytes ≤ 140737488355328) (hmx : n + m ≤ 140737488355328)
    (hw : OpsW P N ops rest (setd ((d1, .any) :: env) o2.dst (.rsl r (ver + 1) 0 (n + m))) ((r, ⟨ver + 1, true, e, k, rt.cs.take (n * k) ++ cs⟩) :: h) K) : OpsW P N ops (o1 :: o2 :: rest) env h K := by
  intro X a w ι Q H S hQ
  obtain ⟨arr, ha1, ha2, ha3, hrun⟩ := build_cells (P := P) h1 E hm hgd hok hf hone hcl (fun x => S.eval H.globOK x)
  have hb : Below w.heap.size w (w.alloc (.cells arr e)) := (Below.refl _ _).alloc (Nat.le_refl _) _
  refine wpList_plain hg1 fun K1 hK1 => ?_
  simp only [Oper.wp, hrun, Oper.upon, hd1]
  refine hK1 _ _ (wpList_plain hg2 fun K2 hK2 => ?_)
  have S1 := (S.below hb).put (v := .slice (some ⟨w.heap.size, 0, none⟩) m m) (av := .any) hN (by simp [VR])
  have H1 := H.below hb
  have hev : (a.put (some d1) (.slice (some ⟨w.heap.size, 0, none⟩) m m)).eval (.tmp d1) = .slice (some ⟨w.heap.size, 0, none⟩) m m := by
    have : d1 < a.tmps.size := by rw [S.size]; exact hN
    simp only [Act.eval, Act.put, Array.getD_eq_getD_getElem?, Array.getElem?_setIfInBounds_self_of_lt this, Option.getD_some]
  have hes : (a.put (some d1) (.slice (some ⟨w.heap.size, 0, none⟩) m m)).eval s = a.eval s := Act.eval_put (fun d hd hsx => by
    simp at hd
    subst hd
    exact hsd hsx)
  have hblk : (w.alloc (.cells arr e)).heap[w.heap.size]? = some (.cells arr e (0, 0)) := heap_alloc_new w _
  have hsl : VR (w.alloc (.cells arr e)) h ι (Own X.B h ι) (.rsl r ver 0 n) ((a.put (some d1) (.slice (some ⟨w.heap.size, 0, none⟩) m m)).eval s) := by
    rw [hes, ← hs]
    exact VR.keep (Keep.below hb) _ _ (S.eval H.globOK s)
  refine append_core h2 E hrt hver hl he hk hn hsz hmx (.inl ⟨e, sle_some E.sle⟩) H1 hsl (fun w' => by rw [hev]; simp [Builtin.lenOf]) (VRL.keep (Keep.below hb) _ _ ha1) ha3 (by simpa using ha2) (fun w' hw' => by
    rw [hev]
    refine run_firstCells_some w' k m _ m m arr.toList (by simpa using ha2) (fun j v hv => ?_)
    rw [cell?_heap hw', addr_add, Nat.zero_add, cell_of_row _ w.heap.size j arr e (0, 0) hblk]
    simpa using hv) ?_
  intro b' w' v H' Kp hv
  refine hK2 _ _ (hw X _ w' _ Q H' ?_ hQ)
  have S2 : Slots N ((d1, .any) :: env) _ _ _ (a.put (some d1) (.slice (some ⟨w.heap.size, 0, none⟩) m m)) w' := ⟨S1.size, S1.defers, fun i => VR.keep Kp _ _ (S1.at_ i)⟩
  exact S2.putd (d := o2.dst) hd2 hv

end
end Go.Abs
