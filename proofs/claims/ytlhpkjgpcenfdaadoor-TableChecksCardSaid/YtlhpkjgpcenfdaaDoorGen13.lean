/-
  Own work. The generated walks, part 13: whether a slice is nil; calls that turn the elements of an owned slice in place.
-/
import Derived.Test.YtlhpkjgpcenfdaaDoorGen12
import Derived.Shelf.SlicesE.Reverse
set_option linter.unusedSimpArgs false
set_option linter.unusedVariables false
set_option linter.unusedSimpArgs false
set_option linter.unusedVariables false
namespace Go.Abs
open Go.RowKit
section
variable {P : Program} {N : Nat} {ops : Array Oper} {env : Env} {h : Hp}
/-- Is a slice nil? Both answers are told; 'yes' only where it is empty. -/
theorem OpsW.nilq {α : Type} {o : Oper} {rest : List Oper} {K : Env → Hp → Prop} {x : Operand} {t ty e : TypeId} {enc : α → List IV} {l : List α} (neg : Bool) {op : BinOp}
    (ho : o.op = .binOp op t x (.const (.slice none 0 0)) ty) (hop : op = if neg then .neq else .eql) (hgu : o.guard = none) (hd : o.dst.all (· < N) = true) (ht : P.underlying t = some (.slice e)) (hx : rdo env x = slA enc l)
    (hw : ∀ b : Bool, (b = true → l = []) → OpsW P N ops rest (setd env o.dst (.bool (cond neg (!b) b))) h K) : OpsW P N ops (o :: rest) env h K := by
  intro X a w ι Q H S hQ
  refine wpList_plain hgu fun K' hK' => ?_
  have hv := S.eval H.globOK x
  rw [hx] at hv
  simp only [VR, VRI] at hv
  obtain ⟨ao, cap, lv, hv, hn, hnone, _⟩ := hv
  have hex : (execOp a.eval o).run P w = .ok (.value (.bool (cond neg (!ao.isNone) ao.isNone))) w := by
    have hund : (underlying t).run P w = .ok (.slice e) w := by simp [run_underlying ht]
    have heq : (Op.equal t (.slice ao l.length cap) (.slice none 0 0)).run P w = .ok ao.isNone w := by
      unfold Op.equal Op.maxDepth Op.equalIn
      cases ao <;> simp [Sem.run_bind, hund]
    have hy : a.eval (.const (.slice none 0 0)) = .slice none 0 0 := rfl
    cases neg <;> simp at hop <;> subst hop <;> simp [execOp, ho, eqGuard, binOp, Sem.run_bind, hv, hy, heq]
  simp only [Oper.wp, hex, Oper.upon]
  refine hK' _ _ (hw ao.isNone (fun hb => ?_) X _ w ι Q H (S.putd hd ?_) hQ)
  · have := (hnone (by simpa using hb)).1
    exact List.length_eq_zero_iff.1 this
  · simp [VR, VRI]

/-- What a call does that turns the elements of a slice in place: `f` of their values; elements of one cell. -/
def Turns (P : Program) (f : FuncId) (φ : List Value → List Value) : Prop :=
  (∀ (a : Option Addr) (c : Nat) (w : World), Calls P f #[.slice a 0 c] w fun e w' => e = .returned (.tuple #[]) ∧ w' = w) ∧
  ∀ (w : World) (g n c : Nat) (arr : Array Value) (t : TypeId), w.heap[g]? = some (.cells arr t (0, 0)) → n ≤ arr.size → n ≤ maxLen → (∀ u ∈ arr.toList.take n, u.oneCell' = true) →
    Calls P f #[.slice (some ⟨g, 0, none⟩) n c] w fun e w' => e = .returned (.tuple #[]) ∧ w'.os = w.os ∧ w'.tape = w.tape ∧ w'.output = w.output ∧ w'.heap.size = w.heap.size ∧
      (∀ β, β ≠ g → w'.heap[β]? = w.heap[β]?) ∧ w'.heap[g]? = some (.cells (φ (arr.toList.take n) ++ arr.toList.drop n).toArray t (0, 0))

abbrev OC := { v : Value // v.oneCell' = true }
instance : Inhabited OC := ⟨⟨.int .i64 0, rfl⟩⟩
theorem oc_list : ∀ (l : List Value), (∀ u ∈ l, u.oneCell' = true) → ∃ zs : List OC, zs.map Subtype.val = l
  | [], _ => ⟨[], rfl⟩
  | u :: l, h => by
    obtain ⟨zs, hz⟩ := oc_list l fun v hv => h v (List.mem_cons_of_mem _ hv)
    exact ⟨⟨u, h u (List.mem_cons_self ..)⟩ :: zs, by rw [List.map_cons, hz]⟩

theorem putRow_size {α : Type} [Inhabited α] (enc : α → Value) (w : World) (k g : Nat) (d : Array α) : (Sort.putRow enc (Sort.ahead w k) g 0 d).heap.size = w.heap.size := by
  simp [Sort.putRow, Sort.mapBlock, Sort.ahead]
theorem putRow_other {α : Type} [Inhabited α] (enc : α → Value) (w : World) (k g : Nat) (d : Array α) (β : Nat) (hne : β ≠ g) : (Sort.putRow enc (Sort.ahead w k) g 0 d).heap[β]? = w.heap[β]? := by
  simp only [Sort.putRow, Sort.mapBlock, Sort.ahead]
  rw [Array.getElem?_modify]
  simp [Ne.symm hne]
theorem putRow_same {w : World} (k : Nat) {g n : Nat} {arr : Array Value} {t : TypeId} {zs : List OC} (hg : w.heap[g]? = some (.cells arr t (0, 0))) (hn : n ≤ arr.size) (hz : zs.map Subtype.val = arr.toList.take n) (hzl : zs.length = n) :
    (Sort.putRow (Subtype.val : OC → Value) (Sort.ahead w k) g 0 zs.reverse.toArray).heap[g]? = some (.cells ((arr.toList.take n).reverse ++ arr.toList.drop n).toArray t (0, 0)) := by
  simp only [Sort.putRow, Sort.mapBlock, Sort.ahead]
  rw [Array.getElem?_modify]
  simp only [hg, if_true, Option.map_some]
  show some (Obj.cells (Sort.putCells Subtype.val 0 zs.reverse.toArray arr) t (0, 0)) = _
  congr 2
  apply Array.toList_inj.1
  apply List.ext_getElem?
  intro i
  rw [← hz, ← List.map_reverse]
  simp only [Sort.putCells, Array.toList_mapIdx, List.getElem?_mapIdx, Array.getElem?_toList, Nat.zero_le, true_and, Nat.zero_add, Nat.sub_zero, List.size_toArray, List.length_reverse, hzl]
  by_cases hi : i < n
  · rw [List.getElem?_append_left (by simp; omega), List.getElem?_map, Array.getElem?_eq_getElem (by omega)]
    simp only [Option.map_some, if_pos hi]
    have : i < zs.reverse.length := by simp; omega
    rw [List.getElem?_eq_getElem this]
    simp only [Option.map_some]
    rw [getElem!_pos zs.reverse.toArray i (by simpa using this)]
    simp
  · rw [List.getElem?_append_right (by simp; omega)]
    simp only [if_neg hi, List.length_map, List.length_reverse, hzl, List.getElem?_drop, Array.getElem?_toList]
    rw [show n + (i - n) = i from by omega]
    cases arr[i]? <;> rfl
open Go.Shelf Go.Lib Go.Sort Go.Proofs in
theorem turns_reverse {ρ : Ren} (L : SlLaysE.n35 P ρ) : Turns P (ρ.f 35) List.reverse := by
  refine ⟨fun a c w => AnyE.slices_Reverse_empty L a c w, fun w g n c arr t hg hn hm h1 => ?_⟩
  obtain ⟨zs, hz⟩ := oc_list _ h1
  have hzl : zs.length = n := by
    have := congrArg List.length hz
    simp only [List.length_map, List.length_take, Array.length_toList] at this
    omega
  have hH : Holds (Subtype.val : OC → Value) w g 0 zs.toArray := by
    intro j hj
    simp only [List.size_toArray] at hj
    have hc : arr[j]? = some (zs.toArray[j]!).val := by
      have h2 := congrArg (fun l => l[j]?) hz
      simp only [List.getElem?_map, List.getElem?_take, if_pos (show j < n by omega), List.getElem?_eq_getElem hj, Option.map_some] at h2
      rw [getElem!_pos zs.toArray j (by simpa using hj)]
      simpa using h2.symm
    refine ⟨?_, ?_⟩
    · simp only [World.cell?, hg, Nat.zero_add]
      exact hc
    · simp [World.frozen?, hg]
  have key := AnyE.slices_Reverse L (Subtype.val : OC → Value) (fun x => x.2) g 0 c zs w hH (by rw [hzl]; unfold maxLen at hm; omega)
  rw [hzl] at key
  refine key.mono ?_
  rintro e w' ⟨rfl, k, rfl⟩
  refine ⟨rfl, rfl, rfl, rfl, ?_, ?_, ?_⟩
  · exact putRow_size _ _ _ _ _
  · intro β hne
    exact putRow_other _ _ _ _ _ _ hne
  · exact putRow_same _ hg hn hz hzl

theorem fm_reverse {α : Type} {enc : α → List IV} (hk : ∀ a, (enc a).length = 1) : ∀ l : List α, l.reverse.flatMap enc = (l.flatMap enc).reverse
  | [] => rfl
  | a :: l => by
    have h1 : (enc a).reverse = enc a := by
      match henc : enc a, hk a with
      | [x], _ => rfl
    rw [List.reverse_cons, List.flatMap_append, fm_reverse hk l, List.flatMap_cons, List.flatMap_nil, List.append_nil, List.flatMap_cons, List.reverse_append, h1]
theorem VRL.reverse {w : World} {h : Hp} {ι : Nat → Bk} {A : Nat → Prop} : ∀ {cs : List AV} {l : List Value}, VRL w h ι A cs l → VRL w h ι A cs.reverse l.reverse
  | [], l, hv => by simp only [VRL] at hv; subst hv; simp [VRL]
  | c :: cs, l, hv => by
    simp only [VRL] at hv
    obtain ⟨v, l', rfl, hv, hr⟩ := hv
    rw [List.reverse_cons, List.reverse_cons]
    exact (VRL.reverse hr).append (by simp only [VRL]; exact ⟨v, [], rfl, hv, rfl⟩)
/-- A call that turns an owned slice in place. -/
theorem OpsW.reverse {α : Type} {o : Oper} {f : FuncId} {x : Operand} {ts : Array TypeId} {rest : List Oper} {K : Env → Hp → Prop} (ho : o.op = .call ⟨.value (.func f), [x].toArray, ts⟩) (hgu : o.guard = none) (hd : o.dst.all (· < N) = true) (hc : callable P f = true)
    (hT : Turns P f List.reverse) {r ver e : Nat} {enc : α → List IV} {l : List α} (hx : rdo env x = .rsl r ver 0 l.length) (hrt : h.at r = some (rtA ver e 1 enc l)) (hk : ∀ a, (enc a).length = 1)
    (hw : OpsW P N ops rest (setd env o.dst .any) ((r, rtA ver e 1 enc l.reverse) :: h) K) : OpsW P N ops (o :: rest) env h K := by
  refine OpsW.root hgu hd r _ .any ?_ hw
  intro X a w ι Q next H hop hnx
  have hxv := hop x
  rw [hx] at hxv
  obtain ⟨rt, hrt', _, _, ao, c, hv, hnc, hcase⟩ := VR.rsl_now (k := 1) hxv (by simp [hrt])
  rw [hrt] at hrt'
  cases hrt'
  have hlen : (l.flatMap enc).length = l.length := by
    have := fm_length enc 1 hk l
    omega
  have hroot := H.roots r _ hrt rfl
  refine wp_call ho hc ?_
  simp only [List.map_cons, List.map_nil, hv]
  have fin : ∀ w' : World, w'.os = w.os → w'.tape = w.tape → w'.output = w.output → w'.heap.size = w.heap.size → (∀ β, (ι r).blk ≠ some β → w'.heap[β]? = w.heap[β]?) →
      (Keep w h ι (Own X.B h ι) w' ((r, rtA ver e 1 enc l.reverse) :: h) (upd ι r (ι r)) (Own X.B ((r, rtA ver e 1 enc l.reverse) :: h) (upd ι r (ι r))) →
        RootOK w' ((r, rtA ver e 1 enc l.reverse) :: h) (upd ι r (ι r)) (Own X.B ((r, rtA ver e 1 enc l.reverse) :: h) (upd ι r (ι r))) (ι r) (rtA ver e 1 enc l.reverse)) →
      ∀ v, next (a.put o.dst v) w' := by
    intro w' h1 h2 h3 h4 h5 h6 v
    obtain ⟨Hn, Kn⟩ := H.upd r (rtA ver e 1 enc l.reverse) (ι r) w' h1 h2 h3 (by omega) (fun β _ hne => h5 β (hne _ hrt rfl)) (fun rt2 h2 => by rw [hrt] at h2; cases h2; exact .inr ⟨rfl, rfl, rfl⟩) (fun _ g' hg' => .inr ⟨_, hrt, rfl, hg'⟩) (fun _ Kp => h6 Kp)
    exact hnx (ι r) w' v Hn Kn (by simp [VR])
  by_cases h0 : l.length = 0
  · obtain rfl := List.length_eq_zero_iff.1 h0
    refine (hT.1 ao c w).mono ?_
    rintro e' w' ⟨rfl, rfl⟩
    refine ⟨_, rfl, fin _ rfl rfl rfl rfl (fun _ _ => rfl) (fun Kp => ?_) _⟩
    rcases hroot with ⟨a1, a2, a3⟩ | ⟨g, arr, a1, a2, a3, a4, a5⟩
    · exact .inl ⟨a1, rfl, a3⟩
    · exact .inr ⟨g, arr, a1, a2, a3, a4, by simp [VRL], by simp⟩
  · obtain ⟨g, hg, rfl, hoff⟩ : ∃ g, (ι r).blk = some g ∧ ao = some ⟨g, 0, none⟩ ∧ c ≤ (ι r).cap := by
      rcases hcase with ⟨_, _, hz, _⟩ | ⟨g, hg, ⟨rfl, hoff⟩ | ⟨hz, _⟩⟩
      · omega
      · exact ⟨g, hg, rfl, by omega⟩
      · omega
    obtain ⟨arr, b1, b2, b3, b4, b5⟩ := hroot.row hg
    have hcl : ((l.flatMap enc).map AV.im).length = l.length := by rw [List.length_map, hlen]
    simp only at b2
    rw [hcl] at b4 b5
    refine (hT.2 w g l.length c arr e b1 (by omega) (by omega) b5).mono ?_
    rintro e' w' ⟨rfl, c1, c2, c3, c4, c5, c6⟩
    refine ⟨_, rfl, fin _ c1 c2 c3 c4 (fun β hne => c5 β fun ee => hne (by rw [ee]; exact hg)) (fun Kp => ?_) _⟩
    have hrl : ((l.reverse.flatMap enc).map AV.im).length = l.length := by rw [List.length_map, fm_reverse hk, List.length_reverse, hlen]
    have htl : (arr.toList.take l.length).reverse.length = l.length := by simp; omega
    have htk : ((arr.toList.take l.length).reverse ++ arr.toList.drop l.length).toArray.toList.take l.length = (arr.toList.take l.length).reverse := by
      rw [List.take_append_of_le_length (by omega), List.take_of_length_le (by omega)]
    refine .inr ⟨g, _, hg, c6, ?_, b3, ?_, ?_⟩
    · simp only [List.size_toArray, List.length_append, List.length_reverse, List.length_take, List.length_drop, Array.length_toList]
      omega
    · rw [hrl, htk]
      have hcs : (rtA ver e 1 enc l.reverse).cs = ((l.flatMap enc).map AV.im).reverse := by
        show ((l.reverse.flatMap enc).map AV.im) = _
        rw [fm_reverse hk, List.map_reverse]
      rw [hcs]
      exact (VRL.keep Kp _ _ b4).reverse
    · rw [hrl, htk]
      intro u hu
      exact b5 u (List.mem_reverse.1 hu)
end
end Go.Abs
