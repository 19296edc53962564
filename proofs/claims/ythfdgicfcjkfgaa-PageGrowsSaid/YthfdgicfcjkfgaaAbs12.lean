/-
  Own work. The abstract layer, part 12: plain arguments, as the form of claims reads them, are immutable data; from a contract to a call.
-/
import Derived.Test.YthfdgicfcjkfgaaAbs11
import Derived.Deep.Slices
import Derived.OpenShut
set_option linter.unusedSimpArgs false
set_option linter.unusedVariables false
namespace Go.Abs
open Go.RowKit Go.Deep

/-- The cells of a value of plain data: numbers, bools, strings, slices, arrays and structs of these. -/
inductive Shp (P : Program) : TypeId → List IV → Prop
  | int {t : TypeId} {k : IntKind} {n : Int} (ht : P.underlying t = some (.int k)) (hn : (Lit.int k n).wf = true) : Shp P t [.val (.int k n)]
  | bool {t : TypeId} {b : Bool} (ht : P.underlying t = some .bool) : Shp P t [.val (.bool b)]
  | str {t : TypeId} {s : ByteArray} (ht : P.underlying t = some .string) (hs : s.size ≤ maxLen) : Shp P t [.val (.string s)]
  | sl {t e : TypeId} (xss : List (List IV)) (ht : P.underlying t = some (.slice e)) (hx : ∀ xs ∈ xss, Shp P e xs) (hn : xss.length ≤ maxLen) : Shp P t [.sl xss.flatten xss.length]
  | arr {t e : TypeId} {n : Nat} (xss : List (List IV)) (ht : P.underlying t = some (.array n e)) (hx : ∀ xs ∈ xss, Shp P e xs) (hn : xss.length = n) : Shp P t xss.flatten
  | st {t : TypeId} {fs : Array Field} (xss : List (List IV)) (ht : P.underlying t = some (.struct fs)) (hn : xss.length = fs.size) (hx : ∀ (i : Nat) (f : Field) (xs : List IV), fs[i]? = some f → xss[i]? = some xs → Shp P f.type xs) : Shp P t xss.flatten

def seqFields (P : Program) : Nat → List Field → Bool
  | _, [] => true
  | o, f :: fs => f.offset == o && seqFields P (o + P.cellsOf f.type) fs

def plainT (P : Program) : Nat → TypeId → Bool
  | 0, _ => false
  | n + 1, t => match P.underlying t with
    | some (.int _) => P.cellsOf t == 1
    | some .bool => P.cellsOf t == 1
    | some .string => P.cellsOf t == 1
    | some (.slice e) => P.cellsOf t == 1 && decide (0 < P.cellsOf e) && plainT P n e
    | some (.array k e) => P.cellsOf t == k * P.cellsOf e && plainT P n e
    | some (.struct fs) => P.cellsOf t == (fs.toList.map fun f => P.cellsOf f.type).sum && seqFields P 0 fs.toList && fs.toList.all fun f => plainT P n f.type
    | _ => false

theorem VRIL.append {w : World} {A : Nat → Prop} : ∀ {cs ds : List IV} {l m : List Value}, VRIL w A cs l → VRIL w A ds m → VRIL w A (cs ++ ds) (l ++ m)
  | [], ds, l, m, hv, hm => by simp only [VRIL] at hv; subst hv; simpa using hm
  | c :: cs, ds, l, m, hv, hm => by
    simp only [VRIL] at hv
    obtain ⟨v, l', rfl, hv, hr⟩ := hv
    simp only [List.cons_append, VRIL]
    exact ⟨v, l' ++ m, rfl, hv, VRIL.append hr hm⟩

theorem VRIL.flat {w : World} {A : Nat → Prop} {α : Type} (f : α → List IV) (g : α → List Value) : ∀ (l : List α), (∀ a ∈ l, VRIL w A (f a) (g a)) → VRIL w A (l.flatMap f) (l.flatMap g)
  | [], _ => by simp [VRIL]
  | a :: l, h => by
    simp only [List.flatMap_cons]
    exact VRIL.append (h a (by simp)) (VRIL.flat f g l fun b hb => h b (by simp [hb]))

theorem fm_get {α β : Type} (f : α → List β) (k : Nat) : ∀ (l : List α), (∀ a ∈ l, (f a).length = k) → ∀ (i j : Nat), j < k → (l.flatMap f)[i * k + j]? = (l[i]?).bind fun a => (f a)[j]?
  | [], _, i, j, _ => by simp
  | a :: l, hf, i, j, hj => by
    cases i with
    | zero =>
      simp only [List.flatMap_cons, Nat.zero_mul, Nat.zero_add, List.getElem?_cons_zero, Option.bind_some]
      rw [List.getElem?_append_left (by rw [hf a (by simp)]; exact hj)]
    | succ i =>
      simp only [List.flatMap_cons, List.getElem?_cons_succ]
      rw [List.getElem?_append_right (by rw [hf a (by simp), Nat.add_mul]; omega)]
      rw [← fm_get f k l (fun b hb => hf b (by simp [hb])) i j hj]
      congr 1
      rw [hf a (by simp), Nat.add_mul]
      omega
theorem fm_len {α β : Type} (f : α → List β) (k : Nat) (l : List α) (hf : ∀ a ∈ l, (f a).length = k) : (l.flatMap f).length = l.length * k := by
  induction l with
  | nil => simp
  | cons a l ih => simp [List.flatMap_cons, ih fun b hb => hf b (by simp [hb]), hf a (by simp), Nat.add_mul, Nat.add_comm]

theorem chunks {α : Type} (c : Nat) : ∀ (k : Nat) (cs : List α), cs.length = k * c → (List.range k).flatMap (fun i => (cs.drop (i * c)).take c) = cs
  | 0, cs, h => by simp at h; simp [h]
  | k + 1, cs, h => by
    rw [List.range_succ, List.flatMap_append]
    have h1 : (List.range k).flatMap (fun i => (cs.drop (i * c)).take c) = (List.range k).flatMap (fun i => ((cs.take (k * c)).drop (i * c)).take c) := by
      have e : ∀ i ∈ List.range k, (cs.drop (i * c)).take c = ((cs.take (k * c)).drop (i * c)).take c := by
        intro i hi
        have hi : i < k := List.mem_range.1 hi
        rw [List.drop_take, List.take_take]
        congr 1
        have : (i + 1) * c ≤ k * c := Nat.mul_le_mul_right c hi
        rw [Nat.add_mul] at this
        omega
      unfold List.flatMap
      rw [List.map_congr_left e]
    rw [h1, chunks c k (cs.take (k * c)) (by rw [List.length_take, h, Nat.add_mul]; omega)]
    simp only [List.flatMap_cons, List.flatMap_nil, List.append_nil]
    have h2 : (cs.drop (k * c)).take c = cs.drop (k * c) := List.take_of_length_le (by rw [List.length_drop, h, Nat.add_mul]; omega)
    rw [h2]
    exact List.take_append_drop _ _

theorem seq_chunks {α : Type} (P : Program) : ∀ (fs : List Field) (o : Nat) (cs : List α), seqFields P o fs = true → cs.length = o + (fs.map fun f => P.cellsOf f.type).sum →
    fs.flatMap (fun f => (cs.drop f.offset).take (P.cellsOf f.type)) = cs.drop o
  | [], o, cs, _, hl => by simp at hl; simp [hl]
  | f :: fs, o, cs, hs, hl => by
    simp only [seqFields, Bool.and_eq_true, beq_iff_eq] at hs
    simp only [List.map_cons, List.sum_cons] at hl
    simp only [List.flatMap_cons]
    rw [seq_chunks P fs (o + P.cellsOf f.type) cs hs.2 (by omega), hs.1, ← List.drop_drop]
    exact List.take_append_drop _ _

theorem flatMap_range {α β : Type} (l : List α) (f : α → List β) : l.flatMap f = (List.range l.length).flatMap fun i => ((l[i]?).map f).getD [] := by
  induction l with
  | nil => simp
  | cons a l ih =>
    rw [List.length_cons, List.range_succ_eq_map]
    simp only [List.flatMap_cons, List.getElem?_cons_zero, Option.map_some, Option.getD_some, List.flatMap_map, List.getElem?_cons_succ]
    rw [ih]

section
variable {H : Type} {enc : TypeId × Value → H} {P : Program} {w : World} {base : Nat} {spare : Nat → Bool} {held : Bool}

theorem read_plain : ∀ (n : Nat) (t : TypeId) (fuel : Nat) (cs : List Value) (x : DataW H × List MemPlace), plainT P n t = true → DataW.trod enc P w base spare held fuel t cs = some x →
    ∃ xs : List IV, Shp P t xs ∧ VRIL w (fun _ => False) xs cs ∧ (∀ v ∈ cs, v.oneCell' = true) ∧ cs.length = P.cellsOf t := by
  intro n
  induction n with
  | zero => intro t fuel cs x hp; simp [plainT] at hp
  | succ n ih =>
    intro t fuel cs x hp hx
    unfold plainT at hp
    split at hp
    · rename_i k hu
      obtain ⟨m, rfl, _, hwf⟩ := DataW.trod_int hu hx
      exact ⟨[.val (.int k m)], .int hu hwf, by simp [VRIL, VRI], by simp [Value.oneCell'], by simpa using (beq_iff_eq.1 hp).symm⟩
    · rename_i hu
      obtain ⟨b, rfl, _⟩ := DataW.trod_bool hu hx
      exact ⟨[.val (.bool b)], .bool hu, by simp [VRIL, VRI], by simp [Value.oneCell'], by simpa using (beq_iff_eq.1 hp).symm⟩
    · rename_i hu
      obtain ⟨s, rfl, _, hs⟩ := DataW.trod_string hu hx
      exact ⟨[.val (.string s)], .str hu hs, by simp [VRIL, VRI], by simp [Value.oneCell'], by simpa using (beq_iff_eq.1 hp).symm⟩
    · rename_i e hu
      simp only [Bool.and_eq_true, beq_iff_eq, decide_eq_true_eq] at hp
      obtain ⟨⟨hp1, hp2⟩, hp3⟩ := hp
      rcases open_slice hu hx with ⟨rfl, _⟩ | ⟨a, len, cap, m, n', D, Pl, rfl, _, hl, hm, hmm, _, hi⟩
      · refine ⟨[.sl [] 0], .sl [] hu (by simp) (by simp), ?_, by simp [Value.oneCell'], by simp [hp1]⟩
        simp only [VRIL, VRI]
        exact ⟨_, _, rfl, ⟨none, 0, [], rfl, Nat.le_refl _, by simp, fun a ha => by simp at ha, rfl⟩, rfl⟩
      · have hlm : len ≤ m := by rw [hmm]; split <;> omega
        have key : ∀ i, i < len → ∃ (q : List Value × List IV), w.cells? base (a.add (i * P.cellsOf e)) (P.cellsOf e) = some q.1 ∧ Shp P e q.2 ∧ VRIL w (fun _ => False) q.2 q.1 ∧ (∀ v ∈ q.1, v.oneCell' = true) ∧ q.1.length = P.cellsOf e := by
          intro i hil
          obtain ⟨cs', h1, h2⟩ := hi i (by omega)
          obtain ⟨xs, h3, h4, h5, h6⟩ := ih e n' cs' _ hp3 h2
          exact ⟨(cs', xs), h1, h3, h4, h5, h6⟩
        obtain ⟨q, hq⟩ := choose_lt (α := List Value × List IV) key
        refine ⟨[.sl (((List.range len).map fun i => (q i).2).flatten) (((List.range len).map fun i => (q i).2).length)], .sl _ hu ?_ (by simp; omega), ?_, by simp [Value.oneCell'], by simp [hp1]⟩
        · intro xs hxs
          obtain ⟨i, hi, rfl⟩ := List.mem_map.1 hxs
          exact (hq i (List.mem_range.1 hi)).2.1
        · simp only [VRIL, VRI]
          refine ⟨_, _, rfl, ⟨some a, cap, (List.range len).flatMap (fun i => (q i).1), by simp, by simpa using hl, by simp, ?_, ?_⟩, rfl⟩
          · intro a' ha'
            simp at ha'
            subst ha'
            intro j u hu'
            have hlen : ((List.range len).flatMap fun i => (q i).1).length = len * P.cellsOf e := by
              rw [fm_len (fun i => (q i).1) (P.cellsOf e) (List.range len) (fun i hi => (hq i (List.mem_range.1 hi)).2.2.2.2)]; simp
            have hj : j < len * P.cellsOf e := by rw [← hlen]; exact (List.getElem?_eq_some_iff.1 hu').1
            have hdm := Nat.div_add_mod j (P.cellsOf e)
            have hml := Nat.mod_lt j hp2
            have hdl : j / P.cellsOf e < len := Nat.div_lt_of_lt_mul (by rw [Nat.mul_comm]; exact hj)
            have hj2 : j = j / P.cellsOf e * P.cellsOf e + j % P.cellsOf e := by rw [Nat.mul_comm]; exact hdm.symm
            rw [hj2, fm_get (fun i => (q i).1) (P.cellsOf e) (List.range len) (fun i hi => (hq i (List.mem_range.1 hi)).2.2.2.2) _ _ hml] at hu'
            rw [List.getElem?_range hdl] at hu'
            simp only [Option.bind_some] at hu'
            obtain ⟨h1, _, _, h5, h6⟩ := hq _ hdl
            obtain ⟨_, _, hcell⟩ := World.cells?_some h1
            have := hcell (j % P.cellsOf e) hml
            rw [add_add, ← hj2] at this
            exact ⟨this.trans hu', by simp, h5 u (List.mem_of_getElem? hu')⟩
          · rw [← List.flatMap_def]
            exact VRIL.flat _ _ _ fun i hi => (hq i (List.mem_range.1 hi)).2.2.1
    · rename_i k e hu
      simp only [Bool.and_eq_true, beq_iff_eq] at hp
      obtain ⟨xs, m, _, _, hlen, _, hi⟩ := DataW.trod_array hu hx
      rw [hp.1] at hlen
      have key : ∀ i, i < k → ∃ ys : List IV, Shp P e ys ∧ VRIL w (fun _ => False) ys ((cs.drop (i * P.cellsOf e)).take (P.cellsOf e)) ∧ ∀ v ∈ (cs.drop (i * P.cellsOf e)).take (P.cellsOf e), v.oneCell' = true := by
        intro i hik
        have h1 := hi i hik
        rename_i hxl
        cases hxi : xs[i]? with
        | none =>
          exfalso
          rw [hxi] at h1
          have : i < xs.length := by omega
          simp [List.getElem?_eq_getElem this] at hxi
        | some y =>
          rw [hxi] at h1
          obtain ⟨ys, h3, h4, h5, _⟩ := ih e m _ _ hp.2 h1
          exact ⟨ys, h3, h4, h5⟩
      obtain ⟨q, hq⟩ := choose_lt (α := List IV) key
      have hch := chunks (P.cellsOf e) k cs hlen
      refine ⟨((List.range k).map q).flatten, .arr _ hu ?_ (by simp), ?_, ?_, by rw [hlen, hp.1]⟩
      · intro ys hys
        obtain ⟨i, hi, rfl⟩ := List.mem_map.1 hys
        exact (hq i (List.mem_range.1 hi)).1
      · rw [← List.flatMap_def]
        have := VRIL.flat q (fun i => (cs.drop (i * P.cellsOf e)).take (P.cellsOf e)) (List.range k) (w := w) (A := fun _ => False) fun i hi => (hq i (List.mem_range.1 hi)).2.1
        rwa [hch] at this
      · intro v hv
        rw [← hch] at hv
        obtain ⟨i, hi, hv⟩ := List.mem_flatMap.1 hv
        exact (hq i (List.mem_range.1 hi)).2.2 v hv
    · rename_i fs hu
      simp only [Bool.and_eq_true, beq_iff_eq] at hp
      obtain ⟨⟨hp1, hp2⟩, hp3⟩ := hp
      obtain ⟨xs, m, _, _, hlen, hxl, hi⟩ := DataW.trod_struct hu hx
      rw [hp1] at hlen
      have key : ∀ i, i < fs.size → ∃ ys : List IV, ∀ f, fs[i]? = some f → Shp P f.type ys ∧ VRIL w (fun _ => False) ys ((cs.drop f.offset).take (P.cellsOf f.type)) ∧ ∀ v ∈ (cs.drop f.offset).take (P.cellsOf f.type), v.oneCell' = true := by
        intro i hik
        have hf : fs[i]? = some fs[i] := Array.getElem?_eq_getElem hik
        have h1 := hi i _ hf
        have hxi : xs[i]? = some (xs[i]'(by omega)) := List.getElem?_eq_getElem (by omega)
        rw [hxi] at h1
        obtain ⟨ys, h3, h4, h5, _⟩ := ih fs[i].type m _ _ (List.all_eq_true.1 hp3 _ (by simp)) h1
        exact ⟨ys, fun f hf' => by rw [hf] at hf'; cases hf'; exact ⟨h3, h4, h5⟩⟩
      obtain ⟨q, hq⟩ := choose_lt (α := List IV) key
      have hch := seq_chunks P fs.toList 0 cs hp2 (by rw [hlen]; simp)
      simp only [List.drop_zero] at hch
      refine ⟨((List.range fs.size).map q).flatten, .st _ hu (by simp) ?_, ?_, ?_, by rw [hlen, hp1]⟩
      · intro i f ys hf hys
        have hik : i < fs.size := (Array.getElem?_eq_some_iff.1 hf).1
        rw [List.getElem?_map, List.getElem?_range hik] at hys
        simp at hys
        subst hys
        exact (hq i hik f hf).1
      · rw [← List.flatMap_def]
        rw [flatMap_range] at hch
        have := VRIL.flat q (fun i => ((fs.toList[i]?).map (fun f => (cs.drop f.offset).take (P.cellsOf f.type))).getD []) (List.range fs.size) (w := w) (A := fun _ => False) (fun i hi => by
          have hik := List.mem_range.1 hi
          have hf : fs[i]? = some fs[i] := Array.getElem?_eq_getElem hik
          have hf' : fs.toList[i]? = some fs[i] := by simp
          rw [hf']
          exact (hq i hik _ hf).2.1)
        have hch' : (List.range fs.size).flatMap (fun i => ((fs.toList[i]?).map (fun f => (cs.drop f.offset).take (P.cellsOf f.type))).getD []) = cs := by
          have hss : fs.toList.length = fs.size := by simp
          rw [← hss]; exact hch
        rwa [hch'] at this
      · intro v hv
        rw [← hch] at hv
        obtain ⟨f, hf, hv⟩ := List.mem_flatMap.1 hv
        obtain ⟨i, hif⟩ := List.getElem?_of_mem hf
        have hif' : fs[i]? = some f := by simpa using hif
        have hik : i < fs.size := (Array.getElem?_eq_some_iff.1 hif').1
        exact (hq i hik f hif').2.2 v hv
    · cases hp
end

/-- An argument: one cell, or a struct or array by value. -/
def argA (P : Program) (t : TypeId) (xs : List IV) : AV := match lz P t with
  | some (some _) => .agg (xs.map .im)
  | _ => (match xs with | [x] => .im x | _ => .any)

theorem Hol.empty (w : World) (ι : Nat → Bk) : Hol ⟨w, fun _ => False, Own (fun _ => False) [] ι⟩ [] ι w where
  roots r rt hr := by simp [Hp.at] at hr
  inj r r' rt rt' g hr := by simp [Hp.at] at hr
  place r rt g hr := by simp [Hp.at] at hr
  os := rfl
  tape := rfl
  output := rfl
  size := Nat.le_refl _
  frame _ _ _ := rfl
  old β hb := hb.elim

/-- From a contract to the call itself. -/
theorem QSpec.calls {P : Program} {f : FuncId} {args : List AV} {u : Value} {w : World} {vs : List Value} (hs : QSpec P f args (.im (.val u))) (hv : VRL w [] (fun _ => ⟨none, 0⟩) (fun _ => False) args vs) :
    Calls P f vs.toArray w fun e w' => e = .returned u ∧ Below w.heap.size w w' := by
  have hO : Own (fun _ => False) [] (fun _ => (⟨none, 0⟩ : Bk)) = fun _ => False := by funext β; simp [Own, Hp.at]
  refine (hs w (fun _ => ⟨none, 0⟩) (fun _ => False) vs (Hol.empty w _) (by rw [hO]; exact hv)).mono ?_
  rintro e w' ⟨v, r, h', ι', rfl, rfl, H', hvr⟩
  rw [VR.val_iff] at hvr
  subst hvr
  exact ⟨rfl, H'.after⟩

end Go.Abs
