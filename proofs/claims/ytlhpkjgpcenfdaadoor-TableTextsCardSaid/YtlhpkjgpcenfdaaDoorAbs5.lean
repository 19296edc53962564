/-
  Own work. The abstract layer, part 5: structs and arrays by value; the evaluator over operations; guards; a region whose order is drawn.
-/
import Derived.Test.YtlhpkjgpcenfdaaDoorAbs4
set_option linter.unusedSimpArgs false
set_option linter.unusedVariables false
set_option linter.unusedSimpArgs false
set_option linter.unusedVariables false
namespace Go.Abs
open Go.RowKit

section
variable {P : Program} {w : World} {h : Hp} {ι : Nat → Bk} {A : Nat → Prop}

/-- A value of one cell. -/
def oneA (h : Hp) : AV → Prop
  | .im (.val u) => u.oneCell' = true
  | .im (.sl _ _) => True
  | .ref r ver _ => (h.at r).map (·.ver) = some ver
  | .rsl r ver _ _ => (h.at r).map (·.ver) = some ver
  | _ => False

theorem oneA.sound {x : AV} {v : Value} (ho : oneA h x) (hx : VR w h ι A x v) : v.oneCell' = true := by
  unfold oneA at ho
  split at ho
  · rw [VR.val_iff] at hx; subst hx; exact ho
  · simp only [VR, VRI] at hx
    obtain ⟨ao, cap, l, rfl, _⟩ := hx
    rfl
  · obtain ⟨rt, g, _, _, _, rfl⟩ := VR.ref_now hx ho
    rfl
  · simp only [VR] at hx
    obtain ⟨rt, hrt, _, himp⟩ := hx
    rw [hrt] at ho
    simp at ho
    obtain ⟨ao, c, rfl, _⟩ := himp ho.symm
    rfl
  · exact ho.elim

theorem cells_one {v : Value} (h : v.oneCell' = true) : v.cells = #[v] := by cases v <;> simp_all [Value.oneCell', Value.cells]

theorem oneA.sound_list : ∀ {cs : List AV} {l : List Value}, (∀ x ∈ cs, oneA h x) → VRL w h ι A cs l → ∀ u ∈ l, u.oneCell' = true
  | [], l, _, hl => by simp only [VRL] at hl; subst hl; simp
  | c :: cs, l, ho, hl => by
    simp only [VRL] at hl
    obtain ⟨v, l', rfl, hv, hr⟩ := hl
    intro u hu
    rcases List.mem_cons.1 hu with rfl | hu
    · exact (ho c (by simp)).sound hv
    · exact oneA.sound_list (fun x hx => ho x (by simp [hx])) hr u hu

/-- The cells of a value. -/
def cellsA : AV → List AV
  | .agg cs => cs
  | v => [v]
def okC (h : Hp) : AV → Prop
  | .agg cs => ∀ x ∈ cs, oneA h x
  | v => oneA h v

theorem okC.sound {x : AV} {v : Value} (ho : okC h x) (hx : VR w h ι A x v) : VRL w h ι A (cellsA x) v.cells.toList ∧ ∀ u ∈ v.cells.toList, u.oneCell' = true := by
  cases x with
  | agg cs =>
    simp only [VR] at hx
    obtain ⟨l, rfl, hl⟩ := hx
    simp only [okC] at ho
    exact ⟨by simpa [cellsA, Value.cells] using hl, by simpa [Value.cells] using oneA.sound_list ho hl⟩
  | _ =>
    simp only [okC] at ho
    have h1 := ho.sound hx
    rw [cells_one h1]
    refine ⟨by simp only [cellsA, VRL]; exact ⟨v, [], rfl, hx, rfl⟩, by simpa using h1⟩

/-- Cells `cs` laid over `cells` from `off` on. -/
def putA {α : Type} (cells : List α) (off : Nat) (cs : List α) : List α := cells.take off ++ cs ++ cells.drop (off + cs.length)

theorem VRL.putA {cells cs : List AV} {l m : List Value} (off : Nat) (h1 : VRL w h ι A cells l) (h2 : VRL w h ι A cs m) : VRL w h ι A (Abs.putA cells off cs) (Abs.putA l off m) := by
  unfold Abs.putA
  rw [h2.length]
  exact ((h1.take off).append h2).append (h1.drop _)

theorem foldl_set_eq : ∀ (cs : List Value) (off i : Nat) (cells : Array Value), off + i + cs.length ≤ cells.size →
    (cs.zipIdx i).foldl (fun (acc : Array Value) (p : Value × Nat) => acc.setIfInBounds (off + p.2) p.1) cells = (Abs.putA cells.toList (off + i) cs).toArray
  | [], off, i, cells, _ => by simp [Abs.putA]
  | v :: rest, off, i, cells, hl => by
    simp only [List.zipIdx_cons, List.foldl_cons]
    rw [foldl_set_eq rest off (i + 1) _ (by simp at hl ⊢; omega)]
    unfold Abs.putA
    have e := list_seg_step cells.toList (off + i) v rest (by simp at hl ⊢; omega)
    congr 1
    simpa [Array.toList_setIfInBounds, Nat.add_assoc] using e

def fillA (h : Hp) (place : Nat → Option (Nat × Nat)) : List AV → List (Nat × AV) → Option (List AV)
  | cells, [] => some cells
  | cells, (i, v) :: rest => match place i with
    | none => none
    | some (off, size) => if (cellsA v).length = size ∧ off + (cellsA v).length ≤ cells.length then fillA h place (putA cells off (cellsA v)) rest else none

def VRP (w : World) (h : Hp) (ι : Nat → Bk) (A : Nat → Prop) : List (Nat × AV) → List (Nat × Value) → Prop
  | [], [] => True
  | (i, x) :: r, (j, v) :: s => i = j ∧ VR w h ι A x v ∧ VRP w h ι A r s
  | _, _ => False

theorem fill_sound {place : Nat → Option (Nat × Nat)} : ∀ {parts : List (Nat × AV)} {vs : List (Nat × Value)} {cells cells' : List AV} {arr : Array Value},
    fillA h place cells parts = some cells' → VRP w h ι A parts vs → (∀ p ∈ parts, okC h p.2) → VRL w h ι A cells arr.toList →
    ∃ arr', Instr.fill place arr vs = some arr' ∧ VRL w h ι A cells' arr'.toList
  | [], vs, cells, cells', arr, hf, hp, _, hc => by
    cases vs with
    | nil => simp [fillA] at hf; subst hf; exact ⟨arr, rfl, hc⟩
    | cons v vs => simp [VRP] at hp
  | (i, x) :: r, vs, cells, cells', arr, hf, hp, ho, hc => by
    cases vs with
    | nil => simp [VRP] at hp
    | cons p vs =>
      obtain ⟨j, v⟩ := p
      simp only [VRP] at hp
      obtain ⟨rfl, hx, hr⟩ := hp
      simp only [fillA] at hf
      cases hpl : place i with
      | none => simp [hpl] at hf
      | some q =>
        obtain ⟨off, size⟩ := q
        simp only [hpl] at hf
        split at hf
        · rename_i hcond
          obtain ⟨hs, hfit⟩ := hcond
          obtain ⟨hv1, hv2⟩ := (ho (i, x) (by simp)).sound hx
          have hlen : v.cells.size = (cellsA x).length := by simpa using hv1.length
          have hcl : arr.size = cells.length := by simpa using hc.length
          have e := foldl_set_eq v.cells.toList off 0 arr (by simp; omega)
          obtain ⟨arr', h1, h2⟩ := fill_sound (arr := (Abs.putA arr.toList off v.cells.toList).toArray) hf hr (fun p hp => ho p (by simp [hp])) (by simpa using VRL.putA off hc hv1)
          refine ⟨arr', ?_, h2⟩
          simp only [Instr.fill, hpl]
          rw [if_neg (by simp; omega)]
          rw [← h1]
          congr 1
          rw [← Array.foldl_toList]
          simpa using e
        · cases hf

/-- The zero cells of a type; its fields' places. -/
def zc (P : Program) (t : TypeId) : Option (List Value) := match P.info? t with
  | some i => i.zero.map fun z => z.cells.toList
  | none => none
def fps (P : Program) (t : TypeId) : Option (List (Nat × Nat)) := match P.underlying t with
  | some (.struct fs) => fs.toList.mapM fun f => (P.info? f.type).map fun i => (f.offset, i.size)
  | _ => none
def pvBuild (P : Program) (h : Hp) (t : TypeId) (parts : List (Nat × AV)) : AV := match zc P t, fps P t, alen P t, ez P t with
  | some z, some ps, _, _ => (match fillA h (ps[·]?) (z.map fun v => .im (.val v)) parts with | some cs => .agg cs | none => .any)
  | some z, none, some _, some k => (match fillA h (fun i => some (i * k, k)) (z.map fun v => .im (.val v)) parts with | some cs => .agg cs | none => .any)
  | _, _, _, _ => .any
def poBuild (P : Program) (h : Hp) (t : TypeId) (parts : List (Nat × AV)) : Prop := (∀ p ∈ parts, okC h p.2) ∧ match zc P t, fps P t, alen P t, ez P t with
  | some z, some ps, _, _ => (fillA h (ps[·]?) (z.map fun v => .im (.val v)) parts).isSome = true
  | some z, none, some _, some k => (fillA h (fun i => some (i * k, k)) (z.map fun v => .im (.val v)) parts).isSome = true
  | _, _, _, _ => False

theorem VRL.vals : ∀ (z : List Value), VRL w h ι A (z.map fun v => .im (.val v)) z
  | [] => by simp [VRL]
  | v :: z => by
    simp only [List.map_cons, VRL]
    exact ⟨v, z, rfl, by simp [VR, VRI], VRL.vals z⟩

theorem zc_some {t : TypeId} {z : List Value} (hz : zc P t = some z) : ∃ u, (zeroValue t).run P w = .ok u w ∧ u.cells.toList = z := by
  unfold zc at hz
  cases hi : P.info? t with
  | none => simp [hi] at hz
  | some i =>
    simp only [hi] at hz
    cases hzz : i.zero with
    | none => simp [hzz] at hz
    | some u => simp [hzz] at hz; exact ⟨u, by simp [zeroValue, Sem.run_bind, typeInfo, hi, hzz], hz⟩

theorem run_mapM_places : ∀ (fs : List Field) (ps : List (Nat × Nat)), fs.mapM (fun f => (P.info? f.type).map fun i => (f.offset, i.size)) = some ps →
    (fs.mapM fun f => (do pure (f.offset, ← sizeOf f.type) : Sem (Nat × Nat))).run P w = .ok ps w
  | [], ps, hp => by simp at hp; subst hp; simp
  | f :: fs, ps, hp => by
    simp only [List.mapM_cons, Option.bind_eq_bind] at hp
    cases hi : P.info? f.type with
    | none => simp [hi] at hp
    | some i =>
      simp only [hi, Option.map_some, Option.bind_some] at hp
      cases hr : fs.mapM (fun f => (P.info? f.type).map fun i => (f.offset, i.size)) with
      | none => rw [hr] at hp; simp at hp
      | some qs =>
        rw [hr] at hp
        simp at hp
        subst hp
        have ih := run_mapM_places fs qs hr
        have hh : (do pure (f.offset, ← sizeOf f.type) : Sem (Nat × Nat)).run P w = .ok (f.offset, i.size) w := by simp [sizeOf, typeInfo, hi]
        rw [List.mapM_cons, Sem.run_bind, hh, Result.andThen_ok, Sem.run_bind, ih, Result.andThen_ok, Sem.run_pure]

theorem run_mapM_array (fs : Array Field) (ps : List (Nat × Nat)) (hp : fs.toList.mapM (fun f => (P.info? f.type).map fun i => (f.offset, i.size)) = some ps) :
    (fs.mapM fun f => (do pure (f.offset, ← sizeOf f.type) : Sem (Nat × Nat))).run P w = .ok ps.toArray w := by
  have h1 := run_mapM_places (w := w) fs.toList ps hp
  have h2 : (fs.mapM fun f => (do pure (f.offset, ← sizeOf f.type) : Sem (Nat × Nat))) = Functor.map List.toArray (fs.toList.mapM fun f => (do pure (f.offset, ← sizeOf f.type) : Sem (Nat × Nat))) := by
    rw [Array.mapM_eq_mapM_toList]
  rw [h2]
  simp only [map_eq_pure_bind, Sem.run_bind, h1, Result.andThen_ok, Sem.run_pure]

theorem fps_some {t : TypeId} {ps : List (Nat × Nat)} (hp : fps P t = some ps) : ∃ fs, P.underlying t = some (.struct fs) ∧ fs.toList.mapM (fun f => (P.info? f.type).map fun i => (f.offset, i.size)) = some ps := by
  unfold fps at hp
  split at hp
  · rename_i fs hs; exact ⟨fs, hs, hp⟩
  · cases hp

theorem build_sound {t : TypeId} {parts : List (Nat × AV)} {vs : Array (Nat × Value)} (hp : poBuild P h t parts) (hv : VRP w h ι A parts vs.toList) :
    ∃ r, (Instr.build t vs).run P w = .ok r w ∧ VR w h ι A (pvBuild P h t parts) r := by
  obtain ⟨ho, hp⟩ := hp
  split at hp
  · rename_i z ps hz hps
    obtain ⟨u, hu, hcu⟩ := zc_some (w := w) hz
    obtain ⟨fs, hfs, hm⟩ := fps_some hps
    cases hf : fillA h (ps[·]?) (z.map fun v => .im (.val v)) parts with
    | none => simp [hf] at hp
    | some cs =>
      obtain ⟨arr', h1, h2⟩ := fill_sound (arr := u.cells) hf hv ho (by rw [hcu]; exact VRL.vals z)
      refine ⟨.agg arr', ?_, ?_⟩
      · have hm' := run_mapM_array (w := w) fs ps hm
        simp only [Instr.build, Sem.run_bind, hu, Result.andThen_ok, run_underlying hfs, Sem.run_pure] at hm' ⊢
        rw [hm']
        simp [h1]
      · simp only [pvBuild, hz, hps, hf, VR]
        exact ⟨arr'.toList, by simp, h2⟩
  · rename_i z n k hz hps hal hez
    obtain ⟨u, hu, hcu⟩ := zc_some (w := w) hz
    obtain ⟨e, inf, hue, hinf, hsz⟩ := ez_array hal hez
    cases hf : fillA h (fun i => some (i * k, k)) (z.map fun v => .im (.val v)) parts with
    | none => simp [hf] at hp
    | some cs =>
      obtain ⟨arr', h1, h2⟩ := fill_sound (arr := u.cells) hf hv ho (by rw [hcu]; exact VRL.vals z)
      refine ⟨.agg arr', ?_, ?_⟩
      · simp [Instr.build, Sem.run_bind, hu, run_underlying hue, sizeOf, typeInfo, hinf, hsz, h1]
      · simp only [pvBuild, hz, hps, hal, hez, hf, VR]
        exact ⟨arr'.toList, by simp, h2⟩
  · exact hp.elim

/-- A part of a struct or an array by value. -/
def pvPart (cs : List AV) (off : Nat) (s : Option (Option Nat)) : AV := match s with
  | some none => (match cs[off]? with | some c => c | none => .any)
  | some (some n) => .agg ((cs.drop off).take n)
  | none => .any
def poPart (cs : List AV) (off : Nat) (s : Option (Option Nat)) : Prop := match s with
  | some none => off < cs.length
  | some (some n) => off + n ≤ cs.length
  | none => False

theorem part_sound {t : TypeId} {cs : List AV} {off : Nat} {l : List Value} (hp : poPart cs off (lz P t)) (hl : VRL w h ι A cs l) : ∃ r, (part t l.toArray off).run P w = .ok r w ∧ VR w h ι A (pvPart cs off (lz P t)) r := by
  unfold poPart at hp
  split at hp
  · rename_i hs
    have hc : cs[off]? = some (cs[off]'hp) := List.getElem?_eq_getElem hp
    obtain ⟨v, hv, hvr⟩ := hl.get off _ hc
    exact ⟨v, by simp [part, Sem.run_bind, lz_none (w := w) hs, hv], by simp only [pvPart, hs, hc]; exact hvr⟩
  · rename_i n hs
    obtain ⟨h1, h2⟩ := lz_some (w := w) hs
    have hlen := hl.length
    refine ⟨.agg ((l.drop off).take n).toArray, ?_, ?_⟩
    · simp [part, Sem.run_bind, h1, h2, List.extract_eq_take_drop]
    · simp only [pvPart, hs, VR]
      exact ⟨_, rfl, (hl.drop off).take n⟩
  · exact hp.elim

def fl (P : Program) (t : TypeId) (f : Nat) : Option (Nat × TypeId) := match P.underlying t with
  | some (.struct fs) => (fs[f]?).map fun fd => (fd.offset, fd.type)
  | _ => none
def pvFld (P : Program) (t : TypeId) (x : AV) (f : Nat) : AV := match x, fl P t f with
  | .agg cs, some (off, ty) => pvPart cs off (lz P ty)
  | _, _ => .any
def poFld (P : Program) (t : TypeId) (x : AV) (f : Nat) : Prop := match x, fl P t f with
  | .agg cs, some (off, ty) => poPart cs off (lz P ty)
  | _, _ => False

theorem fld_sound {t : TypeId} {x : AV} {f : Nat} {u : Value} (hp : poFld P t x f) (hx : VR w h ι A x u) : ∃ r, (Instr.field t u f).run P w = .ok r w ∧ VR w h ι A (pvFld P t x f) r := by
  unfold poFld at hp
  split at hp
  · rename_i cs off ty hf
    simp only [VR] at hx
    obtain ⟨l, rfl, hl⟩ := hx
    obtain ⟨r, hr, hvr⟩ := part_sound (P := P) hp hl
    unfold fl at hf
    split at hf
    · rename_i fs hs
      cases hfd : fs[f]? with
      | none => simp [hfd] at hf
      | some fd =>
        simp [hfd] at hf
        obtain ⟨rfl, rfl⟩ := hf
        refine ⟨r, by simp [Instr.field, Sem.run_bind, run_underlying hs, hfd, asAgg, hr], ?_⟩
        simp only [pvFld, fl, hs, hfd, Option.map_some]
        exact hvr
    · cases hf
  · exact hp.elim

/-- The type of the elements of an array. -/
def aty (P : Program) (t : TypeId) : Option TypeId := match P.underlying t with
  | some (.array _ e) => some e
  | _ => none
def pvIndex (P : Program) (t : TypeId) (x i : AV) : AV := match x, i with
  | .agg cs, .im (.val (.int _ j)) => (match ez P t, aty P t with | some k, some e => pvPart cs (j.toNat * k) (lz P e) | _, _ => .any)
  | x, i => pvStr x i
def poIndex (P : Program) (t : TypeId) (x i : AV) : Prop := match x, i with
  | .agg cs, .im (.val (.int _ j)) => (match ez P t, aty P t, alen P t with | some k, some e, some n => 0 ≤ j ∧ j < n ∧ poPart cs (j.toNat * k) (lz P e) | _, _, _ => False)
  | x, i => poStr P t x i

theorem index_sound {t : TypeId} {x i : AV} {u v : Value} (hp : poIndex P t x i) (hx : VR w h ι A x u) (hi : VR w h ι A i v) : ∃ r, (Instr.index t u v).run P w = .ok r w ∧ VR w h ι A (pvIndex P t x i) r := by
  unfold poIndex at hp
  split at hp
  · rename_i cs k0 j
    split at hp
    · rename_i k e n hez hat hal
      obtain ⟨h0, h1, hp⟩ := hp
      simp only [VR] at hx
      obtain ⟨l, rfl, hl⟩ := hx
      rw [VR.int_iff] at hi; subst hi
      obtain ⟨e', inf, hu, hinf, hsz⟩ := ez_array hal hez
      have he : e' = e := by unfold aty at hat; simp [hu] at hat; exact hat
      subst he
      obtain ⟨r, hr, hvr⟩ := part_sound (P := P) hp hl
      refine ⟨r, ?_, by simp only [pvIndex, hez, hat]; exact hvr⟩
      simp [Instr.index, Sem.run_bind, asIntOf, run_underlying hu, h0, h1, sizeOf, typeInfo, hinf, hsz, hr]
    · exact hp.elim
  · rename_i x i hne
    obtain ⟨r, hr, hvr⟩ := str_sound (P := P) hp hx hi
    refine ⟨r, hr, ?_⟩
    unfold pvIndex
    split
    · simp [poStr] at hp
    · exact hvr

/-- The evaluator: operations that only compute or read. -/
def pv (P : Program) (h : Hp) (ρ : Operand → AV) : Op → AV
  | .move x => st (ρ x)
  | .assign x => st (ρ x)
  | .pick c a b => pvPick (st (ρ c)) (ρ a) (ρ b)
  | .binOp op _ x y _ => pvBin op (st (ρ x)) (st (ρ y))
  | .unOp op _ x => pvUn op (st (ρ x))
  | .convert _ d x => pvConv P d (st (ρ x))
  | .fieldAddr s x f => pvField (fo P s f) (st (ρ x))
  | .field t x f => pvFld P t (st (ρ x)) f
  | .indexAddr t x i => pvIdx (ez P t) (st (ρ x)) (st (ρ i))
  | .index t x i => pvIndex P t (st (ρ x)) (st (ρ i))
  | .load t x => pvLoad h (lz P t) (st (ρ x))
  | .extract x i => pvExt (st (ρ x)) i
  | .slice t x lo hi none => pvSlice (ez P t) (st (ρ x)) (lo.map fun y => st (ρ y)) (hi.map fun y => st (ρ y))
  | .build t ps => pvBuild P h t (ps.toList.map fun p => (p.1, st (ρ p.2)))
  | .call ⟨.builtin .len, ⟨[x]⟩, ⟨[_]⟩⟩ => pvLen (st (ρ x))
  | .call ⟨.builtin .min, ⟨[x, y]⟩, _⟩ => pvMin (st (ρ x)) (st (ρ y))
  | .call ⟨.builtin .max, ⟨[x, y]⟩, _⟩ => pvMax (st (ρ x)) (st (ρ y))
  | _ => .any

def gdo (ρ : Operand → AV) (o : Option Operand) : Prop := match o with
  | some x => gd (ρ x)
  | none => True

def po (P : Program) (h : Hp) (ρ : Operand → AV) : Op → Prop
  | .move x => gd (ρ x)
  | .assign x => gd (ρ x)
  | .pick c a b => gd (ρ c) ∧ poPick (st (ρ c)) (ρ a) (ρ b)
  | .binOp op t x y _ => gd (ρ x) ∧ gd (ρ y) ∧ poBin P t op (st (ρ x)) (st (ρ y))
  | .unOp op _ x => gd (ρ x) ∧ poUn op (st (ρ x))
  | .convert s d x => gd (ρ x) ∧ poConv P s d (st (ρ x))
  | .fieldAddr s x f => gd (ρ x) ∧ poField h (fo P s f) (st (ρ x))
  | .field t x f => gd (ρ x) ∧ poFld P t (st (ρ x)) f
  | .indexAddr t x i => gd (ρ x) ∧ gd (ρ i) ∧ poIdx P h t (st (ρ x)) (st (ρ i))
  | .index t x i => gd (ρ x) ∧ gd (ρ i) ∧ poIndex P t (st (ρ x)) (st (ρ i))
  | .load t x => gd (ρ x) ∧ poLoad h (lz P t) (st (ρ x))
  | .extract x i => gd (ρ x) ∧ poExt (st (ρ x)) i
  | .slice t x lo hi none => gd (ρ x) ∧ gdo ρ lo ∧ gdo ρ hi ∧ poSlice P h t (st (ρ x)) (lo.map fun y => st (ρ y)) (hi.map fun y => st (ρ y))
  | .build t ps => (∀ p ∈ ps.toList, gd (ρ p.2)) ∧ poBuild P h t (ps.toList.map fun p => (p.1, st (ρ p.2)))
  | .call ⟨.builtin .len, ⟨[x]⟩, ⟨[t]⟩⟩ => gd (ρ x) ∧ poLen P h t (st (ρ x))
  | .call ⟨.builtin .min, ⟨[x, y]⟩, _⟩ => gd (ρ x) ∧ gd (ρ y) ∧ poMin (st (ρ x)) (st (ρ y))
  | .call ⟨.builtin .max, ⟨[x, y]⟩, _⟩ => gd (ρ x) ∧ gd (ρ y) ∧ poMin (st (ρ x)) (st (ρ y))
  | _ => False

theorem VRP.mk {ρ : Operand → AV} {η : Operand → Value} : ∀ (ps : List (Nat × Operand)), (∀ p ∈ ps, gd (ρ p.2)) → (∀ p ∈ ps, VR w h ι A (ρ p.2) (η p.2)) → VRP w h ι A (ps.map fun p => (p.1, st (ρ p.2))) (ps.map fun p => (p.1, η p.2))
  | [], _, _ => by simp [VRP]
  | p :: ps, hg, hv => by
    simp only [List.map_cons, VRP]
    exact ⟨trivial, (hv p (by simp)).st (hg p (by simp)), VRP.mk ps (fun q hq => hg q (by simp [hq])) (fun q hq => hv q (by simp [hq]))⟩

theorem VRO.mk {ρ : Operand → AV} {η : Operand → Value} (o : Option Operand) (hg : gdo ρ o) (hv : ∀ x, o = some x → VR w h ι A (ρ x) (η x)) : VRO w h ι A (o.map fun y => st (ρ y)) (o.map η) := by
  cases o with
  | none => simp [VRO]
  | some x => simp only [Option.map_some, VRO]; exact (hv x rfl).st hg

theorem pv_sound {X : Ctx} (H : Hol X h ι w) {ρ : Operand → AV} {η : Operand → Value} {o : Oper} (hp : po P h ρ o.op) (hv : ∀ x, x ∈ o.op.operands → VR w h ι (Own X.B h ι) (ρ x) (η x)) :
    ∃ v, (execOp η o).run P w = .ok (.value v) w ∧ VR w h ι (Own X.B h ι) (pv P h ρ o.op) v := by
  obtain ⟨dst, op, type, pos, after, guard⟩ := o
  simp only at hp hv
  unfold po at hp
  split at hp
  case h_1 x => exact ⟨η x, by simp [execOp], (hv x (by simp [Op.operands])).st hp⟩
  case h_2 x => exact ⟨η x, by simp [execOp], (hv x (by simp [Op.operands])).st hp⟩
  case h_3 c a b =>
    obtain ⟨r, hr, hvr⟩ := pick_sound (P := P) hp.2 ((hv c (by simp [Op.operands])).st hp.1) (hv a (by simp [Op.operands])) (hv b (by simp [Op.operands]))
    refine ⟨r, ?_, hvr⟩
    simp only [execOp, Sem.run_bind] at hr ⊢
    cases hb : (asBool (η c)).run P w with
    | ok b w' => rw [hb] at hr; simp at hr; obtain ⟨rfl, rfl⟩ := hr; simp
    | halt x w' => rw [hb] at hr; simp at hr
  case h_4 op t x y _ =>
    obtain ⟨r, hr, hvr⟩ := bin_sound (P := P) (X := x) (Y := y) hp.2.2 ((hv x (by simp [Op.operands])).st hp.1) ((hv y (by simp [Op.operands])).st hp.2.1)
    exact ⟨r, by simp only [execOp, Sem.run_bind] at hr ⊢; rw [hr]; simp, hvr⟩
  case h_5 op _ x =>
    obtain ⟨r, hr, hvr⟩ := un_sound (P := P) hp.2 ((hv x (by simp [Op.operands])).st hp.1)
    exact ⟨r, by simp [execOp, Sem.run_bind, hr], hvr⟩
  case h_6 s d x =>
    obtain ⟨r, hr, hvr⟩ := conv_sound (P := P) hp.2 ((hv x (by simp [Op.operands])).st hp.1)
    exact ⟨r, by simp [execOp, Sem.run_bind, hr], hvr⟩
  case h_7 s x f =>
    obtain ⟨r, hr, hvr⟩ := field_sound (P := P) hp.2 ((hv x (by simp [Op.operands])).st hp.1)
    exact ⟨r, by simp [execOp, Sem.run_bind, hr], hvr⟩
  case h_8 t x f =>
    obtain ⟨r, hr, hvr⟩ := fld_sound (P := P) hp.2 ((hv x (by simp [Op.operands])).st hp.1)
    exact ⟨r, by simp [execOp, Sem.run_bind, hr], hvr⟩
  case h_9 t x i =>
    obtain ⟨r, hr, hvr⟩ := idx_sound (P := P) hp.2.2 ((hv x (by simp [Op.operands])).st hp.1) ((hv i (by simp [Op.operands])).st hp.2.1)
    exact ⟨r, by simp [execOp, Sem.run_bind, hr], hvr⟩
  case h_10 t x i =>
    obtain ⟨r, hr, hvr⟩ := index_sound (P := P) hp.2.2 ((hv x (by simp [Op.operands])).st hp.1) ((hv i (by simp [Op.operands])).st hp.2.1)
    exact ⟨r, by simp [execOp, Sem.run_bind, hr], hvr⟩
  case h_11 t x =>
    obtain ⟨r, hr, hvr⟩ := load_sound (P := P) H hp.2 ((hv x (by simp [Op.operands])).st hp.1)
    exact ⟨r, by simp [execOp, Sem.run_bind, hr], hvr⟩
  case h_12 x i =>
    obtain ⟨r, hr, hvr⟩ := ext_sound (P := P) hp.2 ((hv x (by simp [Op.operands])).st hp.1)
    exact ⟨r, by simp [execOp, Sem.run_bind, hr], hvr⟩
  case h_13 t x lo hi =>
    obtain ⟨h1, h2, h3, h4⟩ := hp
    obtain ⟨r, hr, hvr⟩ := slice_sound (P := P) h4 ((hv x (by simp [Op.operands])).st h1) (VRO.mk lo h2 fun y hy => hv y (by simp [Op.operands, hy])) (VRO.mk hi h3 fun y hy => hv y (by simp [Op.operands, hy]))
    exact ⟨r, by simp [execOp, Sem.run_bind, hr], hvr⟩
  case h_14 t ps =>
    obtain ⟨h1, h2⟩ := hp
    have hm := VRP.mk (η := η) ps.toList h1 (fun p hp => hv p.2 (by simp only [Op.operands]; exact (List.mem_toArray).2 (List.mem_map.2 ⟨p, hp, rfl⟩)))
    obtain ⟨r, hr, hvr⟩ := build_sound (P := P) (vs := ps.map fun p => (p.1, η p.2)) h2 (by simpa using hm)
    exact ⟨r, by simp [execOp, Sem.run_bind, hr], hvr⟩
  case h_15 x t =>
    obtain ⟨r, hr, hvr⟩ := len_sound (P := P) (ty := type) hp.2 ((hv x (by simp [Op.operands, Call.operands])).st hp.1)
    exact ⟨r, by simp [execOp, Sem.run_bind, resolve, invoke, builtin, hr], hvr⟩
  case h_16 x y ts =>
    obtain ⟨r, hr, hvr⟩ := min_sound (P := P) (ts := ts) (ty := type) hp.2.2 ((hv x (by simp [Op.operands, Call.operands])).st hp.1) ((hv y (by simp [Op.operands, Call.operands])).st hp.2.1)
    exact ⟨r, by simp [execOp, Sem.run_bind, resolve, invoke, builtin, hr], hvr⟩
  case h_17 x y ts =>
    obtain ⟨r, hr, hvr⟩ := max_sound (P := P) (ts := ts) (ty := type) hp.2.2 ((hv x (by simp [Op.operands, Call.operands])).st hp.1) ((hv y (by simp [Op.operands, Call.operands])).st hp.2.1)
    exact ⟨r, by simp [execOp, Sem.run_bind, resolve, invoke, builtin, hr], hvr⟩
  case h_18 => exact hp.elim

end
end Go.Abs
