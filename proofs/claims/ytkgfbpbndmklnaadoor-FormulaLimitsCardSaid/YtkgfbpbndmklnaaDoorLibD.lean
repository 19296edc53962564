/- Own work. -/
import Derived.Test.YtkgfbpbndmklnaaDoorLibC
import Derived.Shelf.SlicesE.Reverse
set_option linter.unusedSimpArgs false
set_option linter.unusedVariables false
namespace Go.Abs
section
open Go.RowKit
variable {P : Program}
end
open Go.RowKit
section
variable {P : Program} {N : Nat} {ops : Array Oper} {env : Env} {h : Hp}
theorem Quiet.capNil {o : Oper} {t : TypeId} {x : Operand} (ho : o.op = .call ⟨.builtin .cap, #[x], #[t]⟩) (ht : tk P t = 1) (hg : gpo ops env o (gd (rdo env x) ∧ st (rdo env x) = .im (.val (.slice none 0 0)))) :
  Quiet P ops o env h (gav ops env o (.int .i64 0)) :=
 Y1k hg fun ⟨hgd, hsl⟩ X a w ι Q H hop next hn => by
  have hv := (hop x (by simp [ho, Op.operands, Call.operands])).st hgd
  rw [hsl, Y02] at hv
  obtain ⟨e, he⟩ := tk_slice ht
  have hex : (execOp a.eval o).run P w = .ok (.value (.int .i64 0)) w := by
   simp [execOp, ho, resolve, invoke, builtin, Builtin.cap_, hv, run_underlying he, goInt, X6]
  simp only [Oper.wp, hex, Oper.upon]
  exact hn _ _ (Below.refl _ _) (by simp [VR, VRI])
theorem Quiet.sliceNil {o : Oper} {t : TypeId} {x y : Operand} (ho : o.op = .slice t x none (some y) none) (ht : tk P t = 1) (hi : (ez P t).isSome = true)
  (hg : gpo ops env o (gd (rdo env x) ∧ st (rdo env x) = .im (.val (.slice none 0 0)) ∧ gd (rdo env y) ∧ st (rdo env y) = .int .i64 0)) :
  Quiet P ops o env h (gav ops env o (.im (.val (.slice none 0 0)))) :=
 Y1k hg fun ⟨hgd, hsl, hgy, hy⟩ X a w ι Q H hop next hn => by
  have hv := (hop x (by simp [ho, Op.operands])).st hgd
  have hw := (hop y (by simp [ho, Op.operands])).st hgy
  rw [hsl, Y02] at hv
  rw [hy, Y2l] at hw
  obtain ⟨k, hk⟩ := Option.isSome_iff_exists.1 hi
  obtain ⟨e, i, he, hi, hs⟩ := ez_slice ht hk
  have hex : (execOp a.eval o).run P w = .ok (.value (.slice none 0 0)) w := by
   simp [execOp, ho, Instr.sliceAt, Instr.slice, Instr.sliceBounds, Instr.sliceBound, asIntOf, hv, hw, run_underlying he, sizeOf, typeInfo, hi, X6]
  simp only [Oper.wp, hex, Oper.upon]
  exact hn _ _ (Below.refl _ _) (by simp [VR, VRI])
theorem run_append_count (w : World) {t u ty e : TypeId} {i : TypeInfo} {z : Value} (ht : P.underlying t = some (.slice e)) (hu : P.underlying u = some (.int .i64)) (hi : P.info? e = some i) (hz : i.zero = some z)
  (n : Int) (h0 : 0 < n) (h63 : n ≤ 9223372036854775807) (hb : n * i.bytes ≤ 281474976710656) (hfit : Builtin.nextslicecap n.toNat 0 * i.bytes ≤ 281474976710656) (hsz : 0 < i.size) :
  (Builtin.append_ #[t, u] ty #[.slice none 0 0, .int .i64 n]).run P w =
   .ok (.slice (some ⟨w.heap.size, 0, none⟩) n.toNat (grownCap w n.toNat 0 e))
    (w.drew.alloc (.cells (Builtin.zeroCells z.cells n.toNat ++ Builtin.zeroCells z.cells (grownCap w n.toNat 0 e - n.toNat)) e)) := by
 have hw : IntKind.wrap .i64 n = n := IntWalk.i64_in n ⟨by omega, h63⟩
 have h1 : ¬ (n < 0) := by omega
 have h2 : ¬ (281474976710656 < n * i.bytes) := by omega
 have h3 : ¬ (n.toNat = 0) := by omega
 have h4 : ¬ (n ≤ 0) := by omega
 have h5 : ¬ (9223372036854775807 < n) := by omega
 have h6 : ¬ (281474976710656 < Builtin.nextslicecap n.toNat 0 * i.bytes) := by omega
 have h7 : ¬ (9223372036854775807 < ((n.toNat : Nat) : Int)) := by omega
 have h8 : ¬ (i.size = 0) := by omega
 have h9 : ¬ (9223372036854775807 < max n 0) := by omega
 have hfc : (Builtin.firstCells i.size 0 (.slice none 0 0)).run P w.drew = .ok #[] w.drew := by simp [Builtin.firstCells]
 simp [Builtin.append_, run_underlying ht, run_underlying hu, sizeOf, typeInfo, zeroValue, hi, hz, asInt, asIntOf, hw, h1, h2, h3, h4, h5, h6, h7, h8, h9, Question.forced, hfc, newRow, grownCap]
 intro hz0
 exact absurd hz0 (Nat.ne_of_gt (Nat.mul_pos (by omega) hsz))
end
section
variable {P : Program} {N : Nat} {ops : Array Oper} {env : Env} {h : Hp}
def partP (P : Program) (t : TypeId) (cs : Array Value) (off : Nat) : Option Value := match lz P t with
 | some none => cs[off]?
 | some (some n) => some (.agg (cs.extract off (off + n)))
 | none => none
theorem partP_run {t : TypeId} {cs : Array Value} {off : Nat} {v : Value} {w : World} (hp : partP P t cs off = some v) : (part t cs off).run P w = .ok v w := by
 unfold partP at hp
 unfold part
 cases hl : lz P t with
 | none => simp [hl] at hp
 | some o =>
  cases o with
  | none =>
   simp only [hl] at hp
   simp [X6, lz_none hl, hp]
  | some n =>
   simp only [hl, X0] at hp
   subst hp
   simp [X6, (lz_some (w := w) hl).1, (lz_some (w := w) hl).2]
def catO : List (Option (List Bool)) → Option (List Bool)
 | [] => some []
 | none :: _ => none
 | some l :: r => (catO r).map (l ++ ·)
theorem catO_map {α : Type} (f : α → Option (List Bool)) : ∀ (l : List α) (L : List Bool), catO (l.map f) = some L → (∀ a ∈ l, f a = some ((f a).getD [])) ∧ L = l.flatMap fun a => (f a).getD []
 | [], L, h => by simp [catO] at h; simp [← h]
 | a :: l, L, h => by
  cases hf : f a with
  | none => simp [catO, hf] at h
  | some x =>
   simp only [Xp, hf, catO, Option.map_eq_some_iff] at h
   obtain ⟨M, hM, rfl⟩ := h
   obtain ⟨h1, h2⟩ := catO_map f l M hM
   refine ⟨fun b hb => ?_, by simp [hf, h2]⟩
   rcases X00.1 hb with rfl | hb
   ·simp [hf]
   ·exact h1 b hb
def eqV (P : Program) : Nat → TypeId → Value → Value → Option (List Bool)
 | 0, _, _, _ => none
 | d + 1, t, x, y => match P.underlying t with
  | some .bool => (match x, y with | .bool a, .bool b => some [a == b] | _, _ => none)
  | some (.int _) => (match x, y with | .int k a, .int k' b => if k = k' then some [a == b] else none | _, _ => none)
  | some .string => (match x, y with | .string a, .string b => some [a == b] | _, _ => none)
  | some (.struct fs) => (match x, y with
   | .agg xs, .agg ys => if P.stoodInHeld t then none else catO (fs.toList.map fun f => if f.name = "_" then some [] else match partP P f.type xs f.offset, partP P f.type ys f.offset with | some u, some v => eqV P d f.type u v | _, _ => none)
   | _, _ => none)
  | some (.array n e) => (match x, y with
   | .agg xs, .agg ys => (match P.info? e with
    | some i => catO ((List.range' 0 n).map fun j => match partP P e xs (j * i.size), partP P e ys (j * i.size) with | some u, some v => eqV P d e u v | _, _ => none)
    | none => none)
   | _, _ => none)
  | _ => none
theorem loop_all {α : Type} {w : World} (B : α → Option Bool × Unit → Sem (ForInStep (Option Bool × Unit))) (r : α → List Bool) : ∀ (l : List α), (∀ a ∈ l, ∀ s, (B a s).run P w = .ok (if (r a).all id = true then .yield (none, ()) else .done (some false, ())) w) →
  (forIn l (none, ()) B).run P w = .ok (if (l.flatMap r).all id = true then (none, ()) else (some false, ())) w
 | [], h => by simp
 | a :: l, h => by
  rw [List.forIn_cons, X6, h a (by simp)]
  simp only [Xi, Xq, List.all_append]
  by_cases ha : (r a).all id = true
  ·rw [if_pos ha, ha]
   simp only [Bool.true_and]
   exact loop_all B r l fun b hb => h b (by simp [hb])
  ·have ha' : (r a).all id = false := by simpa using ha
   rw [if_neg ha, ha']
   simp
theorem eqV_sound {w : World} : ∀ (d : Nat) (t : TypeId) (x y : Value) (l : List Bool), eqV P d t x y = some l → (Op.equalIn d t x y).run P w = .ok (l.all id) w
 | 0, t, x, y, l, h => by simp [eqV] at h
 | d + 1, t, x, y, l, h => by
  unfold eqV at h
  unfold Op.equalIn
  split at h
  ·rename_i hu
   split at h
   ·simp only [X0] at h; subst h
    simp [X6, run_underlying hu]
   ·cases h
  ·rename_i k hu
   split at h
   ·rename_i k1 a k2 b
    split at h
    ·rename_i hk
     simp only [X0] at h; subst h
     simp [X6, run_underlying hu, hk]
    ·cases h
   ·cases h
  ·rename_i hu
   split at h
   ·simp only [X0] at h; subst h
    simp [X6, run_underlying hu]
   ·cases h
  ·rename_i fs hu
   split at h
   ·rename_i xs ys
    split at h
    ·cases h
    ·rename_i hs
     have hs' : P.stoodInHeld t = false := by simpa using hs
     obtain ⟨h1, hL⟩ := catO_map _ _ _ h
     generalize hb : l.all id = b
     simp only [X6, run_underlying hu, Xi]
     simp [hs']
     rw [← Array.forIn_toList]
     rw [loop_all _ (fun f => (if f.name = "_" then some [] else match partP P f.type xs f.offset, partP P f.type ys f.offset with | some u, some v => eqV P d f.type u v | _, _ => none).getD []) fs.toList (fun f hf s => ?_)]
     ·simp only [Xi]
      rw [← hL, hb]
      cases b <;> rfl
     ·have h2 := h1 f hf
      by_cases hn : f.name = "_"
      ·simp [hn]
      ·rw [if_neg hn] at h2 ⊢
       rw [if_neg hn]
       split at h2
       ·rename_i u v hu' hv'
        simp only [X6, partP_run hu', partP_run hv', Xi, eqV_sound d _ u v _ h2]
        generalize ((eqV P d f.type u v).getD []).all id = c
        cases c <;> rfl
       ·cases h2
   ·cases h
  ·rename_i n e hu
   split at h
   ·rename_i xs ys
    split at h
    ·rename_i i hi
     obtain ⟨h1, hL⟩ := catO_map _ _ _ h
     generalize hb : l.all id = b
     simp only [X6, run_underlying hu, Xi]
     simp [sizeOf, typeInfo, hi]
     rw [loop_all _ (fun j => (match partP P e xs (j * i.size), partP P e ys (j * i.size) with | some u, some v => eqV P d e u v | _, _ => none).getD []) (List.range' 0 n) (fun f hf s => ?_)]
     ·simp only [Xi]
      rw [← hL, hb]
      cases b <;> rfl
     ·have h2 := h1 f hf
      split at h2
      ·rename_i u v hu' hv'
       simp only [X6, partP_run hu', partP_run hv', Xi, eqV_sound d _ u v _ h2]
       generalize ((eqV P d e u v).getD []).all id = c
       cases c <;> rfl
      ·cases h2
    ·cases h
   ·cases h
  ·cases h
theorem VRL.of_vals {w : World} {ι : Nat → Bk} {A : Nat → Prop} : ∀ (us l : List Value), VRL w h ι A (us.map fun u => .im (.val u)) l → l = us
 | [], l, hv => by simpa [VRL] using hv
 | u :: us, l, hv => by
  simp only [Xp, VRL, VR, VRI] at hv
  obtain ⟨v, l', rfl, rfl, hr⟩ := hv
  rw [VRL.of_vals us l' hr]
theorem Quiet.eqAgg {o : Oper} {t ty : TypeId} {x y : Operand} {op : BinOp} (us vs : List Value) (l : List Bool) (neg : Bool) (ho : o.op = .binOp op t x y ty) (hop : op = if neg then .neq else .eql) (hgt : P.eqGuardType P.depth t = false)
  (hl : eqV P Op.maxDepth t (.agg us.toArray) (.agg vs.toArray) = some l)
  (hg : gpo ops env o (gd (rdo env x) ∧ st (rdo env x) = .agg (us.map fun u => .im (.val u)) ∧ gd (rdo env y) ∧ st (rdo env y) = .agg (vs.map fun u => .im (.val u)))) :
  Quiet P ops o env h (gav ops env o (.bool (xor neg (l.all id)))) :=
 Y1k hg fun ⟨hgx, hx, hgy, hy⟩ X a w ι Q H hops next hn => by
  have hv := (hops x (by simp [ho, Op.operands])).st hgx
  have hw := (hops y (by simp [ho, Op.operands])).st hgy
  rw [hx] at hv
  rw [hy] at hw
  simp only [VR] at hv hw
  obtain ⟨l1, hv, h1⟩ := hv
  obtain ⟨l2, hw, h2⟩ := hw
  obtain rfl := VRL.of_vals us l1 h1
  obtain rfl := VRL.of_vals vs l2 h2
  have he := eqV_sound (w := w) _ _ _ _ _ hl
  have hex : (execOp a.eval o).run P w = .ok (.value (.bool (xor neg (l.all id)))) w := by
   cases neg <;> simp at hop <;> subst hop <;> simp [execOp, ho, eqGuard, binOp, Op.equal, X6, hv, hw, hgt, he]
  simp only [Oper.wp, hex, Oper.upon]
  exact hn _ _ (Below.refl _ _) (by simp [VR, VRI])
end
section
variable {P : Program} {N : Nat} {ops : Array Oper} {env : Env} {h : Hp}
abbrev OC := { v : Value // v.oneCell' = true }
instance : Inhabited OC := ⟨⟨.int .i64 0, rfl⟩⟩
open Go.Shelf Go.Lib Go.Sort Go.Proofs in
end
section
variable {P : Program} {N : Nat} {ops : Array Oper} {env : Env} {h : Hp}
inductive Rn1 (h k : Hp) (φ : Nat → Option Nat) : AV → AV → Prop
 | any {x : AV} : Rn1 h k φ x .any
 | im {x : IV} : Rn1 h k φ (.im x) (.im x)
 | nil : Rn1 h k φ (.im (.val (.slice none 0 0))) (.im (.sl [] 0))
 | ipt {cs : List IV} {off : Nat} : Rn1 h k φ (.ipt cs off) (.ipt cs off)
 | ref {r r' ver ver' off : Nat} {rt rt' : Rt} : h.at r = some rt → k.at r' = some rt' → φ r' = some r → rt.ver = ver → rt'.ver = ver' → Rn1 h k φ (.ref r ver off) (.ref r' ver' off)
 | rsl {r r' ver ver' off n : Nat} {rt rt' : Rt} : h.at r = some rt → k.at r' = some rt' → φ r' = some r → rt.ver = ver → rt'.ver = ver' → rt'.k = rt.k → Rn1 h k φ (.rsl r ver off n) (.rsl r' ver' off n)
inductive RnL (h k : Hp) (φ : Nat → Option Nat) : List AV → List AV → Prop
 | nil : RnL h k φ [] []
 | cons {x y : AV} {xs ys : List AV} : Rn1 h k φ x y → RnL h k φ xs ys → RnL h k φ (x :: xs) (y :: ys)
 | agg {cs ds xs ys : List AV} : RnL h k φ cs ds → RnL h k φ xs ys → RnL h k φ (.agg cs :: xs) (.agg ds :: ys)
 | tup {cs ds xs ys : List AV} : RnL h k φ cs ds → RnL h k φ xs ys → RnL h k φ (.tup cs :: xs) (.tup ds :: ys)
section
variable {X : Ctx} {k k2 q : Hp} {r : Nat} {ι : Nat → Bk} {φ : Nat → Option Nat} {A : Nat → Prop} {rt : Rt} {v : Value} {w : World}
theorem VR.rn1 {x y : AV} (hr : Rn1 h k φ x y) (hv : VR w h ι A x v) : VR w k (Y2y ι φ) A y v := by
 cases hr with
 | any => simp only [VR]
 | im => simpa only [VR] using hv
 | nil => exact Sub.nil w k _ A v (by simpa only [VR] using hv)
 | ipt => simpa only [VR] using hv
 | ref h1 h2 h3 h4 h5 =>
  simp only [VR] at hv ⊢
  obtain ⟨rt0, hrt, hle, himp⟩ := hv
  rw [h1] at hrt
  cases hrt
  refine ⟨_, h2, by omega, fun _ => ?_⟩
  have := himp h4.symm
  unfold Y2y
  rw [h3]
  exact this
 | rsl h1 h2 h3 h4 h5 h6 =>
  simp only [VR] at hv ⊢
  obtain ⟨rt0, hrt, hle, himp⟩ := hv
  rw [h1] at hrt
  cases hrt
  refine ⟨_, h2, by omega, fun _ => ?_⟩
  have := himp h4.symm
  unfold Y2y
  rw [h3, h6]
  exact this
theorem VRL.rn {xs ys : List AV} (hr : RnL h k φ xs ys) : ∀ {l : List Value}, VRL w h ι A xs l → VRL w k (Y2y ι φ) A ys l := by
 induction hr with
 | nil => intro l hv; simpa only [VRL] using hv
 | cons h1 _ ih =>
  intro l hv
  simp only [VRL] at hv ⊢
  obtain ⟨v, l', hl, hv, hr⟩ := hv
  exact ⟨v, l', hl, VR.rn1 h1 hv, ih hr⟩
 | agg _ _ ih1 ih2 =>
  intro l hv
  simp only [VRL, VR] at hv ⊢
  obtain ⟨v, l', hl, ⟨l2, hl2, hr2⟩, hr⟩ := hv
  exact ⟨v, l', hl, ⟨l2, hl2, ih1 hr2⟩, ih2 hr⟩
 | tup _ _ ih1 ih2 =>
  intro l hv
  simp only [VRL, VR] at hv ⊢
  obtain ⟨v, l', hl, ⟨l2, hl2, hr2⟩, hr⟩ := hv
  exact ⟨v, l', hl, ⟨l2, hl2, ih1 hr2⟩, ih2 hr⟩
theorem VR.rn {x y : AV} (hr : RnL h k φ [x] [y]) (hv : VR w h ι A x v) : VR w k (Y2y ι φ) A y v := by
 have := VRL.rn (l := [v]) hr (by simp only [VRL]; exact ⟨v, [], rfl, hv, rfl⟩)
 simp only [VRL] at this
 obtain ⟨v', l', hl, hv', _⟩ := this
 cases hl
 exact hv'
inductive RnH (h k : Hp) (φ : Nat → Option Nat) : Hp → Prop
 | nil : RnH h k φ []
 | cons {r r' : Nat} {rt rt' : Rt} {l : Hp} : φ r' = some r → h.at r = some rt → rt'.live = rt.live → rt'.e = rt.e → rt'.k = rt.k → RnL h k φ rt.cs rt'.cs → RnH h k φ l → RnH h k φ ((r', rt') :: l)
theorem RnL.length {xs ys : List AV} (hr : RnL h k φ xs ys) : xs.length = ys.length := by
 induction hr with
 | nil => rfl
 | cons _ _ ih => simp [ih]
 | agg _ _ _ ih => simp [ih]
 | tup _ _ _ ih => simp [ih]
theorem RnH.root : ∀ {l : Hp}, RnH h k φ l → ∀ r' rt', l.at r' = some rt' → ∃ r rt, φ r' = some r ∧ h.at r = some rt ∧ rt'.live = rt.live ∧ rt'.e = rt.e ∧ rt'.k = rt.k ∧ RnL h k φ rt.cs rt'.cs
 | _, .nil, r, rt, hr => by simp [Hp.at] at hr
 | _, .cons h1 h2 h3 h4 h5 h6 hl, r', rt', hr => by
  simp only [Hp.at] at hr
  split at hr
  ·rename_i he; cases hr; subst he; exact ⟨_, _, h1, h2, h3, h4, h5, h6⟩
  ·exact RnH.root hl r' rt' hr
theorem RootOK.rn {b : Bk} {rt' : Rt} (h4 : rt'.e = rt.e) (h5 : rt'.k = rt.k) (h6 : RnL h k φ rt.cs rt'.cs) (hr : RootOK w h ι A b rt) : RootOK w k (Y2y ι φ) A b rt' := by
 have hlen := h6.length
 rcases hr with ⟨c1, c2, c3⟩ | ⟨g, arr, c1, c2, c3, c4, c5, c6⟩
 ·left
  refine ⟨c1, ?_, c3⟩
  rw [c2] at hlen
  exact Xn hlen.symm
 ·right
  exact ⟨g, arr, c1, by rw [h4]; exact c2, by rw [h5]; exact c3, c4, by rw [← hlen]; exact VRL.rn h6 c5, by rw [← hlen]; exact c6⟩
theorem injB.sound (hi : injB k φ = true) {s : Nat} {st : Rt} (h1 : k.at r = some rt) (h2 : k.at s = some st) (h3 : φ r = φ s) (h4 : φ r ≠ none) : r = s := by
 unfold injB at hi
 have h5 := Xa.1 (Xa.1 hi r (Y4l h1)) s (Y4l h2)
 simp only [X0b, beq_iff_eq, X0s, beq_eq_false_iff_ne, ne_eq] at h5
 rcases h5 with (h5 | h5) | h5
 ·exact h5
 ·exact absurd h5 h4
 ·exact absurd h3 h5
theorem at_of_mem : ∀ {h : Hp} {r : Nat}, r ∈ h.map (·.1) → ∃ rt, h.at r = some rt
 | [], r, hr => by simp at hr
 | (i, x) :: l, r, hr => by
  simp only [Hp.at]
  split
  ·exact ⟨x, rfl⟩
  ·rename_i hne
   simp only [Xp, X00] at hr
   exact at_of_mem (hr.resolve_left fun e => hne e.symm)
def bijB (k k2 : Hp) (φ : Nat → Option Nat) : Bool := injB k2 φ && ((k2.map (·.1)).all fun r' => match φ r' with | some r => (k.map (·.1)).contains r | none => false) && ((k.map (·.1)).all fun r => (k2.map (·.1)).any fun r' => φ r' == some r)
theorem bijB.inj (hb : bijB k k2 φ = true) : injB k2 φ = true := by
 unfold bijB at hb
 simp only [X3] at hb
 exact hb.1.1
theorem bijB.into (hb : bijB k k2 φ = true) {r' : Nat} {rt' : Rt} (hr : k2.at r' = some rt') : ∃ r rt, φ r' = some r ∧ k.at r = some rt := by
 unfold bijB at hb
 simp only [X3] at hb
 have := Xa.1 hb.1.2 r' (Y4l hr)
 cases hφ : φ r' with
 | none => rw [hφ] at this; cases this
 | some r =>
  rw [hφ] at this
  simp only [List.contains_eq_mem, decide_eq_true_eq] at this
  obtain ⟨rt, h1⟩ := at_of_mem this
  exact ⟨r, rt, rfl, h1⟩
theorem bijB.onto (hb : bijB k k2 φ = true) (hr : k.at r = some rt) : ∃ r' rt', φ r' = some r ∧ k2.at r' = some rt' := by
 unfold bijB at hb
 simp only [X3] at hb
 have := Xa.1 hb.2 r (Y4l hr)
 obtain ⟨r', h1, h2⟩ := List.any_eq_true.1 this
 obtain ⟨rt', h3⟩ := at_of_mem h1
 exact ⟨r', rt', by simpa using h2, h3⟩
theorem own_split (hdis : ∀ i rt, k.at i = some rt → q.at i = none) : Own (Own X.B q ι) k ι = Own X.B (k ++ q) ι := by
 funext β
 refine propext ⟨?_, ?_⟩
 ·rintro ((hb | ⟨r, rt, hr, hl, hg⟩) | ⟨r, rt, hr, hl, hg⟩)
  ·exact .inl hb
  ·refine .inr ⟨r, rt, ?_, hl, hg⟩
   rw [Y1d]
   cases hx : k.at r with
   | none => exact hr
   | some y => have := hdis r y hx; rw [hr] at this; cases this
  ·exact .inr ⟨r, rt, by rw [Y1d, hr], hl, hg⟩
 ·rintro (hb | ⟨r, rt, hr, hl, hg⟩)
  ·exact .inl (.inl hb)
  ·rw [Y1d] at hr
   cases hx : k.at r with
   | none => rw [hx] at hr; exact .inl (.inr ⟨r, rt, hr, hl, hg⟩)
   | some y => rw [hx] at hr; cases hr; exact .inr ⟨r, rt, hx, hl, hg⟩
theorem own_ren (hdis : ∀ i rt, k.at i = some rt → q.at i = none) (hb : bijB k k2 φ = true) (hrn : RnH (k ++ q) k2 φ k2) : Own (Own X.B q ι) k2 (Y2y ι φ) = Own X.B (k ++ q) ι := by
 rw [← own_split hdis]
 funext β
 refine propext ⟨?_, ?_⟩
 ·rintro (h1 | ⟨r', rt', hr', hl, hg⟩)
  ·exact .inl h1
  ·obtain ⟨r, rt, e1, e2⟩ := bijB.into hb hr'
   obtain ⟨r2, rt2, f1, f2, f3, _⟩ := hrn.root r' rt' hr'
   rw [e1] at f1
   cases f1
   rw [Y1d, e2] at f2
   cases f2
   unfold Y2y at hg
   rw [e1] at hg
   exact .inr ⟨r, rt, e2, by rw [← f3]; exact hl, hg⟩
 ·rintro (h1 | ⟨r, rt, hr, hl, hg⟩)
  ·exact .inl h1
  ·obtain ⟨r', rt', e1, e2⟩ := bijB.onto hb hr
   obtain ⟨r2, rt2, f1, f2, f3, _⟩ := hrn.root r' rt' e2
   rw [e1] at f1
   cases f1
   rw [Y1d, hr] at f2
   cases f2
   refine .inr ⟨r', rt', e2, by rw [f3]; exact hl, ?_⟩
   unfold Y2y
   rw [e1]
   exact hg
theorem Hol.startR (H : Hol X (k ++ q) ι w) (hdis : ∀ i rt, k.at i = some rt → q.at i = none) (hb : bijB k k2 φ = true) (hrn : RnH (k ++ q) k2 φ k2) :
  Hol ⟨w, Own X.B q ι, Own (fun _ => False) k2 (Y2y ι φ), pinOf k2 (Y2y ι φ)⟩ k2 (Y2y ι φ) w := by
 have hat : ∀ r' rt', k2.at r' = some rt' → ∃ r rt, φ r' = some r ∧ k.at r = some rt ∧ rt'.live = rt.live ∧ rt'.e = rt.e ∧ rt'.k = rt.k ∧ RnL (k ++ q) k2 φ rt.cs rt'.cs ∧ Y2y ι φ r' = ι r := fun r' rt' hr' => by
  obtain ⟨r, rt, e1, e2⟩ := bijB.into hb hr'
  obtain ⟨r2, rt2, f1, f2, f3, f4, f5, f6⟩ := hrn.root r' rt' hr'
  rw [e1] at f1
  cases f1
  rw [Y1d, e2] at f2
  cases f2
  exact ⟨r, rt, e1, e2, f3, f4, f5, f6, by unfold Y2y; rw [e1]⟩
 have hq : ∀ r rt, q.at r = some rt → Hp.at (k ++ q) r = some rt := fun r rt hr => by
  rw [Y1d]
  cases hx : k.at r with
  | none => exact hr
  | some y => have := hdis r y hx; rw [hr] at this; cases this
 have hk : ∀ r rt, k.at r = some rt → Hp.at (k ++ q) r = some rt := fun r rt hr => by rw [Y1d, hr]
 exact {
  roots := fun r' rt' hr' hl => by
   obtain ⟨r, rt, e1, e2, e3, e4, e5, e6, e7⟩ := hat r' rt' hr'
   rw [own_ren hdis hb hrn, e7]
   exact (H.roots r rt (hk r rt e2) (by rw [← e3]; exact hl)).rn e4 e5 e6
  inj := fun r' s' rt' st' g hr hs hlr hls hgr hgs => by
   obtain ⟨r, rt, e1, e2, e3, e4, e5, e6, e7⟩ := hat r' rt' hr
   obtain ⟨s, st, d1, d2, d3, d4, d5, d6, d7⟩ := hat s' st' hs
   rw [e7] at hgr
   rw [d7] at hgs
   have := H.inj r s rt st g (hk r rt e2) (hk s st d2) (by rw [← e3]; exact hlr) (by rw [← d3]; exact hls) hgr hgs
   subst this
   exact injB.sound (bijB.inj hb) hr hs (by rw [e1, d1]) (by rw [e1]; simp)
  place := fun r' rt' g hr hl hg => by
   obtain ⟨r, rt, e1, e2, e3, e4, e5, e6, e7⟩ := hat r' rt' hr
   refine ⟨?_, .inr (.inr ⟨r', rt', hr, hl, hg⟩)⟩
   rw [e7] at hg
   rintro (hB | ⟨r2, rt2, hr2, hl2, hg2⟩)
   ·exact (H.place r rt g (hk r rt e2) (by rw [← e3]; exact hl) hg).1 hB
   ·have := H.inj r r2 rt rt2 g (hk r rt e2) (hq r2 rt2 hr2) (by rw [← e3]; exact hl) hl2 hg hg2
    subst this
    have := hdis r rt e2
    rw [hr2] at this
    cases this
  os := rfl
  tape := rfl
  output := rfl
  size := Xf _
  frame := fun _ _ _ => rfl
  old := fun β hB => by
   have hown : ∀ β, Own (fun _ => False) k2 (Y2y ι φ) β → ∃ r rt, k.at r = some rt ∧ rt.live = true ∧ (ι r).blk = some β := by
    rintro β (hs | ⟨r', rt', hr, hl, hg⟩)
    ·exact hs.elim
    ·obtain ⟨r, rt, e1, e2, e3, e4, e5, e6, e7⟩ := hat r' rt' hr
     rw [e7] at hg
     exact ⟨r, rt, e2, by rw [← e3]; exact hl, hg⟩
   rcases hB with hB | ⟨r, rt, hr, hl, hg⟩
   ·refine ⟨X0l (H.old β hB).1 H.size, fun hs => ?_⟩
    obtain ⟨r, rt, e1, e2, e3⟩ := hown β hs
    exact (H.place r rt β (hk r rt e1) e2 e3).1 hB
   ·refine ⟨?_, fun hs => ?_⟩
    ·obtain ⟨arr, h2, _⟩ := (H.roots r rt (hq r rt hr) hl).row hg
     exact Y49 h2
    ·obtain ⟨r2, rt2, e1, e2, e3⟩ := hown β hs
     have := H.inj r r2 rt rt2 β (hq r rt hr) (hk r2 rt2 e1) hl e2 hg e3
     subst this
     have := hdis r rt2 e1
     rw [hr] at this
     cases this
  glob := H.globOK.keep fun β _ hn => ⟨rfl, fun ho => hn (by
   rw [← own_ren hdis hb hrn]
   rcases ho with ho | ho | ho
   ·exact .inl ho
   ·exact ho.elim
   ·exact .inr ho)⟩
  pin := fun r b kk hp => by
   change pinOf k2 (Y2y ι φ) r = some (b, kk) at hp
   unfold pinOf at hp
   cases hx : k2.at r with
   | none => rw [hx] at hp; cases hp
   | some rt =>
    rw [hx] at hp
    simp only [X9] at hp
    split at hp
    ·rename_i hc
     cases hp
     exact ⟨hc.1, rt, rfl, fun _ => ⟨rfl, rfl⟩⟩
    ·cases hp }
def backB (k k2 h2 hc : Hp) (φ ψ : Nat → Option Nat) : Bool := (k.map (·.1)).all fun r => match k.at r, hc.at r with
  | some rt, some rc => decide (rt.ver = 0) && (decide (0 < rc.ver) || (match ψ r with
    | some r' => φ r' == some r && decide (2000 ≤ r') && decide (r' < 3000) && (match k2.at r', h2.at r' with | some x, some y => decide (x.ver = 0) && decide (y.ver = 0) | _, _ => false)
    | none => false))
  | _, _ => false
theorem backB.spec {h2 hc : Hp} {ψ : Nat → Option Nat} (hb : backB k k2 h2 hc φ ψ = true) (hr : k.at r = some rt) : rt.ver = 0 ∧ ∃ rc, hc.at r = some rc ∧ (0 < rc.ver ∨ ∃ r' x y, ψ r = some r' ∧ φ r' = some r ∧ (2000 ≤ r' ∧ r' < 3000) ∧ k2.at r' = some x ∧ x.ver = 0 ∧ h2.at r' = some y ∧ y.ver = 0) := by
 unfold backB at hb
 have h1 := Xa.1 hb r (Y4l hr)
 rw [hr] at h1
 cases hx : hc.at r with
 | none => rw [hx] at h1; simp at h1
 | some rc =>
  rw [hx] at h1
  simp only [X3, decide_eq_true_eq, X0b] at h1
  refine ⟨h1.1, rc, rfl, ?_⟩
  rcases h1.2 with h2' | h2'
  ·exact .inl h2'
  ·right
   cases hψ : ψ r with
   | none => rw [hψ] at h2'; simp at h2'
   | some r' =>
    rw [hψ] at h2'
    simp only [X3, decide_eq_true_eq, beq_iff_eq] at h2'
    obtain ⟨⟨⟨e1, e2⟩, e3⟩, e4⟩ := h2'
    cases hk : k2.at r' with
    | none => rw [hk] at e4; simp at e4
    | some x =>
     cases hh : h2.at r' with
     | none => rw [hk, hh] at e4; simp at e4
     | some y =>
      rw [hk, hh] at e4
      simp only [X3, decide_eq_true_eq] at e4
      exact ⟨r', x, y, rfl, e1, ⟨e2, e3⟩, hk, e4.1, hh, e4.2⟩
theorem join_callR {h2 hc : Hp} {ψ : Nat → Option Nat} {ι' : Nat → Bk} {w' : World} {r r2 : AV} (H : Hol X (k ++ q) ι w) (hdis : ∀ i rt, k.at i = some rt → q.at i = none) (hb : bijB k k2 φ = true) (hrn : RnH (k ++ q) k2 φ k2)
  (H' : Hol ⟨w, Own X.B q ι, Own (fun _ => False) k2 (Y2y ι φ), pinOf k2 (Y2y ι φ)⟩ h2 ι' w') (hnew : ∀ i rt, hc.at i = some rt → q.at i = none) (hbk : backB k k2 h2 hc φ ψ = true) (hinj : injB hc ψ = true) (hrc : RnH h2 hc ψ hc) (hres : RnL h2 hc ψ [r2] [r])
  (hv : VR w' h2 ι' (Own (Own X.B q ι) h2 ι') r2 v) :
  ∃ ι'', Hol X (hc ++ q) ι'' w' ∧ VR w' (hc ++ q) ι'' (Own X.B (hc ++ q) ι'') r v ∧ Keep w (k ++ q) ι (Own X.B (k ++ q) ι) w' (hc ++ q) ι'' (Own X.B (hc ++ q) ι'') := by
 let ι'' : Nat → Bk := fun i => if (hc.at i).isSome then Y2y ι' ψ i else ι i
 have i1 : ∀ i rt, hc.at i = some rt → ι'' i = Y2y ι' ψ i := fun i rt hi => by simp [ι'', hi]
 have i2 : ∀ i rt, q.at i = some rt → ι'' i = ι i := fun i rt hi => by
  have : hc.at i = none := by
   cases hx : hc.at i with
   | none => rfl
   | some y => have := hnew i y hx; rw [hi] at this; cases this
  simp [ι'', this]
 have a1 : ∀ i rt, hc.at i = some rt → Hp.at (hc ++ q) i = some rt := fun i rt hi => by rw [Y1d, hi]
 have a2 : ∀ i rt, q.at i = some rt → Hp.at (hc ++ q) i = some rt := fun i rt hi => by
  rw [Y1d]
  cases hx : hc.at i with
  | none => exact hi
  | some y => have := hnew i y hx; rw [hi] at this; cases this
 have a3 : ∀ i rt, Hp.at (hc ++ q) i = some rt → hc.at i = some rt ∨ (hc.at i = none ∧ q.at i = some rt) := fun i rt hi => by
  rw [Y1d] at hi
  cases hx : hc.at i with
  | none => rw [hx] at hi; exact .inr ⟨rfl, hi⟩
  | some y => rw [hx] at hi; exact .inl hi
 have b2 : ∀ i rt, q.at i = some rt → Hp.at (k ++ q) i = some rt := fun i rt hi => by
  rw [Y1d]
  cases hx : k.at i with
  | none => exact hi
  | some y => have := hdis i y hx; rw [hi] at this; cases this
 have hO := own_ren (X := X) (ι := ι) hdis hb hrn
 have hS : ∀ β, Own (fun _ => False) k2 (Y2y ι φ) β → ∃ r rt, k.at r = some rt ∧ rt.live = true ∧ (ι r).blk = some β := by
  rintro β (hs | ⟨r', rt', hr, hl, hg⟩)
  ·exact hs.elim
  ·obtain ⟨r, rt, e1, e2⟩ := bijB.into hb hr
   obtain ⟨r3, rt3, f1, f2, f3, _⟩ := hrn.root r' rt' hr
   rw [e1] at f1
   cases f1
   rw [Y1d, e2] at f2
   cases f2
   unfold Y2y at hg
   rw [e1] at hg
   exact ⟨r, rt, e2, by rw [← f3]; exact hl, hg⟩
 have hat : ∀ i rc, hc.at i = some rc → ∃ i' rt, ψ i = some i' ∧ h2.at i' = some rt ∧ rc.live = rt.live ∧ rc.e = rt.e ∧ rc.k = rt.k ∧ RnL h2 hc ψ rt.cs rc.cs ∧ ι'' i = ι' i' := fun i rc hi => by
  obtain ⟨i', rt, e1, e2, e3, e4, e5, e6⟩ := hrc.root i rc hi
  exact ⟨i', rt, e1, e2, e3, e4, e5, e6, by rw [i1 i rc hi]; unfold Y2y; rw [e1]⟩
 have hplace : ∀ i rc g, hc.at i = some rc → rc.live = true → (ι'' i).blk = some g → ¬ Own X.B q ι g ∧ (w.heap.size ≤ g ∨ ∃ r2 rt2, k.at r2 = some rt2 ∧ rt2.live = true ∧ (ι r2).blk = some g) := fun i rc g hi hl hg => by
  obtain ⟨i', rt, e1, e2, e3, _, _, _, e7⟩ := hat i rc hi
  rw [e7] at hg
  obtain ⟨h1, h3⟩ := H'.place i' rt g e2 (by rw [← e3]; exact hl) hg
  refine ⟨h1, ?_⟩
  rcases h3 with h3 | h3
  ·exact .inl h3
  ·exact .inr (hS g h3)
 -- who owns what behind the call
 have hsub : ∀ β, Own X.B (hc ++ q) ι'' β → Own (Own X.B q ι) h2 ι' β := by
  rintro β (hB | ⟨i, rc, hi, hl, hg⟩)
  ·exact .inl (.inl hB)
  ·rcases a3 i rc hi with h1 | ⟨_, h1⟩
   ·obtain ⟨i', rt, e1, e2, e3, _, _, _, e7⟩ := hat i rc h1
    rw [e7] at hg
    exact .inr ⟨i', rt, e2, by rw [← e3]; exact hl, hg⟩
   ·rw [i2 i rc h1] at hg
    exact .inl (.inr ⟨i, rc, h1, hl, hg⟩)
 have K1 : Keep w (k ++ q) ι (Own X.B (k ++ q) ι) w' (hc ++ q) ι'' (Own X.B (hc ++ q) ι'') := by
  refine ⟨fun β hβ hA => ⟨H'.frame β hβ fun hs => ?_, fun ho => ?_⟩, fun r rt hr => ?_⟩
  ·obtain ⟨r, rt, e1, e2, e3⟩ := hS β hs
   exact hA (.inr ⟨r, rt, by rw [Y1d, e1], e2, e3⟩)
  ·rcases ho with hB | ⟨i, rc, hi, hl, hg⟩
   ·exact hA (.inl hB)
   ·rcases a3 i rc hi with h1 | ⟨_, h1⟩
    ·rcases (hplace i rc β h1 hl hg).2 with h3 | ⟨r2, rt2, h3, h4, h5⟩
     ·omega
     ·exact hA (.inr ⟨r2, rt2, by rw [Y1d, h3], h4, h5⟩)
    ·rw [i2 i rc h1] at hg
     exact hA (.inr ⟨i, rc, b2 i rc h1, hl, hg⟩)
  ·rw [Y1d] at hr
   cases hx : k.at r with
   | none =>
    rw [hx] at hr
    exact ⟨rt, a2 r rt hr, Xf _, fun _ => ⟨i2 r rt hr, rfl⟩⟩
   | some y =>
    rw [hx] at hr
    cases hr
    obtain ⟨p0, rc, p1, p2⟩ := backB.spec hbk hx
    refine ⟨rc, a1 r rc p1, by omega, fun hv0 => ?_⟩
    rcases p2 with p2 | ⟨r', x, y, e1, e2, e3, e4, e5, e6, e7⟩
    ·omega
    ·obtain ⟨_, rtx, f1, f2⟩ := H'.pin r' (Y2y ι φ r') x.k (by simp [pinOf, e4, e3, e5])
     rw [e6] at f1
     cases f1
     obtain ⟨g1, g2⟩ := f2 e7
     obtain ⟨i', rt2, d1, d2, d3, d4, d5, d6, d7⟩ := hat r rc p1
     rw [e1] at d1
     cases d1
     rw [e6] at d2
     cases d2
     obtain ⟨r3, rt3, c1, c2, c3, c4, c5, _⟩ := hrn.root r' x e4
     rw [e2] at c1
     cases c1
     rw [Y1d, hx] at c2
     cases c2
     refine ⟨?_, ?_⟩
     ·rw [d7, g1]
      unfold Y2y
      rw [e2]
     ·rw [d5, g2, c5]
 have K2 : ∀ (hh : Hp) (jj : Nat → Bk), (∀ i rt, hh.at i = some rt → Hp.at (hc ++ q) i = some rt ∧ ι'' i = jj i) → Keep w' hh jj (Own (Own X.B q ι) h2 ι') w' (hc ++ q) ι'' (Own X.B (hc ++ q) ι'') := fun hh jj hx =>
  ⟨fun β _ hA => ⟨rfl, fun ho => hA (hsub β ho)⟩, fun r rt hr => ⟨rt, (hx r rt hr).1, Xf _, fun _ => ⟨(hx r rt hr).2, rfl⟩⟩⟩
 have K3 := K2 hc (Y2y ι' ψ) (fun i rt hi => ⟨a1 i rt hi, i1 i rt hi⟩)
 refine ⟨ι'', ?_, VR.keep K3 _ _ (VR.rn hres hv), K1⟩
 exact {
  roots := fun i rc hi hl => by
   rcases a3 i rc hi with h1 | ⟨_, h1⟩
   ·obtain ⟨i', rt, e1, e2, e3, e4, e5, e6, e7⟩ := hat i rc h1
    rw [e7]
    rcases (H'.roots i' rt e2 (by rw [← e3]; exact hl)).rn e4 e5 e6 with hn | ⟨g, arr, c1, c2, c3, c4, c5, c6⟩
    ·exact .inl hn
    ·exact .inr ⟨g, arr, c1, c2, c3, c4, VRL.keep K3 _ _ c5, c6⟩
   ·rw [i2 i rc h1]
    rcases H.roots i rc (b2 i rc h1) hl with hn | ⟨g, arr, c1, c2, c3, c4, c5, c6⟩
    ·exact .inl hn
    ·refine .inr ⟨g, arr, c1, (H'.frame g (Y49 c2) fun hs => ?_).trans c2, c3, c4, VRL.keep K1 _ _ c5, c6⟩
     obtain ⟨r2, rt2, hr2, hl2, hg2⟩ := hS g hs
     have := H.inj i r2 rc rt2 g (b2 i rc h1) (by rw [Y1d, hr2]) hl hl2 c1 hg2
     subst this
     have := hdis i rt2 hr2
     rw [h1] at this
     cases this
  inj := fun i j ri rj g hi hj hli hlj hgi hgj => by
   rcases a3 i ri hi with h1 | ⟨_, h1⟩ <;> rcases a3 j rj hj with h3 | ⟨_, h3⟩
   ·obtain ⟨i', rt, e1, e2, e3, e4, e5, e6, e7⟩ := hat i ri h1
    obtain ⟨j', st, d1, d2, d3, d4, d5, d6, d7⟩ := hat j rj h3
    rw [e7] at hgi
    rw [d7] at hgj
    have := H'.inj i' j' rt st g e2 d2 (by rw [← e3]; exact hli) (by rw [← d3]; exact hlj) hgi hgj
    subst this
    exact injB.sound hinj h1 h3 (by rw [e1, d1]) (by rw [e1]; simp)
   ·rw [i2 j rj h3] at hgj
    exact absurd (.inr ⟨j, rj, h3, hlj, hgj⟩) (hplace i ri g h1 hli hgi).1
   ·rw [i2 i ri h1] at hgi
    exact absurd (.inr ⟨i, ri, h1, hli, hgi⟩) (hplace j rj g h3 hlj hgj).1
   ·rw [i2 i ri h1] at hgi; rw [i2 j rj h3] at hgj
    exact H.inj i j ri rj g (b2 i ri h1) (b2 j rj h3) hli hlj hgi hgj
  place := fun i rc g hi hl hg => by
   rcases a3 i rc hi with h1 | ⟨_, h1⟩
   ·obtain ⟨p1, p2⟩ := hplace i rc g h1 hl hg
    refine ⟨fun hB => p1 (.inl hB), ?_⟩
    rcases p2 with p2 | ⟨r2, rt2, e1, e2, e3⟩
    ·exact .inl (X0g H.size p2)
    ·exact (H.place r2 rt2 g (by rw [Y1d, e1]) e2 e3).2
   ·rw [i2 i rc h1] at hg
    exact H.place i rc g (b2 i rc h1) hl hg
  os := H'.os.trans H.os
  tape := H'.tape.trans H.tape
  output := H'.output.trans H.output
  size := X0g H.size H'.size
  frame := fun β hβ hS2 => by
   refine (H'.frame β (X0l hβ H.size) fun hs => ?_).trans (H.frame β hβ hS2)
   obtain ⟨r, rt, hr, hl, hg⟩ := hS β hs
   rcases (H.place r rt β (by rw [Y1d, hr]) hl hg).2 with h1 | h1
   ·omega
   ·exact hS2 h1
  old := H.old
  glob := H.glob
  pin := fun r b kk hp => by
   obtain ⟨h1, rt, h3, h4⟩ := H.pin r b kk hp
   refine ⟨h1, ?_⟩
   obtain ⟨rt', e1, e2, e3⟩ := K1.hp r rt h3
   refine ⟨rt', e1, fun hv0 => ?_⟩
   obtain ⟨e4, e5⟩ := e3 (by omega)
   rw [e4, e5]
   exact h4 (by omega) }
theorem OpsW.callR {o : Oper} {f : FuncId} {xs : List Operand} {ts : Array TypeId} {rest : List Oper} {K : Env → Hp → Prop} (k q k2 : Hp) (φ : Nat → Option Nat) (ho : o.op = .call ⟨.value (.func f), xs.toArray, ts⟩) (hgu : o.guard = none) (hc : Y1r P f = true)
  (ys : List AV) (R : AV → Hp → Prop) (hd : o.dst.all (· < N) = true) (hgd : ∀ x ∈ xs, gd (rdo env x)) (hargs : RnL (k ++ q) k2 φ (xs.map fun x => st (rdo env x)) ys) (hs : Spec P f ys k2 R)
  (hdis : ∀ i rt, k.at i = some rt → q.at i = none) (hb : bijB k k2 φ = true) (hrn : RnH (k ++ q) k2 φ k2)
  (hR : ∀ r2 h2, R r2 h2 → ∃ (r : AV) (hcc : Hp) (ψ : Nat → Option Nat), (∀ i rt, hcc.at i = some rt → q.at i = none) ∧ backB k k2 h2 hcc φ ψ = true ∧ injB hcc ψ = true ∧ RnH h2 hcc ψ hcc ∧ RnL h2 hcc ψ [r2] [r] ∧ OpsW P N ops rest (setd env o.dst r) (hcc ++ q) K) : OpsW P N ops (o :: rest) env (k ++ q) K := by
 intro X a w ι Q H S hQ
 refine wpList_plain hgu fun K' hK' => wp_call ho hc ?_
 have hvs := args_vr xs hgd (fun x _ => S.eval H.globOK x)
 have hvs' := VRL.rn (ι := ι) hargs hvs
 refine (hs w (Y2y ι φ) (Own X.B q ι) _ (H.startR hdis hb hrn) (by rw [own_ren hdis hb hrn]; exact hvs')).mono ?_
 rintro e w' ⟨v, r2, h2, ι', rfl, hRr, H', hv⟩
 obtain ⟨r, hcc, ψ, e1, e2, e3, e4, e5, e6⟩ := hR r2 h2 hRr
 obtain ⟨ι'', Hj, hvj, Kj⟩ := join_callR H hdis hb hrn H' e1 e2 e3 e4 e5 hv
 refine ⟨v, rfl, hK' _ _ ?_⟩
 refine e6 X _ w' ι'' Q Hj ?_ hQ
 exact Slots.putd ⟨S.size, S.defers, fun i => VR.keep Kj _ _ (S.at_ i)⟩ hd hvj
theorem AW.endcast {c : Code} {Q : Exit → Env → Hp → Prop} (hw : AW P N c env h (fun e en hp => ∃ en' hp', StC en hp en' hp' ∧ Q e en' hp')) : AW P N c env h Q := by
 intro X a w ι H S
 refine wp_mono (hw X a w ι H S) ?_
 rintro e a' w' ⟨env', h', ι', ⟨en, hp, ⟨φ, R, E⟩, hq⟩, H', S'⟩
 exact ⟨en, hp, _, hq, H'.cast R, Slots.cast H' R E S'⟩
end
end
section
variable {P : Program} {N : Nat} {ops : Array Oper} {env : Env} {h : Hp}
def drawOkP (N : Nat) (ops : Array Oper) (m : Nat) (ds : List Nat) : Bool :=
 (ds.all fun d => decide (d < m)) &&
 decide (m ≤ ops.size) && ((List.range m).all fun i => match ops[i]? with
  | none => false
  | some o => o.dst.all (· < N) && o.after.all (fun e => !Region.binds .any e || e.on < i) &&
   (List.range m).all fun j => match ops[j]? with
    | none => false
    | some p => match p.dst with
     | none => true
     | some d => if i = j then !(o.looksAt ops).contains d else
       o.dst != some d && (!(o.looksAt ops).contains d || (j < i && o.after.any fun e => Region.binds .any e && e.on == j) || (i < j && p.after.any fun e => Region.binds .any e && e.on == i))) &&
 ((List.range ops.size).all fun i => decide (i < m) || match ops[i]? with
  | none => false
  | some o => o.after.all (fun e => !Region.binds .any e || e.on < i) && ((List.range i).all fun j => ds.contains j || reachB ops ops.size i j))
structure DrawOkP (N : Nat) (ops : Array Oper) (m : Nat) (ds : List Nat) : Prop where
 low : ∀ d ∈ ds, d < m
 le : m ≤ ops.size
 dst : ∀ (i : Nat) (o : Oper), i < m → ops[i]? = some o → o.dst.all (· < N) = true
 back : ∀ (i : Nat) (o : Oper), ops[i]? = some o → ∀ e ∈ o.after, Region.binds .any e = true → e.on < i
 self : ∀ (i : Nat) (o : Oper) (d : Nat), i < m → ops[i]? = some o → o.dst = some d → d ∉ o.looksAt ops
 one : ∀ (i j : Nat) (o p : Oper) (d : Nat), i < m → j < m → ops[i]? = some o → ops[j]? = some p → o.dst = some d → p.dst = some d → i = j
 look : ∀ (i j : Nat) (o p : Oper) (d : Nat), i < m → j < m → ops[i]? = some o → ops[j]? = some p → i ≠ j → p.dst = some d → d ∈ o.looksAt ops →
  (j < i ∧ ∃ e ∈ o.after, Region.binds .any e = true ∧ e.on = j) ∨ (i < j ∧ ∃ e ∈ p.after, Region.binds .any e = true ∧ e.on = i)
 tail : ∀ (i : Nat) (o : Oper), m ≤ i → ops[i]? = some o → ∀ j, j < i → j ∉ ds → reachB ops ops.size i j = true
theorem drawOkP.spec {m : Nat} {ds : List Nat} (hk : drawOkP N ops m ds = true) : DrawOkP N ops m ds := by
 unfold drawOkP at hk
 simp only [X3, decide_eq_true_eq] at hk
 obtain ⟨⟨⟨hlow, hle⟩, hk⟩, ht⟩ := hk
 have key : ∀ (i : Nat) (o : Oper), i < m → ops[i]? = some o → (o.dst.all (· < N) = true) ∧ (∀ e ∈ o.after, Region.binds .any e = true → e.on < i) ∧
   ∀ (j : Nat) (p : Oper) (d : Nat), j < m → ops[j]? = some p → p.dst = some d → (i = j → d ∉ o.looksAt ops) ∧ (i ≠ j → o.dst ≠ some d ∧ (d ∈ o.looksAt ops →
    (j < i ∧ ∃ e ∈ o.after, Region.binds .any e = true ∧ e.on = j) ∨ (i < j ∧ ∃ e ∈ p.after, Region.binds .any e = true ∧ e.on = i))) := by
  intro i o him ho
  have h1 := Xa.1 hk i (Xo.2 him)
  simp only [ho, X3] at h1
  obtain ⟨⟨h1, h2⟩, h3⟩ := h1
  refine ⟨h1, fun e he hb => ?_, fun j p d hjm hp hd => ?_⟩
  ·have := Xr.1 h2 e he
   simpa [hb] using this
  ·have h4 := Xa.1 h3 j (Xo.2 hjm)
   simp only [hp, hd] at h4
   refine ⟨fun e => ?_, fun e => ?_⟩
   ·rw [if_pos e] at h4; simpa using h4
   ·rw [if_neg e] at h4
    simp only [X3, bne_iff_ne, ne_eq, X0b] at h4
    refine ⟨h4.1, fun hl => ?_⟩
    rcases h4.2 with (h5 | h5) | h5
    ·simp [hl] at h5
    ·simp only [X3, decide_eq_true_eq] at h5
     obtain ⟨h6, h7⟩ := h5
     obtain ⟨e, he, hb⟩ := X1c.1 h7
     simp only [X3, beq_iff_eq] at hb
     exact .inl ⟨h6, e, he, hb.1, hb.2⟩
    ·simp only [X3, decide_eq_true_eq] at h5
     obtain ⟨h6, h7⟩ := h5
     obtain ⟨e, he, hb⟩ := X1c.1 h7
     simp only [X3, beq_iff_eq] at hb
     exact .inr ⟨h6, e, he, hb.1, hb.2⟩
 have keyT : ∀ (i : Nat) (o : Oper), m ≤ i → ops[i]? = some o → (∀ e ∈ o.after, Region.binds .any e = true → e.on < i) ∧ ∀ j, j < i → j ∉ ds → reachB ops ops.size i j = true := by
  intro i o him ho
  have hi : i < ops.size := (Xu.1 ho).1
  have h1 := Xa.1 ht i (Xo.2 hi)
  simp only [ho, X0b, decide_eq_true_eq, X3] at h1
  rcases h1 with h1 | ⟨h1, h2⟩
  ·omega
  ·refine ⟨fun e he hb => ?_, fun j hj hnd => ?_⟩
   ·have := Xr.1 h1 e he
    simpa [hb] using this
   ·have := Xa.1 h2 j (Xo.2 hj)
    simpa [hnd] using this
 refine ⟨fun d hd => by have := Xa.1 hlow d hd; simpa using this, hle, fun i o hi ho => (key i o hi ho).1, fun i o ho => ?_, fun i o d hi ho hd => ((key i o hi ho).2.2 i o d hi ho hd).1 rfl,
  fun i j o p d hi hj ho hp hd he => ?_, fun i j o p d hi hj ho hp hij hd hl => (((key i o hi ho).2.2 j p d hj hp hd).2 hij).2 hl, fun i o hi ho => (keyT i o hi ho).2⟩
 ·by_cases hi : i < m
  ·exact (key i o hi ho).2.1
  ·exact (keyT i o (by omega) ho).1
 ·by_cases hij : i = j
  ·exact hij
  ·exact absurd hd (((key i o hi ho).2.2 j p d hj hp he).2 hij).1
theorem wpAny_tailP {Q : Exit → Act → World → Prop} {m0 : Nat} {ds : List Nat} (D : DrawOkP N ops m0 ds) : ∀ (n m fuel : Nat) (listed : Array Bool) (a : Act) (w : World), m0 ≤ m → ops.size = m + n → n ≤ fuel → listed.size = ops.size → (∀ i, i < ops.size → listed.getD i false = decide (i < m)) →
  wpList P ops Q (ops.toList.drop m) a w → wpAny P .any ops Q fuel listed a w := by
 have rdy : ∀ (m : Nat) (listed : Array Bool), m0 ≤ m → listed.size = ops.size → (∀ i, i < ops.size → listed.getD i false = decide (i < m)) → ∀ i, i ∈ Region.ready .any ops listed ↔ (i = m ∧ m < ops.size) := by
  intro m listed hm hsz hl i
  unfold Region.ready
  rw [X0n, Xo]
  have gd : ∀ i, i < ops.size → listed.getD i true = decide (i < m) := by
   intro i hi
   have := hl i hi
   simp only [X5, Xe (show i < listed.size by omega), Xy] at this ⊢
   exact this
  constructor
  ·rintro ⟨hi, h2⟩
   have ho : ops[i]? = some ops[i] := Xe hi
   simp only [ho, Xx, Xy, X3, X0s, gd i hi] at h2
   have him : m ≤ i := by simpa using h2.1
   by_cases hlt : m < i
   ·exfalso
    have hre := D.tail i _ (by omega) ho m hlt (fun hd => by have := D.low m hd; omega)
    have hpre : ∀ e ∈ (ops[i]).after, Region.binds .any e = true → e.on < m := fun e he hb => by
     have := Xr.1 h2.2 e he
     have hlt := D.back i _ ho e he hb
     rw [hl e.on (by omega)] at this
     simpa [hb] using this
    have := Y53 (S := fun k => decide (k < m)) (fun k o hk hok e he hb => by
     have h1 := D.back k o hok e he hb
     simp only [decide_eq_true_eq] at hk ⊢
     omega) ops.size i m _ ho (fun e he hb => by simpa using hpre e he hb) hre
    simp at this
   ·exact ⟨by omega, by omega⟩
  ·rintro ⟨rfl, hi⟩
   have ho : ops[i]? = some ops[i] := Xe hi
   refine ⟨hi, ?_⟩
   simp only [ho, Xx, Xy, X3, X0s, gd i hi]
   refine ⟨by simp, Xr.2 fun e he => ?_⟩
   cases hb : Region.binds .any e with
   | false => simp
   | true =>
    have := D.back i _ ho e he hb
    simp [hl e.on (by omega), this]
 intro n
 induction n with
 | zero =>
  intro m fuel listed a w hm hsz hf hls hl hw
  have hr : Region.ready .any ops listed = [] := List.eq_nil_iff_forall_not_mem.2 fun i hi => by
   have := (rdy m listed hm hls hl i).1 hi
   omega
  have hd : ops.toList.drop m = [] := List.drop_eq_nil_of_le (by simp; omega)
  rw [hd] at hw
  cases fuel with
  | zero => exact ⟨hr, hw⟩
  | succ fuel => exact ⟨fun _ => hw, fun i hi => by rw [hr] at hi; cases hi⟩
 | succ n ih =>
  intro m fuel listed a w hm hsz hf hls hl hw
  cases fuel with
  | zero => omega
  | succ fuel =>
   have hlt : m < ops.size := by omega
   have hmem : m ∈ Region.ready .any ops listed := (rdy m listed hm hls hl m).2 ⟨rfl, hlt⟩
   refine ⟨fun hr => (by rw [hr] at hmem; cases hmem), fun i hi => ?_⟩
   obtain ⟨rfl, _⟩ := (rdy m listed hm hls hl i).1 hi
   have ho : ops[i]? = some ops[i] := Xe hlt
   have hd : ops.toList.drop i = ops[i] :: ops.toList.drop (i + 1) := by
    rw [X0k (by simpa using hlt)]
    simp
   rw [hd] at hw
   have hstep : wpOp P ops Q i (wpList P ops Q (ops.toList.drop (i + 1))) a w := by
    unfold wpOp
    simp only [ho]
    exact hw
   refine wpOp_mono (fun a' w' h' => ?_) hstep
   refine ih (i + 1) fuel _ a' w' (by omega) (by omega) (by omega) (by simpa using hls) (fun k hk => ?_) h'
   simp only [X5]
   by_cases hki : i = k
   ·subst hki; rw [Xg (by omega)]; simp
   ·rw [Xl hki]
    have := hl k hk
    simp only [X5] at this
    rw [this]
    by_cases h1 : k < i
    ·simp [h1]; omega
    ·have : ¬ k < i + 1 := by omega
     simp [h1, this]
end
section
variable {P : Program} {N : Nat} {ops : Array Oper} {env : Env} {h : Hp}
theorem Quiet.nilCheck {o : Oper} {x : Operand} {r ver off : Nat} (ho : o.op = .nilCheck x) (hg : gpo ops env o (gd (rdo env x) ∧ st (rdo env x) = .ref r ver off ∧ (h.at r).map (·.ver) = some ver)) :
  Quiet P ops o env h (gav ops env o (.ref r ver off)) :=
 Y1k hg fun ⟨hgd, hsl, hn⟩ X a w ι Q H hop next hnx => by
  have hv := (hop x (by simp [ho, Op.operands])).st hgd
  rw [hsl] at hv
  have hv' := hv
  obtain ⟨rt, g, _, _, _, hp⟩ := Y4b hv hn
  have hex : (execOp a.eval o).run P w = .ok (.value (.pointer (some ⟨g, off, none⟩))) w := by simp [execOp, ho, hp]
  simp only [Oper.wp, hex, Oper.upon]
  refine hnx _ _ (Below.refl _ _) ?_
  rw [← hp]
  exact hv'
theorem Quiet.nilCheckI {o : Oper} {x : Operand} {cs : List IV} {off : Nat} (ho : o.op = .nilCheck x) (hg : gpo ops env o (gd (rdo env x) ∧ st (rdo env x) = .ipt cs off)) :
  Quiet P ops o env h (gav ops env o (.ipt cs off)) :=
 Y1k hg fun ⟨hgd, hsl⟩ X a w ι Q H hop next hnx => by
  have hv := (hop x (by simp [ho, Op.operands])).st hgd
  rw [hsl] at hv
  have hv' := hv
  simp only [VR] at hv
  obtain ⟨b, l, hp, _⟩ := hv
  have hex : (execOp a.eval o).run P w = .ok (.value (.pointer (some (b.add off)))) w := by simp [execOp, ho, hp]
  simp only [Oper.wp, hex, Oper.upon]
  refine hnx _ _ (Below.refl _ _) ?_
  rw [← hp]
  exact hv'
end
section
variable {P : Program} {N : Nat} {ops : Array Oper} {env : Env} {h : Hp}
mutual
theorem VR.lower {w w0 : World} {g : Hp} {ι ι0 : Nat → Bk} {A A0 : Nat → Prop} (hb : ∀ s rt, h.at s = some rt → g.at s = some rt) : ∀ (x : AV) (v v0 : Value), VR w0 h ι0 A0 x v0 → VR w g ι A x v → VR w h ι A x v
 | .any, _, _, _, _ => by simp only [VR]
 | .im x, v, v0, _, hv => by simpa only [VR] using hv
 | .agg cs, v, v0, h0, hv => by
  simp only [VR] at h0 hv ⊢
  obtain ⟨l, hl, hr⟩ := hv
  obtain ⟨l0, _, hr0⟩ := h0
  exact ⟨l, hl, VRL.lower hb cs l l0 hr0 hr⟩
 | .tup cs, v, v0, h0, hv => by
  simp only [VR] at h0 hv ⊢
  obtain ⟨l, hl, hr⟩ := hv
  obtain ⟨l0, _, hr0⟩ := h0
  exact ⟨l, hl, VRL.lower hb cs l l0 hr0 hr⟩
 | .ipt cs off, v, v0, _, hv => by simpa only [VR] using hv
 | .ref r ver off, v, v0, h0, hv => by
  simp only [VR] at h0 hv ⊢
  obtain ⟨rt, h1, _⟩ := h0
  obtain ⟨rt2, h2, h3⟩ := hv
  rw [hb r rt h1] at h2
  cases h2
  exact ⟨rt, h1, h3⟩
 | .rsl r ver off n, v, v0, h0, hv => by
  simp only [VR] at h0 hv ⊢
  obtain ⟨rt, h1, _⟩ := h0
  obtain ⟨rt2, h2, h3⟩ := hv
  rw [hb r rt h1] at h2
  cases h2
  exact ⟨rt, h1, h3⟩
 | .cnd c x, v, v0, h0, hv => by
  simp only [VR] at h0 hv ⊢
  exact ⟨fun hc => VR.lower hb x v v0 (h0.1 hc) (hv.1 hc), hv.2⟩
 | .fnv f cs, v, v0, h0, hv => by
  simp only [VR] at h0 hv ⊢
  obtain ⟨l, hl, hr⟩ := hv
  obtain ⟨l0, _, hr0⟩ := h0
  exact ⟨l, hl, VRL.lower hb cs l l0 hr0 hr⟩
theorem VRL.lower {w w0 : World} {g : Hp} {ι ι0 : Nat → Bk} {A A0 : Nat → Prop} (hb : ∀ s rt, h.at s = some rt → g.at s = some rt) : ∀ (cs : List AV) (l l0 : List Value), VRL w0 h ι0 A0 cs l0 → VRL w g ι A cs l → VRL w h ι A cs l
 | [], _, _, _, hv => by simpa only [VRL] using hv
 | c :: cs, l, l0, h0, hv => by
  simp only [VRL] at h0 hv ⊢
  obtain ⟨v, l', hl, hv, hr⟩ := hv
  obtain ⟨v0, l0', _, hv0, hr0⟩ := h0
  exact ⟨v, l', hl, VR.lower hb c v v0 hv0 hv, VRL.lower hb cs l' l0' hr0 hr⟩
end
section
variable {X : Ctx} {K : Env → Hp → Prop} {g g' : Hp} {effs : List (Nat × Nat)} {r m i : Nat} {ι : Nat → Bk} {S : Nat → Bool} {A : Nat → Prop} {o : Oper} {w : World}
theorem own_congr {B : Nat → Prop} (he : ∀ q, g'.at q = g.at q) : Own B g' ι = Own B g ι := by
 funext β
 simp only [Own, he]
theorem Keep.congr (he : ∀ q, g'.at q = g.at q) : Keep w g ι A w g' ι A :=
 ⟨fun β _ hA => ⟨rfl, hA⟩, fun r rt hr => ⟨rt, by rw [he]; exact hr, Xf _, fun _ => ⟨rfl, rfl⟩⟩⟩
theorem RootOK.keepS {b : Bk} {rt : Rt} (K : Keep w g ι A w g' ι A) (hr : RootOK w g ι A b rt) : RootOK w g' ι A b rt := by
 rcases hr with hr | ⟨g, arr, h1, h2, h3, h4, h5, h6⟩
 ·exact .inl hr
 ·exact .inr ⟨g, arr, h1, h2, h3, h4, VRL.keep K _ _ h5, h6⟩
theorem Hol.congr (H : Hol X g ι w) (he : ∀ q, g'.at q = g.at q) : Hol X g' ι w where
 roots r rt hr hl := by
  rw [own_congr he]
  exact (H.roots r rt (by rw [← he]; exact hr) hl).keepS (Keep.congr he)
 inj r r' rt rt' k h1 h2 := H.inj r r' rt rt' k (by rw [← he]; exact h1) (by rw [← he]; exact h2)
 place r rt k h1 := H.place r rt k (by rw [← he]; exact h1)
 os := H.os
 tape := H.tape
 output := H.output
 size := H.size
 frame := H.frame
 old := H.old
 glob := H.glob
 pin r b k hp := by
  obtain ⟨h1, rt, h2, h3⟩ := H.pin r b k hp
  exact ⟨h1, rt, by rw [he]; exact h2, h3⟩
def ctxOf (X : Ctx) (h g : Hp) (ι : Nat → Bk) (w : World) : Ctx :=
 ⟨w, fun β => Own X.B g ι β ∧ ¬ ∃ r rt, h.at r = some rt ∧ rt.live = true ∧ (ι r).blk = some β, fun β => ∃ r rt, h.at r = some rt ∧ rt.live = true ∧ (ι r).blk = some β, fun _ => none⟩
theorem own_ctxOf (hb : ∀ s rt, h.at s = some rt → g.at s = some rt) : Own (ctxOf X h g ι w).B h ι = Own X.B g ι := by
 funext β
 refine propext ⟨?_, fun ho => ?_⟩
 ·rintro (⟨h1, _⟩ | ⟨r, rt, h1, h2, h3⟩)
  ·exact h1
  ·exact .inr ⟨r, rt, hb r rt h1, h2, h3⟩
 ·by_cases hx : ∃ r rt, h.at r = some rt ∧ rt.live = true ∧ (ι r).blk = some β
  ·exact .inr hx
  ·exact .inl ⟨ho, hx⟩
theorem Hol.only {X0 : Ctx} {ι0 : Nat → Bk} {w0 : World} (H : Hol X g ι w) (hb : ∀ s rt, h.at s = some rt → g.at s = some rt) (H0 : Hol X0 h ι0 w0) (hi : ∀ r rt, h.at r = some rt → ι r = ι0 r) : Hol (ctxOf X h g ι w) h ι w where
 roots r rt hr hl := by
  rw [own_ctxOf hb]
  have h1 := H.roots r rt (hb r rt hr) hl
  have h0 := H0.roots r rt hr hl
  rcases h1 with h1 | ⟨k, arr, c1, c2, c3, c4, c5, c6⟩
  ·exact .inl h1
  ·right
   refine ⟨k, arr, c1, c2, c3, c4, ?_, c6⟩
   rcases h0 with ⟨d1, d2, d3⟩ | ⟨k0, arr0, d1, d2, d3, d4, d5, d6⟩
   ·rw [d2] at c5 ⊢
    simpa only [VRL] using c5
   ·exact VRL.lower hb _ _ _ d5 c5
 inj r r' rt rt' k h1 h2 := H.inj r r' rt rt' k (hb _ _ h1) (hb _ _ h2)
 place r rt k h1 hl hk := ⟨fun hB => hB.2 ⟨r, rt, h1, hl, hk⟩, .inr ⟨r, rt, h1, hl, hk⟩⟩
 os := rfl
 tape := rfl
 output := rfl
 size := Xf _
 frame _ _ _ := rfl
 old β hB := by
  refine ⟨?_, hB.2⟩
  rcases hB.1 with h1 | ⟨r, rt, h1, h2, h3⟩
  ·exact X0l (H.old β h1).1 H.size
  ·obtain ⟨arr, h4, _⟩ := (H.roots r rt h1 h2).row h3
   exact Y49 h4
 glob := H.globOK.keep fun β _ hn => ⟨rfl, fun ho => hn (by
  rcases ho with ho | ⟨r, rt, h1, h2, h3⟩
  ·exact ho.1
  ·exact .inr ⟨r, rt, hb r rt h1, h2, h3⟩)⟩
 pin _ _ _ hp := by cases hp
def RStep (P : Program) (o : Oper) (env : Env) (h : Hp) (r : Nat) (rt' : Rt) (av : AV) : Prop :=
 ∀ (X : Ctx) (a : Act) (w : World) (ι : Nat → Bk) (Q : Exit → Act → World → Prop) (next : Act → World → Prop), Hol X h ι w → (∀ x, x ∈ o.op.operands → VR w h ι (Own X.B h ι) (rdo env x) (a.eval x)) →
  (∀ b' w' v, Hol X ((r, rt') :: h) (upd ι r b') w' → Keep w h ι (Own X.B h ι) w' ((r, rt') :: h) (upd ι r b') (Own X.B ((r, rt') :: h) (upd ι r b')) →
   VR w' ((r, rt') :: h) (upd ι r b') (Own X.B ((r, rt') :: h) (upd ι r b')) av v → next (a.put o.dst v) w') → o.wp P a w next Q
theorem RStep.alloc {e : TypeId} {z : List Value} (ho : o.op = .alloc e) (r : Nat) (hr : h.at r = none) (hz : zc P e = some z) (hz1 : z.all (·.oneCell') = true) : RStep P o env h r ⟨0, true, e, z.length, z.map fun v => .im (.val v)⟩ (.ref r 0 0) := by
 intro X a w ι Q next H hop hn
 obtain ⟨u, hu, hcu⟩ := zc_some (w := w) hz
 have hlen : u.cells.size = z.length := by rw [← hcu]; simp
 have htk : u.cells.toList.take (z.map fun v => AV.im (.val v)).length = z := by rw [hcu]; exact take_all (by simp)
 obtain ⟨H', K'⟩ := H.alloc r hr e z.length 1 (z.map fun v => .im (.val v)) u.cells (by omega) (by simp [maxLen]) (by rw [htk]; exact VRL.vals z) (by rw [htk]; exact fun v hv => Xa.1 hz1 v hv)
 have hrun : (execOp a.eval o).run P w = .ok (.value (.pointer (some ⟨w.heap.size, 0, none⟩))) (w.alloc (.cells u.cells e)) := by
  simp [execOp, ho, Instr.alloc, newVar, newRow, X6, hu]
 simp only [Oper.wp, hrun, Oper.upon]
 exact hn _ _ _ H' K' (VR.newref (rt := ⟨0, true, e, _, _⟩) rfl 0)
theorem RStep.append {s x : Operand} {t u e : TypeId} {k bytes : Nat} {z : List Value} (ho : o.op = .call ⟨.builtin .append, #[s, x], #[t, u]⟩)
  {ver n : Nat} {rt : Rt} {news : List AV} (E : Elem P t e k bytes z) (hs : rdo env s = .rsl r ver 0 n) (hrt : h.at r = some rt) (hver : rt.ver = ver) (hl : rt.live = true) (he : rt.e = e) (hk : rt.k = k) (hn : n * k ≤ rt.cs.length)
  (hx : gd (rdo env x)) (src : SrcA P h u k (st (rdo env x)) m news) (hsz : (n + m) * bytes ≤ 140737488355328) (hmx : n + m ≤ 140737488355328) :
  RStep P o env h r ⟨ver + 1, true, e, k, rt.cs.take (n * k) ++ news⟩ (.rsl r (ver + 1) 0 (n + m)) := by
 intro X a w ι Q next H hop hnx
 obtain ⟨hud, hsrc⟩ := src
 obtain ⟨hlen, l, hvl, hl1, hll, hfc⟩ := hsrc X ι w (a.eval x) H ((hop x (by simp [ho, Op.operands, Call.operands])).st hx)
 exact append_core ho E hrt hver hl he hk hn hsz hmx hud H (hs ▸ hop s (by simp [ho, Op.operands, Call.operands])) hlen hvl hl1 hll hfc hnx
def effAt : List (Nat × Nat) → Nat → Option Nat
 | [], _ => none
 | (i, r) :: l, j => if i = j then some r else effAt l j
def gAt : List (Option (Nat × Rt)) → Hp → Hp
 | [], g => g
 | none :: l, g => gAt l g
 | some p :: l, g => gAt l (p :: g)
def stS (S : Nat → Bool) (r : Nat) : Nat → List (Option (Nat × Rt)) → Option Rt → Option Rt
 | _, [], d => d
 | n, none :: l, d => stS S r (n + 1) l d
 | n, some (q, rt) :: l, d => stS S r (n + 1) l (if S n = true ∧ q = r then some rt else d)
theorem stS.congr {S' : Nat → Bool} : ∀ (l : List (Option (Nat × Rt))) (n : Nat) (d : Option Rt), (∀ j rt, l[j]? = some (some (r, rt)) → S (n + j) = S' (n + j)) → stS S r n l d = stS S' r n l d
 | [], n, d, _ => rfl
 | none :: l, n, d, hc => by
  simp only [stS]
  exact stS.congr l (n + 1) d fun j rt hj => by
   have := hc (j + 1) rt (by simpa using hj)
   rwa [show n + (j + 1) = n + 1 + j by omega] at this
 | some (q, rt) :: l, n, d, hc => by
  simp only [stS]
  have e : (if S n = true ∧ q = r then some rt else d) = (if S' n = true ∧ q = r then some rt else d) := by
   by_cases hq : q = r
   ·subst hq
    have := hc 0 rt (by simp)
    simp only [X0d] at this
    rw [this]
   ·simp [hq]
  rw [e]
  exact stS.congr l (n + 1) _ fun j rt hj => by
   have := hc (j + 1) rt (by simpa using hj)
   rwa [show n + (j + 1) = n + 1 + j by omega] at this
theorem stS.noneOf : ∀ (l : List (Option (Nat × Rt))) (n : Nat) (d : Option Rt), (∀ j rt, l[j]? = some (some (r, rt)) → S (n + j) = false) → stS S r n l d = d
 | [], n, d, _ => rfl
 | none :: l, n, d, hc => by
  simp only [stS]
  exact stS.noneOf l (n + 1) d fun j rt hj => by
   have := hc (j + 1) rt (by simpa using hj)
   rwa [show n + (j + 1) = n + 1 + j by omega] at this
 | some (q, rt) :: l, n, d, hc => by
  simp only [stS]
  have e : (if S n = true ∧ q = r then some rt else d) = d := by
   by_cases hq : q = r
   ·subst hq
    have := hc 0 rt (by simp)
    simp only [X0d] at this
    simp [this]
   ·simp [hq]
  rw [e]
  exact stS.noneOf l (n + 1) d fun j rt hj => by
   have := hc (j + 1) rt (by simpa using hj)
   rwa [show n + (j + 1) = n + 1 + j by omega] at this
theorem stS.last : ∀ (l : List (Option (Nat × Rt))) (n i : Nat) (rt : Rt) (d : Option Rt), l[i]? = some (some (r, rt)) → S (n + i) = true → (∀ j rt', i < j → l[j]? = some (some (r, rt')) → S (n + j) = false) → stS S r n l d = some rt
 | [], n, i, rt, d, hi, _, _ => by simp at hi
 | k :: l, n, 0, rt, d, hi, hS, hc => by
  simp at hi
  subst hi
  simp only [stS]
  rw [if_pos ⟨by simpa using hS, trivial⟩]
  exact stS.noneOf l (n + 1) _ fun j rt' hj => by
   have := hc (j + 1) rt' (by omega) (by simpa using hj)
   rwa [show n + (j + 1) = n + 1 + j by omega] at this
 | none :: l, n, i + 1, rt, d, hi, hS, hc => by
  simp only [stS]
  exact stS.last l (n + 1) i rt d (by simpa using hi) (by rw [← hS]; congr 1; omega) fun j rt' hj hl => by
   have := hc (j + 1) rt' (by omega) (by simpa using hl)
   rwa [show n + (j + 1) = n + 1 + j by omega] at this
 | some (q, rt0) :: l, n, i + 1, rt, d, hi, hS, hc => by
  simp only [stS]
  exact stS.last l (n + 1) i rt _ (by simpa using hi) (by rw [← hS]; congr 1; omega) fun j rt' hj hl => by
   have := hc (j + 1) rt' (by omega) (by simpa using hl)
   rwa [show n + (j + 1) = n + 1 + j by omega] at this
theorem gAt.st : ∀ (l : List (Option (Nat × Rt))) (n i : Nat) (g : Hp), (gAt (l.take i) g).at r = stS (fun j => decide (j < n + i)) r n l (g.at r)
 | [], n, i, g => by simp [gAt, stS]
 | k :: l, n, 0, g => by
  rw [stS.noneOf _ _ _ (fun j rt _ => by simp)]
  simp [gAt]
 | none :: l, n, i + 1, g => by
  simp only [X07, gAt, stS]
  rw [gAt.st l (n + 1) i g, show n + 1 + i = n + (i + 1) by omega]
 | some (q, rt) :: l, n, i + 1, g => by
  simp only [X07, gAt, stS]
  rw [gAt.st l (n + 1) i ((q, rt) :: g), show n + 1 + i = n + (i + 1) by omega]
  congr 1
  simp only [Hp.at]
  have : decide (n < n + (i + 1)) = true := by simp
  simp only [this, true_and]
def DOps (P : Program) (ops : Array Oper) (h : Hp) (effs : List (Nat × Nat)) : Nat → List Oper → Env → Hp → (Env → Hp → Prop) → Prop
 | _, [], env, g, K => K env g
 | i, o :: l, env, g, K => match effAt effs i with
  | none => ∃ av, Quiet P ops o env h av ∧ DOps P ops h effs (i + 1) l (setd env o.dst av) g K
  | some r => ∃ rt' av, o.guard = none ∧ h.at r = none ∧ (∀ g' : Hp, g'.at r = g.at r → (∀ s rt, h.at s = some rt → g'.at s = some rt) → RStep P o env g' r rt' av) ∧ DOps P ops h effs (i + 1) l (setd env o.dst av) ((r, rt') :: g) K
theorem DOps.nil (hK : K env g) : DOps P ops h effs i [] env g K := hK
theorem DOps.q : ∀ (n : Nat) {i : Nat} {l : List Oper} {env : Env}, ((List.range n).all fun j => (effAt effs (i + j)).isNone) = true → QOps P ops h (l.take n) env (fun e => DOps P ops h effs (i + n) (l.drop n) e g K) → DOps P ops h effs i l env g K
 | 0, i, l, env, _, hq => by simpa [QOps] using hq
 | n + 1, i, [], env, _, hq => by simpa [QOps, DOps] using hq
 | n + 1, i, o :: l, env, ha, hq => by
  simp only [X07, QOps, X19] at hq
  obtain ⟨av, h1, h2⟩ := hq
  have h0 := Xa.1 ha 0 (by simp)
  simp only [X0d, Option.isNone_iff_eq_none] at h0
  simp only [DOps, h0]
  refine ⟨av, h1, DOps.q n (Xa.2 fun j hj => ?_) (by rwa [show i + 1 + n = i + (n + 1) by omega])⟩
  have := Xa.1 ha (j + 1) (by simpa using hj)
  rwa [show i + (j + 1) = i + 1 + j by omega] at this
theorem DOps.e {l : List Oper} {rt' : Rt} {av : AV} (r : Nat) (he : effAt effs i = some r) (hg : o.guard = none) (hr : h.at r = none)
  (hs : ∀ g' : Hp, g'.at r = g.at r → (∀ s rt, h.at s = some rt → g'.at s = some rt) → RStep P o env g' r rt' av) (hw : DOps P ops h effs (i + 1) l (setd env o.dst av) ((r, rt') :: g) K) : DOps P ops h effs i (o :: l) env g K := by
 simp only [DOps, he]
 exact ⟨rt', av, hg, hr, hs, hw⟩
theorem DOps.vals : ∀ (l : List Oper) (i : Nat) (env : Env) (g : Hp), DOps P ops h effs i l env g K → ∃ (vs : List AV) (ks : List (Option (Nat × Rt))), vs.length = l.length ∧ ks.length = l.length ∧ K (Y3j env l vs) (gAt ks g) ∧
  ∀ (j : Nat) (o : Oper) (v : AV) (k : Option (Nat × Rt)), l[j]? = some o → vs[j]? = some v → ks[j]? = some k → (k.map (·.1) = effAt effs (i + j)) ∧ match k with
   | none => Quiet P ops o (Y3j env (l.take j) (vs.take j)) h v
   | some (r, rt') => o.guard = none ∧ h.at r = none ∧ ∀ g' : Hp, g'.at r = (gAt (ks.take j) g).at r → (∀ s rt, h.at s = some rt → g'.at s = some rt) → RStep P o (Y3j env (l.take j) (vs.take j)) g' r rt' v
 | [], i, env, g, hq => ⟨[], [], rfl, rfl, hq, fun j o v k ho => by simp at ho⟩
 | o :: l, i, env, g, hq => by
  cases he : effAt effs i with
  | none =>
   simp only [DOps, he] at hq
   obtain ⟨av, h1, h2⟩ := hq
   obtain ⟨vs, ks, h3, h3', h4, h5⟩ := DOps.vals l _ _ _ h2
   refine ⟨av :: vs, none :: ks, by simp [h3], by simp [h3'], h4, fun j p v k ho hv hk => ?_⟩
   cases j with
   | zero =>
    simp at ho hv hk
    subst ho hv hk
    exact ⟨by simp [he], by simpa [Y3j] using h1⟩
   | succ j =>
    simp at ho hv hk
    have := h5 j p v k ho hv hk
    rw [show i + 1 + j = i + (j + 1) by omega] at this
    simpa [Y3j, gAt] using this
  | some r =>
   simp only [DOps, he] at hq
   obtain ⟨rt', av, h0, h1, h1', h2⟩ := hq
   obtain ⟨vs, ks, h3, h3', h4, h5⟩ := DOps.vals l _ _ _ h2
   refine ⟨av :: vs, some (r, rt') :: ks, by simp [h3], by simp [h3'], h4, fun j p v k ho hv hk => ?_⟩
   cases j with
   | zero =>
    simp at ho hv hk
    subst ho hv hk
    exact ⟨by simp [he], by simpa [Y3j, gAt] using ⟨h0, h1, h1'⟩⟩
   | succ j =>
    simp at ho hv hk
    have := h5 j p v k ho hv hk
    rw [show i + 1 + j = i + (j + 1) by omega] at this
    simpa [Y3j, gAt] using this
def effOk (ops : Array Oper) (m : Nat) (effs : List (Nat × Nat)) : Bool :=
 ((List.range m).all fun j => (effAt effs j).isSome || match ops[j]? with
  | none => true
  | some o => (List.range m).all fun i => (effAt effs i).isNone || match (ops[i]?).bind (·.dst) with
   | some d => !(o.looksAt ops).contains d
   | none => true) &&
 ((List.range m).all fun j => (List.range j).all fun i => (effAt effs i).isNone || effAt effs i != effAt effs j || reachB ops ops.size j i)
theorem effOk.look (hk : effOk ops m effs = true) {j d : Nat} {p : Oper} (hj : j < m) (hi : i < m) (ho : ops[j]? = some o) (hp : ops[i]? = some p) (hq : effAt effs j = none) (he : effAt effs i = some r) (hd : p.dst = some d) : d ∉ o.looksAt ops := by
 unfold effOk at hk
 simp only [X3] at hk
 have h1 := Xa.1 hk.1 j (Xo.2 hj)
 simp only [hq, Option.isSome_none, Bool.false_or, ho] at h1
 have h2 := Xa.1 h1 i (Xo.2 hi)
 simp only [he, Option.isNone_some, Bool.false_or, hp, X9, hd] at h2
 simpa using h2
theorem effOk.order (hk : effOk ops m effs = true) {j : Nat} (hj : j < m) (hi : i < j) (he : effAt effs i = some r) (hf : effAt effs j = some r) : reachB ops ops.size j i = true := by
 unfold effOk at hk
 simp only [X3] at hk
 have h1 := Xa.1 (Xa.1 hk.2 j (Xo.2 hj)) i (Xo.2 hi)
 simpa [he, hf] using h1
structure MidG (N : Nat) (ops : Array Oper) (env : Env) (vs : List AV) (ks : List (Option (Nat × Rt))) (h g : Hp) (ι : Nat → Bk) (A : Nat → Prop) (S : Nat → Bool) (a : Act) (w : World) : Prop where
 size : a.tmps.size = N
 defers : a.defers = []
 putQ : ∀ (i : Nat) (o : Oper) (v : AV) (s : Nat), S i = true → ops[i]? = some o → vs[i]? = some v → ks[i]? = some none → o.dst = some s → VR w h ι A v (a.tmps.getD s undef)
 putE : ∀ (i : Nat) (o : Oper) (v : AV) (s : Nat), S i = true → ops[i]? = some o → vs[i]? = some v → o.dst = some s → VR w g ι A v (a.tmps.getD s undef)
 left : ∀ s, (∀ (i : Nat) (o : Oper), S i = true → ops[i]? = some o → o.dst ≠ some s) → VR w h ι A (rd env s) (a.tmps.getD s undef)
 down : ∀ (i : Nat) (o : Oper), S i = true → ops[i]? = some o → ∀ e ∈ o.after, Region.binds .any e = true → S e.on = true
theorem MidG.step {ι' : Nat → Bk} {A' : Nat → Prop} {ds : List Nat} {vs : List AV} {ks : List (Option (Nat × Rt))} {S2 : Nat → Bool} {a : Act} {w' : World} {v : Value} {u0 : AV} {oi : Oper} (D : DrawOkP N ops m ds) (M : MidG N ops env vs ks h g ι A S a w) (hSm : ∀ k, S k = true → k < m) (him : i < m) (ho : ops[i]? = some oi)
  (hv : vs[i]? = some u0) (hset : ∀ k, S2 k = if k = i then true else S k) (hpred' : ∀ e ∈ oi.after, Region.binds .any e = true → S e.on = true) (hKB : Keep w h ι A w' h ι' A') (hKG : Keep w g ι A w' g' ι' A') (hvq : ks[i]? = some none → VR w' h ι' A' u0 v) (hvv : VR w' g' ι' A' u0 v) :
  MidG N ops env vs ks h g' ι' A' S2 (a.put oi.dst v) w' := by
 have hother : ∀ s, oi.dst ≠ some s → (a.put oi.dst v).tmps.getD s undef = a.tmps.getD s undef := by
  intro s hs
  cases hd : oi.dst with
  | none => rfl
  | some d =>
   have : d ≠ s := fun e => hs (by rw [hd, e])
   simp only [Act.put, X5, Xl this]
 have hself : ∀ s, oi.dst = some s → (a.put oi.dst v).tmps.getD s undef = v := by
  intro s hs
  have hsN : s < N := by have := D.dst i _ him ho; rw [hs] at this; simpa using this
  rw [hs]
  simp only [Act.put, X5]
  rw [Xg (by rw [M.size]; exact hsN)]
  rfl
 refine ⟨?_, ?_, ?_, ?_, ?_, ?_⟩
 ·rw [← M.size]; unfold Act.put; split <;> simp
 ·rw [← M.defers]; unfold Act.put; split <;> rfl
 ·intro k o u s hk hok huk hks hd
  simp only [hset] at hk
  by_cases hki : k = i
  ·subst hki
   rw [ho] at hok; cases hok
   rw [hv] at huk; cases huk
   rw [hself s hd]
   exact hvq hks
  ·rw [if_neg hki] at hk
   rw [hother s (fun e => hki (D.one k i o _ s (hSm k hk) him hok ho hd e))]
   exact VR.keep hKB _ _ (M.putQ k o u s hk hok huk hks hd)
 ·intro k o u s hk hok huk hd
  simp only [hset] at hk
  by_cases hki : k = i
  ·subst hki
   rw [ho] at hok; cases hok
   rw [hv] at huk; cases huk
   rw [hself s hd]
   exact hvv
  ·rw [if_neg hki] at hk
   rw [hother s (fun e => hki (D.one k i o _ s (hSm k hk) him hok ho hd e))]
   exact VR.keep hKG _ _ (M.putE k o u s hk hok huk hd)
 ·intro s hs
  have hne : oi.dst ≠ some s := hs i _ (by simp [hset]) ho
  rw [hother s hne]
  refine VR.keep hKB _ _ (M.left s fun k o hk hok => hs k o ?_ hok)
  simp only [hset]
  split
  ·rfl
  ·exact hk
 ·intro k o hk hok e he hb'
  simp only [hset] at hk ⊢
  by_cases hki : k = i
  ·subst hki
   rw [ho] at hok; cases hok
   have := hpred' e he hb'
   split
   ·rfl
   ·exact this
  ·rw [if_neg hki] at hk
   have := M.down k o hk hok e he hb'
   split
   ·rfl
   ·exact this
theorem AW.drawG {id : Nat} {Q : Exit → Env → Hp → Prop} (m : Nat) (effs : List (Nat × Nat)) (hm : P.follows .mixedOrders = true) (hk : drawOkP N ops m [] = true) (hef : effOk ops m effs = true) (hq : DOps P ops h effs 0 (ops.toList.take m) env h (fun e g => OpsW P N ops (ops.toList.drop m) e g (Q .normal))) :
  AW P N (.region id ops true) env h Q := by
 have D := drawOkP.spec hk
 have hmle := D.le
 obtain ⟨vs, ks, hlen, hlenk, hK, hvs⟩ := DOps.vals _ _ _ _ hq
 have hlen' : vs.length = m := by rw [hlen]; simp; omega
 have hlenk' : ks.length = m := by rw [hlenk]; simp; omega
 have hget : ∀ i, i < m → (ops.toList.take m)[i]? = ops[i]? := fun i hi => by rw [Xk, if_pos hi]; simp
 -- the roots that are turned
 have hks : ∀ (j r : Nat) (rt : Rt), ks[j]? = some (some (r, rt)) → j < m ∧ effAt effs j = some r ∧ h.at r = none := fun j r rt hj => by
  have hjm : j < m := by rw [← hlenk']; exact (Xm.1 hj).1
  have ho : ops[j]? = some (ops[j]'(by omega)) := Xe (by omega)
  have hv : vs[j]? = some (vs[j]'(by omega)) := X2 (by omega)
  have h1 := hvs j _ _ _ (by rw [hget j hjm]; exact ho) hv hj
  refine ⟨hjm, ?_, h1.2.2.1⟩
  have := h1.1
  simp only [Xx, X05] at this
  exact this.symm
 intro X a w ι0 H S
 refine wp_mono (Q := fun e a' w' => e = Exit.normal ∧ ∃ env' h' ι', Q .normal env' h' ∧ Hol X h' ι' w' ∧ Slots N env' h' ι' (Own X.B h' ι') a' w') (wp_region_any hm ?_) (fun e a' w' ⟨he, hq⟩ => by subst he; exact hq)
 have hdrew : Below w.heap.size w { w with drawn := w.drawn + 1 } := ⟨rfl, rfl, rfl, Xf _, fun _ _ => rfl⟩
 have H' := H.below hdrew
 have S' := S.below hdrew
 generalize ({ w with drawn := w.drawn + 1 } : World) = w1 at H' S'
 clear hdrew H S w
 have main : ∀ (fuel : Nat) (listed : Array Bool) (a : Act) (w : World) (g : Hp) (ι : Nat → Bk), listed.size = ops.size → ((List.range m).filter fun j => !listed.getD j true).length + (ops.size - m) ≤ fuel → (∀ k, m ≤ k → listed.getD k false = false) → Hol X g ι w →
   (∀ q, g.at q = stS (fun i => listed.getD i false) q 0 ks (h.at q)) → (∀ r rt, h.at r = some rt → ι r = ι0 r) →
   MidG N ops env vs ks h g ι (Own X.B g ι) (fun i => listed.getD i false) a w →
   wpAny P .any ops (fun e a' w' => e = Exit.normal ∧ ∃ env' h' ι', Q .normal env' h' ∧ Hol X h' ι' w' ∧ Slots N env' h' ι' (Own X.B h' ι') a' w') fuel listed a w := by
  have base : ∀ (S : Nat → Bool) (g : Hp), (∀ q, g.at q = stS S q 0 ks (h.at q)) → ∀ s rt, h.at s = some rt → g.at s = some rt := fun S g hg s rt hs => by
   rw [hg s, stS.noneOf ks 0 _ (fun j rt' hj => by
    have := (hks j s rt' hj).2.2
    rw [hs] at this
    cases this)]
   exact hs
  have fin : ∀ (fuel : Nat) (listed : Array Bool) (a : Act) (w : World) (g : Hp) (ι : Nat → Bk), listed.size = ops.size → ops.size - m ≤ fuel → (∀ k, m ≤ k → listed.getD k false = false) → (∀ i, i < m → listed.getD i false = true) → Hol X g ι w →
    (∀ q, g.at q = stS (fun i => listed.getD i false) q 0 ks (h.at q)) → MidG N ops env vs ks h g ι (Own X.B g ι) (fun i => listed.getD i false) a w →
    wpAny P .any ops (fun e a' w' => e = Exit.normal ∧ ∃ env' h' ι', Q .normal env' h' ∧ Hol X h' ι' w' ∧ Slots N env' h' ι' (Own X.B h' ι') a' w') fuel listed a w := by
   intro fuel listed a w g ι hsz hfu hno all H hg M
   have hgq : ∀ q, (gAt ks h).at q = g.at q := fun q => by
    have := gAt.st (r := q) ks 0 m h
    rw [Xt (by omega)] at this
    rw [this, hg q]
    refine stS.congr ks 0 _ fun j rt hj => ?_
    have := (hks j q rt hj).1
    simp [all j this, this]
   have hKhg : Keep w h ι (Own X.B g ι) w g ι (Own X.B g ι) := ⟨fun β _ hA => ⟨rfl, hA⟩, fun r rt hr => ⟨rt, base _ g hg r rt hr, Xf _, fun _ => ⟨rfl, rfl⟩⟩⟩
   have hS : Slots N (Y3j env (ops.toList.take m) vs) g ι (Own X.B g ι) a w := by
    refine ⟨M.size, M.defers, fun s => ?_⟩
    by_cases hex : ∃ (i : Nat) (o : Oper), i < m ∧ ops[i]? = some o ∧ o.dst = some s
    ·obtain ⟨i, o, hi, ho, hd⟩ := hex
     have hv : vs[i]? = some (vs[i]'(by omega)) := X2 (by omega)
     rw [envAt_some (ops.toList.take m) vs env i o _ (by rw [hget i hi]; exact ho) hv hd (fun j p hp e => by
      have hj : j < m := by
       have := (Xm.1 hp).1
       simp at this; omega
      rw [hget j hj] at hp
      exact (D.one i j o p s hi hj ho hp hd e).symm)]
     exact M.putE i o _ s (all i hi) ho hv hd
    ·rw [Y3p (ops.toList.take m) vs env (fun i o ho e => by
      have hi : i < m := by
       have := (Xm.1 ho).1
       simp at this; omega
      rw [hget i hi] at ho
      exact hex ⟨i, o, hi, ho, e⟩)]
     refine VR.keep hKhg _ _ (M.left s (fun i o hSi ho e => ?_))
     by_cases hi : i < m
     ·exact hex ⟨i, o, hi, ho, e⟩
     ·simp only [hno i (by omega)] at hSi; cases hSi
   have hS2 : Slots N (Y3j env (ops.toList.take m) vs) (gAt ks h) ι (Own X.B (gAt ks h) ι) a w := by
    rw [own_congr hgq]
    exact ⟨hS.size, hS.defers, fun i => VR.keep (Keep.congr hgq) _ _ (hS.at_ i)⟩
   refine wpAny_tailP D (ops.size - m) m fuel listed a w (Xf _) (by omega) hfu hsz (fun i hi => ?_) (hK X a w ι _ (H.congr hgq) hS2 fun env' h' ι' a' w' hq H2 S2 => ⟨rfl, env', h', ι', hq, H2, S2⟩)
   by_cases him : i < m
   ·rw [all i him]; simp [him]
   ·rw [hno i (by omega)]; simp [him]
  intro fuel
  induction fuel with
  | zero =>
   intro listed a w g ι hsz hc hno H hg hi M
   refine fin 0 listed a w g ι hsz (by omega) hno (fun i hi => ?_) H hg M
   have h0 : ((List.range m).filter fun j => !listed.getD j true) = [] := Xn (by omega)
   rw [List.filter_eq_nil_iff] at h0
   have := h0 i (Xo.2 hi)
   simp only [X1g, Bool.not_eq_false'] at this
   have hi' : i < listed.size := by omega
   simp only [X5, Xe hi', Xy] at this ⊢
   exact this
  | succ fuel ih =>
   intro listed a w g ι hsz hc hno H hg hι M
   by_cases hall : ∀ i, i < m → listed.getD i false = true
   ·exact fin (fuel + 1) listed a w g ι hsz (by omega) hno hall H hg M
   have hlow : ∀ i, i ∈ Region.ready .any ops listed → i < m := by
    intro i hi
    unfold Region.ready at hi
    obtain ⟨hir, hi2⟩ := X0n.1 hi
    have hi' : i < ops.size := Xo.1 hir
    have ho : ops[i]? = some ops[i] := Xe hi'
    simp only [ho, Xx, Xy, X3, X0s] at hi2
    by_cases him : i < m
    ·exact him
    ·exfalso
     refine hall fun j hj => ?_
     have hre := D.tail i _ (by omega) ho j (by omega) (by simp)
     exact Y53 (S := fun k => listed.getD k false) M.down ops.size i j _ ho (fun e he hb => by
      have := Xr.1 hi2.2 e he
      simpa [hb] using this) hre
   refine ⟨fun hr => ?_, fun i hi => ?_⟩
   ·exfalso
    refine hall fun i => ?_
    induction i using Nat.strongRecOn with
    | _ i ihi =>
     intro hi
     cases hl : listed.getD i false with
     | true => rfl
     | false =>
      exfalso
      have hmem : i ∈ Region.ready .any ops listed := by
       unfold Region.ready
       refine X0n.2 ⟨Xo.2 (by omega), ?_⟩
       have ho : ops[i]? = some (ops[i]'(by omega)) := Xe (by omega)
       have hl' : listed.getD i true = false := by
        have hi' : i < listed.size := by omega
        simp only [X5, Xe hi', Xy] at hl ⊢
        exact hl
       simp only [hl', X1b, Bool.true_and, ho, Xx, Xy]
       refine Xr.2 fun e he => ?_
       cases hb : Region.binds .any e with
       | false => simp
       | true =>
        have := D.back i _ ho e he hb
        simp [ihi e.on this (by omega)]
      rw [hr] at hmem
      cases hmem
   have him : i < m := hlow i hi
   unfold Region.ready at hi
   obtain ⟨hir, hi2⟩ := X0n.1 hi
   have hi' : i < ops.size := Xo.1 hir
   have ho : ops[i]? = some ops[i] := Xe hi'
   simp only [ho, Xx, Xy, X3, X0s] at hi2
   obtain ⟨hul, hpred⟩ := hi2
   have hpred' : ∀ e ∈ (ops[i]).after, Region.binds .any e = true → listed.getD e.on false = true := fun e he hb => by
    have := Xr.1 hpred e he
    simpa [hb] using this
   have hulf : listed.getD i false = false := by
    have hi'' : i < listed.size := by omega
    simp only [X5, Xe hi'', Xy] at hul ⊢
    exact hul
   have hSm : ∀ k, listed.getD k false = true → k < m := fun k hk => by
    by_cases hkm : k < m
    ·exact hkm
    ·rw [hno k (by omega)] at hk; cases hk
   have hv : vs[i]? = some (vs[i]'(by omega)) := X2 (by omega)
   have hki : ks[i]? = some (ks[i]'(by omega)) := X2 (by omega)
   have hqi := hvs i ops[i] _ _ (by rw [hget i him]; exact ho) hv hki
   rw [X0t, show min i m = i from by omega, X05] at hqi
   have hb := base _ g hg
   have hKhg : ∀ w', Keep w' h ι (Own X.B g ι) w' g ι (Own X.B g ι) := fun w' => ⟨fun β _ hA => ⟨rfl, hA⟩, fun r rt hr => ⟨rt, hb r rt hr, Xf _, fun _ => ⟨rfl, rfl⟩⟩⟩
   have hset : ∀ k, (listed.setIfInBounds i true).getD k false = if k = i then true else listed.getD k false := by
    intro k
    simp only [X5]
    by_cases hki : k = i
    ·subst hki; rw [Xg (by omega)]; simp
    ·rw [Xl (fun e => hki e.symm)]; simp [hki]
   have hnext : ∀ k, m ≤ k → (listed.setIfInBounds i true).getD k false = false := fun k hkm => by rw [hset k, Vn]; exact hno k hkm
   have hfu : ((List.range m).filter fun j => !(listed.setIfInBounds i true).getD j true).length + (ops.size - m) ≤ fuel := by
    have := unlisted_lt' him (by omega) hul
    omega
   -- what it looks at, as it is in the order of the text
   have hlookG : ∀ s, s ∈ (ops[i]).looksAt ops → VR w g ι (Own X.B g ι) (rd (Y3j env (ops.toList.take i) (vs.take i)) s) (a.tmps.getD s undef) ∧ (effAt effs i = none → VR w h ι (Own X.B g ι) (rd (Y3j env (ops.toList.take i) (vs.take i)) s) (a.tmps.getD s undef)) := by
    intro s hs
    by_cases hex : ∃ (j : Nat) (p : Oper), j < m ∧ ops[j]? = some p ∧ p.dst = some s
    ·obtain ⟨j, p, hj, hp, hd⟩ := hex
     have hij : i ≠ j := by
      rintro rfl
      rw [ho] at hp
      cases hp
      exact D.self i _ s him ho hd hs
     rcases D.look i j _ p s him hj ho hp hij hd hs with ⟨hlt, e, he, hbd, hon⟩ | ⟨hlt, e, he, hbd, hon⟩
     ·have hS : listed.getD j false = true := hon ▸ hpred' e he hbd
      have hvj : vs[j]? = some (vs[j]'(by omega)) := X2 (by omega)
      have hkj : ks[j]? = some (ks[j]'(by omega)) := X2 (by omega)
      rw [envAt_some (ops.toList.take i) (vs.take i) env j p (vs[j]'(by omega)) (by rw [Xk, if_pos hlt]; simpa using hp) (by rw [Xk, if_pos hlt]; exact hvj) hd
       (fun k q hq e => by
        rw [Xk] at hq
        split at hq
        ·exact (D.one j k p q s hj (by omega) hp (by simpa using hq) hd e).symm
        ·cases hq)]
      refine ⟨M.putE j p _ s hS hp hvj hd, fun hqu => ?_⟩
      have hkn : ks[j]'(by omega) = none := by
       cases hkk : ks[j]'(by omega) with
       | none => rfl
       | some q =>
        exfalso
        obtain ⟨r, rt⟩ := q
        have := hks j r rt (by rw [hkj, hkk])
        exact effOk.look hef him hj ho hp hqu this.2.1 hd hs
      exact M.putQ j p _ s hS hp hvj (by rw [hkj, hkn]) hd
     ·rw [Y3p (ops.toList.take i) (vs.take i) env (fun k q hq e => by
       rw [Xk] at hq
       split at hq
       ·have := D.one j k p q s hj (by omega) hp (by simpa using hq) hd e
        omega
       ·cases hq)]
      have := M.left s (fun k q hk hq e2 => by
       have hjk := D.one j k p q s hj (hSm k hk) hp hq hd e2
       subst hjk
       rw [hp] at hq
       cases hq
       have := M.down j p hk hp _ he hbd
       rw [hon] at this
       simp [hulf] at this)
      exact ⟨VR.keep (hKhg w) _ _ this, fun _ => this⟩
    ·rw [Y3p (ops.toList.take i) (vs.take i) env (fun k q hq e => by
      rw [Xk] at hq
      split at hq
      ·exact hex ⟨k, q, by omega, by simpa using hq, e⟩
      ·cases hq)]
     have := M.left s (fun k q hk hq e => hex ⟨k, q, hSm k hk, hq, e⟩)
     exact ⟨VR.keep (hKhg w) _ _ this, fun _ => this⟩
   simp only [wpOp, ho]
   cases hkk : ks[i]'(by omega) with
   | none =>
    rw [hkk] at hqi
    obtain ⟨he, hqi⟩ := hqi
    simp only [Option.map_none] at he
    have step := hqi (ctxOf X h g ι w) a w ι (fun e a' w' => e = Exit.normal ∧ ∃ env' h' ι', Q .normal env' h' ∧ Hol X h' ι' w' ∧ Slots N env' h' ι' (Own X.B h' ι') a' w') (H.only hb H' hι) (fun s hs => by
      rw [own_ctxOf hb]
      exact (hlookG s hs).2 he.symm)
     (wpAny P .any ops (fun e a' w' => e = Exit.normal ∧ ∃ env' h' ι', Q .normal env' h' ∧ Hol X h' ι' w' ∧ Slots N env' h' ι' (Own X.B h' ι') a' w') fuel (listed.setIfInBounds i true)) ?_
    ·split
     ·rename_i hw; rw [if_pos hw] at step; exact .inl step
     ·rename_i hw; rw [if_neg hw] at step; exact step
    ·intro v w' hbl hvv
     rw [own_ctxOf hb] at hvv
     refine ih _ _ _ g ι (by simpa using hsz) hfu hnext (H.below hbl) (fun q => ?_) hι ?_
     ·rw [hg q]
      refine stS.congr ks 0 _ fun j rt hj => ?_
      simp only [X05, hset]
      split
      ·rename_i hji
       subst hji
       rw [hki, hkk] at hj
       cases hj
      ·rfl
     ·exact MidG.step D M hSm him ho hv hset hpred' (Keep.below hbl) (Keep.below hbl) (fun _ => hvv) (VR.keep (hKhg w') _ _ hvv)
   | some p =>
    obtain ⟨r, rt'⟩ := p
    rw [hkk] at hqi
    obtain ⟨he, hgu, hrn, hqi⟩ := hqi
    simp only [Xx] at he
    have hpre : g.at r = (gAt (ks.take i) h).at r := by
     rw [hg r, gAt.st ks 0 i h]
     refine stS.congr ks 0 _ fun j rt hj => ?_
     obtain ⟨hjm, hje, _⟩ := hks j r rt hj
     simp only [X05]
     by_cases hji : j < i
     ·rw [show decide (j < i) = true by simpa using hji]
      have hre := effOk.order hef him hji hje he.symm
      exact Y53 (S := fun k => listed.getD k false) M.down ops.size i j _ ho hpred' hre
     ·rw [show decide (j < i) = false by simpa using hji]
      by_cases hij : j = i
      ·subst hij; exact hulf
      ·cases hlj : listed.getD j false with
       | false => rfl
       | true =>
        exfalso
        have hre := effOk.order hef hjm (show i < j by omega) he.symm hje
        have hoj : ops[j]? = some (ops[j]'(by omega)) := Xe (by omega)
        have := Y53 (S := fun k => listed.getD k false) M.down ops.size j i _ hoj (M.down j _ hlj hoj) hre
        simp [hulf] at this
    have hwant : Region.wanted (ops[i]) (yielded ops a.tmps) = true := by simp [Region.wanted, hgu]
    rw [if_pos hwant]
    refine .inl (hqi g hpre hb X a w ι _ _ H (operand_vr H.globOK (fun s hs => (hlookG s hs).1)) fun b' w' v H2 Kp hvv => ?_)
    have hne : ∀ s rt, h.at s = some rt → s ≠ r := fun s rt hs e => by rw [e, hrn] at hs; cases hs
    refine ih _ _ _ _ _ (by simpa using hsz) hfu hnext H2 (fun q => ?_) (fun s rt hs => by rw [Y4k (hne s rt hs)]; exact hι s rt hs) ?_
    ·by_cases hqr : q = r
     ·subst hqr
      rw [Y2f]
      symm
      refine stS.last ks 0 i rt' _ (by rw [hki, hkk]) (by simp [hset]) fun j rt'' hij hj => ?_
      obtain ⟨hjm, hje, _⟩ := hks j q rt'' hj
      simp only [X05, hset]
      rw [Vn]
      cases hlj : listed.getD j false with
      | false => rfl
      | true =>
       exfalso
       have hre := effOk.order hef hjm hij he.symm hje
       have hoj : ops[j]? = some (ops[j]'(by omega)) := Xe (by omega)
       have := Y53 (S := fun k => listed.getD k false) M.down ops.size j i _ hoj (M.down j _ hlj hoj) hre
       simp [hulf] at this
     ·have e1 : Hp.at ((r, rt') :: g) q = g.at q := by simp only [Hp.at]; rw [if_neg (fun e => hqr e.symm)]
      rw [e1, hg q]
      refine stS.congr ks 0 _ fun j rt hj => ?_
      simp only [X05, hset]
      split
      ·rename_i hji
       subst hji
       rw [hki, hkk] at hj
       cases hj
       exact absurd rfl hqr
      ·rfl
    ·refine MidG.step D M hSm him ho hv hset hpred' ⟨Kp.blk, fun s rt hs => ⟨rt, hs, Xf _, fun _ => ⟨Y4k (hne s rt hs), rfl⟩⟩⟩ Kp (fun hkn => ?_) hvv
     rw [hki, hkk] at hkn
     cases hkn
 have hrep : ∀ i, (Array.replicate ops.size false).getD i false = false := fun i => by
  simp only [X5, X0x]; split <;> rfl
 refine main ops.size _ a w1 h ι0 (by simp) ?_ (fun k _ => hrep k) H' (fun q => (stS.noneOf ks 0 _ fun j rt hj => hrep _).symm) (fun _ _ _ => rfl) ⟨S'.size, S'.defers, ?_, ?_, fun s _ => S'.at_ s, ?_⟩
 ·have := List.length_filter_le (fun j => !(Array.replicate ops.size false).getD j true) (List.range m)
  simp only [List.length_range] at this
  omega
 ·intro i o v s hS
  simp only [hrep] at hS
  cases hS
 ·intro i o v s hS
  simp only [hrep] at hS
  cases hS
 ·intro i o hS
  simp only [hrep] at hS
  cases hS
theorem AW.drawGSeq {id : Nat} {y : Code} {Q : Exit → Env → Hp → Prop} (m : Nat) (effs : List (Nat × Nat)) (hm : P.follows .mixedOrders = true) (hk : drawOkP N ops m [] = true) (hef : effOk ops m effs = true) (hq : DOps P ops h effs 0 (ops.toList.take m) env h (fun e g => OpsW P N ops (ops.toList.drop m) e g (fun e h => AW P N y e h Q))) :
  AW P N (.seq (.region id ops true) y) env h Q :=
 Y0e (AW.drawG m effs hm hk hef hq)
end
end
end Go.Abs
