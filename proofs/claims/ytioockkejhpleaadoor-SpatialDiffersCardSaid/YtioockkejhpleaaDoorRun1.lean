/- Own work. -/
import Derived.Test.YtioockkejhpleaaDoorLibG
set_option linter.unusedSimpArgs false
set_option linter.unusedVariables false
namespace Go.Abs
open Go.RowKit
section
variable {P : Program} {N : Nat} {ops : Array Oper} {env : Env} {h : Hp}
theorem Keep.trans {w w1 w2 : World} {h h1 h2 : Hp} {ι ι1 ι2 : Nat → Bk} {A A1 A2 : Nat → Prop} (K1 : Keep w h ι A w1 h1 ι1 A1) (K2 : Keep w1 h1 ι1 A1 w2 h2 ι2 A2) : Keep w h ι A w2 h2 ι2 A2 where
 blk β hβ hA := by
  obtain ⟨e1, e2⟩ := K1.blk β hβ hA
  have hlt : β < w1.heap.size := (Xq.1 (e1.trans (Xc hβ))).1
  obtain ⟨e3, e4⟩ := K2.blk β hlt e2
  exact ⟨e3.trans e1, e4⟩
 hp r rt hr := by
  obtain ⟨rt1, a1, b1, c1⟩ := K1.hp r rt hr
  obtain ⟨rt2, a2, b2, c2⟩ := K2.hp r rt1 a1
  refine ⟨rt2, a2, X0p b1 b2, fun e => ?_⟩
  have e1 : rt2.ver = rt1.ver := by omega
  have e2 : rt1.ver = rt.ver := by omega
  exact ⟨(c2 e1).1.trans (c1 e2).1, (c2 e1).2.trans (c1 e2).2⟩
theorem Keep.refl (w : World) (h : Hp) (ι : Nat → Bk) (A : Nat → Prop) : Keep w h ι A w h ι A :=
 ⟨fun _ _ hA => ⟨rfl, hA⟩, fun _ rt hr => ⟨rt, hr, Xi _, fun _ => ⟨rfl, rfl⟩⟩⟩
def HStep (P : Program) (o : Oper) (env : Env) (h h' : Hp) (av : AV) : Prop :=
 ∀ (X : Ctx) (a : Act) (w : World) (ι : Nat → Bk) (Q : Exit → Act → World → Prop) (next : Act → World → Prop), Hol X h ι w →
  (∀ x, x ∈ o.op.operands → VR w h ι (Own X.B h ι) (rdo env x) (a.eval x)) →
  (∀ ι' w' v, Hol X h' ι' w' → Keep w h ι (Own X.B h ι) w' h' ι' (Own X.B h' ι') → VR w' h' ι' (Own X.B h' ι') av v → next (a.put o.dst v) w') → o.wp P a w next Q
theorem HStep.root {o : Oper} {r : Nat} {rt : Rt} {av : AV} (hs : RStep P o env h r rt av) : HStep P o env h ((r, rt) :: h) av :=
 fun X a w ι Q next H hop hn => hs X a w ι Q next H hop fun b' w' v H' K' hv => hn _ w' v H' K' hv
theorem HStep.quiet {o : Oper} {av : AV} (hq : Quiet P #[] { o with guard := none } env h av) : HStep P o env h h av := by
 intro X a w ι Q next H hop hn
 have h1 := hq X a w ι Q H (fun s hs => by
  simp only [Oper.looksAt, X09, List.mem_filterMap] at hs
  obtain ⟨x, hx, he⟩ := hs
  split at he
  ·simp only [X1] at he
   subst he
   exact hop _ (by simpa using hx)
  ·cases he) next (fun v w' hb hv => hn ι w' v (H.below hb) (Keep.below hb) hv)
 simp only [Region.wanted, if_true] at h1
 exact h1
theorem HStep.eqv {o : Oper} {h' h'' : Hp} {av : AV} (he : Hp.eqv h' h'') (hs : HStep P o env h h' av) : HStep P o env h h'' av :=
 fun X a w ι Q next H hop hn => hs X a w ι Q next H hop fun ι' w' v H' K' hv => by
  refine hn ι' w' v (H'.eqv he) ?_ ?_
  ·rw [Own.eqv he]; exact K'.trans (Keep.eqv he)
  ·rw [Own.eqv he]; exact VR.keep (Keep.eqv he) _ _ hv
/- Conditions, decided. -/
def gdb : AV → Bool
 | .cnd g _ => g
 | _ => true
theorem Y0g {x : AV} (hx : gdb x = true) : gd x := by cases x <;> first | exact hx | trivial
def gdbo (ρ : Operand → AV) : Option Operand → Bool
 | some x => gdb (ρ x)
 | none => true
theorem gdbo_sound {ρ : Operand → AV} {o : Option Operand} (hx : gdbo ρ o = true) : gdo ρ o := by
 cases o with
 | none => trivial
 | some x => exact Y0g hx
def okAb (k : IntKind) (n : Int) : Bool := match k with
 | .i64 => decide (-9223372036854775808 ≤ n) && decide (n ≤ 9223372036854775807)
 | _ => true
theorem okAb_sound {k : IntKind} {n : Int} (hx : okAb k n = true) : okA k n := by
 cases k <;> simp_all [okAb, okA]
def binB (P : Program) (t : TypeId) (op : BinOp) (x y : AV) : Bool := match x, y with
 | .im (.val (.int k a)), .im (.val (.int k' b)) => match op with
  | .shl => decide (0 ≤ b)
  | .shr => decide (0 ≤ b)
  | .add => decide (k = k') && okAb k (a + b)
  | .sub => decide (k = k') && okAb k (a - b)
  | .mul => decide (k = k') && okAb k (a * b)
  | .quo => decide (k = k') && (decide (b ≠ 0) && okAb k (a.tdiv b))
  | .rem => decide (k = k') && decide (b ≠ 0)
  | _ => decide (k = k')
 | .im (.val (.bool _)), .im (.val (.bool _)) => match op with
  | .eql => tk P t == 5
  | .neq => tk P t == 5
  | _ => false
 | .im (.val (.string a)), .im (.val (.string b)) => match op with
  | .add => decide (a.size + b.size ≤ 9223372036854775807)
  | .eql => true | .neq => true | .lss => true | .leq => true | .gtr => true | .geq => true
  | _ => false
 | _, _ => false
theorem binB_sound {t : TypeId} {op : BinOp} {x y : AV} (hb : binB P t op x y = true) : poBin P t op x y := by
 unfold binB at hb
 unfold poBin
 split at hb
 ·cases op <;> simp only [X3, decide_eq_true_eq] at hb ⊢ <;> first | exact hb | exact ⟨hb.1, okAb_sound hb.2⟩ | exact ⟨hb.1, hb.2.1, okAb_sound hb.2.2⟩
 ·cases op <;> simp at hb ⊢ <;> exact hb
 ·cases op <;> simp at hb ⊢ <;> exact hb
 ·cases hb
def verB (h : Hp) (r ver : Nat) : Bool := match h.at r with
 | some rt => rt.ver == ver
 | none => false
theorem verB_sound {r ver : Nat} (hv : verB h r ver = true) : (h.at r).map (·.ver) = some ver := by
 unfold verB at hv
 split at hv
 ·rename_i rt hr; simp [hr]; simpa using hv
 ·cases hv
def verK (h : Hp) (r ver k : Nat) : Bool := match h.at r with
 | some rt => rt.ver == ver && rt.k == k
 | none => false
theorem verK_sound {r ver k : Nat} (hv : verK h r ver k = true) : (h.at r).map (fun rt => (rt.ver, rt.k)) = some (ver, k) := by
 unfold verK at hv
 split at hv
 ·rename_i rt hr; simp [hr]; simpa using hv
 ·cases hv
def partB (cs : List AV) (off : Nat) (s : Option (Option Nat)) : Bool := match s with
 | some none => decide (off < cs.length)
 | some (some n) => decide (off + n ≤ cs.length)
 | none => false
theorem partB_sound {cs : List AV} {off : Nat} {s : Option (Option Nat)} (hp : partB cs off s = true) : poPart cs off s := by
 unfold partB at hp
 unfold poPart
 split at hp <;> simp_all
def loB (hi : Nat) : Option AV → Bool
 | none => true
 | some (.im (.val (.int _ l))) => decide (0 ≤ l) && decide (l ≤ hi)
 | _ => false
theorem loB_sound {hi : Nat} {x : Option AV} (hx : loB hi x = true) : okLo hi x := by
 unfold loB at hx
 unfold okLo
 split at hx <;> simp_all
def inB (j : Int) (n : Nat) : Bool := decide (0 ≤ j) && decide (j < (n : Int))
theorem inB_sound {j : Int} {n : Nat} (hx : inB j n = true) : 0 ≤ j ∧ j < (n : Int) := by simpa [inB] using hx
def pb (P : Program) (h : Hp) (ρ : Operand → AV) : Op → Bool
 | .move x => gdb (ρ x)
 | .assign x => gdb (ρ x)
 | .pick c a b => gdb (ρ c) && match st (ρ c) with
  | .im (.val (.bool g)) => (!g || gdb (ρ a)) && (g || gdb (ρ b))
  | _ => false
 | .binOp op t x y _ => gdb (ρ x) && (gdb (ρ y) && binB P t op (st (ρ x)) (st (ρ y)))
 | .unOp op _ x => gdb (ρ x) && match op, st (ρ x) with
  | .not, .im (.val (.bool _)) => true
  | .neg, .im (.val (.int k n)) => okAb k (0 - n)
  | _, _ => false
 | .convert s d x => gdb (ρ x) && match st (ρ x), ik P d with
  | .im (.val (.int _ _)), some _ => tk P s != 0
  | .im (.val (.string _)), none => tk P s == 2 && tk P d == 2
  | _, _ => false
 | .fieldAddr s x f => gdb (ρ x) && match fo P s f, st (ρ x) with
  | some _, .ipt _ _ => true
  | some _, .ref r ver _ => verB h r ver
  | _, _ => false
 | .field t x f => gdb (ρ x) && match st (ρ x), fl P t f with
  | .agg cs, some (off, ty) => partB cs off (lz P ty)
  | _, _ => false
 | .indexAddr t x i => gdb (ρ x) && (gdb (ρ i) && match ez P t, st (ρ x), st (ρ i) with
  | some _, .im (.sl _ n), .im (.val (.int _ j)) => tk P t == 1 && inB j n
  | some k, .rsl r ver _ n, .im (.val (.int _ j)) => tk P t == 1 && (verK h r ver k && inB j n)
  | some _, .ref r ver _, .im (.val (.int _ j)) => (match alen P t with | some n => verB h r ver && inB j n | none => false)
  | some _, .ipt _ _, .im (.val (.int _ j)) => (match alen P t with | some n => inB j n | none => false)
  | _, _, _ => false)
 | .index t x i => gdb (ρ x) && (gdb (ρ i) && match st (ρ x), st (ρ i) with
  | .agg cs, .im (.val (.int _ j)) => (match ez P t, aty P t, alen P t with | some k, some e, some n => inB j n && partB cs (j.toNat * k) (lz P e) | _, _, _ => false)
  | .im (.val (.string s)), .im (.val (.int _ j)) => tk P t == 2 && inB j s.size
  | _, _ => false)
 | .load t x => gdb (ρ x) && match lz P t, st (ρ x) with
  | some none, .ipt cs off => decide (off < cs.length)
  | some (some n), .ipt cs off => decide (off + n ≤ cs.length)
  | some none, .ref r ver off => (match h.at r with | some rt => rt.ver == ver && (rt.live && decide (off < rt.cs.length)) | none => false)
  | some (some n), .ref r ver off => (match h.at r with | some rt => rt.ver == ver && (rt.live && decide (off + n ≤ rt.cs.length)) | none => false)
  | _, _ => false
 | .extract x i => gdb (ρ x) && match st (ρ x) with
  | .tup vs => decide (i < vs.length)
  | _ => false
 | .slice t x lo hi none => gdb (ρ x) && (gdbo ρ lo && (gdbo ρ hi && match ez P t, st (ρ x) with
  | some _, .im (.sl _ n) => tk P t == 1 && (loB n (hi.map fun y => st (ρ y)) && loB (Y2s n (hi.map fun y => st (ρ y))) (lo.map fun y => st (ρ y)))
  | some k, .rsl r ver _ n => tk P t == 1 && (verK h r ver k && (loB n (hi.map fun y => st (ρ y)) && loB (Y2s n (hi.map fun y => st (ρ y))) (lo.map fun y => st (ρ y))))
  | none, .im (.val (.string s)) => tk P t == 2 && (loB s.size (hi.map fun y => st (ρ y)) && loB (Y2s s.size (hi.map fun y => st (ρ y))) (lo.map fun y => st (ρ y)))
  | _, _ => false))
 | .build t ps => (ps.toList.all fun p => gdb (ρ p.2)) && ((ps.toList.all fun p => okCb h (st (ρ p.2))) && match zc P t, fps P t, alen P t, ez P t with
  | some z, some fs, _, _ => (Y59 h (fs[·]?) (z.map fun v => .im (.val v)) (ps.toList.map fun p => (p.1, st (ρ p.2)))).isSome
  | some z, none, some _, some k => (Y59 h (fun i => some (i * k, k)) (z.map fun v => .im (.val v)) (ps.toList.map fun p => (p.1, st (ρ p.2)))).isSome
  | _, _, _, _ => false)
 | .call ⟨.builtin .len, ⟨[x]⟩, ⟨[t]⟩⟩ => gdb (ρ x) && match st (ρ x) with
  | .im (.sl _ _) => tk P t == 1
  | .im (.val (.slice _ _ _)) => tk P t == 1
  | .rsl r ver _ _ => tk P t == 1 && verB h r ver
  | .im (.val (.string _)) => tk P t == 2
  | _ => false
 | .call ⟨.builtin .min, ⟨[x, y]⟩, _⟩ => gdb (ρ x) && (gdb (ρ y) && match st (ρ x), st (ρ y) with
  | .im (.val (.int _ _)), .im (.val (.int _ _)) => true
  | _, _ => false)
 | .call ⟨.builtin .max, ⟨[x, y]⟩, _⟩ => gdb (ρ x) && (gdb (ρ y) && match st (ρ x), st (ρ y) with
  | .im (.val (.int _ _)), .im (.val (.int _ _)) => true
  | _, _ => false)
 | _ => false
theorem pb_sound {ρ : Operand → AV} {op : Op} (hb : pb P h ρ op = true) : po P h ρ op := by
 unfold pb at hb
 split at hb
 case h_1 x => exact Y0g hb
 case h_2 x => exact Y0g hb
 case h_3 c a b =>
  rw [X3] at hb
  refine ⟨Y0g hb.1, ?_⟩
  have h2 := hb.2
  split at h2
  ·rename_i g hg
   unfold poPick
   rw [hg]
   simp only [X3, X0g, X0a] at h2
   refine ⟨fun e => ?_, fun e => ?_⟩
   ·rcases h2.1 with h3 | h3
    ·rw [h3] at e; cases e
    ·exact Y0g h3
   ·rcases h2.2 with h3 | h3
    ·rw [h3] at e; cases e
    ·exact Y0g h3
  ·cases h2
 case h_4 op t x y _ =>
  simp only [X3] at hb
  exact ⟨Y0g hb.1, Y0g hb.2.1, binB_sound hb.2.2⟩
 case h_5 op _ x =>
  rw [X3] at hb
  refine ⟨Y0g hb.1, ?_⟩
  have h2 := hb.2
  unfold poUn
  split at h2
  ·rename_i hx; rw [hx]; trivial
  ·rename_i k n hn; rw [hn]; exact okAb_sound h2
  ·cases h2
 case h_6 s d x =>
  rw [X3] at hb
  refine ⟨Y0g hb.1, ?_⟩
  have h2 := hb.2
  unfold poConv
  split at h2
  ·rename_i hn hk; rw [hn, hk]; simpa using h2
  ·rename_i hn hk; rw [hn, hk]; simpa using h2
  ·cases h2
 case h_7 s x f =>
  rw [X3] at hb
  refine ⟨Y0g hb.1, ?_⟩
  have h2 := hb.2
  unfold poField
  split at h2
  ·rename_i h3 h4; rw [h3, h4]; trivial
  ·rename_i h3 h4; rw [h3, h4]; exact verB_sound h2
  ·cases h2
 case h_8 t x f =>
  rw [X3] at hb
  refine ⟨Y0g hb.1, ?_⟩
  have h2 := hb.2
  unfold poFld
  split at h2
  ·rename_i h3 h4; rw [h3, h4]; exact partB_sound h2
  ·cases h2
 case h_9 t x i =>
  simp only [X3] at hb
  refine ⟨Y0g hb.1, Y0g hb.2.1, ?_⟩
  have h2 := hb.2.2
  unfold poIdx
  split at h2
  ·rename_i h3 h4 h5
   rw [h3, h4, h5]
   simp only [X3, beq_iff_eq] at h2
   exact ⟨h2.1, inB_sound h2.2⟩
  ·rename_i h3 h4 h5
   rw [h3, h4, h5]
   simp only [X3, beq_iff_eq] at h2
   exact ⟨h2.1, verK_sound h2.2.1, inB_sound h2.2.2⟩
  ·rename_i h3 h4 h5
   rw [h3, h4, h5]
   split at h2
   ·rename_i n hn
    simp only [hn]
    simp only [X3] at h2
    exact ⟨verB_sound h2.1, inB_sound h2.2⟩
   ·cases h2
  ·rename_i h3 h4 h5
   rw [h3, h4, h5]
   split at h2
   ·rename_i n hn
    simp only [hn]
    exact inB_sound h2
   ·cases h2
  ·cases h2
 case h_10 t x i =>
  simp only [X3] at hb
  refine ⟨Y0g hb.1, Y0g hb.2.1, ?_⟩
  have h2 := hb.2.2
  unfold poIndex
  split at h2
  ·rename_i h3 h4
   rw [h3, h4]
   split at h2
   ·rename_i h5 h6 h7
    simp only [h5, h6, h7]
    simp only [X3] at h2
    exact ⟨(inB_sound h2.1).1, (inB_sound h2.1).2, partB_sound h2.2⟩
   ·cases h2
  ·rename_i h3 h4
   rw [h3, h4]
   simp only [X3, beq_iff_eq] at h2
   exact ⟨h2.1, inB_sound h2.2⟩
  ·cases h2
 case h_11 t x =>
  rw [X3] at hb
  refine ⟨Y0g hb.1, ?_⟩
  have h2 := hb.2
  unfold poLoad
  split at h2
  ·rename_i h3 h4; rw [h3, h4]; simpa using h2
  ·rename_i h3 h4; rw [h3, h4]; simpa using h2
  ·rename_i h3 h4
   rw [h3, h4]
   split at h2
   ·rename_i rt hr; simp only [hr]; simpa using h2
   ·cases h2
  ·rename_i h3 h4
   rw [h3, h4]
   split at h2
   ·rename_i rt hr; simp only [hr]; simpa using h2
   ·cases h2
  ·cases h2
 case h_12 x i =>
  rw [X3] at hb
  refine ⟨Y0g hb.1, ?_⟩
  have h2 := hb.2
  unfold poExt
  split at h2
  ·rename_i h3; rw [h3]; simpa using h2
  ·cases h2
 case h_13 t x lo hi =>
  simp only [X3] at hb
  refine ⟨Y0g hb.1, gdbo_sound hb.2.1, gdbo_sound hb.2.2.1, ?_⟩
  have h2 := hb.2.2.2
  unfold poSlice
  split at h2
  ·rename_i h3 h4
   rw [h3, h4]
   simp only [X3, beq_iff_eq] at h2
   exact ⟨h2.1, loB_sound h2.2.1, loB_sound h2.2.2⟩
  ·rename_i h3 h4
   rw [h3, h4]
   simp only [X3, beq_iff_eq] at h2
   exact ⟨h2.1, verK_sound h2.2.1, loB_sound h2.2.2.1, loB_sound h2.2.2.2⟩
  ·rename_i h3 h4
   rw [h3, h4]
   simp only [X3, beq_iff_eq] at h2
   exact ⟨h2.1, loB_sound h2.2.1, loB_sound h2.2.2⟩
  ·cases h2
 case h_14 t ps =>
  simp only [X3] at hb
  refine ⟨fun p hp => Y0g (Xe.1 hb.1 p hp), ?_⟩
  unfold poBuild
  refine ⟨fun p hp => ?_, ?_⟩
  ·obtain ⟨q, hq, rfl⟩ := Xy.1 hp
   exact Yx (Xe.1 hb.2.1 q hq)
  ·have h2 := hb.2.2
   split at h2
   ·rename_i e1 e2; rw [e1, e2]; exact h2
   ·rename_i e1 e2 e3 e4; rw [e1, e2, e3, e4]; exact h2
   ·cases h2
 case h_15 x t =>
  rw [X3] at hb
  refine ⟨Y0g hb.1, ?_⟩
  have h2 := hb.2
  unfold poLen
  split at h2
  ·rename_i h3; rw [h3]; simpa using h2
  ·rename_i h3; rw [h3]; simpa using h2
  ·rename_i h3
   rw [h3]
   simp only [X3, beq_iff_eq] at h2
   exact ⟨h2.1, verB_sound h2.2⟩
  ·rename_i h3; rw [h3]; simpa using h2
  ·cases h2
 case h_16 x y _ =>
  simp only [X3] at hb
  refine ⟨Y0g hb.1, Y0g hb.2.1, ?_⟩
  have h2 := hb.2.2
  unfold poMin
  split at h2
  ·rename_i h3 h4; rw [h3, h4]; trivial
  ·cases h2
 case h_17 x y _ =>
  simp only [X3] at hb
  refine ⟨Y0g hb.1, Y0g hb.2.1, ?_⟩
  have h2 := hb.2.2
  unfold poMin
  split at h2
  ·rename_i h3 h4; rw [h3, h4]; trivial
  ·cases h2
 case h_18 => cases hb
theorem HStep.pure {o : Oper} (hb : pb P h (rdo env) o.op = true) : HStep P o env h h (pv P h (rdo env) o.op) :=
 HStep.quiet (Quiet.pure (o := { o with guard := none }) (pb_sound hb))
end
end Go.Abs
