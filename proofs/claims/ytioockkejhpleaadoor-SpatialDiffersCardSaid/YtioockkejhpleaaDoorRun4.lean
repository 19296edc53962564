/- Own work. -/
import Derived.Test.YtioockkejhpleaaDoorRun3
set_option linter.unusedSimpArgs false
set_option linter.unusedVariables false
namespace Go.Abs
open Go.RowKit
section
variable {P : Program} {N : Nat} {ops : Array Oper} {env : Env} {h : Hp}
/- Equality of values, as far as it is decided. -/
def veq : Value → Value → Bool
 | .int k a, .int k' b => decide (k = k') && decide (a = b)
 | .bool a, .bool b => decide (a = b)
 | .string a, .string b => decide (a = b)
 | .slice none a b, .slice none c d => decide (a = c) && decide (b = d)
 | .pointer none, .pointer none => true
 | .tuple ⟨[]⟩, .tuple ⟨[]⟩ => true
 | .func (.func f) ⟨[]⟩ ⟨[]⟩, .func (.func g) ⟨[]⟩ ⟨[]⟩ => decide (f = g)
 | .nilFunc, .nilFunc => true
 | .nilIface, .nilIface => true
 | _, _ => false
theorem veq_sound {a b : Value} (hv : veq a b = true) : a = b := by
 unfold veq at hv
 split at hv <;> simp_all
def veqL : List Value → List Value → Bool
 | [], [] => true
 | a :: l, b :: m => veq a b && veqL l m
 | _, _ => false
theorem veqL_sound : ∀ (a b : List Value), veqL a b = true → a = b
 | [], [], _ => rfl
 | a :: l, b :: m, hv => by
  simp only [veqL, X3] at hv
  rw [veq_sound hv.1, veqL_sound l m hv.2]
 | [], _ :: _, hv => by simp [veqL] at hv
 | _ :: _, [], hv => by simp [veqL] at hv
def veqA : Value → Value → Bool
 | .agg ⟨a⟩, .agg ⟨b⟩ => veqL a b
 | a, b => veq a b
theorem veqA_sound {a b : Value} (hv : veqA a b = true) : a = b := by
 unfold veqA at hv
 split at hv
 ·rw [veqL_sound _ _ hv]
 ·exact veq_sound hv
def mpeq : List (Value × Value) → List (Value × Value) → Bool
 | [], [] => true
 | (a, c) :: l, (b, d) :: m => veqA a b && (veqA c d && mpeq l m)
 | _, _ => false
theorem mpeq_sound : ∀ (a b : List (Value × Value)), mpeq a b = true → a = b
 | [], [], _ => rfl
 | (a, c) :: l, (b, d) :: m, hv => by
  simp only [mpeq, X3] at hv
  rw [veqA_sound hv.1, veqA_sound hv.2.1, mpeq_sound l m hv.2.2]
 | [], _ :: _, hv => by simp [mpeq] at hv
 | _ :: _, [], hv => by simp [mpeq] at hv
mutual
def ieq : IV → IV → Bool
 | .val a, .val b => veq a b
 | .sl cs n, .sl ds m => decide (n = m) && ieqL cs ds
 | .mp a, .mp b => mpeq a b
 | _, _ => false
def ieqL : List IV → List IV → Bool
 | [], [] => true
 | c :: cs, d :: ds => ieq c d && ieqL cs ds
 | _, _ => false
end
mutual
theorem ieq_sound : ∀ (a b : IV), ieq a b = true → a = b
 | .val a, .val b, hv => by simp only [ieq] at hv; rw [veq_sound hv]
 | .sl cs n, .sl ds m, hv => by
  simp only [ieq, X3, decide_eq_true_eq] at hv
  rw [hv.1, ieqL_sound cs ds hv.2]
 | .val _, .sl _ _, hv => by simp [ieq] at hv
 | .val _, .mp _, hv => by simp [ieq] at hv
 | .sl _ _, .val _, hv => by simp [ieq] at hv
 | .sl _ _, .mp _, hv => by simp [ieq] at hv
 | .mp _, .val _, hv => by simp [ieq] at hv
 | .mp _, .sl _ _, hv => by simp [ieq] at hv
 | .mp a, .mp b, hv => by simp only [ieq] at hv; rw [mpeq_sound _ _ hv]
theorem ieqL_sound : ∀ (a b : List IV), ieqL a b = true → a = b
 | [], [], _ => rfl
 | c :: cs, d :: ds, hv => by
  simp only [ieqL, X3] at hv
  rw [ieq_sound c d hv.1, ieqL_sound cs ds hv.2]
 | [], _ :: _, hv => by simp [ieqL] at hv
 | _ :: _, [], hv => by simp [ieqL] at hv
end
mutual
def aveq : AV → AV → Bool
 | .any, .any => true
 | .im a, .im b => ieq a b
 | .agg a, .agg b => aveqL a b
 | .tup a, .tup b => aveqL a b
 | .ipt cs off, .ipt ds off' => decide (off = off') && ieqL cs ds
 | .ref r v o, .ref r' v' o' => decide (r = r') && (decide (v = v') && decide (o = o'))
 | .rsl r v o n, .rsl r' v' o' n' => decide (r = r') && (decide (v = v') && (decide (o = o') && decide (n = n')))
 | .fnv f a, .fnv g b => decide (f = g) && aveqL a b
 | _, _ => false
def aveqL : List AV → List AV → Bool
 | [], [] => true
 | c :: cs, d :: ds => aveq c d && aveqL cs ds
 | _, _ => false
end
mutual
theorem aveq_sound (a b : AV) (hv : aveq a b = true) : a = b := by
 cases a with
 | any => cases b <;> simp [aveq] at hv ⊢
 | im x => cases b <;> simp [aveq] at hv ⊢; exact ieq_sound _ _ hv
 | agg x => cases b <;> simp [aveq] at hv ⊢; exact aveqL_sound _ _ hv
 | tup x => cases b <;> simp [aveq] at hv ⊢; exact aveqL_sound _ _ hv
 | ipt cs off => cases b <;> simp [aveq] at hv ⊢; exact ⟨ieqL_sound _ _ hv.2, hv.1⟩
 | ref r v o => cases b <;> simp [aveq] at hv ⊢; exact hv
 | rsl r v o n => cases b <;> simp [aveq] at hv ⊢; exact hv
 | cnd g x => cases b <;> simp [aveq] at hv
 | fnv f x => cases b <;> simp [aveq] at hv ⊢; exact ⟨hv.1, aveqL_sound _ _ hv.2⟩
theorem aveqL_sound (a b : List AV) (hv : aveqL a b = true) : a = b := by
 cases a with
 | nil => cases b <;> simp [aveqL] at hv ⊢
 | cons c cs =>
  cases b with
  | nil => simp [aveqL] at hv
  | cons d ds =>
   simp only [aveqL, X3] at hv
   rw [aveq_sound c d hv.1, aveqL_sound cs ds hv.2]
end
/- Ancestors, as bits. -/
def ancM (ms : List Nat) : List Edge → Nat
 | [] => 0
 | e :: l => if Region.binds .any e = true then ancM ms l ||| (2 ^ e.on ||| ms.getD e.on 0) else ancM ms l
def ancs : List Oper → List Nat → List Nat
 | [], ms => ms
 | o :: l, ms => ancs l (ms ++ [ancM ms o.after.toList])
theorem ancM_bit {ms : List Nat} {j : Nat} : ∀ {l : List Edge}, (ancM ms l).testBit j = true → ∃ e ∈ l, Region.binds .any e = true ∧ (j = e.on ∨ (ms.getD e.on 0).testBit j = true)
 | [], hb => by simp [ancM] at hb
 | e :: l, hb => by
  simp only [ancM] at hb
  split at hb
  ·rename_i he
   simp only [Nat.testBit_or, X0g] at hb
   rcases hb with hb | hb | hb
   ·obtain ⟨e', h1, h2⟩ := ancM_bit hb
    exact ⟨e', List.mem_cons_of_mem _ h1, h2⟩
   ·rw [Nat.testBit_two_pow] at hb
    exact ⟨e, List.mem_cons_self, he, .inl (by simpa using hb.symm : e.on = j).symm⟩
   ·exact ⟨e, List.mem_cons_self, he, .inr hb⟩
  ·obtain ⟨e', h1, h2⟩ := ancM_bit hb
   exact ⟨e', List.mem_cons_of_mem _ h1, h2⟩
theorem ancs_bit : ∀ (l pre : List Oper) (ms : List Nat), ops.toList = pre ++ l → ms.length = pre.length → (∀ i j, (ms.getD i 0).testBit j = true → Anc ops j i) → ∀ i j, ((ancs l ms).getD i 0).testBit j = true → Anc ops j i
 | [], pre, ms, _, _, hm => hm
 | o :: l, pre, ms, he, hl, hm => by
  unfold ancs
  refine ancs_bit l (pre ++ [o]) _ (by simpa using he) (by simp [hl]) fun i j hb => ?_
  by_cases hi : i < ms.length
  ·rw [Xf, List.getElem?_append_left hi, ← Xf] at hb
   exact hm i j hb
  ·by_cases hi2 : i = ms.length
   ·subst hi2
    rw [Xf, X1g (Xi _)] at hb
    simp only [Nat.sub_self, List.getElem?_cons_zero, Xm] at hb
    obtain ⟨e, h1, h2, h3⟩ := ancM_bit hb
    have ho : ops[ms.length]? = some o := by
     rw [← Array.getElem?_toList, he, hl, X1g (Xi _)]
     simp
    intro S hd hS
    have h4 := hd _ o hS ho e (by simpa using h1) h2
    rcases h3 with rfl | h3
    ·exact h4
    ·exact hm _ _ h3 S hd h4
   ·rw [Xf, List.getElem?_eq_none (by simp; omega)] at hb
    simp at hb
def drawE (P : Program) (call : CallE) (ops : Array Oper) : List Oper → Nat → Nat → Env → Hp → Nat → Option (List (AV × Env × Nat) × List (Nat × Hp × Nat) × Env × Hp × Nat)
 | [], _, _, env, h, n => some ([], [], env, h, n)
 | o :: l, i, p, env, h, n => match stepL P (atG n h) ops env o with
  | some av => (match drawE P call ops l (i + 1) p (setd env o.dst av) h n with
   | some (vs, hs, r) => some ((av, env, p) :: vs, hs, r)
   | none => none)
  | none => match stepH P call h n ops env o with
   | some (av, h', n') => (match drawE P call ops l (i + 1) (p + 1) (setd env o.dst av) h' n' with
    | some (vs, hs, r) => some ((av, env, p) :: vs, (i, h', n') :: hs, r)
    | none => none)
   | none => none
theorem OStep.congr {o : Oper} {env env' : Env} {h h' : Hp} {av : AV} (he : ∀ s, rd env s = rd env' s) (hs : OStep P ops o env h h' av) : OStep P ops o env' h h' av :=
 fun X a w ι Q next H hl hn => hs X a w ι Q next H (fun s h1 => by rw [he]; exact hl s h1) hn
structure DrawE (P : Program) (ops : Array Oper) (l : List Oper) (i p : Nat) (env : Env) (h : Hp) (vs : List (AV × Env × Nat)) (hs : List (Nat × Hp)) (envF : Env) (hF : Hp) : Prop where
 len : vs.length = l.length
 envs : ∀ (j : Nat) (o : Oper) (v : AV) (e : Env) (q : Nat), l[j]? = some o → vs[j]? = some (v, e, q) → ∀ s, rd e s = rd (Y3s env (l.take j) ((vs.map (·.1)).take j)) s
 fin : ∀ s, rd envF s = rd (Y3s env l (vs.map (·.1))) s
 last : (h :: hs.map (·.2)).getD hs.length [] = hF
 heavy : ∀ (k : Nat) (c : Nat) (h' : Hp), hs[k]? = some (c, h') → i ≤ c ∧ ∃ o v e q, l[c - i]? = some o ∧ vs[c - i]? = some (v, e, q) ∧ OStep P ops o e ((h :: hs.map (·.2)).getD k []) h' v
 lite : ∀ (j : Nat) (o : Oper) (v : AV) (e : Env) (q : Nat), l[j]? = some o → vs[j]? = some (v, e, q) → (∀ (k : Nat) (c : Nat) (h' : Hp), hs[k]? = some (c, h') → c ≠ i + j) →
  p ≤ q ∧ q - p ≤ hs.length ∧ OStep P ops o e ((h :: hs.map (·.2)).getD (q - p) []) ((h :: hs.map (·.2)).getD (q - p) []) v
def cuts (hs : List (Nat × Hp × Nat)) : List (Nat × Hp) := hs.map fun x => (x.1, cutH x.2.2 x.2.1)
theorem drawE_sound {call : CallE} (hcall : CallsOK P call) : ∀ (l : List Oper) (i p : Nat) (env : Env) (h : Hp) (n : Nat) (vs : List (AV × Env × Nat)) (hs : List (Nat × Hp × Nat)) (envF : Env) (hF : Hp) (n' : Nat),
  drawE P call ops l i p env h n = some (vs, hs, envF, hF, n') → DrawE P ops l i p env (cutH n h) vs (cuts hs) envF (cutH n' hF)
 | [], i, p, env, h, n, vs, hs, envF, hF, n', hd => by
  simp only [drawE, X1, Prod.mk.injEq] at hd
  obtain ⟨rfl, rfl, rfl, rfl, rfl⟩ := hd
  exact ⟨rfl, fun j o v e q ho => by simp at ho, fun s => rfl, rfl, fun k c h' hk => by simp [cuts] at hk, fun j o v e q ho => by simp at ho⟩
 | o :: l, i, p, env, h, n, vs, hs, envF, hF, n', hd => by
  simp only [drawE] at hd
  split at hd
  ·rename_i av hst
   split at hd
   ·rename_i vs' hs' r hr
    simp only [X1, Prod.mk.injEq] at hd
    obtain ⟨rfl, rfl, rfl⟩ := hd
    have D := drawE_sound hcall l (i + 1) p _ h n vs' hs' envF hF n' hr
    have hO := stepL_sound hst
    refine ⟨by simp [D.len], fun j o' v e q ho hv s => ?_, fun s => ?_, D.last, fun k c h' hk => ?_, fun j o' v e q ho hv hne => ?_⟩
    ·cases j with
     | zero => simp at hv; obtain ⟨_, rfl, _⟩ := hv; simp [Y3s]
     | succ j =>
      simp at ho hv
      rw [D.envs j o' v e q ho hv s]
      simp only [X08, Xs, Y3s]
    ·rw [D.fin s]
     simp only [Xs, Y3s]
    ·obtain ⟨h1, o', v, e, q, h2, h3, h4⟩ := D.heavy k c h' hk
     refine ⟨by omega, o', v, e, q, ?_, ?_, h4⟩
     ·rw [show c - i = (c - (i + 1)) + 1 by omega]; simpa using h2
     ·rw [show c - i = (c - (i + 1)) + 1 by omega]; simpa using h3
    ·cases j with
     | zero =>
      simp at ho hv
      subst ho
      obtain ⟨rfl, rfl, rfl⟩ := hv
      refine ⟨Xi _, by omega, ?_⟩
      simp only [Nat.sub_self, X0l]
      exact hO
     | succ j =>
      simp at ho hv
      exact D.lite j o' v e q ho hv fun k c h' hk => by have := hne k c h' hk; omega
   ·cases hd
  ·split at hd
   ·rename_i av h1 n1 hst
    split at hd
    ·rename_i vs' hs' r hr
     simp only [X1, Prod.mk.injEq] at hd
     obtain ⟨rfl, rfl, rfl⟩ := hd
     have D := drawE_sound hcall l (i + 1) (p + 1) _ h1 n1 vs' hs' envF hF n' hr
     have hO := stepH_sound hcall hst
     refine ⟨by simp [D.len], fun j o' v e q ho hv s => ?_, fun s => ?_, ?_, fun k c h' hk => ?_, fun j o' v e q ho hv hne => ?_⟩
     ·cases j with
      | zero => simp at hv; obtain ⟨_, rfl, _⟩ := hv; simp [Y3s]
      | succ j =>
       simp at ho hv
       rw [D.envs j o' v e q ho hv s]
       simp only [X08, Xs, Y3s]
     ·rw [D.fin s]
      simp only [Xs, Y3s]
     ·rw [← D.last]; simp [cuts]
     ·cases k with
      | zero =>
       simp [cuts] at hk
       obtain ⟨rfl, rfl⟩ := hk
       refine ⟨Xi _, o, av, env, p, by simp, by simp, ?_⟩
       simp only [X0l]
       exact hO
      | succ k =>
       simp only [cuts, Xs, X1l] at hk
       obtain ⟨h2, o', v, e, q, h3, h4, h5⟩ := D.heavy k c h' hk
       refine ⟨by omega, o', v, e, q, ?_, ?_, ?_⟩
       ·rw [show c - i = (c - (i + 1)) + 1 by omega]; simpa using h3
       ·rw [show c - i = (c - (i + 1)) + 1 by omega]; simpa using h4
       ·simpa [cuts] using h5
     ·cases j with
      | zero =>
       exfalso
       exact hne 0 i (cutH n1 h1) (by simp [cuts]) (by omega)
      | succ j =>
       simp at ho hv
       obtain ⟨h2, h3, h4⟩ := D.lite j o' v e q ho hv fun k c h' hk => by have := hne (k + 1) c h' (by simpa [cuts] using hk); omega
       have e1 : q - p = (q - (p + 1)) + 1 := by omega
       refine ⟨by omega, by simp [cuts] at h3 ⊢; omega, ?_⟩
       rw [e1]
       simpa [cuts] using h4
    ·cases hd
   ·cases hd
def ordB (ms : List Nat) : List Nat → Bool
 | [] => true
 | c :: l => (l.all fun d => (ms.getD d 0).testBit c && c != d) && ordB ms l
theorem ordB_sound {ms : List Nat} : ∀ {cl : List Nat}, ordB ms cl = true → ∀ j k, j < k → k < cl.length → (ms.getD (cl.getD k 0) 0).testBit (cl.getD j 0) = true ∧ cl.getD j 0 ≠ cl.getD k 0
 | [], _, j, k, _, hk => by simp at hk
 | c :: cl, ho, j, k, hjk, hk => by
  simp only [ordB, X3] at ho
  cases k with
  | zero => omega
  | succ k =>
   simp at hk
   cases j with
   | zero =>
    have := Xe.1 ho.1 (cl.getD k 0) (by
     rw [Xf, X6 hk]
     simp)
    simp only [X3, bne_iff_ne, ne_eq] at this
    simpa using this
   | succ j => simpa using ordB_sound ho.2 j k (by omega) hk
def sameB (x : Option AV) (v : AV) : Bool := match x with
 | some u => aveq u v
 | none => false
def winB (P : Program) (ops : Array Oper) (ms : List Nat) (i q : Nat) (o : Oper) (v : AV) (e : Env) : List Nat → List Nat → List (Hp × Nat) → Bool
 | done, rest, (h, n) :: hs => ((done.length == q) || ((done.any fun c => (ms.getD c 0).testBit i) || ((rest.any fun c => (ms.getD i 0).testBit c) || sameB (stepL P (atG n h) ops e o) v))) && (match rest with
  | c :: rest' => winB P ops ms i q o v e (c :: done) rest' hs
  | [] => true)
 | _, _, [] => true
theorem winB_sound {ms : List Nat} {i q : Nat} {o : Oper} {v : AV} {e : Env} : ∀ (rest done : List Nat) (hl : List (Hp × Nat)), winB P ops ms i q o v e done rest hl = true → ∀ p, p ≤ rest.length → p < hl.length →
  (done.length + p = q) ∨ ((∃ c ∈ done, (ms.getD c 0).testBit i = true) ∨ ∃ k, k < p ∧ (ms.getD (rest.getD k 0) 0).testBit i = true) ∨ (∃ k, p ≤ k ∧ k < rest.length ∧ (ms.getD i 0).testBit (rest.getD k 0) = true) ∨ stepL P (atG (hl.getD p ([], 0)).2 (hl.getD p ([], 0)).1) ops e o = some v := by
 intro rest
 induction rest with
 | nil =>
  intro done hl hw p hp hpl
  have hp0 : p = 0 := by simpa using hp
  subst hp0
  cases hl with
  | nil => simp at hpl
  | cons h hs =>
   unfold winB at hw
   simp only [Bool.and_true, X0g, beq_iff_eq] at hw
   rcases hw with hw | hw | hw | hw
   ·exact .inl (by omega)
   ·obtain ⟨c, h1, h2⟩ := List.any_eq_true.1 hw
    exact .inr (.inl (.inl ⟨c, h1, h2⟩))
   ·simp at hw
   ·unfold sameB at hw
    split at hw
    ·rename_i u hu
     exact .inr (.inr (.inr (by simp only [X0l]; rw [hu, aveq_sound _ _ hw])))
    ·cases hw
 | cons c rest ih =>
  intro done hl hw p hp hpl
  cases hl with
  | nil => simp at hpl
  | cons h hs =>
   unfold winB at hw
   simp only [X3, X0g, beq_iff_eq] at hw
   obtain ⟨hw1, hw2⟩ := hw
   cases p with
   | zero =>
    rcases hw1 with hw | hw | hw | hw
    ·exact .inl (by omega)
    ·obtain ⟨c, h1, h2⟩ := List.any_eq_true.1 hw
     exact .inr (.inl (.inl ⟨c, h1, h2⟩))
    ·obtain ⟨d, h1, h2⟩ := List.any_eq_true.1 hw
     obtain ⟨k, hk, rfl⟩ := X13.1 h1
     have h3 : (c :: rest).getD k 0 = (c :: rest)[k] := by rw [Xf, X6 hk]; rfl
     exact .inr (.inr (.inl ⟨k, Nat.zero_le _, hk, by rw [h3]; exact h2⟩))
    ·unfold sameB at hw
     split at hw
     ·rename_i u hu
      exact .inr (.inr (.inr (by simp only [X0l]; rw [hu, aveq_sound _ _ hw])))
     ·cases hw
   | succ p =>
    rcases ih (c :: done) hs hw2 p (by simpa using hp) (by simpa using hpl) with h1 | (⟨d, h1, h2⟩ | ⟨k, h1, h2⟩) | ⟨k, h1, h2, h3⟩ | h1
    ·exact .inl (by simp at h1; omega)
    ·rcases X03.1 h1 with rfl | h1
     ·exact .inr (.inl (.inr ⟨0, by omega, by simpa using h2⟩))
     ·exact .inr (.inl (.inl ⟨d, h1, h2⟩))
    ·exact .inr (.inl (.inr ⟨k + 1, by omega, by simpa using h2⟩))
    ·exact .inr (.inr (.inl ⟨k + 1, by omega, by simpa using h2, by simpa using h3⟩))
    ·exact .inr (.inr (.inr (by simpa using h1)))
def liteAll (P : Program) (ops : Array Oper) (ms cl : List Nat) (hl : List (Hp × Nat)) : List Oper → List (AV × Env × Nat) → Nat → Bool
 | o :: l, (v, e, q) :: vs, i => (cl.contains i || winB P ops ms i q o v e [] cl hl) && liteAll P ops ms cl hl l vs (i + 1)
 | _, _, _ => true
theorem liteAll_sound {ms cl : List Nat} {hl : List (Hp × Nat)} : ∀ (l : List Oper) (vs : List (AV × Env × Nat)) (i : Nat), liteAll P ops ms cl hl l vs i = true → ∀ (j : Nat) (o : Oper) (v : AV) (e : Env) (q : Nat), l[j]? = some o → vs[j]? = some (v, e, q) →
  cl.contains (i + j) = true ∨ winB P ops ms (i + j) q o v e [] cl hl = true
 | [], _, _, _, j, o, v, e, q, ho, _ => by simp at ho
 | o :: l, [], _, _, j, o', v, e, q, _, hv => by simp at hv
 | o :: l, (v, e, q) :: vs, i, ha, j, o', v', e', q', ho, hv => by
  simp only [liteAll, X3, X0g] at ha
  cases j with
  | zero =>
   simp at ho hv
   subst ho
   obtain ⟨rfl, rfl, rfl⟩ := hv
   exact ha.1
  | succ j =>
   simp at ho hv
   have := liteAll_sound l vs (i + 1) ha.2 j o' v' e' q' ho hv
   rwa [show i + 1 + j = i + (j + 1) by omega] at this
def drawR (P : Program) (call : CallE) (N : Nat) (ops : Array Oper) (env : Env) (h : Hp) (n : Nat) : Option (Env × Hp × Nat) :=
 bif P.follows .mixedOrders && drawOk N ops then (match drawE P call ops ops.toList 0 0 env h n with
  | some (vs, hs, envF, hF, n') => bif ordB (ancs ops.toList []) (hs.map (·.1)) && liteAll P ops (ancs ops.toList []) (hs.map (·.1)) ((h, n) :: hs.map (·.2)) ops.toList vs 0 then some (envF, hF, n') else none
  | none => none) else none
theorem drawR_sound {call : CallE} (hcall : CallsOK P call) {id n n' : Nat} {envF : Env} {hF : Hp} (hd : drawR P call N ops env h n = some (envF, hF, n'))
  {X : Ctx} {a : Act} {w : World} {ι : Nat → Bk} (H : Hol X (cutH n h) ι w) (S : Slots N env (cutH n h) ι (Own X.B (cutH n h) ι) a w) :
  (Code.region id ops true).wp P (fun e a' w' => e = .normal ∧ ∃ ι', Hol X (cutH n' hF) ι' w' ∧ Slots N envF (cutH n' hF) ι' (Own X.B (cutH n' hF) ι') a' w' ∧ Keep w (cutH n h) ι (Own X.B (cutH n h) ι) w' (cutH n' hF) ι' (Own X.B (cutH n' hF) ι')) a w := by
 unfold drawR at hd
 obtain ⟨hk, hd⟩ := Y3f hd
 rw [X3] at hk
 split at hd
 ·rename_i vs hs envF' hF' n'' hE
  obtain ⟨hc, hd⟩ := Y3f hd
  rw [X3] at hc
  simp only [X1, Prod.mk.injEq] at hd
  obtain ⟨rfl, rfl, rfl⟩ := hd
  have D := drawE_sound hcall ops.toList 0 0 env h _ vs hs envF' hF' n'' hE
  have hanc : ∀ i j, ((ancs ops.toList []).getD i 0).testBit j = true → Anc ops j i := ancs_bit ops.toList [] [] rfl rfl (fun i j hb => by simp at hb)
  have hcl : (cuts hs).length = hs.length := by simp [cuts]
  have hget : ∀ k, k < hs.length → ∃ c h', (cuts hs)[k]? = some (c, h') ∧ (hs.map (·.1)).getD k 0 = c ∧ (cutH n h :: (cuts hs).map (·.2)).getD (k + 1) [] = h' := fun k hk => by
   refine ⟨(hs[k]).1, cutH (hs[k]).2.2 (hs[k]).2.1, by simp [cuts, X6 hk], ?_, ?_⟩
   ·rw [Xf, Xw, X6 hk]; rfl
   ·rw [List.getD_cons_succ, Xf]; simp [cuts, X6 hk]
  have hgetI : ∀ k c h', (cuts hs)[k]? = some (c, h') → k < hs.length ∧ (hs.map (·.1)).getD k 0 = c := fun k c h' hk => by
   have hlt := (Xo.1 hk).1
   rw [hcl] at hlt
   refine ⟨hlt, ?_⟩
   simp only [cuts, Xw, X6 hlt, Xp, X1, Prod.mk.injEq] at hk
   rw [Xf, Xw, X6 hlt]
   exact hk.1
  have hheap : ∀ p, p ≤ hs.length → (cutH n h :: (cuts hs).map (·.2)).getD p [] = cutH (((h, n) :: hs.map (·.2)).getD p ([], 0)).2 (((h, n) :: hs.map (·.2)).getD p ([], 0)).1 := fun p hp => by
   cases p with
   | zero => rfl
   | succ p =>
    have hk : p < hs.length := by omega
    simp only [List.getD_cons_succ, Xf]
    simp [cuts, X6 hk]
  have hvl : vs.length = ops.size := by simpa using D.len
  have key := draw_sound (P := P) (N := N) (env := env) (id := id) hk.1 hk.2 (vs.map (·.1)) (by simpa using hvl) hs.length (fun k => (hs.map (·.1)).getD k 0) (fun p => (cutH n h :: (cuts hs).map (·.2)).getD p [])
   (fun j k hjk hkm => (ordB_sound hc.1 j k hjk (by simpa using hkm)).2) (fun j k hjk hkm => hanc _ _ (ordB_sound hc.1 j k hjk (by simpa using hkm)).1) ?_ ?_ (X := X) (a := a) (w := w) (ι := ι) (by simpa using H) (by simpa using S)
  ·refine wp_mono key ?_
   rintro e a' w' ⟨he, ι', H', S', K'⟩
   have hlast := D.last
   rw [hcl] at hlast
   rw [hlast] at H' S' K'
   simp only [X0l] at K'
   exact ⟨he, ι', H', ⟨S'.size, S'.defers, fun i => by rw [D.fin]; exact S'.at_ i⟩, K'⟩
  ·intro k hkm
   obtain ⟨c, h', h1, h2, h3⟩ := hget k hkm
   obtain ⟨_, o, v, e, q, h4, h5, h6⟩ := D.heavy k c h' h1
   simp only [Nat.sub_zero] at h4 h5
   refine ⟨o, v, ?_, ?_, ?_⟩
   ·rw [h2, ← Array.getElem?_toList]; exact h4
   ·rw [h2, Xw, h5]; rfl
   ·rw [h2, h3]
    exact h6.congr (D.envs c o v e q h4 h5)
  ·intro i o v ho hv hne p hp
   rw [Xw] at hv
   obtain ⟨⟨v', e, q⟩, h1, h2⟩ := Option.map_eq_some_iff.1 hv
   simp only at h2
   subst h2
   rw [← Array.getElem?_toList] at ho
   have hnot : ∀ (k c : Nat) (h' : Hp), (cuts hs)[k]? = some (c, h') → c ≠ 0 + i := fun k c h' hk e => by
    obtain ⟨h3, h4⟩ := hgetI k c h' hk
    exact hne k h3 (by rw [h4]; omega)
   have hL := D.lite i o v' e q ho h1 hnot
   rcases liteAll_sound _ _ _ hc.2 i o v' e q ho h1 with h3 | h3
   ·exfalso
    rw [X0i, List.contains_iff_mem] at h3
    obtain ⟨k, hk, hke⟩ := X13.1 h3
    have hk' : k < hs.length := by simpa using hk
    refine hne k hk' ?_
    rw [Xf, X6 hk]
    exact hke
   ·rw [X0i] at h3
    have hcongr : ∀ {h1 h2 : Hp}, OStep P ops o e h1 h2 v' → OStep P ops o (Y3s env (ops.toList.take i) ((vs.map (·.1)).take i)) h1 h2 v' := fun hst => hst.congr (D.envs i o v' e q ho h1)
    rcases winB_sound _ [] _ h3 p (by simpa using hp) (by simp; omega) with h4 | (⟨c, h4, _⟩ | ⟨k, h4, h5⟩) | ⟨k, h4, h5, h6⟩ | h4
    ·have hq : p = q := by simpa using h4
     subst hq
     refine .inr (.inr (hcongr ?_))
     simpa using hL.2.2
    ·simp at h4
    ·exact .inl ⟨k, h4, hanc _ _ h5⟩
    ·exact .inr (.inl ⟨k, h4, by simpa using h5, hanc _ _ h6⟩)
    ·refine .inr (.inr (hcongr ?_))
     rw [hheap p hp]
     exact stepL_sound h4
 ·cases hd
end
end Go.Abs
