/- Own work. -/
import Derived.Test.YtkgfbpbndmklnaaDoorRunC
import Derived.Defers
import Derived.Recover
set_option linter.unusedSimpArgs false
set_option linter.unusedVariables false
namespace Go.Abs
open Go.RowKit
section
variable {P : Program} {N : Nat} {ops : Array Oper} {env : Env} {h h1 : Hp} {da : DA} {K : Exit → Env → Hp → Prop}
theorem Goes.weaken {c : Code} {x : Exit} {env' e1 : Env} {h1 : Hp} (hle : Env.le env env') (hg : Goes da P N c env' h x e1 h1) : Goes da P N c env h x e1 h1 :=
 fun X a w ι H S => hg X a w ι H (S.le hle)
def GQ (da : DA) (P : Program) (N : Nat) (c : Code) (env : Env) (h : Hp) (K : Exit → Env → Hp → Prop) : Prop := ∃ x env' h', Goes da P N c env h x env' h' ∧ K x env' h'
theorem GQ.mono {c : Code} {K' : Exit → Env → Hp → Prop} (H : GQ da P N c env h K) (hk : ∀ x e h, K x e h → K' x e h) : GQ da P N c env h K' := by
 obtain ⟨x, e, h', g, k⟩ := H
 exact ⟨x, e, h', g, hk _ _ _ k⟩
theorem Y6 {c d : Code} (H : GQ da P N c env h (Ex.then (fun e h' => GQ da P N d e h' K) K)) : GQ da P N (.seq c d) env h K := by
 obtain ⟨x, e1, h1, g, k⟩ := H
 cases x with
 | normal => obtain ⟨y, e2, h2, g2, k2⟩ := k; exact ⟨y, e2, h2, g.seq g2, k2⟩
 | _ => exact ⟨_, e1, h1, Goes.seqOut (by simp) g, k⟩
theorem Y52 {c : Operand} {y z : Code} {b : Bool} (hc : rdo env c = .bool b) (ht : b = true → GQ da P N y env h K) (hf : b = false → GQ da P N z env h K) : GQ da P N (.cond c y z) env h K := by
 cases b with
 | true => obtain ⟨x, e, h', g, k⟩ := ht rfl; exact ⟨x, e, h', Goes.cond hc g, k⟩
 | false => obtain ⟨x, e, h', g, k⟩ := hf rfl; exact ⟨x, e, h', Goes.cond hc g, k⟩
theorem Y12 {id : Nat} {c : Code} (H : GQ da P N c env h (Ex.inBlock id K)) : GQ da P N (.block id c) env h K := by
 obtain ⟨x, e, h', g, k⟩ := H
 refine ⟨_, e, h', g.block, ?_⟩
 cases x with
 | exit j =>
  simp only [Ex.inBlock] at k ⊢
  split
  ·rename_i hj; rwa [if_pos hj] at k
  ·rename_i hj; rwa [if_neg hj] at k
 | _ => exact k
theorem Y0p (H : K .normal env h) : GQ da P N .skip env h K := ⟨_, _, _, fun X a w ι H S => wp_skip ⟨rfl, ι, H, S, Keep.refl _ _ _ _⟩, H⟩
theorem Y5d {id : Nat} (H : K (.exit id) env h) : GQ da P N (.exit id) env h K := ⟨_, _, _, fun X a w ι H S => wp_exit ⟨rfl, ι, H, S, Keep.refl _ _ _ _⟩, H⟩
theorem Y10 (H : K .ret env h) : GQ da P N .ret env h K := ⟨_, _, _, fun X a w ι H S => wp_ret ⟨rfl, ι, H, S, Keep.refl _ _ _ _⟩, H⟩
theorem Y19 {c : Code} (env' : Env) (hle : Env.le env env') (H : GQ da P N c env' h K) : GQ da P N c env h K := by
 obtain ⟨x, e, h', g, k⟩ := H
 exact ⟨x, e, h', g.weaken hle, k⟩
theorem GQ.keep {c : Code} (l : List Nat) (H : GQ da P N c (env.keep l) h K) : GQ da P N c env h K := Y19 _ (Env.le_keep env l) H
def LGn (da : DA) (P : Program) (N : Nat) (c : Code) : Nat → Env → Hp → Exit → Env → Hp → Prop
 | 0, _, _, _, _, _ => False
 | m + 1, env, h, x, e2, h2 => (x ≠ .normal ∧ Goes da P N c env h x e2 h2) ∨ ∃ e1 h1, Goes da P N c env h .normal e1 h1 ∧ LGn da P N c m e1 h1 x e2 h2
theorem Goes.loop {c : Code} {k : Nat} {x : Exit} {e2 : Env} {h2 : Hp} (hl : LGn da P N c k env h x e2 h2) : Goes da P N (.loop c) env h x e2 h2 := by
 intro X a w ι H S
 refine wp_loop_ghost (fun m a1 w1 => ∃ (env1 : Env) (h1 : Hp) (ι1 : Nat → Bk), LGn da P N c m env1 h1 x e2 h2 ∧ Hol X h1 ι1 w1 ∧ SlD da N env1 h1 ι1 (Own X.B h1 ι1) a1 w1 ∧ Keep w h ι (Own X.B h ι) w1 h1 ι1 (Own X.B h1 ι1)) k
  ⟨env, h, ι, hl, H, S, Keep.refl _ _ _ _⟩ ?_
 rintro m a1 w1 ⟨env1, h1, ι1, hl1, H1, S1, K1⟩
 cases m with
 | zero => simp [LGn] at hl1
 | succ m =>
  simp only [LGn] at hl1
  rcases hl1 with ⟨hx, g⟩ | ⟨e3, h3, g, hl2⟩
  ·refine wp_mono (g X a1 w1 ι1 H1 S1) ?_
   rintro e a2 w2 ⟨rfl, ι2, H2, S2, K2⟩
   cases e with
   | normal => exact absurd rfl hx
   | _ => exact ⟨rfl, ι2, H2, S2, K1.trans K2⟩
  ·refine wp_mono (g X a1 w1 ι1 H1 S1) ?_
   rintro e a2 w2 ⟨rfl, ι2, H2, S2, K2⟩
   exact ⟨m, by omega, e3, h3, ι2, hl2, H2, S2, K1.trans K2⟩
theorem Y5g {c : Code} (I : Nat → Env → Hp → Prop) (step : ∀ n e h, I n e h → GQ da P N c e h (Ex.then (fun e' h' => ∃ n', n' < n ∧ I n' e' h') K)) (n : Nat) (h0 : I n env h) : GQ da P N (.loop c) env h K := by
 have main : ∀ (n m : Nat) (e : Env) (h : Hp), m ≤ n → I m e h → ∃ k x e' h', LGn da P N c k e h x e' h' ∧ x ≠ .normal ∧ K x e' h' := by
  intro n
  induction n with
  | zero =>
   intro m e h hm hi
   obtain ⟨x, e1, h1, g, k⟩ := step m e h hi
   cases x with
   | normal => obtain ⟨n', hlt, _⟩ := k; omega
   | _ => exact ⟨1, _, e1, h1, .inl ⟨by simp, g⟩, by simp, k⟩
  | succ n ih =>
   intro m e h hm hi
   obtain ⟨x, e1, h1, g, k⟩ := step m e h hi
   cases x with
   | normal =>
    obtain ⟨n', hlt, hi'⟩ := k
    obtain ⟨q, x, e2, h2, hq, hx, hk⟩ := ih n' e1 h1 (by omega) hi'
    exact ⟨q + 1, x, e2, h2, .inr ⟨e1, h1, g, hq⟩, hx, hk⟩
   | _ => exact ⟨1, _, e1, h1, .inl ⟨by simp, g⟩, by simp, k⟩
 obtain ⟨k, x, e', h', hl, _, hk⟩ := main n n env h (Xf _) h0
 exact ⟨x, e', h', Goes.loop hl, hk⟩
def SeqG (P : Program) (N : Nat) (ops : Array Oper) (l : List Oper) (env : Env) (h : Hp) (x : Exit) (env' : Env) (h' : Hp) : Prop :=
 ∀ (da : DA) (X : Ctx) (a : Act) (w : World) (ι : Nat → Bk) (Q : Exit → Act → World → Prop), Hol X h ι w → SlD da N env h ι (Own X.B h ι) a w →
  (∀ ι' a' w', Hol X h' ι' w' → SlD da N env' h' ι' (Own X.B h' ι') a' w' → Keep w h ι (Own X.B h ι) w' h' ι' (Own X.B h' ι') → Q x a' w') → wpList P ops Q l a w
def SQ (P : Program) (N : Nat) (ops : Array Oper) (l : List Oper) (env : Env) (h : Hp) (K : Exit → Env → Hp → Prop) : Prop := ∃ x env' h', SeqG P N ops l env h x env' h' ∧ K x env' h'
theorem Y7 (H : K .normal env h) : SQ P N ops [] env h K := ⟨_, _, _, fun da X a w ι Q H S hQ => hQ ι a w H S (Keep.refl _ _ _ _), H⟩
theorem Y4p {o : Oper} {l : List Oper} {av : AV} (hd : o.dst.all (· < N) = true) (hs : OStep P ops o env h h1 av) (H : SQ P N ops l (setd env o.dst av) h1 K) : SQ P N ops (o :: l) env h K := by
 obtain ⟨x, e2, h2, g, k⟩ := H
 refine ⟨x, e2, h2, ?_, k⟩
 intro da X a w ι Q H S hQ
 exact wpList_step fun K' hK' => hs X a w ι Q K' H (fun s _ => S.at_ s) fun ι' w' v H' K1 hv => hK' _ _ <| g da X _ w' ι' Q H' (S.setd K1 hd hv) fun ι'' a'' w'' H'' S'' K'' => hQ ι'' a'' w'' H'' S'' (K1.trans K'')
theorem SQ.pan {o : Oper} {l : List Oper} {ch : List PanicEntry} (hs : OPan P ops o env h h1 ch) (H : K (.panic ch) [] h1) : SQ P N ops (o :: l) env h K := by
 refine ⟨_, _, _, ?_, H⟩
 intro da X a w ι Q H S hQ
 refine wpList_step fun K' hK' => hs X a w ι Q K' H (fun s _ => S.at_ s) fun ι' w' H' K1 => ?_
 exact hQ ι' a w' H' ((S.keep K1).le fun i => .inl rfl) K1
theorem Y1 {id : Nat} (H : SQ P N ops ops.toList env h K) : GQ da P N (.region id ops false) env h K := by
 obtain ⟨x, e2, h2, g, k⟩ := H
 exact ⟨x, e2, h2, fun X a w ι H S => wp_region_list (g da X a w ι _ H S fun ι' a' w' H' S' K' => ⟨rfl, ι', H', S', K'⟩), k⟩
def posN : List Nat → Nat → Nat → Option Nat
 | [], _, _ => none
 | c :: l, i, k => bif Nat.beq c i then some k else posN l i (k + 1)
theorem posN_some : ∀ (l : List Nat) (i k j : Nat), posN l i k = some j → k ≤ j ∧ l[j - k]? = some i
 | [], _, _, _, hp => by simp [posN] at hp
 | c :: l, i, k, j, hp => by
  simp only [posN] at hp
  rcases beqS c i with ⟨e, hb⟩ | ⟨e, hb⟩
  ·rw [hb, cond_true, X0] at hp; subst hp; subst e; simp
  ·rw [hb, cond_false] at hp
   obtain ⟨h1, h2⟩ := posN_some l i (k + 1) j hp
   refine ⟨by omega, ?_⟩
   rw [show j - k = (j - (k + 1)) + 1 by omega]
   simpa using h2
theorem posN_none : ∀ (l : List Nat) (i k : Nat), posN l i k = none → i ∉ l
 | [], _, _, _ => by simp
 | c :: l, i, k, hp => by
  simp only [posN] at hp
  rcases beqS c i with ⟨e, hb⟩ | ⟨e, hb⟩
  ·rw [hb, cond_true] at hp; cases hp
  ·rw [hb, cond_false] at hp
   have := posN_none l i (k + 1) hp
   simp only [X00, not_or]
   exact ⟨fun e2 => e e2.symm, this⟩
def winOK (ms cl : List Nat) (i m p : Nat) : Bool := !((List.range m).any fun k => (nlt k p && (ms.getD (cl.getD k 0) 0).testBit i) || (nle p k && (ms.getD i 0).testBit (cl.getD k 0)))
def wins (ms cl : List Nat) (i m : Nat) : List Nat := (List.range (m + 1)).filter (winOK ms cl i m)
def DObl (P : Program) (ops : Array Oper) (ms cl : List Nat) (hl : List Hp) : Nat → List Oper → List AV → Env → Prop
 | _, [], [], _ => True
 | i, o :: l, v :: vs, env => (match posN cl i 0 with
   | some k => OStep P ops o env (hl.getD k []) (hl.getD (k + 1) []) v
   | none => ∀ p ∈ wins ms cl i cl.length, OStep P ops o env (hl.getD p []) (hl.getD p []) v) ∧ DObl P ops ms cl hl (i + 1) l vs (setd env o.dst v)
 | _, _, _, _ => False
theorem DObl.get {ms cl : List Nat} {hl : List Hp} : ∀ (l : List Oper) (vs : List AV) (i : Nat) (env : Env), DObl P ops ms cl hl i l vs env → vs.length = l.length ∧ ∀ (j : Nat) (o : Oper) (v : AV), l[j]? = some o → vs[j]? = some v →
   (match posN cl (i + j) 0 with
   | some k => OStep P ops o (Y3j env (l.take j) (vs.take j)) (hl.getD k []) (hl.getD (k + 1) []) v
   | none => ∀ p ∈ wins ms cl (i + j) cl.length, OStep P ops o (Y3j env (l.take j) (vs.take j)) (hl.getD p []) (hl.getD p []) v)
 | [], [], _, _, _ => ⟨rfl, fun j o v ho => by simp at ho⟩
 | [], _ :: _, _, _, hd => by simp [DObl] at hd
 | _ :: _, [], _, _, hd => by simp [DObl] at hd
 | o :: l, v :: vs, i, env, hd => by
  simp only [DObl] at hd
  obtain ⟨h1, h2⟩ := DObl.get l vs (i + 1) _ hd.2
  refine ⟨by simp [h1], fun j o' v' ho hv => ?_⟩
  cases j with
  | zero =>
   simp at ho hv
   subst ho hv
   exact hd.1
  | succ j =>
   simp at ho hv
   have := h2 j o' v' ho hv
   rw [show i + 1 + j = i + (j + 1) by omega] at this
   simpa only [X07, Y3j] using this
theorem Y28 {id : Nat} (hm : P.follows .mixedOrders = true) (hk : drawOk N ops = true) (vs : List AV) (cl : List Nat) (hl : List Hp) (hf : Hp) (hc : (cl.all fun c => nlt c ops.size) = true) (ho : ordB (ancs ops.toList []) cl = true)
  (h0 : hl.getD 0 [] = h) (hL : hl.getD cl.length [] = hf) (hob : DObl P ops (ancs ops.toList []) cl hl 0 ops.toList vs env) (H : K .normal (Y3j env ops.toList vs) hf) : GQ da P N (.region id ops true) env h K := by
 subst h0 hL
 refine ⟨_, _, _, ?_, H⟩
 obtain ⟨hlen, hget⟩ := DObl.get _ _ _ _ hob
 have hanc : ∀ i j, ((ancs ops.toList []).getD i 0).testBit j = true → Anc ops j i := ancs_bit ops.toList [] [] rfl rfl (fun i j hb => by simp at hb)
 have hinj : ∀ j k, j < k → k < cl.length → cl.getD j 0 ≠ cl.getD k 0 := fun j k hjk hkm => (ordB_sound ho j k hjk hkm).2
 have hpos : ∀ k, k < cl.length → posN cl (cl.getD k 0) 0 = some k := fun k hk => by
  cases hp : posN cl (cl.getD k 0) 0 with
  | none =>
   exfalso
   refine posN_none _ _ _ hp ?_
   rw [X8, X2 hk]
   simp
  | some j =>
   obtain ⟨_, h2⟩ := posN_some _ _ _ _ hp
   rw [Nat.sub_zero] at h2
   have hj : j < cl.length := (Xm.1 h2).1
   have h3 : cl.getD j 0 = cl.getD k 0 := by rw [X8, h2]; rfl
   by_cases e : j = k
   ·rw [e]
   ·exfalso
    rcases Nat.lt_or_gt_of_ne e with e | e
    ·exact hinj j k e hk h3
    ·exact hinj k j e hj h3.symm
 intro X a w ι H S
 refine draw_sound (P := P) (N := N) (env := env) (id := id) hm hk vs (by simpa using hlen) cl.length (fun k => cl.getD k 0) (fun p => hl.getD p []) hinj (fun j k hjk hkm => hanc _ _ (ordB_sound ho j k hjk hkm).1) ?_ ?_ H S
 ·intro k hkm
  have hlt : cl.getD k 0 < ops.size := by
   have := Xa.1 hc (cl.getD k 0) (by rw [X8, X2 hkm]; simp)
   rwa [nlt_eq] at this
  have e1 : ops.toList[cl.getD k 0]? = some ops[cl.getD k 0] := by rw [X14]; exact Xe hlt
  have hv : vs[cl.getD k 0]? = some (vs[cl.getD k 0]'(by rw [hlen]; simpa using hlt)) := X2 _
  have := hget (cl.getD k 0) _ _ e1 hv
  rw [X05, hpos k hkm] at this
  exact ⟨_, _, by rw [← X14]; exact e1, hv, this⟩
 ·intro i o v hoi hv hne p hp
  have := hget i o v (by rw [X14]; exact hoi) hv
  rw [X05] at this
  cases hq : posN cl i 0 with
  | some k =>
   exfalso
   obtain ⟨_, h2⟩ := posN_some _ _ _ _ hq
   rw [Nat.sub_zero] at h2
   exact hne k (Xm.1 h2).1 (by show cl.getD k 0 = i; rw [X8, h2]; rfl)
  | none =>
   rw [hq] at this
   cases hw : winOK (ancs ops.toList []) cl i cl.length p with
   | true => exact .inr (.inr (this p (X0n.2 ⟨Xo.2 (by omega), hw⟩)))
   | false =>
    unfold winOK at hw
    simp only [Bool.not_eq_false', List.any_eq_true, X0b, X3, nlt_eq, nle_eq, Xo] at hw
    obtain ⟨k, hkm, ⟨h1, h2⟩ | ⟨h1, h2⟩⟩ := hw
    ·exact .inl ⟨k, h1, hanc _ _ h2⟩
    ·exact .inr (.inl ⟨k, h1, hkm, hanc _ _ h2⟩)
def FnO (P : Program) (f : FuncId) (args : List AV) (h : Hp) (Q : Hp → AV → Prop) (Qp : Hp → List PanicEntry → Prop) : Prop := (∃ h' av, CallOK P f args h h' av ∧ Q h' av) ∨ ∃ h' ch, Y03 P f args h h' ch ∧ Qp h' ch
def EndK (P : Program) (fn : Func) (Q : Hp → AV → Prop) (Qp : Hp → List PanicEntry → Prop) : Exit → Env → Hp → Prop
 | .normal, e, h => ∃ xs, resE P h e fn.results.toList = some xs ∧ Q h (resOf xs)
 | .ret, e, h => ∃ xs, resE P h e fn.results.toList = some xs ∧ Q h (resOf xs)
 | .panic ch, _, h => Qp h ch
 | _, _, _ => False
theorem fnArgs {X : Ctx} {w : World} {ι : Nat → Bk} {args : List AV} {vs : List Value} (hn : args.length ≤ N) (hv : VRL w h ι (Own X.B h ι) args vs) :
  SlD [] N (args0 0 args) h ι (Own X.B h ι) { tmps := vs.toArray ++ Array.replicate (N - vs.toArray.size) undef, defers := [] } w := by
 have hlen := hv.length
 refine ⟨by simp [hlen]; omega, rfl, fun i => ?_⟩
 by_cases hi : i < vs.length
 ·have := rd_args0 args vs 0 hv i
  simp only [X05] at this
  simp only [X5]
  rw [X1f (by simpa using hi)]
  simpa using this
 ·rw [rd_args0_ge args 0 i (by omega)]
  simp [VR]
theorem Y59 {f : FuncId} {fn : Func} {c : Code} {args : List AV} {Q : Hp → AV → Prop} {Qp : Hp → List PanicEntry → Prop} (hf : P.funcs[f]? = some fn) (hb : fn.body = some c) (hn : args.length ≤ fn.ntmps)
  (H : GQ [] P fn.ntmps c (args0 0 args) h (EndK P fn Q Qp)) : FnO P f args h Q Qp := by
 obtain ⟨x, e, h', g, k⟩ := H
 have fin : ∀ (xs : List AV), (x = .normal ∨ x = .ret) → resE P h' e fn.results.toList = some xs → CallOK P f args h h' (resOf xs) := by
  intro xs hx hres X w ι vs H hv
  have hdone : Done P fn (fun r _ => r = resOf xs) .ret e h' := Y4t (by simp) (resE_sound _ _ hres) rfl
  refine calls_of_wp hf hb (wp_mono (g X _ w ι H (fnArgs hn hv)) ?_)
  rintro e a' w' ⟨rfl, ι', H', S', K'⟩
  obtain ⟨r, hr, hre⟩ := hdone
  subst hre
  obtain ⟨v, hrun, hvr⟩ := hr _ _ _ _ H' S'.slots
  rcases hx with rfl | rfl
  ·exact ⟨S'.defers, v, hrun, v, ι', rfl, H', K', hvr⟩
  ·exact ⟨S'.defers, v, hrun, v, ι', rfl, H', K', hvr⟩
 cases x with
 | normal => obtain ⟨xs, h1, h2⟩ := k; exact .inl ⟨_, _, fin xs (.inl rfl) h1, h2⟩
 | ret => obtain ⟨xs, h1, h2⟩ := k; exact .inl ⟨_, _, fin xs (.inr rfl) h1, h2⟩
 | panic ch =>
  refine .inr ⟨_, _, fun X w ι vs H hv => ?_, k⟩
  refine calls_of_wp hf hb (wp_mono (g X _ w ι H (fnArgs hn hv)) ?_)
  rintro e a' w' ⟨rfl, ι', H', S', K'⟩
  exact ⟨S'.defers, rfl, ι', H', K'⟩
 | _ => exact k.elim
end
section
variable {P : Program} {N : Nat} {ops : Array Oper} {env : Env} {h h1 : Hp}
def Has (h : Hp) (r ver : Nat) : Prop := (h.at r).map (·.ver) = some ver
def HasK (h : Hp) (r ver k : Nat) : Prop := (h.at r).map (fun rt => (rt.ver, rt.k)) = some (ver, k)
section
variable {av s : AV} {j : Int} {kk : IntKind} {z : List Value} {r ver k off n : Nat} {o : Oper} {x i : Operand} {t e : TypeId}
theorem Has.mk {rt : Rt} (hr : h.at r = some rt) (hv : rt.ver = ver) : Has h r ver := by simp [Has, hr, hv]
theorem HasK.mk {rt : Rt} (hr : h.at r = some rt) (hv : rt.ver = ver) (hk : rt.k = k) : HasK h r ver k := by simp [HasK, hr, hv, hk]
def Ld (h : Hp) (r ver off : Nat) (av : AV) : Prop := ∃ rt, h.at r = some rt ∧ rt.ver = ver ∧ rt.live = true ∧ rt.cs[off]? = some av
def LdN (h : Hp) (r ver off n : Nat) (cs : List AV) : Prop := ∃ rt, h.at r = some rt ∧ rt.ver = ver ∧ rt.live = true ∧ off + n ≤ rt.cs.length ∧ (rt.cs.drop off).take n = cs
def NC (s : AV) : Prop := gd s ∧ st s = s
theorem Yn (hp : po P h (rdo env) o.op) (he : pv P h (rdo env) o.op = av) : HStep P o env h h av := he ▸ Y2p (Quiet.pure (o := { o with guard := none }) hp)
theorem Y5v (ho : o.op = .move x) (hx : rdo env x = s) (hs : NC s) : HStep P o env h h s :=
 Yn (by rw [ho]; show gd (rdo env x); rw [hx]; exact hs.1) (by rw [ho]; show st (rdo env x) = s; rw [hx]; exact hs.2)
theorem Y5h (ho : o.op = .assign x) (hx : rdo env x = s) (hs : NC s) : HStep P o env h h s :=
 Yn (by rw [ho]; show gd (rdo env x); rw [hx]; exact hs.1) (by rw [ho]; show st (rdo env x) = s; rw [hx]; exact hs.2)
theorem Y5t (ho : o.op = .nilCheck x) (hx : rdo env x = .ref r ver off) (hh : Has h r ver) : HStep P o env h h (.ref r ver off) :=
 Y2p (Quiet.nilCheck (o := { o with guard := none }) (x := x) ho (gpoU rfl ⟨by rw [hx]; trivial, by rw [hx]; rfl, hh⟩))
theorem HStep.fa {s : TypeId} {f d : Nat} (ho : o.op = .fieldAddr s x f) (hf : fo P s f = some d) (hx : rdo env x = .ref r ver off) (hh : Has h r ver) : HStep P o env h h (.ref r ver (off + d)) :=
 Yn (by rw [ho]; show gd (rdo env x) ∧ poField h (fo P s f) (st (rdo env x)); rw [hx, hf]; exact ⟨trivial, hh⟩) (by rw [ho]; show pvField (fo P s f) (st (rdo env x)) = _; rw [hx, hf]; rfl)
theorem Y5w (ho : o.op = .load t x) (hz : lz P t = some none) (hx : rdo env x = .ref r ver off) (hl : Ld h r ver off av) : HStep P o env h h av := by
 obtain ⟨rt, h1, h2, h3, h4⟩ := hl
 refine Yn ?_ ?_
 ·rw [ho]; show gd (rdo env x) ∧ poLoad h (lz P t) (st (rdo env x))
  rw [hx, hz]
  refine ⟨trivial, ?_⟩
  simp only [st, poLoad, h1]
  exact ⟨h2, h3, (Xm.1 h4).1⟩
 ·rw [ho]; show Y4u h (lz P t) (st (rdo env x)) = _
  rw [hx, hz]
  simp only [st, Y4u, h1, h4]
theorem HStep.ldN {cs : List AV} (ho : o.op = .load t x) (hz : lz P t = some (some n)) (hx : rdo env x = .ref r ver off) (hl : LdN h r ver off n cs) : HStep P o env h h (.agg cs) := by
 obtain ⟨rt, h1, h2, h3, h4, h5⟩ := hl
 refine Yn ?_ ?_
 ·rw [ho]; show gd (rdo env x) ∧ poLoad h (lz P t) (st (rdo env x))
  rw [hx, hz]
  refine ⟨trivial, ?_⟩
  simp only [st, poLoad, h1]
  exact ⟨h2, h3, h4⟩
 ·rw [ho]; show Y4u h (lz P t) (st (rdo env x)) = _
  rw [hx, hz]
  simp only [st, Y4u, h1, h5]
def Len (h : Hp) (s : AV) (n : Nat) : Prop := (s = .im (.val (.slice none 0 0)) ∧ n = 0) ∨ (∃ r ver off, s = .rsl r ver off n ∧ Has h r ver) ∨ ∃ ys, s = .im (.sl ys n)
theorem Y5y (ho : o.op = .call ⟨.builtin .len, #[x], #[t]⟩) (ht : tk P t = 1) (hx : rdo env x = s) (hl : Len h s n) : HStep P o env h h (.int .i64 n) := by
 refine Yn ?_ ?_
 ·rw [ho]; show gd (rdo env x) ∧ poLen P h t (st (rdo env x))
  rw [hx]
  rcases hl with ⟨rfl, rfl⟩ | ⟨r, ver, off, rfl, hh⟩ | ⟨ys, rfl⟩
  ·exact ⟨trivial, ht⟩
  ·exact ⟨trivial, ht, hh⟩
  ·exact ⟨trivial, ht⟩
 ·rw [ho]; show pvLen (st (rdo env x)) = _
  rw [hx]
  rcases hl with ⟨rfl, rfl⟩ | ⟨r, ver, off, rfl, hh⟩ | ⟨ys, rfl⟩ <;> rfl
def Ix (h : Hp) (s : AV) (k : Nat) (j : Int) (av : AV) : Prop := (∃ r ver off n, s = .rsl r ver off n ∧ HasK h r ver k ∧ 0 ≤ j ∧ j < (n : Nat) ∧ av = .ref r ver (off + j.toNat * k)) ∨ ∃ ys n, s = .im (.sl ys n) ∧ 0 ≤ j ∧ j < (n : Nat) ∧ av = .ipt ys (j.toNat * k)
theorem Y5r (ho : o.op = .indexAddr t x i) (ht : tk P t = 1) (he : ez P t = some k) (hx : rdo env x = s) (hi : rdo env i = .int kk j) (hj : Ix h s k j av) : HStep P o env h h av := by
 refine Yn ?_ ?_
 ·rw [ho]; show gd (rdo env x) ∧ gd (rdo env i) ∧ poIdx P h t (st (rdo env x)) (st (rdo env i))
  rw [hx, hi]
  rcases hj with ⟨r, ver, off, n, rfl, h1, h2, h3, rfl⟩ | ⟨ys, n, rfl, h2, h3, rfl⟩
  ·refine ⟨trivial, trivial, ?_⟩
   simp only [st, poIdx, he]
   exact ⟨ht, h1, h2, h3⟩
  ·refine ⟨trivial, trivial, ?_⟩
   simp only [st, poIdx, he]
   exact ⟨ht, h2, h3⟩
 ·rw [ho]; show pvIdx (ez P t) (st (rdo env x)) (st (rdo env i)) = _
  rw [hx, hi, he]
  rcases hj with ⟨r, ver, off, n, rfl, h1, h2, h3, rfl⟩ | ⟨ys, n, rfl, h2, h3, rfl⟩ <;> rfl
def Cut (h : Hp) (s : AV) (k : Nat) (j : Int) (av : AV) : Prop := ∃ r ver n, s = .rsl r ver 0 n ∧ HasK h r ver k ∧ 0 ≤ j ∧ j ≤ (n : Nat) ∧ av = .rsl r ver 0 j.toNat
theorem HStep.cut (ho : o.op = .slice t x none (some i) none) (ht : tk P t = 1) (he : ez P t = some k) (hx : rdo env x = s) (hi : rdo env i = .int kk j) (hj : Cut h s k j av) : HStep P o env h h av := by
 obtain ⟨r, ver, n, rfl, h1, h2, h3, rfl⟩ := hj
 refine Yn ?_ ?_
 ·rw [ho]; show gd (rdo env x) ∧ True ∧ gd (rdo env i) ∧ poSlice P h t (st (rdo env x)) none (some (st (rdo env i)))
  rw [hx, hi]
  refine ⟨trivial, trivial, trivial, ?_⟩
  simp only [st, poSlice, he]
  exact ⟨ht, h1, ⟨h2, h3⟩, trivial⟩
 ·rw [ho]; show pvSlice (ez P t) (st (rdo env x)) none (some (st (rdo env i))) = _
  rw [hx, hi, he]
  simp [st, pvSlice, Y4v, Y29]
theorem Y5c {s : ByteArray} (ho : o.op = .index t x i) (ht : tk P t = 2) (hx : rdo env x = .string s) (hi : rdo env i = .int kk j) (hj : 0 ≤ j ∧ j < s.size) (he : pvIndex P t (.string s) (.int kk j) = av) : HStep P o env h h av := by
 refine Yn ?_ ?_
 ·rw [ho]; show gd (rdo env x) ∧ gd (rdo env i) ∧ poIndex P t (st (rdo env x)) (st (rdo env i))
  rw [hx, hi]
  refine ⟨trivial, trivial, ?_⟩
  simp only [st, poIndex]
  exact ⟨ht, hj⟩
 ·rw [ho]; show pvIndex P t (st (rdo env x)) (st (rdo env i)) = _
  rw [hx, hi]; exact he
def St (h : Hp) (r ver off : Nat) (y : AV) (h1 : Hp) : Prop := ∃ rt, h.at r = some rt ∧ rt.ver = ver ∧ rt.live = true ∧ off + (Y0u y).length ≤ rt.cs.length ∧ okC h y ∧ h1 = (r, ⟨rt.ver, true, rt.e, rt.k, putA rt.cs off (Y0u y)⟩) :: h
theorem Y5m {y : Operand} {v : AV} (ho : o.op = .store t x y) (hz : szt P t = some n) (hx : rdo env x = .ref r ver off) (hy : rdo env y = v) (hv : NC v) (hn : (Y0u v).length = n) (hs : St h r ver off v h1) : HStep P o env h h1 .any := by
 obtain ⟨rt, a1, a2, a3, a4, a5, rfl⟩ := hs
 have := RStep.store (P := P) (env := env) (h := h) ho (r := r) (ver := ver) (off := off) (rt := rt) (by rw [hx]; rfl) (by rw [hx]; trivial) (by rw [hy]; exact hv.1) a1 a2 a3 (by rw [hy, hv.2, hn]; exact hz) (by rw [hy, hv.2]; exact a5) (by rw [hy, hv.2]; exact a4)
 rw [hy, hv.2] at this
 exact Y38 this
def Nw (h : Hp) (r : Nat) (rt : Rt) (h1 : Hp) : Prop := h.at r = none ∧ h1 = (r, rt) :: h
theorem Y5f (ho : o.op = .alloc e) (hz : zc P e = some z) (hz1 : z.all (·.oneCell') = true) (hn : Nw h r ⟨0, true, e, z.length, z.map fun v => .im (.val v)⟩ h1) : HStep P o env h h1 (.ref r 0 0) := by
 obtain ⟨a1, rfl⟩ := hn
 exact Y38 (RStep.alloc ho r a1 hz hz1)
theorem HStep.boxN {v : AV} (ho : o.op = .box e x) (hx : rdo env x = v) (hok : okC h v) (hn : Nw h r ⟨0, true, e, (Y0u v).length, Y0u v⟩ h1) : HStep P o env h h1 (.ref r 0 0) := by
 obtain ⟨a1, rfl⟩ := hn
 subst hx
 exact Y38 (RStep.box ho r a1 hok)
theorem HStep.build {len bytes : Nat} {ps : List (Nat × Operand)} {qs : List (Nat × AV)} {cs : List AV} (ho : o.op = .buildSlice t len ps.toArray) (E : Elem P t e k bytes z) (hlen : len * k ≤ 16777216)
  (hq : ps.map (fun p => (p.1, rdo env p.2)) = qs) (hqs : ∀ q ∈ qs, NC q.2 ∧ okC h q.2) (hf : Y46 h (fun i => some (i * k, k)) (Y3r z len) qs = some cs) (hone : ∀ x ∈ cs, oneA h x) (hcl : cs.length = len * k) (hn : Nw h r ⟨0, true, e, k, cs⟩ h1) : HStep P o env h h1 (.rsl r 0 0 len) := by
 obtain ⟨a1, rfl⟩ := hn
 have hp : ∀ p ∈ ps, NC (rdo env p.2) ∧ okC h (rdo env p.2) := fun p hp => hqs (p.1, rdo env p.2) (by rw [← hq]; exact X01.2 ⟨p, hp, rfl⟩)
 have he : (ps.map fun p => (p.1, st (rdo env p.2))) = qs := by
  rw [← hq]
  exact X08 fun p hp' => by rw [(hp p hp').1.2]
 exact Y38 (RStep.build ho r a1 E hlen (fun p hp' => (hp p hp').1.1) (fun p hp' => by rw [(hp p hp').1.2]; exact (hp p hp').2) cs (by rw [he]; exact hf) hone hcl)
def App (h : Hp) (s : AV) (e k bytes m : Nat) (news : List AV) (h1 : Hp) (s1 : AV) : Prop :=
 (∃ r ver n rt, s = .rsl r ver 0 n ∧ h.at r = some rt ∧ rt.ver = ver ∧ rt.live = true ∧ rt.e = e ∧ rt.k = k ∧ n * k ≤ rt.cs.length ∧ (n + m) * bytes ≤ 140737488355328 ∧ n + m ≤ 140737488355328 ∧
  h1 = (r, ⟨ver + 1, true, e, k, rt.cs.take (n * k) ++ news⟩) :: h ∧ s1 = .rsl r (ver + 1) 0 (n + m)) ∨
 (s = .im (.val (.slice none 0 0)) ∧ ∃ r, h.at r = none ∧ (0 + m) * bytes ≤ 140737488355328 ∧ 0 + m ≤ 140737488355328 ∧ h1 = (r, ⟨1, true, e, k, news⟩) :: h ∧ s1 = .rsl r 1 0 m)
theorem HStep.app {s : Operand} {u : TypeId} {bytes m : Nat} {sv xv s1 : AV} {news : List AV} (ho : o.op = .call ⟨.builtin .append, #[s, x], #[t, u]⟩) (E : Elem P t e k bytes z) (hs : rdo env s = sv) (hx : rdo env x = xv) (hg : gd xv) (src : SrcA P h u k (Abs.st xv) m news)
  (ha : App h sv e k bytes m news h1 s1) : HStep P o env h h1 s1 := by
 subst hs hx
 rcases ha with ⟨r, ver, n, rt, b1, b2, b3, b4, b5, b6, b7, b8, b9, rfl, rfl⟩ | ⟨b1, r, b2, b3, b4, rfl, rfl⟩
 ·exact Y38 (RStep.append ho E b1 b2 b3 b4 b5 b6 b7 hg src b8 b9)
 ·refine Y5o ?_ (Y5p ho E b1 (r := r) b2 hg src b3 b4)
  intro i
  simp only [Hp.at]
  split <;> rfl
theorem Y5u {f : FuncId} {xs : List Operand} {ts : Array TypeId} {vs : List AV} (ho : o.op = .call ⟨.value (.func f), xs.toArray, ts⟩) (hc : Y1r P f = true) (hq : xs.map (fun y => rdo env y) = vs) (hv : ∀ v ∈ vs, NC v) (hs : CallOK P f vs h h1 av) : HStep P o env h h1 av := by
 have hy : ∀ y ∈ xs, NC (rdo env y) := fun y hy => hv _ (by rw [← hq]; exact X01.2 ⟨y, hy, rfl⟩)
 refine Y5q (first := []) ho hc (.inl ⟨rfl, rfl⟩) (fun y h => (hy y h).1) ?_
 have he : (xs.map fun y => Abs.st (rdo env y)) = vs := by rw [← hq]; exact X08 fun y h => (hy y h).2
 rw [he]; exact hs
theorem HPan.call {f : FuncId} {xs : List Operand} {ts : Array TypeId} {vs : List AV} {ch : List PanicEntry} (ho : o.op = .call ⟨.value (.func f), xs.toArray, ts⟩) (hc : Y1r P f = true) (hq : xs.map (fun y => rdo env y) = vs) (hv : ∀ v ∈ vs, NC v) (hs : Y03 P f vs h h1 ch) : HPan P o env h h1 ch := by
 have hy : ∀ y ∈ xs, NC (rdo env y) := fun y hy => hv _ (by rw [← hq]; exact X01.2 ⟨y, hy, rfl⟩)
 refine HPan.callV (first := []) ho hc (.inl ⟨rfl, rfl⟩) (fun y h => (hy y h).1) ?_
 have he : (xs.map fun y => Abs.st (rdo env y)) = vs := by rw [← hq]; exact X08 fun y h => (hy y h).2
 rw [he]; exact hs
end
end
section
variable {P : Program} {N : Nat} {ops : Array Oper} {env : Env} {h h1 : Hp} {da : DA} {K : Exit → Env → Hp → Prop}
section
variable {s v : AV} {c : Code} {vs : List AV} {hl : List Hp} {ms cl : List Nat} {l : List Oper} {i : Nat} {o : Oper}
theorem GQ.toE (env' : Env) (he : env.keep (env'.map (·.1)) = env') (H : GQ da P N c env' h K) : GQ da P N c env h K := GQ.keep (env'.map (·.1)) (by rw [he]; exact H)
theorem Ya {env' : Env} (he : env.keep (env'.map (·.1)) = env') : Env.le env env' := by
 have := Env.le_keep env (env'.map (·.1))
 rwa [he] at this
def GL (da : DA) (P : Program) (N : Nat) (c : Code) (env : Env) (h : Hp) (K : Exit → Env → Hp → Prop) : Prop := ∃ k x e' h', LGn da P N c k env h x e' h' ∧ K x e' h'
theorem GQ.ofGL (H : GL da P N c env h K) : GQ da P N (.loop c) env h K := by
 obtain ⟨k, x, e', h', hl, hk⟩ := H
 exact ⟨x, e', h', Goes.loop hl, hk⟩
theorem Y60 (H : GQ da P N c env h (Ex.then (fun e h' => GL da P N c e h' K) K)) : GL da P N c env h K := by
 obtain ⟨x, e1, h1, g, k⟩ := H
 cases x with
 | normal =>
  obtain ⟨q, x, e2, h2, hq, hk⟩ := k
  exact ⟨q + 1, x, e2, h2, .inr ⟨e1, h1, g, hq⟩, hk⟩
 | _ => exact ⟨1, _, e1, h1, .inl ⟨by simp, g⟩, k⟩
theorem LGn.weaken {env' : Env} (hle : Env.le env env') {k : Nat} {x : Exit} {e2 : Env} {h2 : Hp} (hl : LGn da P N c k env' h x e2 h2) : LGn da P N c k env h x e2 h2 := by
 cases k with
 | zero => exact hl
 | succ k =>
  simp only [LGn] at hl ⊢
  rcases hl with ⟨hx, g⟩ | ⟨e1, h1, g, hq⟩
  ·exact .inl ⟨hx, g.weaken hle⟩
  ·exact .inr ⟨e1, h1, g.weaken hle, hq⟩
theorem GL.toE (env' : Env) (he : env.keep (env'.map (·.1)) = env') (H : GL da P N c env' h K) : GL da P N c env h K := by
 obtain ⟨k, x, e', h', hl, hk⟩ := H
 exact ⟨k, x, e', h', hl.weaken (Ya he), hk⟩
theorem Y5b {d : Code} (J : Env → Hp → Prop) (hc : GQ da P N c env h (Ex.then J K)) (hd : ∀ e h', J e h' → GQ da P N d e h' K) : GQ da P N (.seq c d) env h K := by
 refine Y6 (hc.mono fun x e h' k => ?_)
 cases x with
 | normal => exact hd e h' k
 | _ => exact k
theorem Yw {fn : Func} {Q : Hp → AV → Prop} {Qp : Hp → List PanicEntry → Prop} {xs : List AV} (hr : resE P h env fn.results.toList = some xs) (H : Q h (resOf xs)) : EndK P fn Q Qp .ret env h := ⟨xs, hr, H⟩
theorem Y5s {fn : Func} {Q : Hp → AV → Prop} {Qp : Hp → List PanicEntry → Prop} {xs : List AV} (hr : resE P h env fn.results.toList = some xs) (H : Q h (resOf xs)) : EndK P fn Q Qp .normal env h := ⟨xs, hr, H⟩
theorem Nw.at {r : Nat} {rt : Rt} (hn : Nw h r rt h1) : h1.at r = some rt := by
 obtain ⟨_, rfl⟩ := hn
 simp [Hp.at]
theorem Y5i {b : Bool} (hs : HStep P o env h h1 (.bool b)) (hb : b = true) : HStep P o env h h1 (.bool true) := hb ▸ hs
theorem Y5j {b : Bool} (hs : HStep P o env h h1 (.bool b)) (hb : b = false) : HStep P o env h h1 (.bool false) := hb ▸ hs
theorem Y48 (hs : oneA h s) : Y0u s = [s] := by
 cases s <;> first | rfl | (exact hs.elim)
inductive CL : List (Nat × AV) → List (Nat × List AV) → Prop
 | nil : CL [] []
 | cons {i : Nat} {v : AV} {cs : List AV} {r : List (Nat × AV)} {r' : List (Nat × List AV)} (e : Y0u v = cs) (t : CL r r') : CL ((i, v) :: r) ((i, cs) :: r')
def fillB (place : Nat → Option (Nat × Nat)) : List AV → List (Nat × List AV) → Option (List AV)
 | cells, [] => some cells
 | cells, (i, v) :: rest => match place i with
  | none => none
  | some (off, size) => if v.length = size ∧ off + v.length ≤ cells.length then fillB place (putA cells off v) rest else none
theorem CL.fill {place : Nat → Option (Nat × Nat)} : ∀ {qs : List (Nat × AV)} {rs : List (Nat × List AV)} (cells : List AV), CL qs rs → Y46 h place cells qs = fillB place cells rs
 | _, _, cells, .nil => rfl
 | _, _, cells, .cons (i := i) e t => by
  simp only [Y46, fillB, e]
  cases place i with
  | none => rfl
  | some p => obtain ⟨off, size⟩ := p; simp only; split <;> first | exact CL.fill _ t | rfl
theorem Y58 {t : TypeId} {ps : List (Nat × Operand)} {qs : List (Nat × AV)} {z : List Value} {fs : List (Nat × Nat)} {cs : List AV} {rs : List (Nat × List AV)} (ho : o.op = .build t ps.toArray) (hz : zc P t = some z) (hf : fps P t = some fs)
  (hq : ps.map (fun p => (p.1, rdo env p.2)) = qs) (hqs : ∀ q ∈ qs, NC q.2 ∧ okC h q.2) (hcl : CL qs rs) (hfillB : fillB (fs[·]?) (z.map fun v => .im (.val v)) rs = some cs) : HStep P o env h h (.agg cs) := by
 have hfill : Y46 h (fs[·]?) (z.map fun v => .im (.val v)) qs = some cs := (hcl.fill _).trans hfillB
 have hp : ∀ p ∈ ps, NC (rdo env p.2) ∧ okC h (rdo env p.2) := fun p hp => hqs (p.1, rdo env p.2) (by rw [← hq]; exact X01.2 ⟨p, hp, rfl⟩)
 have he : (ps.map fun p => (p.1, st (rdo env p.2))) = qs := by
  rw [← hq]
  exact X08 fun p hp' => by rw [(hp p hp').1.2]
 refine Yn ?_ ?_
 ·rw [ho]
  show (∀ p ∈ ps.toArray.toList, gd (rdo env p.2)) ∧ poBuild P h t (ps.toArray.toList.map fun p => (p.1, st (rdo env p.2)))
  simp only [List.toList_toArray]
  rw [he]
  refine ⟨fun p hp' => (hp p hp').1.1, fun q hq' => (hqs q hq').2, ?_⟩
  simp only [hz, hf, hfill]
  rfl
 ·rw [ho]
  show pvBuild P h t (ps.toArray.toList.map fun p => (p.1, st (rdo env p.2))) = _
  simp only [List.toList_toArray]
  rw [he]
  simp only [pvBuild, hz, hf, hfill]
theorem okC_agg {cs : List AV} (hs : ∀ x ∈ cs, oneA h x) : okC h (.agg cs) := hs
theorem okC_one (hs : oneA h s) : okC h s := by
 cases s <;> first | exact hs | (exact hs.elim)
theorem cellsA_one (hs : oneA h s) : (Y0u s).length = 1 := by
 cases s <;> first | rfl | (exact hs.elim)
theorem Y44 {u : Value} (hu : u.oneCell' = true) : okC h (.im (.val u)) := hu
theorem Y5e {t : TypeId} {x : Operand} {s : ByteArray} (ho : o.op = .call ⟨.builtin .len, #[x], #[t]⟩) (ht : tk P t = 2) (hx : rdo env x = .string s) : HStep P o env h h (.int .i64 (s.size : Nat)) :=
 Yn (by rw [ho]; show gd (rdo env x) ∧ poLen P h t (st (rdo env x)); rw [hx]; exact ⟨trivial, ht⟩) (by rw [ho]; show pvLen (st (rdo env x)) = _; rw [hx]; rfl)
theorem Y42 {c a b : Operand} (ho : o.op = .pick c a b) (hc : rdo env c = .bool true) (hx : rdo env a = s) (hs : NC s) : HStep P o env h h s :=
 Yn (by rw [ho]; show gd (rdo env c) ∧ poPick (st (rdo env c)) (rdo env a) (rdo env b); rw [hc]; exact ⟨trivial, fun _ => by rw [hx]; exact hs.1, fun e => by cases e⟩)
  (by rw [ho]; show pvPick (st (rdo env c)) (rdo env a) (rdo env b) = s; rw [hc]; show selA true (st (rdo env a)) (st (rdo env b)) = s; rw [selA_true, hx]; exact hs.2)
theorem Y5x {c a b : Operand} (ho : o.op = .pick c a b) (hc : rdo env c = .bool false) (hx : rdo env b = s) (hs : NC s) : HStep P o env h h s :=
 Yn (by rw [ho]; show gd (rdo env c) ∧ poPick (st (rdo env c)) (rdo env a) (rdo env b); rw [hc]; exact ⟨trivial, fun e => (by cases e), fun _ => by rw [hx]; exact hs.1⟩)
  (by rw [ho]; show pvPick (st (rdo env c)) (rdo env a) (rdo env b) = s; rw [hc]; show selA false (st (rdo env a)) (st (rdo env b)) = s; rw [selA_false, hx]; exact hs.2)
theorem Y5z {s d : TypeId} {x : Operand} {k kd : IntKind} {n : Int} {av : AV} (ho : o.op = .convert s d x) (hx : rdo env x = .int k n) (hd : ik P d = some kd) (hs : (tk P s != 0) = true) (hp : pvConv P d (.int k n) = av) : HStep P o env h h av :=
 Yn (by rw [ho]; show gd (rdo env x) ∧ poConv P s d (st (rdo env x)); rw [hx]; refine ⟨trivial, ?_⟩; simp only [st, poConv, hd]; simpa using hs)
  (by rw [ho]; show pvConv P d (st (rdo env x)) = av; rw [hx]; exact hp)
theorem Y1m : DObl P ops ms cl hl i [] [] env := trivial
theorem Y62 (hp : posN cl i 0 = none) (hs : ∀ h, OStep P ops o env h h v) (hr : DObl P ops ms cl hl (i + 1) l vs (setd env o.dst v)) : DObl P ops ms cl hl i (o :: l) (v :: vs) env := by
 refine ⟨?_, hr⟩
 rw [hp]
 exact fun p _ => hs _
theorem DObl.lite1 (p0 : Nat) (hp : posN cl i 0 = none) (hw : wins ms cl i cl.length = [p0]) (hs : OStep P ops o env (hl.getD p0 []) (hl.getD p0 []) v) (hr : DObl P ops ms cl hl (i + 1) l vs (setd env o.dst v)) : DObl P ops ms cl hl i (o :: l) (v :: vs) env := by
 refine ⟨?_, hr⟩
 rw [hp, hw]
 simpa using hs
theorem DObl.lite2 (p0 p1 : Nat) (hp : posN cl i 0 = none) (hw : wins ms cl i cl.length = [p0, p1]) (hs : OStep P ops o env (hl.getD p0 []) (hl.getD p0 []) v) (hs1 : OStep P ops o env (hl.getD p1 []) (hl.getD p1 []) v) (hr : DObl P ops ms cl hl (i + 1) l vs (setd env o.dst v)) : DObl P ops ms cl hl i (o :: l) (v :: vs) env := by
 refine ⟨?_, hr⟩
 rw [hp, hw]
 intro p hpp
 simp only [X00, X09, or_false] at hpp
 rcases hpp with rfl | rfl
 ·exact hs
 ·exact hs1
theorem DObl.lite3 (p0 p1 p2 : Nat) (hp : posN cl i 0 = none) (hw : wins ms cl i cl.length = [p0, p1, p2]) (hs0 : OStep P ops o env (hl.getD p0 []) (hl.getD p0 []) v) (hs1 : OStep P ops o env (hl.getD p1 []) (hl.getD p1 []) v) (hs2 : OStep P ops o env (hl.getD p2 []) (hl.getD p2 []) v) (hr : DObl P ops ms cl hl (i + 1) l vs (setd env o.dst v)) : DObl P ops ms cl hl i (o :: l) (v :: vs) env := by
 refine ⟨?_, hr⟩
 rw [hp, hw]
 intro p hpp
 simp only [X00, X09, or_false] at hpp
 rcases hpp with rfl | rfl | rfl
 ·exact hs0
 ·exact hs1
 ·exact hs2
theorem DObl.hv (k : Nat) (hp : posN cl i 0 = some k) (hs : OStep P ops o env (hl.getD k []) (hl.getD (k + 1) []) v) (hr : DObl P ops ms cl hl (i + 1) l vs (setd env o.dst v)) : DObl P ops ms cl hl i (o :: l) (v :: vs) env := by
 refine ⟨?_, hr⟩
 rw [hp]
 exact hs
end
end
section
variable {P : Program} {N : Nat} {ops : Array Oper} {env : Env} {h h1 : Hp} {da da' : DA} {K : Exit → Env → Hp → Prop}
def GD (da : DA) (P : Program) (N : Nat) (c : Code) (env : Env) (h : Hp) (da' : DA) (K : Exit → Env → Hp → Prop) : Prop := ∃ x env' h',
 (∀ (X : Ctx) (a : Act) (w : World) (ι : Nat → Bk), Hol X h ι w → SlD da N env h ι (Own X.B h ι) a w →
  c.wp P (fun e a' w' => e = x ∧ ∃ ι', Hol X h' ι' w' ∧ SlD da' N env' h' ι' (Own X.B h' ι') a' w' ∧ Keep w h ι (Own X.B h ι) w' h' ι' (Own X.B h' ι')) a w) ∧ K x env' h'
section
variable {c : Code} {fn : Func} {g : FuncId} {Q : Hp → AV → Prop} {ys : List AV} {c1 c2 c3 t1 t2 t3 r1 v1 o1 r2 v2 o2 r3 v3 o3 : Nat}
theorem GD.seq {d : Code} (H : GQ da P N c env h (Ex.then (fun e h' => GD da P N d e h' da' K) (fun _ _ _ => False))) : GD da P N (.seq c d) env h da' K := by
 obtain ⟨x, e1, h1, g, k⟩ := H
 cases x with
 | normal =>
  obtain ⟨y, e2, h2, g2, k2⟩ := k
  refine ⟨y, e2, h2, fun X a w ι H S => wp_seq (wp_mono (g X a w ι H S) ?_), k2⟩
  rintro e a' w' ⟨rfl, ι', H', S', K'⟩
  refine wp_mono (g2 X a' w' ι' H' S') ?_
  rintro e a2 w2 ⟨hx, ι2, H2, S2, K2⟩
  exact ⟨hx, ι2, H2, S2, K'.trans K2⟩
 | _ => exact k.elim
theorem GD.weaken {env' : Env} (hle : Env.le env env') (H : GD da P N c env' h da' K) : GD da P N c env h da' K := by
 obtain ⟨x, e, h', g, k⟩ := H
 exact ⟨x, e, h', fun X a w ι H S => g X a w ι H (S.le hle), k⟩
theorem GD.toE (env' : Env) (he : env.keep (env'.map (·.1)) = env') (H : GD da P N c env' h da' K) : GD da P N c env h da' K := GD.weaken (Ya he) H
theorem SlD.slots0 {ι : Nat → Bk} {A : Nat → Prop} {a : Act} {w : World} (S : SlD da N env h ι A a w) : Slots N env h ι A { tmps := a.tmps, defers := [] } w := ⟨S.size, rfl, S.at_⟩
theorem GD.put {id : Nat} {o1 o2 : Oper} {d : Code} {f t : Nat} {caps : List Operand} (hops : ops.toList = [o1, o2]) (h1 : o1.op = .makeFunc (.func f) #[] caps.toArray) (g1 : o1.guard = none) (d1 : o1.dst = some t) (hN : t < N)
  (h2 : o2.op = .defer ⟨.value (.tmp t), #[], #[]⟩) (g2 : o2.guard = none) (d2 : o2.dst = none) (hq : caps.map (fun y => rdo env y) = ys) (hgd : ∀ y ∈ ys, NC y) (h0 : rd env t = .any) (H : GQ ((f, [], ys) :: da) P N d env h K) :
  GD da P N (.seq (.region id ops false) d) env h ((f, [], ys) :: da) K := by
 obtain ⟨x, e', h', g, k⟩ := H
 refine ⟨x, e', h', fun X a w ι H S => wp_seq (wp_region_list ?_), k⟩
 rw [hops]
 refine wpList_step fun K1 hK1 => ?_
 rw [if_pos (by simp [Region.wanted, g1])]
 have hr1 : (execOp a.eval o1).run P w = .ok (.value (.func (.func f) #[] (caps.map a.eval).toArray)) w := by
  simp only [execOp, h1, X13]
  rfl
 simp only [Oper.wp, hr1, Oper.upon]
 refine hK1 _ _ (wpList_step fun K2 hK2 => ?_)
 rw [if_pos (by simp [Region.wanted, g2])]
 have hev : (a.put o1.dst (.func (.func f) #[] (caps.map a.eval).toArray)).eval (.tmp t) = .func (.func f) #[] (caps.map a.eval).toArray := by
  rw [d1]
  have : t < a.tmps.size := by rw [S.size]; exact hN
  simp [Act.eval, Act.put, this]
 have hr2 : (execOp (a.put o1.dst (.func (.func f) #[] (caps.map a.eval).toArray)).eval o2).run P w = .ok (.defer { target := .fn (.func f) (caps.map a.eval).toArray, args := #[] }) w := by
  simp only [execOp, h2, resolve, X6, hev]
  have hof : Deferred.ofValue (.func (.func f) #[] (caps.map a.eval).toArray) (Array.map (a.put o1.dst (Value.func (Fn.func f) #[] (List.map a.eval caps).toArray)).eval #[]) = Pure.pure ({ target := .fn (.func f) (caps.map a.eval).toArray, args := #[] ++ Array.map (a.put o1.dst (Value.func (Fn.func f) #[] (List.map a.eval caps).toArray)).eval #[] } : Deferred) := rfl
  simp only [hof, Xz, Xi]
  simp
 simp only [Oper.wp, hr2, Oper.upon]
 refine hK2 _ _ (wpList_nil ?_)
 have hy : ∀ y ∈ caps, NC (rdo env y) := fun y hy => hgd _ (by rw [← hq]; exact X01.2 ⟨y, hy, rfl⟩)
 have hvs : VRL w h ι (Own X.B h ι) ys (caps.map a.eval) := by
  have := args_vr (env := env) (a := { tmps := a.tmps, defers := [] }) caps (fun y h => (hy y h).1) (fun y h => S.slots0.eval H.globOK y)
  have he : (caps.map fun y => Abs.st (rdo env y)) = ys := by rw [← hq]; exact X08 fun y h => (hy y h).2
  rw [he] at this
  exact this
 have hS : SlD ((f, [], ys) :: da) N env h ι (Own X.B h ι) ({ (a.put o1.dst (.func (.func f) #[] (caps.map a.eval).toArray)) with defers := { target := .fn (.func f) (caps.map a.eval).toArray, args := #[] } :: (a.put o1.dst (.func (.func f) #[] (caps.map a.eval).toArray)).defers }.put o2.dst undef) w := by
  rw [d1, d2]
  refine ⟨?_, ?_, fun i => ?_⟩
  ·simp [Act.put, S.size]
  ·simp only [DR, Act.put]
   exact ⟨a.defers, [], caps.map a.eval, rfl, by simp [VRL], hvs, S.defers⟩
  ·by_cases hi : i = t
   ·subst hi; rw [h0]; simp [VR]
   ·have := S.at_ i
    simp only [Act.put, X5] at this ⊢
    rw [Xl (by omega)]
    exact this
 refine wp_mono (g X _ w ι H hS) ?_
 rintro e a' w' hh
 exact hh
theorem SQ.panE {o : Oper} {l : List Oper} {ch : List PanicEntry} (hs : OPan P ops o env h h1 ch) (H : K (.panic ch) env h1) : SQ P N ops (o :: l) env h K := by
 refine ⟨_, _, _, ?_, H⟩
 intro da X a w ι Q H S hQ
 refine wpList_step fun K' hK' => hs X a w ι Q K' H (fun s _ => S.at_ s) fun ι' w' H' K1 => ?_
 exact hQ ι' a w' H' (S.keep K1) K1
def CallDf (P : Program) (f : FuncId) (args : List AV) (h : Hp) (u : FrameMode) (h' : Hp) (u' : FrameMode) : Prop :=
 ∀ (X : Ctx) (w : World) (ι : Nat → Bk) (vs : List Value), Hol X h ι w → VRL w h ι (Own X.B h ι) args vs →
  CallsD P f vs.toArray u w fun e u2 w' => e = .returned (.tuple #[]) ∧ u2 = u' ∧ ∃ ι', Hol X h' ι' w' ∧ Keep w h ι (Own X.B h ι) w' h' ι' (Own X.B h' ι')
theorem ResV.ofLd {a t r ver off : Nat} {av : AV} {rs : List ResultVar} {xs : List AV} (hr : rd env a = .ref r ver off) (hz : lz P t = some none) (hl : Ld h r ver off av) (hs : ResV P h env rs xs) : ResV P h env (.cell a t :: rs) (av :: xs) := by
 obtain ⟨rt, h1, h2, h3, h4⟩ := hl
 have e2 : Y4u h (lz P t) (.ref r ver off) = av := by rw [hz]; simp only [Y4u, h1, h4]
 have hlt := (Xm.1 h4).1
 have := ResV.cell (P := P) (h := h) (env := env) (a := a) (t := t) hr (by
  simp only [ob, hz, st, gl, h1]
  simp [h2, h3, hlt, chk]) hs
 rw [e2] at this
 exact this
def EndD (P : Program) (fn : Func) (g : FuncId) (ys : List AV) (Q : Hp → AV → Prop) : Exit → Env → Hp → Prop
 | .normal, e, h => ∃ h', CallDf P g ys h .returning h' .returning ∧ ∃ xs, ResV P h' e fn.results.toList xs ∧ Q h' (resOf xs)
 | .ret, e, h => ∃ h', CallDf P g ys h .returning h' .returning ∧ ∃ xs, ResV P h' e fn.results.toList xs ∧ Q h' (resOf xs)
 | .panic ch, e, h => ∃ h' u', CallDf P g ys h (.panicking ch) h' u' ∧ settle u' = .returning ∧ ∃ xs, ResV P h' e fn.results.toList xs ∧ Q h' (resOf xs)
 | _, _, _ => False
theorem ResV.three {rs : List ResultVar} {a1 a2 a3 : AV} (hr : rs = [.cell c1 t1, .cell c2 t2, .cell c3 t3]) (e1 : rd env c1 = .ref r1 v1 o1) (e2 : rd env c2 = .ref r2 v2 o2) (e3 : rd env c3 = .ref r3 v3 o3) (z1 : lz P t1 = some none) (z2 : lz P t2 = some none) (z3 : lz P t3 = some none)
  (l1 : Ld h r1 v1 o1 a1) (l2 : Ld h r2 v2 o2 a2) (l3 : Ld h r3 v3 o3 a3) : ResV P h env rs [a1, a2, a3] := by
 rw [hr]
 exact .ofLd e1 z1 l1 (.ofLd e2 z2 l2 (.ofLd e3 z3 l3 .nil))
theorem EndD.pan3 {ch : List PanicEntry} (hr : fn.results.toList = [.cell c1 t1, .cell c2 t2, .cell c3 t3]) (e1 : rd env c1 = .ref r1 v1 o1) (e2 : rd env c2 = .ref r2 v2 o2) (e3 : rd env c3 = .ref r3 v3 o3) (z1 : lz P t1 = some none) (z2 : lz P t2 = some none) (z3 : lz P t3 = some none)
  (H : ∃ (h' : Hp) (u' : FrameMode), CallDf P g ys h (.panicking ch) h' u' ∧ settle u' = .returning ∧ ∃ (a1 a2 a3 : AV), Ld h' r1 v1 o1 a1 ∧ Ld h' r2 v2 o2 a2 ∧ Ld h' r3 v3 o3 a3 ∧ Q h' (.tup [a1, a2, a3])) : EndD P fn g ys Q (.panic ch) env h := by
 obtain ⟨h', u', b1, b2, a1, a2, a3, l1, l2, l3, q⟩ := H
 exact ⟨h', u', b1, b2, [a1, a2, a3], .three hr e1 e2 e3 z1 z2 z3 l1 l2 l3, q⟩
theorem Y61 (hr : fn.results.toList = [.cell c1 t1, .cell c2 t2, .cell c3 t3]) (e1 : rd env c1 = .ref r1 v1 o1) (e2 : rd env c2 = .ref r2 v2 o2) (e3 : rd env c3 = .ref r3 v3 o3) (z1 : lz P t1 = some none) (z2 : lz P t2 = some none) (z3 : lz P t3 = some none)
  (H : ∃ (h' : Hp), CallDf P g ys h .returning h' .returning ∧ ∃ (a1 a2 a3 : AV), Ld h' r1 v1 o1 a1 ∧ Ld h' r2 v2 o2 a2 ∧ Ld h' r3 v3 o3 a3 ∧ Q h' (.tup [a1, a2, a3])) : EndD P fn g ys Q .ret env h := by
 obtain ⟨h', b1, a1, a2, a3, l1, l2, l3, q⟩ := H
 exact ⟨h', b1, [a1, a2, a3], .three hr e1 e2 e3 z1 z2 z3 l1 l2 l3, q⟩
theorem CallOK.mkD {f : FuncId} {args : List AV} (hf : P.funcs[f]? = some fn) (hb : fn.body = some c) (hn : args.length ≤ fn.ntmps) (hc : Y1r P g = true)
  (H : GD [] P fn.ntmps c (args0 0 args) h [(g, [], ys)] (EndD P fn g ys Q)) : ∃ h' av, CallOK P f args h h' av ∧ Q h' av := by
 obtain ⟨x, e, h1, G, k⟩ := H
 have fin : ∀ (u u' : FrameMode) (h' : Hp) (xs : List AV), u ≠ .run → CallDf P g ys h1 u h' u' → settle u' = .returning → ResV P h' e fn.results.toList xs →
   ∀ (X : Ctx) (w w1 : World) (ι ι1 : Nat → Bk) (a1 : Act), Hol X h1 ι1 w1 → SlD [(g, [], ys)] fn.ntmps e h1 ι1 (Own X.B h1 ι1) a1 w1 → Keep w h ι (Own X.B h ι) w1 h1 ι1 (Own X.B h1 ι1) →
   Leaves P fn a1.tmps (fun e w' => ∃ v ι', e = .returned v ∧ Hol X h' ι' w' ∧ Keep w h ι (Own X.B h ι) w' h' ι' (Own X.B h' ι') ∧ VR w' h' ι' (Own X.B h' ι') (resOf xs) v) a1.defers u w1 := by
  intro u u' h' xs hu hd hs hres X w w1 ι ι1 a1 H1 S1 K1
  have hD := S1.defers
  simp only [DR] at hD
  obtain ⟨ds', l, m, he, hl, hm, rfl⟩ := hD
  simp only [VRL] at hl
  subst hl
  rw [he]
  refine leaves_cons (f := g) (args := m.toArray) hu ?_ ?_
  ·simp only [invoke]
   have e0 : (([] : List Value).toArray ++ m.toArray) = m.toArray := by simp
   rw [e0]
   exact callFunc_run hc
  ·refine (hd X w1 ι1 m H1 hm).mono ?_
   rintro e2 u2 w2 ⟨rfl, rfl, ι2, H2, K2⟩
   simp only
   rw [hs]
   have hdone : Done P fn (fun r _ => r = resOf xs) .ret e h' := Y4t (by simp) hres rfl
   obtain ⟨r, hr, hre⟩ := hdone
   subst hre
   obtain ⟨v, hrun, hvr⟩ := hr _ _ _ _ H2 (S1.keep K2).slots0
   exact ⟨v, hrun, v, ι2, rfl, H2, K1.trans K2, hvr⟩
 cases x with
 | normal =>
  obtain ⟨h', hd, xs, hres, hq⟩ := k
  refine ⟨h', _, fun X w ι vs H hv => ?_, hq⟩
  refine calls_of_wp_defers hf hb (wp_mono (G X _ w ι H (fnArgs hn hv)) ?_)
  rintro e' a' w' ⟨rfl, ι', H', S', K'⟩
  exact fin _ _ _ _ (by simp) hd rfl hres X w w' ι ι' a' H' S' K'
 | ret =>
  obtain ⟨h', hd, xs, hres, hq⟩ := k
  refine ⟨h', _, fun X w ι vs H hv => ?_, hq⟩
  refine calls_of_wp_defers hf hb (wp_mono (G X _ w ι H (fnArgs hn hv)) ?_)
  rintro e' a' w' ⟨rfl, ι', H', S', K'⟩
  exact fin _ _ _ _ (by simp) hd rfl hres X w w' ι ι' a' H' S' K'
 | panic ch =>
  obtain ⟨h', u', hd, hs, xs, hres, hq⟩ := k
  refine ⟨h', _, fun X w ι vs H hv => ?_, hq⟩
  refine calls_of_wp_defers hf hb (wp_mono (G X _ w ι H (fnArgs hn hv)) ?_)
  rintro e' a' w' ⟨rfl, ι', H', S', K'⟩
  exact fin _ _ _ _ (by simp) hd hs hres X w w' ι ι' a' H' S' K'
 | _ => exact k.elim
end
end
theorem nc1 {a : AV} (h : NC a := by exact ⟨trivial, rfl⟩) : ∀ v ∈ [a], NC v := fun v hv => by
 rw [Xd] at hv; rw [hv]; exact h
theorem nc2 {a b : AV} (h : NC a := by exact ⟨trivial, rfl⟩) (k : NC b := by exact ⟨trivial, rfl⟩) : ∀ v ∈ [a, b], NC v := fun v hv => by
 simp only [X00, X09, or_false] at hv
 rcases hv with rfl | rfl
 ·exact h
 ·exact k
section
variable {P : Program} {N : Nat} {ops : Array Oper} {env : Env} {h h1 : Hp} {da da' : DA} {K : Exit → Env → Hp → Prop} {o : Oper} {l : List Oper}
section
variable {r ver : Nat} {x : Operand} {t : TypeId}
theorem GQ.E {c : Code} (env' : Env) (H : GQ da P N c env' h K) (he : env.keep (env'.map (·.1)) = env' := by kernel_rfl) : GQ da P N c env h K := GQ.toE env' he H
theorem GD.E {c : Code} (env' : Env) (H : GD da P N c env' h da' K) (he : env.keep (env'.map (·.1)) = env' := by kernel_rfl) : GD da P N c env h da' K := GD.toE env' he H
theorem Y0l {c : Operand} {y z : Code} {b : Bool} (hb : b = true) (H : GQ da P N y env h K) (hc : rdo env c = .bool b := by kernel_rfl) : GQ da P N (.cond c y z) env h K := Y52 hc (fun _ => H) (fun e => by rw [hb] at e; cases e)
theorem Y0s {c : Operand} {y z : Code} {b : Bool} (hb : b = false) (H : GQ da P N z env h K) (hc : rdo env c = .bool b := by kernel_rfl) : GQ da P N (.cond c y z) env h K := Y52 hc (fun e => by rw [hb] at e; cases e) (fun _ => H)
theorem Y5 (s : AV) (H : SQ P N ops l (setd env o.dst s) h K) (hn : NC s := by exact ⟨trivial, rfl⟩) (ho : o.op = .move x := by rfl) (hx : rdo env x = s := by kernel_rfl) (hd : o.dst.all (· < N) = true := by rfl) (hg : gB ops env o = some true := by rfl) : SQ P N ops (o :: l) env h K :=
 Y4p hd (OStep.yes hg (Y5v ho hx hn)) H
theorem Ye (s : AV) (H : SQ P N ops l (setd env o.dst s) h K) (hn : NC s := by exact ⟨trivial, rfl⟩) (ho : o.op = .assign x := by rfl) (hx : rdo env x = s := by kernel_rfl) (hd : o.dst.all (· < N) = true := by rfl) (hg : gB ops env o = some true := by rfl) : SQ P N ops (o :: l) env h K :=
 Y4p hd (OStep.yes hg (Y5h ho hx hn)) H
theorem Yq {off : Nat} {av : AV} (hl : Ld h r ver off av) (ho : o.op = .load t x := by rfl) (hz : lz P t = some none := by kernel_rfl) (hx : rdo env x = .ref r ver off := by kernel_rfl) : HStep P o env h h av := Y5w ho hz hx hl
theorem Yj (off : Nat) (hh : Has h r ver) (ho : o.op = .nilCheck x := by rfl) (hx : rdo env x = .ref r ver off := by kernel_rfl) : HStep P o env h h (.ref r ver off) := Y5t ho hx hh
theorem Yk {i : Nat} (d off : Nat) (hh : Has h r ver) (ho : o.op = .fieldAddr t x i := by rfl) (hf : fo P t i = some d := by kernel_rfl) (hx : rdo env x = .ref r ver off := by kernel_rfl) : HStep P o env h h (.ref r ver (off + d)) := HStep.fa ho hf hx hh
theorem Y00 {off : Nat} {av : AV} (hl : Ld h r ver off av) (H : SQ P N ops l (setd env o.dst av) h K) (ho : o.op = .load t x := by rfl) (hz : lz P t = some none := by kernel_rfl) (hx : rdo env x = .ref r ver off := by kernel_rfl) (hd : o.dst.all (· < N) = true := by rfl) (hg : gB ops env o = some true := by rfl) : SQ P N ops (o :: l) env h K :=
 Y4p hd (OStep.yes hg (Y5w ho hz hx hl)) H
theorem Yr (off : Nat) (hh : Has h r ver) (H : SQ P N ops l (setd env o.dst (.ref r ver off)) h K) (ho : o.op = .nilCheck x := by rfl) (hx : rdo env x = .ref r ver off := by kernel_rfl) (hd : o.dst.all (· < N) = true := by rfl) (hg : gB ops env o = some true := by rfl) : SQ P N ops (o :: l) env h K :=
 Y4p hd (OStep.yes hg (Y5t ho hx hh)) H
theorem Yp {i : Nat} (d off : Nat) (hh : Has h r ver) (H : SQ P N ops l (setd env o.dst (.ref r ver (off + d))) h K) (ho : o.op = .fieldAddr t x i := by rfl) (hf : fo P t i = some d := by kernel_rfl) (hx : rdo env x = .ref r ver off := by kernel_rfl) (hd : o.dst.all (· < N) = true := by rfl) (hg : gB ops env o = some true := by rfl) : SQ P N ops (o :: l) env h K :=
 Y4p hd (OStep.yes hg (HStep.fa ho hf hx hh)) H
theorem Yl (v : AV) (hp : po P h (rdo env) o.op) (H : SQ P N ops l (setd env o.dst v) h K) (he : pv P h (rdo env) o.op = v := by kernel_rfl) (hd : o.dst.all (· < N) = true := by rfl) (hg : gB ops env o = some true := by rfl) : SQ P N ops (o :: l) env h K :=
 Y4p hd (OStep.yes hg (Yn hp he)) H
end
section
variable {ms cl : List Nat} {hl : List Hp} {i : Nat} {v : AV} {vs : List AV}
theorem Ym (s : AV) {x : Operand} (H : DObl P ops ms cl hl (i + 1) l vs (setd env o.dst s)) (hn : NC s := by exact ⟨trivial, rfl⟩) (hp : posN cl i 0 = none := by kernel_rfl) (ho : o.op = .move x := by rfl) (hx : rdo env x = s := by kernel_rfl) (hg : gB ops env o = some true := by rfl) : DObl P ops ms cl hl i (o :: l) (s :: vs) env :=
 Y62 hp (fun _ => OStep.yes hg (Y5v ho hx hn)) H
theorem Yc (p0 : Nat) (hs : HStep P o env (hl.getD p0 []) (hl.getD p0 []) v) (H : DObl P ops ms cl hl (i + 1) l vs (setd env o.dst v)) (hp : posN cl i 0 = none := by kernel_rfl) (hw : wins ms cl i cl.length = [p0] := by kernel_rfl) (hg : gB ops env o = some true := by rfl) : DObl P ops ms cl hl i (o :: l) (v :: vs) env :=
 DObl.lite1 p0 hp hw (OStep.yes hg hs) H
theorem Y0o (hs : ∀ h, HStep P o env h h v) (H : DObl P ops ms cl hl (i + 1) l vs (setd env o.dst v)) (hp : posN cl i 0 = none := by kernel_rfl) (hg : gB ops env o = some true := by rfl) : DObl P ops ms cl hl i (o :: l) (v :: vs) env :=
 Y62 hp (fun h => OStep.yes hg (hs h)) H
end
end
theorem al_ {α : Type} {p : α → Prop} : ∀ {l : List α}, l.foldr (fun x q => p x ∧ q) True → ∀ x ∈ l, p x
 | [], _, x, hx => by cases hx
 | a :: l, h, x, hx => by
  rcases X00.1 hx with rfl | hx
  ·exact h.1
  ·exact al_ (l := l) h.2 x hx
section
variable {P : Program} {N : Nat} {ops : Array Oper} {env : Env} {h h1 : Hp} {da da' : DA} {K : Exit → Env → Hp → Prop} {o : Oper} {l : List Oper} {av : AV}
section
variable {s : AV} {ts : Array TypeId} {f : FuncId} {vs : List AV} {xs : List Operand} {r k : Nat} {x : Operand} {t : TypeId}
theorem Y9 (hs : HStep P o env h h1 av) (H : SQ P N ops l (setd env o.dst av) h1 K) (hd : o.dst.all (· < N) = true := by rfl) (hg : gB ops env o = some true := by rfl) : SQ P N ops (o :: l) env h K := Y4p hd (OStep.yes hg hs) H
theorem Yv (H : SQ P N ops l (setd env o.dst undA) h K) (hd : o.dst.all (· < N) = true := by rfl) (hg : gB ops env o = some false := by rfl) : SQ P N ops (o :: l) env h K := Y4p hd (OStep.no hg) H
theorem Y43 (hs : CallOK P f vs h h1 av) (hv : ∀ v ∈ vs, NC v) (ho : o.op = .call ⟨.value (.func f), xs.toArray, ts⟩ := by rfl) (hc : Y1r P f = true := by kernel_rfl) (hq : xs.map (fun y => rdo env y) = vs := by kernel_rfl) : HStep P o env h h1 av := Y5u ho hc hq hv hs
theorem Y01 (hs : CallOK P f vs h h1 av) (hv : ∀ v ∈ vs, NC v) (H : SQ P N ops l (setd env o.dst av) h1 K) (ho : o.op = .call ⟨.value (.func f), xs.toArray, ts⟩ := by rfl) (hc : Y1r P f = true := by kernel_rfl) (hq : xs.map (fun y => rdo env y) = vs := by kernel_rfl) (hd : o.dst.all (· < N) = true := by rfl) (hg : gB ops env o = some true := by rfl) : SQ P N ops (o :: l) env h K :=
 Y4p hd (OStep.yes hg (Y5u ho hc hq hv hs)) H
theorem Y2m {ch : List PanicEntry} (hs : Y03 P f vs h h1 ch) (hv : ∀ v ∈ vs, NC v) (H : K (.panic ch) [] h1) (ho : o.op = .call ⟨.value (.func f), xs.toArray, ts⟩ := by rfl) (hc : Y1r P f = true := by kernel_rfl) (hq : xs.map (fun y => rdo env y) = vs := by kernel_rfl) (hg : gB ops env o = some true := by rfl) : SQ P N ops (o :: l) env h K :=
 SQ.pan (OPan.yes hg (HPan.call ho hc hq hv hs)) H
theorem Y17 {y : Operand} {ver off : Nat} {v : AV} (hs : St h r ver off v h1) (hv : NC v := by exact ⟨trivial, rfl⟩) (ho : o.op = .store t x y := by rfl) (hz : szt P t = some (Y0u v).length := by kernel_rfl) (hx : rdo env x = .ref r ver off := by kernel_rfl) (hy : rdo env y = v := by kernel_rfl) : HStep P o env h h1 .any := Y5m ho hz hx hy hv rfl hs
theorem Y35 {y : Operand} {ver off : Nat} {v : AV} (hs : St h r ver off v h1) (hv : NC v) (hn : oneA h v) (ho : o.op = .store t x y := by rfl) (hz : szt P t = some 1 := by kernel_rfl) (hx : rdo env x = .ref r ver off := by kernel_rfl) (hy : rdo env y = v := by kernel_rfl) : HStep P o env h h1 .any := Y5m ho hz hx hy hv (cellsA_one hn) hs
theorem Y57 {i : Operand} {j : Int} (hj : Ix h s k j av) (ho : o.op = .indexAddr t x i := by rfl) (ht : tk P t = 1 := by kernel_rfl) (he : ez P t = some k := by kernel_rfl) (hx : rdo env x = s := by kernel_rfl) (hi : rdo env i = .int .i64 j := by kernel_rfl) : HStep P o env h h av := Y5r ho ht he hx hi hj
theorem Y5k {i : Operand} {j : Int} (hj : Cut h s k j av) (ho : o.op = .slice t x none (some i) none := by rfl) (ht : tk P t = 1 := by kernel_rfl) (he : ez P t = some k := by kernel_rfl) (hx : rdo env x = s := by kernel_rfl) (hi : rdo env i = .int .i64 j := by kernel_rfl) : HStep P o env h h av := HStep.cut ho ht he hx hi hj
theorem Y3f {n : Nat} (hl : Len h s n) (ho : o.op = .call ⟨.builtin .len, #[x], #[t]⟩ := by rfl) (ht : tk P t = 1 := by kernel_rfl) (hx : rdo env x = s := by kernel_rfl) : HStep P o env h h (.int .i64 n) := Y5y ho ht hx hl
theorem Y3g {s : Operand} {u e : TypeId} {bytes m : Nat} {z : List Value} {sv s1 : AV} {news : List AV} (xv : AV) (E : Elem P t e k bytes z) (src : SrcA P h u k (Abs.st xv) m news) (ha : App h sv e k bytes m news h1 s1) (hg : gd xv := by exact trivial) (ho : o.op = .call ⟨.builtin .append, #[s, x], #[t, u]⟩ := by rfl) (hs : rdo env s = sv := by kernel_rfl) (hx : rdo env x = xv := by kernel_rfl) : HStep P o env h h1 s1 := HStep.app ho E hs hx hg src ha
theorem Y2g {e : TypeId} {len bytes : Nat} {z : List Value} {ps : List (Nat × Operand)} {cs : List AV} (qs : List (Nat × AV)) (E : Elem P t e k bytes z) (hn : Nw h r ⟨0, true, e, k, cs⟩ h1) (hqs : ∀ q ∈ qs, NC q.2 ∧ okC h q.2) (hone : ∀ x ∈ cs, oneA h x) (ho : o.op = .buildSlice t len ps.toArray := by rfl) (hlen : len * k ≤ 16777216 := by decide)
  (hq : ps.map (fun p => (p.1, rdo env p.2)) = qs := by kernel_rfl) (hf : Y46 h (fun i => some (i * k, k)) (Y3r z len) qs = some cs := by kernel_rfl) (hcl : cs.length = len * k := by rfl) : HStep P o env h h1 (.rsl r 0 0 len) := HStep.build ho E hlen hq hqs hf hone hcl hn
theorem Y4f {c a b : Operand} (s : AV) (hc : rdo env c = .bool true := by kernel_rfl) (hx : rdo env a = s := by kernel_rfl) (hs : NC s := by exact ⟨trivial, rfl⟩) (ho : o.op = .pick c a b := by rfl) : HStep P o env h h s := Y42 ho hc hx hs
theorem Y27 {c a b : Operand} (s : AV) (hc : rdo env c = .bool false := by kernel_rfl) (hx : rdo env b = s := by kernel_rfl) (hs : NC s := by exact ⟨trivial, rfl⟩) (ho : o.op = .pick c a b := by rfl) : HStep P o env h h s := Y5x ho hc hx hs
theorem Y4q {b : Bool} (hp : po P h (rdo env) o.op) (hb : b = true) (he : pv P h (rdo env) o.op = .bool b := by kernel_rfl) : HStep P o env h h (.bool true) := Y5i (Yn hp he) hb
theorem Y3e {b : Bool} (hp : po P h (rdo env) o.op) (hb : b = false) (he : pv P h (rdo env) o.op = .bool b := by kernel_rfl) : HStep P o env h h (.bool false) := Y5j (Yn hp he) hb
end
section
variable {ms cl : List Nat} {hl : List Hp} {i : Nat} {v : AV} {vs : List AV}
theorem Y0d (H : DObl P ops ms cl hl (i + 1) l vs (setd env o.dst undA)) (hp : posN cl i 0 = none := by kernel_rfl) (hg : gB ops env o = some false := by rfl) : DObl P ops ms cl hl i (o :: l) (undA :: vs) env := Y62 hp (fun _ => OStep.no hg) H
theorem Y1n (k : Nat) (hs : HStep P o env (hl.getD k []) (hl.getD (k + 1) []) v) (H : DObl P ops ms cl hl (i + 1) l vs (setd env o.dst v)) (hp : posN cl i 0 = some k := by kernel_rfl) (hg : gB ops env o = some true := by rfl) : DObl P ops ms cl hl i (o :: l) (v :: vs) env := DObl.hv k hp (OStep.yes hg hs) H
theorem Y5l (p0 p1 : Nat) (hs : HStep P o env (hl.getD p0 []) (hl.getD p0 []) v) (hs1 : HStep P o env (hl.getD p1 []) (hl.getD p1 []) v) (H : DObl P ops ms cl hl (i + 1) l vs (setd env o.dst v)) (hp : posN cl i 0 = none := by kernel_rfl) (hw : wins ms cl i cl.length = [p0, p1] := by kernel_rfl) (hg : gB ops env o = some true := by rfl) : DObl P ops ms cl hl i (o :: l) (v :: vs) env := DObl.lite2 p0 p1 hp hw (OStep.yes hg hs) (OStep.yes hg hs1) H
theorem Y37 (p0 p1 p2 : Nat) (hs : HStep P o env (hl.getD p0 []) (hl.getD p0 []) v) (hs1 : HStep P o env (hl.getD p1 []) (hl.getD p1 []) v) (hs2 : HStep P o env (hl.getD p2 []) (hl.getD p2 []) v) (H : DObl P ops ms cl hl (i + 1) l vs (setd env o.dst v)) (hp : posN cl i 0 = none := by kernel_rfl) (hw : wins ms cl i cl.length = [p0, p1, p2] := by kernel_rfl) (hg : gB ops env o = some true := by rfl) : DObl P ops ms cl hl i (o :: l) (v :: vs) env := DObl.lite3 p0 p1 p2 hp hw (OStep.yes hg hs) (OStep.yes hg hs1) (OStep.yes hg hs2) H
end
end
end Go.Abs
