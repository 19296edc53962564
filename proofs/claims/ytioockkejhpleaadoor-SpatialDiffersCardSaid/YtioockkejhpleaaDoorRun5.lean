/- Own work. -/
import Derived.Test.YtioockkejhpleaaDoorRun4
set_option linter.unusedSimpArgs false
set_option linter.unusedVariables false
namespace Go.Abs
open Go.RowKit
section
variable {P : Program} {N : Nat} {env : Env} {h : Hp}
def Goes (P : Program) (N : Nat) (c : Code) (env : Env) (h : Hp) (x : Exit) (env' : Env) (h' : Hp) : Prop :=
 ∀ (X : Ctx) (a : Act) (w : World) (ι : Nat → Bk), Hol X h ι w → Slots N env h ι (Own X.B h ι) a w →
  c.wp P (fun e a' w' => e = x ∧ ∃ ι', Hol X h' ι' w' ∧ Slots N env' h' ι' (Own X.B h' ι') a' w' ∧ Keep w h ι (Own X.B h ι) w' h' ι' (Own X.B h' ι')) a w
theorem Goes.seq {c d : Code} {x : Exit} {e1 e2 : Env} {h1 h2 : Hp} (hc : Goes P N c env h .normal e1 h1) (hd : Goes P N d e1 h1 x e2 h2) : Goes P N (.seq c d) env h x e2 h2 := by
 intro X a w ι H S
 refine wp_seq (wp_mono (hc X a w ι H S) ?_)
 rintro e a' w' ⟨rfl, ι', H', S', K'⟩
 refine wp_mono (hd X a' w' ι' H' S') ?_
 rintro e a'' w'' ⟨he, ι'', H'', S'', K''⟩
 exact ⟨he, ι'', H'', S'', K'.trans K''⟩
theorem Goes.seqOut {c d : Code} {x : Exit} {e1 : Env} {h1 : Hp} (hx : x ≠ .normal) (hc : Goes P N c env h x e1 h1) : Goes P N (.seq c d) env h x e1 h1 := by
 intro X a w ι H S
 refine wp_seq (wp_mono (hc X a w ι H S) ?_)
 rintro e a' w' ⟨rfl, hr⟩
 cases e with
 | normal => exact absurd rfl hx
 | _ => exact ⟨rfl, hr⟩
theorem Goes.cond {c : Operand} {y z : Code} {b : Bool} {x : Exit} {e1 : Env} {h1 : Hp} (hc : rdo env c = .bool b) (hg : Goes P N (bif b then y else z) env h x e1 h1) : Goes P N (.cond c y z) env h x e1 h1 := by
 intro X a w ι H S
 have hv := S.eval H.globOK c
 rw [hc, Y5h] at hv
 refine wp_cond_split hv (fun e => ?_) (fun e => ?_)
 ·subst e; exact hg X a w ι H S
 ·subst e; exact hg X a w ι H S
theorem Goes.block {id : Nat} {c : Code} {x : Exit} {e1 : Env} {h1 : Hp} (hc : Goes P N c env h x e1 h1) : Goes P N (.block id c) env h (match x with | .exit j => if j = id then .normal else .exit j | y => y) e1 h1 := by
 intro X a w ι H S
 refine wp_block (wp_mono (hc X a w ι H S) ?_)
 rintro e a' w' ⟨rfl, hr⟩
 cases e with
 | exit j =>
  simp only [Exit.inBlock]
  split
  ·rename_i hj; exact ⟨by simp [hj], hr⟩
  ·rename_i hj; exact ⟨by simp [hj], hr⟩
 | _ => exact ⟨rfl, hr⟩
theorem Goes.scope {c : Code} {x : Exit} {e1 : Env} {h1 : Hp} (hx : ∀ l, x ≠ .goto l) (hc : Goes P N c env h x e1 h1) : Goes P N (.scope c) env h x e1 h1 := by
 intro X a w ι H S
 refine wp_scope_straight (wp_mono (hc X a w ι H S) ?_)
 rintro e a' w' ⟨rfl, hr⟩
 cases e with
 | goto l => exact absurd rfl (hx l)
 | _ => exact ⟨rfl, hr⟩
theorem Goes.scopeJump {c rest : Code} {l : Nat} {x : Exit} {e1 e2 : Env} {h1 h2 : Hp} (hx : ∀ l, x ≠ .goto l) (hf : findLabel c l = some rest) (hc : Goes P N c env h (.goto l) e1 h1) (hr : Goes P N rest e1 h1 x e2 h2) : Goes P N (.scope c) env h x e2 h2 := by
 intro X a w ι H S
 refine wp_scope_jumps l (fun a1 w1 => ∃ ι', Hol X h1 ι' w1 ∧ Slots N e1 h1 ι' (Own X.B h1 ι') a1 w1 ∧ Keep w h ι (Own X.B h ι) w1 h1 ι' (Own X.B h1 ι')) (fun _ _ => 0) hf (wp_mono (hc X a w ι H S) ?_) ?_
 ·rintro e a' w' ⟨rfl, hr⟩
  exact ⟨rfl, hr⟩
 ·rintro a1 w1 ⟨ι', H', S', K'⟩
  refine wp_mono (hr X a1 w1 ι' H' S') ?_
  rintro e a'' w'' ⟨rfl, ι'', H'', S'', K''⟩
  cases e with
  | goto l => exact absurd rfl (hx l)
  | _ => exact ⟨rfl, ι'', H'', S'', K'.trans K''⟩
theorem Goes.trim {c : Code} {x : Exit} {e1 e2 : Env} {h1 : Hp} (hle : Env.le e1 e2) (hg : Goes P N c env h x e1 h1) : Goes P N c env h x e2 h1 := by
 intro X a w ι H S
 refine wp_mono (hg X a w ι H S) ?_
 rintro e a' w' ⟨he, ι', H', S', K'⟩
 exact ⟨he, ι', H', S'.le hle, K'⟩
/- Which slots are looked at behind a region; a mere hint: what is not listed is forgotten. -/
abbrev Lv := List (Option (List Nat))
def trimE (lv : Lv) (id : Nat) (env : Env) : Env := match lv[id]? with
 | some (some l) => l.map fun i => (i, rdq env i)
 | _ => env
theorem trimE_le (lv : Lv) (id : Nat) (env : Env) : Env.le env (trimE lv id env) := by
 unfold trimE
 split
 ·rename_i l _
  have : (l.map fun i => (i, rdq env i)) = env.keep l := by simp only [Env.keep, rdq_eq]
  rw [this]
  exact Env.le_keep env l
 ·exact fun i => .inr rfl
abbrev RunT := Nat → Lv → Code → Env → Hp → Nat → Option (Exit × Env × Hp × Nat)
def RunOK (P : Program) (self : RunT) : Prop := ∀ N lv c env h n x env' h' n', self N lv c env h n = some (x, env', h', n') → Goes P N c env (cutH n h) x env' (cutH n' h')
def resE (P : Program) (h : Hp) (env : Env) : List ResultVar → Option (List AV)
 | [] => some []
 | .tmp t :: rs => match resE P h env rs with
  | some xs => some (rd env t :: xs)
  | none => none
 | .cell a t :: rs => match rd env a with
  | .ref r ver off => (match ob P h (fun _ => .ref r ver off) (.load t (.tmp 0)), resE P h env rs with
   | some [], some xs => some (pvLoad h (lz P t) (.ref r ver off) :: xs)
   | _, _ => none)
  | _ => none
theorem resE_sound : ∀ (rs : List ResultVar) (xs : List AV), resE P h env rs = some xs → ResV P h env rs xs
 | [], xs, hr => by simp only [resE, X1] at hr; subst hr; exact .nil
 | .tmp t :: rs, xs, hr => by
  simp only [resE] at hr
  split at hr
  ·rename_i ys h1
   simp only [X1] at hr
   subst hr
   exact .tmp (resE_sound rs ys h1)
  ·cases hr
 | .cell a t :: rs, xs, hr => by
  simp only [resE] at hr
  split at hr
  ·rename_i r ver off h0
   split at hr
   ·rename_i ys h1 h2
    simp only [X1] at hr
    subst hr
    exact .cell h0 h1 (resE_sound rs ys h2)
   ·cases hr
  ·cases hr
/- Functions whose contracts are known. -/
abbrev Orc := FuncId → List AV → Option AV
def OrcOK (P : Program) (orc : Orc) : Prop := ∀ f args av, orc f args = some av → ∀ h, CallOK P f args h h av
def endR (P : Program) (fn : Func) : Option (Exit × Env × Hp × Nat) → Option (AV × Hp × Nat)
 | some (.normal, env, h', n') => (match resE P (cutH n' h') env fn.results.toList with | some xs => some (resOf xs, h', n') | none => none)
 | some (.ret, env, h', n') => (match resE P (cutH n' h') env fn.results.toList with | some xs => some (resOf xs, h', n') | none => none)
 | _ => none
def callR (P : Program) (hints : List Lv) (orc : Orc) (self : RunT) : CallE := fun f args h n => match orc f args with
 | some av => some (av, h, n)
 | none => match P.funcs[f]? with
  | some fn => (match fn.body with
   | some c => bif nle args.length fn.ntmps then endR P fn (self fn.ntmps (hints.getD f []) c (args0 0 args) h n) else none
   | none => none)
  | none => none
theorem callR_sound {hints : List Lv} {orc : Orc} (ho : OrcOK P orc) {self : RunT} (hs : RunOK P self) : CallsOK P (callR P hints orc self) := by
 intro f args h n av h' n' hc
 unfold callR at hc
 split at hc
 ·rename_i av' h1
  simp only [X1, Prod.mk.injEq] at hc
  obtain ⟨rfl, rfl, rfl⟩ := hc
  exact ho f args _ h1 _
 ·split at hc
  ·rename_i fn hf
   split at hc
   ·rename_i c hb
    obtain ⟨hn, hc⟩ := Y3f hc
    rw [nle_eq] at hn
    have fin : ∀ (x : Exit) (env : Env) (h1 : Hp) (n1 : Nat) (xs : List AV), (x = .normal ∨ x = .ret) → self fn.ntmps (hints.getD f []) c (args0 0 args) h n = some (x, env, h1, n1) → resE P (cutH n1 h1) env fn.results.toList = some xs → CallOK P f args (cutH n h) (cutH n1 h1) (resOf xs) := by
     intro x env h1 n1 xs hx hself hres X w ι vs H hv
     have hlen := hv.length
     have hg := hs _ _ _ _ _ _ _ _ _ _ hself
     have hdone : Done P fn (fun r _ => r = resOf xs) .ret env (cutH n1 h1) := Done.gen (by simp) (resE_sound _ _ hres) rfl
     refine calls_of_wp hf hb (wp_mono (hg X _ w ι H ⟨?_, rfl, fun i => ?_⟩) ?_)
     ·simp [hlen]; omega
     ·by_cases hi : i < vs.length
      ·have := rd_args0 args vs 0 hv i
       simp only [X0i] at this
       simp only [X4]
       rw [Array.getElem?_append_left (by simpa using hi)]
       simpa using this
      ·rw [rd_args0_ge args 0 i (by omega)]
       simp [VR]
     ·rintro e a' w' ⟨rfl, ι', H', S', K'⟩
      obtain ⟨r, hr, hre⟩ := hdone
      subst hre
      obtain ⟨v, hrun, hvr⟩ := hr _ _ _ _ H' S'
      rcases hx with rfl | rfl
      ·exact ⟨S'.defers, v, hrun, v, ι', rfl, H', K', hvr⟩
      ·exact ⟨S'.defers, v, hrun, v, ι', rfl, H', K', hvr⟩
    cases hself : self fn.ntmps (hints.getD f []) c (args0 0 args) h n with
    | none => rw [hself] at hc; simp [endR] at hc
    | some q =>
     obtain ⟨x, env, h1, n1⟩ := q
     rw [hself] at hc
     unfold endR at hc
     split at hc
     ·rename_i heq
      simp only [X1, Prod.mk.injEq] at heq
      obtain ⟨rfl, rfl, rfl, rfl⟩ := heq
      split at hc
      ·rename_i xs hres
       simp only [X1, Prod.mk.injEq] at hc
       obtain ⟨rfl, rfl, rfl⟩ := hc
       exact fin _ _ _ _ _ (.inl rfl) hself hres
      ·cases hc
     ·rename_i heq
      simp only [X1, Prod.mk.injEq] at heq
      obtain ⟨rfl, rfl, rfl, rfl⟩ := heq
      split at hc
      ·rename_i xs hres
       simp only [X1, Prod.mk.injEq] at hc
       obtain ⟨rfl, rfl, rfl⟩ := hc
       exact fin _ _ _ _ _ (.inr rfl) hself hres
      ·cases hc
     ·cases hc
   ·cases hc
  ·cases hc
def loopE (self : Env → Hp → Nat → Option (Exit × Env × Hp × Nat)) : Nat → Env → Hp → Nat → Option (Exit × Env × Hp × Nat)
 | 0, _, _, _ => none
 | k + 1, env, h, n => match self env h n with
  | some (.normal, e, h', n') => loopE self k e h' n'
  | r => r
theorem loopE_sound {self : Env → Hp → Nat → Option (Exit × Env × Hp × Nat)} {c : Code} (hs : ∀ env h n x env' h' n', self env h n = some (x, env', h', n') → Goes P N c env (cutH n h) x env' (cutH n' h')) {k n n' : Nat} {x : Exit} {env' : Env} {h' : Hp}
  (hl : loopE self k env h n = some (x, env', h', n')) (hx : x ≠ .normal) : Goes P N (.loop c) env (cutH n h) x env' (cutH n' h') := by
 intro X a w ι H S
 refine wp_loop_ghost (fun m a1 w1 => ∃ (env1 : Env) (h1 : Hp) (n1 : Nat) (ι1 : Nat → Bk), loopE self m env1 h1 n1 = some (x, env', h', n') ∧ Hol X (cutH n1 h1) ι1 w1 ∧ Slots N env1 (cutH n1 h1) ι1 (Own X.B (cutH n1 h1) ι1) a1 w1 ∧ Keep w (cutH n h) ι (Own X.B (cutH n h) ι) w1 (cutH n1 h1) ι1 (Own X.B (cutH n1 h1) ι1)) k
  ⟨env, h, n, ι, hl, H, S, Keep.refl _ _ _ _⟩ ?_
 rintro m a1 w1 ⟨env1, h1, n1, ι1, hl1, H1, S1, K1⟩
 cases m with
 | zero => simp [loopE] at hl1
 | succ m =>
  simp only [loopE] at hl1
  split at hl1
  ·rename_i e2 h2 n2 hself
   refine wp_mono (hs _ _ _ _ _ _ _ hself X a1 w1 ι1 H1 S1) ?_
   rintro e a2 w2 ⟨rfl, ι2, H2, S2, K2⟩
   exact ⟨m, by omega, e2, h2, n2, ι2, hl1, H2, S2, K1.trans K2⟩
  ·rename_i r hne
   refine wp_mono (hs _ _ _ _ _ _ _ hl1 X a1 w1 ι1 H1 S1) ?_
   rintro e a2 w2 ⟨rfl, ι2, H2, S2, K2⟩
   cases e with
   | normal => exact absurd rfl hx
   | _ => exact ⟨rfl, ι2, H2, S2, K1.trans K2⟩
/- One piece of code, by an evaluator of its parts. -/
def rbReg (lv : Lv) (id : Nat) : Option (Env × Hp × Nat) → Option (Exit × Env × Hp × Nat)
 | some (e, h', n') => some (.normal, trimE lv id e, h', n')
 | none => none
def rbSeq (self : RunT) (N : Nat) (lv : Lv) (d : Code) : Option (Exit × Env × Hp × Nat) → Option (Exit × Env × Hp × Nat)
 | some (.normal, e, h', n') => self N lv d e h' n'
 | r => r
def rbCond (self : RunT) (N : Nat) (lv : Lv) (y z : Code) (env : Env) (h : Hp) (n : Nat) : AV → Option (Exit × Env × Hp × Nat)
 | .im (.val (.bool b)) => self N lv (bif b then y else z) env h n
 | _ => none
def rbBlock (id : Nat) : Option (Exit × Env × Hp × Nat) → Option (Exit × Env × Hp × Nat)
 | some (.exit j, e, h', n') => some (if j = id then .normal else .exit j, e, h', n')
 | r => r
def rbLoop : Option (Exit × Env × Hp × Nat) → Option (Exit × Env × Hp × Nat)
 | some (.normal, _, _, _) => none
 | r => r
def rbJump : Option (Exit × Env × Hp × Nat) → Option (Exit × Env × Hp × Nat)
 | some (.goto _, _, _, _) => none
 | r => r
def rbScope (self : RunT) (N : Nat) (lv : Lv) (c : Code) : Option (Exit × Env × Hp × Nat) → Option (Exit × Env × Hp × Nat)
 | some (.goto l, e, h', n') => (match findLabel c l with
  | some rest => rbJump (self N lv rest e h' n')
  | none => none)
 | r => r
def runB (P : Program) (hints : List Lv) (orc : Orc) (self : RunT) : RunT := fun N lv c env h n => match c with
 | .skip => some (.normal, env, h, n)
 | .label _ => some (.normal, env, h, n)
 | .exit id => some (.exit id, env, h, n)
 | .goto l => some (.goto l, env, h, n)
 | .ret => some (.ret, env, h, n)
 | .region id ops d => bif d then rbReg lv id (drawR P (callR P hints orc self) N ops env h n) else rbReg lv id (seqR P (callR P hints orc self) N ops ops.toList env h n)
 | .seq c d => rbSeq self N lv d (self N lv c env h n)
 | .cond c y z => rbCond self N lv y z env h n (rdoq env c)
 | .block id c => rbBlock id (self N lv c env h n)
 | .loop c => rbLoop (loopE (self N lv c) 1000000 env h n)
 | .scope c => rbScope self N lv c (self N lv c env h n)
 | .rangeFunc _ _ _ _ => none
 | .refuse _ => none
theorem rbReg_some {lv : Lv} {id : Nat} {q : Option (Env × Hp × Nat)} {x : Exit} {env' : Env} {h' : Hp} {n' : Nat} (hr : rbReg lv id q = some (x, env', h', n')) : ∃ e, q = some (e, h', n') ∧ x = .normal ∧ env' = trimE lv id e := by
 unfold rbReg at hr
 split at hr
 ·simp only [X1, Prod.mk.injEq] at hr
  obtain ⟨rfl, rfl, rfl, rfl⟩ := hr
  exact ⟨_, rfl, rfl, rfl⟩
 ·cases hr
theorem runB_sound {hints : List Lv} {orc : Orc} (ho : OrcOK P orc) {self : RunT} (hs : RunOK P self) : RunOK P (runB P hints orc self) := by
 intro N lv c env h n x env' h' n' hr
 have hcall := callR_sound (hints := hints) ho hs
 unfold runB at hr
 split at hr
 ·simp only [X1, Prod.mk.injEq] at hr
  obtain ⟨rfl, rfl, rfl, rfl⟩ := hr
  exact fun X a w ι H S => wp_skip ⟨rfl, ι, H, S, Keep.refl _ _ _ _⟩
 ·simp only [X1, Prod.mk.injEq] at hr
  obtain ⟨rfl, rfl, rfl, rfl⟩ := hr
  exact fun X a w ι H S => wp_label ⟨rfl, ι, H, S, Keep.refl _ _ _ _⟩
 ·simp only [X1, Prod.mk.injEq] at hr
  obtain ⟨rfl, rfl, rfl, rfl⟩ := hr
  exact fun X a w ι H S => wp_exit ⟨rfl, ι, H, S, Keep.refl _ _ _ _⟩
 ·simp only [X1, Prod.mk.injEq] at hr
  obtain ⟨rfl, rfl, rfl, rfl⟩ := hr
  exact fun X a w ι H S => wp_goto ⟨rfl, ι, H, S, Keep.refl _ _ _ _⟩
 ·simp only [X1, Prod.mk.injEq] at hr
  obtain ⟨rfl, rfl, rfl, rfl⟩ := hr
  exact fun X a w ι H S => wp_ret ⟨rfl, ι, H, S, Keep.refl _ _ _ _⟩
 ·rename_i id ops d
  cases d with
  | true =>
   obtain ⟨e, hd, rfl, rfl⟩ := rbReg_some hr
   exact Goes.trim (trimE_le lv id e) (fun X a w ι H S => drawR_sound hcall hd H S)
  | false =>
   obtain ⟨e, hd, rfl, rfl⟩ := rbReg_some hr
   exact Goes.trim (trimE_le lv id e) (fun X a w ι H S => wp_region_list (seqR_sound hcall _ _ _ _ _ _ _ hd X a w ι _ H S fun ι' a' w' H' S' K' => ⟨rfl, ι', H', S', K'⟩))
 ·rename_i c d
  cases hc : self N lv c env h n with
  | none => rw [hc] at hr; simp [rbSeq] at hr
  | some q =>
   obtain ⟨x1, e1, h1, n1⟩ := q
   rw [hc] at hr
   have g1 := hs _ _ _ _ _ _ _ _ _ _ hc
   cases x1 with
   | normal => exact g1.seq (hs _ _ _ _ _ _ _ _ _ _ hr)
   | _ =>
    simp only [rbSeq, X1, Prod.mk.injEq] at hr
    obtain ⟨rfl, rfl, rfl, rfl⟩ := hr
    exact Goes.seqOut (by simp) g1
 ·rename_i c y z
  rw [rdoq_eq] at hr
  unfold rbCond at hr
  split at hr
  ·rename_i b hc
   exact Goes.cond hc (hs _ _ _ _ _ _ _ _ _ _ hr)
  ·cases hr
 ·rename_i id c
  cases hc : self N lv c env h n with
  | none => rw [hc] at hr; simp [rbBlock] at hr
  | some q =>
   obtain ⟨x1, e1, h1, n1⟩ := q
   rw [hc] at hr
   have g1 := (hs _ _ _ _ _ _ _ _ _ _ hc).block (id := id)
   cases x1 with
   | exit j =>
    simp only [rbBlock, X1, Prod.mk.injEq] at hr
    obtain ⟨rfl, rfl, rfl, rfl⟩ := hr
    exact g1
   | _ =>
    simp only [rbBlock, X1, Prod.mk.injEq] at hr
    obtain ⟨rfl, rfl, rfl, rfl⟩ := hr
    exact g1
 ·rename_i c
  unfold rbLoop at hr
  split at hr
  ·cases hr
  ·rename_i hne
   exact loopE_sound (fun env h n x env' h' n' hq => hs _ _ _ _ _ _ _ _ _ _ hq) hr fun hx => by subst hx; exact hne _ _ _ hr
 ·rename_i c
  cases hc : self N lv c env h n with
  | none => rw [hc] at hr; simp [rbScope] at hr
  | some q =>
   obtain ⟨x1, e1, h1, n1⟩ := q
   rw [hc] at hr
   have g1 := hs _ _ _ _ _ _ _ _ _ _ hc
   cases x1 with
   | goto l =>
    simp only [rbScope] at hr
    split at hr
    ·rename_i rest hf
     unfold rbJump at hr
     split at hr
     ·cases hr
     ·rename_i hne
      exact Goes.scopeJump (fun l' hx => by subst hx; exact hne _ _ _ _ hr) hf g1 (hs _ _ _ _ _ _ _ _ _ _ hr)
    ·cases hr
   | _ =>
    simp only [rbScope, X1, Prod.mk.injEq] at hr
    obtain ⟨rfl, rfl, rfl, rfl⟩ := hr
    exact Goes.scope (by simp) g1
 ·cases hr
 ·cases hr
def runC (P : Program) (hints : List Lv) (orc : Orc) : Nat → RunT
 | 0 => fun _ _ _ _ _ _ => none
 | k + 1 => runB P hints orc (runC P hints orc k)
theorem runC_ok {hints : List Lv} {orc : Orc} (ho : OrcOK P orc) : ∀ k, RunOK P (runC P hints orc k)
 | 0 => fun _ _ _ _ _ _ _ _ _ _ hr => by simp [runC] at hr
 | k + 1 => runB_sound ho (runC_ok ho k)
def callF (P : Program) (hints : List Lv) (orc : Orc) (k : Nat) : CallE := callR P hints orc (runC P hints orc k)
theorem callF_ok {hints : List Lv} {orc : Orc} (ho : OrcOK P orc) (k : Nat) : CallsOK P (callF P hints orc k) := callR_sound ho (runC_ok ho k)
theorem QSpec.run {hints : List Lv} {orc : Orc} (ho : OrcOK P orc) (k : Nat) {f : FuncId} {args : List AV} {av : AV} (hc : (callF P hints orc k f args [] 0).map (·.1) = some av) : QSpec P f args av := by
 cases hr : callF P hints orc k f args [] 0 with
 | none => rw [hr] at hc; cases hc
 | some r =>
  obtain ⟨av', h', n'⟩ := r
  rw [hr] at hc
  simp only [Xp, X1] at hc
  subst hc
  intro w ι B vs H hv
  refine (callF_ok ho k _ _ _ _ _ _ _ hr _ w ι vs H hv).mono ?_
  rintro e w' ⟨v, ι', rfl, H', K', hvr⟩
  exact ⟨v, av', cutH n' h', ι', rfl, rfl, H', hvr⟩
end
end Go.Abs
