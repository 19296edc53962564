/- Own work. -/
import Derived.Test.YtkgfbpbndmklnaaDoorLibF
set_option linter.unusedSimpArgs false
set_option linter.unusedVariables false
namespace Go
abbrev Value.j (n : Int) : Value := .int .i64 n
end Go
namespace Go.Abs
open Go.RowKit
section
variable {P : Program} {N : Nat} {ops : Array Oper} {env : Env} {h : Hp}
end
section
variable {P : Program} {N : Nat} {ops : Array Oper} {env : Env} {h : Hp}
theorem RStep.store {o : Oper} {t : TypeId} {x y : Operand} (ho : o.op = .store t x y) {r ver off : Nat} {rt : Rt}
  (hx : st (rdo env x) = .ref r ver off) (hgx : gd (rdo env x)) (hgy : gd (rdo env y)) (hrt : h.at r = some rt) (hver : rt.ver = ver) (hl : rt.live = true) (hsz : szt P t = some (Y0u (st (rdo env y))).length) (hok : okC h (st (rdo env y)))
  (hfit : off + (Y0u (st (rdo env y))).length ≤ rt.cs.length) : RStep P o env h r ⟨rt.ver, true, rt.e, rt.k, putA rt.cs off (Y0u (st (rdo env y)))⟩ .any := by
 intro X a w ι Q next H hop hnx
 obtain ⟨rt', g, hrt', _, hg, hxv⟩ := Y4b (hx ▸ (hop x (by simp [ho, Op.operands])).st hgx) (by simp [hrt, hver])
 rw [hrt] at hrt'
 cases hrt'
 obtain ⟨arr, c1, c2, c3, c4, c5⟩ := (H.roots r rt hrt hl).row hg
 obtain ⟨hv1, hv2⟩ := hok.sound ((hop y (by simp [ho, Op.operands])).st hgy)
 have hvl : (a.eval y).cells.toList.length = (Y0u (st (rdo env y))).length := hv1.length
 have hcl : (arr.toList.take rt.cs.length).length = rt.cs.length := c4.length
 have hal : rt.cs.length ≤ arr.size := by simp at hcl; omega
 have hst := run_storeCells_at P g off rt.e (a.eval y).cells.toList 0 arr w c1 (by simp at hvl ⊢; omega) hv2
 simp only [X0d] at hst
 have hrun : (execOp a.eval o).run P w = .ok .skip (w.setRow g (putA arr.toList off (a.eval y).cells.toList).toArray) := by
  have hi : ∃ i, P.info? t = some i ∧ i.size = (a.eval y).cells.size := by
   unfold szt at hsz
   cases hi : P.info? t with
   | none => simp [hi] at hsz
   | some i => simp [hi] at hsz; exact ⟨i, rfl, by simp at hvl; omega⟩
  obtain ⟨i, hi, his⟩ := hi
  simp only [execOp, ho, Instr.storeAt, hxv, Instr.sureAddr, storeVar, sizeOf, typeInfo, program, X6, Sem.run, Xz, hi, Xi, his, ne_eq, not_true_eq_false, if_false, hst, putA]
 simp only [Oper.wp, hrun, Oper.upon]
 have htk : (putA arr.toList off (a.eval y).cells.toList).take rt.cs.length = putA (arr.toList.take rt.cs.length) off (a.eval y).cells.toList := by
  unfold putA
  have e1 : arr.toList.take off = (arr.toList.take rt.cs.length).take off := by rw [X0t]; congr 1; omega
  rw [Xs, Xs, X12, X12]
  have l1 : (arr.toList.take off).length = off := by simp; omega
  rw [l1]
  have l2 : (List.take rt.cs.length (List.take off arr.toList)) = List.take off arr.toList := by rw [X0t]; congr 1; omega
  rw [l2, e1]
  congr 1
  have l3 : (List.take (rt.cs.length - off) (a.eval y).cells.toList) = (a.eval y).cells.toList := Xt (by omega)
  rw [l3]
  congr 1
  rw [List.drop_take]
  congr 1
  omega
 have hpl : (putA rt.cs off (Y0u (st (rdo env y)))).length = rt.cs.length := by
  unfold putA; simp; omega
 have hup := H.upd r ⟨rt.ver, true, rt.e, rt.k, putA rt.cs off (Y0u (st (rdo env y)))⟩ (ι r) (w.setRow g (putA arr.toList off (a.eval y).cells.toList).toArray) rfl rfl rfl (by simp)
  (fun β hβ hne => setRow_other w g β _ (fun ee => hne rt hrt hl (by rw [ee]; exact hg))) (fun rt2 h2 => by rw [hrt] at h2; cases h2; exact .inr ⟨rfl, rfl, rfl⟩) (fun _ g' hg' => .inr ⟨rt, hrt, hl, hg'⟩) (fun _ Kp => by
   refine .inr ⟨g, _, hg, setRow_heap w g arr _ rt.e _ c1, ?_, c3, ?_, ?_⟩
   ·simp only [putA, X1d, X4, X0c, List.length_drop, X0h] at hvl ⊢
    omega
   ·rw [hpl]
    show VRL _ _ _ _ _ (List.take rt.cs.length (putA arr.toList off (a.eval y).cells.toList))
    rw [htk]
    exact VRL.putA off (VRL.keep Kp _ _ c4) (VRL.keep Kp _ _ hv1)
   ·rw [hpl]
    show ∀ u ∈ (List.take rt.cs.length (putA arr.toList off (a.eval y).cells.toList)), u.oneCell' = true
    rw [htk]
    intro u hu
    unfold putA at hu
    rcases Xw.1 hu with hu | hu
    ·rcases Xw.1 hu with hu | hu
     ·exact c5 u (X0y hu)
     ·exact hv2 u hu
    ·exact c5 u (List.mem_of_mem_drop hu))
 exact hnx _ _ _ hup.1 hup.2 (by simp only [VR])
end
section
variable {ops : Array Oper} {env e : Env} {K : Env → Hp → Prop} {Q : Exit → Env → Hp → Prop} {h : Hp} {os : List Oper} {N : Nat} {P : Program}
theorem OpsW.sg (n : Nat) (l : List Nat) (env' : Env) (hw : OpsW P N ops (os.drop n) env' h K)
  (he : kept l (evalS P N ops h (os.take n) env) = some ([], env') := by kernel_rfl) : OpsW P N ops os env h K := OpsW.seg n l [] env' he trivial hw
def qsO : Option (List Prop × Env) → List Prop
 | some (q, _) => q
 | none => [False]
theorem OpsW.sz (n : Nat) (l : List Nat) (env' : Env) (hq : AllP (qsO (kept l (evalS P N ops h (os.take n) env)))) (hw : OpsW P N ops (os.drop n) env' h K)
  (he : (kept l (evalS P N ops h (os.take n) env)).map Prod.snd = some env' := by kernel_rfl) : OpsW P N ops os env h K := by
 cases hk : kept l (evalS P N ops h (os.take n) env) with
 | none => rw [hk] at he; cases he
 | some x =>
  rw [hk] at he hq
  obtain ⟨q, e⟩ := x
  simp only [Xx, X0] at he
  subst he
  exact OpsW.seg n l q e hk hq hw
theorem QOps.sz (n : Nat) (env' : Env) {K : Env → Prop} (hq : AllP (qsO (evalS P N ops h (os.take n) env))) (hw : QOps P ops h (os.drop n) env' K)
  (he : (evalS P N ops h (os.take n) env).map Prod.snd = some env' := by kernel_rfl) : QOps P ops h os env K := by
 cases hk : evalS P N ops h (os.take n) env with
 | none => rw [hk] at he; cases he
 | some x =>
  rw [hk] at he hq
  obtain ⟨q, e⟩ := x
  simp only [Xx, X0] at he
  subst he
  exact QOps.seg (N := N) n q e hk hq hw
theorem OpsW.rc {l : List Oper} (env' : Env) (h' : Hp) (hs : StC env h env' h') (hw : OpsW P N ops l env' h' K) : OpsW P N ops l env h K := OpsW.recast hs hw
theorem Done.eq {fn : Func} {r : AV} {rs : List ResultVar} {xs : List AV} (hres : fn.results = rs.toArray) (hv : ResV P h env rs xs) (e : resOf xs = r := by kernel_rfl) : Done P fn (fun r' _ => r' = r) .ret env h := Y4t hres hv e
theorem Y1e {o : Oper} {f : FuncId} {xs : List Operand} {ts : Array TypeId} {rest : List Oper} {ys : List AV} {r : AV} (ho : o.op = .call ⟨.value (.func f), xs.toArray, ts⟩) (ha : ArgL h [] (xs.map fun x => st (rdo env x)) ys) (hs : QSpec P f ys r) (hr : OpsW P N ops rest (setd env o.dst r) h K)
  (hc : Y1r P f = true := by kernel_rfl) (hgu : o.guard = none := by rfl) (hd : o.dst.all (· < N) = true := by rfl) (hgd : ∀ x ∈ xs, gd (rdo env x) := by exact Yi trivial) (hp : pur r = true := by rfl) : OpsW P N ops (o :: rest) env h K := OpsW.qcall ho hc hgu hd hgd ha hs hp hr
theorem RtsC.o {h' : Hp} {φ : Nat → Option Nat} {r r' : Nat} {rt rt' : Rt} {l : Hp} (e : (φ r', h.at r, rt'.live, rt'.e, rt'.k) = (some r, some rt, rt.live, rt.e, rt.k)) (c : CstL h h' φ rt.cs rt'.cs) (k : RtsC h h' φ l) : RtsC h h' φ ((r', rt') :: l) := by
 simp only [Prod.mk.injEq] at e
 exact .old e.1 e.2.1 e.2.2.1 e.2.2.2.1 e.2.2.2.2 c k
theorem Cst.r {h h' : Hp} {φ : Nat → Option Nat} {r r' ver ver' off : Nat} {rt rt' : Rt} (e : (h.at r, h'.at r', φ r', rt.ver, rt'.ver) = (some rt, some rt', some r, ver, ver')) : Cst h h' φ (.ref r ver off) (.ref r' ver' off) := by
 simp only [Prod.mk.injEq] at e
 exact .ref e.1 e.2.1 e.2.2.1 e.2.2.2.1 e.2.2.2.2
theorem Cst.s {h' : Hp} {φ : Nat → Option Nat} {r r' ver ver' off n : Nat} {rt rt' : Rt} (e : (h.at r, h'.at r', φ r', rt.ver, rt'.ver, rt'.k) = (some rt, some rt', some r, ver, ver', rt.k)) : Cst h h' φ (.rsl r ver off n) (.rsl r' ver' off n) := by
 simp only [Prod.mk.injEq] at e
 exact .rsl e.1 e.2.1 e.2.2.1 e.2.2.2.1 e.2.2.2.2.1 e.2.2.2.2.2
theorem Ex.t {n : Env → Hp → Prop} : Ex.then n Q .ret e h = Q .ret e h := rfl
theorem Ex.b {i : Nat} : Ex.inBlock i Q .ret e h = Q .ret e h := rfl
theorem Ex.n : Ex.noGoto Q .ret e h = Q .ret e h := rfl
theorem Ex.y {l : Nat} {J : Env → Hp → Prop} : Ex.jump l J Q .ret e h = Q .ret e h := rfl
abbrev AV.j (n : Int) : AV := .int .i64 n
abbrev sU (l : List Int) : AV := slA (eI .u8) l
theorem Yb {c : Operand} {x y : Code} {b : Bool} {α : Type} {u v : Option α} {r : α} (H : _root_.cond b u v = some r) (hc : rdo env c = .bool b)
  (h1 : b = true → u = some r → AW P N x env h Q) (h2 : b = false → v = some r → AW P N y env h Q) : AW P N (.cond c x y) env h Q :=
 AW.cond hc (fun e => h1 e (condT e H)) (fun e => h2 e (condF e H))
end
section
variable {P : Program} {N : Nat} {ops : Array Oper} {env : Env} {h : Hp}
def findM (k : IntKind) (n : Int) : List (Value × Value) → Option (Option Value)
 | [] => some none
 | (.int k' m, v) :: es => if k = k' then (if n = m then some (some v) else findM k n es) else none
 | _ :: _ => none
theorem findM_sound {k : IntKind} {n : Int} (d : TypeDesc) (hd : d = .int k) : ∀ (es : List MapEntry) (i : Nat) (r : Option Value), findM k n (es.map fun e => (e.key, e.val)) = some r →
  ∃ q, Instr.findNow d (.int k n) es i = some q ∧ (match q, r with | some (_, v), some u => v = u | none, none => True | _, _ => False)
 | [], i, r, hf => by simp [findM] at hf; subst hf; exact ⟨none, by simp [Instr.findNow], trivial⟩
 | e :: es, i, r, hf => by
  simp only [Xp] at hf
  cases hk : e.key with
  | int k' m =>
   rw [hk] at hf
   simp only [findM] at hf
   split at hf
   ·rename_i ek
    subst ek
    split at hf
    ·rename_i en
     subst en
     simp only [X0] at hf
     subst hf
     exact ⟨some (i, e.val), by simp [Instr.findNow, hk, hd, Instr.sameNow], rfl⟩
    ·rename_i en
     obtain ⟨q, h1, h2⟩ := findM_sound d hd es (i + 1) r hf
     have hb : (n == m) = false := by simpa using en
     exact ⟨q, by rw [hd] at h1; simp [Instr.findNow, hk, hd, Instr.sameNow, hb, h1], h2⟩
   ·cases hf
  | _ => rw [hk] at hf; simp [findM] at hf
def ofV : Value → AV
 | .agg cs => .agg (cs.toList.map fun u => .im (.val u))
 | .tuple _ => .any
 | v => .im (.val v)
theorem ofV_sound {w : World} {ι : Nat → Bk} {A : Nat → Prop} (v : Value) : VR w h ι A (ofV v) v := by
 cases v with
 | agg cs => simp only [ofV, VR]; exact ⟨cs.toList, by simp, VRL.vals _⟩
 | _ => simp [ofV, VR, VRI]
def zv (P : Program) (t : TypeId) : Option Value := match P.info? t with
 | some i => i.zero
 | none => none
theorem zv_run {t : TypeId} {v : Value} {w : World} (hz : zv P t = some v) : (zeroValue t).run P w = .ok v w := by
 unfold zv at hz
 split at hz
 ·rename_i i hi
  simp [zeroValue, typeInfo, program, Sem.run, X6, hi, hz]
 ·cases hz
def lookE (P : Program) (t : TypeId) (x i : AV) : Option AV := match x, i with
 | .im (.mp es), .im (.val (.int k n)) => match P.underlying t with
  | some (.map kt et) => if ik P kt = some k then (match findM k n es with
   | some (some v) => some (ofV v)
   | some none => (zv P et).map ofV
   | none => none) else none
  | _ => none
 | _, _ => none
theorem Quiet.lookup {o : Oper} {t : TypeId} {x y : Operand} {r : AV} (ho : o.op = .lookup t x y false) (hg : gpo ops env o (gd (rdo env x) ∧ gd (rdo env y) ∧ lookE P t (st (rdo env x)) (st (rdo env y)) = some r)) : Quiet P ops o env h (gav ops env o r) :=
 Y1k hg fun ⟨hgx, hgy, hl⟩ X a w ι Q H hop next hn => by
 have hx := (hop x (by simp [ho, Op.operands])).st hgx
 have hy := (hop y (by simp [ho, Op.operands])).st hgy
 unfold lookE at hl
 split at hl
 ·rename_i es k n h1 h2
  rw [h1] at hx
  rw [h2, Y02] at hy
  split at hl
  ·rename_i kt et hu
   split at hl
   ·rename_i hk0
    have hk := ik_some hk0
    simp only [VR, VRI] at hx
    obtain ⟨g, ents, clock, hv, hg, _, he⟩ := hx
    have hget : (getObj g).run P w = .ok (.map ents clock) w := by simp [getObj, Sem.run, hg]
    have hck : (Instr.checkKey ents.isEmpty 10000 kt (.int k n)).run P w = .ok () w := by
     rw [show (10000 : Nat) = 9999 + 1 from rfl, Instr.checkKey]
     simp [X6, run_underlying hk]
    have hfin : ∀ rr v, findM k n es = some rr → (match rr with | some u => v = u | none => zv P et = some v) → (execOp a.eval o).run P w = .ok (.value v) w := by
     intro rr v hf hz
     rw [← he] at hf
     obtain ⟨q, hq1, hq2⟩ := findM_sound (.int k) rfl ents.toList 0 rr hf
     have hfk : (Instr.findKey kt (.int k n) ents.toList).run P w = .ok q w := by
      simp [Instr.findKey, X6, run_underlying hk, hq1]
     simp only [execOp, ho, Instr.lookup, hv, hy, X6, run_underlying hu, hget, Xi, Xz, hck, hfk]
     cases q with
     | none =>
      cases rr with
      | none => simp [X6, zv_run hz]
      | some u => exact hq2.elim
     | some p =>
      obtain ⟨j, v'⟩ := p
      cases rr with
      | none => exact hq2.elim
      | some u => simp at hq2 hz; subst hq2; subst hz; simp
    split at hl
    ·rename_i v hf
     simp only [X0] at hl
     subst hl
     simp only [Oper.wp, hfin (some v) v hf rfl, Oper.upon]
     exact hn v w (Below.refl _ _) (ofV_sound v)
    ·rename_i hf
     cases hz : zv P et with
     | none => rw [hz] at hl; simp at hl
     | some v =>
      rw [hz] at hl
      simp only [Xx, X0] at hl
      subst hl
      simp only [Oper.wp, hfin none v hf hz, Oper.upon]
      exact hn v w (Below.refl _ _) (ofV_sound v)
    ·cases hl
   ·cases hl
  ·cases hl
 ·cases hl
end
section
variable {P : Program} {N : Nat} {ops : Array Oper} {env : Env} {h : Hp}
theorem Rn1.r {h k : Hp} {φ : Nat → Option Nat} {r r' ver ver' off : Nat} {rt rt' : Rt} (e : (h.at r, k.at r', φ r', rt.ver, rt'.ver) = (some rt, some rt', some r, ver, ver')) : Rn1 h k φ (.ref r ver off) (.ref r' ver' off) := by
 simp only [Prod.mk.injEq] at e
 exact .ref e.1 e.2.1 e.2.2.1 e.2.2.2.1 e.2.2.2.2
theorem RnL.i2 {h k : Hp} {φ : Nat → Option Nat} {x1 x2 : IV} {us vs : List AV} (c : RnL h k φ us vs) : RnL h k φ (.im x1 :: .im x2 :: us) (.im x1 :: .im x2 :: vs) := .cons .im (.cons .im c)
end
end Go.Abs
