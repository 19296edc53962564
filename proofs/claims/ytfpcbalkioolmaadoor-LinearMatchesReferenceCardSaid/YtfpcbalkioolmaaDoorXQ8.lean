/- Own work. -/
import Derived.Test.YtfpcbalkioolmaaDoorXQ7
import Derived.Test.YtfpcbalkioolmaaDoorW8
import Derived.Test.YtfpcbalkioolmaaDoorLr15
set_option linter.unusedSimpArgs false
set_option linter.unusedVariables false
set_option maxHeartbeats 4000000
set_option maxRecDepth 100000
namespace Go.Proofs.YtfpcbalkioolmaaDoor
open Go.Abs
def DS : Nat → Type
 | 0 => Y1
 | 1 => Yb
 | 2 => Y3
 | 3 => Y0
 | 4 => Unit
 | _ => Unit
def DZ : (i : Nat) → DS i
 | 0 => Yh
 | 1 => zS_maker
 | 2 => zS_writer
 | 3 => zS_reader
 | 4 => ()
 | _ + 5 => ()
def DE : (i : Nat) → DS i → List IV
 | 0 => eS_Node
 | 1 => eS_maker
 | 2 => eS_writer
 | 3 => eS_reader
 | 4 => fun _ => [.mp (mapV Y57)]
 | _ + 5 => fun _ => []
def DT : Nat → List Ty
 | 0 => [.int .i64, .int .i64]
 | 1 => [.fz (.int .u8), .int .i64]
 | 2 => [.fz (.st 0), .int .i64, .sl 33 (.int .u8), .sl 33 (.int .u8), .ks 4]
 | 3 => [.fz (.int .u8), .int .i64, .bool, .bool]
 | 4 => [.ks 4]
 | _ + 5 => []
def DM : (i : Nat) → DenP DS (DT i) → DS i
 | 0 => fun p => (⟨p.1, p.2⟩ : Y1)
 | 1 => fun p => (⟨p.1, p.2⟩ : Yb)
 | 2 => fun p => (⟨p.1, p.2.1, p.2.2.1, p.2.2.2.1, p.2.2.2.2⟩ : Y3)
 | 3 => fun p => (⟨p.1, p.2.1, p.2.2.1, p.2.2.2⟩ : Y0)
 | 4 => fun _ => ()
 | _ + 5 => fun _ => ()
def DR : (i : Nat) → DS i → DenP DS (DT i)
 | 0 => fun (x : Y1) => (x.Op, x.N)
 | 1 => fun (x : Yb) => (x.B, x.At)
 | 2 => fun (x : Y3) => (x.f_, x.at_, x.level_, x.cells_, x.brackets_)
 | 3 => fun (x : Y0) => (x.L, x.At, x.Short, x.Bad)
 | 4 => fun _ => ()
 | _ + 5 => fun _ => ()
noncomputable def D0 : SD := sdOf DS DT DZ DE DM DR (fun i p => match i, p with | 0, _ => rfl | 1, _ => rfl | 2, _ => rfl | 3, _ => rfl | 4, _ => rfl | _ + 5, _ => rfl) (fun i x => match i, x with | 0, _ => rfl | 1, _ => rfl | 2, _ => rfl | 3, _ => rfl | 4, _ => rfl | _ + 5, _ => rfl) (fun i => match i with | 0 => rfl | 1 => rfl | 2 => rfl | 3 => rfl | 4 => rfl | _ + 5 => rfl)
noncomputable def te0 : TE := fun e => match e with | 3 => some (.int .i64) | 4 => some (.bool) | 5 => some (.int .u8) | 22 => some (.fz (.int .u8)) | 23 => some (.fz (.arr 2 (.int .u8))) | 26 => some (.fz (.st 0)) | 28 => some (.fz (.int .u8)) | 29 => some (.int .i64) | 33 => some (.int .u8) | 34 => some (.arr 2 (.int .u8)) | 36 => some (.fz (.fz (.int .u8))) | 50 => some (.st 0) | 53 => some (.st 1) | 58 => some (.st 2) | 61 => some (.fz (.int .i64)) | 78 => some (.fz (.fz (.st 0))) | 80 => some (.arr 3 (.int .u8)) | 101 => some (.st 3) | _ => none
noncomputable def gt0 : GTab D0 := fun g => match g with | 0 => some ⟨.int .u8, Y8⟩ | _ => none
def mp0 : Nat → Option (List (Int × List Int)) := fun i => match i with | 4 => some Y57 | _ => none
def ht0 : HT := (List.range 400).map fun d => (d, (List.range 10).map fun i => 2 * (16 * d + i) + 2)
theorem Y1a : GTOk D0 gt0 := fun g t xs h => by
 unfold gt0 at h
 split at h
 · cases h; exact ⟨by kernel_rfl, by decide⟩
 · cases h
theorem Y19 : ∀ i tab, mp0 i = some tab → (∀ x, D0.enc i x = [.mp (mapV tab)]) ∧ (tab.all fun p => p.2.length == 3) = true := fun i tab h => by
 unfold mp0 at h
 split at h
 · cases h; exact ⟨fun x => rfl, by decide⟩
 · cases h
theorem fc_none {f : FuncId} {c : FC D0} (h : ∀ ds, c.F ds = none) : IOK D0 Tryd.prog f c := fun ds y e => by rw [h] at e; cases e
theorem pc_none {f : FuncId} {ats rts : List Ty} {F : DenP D0.S ats → Option (DenP D0.S rts)} (hp : rts.all (plT D0) = true) (h : ∀ ds, F ds = none) : PCOK D0 Tryd.prog f (pcZ D0 ats rts F) := pcF_ok hp fun ds x e => by rw [h] at e; cases e
abbrev PO (f : FuncId) (c : PC D0) : Prop := PCOK D0 Tryd.prog f c
abbrev FO (f : FuncId) (c : FC D0) : Prop := IOK D0 Tryd.prog f c
abbrev PK (T : PCT D0) : Prop := ∀ f c, T f = some c → PO f c
abbrev CK (T : CtrT D0) : Prop := ∀ f c, T f = some c → CtrOK D0 Tryd.prog f c
abbrev tI : Ty := .int .i64
abbrev tU : Ty := .int .u8
abbrev tB : Ty := .bool
abbrev tS (i : Nat) : Ty := .st i
abbrev fI : Ty := .fz tI
abbrev fU : Ty := .fz tU
abbrev fS : Ty := .fz (tS 0)
noncomputable section
abbrev pZ (a r : List Ty) (F : DenP D0.S a → Option (DenP D0.S r)) : PC D0 := pcZ D0 a r F
def nP : PCT D0 := fun _ => none
def nC : CtrT D0 := fun _ => none
theorem P0 : PK nP := fun _ _ h => by cases h
theorem C0 : CK nC := fun _ _ h => by cases h
theorem pA {f : FuncId} {c : PC D0} {T : PCT D0} (h : PO f c) (k : PK T) : PK (ptc f c T) := Y0n h k
theorem cA {f : FuncId} {c : FC D0} {T : CtrT D0} (h : FO f c) (k : CK T) : CK (ctc f c T) := Y38 h k
theorem cB {f : FuncId} {c c' : FC D0} {T : CtrT D0} (h : FO f c) (h' : FO f c') (k : CK T) : CK (ctc2 f c c' T) := ctc2_ok h h' k
def xG (T : PCT D0) (U : CtrT D0) (ow : List Nat) (fz : List (Nat × Nat)) (h : HT) (n : Nat) : XG D0 := ⟨gt0, T, U, te0, mp0, ow, fz, h, n⟩
theorem xK {T : PCT D0} {U : CtrT D0} (a : PK T) (b : CK U) (ow : List Nat) (fz : List (Nat × Nat)) (h : HT) (n : Nat) : (xG T U ow fz h n).OK Tryd.prog := ⟨Y1a, a, b, Y19⟩
section
variable {R : Type}
def nK : Nat → Option (XK D0 R) := fun _ => none
def kA (l : Nat) (e : XK D0 R) (r : Nat → Option (XK D0 R)) : Nat → Option (XK D0 R) := fun n => bif Nat.beq n l then some e else r n
def kO (l : Nat) (e : XK D0 R) : Nat → Option (XK D0 R) := fun n => bif Nat.beq n l then some e else none
def kd (dc ds : List LD) (inv : LDP D0.S dc → SEnv D0) (cd : List Nat) (cs : LDP D0.S dc → XCs) (b : LDP D0.S dc → (LDP D0.S ds → Option R) → LDP D0.S ds → Option R) : XK D0 R := kcut D0 dc ds inv fun k s => hg 0 cd (cs k) (.opt (iter (b k) 1000000 s))
def kc (dc ds : List LD) (inv : LDP D0.S dc → SEnv D0) (b : LDP D0.S dc → (LDP D0.S ds → Option R) → LDP D0.S ds → Option R) : XK D0 R := kcut D0 dc ds inv fun k s => hg 0 [] [] (.opt (iter (b k) 1000000 s))
def k0 (dc ds : List LD) (b : LDP D0.S dc → (LDP D0.S ds → Option R) → LDP D0.S ds → Option R) : XK D0 R := kcut D0 dc ds (fun _ => []) fun k s => hg 0 [] [] (.opt (iter (b k) 1000000 s))
variable {G : XG D0} {f : FuncId} {fn : Func} {ats rts : List Ty} {F : DenP D0.S ats → Option (DenP D0.S rts)} {c : FC D0}
theorem xPl (g : G.OK Tryd.prog) (hf : Tryd.prog.funcs[f]? = some fn) (cut : Nat → Option (XK D0 (DenP D0.S rts))) (hH : ∀ ds : DenP D0.S ats, XHA D0 Tryd.prog G cut (fn.body.getD .skip) (KR D0 Tryd.prog rts fn.results.toList) True)
  (hk : (fn.body.isSome && (Nat.beq fn.ntmps G.N && (Nat.ble ats.length G.N && (ats.all (plA D0) && rts.all (plT D0))))) = true := by kernel_rfl) (hp : rts.all (plT D0) = true := by rfl) (hx : ∀ ds, F ds = den (xfn D0 Tryd.prog G fn ats rts cut ds) := by intro ds; kernel_rfl) (ho : ∀ ds, obL [] (xfn D0 Tryd.prog G fn ats rts cut ds) = obR (xfn D0 Tryd.prog G fn ats rts cut ds) := by intro ds; kernel_rfl) : PO f (pZ ats rts F) := xfnC g hf (fun _ => cut) hk hp hH hx ho
theorem xP (g : G.OK Tryd.prog) (hf : Tryd.prog.funcs[f]? = some fn) (hH : ∀ ds : DenP D0.S ats, XHA D0 Tryd.prog G nK (fn.body.getD .skip) (KR D0 Tryd.prog rts fn.results.toList) True := by intro _; trivial)
  (hk : (fn.body.isSome && (Nat.beq fn.ntmps G.N && (Nat.ble ats.length G.N && (ats.all (plA D0) && rts.all (plT D0))))) = true := by kernel_rfl) (hp : rts.all (plT D0) = true := by rfl) (hx : ∀ ds, F ds = den (xfn D0 Tryd.prog G fn ats rts nK ds) := by intro ds; kernel_rfl) (ho : ∀ ds, obL [] (xfn D0 Tryd.prog G fn ats rts nK ds) = obR (xfn D0 Tryd.prog G fn ats rts nK ds) := by intro ds; kernel_rfl) : PO f (pZ ats rts F) := xfnC g hf (fun _ => nK) hk hp hH hx ho
theorem xAl (g : G.OK Tryd.prog) (hf : Tryd.prog.funcs[f]? = some fn) (cut : Nat → Option (XK D0 (DenP D0.S rts))) (hH : ∀ ds : DenP D0.S ats, XHA D0 Tryd.prog G cut (fn.body.getD .skip) (KR D0 Tryd.prog rts fn.results.toList) True)
  (hk : (fn.body.isSome && (Nat.beq fn.ntmps G.N && (Nat.ble ats.length G.N && (ats.all (plA D0) && rts.all (plT D0))))) = true := by kernel_rfl) (hx : ∀ ds, F ds = den (xfn D0 Tryd.prog G fn ats rts cut ds) := by intro ds; kernel_rfl) (ho : ∀ ds, obL [] (xfn D0 Tryd.prog G fn ats rts cut ds) = obR (xfn D0 Tryd.prog G fn ats rts cut ds) := by intro ds; kernel_rfl) : ∀ ds x, F ds = some x → QSpec Tryd.prog f (encAP D0 ats ds) (Y8i (encAP D0 rts x)) := xfnA g hf (fun _ => cut) hk hH hx ho
theorem xQl (g : G.OK Tryd.prog) (hf : Tryd.prog.funcs[f]? = some fn) (cut : Nat → Option (XK D0 (DenP D0.S (c.rts ++ c.bt)))) (hH : ∀ ds : DenP D0.S (c.bt ++ akT c.ats), XHA D0 Tryd.prog G cut (fn.body.getD .skip) (KRo D0 Tryd.prog c (toL _ ds) fn.results.toList) True)
  (hk : (fn.body.isSome && (Nat.beq fn.ntmps G.N && Nat.ble (c.ats.length + 1) G.N)) = true := by kernel_rfl) (hx : ∀ ds, c.F ds = den (xfnO D0 Tryd.prog G fn c cut ds) := by intro ds; kernel_rfl) (ho : ∀ ds, obL [] (xfnO D0 Tryd.prog G fn c cut ds) = obR (xfnO D0 Tryd.prog G fn c cut ds) := by intro ds; kernel_rfl) : FO f c := Y99 g hf (fun _ => cut) hk hH hx ho
theorem xQ (g : G.OK Tryd.prog) (hf : Tryd.prog.funcs[f]? = some fn) (hH : ∀ ds : DenP D0.S (c.bt ++ akT c.ats), XHA D0 Tryd.prog G nK (fn.body.getD .skip) (KRo D0 Tryd.prog c (toL _ ds) fn.results.toList) True := by intro _; trivial)
  (hk : (fn.body.isSome && (Nat.beq fn.ntmps G.N && Nat.ble (c.ats.length + 1) G.N)) = true := by kernel_rfl) (hx : ∀ ds, c.F ds = den (xfnO D0 Tryd.prog G fn c nK ds) := by intro ds; kernel_rfl) (ho : ∀ ds, obL [] (xfnO D0 Tryd.prog G fn c nK ds) = obR (xfnO D0 Tryd.prog G fn c nK ds) := by intro ds; kernel_rfl) : FO f c := Y99 g hf (fun _ => nK) hk hH hx ho
variable {cd : Code} {inv : SEnv D0} {ds : List LD} {pre : XKn} {d : Nat} {hn : List Nat} {b : (LDP D0.S ds → Option R) → LDP D0.S ds → Option R} {n : Nat} {K : XE D0 R}
theorem lpw (g : G.OK Tryd.prog) (cut : (LDP D0.S ds → Option R) → Nat → Option (XK D0 R)) (hH : ∀ L, XHA D0 Tryd.prog G (cut L) cd (KL D0 inv ds L K) True) (hi : inv.all (fun p => notC D0 p.2) = true := by rfl) (hb : ∀ L s, b L s = den (xrun D0 Tryd.prog G (cut L) cd (enP D0 inv ds s) (stP D0 ds s) none (KL D0 inv ds L K)) := by intro L s; kernel_rfl)
  (ho : ∀ L s, obL pre (xrun D0 Tryd.prog G (cut L) cd (enP D0 inv ds s) (stP D0 ds s) none (KL D0 inv ds L K)) = obR (xrun D0 Tryd.prog G (cut L) cd (enP D0 inv ds s) (stP D0 ds s) none (KL D0 inv ds L K)) := by intro L s; kernel_rfl) : XOb D0 Tryd.prog G.N (.loop cd) (lcut D0 inv ds fun s => hg d hn (pre.map (·.2)) (.opt (iter b n s))) K := Y5k g cut hi hH hb ho
theorem low (g : G.OK Tryd.prog) (hH : ∀ L, XHA D0 Tryd.prog G nK cd (KL D0 inv ds L K) True := by intro _; trivial) (hi : inv.all (fun p => notC D0 p.2) = true := by rfl) (hb : ∀ L s, b L s = den (xrun D0 Tryd.prog G nK cd (enP D0 inv ds s) (stP D0 ds s) none (KL D0 inv ds L K)) := by intro L s; kernel_rfl)
  (ho : ∀ L s, obL pre (xrun D0 Tryd.prog G nK cd (enP D0 inv ds s) (stP D0 ds s) none (KL D0 inv ds L K)) = obR (xrun D0 Tryd.prog G nK cd (enP D0 inv ds s) (stP D0 ds s) none (KL D0 inv ds L K)) := by intro L s; kernel_rfl) : XOb D0 Tryd.prog G.N (.loop cd) (lcut D0 inv ds fun s => hg d hn (pre.map (·.2)) (.opt (iter b n s))) K := Y5k g (fun _ => nK) hi hH hb ho
theorem lp (g : G.OK Tryd.prog) (cut : (LDP D0.S ds → Option R) → Nat → Option (XK D0 R)) (hH : ∀ L, XHA D0 Tryd.prog G (cut L) cd (KL D0 inv ds L K) True) (hi : inv.all (fun p => notC D0 p.2) = true := by rfl) (hb : ∀ L s, b L s = den (xrun D0 Tryd.prog G (cut L) cd (enP D0 inv ds s) (stP D0 ds s) none (KL D0 inv ds L K)) := by intro L s; kernel_rfl)
  (ho : ∀ L s, obL [] (xrun D0 Tryd.prog G (cut L) cd (enP D0 inv ds s) (stP D0 ds s) none (KL D0 inv ds L K)) = obR (xrun D0 Tryd.prog G (cut L) cd (enP D0 inv ds s) (stP D0 ds s) none (KL D0 inv ds L K)) := by intro L s; kernel_rfl) : XOb D0 Tryd.prog G.N (.loop cd) (lcut D0 inv ds fun s => hg 0 [] [] (.opt (iter b n s))) K := Y5k (pre := []) g cut hi hH hb ho
theorem lo (g : G.OK Tryd.prog) (hH : ∀ L, XHA D0 Tryd.prog G nK cd (KL D0 inv ds L K) True := by intro _; trivial) (hi : inv.all (fun p => notC D0 p.2) = true := by rfl) (hb : ∀ L s, b L s = den (xrun D0 Tryd.prog G nK cd (enP D0 inv ds s) (stP D0 ds s) none (KL D0 inv ds L K)) := by intro L s; kernel_rfl)
  (ho : ∀ L s, obL [] (xrun D0 Tryd.prog G nK cd (enP D0 inv ds s) (stP D0 ds s) none (KL D0 inv ds L K)) = obR (xrun D0 Tryd.prog G nK cd (enP D0 inv ds s) (stP D0 ds s) none (KL D0 inv ds L K)) := by intro L s; kernel_rfl) : XOb D0 Tryd.prog G.N (.loop cd) (lcut D0 inv ds fun s => hg 0 [] [] (.opt (iter b n s))) K := Y5k (pre := []) g (fun _ => nK) hi hH hb ho
end
end
end Go.Proofs.YtfpcbalkioolmaaDoor
