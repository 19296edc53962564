/-
  Own work. The abstract layer, part 3: operations that only compute or read: their abstract value `pv` and what must hold for it `po`.
-/
import Derived.Test.YthfdgicfcjkfgaaAbs2
import Derived.IntWalk
set_option linter.unusedSimpArgs false
set_option linter.unusedVariables false
namespace Go.Abs
open Go.RowKit

/- What the operations ask of the types. -/
def tk (P : Program) (t : TypeId) : Nat := match P.underlying t with
  | some (.slice _) => 1 | some .string => 2 | some (.array _ _) => 3 | some (.int _) => 4 | some .bool => 5 | some (.struct _) => 6 | some (.pointer _) => 7 | some (.map _ _) => 8 | _ => 0
def ik (P : Program) (t : TypeId) : Option IntKind := match P.underlying t with
  | some (.int k) => some k | _ => none
/-- The cells of an element of a slice or array type. -/
def ez (P : Program) (t : TypeId) : Option Nat := match P.underlying t with
  | some (.slice e) => (P.info? e).map (·.size) | some (.array _ e) => (P.info? e).map (·.size) | _ => none
def alen (P : Program) (t : TypeId) : Option Nat := match P.underlying t with
  | some (.array n _) => some n | _ => none
/-- The offset of a field that has cells. -/
def fo (P : Program) (s : TypeId) (f : Nat) : Option Nat := match P.underlying s with
  | some (.struct fs) => match fs[f]? with
    | some fd => match P.info? fd.type with
      | some i => if i.size = 0 then none else some fd.offset
      | none => none
    | none => none
  | _ => none
/-- Is a variable of the type loaded as a whole row of cells, and how many? -/
def lz (P : Program) (t : TypeId) : Option (Option Nat) := match P.underlying t with
  | some (.struct _) => (P.info? t).map fun i => some i.size
  | some (.array _ _) => (P.info? t).map fun i => some i.size
  | some _ => some none
  | none => none

def st : AV → AV
  | .cnd _ v => v
  | v => v
def gd : AV → Prop
  | .cnd g _ => g = true
  | _ => True

theorem VR.st {w : World} {h : Hp} {ι : Nat → Bk} {A : Nat → Prop} {x : AV} {v : Value} (hv : VR w h ι A x v) (hg : gd x) : VR w h ι A (st x) v := by
  cases x with
  | cnd g y => simp only [VR] at hv; exact hv.1 hg
  | _ => exact hv

def nw (k : IntKind) (n : Int) : Int := match k with
  | .i64 => n
  | k => k.wrap n
def okA (k : IntKind) (n : Int) : Prop := match k with
  | .i64 => -9223372036854775808 ≤ n ∧ n ≤ 9223372036854775807
  | _ => True

theorem wrap_nw {k : IntKind} {n : Int} (h : okA k n) : k.wrap n = nw k n := by
  cases k <;> simp only [nw]
  simp only [okA] at h
  exact IntWalk.i64_in n (by omega)

def pvBin (op : BinOp) (x y : AV) : AV := match x, y with
  | .int k a, .int _ b => match op with
    | .add => .int k (nw k (a + b))
    | .sub => .int k (nw k (a - b))
    | .mul => .int k (nw k (a * b))
    | .quo => .int k (nw k (a.tdiv b))
    | .rem => .int k (a.tmod b)
    | .and => .int k (k.wrap (BitVec.ofInt k.bits a &&& BitVec.ofInt k.bits b).toNat)
    | .or => .int k (k.wrap (BitVec.ofInt k.bits a ||| BitVec.ofInt k.bits b).toNat)
    | .xor => .int k (k.wrap (BitVec.ofInt k.bits a ^^^ BitVec.ofInt k.bits b).toNat)
    | .andNot => .int k (k.wrap (BitVec.ofInt k.bits a &&& ~~~ BitVec.ofInt k.bits b).toNat)
    | .shl => .int k (k.wrap (a * 2 ^ min b.toNat k.bits))
    | .shr => .int k (a.fdiv (2 ^ min b.toNat k.bits))
    | .eql => .bool (a == b)
    | .neq => .bool (a != b)
    | .lss => .bool (a < b)
    | .leq => .bool (a ≤ b)
    | .gtr => .bool (b < a)
    | .geq => .bool (b ≤ a)
  | .bool a, .bool b => match op with
    | .eql => .bool (a == b)
    | .neq => .bool (a != b)
    | _ => .any
  | .string a, .string b => match op with
    | .add => .string (a ++ b)
    | .eql => .bool (a.toList == b.toList)
    | .neq => .bool (!(a.toList == b.toList))
    | .lss => .bool (Op.bytesLess a.toList b.toList)
    | .leq => .bool (Op.bytesLess a.toList b.toList || a.toList == b.toList)
    | .gtr => .bool (!(Op.bytesLess a.toList b.toList || a.toList == b.toList))
    | .geq => .bool (!Op.bytesLess a.toList b.toList)
    | _ => .any
  | _, _ => .any

def poBin (P : Program) (t : TypeId) (op : BinOp) (x y : AV) : Prop := match x, y with
  | .int k a, .int k' b => match op with
    | .add => k = k' ∧ okA k (a + b)
    | .sub => k = k' ∧ okA k (a - b)
    | .mul => k = k' ∧ okA k (a * b)
    | .quo => k = k' ∧ b ≠ 0 ∧ okA k (a.tdiv b)
    | .rem => k = k' ∧ b ≠ 0
    | .shl => 0 ≤ b
    | .shr => 0 ≤ b
    | .and => k = k' | .or => k = k' | .xor => k = k' | .andNot => k = k'
    | .eql => k = k' | .neq => k = k' | .lss => k = k' | .leq => k = k' | .gtr => k = k' | .geq => k = k'
  | .bool _, .bool _ => match op with
    | .eql => tk P t = 5
    | .neq => tk P t = 5
    | _ => False
  | .string a, .string b => match op with
    | .add => a.size + b.size ≤ 9223372036854775807
    | .eql => True | .neq => True | .lss => True | .leq => True | .gtr => True | .geq => True
    | _ => False
  | _, _ => False

section
variable {P : Program} {w : World} {h : Hp} {ι : Nat → Bk} {A : Nat → Prop}

theorem tk_bool {t : TypeId} (h : tk P t = 5) : P.underlying t = some .bool := by
  unfold tk at h
  split at h <;> simp_all

theorem run_equal_bool {t : TypeId} (h : tk P t = 5) (a b : Bool) : (Op.equal t (.bool a) (.bool b)).run P w = .ok (a == b) w := by
  simp only [Op.equal, Op.maxDepth]
  rw [show (10000 : Nat) = 9999 + 1 from rfl, Op.equalIn]
  simp [Sem.run_bind, run_underlying (tk_bool h)]

theorem bin_sound {op : BinOp} {t : TypeId} {X Y : Operand} {x y : AV} {u v : Value} (hp : poBin P t op x y) (hx : VR w h ι A x u) (hy : VR w h ι A y v) :
    ∃ r, (do eqGuard op t X Y u v; binOp op t u v : Sem Value).run P w = .ok r w ∧ VR w h ι A (pvBin op x y) r := by
  unfold poBin at hp
  split at hp
  · rename_i k a k' b
    rw [VR.int_iff] at hx hy
    subst hx hy
    have e0 : (eqGuard op t X Y (.int k a) (.int k' b)).run P w = .ok () w := by cases op <;> rfl
    cases op <;> simp only at hp <;> try exact hp.elim
    case add => obtain ⟨rfl, h2⟩ := hp; exact ⟨_, by simp [e0, binOp, Op.intArith]; rfl, by simp [pvBin, VR, VRI, wrap_nw h2]⟩
    case sub => obtain ⟨rfl, h2⟩ := hp; exact ⟨_, by simp [e0, binOp, Op.intArith]; rfl, by simp [pvBin, VR, VRI, wrap_nw h2]⟩
    case mul => obtain ⟨rfl, h2⟩ := hp; exact ⟨_, by simp [e0, binOp, Op.intArith]; rfl, by simp [pvBin, VR, VRI, wrap_nw h2]⟩
    case quo => obtain ⟨rfl, h1, h2⟩ := hp; exact ⟨_, by simp [e0, binOp, Op.intDiv, h1]; rfl, by simp [pvBin, VR, VRI, wrap_nw h2]⟩
    case rem => obtain ⟨rfl, h1⟩ := hp; exact ⟨_, by simp [e0, binOp, Op.intDiv, h1]; rfl, by simp [pvBin, VR, VRI]⟩
    case shl =>
      have h1 : ¬ b < 0 := by omega
      exact ⟨_, by simp [e0, binOp, Op.shift, h1]; rfl, by simp [pvBin, VR, VRI]⟩
    case shr =>
      have h1 : ¬ b < 0 := by omega
      exact ⟨_, by simp [e0, binOp, Op.shift, h1]; rfl, by simp [pvBin, VR, VRI]⟩
    all_goals (subst hp; exact ⟨_, by simp [e0, binOp, Op.intBits, Op.intCmp]; rfl, by simp [pvBin, VR, VRI]⟩)
  · rename_i a b
    rw [VR.bool_iff] at hx hy
    subst hx hy
    have e0 : (eqGuard op t X Y (.bool a) (.bool b)).run P w = .ok () w := by cases op <;> rfl
    cases op <;> simp only at hp <;> try exact hp.elim
    all_goals exact ⟨_, by simp [e0, binOp, run_equal_bool hp]; rfl, by simp [pvBin, VR, VRI, bne]⟩
  · rename_i a b
    rw [VR.val_iff] at hx hy
    subst hx hy
    have e0 : (eqGuard op t X Y (.string a) (.string b)).run P w = .ok () w := by cases op <;> rfl
    cases op <;> simp only at hp <;> try exact hp.elim
    case add =>
      have h1 : ¬ (((a.size + b.size : Nat) : Int) > IntKind.i64.max) := by
        have : IntKind.i64.max = 9223372036854775807 := by decide
        omega
      exact ⟨_, by simp only [Sem.run_bind, e0, Result.andThen_ok, binOp, Op.stringOp, if_neg h1]; rfl, by simp [pvBin, VR, VRI]⟩
    all_goals exact ⟨_, by simp [e0, binOp, Op.stringOp]; rfl, by simp [pvBin, VR, VRI]⟩
  · exact hp.elim

def pvUn (op : UnOp) (x : AV) : AV := match op, x with
  | .not, .bool b => .bool (!b)
  | .neg, .int k n => .int k (nw k (0 - n))
  | _, _ => .any
def poUn (op : UnOp) (x : AV) : Prop := match op, x with
  | .not, .bool _ => True
  | .neg, .int k n => okA k (0 - n)
  | _, _ => False

theorem un_sound {op : UnOp} {x : AV} {u : Value} (hp : poUn op x) (hx : VR w h ι A x u) : ∃ r, (Op.unary op u).run P w = .ok r w ∧ VR w h ι A (pvUn op x) r := by
  unfold poUn at hp
  split at hp
  · rw [VR.bool_iff] at hx; subst hx
    exact ⟨_, by simp [Op.unary]; rfl, by simp [pvUn, VR, VRI]⟩
  · rw [VR.int_iff] at hx; subst hx
    exact ⟨_, by simp [Op.unary, Op.intArith]; rfl, by
      have h2 := wrap_nw hp
      simp only [Int.zero_sub] at h2
      simp [pvUn, VR, VRI, h2]⟩
  · exact hp.elim

def pvConv (P : Program) (d : TypeId) (x : AV) : AV := match x, ik P d with
  | .int _ n, some k => .int k (k.wrap n)
  | .string s, none => .string s
  | _, _ => .any
def poConv (P : Program) (s d : TypeId) (x : AV) : Prop := match x, ik P d with
  | .int _ _, some _ => tk P s ≠ 0
  | .string _, none => tk P s = 2 ∧ tk P d = 2
  | _, _ => False

theorem ik_some {t : TypeId} {k : IntKind} (h : ik P t = some k) : P.underlying t = some (.int k) := by
  unfold ik at h
  split at h <;> simp_all

theorem tk_str {t : TypeId} (h : tk P t = 2) : P.underlying t = some .string := by
  unfold tk at h
  split at h <;> simp_all

theorem tk_some {t : TypeId} (h : tk P t ≠ 0) : ∃ d, P.underlying t = some d := by
  unfold tk at h
  cases hd : P.underlying t with
  | none => simp [hd] at h
  | some d => exact ⟨d, rfl⟩

theorem conv_sound {s d : TypeId} {x : AV} {u : Value} (hp : poConv P s d x) (hx : VR w h ι A x u) : ∃ r, (convert s d u).run P w = .ok r w ∧ VR w h ι A (pvConv P d x) r := by
  unfold poConv at hp
  split at hp
  · rename_i k n k' hk
    rw [VR.int_iff] at hx; subst hx
    obtain ⟨ds, hs⟩ := tk_some hp
    refine ⟨.int k' (k'.wrap n), ?_, by simp [pvConv, hk, VR, VRI]⟩
    cases ds <;> simp [convert, Sem.run_bind, run_underlying hs, run_underlying (ik_some hk), Conv.intToInt]
  · rename_i s' hk
    rw [VR.val_iff] at hx; subst hx
    exact ⟨_, by simp [convert, Sem.run_bind, run_underlying (tk_str hp.1), run_underlying (tk_str hp.2)]; rfl, by simp [pvConv, hk, VR, VRI]⟩
  · exact hp.elim

end
end Go.Abs
