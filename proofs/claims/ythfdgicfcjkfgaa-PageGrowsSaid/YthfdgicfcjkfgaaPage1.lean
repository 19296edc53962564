/- Own work. A part of the proof of this claim. -/
import Derived.Test.YthfdgicfcjkfgaaAbs11
import Derived.Test.YthfdgicfcjkfgaaChecked
set_option linter.unusedSimpArgs false
set_option linter.unusedVariables false
namespace Go.Proofs.Ythfdgicfcjkfgaa
open Go.Abs
theorem tk29 : tk Try.prog 29 = 1 := by kernel_rfl
theorem tk27 : tk Try.prog 27 = 1 := by kernel_rfl
theorem ez29 : ez Try.prog 29 = some 1 := by kernel_rfl
theorem ez27 : ez Try.prog 27 = some 5 := by kernel_rfl
theorem lz3 : lz Try.prog 3 = some none := by kernel_rfl
theorem lz4 : lz Try.prog 4 = some none := by kernel_rfl
theorem fo54_1 : fo Try.prog 54 1 = some 1 := by kernel_rfl
theorem fo54_2 : fo Try.prog 54 2 = some 2 := by kernel_rfl
theorem E29 : Elem Try.prog 29 3 1 8 [.int .i64 0] := ⟨by kernel_rfl, by kernel_rfl, by kernel_rfl, rfl, rfl, by decide⟩

def encI (n : Int) : IV := .val (.int .i64 n)
def ints (xs : List Int) : AV := .im (.sl (xs.map encI) xs.length)
def last (xs : List Int) : Int := xs.getLast?.getD 0

theorem getLast_get (xs : List Int) (h : xs ≠ []) : xs[xs.length - 1]? = some (last xs) := by
  unfold last
  rw [List.getLast?_eq_getElem?]
  have : xs.length - 1 < xs.length := by have := List.length_pos_iff.2 h; omega
  simp [List.getElem?_eq_getElem this]

theorem last_spec (xs : List Int) (hlen : xs.length < 1000000) : QSpec Try.prog 25 [ints xs] (.int .i64 (last xs)) := by
  refine Spec.of_AW Try.func25 rfl (by simp [Try.ntmps25]) ?_
  rw [Try.ntmps25]
  unfold ints
  repeat refine AW.seq ?_
  refine AW.region (OpsW.all _ _ ?_)
  simp only [take_len_map, pw, gpo, gav, gcond, po, pv, rdo, rd, setd, args0, st, gd, gdo, pvBin, poBin, pvUn, poUn, pvConv, poConv, nw, okA, selA_true, selA_false, selA_bool, selA_int, selA_str, pvPick, poPick, pvField, poField, pvIdx, poIdx, pvLoad, poLoad, pvExt, poExt, pvLen, poLen, pvMin, pvMax, poMin, pvIndex, poIndex, pvStr, poStr, pvSlice, poSlice, lowOf, highOf, okLo, pvFld, poFld, pvPart, poPart, pvBuild, poBuild, fillA, putA, cellsA, okC, oneA, Value.oneCell', List.map_cons, List.map_nil, List.cons_append, List.nil_append, List.append_nil, List.take_nil, List.drop_nil, Option.isSome_some, List.mem_cons, List.not_mem_nil, forall_eq_or_imp, forall_eq, or_false, false_or, List.length_append, List.length_singleton, Nat.le_refl, Nat.reduceLeDiff, Hp.at, List.take_succ_cons, List.take_zero, List.drop_succ_cons, List.drop_zero, List.getElem?_toArray, List.getElem?_cons_zero, List.getElem?_cons_succ, Option.bind_some, Option.map_some, Option.map_none, Option.all_some, Option.all_none, Nat.reduceLT, Nat.reduceEqDiff, Nat.reduceAdd, Nat.reduceMul, decide_true, decide_false, true_and, and_true, if_true, if_false, Bool.false_eq_true, reduceIte, reduceCtorEq, Nat.add_zero, Nat.zero_add, Nat.succ_ne_zero, true_implies, implies_true, false_implies, Bool.cond_true_left, Bool.cond_false_right, Bool.not_eq_true', and_self, imp_self, Nat.reduceSub, Int.toNat_zero, Int.reduceToNat, Int.reduceNeg, Nat.one_mul, Nat.mul_one, Nat.zero_mul, Nat.mul_zero, ne_eq, Int.reduceEq, not_false_eq_true, not_true_eq_false, Bool.not_true, Bool.not_false, Int.reduceLE, Int.reduceLT, List.length_cons, List.length_nil, Int.reduceTMod, Int.reduceTDiv, Ex.then, Ex.inBlock, Ex.noGoto, Ex.jump, reduceIte, Nat.reduceEqDiff, reduceCtorEq, tk29, ez29, lz3, tk27, ez27, fo54_1, fo54_2, lz4]
  repeat refine AW.seq ?_
  refine AW.region (OpsW.all _ _ ?_)
  simp only [take_len_map, pw, gpo, gav, gcond, po, pv, rdo, rd, setd, args0, st, gd, gdo, pvBin, poBin, pvUn, poUn, pvConv, poConv, nw, okA, selA_true, selA_false, selA_bool, selA_int, selA_str, pvPick, poPick, pvField, poField, pvIdx, poIdx, pvLoad, poLoad, pvExt, poExt, pvLen, poLen, pvMin, pvMax, poMin, pvIndex, poIndex, pvStr, poStr, pvSlice, poSlice, lowOf, highOf, okLo, pvFld, poFld, pvPart, poPart, pvBuild, poBuild, fillA, putA, cellsA, okC, oneA, Value.oneCell', List.map_cons, List.map_nil, List.cons_append, List.nil_append, List.append_nil, List.take_nil, List.drop_nil, Option.isSome_some, List.mem_cons, List.not_mem_nil, forall_eq_or_imp, forall_eq, or_false, false_or, List.length_append, List.length_singleton, Nat.le_refl, Nat.reduceLeDiff, Hp.at, List.take_succ_cons, List.take_zero, List.drop_succ_cons, List.drop_zero, List.getElem?_toArray, List.getElem?_cons_zero, List.getElem?_cons_succ, Option.bind_some, Option.map_some, Option.map_none, Option.all_some, Option.all_none, Nat.reduceLT, Nat.reduceEqDiff, Nat.reduceAdd, Nat.reduceMul, decide_true, decide_false, true_and, and_true, if_true, if_false, Bool.false_eq_true, reduceIte, reduceCtorEq, Nat.add_zero, Nat.zero_add, Nat.succ_ne_zero, true_implies, implies_true, false_implies, Bool.cond_true_left, Bool.cond_false_right, Bool.not_eq_true', and_self, imp_self, Nat.reduceSub, Int.toNat_zero, Int.reduceToNat, Int.reduceNeg, Nat.one_mul, Nat.mul_one, Nat.zero_mul, Nat.mul_zero, ne_eq, Int.reduceEq, not_false_eq_true, not_true_eq_false, Bool.not_true, Bool.not_false, Int.reduceLE, Int.reduceLT, List.length_cons, List.length_nil, Int.reduceTMod, Int.reduceTDiv, Ex.then, Ex.inBlock, Ex.noGoto, Ex.jump, reduceIte, Nat.reduceEqDiff, reduceCtorEq, tk29, ez29, lz3, tk27, ez27, fo54_1, fo54_2, lz4]
  repeat refine AW.seq ?_
  refine AW.cond rfl (fun hc => ?_) (fun hc => ?_)
  · repeat refine AW.seq ?_
    refine AW.region (OpsW.all _ _ ?_)
    simp only [take_len_map, pw, gpo, gav, gcond, po, pv, rdo, rd, setd, args0, st, gd, gdo, pvBin, poBin, pvUn, poUn, pvConv, poConv, nw, okA, selA_true, selA_false, selA_bool, selA_int, selA_str, pvPick, poPick, pvField, poField, pvIdx, poIdx, pvLoad, poLoad, pvExt, poExt, pvLen, poLen, pvMin, pvMax, poMin, pvIndex, poIndex, pvStr, poStr, pvSlice, poSlice, lowOf, highOf, okLo, pvFld, poFld, pvPart, poPart, pvBuild, poBuild, fillA, putA, cellsA, okC, oneA, Value.oneCell', List.map_cons, List.map_nil, List.cons_append, List.nil_append, List.append_nil, List.take_nil, List.drop_nil, Option.isSome_some, List.mem_cons, List.not_mem_nil, forall_eq_or_imp, forall_eq, or_false, false_or, List.length_append, List.length_singleton, Nat.le_refl, Nat.reduceLeDiff, Hp.at, List.take_succ_cons, List.take_zero, List.drop_succ_cons, List.drop_zero, List.getElem?_toArray, List.getElem?_cons_zero, List.getElem?_cons_succ, Option.bind_some, Option.map_some, Option.map_none, Option.all_some, Option.all_none, Nat.reduceLT, Nat.reduceEqDiff, Nat.reduceAdd, Nat.reduceMul, decide_true, decide_false, true_and, and_true, if_true, if_false, Bool.false_eq_true, reduceIte, reduceCtorEq, Nat.add_zero, Nat.zero_add, Nat.succ_ne_zero, true_implies, implies_true, false_implies, Bool.cond_true_left, Bool.cond_false_right, Bool.not_eq_true', and_self, imp_self, Nat.reduceSub, Int.toNat_zero, Int.reduceToNat, Int.reduceNeg, Nat.one_mul, Nat.mul_one, Nat.zero_mul, Nat.mul_zero, ne_eq, Int.reduceEq, not_false_eq_true, not_true_eq_false, Bool.not_true, Bool.not_false, Int.reduceLE, Int.reduceLT, List.length_cons, List.length_nil, Int.reduceTMod, Int.reduceTDiv, Ex.then, Ex.inBlock, Ex.noGoto, Ex.jump, reduceIte, Nat.reduceEqDiff, reduceCtorEq, tk29, ez29, lz3, tk27, ez27, fo54_1, fo54_2, lz4]
    repeat refine AW.seq ?_
    refine AW.ret ?_
    try simp only [Ex.then, Ex.inBlock, Ex.noGoto, Ex.jump, reduceIte, Nat.reduceEqDiff, reduceCtorEq]
    refine ⟨_, Res.tmp rfl, ?_⟩
    simp only [beq_iff_eq] at hc
    have : xs = [] := List.eq_nil_of_length_eq_zero (by omega)
    subst this
    rfl
  · repeat refine AW.seq ?_
    refine AW.skip ?_
    try simp only [Ex.then, Ex.inBlock, Ex.noGoto, Ex.jump, reduceIte, Nat.reduceEqDiff, reduceCtorEq]
    simp only [beq_eq_false_iff_ne, ne_eq] at hc
    have h0 : xs.length ≠ 0 := by omega
    have hne : xs ≠ [] := fun e => h0 (by simp [e])
    have hg : (xs.map encI)[((xs.length : Int) - 1).toNat]? = some (.val (.int .i64 (last xs))) := by
      rw [show ((xs.length : Int) - 1).toNat = xs.length - 1 from by omega, List.getElem?_map, getLast_get xs hne]
      rfl
    repeat refine AW.seq ?_
    refine AW.region (OpsW.all _ _ ?_)
    simp only [take_len_map, pw, gpo, gav, gcond, po, pv, rdo, rd, setd, args0, st, gd, gdo, pvBin, poBin, pvUn, poUn, pvConv, poConv, nw, okA, selA_true, selA_false, selA_bool, selA_int, selA_str, pvPick, poPick, pvField, poField, pvIdx, poIdx, pvLoad, poLoad, pvExt, poExt, pvLen, poLen, pvMin, pvMax, poMin, pvIndex, poIndex, pvStr, poStr, pvSlice, poSlice, lowOf, highOf, okLo, pvFld, poFld, pvPart, poPart, pvBuild, poBuild, fillA, putA, cellsA, okC, oneA, Value.oneCell', List.map_cons, List.map_nil, List.cons_append, List.nil_append, List.append_nil, List.take_nil, List.drop_nil, Option.isSome_some, List.mem_cons, List.not_mem_nil, forall_eq_or_imp, forall_eq, or_false, false_or, List.length_append, List.length_singleton, Nat.le_refl, Nat.reduceLeDiff, Hp.at, List.take_succ_cons, List.take_zero, List.drop_succ_cons, List.drop_zero, List.getElem?_toArray, List.getElem?_cons_zero, List.getElem?_cons_succ, Option.bind_some, Option.map_some, Option.map_none, Option.all_some, Option.all_none, Nat.reduceLT, Nat.reduceEqDiff, Nat.reduceAdd, Nat.reduceMul, decide_true, decide_false, true_and, and_true, if_true, if_false, Bool.false_eq_true, reduceIte, reduceCtorEq, Nat.add_zero, Nat.zero_add, Nat.succ_ne_zero, true_implies, implies_true, false_implies, Bool.cond_true_left, Bool.cond_false_right, Bool.not_eq_true', and_self, imp_self, Nat.reduceSub, Int.toNat_zero, Int.reduceToNat, Int.reduceNeg, Nat.one_mul, Nat.mul_one, Nat.zero_mul, Nat.mul_zero, ne_eq, Int.reduceEq, not_false_eq_true, not_true_eq_false, Bool.not_true, Bool.not_false, Int.reduceLE, Int.reduceLT, List.length_cons, List.length_nil, Int.reduceTMod, Int.reduceTDiv, Ex.then, Ex.inBlock, Ex.noGoto, Ex.jump, reduceIte, Nat.reduceEqDiff, reduceCtorEq, tk29, ez29, lz3, tk27, ez27, fo54_1, fo54_2, lz4, hg]
    refine ⟨by omega, ⟨by omega, by omega⟩, by simp; omega, ?_⟩
    repeat refine AW.seq ?_
    refine AW.ret ?_
    try simp only [Ex.then, Ex.inBlock, Ex.noGoto, Ex.jump, reduceIte, Nat.reduceEqDiff, reduceCtorEq]
    refine ⟨_, Res.tmp rfl, ?_⟩
    rfl

/-- Rows. -/
structure Row where
  line : IV
  keep : Bool
  ink : Int
  block : Int
  at_ : Int
def encRow (r : Row) : List IV := [r.line, .val (.bool r.keep), .val (.int .i64 r.ink), .val (.int .i64 r.block), .val (.int .i64 r.at_)]
def rowsA (rows : List Row) : AV := .im (.sl (rows.flatMap encRow) rows.length)

theorem flat_get {α β : Type} (f : α → List β) (k : Nat) (hf : ∀ a, (f a).length = k) : ∀ (l : List α) (i j : Nat), j < k → (l.flatMap f)[i * k + j]? = (l[i]?).bind fun a => (f a)[j]?
  | [], i, j, _ => by simp
  | a :: l, i, j, hj => by
    cases i with
    | zero =>
      simp only [List.flatMap_cons, Nat.zero_mul, Nat.zero_add, List.getElem?_cons_zero, Option.bind_some]
      rw [List.getElem?_append_left (by rw [hf]; exact hj)]
    | succ i =>
      simp only [List.flatMap_cons, List.getElem?_cons_succ]
      rw [List.getElem?_append_right (by rw [hf, Nat.add_mul]; omega)]
      rw [← flat_get f k hf l i j hj]
      congr 1
      rw [hf, Nat.add_mul]
      omega
theorem flat_len {α β : Type} (f : α → List β) (k : Nat) (hf : ∀ a, (f a).length = k) (l : List α) : (l.flatMap f).length = l.length * k := by
  induction l with
  | nil => simp
  | cons a l ih => simp [List.flatMap_cons, ih, hf, Nat.add_mul, Nat.add_comm]
theorem encRow_len (r : Row) : (encRow r).length = 5 := rfl
def keepAt (rows : List Row) (i : Nat) : Bool := (rows[i]?.map (·.keep)).getD false
def inkAt (rows : List Row) (i : Nat) : Int := (rows[i]?.map (·.ink)).getD 0
theorem row_keep (rows : List Row) (i : Nat) (h : i < rows.length) : (rows.flatMap encRow)[i * 5 + 1]? = some (.val (.bool (keepAt rows i))) := by
  rw [flat_get encRow 5 encRow_len rows i 1 (by omega)]
  simp [keepAt, List.getElem?_eq_getElem h, encRow]
theorem row_ink (rows : List Row) (i : Nat) (h : i < rows.length) : (rows.flatMap encRow)[i * 5 + 2]? = some (.val (.int .i64 (inkAt rows i))) := by
  rw [flat_get encRow 5 encRow_len rows i 2 (by omega)]
  simp [inkAt, List.getElem?_eq_getElem h, encRow]

/-- An end that a page may have. -/
def okEnd (rows : List Row) (e : Nat) : Bool := e == rows.length || !keepAt rows (e - 1)
/-- The ends from `a` on, before `b`. -/
def sel (rows : List Row) (a b : Nat) : List Int := ((List.range' a (b - a)).filter (okEnd rows)).map fun (n : Nat) => (n : Int)
theorem sel_self (rows : List Row) (a : Nat) : sel rows a a = [] := by simp [sel]
theorem sel_succ (rows : List Row) (a b : Nat) (h : a ≤ b) : sel rows a (b + 1) = sel rows a b ++ if okEnd rows b then [(b : Int)] else [] := by
  unfold sel
  rw [show b + 1 - a = (b - a) + 1 from by omega, List.range'_concat]
  simp only [Nat.one_mul, List.filter_append, List.map_append]
  rw [show a + (b - a) = b from by omega]
  congr 1
  by_cases hb : okEnd rows b <;> simp [hb]
theorem sel_len (rows : List Row) (a b : Nat) : (sel rows a b).length ≤ b - a := by
  unfold sel
  rw [List.length_map]
  exact Nat.le_trans (List.length_filter_le _ _) (by simp)

def next (rows : List Row) (from_ h : Int) : List Int :=
  if from_ < 0 ∨ (rows.length : Int) ≤ from_ ∨ h < 2 then [] else sel rows (from_.toNat + 1) (from_.toNat + 1 + min (h - 1).toNat (rows.length - from_.toNat))

theorem next_spec (rows : List Row) (f h : Int) (hr : rows.length < 1000000) (hf : -1000000 < f ∧ f < 1000000) (hh : -1000000 < h ∧ h < 1000000) :
    QSpec Try.prog 16 [rowsA rows, .int .i64 f, .int .i64 h] (ints (next rows f h)) := by
  refine Spec.of_AW Try.func16 rfl (by simp [Try.ntmps16]) ?_
  rw [Try.ntmps16]
  unfold rowsA
  repeat refine AW.seq ?_
  refine AW.region (OpsW.all _ _ ?_)
  simp only [take_len_map, pw, gpo, gav, gcond, po, pv, rdo, rd, setd, args0, st, gd, gdo, pvBin, poBin, pvUn, poUn, pvConv, poConv, nw, okA, selA_true, selA_false, selA_bool, selA_int, selA_str, pvPick, poPick, pvField, poField, pvIdx, poIdx, pvLoad, poLoad, pvExt, poExt, pvLen, poLen, pvMin, pvMax, poMin, pvIndex, poIndex, pvStr, poStr, pvSlice, poSlice, lowOf, highOf, okLo, pvFld, poFld, pvPart, poPart, pvBuild, poBuild, fillA, putA, cellsA, okC, oneA, Value.oneCell', List.map_cons, List.map_nil, List.cons_append, List.nil_append, List.append_nil, List.take_nil, List.drop_nil, Option.isSome_some, List.mem_cons, List.not_mem_nil, forall_eq_or_imp, forall_eq, or_false, false_or, List.length_append, List.length_singleton, Nat.le_refl, Nat.reduceLeDiff, Hp.at, List.take_succ_cons, List.take_zero, List.drop_succ_cons, List.drop_zero, List.getElem?_toArray, List.getElem?_cons_zero, List.getElem?_cons_succ, Option.bind_some, Option.map_some, Option.map_none, Option.all_some, Option.all_none, Nat.reduceLT, Nat.reduceEqDiff, Nat.reduceAdd, Nat.reduceMul, decide_true, decide_false, true_and, and_true, if_true, if_false, Bool.false_eq_true, reduceIte, reduceCtorEq, Nat.add_zero, Nat.zero_add, Nat.succ_ne_zero, true_implies, implies_true, false_implies, Bool.cond_true_left, Bool.cond_false_right, Bool.not_eq_true', and_self, imp_self, Nat.reduceSub, Int.toNat_zero, Int.reduceToNat, Int.reduceNeg, Nat.one_mul, Nat.mul_one, Nat.zero_mul, Nat.mul_zero, ne_eq, Int.reduceEq, not_false_eq_true, not_true_eq_false, Bool.not_true, Bool.not_false, Int.reduceLE, Int.reduceLT, List.length_cons, List.length_nil, Int.reduceTMod, Int.reduceTDiv, Ex.then, Ex.inBlock, Ex.noGoto, Ex.jump, reduceIte, Nat.reduceEqDiff, reduceCtorEq, tk29, ez29, lz3, tk27, ez27, fo54_1, fo54_2, lz4]
  repeat refine AW.seq ?_
  refine AW.region (OpsW.all _ _ ?_)
  simp only [take_len_map, pw, gpo, gav, gcond, po, pv, rdo, rd, setd, args0, st, gd, gdo, pvBin, poBin, pvUn, poUn, pvConv, poConv, nw, okA, selA_true, selA_false, selA_bool, selA_int, selA_str, pvPick, poPick, pvField, poField, pvIdx, poIdx, pvLoad, poLoad, pvExt, poExt, pvLen, poLen, pvMin, pvMax, poMin, pvIndex, poIndex, pvStr, poStr, pvSlice, poSlice, lowOf, highOf, okLo, pvFld, poFld, pvPart, poPart, pvBuild, poBuild, fillA, putA, cellsA, okC, oneA, Value.oneCell', List.map_cons, List.map_nil, List.cons_append, List.nil_append, List.append_nil, List.take_nil, List.drop_nil, Option.isSome_some, List.mem_cons, List.not_mem_nil, forall_eq_or_imp, forall_eq, or_false, false_or, List.length_append, List.length_singleton, Nat.le_refl, Nat.reduceLeDiff, Hp.at, List.take_succ_cons, List.take_zero, List.drop_succ_cons, List.drop_zero, List.getElem?_toArray, List.getElem?_cons_zero, List.getElem?_cons_succ, Option.bind_some, Option.map_some, Option.map_none, Option.all_some, Option.all_none, Nat.reduceLT, Nat.reduceEqDiff, Nat.reduceAdd, Nat.reduceMul, decide_true, decide_false, true_and, and_true, if_true, if_false, Bool.false_eq_true, reduceIte, reduceCtorEq, Nat.add_zero, Nat.zero_add, Nat.succ_ne_zero, true_implies, implies_true, false_implies, Bool.cond_true_left, Bool.cond_false_right, Bool.not_eq_true', and_self, imp_self, Nat.reduceSub, Int.toNat_zero, Int.reduceToNat, Int.reduceNeg, Nat.one_mul, Nat.mul_one, Nat.zero_mul, Nat.mul_zero, ne_eq, Int.reduceEq, not_false_eq_true, not_true_eq_false, Bool.not_true, Bool.not_false, Int.reduceLE, Int.reduceLT, List.length_cons, List.length_nil, Int.reduceTMod, Int.reduceTDiv, Ex.then, Ex.inBlock, Ex.noGoto, Ex.jump, reduceIte, Nat.reduceEqDiff, reduceCtorEq, tk29, ez29, lz3, tk27, ez27, fo54_1, fo54_2, lz4]
  repeat refine AW.seq ?_
  refine AW.cond rfl (fun hc => ?_) (fun hc => ?_)
  · repeat refine AW.seq ?_
    refine AW.region (OpsW.all _ _ ?_)
    simp only [take_len_map, pw, gpo, gav, gcond, po, pv, rdo, rd, setd, args0, st, gd, gdo, pvBin, poBin, pvUn, poUn, pvConv, poConv, nw, okA, selA_true, selA_false, selA_bool, selA_int, selA_str, pvPick, poPick, pvField, poField, pvIdx, poIdx, pvLoad, poLoad, pvExt, poExt, pvLen, poLen, pvMin, pvMax, poMin, pvIndex, poIndex, pvStr, poStr, pvSlice, poSlice, lowOf, highOf, okLo, pvFld, poFld, pvPart, poPart, pvBuild, poBuild, fillA, putA, cellsA, okC, oneA, Value.oneCell', List.map_cons, List.map_nil, List.cons_append, List.nil_append, List.append_nil, List.take_nil, List.drop_nil, Option.isSome_some, List.mem_cons, List.not_mem_nil, forall_eq_or_imp, forall_eq, or_false, false_or, List.length_append, List.length_singleton, Nat.le_refl, Nat.reduceLeDiff, Hp.at, List.take_succ_cons, List.take_zero, List.drop_succ_cons, List.drop_zero, List.getElem?_toArray, List.getElem?_cons_zero, List.getElem?_cons_succ, Option.bind_some, Option.map_some, Option.map_none, Option.all_some, Option.all_none, Nat.reduceLT, Nat.reduceEqDiff, Nat.reduceAdd, Nat.reduceMul, decide_true, decide_false, true_and, and_true, if_true, if_false, Bool.false_eq_true, reduceIte, reduceCtorEq, Nat.add_zero, Nat.zero_add, Nat.succ_ne_zero, true_implies, implies_true, false_implies, Bool.cond_true_left, Bool.cond_false_right, Bool.not_eq_true', and_self, imp_self, Nat.reduceSub, Int.toNat_zero, Int.reduceToNat, Int.reduceNeg, Nat.one_mul, Nat.mul_one, Nat.zero_mul, Nat.mul_zero, ne_eq, Int.reduceEq, not_false_eq_true, not_true_eq_false, Bool.not_true, Bool.not_false, Int.reduceLE, Int.reduceLT, List.length_cons, List.length_nil, Int.reduceTMod, Int.reduceTDiv, Ex.then, Ex.inBlock, Ex.noGoto, Ex.jump, reduceIte, Nat.reduceEqDiff, reduceCtorEq, tk29, ez29, lz3, tk27, ez27, fo54_1, fo54_2, lz4]
    repeat refine AW.seq ?_
    refine AW.ret ?_
    try simp only [Ex.then, Ex.inBlock, Ex.noGoto, Ex.jump, reduceIte, Nat.reduceEqDiff, reduceCtorEq]
    refine Done.one rfl rfl Sub.nil ?_
    have : next rows f h = [] := by
      unfold next
      rw [if_pos]
      simp only [Bool.or_eq_true, decide_eq_true_eq] at hc
      omega
    rw [this]
    rfl
  · repeat refine AW.seq ?_
    refine AW.skip ?_
    try simp only [Ex.then, Ex.inBlock, Ex.noGoto, Ex.jump, reduceIte, Nat.reduceEqDiff, reduceCtorEq]
    simp only [Bool.or_eq_false_iff, decide_eq_false_iff_not] at hc
    obtain ⟨n, rfl⟩ : ∃ n : Nat, f = n := ⟨f.toNat, by omega⟩
    have hnx : next rows n h = sel rows (n + 1) (n + 1 + min (h - 1).toNat (rows.length - n)) := by
      unfold next
      rw [if_neg (by omega)]
      simp
    rw [hnx]
    repeat refine AW.seq ?_
    refine AW.region (OpsW.all _ _ ?_)
    simp only [take_len_map, pw, gpo, gav, gcond, po, pv, rdo, rd, setd, args0, st, gd, gdo, pvBin, poBin, pvUn, poUn, pvConv, poConv, nw, okA, selA_true, selA_false, selA_bool, selA_int, selA_str, pvPick, poPick, pvField, poField, pvIdx, poIdx, pvLoad, poLoad, pvExt, poExt, pvLen, poLen, pvMin, pvMax, poMin, pvIndex, poIndex, pvStr, poStr, pvSlice, poSlice, lowOf, highOf, okLo, pvFld, poFld, pvPart, poPart, pvBuild, poBuild, fillA, putA, cellsA, okC, oneA, Value.oneCell', List.map_cons, List.map_nil, List.cons_append, List.nil_append, List.append_nil, List.take_nil, List.drop_nil, Option.isSome_some, List.mem_cons, List.not_mem_nil, forall_eq_or_imp, forall_eq, or_false, false_or, List.length_append, List.length_singleton, Nat.le_refl, Nat.reduceLeDiff, Hp.at, List.take_succ_cons, List.take_zero, List.drop_succ_cons, List.drop_zero, List.getElem?_toArray, List.getElem?_cons_zero, List.getElem?_cons_succ, Option.bind_some, Option.map_some, Option.map_none, Option.all_some, Option.all_none, Nat.reduceLT, Nat.reduceEqDiff, Nat.reduceAdd, Nat.reduceMul, decide_true, decide_false, true_and, and_true, if_true, if_false, Bool.false_eq_true, reduceIte, reduceCtorEq, Nat.add_zero, Nat.zero_add, Nat.succ_ne_zero, true_implies, implies_true, false_implies, Bool.cond_true_left, Bool.cond_false_right, Bool.not_eq_true', and_self, imp_self, Nat.reduceSub, Int.toNat_zero, Int.reduceToNat, Int.reduceNeg, Nat.one_mul, Nat.mul_one, Nat.zero_mul, Nat.mul_zero, ne_eq, Int.reduceEq, not_false_eq_true, not_true_eq_false, Bool.not_true, Bool.not_false, Int.reduceLE, Int.reduceLT, List.length_cons, List.length_nil, Int.reduceTMod, Int.reduceTDiv, Ex.then, Ex.inBlock, Ex.noGoto, Ex.jump, reduceIte, Nat.reduceEqDiff, reduceCtorEq, tk29, ez29, lz3, tk27, ez27, fo54_1, fo54_2, lz4]
    repeat refine AW.seq ?_
    refine AW.region (OpsW.all _ _ ?_)
    simp only [take_len_map, pw, gpo, gav, gcond, po, pv, rdo, rd, setd, args0, st, gd, gdo, pvBin, poBin, pvUn, poUn, pvConv, poConv, nw, okA, selA_true, selA_false, selA_bool, selA_int, selA_str, pvPick, poPick, pvField, poField, pvIdx, poIdx, pvLoad, poLoad, pvExt, poExt, pvLen, poLen, pvMin, pvMax, poMin, pvIndex, poIndex, pvStr, poStr, pvSlice, poSlice, lowOf, highOf, okLo, pvFld, poFld, pvPart, poPart, pvBuild, poBuild, fillA, putA, cellsA, okC, oneA, Value.oneCell', List.map_cons, List.map_nil, List.cons_append, List.nil_append, List.append_nil, List.take_nil, List.drop_nil, Option.isSome_some, List.mem_cons, List.not_mem_nil, forall_eq_or_imp, forall_eq, or_false, false_or, List.length_append, List.length_singleton, Nat.le_refl, Nat.reduceLeDiff, Hp.at, List.take_succ_cons, List.take_zero, List.drop_succ_cons, List.drop_zero, List.getElem?_toArray, List.getElem?_cons_zero, List.getElem?_cons_succ, Option.bind_some, Option.map_some, Option.map_none, Option.all_some, Option.all_none, Nat.reduceLT, Nat.reduceEqDiff, Nat.reduceAdd, Nat.reduceMul, decide_true, decide_false, true_and, and_true, if_true, if_false, Bool.false_eq_true, reduceIte, reduceCtorEq, Nat.add_zero, Nat.zero_add, Nat.succ_ne_zero, true_implies, implies_true, false_implies, Bool.cond_true_left, Bool.cond_false_right, Bool.not_eq_true', and_self, imp_self, Nat.reduceSub, Int.toNat_zero, Int.reduceToNat, Int.reduceNeg, Nat.one_mul, Nat.mul_one, Nat.zero_mul, Nat.mul_zero, ne_eq, Int.reduceEq, not_false_eq_true, not_true_eq_false, Bool.not_true, Bool.not_false, Int.reduceLE, Int.reduceLT, List.length_cons, List.length_nil, Int.reduceTMod, Int.reduceTDiv, Ex.then, Ex.inBlock, Ex.noGoto, Ex.jump, reduceIte, Nat.reduceEqDiff, reduceCtorEq, tk29, ez29, lz3, tk27, ez27, fo54_1, fo54_2, lz4]
    refine ⟨by omega, ?_⟩
    refine AW.keep [0, 1, 2, 7, 8] ?_
    simp only [Env.keep, List.map_cons, List.map_nil, rd, reduceIte, Nat.reduceEqDiff, Nat.succ_ne_zero]
    refine AW.nilroot 7 0 3 1 rfl rfl ?_
    repeat refine AW.seq ?_
    refine AW.block ?_
    refine AW.loop (fun (x : Nat × Nat) => [(0, .im (.sl (rows.flatMap encRow) rows.length)), (1, .int .i64 n), (2, .int .i64 h), (7, .rsl 0 x.2 0 (sel rows (n + 1) x.1).length), (8, .int .i64 x.1)])
      (fun x => [(0, ⟨x.2, true, 3, 1, (sel rows (n + 1) x.1).map fun v => .im (encI v)⟩)])
      (fun x => n + 1 ≤ x.1 ∧ x.1 ≤ n + 1 + min (h - 1).toNat (rows.length - n)) (fun x => n + 2 + min (h - 1).toNat (rows.length - n) - x.1) (n + 1, 0) ?_ ?_ ?_ ?_
    · simp only; omega
    · exact .cons rfl (.cons rfl (.cons rfl (.cons (by simp [rd, sel_self]) (.cons rfl .nil))))
    · intro i
      simp [sel_self]
    · rintro ⟨e, ver⟩ ⟨h1, h2⟩
      simp only at h1 h2
      repeat refine AW.seq ?_
      refine AW.region (OpsW.all _ _ ?_)
      simp only [take_len_map, pw, gpo, gav, gcond, po, pv, rdo, rd, setd, args0, st, gd, gdo, pvBin, poBin, pvUn, poUn, pvConv, poConv, nw, okA, selA_true, selA_false, selA_bool, selA_int, selA_str, pvPick, poPick, pvField, poField, pvIdx, poIdx, pvLoad, poLoad, pvExt, poExt, pvLen, poLen, pvMin, pvMax, poMin, pvIndex, poIndex, pvStr, poStr, pvSlice, poSlice, lowOf, highOf, okLo, pvFld, poFld, pvPart, poPart, pvBuild, poBuild, fillA, putA, cellsA, okC, oneA, Value.oneCell', List.map_cons, List.map_nil, List.cons_append, List.nil_append, List.append_nil, List.take_nil, List.drop_nil, Option.isSome_some, List.mem_cons, List.not_mem_nil, forall_eq_or_imp, forall_eq, or_false, false_or, List.length_append, List.length_singleton, Nat.le_refl, Nat.reduceLeDiff, Hp.at, List.take_succ_cons, List.take_zero, List.drop_succ_cons, List.drop_zero, List.getElem?_toArray, List.getElem?_cons_zero, List.getElem?_cons_succ, Option.bind_some, Option.map_some, Option.map_none, Option.all_some, Option.all_none, Nat.reduceLT, Nat.reduceEqDiff, Nat.reduceAdd, Nat.reduceMul, decide_true, decide_false, true_and, and_true, if_true, if_false, Bool.false_eq_true, reduceIte, reduceCtorEq, Nat.add_zero, Nat.zero_add, Nat.succ_ne_zero, true_implies, implies_true, false_implies, Bool.cond_true_left, Bool.cond_false_right, Bool.not_eq_true', and_self, imp_self, Nat.reduceSub, Int.toNat_zero, Int.reduceToNat, Int.reduceNeg, Nat.one_mul, Nat.mul_one, Nat.zero_mul, Nat.mul_zero, ne_eq, Int.reduceEq, not_false_eq_true, not_true_eq_false, Bool.not_true, Bool.not_false, Int.reduceLE, Int.reduceLT, List.length_cons, List.length_nil, Int.reduceTMod, Int.reduceTDiv, Ex.then, Ex.inBlock, Ex.noGoto, Ex.jump, reduceIte, Nat.reduceEqDiff, reduceCtorEq, tk29, ez29, lz3, tk27, ez27, fo54_1, fo54_2, lz4]
      refine ⟨by omega, by omega, by split <;> omega, ?_⟩
      repeat refine AW.seq ?_
      refine AW.cond rfl (fun hc => ?_) (fun hc => ?_)
      · repeat refine AW.seq ?_
        refine AW.skip ?_
        try simp only [Ex.then, Ex.inBlock, Ex.noGoto, Ex.jump, reduceIte, Nat.reduceEqDiff, reduceCtorEq]
        have hlt : e < n + 1 + min (h - 1).toNat (rows.length - n) := by
          simp only [decide_eq_true_eq] at hc
          split at hc <;> omega
        refine AW.keep [0, 1, 2, 7, 8] ?_
        simp only [Env.keep, List.map_cons, List.map_nil, rd, reduceIte, Nat.reduceEqDiff, Nat.succ_ne_zero]
        repeat refine AW.seq ?_
        refine AW.block ?_
        have hk := row_keep rows (e - 1) (by omega)
        rw [show e - 1 = ((e : Int) - 1).toNat from by omega] at hk
        repeat refine AW.seq ?_
        refine AW.region (OpsW.all _ _ ?_)
        simp only [take_len_map, pw, gpo, gav, gcond, po, pv, rdo, rd, setd, args0, st, gd, gdo, pvBin, poBin, pvUn, poUn, pvConv, poConv, nw, okA, selA_true, selA_false, selA_bool, selA_int, selA_str, pvPick, poPick, pvField, poField, pvIdx, poIdx, pvLoad, poLoad, pvExt, poExt, pvLen, poLen, pvMin, pvMax, poMin, pvIndex, poIndex, pvStr, poStr, pvSlice, poSlice, lowOf, highOf, okLo, pvFld, poFld, pvPart, poPart, pvBuild, poBuild, fillA, putA, cellsA, okC, oneA, Value.oneCell', List.map_cons, List.map_nil, List.cons_append, List.nil_append, List.append_nil, List.take_nil, List.drop_nil, Option.isSome_some, List.mem_cons, List.not_mem_nil, forall_eq_or_imp, forall_eq, or_false, false_or, List.length_append, List.length_singleton, Nat.le_refl, Nat.reduceLeDiff, Hp.at, List.take_succ_cons, List.take_zero, List.drop_succ_cons, List.drop_zero, List.getElem?_toArray, List.getElem?_cons_zero, List.getElem?_cons_succ, Option.bind_some, Option.map_some, Option.map_none, Option.all_some, Option.all_none, Nat.reduceLT, Nat.reduceEqDiff, Nat.reduceAdd, Nat.reduceMul, decide_true, decide_false, true_and, and_true, if_true, if_false, Bool.false_eq_true, reduceIte, reduceCtorEq, Nat.add_zero, Nat.zero_add, Nat.succ_ne_zero, true_implies, implies_true, false_implies, Bool.cond_true_left, Bool.cond_false_right, Bool.not_eq_true', and_self, imp_self, Nat.reduceSub, Int.toNat_zero, Int.reduceToNat, Int.reduceNeg, Nat.one_mul, Nat.mul_one, Nat.zero_mul, Nat.mul_zero, ne_eq, Int.reduceEq, not_false_eq_true, not_true_eq_false, Bool.not_true, Bool.not_false, Int.reduceLE, Int.reduceLT, List.length_cons, List.length_nil, Int.reduceTMod, Int.reduceTDiv, Ex.then, Ex.inBlock, Ex.noGoto, Ex.jump, reduceIte, Nat.reduceEqDiff, reduceCtorEq, tk29, ez29, lz3, tk27, ez27, fo54_1, fo54_2, lz4, hk]
        have hfl : (rows.flatMap encRow).length = rows.length * 5 := flat_len encRow 5 encRow_len rows
        have hsl := sel_len rows (n + 1) e
        have hoke : okEnd rows e = ((e : Int) == (rows.length : Int) || !keepAt rows ((e : Int) - 1).toNat) := by
          unfold okEnd
          rw [show ((e : Int) - 1).toNat = e - 1 from by omega]
          congr 1
          rw [Bool.eq_iff_iff, beq_iff_eq, beq_iff_eq]
          omega
        refine ⟨fun h => ⟨h, by omega, by omega⟩, fun h => ⟨h, h, by omega, by omega⟩, fun h => ⟨h, by omega⟩, ?_⟩
        repeat refine AW.seq ?_
        refine AW.cond rfl (fun hc2 => ?_) (fun hc2 => ?_)
        · repeat refine AW.seq ?_
          refine AW.region ?_
          refine OpsW.pures 2 _ _ ?_
          simp only [take_len_map, pw, gpo, gav, gcond, po, pv, rdo, rd, setd, args0, st, gd, gdo, pvBin, poBin, pvUn, poUn, pvConv, poConv, nw, okA, selA_true, selA_false, selA_bool, selA_int, selA_str, pvPick, poPick, pvField, poField, pvIdx, poIdx, pvLoad, poLoad, pvExt, poExt, pvLen, poLen, pvMin, pvMax, poMin, pvIndex, poIndex, pvStr, poStr, pvSlice, poSlice, lowOf, highOf, okLo, pvFld, poFld, pvPart, poPart, pvBuild, poBuild, fillA, putA, cellsA, okC, oneA, Value.oneCell', List.map_cons, List.map_nil, List.cons_append, List.nil_append, List.append_nil, List.take_nil, List.drop_nil, Option.isSome_some, List.mem_cons, List.not_mem_nil, forall_eq_or_imp, forall_eq, or_false, false_or, List.length_append, List.length_singleton, Nat.le_refl, Nat.reduceLeDiff, Hp.at, List.take_succ_cons, List.take_zero, List.drop_succ_cons, List.drop_zero, List.getElem?_toArray, List.getElem?_cons_zero, List.getElem?_cons_succ, Option.bind_some, Option.map_some, Option.map_none, Option.all_some, Option.all_none, Nat.reduceLT, Nat.reduceEqDiff, Nat.reduceAdd, Nat.reduceMul, decide_true, decide_false, true_and, and_true, if_true, if_false, Bool.false_eq_true, reduceIte, reduceCtorEq, Nat.add_zero, Nat.zero_add, Nat.succ_ne_zero, true_implies, implies_true, false_implies, Bool.cond_true_left, Bool.cond_false_right, Bool.not_eq_true', and_self, imp_self, Nat.reduceSub, Int.toNat_zero, Int.reduceToNat, Int.reduceNeg, Nat.one_mul, Nat.mul_one, Nat.zero_mul, Nat.mul_zero, ne_eq, Int.reduceEq, not_false_eq_true, not_true_eq_false, Bool.not_true, Bool.not_false, Int.reduceLE, Int.reduceLT, List.length_cons, List.length_nil, Int.reduceTMod, Int.reduceTDiv, Ex.then, Ex.inBlock, Ex.noGoto, Ex.jump, reduceIte, Nat.reduceEqDiff, reduceCtorEq, tk29, ez29, lz3, tk27, ez27, fo54_1, fo54_2, lz4]
          refine OpsW.appendL rfl rfl rfl (by decide) rfl rfl rfl (by simp) E29 (by decide) (by simp [rdo, rd, gd]) (by simp [rdo, rd, st, okC, oneA, Value.oneCell']) [.im (encI e)] rfl (by simp [encI, oneA, Value.oneCell']) rfl rfl rfl rfl rfl rfl rfl (by simp) (by omega) (by omega) ?_
          refine OpsW.all _ _ ?_
          simp only [take_len_map, pw, gpo, gav, gcond, po, pv, rdo, rd, setd, args0, st, gd, gdo, pvBin, poBin, pvUn, poUn, pvConv, poConv, nw, okA, selA_true, selA_false, selA_bool, selA_int, selA_str, pvPick, poPick, pvField, poField, pvIdx, poIdx, pvLoad, poLoad, pvExt, poExt, pvLen, poLen, pvMin, pvMax, poMin, pvIndex, poIndex, pvStr, poStr, pvSlice, poSlice, lowOf, highOf, okLo, pvFld, poFld, pvPart, poPart, pvBuild, poBuild, fillA, putA, cellsA, okC, oneA, Value.oneCell', List.map_cons, List.map_nil, List.cons_append, List.nil_append, List.append_nil, List.take_nil, List.drop_nil, Option.isSome_some, List.mem_cons, List.not_mem_nil, forall_eq_or_imp, forall_eq, or_false, false_or, List.length_append, List.length_singleton, Nat.le_refl, Nat.reduceLeDiff, Hp.at, List.take_succ_cons, List.take_zero, List.drop_succ_cons, List.drop_zero, List.getElem?_toArray, List.getElem?_cons_zero, List.getElem?_cons_succ, Option.bind_some, Option.map_some, Option.map_none, Option.all_some, Option.all_none, Nat.reduceLT, Nat.reduceEqDiff, Nat.reduceAdd, Nat.reduceMul, decide_true, decide_false, true_and, and_true, if_true, if_false, Bool.false_eq_true, reduceIte, reduceCtorEq, Nat.add_zero, Nat.zero_add, Nat.succ_ne_zero, true_implies, implies_true, false_implies, Bool.cond_true_left, Bool.cond_false_right, Bool.not_eq_true', and_self, imp_self, Nat.reduceSub, Int.toNat_zero, Int.reduceToNat, Int.reduceNeg, Nat.one_mul, Nat.mul_one, Nat.zero_mul, Nat.mul_zero, ne_eq, Int.reduceEq, not_false_eq_true, not_true_eq_false, Bool.not_true, Bool.not_false, Int.reduceLE, Int.reduceLT, List.length_cons, List.length_nil, Int.reduceTMod, Int.reduceTDiv, Ex.then, Ex.inBlock, Ex.noGoto, Ex.jump, reduceIte, Nat.reduceEqDiff, reduceCtorEq, tk29, ez29, lz3, tk27, ez27, fo54_1, fo54_2, lz4]
          repeat refine AW.seq ?_
          refine AW.region (OpsW.all _ _ ?_)
          simp only [take_len_map, pw, gpo, gav, gcond, po, pv, rdo, rd, setd, args0, st, gd, gdo, pvBin, poBin, pvUn, poUn, pvConv, poConv, nw, okA, selA_true, selA_false, selA_bool, selA_int, selA_str, pvPick, poPick, pvField, poField, pvIdx, poIdx, pvLoad, poLoad, pvExt, poExt, pvLen, poLen, pvMin, pvMax, poMin, pvIndex, poIndex, pvStr, poStr, pvSlice, poSlice, lowOf, highOf, okLo, pvFld, poFld, pvPart, poPart, pvBuild, poBuild, fillA, putA, cellsA, okC, oneA, Value.oneCell', List.map_cons, List.map_nil, List.cons_append, List.nil_append, List.append_nil, List.take_nil, List.drop_nil, Option.isSome_some, List.mem_cons, List.not_mem_nil, forall_eq_or_imp, forall_eq, or_false, false_or, List.length_append, List.length_singleton, Nat.le_refl, Nat.reduceLeDiff, Hp.at, List.take_succ_cons, List.take_zero, List.drop_succ_cons, List.drop_zero, List.getElem?_toArray, List.getElem?_cons_zero, List.getElem?_cons_succ, Option.bind_some, Option.map_some, Option.map_none, Option.all_some, Option.all_none, Nat.reduceLT, Nat.reduceEqDiff, Nat.reduceAdd, Nat.reduceMul, decide_true, decide_false, true_and, and_true, if_true, if_false, Bool.false_eq_true, reduceIte, reduceCtorEq, Nat.add_zero, Nat.zero_add, Nat.succ_ne_zero, true_implies, implies_true, false_implies, Bool.cond_true_left, Bool.cond_false_right, Bool.not_eq_true', and_self, imp_self, Nat.reduceSub, Int.toNat_zero, Int.reduceToNat, Int.reduceNeg, Nat.one_mul, Nat.mul_one, Nat.zero_mul, Nat.mul_zero, ne_eq, Int.reduceEq, not_false_eq_true, not_true_eq_false, Bool.not_true, Bool.not_false, Int.reduceLE, Int.reduceLT, List.length_cons, List.length_nil, Int.reduceTMod, Int.reduceTDiv, Ex.then, Ex.inBlock, Ex.noGoto, Ex.jump, reduceIte, Nat.reduceEqDiff, reduceCtorEq, tk29, ez29, lz3, tk27, ez27, fo54_1, fo54_2, lz4]
          refine ⟨by omega, (e + 1, ver + 1), by omega, by simp only; omega, ?_, ?_⟩
          · refine .cons rfl (.cons rfl (.cons rfl (.cons ?_ (.cons ?_ .nil))))
            · simp only [rd, reduceIte, Nat.reduceEqDiff]
              rw [sel_succ rows (n + 1) e h1, hoke, hc2]
              simp
            · simp [rd]
          · refine Hp.eqv.shadow ?_
            rw [sel_succ rows (n + 1) e h1, hoke, hc2]
            simp [take_len_map]
            exact Hp.eqv.refl _
        · repeat refine AW.seq ?_
          refine AW.skip ?_
          try simp only [Ex.then, Ex.inBlock, Ex.noGoto, Ex.jump, reduceIte, Nat.reduceEqDiff, reduceCtorEq]
          repeat refine AW.seq ?_
          refine AW.region (OpsW.all _ _ ?_)
          simp only [take_len_map, pw, gpo, gav, gcond, po, pv, rdo, rd, setd, args0, st, gd, gdo, pvBin, poBin, pvUn, poUn, pvConv, poConv, nw, okA, selA_true, selA_false, selA_bool, selA_int, selA_str, pvPick, poPick, pvField, poField, pvIdx, poIdx, pvLoad, poLoad, pvExt, poExt, pvLen, poLen, pvMin, pvMax, poMin, pvIndex, poIndex, pvStr, poStr, pvSlice, poSlice, lowOf, highOf, okLo, pvFld, poFld, pvPart, poPart, pvBuild, poBuild, fillA, putA, cellsA, okC, oneA, Value.oneCell', List.map_cons, List.map_nil, List.cons_append, List.nil_append, List.append_nil, List.take_nil, List.drop_nil, Option.isSome_some, List.mem_cons, List.not_mem_nil, forall_eq_or_imp, forall_eq, or_false, false_or, List.length_append, List.length_singleton, Nat.le_refl, Nat.reduceLeDiff, Hp.at, List.take_succ_cons, List.take_zero, List.drop_succ_cons, List.drop_zero, List.getElem?_toArray, List.getElem?_cons_zero, List.getElem?_cons_succ, Option.bind_some, Option.map_some, Option.map_none, Option.all_some, Option.all_none, Nat.reduceLT, Nat.reduceEqDiff, Nat.reduceAdd, Nat.reduceMul, decide_true, decide_false, true_and, and_true, if_true, if_false, Bool.false_eq_true, reduceIte, reduceCtorEq, Nat.add_zero, Nat.zero_add, Nat.succ_ne_zero, true_implies, implies_true, false_implies, Bool.cond_true_left, Bool.cond_false_right, Bool.not_eq_true', and_self, imp_self, Nat.reduceSub, Int.toNat_zero, Int.reduceToNat, Int.reduceNeg, Nat.one_mul, Nat.mul_one, Nat.zero_mul, Nat.mul_zero, ne_eq, Int.reduceEq, not_false_eq_true, not_true_eq_false, Bool.not_true, Bool.not_false, Int.reduceLE, Int.reduceLT, List.length_cons, List.length_nil, Int.reduceTMod, Int.reduceTDiv, Ex.then, Ex.inBlock, Ex.noGoto, Ex.jump, reduceIte, Nat.reduceEqDiff, reduceCtorEq, tk29, ez29, lz3, tk27, ez27, fo54_1, fo54_2, lz4]
          refine ⟨by omega, (e + 1, ver), by omega, by simp only; omega, ?_, ?_⟩
          · refine .cons rfl (.cons rfl (.cons rfl (.cons ?_ (.cons ?_ .nil))))
            · simp only [rd, reduceIte, Nat.reduceEqDiff]
              rw [sel_succ rows (n + 1) e h1, hoke, hc2]
              simp
            · simp [rd]
          · rw [sel_succ rows (n + 1) e h1, hoke, hc2]
            simp
            exact Hp.eqv.refl _
      · repeat refine AW.seq ?_
        refine AW.exit ?_
        try simp only [Ex.then, Ex.inBlock, Ex.noGoto, Ex.jump, reduceIte, Nat.reduceEqDiff, reduceCtorEq]
        have hee : e = n + 1 + min (h - 1).toNat (rows.length - n) := by
          simp only [decide_eq_false_iff_not] at hc
          split at hc <;> omega
        rw [← hee]
        refine AW.freeze 7 0 (ys := (sel rows (n + 1) e).map encI) rfl rfl rfl rfl (by simp) (by simp) ?_
        repeat refine AW.seq ?_
        refine AW.region (OpsW.all _ _ ?_)
        simp only [take_len_map, pw, gpo, gav, gcond, po, pv, rdo, rd, setd, args0, st, gd, gdo, pvBin, poBin, pvUn, poUn, pvConv, poConv, nw, okA, selA_true, selA_false, selA_bool, selA_int, selA_str, pvPick, poPick, pvField, poField, pvIdx, poIdx, pvLoad, poLoad, pvExt, poExt, pvLen, poLen, pvMin, pvMax, poMin, pvIndex, poIndex, pvStr, poStr, pvSlice, poSlice, lowOf, highOf, okLo, pvFld, poFld, pvPart, poPart, pvBuild, poBuild, fillA, putA, cellsA, okC, oneA, Value.oneCell', List.map_cons, List.map_nil, List.cons_append, List.nil_append, List.append_nil, List.take_nil, List.drop_nil, Option.isSome_some, List.mem_cons, List.not_mem_nil, forall_eq_or_imp, forall_eq, or_false, false_or, List.length_append, List.length_singleton, Nat.le_refl, Nat.reduceLeDiff, Hp.at, List.take_succ_cons, List.take_zero, List.drop_succ_cons, List.drop_zero, List.getElem?_toArray, List.getElem?_cons_zero, List.getElem?_cons_succ, Option.bind_some, Option.map_some, Option.map_none, Option.all_some, Option.all_none, Nat.reduceLT, Nat.reduceEqDiff, Nat.reduceAdd, Nat.reduceMul, decide_true, decide_false, true_and, and_true, if_true, if_false, Bool.false_eq_true, reduceIte, reduceCtorEq, Nat.add_zero, Nat.zero_add, Nat.succ_ne_zero, true_implies, implies_true, false_implies, Bool.cond_true_left, Bool.cond_false_right, Bool.not_eq_true', and_self, imp_self, Nat.reduceSub, Int.toNat_zero, Int.reduceToNat, Int.reduceNeg, Nat.one_mul, Nat.mul_one, Nat.zero_mul, Nat.mul_zero, ne_eq, Int.reduceEq, not_false_eq_true, not_true_eq_false, Bool.not_true, Bool.not_false, Int.reduceLE, Int.reduceLT, List.length_cons, List.length_nil, Int.reduceTMod, Int.reduceTDiv, Ex.then, Ex.inBlock, Ex.noGoto, Ex.jump, reduceIte, Nat.reduceEqDiff, reduceCtorEq, tk29, ez29, lz3, tk27, ez27, fo54_1, fo54_2, lz4]
        repeat refine AW.seq ?_
        refine AW.ret ?_
        try simp only [Ex.then, Ex.inBlock, Ex.noGoto, Ex.jump, reduceIte, Nat.reduceEqDiff, reduceCtorEq]
        refine Done.one rfl rfl (Sub.refl _) ?_
        simp [ints, rd]
end Go.Proofs.Ythfdgicfcjkfgaa
