/- Own work. A part of the proof of this claim. -/
import Derived.Test.YthfdgicfcjkfgaaPage2
set_option linter.unusedSimpArgs false
set_option linter.unusedVariables false
namespace Go.Proofs.Ythfdgicfcjkfgaa
open Go.Abs

theorem call16 : callable Try.prog 16 = true := by kernel_rfl
theorem call25 : callable Try.prog 25 = true := by kernel_rfl

theorem sel_mem {rows : List Row} {a b : Nat} {x : Int} (hx : x ∈ sel rows a b) : ∃ n : Nat, x = n ∧ a ≤ n ∧ n < b ∧ okEnd rows n = true := by
  unfold sel at hx
  obtain ⟨n, hn, rfl⟩ := List.mem_map.1 hx
  obtain ⟨h1, h2⟩ := List.mem_filter.1 hn
  simp only [List.mem_range'_1] at h1
  exact ⟨n, rfl, h1.1, by omega, h2⟩
theorem next_mem {rows : List Row} {f h x : Int} (hx : x ∈ next rows f h) : ∃ n : Nat, x = n ∧ f < n ∧ n ≤ rows.length ∧ n - f ≤ h - 1 ∧ 0 ≤ f ∧ okEnd rows n = true := by
  unfold next at hx
  split at hx
  · simp at hx
  · obtain ⟨n, rfl, h1, h2, h3⟩ := sel_mem hx
    exact ⟨n, rfl, by omega, by omega, by omega, by omega, h3⟩
theorem last_mem {xs : List Int} (h : xs ≠ []) : last xs ∈ xs := by
  unfold last
  rw [List.getLast?_eq_some_getLast h]
  exact List.getLast_mem h
theorem next_len (rows : List Row) (f h : Int) : (next rows f h).length ≤ rows.length := by
  unfold next
  split
  · simp
  · have := sel_len rows (f.toNat + 1) (f.toNat + 1 + min (h - 1).toNat (rows.length - f.toNat))
    omega
theorem last_nil_iff (rows : List Row) (f h : Int) : last (next rows f h) = 0 ↔ next rows f h = [] := by
  constructor
  · intro h0
    rcases Classical.em (next rows f h = []) with hn | hn
    · exact hn
    · obtain ⟨n, h1, h2, _, _, h3, _⟩ := next_mem (last_mem hn)
      omega
  · intro h0
    rw [h0]
    rfl

def fillGo (rows : List Row) (h : Int) : Nat → Nat → List Int × Option Nat
  | 0, _ => ([], none)
  | m + 1, f => if f < rows.length then (if next rows f h = [] then ([], some f) else
      (last (next rows f h) :: (fillGo rows h m (last (next rows f h)).toNat).1, (fillGo rows h m (last (next rows f h)).toNat).2)) else ([], none)
def fillR (rows : List Row) (h : Int) : List Int × Option Nat := fillGo rows h (rows.length + 1) 0
/-- Ends, place, error. -/
def fill (rows : List Row) (h : Int) : List Int × Int × Int :=
  if h < 4 ∨ 40 < h then ([], 0, 1) else match (fillR rows h).2 with
    | none => ((fillR rows h).1, 0, 0)
    | some f => ([], f, 210)
def fillA3 (x : List Int × Int × Int) : AV := .tup [ints x.1, .int .i64 x.2.1, .int .i64 x.2.2]

theorem fill_spec (rows : List Row) (h : Int) (hr : rows.length < 1000000) (hh : -1000000 < h ∧ h < 1000000) :
    QSpec Try.prog 11 [rowsA rows, .int .i64 h] (fillA3 (fill rows h)) := by
  refine Spec.of_AW Try.func11 rfl (by simp [Try.ntmps11]) ?_
  rw [Try.ntmps11]
  unfold rowsA
  repeat refine AW.seq ?_
  refine AW.region (OpsW.all _ _ ?_)
  simp only [take_len_map, pw, gpo, gav, gcond, po, pv, rdo, rd, setd, args0, st, gd, gdo, pvBin, poBin, pvUn, poUn, pvConv, poConv, nw, okA, selA_true, selA_false, selA_bool, selA_int, selA_str, pvPick, poPick, pvField, poField, pvIdx, poIdx, pvLoad, poLoad, pvExt, poExt, pvLen, poLen, pvMin, pvMax, poMin, pvIndex, poIndex, pvStr, poStr, pvSlice, poSlice, lowOf, highOf, okLo, pvFld, poFld, pvPart, poPart, pvBuild, poBuild, fillA, putA, cellsA, okC, oneA, Value.oneCell', List.map_cons, List.map_nil, List.cons_append, List.nil_append, List.append_nil, List.take_nil, List.drop_nil, Option.isSome_some, List.mem_cons, List.not_mem_nil, forall_eq_or_imp, forall_eq, or_false, false_or, List.length_append, List.length_singleton, Nat.le_refl, Nat.reduceLeDiff, Hp.at, List.take_succ_cons, List.take_zero, List.drop_succ_cons, List.drop_zero, List.getElem?_toArray, List.getElem?_cons_zero, List.getElem?_cons_succ, Option.bind_some, Option.map_some, Option.map_none, Option.all_some, Option.all_none, Nat.reduceLT, Nat.reduceEqDiff, Nat.reduceAdd, Nat.reduceMul, decide_true, decide_false, true_and, and_true, if_true, if_false, Bool.false_eq_true, reduceIte, reduceCtorEq, Nat.add_zero, Nat.zero_add, Nat.succ_ne_zero, true_implies, implies_true, false_implies, Bool.cond_true_left, Bool.cond_false_right, Bool.not_eq_true', and_self, imp_self, Nat.reduceSub, Int.toNat_zero, Int.reduceToNat, Int.reduceNeg, Nat.one_mul, Nat.mul_one, Nat.zero_mul, Nat.mul_zero, ne_eq, Int.reduceEq, not_false_eq_true, not_true_eq_false, Bool.not_true, Bool.not_false, Int.reduceLE, Int.reduceLT, List.length_cons, List.length_nil, Int.reduceTMod, Int.reduceTDiv, Ex.then, Ex.inBlock, Ex.noGoto, Ex.jump, reduceIte, Nat.reduceEqDiff, reduceCtorEq, tk29, ez29, lz3, tk27, ez27, fo54_1, fo54_2, lz4]
  refine AW.scopeJump 0 (fun e _ => ∃ n : Nat, fillR rows h = ((fillR rows h).1, some n) ∧ ¬ (h < 4 ∨ 40 < h) ∧ Env.le e [(8, .int .i64 n)]) rfl ?_ ?_
  · repeat refine AW.seq ?_
    refine AW.region (OpsW.all _ _ ?_)
    simp only [take_len_map, pw, gpo, gav, gcond, po, pv, rdo, rd, setd, args0, st, gd, gdo, pvBin, poBin, pvUn, poUn, pvConv, poConv, nw, okA, selA_true, selA_false, selA_bool, selA_int, selA_str, pvPick, poPick, pvField, poField, pvIdx, poIdx, pvLoad, poLoad, pvExt, poExt, pvLen, poLen, pvMin, pvMax, poMin, pvIndex, poIndex, pvStr, poStr, pvSlice, poSlice, lowOf, highOf, okLo, pvFld, poFld, pvPart, poPart, pvBuild, poBuild, fillA, putA, cellsA, okC, oneA, Value.oneCell', List.map_cons, List.map_nil, List.cons_append, List.nil_append, List.append_nil, List.take_nil, List.drop_nil, Option.isSome_some, List.mem_cons, List.not_mem_nil, forall_eq_or_imp, forall_eq, or_false, false_or, List.length_append, List.length_singleton, Nat.le_refl, Nat.reduceLeDiff, Hp.at, List.take_succ_cons, List.take_zero, List.drop_succ_cons, List.drop_zero, List.getElem?_toArray, List.getElem?_cons_zero, List.getElem?_cons_succ, Option.bind_some, Option.map_some, Option.map_none, Option.all_some, Option.all_none, Nat.reduceLT, Nat.reduceEqDiff, Nat.reduceAdd, Nat.reduceMul, decide_true, decide_false, true_and, and_true, if_true, if_false, Bool.false_eq_true, reduceIte, reduceCtorEq, Nat.add_zero, Nat.zero_add, Nat.succ_ne_zero, true_implies, implies_true, false_implies, Bool.cond_true_left, Bool.cond_false_right, Bool.not_eq_true', and_self, imp_self, Nat.reduceSub, Int.toNat_zero, Int.reduceToNat, Int.reduceNeg, Nat.one_mul, Nat.mul_one, Nat.zero_mul, Nat.mul_zero, ne_eq, Int.reduceEq, not_false_eq_true, not_true_eq_false, Bool.not_true, Bool.not_false, Int.reduceLE, Int.reduceLT, List.length_cons, List.length_nil, Int.reduceTMod, Int.reduceTDiv, Ex.then, Ex.inBlock, Ex.noGoto, Ex.jump, reduceIte, Nat.reduceEqDiff, reduceCtorEq, tk29, ez29, lz3, tk27, ez27, fo54_1, fo54_2, lz4]
    repeat refine AW.seq ?_
    refine AW.cond rfl (fun hc => ?_) (fun hc => ?_)
    · repeat refine AW.seq ?_
      refine AW.region (OpsW.all _ _ ?_)
      simp only [take_len_map, pw, gpo, gav, gcond, po, pv, rdo, rd, setd, args0, st, gd, gdo, pvBin, poBin, pvUn, poUn, pvConv, poConv, nw, okA, selA_true, selA_false, selA_bool, selA_int, selA_str, pvPick, poPick, pvField, poField, pvIdx, poIdx, pvLoad, poLoad, pvExt, poExt, pvLen, poLen, pvMin, pvMax, poMin, pvIndex, poIndex, pvStr, poStr, pvSlice, poSlice, lowOf, highOf, okLo, pvFld, poFld, pvPart, poPart, pvBuild, poBuild, fillA, putA, cellsA, okC, oneA, Value.oneCell', List.map_cons, List.map_nil, List.cons_append, List.nil_append, List.append_nil, List.take_nil, List.drop_nil, Option.isSome_some, List.mem_cons, List.not_mem_nil, forall_eq_or_imp, forall_eq, or_false, false_or, List.length_append, List.length_singleton, Nat.le_refl, Nat.reduceLeDiff, Hp.at, List.take_succ_cons, List.take_zero, List.drop_succ_cons, List.drop_zero, List.getElem?_toArray, List.getElem?_cons_zero, List.getElem?_cons_succ, Option.bind_some, Option.map_some, Option.map_none, Option.all_some, Option.all_none, Nat.reduceLT, Nat.reduceEqDiff, Nat.reduceAdd, Nat.reduceMul, decide_true, decide_false, true_and, and_true, if_true, if_false, Bool.false_eq_true, reduceIte, reduceCtorEq, Nat.add_zero, Nat.zero_add, Nat.succ_ne_zero, true_implies, implies_true, false_implies, Bool.cond_true_left, Bool.cond_false_right, Bool.not_eq_true', and_self, imp_self, Nat.reduceSub, Int.toNat_zero, Int.reduceToNat, Int.reduceNeg, Nat.one_mul, Nat.mul_one, Nat.zero_mul, Nat.mul_zero, ne_eq, Int.reduceEq, not_false_eq_true, not_true_eq_false, Bool.not_true, Bool.not_false, Int.reduceLE, Int.reduceLT, List.length_cons, List.length_nil, Int.reduceTMod, Int.reduceTDiv, Ex.then, Ex.inBlock, Ex.noGoto, Ex.jump, reduceIte, Nat.reduceEqDiff, reduceCtorEq, tk29, ez29, lz3, tk27, ez27, fo54_1, fo54_2, lz4]
      repeat refine AW.seq ?_
      refine AW.ret ?_
      try simp only [Ex.then, Ex.inBlock, Ex.noGoto, Ex.jump, reduceIte, Nat.reduceEqDiff, reduceCtorEq]
      refine Done.three rfl rfl rfl rfl Sub.nil (Sub.refl _) (Sub.refl _) ?_
      simp only [Bool.or_eq_true, decide_eq_true_eq] at hc
      unfold fill
      rw [if_pos hc]
      rfl
    · repeat refine AW.seq ?_
      refine AW.skip ?_
      try simp only [Ex.then, Ex.inBlock, Ex.noGoto, Ex.jump, reduceIte, Nat.reduceEqDiff, reduceCtorEq]
      simp only [Bool.or_eq_false_iff, decide_eq_false_iff_not] at hc
      repeat refine AW.seq ?_
      refine AW.region (OpsW.all _ _ ?_)
      simp only [take_len_map, pw, gpo, gav, gcond, po, pv, rdo, rd, setd, args0, st, gd, gdo, pvBin, poBin, pvUn, poUn, pvConv, poConv, nw, okA, selA_true, selA_false, selA_bool, selA_int, selA_str, pvPick, poPick, pvField, poField, pvIdx, poIdx, pvLoad, poLoad, pvExt, poExt, pvLen, poLen, pvMin, pvMax, poMin, pvIndex, poIndex, pvStr, poStr, pvSlice, poSlice, lowOf, highOf, okLo, pvFld, poFld, pvPart, poPart, pvBuild, poBuild, fillA, putA, cellsA, okC, oneA, Value.oneCell', List.map_cons, List.map_nil, List.cons_append, List.nil_append, List.append_nil, List.take_nil, List.drop_nil, Option.isSome_some, List.mem_cons, List.not_mem_nil, forall_eq_or_imp, forall_eq, or_false, false_or, List.length_append, List.length_singleton, Nat.le_refl, Nat.reduceLeDiff, Hp.at, List.take_succ_cons, List.take_zero, List.drop_succ_cons, List.drop_zero, List.getElem?_toArray, List.getElem?_cons_zero, List.getElem?_cons_succ, Option.bind_some, Option.map_some, Option.map_none, Option.all_some, Option.all_none, Nat.reduceLT, Nat.reduceEqDiff, Nat.reduceAdd, Nat.reduceMul, decide_true, decide_false, true_and, and_true, if_true, if_false, Bool.false_eq_true, reduceIte, reduceCtorEq, Nat.add_zero, Nat.zero_add, Nat.succ_ne_zero, true_implies, implies_true, false_implies, Bool.cond_true_left, Bool.cond_false_right, Bool.not_eq_true', and_self, imp_self, Nat.reduceSub, Int.toNat_zero, Int.reduceToNat, Int.reduceNeg, Nat.one_mul, Nat.mul_one, Nat.zero_mul, Nat.mul_zero, ne_eq, Int.reduceEq, not_false_eq_true, not_true_eq_false, Bool.not_true, Bool.not_false, Int.reduceLE, Int.reduceLT, List.length_cons, List.length_nil, Int.reduceTMod, Int.reduceTDiv, Ex.then, Ex.inBlock, Ex.noGoto, Ex.jump, reduceIte, Nat.reduceEqDiff, reduceCtorEq, tk29, ez29, lz3, tk27, ez27, fo54_1, fo54_2, lz4]
      refine AW.keep [0, 1, 7] ?_
      simp only [Env.keep, List.map_cons, List.map_nil, rd, reduceIte, Nat.reduceEqDiff, Nat.succ_ne_zero]
      refine AW.nilroot 7 0 3 1 rfl rfl ?_
      repeat refine AW.seq ?_
      refine AW.region (OpsW.all _ _ ?_)
      simp only [take_len_map, pw, gpo, gav, gcond, po, pv, rdo, rd, setd, args0, st, gd, gdo, pvBin, poBin, pvUn, poUn, pvConv, poConv, nw, okA, selA_true, selA_false, selA_bool, selA_int, selA_str, pvPick, poPick, pvField, poField, pvIdx, poIdx, pvLoad, poLoad, pvExt, poExt, pvLen, poLen, pvMin, pvMax, poMin, pvIndex, poIndex, pvStr, poStr, pvSlice, poSlice, lowOf, highOf, okLo, pvFld, poFld, pvPart, poPart, pvBuild, poBuild, fillA, putA, cellsA, okC, oneA, Value.oneCell', List.map_cons, List.map_nil, List.cons_append, List.nil_append, List.append_nil, List.take_nil, List.drop_nil, Option.isSome_some, List.mem_cons, List.not_mem_nil, forall_eq_or_imp, forall_eq, or_false, false_or, List.length_append, List.length_singleton, Nat.le_refl, Nat.reduceLeDiff, Hp.at, List.take_succ_cons, List.take_zero, List.drop_succ_cons, List.drop_zero, List.getElem?_toArray, List.getElem?_cons_zero, List.getElem?_cons_succ, Option.bind_some, Option.map_some, Option.map_none, Option.all_some, Option.all_none, Nat.reduceLT, Nat.reduceEqDiff, Nat.reduceAdd, Nat.reduceMul, decide_true, decide_false, true_and, and_true, if_true, if_false, Bool.false_eq_true, reduceIte, reduceCtorEq, Nat.add_zero, Nat.zero_add, Nat.succ_ne_zero, true_implies, implies_true, false_implies, Bool.cond_true_left, Bool.cond_false_right, Bool.not_eq_true', and_self, imp_self, Nat.reduceSub, Int.toNat_zero, Int.reduceToNat, Int.reduceNeg, Nat.one_mul, Nat.mul_one, Nat.zero_mul, Nat.mul_zero, ne_eq, Int.reduceEq, not_false_eq_true, not_true_eq_false, Bool.not_true, Bool.not_false, Int.reduceLE, Int.reduceLT, List.length_cons, List.length_nil, Int.reduceTMod, Int.reduceTDiv, Ex.then, Ex.inBlock, Ex.noGoto, Ex.jump, reduceIte, Nat.reduceEqDiff, reduceCtorEq, tk29, ez29, lz3, tk27, ez27, fo54_1, fo54_2, lz4]
      repeat refine AW.seq ?_
      refine AW.block ?_
      repeat refine AW.seq ?_
      refine AW.loop (fun (x : List Int × Nat × Nat) => [(0, .im (.sl (rows.flatMap encRow) rows.length)), (1, .int .i64 h), (7, .rsl 0 x.2.2 0 x.1.length), (8, .int .i64 x.2.1)])
        (fun x => [(0, ⟨x.2.2, true, 3, 1, x.1.map fun v => .im (encI v)⟩)])
        (fun x => x.1.length ≤ x.2.1 ∧ x.2.1 ≤ rows.length ∧ ∃ m, rows.length + 1 ≤ m + x.2.1 ∧ fillR rows h = (x.1 ++ (fillGo rows h m x.2.1).1, (fillGo rows h m x.2.1).2)) (fun x => rows.length + 1 - x.2.1) ([], 0, 0) ?_ ?_ ?_ ?_
      · exact ⟨by simp, by simp, rows.length + 1, by simp, by simp [fillR]⟩
      · exact .cons rfl (.cons rfl (.cons rfl (.cons rfl .nil)))
      · exact fun _ => rfl
      · rintro ⟨acc, f, ver⟩ ⟨h1, h2, m, h3, h4⟩
        simp only at h1 h2 h3 h4
        repeat refine AW.seq ?_
        refine AW.region (OpsW.all _ _ ?_)
        simp only [take_len_map, pw, gpo, gav, gcond, po, pv, rdo, rd, setd, args0, st, gd, gdo, pvBin, poBin, pvUn, poUn, pvConv, poConv, nw, okA, selA_true, selA_false, selA_bool, selA_int, selA_str, pvPick, poPick, pvField, poField, pvIdx, poIdx, pvLoad, poLoad, pvExt, poExt, pvLen, poLen, pvMin, pvMax, poMin, pvIndex, poIndex, pvStr, poStr, pvSlice, poSlice, lowOf, highOf, okLo, pvFld, poFld, pvPart, poPart, pvBuild, poBuild, fillA, putA, cellsA, okC, oneA, Value.oneCell', List.map_cons, List.map_nil, List.cons_append, List.nil_append, List.append_nil, List.take_nil, List.drop_nil, Option.isSome_some, List.mem_cons, List.not_mem_nil, forall_eq_or_imp, forall_eq, or_false, false_or, List.length_append, List.length_singleton, Nat.le_refl, Nat.reduceLeDiff, Hp.at, List.take_succ_cons, List.take_zero, List.drop_succ_cons, List.drop_zero, List.getElem?_toArray, List.getElem?_cons_zero, List.getElem?_cons_succ, Option.bind_some, Option.map_some, Option.map_none, Option.all_some, Option.all_none, Nat.reduceLT, Nat.reduceEqDiff, Nat.reduceAdd, Nat.reduceMul, decide_true, decide_false, true_and, and_true, if_true, if_false, Bool.false_eq_true, reduceIte, reduceCtorEq, Nat.add_zero, Nat.zero_add, Nat.succ_ne_zero, true_implies, implies_true, false_implies, Bool.cond_true_left, Bool.cond_false_right, Bool.not_eq_true', and_self, imp_self, Nat.reduceSub, Int.toNat_zero, Int.reduceToNat, Int.reduceNeg, Nat.one_mul, Nat.mul_one, Nat.zero_mul, Nat.mul_zero, ne_eq, Int.reduceEq, not_false_eq_true, not_true_eq_false, Bool.not_true, Bool.not_false, Int.reduceLE, Int.reduceLT, List.length_cons, List.length_nil, Int.reduceTMod, Int.reduceTDiv, Ex.then, Ex.inBlock, Ex.noGoto, Ex.jump, reduceIte, Nat.reduceEqDiff, reduceCtorEq, tk29, ez29, lz3, tk27, ez27, fo54_1, fo54_2, lz4]
        repeat refine AW.seq ?_
        refine AW.cond rfl (fun hc2 => ?_) (fun hc2 => ?_)
        · repeat refine AW.seq ?_
          refine AW.skip ?_
          try simp only [Ex.then, Ex.inBlock, Ex.noGoto, Ex.jump, reduceIte, Nat.reduceEqDiff, reduceCtorEq]
          have hlt : f < rows.length := by simp at hc2; omega
          obtain ⟨m, rfl⟩ : ∃ k, m = k + 1 := ⟨m - 1, by omega⟩
          simp only [fillGo, if_pos hlt] at h4
          have hnl := next_len rows f h
          repeat refine AW.seq ?_
          refine AW.block ?_
          repeat refine AW.seq ?_
          refine AW.region ?_
          refine OpsW.pures 3 _ _ ?_
          simp only [take_len_map, pw, gpo, gav, gcond, po, pv, rdo, rd, setd, args0, st, gd, gdo, pvBin, poBin, pvUn, poUn, pvConv, poConv, nw, okA, selA_true, selA_false, selA_bool, selA_int, selA_str, pvPick, poPick, pvField, poField, pvIdx, poIdx, pvLoad, poLoad, pvExt, poExt, pvLen, poLen, pvMin, pvMax, poMin, pvIndex, poIndex, pvStr, poStr, pvSlice, poSlice, lowOf, highOf, okLo, pvFld, poFld, pvPart, poPart, pvBuild, poBuild, fillA, putA, cellsA, okC, oneA, Value.oneCell', List.map_cons, List.map_nil, List.cons_append, List.nil_append, List.append_nil, List.take_nil, List.drop_nil, Option.isSome_some, List.mem_cons, List.not_mem_nil, forall_eq_or_imp, forall_eq, or_false, false_or, List.length_append, List.length_singleton, Nat.le_refl, Nat.reduceLeDiff, Hp.at, List.take_succ_cons, List.take_zero, List.drop_succ_cons, List.drop_zero, List.getElem?_toArray, List.getElem?_cons_zero, List.getElem?_cons_succ, Option.bind_some, Option.map_some, Option.map_none, Option.all_some, Option.all_none, Nat.reduceLT, Nat.reduceEqDiff, Nat.reduceAdd, Nat.reduceMul, decide_true, decide_false, true_and, and_true, if_true, if_false, Bool.false_eq_true, reduceIte, reduceCtorEq, Nat.add_zero, Nat.zero_add, Nat.succ_ne_zero, true_implies, implies_true, false_implies, Bool.cond_true_left, Bool.cond_false_right, Bool.not_eq_true', and_self, imp_self, Nat.reduceSub, Int.toNat_zero, Int.reduceToNat, Int.reduceNeg, Nat.one_mul, Nat.mul_one, Nat.zero_mul, Nat.mul_zero, ne_eq, Int.reduceEq, not_false_eq_true, not_true_eq_false, Bool.not_true, Bool.not_false, Int.reduceLE, Int.reduceLT, List.length_cons, List.length_nil, Int.reduceTMod, Int.reduceTDiv, Ex.then, Ex.inBlock, Ex.noGoto, Ex.jump, reduceIte, Nat.reduceEqDiff, reduceCtorEq, tk29, ez29, lz3, tk27, ez27, fo54_1, fo54_2, lz4]
          refine OpsW.qcall rfl call16 rfl rfl (by simp [rdo, rd, gd]) (.cons (.pur rfl) (.cons (.pur rfl) (.cons (.pur rfl) .nil))) (next_spec rows f h hr (by omega) hh) rfl ?_
          refine OpsW.qcall rfl call25 rfl rfl (by simp [rdo, rd, gd, setd, ints]) (.cons (.pur rfl) .nil) (last_spec (next rows f h) (by omega)) rfl ?_
          refine OpsW.all _ _ ?_
          simp only [take_len_map, pw, gpo, gav, gcond, po, pv, rdo, rd, setd, args0, st, gd, gdo, pvBin, poBin, pvUn, poUn, pvConv, poConv, nw, okA, selA_true, selA_false, selA_bool, selA_int, selA_str, pvPick, poPick, pvField, poField, pvIdx, poIdx, pvLoad, poLoad, pvExt, poExt, pvLen, poLen, pvMin, pvMax, poMin, pvIndex, poIndex, pvStr, poStr, pvSlice, poSlice, lowOf, highOf, okLo, pvFld, poFld, pvPart, poPart, pvBuild, poBuild, fillA, putA, cellsA, okC, oneA, Value.oneCell', List.map_cons, List.map_nil, List.cons_append, List.nil_append, List.append_nil, List.take_nil, List.drop_nil, Option.isSome_some, List.mem_cons, List.not_mem_nil, forall_eq_or_imp, forall_eq, or_false, false_or, List.length_append, List.length_singleton, Nat.le_refl, Nat.reduceLeDiff, Hp.at, List.take_succ_cons, List.take_zero, List.drop_succ_cons, List.drop_zero, List.getElem?_toArray, List.getElem?_cons_zero, List.getElem?_cons_succ, Option.bind_some, Option.map_some, Option.map_none, Option.all_some, Option.all_none, Nat.reduceLT, Nat.reduceEqDiff, Nat.reduceAdd, Nat.reduceMul, decide_true, decide_false, true_and, and_true, if_true, if_false, Bool.false_eq_true, reduceIte, reduceCtorEq, Nat.add_zero, Nat.zero_add, Nat.succ_ne_zero, true_implies, implies_true, false_implies, Bool.cond_true_left, Bool.cond_false_right, Bool.not_eq_true', and_self, imp_self, Nat.reduceSub, Int.toNat_zero, Int.reduceToNat, Int.reduceNeg, Nat.one_mul, Nat.mul_one, Nat.zero_mul, Nat.mul_zero, ne_eq, Int.reduceEq, not_false_eq_true, not_true_eq_false, Bool.not_true, Bool.not_false, Int.reduceLE, Int.reduceLT, List.length_cons, List.length_nil, Int.reduceTMod, Int.reduceTDiv, Ex.then, Ex.inBlock, Ex.noGoto, Ex.jump, reduceIte, Nat.reduceEqDiff, reduceCtorEq, tk29, ez29, lz3, tk27, ez27, fo54_1, fo54_2, lz4]
          refine AW.keep [0, 1, 7, 8, 9] ?_
          simp only [Env.keep, List.map_cons, List.map_nil, rd, reduceIte, Nat.reduceEqDiff, Nat.succ_ne_zero]
          repeat refine AW.seq ?_
          refine AW.region (OpsW.all _ _ ?_)
          simp only [take_len_map, pw, gpo, gav, gcond, po, pv, rdo, rd, setd, args0, st, gd, gdo, pvBin, poBin, pvUn, poUn, pvConv, poConv, nw, okA, selA_true, selA_false, selA_bool, selA_int, selA_str, pvPick, poPick, pvField, poField, pvIdx, poIdx, pvLoad, poLoad, pvExt, poExt, pvLen, poLen, pvMin, pvMax, poMin, pvIndex, poIndex, pvStr, poStr, pvSlice, poSlice, lowOf, highOf, okLo, pvFld, poFld, pvPart, poPart, pvBuild, poBuild, fillA, putA, cellsA, okC, oneA, Value.oneCell', List.map_cons, List.map_nil, List.cons_append, List.nil_append, List.append_nil, List.take_nil, List.drop_nil, Option.isSome_some, List.mem_cons, List.not_mem_nil, forall_eq_or_imp, forall_eq, or_false, false_or, List.length_append, List.length_singleton, Nat.le_refl, Nat.reduceLeDiff, Hp.at, List.take_succ_cons, List.take_zero, List.drop_succ_cons, List.drop_zero, List.getElem?_toArray, List.getElem?_cons_zero, List.getElem?_cons_succ, Option.bind_some, Option.map_some, Option.map_none, Option.all_some, Option.all_none, Nat.reduceLT, Nat.reduceEqDiff, Nat.reduceAdd, Nat.reduceMul, decide_true, decide_false, true_and, and_true, if_true, if_false, Bool.false_eq_true, reduceIte, reduceCtorEq, Nat.add_zero, Nat.zero_add, Nat.succ_ne_zero, true_implies, implies_true, false_implies, Bool.cond_true_left, Bool.cond_false_right, Bool.not_eq_true', and_self, imp_self, Nat.reduceSub, Int.toNat_zero, Int.reduceToNat, Int.reduceNeg, Nat.one_mul, Nat.mul_one, Nat.zero_mul, Nat.mul_zero, ne_eq, Int.reduceEq, not_false_eq_true, not_true_eq_false, Bool.not_true, Bool.not_false, Int.reduceLE, Int.reduceLT, List.length_cons, List.length_nil, Int.reduceTMod, Int.reduceTDiv, Ex.then, Ex.inBlock, Ex.noGoto, Ex.jump, reduceIte, Nat.reduceEqDiff, reduceCtorEq, tk29, ez29, lz3, tk27, ez27, fo54_1, fo54_2, lz4]
          repeat refine AW.seq ?_
          refine AW.cond rfl (fun hc3 => ?_) (fun hc3 => ?_)
          · simp only [beq_iff_eq, last_nil_iff] at hc3
            rw [if_pos hc3] at h4
            repeat refine AW.seq ?_
            refine AW.goto ?_
            try simp only [Ex.then, Ex.inBlock, Ex.noGoto, Ex.jump, reduceIte, Nat.reduceEqDiff, reduceCtorEq]
            refine ⟨trivial, f, by rw [h4], by omega, .cons rfl .nil⟩
          · simp only [beq_eq_false_iff_ne, ne_eq, last_nil_iff] at hc3
            rw [if_neg hc3] at h4
            obtain ⟨n, hn1, hn2, hn3, hn4, _⟩ := next_mem (last_mem hc3)
            rw [hn1] at h4 ⊢
            simp only [Int.toNat_natCast] at h4
            repeat refine AW.seq ?_
            refine AW.skip ?_
            try simp only [Ex.then, Ex.inBlock, Ex.noGoto, Ex.jump, reduceIte, Nat.reduceEqDiff, reduceCtorEq]
            repeat refine AW.seq ?_
            refine AW.region ?_
            refine OpsW.pures 2 _ _ ?_
            simp only [take_len_map, pw, gpo, gav, gcond, po, pv, rdo, rd, setd, args0, st, gd, gdo, pvBin, poBin, pvUn, poUn, pvConv, poConv, nw, okA, selA_true, selA_false, selA_bool, selA_int, selA_str, pvPick, poPick, pvField, poField, pvIdx, poIdx, pvLoad, poLoad, pvExt, poExt, pvLen, poLen, pvMin, pvMax, poMin, pvIndex, poIndex, pvStr, poStr, pvSlice, poSlice, lowOf, highOf, okLo, pvFld, poFld, pvPart, poPart, pvBuild, poBuild, fillA, putA, cellsA, okC, oneA, Value.oneCell', List.map_cons, List.map_nil, List.cons_append, List.nil_append, List.append_nil, List.take_nil, List.drop_nil, Option.isSome_some, List.mem_cons, List.not_mem_nil, forall_eq_or_imp, forall_eq, or_false, false_or, List.length_append, List.length_singleton, Nat.le_refl, Nat.reduceLeDiff, Hp.at, List.take_succ_cons, List.take_zero, List.drop_succ_cons, List.drop_zero, List.getElem?_toArray, List.getElem?_cons_zero, List.getElem?_cons_succ, Option.bind_some, Option.map_some, Option.map_none, Option.all_some, Option.all_none, Nat.reduceLT, Nat.reduceEqDiff, Nat.reduceAdd, Nat.reduceMul, decide_true, decide_false, true_and, and_true, if_true, if_false, Bool.false_eq_true, reduceIte, reduceCtorEq, Nat.add_zero, Nat.zero_add, Nat.succ_ne_zero, true_implies, implies_true, false_implies, Bool.cond_true_left, Bool.cond_false_right, Bool.not_eq_true', and_self, imp_self, Nat.reduceSub, Int.toNat_zero, Int.reduceToNat, Int.reduceNeg, Nat.one_mul, Nat.mul_one, Nat.zero_mul, Nat.mul_zero, ne_eq, Int.reduceEq, not_false_eq_true, not_true_eq_false, Bool.not_true, Bool.not_false, Int.reduceLE, Int.reduceLT, List.length_cons, List.length_nil, Int.reduceTMod, Int.reduceTDiv, Ex.then, Ex.inBlock, Ex.noGoto, Ex.jump, reduceIte, Nat.reduceEqDiff, reduceCtorEq, tk29, ez29, lz3, tk27, ez27, fo54_1, fo54_2, lz4]
            refine OpsW.appendL rfl rfl rfl (by decide) rfl rfl rfl (by simp) E29 (by decide) (by simp [rdo, rd, gd]) (by simp [rdo, rd, st, okC, oneA, Value.oneCell']) [.im (encI n)] rfl (by simp [encI, oneA, Value.oneCell']) rfl rfl rfl rfl rfl rfl rfl (by simp) (by omega) (by omega) ?_
            refine OpsW.all _ _ ?_
            simp only [take_len_map, pw, gpo, gav, gcond, po, pv, rdo, rd, setd, args0, st, gd, gdo, pvBin, poBin, pvUn, poUn, pvConv, poConv, nw, okA, selA_true, selA_false, selA_bool, selA_int, selA_str, pvPick, poPick, pvField, poField, pvIdx, poIdx, pvLoad, poLoad, pvExt, poExt, pvLen, poLen, pvMin, pvMax, poMin, pvIndex, poIndex, pvStr, poStr, pvSlice, poSlice, lowOf, highOf, okLo, pvFld, poFld, pvPart, poPart, pvBuild, poBuild, fillA, putA, cellsA, okC, oneA, Value.oneCell', List.map_cons, List.map_nil, List.cons_append, List.nil_append, List.append_nil, List.take_nil, List.drop_nil, Option.isSome_some, List.mem_cons, List.not_mem_nil, forall_eq_or_imp, forall_eq, or_false, false_or, List.length_append, List.length_singleton, Nat.le_refl, Nat.reduceLeDiff, Hp.at, List.take_succ_cons, List.take_zero, List.drop_succ_cons, List.drop_zero, List.getElem?_toArray, List.getElem?_cons_zero, List.getElem?_cons_succ, Option.bind_some, Option.map_some, Option.map_none, Option.all_some, Option.all_none, Nat.reduceLT, Nat.reduceEqDiff, Nat.reduceAdd, Nat.reduceMul, decide_true, decide_false, true_and, and_true, if_true, if_false, Bool.false_eq_true, reduceIte, reduceCtorEq, Nat.add_zero, Nat.zero_add, Nat.succ_ne_zero, true_implies, implies_true, false_implies, Bool.cond_true_left, Bool.cond_false_right, Bool.not_eq_true', and_self, imp_self, Nat.reduceSub, Int.toNat_zero, Int.reduceToNat, Int.reduceNeg, Nat.one_mul, Nat.mul_one, Nat.zero_mul, Nat.mul_zero, ne_eq, Int.reduceEq, not_false_eq_true, not_true_eq_false, Bool.not_true, Bool.not_false, Int.reduceLE, Int.reduceLT, List.length_cons, List.length_nil, Int.reduceTMod, Int.reduceTDiv, Ex.then, Ex.inBlock, Ex.noGoto, Ex.jump, reduceIte, Nat.reduceEqDiff, reduceCtorEq, tk29, ez29, lz3, tk27, ez27, fo54_1, fo54_2, lz4]
            repeat refine AW.seq ?_
            refine AW.region (OpsW.all _ _ ?_)
            simp only [take_len_map, pw, gpo, gav, gcond, po, pv, rdo, rd, setd, args0, st, gd, gdo, pvBin, poBin, pvUn, poUn, pvConv, poConv, nw, okA, selA_true, selA_false, selA_bool, selA_int, selA_str, pvPick, poPick, pvField, poField, pvIdx, poIdx, pvLoad, poLoad, pvExt, poExt, pvLen, poLen, pvMin, pvMax, poMin, pvIndex, poIndex, pvStr, poStr, pvSlice, poSlice, lowOf, highOf, okLo, pvFld, poFld, pvPart, poPart, pvBuild, poBuild, fillA, putA, cellsA, okC, oneA, Value.oneCell', List.map_cons, List.map_nil, List.cons_append, List.nil_append, List.append_nil, List.take_nil, List.drop_nil, Option.isSome_some, List.mem_cons, List.not_mem_nil, forall_eq_or_imp, forall_eq, or_false, false_or, List.length_append, List.length_singleton, Nat.le_refl, Nat.reduceLeDiff, Hp.at, List.take_succ_cons, List.take_zero, List.drop_succ_cons, List.drop_zero, List.getElem?_toArray, List.getElem?_cons_zero, List.getElem?_cons_succ, Option.bind_some, Option.map_some, Option.map_none, Option.all_some, Option.all_none, Nat.reduceLT, Nat.reduceEqDiff, Nat.reduceAdd, Nat.reduceMul, decide_true, decide_false, true_and, and_true, if_true, if_false, Bool.false_eq_true, reduceIte, reduceCtorEq, Nat.add_zero, Nat.zero_add, Nat.succ_ne_zero, true_implies, implies_true, false_implies, Bool.cond_true_left, Bool.cond_false_right, Bool.not_eq_true', and_self, imp_self, Nat.reduceSub, Int.toNat_zero, Int.reduceToNat, Int.reduceNeg, Nat.one_mul, Nat.mul_one, Nat.zero_mul, Nat.mul_zero, ne_eq, Int.reduceEq, not_false_eq_true, not_true_eq_false, Bool.not_true, Bool.not_false, Int.reduceLE, Int.reduceLT, List.length_cons, List.length_nil, Int.reduceTMod, Int.reduceTDiv, Ex.then, Ex.inBlock, Ex.noGoto, Ex.jump, reduceIte, Nat.reduceEqDiff, reduceCtorEq, tk29, ez29, lz3, tk27, ez27, fo54_1, fo54_2, lz4]
            refine ⟨(acc ++ [(n : Int)], n, ver + 1), ⟨by simp; omega, by simp only; omega, m, by simp only; omega, ?_⟩, by simp only; omega, ?_, ?_⟩
            · rw [h4]; simp
            · refine .cons rfl (.cons rfl (.cons ?_ (.cons rfl .nil)))
              simp [rd]
            · refine Hp.eqv.shadow ?_
              simp [take_len_map]
              exact Hp.eqv.refl _
        · repeat refine AW.seq ?_
          refine AW.exit ?_
          try simp only [Ex.then, Ex.inBlock, Ex.noGoto, Ex.jump, reduceIte, Nat.reduceEqDiff, reduceCtorEq]
          have hge : f = rows.length := by simp at hc2; omega
          have hgo : fillGo rows h m f = ([], none) := by
            cases m with
            | zero => rfl
            | succ m => simp [fillGo, hge]
          rw [hgo] at h4
          refine AW.freeze 7 0 (ys := acc.map encI) rfl rfl rfl rfl (by simp) (by simp) ?_
          repeat refine AW.seq ?_
          refine AW.region (OpsW.all _ _ ?_)
          simp only [take_len_map, pw, gpo, gav, gcond, po, pv, rdo, rd, setd, args0, st, gd, gdo, pvBin, poBin, pvUn, poUn, pvConv, poConv, nw, okA, selA_true, selA_false, selA_bool, selA_int, selA_str, pvPick, poPick, pvField, poField, pvIdx, poIdx, pvLoad, poLoad, pvExt, poExt, pvLen, poLen, pvMin, pvMax, poMin, pvIndex, poIndex, pvStr, poStr, pvSlice, poSlice, lowOf, highOf, okLo, pvFld, poFld, pvPart, poPart, pvBuild, poBuild, fillA, putA, cellsA, okC, oneA, Value.oneCell', List.map_cons, List.map_nil, List.cons_append, List.nil_append, List.append_nil, List.take_nil, List.drop_nil, Option.isSome_some, List.mem_cons, List.not_mem_nil, forall_eq_or_imp, forall_eq, or_false, false_or, List.length_append, List.length_singleton, Nat.le_refl, Nat.reduceLeDiff, Hp.at, List.take_succ_cons, List.take_zero, List.drop_succ_cons, List.drop_zero, List.getElem?_toArray, List.getElem?_cons_zero, List.getElem?_cons_succ, Option.bind_some, Option.map_some, Option.map_none, Option.all_some, Option.all_none, Nat.reduceLT, Nat.reduceEqDiff, Nat.reduceAdd, Nat.reduceMul, decide_true, decide_false, true_and, and_true, if_true, if_false, Bool.false_eq_true, reduceIte, reduceCtorEq, Nat.add_zero, Nat.zero_add, Nat.succ_ne_zero, true_implies, implies_true, false_implies, Bool.cond_true_left, Bool.cond_false_right, Bool.not_eq_true', and_self, imp_self, Nat.reduceSub, Int.toNat_zero, Int.reduceToNat, Int.reduceNeg, Nat.one_mul, Nat.mul_one, Nat.zero_mul, Nat.mul_zero, ne_eq, Int.reduceEq, not_false_eq_true, not_true_eq_false, Bool.not_true, Bool.not_false, Int.reduceLE, Int.reduceLT, List.length_cons, List.length_nil, Int.reduceTMod, Int.reduceTDiv, Ex.then, Ex.inBlock, Ex.noGoto, Ex.jump, reduceIte, Nat.reduceEqDiff, reduceCtorEq, tk29, ez29, lz3, tk27, ez27, fo54_1, fo54_2, lz4]
          repeat refine AW.seq ?_
          refine AW.ret ?_
          try simp only [Ex.then, Ex.inBlock, Ex.noGoto, Ex.jump, reduceIte, Nat.reduceEqDiff, reduceCtorEq]
          refine Done.three rfl rfl rfl rfl (Sub.refl _) (Sub.refl _) (Sub.refl _) ?_
          unfold fill
          rw [if_neg (by omega), h4]
          simp [fillA3, ints, rd]
  · rintro e hp ⟨n, hn, hc, hle⟩
    refine AW.weaken _ hle ?_
    repeat refine AW.seq ?_
    refine AW.skip ?_
    try simp only [Ex.then, Ex.inBlock, Ex.noGoto, Ex.jump, reduceIte, Nat.reduceEqDiff, reduceCtorEq]
    repeat refine AW.seq ?_
    refine AW.region (OpsW.all _ _ ?_)
    simp only [take_len_map, pw, gpo, gav, gcond, po, pv, rdo, rd, setd, args0, st, gd, gdo, pvBin, poBin, pvUn, poUn, pvConv, poConv, nw, okA, selA_true, selA_false, selA_bool, selA_int, selA_str, pvPick, poPick, pvField, poField, pvIdx, poIdx, pvLoad, poLoad, pvExt, poExt, pvLen, poLen, pvMin, pvMax, poMin, pvIndex, poIndex, pvStr, poStr, pvSlice, poSlice, lowOf, highOf, okLo, pvFld, poFld, pvPart, poPart, pvBuild, poBuild, fillA, putA, cellsA, okC, oneA, Value.oneCell', List.map_cons, List.map_nil, List.cons_append, List.nil_append, List.append_nil, List.take_nil, List.drop_nil, Option.isSome_some, List.mem_cons, List.not_mem_nil, forall_eq_or_imp, forall_eq, or_false, false_or, List.length_append, List.length_singleton, Nat.le_refl, Nat.reduceLeDiff, Hp.at, List.take_succ_cons, List.take_zero, List.drop_succ_cons, List.drop_zero, List.getElem?_toArray, List.getElem?_cons_zero, List.getElem?_cons_succ, Option.bind_some, Option.map_some, Option.map_none, Option.all_some, Option.all_none, Nat.reduceLT, Nat.reduceEqDiff, Nat.reduceAdd, Nat.reduceMul, decide_true, decide_false, true_and, and_true, if_true, if_false, Bool.false_eq_true, reduceIte, reduceCtorEq, Nat.add_zero, Nat.zero_add, Nat.succ_ne_zero, true_implies, implies_true, false_implies, Bool.cond_true_left, Bool.cond_false_right, Bool.not_eq_true', and_self, imp_self, Nat.reduceSub, Int.toNat_zero, Int.reduceToNat, Int.reduceNeg, Nat.one_mul, Nat.mul_one, Nat.zero_mul, Nat.mul_zero, ne_eq, Int.reduceEq, not_false_eq_true, not_true_eq_false, Bool.not_true, Bool.not_false, Int.reduceLE, Int.reduceLT, List.length_cons, List.length_nil, Int.reduceTMod, Int.reduceTDiv, Ex.then, Ex.inBlock, Ex.noGoto, Ex.jump, reduceIte, Nat.reduceEqDiff, reduceCtorEq, tk29, ez29, lz3, tk27, ez27, fo54_1, fo54_2, lz4]
    repeat refine AW.seq ?_
    refine AW.ret ?_
    try simp only [Ex.then, Ex.inBlock, Ex.noGoto, Ex.jump, reduceIte, Nat.reduceEqDiff, reduceCtorEq]
    refine Done.three rfl rfl rfl rfl Sub.nil (Sub.refl _) (Sub.refl _) ?_
    unfold fill
    rw [if_neg hc, hn]
    rfl
end Go.Proofs.Ythfdgicfcjkfgaa
