/-
  Own work. What slices.Grow does with a nil slice: its capacity, a part of it, an append of a count.
-/
import Derived.Test.YtlhpkjgpcenfdaaDoorGen10
set_option linter.unusedSimpArgs false
set_option linter.unusedVariables false
set_option linter.unusedSimpArgs false
set_option linter.unusedVariables false
namespace Go.Abs
open Go.RowKit
section
variable {P : Program} {N : Nat} {ops : Array Oper} {env : Env} {h : Hp}
theorem Quiet.capNil {o : Oper} {t : TypeId} {x : Operand} (ho : o.op = .call ⟨.builtin .cap, #[x], #[t]⟩) (ht : tk P t = 1) (hg : gpo ops env o (gd (rdo env x) ∧ st (rdo env x) = .im (.val (.slice none 0 0)))) :
    Quiet P ops o env h (gav ops env o (.int .i64 0)) :=
  Quiet.guarded hg fun ⟨hgd, hsl⟩ X a w ι Q H hop next hn => by
    have hv := (hop x (by simp [ho, Op.operands, Call.operands])).st hgd
    rw [hsl, VR.val_iff] at hv
    obtain ⟨e, he⟩ := tk_slice ht
    have hex : (execOp a.eval o).run P w = .ok (.value (.int .i64 0)) w := by
      simp [execOp, ho, resolve, invoke, builtin, Builtin.cap_, hv, run_underlying he, goInt, Sem.run_bind]
    simp only [Oper.wp, hex, Oper.upon]
    exact hn _ _ (Below.refl _ _) (by simp [VR, VRI])
theorem Quiet.sliceNil {o : Oper} {t : TypeId} {x y : Operand} (ho : o.op = .slice t x none (some y) none) (ht : tk P t = 1) (hi : (ez P t).isSome = true)
    (hg : gpo ops env o (gd (rdo env x) ∧ st (rdo env x) = .im (.val (.slice none 0 0)) ∧ gd (rdo env y) ∧ st (rdo env y) = .int .i64 0)) :
    Quiet P ops o env h (gav ops env o (.im (.val (.slice none 0 0)))) :=
  Quiet.guarded hg fun ⟨hgd, hsl, hgy, hy⟩ X a w ι Q H hop next hn => by
    have hv := (hop x (by simp [ho, Op.operands])).st hgd
    have hw := (hop y (by simp [ho, Op.operands])).st hgy
    rw [hsl, VR.val_iff] at hv
    rw [hy, VR.int_iff] at hw
    obtain ⟨k, hk⟩ := Option.isSome_iff_exists.1 hi
    obtain ⟨e, i, he, hi, hs⟩ := ez_slice ht hk
    have hex : (execOp a.eval o).run P w = .ok (.value (.slice none 0 0)) w := by
      simp [execOp, ho, Instr.sliceAt, Instr.slice, Instr.sliceBounds, Instr.sliceBound, asIntOf, hv, hw, run_underlying he, sizeOf, typeInfo, hi, Sem.run_bind]
    simp only [Oper.wp, hex, Oper.upon]
    exact hn _ _ (Below.refl _ _) (by simp [VR, VRI])
theorem run_append_count (w : World) {t u ty e : TypeId} {i : TypeInfo} {z : Value} (ht : P.underlying t = some (.slice e)) (hu : P.underlying u = some (.int .i64)) (hi : P.info? e = some i) (hz : i.zero = some z)
    (n : Int) (h0 : 0 < n) (h63 : n ≤ 9223372036854775807) (hb : n * i.bytes ≤ 281474976710656) (hfit : Builtin.nextslicecap n.toNat 0 * i.bytes ≤ 281474976710656) (hsz : 0 < i.size) :
    (Builtin.append_ #[t, u] ty #[.slice none 0 0, .int .i64 n]).run P w =
      .ok (.slice (some ⟨w.heap.size, 0, none⟩) n.toNat (grownCap w n.toNat 0 e))
        (w.drew.alloc (.cells (Builtin.zeroCells z.cells n.toNat ++ Builtin.zeroCells z.cells (grownCap w n.toNat 0 e - n.toNat)) e)) := by
  have hw : IntKind.wrap .i64 n = n := IntWalk.i64_in n ⟨by omega, h63⟩
  have h1 : ¬ (n < 0) := by omega
  have h2 : ¬ (281474976710656 < n * i.bytes) := by omega
  have h3 : ¬ (n.toNat = 0) := by omega
  have h4 : ¬ (n ≤ 0) := by omega
  have h5 : ¬ (9223372036854775807 < n) := by omega
  have h6 : ¬ (281474976710656 < Builtin.nextslicecap n.toNat 0 * i.bytes) := by omega
  have h7 : ¬ (9223372036854775807 < ((n.toNat : Nat) : Int)) := by omega
  have h8 : ¬ (i.size = 0) := by omega
  have h9 : ¬ (9223372036854775807 < max n 0) := by omega
  have hfc : (Builtin.firstCells i.size 0 (.slice none 0 0)).run P w.drew = .ok #[] w.drew := by simp [Builtin.firstCells]
  simp [Builtin.append_, run_underlying ht, run_underlying hu, sizeOf, typeInfo, zeroValue, hi, hz, asInt, asIntOf, hw, h1, h2, h3, h4, h5, h6, h7, h8, h9, Question.forced, hfc, newRow, grownCap]
  intro hz0
  exact absurd hz0 (Nat.ne_of_gt (Nat.mul_pos (by omega) hsz))
/-- append of a count of zeros to a nil slice; what lies in the new block is not told. -/
theorem OpsW.growNil {o : Oper} {rest : List Oper} {K : Env → Hp → Prop} {t u e : TypeId} {k bytes : Nat} {z : List Value} {x y : Operand} {n : Int} (ho : o.op = .call ⟨.builtin .append, #[x, y], #[t, u]⟩) (hgu : o.guard = none) (hd : o.dst.all (· < N) = true)
    (r : Nat) (hr : h.at r = none) (E : Elem P t e k bytes z) (hu : P.underlying u = some (.int .i64)) (hx : rdo env x = .im (.val (.slice none 0 0))) (hy : rdo env y = .int .i64 n) (h0 : 0 < n) (hrm : room bytes n.toNat)
    (hw : OpsW P N ops rest (setd env o.dst (.rsl r 0 0 n.toNat)) ((r, ⟨0, true, e, k, []⟩) :: h) K) : OpsW P N ops (o :: rest) env h K := by
  refine OpsW.root hgu hd r _ _ ?_ hw
  intro X a w ι Q next H hop hn
  obtain ⟨i, zu, hi, hisz, hiby, hiz, hzu⟩ := E.info
  have hxv := hop x
  have hyv := hop y
  rw [hx, VR.val_iff] at hxv
  rw [hy, VR.int_iff] at hyv
  have hzs : zu.cells.size = k := by rw [← E.zlen, ← hzu]; simp
  have hpos := E.pos
  obtain ⟨hr1, hr2⟩ := hrm
  have hb : n * i.bytes ≤ 281474976710656 := by
    have h2 : ((n.toNat * bytes : Nat) : Int) ≤ 281474976710656 := by omega
    rw [Int.natCast_mul, Int.toNat_of_nonneg (by omega)] at h2
    rw [hiby]
    exact h2
  have hfit : Builtin.nextslicecap n.toNat 0 * i.bytes ≤ 281474976710656 := growslice_fits (by omega) (by rw [hiby]; exact hr1)
  have hrun := run_append_count (P := P) w (ty := o.type) (sle_some E.sle) hu hi hiz n h0 (by omega) hb hfit (by rw [hisz]; exact hpos)
  have hge := grownCap_ge w n.toNat 0 e
  have hcap : grownCap w n.toNat 0 e ≤ maxLen := grownCap_le_maxLen w _ _ _ (by simp only [maxLen]; omega)
  have hb0 : Below w.heap.size w w.drew := ⟨rfl, rfl, rfl, Nat.le_refl _, fun _ _ => rfl⟩
  obtain ⟨H', K'⟩ := (H.below hb0).alloc r hr e k (grownCap w n.toNat 0 e) [] (Builtin.zeroCells zu.cells n.toNat ++ Builtin.zeroCells zu.cells (grownCap w n.toNat 0 e - n.toNat))
    (by rw [Array.size_append, size_zeroCells, size_zeroCells, hzs, ← Nat.add_mul]; congr 1; omega) hcap (by simp [VRL]) (by simp)
  have hex : (execOp a.eval o).run P w = .ok (.value (.slice (some ⟨w.heap.size, 0, none⟩) n.toNat (grownCap w n.toNat 0 e))) (w.drew.alloc (.cells (Builtin.zeroCells zu.cells n.toNat ++ Builtin.zeroCells zu.cells (grownCap w n.toNat 0 e - n.toNat)) e)) := by
    simp only [execOp, ho, resolve, invoke, builtin, Sem.run_bind, Sem.run_pure, Result.andThen_ok, List.map_toArray, List.map_cons, List.map_nil, hxv, hyv, hrun]
  simp only [Oper.wp, hex, Oper.upon]
  refine hn _ _ _ H' ⟨K'.blk, K'.hp⟩ (VR.newrsl (rt := ⟨0, true, e, k, _⟩) ?_)
  exact ⟨_, _, rfl, hge, .inr ⟨w.heap.size, rfl, .inl ⟨rfl, by simp⟩⟩⟩
end
end Go.Abs
