/- Own work. -/
import Derived.Test.YtkgfbpbndmklnaaDoorLibE
set_option linter.unusedSimpArgs false
set_option linter.unusedVariables false
namespace Go.Abs
open Go.RowKit
section
variable {P : Program} {N : Nat} {ops : Array Oper} {env : Env} {h : Hp}
end
section
variable {P : Program} {N : Nat} {ops : Array Oper} {env : Env} {h h' : Hp} {φ : Nat → Option Nat} {X : Ctx} {ι : Nat → Bk} {w : World}
theorem RStep.make {o : Oper} {t e : TypeId} {k bytes : Nat} {z : List Value} {x y : Operand} (ho : o.op = .makeSlice t x y) (r : Nat) (hr : h.at r = none) (E : Elem P t e k bytes z) {kx ky : IntKind} {l c : Int} (hx : rdo env x = .int kx l) (hy : rdo env y = .int ky c) (h0 : 0 ≤ l) (hlc : l ≤ c) (hb : (bytes : Int) * c ≤ 281474976710656) (h63 : c ≤ 9223372036854775807) :
  RStep P o env h r ⟨0, true, e, k, Y3r z l.toNat⟩ (.rsl r 0 0 l.toNat) := by
 intro X a w ι Q next H hop hn
 obtain ⟨i, zu, hi, hisz, hiby, hiz, hzu⟩ := E.info
 have hxv := hop x (by simp [ho, Op.operands])
 have hyv := hop y (by simp [ho, Op.operands])
 rw [hx, Y2l] at hxv
 rw [hy, Y2l] at hyv
 have hzs : zu.cells.size = k := by rw [← E.zlen, ← hzu]; simp
 have hr1 := run_make (P := P) w t e i zu (Y4x E.sle) hi hiz kx ky l c h0 hlc (by rw [hiby]; exact hb) h63
 rw [hisz] at hr1
 have hal : (madeCells zu.cells (c.toNat * k)).toList = (List.replicate c.toNat z).flatten := by
  unfold madeCells
  rw [zeros_eq zu.cells k c.toNat hzs E.pos, hzu]
 have htk : (madeCells zu.cells (c.toNat * k)).toList.take (Y3r z l.toNat).length = (List.replicate l.toNat z).flatten := by
  have h1 : (Y3r z l.toNat).length = ((List.replicate l.toNat z).flatten).length := by simp [Y3r]
  rw [hal, h1]
  have h2 : List.replicate c.toNat z = List.replicate l.toNat z ++ List.replicate (c.toNat - l.toNat) z := by rw [List.replicate_append_replicate]; congr 1; omega
  rw [h2, X17]
  exact List.take_left
 obtain ⟨H', K'⟩ := H.alloc r hr e k c.toNat (Y3r z l.toNat) (madeCells zu.cells (c.toNat * k)) (size_madeCells _ _) (by simp only [maxLen]; omega) (by rw [htk]; exact VRL.vals _) (by
  rw [htk]
  intro u hu
  obtain ⟨y, hy, huy⟩ := List.mem_flatten.1 hu
  rw [List.eq_of_mem_replicate hy] at huy
  exact Xa.1 E.one u huy)
 have hrun : (execOp a.eval o).run P w = .ok (.value (.slice (some ⟨w.heap.size, 0, none⟩) l.toNat c.toNat)) (w.alloc (.cells (madeCells zu.cells (c.toNat * k)) e)) := by
  simp only [execOp, ho, X6, hxv, hyv, hr1, Xi, Xz]
 simp only [Oper.wp, hrun, Oper.upon]
 refine hn _ _ _ H' K' (VR.newrsl (rt := ⟨0, true, e, k, _⟩) ?_)
 exact ⟨_, _, rfl, by omega, .inr ⟨w.heap.size, rfl, .inl ⟨rfl, by simp⟩⟩⟩
end
section
variable {P : Program} {N : Nat} {ops : Array Oper} {env : Env} {h : Hp}
end
end Go.Abs
