/-
  Own work. note.following and note.After: a range over a function, walked at the kit's own level; numbers of functions and types as of this seat.
-/
import Derived.RangeFuncBox
import Derived.RangeFuncNested
import Derived.Deep.Onto
import Derived.RangeFuncLeaves
import Derived.Shelf.Abstract
import Derived.WalkKit
import Derived.OwnWalkIn
import Derived.TacticsInMore
import Derived.LoopNIn
import Derived.LoopIn
import Derived.Maps.AppendAt
import Derived.Test.YtdegmbjhedfffaaDoorGen10
import Derived.Test.YtdegmbjhedfffaaDoorChecked
set_option linter.unusedSimpArgs false
set_option linter.unusedVariables false
namespace Go.Proofs.YtdegmbjhedfffaaDoor
open Go.RowKit Go.Shelf

attribute [local go_sem] Oper.semAt_some
/-- How many notes follow the block i. -/
def run (ks : List Int) (i : Nat) : Nat := ((ks.drop (i + 1)).takeWhile fun k => decide (k = 4)).length
def upto (f : Nat → Int) (k : Nat) : List Int := (List.range k).map f
theorem upto_succ (f : Nat → Int) (k : Nat) : upto f (k + 1) = upto f k ++ [f k] := by simp [upto, List.range_succ]
theorem upto_length (f : Nat → Int) (k : Nat) : (upto f k).length = k := by simp [upto]
theorem run_le (ks : List Int) (i : Nat) : i + 1 + run ks i ≤ ks.length ∨ run ks i = 0 := by
  unfold run
  have h : ((ks.drop (i + 1)).takeWhile fun k => decide (k = 4)).length ≤ (ks.drop (i + 1)).length := by
    have e : (ks.drop (i + 1)).takeWhile (fun k => decide (k = 4)) ++ (ks.drop (i + 1)).dropWhile (fun k => decide (k = 4)) = ks.drop (i + 1) := List.takeWhile_append_dropWhile
    have := congrArg List.length e
    rw [List.length_append] at this
    omega
  rw [List.length_drop] at h
  omega
theorem run_at (ks : List Int) (i k : Nat) (hk : k < run ks i) : i + 1 + k < ks.length ∧ ks[i + 1 + k]?.getD 0 = 4 := by
  have hle := run_le ks i
  refine ⟨by omega, ?_⟩
  unfold run at hk
  generalize hl : (ks.drop (i + 1)).takeWhile (fun k => decide (k = 4)) = l at hk
  have h1 : l[k]? = (ks.drop (i + 1))[k]? := by
    have e : l ++ (ks.drop (i + 1)).dropWhile (fun k => decide (k = 4)) = ks.drop (i + 1) := by rw [← hl]; exact List.takeWhile_append_dropWhile
    rw [← e, List.getElem?_append_left hk]
  have h2 : l.all (fun k => decide (k = 4)) = true := by rw [← hl]; exact List.all_takeWhile
  have h3 := List.all_eq_true.1 h2 l[k] (List.getElem_mem hk)
  rw [List.getElem?_drop] at h1
  rw [← h1, List.getElem?_eq_getElem hk]
  simpa using h3
theorem run_end (ks : List Int) (i : Nat) (h : i + 1 + run ks i < ks.length) : ks[i + 1 + run ks i]?.getD 0 ≠ 4 := by
  have h2 := List.head?_dropWhile_not (p := fun k : Int => decide (k = 4)) (l := ks.drop (i + 1))
  have e : (ks.drop (i + 1)).takeWhile (fun k => decide (k = 4)) ++ (ks.drop (i + 1)).dropWhile (fun k => decide (k = 4)) = ks.drop (i + 1) := List.takeWhile_append_dropWhile
  have h3 : ((ks.drop (i + 1)).dropWhile (fun k => decide (k = 4))).head? = ks[i + 1 + run ks i]? := by
    have : ks[i + 1 + run ks i]? = (ks.drop (i + 1))[((ks.drop (i + 1)).takeWhile fun k => decide (k = 4)).length]? := by rw [List.getElem?_drop]; rfl
    rw [this]
    generalize ks.drop (i + 1) = d at e
    have e2 : ∀ m : Nat, d[m]? = (d.takeWhile (fun k => decide (k = 4)) ++ d.dropWhile (fun k => decide (k = 4)))[m]? := fun m => by rw [e]
    rw [e2, List.getElem?_append_right (Nat.le_refl _), Nat.sub_self, List.head?_eq_getElem?]
  rw [h3, List.getElem?_eq_getElem h] at h2
  rw [List.getElem?_eq_getElem h]
  simpa using h2

/-- What a round must keep: what lay below n₀, and the box Bs. -/
def KpS (n₀ Bs : Nat) (A B : World) : Prop := Below n₀ A B ∧ ∀ o : Obj, A.heap[Bs]? = some o → o.isCells = true → B.heap[Bs]? = some o
theorem KpS.refl (n₀ Bs : Nat) (A : World) : KpS n₀ Bs A A := ⟨Below.refl _ _, fun _ h _ => h⟩
theorem KpS.trans {n₀ Bs : Nat} {A B C : World} (h : KpS n₀ Bs A B) (k : KpS n₀ Bs B C) : KpS n₀ Bs A C := ⟨h.1.trans k.1, fun o ho hc => k.2 o (h.2 o ho hc) hc⟩
set_option maxRecDepth 100000 in
set_option maxHeartbeats 2000000 in
/-- The iterator: for every loop body that keeps what lay below n₀. -/
theorem foll1_in (F : Fence) (n : Nat) (h33 : F.fn 33) (hro : F.round = none) (hn : 1 ≤ n) (l Bi Bs n₀ : Nat) (ad : Addr) (cap i : Nat) (ks : List Int) (hi : i < ks.length) (hlen : ks.length ≤ 100000000000) (hb : ad.block < n₀) (J Jx : List Int → World → Prop)
    (hY : ∀ pre x W, J pre W → pre.length < run ks i → YieldAt F (n - 1) Tryd.prog l #[.int .i64 x] W fun e W' =>
      (e = .returned (.bool true) ∧ J (pre ++ [x]) W' ∧ KpS n₀ Bs W W') ∨ (e = .returned (.bool false) ∧ Jx (pre ++ [x]) W'))
    (W : World) (hci : W.cell? ⟨Bi, 0, none⟩ = some (.int .i64 (i : Int))) (hcs : Boxed W Bs 23 (.slice (some ad) ks.length cap)) (hc : ∀ j, j < ks.length → W.cell? (ad.add j) = some (.int .i64 (ks[j]?.getD 0))) (h0 : J [] W) :
    CallsIn F n Tryd.prog 33 #[.func (.yield l) #[] #[], .pointer (some ⟨Bi, 0, none⟩), .pointer (some ⟨Bs, 0, none⟩)] W fun e W' => (∃ v, e = .returned v) ∧
      ((∃ ys, ys = upto (fun j : Nat => (i : Int) + 1 + (j : Int)) (run ks i) ∧ J ys W') ∨ (∃ pre, (∃ k, k ≤ run ks i ∧ pre = upto (fun j : Nat => (i : Int) + 1 + (j : Int)) k) ∧ Jx pre W')) := by
  refine callsIn_of_wp Tryd.func33 rfl h33 ?_ hro
  simp only [Tryd.ntmps33, List.size_toArray, List.length_cons, List.length_nil, Nat.reduceAdd, Nat.reduceSub, Array.replicate_succ, Array.replicate_zero, List.push_toArray, List.append_toArray, List.nil_append, List.cons_append]
  gi_wp2
  gi_loopw [4] (fun t wr => ∃ k : Nat, k ≤ run ks i ∧ t = .int .i64 ((i : Int) + 1 + (k : Int)) ∧ J (upto (fun j : Nat => (i : Int) + 1 + (j : Int)) k) wr ∧ KpS n₀ Bs W wr)
    (fun t _ => ks.length - (intOf t).toNat)
  case atStart => exact ⟨0, Nat.zero_le _, by simp, h0, KpS.refl _ _ _⟩
  case round =>
    obtain ⟨k, hk, rfl, hJs, hnx⟩ := hrel
    have hcs' := (show Boxed wr Bs 23 (.slice (some ad) ks.length cap) from hnx.2 _ hcs rfl).cell
    have hcx : ∀ j, j < ks.length → wr.cell? (ad.add j) = some (.int .i64 (ks[j]?.getD 0)) := fun j h => (hnx.1.cell (p := ad.add j) (by rw [Go.Abs.add_block]; exact hb)).trans (hc j h)
    by_cases hlt : k < run ks i
    · obtain ⟨h1, h4⟩ := run_at ks i k hlt
      obtain ⟨fn, tmps, assign, body, hy, hR⟩ := hY _ ((i : Int) + 1 + (k : Int)) wr hJs (by rw [upto_length]; exact hlt)
      have hcx' := hcx _ h1
      rw [h4] at hcx'
      clear hcx hc
      gi_wp2
      refine hR.mono ?_
      rintro e W3 (⟨rfl, hJ3, hk3⟩ | ⟨rfl, hJx3⟩)
      · gi_wp2
        go_roundw
        case rel => exact ⟨k + 1, by omega, by simp; omega, by rw [upto_succ]; exact hJ3, hnx.trans hk3⟩
        case measure => simp [intOf]; omega
      · gi_wp2
        refine bodyPost_ret (results_none rfl _ _ _) rfl ?_
        exact ⟨⟨_, rfl⟩, .inr ⟨_, ⟨k + 1, by omega, (upto_succ _ _).symm⟩, hJx3⟩⟩
    · obtain rfl : k = run ks i := by omega
      clear hc
      by_cases he : i + 1 + run ks i < ks.length
      · have hne := run_end ks i he
        have hcx' := hcx _ he
        generalize ks[i + 1 + run ks i]?.getD 0 = z at hcx' hne
        clear hcx
        gi_wp2
        go_end0
        first | exact ⟨⟨_, rfl⟩, .inl ⟨_, rfl, hJs⟩⟩ | exact ⟨⟨_, rfl⟩, .inl hJs⟩
      · clear hcx
        gi_wp2
        go_end0
        first | exact ⟨⟨_, rfl⟩, .inl ⟨_, rfl, hJs⟩⟩ | exact ⟨⟨_, rfl⟩, .inl hJs⟩
set_option maxHeartbeats 1000000 in
/-- The function value. -/
theorem foll_in (F : Fence) (n : Nat) (h22 : F.fn 22) (hro : F.round = none) (a : Option Addr) (len cap : Nat) (i : Int) (w : World) :
    CallsIn F n Tryd.prog 22 #[.slice a len cap, .int .i64 i] w fun e w' => e = .returned (.func (.func 33) #[] #[.pointer (some ⟨w.heap.size + 1, 0, none⟩), .pointer (some ⟨w.heap.size, 0, none⟩)]) ∧ w' = (w.alloc (.cells #[.slice a len cap] 23)).alloc (.cells #[.int .i64 i] 3) := by
  refine callsIn_of_wp Tryd.func22 rfl h22 ?_ hro
  simp only [Tryd.ntmps22, List.size_toArray, List.length_cons, List.length_nil, Nat.reduceAdd, Nat.reduceSub, Array.replicate_succ, Array.replicate_zero, List.push_toArray, List.append_toArray, List.nil_append, List.cons_append]
  gi_wp2
  go_ret
  exact ⟨by simp, rfl⟩
theorem foll_stops (F : Fence) (n : Nat) (h33 : F.fn 33) (hro : F.round = none) (hn : 1 ≤ n) (Bi Bs n₀ : Nat) (ad : Addr) (cap i : Nat) (ks : List Int) (hi : i < ks.length) (hlen : ks.length ≤ 100000000000) (hb : ad.block < n₀) (w : World) (hn₀ : n₀ ≤ w.heap.size)
    (hci : Boxed w Bi 3 (.int .i64 (i : Int))) (hcs : Boxed w Bs 23 (.slice (some ad) ks.length cap)) (hc : ∀ j, j < ks.length → w.cell? (ad.add j) = some (.int .i64 (ks[j]?.getD 0))) :
    SeqStopsK F n Tryd.prog 33 #[.pointer (some ⟨Bi, 0, none⟩), .pointer (some ⟨Bs, 0, none⟩)] (fun x : Int => #[Value.int .i64 x]) (KpS n₀ Bs) (fun ys => ys = upto (fun j : Nat => (i : Int) + 1 + (j : Int)) (run ks i)) (fun pre => ∃ k, k ≤ run ks i ∧ pre = upto (fun j : Nat => (i : Int) + 1 + (j : Int)) k) (run ks i) w := fun l J Jx W hW _ _ hY h0 =>
  foll1_in F n h33 hro hn l Bi Bs n₀ ad cap i ks hi hlen hb J Jx hY W ((hW.cell (p := ⟨Bi, 0, none⟩) hci.lt).trans hci.cell) ((hW.block Bs hcs.lt).trans hcs) (fun j hj => (hW.cell (p := ad.add j) (by rw [Go.Abs.add_block]; omega)).trans (hc j hj)) h0
theorem info3 : (Tryd.prog.info? 3).map (fun i => (i.zero, i.size, i.bytes)) = some (some (.int .i64 0), 1, 8) := by kernel_rfl
/-- How many notes there are among the first k. -/
def cnt (ks : List Int) (k : Nat) : Nat := ((ks.take k).filter fun x => decide (x = 4)).length
theorem cnt_succ (ks : List Int) (k : Nat) (hk : k < ks.length) : cnt ks (k + 1) = cnt ks k + if ks[k]?.getD 0 = 4 then 1 else 0 := by
  unfold cnt
  rw [List.take_add_one, List.getElem?_eq_getElem hk, List.filter_append, List.length_append]
  simp only [Option.toList, Option.getD_some, List.filter_cons, List.filter_nil]
  by_cases h : ks[k] = 4 <;> simp [h]
theorem cnt_le (ks : List Int) (k : Nat) : cnt ks k ≤ k := by
  unfold cnt
  have h1 := List.length_filter_le (fun x : Int => decide (x = 4)) (ks.take k)
  have h2 := List.length_take_le k ks
  omega
theorem appended2 {W w1 : World} {n₁ B : Nat} {t e : TypeId} {size : Nat} {v v' : Value} {k m : Nat} {xs ys : List Value} {tmp : Obj}
    (hv : Boxed W B t v) (hrow : W.ownsRow n₁ e size v k xs) (hB : B < n₁) (hown' : w1.ownsRow n₁ e size v' m ys) (hgrow : (W.alloc tmp).grownBy w1 v.ownBlock) :
    Boxed w1 B t v ∧ Boxed (w1.setCell ⟨B, 0, none⟩ v') B t v' ∧ (w1.setCell ⟨B, 0, none⟩ v').ownsRow n₁ e size v' m ys ∧ KeepsOthers W (w1.setCell ⟨B, 0, none⟩ v') ∧
      (∀ b, b < n₁ → b < W.heap.size → b ≠ B → (w1.setCell ⟨B, 0, none⟩ v').heap[b]? = W.heap[b]?) ∧ W.grownBy (W.alloc tmp) none ∧ (W.alloc tmp).heap.size ≤ w1.heap.size := by
  have hl := hrow.lt
  have hl' := hown'.lt
  have hv1 : Boxed w1 B t v := (hv.alloc tmp).kept hgrow (fun e' => by have := (hl B e'.symm).1; omega)
  refine ⟨hv1, hv1.set v', hown'.kept (grownBy_setCell' w1 B v') (.inr fun e' => by have := (hl' B e').1; omega), ?_, ?_, World.grownBy_alloc _ _ _, hgrow.size⟩
  · refine ((KeepsOthers.alloc W tmp).trans (KeepsOthers.of_grownBy hgrow fun j o ej hj => ?_)).trans (KeepsOthers.setCell _ _ _)
    rcases (hrow.alloc tmp).2 with ⟨rfl, _⟩ | ⟨g, cap, cur, rfl, _, hgb, _⟩
    · simp [Value.ownBlock] at ej
    · obtain rfl : g = j := by simpa [Value.ownBlock] using ej
      rw [hgb] at hj; cases hj; rfl
  · intro b hb hbl hne
    rw [Below.heap_setCell _ _ _ b hne, hgrow.block b (by simp; omega) (fun e' => by have := (hl b e'.symm).1; omega), Below.heap_alloc _ _ _ hbl]
/-- The numbers that are given, when k rounds are over. -/
def nums (c k : Nat) : List Int := upto (fun j : Nat => ((c + 1 + j : Nat) : Int)) k
set_option maxRecDepth 100000 in
set_option maxHeartbeats 4000000 in
theorem After_in (F : Fence) (n : Nat) (h13 : F.fn 13) (h22 : F.fn 22) (h33 : F.fn 33) (hro : F.round = none) (hn : 3 ≤ n) (ad : Addr) (cap i : Nat) (ks : List Int) (hi : i < ks.length) (hi4 : ks[i]?.getD 0 ≠ 4) (hlen : ks.length ≤ 100000000) (w : World) (hb : ad.block < w.heap.size) (hcap : ks.length ≤ cap)
    (hc : ∀ j, j < ks.length → w.cell? (ad.add j) = some (.int .i64 (ks[j]?.getD 0))) :
    CallsIn F n Tryd.prog 13 #[.slice (some ad) ks.length cap, .int .i64 (i : Int)] w fun e W' => ∃ v, e = .returned v ∧ W'.ownsRow w.heap.size 3 1 v (run ks i) ((nums (cnt ks i) (run ks i)).map (Value.int .i64)) ∧ Below w.heap.size w W' := by
  have h1 : 1 ≤ n := by omega
  obtain ⟨i0, hi0, hz0, hz1, hz2⟩ := info_parts info3
  refine callsIn_of_wp_marks Tryd.func13 rfl h13 ?_ hro
  simp only [Tryd.ntmps13, List.size_toArray, List.length_cons, List.length_nil, Nat.reduceAdd, Nat.reduceSub, Array.replicate_succ, Array.replicate_zero, List.push_toArray, List.append_toArray, List.nil_append, List.cons_append]
  have hci := hc i hi
  generalize hz : ks[i]?.getD 0 = z at hci hi4
  have hz4 : (z == 4) = false := beq_eq_false_iff_ne.2 hi4
  have hc0 := hc
  clear hc
  gi_wp2
  rename_i hcond _ _
  gi_loopw [28] (fun t wr => ∃ k : Nat, k ≤ i ∧ t = .int .i64 (k : Int) ∧ Boxed wr w.heap.size 3 (.int .i64 (cnt ks k : Int)) ∧ wr.heap.size = w.heap.size + 1 ∧ Below w.heap.size w wr) (fun t _ => i - (intOf t).toNat)
  case atStart => exact ⟨0, Nat.zero_le _, rfl, by simpa [cnt] using Boxed.new w 3 (.int .i64 0), by simp, (Below.refl _ w).alloc (Nat.le_refl _) _⟩
  case round =>
    obtain ⟨k, hk, rfl, hbx, hsz, hB⟩ := hrel
    have hcb := hbx.cell
    have hfb := hbx.frozen
    have hcl := cnt_le ks k
    by_cases hlt : k < i
    · have hcx := (hB.cell (p := ad.add k) (by rw [Go.Abs.add_block]; exact hb)).trans (hc0 k (by omega))
      have hcs := cnt_succ ks k (by omega)
      clear hci hc0
      generalize ks[k]?.getD 0 = y at hcx hcs
      by_cases hy : y = 4
      · subst hy
        gi_wp2
        go_roundw
        case rel => exact ⟨k + 1, hlt, by simp, by rw [hcs]; simpa using hbx.set _, by simpa using hsz, hB.setCell (p := ⟨w.heap.size, 0, none⟩) (Nat.le_refl _) _⟩
        case measure => simp [intOf]; omega
      · have hy4 : (y == 4) = false := beq_eq_false_iff_ne.2 hy
        gi_wp2
        go_roundw
        case rel => exact ⟨k + 1, hlt, by simp, by rw [hcs, if_neg hy]; exact hbx, hsz, hB⟩
        case measure => simp [intOf]; omega
    · obtain rfl : k = i := by omega
      clear hci
      gi_wp2_with (gi_at_call 22; refine (foll_in F (n - 1) h22 hro _ _ _ _ _).mono ?_; rintro e w' ⟨rfl, rfl⟩)
      have hB0 : Below w.heap.size w (((wr.alloc (.cells #[.slice none 0 0] 23)).alloc (.cells #[.slice (some ad) ks.length cap] 23)).alloc (.cells #[.int .i64 k] 3)) := ((hB.alloc (by omega) _).alloc (by simp; omega) _).alloc (by simp; omega) _
      have b0 := ((hbx.alloc (.cells #[.slice none 0 0] 23)).alloc (.cells #[.slice (some ad) ks.length cap] 23)).alloc (.cells #[.int .i64 k] 3)
      have b1 := ((Boxed.new wr 23 (.slice none 0 0)).alloc (.cells #[.slice (some ad) ks.length cap] 23)).alloc (.cells #[.int .i64 k] 3)
      have b2 := (Boxed.new (wr.alloc (.cells #[.slice none 0 0] 23)) 23 (.slice (some ad) ks.length cap)).alloc (.cells #[.int .i64 k] 3)
      have b3 := Boxed.new ((wr.alloc (.cells #[.slice none 0 0] 23)).alloc (.cells #[.slice (some ad) ks.length cap] 23)) 3 (.int .i64 k)
      rw [hsz] at b1
      rw [World.size_alloc, hsz] at b2
      rw [World.size_alloc, World.size_alloc, hsz] at b3
      have hsz0 : (((wr.alloc (.cells #[.slice none 0 0] 23)).alloc (.cells #[.slice (some ad) ks.length cap] 23)).alloc (.cells #[.int .i64 k] 3)).heap.size = w.heap.size + 4 := by simp [hsz]
      generalize ((wr.alloc (.cells #[.slice none 0 0] 23)).alloc (.cells #[.slice (some ad) ks.length cap] 23)).alloc (.cells #[.int .i64 k] 3) = W0 at *
      have hrl : run ks k ≤ ks.length := by have := run_le ks k; omega
      have hcl := cnt_le ks k
      refine wpIn_rangeFunc_ownG hro h1 (gf := 33) (lb := #[.pointer (some ⟨w.heap.size + 1 + 1 + 1, 0, none⟩), .pointer (some ⟨w.heap.size + 1 + 1, 0, none⟩)]) rfl h33 (enters_of Tryd.func33 (by kernel_rfl) rfl)
        (foll_stops F (n - 1) h33 hro (by omega) (w.heap.size + 1 + 1 + 1) (w.heap.size + 1 + 1) w.heap.size ad cap k ks hi (by omega) hb W0 (by omega) b3 b2 (fun j hj => (hB0.cell (p := ad.add j) (by rw [Go.Abs.add_block]; exact hb)).trans (hc0 j hj)))
        (fun h k => h.trans k)
        (fun W l o o' hl ho hc hw => ⟨belowK_b (w := W0) (by omega) W l o o' hl ho hc hw, fun o2 h2 _ => by rw [World.putObj_heap_other (by omega)]; exact h2⟩) (Below.refl _ _) (fun _ => rfl)
        (fun pre W => (Boxed W w.heap.size 3 (.int .i64 ((cnt ks k : Int) + (pre.length : Int))) ∧ (∃ v, Boxed W (w.heap.size + 1) 23 v ∧ W.ownsRow (w.heap.size + 4) 3 1 v pre.length ((nums (cnt ks k) pre.length).map (Value.int .i64)) ∧ True) ∧ w.heap.size + 4 ≤ W.heap.size) ∧ Below w.heap.size w W)
        (fun _ _ _ => False)
        (OwnFrom.and (OwnFrom.and (Own.from (boxed_own _ _ _) _) (OwnFrom.and (Own.from (holdsRow_own (w.heap.size + 4) (w.heap.size + 1) 23 3 1 (fun pre : List Int => pre.length) (fun pre => (nums (cnt ks k) pre.length).map (Value.int .i64)) (fun _ _ => True)) _) (fun _ X Y _ hs hg _ => Nat.le_trans hs hg.size))) (ownFrom_below (Nat.le_refl _) (by omega)))
        (fun _ _ _ _ _ hs _ _ => hs)
        ⟨⟨by simpa using b0, ⟨_, b1, World.ownsRow_nil _ _ _ _, trivial⟩, by omega⟩, hB0⟩
        (fun x => { tmps := #[.slice (some ad) ks.length cap, .int .i64 k, undef, undef, .slice none 0 0, .pointer (some ⟨w.heap.size, 0, none⟩), undef, u7, .pointer (some ⟨w.heap.size + 1, 0, none⟩), .int .i64 k, .bool (decide ((k : Int) < 0)), .bool (decide ((k : Int) < 0)), .int .i64 k, .slice (some ad) ks.length cap, .int .i64 ks.length, .bool false, .bool (decide ((k : Int) < 0)), .bool (decide ((k : Int) < 0)), .slice (some ad) ks.length cap, .int .i64 k, .pointer (some (ad.add k)), .int .i64 z, .bool false, .bool (decide ((k : Int) < 0)), .slice (some ad) ks.length cap, .int .i64 k, .slice (some ad) k cap, .int .i64 k, .int .i64 k, .bool false, u30, u31, u32, u33, u34, u35, u36, .slice (some ad) ks.length cap, .int .i64 k, .func (.func 33) #[] #[.pointer (some ⟨w.heap.size + 1 + 1 + 1, 0, none⟩), .pointer (some ⟨w.heap.size + 1 + 1, 0, none⟩)], .int .i64 x, undef, undef, undef, undef, undef, undef, undef], defers := [] }) ?assign ?body ?done ?stop
      case assign =>
        intro l x W K hK
        gi_wp2
        exact hK
      case body =>
        rintro l pre x W ⟨⟨hn0, ⟨v, hv, hrow, _⟩, hW4⟩, hBW⟩ hltp
        have hcn := hn0.cell
        have hfn := hn0.frozen
        have hW1 := hn0.set (.int .i64 ((cnt ks k : Int) + (pre.length : Int) + 1))
        have hv1 := hv.kept (grownBy_setCell' W w.heap.size (.int .i64 ((cnt ks k : Int) + (pre.length : Int) + 1))) (by simp)
        have hr1 := hrow.kept (grownBy_setCell' W w.heap.size (.int .i64 ((cnt ks k : Int) + (pre.length : Int) + 1))) (.inr fun e => by have := (hrow.lt _ e).1; omega)
        have hcn1 := hW1.cell
        have hcv1 := hv1.cell
        have hns : nums (cnt ks k) (pre.length + 1) = nums (cnt ks k) pre.length ++ [(cnt ks k : Int) + (pre.length : Int) + 1] := by
          unfold nums; rw [upto_succ]; congr 2; omega
        have hone : ∀ j u, [Value.int .i64 ((cnt ks k : Int) + (pre.length : Int) + 1)][j]? = some u → ((W.setCell ⟨w.heap.size, 0, none⟩ (.int .i64 ((cnt ks k : Int) + (pre.length : Int) + 1))).alloc (.cells #[.int .i64 ((cnt ks k : Int) + (pre.length : Int) + 1)] 3)).cell? ((⟨W.heap.size, 0, none⟩ : Addr).add j) = some u := by
          have := cell_one_new (W.setCell ⟨w.heap.size, 0, none⟩ (.int .i64 ((cnt ks k : Int) + (pre.length : Int) + 1))) (.int .i64 ((cnt ks k : Int) + (pre.length : Int) + 1)) 3
          rwa [show (W.setCell ⟨w.heap.size, 0, none⟩ (.int .i64 ((cnt ks k : Int) + (pre.length : Int) + 1))).heap.size = W.heap.size from by simp] at this
        have hbd : w.heap.size + 4 ≤ W.heap.size := hW4
        have hbe : pre.length + 1 ≤ maxLen := by unfold maxLen; omega
        gi_wp2_with (gi_at_builtin; refine wpListIn_append_own _ rfl _ _ 23 rfl (w.heap.size + 4) 3 i0 (.int .i64 0) 1 8 Tryd.underlying23 hi0 hz0 hz1 hz2 rfl (by decide) _ _ _ rfl (hr1.alloc _) ⟨W.heap.size, 0, none⟩ 1 1 [.int .i64 ((cnt ks k : Int) + (pre.length : Int) + 1)] rfl rfl hone (by simp [Value.oneCell']) hbe (by omega) (by simp; omega) ?_; intro v' w1 hown' hgrow _; obtain ⟨g', cap', rfl⟩ := ownsRow_succ hown'; obtain ⟨hv2, hv3, hr2, hk2, hb2, _, hs2⟩ := appended2 hv1 hr1 (by omega) hown' hgrow; have hc1 := hv2.cell; have hf1 := hv2.frozen)
        have hBel : Below w.heap.size W (w1.setCell ⟨w.heap.size + 1, 0, none⟩ (.slice (some ⟨g', 0, none⟩) (pre.length + 1) cap')) :=
          (((((Below.refl _ W).setCell (p := ⟨w.heap.size, 0, none⟩) (Nat.le_refl _) _).alloc (by simp; omega) _).grown hgrow (by simp; omega) (fun q e => Nat.le_trans (Nat.le_add_right _ _) (hr1.lt q e).1)).setCell (p := ⟨w.heap.size + 1, 0, none⟩) (by simp) _)
        refine ⟨((KeepsOthers.setCell W _ _).trans hk2).from _, ⟨hBel, fun o h _ => (hb2 (w.heap.size + 1 + 1) (by omega) (by simp; omega) (by omega)).trans ((Below.heap_setCell _ _ _ _ (by simp; omega)).trans h)⟩, ⟨?_, ⟨_, hv3, ?_, trivial⟩, ?_⟩, hBW.trans hBel⟩
        · have := (hb2 w.heap.size (by omega) (by simp; omega) (by omega)).trans hW1
          rw [List.length_append, show (((pre.length + [x].length : Nat)) : Int) = (pre.length : Int) + 1 from rfl, ← Int.add_assoc]
          exact this
        · rw [List.length_append]
          simp only [List.length_cons, List.length_nil, Nat.zero_add]
          rw [hns, List.map_append]
          exact hr2
        · have := hBel.size; omega
      case done =>
        rintro D ys W hD rfl ⟨⟨hn0, ⟨v, hv, hrow, _⟩, _⟩, hBW⟩ hK
        have hc := hv.cell
        gi_wp2
        rw [upto_length] at hrow
        refine ⟨by simp, .inl ⟨_, _, rfl, run_takeDeferred hK, ?_⟩⟩
        exact ⟨_, results_tmp rfl _ _ _, v, rfl, (ownsRow_putObj hrow _ hK rfl).mono (by omega), hBW.trans (belowK_b (w := w) (Nat.le_refl _) W D _ _ (by omega) hK rfl rfl)⟩
      case stop =>
        rintro D c pre W _ _ h _
        exact h.elim
set_option maxHeartbeats 1000000 in
/-- The other way: no block, or a note. -/
theorem After0_in (F : Fence) (n : Nat) (h13 : F.fn 13) (hro : F.round = none) (a : Option Addr) (len cap : Nat) (i : Int) (w : World)
    (h : (i < 0 ∨ (len : Int) ≤ i) ∨ (0 ≤ i ∧ i < len ∧ ∃ ad, a = some ad ∧ w.cell? (ad.add i.toNat) = some (.int .i64 4))) :
    CallsIn F n Tryd.prog 13 #[.slice a len cap, .int .i64 i] w fun e W' => e = .returned (.slice none 0 0) ∧ W' = w := by
  refine callsIn_of_wp Tryd.func13 rfl h13 ?_ hro
  simp only [Tryd.ntmps13, List.size_toArray, List.length_cons, List.length_nil, Nat.reduceAdd, Nat.reduceSub, Array.replicate_succ, Array.replicate_zero, List.push_toArray, List.append_toArray, List.nil_append, List.cons_append]
  rcases h with h | ⟨h1, h2, ad, rfl, hc⟩
  · gi_wp2
    all_goals first | omega | (go_ret; done) | (go_ret; exact ⟨rfl, rfl⟩)
  · gi_wp2
    all_goals first | omega | (go_ret; done) | (go_ret; exact ⟨rfl, rfl⟩)

open Go.Abs in
def f_note_After (t0 : List Int) (t1 : Int) : Option (List Int) :=
  G (t0.length ≤ 1000) <| some (if 0 ≤ t1 ∧ t1 < t0.length ∧ t0[t1.toNat]?.getD 0 ≠ 4 then nums (cnt t0 t1.toNat) (run t0 t1.toNat) else [])
theorem VRIL.ints {w : World} {A : Nat → Prop} {k : IntKind} : ∀ {xs : List Int} {l : List Value}, Go.Abs.VRIL w A (xs.flatMap (Go.Abs.eI k)) l → l = xs.map (Value.int k)
  | [], l, h => by simpa [Go.Abs.VRIL] using h
  | x :: xs, l, h => by
    simp only [List.flatMap_cons, Go.Abs.eI, List.cons_append, List.nil_append, Go.Abs.VRIL, Go.Abs.VRI] at h
    obtain ⟨v, l', rfl, rfl, hr⟩ := h
    rw [VRIL.ints hr, List.map_cons]
theorem VRIL.ofInts {w : World} {A : Nat → Prop} {k : IntKind} : ∀ (xs : List Int), Go.Abs.VRIL w A (xs.flatMap (Go.Abs.eI k)) (xs.map (Value.int k))
  | [] => by simp [Go.Abs.VRIL]
  | x :: xs => by
    simp only [List.flatMap_cons, Go.Abs.eI, List.cons_append, List.nil_append, Go.Abs.VRIL, Go.Abs.VRI, List.map_cons]
    exact ⟨_, _, rfl, rfl, VRIL.ofInts xs⟩
open Go.Abs in
theorem f_note_After_ok {t0 : List Int} {t1 : Int} {r : List Int} (H : f_note_After t0 t1 = some r) : QSpec Tryd.prog 13 [.im (.sl (t0.flatMap (eI .i64)) t0.length), .int .i64 t1] (.im (.sl (r.flatMap (eI .i64)) r.length)) := by
  unfold f_note_After at H
  obtain ⟨hl, H⟩ := G_some H
  obtain rfl := Option.some.inj H
  intro w ι B vs HH hv
  simp only [VRL, VR, VRI] at hv
  obtain ⟨v, l, rfl, ⟨ao, cap, lv, rfl, hcap, hnone, hlie, hil⟩, v2, l2, rfl, rfl, rfl⟩ := hv
  obtain rfl := VRIL.ints hil
  have hnilr : ∀ (v : Value), v = .slice none 0 0 → VR w [] ι (Go.Abs.Own B [] ι) (.im (.sl (([] : List Int).flatMap (eI .i64)) ([] : List Int).length)) v := by
    rintro v rfl
    simp only [VR, VRI]
    exact ⟨none, 0, [], rfl, Nat.le_refl _, by simp, fun a ha => by simp at ha, by simp [VRIL]⟩
  by_cases h : 0 ≤ t1 ∧ t1 < t0.length ∧ t0[t1.toNat]?.getD 0 ≠ 4
  · rw [if_pos h]
    obtain ⟨h1, h2, h3⟩ := h
    obtain ⟨a, rfl⟩ : ∃ a, ao = some a := by
      cases ao with
      | none => have := (hnone rfl).1; omega
      | some a => exact ⟨a, rfl⟩
    have hli := hlie a rfl
    have hcell : ∀ j, j < t0.length → w.cell? (a.add j) = some (.int .i64 (t0[j]?.getD 0)) := fun j hj => (hli j _ (by rw [List.getElem?_map, List.getElem?_eq_getElem hj]; rfl)).1.trans (by rw [List.getElem?_eq_getElem hj]; rfl)
    have hblk : a.block < w.heap.size := by have := World.block_lt_of_cell? w _ (hcell t1.toNat (by omega)); rwa [add_block] at this
    have key := After_in Fence.wide 3 trivial trivial trivial rfl (by omega) a cap t1.toNat t0 (by omega) h3 (by omega) w hblk hcap hcell
    rw [Int.toNat_of_nonneg h1] at key
    refine (callsIn_wide.1 key).mono ?_
    rintro e w' ⟨v, rfl, hrow, hbel⟩
    have hlen : (nums (cnt t0 t1.toNat) (run t0 t1.toNat)).length = run t0 t1.toNat := by unfold nums; rw [upto_length]
    refine ⟨v, _, [], ι, rfl, rfl, HH.below hbel, ?_⟩
    simp only [VR, VRI]
    rcases hrow.2 with ⟨rfl, h0⟩ | ⟨g, cp, cur, rfl, hg, hgb, hnc, hcm, hcs, htk⟩
    · rw [h0] at hlen ⊢
      have e0 := List.length_eq_zero_iff.1 hlen
      rw [e0]
      exact ⟨none, 0, [], rfl, Nat.le_refl _, by simp, fun a ha => by simp at ha, by simp [VRIL]⟩
    · refine ⟨_, cp, _, by rw [hlen], by rw [hlen]; exact hnc, by simp, fun a ha => ?_, VRIL.ofInts _⟩
      obtain rfl := Option.some.inj ha
      intro j u hu
      have hj : ((⟨g, 0, none⟩ : Addr).add j) = ⟨g, j, none⟩ := by
        unfold Addr.add
        split
        · rename_i h; subst h; rfl
        · simp
      rw [hj]
      have hlt := (List.getElem?_eq_some_iff.1 hu).1
      rw [List.length_map, hlen] at hlt
      refine ⟨?_, ?_, ?_⟩
      · simp only [World.cell?, hgb]
        rw [← htk, List.getElem?_take, if_pos (by omega)] at hu
        simpa using hu
      · rintro (hB | ⟨r, rt, hr, _⟩)
        · have := (HH.old g hB).1
          simp only at this
          omega
        · simp [Hp.at] at hr
      · rw [List.getElem?_map] at hu
        obtain ⟨x, _, rfl⟩ := Option.map_eq_some_iff.1 hu
        rfl
  · rw [if_neg h]
    have key := After0_in Fence.wide 3 trivial rfl ao t0.length cap t1 w (by
      by_cases h1 : t1 < 0 ∨ (t0.length : Int) ≤ t1
      · exact .inl h1
      · refine .inr ⟨by omega, by omega, ?_⟩
        obtain ⟨a, rfl⟩ : ∃ a, ao = some a := by
          cases ao with
          | none => have := (hnone rfl).1; omega
          | some a => exact ⟨a, rfl⟩
        refine ⟨a, rfl, ?_⟩
        have h4 : t0[t1.toNat]?.getD 0 = 4 := by
          by_cases h4 : t0[t1.toNat]?.getD 0 = 4
          · exact h4
          · exact absurd ⟨by omega, by omega, h4⟩ h
        have hj : t1.toNat < t0.length := by omega
        have := (hlie a rfl t1.toNat _ (by rw [List.getElem?_map, List.getElem?_eq_getElem hj]; rfl)).1
        rw [List.getElem?_eq_getElem hj] at h4
        simp only [Option.getD_some] at h4
        rw [this, h4])
    refine (callsIn_wide.1 key).mono ?_
    rintro e w' ⟨rfl, rfl⟩
    exact ⟨_, _, [], ι, rfl, rfl, HH, hnilr _ rfl⟩
end Go.Proofs.YtdegmbjhedfffaaDoor
