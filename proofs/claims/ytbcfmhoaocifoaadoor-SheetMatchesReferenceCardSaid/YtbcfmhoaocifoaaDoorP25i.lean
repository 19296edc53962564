/-
  Own work. Chapter 25, plain part: descriptions; the laws SheetReads and SheetMatchesReference.
-/
import Derived.Test.YtbcfmhoaocifoaaDoorP25h
import Derived.Test.YtbcfmhoaocifoaaDoorSh
set_option linter.unusedSimpArgs false
set_option linter.unusedVariables false
set_option maxRecDepth 10000
set_option linter.unusedSimpArgs false
set_option linter.unusedVariables false
namespace Go.Proofs.YtbcfmhoaocifoaaDoor
open Go.Abs
def fW (x : S_Raw) : Nat := 24 + x.W.toNat % 7
def fH (x : S_Raw) : Nat := 4 + x.H.toNat % 5
theorem fW_in (x : S_Raw) : 24 ≤ fW x ∧ fW x ≤ 30 := by unfold fW; omega
theorem fH_in (x : S_Raw) : 4 ≤ fH x ∧ fH x ≤ 8 := by unfold fH; omega
theorem r_format {x : S_Raw} (k : okS_Raw x) : f_R25_Format x = some ⟨(fW x : Int), (fH x : Int), 1⟩ := by
  obtain ⟨⟨a, b⟩, ⟨c, d⟩, _⟩ := k
  have e1 : Int.tmod x.W 7 = ((x.W.toNat % 7 : Nat) : Int) := by rw [Int.tmod_eq_emod_of_nonneg a]; omega
  have e2 : Int.tmod x.H 5 = ((x.H.toNat % 5 : Nat) : Int) := by rw [Int.tmod_eq_emod_of_nonneg c]; omega
  unfold f_R25_Format
  rw [e1, e2, wrap_i64 (by omega), wrap_i64 (by omega), G_inR (by omega), G_inR (by omega), show (24 : Int) + ((x.W.toNat % 7 : Nat) : Int) = (fW x : Int) by unfold fW; omega, show (4 : Int) + ((x.H.toNat % 5 : Nat) : Int) = (fH x : Int) by unfold fH; omega]
theorem linesP_line (l : List (List Int)) (w h i : Nat) : (linesP l w h).getD i [] = if i < min l.length h then trim z0 (cellsP (l.getD i []) w) else [] := by
  unfold linesP
  rw [trim_getD zE_iff]
  by_cases e : i < min l.length h
  · rw [row_get _ _ _ _ e, if_pos e]
  · rw [row_get0 _ _ _ _ (by omega), if_neg e]
theorem linesP_len (l : List (List Int)) (w h : Nat) : (linesP l w h).length ≤ min l.length h := by
  have := lend_le zE (row (min l.length h) fun i => trim z0 (cellsP (l.getD i []) w))
  rw [row_len] at this
  rw [linesP, trim_len]
  exact this
theorem cellsP_len (l : List Int) (w : Nat) : (trim z0 (cellsP l w)).length ≤ w := by
  have := lend_le z0 (cellsP l w)
  rw [trim_len]
  rw [cellsP, row_len] at this
  rw [cellsP]
  omega
theorem linesP_fits (l : List (List Int)) (w h : Nat) : fitsP (linesP l w h) (w : Int) (h : Int) := by
  have hl := linesP_len l w h
  refine ⟨by omega, fun i hi => ?_, trim_can _ _ _⟩
  rw [linesP_line, if_pos (by omega)]
  refine ⟨by have := cellsP_len (l.getD i []) w; omega, trim_can _ _ _, fun k hk => ?_⟩
  rw [trim_getD z0_iff]
  have hm : ∀ n : Int, Int.tmod n 64 < 64 := fun n => Int.tmod_lt_of_pos n (by omega)
  unfold cellsP
  by_cases e : k < min (l.getD i []).length w
  · rw [row_get _ _ _ _ e]
    exact hm _
  · rw [row_get0 _ _ _ _ (by omega)]
    omega
theorem fits_short {p : List (List Int)} {w h : Int} (f : fitsP p w h) (hw : w < 900000) (hh : h < 900000) : shortP p := by
  refine ⟨by have := f.1; omega, fun i => ?_⟩
  by_cases hi : i < p.length
  · have := (f.2.1 i hi).1
    omega
  · rw [getD_nil p i [] (by omega)]
    simp
theorem linesP_short (l : List (List Int)) (w h : Nat) (hw : w < 900000) (hh : h < 900000) : shortP (linesP l w h) := fits_short (linesP_fits l w h) (by omega) (by omega)
def pagesP (x : S_Raw) : S_Leaf := ⟨⟨0, 0⟩, linesP x.Front (fW x) (fH x), linesP x.Back (fW x) (fH x)⟩
theorem r_pages {x : S_Raw} (k : okS_Raw x) : f_R25_Pages x = some (pagesP x) := by
  have := fW_in x
  have := fH_in x
  unfold f_R25_Pages
  rw [r_format k, Option.bind_some, r_lines _ _ _ (by omega) (by omega), Option.bind_some, r_lines _ _ _ (by omega) (by omega), Option.bind_some]
  rfl
theorem pressP_short (l : S_Leaf) (f : S_Format) : shortD (pressP l f).1.Up ∧ shortD (pressP l f).1.Down := by
  have z : shortD [] := ⟨by simp, fun i => by simp⟩
  unfold pressP
  split
  · rename_i hs
    obtain ⟨a, b, c, d⟩ := hs
    split
    · exact ⟨shortD_mat _ _ _ (by omega) (by omega), shortD_mat _ _ _ (by omega) (by omega)⟩
    · exact ⟨z, z⟩
  · exact ⟨z, z⟩
def shortLeaf (l : S_Leaf) : Prop := shortP l.Front ∧ shortP l.Back
theorem mr_inner (v7 : List Int) (v8 : S_Format) (loop13 : List S_Leaf × Int → Option Bool) (k : Nat) (ls : List S_Leaf) (hk : k < ls.length) (hls : ∀ i, shortLeaf (ls.getD i zS_Leaf)) (hl : ls.length = 2) :
    f_L25_SheetMatchesReference_k2 v7 v8 loop13 (k : Int) ls = loop13 (ls, ((k + 1 : Nat) : Int)) := by
  unfold f_L25_SheetMatchesReference_k2
  refine loop_up (fun j => (ls, (j : Int))) 3 _ (by omega) ?_ ?_
  · intro loop j hj
    unfold f_L25_SheetMatchesReference_b1
    simp only []
    rw [Int.toNat_natCast, Int.toNat_natCast, cd_pos (by omega), G_pos (by omega), G_pos (by simp; omega), s_press _ _ (hls k).1 (hls k).2, Option.bind_some, r_press _ _ (hls k).1 (hls k).2, Option.bind_some]
    have := pressP_short (ls.getD k zS_Leaf) ([v8, (⟨IntKind.wrap .i64 (v7.getD 0 (0 : Int)), (5 : Int), (0 : Int)⟩ : S_Format), (⟨(30 : Int), IntKind.wrap .i64 (v7.getD 1 (0 : Int)), (0 : Int)⟩ : S_Format)].getD j zS_Format)
    rw [r_equal _ _ this.1 this.2, Option.bind_some, decide_eq_true rfl, bne_self_eq_false, G_inR (by omega), natAdd1]
    rfl
  · intro loop
    unfold f_L25_SheetMatchesReference_b1 f_L25_SheetMatchesReference_k1
    simp only []
    rw [cd_neg (by omega), G_inR (by omega), natAdd1]
theorem getD_set {α : Type} (l : List α) (i j : Nat) (a d : α) : (l.set i a).getD j d = if j = i ∧ i < l.length then a else l.getD j d := by
  simp only [List.getD_eq_getElem?_getD, List.getElem?_set]
  by_cases e : i = j
  · subst e
    by_cases h : i < l.length
    · simp [h]
    · simp [h]
  · rw [if_neg e, if_neg (fun a => e a.1.symm)]
theorem mr_loop (t2 : Bool) (v7 : List Int) (v8 : S_Format) (ls : List S_Leaf) (hls : ∀ i, shortLeaf (ls.getD i zS_Leaf)) (hl : ls.length = 2) :
    iter (fun loop (s : List S_Leaf × Int) => f_L25_SheetMatchesReference_b2 t2 true v7 v8 loop s.1 s.2) 1000000 (ls, 0) = some true := by
  refine iter_ind (b := fun loop (s : List S_Leaf × Int) => f_L25_SheetMatchesReference_b2 t2 true v7 v8 loop s.1 s.2) (fun s => s.1.length = 2 ∧ (∀ i, shortLeaf (s.1.getD i zS_Leaf)) ∧ ∃ k : Nat, s.2 = (k : Int) ∧ k ≤ 2) (fun s => 2 - s.2.toNat) (fun _ => some true) ?_ 1000000 (ls, 0) ⟨hl, hls, 0, rfl, by omega⟩ (by simp)
  intro loop s hs ih
  obtain ⟨v, n⟩ := s
  obtain ⟨h1, h2, k, rfl, hk⟩ := hs
  unfold f_L25_SheetMatchesReference_b2
  dsimp only at h1 h2 ⊢
  by_cases e : k < 2
  · rw [Int.toNat_natCast, cd_pos (by omega)]
    cases t2 with
    | true =>
      rw [cond_pos rfl, G_pos (by omega), G_pos (by rw [List.length_set]; omega), mr_inner _ _ _ _ _ (by simp; omega) ?_ (by simpa using h1)]
      · refine ih _ ⟨by simpa using h1, ?_, k + 1, rfl, by omega⟩ (by simp; omega)
        intro i
        dsimp only
        rw [getD_set]
        split
        · rw [getD_set]
          rw [if_pos ⟨rfl, by omega⟩]
          exact ⟨(h2 k).2, (h2 k).1⟩
        · rw [getD_set]
          split
          · exact ⟨(h2 k).2, (h2 k).2⟩
          · exact h2 i
      · intro i
        rw [getD_set]
        split
        · rw [getD_set]
          rw [if_pos ⟨rfl, by omega⟩]
          exact ⟨(h2 k).2, (h2 k).1⟩
        · rw [getD_set]
          split
          · exact ⟨(h2 k).2, (h2 k).2⟩
          · exact h2 i
    | false =>
      rw [cond_neg rfl, mr_inner _ _ _ _ _ (by omega) h2 h1]
      exact ih _ ⟨h1, h2, k + 1, rfl, by omega⟩ (by simp; omega)
  · rw [cd_neg (by omega)]
theorem wrap_u8_nat (n : Int) : ∃ m : Nat, IntKind.wrap .u8 n = (m : Int) ∧ m ≤ 255 := by
  have : 0 ≤ IntKind.wrap .u8 n ∧ IntKind.wrap .u8 n ≤ 255 := by
    show 0 ≤ n % 256 ∧ n % 256 ≤ 255
    omega
  exact ⟨(IntKind.wrap .u8 n).toNat, by omega, by omega⟩
theorem plain_SheetMatchesReference {t0 : S_Raw} {t1 : List Int} {t2 : Bool} (k : okS_Raw t0) (k1 : okArr 4 (okInt .i8) t1) (k2 : okAny t2) : f_L25_SheetMatchesReference t0 t1 t2 = some true := by
  have hw := fW_in t0
  have hh := fH_in t0
  have s1 := linesP_short t0.Front (fW t0) (fH t0) (by omega) (by omega)
  have s2 := linesP_short t0.Back (fW t0) (fH t0) (by omega) (by omega)
  have hm : ∀ n : Int, -2 < Int.tmod n 2 ∧ Int.tmod n 2 < 2 := fun n => by
    have := Int.tmod_lt_of_pos n (show (0 : Int) < 2 by omega)
    have := Int.lt_tmod_of_pos n (show (0 : Int) < 2 by omega)
    omega
  have m0 := hm (t1.getD 0 0)
  have m1 := hm (t1.getD 1 0)
  unfold f_L25_SheetMatchesReference f_L25_SheetMatchesReference_k3
  rw [sanity_true, Option.bind_some, r_format k, Option.bind_some, wrap_i64 (n := Int.tmod (t1.getD 0 0) 2) (by omega), wrap_i64 (n := Int.tmod (t1.getD 1 0) 2) (by omega), G_inR (by dsimp only; omega), G_inR (by dsimp only; omega), r_pages k, Option.bind_some, Option.bind_some]
  have hl : ∀ a b : S_Leaf, shortLeaf a → shortLeaf b → ∀ i, shortLeaf ([a, b].getD i zS_Leaf) := by
    intro a b ha hb i
    match i with
    | 0 => exact ha
    | 1 => exact hb
    | i + 2 =>
      have z : shortP [] := ⟨by simp, fun i => by simp⟩
      exact ⟨z, z⟩
  have hp : shortLeaf (pagesP t0) := ⟨s1, s2⟩
  have hnl := linesP_len t0.Back (fW t0) (fH t0)
  obtain ⟨m, hm1, hm2⟩ := wrap_u8_nat (t1.getD 3 0)
  rw [hm1, wrap_i64 (n := (m : Int)) (by omega)]
  show cond _ _ _ = _
  cases hc : cond ((Int.tmod (t1.getD 2 (0 : Int)) (4 : Int)) == (1 : Int)) (decide ((0 : Int) < ((pagesP t0).Back.length : Int))) false with
  | true =>
    have hb : 0 < (pagesP t0).Back.length := by
      rw [and_tt, Bool.and_eq_true] at hc
      have := of_decide_eq_true hc.2
      omega
    have e : Int.tmod (m : Int) ((pagesP t0).Back.length : Int) = ((m % (pagesP t0).Back.length : Nat) : Int) := by
      rw [Int.tmod_eq_emod_of_nonneg (by omega)]
      rfl
    have hlt : m % (pagesP t0).Back.length < (pagesP t0).Back.length := Nat.mod_lt _ hb
    have hrow := s2.2 (m % (pagesP t0).Back.length)
    have hrow2 : ((pagesP t0).Back.getD (m % (pagesP t0).Back.length) []).length ≤ fW t0 := by
      have := (linesP_fits t0.Back (fW t0) (fH t0)).2.1 _ hlt
      have := this.1
      show ((linesP t0.Back (fW t0) (fH t0)).getD _ []).length ≤ _
      omega
    rw [cond_pos rfl, e, Int.toNat_natCast, G_pos (by omega), G_pos (by omega), G_room (by simp only [List.length_nil]; omega), G_room (by rw [List.nil_append]; simp only [List.length_cons, List.length_nil]; omega)]
    refine mr_loop _ _ _ _ (hl _ _ hp ⟨s1, ?_⟩) rfl
    refine ⟨?_, fun i => ?_⟩
    · rw [List.length_set]
      exact s2.1
    · dsimp only
      rw [getD_set]
      split
      · rw [List.nil_append, List.length_append]
        simp only [List.length_cons, List.length_nil]
        omega
      · exact s2.2 i
  | false =>
    rw [cond_neg rfl]
    exact mr_loop _ _ _ _ (hl _ _ hp hp) rfl
end Go.Proofs.YtbcfmhoaocifoaaDoor
