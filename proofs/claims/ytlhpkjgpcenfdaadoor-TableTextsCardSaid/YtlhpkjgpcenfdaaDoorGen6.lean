/-
  Own work. The generated walks, part 6: regions whose order is drawn at first, with a tail in the order of the text.
-/
import Derived.Test.YtlhpkjgpcenfdaaDoorGen5
set_option linter.unusedSimpArgs false
set_option linter.unusedVariables false
set_option linter.unusedSimpArgs false
set_option linter.unusedVariables false
namespace Go.Abs
open Go.RowKit
section
variable {P : Program} {N : Nat} {ops : Array Oper} {env : Env} {h : Hp}

/-- Whether an operation waits for another one, through others or not. -/
def reachB (ops : Array Oper) : Nat → Nat → Nat → Bool
  | 0, _, _ => false
  | f + 1, i, j => match ops[i]? with
    | none => false
    | some o => (o.after.any fun e => Region.binds .any e && e.on == j) || (o.after.any fun e => Region.binds .any e && reachB ops f e.on j)
theorem reach_lt (back : ∀ (i : Nat) (o : Oper), ops[i]? = some o → ∀ e ∈ o.after, Region.binds .any e = true → e.on < i) : ∀ (f i j : Nat), reachB ops f i j = true → j < i
  | 0, i, j, h => by simp [reachB] at h
  | f + 1, i, j, h => by
    unfold reachB at h
    cases ho : ops[i]? with
    | none => simp [ho] at h
    | some o =>
      simp only [ho, Bool.or_eq_true] at h
      rcases h with h | h
      · obtain ⟨e, he, hb⟩ := Array.any_eq_true'.1 h
        simp only [Bool.and_eq_true, beq_iff_eq] at hb
        rw [← hb.2]
        exact back i o ho e he hb.1
      · obtain ⟨e, he, hb⟩ := Array.any_eq_true'.1 h
        simp only [Bool.and_eq_true] at hb
        have h1 := reach_lt back f e.on j hb.2
        have h2 := back i o ho e he hb.1
        omega
theorem reach_listed {S : Nat → Bool} (down : ∀ (k : Nat) (o : Oper), S k = true → ops[k]? = some o → ∀ e ∈ o.after, Region.binds .any e = true → S e.on = true) :
    ∀ (f i j : Nat) (o : Oper), ops[i]? = some o → (∀ e ∈ o.after, Region.binds .any e = true → S e.on = true) → reachB ops f i j = true → S j = true
  | 0, i, j, o, ho, hp, h => by simp [reachB] at h
  | f + 1, i, j, o, ho, hp, h => by
    unfold reachB at h
    simp only [ho, Bool.or_eq_true] at h
    rcases h with h | h
    · obtain ⟨e, he, hb⟩ := Array.any_eq_true'.1 h
      simp only [Bool.and_eq_true, beq_iff_eq] at hb
      rw [← hb.2]
      exact hp e he hb.1
    · obtain ⟨e, he, hb⟩ := Array.any_eq_true'.1 h
      simp only [Bool.and_eq_true] at hb
      have hS := hp e he hb.1
      cases hoe : ops[e.on]? with
      | none =>
        cases f with
        | zero => simp [reachB] at hb
        | succ f => simp [reachB, hoe] at hb
      | some oe => exact reach_listed down f e.on j oe hoe (down e.on oe hS hoe) hb.2

/-- The static look: the first `m` operations in whatever order, each further one behind all ahead of it. -/
def drawOkM (N : Nat) (ops : Array Oper) (m : Nat) : Bool :=
  decide (m ≤ ops.size) && ((List.range m).all fun i => match ops[i]? with
    | none => false
    | some o => o.dst.all (· < N) && o.after.all (fun e => !Region.binds .any e || e.on < i) &&
      (List.range m).all fun j => match ops[j]? with
        | none => false
        | some p => match p.dst with
          | none => true
          | some d => if i = j then !(o.looksAt ops).contains d else
              o.dst != some d && (!(o.looksAt ops).contains d || (j < i && o.after.any fun e => Region.binds .any e && e.on == j) || (i < j && p.after.any fun e => Region.binds .any e && e.on == i))) &&
  ((List.range ops.size).all fun i => decide (i < m) || match ops[i]? with
    | none => false
    | some o => o.after.all (fun e => !Region.binds .any e || e.on < i) && ((List.range i).all fun j => reachB ops ops.size i j))

structure DrawOkM (N : Nat) (ops : Array Oper) (m : Nat) : Prop where
  le : m ≤ ops.size
  dst : ∀ (i : Nat) (o : Oper), i < m → ops[i]? = some o → o.dst.all (· < N) = true
  back : ∀ (i : Nat) (o : Oper), ops[i]? = some o → ∀ e ∈ o.after, Region.binds .any e = true → e.on < i
  self : ∀ (i : Nat) (o : Oper) (d : Nat), i < m → ops[i]? = some o → o.dst = some d → d ∉ o.looksAt ops
  one : ∀ (i j : Nat) (o p : Oper) (d : Nat), i < m → j < m → ops[i]? = some o → ops[j]? = some p → o.dst = some d → p.dst = some d → i = j
  look : ∀ (i j : Nat) (o p : Oper) (d : Nat), i < m → j < m → ops[i]? = some o → ops[j]? = some p → i ≠ j → p.dst = some d → d ∈ o.looksAt ops →
    (j < i ∧ ∃ e ∈ o.after, Region.binds .any e = true ∧ e.on = j) ∨ (i < j ∧ ∃ e ∈ p.after, Region.binds .any e = true ∧ e.on = i)
  tail : ∀ (i : Nat) (o : Oper), m ≤ i → ops[i]? = some o → ∀ j, j < i → reachB ops ops.size i j = true

theorem drawOkM.spec {m : Nat} (hk : drawOkM N ops m = true) : DrawOkM N ops m := by
  unfold drawOkM at hk
  simp only [Bool.and_eq_true, decide_eq_true_eq] at hk
  obtain ⟨⟨hle, hk⟩, ht⟩ := hk
  have key : ∀ (i : Nat) (o : Oper), i < m → ops[i]? = some o → (o.dst.all (· < N) = true) ∧ (∀ e ∈ o.after, Region.binds .any e = true → e.on < i) ∧
      ∀ (j : Nat) (p : Oper) (d : Nat), j < m → ops[j]? = some p → p.dst = some d → (i = j → d ∉ o.looksAt ops) ∧ (i ≠ j → o.dst ≠ some d ∧ (d ∈ o.looksAt ops →
        (j < i ∧ ∃ e ∈ o.after, Region.binds .any e = true ∧ e.on = j) ∨ (i < j ∧ ∃ e ∈ p.after, Region.binds .any e = true ∧ e.on = i))) := by
    intro i o him ho
    have h1 := List.all_eq_true.1 hk i (List.mem_range.2 him)
    simp only [ho, Bool.and_eq_true] at h1
    obtain ⟨⟨h1, h2⟩, h3⟩ := h1
    refine ⟨h1, fun e he hb => ?_, fun j p d hjm hp hd => ?_⟩
    · have := Array.all_eq_true_iff_forall_mem.1 h2 e he
      simpa [hb] using this
    · have h4 := List.all_eq_true.1 h3 j (List.mem_range.2 hjm)
      simp only [hp, hd] at h4
      refine ⟨fun e => ?_, fun e => ?_⟩
      · rw [if_pos e] at h4; simpa using h4
      · rw [if_neg e] at h4
        simp only [Bool.and_eq_true, bne_iff_ne, ne_eq, Bool.or_eq_true] at h4
        refine ⟨h4.1, fun hl => ?_⟩
        rcases h4.2 with (h5 | h5) | h5
        · simp [hl] at h5
        · simp only [Bool.and_eq_true, decide_eq_true_eq] at h5
          obtain ⟨h6, h7⟩ := h5
          obtain ⟨e, he, hb⟩ := Array.any_eq_true'.1 h7
          simp only [Bool.and_eq_true, beq_iff_eq] at hb
          exact .inl ⟨h6, e, he, hb.1, hb.2⟩
        · simp only [Bool.and_eq_true, decide_eq_true_eq] at h5
          obtain ⟨h6, h7⟩ := h5
          obtain ⟨e, he, hb⟩ := Array.any_eq_true'.1 h7
          simp only [Bool.and_eq_true, beq_iff_eq] at hb
          exact .inr ⟨h6, e, he, hb.1, hb.2⟩
  have keyT : ∀ (i : Nat) (o : Oper), m ≤ i → ops[i]? = some o → (∀ e ∈ o.after, Region.binds .any e = true → e.on < i) ∧ ∀ j, j < i → reachB ops ops.size i j = true := by
    intro i o him ho
    have hi : i < ops.size := (Array.getElem?_eq_some_iff.1 ho).1
    have h1 := List.all_eq_true.1 ht i (List.mem_range.2 hi)
    simp only [ho, Bool.or_eq_true, decide_eq_true_eq, Bool.and_eq_true] at h1
    rcases h1 with h1 | ⟨h1, h2⟩
    · omega
    · refine ⟨fun e he hb => ?_, fun j hj => ?_⟩
      · have := Array.all_eq_true_iff_forall_mem.1 h1 e he
        simpa [hb] using this
      · exact List.all_eq_true.1 h2 j (List.mem_range.2 hj)
  refine ⟨hle, fun i o hi ho => (key i o hi ho).1, fun i o ho => ?_, fun i o d hi ho hd => ((key i o hi ho).2.2 i o d hi ho hd).1 rfl,
    fun i j o p d hi hj ho hp hd he => ?_, fun i j o p d hi hj ho hp hij hd hl => (((key i o hi ho).2.2 j p d hj hp hd).2 hij).2 hl, fun i o hi ho => (keyT i o hi ho).2⟩
  · by_cases hi : i < m
    · exact (key i o hi ho).2.1
    · exact (keyT i o (by omega) ho).1
  · by_cases hij : i = j
    · exact hij
    · exact absurd hd (((key i o hi ho).2.2 j p d hj hp he).2 hij).1

/-- The tail: one operation after the other. -/
theorem wpAny_tail {Q : Exit → Act → World → Prop} {m0 : Nat} (D : DrawOkM N ops m0) : ∀ (n m fuel : Nat) (listed : Array Bool) (a : Act) (w : World), m0 ≤ m → ops.size = m + n → n ≤ fuel → listed.size = ops.size → (∀ i, i < ops.size → listed.getD i false = decide (i < m)) →
    wpList P ops Q (ops.toList.drop m) a w → wpAny P .any ops Q fuel listed a w := by
  have rdy : ∀ (m : Nat) (listed : Array Bool), m0 ≤ m → listed.size = ops.size → (∀ i, i < ops.size → listed.getD i false = decide (i < m)) → ∀ i, i ∈ Region.ready .any ops listed ↔ (i = m ∧ m < ops.size) := by
    intro m listed hm hsz hl i
    unfold Region.ready
    rw [List.mem_filter, List.mem_range]
    have gd : ∀ i, i < ops.size → listed.getD i true = decide (i < m) := by
      intro i hi
      have := hl i hi
      simp only [Array.getD_eq_getD_getElem?, Array.getElem?_eq_getElem (show i < listed.size by omega), Option.getD_some] at this ⊢
      exact this
    constructor
    · rintro ⟨hi, h2⟩
      have ho : ops[i]? = some ops[i] := Array.getElem?_eq_getElem hi
      simp only [ho, Option.map_some, Option.getD_some, Bool.and_eq_true, Bool.not_eq_true', gd i hi] at h2
      have him : m ≤ i := by simpa using h2.1
      by_cases hlt : m < i
      · exfalso
        have hre := D.tail i _ (by omega) ho m hlt
        have hpre : ∀ e ∈ (ops[i]).after, Region.binds .any e = true → e.on < m := fun e he hb => by
          have := Array.all_eq_true_iff_forall_mem.1 h2.2 e he
          have hlt := D.back i _ ho e he hb
          rw [hl e.on (by omega)] at this
          simpa [hb] using this
        have := reach_listed (S := fun k => decide (k < m)) (fun k o hk hok e he hb => by
          have h1 := D.back k o hok e he hb
          simp only [decide_eq_true_eq] at hk ⊢
          omega) ops.size i m _ ho (fun e he hb => by simpa using hpre e he hb) hre
        simp at this
      · exact ⟨by omega, by omega⟩
    · rintro ⟨rfl, hi⟩
      have ho : ops[i]? = some ops[i] := Array.getElem?_eq_getElem hi
      refine ⟨hi, ?_⟩
      simp only [ho, Option.map_some, Option.getD_some, Bool.and_eq_true, Bool.not_eq_true', gd i hi]
      refine ⟨by simp, Array.all_eq_true_iff_forall_mem.2 fun e he => ?_⟩
      cases hb : Region.binds .any e with
      | false => simp
      | true =>
        have := D.back i _ ho e he hb
        simp [hl e.on (by omega), this]
  intro n
  induction n with
  | zero =>
    intro m fuel listed a w hm hsz hf hls hl hw
    have hr : Region.ready .any ops listed = [] := List.eq_nil_iff_forall_not_mem.2 fun i hi => by
      have := (rdy m listed hm hls hl i).1 hi
      omega
    have hd : ops.toList.drop m = [] := List.drop_eq_nil_of_le (by simp; omega)
    rw [hd] at hw
    cases fuel with
    | zero => exact ⟨hr, hw⟩
    | succ fuel => exact ⟨fun _ => hw, fun i hi => by rw [hr] at hi; cases hi⟩
  | succ n ih =>
    intro m fuel listed a w hm hsz hf hls hl hw
    cases fuel with
    | zero => omega
    | succ fuel =>
      have hlt : m < ops.size := by omega
      have hmem : m ∈ Region.ready .any ops listed := (rdy m listed hm hls hl m).2 ⟨rfl, hlt⟩
      refine ⟨fun hr => (by rw [hr] at hmem; cases hmem), fun i hi => ?_⟩
      obtain ⟨rfl, _⟩ := (rdy m listed hm hls hl i).1 hi
      have ho : ops[i]? = some ops[i] := Array.getElem?_eq_getElem hlt
      have hd : ops.toList.drop i = ops[i] :: ops.toList.drop (i + 1) := by
        rw [List.drop_eq_getElem_cons (by simpa using hlt)]
        simp
      rw [hd] at hw
      have hstep : wpOp P ops Q i (wpList P ops Q (ops.toList.drop (i + 1))) a w := by
        unfold wpOp
        simp only [ho]
        exact hw
      refine wpOp_mono (fun a' w' h' => ?_) hstep
      refine ih (i + 1) fuel _ a' w' (by omega) (by omega) (by omega) (by simpa using hls) (fun k hk => ?_) h'
      simp only [Array.getD_eq_getD_getElem?]
      by_cases hki : i = k
      · subst hki; rw [Array.getElem?_setIfInBounds_self_of_lt (by omega)]; simp
      · rw [Array.getElem?_setIfInBounds_ne hki]
        have := hl k hk
        simp only [Array.getD_eq_getD_getElem?] at this
        rw [this]
        by_cases h1 : k < i
        · simp [h1]; omega
        · have : ¬ k < i + 1 := by omega
          simp [h1, this]

theorem unlisted_lt' {n i : Nat} {listed : Array Bool} (hi : i < n) (hn : n ≤ listed.size) (hu : listed.getD i true = false) :
    ((List.range n).filter fun j => !(listed.setIfInBounds i true).getD j true).length < ((List.range n).filter fun j => !listed.getD j true).length := by
  have e : ((List.range n).filter fun j => !(listed.setIfInBounds i true).getD j true) = ((List.range n).filter fun j => !listed.getD j true).filter (· != i) := by
    rw [List.filter_filter]
    apply List.filter_congr
    intro j hj
    simp only [Array.getD_eq_getD_getElem?]
    by_cases hij : i = j
    · subst hij
      rw [Array.getElem?_setIfInBounds_self_of_lt (by omega)]
      simp
    · rw [Array.getElem?_setIfInBounds_ne hij]
      have : (j != i) = true := by simp; omega
      simp [this]
  rw [e]
  apply List.length_filter_lt_length_iff_exists.2
  exact ⟨i, List.mem_filter.2 ⟨List.mem_range.2 hi, by simp [hu]⟩, by simp⟩

theorem AW.drawT {id : Nat} {Q : Exit → Env → Hp → Prop} (m : Nat) (hm : P.follows .mixedOrders = true) (hk : drawOkM N ops m = true) (hq : QOps P ops h (ops.toList.take m) env (fun e => OpsW P N ops (ops.toList.drop m) e h (Q .normal))) :
    AW P N (.region id ops true) env h Q := by
  have D := drawOkM.spec hk
  have hmle := D.le
  obtain ⟨vs, hlen, hK, hvs⟩ := QOps.vals _ _ hq
  have hlen' : vs.length = m := by rw [hlen]; simp; omega
  have hget : ∀ i, i < m → (ops.toList.take m)[i]? = ops[i]? := fun i hi => by rw [List.getElem?_take, if_pos hi]; simp
  intro X a w ι H S
  refine wp_region_any hm ?_
  have hdrew : Below w.heap.size w { w with drawn := w.drawn + 1 } := ⟨rfl, rfl, rfl, Nat.le_refl _, fun _ _ => rfl⟩
  have H' := H.below hdrew
  have S' := S.below hdrew
  generalize ({ w with drawn := w.drawn + 1 } : World) = w1 at H' S'
  clear hdrew H S w
  have main : ∀ (fuel : Nat) (listed : Array Bool) (a : Act) (w : World), listed.size = ops.size → ((List.range m).filter fun j => !listed.getD j true).length + (ops.size - m) ≤ fuel → (∀ k, m ≤ k → listed.getD k false = false) → Hol X h ι w →
      Mid N ops env vs h ι (Own X.B h ι) (fun i => listed.getD i false) a w →
      wpAny P .any ops (fun e a' w' => ∃ env' h' ι', Q e env' h' ∧ Hol X h' ι' w' ∧ Slots N env' h' ι' (Own X.B h' ι') a' w') fuel listed a w := by
    have fin : ∀ (fuel : Nat) (listed : Array Bool) (a : Act) (w : World), listed.size = ops.size → ops.size - m ≤ fuel → (∀ k, m ≤ k → listed.getD k false = false) → (∀ i, i < m → listed.getD i false = true) → Hol X h ι w → Mid N ops env vs h ι (Own X.B h ι) (fun i => listed.getD i false) a w →
        wpAny P .any ops (fun e a' w' => ∃ env' h' ι', Q e env' h' ∧ Hol X h' ι' w' ∧ Slots N env' h' ι' (Own X.B h' ι') a' w') fuel listed a w := by
      intro fuel listed a w hsz hfu hno all H M
      have hS : Slots N (envAt env (ops.toList.take m) vs) h ι (Own X.B h ι) a w := by
        refine ⟨M.size, M.defers, fun s => ?_⟩
        by_cases hex : ∃ (i : Nat) (o : Oper), i < m ∧ ops[i]? = some o ∧ o.dst = some s
        · obtain ⟨i, o, hi, ho, hd⟩ := hex
          have hv : vs[i]? = some (vs[i]'(by omega)) := List.getElem?_eq_getElem (by omega)
          rw [envAt_some (ops.toList.take m) vs env i o _ (by rw [hget i hi]; exact ho) hv hd (fun j p hp e => by
            have hj : j < m := by
              have := (List.getElem?_eq_some_iff.1 hp).1
              simp at this; omega
            rw [hget j hj] at hp
            exact (D.one i j o p s hi hj ho hp hd e).symm)]
          exact M.put i o _ s (all i hi) ho hv hd
        · rw [envAt_none (ops.toList.take m) vs env (fun i o ho e => by
            have hi : i < m := by
              have := (List.getElem?_eq_some_iff.1 ho).1
              simp at this; omega
            rw [hget i hi] at ho
            exact hex ⟨i, o, hi, ho, e⟩)]
          refine M.left s (fun i o hSi ho e => ?_)
          by_cases hi : i < m
          · exact hex ⟨i, o, hi, ho, e⟩
          · simp only [hno i (by omega)] at hSi; cases hSi
      refine wpAny_tail D (ops.size - m) m fuel listed a w (Nat.le_refl _) (by omega) hfu hsz (fun i hi => ?_) (hK X a w ι _ H hS fun env' h' ι' a' w' hq H2 S2 => ⟨env', h', ι', hq, H2, S2⟩)
      by_cases him : i < m
      · rw [all i him]; simp [him]
      · rw [hno i (by omega)]; simp [him]
    intro fuel
    induction fuel with
    | zero =>
      intro listed a w hsz hc hno H M
      refine fin 0 listed a w hsz (by omega) hno (fun i hi => ?_) H M
      have h0 : ((List.range m).filter fun j => !listed.getD j true) = [] := List.eq_nil_of_length_eq_zero (by omega)
      rw [List.filter_eq_nil_iff] at h0
      have := h0 i (List.mem_range.2 hi)
      simp only [Bool.not_eq_true, Bool.not_eq_false'] at this
      have hi' : i < listed.size := by omega
      simp only [Array.getD_eq_getD_getElem?, Array.getElem?_eq_getElem hi', Option.getD_some] at this ⊢
      exact this
    | succ fuel ih =>
      intro listed a w hsz hc hno H M
      by_cases hall : ∀ i, i < m → listed.getD i false = true
      · exact fin (fuel + 1) listed a w hsz (by omega) hno hall H M
      have hlow : ∀ i, i ∈ Region.ready .any ops listed → i < m := by
        intro i hi
        unfold Region.ready at hi
        obtain ⟨hir, hi2⟩ := List.mem_filter.1 hi
        have hi' : i < ops.size := List.mem_range.1 hir
        have ho : ops[i]? = some ops[i] := Array.getElem?_eq_getElem hi'
        simp only [ho, Option.map_some, Option.getD_some, Bool.and_eq_true, Bool.not_eq_true'] at hi2
        by_cases him : i < m
        · exact him
        · exfalso
          refine hall fun j hj => ?_
          have hre := D.tail i _ (by omega) ho j (by omega)
          exact reach_listed (S := fun k => listed.getD k false) M.down ops.size i j _ ho (fun e he hb => by
            have := Array.all_eq_true_iff_forall_mem.1 hi2.2 e he
            simpa [hb] using this) hre
      refine ⟨fun hr => ?_, fun i hi => ?_⟩
      · exfalso
        refine hall fun i => ?_
        induction i using Nat.strongRecOn with
        | _ i ihi =>
          intro hi
          cases hl : listed.getD i false with
          | true => rfl
          | false =>
            exfalso
            have hmem : i ∈ Region.ready .any ops listed := by
              unfold Region.ready
              refine List.mem_filter.2 ⟨List.mem_range.2 (by omega), ?_⟩
              have ho : ops[i]? = some (ops[i]'(by omega)) := Array.getElem?_eq_getElem (by omega)
              have hl' : listed.getD i true = false := by
                have hi' : i < listed.size := by omega
                simp only [Array.getD_eq_getD_getElem?, Array.getElem?_eq_getElem hi', Option.getD_some] at hl ⊢
                exact hl
              simp only [hl', Bool.not_false, Bool.true_and, ho, Option.map_some, Option.getD_some]
              refine Array.all_eq_true_iff_forall_mem.2 fun e he => ?_
              cases hb : Region.binds .any e with
              | false => simp
              | true =>
                have := D.back i _ ho e he hb
                simp [ihi e.on this (by omega)]
            rw [hr] at hmem
            cases hmem
      have him : i < m := hlow i hi
      unfold Region.ready at hi
      obtain ⟨hir, hi2⟩ := List.mem_filter.1 hi
      have hi' : i < ops.size := List.mem_range.1 hir
      have ho : ops[i]? = some ops[i] := Array.getElem?_eq_getElem hi'
      simp only [ho, Option.map_some, Option.getD_some, Bool.and_eq_true, Bool.not_eq_true'] at hi2
      obtain ⟨hul, hpred⟩ := hi2
      have hpred' : ∀ e ∈ (ops[i]).after, Region.binds .any e = true → listed.getD e.on false = true := fun e he hb => by
        have := Array.all_eq_true_iff_forall_mem.1 hpred e he
        simpa [hb] using this
      have hulf : listed.getD i false = false := by
        have hi'' : i < listed.size := by omega
        simp only [Array.getD_eq_getD_getElem?, Array.getElem?_eq_getElem hi'', Option.getD_some] at hul ⊢
        exact hul
      have hSm : ∀ k, listed.getD k false = true → k < m := fun k hk => by
        by_cases hkm : k < m
        · exact hkm
        · rw [hno k (by omega)] at hk; cases hk
      have hv : vs[i]? = some (vs[i]'(by omega)) := List.getElem?_eq_getElem (by omega)
      have hqi := hvs i ops[i] _ (by rw [hget i him]; exact ho) hv
      rw [List.take_take, show min i m = i from by omega] at hqi
      simp only [wpOp, ho]
      have hlook : ∀ s, s ∈ (ops[i]).looksAt ops → VR w h ι (Own X.B h ι) (rd (envAt env (ops.toList.take i) (vs.take i)) s) (a.tmps.getD s undef) := by
        intro s hs
        by_cases hex : ∃ (j : Nat) (p : Oper), j < m ∧ ops[j]? = some p ∧ p.dst = some s
        · obtain ⟨j, p, hj, hp, hd⟩ := hex
          have hij : i ≠ j := by
            rintro rfl
            rw [ho] at hp
            cases hp
            exact D.self i _ s him ho hd hs
          rcases D.look i j _ p s him hj ho hp hij hd hs with ⟨hlt, e, he, hb, hon⟩ | ⟨hlt, e, he, hb, hon⟩
          · have hS : listed.getD j false = true := hon ▸ hpred' e he hb
            have hvj : vs[j]? = some (vs[j]'(by omega)) := List.getElem?_eq_getElem (by omega)
            rw [envAt_some (ops.toList.take i) (vs.take i) env j p (vs[j]'(by omega)) (by rw [List.getElem?_take, if_pos hlt]; simpa using hp) (by rw [List.getElem?_take, if_pos hlt]; exact hvj) hd
              (fun k q hq e => by
                rw [List.getElem?_take] at hq
                split at hq
                · exact (D.one j k p q s hj (by omega) hp (by simpa using hq) hd e).symm
                · cases hq)]
            exact M.put j p _ s hS hp hvj hd
          · rw [envAt_none (ops.toList.take i) (vs.take i) env (fun k q hq e => by
              rw [List.getElem?_take] at hq
              split at hq
              · have := D.one j k p q s hj (by omega) hp (by simpa using hq) hd e
                omega
              · cases hq)]
            refine M.left s (fun k q hk hq e => ?_)
            have hjk := D.one j k p q s hj (hSm k hk) hp hq hd e
            subst hjk
            rw [hp] at hq
            cases hq
            have := M.down j p hk hp _ he hb
            rw [hon] at this
            simp [hulf] at this
        · rw [envAt_none (ops.toList.take i) (vs.take i) env (fun k q hq e => by
            rw [List.getElem?_take] at hq
            split at hq
            · exact hex ⟨k, q, by omega, by simpa using hq, e⟩
            · cases hq)]
          exact M.left s (fun k q hk hq e => hex ⟨k, q, hSm k hk, hq, e⟩)
      have step := hqi X a w ι (fun e a' w' => ∃ env' h' ι', Q e env' h' ∧ Hol X h' ι' w' ∧ Slots N env' h' ι' (Own X.B h' ι') a' w') H hlook
        (wpAny P .any ops (fun e a' w' => ∃ env' h' ι', Q e env' h' ∧ Hol X h' ι' w' ∧ Slots N env' h' ι' (Own X.B h' ι') a' w') fuel (listed.setIfInBounds i true)) ?_
      · split
        · rename_i hw; rw [if_pos hw] at step; exact .inl step
        · rename_i hw; rw [if_neg hw] at step; exact step
      · intro v w' hb hvv
        have hset : ∀ k, (listed.setIfInBounds i true).getD k false = if k = i then true else listed.getD k false := by
          intro k
          simp only [Array.getD_eq_getD_getElem?]
          by_cases hki : k = i
          · subst hki; rw [Array.getElem?_setIfInBounds_self_of_lt (by omega)]; simp
          · rw [Array.getElem?_setIfInBounds_ne (fun e => hki e.symm)]; simp [hki]
        refine ih _ _ _ (by simpa using hsz) ?_ (fun k hkm => by rw [hset k, if_neg (by omega)]; exact hno k hkm) (H.below hb) ?_
        · have := unlisted_lt' him (by omega) hul
          omega
        · have hKB : Keep w h ι (Own X.B h ι) w' h ι (Own X.B h ι) := Keep.below hb
          have hother : ∀ s, (ops[i]).dst ≠ some s → (a.put (ops[i]).dst v).tmps.getD s undef = a.tmps.getD s undef := by
            intro s hs
            cases hd : (ops[i]).dst with
            | none => rfl
            | some d =>
              have : d ≠ s := fun e => hs (by rw [hd, e])
              simp only [Act.put, Array.getD_eq_getD_getElem?, Array.getElem?_setIfInBounds_ne this]
          have hself : ∀ s, (ops[i]).dst = some s → (a.put (ops[i]).dst v).tmps.getD s undef = v := by
            intro s hs
            have hsN : s < N := by have := D.dst i _ him ho; rw [hs] at this; simpa using this
            rw [hs]
            simp only [Act.put, Array.getD_eq_getD_getElem?]
            rw [Array.getElem?_setIfInBounds_self_of_lt (by rw [M.size]; exact hsN)]
            rfl
          refine ⟨?_, ?_, ?_, ?_, ?_⟩
          · rw [← M.size]; unfold Act.put; split <;> simp
          · rw [← M.defers]; unfold Act.put; split <;> rfl
          · intro k o u s hk hok huk hd
            simp only [hset] at hk
            by_cases hki : k = i
            · subst hki
              rw [ho] at hok; cases hok
              rw [hv] at huk; cases huk
              rw [hself s hd]
              exact hvv
            · rw [if_neg hki] at hk
              rw [hother s (fun e => hki (D.one k i o _ s (hSm k hk) him hok ho hd e))]
              exact VR.keep hKB _ _ (M.put k o u s hk hok huk hd)
          · intro s hs
            have hne : (ops[i]).dst ≠ some s := hs i _ (by simp [hset]) ho
            rw [hother s hne]
            refine VR.keep hKB _ _ (M.left s fun k o hk hok => hs k o ?_ hok)
            simp only [hset]
            split
            · rfl
            · exact hk
          · intro k o hk hok e he hb'
            simp only [hset] at hk ⊢
            by_cases hki : k = i
            · subst hki
              rw [ho] at hok; cases hok
              have := hpred' e he hb'
              split
              · rfl
              · exact this
            · rw [if_neg hki] at hk
              have := M.down k o hk hok e he hb'
              split
              · rfl
              · exact this
  refine main (ops.size) _ a w1 (by simp) ?_ (fun k hk => ?_) H' ⟨S'.size, S'.defers, ?_, ?_, ?_⟩
  · have := List.length_filter_le (fun j => !(Array.replicate ops.size false).getD j true) (List.range m)
    simp only [List.length_range] at this
    omega
  · simp only [Array.getD_eq_getD_getElem?, Array.getElem?_replicate]; split <;> rfl
  · intro i o v s hS
    exfalso
    have : (Array.replicate ops.size false).getD i false = false := by
      simp only [Array.getD_eq_getD_getElem?, Array.getElem?_replicate]; split <;> rfl
    simp only [this] at hS
    cases hS
  · exact fun s _ => S'.at_ s
  · intro i o hS
    exfalso
    have : (Array.replicate ops.size false).getD i false = false := by
      simp only [Array.getD_eq_getD_getElem?, Array.getElem?_replicate]; split <;> rfl
    simp only [this] at hS
    cases hS
theorem AW.drawTSeq {id : Nat} {y : Code} {Q : Exit → Env → Hp → Prop} (m : Nat) (hm : P.follows .mixedOrders = true) (hk : drawOkM N ops m = true) (hq : QOps P ops h (ops.toList.take m) env (fun e => OpsW P N ops (ops.toList.drop m) e h (fun e h => AW P N y e h Q))) :
    AW P N (.seq (.region id ops true) y) env h Q :=
  AW.seq (AW.drawT m hm hk hq)
end
end Go.Abs
