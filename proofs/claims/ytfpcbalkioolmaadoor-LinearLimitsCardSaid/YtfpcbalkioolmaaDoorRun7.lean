/-
  Own work. The abstract machine, part 7: results that are frozen.
-/
import Derived.Test.YtfpcbalkioolmaaDoorRun5
set_option linter.unusedSimpArgs false
set_option linter.unusedVariables false
namespace Go.Abs
section
variable {P : Program}
mutual
def fz (h : Hp) : AV → AV → Bool
  | .rsl r ver off n, .im (.sl ys m) => match h.at r with
    | some rt => decide (rt.ver = ver) && (rt.live && (decide (n = m) && (aveqL ((rt.cs.drop off).take (n * rt.k)) (ys.map .im) && decide (ys.length = n * rt.k))))
    | none => false
  | .im (.val (.slice none 0 0)), .im (.sl [] 0) => true
  | .tup xs, .tup ys => fzL h xs ys
  | .agg xs, .agg ys => fzL h xs ys
  | .im x, .im y => aveq (.im x) (.im y)
  | _, _ => false
def fzL (h : Hp) : List AV → List AV → Bool
  | [], [] => true
  | x :: xs, y :: ys => fz h x y && fzL h xs ys
  | _, _ => false
end
mutual
theorem fz_sound {h : Hp} : ∀ (x y : AV), fz h x y = true → Cst h [] (fun _ => none) x y
  | .rsl r ver off n, y, hx => by
    unfold fz at hx
    split at hx <;> try (cases hx; done)
    · rename_i r' ver' off' n' ys m he
      cases he
      split at hx
      · rename_i rt hr
        simp only [Bool.and_eq_true, decide_eq_true_eq] at hx
        obtain ⟨h1, h2, rfl, h4, h5⟩ := hx
        exact .frz hr h1 h2 (aveqL_sound _ _ h4) h5 (fun r' rt' h => by cases h)
      · cases hx
    all_goals rename_i he; cases he
  | .tup xs, y, hx => by
    cases y with
    | tup ys => exact .tup (fzL_sound xs ys (by simpa only [fz] using hx))
    | _ => simp [fz] at hx
  | .agg xs, y, hx => by
    cases y with
    | agg ys => exact .agg (fzL_sound xs ys (by simpa only [fz] using hx))
    | _ => simp [fz] at hx
  | .im x, y, hx => by
    unfold fz at hx
    split at hx <;> try (cases hx; done)
    · rename_i he; cases he
    · rename_i he; cases he; exact .nil
    · rename_i he; cases he
    · rename_i he; cases he
    · rename_i x' y' _ he
      cases he
      have := aveq_sound _ _ hx
      cases this
      exact .im
  | .any, y, hx => by simp [fz] at hx
  | .ipt _ _, y, hx => by simp [fz] at hx
  | .ref _ _ _, y, hx => by simp [fz] at hx
  | .cnd _ _, y, hx => by simp [fz] at hx
  | .fnv _ _, y, hx => by simp [fz] at hx
theorem fzL_sound {h : Hp} : ∀ (xs ys : List AV), fzL h xs ys = true → CstL h [] (fun _ => none) xs ys
  | [], [], _ => .nil
  | [], _ :: _, hx => by simp [fzL] at hx
  | _ :: _, [], hx => by simp [fzL] at hx
  | x :: xs, y :: ys, hx => by
    simp only [fzL, Bool.and_eq_true] at hx
    exact .cons (fz_sound x y hx.1) (fzL_sound xs ys hx.2)
end
def noPin (h : Hp) : Bool := h.all fun p => decide (p.1 < 2000)
theorem noPin_sound {h : Hp} (hn : noPin h = true) : ∀ r rt, h.at r = some rt → r < 2000 := by
  intro r rt hr
  induction h with
  | nil => cases hr
  | cons p h ih =>
    obtain ⟨i, v⟩ := p
    unfold noPin at hn ih
    simp only [List.all_cons, Bool.and_eq_true, decide_eq_true_eq] at hn
    simp only [Hp.at] at hr
    split at hr
    · omega
    · exact ih hn.2 hr
theorem QSpec.runF {hints : List Lv} {orc : Orc} (ho : OrcOK P orc) (k : Nat) {f : FuncId} {args : List AV} {av : AV}
    (hc : (match callF P hints orc k f args [] 0 with
      | some (av', h', n') => fz (cutH n' h') av' av && noPin (cutH n' h')
      | none => false) = true) : QSpec P f args av := by
  cases hr : callF P hints orc k f args [] 0 with
  | none => rw [hr] at hc; cases hc
  | some r =>
    obtain ⟨av', h', n'⟩ := r
    rw [hr] at hc
    simp only [Bool.and_eq_true] at hc
    intro w ι B vs H hv
    refine (callF_ok ho k _ _ _ _ _ _ _ hr _ w ι vs H hv).mono ?_
    rintro e w' ⟨v, ι', rfl, H', K', hvr⟩
    have R : RtC (cutH n' h') [] (fun _ => none) := by
      refine ⟨fun r' rt' h => ?_, fun r' s' rt' st' h => ?_, fun r rt h hp => ?_⟩
      · cases h
      · cases h
      · have := noPin_sound hc.2 r rt h
        omega
    exact ⟨v, av, [], _, rfl, rfl, H'.cast R, VR.cast H' R _ _ _ (fz_sound _ _ hc.1) hvr⟩
end
end Go.Abs
