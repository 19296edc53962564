/-
  The law TableTexts, tied to the program: for every input that can be read as data the call returns true and changes nothing that was there.
-/
import Derived.Test.YtlhpkjgpcenfdaaDoorRows
import Derived.Test.YtlhpkjgpcenfdaaDoorTie
import Derived.Test.YtlhpkjgpcenfdaaDoorCards
import Derived.Test.YtlhpkjgpcenfdaaDoorDoorLib
import Derived.Test.YtlhpkjgpcenfdaaDoorLTableTexts
set_option linter.unusedSimpArgs false
set_option linter.unusedVariables false
namespace Go.Proofs.YtlhpkjgpcenfdaaDoor
namespace tableTexts
open Go.Abs Go.ChangeShapes Go.WideShapes Go.ChangeAt Go.RowKit
theorem own : ownKnob Tryd.prog.godebug = none := by kernel_rfl
theorem laidOut : laidOutB Tryd.prog = true := by kernel_rfl
theorem glob_ok {w : World} (h : laidMetH Tryd.prog Rows.tableTextsRow.laid w) : GlobOK w (fun _ => False) := by
  rw [MakeChecks.laidMetH_plain _ _ _ (by kernel_rfl)] at h
  obtain ⟨ps, ⟨g0, t0, cs0, f0, p0, q0, hg0, ht0, hv0, hd0, ⟨g1, t1, cs1, f1, p1, q1, hg1, ht1, hv1, hd1, ⟨g2, t2, cs2, f2, p2, q2, hg2, ht2, hv2, hd2, _⟩, _⟩, _⟩, _⟩ := h
  have b0 := laid_block (g := 2) (t := 122) (e := 5) (len := 32) (k := .u8) (ns := tab_bits_deBruijn32tab) (by kernel_rfl) hg0 (by kernel_rfl) ht0 hv0 (by kernel_rfl) (by kernel_rfl) (by kernel_rfl) (by kernel_rfl) hd0
  have b1 := laid_block (g := 3) (t := 123) (e := 5) (len := 64) (k := .u8) (ns := tab_bits_deBruijn64tab) (by kernel_rfl) hg1 (by kernel_rfl) ht1 hv1 (by kernel_rfl) (by kernel_rfl) (by kernel_rfl) (by kernel_rfl) hd1
  have b2 := laid_block (g := 1) (t := 114) (e := 106) (len := 20) (k := .u64) (ns := tab_strconv_uint64pow10) (by kernel_rfl) hg2 (by kernel_rfl) ht2 hv2 (by kernel_rfl) (by kernel_rfl) (by kernel_rfl) (by kernel_rfl) hd2
  intro g cs hc
  unfold globs at hc
  simp only [globAt] at hc
  split at hc
  · rename_i hg
    subst hg
    obtain rfl := Option.some.inj hc
    exact glob_entry b0 (by unfold tab_bits_deBruijn32tab; exact List.cons_ne_nil _ _)
  split at hc
  · rename_i hg
    subst hg
    obtain rfl := Option.some.inj hc
    exact glob_entry b1 (by unfold tab_bits_deBruijn64tab; exact List.cons_ne_nil _ _)
  split at hc
  · rename_i hg
    subst hg
    obtain rfl := Option.some.inj hc
    exact glob_entry b2 (by unfold tab_strconv_uint64pow10; exact List.cons_ne_nil _ _)
  cases hc
set_option maxRecDepth 100000 in
theorem door_met (os : Os) (args : Array Value) : laidMetH Tryd.prog Rows.tableTextsRow.laid ((World.doorLaid Tryd.prog 400 os).forCall (fun _ _ => 0) ⟨#[], args, []⟩).memory :=
  laidMetH_of_parts3 (fuel := 8) (laidMet_of_run' 8 (by kernel_rfl) (by kernel_rfl)) (by kernel_rfl) (by kernel_rfl)
set_option maxRecDepth 100000 in
theorem lifted (os : Os) (started : os.Started) (H : Type) (enc : TypeId × Value → H) :
    ReturnsInHanded {} Tryd.checked os 3 .any (fun w args => (Rows.tableTextsSpec.pre enc Tryd.prog Tryd.f3 [] false w args ∧ laidMetH Tryd.prog Rows.tableTextsRow.laid w) ∧ sizedMet enc Tryd.prog Tryd.f3 (OpenSpec.ofChange Rows.tableTextsSpec) false w args)
      (Rows.tableTextsSpec.post enc Tryd.prog Tryd.f3 false true false false) := by
  refine returnsInHanded_of_change_and (C := Tryd.checked) (X := fun w _ => laidMetH Tryd.prog Rows.tableTextsRow.laid w) (fun _ _ _ hh h => h.of_heap hh) own started (by kernel_rfl) Tryd.func3
    (ChangeSpec.witness_shaped (enc := enc) (C := Tryd.checked) (os := os) (X := fun w _ => laidMetH Tryd.prog Rows.tableTextsRow.laid w) false (World.doorLaid Tryd.prog 400 os) #[.string ⟨#[]⟩, .int .u8 0, .int .u16 0] 8 rfl (World.shaped_of_RefB (by kernel_rfl) (by kernel_rfl)) (by kernel_rfl) (by kernel_rfl) (by kernel_rfl) (door_met os _)) ?_
  intro W base args ds gs before hval0 hW _ _ hL _
  have hval : ∀ (j : Nat) t v, Tryd.f3.params[j]? = some t → args[j]? = some v → Value.okWide Tryd.prog W .any base t v := hval0
  have hW' := hW
  obtain ⟨p, q, hA0, hV, rfl, hfz, hnd⟩ := hW
  have hA : DataW.TrodAll enc Tryd.prog W 0 (fun _ => true) true Tryd.f3.params.toList args.toList ds p := hA0
  rw [Tryd.params3] at hA hval
  obtain ⟨rfl, rfl⟩ := trodVars_none hV
  obtain ⟨xss, hs, hvr⟩ := args_read [9, 5, 22] args.toList ds p (by kernel_rfl) (fun j t v hj hv => Value.okWide_any_base (hval j t v (by simpa using hj) (by simpa using hv))) hA
  have hcalls := (law_TableTexts xss hs).calls (glob_ok hL) hvr
  simp only [Array.toArray_toList] at hcalls
  refine hcalls.mono fun e W' ⟨he, bel⟩ => ?_
  subst he
  have hback := trodAll_below laidOut bel [9, 5, 22] args.toList ds p (by kernel_rfl) hA
  obtain ⟨v0, vs0, d0, ds0, p0, q0, hargs, rfl, rfl, -, r0⟩ := trodAll_cons hA
  obtain ⟨v1, vs1, d1, ds1, p1, q1, rfl, rfl, rfl, -, r1⟩ := trodAll_cons r0
  obtain ⟨v2, vs2, d2, ds2, p2, q2, rfl, rfl, rfl, -, r2⟩ := trodAll_cons r1
  obtain ⟨rfl, rfl, rfl⟩ := trodAll_nil r2
  exact ⟨_, rfl, _, _, _, [], _, [], hW', trodAll_mk1 (shut_bool Tryd.underlying4 _), hback, rfl, bel.frame _, fun h => by cases h⟩
theorem over : Rows.tableTextsRow.holds Tryd.pinned (OpenSpec.ofChange Rows.tableTextsSpec) :=
  OpenClaim.holds_of_wide 3 Tryd.f3 rfl rfl rfl rfl rfl rfl rfl ⟨rfl, rfl, rfl, rfl, rfl⟩ rfl rfl rfl rfl rfl (by kernel_rfl) Tryd.func3 (by kernel_rfl)
    (of_decide_eq_true (by kernel_rfl)) (by unfold Func.isWrapper; first | (rw [if_pos (by decide +kernel)]; kernel_rfl) | (rw [if_neg (by decide +kernel)]; exact ⟨rfl, rfl⟩))
    (fun os started H enc _ => lifted os started H enc)
theorem card_holds : Claim7.holds Tryd.pinned (.plain (OpenSpec.ofChange Rows.tableTextsSpec)) Rows.tableTextsCard :=
  Claim7.holds_tied_plain_at .later [] [.data, .data, .data] true (true, "41bebb2bd5c83c06bd092eec4356906b1311cabacca883ad290effb75a6b08fd") false
    over (fun _ h => by cases h) (by kernel_rfl) (fun _ h => by cases h) tableTexts_row_tie rfl ⟨rfl, rfl⟩ (by kernel_rfl) rfl
    (fun f fn hf hfn => by
      obtain rfl : f = 3 := Option.some.inj ((show Tryd.prog.funcNamed _ = some 3 by kernel_rfl).symm.trans hf) |>.symm
      obtain rfl : fn = Tryd.f3 := (Option.some.inj (Tryd.func3.symm.trans hfn)).symm
      exact ⟨by kernel_rfl, fun j t ht => by
        rw [Tryd.params3] at ht
        have hm : t ∈ [9, 5, 22] := by simpa using Array.mem_of_getElem? ht
        have hall : ([9, 5, 22].all fun u => !Tryd.prog.wantsStandIn u) = true := by kernel_rfl
        exact (show Tryd.prog.wantsStandIn t = false by simpa using List.all_eq_true.1 hall t hm)⟩)
    (by kernel_rfl)
end tableTexts
theorem tableTexts_holds : Rows.TableTextsSaid := tableTexts.over
theorem tableTextsCard_holds : Rows.TableTextsCardSaid := tableTexts.card_holds
end Go.Proofs.YtlhpkjgpcenfdaaDoor
