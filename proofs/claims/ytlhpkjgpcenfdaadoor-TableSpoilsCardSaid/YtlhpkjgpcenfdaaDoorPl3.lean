/-
  Own work. Rules for plain proofs on typed functions: loops by a measure, answers by what they say.
-/
import Derived.Test.YtlhpkjgpcenfdaaDoorPl2
set_option linter.unusedSimpArgs false
set_option linter.unusedVariables false
set_option linter.unusedSimpArgs false
set_option linter.unusedVariables false
namespace Go.Abs
theorem iter_ind {S R : Type} {b : (S → Option R) → S → Option R} (I : S → Prop) (μ : S → Nat) (F : S → Option R)
    (h : ∀ (loop : S → Option R) (s : S), I s → (∀ s', I s' → μ s' < μ s → loop s' = F s') → b loop s = F s) :
    ∀ (n : Nat) (s : S), I s → μ s < n → iter b n s = F s
  | 0, s, _, hn => absurd hn (by omega)
  | n + 1, s, hi, hn => h _ s hi fun s' hi' hm => iter_ind I μ F h n s' hi' (by omega)
def WP {α : Type} (t : Option α) (Q : α → Prop) : Prop := ∃ a, t = some a ∧ Q a
theorem WP.some {α : Type} {a : α} {Q : α → Prop} (h : Q a) : WP (some a) Q := ⟨a, rfl, h⟩
theorem WP.G {α : Type} {p : Prop} [Decidable p] {x : Option α} {Q : α → Prop} (h : p) (k : WP x Q) : WP (G p x) Q := by
  rw [G_pos h]
  exact k
theorem WP.bind {α β : Type} {o : Option α} {a : α} {f : α → Option β} {Q : β → Prop} (h : o = Option.some a) (k : WP (f a) Q) : WP (o.bind f) Q := by
  rw [h]
  exact k
theorem WP.bindW {α β : Type} {o : Option α} {f : α → Option β} {Q : β → Prop} (h : WP o fun a => WP (f a) Q) : WP (o.bind f) Q := by
  obtain ⟨a, e, k⟩ := h
  rw [e]
  exact k
theorem WP.cond {α : Type} {b : Bool} {x y : Option α} {Q : α → Prop} (h1 : b = true → WP x Q) (h2 : b = false → WP y Q) : WP (cond b x y) Q := by
  cases b
  · exact h2 rfl
  · exact h1 rfl
theorem WP.imp {α : Type} {t : Option α} {Q R : α → Prop} (h : WP t Q) (k : ∀ a, Q a → R a) : WP t R := by
  obtain ⟨a, e, q⟩ := h
  exact ⟨a, e, k a q⟩
theorem WP.eq {α : Type} {t : Option α} {a : α} (h : WP t (· = a)) : t = Option.some a := by
  obtain ⟨b, e, q⟩ := h
  rw [e, q]
theorem WP.of {α : Type} {t : Option α} {a : α} (h : t = Option.some a) : WP t (· = a) := ⟨a, h, rfl⟩
theorem WP.iter {S R : Type} {b : (S → Option R) → S → Option R} {Q : R → Prop} (I : S → Prop) (μ : S → Nat)
    (h : ∀ (loop : S → Option R) (s : S), I s → (∀ s', I s' → μ s' < μ s → WP (loop s') Q) → WP (b loop s) Q) :
    ∀ (n : Nat) (s : S), I s → μ s < n → WP (iter b n s) Q
  | 0, s, _, hn => absurd hn (by omega)
  | n + 1, s, hi, hn => h _ s hi fun s' hi' hm => WP.iter I μ h n s' hi' (by omega)
theorem nat_of {x : Int} (h : 0 ≤ x) : ∃ k : Nat, x = (k : Int) := ⟨x.toNat, by omega⟩
theorem natAdd1 (k : Nat) : (k : Int) + 1 = ((k + 1 : Nat) : Int) := by omega
theorem toList_loop (bs : ByteArray) : ∀ (n i : Nat) (r : List UInt8), bs.size = n + i → ByteArray.toList.loop bs i r = r.reverse ++ bs.data.toList.drop i
  | 0, i, r, h => by
    rw [ByteArray.toList.loop, if_neg (by omega), List.drop_eq_nil_of_le (by simp; omega)]
    simp
  | n + 1, i, r, h => by
    have hi : i < bs.size := by omega
    have hi' : i < bs.data.toList.length := by simpa using hi
    rw [ByteArray.toList.loop, if_pos hi, toList_loop bs n (i + 1) _ (by omega), List.drop_eq_getElem_cons hi']
    simp only [List.reverse_cons, List.append_assoc, List.singleton_append]
    congr 2
    simp [ByteArray.get!, hi]
theorem toList_data (bs : ByteArray) : bs.toList = bs.data.toList := by
  unfold ByteArray.toList
  rw [toList_loop bs bs.size 0 [] (by omega)]
  simp
theorem toList_beq (a b : ByteArray) : (a.toList == b.toList) = decide (a = b) := by
  rw [toList_data, toList_data, Bool.eq_iff_iff]
  simp only [beq_iff_eq, decide_eq_true_eq]
  exact ⟨fun h => WideShapes.bytes_inj h, fun h => by rw [h]⟩
end Go.Abs
