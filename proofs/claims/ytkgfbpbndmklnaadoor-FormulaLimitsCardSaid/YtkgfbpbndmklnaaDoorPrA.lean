/- Own work. -/
import Derived.Test.YtkgfbpbndmklnaaDoorSymA
import Derived.Test.YtkgfbpbndmklnaaDoorWp1
import Derived.Test.YtkgfbpbndmklnaaDoorWp5
import Derived.Test.YtkgfbpbndmklnaaDoorWp2
set_option linter.unusedSimpArgs false
set_option linter.unusedVariables false
namespace Go.Abs
open Go.RowKit
def Same (h h' : Hp) (D : List Nat) : Prop := ∀ r, r ∉ D → h'.at r = h.at r
theorem Same.cons (h : Hp) (r : Nat) (rt : Rt) : Same h ((r, rt) :: h) [r] := fun q hq => by
 simp only [Hp.at]; rw [if_neg (fun e => hq (by simp [e]))]
theorem Same.trans {h h1 h2 : Hp} {D E : List Nat} (a : Same h h1 D) (b : Same h1 h2 E) : Same h h2 (D ++ E) := fun r hr => by
 simp only [Xw, not_or] at hr
 rw [b r hr.2, a r hr.1]
theorem Y0n (r : Nat) (rt : Rt) (h : Hp) : Hp.at ((r, rt) :: h) r = some rt := by simp [Hp.at]
theorem Y1l {r q : Nat} (e : r ≠ q) (rt : Rt) (h : Hp) : Hp.at ((r, rt) :: h) q = h.at q := by simp [Hp.at, e]
theorem Hp.fresh (h : Hp) : ∃ r, h.at r = none := by
 have key : ∀ (h : Hp), ∃ n, ∀ r, n ≤ r → h.at r = none := by
  intro h
  induction h with
  | nil => exact ⟨0, fun r _ => rfl⟩
  | cons p h ih =>
   obtain ⟨i, v⟩ := p
   obtain ⟨n, hn⟩ := ih
   refine ⟨n + i + 1, fun r hr => ?_⟩
   simp only [Hp.at]
   rw [Vn]
   exact hn r (by omega)
 obtain ⟨n, hn⟩ := key h
 exact ⟨n, hn n (Xf _)⟩
def Y06 : AV → List Nat
 | .rsl r _ _ _ => [r]
 | _ => []
abbrev nilA : AV := .im (.val (.slice none 0 0))
def SlA (h : Hp) (x : AV) (e k n : Nat) (cs : List AV) : Prop := (x = nilA ∧ n = 0 ∧ cs = []) ∨ ∃ r v rt, x = .rsl r v 0 n ∧ h.at r = some rt ∧ rt.ver = v ∧ rt.live = true ∧ rt.e = e ∧ rt.k = k ∧ rt.cs.take (n * k) = cs ∧ cs.length = n * k
section
variable {h h1 : Hp} {x : AV} {e k n : Nat} {cs : List AV}
theorem SlA.same {h' : Hp} {D : List Nat} (hs : Same h h' D) (hd : ∀ r ∈ Y06 x, r ∉ D) (H : SlA h x e k n cs) : SlA h' x e k n cs := by
 rcases H with H | ⟨r, v, rt, rfl, h1, h2⟩
 ·exact .inl H
 ·exact .inr ⟨r, v, rt, rfl, by rw [hs r (hd r (by simp [Y06]))]; exact h1, h2⟩
theorem SlA.nc (H : SlA h x e k n cs) : NC x := by
 rcases H with ⟨rfl, _⟩ | ⟨r, v, rt, rfl, _⟩ <;> exact ⟨trivial, rfl⟩
theorem SlA.one (H : SlA h x e k n cs) : oneA h x := by
 rcases H with ⟨rfl, _⟩ | ⟨r, v, rt, rfl, h1, h2, _⟩
 ·rfl
 ·exact Has.mk h1 h2
theorem SlA.len (H : SlA h x e k n cs) : Len h x n := by
 rcases H with ⟨rfl, rfl, _⟩ | ⟨r, v, rt, rfl, h1, h2, _⟩
 ·exact .inl ⟨rfl, rfl⟩
 ·exact .inr (.inl ⟨_, _, _, rfl, Has.mk h1 h2⟩)
theorem SlA.dom (H : SlA h x e k n cs) : ∀ r ∈ Y06 x, h.at r ≠ none := by
 rcases H with ⟨rfl, rfl, _⟩ | ⟨r, v, rt, rfl, h1, h2, _⟩
 ·intro r hr; simp [Y06] at hr
 ·intro q hq
  simp only [Y06, Xd] at hq
  subst hq
  rw [h1]; simp
theorem SlA.ix (H : SlA h x e k n cs) {j : Int} (h0 : 0 ≤ j) (hj : j < (n : Nat)) : ∃ r v, Ix h x k j (.ref r v (0 + j.toNat * k)) ∧ Has h r v ∧ (∀ i a, i < k → cs[j.toNat * k + i]? = some a → Ld h r v (0 + j.toNat * k + i) a) ∧
  ∀ m, m ≤ k → LdN h r v (0 + j.toNat * k) m ((cs.drop (j.toNat * k)).take m) := by
 rcases H with ⟨rfl, rfl, _⟩ | ⟨r, v, rt, rfl, h1, h2, h3, h4, h5, h6, h7⟩
 ·omega
 ·have hjn : j.toNat < n := by omega
  have hle : j.toNat * k + k ≤ n * k := by rw [← Nat.succ_mul]; exact X0o k (by omega)
  refine ⟨r, v, .inl ⟨r, v, 0, n, rfl, HasK.mk h1 h2 h5, h0, hj, rfl⟩, Has.mk h1 h2, fun i a hi ha => ⟨rt, h1, h2, h3, ?_⟩, fun m hm => ⟨rt, h1, h2, h3, ?_, ?_⟩⟩
  ·rw [X05]
   rw [← h6, Xk] at ha
   split at ha
   ·exact ha
   ·cases ha
  ·have : cs.length ≤ rt.cs.length := by rw [← h6]; exact List.length_take_le' _ _
   omega
  ·rw [X05, ← h6, List.drop_take, X0t]
   congr 1
   omega
theorem SlA.cut (H : SlA h x e k n cs) {j : Int} (h0 : 0 ≤ j) (hj : j ≤ (n : Nat)) (hn : 0 < n) : ∃ y, NC y ∧ Cut h x k j y ∧ SlA h y e k j.toNat (cs.take (j.toNat * k)) ∧ Y06 y = Y06 x := by
 rcases H with ⟨rfl, rfl, _⟩ | ⟨r, v, rt, rfl, h1, h2, h3, h4, h5, h6, h7⟩
 ·omega
 ·have hle : j.toNat * k ≤ n * k := X0o k (by omega)
  refine ⟨.rsl r v 0 j.toNat, ⟨trivial, rfl⟩, ⟨r, v, n, rfl, HasK.mk h1 h2 h5, h0, hj, rfl⟩, .inr ⟨r, v, rt, rfl, h1, h2, h3, h4, h5, ?_, ?_⟩, rfl⟩
  ·rw [← h6, X0t]; congr 1; omega
  ·rw [X0c, h7]; omega
theorem SlA.app (H : SlA h x e k n cs) {bytes : Nat} (news : List AV) (hk : news.length = k) (hb : (n + 1) * bytes ≤ 140737488355328) (hn : n + 1 ≤ 140737488355328) :
  ∃ h1 y q, App h x e k bytes 1 news h1 y ∧ NC y ∧ SlA h1 y e k (n + 1) (cs ++ news) ∧ Y06 y = [q] ∧ Same h h1 [q] ∧ (Y06 x = [q] ∨ (Y06 x = [] ∧ h.at q = none)) := by
 rcases H with ⟨rfl, rfl, rfl⟩ | ⟨r, v, rt, rfl, h1, h2, h3, h4, h5, h6, h7⟩
 ·obtain ⟨q, hq⟩ := h.fresh
  refine ⟨_, _, q, .inr ⟨rfl, q, hq, by omega, by omega, rfl, rfl⟩, ⟨trivial, rfl⟩, .inr ⟨q, 1, _, rfl, Y0n _ _ _, rfl, rfl, rfl, rfl, ?_, ?_⟩, rfl, Same.cons _ _ _, .inr ⟨rfl, hq⟩⟩
  ·simp only [X0a]; exact Xt (by omega)
  ·simp [hk]
 ·have hle : n * k ≤ rt.cs.length := by
   have : cs.length ≤ rt.cs.length := by rw [← h6]; exact List.length_take_le' _ _
   omega
  refine ⟨_, _, r, .inl ⟨r, v, n, rt, rfl, h1, h2, h3, h4, h5, hle, hb, hn, rfl, rfl⟩, ⟨trivial, rfl⟩, .inr ⟨r, v + 1, _, rfl, Y0n _ _ _, rfl, rfl, rfl, rfl, ?_, ?_⟩, rfl, Same.cons _ _ _, .inl rfl⟩
  ·simp only [h6]
   exact Xt (by rw [X4, h7, hk, Nat.succ_mul]; omega)
  ·rw [X4, h7, hk, Nat.succ_mul]
end
def eI64 (l : List Int) : List AV := l.map fun n => .int .i64 n
abbrev SlI (h : Hp) (x : AV) (l : List Int) : Prop := SlA h x 3 1 l.length (eI64 l)
theorem SlI.get {h : Hp} {x : AV} {l : List Int} (H : SlI h x l) {j : Int} (h0 : 0 ≤ j) (hj : j < (l.length : Nat)) : ∃ r v o, Ix h x 1 j (.ref r v o) ∧ Ld h r v o (.int .i64 (l.getD j.toNat 0)) := by
 obtain ⟨r, v, h1, _, h2, _⟩ := SlA.ix H h0 hj
 refine ⟨r, v, _, h1, ?_⟩
 have := h2 0 (.int .i64 (l.getD j.toNat 0)) (by omega) (by
  have hlt : j.toNat < l.length := by omega
  simp [eI64, X0i, X2 hlt, X8])
 simpa using this
theorem SlI.cut {h : Hp} {x : AV} {l : List Int} (H : SlI h x l) {j : Int} (h0 : 0 ≤ j) (hj : j ≤ (l.length : Nat)) (hn : 0 < l.length) : ∃ y, NC y ∧ Cut h x 1 j y ∧ SlI h y (l.take j.toNat) ∧ Y06 y = Y06 x := by
 obtain ⟨y, h1, h2, h3, h4⟩ := SlA.cut H h0 hj hn
 refine ⟨y, h1, h2, ?_, h4⟩
 have e1 : (l.take j.toNat).length = j.toNat := by rw [X0c]; omega
 have e2 : (eI64 l).take (j.toNat * 1) = eI64 (l.take j.toNat) := by simp [eI64, List.map_take]
 unfold SlI
 rw [e1, ← e2]; exact h3
theorem SlI.app {h : Hp} {x : AV} {l : List Int} (H : SlI h x l) (v : Int) (hn : l.length ≤ 10000000000) :
  ∃ h1 y q, App h x 3 1 8 1 [.int .i64 v] h1 y ∧ NC y ∧ SlI h1 y (l ++ [v]) ∧ Y06 y = [q] ∧ Same h h1 [q] ∧ (Y06 x = [q] ∨ (Y06 x = [] ∧ h.at q = none)) := by
 obtain ⟨h1, y, q, a1, a2, a3, a4⟩ := SlA.app (bytes := 8) H [.int .i64 v] rfl (by omega) (by omega)
 refine ⟨h1, y, q, a1, a2, ?_, a4⟩
 unfold SlI
 have e1 : (l ++ [v]).length = l.length + 1 := by simp
 have e2 : eI64 (l ++ [v]) = eI64 l ++ [.int .i64 v] := by simp [eI64]
 rw [e1, e2]; exact a3
theorem SlI.nil (h : Hp) : SlI h nilA [] := .inl ⟨rfl, rfl, rfl⟩
structure Tn where
 op : Int
 n : Int
 ops : List Int
 dep : Int
structure Fr where
 op : Int
 ops : List Int
 terms : List Int
 signs : List Int
 cols : Int
 rows : Int
 ents : Int
structure Ps where
 at_ : Int
 T : List Tn
 F : List Fr
 f : Fr
def treeC (t : Tn) (x : AV) : List AV := [.int .i64 t.op, .int .i64 t.n, x, .int .i64 t.dep]
def treesC : List Tn → List AV → List AV
 | t :: T, x :: X => treeC t x ++ treesC T X
 | _, _ => []
theorem treesC_get : ∀ (T : List Tn) (X : List AV) (i : Nat) (t : Tn) (x : AV), T[i]? = some t → X[i]? = some x → ((treesC T X).drop (i * 4)).take 4 = treeC t x
 | [], _, _, _, _, h, _ => by simp at h
 | _ :: _, [], _, _, _, _, h => by simp at h
 | t' :: T, x' :: X, 0, t, x, h1, h2 => by
  simp at h1 h2
  subst h1 h2
  simp [treesC, treeC]
 | t' :: T, x' :: X, i + 1, t, x, h1, h2 => by
  simp at h1 h2
  have := treesC_get T X i t x h1 h2
  have e : List.drop ((i + 1) * 4) (treesC (t' :: T) (x' :: X)) = List.drop (i * 4) (treesC T X) := by
   rw [Nat.succ_mul, Nat.add_comm, ← List.drop_drop]; rfl
  rw [e]; exact this
theorem treesC_app : ∀ (T : List Tn) (X : List AV) (t : Tn) (x : AV), X.length = T.length → treesC (T ++ [t]) (X ++ [x]) = treesC T X ++ treeC t x
 | [], [], _, _, _ => by simp [treesC]
 | [], _ :: _, _, _, h => by simp at h
 | _ :: _, [], _, _, h => by simp at h
 | t' :: T, x' :: X, t, x, h => by
  have := treesC_app T X t x (by simpa using h)
  simp [treesC, this]
structure Row where
 xo : AV
 xt : AV
 xs : AV
def row7 (f : Fr) (ρ : Row) : List AV := [.int .i64 f.op, ρ.xo, ρ.xt, ρ.xs, .int .i64 f.cols, .int .i64 f.rows, .int .i64 f.ents]
def Y4j : List Fr → List Row → List AV
 | f :: F, ρ :: R => row7 f ρ ++ Y4j F R
 | _, _ => []
theorem rowsC_len : ∀ (F : List Fr) (R : List Row), R.length = F.length → (Y4j F R).length = F.length * 7
 | [], [], _ => rfl
 | [], _ :: _, h => by simp at h
 | _ :: _, [], h => by simp at h
 | f :: F, ρ :: R, h => by
  have := rowsC_len F R (by simpa using h)
  simp [Y4j, row7, this, Nat.succ_mul]
theorem rowsC_app : ∀ (F : List Fr) (R : List Row) (f : Fr) (ρ : Row), R.length = F.length → Y4j (F ++ [f]) (R ++ [ρ]) = Y4j F R ++ row7 f ρ
 | [], [], _, _, _ => by simp [Y4j]
 | [], _ :: _, _, _, h => by simp at h
 | _ :: _, [], _, _, h => by simp at h
 | f' :: F, ρ' :: R, f, ρ, h => by
  have := rowsC_app F R f ρ (by simpa using h)
  simp [Y4j, this]
abbrev Tag := Nat → Nat
def RowOK (h : Hp) (g : Tag) (i : Nat) (f : Fr) (ρ : Row) : Prop :=
 (SlI h ρ.xo f.ops ∧ ∀ r ∈ Y06 ρ.xo, g r = 10 + 3 * i) ∧ (SlI h ρ.xt f.terms ∧ ∀ r ∈ Y06 ρ.xt, g r = 11 + 3 * i) ∧ SlI h ρ.xs f.signs ∧ ∀ r ∈ Y06 ρ.xs, g r = 12 + 3 * i
def RowsOK (h : Hp) (g : Tag) : Nat → List Fr → List Row → Prop
 | _, [], [] => True
 | i, f :: F, ρ :: R => RowOK h g i f ρ ∧ RowsOK h g (i + 1) F R
 | _, _, _ => False
structure Lay where
 p : Nat
 fr : Nat
 fv : Nat
 xt : AV
 X : List AV
 R : List Row
 ρ : Row
 G : List AV
structure Rep (h : Hp) (g : Tag) (txt : ByteArray) (s : Ps) (L : Lay) : Prop where
 box : h.at L.p = some ⟨0, true, 61, 4, [.string txt, .int .i64 s.at_, L.xt, .rsl L.fr L.fv 0 (s.F.length + 1)]⟩
 gp : g L.p = 0
 frs : h.at L.fr = some ⟨L.fv, true, 57, 7, Y4j s.F L.R ++ (row7 s.f L.ρ ++ L.G)⟩
 gf : g L.fr = 1
 trs : SlA h L.xt 64 4 s.T.length (treesC s.T L.X)
 gt : ∀ r ∈ Y06 L.xt, g r = 2
 lX : L.X.length = s.T.length
 xs : ∀ (i : Nat) (x : AV) (t : Tn), L.X[i]? = some x → s.T[i]? = some t → SlI h x t.ops ∧ ∀ r ∈ Y06 x, g r = 3
 lR : L.R.length = s.F.length
 rows : RowsOK h g 0 s.F L.R
 row : RowOK h g s.F.length s.f L.ρ
def Kept (h : Hp) (g : Tag) (h' : Hp) (g' : Tag) : Prop := ∀ r, h.at r ≠ none → g r = 4 → h'.at r = h.at r ∧ g' r = 4
theorem Kept.refl (h : Hp) (g : Tag) : Kept h g h g := fun _ _ hg => ⟨rfl, hg⟩
theorem Kept.trans {h h1 h2 : Hp} {g g1 g2 : Tag} (a : Kept h g h1 g1) (b : Kept h1 g1 h2 g2) : Kept h g h2 g2 := fun r hr hg => by
 obtain ⟨a1, a2⟩ := a r hr hg
 obtain ⟨b1, b2⟩ := b r (by rw [a1]; exact hr) a2
 exact ⟨b1.trans a1, b2⟩
def upg (g : Tag) (r t : Nat) : Tag := fun q => if q = r then t else g q
theorem upg_self (g : Tag) (r t : Nat) : upg g r t r = t := by simp [upg]
theorem upg_ne (g : Tag) {r q : Nat} (t : Nat) (e : q ≠ r) : upg g r t q = g q := by simp [upg, e]
section
variable {h h1 : Hp} {g g1 : Tag} {txt : ByteArray} {s : Ps} {L : Lay}
theorem SlA.keep {x : AV} {e k n : Nat} {cs : List AV} {t : Nat} (H : SlA h x e k n cs ∧ ∀ r ∈ Y06 x, g r = t) (hk : ∀ r, h.at r ≠ none → g r = t → h1.at r = h.at r ∧ g1 r = t) : SlA h1 x e k n cs ∧ ∀ r ∈ Y06 x, g1 r = t := by
 refine ⟨?_, fun r hr => (hk r (H.1.dom r hr) (H.2 r hr)).2⟩
 rcases H.1 with H1 | ⟨r, v, rt, rfl, h1', h2⟩
 ·exact .inl H1
 ·exact .inr ⟨r, v, rt, rfl, by rw [(hk r (by rw [h1']; simp) (H.2 r (by simp [Y06]))).1]; exact h1', h2⟩
theorem RowOK.keep {i : Nat} {f : Fr} {ρ : Row} (H : RowOK h g i f ρ) (hk : ∀ r, h.at r ≠ none → g r = 10 + 3 * i ∨ g r = 11 + 3 * i ∨ g r = 12 + 3 * i → h1.at r = h.at r ∧ g1 r = g r) : RowOK h1 g1 i f ρ :=
 ⟨SlA.keep H.1 fun r a b => by obtain ⟨c, d⟩ := hk r a (.inl b); exact ⟨c, d.trans b⟩, SlA.keep H.2.1 fun r a b => by obtain ⟨c, d⟩ := hk r a (.inr (.inl b)); exact ⟨c, d.trans b⟩, SlA.keep H.2.2 fun r a b => by obtain ⟨c, d⟩ := hk r a (.inr (.inr b)); exact ⟨c, d.trans b⟩⟩
theorem RowsOK.keep : ∀ {i : Nat} {F : List Fr} {R : List Row}, RowsOK h g i F R → (∀ r, h.at r ≠ none → 10 + 3 * i ≤ g r → g r < 10 + 3 * (i + F.length) → h1.at r = h.at r ∧ g1 r = g r) → RowsOK h1 g1 i F R
 | _, [], [], _, _ => trivial
 | _, [], _ :: _, H, _ => H.elim
 | _, _ :: _, [], H, _ => H.elim
 | i, f :: F, ρ :: R, H, hk => by
  refine ⟨RowOK.keep H.1 fun r a b => hk r a (by omega) (by simp only [Xb]; omega), RowsOK.keep H.2 fun r a b c => hk r a (by omega) (by simp only [Xb]; omega)⟩
theorem RowsOK.app : ∀ {i : Nat} {F : List Fr} {R : List Row} {f : Fr} {ρ : Row}, RowsOK h g i F R → RowOK h g (i + F.length) f ρ → RowsOK h g i (F ++ [f]) (R ++ [ρ])
 | _, [], [], _, _, _, H => ⟨H, trivial⟩
 | _, [], _ :: _, _, _, H, _ => H.elim
 | _, _ :: _, [], _, _, H, _ => H.elim
 | i, f :: F, ρ :: R, _, _, H, H2 => ⟨H.1, RowsOK.app H.2 (by simpa [X1h, Nat.add_comm 1] using H2)⟩
theorem RowsOK.split : ∀ {i : Nat} {F : List Fr} {R : List Row} {f : Fr}, RowsOK h g i (F ++ [f]) R → ∃ R' ρ, R = R' ++ [ρ] ∧ RowsOK h g i F R' ∧ RowOK h g (i + F.length) f ρ
 | _, [], [], _, H => H.elim
 | _, [], [ρ], _, H => ⟨[], ρ, rfl, trivial, H.1⟩
 | _, [], _ :: _ :: _, _, H => H.2.elim
 | _, _ :: _, [], _, H => H.elim
 | i, f' :: F, ρ' :: R, f, H => by
  obtain ⟨R', ρ, rfl, h1, h2⟩ := RowsOK.split H.2
  exact ⟨ρ' :: R', ρ, rfl, ⟨H.1, h1⟩, by simpa [X1h, Nat.add_comm 1] using h2⟩
end
section
variable {h h1 : Hp} {g g1 : Tag} {txt : ByteArray} {s : Ps} {L : Lay}
theorem Same.tag {D : List Nat} {q : Nat} (hs : Same h h1 [q]) {r : Nat} (e : g r ≠ g q) : h1.at r = h.at r := hs r fun hr => by
 simp only [Xd] at hr
 exact e (by rw [hr])
theorem SlA.tag {x : AV} {e k n t : Nat} {cs : List AV} {q : Nat} (hs : Same h h1 [q]) (H : SlA h x e k n cs ∧ ∀ r ∈ Y06 x, g r = t) (hq : t ≠ g q) : SlA h1 x e k n cs ∧ ∀ r ∈ Y06 x, g r = t :=
 SlA.keep H fun r _ hr => ⟨Same.tag (D := []) (g := g) hs (by omega), hr⟩
theorem RowOK.tag {i : Nat} {f : Fr} {ρ : Row} {q : Nat} (hs : Same h h1 [q]) (H : RowOK h g i f ρ) (hq : g q < 10 + 3 * i ∨ 12 + 3 * i < g q) : RowOK h1 g i f ρ :=
 RowOK.keep H fun r _ hr => ⟨Same.tag (D := []) (g := g) hs (by omega), rfl⟩
theorem RowsOK.tag {i : Nat} {F : List Fr} {R : List Row} {q : Nat} (hs : Same h h1 [q]) (H : RowsOK h g i F R) (hq : g q < 10 + 3 * i ∨ 10 + 3 * (i + F.length) ≤ g q) : RowsOK h1 g i F R :=
 RowsOK.keep H fun r _ _ _ => ⟨Same.tag (D := []) (g := g) hs (by omega), rfl⟩
theorem Kept.tag {q : Nat} (hs : Same h h1 [q]) (hq : g q ≠ 4) : Kept h g h1 g := fun r _ hr => ⟨Same.tag (D := []) (g := g) hs (by omega), hr⟩
namespace Rep
theorem has (R : Rep h g txt s L) : Has h L.p 0 := Has.mk R.box rfl
theorem ldS (R : Rep h g txt s L) : Ld h L.p 0 0 (.string txt) := ⟨_, R.box, rfl, rfl, rfl⟩
theorem ldAt (R : Rep h g txt s L) : Ld h L.p 0 1 (.int .i64 s.at_) := ⟨_, R.box, rfl, rfl, rfl⟩
theorem ldT (R : Rep h g txt s L) : Ld h L.p 0 2 L.xt := ⟨_, R.box, rfl, rfl, rfl⟩
theorem ldF (R : Rep h g txt s L) : Ld h L.p 0 3 (.rsl L.fr L.fv 0 (s.F.length + 1)) := ⟨_, R.box, rfl, rfl, rfl⟩
theorem hasF (R : Rep h g txt s L) : Has h L.fr L.fv := Has.mk R.frs rfl
theorem ne_pf (R : Rep h g txt s L) : L.p ≠ L.fr := fun e => by have h1 := R.gp; have h2 := R.gf; rw [e] at h1; omega
theorem lenA (R : Rep h g txt s L) : (Y4j s.F L.R).length = s.F.length * 7 := rowsC_len _ _ R.lR
theorem ldRow (R : Rep h g txt s L) {k : Nat} {a : AV} (hk : (row7 s.f L.ρ)[k]? = some a) : Ld h L.fr L.fv (0 + s.F.length * 7 + k) a := by
 refine ⟨_, R.frs, rfl, rfl, ?_⟩
 have h7 : k < 7 := (Xm.1 hk).1
 simp only
 rw [X04 (by rw [R.lenA]; omega), R.lenA, X0f (by simp [row7]; omega)]
 rw [show 0 + s.F.length * 7 + k - s.F.length * 7 = k by omega]
 exact hk
theorem grow (R : Rep h g txt s L) {r t : Nat} {rt : Rt} (ht : t = 3 ∨ t = 4) (hr : h.at r = none) : Nw h r rt ((r, rt) :: h) ∧ Rep ((r, rt) :: h) (upg g r t) txt s L ∧ Kept h g ((r, rt) :: h) (upg g r t) ∧ upg g r t r = t := by
 have hs : ∀ q, h.at q ≠ none → Hp.at ((r, rt) :: h) q = h.at q ∧ upg g r t q = g q := fun q hq => by
  have e : q ≠ r := fun e => hq (by rw [e]; exact hr)
  exact ⟨Y1l (fun e2 => e e2.symm) _ _, upg_ne g t e⟩
 have sl : ∀ {x : AV} {e k n t' : Nat} {cs : List AV}, (SlA h x e k n cs ∧ ∀ r ∈ Y06 x, g r = t') → SlA ((r, rt) :: h) x e k n cs ∧ ∀ q ∈ Y06 x, upg g r t q = t' := fun H => SlA.keep H fun q hq hg => by
  obtain ⟨a, b⟩ := hs q hq; exact ⟨a, b.trans hg⟩
 refine ⟨⟨hr, rfl⟩, ⟨?_, ?_, ?_, ?_, (sl ⟨R.trs, R.gt⟩).1, (sl ⟨R.trs, R.gt⟩).2, R.lX, fun i x t h1 h2 => sl (R.xs i x t h1 h2), R.lR, RowsOK.keep R.rows fun q hq _ _ => hs q hq, RowOK.keep R.row fun q hq _ => hs q hq⟩, fun q hq hg => ⟨(hs q hq).1, (hs q hq).2.trans hg⟩, upg_self _ _ _⟩
 ·rw [(hs L.p (by rw [R.box]; simp)).1]; exact R.box
 ·rw [(hs L.p (by rw [R.box]; simp)).2]; exact R.gp
 ·rw [(hs L.fr (by rw [R.frs]; simp)).1]; exact R.frs
 ·rw [(hs L.fr (by rw [R.frs]; simp)).2]; exact R.gf
theorem setAt (R : Rep h g txt s L) (v : Int) : ∃ h1, St h L.p 0 1 (.int .i64 v) h1 ∧ Rep h1 g txt { s with at_ := v } L ∧ Kept h g h1 g := by
 have hs : Same h ((L.p, (⟨0, true, 61, 4, [.string txt, .int .i64 v, L.xt, .rsl L.fr L.fv 0 (s.F.length + 1)]⟩ : Rt)) :: h) [L.p] := Same.cons _ _ _
 have gp := R.gp
 refine ⟨_, ⟨_, R.box, rfl, rfl, by simp [Y0u], rfl, rfl⟩, ⟨Y0n _ _ _, gp, by rw [Y1l R.ne_pf]; exact R.frs, R.gf, (SlA.tag hs ⟨R.trs, R.gt⟩ (by omega)).1, R.gt, R.lX, fun i x t a b => SlA.tag hs (R.xs i x t a b) (by omega), R.lR, RowsOK.tag hs R.rows (by omega), RowOK.tag hs R.row (by omega)⟩, Kept.tag hs (by omega)⟩
theorem addTree (R : Rep h g txt s L) (t : Tn) (x : AV) (hx : SlI h x t.ops) (hg : ∀ r ∈ Y06 x, g r = 3) (hn : s.T.length ≤ 1000000000) :
  ∃ h1 y, App h L.xt 64 4 48 1 (treeC t x) h1 y ∧ NC y ∧ Has h1 L.p 0 ∧ oneA h1 y ∧ Ld h1 L.p 0 2 L.xt ∧ ∃ h2 g2, St h1 L.p 0 2 y h2 ∧ Rep h2 g2 txt { s with T := s.T ++ [t] } { L with xt := y, X := L.X ++ [x] } ∧ Kept h g h2 g2 ∧ ∀ r, h.at r ≠ none → g2 r = g r := by
 obtain ⟨h1, y, q, a1, a2, a3, a4, a5, a6⟩ := SlA.app (bytes := 48) R.trs (treeC t x) rfl (by omega) (by omega)
 have gp := R.gp
 have gf := R.gf
 have hqp : q ≠ L.p := by
  rcases a6 with a6 | ⟨_, a6⟩
  ·intro e
   have := R.gt q (by rw [a6]; simp)
   rw [e] at this; omega
  ·intro e; rw [e, R.box] at a6; cases a6
 have hbox : h1.at L.p = some ⟨0, true, 61, 4, [.string txt, .int .i64 s.at_, L.xt, .rsl L.fr L.fv 0 (s.F.length + 1)]⟩ := by
  rw [a5 L.p (by simpa using fun e => hqp e.symm)]; exact R.box
 refine ⟨h1, y, a1, a2, Has.mk hbox rfl, a3.one, ⟨_, hbox, rfl, rfl, rfl⟩, _, upg g q 2, ⟨_, hbox, rfl, rfl, by rw [Y48 a3.one]; simp, okC_one a3.one, rfl⟩, ?_⟩
 rw [Y48 a3.one]
 have e1 : putA [.string txt, .int .i64 s.at_, L.xt, .rsl L.fr L.fv 0 (s.F.length + 1)] 2 [y] = [.string txt, .int .i64 s.at_, y, .rsl L.fr L.fv 0 (s.F.length + 1)] := rfl
 simp only [e1]
 have hs : ∀ r, h.at r ≠ none → g r ≠ 2 → g r ≠ 0 → Hp.at ((L.p, (⟨0, true, 61, 4, [.string txt, .int .i64 s.at_, y, .rsl L.fr L.fv 0 (s.F.length + 1)]⟩ : Rt)) :: h1) r = h.at r ∧ upg g q 2 r = g r := fun r hr h2 h0 => by
  have e : r ≠ q := by
   rcases a6 with a6 | ⟨_, a6⟩
   ·intro e; exact h2 (R.gt r (by rw [a6, e]; simp))
   ·intro e; rw [e] at hr; exact hr a6
  refine ⟨?_, upg_ne g 2 e⟩
  rw [Y1l (fun e2 => h0 (by rw [← e2]; exact gp))]
  exact a5 r (by simpa using e)
 have sl : ∀ {x : AV} {e k n t' : Nat} {cs : List AV}, (SlA h x e k n cs ∧ ∀ r ∈ Y06 x, g r = t') → t' ≠ 2 → t' ≠ 0 → SlA ((L.p, (⟨0, true, 61, 4, [.string txt, .int .i64 s.at_, y, .rsl L.fr L.fv 0 (s.F.length + 1)]⟩ : Rt)) :: h1) x e k n cs ∧ ∀ r ∈ Y06 x, upg g q 2 r = t' :=
  fun H n2 n0 => SlA.keep H fun r hr hg => by obtain ⟨a, b⟩ := hs r hr (by omega) (by omega); exact ⟨a, b.trans hg⟩
 have gq : ∀ r, h.at r ≠ none → upg g q 2 r = g r := fun r hr => by
  by_cases e : r = q
  ·rcases a6 with a6 | ⟨_, a6⟩
   ·rw [e, upg_self]; exact (R.gt q (by rw [a6]; simp)).symm
   ·rw [e] at hr; exact absurd a6 hr
  ·exact upg_ne g 2 e
 refine ⟨⟨Y0n _ _ _, ?_, ?_, ?_, ?_, ?_, by simp [R.lX], ?_, R.lR, RowsOK.keep R.rows fun r a b c => hs r a (by omega) (by omega), RowOK.keep R.row fun r a b => hs r a (by omega) (by omega)⟩, fun r hr hg => ?_, gq⟩
 ·rw [gq _ (by rw [R.box]; simp)]; exact gp
 ·rw [(hs L.fr (by rw [R.frs]; simp) (by omega) (by omega)).1]; exact R.frs
 ·rw [gq _ (by rw [R.frs]; simp)]; exact gf
 ·simp only [X4, Xh]
  rw [treesC_app _ _ _ _ R.lX]
  exact a3.same (Same.cons _ _ _) (fun r hr => by
   rw [a4] at hr
   simp only [Xd] at hr ⊢
   rw [hr]; exact hqp)
 ·intro r hr
  simp only [a4, Xd] at hr
  rw [hr]; exact upg_self _ _ _
 ·intro i x' t' hi ht
  simp only at hi ht
  by_cases e : i < s.T.length
  ·rw [X0f (by rw [R.lX]; exact e)] at hi
   rw [X0f e] at ht
   exact sl (R.xs i x' t' hi ht) (by omega) (by omega)
  ·have e2 : i = s.T.length := by
    have := (Xm.1 ht).1
    simp at this; omega
   subst e2
   rw [X04 (by rw [R.lX]; exact Xf _), R.lX] at hi
   rw [X04 (Xf _)] at ht
   simp at hi ht
   subst hi ht
   exact sl ⟨hx, hg⟩ (by omega) (by omega)
 ·obtain ⟨a, b⟩ := hs r hr (by omega) (by omega); exact ⟨a, b.trans hg⟩
theorem stRow (R : Rep h g txt s L) {k : Nat} {y : AV} {f' : Fr} {ρ' : Row} (hk : k < 7) (hy : oneA h y) (hrow : (row7 s.f L.ρ).set k y = row7 f' ρ') (hok : RowOK h g s.F.length f' ρ') :
  ∃ h1, St h L.fr L.fv (0 + s.F.length * 7 + k) y h1 ∧ Rep h1 g txt { s with f := f' } { L with ρ := ρ' } ∧ Kept h g h1 g := by
 have gp := R.gp
 have gf := R.gf
 have hput : putA (Y4j s.F L.R ++ (row7 s.f L.ρ ++ L.G)) (0 + s.F.length * 7 + k) [y] = Y4j s.F L.R ++ (row7 f' ρ' ++ L.G) := by
  unfold putA
  have l0 := R.lenA
  have l7 : (row7 s.f L.ρ).length = 7 := rfl
  have d0 : (Y4j s.F L.R).drop (0 + s.F.length * 7 + k + [y].length) = [] := List.drop_eq_nil_of_le (by rw [l0]; simp; omega)
  rw [X12, List.drop_append, l0, Xt (by rw [l0]; omega), d0]
  rw [show 0 + s.F.length * 7 + k - s.F.length * 7 = k by omega, show 0 + s.F.length * 7 + k + [y].length - s.F.length * 7 = k + 1 by simp; omega]
  rw [X1a (by omega), List.drop_append_of_le_length (by omega), ← hrow]
  rw [X1i, Vp]
  simp
 refine ⟨_, ⟨_, R.frs, rfl, rfl, ?_, okC_one hy, rfl⟩, ?_⟩
 ·rw [Y48 hy]
  have := R.lenA
  simp [row7]; omega
 ·rw [Y48 hy]
  simp only [hput]
  have hs : Same h ((L.fr, (⟨L.fv, true, 57, 7, Y4j s.F L.R ++ (row7 f' ρ' ++ L.G)⟩ : Rt)) :: h) [L.fr] := Same.cons _ _ _
  exact ⟨⟨by rw [Y1l (fun e => R.ne_pf e.symm)]; exact R.box, gp, Y0n _ _ _, gf, (SlA.tag hs ⟨R.trs, R.gt⟩ (by omega)).1, R.gt, R.lX, fun i x t a b => SlA.tag hs (R.xs i x t a b) (by omega), R.lR, RowsOK.tag hs R.rows (by omega), RowOK.tag hs hok (by omega)⟩, Kept.tag hs (by omega)⟩
theorem growRow (R : Rep h g txt s L) {x : AV} {l : List Int} {t : Nat} (hx : SlI h x l) (hg : ∀ r ∈ Y06 x, g r = t) (ht : 10 + 3 * s.F.length ≤ t ∧ t ≤ 12 + 3 * s.F.length) (v : Int) (hn : l.length ≤ 1000000000)
  (ho : ∀ r, r ∈ Y06 x → True) : ∃ h1 y q, App h x 3 1 8 1 [.int .i64 v] h1 y ∧ NC y ∧ Has h1 L.fr L.fv ∧ oneA h1 y ∧ SlI h1 y (l ++ [v]) ∧ Y06 y = [q] ∧ (∀ r ∈ Y06 y, upg g q t r = t) ∧ Same h h1 [q] ∧
   (∀ r, h.at r ≠ none → g r ≠ t → h1.at r = h.at r ∧ upg g q t r = g r) ∧ (∀ r, h.at r ≠ none → upg g q t r = g r) := by
 obtain ⟨h1, y, q, a1, a2, a3, a4, a5, a6⟩ := SlI.app hx v (by omega)
 have gf := R.gf
 have hs : ∀ r, h.at r ≠ none → g r ≠ t → h1.at r = h.at r ∧ upg g q t r = g r := fun r hr hne => by
  have e : r ≠ q := by
   rcases a6 with a6 | ⟨_, a6⟩
   ·intro e; exact hne (hg r (by rw [a6, e]; simp))
   ·intro e; rw [e] at hr; exact hr a6
  exact ⟨a5 r (by simpa using e), upg_ne g t e⟩
 refine ⟨h1, y, q, a1, a2, ?_, a3.one, a3, a4, fun r hr => ?_, a5, hs, fun r hr => ?_⟩
 ·unfold Has
  rw [(hs L.fr (by rw [R.frs]; simp) (by omega)).1]; exact R.hasF
 ·rw [a4] at hr
  simp only [Xd] at hr
  rw [hr]; exact upg_self _ _ _
 ·by_cases e : r = q
  ·rcases a6 with a6 | ⟨_, a6⟩
   ·rw [e, upg_self]; exact (hg q (by rw [a6]; simp)).symm
   ·rw [e] at hr; exact absurd a6 hr
  ·exact upg_ne g t e
theorem moved (R : Rep h g txt s L) {t : Nat} (ht : 10 + 3 * s.F.length ≤ t ∧ t ≤ 12 + 3 * s.F.length) {g1 : Tag} (hs : ∀ r, h.at r ≠ none → g r ≠ t → h1.at r = h.at r ∧ g1 r = g r) (hg : ∀ r, h.at r ≠ none → g1 r = g r)
  {f' : Fr} {ρ' : Row} (hok : RowOK h1 g1 s.F.length f' ρ') {k : Nat} {y : AV} (hk : k < 7) (hy : oneA h1 y) (hrow : (row7 s.f L.ρ).set k y = row7 f' ρ') :
  ∃ h2, St h1 L.fr L.fv (0 + s.F.length * 7 + k) y h2 ∧ Rep h2 g1 txt { s with f := f' } { L with ρ := ρ' } ∧ Kept h g h2 g1 := by
 have gp := R.gp
 have gf := R.gf
 have fr1 := (hs L.fr (by rw [R.frs]; simp) (by omega)).1
 have hput : putA (Y4j s.F L.R ++ (row7 s.f L.ρ ++ L.G)) (0 + s.F.length * 7 + k) [y] = Y4j s.F L.R ++ (row7 f' ρ' ++ L.G) := by
  unfold putA
  have l0 := R.lenA
  have l7 : (row7 s.f L.ρ).length = 7 := rfl
  have d0 : (Y4j s.F L.R).drop (0 + s.F.length * 7 + k + [y].length) = [] := List.drop_eq_nil_of_le (by rw [l0]; simp; omega)
  rw [X12, List.drop_append, l0, Xt (by rw [l0]; omega), d0]
  rw [show 0 + s.F.length * 7 + k - s.F.length * 7 = k by omega, show 0 + s.F.length * 7 + k + [y].length - s.F.length * 7 = k + 1 by simp; omega]
  rw [X1a (by omega), List.drop_append_of_le_length (by omega), ← hrow]
  rw [X1i, Vp]
  simp
 refine ⟨_, ⟨_, by rw [fr1]; exact R.frs, rfl, rfl, ?_, okC_one hy, rfl⟩, ?_⟩
 ·rw [Y48 hy]
  have := R.lenA
  simp [row7]; omega
 ·rw [Y48 hy]
  simp only [hput]
  have hS : Same h1 ((L.fr, (⟨L.fv, true, 57, 7, Y4j s.F L.R ++ (row7 f' ρ' ++ L.G)⟩ : Rt)) :: h1) [L.fr] := Same.cons _ _ _
  have gf1 : g1 L.fr = 1 := (hg L.fr (by rw [R.frs]; simp)).trans gf
  have sl : ∀ {x : AV} {e k n t' : Nat} {cs : List AV}, (SlA h x e k n cs ∧ ∀ r ∈ Y06 x, g r = t') → t' ≠ t → SlA h1 x e k n cs ∧ ∀ r ∈ Y06 x, g1 r = t' := fun H n2 => SlA.keep H fun r hr hg' => by
   obtain ⟨a, b⟩ := hs r hr (by omega); exact ⟨a, b.trans hg'⟩
  have rws : RowsOK h1 g1 0 s.F L.R := RowsOK.keep R.rows fun r a b c => hs r a (by omega)
  have trs := sl ⟨R.trs, R.gt⟩ (by omega)
  refine ⟨⟨?_, ?_, Y0n _ _ _, gf1, (SlA.tag hS trs (by omega)).1, trs.2, R.lX, fun i x t' a b => SlA.tag hS (sl (R.xs i x t' a b) (by omega)) (by omega), R.lR, RowsOK.tag hS rws (by omega), RowOK.tag hS hok (by omega)⟩, fun r hr hg' => ?_⟩
  ·rw [Y1l (fun e => R.ne_pf e.symm), (hs L.p (by rw [R.box]; simp) (by omega)).1]; exact R.box
  ·exact (hg L.p (by rw [R.box]; simp)).trans gp
  ·obtain ⟨a, b⟩ := hs r hr (by omega)
   refine ⟨?_, b.trans hg'⟩
   rw [Y1l (fun e => by rw [← e] at hg'; omega)]
   exact a
theorem appTerm (R : Rep h g txt s L) (v : Int) (hn : s.f.terms.length ≤ 1000000000) :
  ∃ h1 y, App h L.ρ.xt 3 1 8 1 [.int .i64 v] h1 y ∧ NC y ∧ Has h1 L.fr L.fv ∧ oneA h1 y ∧ ∃ h2 g2, St h1 L.fr L.fv (0 + s.F.length * 7 + 2) y h2 ∧ Rep h2 g2 txt { s with f := { s.f with terms := s.f.terms ++ [v] } } { L with ρ := { L.ρ with xt := y } } ∧ Kept h g h2 g2 := by
 obtain ⟨h1, y, q, a1, a2, a3, a4, a5, a6, a7, a8, a9, a10⟩ := R.growRow R.row.2.1.1 R.row.2.1.2 (by omega) v hn (fun _ _ => trivial)
 obtain ⟨h2, b1, b2, b3⟩ := R.moved (t := 11 + 3 * s.F.length) (by omega) a9 a10 (f' := { s.f with terms := s.f.terms ++ [v] }) (ρ' := { L.ρ with xt := y })
  ⟨SlA.keep R.row.1 fun r hr hg => by (obtain ⟨a, b⟩ := a9 r hr (by omega); exact ⟨a, b.trans hg⟩), ⟨a5, a7⟩, SlA.keep R.row.2.2 fun r hr hg => by (obtain ⟨a, b⟩ := a9 r hr (by omega); exact ⟨a, b.trans hg⟩)⟩ (k := 2) (by omega) a4 rfl
 exact ⟨h1, y, a1, a2, a3, a4, h2, _, b1, b2, b3⟩
theorem appSign (R : Rep h g txt s L) (v : Int) (hn : s.f.signs.length ≤ 1000000000) :
  ∃ h1 y, App h L.ρ.xs 3 1 8 1 [.int .i64 v] h1 y ∧ NC y ∧ Has h1 L.fr L.fv ∧ oneA h1 y ∧ ∃ h2 g2, St h1 L.fr L.fv (0 + s.F.length * 7 + 3) y h2 ∧ Rep h2 g2 txt { s with f := { s.f with signs := s.f.signs ++ [v] } } { L with ρ := { L.ρ with xs := y } } ∧ Kept h g h2 g2 := by
 obtain ⟨h1, y, q, a1, a2, a3, a4, a5, a6, a7, a8, a9, a10⟩ := R.growRow R.row.2.2.1 R.row.2.2.2 (by omega) v hn (fun _ _ => trivial)
 obtain ⟨h2, b1, b2, b3⟩ := R.moved (t := 12 + 3 * s.F.length) (by omega) a9 a10 (f' := { s.f with signs := s.f.signs ++ [v] }) (ρ' := { L.ρ with xs := y })
  ⟨SlA.keep R.row.1 fun r hr hg => by (obtain ⟨a, b⟩ := a9 r hr (by omega); exact ⟨a, b.trans hg⟩), SlA.keep R.row.2.1 fun r hr hg => by (obtain ⟨a, b⟩ := a9 r hr (by omega); exact ⟨a, b.trans hg⟩), ⟨a5, a7⟩⟩ (k := 3) (by omega) a4 rfl
 exact ⟨h1, y, a1, a2, a3, a4, h2, _, b1, b2, b3⟩
theorem appOp (R : Rep h g txt s L) (v : Int) (hn : s.f.ops.length ≤ 1000000000) :
  ∃ h1 y, App h L.ρ.xo 3 1 8 1 [.int .i64 v] h1 y ∧ NC y ∧ Has h1 L.fr L.fv ∧ oneA h1 y ∧ ∃ h2 g2, St h1 L.fr L.fv (0 + s.F.length * 7 + 1) y h2 ∧ Rep h2 g2 txt { s with f := { s.f with ops := s.f.ops ++ [v] } } { L with ρ := { L.ρ with xo := y } } ∧ Kept h g h2 g2 := by
 obtain ⟨h1, y, q, a1, a2, a3, a4, a5, a6, a7, a8, a9, a10⟩ := R.growRow R.row.1.1 R.row.1.2 (by omega) v hn (fun _ _ => trivial)
 obtain ⟨h2, b1, b2, b3⟩ := R.moved (t := 10 + 3 * s.F.length) (by omega) a9 a10 (f' := { s.f with ops := s.f.ops ++ [v] }) (ρ' := { L.ρ with xo := y })
  ⟨⟨a5, a7⟩, SlA.keep R.row.2.1 fun r hr hg => by (obtain ⟨a, b⟩ := a9 r hr (by omega); exact ⟨a, b.trans hg⟩), SlA.keep R.row.2.2 fun r hr hg => by (obtain ⟨a, b⟩ := a9 r hr (by omega); exact ⟨a, b.trans hg⟩)⟩ (k := 1) (by omega) a4 rfl
 exact ⟨h1, y, a1, a2, a3, a4, h2, _, b1, b2, b3⟩
theorem push (R : Rep h g txt s L) (op : Int) (hn : s.F.length ≤ 1000000000) : ∃ h1 y, App h (.rsl L.fr L.fv 0 (s.F.length + 1)) 57 7 104 1 (row7 ⟨op, [], [], [], 0, 0, 0⟩ ⟨nilA, nilA, nilA⟩) h1 y ∧ NC y ∧ Has h1 L.p 0 ∧ oneA h1 y ∧
  Ld h1 L.p 0 3 (.rsl L.fr L.fv 0 (s.F.length + 1)) ∧ ∃ h2, St h1 L.p 0 3 y h2 ∧ Rep h2 g txt { s with F := s.F ++ [s.f], f := ⟨op, [], [], [], 0, 0, 0⟩ } { L with fv := L.fv + 1, R := L.R ++ [L.ρ], ρ := ⟨nilA, nilA, nilA⟩, G := [] } ∧ Kept h g h2 g := by
 have gp := R.gp
 have gf := R.gf
 have l0 := R.lenA
 have hbox : Hp.at ((L.fr, (⟨L.fv + 1, true, 57, 7, (Y4j s.F L.R ++ (row7 s.f L.ρ ++ L.G)).take ((s.F.length + 1) * 7) ++ row7 ⟨op, [], [], [], 0, 0, 0⟩ ⟨nilA, nilA, nilA⟩⟩ : Rt)) :: h) L.p = some ⟨0, true, 61, 4, [.string txt, .int .i64 s.at_, L.xt, .rsl L.fr L.fv 0 (s.F.length + 1)]⟩ := by
  rw [Y1l (fun e => R.ne_pf e.symm)]; exact R.box
 have hle : (s.F.length + 1) * 7 ≤ (Y4j s.F L.R ++ (row7 s.f L.ρ ++ L.G)).length := by simp [row7, l0]; omega
 have htk : (Y4j s.F L.R ++ (row7 s.f L.ρ ++ L.G)).take ((s.F.length + 1) * 7) = Y4j s.F L.R ++ row7 s.f L.ρ := by
  rw [X12, l0, Xt (by rw [l0]; omega), show (s.F.length + 1) * 7 - s.F.length * 7 = 7 by omega]
  rfl
 refine ⟨_, .rsl L.fr (L.fv + 1) 0 (s.F.length + 1 + 1), .inl ⟨L.fr, L.fv, s.F.length + 1, _, rfl, R.frs, rfl, rfl, rfl, rfl, hle, by omega, by omega, rfl, rfl⟩, ⟨trivial, rfl⟩, Has.mk hbox rfl, Has.mk (Y0n _ _ _) rfl, ⟨_, hbox, rfl, rfl, rfl⟩, _, ⟨_, hbox, rfl, rfl, by simp [Y0u], okC_one (Has.mk (Y0n _ _ _) rfl), rfl⟩, ?_⟩
 have e1 : putA [.string txt, .int .i64 s.at_, L.xt, .rsl L.fr L.fv 0 (s.F.length + 1)] 3 (Y0u (.rsl L.fr (L.fv + 1) 0 (s.F.length + 1 + 1))) = [.string txt, .int .i64 s.at_, L.xt, .rsl L.fr (L.fv + 1) 0 (s.F.length + 1 + 1)] := rfl
 simp only [e1, htk]
 have hs : ∀ r, h.at r ≠ none → g r ≠ 0 → g r ≠ 1 → Hp.at ((L.p, (⟨0, true, 61, 4, [.string txt, .int .i64 s.at_, L.xt, .rsl L.fr (L.fv + 1) 0 (s.F.length + 1 + 1)]⟩ : Rt)) :: (L.fr, (⟨L.fv + 1, true, 57, 7, Y4j s.F L.R ++ row7 s.f L.ρ ++ row7 ⟨op, [], [], [], 0, 0, 0⟩ ⟨nilA, nilA, nilA⟩⟩ : Rt)) :: h) r = h.at r ∧ g r = g r := fun r _ h0 h1 => by
  rw [Y1l (fun e => h0 (by rw [← e]; exact gp)), Y1l (fun e => h1 (by rw [← e]; exact gf))]
  exact ⟨rfl, rfl⟩
 have sl : ∀ {x : AV} {e k n t' : Nat} {cs : List AV}, (SlA h x e k n cs ∧ ∀ r ∈ Y06 x, g r = t') → t' ≠ 0 → t' ≠ 1 → SlA ((L.p, (⟨0, true, 61, 4, [.string txt, .int .i64 s.at_, L.xt, .rsl L.fr (L.fv + 1) 0 (s.F.length + 1 + 1)]⟩ : Rt)) :: (L.fr, (⟨L.fv + 1, true, 57, 7, Y4j s.F L.R ++ row7 s.f L.ρ ++ row7 ⟨op, [], [], [], 0, 0, 0⟩ ⟨nilA, nilA, nilA⟩⟩ : Rt)) :: h) x e k n cs ∧ ∀ r ∈ Y06 x, g r = t' :=
  fun H n0 n1 => SlA.keep H fun r hr hg => ⟨(hs r hr (by omega) (by omega)).1, hg⟩
 refine ⟨⟨?_, gp, ?_, gf, (sl ⟨R.trs, R.gt⟩ (by omega) (by omega)).1, R.gt, R.lX, fun i x t a b => sl (R.xs i x t a b) (by omega) (by omega), by simp [R.lR], ?_, ?_⟩, fun r hr hg => ⟨(hs r hr (by omega) (by omega)).1, hg⟩⟩
 ·simp [Hp.at]
 ·rw [Y1l R.ne_pf, Y0n]
  simp only [rowsC_app _ _ _ _ R.lR, X0e]
 ·refine RowsOK.app (RowsOK.keep R.rows fun r a b c => hs r a (by omega) (by omega)) ?_
  rw [X05]
  exact RowOK.keep R.row fun r a b => hs r a (by omega) (by omega)
 ·exact ⟨⟨SlI.nil _, fun r hr => by simp [Y06] at hr⟩, ⟨SlI.nil _, fun r hr => by simp [Y06] at hr⟩, SlI.nil _, fun r hr => by simp [Y06] at hr⟩
theorem pop (R : Rep h g txt s L) {F' : List Fr} {f' : Fr} (hF : s.F = F' ++ [f']) : ∃ (R' : List Row) (ρ' : Row) (h1 : Hp), L.R = R' ++ [ρ'] ∧ Cut h (.rsl L.fr L.fv 0 (s.F.length + 1)) 7 (((s.F.length + 1 : Nat) : Int) - 1) (.rsl L.fr L.fv 0 s.F.length) ∧ oneA h (.rsl L.fr L.fv 0 s.F.length) ∧
  St h L.p 0 3 (.rsl L.fr L.fv 0 s.F.length) h1 ∧ Rep h1 g txt { s with F := F', f := f' } { L with R := R', ρ := ρ', G := row7 s.f L.ρ ++ L.G } ∧ Kept h g h1 g ∧ Same h h1 [L.p] := by
 have gp := R.gp
 have gf := R.gf
 have rws := R.rows
 rw [hF] at rws
 obtain ⟨R', ρ', hR, b1, b2⟩ := RowsOK.split rws
 have hS : Same h ((L.p, (⟨0, true, 61, 4, [.string txt, .int .i64 s.at_, L.xt, .rsl L.fr L.fv 0 s.F.length]⟩ : Rt)) :: h) [L.p] := Same.cons _ _ _
 have lR' : R'.length = F'.length := by
  have := R.lR
  rw [hR, hF] at this
  simpa using this
 refine ⟨R', ρ', _, hR, ⟨L.fr, L.fv, s.F.length + 1, rfl, HasK.mk R.frs rfl rfl, by omega, by omega, ?_⟩, R.hasF, ⟨_, R.box, rfl, rfl, by simp [Y0u], R.hasF, rfl⟩, ⟨?_, gp, ?_, gf, (SlA.tag hS ⟨R.trs, R.gt⟩ (by omega)).1, R.gt, R.lX, fun i x t a b => SlA.tag hS (R.xs i x t a b) (by omega), lR', RowsOK.tag hS b1 (by omega), ?_⟩, Kept.tag hS (by omega), hS⟩
 ·congr 1; omega
 ·rw [Y0n]
  simp only [hF, X4, Xh]
  rfl
 ·rw [Y1l R.ne_pf, R.frs]
  simp only [hF, hR, rowsC_app _ _ _ _ lR', Xs]
 ·have := RowOK.tag hS b2 (by omega)
  rw [X05] at this
  exact this
end Rep
end
theorem Y5a {P : Program} {f : FuncId} {args : List AV} {h : Hp} {Q : Hp → AV → Prop} (H : FnO P f args h Q (fun _ _ => False)) : ∃ h' av, CallOK P f args h h' av ∧ Q h' av := by
 rcases H with H | ⟨_, _, _, H⟩
 ·exact H
 ·exact H.elim
theorem Y64 {P : Program} {f : FuncId} {args : List AV} {h : Hp} {Qp : Hp → List PanicEntry → Prop} (H : FnO P f args h (fun _ _ => False) Qp) : ∃ h' ch, Y03 P f args h h' ch ∧ Qp h' ch := by
 rcases H with ⟨_, _, _, H⟩ | H
 ·exact H.elim
 ·exact H
end Go.Abs
namespace Go.Proofs.YtkgfbpbndmklnaaDoor
open Go.Abs
def chM : List PanicEntry := [{ v := .iface 101 (.agg #[]), recovered := false }]
def Y1q (t : ByteArray) (i : Int) : Int := ((t.data.toList.getD i.toNat 0).toNat : Nat)
def Yh (t : ByteArray) (s : Ps) : Int := if s.at_ < (t.size : Nat) then Y1q t s.at_ else 0
def noT : Tn := ⟨0, 0, [], 0⟩
def depS (T : List Tn) (d i : Int) : Int := if (T.getD i.toNat noT).dep + 1 > d then (T.getD i.toNat noT).dep + 1 else d
def depOf (T : List Tn) (l : List Int) : Int := l.foldl (depS T) 1
def pAdd (op n : Int) (l : List Int) (s : Ps) : Ps := { s with T := s.T ++ [⟨op, n, l, depOf s.T l⟩] }
def pTerm (i : Int) (s : Ps) : Ps := { s with f := { s.f with terms := s.f.terms ++ [i] } }
def prec (op : Int) : Int := if op = 5 then 1 else if op = 2 then 2 else if op = 3 then 2 else if op = 4 then 3 else 4
structure LS (L L' : Lay) : Prop where
 p : L'.p = L.p
 fr : L'.fr = L.fr
 fv : L'.fv = L.fv
 R : L'.R = L.R
 G : L'.G = L.G
 xo : L'.ρ.xo = L.ρ.xo
theorem LS.refl (L : Lay) : LS L L := ⟨rfl, rfl, rfl, rfl, rfl, rfl⟩
theorem LS.trans {L L1 L2 : Lay} (a : LS L L1) (b : LS L1 L2) : LS L L2 := ⟨b.p.trans a.p, b.fr.trans a.fr, b.fv.trans a.fv, b.R.trans a.R, b.G.trans a.G, b.xo.trans a.xo⟩
section
variable {h : Hp} {g : Tag} {txt : ByteArray} {s : Ps} {L : Lay}
theorem c_stop (h : Hp) (p : Nat) : Y03 Tryd.prog 65 [.ref p 0 0] h h chM := by
 obtain ⟨h', ch, h1, rfl, rfl⟩ := Y64 (w_stop (h := h) (p := p) (Q := fun _ _ => False) (Qp := fun h' ch => h' = h ∧ ch = chM) ⟨rfl, rfl⟩)
 exact h1
theorem c_peek (R : Rep h g txt s L) (h0 : 0 ≤ s.at_) : CallOK Tryd.prog 59 [.ref L.p 0 0] h h (.int .u8 (Yh txt s)) := by
 obtain ⟨h', av, h1, rfl, rfl⟩ := Y5a (w_peek (h := h) (p := L.p) (Q := fun h' av => h' = h ∧ av = .int .u8 (Yh txt s)) (Qp := fun _ _ => False)
  ⟨R.has, s.at_, R.ldAt, txt, R.ldS, fun hb => ⟨Y1q txt s.at_, ⟨h0, by simpa using hb⟩, rfl, rfl, by rw [Yh, if_pos (by simpa using hb)]⟩, fun hb => ⟨rfl, by rw [Yh, if_neg (by simpa using hb)]⟩⟩)
 exact h1
theorem Y4r {n : Int} (h1 : -9223372036854775808 ≤ n) (h2 : n ≤ 9223372036854775807) : okA .i64 n := ⟨h1, h2⟩
theorem c_expect (R : Rep h g txt s L) {b : Int} (h0 : 0 ≤ s.at_) (h2 : s.at_ ≤ 1000000000) (hb : Yh txt s = b) :
  ∃ h', CallOK Tryd.prog 70 [.ref L.p 0 0, .int .u8 b] h h' (.tup []) ∧ Rep h' g txt { s with at_ := s.at_ + 1 } L ∧ Kept h g h' g := by
 obtain ⟨h3, q1, q2, q3⟩ := R.setAt (s.at_ + 1)
 obtain ⟨h', av, h1, rfl, rfl⟩ := Y5a (w_expect (h := h) (p := L.p) (a1 := b) (Q := fun h' av => h' = h3 ∧ av = .tup []) (Qp := fun _ _ => False)
  ⟨h, Yh txt s, c_peek R h0, fun e => by (rw [hb] at e; simp at e), fun _ => ⟨R.has, s.at_, R.ldAt, Y4r (by omega) (by omega), h3, q1, rfl, rfl⟩⟩)
 exact ⟨_, h1, q2, q3⟩
theorem c_expectX (R : Rep h g txt s L) {b : Int} (h0 : 0 ≤ s.at_) (hb : Yh txt s ≠ b) : Y03 Tryd.prog 70 [.ref L.p 0 0, .int .u8 b] h h chM := by
 obtain ⟨h', ch, h1, rfl, rfl⟩ := Y64 (w_expect (h := h) (p := L.p) (a1 := b) (Q := fun _ _ => False) (Qp := fun h' ch => h' = h ∧ ch = chM)
  ⟨h, Yh txt s, c_peek R h0, fun _ => .inr ⟨h, chM, c_stop h L.p, rfl, rfl⟩, fun e => absurd (by simpa using e) hb⟩)
 exact h1
theorem c_inner (R : Rep h g txt s L) (hn : s.F.length ≤ 1000000000) : CallOK Tryd.prog 66 [.ref L.p 0 0] h h (.ref L.fr L.fv (0 + s.F.length * 7)) := by
 obtain ⟨h', av, h1, rfl, rfl⟩ := Y5a (w_inner (h := h) (p := L.p) (Q := fun h' av => h' = h ∧ av = .ref L.fr L.fv (0 + s.F.length * 7)) (Qp := fun _ _ => False)
  ⟨R.has, .rsl L.fr L.fv 0 (s.F.length + 1), ⟨trivial, rfl⟩, R.ldF, s.F.length + 1, .inr (.inl ⟨_, _, _, rfl, R.hasF⟩), Y4r (by omega) (by omega), L.fr, L.fv, 0 + s.F.length * 7,
   .inl ⟨_, _, _, _, rfl, HasK.mk R.frs rfl rfl, by omega, by omega, by congr 2; omega⟩, rfl, rfl⟩)
 exact h1
theorem c_term (R : Rep h g txt s L) (i : Int) (hF : s.F.length ≤ 1000000000) (hn : s.f.terms.length ≤ 1000000000) :
  ∃ h' g' L', CallOK Tryd.prog 60 [.ref L.p 0 0, .int .i64 i] h h' (.tup []) ∧ Rep h' g' txt (pTerm i s) L' ∧ Kept h g h' g' ∧ LS L L' := by
 obtain ⟨r, hr⟩ := h.fresh
 obtain ⟨a1, a2, a3, a4⟩ := R.grow (t := 4) (rt := ⟨0, true, 3, 1, [.int .i64 i]⟩) (.inr rfl) hr
 obtain ⟨h1, y, b1, b2, b3, b4, h2, g2, b5, b6, b7⟩ := a2.appTerm i hn
 obtain ⟨h', av, c1, rfl, rfl⟩ := Y5a (w_term (h := h) (p := L.p) (a1 := i) (Q := fun h' av => h' = h2 ∧ av = .tup []) (Qp := fun _ _ => False)
  ⟨L.fr, L.fv, _, c_inner R hF, R.hasF, L.ρ.xt, R.row.2.1.1.nc, R.ldRow (k := 2) rfl, r, _, a1, h1, y, b2, b1, b3, b4, h2, b5, rfl, rfl⟩)
 exact ⟨_, g2, _, c1, b6, a3.trans b7, ⟨rfl, rfl, rfl, rfl, rfl, rfl⟩⟩
theorem SlA.after {h1 : Hp} {g1 : Tag} {x : AV} {e k n : Nat} {cs : List AV} (H : SlA h x e k n cs) (hg : ∀ r ∈ Y06 x, g r = 4) (K : Kept h g h1 g1) : SlA h1 x e k n cs ∧ ∀ r ∈ Y06 x, g1 r = 4 :=
 SlA.keep ⟨H, hg⟩ fun r hr hg => K r hr hg
def Val (T : List Tn) (l : List Int) : Prop := ∀ i ∈ l, 0 ≤ i ∧ i < (T.length : Nat)
def OkT (T : List Tn) : Prop := ∀ (i : Nat) (t : Tn), T[i]? = some t → 0 ≤ t.dep ∧ t.dep ≤ i + 1 ∧ ∀ o ∈ t.ops, 0 ≤ o ∧ o < (i : Nat)
theorem treesC_dep {T : List Tn} {X : List AV} (hl : X.length = T.length) {i : Nat} (hi : i < T.length) : (treesC T X)[i * 4 + 3]? = some (.int .i64 (T.getD i noT).dep) := by
 have h1 : T[i]? = some T[i] := X2 hi
 have h2 : X[i]? = some (X[i]'(by omega)) := X2 (by omega)
 have := treesC_get T X i _ _ h1 h2
 have e := congrArg (fun l : List AV => l[3]?) this
 simp only [Xk, X0w, treeC] at e
 rw [Vp] at e
 rw [e, X8, h1]
 rfl
theorem depOf_step {T : List Tn} {l : List Int} {k : Nat} (hk : k < l.length) : depOf T (l.take (k + 1)) = depS T (depOf T (l.take k)) (l.getD k 0) := by
 unfold depOf
 rw [List.take_add_one, X2 hk, List.foldl_append, X8, X2 hk]
 rfl
theorem depOf_le {T : List Tn} (hT : OkT T) : ∀ (l : List Int), Val T l → 1 ≤ depOf T l ∧ depOf T l ≤ T.length + 1 := by
 have key : ∀ (l : List Int) (d : Int), Val T l → 1 ≤ d → d ≤ T.length + 1 → 1 ≤ l.foldl (depS T) d ∧ l.foldl (depS T) d ≤ T.length + 1 := by
  intro l
  induction l with
  | nil => intro d _ h1 h2; exact ⟨h1, h2⟩
  | cons i l ih =>
   intro d hv h1 h2
   have hi := hv i (by simp)
   have hlt : i.toNat < T.length := by omega
   have hd := hT i.toNat _ (X2 hlt)
   have e : T.getD i.toNat noT = T[i.toNat] := by rw [X8, X2 hlt]; rfl
   refine ih _ (fun j hj => hv j (by simp [hj])) ?_ ?_
   ·unfold depS; split <;> omega
   ·unfold depS; rw [e]; split <;> omega
 exact fun l hv => key l 1 hv (by omega) (by omega)
theorem c_add (R : Rep h g txt s L) (op n : Int) {x : AV} {l : List Int} (hx : SlI h x l) (hg : ∀ r ∈ Y06 x, g r = 3) (hT : OkT s.T) (hv : Val s.T l) (hn : s.T.length ≤ 1000000000) (hl : l.length ≤ 1000000000) :
  ∃ h' g' L', CallOK Tryd.prog 63 [.ref L.p 0 0, .int .i64 op, .int .i64 n, x] h h' (.int .i64 (s.T.length : Nat)) ∧ Rep h' g' txt (pAdd op n l s) L' ∧ Kept h g h' g' ∧ LS L L' ∧ L'.ρ = L.ρ := by
 obtain ⟨r, hr⟩ := h.fresh
 obtain ⟨a1, a2, a3, a4⟩ := R.grow (t := 4) (rt := ⟨0, true, 64, 4, treeC ⟨op, n, l, depOf s.T l⟩ x⟩) (.inr rfl) hr
 have hx1 := SlA.keep (h1 := (r, ⟨0, true, 64, 4, treeC ⟨op, n, l, depOf s.T l⟩ x⟩) :: h) (g1 := upg g r 4) ⟨hx, hg⟩ (fun q hq hg => by
  have e : q ≠ r := fun e => hq (by rw [e]; exact hr)
  exact ⟨Y1l (fun e2 => e e2.symm) _ _, by rw [upg_ne g 4 e]; exact hg⟩)
 obtain ⟨h1, y, b1, b2, b3, b4, b5, h2, g2, b6, b7, b8, b9⟩ := a2.addTree ⟨op, n, l, depOf s.T l⟩ x hx1.1 hx1.2 hn
 have hp : pre_add h L.p op n x (fun h' av => h' = h2 ∧ av = .int .i64 (s.T.length : Nat)) (fun _ _ => False) := by
  refine ⟨l.length, hx.len, fun m d k h' => h' = h ∧ 0 ≤ k ∧ k ≤ (l.length : Nat) ∧ m = l.length - k.toNat ∧ d = depOf s.T (l.take k.toNat), ⟨l.length, rfl, by omega, by omega, by simp, by simp [depOf]⟩, ?_⟩
  rintro m d k h' ⟨rfl, k0, k1, rfl, rfl⟩
  refine ⟨fun hb => ?_, fun hb => ?_⟩
  ·have hk : k < (l.length : Nat) := by simpa using hb
   have hkn : k.toNat < l.length := by omega
   obtain ⟨r1, v1, o1, d1, d2⟩ := SlI.get hx k0 hk
   have hvi := hv (l.getD k.toNat 0) (by rw [X8, X2 hkn]; simp)
   obtain ⟨r2, v2, e1, e2, e3, _⟩ := SlA.ix R.trs hvi.1 hvi.2
   have hi : (l.getD k.toNat 0).toNat < s.T.length := by omega
   have hd := hT _ _ (X2 hi)
   have ed : s.T.getD (l.getD k.toNat 0).toNat noT = s.T[(l.getD k.toNat 0).toNat] := by rw [X8, X2 hi]; rfl
   refine ⟨r1, v1, o1, d1, _, d2, R.has, L.xt, R.trs.nc, R.ldT, r2, v2, _, e1, e2, _, e3 3 _ (by omega) (treesC_dep R.lX hi), Y4r (by rw [ed]; omega) (by rw [ed]; omega), Y4r (by omega) (by omega), l.length - (k + 1).toNat, by omega, rfl, by omega, by omega, rfl, ?_⟩
   rw [show (k + 1).toNat = k.toNat + 1 by omega, depOf_step hkn]
   rfl
  ·have hk : k.toNat = l.length := by
    have : ¬ k < (l.length : Nat) := by simpa using hb
    omega
   have e : l.take k.toNat = l := Xt (by omega)
   rw [e]
   refine ⟨R.has, L.xt, R.trs.nc, R.ldT, hx.one, r, _, a1, h1, y, b2, b1, b3, b4, h2, b6, b7.has, y, b2, b7.ldT, s.T.length + 1, ?_, Y4r (by omega) (by omega), rfl, ?_⟩
   ·have := b7.trs.len
    simpa using this
   ·congr 2
    push_cast
    omega
 obtain ⟨h', av, c1, rfl, rfl⟩ := Y5a (w_add hx.nc hp)
 exact ⟨_, g2, _, c1, b7, a3.trans b8, ⟨rfl, rfl, rfl, rfl, rfl, rfl⟩, rfl⟩
end
end Go.Proofs.YtkgfbpbndmklnaaDoor
namespace Go.Abs
section
section
variable {a x : AV} {h h' : Hp} {j : Int} {k r v : Nat}
theorem putA_mid {A row G : List AV} {n : Nat} {y : AV} (hA : A.length = n * 7) (hk : k < row.length) : putA (A ++ (row ++ G)) (0 + n * 7 + k) [y] = A ++ (row.set k y ++ G) := by
 unfold putA
 have d0 : A.drop (0 + n * 7 + k + [y].length) = [] := List.drop_eq_nil_of_le (by simp; omega)
 rw [X12, List.drop_append, hA, Xt (by omega), d0]
 rw [show 0 + n * 7 + k - n * 7 = k by omega, show 0 + n * 7 + k + [y].length - n * 7 = k + 1 by simp; omega]
 rw [X1a (by omega), List.drop_append_of_le_length (by omega)]
 rw [X1i, if_pos hk]
 simp
theorem Ld.of {o : Nat} (H : Ld h r v o a) (e : h'.at r = h.at r) : Ld h' r v o a := by
 obtain ⟨rt, h1, h2⟩ := H; exact ⟨rt, e.trans h1, h2⟩
theorem Has.of (H : Has h r v) (e : h'.at r = h.at r) : Has h' r v := by unfold Has at H ⊢; rw [e]; exact H
theorem Ix.root {o : Nat} (H : Ix h x k j (.ref r v o)) : r ∈ Y06 x := by
 rcases H with ⟨r', v', o', n, rfl, _, _, _, e⟩ | ⟨ys, n, rfl, _, _, e⟩
 ·cases e; simp [Y06]
 ·cases e
theorem Ix.of (H : Ix h x k j a) (e : ∀ r ∈ Y06 x, h'.at r = h.at r) : Ix h' x k j a := by
 rcases H with ⟨r', v', o', n, rfl, h1, h2⟩ | H
 ·exact .inl ⟨r', v', o', n, rfl, by unfold HasK at h1 ⊢; rw [e r' (by simp [Y06])]; exact h1, h2⟩
 ·exact .inr H
theorem Cut.of (H : Cut h x k j a) (e : ∀ r ∈ Y06 x, h'.at r = h.at r) : Cut h' x k j a := by
 obtain ⟨r', v', n, rfl, h1, h2⟩ := H
 exact ⟨r', v', n, rfl, by unfold HasK at h1 ⊢; rw [e r' (by simp [Y06])]; exact h1, h2⟩
theorem grow_at {q : Nat} {rt : Rt} (hq : h.at q = none) (hr : h.at r ≠ none) : Hp.at ((q, rt) :: h) r = h.at r := Y1l (fun e => hr (by rw [← e]; exact hq)) _ _
theorem SlA.oneSame {h1 : Hp} {D : List Nat} {e n : Nat} {cs : List AV} (H : SlA h x e k n cs) (hs : Same h h1 D) (hd : ∀ r ∈ Y06 x, r ∉ D) : oneA h1 x := (H.same hs hd).one
end
namespace Rep
variable {h h1 : Hp} {g g1 : Tag} {txt : ByteArray} {s : Ps} {L : Lay}
theorem moved2 (R : Rep h g txt s L) {t : Nat} (ht : 10 + 3 * s.F.length ≤ t ∧ t ≤ 12 + 3 * s.F.length) {g1 : Tag} (hs : ∀ r, h.at r ≠ none → g r ≠ t → h1.at r = h.at r ∧ g1 r = g r) (hg : ∀ r, h.at r ≠ none → g1 r = g r)
  {f' : Fr} {ρ' : Row} (hok : RowOK h1 g1 s.F.length f' ρ') {k k2 : Nat} {y y2 : AV} (hk : k < 7) (hk2 : k2 < 7) (hy : oneA h1 y) (hy2 : oneA h1 y2) (hd2 : ∀ r ∈ Y06 y2, r ≠ L.fr) (hy2' : ∀ h2, Same h1 h2 [L.fr] → (∀ r ∈ Y06 y2, r ∉ [L.fr]) → oneA h2 y2)
  (hrow : ((row7 s.f L.ρ).set k y).set k2 y2 = row7 f' ρ') :
  ∃ ha hb, St h1 L.fr L.fv (0 + s.F.length * 7 + k) y ha ∧ Has ha L.fr L.fv ∧ oneA ha y2 ∧ St ha L.fr L.fv (0 + s.F.length * 7 + k2) y2 hb ∧ Rep hb g1 txt { s with f := f' } { L with ρ := ρ' } ∧ Kept h g hb g1 := by
 have gp := R.gp
 have gf := R.gf
 have l7 : (row7 s.f L.ρ).length = 7 := rfl
 have fr1 := (hs L.fr (by rw [R.frs]; simp) (by omega)).1
 have e1 : putA (Y4j s.F L.R ++ (row7 s.f L.ρ ++ L.G)) (0 + s.F.length * 7 + k) (Y0u y) = Y4j s.F L.R ++ ((row7 s.f L.ρ).set k y ++ L.G) := by
  rw [Y48 hy]; exact putA_mid R.lenA (by omega)
 have hya : oneA ((L.fr, (⟨L.fv, true, 57, 7, Y4j s.F L.R ++ ((row7 s.f L.ρ).set k y ++ L.G)⟩ : Rt)) :: h1) y2 := hy2' _ (Same.cons _ _ _) (fun r hr => by simpa using hd2 r hr)
 have e2 : putA (Y4j s.F L.R ++ ((row7 s.f L.ρ).set k y ++ L.G)) (0 + s.F.length * 7 + k2) (Y0u y2) = Y4j s.F L.R ++ (row7 f' ρ' ++ L.G) := by
  rw [Y48 hy2, ← hrow]; exact putA_mid R.lenA (by simp; omega)
 have la := R.lenA
 refine ⟨(L.fr, (⟨L.fv, true, 57, 7, Y4j s.F L.R ++ ((row7 s.f L.ρ).set k y ++ L.G)⟩ : Rt)) :: h1, (L.fr, (⟨L.fv, true, 57, 7, Y4j s.F L.R ++ (row7 f' ρ' ++ L.G)⟩ : Rt)) :: (L.fr, (⟨L.fv, true, 57, 7, Y4j s.F L.R ++ ((row7 s.f L.ρ).set k y ++ L.G)⟩ : Rt)) :: h1,
  ⟨_, by rw [fr1]; exact R.frs, rfl, rfl, by rw [Y48 hy]; simp [row7]; omega, okC_one hy, by simp only [e1]⟩, Has.mk (Y0n _ _ _) rfl, hya, ⟨_, Y0n _ _ _, rfl, rfl, by rw [Y48 hy2]; simp [row7]; omega, okC_one hya, by simp only [e2]⟩, ?_⟩
 have hS : Same h1 ((L.fr, (⟨L.fv, true, 57, 7, Y4j s.F L.R ++ (row7 f' ρ' ++ L.G)⟩ : Rt)) :: (L.fr, (⟨L.fv, true, 57, 7, Y4j s.F L.R ++ ((row7 s.f L.ρ).set k y ++ L.G)⟩ : Rt)) :: h1) [L.fr] := fun r hr => by
  have e : L.fr ≠ r := fun e => hr (by simp [e])
  rw [Y1l e, Y1l e]
 have gf1 : g1 L.fr = 1 := (hg L.fr (by rw [R.frs]; simp)).trans gf
 have sl : ∀ {x : AV} {e k n t' : Nat} {cs : List AV}, (SlA h x e k n cs ∧ ∀ r ∈ Y06 x, g r = t') → t' ≠ t → SlA h1 x e k n cs ∧ ∀ r ∈ Y06 x, g1 r = t' := fun H n2 => SlA.keep H fun r hr hg' => by
  obtain ⟨a, b⟩ := hs r hr (by omega); exact ⟨a, b.trans hg'⟩
 have rws : RowsOK h1 g1 0 s.F L.R := RowsOK.keep R.rows fun r a b c => hs r a (by omega)
 have trs := sl ⟨R.trs, R.gt⟩ (by omega)
 refine ⟨⟨?_, ?_, Y0n _ _ _, gf1, (SlA.tag hS trs (by omega)).1, trs.2, R.lX, fun i x t' a b => SlA.tag hS (sl (R.xs i x t' a b) (by omega)) (by omega), R.lR, RowsOK.tag hS rws (by omega), RowOK.tag hS hok (by omega)⟩, fun r hr hg' => ?_⟩
 ·rw [hS _ (by simpa using R.ne_pf), (hs L.p (by rw [R.box]; simp) (by omega)).1]; exact R.box
 ·exact (hg L.p (by rw [R.box]; simp)).trans gp
 ·obtain ⟨a, b⟩ := hs r hr (by omega)
  refine ⟨?_, b.trans hg'⟩
  rw [hS r (by simp only [Xd]; intro e; rw [e] at hg'; omega)]
  exact a
end Rep
end
end Go.Abs
namespace Go.Proofs.YtkgfbpbndmklnaaDoor
open Go.Abs
def jStep (s : Ps) : Ps :=
 { pAdd (s.f.signs.getD (s.f.terms.length - 2) 0) 0 [s.f.terms.getD (s.f.terms.length - 2) 0, s.f.terms.getD (s.f.terms.length - 1) 0] s with
  f := { s.f with signs := s.f.signs.take (s.f.terms.length - 2), terms := s.f.terms.take (s.f.terms.length - 2) ++ [(s.T.length : Int)] } }
def Y0v (least : Int) : Nat → Ps → Ps
 | 0, s => s
 | k + 1, s => if 0 < s.f.signs.length ∧ least ≤ prec (s.f.signs.getD (s.f.signs.length - 1) 0) then Y0v least k (jStep s) else s
structure InvJ (s : Ps) : Prop where
 okT : OkT s.T
 val : Val s.T s.f.terms
 len : s.f.terms.length = s.f.signs.length + 1
 bT : s.T.length + s.f.signs.length ≤ 900000000
 bF : s.F.length ≤ 900000000
section
variable {h : Hp} {g : Tag} {txt : ByteArray} {s : Ps} {L : Lay}
theorem okT_add {T : List Tn} (hT : OkT T) {op n : Int} {l : List Int} (hv : Val T l) : OkT (T ++ [⟨op, n, l, depOf T l⟩]) := by
 intro i t hi
 by_cases e : i < T.length
 ·rw [X0f e] at hi; exact hT i t hi
 ·have := (Xm.1 hi).1
  simp at this
  have e2 : i = T.length := by omega
  subst e2
  rw [X04 (Xf _)] at hi
  simp at hi
  subst hi
  have := depOf_le hT l hv
  exact ⟨by simp only; omega, by simp only; omega, fun o ho => hv o ho⟩
theorem InvJ.step (I : InvJ s) (h0 : 0 < s.f.signs.length) : InvJ (jStep s) ∧ (jStep s).f.signs.length + 1 = s.f.signs.length := by
 have hl := I.len
 have hb := I.bT
 have m : ∀ j, j < s.f.terms.length → 0 ≤ s.f.terms.getD j 0 ∧ s.f.terms.getD j 0 < (s.T.length : Nat) := fun j hj => I.val _ (by rw [X8, X2 hj]; simp)
 refine ⟨⟨okT_add I.okT ?_, ?_, ?_, ?_, I.bF⟩, ?_⟩
 ·intro i hi
  simp only [X00, X09, or_false] at hi
  rcases hi with rfl | rfl
  ·exact m _ (by omega)
  ·exact m _ (by omega)
 ·intro i hi
  simp only [jStep, pAdd, Xw, Xd, X4, Xh] at hi ⊢
  rcases hi with hi | rfl
  ·have := I.val i (X0y hi); omega
  ·omega
 ·simp only [jStep, X4, X0c, Xh]; omega
 ·simp only [jStep, pAdd, X4, X0c, Xh]; omega
 ·simp only [jStep, X0c]; omega
theorem c_prec (h : Hp) (op : Int) : CallOK Tryd.prog 68 [.int .i64 op] h h (.int .i64 (prec op)) := by
 obtain ⟨h', av, h1, rfl, rfl⟩ := Y5a (w_precedence (h := h) (a0 := op) (Q := fun h' av => h' = h ∧ av = .int .i64 (prec op)) (Qp := fun _ _ => False) (by
  unfold pre_precedence prec
  refine ⟨fun e => ⟨rfl, by rw [if_pos (by simpa using e)]⟩, fun e => ?_⟩
  have e1 : ¬ op = 5 := by simpa using e
  rw [if_neg e1]
  refine ⟨fun e => ⟨rfl, by rw [if_pos (by simpa using e)]⟩, fun e => ?_⟩
  have e1 : ¬ op = 2 := by simpa using e
  rw [if_neg e1]
  refine ⟨fun e => ⟨rfl, by rw [if_pos (by simpa using e)]⟩, fun e => ?_⟩
  have e1 : ¬ op = 3 := by simpa using e
  rw [if_neg e1]
  refine ⟨fun e => ⟨rfl, by rw [if_pos (by simpa using e)]⟩, fun e => ?_⟩
  have e1 : ¬ op = 4 := by simpa using e
  rw [if_neg e1]
  exact ⟨rfl, rfl⟩))
 exact h1
theorem c_join (R : Rep h g txt s L) (I : InvJ s) (least : Int) :
  ∃ h' g' L', CallOK Tryd.prog 67 [.ref L.p 0 0, .int .i64 least] h h' (.tup []) ∧ Rep h' g' txt (Y0v least s.f.signs.length s) L' ∧ Kept h g h' g' ∧ LS L L' := by
 have hp : pre_join h L.p least (fun h' av => av = .tup [] ∧ ∃ g' L', Rep h' g' txt (Y0v least s.f.signs.length s) L' ∧ Kept h g h' g' ∧ LS L L') (fun _ _ => False) := by
  refine ⟨L.fr, L.fv, _, c_inner R (by have := I.bF; omega), fun m h' => ∃ g' L' s', Rep h' g' txt s' L' ∧ Kept h g h' g' ∧ LS L L' ∧ InvJ s' ∧ m = s'.f.signs.length ∧ s'.F.length = s.F.length ∧ Y0v least m s' = Y0v least s.f.signs.length s,
   ⟨_, g, L, s, R, Kept.refl _ _, LS.refl _, I, rfl, rfl, rfl⟩, ?_⟩
  rintro m h5 ⟨g', L', s', R', K', S', I', rfl, hF, hJ⟩
  have ep : L'.p = L.p := S'.p
  have ef : L'.fr = L.fr := S'.fr
  have ev : L'.fv = L.fv := S'.fv
  rw [← hF, ← ef, ← ev]
  have hl := I'.len
  have hb := I'.bT
  have stop : ¬ (0 < s'.f.signs.length ∧ least ≤ prec (s'.f.signs.getD (s'.f.signs.length - 1) 0)) → ∃ g' L', Rep h5 g' txt (Y0v least s.f.signs.length s) L' ∧ Kept h g h5 g' ∧ LS L L' := fun hn => by
   have e : Y0v least s'.f.signs.length s' = s' := by
    cases hk : s'.f.signs.length with
    | zero => rfl
    | succ k => rw [Y0v, if_neg hn]
   rw [← hJ, e]
   exact ⟨g', L', R', K', S'⟩
  refine ⟨R'.hasF, L'.ρ.xs, R'.row.2.2.1.nc, R'.ldRow (k := 3) rfl, s'.f.signs.length, R'.row.2.2.1.len, fun hb0 => ?_, fun hb0 => ⟨rfl, stop (fun ⟨a, _⟩ => by have := of_decide_eq_false hb0; omega)⟩⟩
  have h0 : 0 < s'.f.signs.length := by have := of_decide_eq_true hb0; omega
  obtain ⟨r1, v1, o1, b1, b2⟩ := SlI.get R'.row.2.2.1 (j := ((s'.f.signs.length : Nat) : Int) - 1) (by omega) (by omega)
  rw [show (((s'.f.signs.length : Nat) : Int) - 1).toNat = s'.f.signs.length - 1 by omega] at b2
  refine ⟨Y4r (by omega) (by omega), r1, v1, o1, b1, _, b2, _, c_prec h5 _, fun hb1 => ?_, fun hb1 => ⟨rfl, stop (fun ⟨_, b⟩ => of_decide_eq_false hb1 b)⟩⟩
  have hle : least ≤ prec (s'.f.signs.getD (s'.f.signs.length - 1) 0) := of_decide_eq_true hb1
  -- the last sign and the last two terms
  have en : s'.f.terms.length - 2 = s'.f.signs.length - 1 := by omega
  obtain ⟨r2, v2, o2, c1, c2⟩ := SlI.get R'.row.2.2.1 (j := ((s'.f.terms.length : Nat) : Int) - 2) (by omega) (by omega)
  obtain ⟨r3, v3, o3, d1, d2⟩ := SlI.get R'.row.2.1.1 (j := ((s'.f.terms.length : Nat) : Int) - 2) (by omega) (by omega)
  obtain ⟨r4, v4, o4, e1, e2⟩ := SlI.get R'.row.2.1.1 (j := ((s'.f.terms.length : Nat) : Int) - 1) (by omega) (by omega)
  rw [show (((s'.f.terms.length : Nat) : Int) - 2).toNat = s'.f.terms.length - 2 by omega] at c2 d2
  rw [show (((s'.f.terms.length : Nat) : Int) - 1).toNat = s'.f.terms.length - 1 by omega] at e2
  -- the operands
  obtain ⟨q, hq⟩ := h5.fresh
  obtain ⟨a1, a2, a3, a4⟩ := R'.grow (t := 3) (rt := ⟨0, true, 3, 1, [.int .i64 (s'.f.terms.getD (s'.f.terms.length - 2) 0), .int .i64 (s'.f.terms.getD (s'.f.terms.length - 1) 0)]⟩) (.inl rfl) hq
  have hx : SlI ((q, (⟨0, true, 3, 1, [.int .i64 (s'.f.terms.getD (s'.f.terms.length - 2) 0), .int .i64 (s'.f.terms.getD (s'.f.terms.length - 1) 0)]⟩ : Rt)) :: h5) (.rsl q 0 0 2) [s'.f.terms.getD (s'.f.terms.length - 2) 0, s'.f.terms.getD (s'.f.terms.length - 1) 0] :=
   .inr ⟨q, 0, _, rfl, Y0n _ _ _, rfl, rfl, rfl, rfl, rfl, rfl⟩
  have hvl : Val s'.T [s'.f.terms.getD (s'.f.terms.length - 2) 0, s'.f.terms.getD (s'.f.terms.length - 1) 0] := by
   have m : ∀ j, j < s'.f.terms.length → 0 ≤ s'.f.terms.getD j 0 ∧ s'.f.terms.getD j 0 < (s'.T.length : Nat) := fun j hj => I'.val _ (by rw [X8, X2 hj]; simp)
   intro i hi
   simp only [X00, X09, or_false] at hi
   rcases hi with rfl | rfl
   ·exact m _ (by omega)
   ·exact m _ (by omega)
  obtain ⟨h6, g6, L6, f1, f2, f3, f4, f5⟩ := c_add a2 (s'.f.signs.getD (s'.f.terms.length - 2) 0) 0 hx (fun r hr => by simp only [Y06, Xd] at hr; rw [hr]; exact a4) I'.okT hvl (by omega) (by simp)
  have ef6 : L6.fr = L'.fr := f4.fr
  have ev6 : L6.fv = L'.fv := f4.fv
  -- the slices, cut
  have w1 : SlI h6 L6.ρ.xs s'.f.signs := f2.row.2.2.1
  have w2 : SlI h6 L6.ρ.xt s'.f.terms := f2.row.2.1.1
  obtain ⟨y1, i1, i2, i3, i4⟩ := SlI.cut w1 (j := ((s'.f.terms.length : Nat) : Int) - 2) (by omega) (by omega) h0
  obtain ⟨y2, j1, j2, j3, j4⟩ := SlI.cut w2 (j := ((s'.f.terms.length : Nat) : Int) - 2) (by omega) (by omega) (by omega)
  rw [show (((s'.f.terms.length : Nat) : Int) - 2).toNat = s'.f.terms.length - 2 by omega] at i3 j3
  have gy1 : ∀ r ∈ Y06 y1, g6 r = 12 + 3 * s'.F.length := fun r hr => f2.row.2.2.2 r (by rw [← i4]; exact hr)
  have gy2 : ∀ r ∈ Y06 y2, g6 r = 11 + 3 * s'.F.length := fun r hr => f2.row.2.1.2 r (by rw [← j4]; exact hr)
  -- the new term
  obtain ⟨q7, hq7⟩ := h6.fresh
  obtain ⟨k1, k2, k3, k4⟩ := f2.grow (t := 4) (rt := ⟨0, true, 3, 1, [.int .i64 ((s'.T.length : Nat) : Int)]⟩) (.inr rfl) hq7
  have up : ∀ {x : AV} {l : List Int} {t : Nat}, (SlI h6 x l ∧ ∀ r ∈ Y06 x, g6 r = t) → SlI ((q7, (⟨0, true, 3, 1, [.int .i64 ((s'.T.length : Nat) : Int)]⟩ : Rt)) :: h6) x l ∧ ∀ r ∈ Y06 x, upg g6 q7 4 r = t := fun H => SlA.keep H fun r hr hg => by
   have e : r ≠ q7 := fun e => hr (by rw [e]; exact hq7)
   exact ⟨Y1l (fun e2 => e e2.symm) _ _, by rw [upg_ne _ 4 e]; exact hg⟩
  have z1 := up ⟨i3, gy1⟩
  have z2 := up ⟨j3, gy2⟩
  obtain ⟨h9, y9, q9, l1, l2, l3, l4, l5, l6, l7, l8, l9, l10⟩ := k2.growRow (t := 11 + 3 * s'.F.length) z2.1 z2.2 ⟨by show 10 + 3 * s'.F.length ≤ _; omega, by show _ ≤ 12 + 3 * s'.F.length; omega⟩ ((s'.T.length : Nat) : Int) (by simp; omega) (fun _ _ => trivial)
  have z1' := SlA.keep z1 (h1 := h9) (g1 := upg (upg g6 q7 4) q9 (11 + 3 * s'.F.length)) (fun r hr hg => by obtain ⟨a, b⟩ := l9 r hr (by omega); exact ⟨a, b.trans hg⟩)
  have xo' := SlA.keep k2.row.1 (h1 := h9) (g1 := upg (upg g6 q7 4) q9 (11 + 3 * s'.F.length)) (fun r hr hg => by
   have hg' : upg g6 q7 4 r = 10 + 3 * s'.F.length := hg
   obtain ⟨a, b⟩ := l9 r hr (by omega); exact ⟨a, b.trans hg⟩)
  have gfr : g6 L6.fr = 1 := f2.gf
  have gq9 : upg (upg g6 q7 4) q9 (11 + 3 * s'.F.length) q9 = 11 + 3 * s'.F.length := upg_self _ _ _
  have gfr9 : upg (upg g6 q7 4) q9 (11 + 3 * s'.F.length) L6.fr = 1 := (l10 L6.fr (by
   have := k2.frs
   rw [this]; simp)).trans k2.gf
  obtain ⟨h84, h88, m1, m2, m3, m4, m5, m6⟩ := k2.moved2 (t := 11 + 3 * s'.F.length) ⟨by show 10 + 3 * s'.F.length ≤ _; omega, by show _ ≤ 12 + 3 * s'.F.length; omega⟩ l9 l10
   (f' := { s'.f with signs := s'.f.signs.take (s'.f.terms.length - 2), terms := s'.f.terms.take (s'.f.terms.length - 2) ++ [((s'.T.length : Nat) : Int)] }) (ρ' := { L6.ρ with xs := y1, xt := y9 })
   ⟨xo', ⟨l5, l7⟩, z1'⟩ (k := 3) (k2 := 2) (by omega) (by omega) z1'.1.one l4 (fun r hr e => by
    rw [l6] at hr
    simp only [Xd] at hr
    have e9 : L6.fr = q9 := (hr.symm.trans e).symm
    rw [e9, upg_self] at gfr9
    omega) (fun h2 hs hd => SlA.oneSame l5 hs hd) rfl
  have n1 : L6.ρ.xs = L'.ρ.xs := by rw [f5]
  have n2 : L6.ρ.xt = L'.ρ.xt := by rw [f5]
  rw [← ef6, ← ev6]
  have fr7 : h9.at L6.fr = Hp.at ((q7, (⟨0, true, 3, 1, [.int .i64 ((s'.T.length : Nat) : Int)]⟩ : Rt)) :: h6) L6.fr := (l9 L6.fr (by have := k2.frs; rw [this]; simp) (by have := k2.gf; omega)).1
  have xs9 : ∀ r ∈ Y06 L6.ρ.xs, h9.at r = Hp.at ((q7, (⟨0, true, 3, 1, [.int .i64 ((s'.T.length : Nat) : Int)]⟩ : Rt)) :: h6) r := fun r hr => (l9 r (k2.row.2.2.1.dom r hr) (by have := k2.row.2.2.2 r hr; have e : upg g6 q7 4 r = 12 + 3 * s'.F.length := this; omega)).1
  have xs7 : ∀ r ∈ Y06 L6.ρ.xs, Hp.at ((q7, (⟨0, true, 3, 1, [.int .i64 ((s'.T.length : Nat) : Int)]⟩ : Rt)) :: h6) r = h6.at r := fun r hr => grow_at hq7 (w1.dom r hr)
  have xt7 : ∀ r ∈ Y06 L6.ρ.xt, Hp.at ((q7, (⟨0, true, 3, 1, [.int .i64 ((s'.T.length : Nat) : Int)]⟩ : Rt)) :: h6) r = h6.at r := fun r hr => grow_at hq7 (w2.dom r hr)
  refine ⟨L'.ρ.xt, R'.row.2.1.1.nc, by rw [ef6, ev6]; exact R'.ldRow (k := 2) rfl, s'.f.terms.length, R'.row.2.1.1.len, Y4r (by omega) (by omega), r2, v2, o2, c1, _, c2, r3, v3, o3, d1, _, d2, Y4r (by omega) (by omega), r4, v4, o4, e1, _, e2, q, _, a1, h6, _, by rw [← ep]; exact f1,
   by rw [ef6, ev6]; exact a2.hasF, by rw [ef6, ev6]; exact a2.ldRow (k := 3) rfl, c1.of (fun r hr => grow_at hq (R'.row.2.2.1.dom r hr)), c2.of (grow_at hq (R'.row.2.2.1.dom r2 c1.root)), f2.hasF, L6.ρ.xs, w1.nc, f2.ldRow (k := 3) rfl, y1, i1, i2, L6.ρ.xt, w2.nc, f2.ldRow (k := 2) rfl, y2, j1, j2, q7, _, k1, h9, y9, l2, l1, l3, z1'.1.one, h84, m1, m2, m3, h88, m4,
   k2.hasF, k2.ldRow (k := 3) rfl, (k2.ldRow (k := 3) rfl).of fr7, i2.of xs7, (i2.of xs7).of xs9, k2.ldRow (k := 2) rfl, j2.of xt7, ?_⟩
  obtain ⟨J1, J2⟩ := I'.step h0
  refine ⟨(jStep s').f.signs.length, by omega, _, _, jStep s', m5, (K'.trans (a3.trans f3)).trans (k3.trans m6), S'.trans (f4.trans ⟨rfl, rfl, rfl, rfl, rfl, rfl⟩), J1, rfl, rfl, ?_⟩
  rw [← hJ]
  have e : s'.f.signs.length = (jStep s').f.signs.length + 1 := by omega
  rw [e, Y0v, if_pos ⟨h0, hle⟩]
 obtain ⟨h', av, c1, rfl, g', L', c2, c3, c4⟩ := Y5a (w_join hp)
 exact ⟨h', g', L', c1, c2, c3, c4⟩
end
end Go.Proofs.YtkgfbpbndmklnaaDoor
namespace Go.Abs
section
def KeptE (e : List Nat) (h : Hp) (g : Tag) (h' : Hp) (g' : Tag) : Prop := ∀ r, r ∉ e → h.at r ≠ none → g r = 4 → h'.at r = h.at r ∧ g' r = 4
theorem Kept.toE {e : List Nat} {h h' : Hp} {g g' : Tag} (K : Kept h g h' g') : KeptE e h g h' g' := fun r _ a b => K r a b
theorem KeptE.trans {e : List Nat} {h h1 h2 : Hp} {g g1 g2 : Tag} (a : KeptE e h g h1 g1) (b : KeptE e h1 g1 h2 g2) : KeptE e h g h2 g2 := fun r he hr hg => by
 obtain ⟨a1, a2⟩ := a r he hr hg
 obtain ⟨b1, b2⟩ := b r he (by rw [a1]; exact hr) a2
 exact ⟨b1.trans a1, b2⟩
theorem KeptE.done {e : List Nat} {h h' : Hp} {g g' : Tag} (K : KeptE e h g h' g') (he : ∀ r ∈ e, h.at r = none) : Kept h g h' g' := fun r hr hg => K r (fun hm => hr (he r hm)) hr hg
namespace Rep
variable {h h1 : Hp} {g g1 : Tag} {txt : ByteArray} {s : Ps} {L : Lay}
theorem retag (R : Rep h g txt s L) {q : Nat} (hq : g q = 4 ∨ 10 + 3 * (s.F.length + 1) ≤ g q) : Rep h (upg g q 3) txt s L := by
 have gp := R.gp
 have gf := R.gf
 have ne : ∀ r, g r ≠ 4 → g r < 10 + 3 * (s.F.length + 1) → upg g q 3 r = g r := fun r h4 hl => upg_ne g 3 (fun e => by rw [e] at h4 hl; omega)
 have sl : ∀ {x : AV} {t' : Nat}, (∀ r ∈ Y06 x, g r = t') → t' ≠ 4 → t' < 10 + 3 * (s.F.length + 1) → ∀ r ∈ Y06 x, upg g q 3 r = t' := fun H h4 hl r hr => by rw [ne r (by rw [H r hr]; exact h4) (by rw [H r hr]; exact hl)]; exact H r hr
 exact ⟨R.box, by rw [ne _ (by omega) (by omega)]; exact gp, R.frs, by rw [ne _ (by omega) (by omega)]; exact gf, R.trs, sl R.gt (by omega) (by omega), R.lX, fun i x t a b => ⟨(R.xs i x t a b).1, sl (R.xs i x t a b).2 (by omega) (by omega)⟩, R.lR,
  RowsOK.keep R.rows fun r _ a b => ⟨rfl, ne r (by omega) (by omega)⟩, RowOK.keep R.row fun r _ a => ⟨rfl, ne r (by omega) (by omega)⟩⟩
theorem growOther (R : Rep h g txt s L) {x : AV} {l : List Int} (hx : SlI h x l) (hg : ∀ r ∈ Y06 x, g r = 4) {q : Nat} (hxq : Y06 x = [q]) (v : Int) (hn : l.length ≤ 1000000000) :
  ∃ h1 y, App h x 3 1 8 1 [.int .i64 v] h1 y ∧ NC y ∧ SlI h1 y (l ++ [v]) ∧ Y06 y = [q] ∧ Rep h1 g txt s L ∧ KeptE [q] h g h1 g := by
 obtain ⟨h1, y, q', a1, a2, a3, a4, a5, a6⟩ := SlI.app hx v (by omega)
 have e : q' = q := by
  rcases a6 with a6 | ⟨a6, _⟩
  ·rw [hxq] at a6; simpa using a6.symm
  ·rw [hxq] at a6; cases a6
 subst e
 have gq : g q' = 4 := hg q' (by rw [hxq]; simp)
 have gp := R.gp
 have gf := R.gf
 refine ⟨h1, y, a1, a2, a3, a4, ⟨by rw [Same.tag (D := []) (g := g) a5 (by omega)]; exact R.box, gp, by rw [Same.tag (D := []) (g := g) a5 (by omega)]; exact R.frs, gf, (SlA.tag a5 ⟨R.trs, R.gt⟩ (by omega)).1, R.gt, R.lX, fun i x t a b => SlA.tag a5 (R.xs i x t a b) (by omega), R.lR, RowsOK.tag a5 R.rows (by omega), RowOK.tag a5 R.row (by omega)⟩,
  fun r hr _ hg' => ⟨a5 r hr, hg'⟩⟩
end Rep
end
end Go.Abs
namespace Go.Proofs.YtkgfbpbndmklnaaDoor
open Go.Abs
inductive Res (α : Type) where
 | ok (s : Ps) (a : α)
 | bad (s : Ps)
def Out {α : Type} (f : FuncId) (args : List AV) (av : α → AV) (h : Hp) (g : Tag) (txt : ByteArray) (L : Lay) (rel : Lay → Lay → Prop) : Res α → Prop
 | .ok s' a => ∃ h' g' L', CallOK Tryd.prog f args h h' (av a) ∧ Rep h' g' txt s' L' ∧ Kept h g h' g' ∧ rel L L'
 | .bad s' => ∃ h' g' L', Y03 Tryd.prog f args h h' chM ∧ Rep h' g' txt s' L' ∧ Kept h g h' g' ∧ L'.p = L.p
abbrev OkQ {α : Type} (r : Res α) (av : α → AV) (h : Hp) (g : Tag) (txt : ByteArray) (L : Lay) (rel : Lay → Lay → Prop) : Hp → AV → Prop := fun h' v => ∃ s' a g' L', r = .ok s' a ∧ v = av a ∧ Rep h' g' txt s' L' ∧ Kept h g h' g' ∧ rel L L'
abbrev BadQ {α : Type} (r : Res α) (h : Hp) (g : Tag) (txt : ByteArray) (L : Lay) : Hp → List PanicEntry → Prop := fun h' ch => ∃ s' g' L', r = .bad s' ∧ ch = chM ∧ Rep h' g' txt s' L' ∧ Kept h g h' g' ∧ L'.p = L.p
theorem Out.of {α : Type} {f : FuncId} {args : List AV} {av : α → AV} {h : Hp} {g : Tag} {txt : ByteArray} {L : Lay} {rel : Lay → Lay → Prop} {r : Res α} (H : FnO Tryd.prog f args h (OkQ r av h g txt L rel) (BadQ r h g txt L)) : Out f args av h g txt L rel r := by
 rcases H with ⟨h', v, h1, s', a, g', L', rfl, rfl, h2, h3, h4⟩ | ⟨h', ch, h1, s', g', L', rfl, rfl, h2, h3, h4⟩
 ·exact ⟨h', g', L', h1, h2, h3, h4⟩
 ·exact ⟨h', g', L', h1, h2, h3, h4⟩
section
variable {h : Hp} {g : Tag} {txt : ByteArray} {s : Ps} {L : Lay}
theorem Y2r (least : Int) : ∀ (k : Nat) (s : Ps), InvJ s → k = s.f.signs.length → InvJ (Y0v least k s) ∧ (Y0v least k s).F = s.F ∧ (Y0v least k s).at_ = s.at_ ∧ (Y0v least k s).f.op = s.f.op ∧ (Y0v least k s).f.ops = s.f.ops
 | 0, s, I, _ => ⟨I, rfl, rfl, rfl, rfl⟩
 | k + 1, s, I, hk => by
  rw [Y0v]
  split
  ·rename_i hc
   obtain ⟨a, b⟩ := I.step hc.1
   obtain ⟨c1, c2, c3, c4, c5⟩ := Y2r least k (jStep s) a (by omega)
   exact ⟨c1, c2, c3, c4, c5⟩
  ·exact ⟨I, rfl, rfl, rfl, rfl⟩
def pOperand (s : Ps) : Ps := { Y0v 0 s.f.signs.length s with f := { (Y0v 0 s.f.signs.length s).f with terms := [] } }
def Y13 (s : Ps) : Int := (Y0v 0 s.f.signs.length s).f.terms.getD 0 0
theorem c_operand (R : Rep h g txt s L) (I : InvJ s) :
  ∃ h' g' L', CallOK Tryd.prog 51 [.ref L.p 0 0] h h' (.int .i64 (Y13 s)) ∧ Rep h' g' txt (pOperand s) L' ∧ Kept h g h' g' ∧ LS L L' := by
 obtain ⟨h1, g1, L1, a1, a2, a3, a4⟩ := c_join R I 0
 obtain ⟨b1, b2, _⟩ := Y2r 0 _ s I rfl
 have hl := b1.len
 obtain ⟨r, v, o, d1, d2⟩ := SlI.get a2.row.2.1.1 (j := 0) (by omega) (by omega)
 obtain ⟨h2, e1, e2, e3⟩ := a2.stRow (k := 2) (y := nilA) (f' := { (Y0v 0 s.f.signs.length s).f with terms := [] }) (ρ' := { L1.ρ with xt := nilA }) (by omega) rfl rfl ⟨a2.row.1, ⟨SlI.nil _, fun r hr => by simp [Y06] at hr⟩, a2.row.2.2⟩
 have hin := c_inner a2 (by have := b1.bF; omega)
 rw [a4.p] at hin
 obtain ⟨h', av, c1, rfl, rfl⟩ := Y5a (w_operand (h := h) (p := L.p) (Q := fun h' av => h' = h2 ∧ av = .int .i64 (Y13 s)) (Qp := fun _ _ => False)
  ⟨h1, a1, L1.fr, L1.fv, _, hin, a2.hasF, L1.ρ.xt, a2.row.2.1.1.nc, a2.ldRow (k := 2) rfl, r, v, o, d1, _, d2, h2, e1, rfl, rfl⟩)
 exact ⟨_, g1, _, c1, e2, a3.trans e3, a4.trans ⟨rfl, rfl, rfl, rfl, rfl, rfl⟩⟩
def pDig (t : ByteArray) : Nat → Int → Int → Ps → Int × Int × Ps
 | 0, n, d, s => (n, d, s)
 | k + 1, n, d, s => if Yh t s < 48 ∨ 57 < Yh t s ∨ (0 < d ∧ n = 0) then (n, d, s) else pDig t k (10 * n + (Yh t s - 48)) (d + 1) { s with at_ := s.at_ + 1 }
def NB (d n : Int) : Prop := 0 ≤ n ∧ ((d = 0 ∧ n = 0) ∨ (d = 1 ∧ n ≤ 9) ∨ (d = 2 ∧ n ≤ 99) ∨ (d = 3 ∧ n ≤ 999) ∨ (d = 4 ∧ n ≤ 9999) ∨ (d = 5 ∧ n ≤ 99999))
def Y14 (t : ByteArray) (s : Ps) : Res Int :=
 if (pDig t 5 0 0 s).2.1 = 0 then .bad (pDig t 5 0 0 s).2.2 else .ok (pAdd 0 (pDig t 5 0 0 s).1 [] (pDig t 5 0 0 s).2.2) ((pDig t 5 0 0 s).2.2.T.length : Nat)
theorem wrapD {x : Int} (h1 : 48 ≤ x) (h2 : x ≤ 57) : IntKind.wrap .i64 (nw .u8 (x - 48)) = x - 48 := by
 have e : nw .u8 (x - 48) = x - 48 := by
  show (x - 48) % 256 = x - 48
  omega
 rw [e]
 exact IntWalk.i64_in _ (by omega)
theorem c_number (R : Rep h g txt s L) (h0 : 0 ≤ s.at_) (h2 : s.at_ ≤ 900000000) (hT : OkT s.T) (hn : s.T.length ≤ 1000000000) : Out 61 [.ref L.p 0 0] (fun i => .int .i64 i) h g txt L LS (Y14 txt s) := by
 refine Out.of (w_number (h := h) (p := L.p) ?_)
 refine ⟨fun n d _ h1 => ∃ s1, Rep h1 g txt s1 L ∧ Kept h g h1 g ∧ (n, d, s1) = pDig txt 5 0 0 s ∧ s1.T = s.T, ?_, fun m n d h1 => ∃ s1, Rep h1 g txt s1 L ∧ Kept h g h1 g ∧ 0 ≤ d ∧ d ≤ 5 ∧ NB d n ∧ m = 5 - d.toNat ∧ pDig txt m n d s1 = pDig txt 5 0 0 s ∧ s1.T = s.T ∧ 0 ≤ s1.at_ ∧ s1.at_ ≤ s.at_ + d,
  ⟨5, s, R, Kept.refl _ _, by omega, by omega, ⟨by omega, .inl ⟨rfl, rfl⟩⟩, rfl, rfl, rfl, h0, by omega⟩, ?_⟩
 ·rintro n d b h1 ⟨s1, R1, K1, he, hT1⟩
  unfold Y14
  rw [← he]
  refine ⟨fun hd => .inr ⟨h1, chM, c_stop h1 L.p, s1, g, L, ?_, rfl, R1, K1, rfl⟩, fun hd => ?_⟩
  ·rw [if_pos (by simpa using hd)]
  ·obtain ⟨h3, g3, L3, a1, a2, a3, a4, a5⟩ := c_add R1 0 n (SlI.nil h1) (fun r hr => by simp [Y06] at hr) (by rw [hT1]; exact hT) (fun i hi => by simp at hi) (by rw [hT1]; exact hn) (by simp)
   exact ⟨h3, _, a1, _, _, g3, L3, by rw [if_neg (by simpa using hd)], rfl, a2, K1.trans a3, a4⟩
 ·rintro m n d h1 ⟨s1, R1, K1, d0, d5, nb, rfl, he, hT1, p0, p1⟩
  refine ⟨fun hd => ⟨h1, _, c_peek R1 p0, fun b => b = (decide (Yh txt s1 < 48) || (decide (57 < Yh txt s1) || (decide (0 < d) && n == 0))), ?_, ?_⟩, fun hd => ⟨s1, R1, K1, ?_, hT1⟩⟩
  ·have hd5 : d < 5 := of_decide_eq_true hd
   have em : 5 - d.toNat = (5 - (d + 1).toNat) + 1 := by omega
   rintro b rfl
   refine ⟨fun hb => ⟨s1, R1, K1, ?_, hT1⟩, fun hb => ?_⟩
   ·rw [← he, em, pDig, if_pos]
    simp only [X0b, X3, decide_eq_true_eq, beq_iff_eq] at hb
    exact hb
   ·have hb' : ¬ (Yh txt s1 < 48 ∨ 57 < Yh txt s1 ∨ (0 < d ∧ n = 0)) := by
     intro hc
     rw [Bool.or_eq_false_iff, Bool.or_eq_false_iff] at hb
     rcases hc with hc | hc | ⟨hc, hc2⟩
     ·exact of_decide_eq_false hb.1 hc
     ·exact of_decide_eq_false hb.2.1 hc
     ·have := hb.2.2
      rw [decide_eq_true hc, hc2] at this
      simp at this
    have c1 : 48 ≤ Yh txt s1 := by omega
    have c2 : Yh txt s1 ≤ 57 := by omega
    rw [wrapD c1 c2]
    have n0 := nb.1
    have n9 : n ≤ 9999 := by rcases nb.2 with h | h | h | h | h | h <;> omega
    obtain ⟨h4, q1, q2, q3⟩ := R1.setAt (s1.at_ + 1)
    refine ⟨Y4r (by omega) (by omega), Y4r (by omega) (by omega), R1.has, _, R1.ldAt, Y4r (by omega) (by omega), h4, q1, Y4r (by omega) (by omega), 5 - (d + 1).toNat, by omega, _, q2, K1.trans q3, by omega, by omega, ⟨by omega, ?_⟩, rfl, ?_, hT1, by simp only; omega, by simp only; omega⟩
    ·rcases nb.2 with h | h | h | h | h | h <;> omega
    ·rw [← he, em, pDig, if_neg hb']
  ·refine ⟨fun e => ?_, fun e => ⟨fun e2 => ?_, fun e2 => ⟨fun e3 => ?_, fun e3 => ?_⟩⟩⟩
   ·rw [e]; rfl
   ·rw [e, e2]; rfl
   ·rw [e, e2, e3]; simp
   ·rw [e, e2, e3]; rfl
  ·have hd5 : ¬ d < 5 := of_decide_eq_false hd
   have : 5 - d.toNat = 0 := by omega
   rw [← he, this, pDig]
end
def Res.bind {α β : Type} : Res α → (Ps → α → Res β) → Res β
 | .ok s a, k => k s a
 | .bad s, _ => .bad s
theorem Y07 {α β : Type} (s : Ps) (a : α) (k : Ps → α → Res β) : (Res.ok s a).bind k = k s a := rfl
def Y1z (t : ByteArray) (b : Int) (s : Ps) : Res Unit := if Yh t s = b then .ok { s with at_ := s.at_ + 1 } () else .bad s
structure Ext (s s' : Ps) (c : Int) : Prop where
 F : s'.F = s.F
 f : s'.f = s.f
 at0 : s.at_ ≤ s'.at_
 at1 : s'.at_ ≤ s.at_ + c
 T : ∃ T, s'.T = s.T ++ T ∧ (T.length : Nat) ≤ c
 ok : OkT s'.T
theorem Ext.refl {s : Ps} (hT : OkT s.T) : Ext s s 0 := ⟨rfl, rfl, by omega, by omega, ⟨[], by simp, by simp⟩, hT⟩
theorem Ext.trans {s s1 s2 : Ps} {c d : Int} (a : Ext s s1 c) (b : Ext s1 s2 d) : Ext s s2 (c + d) := by
 obtain ⟨T, h1, h2⟩ := a.T
 obtain ⟨T', h3, h4⟩ := b.T
 exact ⟨b.F.trans a.F, b.f.trans a.f, by have := a.at0; have := b.at0; omega, by have := a.at1; have := b.at1; omega, ⟨T ++ T', by rw [h3, h1, Xs], by simp; omega⟩, b.ok⟩
theorem Ext.mono {s s1 : Ps} {c d : Int} (a : Ext s s1 c) (h : c ≤ d) : Ext s s1 d := by
 obtain ⟨T, h1, h2⟩ := a.T
 exact ⟨a.F, a.f, a.at0, by have := a.at1; omega, ⟨T, h1, by omega⟩, a.ok⟩
theorem Ext.len {s s1 : Ps} {c : Int} (a : Ext s s1 c) : (s.T.length : Nat) ≤ (s1.T.length : Int) ∧ (s1.T.length : Int) ≤ s.T.length + c := by
 obtain ⟨T, h1, h2⟩ := a.T
 rw [h1]; simp; omega
theorem Ext.val {s s1 : Ps} {c : Int} (a : Ext s s1 c) {l : List Int} (hv : Val s.T l) : Val s1.T l := fun i hi => by
 have := hv i hi
 have := a.len
 omega
theorem pDig_ext (t : ByteArray) : ∀ (k : Nat) (n d : Int) (s : Ps), (pDig t k n d s).2.2.T = s.T ∧ (pDig t k n d s).2.2.F = s.F ∧ (pDig t k n d s).2.2.f = s.f ∧ s.at_ ≤ (pDig t k n d s).2.2.at_ ∧ (pDig t k n d s).2.2.at_ ≤ s.at_ + k
 | 0, n, d, s => ⟨rfl, rfl, rfl, by simp [pDig], by simp [pDig]⟩
 | k + 1, n, d, s => by
  rw [pDig]
  split
  ·refine ⟨rfl, rfl, rfl, by simp, by simp; omega⟩
  ·obtain ⟨h1, h2, h3, h4, h5⟩ := pDig_ext t k (10 * n + (Yh t s - 48)) (d + 1) { s with at_ := s.at_ + 1 }
   refine ⟨h1, h2, h3, ?_, ?_⟩
   ·simp only at h4; omega
   ·simp only at h5; push_cast; omega
theorem Y2h {t : ByteArray} {s s' : Ps} {i : Int} (hT : OkT s.T) (h : Y14 t s = .ok s' i) : Ext s s' 5 ∧ i = s.T.length ∧ s'.T.length = s.T.length + 1 := by
 unfold Y14 at h
 split at h
 ·cases h
 ·simp only [Res.ok.injEq] at h
  obtain ⟨rfl, rfl⟩ := h
  obtain ⟨h1, h2, h3, h4, h5⟩ := pDig_ext t 5 0 0 s
  refine ⟨⟨h2, h3, h4, h5, ⟨[_], by simp only [pAdd]; rw [h1], by simp⟩, ?_⟩, by rw [h1], by simp [pAdd, h1]⟩
  simp only [pAdd]
  rw [h1]
  exact okT_add hT (fun i hi => by simp at hi)
def pSumL (t : ByteArray) : Nat → List Int → Ps → Res (List Int)
 | 0, l, s => .ok s l
 | k + 1, l, s => if Yh t s = 44 then (Y14 t { s with at_ := s.at_ + 1 }).bind fun s1 i => pSumL t k (l ++ [i]) s1 else .ok s l
def pSumR (t : ByteArray) (s : Ps) (l : List Int) : Res Int :=
 if l.length < 2 then .bad s else (Y1z t 59 s).bind fun s1 _ => (Y14 t s1).bind fun s2 j => (Y1z t 41 s2).bind fun s3 _ => .ok (pAdd 12 (l.length : Nat) (l ++ [j]) s3) (s3.T.length : Nat)
def pSum (t : ByteArray) (s : Ps) : Res Int := (Y14 t s).bind fun s1 i => (pSumL t 4 [i] s1).bind (pSumR t)
section
variable {h : Hp} {g : Tag} {txt : ByteArray} {s : Ps} {L : Lay}
theorem c_expectO (R : Rep h g txt s L) {b : Int} (h0 : 0 ≤ s.at_) (h2 : s.at_ ≤ 1000000000) : (∃ h', CallOK Tryd.prog 70 [.ref L.p 0 0, .int .u8 b] h h' (.tup []) ∧ Rep h' g txt { s with at_ := s.at_ + 1 } L ∧ Kept h g h' g ∧ Y1z txt b s = .ok { s with at_ := s.at_ + 1 } ()) ∨
  (Y03 Tryd.prog 70 [.ref L.p 0 0, .int .u8 b] h h chM ∧ Y1z txt b s = .bad s) := by
 by_cases hb : Yh txt s = b
 ·obtain ⟨h', a1, a2, a3⟩ := c_expect R h0 h2 hb
  exact .inl ⟨h', a1, a2, a3, by rw [Y1z, if_pos hb]⟩
 ·exact .inr ⟨c_expectX R h0 hb, by rw [Y1z, if_neg hb]⟩
theorem c_sum (R : Rep h g txt s L) (h0 : 0 ≤ s.at_) (h2 : s.at_ ≤ 800000000) (hT : OkT s.T) (hn : s.T.length ≤ 800000000) : Out 64 [.ref L.p 0 0] (fun i => .int .i64 i) h g txt L LS (pSum txt s) := by
 refine Out.of (w_sum (h := h) (p := L.p) ?_)
 have N0 := c_number R h0 (by omega) hT (by omega)
 unfold pSum
 cases hN : Y14 txt s with
 | bad s1 =>
  rw [hN] at N0
  obtain ⟨h1, g1, L1, a1, a2, a3, a4⟩ := N0
  exact .inr ⟨h1, chM, a1, s1, g1, L1, rfl, rfl, a2, a3, a4⟩
 | ok s1 i =>
  rw [hN] at N0
  obtain ⟨h1, g1, L1, a1, a2, a3, a4⟩ := N0
  obtain ⟨x1, x2, x3⟩ := Y2h hT hN
  obtain ⟨q, hq⟩ := h1.fresh
  obtain ⟨b1, b2, b3, b4⟩ := a2.grow (t := 4) (rt := ⟨0, true, 3, 1, [.int .i64 i]⟩) (.inr rfl) hq
  refine .inl ⟨h1, i, a1, q, _, b1, ?_⟩
  simp only [Y07]
  -- what is known of the list on the way
  let Inv : List Int → Ps → AV → Hp → Tag → Lay → Prop := fun l s2 y h2 g2 L2 => Rep h2 g2 txt s2 L2 ∧ KeptE [q] h1 g1 h2 g2 ∧ LS L L2 ∧ SlI h2 y l ∧ Y06 y = [q] ∧ g2 q = 4 ∧ Ext s s2 (5 + 6 * (l.length : Nat)) ∧ Val s2.T l ∧ 1 ≤ l.length ∧ l.length ≤ 5
  refine ⟨fun y _ h2 => ∃ l s2 g2 L2, Inv l s2 y h2 g2 L2 ∧ pSumR txt s2 l = (pSumL txt 4 [i] s1).bind (pSumR txt), ?_,
   fun m y h2 => ∃ l s2 g2 L2, Inv l s2 y h2 g2 L2 ∧ m = 5 - l.length ∧ (pSumL txt m l s2).bind (pSumR txt) = (pSumL txt 4 [i] s1).bind (pSumR txt), ⟨4, [i], s1, _, _, ⟨b2, b3.toE, a4, .inr ⟨q, 0, _, rfl, Y0n _ _ _, rfl, rfl, rfl, rfl, rfl, rfl⟩, rfl, b4, x1.mono (by simp), fun j hj => ?_, by simp, by simp⟩, rfl, rfl⟩, ?_⟩
  ·rintro y _ h2 ⟨l, s2, g2, L2, ⟨R2, K2, S2, Y2, ry, gq, E2, V2, l1, l5⟩, he⟩ ny
   have ln := E2.len
   have at0 := E2.at0
   have at1 := E2.at1
   rw [← S2.p]
   refine ⟨l.length, Y2.len, fun hd => .inr ⟨h2, chM, c_stop h2 L2.p, s2, g2, L2, ?_, rfl, R2, a3.trans (K2.done (fun r hr => by simp only [Xd] at hr; rw [hr]; exact hq)), S2.p⟩, fun hd => ?_⟩
   ·rw [← he, pSumR, if_pos (by have := of_decide_eq_true hd; omega)]
   ·have hl2 : ¬ l.length < 2 := by have := of_decide_eq_false hd; omega
    have he' := he
    rw [pSumR, if_neg hl2] at he'
    have KD : ∀ {h9 : Hp} {g9 : Tag}, KeptE [q] h2 g2 h9 g9 → Kept h g h9 g9 := fun K9 => a3.trans ((K2.trans K9).done (fun r hr => by simp only [Xd] at hr; rw [hr]; exact hq))
    rcases c_expectO R2 (b := 59) (by omega) (by omega) with ⟨h3, c1, c2, c3, c4⟩ | ⟨c1, c2⟩
    ·have N3 := c_number c2 (by simp only; omega) (by simp only; omega) E2.ok (by simp only; omega)
     rw [c4] at he'
     simp only [Y07] at he'
     cases hN3 : Y14 txt { s2 with at_ := s2.at_ + 1 } with
     | bad s4 =>
      rw [hN3] at N3 he'
      obtain ⟨h4, g4, L4, d1, d2, d3, d4⟩ := N3
      exact .inl ⟨h3, c1, .inr ⟨h4, chM, d1, s4, g4, L4, he'.symm, rfl, d2, KD (c3.trans d3).toE, d4.trans S2.p⟩⟩
     | ok s4 j =>
      rw [hN3] at N3 he'
      rw [Y07] at he'
      obtain ⟨h4, g4, L4, d1, d2, d3, d4⟩ := N3
      obtain ⟨y1, y2, y3⟩ := Y2h (s := { s2 with at_ := s2.at_ + 1 }) E2.ok hN3
      simp only at y2 y3
      have Y4 := (SlA.after Y2 (fun r hr => by rw [ry] at hr; simp only [Xd] at hr; rw [hr]; exact gq) (c3.trans d3))
      obtain ⟨q5, hq5⟩ := h4.fresh
      obtain ⟨e1, e2, e3, e4⟩ := d2.grow (t := 4) (rt := ⟨0, true, 3, 1, [.int .i64 j]⟩) (.inr rfl) hq5
      have Y5 := SlA.after Y4.1 Y4.2 e3
      obtain ⟨h6, z, f1, f2, f3, f4, f5, f6⟩ := e2.growOther Y5.1 Y5.2 ry j (by omega)
      refine .inl ⟨h3, c1, .inl ⟨h4, j, by rw [← show L2.p = L2.p from rfl]; exact d1, q5, _, e1, h6, z, f2, f1, ?_⟩⟩
      have p4 : L4.p = L2.p := d4.p
      rw [← p4]
      have ya0 := y1.at0
      have ya1 := y1.at1
      simp only at ya0 ya1
      have gz : ∀ r ∈ Y06 z, upg g4 q5 4 r = 4 := fun r hr => by rw [f4] at hr; exact Y5.2 r (by rw [ry]; exact hr)
      rcases c_expectO f5 (b := 41) (by omega) (by omega) with ⟨h7, k1, k2, k3, k4⟩ | ⟨k1, k2⟩
      ·have Z7 := SlA.after f3 gz k3
       have gq7 : upg g4 q5 4 q = 4 := Z7.2 q (by rw [f4]; simp)
       have R8 := k2.retag (q := q) (.inl gq7)
       have V4 : Val s4.T (l ++ [j]) := fun r hr => by
        simp only [Xw, Xd] at hr
        rcases hr with hr | rfl
        ·have := V2 r hr; omega
        ·omega
       obtain ⟨h9, g9, L9, m1, m2, m3, m4, m5⟩ := c_add R8 12 ((l.length : Nat) : Int) Z7.1 (fun r hr => by rw [f4] at hr; simp only [Xd] at hr; rw [hr]; exact upg_self _ _ _) y1.ok V4 (by simp only; omega) (by simp; omega)
       rw [k4] at he'
       simp only [Y07] at he'
       have m1' : CallOK Tryd.prog 63 [.ref L4.p 0 0, .int .i64 12, .int .i64 ((l.length : Nat) : Int), z] h7 h9 (.int .i64 (s4.T.length : Nat)) := m1
       refine .inl ⟨h7, k1, h9, _, m1', _, _, g9, L9, he'.symm, rfl, m2, KD (((c3.trans (d3.trans e3)).toE.trans f6).trans (k3.toE.trans (KeptE.trans (h1 := h7) (g1 := upg (upg g4 q5 4) q 3) (fun r hr _ hg => ⟨rfl, by rw [upg_ne _ 3 (by simpa using hr)]; exact hg⟩) m3.toE))), S2.trans (d4.trans m4)⟩
      ·rw [k2] at he'
       exact .inr ⟨h6, chM, k1, s4, _, L4, he'.symm, rfl, f5, KD ((c3.trans (d3.trans e3)).toE.trans f6), d4.p.trans S2.p⟩
    ·rw [c2] at he'
     exact .inr ⟨h2, chM, c1, s2, g2, L2, he'.symm, rfl, R2, KD (Kept.refl _ _).toE, S2.p⟩
  ·simp only [Xd] at hj
   rw [hj]; omega
  ·rintro m y h2 ⟨l, s2, g2, L2, ⟨R2, K2, S2, Y2, ry, gq, E2, V2, l1, l5⟩, rfl, he⟩ ny
   have ln := E2.len
   have at0 := E2.at0
   have at1 := E2.at1
   rw [← S2.p]
   refine ⟨fun b h3 => h3 = h2 ∧ b = (decide (l.length < 5) && decide (Yh txt s2 = 44)), ?_, l.length, Y2.len, fun hd => ⟨h2, _, c_peek R2 (by omega), rfl, ?_⟩, fun hd => ⟨rfl, ?_⟩⟩
   ·rintro b h3 ⟨rfl, rfl⟩
    refine ⟨fun hb => ?_, fun hb => ⟨l, s2, g2, L2, ⟨R2, K2, S2, Y2, ry, gq, E2, V2, l1, l5⟩, ?_⟩⟩
    ·simp only [X3, decide_eq_true_eq] at hb
     obtain ⟨h4, q1, q2, q3⟩ := R2.setAt (s2.at_ + 1)
     have N3 := c_number q2 (by simp only; omega) (by simp only; omega) E2.ok (by simp only; omega)
     have em : 5 - l.length = (5 - (l.length + 1)) + 1 := by omega
     rw [em, pSumL, if_pos hb.2] at he
     refine ⟨R2.has, _, R2.ldAt, Y4r (by omega) (by omega), h4, q1, ?_⟩
     cases hN3 : Y14 txt { s2 with at_ := s2.at_ + 1 } with
     | bad s4 =>
      rw [hN3] at N3 he
      obtain ⟨h5, g5, L5, d1, d2, d3, d4⟩ := N3
      exact .inr ⟨h5, chM, d1, s4, g5, L5, he.symm, rfl, d2, a3.trans ((K2.trans (q3.trans d3).toE).done (fun r hr => by simp only [Xd] at hr; rw [hr]; exact hq)), d4.trans S2.p⟩
     | ok s4 j =>
      rw [hN3] at N3 he
      obtain ⟨h5, g5, L5, d1, d2, d3, d4⟩ := N3
      obtain ⟨y1, y2, y3⟩ := Y2h (s := { s2 with at_ := s2.at_ + 1 }) E2.ok hN3
      simp only at y2 y3
      have Y4 := (SlA.after Y2 (fun r hr => by rw [ry] at hr; simp only [Xd] at hr; rw [hr]; exact gq) (q3.trans d3))
      obtain ⟨q5, hq5⟩ := h5.fresh
      obtain ⟨e1, e2, e3, e4⟩ := d2.grow (t := 4) (rt := ⟨0, true, 3, 1, [.int .i64 j]⟩) (.inr rfl) hq5
      have Y5 := SlA.after Y4.1 Y4.2 e3
      obtain ⟨h6, z, f1, f2, f3, f4, f5, f6⟩ := e2.growOther Y5.1 Y5.2 ry j (by omega)
      have ya0 := y1.at0
      have ya1 := y1.at1
      simp only at ya0 ya1
      have E4 : Ext s s4 (5 + 6 * ((l ++ [j]).length : Nat)) := by
       obtain ⟨T, t1, t2⟩ := E2.T
       obtain ⟨T', t3, t4⟩ := y1.T
       refine ⟨y1.F.trans E2.F, y1.f.trans E2.f, by omega, by simp; omega, ⟨T ++ T', by rw [t3]; simp only; rw [t1, Xs], ?_⟩, y1.ok⟩
       have : T'.length = 1 := by
        rw [t3] at y3
        simp at y3; omega
       simp only [X4, this, Xh]; push_cast; omega
      refine .inl ⟨h5, j, d1, q5, _, e1, h6, z, f2, f1, 5 - (l ++ [j]).length, by simp; omega, l ++ [j], s4, _, L5, ⟨f5, K2.trans ((q3.trans (d3.trans e3)).toE.trans f6), S2.trans d4, f3, f4, Y5.2 q (by rw [ry]; simp), E4, fun r hr => ?_, by simp, by simp; omega⟩, rfl, ?_⟩
      ·simp only [Xw, Xd] at hr
       rcases hr with hr | rfl
       ·have := V2 r hr; omega
       ·omega
      ·rw [← he]
       simp only [Y07, X4, Xh]
    ·rw [Bool.and_eq_false_iff, decide_eq_false_iff_not, decide_eq_false_iff_not] at hb
     rw [← he]
     rcases hb with hb | hb
     ·rw [show 5 - l.length = 0 by omega]; rfl
     ·cases hk : 5 - l.length with
      | zero => rfl
      | succ k => rw [pSumL, if_neg hb]; rfl
   ·have : l.length < 5 := by have := of_decide_eq_true hd; omega
    rw [decide_eq_true this, Bool.true_and]
    by_cases hc : Yh txt s2 = 44 <;> simp [hc]
   ·have : ¬ l.length < 5 := by have := of_decide_eq_false hd; omega
    rw [decide_eq_false this, Bool.false_and]
end
end Go.Proofs.YtkgfbpbndmklnaaDoor
