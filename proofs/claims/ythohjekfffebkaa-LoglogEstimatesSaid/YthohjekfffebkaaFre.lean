/- Slices that lie in fresh memory, worlds under a name, blocks in all grown worlds. No condition. -/
import Derived.Test.YthohjekfffebkaaBlk
namespace Go.Proofs.Ythohjekfffebkaa
open Go.RowKit
set_option linter.unusedVariables false
set_option linter.unusedSimpArgs false
/-- The slice lies in a block from B on. -/
def Fresh (B : Nat) (v : Value) : Prop := ∀ a n c, v = .slice (some a) n c → B ≤ a.block
theorem fresh_of {B g o n c : Nat} (h : B ≤ g) : Fresh B (.slice (some ⟨g, o, none⟩) n c) := by
  intro a n' c' e
  injection e with e1 _ _
  injection e1 with e1
  rw [← e1]; exact h
theorem fresh_nil (B n c : Nat) : Fresh B (.slice none n c) := by
  intro a n' c' e
  injection e with e1 _ _
  cases e1
theorem Ints.setF {k : IntKind} {w : World} {v : Value} {l : List Int} {B b' o : Nat} (h : Ints k w v l) (hf : Fresh B v) (u : Value) (hb : b' < B) : Ints k (w.setCell ⟨b', o, none⟩ u) v l := by
  obtain ⟨a, cap, he, h1, h2, h3, h4⟩ := h
  refine ⟨a, cap, he, h1, h2, h3, ?_⟩
  rcases h4 with h4 | ⟨b2, off2, hb2, hlt, hc⟩
  · exact .inl h4
  · have hne : b2 ≠ b' := by have := hf _ _ _ (he.trans (by rw [hb2])); simp only at this; omega
    refine .inr ⟨b2, off2, hb2, by simpa using hlt, fun i hi => ?_⟩
    have := hc i hi
    simp [go_sem, hne]
    simpa using this
theorem Ints.set {k : IntKind} {w : World} {b off n c : Nat} {l : List Int} (h : Ints k w (.slice (some ⟨b, off, none⟩) n c) l) {b' o : Nat} (u : Value) (hne : b ≠ b') : Ints k (w.setCell ⟨b', o, none⟩ u) (.slice (some ⟨b, off, none⟩) n c) l := by
  obtain ⟨a, cap, he, h1, h2, h3, h4⟩ := h
  refine ⟨a, cap, he, h1, h2, h3, ?_⟩
  rcases h4 with h4 | ⟨b2, off2, hb2, hlt, hc⟩
  · exact .inl h4
  · refine .inr ⟨b2, off2, hb2, by simpa using hlt, fun i hi => ?_⟩
    cases he
    cases hb2
    have := hc i hi
    simp [go_sem, hne]
    simpa using this
theorem Fresh.mono {B B' : Nat} {v : Value} (h : Fresh B v) (hb : B' ≤ B) : Fresh B' v := fun a n c e => Nat.le_trans hb (h a n c e)
theorem wAbs {X : World → Prop} {P : World → Prop} {w : World} (hP : P w) (h : ∀ w', P w' → X w') : X w := h w hP
theorem below8 {i : Int} (h0 : 0 ≤ i) (h : i ≤ 7) : i = 0 ∨ i = 1 ∨ i = 2 ∨ i = 3 ∨ (4 ≤ i ∧ i ≤ 7) := by omega
theorem Blk.ev5 {b : Nat} {p q x y z : Value} {t : TypeId} {w : World} (h : Blk b #[p, q, x, y, z] t w) :
    (∀ w', w.grownBy w' none → w'.cell? ⟨b, 0, none⟩ = some p) ∧ (∀ w', w.grownBy w' none → w'.cell? ⟨b, 1, none⟩ = some q) ∧ (∀ w', w.grownBy w' none → w'.cell? ⟨b, 2, none⟩ = some x) ∧ (∀ w', w.grownBy w' none → w'.cell? ⟨b, 3, none⟩ = some y) ∧ (∀ w', w.grownBy w' none → w'.cell? ⟨b, 4, none⟩ = some z) :=
  ⟨fun _ g => (h.keep g).at5.1, fun _ g => (h.keep g).at5.2.1, fun _ g => (h.keep g).at5.2.2.1, fun _ g => (h.keep g).at5.2.2.2.1, fun _ g => (h.keep g).at5.2.2.2.2.1⟩
theorem Blk.ev2 {b : Nat} {p q : Value} {t : TypeId} {w : World} (h : Blk b #[p, q] t w) :
    (∀ w', w.grownBy w' none → w'.cell? ⟨b, 0, none⟩ = some p) ∧ (∀ w', w.grownBy w' none → w'.cell? ⟨b, 1, none⟩ = some q) :=
  ⟨fun _ g => (h.keep g).at2.1, fun _ g => (h.keep g).at2.2.1⟩
theorem Ints.at {k : IntKind} {w : World} {a : Option Addr} {n cap : Nat} {l : List Int} (h : Ints k w (.slice a n cap) l) (hl : 0 < l.length) : ∃ b off, a = some ⟨b, off, none⟩ ∧ b < w.heap.size ∧ ∀ i, i < l.length → w.cell? ⟨b, off + i, none⟩ = some (.int k (gI l i)) := by
  obtain ⟨a', cap', e, h1, h2, h3, h4⟩ := h
  injection e with e1 e2 e3
  subst e1
  rcases h4 with rfl | h4
  · simp at hl
  · exact h4
theorem Two.own {p q : Nat} {w w1 w2 w3 : World} {r : Option Nat} (h : Two p q w w1) (g : w1.grownBy w2 none) (g' : w2.grownBy w3 r) (hr : ∀ k, r = some k → w.heap.size ≤ k) : Two p q w w3 := by
  obtain ⟨h1, h2, h3, h4, h5⟩ := h.grown g
  exact ⟨g'.os.trans h1, g'.tape.trans h2, g'.output.trans h3, Nat.le_trans h4 g'.size, fun k hk hp hq => (g'.block k (Nat.lt_of_lt_of_le hk h4) (fun e => by have := hr k e.symm; omega)).trans (h5 k hk hp hq)⟩
theorem Blk.own {b : Nat} {cs : Array Value} {t : TypeId} {w w' : World} {r : Option Nat} (h : Blk b cs t w) (g : w.grownBy w' r) (hne : r ≠ some b) : Blk b cs t w' := by
  have := g.block b h.lt (fun e => hne e.symm)
  unfold Blk at *
  rw [this]; exact h
theorem wrap_i64I (x : Int) : -9223372036854775808 ≤ wrap64 x ∧ wrap64 x ≤ 9223372036854775807 := by unfold wrap64; omega
theorem kcell' {w w' : World} {b o : Nat} {v : Value} (g : w.grownBy w' none) (h : w.cell? ⟨b, o, none⟩ = some v) : w'.cell? ⟨b, o, none⟩ = some v :=
  kcell g h (by simpa using World.block_lt_of_cell? w _ h)
theorem Blk.ev3 {b : Nat} {p q x : Value} {t : TypeId} {w : World} (h : Blk b #[p, q, x] t w) :
    (∀ w', w.grownBy w' none → w'.cell? ⟨b, 0, none⟩ = some p) ∧ (∀ w', w.grownBy w' none → w'.cell? ⟨b, 1, none⟩ = some q) ∧ (∀ w', w.grownBy w' none → w'.cell? ⟨b, 2, none⟩ = some x) :=
  ⟨fun _ g => (h.keep g).at3.1, fun _ g => (h.keep g).at3.2.1, fun _ g => (h.keep g).at3.2.2.1⟩
theorem ext_of_gI {l m : List Int} (h : l.length = m.length) (hg : ∀ i, i < l.length → gI l i = gI m i) : l = m := by
  apply List.ext_getElem h
  intro i h1 h2
  have := hg i h1
  rwa [gI_eq h1, gI_eq h2] at this
theorem gI_set (l : List Int) (i j : Nat) (x : Int) (hi : i < l.length) : gI (l.set i x) j = if j = i then x else gI l j := by
  unfold gI
  rw [List.getD_eq_getElem?_getD, List.getD_eq_getElem?_getD, List.getElem?_set]
  by_cases h : i = j
  · subst h; simp [hi]
  · rw [if_neg h, if_neg (fun e => h e.symm)]
end Go.Proofs.Ythohjekfffebkaa
