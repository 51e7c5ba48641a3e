/- A block of cells that may be written: what it holds, and how it is kept. No condition. -/
import Derived.Test.YthohjekfffebkaaLib3
namespace Go.Proofs.Ythohjekfffebkaa
open Go.RowKit
set_option linter.unusedVariables false
set_option linter.unusedSimpArgs false
/-- The block b holds the cells cs. -/
def Blk (b : Nat) (cs : Array Value) (t : TypeId) (w : World) : Prop := w.heap[b]? = some (.cells cs t (0, 0))
theorem Blk.lt {b : Nat} {cs : Array Value} {t : TypeId} {w : World} (h : Blk b cs t w) : b < w.heap.size := by
  unfold Blk at h
  exact (Array.getElem?_eq_some_iff.mp h).1
theorem Blk.cell {b : Nat} {cs : Array Value} {t : TypeId} {w : World} (h : Blk b cs t w) (i : Nat) {v : Value} (hi : cs[i]? = some v) : w.cell? ⟨b, i, none⟩ = some v := by
  unfold Blk at h
  simp [World.cell?, h, hi]
theorem Blk.froz {b : Nat} {cs : Array Value} {t : TypeId} {w : World} (h : Blk b cs t w) (i : Nat) : w.frozen? ⟨b, i, none⟩ = false := by
  unfold Blk at h
  simp [World.frozen?, h]
theorem Blk.keep {b : Nat} {cs : Array Value} {t : TypeId} {w w' : World} (h : Blk b cs t w) (g : w.grownBy w' none) : Blk b cs t w' := by
  have := g.block b h.lt (by simp)
  unfold Blk at *
  rw [this]; exact h
theorem Blk.rdr {b R : Nat} {cs : Array Value} {t : TypeId} {w w' : World} (h : Blk b cs t w) (g : w.grownBy w' (some R)) (hne : b ≠ R) : Blk b cs t w' := by
  have := g.block b h.lt (by simp; omega)
  unfold Blk at *
  rw [this]; exact h
theorem Blk.new (w : World) (cs : Array Value) (t : TypeId) : Blk w.heap.size cs t (w.alloc (.cells cs t)) := by
  unfold Blk
  show (w.heap.push (.cells cs t))[w.heap.size]? = _
  simp
theorem Blk.newAt (w : World) (n : Nat) (cs : Array Value) (t : TypeId) (h : w.heap.size = n) : Blk n cs t (w.alloc (.cells cs t)) := by
  subst h; exact Blk.new w cs t
theorem Blk.set_ne {b b' : Nat} {cs : Array Value} {t : TypeId} {w : World} (h : Blk b cs t w) (o : Nat) (v : Value) (hne : b ≠ b') : Blk b cs t (w.setCell ⟨b', o, none⟩ v) := by
  unfold Blk at *
  simp only [World.setCell, Array.getElem?_modify, if_neg (Ne.symm hne)]; exact h
theorem Blk.set {b : Nat} {cs : Array Value} {t : TypeId} {w : World} (h : Blk b cs t w) (o : Nat) (v : Value) : Blk b (cs.setIfInBounds o v) t (w.setCell ⟨b, o, none⟩ v) := by
  unfold Blk at *
  simp [World.setCell, Array.getElem?_modify, h]
theorem Blk.drew {b : Nat} {cs : Array Value} {t : TypeId} {w : World} (h : Blk b cs t w) : Blk b cs t w.drew := h
theorem Blk.at2 {b : Nat} {x y : Value} {t : TypeId} {w : World} (h : Blk b #[x, y] t w) : w.cell? ⟨b, 0, none⟩ = some x ∧ w.cell? ⟨b, 1, none⟩ = some y ∧ ∀ o, w.frozen? ⟨b, o, none⟩ = false :=
  ⟨h.cell 0 rfl, h.cell 1 rfl, fun o => h.froz o⟩
theorem Blk.at3 {b : Nat} {x y z : Value} {t : TypeId} {w : World} (h : Blk b #[x, y, z] t w) : w.cell? ⟨b, 0, none⟩ = some x ∧ w.cell? ⟨b, 1, none⟩ = some y ∧ w.cell? ⟨b, 2, none⟩ = some z ∧ ∀ o, w.frozen? ⟨b, o, none⟩ = false :=
  ⟨h.cell 0 rfl, h.cell 1 rfl, h.cell 2 rfl, fun o => h.froz o⟩
theorem Blk.at5 {b : Nat} {p q x y z : Value} {t : TypeId} {w : World} (h : Blk b #[p, q, x, y, z] t w) :
    w.cell? ⟨b, 0, none⟩ = some p ∧ w.cell? ⟨b, 1, none⟩ = some q ∧ w.cell? ⟨b, 2, none⟩ = some x ∧ w.cell? ⟨b, 3, none⟩ = some y ∧ w.cell? ⟨b, 4, none⟩ = some z ∧ ∀ o, w.frozen? ⟨b, o, none⟩ = false :=
  ⟨h.cell 0 rfl, h.cell 1 rfl, h.cell 2 rfl, h.cell 3 rfl, h.cell 4 rfl, fun o => h.froz o⟩
theorem grown_setB {w0 w : World} (h : w0.grownBy w none) {b o : Nat} (v : Value) (hb : w0.heap.size ≤ b) : w0.grownBy (w.setCell ⟨b, o, none⟩ v) none := grown_set h v hb
/-- The block g begins with the integers l and may be written. -/
def Row (k : IntKind) (t : TypeId) (g : Nat) (l : List Int) (w : World) : Prop := ∃ cur : Array Value, Blk g cur t w ∧ l.length ≤ cur.size ∧ ∀ i, i < l.length → cur[i]? = some (.int k (gI l i))
theorem Row.keep {k : IntKind} {t : TypeId} {g : Nat} {l : List Int} {w w' : World} (h : Row k t g l w) (hg : w.grownBy w' none) : Row k t g l w' := by
  obtain ⟨cur, h1, h2⟩ := h
  exact ⟨cur, h1.keep hg, h2⟩
theorem Row.drew {k : IntKind} {t : TypeId} {g : Nat} {l : List Int} {w : World} (h : Row k t g l w) : Row k t g l w.drew := h
theorem Row.lt {k : IntKind} {t : TypeId} {g : Nat} {l : List Int} {w : World} (h : Row k t g l w) : g < w.heap.size := by
  obtain ⟨cur, h1, h2⟩ := h
  exact h1.lt
theorem Row.set_ne {k : IntKind} {t : TypeId} {g b' : Nat} {l : List Int} {w : World} (h : Row k t g l w) (o : Nat) (v : Value) (hne : g ≠ b') : Row k t g l (w.setCell ⟨b', o, none⟩ v) := by
  obtain ⟨cur, h1, h2⟩ := h
  exact ⟨cur, h1.set_ne o v hne, h2⟩
theorem Row.cell {k : IntKind} {t : TypeId} {g : Nat} {l : List Int} {w : World} (h : Row k t g l w) {i : Nat} (hi : i < l.length) : w.cell? ⟨g, i, none⟩ = some (.int k (gI l i)) := by
  obtain ⟨cur, h1, h2, h3⟩ := h
  exact h1.cell i (h3 i hi)
theorem Row.froz {k : IntKind} {t : TypeId} {g : Nat} {l : List Int} {w : World} (h : Row k t g l w) (i : Nat) : w.frozen? ⟨g, i, none⟩ = false := by
  obtain ⟨cur, h1, _⟩ := h
  exact h1.froz i
theorem Row.set {k : IntKind} {t : TypeId} {g : Nat} {l : List Int} {w : World} (h : Row k t g l w) (i : Nat) (x : Int) : Row k t g (l.set i x) (w.setCell ⟨g, i, none⟩ (.int k x)) := by
  obtain ⟨cur, h1, h2, h3⟩ := h
  refine ⟨_, h1.set i (.int k x), by simpa using h2, fun j hj => ?_⟩
  simp only [List.length_set] at hj
  rw [Array.getElem?_setIfInBounds]
  by_cases e : i = j
  · subst e
    rw [if_pos rfl, if_pos (by omega)]
    simp [gI, List.getD_eq_getElem?_getD, List.getElem?_set, hj]
  · rw [if_neg e, h3 j hj]
    simp [gI, List.getD_eq_getElem?_getD, List.getElem?_set, e]
theorem Row.ints {k : IntKind} {t : TypeId} {g : Nat} {l : List Int} {w : World} (h : Row k t g l w) {cap : Nat} (h1 : l.length ≤ cap) (h2 : cap ≤ maxLen) (hw : ∀ n ∈ l, (Lit.int k n).wf = true) : Ints k w (.slice (some ⟨g, 0, none⟩) l.length cap) l :=
  ⟨_, cap, rfl, h1, h2, hw, .inr ⟨g, 0, rfl, h.lt, fun i hi => by simpa using h.cell hi⟩⟩
/-- What the call owns, as a row; a row of no elements may have no block. -/
theorem row_of_own {k : IntKind} {t : TypeId} {w : World} {B : Nat} {v : Value} {l : List Int} (h : w.ownsRow B t 1 v l.length (l.map (.int k))) (hl : 0 < l.length) : ∃ g cap, v = .slice (some ⟨g, 0, none⟩) l.length cap ∧ B ≤ g ∧ Row k t g l w ∧ l.length ≤ cap ∧ cap ≤ maxLen := by
  rcases h.2 with ⟨rfl, hn⟩ | ⟨g, cap, cur, rfl, hb, hg, hc, hm, hs, ht⟩
  · omega
  · refine ⟨g, cap, rfl, hb, ⟨cur, hg, by omega, fun i hi => ?_⟩, hc, hm⟩
    have h1 : (cur.toList.take (l.length * 1))[i]? = (l.map (Value.int k))[i]? := by rw [ht]
    rw [List.getElem?_take, if_pos (by omega)] at h1
    rw [← Array.getElem?_toList, h1, gI_eq hi]
    simp [hi]
/-- Behind w nothing but the blocks p and q has changed. -/
def Two (p q : Nat) (w w' : World) : Prop := w'.os = w.os ∧ w'.tape = w.tape ∧ w'.output = w.output ∧ w.heap.size ≤ w'.heap.size ∧ ∀ k, k < w.heap.size → k ≠ p → k ≠ q → w'.heap[k]? = w.heap[k]?
theorem Two.refl (p q : Nat) (w : World) : Two p q w w := ⟨rfl, rfl, rfl, Nat.le_refl _, fun _ _ _ _ => rfl⟩
theorem Two.size {p q : Nat} {w w' : World} (h : Two p q w w') : w.heap.size ≤ w'.heap.size := h.2.2.2.1
theorem Two.grown {p q : Nat} {w w1 w2 : World} (h : Two p q w w1) (g : w1.grownBy w2 none) : Two p q w w2 := by
  obtain ⟨h1, h2, h3, h4, h5⟩ := h
  exact ⟨g.os.trans h1, g.tape.trans h2, g.output.trans h3, Nat.le_trans h4 g.size, fun k hk hp hq => (g.block k (Nat.lt_of_lt_of_le hk h4) (by simp)).trans (h5 k hk hp hq)⟩
theorem Two.drew {p q : Nat} {w w1 : World} (h : Two p q w w1) : Two p q w w1.drew := h
theorem Two.setp {p q : Nat} {w w1 : World} (h : Two p q w w1) (o : Nat) (v : Value) : Two p q w (w1.setCell ⟨p, o, none⟩ v) := by
  obtain ⟨h1, h2, h3, h4, h5⟩ := h
  exact ⟨h1, h2, h3, by simpa using h4, fun k hk hp hq => (Below.heap_setCell _ _ _ k (by simpa using hp)).trans (h5 k hk hp hq)⟩
theorem Two.setq {p q : Nat} {w w1 : World} (h : Two p q w w1) (o : Nat) (v : Value) : Two p q w (w1.setCell ⟨q, o, none⟩ v) := by
  obtain ⟨h1, h2, h3, h4, h5⟩ := h
  exact ⟨h1, h2, h3, by simpa using h4, fun k hk hp hq => (Below.heap_setCell _ _ _ k (by simpa using hq)).trans (h5 k hk hp hq)⟩
theorem Two.up {p q : Nat} {w0 w w' : World} (h : Two p q w w') (g : w0.grownBy w none) (hp : w0.heap.size ≤ p) (hq : w0.heap.size ≤ q) : w0.grownBy w' none := by
  obtain ⟨h1, h2, h3, h4, h5⟩ := h
  exact ⟨h1.trans g.os, h2.trans g.tape, h3.trans g.output, Nat.le_trans g.size h4, fun k hk _ => (h5 k (Nat.lt_of_lt_of_le hk g.size) (by omega) (by omega)).trans (g.block k hk (by simp))⟩
theorem Blk.two {b p q : Nat} {cs : Array Value} {t : TypeId} {w w' : World} (h : Blk b cs t w) (g : Two p q w w') (hp : b ≠ p) (hq : b ≠ q) : Blk b cs t w' := by
  have := g.2.2.2.2 b h.lt hp hq
  unfold Blk at *
  rw [this]; exact h
end Go.Proofs.Ythohjekfffebkaa
