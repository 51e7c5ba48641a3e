/- More helpers over any program: rows and cells of worlds in which one block was written. No condition. -/
import Derived.Test.YthohjekfffebkaaLib2
namespace Go.Proofs.Ythohjekfffebkaa
open Go.RowKit
set_option linter.unusedVariables false
set_option linter.unusedSimpArgs false
theorem Ints.shape {k : IntKind} {w : World} {v : Value} {l : List Int} (h : Ints k w v l) : ∃ a cap, v = .slice a l.length cap := by
  obtain ⟨a, cap, e, _⟩ := h
  exact ⟨a, cap, e⟩
theorem grown_rdr {w0 w w' : World} {R : Nat} (h : w0.grownBy w none) (g : w.grownBy w' (some R)) (hR : w0.heap.size ≤ R) : w0.grownBy w' none :=
  grown_trans h g fun k hk => by cases hk; exact hR
theorem cell_rdr {w w' : World} {R b o : Nat} {v : Value} (g : w.grownBy w' (some R)) (h : w.cell? ⟨b, o, none⟩ = some v) (hb : b < w.heap.size) (hne : b ≠ R) : w'.cell? ⟨b, o, none⟩ = some v :=
  (World.cell?_of_block (w := w) (g.block b hb (by simpa using hne))).trans h
theorem froz_rdr {w w' : World} {R b o : Nat} {v : Bool} (g : w.grownBy w' (some R)) (h : w.frozen? ⟨b, o, none⟩ = v) (hb : b < w.heap.size) (hne : b ≠ R) : w'.frozen? ⟨b, o, none⟩ = v :=
  (World.frozen?_of_block (w := w) (g.block b hb (by simpa using hne))).trans h
theorem Ints.wfs {k : IntKind} {w : World} {v : Value} {l : List Int} (h : Ints k w v l) : ∀ n ∈ l, (Lit.int k n).wf = true := by
  obtain ⟨a, cap, _, _, _, h, _⟩ := h
  exact h
theorem Ints.size {k : IntKind} {w : World} {v : Value} {l : List Int} (h : Ints k w v l) : l.length ≤ 9223372036854775807 := by
  obtain ⟨a, cap, _, h1, h2, _⟩ := h
  unfold maxLen at h2
  omega
theorem bytes_ext {a b : ByteArray} (h : a.toList = b.toList) : a = b := by
  rw [ByteArray.toList_eq, ByteArray.toList_eq] at h
  cases a
  cases b
  congr
  exact Array.toList_inj.1 h
/-- A block of three cells that may be written. -/
def RCell (b : Nat) (x y z : Value) (w : World) : Prop := b < w.heap.size ∧ w.cell? ⟨b, 0, none⟩ = some x ∧ w.cell? ⟨b, 1, none⟩ = some y ∧ w.cell? ⟨b, 2, none⟩ = some z ∧ ∀ o, w.frozen? ⟨b, o, none⟩ = false
theorem RCell.keep {b : Nat} {x y z : Value} {w w' : World} (h : RCell b x y z w) (g : w.grownBy w' none) : RCell b x y z w' := by
  obtain ⟨h0, h1, h2, h3, h4⟩ := h
  exact ⟨Nat.lt_of_lt_of_le h0 g.size, kcell g h1 h0, kcell g h2 h0, kcell g h3 h0, fun o => kfroz g (h4 o) h0⟩
theorem RCell.rdr {b R : Nat} {x y z : Value} {w w' : World} (h : RCell b x y z w) (g : w.grownBy w' (some R)) (hne : b ≠ R) : RCell b x y z w' := by
  obtain ⟨h0, h1, h2, h3, h4⟩ := h
  exact ⟨Nat.lt_of_lt_of_le h0 g.size, cell_rdr g h1 h0 hne, cell_rdr g h2 h0 hne, cell_rdr g h3 h0 hne, fun o => froz_rdr g (h4 o) h0 hne⟩
end Go.Proofs.Ythohjekfffebkaa
