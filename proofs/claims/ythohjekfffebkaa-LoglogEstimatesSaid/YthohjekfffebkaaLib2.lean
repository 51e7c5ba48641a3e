/- More helpers over any program: own rows, cells of grown worlds. No condition. -/
import Derived.Test.YthohjekfffebkaaLib
namespace Go.Proofs.Ythohjekfffebkaa
open Go.RowKit
set_option linter.unusedVariables false
set_option linter.unusedSimpArgs false
theorem own_lower {w : World} {B B' : Nat} {e : TypeId} {size : Nat} {v : Value} {n : Nat} {xs : List Value} (h : w.ownsRow B e size v n xs) (hb : B' ≤ B) : w.ownsRow B' e size v n xs := by
  refine ⟨h.1, ?_⟩
  rcases h.2 with h2 | ⟨g, cap, cur, h3, h4, h5⟩
  · exact .inl h2
  · exact .inr ⟨g, cap, cur, h3, Nat.le_trans hb h4, h5⟩
theorem kcell {W w1 : World} (hg : W.grownBy w1 none) {b o : Nat} {v : Value} (h : W.cell? ⟨b, o, none⟩ = some v) (hb : b < W.heap.size) : w1.cell? ⟨b, o, none⟩ = some v :=
  (World.cell?_of_block (w := W) (hg.block b hb (by simp))).trans h
theorem kfroz {W w1 : World} (hg : W.grownBy w1 none) {b o : Nat} {v : Bool} (h : W.frozen? ⟨b, o, none⟩ = v) (hb : b < W.heap.size) : w1.frozen? ⟨b, o, none⟩ = v :=
  (World.frozen?_of_block (w := W) (hg.block b hb (by simp))).trans h
theorem grown_set {w0 w : World} (h : w0.grownBy w none) {b o : Nat} (v : Value) (hb : w0.heap.size ≤ b) : w0.grownBy (w.setCell ⟨b, o, none⟩ v) none :=
  h.andThen (row' := some b) ⟨rfl, rfl, rfl, (by simp), fun k _ hk => Below.heap_setCell _ _ _ k (fun e => hk (by rw [e]))⟩ (fun j hj => by cases hj; exact .inl hb)
theorem gcell {W w1 : World} (hg : W.grownBy w1 none) : (∀ b o, b < W.heap.size → w1.cell? ⟨b, o, none⟩ = W.cell? ⟨b, o, none⟩) ∧ (∀ b o, b < W.heap.size → w1.frozen? ⟨b, o, none⟩ = W.frozen? ⟨b, o, none⟩) :=
  ⟨fun b o h => World.cell?_of_block (w := W) (hg.block b h (by simp)), fun b o h => World.frozen?_of_block (w := W) (hg.block b h (by simp))⟩
end Go.Proofs.Ythohjekfffebkaa
