/- More of the readers: bounds of what they read, how their cells are kept. No condition. -/
import Derived.Test.YtigpbfmnbdbpcaaRdw
import Derived.Test.YtigpbfmnbdbpcaaLib3
namespace Go.Proofs.Ytigpbfmnbdbpcaa
open Go.RowKit Go.ChangeShapes Go.WideShapes
set_option linter.unusedVariables false
set_option linter.unusedSimpArgs false
theorem rdN_in {l : List Int} (hw : ∀ n ∈ l, (Lit.int .u8 n).wf = true) {most : Int} (hm : 0 ≤ most) {k : Nat} {bad : Bool} (hk : k ≤ l.length) : (rdN l most k bad).2.1 ≤ l.length ∧ 0 ≤ (rdN l most k bad).1 ∧ (rdN l most k bad).1 ≤ most := by
  unfold rdN rdU
  split
  · exact ⟨hk, Int.le_refl _, hm⟩
  · rename_i h
    have he : (decU (l.drop k)).2.2 = 0 := by
      by_cases h2 : (decU (l.drop k)).2.2 = 0
      · exact h2
      · exact absurd (.inr (.inl h2)) h
    have hmm : ¬ (decU (l.drop k)).1 > most := fun h2 => absurd (.inr (.inr h2)) h
    have := decU_ok (l := l.drop k) (wf_drop hw k) (n := (decU (l.drop k)).1) (k := (decU (l.drop k)).2.1) (by rw [← he])
    rw [List.length_drop] at this
    simp only
    omega
theorem rdW_in {l : List Int} {k : Nat} {bad : Bool} (hk : k ≤ l.length) : (rdW l k bad).2.1 ≤ l.length := by
  unfold rdW rdWu
  split
  · exact hk
  · rename_i h
    have he : (decW (l.drop k)).2.2 = 0 := by
      by_cases h2 : (decW (l.drop k)).2.2 = 0
      · exact h2
      · exact absurd (.inr h2) h
    have := decW_ok he
    rw [List.length_drop] at this
    simp only
    omega
theorem RdrAt.own {R : Nat} {v : Value} {k : Nat} {bad : Bool} {w w' : World} {r : Option Nat} (h : RdrAt R v k bad w) (g : w.grownBy w' r) (hne : r ≠ some R) : RdrAt R v k bad w' := by
  obtain ⟨h0, h1, h2, h3, h4⟩ := h
  have hb := g.block R h0 (fun e => hne e.symm)
  exact ⟨Nat.lt_of_lt_of_le h0 g.size, (World.cell?_of_block (w := w) hb).trans h1, (World.cell?_of_block (w := w) hb).trans h2, (World.cell?_of_block (w := w) hb).trans h3, fun o => (World.frozen?_of_block (w := w) hb).trans (h4 o)⟩
theorem own_rdr {w w' : World} {B R : Nat} {e : TypeId} {size : Nat} {v : Value} {n : Nat} {xs : List Value} (h : w.ownsRow B e size v n xs) (g : w.grownBy w' (some R)) (hR : R < B) : w'.ownsRow B e size v n xs :=
  h.kept g (.inr fun e => by have := (h.lt R e).1; omega)
theorem RdrAt.set_ne {R : Nat} {v : Value} {k : Nat} {bad : Bool} {w : World} (h : RdrAt R v k bad w) (b o : Nat) (x : Value) (hne : b ≠ R) : RdrAt R v k bad (w.setCell ⟨b, o, none⟩ x) :=
  h.own (grown_cell w b o x) (fun e => hne (Option.some.inj e))
end Go.Proofs.Ytigpbfmnbdbpcaa
