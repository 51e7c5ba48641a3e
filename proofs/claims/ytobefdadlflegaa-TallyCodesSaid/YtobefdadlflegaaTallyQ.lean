/- The plain law of the reference's Decode of tallies. No program. -/
import Derived.Test.YtobefdadlflegaaTallyP
import Derived.Test.YtobefdadlflegaaRdr
namespace Go.Proofs.Ytobefdadlflegaa
open Go.RowKit Go.ChangeShapes Go.WideShapes
set_option linter.unusedVariables false
set_option linter.unusedSimpArgs false
theorem rdN_len {l : List Int} (hw : ∀ n ∈ l, (Lit.int .u8 n).wf = true) {most : Int} {k : Nat} {bad : Bool} (hk : k ≤ l.length) : (rdN l most k bad).2.1 ≤ l.length := by
  unfold rdN rdU
  split
  · exact hk
  · rename_i h
    have he : (decU (l.drop k)).2.2 = 0 := by
      by_cases h2 : (decU (l.drop k)).2.2 = 0
      · exact h2
      · exact absurd (.inr (.inl h2)) h
    have := decU_ok (l := l.drop k) (wf_drop hw k) (n := (decU (l.drop k)).1) (k := (decU (l.drop k)).2.1) (by rw [← he])
    rw [List.length_drop] at this
    simp only
    omega
theorem rdN_bad (l : List Int) (most : Int) (k : Nat) : rdN l most k true = (0, k, true) := rdU_bad (.inl rfl)
def refT (l : List Int) (r1 r2 r3 : Int × Nat × Bool) : Int × Int × Bool × Int :=
  if r3.2.2 = true ∨ r3.2.1 ≠ l.length ∨ valE r1.1 r2.1 ≠ 0 then (0, 0, false, 2) else (r1.1, r2.1, r3.1 == 1, 0)
theorem refT_law {l : List Int} (hw : ∀ n ∈ l, (Lit.int .u8 n).wf = true) :
    refT l (rdN l 4294967295 0 false) (rdN l 4294967295 (rdN l 4294967295 0 false).2.1 (rdN l 4294967295 0 false).2.2)
      (rdN l 1 (rdN l 4294967295 (rdN l 4294967295 0 false).2.1 (rdN l 4294967295 0 false).2.2).2.1 (rdN l 4294967295 (rdN l 4294967295 0 false).2.1 (rdN l 4294967295 0 false).2.2).2.2) = decTa l := by
  have hd0 : l.drop 0 = l := rfl
  unfold decTa
  rw [reads_step]
  unfold rdN
  rw [hd0]
  by_cases e1 : (decU l).2.2 = 0
  · rw [if_neg (by simpa using e1)]
    rw [reads_step]
    by_cases m1 : (decU l).1 > 4294967295
    · rw [rdU_bad (k := 0) (.inr (.inr m1))]
      simp only [rdU_bad (.inl rfl)]
      unfold refT
      rw [if_pos (.inl rfl)]
      generalize (reads 1 _) = R
      split <;> try rfl
      generalize (decU l).1 = n1 at *
      cases R with
      | none => rfl
      | some r =>
        simp only [Option.map_some]
        unfold decTo
        split
        · rename_i heq
          simp only [Option.some.injEq, Prod.mk.injEq, List.cons.injEq] at heq
          obtain ⟨⟨rfl, _⟩, _⟩ := heq
          rw [if_neg]
          rintro ⟨h, _⟩
          have := valE_in h
          omega
        · rfl
    · rw [rdU_ok (k := 0) e1 m1]
      simp only [Nat.zero_add]
      generalize hn1 : (decU l).1 = n1 at *
      generalize hk1 : (decU l).2.1.toNat = k1 at *
      by_cases e2 : (decU (l.drop k1)).2.2 = 0
      · rw [if_neg (by simpa using e2)]
        rw [reads_step]
        by_cases m2 : (decU (l.drop k1)).1 > 4294967295
        · rw [rdU_bad (k := k1) (.inr (.inr m2))]
          simp only [rdU_bad (.inl rfl)]
          unfold refT
          rw [if_pos (.inl rfl)]
          split <;> try rfl
          generalize (reads 0 _) = R
          cases R with
          | none => rfl
          | some r =>
            simp only [Option.map_some]
            unfold decTo
            split
            · rename_i heq
              simp only [Option.some.injEq, Prod.mk.injEq, List.cons.injEq] at heq
              obtain ⟨⟨rfl, rfl, _⟩, _⟩ := heq
              rw [if_neg]
              rintro ⟨h, _⟩
              have := valE_in h
              omega
            · rfl
        · rw [rdU_ok (k := k1) e2 m2]
          simp only
          generalize hn2 : (decU (l.drop k1)).1 = n2 at *
          generalize hk2 : (decU (l.drop k1)).2.1.toNat = k2 at *
          rw [List.drop_drop]
          by_cases e3 : (decU (l.drop (k1 + k2))).2.2 = 0
          · rw [if_neg (by simpa using e3)]
            simp only [reads, Option.map_some, decTo]
            have ho := decU_ok (l := l.drop (k1 + k2)) (wf_drop hw _) (n := (decU (l.drop (k1 + k2))).1) (k := (decU (l.drop (k1 + k2))).2.1) (by rw [← e3])
            rw [List.length_drop] at ho
            by_cases m3 : (decU (l.drop (k1 + k2))).1 > 1
            · rw [rdU_bad (k := k1 + k2) (.inr (.inr m3))]
              unfold refT
              rw [if_pos (.inl rfl), if_neg (by omega)]
            · rw [rdU_ok (k := k1 + k2) e3 m3]
              unfold refT
              simp only
              have hlen : (l.drop (k1 + k2)).drop (decU (l.drop (k1 + k2))).2.1.toNat = [] ↔ k1 + k2 + (decU (l.drop (k1 + k2))).2.1.toNat = l.length := by
                rw [List.drop_drop, List.drop_eq_nil_iff]; omega
              by_cases hv : valE n1 n2 = 0
              · by_cases hl : k1 + k2 + (decU (l.drop (k1 + k2))).2.1.toNat = l.length
                · rw [if_neg (by simp [hv, hl]), if_pos ⟨hv, by omega, hlen.2 hl⟩]
                · rw [if_pos (.inr (.inl hl)), if_neg (fun h => hl (hlen.1 h.2.2))]
              · rw [if_pos (.inr (.inr hv)), if_neg (fun h => hv h.1)]
          · rw [if_pos e3, rdU_bad (.inr (.inl e3))]
            unfold refT
            rw [if_pos (.inl rfl)]
            rfl
      · rw [if_pos e2, rdU_bad (.inr (.inl e2))]
        simp only [rdU_bad (.inl rfl)]
        unfold refT
        rw [if_pos (.inl rfl)]
        rfl
  · rw [if_pos e1, rdU_bad (.inr (.inl e1))]
    simp only [rdU_bad (.inl rfl)]
    unfold refT
    rw [if_pos (.inl rfl)]
    rfl
end Go.Proofs.Ytobefdadlflegaa
