/- More plain laws of tallies. -/
import Derived.Test.YtobefdadlflegaaTallyLaw
namespace Go.Proofs.Ytobefdadlflegaa
set_option linter.unusedVariables false
set_option linter.unusedSimpArgs false
theorem insR_mrg {t n : Int} (s : Bool) {k : ByteArray} {c : Int} (h1 : valE t n = 0) (hk1 : 1 ≤ k.size) (hk2 : k.size ≤ 3) (hc1 : 1 ≤ c) (hc2 : c ≤ 4294967295) : insR t n s k c = mrgR t n s c 1 false := by
  have hc : valE c 1 = 0 := by rw [valE_ok]; omega
  have hi : itemE k c = 0 := by
    unfold itemE
    rw [if_neg (by unfold keyB; simp; omega), if_neg (by omega)]
  rw [mrgR_ok s false h1 hc]
  unfold insR; rw [if_neg (by simpa using h1), if_neg (by simpa using hi)]
  simp
theorem mrg_comm {t n a b : Int} (s u : Bool) (h1 : valE t n = 0) (h2 : valE a b = 0) : mrgR t n s a b u = mrgR a b u t n s := by
  rw [mrgR_ok s u h1 h2, mrgR_ok u s h2 h1, addS_comm t a, addS_comm n b, addB_comm t a, addB_comm n b]
  congr 3
  cases s <;> cases u <;> rfl
/-- One item more into the second tally and into the union. -/
theorem union_step {t n a b c d : Int} {s u v : Bool} {k : ByteArray} {q : Int} (h1 : valE t n = 0) (h2 : valE a b = 0) (h3 : mrgR t n s a b u = (c, d, v, 0)) (hk1 : 1 ≤ k.size) (hk2 : k.size ≤ 3) (hc1 : 1 ≤ q) (hc2 : q ≤ 4294967295) :
    valE c d = 0 ∧ ∃ a' b' u' c' d' v', insR a b u k q = (a', b', u', 0) ∧ insR c d v k q = (c', d', v', 0) ∧ valE a' b' = 0 ∧ mrgR t n s a' b' u' = (c', d', v', 0) := by
  have hq : valE q 1 = 0 := by rw [valE_ok]; omega
  rw [mrgR_ok s u h1 h2] at h3
  simp only [Prod.mk.injEq, and_true] at h3
  obtain ⟨rfl, rfl, rfl⟩ := h3
  have h4 := valE_sum h1 h2
  refine ⟨h4, _, _, _, _, _, _, (insR_mrg u h2 hk1 hk2 hc1 hc2).trans (mrgR_ok u false h2 hq), (insR_mrg _ h4 hk1 hk2 hc1 hc2).trans (mrgR_ok _ false h4 hq), valE_sum h2 hq, ?_⟩
  rw [← mrg_assoc s u false h1 h2 hq, mrgR_ok _ false h4 hq]
end Go.Proofs.Ytobefdadlflegaa
