/- The plain functions of pages: lists of lists of bytes. No program. -/
import Derived.Test.YtcjklklbklopnaaLib3
namespace Go.Proofs.Ytcjklklbklopnaa
open Go.RowKit Go.ChangeShapes Go.WideShapes
set_option linter.unusedVariables false
set_option linter.unusedSimpArgs false
def ceilD (a b : Int) : Int := if a % b > 0 then a / b + 1 else a / b
/-- CeilDiv: the number, the error. -/
def ceilR (a b : Int) : Int × Int := if a < 0 ∨ b < 1 then (0, 5) else (ceilD a b, 0)
/-- Count. -/
def cntR (n s : Int) : Int × Int := if n < 0 ∨ s < 1 ∨ s > 1024 then (0, 5) else (ceilD n s, 0)
theorem ceilD_range {a b : Int} (h0 : 0 ≤ a) (hb : 1 ≤ b) : 0 ≤ ceilD a b ∧ ceilD a b ≤ a := by
  have h1 := Int.emod_add_mul_ediv a b
  have h2 := Int.emod_nonneg a (b := b) (by omega)
  have h3 := Int.ediv_nonneg h0 (by omega : 0 ≤ b)
  unfold ceilD
  split
  · refine ⟨by omega, ?_⟩
    have : a / b * 1 ≤ a / b * b := Int.mul_le_mul_of_nonneg_left hb h3
    rw [Int.mul_comm] at this
    rw [Int.mul_comm (a / b) b] at this
    omega
  · refine ⟨h3, Int.ediv_le_self _ h0⟩
/-- A number is below the quotient rounded up if and only if its product is below. -/
theorem ceilD_lt {a b : Int} (hb : 1 ≤ b) (k : Int) : k < ceilD a b ↔ k * b < a := by
  have h1 := Int.emod_add_mul_ediv a b
  have h2 := Int.emod_nonneg a (b := b) (by omega)
  have h4 := Int.emod_lt_of_pos a (b := b) (by omega)
  generalize a / b = q at *
  generalize a % b = r at *
  have hc : ceilD a b = if r > 0 then q + 1 else q := by
    unfold ceilD
    rw [show a % b = r by rw [← h1]; rw [Int.add_mul_emod_self_left]; exact Int.emod_eq_of_lt h2 h4, show a / b = q by rw [← h1, Int.add_mul_ediv_left _ _ (by omega), Int.ediv_eq_zero_of_lt h2 h4]; omega]
  rw [hc]
  constructor
  · intro h
    split at h
    · have : k * b ≤ q * b := Int.mul_le_mul_of_nonneg_right (by omega) (by omega)
      rw [Int.mul_comm q b] at this
      omega
    · have : (k + 1) * b ≤ q * b := Int.mul_le_mul_of_nonneg_right (by omega) (by omega)
      rw [Int.mul_comm q b, Int.add_mul] at this
      omega
  · intro h
    split
    · rename_i hr
      by_cases hk : k < q + 1
      · exact hk
      · have : (q + 1) * b ≤ k * b := Int.mul_le_mul_of_nonneg_right (by omega) (by omega)
        rw [Int.add_mul, Int.mul_comm q b] at this
        omega
    · by_cases hk : k < q
      · exact hk
      · have : q * b ≤ k * b := Int.mul_le_mul_of_nonneg_right (by omega) (by omega)
        rw [Int.mul_comm q b] at this
        omega
/-- Page i of the bytes l. -/
def pageL (l : List Int) (s i : Nat) : List Int := (l.drop (i * s)).take s
def splitN (l : List Int) (s j : Nat) : List (List Int) := (List.range j).map (pageL l s)
theorem splitN_succ (l : List Int) (s j : Nat) : splitN l s (j + 1) = splitN l s j ++ [pageL l s j] := by
  unfold splitN; rw [List.range_succ, List.map_append]; rfl
theorem length_splitN (l : List Int) (s j : Nat) : (splitN l s j).length = j := by unfold splitN; simp
/-- Split: the pages, the error. -/
def splitL (l : List Int) (s : Int) : List (List Int) := if s < 1 ∨ s > 1024 then [] else splitN l s.toNat (ceilD l.length s).toNat
def splitE (s : Int) : Int := if s < 1 ∨ s > 1024 then 5 else 0
theorem pageL_len (l : List Int) (s i : Nat) : (pageL l s i).length = min s (l.length - i * s) := by unfold pageL; simp
end Go.Proofs.Ytcjklklbklopnaa
