/- The powers of two of a number. No condition. -/
import Derived.Test.YtcjklklbklopnaaLib3
namespace Go.Proofs.Ytcjklklbklopnaa
open Go.RowKit Go.ChangeShapes Go.WideShapes
set_option linter.unusedVariables false
set_option linter.unusedSimpArgs false
/-- The exponents below k of the powers of two in n. -/
def pwN (n : Int) (k : Nat) : List Int := ((List.range k).filter fun i => decide (n / 2 ^ i % 2 = 1)).map fun i : Nat => (i : Int)
def pwL (n : Int) : List Int := if n > 0 then pwN n 63 else []
theorem pwN_succ (n : Int) (k : Nat) : pwN n (k + 1) = if n / 2 ^ k % 2 = 1 then pwN n k ++ [(k : Int)] else pwN n k := by
  unfold pwN
  rw [List.range_succ, List.filter_append, List.map_append]
  by_cases h : n / 2 ^ k % 2 = 1
  · rw [if_pos h]; simp [h]
  · rw [if_neg h]; simp [h]
theorem pwN_len (n : Int) (k : Nat) : (pwN n k).length ≤ k := by
  unfold pwN; rw [List.length_map]; have := List.length_filter_le (fun i => decide (n / 2 ^ i % 2 = 1)) (List.range k); simpa using this
theorem pwN_mem {n : Int} {k : Nat} {x : Int} (h : x ∈ pwN n k) : 0 ≤ x ∧ x < k := by
  unfold pwN at h
  simp only [List.mem_map, List.mem_filter, List.mem_range] at h
  obtain ⟨i, ⟨h1, _⟩, rfl⟩ := h
  omega
theorem div_pow_succ (n : Int) (k : Nat) : n / 2 ^ k / 2 = n / 2 ^ (k + 1) := by
  rw [Int.ediv_ediv_of_nonneg (Int.le_of_lt (Int.pow_pos (by omega))), Int.pow_succ]
theorem pwN_stop {n : Int} {k : Nat} (h : n / 2 ^ k = 0) : ∀ j, pwN n (k + j) = pwN n k := by
  intro j
  have hz : ∀ j : Nat, n / 2 ^ (k + j) = 0 := by
    intro j
    induction j with
    | zero => simpa using h
    | succ j ih => rw [← Nat.add_assoc, ← div_pow_succ, ih]; rfl
  induction j with
  | zero => rfl
  | succ j ih => rw [← Nat.add_assoc, pwN_succ, if_neg (by rw [hz]; decide), ih]
theorem small_pow {n : Int} (h0 : 0 ≤ n) (h1 : n ≤ 9223372036854775807) : n / 2 ^ 63 = 0 := by
  have : (2 : Int) ^ 63 = 9223372036854775808 := by decide
  rw [this]
  exact Int.ediv_eq_zero_of_lt h0 (by omega)
/-- The sum of the powers is the number. -/
def pwSum (l : List Int) : Int := (l.map fun i => 2 ^ i.toNat).sum
theorem pwSum_N (n : Int) (h0 : 0 ≤ n) : ∀ k, pwSum (pwN n k) = n % 2 ^ k := by
  intro k
  induction k with
  | zero => simp [pwN, pwSum, Int.emod_one]
  | succ k ih =>
    have hp : (0 : Int) < 2 ^ k := Int.pow_pos (by omega)
    have e1 := Int.emod_add_mul_ediv n (2 ^ k)
    have e2 := Int.emod_add_mul_ediv n (2 ^ (k + 1))
    have e3 := Int.emod_add_mul_ediv (n / 2 ^ k) 2
    rw [div_pow_succ] at e3
    rw [Int.pow_succ] at e2 ⊢
    have key : n % (2 ^ k * 2) = n % 2 ^ k + 2 ^ k * (n / 2 ^ k % 2) := by
      have h3 : (2 : Int) ^ k * (n / 2 ^ k) = 2 ^ k * (n / 2 ^ k % 2) + 2 ^ k * 2 * (n / 2 ^ (k + 1)) := by
        rw [Int.mul_assoc, ← Int.mul_add, e3]
      rw [Int.pow_succ] at h3
      omega
    rw [pwN_succ, key]
    have hb := Int.emod_nonneg (n / 2 ^ k) (b := 2) (by decide)
    have hc := Int.emod_lt_of_pos (n / 2 ^ k) (b := 2) (by decide)
    by_cases h : n / 2 ^ k % 2 = 1
    · rw [if_pos h, h]
      unfold pwSum at *
      rw [List.map_append, List.sum_append, ih]
      simp
    · rw [if_neg h, ih, show n / 2 ^ k % 2 = 0 by omega]
      simp
end Go.Proofs.Ytcjklklbklopnaa
