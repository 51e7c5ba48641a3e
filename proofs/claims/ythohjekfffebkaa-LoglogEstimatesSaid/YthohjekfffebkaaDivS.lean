/- The plain law of the shifts before the long division. -/
import Derived.Test.YthohjekfffebkaaDivP
import Derived.Laws.Bits64b
import Derived.Lib.BitFns
import Derived.Lib.ItoaNum
namespace Go.Proofs.Ythohjekfffebkaa
open Go.RowKit Go.ChangeShapes Go.WideShapes
set_option linter.unusedVariables false
theorem sh_split (s : Nat) (hs : s ≤ 64) : (18446744073709551616 : Nat) = 2 ^ (64 - s) * 2 ^ s := by
  rw [← Nat.pow_add, Nat.sub_add_cancel hs]
theorem sh_hi {hi lo s : Nat} (hs : s ≤ 64) : (hi * 18446744073709551616 + lo) * 2 ^ s / 18446744073709551616 = hi * 2 ^ s + lo / 2 ^ (64 - s) := by
  have e : (hi * 18446744073709551616 + lo) * 2 ^ s = lo * 2 ^ s + 18446744073709551616 * (hi * 2 ^ s) := by
    rw [Nat.add_mul, Nat.mul_right_comm, Nat.mul_comm (hi * 2 ^ s), Nat.add_comm]
  rw [e, Nat.add_mul_div_left _ _ (by decide), Nat.add_comm]
  congr 1
  rw [sh_split s hs]
  exact Nat.mul_div_mul_right _ _ (Nat.two_pow_pos s)
theorem sh_lo {hi lo s : Nat} : (hi * 18446744073709551616 + lo) * 2 ^ s % 18446744073709551616 = lo * 2 ^ s % 18446744073709551616 := by
  have e : (hi * 18446744073709551616 + lo) * 2 ^ s = lo * 2 ^ s + 18446744073709551616 * (hi * 2 ^ s) := by
    rw [Nat.add_mul, Nat.mul_right_comm, Nat.mul_comm (hi * 2 ^ s), Nat.add_comm]
  rw [e, Nat.add_mul_mod_self_left]
theorem sh_below {lo s : Nat} (hs : s ≤ 64) (hl : lo < 18446744073709551616) : lo / 2 ^ (64 - s) < 2 ^ s := by
  apply Nat.div_lt_of_lt_mul
  rw [← sh_split s hs]
  exact hl
theorem sh_or {hi lo s : Nat} (hs : s ≤ 64) (hl : lo < 18446744073709551616) (hb : hi * 2 ^ s < 18446744073709551616) (hc : lo / 2 ^ (64 - s) < 18446744073709551616) : bits .or .u64 ((hi * 2 ^ s : Nat) : Int) ((lo / 2 ^ (64 - s) : Nat) : Int) = ((hi * 2 ^ s + lo / 2 ^ (64 - s) : Nat) : Int) := by
  rw [bits_or_u64_nat _ _ hb hc, Nat.mul_comm hi, ← Nat.two_pow_add_eq_or_of_lt (sh_below hs hl)]
/-- The divisor has its highest bit set. -/
theorem sh_norm {y : Nat} (h0 : 0 < y) (hy : y < 18446744073709551616) : 1 ≤ Lib.bitLen y ∧ Lib.bitLen y ≤ 64 ∧ y * 2 ^ (64 - Lib.bitLen y) < 18446744073709551616 ∧ 9223372036854775808 ≤ y * 2 ^ (64 - Lib.bitLen y) := by
  obtain ⟨h1, h2, h3⟩ := Lib.bitLenAux_bounds 64 y hy (by omega)
  have h4 : Lib.bitLen y ≤ 64 := Lib.bitLen_le y 64 (by omega) hy
  change 1 ≤ Lib.bitLen y at h1
  change 2 ^ (Lib.bitLen y - 1) ≤ y at h2
  change y < 2 ^ Lib.bitLen y at h3
  refine ⟨h1, h4, ?_, ?_⟩
  · have h := Nat.mul_lt_mul_of_pos_right h3 (Nat.two_pow_pos (64 - Lib.bitLen y))
    rw [← Nat.pow_add, Nat.add_sub_cancel' h4] at h
    exact h
  · have h := Nat.mul_le_mul_right (2 ^ (64 - Lib.bitLen y)) h2
    rw [← Nat.pow_add, show Lib.bitLen y - 1 + (64 - Lib.bitLen y) = 63 by omega] at h
    exact h
end Go.Proofs.Ythohjekfffebkaa
