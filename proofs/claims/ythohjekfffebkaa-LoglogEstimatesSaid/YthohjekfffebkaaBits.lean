/- Small laws on bits of ints. No condition. -/
import Derived.Test.YthohjekfffebkaaLib
import Derived.Laws.Bits64
namespace Go.Proofs.Ythohjekfffebkaa
open Go.RowKit Go.ChangeShapes Go.WideShapes
set_option linter.unusedVariables false
set_option linter.unusedSimpArgs false
theorem and_mask (x : Int) (j : Nat) (hj : j ≤ 62) (m : Int) (hm : m = 2 ^ j - 1) : bits BinOp.and IntKind.i64 x m = x % 2 ^ j := by
  have hp : (2 : Nat) ^ j ≤ 2 ^ 62 := Nat.pow_le_pow_right (by omega) hj
  have hp1 : 1 ≤ (2 : Nat) ^ j := Nat.one_le_two_pow
  have e0 : (2 : Int) ^ j = ((2 ^ j : Nat) : Int) := by simp
  have e1 : m = ((2 ^ j - 1 : Nat) : Int) := by rw [hm, e0]; omega
  show IntKind.i64.wrap ((BitVec.ofInt 64 x &&& BitVec.ofInt 64 m).toNat : Int) = _
  rw [BitVec.toNat_and, e1, BitVec.ofInt_natCast, BitVec.toNat_ofNat, Nat.mod_eq_of_lt (a := 2 ^ j - 1) (by omega), Nat.and_two_pow_sub_one_eq_mod, BitVec.toNat_ofInt]
  have hd : ((2 ^ j : Nat) : Int) ∣ (2 ^ 64 : Nat) := by
    refine ⟨((2 ^ (64 - j) : Nat) : Int), ?_⟩
    rw [← Int.natCast_mul, ← Nat.pow_add, show j + (64 - j) = 64 from by omega]
  have h2 : ((x % ((2 ^ 64 : Nat) : Int)).toNat % 2 ^ j : Nat) = (x % (2 ^ j : Nat)).toNat := by
    have hx0 : 0 ≤ x % ((2 ^ 64 : Nat) : Int) := Int.emod_nonneg _ (by decide)
    have hx1 : 0 ≤ x % ((2 ^ j : Nat) : Int) := Int.emod_nonneg _ (by omega)
    apply Int.ofNat.inj
    show (((x % ((2 ^ 64 : Nat) : Int)).toNat % 2 ^ j : Nat) : Int) = (((x % (2 ^ j : Nat)).toNat : Nat) : Int)
    rw [Int.natCast_emod, Int.toNat_of_nonneg hx0, Int.toNat_of_nonneg hx1, Int.emod_emod_of_dvd _ hd]
  rw [h2, Int.toNat_of_nonneg (Int.emod_nonneg _ (by omega)), e0, IntKind.wrap_i64]
  have hb0 : 0 ≤ x % ((2 ^ j : Nat) : Int) := Int.emod_nonneg _ (by omega)
  have hb1 : x % ((2 ^ j : Nat) : Int) < ((2 ^ j : Nat) : Int) := Int.emod_lt_of_pos _ (by omega)
  omega
theorem xor_u8_ne {a b : Int} (a0 : 0 ≤ a) (a1 : a ≤ 255) (b0 : 0 ≤ b) (b1 : b ≤ 255) (hb : b ≠ 0) : bits BinOp.xor IntKind.u8 a b ≠ a := by
  obtain ⟨A, rfl⟩ := Int.eq_ofNat_of_zero_le a0
  obtain ⟨B, rfl⟩ := Int.eq_ofNat_of_zero_le b0
  have hA : A < 2 ^ 8 := by omega
  have hB : B < 2 ^ 8 := by omega
  have e : bits BinOp.xor IntKind.u8 (A : Int) (B : Int) = ((A ^^^ B : Nat) : Int) := by
    show IntKind.u8.wrap ((BitVec.ofInt 8 (A : Int) ^^^ BitVec.ofInt 8 (B : Int)).toNat : Int) = _
    rw [BitVec.toNat_xor, BitVec.ofInt_natCast, BitVec.ofInt_natCast, BitVec.toNat_ofNat, BitVec.toNat_ofNat, Nat.mod_eq_of_lt hA, Nat.mod_eq_of_lt hB]
    have := Nat.xor_lt_two_pow hA hB
    rw [IntKind.wrap_u8]
    omega
  rw [e]
  intro h
  have h' : A ^^^ B = A := by exact_mod_cast h
  have : B = 0 := by
    have h2 := congrArg (fun z => A ^^^ z) h'
    simpa [← Nat.xor_assoc] using h2
  exact hb (by rw [this]; rfl)
end Go.Proofs.Ythohjekfffebkaa
