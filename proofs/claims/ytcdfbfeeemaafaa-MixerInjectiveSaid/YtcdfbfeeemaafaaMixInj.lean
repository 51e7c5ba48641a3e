/- Mix maps different words to different words. Condition: words below 2^64. -/
import Derived.Test.YtcdfbfeeemaafaaMixSpec
import Derived.Laws.Bits64
import Derived.OpenShut
namespace Go.Proofs.Ytcdfbfeeemaafaa
open Go.RowKit
set_option linter.unusedVariables false
set_option linter.unusedSimpArgs false
theorem xs_inj (s X Y : Nat) (hs : 0 < s) (hX : X < 2 ^ 64) (hY : Y < 2 ^ 64) (h : X ^^^ X >>> s = Y ^^^ Y >>> s) : X = Y := by
  have key : ∀ d i, 64 ≤ i + d → X.testBit i = Y.testBit i := by
    intro d
    induction d using Nat.strongRecOn with
    | _ d ih =>
      intro i hi
      by_cases h64 : 64 ≤ i
      · rw [Nat.testBit_lt_two_pow (Nat.lt_of_lt_of_le hX (Nat.pow_le_pow_right (by omega) h64)), Nat.testBit_lt_two_pow (Nat.lt_of_lt_of_le hY (Nat.pow_le_pow_right (by omega) h64))]
      · have hb := congrArg (fun z => z.testBit i) h
        simp only [Nat.testBit_xor, Nat.testBit_shiftRight] at hb
        have := ih (d - 1) (by omega) (s + i) (by omega)
        rw [this] at hb
        revert hb
        cases X.testBit i <;> cases Y.testBit i <;> cases Y.testBit (s + i) <;> simp
  exact Nat.eq_of_testBit_eq fun i => key 64 i (by omega)
theorem mul_inj (C D X Y : Nat) (hCD : C * D % 2 ^ 64 = 1) (hX : X < 2 ^ 64) (hY : Y < 2 ^ 64) (h : X * C % 2 ^ 64 = Y * C % 2 ^ 64) : X = Y := by
  have e : ∀ Z, Z < 2 ^ 64 → (Z * C % 2 ^ 64) * D % 2 ^ 64 = Z := by
    intro Z hZ
    rw [Nat.mod_mul_mod, Nat.mul_assoc, ← Nat.mul_mod_mod, hCD, Nat.mul_one, Nat.mod_eq_of_lt hZ]
  rw [← e X hX, ← e Y hY, h]
def mixN (X : Nat) : Nat :=
  let a := (X ^^^ X / 1073741824) * 13787848793156543929 % 18446744073709551616
  let b := (a ^^^ a / 134217728) * 10723151780598845931 % 18446744073709551616
  b ^^^ b / 2147483648
theorem mixF_nat (X : Nat) (hX : X < 18446744073709551616) : mixF (X : Int) = (mixN X : Int) := by
  have h1 := mixStep_u64 X 1073741824 13787848793156543929 hX
  have hA : (X ^^^ X / 1073741824) * 13787848793156543929 % 18446744073709551616 < 18446744073709551616 := Nat.mod_lt _ (by decide)
  generalize hA' : (X ^^^ X / 1073741824) * 13787848793156543929 % 18446744073709551616 = A at h1 hA
  have h2 := mixStep_u64 A 134217728 10723151780598845931 hA
  have hB : (A ^^^ A / 134217728) * 10723151780598845931 % 18446744073709551616 < 18446744073709551616 := Nat.mod_lt _ (by decide)
  generalize hB' : (A ^^^ A / 134217728) * 10723151780598845931 % 18446744073709551616 = B at h2 hB
  have h3 := xorShift_u64 B 2147483648 hB
  have c1 : ((1073741824 : Nat) : Int) = 1073741824 := rfl
  have c2 : ((13787848793156543929 : Nat) : Int) = 13787848793156543929 := rfl
  have c3 : ((134217728 : Nat) : Int) = 134217728 := rfl
  have c4 : ((10723151780598845931 : Nat) : Int) = 10723151780598845931 := rfl
  have c5 : ((2147483648 : Nat) : Int) = 2147483648 := rfl
  rw [c1, c2] at h1
  rw [c3, c4] at h2
  rw [c5] at h3
  have e2 : mixN X = B ^^^ B / 2147483648 := by simp only [mixN, hA', hB']
  rw [e2]
  simp only [mixF, bx]
  rw [h1, h2, h3]
theorem mixN_inj (X Y : Nat) (hX : X < 18446744073709551616) (hY : Y < 18446744073709551616) (h : mixN X = mixN Y) : X = Y := by
  have p30 : ∀ Z : Nat, Z / 1073741824 = Z >>> 30 := fun Z => by rw [Nat.shiftRight_eq_div_pow]
  have p27 : ∀ Z : Nat, Z / 134217728 = Z >>> 27 := fun Z => by rw [Nat.shiftRight_eq_div_pow]
  have p31 : ∀ Z : Nat, Z / 2147483648 = Z >>> 31 := fun Z => by rw [Nat.shiftRight_eq_div_pow]
  have p64 : (18446744073709551616 : Nat) = 2 ^ 64 := by decide
  simp only [mixN, p30, p27, p31, p64] at h hX hY
  have l : ∀ Z, Z % 2 ^ 64 < 2 ^ 64 := fun Z => Nat.mod_lt _ (by decide)
  have lx : ∀ Z s, Z < 2 ^ 64 → Z ^^^ Z >>> s < 2 ^ 64 := fun Z s hZ => Nat.xor_lt_two_pow hZ (Nat.lt_of_le_of_lt (by rw [Nat.shiftRight_eq_div_pow]; exact Nat.div_le_self _ _) hZ)
  have h := xs_inj 31 _ _ (by decide) (l _) (l _) h
  have h := mul_inj 10723151780598845931 3573116690164977347 _ _ (by decide) (lx _ _ (l _)) (lx _ _ (l _)) h
  have h := xs_inj 27 _ _ (by decide) (l _) (l _) h
  have h := mul_inj 13787848793156543929 10871156337175269513 _ _ (by decide) (lx _ _ hX) (lx _ _ hY) h
  exact xs_inj 30 _ _ (by decide) hX hY h
theorem mixF_inj (x y : Int) (hx : (Lit.int .u64 x).wf = true) (hy : (Lit.int .u64 y).wf = true) (h : mixF x = mixF y) : x = y := by
  have b := bounds_u64 hx
  have b' := bounds_u64 hy
  obtain ⟨X, rfl⟩ := Int.eq_ofNat_of_zero_le b.1
  obtain ⟨Y, rfl⟩ := Int.eq_ofNat_of_zero_le b'.1
  rw [mixF_nat X (by omega), mixF_nat Y (by omega)] at h
  rw [mixN_inj X Y (by omega) (by omega) (by exact_mod_cast h)]
end Go.Proofs.Ytcdfbfeeemaafaa
