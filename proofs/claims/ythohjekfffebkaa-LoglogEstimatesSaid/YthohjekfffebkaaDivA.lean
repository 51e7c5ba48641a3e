/- The walk of bits.Div64 whatever the high word is. Conditions: the high word is below the divisor. -/
import Derived.Test.YthohjekfffebkaaDivK
namespace Go.Proofs.Ythohjekfffebkaa
open Go.RowKit Go.ChangeShapes Go.WideShapes
set_option linter.unusedVariables false
set_option linter.unusedSimpArgs false
set_option maxRecDepth 100000 in
theorem div64_all (hi lo y : Nat) (w : World) (h1 : hi < y) (hy : y < 18446744073709551616) (hl : lo < 18446744073709551616) :
    Calls Try.prog 46 #[.int .u64 hi, .int .u64 lo, .int .u64 y] w fun e w' => ∃ r : Int, e = .returned (.tuple #[.int .u64 ((hi * 18446744073709551616 + lo) / y : Nat), .int .u64 r]) ∧ w.grownBy w' none := by
  by_cases h0 : 0 < hi
  · refine (div64_any hi lo y w h0 h1 hy hl).mono ?_
    rintro e w' ⟨r, he, rfl⟩
    exact ⟨r, he, grown_refl _⟩
  · obtain rfl : hi = 0 := by omega
    have hyz : ((y : Int) == 0) = false := beq_eq_false_iff_ne.2 (by omega)
    have hle := decide_eq_false (show ¬ (y : Int) ≤ (0 : Nat) by omega)
    have e : ((0 * 18446744073709551616 + lo) / y : Nat) = lo / y := by simp
    rw [e]
    have hd : ((lo / y : Nat) : Int) = (lo : Int) / y := Int.natCast_ediv _ _
    rw [hd]
    have hq0 : 0 ≤ (lo : Int) / y := Int.ediv_nonneg (by omega) (by omega)
    have hq1 : (lo : Int) / y ≤ lo := Int.ediv_le_self _ (by omega)
    clear e hd
    go_enter Try.func46, Try.ntmps46
    go_wp2
    go_quiet (fail)
    go_wp2
    go_ret2
    exact ⟨_, rfl, grown_drew _⟩
end Go.Proofs.Ythohjekfffebkaa
