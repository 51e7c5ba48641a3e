/- The walks of saturating addition. Condition: the numbers are of Go's int. -/
import Derived.Test.YtcjklklbklopnaaLib
namespace Go.Proofs.Ytcjklklbklopnaa
open Go.RowKit Go.ChangeShapes Go.WideShapes
set_option linter.unusedVariables false
set_option linter.unusedSimpArgs false
/-- Add: the sum, the flag. -/
def addS (a b m : Int) : Int := if max a 0 + max b 0 > max m 0 then max m 0 else max a 0 + max b 0
def addB (a b m : Int) : Bool := decide (max a 0 + max b 0 > max m 0)
theorem ret_ib {k : IntKind} {x x' : Int} {y y' : Bool} (h1 : x = x') (h2 : y = y') : Ending.returned (.tuple #[.int k x, .bool y]) = .returned (.tuple #[.int k x', .bool y']) := by rw [h1, h2]
theorem ret_i {k : IntKind} {x x' : Int} (h1 : x = x') : Ending.returned (.int k x) = .returned (.int k x') := by rw [h1]
theorem add_any (a b m : Int) (w : World) (ha : -9223372036854775808 ≤ a ∧ a ≤ 9223372036854775807) (hb : -9223372036854775808 ≤ b ∧ b ≤ 9223372036854775807) (hm : -9223372036854775808 ≤ m ∧ m ≤ 9223372036854775807) :
    Calls Try.prog 8 #[.int .i64 a, .int .i64 b, .int .i64 m] w fun e w' => e = .returned (.tuple #[.int .i64 (addS a b m), .bool (addB a b m)]) ∧ w = w' := by
  go_enter Try.func8, Try.ntmps8
  go_wp2
  all_goals
    go_ret2
    exact ⟨ret_ib (by unfold addS; split <;> omega) (by unfold addB; first | exact (decide_eq_true (by omega)).symm | exact (decide_eq_false (by omega)).symm), rfl⟩
theorem natural_any (a : Int) (w : World) (ha : -9223372036854775808 ≤ a ∧ a ≤ 9223372036854775807) :
    Calls Try.prog 21 #[.int .i64 a] w fun e w' => e = .returned (.int .i64 (max a 0)) ∧ w = w' := by
  go_enter Try.func21, Try.ntmps21
  go_wp2
  all_goals
    go_ret
    exact ⟨ret_i (by (repeat' split) <;> omega), rfl⟩
theorem addr_any (a b m : Int) (w : World) (ha : -9223372036854775808 ≤ a ∧ a ≤ 9223372036854775807) (hb : -9223372036854775808 ≤ b ∧ b ≤ 9223372036854775807) (hm : -9223372036854775808 ≤ m ∧ m ≤ 9223372036854775807) :
    Calls Try.prog 9 #[.int .i64 a, .int .i64 b, .int .i64 m] w fun e w' => e = .returned (.tuple #[.int .i64 (addS a b m), .bool (addB a b m)]) ∧ w = w' := by
  have ca := fun w : World => natural_any a w ha
  have cb := fun w : World => natural_any b w hb
  have cm := fun w : World => natural_any m w hm
  have hS : Hid (addS a b m = if max a 0 + max b 0 > max m 0 then max m 0 else max a 0 + max b 0) := rfl
  have hB : Hid (addB a b m = decide (max a 0 + max b 0 > max m 0)) := rfl
  have la : 0 ≤ max a 0 ∧ max a 0 ≤ 9223372036854775807 := by omega
  have lb : 0 ≤ max b 0 ∧ max b 0 ≤ 9223372036854775807 := by omega
  have lm : 0 ≤ max m 0 ∧ max m 0 ≤ 9223372036854775807 := by omega
  have CA := Lib.hid ca
  have CB := Lib.hid cb
  have CM := Lib.hid cm
  generalize max a 0 = A at *
  generalize max b 0 = B at *
  generalize max m 0 = M at *
  clear ca cb cm
  go_enter Try.func9, Try.ntmps9
  go_wp2_with fail
  refine (CA.out _).mono ?_
  rintro e w' ⟨rfl, rfl⟩
  go_wp2_with fail
  refine (CB.out _).mono ?_
  rintro e w' ⟨rfl, rfl⟩
  go_wp2_with fail
  refine (CM.out _).mono ?_
  rintro e w' ⟨rfl, rfl⟩
  by_cases h1 : A > M
  · go_wp2
    go_ret2
    exact ⟨ret_ib (by rw [hS.out, if_pos (by omega)]) (by rw [hB.out]; exact (decide_eq_true (by omega)).symm), rfl⟩
  · by_cases h2 : B > M - A
    · go_wp2
      go_ret2
      exact ⟨ret_ib (by rw [hS.out, if_pos (by omega)]) (by rw [hB.out]; exact (decide_eq_true (by omega)).symm), rfl⟩
    · go_wp2
      go_ret2
      exact ⟨ret_ib (by rw [hS.out, if_neg (by omega)]) (by rw [hB.out]; exact (decide_eq_false (by omega)).symm), rfl⟩
end Go.Proofs.Ytcjklklbklopnaa
