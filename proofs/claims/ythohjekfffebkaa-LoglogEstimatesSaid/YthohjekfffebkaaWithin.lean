/- The walk of the reference's within. No condition. -/
import Derived.Test.YthohjekfffebkaaLib2
import Derived.Test.YthohjekfffebkaaNames
namespace Go.Proofs.Ythohjekfffebkaa
open Go.RowKit Go.ChangeShapes Go.WideShapes
set_option linter.unusedVariables false
set_option linter.unusedSimpArgs false
theorem within_any (n lo hi : Int) (w : World) :
    Calls Try.prog 33 #[.int .i64 n, .int .i64 lo, .int .i64 hi] w fun e w' => e = .returned (.bool (decide (lo ≤ n ∧ n ≤ hi))) ∧ w = w' := by
  by_cases h1 : lo ≤ n
  · by_cases h2 : n ≤ hi
    · go_enter Try.func33, Try.ntmps33
      go_wp2
      go_ret
      exact ⟨by first | rfl | exact ret_b (by simp [h1, h2]), rfl⟩
    · go_enter Try.func33, Try.ntmps33
      go_wp2
      go_ret
      exact ⟨by first | rfl | exact ret_b (by simp [h1, h2]), rfl⟩
  · go_enter Try.func33, Try.ntmps33
    go_wp2
    go_ret
    exact ⟨by first | rfl | exact ret_b (by simp; omega), rfl⟩
theorem within_yes (n lo hi : Int) (w : World) (h : lo ≤ n ∧ n ≤ hi) :
    Calls Try.prog 33 #[.int .i64 n, .int .i64 lo, .int .i64 hi] w fun e w' => e = .returned (.bool true) ∧ w = w' := by
  refine (within_any n lo hi w).mono ?_
  rw [decide_eq_true h]
  exact fun _ _ h => h
theorem within_no (n lo hi : Int) (w : World) (h : ¬ (lo ≤ n ∧ n ≤ hi)) :
    Calls Try.prog 33 #[.int .i64 n, .int .i64 lo, .int .i64 hi] w fun e w' => e = .returned (.bool false) ∧ w = w' := by
  refine (within_any n lo hi w).mono ?_
  rw [decide_eq_false h]
  exact fun _ _ h => h
end Go.Proofs.Ythohjekfffebkaa
