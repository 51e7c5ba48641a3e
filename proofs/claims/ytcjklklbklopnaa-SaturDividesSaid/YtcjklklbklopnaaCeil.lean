/- The walks of CeilDiv. Conditions: numbers of Go's int. -/
import Derived.Test.YtcjklklbklopnaaPgSpec
namespace Go.Proofs.Ytcjklklbklopnaa
open Go.RowKit Go.ChangeShapes Go.WideShapes
set_option linter.unusedVariables false
set_option linter.unusedSimpArgs false
theorem ret_ii {a b c d : Int} (h1 : a = c) (h2 : b = d) : Ending.returned (.tuple #[.int .i64 a, .int .i64 b]) = .returned (.tuple #[.int .i64 c, .int .i64 d]) := by rw [h1, h2]
set_option maxHeartbeats 800000 in
theorem ceil_any (a b : Int) (w : World) (ha : a ≤ 9223372036854775807) :
    Calls Try.prog 19 #[.int .i64 a, .int .i64 b] w fun e w' => e = .returned (.tuple #[.int .i64 (ceilR a b).1, .int .i64 (ceilR a b).2]) ∧ w = w' := by
  by_cases h0 : a < 0
  · have h : Hid (ceilR a b = (0, 5)) := by show _ = _; unfold ceilR; rw [if_pos (.inl h0)]
    go_enter Try.func19, Try.ntmps19
    go_wp2
    go_ret2
    rw [h.out]
    exact ⟨rfl, rfl⟩
  · by_cases h1 : b < 1
    · have h : Hid (ceilR a b = (0, 5)) := by show _ = _; unfold ceilR; rw [if_pos (.inr h1)]
      go_enter Try.func19, Try.ntmps19
      go_wp2
      go_ret2
      rw [h.out]
      exact ⟨rfl, rfl⟩
    · have h : Hid (ceilR a b = (ceilD a b, 0)) := by show _ = _; unfold ceilR; rw [if_neg (by omega)]
      have hr := ceilD_range (a := a) (b := b) (by omega) (by omega)
      have hq : 0 ≤ a / b := Int.ediv_nonneg (by omega) (by omega)
      have hq2 : a / b ≤ a := Int.ediv_le_self _ (by omega)
      have hbz : (b == 0) = false := beq_eq_false_iff_ne.2 (by omega)
      by_cases hm : a % b > 0
      · have hc : Hid (ceilD a b = a / b + 1) := by show _ = _; unfold ceilD; rw [if_pos hm]
        have hq3 : a / b + 1 ≤ a := by have := hr.2; rwa [hc.out] at this
        clear hr
        go_enter Try.func19, Try.ntmps19
        go_wp2
        go_ret2
        rw [h.out, hc.out]
        exact ⟨rfl, rfl⟩
      · have hc : Hid (ceilD a b = a / b) := by show _ = _; unfold ceilD; rw [if_neg hm]
        clear hr
        go_enter Try.func19, Try.ntmps19
        go_wp2
        go_ret2
        rw [h.out, hc.out]
        exact ⟨rfl, rfl⟩
set_option maxHeartbeats 800000 in
theorem ceilr_any (a b : Int) (w : World) (ha : a ≤ 9223372036854775807) :
    Calls Try.prog 20 #[.int .i64 a, .int .i64 b] w fun e w' => e = .returned (.tuple #[.int .i64 (ceilR a b).1, .int .i64 (ceilR a b).2]) ∧ w = w' := by
  by_cases h0 : a < 0
  · have h : Hid (ceilR a b = (0, 5)) := by show _ = _; unfold ceilR; rw [if_pos (.inl h0)]
    go_enter Try.func20, Try.ntmps20
    go_wp2
    go_ret2
    rw [h.out]
    exact ⟨rfl, rfl⟩
  · by_cases h1 : b < 1
    · have h : Hid (ceilR a b = (0, 5)) := by show _ = _; unfold ceilR; rw [if_pos (.inr h1)]
      go_enter Try.func20, Try.ntmps20
      go_wp2
      go_ret2
      rw [h.out]
      exact ⟨rfl, rfl⟩
    · have h : Hid (ceilR a b = (ceilD a b, 0)) := by show _ = _; unfold ceilR; rw [if_neg (by omega)]
      have hr := ceilD_range (a := a) (b := b) (by omega) (by omega)
      have hq : 0 ≤ a / b := Int.ediv_nonneg (by omega) (by omega)
      have hq2 : a / b ≤ a := Int.ediv_le_self _ (by omega)
      have hbz : (b == 0) = false := beq_eq_false_iff_ne.2 (by omega)
      by_cases hm : a % b > 0
      · have hc : Hid (ceilD a b = a / b + 1) := by show _ = _; unfold ceilD; rw [if_pos hm]
        have hq3 : a / b + 1 ≤ a := by have := hr.2; rwa [hc.out] at this
        clear hr
        go_enter Try.func20, Try.ntmps20
        go_wp2
        go_ret2
        rw [h.out, hc.out]
        exact ⟨rfl, rfl⟩
      · have hc : Hid (ceilD a b = a / b) := by show _ = _; unfold ceilD; rw [if_neg hm]
        clear hr
        go_enter Try.func20, Try.ntmps20
        go_wp2
        go_ret2
        rw [h.out, hc.out]
        exact ⟨rfl, rfl⟩
end Go.Proofs.Ytcjklklbklopnaa
