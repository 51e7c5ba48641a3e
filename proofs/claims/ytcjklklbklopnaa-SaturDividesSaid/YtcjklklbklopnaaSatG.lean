/- The walk of SaturDivides. Conditions: Go's ints. -/
import Derived.Test.YtcjklklbklopnaaMdP
import Derived.Test.YtcjklklbklopnaaMdR
namespace Go.Proofs.Ytcjklklbklopnaa
open Go.RowKit Go.ChangeShapes Go.WideShapes
set_option linter.unusedVariables false
set_option linter.unusedSimpArgs false
theorem mdr_full (a b c : Int) (w : World) (ha : -9223372036854775808 ≤ a ∧ a ≤ 9223372036854775807) (hb : -9223372036854775808 ≤ b ∧ b ≤ 9223372036854775807) (hc : -9223372036854775808 ≤ c ∧ c ≤ 9223372036854775807) :
    Calls Try.prog 18 #[.int .i64 a, .int .i64 b, .int .i64 c] w fun e w' => e = .returned (.tuple #[.int .i64 (mdF a b c).1, .int .i64 (mdF a b c).2]) ∧ w.grownBy w' none := by
  by_cases hn : a < 0 ∨ b < 0 ∨ c < 1
  · rw [mdF_no hn]
    by_cases h1 : a < 0
    · clear hn
      go_enter Try.func18, Try.ntmps18
      go_wp2
      go_ret2
      exact ⟨rfl, grown_refl _⟩
    · by_cases h2 : b < 0
      · clear hn
        go_enter Try.func18, Try.ntmps18
        go_wp2
        go_ret2
        exact ⟨rfl, grown_refl _⟩
      · have h3 : c < 1 := by omega
        clear hn
        go_enter Try.func18, Try.ntmps18
        go_wp2
        go_ret2
        exact ⟨rfl, grown_refl _⟩
  · obtain ⟨A, rfl⟩ := Int.eq_ofNat_of_zero_le (show 0 ≤ a by omega)
    obtain ⟨B, rfl⟩ := Int.eq_ofNat_of_zero_le (show 0 ≤ b by omega)
    obtain ⟨C, rfl⟩ := Int.eq_ofNat_of_zero_le (show 0 ≤ c by omega)
    have := mdrN_any A B C w (by omega) (by omega) (by omega) (by omega)
    rw [mdF_yes (A := A) (B := B) (C := C) (by omega)]
    exact this
set_option maxRecDepth 100000 in
set_option maxHeartbeats 1600000 in
theorem SaturDivides_walk (a0 a1 a2 : Int) (w : World) (h0 : (Lit.int .i64 a0).wf = true) (h1 : (Lit.int .i64 a1).wf = true) (h2 : (Lit.int .i64 a2).wf = true) :
    Calls Try.prog 6 #[.int .i64 a0, .int .i64 a1, .int .i64 a2] w fun e w' => e = .returned (.bool true) ∧ Below w.heap.size w w' := by
  have b0 := bounds_i64 h0
  have b1 := bounds_i64 h1
  have b2 := bounds_i64 h2
  have C1 := Lib.hid (fun w => mdp_any a0 a1 a2 w b0 b1 b2)
  have C2 := Lib.hid (fun w => mdr_full a0 a1 a2 w b0 b1 b2)
  have C3 := Lib.hid (fun w => ceil_any a0 a1 w b0.2)
  have C4 := Lib.hid (fun w => ceilr_any a0 a1 w b0.2)
  generalize mdF a0 a1 a2 = m at *
  generalize ceilR a0 a1 = c at *
  obtain ⟨m1, m2⟩ := m
  obtain ⟨c1, c2⟩ := c
  clear h0 h1 h2
  go_enter Try.func6, Try.ntmps6
  go_wp2_with fail
  refine (C1.out _).mono ?_
  rintro e w1 ⟨rfl, g1⟩
  go_wp2_with fail
  refine (C2.out _).mono ?_
  rintro e w2 ⟨rfl, g2⟩
  go_wp2_with fail
  refine (C3.out _).mono ?_
  rintro e w3 ⟨rfl, rfl⟩
  go_wp2_with fail
  refine (C4.out _).mono ?_
  rintro e w4 ⟨rfl, rfl⟩
  go_wp2_with (go_at_call 12; refine (knowns_any _).mono ?_; rintro e w5 ⟨rfl, g5⟩)
  go_ret
  exact ⟨rfl, below_of_grown ((g1.trans' g2).trans' g5)⟩
end Go.Proofs.Ytcjklklbklopnaa
