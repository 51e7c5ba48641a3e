/- The walk of MulDiv. Conditions: numbers of Go's int. -/
import Derived.Test.YtcjklklbklopnaaDivA
import Derived.Test.YtcjklklbklopnaaSatC
namespace Go.Proofs.Ytcjklklbklopnaa
open Go.RowKit Go.ChangeShapes Go.WideShapes
set_option linter.unusedVariables false
set_option linter.unusedSimpArgs false
theorem bdiv_all (hi lo y : Nat) (w : World) (h1 : hi < y) (hy : y < 18446744073709551616) (hl : lo < 18446744073709551616) :
    Calls Try.prog 25 #[.int .u64 hi, .int .u64 lo, .int .u64 y] w fun e w' => ∃ r : Int, e = .returned (.tuple #[.int .u64 ((hi * 18446744073709551616 + lo) / y : Nat), .int .u64 r]) ∧ w.grownBy w' none := by
  have C := Lib.hid (div64_all hi lo y w h1 hy hl)
  generalize (hi * 18446744073709551616 + lo) / y = Q at *
  go_enter Try.func25, Try.ntmps25
  go_wp2_with (go_at_call 30; refine C.out.mono ?_; rintro e w' ⟨r, rfl, g⟩)
  go_ret2
  exact ⟨_, rfl, g⟩
/-- MulDiv: the quotient, the error. -/
def mdF (a b c : Int) : Int × Int := if a < 0 ∨ b < 0 ∨ c < 1 then (0, 5) else mdR a b c
theorem mdF_no {a b c : Int} (h : a < 0 ∨ b < 0 ∨ c < 1) : mdF a b c = (0, 5) := by unfold mdF; rw [if_pos h]
theorem mdF_yes {A B C : Nat} (h : 1 ≤ C) : mdF A B C = if A * B / C > 4611686018427387904 then (0, 5) else (((A * B / C : Nat) : Int), 0) := by
  unfold mdF mdR
  rw [if_neg (by omega)]
  have e : ((A : Int) * B / C) = ((A * B / C : Nat) : Int) := by push_cast; rfl
  rw [e]
  by_cases h1 : A * B / C > 4611686018427387904
  · rw [if_pos (by omega), if_pos h1]
  · rw [if_neg (by omega), if_neg h1]
set_option maxHeartbeats 1600000 in
theorem mdp_any (a b c : Int) (w : World) (ha : -9223372036854775808 ≤ a ∧ a ≤ 9223372036854775807) (hb : -9223372036854775808 ≤ b ∧ b ≤ 9223372036854775807) (hc : -9223372036854775808 ≤ c ∧ c ≤ 9223372036854775807) :
    Calls Try.prog 17 #[.int .i64 a, .int .i64 b, .int .i64 c] w fun e w' => e = .returned (.tuple #[.int .i64 (mdF a b c).1, .int .i64 (mdF a b c).2]) ∧ w.grownBy w' none := by
  by_cases hn : a < 0 ∨ b < 0 ∨ c < 1
  · rw [mdF_no hn]
    by_cases h1 : a < 0
    · clear hn
      go_enter Try.func17, Try.ntmps17
      go_wp2
      go_ret2
      exact ⟨rfl, grown_refl _⟩
    · by_cases h2 : b < 0
      · clear hn
        go_enter Try.func17, Try.ntmps17
        go_wp2
        go_ret2
        exact ⟨rfl, grown_refl _⟩
      · have h3 : c < 1 := by omega
        clear hn
        go_enter Try.func17, Try.ntmps17
        go_wp2
        go_ret2
        exact ⟨rfl, grown_refl _⟩
  · obtain ⟨A, rfl⟩ := Int.eq_ofNat_of_zero_le (show 0 ≤ a by omega)
    obtain ⟨B, rfl⟩ := Int.eq_ofNat_of_zero_le (show 0 ≤ b by omega)
    obtain ⟨C, rfl⟩ := Int.eq_ofNat_of_zero_le (show 0 ≤ c by omega)
    have hC : 1 ≤ C := by omega
    have hF := mdF_yes (A := A) (B := B) hC
    have c1 := fun w => bmul_any A B (by omega) (by omega) w
    have hL := Nat.mod_lt (A * B) (show 0 < 18446744073709551616 by decide)
    have hdm := Nat.div_add_mod (A * B) 18446744073709551616
    have hq : ∀ H, H = A * B / 18446744073709551616 → C ≤ H → 4611686018427387904 < A * B / C := fun H e h => by
      have h1 : 4611686018427387905 * C ≤ A * B := by omega
      exact (Nat.le_div_iff_mul_le (by omega)).2 h1
    generalize A * B / 18446744073709551616 = H at *
    generalize A * B % 18446744073709551616 = L at *
    have hp : A * B = H * 18446744073709551616 + L := by omega
    rw [hp] at hF hq
    have C1 := Lib.hid c1
    have HF := Lib.hid hF
    have hq' := hq H rfl
    clear c1 hF hdm hp hn hq
    by_cases hh : C ≤ H
    · have hQ := hq' hh
      have HF2 : Hid (mdF A B C = (0, 5)) := by show _ = _; rw [HF.out, if_pos hQ]
      clear HF hq' hQ
      go_enter Try.func17, Try.ntmps17
      go_wp2_with fail
      refine (C1.out _).mono ?_
      rintro e w1 ⟨rfl, rfl⟩
      go_wp2
      go_ret2
      rw [HF2.out]
      exact ⟨rfl, grown_refl _⟩
    · have C2 := Lib.hid (fun w => bdiv_all H L C w (by omega) (by omega) hL)
      generalize (H * 18446744073709551616 + L) / C = Q at *
      by_cases hQ : Q > 4611686018427387904
      · have HF2 : Hid (mdF A B C = (0, 5)) := by show _ = _; rw [HF.out, if_pos hQ]
        clear HF hq'
        go_enter Try.func17, Try.ntmps17
        go_wp2_with fail
        refine (C1.out _).mono ?_
        rintro e w1 ⟨rfl, rfl⟩
        go_wp2_with fail
        refine (C2.out _).mono ?_
        rintro e w2 ⟨r, rfl, g2⟩
        go_wp2
        go_ret2
        rw [HF2.out]
        exact ⟨rfl, g2⟩
      · have HF2 : Hid (mdF A B C = ((Q : Int), 0)) := by show _ = _; rw [HF.out, if_neg hQ]
        clear HF hq'
        go_enter Try.func17, Try.ntmps17
        go_wp2_with fail
        refine (C1.out _).mono ?_
        rintro e w1 ⟨rfl, rfl⟩
        go_wp2_with fail
        refine (C2.out _).mono ?_
        rintro e w2 ⟨r, rfl, g2⟩
        go_wp2
        go_ret2
        rw [HF2.out]
        exact ⟨rfl, g2⟩
end Go.Proofs.Ytcjklklbklopnaa
