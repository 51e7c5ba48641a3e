/- The walks of products of two words and of saturating products. Conditions: numbers of Go's int. -/
import Derived.Test.YtcjklklbklopnaaProd
import Derived.Test.YtcjklklbklopnaaSatAdd
namespace Go.Proofs.Ytcjklklbklopnaa
open Go.RowKit Go.ChangeShapes Go.WideShapes
set_option linter.unusedVariables false
set_option linter.unusedSimpArgs false
set_option maxHeartbeats 1000000 in
theorem bmul_any (x y : Nat) (hx : x < 18446744073709551616) (hy : y < 18446744073709551616) (w : World) :
    Calls Try.prog 22 #[.int .u64 x, .int .u64 y] w fun e w' => e = .returned (.tuple #[.int .u64 ((x * y / 18446744073709551616 : Nat) : Int), .int .u64 ((x * y % 18446744073709551616 : Nat) : Int)]) ∧ w = w' := by
  have C := Lib.hid (mul64_any x y hx hy w)
  generalize x * y / 18446744073709551616 = p at *
  generalize x * y % 18446744073709551616 = q at *
  go_enter Try.func22, Try.ntmps22
  go_wp2_with (go_at_call 27; refine C.out.mono ?_; rintro e w' ⟨rfl, rfl⟩)
  go_ret2
  exact ⟨rfl, rfl⟩
/-- Mul: the product, the flag. -/
def mulS (a b m : Int) : Int := if max a 0 * max b 0 > max m 0 then max m 0 else max a 0 * max b 0
def mulB (a b m : Int) : Bool := decide (max a 0 * max b 0 > max m 0)
theorem bmulI_any (x y : Int) (w : World) (hx0 : 0 ≤ x) (hx : x < 18446744073709551616) (hy0 : 0 ≤ y) (hy : y < 18446744073709551616) :
    Calls Try.prog 22 #[.int .u64 x, .int .u64 y] w fun e w' => ∃ p : Int, e = .returned (.tuple #[.int .u64 (p / 18446744073709551616), .int .u64 (p % 18446744073709551616)]) ∧ w = w' ∧ 0 ≤ p ∧ Hid (p = x * y) := by
  obtain ⟨X, rfl⟩ := Int.eq_ofNat_of_zero_le hx0
  obtain ⟨Y, rfl⟩ := Int.eq_ofNat_of_zero_le hy0
  refine (bmul_any X Y (by omega) (by omega) w).mono ?_
  rintro e w' ⟨rfl, rfl⟩
  exact ⟨((X * Y : Nat) : Int), by simp, rfl, by omega, show _ = _ by simp⟩
theorem mulS_eq {a b m x y p : Int} (hx : x = max a 0) (hy : y = max b 0) (hp : p = x * y) : mulS a b m = if p > max m 0 then max m 0 else p := by unfold mulS; rw [hp, hx, hy]
theorem mulB_eq {a b m x y p : Int} (hx : x = max a 0) (hy : y = max b 0) (hp : p = x * y) : mulB a b m = decide (p > max m 0) := by unfold mulB; rw [hp, hx, hy]
set_option maxHeartbeats 1600000 in
theorem smul_any (a b m : Int) (w : World) (ha : -9223372036854775808 ≤ a ∧ a ≤ 9223372036854775807) (hb : -9223372036854775808 ≤ b ∧ b ≤ 9223372036854775807) (hm : -9223372036854775808 ≤ m ∧ m ≤ 9223372036854775807) :
    Calls Try.prog 10 #[.int .i64 a, .int .i64 b, .int .i64 m] w fun e w' => e = .returned (.tuple #[.int .i64 (mulS a b m), .bool (mulB a b m)]) ∧ w = w' := by
  go_enter Try.func10, Try.ntmps10
  go_wp2_with fail
  all_goals
    refine (bmulI_any _ _ _ (by omega) (by omega) (by omega) (by omega)).mono ?_
    rintro e w' ⟨p, rfl, rfl, hp0, hp⟩
    have hs := mulS_eq (a := a) (b := b) (m := m) (by omega) (by omega) hp.out
    have ht := mulB_eq (a := a) (b := b) (m := m) (by omega) (by omega) hp.out
    have HS := Lib.hid hs
    have HT := Lib.hid ht
    clear hs ht hp
    go_wp2
    all_goals
      go_ret2
      exact ⟨ret_ib (by rw [HS.out]; split <;> omega) (by rw [HT.out]; first | exact (decide_eq_true (by omega)).symm | exact (decide_eq_false (by omega)).symm), rfl⟩
theorem nat_max {a : Int} (h : a ≤ 9223372036854775807) : ∃ n : Nat, max a 0 = n ∧ n ≤ 9223372036854775807 := ⟨(max a 0).toNat, by omega, by omega⟩
set_option maxHeartbeats 1600000 in
theorem mulr_any (a b m : Int) (w : World) (ha : -9223372036854775808 ≤ a ∧ a ≤ 9223372036854775807) (hb : -9223372036854775808 ≤ b ∧ b ≤ 9223372036854775807) (hm : -9223372036854775808 ≤ m ∧ m ≤ 9223372036854775807) :
    Calls Try.prog 11 #[.int .i64 a, .int .i64 b, .int .i64 m] w fun e w' => e = .returned (.tuple #[.int .i64 (mulS a b m), .bool (mulB a b m)]) ∧ w.grownBy w' none := by
  have ca := fun w : World => natural_any a w ha
  have cb := fun w : World => natural_any b w hb
  have cm := fun w : World => natural_any m w hm
  obtain ⟨A, hA, bA⟩ := nat_max ha.2
  obtain ⟨B, hB, bB⟩ := nat_max hb.2
  obtain ⟨M, hM, bM⟩ := nat_max hm.2
  have hs := mulS_eq (a := a) (b := b) (m := m) (p := ((A * B : Nat) : Int)) rfl rfl (by rw [hA, hB]; simp)
  have ht := mulB_eq (a := a) (b := b) (m := m) (p := ((A * B : Nat) : Int)) rfl rfl (by rw [hA, hB]; simp)
  rw [hM] at hs ht cm
  rw [hA] at ca
  rw [hB] at cb
  have cp := fun w : World => product_any A B (by omega) (by omega) w
  generalize A * B = p at *
  have hH : ∃ H : Nat, H = p / 18446744073709551616 := ⟨_, rfl⟩
  have hL : ∃ L : Nat, L = p % 18446744073709551616 := ⟨_, rfl⟩
  obtain ⟨H, hH⟩ := hH
  obtain ⟨L, hL⟩ := hL
  rw [← hH, ← hL] at cp
  have hHL : p = H * 18446744073709551616 + L ∧ L ≤ 18446744073709551615 := by omega
  obtain ⟨hp, hLb⟩ := hHL
  have hHb : 0 ≤ (H : Int) := by omega
  have CA := Lib.hid ca
  have CB := Lib.hid cb
  have CM := Lib.hid cm
  have CP := Lib.hid cp
  have HS := Lib.hid hs
  have HT := Lib.hid ht
  have HP := Lib.hid hp
  clear ca cb cm cp hs ht hp hA hB hM hH hL
  go_enter Try.func11, Try.ntmps11
  go_wp2_with fail
  refine (CA.out _).mono ?_
  rintro e w' ⟨rfl, rfl⟩
  go_wp2_with fail
  refine (CB.out _).mono ?_
  rintro e w' ⟨rfl, rfl⟩
  go_wp2_with fail
  refine (CM.out _).mono ?_
  rintro e w' ⟨rfl, rfl⟩
  go_wp2_with fail
  refine (CP.out _).mono ?_
  rintro e w1 ⟨rfl, g1⟩
  by_cases h1 : 0 < H
  · have h1' : (0 : Int) < H := by omega
    go_wp2
    go_ret2
    exact ⟨ret_ib (by have := HP.out; rw [HS.out, if_pos (by omega)]) (by have := HP.out; rw [HT.out]; exact (decide_eq_true (by omega)).symm), g1.trans' (grown_alloc _ _)⟩
  · have hH0 : H = 0 := by omega
    subst hH0
    by_cases h2 : (M : Int) < L
    · go_wp2
      go_ret2
      exact ⟨ret_ib (by have := HP.out; rw [HS.out, if_pos (by omega)]) (by have := HP.out; rw [HT.out]; exact (decide_eq_true (by omega)).symm), g1.trans' (grown_alloc _ _)⟩
    · go_wp2
      go_ret2
      exact ⟨ret_ib (by have := HP.out; rw [HS.out, if_neg (by omega)]; omega) (by have := HP.out; rw [HT.out]; exact (decide_eq_false (by omega)).symm), g1.trans' (grown_alloc _ _)⟩
end Go.Proofs.Ytcjklklbklopnaa
