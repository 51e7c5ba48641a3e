/- The walks of products of two words and of saturating products. Conditions: numbers of Go's int. -/
import Derived.Test.YtcjklklbklopnaaLib3
import Derived.Test.YtcjklklbklopnaaSatAdd
import Derived.Lib.Mul64
import Derived.Laws.Bits64b
namespace Go.Proofs.Ytcjklklbklopnaa
open Go.RowKit Go.ChangeShapes Go.WideShapes
set_option linter.unusedVariables false
set_option linter.unusedSimpArgs false
namespace M64
theorem maskN (a : Nat) (ha : a < 18446744073709551616) : bits .and .u64 (a : Int) 4294967295 = ((a % 4294967296 : Nat) : Int) := by
  have h := bits_and_u64_nat a 4294967295 ha (by omega)
  have e : a &&& 4294967295 = a % 4294967296 := Nat.and_two_pow_sub_one_eq_mod a 32
  rw [e] at h
  exact h
theorem divN (a : Nat) : (a : Int) / 4294967296 = ((a / 4294967296 : Nat) : Int) := by omega
theorem mulN (a b : Nat) : (a : Int) * (b : Int) = ((a * b : Nat) : Int) := (Int.natCast_mul a b).symm
theorem addN (a b : Nat) : (a : Int) + (b : Int) = ((a + b : Nat) : Int) := (Int.natCast_add a b).symm
theorem wrapN (a : Nat) (ha : a < 18446744073709551616) : IntKind.u64.wrap (a : Int) = (a : Int) := by rw [IntKind.wrap_u64]; omega
theorem wrapM (a : Nat) : IntKind.u64.wrap (a : Int) = ((a % 18446744073709551616 : Nat) : Int) := by rw [IntKind.wrap_u64]; omega
end M64
set_option maxHeartbeats 1000000 in
theorem mul64_any (x y : Nat) (hx : x < 18446744073709551616) (hy : y < 18446744073709551616) (w : World) :
    Calls Try.prog 27 #[.int .u64 x, .int .u64 y] w fun e w' => e = .returned (.tuple #[.int .u64 ((x * y / 18446744073709551616 : Nat) : Int), .int .u64 ((x * y % 18446744073709551616 : Nat) : Int)]) ∧ w = w' := by
  obtain ⟨bd, bt, bw, hhi⟩ := Lib.mul64_hi x y hx hy
  have ba := Lib.half_mul_le (a := x / 4294967296) (b := y / 4294967296) (by omega) (by omega)
  have bb := Lib.half_mul_le (a := x / 4294967296) (b := y % 4294967296) (by omega) (by omega)
  have bc := Lib.half_mul_le (a := x % 4294967296) (b := y / 4294967296) (by omega) (by omega)
  have ba' : x / 4294967296 * (y / 4294967296) < 18446744073709551616 := by omega
  have bb' : x / 4294967296 * (y % 4294967296) < 18446744073709551616 := by omega
  have bc' : x % 4294967296 * (y / 4294967296) < 18446744073709551616 := by omega
  have bh1 : x / 4294967296 * (y / 4294967296) + (x / 4294967296 * (y % 4294967296) + x % 4294967296 * (y % 4294967296) / 4294967296) / 4294967296 < 18446744073709551616 := by omega
  have bh : x / 4294967296 * (y / 4294967296) + (x / 4294967296 * (y % 4294967296) + x % 4294967296 * (y % 4294967296) / 4294967296) / 4294967296 + ((x / 4294967296 * (y % 4294967296) + x % 4294967296 * (y % 4294967296) / 4294967296) % 4294967296 + x % 4294967296 * (y / 4294967296)) / 4294967296 < 18446744073709551616 := by omega
  go_enter Try.func27, Try.ntmps27
  go_wp2
  simp only [M64.maskN x hx, M64.maskN y hy, M64.divN, M64.mulN, M64.addN, M64.wrapN _ bd, M64.wrapN _ bb', M64.wrapN _ bt, M64.maskN _ bt, M64.wrapN _ bc', M64.wrapN _ bw, M64.wrapN _ ba', M64.wrapN _ bh1, M64.wrapN _ bh, M64.wrapM (x * y)]
  rw [hhi]
  go_ret2
  exact ⟨rfl, rfl⟩
set_option maxHeartbeats 1000000 in
theorem bmul_any (x y : Nat) (hx : x < 18446744073709551616) (hy : y < 18446744073709551616) (w : World) :
    Calls Try.prog 22 #[.int .u64 x, .int .u64 y] w fun e w' => e = .returned (.tuple #[.int .u64 ((x * y / 18446744073709551616 : Nat) : Int), .int .u64 ((x * y % 18446744073709551616 : Nat) : Int)]) ∧ w = w' := by
  have C := Lib.hid (mul64_any x y hx hy w)
  generalize x * y / 18446744073709551616 = p at *
  generalize x * y % 18446744073709551616 = q at *
  go_enter Try.func22, Try.ntmps22
  go_wp2_with (go_at_call 27; refine C.out.mono ?_; rintro e w' ⟨rfl, rfl⟩)
  go_ret2
  exact ⟨rfl, rfl⟩
/-- Mul: the product, the flag. -/
def mulS (a b m : Int) : Int := if max a 0 * max b 0 > max m 0 then max m 0 else max a 0 * max b 0
def mulB (a b m : Int) : Bool := decide (max a 0 * max b 0 > max m 0)
theorem bmulI_any (x y : Int) (w : World) (hx0 : 0 ≤ x) (hx : x < 18446744073709551616) (hy0 : 0 ≤ y) (hy : y < 18446744073709551616) :
    Calls Try.prog 22 #[.int .u64 x, .int .u64 y] w fun e w' => ∃ p : Int, e = .returned (.tuple #[.int .u64 (p / 18446744073709551616), .int .u64 (p % 18446744073709551616)]) ∧ w = w' ∧ 0 ≤ p ∧ Hid (p = x * y) := by
  obtain ⟨X, rfl⟩ := Int.eq_ofNat_of_zero_le hx0
  obtain ⟨Y, rfl⟩ := Int.eq_ofNat_of_zero_le hy0
  refine (bmul_any X Y (by omega) (by omega) w).mono ?_
  rintro e w' ⟨rfl, rfl⟩
  exact ⟨((X * Y : Nat) : Int), by simp, rfl, by omega, show _ = _ by simp⟩
theorem mulS_eq {a b m x y p : Int} (hx : x = max a 0) (hy : y = max b 0) (hp : p = x * y) : mulS a b m = if p > max m 0 then max m 0 else p := by unfold mulS; rw [hp, hx, hy]
theorem mulB_eq {a b m x y p : Int} (hx : x = max a 0) (hy : y = max b 0) (hp : p = x * y) : mulB a b m = decide (p > max m 0) := by unfold mulB; rw [hp, hx, hy]
set_option maxHeartbeats 1600000 in
theorem smul_any (a b m : Int) (w : World) (ha : -9223372036854775808 ≤ a ∧ a ≤ 9223372036854775807) (hb : -9223372036854775808 ≤ b ∧ b ≤ 9223372036854775807) (hm : -9223372036854775808 ≤ m ∧ m ≤ 9223372036854775807) :
    Calls Try.prog 10 #[.int .i64 a, .int .i64 b, .int .i64 m] w fun e w' => e = .returned (.tuple #[.int .i64 (mulS a b m), .bool (mulB a b m)]) ∧ w = w' := by
  go_enter Try.func10, Try.ntmps10
  go_wp2_with fail
  all_goals
    refine (bmulI_any _ _ _ (by omega) (by omega) (by omega) (by omega)).mono ?_
    rintro e w' ⟨p, rfl, rfl, hp0, hp⟩
    have hs := mulS_eq (a := a) (b := b) (m := m) (by omega) (by omega) hp.out
    have ht := mulB_eq (a := a) (b := b) (m := m) (by omega) (by omega) hp.out
    have HS := Lib.hid hs
    have HT := Lib.hid ht
    clear hs ht hp
    go_wp2
    all_goals
      go_ret2
      exact ⟨ret_ib (by rw [HS.out]; split <;> omega) (by rw [HT.out]; first | exact (decide_eq_true (by omega)).symm | exact (decide_eq_false (by omega)).symm), rfl⟩
theorem prod_low {s q r p mid P : Nat} (hP : P = s * 18446744073709551616 + (q + r) * 4294967296 + p) (hm : mid = p / 4294967296 + q % 4294967296 + r % 4294967296) (hp : p < 18446744073709551616) (hq : q ≤ 18446744065119617025) (hr : r ≤ 18446744065119617025) (hs : s ≤ 18446744065119617025) :
    s + q / 4294967296 + r / 4294967296 + mid / 4294967296 = P / 18446744073709551616 ∧ mid % 4294967296 * 4294967296 + p % 4294967296 = P % 18446744073709551616 := by omega
theorem wrap_prod {X Y : Int} {n : Nat} (h : X * Y = (n : Int)) (hn : n < 18446744073709551616) : IntKind.u64.wrap (X * Y) = (n : Int) := by rw [h, IntKind.wrap_u64]; omega
set_option maxRecDepth 100000 in
set_option maxHeartbeats 3200000 in
theorem product_any (x y : Nat) (hx : x < 9223372036854775808) (hy : y < 9223372036854775808) (w : World) :
    Calls Try.prog 23 #[.int .u64 x, .int .u64 y] w fun e w' => e = .returned (.agg #[.int .u64 ((x * y / 18446744073709551616 : Nat) : Int), .int .u64 ((x * y % 18446744073709551616 : Nat) : Int)]) ∧ w.grownBy w' none := by
  have e : x * y = (x / 4294967296) * (y / 4294967296) * 18446744073709551616 + ((x / 4294967296) * (y % 4294967296) + (x % 4294967296) * (y / 4294967296)) * 4294967296 + (x % 4294967296) * (y % 4294967296) := by
    have := Lib.split_mul (x / 4294967296) (x % 4294967296) (y / 4294967296) (y % 4294967296) 4294967296
    rw [Nat.div_add_mod' x 4294967296, Nat.div_add_mod' y 4294967296] at this
    omega
  have ha := Lib.half_mul_le (a := x / 4294967296) (b := y / 4294967296) (by omega) (by omega)
  have hb := Lib.half_mul_le (a := x / 4294967296) (b := y % 4294967296) (by omega) (by omega)
  have hc := Lib.half_mul_le (a := x % 4294967296) (b := y / 4294967296) (by omega) (by omega)
  have hd := Lib.half_mul_le (a := x % 4294967296) (b := y % 4294967296) (by omega) (by omega)
  obtain ⟨p, hp⟩ : ∃ p, p = x % 4294967296 * (y % 4294967296) := ⟨_, rfl⟩
  obtain ⟨q, hq⟩ : ∃ q, q = x / 4294967296 * (y % 4294967296) := ⟨_, rfl⟩
  obtain ⟨r, hr⟩ : ∃ r, r = x % 4294967296 * (y / 4294967296) := ⟨_, rfl⟩
  obtain ⟨s, hs⟩ : ∃ s, s = x / 4294967296 * (y / 4294967296) := ⟨_, rfl⟩
  rw [← hp, ← hq, ← hr, ← hs] at e
  rw [← hp] at hd
  rw [← hq] at hb
  rw [← hr] at hc
  rw [← hs] at ha
  have wp : IntKind.u64.wrap ((x : Int) % 4294967296 * ((y : Int) % 4294967296)) = (p : Int) := wrap_prod (by rw [hp]; simp) (by omega)
  have wq : IntKind.u64.wrap ((x : Int) / 4294967296 * ((y : Int) % 4294967296)) = (q : Int) := wrap_prod (by rw [hq]; simp) (by omega)
  have wr : IntKind.u64.wrap ((x : Int) % 4294967296 * ((y : Int) / 4294967296)) = (r : Int) := wrap_prod (by rw [hr]; simp) (by omega)
  have ws : IntKind.u64.wrap ((x : Int) / 4294967296 * ((y : Int) / 4294967296)) = (s : Int) := wrap_prod (by rw [hs]; simp) (by omega)
  clear hp hq hr hs
  obtain ⟨l1, l2⟩ := prod_low (P := x * y) e rfl (by omega) hb hc ha
  have hor : bits BinOp.or IntKind.u64 (IntKind.u64.wrap (((p : Int) / 4294967296 + (q : Int) % 4294967296 + (r : Int) % 4294967296) * 4294967296)) ((p : Int) % 4294967296) = ((x * y % 18446744073709551616 : Nat) : Int) := by
    rw [← l2, IntKind.wrap_u64]
    have h := bits_join .u64 64 (by decide) (fun n a b => by rw [IntKind.wrap_u64]; omega) 32 ((((p : Int) / 4294967296 + (q : Int) % 4294967296 + (r : Int) % 4294967296) * 4294967296) % 18446744073709551616) ((p : Int) % 4294967296) (by omega) (by omega) (by omega) (by omega) (by omega) (by omega)
    rw [h]
    omega
  have hl1 : ((s / 1 : Nat) : Int) + (q : Int) / 4294967296 + (r : Int) / 4294967296 + ((p : Int) / 4294967296 + (q : Int) % 4294967296 + (r : Int) % 4294967296) / 4294967296 = ((x * y / 18446744073709551616 : Nat) : Int) := by rw [← l1]; omega
  have hbb : (s : Int) + (q : Int) / 4294967296 + (r : Int) / 4294967296 + ((p : Int) / 4294967296 + (q : Int) % 4294967296 + (r : Int) % 4294967296) / 4294967296 ≤ 18446744073709551615 := by
    have : x * y / 18446744073709551616 < 18446744073709551616 := by omega
    omega
  simp only [Nat.div_one] at hl1
  generalize x * y / 18446744073709551616 = H at *
  generalize x * y % 18446744073709551616 = L at *
  have HL := Lib.hid hl1
  clear l1 l2 hl1 e
  have kx : bits .and .u64 (x : Int) 4294967295 = (x : Int) % 4294967296 := (M64.maskN x (by omega)).trans (by simp)
  have ky : bits .and .u64 (y : Int) 4294967295 = (y : Int) % 4294967296 := (M64.maskN y (by omega)).trans (by simp)
  have kp : bits .and .u64 (p : Int) 4294967295 = (p : Int) % 4294967296 := (M64.maskN p (by omega)).trans (by simp)
  have kq : bits .and .u64 (q : Int) 4294967295 = (q : Int) % 4294967296 := (M64.maskN q (by omega)).trans (by simp)
  have kr : bits .and .u64 (r : Int) 4294967295 = (r : Int) % 4294967296 := (M64.maskN r (by omega)).trans (by simp)
  go_enter Try.func23, Try.ntmps23
  go_wp2_with fail
  rw [HL.out]
  refine bodyPost_ret (v := .agg #[.int .u64 H, .int .u64 L]) ?_ rfl ⟨rfl, grown_alloc _ _⟩
  simp [results, Try.results23, go_sem]
theorem nat_max {a : Int} (h : a ≤ 9223372036854775807) : ∃ n : Nat, max a 0 = n ∧ n ≤ 9223372036854775807 := ⟨(max a 0).toNat, by omega, by omega⟩
set_option maxHeartbeats 1600000 in
theorem mulr_any (a b m : Int) (w : World) (ha : -9223372036854775808 ≤ a ∧ a ≤ 9223372036854775807) (hb : -9223372036854775808 ≤ b ∧ b ≤ 9223372036854775807) (hm : -9223372036854775808 ≤ m ∧ m ≤ 9223372036854775807) :
    Calls Try.prog 11 #[.int .i64 a, .int .i64 b, .int .i64 m] w fun e w' => e = .returned (.tuple #[.int .i64 (mulS a b m), .bool (mulB a b m)]) ∧ w.grownBy w' none := by
  have ca := fun w : World => natural_any a w ha
  have cb := fun w : World => natural_any b w hb
  have cm := fun w : World => natural_any m w hm
  obtain ⟨A, hA, bA⟩ := nat_max ha.2
  obtain ⟨B, hB, bB⟩ := nat_max hb.2
  obtain ⟨M, hM, bM⟩ := nat_max hm.2
  have hs := mulS_eq (a := a) (b := b) (m := m) (p := ((A * B : Nat) : Int)) rfl rfl (by rw [hA, hB]; simp)
  have ht := mulB_eq (a := a) (b := b) (m := m) (p := ((A * B : Nat) : Int)) rfl rfl (by rw [hA, hB]; simp)
  rw [hM] at hs ht cm
  rw [hA] at ca
  rw [hB] at cb
  have cp := fun w : World => product_any A B (by omega) (by omega) w
  generalize A * B = p at *
  have hH : ∃ H : Nat, H = p / 18446744073709551616 := ⟨_, rfl⟩
  have hL : ∃ L : Nat, L = p % 18446744073709551616 := ⟨_, rfl⟩
  obtain ⟨H, hH⟩ := hH
  obtain ⟨L, hL⟩ := hL
  rw [← hH, ← hL] at cp
  have hHL : p = H * 18446744073709551616 + L ∧ L ≤ 18446744073709551615 := by omega
  obtain ⟨hp, hLb⟩ := hHL
  have hHb : 0 ≤ (H : Int) := by omega
  have CA := Lib.hid ca
  have CB := Lib.hid cb
  have CM := Lib.hid cm
  have CP := Lib.hid cp
  have HS := Lib.hid hs
  have HT := Lib.hid ht
  have HP := Lib.hid hp
  clear ca cb cm cp hs ht hp hA hB hM hH hL
  go_enter Try.func11, Try.ntmps11
  go_wp2_with fail
  refine (CA.out _).mono ?_
  rintro e w' ⟨rfl, rfl⟩
  go_wp2_with fail
  refine (CB.out _).mono ?_
  rintro e w' ⟨rfl, rfl⟩
  go_wp2_with fail
  refine (CM.out _).mono ?_
  rintro e w' ⟨rfl, rfl⟩
  go_wp2_with fail
  refine (CP.out _).mono ?_
  rintro e w1 ⟨rfl, g1⟩
  by_cases h1 : 0 < H
  · have h1' : (0 : Int) < H := by omega
    go_wp2
    go_ret2
    exact ⟨ret_ib (by have := HP.out; rw [HS.out, if_pos (by omega)]) (by have := HP.out; rw [HT.out]; exact (decide_eq_true (by omega)).symm), g1.trans' (grown_alloc _ _)⟩
  · have hH0 : H = 0 := by omega
    subst hH0
    by_cases h2 : (M : Int) < L
    · go_wp2
      go_ret2
      exact ⟨ret_ib (by have := HP.out; rw [HS.out, if_pos (by omega)]) (by have := HP.out; rw [HT.out]; exact (decide_eq_true (by omega)).symm), g1.trans' (grown_alloc _ _)⟩
    · go_wp2
      go_ret2
      exact ⟨ret_ib (by have := HP.out; rw [HS.out, if_neg (by omega)]; omega) (by have := HP.out; rw [HT.out]; exact (decide_eq_false (by omega)).symm), g1.trans' (grown_alloc _ _)⟩
end Go.Proofs.Ytcjklklbklopnaa
