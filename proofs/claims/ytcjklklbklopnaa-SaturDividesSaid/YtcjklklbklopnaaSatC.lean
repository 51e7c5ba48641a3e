/- The walks of the reference's Powers and LeadingZeros and of MulDiv where the product is small. Conditions: numbers of Go's int, words. -/
import Derived.Test.YtcjklklbklopnaaSatB
import Derived.Test.YtcjklklbklopnaaSatMul
import Derived.Test.YtcjklklbklopnaaCeil
namespace Go.Proofs.Ytcjklklbklopnaa
open Go.RowKit Go.ChangeShapes Go.WideShapes
set_option linter.unusedVariables false
set_option linter.unusedSimpArgs false
set_option maxRecDepth 100000 in
set_option maxHeartbeats 1600000 in
theorem powr_any (n : Int) (w : World) (hn : n ≤ 9223372036854775807) :
    Calls Try.prog 14 #[.int .i64 n] w fun e w' => ∃ v, e = .returned v ∧ w'.ownsRow w.heap.size 3 1 v (pwL n).length ((pwL n).map (.int .i64)) ∧ w.grownBy w' none := by
  by_cases h0 : 0 < n
  · have hL : Hid (pwL n = pwN n 63) := by show _ = _; unfold pwL; rw [if_pos h0]
    go_enter Try.func14, Try.ntmps14
    go_wp2_with fail
    go_loopw [3, 4] (fun v i wr => ∃ k : Nat, k ≤ 63 ∧ i = .int .i64 k ∧ wr.ownsRow w.heap.size 3 1 v (pwN n k).length ((pwN n k).map (.int .i64)) ∧ w.grownBy wr none) (fun _ i _ => 63 - (intOf i).toNat)
    case atStart => exact ⟨0, by omega, rfl, World.ownsRow_nil _ _ _ _, grown_refl _⟩
    case round =>
      obtain ⟨k, hk, rfl, hown, hg⟩ := hrel
      have hlen := pwN_len n k
      have hsz := hg.size
      by_cases hk63 : k < 63
      · have hs1 := pwN_succ n k
        have hb := pw_low n k
        have ha := and_one (n / 2 ^ k)
        generalize hm : n / 2 ^ k = m at *
        by_cases h1 : m % 2 = 1
        · rw [if_pos h1] at hs1
          have HS := Lib.hid hs1
          have hbq : (m % 2 == 1) = true := beq_iff_eq.2 h1
          clear hs1 h1
          go_wp2_with (at_builtin; refine wpList_appS _ rfl _ _ 27 27 rfl w.heap.size 3 (.int .i64 0) 1 8 Try.underlying27 Try.infoInt rfl (by decide) _ _ _ 1 _ [.int .i64 k] (hown.alloc _) rfl rfl (own_src (own_lit1 wr 3 _) (by simp [Value.oneCell']) Try.underlying27) (by unfold maxLen; omega) (by omega) (by simp; omega) ?_)
          intro v1 w1 hown1 hg1 _
          have hg2 := grown_own (hg.trans' (grown_alloc wr _)) (hown.alloc _) hg1
          clear hown hg1 hm
          go_wp2
          go_roundw
          case rel => exact ⟨k + 1, by omega, by go_num, by rw [HS.out]; simpa using hown1, hg2⟩
          case measure => simp [intOf]; omega
        · rw [if_neg h1] at hs1
          have HS := Lib.hid hs1
          have hbq : (m % 2 == 1) = false := beq_eq_false_iff_ne.2 h1
          clear hs1 h1
          go_wp2
          go_roundw
          case rel => exact ⟨k + 1, by omega, by go_num, by rw [HS.out]; exact hown, hg⟩
          case measure => simp [intOf]; omega
      · have hk63' : k = 63 := by omega
        subst hk63'
        clear hk63
        go_wp2
        go_ret
        rw [hL.out]
        exact ⟨_, rfl, hown, hg⟩
  · have hL : Hid (pwL n = []) := by show _ = _; unfold pwL; rw [if_neg h0]
    go_enter Try.func14, Try.ntmps14
    go_wp2_with fail
    refine wp_loop_once ?_
    go_wp2
    go_ret
    rw [hL.out]
    exact ⟨_, rfl, World.ownsRow_nil _ _ _ _, grown_refl _⟩
theorem and_oneu (x : Nat) (h : x < 18446744073709551616) : bits BinOp.and IntKind.u64 (x : Int) 1 = ((x % 2 : Nat) : Int) := by
  have h1 := bits_and_u64_nat x 1 h (by omega)
  have e : x &&& 1 = x % 2 := Nat.and_two_pow_sub_one_eq_mod x 1
  rw [e] at h1
  exact h1
theorem bitLen_at {x k : Nat} (h64 : x < 2 ^ 64) (h1 : x / 2 ^ (k + 1) = 0) (h2 : x / 2 ^ k % 2 = 1) : Lib.bitLen x = k + 1 := by
  have hd : x / 2 ^ k / 2 = 0 := by rw [Nat.div_div_eq_div_mul, ← Nat.pow_succ]; exact h1
  have hx1 : x / 2 ^ k = 1 := by omega
  have hle : 2 ^ k ≤ x := by
    by_cases h : 2 ^ k ≤ x
    · exact h
    · rw [Nat.div_eq_of_lt (by omega)] at hx1; omega
  rw [Lib.bitLen_shift k x hle h64, hx1]
  rfl
set_option maxRecDepth 100000 in
set_option maxHeartbeats 1600000 in
theorem lzr_any (X : Nat) (w : World) (hX : X < 18446744073709551616) :
    Calls Try.prog 16 #[.int .u64 X] w fun e w' => e = .returned (.int .i64 (64 - (Lib.bitLen X : Int))) ∧ w = w' := by
  go_enter Try.func16, Try.ntmps16
  go_wp2_with fail
  go_loop [3] (fun n => ∃ k : Nat, k ≤ 64 ∧ n = .int .i64 k ∧ X / 2 ^ (64 - k) = 0) (fun n => 64 - (intOf n).toNat)
  case atStart => exact ⟨0, by omega, rfl, Nat.div_eq_of_lt hX⟩
  case round =>
    obtain ⟨k, hk, rfl, hz⟩ := hrel
    by_cases hk64 : k < 64
    · obtain ⟨j, hj⟩ : ∃ j, j = 63 - k := ⟨_, rfl⟩
      have e1 : (63 - (k : Int)) = j := by omega
      have hjb : (j : Int) ≤ 63 := by omega
      have e2 : 64 - k = j + 1 := by omega
      rw [e2] at hz
      have e4 : X / 2 ^ j ≤ X := Nat.div_le_self _ _
      have ha := and_oneu (X / 2 ^ j) (by omega)
      have e5 : (X : Int) / 2 ^ j = ((X / 2 ^ j : Nat) : Int) := by simp
      rw [← e5] at ha
      clear e5
      by_cases h1 : X / 2 ^ j % 2 = 1
      · have hf : Hid (64 - (Lib.bitLen X : Int) = k) := by
          show _ = _
          rw [bitLen_at hX hz h1]; omega
        have hbq : (((X / 2 ^ j % 2 : Nat) : Int) == 0) = false := beq_eq_false_iff_ne.2 (by omega)
        clear hz h1 hj e2
        generalize X / 2 ^ j % 2 = b at *
        go_wp2
        go_ret
        rw [hf.out]
        exact ⟨rfl, rfl⟩
      · have hbq : (((X / 2 ^ j % 2 : Nat) : Int) == 0) = true := beq_iff_eq.2 (by omega)
        have hz2 : Hid (X / 2 ^ (64 - (k + 1)) = 0) := by
          show _ = _
          rw [show 64 - (k + 1) = j by omega]
          have hd : X / 2 ^ j / 2 = 0 := by rw [Nat.div_div_eq_div_mul, ← Nat.pow_succ]; exact hz
          omega
        clear hz h1 hj e2
        generalize X / 2 ^ j % 2 = b at *
        go_wp2
        go_round
        case rel => exact ⟨k + 1, by omega, by go_num, hz2.out⟩
        case measure => simp [intOf]; omega
    · have hk64' : k = 64 := by omega
      subst hk64'
      have hf : Hid (64 - (Lib.bitLen X : Int) = (64 : Nat)) := by
        show _ = _
        have : X = 0 := by simpa using hz
        subst this
        rfl
      clear hz hk64
      go_wp2
      go_ret
      rw [hf.out]
      exact ⟨rfl, rfl⟩
/-- MulDiv where the product is below 2^64. -/
def mdR (a b c : Int) : Int × Int := if a * b / c > 4611686018427387904 then (0, 5) else (a * b / c, 0)
set_option maxRecDepth 100000 in
set_option maxHeartbeats 3200000 in
theorem div64s_any (x y : Int) (w : World) (hx0 : 0 ≤ x) (hx : x < 18446744073709551616) (hy0 : 0 < y) (hy : y < 18446744073709551616) :
    Calls Try.prog 25 #[.int .u64 0, .int .u64 x, .int .u64 y] w fun e w' => e = .returned (.tuple #[.int .u64 (x / y), .int .u64 (x % y)]) ∧ w.grownBy w' none := by
  have hyz : (y == 0) = false := beq_eq_false_iff_ne.2 (by omega)
  have hq0 : 0 ≤ x / y := Int.ediv_nonneg hx0 (by omega)
  have hq1 : x / y ≤ x := Int.ediv_le_self _ hx0
  go_enter Try.func25, Try.ntmps25
  go_wp2
  go_quiet (fail)
  go_wp2
  go_ret2
  exact ⟨rfl, grown_drew _⟩
set_option maxHeartbeats 1600000 in
theorem md_any (a b c : Int) (w : World) (ha0 : 0 ≤ a) (ha : a ≤ 9223372036854775807) (hb0 : 0 ≤ b) (hb : b ≤ 9223372036854775807) (hc0 : 1 ≤ c) (hc : c ≤ 9223372036854775807) (hab : a * b < 18446744073709551616) :
    Calls Try.prog 17 #[.int .i64 a, .int .i64 b, .int .i64 c] w fun e w' => e = .returned (.tuple #[.int .i64 (mdR a b c).1, .int .i64 (mdR a b c).2]) ∧ w.grownBy w' none := by
  have hr : mdR a b c = if a * b / c > 4611686018427387904 then (0, 5) else (a * b / c, 0) := rfl
  have hp0 : 0 ≤ a * b := Int.mul_nonneg ha0 hb0
  have c1 := fun w => (bmulI_any a b w ha0 (by omega) hb0 (by omega)).mono (R' := fun e w' => e = .returned (.tuple #[.int .u64 0, .int .u64 (a * b)]) ∧ w = w') fun e w' ⟨p, he, hw, _, hp⟩ => by
    have hp' := hp.out
    subst hp'
    rw [Int.ediv_eq_zero_of_lt hp0 hab, Int.emod_eq_of_lt hp0 hab] at he
    exact ⟨he, hw⟩
  generalize a * b = p at *
  have c2 := fun w => div64s_any p c w hp0 hab (by omega) (by omega)
  have hq0 : 0 ≤ p / c := Int.ediv_nonneg hp0 (by omega)
  generalize p / c = q at *
  generalize p % c = t at *
  have C1 := Lib.hid c1
  have C2 := Lib.hid c2
  have HR := Lib.hid hr
  clear c1 c2 hr
  by_cases hq : q > 4611686018427387904
  · go_enter Try.func17, Try.ntmps17
    go_wp2_with fail
    refine (C1.out _).mono ?_
    rintro e w1 ⟨rfl, rfl⟩
    go_wp2_with fail
    refine (C2.out _).mono ?_
    rintro e w2 ⟨rfl, g2⟩
    go_wp2
    go_ret2
    rw [HR.out, if_pos (by omega)]
    exact ⟨rfl, g2⟩
  · go_enter Try.func17, Try.ntmps17
    go_wp2_with fail
    refine (C1.out _).mono ?_
    rintro e w1 ⟨rfl, rfl⟩
    go_wp2_with fail
    refine (C2.out _).mono ?_
    rintro e w2 ⟨rfl, g2⟩
    go_wp2
    go_ret2
    rw [HR.out, if_neg (by omega)]
    exact ⟨rfl, g2⟩
set_option maxRecDepth 100000 in
set_option maxHeartbeats 1600000 in
theorem knowns_any (w : World) :
    Calls Try.prog 12 #[] w fun e w' => e = .returned (.bool true) ∧ w.grownBy w' none := by
  have c1 := fun w => add_any 3 4 5 w (by omega) (by omega) (by omega)
  rw [show addS 3 4 5 = 5 from by decide, show addB 3 4 5 = true from by decide] at c1
  have c2 := fun w => smul_any 1099511627776 1099511627776 1125899906842624 w (by omega) (by omega) (by omega)
  rw [show mulS 1099511627776 1099511627776 1125899906842624 = 1125899906842624 from by decide, show mulB 1099511627776 1099511627776 1125899906842624 = true from by decide] at c2
  have c3 := fun w => md_any 1152921504606846976 6 4 w (by omega) (by omega) (by omega) (by omega) (by omega) (by omega) (by omega)
  rw [show mdR 1152921504606846976 6 4 = (1729382256910270464, 0) from by decide] at c3
  have c4 := fun w => pow_any 6 w (by omega)
  rw [show pwL 6 = [1, 2] from by decide] at c4
  have c5 := fun w => lz_any 1 w (by omega) (by omega)
  rw [show (64 - (Lib.bitLen (1 : Int).toNat : Int)) = 63 from by decide] at c5
  have C1 := Lib.hid c1
  have C2 := Lib.hid c2
  have C3 := Lib.hid c3
  have C4 := Lib.hid c4
  have C5 := Lib.hid c5
  clear c1 c2 c3 c4 c5
  go_enter Try.func12, Try.ntmps12
  go_wp2_with fail
  refine (C1.out _).mono ?_
  rintro e w1 ⟨rfl, rfl⟩
  go_wp2_with fail
  refine (C2.out _).mono ?_
  rintro e w1 ⟨rfl, rfl⟩
  go_wp2_with fail
  refine (C3.out _).mono ?_
  rintro e w1 ⟨rfl, g1⟩
  go_wp2_with fail
  refine (C4.out _).mono ?_
  rintro e w2 ⟨v, rfl, ho, g2⟩
  have hi := ints_of_own ho (by intro n hn; simp at hn; rcases hn with rfl | rfl <;> decide)
  obtain ⟨a, cap, rfl, q1, q2, q3, q4⟩ := hi
  rcases q4 with q4 | ⟨b, off, rfl, hb, hc⟩
  · simp at q4
  have hc0 : w2.cell? ⟨b, off, none⟩ = some (.int .i64 1) := hc 0 (by decide)
  have hc1 : w2.cell? ⟨b, off + 1, none⟩ = some (.int .i64 2) := hc 1 (by decide)
  have g12 := g1.trans' g2
  clear ho q3 hc g1 g2
  go_wp2_with fail
  refine (C5.out _).mono ?_
  rintro e w3 ⟨rfl, rfl⟩
  go_wp2
  go_ret
  exact ⟨rfl, g12⟩
end Go.Proofs.Ytcjklklbklopnaa
