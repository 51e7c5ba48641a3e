/- The walk of the reference's MulDiv. Conditions: numbers below 2^63, the divisor not zero. -/
import Derived.Test.YthohjekfffebkaaProd
import Derived.Test.YthohjekfffebkaaBits
namespace Go.Proofs.Ythohjekfffebkaa
open Go.RowKit Go.ChangeShapes Go.WideShapes
set_option linter.unusedVariables false
set_option linter.unusedSimpArgs false
/-- MulDiv: the quotient, the error. -/
def mdN (A B C : Nat) : Int × Int := if A * B / C > 4611686018427387904 then (0, 5) else (((A * B / C : Nat) : Int), 0)
theorem md_bitH {P H L n : Nat} (hp : P = H * 18446744073709551616 + L) (hL : L < 18446744073709551616) (hn : 64 ≤ n) : P / 2 ^ n % 2 = H / 2 ^ (n % 64 + 64 * (n / 64 - 1)) % 2 := by
  have e : n = 64 + (n % 64 + 64 * (n / 64 - 1)) := by omega
  have h : P / 2 ^ n = H / 2 ^ (n % 64 + 64 * (n / 64 - 1)) := by
    conv => lhs; rw [e]
    rw [Nat.pow_add, ← Nat.div_div_eq_div_mul]
    congr 1
    show P / 18446744073709551616 = H
    omega
  rw [h]
theorem md_bitL {P H L n : Nat} (hp : P = H * 18446744073709551616 + L) (hL : L < 18446744073709551616) (hn : n < 64) : P / 2 ^ n % 2 = L / 2 ^ n % 2 := by
  have h1 : L = P % 2 ^ 64 := by show L = P % 18446744073709551616; omega
  have h2 := Nat.testBit_mod_two_pow P 64 n
  rw [← h1, decide_eq_true hn, Bool.true_and, Nat.testBit_eq_decide_div_mod_eq, Nat.testBit_eq_decide_div_mod_eq] at h2
  have h3 : (L / 2 ^ n % 2 = 1) ↔ (P / 2 ^ n % 2 = 1) := by
    constructor
    · intro h; rw [decide_eq_true h] at h2; exact of_decide_eq_true h2.symm
    · intro h; rw [decide_eq_true h] at h2; exact of_decide_eq_true h2
  omega
theorem md_step {P n Q C r b : Nat} (h : P / 2 ^ (n + 1) = Q * C + r) (hb : b = P / 2 ^ n % 2) : P / 2 ^ n = Q * 2 * C + (r * 2 + b) := by
  have h1 : P / 2 ^ n / 2 = P / 2 ^ (n + 1) := by rw [Nat.div_div_eq_div_mul, Nat.pow_succ]
  have h2 : Q * 2 * C = 2 * (Q * C) := by rw [Nat.mul_comm Q 2, Nat.mul_assoc]
  rw [h2]
  omega
theorem md_big {P n Q C r : Nat} (hC : 1 ≤ C) (h : P / 2 ^ n = Q * C + r) (hq : Q > 4611686018427387904) : P / C > 4611686018427387904 := by
  refine (Nat.le_div_iff_mul_le (by omega)).2 ?_
  have h1 := Nat.div_le_self P (2 ^ n)
  have h2 := Nat.mul_le_mul_right C (show 4611686018427387904 + 1 ≤ Q from hq)
  omega
theorem md_last {P Q C r : Nat} (h : P / 2 ^ 0 = Q * C + r) (hr : r < C) : P / C = Q := by
  rw [Nat.pow_zero, Nat.div_one] at h
  rw [h, Nat.add_comm, Nat.add_mul_div_right _ _ (by omega), Nat.div_eq_of_lt hr, Nat.zero_add]
theorem or_two {r b : Nat} (hr : r < 9223372036854775808) (hb : b ≤ 1) : bits BinOp.or IntKind.u64 ((r : Int) * 2) (b : Int) = ((r * 2 + b : Nat) : Int) := by
  have := bits_join .u64 64 (by decide) (fun n a b => by rw [IntKind.wrap_u64]; omega) 1 ((r : Int) * 2) (b : Int) (by omega) (by omega) (by omega) (by omega) (by omega) (by omega)
  rw [this]; push_cast; rfl
theorem and_oneN (x : Nat) (h : x < 18446744073709551616) : bits BinOp.and IntKind.u64 (x : Int) 1 = ((x % 2 : Nat) : Int) := by
  have h1 := bits_and_u64_nat x 1 h (by omega)
  have e : x &&& 1 = x % 2 := Nat.and_two_pow_sub_one_eq_mod x 1
  rw [e] at h1
  exact h1
theorem and_63 (n : Nat) (h : n < 128) : bits BinOp.and IntKind.i64 (n : Int) 63 = ((n % 64 : Nat) : Int) := by
  rw [and_mask _ 6 (by omega) 63 (by decide)]; push_cast; rfl
set_option maxRecDepth 100000 in
set_option maxHeartbeats 1600000 in
theorem mdrN_any (A B C : Nat) (w : World) (hA : A < 9223372036854775808) (hB : B < 9223372036854775808) (hC : 1 ≤ C) (hC2 : C < 9223372036854775808) :
    Calls Try.prog 47 #[.int .i64 A, .int .i64 B, .int .i64 C] w fun e w' => e = .returned (.tuple #[.int .i64 (mdN A B C).1, .int .i64 (mdN A B C).2]) ∧ w.grownBy w' none := by
  have c1 := fun w => product_any A B hA hB w
  have hF : mdN A B C = if A * B / C > 4611686018427387904 then (0, 5) else (((A * B / C : Nat) : Int), 0) := rfl
  have hL := Nat.mod_lt (A * B) (show 0 < 18446744073709551616 by decide)
  have hdm := Nat.div_add_mod (A * B) 18446744073709551616
  have hPb : A * B < 2 ^ 128 := by
    have := Nat.mul_le_mul (show A ≤ 9223372036854775807 by omega) (show B ≤ 9223372036854775807 by omega)
    exact Nat.lt_of_le_of_lt this (by decide)
  generalize mdN A B C = M at *
  generalize A * B / 18446744073709551616 = H at *
  generalize A * B % 18446744073709551616 = L at *
  generalize A * B = P at *
  have hp : P = H * 18446744073709551616 + L := by omega
  have hH : H < 18446744073709551616 := by
    have h128 : (2 : Nat) ^ 128 = 18446744073709551616 * 18446744073709551616 := by decide
    rw [h128] at hPb
    omega
  have HP := Lib.hid hp
  have HF := Lib.hid hF
  have C1 := Lib.hid c1
  have hst : Hid (P / 2 ^ 128 = 0 * C + 0) := by show _ = _; rw [Nat.div_eq_of_lt hPb]; simp
  clear c1 hF hdm hp hPb
  go_enter Try.func47, Try.ntmps47
  go_wp2_with fail
  refine (C1.out _).mono ?_
  rintro e w1 ⟨rfl, g1⟩
  go_wp2_with fail
  go_loop [9, 10, 11, 12] (fun rv qv iv bv => ∃ j r Q : Nat, j ≤ 128 ∧ iv = .int .i64 ((j : Int) - 1) ∧ rv = .int .u64 r ∧ qv = .int .u64 Q ∧ Hid (P / 2 ^ j = Q * C + r) ∧ r < C ∧ Q ≤ 9223372036854775809) (fun _ _ iv _ => (intOf iv + 1).toNat)
  case atStart => exact ⟨128, 0, 0, by omega, by go_num, rfl, rfl, hst, by omega, by omega⟩
  case round =>
    obtain ⟨j, r, Q, hj, rfl, rfl, rfl, hpq, hr, hQ⟩ := hrel
    rcases Nat.eq_zero_or_pos j with hj0 | hj0
    · subst hj0
      have hq := md_last hpq.out hr
      rw [hq] at HF
      have HQ := Lib.hid hQ
      clear hq hst
      by_cases hQ2 : Q > 4611686018427387904
      · have HM : Hid (M = (0, 5)) := by show _ = _; rw [HF.out, if_pos hQ2]
        clear HF
        go_wp2
        go_ret2
        rw [HM.out]
        exact ⟨rfl, g1.trans' (grown_alloc _ _)⟩
      · have HM : Hid (M = ((Q : Int), 0)) := by show _ = _; rw [HF.out, if_neg hQ2]
        clear HF
        go_wp2
        go_ret2
        rw [HM.out]
        exact ⟨rfl, g1.trans' (grown_alloc _ _)⟩
    · obtain ⟨n, rfl⟩ : ∃ n, j = n + 1 := ⟨j - 1, by omega⟩
      obtain ⟨b, hb⟩ : ∃ b, b = P / 2 ^ n % 2 := ⟨_, rfl⟩
      obtain ⟨m, hm⟩ : ∃ m, m = n % 64 := ⟨_, rfl⟩
      have fa := and_63 n (by omega)
      rw [← hm] at fa
      have hm63 : (m : Int) ≤ 63 := by omega
      have hm0 : (0 : Int) ≤ m := by omega
      have hb1 : b ≤ 1 := by omega
      have hst2 := Lib.hid (md_step hpq.out hb)
      have hbig := fun h => md_big hC hpq.out h
      have fo : bits BinOp.or IntKind.u64 ((Q : Int) * 2) 1 = ((Q * 2 + 1 : Nat) : Int) ∨ Q > 4611686018427387904 := by
        by_cases h : Q > 4611686018427387904
        · exact .inr h
        · exact .inl (or_two (r := Q) (b := 1) (by omega) (by omega))
      have fr := or_two (r := r) (b := b) (by omega) hb1
      have hn0 : (0 : Int) ≤ n := by omega
      have hbit : (64 ≤ (n : Int) ∧ bits BinOp.and IntKind.u64 ((H : Int) / 2 ^ m) 1 = (b : Int)) ∨ (¬ 64 ≤ (n : Int) ∧ bits BinOp.and IntKind.u64 ((L : Int) / 2 ^ m) 1 = (b : Int)) := by
        by_cases h64 : 64 ≤ n
        · refine .inl ⟨by omega, ?_⟩
          have e := md_bitH HP.out hL h64
          rw [← hb, show n % 64 + 64 * (n / 64 - 1) = m by omega] at e
          have := and_oneN (H / 2 ^ m) (Nat.lt_of_le_of_lt (Nat.div_le_self _ _) hH)
          rw [← e] at this
          rw [← this]; push_cast; rfl
        · refine .inr ⟨by omega, ?_⟩
          have e := md_bitL HP.out hL (show n < 64 by omega)
          rw [← hb, show n = m by omega] at e
          have := and_oneN (L / 2 ^ m) (Nat.lt_of_le_of_lt (Nat.div_le_self _ _) hL)
          rw [← e] at this
          rw [← this]; push_cast; rfl
      clear hb hm hpq hst
      by_cases hq : Q > 4611686018427387904
      · have HM : Hid (M = (0, 5)) := by show _ = _; rw [HF.out, if_pos (hbig hq)]
        clear HF hbig hst2 fo
        rcases hbit with ⟨hx, hy⟩ | ⟨hx, hy⟩
        all_goals
          go_wp2
          go_ret2
          rw [HM.out]
          exact ⟨rfl, g1.trans' (grown_alloc _ _)⟩
      · have fo' := fo.resolve_right hq
        obtain ⟨r2, hr2⟩ : ∃ r2, r2 = r * 2 + b := ⟨_, rfl⟩
        rw [← hr2] at fr hst2
        have hr3 : r2 < 2 * C := by omega
        clear fo hbig hr2
        by_cases hc : C ≤ r2
        · have hcI : (C : Int) ≤ r2 := by omega
          have hnx : Hid (P / 2 ^ n = (Q * 2 + 1) * C + (r2 - C)) := by
            show _ = _; rw [hst2.out, Nat.add_mul, Nat.one_mul]; omega
          clear hst2
          rcases hbit with ⟨hx, hy⟩ | ⟨hx, hy⟩
          all_goals
            go_wp2
            go_round
            case rel => exact ⟨n, r2 - C, Q * 2 + 1, by omega, by go_num, by go_num, by go_num, hnx, by omega, by omega⟩
            case measure => simp [intOf]
        · have hcI : ¬ (C : Int) ≤ r2 := by omega
          rcases hbit with ⟨hx, hy⟩ | ⟨hx, hy⟩
          all_goals
            go_wp2
            go_round
            case rel => exact ⟨n, r2, Q * 2, by omega, by go_num, by go_num, by go_num, hst2, by omega, by omega⟩
            case measure => simp [intOf]
end Go.Proofs.Ythohjekfffebkaa
