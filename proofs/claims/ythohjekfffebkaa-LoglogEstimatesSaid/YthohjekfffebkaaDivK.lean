/- The walk of bits.Div64. Conditions: the high word is below the divisor. -/
import Derived.Test.YthohjekfffebkaaM64
import Derived.Test.YthohjekfffebkaaLz
import Derived.Test.YthohjekfffebkaaDivS
namespace Go.Proofs.Ythohjekfffebkaa
open Go.RowKit Go.ChangeShapes Go.WideShapes
set_option linter.unusedVariables false
set_option linter.unusedSimpArgs false
/-- All that the walk needs of the numbers. -/
theorem div_facts (hi lo y s : Nat) (h0 : 0 < hi) (h1 : hi < y) (hy : y < 18446744073709551616) (hl : lo < 18446744073709551616) (hs : s = 64 - Lib.bitLen y) :
    ∃ Y H W U V a b c d : Nat, IntKind.u64.wrap ((y : Int) * 2 ^ s) = Y ∧ IntKind.u64.wrap ((hi : Int) * 2 ^ s) = H ∧ (lo : Int) / 2 ^ (64 - s) = W ∧ bits .or .u64 (H : Int) (W : Int) = U ∧ IntKind.u64.wrap ((lo : Int) * 2 ^ s) = V ∧ (Y : Int) / 4294967296 = a ∧ bits .and .u64 (Y : Int) 4294967295 = b ∧ (V : Int) / 4294967296 = c ∧ bits .and .u64 (V : Int) 4294967295 = d ∧
      s ≤ 63 ∧ Y = a * 4294967296 + b ∧ U < Y ∧ Y < 18446744073709551616 ∧ 2147483648 ≤ a ∧ a < 4294967296 ∧ b < 4294967296 ∧ c < 4294967296 ∧ d < 4294967296 ∧ ((U * 4294967296 + c) * 4294967296 + d) / Y = (hi * 18446744073709551616 + lo) / y := by
  obtain ⟨n1, n2, n3, n4⟩ := sh_norm (y := y) (by omega) hy
  rw [← hs] at n3 n4
  have hH : hi * 2 ^ s < 18446744073709551616 := Nat.lt_of_le_of_lt (Nat.mul_le_mul_right _ (Nat.le_of_lt h1)) n3
  have hW : lo / 2 ^ (64 - s) < 18446744073709551616 := Nat.lt_of_le_of_lt (Nat.div_le_self _ _) hl
  have e1 := sh_hi (hi := hi) (lo := lo) (s := s) (by omega)
  have e2 := sh_lo (hi := hi) (lo := lo) (s := s)
  have e3 := sh_or (hi := hi) (lo := lo) (s := s) (by omega) hl hH hW
  have e4 := kn_shift (s := 2 ^ s) (n := hi * 18446744073709551616 + lo) (y := y) (Nat.two_pow_pos s)
  have e5 : (hi * 18446744073709551616 + lo) * 2 ^ s < 18446744073709551616 * (y * 2 ^ s) := by
    rw [← Nat.mul_assoc]
    exact Nat.mul_lt_mul_of_pos_right (by omega) (Nat.two_pow_pos s)
  have p1 : ((y : Int) * 2 ^ s) = ((y * 2 ^ s : Nat) : Int) := by push_cast; rfl
  have p2 : ((hi : Int) * 2 ^ s) = ((hi * 2 ^ s : Nat) : Int) := by push_cast; rfl
  have p3 : ((lo : Int) * 2 ^ s) = ((lo * 2 ^ s : Nat) : Int) := by push_cast; rfl
  have p4 : ((lo : Int) / 2 ^ (64 - s)) = ((lo / 2 ^ (64 - s) : Nat) : Int) := by push_cast; rfl
  rw [p1, p2, p3, p4, M64.wrapN _ n3, M64.wrapN _ hH, M64.wrapM]
  have hV : lo * 2 ^ s % 18446744073709551616 < 18446744073709551616 := Nat.mod_lt _ (by decide)
  refine ⟨_, _, _, _, _, _, _, _, _, rfl, rfl, rfl, e3, rfl, M64.divN _, M64.maskN _ n3, M64.divN _, M64.maskN _ hV, by omega, by omega, ?_, n3, by omega, by omega, by omega, by omega, by omega, ?_⟩
  · rw [← e1]; exact Nat.div_lt_of_lt_mul e5
  · rw [← e4, ← e1, ← e2]
    congr 1
    omega
theorem ret_q {q p r : Int} (h : q = p) : Ending.returned (.tuple #[.int .u64 q, .int .u64 r]) = .returned (.tuple #[.int .u64 p, .int .u64 r]) := by rw [h]
theorem two_facts (U c Y a b : Nat) (ha1 : 2147483648 ≤ a) (hYa : Y = a * 4294967296 + b) (hU : U < Y) (hY : Y < 18446744073709551616) (hb2 : b < 4294967296) (hc2 : c < 4294967296) :
    ∃ k0 m0 P0 : Nat, IntKind.u64.wrap ((U : Int) / a) = k0 ∧ IntKind.u64.wrap ((k0 : Int) * a) = P0 ∧ IntKind.u64.wrap ((U : Int) - P0) = m0 ∧ k0 < 8589934592 ∧ m0 < a ∧ k0 * a + m0 = U ∧ (U * 4294967296 + c) / Y ≤ k0 := by
  have hkq : U / a < 8589934592 := Nat.div_lt_of_lt_mul (by omega)
  have hdm := Nat.div_add_mod U a
  have hml := Nat.mod_lt U (show 0 < a by omega)
  obtain ⟨k0, ek⟩ : ∃ k0, k0 = U / a := ⟨_, rfl⟩
  obtain ⟨m0, em⟩ : ∃ m0, m0 = U % a := ⟨_, rfl⟩
  rw [← ek, ← em, Nat.mul_comm] at hdm
  rw [← ek] at hkq
  rw [← em] at hml
  refine ⟨k0, m0, k0 * a, ?_, ?_, ?_, hkq, hml, hdm, ?_⟩
  · rw [← Int.natCast_ediv, ← ek]; exact M64.wrapN _ (by omega)
  · rw [M64.mulN]; exact M64.wrapN _ (by omega)
  · rw [show (U : Int) - ((k0 * a : Nat) : Int) = m0 by omega]; exact M64.wrapN _ (by omega)
  · rw [ek]
    refine (Nat.le_div_iff_mul_le (by omega)).2 ?_
    have h9 := Nat.div_mul_le_self (U * 4294967296 + c) Y
    have h10 : (U * 4294967296 + c) / Y * (a * 4294967296) ≤ (U * 4294967296 + c) / Y * Y := Nat.mul_le_mul_left _ (by omega)
    have h11 : (U * 4294967296 + c) / Y * (a * 4294967296) = (U * 4294967296 + c) / Y * a * 4294967296 := by rw [Nat.mul_assoc]
    generalize (U * 4294967296 + c) / Y * a = z at *
    omega
set_option maxRecDepth 100000 in
set_option maxHeartbeats 3200000 in
theorem div64_any (hi lo y : Nat) (w : World) (h0 : 0 < hi) (h1 : hi < y) (hy : y < 18446744073709551616) (hl : lo < 18446744073709551616) :
    Calls Try.prog 46 #[.int .u64 hi, .int .u64 lo, .int .u64 y] w fun e w' => ∃ r : Int, e = .returned (.tuple #[.int .u64 ((hi * 18446744073709551616 + lo) / y : Nat), .int .u64 r]) ∧ w = w' := by
  have hyz : ((y : Int) == 0) = false := beq_eq_false_iff_ne.2 (by omega)
  have hhz : ((hi : Int) == 0) = false := beq_eq_false_iff_ne.2 (by omega)
  have hle := decide_eq_false (show ¬ (y : Int) ≤ hi by omega)
  have hb := bitLen_le64 y (by omega) (by omega)
  have C := Lib.hid (fun w => bitsLz64 y w (by omega) (by omega))
  obtain ⟨s, hs⟩ : ∃ s : Nat, s = 64 - Lib.bitLen y := ⟨_, rfl⟩
  have hs' : 64 - (Lib.bitLen (y : Int).toNat : Int) = s := by simp at hb ⊢; omega
  rw [hs'] at C
  obtain ⟨Y, H, W, U, V, a, b, c, d, eY, eH, eW, eU, eV, ea, eb, ec, ed, hs1, hYa, hU, hY, ha1, ha2, hb2, hc2, hd2, hq⟩ := div_facts hi lo y s h0 h1 hy hl hs
  have hs0 : (0 : Int) ≤ s := by omega
  have hs2 : (s : Int) ≤ 63 := by omega
  have hz : ((a : Int) == 0) = false := beq_eq_false_iff_ne.2 (by omega)
  have HYA := Lib.hid hYa
  have HQ := Lib.hid hq
  have hkq : U / a < 8589934592 := Nat.div_lt_of_lt_mul (by omega)
  have hdm := Nat.div_add_mod U a
  have hml := Nat.mod_lt U (show 0 < a by omega)
  obtain ⟨k0, ek⟩ : ∃ k0, k0 = U / a := ⟨_, rfl⟩
  obtain ⟨m0, em⟩ : ∃ m0, m0 = U % a := ⟨_, rfl⟩
  rw [← ek, ← em, Nat.mul_comm] at hdm
  rw [← ek] at hkq
  rw [← em] at hml
  have f1 : IntKind.u64.wrap ((U : Int) / a) = k0 := by rw [← Int.natCast_ediv, ← ek]; exact M64.wrapN _ (by omega)
  have f2 : IntKind.u64.wrap ((k0 : Int) * a) = ((k0 * a : Nat) : Int) := by rw [M64.mulN]; exact M64.wrapN _ (by omega)
  have f3 : IntKind.u64.wrap ((U : Int) - ((k0 * a : Nat) : Int)) = m0 := by rw [show (U : Int) - ((k0 * a : Nat) : Int) = m0 by omega]; exact M64.wrapN _ (by omega)
  have hk1 : (U * 4294967296 + c) / Y ≤ k0 := by
    rw [ek]
    refine (Nat.le_div_iff_mul_le (by omega)).2 ?_
    have h9 := Nat.div_mul_le_self (U * 4294967296 + c) Y
    have h10 : (U * 4294967296 + c) / Y * (a * 4294967296) ≤ (U * 4294967296 + c) / Y * Y := Nat.mul_le_mul_left _ (by omega)
    have h11 : (U * 4294967296 + c) / Y * (a * 4294967296) = (U * 4294967296 + c) / Y * a * 4294967296 := by rw [Nat.mul_assoc]
    generalize (U * 4294967296 + c) / Y * a = z at *
    omega
  have HK := Lib.hid hk1
  have HD := Lib.hid hdm
  obtain ⟨P0, eP0⟩ : ∃ P0, P0 = k0 * a := ⟨_, rfl⟩
  rw [← eP0] at f2 f3
  clear hs hb hs' hYa hq hk1 hdm ek em eP0
  obtain ⟨Q, eQ⟩ : ∃ Q, Q = (hi * 18446744073709551616 + lo) / y := ⟨_, rfl⟩
  rw [← eQ] at HQ
  rw [← eQ]
  clear eQ
  go_enter Try.func46, Try.ntmps46
  go_wp2_with fail
  refine (C.out _).mono ?_
  rintro e w1 ⟨rfl, rfl⟩
  go_wp2_with fail
  go_loop [15, 16] (fun q r => ∃ k m : Nat, q = .int .u64 k ∧ r = .int .u64 m ∧ Hid (k * a + m = U) ∧ m < 4294967296 ∧ k < 8589934592 ∧ Hid ((U * 4294967296 + c) / Y ≤ k)) (fun q _ => (intOf q).toNat)
  case atStart => exact ⟨k0, m0, rfl, rfl, HD, by omega, by omega, HK⟩
  case round =>
    obtain ⟨k, m, rfl, rfl, hkm, hm, hk, hqk⟩ := hrel
    have hY0 : 0 < a * 4294967296 + b := by omega
    have hU' : U < a * 4294967296 + b := by have := HYA.out; omega
    have hqk' : (U * 4294967296 + c) / (a * 4294967296 + b) ≤ k := by have h := hqk.out; rwa [HYA.out] at h
    obtain ⟨p, ep⟩ : ∃ p, p = k * b := ⟨_, rfl⟩
    by_cases hc : 4294967296 ≤ k ∨ 4294967296 * m + c < k * b
    · obtain ⟨s1, s2, s3⟩ := kn_step hkm.out hU' hc2 hqk' hc
      have htest : (decide ((k : Int) ≥ 4294967296) = true) ∨ (decide ((k : Int) ≥ 4294967296) = false ∧ IntKind.u64.wrap ((k : Int) * b) = p ∧ decide ((p : Int) > 4294967296 * m + c) = true) := by
        by_cases h : 4294967296 ≤ k
        · exact .inl (decide_eq_true (by omega))
        · have hp : p < 18446744073709551616 := by
            have := Nat.mul_le_mul (show k ≤ 4294967295 by omega) (show b ≤ 4294967295 by omega)
            omega
          exact .inr ⟨decide_eq_false (by omega), by rw [M64.mulN, ← ep]; exact M64.wrapN _ hp, decide_eq_true (by omega)⟩
      have S2 := Lib.hid s2
      have S3 := Lib.hid s3
      by_cases hr : 4294967296 ≤ m + a
      · obtain ⟨k1, k2⟩ := kn_break (v := c) s3 hU' hb2 hr
        have hend := Lib.hid (kn_end s3 hY0 s2 k2)
        clear s2 s3 hqk' hc ep k2
        have hr2 := decide_eq_true (show (m : Int) + a ≥ 4294967296 by omega)
        obtain ⟨K, hKk⟩ : ∃ K : Nat, (k : Int) - 1 = K := ⟨k - 1, by omega⟩
        have hendK : Hid (K = (U * 4294967296 + c) / (a * 4294967296 + b)) := by show _ = _; rw [← hend.out]; omega
        clear hend
        obtain ⟨R, eR⟩ : ∃ R, R = (U * 4294967296 + c) % Y := ⟨_, rfl⟩
        have hRY : R < Y := by rw [eR]; exact Nat.mod_lt _ (by omega)
        have hendY : K = (U * 4294967296 + c) / Y := by rw [HYA.out]; exact hendK.out
        have g0 := kn_rest hendY
        rw [← eR] at g0
        have g1 : IntKind.u64.wrap (IntKind.u64.wrap (IntKind.u64.wrap ((U : Int) * 4294967296) + c) - IntKind.u64.wrap ((K : Int) * Y)) = R := by
          simp only [IntKind.wrap_u64]
          generalize (K : Int) * Y = z at *
          omega
        have hkB : K < 4294967296 := by rw [hendY]; exact kn_lt (by omega) hc2
        have F2 := two_facts R d Y a b ha1 HYA.out hRY hY hb2 hd2
        obtain ⟨K0, M0, P2, i1, i2, i3, i4, i5, i6, i7⟩ := F2
        have I6 := Lib.hid i6
        have I7 := Lib.hid i7
        have HE := Lib.hid hendY
        have HR := Lib.hid eR
        clear g0 i6 i7 hendY eR
        rcases htest with htest | ⟨htest, ht2, ht3⟩
        all_goals
          go_wp2_with fail
          go_loop [16, 18] (fun r q => ∃ k m : Nat, q = .int .u64 k ∧ r = .int .u64 m ∧ Hid (k * a + m = R) ∧ m < 4294967296 ∧ k < 8589934592 ∧ Hid ((R * 4294967296 + d) / Y ≤ k)) (fun _ q => (intOf q).toNat)
          case atStart => exact ⟨K0, M0, rfl, rfl, I6, by omega, by omega, I7⟩
          case round =>
            obtain ⟨j, m, rfl, rfl, hkm, hm, hk, hqk⟩ := hrel
            have hY0 : 0 < a * 4294967296 + b := by omega
            have hU' : R < a * 4294967296 + b := by have := HYA.out; omega
            have hqk' : (R * 4294967296 + d) / (a * 4294967296 + b) ≤ j := by have h := hqk.out; rwa [HYA.out] at h
            obtain ⟨p, ep⟩ : ∃ p, p = j * b := ⟨_, rfl⟩
            have QQ : Hid (∀ j', j' = (R * 4294967296 + d) / (a * 4294967296 + b) → j' < 4294967296 ∧ K * 4294967296 + j' = Q) := by
              intro j' e
              rw [← HYA.out] at e
              have h1 := kn_two (B := 4294967296) (u := U) (v := c) (w := d) (y := Y) (by decide) hd2 (by omega)
              rw [← HR.out, ← HE.out, ← e] at h1
              exact ⟨by rw [e]; exact kn_lt hRY hd2, h1.trans HQ.out⟩
            by_cases hc : 4294967296 ≤ j ∨ 4294967296 * m + d < j * b
            · obtain ⟨s1, s2, s3⟩ := kn_step hkm.out hU' hd2 hqk' hc
              have htest : (decide ((j : Int) ≥ 4294967296) = true) ∨ (decide ((j : Int) ≥ 4294967296) = false ∧ IntKind.u64.wrap ((j : Int) * b) = p ∧ decide ((p : Int) > 4294967296 * m + d) = true) := by
                by_cases h : 4294967296 ≤ j
                · exact .inl (decide_eq_true (by omega))
                · have hp : p < 18446744073709551616 := by
                    have := Nat.mul_le_mul (show j ≤ 4294967295 by omega) (show b ≤ 4294967295 by omega)
                    omega
                  exact .inr ⟨decide_eq_false (by omega), by rw [M64.mulN, ← ep]; exact M64.wrapN _ hp, decide_eq_true (by omega)⟩
              have S2 := Lib.hid s2
              have S3 := Lib.hid s3
              by_cases hr : 4294967296 ≤ m + a
              · obtain ⟨k1, k2⟩ := kn_break (v := d) s3 hU' hb2 hr
                have hend2 := QQ.out _ (kn_end s3 hY0 s2 k2)
                have HE2 := Lib.hid hend2
                clear s2 s3 hqk' hc ep k2 hend2
                have hr2 := decide_eq_true (show (m : Int) + a ≥ 4294967296 by omega)
                rcases htest with htest | ⟨htest, ht2, ht3⟩
                all_goals
                  go_wp2
                  go_ret2
                  refine ⟨⟨_, ret_q ?_⟩, rfl⟩
                  have := HE2.out
                  omega
              · clear s2 s3 hqk' hc ep
                have hr2 := decide_eq_false (show ¬ (m : Int) + a ≥ 4294967296 by omega)
                rcases htest with htest | ⟨htest, ht2, ht3⟩
                all_goals
                  go_wp2_with fail
                  go_round
                  case rel => exact ⟨j - 1, m + a, by go_num, by go_num, S3, by omega, by omega, Lib.hid (by rw [HYA.out]; exact S2.out)⟩
                  case measure => simp [intOf]; omega
            · have hc1 : j < 4294967296 := by omega
              have hc3 : j * b ≤ 4294967296 * m + d := by omega
              have hend2 := QQ.out _ (kn_end hkm.out hY0 hqk' hc3)
              have HE2 := Lib.hid hend2
              have hp : p < 18446744073709551616 := by
                have := Nat.mul_le_mul (show j ≤ 4294967295 by omega) (show b ≤ 4294967295 by omega)
                omega
              have ht1 : decide ((j : Int) ≥ 4294967296) = false := decide_eq_false (by omega)
              have ht2 : IntKind.u64.wrap ((j : Int) * b) = p := by rw [M64.mulN, ← ep]; exact M64.wrapN _ hp
              have ht3 : decide ((p : Int) > 4294967296 * m + d) = false := decide_eq_false (by omega)
              clear hc hc3 hqk' ep hend2
              go_wp2
              go_ret2
              refine ⟨⟨_, ret_q ?_⟩, rfl⟩
              have := HE2.out
              omega
      · clear s2 s3 hqk' hc ep
        have hr2 := decide_eq_false (show ¬ (m : Int) + a ≥ 4294967296 by omega)
        rcases htest with htest | ⟨htest, ht2, ht3⟩
        all_goals
          go_wp2_with fail
          go_round
          case rel => exact ⟨k - 1, m + a, by go_num, by go_num, S3, by omega, by omega, Lib.hid (by rw [HYA.out]; exact S2.out)⟩
          case measure => simp [intOf]; omega
    · have hc1 : k < 4294967296 := by omega
      have hc3 : k * b ≤ 4294967296 * m + c := by omega
      have hend := Lib.hid (kn_end hkm.out hY0 hqk' hc3)
      have hp : p < 18446744073709551616 := by
        have := Nat.mul_le_mul (show k ≤ 4294967295 by omega) (show b ≤ 4294967295 by omega)
        omega
      have ht1 : decide ((k : Int) ≥ 4294967296) = false := decide_eq_false (by omega)
      have ht2 : IntKind.u64.wrap ((k : Int) * b) = p := by rw [M64.mulN, ← ep]; exact M64.wrapN _ hp
      have ht3 : decide ((p : Int) > 4294967296 * m + c) = false := decide_eq_false (by omega)
      clear hc hc3 hqk' ep
      obtain ⟨R, eR⟩ : ∃ R, R = (U * 4294967296 + c) % Y := ⟨_, rfl⟩
      have hRY : R < Y := by rw [eR]; exact Nat.mod_lt _ (by omega)
      have hendY : k = (U * 4294967296 + c) / Y := by rw [HYA.out]; exact hend.out
      have g0 := kn_rest hendY
      rw [← eR] at g0
      have g1 : IntKind.u64.wrap (IntKind.u64.wrap (IntKind.u64.wrap ((U : Int) * 4294967296) + c) - IntKind.u64.wrap ((k : Int) * Y)) = R := by
        simp only [IntKind.wrap_u64]
        generalize (k : Int) * Y = z at *
        omega
      have hkB : k < 4294967296 := by rw [hendY]; exact kn_lt (by omega) hc2
      have F2 := two_facts R d Y a b ha1 HYA.out hRY hY hb2 hd2
      obtain ⟨K0, M0, P2, i1, i2, i3, i4, i5, i6, i7⟩ := F2
      have I6 := Lib.hid i6
      have I7 := Lib.hid i7
      have HE := Lib.hid hendY
      have HR := Lib.hid eR
      clear g0 i6 i7 hendY eR
      go_wp2_with fail
      go_loop [16, 18] (fun r q => ∃ k m : Nat, q = .int .u64 k ∧ r = .int .u64 m ∧ Hid (k * a + m = R) ∧ m < 4294967296 ∧ k < 8589934592 ∧ Hid ((R * 4294967296 + d) / Y ≤ k)) (fun _ q => (intOf q).toNat)
      case atStart => exact ⟨K0, M0, rfl, rfl, I6, by omega, by omega, I7⟩
      case round =>
        obtain ⟨j, m, rfl, rfl, hkm, hm, hk, hqk⟩ := hrel
        have hY0 : 0 < a * 4294967296 + b := by omega
        have hU' : R < a * 4294967296 + b := by have := HYA.out; omega
        have hqk' : (R * 4294967296 + d) / (a * 4294967296 + b) ≤ j := by have h := hqk.out; rwa [HYA.out] at h
        obtain ⟨p, ep⟩ : ∃ p, p = j * b := ⟨_, rfl⟩
        have QQ : Hid (∀ j', j' = (R * 4294967296 + d) / (a * 4294967296 + b) → j' < 4294967296 ∧ k * 4294967296 + j' = Q) := by
          intro j' e
          rw [← HYA.out] at e
          have h1 := kn_two (B := 4294967296) (u := U) (v := c) (w := d) (y := Y) (by decide) hd2 (by omega)
          rw [← HR.out, ← HE.out, ← e] at h1
          exact ⟨by rw [e]; exact kn_lt hRY hd2, h1.trans HQ.out⟩
        by_cases hc : 4294967296 ≤ j ∨ 4294967296 * m + d < j * b
        · obtain ⟨s1, s2, s3⟩ := kn_step hkm.out hU' hd2 hqk' hc
          have htest : (decide ((j : Int) ≥ 4294967296) = true) ∨ (decide ((j : Int) ≥ 4294967296) = false ∧ IntKind.u64.wrap ((j : Int) * b) = p ∧ decide ((p : Int) > 4294967296 * m + d) = true) := by
            by_cases h : 4294967296 ≤ j
            · exact .inl (decide_eq_true (by omega))
            · have hp : p < 18446744073709551616 := by
                have := Nat.mul_le_mul (show j ≤ 4294967295 by omega) (show b ≤ 4294967295 by omega)
                omega
              exact .inr ⟨decide_eq_false (by omega), by rw [M64.mulN, ← ep]; exact M64.wrapN _ hp, decide_eq_true (by omega)⟩
          have S2 := Lib.hid s2
          have S3 := Lib.hid s3
          by_cases hr : 4294967296 ≤ m + a
          · obtain ⟨k1, k2⟩ := kn_break (v := d) s3 hU' hb2 hr
            have hend2 := QQ.out _ (kn_end s3 hY0 s2 k2)
            have HE2 := Lib.hid hend2
            clear s2 s3 hqk' hc ep k2 hend2
            have hr2 := decide_eq_true (show (m : Int) + a ≥ 4294967296 by omega)
            rcases htest with htest | ⟨htest, ht2, ht3⟩
            all_goals
              go_wp2
              go_ret2
              refine ⟨⟨_, ret_q ?_⟩, rfl⟩
              have := HE2.out
              omega
          · clear s2 s3 hqk' hc ep
            have hr2 := decide_eq_false (show ¬ (m : Int) + a ≥ 4294967296 by omega)
            rcases htest with htest | ⟨htest, ht2, ht3⟩
            all_goals
              go_wp2_with fail
              go_round
              case rel => exact ⟨j - 1, m + a, by go_num, by go_num, S3, by omega, by omega, Lib.hid (by rw [HYA.out]; exact S2.out)⟩
              case measure => simp [intOf]; omega
        · have hc1 : j < 4294967296 := by omega
          have hc3 : j * b ≤ 4294967296 * m + d := by omega
          have hend2 := QQ.out _ (kn_end hkm.out hY0 hqk' hc3)
          have HE2 := Lib.hid hend2
          have hp : p < 18446744073709551616 := by
            have := Nat.mul_le_mul (show j ≤ 4294967295 by omega) (show b ≤ 4294967295 by omega)
            omega
          have ht1 : decide ((j : Int) ≥ 4294967296) = false := decide_eq_false (by omega)
          have ht2 : IntKind.u64.wrap ((j : Int) * b) = p := by rw [M64.mulN, ← ep]; exact M64.wrapN _ hp
          have ht3 : decide ((p : Int) > 4294967296 * m + d) = false := decide_eq_false (by omega)
          clear hc hc3 hqk' ep hend2
          go_wp2
          go_ret2
          refine ⟨⟨_, ret_q ?_⟩, rfl⟩
          have := HE2.out
          omega
end Go.Proofs.Ythohjekfffebkaa
