/- The walks of Position and of its reference. Conditions: strings of Go's size. -/
import Derived.Test.YthohjekfffebkaaLlB
import Derived.Test.YthohjekfffebkaaLz
import Derived.Laws.Bits64
namespace Go.Proofs.Ythohjekfffebkaa
open Go.RowKit Go.ChangeShapes Go.WideShapes
set_option linter.unusedVariables false
set_option linter.unusedSimpArgs false
theorem wf_bx (x y : Int) : (Lit.int .u64 (bx x y)).wf = true := wf_bits ..
theorem wf_tab (s : Int) : ∀ n ∈ tab s, (Lit.int .u64 n).wf = true := by
  intro n hn
  simp only [tab, List.mem_map] at hn
  obtain ⟨i, _, rfl⟩ := hn
  exact wf_bx _ _
theorem tab_ints {w : World} {B : Nat} {v : Value} {s : Int} {e : TypeId} (h : w.ownsRow B e 1 v 256 ((tab s).map (.int .u64))) : Ints .u64 w v (tab s) :=
  ints_of_own (by rw [length_tab]; exact h) (wf_tab s)
theorem hashF_in (t : List Int) (s : ByteArray) : 0 ≤ hashF t s ∧ hashF t s ≤ 18446744073709551615 := by
  have h : (Lit.int .u64 (hashF t s)).wf = true := wf_bx _ _
  simp only [Lit.wf, Bool.and_eq_true, decide_eq_true_eq] at h
  exact ⟨h.1, h.2⟩
theorem lz_any (x : Int) (w : World) (h0 : 0 ≤ x) (h1 : x ≤ 18446744073709551615) :
    Calls Try.prog 37 #[.int .u64 x] w fun e w' => e = .returned (.int .i64 (64 - (Lib.bitLen x.toNat : Int))) ∧ w = w' := by
  have c := bitsLz64 x w h0 h1
  generalize (64 - (Lib.bitLen x.toNat : Int)) = z at *
  have C := Lib.hid c
  clear c
  go_enter Try.func37, Try.ntmps37
  go_wp2_with (go_at_call 59; refine C.out.mono ?_; rintro e w' ⟨rfl, rfl⟩)
  go_ret
  exact ⟨rfl, rfl⟩
theorem and_oneu (x : Nat) (h : x < 18446744073709551616) : bits BinOp.and IntKind.u64 (x : Int) 1 = ((x % 2 : Nat) : Int) := by
  have h1 := bits_and_u64_nat x 1 h (by omega)
  have e : x &&& 1 = x % 2 := Nat.and_two_pow_sub_one_eq_mod x 1
  rw [e] at h1
  exact h1
theorem bitLen_at {x k : Nat} (h64 : x < 2 ^ 64) (h1 : x / 2 ^ (k + 1) = 0) (h2 : x / 2 ^ k % 2 = 1) : Lib.bitLen x = k + 1 := by
  have hd : x / 2 ^ k / 2 = 0 := by rw [Nat.div_div_eq_div_mul, ← Nat.pow_succ]; exact h1
  have hx1 : x / 2 ^ k = 1 := by omega
  have hle : 2 ^ k ≤ x := by
    by_cases h : 2 ^ k ≤ x
    · exact h
    · rw [Nat.div_eq_of_lt (by omega)] at hx1; omega
  rw [Lib.bitLen_shift k x hle h64, hx1]
  rfl
def posE (p : Int) (s : ByteArray) : Int := if ¬ pOK p then 5 else if keyB s = false then 7 else 0
def posR (p z : Int) (s : ByteArray) : Int := if posE p s = 0 then hashF (tab z) s / 2 ^ (64 - p).toNat else 0
/-- The rank of a word. -/
def rkW (p : Int) (h : Nat) : Int := 65 - p - (Lib.bitLen (h % 2 ^ (64 - p).toNat) : Int)
def posK (p z : Int) (s : ByteArray) : Int := if posE p s = 0 then rkW p (hashF (tab z) s).toNat else 0
theorem rk_code {k h : Nat} (hk : k ≤ 8) (hh : h < 18446744073709551616) : min (1 + (64 - (Lib.bitLen (h * 2 ^ k % 18446744073709551616) : Int))) (65 - (k : Int)) = 65 - (k : Int) - (Lib.bitLen (h % 2 ^ (64 - k)) : Int) := by
  have hp : (2 : Nat) ^ (64 - k) * 2 ^ k = 18446744073709551616 := by rw [← Nat.pow_add, show 64 - k + k = 64 by omega]
  have h1 : h * 2 ^ k % 18446744073709551616 = (h % 2 ^ (64 - k)) * 2 ^ k := by rw [← hp, Nat.mul_mod_mul_right]
  rw [h1]
  have h2 : h % 2 ^ (64 - k) < 2 ^ (64 - k) := Nat.mod_lt _ (Nat.two_pow_pos _)
  generalize h % 2 ^ (64 - k) = L at *
  have hpos : 0 < 2 ^ k := Nat.two_pow_pos k
  by_cases hL : L = 0
  · subst hL
    simp only [Nat.zero_mul]
    have : Lib.bitLen 0 = 0 := rfl
    omega
  · have hX : L * 2 ^ k < 2 ^ 64 := by
      have : L * 2 ^ k < 2 ^ (64 - k) * 2 ^ k := Nat.mul_lt_mul_of_pos_right h2 hpos
      omega
    have h3 := Lib.bitLen_shift k (L * 2 ^ k) (Nat.le_mul_of_pos_left _ (by omega)) hX
    rw [Nat.mul_div_cancel _ hpos] at h3
    have h4 := Lib.bitLen_le L (64 - k) (by omega) h2
    have h5 : 1 ≤ Lib.bitLen L := by
      rw [Lib.bitLen_half L hL (by have : (2 : Nat) ^ (64 - k) ≤ 2 ^ 64 := Nat.pow_le_pow_right (by omega) (by omega); omega)]
      omega
    omega
theorem reg_in {k h : Nat} (hk : k ≤ 8) (hh : h < 18446744073709551616) : h / 2 ^ (64 - k) < 2 ^ k := by
  have hp : (2 : Nat) ^ (64 - k) * 2 ^ k = 18446744073709551616 := by rw [← Nat.pow_add, show 64 - k + k = 64 by omega]
  exact Nat.div_lt_of_lt_mul (by omega)
set_option maxRecDepth 100000 in
set_option maxHeartbeats 1600000 in
theorem pos_any (p z : Int) (s : ByteArray) (w : World) (hs' : s.size ≤ 140737488355328) :
    Calls Try.prog 13 #[.int .i64 p, .int .u64 z, .string s] w fun e w' => e = .returned (.tuple #[.int .i64 (posR p z s), .int .i64 (posK p z s), .int .i64 (posE p s)]) ∧ w.grownBy w' none := by
  have hs : s.size ≤ maxLen := by unfold maxLen; omega
  by_cases hb : pOK p
  · obtain ⟨q1, q2⟩ : 2 ≤ p ∧ p ≤ 8 := id hb
    have CB := Lib.hid (fun w => bitsok_yes p w ⟨q1, q2⟩)
    cases hk : keyB s
    · have he : Hid (posE p s = 7) := by show _ = _; unfold posE; rw [if_neg (by simpa using hb), if_pos hk]
      have hf : Hid (posR p z s = 0) := by show _ = _; unfold posR; rw [he.out]; rfl
      have hg : Hid (posK p z s = 0) := by show _ = _; unfold posK; rw [he.out]; rfl
      have HK := Lib.hid hk
      clear hk hb
      go_enter Try.func13, Try.ntmps13
      go_wp2_with fail
      refine (CB.out _).mono ?_
      rintro e w' ⟨rfl, rfl⟩
      go_wp2_with fail
      refine (iskey_any _ _ hs).mono ?_
      rw [HK.out]
      rintro e w' ⟨rfl, rfl⟩
      go_wp2
      refine bodyPost_ret (results_tmp3 rfl _ _ _) rfl ?_
      rw [he.out, hf.out, hg.out]
      exact ⟨rfl, grown_refl _⟩
    · have he : Hid (posE p s = 0) := by show _ = _; unfold posE; rw [if_neg (by simpa using hb), if_neg (by rw [hk]; simp)]
      obtain ⟨k, rfl⟩ : ∃ k : Nat, p = k := ⟨p.toNat, by omega⟩
      have hin := hashF_in (tab z) s
      obtain ⟨h, hh⟩ : ∃ h : Nat, hashF (tab z) s = h := ⟨(hashF (tab z) s).toNat, by omega⟩
      have e64 : ((64 : Int) - k).toNat = 64 - k := by omega
      have hf : Hid (posR k z s = ((h / 2 ^ (64 - k) : Nat) : Int)) := by show _ = _; unfold posR; rw [if_pos he.out, hh, e64]; simp
      have hg : Hid (posK k z s = min (1 + (64 - (Lib.bitLen (h * 2 ^ k % 18446744073709551616) : Int))) (65 - (k : Int))) := by show _ = _; unfold posK rkW; rw [if_pos he.out, hh, e64, rk_code (by omega) (by omega)]; rfl
      have hr := reg_in (k := k) (h := h) (by omega) (by omega)
      have hr2 : (2 : Nat) ^ k ≤ 2 ^ 8 := Nat.pow_le_pow_right (by omega) (by omega)
      have eX : IntKind.u64.wrap ((h : Int) * 2 ^ k) = ((h * 2 ^ k % 18446744073709551616 : Nat) : Int) := by rw [IntKind.wrap_u64]; simp
      have eR : (h : Int) / 2 ^ (64 - k) = ((h / 2 ^ (64 - k) : Nat) : Int) := by simp
      have lX : h * 2 ^ k % 18446744073709551616 < 18446744073709551616 := Nat.mod_lt _ (by omega)
      have HH := Lib.hid hh
      have HK := Lib.hid hk
      generalize h * 2 ^ k % 18446744073709551616 = X at *
      generalize h / 2 ^ (64 - k) = R at *
      have CL := Lib.hid (fun w => lz_any (X : Int) w (by omega) (by omega))
      rw [Int.toNat_natCast] at CL
      have hlen := bitLen_le64 (X : Int) (by omega) (by omega)
      rw [Int.toNat_natCast] at hlen
      generalize Lib.bitLen X = B at *
      clear hh hk hb hin
      go_enter Try.func13, Try.ntmps13
      go_wp2_with fail
      refine (CB.out _).mono ?_
      rintro e w' ⟨rfl, rfl⟩
      go_wp2_with fail
      refine (iskey_any _ _ hs).mono ?_
      rw [HK.out]
      rintro e w' ⟨rfl, rfl⟩
      go_wp2_with fail
      refine (table_any _ _).mono ?_
      rintro e w1 ⟨v1, rfl, ho1, g1⟩
      go_wp2_with fail
      refine (hash_big s _ _ _ (tab_ints ho1) (length_tab _) hs').mono ?_
      rintro e w2 ⟨rfl, hd2⟩
      rw [HH.out]
      have hR : (R : Int) ≤ 255 := by omega
      go_wp2_with fail
      refine (CL.out _).mono ?_
      rintro e w' ⟨rfl, rfl⟩
      go_wp2
      all_goals
        refine bodyPost_ret (results_tmp3 rfl _ _ _) rfl ?_
        rw [he.out, hf.out, hg.out]
        refine ⟨?_, g1.trans' hd2.grown⟩
        have e9 : min (1 + (64 - (B : Int))) (65 - (k : Int)) = if 65 - (k : Int) < 1 + (64 - (B : Int)) then 65 - (k : Int) else 1 + (64 - (B : Int)) := by split <;> omega
        rw [e9]
        first | rfl | (simp; done) | (split <;> simp <;> omega)
  · have he : Hid (posE p s = 5) := by show _ = _; unfold posE; rw [if_pos hb]
    have hf : Hid (posR p z s = 0) := by show _ = _; unfold posR; rw [he.out]; rfl
    have hg : Hid (posK p z s = 0) := by show _ = _; unfold posK; rw [he.out]; rfl
    have hb' : ¬ (2 ≤ p ∧ p ≤ 8) := hb
    clear hb
    go_enter Try.func13, Try.ntmps13
    go_wp2_with fail
    refine (bitsok_no p _ hb').mono ?_
    rintro e w' ⟨rfl, rfl⟩
    go_wp2
    refine bodyPost_ret (results_tmp3 rfl _ _ _) rfl ?_
    rw [he.out, hf.out, hg.out]
    exact ⟨rfl, grown_refl _⟩
theorem low_bit {x n i : Nat} (h : i < n) : x % 2 ^ n / 2 ^ i % 2 = x / 2 ^ i % 2 := by
  have h1 := Nat.testBit_mod_two_pow x n i
  rw [decide_eq_true h, Bool.true_and, Nat.testBit_eq_decide_div_mod_eq, Nat.testBit_eq_decide_div_mod_eq] at h1
  have h2 : (x % 2 ^ n / 2 ^ i % 2 = 1) ↔ (x / 2 ^ i % 2 = 1) := by simpa using h1
  omega
theorem bitlen_zero : Lib.bitLen 0 = 0 := rfl
set_option maxRecDepth 100000 in
set_option maxHeartbeats 1600000 in
theorem posr_any (p z : Int) (s : ByteArray) (w : World) (hs' : s.size ≤ 140737488355328) :
    Calls Try.prog 14 #[.int .i64 p, .int .u64 z, .string s] w fun e w' => e = .returned (.tuple #[.int .i64 (posR p z s), .int .i64 (posK p z s), .int .i64 (posE p s)]) ∧ w.grownBy w' none := by
  have hs : s.size ≤ maxLen := by unfold maxLen; omega
  by_cases hb : pOK p
  · obtain ⟨q1, q2⟩ : 2 ≤ p ∧ p ≤ 8 := id hb
    have CB := Lib.hid (fun w => within_yes p 2 8 w ⟨q1, q2⟩)
    cases hk : keyB s
    · have he : Hid (posE p s = 7) := by show _ = _; unfold posE; rw [if_neg (by simpa using hb), if_pos hk]
      have hf : Hid (posR p z s = 0) := by show _ = _; unfold posR; rw [he.out]; rfl
      have hg : Hid (posK p z s = 0) := by show _ = _; unfold posK; rw [he.out]; rfl
      have HK := Lib.hid hk
      clear hk hb
      go_enter Try.func14, Try.ntmps14
      go_wp2_with fail
      refine (CB.out _).mono ?_
      rintro e w' ⟨rfl, rfl⟩
      go_wp2_with fail
      refine (iskeyr_any _ _ hs).mono ?_
      rw [HK.out]
      rintro e w' ⟨rfl, rfl⟩
      go_wp2
      refine bodyPost_ret (results_tmp3 rfl _ _ _) rfl ?_
      rw [he.out, hf.out, hg.out]
      exact ⟨rfl, grown_refl _⟩
    · have he : Hid (posE p s = 0) := by show _ = _; unfold posE; rw [if_neg (by simpa using hb), if_neg (by rw [hk]; simp)]
      obtain ⟨k, rfl⟩ : ∃ k : Nat, p = k := ⟨p.toNat, by omega⟩
      have hin := hashF_in (tab z) s
      obtain ⟨h, hh⟩ : ∃ h : Nat, hashF (tab z) s = h := ⟨(hashF (tab z) s).toNat, by omega⟩
      have e64 : ((64 : Int) - k).toNat = 64 - k := by omega
      have hf : Hid (posR k z s = ((h / 2 ^ (64 - k) : Nat) : Int)) := by show _ = _; unfold posR; rw [if_pos he.out, hh, e64]; simp
      have hg : Hid (posK k z s = 65 - (k : Int) - (Lib.bitLen (h % 2 ^ (64 - k)) : Int)) := by show _ = _; unfold posK rkW; rw [if_pos he.out, hh, e64]; rfl
      have hr := reg_in (k := k) (h := h) (by omega) (by omega)
      have hr2 : (2 : Nat) ^ k ≤ 2 ^ 8 := Nat.pow_le_pow_right (by omega) (by omega)
      have eR : (h : Int) / 2 ^ (64 - k) = ((h / 2 ^ (64 - k) : Nat) : Int) := by simp
      have hb64 : h < 18446744073709551616 := by omega
      have HH := Lib.hid hh
      have HK := Lib.hid hk
      have HB := Lib.hid hb64
      have HR := Lib.hid eR
      have HE := Lib.hid e64
      generalize h / 2 ^ (64 - k) = R at *
      have hR : (R : Int) ≤ 255 := by omega
      clear hh hk hb hin eR hb64 hr2 hr e64
      go_enter Try.func14, Try.ntmps14
      go_wp2_with fail
      refine (CB.out _).mono ?_
      rintro e w' ⟨rfl, rfl⟩
      go_wp2_with fail
      refine (iskeyr_any _ _ hs).mono ?_
      rw [HK.out]
      rintro e w' ⟨rfl, rfl⟩
      go_wp2_with fail
      refine (tabler_any _ _).mono ?_
      rintro e w1 ⟨v1, rfl, ho1, g1⟩
      go_wp2_with fail
      refine (hashr_big s _ _ _ (tab_ints ho1) (length_tab _) hs').mono ?_
      rintro e w2 ⟨rfl, hd2⟩
      rw [HH.out]
      go_wp2_with fail
      go_loop [11, 12] (fun r i => ∃ j : Nat, j ≤ 64 - k ∧ i = .int .i64 ((j : Int) - 1) ∧ r = .int .i64 (65 - (k : Int) - j) ∧ h % 2 ^ (64 - k) / 2 ^ j = 0) (fun _ i => (intOf i + 1).toNat)
      case atStart => exact ⟨64 - k, by omega, by rw [show (((64 - k : Nat) : Int) - 1) = 63 - (k : Int) by omega], by rw [show (65 - (k : Int) - ((64 - k : Nat) : Int)) = 1 by omega], Nat.div_eq_of_lt (Nat.mod_lt _ (Nat.two_pow_pos _))⟩
      case round =>
        obtain ⟨j, hj, rfl, rfl, hz⟩ := hrel
        by_cases hj0 : j = 0
        · have hg' : Hid (posK k z s = 65 - (k : Int) - (j : Int)) := by
            show _ = _
            subst hj0
            rw [hg.out]
            have : h % 2 ^ (64 - k) = 0 := by simpa using hz
            rw [this, bitlen_zero]
          have hji : (j : Int) - 1 < 0 := by omega
          have hji2 : ¬ ((j : Int) - 1 ≥ 0) := by omega
          have e64 := HE.out
          have eR := HR.out
          clear hz hj0
          go_wp2
          refine bodyPost_ret (results_tmp3 rfl _ _ _) rfl ?_
          rw [he.out, hf.out, hg'.out]
          exact ⟨rfl, g1.trans' hd2.grown⟩
        · obtain ⟨i, hi⟩ : ∃ i, j = i + 1 := ⟨j - 1, by omega⟩
          have e1 : (j : Int) - 1 = i := by omega
          have hib : (i : Int) ≤ 63 := by omega
          have hi0 : (i : Int) ≥ 0 := by omega
          have hi3 : decide ((i : Int) ≥ 0) = true := decide_eq_true hi0
          have e4 : h / 2 ^ i ≤ h := Nat.div_le_self _ _
          have hb64 := HB.out
          have ha := and_oneu (h / 2 ^ i) (by omega)
          have e5 : (h : Int) / 2 ^ i = ((h / 2 ^ i : Nat) : Int) := by simp
          rw [← e5] at ha
          clear e5
          have hbit := low_bit (x := h) (n := 64 - k) (i := i) (by omega)
          rw [hi] at hz
          by_cases h1 : h / 2 ^ i % 2 = 1
          · have hg' : Hid (posK k z s = 65 - (k : Int) - (j : Int)) := by
              show _ = _
              rw [hg.out, bitLen_at (Nat.lt_of_le_of_lt (Nat.mod_le _ _) hb64) hz (hbit.trans h1), hi]
            have hbq : (((h / 2 ^ i % 2 : Nat) : Int) == 0) = false := beq_eq_false_iff_ne.2 (by omega)
            have e64 := HE.out
            have eR := HR.out
            clear hz h1 hi hbit hj hb64
            generalize h / 2 ^ i % 2 = b at *
            go_wp2
            refine bodyPost_ret (results_tmp3 rfl _ _ _) rfl ?_
            rw [he.out, hf.out, hg'.out]
            exact ⟨rfl, g1.trans' hd2.grown⟩
          · have hbq : (((h / 2 ^ i % 2 : Nat) : Int) == 0) = true := beq_iff_eq.2 (by omega)
            have hz2 : Hid (h % 2 ^ (64 - k) / 2 ^ i = 0) := by
              show _ = _
              have hd : h % 2 ^ (64 - k) / 2 ^ i / 2 = 0 := by rw [Nat.div_div_eq_div_mul, ← Nat.pow_succ]; exact hz
              omega
            have HI := Lib.hid hi
            clear hz h1 hi hbit hb64
            generalize h / 2 ^ i % 2 = b at *
            go_wp2
            go_round
            case rel => exact ⟨i, by omega, by go_num, by go_num, hz2.out⟩
            case measure => simp [intOf]; have := HI.out; omega
  · have he : Hid (posE p s = 5) := by show _ = _; unfold posE; rw [if_pos hb]
    have hf : Hid (posR p z s = 0) := by show _ = _; unfold posR; rw [he.out]; rfl
    have hg : Hid (posK p z s = 0) := by show _ = _; unfold posK; rw [he.out]; rfl
    have hb' : ¬ (2 ≤ p ∧ p ≤ 8) := hb
    clear hb
    go_enter Try.func14, Try.ntmps14
    go_wp2_with fail
    refine (within_no p 2 8 _ hb').mono ?_
    rintro e w' ⟨rfl, rfl⟩
    go_wp2
    refine bodyPost_ret (results_tmp3 rfl _ _ _) rfl ?_
    rw [he.out, hf.out, hg.out]
    exact ⟨rfl, grown_refl _⟩
end Go.Proofs.Ythohjekfffebkaa
