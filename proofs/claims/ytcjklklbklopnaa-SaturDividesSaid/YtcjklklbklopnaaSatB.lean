/- The walks of Powers and of the reference's LeadingZeros. Conditions: numbers of Go's int, words. -/
import Derived.Test.YtcjklklbklopnaaLz
import Derived.Test.YtcjklklbklopnaaPow
import Derived.Test.YtcjklklbklopnaaBits
import Derived.Test.YtcjklklbklopnaaSatAdd
namespace Go.Proofs.Ytcjklklbklopnaa
open Go.RowKit Go.ChangeShapes Go.WideShapes
set_option linter.unusedVariables false
set_option linter.unusedSimpArgs false
theorem Try.infoInt : (Try.prog.info? 3).map (fun i => (i.zero, i.size, i.bytes)) = some (some (.int .i64 0), 1, 8) := by kernel_rfl
theorem lz_any (x : Int) (w : World) (h0 : 0 ≤ x) (h1 : x ≤ 18446744073709551615) :
    Calls Try.prog 15 #[.int .u64 x] w fun e w' => e = .returned (.int .i64 (64 - (Lib.bitLen x.toNat : Int))) ∧ w = w' := by
  have c := bitsLz64 x w h0 h1
  generalize (64 - (Lib.bitLen x.toNat : Int)) = z at *
  have C := Lib.hid c
  clear c
  go_enter Try.func15, Try.ntmps15
  go_wp2_with (go_at_call 24; refine C.out.mono ?_; rintro e w' ⟨rfl, rfl⟩)
  go_ret
  exact ⟨rfl, rfl⟩
theorem pw_low (n : Int) (k : Nat) : 0 ≤ n / 2 ^ k % 2 ∧ n / 2 ^ k % 2 ≤ 1 := by
  have := Int.emod_nonneg (n / 2 ^ k) (b := 2) (by decide)
  have := Int.emod_lt_of_pos (n / 2 ^ k) (b := 2) (by decide)
  omega
theorem and_one (x : Int) : bits BinOp.and IntKind.i64 x 1 = x % 2 := and_mask x 1 (by omega) 1 (by decide)
set_option maxRecDepth 100000 in
set_option maxHeartbeats 1600000 in
theorem pow_any (n : Int) (w : World) (hn : n ≤ 9223372036854775807) :
    Calls Try.prog 13 #[.int .i64 n] w fun e w' => ∃ v, e = .returned v ∧ w'.ownsRow w.heap.size 3 1 v (pwL n).length ((pwL n).map (.int .i64)) ∧ w.grownBy w' none := by
  by_cases h0 : 0 < n
  · have hL : Hid (pwL n = pwN n 63) := by show _ = _; unfold pwL; rw [if_pos h0]
    have hst := small_pow (n := n) (by omega) hn
    have HST := Lib.hid hst
    clear hst
    go_enter Try.func13, Try.ntmps13
    go_wp2_with fail
    go_loopw [0, 3, 4] (fun m v i wr => ∃ k : Nat, k ≤ 63 ∧ i = .int .i64 k ∧ m = .int .i64 (n / 2 ^ k) ∧ wr.ownsRow w.heap.size 3 1 v (pwN n k).length ((pwN n k).map (.int .i64)) ∧ w.grownBy wr none) (fun _ _ i _ => 63 - (intOf i).toNat)
    case atStart => exact ⟨0, by omega, rfl, by simp, World.ownsRow_nil _ _ _ _, grown_refl _⟩
    case round =>
      obtain ⟨k, hk, rfl, rfl, hown, hg⟩ := hrel
      have hlen := pwN_len n k
      have hsz := hg.size
      have hnn : 0 ≤ n / 2 ^ k := Int.ediv_nonneg (by omega) (Int.le_of_lt (Int.pow_pos (by omega)))
      have hnm : n / 2 ^ k ≤ 9223372036854775807 := Int.le_trans (Int.ediv_le_self _ (by omega)) hn
      by_cases hz : n / 2 ^ k = 0
      · have hstop := pwN_stop hz (63 - k)
        rw [show k + (63 - k) = 63 by omega] at hstop
        have HS := Lib.hid hstop
        rw [hz]
        clear hstop hz hnn hnm
        go_wp2
        go_ret
        rw [hL.out, HS.out]
        exact ⟨_, rfl, hown, hg⟩
      · have hk63 : k < 63 := by
          by_cases h : k = 63
          · subst h; exact absurd HST.out hz
          · omega
        have hpos : 0 < n / 2 ^ k := by omega
        have hs1 := pwN_succ n k
        have hd := div_pow_succ n k
        have hb := pw_low n k
        have ha := and_one (n / 2 ^ k)
        generalize hm : n / 2 ^ k = m at *
        clear hm hz
        have HD := Lib.hid hd
        clear hd
        by_cases h1 : m % 2 = 1
        · rw [if_pos h1] at hs1
          have HS := Lib.hid hs1
          have hbq : (m % 2 == 1) = true := beq_iff_eq.2 h1
          clear hs1 h1
          go_wp2_with (at_builtin; refine wpList_appS _ rfl _ _ 27 27 rfl w.heap.size 3 (.int .i64 0) 1 8 Try.underlying27 Try.infoInt rfl (by decide) _ _ _ 1 _ [.int .i64 k] (hown.alloc _) rfl rfl (own_src (own_lit1 wr 3 _) (by simp [Value.oneCell']) Try.underlying27) (by unfold maxLen; omega) (by omega) (by simp; omega) ?_)
          intro v1 w1 hown1 hg1 _
          have hg2 := grown_own (hg.trans' (grown_alloc wr _)) (hown.alloc _) hg1
          clear hown hg1
          go_wp2
          go_roundw
          case rel => exact ⟨k + 1, by omega, by go_num, by rw [← HD.out], by rw [HS.out]; simpa using hown1, hg2⟩
          case measure => simp [intOf]; omega
        · rw [if_neg h1] at hs1
          have HS := Lib.hid hs1
          have hbq : (m % 2 == 1) = false := beq_eq_false_iff_ne.2 h1
          clear hs1 h1
          go_wp2
          go_roundw
          case rel => exact ⟨k + 1, by omega, by go_num, by rw [← HD.out], by rw [HS.out]; exact hown, hg⟩
          case measure => simp [intOf]; omega
  · have hL : Hid (pwL n = []) := by show _ = _; unfold pwL; rw [if_neg h0]
    go_enter Try.func13, Try.ntmps13
    go_wp2_with fail
    refine wp_loop_once ?_
    go_wp2
    go_ret
    rw [hL.out]
    exact ⟨_, rfl, World.ownsRow_nil _ _ _ _, grown_refl _⟩
end Go.Proofs.Ytcjklklbklopnaa
