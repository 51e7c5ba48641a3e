/- The walk of SaturInverse. -/
import Derived.Test.YtcjklklbklopnaaSatC
namespace Go.Proofs.Ytcjklklbklopnaa
open Go.RowKit Go.ChangeShapes Go.WideShapes
set_option linter.unusedVariables false
set_option linter.unusedSimpArgs false
set_option maxRecDepth 100000 in
set_option maxHeartbeats 3200000 in
theorem SaturInverse_walk (a0 a1 a2 : Int) (w : World) (h0 : (Lit.int .i64 a0).wf = true) (h1 : (Lit.int .i64 a1).wf = true) (h2 : (Lit.int .i64 a2).wf = true) :
    Calls Try.prog 7 #[.int .i64 a0, .int .i64 a1, .int .i64 a2] w fun e w' => e = .returned (.bool true) ∧ Below w.heap.size w w' := by
  have b0 : ∃ m, bits BinOp.and IntKind.i64 a0 1073741823 = m ∧ 0 ≤ m ∧ m ≤ 1073741823 := ⟨_, and_mask _ 30 (by omega) 1073741823 (by decide), by omega, by omega⟩
  have b1 : ∃ m, bits BinOp.and IntKind.i64 a1 1073741823 = m ∧ 0 ≤ m ∧ m ≤ 1073741823 := ⟨_, and_mask _ 30 (by omega) 1073741823 (by decide), by omega, by omega⟩
  have b2 : ∃ m, bits BinOp.and IntKind.i64 a2 1048575 = m ∧ 0 ≤ m ∧ m ≤ 1048575 := ⟨_, and_mask _ 20 (by omega) 1048575 (by decide), by omega, by omega⟩
  obtain ⟨a, e0, l0, u0⟩ := b0
  obtain ⟨b, e1, l1, u1⟩ := b1
  obtain ⟨c0, e2, l2, u2⟩ := b2
  have p0 : 0 ≤ a * b := Int.mul_nonneg l0 l1
  have p1 : a * b ≤ 1152921502459363329 := by
    have h := Int.mul_le_mul u0 u1 l1 (by omega : (0 : Int) ≤ 1073741823)
    exact Int.le_trans h (by decide)
  have q0 : 0 ≤ a * b / (1 + c0) := Int.ediv_nonneg p0 (by omega)
  have q1 : a * b / (1 + c0) ≤ a * b := Int.ediv_le_self _ p0
  have r0 : 0 ≤ a * b % (1 + c0) := Int.emod_nonneg _ (by omega)
  have c1 := fun w => md_any a b (1 + c0) w l0 (by omega) l1 (by omega) (by omega) (by omega) (by omega)
  rw [show mdR a b (1 + c0) = (a * b / (1 + c0), 0) by unfold mdR; rw [if_neg (by omega)]] at c1
  have c2 := fun w => ceil_any (a * b) (1 + c0) w (by omega)
  rw [show ceilR (a * b) (1 + c0) = (ceilD (a * b) (1 + c0), 0) by unfold ceilR; rw [if_neg (by omega)]] at c2
  have hcz : ((1 + c0 : Int) == 0) = false := beq_eq_false_iff_ne.2 (by omega)
  have C1 := Lib.hid c1
  clear c1 h0 h1 h2
  by_cases hm : a * b % (1 + c0) = 0
  · have hc : ceilD (a * b) (1 + c0) = a * b / (1 + c0) := by unfold ceilD; rw [if_neg (by omega)]
    rw [hc] at c2
    have C2 := Lib.hid c2
    have hb : (a * b % (1 + c0) == 0) = true := beq_iff_eq.2 hm
    clear c2 hc hm r0
    go_enter Try.func7, Try.ntmps7
    go_wp2_with fail
    refine (C1.out _).mono ?_
    rintro e w1 ⟨rfl, g1⟩
    go_wp2_with fail
    refine (C2.out _).mono ?_
    rintro e w2 ⟨rfl, rfl⟩
    go_wp2_with (go_at_call 12; refine (knowns_any _).mono ?_; rintro e w5 ⟨rfl, g5⟩)
    go_ret
    exact ⟨rfl, below_of_grown (g1.trans' g5)⟩
  · have hc : ceilD (a * b) (1 + c0) = a * b / (1 + c0) + 1 := by unfold ceilD; rw [if_pos (by omega)]
    rw [hc] at c2
    have C2 := Lib.hid c2
    have hb : (a * b % (1 + c0) == 0) = false := beq_eq_false_iff_ne.2 hm
    have hb2 : (a * b / (1 + c0) + 1 == a * b / (1 + c0)) = false := beq_eq_false_iff_ne.2 (by omega)
    clear c2 hc hm r0
    go_enter Try.func7, Try.ntmps7
    go_wp2_with fail
    refine (C1.out _).mono ?_
    rintro e w1 ⟨rfl, g1⟩
    go_wp2_with fail
    refine (C2.out _).mono ?_
    rintro e w2 ⟨rfl, rfl⟩
    go_wp2_with (go_at_call 12; refine (knowns_any _).mono ?_; rintro e w5 ⟨rfl, g5⟩)
    go_ret
    exact ⟨rfl, below_of_grown (g1.trans' g5)⟩
end Go.Proofs.Ytcjklklbklopnaa
