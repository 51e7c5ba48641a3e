/- The walks of SaturSums and SaturOrder. -/
import Derived.Test.YtcjklklbklopnaaSatC
namespace Go.Proofs.Ytcjklklbklopnaa
open Go.RowKit Go.ChangeShapes Go.WideShapes
set_option linter.unusedVariables false
set_option linter.unusedSimpArgs false
set_option maxRecDepth 100000 in
set_option maxHeartbeats 3200000 in
theorem SaturSums_walk (a0 a1 a2 : Int) (w : World) (h0 : (Lit.int .i64 a0).wf = true) (h1 : (Lit.int .i64 a1).wf = true) (h2 : (Lit.int .i64 a2).wf = true) :
    Calls Try.prog 3 #[.int .i64 a0, .int .i64 a1, .int .i64 a2] w fun e w' => e = .returned (.bool true) ∧ Below w.heap.size w w' := by
  have i0 := bounds_i64 h0
  have i1 := bounds_i64 h1
  have i2 := bounds_i64 h2
  have c1 := fun w => add_any a0 a1 a2 w i0 i1 i2
  have c2 := fun w => addr_any a0 a1 a2 w i0 i1 i2
  have c3 := fun w => smul_any a0 a1 a2 w i0 i1 i2
  have c4 := fun w => mulr_any a0 a1 a2 w i0 i1 i2
  generalize addS a0 a1 a2 = n at *
  generalize addB a0 a1 a2 = f at *
  generalize mulS a0 a1 a2 = p at *
  generalize mulB a0 a1 a2 = h at *
  have C1 := Lib.hid c1
  have C2 := Lib.hid c2
  have C3 := Lib.hid c3
  have C4 := Lib.hid c4
  clear c1 c2 c3 c4 h0 h1 h2
  go_enter Try.func3, Try.ntmps3
  go_wp2_with fail
  refine (C1.out _).mono ?_
  rintro e w1 ⟨rfl, rfl⟩
  go_wp2_with fail
  refine (C2.out _).mono ?_
  rintro e w1 ⟨rfl, rfl⟩
  go_wp2_with fail
  refine (C3.out _).mono ?_
  rintro e w1 ⟨rfl, rfl⟩
  go_wp2_with fail
  refine (C4.out _).mono ?_
  rintro e w1 ⟨rfl, g1⟩
  go_wp2_with (go_at_call 12; refine (knowns_any _).mono ?_; rintro e w5 ⟨rfl, g5⟩)
  go_ret
  exact ⟨rfl, below_of_grown (g1.trans' g5)⟩
theorem order_law {a b c m : Int} (ha : 0 ≤ a) (hb : 0 ≤ b) (hc : 0 ≤ c) (hm : 0 ≤ m) :
    addS b a m = addS a b m ∧ addB b a m = addB a b m ∧ addS a (addS b c m) m = addS (addS a b m) c m ∧ (addB a b m || addB (addS a b m) c m) = (addB b c m || addB a (addS b c m) m) ∧ addS a b m ≤ addS (addS a b m) c m ∧ 0 ≤ addS a b m ∧ 0 ≤ addS b c m ∧ addS a b m ≤ m ∧ addS b c m ≤ m ∧ (m ≤ addS a b m ∨ a ≤ addS a b m) := by
  have e1 : max a 0 = a := by omega
  have e2 : max b 0 = b := by omega
  have e3 : max c 0 = c := by omega
  have e4 : max m 0 = m := by omega
  have hB : ∀ x y : Int, addB x y m = decide (max x 0 + max y 0 > max m 0) := fun _ _ => rfl
  refine ⟨?_, ?_, ?_, ?_, ?_, ?_, ?_, ?_, ?_, ?_⟩
  · unfold addS; (repeat' split) <;> omega
  · rw [Bool.eq_iff_iff]; simp only [addB, decide_eq_true_eq]; omega
  · unfold addS; (repeat' split) <;> omega
  · rw [Bool.eq_iff_iff]
    simp only [Bool.or_eq_true, addB, decide_eq_true_eq]
    unfold addS; (repeat' split) <;> omega
  · unfold addS; (repeat' split) <;> omega
  · unfold addS; (repeat' split) <;> omega
  · unfold addS; (repeat' split) <;> omega
  · unfold addS; (repeat' split) <;> omega
  · unfold addS; (repeat' split) <;> omega
  · unfold addS; (repeat' split) <;> omega
set_option maxRecDepth 100000 in
set_option maxHeartbeats 6400000 in
theorem SaturOrder_walk (a0 a1 a2 a3 : Int) (w : World) (h0 : (Lit.int .i64 a0).wf = true) (h1 : (Lit.int .i64 a1).wf = true) (h2 : (Lit.int .i64 a2).wf = true) (h3 : (Lit.int .i64 a3).wf = true) :
    Calls Try.prog 5 #[.int .i64 a0, .int .i64 a1, .int .i64 a2, .int .i64 a3] w fun e w' => e = .returned (.bool true) ∧ Below w.heap.size w w' := by
  have b0 : ∃ m, bits BinOp.and IntKind.i64 a0 1099511627775 = m ∧ 0 ≤ m ∧ m ≤ 1099511627775 := ⟨_, and_mask _ 40 (by omega) 1099511627775 (by decide), by omega, by omega⟩
  have b1 : ∃ m, bits BinOp.and IntKind.i64 a1 1099511627775 = m ∧ 0 ≤ m ∧ m ≤ 1099511627775 := ⟨_, and_mask _ 40 (by omega) 1099511627775 (by decide), by omega, by omega⟩
  have b2 : ∃ m, bits BinOp.and IntKind.i64 a2 1099511627775 = m ∧ 0 ≤ m ∧ m ≤ 1099511627775 := ⟨_, and_mask _ 40 (by omega) 1099511627775 (by decide), by omega, by omega⟩
  have b3 : ∃ m, bits BinOp.and IntKind.i64 a3 2199023255551 = m ∧ 0 ≤ m ∧ m ≤ 2199023255551 := ⟨_, and_mask _ 41 (by omega) 2199023255551 (by decide), by omega, by omega⟩
  obtain ⟨a, e0, l0, u0⟩ := b0
  obtain ⟨b, e1, l1, u1⟩ := b1
  obtain ⟨c, e2, l2, u2⟩ := b2
  obtain ⟨m, e3, l3, u3⟩ := b3
  obtain ⟨r1, r2, r3, r4, r5, r6, r7, r8, r9, r10⟩ := order_law l0 l1 l2 l3
  have c1 := fun w => add_any a b m w (by omega) (by omega) (by omega)
  have c2 := fun w => add_any b a m w (by omega) (by omega) (by omega)
  have c3 := fun w => add_any (addS a b m) c m w (by omega) (by omega) (by omega)
  have c4 := fun w => add_any b c m w (by omega) (by omega) (by omega)
  have c5 := fun w => add_any a (addS b c m) m w (by omega) (by omega) (by omega)
  rw [r1, r2] at c2
  rw [r3] at c5
  generalize addB a (addS b c m) m = j at *
  generalize addB b c m = i at *
  generalize addB (addS a b m) c m = h at *
  generalize addB a b m = f at *
  generalize addS (addS a b m) c m = l at *
  generalize addS b c m = r at *
  generalize addS a b m = x at *
  have R4 := Lib.hid r4
  have C1 := Lib.hid c1
  have C2 := Lib.hid c2
  have C3 := Lib.hid c3
  have C4 := Lib.hid c4
  have C5 := Lib.hid c5
  clear c1 c2 c3 c4 c5 h0 h1 h2 h3 r1 r2 r3 r4
  go_enter Try.func5, Try.ntmps5
  go_wp2_with fail
  refine (C1.out _).mono ?_
  rintro e w1 ⟨rfl, rfl⟩
  go_wp2_with fail
  refine (C2.out _).mono ?_
  rintro e w1 ⟨rfl, rfl⟩
  go_wp2_with fail
  refine (C3.out _).mono ?_
  rintro e w1 ⟨rfl, rfl⟩
  go_wp2_with fail
  refine (C4.out _).mono ?_
  rintro e w1 ⟨rfl, rfl⟩
  go_wp2_with fail
  refine (C5.out _).mono ?_
  rintro e w1 ⟨rfl, rfl⟩
  clear C1 C2 C3 C4 C5 e0 e1 e2 e3
  have hor := R4.out
  cases f <;> cases h <;> cases i <;> cases j <;> simp at hor
  all_goals
    go_wp2_with (go_at_call 12; refine (knowns_any _).mono ?_; rintro e w5 ⟨rfl, g5⟩)
    all_goals
      go_ret
      exact ⟨rfl, below_of_grown g5⟩
end Go.Proofs.Ytcjklklbklopnaa
