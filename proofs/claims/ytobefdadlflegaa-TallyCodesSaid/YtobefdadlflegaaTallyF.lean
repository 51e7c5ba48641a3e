/- The walks of the helpers of the laws of tallies. -/
import Derived.Test.YtobefdadlflegaaTallyE
namespace Go.Proofs.Ytobefdadlflegaa
open Go.RowKit Go.ChangeShapes Go.WideShapes
set_option linter.unusedVariables false
set_option linter.unusedSimpArgs false
theorem newt_any (w : World) :
    Calls Try.prog 17 #[] w fun e w' => e = .returned (.agg #[.int .i64 0, .int .i64 0, .bool false]) ∧ w.grownBy w' none := by
  go_enter Try.func17, Try.ntmps17
  go_wp2
  refine bodyPost_ret (v := .agg #[.int .i64 0, .int .i64 0, .bool false]) ?_ rfl ⟨rfl, ?_⟩
  · simp [results, Try.results17, go_sem]
  · exact grown_alloc _ _
set_option maxRecDepth 100000 in
theorem knownt_any (w : World) :
    Calls Try.prog 14 #[] w fun e w' => e = .returned (.bool true) ∧ w.grownBy w' none := by
  have c1 := fun w : World => newt_any w
  have c2 := fun w : World => insert_any 0 0 false ⟨#[97]⟩ 3 w (by unfold i64B; omega) (by unfold i64B; omega) (by unfold i64B; omega) (by decide)
  rw [show insR 0 0 false ⟨#[97]⟩ 3 = (3, 1, false, 0) from by decide] at c2
  simp only [tvr] at c2
  have C1 := Lib.hid c1
  have C2 := Lib.hid c2
  clear c1 c2
  go_enter Try.func14, Try.ntmps14
  go_wp2_with fail
  refine (C1.out _).mono ?_
  rintro e w1 ⟨rfl, g1⟩
  go_wp2_with fail
  refine (C2.out _).mono ?_
  rintro e w2 ⟨rfl, g2⟩
  go_wp2
  go_ret
  exact ⟨rfl, (g1.trans' g2).trans' (grown_alloc _ _)⟩
set_option maxRecDepth 100000 in
set_option maxHeartbeats 1600000 in
theorem made_any (a b : Int) (w : World) (ha : i64B a) (hb : i64B b) :
    Calls Try.prog 8 #[.int .i64 a, .int .i64 b] w fun e w' => ∃ t n s, e = .returned (.agg #[.int .i64 t, .int .i64 n, .bool s]) ∧ i64B t ∧ i64B n ∧ w.grownBy w' none := by
  have b1 : ∃ m, bits BinOp.and IntKind.i64 a 1048575 = m ∧ 0 ≤ m ∧ m ≤ 1048575 := ⟨_, and_mask _ 20 (by omega) _ (by decide), by omega, by omega⟩
  have b2 : ∃ m, bits BinOp.and IntKind.i64 b 1048575 = m ∧ 0 ≤ m ∧ m ≤ 1048575 := ⟨_, and_mask _ 20 (by omega) _ (by decide), by omega, by omega⟩
  have b3 : ∃ m, bits BinOp.and IntKind.i64 (a / 16777216) 3 = m ∧ 0 ≤ m ∧ m ≤ 3 := ⟨_, and_mask _ 2 (by omega) 3 (by decide), by omega, by omega⟩
  have b4 : ∃ m, bits BinOp.and IntKind.i64 (a / 67108864) 3 = m ∧ 0 ≤ m ∧ m ≤ 3 := ⟨_, and_mask _ 2 (by omega) 3 (by decide), by omega, by omega⟩
  obtain ⟨m1, e1, l1, u1⟩ := b1
  obtain ⟨m2, e2, l2, u2⟩ := b2
  obtain ⟨m3, e3, l3, u3⟩ := b3
  obtain ⟨m4, e4, l4, u4⟩ := b4
  have d1 : (m1 + 1 == 0) = false := by rw [beq_eq_false_iff_ne]; omega
  unfold i64B at ha hb
  go_enter Try.func8, Try.ntmps8
  have hmd : 0 ≤ m2 % (m1 + 1) ∧ m2 % (m1 + 1) < m1 + 1 := ⟨Int.emod_nonneg _ (by omega), Int.emod_lt_of_pos _ (by omega)⟩
  have HMD := Lib.hid hmd
  clear hmd
  go_wp2_with fail
  all_goals
    first
      | (refine bodyPost_ret (v := .agg #[.int .i64 (4294967295 - m3), .int .i64 (m2 % (m1 + 1)), .bool (bits BinOp.and IntKind.i64 (a / 1099511627776) 1 == 1)]) ?_ rfl ⟨4294967295 - m3, m2 % (m1 + 1), _, rfl, ?_, ?_, ?_⟩; focus (simp [results, Try.results8, go_sem]; done))
      | (refine bodyPost_ret (v := .agg #[.int .i64 (4294967295 - m3), .int .i64 (4294967295 - m4 - 3), .bool (bits BinOp.and IntKind.i64 (a / 1099511627776) 1 == 1)]) ?_ rfl ⟨4294967295 - m3, 4294967295 - m4 - 3, _, rfl, ?_, ?_, ?_⟩; focus (simp [results, Try.results8, go_sem]; done))
      | (refine bodyPost_ret (v := .agg #[.int .i64 (a), .int .i64 (b), .bool (bits BinOp.and IntKind.i64 (a / 1099511627776) 1 == 1)]) ?_ rfl ⟨a, b, _, rfl, ?_, ?_, ?_⟩; focus (simp [results, Try.results8, go_sem]; done))
      | (refine bodyPost_ret (v := .agg #[.int .i64 (m1), .int .i64 (m2 % (m1 + 1)), .bool (bits BinOp.and IntKind.i64 (a / 1099511627776) 1 == 1)]) ?_ rfl ⟨m1, m2 % (m1 + 1), _, rfl, ?_, ?_, ?_⟩; focus (simp [results, Try.results8, go_sem]; done))
    · have := HMD.out; unfold i64B; omega
    · have := HMD.out; unfold i64B; omega
    · exact (grown_alloc _ _).trans' (grown_alloc _ _)
end Go.Proofs.Ytobefdadlflegaa
