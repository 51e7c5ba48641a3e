/- The walks of the tallies. Conditions: numbers of Go's int. -/
import Derived.Test.YtobefdadlflegaaNames
import Derived.Test.YtobefdadlflegaaSatAdd
namespace Go.Proofs.Ytobefdadlflegaa
open Go.RowKit Go.ChangeShapes Go.WideShapes
set_option linter.unusedVariables false
set_option linter.unusedSimpArgs false
/-- A tally as a value. -/
def tv (t n : Int) (s : Bool) : Value := .agg #[.int .i64 t, .int .i64 n, .bool s]
def i64B (a : Int) : Prop := -9223372036854775808 ≤ a ∧ a ≤ 9223372036854775807
def valE (t n : Int) : Int := if t < 0 ∨ t > 4294967295 ∨ n < 0 ∨ n > t then 5 else 0
theorem valid_any (t n : Int) (s : Bool) (w : World) :
    Calls Try.prog 12 #[.agg #[.int .i64 t, .int .i64 n, .bool s]] w fun e w' => e = .returned (.int .i64 (valE t n)) ∧ w.grownBy w' none := by
  by_cases h1 : t < 0
  · have h : Hid (valE t n = 5) := by show _ = _; unfold valE; rw [if_pos (by omega)]
    go_enter Try.func12, Try.ntmps12
    go_wp2
    go_ret
    rw [h.out]
    exact ⟨rfl, grown_alloc _ _⟩
  · by_cases h2 : t > 4294967295
    · have h : Hid (valE t n = 5) := by show _ = _; unfold valE; rw [if_pos (by omega)]
      go_enter Try.func12, Try.ntmps12
      go_wp2
      go_ret
      rw [h.out]
      exact ⟨rfl, grown_alloc _ _⟩
    · by_cases h3 : n < 0
      · have h : Hid (valE t n = 5) := by show _ = _; unfold valE; rw [if_pos (by omega)]
        go_enter Try.func12, Try.ntmps12
        go_wp2
        go_ret
        rw [h.out]
        exact ⟨rfl, grown_alloc _ _⟩
      · by_cases h4 : n > t
        · have h : Hid (valE t n = 5) := by show _ = _; unfold valE; rw [if_pos (by omega)]
          go_enter Try.func12, Try.ntmps12
          go_wp2
          go_ret
          rw [h.out]
          exact ⟨rfl, grown_alloc _ _⟩
        · have h : Hid (valE t n = 0) := by show _ = _; unfold valE; rw [if_neg (by omega)]
          go_enter Try.func12, Try.ntmps12
          go_wp2
          go_ret
          rw [h.out]
          exact ⟨rfl, grown_alloc _ _⟩
theorem within_any (n lo hi : Int) (w : World) :
    Calls Try.prog 27 #[.int .i64 n, .int .i64 lo, .int .i64 hi] w fun e w' => e = .returned (.bool (decide (lo ≤ n ∧ n ≤ hi))) ∧ w = w' := by
  by_cases h1 : lo ≤ n
  · by_cases h2 : n ≤ hi
    · go_enter Try.func27, Try.ntmps27
      go_wp2
      go_ret
      exact ⟨by first | rfl | exact ret_b (by simp [h1, h2]), rfl⟩
    · go_enter Try.func27, Try.ntmps27
      go_wp2
      go_ret
      exact ⟨by first | rfl | exact ret_b (by simp [h1, h2]), rfl⟩
  · go_enter Try.func27, Try.ntmps27
    go_wp2
    go_ret
    exact ⟨by first | rfl | exact ret_b (by simp; omega), rfl⟩
theorem plus_any (t n : Int) (s : Bool) (a b : Int) (w : World) (ht : i64B t) (hn : i64B n) (ha : i64B a) (hb : i64B b) :
    Calls Try.prog 24 #[.agg #[.int .i64 t, .int .i64 n, .bool s], .int .i64 a, .int .i64 b] w fun e w' =>
      e = .returned (.agg #[.int .i64 (addS t a 4294967295), .int .i64 (addS n b 4294967295), .bool (s || addB t a 4294967295 || addB n b 4294967295)]) ∧ w.grownBy w' none := by
  have c1 := fun w : World => add_any t a 4294967295 w ht ha (by omega)
  have c2 := fun w : World => add_any n b 4294967295 w hn hb (by omega)
  generalize addS t a 4294967295 = t' at *
  generalize addB t a 4294967295 = f' at *
  generalize addS n b 4294967295 = n' at *
  generalize addB n b 4294967295 = g' at *
  have C1 := Lib.hid c1
  have C2 := Lib.hid c2
  clear c1 c2
  cases s <;> cases f' <;> cases g'
  all_goals
    go_enter Try.func24, Try.ntmps24
    go_wp2_with fail
    refine (C1.out _).mono ?_
    rintro e w' ⟨rfl, rfl⟩
    go_wp2_with fail
    refine (C2.out _).mono ?_
    rintro e w' ⟨rfl, rfl⟩
    go_wp2
    refine bodyPost_ret ?_ rfl ⟨rfl, (grown_alloc _ _).trans' (grown_alloc _ _)⟩
    simp [results, Try.results24, go_sem]
set_option maxHeartbeats 3200000 in
theorem addT_any (t n : Int) (s : Bool) (a b : Int) (u : Bool) (w : World) (ht : i64B t) (hn : i64B n) (ha : i64B a) (hb : i64B b) :
    Calls Try.prog 26 #[.agg #[.int .i64 t, .int .i64 n, .bool s], .agg #[.int .i64 a, .int .i64 b, .bool u]] w fun e w' =>
      e = .returned (.agg #[.int .i64 (addS t a 4294967295), .int .i64 (addS n b 4294967295), .bool (s || u || addB t a 4294967295 || addB n b 4294967295)]) ∧ w.grownBy w' none := by
  have c1 := fun w : World => addr_any t a 4294967295 w ht ha (by omega)
  have c2 := fun w : World => addr_any n b 4294967295 w hn hb (by omega)
  generalize addS t a 4294967295 = t' at *
  generalize addB t a 4294967295 = f' at *
  generalize addS n b 4294967295 = n' at *
  generalize addB n b 4294967295 = g' at *
  have C1 := Lib.hid c1
  have C2 := Lib.hid c2
  clear c1 c2
  cases s <;> cases u <;> cases f' <;> cases g'
  all_goals
    go_enter Try.func26, Try.ntmps26
    go_wp2_with fail
    refine (C1.out _).mono ?_
    rintro e w' ⟨rfl, rfl⟩
    go_wp2_with fail
    refine (C2.out _).mono ?_
    rintro e w' ⟨rfl, rfl⟩
    go_wp2
    refine bodyPost_ret ?_ rfl ⟨rfl, ((grown_alloc _ _).trans' (grown_alloc _ _)).trans' (grown_alloc _ _)⟩
    simp [results, Try.results26, go_sem]
set_option maxHeartbeats 3200000 in
theorem validr_any (t n : Int) (s : Bool) (w : World) :
    Calls Try.prog 13 #[.agg #[.int .i64 t, .int .i64 n, .bool s]] w fun e w' => e = .returned (.int .i64 (valE t n)) ∧ w.grownBy w' none := by
  have c1 := fun w : World => within_any t 0 4294967295 w
  have c2 := fun w : World => within_any n 0 4294967295 w
  cases h1 : decide (0 ≤ t ∧ t ≤ 4294967295) <;> cases h2 : decide (0 ≤ n ∧ n ≤ 4294967295)
  all_goals
    rw [h1] at c1
    rw [h2] at c2
    have C1 := Lib.hid c1
    have C2 := Lib.hid c2
    simp at h1 h2
    clear c1 c2
    by_cases h4 : n > t
    all_goals
      have h : valE t n = 5 ∨ valE t n = 0 := by unfold valE; split <;> simp
      have hv : Hid (valE t n = if t < 0 ∨ t > 4294967295 ∨ n < 0 ∨ n > t then 5 else 0) := rfl
      have H1 := Lib.hid h1
      have H2 := Lib.hid h2
      clear h h1 h2
      go_enter Try.func13, Try.ntmps13
      go_wp2_with fail
      refine (C1.out _).mono ?_
      rintro e w' ⟨rfl, rfl⟩
      go_wp2_with (go_at_call 27; refine (C2.out _).mono ?_; rintro e w' ⟨rfl, rfl⟩)
      go_ret
      rw [hv.out]
      have h1 := H1.out
      have h2 := H2.out
      exact ⟨ret_i (by split <;> omega), grown_alloc _ _⟩
theorem gcell {W w1 : World} (hg : W.grownBy w1 none) : (∀ b o, b < W.heap.size → w1.cell? ⟨b, o, none⟩ = W.cell? ⟨b, o, none⟩) ∧ (∀ b o, b < W.heap.size → w1.frozen? ⟨b, o, none⟩ = W.frozen? ⟨b, o, none⟩) :=
  ⟨fun b o h => World.cell?_of_block (w := W) (hg.block b h (by simp)), fun b o h => World.frozen?_of_block (w := W) (hg.block b h (by simp))⟩
end Go.Proofs.Ytobefdadlflegaa
