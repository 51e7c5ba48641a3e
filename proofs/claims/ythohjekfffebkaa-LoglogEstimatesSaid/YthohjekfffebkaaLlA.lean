/- The walks of bitsOK, New and of its reference. No condition. -/
import Derived.Test.YthohjekfffebkaaHashN
import Derived.Test.YthohjekfffebkaaFre
import Derived.Test.YthohjekfffebkaaWithin
import Derived.Test.YthohjekfffebkaaItm
namespace Go.Proofs.Ythohjekfffebkaa
open Go.RowKit Go.ChangeShapes Go.WideShapes
set_option linter.unusedVariables false
set_option linter.unusedSimpArgs false
theorem bitsok_any (p : Int) (w : World) :
    Calls Try.prog 32 #[.int .i64 p] w fun e w' => e = .returned (.bool (decide (2 ≤ p ∧ p ≤ 8))) ∧ w = w' := by
  by_cases h1 : 2 ≤ p
  · by_cases h2 : p ≤ 8
    · go_enter Try.func32, Try.ntmps32
      go_wp2
      go_ret
      exact ⟨by first | rfl | exact ret_b (by simp [h1, h2]), rfl⟩
    · go_enter Try.func32, Try.ntmps32
      go_wp2
      go_ret
      exact ⟨by first | rfl | exact ret_b (by simp [h1, h2]), rfl⟩
  · go_enter Try.func32, Try.ntmps32
    go_wp2
    go_ret
    exact ⟨by first | rfl | exact ret_b (by simp; omega), rfl⟩
theorem Try.infoInt : (Try.prog.info? 3).map (fun i => (i.zero, i.size, i.bytes)) = some (some (.int .i64 0), 1, 8) := by kernel_rfl
def pOK (p : Int) : Prop := 2 ≤ p ∧ p ≤ 8
instance (p : Int) : Decidable (pOK p) := by unfold pOK; infer_instance
def p2 (p : Int) : Nat := 2 ^ p.toNat
def lnI (p x : Int) : Int := if pOK p then x else 0
def lnE (p : Int) : Int := if pOK p then 0 else 5
def lnL (p : Int) : List Int := if pOK p then List.replicate (p2 p) 0 else []
theorem p2_in {p : Int} (h : pOK p) : 4 ≤ p2 p ∧ p2 p ≤ 256 := by
  obtain ⟨h1, h2⟩ := h
  obtain ⟨k, rfl⟩ : ∃ k : Nat, p = k := ⟨p.toNat, by omega⟩
  unfold p2
  rw [Int.toNat_natCast]
  have : k = 2 ∨ k = 3 ∨ k = 4 ∨ k = 5 ∨ k = 6 ∨ k = 7 ∨ k = 8 := by omega
  rcases this with rfl | rfl | rfl | rfl | rfl | rfl | rfl <;> decide
theorem p2_sh {p : Int} (h : pOK p) : wrap64 (2 ^ p.toNat) = (p2 p : Int) := by
  have := p2_in h
  have e : ((2 : Int) ^ p.toNat) = (p2 p : Int) := by unfold p2; simp
  rw [e]
  unfold wrap64
  omega
theorem bitsok_yes (p : Int) (w : World) (h : 2 ≤ p ∧ p ≤ 8) :
    Calls Try.prog 32 #[.int .i64 p] w fun e w' => e = .returned (.bool true) ∧ w = w' := by
  have := bitsok_any p w
  rwa [decide_eq_true h] at this
theorem bitsok_no (p : Int) (w : World) (h : ¬ (2 ≤ p ∧ p ≤ 8)) :
    Calls Try.prog 32 #[.int .i64 p] w fun e w' => e = .returned (.bool false) ∧ w = w' := by
  have := bitsok_any p w
  rwa [decide_eq_false h] at this
set_option maxRecDepth 100000 in
set_option maxHeartbeats 1600000 in
theorem llnew_any (p z : Int) (w : World) :
    Calls Try.prog 11 #[.int .i64 p, .int .u64 z] w fun e w' => ∃ v, e = .returned (.tuple #[.agg #[.int .i64 (lnI p p), .int .u64 (lnI p z), v], .int .i64 (lnE p)]) ∧ Ints .i64 w' v (lnL p) ∧ Fresh w.heap.size v ∧ w.grownBy w' none := by
  by_cases hs : pOK p
  · have hm := p2_in hs
    have hsh := p2_sh hs
    rw [show lnI p p = p from if_pos hs, show lnI p z = z from if_pos hs, show lnE p = 0 from if_pos hs, show lnL p = List.replicate (p2 p) 0 from if_pos hs]
    obtain ⟨q1, q2⟩ : 2 ≤ p ∧ p ≤ 8 := hs
    generalize p2 p = N at *
    have HH := Lib.hid hsh
    clear hsh
    obtain ⟨i0, hi, hz0, hz1, hz2⟩ := info_parts Try.infoInt
    go_enter Try.func11, Try.ntmps11
    go_wp2_with fail
    refine (bitsok_yes _ _ ⟨q1, q2⟩).mono ?_
    rintro e w' ⟨rfl, rfl⟩
    go_wp2_with (at_make; go_loud (refine wpList_make_full _ rfl _ _ 24 rfl (w.heap.size + 1) 3 i0 (.int .i64 0) 1 Try.underlying24 hi hz0 hz1 _ _ _ _ N rfl rfl HH.out HH.out ?c1 ?c2 ?c3 ?_))
    case c1 => rw [hz2]; omega
    case c2 => unfold maxLen; omega
    case c3 => simp
    intro w1 hown g1
    simp only [Value.cells, toList_madeCells_one] at hown
    have hI : Ints .i64 w1 (.slice (some ⟨w.heap.size + 1, 0, none⟩) N N) (List.replicate N 0) := ints_of_own (by simpa using hown) (by intro n hn; rw [List.eq_of_mem_replicate hn]; rfl)
    have G1 : w.grownBy w1 none := (grown_alloc _ _).trans' g1
    have r1 := (Blk.new w _ _).keep g1
    obtain ⟨r10, r11, r12, r13⟩ := r1.at3
    clear hown g1
    go_wp2
    refine bodyPost_ret (v := .tuple #[.agg #[.int .i64 p, .int .u64 z, .slice (some ⟨w.heap.size + 1, 0, none⟩) N N], .int .i64 0]) ?_ rfl ⟨_, rfl, ?_, fresh_of (by omega), ?_⟩
    · simp [results, Try.results11, go_sem, r10, r11, r12]
    · repeat (with_reducible refine Ints.set ?_ _ (by omega))
      exact hI
    · repeat (with_reducible refine grown_set ?_ _ (by omega))
      exact G1
  · rw [show lnI p p = 0 from if_neg hs, show lnI p z = 0 from if_neg hs, show lnE p = 5 from if_neg hs, show lnL p = [] from if_neg hs]
    have hs' : ¬ (2 ≤ p ∧ p ≤ 8) := hs
    go_enter Try.func11, Try.ntmps11
    go_wp2_with fail
    refine (bitsok_no _ _ hs').mono ?_
    rintro e w' ⟨rfl, rfl⟩
    go_wp2
    refine bodyPost_ret (v := .tuple #[.agg #[.int .i64 0, .int .u64 0, .slice none 0 0], .int .i64 5]) ?_ rfl ⟨_, rfl, ints_nil _ _, fresh_nil _ _ _, grown_alloc _ _⟩
    simp [results, Try.results11, go_sem]
set_option maxRecDepth 100000 in
set_option maxHeartbeats 1600000 in
theorem llnewr_any (p z : Int) (w : World) :
    Calls Try.prog 12 #[.int .i64 p, .int .u64 z] w fun e w' => ∃ v, e = .returned (.tuple #[.agg #[.int .i64 (lnI p p), .int .u64 (lnI p z), v], .int .i64 (lnE p)]) ∧ Ints .i64 w' v (lnL p) ∧ Fresh w.heap.size v ∧ w.grownBy w' none := by
  by_cases hs : pOK p
  · have hm := p2_in hs
    have hsh := p2_sh hs
    rw [show lnI p p = p from if_pos hs, show lnI p z = z from if_pos hs, show lnE p = 0 from if_pos hs, show lnL p = List.replicate (p2 p) 0 from if_pos hs]
    obtain ⟨q1, q2⟩ : 2 ≤ p ∧ p ≤ 8 := hs
    generalize p2 p = N at *
    have HH := Lib.hid hsh
    clear hsh
    obtain ⟨i0, hi, hz0, hz1, hz2⟩ := info_parts Try.infoInt
    go_enter Try.func12, Try.ntmps12
    go_wp2_with fail
    refine (within_yes _ _ _ _ ⟨q1, q2⟩).mono ?_
    rintro e w' ⟨rfl, rfl⟩
    go_wp2_with (at_make; go_loud (refine wpList_make_full _ rfl _ _ 24 rfl (w.heap.size + 1) 3 i0 (.int .i64 0) 1 Try.underlying24 hi hz0 hz1 _ _ _ _ N rfl rfl HH.out HH.out ?c1 ?c2 ?c3 ?_))
    case c1 => rw [hz2]; omega
    case c2 => unfold maxLen; omega
    case c3 => simp
    intro w1 hown g1
    simp only [Value.cells, toList_madeCells_one] at hown
    have hI : Ints .i64 w1 (.slice (some ⟨w.heap.size + 1, 0, none⟩) N N) (List.replicate N 0) := ints_of_own (by simpa using hown) (by intro n hn; rw [List.eq_of_mem_replicate hn]; rfl)
    have G1 : w.grownBy w1 none := (grown_alloc _ _).trans' g1
    have r1 := (Blk.new w _ _).keep g1
    obtain ⟨r10, r11, r12, r13⟩ := r1.at3
    clear hown g1
    go_wp2
    refine bodyPost_ret (v := .tuple #[.agg #[.int .i64 p, .int .u64 z, .slice (some ⟨w.heap.size + 1, 0, none⟩) N N], .int .i64 0]) ?_ rfl ⟨_, rfl, ?_, fresh_of (by omega), ?_⟩
    · simp [results, Try.results12, go_sem, r10, r11, r12]
    · repeat (with_reducible refine Ints.set ?_ _ (by omega))
      exact hI
    · repeat (with_reducible refine grown_set ?_ _ (by omega))
      exact G1
  · rw [show lnI p p = 0 from if_neg hs, show lnI p z = 0 from if_neg hs, show lnE p = 5 from if_neg hs, show lnL p = [] from if_neg hs]
    have hs' : ¬ (2 ≤ p ∧ p ≤ 8) := hs
    go_enter Try.func12, Try.ntmps12
    go_wp2_with fail
    refine (within_no _ _ _ _ hs').mono ?_
    rintro e w' ⟨rfl, rfl⟩
    go_wp2
    refine bodyPost_ret (v := .tuple #[.agg #[.int .i64 0, .int .u64 0, .slice none 0 0], .int .i64 5]) ?_ rfl ⟨_, rfl, ints_nil _ _, fresh_nil _ _ _, grown_alloc _ _⟩
    simp [results, Try.results12, go_sem]
end Go.Proofs.Ythohjekfffebkaa
