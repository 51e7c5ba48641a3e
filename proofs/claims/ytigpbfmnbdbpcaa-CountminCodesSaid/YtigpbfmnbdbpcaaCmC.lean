/- The walks of New and of its reference. No condition. -/
import Derived.Test.YtigpbfmnbdbpcaaCmB
namespace Go.Proofs.Ytigpbfmnbdbpcaa
open Go.RowKit Go.ChangeShapes Go.WideShapes
set_option linter.unusedVariables false
set_option linter.unusedSimpArgs false
/-- A sketch as a value. -/
def cmv (d s z : Int) (v : Value) (b : Bool) : Value := .agg #[.int .i64 d, .int .i64 s, .int .u64 z, v, .bool b]
def nwE (d s : Int) : Int := if sizB d s then 0 else 5
def nwI (d s x : Int) : Int := if sizB d s then x else 0
def nwL (d s : Int) : List Int := if sizB d s then List.replicate (d * s).toNat 0 else []
/-- The slice lies in a block from B on. -/
def Fresh (B : Nat) (v : Value) : Prop := ∀ a n c, v = .slice (some a) n c → B ≤ a.block
theorem fresh_of {B g o n c : Nat} (h : B ≤ g) : Fresh B (.slice (some ⟨g, o, none⟩) n c) := by
  intro a n' c' e
  injection e with e1 _ _
  injection e1 with e1
  rw [← e1]; exact h
theorem fresh_nil (B n c : Nat) : Fresh B (.slice none n c) := by
  intro a n' c' e
  injection e with e1 _ _
  cases e1
theorem Ints.setF {k : IntKind} {w : World} {v : Value} {l : List Int} {B b' o : Nat} (h : Ints k w v l) (hf : Fresh B v) (u : Value) (hb : b' < B) : Ints k (w.setCell ⟨b', o, none⟩ u) v l := by
  obtain ⟨a, cap, he, h1, h2, h3, h4⟩ := h
  refine ⟨a, cap, he, h1, h2, h3, ?_⟩
  rcases h4 with h4 | ⟨b2, off2, hb2, hlt, hc⟩
  · exact .inl h4
  · have hne : b2 ≠ b' := by have := hf _ _ _ (he.trans (by rw [hb2])); simp only at this; omega
    refine .inr ⟨b2, off2, hb2, by simpa using hlt, fun i hi => ?_⟩
    have := hc i hi
    simp [go_sem, hne]
    simpa using this
theorem Ints.set {k : IntKind} {w : World} {b off n c : Nat} {l : List Int} (h : Ints k w (.slice (some ⟨b, off, none⟩) n c) l) {b' o : Nat} (u : Value) (hne : b ≠ b') : Ints k (w.setCell ⟨b', o, none⟩ u) (.slice (some ⟨b, off, none⟩) n c) l := by
  obtain ⟨a, cap, he, h1, h2, h3, h4⟩ := h
  refine ⟨a, cap, he, h1, h2, h3, ?_⟩
  rcases h4 with h4 | ⟨b2, off2, hb2, hlt, hc⟩
  · exact .inl h4
  · refine .inr ⟨b2, off2, hb2, by simpa using hlt, fun i hi => ?_⟩
    cases he
    cases hb2
    have := hc i hi
    simp [go_sem, hne]
    simpa using this
theorem Try.infoInt : (Try.prog.info? 3).map (fun i => (i.zero, i.size, i.bytes)) = some (some (.int .i64 0), 1, 8) := by kernel_rfl
set_option maxRecDepth 100000 in
set_option maxHeartbeats 1600000 in
theorem cmnew_any (d s z : Int) (w : World) :
    Calls Try.prog 11 #[.int .i64 d, .int .i64 s, .int .u64 z] w fun e w' => ∃ v, e = .returned (.tuple #[.agg #[.int .i64 (nwI d s d), .int .i64 (nwI d s s), .int .u64 (nwI d s z), v, .bool false], .int .i64 (nwE d s)]) ∧ Ints .i64 w' v (nwL d s) ∧ Fresh w.heap.size v ∧ w.grownBy w' none := by
  by_cases hs : sizB d s
  · have hm := mul_in hs
    have HS := Lib.hid (show decide (1 ≤ d ∧ d ≤ 8 ∧ 1 ≤ s ∧ s ≤ 64) = true from decide_eq_true hs)
    rw [show nwI d s d = d from if_pos hs, show nwI d s s = s from if_pos hs, show nwI d s z = z from if_pos hs, show nwE d s = 0 from if_pos hs, show nwL d s = List.replicate (d * s).toNat 0 from if_pos hs]
    obtain ⟨q1, q2, q3, q4⟩ : 1 ≤ d ∧ d ≤ 8 ∧ 1 ≤ s ∧ s ≤ 64 := hs
    obtain ⟨N, hN⟩ : ∃ N, (d * s).toNat = N := ⟨_, rfl⟩
    rw [hN]
    have hN2 : d * s = (N : Int) := by omega
    have hN3 : N ≤ 512 := by omega
    have HN := Lib.hid hN2
    clear hN hN2
    obtain ⟨i0, hi, hz0, hz1, hz2⟩ := info_parts Try.infoInt
    go_enter Try.func11, Try.ntmps11
    go_wp2_with (first | (go_at_call 32; refine (sized_any _ _ _).mono ?_; rw [HS.out]; rintro e w' ⟨rfl, rfl⟩) | (at_make; refine wpList_make_full _ rfl _ _ 24 rfl (w.heap.size + 1) 3 i0 (.int .i64 0) 1 Try.underlying24 hi hz0 hz1 _ _ _ _ N rfl rfl HN.out HN.out ?c1 ?c2 ?c3 ?_))
    case c1 => rw [hz2]; omega
    case c2 => unfold maxLen; omega
    case c3 => simp
    intro w1 hown g1
    simp only [Value.cells, toList_madeCells_one] at hown
    have hbb : w.heap.size < w1.heap.size := by have := g1.size; simp at this; omega
    have hI : Ints .i64 w1 (.slice (some ⟨w.heap.size + 1, 0, none⟩) N N) (List.replicate N 0) := ints_of_own (by simpa using hown) (by intro n hn; rw [List.eq_of_mem_replicate hn]; rfl)
    have G1 : w.grownBy w1 none := (grown_alloc _ _).trans' g1
    have z0 : w1.frozen? ⟨w.heap.size, 0, none⟩ = false := kfroz g1 (by simp [go_sem]) (by simp)
    have y0 : w1.cell? ⟨w.heap.size, 0, none⟩ = some (.int .i64 0) := kcell g1 (by simp [go_sem]) (by simp)
    have z1 : w1.frozen? ⟨w.heap.size, 1, none⟩ = false := kfroz g1 (by simp [go_sem]) (by simp)
    have y1 : w1.cell? ⟨w.heap.size, 1, none⟩ = some (.int .i64 0) := kcell g1 (by simp [go_sem]) (by simp)
    have z2 : w1.frozen? ⟨w.heap.size, 2, none⟩ = false := kfroz g1 (by simp [go_sem]) (by simp)
    have y2 : w1.cell? ⟨w.heap.size, 2, none⟩ = some (.int .u64 0) := kcell g1 (by simp [go_sem]) (by simp)
    have z3 : w1.frozen? ⟨w.heap.size, 3, none⟩ = false := kfroz g1 (by simp [go_sem]) (by simp)
    have y3 : w1.cell? ⟨w.heap.size, 3, none⟩ = some (.slice none 0 0) := kcell g1 (by simp [go_sem]) (by simp)
    have z4 : w1.frozen? ⟨w.heap.size, 4, none⟩ = false := kfroz g1 (by simp [go_sem]) (by simp)
    have y4 : w1.cell? ⟨w.heap.size, 4, none⟩ = some (.bool false) := kcell g1 (by simp [go_sem]) (by simp)
    clear hown g1
    go_wp2
    refine bodyPost_ret (v := .tuple #[cmv d s z (.slice (some ⟨w.heap.size + 1, 0, none⟩) N N) false, .int .i64 0]) ?_ rfl ⟨_, rfl, ?_, fresh_of (by omega), ?_⟩
    · simp [results, Try.results11, go_sem, cmv, y0, y1, y2, y3, y4]
    · exact ((((hI.set _ (by omega)).set _ (by omega)).set _ (by omega)).set _ (by omega)).set _ (by omega)
    · refine grown_set (grown_set (grown_set (grown_set (grown_set G1 _ ?_) _ ?_) _ ?_) _ ?_) _ ?_ <;> omega
  · have HS := Lib.hid (show decide (1 ≤ d ∧ d ≤ 8 ∧ 1 ≤ s ∧ s ≤ 64) = false from decide_eq_false hs)
    rw [show nwI d s d = 0 from if_neg hs, show nwI d s s = 0 from if_neg hs, show nwI d s z = 0 from if_neg hs, show nwE d s = 5 from if_neg hs, show nwL d s = [] from if_neg hs]
    clear hs
    go_enter Try.func11, Try.ntmps11
    go_wp2_with (go_at_call 32; refine (sized_any _ _ _).mono ?_; rw [HS.out]; rintro e w' ⟨rfl, rfl⟩)
    refine bodyPost_ret (v := .tuple #[cmv 0 0 0 (.slice none 0 0) false, .int .i64 5]) ?_ rfl ⟨_, rfl, ints_nil _ _, fresh_nil _ _ _, grown_alloc _ _⟩
    simp [results, Try.results11, go_sem, cmv]
set_option maxRecDepth 100000 in
set_option maxHeartbeats 1600000 in
theorem cmnewr_any (d s z : Int) (w : World) :
    Calls Try.prog 12 #[.int .i64 d, .int .i64 s, .int .u64 z] w fun e w' => ∃ v, e = .returned (.tuple #[.agg #[.int .i64 (nwI d s d), .int .i64 (nwI d s s), .int .u64 (nwI d s z), v, .bool false], .int .i64 (nwE d s)]) ∧ Ints .i64 w' v (nwL d s) ∧ Fresh w.heap.size v ∧ w.grownBy w' none := by
  by_cases hs : sizB d s
  · have hm := mul_in hs
    have HS := Lib.hid (show decide (1 ≤ d ∧ d ≤ 8 ∧ 1 ≤ s ∧ s ≤ 64) = true from decide_eq_true hs)
    rw [show nwI d s d = d from if_pos hs, show nwI d s s = s from if_pos hs, show nwI d s z = z from if_pos hs, show nwE d s = 0 from if_pos hs, show nwL d s = List.replicate (d * s).toNat 0 from if_pos hs]
    obtain ⟨q1, q2, q3, q4⟩ : 1 ≤ d ∧ d ≤ 8 ∧ 1 ≤ s ∧ s ≤ 64 := hs
    obtain ⟨N, hN⟩ : ∃ N, (d * s).toNat = N := ⟨_, rfl⟩
    rw [hN]
    have hN2 : d * s = (N : Int) := by omega
    have hN3 : N ≤ 512 := by omega
    have HN := Lib.hid hN2
    clear hN hN2
    obtain ⟨i0, hi, hz0, hz1, hz2⟩ := info_parts Try.infoInt
    go_enter Try.func12, Try.ntmps12
    go_wp2_with (first | (go_at_call 33; (first | (refine (within_yes _ _ _ _ ?h).mono ?_; (case h => omega)) | (refine (within_no _ _ _ _ ?h).mono ?_; (case h => omega))); rintro e w' ⟨rfl, rfl⟩) | (at_make; refine wpList_make_full _ rfl _ _ 24 rfl (w.heap.size + 1) 3 i0 (.int .i64 0) 1 Try.underlying24 hi hz0 hz1 _ _ _ _ N rfl rfl HN.out HN.out ?c1 ?c2 ?c3 ?_))
    case c1 => rw [hz2]; omega
    case c2 => unfold maxLen; omega
    case c3 => simp
    intro w1 hown g1
    simp only [Value.cells, toList_madeCells_one] at hown
    have hbb : w.heap.size < w1.heap.size := by have := g1.size; simp at this; omega
    have hI : Ints .i64 w1 (.slice (some ⟨w.heap.size + 1, 0, none⟩) N N) (List.replicate N 0) := ints_of_own (by simpa using hown) (by intro n hn; rw [List.eq_of_mem_replicate hn]; rfl)
    have G1 : w.grownBy w1 none := (grown_alloc _ _).trans' g1
    have z0 : w1.frozen? ⟨w.heap.size, 0, none⟩ = false := kfroz g1 (by simp [go_sem]) (by simp)
    have y0 : w1.cell? ⟨w.heap.size, 0, none⟩ = some (.int .i64 0) := kcell g1 (by simp [go_sem]) (by simp)
    have z1 : w1.frozen? ⟨w.heap.size, 1, none⟩ = false := kfroz g1 (by simp [go_sem]) (by simp)
    have y1 : w1.cell? ⟨w.heap.size, 1, none⟩ = some (.int .i64 0) := kcell g1 (by simp [go_sem]) (by simp)
    have z2 : w1.frozen? ⟨w.heap.size, 2, none⟩ = false := kfroz g1 (by simp [go_sem]) (by simp)
    have y2 : w1.cell? ⟨w.heap.size, 2, none⟩ = some (.int .u64 0) := kcell g1 (by simp [go_sem]) (by simp)
    have z3 : w1.frozen? ⟨w.heap.size, 3, none⟩ = false := kfroz g1 (by simp [go_sem]) (by simp)
    have y3 : w1.cell? ⟨w.heap.size, 3, none⟩ = some (.slice none 0 0) := kcell g1 (by simp [go_sem]) (by simp)
    have z4 : w1.frozen? ⟨w.heap.size, 4, none⟩ = false := kfroz g1 (by simp [go_sem]) (by simp)
    have y4 : w1.cell? ⟨w.heap.size, 4, none⟩ = some (.bool false) := kcell g1 (by simp [go_sem]) (by simp)
    clear hown g1
    go_wp2
    refine bodyPost_ret (v := .tuple #[cmv d s z (.slice (some ⟨w.heap.size + 1, 0, none⟩) N N) false, .int .i64 0]) ?_ rfl ⟨_, rfl, ?_, fresh_of (by omega), ?_⟩
    · simp [results, Try.results12, go_sem, cmv, y0, y1, y2, y3, y4]
    · exact ((((hI.set _ (by omega)).set _ (by omega)).set _ (by omega)).set _ (by omega)).set _ (by omega)
    · refine grown_set (grown_set (grown_set (grown_set (grown_set G1 _ ?_) _ ?_) _ ?_) _ ?_) _ ?_ <;> omega
  · have HS := Lib.hid (show decide (1 ≤ d ∧ d ≤ 8 ∧ 1 ≤ s ∧ s ≤ 64) = false from decide_eq_false hs)
    rw [show nwI d s d = 0 from if_neg hs, show nwI d s s = 0 from if_neg hs, show nwI d s z = 0 from if_neg hs, show nwE d s = 5 from if_neg hs, show nwL d s = [] from if_neg hs]
    unfold sizB at hs
    by_cases q1 : 1 ≤ d <;> by_cases q2 : d ≤ 8 <;> by_cases q3 : 1 ≤ s <;> by_cases q4 : s ≤ 64
    all_goals first | (exfalso; omega) | skip
    all_goals clear hs
    all_goals
      go_enter Try.func12, Try.ntmps12
      go_wp2_with (go_at_call 33; (first | (refine (within_yes _ _ _ _ ?h).mono ?_; (case h => omega)) | (refine (within_no _ _ _ _ ?h).mono ?_; (case h => omega))); rintro e w' ⟨rfl, rfl⟩)
      refine bodyPost_ret (v := .tuple #[cmv 0 0 0 (.slice none 0 0) false, .int .i64 5]) ?_ rfl ⟨_, rfl, ints_nil _ _, fresh_nil _ _ _, grown_alloc _ _⟩
      simp [results, Try.results12, go_sem, cmv]
end Go.Proofs.Ytigpbfmnbdbpcaa
