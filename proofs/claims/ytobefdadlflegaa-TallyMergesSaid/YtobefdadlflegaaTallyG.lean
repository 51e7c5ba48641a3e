/- The walks of the laws of tallies. -/
import Derived.Test.YtobefdadlflegaaTallyF
namespace Go.Proofs.Ytobefdadlflegaa
open Go.RowKit Go.ChangeShapes Go.WideShapes
set_option linter.unusedVariables false
set_option linter.unusedSimpArgs false
theorem i64B_of {a : Int} (h : (Lit.int .i64 a).wf = true) : i64B a := bounds_i64 h
set_option maxRecDepth 100000 in
set_option maxHeartbeats 1600000 in
theorem TallyMerges_walk (a0 a1 a2 a3 : Int) (w : World) (h0 : (Lit.int .i64 a0).wf = true) (h1 : (Lit.int .i64 a1).wf = true) (h2 : (Lit.int .i64 a2).wf = true) (h3 : (Lit.int .i64 a3).wf = true) :
    Calls Try.prog 4 #[.int .i64 a0, .int .i64 a1, .int .i64 a2, .int .i64 a3] w fun e w' => e = .returned (.bool true) ∧ Below w.heap.size w w' := by
  have c1 := fun w : World => made_any a0 a1 w (i64B_of h0) (i64B_of h1)
  have c2 := fun w : World => made_any a2 a3 w (i64B_of h2) (i64B_of h3)
  have C1 := Lib.hid c1
  have C2 := Lib.hid c2
  clear c1 c2 h0 h1 h2 h3
  go_enter Try.func4, Try.ntmps4
  go_wp2_with fail
  refine (C1.out _).mono ?_
  rintro e w1 ⟨t, n, s, rfl, ht, hn, g1⟩
  go_wp2_with fail
  refine (C2.out _).mono ?_
  rintro e w2 ⟨a, b, u, rfl, ha, hb, g2⟩
  have c3 := fun w : World => merge_any t n s a b u w ht hn ha hb
  have c4 := fun w : World => merger_any t n s a b u w ht hn ha hb
  generalize mrgR t n s a b u = r at *
  obtain ⟨p, q, z, f⟩ := r
  simp only [tvr] at c3 c4
  have C3 := Lib.hid c3
  have C4 := Lib.hid c4
  clear c3 c4 ht hn ha hb
  go_wp2_with fail
  refine (C3.out _).mono ?_
  rintro e w3 ⟨rfl, g3⟩
  have hz3 : w2.heap.size + 1 + 1 ≤ w3.heap.size := by simpa using g3.size
  have q0 : ∀ o : Obj, (w3.alloc o).cell? ⟨w2.heap.size, 0, none⟩ = some (.int .i64 t) := fun o => kcell (grown_alloc _ _) (kcell g3 (by simp [go_sem]) (by simp; try omega) ) (by omega)
  have q1 : ∀ o : Obj, (w3.alloc o).cell? ⟨w2.heap.size, 1, none⟩ = some (.int .i64 n) := fun o => kcell (grown_alloc _ _) (kcell g3 (by simp [go_sem]) (by simp; try omega) ) (by omega)
  have q2 : ∀ o : Obj, (w3.alloc o).cell? ⟨w2.heap.size, 2, none⟩ = some (.bool s) := fun o => kcell (grown_alloc _ _) (kcell g3 (by simp [go_sem]) (by simp; try omega) ) (by omega)
  have r0 : ∀ o : Obj, (w3.alloc o).cell? ⟨w2.heap.size + 1, 0, none⟩ = some (.int .i64 a) := fun o => kcell (grown_alloc _ _) (kcell g3 (by simp [go_sem]) (by simp; try omega) ) (by omega)
  have r1 : ∀ o : Obj, (w3.alloc o).cell? ⟨w2.heap.size + 1, 1, none⟩ = some (.int .i64 b) := fun o => kcell (grown_alloc _ _) (kcell g3 (by simp [go_sem]) (by simp; try omega) ) (by omega)
  have r2 : ∀ o : Obj, (w3.alloc o).cell? ⟨w2.heap.size + 1, 2, none⟩ = some (.bool u) := fun o => kcell (grown_alloc _ _) (kcell g3 (by simp [go_sem]) (by simp; try omega) ) (by omega)
  go_wp2_with fail
  refine (C4.out _).mono ?_
  rintro e w4 ⟨rfl, g4⟩
  have hz4 : w3.heap.size + 1 ≤ w4.heap.size := by simpa using g4.size
  have x0 : ∀ o : Obj, (w4.alloc o).cell? ⟨w3.heap.size, 0, none⟩ = some (.int .i64 p) := fun o => kcell (grown_alloc _ _) (kcell g4 (by simp [go_sem]) (by simp) ) (by omega)
  have x1 : ∀ o : Obj, (w4.alloc o).cell? ⟨w3.heap.size, 1, none⟩ = some (.int .i64 q) := fun o => kcell (grown_alloc _ _) (kcell g4 (by simp [go_sem]) (by simp) ) (by omega)
  have x2 : ∀ o : Obj, (w4.alloc o).cell? ⟨w3.heap.size, 2, none⟩ = some (.bool z) := fun o => kcell (grown_alloc _ _) (kcell g4 (by simp [go_sem]) (by simp) ) (by omega)
  go_wp2_with fail
  refine (knownt_any _).mono ?_
  rintro e w5 ⟨rfl, g5⟩
  go_wp2
  go_ret
  exact ⟨rfl, below_of_grown (((g1.trans' g2).trans' (((grown_alloc _ _).trans' (grown_alloc _ _)).trans' g3)).trans' (((grown_alloc _ _).trans' g4).trans' ((grown_alloc _ _).trans' g5)))⟩
end Go.Proofs.Ytobefdadlflegaa
