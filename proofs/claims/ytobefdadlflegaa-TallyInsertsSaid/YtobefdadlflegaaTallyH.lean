/- The walk of TallyInserts. -/
import Derived.Test.YtobefdadlflegaaTallyF
namespace Go.Proofs.Ytobefdadlflegaa
open Go.RowKit Go.ChangeShapes Go.WideShapes
set_option linter.unusedVariables false
set_option linter.unusedSimpArgs false
theorem keepT {A B D : Nat} {t n p q : Int} {s z : Bool} {w w' : World} (hA : A < D) (hB : B < D) (h : D < w.heap.size ∧ w.cell? ⟨A, 0, none⟩ = some (.int .i64 t) ∧ w.cell? ⟨A, 1, none⟩ = some (.int .i64 n) ∧ w.cell? ⟨A, 2, none⟩ = some (.bool s) ∧ w.cell? ⟨B, 0, none⟩ = some (.int .i64 p) ∧ w.cell? ⟨B, 1, none⟩ = some (.int .i64 q) ∧ w.cell? ⟨B, 2, none⟩ = some (.bool z) ∧ w.cell? ⟨D, 0, none⟩ = some (.int .i64 p) ∧ w.cell? ⟨D, 1, none⟩ = some (.int .i64 q) ∧ w.cell? ⟨D, 2, none⟩ = some (.bool z)) (g : w.grownBy w' none) :
    D < w'.heap.size ∧ w'.cell? ⟨A, 0, none⟩ = some (.int .i64 t) ∧ w'.cell? ⟨A, 1, none⟩ = some (.int .i64 n) ∧ w'.cell? ⟨A, 2, none⟩ = some (.bool s) ∧ w'.cell? ⟨B, 0, none⟩ = some (.int .i64 p) ∧ w'.cell? ⟨B, 1, none⟩ = some (.int .i64 q) ∧ w'.cell? ⟨B, 2, none⟩ = some (.bool z) ∧ w'.cell? ⟨D, 0, none⟩ = some (.int .i64 p) ∧ w'.cell? ⟨D, 1, none⟩ = some (.int .i64 q) ∧ w'.cell? ⟨D, 2, none⟩ = some (.bool z) := by
  obtain ⟨h, k0, k1, k2, k3, k4, k5, k6, k7, k8⟩ := h
  exact ⟨Nat.lt_of_lt_of_le h g.size, kcell g k0 (by omega), kcell g k1 (by omega), kcell g k2 (by omega), kcell g k3 (by omega), kcell g k4 (by omega), kcell g k5 (by omega), kcell g k6 (by omega), kcell g k7 (by omega), kcell g k8 (by omega)⟩
set_option maxRecDepth 100000 in
set_option maxHeartbeats 3200000 in
theorem TallyInserts_walk (a0 a1 a2 : Int) (w : World) (h0 : (Lit.int .i64 a0).wf = true) (h1 : (Lit.int .i64 a1).wf = true) (h2 : (Lit.int .i64 a2).wf = true) :
    Calls Try.prog 3 #[.int .i64 a0, .int .i64 a1, .int .i64 a2] w fun e w' => e = .returned (.bool true) ∧ Below w.heap.size w w' := by
  have c1 := fun w : World => made_any a0 a1 w (bounds_i64 h0) (bounds_i64 h1)
  have b1 : ∃ m, bits BinOp.and IntKind.i64 a2 65535 = m ∧ 0 ≤ m ∧ m ≤ 65535 := ⟨_, and_mask _ 16 (by omega) 65535 (by decide), by omega, by omega⟩
  have hn2 := bounds_i64 h2
  obtain ⟨m, e1, l1, u1⟩ := b1
  have c2 := fun w : World => item_any m w (by unfold i64B; omega)
  have C1 := Lib.hid c1
  have C2 := Lib.hid c2
  clear c1 c2 h0 h1 h2
  go_enter Try.func3, Try.ntmps3
  go_wp2_with fail
  refine (C1.out _).mono ?_
  rintro e w1 ⟨t, n, s, rfl, ht, hn, g1⟩
  go_wp2_with fail
  refine (C2.out _).mono ?_
  rintro e w2 ⟨k, c, rfl, hk1, hk2, hc1, hc2, g2⟩
  go_wp2_with fail
  · have c3 := fun w : World => insert_any t n s k (a2 / 1048576) w ht hn (by unfold i64B; omega) (by unfold maxLen; omega)
    have c4 := fun w : World => insertr_any t n s k (a2 / 1048576) w ht hn (by unfold i64B; omega) (by unfold maxLen; omega)
    have c5 := fun w : World => valid_any t n s w
    have c6 := fun w : World => validr_any t n s w
    generalize insR t n s k (a2 / 1048576) = r at *
    obtain ⟨p, q, z, f⟩ := r
    generalize valE t n = vv at *
    simp only [tvr] at c3 c4
    have C3 := Lib.hid c3
    have C4 := Lib.hid c4
    have C5 := Lib.hid c5
    have C6 := Lib.hid c6
    clear c3 c4 c5 c6 ht hn
    refine (C3.out _).mono ?_
    rintro e w3 ⟨rfl, g3⟩
    have hz3 : w2.heap.size + 1 + 1 ≤ w3.heap.size := by simpa using g3.size
    have t0 : w3.cell? ⟨w2.heap.size, 0, none⟩ = some (.int .i64 t) := kcell g3 (by simp [go_sem]) (by simp; try omega)
    have t1 : w3.cell? ⟨w2.heap.size, 1, none⟩ = some (.int .i64 n) := kcell g3 (by simp [go_sem]) (by simp; try omega)
    have t2 : w3.cell? ⟨w2.heap.size, 2, none⟩ = some (.bool s) := kcell g3 (by simp [go_sem]) (by simp; try omega)
    have q0 : ∀ o : Obj, (w3.alloc o).cell? ⟨w2.heap.size, 0, none⟩ = some (.int .i64 t) := fun o => kcell (grown_alloc _ _) t0 (by omega)
    have q1 : ∀ o : Obj, (w3.alloc o).cell? ⟨w2.heap.size, 1, none⟩ = some (.int .i64 n) := fun o => kcell (grown_alloc _ _) t1 (by omega)
    have q2 : ∀ o : Obj, (w3.alloc o).cell? ⟨w2.heap.size, 2, none⟩ = some (.bool s) := fun o => kcell (grown_alloc _ _) t2 (by omega)
    have r0 : ∀ o : Obj, (w3.alloc o).cell? ⟨w2.heap.size + 1, 0, none⟩ = some (.string k) := fun o => kcell (grown_alloc _ _) (kcell g3 (by simp [go_sem]) (by simp; try omega)) (by omega)
    have r1 : ∀ o : Obj, (w3.alloc o).cell? ⟨w2.heap.size + 1, 1, none⟩ = some (.int .i64 (a2 / 1048576)) := fun o => kcell (grown_alloc _ _) (kcell g3 (by simp [go_sem]) (by simp; try omega)) (by omega)
    go_wp2_with fail
    refine (C4.out _).mono ?_
    rintro e w4 ⟨rfl, g4⟩
    have hz4 : w3.heap.size + 1 ≤ w4.heap.size := by simpa using g4.size
    have x0 : ∀ o : Obj, (w4.alloc o).cell? ⟨w3.heap.size, 0, none⟩ = some (.int .i64 p) := fun o => kcell (grown_alloc _ _) (kcell g4 (by simp [go_sem]) (by simp)) (by omega)
    have x1 : ∀ o : Obj, (w4.alloc o).cell? ⟨w3.heap.size, 1, none⟩ = some (.int .i64 q) := fun o => kcell (grown_alloc _ _) (kcell g4 (by simp [go_sem]) (by simp)) (by omega)
    have x2 : ∀ o : Obj, (w4.alloc o).cell? ⟨w3.heap.size, 2, none⟩ = some (.bool z) := fun o => kcell (grown_alloc _ _) (kcell g4 (by simp [go_sem]) (by simp)) (by omega)
    have tt0 : ∀ o : Obj, (w4.alloc o).cell? ⟨w2.heap.size, 0, none⟩ = some (.int .i64 t) := fun o => kcell (grown_alloc _ _) (kcell g4 (q0 _) (by simp; omega)) (by omega)
    have tt1 : ∀ o : Obj, (w4.alloc o).cell? ⟨w2.heap.size, 1, none⟩ = some (.int .i64 n) := fun o => kcell (grown_alloc _ _) (kcell g4 (q1 _) (by simp; omega)) (by omega)
    have tt2 : ∀ o : Obj, (w4.alloc o).cell? ⟨w2.heap.size, 2, none⟩ = some (.bool s) := fun o => kcell (grown_alloc _ _) (kcell g4 (q2 _) (by simp; omega)) (by omega)
    go_wp2_with fail
    go_region_held3 (fun w' => w4.heap.size < w'.heap.size ∧ w'.cell? ⟨w2.heap.size, 0, none⟩ = some (.int .i64 t) ∧ w'.cell? ⟨w2.heap.size, 1, none⟩ = some (.int .i64 n) ∧ w'.cell? ⟨w2.heap.size, 2, none⟩ = some (.bool s) ∧ w'.cell? ⟨w3.heap.size, 0, none⟩ = some (.int .i64 p) ∧ w'.cell? ⟨w3.heap.size, 1, none⟩ = some (.int .i64 q) ∧ w'.cell? ⟨w3.heap.size, 2, none⟩ = some (.bool z) ∧ w'.cell? ⟨w4.heap.size, 0, none⟩ = some (.int .i64 p) ∧ w'.cell? ⟨w4.heap.size, 1, none⟩ = some (.int .i64 q) ∧ w'.cell? ⟨w4.heap.size, 2, none⟩ = some (.bool z))
      (first
        | (refine ⟨?_, tt0 _, tt1 _, tt2 _, x0 _, x1 _, x2 _, ?_, ?_, ?_⟩ <;> simp [go_sem])
        | go_keep
        | exact keepT (by omega) (by omega) (by assumption) (by assumption))
      (first
        | (go_at_call 12; refine (C5.out _).mono ?_; rintro e w5 ⟨rfl, g5⟩)
        | (go_at_call 13; refine (C6.out _).mono ?_; rintro e w6 ⟨rfl, g6⟩)
        | (go_at_call 14; refine (knownt_any _).mono ?_; rintro e w7 ⟨rfl, g7⟩))
    go_wp2
    go_ret
    exact ⟨rfl, below_of_grown (((g1.trans' g2).trans' (((grown_alloc _ _).trans' (grown_alloc _ _)).trans' g3)).trans' ((((grown_alloc _ _).trans' g4).trans' (((grown_alloc _ _).trans' (grown_drew1 _)).trans' g5)).trans' (g6.trans' g7)))⟩
  · have c3 := fun w : World => insert_any t n s k (c) w ht hn (by unfold i64B; omega) (by unfold maxLen; omega)
    have c4 := fun w : World => insertr_any t n s k (c) w ht hn (by unfold i64B; omega) (by unfold maxLen; omega)
    have c5 := fun w : World => valid_any t n s w
    have c6 := fun w : World => validr_any t n s w
    generalize insR t n s k (c) = r at *
    obtain ⟨p, q, z, f⟩ := r
    generalize valE t n = vv at *
    simp only [tvr] at c3 c4
    have C3 := Lib.hid c3
    have C4 := Lib.hid c4
    have C5 := Lib.hid c5
    have C6 := Lib.hid c6
    clear c3 c4 c5 c6 ht hn
    refine (C3.out _).mono ?_
    rintro e w3 ⟨rfl, g3⟩
    have hz3 : w2.heap.size + 1 + 1 ≤ w3.heap.size := by simpa using g3.size
    have t0 : w3.cell? ⟨w2.heap.size, 0, none⟩ = some (.int .i64 t) := kcell g3 (by simp [go_sem]) (by simp; try omega)
    have t1 : w3.cell? ⟨w2.heap.size, 1, none⟩ = some (.int .i64 n) := kcell g3 (by simp [go_sem]) (by simp; try omega)
    have t2 : w3.cell? ⟨w2.heap.size, 2, none⟩ = some (.bool s) := kcell g3 (by simp [go_sem]) (by simp; try omega)
    have q0 : ∀ o : Obj, (w3.alloc o).cell? ⟨w2.heap.size, 0, none⟩ = some (.int .i64 t) := fun o => kcell (grown_alloc _ _) t0 (by omega)
    have q1 : ∀ o : Obj, (w3.alloc o).cell? ⟨w2.heap.size, 1, none⟩ = some (.int .i64 n) := fun o => kcell (grown_alloc _ _) t1 (by omega)
    have q2 : ∀ o : Obj, (w3.alloc o).cell? ⟨w2.heap.size, 2, none⟩ = some (.bool s) := fun o => kcell (grown_alloc _ _) t2 (by omega)
    have r0 : ∀ o : Obj, (w3.alloc o).cell? ⟨w2.heap.size + 1, 0, none⟩ = some (.string k) := fun o => kcell (grown_alloc _ _) (kcell g3 (by simp [go_sem]) (by simp; try omega)) (by omega)
    have r1 : ∀ o : Obj, (w3.alloc o).cell? ⟨w2.heap.size + 1, 1, none⟩ = some (.int .i64 (c)) := fun o => kcell (grown_alloc _ _) (kcell g3 (by simp [go_sem]) (by simp; try omega)) (by omega)
    go_wp2_with fail
    refine (C4.out _).mono ?_
    rintro e w4 ⟨rfl, g4⟩
    have hz4 : w3.heap.size + 1 ≤ w4.heap.size := by simpa using g4.size
    have x0 : ∀ o : Obj, (w4.alloc o).cell? ⟨w3.heap.size, 0, none⟩ = some (.int .i64 p) := fun o => kcell (grown_alloc _ _) (kcell g4 (by simp [go_sem]) (by simp)) (by omega)
    have x1 : ∀ o : Obj, (w4.alloc o).cell? ⟨w3.heap.size, 1, none⟩ = some (.int .i64 q) := fun o => kcell (grown_alloc _ _) (kcell g4 (by simp [go_sem]) (by simp)) (by omega)
    have x2 : ∀ o : Obj, (w4.alloc o).cell? ⟨w3.heap.size, 2, none⟩ = some (.bool z) := fun o => kcell (grown_alloc _ _) (kcell g4 (by simp [go_sem]) (by simp)) (by omega)
    have tt0 : ∀ o : Obj, (w4.alloc o).cell? ⟨w2.heap.size, 0, none⟩ = some (.int .i64 t) := fun o => kcell (grown_alloc _ _) (kcell g4 (q0 _) (by simp; omega)) (by omega)
    have tt1 : ∀ o : Obj, (w4.alloc o).cell? ⟨w2.heap.size, 1, none⟩ = some (.int .i64 n) := fun o => kcell (grown_alloc _ _) (kcell g4 (q1 _) (by simp; omega)) (by omega)
    have tt2 : ∀ o : Obj, (w4.alloc o).cell? ⟨w2.heap.size, 2, none⟩ = some (.bool s) := fun o => kcell (grown_alloc _ _) (kcell g4 (q2 _) (by simp; omega)) (by omega)
    go_wp2_with fail
    go_region_held3 (fun w' => w4.heap.size < w'.heap.size ∧ w'.cell? ⟨w2.heap.size, 0, none⟩ = some (.int .i64 t) ∧ w'.cell? ⟨w2.heap.size, 1, none⟩ = some (.int .i64 n) ∧ w'.cell? ⟨w2.heap.size, 2, none⟩ = some (.bool s) ∧ w'.cell? ⟨w3.heap.size, 0, none⟩ = some (.int .i64 p) ∧ w'.cell? ⟨w3.heap.size, 1, none⟩ = some (.int .i64 q) ∧ w'.cell? ⟨w3.heap.size, 2, none⟩ = some (.bool z) ∧ w'.cell? ⟨w4.heap.size, 0, none⟩ = some (.int .i64 p) ∧ w'.cell? ⟨w4.heap.size, 1, none⟩ = some (.int .i64 q) ∧ w'.cell? ⟨w4.heap.size, 2, none⟩ = some (.bool z))
      (first
        | (refine ⟨?_, tt0 _, tt1 _, tt2 _, x0 _, x1 _, x2 _, ?_, ?_, ?_⟩ <;> simp [go_sem])
        | go_keep
        | exact keepT (by omega) (by omega) (by assumption) (by assumption))
      (first
        | (go_at_call 12; refine (C5.out _).mono ?_; rintro e w5 ⟨rfl, g5⟩)
        | (go_at_call 13; refine (C6.out _).mono ?_; rintro e w6 ⟨rfl, g6⟩)
        | (go_at_call 14; refine (knownt_any _).mono ?_; rintro e w7 ⟨rfl, g7⟩))
    go_wp2
    go_ret
    exact ⟨rfl, below_of_grown (((g1.trans' g2).trans' (((grown_alloc _ _).trans' (grown_alloc _ _)).trans' g3)).trans' ((((grown_alloc _ _).trans' g4).trans' (((grown_alloc _ _).trans' (grown_drew1 _)).trans' g5)).trans' (g6.trans' g7)))⟩
end Go.Proofs.Ytobefdadlflegaa
