/- The walk of TallyGroups. -/
import Derived.Test.YtobefdadlflegaaTallyF
import Derived.Test.YtobefdadlflegaaTallyLaw
namespace Go.Proofs.Ytobefdadlflegaa
open Go.RowKit Go.ChangeShapes Go.WideShapes
set_option linter.unusedVariables false
set_option linter.unusedSimpArgs false
theorem mrgR_i64 (t n : Int) (s : Bool) (a b : Int) (u : Bool) : i64B (mrgR t n s a b u).1 ∧ i64B (mrgR t n s a b u).2.1 := by
  unfold mrgR i64B addS; (repeat' split) <;> simp <;> omega
theorem groups_law (t n : Int) (s : Bool) (a b : Int) (u : Bool) (c d : Int) (v : Bool) : valE t n = 0 → valE a b = 0 → valE c d = 0 →
    (mrgR t n s a b u).2.2.2 = 0 ∧ (mrgR a b u c d v).2.2.2 = 0
      ∧ mrgR (mrgR t n s a b u).1 (mrgR t n s a b u).2.1 (mrgR t n s a b u).2.2.1 c d v = mrgR t n s (mrgR a b u c d v).1 (mrgR a b u c d v).2.1 (mrgR a b u c d v).2.2.1
      ∧ (mrgR t n s (mrgR a b u c d v).1 (mrgR a b u c d v).2.1 (mrgR a b u c d v).2.2.1).2.2.2 = 0 := by
  intro h1 h2 h3
  rw [mrgR_ok s u h1 h2, mrgR_ok u v h2 h3]
  refine ⟨rfl, rfl, mrg_assoc s u v h1 h2 h3, ?_⟩
  rw [mrgR_ok _ _ h1 (valE_sum h2 h3)]
set_option maxRecDepth 100000 in
set_option maxHeartbeats 3200000 in
theorem TallyGroups_walk (a0 a1 a2 : Int) (w : World) (h0 : (Lit.int .i64 a0).wf = true) (h1 : (Lit.int .i64 a1).wf = true) (h2 : (Lit.int .i64 a2).wf = true) :
    Calls Try.prog 6 #[.int .i64 a0, .int .i64 a1, .int .i64 a2] w fun e w' => e = .returned (.bool true) ∧ Below w.heap.size w w' := by
  have i0 := bounds_i64 h0
  have i1 := bounds_i64 h1
  have i2 := bounds_i64 h2
  have c1 := fun w : World => made_any a0 (a0 / 128) w i0 (by unfold i64B; omega)
  have c2 := fun w : World => made_any a1 (a1 / 512) w i1 (by unfold i64B; omega)
  have c3 := fun w : World => made_any a2 (a2 / 32) w i2 (by unfold i64B; omega)
  have C1 := Lib.hid c1
  have C2 := Lib.hid c2
  have C3 := Lib.hid c3
  clear c1 c2 c3 h0 h1 h2
  go_enter Try.func6, Try.ntmps6
  go_wp2_with fail
  refine (C1.out _).mono ?_
  rintro e w1 ⟨t, n, s, rfl, ht, hn, g1⟩
  go_wp2_with fail
  refine (C2.out _).mono ?_
  rintro e w2 ⟨a, b, u, rfl, ha, hb, g2⟩
  go_wp2_with fail
  refine (C3.out _).mono ?_
  rintro e w3 ⟨c, d, v, rfl, hc, hd, g3⟩
  have m1 := fun w : World => merge_any t n s a b u w ht hn ha hb
  obtain ⟨bp, bq⟩ := mrgR_i64 t n s a b u
  have m3 := fun w : World => merge_any a b u c d v w ha hb hc hd
  obtain ⟨br, bs⟩ := mrgR_i64 a b u c d v
  have v1 := fun w : World => valid_any t n s w
  have v2 := fun w : World => valid_any a b u w
  have v3 := fun w : World => valid_any c d v w
  have hlaw := groups_law t n s a b u c d v
  generalize mrgR t n s a b u = r1 at *
  obtain ⟨p0, p1, p2, e⟩ := r1
  generalize mrgR a b u c d v = r3 at *
  obtain ⟨r0, r1, r2, g⟩ := r3
  have m2 := fun w : World => merge_any p0 p1 p2 c d v w bp bq hc hd
  have m4 := fun w : World => merge_any t n s r0 r1 r2 w ht hn br bs
  simp only at hlaw
  generalize mrgR p0 p1 p2 c d v = r2' at *
  obtain ⟨q0, q1, q2, f⟩ := r2'
  generalize mrgR t n s r0 r1 r2 = r4 at *
  obtain ⟨s0, s1, s2, h⟩ := r4
  generalize valE t n = ex at *
  generalize valE a b = ey at *
  generalize valE c d = ez at *
  simp only [tvr] at m1 m2 m3 m4
  have M1 := Lib.hid m1
  have M2 := Lib.hid m2
  have M3 := Lib.hid m3
  have M4 := Lib.hid m4
  have V1 := Lib.hid v1
  have V2 := Lib.hid v2
  have V3 := Lib.hid v3
  have HL := Lib.hid hlaw
  clear m1 m2 m3 m4 v1 v2 v3 hlaw ht hn ha hb hc hd bp bq br bs i0 i1 i2
  go_wp2_with fail
  refine (M1.out _).mono ?_
  rintro e' w4 ⟨rfl, g4⟩
  have hz4 : w3.heap.size + 1 + 1 + 1 ≤ w4.heap.size := by simpa using g4.size
  have x4_0_0 : ∀ o : Obj, (w4.alloc o).cell? ⟨w3.heap.size, 0, none⟩ = some (.int .i64 t) := fun o => kcell (grown_alloc _ _) (kcell g4 (by simp [go_sem]) (by simp; try omega)) (by omega)
  have x4_0_1 : ∀ o : Obj, (w4.alloc o).cell? ⟨w3.heap.size, 1, none⟩ = some (.int .i64 n) := fun o => kcell (grown_alloc _ _) (kcell g4 (by simp [go_sem]) (by simp; try omega)) (by omega)
  have x4_0_2 : ∀ o : Obj, (w4.alloc o).cell? ⟨w3.heap.size, 2, none⟩ = some (.bool s) := fun o => kcell (grown_alloc _ _) (kcell g4 (by simp [go_sem]) (by simp; try omega)) (by omega)
  have x4_1_0 : ∀ o : Obj, (w4.alloc o).cell? ⟨w3.heap.size + 1, 0, none⟩ = some (.int .i64 a) := fun o => kcell (grown_alloc _ _) (kcell g4 (by simp [go_sem]) (by simp; try omega)) (by omega)
  have x4_1_1 : ∀ o : Obj, (w4.alloc o).cell? ⟨w3.heap.size + 1, 1, none⟩ = some (.int .i64 b) := fun o => kcell (grown_alloc _ _) (kcell g4 (by simp [go_sem]) (by simp; try omega)) (by omega)
  have x4_1_2 : ∀ o : Obj, (w4.alloc o).cell? ⟨w3.heap.size + 1, 2, none⟩ = some (.bool u) := fun o => kcell (grown_alloc _ _) (kcell g4 (by simp [go_sem]) (by simp; try omega)) (by omega)
  have x4_2_0 : ∀ o : Obj, (w4.alloc o).cell? ⟨w3.heap.size + 1 + 1, 0, none⟩ = some (.int .i64 c) := fun o => kcell (grown_alloc _ _) (kcell g4 (by simp [go_sem]) (by simp; try omega)) (by omega)
  have x4_2_1 : ∀ o : Obj, (w4.alloc o).cell? ⟨w3.heap.size + 1 + 1, 1, none⟩ = some (.int .i64 d) := fun o => kcell (grown_alloc _ _) (kcell g4 (by simp [go_sem]) (by simp; try omega)) (by omega)
  have x4_2_2 : ∀ o : Obj, (w4.alloc o).cell? ⟨w3.heap.size + 1 + 1, 2, none⟩ = some (.bool v) := fun o => kcell (grown_alloc _ _) (kcell g4 (by simp [go_sem]) (by simp; try omega)) (by omega)
  go_wp2_with fail
  refine (M2.out _).mono ?_
  rintro e' w5 ⟨rfl, g5⟩
  have hz5 : w4.heap.size + 1 ≤ w5.heap.size := by simpa using g5.size
  have x5_0_0 : ∀ o : Obj, (w5.alloc o).cell? ⟨w3.heap.size, 0, none⟩ = some (.int .i64 t) := fun o => kcell (grown_alloc _ _) (kcell g5 (x4_0_0 _) (by simp; try omega)) (by omega)
  have x5_0_1 : ∀ o : Obj, (w5.alloc o).cell? ⟨w3.heap.size, 1, none⟩ = some (.int .i64 n) := fun o => kcell (grown_alloc _ _) (kcell g5 (x4_0_1 _) (by simp; try omega)) (by omega)
  have x5_0_2 : ∀ o : Obj, (w5.alloc o).cell? ⟨w3.heap.size, 2, none⟩ = some (.bool s) := fun o => kcell (grown_alloc _ _) (kcell g5 (x4_0_2 _) (by simp; try omega)) (by omega)
  have x5_1_0 : ∀ o : Obj, (w5.alloc o).cell? ⟨w3.heap.size + 1, 0, none⟩ = some (.int .i64 a) := fun o => kcell (grown_alloc _ _) (kcell g5 (x4_1_0 _) (by simp; try omega)) (by omega)
  have x5_1_1 : ∀ o : Obj, (w5.alloc o).cell? ⟨w3.heap.size + 1, 1, none⟩ = some (.int .i64 b) := fun o => kcell (grown_alloc _ _) (kcell g5 (x4_1_1 _) (by simp; try omega)) (by omega)
  have x5_1_2 : ∀ o : Obj, (w5.alloc o).cell? ⟨w3.heap.size + 1, 2, none⟩ = some (.bool u) := fun o => kcell (grown_alloc _ _) (kcell g5 (x4_1_2 _) (by simp; try omega)) (by omega)
  have x5_2_0 : ∀ o : Obj, (w5.alloc o).cell? ⟨w3.heap.size + 1 + 1, 0, none⟩ = some (.int .i64 c) := fun o => kcell (grown_alloc _ _) (kcell g5 (x4_2_0 _) (by simp; try omega)) (by omega)
  have x5_2_1 : ∀ o : Obj, (w5.alloc o).cell? ⟨w3.heap.size + 1 + 1, 1, none⟩ = some (.int .i64 d) := fun o => kcell (grown_alloc _ _) (kcell g5 (x4_2_1 _) (by simp; try omega)) (by omega)
  have x5_2_2 : ∀ o : Obj, (w5.alloc o).cell? ⟨w3.heap.size + 1 + 1, 2, none⟩ = some (.bool v) := fun o => kcell (grown_alloc _ _) (kcell g5 (x4_2_2 _) (by simp; try omega)) (by omega)
  have x5_3_0 : ∀ o : Obj, (w5.alloc o).cell? ⟨w4.heap.size, 0, none⟩ = some (.int .i64 p0) := fun o => kcell (grown_alloc _ _) (kcell g5 (by simp [go_sem]) (by simp; try omega)) (by omega)
  have x5_3_1 : ∀ o : Obj, (w5.alloc o).cell? ⟨w4.heap.size, 1, none⟩ = some (.int .i64 p1) := fun o => kcell (grown_alloc _ _) (kcell g5 (by simp [go_sem]) (by simp; try omega)) (by omega)
  have x5_3_2 : ∀ o : Obj, (w5.alloc o).cell? ⟨w4.heap.size, 2, none⟩ = some (.bool p2) := fun o => kcell (grown_alloc _ _) (kcell g5 (by simp [go_sem]) (by simp; try omega)) (by omega)
  clear x4_0_0 x4_0_1 x4_0_2 x4_1_0 x4_1_1 x4_1_2 x4_2_0 x4_2_1 x4_2_2
  go_wp2_with fail
  refine (M3.out _).mono ?_
  rintro e' w6 ⟨rfl, g6⟩
  have hz6 : w5.heap.size + 1 ≤ w6.heap.size := by simpa using g6.size
  have x6_0_0 : ∀ o : Obj, (w6.alloc o).cell? ⟨w3.heap.size, 0, none⟩ = some (.int .i64 t) := fun o => kcell (grown_alloc _ _) (kcell g6 (x5_0_0 _) (by simp; try omega)) (by omega)
  have x6_0_1 : ∀ o : Obj, (w6.alloc o).cell? ⟨w3.heap.size, 1, none⟩ = some (.int .i64 n) := fun o => kcell (grown_alloc _ _) (kcell g6 (x5_0_1 _) (by simp; try omega)) (by omega)
  have x6_0_2 : ∀ o : Obj, (w6.alloc o).cell? ⟨w3.heap.size, 2, none⟩ = some (.bool s) := fun o => kcell (grown_alloc _ _) (kcell g6 (x5_0_2 _) (by simp; try omega)) (by omega)
  have x6_1_0 : ∀ o : Obj, (w6.alloc o).cell? ⟨w3.heap.size + 1, 0, none⟩ = some (.int .i64 a) := fun o => kcell (grown_alloc _ _) (kcell g6 (x5_1_0 _) (by simp; try omega)) (by omega)
  have x6_1_1 : ∀ o : Obj, (w6.alloc o).cell? ⟨w3.heap.size + 1, 1, none⟩ = some (.int .i64 b) := fun o => kcell (grown_alloc _ _) (kcell g6 (x5_1_1 _) (by simp; try omega)) (by omega)
  have x6_1_2 : ∀ o : Obj, (w6.alloc o).cell? ⟨w3.heap.size + 1, 2, none⟩ = some (.bool u) := fun o => kcell (grown_alloc _ _) (kcell g6 (x5_1_2 _) (by simp; try omega)) (by omega)
  have x6_2_0 : ∀ o : Obj, (w6.alloc o).cell? ⟨w3.heap.size + 1 + 1, 0, none⟩ = some (.int .i64 c) := fun o => kcell (grown_alloc _ _) (kcell g6 (x5_2_0 _) (by simp; try omega)) (by omega)
  have x6_2_1 : ∀ o : Obj, (w6.alloc o).cell? ⟨w3.heap.size + 1 + 1, 1, none⟩ = some (.int .i64 d) := fun o => kcell (grown_alloc _ _) (kcell g6 (x5_2_1 _) (by simp; try omega)) (by omega)
  have x6_2_2 : ∀ o : Obj, (w6.alloc o).cell? ⟨w3.heap.size + 1 + 1, 2, none⟩ = some (.bool v) := fun o => kcell (grown_alloc _ _) (kcell g6 (x5_2_2 _) (by simp; try omega)) (by omega)
  have x6_3_0 : ∀ o : Obj, (w6.alloc o).cell? ⟨w4.heap.size, 0, none⟩ = some (.int .i64 p0) := fun o => kcell (grown_alloc _ _) (kcell g6 (x5_3_0 _) (by simp; try omega)) (by omega)
  have x6_3_1 : ∀ o : Obj, (w6.alloc o).cell? ⟨w4.heap.size, 1, none⟩ = some (.int .i64 p1) := fun o => kcell (grown_alloc _ _) (kcell g6 (x5_3_1 _) (by simp; try omega)) (by omega)
  have x6_3_2 : ∀ o : Obj, (w6.alloc o).cell? ⟨w4.heap.size, 2, none⟩ = some (.bool p2) := fun o => kcell (grown_alloc _ _) (kcell g6 (x5_3_2 _) (by simp; try omega)) (by omega)
  have x6_4_0 : ∀ o : Obj, (w6.alloc o).cell? ⟨w5.heap.size, 0, none⟩ = some (.int .i64 q0) := fun o => kcell (grown_alloc _ _) (kcell g6 (by simp [go_sem]) (by simp; try omega)) (by omega)
  have x6_4_1 : ∀ o : Obj, (w6.alloc o).cell? ⟨w5.heap.size, 1, none⟩ = some (.int .i64 q1) := fun o => kcell (grown_alloc _ _) (kcell g6 (by simp [go_sem]) (by simp; try omega)) (by omega)
  have x6_4_2 : ∀ o : Obj, (w6.alloc o).cell? ⟨w5.heap.size, 2, none⟩ = some (.bool q2) := fun o => kcell (grown_alloc _ _) (kcell g6 (by simp [go_sem]) (by simp; try omega)) (by omega)
  clear x5_0_0 x5_0_1 x5_0_2 x5_1_0 x5_1_1 x5_1_2 x5_2_0 x5_2_1 x5_2_2 x5_3_0 x5_3_1 x5_3_2
  go_wp2_with fail
  refine (M4.out _).mono ?_
  rintro e' w7 ⟨rfl, g7⟩
  have hz7 : w6.heap.size + 1 ≤ w7.heap.size := by simpa using g7.size
  have x7_0_0 : ∀ o : Obj, (w7.alloc o).cell? ⟨w3.heap.size, 0, none⟩ = some (.int .i64 t) := fun o => kcell (grown_alloc _ _) (kcell g7 (x6_0_0 _) (by simp; try omega)) (by omega)
  have x7_0_1 : ∀ o : Obj, (w7.alloc o).cell? ⟨w3.heap.size, 1, none⟩ = some (.int .i64 n) := fun o => kcell (grown_alloc _ _) (kcell g7 (x6_0_1 _) (by simp; try omega)) (by omega)
  have x7_0_2 : ∀ o : Obj, (w7.alloc o).cell? ⟨w3.heap.size, 2, none⟩ = some (.bool s) := fun o => kcell (grown_alloc _ _) (kcell g7 (x6_0_2 _) (by simp; try omega)) (by omega)
  have x7_1_0 : ∀ o : Obj, (w7.alloc o).cell? ⟨w3.heap.size + 1, 0, none⟩ = some (.int .i64 a) := fun o => kcell (grown_alloc _ _) (kcell g7 (x6_1_0 _) (by simp; try omega)) (by omega)
  have x7_1_1 : ∀ o : Obj, (w7.alloc o).cell? ⟨w3.heap.size + 1, 1, none⟩ = some (.int .i64 b) := fun o => kcell (grown_alloc _ _) (kcell g7 (x6_1_1 _) (by simp; try omega)) (by omega)
  have x7_1_2 : ∀ o : Obj, (w7.alloc o).cell? ⟨w3.heap.size + 1, 2, none⟩ = some (.bool u) := fun o => kcell (grown_alloc _ _) (kcell g7 (x6_1_2 _) (by simp; try omega)) (by omega)
  have x7_2_0 : ∀ o : Obj, (w7.alloc o).cell? ⟨w3.heap.size + 1 + 1, 0, none⟩ = some (.int .i64 c) := fun o => kcell (grown_alloc _ _) (kcell g7 (x6_2_0 _) (by simp; try omega)) (by omega)
  have x7_2_1 : ∀ o : Obj, (w7.alloc o).cell? ⟨w3.heap.size + 1 + 1, 1, none⟩ = some (.int .i64 d) := fun o => kcell (grown_alloc _ _) (kcell g7 (x6_2_1 _) (by simp; try omega)) (by omega)
  have x7_2_2 : ∀ o : Obj, (w7.alloc o).cell? ⟨w3.heap.size + 1 + 1, 2, none⟩ = some (.bool v) := fun o => kcell (grown_alloc _ _) (kcell g7 (x6_2_2 _) (by simp; try omega)) (by omega)
  have x7_3_0 : ∀ o : Obj, (w7.alloc o).cell? ⟨w4.heap.size, 0, none⟩ = some (.int .i64 p0) := fun o => kcell (grown_alloc _ _) (kcell g7 (x6_3_0 _) (by simp; try omega)) (by omega)
  have x7_3_1 : ∀ o : Obj, (w7.alloc o).cell? ⟨w4.heap.size, 1, none⟩ = some (.int .i64 p1) := fun o => kcell (grown_alloc _ _) (kcell g7 (x6_3_1 _) (by simp; try omega)) (by omega)
  have x7_3_2 : ∀ o : Obj, (w7.alloc o).cell? ⟨w4.heap.size, 2, none⟩ = some (.bool p2) := fun o => kcell (grown_alloc _ _) (kcell g7 (x6_3_2 _) (by simp; try omega)) (by omega)
  have x7_4_0 : ∀ o : Obj, (w7.alloc o).cell? ⟨w5.heap.size, 0, none⟩ = some (.int .i64 q0) := fun o => kcell (grown_alloc _ _) (kcell g7 (x6_4_0 _) (by simp; try omega)) (by omega)
  have x7_4_1 : ∀ o : Obj, (w7.alloc o).cell? ⟨w5.heap.size, 1, none⟩ = some (.int .i64 q1) := fun o => kcell (grown_alloc _ _) (kcell g7 (x6_4_1 _) (by simp; try omega)) (by omega)
  have x7_4_2 : ∀ o : Obj, (w7.alloc o).cell? ⟨w5.heap.size, 2, none⟩ = some (.bool q2) := fun o => kcell (grown_alloc _ _) (kcell g7 (x6_4_2 _) (by simp; try omega)) (by omega)
  have x7_5_0 : ∀ o : Obj, (w7.alloc o).cell? ⟨w6.heap.size, 0, none⟩ = some (.int .i64 r0) := fun o => kcell (grown_alloc _ _) (kcell g7 (by simp [go_sem]) (by simp; try omega)) (by omega)
  have x7_5_1 : ∀ o : Obj, (w7.alloc o).cell? ⟨w6.heap.size, 1, none⟩ = some (.int .i64 r1) := fun o => kcell (grown_alloc _ _) (kcell g7 (by simp [go_sem]) (by simp; try omega)) (by omega)
  have x7_5_2 : ∀ o : Obj, (w7.alloc o).cell? ⟨w6.heap.size, 2, none⟩ = some (.bool r2) := fun o => kcell (grown_alloc _ _) (kcell g7 (by simp [go_sem]) (by simp; try omega)) (by omega)
  clear x6_0_0 x6_0_1 x6_0_2 x6_1_0 x6_1_1 x6_1_2 x6_2_0 x6_2_1 x6_2_2 x6_3_0 x6_3_1 x6_3_2 x6_4_0 x6_4_1 x6_4_2
  go_wp2_with fail
  refine (V1.out _).mono ?_
  rintro e' w8 ⟨rfl, g8⟩
  have hz8 : w7.heap.size + 1 ≤ w8.heap.size := by simpa using g8.size
  have x8_1_0 : w8.cell? ⟨w3.heap.size + 1, 0, none⟩ = some (.int .i64 a) := kcell g8 (x7_1_0 _) (by simp; omega)
  have x8_1_1 : w8.cell? ⟨w3.heap.size + 1, 1, none⟩ = some (.int .i64 b) := kcell g8 (x7_1_1 _) (by simp; omega)
  have x8_1_2 : w8.cell? ⟨w3.heap.size + 1, 2, none⟩ = some (.bool u) := kcell g8 (x7_1_2 _) (by simp; omega)
  have x8_2_0 : w8.cell? ⟨w3.heap.size + 1 + 1, 0, none⟩ = some (.int .i64 c) := kcell g8 (x7_2_0 _) (by simp; omega)
  have x8_2_1 : w8.cell? ⟨w3.heap.size + 1 + 1, 1, none⟩ = some (.int .i64 d) := kcell g8 (x7_2_1 _) (by simp; omega)
  have x8_2_2 : w8.cell? ⟨w3.heap.size + 1 + 1, 2, none⟩ = some (.bool v) := kcell g8 (x7_2_2 _) (by simp; omega)
  have x8_4_0 : w8.cell? ⟨w5.heap.size, 0, none⟩ = some (.int .i64 q0) := kcell g8 (x7_4_0 _) (by simp; omega)
  have x8_4_1 : w8.cell? ⟨w5.heap.size, 1, none⟩ = some (.int .i64 q1) := kcell g8 (x7_4_1 _) (by simp; omega)
  have x8_4_2 : w8.cell? ⟨w5.heap.size, 2, none⟩ = some (.bool q2) := kcell g8 (x7_4_2 _) (by simp; omega)
  have x8_6_0 : w8.cell? ⟨w7.heap.size, 0, none⟩ = some (.int .i64 s0) := kcell g8 (by simp [go_sem]) (by simp)
  have x8_6_1 : w8.cell? ⟨w7.heap.size, 1, none⟩ = some (.int .i64 s1) := kcell g8 (by simp [go_sem]) (by simp)
  have x8_6_2 : w8.cell? ⟨w7.heap.size, 2, none⟩ = some (.bool s2) := kcell g8 (by simp [go_sem]) (by simp)
  have hz9 : w3.heap.size + 1 + 1 < w8.heap.size := by omega
  have G8 := Lib.hid ((((g1.trans' g2).trans' g3).trans' ((((grown_alloc _ _).trans' (grown_alloc _ _)).trans' (grown_alloc _ _)).trans' g4)).trans' (((((grown_alloc _ _).trans' g5).trans' ((grown_alloc _ _).trans' g6)).trans' ((grown_alloc _ _).trans' g7)).trans' ((grown_alloc _ _).trans' g8)))
  by_cases hx : ex = 0
  · have bx : (ex != 0) = false := by rw [bne_eq_false_iff_eq]; exact hx
    go_wp2_with fail
    refine (V2.out _).mono ?_
    rintro e' w9 ⟨rfl, g9⟩
    have hzz9 := g9.size
    have x9_1_0 : w9.cell? ⟨w3.heap.size + 1, 0, none⟩ = some (.int .i64 a) := kcell g9 x8_1_0 (by omega)
    have x9_1_1 : w9.cell? ⟨w3.heap.size + 1, 1, none⟩ = some (.int .i64 b) := kcell g9 x8_1_1 (by omega)
    have x9_1_2 : w9.cell? ⟨w3.heap.size + 1, 2, none⟩ = some (.bool u) := kcell g9 x8_1_2 (by omega)
    have x9_2_0 : w9.cell? ⟨w3.heap.size + 1 + 1, 0, none⟩ = some (.int .i64 c) := kcell g9 x8_2_0 (by omega)
    have x9_2_1 : w9.cell? ⟨w3.heap.size + 1 + 1, 1, none⟩ = some (.int .i64 d) := kcell g9 x8_2_1 (by omega)
    have x9_2_2 : w9.cell? ⟨w3.heap.size + 1 + 1, 2, none⟩ = some (.bool v) := kcell g9 x8_2_2 (by omega)
    have x9_4_0 : w9.cell? ⟨w5.heap.size, 0, none⟩ = some (.int .i64 q0) := kcell g9 x8_4_0 (by omega)
    have x9_4_1 : w9.cell? ⟨w5.heap.size, 1, none⟩ = some (.int .i64 q1) := kcell g9 x8_4_1 (by omega)
    have x9_4_2 : w9.cell? ⟨w5.heap.size, 2, none⟩ = some (.bool q2) := kcell g9 x8_4_2 (by omega)
    have x9_6_0 : w9.cell? ⟨w7.heap.size, 0, none⟩ = some (.int .i64 s0) := kcell g9 x8_6_0 (by omega)
    have x9_6_1 : w9.cell? ⟨w7.heap.size, 1, none⟩ = some (.int .i64 s1) := kcell g9 x8_6_1 (by omega)
    have x9_6_2 : w9.cell? ⟨w7.heap.size, 2, none⟩ = some (.bool s2) := kcell g9 x8_6_2 (by omega)
    by_cases hy : ey = 0
    · have by' : (ey != 0) = false := by rw [bne_eq_false_iff_eq]; exact hy
      go_wp2_with fail
      refine (V3.out _).mono ?_
      rintro e' w10 ⟨rfl, g10⟩
      have hzz10 := g10.size
      have x10_1_0 : w10.cell? ⟨w3.heap.size + 1, 0, none⟩ = some (.int .i64 a) := kcell g10 x9_1_0 (by omega)
      have x10_1_1 : w10.cell? ⟨w3.heap.size + 1, 1, none⟩ = some (.int .i64 b) := kcell g10 x9_1_1 (by omega)
      have x10_1_2 : w10.cell? ⟨w3.heap.size + 1, 2, none⟩ = some (.bool u) := kcell g10 x9_1_2 (by omega)
      have x10_2_0 : w10.cell? ⟨w3.heap.size + 1 + 1, 0, none⟩ = some (.int .i64 c) := kcell g10 x9_2_0 (by omega)
      have x10_2_1 : w10.cell? ⟨w3.heap.size + 1 + 1, 1, none⟩ = some (.int .i64 d) := kcell g10 x9_2_1 (by omega)
      have x10_2_2 : w10.cell? ⟨w3.heap.size + 1 + 1, 2, none⟩ = some (.bool v) := kcell g10 x9_2_2 (by omega)
      have x10_4_0 : w10.cell? ⟨w5.heap.size, 0, none⟩ = some (.int .i64 q0) := kcell g10 x9_4_0 (by omega)
      have x10_4_1 : w10.cell? ⟨w5.heap.size, 1, none⟩ = some (.int .i64 q1) := kcell g10 x9_4_1 (by omega)
      have x10_4_2 : w10.cell? ⟨w5.heap.size, 2, none⟩ = some (.bool q2) := kcell g10 x9_4_2 (by omega)
      have x10_6_0 : w10.cell? ⟨w7.heap.size, 0, none⟩ = some (.int .i64 s0) := kcell g10 x9_6_0 (by omega)
      have x10_6_1 : w10.cell? ⟨w7.heap.size, 1, none⟩ = some (.int .i64 s1) := kcell g10 x9_6_1 (by omega)
      have x10_6_2 : w10.cell? ⟨w7.heap.size, 2, none⟩ = some (.bool s2) := kcell g10 x9_6_2 (by omega)
      by_cases hq : ez = 0
      · have bz : (ez != 0) = false := by rw [bne_eq_false_iff_eq]; exact hq
        obtain ⟨rfl, rfl, hqs, rfl⟩ := HL.out hx hy hq
        simp only [Prod.mk.injEq] at hqs
        obtain ⟨rfl, rfl, rfl, rfl⟩ := hqs
        go_wp2_with (go_at_call 14; refine (knownt_any _).mono ?_; rintro e' w99 ⟨rfl, g99⟩)
        go_ret
        exact ⟨rfl, below_of_grown (((G8.out.trans' g9).trans' g10).trans' g99)⟩
      · have bz : (ez != 0) = true := by rw [bne_iff_ne]; exact hq
        go_wp2_with (go_at_call 14; refine (knownt_any _).mono ?_; rintro e' w99 ⟨rfl, g99⟩)
        go_ret
        exact ⟨rfl, below_of_grown (((G8.out.trans' g9).trans' g10).trans' g99)⟩
    · have by' : (ey != 0) = true := by rw [bne_iff_ne]; exact hy
      go_wp2_with (go_at_call 14; refine (knownt_any _).mono ?_; rintro e' w99 ⟨rfl, g99⟩)
      go_ret
      exact ⟨rfl, below_of_grown ((G8.out.trans' g9).trans' g99)⟩
  · have bx : (ex != 0) = true := by rw [bne_iff_ne]; exact hx
    go_wp2_with (go_at_call 14; refine (knownt_any _).mono ?_; rintro e' w99 ⟨rfl, g99⟩)
    go_ret
    exact ⟨rfl, below_of_grown ((G8.out).trans' g99)⟩
end Go.Proofs.Ytobefdadlflegaa
