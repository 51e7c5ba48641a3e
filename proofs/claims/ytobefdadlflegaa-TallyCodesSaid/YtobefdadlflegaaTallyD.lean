/- The walks of the reference insertion and of both merges. -/
import Derived.Test.YtobefdadlflegaaTallyC
namespace Go.Proofs.Ytobefdadlflegaa
open Go.RowKit Go.ChangeShapes Go.WideShapes
set_option linter.unusedVariables false
set_option linter.unusedSimpArgs false
set_option maxRecDepth 100000 in
set_option maxHeartbeats 1600000 in
theorem merge_any (t n : Int) (s : Bool) (a b : Int) (u : Bool) (w : World) (ht : i64B t) (hn : i64B n) (ha : i64B a) (hb : i64B b) :
    Calls Try.prog 15 #[.agg #[.int .i64 t, .int .i64 n, .bool s], .agg #[.int .i64 a, .int .i64 b, .bool u]] w fun e w' => e = .returned (tvr (mrgR t n s a b u)) ∧ w.grownBy w' none := by
  have c1 := fun w : World => valid_any t n s w
  have c2 := fun w : World => valid_any a b u w
  have c3 := fun w : World => plus_any t n s a b w ht hn ha hb
  have hr : mrgR t n s a b u = if valE t n ≠ 0 then (0, 0, false, valE t n) else if valE a b ≠ 0 then (0, 0, false, valE a b) else (addS t a 4294967295, addS n b 4294967295, ((s || addB t a 4294967295 || addB n b 4294967295) || u), 0) := by
    unfold mrgR; cases s <;> cases u <;> cases addB t a 4294967295 <;> cases addB n b 4294967295 <;> rfl
  generalize valE t n = e1 at *
  generalize valE a b = e2 at *
  generalize addS t a 4294967295 = t' at *
  generalize addS n b 4294967295 = n' at *
  generalize (s || addB t a 4294967295 || addB n b 4294967295) = s' at *
  have C1 := Lib.hid c1
  have C2 := Lib.hid c2
  have C3 := Lib.hid c3
  clear c1 c2 c3
  by_cases h1 : e1 = 0
  · by_cases h2 : e2 = 0
    · have HR : Hid (mrgR t n s a b u = (t', n', s' || u, 0)) := by show _ = _; rw [hr, if_neg (by simpa using h1), if_neg (by simpa using h2)]
      have b1 : (e1 != 0) = false := by rw [bne_eq_false_iff_eq]; exact h1
      have b2 : (e2 != 0) = false := by rw [bne_eq_false_iff_eq]; exact h2
      clear hr h1 h2
      go_enter Try.func15, Try.ntmps15
      go_wp2_with fail
      refine (C1.out _).mono ?_
      rintro e w1 ⟨rfl, g1⟩
      have hz1 := g1.size
      have q0 : w1.cell? ⟨w.heap.size, 0, none⟩ = some (.int .i64 t) := kcell g1 (by simp [go_sem]) (by simp; omega)
      have q1 : w1.cell? ⟨w.heap.size, 1, none⟩ = some (.int .i64 n) := kcell g1 (by simp [go_sem]) (by simp; omega)
      have q2 : w1.cell? ⟨w.heap.size, 2, none⟩ = some (.bool s) := kcell g1 (by simp [go_sem]) (by simp; omega)
      have p0 : w1.cell? ⟨w.heap.size + 1, 0, none⟩ = some (.int .i64 a) := kcell g1 (by simp [go_sem]) (by simp)
      have p1 : w1.cell? ⟨w.heap.size + 1, 1, none⟩ = some (.int .i64 b) := kcell g1 (by simp [go_sem]) (by simp)
      have p2 : w1.cell? ⟨w.heap.size + 1, 2, none⟩ = some (.bool u) := kcell g1 (by simp [go_sem]) (by simp)
      go_wp2_with fail
      refine (C2.out _).mono ?_
      rintro e w2 ⟨rfl, g2⟩
      have hz2 := g2.size
      have r0 := kcell g2 q0 (by simp at hz1; omega)
      have r1 := kcell g2 q1 (by simp at hz1; omega)
      have r2 := kcell g2 q2 (by simp at hz1; omega)
      have o0 := kcell g2 p0 (by simp at hz1; omega)
      have o1 := kcell g2 p1 (by simp at hz1; omega)
      have o2 := kcell g2 p2 (by simp at hz1; omega)
      go_wp2_with fail
      refine (C3.out _).mono ?_
      rintro e w3 ⟨rfl, g3⟩
      have hz3 := g3.size
      have hbb : w.heap.size + 1 + 1 < w1.heap.size := by simp at hz1; omega
      have hbb2 : w.heap.size + 1 + 1 < w2.heap.size := by omega
      have z0 : w3.frozen? ⟨w.heap.size + 1 + 1, 0, none⟩ = false := kfroz g3 (kfroz g2 (kfroz g1 (by simp [go_sem]) (by simp)) hbb) hbb2
      have y0 : w3.cell? ⟨w.heap.size + 1 + 1, 0, none⟩ = some (.int .i64 0) := kcell g3 (kcell g2 (kcell g1 (by simp [go_sem]) (by simp)) hbb) hbb2
      have z1 : w3.frozen? ⟨w.heap.size + 1 + 1, 1, none⟩ = false := kfroz g3 (kfroz g2 (kfroz g1 (by simp [go_sem]) (by simp)) hbb) hbb2
      have y1 : w3.cell? ⟨w.heap.size + 1 + 1, 1, none⟩ = some (.int .i64 0) := kcell g3 (kcell g2 (kcell g1 (by simp [go_sem]) (by simp)) hbb) hbb2
      have z2 : w3.frozen? ⟨w.heap.size + 1 + 1, 2, none⟩ = false := kfroz g3 (kfroz g2 (kfroz g1 (by simp [go_sem]) (by simp)) hbb) hbb2
      have y2 : w3.cell? ⟨w.heap.size + 1 + 1, 2, none⟩ = some (.bool false) := kcell g3 (kcell g2 (kcell g1 (by simp [go_sem]) (by simp)) hbb) hbb2
      have hbb3 : w.heap.size + 1 + 1 < w3.heap.size := by omega
      have hbb4 : w3.heap.size ≠ w.heap.size + 1 + 1 := by omega
      have x2 : ∀ o : Obj, (w3.alloc o).cell? ⟨w.heap.size + 1, 2, none⟩ = some (.bool u) := fun o => kcell (grown_alloc _ _) (kcell g3 o2 (by omega)) (by omega)
      have x3 : ∀ o : Obj, (w3.alloc o).cell? ⟨w.heap.size + 1 + 1, 0, none⟩ = some (.int .i64 0) := fun o => kcell (grown_alloc _ _) y0 (by omega)
      have x6 : ∀ o : Obj, (w3.alloc o).frozen? ⟨w.heap.size + 1 + 1, 0, none⟩ = false := fun o => kfroz (grown_alloc _ _) z0 (by omega)
      have x10 : ∀ (v : Value) (o : Obj), ((w3.setCell ⟨w.heap.size + 1 + 1, 0, none⟩ v).alloc o).cell? ⟨w.heap.size + 1 + 1, 1, none⟩ = some (.int .i64 0) := fun v o => kcell (grown_alloc _ _) (by simp [go_sem, y1]) (by simp; omega)
      have x11 : ∀ (v : Value) (o : Obj), ((w3.setCell ⟨w.heap.size + 1 + 1, 0, none⟩ v).alloc o).frozen? ⟨w.heap.size + 1 + 1, 1, none⟩ = false := fun v o => kfroz (grown_alloc _ _) (by simp [go_sem, z1]) (by simp; omega)
      have x12 : ∀ (v v' : Value) (o : Obj), (((w3.setCell ⟨w.heap.size + 1 + 1, 0, none⟩ v).setCell ⟨w.heap.size + 1 + 1, 1, none⟩ v').alloc o).cell? ⟨w.heap.size + 1 + 1, 2, none⟩ = some (.bool false) := fun v v' o => kcell (grown_alloc _ _) (by simp [go_sem, y2]) (by simp; omega)
      have x13 : ∀ (v v' : Value) (o : Obj), (((w3.setCell ⟨w.heap.size + 1 + 1, 0, none⟩ v).setCell ⟨w.heap.size + 1 + 1, 1, none⟩ v').alloc o).frozen? ⟨w.heap.size + 1 + 1, 2, none⟩ = false := fun v v' o => kfroz (grown_alloc _ _) (by simp [go_sem, z2]) (by simp; omega)
      have x20 : ∀ (v0 v1 v2 : Value) (o : Obj), ((((w3.setCell ⟨w.heap.size + 1 + 1, 0, none⟩ v0).setCell ⟨w.heap.size + 1 + 1, 1, none⟩ v1).setCell ⟨w.heap.size + 1 + 1, 2, none⟩ v2).alloc o).cell? ⟨w.heap.size + 1 + 1, 0, none⟩ = some v0 := fun v0 v1 v2 o => kcell (grown_alloc _ _) (by simp [go_sem, y0, y1, y2]) (by simp; omega)
      have x21 : ∀ (v0 v1 v2 : Value) (o : Obj), ((((w3.setCell ⟨w.heap.size + 1 + 1, 0, none⟩ v0).setCell ⟨w.heap.size + 1 + 1, 1, none⟩ v1).setCell ⟨w.heap.size + 1 + 1, 2, none⟩ v2).alloc o).cell? ⟨w.heap.size + 1 + 1, 1, none⟩ = some v1 := fun v0 v1 v2 o => kcell (grown_alloc _ _) (by simp [go_sem, y0, y1, y2]) (by simp; omega)
      have x22 : ∀ (v0 v1 v2 : Value) (o : Obj), ((((w3.setCell ⟨w.heap.size + 1 + 1, 0, none⟩ v0).setCell ⟨w.heap.size + 1 + 1, 1, none⟩ v1).setCell ⟨w.heap.size + 1 + 1, 2, none⟩ v2).alloc o).cell? ⟨w.heap.size + 1 + 1, 2, none⟩ = some v2 := fun v0 v1 v2 o => kcell (grown_alloc _ _) (by simp [go_sem, y0, y1, y2]) (by simp; omega)
      clear y0 y1 y2 z0 z1 z2
      cases s' <;> cases u
      all_goals
        go_wp2
        refine bodyPost_ret (v := tvr (mrgR t n s a b _)) ?_ rfl ⟨rfl, ?_⟩
        · rw [HR.out]
          simp [results, Try.results15, go_sem, tvr, x20, x21, x22]
        · refine (grown_set (grown_set (grown_set ((((grown_alloc _ _).trans' (grown_alloc _ _)).trans' (grown_alloc _ _)).trans' ((g1.trans' g2).trans' g3)) _ ?_) _ ?_) _ ?_).trans' (grown_alloc _ _) <;> omega
    · have HR : Hid (mrgR t n s a b u = (0, 0, false, e2)) := by show _ = _; rw [hr, if_neg (by simpa using h1), if_pos h2]
      have b1 : (e1 != 0) = false := by rw [bne_eq_false_iff_eq]; exact h1
      have b2 : (e2 != 0) = true := by rw [bne_iff_ne]; exact h2
      clear hr h1 h2
      go_enter Try.func15, Try.ntmps15
      go_wp2_with fail
      refine (C1.out _).mono ?_
      rintro e w1 ⟨rfl, g1⟩
      have hz1 := g1.size
      have p0 : w1.cell? ⟨w.heap.size + 1, 0, none⟩ = some (.int .i64 a) := kcell g1 (by simp [go_sem]) (by simp)
      have p1 : w1.cell? ⟨w.heap.size + 1, 1, none⟩ = some (.int .i64 b) := kcell g1 (by simp [go_sem]) (by simp)
      have p2 : w1.cell? ⟨w.heap.size + 1, 2, none⟩ = some (.bool u) := kcell g1 (by simp [go_sem]) (by simp)
      go_wp2_with fail
      refine (C2.out _).mono ?_
      rintro e w2 ⟨rfl, g2⟩
      have hbb : w.heap.size + 1 + 1 < w1.heap.size := by simp at hz1; omega
      have z0 : w2.frozen? ⟨w.heap.size + 1 + 1, 0, none⟩ = false := kfroz g2 (kfroz g1 (by simp [go_sem]) (by simp)) hbb
      have y0 : w2.cell? ⟨w.heap.size + 1 + 1, 0, none⟩ = some (.int .i64 0) := kcell g2 (kcell g1 (by simp [go_sem]) (by simp)) hbb
      have z1 : w2.frozen? ⟨w.heap.size + 1 + 1, 1, none⟩ = false := kfroz g2 (kfroz g1 (by simp [go_sem]) (by simp)) hbb
      have y1 : w2.cell? ⟨w.heap.size + 1 + 1, 1, none⟩ = some (.int .i64 0) := kcell g2 (kcell g1 (by simp [go_sem]) (by simp)) hbb
      have z2 : w2.frozen? ⟨w.heap.size + 1 + 1, 2, none⟩ = false := kfroz g2 (kfroz g1 (by simp [go_sem]) (by simp)) hbb
      have y2 : w2.cell? ⟨w.heap.size + 1 + 1, 2, none⟩ = some (.bool false) := kcell g2 (kcell g1 (by simp [go_sem]) (by simp)) hbb
      go_wp2
      refine bodyPost_ret (v := tvr (0, 0, false, e2)) ?_ rfl ⟨by rw [HR.out], ?_⟩
      · simp [results, Try.results15, go_sem, tvr, y0, y1, y2]
      · refine grown_set (grown_set (grown_set ((((grown_alloc _ _).trans' (grown_alloc _ _)).trans' (grown_alloc _ _)).trans' (g1.trans' g2)) _ ?_) _ ?_) _ ?_ <;> omega
  · have HR : Hid (mrgR t n s a b u = (0, 0, false, e1)) := by show _ = _; rw [hr, if_pos h1]
    have b1 : (e1 != 0) = true := by rw [bne_iff_ne]; exact h1
    clear hr h1
    go_enter Try.func15, Try.ntmps15
    go_wp2_with fail
    refine (C1.out _).mono ?_
    rintro e w1 ⟨rfl, g1⟩
    have z0 : w1.frozen? ⟨w.heap.size + 1 + 1, 0, none⟩ = false := kfroz g1 (by simp [go_sem]) (by simp)
    have y0 : w1.cell? ⟨w.heap.size + 1 + 1, 0, none⟩ = some (.int .i64 0) := kcell g1 (by simp [go_sem]) (by simp)
    have z1 : w1.frozen? ⟨w.heap.size + 1 + 1, 1, none⟩ = false := kfroz g1 (by simp [go_sem]) (by simp)
    have y1 : w1.cell? ⟨w.heap.size + 1 + 1, 1, none⟩ = some (.int .i64 0) := kcell g1 (by simp [go_sem]) (by simp)
    have z2 : w1.frozen? ⟨w.heap.size + 1 + 1, 2, none⟩ = false := kfroz g1 (by simp [go_sem]) (by simp)
    have y2 : w1.cell? ⟨w.heap.size + 1 + 1, 2, none⟩ = some (.bool false) := kcell g1 (by simp [go_sem]) (by simp)
    go_wp2
    refine bodyPost_ret (v := tvr (0, 0, false, e1)) ?_ rfl ⟨by rw [HR.out], ?_⟩
    · simp [results, Try.results15, go_sem, tvr, y0, y1, y2]
    · refine grown_set (grown_set (grown_set ((((grown_alloc _ _).trans' (grown_alloc _ _)).trans' (grown_alloc _ _)).trans' g1) _ ?_) _ ?_) _ ?_ <;> omega
end Go.Proofs.Ytobefdadlflegaa
