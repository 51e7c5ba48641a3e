/- The walks of the reference insertion and of both merges. -/
import Derived.Test.YtobefdadlflegaaTallyB
namespace Go.Proofs.Ytobefdadlflegaa
open Go.RowKit Go.ChangeShapes Go.WideShapes
set_option linter.unusedVariables false
set_option linter.unusedSimpArgs false
set_option maxRecDepth 100000 in
set_option maxHeartbeats 1600000 in
theorem insertr_any (t n : Int) (s : Bool) (k : ByteArray) (c : Int) (w : World) (ht : i64B t) (hn : i64B n) (hc : i64B c) (hk : k.size ≤ maxLen) :
    Calls Try.prog 11 #[.agg #[.int .i64 t, .int .i64 n, .bool s], .agg #[.string k, .int .i64 c]] w fun e w' => e = .returned (tvr (insR t n s k c)) ∧ w.grownBy w' none := by
  have c1 := fun w : World => validr_any t n s w
  have c2 := fun w : World => validItemr_any k c w hk
  have c3 := fun w : World => addT_any t n s c 1 false w ht hn hc (by unfold i64B; omega)
  have hr : insR t n s k c = if valE t n ≠ 0 then (0, 0, false, valE t n) else if itemE k c ≠ 0 then (0, 0, false, itemE k c) else (addS t c 4294967295, addS n 1 4294967295, (s || addB t c 4294967295 || addB n 1 4294967295), 0) := rfl
  simp only [Bool.or_false] at c3
  generalize valE t n = e1 at *
  generalize itemE k c = e2 at *
  generalize addS t c 4294967295 = t' at *
  generalize addS n 1 4294967295 = n' at *
  generalize (s || addB t c 4294967295 || addB n 1 4294967295) = s' at *
  have C1 := Lib.hid c1
  have C2 := Lib.hid c2
  have C3 := Lib.hid c3
  clear c1 c2 c3
  by_cases h1 : e1 = 0
  · by_cases h2 : e2 = 0
    · have HR : Hid (insR t n s k c = (t', n', s', 0)) := by show _ = _; rw [hr, if_neg (by simpa using h1), if_neg (by simpa using h2)]
      have b1 : (e1 != 0) = false := by rw [bne_eq_false_iff_eq]; exact h1
      have b2 : (e2 != 0) = false := by rw [bne_eq_false_iff_eq]; exact h2
      clear hr h1 h2
      go_enter Try.func11, Try.ntmps11
      go_wp2_with fail
      refine (C1.out _).mono ?_
      rintro e w1 ⟨rfl, g1⟩
      have hz1 := g1.size
      have q0 : w1.cell? ⟨w.heap.size, 0, none⟩ = some (.int .i64 t) := kcell g1 (by simp [go_sem]) (by simp; omega)
      have q1 : w1.cell? ⟨w.heap.size, 1, none⟩ = some (.int .i64 n) := kcell g1 (by simp [go_sem]) (by simp; omega)
      have q2 : w1.cell? ⟨w.heap.size, 2, none⟩ = some (.bool s) := kcell g1 (by simp [go_sem]) (by simp; omega)
      have p0 : w1.cell? ⟨w.heap.size + 1, 0, none⟩ = some (.string k) := kcell g1 (by simp [go_sem]) (by simp)
      have p1 : w1.cell? ⟨w.heap.size + 1, 1, none⟩ = some (.int .i64 c) := kcell g1 (by simp [go_sem]) (by simp)
      go_wp2_with fail
      refine (C2.out _).mono ?_
      rintro e w2 ⟨rfl, g2⟩
      have hz2 := g2.size
      have r0 := kcell g2 q0 (by simp at hz1; omega)
      have r1 := kcell g2 q1 (by simp at hz1; omega)
      have r2 := kcell g2 q2 (by simp at hz1; omega)
      have p2 := kcell g2 p1 (by simp at hz1; omega)
      go_wp2_with fail
      refine (C3.out _).mono ?_
      rintro e w3 ⟨rfl, g3⟩
      have hz3 := g3.size
      have hb : w.heap.size + 1 + 1 < w1.heap.size := by simp at hz1; omega
      have hb2 : w.heap.size + 1 + 1 < w2.heap.size := by omega
      have z0 : w3.frozen? ⟨w.heap.size + 1 + 1, 0, none⟩ = false := kfroz g3 (kfroz g2 (kfroz g1 (by simp [go_sem]) (by simp)) hb) hb2
      have y0 : w3.cell? ⟨w.heap.size + 1 + 1, 0, none⟩ = some (.int .i64 0) := kcell g3 (kcell g2 (kcell g1 (by simp [go_sem]) (by simp)) hb) hb2
      have z1 : w3.frozen? ⟨w.heap.size + 1 + 1, 1, none⟩ = false := kfroz g3 (kfroz g2 (kfroz g1 (by simp [go_sem]) (by simp)) hb) hb2
      have y1 : w3.cell? ⟨w.heap.size + 1 + 1, 1, none⟩ = some (.int .i64 0) := kcell g3 (kcell g2 (kcell g1 (by simp [go_sem]) (by simp)) hb) hb2
      have z2 : w3.frozen? ⟨w.heap.size + 1 + 1, 2, none⟩ = false := kfroz g3 (kfroz g2 (kfroz g1 (by simp [go_sem]) (by simp)) hb) hb2
      have y2 : w3.cell? ⟨w.heap.size + 1 + 1, 2, none⟩ = some (.bool false) := kcell g3 (kcell g2 (kcell g1 (by simp [go_sem]) (by simp)) hb) hb2
      go_wp2
      refine bodyPost_ret (v := tvr (t', n', s', 0)) ?_ rfl ⟨by rw [HR.out], ?_⟩
      · simp [results, Try.results11, go_sem, tvr, y0, y1, y2]
      · refine grown_set (grown_set (grown_set ((((grown_alloc _ _).trans' (grown_alloc _ _)).trans' (grown_alloc _ _)).trans' ((g1.trans' g2).trans' g3)) _ ?_) _ ?_) _ ?_ <;> omega
    · have HR : Hid (insR t n s k c = (0, 0, false, e2)) := by show _ = _; rw [hr, if_neg (by simpa using h1), if_pos h2]
      have b1 : (e1 != 0) = false := by rw [bne_eq_false_iff_eq]; exact h1
      have b2 : (e2 != 0) = true := by rw [bne_iff_ne]; exact h2
      clear hr h1 h2
      go_enter Try.func11, Try.ntmps11
      go_wp2_with fail
      refine (C1.out _).mono ?_
      rintro e w1 ⟨rfl, g1⟩
      have hz1 := g1.size
      have p0 : w1.cell? ⟨w.heap.size + 1, 0, none⟩ = some (.string k) := kcell g1 (by simp [go_sem]) (by simp)
      have p1 : w1.cell? ⟨w.heap.size + 1, 1, none⟩ = some (.int .i64 c) := kcell g1 (by simp [go_sem]) (by simp)
      go_wp2_with fail
      refine (C2.out _).mono ?_
      rintro e w2 ⟨rfl, g2⟩
      have hb : w.heap.size + 1 + 1 < w1.heap.size := by simp at hz1; omega
      have z0 : w2.frozen? ⟨w.heap.size + 1 + 1, 0, none⟩ = false := kfroz g2 (kfroz g1 (by simp [go_sem]) (by simp)) hb
      have y0 : w2.cell? ⟨w.heap.size + 1 + 1, 0, none⟩ = some (.int .i64 0) := kcell g2 (kcell g1 (by simp [go_sem]) (by simp)) hb
      have z1 : w2.frozen? ⟨w.heap.size + 1 + 1, 1, none⟩ = false := kfroz g2 (kfroz g1 (by simp [go_sem]) (by simp)) hb
      have y1 : w2.cell? ⟨w.heap.size + 1 + 1, 1, none⟩ = some (.int .i64 0) := kcell g2 (kcell g1 (by simp [go_sem]) (by simp)) hb
      have z2 : w2.frozen? ⟨w.heap.size + 1 + 1, 2, none⟩ = false := kfroz g2 (kfroz g1 (by simp [go_sem]) (by simp)) hb
      have y2 : w2.cell? ⟨w.heap.size + 1 + 1, 2, none⟩ = some (.bool false) := kcell g2 (kcell g1 (by simp [go_sem]) (by simp)) hb
      go_wp2
      refine bodyPost_ret (v := tvr (0, 0, false, e2)) ?_ rfl ⟨by rw [HR.out], ?_⟩
      · simp [results, Try.results11, go_sem, tvr, y0, y1, y2]
      · refine grown_set (grown_set (grown_set ((((grown_alloc _ _).trans' (grown_alloc _ _)).trans' (grown_alloc _ _)).trans' (g1.trans' g2)) _ ?_) _ ?_) _ ?_ <;> omega
  · have HR : Hid (insR t n s k c = (0, 0, false, e1)) := by show _ = _; rw [hr, if_pos h1]
    have b1 : (e1 != 0) = true := by rw [bne_iff_ne]; exact h1
    clear hr h1
    go_enter Try.func11, Try.ntmps11
    go_wp2_with fail
    refine (C1.out _).mono ?_
    rintro e w1 ⟨rfl, g1⟩
    have z0 : w1.frozen? ⟨w.heap.size + 1 + 1, 0, none⟩ = false := kfroz g1 (by simp [go_sem]) (by simp)
    have y0 : w1.cell? ⟨w.heap.size + 1 + 1, 0, none⟩ = some (.int .i64 0) := kcell g1 (by simp [go_sem]) (by simp)
    have z1 : w1.frozen? ⟨w.heap.size + 1 + 1, 1, none⟩ = false := kfroz g1 (by simp [go_sem]) (by simp)
    have y1 : w1.cell? ⟨w.heap.size + 1 + 1, 1, none⟩ = some (.int .i64 0) := kcell g1 (by simp [go_sem]) (by simp)
    have z2 : w1.frozen? ⟨w.heap.size + 1 + 1, 2, none⟩ = false := kfroz g1 (by simp [go_sem]) (by simp)
    have y2 : w1.cell? ⟨w.heap.size + 1 + 1, 2, none⟩ = some (.bool false) := kcell g1 (by simp [go_sem]) (by simp)
    go_wp2
    refine bodyPost_ret (v := tvr (0, 0, false, e1)) ?_ rfl ⟨by rw [HR.out], ?_⟩
    · simp [results, Try.results11, go_sem, tvr, y0, y1, y2]
    · refine grown_set (grown_set (grown_set ((((grown_alloc _ _).trans' (grown_alloc _ _)).trans' (grown_alloc _ _)).trans' g1) _ ?_) _ ?_) _ ?_ <;> omega
/-- Merge: the new tally, the error. -/
def mrgR (t n : Int) (s : Bool) (a b : Int) (u : Bool) : Int × Int × Bool × Int :=
  if valE t n ≠ 0 then (0, 0, false, valE t n) else if valE a b ≠ 0 then (0, 0, false, valE a b)
  else (addS t a 4294967295, addS n b 4294967295, (s || u || addB t a 4294967295 || addB n b 4294967295), 0)
set_option maxRecDepth 100000 in
set_option maxHeartbeats 1600000 in
theorem merger_any (t n : Int) (s : Bool) (a b : Int) (u : Bool) (w : World) (ht : i64B t) (hn : i64B n) (ha : i64B a) (hb : i64B b) :
    Calls Try.prog 16 #[.agg #[.int .i64 t, .int .i64 n, .bool s], .agg #[.int .i64 a, .int .i64 b, .bool u]] w fun e w' => e = .returned (tvr (mrgR t n s a b u)) ∧ w.grownBy w' none := by
  have c1 := fun w : World => validr_any t n s w
  have c2 := fun w : World => validr_any a b u w
  have c3 := fun w : World => addT_any t n s a b u w ht hn ha hb
  have hr : mrgR t n s a b u = if valE t n ≠ 0 then (0, 0, false, valE t n) else if valE a b ≠ 0 then (0, 0, false, valE a b) else (addS t a 4294967295, addS n b 4294967295, (s || u || addB t a 4294967295 || addB n b 4294967295), 0) := rfl
  generalize valE t n = e1 at *
  generalize valE a b = e2 at *
  generalize addS t a 4294967295 = t' at *
  generalize addS n b 4294967295 = n' at *
  generalize (s || u || addB t a 4294967295 || addB n b 4294967295) = s' at *
  have C1 := Lib.hid c1
  have C2 := Lib.hid c2
  have C3 := Lib.hid c3
  clear c1 c2 c3
  by_cases h1 : e1 = 0
  · by_cases h2 : e2 = 0
    · have HR : Hid (mrgR t n s a b u = (t', n', s', 0)) := by show _ = _; rw [hr, if_neg (by simpa using h1), if_neg (by simpa using h2)]
      have b1 : (e1 != 0) = false := by rw [bne_eq_false_iff_eq]; exact h1
      have b2 : (e2 != 0) = false := by rw [bne_eq_false_iff_eq]; exact h2
      clear hr h1 h2
      go_enter Try.func16, Try.ntmps16
      go_wp2_with fail
      refine (C1.out _).mono ?_
      rintro e w1 ⟨rfl, g1⟩
      have hz1 := g1.size
      have q0 : w1.cell? ⟨w.heap.size, 0, none⟩ = some (.int .i64 t) := kcell g1 (by simp [go_sem]) (by simp; omega)
      have q1 : w1.cell? ⟨w.heap.size, 1, none⟩ = some (.int .i64 n) := kcell g1 (by simp [go_sem]) (by simp; omega)
      have q2 : w1.cell? ⟨w.heap.size, 2, none⟩ = some (.bool s) := kcell g1 (by simp [go_sem]) (by simp; omega)
      have p0 : w1.cell? ⟨w.heap.size + 1, 0, none⟩ = some (.int .i64 a) := kcell g1 (by simp [go_sem]) (by simp)
      have p1 : w1.cell? ⟨w.heap.size + 1, 1, none⟩ = some (.int .i64 b) := kcell g1 (by simp [go_sem]) (by simp)
      have p2 : w1.cell? ⟨w.heap.size + 1, 2, none⟩ = some (.bool u) := kcell g1 (by simp [go_sem]) (by simp)
      go_wp2_with fail
      refine (C2.out _).mono ?_
      rintro e w2 ⟨rfl, g2⟩
      have hz2 := g2.size
      have r0 := kcell g2 q0 (by simp at hz1; omega)
      have r1 := kcell g2 q1 (by simp at hz1; omega)
      have r2 := kcell g2 q2 (by simp at hz1; omega)
      have o0 := kcell g2 p0 (by simp at hz1; omega)
      have o1 := kcell g2 p1 (by simp at hz1; omega)
      have o2 := kcell g2 p2 (by simp at hz1; omega)
      go_wp2_with fail
      refine (C3.out _).mono ?_
      rintro e w3 ⟨rfl, g3⟩
      have hz3 := g3.size
      have hbb : w.heap.size + 1 + 1 < w1.heap.size := by simp at hz1; omega
      have hbb2 : w.heap.size + 1 + 1 < w2.heap.size := by omega
      have z0 : w3.frozen? ⟨w.heap.size + 1 + 1, 0, none⟩ = false := kfroz g3 (kfroz g2 (kfroz g1 (by simp [go_sem]) (by simp)) hbb) hbb2
      have y0 : w3.cell? ⟨w.heap.size + 1 + 1, 0, none⟩ = some (.int .i64 0) := kcell g3 (kcell g2 (kcell g1 (by simp [go_sem]) (by simp)) hbb) hbb2
      have z1 : w3.frozen? ⟨w.heap.size + 1 + 1, 1, none⟩ = false := kfroz g3 (kfroz g2 (kfroz g1 (by simp [go_sem]) (by simp)) hbb) hbb2
      have y1 : w3.cell? ⟨w.heap.size + 1 + 1, 1, none⟩ = some (.int .i64 0) := kcell g3 (kcell g2 (kcell g1 (by simp [go_sem]) (by simp)) hbb) hbb2
      have z2 : w3.frozen? ⟨w.heap.size + 1 + 1, 2, none⟩ = false := kfroz g3 (kfroz g2 (kfroz g1 (by simp [go_sem]) (by simp)) hbb) hbb2
      have y2 : w3.cell? ⟨w.heap.size + 1 + 1, 2, none⟩ = some (.bool false) := kcell g3 (kcell g2 (kcell g1 (by simp [go_sem]) (by simp)) hbb) hbb2
      go_wp2
      refine bodyPost_ret (v := tvr (t', n', s', 0)) ?_ rfl ⟨by rw [HR.out], ?_⟩
      · simp [results, Try.results16, go_sem, tvr, y0, y1, y2]
      · refine grown_set (grown_set (grown_set ((((grown_alloc _ _).trans' (grown_alloc _ _)).trans' (grown_alloc _ _)).trans' ((g1.trans' g2).trans' g3)) _ ?_) _ ?_) _ ?_ <;> omega
    · have HR : Hid (mrgR t n s a b u = (0, 0, false, e2)) := by show _ = _; rw [hr, if_neg (by simpa using h1), if_pos h2]
      have b1 : (e1 != 0) = false := by rw [bne_eq_false_iff_eq]; exact h1
      have b2 : (e2 != 0) = true := by rw [bne_iff_ne]; exact h2
      clear hr h1 h2
      go_enter Try.func16, Try.ntmps16
      go_wp2_with fail
      refine (C1.out _).mono ?_
      rintro e w1 ⟨rfl, g1⟩
      have hz1 := g1.size
      have p0 : w1.cell? ⟨w.heap.size + 1, 0, none⟩ = some (.int .i64 a) := kcell g1 (by simp [go_sem]) (by simp)
      have p1 : w1.cell? ⟨w.heap.size + 1, 1, none⟩ = some (.int .i64 b) := kcell g1 (by simp [go_sem]) (by simp)
      have p2 : w1.cell? ⟨w.heap.size + 1, 2, none⟩ = some (.bool u) := kcell g1 (by simp [go_sem]) (by simp)
      go_wp2_with fail
      refine (C2.out _).mono ?_
      rintro e w2 ⟨rfl, g2⟩
      have hbb : w.heap.size + 1 + 1 < w1.heap.size := by simp at hz1; omega
      have z0 : w2.frozen? ⟨w.heap.size + 1 + 1, 0, none⟩ = false := kfroz g2 (kfroz g1 (by simp [go_sem]) (by simp)) hbb
      have y0 : w2.cell? ⟨w.heap.size + 1 + 1, 0, none⟩ = some (.int .i64 0) := kcell g2 (kcell g1 (by simp [go_sem]) (by simp)) hbb
      have z1 : w2.frozen? ⟨w.heap.size + 1 + 1, 1, none⟩ = false := kfroz g2 (kfroz g1 (by simp [go_sem]) (by simp)) hbb
      have y1 : w2.cell? ⟨w.heap.size + 1 + 1, 1, none⟩ = some (.int .i64 0) := kcell g2 (kcell g1 (by simp [go_sem]) (by simp)) hbb
      have z2 : w2.frozen? ⟨w.heap.size + 1 + 1, 2, none⟩ = false := kfroz g2 (kfroz g1 (by simp [go_sem]) (by simp)) hbb
      have y2 : w2.cell? ⟨w.heap.size + 1 + 1, 2, none⟩ = some (.bool false) := kcell g2 (kcell g1 (by simp [go_sem]) (by simp)) hbb
      go_wp2
      refine bodyPost_ret (v := tvr (0, 0, false, e2)) ?_ rfl ⟨by rw [HR.out], ?_⟩
      · simp [results, Try.results16, go_sem, tvr, y0, y1, y2]
      · refine grown_set (grown_set (grown_set ((((grown_alloc _ _).trans' (grown_alloc _ _)).trans' (grown_alloc _ _)).trans' (g1.trans' g2)) _ ?_) _ ?_) _ ?_ <;> omega
  · have HR : Hid (mrgR t n s a b u = (0, 0, false, e1)) := by show _ = _; rw [hr, if_pos h1]
    have b1 : (e1 != 0) = true := by rw [bne_iff_ne]; exact h1
    clear hr h1
    go_enter Try.func16, Try.ntmps16
    go_wp2_with fail
    refine (C1.out _).mono ?_
    rintro e w1 ⟨rfl, g1⟩
    have z0 : w1.frozen? ⟨w.heap.size + 1 + 1, 0, none⟩ = false := kfroz g1 (by simp [go_sem]) (by simp)
    have y0 : w1.cell? ⟨w.heap.size + 1 + 1, 0, none⟩ = some (.int .i64 0) := kcell g1 (by simp [go_sem]) (by simp)
    have z1 : w1.frozen? ⟨w.heap.size + 1 + 1, 1, none⟩ = false := kfroz g1 (by simp [go_sem]) (by simp)
    have y1 : w1.cell? ⟨w.heap.size + 1 + 1, 1, none⟩ = some (.int .i64 0) := kcell g1 (by simp [go_sem]) (by simp)
    have z2 : w1.frozen? ⟨w.heap.size + 1 + 1, 2, none⟩ = false := kfroz g1 (by simp [go_sem]) (by simp)
    have y2 : w1.cell? ⟨w.heap.size + 1 + 1, 2, none⟩ = some (.bool false) := kcell g1 (by simp [go_sem]) (by simp)
    go_wp2
    refine bodyPost_ret (v := tvr (0, 0, false, e1)) ?_ rfl ⟨by rw [HR.out], ?_⟩
    · simp [results, Try.results16, go_sem, tvr, y0, y1, y2]
    · refine grown_set (grown_set (grown_set ((((grown_alloc _ _).trans' (grown_alloc _ _)).trans' (grown_alloc _ _)).trans' g1) _ ?_) _ ?_) _ ?_ <;> omega
end Go.Proofs.Ytobefdadlflegaa
