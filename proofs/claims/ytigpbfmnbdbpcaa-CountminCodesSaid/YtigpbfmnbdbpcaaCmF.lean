/- The walk of copied. Conditions: cells are Go's ints. -/
import Derived.Test.YtigpbfmnbdbpcaaCmE
namespace Go.Proofs.Ytigpbfmnbdbpcaa
open Go.RowKit Go.ChangeShapes Go.WideShapes
set_option linter.unusedVariables false
set_option linter.unusedSimpArgs false
set_option maxRecDepth 100000 in
set_option maxHeartbeats 1600000 in
theorem copied_any (d s z : Int) (v : Value) (l : List Int) (b : Bool) (w : World) (hv : Ints .i64 w v l) (hl : l.length ≤ 1000) :
    Calls Try.prog 44 #[.agg #[.int .i64 d, .int .i64 s, .int .u64 z, v, .bool b]] w fun e w' => ∃ u, e = .returned (.agg #[.int .i64 d, .int .i64 s, .int .u64 z, u, .bool b]) ∧ w'.ownsRow w.heap.size 3 1 u l.length (l.map (.int .i64)) ∧ w.grownBy w' none := by
  obtain ⟨a, cap, rfl, -, -, -, -⟩ := id hv
  have hown0 : ∀ o1 o2 : Obj, (((w.alloc o1).alloc o2).alloc (.cells #[] 3)).ownsRow (w.heap.size + 1 + 1) 3 1 (.slice (some ⟨w.heap.size + 1 + 1, 0, none⟩) 0 0) 0 [] := fun o1 o2 => by
    have := own_lit0 (B := w.heap.size + 1 + 1) ((w.alloc o1).alloc o2) 3 (by simp)
    simpa using this
  go_enter Try.func44, Try.ntmps44
  go_wp2_with (at_builtin; go_loud (refine wpList_appS _ rfl _ _ 24 24 rfl (w.heap.size + 1 + 1) 3 (.int .i64 0) 1 8 Try.underlying24 Try.infoInt rfl (by decide) _ _ _ _ _ _ (hown0 _ _) rfl rfl ((hv.grown (((grown_alloc _ _).trans' (grown_alloc _ _)).trans' (grown_alloc _ _))).src Try.underlying24) (by unfold maxLen; omega) (by omega) (by simp) ?_))
  intro u w1 hu g1 _
  obtain ⟨a2, c2, rfl, -, -⟩ := own_shape hu
  have G1 : w.grownBy w1 none := grown_rdr (R := w.heap.size + 1 + 1) (((grown_alloc _ _).trans' (grown_alloc _ _)).trans' (grown_alloc _ _)) g1 (by omega)
  have hz1 := g1.size
  simp at hz1
  have y0 : w1.cell? ⟨w.heap.size, 0, none⟩ = some (.int .i64 d) := cell_rdr (R := w.heap.size + 1 + 1) g1 (by simp [go_sem]) (by simp; omega) (by omega)
  have z0 : w1.frozen? ⟨w.heap.size, 0, none⟩ = false := froz_rdr (R := w.heap.size + 1 + 1) g1 (by simp [go_sem]) (by simp; omega) (by omega)
  have y1 : w1.cell? ⟨w.heap.size, 1, none⟩ = some (.int .i64 s) := cell_rdr (R := w.heap.size + 1 + 1) g1 (by simp [go_sem]) (by simp; omega) (by omega)
  have z1 : w1.frozen? ⟨w.heap.size, 1, none⟩ = false := froz_rdr (R := w.heap.size + 1 + 1) g1 (by simp [go_sem]) (by simp; omega) (by omega)
  have y2 : w1.cell? ⟨w.heap.size, 2, none⟩ = some (.int .u64 z) := cell_rdr (R := w.heap.size + 1 + 1) g1 (by simp [go_sem]) (by simp; omega) (by omega)
  have z2 : w1.frozen? ⟨w.heap.size, 2, none⟩ = false := froz_rdr (R := w.heap.size + 1 + 1) g1 (by simp [go_sem]) (by simp; omega) (by omega)
  have y3 : w1.cell? ⟨w.heap.size, 3, none⟩ = some (.slice a l.length cap) := cell_rdr (R := w.heap.size + 1 + 1) g1 (by simp [go_sem]) (by simp; omega) (by omega)
  have z3 : w1.frozen? ⟨w.heap.size, 3, none⟩ = false := froz_rdr (R := w.heap.size + 1 + 1) g1 (by simp [go_sem]) (by simp; omega) (by omega)
  have y4 : w1.cell? ⟨w.heap.size, 4, none⟩ = some (.bool b) := cell_rdr (R := w.heap.size + 1 + 1) g1 (by simp [go_sem]) (by simp; omega) (by omega)
  have z4 : w1.frozen? ⟨w.heap.size, 4, none⟩ = false := froz_rdr (R := w.heap.size + 1 + 1) g1 (by simp [go_sem]) (by simp; omega) (by omega)
  have q0 : w1.cell? ⟨w.heap.size + 1, 0, none⟩ = some (.int .i64 0) := cell_rdr (R := w.heap.size + 1 + 1) g1 (by simp [go_sem]) (by simp) (by omega)
  have t0 : w1.frozen? ⟨w.heap.size + 1, 0, none⟩ = false := froz_rdr (R := w.heap.size + 1 + 1) g1 (by simp [go_sem]) (by simp) (by omega)
  have q1 : w1.cell? ⟨w.heap.size + 1, 1, none⟩ = some (.int .i64 0) := cell_rdr (R := w.heap.size + 1 + 1) g1 (by simp [go_sem]) (by simp) (by omega)
  have t1 : w1.frozen? ⟨w.heap.size + 1, 1, none⟩ = false := froz_rdr (R := w.heap.size + 1 + 1) g1 (by simp [go_sem]) (by simp) (by omega)
  have q2 : w1.cell? ⟨w.heap.size + 1, 2, none⟩ = some (.int .u64 0) := cell_rdr (R := w.heap.size + 1 + 1) g1 (by simp [go_sem]) (by simp) (by omega)
  have t2 : w1.frozen? ⟨w.heap.size + 1, 2, none⟩ = false := froz_rdr (R := w.heap.size + 1 + 1) g1 (by simp [go_sem]) (by simp) (by omega)
  have q3 : w1.cell? ⟨w.heap.size + 1, 3, none⟩ = some (.slice none 0 0) := cell_rdr (R := w.heap.size + 1 + 1) g1 (by simp [go_sem]) (by simp) (by omega)
  have t3 : w1.frozen? ⟨w.heap.size + 1, 3, none⟩ = false := froz_rdr (R := w.heap.size + 1 + 1) g1 (by simp [go_sem]) (by simp) (by omega)
  have q4 : w1.cell? ⟨w.heap.size + 1, 4, none⟩ = some (.bool false) := cell_rdr (R := w.heap.size + 1 + 1) g1 (by simp [go_sem]) (by simp) (by omega)
  have t4 : w1.frozen? ⟨w.heap.size + 1, 4, none⟩ = false := froz_rdr (R := w.heap.size + 1 + 1) g1 (by simp [go_sem]) (by simp) (by omega)
  go_wp2
  refine bodyPost_ret (v := .agg #[.int .i64 d, .int .i64 s, .int .u64 z, .slice a2 l.length c2, .bool b]) ?_ rfl ⟨_, rfl, ?_, ?_⟩
  · simp [results, Try.results44, go_sem, q0, q1, q2, q3, q4, y0, y1, y2, y4]
  · refine own_lower (ownsRow_setCell_below (ownsRow_setCell_below (ownsRow_setCell_below (ownsRow_setCell_below (ownsRow_setCell_below (ownsRow_setCell_below hu ?_ _) ?_ _) ?_ _) ?_ _) ?_ _) ?_ _) (by omega) <;> (simp; try omega)
  · refine grown_set (grown_set (grown_set (grown_set (grown_set (grown_set G1 _ ?_) _ ?_) _ ?_) _ ?_) _ ?_) _ ?_ <;> omega
end Go.Proofs.Ytigpbfmnbdbpcaa
