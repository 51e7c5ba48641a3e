/- The walks of index and of the reference's cell. Conditions: small numbers. -/
import Derived.Test.YtigpbfmnbdbpcaaCmD
import Derived.Test.YtigpbfmnbdbpcaaFlt
namespace Go.Proofs.Ytigpbfmnbdbpcaa
open Go.RowKit Go.ChangeShapes Go.WideShapes
set_option linter.unusedVariables false
set_option linter.unusedSimpArgs false
theorem row_in {r s : Int} (h0 : 0 ≤ r) (h1 : r ≤ 7) (h2 : 1 ≤ s) (h3 : s ≤ 64) : 0 ≤ r * s ∧ r * s ≤ 448 := by
  constructor
  · exact Int.mul_nonneg h0 (by omega)
  · have := Int.mul_le_mul h1 h3 (by omega) (by omega); omega
set_option maxRecDepth 100000 in
set_option maxHeartbeats 1600000 in
theorem index_any (d s z : Int) (v : Value) (l : List Int) (b : Bool) (r k : Int) (w : World) (hv : Ints .i64 w v l) (h0 : 0 ≤ r) (h1 : r ≤ 7) (h2 : 1 ≤ s) (h3 : s ≤ 64) (h4 : 0 ≤ k) (h5 : k ≤ 63) :
    Calls Try.prog 46 #[.agg #[.int .i64 d, .int .i64 s, .int .u64 z, v, .bool b], .complex .f64 (floatOfInt .f64 r) (floatOfInt .f64 k)] w fun e w' => e = .returned (.int .i64 (r * s + k)) ∧ w.grownBy w' none := by
  have hr := row_in h0 h1 h2 h3
  obtain ⟨a, cap, rfl, -, -, -, -⟩ := hv
  have cva := fun w => run_flt (P := Try.prog) (src := 87) (dst := 3) (by kernel_rfl) Try.underlying3 (n := r) (by omega) (by omega) w
  have cvb := fun w => run_flt (P := Try.prog) (src := 87) (dst := 3) (by kernel_rfl) Try.underlying3 (n := k) (by omega) (by omega) w
  have hre := @run_re Try.prog
  have him := @run_im Try.prog
  generalize floatOfInt .f64 r = R at *
  generalize floatOfInt .f64 k = K at *
  go_enter Try.func46, Try.ntmps46
  go_wp2
  go_ret
  exact ⟨rfl, grown_alloc _ _⟩
set_option maxRecDepth 100000 in
set_option maxHeartbeats 1600000 in
theorem cell_any (d s z : Int) (v : Value) (l : List Int) (b : Bool) (r : Int) (key : ByteArray) (w : World) (hv : Ints .i64 w v l) (h0 : 0 ≤ r) (h1 : r ≤ 7) (h2 : 1 ≤ s) (h3 : s ≤ 64) (hs : key.size ≤ 140737488355328) (hc : 0 ≤ colF z r s key ∧ colF z r s key ≤ 63) :
    Calls Try.prog 49 #[.agg #[.int .i64 d, .int .i64 s, .int .u64 z, v, .bool b], .int .i64 r, .string key] w fun e w' => e = .returned (.int .i64 (r * s + colF z r s key)) ∧ w.grownBy w' none := by
  have hr := row_in h0 h1 h2 h3
  have HC := fun w => columnr_any z r s key w hs
  obtain ⟨a, cap, rfl, -, -, -, -⟩ := hv
  generalize colF z r s key = C at *
  generalize colE r s key = E at *
  go_enter Try.func49, Try.ntmps49
  go_wp2_with (go_at_call 14; refine (HC _).mono ?_; rintro e w1 ⟨rfl, g1⟩; have q1 : w1.cell? ⟨w.heap.size, 1, none⟩ = some (.int .i64 s) := kcell g1 (by simp [go_sem]) (by simp))
  go_ret
  exact ⟨rfl, (grown_alloc _ _).trans' g1⟩
end Go.Proofs.Ytigpbfmnbdbpcaa
