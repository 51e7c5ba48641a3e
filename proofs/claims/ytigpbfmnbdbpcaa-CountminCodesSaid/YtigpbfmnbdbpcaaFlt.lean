/- Small whole numbers as floats and back. No condition. -/
import Derived.Test.YtigpbfmnbdbpcaaLib3
import Derived.Laws.FloatArith
namespace Go.Proofs.Ytigpbfmnbdbpcaa
open Go.RowKit
set_option linter.unusedVariables false
set_option linter.unusedSimpArgs false
set_option maxRecDepth 1000000 in
theorem flt_small : ∀ n : Nat, n < 1001 → floatToIntVal .f64 (floatOfInt .f64 n) .i64 = some (n : Int) := by decide +kernel
/-- 'int(float64(n))' of a small number. -/
theorem run_flt {P : Program} {src dst : TypeId} (hs : (P.underlying src).isSome = true) (hd : P.underlying dst = some (.int .i64)) {n : Int} (h0 : 0 ≤ n) (h1 : n ≤ 1000) (w : World) :
    (convert src dst (.float .f64 (floatOfInt .f64 n))).run P w = .ok (.int .i64 n) w := by
  obtain ⟨k, rfl⟩ := Int.eq_ofNat_of_zero_le h0
  exact run_convert_float_int w src dst .f64 .i64 _ _ hs hd (flt_small k (by omega))
theorem run_cx {P : Program} (ts : Array TypeId) (t : TypeId) (k : FloatKind) (a b : Nat) (w : World) : (Builtin.complex_ ts t #[.float k a, .float k b]).run P w = .ok (.complex k a b) w := by show (if k = k then _ else _ : Sem Value).run P w = _; rw [if_pos rfl]; rfl
theorem run_re {P : Program} (ts : Array TypeId) (t : TypeId) (k : FloatKind) (a b : Nat) (w : World) : (Builtin.real_ ts t #[.complex k a b]).run P w = .ok (.float k a) w := rfl
theorem run_im {P : Program} (ts : Array TypeId) (t : TypeId) (k : FloatKind) (a b : Nat) (w : World) : (Builtin.imag_ ts t #[.complex k a b]).run P w = .ok (.float k b) w := rfl
end Go.Proofs.Ytigpbfmnbdbpcaa
