/- The walk of addresses. Conditions: a valid size and a key of Go's size. -/
import Derived.Test.YtigpbfmnbdbpcaaCmF
namespace Go.Proofs.Ytigpbfmnbdbpcaa
open Go.RowKit Go.ChangeShapes Go.WideShapes
set_option linter.unusedVariables false
set_option linter.unusedSimpArgs false
theorem Try.infoCx : (Try.prog.info? 67).map (fun i => (i.zero, i.size, i.bytes)) = some (some (.complex .f64 0 0), 1, 16) := by kernel_rfl
def cxA (z s : Int) (key : ByteArray) (r : Nat) : Value := .complex .f64 (floatOfInt .f64 r) (floatOfInt .f64 (colF z r s key))
def cxL (z s : Int) (key : ByteArray) (k : Nat) : List Value := (List.range k).map (cxA z s key)
theorem length_cxL (z s : Int) (key : ByteArray) (k : Nat) : (cxL z s key k).length = k := by simp [cxL]
theorem cxL_succ (z s : Int) (key : ByteArray) (k : Nat) : cxL z s key (k + 1) = cxL z s key k ++ [cxA z s key k] := by simp [cxL, List.range_succ]
set_option maxRecDepth 100000 in
set_option maxHeartbeats 1600000 in
theorem addresses_any (D : Nat) (s z : Int) (v : Value) (l : List Int) (b : Bool) (key : ByteArray) (w : World) (hv : Ints .i64 w v l) (hD : D ≤ 8) (h2 : 1 ≤ s) (h3 : s ≤ 64) (hs : key.size ≤ 140737488355328) :
    Calls Try.prog 45 #[.agg #[.int .i64 D, .int .i64 s, .int .u64 z, v, .bool b], .string key] w fun e w' => ∃ u, e = .returned u ∧ w'.ownsRow w.heap.size 67 1 u D (cxL z s key D) ∧ w.grownBy w' none := by
  obtain ⟨a, cap, rfl, -, -, -, -⟩ := hv
  go_enter Try.func45, Try.ntmps45
  go_wp2
  obtain ⟨w1, hw1⟩ : ∃ w1, w1 = w.alloc (Obj.cells #[Value.int IntKind.i64 D, Value.int IntKind.i64 s, Value.int IntKind.u64 z, Value.slice a l.length cap, Value.bool b] 26) := ⟨_, rfl⟩
  have hg1 : w.grownBy w1 none := by rw [hw1]; exact grown_alloc _ _
  have hz1 : w1.heap.size = w.heap.size + 1 := by rw [hw1]; simp
  have y1 : w1.cell? ⟨w.heap.size, 1, none⟩ = some (.int .i64 s) := by rw [hw1]; simp [go_sem]
  have y2 : w1.cell? ⟨w.heap.size, 2, none⟩ = some (.int .u64 z) := by rw [hw1]; simp [go_sem]
  rw [← hw1]
  clear hw1
  go_loopw [5, 6, 7, 8, 11] (fun x _ _ _ i wr => ∃ k : Nat, k ≤ D ∧ i = .int .i64 k ∧ wr.ownsRow (w.heap.size + 1) 67 1 x k (cxL z s key k) ∧ w1.grownBy wr none) (fun _ _ _ _ i _ => D - (intOf i).toNat)
  case atStart => exact ⟨0, by omega, rfl, World.ownsRow_nil _ _ _ _, grown_refl _⟩
  case round =>
    obtain ⟨k, hk, rfl, hown, hg⟩ := hrel
    by_cases hlt : k < D
    · have u1 := kcell hg y1 (by omega)
      have u2 := kcell hg y2 (by omega)
      have hcx := @run_cx Try.prog
      have hzr := hg.size
      go_wp2_with (first | (go_at_call 13; refine (column_any z k s key _ hs).mono ?_; rintro e w2 ⟨rfl, g2⟩; have hz2 := g2.size) | (at_builtin; refine wpList_appS _ rfl _ _ 65 65 rfl (w.heap.size + 1) 67 (.complex .f64 0 0) 1 16 Try.underlying65 Try.infoCx rfl (by decide) _ _ _ 1 _ [cxA z s key k] (own_keep hown (g2.trans' (grown_alloc _ _))) rfl rfl (own_src (own_lit1 w2 67 (cxA z s key k)) (by simp [Value.oneCell', cxA]) Try.underlying65) (by unfold maxLen; omega) (by omega) (by simp; omega) ?_))
      intro x w3 ho3 g3 _
      have hG : w1.grownBy w3 none := grown_own (hg.trans' (g2.trans' (grown_alloc _ _))) (by rw [hz1]; exact own_keep hown (g2.trans' (grown_alloc _ _))) g3
      go_wp2
      go_roundw
      case rel => exact ⟨k + 1, by omega, by go_num, by rw [cxL_succ]; exact ho3, hG⟩
      case measure => simp [intOf]; omega
    · have : k = D := by omega
      subst this
      go_wp2
      go_ret
      exact ⟨_, rfl, own_lower hown (by omega), hg1.trans' hg⟩
end Go.Proofs.Ytigpbfmnbdbpcaa
