/- The walks of the keys and items of the laws. -/
import Derived.Test.YtobefdadlflegaaTallyD
import Derived.Test.YtobefdadlflegaaBits
namespace Go.Proofs.Ytobefdadlflegaa
open Go.RowKit Go.ChangeShapes Go.WideShapes
set_option linter.unusedVariables false
set_option linter.unusedSimpArgs false
theorem cases12 {i : Nat} (h : i < 12) : i = 0 ∨ i = 1 ∨ i = 2 ∨ i = 3 ∨ i = 4 ∨ i = 5 ∨ i = 6 ∨ i = 7 ∨ i = 8 ∨ i = 9 ∨ i = 10 ∨ i = 11 := by omega
set_option maxRecDepth 100000 in
set_option maxHeartbeats 1600000 in
theorem key_any (n : Int) (w : World) (hn : i64B n) :
    Calls Try.prog 22 #[.int .i64 n] w fun e w' => ∃ k, e = .returned (.string k) ∧ 1 ≤ k.size ∧ k.size ≤ 3 ∧ w.grownBy w' none := by
  have hb : 0 ≤ (bits BinOp.and IntKind.i64 n 255).tmod 12 ∧ (bits BinOp.and IntKind.i64 n 255).tmod 12 < 12 := by
    rw [and_mask n 8 (by omega) 255 (by decide)]
    have h0 : 0 ≤ n % 2 ^ 8 := Int.emod_nonneg _ (by decide)
    rw [Int.tmod_eq_emod_of_nonneg h0]
    exact ⟨Int.emod_nonneg _ (by decide), Int.emod_lt_of_pos _ (by decide)⟩
  have hcv : ∀ o : Obj, Sem.run Try.prog (convert 40 9 (Value.slice (some { block := w.heap.size + 1, off := 0 }) 3 3)) ((w.alloc o).alloc (Obj.cells #[Value.int IntKind.u8 (n % 256), Value.int IntKind.u8 (n / 2 % 256), Value.int IntKind.u8 (n / 8 % 256)] 5)) = .ok (.string (strOfNums [n % 256, n / 2 % 256, n / 8 % 256])) ((w.alloc o).alloc (Obj.cells #[Value.int IntKind.u8 (n % 256), Value.int IntKind.u8 (n / 2 % 256), Value.int IntKind.u8 (n / 8 % 256)] 5)) := by
    intro o
    have h := own_lit3 (w.alloc o) 5 (.int .u8 (n % 256)) (.int .u8 (n / 2 % 256)) (.int .u8 (n / 8 % 256))
    have h2 : Ints .u8 _ _ [n % 256, n / 2 % 256, n / 8 % 256] := ints_of_own h (by
      intro m hm
      simp only [List.mem_cons, List.not_mem_nil, or_false] at hm
      rcases hm with rfl | rfl | rfl <;> (simp [Lit.wf, IntKind.min, IntKind.max, IntKind.signed, IntKind.bits]; omega))
    have h3 := run_string (P := Try.prog) h2 Try.underlying40 Try.underlying5 Try.underlying9
    simpa using h3
  have hsz : (strOfNums [n % 256, n / 2 % 256, n / 8 % 256]).size = 3 := rfl
  generalize strOfNums [n % 256, n / 2 % 256, n / 8 % 256] = str at *
  generalize hi : ((bits BinOp.and IntKind.i64 n 255).tmod 12).toNat = i
  have hi12 : i < 12 := by omega
  go_enter Try.func22, Try.ntmps22
  go_wp2_with fail
  · go_ret
    exact ⟨_, rfl, by omega, by omega, (grown_alloc _ _).trans' (grown_alloc _ _)⟩
  · rcases cases12 hi12 with rfl | rfl | rfl | rfl | rfl | rfl | rfl | rfl | rfl | rfl | rfl | rfl
    all_goals
      go_ret
      exact ⟨_, rfl, by decide, by decide, grown_alloc _ _⟩
set_option maxRecDepth 100000 in
set_option maxHeartbeats 1600000 in
theorem item_any (n : Int) (w : World) (hn : i64B n) :
    Calls Try.prog 9 #[.int .i64 n] w fun e w' => ∃ k c, e = .returned (.agg #[.string k, .int .i64 c]) ∧ 1 ≤ k.size ∧ k.size ≤ 3 ∧ 1 ≤ c ∧ c ≤ 4294967295 ∧ w.grownBy w' none := by
  have b1 : ∃ m, bits BinOp.and IntKind.i64 (n / 16) 7 = m ∧ 0 ≤ m ∧ m ≤ 7 := ⟨_, and_mask _ 3 (by omega) 7 (by decide), by omega, by omega⟩
  have b2 : ∃ m, bits BinOp.and IntKind.i64 n 65535 = m ∧ 0 ≤ m ∧ m ≤ 65535 := ⟨_, and_mask _ 16 (by omega) 65535 (by decide), by omega, by omega⟩
  have b3 : ∃ m, bits BinOp.and IntKind.i64 n 3 = m ∧ 0 ≤ m ∧ m ≤ 3 := ⟨_, and_mask _ 2 (by omega) 3 (by decide), by omega, by omega⟩
  obtain ⟨m1, e1, l1, u1⟩ := b1
  obtain ⟨m2, e2, l2, u2⟩ := b2
  obtain ⟨m3, e3, l3, u3⟩ := b3
  go_enter Try.func9, Try.ntmps9
  go_wp2_with fail
  all_goals
    refine (key_any n _ hn).mono ?_
    rintro e w1 ⟨k, rfl, hk1, hk2, g1⟩
    have hz1 := g1.size
    have z0 : w1.frozen? ⟨w.heap.size, 0, none⟩ = false := kfroz g1 (by simp [go_sem]) (by simp)
    have y0 : w1.cell? ⟨w.heap.size, 0, none⟩ = some (.string ⟨#[]⟩) := kcell g1 (by simp [go_sem]) (by simp)
    have z1 : w1.frozen? ⟨w.heap.size, 1, none⟩ = false := kfroz g1 (by simp [go_sem]) (by simp)
    have y1 : w1.cell? ⟨w.heap.size, 1, none⟩ = some (.int .i64 0) := kcell g1 (by simp [go_sem]) (by simp)
    go_wp2
    first
      | (refine bodyPost_ret (v := .agg #[.string k, .int .i64 (1 + m2 * 65537 % 4294967295)]) ?_ rfl ⟨k, 1 + m2 * 65537 % 4294967295, rfl, hk1, hk2, ?_, ?_, ?_⟩; focus (simp [results, Try.results9, go_sem, y0, y1]; done))
      | (refine bodyPost_ret (v := .agg #[.string k, .int .i64 (4294967295 - m3)]) ?_ rfl ⟨k, 4294967295 - m3, rfl, hk1, hk2, ?_, ?_, ?_⟩; focus (simp [results, Try.results9, go_sem, y0, y1]; done))
      | (refine bodyPost_ret (v := .agg #[.string k, .int .i64 (1 + m1)]) ?_ rfl ⟨k, 1 + m1, rfl, hk1, hk2, ?_, ?_, ?_⟩; focus (simp [results, Try.results9, go_sem, y0, y1]; done))
    · omega
    · omega
    · exact grown_set (grown_set ((grown_alloc _ _).trans' g1) _ (Nat.le_refl _)) _ (Nat.le_refl _)
end Go.Proofs.Ytobefdadlflegaa
