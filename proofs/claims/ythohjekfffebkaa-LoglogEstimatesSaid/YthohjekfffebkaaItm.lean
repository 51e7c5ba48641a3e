/- The walks of the keys and items of the laws, as functions of their number. Condition: a Go int. -/
import Derived.Test.YthohjekfffebkaaLib2
import Derived.Test.YthohjekfffebkaaBits
namespace Go.Proofs.Ythohjekfffebkaa
open Go.RowKit Go.ChangeShapes Go.WideShapes
set_option linter.unusedVariables false
set_option linter.unusedSimpArgs false
def i64I (a : Int) : Prop := -9223372036854775808 ≤ a ∧ a ≤ 9223372036854775807
theorem below12 {i : Nat} (h : i < 12) : i = 0 ∨ i = 1 ∨ i = 2 ∨ i = 3 ∨ i = 4 ∨ i = 5 ∨ i = 6 ∨ i = 7 ∨ i = 8 ∨ i = 9 ∨ i = 10 ∨ i = 11 := by omega
def keyT : List ByteArray := [⟨#[97]⟩, ⟨#[98]⟩, ⟨#[99]⟩, ⟨#[100]⟩, ⟨#[101]⟩, ⟨#[102]⟩, ⟨#[97, 97]⟩, ⟨#[98, 32, 99]⟩, ⟨#[37, 54, 49]⟩, ⟨#[65, 58, 49]⟩, ⟨#[0]⟩, ⟨#[122, 47, 255]⟩]
def itmK (n : Int) : ByteArray := if (bits BinOp.and IntKind.i64 (n / 256) 15 == 15) = true then strOfNums [n % 256, n / 2 % 256, n / 8 % 256] else keyT.getD ((bits BinOp.and IntKind.i64 n 255).tmod 12).toNat ⟨#[]⟩
theorem itmK_size (n : Int) : 1 ≤ (itmK n).size ∧ (itmK n).size ≤ 3 := by
  unfold itmK
  split
  · exact ⟨by show 1 ≤ 3; omega, by show 3 ≤ 3; omega⟩
  · have hb : 0 ≤ (bits BinOp.and IntKind.i64 n 255).tmod 12 ∧ (bits BinOp.and IntKind.i64 n 255).tmod 12 < 12 := by
      rw [and_mask n 8 (by omega) 255 (by decide)]
      have h0 : 0 ≤ n % 2 ^ 8 := Int.emod_nonneg _ (by decide)
      rw [Int.tmod_eq_emod_of_nonneg h0]
      exact ⟨Int.emod_nonneg _ (by decide), Int.emod_lt_of_pos _ (by decide)⟩
    generalize hi : ((bits BinOp.and IntKind.i64 n 255).tmod 12).toNat = i
    have hi12 : i < 12 := by omega
    rcases below12 hi12 with rfl | rfl | rfl | rfl | rfl | rfl | rfl | rfl | rfl | rfl | rfl | rfl <;> exact ⟨by decide, by decide⟩
set_option maxRecDepth 100000 in
set_option maxHeartbeats 1600000 in
theorem itmkey_any (n : Int) (w : World) (hn : i64I n) :
    Calls Try.prog 41 #[.int .i64 n] w fun e w' => e = .returned (.string (itmK n)) ∧ w.grownBy w' none := by
  have hb : 0 ≤ (bits BinOp.and IntKind.i64 n 255).tmod 12 ∧ (bits BinOp.and IntKind.i64 n 255).tmod 12 < 12 := by
    rw [and_mask n 8 (by omega) 255 (by decide)]
    have h0 : 0 ≤ n % 2 ^ 8 := Int.emod_nonneg _ (by decide)
    rw [Int.tmod_eq_emod_of_nonneg h0]
    exact ⟨Int.emod_nonneg _ (by decide), Int.emod_lt_of_pos _ (by decide)⟩
  have hcv : ∀ o : Obj, Sem.run Try.prog (convert 51 9 (Value.slice (some { block := w.heap.size + 1, off := 0 }) 3 3)) ((w.alloc o).alloc (Obj.cells #[Value.int IntKind.u8 (n % 256), Value.int IntKind.u8 (n / 2 % 256), Value.int IntKind.u8 (n / 8 % 256)] 5)) = .ok (.string (strOfNums [n % 256, n / 2 % 256, n / 8 % 256])) ((w.alloc o).alloc (Obj.cells #[Value.int IntKind.u8 (n % 256), Value.int IntKind.u8 (n / 2 % 256), Value.int IntKind.u8 (n / 8 % 256)] 5)) := by
    intro o
    have h := own_lit3 (w.alloc o) 5 (.int .u8 (n % 256)) (.int .u8 (n / 2 % 256)) (.int .u8 (n / 8 % 256))
    have h2 : Ints .u8 _ _ [n % 256, n / 2 % 256, n / 8 % 256] := ints_of_own h (by
      intro m hm
      simp only [List.mem_cons, List.not_mem_nil, or_false] at hm
      rcases hm with rfl | rfl | rfl <;> (simp [Lit.wf, IntKind.min, IntKind.max, IntKind.signed, IntKind.bits]; omega))
    have h3 := run_string (P := Try.prog) h2 Try.underlying51 Try.underlying5 Try.underlying9
    simpa using h3
  have hK : itmK n = if (bits BinOp.and IntKind.i64 (n / 256) 15 == 15) = true then strOfNums [n % 256, n / 2 % 256, n / 8 % 256] else keyT.getD ((bits BinOp.and IntKind.i64 n 255).tmod 12).toNat ⟨#[]⟩ := rfl
  generalize strOfNums [n % 256, n / 2 % 256, n / 8 % 256] = str at *
  unfold i64I at hn
  cases hc : (bits BinOp.and IntKind.i64 (n / 256) 15 == 15)
  · rw [if_neg (by rw [hc]; simp)] at hK
    generalize hi : ((bits BinOp.and IntKind.i64 n 255).tmod 12).toNat = i at *
    have hi12 : i < 12 := by omega
    have HK := Lib.hid hK
    clear hK
    go_enter Try.func41, Try.ntmps41
    go_wp2_with fail
    rcases below12 hi12 with rfl | rfl | rfl | rfl | rfl | rfl | rfl | rfl | rfl | rfl | rfl | rfl
    all_goals
      go_ret
      rw [HK.out]
      exact ⟨rfl, grown_alloc _ _⟩
  · rw [if_pos hc] at hK
    have HK := Lib.hid hK
    clear hK
    go_enter Try.func41, Try.ntmps41
    go_wp2_with fail
    go_ret
    rw [HK.out]
    exact ⟨rfl, (grown_alloc _ _).trans' (grown_alloc _ _)⟩
def itmW (n : Int) : Int := if (bits BinOp.and IntKind.i64 (n / 4096) 15 == 14) = true then 1 + bits BinOp.and IntKind.i64 n 65535 * 65537 % 4294967295 else if (bits BinOp.and IntKind.i64 (n / 4096) 15 == 15) = true then 4294967295 - bits BinOp.and IntKind.i64 n 3 else 1 + bits BinOp.and IntKind.i64 (n / 16) 7
theorem itmW_in (n : Int) : 1 ≤ itmW n ∧ itmW n ≤ 4294967295 := by
  unfold itmW
  rw [and_mask n 16 (by omega) 65535 (by decide), and_mask n 2 (by omega) 3 (by decide), and_mask (n / 16) 3 (by omega) 7 (by decide)]
  split
  · omega
  · split <;> omega
set_option maxRecDepth 100000 in
set_option maxHeartbeats 1600000 in
theorem itm_any (n : Int) (w : World) (hn : i64I n) :
    Calls Try.prog 18 #[.int .i64 n] w fun e w' => e = .returned (.agg #[.string (itmK n), .int .i64 (itmW n)]) ∧ w.grownBy w' none := by
  have b1 : ∃ m, bits BinOp.and IntKind.i64 (n / 16) 7 = m ∧ 0 ≤ m ∧ m ≤ 7 := ⟨_, and_mask _ 3 (by omega) 7 (by decide), by omega, by omega⟩
  have b2 : ∃ m, bits BinOp.and IntKind.i64 n 65535 = m ∧ 0 ≤ m ∧ m ≤ 65535 := ⟨_, and_mask _ 16 (by omega) 65535 (by decide), by omega, by omega⟩
  have b3 : ∃ m, bits BinOp.and IntKind.i64 n 3 = m ∧ 0 ≤ m ∧ m ≤ 3 := ⟨_, and_mask _ 2 (by omega) 3 (by decide), by omega, by omega⟩
  have hW : itmW n = if (bits BinOp.and IntKind.i64 (n / 4096) 15 == 14) = true then 1 + bits BinOp.and IntKind.i64 n 65535 * 65537 % 4294967295 else if (bits BinOp.and IntKind.i64 (n / 4096) 15 == 15) = true then 4294967295 - bits BinOp.and IntKind.i64 n 3 else 1 + bits BinOp.and IntKind.i64 (n / 16) 7 := rfl
  have CK := Lib.hid (fun w => itmkey_any n w hn)
  obtain ⟨m1, e1, l1, u1⟩ := b1
  obtain ⟨m2, e2, l2, u2⟩ := b2
  obtain ⟨m3, e3, l3, u3⟩ := b3
  rw [e1, e2, e3] at hW
  unfold i64I at hn
  cases h14 : (bits BinOp.and IntKind.i64 (n / 4096) 15 == 14) <;> cases h15 : (bits BinOp.and IntKind.i64 (n / 4096) 15 == 15)
  all_goals
    rw [h14, h15] at hW
    simp only [if_true, if_false, Bool.false_eq_true, reduceIte] at hW
    have HW := Lib.hid hW
    clear hW
    go_enter Try.func18, Try.ntmps18
    go_wp2_with fail
    refine (CK.out _).mono ?_
    rintro e w1 ⟨rfl, g1⟩
    have hz1 := g1.size
    have z0 : w1.frozen? ⟨w.heap.size, 0, none⟩ = false := kfroz g1 (by simp [go_sem]) (by simp)
    have y0 : w1.cell? ⟨w.heap.size, 0, none⟩ = some (.string ⟨#[]⟩) := kcell g1 (by simp [go_sem]) (by simp)
    have z1 : w1.frozen? ⟨w.heap.size, 1, none⟩ = false := kfroz g1 (by simp [go_sem]) (by simp)
    have y1 : w1.cell? ⟨w.heap.size, 1, none⟩ = some (.int .i64 0) := kcell g1 (by simp [go_sem]) (by simp)
    go_wp2
    refine bodyPost_ret (v := .agg #[.string (itmK n), .int .i64 (itmW n)]) ?_ rfl ⟨rfl, ?_⟩
    · rw [HW.out]
      simp [results, Try.results18, go_sem, y0, y1]
    · exact grown_set (grown_set ((grown_alloc _ _).trans' g1) _ (Nat.le_refl _)) _ (Nat.le_refl _)
end Go.Proofs.Ythohjekfffebkaa
