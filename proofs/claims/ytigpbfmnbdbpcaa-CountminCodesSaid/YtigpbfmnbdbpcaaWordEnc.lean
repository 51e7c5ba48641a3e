/- The walks of the encodings of words. No condition. -/
import Derived.Test.YtigpbfmnbdbpcaaUintEnc
namespace Go.Proofs.Ytigpbfmnbdbpcaa
open Go.RowKit Go.ChangeShapes Go.WideShapes
set_option linter.unusedVariables false
set_option linter.unusedSimpArgs false
theorem push_of {α : Type} {xs ys : List α} {b : α} {t : List α} (h : xs ++ b :: ys = t) : (xs ++ [b]) ++ ys = t := by rw [← h]; simp
set_option maxRecDepth 100000 in
set_option maxHeartbeats 400000 in
theorem encWord_any (n : Int) (w : World) :
    Calls Try.prog 52 #[.int .u64 n] w fun e w' => ∃ v, e = .returned v ∧
      w'.ownsRow w.heap.size 5 1 v 8 ((beB 8 n).map (.int .u8)) ∧ w.grownBy w' none := by
  go_enter Try.func52, Try.ntmps52
  go_wp2
  go_loopw [3, 4] (fun v i wr => ∃ (j : Nat) (xs : List Int), j < 9 ∧ i = .int .i64 (8 * (j : Int) - 8) ∧ Hid (xs ++ beB j n = beB 8 n) ∧ wr.ownsRow w.heap.size 5 1 v xs.length (xs.map (.int .u8)) ∧ w.grownBy wr none) (fun _ i _ => (intOf i + 8).toNat)
  case atStart => exact ⟨8, [], by omega, by go_num, rfl, World.ownsRow_nil _ _ _ _, grown_refl _⟩
  case round =>
    obtain ⟨j, xs, hj9, rfl, hx, hown, hg⟩ := hrel
    have hxl := enc_len hx.out
    rw [length_beB] at hxl
    have hsz := hg.size
    have hxb : xs.length ≤ 9 := by omega
    clear hxl
    match j, hx, hj9 with
    | 0, hx, _ =>
      have hxe : xs = beB 8 n := by have := hx.out; simpa [beB] using this
      subst hxe
      go_wp2
      go_ret
      exact ⟨_, rfl, hown, hg⟩
    | j + 1, hx, hj9 =>
      have hp : Hid ((xs ++ [n / 2 ^ (8 * (j + 1) - 8) % 256]) ++ beB j n = beB 8 n) := by
        rw [show 8 * (j + 1) - 8 = 8 * j from by omega]; exact enc_push hx.out
      clear hx
      go_wp2_with (at_builtin; refine wpList_app1 wr (.int .u8 (n / 2 ^ (8 * (j + 1) - 8) % 256)) rfl _ _ 49 rfl w.heap.size 5 (.int .u8 0) 1 Try.underlying49 Try.infoU8 rfl _ _ _ hown rfl rfl rfl (by unfold maxLen; omega) (by omega) hsz ?_)
      intro v' w' hown' hg'
      have hg3 := grown_own hg hown hg'
      clear hown
      go_wp2
      go_roundw
      case rel => exact ⟨j, xs ++ [n / 2 ^ (8 * (j + 1) - 8) % 256], by omega, by go_num, hp, by simpa using hown', hg3⟩
      case measure => simp [intOf]; omega
set_option maxRecDepth 100000 in
set_option maxHeartbeats 400000 in
theorem word_any (n : Int) (w : World) :
    Calls Try.prog 54 #[.int .u64 n] w fun e w' => ∃ v, e = .returned v ∧
      w'.ownsRow w.heap.size 5 1 v 8 ((beB 8 n).map (.int .u8)) ∧ w.grownBy w' none := by
  go_enter Try.func54, Try.ntmps54
  go_wp2
  go_loopw [3, 4] (fun v i wr => ∃ (j : Nat) (xs : List Int), j < 9 ∧ i = .int .i64 ((j : Int) - 1) ∧ Hid (xs ++ beB j n = beB 8 n) ∧ wr.ownsRow w.heap.size 5 1 v xs.length (xs.map (.int .u8)) ∧ w.grownBy wr none) (fun _ i _ => (intOf i + 8).toNat)
  case atStart => exact ⟨8, [], by omega, by go_num, rfl, World.ownsRow_nil _ _ _ _, grown_refl _⟩
  case round =>
    obtain ⟨j, xs, hj9, rfl, hx, hown, hg⟩ := hrel
    have hxl := enc_len hx.out
    rw [length_beB] at hxl
    have hsz := hg.size
    have hxb : xs.length ≤ 9 := by omega
    clear hxl
    match j, hx, hj9 with
    | 0, hx, _ =>
      have hxe : xs = beB 8 n := by have := hx.out; simpa [beB] using this
      subst hxe
      go_wp2
      go_ret
      exact ⟨_, rfl, hown, hg⟩
    | j + 1, hx, hj9 =>
      have hp : Hid ((xs ++ [n / 2 ^ (8 * j) % 256]) ++ beB j n = beB 8 n) := enc_push hx.out
      clear hx
      go_wp2_with (at_builtin; refine wpList_app1 wr (.int .u8 (n / 2 ^ (8 * j) % 256)) rfl _ _ 49 rfl w.heap.size 5 (.int .u8 0) 1 Try.underlying49 Try.infoU8 rfl _ _ _ hown rfl rfl rfl (by unfold maxLen; omega) (by omega) hsz ?_)
      intro v' w' hown' hg'
      have hg3 := grown_own hg hown hg'
      clear hown
      go_wp2
      go_roundw
      case rel => exact ⟨j, xs ++ [n / 2 ^ (8 * j) % 256], by omega, by go_num, hp, by simpa using hown', hg3⟩
      case measure => simp [intOf]; omega
end Go.Proofs.Ytigpbfmnbdbpcaa
