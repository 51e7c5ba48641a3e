/- The walks of the decodings of words. No condition. -/
import Derived.Test.YtigpbfmnbdbpcaaUintDec
namespace Go.Proofs.Ytigpbfmnbdbpcaa
open Go.RowKit Go.ChangeShapes Go.WideShapes
set_option linter.unusedVariables false
set_option linter.unusedSimpArgs false
set_option maxRecDepth 100000 in
set_option maxHeartbeats 800000 in
theorem decWord_any (v : Value) (l : List Int) (w : World) (hv : Ints .u8 w v l) :
    Calls Try.prog 67 #[v] w fun e w' => e = .returned (.tuple #[.int .u64 (decW l).1, .int .i64 (decW l).2.1, .int .i64 (decW l).2.2]) ∧ w = w' := by
  obtain ⟨a, cap, rfl, h1, h2, h3, h4⟩ := hv
  unfold maxLen at h2
  by_cases hl : l.length < 8
  · have hd : Hid (decW l = (0, 0, 3)) := by show _ = _; unfold decW; rw [if_pos hl]
    clear h4
    go_enter Try.func67, Try.ntmps67
    go_wp2
    go_ret3
    rw [hd.out]
    exact ⟨rfl, rfl⟩
  · have hd : Hid (decW l = (beV (l.take 8), 8, 0)) := by show _ = _; unfold decW; rw [if_neg hl]
    rcases h4 with rfl | ⟨b, off, rfl, hb, hc⟩
    · simp at hl
    go_enter Try.func67, Try.ntmps67
    go_wp2
    go_loop [2, 13] (fun x i => ∃ j : Nat, j ≤ 8 ∧ i = .int .i64 j ∧ x = .int .u64 (beV (l.take j))) (fun _ i => 8 - (intOf i).toNat)
    case atStart => exact ⟨0, by omega, rfl, rfl⟩
    case round =>
      obtain ⟨j, hj, rfl, rfl⟩ := hrel
      have hb1 := beV_take l h3 j
      by_cases hlt : j < 8
      · have hb2 := hb1 hlt
        have hcj := hc j (by omega)
        have hgj := gI_u8 h3 j
        have hst := beV_step hb2.1 hb2.2 hgj.1 hgj.2
        have hsn : Hid (beV (l.take (j + 1)) = beV (l.take j) * 256 + gI l j) := by
          show _ = _
          rw [take_succ_gI (by omega), beV_snoc]
        clear hb1 hc
        go_wp2
        go_round
        case rel => exact ⟨j + 1, by omega, by go_num, by rw [hsn.out]⟩
        case measure => simp [intOf]; omega
      · have : j = 8 := by omega
        subst this
        clear hb1 hc
        go_wp2
        go_ret3
        rw [hd.out]
        exact ⟨rfl, rfl⟩
set_option maxRecDepth 100000 in
set_option maxHeartbeats 800000 in
theorem decWordr_any (v : Value) (l : List Int) (w : World) (hv : Ints .u8 w v l) :
    Calls Try.prog 69 #[v] w fun e w' => e = .returned (.tuple #[.int .u64 (decW l).1, .int .i64 (decW l).2.1, .int .i64 (decW l).2.2]) ∧ w = w' := by
  obtain ⟨a, cap, rfl, h1, h2, h3, h4⟩ := hv
  unfold maxLen at h2
  by_cases hl : l.length < 8
  · have hd : Hid (decW l = (0, 0, 3)) := by show _ = _; unfold decW; rw [if_pos hl]
    clear h4
    go_enter Try.func69, Try.ntmps69
    go_wp2
    go_ret3
    rw [hd.out]
    exact ⟨rfl, rfl⟩
  · have hd : Hid (decW l = (beV (l.take 8), 8, 0)) := by show _ = _; unfold decW; rw [if_neg hl]
    rcases h4 with rfl | ⟨b, off, rfl, hb, hc⟩
    · simp at hl
    go_enter Try.func69, Try.ntmps69
    go_wp2
    go_loop [5, 6] (fun x i => ∃ j : Nat, j ≤ 8 ∧ i = .int .i64 j ∧ x = .int .u64 (beV (l.take j))) (fun _ i => 8 - (intOf i).toNat)
    case atStart => exact ⟨0, by omega, rfl, rfl⟩
    case round =>
      obtain ⟨j, hj, rfl, rfl⟩ := hrel
      have hb1 := beV_take l h3 j
      by_cases hlt : j < 8
      · have hb2 := hb1 hlt
        have hcj := hc j (by omega)
        have hgj := gI_u8 h3 j
        have hst := beV_step hb2.1 hb2.2 hgj.1 hgj.2
        have hsn : Hid (beV (l.take (j + 1)) = beV (l.take j) * 256 + gI l j) := by
          show _ = _
          rw [take_succ_gI (by omega), beV_snoc]
        clear hb1 hc
        go_wp2
        go_round
        case rel => exact ⟨j + 1, by omega, by go_num, by rw [hsn.out]⟩
        case measure => simp [intOf]; omega
      · have : j = 8 := by omega
        subst this
        clear hb1 hc
        go_wp2
        go_ret3
        rw [hd.out]
        exact ⟨rfl, rfl⟩
end Go.Proofs.Ytigpbfmnbdbpcaa
