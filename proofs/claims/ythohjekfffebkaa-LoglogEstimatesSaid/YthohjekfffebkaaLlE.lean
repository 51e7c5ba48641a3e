/- The walks of known and made. Conditions: Go's ints. -/
import Derived.Test.YthohjekfffebkaaLlD
namespace Go.Proofs.Ythohjekfffebkaa
open Go.RowKit Go.ChangeShapes Go.WideShapes
set_option linter.unusedVariables false
set_option linter.unusedSimpArgs false
set_option maxRecDepth 100000 in
set_option maxHeartbeats 1600000 in
theorem llest0_any (z : Int) (v : Value) (w : World) (hv : Ints .i64 w v [0, 0, 0, 0]) :
    Calls Try.prog 23 #[.agg #[.int .i64 2, .int .u64 z, v]] w fun e w' => e = .returned (.tuple #[.int .i64 0, .int .i64 0]) ∧ w.grownBy w' none := by
  have C1 := Lib.hid (fun w (h : Ints .i64 w v [0, 0, 0, 0]) => llvalid_any 2 z v [0, 0, 0, 0] w h)
  rw [show llE 2 [0, 0, 0, 0] = 0 from by decide] at C1
  have HV := Lib.hid hv
  obtain ⟨a, cap, rfl, -, -, -, -⟩ := id hv
  obtain ⟨bl, off, rfl, hbl, hcl⟩ := hv.at (by decide)
  have hc4 : ∀ i, i < 4 → w.cell? ⟨bl, off + i, none⟩ = some (.int .i64 0) := fun i hi => by
    have := hcl i hi
    rw [show gI [0, 0, 0, 0] i = 0 from by
      have : i = 0 ∨ i = 1 ∨ i = 2 ∨ i = 3 := by omega
      rcases this with rfl | rfl | rfl | rfl <;> rfl] at this
    exact this
  have HC := Lib.hid hc4
  clear hv hcl hc4
  go_enter Try.func23, Try.ntmps23
  go_wp2_with fail
  refine (C1.out _ (HV.out.grown (grown_alloc _ _))).mono ?_
  rintro e w1 ⟨rfl, g1⟩
  have G1 := (grown_alloc _ _).trans' g1
  obtain ⟨c10, c11, c12, c13⟩ := ((Blk.new w _ _).keep g1).at3
  go_wp2_with fail
  go_loop [5, 6, 27] (fun s z i => ∃ k : Nat, k ≤ 4 ∧ i = .int .i64 k ∧ s = .bool false ∧ z = .int .u64 ((k * 1125899906842624 : Nat) : Int)) (fun _ _ i => 4 - (intOf i).toNat)
  case atStart => exact ⟨0, by omega, rfl, rfl, rfl⟩
  case round =>
    obtain ⟨k, hk, rfl, rfl, rfl⟩ := hrel
    by_cases hlt : k < 4
    · have y := kcell G1 (HC.out k hlt) hbl
      have hk' : k = 0 ∨ k = 1 ∨ k = 2 ∨ k = 3 := by omega
      rcases hk' with rfl | rfl | rfl | rfl
      all_goals
        try simp only [Nat.add_zero] at y
        go_wp2
        go_round
        case rel => exact ⟨_ + 1, by omega, rfl, rfl, rfl⟩
        case measure => simp [intOf]
    · obtain rfl : k = 4 := by omega
      go_wp2
      go_ret2
      exact ⟨rfl, G1⟩
/-- How many of the first j registers are not zero when register I alone is set. -/
def oneB (I j : Nat) : Int := if I < j then 1 else 0
set_option maxRecDepth 100000 in
set_option maxHeartbeats 1600000 in
theorem knownll_any (w : World) :
    Calls Try.prog 10 #[] w fun e w' => e = .returned (.bool true) ∧ w.grownBy w' none := by
  have hE : liE 2 [0, 0, 0, 0] ⟨#[97]⟩ 1 = 0 := by decide
  have hI : ∀ x, liI 2 [0, 0, 0, 0] ⟨#[97]⟩ 1 x = x := fun x => by unfold liI; rw [if_pos hE]
  have hpi := pos_in (p := 2) (z := 0) (key := ⟨#[97]⟩) (by decide) (by decide)
  have hV : liV 2 0 [0, 0, 0, 0] ⟨#[97]⟩ 1 = [(0 : Int), 0, 0, 0].set (llI 2 0 ⟨#[97]⟩) (posK 2 0 ⟨#[97]⟩) := by
    unfold liV
    rw [if_pos hE]
    have hg : gI [0, 0, 0, 0] (llI 2 0 ⟨#[97]⟩) = 0 := by
      generalize llI 2 0 ⟨#[97]⟩ = i
      unfold gI
      match i with
      | 0 | 1 | 2 | 3 => rfl
      | n + 4 => rfl
    rw [hg, show max 0 (posK 2 0 ⟨#[97]⟩) = posK 2 0 ⟨#[97]⟩ by omega]
  have hi4 : llI 2 0 ⟨#[97]⟩ < 4 := by
    have : p2 2 = 4 := rfl
    unfold llI
    omega
  generalize llI 2 0 ⟨#[97]⟩ = I at *
  generalize posK 2 0 ⟨#[97]⟩ = K at *
  have C1 := Lib.hid (fun w => llnew_any 2 0 w)
  rw [show lnI 2 2 = 2 from by decide, show lnI 2 0 = 0 from by decide, show lnE 2 = 0 from by decide, show lnL 2 = [0, 0, 0, 0] from by decide] at C1
  have C2 := Lib.hid (fun v w (h : Ints .i64 w v [0, 0, 0, 0]) => llins_any 2 0 v [0, 0, 0, 0] ⟨#[97]⟩ 1 w h (by decide))
  simp only [hE, hV, hI] at C2
  have C3 := Lib.hid (fun v w (h : Ints .i64 w v [0, 0, 0, 0]) => llest0_any 0 v w h)
  clear hE hV hI
  go_enter Try.func10, Try.ntmps10
  go_wp2_with fail
  refine (C1.out _).mono ?_
  rintro e w1 ⟨u1, rfl, I1, -, g1⟩
  obtain ⟨a, cap, rfl, -, -, -, -⟩ := id I1
  go_wp2_with fail
  refine (C3.out _ _ (I1.grown (grown_alloc _ _))).mono ?_
  rintro e w2 ⟨rfl, g2⟩
  have b2 := (Blk.new w1 _ _).keep g2
  have I2 := I1.grown ((grown_alloc _ _).trans' g2)
  have G2 := (g1.trans' (grown_alloc _ _)).trans' g2
  obtain ⟨c10, c11, c12, c13⟩ := b2.at3
  go_wp2_with fail
  refine (C2.out _ _ I2).mono ?_
  rintro e w3 ⟨u3, rfl, I3, -, g3⟩
  obtain ⟨a3, cap3, rfl, -, -, -, -⟩ := id I3
  have hl4 : ([(0 : Int), 0, 0, 0].set I K).length = 4 := by simp
  obtain ⟨bl, off, rfl, hbl, hcl⟩ := I3.at (by omega)
  have G3 := G2.trans' g3
  have hc4 : ∀ i, i < 4 → w3.cell? ⟨bl, off + i, none⟩ = some (.int .i64 (if i = I then K else 0)) := fun i hi => by
    have := hcl i (by omega)
    rw [gI_set _ _ _ _ (by simpa using hi4)] at this
    rw [this]
    by_cases h : i = I
    · rw [if_pos h, if_pos h]
    · rw [if_neg h, if_neg h]
      have : i = 0 ∨ i = 1 ∨ i = 2 ∨ i = 3 := by omega
      rcases this with rfl | rfl | rfl | rfl <;> rfl
  have HC := Lib.hid hc4
  rw [hl4] at *
  clear hc4 hcl hl4 c10 c11 c12 c13
  go_wp2_with fail
  refine wAbs (P := fun w' => w3.grownBy w' none ∧ Blk w3.heap.size _ _ w') ⟨grown_alloc _ _, Blk.new _ _ _⟩ ?_
  rintro w4 ⟨g4, b4⟩
  obtain ⟨c10, c11, c12, c13⟩ := b4.at3
  go_loop [7, 8] (fun c i => ∃ k : Nat, k ≤ 4 ∧ i = .int .i64 k ∧ c = .int .i64 (oneB I k)) (fun _ i => 4 - (intOf i).toNat)
  case atStart => exact ⟨0, by omega, rfl, rfl⟩
  case round =>
    obtain ⟨k, hk, rfl, rfl⟩ := hrel
    by_cases hlt : k < 4
    · have y := kcell g4 (HC.out k hlt) hbl
      have e1 : (k : Int) < 4 := by omega
      have e2 : (0 : Int) ≤ k := by omega
      by_cases hki : k = I
      · rw [if_pos hki] at y
        have ho : oneB I k = 0 := by unfold oneB; rw [if_neg (by omega)]
        have ho2 : Hid (oneB I (k + 1) = 1) := by show _ = _; unfold oneB; rw [if_pos (by omega)]
        have hkk : (K != 0) = true := by rw [bne_iff_ne]; omega
        rw [ho]
        clear ho hki
        go_wp2
        go_round
        case rel => exact ⟨k + 1, by omega, by go_num, by rw [ho2.out]⟩
        case measure => simp [intOf]; omega
      · rw [if_neg hki] at y
        have ho : oneB I (k + 1) = oneB I k := by unfold oneB; by_cases h : I < k <;> simp [h] <;> omega
        have HO := Lib.hid ho
        clear ho hki
        generalize oneB I k = ok at *
        go_wp2
        go_round
        case rel => exact ⟨k + 1, by omega, by go_num, by rw [HO.out]⟩
        case measure => simp [intOf]; omega
    · obtain rfl : k = 4 := by omega
      have ho : oneB I 4 = 1 := by unfold oneB; rw [if_pos hi4]
      rw [ho]
      go_wp2
      go_ret
      exact ⟨rfl, G3.trans' g4⟩
end Go.Proofs.Ythohjekfffebkaa
