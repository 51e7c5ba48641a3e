/- The walks of the decodings of numbers. No condition. -/
import Derived.Test.YtigpbfmnbdbpcaaWireSpec
namespace Go.Proofs.Ytigpbfmnbdbpcaa
open Go.RowKit Go.ChangeShapes Go.WideShapes
set_option linter.unusedVariables false
set_option linter.unusedSimpArgs false
def tri (r : Int × Int × Int) : Value := .tuple #[.int .i64 r.1, .int .i64 r.2.1, .int .i64 r.2.2]
theorem ret_tri {a b c a' b' c' : Int} (h1 : a = a') (h2 : b = b') (h3 : c = c') : Ending.returned (.tuple #[.int .i64 a, .int .i64 b, .int .i64 c]) = .returned (tri (a', b', c')) := by rw [h1, h2, h3]; rfl
set_option maxRecDepth 100000 in
set_option maxHeartbeats 800000 in
theorem decUint_any (v : Value) (l : List Int) (w : World) (hv : Ints .u8 w v l) :
    Calls Try.prog 66 #[v] w fun e w' => e = .returned (tri (decU l)) ∧ w = w' := by
  obtain ⟨a, cap, rfl, h1, h2, h3, h4⟩ := hv
  unfold maxLen at h2
  rcases h4 with rfl | ⟨b, off, rfl, hb, hc⟩
  · go_enter Try.func66, Try.ntmps66
    go_wp2
    go_ret3
    exact ⟨rfl, rfl⟩
  · by_cases hl0 : l = []
    · subst hl0
      go_enter Try.func66, Try.ntmps66
      go_wp2
      go_ret3
      exact ⟨rfl, rfl⟩
    · have hlen : 0 < l.length := List.length_pos_iff.2 hl0
      have hne : ((l.length : Int) == 0) = false := beq_eq_false_iff_ne.2 (by omega)
      have c0 : w.cell? ⟨b, off, none⟩ = some (.int .u8 (gI l 0)) := hc 0 hlen
      have g0 := gI_u8 h3 0
      by_cases hs : gI l 0 < 248
      · have hd : Hid (decU l = (gI l 0, 1, 0)) := by unfold decU; rw [if_neg hl0, if_pos hs]; exact rfl
        clear hl0 hc
        go_enter Try.func66, Try.ntmps66
        go_wp2
        go_ret3
        rw [hd.out]
        exact ⟨rfl, rfl⟩
      · by_cases hk : (l.length : Int) ≤ gI l 0 - 247
        · have hd : Hid (decU l = (0, 0, 3)) := by unfold decU; rw [if_neg hl0, if_neg hs, if_pos hk]; exact rfl
          clear hl0 hc
          go_enter Try.func66, Try.ntmps66
          go_wp2
          go_ret3
          rw [hd.out]
          exact ⟨rfl, rfl⟩
        · obtain ⟨k, hkk⟩ : ∃ k : Nat, gI l 0 = 248 + k := ⟨(gI l 0 - 248).toNat, by omega⟩
          have hd : decU l = if gI l 1 = 0 ∨ beV (l.tail.take (k + 1)) < 248 ∨ beV (l.tail.take (k + 1)) > 4611686018427387904 then (0, 0, 2) else (beV (l.tail.take (k + 1)), (k : Int) + 2, 0) := by
            have e1 : (gI l 0 - 247).toNat = k + 1 := by omega
            have e2 : gI l 0 - 246 = k + 2 := by omega
            unfold decU; rw [if_neg hl0, if_neg hs, if_neg hk, e1, e2]
          have HD := Lib.hid hd
          clear hd hl0
          have hk1 : k < 8 ∧ k + 1 < l.length := by omega
          rw [hkk] at c0 g0 hs hk
          clear hkk
          have c1 := hc 1 (by omega)
          have e5 : (248 + (k : Int) - 248) = k := by omega
          go_enter Try.func66, Try.ntmps66
          go_wp2
          go_loop [6, 36] (fun x i => ∃ j : Nat, j ≤ k + 1 ∧ i = .int .i64 j ∧ x = .int .u64 (beV (l.tail.take j))) (fun _ i => (k + 1) - (intOf i).toNat)
          case atStart => exact ⟨0, by omega, rfl, rfl⟩
          case round =>
            obtain ⟨j, hj, rfl, rfl⟩ := hrel
            have hb1 := beV_take l.tail (fun n hn => h3 n (List.mem_of_mem_tail hn)) j
            by_cases hlt : j < k + 1
            · have hb2 := hb1 (by omega)
              have hcj : w.cell? ⟨b, off + 1 + j, none⟩ = some (.int .u8 (gI l (1 + j))) := by have := hc (1 + j) (by omega); rwa [← Nat.add_assoc] at this
              have hgj := gI_u8 h3 (1 + j)
              have hst := beV_step hb2.1 hb2.2 hgj.1 hgj.2
              have hsn : Hid (beV (l.tail.take (j + 1)) = beV (l.tail.take j) * 256 + gI l (1 + j)) := by
                show _ = _
                rw [take_succ_gI (by rw [List.length_tail]; omega), beV_snoc, ← List.drop_one, gI_drop]
              clear hb1 hc
              go_wp2
              go_round
              case rel => exact ⟨j + 1, by omega, by go_num, by rw [hsn.out]⟩
              case measure => simp [intOf]; omega
            · have hjk : j = k + 1 := by omega
              subst hjk
              have hX := (beV_lt (l.tail.take (k + 1)) (fun n hn => h3 n (List.mem_of_mem_tail (List.mem_of_mem_take hn)))).1
              clear hb1 hc
              obtain ⟨X, hXX⟩ : ∃ X, X = beV (l.tail.take (k + 1)) := ⟨_, rfl⟩
              rw [← hXX] at HD hX ⊢
              clear hXX
              by_cases z1 : gI l 1 = 0
              · have HD' : Hid (decU l = (0, 0, 2)) := by show _ = _; rw [HD.out, if_pos (.inl z1)]
                have z : (gI l 1 == 0) = true := beq_iff_eq.2 z1
                clear z1 HD
                go_wp2
                go_ret3
                rw [HD'.out]
                exact ⟨rfl, rfl⟩
              · have z : (gI l 1 == 0) = false := beq_eq_false_iff_ne.2 z1
                by_cases z2 : X < 248
                · have HD' : Hid (decU l = (0, 0, 2)) := by show _ = _; rw [HD.out, if_pos (.inr (.inl z2))]
                  clear z1 HD
                  go_wp2
                  go_ret3
                  rw [HD'.out]
                  exact ⟨rfl, rfl⟩
                · by_cases z3 : X > 4611686018427387904
                  · have HD' : Hid (decU l = (0, 0, 2)) := by show _ = _; rw [HD.out, if_pos (.inr (.inr z3))]
                    clear z1 HD
                    go_wp2
                    go_ret3
                    rw [HD'.out]
                    exact ⟨rfl, rfl⟩
                  · have HD' : Hid (decU l = (X, (k : Int) + 2, 0)) := by show _ = _; rw [HD.out, if_neg (by omega)]
                    clear z1 HD
                    go_wp2
                    go_ret3
                    rw [HD'.out]
                    exact ⟨ret_tri rfl (by omega) rfl, rfl⟩
set_option maxRecDepth 100000 in
set_option maxHeartbeats 800000 in
theorem decUintr_any (v : Value) (l : List Int) (w : World) (hv : Ints .u8 w v l) :
    Calls Try.prog 68 #[v] w fun e w' => e = .returned (tri (decU l)) ∧ w = w' := by
  obtain ⟨a, cap, rfl, h1, h2, h3, h4⟩ := hv
  unfold maxLen at h2
  rcases h4 with rfl | ⟨b, off, rfl, hb, hc⟩
  · go_enter Try.func68, Try.ntmps68
    go_wp2
    go_ret3
    exact ⟨rfl, rfl⟩
  · by_cases hl0 : l = []
    · subst hl0
      go_enter Try.func68, Try.ntmps68
      go_wp2
      go_ret3
      exact ⟨rfl, rfl⟩
    · have hlen : 0 < l.length := List.length_pos_iff.2 hl0
      have hne : ((l.length : Int) == 0) = false := beq_eq_false_iff_ne.2 (by omega)
      have c0 : w.cell? ⟨b, off, none⟩ = some (.int .u8 (gI l 0)) := hc 0 hlen
      have g0 := gI_u8 h3 0
      by_cases hs : gI l 0 < 248
      · have hd : Hid (decU l = (gI l 0, 1, 0)) := by unfold decU; rw [if_neg hl0, if_pos hs]; exact rfl
        clear hl0 hc
        go_enter Try.func68, Try.ntmps68
        go_wp2
        go_ret3
        rw [hd.out]
        exact ⟨rfl, rfl⟩
      · by_cases hk : (l.length : Int) ≤ gI l 0 - 247
        · have hd : Hid (decU l = (0, 0, 3)) := by unfold decU; rw [if_neg hl0, if_neg hs, if_pos hk]; exact rfl
          clear hl0 hc
          go_enter Try.func68, Try.ntmps68
          go_wp2
          go_ret3
          rw [hd.out]
          exact ⟨rfl, rfl⟩
        · obtain ⟨k, hkk⟩ : ∃ k : Nat, gI l 0 = 248 + k := ⟨(gI l 0 - 248).toNat, by omega⟩
          have hd : decU l = if gI l 1 = 0 ∨ beV (l.tail.take (k + 1)) < 248 ∨ beV (l.tail.take (k + 1)) > 4611686018427387904 then (0, 0, 2) else (beV (l.tail.take (k + 1)), (k : Int) + 2, 0) := by
            have e1 : (gI l 0 - 247).toNat = k + 1 := by omega
            have e2 : gI l 0 - 246 = k + 2 := by omega
            unfold decU; rw [if_neg hl0, if_neg hs, if_neg hk, e1, e2]
          have HD := Lib.hid hd
          clear hd hl0
          have hk1 : k < 8 ∧ k + 1 < l.length := by omega
          rw [hkk] at c0 g0 hs hk
          clear hkk
          have c1 := hc 1 (by omega)
          have e5 : (248 + (k : Int) - 247) = k + 1 := by omega
          go_enter Try.func68, Try.ntmps68
          go_wp2
          go_loop [6, 7] (fun x i => ∃ j : Nat, j ≤ k + 1 ∧ i = .int .i64 ((j : Int) + 1) ∧ x = .int .u64 (beV (l.tail.take j))) (fun _ i => (k + 2) - (intOf i).toNat)
          case atStart => exact ⟨0, by omega, by go_num, rfl⟩
          case round =>
            obtain ⟨j, hj, rfl, rfl⟩ := hrel
            have hb1 := beV_take l.tail (fun n hn => h3 n (List.mem_of_mem_tail hn)) j
            by_cases hlt : j < k + 1
            · have hb2 := hb1 (by omega)
              have hcj := hc (j + 1) (by omega)
              have hgj := gI_u8 h3 (j + 1)
              have hst := beV_step hb2.1 hb2.2 hgj.1 hgj.2
              have hsn : Hid (beV (l.tail.take (j + 1)) = beV (l.tail.take j) * 256 + gI l (j + 1)) := by
                show _ = _
                rw [take_succ_gI (by rw [List.length_tail]; omega), beV_snoc, ← List.drop_one, gI_drop, Nat.add_comm 1 j]
              clear hb1 hc
              go_wp2
              go_round
              case rel => exact ⟨j + 1, by omega, by go_num, by rw [hsn.out]⟩
              case measure => simp [intOf]; omega
            · have hjk : j = k + 1 := by omega
              subst hjk
              have hX := (beV_lt (l.tail.take (k + 1)) (fun n hn => h3 n (List.mem_of_mem_tail (List.mem_of_mem_take hn)))).1
              clear hb1 hc
              obtain ⟨X, hXX⟩ : ∃ X, X = beV (l.tail.take (k + 1)) := ⟨_, rfl⟩
              rw [← hXX] at HD hX ⊢
              clear hXX
              by_cases z1 : gI l 1 = 0
              · have HD' : Hid (decU l = (0, 0, 2)) := by show _ = _; rw [HD.out, if_pos (.inl z1)]
                have z : (gI l 1 == 0) = true := beq_iff_eq.2 z1
                clear z1 HD
                go_wp2
                go_ret3
                rw [HD'.out]
                exact ⟨rfl, rfl⟩
              · have z : (gI l 1 == 0) = false := beq_eq_false_iff_ne.2 z1
                by_cases z2 : X < 248
                · have HD' : Hid (decU l = (0, 0, 2)) := by show _ = _; rw [HD.out, if_pos (.inr (.inl z2))]
                  clear z1 HD
                  go_wp2
                  go_ret3
                  rw [HD'.out]
                  exact ⟨rfl, rfl⟩
                · by_cases z3 : X > 4611686018427387904
                  · have HD' : Hid (decU l = (0, 0, 2)) := by show _ = _; rw [HD.out, if_pos (.inr (.inr z3))]
                    clear z1 HD
                    go_wp2
                    go_ret3
                    rw [HD'.out]
                    exact ⟨rfl, rfl⟩
                  · have HD' : Hid (decU l = (X, (k : Int) + 2, 0)) := by show _ = _; rw [HD.out, if_neg (by omega)]
                    clear z1 HD
                    go_wp2
                    go_ret3
                    rw [HD'.out]
                    exact ⟨ret_tri rfl (by omega) rfl, rfl⟩
end Go.Proofs.Ytigpbfmnbdbpcaa
