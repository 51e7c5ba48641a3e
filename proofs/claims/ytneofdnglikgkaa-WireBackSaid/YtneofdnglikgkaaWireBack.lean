/- The walk of WireBack. Conditions: what the theorem takes. -/
import Derived.Test.YtneofdnglikgkaaWireLaws
import Derived.Test.YtneofdnglikgkaaWireBackLaw
import Derived.Test.YtneofdnglikgkaaBits
namespace Go.Proofs.Ytneofdnglikgkaa
open Go.RowKit Go.ChangeShapes Go.WideShapes
set_option linter.unusedVariables false
set_option linter.unusedSimpArgs false
set_option maxRecDepth 100000 in
set_option maxHeartbeats 3200000 in
theorem WireBack_walk (a0 : Int) (a1 : ByteArray) (v2 : Value) (l2 : List Int) (w : World) (h0 : (Lit.int .i64 a0).wf = true) (h1 : a1.size ≤ 140737488351232) (h2 : Ints .u8 w v2 l2) (s2 : l2.length * Try.prog.bytesOf 5 ≤ 140737488351232) :
    Calls Try.prog 6 #[.int .i64 a0, .string a1, v2] w fun e w' => e = .returned (.bool true) ∧ Below w.heap.size w w' := by
  have hv2 := h2
  obtain ⟨aa2, cap2, rfl, q1, q2, q3, q4⟩ := h2
  clear q4
  unfold maxLen at q2
  by_cases hl1 : a1.size ≤ 300
  · by_cases hl2 : l2.length ≤ 300
    · have hm := and_mask a0 62 (by omega) 4611686018427387903 (by decide)
      obtain ⟨n, hn, hn2⟩ : ∃ n : Nat, a0 % 2 ^ 62 = n ∧ (n : Int) ≤ 4611686018427387903 := ⟨(a0 % 2 ^ 62).toNat, by omega, by omega⟩
      rw [hn] at hm
      have hE : encE (n : Int) = 0 := by unfold encE; rw [if_neg (by omega)]
      have hLE : encL (n : Int) = encU n := by unfold encL; rw [if_neg (by omega)]
      have hTE : encTE a1 = 0 := by unfold encTE; rw [if_neg (by omega)]
      have e1 := fun (w : World) => encUint_any (n : Int) w
      have e2 := fun (w : World) => encText_any a1 w (by omega)
      rw [hE, hLE] at e1
      rw [hTE] at e2
      have d1 := decU_enc (n : Int) (by omega) (by omega) l2
      have d2 := decT_enc a1 (by omega) l2
      have c1 := decU_cut (n : Int) (by omega) (by omega)
      have c2 := decT_cut a1 (by omega)
      have wf1 := wf_encU (n : Int) (by omega)
      have wf2 := wf_encT a1
      have l9 := length_encU (n : Int)
      have lT : (encT a1).length ≤ 400 := by
        unfold encT
        rw [if_neg (by omega), List.length_append, length_sI]
        have := length_encU (a1.size : Int)
        omega
      generalize encU (n : Int) = A at *
      generalize encT a1 = B at *
      have E1 := Lib.hid e1
      have E2 := Lib.hid e2
      have D1 := Lib.hid d1
      have D2 := Lib.hid d2
      have C1 := Lib.hid c1
      have C2 := Lib.hid c2
      have WF1 := Lib.hid wf1
      have WF2 := Lib.hid wf2
      have Q3 := Lib.hid q3
      clear hn hE hLE hTE e1 e2 d1 d2 c1 c2 wf1 wf2 q3
      go_enter Try.func6, Try.ntmps6
      go_wp2_with fail
      refine (E1.out _).mono ?_
      rintro e w1 ⟨va, rfl, hoa, g1⟩
      have hIa := ints_of_own hoa WF1.out
      obtain ⟨aa, ca, rfl, hca, hca2⟩ := own_shape hoa
      go_wp2_with fail
      refine (E2.out _).mono ?_
      rintro e w2 ⟨vb, rfl, hob, g2⟩
      have hIb := ints_of_own hob WF2.out
      obtain ⟨ab, cb, rfl, hcb, hcb2⟩ := own_shape hob
      have z2 := (g1.trans' g2).size
      clear hoa hob
      go_wp2_with (at_builtin; refine wpList_appS _ rfl _ _ 24 24 rfl w2.heap.size 5 (.int .u8 0) 1 1 Try.underlying24 Try.infoU8 rfl (by decide) _ _ 0 _ [] _ (World.ownsRow_nil w2 _ _ _) rfl rfl ((hIa.grown g2).src Try.underlying24) (by unfold maxLen; omega) (by omega) (Nat.le_refl _) ?_)
      intro vc w3 hoc g3 _
      try simp only [Nat.zero_add, List.nil_append] at hoc
      have g23 := grown_trans (grown_refl w2) g3 (by intro k hk; cases hk)
      have z3 := g23.size
      go_wp2_with (at_builtin; refine wpList_appS _ rfl _ _ 24 24 rfl w2.heap.size 5 (.int .u8 0) 1 1 Try.underlying24 Try.infoU8 rfl (by decide) _ _ _ _ _ _ hoc rfl rfl ((hv2.grown ((g1.trans' g2).trans' g23)).src Try.underlying24) (by unfold maxLen; omega) (by omega) z3 ?_)
      intro vd w4 hod g4 _
      have g24 := grown_own g23 hoc g4
      have hod' : w4.ownsRow w2.heap.size 5 1 vd (A ++ l2).length ((A ++ l2).map (.int .u8)) := by
        rw [List.length_append, List.map_append]; exact hod
      have hId := ints_of_own hod' (fun n hn => by
        rcases List.mem_append.1 hn with h | h
        · exact WF1.out n h
        · exact Q3.out n h)
      have hIa4 := (hIa.grown g2).grown g24
      have hIb4 := hIb.grown g24
      have g04 := (g1.trans' g2).trans' g24
      clear hoc hod hod' g3 g4 g23 z3 hIa hIb
      have hdec := decUint_any _ _ _ hId
      rw [D1.out] at hdec
      simp only [tri] at hdec
      have HDEC := Lib.hid hdec
      clear hdec
      go_wp2_with fail
      refine HDEC.out.mono ?_
      rintro e w5 ⟨rfl, rfl⟩
      go_wp2_with (at_builtin; refine wpList_appS _ rfl _ _ 24 24 rfl w4.heap.size 5 (.int .u8 0) 1 1 Try.underlying24 Try.infoU8 rfl (by decide) _ _ 0 _ [] _ (World.ownsRow_nil w4 _ _ _) rfl rfl (hIb4.src Try.underlying24) (by unfold maxLen; omega) (by omega) (Nat.le_refl _) ?_)
      intro vc w5 hoc g5 _
      try simp only [Nat.zero_add, List.nil_append] at hoc
      have g45 := grown_trans (grown_refl w4) g5 (by intro k hk; cases hk)
      have z5 := g45.size
      go_wp2_with (at_builtin; refine wpList_appS _ rfl _ _ 24 24 rfl w4.heap.size 5 (.int .u8 0) 1 1 Try.underlying24 Try.infoU8 rfl (by decide) _ _ _ _ _ _ hoc rfl rfl ((hv2.grown (g04.trans' g45)).src Try.underlying24) (by unfold maxLen; omega) (by omega) z5 ?_)
      intro vd' w6 hod g6 _
      have g46 := grown_own g45 hoc g6
      have hod' : w6.ownsRow w4.heap.size 5 1 vd' (B ++ l2).length ((B ++ l2).map (.int .u8)) := by
        rw [List.length_append, List.map_append]; exact hod
      have hId' := ints_of_own hod' (fun n hn => by
        rcases List.mem_append.1 hn with h | h
        · exact WF2.out n h
        · exact Q3.out n h)
      have hIa6 := hIa4.grown g46
      have hIb6 := hIb4.grown g46
      have g06 := g04.trans' g46
      have hdec := decText_any _ _ _ hId'
      rw [D2.out] at hdec
      simp only [tri3] at hdec
      have HDEC' := Lib.hid hdec
      clear hdec hoc hod hod' g5 g6 g45 z5 hIa4 hIb4 HDEC hId hId'
      go_wp2_with fail
      refine HDEC'.out.mono ?_
      rintro e w7 ⟨rfl, rfl⟩
      clear HDEC' hv2 Q3
      go_wp2_with fail
      go_loop [17] (fun i => ∃ j : Nat, j ≤ A.length ∧ i = .int .i64 j) (fun i => A.length - (intOf i).toNat)
      case atStart => exact ⟨0, by omega, rfl⟩
      case round =>
        obtain ⟨j, hj, rfl⟩ := hrel
        by_cases hlt : j < A.length
        · have hdec := decUint_any _ _ _ (ints_prefix hIa6 (show j ≤ A.length by omega))
          rw [C1.out j hlt] at hdec
          simp only [tri] at hdec
          have HDEC := Lib.hid hdec
          clear hdec
          go_wp2_with (go_at_call 18; refine HDEC.out.mono ?_; rintro e w' ⟨rfl, rfl⟩)
          go_round
          case rel => exact ⟨j + 1, by omega, by go_num⟩
          case measure => simp [intOf]; omega
        · have hjf : j = A.length := by omega
          subst hjf
          clear hlt hj
          go_wp2_with fail
          go_loop [21] (fun i => ∃ j : Nat, j ≤ B.length ∧ i = .int .i64 j) (fun i => B.length - (intOf i).toNat)
          case atStart => exact ⟨0, by omega, rfl⟩
          case round =>
            obtain ⟨j, hj, rfl⟩ := hrel
            by_cases hlt : j < B.length
            · have hdec := decText_any _ _ _ (ints_prefix hIb6 (show j ≤ B.length by omega))
              rw [C2.out j hlt] at hdec
              simp only [tri3] at hdec
              have HDEC := Lib.hid hdec
              clear hdec
              go_wp2_with (go_at_call 19; refine HDEC.out.mono ?_; rintro e w' ⟨rfl, rfl⟩)
              go_round
              case rel => exact ⟨j + 1, by omega, by go_num⟩
              case measure => simp [intOf]; omega
            · have hjf : j = B.length := by omega
              subst hjf
              clear hlt hj
              go_wp2_with (go_at_call 10; refine (wire_known_any _).mono ?_; rintro e w' ⟨rfl, hk⟩)
              go_ret
              exact ⟨rfl, below_of_grown (g06.trans' hk)⟩
    · go_enter Try.func6, Try.ntmps6
      go_wp2_with (go_at_call 10; refine (wire_known_any _).mono ?_; rintro e w' ⟨rfl, hk⟩)
      go_ret
      exact ⟨rfl, below_of_grown hk⟩
  · go_enter Try.func6, Try.ntmps6
    go_wp2_with (go_at_call 10; refine (wire_known_any _).mono ?_; rintro e w' ⟨rfl, hk⟩)
    go_ret
    exact ⟨rfl, below_of_grown hk⟩
end Go.Proofs.Ytneofdnglikgkaa
