/- The walk of CountminEstimates. Conditions: Go's ints, a string of Go's size. -/
import Derived.Test.YtigpbfmnbdbpcaaCmN
namespace Go.Proofs.Ytigpbfmnbdbpcaa
open Go.RowKit Go.ChangeShapes Go.WideShapes
set_option linter.unusedVariables false
set_option linter.unusedSimpArgs false
set_option maxRecDepth 100000 in
set_option maxHeartbeats 3200000 in
theorem CountminEstimates_walk (a0 a1 a2 : Int) (v3 : Value) (l3 : List Int) (a4 : Int) (a5 : ByteArray) (w : World) (h0 : (Lit.int .i64 a0).wf = true) (h1 : (Lit.int .i64 a1).wf = true) (h2 : (Lit.int .i64 a2).wf = true) (h3 : Ints .i64 w v3 l3) (hb3 : l3.length * 8 ≤ 140737488351232) (h4 : (Lit.int .i64 a4).wf = true) (h5 : a5.size ≤ 140737488351232) :
    Calls Try.prog 5 #[.int .i64 a0, .int .i64 a1, .int .i64 a2, v3, .int .i64 a4, .string a5] w fun e w' => e = .returned (.bool true) ∧ Below w.heap.size w w' := by
  have b0 := bounds_i64 h0
  have b1 := bounds_i64 h1
  have b2 := bounds_i64 h2
  have b4 := bounds_i64 h4
  have KN := Lib.hid (fun w => knowncm_any w)
  have C1 := madecm_any a0 a1 a2 v3 l3 w (by unfold i64I; omega) (by unfold i64I; omega) (by unfold i64I; omega) h3
  have hlen := mdL_len a0 a1 a2 ((l3.map itmOf).take 7)
  have hDD := mdD_in a0
  have hSS := mdS_in a1
  generalize mdL a0 a1 a2 ((l3.map itmOf).take 7) = L1 at *
  generalize mdB a0 a1 a2 ((l3.map itmOf).take 7) = B1 at *
  generalize mdD a0 = D1 at *
  generalize mdS a1 = S1 at *
  generalize i2u a2 = Z1 at *
  have D1c := Lib.hid C1
  have D2c := Lib.hid (fun v w (h : Ints .i64 w v L1) => spoilcm_any D1 S1 Z1 v L1 B1 a4 w h (by unfold i64I; omega) (by unfold i64I; omega) (by unfold i64I; omega) (by omega) (by omega))
  have D3c := Lib.hid (fun w => itmkey_any (a4 / 256) w (by unfold i64I; omega))
  have hK := itmK_size (a4 / 256)
  generalize itmK (a4 / 256) = key at *
  obtain ⟨a, cap, rfl, -, -, -, -⟩ := id h3
  clear C1 h0 h1 h2 h4 h3 hlen hDD hSS
  by_cases hs : a5.size > 100
  · have hs' : (a5.size : Int) > 100 := by omega
    go_enter Try.func5, Try.ntmps5
    go_wp2_with fail
    refine (KN.out _).mono ?_
    rintro e w1 ⟨rfl, g1⟩
    go_wp2
    go_ret
    exact ⟨rfl, below_of_grown g1⟩
  go_enter Try.func5, Try.ntmps5
  go_wp2_with fail
  refine D1c.out.mono ?_
  rintro e w1 ⟨v1, rfl, I1, g1⟩
  obtain ⟨x1, y1, rfl, -, -, -, -⟩ := id I1
  go_wp2_with fail
  refine (D2c.out _ _ I1).mono ?_
  rintro e w2 ⟨D, S, v2, L, rfl, I2, iD, iS, g2⟩
  obtain ⟨x2, y2, rfl, -, -, -, -⟩ := id I2
  have G2 := g1.trans' g2
  have E1 := Lib.hid (fun w (h : Ints .i64 w (.slice x2 L.length y2) L) => cmest_any D S Z1 _ L B1 a5 w h (by omega))
  have E2 := Lib.hid (fun w (h : Ints .i64 w (.slice x2 L.length y2) L) => cmestr_any D S Z1 _ L B1 a5 w h (by omega))
  have E3 := Lib.hid (fun w (h : Ints .i64 w (.slice x2 L.length y2) L) => cmest_any D S Z1 _ L B1 key w h (by omega))
  have E4 := Lib.hid (fun w (h : Ints .i64 w (.slice x2 L.length y2) L) => cmestr_any D S Z1 _ L B1 key w h (by omega))
  generalize estV D S Z1 L a5 = V5 at *
  generalize estE D S L a5 = E5 at *
  generalize estV D S Z1 L key = V6 at *
  generalize estE D S L key = E6 at *
  go_wp2_with fail
  refine (E1.out _ (I2.grown (grown_alloc _ _))).mono ?_
  rintro e w3 ⟨rfl, g3⟩
  have c3 := (Blk.new w2 _ _).keep g3
  have I3 := I2.grown ((grown_alloc _ _).trans' g3)
  have G3 := (G2.trans' (grown_alloc _ _)).trans' g3
  obtain ⟨c30, c31, c32, c33, c34, c35⟩ := c3.at5
  go_wp2_with fail
  refine (E2.out _ I3).mono ?_
  rintro e w4 ⟨rfl, g4⟩
  have c4 := c3.keep g4
  have I4 := I3.grown g4
  have G4 := G3.trans' g4
  clear c30 c31 c32 c33 c34 c35 c3 I3 I2 I1
  obtain ⟨c40, c41, c42, c43, c44⟩ := c4.ev5
  go_wp2_with fail
  refine wp_region_seq [true, true, true, false, false, true, true, true, true, true] (fun w' => w4.grownBy w' none) (by kernel_rfl) (by kernel_rfl) (by kernel_rfl) (grown_drew1 _) ?_
  repeat (first
      | ((refine seq_skip (by rfl) ?_); (try simp only [Act.put, List.setIfInBounds_toArray, List.set_cons_zero, List.set_cons_succ]))
      | ((refine seq_take ?_ (by rfl) ?_ ?_); rotate_left; (focus (intro w' hS; go_simp; first | done | with_reducible rfl)); (try simp only [Act.put, List.setIfInBounds_toArray, List.set_cons_zero, List.set_cons_succ])))
  refine seq_run (by rfl) ?_
  intro K hK
  go_simp
  refine (D3c.out _).mono ?_
  rintro e w5 ⟨rfl, g5⟩
  refine hK _ _ ((grown_drew1 _).trans' g5) ?_
  clear hK K
  try simp only [Act.put, List.setIfInBounds_toArray, List.set_cons_zero, List.set_cons_succ]
  repeat (first
      | ((refine seq_skip (by rfl) ?_); (try simp only [Act.put, List.setIfInBounds_toArray, List.set_cons_zero, List.set_cons_succ]))
      | ((refine seq_take ?_ (by rfl) ?_ ?_); rotate_left; (focus (intro w' hS; go_simp; first | done | with_reducible rfl)); (try simp only [Act.put, List.setIfInBounds_toArray, List.set_cons_zero, List.set_cons_succ])))
  have G5 := (grown_drew1 w4).trans' g5
  refine seq_run (by rfl) ?_
  intro K hK
  go_simp
  refine (E3.out _ (I4.grown G5)).mono ?_
  rintro e w6 ⟨rfl, g6⟩
  refine hK _ _ (G5.trans' g6) ?_
  clear hK K
  try simp only [Act.put, List.setIfInBounds_toArray, List.set_cons_zero, List.set_cons_succ]
  repeat (first
      | ((refine seq_skip (by rfl) ?_); (try simp only [Act.put, List.setIfInBounds_toArray, List.set_cons_zero, List.set_cons_succ]))
      | ((refine seq_take ?_ (by rfl) ?_ ?_); rotate_left; (focus (intro w' hS; go_simp; first | done | with_reducible rfl)); (try simp only [Act.put, List.setIfInBounds_toArray, List.set_cons_zero, List.set_cons_succ])))
  have G6 := G5.trans' g6
  refine seq_end ?_
  have c6 := c4.keep G6
  have I6 := I4.grown G6
  clear c40 c41 c42 c43 c44 c4 I4
  obtain ⟨c60, c61, c62, c63, c64⟩ := c6.ev5
  go_wp2_with fail
  refine wp_region_seq [true, true, true, false, false, true, true, true, true, true] (fun w' => w6.grownBy w' none) (by kernel_rfl) (by kernel_rfl) (by kernel_rfl) (grown_drew1 _) ?_
  repeat (first
      | ((refine seq_skip (by rfl) ?_); (try simp only [Act.put, List.setIfInBounds_toArray, List.set_cons_zero, List.set_cons_succ]))
      | ((refine seq_take ?_ (by rfl) ?_ ?_); rotate_left; (focus (intro w' hS; go_simp; first | done | with_reducible rfl)); (try simp only [Act.put, List.setIfInBounds_toArray, List.set_cons_zero, List.set_cons_succ])))
  refine seq_run (by rfl) ?_
  intro K hK
  go_simp
  refine (D3c.out _).mono ?_
  rintro e w7 ⟨rfl, g7⟩
  refine hK _ _ ((grown_drew1 _).trans' g7) ?_
  clear hK K
  try simp only [Act.put, List.setIfInBounds_toArray, List.set_cons_zero, List.set_cons_succ]
  repeat (first
      | ((refine seq_skip (by rfl) ?_); (try simp only [Act.put, List.setIfInBounds_toArray, List.set_cons_zero, List.set_cons_succ]))
      | ((refine seq_take ?_ (by rfl) ?_ ?_); rotate_left; (focus (intro w' hS; go_simp; first | done | with_reducible rfl)); (try simp only [Act.put, List.setIfInBounds_toArray, List.set_cons_zero, List.set_cons_succ])))
  have G7 := (grown_drew1 w6).trans' g7
  refine seq_run (by rfl) ?_
  intro K hK
  go_simp
  refine (E4.out _ (I6.grown G7)).mono ?_
  rintro e w8 ⟨rfl, g8⟩
  refine hK _ _ (G7.trans' g8) ?_
  clear hK K
  try simp only [Act.put, List.setIfInBounds_toArray, List.set_cons_zero, List.set_cons_succ]
  repeat (first
      | ((refine seq_skip (by rfl) ?_); (try simp only [Act.put, List.setIfInBounds_toArray, List.set_cons_zero, List.set_cons_succ]))
      | ((refine seq_take ?_ (by rfl) ?_ ?_); rotate_left; (focus (intro w' hS; go_simp; first | done | with_reducible rfl)); (try simp only [Act.put, List.setIfInBounds_toArray, List.set_cons_zero, List.set_cons_succ])))
  refine seq_end ?_
  clear c60 c61 c62 c63 c64
  go_wp2_with fail
  refine (KN.out _).mono ?_
  rintro e w9 ⟨rfl, g9⟩
  go_wp2
  go_ret
  exact ⟨rfl, below_of_grown (((G4.trans' G6).trans' (G7.trans' g8)).trans' g9)⟩
end Go.Proofs.Ytigpbfmnbdbpcaa
