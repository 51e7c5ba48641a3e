/- The walk of CountminMerges. Conditions: Go's ints. -/
import Derived.Test.YtigpbfmnbdbpcaaCmQ
namespace Go.Proofs.Ytigpbfmnbdbpcaa
open Go.RowKit Go.ChangeShapes Go.WideShapes
set_option linter.unusedVariables false
set_option linter.unusedSimpArgs false
theorem wrap_i64I (x : Int) : i64I (wrap64 x) := by unfold i64I wrap64; omega
set_option maxRecDepth 100000 in
set_option maxHeartbeats 3200000 in
theorem CountminMerges_walk (a0 a1 a2 : Int) (v3 : Value) (l3 : List Int) (v4 : Value) (l4 : List Int) (a5 : Int) (w : World) (h0 : (Lit.int .i64 a0).wf = true) (h1 : (Lit.int .i64 a1).wf = true) (h2 : (Lit.int .i64 a2).wf = true) (h3 : Ints .i64 w v3 l3) (hb3 : l3.length * 8 ≤ 140737488351232) (h4 : Ints .i64 w v4 l4) (hb4 : l4.length * 8 ≤ 140737488351232) (h5 : (Lit.int .i64 a5).wf = true) :
    Calls Try.prog 7 #[.int .i64 a0, .int .i64 a1, .int .i64 a2, v3, v4, .int .i64 a5] w fun e w' => e = .returned (.bool true) ∧ Below w.heap.size w w' := by
  have b0 := bounds_i64 h0
  have b1 := bounds_i64 h1
  have b2 := bounds_i64 h2
  have b5 := bounds_i64 h5
  have KN := Lib.hid (fun w => knowncm_any w)
  have MD := Lib.hid (fun a b c v l w ha hb hc hv => madecm_any a b c v l w ha hb hc hv)
  have SP := Lib.hid (fun d s z v l b n w hv hd hs hn h1 h2 => spoilcm_any d s z v l b n w hv hd hs hn h1 h2)
  obtain ⟨a, cap, rfl, -, -, -, -⟩ := id h3
  obtain ⟨a', cap', rfl, -, -, -, -⟩ := id h4
  have H3 := Lib.hid h3
  have H4 := Lib.hid h4
  clear h0 h1 h2 h3 h4 h5
  go_enter Try.func7, Try.ntmps7
  go_wp2_with fail
  refine (MD.out _ _ _ _ _ _ (by unfold i64I; omega) (by unfold i64I; omega) (by unfold i64I; omega) H3.out).mono ?_
  rintro e w1 ⟨v1, rfl, I1, g1⟩
  have q1 := mdL_len a0 a1 a2 ((l3.map itmOf).take 7)
  have qd := mdD_in a0
  have qs := mdS_in a1
  generalize mdL a0 a1 a2 ((l3.map itmOf).take 7) = L1 at *
  generalize mdB a0 a1 a2 ((l3.map itmOf).take 7) = B1 at *
  generalize mdD a0 = D1 at *
  generalize mdS a1 = S1 at *
  generalize i2u a2 = Z1 at *
  obtain ⟨x1, y1, rfl, -, -, -, -⟩ := id I1
  go_wp2_with fail
  refine (SP.out _ _ _ _ _ _ _ _ I1 (by unfold i64I; omega) (by unfold i64I; omega) (by unfold i64I; omega) (by omega) (by omega)).mono ?_
  rintro e w2 ⟨D, S, v2, L, rfl, I2, iD, iS, g2⟩
  obtain ⟨x2, y2, rfl, -, -, -, -⟩ := id I2
  clear I1 q1 qd qs
  have G2 := g1.trans' g2
  go_wp2_with fail
  obtain ⟨A0, hA0⟩ : ∃ x, wrap64 (a0 + wrap64 ((bits BinOp.and IntKind.i64 (a5 / 1024) 15).tdiv 15)) = x := ⟨_, rfl⟩
  obtain ⟨A1, hA1⟩ : ∃ x, wrap64 (a1 + wrap64 ((bits BinOp.and IntKind.i64 (a5 / 16384) 15).tdiv 15)) = x := ⟨_, rfl⟩
  obtain ⟨A2, hA2⟩ : ∃ x, wrap64 (a2 + wrap64 ((bits BinOp.and IntKind.i64 (a5 / 262144) 15).tdiv 15)) = x := ⟨_, rfl⟩
  have iA0 := wrap_i64I (a0 + wrap64 ((bits BinOp.and IntKind.i64 (a5 / 1024) 15).tdiv 15))
  have iA1 := wrap_i64I (a1 + wrap64 ((bits BinOp.and IntKind.i64 (a5 / 16384) 15).tdiv 15))
  have iA2 := wrap_i64I (a2 + wrap64 ((bits BinOp.and IntKind.i64 (a5 / 262144) 15).tdiv 15))
  rw [hA0] at iA0 ⊢
  rw [hA1] at iA1 ⊢
  rw [hA2] at iA2 ⊢
  clear hA0 hA1 hA2
  refine (MD.out A0 A1 A2 _ _ _ iA0 iA1 iA2 (H4.out.grown (G2.trans' (grown_alloc _ _)))).mono ?_
  rintro e w3 ⟨v3, rfl, I3, g3⟩
  have c3 := (Blk.new w2 _ _).keep g3
  have J2 := I2.grown ((grown_alloc _ _).trans' g3)
  have G3 := (G2.trans' (grown_alloc _ _)).trans' g3
  have q1 := mdL_len A0 A1 A2 ((l4.map itmOf).take 7)
  have qd := mdD_in A0
  have qs := mdS_in A1
  generalize mdL A0 A1 A2 ((l4.map itmOf).take 7) = L3 at *
  generalize mdB A0 A1 A2 ((l4.map itmOf).take 7) = B3 at *
  generalize mdD A0 = D3 at *
  generalize mdS A1 = S3 at *
  generalize i2u A2 = Z3 at *
  obtain ⟨x3, y3, rfl, -, -, -, -⟩ := id I3
  go_wp2_with fail
  refine (SP.out _ _ _ _ _ _ _ _ I3 (by unfold i64I; omega) (by unfold i64I; omega) (by unfold i64I; omega) (by omega) (by omega)).mono ?_
  rintro e w4 ⟨E, T, v4, M, rfl, I4, iE, iT, g4⟩
  obtain ⟨x4, y4, rfl, -, -, -, -⟩ := id I4
  clear I3 q1 qd qs
  have c4 := c3.keep g4
  have K2 := J2.grown g4
  have G4 := G3.trans' g4
  clear c3 J2 I2 g3 g4 g1 g2
  have M1 := Lib.hid (fun v u w (h : Ints .i64 w v L) (h' : Ints .i64 w u M) => cmmerge_any D S Z1 v L B1 E T Z3 u M B3 w h h')
  have M2 := Lib.hid (fun v u w (h : Ints .i64 w v L) (h' : Ints .i64 w u M) => cmmerger_any D S Z1 v L B1 E T Z3 u M B3 w h h')
  generalize mrI D S Z1 L E T Z3 M D = R1 at *
  generalize mrI D S Z1 L E T Z3 M S = R2 at *
  generalize mrI D S Z1 L E T Z3 M Z1 = R3 at *
  generalize mrE D S Z1 L E T Z3 M = R4 at *
  generalize mrV D S Z1 L B1 E T Z3 M B3 = R5 at *
  obtain ⟨R5, R6⟩ := R5
  obtain ⟨c40, c41, c42, c43, c44⟩ := c4.ev5
  have ga : ∀ (w : World) (o : Obj), w.grownBy (w.alloc o) none := grown_alloc
  go_wp2_with fail
  refine (M1.out _ _ _ (K2.grown (grown_alloc _ _)) (I4.grown (grown_alloc _ _))).mono ?_
  rintro e w5 ⟨v5, rfl, I5, -, g5⟩
  obtain ⟨x5, y5, rfl, -, -, -, -⟩ := id I5
  have e5 := (Blk.new w4 _ _).keep g5
  have c5 := c4.keep ((grown_alloc _ _).trans' g5)
  have K5 := K2.grown ((grown_alloc _ _).trans' g5)
  have J5 := I4.grown ((grown_alloc _ _).trans' g5)
  have G5 := (G4.trans' (grown_alloc _ _)).trans' g5
  clear c40 c41 c42 c43 c44 c4 K2 I4
  obtain ⟨c50, c51, c52, c53, c54⟩ := c5.ev5
  obtain ⟨e50, e51, e52, e53, e54⟩ := e5.ev5
  go_wp2_with fail
  refine (M2.out _ _ _ (K5.grown (grown_alloc _ _)) (J5.grown (grown_alloc _ _))).mono ?_
  rintro e w6 ⟨v6, rfl, I6, -, g6⟩
  obtain ⟨x6, y6, rfl, -, -, -, -⟩ := id I6
  have p6 := (Blk.new w5 _ _).keep g6
  have I5' := I5.grown ((grown_alloc _ _).trans' g6)
  have G6 := (G5.trans' (grown_alloc _ _)).trans' g6
  clear c50 c51 c52 c53 c54 e50 e51 e52 e53 e54 c5 e5
  obtain ⟨p60, p61, p62, p63, p64⟩ := p6.ev5
  go_wp2_with fail
  refine (samecm_eq R1 R2 R3 _ _ R5 R6 _ (I5'.grown (grown_alloc _ _)) (I6.grown (grown_alloc _ _))).mono ?_
  rintro e w7 ⟨rfl, g7⟩
  clear p60 p61 p62 p63 p64
  go_wp2_with fail
  refine (KN.out _).mono ?_
  rintro e w8 ⟨rfl, g8⟩
  go_wp2
  go_ret
  exact ⟨rfl, below_of_grown (((G6.trans' (grown_alloc _ _)).trans' g7).trans' g8)⟩
end Go.Proofs.Ytigpbfmnbdbpcaa
