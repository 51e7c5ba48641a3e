/- The walk of LoglogMerges. Conditions: Go's ints. -/
import Derived.Test.YthohjekfffebkaaLlJ
namespace Go.Proofs.Ythohjekfffebkaa
open Go.RowKit Go.ChangeShapes Go.WideShapes
set_option linter.unusedVariables false
set_option linter.unusedSimpArgs false
set_option maxRecDepth 100000 in
set_option maxHeartbeats 3200000 in
theorem LoglogMerges_walk (a0 a2 : Int) (v3 : Value) (l3 : List Int) (v4 : Value) (l4 : List Int) (a5 : Int) (w : World) (h0 : (Lit.int .i64 a0).wf = true) (h2 : (Lit.int .i64 a2).wf = true) (h3 : Ints .i64 w v3 l3) (hb3 : l3.length * 8 ≤ 140737488351232) (h4 : Ints .i64 w v4 l4) (hb4 : l4.length * 8 ≤ 140737488351232) (h5 : (Lit.int .i64 a5).wf = true) :
    Calls Try.prog 7 #[.int .i64 a0, .int .i64 a2, v3, v4, .int .i64 a5] w fun e w' => e = .returned (.bool true) ∧ Below w.heap.size w w' := by
  have b0 := bounds_i64 h0
  have b2 := bounds_i64 h2
  have b5 := bounds_i64 h5
  have KN := Lib.hid (fun w => knownll_any w)
  have MD := Lib.hid (fun a c v l w ha hc hv => madell_any a c v l w ha hc hv)
  have SP := Lib.hid (fun p z v l n w hv hp hn h1 h2 => spoilll_any p z v l n w hv hp hn h1 h2)
  obtain ⟨a, cap, rfl, -, -, -, -⟩ := id h3
  obtain ⟨a', cap', rfl, -, -, -, -⟩ := id h4
  have H3 := Lib.hid h3
  have H4 := Lib.hid h4
  clear h0 h2 h3 h4 h5
  go_enter Try.func7, Try.ntmps7
  go_wp2_with fail
  refine (MD.out _ _ _ _ _ (by unfold i64I; omega) (by unfold i64I; omega) H3.out).mono ?_
  rintro e w1 ⟨v1, rfl, I1, g1⟩
  have q1 := mlL_len a0 a2 ((l3.map itmOf).take 9)
  have qd := (mdP_ok a0).1
  generalize mlL a0 a2 ((l3.map itmOf).take 9) = L1 at *
  generalize mdP a0 = D1 at *
  generalize i2u a2 = Z1 at *
  obtain ⟨x1, y1, rfl, -, -, -, -⟩ := id I1
  go_wp2_with fail
  refine (SP.out _ _ _ _ _ _ I1 qd (by unfold i64I; omega) (by omega) (by omega)).mono ?_
  rintro e w2 ⟨D, v2, L, rfl, I2, iD, g2⟩
  obtain ⟨x2, y2, rfl, -, -, -, -⟩ := id I2
  clear I1 q1 qd
  have G2 := g1.trans' g2
  go_wp2_with fail
  obtain ⟨A0, hA0⟩ : ∃ x, wrap64 (a0 + wrap64 ((bits BinOp.and IntKind.i64 (a5 / 1024) 15).tdiv 15)) = x := ⟨_, rfl⟩
  obtain ⟨A2, hA2⟩ : ∃ x, wrap64 (a2 + wrap64 ((bits BinOp.and IntKind.i64 (a5 / 16384) 15).tdiv 15)) = x := ⟨_, rfl⟩
  have iA0 := wrap_i64I (a0 + wrap64 ((bits BinOp.and IntKind.i64 (a5 / 1024) 15).tdiv 15))
  have iA2 := wrap_i64I (a2 + wrap64 ((bits BinOp.and IntKind.i64 (a5 / 16384) 15).tdiv 15))
  rw [hA0] at iA0 ⊢
  rw [hA2] at iA2 ⊢
  clear hA0 hA2
  refine (MD.out A0 A2 _ _ _ iA0 iA2 (H4.out.grown (G2.trans' (grown_alloc _ _)))).mono ?_
  rintro e w3 ⟨v3, rfl, I3, g3⟩
  have c3 := (Blk.new w2 _ _).keep g3
  have J2 := I2.grown ((grown_alloc _ _).trans' g3)
  have G3 := (G2.trans' (grown_alloc _ _)).trans' g3
  have q1 := mlL_len A0 A2 ((l4.map itmOf).take 9)
  have qd := (mdP_ok A0).1
  generalize mlL A0 A2 ((l4.map itmOf).take 9) = L3 at *
  generalize mdP A0 = D3 at *
  generalize i2u A2 = Z3 at *
  obtain ⟨x3, y3, rfl, -, -, -, -⟩ := id I3
  go_wp2_with fail
  refine (SP.out _ _ _ _ _ _ I3 qd (by unfold i64I; omega) (by omega) (by omega)).mono ?_
  rintro e w4 ⟨E, v4, M, rfl, I4, iE, g4⟩
  obtain ⟨x4, y4, rfl, -, -, -, -⟩ := id I4
  clear I3 q1 qd
  have c4 := c3.keep g4
  have K2 := J2.grown g4
  have G4 := G3.trans' g4
  clear c3 J2 I2 g3 g4 g1 g2
  have M1 := Lib.hid (fun v u w (h : Ints .i64 w v L) (h' : Ints .i64 w u M) => llmerge_any D Z1 v L E Z3 u M w h h')
  have M2 := Lib.hid (fun v u w (h : Ints .i64 w v L) (h' : Ints .i64 w u M) => llmerger_any D Z1 v L E Z3 u M w h h')
  generalize lmI D Z1 L E Z3 M D = R1 at *
  generalize lmI D Z1 L E Z3 M Z1 = R3 at *
  generalize lmE D Z1 L E Z3 M = R4 at *
  generalize lmV D Z1 L E Z3 M = R5 at *
  obtain ⟨c40, c41, c42⟩ := c4.ev3
  have ga : ∀ (w : World) (o : Obj), w.grownBy (w.alloc o) none := grown_alloc
  go_wp2_with fail
  refine (M1.out _ _ _ (K2.grown (grown_alloc _ _)) (I4.grown (grown_alloc _ _))).mono ?_
  rintro e w5 ⟨v5, rfl, I5, -, g5⟩
  obtain ⟨x5, y5, rfl, -, -, -, -⟩ := id I5
  have e5 := (Blk.new w4 _ _).keep g5
  have c5 := c4.keep ((grown_alloc _ _).trans' g5)
  have K5 := K2.grown ((grown_alloc _ _).trans' g5)
  have J5 := I4.grown ((grown_alloc _ _).trans' g5)
  have G5 := (G4.trans' (grown_alloc _ _)).trans' g5
  clear c40 c41 c42 c4 K2 I4
  obtain ⟨c50, c51, c52⟩ := c5.ev3
  obtain ⟨e50, e51, e52⟩ := e5.ev3
  go_wp2_with fail
  refine (M2.out _ _ _ (K5.grown (grown_alloc _ _)) (J5.grown (grown_alloc _ _))).mono ?_
  rintro e w6 ⟨v6, rfl, I6, -, g6⟩
  obtain ⟨x6, y6, rfl, -, -, -, -⟩ := id I6
  have p6 := (Blk.new w5 _ _).keep g6
  have I5' := I5.grown ((grown_alloc _ _).trans' g6)
  have G6 := (G5.trans' (grown_alloc _ _)).trans' g6
  clear c50 c51 c52 e50 e51 e52 c5 e5
  obtain ⟨p60, p61, p62⟩ := p6.ev3
  go_wp2_with fail
  refine (samell_eq R1 R3 _ _ R5 _ (I5'.grown (grown_alloc _ _)) (I6.grown (grown_alloc _ _))).mono ?_
  rintro e w7 ⟨rfl, g7⟩
  clear p60 p61 p62
  go_wp2_with fail
  refine (KN.out _).mono ?_
  rintro e w8 ⟨rfl, g8⟩
  go_wp2
  go_ret
  exact ⟨rfl, below_of_grown (((G6.trans' (grown_alloc _ _)).trans' g7).trans' g8)⟩
end Go.Proofs.Ythohjekfffebkaa
