/- The walk of LoglogNew. Conditions: Go's ints, a string of Go's size. -/
import Derived.Test.YthohjekfffebkaaLlG
namespace Go.Proofs.Ythohjekfffebkaa
open Go.RowKit Go.ChangeShapes Go.WideShapes
set_option linter.unusedVariables false
set_option linter.unusedSimpArgs false
set_option maxRecDepth 100000 in
set_option maxHeartbeats 3200000 in
theorem LoglogNew_walk (a0 a1 : Int) (a2 : ByteArray) (w : World) (h0 : (Lit.int .i64 a0).wf = true) (h1 : (Lit.int .u64 a1).wf = true) (h2 : a2.size ≤ 140737488351232) :
    Calls Try.prog 3 #[.int .i64 a0, .int .u64 a1, .string a2] w fun e w' => e = .returned (.bool true) ∧ Below w.heap.size w w' := by
  have b0 := bounds_i64 h0
  have KN := Lib.hid (fun w => knownll_any w)
  clear h0 h1
  by_cases hs : a2.size > 100
  · have hs' : (a2.size : Int) > 100 := by omega
    go_enter Try.func3, Try.ntmps3
    go_wp2_with fail
    refine (KN.out _).mono ?_
    rintro e w1 ⟨rfl, g1⟩
    go_wp2
    go_ret
    exact ⟨rfl, below_of_grown g1⟩
  · obtain ⟨m0, e0, l0, u0⟩ : ∃ m, bits BinOp.and IntKind.i64 a0 15 = m ∧ 0 ≤ m ∧ m ≤ 15 := ⟨_, and_mask _ 4 (by omega) 15 (by decide), by omega, by omega⟩
    have C1 := fun w => llnew_any a0 a1 w
    have C2 := fun w => llnewr_any a0 a1 w
    have C3 := fun w => llnew_any (m0 - 2) a1 w
    have C4 := fun w => llnewr_any (m0 - 2) a1 w
    have C5 := fun w => pos_any (m0 - 2) a1 a2 w (by omega)
    have C6 := fun w => posr_any (m0 - 2) a1 a2 w (by omega)
    generalize lnL a0 = L1 at *
    generalize lnI a0 a0 = D1 at *
    generalize lnI a0 a1 = Z1 at *
    generalize lnE a0 = E1 at *
    generalize lnL (m0 - 2) = L2 at *
    generalize lnI (m0 - 2) (m0 - 2) = D2 at *
    generalize lnI (m0 - 2) a1 = Z2 at *
    generalize lnE (m0 - 2) = E2 at *
    generalize posR (m0 - 2) a1 a2 = F1 at *
    generalize posK (m0 - 2) a1 a2 = F2 at *
    generalize posE (m0 - 2) a2 = F3 at *
    have D1c := Lib.hid C1
    have D2c := Lib.hid C2
    have D3c := Lib.hid C3
    have D4c := Lib.hid C4
    have D5c := Lib.hid C5
    have D6c := Lib.hid C6
    clear C1 C2 C3 C4 C5 C6
    go_enter Try.func3, Try.ntmps3
    go_wp2_with fail
    refine (D1c.out _).mono ?_
    rintro e w1 ⟨v1, rfl, I1, -, g1⟩
    obtain ⟨x1, y1, rfl, -, -, -, -⟩ := id I1
    go_wp2_with fail
    refine (D2c.out _).mono ?_
    rintro e w2 ⟨v2, rfl, I2, -, g2⟩
    obtain ⟨x2, y2, rfl, -, -, -, -⟩ := id I2
    have p1 := (Blk.new w1 _ _).keep g2
    have i1 := I1.grown ((grown_alloc _ _).trans' g2)
    have G2 := (g1.trans' (grown_alloc _ _)).trans' g2
    go_wp2_with fail
    refine (D3c.out _).mono ?_
    rintro e w3 ⟨v3, rfl, I3, -, g3⟩
    obtain ⟨x3, y3, rfl, -, -, -, -⟩ := id I3
    have p2 := (Blk.new w2 _ _).keep g3
    have p1' := p1.keep ((grown_alloc _ _).trans' g3)
    have i2 := I2.grown ((grown_alloc _ _).trans' g3)
    have i1' := i1.grown ((grown_alloc _ _).trans' g3)
    have G3 := (G2.trans' (grown_alloc _ _)).trans' g3
    go_wp2_with fail
    refine (D4c.out _).mono ?_
    rintro e w4 ⟨v4, rfl, I4, -, g4⟩
    obtain ⟨x4, y4, rfl, -, -, -, -⟩ := id I4
    have p3 := (Blk.new w3 _ _).keep g4
    have p1'' := p1'.keep ((grown_alloc _ _).trans' g4)
    have p2' := p2.keep ((grown_alloc _ _).trans' g4)
    have i3 := I3.grown ((grown_alloc _ _).trans' g4)
    have i2' := i2.grown ((grown_alloc _ _).trans' g4)
    have i1'' := i1'.grown ((grown_alloc _ _).trans' g4)
    have G4 := (G3.trans' (grown_alloc _ _)).trans' g4
    clear p1 p1' p2 i1 i1' i2
    go_wp2_with fail
    refine (D5c.out _).mono ?_
    rintro e w5 ⟨rfl, g5⟩
    go_wp2_with fail
    refine (D6c.out _).mono ?_
    rintro e w6 ⟨rfl, g6⟩
    have g56 := ((grown_alloc w4 _).trans' g5).trans' g6
    have q1 := p1''.keep g56
    have q2 := p2'.keep g56
    have q3 := p3.keep g56
    have q4 := (Blk.new w4 _ _).keep (g5.trans' g6)
    have j1 := i1''.grown g56
    have j2 := i2'.grown g56
    have j3 := i3.grown g56
    have j4 := I4.grown g56
    have G6 := G4.trans' g56
    clear p1'' p2' p3 i1'' i2' i3 I1 I2 I3 I4
    obtain ⟨q10, q11, q12, q15⟩ := q1.at3
    obtain ⟨q20, q21, q22, q25⟩ := q2.at3
    go_wp2_with fail
    refine (samell_eq D1 Z1 _ _ L1 _ j1 j2).mono ?_
    rintro e w7 ⟨rfl, g7⟩
    obtain ⟨q30, q31, q32, q35⟩ := (q3.keep g7).at3
    obtain ⟨q40, q41, q42, q45⟩ := (q4.keep g7).at3
    clear q10 q11 q12 q15 q20 q21 q22 q25
    go_wp2_with fail
    refine (samell_eq D2 Z2 _ _ L2 _ (j3.grown g7) (j4.grown g7)).mono ?_
    rintro e w8 ⟨rfl, g8⟩
    go_wp2_with fail
    refine (KN.out _).mono ?_
    rintro e w9 ⟨rfl, g9⟩
    go_wp2
    go_ret
    exact ⟨rfl, below_of_grown (((G6.trans' g7).trans' g8).trans' g9)⟩
end Go.Proofs.Ythohjekfffebkaa
