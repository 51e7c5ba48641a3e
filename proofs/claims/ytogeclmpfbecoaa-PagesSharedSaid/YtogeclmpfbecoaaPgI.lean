/- The walk of PagesShared. -/
import Derived.Test.YtogeclmpfbecoaaPgH
namespace Go.Proofs.Ytogeclmpfbecoaa
open Go.RowKit Go.ChangeShapes Go.WideShapes
set_option linter.unusedVariables false
set_option linter.unusedSimpArgs false
theorem length_sharedL (X Y : List (List Int)) : (sharedL X Y).length = Y.length := by unfold sharedL; simp
theorem sharedL_self (Y : List (List Int)) {k : Nat} (h : k < Y.length) : (sharedL Y Y).getD k false = true := by
  unfold sharedL; simp [h]
/-- A row of bools that the call owns: its cell k. -/
theorem bools_at {w : World} {B : Nat} {e : TypeId} {a : Option Addr} {n cap : Nat} {l : List Bool} (h : w.ownsRow B e 1 (.slice a n cap) n (l.map .bool)) (hl : l.length = n) {k : Nat} (hk : k < n) :
    ∃ g, a = some ⟨g, 0, none⟩ ∧ w.cell? ⟨g, k, none⟩ = some (.bool (l.getD k false)) ∧ g < w.heap.size := by
  obtain ⟨m, rfl⟩ : ∃ m, n = m + 1 := ⟨n - 1, by omega⟩
  obtain ⟨g, cap', e'⟩ := own_succ h
  cases e'
  refine ⟨g, rfl, ?_, (h.lt g rfl).2⟩
  rw [h.cellAt k (by omega)]
  simp [hl, hk]
theorem splitL_small {l : List Int} (hl : l.length ≤ 63) {s : Int} : (splitL l s).length ≤ 1000 := by
  unfold splitL
  split
  · simp
  · rw [length_splitN]
    have := (ceilD_range (a := l.length) (b := s) (by omega) (by omega)).2
    omega
set_option maxRecDepth 100000 in
set_option maxHeartbeats 3200000 in
theorem PagesShared_walk (a0 a1 a2 : Int) (w : World) (h0 : (Lit.int .i64 a0).wf = true) (h1 : (Lit.int .i64 a1).wf = true) (h2 : (Lit.int .i64 a2).wf = true) :
    Calls Try.prog 6 #[.int .i64 a0, .int .i64 a1, .int .i64 a2] w fun e w' => e = .returned (.bool true) ∧ Below w.heap.size w w' := by
  have b0 : ∃ m, bits BinOp.and IntKind.i64 a0 65535 = m ∧ 0 ≤ m ∧ m ≤ 65535 := ⟨_, and_mask _ 16 (by omega) 65535 (by decide), by omega, by omega⟩
  have b1 : ∃ m, bits BinOp.and IntKind.i64 a1 65535 = m ∧ 0 ≤ m ∧ m ≤ 65535 := ⟨_, and_mask _ 16 (by omega) 65535 (by decide), by omega, by omega⟩
  have b2 : ∃ m, bits BinOp.and IntKind.i64 a2 15 = m ∧ 0 ≤ m ∧ m ≤ 15 := ⟨_, and_mask _ 4 (by omega) 15 (by decide), by omega, by omega⟩
  obtain ⟨m0, e0, l0, u0⟩ := b0
  obtain ⟨m1, e1, l1, u1⟩ := b1
  obtain ⟨m2, e2, l2, u2⟩ := b2
  have c1 := fun w => bytes_any m0 w l0 u0
  have c2 := fun w => bytes_any m1 w l1 u1
  have C1 := Lib.hid c1
  have C2 := Lib.hid c2
  clear c1 c2 h0 h1 h2
  go_enter Try.func6, Try.ntmps6
  go_wp2_with fail
  refine (C1.out _).mono ?_
  rintro e w1 ⟨v1, b1, rfl, hb1, i1, g1⟩
  go_wp2_with fail
  refine (splitr_any _ _ (1 + m2) _ i1 (by omega)).mono ?_
  rintro e w2 ⟨x, rfl, X2, g2⟩
  have hX := splitL_small hb1 (s := 1 + m2)
  go_wp2_with fail
  refine (C2.out _).mono ?_
  rintro e w3 ⟨v3, b3, rfl, hb3, i3, g3⟩
  go_wp2_with fail
  refine (splitr_any _ _ (1 + m2) _ i3 (by omega)).mono ?_
  rintro e w4 ⟨y, rfl, Y4, g4⟩
  have hY := splitL_small hb3 (s := 1 + m2)
  have X4 := X2.grown (g3.trans' g4)
  have G4 := (g1.trans' g2).trans' (g3.trans' g4)
  clear X2 i1 i3 g1 g2 g3 g4
  generalize splitL b1 (1 + m2) = X at *
  generalize splitL b3 (1 + m2) = Y at *
  have c3 := fun w' (g : w4.grownBy w' none) => shared_any _ _ X Y w' (X4.grown g) (Y4.grown g) hX hY
  have c4 := fun w' (g : w4.grownBy w' none) => sharedr_any _ _ X Y w' (X4.grown g) (Y4.grown g) hX hY
  have c5 := fun w' (g : w4.grownBy w' none) => shared_any _ _ Y Y w' (Y4.grown g) (Y4.grown g) hY hY
  obtain ⟨ya, yc, rfl, _⟩ := Y4.shape
  have C3 := Lib.hid c3
  have C4 := Lib.hid c4
  have C5 := Lib.hid c5
  clear c3 c4 c5 X4 Y4
  go_wp2_with fail
  refine (C3.out _ (grown_refl _)).mono ?_
  rintro e w5 ⟨p, rfl, P5, g5⟩
  go_wp2_with fail
  refine (C4.out _ g5).mono ?_
  rintro e w6 ⟨q, rfl, Q6, g6⟩
  have P6 := own_keep P5 g6
  have g56 := g5.trans' g6
  clear P5 g5 g6
  go_wp2_with fail
  refine (C5.out _ g56).mono ?_
  rintro e w7 ⟨r, rfl, R7, g7⟩
  have P7 := Lib.hid (own_keep P6 g7)
  have Q7 := Lib.hid (own_keep Q6 g7)
  have R8 := Lib.hid R7
  obtain ⟨pa, pc, rfl, _⟩ := own_shape P6
  obtain ⟨qa, qc, rfl, _⟩ := own_shape Q6
  obtain ⟨ra, rc, rfl, _⟩ := own_shape R7
  have G7 := (G4.trans' g56).trans' g7
  clear P6 Q6 R7 G4 g56 g7 C3 C4 C5
  go_wp2_with fail
  go_loopw [14] (fun i wr => ∃ k : Nat, k ≤ Y.length ∧ i = .int .i64 k ∧ Drawn w7 wr) (fun i _ => Y.length - (intOf i).toNat)
  case atStart => exact ⟨0, by omega, rfl, Drawn.refl _⟩
  case round =>
    obtain ⟨k, hk, rfl, hd⟩ := hrel
    by_cases hkn : k < Y.length
    · obtain ⟨gp, rfl, cp, _⟩ := bools_at P7.out (length_sharedL X Y) hkn
      obtain ⟨gq, rfl, cq, _⟩ := bools_at Q7.out (length_sharedL X Y) hkn
      obtain ⟨gr, rfl, cr, _⟩ := bools_at R8.out (length_sharedL Y Y) hkn
      rw [sharedL_self Y hkn] at cr
      generalize (sharedL X Y).getD k false = z at *
      have cp' : wr.cell? ⟨gp, k, none⟩ = some (.bool z) := (hd.cell _).trans cp
      have cq' : wr.cell? ⟨gq, k, none⟩ = some (.bool z) := (hd.cell _).trans cq
      have cr' : wr.cell? ⟨gr, k, none⟩ = some (.bool true) := (hd.cell _).trans cr
      have e3 : (0 : Int) ≤ k := by omega
      have e4 : (k : Int) < Y.length := by omega
      clear cp cq cr
      go_wp2_with fail
      cases z
      all_goals
        go_quiet (fail)
        go_wp2
        go_roundw
        case rel => exact ⟨k + 1, by omega, by go_num, hd.more _⟩
        case measure => simp [intOf]; omega
    · have hkl : k = Y.length := by omega
      go_wp2_with (go_at_call 7; refine (knownp_any _).mono ?_; rintro e w9 ⟨rfl, g9⟩)
      go_ret
      exact ⟨rfl, below_of_grown ((G7.trans' hd.grown).trans' g9)⟩
end Go.Proofs.Ytogeclmpfbecoaa
