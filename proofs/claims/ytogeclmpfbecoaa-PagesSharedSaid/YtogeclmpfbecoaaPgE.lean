/- The walks of the known example of pages and of PagesSplit. -/
import Derived.Test.YtogeclmpfbecoaaPgD
import Derived.Test.YtogeclmpfbecoaaBits
namespace Go.Proofs.Ytogeclmpfbecoaa
open Go.RowKit Go.ChangeShapes Go.WideShapes
set_option linter.unusedVariables false
set_option linter.unusedSimpArgs false
theorem ints_lit5 (w : World) (e : TypeId) (l : List Int) (h5 : l.length = 5) (hw : ∀ n ∈ l, (Lit.int .u8 n).wf = true) :
    Ints .u8 (w.alloc (.cells (l.map (.int .u8)).toArray e)) (.slice (some ⟨w.heap.size, 0, none⟩) 5 5) l := by
  have h := World.ownsRow_lit (base := w.heap.size) (e := e) (size := 1) w (l.map (.int .u8)).toArray 5 (Nat.le_refl _) (by unfold maxLen; omega) (by simp [h5])
  have h2 : (w.alloc (.cells (l.map (.int .u8)).toArray e)).ownsRow w.heap.size e 1 (.slice (some ⟨w.heap.size, 0, none⟩) 5 5) l.length (l.map (.int .u8)) := by rw [h5]; simpa using h
  have := ints_of_own h2 hw
  exact this
set_option maxRecDepth 100000 in
set_option maxHeartbeats 1600000 in
theorem knownp_any (w : World) :
    Calls Try.prog 7 #[] w fun e w' => e = .returned (.bool true) ∧ w.grownBy w' none := by
  have hi := ints_lit5 w 5 [1, 2, 3, 4, 5] rfl (by intro n hn; simp at hn; rcases hn with rfl | rfl | rfl | rfl | rfl <;> decide)
  have c1 := split_any _ _ 2 _ hi (by decide)
  rw [show splitL [1, 2, 3, 4, 5] 2 = [[1, 2], [3, 4], [5]] from by decide, show splitE 2 = 0 from by decide] at c1
  have c2 := fun w => count_any 5 2 w (by omega)
  rw [show cntR 5 2 = (3, 0) from by decide] at c2
  have C1 := Lib.hid c1
  have C2 := Lib.hid c2
  clear c1 c2 hi
  go_enter Try.func7, Try.ntmps7
  go_wp2_with fail
  refine C1.out.mono ?_
  rintro e w1 ⟨v, rfl, hP, g1⟩
  have HP := Lib.hid hP
  obtain ⟨a, cap, rfl, q1, q2⟩ := hP.shape
  obtain ⟨b, off, u, rfl, hb, hc, hi⟩ := hP.at (i := 2) (by decide)
  obtain ⟨a2, cap2, rfl⟩ := hi.shape
  have hc2 : w1.cell? ⟨b, off + 2, none⟩ = some (.slice a2 1 cap2) := hc
  clear hP hc hi
  go_wp2_with fail
  refine (C2.out _).mono ?_
  rintro e w2 ⟨rfl, rfl⟩
  go_wp2_with fail
  refine (join_any _ _ _ HP.out (by decide)).mono ?_
  rintro e w3 ⟨v3, rfl, hu, g3⟩
  obtain ⟨a4, cap4, rfl, _⟩ := own_shape hu
  clear hu
  go_wp2
  go_ret
  exact ⟨rfl, ((grown_alloc _ _).trans' g1).trans' g3⟩
set_option maxRecDepth 100000 in
set_option maxHeartbeats 3200000 in
theorem PagesSplit_walk (v0 : Value) (l0 : List Int) (a1 a2 : Int) (w : World) (h0 : Ints .u8 w v0 l0) (_ : l0.length * Try.prog.bytesOf 5 ≤ 140737488351232) (h1 : (Lit.int .i64 a1).wf = true) (h2 : (Lit.int .i64 a2).wf = true) :
    Calls Try.prog 3 #[v0, .int .i64 a1, .int .i64 a2] w fun e w' => e = .returned (.bool true) ∧ Below w.heap.size w w' := by
  have HV := Lib.hid h0
  obtain ⟨a, cap, rfl⟩ := h0.shape
  have hz := h0.size
  have hn := (bounds_i64 h2).2
  have b2 : ∃ m, bits BinOp.and IntKind.i64 a2 31 = m ∧ 0 ≤ m ∧ m ≤ 31 := ⟨_, and_mask _ 5 (by omega) 31 (by decide), by omega, by omega⟩
  obtain ⟨m, e1, l1, u1⟩ := b2
  clear h0 h1 h2
  by_cases hl : (l0.length : Int) > 1000
  · go_enter Try.func3, Try.ntmps3
    go_wp2_with (go_at_call 7; refine (knownp_any _).mono ?_; rintro e w5 ⟨rfl, g5⟩)
    go_ret
    exact ⟨rfl, below_of_grown g5⟩
  · have hl' : l0.length ≤ 1000 := by omega
    have c1 := fun (s : Int) w' (g : w.grownBy w' none) => split_any _ _ s _ (HV.out.grown g) hl'
    have c2 := fun (s : Int) w' (g : w.grownBy w' none) => splitr_any _ _ s _ (HV.out.grown g) hl'
    have c3 := fun w => count_any a2 a1 w hn
    have c4 := fun w => countr_any a2 a1 w hn
    have c5 := fun w => count_any l0.length (1 + m) w (by omega)
    have hk : cntR l0.length (1 + m) = (((splitL l0 (1 + m)).length : Int), 0) := by
      unfold cntR splitL
      rw [if_neg (by omega), if_neg (by omega), length_splitN]
      have := (ceilD_range (a := l0.length) (b := 1 + m) (by omega) (by omega)).1
      rw [Int.toNat_of_nonneg this]
    rw [hk] at c5
    have he : splitE (1 + m) = 0 := by unfold splitE; rw [if_neg (by omega)]
    have hbig : (splitL l0 (1 + m)).length ≤ 1000 := by
      unfold splitL
      rw [if_neg (by omega), length_splitN]
      have := (ceilD_range (a := l0.length) (b := 1 + m) (by omega) (by omega)).2
      omega
    have C1 := Lib.hid c1
    have C2 := Lib.hid c2
    have C3 := Lib.hid c3
    have C4 := Lib.hid c4
    have C5 := Lib.hid c5
    have HE := Lib.hid he
    clear c1 c2 c3 c4 c5 hk he
    go_enter Try.func3, Try.ntmps3
    go_wp2_with fail
    refine (C1.out a1 _ (grown_refl _)).mono ?_
    rintro e w1 ⟨x, rfl, X1, g1⟩
    go_wp2_with fail
    refine (C2.out a1 _ g1).mono ?_
    rintro e w2 ⟨y, rfl, Y2, g2⟩
    have c6 := fun w' (g : w2.grownBy w' none) => same_any _ _ _ w' (X1.grown (g2.trans' g)) (Y2.grown g)
    have C6 := Lib.hid c6
    have G2 := g1.trans' g2
    clear c6 X1 Y2 g1 g2
    go_wp2_with fail
    refine (C1.out (1 + m) _ G2).mono ?_
    rintro e w3 ⟨x3, rfl, X3, g3⟩
    go_wp2_with fail
    refine (C2.out (1 + m) _ (G2.trans' g3)).mono ?_
    rintro e w4 ⟨y4, rfl, Y4, g4⟩
    have c7 := fun w' (g : w4.grownBy w' none) => same_any _ _ _ w' (X3.grown (g4.trans' g)) (Y4.grown g)
    have C7 := Lib.hid c7
    obtain ⟨ya, yc, rfl, _⟩ := Y4.shape
    have g34 := g3.trans' g4
    rw [HE.out]
    clear c7 X3 Y4 g3 g4
    go_wp2_with fail
    refine (C3.out _).mono ?_
    rintro e w5 ⟨rfl, rfl⟩
    go_wp2_with fail
    refine (C4.out _).mono ?_
    rintro e w5 ⟨rfl, rfl⟩
    go_wp2_with fail
    refine (C5.out _).mono ?_
    rintro e w5 ⟨rfl, rfl⟩
    go_wp2_with fail
    refine (C6.out _ g34).mono ?_
    rintro e w5 ⟨rfl, g5⟩
    go_wp2_with fail
    refine (C7.out _ g5).mono ?_
    rintro e w6 ⟨rfl, g6⟩
    go_wp2_with (go_at_call 7; refine (knownp_any _).mono ?_; rintro e w7 ⟨rfl, g7⟩)
    go_ret
    exact ⟨rfl, below_of_grown (((G2.trans' g34).trans' g5).trans' (g6.trans' g7))⟩
end Go.Proofs.Ytogeclmpfbecoaa
