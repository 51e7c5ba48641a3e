/- The walks of the decodings of tallies. Conditions: the bytes lie in memory. -/
import Derived.Test.YtobefdadlflegaaTallyQ
import Derived.Test.YtobefdadlflegaaLib3
namespace Go.Proofs.Ytobefdadlflegaa
open Go.RowKit Go.ChangeShapes Go.WideShapes
set_option linter.unusedVariables false
set_option linter.unusedSimpArgs false
/-- A block of three cells that may be written. -/
def RCell (b : Nat) (x y z : Value) (w : World) : Prop := b < w.heap.size ∧ w.cell? ⟨b, 0, none⟩ = some x ∧ w.cell? ⟨b, 1, none⟩ = some y ∧ w.cell? ⟨b, 2, none⟩ = some z ∧ ∀ o, w.frozen? ⟨b, o, none⟩ = false
theorem RCell.keep {b : Nat} {x y z : Value} {w w' : World} (h : RCell b x y z w) (g : w.grownBy w' none) : RCell b x y z w' := by
  obtain ⟨h0, h1, h2, h3, h4⟩ := h
  exact ⟨Nat.lt_of_lt_of_le h0 g.size, kcell g h1 h0, kcell g h2 h0, kcell g h3 h0, fun o => kfroz g (h4 o) h0⟩
theorem RCell.rdr {b R : Nat} {x y z : Value} {w w' : World} (h : RCell b x y z w) (g : w.grownBy w' (some R)) (hne : b ≠ R) : RCell b x y z w' := by
  obtain ⟨h0, h1, h2, h3, h4⟩ := h
  exact ⟨Nat.lt_of_lt_of_le h0 g.size, cell_rdr g h1 h0 hne, cell_rdr g h2 h0 hne, cell_rdr g h3 h0 hne, fun o => froz_rdr g (h4 o) h0 hne⟩
set_option maxRecDepth 100000 in
set_option maxHeartbeats 1600000 in
theorem dectr_any (v : Value) (l : List Int) (w : World) (hv : Ints .u8 w v l) :
    Calls Try.prog 21 #[v] w fun e w' => e = .returned (tvr (decTa l)) ∧ w.grownBy w' none := by
  have hlaw := refT_law hv.wfs
  have hl1 := rdN_len hv.wfs (most := 4294967295) (k := 0) (bad := false) (Nat.zero_le _)
  have hl2 := rdN_len hv.wfs (most := 4294967295) (bad := (rdN l 4294967295 0 false).2.2) hl1
  obtain ⟨a, cap, rfl⟩ := hv.shape
  have c1 := fun (R : Nat) (w1 : World) (g : w.grownBy w1 none) (h : RdrAt R (.slice a l.length cap) 0 false w1) => rnum_any R _ l 0 false 4294967295 w1 (hv.grown g) (Nat.zero_le _) h
  have c2 := fun (R : Nat) (w1 : World) (g : w.grownBy w1 none) (h : RdrAt R (.slice a l.length cap) (rdN l 4294967295 0 false).2.1 (rdN l 4294967295 0 false).2.2 w1) => rnum_any R _ l _ _ 4294967295 w1 (hv.grown g) hl1 h
  have c3 := fun (R : Nat) (w1 : World) (g : w.grownBy w1 none) (h : RdrAt R (.slice a l.length cap) (rdN l 4294967295 (rdN l 4294967295 0 false).2.1 (rdN l 4294967295 0 false).2.2).2.1 (rdN l 4294967295 (rdN l 4294967295 0 false).2.1 (rdN l 4294967295 0 false).2.2).2.2 w1) => rnum_any R _ l _ _ 1 w1 (hv.grown g) hl2 h
  generalize rdN l 4294967295 0 false = r1 at *
  obtain ⟨n1, k1, b1⟩ := r1
  simp only at *
  generalize rdN l 4294967295 k1 b1 = r2 at *
  obtain ⟨n2, k2, b2⟩ := r2
  simp only at *
  generalize rdN l 1 k2 b2 = r3 at *
  obtain ⟨n3, k3, b3⟩ := r3
  simp only at *
  have C1 := Lib.hid c1
  have C2 := Lib.hid c2
  have C3 := Lib.hid c3
  have HL := Lib.hid hlaw
  clear c1 c2 c3 hlaw hl1 hl2 hv
  go_enter Try.func21, Try.ntmps21
  go_wp2_with fail
  have G0 := (grown_alloc w (.cells #[.int .i64 0, .int .i64 0, .bool false] 23)).trans' (grown_alloc _ (.cells #[.slice a l.length cap, .int .i64 0, .bool false] 57))
  refine (C1.out (w.heap.size + 1) _ G0 ⟨by simp, by simp [go_sem], by simp [go_sem], by simp [go_sem], fun o => by simp [go_sem]⟩).mono ?_
  rintro e w1 ⟨rfl, R1, g1⟩
  have G1 := grown_rdr G0 g1 (by omega)
  have y1 : RCell w.heap.size (.int .i64 0) (.int .i64 0) (.bool false) w1 := RCell.rdr ⟨by simp; omega, by simp [go_sem], by simp [go_sem], by simp [go_sem], fun o => by simp [go_sem]⟩ g1 (by omega)
  clear g1 C1 G0
  go_wp2_with fail
  refine (C2.out (w.heap.size + 1) _ G1 R1).mono ?_
  rintro e w2 ⟨rfl, R2, g2⟩
  have G2 := grown_rdr G1 g2 (by omega)
  have y2 := y1.rdr g2 (by omega)
  clear g2 C2 G1 R1 y1
  go_wp2_with fail
  refine (C3.out (w.heap.size + 1) _ G2 R2).mono ?_
  rintro e w3 ⟨rfl, R3, g3⟩
  have G3 := grown_rdr G2 g3 (by omega)
  have y3 := y2.rdr g3 (by omega)
  clear g3 C3 G2 R2 y2
  go_wp2_with fail
  generalize hs : (n3 == 1) = s3
  have HS := Lib.hid hs
  clear hs
  have c4 := fun w : World => validr_any n1 n2 s3 w
  have C4 := Lib.hid c4
  clear c4
  have y4 := y3.keep (grown_alloc w3 (.cells #[.int .i64 n1, .int .i64 n2, .bool s3] 23))
  refine (rdone_any _ _ _ _ _ _ _ (R3.keep (grown_alloc w3 (.cells #[.int .i64 n1, .int .i64 n2, .bool s3] 23)))).mono ?_
  rintro e w4 ⟨rfl, g4⟩
  have hz4 : w3.heap.size + 1 ≤ w4.heap.size := by simpa using g4.size
  have G4 := (G3.trans' (grown_alloc _ _)).trans' g4
  have y5 := y4.keep g4
  have q0 : w4.cell? ⟨w3.heap.size, 0, none⟩ = some (.int .i64 n1) := kcell g4 (by simp [go_sem]) (by simp)
  have q1 : w4.cell? ⟨w3.heap.size, 1, none⟩ = some (.int .i64 n2) := kcell g4 (by simp [go_sem]) (by simp)
  have q2 : w4.cell? ⟨w3.heap.size, 2, none⟩ = some (.bool s3) := kcell g4 (by simp [go_sem]) (by simp)
  clear g4 y3 y4 G3
  by_cases hd : b3 = false ∧ k3 = l.length
  · have hd' : (!b3 && decide (k3 = l.length)) = true := by simp [hd]
    rw [hd']
    have HD := Lib.hid hd
    clear hd hd'
    by_cases hv : valE n1 n2 = 0
    · have HV := Lib.hid hv
      have hb : (valE n1 n2 != 0) = false := by rw [bne_eq_false_iff_eq]; exact hv
      clear hv
      have HF : Hid (decTa l = (n1, n2, s3, 0)) := by
        show _ = _
        rw [← HL.out, ← HS.out]; unfold refT; rw [if_neg (by simp [HD.out, HV.out])]
      clear HL HS
      obtain ⟨y, ya, yb, yc, yf⟩ := y5
      have yz : w.heap.size ≠ w3.heap.size := by have := R3.1; omega
      go_wp2_with fail
      refine (C4.out _).mono ?_
      rintro e w5 ⟨rfl, g5⟩
      have G5 := G4.trans' g5
      have hz5 := g5.size
      have qa := kcell g5 q0 (by omega)
      have qb := kcell g5 q1 (by omega)
      have qc := kcell g5 q2 (by omega)
      have ya' := kcell g5 ya y
      have yb' := kcell g5 yb y
      have yc' := kcell g5 yc y
      have yf0 := kfroz g5 (yf 0) y
      have yf1 := kfroz g5 (yf 1) y
      have yf2 := kfroz g5 (yf 2) y
      clear q0 q1 q2 ya yb yc yf g5
      go_wp2
      refine bodyPost_ret (v := tvr (n1, n2, s3, 0)) ?_ rfl ⟨by rw [HF.out], ?_⟩
      · simp [results, Try.results21, go_sem, tvr, ya', yb', yc']
      · exact grown_set (grown_set (grown_set G5 _ (Nat.le_refl _)) _ (Nat.le_refl _)) _ (Nat.le_refl _)
    · have HV := Lib.hid hv
      have hb : (valE n1 n2 != 0) = true := by rw [bne_iff_ne]; exact hv
      clear hv
      have HF : Hid (decTa l = (0, 0, false, 2)) := by
        show _ = _
        rw [← HL.out]; unfold refT; rw [if_pos (.inr (.inr HV.out))]
      clear HL HS
      obtain ⟨y, ya, yb, yc, yf⟩ := y5
      go_wp2_with fail
      refine (C4.out _).mono ?_
      rintro e w5 ⟨rfl, g5⟩
      have G5 := G4.trans' g5
      have ya' := kcell g5 ya y
      have yb' := kcell g5 yb y
      have yc' := kcell g5 yc y
      have yf0 := kfroz g5 (yf 0) y
      have yf1 := kfroz g5 (yf 1) y
      have yf2 := kfroz g5 (yf 2) y
      clear q0 q1 q2 ya yb yc yf g5
      go_wp2
      refine bodyPost_ret (v := tvr (0, 0, false, 2)) ?_ rfl ⟨by rw [HF.out], ?_⟩
      · simp [results, Try.results21, go_sem, tvr, ya', yb', yc']
      · exact grown_set (grown_set (grown_set G5 _ (Nat.le_refl _)) _ (Nat.le_refl _)) _ (Nat.le_refl _)
  · have hd' : (!b3 && decide (k3 = l.length)) = false := by
      cases b3
      · simp at hd; simp [hd]
      · simp
    rw [hd']
    have HF : Hid (decTa l = (0, 0, false, 2)) := by
      show _ = _
      rw [← HL.out]; unfold refT
      rw [if_pos]
      cases b3
      · simp at hd; exact .inr (.inl hd)
      · exact .inl rfl
    clear hd hd' HL HS
    obtain ⟨y, ya, yb, yc, yf⟩ := y5
    go_wp2
    refine bodyPost_ret (v := tvr (0, 0, false, 2)) ?_ rfl ⟨by rw [HF.out], ?_⟩
    · simp [results, Try.results21, go_sem, tvr, ya, yb, yc]
    · exact grown_set (grown_set (grown_set G4 _ (Nat.le_refl _)) _ (Nat.le_refl _)) _ (Nat.le_refl _)
end Go.Proofs.Ytobefdadlflegaa
