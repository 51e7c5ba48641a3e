/- The walk of TallyCodes. -/
import Derived.Test.YtobefdadlflegaaTallyS
namespace Go.Proofs.Ytobefdadlflegaa
open Go.RowKit Go.ChangeShapes Go.WideShapes
set_option linter.unusedVariables false
set_option linter.unusedSimpArgs false
theorem wf_encTL {t n : Int} {s : Bool} : ∀ c ∈ encTL t n s, (Lit.int .u8 c).wf = true := by
  intro c hc
  unfold encTL at hc
  by_cases hv : valE t n = 0
  · rw [if_neg (by simpa using hv)] at hc
    have h := valE_in hv
    simp only [List.mem_append, List.mem_singleton] at hc
    rcases hc with (hc | hc) | rfl
    · exact wf_encU _ h.1 c hc
    · exact wf_encU _ h.2.2.1 c hc
    · cases s <;> exact wf_u8 (by simp) (by simp)
  · rw [if_pos hv] at hc; simp at hc
set_option maxRecDepth 100000 in
set_option maxHeartbeats 3200000 in
theorem TallyCodes_walk (a0 a1 : Int) (v2 : Value) (l2 : List Int) (w : World) (h0 : (Lit.int .i64 a0).wf = true) (h1 : (Lit.int .i64 a1).wf = true) (h2 : Ints .u8 w v2 l2) (_ : l2.length * Try.prog.bytesOf 5 ≤ 140737488351232) :
    Calls Try.prog 7 #[.int .i64 a0, .int .i64 a1, v2] w fun e w' => e = .returned (.bool true) ∧ Below w.heap.size w w' := by
  have c1 := fun w : World => made_any a0 a1 w (bounds_i64 h0) (bounds_i64 h1)
  have C1 := Lib.hid c1
  have HV := Lib.hid h2
  have hl := h2.size
  clear c1 h0 h1
  obtain ⟨a, cap, rfl⟩ := h2.shape
  clear h2
  by_cases hlen : (l2.length : Int) > 100
  · go_enter Try.func7, Try.ntmps7
    go_wp2_with (go_at_call 14; refine (knownt_any _).mono ?_; rintro e w5 ⟨rfl, g5⟩)
    go_ret
    exact ⟨rfl, below_of_grown g5⟩
  · go_enter Try.func7, Try.ntmps7
    go_wp2_with fail
    refine (C1.out _).mono ?_
    rintro e w1 ⟨t, n, s, rfl, ht, hn, g1⟩
    have hwe := wf_encTL (t := t) (n := n) (s := s)
    have hbk := fun h => decT_back (t := t) (n := n) (s := s) h
    have c3 := fun w : World => enct_any t n s w
    have c4 := fun w : World => enctr_any t n s w
    have c5 := fun w1 (g : w.grownBy w1 none) => dect_any _ l2 w1 (HV.out.grown g)
    have c6 := fun w1 (g : w.grownBy w1 none) => dectr_any _ l2 w1 (HV.out.grown g)
    have c7 := fun u w1 (g : Ints .u8 w1 u (encTL t n s)) => dect_any u _ w1 g
    generalize decTa l2 = r at *
    obtain ⟨p, q, z, f⟩ := r
    generalize encTL t n s = L at *
    generalize valE t n = er at *
    simp only [tvr] at c5 c6
    have C3 := Lib.hid c3
    have C4 := Lib.hid c4
    have C5 := Lib.hid c5
    have C6 := Lib.hid c6
    have C7 := Lib.hid c7
    have HBK := Lib.hid hbk
    have HWE := Lib.hid hwe
    clear c3 c4 c5 c6 c7 ht hn hbk hwe
    go_wp2_with fail
    refine (C3.out _).mono ?_
    rintro e w2 ⟨u1, rfl, hu1, g2⟩
    have G2 := (g1.trans' (grown_alloc _ _)).trans' g2
    have y2 : RCell w1.heap.size (.int .i64 t) (.int .i64 n) (.bool s) w2 := RCell.keep ⟨by simp, by simp [go_sem], by simp [go_sem], by simp [go_sem], fun o => by simp [go_sem]⟩ g2
    have i2 := ints_of_own hu1 HWE.out
    clear g1 g2
    obtain ⟨z0, z1, z2, z3, z4⟩ := id y2
    go_wp2_with fail
    refine (C4.out _).mono ?_
    rintro e w3 ⟨u2, rfl, hu2, g3⟩
    have G3 := G2.trans' g3
    have y3 := y2.keep g3
    have i3 := ints_of_own hu2 HWE.out
    have i3' := i2.grown g3
    clear g3 z0 z1 z2 z3 z4 G2 y2
    go_wp2_with fail
    refine (C5.out _ G3).mono ?_
    rintro e w4 ⟨rfl, g4⟩
    have i4 := i3.grown (g4.trans' (grown_alloc w4 (.cells #[.int .i64 p, .int .i64 q, .bool z] 23)))
    have i4' := i3'.grown (g4.trans' (grown_alloc w4 (.cells #[.int .i64 p, .int .i64 q, .bool z] 23)))
    have G4 := (G3.trans' g4).trans' (grown_alloc w4 (.cells #[.int .i64 p, .int .i64 q, .bool z] 23))
    have y4 := (y3.keep g4).keep (grown_alloc w4 (.cells #[.int .i64 p, .int .i64 q, .bool z] 23))
    clear g4 y3 G3 i3 i3'
    go_wp2_with fail
    refine (C6.out _ G4).mono ?_
    rintro e w5 ⟨rfl, g5⟩
    have hz5 : w4.heap.size + 1 ≤ w5.heap.size := by simpa using g5.size
    have cv1 := fun o : Obj => run_string (P := Try.prog) (i4.grown (g5.trans' (grown_alloc _ o))) Try.underlying40 Try.underlying5 Try.underlying9
    have cv2 := fun o : Obj => run_string (P := Try.prog) (i4'.grown (g5.trans' (grown_alloc _ o))) Try.underlying40 Try.underlying5 Try.underlying9
    have i5 := fun o : Obj => i4'.grown (g5.trans' (grown_alloc _ o))
    have y5 := fun o : Obj => (y4.keep g5).keep (grown_alloc _ o)
    have q0 : ∀ o : Obj, (w5.alloc o).cell? ⟨w4.heap.size, 0, none⟩ = some (.int .i64 p) := fun o => kcell (grown_alloc _ _) (kcell g5 (by simp [go_sem]) (by simp)) (by omega)
    have q1 : ∀ o : Obj, (w5.alloc o).cell? ⟨w4.heap.size, 1, none⟩ = some (.int .i64 q) := fun o => kcell (grown_alloc _ _) (kcell g5 (by simp [go_sem]) (by simp)) (by omega)
    have q2 : ∀ o : Obj, (w5.alloc o).cell? ⟨w4.heap.size, 2, none⟩ = some (.bool z) := fun o => kcell (grown_alloc _ _) (kcell g5 (by simp [go_sem]) (by simp)) (by omega)
    have G5 := G4.trans' g5
    clear G4 g5 y4 i4 i4'
    generalize strOfNums L = A1 at *
    have I5 := Lib.hid i5
    clear i5 hu1 hu2 i2
    by_cases he : er = 0
    · have b1 : (er == 0) = true := beq_iff_eq.2 he
      go_wp2_with fail
      have hbk := HBK.out he
      have c7' := C7.out u1 _ (I5.out (.cells #[.int .i64 p, .int .i64 q, .bool z] 23))
      rw [hbk] at c7'
      simp only [tvr] at c7'
      have C8 := Lib.hid c7'
      clear he hbk c7'
      refine C8.out.mono ?_
      rintro e w6 ⟨rfl, g6⟩
      have y6 := fun o : Obj => ((y5 _).keep g6).keep (grown_alloc _ o)
      have r0 : ∀ o : Obj, (w6.alloc o).cell? ⟨w1.heap.size, 0, none⟩ = some (.int .i64 t) := fun o => (y6 o).2.1
      have r1 : ∀ o : Obj, (w6.alloc o).cell? ⟨w1.heap.size, 1, none⟩ = some (.int .i64 n) := fun o => (y6 o).2.2.1
      have r2 : ∀ o : Obj, (w6.alloc o).cell? ⟨w1.heap.size, 2, none⟩ = some (.bool s) := fun o => (y6 o).2.2.2.1
      go_wp2_with (go_at_call 14; refine (knownt_any _).mono ?_; rintro e w7 ⟨rfl, g7⟩)
      go_ret
      exact ⟨rfl, below_of_grown (((G5.trans' (grown_alloc _ _)).trans' g6).trans' ((grown_alloc _ _).trans' g7))⟩
    · have b1 : (er == 0) = false := beq_eq_false_iff_ne.2 he
      clear he
      go_wp2_with (go_at_call 14; refine (knownt_any _).mono ?_; rintro e w7 ⟨rfl, g7⟩)
      go_ret
      exact ⟨rfl, below_of_grown ((G5.trans' (grown_alloc _ _)).trans' g7)⟩
end Go.Proofs.Ytobefdadlflegaa
