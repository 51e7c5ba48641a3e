/- The walk of WireNumbers (unfinished). Conditions: what the theorems take. -/
import Derived.Test.YtneofdnglikgkaaWireLaws
import Derived.Test.YtneofdnglikgkaaWireLaw
import Derived.Test.YtneofdnglikgkaaSeq2
namespace Go.Proofs.Ytneofdnglikgkaa
open Go.RowKit Go.ChangeShapes Go.WideShapes
set_option linter.unusedVariables false
set_option linter.unusedSimpArgs false
set_option maxRecDepth 100000 in
set_option maxHeartbeats 1600000 in
theorem WireNumbers_walk (a0 a1 : Int) (a2 : ByteArray) (w : World) (h0 : (Lit.int .i64 a0).wf = true) (h1 : (Lit.int .u64 a1).wf = true) (h2 : a2.size ≤ 140737488351232) :
    Calls Try.prog 3 #[.int .i64 a0, .int .u64 a1, .string a2] w fun e w' => e = .returned (.bool true) ∧ Below w.heap.size w w' := by
  by_cases hs : a2.size ≤ 1000
  · have wf1 := wf_encL a0
    have wf2 := wf_encT a2
    have wf3 := wf_beB 8 a1
    have e1 := fun (w : World) => encUint_any a0 w
    have e2 := fun (w : World) => encUintr_any a0 w
    have e3 := fun (w : World) => encText_any a2 w (by omega)
    have e4 := fun (w : World) => encTextr_any a2 w (by omega)
    have l8 := length_beB 8 a1
    have e5 := fun (w : World) => encWord_any a1 w
    have e6 := fun (w : World) => word_any a1 w
    generalize beB 8 a1 = C at *
    generalize encL a0 = A at *
    generalize encT a2 = B at *
    have E1 := Lib.hid e1
    have E2 := Lib.hid e2
    have E3 := Lib.hid e3
    have E4 := Lib.hid e4
    have E5 := Lib.hid e5
    have E6 := Lib.hid e6
    have L8 := Lib.hid l8
    have WF1 := Lib.hid wf1
    have WF2 := Lib.hid wf2
    have WF3 := Lib.hid wf3
    clear e1 e2 e3 e4 e5 e6 l8 wf1 wf2 wf3
    go_enter Try.func3, Try.ntmps3
    go_wp2_with fail
    refine (E1.out _).mono ?_
    rintro e w1 ⟨va, rfl, hoa, g1⟩
    obtain ⟨aa, ca, rfl, _, _⟩ := own_shape hoa
    go_wp2_with fail
    refine (E2.out _).mono ?_
    rintro e w2 ⟨vb, rfl, hob, g2⟩
    obtain ⟨ab, cb, rfl, _, _⟩ := own_shape hob
    go_wp2_with fail
    refine (E3.out _).mono ?_
    rintro e w3 ⟨vc, rfl, hoc, g3⟩
    obtain ⟨ac, cc, rfl, _, _⟩ := own_shape hoc
    go_wp2_with fail
    refine (E4.out _).mono ?_
    rintro e w4 ⟨vd, rfl, hod, g4⟩
    obtain ⟨ad, cd, rfl, _, _⟩ := own_shape hod
    have Ia := ((ints_of_own hoa WF1.out).grown ((g2.trans' g3).trans' g4))
    have Ib := ((ints_of_own hob WF1.out).grown (g3.trans' g4))
    have Ic := ((ints_of_own hoc WF2.out).grown g4)
    have Id := ints_of_own hod WF2.out
    have sa := fun (w' : World) (g : w4.grownBy w' none) => run_string (P := Try.prog) (Ia.grown g) Try.underlying24 Try.underlying5 Try.underlying9
    have sb := fun (w' : World) (g : w4.grownBy w' none) => run_string (P := Try.prog) (Ib.grown g) Try.underlying24 Try.underlying5 Try.underlying9
    have sc := fun (w' : World) (g : w4.grownBy w' none) => run_string (P := Try.prog) (Ic.grown g) Try.underlying24 Try.underlying5 Try.underlying9
    have sd := fun (w' : World) (g : w4.grownBy w' none) => run_string (P := Try.prog) (Id.grown g) Try.underlying24 Try.underlying5 Try.underlying9
    have g04 := ((g1.trans' g2).trans' g3).trans' g4
    clear hoa hob hoc hod g1 g2 g3 g4 Ia Ib Ic Id
    generalize strOfNums A = sA at *
    generalize strOfNums B = sB at *
    go_wp2_with fail
    refine wp_region_sq [0, 1, 2, 3, 4, 5, 6, 7, 8, 9, 10, 11, 12, 13, 14, 15, 16, 17, 18, 19, 20, 21, 22, 23, 26, 24, 25, 27, 28, 29, 30, 31, 32, 33, 34] [true, true, true, true, true, true, true, true, true, true, true, true, true, true, true, true, true, true, true, true, true, true, true, true, true, false, true, false, true, true, true, true, false, true, true] (fun w' => w4.grownBy w' none) (by kernel_rfl) (by kernel_rfl) (by kernel_rfl) (by kernel_rfl) (grown_drew1 _) ?_
    simp only [pick, List.map_cons, List.map_nil, List.getD_cons_zero, List.getD_cons_succ]
    repeat (first
      | ((refine sq_skip (by rfl) ?_); (try simp only [Act.put, List.setIfInBounds_toArray, List.set_cons_zero, List.set_cons_succ]))
      | ((refine sq_take ?_ (by rfl) ?_ ?_); rotate_left; (focus (intro w' hS; go_simp; first | done | with_reducible rfl)); (try simp only [Act.put, List.setIfInBounds_toArray, List.set_cons_zero, List.set_cons_succ])))
    refine sq_run (by rfl) ?_
    intro K hK
    go_simp
    refine (E5.out _).mono ?_
    rintro e w5 ⟨v5, rfl, ho5, g5⟩
    have hI5 := ints_of_own (by rw [L8.out]; exact ho5) WF3.out
    have g45 := (grown_drew1 w4).trans' g5
    have s5 := fun (w' : World) (g : w5.grownBy w' none) => run_string (P := Try.prog) (hI5.grown g) Try.underlying24 Try.underlying5 Try.underlying9
    refine hK _ _ (fun w' => w5.grownBy w' none) (fun w' g => g45.trans' g) (grown_refl _) ?_
    clear hK K ho5 hI5 sa sb sc sd
    (try simp only [Act.put, List.setIfInBounds_toArray, List.set_cons_zero, List.set_cons_succ])
    repeat (first
      | ((refine sq_skip (by rfl) ?_); (try simp only [Act.put, List.setIfInBounds_toArray, List.set_cons_zero, List.set_cons_succ]))
      | ((refine sq_take ?_ (by rfl) ?_ ?_); rotate_left; (focus (intro w' hS; go_simp; first | done | with_reducible rfl)); (try simp only [Act.put, List.setIfInBounds_toArray, List.set_cons_zero, List.set_cons_succ])))
    refine sq_run (by rfl) ?_
    intro K hK
    go_simp
    refine (E6.out _).mono ?_
    rintro e w6 ⟨v6, rfl, ho6, g6⟩
    have hI6 := ints_of_own (by rw [L8.out]; exact ho6) WF3.out
    have s6 := fun (w' : World) (g : w6.grownBy w' none) => run_string (P := Try.prog) (hI6.grown g) Try.underlying24 Try.underlying5 Try.underlying9
    refine hK _ _ (fun w' => w6.grownBy w' none) (fun w' g => g6.trans' g) (grown_refl _) ?_
    clear hK K ho6 hI6 s5
    (try simp only [Act.put, List.setIfInBounds_toArray, List.set_cons_zero, List.set_cons_succ])
    repeat (first
      | ((refine sq_skip (by rfl) ?_); (try simp only [Act.put, List.setIfInBounds_toArray, List.set_cons_zero, List.set_cons_succ]))
      | ((refine sq_take ?_ (by rfl) ?_ ?_); rotate_left; (focus (intro w' hS; go_simp; first | done | with_reducible rfl)); (try simp only [Act.put, List.setIfInBounds_toArray, List.set_cons_zero, List.set_cons_succ])))
    refine sq_run (by rfl) ?_
    intro K hK
    go_simp
    refine (wire_known_any _).mono ?_
    rintro e w7 ⟨rfl, g7⟩
    refine hK _ _ (fun w' => w7.grownBy w' none) (fun w' g => g7.trans' g) (grown_refl _) ?_
    clear hK K s6
    (try simp only [Act.put, List.setIfInBounds_toArray, List.set_cons_zero, List.set_cons_succ])
    repeat (first
      | ((refine sq_skip (by rfl) ?_); (try simp only [Act.put, List.setIfInBounds_toArray, List.set_cons_zero, List.set_cons_succ]))
      | ((refine sq_take ?_ (by rfl) ?_ ?_); rotate_left; (focus (intro w' hS; go_simp; first | done | with_reducible rfl)); (try simp only [Act.put, List.setIfInBounds_toArray, List.set_cons_zero, List.set_cons_succ])))
    refine sq_end ?_
    go_wp2
    go_ret
    exact ⟨rfl, below_of_grown (((g04.trans' g45).trans' g6).trans' g7)⟩
  · go_enter Try.func3, Try.ntmps3
    go_wp2_with (go_at_call 10; refine (wire_known_any _).mono ?_; rintro e w' ⟨rfl, hk⟩)
    go_ret
    exact ⟨rfl, below_of_grown hk⟩
end Go.Proofs.Ytneofdnglikgkaa
