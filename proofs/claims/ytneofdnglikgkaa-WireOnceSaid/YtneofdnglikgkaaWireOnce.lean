/- The walk of WireOnce. Conditions: what the theorems take. -/
import Derived.Test.YtneofdnglikgkaaWireLaws
import Derived.Test.YtneofdnglikgkaaWireLaw
import Derived.StillTailTactics
namespace Go.Proofs.Ytneofdnglikgkaa
open Go.RowKit Go.ChangeShapes Go.WideShapes
set_option linter.unusedVariables false
set_option linter.unusedSimpArgs false
set_option maxRecDepth 100000 in
set_option maxHeartbeats 1600000 in
theorem WireOnce_walk (v0 : Value) (l0 : List Int) (w : World) (h0 : Ints .u8 w v0 l0) (s0 : l0.length * Try.prog.bytesOf 5 ≤ 140737488351232) :
    Calls Try.prog 5 #[v0] w fun e w' => e = .returned (.bool true) ∧ Below w.heap.size w w' := by
  have hC := decUint_any _ _ _ h0
  obtain ⟨n, k, e, hd⟩ : ∃ n k e, decU l0 = (n, k, e) := ⟨_, _, _, rfl⟩
  rw [hd] at hC
  simp only [tri] at hC
  have HC := Lib.hid hC
  clear hC
  obtain ⟨a, cap, rfl, p1, p2, p3, p4⟩ := id h0
  unfold maxLen at p2
  by_cases he : e = 0
  · subst he
    obtain ⟨hn0, hn1, hk1, hk9, hkl, hl0⟩ := decU_ok p3 hd
    have hcan := decU_canon p3 hd
    obtain ⟨K, rfl⟩ := Int.eq_ofNat_of_zero_le (show 0 ≤ k by omega)
    rw [Int.toNat_natCast] at hcan
    have hE : encE n = 0 := by unfold encE; rw [if_neg (by omega)]
    have hLE : encL n = encU n := by unfold encL; rw [if_neg (by omega)]
    have wf1 := wf_encU n hn0
    have e1 := fun (w : World) => encUint_any n w
    rw [hE, hLE] at e1
    obtain ⟨b, off, rfl⟩ : ∃ b off, a = some ⟨b, off, none⟩ := by
      rcases p4 with rfl | ⟨b, off, rfl, _⟩
      · simp at hl0
      · exact ⟨b, off, rfl⟩
    clear p4
    have hI := ints_prefix h0 (show K ≤ l0.length by omega)
    rw [← hcan] at hI
    generalize encU n = A at *
    have E1 := Lib.hid e1
    have WF := Lib.hid wf1
    clear hd hE hLE e1 wf1 hcan p3
    go_enter Try.func5, Try.ntmps5
    go_wp2_with (first
      | (go_at_call 18; refine HC.out.mono ?_; rintro e w' ⟨rfl, rfl⟩))
    refine (E1.out _).mono ?_
    rintro e w1 ⟨va, rfl, hoa, g1⟩
    have hIa := ints_of_own hoa WF.out
    obtain ⟨aa, ca, rfl, _, _⟩ := own_shape hoa
    have sa := run_string (P := Try.prog) (hIa.grown (grown_drew1 w1)) Try.underlying24 Try.underlying5 Try.underlying9
    have sb := run_string (P := Try.prog) (hI.grown (g1.trans' (grown_drew1 w1))) Try.underlying24 Try.underlying5 Try.underlying9
    clear hoa hIa
    go_wp2_with fail
    have f0 : 0 ≤ (K : Int) := by omega
    have f1 : (K : Int) ≤ cap := by omega
    have f2 : (cap = 0) = False := by simp; omega
    go_still_tail 18, (by kernel_rfl)
    change wpList _ _ _ _ _ w1.drew
    clear sa sb f0 f1 f2 hI
    go_wp2_with (go_at_call 10; refine (wire_known_any _).mono ?_; rintro e w' ⟨rfl, hk⟩)
    go_ret
    exact ⟨rfl, below_of_grown ((g1.trans' (grown_drew1 _)).trans' hk)⟩
  · have hne : (e != 0) = true := by rw [bne_iff_ne]; exact he
    obtain ⟨rfl, rfl, _⟩ := decU_err hd he
    clear hd he
    go_enter Try.func5, Try.ntmps5
    go_wp2_with (first
      | (go_at_call 18; refine HC.out.mono ?_; rintro e w' ⟨rfl, rfl⟩)
      | (go_at_call 10; refine (wire_known_any _).mono ?_; rintro e w' ⟨rfl, hk⟩))
    go_ret
    exact ⟨rfl, below_of_grown hk⟩
end Go.Proofs.Ytneofdnglikgkaa
