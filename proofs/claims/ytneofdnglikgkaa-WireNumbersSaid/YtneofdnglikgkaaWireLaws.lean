/- The walks of the laws of wire. Conditions: what each theorem takes (that integers fit their kinds, that strings and slices are of the form's reach). -/
import Derived.Test.YtneofdnglikgkaaWireUn
import Derived.Lib.SlBytesConst
namespace Go.Proofs.Ytneofdnglikgkaa
open Go.RowKit Go.ChangeShapes Go.WideShapes
set_option linter.unusedVariables false
set_option linter.unusedSimpArgs false
theorem wf_encL (n : Int) : ∀ c ∈ encL n, (Lit.int .u8 c).wf = true := by
  unfold encL
  split
  · simp
  · exact wf_encU n (by omega)
theorem wf_encT (s : ByteArray) : ∀ c ∈ encT s, (Lit.int .u8 c).wf = true := by
  unfold encT
  split
  · simp
  · intro c hc
    rcases List.mem_append.1 hc with h | h
    · exact wf_encU _ (by omega) c h
    · exact wf_sI s c h
set_option maxRecDepth 100000 in
set_option maxHeartbeats 400000 in
theorem wire_known_any (w : World) :
    Calls Try.prog 10 #[] w fun e w' => e = .returned (.bool true) ∧ w.grownBy w' none := by
  have k1 : strOfNums (encL 248) = ⟨#[248, 248]⟩ := by decide +kernel
  have k2 : strOfNums (encL 256) = ⟨#[249, 1, 0]⟩ := by decide +kernel
  have k3 : chk [97, 98, 99] = 38600999 := by decide +kernel
  have k4 : encE 248 = 0 := by decide +kernel
  have k5 : encE 256 = 0 := by decide +kernel
  have K1 := Lib.hid k1
  have K2 := Lib.hid k2
  have K3 := Lib.hid k3
  have K4 := Lib.hid k4
  have K5 := Lib.hid k5
  clear k1 k2 k3 k4 k5
  go_enter Try.func10, Try.ntmps10
  go_wp2_with fail
  refine (encUint_any _ _).mono ?_
  rintro e w1 ⟨v1, rfl, ho1, hg1⟩
  rw [K4.out]
  have hI1 := ints_of_own ho1 (wf_encL _)
  obtain ⟨a1, c1, rfl, _, _⟩ := own_shape ho1
  clear ho1
  go_wp2_with fail
  refine (encUint_any _ _).mono ?_
  rintro e w2 ⟨v2, rfl, ho2, hg2⟩
  rw [K5.out]
  have hI2 := ints_of_own ho2 (wf_encL _)
  obtain ⟨a2, c2, rfl, _, _⟩ := own_shape ho2
  clear ho2
  have hs1 := run_string (P := Try.prog) (hI1.grown hg2) Try.underlying24 Try.underlying5 Try.underlying9
  have hs2 := run_string (P := Try.prog) hI2 Try.underlying24 Try.underlying5 Try.underlying9
  rw [K1.out] at hs1
  rw [K2.out] at hs2
  clear hI1 hI2
  have kc := fun (w : World) (C : Array Value) (n c : Nat) => Lib.run_convert_bytes_const (P := Try.prog) w 24 5 C n c Try.underlying24 Try.underlying5
  have hI3 : Ints .u8 (w2.alloc (.cells #[.int .u8 97, .int .u8 98, .int .u8 99] 5 (3, 4))) (.slice (some ⟨w2.heap.size, 0, none⟩) 3 3) [97, 98, 99] := by
    refine ⟨_, 3, rfl, by decide, by unfold maxLen; omega, by decide, .inr ⟨w2.heap.size, 0, rfl, by simp, ?_⟩⟩
    intro i hi
    have hc : (w2.alloc (.cells #[.int .u8 97, .int .u8 98, .int .u8 99] 5 (3, 4))).heap[w2.heap.size]? = some (.cells #[.int .u8 97, .int .u8 98, .int .u8 99] 5 (3, 4)) := by
      show (w2.heap.push _)[w2.heap.size]? = _
      simp
    rw [cell_of_row _ _ _ _ _ _ hc]
    match i, hi with
    | 0, _ => rfl
    | 1, _ => rfl
    | 2, _ => rfl
  go_wp2_with (go_at_call 27; refine (chk_any _ _ _ hI3).mono ?_; rw [K3.out]; rintro e w' ⟨rfl, rfl⟩)
  go_ret
  exact ⟨rfl, (hg1.trans' hg2).trans' (grown_alloc _ _)⟩
set_option maxRecDepth 100000 in
set_option maxHeartbeats 800000 in
theorem WireReads_walk (v0 : Value) (l0 : List Int) (w : World) (h0 : Ints .u8 w v0 l0) (s0 : l0.length * Try.prog.bytesOf 5 ≤ 140737488351232) :
    Calls Try.prog 7 #[v0] w fun e w' => e = .returned (.bool true) ∧ Below w.heap.size w w' := by
  have hv := h0
  obtain ⟨a, cap, rfl, h1, h2, h3, h4⟩ := h0
  clear h4
  unfold maxLen at h2
  by_cases hl : l0.length ≤ 1000
  · go_enter Try.func7, Try.ntmps7
    go_wp2_with (first
      | (go_at_call 18; refine (decUint_any _ _ _ hv).mono ?_; simp only [tri]; rintro e w' ⟨rfl, rfl⟩)
      | (go_at_call 20; refine (decUintr_any _ _ _ hv).mono ?_; simp only [tri]; rintro e w' ⟨rfl, rfl⟩)
      | (go_at_call 21; refine (decWord_any _ _ _ hv).mono ?_; rintro e w' ⟨rfl, rfl⟩)
      | (go_at_call 22; refine (decWordr_any _ _ _ hv).mono ?_; rintro e w' ⟨rfl, rfl⟩)
      | (go_at_call 19; refine (decText_any _ _ _ hv).mono ?_; simp only [tri3]; rintro e w' ⟨rfl, rfl⟩)
      | (go_at_call 23; refine (decTextr_any _ _ _ hv).mono ?_; simp only [tri3]; rintro e w' ⟨rfl, rfl⟩)
      | (go_at_call 10; refine (wire_known_any _).mono ?_; rintro e w' ⟨rfl, hk⟩))
    go_ret
    exact ⟨rfl, below_of_grown hk⟩
  · go_enter Try.func7, Try.ntmps7
    go_wp2_with (go_at_call 10; refine (wire_known_any _).mono ?_; rintro e w' ⟨rfl, hk⟩)
    go_ret
    exact ⟨rfl, below_of_grown hk⟩
theorem wf_frameL (tag : Int) (l : List Int) (ht : (Lit.int .u8 tag).wf = true) (hb : ∀ n ∈ l, (Lit.int .u8 n).wf = true) : ∀ c ∈ frameL tag l, (Lit.int .u8 c).wf = true := by
  unfold frameL
  split
  · simp
  · intro c hc
    rcases List.mem_append.1 hc with h | h
    · exact wf_headL _ _ ht hb c h
    · exact wf_beB _ _ c h
theorem unf_wf {l : List Int} (hw : ∀ n ∈ l, (Lit.int .u8 n).wf = true) : ∀ c ∈ (unf l).2.1, (Lit.int .u8 c).wf = true := by
  unfold unf
  split
  · simp
  · unfold unfR
    (repeat' split) <;> first | (intro c hc; exact hw c (List.mem_of_mem_drop (List.mem_of_mem_take hc))) | simp
/-- The string of what a call owns, in a later world. -/
theorem own_string {P : Program} {w w' : World} {B : Nat} {e t s : TypeId} {v : Value} {l : List Int} (h : w.ownsRow B e 1 v l.length (l.map (.int .u8))) (hw : ∀ n ∈ l, (Lit.int .u8 n).wf = true) (hg : w.grownBy w' none)
    (h1 : P.underlying t = some (.slice e)) (h2 : P.underlying e = some (.int .u8)) (h3 : P.underlying s = some .string) : (convert t s v).run P w' = .ok (.string (strOfNums l)) w' :=
  run_string ((ints_of_own h hw).grown hg) h1 h2 h3
set_option maxRecDepth 100000 in
set_option maxHeartbeats 1600000 in
theorem WireFrames_walk (a0 : Int) (v1 : Value) (l1 : List Int) (v2 : Value) (l2 : List Int) (w : World) (h0 : (Lit.int .u8 a0).wf = true) (h1 : Ints .u8 w v1 l1) (s1 : l1.length * Try.prog.bytesOf 5 ≤ 140737488351232)
    (h2 : Ints .u8 w v2 l2) (s2 : l2.length * Try.prog.bytesOf 5 ≤ 140737488351232) :
    Calls Try.prog 8 #[.int .u8 a0, v1, v2] w fun e w' => e = .returned (.bool true) ∧ Below w.heap.size w w' := by
  have hv1 := h1
  have hv2 := h2
  obtain ⟨a1, cap1, rfl, p1, p2, p3, p4⟩ := h1
  obtain ⟨a2, cap2, rfl, q1, q2, q3, q4⟩ := h2
  clear p4 q4
  unfold maxLen at p2 q2
  by_cases hl1 : l1.length ≤ 1000
  · by_cases hl2 : l2.length ≤ 1000
    · have hwF := wf_frameL a0 l1 h0 p3
      have hwU := unf_wf q3
      have U1 := fun (w : World) (hv : Ints .u8 w (.slice a2 l2.length cap2) l2) => unf_any _ _ w hv
      have U2 := fun (w : World) (hv : Ints .u8 w (.slice a2 l2.length cap2) l2) => unfr_any _ _ w hv
      generalize unf l2 = r at U1 U2 hwU
      obtain ⟨rt, rc, rn, re⟩ := r
      have HU1 := Lib.hid U1
      have HU2 := Lib.hid U2
      clear U1 U2
      dsimp only at hwU
      have HWF := Lib.hid hwF
      have HWU := Lib.hid hwU
      have P3 := Lib.hid p3
      clear hwF hwU p3 q3
      go_enter Try.func8, Try.ntmps8
      go_wp2_with fail
      refine (frame_any _ _ _ _ h0 hv1).mono ?_
      rintro e w1 ⟨vx, rfl, hox, g1⟩
      obtain ⟨ax, cx, rfl, _, _⟩ := own_shape hox
      go_wp2_with fail
      refine (framer_any _ _ _ _ h0 (hv1.grown g1)).mono ?_
      rintro e w2 ⟨vy, rfl, hoy, g2⟩
      obtain ⟨ay, cy, rfl, _, _⟩ := own_shape hoy
      go_wp2_with fail
      refine (HU1.out _ (hv2.grown (g1.trans' g2))).mono ?_
      rintro e w3 ⟨vc, rfl, hoc, g3⟩
      dsimp only at hoc
      obtain ⟨ac, cc, rfl, _, _⟩ := own_shape hoc
      go_wp2_with fail
      refine (HU2.out _ (hv2.grown ((g1.trans' g2).trans' g3))).mono ?_
      rintro e w4 ⟨vd, rfl, hod, g4⟩
      dsimp only at hod
      obtain ⟨ad, cd, rfl, _, _⟩ := own_shape hod
      have hv4 := hv2.grown (((g1.trans' g2).trans' g3).trans' g4)
      have sx := own_string (P := Try.prog) hox HWF.out ((g2.trans' g3).trans' g4) Try.underlying24 Try.underlying5 Try.underlying9
      have sy := own_string (P := Try.prog) hoy HWF.out (g3.trans' g4) Try.underlying24 Try.underlying5 Try.underlying9
      have sc := own_string (P := Try.prog) hoc HWU.out g4 Try.underlying24 Try.underlying5 Try.underlying9
      have sd := own_string (P := Try.prog) hod HWU.out (grown_refl _) Try.underlying24 Try.underlying5 Try.underlying9
      clear hox hoy hoc hod
      go_wp2_with (first
        | (go_at_call 27; refine (chk_any _ _ _ hv4).mono ?_; rintro e w' ⟨rfl, rfl⟩)
        | (go_at_call 28; refine (chkr_any _ _ _ hv4).mono ?_; rintro e w' ⟨rfl, rfl⟩)
        | (go_at_call 10; refine (wire_known_any _).mono ?_; rintro e w' ⟨rfl, hk⟩))
      go_ret
      exact ⟨rfl, below_of_grown ((((g1.trans' g2).trans' g3).trans' g4).trans' hk)⟩
    · go_enter Try.func8, Try.ntmps8
      go_wp2_with (go_at_call 10; refine (wire_known_any _).mono ?_; rintro e w' ⟨rfl, hk⟩)
      go_ret
      exact ⟨rfl, below_of_grown hk⟩
  · go_enter Try.func8, Try.ntmps8
    go_wp2_with (go_at_call 10; refine (wire_known_any _).mono ?_; rintro e w' ⟨rfl, hk⟩)
    go_ret
    exact ⟨rfl, below_of_grown hk⟩
end Go.Proofs.Ytneofdnglikgkaa
