/- The walk of WireLimits. No condition. -/
import Derived.Test.YtneofdnglikgkaaWireLaws
namespace Go.Proofs.Ytneofdnglikgkaa
open Go.RowKit Go.ChangeShapes Go.WideShapes
set_option linter.unusedVariables false
set_option linter.unusedSimpArgs false
theorem size_zeros (n : Nat) : (strOfNums (List.replicate n 0)).size = n := by rw [strOfNums_size, List.length_replicate]
theorem own_zeros {w : World} {B : Nat} {e : TypeId} {v : Value} {n : Nat} (h : w.ownsRow B e 1 v n (madeCells #[.int .u8 0] n).toList) : w.ownsRow B e 1 v (List.replicate n (0 : Int)).length ((List.replicate n (0 : Int)).map (.int .u8)) := by
  rw [List.length_replicate, List.map_replicate]
  simpa [Value.cells, toList_madeCells_one] using h
theorem wf_zeros (n : Nat) : ∀ c ∈ List.replicate n (0 : Int), (Lit.int .u8 c).wf = true := by
  intro c hc
  rw [(List.mem_replicate.1 hc).2]
  decide
theorem encT_zeros (n : Nat) (h1 : n = 65536) : (encT (strOfNums (List.replicate n 0))).length = 65540 ∧ encTE (strOfNums (List.replicate n 0)) = 0 := by
  have e : (encU (65536 : Int)).length = 4 := by decide +kernel
  have hs := size_zeros n
  constructor
  · unfold encT
    rw [if_neg (by omega), List.length_append, length_sI, hs, h1]
    show (encU (65536 : Int)).length + 65536 = _
    rw [e]
  · unfold encTE
    rw [if_neg (by omega)]
theorem encT_zeros' (n : Nat) (h1 : n = 65537) : encTE (strOfNums (List.replicate n 0)) = 11 := by
  have hs := size_zeros n
  unfold encTE
  rw [if_pos (by omega)]
theorem frame_zeros (n : Nat) (h1 : n = 1048576) : (frameL 1 (List.replicate n 0)).length = 1048585 ∧ frameE (List.replicate n 0) = 0 := by
  have e : (encU (1048576 : Int)).length = 4 := by decide +kernel
  constructor
  · unfold frameL
    rw [if_neg (by rw [List.length_replicate]; omega), List.length_append, length_headL, length_beB, List.length_replicate, h1]
    show 1 + (encU (1048576 : Int)).length + 1048576 + 4 = _
    rw [e]
  · unfold frameE
    rw [if_neg (by rw [List.length_replicate]; omega)]
theorem frame_zeros' (n : Nat) (h1 : n = 1048577) : frameE (List.replicate n 0) = 11 := by
  unfold frameE
  rw [if_pos (by rw [List.length_replicate]; omega)]
set_option maxRecDepth 100000 in
set_option maxHeartbeats 1600000 in
theorem WireLimits_walk (w : World) :
    Calls Try.prog 4 #[] w fun e w' => e = .returned (.bool true) ∧ Below w.heap.size w w' := by
  obtain ⟨i0, hi, hz0, hz1, hz2⟩ := info_parts Try.infoU8
  obtain ⟨n1, hn1⟩ : ∃ n : Nat, n = 65536 := ⟨_, rfl⟩
  obtain ⟨n2, hn2⟩ : ∃ n : Nat, n = 65537 := ⟨_, rfl⟩
  obtain ⟨n3, hn3⟩ : ∃ n : Nat, n = 1048576 := ⟨_, rfl⟩
  obtain ⟨n4, hn4⟩ : ∃ n : Nat, n = 1048577 := ⟨_, rfl⟩
  have t1 := encT_zeros n1 hn1
  have t2 := encT_zeros' n2 hn2
  have t3 := frame_zeros n3 hn3
  have t4 := frame_zeros' n4 hn4
  have z1 := size_zeros n1
  have z2 := size_zeros n2
  have w1' := wf_zeros n1
  have w2' := wf_zeros n2
  have w3' := wf_zeros n3
  have w4' := wf_zeros n4
  have o1 := fun (w : World) (B : Nat) (v : Value) => own_zeros (w := w) (B := B) (e := 5) (v := v) (n := n1)
  have o2 := fun (w : World) (B : Nat) (v : Value) => own_zeros (w := w) (B := B) (e := 5) (v := v) (n := n2)
  have o3 := fun (w : World) (B : Nat) (v : Value) => own_zeros (w := w) (B := B) (e := 5) (v := v) (n := n3)
  have o4 := fun (w : World) (B : Nat) (v : Value) => own_zeros (w := w) (B := B) (e := 5) (v := v) (n := n4)
  have l3 : (List.replicate n3 (0 : Int)).length = n3 := List.length_replicate
  have l4 : (List.replicate n4 (0 : Int)).length = n4 := List.length_replicate
  have l1 : (List.replicate n1 (0 : Int)).length = n1 := List.length_replicate
  have l2 : (List.replicate n2 (0 : Int)).length = n2 := List.length_replicate
  generalize List.replicate n1 (0 : Int) = L1 at *
  generalize List.replicate n2 (0 : Int) = L2 at *
  generalize List.replicate n3 (0 : Int) = L3 at *
  generalize List.replicate n4 (0 : Int) = L4 at *
  have b1 : n1 ≤ 65536 ∧ 65536 ≤ n1 := by omega
  have b2 : n2 ≤ 65537 ∧ 65537 ≤ n2 := by omega
  have b3 : n3 ≤ 1048576 ∧ 1048576 ≤ n3 := by omega
  have b4 : n4 ≤ 1048577 ∧ 1048577 ≤ n4 := by omega
  have H1 := Lib.hid t1
  have H2 := Lib.hid t2
  have H3 := Lib.hid t3
  have H4 := Lib.hid t4
  have W1 := Lib.hid w1'
  have W2 := Lib.hid w2'
  have W3 := Lib.hid w3'
  have W4 := Lib.hid w4'
  have O1 := Lib.hid o1
  have O2 := Lib.hid o2
  have O3 := Lib.hid o3
  have O4 := Lib.hid o4
  have Z1 := Lib.hid z1
  have Z2 := Lib.hid z2
  have S1 := Lib.hid l1
  have S2 := Lib.hid l2
  have S3 := Lib.hid l3
  have S4 := Lib.hid l4
  clear hn1 hn2 hn3 hn4 t1 t2 t3 t4 w1' w2' w3' w4' o1 o2 o3 o4 z1 z2 l1 l2 l3 l4
  go_enter Try.func4, Try.ntmps4
  go_wp2_with (at_make; refine wpList_make_full _ rfl _ _ 24 rfl w.heap.size 5 i0 (.int .u8 0) 1 Try.underlying24 hi hz0 hz1 _ _ _ _ n1 rfl rfl (by omega) (by omega) (by rw [hz2]; omega) (by unfold maxLen; omega) (Nat.le_refl _) ?_)
  intro w1 ho1 g1
  have hI1 := ints_of_own (O1.out _ _ _ ho1) W1.out
  have s1 := run_string (P := Try.prog) hI1 Try.underlying24 Try.underlying5 Try.underlying9
  clear ho1 hI1
  go_wp2_with fail
  refine (encText_any _ _ (by rw [Z1.out]; omega)).mono ?_
  rintro e w2 ⟨v2, rfl, ho2, g2⟩
  rw [H1.out.2]
  rw [H1.out.1] at ho2
  obtain ⟨a2, c2, rfl, _, _⟩ := own_shape ho2
  clear ho2 s1
  go_wp2_with (at_make; refine wpList_make_full _ rfl _ _ 24 rfl w.heap.size 5 i0 (.int .u8 0) 1 Try.underlying24 hi hz0 hz1 _ _ _ _ n2 rfl rfl (by omega) (by omega) (by rw [hz2]; omega) (by unfold maxLen; omega) ((g1.trans' g2).size) ?_)
  intro w3 ho3 g3
  have hI3 := ints_of_own (O2.out _ _ _ ho3) W2.out
  have s3 := run_string (P := Try.prog) hI3 Try.underlying24 Try.underlying5 Try.underlying9
  clear ho3 hI3
  go_wp2_with fail
  refine (encText_any _ _ (by rw [Z2.out]; omega)).mono ?_
  rintro e w4 ⟨v4, rfl, ho4, g4⟩
  rw [H2.out]
  clear ho4 s3
  have g04 := ((g1.trans' g2).trans' g3).trans' g4
  go_wp2_with (at_make; refine wpList_make_full _ rfl _ _ 24 rfl w.heap.size 5 i0 (.int .u8 0) 1 Try.underlying24 hi hz0 hz1 _ _ _ _ n3 rfl rfl (by omega) (by omega) (by rw [hz2]; omega) (by unfold maxLen; omega) g04.size ?_)
  intro w5 ho5 g5
  have hI5 := ints_of_own (O3.out _ _ _ ho5) W3.out
  clear ho5
  go_wp2_with fail
  refine (frame_any _ _ _ _ (by decide) hI5).mono ?_
  rintro e w6 ⟨v6, rfl, ho6, g6⟩
  rw [H3.out.2]
  rw [H3.out.1] at ho6
  obtain ⟨a6, c6, rfl, _, _⟩ := own_shape ho6
  clear ho6 hI5
  have g06 := (g04.trans' g5).trans' g6
  go_wp2_with (at_make; refine wpList_make_full _ rfl _ _ 24 rfl w.heap.size 5 i0 (.int .u8 0) 1 Try.underlying24 hi hz0 hz1 _ _ _ _ n4 rfl rfl (by omega) (by omega) (by rw [hz2]; omega) (by unfold maxLen; omega) g06.size ?_)
  intro w7 ho7 g7
  have hI7 := ints_of_own (O4.out _ _ _ ho7) W4.out
  clear ho7
  go_wp2_with fail
  refine (frame_any _ _ _ _ (by decide) hI7).mono ?_
  rintro e w8 ⟨v8, rfl, ho8, g8⟩
  rw [H4.out]
  clear ho8 hI7
  go_wp2_with (go_at_call 10; refine (wire_known_any _).mono ?_; rintro e w' ⟨rfl, hk⟩)
  go_ret
  exact ⟨rfl, below_of_grown (((g06.trans' g7).trans' g8).trans' hk)⟩
end Go.Proofs.Ytneofdnglikgkaa
