/- The walks of Join and of the comparison of pages. Conditions: a bound on the bytes. -/
import Derived.Test.YtogeclmpfbecoaaPgC
namespace Go.Proofs.Ytogeclmpfbecoaa
open Go.RowKit Go.ChangeShapes Go.WideShapes
set_option linter.unusedVariables false
set_option linter.unusedSimpArgs false
theorem flat_take_len (L : List (List Int)) (k : Nat) : (L.take k).flatten.length ≤ L.flatten.length := by
  have h := congrArg List.length (congrArg List.flatten (List.take_append_drop k L))
  rw [List.flatten_append, List.length_append] at h
  omega
theorem flat_take_succ {L : List (List Int)} {k : Nat} (h : k < L.length) : (L.take (k + 1)).flatten = (L.take k).flatten ++ gL L k := by
  rw [List.take_succ_eq_append_getElem h, List.flatten_append, gL_eq h]; simp
set_option maxRecDepth 100000 in
set_option maxHeartbeats 1600000 in
theorem join_any (v : Value) (L : List (List Int)) (w : World) (hv : Pgs w v L) (hl : L.flatten.length ≤ 100000) :
    Calls Try.prog 13 #[v] w fun e w' => ∃ v', e = .returned v' ∧ w'.ownsRow w.heap.size 5 1 v' L.flatten.length (L.flatten.map (.int .u8)) ∧ w.grownBy w' none := by
  have HV := Lib.hid hv
  obtain ⟨a, cap, rfl, q1, q2⟩ := hv.shape
  clear hv
  unfold maxLen at q2
  go_enter Try.func13, Try.ntmps13
  go_wp2_with fail
  go_loopw [3, 8] (fun v i wr => ∃ k : Nat, k ≤ L.length ∧ i = .int .i64 k ∧ wr.ownsRow w.heap.size 5 1 v (L.take k).flatten.length ((L.take k).flatten.map (.int .u8)) ∧ w.grownBy wr none) (fun _ i _ => L.length - (intOf i).toNat)
  case atStart => exact ⟨0, by omega, rfl, World.ownsRow_nil _ _ _ _, grown_refl _⟩
  case round =>
    obtain ⟨k, hk, rfl, hown, hg⟩ := hrel
    by_cases hkn : k < L.length
    · obtain ⟨b, off, u, rfl, hb, hc, hi⟩ := HV.out.at hkn
      have hc' : wr.cell? ⟨b, off + k, none⟩ = some u := kcell hg hc hb
      have hfl := flat_take_len L (k + 1)
      have hsc := flat_take_succ hkn
      rw [hsc, List.length_append] at hfl
      have HSC := Lib.hid hsc
      have hsrc := (hi.grown hg).src (P := Try.prog) Try.underlying22
      have HSRC := Lib.hid hsrc
      have hsz := hg.size
      clear hc hi hsc hsrc
      go_wp2_with (at_builtin; refine wpList_appS _ rfl _ _ 22 22 rfl w.heap.size 5 (.int .u8 0) 1 1 Try.underlying22 Try.infoU8 rfl (by decide) _ _ _ _ _ _ hown rfl rfl HSRC.out (by unfold maxLen; omega) (by omega) hsz ?_)
      intro v' w3 hown' hg' _
      have hg3 := grown_own hg hown hg'
      clear hown HSRC
      go_wp2
      go_roundw
      case rel => exact ⟨k + 1, by omega, by go_num, by rw [HSC.out]; simpa using hown', hg3⟩
      case measure => simp [intOf]; omega
    · have hkl : k = L.length := by omega
      rw [List.take_of_length_le (by omega)] at hown
      go_wp2
      go_ret
      exact ⟨_, rfl, hown, hg⟩
set_option maxRecDepth 100000 in
set_option maxHeartbeats 1600000 in
theorem joinr_any (v : Value) (L : List (List Int)) (w : World) (hv : Pgs w v L) (hl : L.flatten.length ≤ 100000) :
    Calls Try.prog 14 #[v] w fun e w' => ∃ v', e = .returned v' ∧ w'.ownsRow w.heap.size 5 1 v' L.flatten.length (L.flatten.map (.int .u8)) ∧ w.grownBy w' none := by
  have HV := Lib.hid hv
  obtain ⟨a, cap, rfl, q1, q2⟩ := hv.shape
  clear hv
  unfold maxLen at q2
  go_enter Try.func14, Try.ntmps14
  go_wp2_with fail
  go_loopw [3, 4] (fun v i wr => ∃ k : Nat, k ≤ L.length ∧ i = .int .i64 k ∧ wr.ownsRow w.heap.size 5 1 v (L.take k).flatten.length ((L.take k).flatten.map (.int .u8)) ∧ w.grownBy wr none) (fun _ i _ => L.length - (intOf i).toNat)
  case atStart => exact ⟨0, by omega, rfl, World.ownsRow_nil _ _ _ _, grown_refl _⟩
  case round =>
    obtain ⟨k, hk, rfl, hown, hg⟩ := hrel
    by_cases hkn : k < L.length
    · obtain ⟨b, off, u, rfl, hb, hc, hi⟩ := HV.out.at hkn
      have hc' : wr.cell? ⟨b, off + k, none⟩ = some u := kcell hg hc hb
      have hfl := flat_take_len L (k + 1)
      have hsc := flat_take_succ hkn
      rw [hsc, List.length_append] at hfl
      have HSC := Lib.hid hsc
      have hsrc := (hi.grown hg).src (P := Try.prog) Try.underlying22
      have HSRC := Lib.hid hsrc
      have hsz := hg.size
      clear hc hi hsc hsrc
      go_wp2_with (at_builtin; refine wpList_appS _ rfl _ _ 22 22 rfl w.heap.size 5 (.int .u8 0) 1 1 Try.underlying22 Try.infoU8 rfl (by decide) _ _ _ _ _ _ hown rfl rfl HSRC.out (by unfold maxLen; omega) (by omega) hsz ?_)
      intro v' w3 hown' hg' _
      have hg3 := grown_own hg hown hg'
      clear hown HSRC
      go_wp2
      go_roundw
      case rel => exact ⟨k + 1, by omega, by go_num, by rw [HSC.out]; simpa using hown', hg3⟩
      case measure => simp [intOf]; omega
    · have hkl : k = L.length := by omega
      rw [List.take_of_length_le (by omega)] at hown
      go_wp2
      go_ret
      exact ⟨_, rfl, hown, hg⟩
/-- Two equal lists of pages are found equal. -/
theorem same_any (v u : Value) (L : List (List Int)) (w : World) (hv : Pgs w v L) (hu : Pgs w u L) :
    Calls Try.prog 12 #[v, u] w fun e w' => e = .returned (.bool true) ∧ w.grownBy w' none := by
  have HV := Lib.hid hv
  have HU := Lib.hid hu
  obtain ⟨a, cap, rfl, q1, q2⟩ := hv.shape
  obtain ⟨a2, cap2, rfl, q3, q4⟩ := hu.shape
  clear hv hu
  unfold maxLen at q2 q4
  go_enter Try.func12, Try.ntmps12
  go_wp2_with fail
  go_loopw [5] (fun i wr => ∃ k : Nat, k ≤ L.length ∧ i = .int .i64 k ∧ Drawn w wr) (fun i _ => L.length - (intOf i).toNat)
  case atStart => exact ⟨0, by omega, rfl, Drawn.refl _⟩
  case round =>
    obtain ⟨k, hk, rfl, hd⟩ := hrel
    by_cases hkn : k < L.length
    · obtain ⟨b, off, x, rfl, hb, hc, hi⟩ := HV.out.at hkn
      obtain ⟨b2, off2, y, rfl, hb2, hc2, hi2⟩ := HU.out.at hkn
      have hc' : wr.cell? ⟨b, off + k, none⟩ = some x := (hd.cell _).trans hc
      have hc2' : wr.cell? ⟨b2, off2 + k, none⟩ = some y := (hd.cell _).trans hc2
      have cv1 := fun m => run_string (P := Try.prog) ((hd.ints hi).grown (grown_drew m)) Try.underlying22 Try.underlying5 Try.underlying9
      have cv2 := fun m => run_string (P := Try.prog) ((hd.ints hi2).grown (grown_drew m)) Try.underlying22 Try.underlying5 Try.underlying9
      generalize strOfNums (gL L k) = s at *
      have e1 : (0 : Int) ≤ k := by omega
      have e2 : (k : Int) < L.length := by omega
      clear hc hc2 hi hi2
      go_wp2_with fail
      go_quiet (fail)
      go_wp2
      go_roundw
      case rel => exact ⟨k + 1, by omega, by go_num, hd.more _⟩
      case measure => simp [intOf]; omega
    · have hkl : k = L.length := by omega
      go_wp2
      go_ret
      exact ⟨rfl, hd.grown⟩
end Go.Proofs.Ytogeclmpfbecoaa
