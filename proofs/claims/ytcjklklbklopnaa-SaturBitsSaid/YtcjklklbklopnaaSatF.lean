/- The walk of SaturBits. -/
import Derived.Test.YtcjklklbklopnaaSatC
namespace Go.Proofs.Ytcjklklbklopnaa
open Go.RowKit Go.ChangeShapes Go.WideShapes
set_option linter.unusedVariables false
set_option linter.unusedSimpArgs false
theorem Ints.at {k : IntKind} {w : World} {a : Option Addr} {n cap : Nat} {l : List Int} (h : Ints k w (.slice a n cap) l) {i : Nat} (hi : i < l.length) : ∃ b off, a = some ⟨b, off, none⟩ ∧ b < w.heap.size ∧ w.cell? ⟨b, off + i, none⟩ = some (.int k (gI l i)) := by
  obtain ⟨a', cap', e, _, _, _, h4⟩ := h
  cases e
  rcases h4 with rfl | ⟨b, off, rfl, hb, hc⟩
  · simp at hi
  · exact ⟨b, off, rfl, hb, hc i hi⟩
theorem pwSum_snoc {l : List Int} {k : Nat} (h : k < l.length) : pwSum (l.take (k + 1)) = pwSum (l.take k) + 2 ^ (gI l k).toNat := by
  rw [take_succ_gI h]; unfold pwSum; rw [List.map_append, List.sum_append]; simp
theorem pwSum_nonneg (l : List Int) : 0 ≤ pwSum l := by
  induction l with
  | nil => simp [pwSum]
  | cons x l ih =>
    have : (0 : Int) ≤ 2 ^ x.toNat := Int.le_of_lt (Int.pow_pos (by omega))
    unfold pwSum at *
    rw [List.map_cons, List.sum_cons]
    omega
theorem pwSum_take (l : List Int) (k : Nat) : pwSum (l.take k) ≤ pwSum l := by
  have h : pwSum l = pwSum (l.take k) + pwSum (l.drop k) := by
    conv => lhs; rw [← List.take_append_drop k l]
    unfold pwSum; rw [List.map_append, List.sum_append]
  have := pwSum_nonneg (l.drop k)
  omega
theorem pwL_sum {n : Int} (h : 0 < n) (h1 : n ≤ 9223372036854775807) : pwSum (pwL n) = n := by
  unfold pwL
  rw [if_pos h, pwSum_N n (by omega)]
  exact Int.emod_eq_of_lt (by omega) (by have : (2 : Int) ^ 63 = 9223372036854775808 := by decide
                                         rw [this]; omega)
theorem pwL_mem {n x : Int} (h : x ∈ pwL n) : 0 ≤ x ∧ x ≤ 62 := by
  unfold pwL at h
  split at h
  · have := pwN_mem h; omega
  · simp at h
theorem pwL_wf (n : Int) : ∀ x ∈ pwL n, (Lit.int .i64 x).wf = true := by
  intro x hx
  have := pwL_mem hx
  simp [Lit.wf, IntKind.min, IntKind.max, IntKind.signed, IntKind.bits]; omega
set_option maxRecDepth 100000 in
set_option maxHeartbeats 3200000 in
theorem SaturBits_walk (a0 a1 : Int) (w : World) (h0 : (Lit.int .u64 a0).wf = true) (h1 : (Lit.int .i64 a1).wf = true) :
    Calls Try.prog 4 #[.int .u64 a0, .int .i64 a1] w fun e w' => e = .returned (.bool true) ∧ Below w.heap.size w w' := by
  have i1 := bounds_i64 h1
  have i0 : 0 ≤ a0 ∧ a0 ≤ 18446744073709551615 := by simpa [Lit.wf, IntKind.min, IntKind.max, IntKind.signed, IntKind.bits] using h0
  obtain ⟨X, rfl⟩ := Int.eq_ofNat_of_zero_le i0.1
  have c1 := fun w => pow_any a1 w i1.2
  have c2 := fun w => powr_any a1 w i1.2
  have c3 := fun w => lz_any X w (by omega) (by omega)
  have c4 := fun w => lzr_any X w (by omega)
  rw [Int.toNat_natCast] at c3
  generalize (64 - (Lib.bitLen X : Int)) = z at *
  have hwf := pwL_wf a1
  have hmem := fun k (hk : k < (pwL a1).length) => pwL_mem (gI_mem hk)
  have hsum : pwSum (pwL a1) = max a1 0 := by
    by_cases h : 0 < a1
    · rw [pwL_sum h i1.2]; omega
    · have : pwL a1 = [] := by unfold pwL; rw [if_neg h]
      rw [this]; simp [pwSum]; omega
  have htake := fun k => pwSum_take (pwL a1) k
  have hnn := fun k => pwSum_nonneg ((pwL a1).take k)
  rw [hsum] at htake
  generalize pwL a1 = L at *
  have C1 := Lib.hid c1
  have C2 := Lib.hid c2
  have C3 := Lib.hid c3
  have C4 := Lib.hid c4
  have HWF := Lib.hid hwf
  have HMEM := Lib.hid hmem
  have HSUM := Lib.hid hsum
  have HTAKE := Lib.hid htake
  have HNN := Lib.hid hnn
  clear c1 c2 c3 c4 h0 h1 hwf hmem hsum htake hnn
  go_enter Try.func4, Try.ntmps4
  go_wp2_with fail
  refine (C1.out _).mono ?_
  rintro e w1 ⟨v1, rfl, o1, g1⟩
  go_wp2_with fail
  refine (C2.out _).mono ?_
  rintro e w2 ⟨v2, rfl, o2, g2⟩
  have I1 := Lib.hid ((ints_of_own o1 HWF.out).grown g2)
  have I2 := Lib.hid (ints_of_own o2 HWF.out)
  obtain ⟨p, pc, rfl, p1, p2⟩ := own_shape o1
  obtain ⟨q, qc, rfl, _⟩ := own_shape o2
  unfold maxLen at p2
  have g12 := g1.trans' g2
  clear o1 o2 g1 g2
  go_wp2_with fail
  refine (C3.out _).mono ?_
  rintro e w3 ⟨rfl, rfl⟩
  go_wp2_with fail
  refine (C4.out _).mono ?_
  rintro e w3 ⟨rfl, rfl⟩
  go_wp2_with fail
  go_loopw [7, 8] (fun s i wr => ∃ k : Nat, k ≤ L.length ∧ i = .int .i64 k ∧ s = .int .i64 (pwSum (L.take k)) ∧ Drawn w2 wr) (fun _ i _ => L.length - (intOf i).toNat)
  case atStart => exact ⟨0, by omega, rfl, by simp [pwSum], Drawn.refl _⟩
  case round =>
    obtain ⟨k, hk, rfl, rfl, hd⟩ := hrel
    by_cases hkn : k < L.length
    · obtain ⟨b, off, rfl, hb, hc⟩ := I1.out.at hkn
      obtain ⟨b2, off2, rfl, hb2, hc2⟩ := I2.out.at hkn
      have hc' : wr.cell? ⟨b, off + k, none⟩ = some (.int .i64 (gI L k)) := (hd.cell _).trans hc
      have hc2' : wr.cell? ⟨b2, off2 + k, none⟩ = some (.int .i64 (gI L k)) := (hd.cell _).trans hc2
      have hm := HMEM.out k hkn
      have ht := HTAKE.out (k + 1)
      have hn := HNN.out k
      have hs := pwSum_snoc hkn
      rw [hs] at ht
      have HS := Lib.hid hs
      generalize pwSum (L.take k) = s at *
      obtain ⟨j, hj⟩ : ∃ j : Nat, gI L k = j := ⟨(gI L k).toNat, by omega⟩
      rw [hj] at hm hc' hc2' ht HS
      rw [Int.toNat_natCast] at ht HS
      have e3 : (0 : Int) ≤ k := by omega
      have e4 : (k : Int) < L.length := by omega
      have hjb : (j : Int) ≤ 62 := hm.2
      have hp : (0 : Int) < 2 ^ j := Int.pow_pos (by omega)
      have hb63 : s + 2 ^ j ≤ 9223372036854775807 := by omega
      clear hc hc2 hs hj ht
      go_wp2_with fail
      go_quiet (fail)
      go_wp2
      go_roundw
      case rel => exact ⟨k + 1, by omega, by go_num, by rw [HS.out], hd.more _⟩
      case measure => simp [intOf]; omega
    · have hkl : k = L.length := by omega
      rw [List.take_of_length_le (by omega), HSUM.out]
      go_wp2_with (go_at_call 12; refine (knowns_any _).mono ?_; rintro e w9 ⟨rfl, g9⟩)
      go_ret
      exact ⟨rfl, below_of_grown ((g12.trans' hd.grown).trans' g9)⟩
end Go.Proofs.Ytcjklklbklopnaa
