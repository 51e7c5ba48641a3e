/- The walks of SameInts. No condition. -/
import Derived.Test.YtigpbfmnbdbpcaaCmC
namespace Go.Proofs.Ytigpbfmnbdbpcaa
open Go.RowKit Go.ChangeShapes Go.WideShapes
set_option linter.unusedVariables false
set_option linter.unusedSimpArgs false
theorem ext_gI {l m : List Int} (h : l.length = m.length) (hg : ∀ i, i < l.length → gI l i = gI m i) : l = m := by
  apply List.ext_getElem h
  intro i h1 h2
  have := hg i h1
  rwa [gI_eq h1, gI_eq h2] at this
set_option maxRecDepth 100000 in
set_option maxHeartbeats 1600000 in
theorem sameints_any (v u : Value) (l m : List Int) (w : World) (hv : Ints .i64 w v l) (hu : Ints .i64 w u m) :
    Calls Try.prog 42 #[v, u] w fun e w' => e = .returned (.bool (decide (l = m))) ∧ w.grownBy w' none := by
  obtain ⟨D, hD⟩ : ∃ D, D = decide (l = m) := ⟨_, rfl⟩
  rw [← hD]
  obtain ⟨a, cap, rfl, h1, h2, h3, h4⟩ := hv
  obtain ⟨b, cup, rfl, k1, k2, k3, k4⟩ := hu
  unfold maxLen at h2 k2
  by_cases hl : l.length = m.length
  · have hne : ((l.length : Int) != m.length) = false := by rw [bne_eq_false_iff_eq]; omega
    have HF : Hid (∀ i, i < l.length → gI l i ≠ gI m i → D = false) := fun i hi h => by rw [hD]; exact decide_eq_false (fun e => h (by rw [e]))
    have HT : Hid ((∀ i, i < l.length → gI l i = gI m i) → D = true) := fun h => by rw [hD]; exact decide_eq_true (ext_gI hl h)
    have hlm : (l.length : Int) ≤ 9223372036854775807 := by omega
    have hc : ∃ p q, ∀ i, i < l.length → (a = some ⟨p, q, none⟩ ∧ p < w.heap.size ∧ w.cell? ⟨p, q + i, none⟩ = some (.int .i64 (gI l i))) := by
      rcases h4 with rfl | ⟨p, q, rfl, hp, hc⟩
      · exact ⟨0, 0, fun i hi => by simp at hi⟩
      · exact ⟨p, q, fun i hi => ⟨rfl, hp, hc i hi⟩⟩
    have hd : ∃ p q, ∀ i, i < l.length → (b = some ⟨p, q, none⟩ ∧ p < w.heap.size ∧ w.cell? ⟨p, q + i, none⟩ = some (.int .i64 (gI m i))) := by
      rcases k4 with rfl | ⟨p, q, rfl, hp, hc⟩
      · exact ⟨0, 0, fun i hi => by rw [hl] at hi; exact absurd hi (by simp)⟩
      · exact ⟨p, q, fun i hi => ⟨rfl, hp, hc i (by omega)⟩⟩
    obtain ⟨p, q, hc⟩ := hc
    obtain ⟨p', q', hd⟩ := hd
    have HL := Lib.hid hl
    clear hD h4 k4 h3 k3
    obtain ⟨n, hn⟩ : ∃ n, n = l.length := ⟨_, rfl⟩
    have HN := Lib.hid hn
    rw [← hn] at h1 hlm
    rw [← hl, ← hn] at k1 hne ⊢
    clear hl hn HL
    go_enter Try.func42, Try.ntmps42
    go_wp2
    go_loopw [5] (fun i wr => ∃ k : Nat, k ≤ n ∧ i = .int .i64 k ∧ (∀ j, j < k → gI l j = gI m j) ∧ Drawn w wr) (fun i _ => n - (intOf i).toNat)
    case atStart => exact ⟨0, by omega, rfl, by omega, Drawn.refl w⟩
    case round =>
      obtain ⟨k, hk, rfl, hgk, hdr⟩ := hrel
      by_cases hlt : k < n
      · have hlt' : k < l.length := by rw [← HN.out]; exact hlt
        obtain ⟨rfl, hb1, hc1⟩ := hc k hlt'
        obtain ⟨rfl, hb2, hc2⟩ := hd k hlt'
        have hck := (hdr.cell _).trans hc1
        have hdk := (hdr.cell _).trans hc2
        obtain ⟨x, hx⟩ : ∃ x, x = gI l k := ⟨_, rfl⟩
        obtain ⟨y, hy⟩ : ∃ y, y = gI m k := ⟨_, rfl⟩
        rw [← hx] at hck
        rw [← hy] at hdk
        have HX := Lib.hid hx
        have HY := Lib.hid hy
        have HK := Lib.hid hgk
        clear hc hd hc1 hc2 hx hy hgk hb1 hb2
        by_cases hxy : x = y
        · have hn' : (x != y) = false := by rw [bne_eq_false_iff_eq]; exact hxy
          have HXY := Lib.hid hxy
          clear hxy
          go_wp2
          go_quiet (fail)
          go_wp2
          go_roundw
          case rel =>
            refine ⟨k + 1, by omega, by go_num, ?_, hdr.more nq⟩
            intro j hj
            by_cases h : j < k
            · exact HK.out j h
            · have : j = k := by omega
              subst this
              rw [← HX.out, ← HY.out]; exact HXY.out
          case measure => simp [intOf]; omega
        · have hn' : (x != y) = true := by rw [bne_iff_ne]; exact hxy
          have HR : Hid (D = false) := HF.out k hlt' (by rw [← HX.out, ← HY.out]; exact hxy)
          clear hxy
          go_wp2
          go_quiet (fail)
          go_wp2
          go_ret
          rw [HR.out]
          exact ⟨rfl, (hdr.more nq).grown⟩
      · have : k = n := by omega
        subst this
        have HR : Hid (D = true) := HT.out (by rw [← HN.out]; exact hgk)
        clear hc hd hgk
        go_wp2
        go_ret
        rw [HR.out]
        exact ⟨rfl, hdr.grown⟩
  · have hne : ((l.length : Int) != m.length) = true := by rw [bne_iff_ne]; omega
    have HF : Hid (D = false) := hD.trans (decide_eq_false (fun e => hl (by rw [e])))
    have hlm : (l.length : Int) ≤ 9223372036854775807 := by omega
    have hmm : (m.length : Int) ≤ 9223372036854775807 := by omega
    clear hD h4 k4
    clear hl
    go_enter Try.func42, Try.ntmps42
    go_wp2
    go_ret
    rw [HF.out]
    exact ⟨rfl, grown_refl _⟩
set_option maxRecDepth 100000 in
set_option maxHeartbeats 1600000 in
theorem samecm_eq (d s z : Int) (v u : Value) (l : List Int) (b : Bool) (w : World) (hv : Ints .i64 w v l) (hu : Ints .i64 w u l) :
    Calls Try.prog 15 #[.agg #[.int .i64 d, .int .i64 s, .int .u64 z, v, .bool b], .agg #[.int .i64 d, .int .i64 s, .int .u64 z, u, .bool b]] w fun e w' => e = .returned (.bool true) ∧ w.grownBy w' none := by
  have hs := fun w' (g : w.grownBy w' none) => sameints_any v u l l w' (hv.grown g) (hu.grown g)
  simp only [decide_true] at hs
  obtain ⟨a, cap, rfl, -, -, -, -⟩ := hv
  obtain ⟨a', cap', rfl, -, -, -, -⟩ := hu
  go_enter Try.func15, Try.ntmps15
  go_wp2_with (go_at_call 42; refine (hs _ ((grown_alloc _ _).trans' (grown_alloc _ _))).mono ?_; rintro e w1 ⟨rfl, g1⟩)
  go_ret
  exact ⟨rfl, ((grown_alloc _ _).trans' (grown_alloc _ _)).trans' g1⟩
end Go.Proofs.Ytigpbfmnbdbpcaa
