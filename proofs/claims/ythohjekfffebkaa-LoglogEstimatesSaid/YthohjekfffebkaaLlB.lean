/- The walks of Validate and of its reference. Conditions: registers are Go's ints. -/
import Derived.Test.YthohjekfffebkaaLlA
namespace Go.Proofs.Ythohjekfffebkaa
open Go.RowKit Go.ChangeShapes Go.WideShapes
set_option linter.unusedVariables false
set_option linter.unusedSimpArgs false
def goodR (p : Int) (l : List Int) : Prop := ∀ x ∈ l, 0 ≤ x ∧ x ≤ 65 - p
instance (p : Int) (l : List Int) : Decidable (goodR p l) := by unfold goodR; infer_instance
def llE (p : Int) (l : List Int) : Int := if ¬ pOK p then 5 else if (l.length : Int) ≠ p2 p then 18 else if ¬ goodR p l then 5 else 0
theorem llE_ok {p : Int} {l : List Int} (h : llE p l = 0) : pOK p ∧ (l.length : Int) = p2 p ∧ goodR p l := by
  unfold llE at h
  split at h
  · omega
  · rename_i h1
    split at h
    · omega
    · rename_i h2
      split at h
      · omega
      · rename_i h3
        exact ⟨by simpa using h1, by omega, by simpa using h3⟩
theorem goodR_bad {p : Int} {l : List Int} {k : Nat} (hk : k < l.length) (h : ¬ (0 ≤ gI l k ∧ gI l k ≤ 65 - p)) : ¬ goodR p l := fun hg => h (hg _ (gI_mem hk))
theorem goodR_all {p : Int} {l : List Int} (h : ∀ i, i < l.length → 0 ≤ gI l i ∧ gI l i ≤ 65 - p) : goodR p l := by
  intro x hx
  obtain ⟨i, hi, rfl⟩ := List.getElem_of_mem hx
  have := h i hi
  rwa [gI_eq hi] at this
set_option maxRecDepth 100000 in
set_option maxHeartbeats 1600000 in
theorem llvalid_any (p z : Int) (v : Value) (l : List Int) (w : World) (hv : Ints .i64 w v l) :
    Calls Try.prog 21 #[.agg #[.int .i64 p, .int .u64 z, v]] w fun e w' => e = .returned (.int .i64 (llE p l)) ∧ w.grownBy w' none := by
  by_cases hs : pOK p
  · have hm := p2_in hs
    have hsh := p2_sh hs
    obtain ⟨q1, q2⟩ : 2 ≤ p ∧ p ≤ 8 := id hs
    obtain ⟨a, cap, rfl, h1, h2, h3, h4⟩ := hv
    unfold maxLen at h2
    by_cases hl : (l.length : Int) = p2 p
    · have hle : (l.length : Int) ≤ 256 := by omega
      have hne : ((l.length : Int) != wrap64 (2 ^ p.toNat)) = false := by rw [hsh, bne_eq_false_iff_eq]; exact hl
      have hpos : 0 < l.length := by omega
      have HC : Hid (¬ goodR p l → llE p l = 5) := fun h => by unfold llE; rw [if_neg (by simpa using hs), if_neg (by simpa using hl), if_pos h]
      have HO : Hid (goodR p l → llE p l = 0) := fun h => by unfold llE; rw [if_neg (by simpa using hs), if_neg (by simpa using hl), if_neg (by simpa using h)]
      rcases h4 with rfl | ⟨bl, off, rfl, hb, hc⟩
      · simp at hpos
      clear hs hl hsh
      go_enter Try.func21, Try.ntmps21
      go_wp2_with fail
      refine (bitsok_yes _ _ ⟨q1, q2⟩).mono ?_
      rintro e w' ⟨rfl, rfl⟩
      go_wp2_with fail
      go_quiet (fail)
      go_wp2_with fail
      refine wAbs (P := fun w' => Blk w.heap.size _ _ w' ∧ w.grownBy w' none) ⟨(Blk.new _ _ _).keep (grown_drew _), (grown_alloc _ _).trans' (grown_drew _)⟩ ?_
      rintro w1 ⟨c1, hg1⟩
      have hc1 : ∀ i, i < l.length → w1.cell? ⟨bl, off + i, none⟩ = some (.int .i64 (gI l i)) := fun i hi => kcell hg1 (hc i hi) hb
      clear hc
      go_loopw [4, 19] (fun _ i wr => ∃ k : Nat, k ≤ l.length ∧ i = .int .i64 k ∧ (∀ j, j < k → 0 ≤ gI l j ∧ gI l j ≤ 65 - p) ∧ Drawn w1 wr) (fun _ i _ => l.length - (intOf i).toNat)
      case atStart => exact ⟨0, by omega, rfl, by omega, Drawn.refl w1⟩
      case round =>
        obtain ⟨k, hk, rfl, hgk, hd⟩ := hrel
        obtain ⟨c10, c11, c12, c13⟩ := (c1.keep hd.grown).at3
        by_cases hlt : k < l.length
        · have hck := (hd.cell _).trans (hc1 k hlt)
          have hgi := goodR_bad (p := p) hlt
          obtain ⟨x, hx⟩ : ∃ x, x = gI l k := ⟨_, rfl⟩
          rw [← hx] at hck hgi
          have HG := Lib.hid hgi
          have HK := Lib.hid hgk
          have HX := Lib.hid hx
          have e1 : (k : Int) < l.length := by omega
          have e2 : (0 : Int) ≤ k := by omega
          clear hc1 hgi hgk hx
          by_cases hx0 : 0 ≤ x
          · by_cases hx1 : x ≤ 65 - p
            · have hx2 : ¬ x > 65 - p := by omega
              go_wp2
              go_roundw
              case rel =>
                refine ⟨k + 1, by omega, by go_num, ?_, hd⟩
                intro j hj
                by_cases h : j < k
                · exact HK.out j h
                · have : j = k := by omega
                  subst this
                  rw [← HX.out]; omega
              case measure => simp [intOf]; omega
            · have hx2 : x > 65 - p := by omega
              go_wp2
              go_ret
              rw [HC.out (HG.out (by omega))]
              exact ⟨rfl, hg1.trans' (hd).grown⟩
          · have hx2 : x < 0 := by omega
            go_wp2
            go_ret
            rw [HC.out (HG.out (by omega))]
            exact ⟨rfl, hg1.trans' (hd).grown⟩
        · have : k = l.length := by omega
          subst this
          have HK := Lib.hid hgk
          clear hc1 hgk
          go_wp2
          go_ret
          rw [HO.out (goodR_all HK.out)]
          exact ⟨rfl, hg1.trans' hd.grown⟩
    · have hne : ((l.length : Int) != wrap64 (2 ^ p.toNat)) = true := by rw [hsh, bne_iff_ne]; exact hl
      have HC : Hid (llE p l = 18) := by show _ = _; unfold llE; rw [if_neg (by simpa using hs), if_pos hl]
      have hlm : (l.length : Int) ≤ 9223372036854775807 := by omega
      clear hs hl h4 hsh
      go_enter Try.func21, Try.ntmps21
      go_wp2_with fail
      refine (bitsok_yes _ _ ⟨q1, q2⟩).mono ?_
      rintro e w' ⟨rfl, rfl⟩
      go_wp2_with fail
      go_quiet (fail)
      go_wp2
      go_ret
      rw [HC.out]
      exact ⟨rfl, (grown_alloc _ _).trans' (grown_drew _)⟩
  · have HC : Hid (llE p l = 5) := by show _ = _; unfold llE; rw [if_pos hs]
    obtain ⟨a, cap, rfl, h1, h2, h3, h4⟩ := hv
    have hs' : ¬ (2 ≤ p ∧ p ≤ 8) := hs
    clear h4 hs
    go_enter Try.func21, Try.ntmps21
    go_wp2_with fail
    refine (bitsok_no _ _ hs').mono ?_
    rintro e w' ⟨rfl, rfl⟩
    go_wp2
    go_ret
    rw [HC.out]
    exact ⟨rfl, grown_alloc _ _⟩
set_option maxRecDepth 100000 in
set_option maxHeartbeats 1600000 in
theorem llvalidr_any (p z : Int) (v : Value) (l : List Int) (w : World) (hv : Ints .i64 w v l) :
    Calls Try.prog 22 #[.agg #[.int .i64 p, .int .u64 z, v]] w fun e w' => e = .returned (.int .i64 (llE p l)) ∧ w.grownBy w' none := by
  by_cases hs : pOK p
  · have hm := p2_in hs
    have hsh := p2_sh hs
    obtain ⟨q1, q2⟩ : 2 ≤ p ∧ p ≤ 8 := id hs
    obtain ⟨a, cap, rfl, h1, h2, h3, h4⟩ := hv
    unfold maxLen at h2
    by_cases hl : (l.length : Int) = p2 p
    · have hle : (l.length : Int) ≤ 256 := by omega
      have hne : ((l.length : Int) != wrap64 (2 ^ p.toNat)) = false := by rw [hsh, bne_eq_false_iff_eq]; exact hl
      have hpos : 0 < l.length := by omega
      have HC : Hid (¬ goodR p l → llE p l = 5) := fun h => by unfold llE; rw [if_neg (by simpa using hs), if_neg (by simpa using hl), if_pos h]
      have HO : Hid (goodR p l → llE p l = 0) := fun h => by unfold llE; rw [if_neg (by simpa using hs), if_neg (by simpa using hl), if_neg (by simpa using h)]
      rcases h4 with rfl | ⟨bl, off, rfl, hb, hc⟩
      · simp at hpos
      clear hs hl hsh
      go_enter Try.func22, Try.ntmps22
      go_wp2_with fail
      refine (within_yes _ _ _ _ ⟨q1, q2⟩).mono ?_
      rintro e w' ⟨rfl, rfl⟩
      go_wp2_with fail
      refine wAbs (P := fun w' => Blk w.heap.size _ _ w' ∧ w.grownBy w' none) ⟨Blk.new _ _ _, grown_alloc _ _⟩ ?_
      rintro w1 ⟨c1, hg1⟩
      have hc1 : ∀ i, i < l.length → w1.cell? ⟨bl, off + i, none⟩ = some (.int .i64 (gI l i)) := fun i hi => kcell hg1 (hc i hi) hb
      clear hc
      go_loopw [3] (fun i wr => ∃ k : Nat, k ≤ l.length ∧ i = .int .i64 k ∧ (∀ j, j < k → 0 ≤ gI l j ∧ gI l j ≤ 65 - p) ∧ Drawn w1 wr) (fun i _ => l.length - (intOf i).toNat)
      case atStart => exact ⟨0, by omega, rfl, by omega, Drawn.refl w1⟩
      case round =>
        obtain ⟨k, hk, rfl, hgk, hd⟩ := hrel
        obtain ⟨c10, c11, c12, c13⟩ := (c1.keep hd.grown).at3
        by_cases hlt : k < l.length
        · have hck := (hd.cell _).trans (hc1 k hlt)
          have hgi := goodR_bad (p := p) hlt
          obtain ⟨x, hx⟩ : ∃ x, x = gI l k := ⟨_, rfl⟩
          rw [← hx] at hck hgi
          have HG := Lib.hid hgi
          have HK := Lib.hid hgk
          have HX := Lib.hid hx
          have e1 : (k : Int) < l.length := by omega
          have e2 : (0 : Int) ≤ k := by omega
          clear hc1 hgi hgk hx
          by_cases hx0 : 0 ≤ x
          · by_cases hx1 : x ≤ 65 - p
            · have hx2 : ¬ x > 65 - p := by omega
              go_wp2_with fail
              go_quiet ((go_at_call 33; exact Calls.quiet_of_same ((within_yes _ _ _ _ ⟨hx0, hx1⟩).mono fun _ _ h => ⟨h.1, h.2.symm⟩)))
              go_wp2
              go_roundw
              case rel =>
                refine ⟨k + 1, by omega, by go_num, ?_, hd.more nq⟩
                intro j hj
                by_cases h : j < k
                · exact HK.out j h
                · have : j = k := by omega
                  subst this
                  rw [← HX.out]; omega
              case measure => simp [intOf]; omega
            · have hx2 : x > 65 - p := by omega
              go_wp2_with fail
              go_quiet ((go_at_call 33; exact Calls.quiet_of_same ((within_no _ _ _ _ (by omega)).mono fun _ _ h => ⟨h.1, h.2.symm⟩)))
              go_wp2
              go_ret
              rw [HC.out (HG.out (by omega))]
              exact ⟨rfl, hg1.trans' (hd.more nq).grown⟩
          · have hx2 : x < 0 := by omega
            go_wp2_with fail
            go_quiet ((go_at_call 33; exact Calls.quiet_of_same ((within_no _ _ _ _ (by omega)).mono fun _ _ h => ⟨h.1, h.2.symm⟩)))
            go_wp2
            go_ret
            rw [HC.out (HG.out (by omega))]
            exact ⟨rfl, hg1.trans' (hd.more nq).grown⟩
        · have : k = l.length := by omega
          subst this
          have HK := Lib.hid hgk
          clear hc1 hgk
          go_wp2
          go_ret
          rw [HO.out (goodR_all HK.out)]
          exact ⟨rfl, hg1.trans' hd.grown⟩
    · have hne : ((l.length : Int) != wrap64 (2 ^ p.toNat)) = true := by rw [hsh, bne_iff_ne]; exact hl
      have HC : Hid (llE p l = 18) := by show _ = _; unfold llE; rw [if_neg (by simpa using hs), if_pos hl]
      have hlm : (l.length : Int) ≤ 9223372036854775807 := by omega
      clear hs hl h4 hsh
      go_enter Try.func22, Try.ntmps22
      go_wp2_with fail
      refine (within_yes _ _ _ _ ⟨q1, q2⟩).mono ?_
      rintro e w' ⟨rfl, rfl⟩
      go_wp2
      go_ret
      rw [HC.out]
      exact ⟨rfl, grown_alloc _ _⟩
  · have HC : Hid (llE p l = 5) := by show _ = _; unfold llE; rw [if_pos hs]
    obtain ⟨a, cap, rfl, h1, h2, h3, h4⟩ := hv
    have hs' : ¬ (2 ≤ p ∧ p ≤ 8) := hs
    clear h4 hs
    go_enter Try.func22, Try.ntmps22
    go_wp2_with fail
    refine (within_no _ _ _ _ hs').mono ?_
    rintro e w' ⟨rfl, rfl⟩
    go_wp2
    go_ret
    rw [HC.out]
    exact ⟨rfl, grown_alloc _ _⟩
end Go.Proofs.Ythohjekfffebkaa
