/- The walks of Validate and of its reference. Conditions: cells are Go's ints. -/
import Derived.Test.YtigpbfmnbdbpcaaCmA
namespace Go.Proofs.Ytigpbfmnbdbpcaa
open Go.RowKit Go.ChangeShapes Go.WideShapes
set_option linter.unusedVariables false
set_option linter.unusedSimpArgs false
def sizB (d s : Int) : Prop := 1 ≤ d ∧ d ≤ 8 ∧ 1 ≤ s ∧ s ≤ 64
instance (d s : Int) : Decidable (sizB d s) := by unfold sizB; infer_instance
def goodL (l : List Int) : Prop := ∀ x ∈ l, 0 ≤ x ∧ x ≤ 4294967295
instance (l : List Int) : Decidable (goodL l) := by unfold goodL; infer_instance
def cmE (d s : Int) (l : List Int) : Int := if ¬ sizB d s then 5 else if (l.length : Int) ≠ d * s then 18 else if ¬ goodL l then 5 else 0
theorem mul_in {d s : Int} (h : sizB d s) : 1 ≤ d * s ∧ d * s ≤ 512 := by
  obtain ⟨h1, h2, h3, h4⟩ := h
  constructor
  · have := Int.mul_le_mul h1 h3 (by omega) (by omega); omega
  · have := Int.mul_le_mul h2 h4 (by omega) (by omega); omega
theorem goodL_bad {l : List Int} {k : Nat} (hk : k < l.length) (h : ¬ (0 ≤ gI l k ∧ gI l k ≤ 4294967295)) : ¬ goodL l := fun hg => h (hg _ (gI_mem hk))
theorem goodL_all {l : List Int} (h : ∀ i, i < l.length → 0 ≤ gI l i ∧ gI l i ≤ 4294967295) : goodL l := by
  intro x hx
  obtain ⟨i, hi, rfl⟩ := List.getElem_of_mem hx
  have := h i hi
  rwa [gI_eq hi] at this
set_option maxRecDepth 100000 in
set_option maxHeartbeats 1600000 in
theorem cmvalid_any (d s z : Int) (v : Value) (l : List Int) (b : Bool) (w : World) (hv : Ints .i64 w v l) :
    Calls Try.prog 21 #[.agg #[.int .i64 d, .int .i64 s, .int .u64 z, v, .bool b]] w fun e w' => e = .returned (.int .i64 (cmE d s l)) ∧ w.grownBy w' none := by
  by_cases hs : sizB d s
  · have hm := mul_in hs
    have hD := decide_eq_true hs
    have HS := Lib.hid (show decide (1 ≤ d ∧ d ≤ 8 ∧ 1 ≤ s ∧ s ≤ 64) = true from hD)
    clear hD
    obtain ⟨a, cap, rfl, h1, h2, h3, h4⟩ := hv
    unfold maxLen at h2
    by_cases hl : (l.length : Int) = d * s
    · have hle : (l.length : Int) ≤ 512 := by omega
      have hne : ((l.length : Int) != d * s) = false := by rw [bne_eq_false_iff_eq]; exact hl
      have hpos : 0 < l.length := by omega
      have HC : Hid (¬ goodL l → cmE d s l = 5) := fun h => by unfold cmE; rw [if_neg (by simpa using hs), if_neg (by simpa using hl), if_pos h]
      have HO : Hid (goodL l → cmE d s l = 0) := fun h => by unfold cmE; rw [if_neg (by simpa using hs), if_neg (by simpa using hl), if_neg (by simpa using h)]
      rcases h4 with rfl | ⟨bl, off, rfl, hb, hc⟩
      · simp at hpos
      clear hs hl
      go_enter Try.func21, Try.ntmps21
      go_wp2_with (go_at_call 32; refine (sized_any _ _ _).mono ?_; rw [HS.out]; rintro e w' ⟨rfl, rfl⟩)
      obtain ⟨w1, hw1⟩ : ∃ w1, w1 = w.alloc (Obj.cells #[Value.int IntKind.i64 d, Value.int IntKind.i64 s, Value.int IntKind.u64 z, Value.slice (some { block := bl, off := off }) l.length cap, Value.bool b] 26) := ⟨_, rfl⟩
      have hc1 : ∀ i, i < l.length → w1.cell? ⟨bl, off + i, none⟩ = some (.int .i64 (gI l i)) := fun i hi => by rw [hw1]; exact kcell (grown_alloc _ _) (hc i hi) hb
      have hg1 : w.grownBy w1 none := by rw [hw1]; exact grown_alloc _ _
      rw [← hw1]
      clear hw1 hc
      go_loopw [4, 23] (fun _ i wr => ∃ k : Nat, k ≤ l.length ∧ i = .int .i64 k ∧ (∀ j, j < k → 0 ≤ gI l j ∧ gI l j ≤ 4294967295) ∧ Drawn w1 wr) (fun _ i _ => l.length - (intOf i).toNat)
      case atStart => exact ⟨0, by omega, rfl, by omega, Drawn.refl w1⟩
      case round =>
        obtain ⟨k, hk, rfl, hgk, hd⟩ := hrel
        by_cases hlt : k < l.length
        · have hck := (hd.cell _).trans (hc1 k hlt)
          have hgi := goodL_bad hlt
          obtain ⟨x, hx⟩ : ∃ x, x = gI l k := ⟨_, rfl⟩
          rw [← hx] at hck hgi
          have HG := Lib.hid hgi
          have HK := Lib.hid hgk
          have HX := Lib.hid hx
          clear hc1 hgi hgk hx
          by_cases hx0 : x < 0
          · go_wp2
            go_ret
            rw [HC.out (HG.out (by omega))]
            exact ⟨rfl, hg1.trans' hd.grown⟩
          · by_cases hx1 : x > 4294967295
            · go_wp2
              go_ret
              rw [HC.out (HG.out (by omega))]
              exact ⟨rfl, hg1.trans' hd.grown⟩
            · go_wp2
              go_roundw
              case rel =>
                refine ⟨k + 1, by omega, by go_num, ?_, hd⟩
                intro j hj
                by_cases h : j < k
                · exact HK.out j h
                · have : j = k := by omega
                  subst this
                  rw [← HX.out]; omega
              case measure => simp [intOf]; omega
        · have : k = l.length := by omega
          subst this
          have HK := Lib.hid hgk
          clear hc1 hgk
          go_wp2
          go_ret
          rw [HO.out (goodL_all HK.out)]
          exact ⟨rfl, hg1.trans' hd.grown⟩
    · have hne : ((l.length : Int) != d * s) = true := by rw [bne_iff_ne]; exact hl
      have HC : Hid (cmE d s l = 18) := by show _ = _; unfold cmE; rw [if_neg (by simpa using hs), if_pos hl]
      have hlm : (l.length : Int) ≤ 9223372036854775807 := by omega
      clear hs hl h4
      go_enter Try.func21, Try.ntmps21
      go_wp2_with (go_at_call 32; refine (sized_any _ _ _).mono ?_; rw [HS.out]; rintro e w' ⟨rfl, rfl⟩)
      go_ret
      rw [HC.out]
      exact ⟨rfl, grown_alloc _ _⟩
  · have HS := Lib.hid (show decide (1 ≤ d ∧ d ≤ 8 ∧ 1 ≤ s ∧ s ≤ 64) = false from decide_eq_false hs)
    have HC : Hid (cmE d s l = 5) := by show _ = _; unfold cmE; rw [if_pos hs]
    obtain ⟨a, cap, rfl, h1, h2, h3, h4⟩ := hv
    clear h4 hs
    go_enter Try.func21, Try.ntmps21
    go_wp2_with (go_at_call 32; refine (sized_any _ _ _).mono ?_; rw [HS.out]; rintro e w' ⟨rfl, rfl⟩)
    go_ret
    rw [HC.out]
    exact ⟨rfl, grown_alloc _ _⟩
set_option maxRecDepth 100000 in
set_option maxHeartbeats 1600000 in
theorem cmvalidr_any (d s z : Int) (v : Value) (l : List Int) (b : Bool) (w : World) (hv : Ints .i64 w v l) :
    Calls Try.prog 22 #[.agg #[.int .i64 d, .int .i64 s, .int .u64 z, v, .bool b]] w fun e w' => e = .returned (.int .i64 (cmE d s l)) ∧ w.grownBy w' none := by
  by_cases hs : sizB d s
  · have hm := mul_in hs
    have hsz := hs
    obtain ⟨q1, q2, q3, q4⟩ : 1 ≤ d ∧ d ≤ 8 ∧ 1 ≤ s ∧ s ≤ 64 := hs
    obtain ⟨a, cap, rfl, h1, h2, h3, h4⟩ := hv
    unfold maxLen at h2
    by_cases hl : (l.length : Int) = d * s
    · have hle : (l.length : Int) ≤ 512 := by omega
      have hne : ((l.length : Int) != d * s) = false := by rw [bne_eq_false_iff_eq]; exact hl
      have hpos : 0 < l.length := by omega
      have HC : Hid (¬ goodL l → cmE d s l = 5) := fun h => by unfold cmE; rw [if_neg (by simpa using hsz), if_neg (by simpa using hl), if_pos h]
      have HO : Hid (goodL l → cmE d s l = 0) := fun h => by unfold cmE; rw [if_neg (by simpa using hsz), if_neg (by simpa using hl), if_neg (by simpa using h)]
      rcases h4 with rfl | ⟨bl, off, rfl, hb, hc⟩
      · simp at hpos
      clear hsz hl
      go_enter Try.func22, Try.ntmps22
      go_wp2_with (go_at_call 33; (first | (refine (within_yes _ _ _ _ ?h).mono ?_; (case h => omega)) | (refine (within_no _ _ _ _ ?h).mono ?_; (case h => omega))); rintro e w' ⟨rfl, rfl⟩)
      obtain ⟨w1, hw1⟩ : ∃ w1, w1 = w.alloc (Obj.cells #[Value.int IntKind.i64 d, Value.int IntKind.i64 s, Value.int IntKind.u64 z, Value.slice (some { block := bl, off := off }) l.length cap, Value.bool b] 26) := ⟨_, rfl⟩
      have hc1 : ∀ i, i < l.length → w1.cell? ⟨bl, off + i, none⟩ = some (.int .i64 (gI l i)) := fun i hi => by rw [hw1]; exact kcell (grown_alloc _ _) (hc i hi) hb
      have hs1 : w1.cell? ⟨w.heap.size, 3, none⟩ = some (.slice (some { block := bl, off := off }) l.length cap) := by rw [hw1]; simp [go_sem]
      have hg1 : w.grownBy w1 none := by rw [hw1]; exact grown_alloc _ _
      rw [← hw1]
      clear hw1 hc
      go_loopw [3] (fun i wr => ∃ k : Nat, k ≤ l.length ∧ i = .int .i64 k ∧ (∀ j, j < k → 0 ≤ gI l j ∧ gI l j ≤ 4294967295) ∧ Drawn w1 wr) (fun i _ => l.length - (intOf i).toNat)
      case atStart => exact ⟨0, by omega, rfl, by omega, Drawn.refl w1⟩
      case round =>
        obtain ⟨k, hk, rfl, hgk, hd⟩ := hrel
        have hsr := (hd.cell _).trans hs1
        by_cases hlt : k < l.length
        · have hck := (hd.cell _).trans (hc1 k hlt)
          have hgi := goodL_bad hlt
          obtain ⟨x, hx⟩ : ∃ x, x = gI l k := ⟨_, rfl⟩
          rw [← hx] at hck hgi
          have HG := Lib.hid hgi
          have HK := Lib.hid hgk
          have HX := Lib.hid hx
          clear hc1 hgi hgk hx
          by_cases hx0 : 0 ≤ x
          · by_cases hx1 : x ≤ 4294967295
            · go_wp2_with (go_at_call 33; (first | (refine (within_yes _ _ _ _ ?h).mono ?_; (case h => omega)) | (refine (within_no _ _ _ _ ?h).mono ?_; (case h => omega))); rintro e w' ⟨rfl, rfl⟩)
              go_roundw
              case rel =>
                refine ⟨k + 1, by omega, by go_num, ?_, hd⟩
                intro j hj
                by_cases h : j < k
                · exact HK.out j h
                · have : j = k := by omega
                  subst this
                  rw [← HX.out]; omega
              case measure => simp [intOf]; omega
            · go_wp2_with (go_at_call 33; (first | (refine (within_yes _ _ _ _ ?h).mono ?_; (case h => omega)) | (refine (within_no _ _ _ _ ?h).mono ?_; (case h => omega))); rintro e w' ⟨rfl, rfl⟩)
              go_ret
              rw [HC.out (HG.out (by omega))]
              exact ⟨rfl, hg1.trans' hd.grown⟩
          · go_wp2_with (go_at_call 33; (first | (refine (within_yes _ _ _ _ ?h).mono ?_; (case h => omega)) | (refine (within_no _ _ _ _ ?h).mono ?_; (case h => omega))); rintro e w' ⟨rfl, rfl⟩)
            go_ret
            rw [HC.out (HG.out (by omega))]
            exact ⟨rfl, hg1.trans' hd.grown⟩
        · have : k = l.length := by omega
          subst this
          have HK := Lib.hid hgk
          clear hc1 hgk
          go_wp2
          go_ret
          rw [HO.out (goodL_all HK.out)]
          exact ⟨rfl, hg1.trans' hd.grown⟩
    · have hne : ((l.length : Int) != d * s) = true := by rw [bne_iff_ne]; exact hl
      have HC : Hid (cmE d s l = 18) := by show _ = _; unfold cmE; rw [if_neg (by simpa using hsz), if_pos hl]
      have hlm : (l.length : Int) ≤ 9223372036854775807 := by omega
      clear hsz hl h4
      go_enter Try.func22, Try.ntmps22
      go_wp2_with (go_at_call 33; (first | (refine (within_yes _ _ _ _ ?h).mono ?_; (case h => omega)) | (refine (within_no _ _ _ _ ?h).mono ?_; (case h => omega))); rintro e w' ⟨rfl, rfl⟩)
      go_ret
      rw [HC.out]
      exact ⟨rfl, grown_alloc _ _⟩
  · have HC : Hid (cmE d s l = 5) := by show _ = _; unfold cmE; rw [if_pos hs]
    obtain ⟨a, cap, rfl, h1, h2, h3, h4⟩ := hv
    unfold sizB at hs
    clear h4
    by_cases q1 : 1 ≤ d <;> by_cases q2 : d ≤ 8 <;> by_cases q3 : 1 ≤ s <;> by_cases q4 : s ≤ 64
    all_goals first | (exfalso; omega) | skip
    all_goals clear hs
    all_goals
      go_enter Try.func22, Try.ntmps22
      go_wp2_with (go_at_call 33; (first | (refine (within_yes _ _ _ _ ?h).mono ?_; (case h => omega)) | (refine (within_no _ _ _ _ ?h).mono ?_; (case h => omega))); rintro e w' ⟨rfl, rfl⟩)
      go_ret
      rw [HC.out]
      exact ⟨rfl, grown_alloc _ _⟩
end Go.Proofs.Ytigpbfmnbdbpcaa
