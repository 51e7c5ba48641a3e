/- The walks of Merge and of its reference. Conditions: cells are Go's ints. -/
import Derived.Test.YtigpbfmnbdbpcaaCmN
namespace Go.Proofs.Ytigpbfmnbdbpcaa
open Go.RowKit Go.ChangeShapes Go.WideShapes
set_option linter.unusedVariables false
set_option linter.unusedSimpArgs false
theorem Ints.at {k : IntKind} {w : World} {a : Option Addr} {n cap : Nat} {l : List Int} (h : Ints k w (.slice a n cap) l) (hl : 0 < l.length) : ∃ b off, a = some ⟨b, off, none⟩ ∧ b < w.heap.size ∧ ∀ i, i < l.length → w.cell? ⟨b, off + i, none⟩ = some (.int k (gI l i)) := by
  obtain ⟨a', cap', e, h1, h2, h3, h4⟩ := h
  injection e with e1 e2 e3
  subst e1
  rcases h4 with rfl | h4
  · simp at hl
  · exact h4
def mrE (d s z : Int) (l : List Int) (d2 s2 z2 : Int) (l2 : List Int) : Int := if cmE d s l ≠ 0 then cmE d s l else if cmE d2 s2 l2 ≠ 0 then cmE d2 s2 l2 else if ¬ (d = d2 ∧ s = s2 ∧ z = z2) then 10 else 0
def mrI (d s z : Int) (l : List Int) (d2 s2 z2 : Int) (l2 : List Int) (x : Int) : Int := if mrE d s z l d2 s2 z2 l2 = 0 then x else 0
def mrV (d s z : Int) (l : List Int) (b : Bool) (d2 s2 z2 : Int) (l2 : List Int) (b2 : Bool) : List Int × Bool := if mrE d s z l d2 s2 z2 l2 = 0 then (mrgL l l2, mrgB l l2 (b || b2) l.length) else ([], false)
/-- The cells when k of them are merged. -/
def mrgK (l m : List Int) (k : Nat) : List Int := (List.range l.length).map fun i => if i < k then addS (gI l i) (gI m i) 4294967295 else gI l i
theorem length_mrgK (l m : List Int) (k : Nat) : (mrgK l m k).length = l.length := by simp [mrgK]
theorem gI_mrgK {l m : List Int} {k i : Nat} (h : i < l.length) : gI (mrgK l m k) i = if i < k then addS (gI l i) (gI m i) 4294967295 else gI l i := by
  rw [gI_eq (by rw [length_mrgK]; exact h)]; simp [mrgK]
theorem mrgK_zero (l m : List Int) : mrgK l m 0 = l := by
  refine ext_of_gI (length_mrgK _ _ _) ?_
  intro i hi
  rw [length_mrgK] at hi
  rw [gI_mrgK hi, if_neg (by omega)]
theorem mrgK_end (l m : List Int) : mrgK l m l.length = mrgL l m := by
  refine ext_of_gI (by rw [length_mrgK, length_mrgL]) ?_
  intro i hi
  rw [length_mrgK] at hi
  rw [gI_mrgK hi, if_pos hi, gI_mrgL hi]
theorem mrgK_succ {l m : List Int} {k : Nat} (hk : k < l.length) : mrgK l m (k + 1) = (mrgK l m k).set k (addS (gI l k) (gI m k) 4294967295) := by
  refine ext_of_gI (by simp [length_mrgK]) ?_
  intro i hi
  rw [length_mrgK] at hi
  rw [gI_set _ _ _ _ (by rw [length_mrgK]; exact hk), gI_mrgK hi, gI_mrgK hi]
  by_cases e : i = k
  · subst e; rw [if_pos (by omega), if_pos rfl]
  · rw [if_neg e]
    by_cases h : i < k
    · rw [if_pos h, if_pos (by omega)]
    · rw [if_neg h, if_neg (by omega)]
theorem okL_mrgK {l m : List Int} (hl : okL l) (hm : okL m) (h : m.length = l.length) (k : Nat) : okL (mrgK l m k) := by
  intro x hx
  simp only [mrgK, List.mem_map, List.mem_range] at hx
  obtain ⟨i, hi, rfl⟩ := hx
  split
  · exact addS_in (hl _ (gI_mem hi)).1 (hm _ (gI_mem (by omega))).1
  · exact hl _ (gI_mem hi)
set_option maxRecDepth 100000 in
set_option maxHeartbeats 3200000 in
theorem cmmerge_any (d s z : Int) (v : Value) (l : List Int) (b : Bool) (d2 s2 z2 : Int) (v2 : Value) (l2 : List Int) (b2 : Bool) (w : World) (hv : Ints .i64 w v l) (hv2 : Ints .i64 w v2 l2) :
    Calls Try.prog 26 #[.agg #[.int .i64 d, .int .i64 s, .int .u64 z, v, .bool b], .agg #[.int .i64 d2, .int .i64 s2, .int .u64 z2, v2, .bool b2]] w fun e w' => ∃ u, e = .returned (.tuple #[.agg #[.int .i64 (mrI d s z l d2 s2 z2 l2 d), .int .i64 (mrI d s z l d2 s2 z2 l2 s), .int .u64 (mrI d s z l d2 s2 z2 l2 z), u, .bool (mrV d s z l b d2 s2 z2 l2 b2).2], .int .i64 (mrE d s z l d2 s2 z2 l2)]) ∧ Ints .i64 w' u (mrV d s z l b d2 s2 z2 l2 b2).1 ∧ Fresh w.heap.size u ∧ w.grownBy w' none := by
  by_cases hE : cmE d s l = 0
  · by_cases hE2 : cmE d2 s2 l2 = 0
    · by_cases hk : d = d2 ∧ s = s2 ∧ z = z2
      · obtain ⟨rfl, rfl, rfl⟩ := hk
        have hM : mrE d s z l d s z l2 = 0 := by unfold mrE; rw [if_neg (by simpa using hE), if_neg (by simpa using hE2), if_neg (fun h => h ⟨rfl, rfl, rfl⟩)]
        have e1 : ∀ x, mrI d s z l d s z l2 x = x := fun x => by unfold mrI; rw [if_pos hM]
        rw [e1, e1, e1, hM, show mrV d s z l b d s z l2 b2 = (mrgL l l2, mrgB l l2 (b || b2) l.length) from by unfold mrV; rw [if_pos hM]]
        clear e1 hM
        obtain ⟨hs, hl, hg⟩ := cmE_ok hE
        obtain ⟨-, hl2, hg2⟩ := cmE_ok hE2
        have hm := mul_in hs
        have C1 := Lib.hid (fun w (h : Ints .i64 w v l) => cmvalid_any d s z v l b w h)
        have C2 := Lib.hid (fun w (h : Ints .i64 w v2 l2) => cmvalid_any d s z v2 l2 b2 w h)
        have HV := Lib.hid hv
        have HV2 := Lib.hid hv2
        obtain ⟨a, cap, rfl, -, -, -, -⟩ := id hv
        obtain ⟨a2, cap2, rfl, -, -, -, -⟩ := id hv2
        rw [hE] at C1
        rw [hE2] at C2
        have HG := Lib.hid hg
        have HG2 := Lib.hid hg2
        have hpos : 0 < l.length := by omega
        have hll : l2.length = l.length := by omega
        have hl5 : l.length ≤ 512 := by omega
        have HLL := Lib.hid hll
        clear hE hE2 hl hl2 hg hg2 hs hm hll
        obtain ⟨c, hc⟩ : ∃ c, c = (b || b2) := ⟨_, rfl⟩
        rw [← hc]
        have HB := Lib.hid hc
        clear hc
        clear hv hv2
        go_enter Try.func26, Try.ntmps26
        go_wp2_with fail
        refine (C1.out _ (HV.out.grown (((grown_alloc _ _).trans' (grown_alloc _ _)).trans' (grown_alloc _ _)))).mono ?_
        rintro e w1 ⟨rfl, g1⟩
        have G1 : w.grownBy w1 none := (((grown_alloc _ _).trans' (grown_alloc _ _)).trans' (grown_alloc _ _)).trans' g1
        have hz1 : w.heap.size + 3 ≤ w1.heap.size := by simpa using g1.size
        have c1 := (((Blk.new w _ _).keep (grown_alloc _ _)).keep (grown_alloc _ _)).keep g1
        have x1 := ((Blk.newAt (w.alloc _) (w.heap.size + 1) _ _ (by simp)).keep (grown_alloc _ _)).keep g1
        have r1 := (Blk.newAt ((w.alloc _).alloc _) (w.heap.size + 1 + 1) _ _ (by simp)).keep g1
        clear g1
        obtain ⟨x10, x11, x12, x13, x14, x15⟩ := x1.at5
        go_wp2_with fail
        refine (C2.out _ (HV2.out.grown G1)).mono ?_
        rintro e w2 ⟨rfl, g2⟩
        clear x10 x11 x12 x13 x14 x15
        have hz2 := g2.size
        have GG := G1.trans' g2
        have c2 := c1.keep g2
        have x2 := x1.keep g2
        have r2 := r1.keep g2
        clear g2 c1 x1 r1
        have C3 := Lib.hid (fun w (h : Ints .i64 w (.slice a l.length cap) l) => copied_any d s z _ l b w h (by omega))
        obtain ⟨bl2, off2, rfl, hbl2, hcl2⟩ := HV2.out.at (by have := HLL.out; omega)
        have HC2 := Lib.hid hcl2
        clear hcl2
        obtain ⟨c10, c11, c12, c13, c14, c15⟩ := c2.at5
        obtain ⟨x10, x11, x12, x13, x14, x15⟩ := x2.at5
        go_wp2_with fail
        refine (C3.out _ (HV.out.grown GG)).mono ?_
        rintro e w3 ⟨u, rfl, hu, g3⟩
        obtain ⟨gu, cu, rfl, hgu, R3, hcu1, hcu2⟩ := row_of_own hu hpos
        have hz3 := g3.size
        have hgu2 := R3.lt
        clear c10 c11 c12 c13 c14 c15 x10 x11 x12 x13 x14 x15 hu
        have x3 := x2.keep g3
        have r3 := r2.keep g3
        have G3 := GG.trans' g3
        obtain ⟨c30, c31, c32, c33, c34⟩ := (c2.keep g3).ev5
        obtain ⟨x30, x31, x32, x33, x34⟩ := x3.ev5
        have ga : ∀ (w : World) (o : Obj), w.grownBy (w.alloc o) none := grown_alloc
        cases b <;> cases b2
        all_goals
          go_wp2_with fail
          refine wAbs (P := fun w' => Two gu w3.heap.size w3 w' ∧ Row .i64 3 gu l w' ∧ Blk w3.heap.size #[.int .i64 d, .int .i64 s, .int .u64 z, .slice (some ⟨gu, 0, none⟩) l.length cu, .bool c] 26 w') ⟨(Two.refl _ _ _).grown (grown_alloc _ _), R3.keep (grown_alloc _ _), (by rw [HB.out]; exact Blk.new _ _ _)⟩ ?_
          rintro w4 ⟨T4, R4, d4⟩
          clear c30 c31 c32 c33 c34 x30 x31 x32 x33 x34 ga
          go_loopw [57] (fun i wr => ∃ k : Nat, k ≤ l.length ∧ i = .int .i64 k ∧ Row .i64 3 gu (mrgK l l2 k) wr ∧ Blk w3.heap.size #[.int .i64 d, .int .i64 s, .int .u64 z, .slice (some ⟨gu, 0, none⟩) l.length cu, .bool (mrgB l l2 c k)] 26 wr ∧ Two gu w3.heap.size w3 wr) (fun i _ => l.length - (intOf i).toNat)
          case atStart => exact ⟨0, by omega, rfl, by rw [mrgK_zero]; exact R4, d4, T4⟩
          case round =>
            obtain ⟨k, hk, rfl, R5, d5, T5⟩ := hrel
            have hll := HLL.out
            have hklen := length_mrgK l l2 k
            have hok := okL_mrgK HG.out HG2.out hll k
            have G5 := T5.up G3 (by omega) (by omega)
            have hz5 := T5.size
            by_cases hlt : k < l.length
            · have hx1 := HG.out _ (gI_mem hlt)
              have hx2 := HG2.out _ (gI_mem (show k < l2.length by omega))
              have y1 := R5.cell (i := k) (by omega)
              have y2 := R5.froz k
              have y3 := kcell G5 (HC2.out k (by omega)) hbl2
              have hgk : gI (mrgK l l2 k) k = gI l k := by rw [gI_mrgK hlt, if_neg (by omega)]
              rw [hgk] at y1
              have HS := Lib.hid (mrgK_succ (m := l2) hlt)
              have hF : mrgB l l2 c (k + 1) = (mrgB l l2 c k || addB (gI l k) (gI l2 k) 4294967295) := rfl
              have HF := Lib.hid hF
              clear hF hgk hok
              have C6 := Lib.hid (fun w => add_any (gI l k) (gI l2 k) 4294967295 w (by omega) (by omega) (by omega))
              have hsx : 0 ≤ addS (gI l k) (gI l2 k) 4294967295 ∧ addS (gI l k) (gI l2 k) 4294967295 ≤ 4294967295 := addS_in hx1.1 hx2.1
              have hkl2 : (k : Int) < l2.length := by omega
              have hkl1 : (k : Int) < l.length := by omega
              generalize mrgB l l2 c k = f at *
              generalize addS (gI l k) (gI l2 k) 4294967295 = n at *
              generalize addB (gI l k) (gI l2 k) 4294967295 = fb at *
              generalize gI l k = X1 at *
              generalize gI l2 k = X2 at *
              have HLL2 := Lib.hid hll
              clear hll
              obtain ⟨d10, d11, d12, d13, d14, d15⟩ := d5.at5
              go_wp2_with fail
              refine (C6.out _).mono ?_
              rintro e w' ⟨rfl, rfl⟩
              go_wp2_with fail
              cases f
              all_goals
                go_region
                go_wp2
                go_roundw
                case rel =>
                  refine ⟨k + 1, by omega, by go_num, ?_, ?_, ?_⟩
                  · rw [HS.out]
                    exact ((R5.keep (grown_drew _)).set k n).set_ne 4 _ (by omega)
                  · rw [HF.out]
                    first
                      | exact ((d5.keep (grown_drew _)).set_ne k (.int .i64 n) (b' := gu) (by omega)).set 4 (.bool fb)
                      | exact ((d5.keep (grown_drew _)).set_ne k (.int .i64 n) (b' := gu) (by omega)).set 4 (.bool true)
                  · exact ((T5.grown (grown_drew _)).setp k _).setq 4 _
                case measure => simp [intOf]; omega
            · obtain rfl : k = l.length := by omega
              rw [mrgK_end] at R5 hok
              obtain ⟨d10, d11, d12, d13, d14, d15⟩ := d5.at5
              have r5 := r3.two T5 (by omega) (by omega)
              obtain ⟨r10, r11, r12, r13, r14, r15⟩ := r5.at5
              have hml := length_mrgL l l2
              have RI := R5.ints (cap := cu) (by omega) hcu2 (fun n hn => wf_ok (hok n hn))
              rw [hml] at RI
              clear hml
              have hnl : ¬ ((l.length : Int) < l2.length) := by omega
              have HLL2 := Lib.hid hll
              clear hll
              go_wp2
              refine bodyPost_ret (v := .tuple #[.agg #[.int .i64 d, .int .i64 s, .int .u64 z, .slice (some ⟨gu, 0, none⟩) l.length cu, .bool (mrgB l l2 c l.length)], .int .i64 0]) ?_ rfl ⟨_, rfl, ?_, fresh_of (by omega), ?_⟩
              · simp [results, Try.results26, go_sem, r10, r11, r12, r13, r14]
              · repeat (with_reducible refine Ints.set ?_ _ (by omega))
                exact RI
              · repeat (with_reducible refine grown_set ?_ _ (by omega))
                exact G5
      · have hM : mrE d s z l d2 s2 z2 l2 = 10 := by unfold mrE; rw [if_neg (by simpa using hE), if_neg (by simpa using hE2), if_pos hk]
        have e1 : ∀ x, mrI d s z l d2 s2 z2 l2 x = 0 := fun x => by unfold mrI; rw [if_neg (by rw [hM]; decide)]
        rw [e1, e1, e1, hM, show mrV d s z l b d2 s2 z2 l2 b2 = ([], false) from by unfold mrV; rw [if_neg (by rw [hM]; decide)]]
        clear e1 hM
        have C1 := Lib.hid (fun w (h : Ints .i64 w v l) => cmvalid_any d s z v l b w h)
        have C2 := Lib.hid (fun w (h : Ints .i64 w v2 l2) => cmvalid_any d2 s2 z2 v2 l2 b2 w h)
        have HV := Lib.hid hv
        have HV2 := Lib.hid hv2
        obtain ⟨a, cap, rfl, -, -, -, -⟩ := id hv
        obtain ⟨a2, cap2, rfl, -, -, -, -⟩ := id hv2
        rw [hE] at C1
        rw [hE2] at C2
        clear hE hE2
        clear hv hv2
        go_enter Try.func26, Try.ntmps26
        go_wp2_with fail
        refine (C1.out _ (HV.out.grown (((grown_alloc _ _).trans' (grown_alloc _ _)).trans' (grown_alloc _ _)))).mono ?_
        rintro e w1 ⟨rfl, g1⟩
        have G1 : w.grownBy w1 none := (((grown_alloc _ _).trans' (grown_alloc _ _)).trans' (grown_alloc _ _)).trans' g1
        have hz1 : w.heap.size + 3 ≤ w1.heap.size := by simpa using g1.size
        have c1 := (((Blk.new w _ _).keep (grown_alloc _ _)).keep (grown_alloc _ _)).keep g1
        have x1 := ((Blk.newAt (w.alloc _) (w.heap.size + 1) _ _ (by simp)).keep (grown_alloc _ _)).keep g1
        have r1 := (Blk.newAt ((w.alloc _).alloc _) (w.heap.size + 1 + 1) _ _ (by simp)).keep g1
        clear g1
        obtain ⟨x10, x11, x12, x13, x14, x15⟩ := x1.at5
        go_wp2_with fail
        refine (C2.out _ (HV2.out.grown G1)).mono ?_
        rintro e w2 ⟨rfl, g2⟩
        clear x10 x11 x12 x13 x14 x15
        have hz2 := g2.size
        have GG := G1.trans' g2
        have c2 := c1.keep g2
        have x2 := x1.keep g2
        have r2 := r1.keep g2
        clear g2 c1 x1 r1
        obtain ⟨c10, c11, c12, c13, c14, c15⟩ := c2.at5
        obtain ⟨x10, x11, x12, x13, x14, x15⟩ := x2.at5
        obtain ⟨r10, r11, r12, r13, r14, r15⟩ := r2.at5
        have hkk : (d != d2) = true ∨ ((d != d2) = false ∧ (s != s2) = true) ∨ ((d != d2) = false ∧ (s != s2) = false ∧ (z != z2) = true) := by
          by_cases h1 : d = d2
          · by_cases h2 : s = s2
            · have h3 : z ≠ z2 := fun h => hk ⟨h1, h2, h⟩
              exact .inr (.inr ⟨by simpa using h1, by simpa using h2, by simpa using h3⟩)
            · exact .inr (.inl ⟨by simpa using h1, by simpa using h2⟩)
          · exact .inl (by simpa using h1)
        clear hk
        rcases hkk with k1 | ⟨k1, k2⟩ | ⟨k1, k2, k3⟩
        all_goals
          go_wp2
          refine bodyPost_ret (v := .tuple #[.agg #[.int .i64 0, .int .i64 0, .int .u64 0, .slice none 0 0, .bool false], .int .i64 10]) ?_ rfl ⟨_, rfl, ints_nil _ _, fresh_nil _ _ _, ?_⟩
          · simp [results, Try.results26, go_sem, r10, r11, r12, r13, r14]
          · repeat (with_reducible refine grown_set ?_ _ (by omega))
            exact GG
    · have hM : mrE d s z l d2 s2 z2 l2 = cmE d2 s2 l2 := by unfold mrE; rw [if_neg (by simpa using hE), if_pos hE2]
      have e1 : ∀ x, mrI d s z l d2 s2 z2 l2 x = 0 := fun x => by unfold mrI; rw [if_neg (by rw [hM]; exact hE2)]
      rw [e1, e1, e1, hM, show mrV d s z l b d2 s2 z2 l2 b2 = ([], false) from by unfold mrV; rw [if_neg (by rw [hM]; exact hE2)]]
      clear e1 hM
      have C1 := Lib.hid (fun w (h : Ints .i64 w v l) => cmvalid_any d s z v l b w h)
      have C2 := Lib.hid (fun w (h : Ints .i64 w v2 l2) => cmvalid_any d2 s2 z2 v2 l2 b2 w h)
      have HV := Lib.hid hv
      have HV2 := Lib.hid hv2
      obtain ⟨a, cap, rfl, -, -, -, -⟩ := id hv
      obtain ⟨a2, cap2, rfl, -, -, -, -⟩ := id hv2
      rw [hE] at C1
      generalize cmE d2 s2 l2 = E at *
      have hb1 : (E != 0) = true := by rw [bne_iff_ne]; exact hE2
      clear hE hE2
      clear hv hv2
      go_enter Try.func26, Try.ntmps26
      go_wp2_with fail
      refine (C1.out _ (HV.out.grown (((grown_alloc _ _).trans' (grown_alloc _ _)).trans' (grown_alloc _ _)))).mono ?_
      rintro e w1 ⟨rfl, g1⟩
      have G1 : w.grownBy w1 none := (((grown_alloc _ _).trans' (grown_alloc _ _)).trans' (grown_alloc _ _)).trans' g1
      have hz1 : w.heap.size + 3 ≤ w1.heap.size := by simpa using g1.size
      have c1 := (((Blk.new w _ _).keep (grown_alloc _ _)).keep (grown_alloc _ _)).keep g1
      have x1 := ((Blk.newAt (w.alloc _) (w.heap.size + 1) _ _ (by simp)).keep (grown_alloc _ _)).keep g1
      have r1 := (Blk.newAt ((w.alloc _).alloc _) (w.heap.size + 1 + 1) _ _ (by simp)).keep g1
      clear g1
      obtain ⟨x10, x11, x12, x13, x14, x15⟩ := x1.at5
      go_wp2_with fail
      refine (C2.out _ (HV2.out.grown G1)).mono ?_
      rintro e w2 ⟨rfl, g2⟩
      clear x10 x11 x12 x13 x14 x15
      have hz2 := g2.size
      have GG := G1.trans' g2
      have c2 := c1.keep g2
      have x2 := x1.keep g2
      have r2 := r1.keep g2
      clear g2 c1 x1 r1
      obtain ⟨r10, r11, r12, r13, r14, r15⟩ := r2.at5
      go_wp2
      refine bodyPost_ret (v := .tuple #[.agg #[.int .i64 0, .int .i64 0, .int .u64 0, .slice none 0 0, .bool false], .int .i64 E]) ?_ rfl ⟨_, rfl, ints_nil _ _, fresh_nil _ _ _, ?_⟩
      · simp [results, Try.results26, go_sem, r10, r11, r12, r13, r14]
      · repeat (with_reducible refine grown_set ?_ _ (by omega))
        exact GG
  · have hM : mrE d s z l d2 s2 z2 l2 = cmE d s l := by unfold mrE; rw [if_pos hE]
    have e1 : ∀ x, mrI d s z l d2 s2 z2 l2 x = 0 := fun x => by unfold mrI; rw [if_neg (by rw [hM]; exact hE)]
    rw [e1, e1, e1, hM, show mrV d s z l b d2 s2 z2 l2 b2 = ([], false) from by unfold mrV; rw [if_neg (by rw [hM]; exact hE)]]
    clear e1 hM
    have C1 := Lib.hid (fun w (h : Ints .i64 w v l) => cmvalid_any d s z v l b w h)
    have C2 := Lib.hid (fun w (h : Ints .i64 w v2 l2) => cmvalid_any d2 s2 z2 v2 l2 b2 w h)
    have HV := Lib.hid hv
    have HV2 := Lib.hid hv2
    obtain ⟨a, cap, rfl, -, -, -, -⟩ := id hv
    obtain ⟨a2, cap2, rfl, -, -, -, -⟩ := id hv2
    clear C2
    generalize cmE d s l = E at *
    have hb1 : (E != 0) = true := by rw [bne_iff_ne]; exact hE
    clear hE
    clear hv hv2
    go_enter Try.func26, Try.ntmps26
    go_wp2_with fail
    refine (C1.out _ (HV.out.grown (((grown_alloc _ _).trans' (grown_alloc _ _)).trans' (grown_alloc _ _)))).mono ?_
    rintro e w1 ⟨rfl, g1⟩
    have G1 : w.grownBy w1 none := (((grown_alloc _ _).trans' (grown_alloc _ _)).trans' (grown_alloc _ _)).trans' g1
    have hz1 : w.heap.size + 3 ≤ w1.heap.size := by simpa using g1.size
    have c1 := (((Blk.new w _ _).keep (grown_alloc _ _)).keep (grown_alloc _ _)).keep g1
    have x1 := ((Blk.newAt (w.alloc _) (w.heap.size + 1) _ _ (by simp)).keep (grown_alloc _ _)).keep g1
    have r1 := (Blk.newAt ((w.alloc _).alloc _) (w.heap.size + 1 + 1) _ _ (by simp)).keep g1
    clear g1
    have GG := G1
    obtain ⟨r10, r11, r12, r13, r14, r15⟩ := r1.at5
    go_wp2
    refine bodyPost_ret (v := .tuple #[.agg #[.int .i64 0, .int .i64 0, .int .u64 0, .slice none 0 0, .bool false], .int .i64 E]) ?_ rfl ⟨_, rfl, ints_nil _ _, fresh_nil _ _ _, ?_⟩
    · simp [results, Try.results26, go_sem, r10, r11, r12, r13, r14]
    · repeat (with_reducible refine grown_set ?_ _ (by omega))
      exact GG
end Go.Proofs.Ytigpbfmnbdbpcaa
