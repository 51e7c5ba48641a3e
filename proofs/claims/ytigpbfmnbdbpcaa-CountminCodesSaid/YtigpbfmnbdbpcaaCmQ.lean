/- The walk of the reference's merge. Conditions: cells are Go's ints. -/
import Derived.Test.YtigpbfmnbdbpcaaCmP
import Derived.Deep.RegionLaw
namespace Go.Proofs.Ytigpbfmnbdbpcaa
open Go.RowKit Go.ChangeShapes Go.WideShapes
set_option linter.unusedVariables false
set_option linter.unusedSimpArgs false
theorem Two.own {p q : Nat} {w w1 w2 w3 : World} {r : Option Nat} (h : Two p q w w1) (g : w1.grownBy w2 none) (g' : w2.grownBy w3 r) (hr : ∀ k, r = some k → w.heap.size ≤ k) : Two p q w w3 := by
  obtain ⟨h1, h2, h3, h4, h5⟩ := h.grown g
  exact ⟨g'.os.trans h1, g'.tape.trans h2, g'.output.trans h3, Nat.le_trans h4 g'.size, fun k hk hp hq => (g'.block k (Nat.lt_of_lt_of_le hk h4) (fun e => by have := hr k e.symm; omega)).trans (h5 k hk hp hq)⟩
theorem Blk.own {b : Nat} {cs : Array Value} {t : TypeId} {w w' : World} {r : Option Nat} (h : Blk b cs t w) (g : w.grownBy w' r) (hne : r ≠ some b) : Blk b cs t w' := by
  have := g.block b h.lt (fun e => hne e.symm)
  unfold Blk at *
  rw [this]; exact h
theorem sqL_skip2 {P : Program} {ops : Array Oper} {Q : Exit → Act → World → Prop} {S : World → Prop} {o : Oper} {r : List Oper} {ks : List Nat} {a : Act} {w : World} (hw : Region.wanted o (yielded ops a.tmps) = false)
    (h : wpSqL P ops Q S r ks (a.put o.dst undef) w) : wpSqL P ops Q S (o :: r) (2 :: ks) a w := by
  unfold wpSqL; rw [if_neg (by simp), if_neg (by simp)]; exact ⟨undef, .inr ⟨hw, rfl⟩, h⟩
set_option maxRecDepth 100000 in
set_option maxHeartbeats 3200000 in
theorem cmmerger_any (d s z : Int) (v : Value) (l : List Int) (b : Bool) (d2 s2 z2 : Int) (v2 : Value) (l2 : List Int) (b2 : Bool) (w : World) (hv : Ints .i64 w v l) (hv2 : Ints .i64 w v2 l2) :
    Calls Try.prog 27 #[.agg #[.int .i64 d, .int .i64 s, .int .u64 z, v, .bool b], .agg #[.int .i64 d2, .int .i64 s2, .int .u64 z2, v2, .bool b2]] w fun e w' => ∃ u, e = .returned (.tuple #[.agg #[.int .i64 (mrI d s z l d2 s2 z2 l2 d), .int .i64 (mrI d s z l d2 s2 z2 l2 s), .int .u64 (mrI d s z l d2 s2 z2 l2 z), u, .bool (mrV d s z l b d2 s2 z2 l2 b2).2], .int .i64 (mrE d s z l d2 s2 z2 l2)]) ∧ Ints .i64 w' u (mrV d s z l b d2 s2 z2 l2 b2).1 ∧ Fresh w.heap.size u ∧ w.grownBy w' none := by
  by_cases hE : cmE d s l = 0
  · by_cases hE2 : cmE d2 s2 l2 = 0
    · by_cases hk : d = d2 ∧ s = s2 ∧ z = z2
      · obtain ⟨rfl, rfl, rfl⟩ := hk
        have hM : mrE d s z l d s z l2 = 0 := by unfold mrE; rw [if_neg (by simpa using hE), if_neg (by simpa using hE2), if_neg (fun h => h ⟨rfl, rfl, rfl⟩)]
        have e1 : ∀ x, mrI d s z l d s z l2 x = x := fun x => by unfold mrI; rw [if_pos hM]
        rw [e1, e1, e1, hM, show mrV d s z l b d s z l2 b2 = (mrgL l l2, mrgB l l2 (b || b2) l.length) from by unfold mrV; rw [if_pos hM]]
        clear e1 hM
        obtain ⟨hs, hl, hg⟩ := cmE_ok hE
        obtain ⟨-, hl2, hg2⟩ := cmE_ok hE2
        have hm := mul_in hs
        have C1 := Lib.hid (fun w (h : Ints .i64 w v l) => cmvalidr_any d s z v l b w h)
        have C2 := Lib.hid (fun w (h : Ints .i64 w v2 l2) => cmvalidr_any d s z v2 l2 b2 w h)
        have HV := Lib.hid hv
        have HV2 := Lib.hid hv2
        obtain ⟨a, cap, rfl, -, -, -, -⟩ := id hv
        obtain ⟨a2, cap2, rfl, -, -, -, -⟩ := id hv2
        rw [hE] at C1
        rw [hE2] at C2
        have HG := Lib.hid hg
        have HG2 := Lib.hid hg2
        have hpos : 0 < l.length := by omega
        have hll : l2.length = l.length := by omega
        have hl5 : l.length ≤ 512 := by omega
        have HLL := Lib.hid hll
        clear hE hE2 hl hl2 hg hg2 hs hm hll
        obtain ⟨c, hc⟩ : ∃ c, c = (b || b2) := ⟨_, rfl⟩
        rw [← hc]
        have HB := Lib.hid hc
        clear hc
        clear hv hv2
        go_enter Try.func27, Try.ntmps27
        go_wp2_with fail
        refine (C1.out _ (HV.out.grown (((grown_alloc _ _).trans' (grown_alloc _ _)).trans' (grown_alloc _ _)))).mono ?_
        rintro e w1 ⟨rfl, g1⟩
        have G1 : w.grownBy w1 none := (((grown_alloc _ _).trans' (grown_alloc _ _)).trans' (grown_alloc _ _)).trans' g1
        have hz1 : w.heap.size + 3 ≤ w1.heap.size := by simpa using g1.size
        have c1 := (((Blk.new w _ _).keep (grown_alloc _ _)).keep (grown_alloc _ _)).keep g1
        have x1 := ((Blk.newAt (w.alloc _) (w.heap.size + 1) _ _ (by simp)).keep (grown_alloc _ _)).keep g1
        have r1 := (Blk.newAt ((w.alloc _).alloc _) (w.heap.size + 1 + 1) _ _ (by simp)).keep g1
        clear g1
        obtain ⟨x10, x11, x12, x13, x14, x15⟩ := x1.at5
        go_wp2_with fail
        refine (C2.out _ (HV2.out.grown G1)).mono ?_
        rintro e w2 ⟨rfl, g2⟩
        clear x10 x11 x12 x13 x14 x15
        have hz2 := g2.size
        have GG := G1.trans' g2
        have c2 := c1.keep g2
        have x2 := x1.keep g2
        have r2 := r1.keep g2
        clear g2 c1 x1 r1
        obtain ⟨bl, off, rfl, hbl, hcl⟩ := HV.out.at hpos
        have HC := Lib.hid hcl
        obtain ⟨bl2, off2, rfl, hbl2, hcl2⟩ := HV2.out.at (by have := HLL.out; omega)
        have HC2 := Lib.hid hcl2
        clear hcl2 hcl
        obtain ⟨c20, c21, c22, c23, c24⟩ := c2.ev5
        obtain ⟨x20, x21, x22, x23, x24⟩ := x2.ev5
        have gr := grown_refl w2
        cases b
        all_goals
          go_wp2_with fail
          refine wAbs (P := fun w' => Two w2.heap.size w2.heap.size w2 w' ∧ Blk w2.heap.size #[.int .i64 d, .int .i64 s, .int .u64 z, .slice none 0 0, .bool c] 26 w') ⟨(Two.refl _ _ _).grown (grown_alloc _ _), (by rw [HB.out]; exact Blk.new _ _ _)⟩ ?_
          rintro w4 ⟨T4, d4⟩
          clear c20 c21 c22 c23 c24 x20 x21 x22 x23 x24 gr
          go_loopw [9] (fun i wr => ∃ (k : Nat) (v : Value), k ≤ l.length ∧ i = .int .i64 k ∧ wr.ownsRow (w2.heap.size + 1) 3 1 v k (((mrgL l l2).take k).map (.int .i64)) ∧ Blk w2.heap.size #[.int .i64 d, .int .i64 s, .int .u64 z, v, .bool (mrgB l l2 c k)] 26 wr ∧ Two w2.heap.size w2.heap.size w2 wr) (fun i _ => l.length - (intOf i).toNat)
          case atStart => exact ⟨0, _, by omega, rfl, World.ownsRow_nil _ _ _ _, d4, T4⟩
          case round =>
            obtain ⟨k, v, hk, rfl, ho5, d5, T5⟩ := hrel
            have hll := HLL.out
            have hml := length_mrgL l l2
            have hok : okL (mrgL l l2) := by rw [← mrgK_end]; exact okL_mrgK HG.out HG2.out hll _
            have G5 := T5.up GG (by omega) (by omega)
            have hz5 := T5.size
            have hr5 := c2.two T5 (by have := c2.lt; omega) (by have := c2.lt; omega)
            have hx5 := x2.two T5 (by have := x2.lt; omega) (by have := x2.lt; omega)
            by_cases hlt : k < l.length
            · have hx1 := HG.out _ (gI_mem hlt)
              have hx2 := HG2.out _ (gI_mem (show k < l2.length by omega))
              have y0 := kcell G5 (HC.out k hlt) hbl
              have y3 := kcell G5 (HC2.out k (by omega)) hbl2
              have hS := take_succ_gI (l := mrgL l l2) (k := k) (by omega)
              rw [gI_mrgL hlt] at hS
              have hF : mrgB l l2 c (k + 1) = (mrgB l l2 c k || addB (gI l k) (gI l2 k) 4294967295) := rfl
              have HS := Lib.hid hS
              have HF := Lib.hid hF
              clear hF hS hok hml
              have C6 := Lib.hid (fun w n => addrq (gI l k) (gI l2 k) 4294967295 (World.drewN w n) (by omega) (by omega) (by omega))
              have hsx : 0 ≤ addS (gI l k) (gI l2 k) 4294967295 ∧ addS (gI l k) (gI l2 k) 4294967295 ≤ 4294967295 := addS_in hx1.1 hx2.1
              have hkl2 : (k : Int) < l2.length := by omega
              have hkl1 : (k : Int) < l.length := by omega
              have hkl0 : (0 : Int) ≤ k := by omega
              generalize mrgB l l2 c k = f at *
              generalize addS (gI l k) (gI l2 k) 4294967295 = n at *
              generalize addB (gI l k) (gI l2 k) 4294967295 = fb at *
              generalize gI l k = X1 at *
              generalize gI l2 k = X2 at *
              have HLL2 := Lib.hid hll
              clear hll
              obtain ⟨a5, k5, rfl, hka, hkb⟩ := own_shape ho5
              obtain ⟨d10, d11, d12, d13, d14, d15⟩ := d5.at5
              obtain ⟨c10, c11, c12, c13, c14, c15⟩ := hr5.at5
              obtain ⟨x10, x11, x12, x13, x14, x15⟩ := hx5.at5
              go_wp2_with fail
              go_quiet ((go_at_call 50; exact Calls.quiet_of_same (C6.out _ _)))
              go_wp2_with fail
              have e5 : w2.heap.size < wr.heap.size := d5.lt
              clear d10 d11 d12 d13 d14 d15 c10 c11 c12 c13 c14 c15 x10 x11 x12 x13 x14 x15
              have f3 : ∀ w' : World, Blk w2.heap.size #[.int .i64 d, .int .i64 s, .int .u64 z, .slice a5 k k5, .bool f] 26 w' → w'.cell? ⟨w2.heap.size, 3, none⟩ = some (.slice a5 k k5) := fun w' h => h.at5.2.2.2.1
              have f4 : ∀ w' : World, Blk w2.heap.size #[.int .i64 d, .int .i64 s, .int .u64 z, .slice a5 k k5, .bool f] 26 w' → w'.cell? ⟨w2.heap.size, 4, none⟩ = some (.bool f) := fun w' h => h.at5.2.2.2.2.1
              cases f
              all_goals
                refine wp_region_sqL 11 [0, 2, 5, 1, 6, 3, 4, 7, 10, 8, 9, 11, 12, 13] [0, 0, 0, 0, 0, 1, 1, 0, 0, 2, 2, 3, 2, 3] (Blk w2.heap.size #[.int .i64 d, .int .i64 s, .int .u64 z, .slice a5 k k5, .bool _] 26) (by kernel_rfl) (by kernel_rfl) (by kernel_rfl) (by kernel_rfl) (d5.keep ((grown_drew _).trans' (grown_drew1 _))) ?_
                simp only [pick, List.map_cons, List.map_nil, List.getD_cons_zero, List.getD_cons_succ]
                repeat (first
                  | (((first | refine sqL_skip (by rfl) ?_ | refine sqL_skip2 (by rfl) ?_)); (try simp only [Act.put, List.setIfInBounds_toArray, List.set_cons_zero, List.set_cons_succ]))
                  | (((first | refine sqL_take ?_ (by rfl) ?_ ?_ | refine sqL_pure ?_ (by rfl) ?_ ?_)); rotate_left; (focus (intro w' hS; go_simp; first | done | with_reducible rfl)); (try simp only [Act.put, List.setIfInBounds_toArray, List.set_cons_zero, List.set_cons_succ])))

                refine sqL_run (by rfl) ?_
                intro K hK
                go_simp
                refine hK _ _ (d5.keep (((grown_drew nq).trans' (grown_drew1 _)).trans' (grown_alloc _ _))) ?_
                clear hK K
                try simp only [Act.put, List.setIfInBounds_toArray, List.set_cons_zero, List.set_cons_succ]
                refine sqL_run (by rfl) ?_
                intro K hK
                have own0 : ((wr.drewN nq).drew.alloc (.cells #[.int .i64 n] 3)).ownsRow (w2.heap.size + 1) 3 1 (.slice a5 k k5) k (((mrgL l l2).take k).map (.int .i64)) := own_keep ho5 (((grown_drew nq).trans' (grown_drew1 _)).trans' (grown_alloc _ _))
                refine wp_appS _ _ _ 24 24 (by rfl) (w2.heap.size + 1) 3 (.int .i64 0) 1 8 Try.underlying24 Try.infoInt rfl (by decide) _ _ _ 1 _ [.int .i64 n] own0 (by rfl) (by rfl) (own_src (own_lit1 (wr.drewN nq).drew 3 (.int .i64 n)) (by simp [Value.oneCell']) Try.underlying24) (by unfold maxLen; omega) (by omega) (by simp; omega) ?_
                intro v6 w6 ho6 g6 _
                obtain ⟨a6, k6, rfl, hka6, hkb6⟩ := own_shape ho6
                have hz6 := g6.size
                have hbl5 : ∀ g, (Value.slice a5 k k5).ownBlock = some g → w2.heap.size + 1 ≤ g := fun g hg => (own0.lt g hg).1
                have T6 : Two w2.heap.size w2.heap.size w2 w6 := by
                  refine T5.own (((grown_drew nq).trans' (grown_drew1 _)).trans' (grown_alloc _ _)) g6 fun g hg => ?_
                  have := hbl5 g hg
                  omega
                have d6 := (d5.keep (((grown_drew nq).trans' (grown_drew1 _)).trans' (grown_alloc _ (.cells #[.int .i64 n] 3)))).own g6 (fun h => by have := hbl5 _ h; omega)
                refine hK _ _ d6 ?_
                clear hK K own0 ho5 g6
                try simp only [Act.put, List.setIfInBounds_toArray, List.set_cons_zero, List.set_cons_succ]
                repeat (first
                  | (((first | refine sqL_skip (by rfl) ?_ | refine sqL_skip2 (by rfl) ?_)); (try simp only [Act.put, List.setIfInBounds_toArray, List.set_cons_zero, List.set_cons_succ]))
                  | (((first | refine sqL_take ?_ (by rfl) ?_ ?_ | refine sqL_pure ?_ (by rfl) ?_ ?_)); rotate_left; (focus (intro w' hS; go_simp; first | done | with_reducible rfl)); (try simp only [Act.put, List.setIfInBounds_toArray, List.set_cons_zero, List.set_cons_succ])))

                refine sqL_late (by rfl) ?_
                intro K hK
                obtain ⟨d60, d61, d62, d63, d64, d65⟩ := d6.at5
                go_simp
                refine hK _ _ ?_
                clear hK K
                try simp only [Act.put, List.setIfInBounds_toArray, List.set_cons_zero, List.set_cons_succ]
                repeat (first
                  | (((first | refine sqL_skip (by rfl) ?_ | refine sqL_skip2 (by rfl) ?_)); (try simp only [Act.put, List.setIfInBounds_toArray, List.set_cons_zero, List.set_cons_succ]))
                  | (((first | refine sqL_take ?_ (by rfl) ?_ ?_ | refine sqL_pure ?_ (by rfl) ?_ ?_)); rotate_left; (focus (intro w' hS; go_simp; first | done | with_reducible rfl)); (try simp only [Act.put, List.setIfInBounds_toArray, List.set_cons_zero, List.set_cons_succ])))

                refine sqL_last (by rfl) ?_
                intro K hK
                go_simp
                refine hK _ _ ?_
                clear hK K
                try simp only [Act.put, List.setIfInBounds_toArray, List.set_cons_zero, List.set_cons_succ]
                go_wp2
                go_roundw
                case rel =>
                  refine ⟨k + 1, .slice a6 (k + 1) k6, by omega, by go_num, ?_, ?_, ?_⟩
                  · rw [HS.out]
                    exact ownsRow_setCell_below (ownsRow_setCell_below (by simpa using ho6) (by show w2.heap.size < _; omega) _) (by show w2.heap.size < _; omega) _
                  · rw [HF.out]
                    first
                      | exact (d6.set 3 (.slice a6 (k + 1) k6)).set 4 (.bool fb)
                      | exact (d6.set 3 (.slice a6 (k + 1) k6)).set 4 (.bool true)
                  · exact (T6.setp 3 _).setp 4 _
                case measure => simp [intOf]; omega
            · obtain rfl : k = l.length := by omega
              rw [List.take_of_length_le (by omega)] at ho5
              have RI : Ints .i64 wr v (mrgL l l2) := ints_of_own (by rw [hml]; exact ho5) (fun n hn => wf_ok (hok n hn))
              have hfr : Fresh (w2.heap.size + 1) v := by
                intro g nn cc e
                have := (ho5.lt g.block (by rw [e]; rfl)).1
                exact this
              obtain ⟨a5, k5, rfl, hka, hkb⟩ := own_shape ho5
              obtain ⟨d10, d11, d12, d13, d14, d15⟩ := d5.at5
              obtain ⟨c10, c11, c12, c13, c14, c15⟩ := hr5.at5
              have r5 := r2.two T5 (by have := r2.lt; omega) (by have := r2.lt; omega)
              obtain ⟨r10, r11, r12, r13, r14, r15⟩ := r5.at5
              clear hml
              go_wp2
              refine bodyPost_ret (v := .tuple #[.agg #[.int .i64 d, .int .i64 s, .int .u64 z, .slice a5 l.length k5, .bool (mrgB l l2 c l.length)], .int .i64 0]) ?_ rfl ⟨_, rfl, ?_, hfr.mono (by omega), ?_⟩
              · simp [results, Try.results27, go_sem, r10, r11, r12, r13, r14]
              · repeat (with_reducible refine Ints.setF ?_ hfr _ (by omega))
                exact RI
              · repeat (with_reducible refine grown_set ?_ _ (by omega))
                exact G5
      · have hM : mrE d s z l d2 s2 z2 l2 = 10 := by unfold mrE; rw [if_neg (by simpa using hE), if_neg (by simpa using hE2), if_pos hk]
        have e1 : ∀ x, mrI d s z l d2 s2 z2 l2 x = 0 := fun x => by unfold mrI; rw [if_neg (by rw [hM]; decide)]
        rw [e1, e1, e1, hM, show mrV d s z l b d2 s2 z2 l2 b2 = ([], false) from by unfold mrV; rw [if_neg (by rw [hM]; decide)]]
        clear e1 hM
        have C1 := Lib.hid (fun w (h : Ints .i64 w v l) => cmvalidr_any d s z v l b w h)
        have C2 := Lib.hid (fun w (h : Ints .i64 w v2 l2) => cmvalidr_any d2 s2 z2 v2 l2 b2 w h)
        have HV := Lib.hid hv
        have HV2 := Lib.hid hv2
        obtain ⟨a, cap, rfl, -, -, -, -⟩ := id hv
        obtain ⟨a2, cap2, rfl, -, -, -, -⟩ := id hv2
        rw [hE] at C1
        rw [hE2] at C2
        clear hE hE2
        clear hv hv2
        go_enter Try.func27, Try.ntmps27
        go_wp2_with fail
        refine (C1.out _ (HV.out.grown (((grown_alloc _ _).trans' (grown_alloc _ _)).trans' (grown_alloc _ _)))).mono ?_
        rintro e w1 ⟨rfl, g1⟩
        have G1 : w.grownBy w1 none := (((grown_alloc _ _).trans' (grown_alloc _ _)).trans' (grown_alloc _ _)).trans' g1
        have hz1 : w.heap.size + 3 ≤ w1.heap.size := by simpa using g1.size
        have c1 := (((Blk.new w _ _).keep (grown_alloc _ _)).keep (grown_alloc _ _)).keep g1
        have x1 := ((Blk.newAt (w.alloc _) (w.heap.size + 1) _ _ (by simp)).keep (grown_alloc _ _)).keep g1
        have r1 := (Blk.newAt ((w.alloc _).alloc _) (w.heap.size + 1 + 1) _ _ (by simp)).keep g1
        clear g1
        obtain ⟨x10, x11, x12, x13, x14, x15⟩ := x1.at5
        go_wp2_with fail
        refine (C2.out _ (HV2.out.grown G1)).mono ?_
        rintro e w2 ⟨rfl, g2⟩
        clear x10 x11 x12 x13 x14 x15
        have hz2 := g2.size
        have GG := G1.trans' g2
        have c2 := c1.keep g2
        have x2 := x1.keep g2
        have r2 := r1.keep g2
        clear g2 c1 x1 r1
        obtain ⟨c10, c11, c12, c13, c14, c15⟩ := c2.at5
        obtain ⟨x10, x11, x12, x13, x14, x15⟩ := x2.at5
        obtain ⟨r10, r11, r12, r13, r14, r15⟩ := r2.at5
        have hkk : (d != d2) = true ∨ ((d != d2) = false ∧ (s != s2) = true) ∨ ((d != d2) = false ∧ (s != s2) = false ∧ (z != z2) = true) := by
          by_cases h1 : d = d2
          · by_cases h2 : s = s2
            · have h3 : z ≠ z2 := fun h => hk ⟨h1, h2, h⟩
              exact .inr (.inr ⟨by simpa using h1, by simpa using h2, by simpa using h3⟩)
            · exact .inr (.inl ⟨by simpa using h1, by simpa using h2⟩)
          · exact .inl (by simpa using h1)
        clear hk
        rcases hkk with k1 | ⟨k1, k2⟩ | ⟨k1, k2, k3⟩
        all_goals
          go_wp2
          refine bodyPost_ret (v := .tuple #[.agg #[.int .i64 0, .int .i64 0, .int .u64 0, .slice none 0 0, .bool false], .int .i64 10]) ?_ rfl ⟨_, rfl, ints_nil _ _, fresh_nil _ _ _, ?_⟩
          · simp [results, Try.results27, go_sem, r10, r11, r12, r13, r14]
          · repeat (with_reducible refine grown_set ?_ _ (by omega))
            exact GG
    · have hM : mrE d s z l d2 s2 z2 l2 = cmE d2 s2 l2 := by unfold mrE; rw [if_neg (by simpa using hE), if_pos hE2]
      have e1 : ∀ x, mrI d s z l d2 s2 z2 l2 x = 0 := fun x => by unfold mrI; rw [if_neg (by rw [hM]; exact hE2)]
      rw [e1, e1, e1, hM, show mrV d s z l b d2 s2 z2 l2 b2 = ([], false) from by unfold mrV; rw [if_neg (by rw [hM]; exact hE2)]]
      clear e1 hM
      have C1 := Lib.hid (fun w (h : Ints .i64 w v l) => cmvalidr_any d s z v l b w h)
      have C2 := Lib.hid (fun w (h : Ints .i64 w v2 l2) => cmvalidr_any d2 s2 z2 v2 l2 b2 w h)
      have HV := Lib.hid hv
      have HV2 := Lib.hid hv2
      obtain ⟨a, cap, rfl, -, -, -, -⟩ := id hv
      obtain ⟨a2, cap2, rfl, -, -, -, -⟩ := id hv2
      rw [hE] at C1
      generalize cmE d2 s2 l2 = E at *
      have hb1 : (E != 0) = true := by rw [bne_iff_ne]; exact hE2
      clear hE hE2
      clear hv hv2
      go_enter Try.func27, Try.ntmps27
      go_wp2_with fail
      refine (C1.out _ (HV.out.grown (((grown_alloc _ _).trans' (grown_alloc _ _)).trans' (grown_alloc _ _)))).mono ?_
      rintro e w1 ⟨rfl, g1⟩
      have G1 : w.grownBy w1 none := (((grown_alloc _ _).trans' (grown_alloc _ _)).trans' (grown_alloc _ _)).trans' g1
      have hz1 : w.heap.size + 3 ≤ w1.heap.size := by simpa using g1.size
      have c1 := (((Blk.new w _ _).keep (grown_alloc _ _)).keep (grown_alloc _ _)).keep g1
      have x1 := ((Blk.newAt (w.alloc _) (w.heap.size + 1) _ _ (by simp)).keep (grown_alloc _ _)).keep g1
      have r1 := (Blk.newAt ((w.alloc _).alloc _) (w.heap.size + 1 + 1) _ _ (by simp)).keep g1
      clear g1
      obtain ⟨x10, x11, x12, x13, x14, x15⟩ := x1.at5
      go_wp2_with fail
      refine (C2.out _ (HV2.out.grown G1)).mono ?_
      rintro e w2 ⟨rfl, g2⟩
      clear x10 x11 x12 x13 x14 x15
      have hz2 := g2.size
      have GG := G1.trans' g2
      have c2 := c1.keep g2
      have x2 := x1.keep g2
      have r2 := r1.keep g2
      clear g2 c1 x1 r1
      obtain ⟨r10, r11, r12, r13, r14, r15⟩ := r2.at5
      go_wp2
      refine bodyPost_ret (v := .tuple #[.agg #[.int .i64 0, .int .i64 0, .int .u64 0, .slice none 0 0, .bool false], .int .i64 E]) ?_ rfl ⟨_, rfl, ints_nil _ _, fresh_nil _ _ _, ?_⟩
      · simp [results, Try.results27, go_sem, r10, r11, r12, r13, r14]
      · repeat (with_reducible refine grown_set ?_ _ (by omega))
        exact GG
  · have hM : mrE d s z l d2 s2 z2 l2 = cmE d s l := by unfold mrE; rw [if_pos hE]
    have e1 : ∀ x, mrI d s z l d2 s2 z2 l2 x = 0 := fun x => by unfold mrI; rw [if_neg (by rw [hM]; exact hE)]
    rw [e1, e1, e1, hM, show mrV d s z l b d2 s2 z2 l2 b2 = ([], false) from by unfold mrV; rw [if_neg (by rw [hM]; exact hE)]]
    clear e1 hM
    have C1 := Lib.hid (fun w (h : Ints .i64 w v l) => cmvalidr_any d s z v l b w h)
    have C2 := Lib.hid (fun w (h : Ints .i64 w v2 l2) => cmvalidr_any d2 s2 z2 v2 l2 b2 w h)
    have HV := Lib.hid hv
    have HV2 := Lib.hid hv2
    obtain ⟨a, cap, rfl, -, -, -, -⟩ := id hv
    obtain ⟨a2, cap2, rfl, -, -, -, -⟩ := id hv2
    clear C2
    generalize cmE d s l = E at *
    have hb1 : (E != 0) = true := by rw [bne_iff_ne]; exact hE
    clear hE
    clear hv hv2
    go_enter Try.func27, Try.ntmps27
    go_wp2_with fail
    refine (C1.out _ (HV.out.grown (((grown_alloc _ _).trans' (grown_alloc _ _)).trans' (grown_alloc _ _)))).mono ?_
    rintro e w1 ⟨rfl, g1⟩
    have G1 : w.grownBy w1 none := (((grown_alloc _ _).trans' (grown_alloc _ _)).trans' (grown_alloc _ _)).trans' g1
    have hz1 : w.heap.size + 3 ≤ w1.heap.size := by simpa using g1.size
    have c1 := (((Blk.new w _ _).keep (grown_alloc _ _)).keep (grown_alloc _ _)).keep g1
    have x1 := ((Blk.newAt (w.alloc _) (w.heap.size + 1) _ _ (by simp)).keep (grown_alloc _ _)).keep g1
    have r1 := (Blk.newAt ((w.alloc _).alloc _) (w.heap.size + 1 + 1) _ _ (by simp)).keep g1
    clear g1
    have GG := G1
    obtain ⟨r10, r11, r12, r13, r14, r15⟩ := r1.at5
    go_wp2
    refine bodyPost_ret (v := .tuple #[.agg #[.int .i64 0, .int .i64 0, .int .u64 0, .slice none 0 0, .bool false], .int .i64 E]) ?_ rfl ⟨_, rfl, ints_nil _ _, fresh_nil _ _ _, ?_⟩
    · simp [results, Try.results27, go_sem, r10, r11, r12, r13, r14]
    · repeat (with_reducible refine grown_set ?_ _ (by omega))
      exact GG
end Go.Proofs.Ytigpbfmnbdbpcaa
