/- The walk of the reference's Decode of Count-Min sketches. Conditions: the bytes lie in memory. -/
import Derived.Test.YtigpbfmnbdbpcaaCmY
namespace Go.Proofs.Ytigpbfmnbdbpcaa
open Go.RowKit Go.ChangeShapes Go.WideShapes
set_option linter.unusedVariables false
set_option linter.unusedSimpArgs false
theorem prod_in {d s : Int} (d0 : 0 ≤ d) (d1 : d ≤ 8) (s0 : 0 ≤ s) (s1 : s ≤ 64) : 0 ≤ d * s ∧ d * s ≤ 512 := by
  refine ⟨Int.mul_nonneg d0 s0, ?_⟩
  have := Int.mul_le_mul d1 s1 s0 (by decide : (0 : Int) ≤ 8)
  omega
set_option maxRecDepth 100000 in
set_option maxHeartbeats 1600000 in
theorem cmdecr_any (v : Value) (l : List Int) (w : World) (hv : Ints .u8 w v l) :
    Calls Try.prog 31 #[v] w fun e w' => ∃ u, e = .returned (.tuple #[.agg #[.int .i64 (cmD l).1, .int .i64 (cmD l).2.1, .int .u64 (cmD l).2.2.1, u, .bool (cmD l).2.2.2.2.1], .int .i64 (cmD l).2.2.2.2.2]) ∧ Ints .i64 w' u (cmD l).2.2.2.1 ∧ Fresh w.heap.size u ∧ w.grownBy w' none := by
  have HV := Lib.hid hv
  have n1 := rdN_in hv.wfs (most := 8) (by decide) (k := 0) (bad := false) (Nat.zero_le _)
  have n2 := rdN_in hv.wfs (most := 64) (by decide) (k := (cmQ1 l).2.1) (bad := (cmQ1 l).2.2) n1.1
  have n3 := rdW_in (l := l) (k := (cmQ2 l).2.1) (bad := (cmQ2 l).2.2) n2.1
  have ni := fun i => itN_in hv.wfs (most := 4294967295) (by decide) (cmQw l).2.1 (cmQw l).2.2 n3 i
  have hpr : 0 ≤ (cmQ1 l).1 * (cmQ2 l).1 ∧ (cmQ1 l).1 * (cmQ2 l).1 ≤ 512 := prod_in n1.2.1 n1.2.2 n2.2.1 n2.2.2
  obtain ⟨a, cap, rfl, -, -, -, -⟩ := id hv
  have c1 : ∀ (R : Nat) (w1 : World), w.grownBy w1 none → RdrAt R (.slice a l.length cap) 0 false w1 → Calls Try.prog 58 #[.pointer (some ⟨R, 0, none⟩), .int .i64 8] w1 fun e w' => e = .returned (.int .i64 (cmQ1 l).1) ∧ RdrAt R (.slice a l.length cap) (cmQ1 l).2.1 (cmQ1 l).2.2 w' ∧ w1.grownBy w' (some R) := fun R w1 g p => rnum_any R _ l 0 false 8 w1 (hv.grown g) (Nat.zero_le _) p
  have c2 : ∀ (R : Nat) (w1 : World), w.grownBy w1 none → RdrAt R (.slice a l.length cap) (cmQ1 l).2.1 (cmQ1 l).2.2 w1 → Calls Try.prog 58 #[.pointer (some ⟨R, 0, none⟩), .int .i64 64] w1 fun e w' => e = .returned (.int .i64 (cmQ2 l).1) ∧ RdrAt R (.slice a l.length cap) (cmQ2 l).2.1 (cmQ2 l).2.2 w' ∧ w1.grownBy w' (some R) := fun R w1 g p => rnum_any R _ l _ _ 64 w1 (hv.grown g) n1.1 p
  have c3 : ∀ (R : Nat) (w1 : World), w.grownBy w1 none → RdrAt R (.slice a l.length cap) (cmQ2 l).2.1 (cmQ2 l).2.2 w1 → Calls Try.prog 59 #[.pointer (some ⟨R, 0, none⟩)] w1 fun e w' => e = .returned (.int .u64 (cmQw l).1) ∧ RdrAt R (.slice a l.length cap) (cmQw l).2.1 (cmQw l).2.2 w' ∧ w1.grownBy w' (some R) := fun R w1 g p => rword_any R _ l _ _ w1 (hv.grown g) n2.1 p
  have ci : ∀ (i R : Nat) (w1 : World), w.grownBy w1 none → RdrAt R (.slice a l.length cap) (cmQi l i).2.1 (cmQi l i).2.2 w1 → Calls Try.prog 58 #[.pointer (some ⟨R, 0, none⟩), .int .i64 4294967295] w1 fun e w' => ∃ x, e = .returned (.int .i64 x) ∧ (cmQi l (i + 1)).1 = (cmQi l i).1 ++ [x] ∧ RdrAt R (.slice a l.length cap) (cmQi l (i + 1)).2.1 (cmQi l (i + 1)).2.2 w' ∧ w1.grownBy w' (some R) := fun i R w1 g p => (rnum_any R _ l _ _ 4294967295 w1 (hv.grown g) (ni i).1 p).mono fun e w' hq => ⟨_, hq.1, rfl, hq.2⟩
  have cf : ∀ (i R : Nat) (w1 : World), w.grownBy w1 none → RdrAt R (.slice a l.length cap) (cmQi l i).2.1 (cmQi l i).2.2 w1 → Calls Try.prog 58 #[.pointer (some ⟨R, 0, none⟩), .int .i64 1] w1 fun e w' => e = .returned (.int .i64 (cmQf l i).1) ∧ RdrAt R (.slice a l.length cap) (cmQf l i).2.1 (cmQf l i).2.2 w' ∧ w1.grownBy w' (some R) := fun i R w1 g p => rnum_any R _ l _ _ 1 w1 (hv.grown g) (ni i).1 p
  have hlaw := fun i hi hi2 => cm_law hv.wfs i hi hi2
  have hi0 : cmQi l 0 = ([], (cmQw l).2) := rfl
  have hln : ∀ i, (cmQi l i).1.length = i := fun i => itN_len _ _ _ _ i
  have hin : ∀ i, ∀ x ∈ (cmQi l i).1, 0 ≤ x ∧ x ≤ 4294967295 := fun i => (ni i).2
  generalize cmQi l = Q at *
  generalize cmQf l = F at *
  generalize cmQ1 l = p1 at *
  obtain ⟨d, k1, b1⟩ := p1
  generalize cmQ2 l = p2 at *
  obtain ⟨s, k2, b2⟩ := p2
  generalize cmQw l = p3 at *
  obtain ⟨z, k3, b3⟩ := p3
  simp only at c1 c2 c3 cf hlaw hi0 hpr
  obtain ⟨N, hN⟩ : ∃ n : Nat, d * s = n := ⟨(d * s).toNat, by omega⟩
  rw [hN, Int.toNat_natCast] at hlaw
  have h512 : N ≤ 512 := by omega
  have C1 := Lib.hid c1
  have C2 := Lib.hid c2
  have C3 := Lib.hid c3
  have CI := Lib.hid ci
  have CF := Lib.hid cf
  have HL := Lib.hid hlaw
  have HI0 := Lib.hid hi0
  have HLN := Lib.hid hln
  have HIN := Lib.hid hin
  clear c1 c2 c3 ci cf n1 n2 n3 ni hv hlaw hi0 hln hin hpr
  go_enter Try.func31, Try.ntmps31
  go_wp2_with fail
  have G0 := (grown_alloc w (.cells #[.int .i64 0, .int .i64 0, .int .u64 0, .slice none 0 0, .bool false] 26)).trans' (grown_alloc _ (.cells #[.slice a l.length cap, .int .i64 0, .bool false] 84))
  refine (C1.out (w.heap.size + 1) _ G0 ⟨by simp, by simp [go_sem], by simp [go_sem], by simp [go_sem], fun o => by simp [go_sem]⟩).mono ?_
  rintro e w1 ⟨rfl, R1, g1⟩
  have G1 := grown_rdr G0 g1 (by omega)
  have y1 : Blk w.heap.size #[.int .i64 0, .int .i64 0, .int .u64 0, .slice none 0 0, .bool false] 26 w1 := ((Blk.new _ _ _).keep (grown_alloc _ _)).rdr g1 (by omega)
  clear g1 C1 G0
  go_wp2_with fail
  refine (C2.out (w.heap.size + 1) _ G1 R1).mono ?_
  rintro e w2 ⟨rfl, R2, g2⟩
  have G2 := grown_rdr G1 g2 (by omega)
  have y2 := y1.rdr g2 (by omega)
  clear g2 C2 G1 R1 y1
  go_wp2_with fail
  refine (C3.out (w.heap.size + 1) _ G2 R2).mono ?_
  rintro e w3 ⟨rfl, R3, g3⟩
  have G3 := grown_rdr G2 g3 (by omega)
  have y3 := y2.rdr g3 (by omega)
  have hz3 := R3.1
  have hne : w.heap.size ≠ w3.heap.size := by omega
  clear g3 C3 G2 R2 y2
  go_wp2_with fail
  go_loopw [6] (fun iv wr => ∃ (i : Nat) (v : Value), iv = .int .i64 i ∧ i ≤ N ∧ RdrAt (w.heap.size + 1) (.slice a l.length cap) (Q i).2.1 (Q i).2.2 wr ∧ wr.ownsRow (w3.heap.size + 1) 3 1 v i ((Q i).1.map (.int .i64)) ∧ Blk w3.heap.size #[.int .i64 d, .int .i64 s, .int .u64 z, v, .bool false] 26 wr ∧ Blk w.heap.size #[.int .i64 0, .int .i64 0, .int .u64 0, .slice none 0 0, .bool false] 26 wr ∧ w.grownBy wr none) (fun iv _ => N - (intOf iv).toNat)
  case atStart =>
    refine ⟨0, _, rfl, by omega, ?_, ?_, Blk.new _ _ _, y3.keep (grown_alloc _ _), G3.trans' (grown_alloc _ _)⟩
    · rw [HI0.out]; exact R3.keep (grown_alloc _ _)
    · rw [HI0.out]; exact World.ownsRow_nil _ _ _ _
  case round =>
    clear R3 y3 G3 HI0
    obtain ⟨i, v, rfl, hi, hR, ho, d5, y5, G5⟩ := hrel
    obtain ⟨a5, k5, rfl, hka, hkb⟩ := own_shape ho
    obtain ⟨d50, d51, d52, d53, d54, d55⟩ := d5.at5
    obtain ⟨s0, s1, s2, s3, s4⟩ := id hR
    have hd1 := d5.lt
    by_cases hcont : i < N ∧ (Q i).2.2 = false
    · obtain ⟨hlt, hbf⟩ := hcont
      have e1 : (i : Int) < N := by omega
      have e2 : (0 : Int) ≤ i := by omega
      have cc := CI.out i (w.heap.size + 1)
      obtain ⟨q1, hq1⟩ : ∃ q, q = Q (i + 1) := ⟨_, rfl⟩
      rw [← hq1] at cc
      obtain ⟨cl1, kk1, bb1⟩ := q1
      obtain ⟨q0, hq0⟩ : ∃ q, q = Q i := ⟨_, rfl⟩
      rw [← hq0] at cc hR ho s2 s3 hbf
      obtain ⟨cl0, kk0, bb0⟩ := q0
      simp only at cc hR ho s2 s3 hbf
      subst hbf
      have HQ1 := Lib.hid hq1
      have CC := Lib.hid cc
      have hlk := ho.lt
      have hR1 := hR.1
      clear hq0 hq1 cc
      go_wp2_with fail
      clear d50 d51 d52 d54 d55 s1 s2 s3
      refine wp_region_sqL 7 [0, 1, 2, 3, 4, 5, 6, 7] [0, 0, 0, 1, 1, 1, 0, 3] (fun w' => w'.cell? ⟨w3.heap.size, 3, none⟩ = some (.slice a5 i k5)) (by kernel_rfl) (by kernel_rfl) (by kernel_rfl) (by kernel_rfl) d53 ?_
      simp only [pick, List.map_cons, List.map_nil, List.getD_cons_zero, List.getD_cons_succ]
      repeat (first
          | (((first | refine sqL_skip (by rfl) ?_)); (try simp only [Act.put, List.setIfInBounds_toArray, List.set_cons_zero, List.set_cons_succ]))
          | (((first | refine sqL_take ?_ (by rfl) ?_ ?_ | refine sqL_pure ?_ (by rfl) ?_ ?_)); rotate_left; (focus (intro w' hS; go_simp; first | done | with_reducible rfl)); (try simp only [Act.put, List.setIfInBounds_toArray, List.set_cons_zero, List.set_cons_succ])))
      refine sqL_run (by rfl) ?_
      intro K hK
      go_simp
      refine (CC.out _ (G5.trans' (grown_drew1 _)) (hR.keep (grown_drew1 _))).mono ?_
      rintro e w6 ⟨x, rfl, hx, R6, g6⟩
      have HX := Lib.hid hx
      have d6 := (d5.keep (grown_drew1 _)).rdr g6 (by omega)
      clear hx
      refine hK _ _ d6.at5.2.2.2.1 ?_
      clear hK K
      try simp only [Act.put, List.setIfInBounds_toArray, List.set_cons_zero, List.set_cons_succ]
      refine sqL_run (by rfl) ?_
      intro K hK
      go_simp
      refine hK _ _ (d6.keep (grown_alloc _ _)).at5.2.2.2.1 ?_
      clear hK K
      try simp only [Act.put, List.setIfInBounds_toArray, List.set_cons_zero, List.set_cons_succ]
      refine sqL_run (by rfl) ?_
      intro K hK
      have ho6 := own_keep (own_rdr (own_keep ho (grown_drew1 _)) g6 (by omega)) (grown_alloc w6 (.cells #[.int .i64 x] 3))
      have hz6 := g6.size
      have hz6' : wr.heap.size ≤ w6.heap.size := by simpa using hz6
      refine wp_appS _ _ _ 24 24 (by rfl) (w3.heap.size + 1) 3 (.int .i64 0) 1 8 Try.underlying24 Try.infoInt rfl (by decide) _ _ _ 1 _ [.int .i64 x] ho6 (by rfl) (by rfl) (own_src (own_lit1 w6 3 (.int .i64 x)) (by simp [Value.oneCell']) Try.underlying24) (by unfold maxLen; omega) (by omega) (by simp; omega) ?_
      intro v7 w7 ho7 g7 _
      obtain ⟨a7, k7, rfl, hka7, hkb7⟩ := own_shape ho7
      have hge : ∀ g, (Value.slice a5 i k5).ownBlock = some g → w3.heap.size + 1 ≤ g := fun g hg => (ho.lt g hg).1
      have d7 := (d6.keep (grown_alloc _ _)).own g7 (fun e => by have := hge _ e; omega)
      have R7 := (R6.keep (grown_alloc _ _)).own g7 (fun e => by have := hge _ e; omega)
      have y7 := (((y5.keep (grown_drew1 _)).rdr g6 (by omega)).keep (grown_alloc _ _)).own g7 (fun e => by have := hge _ e; omega)
      have G6 := grown_rdr (G5.trans' (grown_drew1 _)) g6 (by omega)
      have G7 := grown_trans (G6.trans' (grown_alloc _ _)) g7 (fun g hg => by have := hge g hg; omega)
      refine hK _ _ d7.at5.2.2.2.1 ?_
      clear hK K
      try simp only [Act.put, List.setIfInBounds_toArray, List.set_cons_zero, List.set_cons_succ]
      repeat (first
          | (((first | refine sqL_skip (by rfl) ?_)); (try simp only [Act.put, List.setIfInBounds_toArray, List.set_cons_zero, List.set_cons_succ]))
          | (((first | refine sqL_take ?_ (by rfl) ?_ ?_ | refine sqL_pure ?_ (by rfl) ?_ ?_)); rotate_left; (focus (intro w' hS; go_simp; first | done | with_reducible rfl)); (try simp only [Act.put, List.setIfInBounds_toArray, List.set_cons_zero, List.set_cons_succ])))
      obtain ⟨d70, d71, d72, d73, d74, d75⟩ := d7.at5
      refine sqL_last (by rfl) ?_
      intro K hK
      go_simp
      refine hK _ _ ?_
      clear hK K
      try simp only [Act.put, List.setIfInBounds_toArray, List.set_cons_zero, List.set_cons_succ]
      clear d70 d71 d72 d73 d74 d75
      go_wp2
      go_roundw
      case rel =>
        refine ⟨i + 1, .slice a7 (i + 1) k7, by go_num, by omega, ?_, ?_, d7.set 3 _, y7.set_ne _ _ (by omega), grown_set G7 _ (by omega)⟩
        · rw [← HQ1.out]; exact R7.set_ne _ _ _ (by omega)
        · rw [← HQ1.out]
          simp only
          rw [HX.out]
          exact ownsRow_setCell_below (by simpa using ho7) (by show w3.heap.size < _; omega) _
      case measure => simp [intOf]; omega
    · have hlaw := HL.out i (fun hb => by
        rcases Nat.lt_or_ge i N with h | h
        · exact absurd ⟨h, hb⟩ hcont
        · omega) hi
      have hin := HIN.out i
      have hln := HLN.out i
      have hcf := CF.out i (w.heap.size + 1)
      have hex : ((i : Int) < N ∧ (Q i).2.2 = true) ∨ ¬ ((i : Int) < N) := by
        by_cases h : i < N
        · refine .inl ⟨by omega, ?_⟩
          cases hb : (Q i).2.2
          · exact absurd ⟨h, hb⟩ hcont
          · rfl
        · exact .inr (by omega)
      generalize Q i = q0 at *
      obtain ⟨cl, kk0, bb0⟩ := q0
      generalize F i = q1 at *
      obtain ⟨f, kf, bf⟩ := q1
      simp only at hlaw hin hln hcf hex hR ho s2 s3
      unfold cmRf at hlaw
      obtain ⟨fb, hfb⟩ : ∃ fb, (f == 1) = fb := ⟨_, rfl⟩
      rw [hfb] at hlaw
      have MK := Lib.hid (fun (w' : World) (h : w'.ownsRow (w3.heap.size + 1) 3 1 (.slice a5 i k5) i (cl.map (.int .i64))) => (ints_of_own (k := .i64) (l := cl) (by rw [hln]; exact h) (fun x hx => wf_i64M (by have := hin x hx; omega)) : Ints .i64 w' (.slice a5 i k5) cl))
      have hfr : Fresh (w3.heap.size + 1) (.slice a5 i k5) := by
        intro g nn cc e
        exact (ho.lt g.block (by rw [e]; rfl)).1
      have HLW := Lib.hid hlaw
      have CC := Lib.hid hcf
      have hR1 := hR.1
      clear hlaw hin hln hcf hcont HL HIN HLN CF CI
      rcases hex with ⟨hx1, rfl⟩ | hx1
      all_goals
        go_wp2_with fail
        refine (CC.out _ G5 hR).mono ?_
        rintro e w6 ⟨rfl, R6, g6⟩
        have G6 := grown_rdr G5 g6 (by omega)
        have d6 := d5.rdr g6 (by omega)
        have y6 := y5.rdr g6 (by omega)
        have o6 := own_rdr ho g6 (show w.heap.size + 1 < w3.heap.size + 1 by omega)
        have hz6 := g6.size
        have d7 : Blk w3.heap.size #[.int .i64 d, .int .i64 s, .int .u64 z, .slice a5 i k5, .bool fb] 26 _ := d6.set 4 (.bool fb)
        have R7 := R6.set_ne w3.heap.size 4 (.bool fb) (by omega)
        have y7 := y6.set_ne (b' := w3.heap.size) 4 (.bool fb) (by omega)
        have G7 := grown_set (b := w3.heap.size) (o := 4) G6 (.bool fb) (by omega)
        have I7 := MK.out _ (ownsRow_setCell_below (a := ⟨w3.heap.size, 4, none⟩) o6 (by show w3.heap.size < _; omega) (.bool fb))
        obtain ⟨d60, d61, d62, d63, d64, d65⟩ := d6.at5
        clear g6 R6 G6 y6 d5 hR G5 y5 s1 s2 s3 o6 ho d50 d51 d52 d53 d54 d55
        go_wp2_with fail
        refine (rdone_any _ _ _ _ _ _ _ R7).mono ?_
        rintro e w8 ⟨rfl, g8⟩
        have d8 := d7.keep g8
        have y8 := y7.keep g8
        have GG := G7.trans' g8
        have I8 := I7.grown g8
        have hz8 := d8.lt
        clear g8 R7 d7 y7 G7 I7 d60 d61 d62 d63 d64 d65 d6
        obtain ⟨d80, d81, d82, d83, d84, d85⟩ := d8.at5
        obtain ⟨yy0, yy1, yy2, yy3, yy4, yy5⟩ := y8.at5
        by_cases hd : bf = false ∧ kf = l.length
        · have hd' : (!bf && decide (kf = l.length)) = true := by simp [hd]
          rw [hd']
          by_cases hv : cmE d s cl = 0
          · have HF : Hid (cmD l = (d, s, z, cl, fb, 0)) := by
              show _ = _
              rw [← HLW.out, if_neg (by simp [hd, hv])]
            have C4 := Lib.hid (fun w1 h => cmvalidr_any d s z (.slice a5 i k5) cl fb w1 h)
            rw [hv] at C4
            clear hd hd' hv
            go_wp2_with fail
            refine (C4.out _ I8).mono ?_
            rintro e w9 ⟨rfl, g9⟩
            have I9 := I8.grown g9
            have y9 := y8.keep g9
            have d9 := d8.keep g9
            have G9 := GG.trans' g9
            clear d80 d81 d82 d83 d84 d85 yy0 yy1 yy2 yy3 yy4 yy5
            obtain ⟨d80, d81, d82, d83, d84, d85⟩ := d9.at5
            obtain ⟨yy0, yy1, yy2, yy3, yy4, yy5⟩ := y9.at5
            go_wp2
            refine bodyPost_ret (v := .tuple #[.agg #[.int .i64 d, .int .i64 s, .int .u64 z, .slice a5 i k5, .bool fb], .int .i64 0]) ?_ rfl ⟨_, by rw [HF.out], ?_, hfr.mono (by omega), ?_⟩
            · simp [results, Try.results31, go_sem, yy0, yy1, yy2, yy3, yy4]
            · rw [HF.out]
              repeat (with_reducible refine Ints.setF ?_ hfr _ (by omega))
              exact I9
            · repeat (with_reducible refine grown_set ?_ _ (by omega))
              exact G9
          · have HF : Hid (cmD l = (0, 0, 0, [], false, 2)) := by
              show _ = _
              rw [← HLW.out, if_pos (.inr (.inr hv))]
            have C4 := Lib.hid (fun w1 h => cmvalidr_any d s z (.slice a5 i k5) cl fb w1 h)
            generalize cmE d s cl = E at *
            have hb1 : (E != 0) = true := by rw [bne_iff_ne]; exact hv
            clear hd hd' hv
            go_wp2_with fail
            refine (C4.out _ I8).mono ?_
            rintro e w9 ⟨rfl, g9⟩
            have y9 := y8.keep g9
            have G9 := GG.trans' g9
            clear d80 d81 d82 d83 d84 d85 yy0 yy1 yy2 yy3 yy4 yy5
            obtain ⟨yy0, yy1, yy2, yy3, yy4, yy5⟩ := y9.at5
            go_wp2
            refine bodyPost_ret (v := .tuple #[.agg #[.int .i64 0, .int .i64 0, .int .u64 0, .slice none 0 0, .bool false], .int .i64 2]) ?_ rfl ⟨_, by rw [HF.out], ?_, fresh_nil _ _ _, ?_⟩
            · simp [results, Try.results31, go_sem, yy0, yy1, yy2, yy3, yy4]
            · rw [HF.out]; exact ints_nil _ _
            · repeat (with_reducible refine grown_set ?_ _ (by omega))
              exact G9
        · have hd' : (!bf && decide (kf = l.length)) = false := by
            cases bf
            · simp at hd; simp [hd]
            · simp
          rw [hd']
          have HF : Hid (cmD l = (0, 0, 0, [], false, 2)) := by
            show _ = _
            rw [← HLW.out]
            rw [if_pos]
            cases bf
            · simp at hd; exact .inr (.inl hd)
            · exact .inl rfl
          clear hd hd'
          go_wp2
          refine bodyPost_ret (v := .tuple #[.agg #[.int .i64 0, .int .i64 0, .int .u64 0, .slice none 0 0, .bool false], .int .i64 2]) ?_ rfl ⟨_, by rw [HF.out], ?_, fresh_nil _ _ _, ?_⟩
          · simp [results, Try.results31, go_sem, yy0, yy1, yy2, yy3, yy4]
          · rw [HF.out]; exact ints_nil _ _
          · repeat (with_reducible refine grown_set ?_ _ (by omega))
            exact GG
end Go.Proofs.Ytigpbfmnbdbpcaa
