/- The walk of Decode of Count-Min sketches. Conditions: the bytes lie in memory. -/
import Derived.Test.YtigpbfmnbdbpcaaCmX
import Derived.Test.YtigpbfmnbdbpcaaRdx
namespace Go.Proofs.Ytigpbfmnbdbpcaa
open Go.RowKit Go.ChangeShapes Go.WideShapes
set_option linter.unusedVariables false
set_option linter.unusedSimpArgs false
theorem itN_in {l : List Int} (hw : ∀ n ∈ l, (Lit.int .u8 n).wf = true) {most : Int} (hm : 0 ≤ most) (k0 : Nat) (b0 : Bool) (hk : k0 ≤ l.length) (i : Nat) : (itN l most k0 b0 i).2.1 ≤ l.length ∧ ∀ x ∈ (itN l most k0 b0 i).1, 0 ≤ x ∧ x ≤ most := by
  induction i with
  | zero => exact ⟨hk, by simp [itN]⟩
  | succ i ih =>
    rw [itN_succ]
    have := rdN_in hw hm ih.1 (bad := (itN l most k0 b0 i).2.2)
    refine ⟨this.1, fun x hx => ?_⟩
    rcases List.mem_append.1 hx with hx | hx
    · exact ih.2 x hx
    · rw [List.mem_singleton.1 hx]; exact this.2
theorem wf_i64M {x : Int} (h : 0 ≤ x ∧ x ≤ 4611686018427387904) : (Lit.int .i64 x).wf = true := by
  simp [Lit.wf, IntKind.min, IntKind.max, IntKind.signed, IntKind.bits]; omega
set_option maxRecDepth 100000 in
set_option maxHeartbeats 1600000 in
theorem cmdec_any (v : Value) (l : List Int) (w : World) (hv : Ints .u8 w v l) :
    Calls Try.prog 30 #[v] w fun e w' => ∃ u, e = .returned (.tuple #[.agg #[.int .i64 (cmD l).1, .int .i64 (cmD l).2.1, .int .u64 (cmD l).2.2.1, u, .bool (cmD l).2.2.2.2.1], .int .i64 (cmD l).2.2.2.2.2]) ∧ Ints .i64 w' u (cmD l).2.2.2.1 ∧ Fresh w.heap.size u ∧ w.grownBy w' none := by
  have HW := Lib.hid hv.wfs
  have HV := Lib.hid hv
  have hM : (0 : Int) ≤ 4611686018427387904 := by decide
  have n1 := rdN_in hv.wfs hM (k := 0) (bad := false) (Nat.zero_le _)
  have n2 := rdN_in hv.wfs hM (k := (cmP1 l).2.1) (bad := (cmP1 l).2.2) n1.1
  have n3 := rdW_in (l := l) (k := (cmP2 l).2.1) (bad := (cmP2 l).2.2) n2.1
  have ni := fun i => itN_in hv.wfs hM (cmPw l).2.1 (cmPw l).2.2 n3 i
  have c1 : ∀ (R : Nat) (u : Value) (w1 : World), Ints .u8 w u l → w.grownBy w1 none → PdrAt R u false w1 → Calls Try.prog 56 #[.pointer (some ⟨R, 0, none⟩)] w1 fun e w' => e = .returned (.int .i64 (cmP1 l).1) ∧ (∃ u', PdrAt R u' (cmP1 l).2.2 w' ∧ Ints .u8 w u' (l.drop (cmP1 l).2.1)) ∧ w1.grownBy w' (some R) := fun R u w1 h g p => pnum_any R u l 0 false w w1 h g p
  have c2 : ∀ (R : Nat) (u : Value) (w1 : World), Ints .u8 w u (l.drop (cmP1 l).2.1) → w.grownBy w1 none → PdrAt R u (cmP1 l).2.2 w1 → Calls Try.prog 56 #[.pointer (some ⟨R, 0, none⟩)] w1 fun e w' => e = .returned (.int .i64 (cmP2 l).1) ∧ (∃ u', PdrAt R u' (cmP2 l).2.2 w' ∧ Ints .u8 w u' (l.drop (cmP2 l).2.1)) ∧ w1.grownBy w' (some R) := fun R u w1 h g p => pnum_any R u l _ _ w w1 h g p
  have c3 : ∀ (R : Nat) (u : Value) (w1 : World), Ints .u8 w u (l.drop (cmP2 l).2.1) → w.grownBy w1 none → PdrAt R u (cmP2 l).2.2 w1 → Calls Try.prog 57 #[.pointer (some ⟨R, 0, none⟩)] w1 fun e w' => e = .returned (.int .u64 (cmPw l).1) ∧ (∃ u', PdrAt R u' (cmPw l).2.2 w' ∧ Ints .u8 w u' (l.drop (cmPw l).2.1)) ∧ w1.grownBy w' (some R) := fun R u w1 h g p => pword_any R u l _ _ w w1 h g p
  have ci : ∀ (i R : Nat) (u : Value) (w1 : World), Ints .u8 w u (l.drop (cmPi l i).2.1) → w.grownBy w1 none → PdrAt R u (cmPi l i).2.2 w1 → Calls Try.prog 56 #[.pointer (some ⟨R, 0, none⟩)] w1 fun e w' => ∃ x, e = .returned (.int .i64 x) ∧ (cmPi l (i + 1)).1 = (cmPi l i).1 ++ [x] ∧ (∃ u', PdrAt R u' (cmPi l (i + 1)).2.2 w' ∧ Ints .u8 w u' (l.drop (cmPi l (i + 1)).2.1)) ∧ w1.grownBy w' (some R) := fun i R u w1 h g p => (pnum_any R u l _ _ w w1 h g p).mono fun e w' hq => ⟨_, hq.1, rfl, hq.2⟩
  have cf : ∀ (R : Nat) (u : Value) (w1 : World), Ints .u8 w u (l.drop (cmPi l (cmN l)).2.1) → w.grownBy w1 none → PdrAt R u (cmPi l (cmN l)).2.2 w1 → Calls Try.prog 56 #[.pointer (some ⟨R, 0, none⟩)] w1 fun e w' => e = .returned (.int .i64 (cmPf l).1) ∧ (∃ u', PdrAt R u' (cmPf l).2.2 w' ∧ Ints .u8 w u' (l.drop (cmPf l).2.1)) ∧ w1.grownBy w' (some R) := fun R u w1 h g p => pnum_any R u l _ _ w w1 h g p
  have hD : cmD l = cmPl l (cmP1 l).1 (cmP2 l).1 (cmPw l).1 (cmPi l (cmN l)).1 (cmPf l).1 (cmPf l).2.2 := rfl
  have hDw := fun h => cmD_w (l := l) h
  have hDs := fun h => cmD_siz (l := l) h
  have hN : cmN l = ((cmP1 l).1 * (cmP2 l).1).toNat := rfl
  have hi0 : cmPi l 0 = ([], (cmPw l).2) := rfl
  have hln : ∀ i, (cmPi l i).1.length = i := fun i => itN_len _ _ _ _ i
  have hin : ∀ i, ∀ x ∈ (cmPi l i).1, 0 ≤ x ∧ x ≤ 4611686018427387904 := fun i => (ni i).2
  generalize cmPi l = Q at *
  generalize cmPf l = pf at *
  obtain ⟨f, kf, bf⟩ := pf
  generalize cmP1 l = p1 at *
  obtain ⟨d, k1, b1⟩ := p1
  generalize cmP2 l = p2 at *
  obtain ⟨s, k2, b2⟩ := p2
  generalize cmPw l = p3 at *
  obtain ⟨z, k3, b3⟩ := p3
  generalize cmN l = N at *
  simp only at c1 c2 c3 cf hD hDw hDs hN hi0
  obtain ⟨a, cap, rfl, -, -, -, -⟩ := id hv
  have C1 := Lib.hid c1
  have C2 := Lib.hid c2
  have C3 := Lib.hid c3
  have CI := Lib.hid ci
  have CF := Lib.hid cf
  have HD := Lib.hid hD
  have HI0 := Lib.hid hi0
  have HLN := Lib.hid hln
  have HIN := Lib.hid hin
  have HDW := Lib.hid hDw
  have HDS := Lib.hid hDs
  clear c1 c2 c3 ci cf n1 n2 n3 ni hv hD hM hi0 hln hin hDw hDs
  go_enter Try.func30, Try.ntmps30
  go_wp2_with fail
  have G0 := (grown_alloc w (.cells #[.int .i64 0, .int .i64 0, .int .u64 0, .slice none 0 0, .bool false] 26)).trans' (grown_alloc _ (.cells #[.slice a l.length cap, .bool false] 79))
  refine (C1.out (w.heap.size + 1) _ _ HV.out G0 (Blk.newAt _ _ _ _ (by simp))).mono ?_
  rintro e w1 ⟨rfl, ⟨u1, R1, U1⟩, g1⟩
  have G1 := grown_rdr G0 g1 (by omega)
  have y1 : Blk w.heap.size #[.int .i64 0, .int .i64 0, .int .u64 0, .slice none 0 0, .bool false] 26 w1 := ((Blk.new _ _ _).keep (grown_alloc _ _)).rdr g1 (by omega)
  clear g1 C1 G0
  go_wp2_with fail
  refine (C2.out (w.heap.size + 1) _ _ U1 G1 R1).mono ?_
  rintro e w2 ⟨rfl, ⟨u2, R2, U2⟩, g2⟩
  have G2 := grown_rdr G1 g2 (by omega)
  have y2 := y1.rdr g2 (by omega)
  have hz2 := Blk.lt R2
  clear g2 C2 G1 R1 y1 U1
  go_wp2_with fail
  refine (C3.out (w.heap.size + 1) _ _ U2 (G2.trans' (grown_alloc _ _)) (R2.keep (grown_alloc _ _))).mono ?_
  rintro e w3 ⟨rfl, ⟨u3, R3, U3⟩, g3⟩
  have G3 := grown_rdr (G2.trans' (grown_alloc _ _)) g3 (by omega)
  have y3 := (y2.keep (grown_alloc _ _)).rdr g3 (by omega)
  have d3 := (Blk.new w2 #[.int .i64 d, .int .i64 s, .int .u64 0, .slice none 0 0, .bool false] 26).rdr g3 (by omega)
  have hz3 := g3.size
  simp only [World.size_alloc] at hz3
  clear g3 C3 G2 R2 y2 U2
  obtain ⟨d30, d31, d32, d33, d34, d35⟩ := d3.at5
  obtain ⟨r30, r31, r32⟩ := Blk.at2 R3
  have hne : w.heap.size ≠ w2.heap.size := by omega
  have hzw := Nat.lt_of_lt_of_le y3.lt (Nat.le_refl _)
  cases b3
  · by_cases hs : sizB d s
    · have hm := mul_in hs
      have hs' : 1 ≤ d ∧ d ≤ 8 ∧ 1 ≤ s ∧ s ≤ 64 := hs
      have CS := Lib.hid (fun w => sized_any d s w)
      rw [decide_eq_true hs'] at CS
      obtain ⟨NN, hNN⟩ : ∃ n : Nat, d * s = n := ⟨(d * s).toNat, by omega⟩
      obtain rfl : N = NN := by rw [hN, hNN]; simp
      have h512 : N ≤ 512 := by omega
      have HSZ := Lib.hid hs
      clear hm hs hs' hN
      go_wp2_with fail
      refine (CS.out _).mono ?_
      rintro e w4 ⟨rfl, rfl⟩
      have d4 : Blk w2.heap.size #[.int .i64 d, .int .i64 s, .int .u64 z, .slice none 0 0, .bool false] 26 _ := d3.set 2 (.int .u64 z)
      have R4 : PdrAt (w.heap.size + 1) u3 false _ := Blk.set_ne (b' := w2.heap.size) R3 2 (.int .u64 z) (by omega)
      have y4 := y3.set_ne (b' := w2.heap.size) 2 (.int .u64 z) (by omega)
      have G4 := grown_set (b := w2.heap.size) (o := 2) G3 (.int .u64 z) (by omega)
      go_wp2_with fail
      go_loopw [37] (fun iv wr => ∃ (i : Nat) (v u : Value), iv = .int .i64 i ∧ i ≤ N ∧ PdrAt (w.heap.size + 1) u (Q i).2.2 wr ∧ Ints .u8 w u (l.drop (Q i).2.1) ∧ wr.ownsRow (w2.heap.size + 1) 3 1 v i ((Q i).1.map (.int .i64)) ∧ Blk w2.heap.size #[.int .i64 d, .int .i64 s, .int .u64 z, v, .bool false] 26 wr ∧ Blk w.heap.size #[.int .i64 0, .int .i64 0, .int .u64 0, .slice none 0 0, .bool false] 26 wr ∧ w.grownBy wr none) (fun iv _ => N - (intOf iv).toNat)
      case atStart =>
        refine ⟨0, _, u3, rfl, by omega, ?_, ?_, ?_, d4, y4, G4⟩
        · rw [HI0.out]; exact R4
        · rw [HI0.out]; exact U3
        · rw [HI0.out]; exact World.ownsRow_nil _ _ _ _
      case round =>
        clear d4 R4 y4 G4 d3 R3 y3 G3 d30 d31 d32 d33 d34 d35 r30 r31 r32
        obtain ⟨i, v, u, rfl, hi, hR, hU, ho, d5, y5, G5⟩ := hrel
        obtain ⟨a5, k5, rfl, hka, hkb⟩ := own_shape ho
        obtain ⟨s1, s2, s3⟩ := Blk.at2 hR
        by_cases hlt : i < N
        · have e1 : (i : Int) < N := by omega
          have e2 : (0 : Int) ≤ i := by omega
          have cc := CI.out i (w.heap.size + 1) u
          obtain ⟨q1, hq1⟩ : ∃ q, q = Q (i + 1) := ⟨_, rfl⟩
          rw [← hq1] at cc
          obtain ⟨cl1, kk1, bb1⟩ := q1
          obtain ⟨q0, hq0⟩ : ∃ q, q = Q i := ⟨_, rfl⟩
          rw [← hq0] at cc hR hU ho s2
          obtain ⟨cl0, kk0, bb0⟩ := q0
          simp only at cc hR hU ho s2
          have HQ1 := Lib.hid hq1
          clear hq0 hq1
          have CC := Lib.hid cc
          have hlk := ho.lt
          have hR1 := Blk.lt hR
          have hd1 := d5.lt
          obtain ⟨d50, d51, d52, d53, d54, d55⟩ := d5.at5
          clear cc
          go_wp2_with fail
          clear d50 d51 d52 d54 s1 s2 s3
          refine wp_region_sqL 7 [0, 1, 2, 3, 4, 5, 6, 7] [0, 0, 0, 1, 1, 1, 0, 3] (fun w' => w'.cell? ⟨w2.heap.size, 3, none⟩ = some (.slice a5 i k5)) (by kernel_rfl) (by kernel_rfl) (by kernel_rfl) (by kernel_rfl) d53 ?_
          simp only [pick, List.map_cons, List.map_nil, List.getD_cons_zero, List.getD_cons_succ]
          repeat (first
              | (((first | refine sqL_skip (by rfl) ?_)); (try simp only [Act.put, List.setIfInBounds_toArray, List.set_cons_zero, List.set_cons_succ]))
              | (((first | refine sqL_take ?_ (by rfl) ?_ ?_ | refine sqL_pure ?_ (by rfl) ?_ ?_)); rotate_left; (focus (intro w' hS; go_simp; first | done | with_reducible rfl)); (try simp only [Act.put, List.setIfInBounds_toArray, List.set_cons_zero, List.set_cons_succ])))
          refine sqL_run (by rfl) ?_
          intro K hK
          go_simp
          refine (CC.out _ hU (G5.trans' (grown_drew1 _)) (hR.keep (grown_drew1 _))).mono ?_
          rintro e w6 ⟨x, rfl, hx, ⟨u6, R6, U6⟩, g6⟩
          have HX := Lib.hid hx
          have d6 := (d5.keep (grown_drew1 _)).rdr g6 (by omega)
          clear hx
          refine hK _ _ d6.at5.2.2.2.1 ?_
          clear hK K
          try simp only [Act.put, List.setIfInBounds_toArray, List.set_cons_zero, List.set_cons_succ]
          refine sqL_run (by rfl) ?_
          intro K hK
          go_simp
          refine hK _ _ (d6.keep (grown_alloc _ _)).at5.2.2.2.1 ?_
          clear hK K
          try simp only [Act.put, List.setIfInBounds_toArray, List.set_cons_zero, List.set_cons_succ]
          refine sqL_run (by rfl) ?_
          intro K hK
          have ho6 := own_keep (own_rdr (own_keep ho (grown_drew1 _)) g6 (by omega)) (grown_alloc w6 (.cells #[.int .i64 x] 3))
          have hz6 := g6.size
          have hz6' : wr.heap.size ≤ w6.heap.size := by simpa using hz6
          refine wp_appS _ _ _ 24 24 (by rfl) (w2.heap.size + 1) 3 (.int .i64 0) 1 8 Try.underlying24 Try.infoInt rfl (by decide) _ _ _ 1 _ [.int .i64 x] ho6 (by rfl) (by rfl) (own_src (own_lit1 w6 3 (.int .i64 x)) (by simp [Value.oneCell']) Try.underlying24) (by unfold maxLen; omega) (by omega) (by simp; omega) ?_
          intro v7 w7 ho7 g7 _
          obtain ⟨a7, k7, rfl, hka7, hkb7⟩ := own_shape ho7
          have hge : ∀ g, (Value.slice a5 i k5).ownBlock = some g → w2.heap.size + 1 ≤ g := fun g hg => (ho.lt g hg).1
          have d7 := (d6.keep (grown_alloc _ _)).own g7 (fun e => by have := hge _ e; omega)
          have R7 : PdrAt (w.heap.size + 1) u6 bb1 w7 := Blk.own (R6.keep (grown_alloc _ _)) g7 (fun e => by have := hge _ e; omega)
          have y7 := (((y5.keep (grown_drew1 _)).rdr g6 (by omega)).keep (grown_alloc _ _)).own g7 (fun e => by have := hge _ e; omega)
          have G6 := grown_rdr (G5.trans' (grown_drew1 _)) g6 (by omega)
          have G7 := grown_trans (G6.trans' (grown_alloc _ _)) g7 (fun g hg => by have := hge g hg; omega)
          refine hK _ _ d7.at5.2.2.2.1 ?_
          clear hK K
          try simp only [Act.put, List.setIfInBounds_toArray, List.set_cons_zero, List.set_cons_succ]
          repeat (first
              | (((first | refine sqL_skip (by rfl) ?_)); (try simp only [Act.put, List.setIfInBounds_toArray, List.set_cons_zero, List.set_cons_succ]))
              | (((first | refine sqL_take ?_ (by rfl) ?_ ?_ | refine sqL_pure ?_ (by rfl) ?_ ?_)); rotate_left; (focus (intro w' hS; go_simp; first | done | with_reducible rfl)); (try simp only [Act.put, List.setIfInBounds_toArray, List.set_cons_zero, List.set_cons_succ])))
          obtain ⟨d70, d71, d72, d73, d74, d75⟩ := d7.at5
          refine sqL_last (by rfl) ?_
          intro K hK
          go_simp
          refine hK _ _ ?_
          clear hK K
          try simp only [Act.put, List.setIfInBounds_toArray, List.set_cons_zero, List.set_cons_succ]
          clear d70 d71 d72 d73 d74 d75
          go_wp2
          go_roundw
          case rel =>
            refine ⟨i + 1, .slice a7 (i + 1) k7, u6, by go_num, by omega, ?_, ?_, ?_, d7.set 3 _, y7.set_ne _ _ (by omega), grown_set G7 _ (by omega)⟩
            · rw [← HQ1.out]; exact Blk.set_ne R7 3 _ (by omega)
            · rw [← HQ1.out]; exact U6
            · rw [← HQ1.out]
              simp only
              rw [HX.out]
              exact ownsRow_setCell_below (by simpa using ho7) (by show w2.heap.size < _; omega) _
          case measure => simp [intOf]; omega
        · obtain rfl : i = N := by omega
          have HL := Lib.hid (HLN.out i)
          have HC := Lib.hid (HIN.out i)
          generalize Q i = q0 at *
          obtain ⟨cl, kk0, bb0⟩ := q0
          have hCF := CF.out
          simp only at hCF hR hU ho s2
          have hDD : cmD l = cmPl l d s z cl f bf := HD.out
          have hll : cl.length = i := HL.out
          have hcc : ∀ x ∈ cl, 0 ≤ x ∧ x ≤ 4611686018427387904 := HC.out
          have hmk : ∀ w' : World, w'.ownsRow (w2.heap.size + 1) 3 1 (.slice a5 i k5) i (cl.map (.int .i64)) → Ints .i64 w' (.slice a5 i k5) cl := fun w' h => ints_of_own (k := .i64) (l := cl) (by rw [hll]; exact h) (fun x hx => wf_i64M (hcc x hx))
          have MK := Lib.hid hmk
          have hfr : Fresh (w2.heap.size + 1) (.slice a5 i k5) := by
            intro g nn cc e
            exact (ho.lt g.block (by rw [e]; rfl)).1
          obtain ⟨fb, hfb⟩ : ∃ fb, (f == 1) = fb := ⟨_, rfl⟩
          unfold cmPl at hDD
          rw [hfb] at hDD
          have CF2 := Lib.hid hCF
          have HDD := Lib.hid hDD
          clear hCF hDD hll hcc hmk CF HD HL HC HLN HIN CI HI0 HDW HDS
          go_wp2_with fail
          refine (CF2.out _ _ _ hU G5 hR).mono ?_
          rintro e w6 ⟨rfl, ⟨u6, R6, U6⟩, g6⟩
          have G6 := grown_rdr G5 g6 (by omega)
          have d6 := d5.rdr g6 (by omega)
          have y6 := y5.rdr g6 (by omega)
          have hz6 := g6.size
          have hR1 := Blk.lt hR
          have hd1 := d5.lt
          have o6 := own_rdr ho g6 (show w.heap.size + 1 < w2.heap.size + 1 by omega)
          have d7 : Blk w2.heap.size #[.int .i64 d, .int .i64 s, .int .u64 z, .slice a5 i k5, .bool fb] 26 _ := d6.set 4 (.bool fb)
          have R7 : PdrAt (w.heap.size + 1) u6 bf _ := Blk.set_ne (b' := w2.heap.size) R6 4 (.bool fb) (by omega)
          have y7 := y6.set_ne (b' := w2.heap.size) 4 (.bool fb) (by omega)
          have G7 := grown_set (b := w2.heap.size) (o := 4) G6 (.bool fb) (by omega)
          have I7 := MK.out _ (ownsRow_setCell_below (a := ⟨w2.heap.size, 4, none⟩) o6 (by show w2.heap.size < _; omega) (.bool fb))
          obtain ⟨d60, d61, d62, d63, d64, d65⟩ := d6.at5
          clear g6 R6 G6 y6 d5 hR G5 y5 s1 s2 s3 o6 ho hU
          go_wp2_with fail
          refine (cmenc_any d s z _ cl fb _ I7).mono ?_
          rintro e w8 ⟨ub, rfl, hub, g8⟩
          have R8 : PdrAt (w.heap.size + 1) u6 bf w8 := R7.keep g8
          have d8 := d7.keep g8
          have y8 := y7.keep g8
          have GG := G7.trans' g8
          have I8 := I7.grown g8
          have hz8 := d8.lt
          clear g8 R7 d7 y7 G7 I7 d60 d61 d62 d63 d64 d65 d6
          obtain ⟨d80, d81, d82, d83, d84, d85⟩ := d8.at5
          obtain ⟨yy0, yy1, yy2, yy3, yy4, yy5⟩ := y8.at5
          obtain ⟨r80, r81, r82⟩ := Blk.at2 R8
          have cv1 := run_string (P := Try.prog) (ints_of_own hub wf_encCm) Try.underlying49 Try.underlying5 Try.underlying9
          have cv2 := run_string (P := Try.prog) (HV.out.grown GG) Try.underlying49 Try.underlying5 Try.underlying9
          clear hub
          cases bf
          · by_cases hv : cmE d s cl = 0
            · have hb : (cmE d s cl != 0) = false := by rw [bne_eq_false_iff_eq]; exact hv
              by_cases hq : encCm d s z cl fb = l
              · have HF : Hid (cmD l = (d, s, z, cl, fb, 0)) := by
                  show _ = _
                  rw [HDD.out, if_neg (by simp [hv, hq])]
                rw [hq] at cv1
                generalize strOfNums l = A2 at *
                generalize cmE d s cl = E at *
                clear hv hq HDD
                go_wp2
                refine bodyPost_ret (v := .tuple #[.agg #[.int .i64 d, .int .i64 s, .int .u64 z, .slice a5 i k5, .bool fb], .int .i64 0]) ?_ rfl ⟨_, by rw [HF.out], ?_, hfr.mono (by omega), ?_⟩
                · simp [results, Try.results30, go_sem, yy0, yy1, yy2, yy3, yy4]
                · rw [HF.out]
                  repeat (with_reducible refine Ints.setF ?_ hfr _ (by omega))
                  exact I8
                · repeat (with_reducible refine grown_set ?_ _ (by omega))
                  exact GG
              · have HF : Hid (cmD l = (0, 0, 0, [], false, 2)) := by
                  show _ = _
                  rw [HDD.out, if_pos (.inr (.inr hq))]
                have hne2 : ((strOfNums (encCm d s z cl fb)).toList == (strOfNums l).toList) = false := by
                  rw [beq_eq_false_iff_ne]; exact fun h => hq ((strOfNums_eq wf_encCm HW.out).1 (bytes_ext h))
                generalize strOfNums (encCm d s z cl fb) = A1 at *
                generalize strOfNums l = A2 at *
                generalize cmE d s cl = E at *
                clear hv hq HDD
                go_wp2
                refine bodyPost_ret (v := .tuple #[.agg #[.int .i64 0, .int .i64 0, .int .u64 0, .slice none 0 0, .bool false], .int .i64 2]) ?_ rfl ⟨_, by rw [HF.out], ?_, fresh_nil _ _ _, ?_⟩
                · simp [results, Try.results30, go_sem, yy0, yy1, yy2, yy3, yy4]
                · rw [HF.out]; exact ints_nil _ _
                · repeat (with_reducible refine grown_set ?_ _ (by omega))
                  exact GG
            · have hb : (cmE d s cl != 0) = true := by rw [bne_iff_ne]; exact hv
              have HF : Hid (cmD l = (0, 0, 0, [], false, 2)) := by
                show _ = _
                rw [HDD.out, if_pos (.inr (.inl hv))]
              generalize cmE d s cl = E at *
              clear hv HDD cv1 cv2
              go_wp2
              refine bodyPost_ret (v := .tuple #[.agg #[.int .i64 0, .int .i64 0, .int .u64 0, .slice none 0 0, .bool false], .int .i64 2]) ?_ rfl ⟨_, by rw [HF.out], ?_, fresh_nil _ _ _, ?_⟩
              · simp [results, Try.results30, go_sem, yy0, yy1, yy2, yy3, yy4]
              · rw [HF.out]; exact ints_nil _ _
              · repeat (with_reducible refine grown_set ?_ _ (by omega))
                exact GG
          · have HF : Hid (cmD l = (0, 0, 0, [], false, 2)) := by
              show _ = _
              rw [HDD.out, if_pos (.inl rfl)]
            generalize cmE d s cl = E at *
            clear HDD cv1 cv2
            go_wp2
            refine bodyPost_ret (v := .tuple #[.agg #[.int .i64 0, .int .i64 0, .int .u64 0, .slice none 0 0, .bool false], .int .i64 2]) ?_ rfl ⟨_, by rw [HF.out], ?_, fresh_nil _ _ _, ?_⟩
            · simp [results, Try.results30, go_sem, yy0, yy1, yy2, yy3, yy4]
            · rw [HF.out]; exact ints_nil _ _
            · repeat (with_reducible refine grown_set ?_ _ (by omega))
              exact GG
    · have HF := Lib.hid (HDS.out hs)
      have hs' : ¬ (1 ≤ d ∧ d ≤ 8 ∧ 1 ≤ s ∧ s ≤ 64) := hs
      have CS := Lib.hid (fun w => sized_any d s w)
      rw [decide_eq_false hs'] at CS
      have GG := G3
      obtain ⟨yy0, yy1, yy2, yy3, yy4, yy5⟩ := y3.at5
      clear hs hs'
      go_wp2_with fail
      refine (CS.out _).mono ?_
      rintro e w4 ⟨rfl, rfl⟩
      go_wp2
      refine bodyPost_ret (v := .tuple #[.agg #[.int .i64 0, .int .i64 0, .int .u64 0, .slice none 0 0, .bool false], .int .i64 2]) ?_ rfl ⟨_, by rw [HF.out], ?_, fresh_nil _ _ _, ?_⟩
      · simp [results, Try.results30, go_sem, yy0, yy1, yy2, yy3, yy4]
      · rw [HF.out]; exact ints_nil _ _
      · repeat (with_reducible refine grown_set ?_ _ (by omega))
        exact GG
  · have HF := Lib.hid (HDW.out rfl)
    have GG := G3
    obtain ⟨yy0, yy1, yy2, yy3, yy4, yy5⟩ := y3.at5
    go_wp2
    refine bodyPost_ret (v := .tuple #[.agg #[.int .i64 0, .int .i64 0, .int .u64 0, .slice none 0 0, .bool false], .int .i64 2]) ?_ rfl ⟨_, by rw [HF.out], ?_, fresh_nil _ _ _, ?_⟩
    · simp [results, Try.results30, go_sem, yy0, yy1, yy2, yy3, yy4]
    · rw [HF.out]; exact ints_nil _ _
    · repeat (with_reducible refine grown_set ?_ _ (by omega))
      exact GG
end Go.Proofs.Ytigpbfmnbdbpcaa
