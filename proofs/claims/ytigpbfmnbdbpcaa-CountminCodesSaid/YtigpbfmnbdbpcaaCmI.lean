/- The walk of the reference's insertion. Conditions: cells, weights and keys of Go's size. -/
import Derived.Test.YtigpbfmnbdbpcaaCmH
namespace Go.Proofs.Ytigpbfmnbdbpcaa
open Go.RowKit Go.ChangeShapes Go.WideShapes
set_option linter.unusedVariables false
set_option linter.unusedSimpArgs false
theorem addrq (a b m : Int) (w : World) (ha : -9223372036854775808 ≤ a ∧ a ≤ 9223372036854775807) (hb : -9223372036854775808 ≤ b ∧ b ≤ 9223372036854775807) (hm : -9223372036854775808 ≤ m ∧ m ≤ 9223372036854775807) :
    Calls Try.prog 50 #[.int .i64 a, .int .i64 b, .int .i64 m] w fun e w' => e = .returned (.tuple #[.int .i64 (addS a b m), .bool (addB a b m)]) ∧ w' = w :=
  (addr_any a b m w ha hb hm).mono fun _ _ h => ⟨h.1, h.2.symm⟩
set_option maxRecDepth 100000 in
set_option maxHeartbeats 3200000 in
theorem cminsertr_any (d s z : Int) (v : Value) (l : List Int) (b : Bool) (key : ByteArray) (wt : Int) (w : World) (hv : Ints .i64 w v l) (hks : key.size ≤ 140737488355328) (hwt : -9223372036854775808 ≤ wt ∧ wt ≤ 9223372036854775807) :
    Calls Try.prog 20 #[.agg #[.int .i64 d, .int .i64 s, .int .u64 z, v, .bool b], .agg #[.string key, .int .i64 wt]] w fun e w' => ∃ u, e = .returned (.tuple #[.agg #[.int .i64 (insI d s l key wt d), .int .i64 (insI d s l key wt s), .int .u64 (insI d s l key wt z), u, .bool (insV d s z l b key wt).2], .int .i64 (insE d s l key wt)]) ∧ Ints .i64 w' u (insV d s z l b key wt).1 ∧ Fresh w.heap.size u ∧ w.grownBy w' none := by
  by_cases hE : cmE d s l = 0
  · by_cases hI : itemE key wt = 0
    · obtain ⟨hs, hl, hg⟩ := cmE_ok hE
      obtain ⟨hk1, hw1, hw2⟩ := itemE_ok hI
      have hIE : insE d s l key wt = 0 := by unfold insE; rw [if_neg (by simpa using hE)]; exact hI
      have e1 : ∀ x, insI d s l key wt x = x := fun x => by unfold insI; rw [if_pos hIE]
      rw [e1, e1, e1, hIE, show insV d s z l b key wt = insK (cmI z s key) wt (l, b) d.toNat from by unfold insV; rw [if_pos hIE]]
      clear e1
      have hm := mul_in hs
      have hlt := fun (k : Nat) (hk : (k : Int) < d) => cmI_lt (z := z) key hs hl hk
      obtain ⟨q1, q2, q3, q4⟩ : 1 ≤ d ∧ d ≤ 8 ∧ 1 ≤ s ∧ s ≤ 64 := hs
      obtain ⟨D, rfl⟩ : ∃ D : Nat, d = D := ⟨d.toNat, by omega⟩
      rw [Int.toNat_natCast]
      have C1 := Lib.hid (fun w (h : Ints .i64 w v l) => cmvalidr_any (D : Int) s z v l b w h)
      rw [hE] at C1
      have C2 := Lib.hid (fun w => validItemr_any key wt w (by unfold maxLen; omega))
      rw [hI] at C2
      have C4 := Lib.hid (fun (k : Nat) (m : List Int) (f : Bool) (v' : Value) (hk : (k : Int) < D) w (h : Ints .i64 w v' m) => cell_any (D : Int) s z v' m f k key w h (by omega) (by omega) (by omega) (by omega) hks ⟨(col_in (by omega) (by omega) q3 q4).1, by have := (col_in (z := z) (key := key) (r := k) (by omega) (by omega) q3 q4).2; omega⟩)
      have HV := Lib.hid hv
      have HG := Lib.hid hg
      have HL := Lib.hid hlt
      have HLen := Lib.hid hl
      have hpos : 0 < l.length := by omega
      have hl5 : l.length ≤ 512 := by omega
      clear hE hI hg hlt hk1 hIE hl
      obtain ⟨a, cap, rfl, -, -, -, -⟩ := id hv
      clear hv
      go_enter Try.func20, Try.ntmps20
      go_wp2_with fail
      refine (C1.out _ (HV.out.grown (((grown_alloc _ _).trans' (grown_alloc _ _)).trans' (grown_alloc _ _)))).mono ?_
      rintro e w1 ⟨rfl, g1⟩
      have G1 : w.grownBy w1 none := (((grown_alloc _ _).trans' (grown_alloc _ _)).trans' (grown_alloc _ _)).trans' g1
      have hz1 : w.heap.size + 3 ≤ w1.heap.size := by simpa using g1.size
      have c1 := (((Blk.new w _ _).keep (grown_alloc _ _)).keep (grown_alloc _ _)).keep g1
      have x1 := ((Blk.newAt (w.alloc _) (w.heap.size + 1) _ _ (by simp)).keep (grown_alloc _ _)).keep g1
      have r1 := (Blk.newAt ((w.alloc _).alloc _) (w.heap.size + 1 + 1) _ _ (by simp)).keep g1
      clear g1
      obtain ⟨c10, c11, c12, c13, c14, c15⟩ := c1.at5
      obtain ⟨x10, x11, x12⟩ := x1.at2
      go_wp2_with fail
      refine (C2.out _).mono ?_
      rintro e w2 ⟨rfl, g2⟩
      clear c10 c11 c12 c13 c14 c15 x10 x11 x12
      have hz2 := g2.size
      obtain ⟨c10, c11, c12, c13, c14, c15⟩ := (c1.keep g2).at5
      have b3 := c1.keep g2
      go_wp2_with (at_builtin; go_loud (refine wpList_appS _ rfl _ _ 24 24 rfl w2.heap.size 3 (.int .i64 0) 1 8 Try.underlying24 Try.infoInt rfl (by decide) _ _ _ _ _ _ (World.ownsRow_nil _ _ _ _) rfl rfl ((HV.out.grown (G1.trans' g2)).src Try.underlying24) (by unfold maxLen; omega) (by omega) (by simp) ?_))
      intro u w3 hu g3 _
      obtain ⟨gu, cu, rfl, hgu, R3, hcu1, hcu2⟩ := row_of_own hu hpos
      have hgu2 := R3.lt
      have hz3 := g3.size
      have g3' : w2.grownBy w3 none := g3
      have c3 := c1.keep (g2.trans' g3')
      have x3 := x1.keep (g2.trans' g3')
      have r3 := r1.keep (g2.trans' g3')
      have G3 := (G1.trans' g2).trans' g3'
      clear c10 c11 c12 c13 c14 c15 hu b3 c1 x1 r1 g2 g3 g3'
      obtain ⟨c10, c11, c12, c13, c14, c15⟩ := c3.at5
      go_wp2_with fail
      have T0 : Two gu w.heap.size w3 (w3.setCell ⟨w.heap.size, 3, none⟩ (.slice (some ⟨gu, 0, none⟩) l.length cu)) := (Two.refl _ _ _).setq _ _
      have R4 := R3.set_ne 3 (.slice (some ⟨gu, 0, none⟩) l.length cu) (b' := w.heap.size) (by omega)
      have c4 : Blk w.heap.size #[Value.int IntKind.i64 D, Value.int IntKind.i64 s, Value.int IntKind.u64 z, Value.slice (some ⟨gu, 0, none⟩) l.length cu, Value.bool b] 26 (w3.setCell ⟨w.heap.size, 3, none⟩ (.slice (some ⟨gu, 0, none⟩) l.length cu)) := c3.set 3 _
      generalize w3.setCell ⟨w.heap.size, 3, none⟩ (.slice (some ⟨gu, 0, none⟩) l.length cu) = w4 at *
      clear c10 c11 c12 c13 c14 c15 c3 R3
      go_loopw [8] (fun i wr => ∃ k : Nat, k ≤ D ∧ i = .int .i64 k ∧ Row .i64 3 gu (insK (cmI z s key) wt (l, b) k).1 wr ∧ Blk w.heap.size #[Value.int IntKind.i64 D, Value.int IntKind.i64 s, Value.int IntKind.u64 z, Value.slice (some ⟨gu, 0, none⟩) l.length cu, Value.bool (insK (cmI z s key) wt (l, b) k).2] 26 wr ∧ Two gu w.heap.size w3 wr) (fun i _ => D - (intOf i).toNat)
      case atStart => exact ⟨0, by omega, rfl, R4, c4, T0⟩
      case round =>
        obtain ⟨k, hk, rfl, R5, d5, hkp⟩ := hrel
        have hlen := length_insK (cmI z s key) wt (l, b) k
        simp only at hlen
        have hok := okL_insK (idx := cmI z s key) (wt := wt) (p := (l, b)) (by omega) HG.out k
        have RR := R5.ints (cap := cu) (by omega) hcu2 (fun n hn => wf_ok (hok n hn))
        rw [hlen] at RR
        by_cases hlt : k < D
        · obtain ⟨c10, c11, c12, c13, c14, c15⟩ := d5.at5
          obtain ⟨x10, x11, x12⟩ := (x3.two hkp (by omega) (by omega)).at2
          have hzr := hkp.size
          obtain ⟨hI1, hI2, hI3⟩ := HL.out k (by omega)
          have C5 := C4.out k _ (insK (cmI z s key) wt (l, b) k).2 _ (by omega) _ RR
          rw [cmI_eq z s key k hI3] at C5
          have hstep : insK (cmI z s key) wt (l, b) (k + 1) = stepC (cmI z s key k) wt (insK (cmI z s key) wt (l, b) k) := rfl
          have HS := Lib.hid hstep
          have hmx0 : -9223372036854775808 ≤ gI (insK (cmI z s key) wt (l, b) k).1 (cmI z s key k) ∧ gI (insK (cmI z s key) wt (l, b) k).1 (cmI z s key k) ≤ 9223372036854775807 := by
            have := hok _ (gI_mem (by rw [hlen]; exact hI1) : gI (insK (cmI z s key) wt (l, b) k).1 (cmI z s key k) ∈ _)
            omega
          clear hok hstep RR
          generalize insK (cmI z s key) wt (l, b) k = p at *
          generalize cmI z s key k = I at *
          obtain ⟨m, f⟩ := p
          simp only at R5 d5 hlen hI1 hmx0 C5 c14
          have hmx : -9223372036854775808 ≤ gI m I ∧ gI m I ≤ 9223372036854775807 := hmx0
          generalize hx : gI m I = x at *
          have HX := Lib.hid hx
          have hsx : 0 ≤ addS x wt 4294967295 ∧ addS x wt 4294967295 ≤ 4294967295 := by unfold addS; omega
          have C6 := Lib.hid (fun w n => addrq x wt 4294967295 (World.drewN w n) hmx hwt (by omega))
          generalize hn : addS x wt 4294967295 = n at *
          generalize hfb : addB x wt 4294967295 = fb at *
          have HN := Lib.hid hn
          have HF := Lib.hid hfb
          clear hx hn hfb hI2 hI3
          have C5 := Lib.hid C5
          go_wp2_with fail
          refine C5.out.mono ?_
          rintro e w5 ⟨rfl, g5⟩
          clear c10 c11 c12 c13 c14 c15 x10 x11 x12
          have R6 := R5.keep g5
          have d6 := d5.keep g5
          have hkp6 := hkp.grown g5
          have y1 := R6.cell (i := I) (by omega)
          rw [HX.out] at y1
          have y2 := fun i => R6.froz i
          obtain ⟨d10, d11, d12, d13, d14, d15⟩ := d6.at5
          obtain ⟨x10, x11, x12⟩ := (x3.two hkp6 (by omega) (by omega)).at2
          have e1 : (I : Int) < l.length := by omega
          have e2 : (0 : Int) ≤ I := by omega
          go_wp2_with fail
          go_quiet ((go_at_call 50; exact Calls.quiet_of_same (C6.out _ _)))
          go_wp2_with fail
          cases f
          all_goals
            go_region
            go_wp2
            go_roundw
            case rel =>
              refine ⟨k + 1, by omega, by go_num, ?_, ?_, ?_⟩
              · rw [HS.out]
                show Row _ _ _ (m.set I (addS (gI m I) wt 4294967295)) _
                rw [HX.out, HN.out]
                exact ((R6.keep (grown_drew _)).set I n).set_ne 4 _ (by omega)
              · rw [HS.out]
                first
                  | (rw [show (stepC I wt (m, false)).2 = fb from by show (false || addB (gI m I) wt 4294967295) = fb; rw [HX.out, HF.out]; simp]; exact ((d6.keep (grown_drew (nq + 1))).set_ne I (.int .i64 n) (b' := gu) (by omega)).set 4 (.bool fb))
                  | (rw [show (stepC I wt (m, true)).2 = true from rfl]; exact ((d6.keep (grown_drew (nq + 1))).set_ne I (.int .i64 n) (b' := gu) (by omega)).set 4 (.bool true))
              · exact ((hkp6.grown (grown_drew _)).setp I _).setq 4 _
            case measure => simp [intOf]; omega
        · obtain rfl : k = D := by omega
          obtain ⟨d10, d11, d12, d13, d14, d15⟩ := d5.at5
          have r5 := r3.two hkp (by omega) (by omega)
          obtain ⟨r10, r11, r12, r13, r14, r15⟩ := r5.at5
          have hrl := r5.lt
          go_wp2
          refine bodyPost_ret (v := .tuple #[.agg #[.int .i64 k, .int .i64 s, .int .u64 z, .slice (some ⟨gu, 0, none⟩) l.length cu, .bool (insK (cmI z s key) wt (l, b) k).2], .int .i64 0]) ?_ rfl ⟨_, rfl, ?_, fresh_of (by omega), ?_⟩
          · simp [results, Try.results20, go_sem, r10, r11, r12, r13, r14]
          · exact (((((RR.set _ (by omega)).set _ (by omega)).set _ (by omega)).set _ (by omega)).set _ (by omega))
          · refine grown_set (grown_set (grown_set (grown_set (grown_set (hkp.up G3 ?_ ?_) _ ?_) _ ?_) _ ?_) _ ?_) _ ?_ <;> omega
    · have hIE : insE d s l key wt = itemE key wt := by unfold insE; rw [if_neg (by simpa using hE)]
      have e1 : ∀ x, insI d s l key wt x = 0 := fun x => by unfold insI; rw [if_neg (by rw [hIE]; exact hI)]
      rw [e1, e1, e1, hIE, show insV d s z l b key wt = ([], false) from by unfold insV; rw [if_neg (by rw [hIE]; exact hI)]]
      clear e1 hIE
      have C1 := Lib.hid (fun w (h : Ints .i64 w v l) => cmvalidr_any d s z v l b w h)
      rw [hE] at C1
      have C2 := Lib.hid (fun w => validItemr_any key wt w (by unfold maxLen; omega))
      have HV := Lib.hid hv
      obtain ⟨a, cap, rfl, -, -, -, -⟩ := id hv
      generalize itemE key wt = E at *
      have hb1 : (E != 0) = true := by rw [bne_iff_ne]; exact hI
      clear hv hE hI
      go_enter Try.func20, Try.ntmps20
      go_wp2_with fail
      refine (C1.out _ (HV.out.grown (((grown_alloc _ _).trans' (grown_alloc _ _)).trans' (grown_alloc _ _)))).mono ?_
      rintro e w1 ⟨rfl, g1⟩
      have G1 : w.grownBy w1 none := (((grown_alloc _ _).trans' (grown_alloc _ _)).trans' (grown_alloc _ _)).trans' g1
      have hz1 : w.heap.size + 3 ≤ w1.heap.size := by simpa using g1.size
      have x1 := ((Blk.newAt (w.alloc _) (w.heap.size + 1) _ _ (by simp)).keep (grown_alloc _ _)).keep g1
      have r1 := (Blk.newAt ((w.alloc _).alloc _) (w.heap.size + 1 + 1) _ _ (by simp)).keep g1
      clear g1
      obtain ⟨x10, x11, x12⟩ := x1.at2
      go_wp2_with fail
      refine (C2.out _).mono ?_
      rintro e w2 ⟨rfl, g2⟩
      have hz2 := g2.size
      obtain ⟨r10, r11, r12, r13, r14, r15⟩ := (r1.keep g2).at5
      clear x10 x11 x12 x1 r1
      go_wp2
      refine bodyPost_ret (v := .tuple #[.agg #[.int .i64 0, .int .i64 0, .int .u64 0, .slice none 0 0, .bool false], .int .i64 E]) ?_ rfl ⟨_, rfl, ints_nil _ _, fresh_nil _ _ _, ?_⟩
      · simp [results, Try.results20, go_sem, r10, r11, r12, r13, r14]
      · refine grown_set (grown_set (grown_set (grown_set (grown_set (G1.trans' g2) _ ?_) _ ?_) _ ?_) _ ?_) _ ?_ <;> omega
  · have hIE : insE d s l key wt = cmE d s l := by unfold insE; rw [if_pos hE]
    have e1 : ∀ x, insI d s l key wt x = 0 := fun x => by unfold insI; rw [if_neg (by rw [hIE]; exact hE)]
    rw [e1, e1, e1, hIE, show insV d s z l b key wt = ([], false) from by unfold insV; rw [if_neg (by rw [hIE]; exact hE)]]
    clear e1 hIE
    have C1 := Lib.hid (fun w (h : Ints .i64 w v l) => cmvalidr_any d s z v l b w h)
    have HV := Lib.hid hv
    obtain ⟨a, cap, rfl, -, -, -, -⟩ := id hv
    generalize cmE d s l = E at *
    have hb1 : (E != 0) = true := by rw [bne_iff_ne]; exact hE
    clear hv hE
    go_enter Try.func20, Try.ntmps20
    go_wp2_with fail
    refine (C1.out _ (HV.out.grown (((grown_alloc _ _).trans' (grown_alloc _ _)).trans' (grown_alloc _ _)))).mono ?_
    rintro e w1 ⟨rfl, g1⟩
    have G1 : w.grownBy w1 none := (((grown_alloc _ _).trans' (grown_alloc _ _)).trans' (grown_alloc _ _)).trans' g1
    have hz1 : w.heap.size + 3 ≤ w1.heap.size := by simpa using g1.size
    have r1 := (Blk.newAt ((w.alloc _).alloc _) (w.heap.size + 1 + 1) _ _ (by simp)).keep g1
    clear g1
    obtain ⟨r10, r11, r12, r13, r14, r15⟩ := r1.at5
    clear r1
    go_wp2
    refine bodyPost_ret (v := .tuple #[.agg #[.int .i64 0, .int .i64 0, .int .u64 0, .slice none 0 0, .bool false], .int .i64 E]) ?_ rfl ⟨_, rfl, ints_nil _ _, fresh_nil _ _ _, ?_⟩
    · simp [results, Try.results20, go_sem, r10, r11, r12, r13, r14]
    · refine grown_set (grown_set (grown_set (grown_set (grown_set G1 _ ?_) _ ?_) _ ?_) _ ?_) _ ?_ <;> omega
end Go.Proofs.Ytigpbfmnbdbpcaa
