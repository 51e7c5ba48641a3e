/- The walk of CountminCodes. Conditions: Go's ints. -/
import Derived.Test.YtigpbfmnbdbpcaaCmZ
namespace Go.Proofs.Ytigpbfmnbdbpcaa
open Go.RowKit Go.ChangeShapes Go.WideShapes
set_option linter.unusedVariables false
set_option linter.unusedSimpArgs false
theorem i2u_in (x : Int) : 0 ≤ i2u x ∧ i2u x < 18446744073709551616 := by unfold i2u; rw [IntKind.wrap_u64]; omega
set_option maxRecDepth 100000 in
set_option maxHeartbeats 1600000 in
theorem CountminCodes_walk (a0 a1 a2 : Int) (v3 : Value) (l3 : List Int) (a4 : Int) (v5 : Value) (l5 : List Int) (w : World) (h0 : (Lit.int .i64 a0).wf = true) (h1 : (Lit.int .i64 a1).wf = true) (h2 : (Lit.int .i64 a2).wf = true) (h3 : Ints .i64 w v3 l3) (hb3 : l3.length * 8 ≤ 140737488351232) (h4 : (Lit.int .i64 a4).wf = true) (h5 : Ints .u8 w v5 l5) (hb5 : l5.length * Try.prog.bytesOf 5 ≤ 140737488351232) :
    Calls Try.prog 9 #[.int .i64 a0, .int .i64 a1, .int .i64 a2, v3, .int .i64 a4, v5] w fun e w' => e = .returned (.bool true) ∧ Below w.heap.size w w' := by
  have b0 := bounds_i64 h0
  have b1 := bounds_i64 h1
  have b2 := bounds_i64 h2
  have b4 := bounds_i64 h4
  have KN := Lib.hid (fun w => knowncm_any w)
  have MD := Lib.hid (fun a b c v l w ha hb hc hv => madecm_any a b c v l w ha hb hc hv)
  have SP := Lib.hid (fun d s z v l b n w hv hd hs hn h1 h2 => spoilcm_any d s z v l b n w hv hd hs hn h1 h2)
  have hl5 := h5.size
  obtain ⟨a, cap, rfl, -, -, -, -⟩ := id h3
  obtain ⟨a', cap', rfl, -, -, -, -⟩ := id h5
  have H3 := Lib.hid h3
  have H5 := Lib.hid h5
  clear h0 h1 h2 h3 h4 h5 hb5
  by_cases hlen : (l5.length : Int) > 300
  · go_enter Try.func9, Try.ntmps9
    go_wp2_with fail
    refine (KN.out _).mono ?_
    rintro e w8 ⟨rfl, g8⟩
    go_wp2
    go_ret
    exact ⟨rfl, below_of_grown g8⟩
  · go_enter Try.func9, Try.ntmps9
    go_wp2_with fail
    refine (MD.out _ _ _ _ _ _ (by unfold i64I; omega) (by unfold i64I; omega) (by unfold i64I; omega) H3.out).mono ?_
    rintro e w1 ⟨v1, rfl, I1, g1⟩
    have q1 := mdL_len a0 a1 a2 ((l3.map itmOf).take 7)
    have qd := mdD_in a0
    have qs := mdS_in a1
    have hz := i2u_in a2
    generalize mdL a0 a1 a2 ((l3.map itmOf).take 7) = L1 at *
    generalize mdB a0 a1 a2 ((l3.map itmOf).take 7) = B1 at *
    generalize mdD a0 = D1 at *
    generalize mdS a1 = S1 at *
    generalize i2u a2 = Z at *
    obtain ⟨x1, y1, rfl, -, -, -, -⟩ := id I1
    go_wp2_with fail
    refine (SP.out _ _ _ _ _ _ _ _ I1 (by unfold i64I; omega) (by unfold i64I; omega) (by unfold i64I; omega) (by omega) (by omega)).mono ?_
    rintro e w2 ⟨p, s, v2, L, rfl, I2, iD, iS, g2⟩
    obtain ⟨x2, y2, rfl, -, -, -, -⟩ := id I2
    have G2 := g1.trans' g2
    clear I1 q1 qd qs g1 g2
    have hwe := wf_encCm (d := p) (s := s) (z := Z) (l := L) (b := B1)
    have hbk := fun h => cmD_back (d := p) (s := s) (l := L) (b := B1) hz.1 hz.2 h
    have c3 := fun v w (h : Ints .i64 w v L) => cmenc_any p s Z v L B1 w h
    have c4 := fun v w (h : Ints .i64 w v L) => cmencr_any p s Z v L B1 w h
    have c5 := fun v w1 (h : Ints .u8 w1 v l5) => cmdec_any v l5 w1 h
    have c6 := fun v w1 (h : Ints .u8 w1 v l5) => cmdecr_any v l5 w1 h
    have c7 := fun u w1 (h : Ints .u8 w1 u (encCm p s Z L B1)) => cmdec_any u _ w1 h
    generalize cmD l5 = r at *
    obtain ⟨rp, rs, rz, rl, rb, re⟩ := r
    generalize encCm p s Z L B1 = B at *
    generalize cmE p s L = er at *
    simp only at c5 c6
    have C3 := Lib.hid c3
    have C4 := Lib.hid c4
    have C5 := Lib.hid c5
    have C6 := Lib.hid c6
    have C7 := Lib.hid c7
    have HBK := Lib.hid hbk
    have HWE := Lib.hid hwe
    clear c3 c4 c5 c6 c7 hbk hwe
    go_wp2_with fail
    refine (C3.out _ _ (I2.grown (grown_alloc _ _))).mono ?_
    rintro e w3 ⟨u1, rfl, hu1, g3⟩
    have p3 := (Blk.new w2 _ _).keep g3
    have i3 := ints_of_own hu1 HWE.out
    have I3 := I2.grown ((grown_alloc _ _).trans' g3)
    have G3 := (G2.trans' (grown_alloc _ _)).trans' g3
    clear hu1 I2 G2 g3
    obtain ⟨p30, p31, p32, p33, p34⟩ := p3.ev5
    have ga : ∀ (w : World) (o : Obj), w.grownBy (w.alloc o) none := grown_alloc
    have gr := grown_refl w3
    go_wp2_with fail
    refine (C4.out _ _ I3).mono ?_
    rintro e w4 ⟨u2, rfl, hu2, g4⟩
    have p4 := p3.keep g4
    have j4 := ints_of_own hu2 HWE.out
    have i4 := i3.grown g4
    have I4 := I3.grown g4
    have G4 := G3.trans' g4
    clear hu2 I3 i3 G3 g4 p30 p31 p32 p33 p34 p3 gr
    go_wp2_with fail
    refine (C5.out _ _ (H5.out.grown G4)).mono ?_
    rintro e w5 ⟨u3, rfl, k5, -, g5⟩
    obtain ⟨x3, y3, rfl, -, -, -, -⟩ := id k5
    have s5 := Blk.new w5 #[.int .i64 rp, .int .i64 rs, .int .u64 rz, .slice x3 rl.length y3, .bool rb] 26
    have p5 := p4.keep (g5.trans' (grown_alloc w5 (.cells #[.int .i64 rp, .int .i64 rs, .int .u64 rz, .slice x3 rl.length y3, .bool rb] 26)))
    have j5 := j4.grown (g5.trans' (grown_alloc w5 (.cells #[.int .i64 rp, .int .i64 rs, .int .u64 rz, .slice x3 rl.length y3, .bool rb] 26)))
    have i5 := i4.grown (g5.trans' (grown_alloc w5 (.cells #[.int .i64 rp, .int .i64 rs, .int .u64 rz, .slice x3 rl.length y3, .bool rb] 26)))
    have I5 := I4.grown (g5.trans' (grown_alloc w5 (.cells #[.int .i64 rp, .int .i64 rs, .int .u64 rz, .slice x3 rl.length y3, .bool rb] 26)))
    have K5 := k5.grown (grown_alloc w5 (.cells #[.int .i64 rp, .int .i64 rs, .int .u64 rz, .slice x3 rl.length y3, .bool rb] 26))
    have G5 := (G4.trans' g5).trans' (grown_alloc w5 (.cells #[.int .i64 rp, .int .i64 rs, .int .u64 rz, .slice x3 rl.length y3, .bool rb] 26))
    clear k5 g5 p4 j4 i4 I4 G4
    go_wp2_with fail
    refine (C6.out _ _ (H5.out.grown G5)).mono ?_
    rintro e w6 ⟨u4, rfl, k6, -, g6⟩
    obtain ⟨x4, y4, rfl, -, -, -, -⟩ := id k6
    have t6 := Blk.new w6 #[.int .i64 rp, .int .i64 rs, .int .u64 rz, .slice x4 rl.length y4, .bool rb] 26
    have s6 := s5.keep (g6.trans' (grown_alloc w6 (.cells #[.int .i64 rp, .int .i64 rs, .int .u64 rz, .slice x4 rl.length y4, .bool rb] 26)))
    have p6 := p5.keep (g6.trans' (grown_alloc w6 (.cells #[.int .i64 rp, .int .i64 rs, .int .u64 rz, .slice x4 rl.length y4, .bool rb] 26)))
    have j6 := j5.grown (g6.trans' (grown_alloc w6 (.cells #[.int .i64 rp, .int .i64 rs, .int .u64 rz, .slice x4 rl.length y4, .bool rb] 26)))
    have i6 := i5.grown (g6.trans' (grown_alloc w6 (.cells #[.int .i64 rp, .int .i64 rs, .int .u64 rz, .slice x4 rl.length y4, .bool rb] 26)))
    have I6 := I5.grown (g6.trans' (grown_alloc w6 (.cells #[.int .i64 rp, .int .i64 rs, .int .u64 rz, .slice x4 rl.length y4, .bool rb] 26)))
    have K6 := K5.grown (g6.trans' (grown_alloc w6 (.cells #[.int .i64 rp, .int .i64 rs, .int .u64 rz, .slice x4 rl.length y4, .bool rb] 26)))
    have M6 := k6.grown (grown_alloc w6 (.cells #[.int .i64 rp, .int .i64 rs, .int .u64 rz, .slice x4 rl.length y4, .bool rb] 26))
    have G6 := (G5.trans' g6).trans' (grown_alloc w6 (.cells #[.int .i64 rp, .int .i64 rs, .int .u64 rz, .slice x4 rl.length y4, .bool rb] 26))
    have cv1 := run_string (P := Try.prog) i6 Try.underlying49 Try.underlying5 Try.underlying9
    have cv2 := run_string (P := Try.prog) j6 Try.underlying49 Try.underlying5 Try.underlying9
    clear k6 g6 p5 j5 i5 I5 G5 s5 K5
    have I7 := Lib.hid i6
    have hzz := t6.lt
    generalize strOfNums B = A1 at *
    clear i6 j6
    obtain ⟨s60, s61, s62, s63, s64, s65⟩ := s6.at5
    obtain ⟨t60, t61, t62, t63, t64, t65⟩ := t6.at5
    go_wp2_with fail
    refine (samecm_eq rp rs rz _ _ rl rb _ K6 M6).mono ?_
    rintro e w7 ⟨rfl, g7⟩
    have p7 := p6.keep g7
    have n7 := I6.grown g7
    have G7 := G6.trans' g7
    have J7 := Lib.hid (I7.out.grown g7)
    clear cv1 cv2 s60 s61 s62 s63 s64 s65 t60 t61 t62 t63 t64 t65 s6 t6 K6 M6 I6 I7 p6 G6
    by_cases he : er = 0
    · have b1 : (er == 0) = true := beq_iff_eq.2 he
      have hbk := HBK.out he
      have C8 := C7
      rw [hbk] at C8
      simp only at C8
      clear hbk he
      go_wp2_with fail
      refine (C8.out _ _ J7.out).mono ?_
      rintro e w8 ⟨u5, rfl, k8, -, g8⟩
      obtain ⟨x5, y5, rfl, -, -, -, -⟩ := id k8
      have q9 := Blk.new w8 #[.int .i64 p, .int .i64 s, .int .u64 Z, .slice x5 L.length y5, .bool B1] 26
      have p9 := p7.keep (g8.trans' (grown_alloc w8 (.cells #[.int .i64 p, .int .i64 s, .int .u64 Z, .slice x5 L.length y5, .bool B1] 26)))
      have n9 := n7.grown (g8.trans' (grown_alloc w8 (.cells #[.int .i64 p, .int .i64 s, .int .u64 Z, .slice x5 L.length y5, .bool B1] 26)))
      have k9 := k8.grown (grown_alloc w8 (.cells #[.int .i64 p, .int .i64 s, .int .u64 Z, .slice x5 L.length y5, .bool B1] 26))
      have G9 := (G7.trans' g8).trans' (grown_alloc w8 (.cells #[.int .i64 p, .int .i64 s, .int .u64 Z, .slice x5 L.length y5, .bool B1] 26))
      clear k8 n7 p7 G7 g8 g7
      obtain ⟨p90, p91, p92, p93, p94, p95⟩ := p9.at5
      obtain ⟨q90, q91, q92, q93, q94, q95⟩ := q9.at5
      go_wp2_with fail
      refine (samecm_eq p s Z _ _ L B1 _ n9 k9).mono ?_
      rintro e w10 ⟨rfl, g10⟩
      clear p90 p91 p92 p93 p94 p95 q90 q91 q92 q93 q94 q95
      go_wp2_with fail
      refine (KN.out _).mono ?_
      rintro e w11 ⟨rfl, g11⟩
      go_wp2
      go_ret
      exact ⟨rfl, below_of_grown ((G9.trans' g10).trans' g11)⟩
    · have b1 : (er == 0) = false := beq_eq_false_iff_ne.2 he
      clear he
      go_wp2_with fail
      refine (KN.out _).mono ?_
      rintro e w8 ⟨rfl, g8⟩
      go_wp2
      go_ret
      exact ⟨rfl, below_of_grown (G7.trans' g8)⟩
end Go.Proofs.Ytigpbfmnbdbpcaa
