/- The walk of LoglogEstimates. Conditions: Go's ints. -/
import Derived.Test.YthohjekfffebkaaLlT
namespace Go.Proofs.Ythohjekfffebkaa
open Go.RowKit Go.ChangeShapes Go.WideShapes
set_option linter.unusedVariables false
set_option linter.unusedSimpArgs false
set_option maxRecDepth 100000 in
set_option maxHeartbeats 1600000 in
theorem llnewR_any (p z : Int) (w : World) (hs : pOK p) :
    Calls Try.prog 12 #[.int .i64 p, .int .u64 z] w fun e w' => ∃ g, e = .returned (.tuple #[.agg #[.int .i64 p, .int .u64 z, .slice (some ⟨g, 0, none⟩) (p2 p) (p2 p)], .int .i64 0]) ∧ Row .i64 3 g (List.replicate (p2 p) 0) w' ∧ w.heap.size ≤ g ∧ w.grownBy w' none := by
  have hm := p2_in hs
  have hsh := p2_sh hs
  obtain ⟨q1, q2⟩ : 2 ≤ p ∧ p ≤ 8 := hs
  generalize p2 p = N at *
  have HH := Lib.hid hsh
  clear hsh
  obtain ⟨i0, hi, hz0, hz1, hz2⟩ := info_parts Try.infoInt
  go_enter Try.func12, Try.ntmps12
  go_wp2_with fail
  refine (within_yes _ _ _ _ ⟨q1, q2⟩).mono ?_
  rintro e w' ⟨rfl, rfl⟩
  go_wp2_with (at_make; go_loud (refine wpList_make_full _ rfl _ _ 24 rfl (w.heap.size + 1) 3 i0 (.int .i64 0) 1 Try.underlying24 hi hz0 hz1 _ _ _ _ N rfl rfl HH.out HH.out ?c1 ?c2 ?c3 ?_))
  case c1 => rw [hz2]; omega
  case c2 => unfold maxLen; omega
  case c3 => simp
  intro w1 hown g1
  simp only [Value.cells, toList_madeCells_one] at hown
  obtain ⟨g, cp, hg, hgB, hR, hc1, hc2⟩ := row_of_own (k := .i64) (l := List.replicate N 0) (by simpa using hown) (by simp; omega)
  have hge : g = w.heap.size + 1 := by
    injection hg with e1 e2 e3
    injection e1 with e1
    injection e1 with e1 _ _
    exact e1.symm
  subst hge
  have G1 : w.grownBy w1 none := (grown_alloc _ _).trans' g1
  have r1 := (Blk.new w _ _).keep g1
  obtain ⟨r10, r11, r12, r13⟩ := r1.at3
  clear hown g1 hg
  go_wp2
  refine bodyPost_ret (v := .tuple #[.agg #[.int .i64 p, .int .u64 z, .slice (some ⟨w.heap.size + 1, 0, none⟩) N N], .int .i64 0]) ?_ rfl ⟨_, rfl, ?_, by omega, ?_⟩
  · simp [results, Try.results12, go_sem, r10, r11, r12]
  · repeat (with_reducible refine Row.set_ne ?_ _ _ (by omega))
    exact hR
  · repeat (with_reducible refine grown_set ?_ _ (by omega))
    exact G1
set_option maxRecDepth 100000 in
set_option maxHeartbeats 1600000 in
theorem LoglogEstimates_walk (a0 a2 : Int) (v3 : Value) (l3 : List Int) (a4 a5 : Int) (w : World) (h0 : (Lit.int .i64 a0).wf = true) (h2 : (Lit.int .i64 a2).wf = true) (h3 : Ints .i64 w v3 l3) (hb3 : l3.length * 8 ≤ 140737488351232) (h4 : (Lit.int .i64 a4).wf = true) (h5 : (Lit.int .i64 a5).wf = true) :
    Calls Try.prog 5 #[.int .i64 a0, .int .i64 a2, v3, .int .i64 a4, .int .i64 a5] w fun e w' => e = .returned (.bool true) ∧ Below w.heap.size w w' := by
  have b0 := bounds_i64 h0
  have b2 := bounds_i64 h2
  have b4 := bounds_i64 h4
  have b5 := bounds_i64 h5
  have KN := Lib.hid (fun w => knownll_any w)
  have MD := Lib.hid (fun a c v l w ha hc hv => madell_any a c v l w ha hc hv)
  have SP := Lib.hid (fun p z v l n w hv hp hn h1 h2 => spoilll_any p z v l n w hv hp hn h1 h2)
  obtain ⟨a, cap, rfl, -, -, -, -⟩ := id h3
  have H3 := Lib.hid h3
  obtain ⟨M, hM, hM0, hM1⟩ : ∃ M, bits BinOp.and IntKind.i64 a5 7 = M ∧ 0 ≤ M ∧ M ≤ 7 := ⟨_, and_mask _ 3 (by omega) 7 (by decide), by omega, by omega⟩
  obtain ⟨T, hT, hT0, hT1⟩ : ∃ T, M.tmod 7 = T ∧ 0 ≤ T ∧ T ≤ 6 := ⟨_, Int.tmod_eq_emod_of_nonneg (by omega), by omega, by omega⟩
  obtain ⟨r, hr, hr0, hr1⟩ : ∃ r, bits BinOp.and IntKind.i64 (a5 / 8) 63 = r ∧ 0 ≤ r ∧ r ≤ 63 := ⟨_, and_mask _ 6 (by omega) 63 (by decide), by omega, by omega⟩
  have hP : pOK (2 + T) := ⟨by omega, by omega⟩
  have hp2 := p2_in hP
  have CN := Lib.hid (fun w => llnewR_any (2 + T) 0 w hP)
  have hwf0 : ∀ x ∈ List.replicate (p2 (2 + T)) (0 : Int), (Lit.int .i64 x).wf = true := fun x hx => by rw [List.eq_of_mem_replicate hx]; rfl
  have hlen0 : (List.replicate (p2 (2 + T)) (0 : Int)).length = p2 (2 + T) := List.length_replicate
  generalize List.replicate (p2 (2 + T)) (0 : Int) = L0 at *
  generalize p2 (2 + T) = N at *
  have HW0 := Lib.hid hwf0
  have HL0 := Lib.hid hlen0
  clear h0 h2 h3 h4 h5 hP hwf0 hlen0
  go_enter Try.func5, Try.ntmps5
  go_wp2_with fail
  refine (MD.out _ _ _ _ _ (by unfold i64I; omega) (by unfold i64I; omega) H3.out).mono ?_
  rintro e w1 ⟨v1, rfl, I1, g1⟩
  have q1 := mlL_len a0 a2 ((l3.map itmOf).take 9)
  have qd := (mdP_ok a0).1
  generalize mlL a0 a2 ((l3.map itmOf).take 9) = L1 at *
  generalize mdP a0 = D1 at *
  generalize i2u a2 = Z at *
  obtain ⟨x1, y1, rfl, -, -, -, -⟩ := id I1
  go_wp2_with fail
  refine (SP.out _ _ _ _ _ _ I1 qd (by unfold i64I; omega) (by omega) (by omega)).mono ?_
  rintro e w2 ⟨p, v2, L, rfl, I2, iD, g2⟩
  obtain ⟨x2, y2, rfl, -, -, -, -⟩ := id I2
  have G2 := g1.trans' g2
  clear I1 q1 qd g1 g2
  have C3 := Lib.hid (fun v w (h : Ints .i64 w v L) => llest_any p Z v L w h)
  have C4 := Lib.hid (fun v w (h : Ints .i64 w v L) => llestr_any p Z v L w h)
  generalize llR p L = R1 at *
  generalize llE p L = E1 at *
  go_wp2_with fail
  refine (C3.out _ _ (I2.grown (grown_alloc _ _))).mono ?_
  rintro e w3 ⟨rfl, g3⟩
  have p3 := (Blk.new w2 _ _).keep g3
  have I3 := I2.grown ((grown_alloc _ _).trans' g3)
  have G3 := (G2.trans' (grown_alloc _ _)).trans' g3
  clear I2 G2 g3
  obtain ⟨p30, p31, p32, p33⟩ := p3.at3
  go_wp2_with fail
  refine (C4.out _ _ I3).mono ?_
  rintro e w4 ⟨rfl, g4⟩
  have G4 := G3.trans' g4
  clear I3 G3 g4 p30 p31 p32 p33 p3
  go_wp2_with fail
  refine (CN.out _).mono ?_
  rintro e w5 ⟨g, rfl, R5, hg, g5⟩
  have G5 := G4.trans' g5
  have hz5 := g5.size
  have hz4 := G4.size
  have hgl := R5.lt
  clear g5 G4
  go_wp2_with fail
  refine wAbs (P := fun w' => Row .i64 3 g L0 w' ∧ Blk w5.heap.size #[.int .i64 (2 + T), .int .u64 0, .slice (some ⟨g, 0, none⟩) N N] 26 w' ∧ w.grownBy w' none ∧ g < w5.heap.size) ⟨R5.keep (grown_alloc _ _), Blk.new _ _ _, G5.trans' (grown_alloc _ _), hgl⟩ ?_
  clear R5 G5 hgl
  rintro w6 ⟨R6, c6, G6, hgl⟩
  go_loopw [18] (fun i wr => ∃ (k : Nat) (m : List Int), k ≤ N ∧ i = .int .i64 k ∧ Hid (m.length = N ∧ ∀ x ∈ m, (Lit.int .i64 x).wf = true) ∧ Row .i64 3 g m wr ∧ Blk w5.heap.size #[.int .i64 (2 + T), .int .u64 0, .slice (some ⟨g, 0, none⟩) N N] 26 wr ∧ w.grownBy wr none) (fun i _ => N - (intOf i).toNat)
  case atStart => exact ⟨0, L0, by omega, rfl, ⟨HL0.out, HW0.out⟩, R6, c6, G6⟩
  case round =>
    obtain ⟨k, m, hk, rfl, hm, R7, c7, G7⟩ := hrel
    obtain ⟨c70, c71, c72, c73⟩ := c7.at3
    by_cases hlt : k < N
    · have y1 := R7.cell (i := k) (by have := hm.out.1; omega)
      have y2 := R7.froz k
      have e1 : (k : Int) < N := by omega
      have e2 : (0 : Int) ≤ k := by omega
      have hmin : Hid (∀ x, x = min r (65 - (2 + T)) → (Lit.int .i64 x).wf = true) := fun x hx => by simp [Lit.wf, IntKind.min, IntKind.max, IntKind.signed, IntKind.bits]; omega
      generalize gI m k = y at *
      go_wp2
      all_goals
        go_roundw
        case rel =>
          refine ⟨k + 1, m.set k _, by omega, by go_num, ⟨by simpa using hm.out.1, ?_⟩, R7.set k _, c7.set_ne _ _ (by omega), grown_set G7 _ (by omega)⟩
          intro x hx
          rcases List.mem_or_eq_of_mem_set hx with h | h
          · exact hm.out.2 x h
          · refine hmin.out x ?_
            rw [h]
            try first | rfl | (split <;> omega) | omega
        case measure => simp [intOf]; omega
    · obtain rfl : k = N := by omega
      have RI : Ints .i64 wr (.slice (some ⟨g, 0, none⟩) k k) m := by
        have := R7.ints (cap := k) (by have := hm.out.1; omega) (by unfold maxLen; omega) hm.out.2
        rwa [hm.out.1] at this
      have C5 := Lib.hid (fun v w (h : Ints .i64 w v m) => llest_any (2 + T) 0 v m w h)
      have C6 := Lib.hid (fun v w (h : Ints .i64 w v m) => llestr_any (2 + T) 0 v m w h)
      generalize llR (2 + T) m = R2 at *
      generalize llE (2 + T) m = E2 at *
      clear R7
      go_wp2_with fail
      refine (C5.out _ _ RI).mono ?_
      rintro e w8 ⟨rfl, g8⟩
      have c8 := c7.keep g8
      have RI8 := RI.grown g8
      have G8 := G7.trans' g8
      clear c70 c71 c72 c73 c7 g8 RI G7
      obtain ⟨c80, c81, c82, c83⟩ := c8.at3
      go_wp2_with fail
      refine (C6.out _ _ RI8).mono ?_
      rintro e w9 ⟨rfl, g9⟩
      go_wp2_with fail
      refine (KN.out _).mono ?_
      rintro e w10 ⟨rfl, g10⟩
      go_wp2
      go_ret
      exact ⟨rfl, below_of_grown ((G8.trans' g9).trans' g10)⟩
end Go.Proofs.Ythohjekfffebkaa
