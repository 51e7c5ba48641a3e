/- The walk of LoglogRegisters. Conditions: Go's ints. -/
import Derived.Test.YthohjekfffebkaaLlG
namespace Go.Proofs.Ythohjekfffebkaa
open Go.RowKit Go.ChangeShapes Go.WideShapes
set_option linter.unusedVariables false
set_option linter.unusedSimpArgs false
theorem mlL_snoc (a c : Int) (L : List (ByteArray × Int)) (x : ByteArray × Int) (hk : keyB x.1 = true) : mlL a c (L ++ [x]) = (mlL a c L).set (llI (mdP a) (i2u c) x.1) (max (gI (mlL a c L) (llI (mdP a) (i2u c) x.1)) (posK (mdP a) (i2u c) x.1)) := by
  unfold mlL
  rw [rkT_snoc, lgL_set (lli_lt (mdP_ok a).1 hk)]
theorem mlL_good (a c : Int) {L : List (ByteArray × Int)} (hL : ∀ x ∈ L, keyB x.1 = true) : ∀ x ∈ mlL a c L, 0 ≤ x ∧ x ≤ 65 - mdP a := by
  intro x hx
  simp only [mlL, lgL, List.mem_map] at hx
  obtain ⟨i, _, rfl⟩ := hx
  exact rkT_ok (mdP_ok a).1 hL i
set_option maxRecDepth 100000 in
set_option maxHeartbeats 3200000 in
theorem LoglogRegisters_walk (a0 a2 : Int) (v3 : Value) (l3 : List Int) (w : World) (h0 : (Lit.int .i64 a0).wf = true) (h2 : (Lit.int .i64 a2).wf = true) (h3 : Ints .i64 w v3 l3) (hb3 : l3.length * 8 ≤ 140737488351232) :
    Calls Try.prog 6 #[.int .i64 a0, .int .i64 a2, v3] w fun e w' => e = .returned (.bool true) ∧ Below w.heap.size w w' := by
  have b0 := bounds_i64 h0
  have b2 := bounds_i64 h2
  have KN := Lib.hid (fun w => knownll_any w)
  have hsz := (mdP_ok a0).1
  have hD := (mdP_ok a0).2
  have hD2 : 2 ≤ mdP a0 := hsz.1
  have hp2 := p2_in hsz
  have hsh := p2_sh hsz
  have C1 := Lib.hid (fun w => llnew_any (mdP a0) (i2u a2) w)
  rw [show lnI (mdP a0) (mdP a0) = mdP a0 from if_pos hsz, show lnI (mdP a0) (i2u a2) = i2u a2 from if_pos hsz, show lnE (mdP a0) = 0 from if_pos hsz, show lnL (mdP a0) = List.replicate (p2 (mdP a0)) 0 from if_pos hsz, ← mlL_nil a0 a2] at C1
  have hnil := mlL_nil a0 a2
  have hlen : ∀ L, (mlL a0 a2 L).length = p2 (mdP a0) := fun L => by unfold mlL; rw [length_lgL]
  have C2 := Lib.hid (fun L hL => mlinsC a0 a2 L hL)
  have HSN := Lib.hid (fun L x hk => mlL_snoc a0 a2 L x hk)
  have HGD := Lib.hid (fun L hL => mlL_good a0 a2 (L := L) hL)
  have HPI := Lib.hid (fun (key : ByteArray) hk => pos_in (z := i2u a2) (key := key) hsz hk)
  have HPE := Lib.hid (fun (key : ByteArray) hk => posE_ok (key := key) hsz hk)
  have CP := Lib.hid (fun (key : ByteArray) w hs => pos_any (mdP a0) (i2u a2) key w hs)
  have CI := Lib.hid (fun (x : Int) w => itm_any (bits BinOp.and IntKind.i64 x 65535) w (by unfold i64I; rw [and_mask x 16 (by omega) 65535 (by decide)]; omega))
  have eD : 2 + bits BinOp.and IntKind.i64 a0 3 = mdP a0 := rfl
  have eZ : IntKind.u64.wrap a2 = i2u a2 := rfl
  have bD : 0 ≤ bits BinOp.and IntKind.i64 a0 3 ∧ bits BinOp.and IntKind.i64 a0 3 ≤ 3 := by omega
  have HSZ := Lib.hid hsz
  generalize mlL a0 a2 = q at *
  generalize mdP a0 = D at *
  generalize i2u a2 = Z at *
  obtain ⟨N, hN⟩ : ∃ N, N = p2 D := ⟨_, rfl⟩
  rw [← hN] at hsh hp2 hnil hlen
  have HNN := Lib.hid hN
  have HSH := Lib.hid hsh
  have HNIL := Lib.hid hnil
  have HLEN := Lib.hid hlen
  obtain ⟨am, ea⟩ : ∃ m, bits BinOp.and IntKind.i64 a0 3 = m := ⟨_, rfl⟩
  rw [ea] at eD bD
  obtain ⟨av, cap, rfl, q1, q2, -, -⟩ := id h3
  unfold maxLen at q2
  have HV := Lib.hid h3
  obtain ⟨i0, hi, hz0, hz1', hz2'⟩ := info_parts Try.infoInt
  clear h0 h2 h3 hsz hN hsh hnil hlen
  go_enter Try.func6, Try.ntmps6
  go_wp2_with fail
  refine (C1.out _).mono ?_
  rintro e w1 ⟨u1, rfl, I1, f1, g1⟩
  obtain ⟨a1', k1, rfl, -, -, -, -⟩ := id I1
  go_wp2_with (at_make; go_loud (refine wpList_make_full _ rfl _ _ 24 rfl (w1.heap.size + 1) 3 i0 (.int .i64 0) 1 Try.underlying24 hi hz0 hz1' _ _ _ _ N rfl rfl HSH.out HSH.out ?c1 ?c2 ?c3 ?_))
  case c1 => rw [hz2']; omega
  case c2 => unfold maxLen; omega
  case c3 => simp
  intro w2 hown g2
  simp only [Value.cells, toList_madeCells_one] at hown
  have hz1 := g1.size
  have hz2 : w1.heap.size + 1 ≤ w2.heap.size := by simpa using g2.size
  have hq0 := HLEN.out []
  obtain ⟨gw, cw, hew, hgw, RW, hcw1, hcw2⟩ := row_of_own (k := .i64) (l := q []) (by rw [HNIL.out]; simpa using hown) (by omega)
  rw [hq0] at hew
  have hgwe : gw = w1.heap.size + 1 := by simp at hew; omega
  subst hgwe
  clear hown hew hq0
  have p1 := (Blk.new w1 _ _).keep g2
  have I2 := I1.grown ((grown_alloc _ _).trans' g2)
  have G2 := (g1.trans' (grown_alloc _ _)).trans' g2
  have hwl := RW.lt
  clear I1 g1 g2
  go_wp2_with fail
  go_loopw [11, 9] (fun i er wr => ∃ (k : Nat) (u : Value), k ≤ l3.length ∧ k ≤ 12 ∧ i = .int .i64 k ∧ er = .int .i64 0 ∧ Blk w1.heap.size #[.int .i64 D, .int .u64 Z, u] 26 wr ∧ Ints .i64 wr u (q ((l3.map itmOf).take k)) ∧ Row .i64 3 (w1.heap.size + 1) (q ((l3.map itmOf).take k)) wr ∧ Fresh w.heap.size u ∧ Two w1.heap.size (w1.heap.size + 1) w2 wr) (fun i _ _ => 12 - (intOf i).toNat)
  case atStart => exact ⟨0, .slice a1' (q []).length k1, by omega, by omega, rfl, rfl, p1, I2, RW, f1, Two.refl _ _ _⟩
  case round =>
    obtain ⟨k, u, hk, hk12, rfl, rfl, b2', I3, R3, fu, T3⟩ := hrel
    have G3 := T3.up G2 (by omega) (by omega)
    obtain ⟨au, ku, rfl, -, -, -, -⟩ := id I3
    have HQK := Lib.hid (HLEN.out ((l3.map itmOf).take k))
    have hzr := T3.size
    by_cases hcont : k < l3.length ∧ k < 12
    · obtain ⟨hlt, h12⟩ := hcont
      obtain ⟨bl, off, rfl, hbl, hcl⟩ := HV.out.at (by omega)
      have hck := kcell G3 (hcl k hlt) hbl
      have hkey := keyB_of (itmOf_ok (gI l3 k)).1
      have hsize := (itmOf_ok (gI l3 k)).1
      have C4 := C2.out ((l3.map itmOf).take k) (itms_key l3 k) (gI l3 k)
      have hsn := HSN.out ((l3.map itmOf).take k) (itmOf (gI l3 k)) hkey
      have hpi := HPI.out _ hkey
      have hpe := HPE.out _ hkey
      have hgd := HGD.out ((l3.map itmOf).take k) (itms_key l3 k)
      have CPP := fun w => CP.out (itmOf (gI l3 k)).1 w (by omega)
      rw [hpe] at CPP
      rw [← itms_snoc hlt] at C4 hsn
      have C3' := CI.out (gI l3 k)
      have hlI : llI D Z (itmOf (gI l3 k)).1 = (posR D Z (itmOf (gI l3 k)).1).toNat := rfl
      simp only [itmOf] at C4 hsn hpi CPP hlI
      generalize itmW (bits BinOp.and IntKind.i64 (gI l3 k) 65535) = wt at *
      generalize itmK (bits BinOp.and IntKind.i64 (gI l3 k) 65535) = ky at *
      generalize llI D Z ky = I at *
      generalize posR D Z ky = RR at *
      rw [← HNN.out] at hpi
      obtain rfl : RR = (I : Int) := by omega
      generalize posK D Z ky = K at *
      have CC := Lib.hid C3'
      have CD := Lib.hid C4
      have CQ := Lib.hid CPP
      have HS2 := Lib.hid hsn
      have HGI := Lib.hid hgd
      have hlt' : decide ((k : Int) < l3.length) = true := decide_eq_true (by omega)
      have h12' : decide ((k : Int) < 12) = true := decide_eq_true (by omega)
      have e1 : (k : Int) < l3.length := by omega
      have e2 : (0 : Int) ≤ k := by omega
      have e3 : (I : Int) < N := by omega
      have e4 : (0 : Int) ≤ I := by omega
      have hb2 := b2'.lt
      generalize q ((l3.map itmOf).take k) = qk at *
      clear C4 C3' hsn hgd CPP hlI hpe hcl
      obtain ⟨c10, c11, c12⟩ := b2'.ev3
      have gr := grown_refl wr
      have ga : ∀ (w : World) (o : Obj), w.grownBy (w.alloc o) none := grown_alloc
      go_wp2_with fail
      refine (CC.out _).mono ?_
      rintro e w4 ⟨rfl, g4⟩
      have I4 := I3.grown (g4.trans' (grown_alloc _ (Obj.cells #[.string ky, .int .i64 wt] 37)))
      have b4' := b2'.keep g4
      clear c10 c11 c12
      obtain ⟨c10, c11, c12⟩ := b4'.ev3
      go_wp2_with fail
      refine (CD.out _ _ I4).mono ?_
      rintro e w5 ⟨u5, rfl, I5, f5, g5⟩
      have x5 := (Blk.new w4 _ _).keep g5
      have b5 := b4'.keep ((grown_alloc _ _).trans' g5)
      have g45 := g4.trans' ((grown_alloc _ _).trans' g5)
      have hz4 := g4.size
      have hz5 := g5.size
      simp only [World.size_alloc] at hz5
      obtain ⟨a5, k5, rfl, -, -, -, -⟩ := id I5
      have f5' := f5.mono (show w4.heap.size ≤ _ by simp)
      clear c10 c11 c12 gr ga
      obtain ⟨c10, c11, c12, c15⟩ := b5.at3
      obtain ⟨x50, x51, x52⟩ := x5.at2
      have hne1 : w4.heap.size ≠ w1.heap.size := by omega
      have hne2 : w1.heap.size ≠ w4.heap.size := by omega
      go_wp2_with fail
      refine (CQ.out _).mono ?_
      rintro e w6 ⟨rfl, g6⟩
      have b6 : Blk w1.heap.size #[.int .i64 D, .int .u64 Z, .slice a5 (q ((l3.map itmOf).take (k + 1))).length k5] 26 w6 := (((b5.set 0 _).set 1 _).set 2 _).keep g6
      have T6 : Two w1.heap.size (w1.heap.size + 1) w2 w6 := ((((T3.grown g45).setp 0 _).setp 1 _).setp 2 _).grown g6
      have R6 : Row .i64 3 (w1.heap.size + 1) qk w6 := ((((R3.keep g45).set_ne 0 _ (by omega)).set_ne 1 _ (by omega)).set_ne 2 _ (by omega)).keep g6
      have I6 : Ints .i64 w6 (.slice a5 (q ((l3.map itmOf).take (k + 1))).length k5) (q ((l3.map itmOf).take (k + 1))) := (((I5.setF f5' _ (by omega)).setF f5' _ (by omega)).setF f5' _ (by omega)).grown g6
      have y1 := R6.cell (i := I) (by have := HQK.out; omega)
      have y2 := R6.froz I
      generalize hx : gI qk I = x at *
      have HX := Lib.hid hx
      clear hx c10 c11 c12 c15 x50 x51 x52 g6
      have hge : ¬ ((I : Int) ≥ N) := by omega
      have hlt0 : ¬ ((I : Int) < 0) := by omega
      go_wp2
      go_roundw
      case rel =>
        refine ⟨k + 1, .slice a5 (q ((l3.map itmOf).take (k + 1))).length k5, by omega, by omega, by go_num, rfl, b6.set_ne _ _ (by omega), ?_, ?_, f5'.mono (by have := G3.size; omega), T6.setq _ _⟩
        · exact I6.setF f5' _ (by omega)
        · have h9 := R6.set I (max x K)
          have hs := HS2.out
          rw [hs]
          exact h9
      case measure => simp [intOf]; omega
    · have htest : (¬ k < l3.length ∧ decide (k < l3.length) = false ∧ decide ((k : Int) < l3.length) = false) ∨ ((k < l3.length ∧ ¬ k < 12) ∧ (decide (k < l3.length) = true ∧ decide ((k : Int) < l3.length) = true) ∧ decide ((k : Int) < 12) = false) := by
        by_cases h : k < l3.length
        · exact .inr ⟨⟨h, by omega⟩, ⟨decide_eq_true h, decide_eq_true (by omega)⟩, decide_eq_false (by omega)⟩
        · exact .inl ⟨h, decide_eq_false h, decide_eq_false (by omega)⟩
      have hgd := HGD.out ((l3.map itmOf).take k) (itms_key l3 k)
      have RI := R3.ints (cap := N) (by have := HQK.out; omega) (by unfold maxLen; omega) (fun n hn => wf_reg HSZ.out (hgd n hn))
      rw [HQK.out] at RI
      have SI := Lib.hid (fun w' (g : wr.grownBy w' none) => sameints_any _ _ _ _ w' (I3.grown g) (RI.grown g))
      simp only [decide_true] at SI
      obtain ⟨c10, c11, c12⟩ := b2'.ev3
      have gr := grown_refl wr
      clear hcont hgd
      rcases htest with ⟨h0, h1, h2⟩ | ⟨⟨h0, h00⟩, ⟨h1, h3⟩, h2⟩
      all_goals
        go_wp2_with fail
        refine (SI.out _ (grown_refl _)).mono ?_
        rintro e w4 ⟨rfl, g4⟩
        go_wp2_with fail
        refine (KN.out _).mono ?_
        rintro e w5 ⟨rfl, g5⟩
        go_wp2
        go_ret
        exact ⟨rfl, below_of_grown ((G3.trans' g4).trans' g5)⟩
end Go.Proofs.Ythohjekfffebkaa
