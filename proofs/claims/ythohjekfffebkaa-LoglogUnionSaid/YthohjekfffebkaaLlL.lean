/- The walk of LoglogUnion. Conditions: Go's ints. -/
import Derived.Test.YthohjekfffebkaaLlK
namespace Go.Proofs.Ythohjekfffebkaa
open Go.RowKit Go.ChangeShapes Go.WideShapes
set_option linter.unusedVariables false
set_option linter.unusedSimpArgs false
theorem okT_two {p : Int} {X Y F : Nat → Int} (hF : F = fun i => max (X i) (Y i)) (hX : okT p X) (hY : okT p Y) : okT p F := by
  intro i
  have := hX i
  have := hY i
  rw [hF]
  show 0 ≤ max (X i) (Y i) ∧ max (X i) (Y i) ≤ 65 - p
  omega
theorem llmerge_F {p z : Int} {n : Nat} {X Y F : Nat → Int} (hF : F = fun i => max (X i) (Y i)) (u v : Value) (w : World) (hp : pOK p) (hn : n = p2 p) (hX : okT p X) (hY : okT p Y) (hu : Ints .i64 w u (lgL n X)) (hv : Ints .i64 w v (lgL n Y)) :
    Calls Try.prog 26 #[.agg #[.int .i64 p, .int .u64 z, u], .agg #[.int .i64 p, .int .u64 z, v]] w fun e w' => ∃ u, e = .returned (.tuple #[.agg #[.int .i64 p, .int .u64 z, u], .int .i64 0]) ∧ Ints .i64 w' u (lgL n F) ∧ Fresh w.heap.size u ∧ w.grownBy w' none := by
  subst hn
  have h1 : lmE p z (lgL (p2 p) X) p z (lgL (p2 p) Y) = 0 := by
    unfold lmE
    rw [if_neg (by rw [llE_can hp hX]; simp), if_neg (by rw [llE_can hp hY]; simp), if_neg (by simp)]
  have h2 : lmV p z (lgL (p2 p) X) p z (lgL (p2 p) Y) = lgL (p2 p) F := by
    unfold lmV
    rw [if_pos h1]
    refine ext_of_gI (by rw [length_mxL, length_lgL, length_lgL]) ?_
    intro i hi
    rw [length_mxL] at hi
    rw [gI_mxL hi]
    rw [length_lgL] at hi
    rw [gI_lgL hi, gI_lgL hi, gI_lgL hi, hF]
  have h := llmerge_any p z u _ p z v _ w hu hv
  have hI : ∀ y, lmI p z (lgL (p2 p) X) p z (lgL (p2 p) Y) y = y := fun y => by unfold lmI; rw [if_pos h1]
  rw [hI, hI, h1, h2] at h
  exact h
def alT (p z : Int) (X : Nat → Int) (L : List (ByteArray × Int)) : Nat → Int := fun i => max (X i) (rkT p z L i)
theorem alT_nil {p : Int} (z : Int) {X : Nat → Int} (hX : okT p X) : alT p z X [] = X := by funext i; have := hX i; show max (X i) 0 = X i; omega
theorem alT_snoc (p z : Int) (X : Nat → Int) (L : List (ByteArray × Int)) (x : ByteArray × Int) : alT p z X (L ++ [x]) = maxF (llI p z x.1) (posK p z x.1) (alT p z X L) := by
  unfold alT
  rw [rkT_snoc]
  funext i
  unfold maxF
  by_cases h : i = llI p z x.1
  · simp only [h, if_true]; omega
  · simp only [h, if_false]
theorem alT_ok {p : Int} {z : Int} {X : Nat → Int} {L : List (ByteArray × Int)} (hp : pOK p) (hX : okT p X) (hL : ∀ x ∈ L, keyB x.1 = true) : okT p (alT p z X L) := okT_two rfl hX (rkT_ok hp hL)
set_option maxRecDepth 100000 in
set_option maxHeartbeats 3200000 in
theorem LoglogUnion_walk (a0 a2 : Int) (v3 : Value) (l3 : List Int) (v4 : Value) (l4 : List Int) (v5 : Value) (l5 : List Int) (w : World) (h0 : (Lit.int .i64 a0).wf = true) (h2 : (Lit.int .i64 a2).wf = true) (h3 : Ints .i64 w v3 l3) (hb3 : l3.length * 8 ≤ 140737488351232) (h4 : Ints .i64 w v4 l4) (hb4 : l4.length * 8 ≤ 140737488351232) (h5 : Ints .i64 w v5 l5) (hb5 : l5.length * 8 ≤ 140737488351232) :
    Calls Try.prog 8 #[.int .i64 a0, .int .i64 a2, v3, v4, v5] w fun e w' => e = .returned (.bool true) ∧ Below w.heap.size w w' := by
  have b0 := bounds_i64 h0
  have b2 := bounds_i64 h2
  have KN := Lib.hid (fun w => knownll_any w)
  have MD := Lib.hid (fun v l w hv => madell_any a0 a2 v l w (by unfold i64I; omega) (by unfold i64I; omega) hv)
  unfold mlL at MD
  have hsz := (mdP_ok a0).1
  obtain ⟨n, hn⟩ : ∃ n, n = p2 (mdP a0) := ⟨_, rfl⟩
  rw [← hn] at MD
  obtain ⟨X, hX⟩ : ∃ X, X = rkT (mdP a0) (i2u a2) ((l3.map itmOf).take 9) := ⟨_, rfl⟩
  obtain ⟨Y, hY⟩ : ∃ Y, Y = rkT (mdP a0) (i2u a2) ((l4.map itmOf).take 9) := ⟨_, rfl⟩
  obtain ⟨Z, hZ⟩ : ∃ Z, Z = rkT (mdP a0) (i2u a2) ((l5.map itmOf).take 9) := ⟨_, rfl⟩
  have pX : okT (mdP a0) X := by rw [hX]; exact rkT_ok hsz (itms_key _ _)
  have pY : okT (mdP a0) Y := by rw [hY]; exact rkT_ok hsz (itms_key _ _)
  have pZ : okT (mdP a0) Z := by rw [hZ]; exact rkT_ok hsz (itms_key _ _)
  have MX := MD.out v3 l3
  have MY := MD.out v4 l4
  have MZ := MD.out v5 l5
  rw [← hX] at MX
  rw [← hY] at MY
  rw [← hZ] at MZ
  have HY := Lib.hid hY
  have PX := Lib.hid pX
  have PY := Lib.hid pY
  have PZ := Lib.hid pZ
  clear MD hX hY hZ pX pY pZ h0 h2
  generalize mdP a0 = D at *
  generalize i2u a2 = ZZ at *
  have HSZ := Lib.hid hsz
  have HNN := Lib.hid hn
  clear hsz hn
  have MX := Lib.hid MX
  have MY := Lib.hid MY
  have MZ := Lib.hid MZ
  obtain ⟨XY, hXY⟩ : ∃ F : Nat → Int, F = fun i => max (X i) (Y i) := ⟨_, rfl⟩
  obtain ⟨YZ, hYZ⟩ : ∃ F : Nat → Int, F = fun i => max (Y i) (Z i) := ⟨_, rfl⟩
  obtain ⟨XYZ, hXYZ⟩ : ∃ F : Nat → Int, F = fun i => max (X i) (YZ i) := ⟨_, rfl⟩
  have pXY := okT_two hXY PX.out PY.out
  have pYZ := okT_two hYZ PY.out PZ.out
  have M1 := Lib.hid (fun u v w hu hv => llmerge_F (z := ZZ) hXY u v w HSZ.out HNN.out PX.out PY.out hu hv)
  have M2 := Lib.hid (fun u v w hu hv => llmerge_F (z := ZZ) (F := XY) (by rw [hXY]; funext i; show max (X i) (Y i) = max (Y i) (X i); omega) u v w HSZ.out HNN.out PY.out PX.out hu hv)
  have M3 := Lib.hid (fun u v w hu hv => llmerge_F (z := ZZ) (F := XYZ) (X := XY) (Y := Z) (by rw [hXYZ, hXY, hYZ]; funext i; show max (X i) (max (Y i) (Z i)) = max (max (X i) (Y i)) (Z i); omega) u v w HSZ.out HNN.out pXY PZ.out hu hv)
  have M4 := Lib.hid (fun u v w hu hv => llmerge_F (z := ZZ) hYZ u v w HSZ.out HNN.out PY.out PZ.out hu hv)
  have M5 := Lib.hid (fun u v w hu hv => llmerge_F (z := ZZ) hXYZ u v w HSZ.out HNN.out PX.out pYZ hu hv)
  have M6 := Lib.hid (fun u v w hu hv => llmerge_F (z := ZZ) (F := XY) (X := XY) (Y := XY) (by funext i; show XY i = max (XY i) (XY i); omega) u v w HSZ.out HNN.out pXY pXY hu hv)
  have HE : Hid (∀ L, L = (l4.map itmOf).take 9 → alT D ZZ X L = XY) := fun L hL => by
    rw [hXY, hL]
    unfold alT
    rw [← HY.out]
  clear hXY hYZ hXYZ pXY pYZ
  have IN := Lib.hid (fun (T : Nat → Int) (hT : okT D T) (x : Int) u w (hu : Ints .i64 w u (lgL n T)) => llins_can (z := ZZ) (key := (itmOf x).1) (wt := (itmOf x).2) u w HSZ.out hT (itmOf_ok x).1 (itmOf_ok x).2 (by rw [← HNN.out]; exact hu))
  rw [← HNN.out] at IN
  have CI := Lib.hid (fun (x : Int) w => itm_any (bits BinOp.and IntKind.i64 x 65535) w (by unfold i64I; rw [and_mask x 16 (by omega) 65535 (by decide)]; omega))
  obtain ⟨c3, k3, rfl, -, -, -, -⟩ := id h3
  obtain ⟨c4, k4, rfl, q1, q2, q3, q4⟩ := id h4
  obtain ⟨c5, k5, rfl, -, -, -, -⟩ := id h5
  unfold maxLen at q2
  have H3 := Lib.hid h3
  have H4 := Lib.hid h4
  have H5 := Lib.hid h5
  clear h3 h4 h5 q3 q4
  go_enter Try.func8, Try.ntmps8
  go_wp2_with fail
  refine (MX.out _ H3.out).mono ?_
  rintro e w1 ⟨v1, rfl, I1, g1⟩
  obtain ⟨x1, y1, rfl, -, -, -, -⟩ := id I1
  go_wp2_with fail
  refine (MY.out _ (H4.out.grown g1)).mono ?_
  rintro e w2 ⟨v2, rfl, I2, g2⟩
  obtain ⟨x2, y2, rfl, -, -, -, -⟩ := id I2
  go_wp2_with fail
  refine (MZ.out _ (H5.out.grown (g1.trans' g2))).mono ?_
  rintro e w3 ⟨v3, rfl, I3, g3⟩
  obtain ⟨x3, y3, rfl, -, -, -, -⟩ := id I3
  have J1 := I1.grown (g2.trans' g3)
  have J2 := I2.grown g3
  have G3 := (g1.trans' g2).trans' g3
  clear I1 I2
  go_wp2_with fail
  refine wAbs (P := fun w' => Blk (w3.heap.size) #[.int .i64 D, .int .u64 ZZ, .slice x1 (lgL n X).length y1] 26 w' ∧ Blk (w3.heap.size + 1) #[.int .i64 D, .int .u64 ZZ, .slice x2 (lgL n Y).length y2] 26 w' ∧ Blk (w3.heap.size + 2) #[.int .i64 D, .int .u64 ZZ, .slice x3 (lgL n Z).length y3] 26 w' ∧ Blk (w3.heap.size + 3) #[.int .i64 D, .int .u64 ZZ, .slice x1 (lgL n X).length y1] 26 w' ∧ w3.grownBy w' none) ⟨(((Blk.new w3 _ _).keep (grown_alloc _ _)).keep (grown_alloc _ _)).keep (grown_alloc _ _), ((Blk.newAt (w3.alloc _) (w3.heap.size + 1) _ _ (by simp)).keep (grown_alloc _ _)).keep (grown_alloc _ _), (Blk.newAt ((w3.alloc _).alloc _) (w3.heap.size + 2) _ _ (by simp)).keep (grown_alloc _ _), Blk.newAt (((w3.alloc _).alloc _).alloc _) (w3.heap.size + 3) _ _ (by simp), (((grown_alloc w3 _).trans' (grown_alloc _ _)).trans' (grown_alloc _ _)).trans' (grown_alloc _ _)⟩ ?_
  rintro w4 ⟨p1, p2, p3, p4, g4⟩
  have hz4 := p4.lt
  have K1 := J1.grown g4
  have GG := G3.trans' g4
  have HJ1 := Lib.hid J1
  have HJ2 := Lib.hid J2
  have HJ3 := Lib.hid I3
  have HG4 := Lib.hid g4
  clear J1 J2 I3 g1 g2 g3 g4
  go_loopw [16, 15] (fun i ok wr => ∃ (k : Nat) (u : Value), k ≤ l4.length ∧ k ≤ 9 ∧ i = .int .i64 k ∧ ok = .bool true ∧ Blk (w3.heap.size + 3) #[.int .i64 D, .int .u64 ZZ, u] 26 wr ∧ Ints .i64 wr u (lgL n (alT D ZZ X ((l4.map itmOf).take k))) ∧ Two (w3.heap.size + 3) (w3.heap.size + 3) w4 wr) (fun i _ _ => 9 - (intOf i).toNat)
  case atStart =>
    refine ⟨0, .slice x1 (lgL n X).length y1, by omega, by omega, rfl, rfl, p4, ?_, Two.refl _ _ _⟩
    rw [List.take_zero, alT_nil _ PX.out]; exact K1
  case round =>
    obtain ⟨k, u, hk, hk7, rfl, rfl, b2, I2, T2⟩ := hrel
    have G2 := T2.up GG (by have := w3.heap.size; have := GG.size; have := G3.size; omega) (by have := G3.size; omega)
    by_cases hcont : k < l4.length ∧ k < 9
    · obtain ⟨hlt, h7⟩ := hcont
      obtain ⟨bl, off, rfl, hbl, hcl⟩ := H4.out.at (by omega)
      have hck := hcl k hlt
      have C3 := CI.out (gI l4 k)
      have hpos := alT_ok (z := ZZ) HSZ.out PX.out (itms_key l4 k)
      have C4 := IN.out (alT D ZZ X ((l4.map itmOf).take k)) hpos (gI l4 k)
      rw [← alT_snoc, ← itms_snoc hlt] at C4
      simp only [itmOf] at C4
      have CC := Lib.hid C3
      have CD := Lib.hid C4
      have hlt' : decide ((k : Int) < l4.length) = true := decide_eq_true (by omega)
      have h7' : decide ((k : Int) < 9) = true := decide_eq_true (by omega)
      obtain ⟨au, ku, rfl, -, -, -, -⟩ := id I2
      have hzr := T2.size
      have hb2 := b2.lt
      generalize lgL n (alT D ZZ X ((l4.map itmOf).take k)) = qk at *
      clear C3 C4 hpos hcl
      have e1 : (k : Int) < l4.length := by omega
      have e2 : (0 : Int) ≤ k := by omega
      have hck' := kcell G2 hck hbl
      have hbr : bl < wr.heap.size := by have := G2.size; omega
      obtain ⟨c10, c11, c12, c13⟩ := b2.at3
      have f0 : ∀ w' : World, wr.grownBy w' none → w'.cell? ⟨w3.heap.size + 3, 0, none⟩ = some (.int .i64 D) := fun w' g => (b2.keep g).at3.1
      have f1 : ∀ w' : World, wr.grownBy w' none → w'.cell? ⟨w3.heap.size + 3, 1, none⟩ = some (.int .u64 ZZ) := fun w' g => (b2.keep g).at3.2.1
      have f3 : ∀ w' : World, wr.grownBy w' none → w'.cell? ⟨w3.heap.size + 3, 2, none⟩ = some (.slice au qk.length ku) := fun w' g => (b2.keep g).at3.2.2.1
      have fx : ∀ w' : World, wr.grownBy w' none → w'.cell? ⟨bl, off + k, none⟩ = some (.int .i64 (gI l4 k)) := fun w' g => kcell g hck' hbr
      have G0 := grown_drew1 wr
      go_wp2_with fail
      refine wp_region_scr (.take 0 (.take 1 (.take 2 (.take 3 (.take 4 (.take 5 (.two 6 (.two 7 (.take 8 (.take 9 (.take 10 (.run 11 (.run 12 (.take 13 .stop)))))) 11 (.run 7 (.take 8 (.take 9 (.take 10 (.run 12 (.take 13 .stop))))))) 11 (.run 6 (.run 7 (.take 8 (.take 9 (.take 10 (.run 12 (.take 13 .stop)))))))))))))) (fun w' => wr.grownBy w' none) (by kernel_rfl) (by kernel_rfl) (by kernel_rfl) G0 ?_
      repeat (first
        | ((refine scr_skip (by rfl) (by rfl) ?_); (try simp only [Act.put, List.setIfInBounds_toArray, List.set_cons_zero, List.set_cons_succ]))
        | ((refine scr_take (by rfl) ?_ (by rfl) ?_ ?_); rotate_left; (focus (intro w' hS; go_simp; first | done | with_reducible rfl)); (try simp only [Act.put, List.setIfInBounds_toArray, List.set_cons_zero, List.set_cons_succ])))
      refine scr_two ?_ ?_
      · refine scr_run (by rfl) (by rfl) ?_
        intro K hK
        go_simp
        refine (CC.out _).mono ?_
        rintro e w5 ⟨rfl, g5⟩
        refine hK _ _ (G0.trans' g5) ?_
        clear hK K
        try simp only [Act.put, List.setIfInBounds_toArray, List.set_cons_zero, List.set_cons_succ]
        have G5 := G0.trans' g5
        refine scr_two ?_ ?_
        · refine scr_run (by rfl) (by rfl) ?_
          intro K hK
          go_simp
          refine (CD.out _ _ (I2.grown (G5))).mono ?_
          rintro e w6 ⟨u6, rfl, I6, f6, g6⟩
          obtain ⟨a6, k6, rfl, -, -, -, -⟩ := id I6
          refine hK _ _ (G5.trans' g6) ?_
          clear hK K
          try simp only [Act.put, List.setIfInBounds_toArray, List.set_cons_zero, List.set_cons_succ]
          have G6 := G5.trans' g6
          have hz6 := G6.size
          have hz5 := G5.size
          have f6' := f6.mono (show wr.heap.size ≤ _ by simpa using hz5)
          repeat (first
            | ((refine scr_skip (by rfl) (by rfl) ?_); (try simp only [Act.put, List.setIfInBounds_toArray, List.set_cons_zero, List.set_cons_succ]))
            | ((refine scr_take (by rfl) ?_ (by rfl) ?_ ?_); rotate_left; (focus (intro w' hS; go_simp; first | done | with_reducible rfl)); (try simp only [Act.put, List.setIfInBounds_toArray, List.set_cons_zero, List.set_cons_succ])))
          refine scr_run (by rfl) (by rfl) ?_
          intro K hK
          go_simp
          refine hK _ _ (G6.trans' (grown_alloc _ _)) ?_
          clear hK K
          try simp only [Act.put, List.setIfInBounds_toArray, List.set_cons_zero, List.set_cons_succ]
          obtain ⟨q10, q11, q12, q13⟩ := (Blk.new w6 #[.int .i64 0, .int .u64 0, .slice none 0 0] 26).at3
          refine scr_run (by rfl) (by rfl) ?_
          intro K hK
          go_simp
          refine hK _ _ ?_ ?_
          · repeat (with_reducible refine grown_set ?_ _ (by omega))
            exact G6.trans' (grown_alloc _ _)
          clear hK K
          try simp only [Act.put, List.setIfInBounds_toArray, List.set_cons_zero, List.set_cons_succ]
          clear q10 q11 q12 q13
          have q10 := 0
          have q11 := 0
          have q12 := 0
          have q13 := 0
          repeat (first
            | ((refine scr_skip (by rfl) (by rfl) ?_); (try simp only [Act.put, List.setIfInBounds_toArray, List.set_cons_zero, List.set_cons_succ]))
            | ((refine scr_take (by rfl) ?_ (by rfl) ?_ ?_); rotate_left; (focus (intro w' hS; go_simp; first | done | with_reducible rfl)); (try simp only [Act.put, List.setIfInBounds_toArray, List.set_cons_zero, List.set_cons_succ])))
          refine scr_stop ?_
          refine wAbs (P := fun w' => wr.grownBy w' none ∧ Ints .i64 w' (.slice a6 (lgL n (alT D ZZ X ((l4.map itmOf).take (k + 1)))).length k6) (lgL n (alT D ZZ X ((l4.map itmOf).take (k + 1)))) ∧ Blk (w6.heap.size) #[.int .i64 D, .int .u64 ZZ, .slice a6 (lgL n (alT D ZZ X ((l4.map itmOf).take (k + 1)))).length k6] 26 w') ⟨?_, ?_, ?_⟩ ?_
          · repeat (with_reducible refine grown_set ?_ _ (by omega))
            exact G6.trans' (grown_alloc _ _)
          · repeat (with_reducible refine Ints.setF ?_ f6' _ (by omega))
            exact I6.grown (grown_alloc _ _)
          · exact Blk.new _ _ _
          clear q10 q11 q12 q13 f0 f1 f3 fx c10 c11 c12 c13
          rintro w7 ⟨g7, I7, b7⟩
          obtain ⟨q70, q71, q72, q73⟩ := b7.at3
          have b8 := b2.keep g7
          obtain ⟨r70, r71, r72, r73⟩ := b8.at3
          go_wp2
          go_roundw
          case rel =>
            refine ⟨k + 1, .slice a6 (lgL n (alT D ZZ X ((l4.map itmOf).take (k + 1)))).length k6, by omega, by omega, by go_num, rfl, ((b8.set 0 _).set 1 _).set 2 _, ?_, (((T2.grown g7).setp 0 _).setp 1 _).setp 2 _⟩
            repeat (with_reducible refine Ints.setF ?_ f6' _ (by omega))
            exact I7
          case measure => simp [intOf]; omega
        · refine scr_run (by rfl) (by rfl) ?_
          intro K hK
          go_simp
          refine hK _ _ (G5.trans' (grown_alloc _ _)) ?_
          clear hK K
          try simp only [Act.put, List.setIfInBounds_toArray, List.set_cons_zero, List.set_cons_succ]
          refine scr_run (by rfl) (by rfl) ?_
          intro K hK
          go_simp
          refine (CD.out _ _ (I2.grown (G5.trans' (grown_alloc _ _)))).mono ?_
          rintro e w6 ⟨u6, rfl, I6, f6, g6⟩
          obtain ⟨a6, k6, rfl, -, -, -, -⟩ := id I6
          refine hK _ _ ((G5.trans' (grown_alloc _ _)).trans' g6) ?_
          clear hK K
          try simp only [Act.put, List.setIfInBounds_toArray, List.set_cons_zero, List.set_cons_succ]
          have G6 := (G5.trans' (grown_alloc _ _)).trans' g6
          have hz6 := g6.size
          simp only [World.size_alloc] at hz6
          have hz5 := G5.size
          have f6a := f6.mono (show w5.heap.size + 1 ≤ _ by simp)
          have f6' := f6.mono (show wr.heap.size ≤ _ by simp; omega)
          have k6b := (Blk.new w5 #[.int .i64 0, .int .u64 0, .slice none 0 0] 26).keep g6
          repeat (first
            | ((refine scr_skip (by rfl) (by rfl) ?_); (try simp only [Act.put, List.setIfInBounds_toArray, List.set_cons_zero, List.set_cons_succ]))
            | ((refine scr_take (by rfl) ?_ (by rfl) ?_ ?_); rotate_left; (focus (intro w' hS; go_simp; first | done | with_reducible rfl)); (try simp only [Act.put, List.setIfInBounds_toArray, List.set_cons_zero, List.set_cons_succ])))
          obtain ⟨q10, q11, q12, q13⟩ := k6b.at3
          refine scr_run (by rfl) (by rfl) ?_
          intro K hK
          go_simp
          refine hK _ _ ?_ ?_
          · repeat (with_reducible refine grown_set ?_ _ (by omega))
            exact G6
          clear hK K
          try simp only [Act.put, List.setIfInBounds_toArray, List.set_cons_zero, List.set_cons_succ]
          repeat (first
            | ((refine scr_skip (by rfl) (by rfl) ?_); (try simp only [Act.put, List.setIfInBounds_toArray, List.set_cons_zero, List.set_cons_succ]))
            | ((refine scr_take (by rfl) ?_ (by rfl) ?_ ?_); rotate_left; (focus (intro w' hS; go_simp; first | done | with_reducible rfl)); (try simp only [Act.put, List.setIfInBounds_toArray, List.set_cons_zero, List.set_cons_succ])))
          refine scr_stop ?_
          refine wAbs (P := fun w' => wr.grownBy w' none ∧ Ints .i64 w' (.slice a6 (lgL n (alT D ZZ X ((l4.map itmOf).take (k + 1)))).length k6) (lgL n (alT D ZZ X ((l4.map itmOf).take (k + 1)))) ∧ Blk (w5.heap.size) #[.int .i64 D, .int .u64 ZZ, .slice a6 (lgL n (alT D ZZ X ((l4.map itmOf).take (k + 1)))).length k6] 26 w') ⟨?_, ?_, ?_⟩ ?_
          · repeat (with_reducible refine grown_set ?_ _ (by omega))
            exact G6
          · repeat (with_reducible refine Ints.setF ?_ f6a _ (by omega))
            exact I6
          · exact ((k6b.set 0 _).set 1 _).set 2 _
          clear q10 q11 q12 q13 f0 f1 f3 fx c10 c11 c12 c13
          rintro w7 ⟨g7, I7, b7⟩
          obtain ⟨q70, q71, q72, q73⟩ := b7.at3
          have b8 := b2.keep g7
          obtain ⟨r70, r71, r72, r73⟩ := b8.at3
          go_wp2
          go_roundw
          case rel =>
            refine ⟨k + 1, .slice a6 (lgL n (alT D ZZ X ((l4.map itmOf).take (k + 1)))).length k6, by omega, by omega, by go_num, rfl, ((b8.set 0 _).set 1 _).set 2 _, ?_, (((T2.grown g7).setp 0 _).setp 1 _).setp 2 _⟩
            repeat (with_reducible refine Ints.setF ?_ f6' _ (by omega))
            exact I7
          case measure => simp [intOf]; omega
      · refine scr_run (by rfl) (by rfl) ?_
        intro K hK
        go_simp
        refine hK _ _ (G0.trans' (grown_alloc _ _)) ?_
        clear hK K
        try simp only [Act.put, List.setIfInBounds_toArray, List.set_cons_zero, List.set_cons_succ]
        refine scr_run (by rfl) (by rfl) ?_
        intro K hK
        go_simp
        refine (CC.out _).mono ?_
        rintro e w5 ⟨rfl, g5⟩
        refine hK _ _ ((G0.trans' (grown_alloc _ _)).trans' g5) ?_
        clear hK K
        try simp only [Act.put, List.setIfInBounds_toArray, List.set_cons_zero, List.set_cons_succ]
        have G5 := (G0.trans' (grown_alloc _ _)).trans' g5
        refine scr_run (by rfl) (by rfl) ?_
        intro K hK
        go_simp
        refine (CD.out _ _ (I2.grown (G5))).mono ?_
        rintro e w6 ⟨u6, rfl, I6, f6, g6⟩
        obtain ⟨a6, k6, rfl, -, -, -, -⟩ := id I6
        refine hK _ _ (G5.trans' g6) ?_
        clear hK K
        try simp only [Act.put, List.setIfInBounds_toArray, List.set_cons_zero, List.set_cons_succ]
        have G6 := G5.trans' g6
        have hz6 := g6.size
        have hz5 := g5.size
        simp only [World.size_alloc, World.size_drew] at hz5
        have f6a := f6.mono (show wr.heap.size + 1 ≤ _ by omega)
        have f6' := f6.mono (show wr.heap.size ≤ _ by omega)
        have k6b := ((Blk.newAt wr.drew wr.heap.size #[.int .i64 0, .int .u64 0, .slice none 0 0] 26 rfl).keep g5).keep g6
        repeat (first
          | ((refine scr_skip (by rfl) (by rfl) ?_); (try simp only [Act.put, List.setIfInBounds_toArray, List.set_cons_zero, List.set_cons_succ]))
          | ((refine scr_take (by rfl) ?_ (by rfl) ?_ ?_); rotate_left; (focus (intro w' hS; go_simp; first | done | with_reducible rfl)); (try simp only [Act.put, List.setIfInBounds_toArray, List.set_cons_zero, List.set_cons_succ])))
        obtain ⟨q10, q11, q12, q13⟩ := k6b.at3
        refine scr_run (by rfl) (by rfl) ?_
        intro K hK
        go_simp
        refine hK _ _ ?_ ?_
        · repeat (with_reducible refine grown_set ?_ _ (by omega))
          exact G6
        clear hK K
        try simp only [Act.put, List.setIfInBounds_toArray, List.set_cons_zero, List.set_cons_succ]
        repeat (first
          | ((refine scr_skip (by rfl) (by rfl) ?_); (try simp only [Act.put, List.setIfInBounds_toArray, List.set_cons_zero, List.set_cons_succ]))
          | ((refine scr_take (by rfl) ?_ (by rfl) ?_ ?_); rotate_left; (focus (intro w' hS; go_simp; first | done | with_reducible rfl)); (try simp only [Act.put, List.setIfInBounds_toArray, List.set_cons_zero, List.set_cons_succ])))
        refine scr_stop ?_
        refine wAbs (P := fun w' => wr.grownBy w' none ∧ Ints .i64 w' (.slice a6 (lgL n (alT D ZZ X ((l4.map itmOf).take (k + 1)))).length k6) (lgL n (alT D ZZ X ((l4.map itmOf).take (k + 1)))) ∧ Blk (wr.heap.size) #[.int .i64 D, .int .u64 ZZ, .slice a6 (lgL n (alT D ZZ X ((l4.map itmOf).take (k + 1)))).length k6] 26 w') ⟨?_, ?_, ?_⟩ ?_
        · repeat (with_reducible refine grown_set ?_ _ (by omega))
          exact G6
        · repeat (with_reducible refine Ints.setF ?_ f6a _ (by omega))
          exact I6
        · exact ((k6b.set 0 _).set 1 _).set 2 _
        clear q10 q11 q12 q13 f0 f1 f3 fx c10 c11 c12 c13
        rintro w7 ⟨g7, I7, b7⟩
        obtain ⟨q70, q71, q72, q73⟩ := b7.at3
        have b8 := b2.keep g7
        obtain ⟨r70, r71, r72, r73⟩ := b8.at3
        go_wp2
        go_roundw
        case rel =>
          refine ⟨k + 1, .slice a6 (lgL n (alT D ZZ X ((l4.map itmOf).take (k + 1)))).length k6, by omega, by omega, by go_num, rfl, ((b8.set 0 _).set 1 _).set 2 _, ?_, (((T2.grown g7).setp 0 _).setp 1 _).setp 2 _⟩
          repeat (with_reducible refine Ints.setF ?_ f6' _ (by omega))
          exact I7
        case measure => simp [intOf]; omega
    · have hend : (l4.map itmOf).take k = (l4.map itmOf).take 9 := by
        by_cases h : k < l4.length
        · rw [show k = 9 by omega]
        · exact (itms_end (by omega) hk7).symm
      rw [HE.out _ hend] at I2
      clear hend
      have htest : (¬ k < l4.length ∧ decide (k < l4.length) = false ∧ decide ((k : Int) < l4.length) = false) ∨ ((k < l4.length ∧ ¬ k < 9) ∧ (decide (k < l4.length) = true ∧ decide ((k : Int) < l4.length) = true) ∧ decide ((k : Int) < 9) = false) := by
        by_cases h : k < l4.length
        · exact .inr ⟨⟨h, by omega⟩, ⟨decide_eq_true h, decide_eq_true (by omega)⟩, decide_eq_false (by omega)⟩
        · exact .inl ⟨h, decide_eq_false h, decide_eq_false (by omega)⟩
      obtain ⟨au, ku, rfl, -, -, -, -⟩ := id I2
      have hz3 := GG.size
      have TU := T2.up HG4.out (by omega) (by omega)
      have J1 := HJ1.out.grown TU
      have J2 := HJ2.out.grown TU
      have J3 := HJ3.out.grown TU
      have X1 := p1.two T2 (by omega) (by omega)
      have X2 := p2.two T2 (by omega) (by omega)
      have X3 := p3.two T2 (by omega) (by omega)
      have ga : ∀ (w : World) (o : Obj), w.grownBy (w.alloc o) none := grown_alloc
      have gr := grown_refl wr
      clear hcont
      rcases htest with ⟨h0, h1, h2⟩ | ⟨⟨h0, h00⟩, ⟨h1, h3⟩, h2⟩
      all_goals
        obtain ⟨f0x0, f0x1, f0x2⟩ := X1.ev3
        obtain ⟨f0y0, f0y1, f0y2⟩ := X2.ev3
        go_wp2_with fail
        refine (M1.out _ _ _ (J1) (J2)).mono ?_
        rintro e n0 ⟨u0, rfl, N0, -, g0⟩
        obtain ⟨xa0, xk0, rfl, -, -, -, -⟩ := id N0
        clear f0x0 f0x1 f0x2 f0y0 f0y1 f0y2
        have B0x := X1.keep g0
        have B0y := X2.keep g0
        have B0z := X3.keep g0
        have B0all := b2.keep g0
        have L0x := J1.grown g0
        have L0y := J2.grown g0
        have L0z := J3.grown g0
        have L0all := I2.grown g0
        have GG0 := G2.trans' g0
        obtain ⟨f1y0, f1y1, f1y2⟩ := B0y.ev3
        obtain ⟨f1x0, f1x1, f1x2⟩ := B0x.ev3
        go_wp2_with fail
        refine (M2.out _ _ _ (L0y.grown (grown_alloc _ _)) (L0x.grown (grown_alloc _ _))).mono ?_
        rintro e n1 ⟨u1, rfl, N1, -, g1⟩
        obtain ⟨xa1, xk1, rfl, -, -, -, -⟩ := id N1
        clear f1y0 f1y1 f1y2 f1x0 f1x1 f1x2
        have B1x := B0x.keep ((grown_alloc _ _).trans' g1)
        have B1y := B0y.keep ((grown_alloc _ _).trans' g1)
        have B1z := B0z.keep ((grown_alloc _ _).trans' g1)
        have B1all := B0all.keep ((grown_alloc _ _).trans' g1)
        have L1x := L0x.grown ((grown_alloc _ _).trans' g1)
        have L1y := L0y.grown ((grown_alloc _ _).trans' g1)
        have L1z := L0z.grown ((grown_alloc _ _).trans' g1)
        have L1all := L0all.grown ((grown_alloc _ _).trans' g1)
        have L1p := N0.grown ((grown_alloc _ _).trans' g1)
        have B1p := (Blk.new n0 _ _).keep g1
        have GG1 := GG0.trans' ((grown_alloc _ _).trans' g1)
        obtain ⟨f2p0, f2p1, f2p2⟩ := B1p.ev3
        obtain ⟨f2z0, f2z1, f2z2⟩ := B1z.ev3
        go_wp2_with fail
        refine (M3.out _ _ _ (L1p.grown (grown_alloc _ _)) (L1z.grown (grown_alloc _ _))).mono ?_
        rintro e n2 ⟨u2, rfl, N2, -, g2⟩
        obtain ⟨xa2, xk2, rfl, -, -, -, -⟩ := id N2
        clear f2p0 f2p1 f2p2 f2z0 f2z1 f2z2
        have B2x := B1x.keep ((grown_alloc _ _).trans' g2)
        have B2y := B1y.keep ((grown_alloc _ _).trans' g2)
        have B2z := B1z.keep ((grown_alloc _ _).trans' g2)
        have B2all := B1all.keep ((grown_alloc _ _).trans' g2)
        have B2p := B1p.keep ((grown_alloc _ _).trans' g2)
        have L2x := L1x.grown ((grown_alloc _ _).trans' g2)
        have L2y := L1y.grown ((grown_alloc _ _).trans' g2)
        have L2z := L1z.grown ((grown_alloc _ _).trans' g2)
        have L2all := L1all.grown ((grown_alloc _ _).trans' g2)
        have L2p := L1p.grown ((grown_alloc _ _).trans' g2)
        have L2q := N1.grown ((grown_alloc _ _).trans' g2)
        have B2q := (Blk.new n1 _ _).keep g2
        have GG2 := GG1.trans' ((grown_alloc _ _).trans' g2)
        obtain ⟨f3y0, f3y1, f3y2⟩ := B2y.ev3
        obtain ⟨f3z0, f3z1, f3z2⟩ := B2z.ev3
        go_wp2_with fail
        refine (M4.out _ _ _ (L2y.grown (grown_alloc _ _)) (L2z.grown (grown_alloc _ _))).mono ?_
        rintro e n3 ⟨u3, rfl, N3, -, g3⟩
        obtain ⟨xa3, xk3, rfl, -, -, -, -⟩ := id N3
        clear f3y0 f3y1 f3y2 f3z0 f3z1 f3z2
        have B3x := B2x.keep ((grown_alloc _ _).trans' g3)
        have B3y := B2y.keep ((grown_alloc _ _).trans' g3)
        have B3z := B2z.keep ((grown_alloc _ _).trans' g3)
        have B3all := B2all.keep ((grown_alloc _ _).trans' g3)
        have B3p := B2p.keep ((grown_alloc _ _).trans' g3)
        have B3q := B2q.keep ((grown_alloc _ _).trans' g3)
        have L3x := L2x.grown ((grown_alloc _ _).trans' g3)
        have L3y := L2y.grown ((grown_alloc _ _).trans' g3)
        have L3z := L2z.grown ((grown_alloc _ _).trans' g3)
        have L3all := L2all.grown ((grown_alloc _ _).trans' g3)
        have L3p := L2p.grown ((grown_alloc _ _).trans' g3)
        have L3q := L2q.grown ((grown_alloc _ _).trans' g3)
        have L3r := N2.grown ((grown_alloc _ _).trans' g3)
        have B3r := (Blk.new n2 _ _).keep g3
        have GG3 := GG2.trans' ((grown_alloc _ _).trans' g3)
        obtain ⟨f4x0, f4x1, f4x2⟩ := B3x.ev3
        go_wp2_with fail
        refine (M5.out _ _ _ (L3x.grown (grown_alloc _ _)) (N3.grown (grown_alloc _ _))).mono ?_
        rintro e n4 ⟨u4, rfl, N4, -, g4⟩
        obtain ⟨xa4, xk4, rfl, -, -, -, -⟩ := id N4
        clear f4x0 f4x1 f4x2
        have B4x := B3x.keep ((grown_alloc _ _).trans' g4)
        have B4y := B3y.keep ((grown_alloc _ _).trans' g4)
        have B4z := B3z.keep ((grown_alloc _ _).trans' g4)
        have B4all := B3all.keep ((grown_alloc _ _).trans' g4)
        have B4p := B3p.keep ((grown_alloc _ _).trans' g4)
        have B4q := B3q.keep ((grown_alloc _ _).trans' g4)
        have B4r := B3r.keep ((grown_alloc _ _).trans' g4)
        have L4x := L3x.grown ((grown_alloc _ _).trans' g4)
        have L4y := L3y.grown ((grown_alloc _ _).trans' g4)
        have L4z := L3z.grown ((grown_alloc _ _).trans' g4)
        have L4all := L3all.grown ((grown_alloc _ _).trans' g4)
        have L4p := L3p.grown ((grown_alloc _ _).trans' g4)
        have L4q := L3q.grown ((grown_alloc _ _).trans' g4)
        have L4r := L3r.grown ((grown_alloc _ _).trans' g4)
        have L4s := N3.grown ((grown_alloc _ _).trans' g4)
        have B4s := (Blk.new n3 _ _).keep g4
        have GG4 := GG3.trans' ((grown_alloc _ _).trans' g4)
        obtain ⟨f5p0, f5p1, f5p2⟩ := B4p.ev3
        go_wp2_with fail
        refine (M6.out _ _ _ (L4p.grown (grown_alloc _ _)) (L4p.grown (grown_alloc _ _))).mono ?_
        rintro e n5 ⟨u5, rfl, N5, -, g5⟩
        obtain ⟨xa5, xk5, rfl, -, -, -, -⟩ := id N5
        clear f5p0 f5p1 f5p2
        have B5x := B4x.keep ((grown_alloc _ _).trans' g5)
        have B5y := B4y.keep ((grown_alloc _ _).trans' g5)
        have B5z := B4z.keep ((grown_alloc _ _).trans' g5)
        have B5all := B4all.keep ((grown_alloc _ _).trans' g5)
        have B5p := B4p.keep ((grown_alloc _ _).trans' g5)
        have B5q := B4q.keep ((grown_alloc _ _).trans' g5)
        have B5r := B4r.keep ((grown_alloc _ _).trans' g5)
        have B5s := B4s.keep ((grown_alloc _ _).trans' g5)
        have L5x := L4x.grown ((grown_alloc _ _).trans' g5)
        have L5y := L4y.grown ((grown_alloc _ _).trans' g5)
        have L5z := L4z.grown ((grown_alloc _ _).trans' g5)
        have L5all := L4all.grown ((grown_alloc _ _).trans' g5)
        have L5p := L4p.grown ((grown_alloc _ _).trans' g5)
        have L5q := L4q.grown ((grown_alloc _ _).trans' g5)
        have L5r := L4r.grown ((grown_alloc _ _).trans' g5)
        have L5s := L4s.grown ((grown_alloc _ _).trans' g5)
        have L5t := N4.grown ((grown_alloc _ _).trans' g5)
        have B5t := (Blk.new n4 _ _).keep g5
        have GG5 := GG4.trans' ((grown_alloc _ _).trans' g5)
        obtain ⟨hp0, hp1, hp2⟩ := B5p.ev3
        obtain ⟨hall0, hall1, hall2⟩ := B5all.ev3
        go_wp2_with fail
        refine (samell_eq _ _ _ _ _ _ (L5p.grown (grown_alloc _ _)) (L5all.grown (grown_alloc _ _))).mono ?_
        rintro e m1 ⟨rfl, gm1⟩
        clear hp0 hp1 hp2 hall0 hall1 hall2
        have B9u := (Blk.new n5 _ _).keep gm1
        have S1 := (grown_alloc n5 _).trans' gm1
        have B9q := B5q.keep S1
        have B9all := B5all.keep S1
        have B9r := B5r.keep S1
        have B9t := B5t.keep S1
        have B9p := B5p.keep S1
        have L9q := L5q.grown S1
        have L9all := L5all.grown S1
        have L9r := L5r.grown S1
        have L9t := L5t.grown S1
        have L9p := L5p.grown S1
        have L9u := N5.grown S1
        obtain ⟨k2q0, k2q1, k2q2⟩ := B9q.ev3
        obtain ⟨k2all0, k2all1, k2all2⟩ := B9all.ev3
        have gr2 := grown_refl m1
        go_wp2_with fail
        refine (samell_eq _ _ _ _ _ _ L9q L9all).mono ?_
        rintro e m2 ⟨rfl, gm2⟩
        clear gr2 k2q0 k2q1 k2q2 k2all0 k2all1 k2all2
        have A2q := B9q.keep gm2
        have E2q := L9q.grown gm2
        have A2all := B9all.keep gm2
        have E2all := L9all.grown gm2
        have A2r := B9r.keep gm2
        have E2r := L9r.grown gm2
        have A2t := B9t.keep gm2
        have E2t := L9t.grown gm2
        have A2p := B9p.keep gm2
        have E2p := L9p.grown gm2
        have A2u := B9u.keep gm2
        have E2u := L9u.grown gm2
        obtain ⟨k3r0, k3r1, k3r2⟩ := A2r.ev3
        obtain ⟨k3t0, k3t1, k3t2⟩ := A2t.ev3
        have gr3 := grown_refl m2
        go_wp2_with fail
        refine (samell_eq _ _ _ _ _ _ E2r E2t).mono ?_
        rintro e m3 ⟨rfl, gm3⟩
        clear gr3 k3r0 k3r1 k3r2 k3t0 k3t1 k3t2
        have A3q := A2q.keep gm3
        have E3q := E2q.grown gm3
        have A3all := A2all.keep gm3
        have E3all := E2all.grown gm3
        have A3r := A2r.keep gm3
        have E3r := E2r.grown gm3
        have A3t := A2t.keep gm3
        have E3t := E2t.grown gm3
        have A3p := A2p.keep gm3
        have E3p := E2p.grown gm3
        have A3u := A2u.keep gm3
        have E3u := E2u.grown gm3
        obtain ⟨k4u0, k4u1, k4u2⟩ := A3u.ev3
        obtain ⟨k4p0, k4p1, k4p2⟩ := A3p.ev3
        have gr4 := grown_refl m3
        go_wp2_with fail
        refine (samell_eq _ _ _ _ _ _ E3u E3p).mono ?_
        rintro e m4 ⟨rfl, gm4⟩
        clear gr4 k4u0 k4u1 k4u2 k4p0 k4p1 k4p2
        have A4q := A3q.keep gm4
        have E4q := E3q.grown gm4
        have A4all := A3all.keep gm4
        have E4all := E3all.grown gm4
        have A4r := A3r.keep gm4
        have E4r := E3r.grown gm4
        have A4t := A3t.keep gm4
        have E4t := E3t.grown gm4
        have A4p := A3p.keep gm4
        have E4p := E3p.grown gm4
        have A4u := A3u.keep gm4
        have E4u := E3u.grown gm4
        go_wp2_with fail
        refine (KN.out _).mono ?_
        rintro e m5 ⟨rfl, gm5⟩
        go_wp2
        go_ret
        exact ⟨rfl, below_of_grown (((((GG5.trans' S1).trans' gm2).trans' gm3).trans' gm4).trans' gm5)⟩
end Go.Proofs.Ythohjekfffebkaa
