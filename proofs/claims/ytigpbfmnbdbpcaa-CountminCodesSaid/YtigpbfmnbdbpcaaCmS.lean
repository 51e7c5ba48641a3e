/- The walk of CountminUnion. Conditions: Go's ints. -/
import Derived.Test.YtigpbfmnbdbpcaaCmR
import Derived.Test.YtigpbfmnbdbpcaaSeqT
namespace Go.Proofs.Ytigpbfmnbdbpcaa
open Go.RowKit Go.ChangeShapes Go.WideShapes
set_option linter.unusedVariables false
set_option linter.unusedSimpArgs false
theorem mr_can {d s z : Int} {n : Nat} {X Y : Nat → Int} (hs : sizB d s) (hn : n = (d * s).toNat) (hX : ∀ i, 0 ≤ X i) (hY : ∀ i, 0 ≤ Y i) :
    mrE d s z (canL n X) d s z (canL n Y) = 0 ∧ mrV d s z (canL n X) (canB n X) d s z (canL n Y) (canB n Y) = (canL n (fun i => X i + Y i), canB n (fun i => X i + Y i)) := by
  subst hn
  have h1 : mrE d s z (canL (d * s).toNat X) d s z (canL (d * s).toNat Y) = 0 := by
    unfold mrE
    rw [if_neg (by rw [cmE_can hs hX]; simp), if_neg (by rw [cmE_can hs hY]; simp), if_neg (by simp)]
  refine ⟨h1, ?_⟩
  unfold mrV
  rw [if_pos h1, mrgL_can hX hY, length_canL, mrgB_can hX hY]
theorem cmmerge_can {d s z : Int} {n : Nat} {X Y : Nat → Int} (u v : Value) (w : World) (hs : sizB d s) (hn : n = (d * s).toNat) (hX : ∀ i, 0 ≤ X i) (hY : ∀ i, 0 ≤ Y i) (hu : Ints .i64 w u (canL n X)) (hv : Ints .i64 w v (canL n Y)) :
    Calls Try.prog 26 #[.agg #[.int .i64 d, .int .i64 s, .int .u64 z, u, .bool (canB n X)], .agg #[.int .i64 d, .int .i64 s, .int .u64 z, v, .bool (canB n Y)]] w fun e w' => ∃ u, e = .returned (.tuple #[.agg #[.int .i64 d, .int .i64 s, .int .u64 z, u, .bool (canB n (fun i => X i + Y i))], .int .i64 0]) ∧ Ints .i64 w' u (canL n (fun i => X i + Y i)) ∧ Fresh w.heap.size u ∧ w.grownBy w' none := by
  obtain ⟨h1, h2⟩ := mr_can (z := z) hs hn hX hY
  have h := cmmerge_any d s z u _ (canB n X) d s z v _ (canB n Y) w hu hv
  have hI : ∀ y, mrI d s z (canL n X) d s z (canL n Y) y = y := fun y => by unfold mrI; rw [if_pos h1]
  rw [hI, hI, hI, h1, h2] at h
  exact h
theorem cmmerge_F {d s z : Int} {n : Nat} {X Y F : Nat → Int} (hF : F = fun i => X i + Y i) (u v : Value) (w : World) (hs : sizB d s) (hn : n = (d * s).toNat) (hX : ∀ i, 0 ≤ X i) (hY : ∀ i, 0 ≤ Y i) (hu : Ints .i64 w u (canL n X)) (hv : Ints .i64 w v (canL n Y)) :
    Calls Try.prog 26 #[.agg #[.int .i64 d, .int .i64 s, .int .u64 z, u, .bool (canB n X)], .agg #[.int .i64 d, .int .i64 s, .int .u64 z, v, .bool (canB n Y)]] w fun e w' => ∃ u, e = .returned (.tuple #[.agg #[.int .i64 d, .int .i64 s, .int .u64 z, u, .bool (canB n F)], .int .i64 0]) ∧ Ints .i64 w' u (canL n F) ∧ Fresh w.heap.size u ∧ w.grownBy w' none := by
  subst hF
  exact cmmerge_can u v w hs hn hX hY hu hv
theorem sum_comm (X Y : Nat → Int) : (fun i => X i + Y i) = fun i => Y i + X i := by funext i; omega
theorem sum_assoc (X Y Z : Nat → Int) : (fun i => (X i + Y i) + Z i) = fun i => X i + (Y i + Z i) := by funext i; omega
/-- What the loop has built. -/
def alT (d s z : Int) (X : Nat → Int) (L : List (ByteArray × Int)) : Nat → Int := fun i => X i + sumT d s z L i
theorem alT_nil (d s z : Int) (X : Nat → Int) : alT d s z X [] = X := by funext i; show X i + 0 = X i; omega
theorem alT_snoc (d s z : Int) (X : Nat → Int) (L : List (ByteArray × Int)) (x : ByteArray × Int) : alT d s z X (L ++ [x]) = addF (cmI z s x.1) x.2 (alT d s z X L) d.toNat := by
  unfold alT
  rw [sumT_snoc]
  funext i
  rw [addF_sum]
theorem alT_nonneg (d s z : Int) {X : Nat → Int} {L : List (ByteArray × Int)} (hX : ∀ i, 0 ≤ X i) (h : ∀ x ∈ L, 0 ≤ x.2) (i : Nat) : 0 ≤ alT d s z X L i := by
  have := hX i
  have := sumT_nonneg d s z h i
  unfold alT
  omega
theorem kcell' {w w' : World} {b o : Nat} {v : Value} (g : w.grownBy w' none) (h : w.cell? ⟨b, o, none⟩ = some v) : w'.cell? ⟨b, o, none⟩ = some v :=
  kcell g h (by simpa using World.block_lt_of_cell? w _ h)
theorem keepU {B b o : Nat} {p q x y z c : Value} {w w' : World} (h : w.cell? ⟨B, 0, none⟩ = some p ∧ w.cell? ⟨B, 1, none⟩ = some q ∧ w.cell? ⟨B, 2, none⟩ = some x ∧ w.cell? ⟨B, 3, none⟩ = some y ∧ w.cell? ⟨B, 4, none⟩ = some z ∧ w.cell? ⟨b, o, none⟩ = some c) (g : w.grownBy w' none) :
    w'.cell? ⟨B, 0, none⟩ = some p ∧ w'.cell? ⟨B, 1, none⟩ = some q ∧ w'.cell? ⟨B, 2, none⟩ = some x ∧ w'.cell? ⟨B, 3, none⟩ = some y ∧ w'.cell? ⟨B, 4, none⟩ = some z ∧ w'.cell? ⟨b, o, none⟩ = some c := by
  obtain ⟨k0, k1, k2, k3, k4, k5⟩ := h
  exact ⟨kcell' g k0, kcell' g k1, kcell' g k2, kcell' g k3, kcell' g k4, kcell' g k5⟩
set_option maxRecDepth 100000 in
set_option maxHeartbeats 3200000 in
theorem CountminUnion_walk (a0 a1 a2 : Int) (v3 : Value) (l3 : List Int) (v4 : Value) (l4 : List Int) (v5 : Value) (l5 : List Int) (w : World) (h0 : (Lit.int .i64 a0).wf = true) (h1 : (Lit.int .i64 a1).wf = true) (h2 : (Lit.int .i64 a2).wf = true) (h3 : Ints .i64 w v3 l3) (hb3 : l3.length * 8 ≤ 140737488351232) (h4 : Ints .i64 w v4 l4) (hb4 : l4.length * 8 ≤ 140737488351232) (h5 : Ints .i64 w v5 l5) (hb5 : l5.length * 8 ≤ 140737488351232) :
    Calls Try.prog 8 #[.int .i64 a0, .int .i64 a1, .int .i64 a2, v3, v4, v5] w fun e w' => e = .returned (.bool true) ∧ Below w.heap.size w w' := by
  have b0 := bounds_i64 h0
  have b1 := bounds_i64 h1
  have b2 := bounds_i64 h2
  have KN := Lib.hid (fun w => knowncm_any w)
  have MD := Lib.hid (fun v l w hv => madecm_any a0 a1 a2 v l w (by unfold i64I; omega) (by unfold i64I; omega) (by unfold i64I; omega) hv)
  unfold mdL mdB at MD
  have hsz := md_siz a0 a1
  have hn : mdN a0 a1 = (mdD a0 * mdS a1).toNat := rfl
  obtain ⟨X, hX⟩ : ∃ X, X = sumT (mdD a0) (mdS a1) (i2u a2) ((l3.map itmOf).take 7) := ⟨_, rfl⟩
  obtain ⟨Y, hY⟩ : ∃ Y, Y = sumT (mdD a0) (mdS a1) (i2u a2) ((l4.map itmOf).take 7) := ⟨_, rfl⟩
  obtain ⟨Z, hZ⟩ : ∃ Z, Z = sumT (mdD a0) (mdS a1) (i2u a2) ((l5.map itmOf).take 7) := ⟨_, rfl⟩
  have pX : ∀ i, 0 ≤ X i := by rw [hX]; exact sumT_nonneg _ _ _ (itms_nonneg' _ _)
  have pY : ∀ i, 0 ≤ Y i := by rw [hY]; exact sumT_nonneg _ _ _ (itms_nonneg' _ _)
  have pZ : ∀ i, 0 ≤ Z i := by rw [hZ]; exact sumT_nonneg _ _ _ (itms_nonneg' _ _)
  have MX := MD.out v3 l3
  have MY := MD.out v4 l4
  have MZ := MD.out v5 l5
  rw [← hX] at MX
  rw [← hY] at MY
  rw [← hZ] at MZ
  have HY := Lib.hid hY
  have PX := Lib.hid pX
  have PY := Lib.hid pY
  have PZ := Lib.hid pZ
  clear MD hX hY hZ pX pY pZ h0 h1 h2
  generalize mdN a0 a1 = n at *
  generalize mdD a0 = D at *
  generalize mdS a1 = S at *
  generalize i2u a2 = ZZ at *
  have HSZ := Lib.hid hsz
  have HNN := Lib.hid hn
  clear hsz hn
  have MX := Lib.hid MX
  have MY := Lib.hid MY
  have MZ := Lib.hid MZ
  obtain ⟨XY, hXY⟩ : ∃ F : Nat → Int, F = fun i => X i + Y i := ⟨_, rfl⟩
  obtain ⟨YZ, hYZ⟩ : ∃ F : Nat → Int, F = fun i => Y i + Z i := ⟨_, rfl⟩
  obtain ⟨XYZ, hXYZ⟩ : ∃ F : Nat → Int, F = fun i => X i + YZ i := ⟨_, rfl⟩
  have pXY : ∀ i, 0 ≤ XY i := fun i => by rw [hXY]; have := PX.out i; have := PY.out i; show 0 ≤ X i + Y i; omega
  have pYZ : ∀ i, 0 ≤ YZ i := fun i => by rw [hYZ]; have := PY.out i; have := PZ.out i; show 0 ≤ Y i + Z i; omega
  have M1 := Lib.hid (fun u v w hu hv => cmmerge_F (z := ZZ) hXY u v w HSZ.out HNN.out PX.out PY.out hu hv)
  have M2 := Lib.hid (fun u v w hu hv => cmmerge_F (z := ZZ) (hXY.trans (sum_comm X Y)) u v w HSZ.out HNN.out PY.out PX.out hu hv)
  have M3 := Lib.hid (fun u v w hu hv => cmmerge_F (z := ZZ) (F := XYZ) (X := XY) (Y := Z) (by rw [hXYZ, hXY, hYZ]; funext i; show X i + (Y i + Z i) = X i + Y i + Z i; omega) u v w HSZ.out HNN.out pXY PZ.out hu hv)
  have M4 := Lib.hid (fun u v w hu hv => cmmerge_F (z := ZZ) hYZ u v w HSZ.out HNN.out PY.out PZ.out hu hv)
  have M5 := Lib.hid (fun u v w hu hv => cmmerge_F (z := ZZ) hXYZ u v w HSZ.out HNN.out PX.out pYZ hu hv)
  have HE : Hid (∀ L, L = (l4.map itmOf).take 7 → alT D S ZZ X L = XY) := fun L hL => by
    rw [hXY, hL]
    unfold alT
    rw [← HY.out]
  clear hXY hYZ hXYZ pXY pYZ
  have IN := Lib.hid (fun (T : Nat → Int) (hT : ∀ i, 0 ≤ T i) (x : Int) u w hu => cmins_can (z := ZZ) (key := (itmOf x).1) (wt := (itmOf x).2) u w HSZ.out HNN.out hT (itmOf_ok x).1 (itmOf_ok x).2 hu)
  have CI := Lib.hid (fun (x : Int) w => itm_any (bits BinOp.and IntKind.i64 x 65535) w (by unfold i64I; rw [and_mask x 16 (by omega) 65535 (by decide)]; omega))
  obtain ⟨c3, k3, rfl, -, -, -, -⟩ := id h3
  obtain ⟨c4, k4, rfl, q1, q2, q3, q4⟩ := id h4
  obtain ⟨c5, k5, rfl, -, -, -, -⟩ := id h5
  unfold maxLen at q2
  have H3 := Lib.hid h3
  have H4 := Lib.hid h4
  have H5 := Lib.hid h5
  have HQ4 := Lib.hid q4
  clear h3 h4 h5 q3 q4
  go_enter Try.func8, Try.ntmps8
  go_wp2_with fail
  refine (MX.out _ H3.out).mono ?_
  rintro e w1 ⟨v1, rfl, I1, g1⟩
  obtain ⟨x1, y1, rfl, -, -, -, -⟩ := id I1
  go_wp2_with fail
  refine (MY.out _ (H4.out.grown g1)).mono ?_
  rintro e w2 ⟨v2, rfl, I2, g2⟩
  obtain ⟨x2, y2, rfl, -, -, -, -⟩ := id I2
  go_wp2_with fail
  refine (MZ.out _ (H5.out.grown (g1.trans' g2))).mono ?_
  rintro e w3 ⟨v3, rfl, I3, g3⟩
  obtain ⟨x3, y3, rfl, -, -, -, -⟩ := id I3
  have J1 := I1.grown (g2.trans' g3)
  have J2 := I2.grown g3
  have G3 := (g1.trans' g2).trans' g3
  clear I1 I2
  go_wp2_with fail
  have G4 : w3.grownBy w3 none := grown_refl _
  refine wAbs (P := fun w' => Blk w3.heap.size #[.int .i64 D, .int .i64 S, .int .u64 ZZ, .slice x1 (canL n X).length y1, .bool (canB n X)] 26 w' ∧ Blk (w3.heap.size + 1) #[.int .i64 D, .int .i64 S, .int .u64 ZZ, .slice x2 (canL n Y).length y2, .bool (canB n Y)] 26 w' ∧ Blk (w3.heap.size + 2) #[.int .i64 D, .int .i64 S, .int .u64 ZZ, .slice x3 (canL n Z).length y3, .bool (canB n Z)] 26 w' ∧ Blk (w3.heap.size + 3) #[.int .i64 D, .int .i64 S, .int .u64 ZZ, .slice x1 (canL n X).length y1, .bool (canB n X)] 26 w' ∧ w3.grownBy w' none) ⟨(((Blk.new w3 _ _).keep (grown_alloc _ _)).keep (grown_alloc _ _)).keep (grown_alloc _ _), ((Blk.newAt (w3.alloc _) (w3.heap.size + 1) _ _ (by simp)).keep (grown_alloc _ _)).keep (grown_alloc _ _), (Blk.newAt ((w3.alloc _).alloc _) (w3.heap.size + 2) _ _ (by simp)).keep (grown_alloc _ _), Blk.newAt (((w3.alloc _).alloc _).alloc _) (w3.heap.size + 3) _ _ (by simp), (((grown_alloc w3 _).trans' (grown_alloc _ _)).trans' (grown_alloc _ _)).trans' (grown_alloc _ _)⟩ ?_
  rintro w4 ⟨p1, p2, p3, p4, g4⟩
  have hz4 := p4.lt
  have K1 := J1.grown g4
  have K2 := J2.grown g4
  have K3 := I3.grown g4
  have GG := G3.trans' g4
  have HJ1 := Lib.hid J1
  have HJ2 := Lib.hid J2
  have HJ3 := Lib.hid I3
  have HG4 := Lib.hid g4
  clear J1 J2 I3 g1 g2 g3 g4 G4
  go_loopw [18, 17] (fun i ok wr => ∃ (k : Nat) (u : Value), k ≤ l4.length ∧ k ≤ 7 ∧ i = .int .i64 k ∧ ok = .bool true ∧ Blk (w3.heap.size + 3) #[.int .i64 D, .int .i64 S, .int .u64 ZZ, u, .bool (canB n (alT D S ZZ X ((l4.map itmOf).take k)))] 26 wr ∧ Ints .i64 wr u (canL n (alT D S ZZ X ((l4.map itmOf).take k))) ∧ Two (w3.heap.size + 3) (w3.heap.size + 3) w4 wr) (fun i _ _ => 7 - (intOf i).toNat)
  case atStart =>
    refine ⟨0, .slice x1 (canL n X).length y1, by omega, by omega, rfl, rfl, ?_, ?_, Two.refl _ _ _⟩
    · rw [List.take_zero, alT_nil]; exact p4
    · rw [List.take_zero, alT_nil]; exact K1
  case round =>
    obtain ⟨k, u, hk, hk7, rfl, rfl, b2, I2, T2⟩ := hrel
    have G2 := T2.up GG (by have := w3.heap.size; have := GG.size; have := G3.size; omega) (by have := G3.size; omega)
    by_cases hcont : k < l4.length ∧ k < 7
    · obtain ⟨hlt, h7⟩ := hcont
      · obtain ⟨bl, off, rfl, hbl, hcl⟩ := H4.out.at (by omega)
        have hck := hcl k hlt
        have C3 := CI.out (gI l4 k)
        have hpos := alT_nonneg D S ZZ PX.out (itms_nonneg' l4 k)
        have C4 := IN.out (alT D S ZZ X ((l4.map itmOf).take k)) hpos (gI l4 k)
        rw [← alT_snoc, ← itms_snoc hlt] at C4
        simp only [itmOf] at C4
        have CC := Lib.hid C3
        have CD := Lib.hid C4
        have hlt' : decide ((k : Int) < l4.length) = true := decide_eq_true (by omega)
        have h7' : decide ((k : Int) < 7) = true := decide_eq_true (by omega)
        obtain ⟨au, ku, rfl, -, -, -, -⟩ := id I2
        have hzr := T2.size
        have hb2 := b2.lt
        generalize canB n (alT D S ZZ X ((l4.map itmOf).take k)) = pk at *
        generalize canL n (alT D S ZZ X ((l4.map itmOf).take k)) = qk at *
        clear C3 C4 hpos hcl
        have e1 : (k : Int) < l4.length := by omega
        have e2 : (0 : Int) ≤ k := by omega
        have hck' := kcell G2 hck hbl
        have hbr : bl < wr.heap.size := by have := G2.size; omega
        obtain ⟨c10, c11, c12, c13, c14, c15⟩ := b2.at5
        have f0 : ∀ w' : World, wr.grownBy w' none → w'.cell? ⟨w3.heap.size + 3, 0, none⟩ = some (.int .i64 D) := fun w' g => (b2.keep g).at5.1
        have f1 : ∀ w' : World, wr.grownBy w' none → w'.cell? ⟨w3.heap.size + 3, 1, none⟩ = some (.int .i64 S) := fun w' g => (b2.keep g).at5.2.1
        have f2 : ∀ w' : World, wr.grownBy w' none → w'.cell? ⟨w3.heap.size + 3, 2, none⟩ = some (.int .u64 ZZ) := fun w' g => (b2.keep g).at5.2.2.1
        have f3 : ∀ w' : World, wr.grownBy w' none → w'.cell? ⟨w3.heap.size + 3, 3, none⟩ = some (.slice au qk.length ku) := fun w' g => (b2.keep g).at5.2.2.2.1
        have f4 : ∀ w' : World, wr.grownBy w' none → w'.cell? ⟨w3.heap.size + 3, 4, none⟩ = some (.bool pk) := fun w' g => (b2.keep g).at5.2.2.2.2.1
        have fx : ∀ w' : World, wr.grownBy w' none → w'.cell? ⟨bl, off + k, none⟩ = some (.int .i64 (gI l4 k)) := fun w' g => kcell g hck' hbr
        have G0 := grown_drew1 wr
        go_wp2_with fail
        refine wp_region_scr (.take 0 (.take 1 (.take 2 (.take 3 (.take 4 (.take 5 (.two 6 (.two 7 (.take 8 (.take 9 (.take 10 (.run 11 (.run 12 (.take 13 .stop)))))) 11 (.run 7 (.take 8 (.take 9 (.take 10 (.run 12 (.take 13 .stop))))))) 11 (.run 6 (.run 7 (.take 8 (.take 9 (.take 10 (.run 12 (.take 13 .stop)))))))))))))) (fun w' => wr.grownBy w' none) (by kernel_rfl) (by kernel_rfl) (by kernel_rfl) G0 ?_
        repeat (first
          | ((refine scr_skip (by rfl) (by rfl) ?_); (try simp only [Act.put, List.setIfInBounds_toArray, List.set_cons_zero, List.set_cons_succ]))
          | ((refine scr_take (by rfl) ?_ (by rfl) ?_ ?_); rotate_left; (focus (intro w' hS; go_simp; first | done | with_reducible rfl)); (try simp only [Act.put, List.setIfInBounds_toArray, List.set_cons_zero, List.set_cons_succ])))
        refine scr_two ?_ ?_
        · refine scr_run (by rfl) (by rfl) ?_
          intro K hK
          go_simp
          refine (CC.out _).mono ?_
          rintro e w5 ⟨rfl, g5⟩
          refine hK _ _ (G0.trans' g5) ?_
          clear hK K
          try simp only [Act.put, List.setIfInBounds_toArray, List.set_cons_zero, List.set_cons_succ]
          have G5 := G0.trans' g5
          refine scr_two ?_ ?_
          · refine scr_run (by rfl) (by rfl) ?_
            intro K hK
            go_simp
            refine (CD.out _ _ (I2.grown (G5))).mono ?_
            rintro e w6 ⟨u6, rfl, I6, f6, g6⟩
            obtain ⟨a6, k6, rfl, -, -, -, -⟩ := id I6
            refine hK _ _ (G5.trans' g6) ?_
            clear hK K
            try simp only [Act.put, List.setIfInBounds_toArray, List.set_cons_zero, List.set_cons_succ]
            have G6 := G5.trans' g6
            have hz6 := G6.size
            have hz5 := G5.size
            have f6' := f6.mono (show wr.heap.size ≤ _ by simpa using hz5)
            repeat (first
              | ((refine scr_skip (by rfl) (by rfl) ?_); (try simp only [Act.put, List.setIfInBounds_toArray, List.set_cons_zero, List.set_cons_succ]))
              | ((refine scr_take (by rfl) ?_ (by rfl) ?_ ?_); rotate_left; (focus (intro w' hS; go_simp; first | done | with_reducible rfl)); (try simp only [Act.put, List.setIfInBounds_toArray, List.set_cons_zero, List.set_cons_succ])))
            refine scr_run (by rfl) (by rfl) ?_
            intro K hK
            go_simp
            refine hK _ _ (G6.trans' (grown_alloc _ _)) ?_
            clear hK K
            try simp only [Act.put, List.setIfInBounds_toArray, List.set_cons_zero, List.set_cons_succ]
            obtain ⟨q10, q11, q12, q13, q14, q15⟩ := (Blk.new w6 #[.int .i64 0, .int .i64 0, .int .u64 0, .slice none 0 0, .bool false] 26).at5
            refine scr_run (by rfl) (by rfl) ?_
            intro K hK
            go_simp
            refine hK _ _ ?_ ?_
            · repeat (with_reducible refine grown_set ?_ _ (by omega))
              exact G6.trans' (grown_alloc _ _)
            clear hK K
            try simp only [Act.put, List.setIfInBounds_toArray, List.set_cons_zero, List.set_cons_succ]
            clear q10 q11 q12 q13 q14 q15
            have q10 := 0
            have q11 := 0
            have q12 := 0
            have q13 := 0
            have q14 := 0
            have q15 := 0
            repeat (first
              | ((refine scr_skip (by rfl) (by rfl) ?_); (try simp only [Act.put, List.setIfInBounds_toArray, List.set_cons_zero, List.set_cons_succ]))
              | ((refine scr_take (by rfl) ?_ (by rfl) ?_ ?_); rotate_left; (focus (intro w' hS; go_simp; first | done | with_reducible rfl)); (try simp only [Act.put, List.setIfInBounds_toArray, List.set_cons_zero, List.set_cons_succ])))
            refine scr_stop ?_
            refine wAbs (P := fun w' => wr.grownBy w' none ∧ Ints .i64 w' (.slice a6 (canL n (alT D S ZZ X ((l4.map itmOf).take (k + 1)))).length k6) (canL n (alT D S ZZ X ((l4.map itmOf).take (k + 1)))) ∧ Blk (w6.heap.size) #[.int .i64 D, .int .i64 S, .int .u64 ZZ, .slice a6 (canL n (alT D S ZZ X ((l4.map itmOf).take (k + 1)))).length k6, .bool (canB n (alT D S ZZ X ((l4.map itmOf).take (k + 1))))] 26 w') ⟨?_, ?_, ?_⟩ ?_
            · repeat (with_reducible refine grown_set ?_ _ (by omega))
              exact G6.trans' (grown_alloc _ _)
            · repeat (with_reducible refine Ints.setF ?_ f6' _ (by omega))
              exact I6.grown (grown_alloc _ _)
            · exact Blk.new _ _ _
            clear q10 q11 q12 q13 q14 q15 f0 f1 f2 f3 f4 fx c10 c11 c12 c13 c14 c15
            rintro w7 ⟨g7, I7, b7⟩
            obtain ⟨q70, q71, q72, q73, q74, q75⟩ := b7.at5
            have b8 := b2.keep g7
            obtain ⟨r70, r71, r72, r73, r74, r75⟩ := b8.at5
            go_wp2
            go_roundw
            case rel =>
              refine ⟨k + 1, .slice a6 (canL n (alT D S ZZ X ((l4.map itmOf).take (k + 1)))).length k6, by omega, by omega, by go_num, rfl, ((((b8.set 0 _).set 1 _).set 2 _).set 3 _).set 4 _, ?_, (((((T2.grown g7).setp 0 _).setp 1 _).setp 2 _).setp 3 _).setp 4 _⟩
              repeat (with_reducible refine Ints.setF ?_ f6' _ (by omega))
              exact I7
            case measure => simp [intOf]; omega
          · refine scr_run (by rfl) (by rfl) ?_
            intro K hK
            go_simp
            refine hK _ _ (G5.trans' (grown_alloc _ _)) ?_
            clear hK K
            try simp only [Act.put, List.setIfInBounds_toArray, List.set_cons_zero, List.set_cons_succ]
            refine scr_run (by rfl) (by rfl) ?_
            intro K hK
            go_simp
            refine (CD.out _ _ (I2.grown (G5.trans' (grown_alloc _ _)))).mono ?_
            rintro e w6 ⟨u6, rfl, I6, f6, g6⟩
            obtain ⟨a6, k6, rfl, -, -, -, -⟩ := id I6
            refine hK _ _ ((G5.trans' (grown_alloc _ _)).trans' g6) ?_
            clear hK K
            try simp only [Act.put, List.setIfInBounds_toArray, List.set_cons_zero, List.set_cons_succ]
            have G6 := (G5.trans' (grown_alloc _ _)).trans' g6
            have hz6 := g6.size
            simp only [World.size_alloc] at hz6
            have hz5 := G5.size
            have f6a := f6.mono (show w5.heap.size + 1 ≤ _ by simp)
            have f6' := f6.mono (show wr.heap.size ≤ _ by simp; omega)
            have k6b := (Blk.new w5 #[.int .i64 0, .int .i64 0, .int .u64 0, .slice none 0 0, .bool false] 26).keep g6
            repeat (first
              | ((refine scr_skip (by rfl) (by rfl) ?_); (try simp only [Act.put, List.setIfInBounds_toArray, List.set_cons_zero, List.set_cons_succ]))
              | ((refine scr_take (by rfl) ?_ (by rfl) ?_ ?_); rotate_left; (focus (intro w' hS; go_simp; first | done | with_reducible rfl)); (try simp only [Act.put, List.setIfInBounds_toArray, List.set_cons_zero, List.set_cons_succ])))
            obtain ⟨q10, q11, q12, q13, q14, q15⟩ := k6b.at5
            refine scr_run (by rfl) (by rfl) ?_
            intro K hK
            go_simp
            refine hK _ _ ?_ ?_
            · repeat (with_reducible refine grown_set ?_ _ (by omega))
              exact G6
            clear hK K
            try simp only [Act.put, List.setIfInBounds_toArray, List.set_cons_zero, List.set_cons_succ]
            repeat (first
              | ((refine scr_skip (by rfl) (by rfl) ?_); (try simp only [Act.put, List.setIfInBounds_toArray, List.set_cons_zero, List.set_cons_succ]))
              | ((refine scr_take (by rfl) ?_ (by rfl) ?_ ?_); rotate_left; (focus (intro w' hS; go_simp; first | done | with_reducible rfl)); (try simp only [Act.put, List.setIfInBounds_toArray, List.set_cons_zero, List.set_cons_succ])))
            refine scr_stop ?_
            refine wAbs (P := fun w' => wr.grownBy w' none ∧ Ints .i64 w' (.slice a6 (canL n (alT D S ZZ X ((l4.map itmOf).take (k + 1)))).length k6) (canL n (alT D S ZZ X ((l4.map itmOf).take (k + 1)))) ∧ Blk (w5.heap.size) #[.int .i64 D, .int .i64 S, .int .u64 ZZ, .slice a6 (canL n (alT D S ZZ X ((l4.map itmOf).take (k + 1)))).length k6, .bool (canB n (alT D S ZZ X ((l4.map itmOf).take (k + 1))))] 26 w') ⟨?_, ?_, ?_⟩ ?_
            · repeat (with_reducible refine grown_set ?_ _ (by omega))
              exact G6
            · repeat (with_reducible refine Ints.setF ?_ f6a _ (by omega))
              exact I6
            · exact ((((k6b.set 0 _).set 1 _).set 2 _).set 3 _).set 4 _
            clear q10 q11 q12 q13 q14 q15 f0 f1 f2 f3 f4 fx c10 c11 c12 c13 c14 c15
            rintro w7 ⟨g7, I7, b7⟩
            obtain ⟨q70, q71, q72, q73, q74, q75⟩ := b7.at5
            have b8 := b2.keep g7
            obtain ⟨r70, r71, r72, r73, r74, r75⟩ := b8.at5
            go_wp2
            go_roundw
            case rel =>
              refine ⟨k + 1, .slice a6 (canL n (alT D S ZZ X ((l4.map itmOf).take (k + 1)))).length k6, by omega, by omega, by go_num, rfl, ((((b8.set 0 _).set 1 _).set 2 _).set 3 _).set 4 _, ?_, (((((T2.grown g7).setp 0 _).setp 1 _).setp 2 _).setp 3 _).setp 4 _⟩
              repeat (with_reducible refine Ints.setF ?_ f6' _ (by omega))
              exact I7
            case measure => simp [intOf]; omega
        · refine scr_run (by rfl) (by rfl) ?_
          intro K hK
          go_simp
          refine hK _ _ (G0.trans' (grown_alloc _ _)) ?_
          clear hK K
          try simp only [Act.put, List.setIfInBounds_toArray, List.set_cons_zero, List.set_cons_succ]
          refine scr_run (by rfl) (by rfl) ?_
          intro K hK
          go_simp
          refine (CC.out _).mono ?_
          rintro e w5 ⟨rfl, g5⟩
          refine hK _ _ ((G0.trans' (grown_alloc _ _)).trans' g5) ?_
          clear hK K
          try simp only [Act.put, List.setIfInBounds_toArray, List.set_cons_zero, List.set_cons_succ]
          have G5 := (G0.trans' (grown_alloc _ _)).trans' g5
          refine scr_run (by rfl) (by rfl) ?_
          intro K hK
          go_simp
          refine (CD.out _ _ (I2.grown (G5))).mono ?_
          rintro e w6 ⟨u6, rfl, I6, f6, g6⟩
          obtain ⟨a6, k6, rfl, -, -, -, -⟩ := id I6
          refine hK _ _ (G5.trans' g6) ?_
          clear hK K
          try simp only [Act.put, List.setIfInBounds_toArray, List.set_cons_zero, List.set_cons_succ]
          have G6 := G5.trans' g6
          have hz6 := g6.size
          have hz5 := g5.size
          simp only [World.size_alloc, World.size_drew] at hz5
          have f6a := f6.mono (show wr.heap.size + 1 ≤ _ by omega)
          have f6' := f6.mono (show wr.heap.size ≤ _ by omega)
          have k6b := ((Blk.newAt wr.drew wr.heap.size #[.int .i64 0, .int .i64 0, .int .u64 0, .slice none 0 0, .bool false] 26 rfl).keep g5).keep g6
          repeat (first
            | ((refine scr_skip (by rfl) (by rfl) ?_); (try simp only [Act.put, List.setIfInBounds_toArray, List.set_cons_zero, List.set_cons_succ]))
            | ((refine scr_take (by rfl) ?_ (by rfl) ?_ ?_); rotate_left; (focus (intro w' hS; go_simp; first | done | with_reducible rfl)); (try simp only [Act.put, List.setIfInBounds_toArray, List.set_cons_zero, List.set_cons_succ])))
          obtain ⟨q10, q11, q12, q13, q14, q15⟩ := k6b.at5
          refine scr_run (by rfl) (by rfl) ?_
          intro K hK
          go_simp
          refine hK _ _ ?_ ?_
          · repeat (with_reducible refine grown_set ?_ _ (by omega))
            exact G6
          clear hK K
          try simp only [Act.put, List.setIfInBounds_toArray, List.set_cons_zero, List.set_cons_succ]
          repeat (first
            | ((refine scr_skip (by rfl) (by rfl) ?_); (try simp only [Act.put, List.setIfInBounds_toArray, List.set_cons_zero, List.set_cons_succ]))
            | ((refine scr_take (by rfl) ?_ (by rfl) ?_ ?_); rotate_left; (focus (intro w' hS; go_simp; first | done | with_reducible rfl)); (try simp only [Act.put, List.setIfInBounds_toArray, List.set_cons_zero, List.set_cons_succ])))
          refine scr_stop ?_
          refine wAbs (P := fun w' => wr.grownBy w' none ∧ Ints .i64 w' (.slice a6 (canL n (alT D S ZZ X ((l4.map itmOf).take (k + 1)))).length k6) (canL n (alT D S ZZ X ((l4.map itmOf).take (k + 1)))) ∧ Blk (wr.heap.size) #[.int .i64 D, .int .i64 S, .int .u64 ZZ, .slice a6 (canL n (alT D S ZZ X ((l4.map itmOf).take (k + 1)))).length k6, .bool (canB n (alT D S ZZ X ((l4.map itmOf).take (k + 1))))] 26 w') ⟨?_, ?_, ?_⟩ ?_
          · repeat (with_reducible refine grown_set ?_ _ (by omega))
            exact G6
          · repeat (with_reducible refine Ints.setF ?_ f6a _ (by omega))
            exact I6
          · exact ((((k6b.set 0 _).set 1 _).set 2 _).set 3 _).set 4 _
          clear q10 q11 q12 q13 q14 q15 f0 f1 f2 f3 f4 fx c10 c11 c12 c13 c14 c15
          rintro w7 ⟨g7, I7, b7⟩
          obtain ⟨q70, q71, q72, q73, q74, q75⟩ := b7.at5
          have b8 := b2.keep g7
          obtain ⟨r70, r71, r72, r73, r74, r75⟩ := b8.at5
          go_wp2
          go_roundw
          case rel =>
            refine ⟨k + 1, .slice a6 (canL n (alT D S ZZ X ((l4.map itmOf).take (k + 1)))).length k6, by omega, by omega, by go_num, rfl, ((((b8.set 0 _).set 1 _).set 2 _).set 3 _).set 4 _, ?_, (((((T2.grown g7).setp 0 _).setp 1 _).setp 2 _).setp 3 _).setp 4 _⟩
            repeat (with_reducible refine Ints.setF ?_ f6' _ (by omega))
            exact I7
          case measure => simp [intOf]; omega
    · have hend : (l4.map itmOf).take k = (l4.map itmOf).take 7 := by
        by_cases h : k < l4.length
        · rw [show k = 7 by omega]
        · exact (itms_end (by omega) hk7).symm
      rw [HE.out _ hend] at b2 I2
      clear hend
      have htest : (¬ k < l4.length ∧ decide (k < l4.length) = false ∧ decide ((k : Int) < l4.length) = false) ∨ ((k < l4.length ∧ ¬ k < 7) ∧ (decide (k < l4.length) = true ∧ decide ((k : Int) < l4.length) = true) ∧ decide ((k : Int) < 7) = false) := by
        by_cases h : k < l4.length
        · exact .inr ⟨⟨h, by omega⟩, ⟨decide_eq_true h, decide_eq_true (by omega)⟩, decide_eq_false (by omega)⟩
        · exact .inl ⟨h, decide_eq_false h, decide_eq_false (by omega)⟩
      obtain ⟨au, ku, rfl, -, -, -, -⟩ := id I2
      have hz3 := GG.size
      have TU := T2.up HG4.out (by omega) (by omega)
      have J1 := HJ1.out.grown TU
      have J2 := HJ2.out.grown TU
      have J3 := HJ3.out.grown TU
      have X1 := p1.two T2 (by omega) (by omega)
      have X2 := p2.two T2 (by omega) (by omega)
      have X3 := p3.two T2 (by omega) (by omega)
      have ga : ∀ (w : World) (o : Obj), w.grownBy (w.alloc o) none := grown_alloc
      have gr := grown_refl wr
      clear hcont
      rcases htest with ⟨h0, h1, h2⟩ | ⟨⟨h0, h00⟩, ⟨h1, h3⟩, h2⟩
      all_goals
        obtain ⟨f0x0, f0x1, f0x2, f0x3, f0x4⟩ := X1.ev5
        obtain ⟨f0y0, f0y1, f0y2, f0y3, f0y4⟩ := X2.ev5
        go_wp2_with fail
        refine (M1.out _ _ _ (J1) (J2)).mono ?_
        rintro e n0 ⟨u0, rfl, N0, -, g0⟩
        obtain ⟨xa0, xk0, rfl, -, -, -, -⟩ := id N0
        clear f0x0 f0x1 f0x2 f0x3 f0x4 f0y0 f0y1 f0y2 f0y3 f0y4
        have B0x := X1.keep g0
        have B0y := X2.keep g0
        have B0z := X3.keep g0
        have B0all := b2.keep g0
        have L0x := J1.grown g0
        have L0y := J2.grown g0
        have L0z := J3.grown g0
        have L0all := I2.grown g0
        have GG0 := G2.trans' g0
        obtain ⟨f1y0, f1y1, f1y2, f1y3, f1y4⟩ := B0y.ev5
        obtain ⟨f1x0, f1x1, f1x2, f1x3, f1x4⟩ := B0x.ev5
        go_wp2_with fail
        refine (M2.out _ _ _ (L0y.grown (grown_alloc _ _)) (L0x.grown (grown_alloc _ _))).mono ?_
        rintro e n1 ⟨u1, rfl, N1, -, g1⟩
        obtain ⟨xa1, xk1, rfl, -, -, -, -⟩ := id N1
        clear f1y0 f1y1 f1y2 f1y3 f1y4 f1x0 f1x1 f1x2 f1x3 f1x4
        have B1x := B0x.keep ((grown_alloc _ _).trans' g1)
        have B1y := B0y.keep ((grown_alloc _ _).trans' g1)
        have B1z := B0z.keep ((grown_alloc _ _).trans' g1)
        have B1all := B0all.keep ((grown_alloc _ _).trans' g1)
        have L1x := L0x.grown ((grown_alloc _ _).trans' g1)
        have L1y := L0y.grown ((grown_alloc _ _).trans' g1)
        have L1z := L0z.grown ((grown_alloc _ _).trans' g1)
        have L1all := L0all.grown ((grown_alloc _ _).trans' g1)
        have L1p := N0.grown ((grown_alloc _ _).trans' g1)
        have B1p := (Blk.new n0 _ _).keep g1
        have GG1 := GG0.trans' ((grown_alloc _ _).trans' g1)
        obtain ⟨f2p0, f2p1, f2p2, f2p3, f2p4⟩ := B1p.ev5
        obtain ⟨f2z0, f2z1, f2z2, f2z3, f2z4⟩ := B1z.ev5
        go_wp2_with fail
        refine (M3.out _ _ _ (L1p.grown (grown_alloc _ _)) (L1z.grown (grown_alloc _ _))).mono ?_
        rintro e n2 ⟨u2, rfl, N2, -, g2⟩
        obtain ⟨xa2, xk2, rfl, -, -, -, -⟩ := id N2
        clear f2p0 f2p1 f2p2 f2p3 f2p4 f2z0 f2z1 f2z2 f2z3 f2z4
        have B2x := B1x.keep ((grown_alloc _ _).trans' g2)
        have B2y := B1y.keep ((grown_alloc _ _).trans' g2)
        have B2z := B1z.keep ((grown_alloc _ _).trans' g2)
        have B2all := B1all.keep ((grown_alloc _ _).trans' g2)
        have B2p := B1p.keep ((grown_alloc _ _).trans' g2)
        have L2x := L1x.grown ((grown_alloc _ _).trans' g2)
        have L2y := L1y.grown ((grown_alloc _ _).trans' g2)
        have L2z := L1z.grown ((grown_alloc _ _).trans' g2)
        have L2all := L1all.grown ((grown_alloc _ _).trans' g2)
        have L2p := L1p.grown ((grown_alloc _ _).trans' g2)
        have L2q := N1.grown ((grown_alloc _ _).trans' g2)
        have B2q := (Blk.new n1 _ _).keep g2
        have GG2 := GG1.trans' ((grown_alloc _ _).trans' g2)
        obtain ⟨f3y0, f3y1, f3y2, f3y3, f3y4⟩ := B2y.ev5
        obtain ⟨f3z0, f3z1, f3z2, f3z3, f3z4⟩ := B2z.ev5
        go_wp2_with fail
        refine (M4.out _ _ _ (L2y.grown (grown_alloc _ _)) (L2z.grown (grown_alloc _ _))).mono ?_
        rintro e n3 ⟨u3, rfl, N3, -, g3⟩
        obtain ⟨xa3, xk3, rfl, -, -, -, -⟩ := id N3
        clear f3y0 f3y1 f3y2 f3y3 f3y4 f3z0 f3z1 f3z2 f3z3 f3z4
        have B3x := B2x.keep ((grown_alloc _ _).trans' g3)
        have B3y := B2y.keep ((grown_alloc _ _).trans' g3)
        have B3z := B2z.keep ((grown_alloc _ _).trans' g3)
        have B3all := B2all.keep ((grown_alloc _ _).trans' g3)
        have B3p := B2p.keep ((grown_alloc _ _).trans' g3)
        have B3q := B2q.keep ((grown_alloc _ _).trans' g3)
        have L3x := L2x.grown ((grown_alloc _ _).trans' g3)
        have L3y := L2y.grown ((grown_alloc _ _).trans' g3)
        have L3z := L2z.grown ((grown_alloc _ _).trans' g3)
        have L3all := L2all.grown ((grown_alloc _ _).trans' g3)
        have L3p := L2p.grown ((grown_alloc _ _).trans' g3)
        have L3q := L2q.grown ((grown_alloc _ _).trans' g3)
        have L3r := N2.grown ((grown_alloc _ _).trans' g3)
        have B3r := (Blk.new n2 _ _).keep g3
        have GG3 := GG2.trans' ((grown_alloc _ _).trans' g3)
        obtain ⟨f4x0, f4x1, f4x2, f4x3, f4x4⟩ := B3x.ev5
        go_wp2_with fail
        refine (M5.out _ _ _ (L3x.grown (grown_alloc _ _)) (N3.grown (grown_alloc _ _))).mono ?_
        rintro e n4 ⟨u4, rfl, N4, -, g4⟩
        obtain ⟨xa4, xk4, rfl, -, -, -, -⟩ := id N4
        clear f4x0 f4x1 f4x2 f4x3 f4x4
        have B4x := B3x.keep ((grown_alloc _ _).trans' g4)
        have B4y := B3y.keep ((grown_alloc _ _).trans' g4)
        have B4z := B3z.keep ((grown_alloc _ _).trans' g4)
        have B4all := B3all.keep ((grown_alloc _ _).trans' g4)
        have B4p := B3p.keep ((grown_alloc _ _).trans' g4)
        have B4q := B3q.keep ((grown_alloc _ _).trans' g4)
        have B4r := B3r.keep ((grown_alloc _ _).trans' g4)
        have L4x := L3x.grown ((grown_alloc _ _).trans' g4)
        have L4y := L3y.grown ((grown_alloc _ _).trans' g4)
        have L4z := L3z.grown ((grown_alloc _ _).trans' g4)
        have L4all := L3all.grown ((grown_alloc _ _).trans' g4)
        have L4p := L3p.grown ((grown_alloc _ _).trans' g4)
        have L4q := L3q.grown ((grown_alloc _ _).trans' g4)
        have L4r := L3r.grown ((grown_alloc _ _).trans' g4)
        have L4s := N3.grown ((grown_alloc _ _).trans' g4)
        have B4s := (Blk.new n3 _ _).keep g4
        have GG4 := GG3.trans' ((grown_alloc _ _).trans' g4)
        obtain ⟨hp0, hp1, hp2, hp3, hp4⟩ := B4p.ev5
        obtain ⟨hall0, hall1, hall2, hall3, hall4⟩ := B4all.ev5
        go_wp2_with fail
        refine (samecm_eq _ _ _ _ _ _ _ _ (L4p.grown (grown_alloc _ _)) (L4all.grown (grown_alloc _ _))).mono ?_
        rintro e m1 ⟨rfl, gm1⟩
        clear hp0 hp1 hp2 hp3 hp4 hall0 hall1 hall2 hall3 hall4
        have B9t := (Blk.new n4 _ _).keep gm1
        have S1 := (grown_alloc n4 _).trans' gm1
        have B9q := B4q.keep S1
        have B9all := B4all.keep S1
        have B9r := B4r.keep S1
        have L9q := L4q.grown S1
        have L9all := L4all.grown S1
        have L9r := L4r.grown S1
        have L9t := N4.grown S1
        have gr1 := grown_refl m1
        obtain ⟨kq0, kq1, kq2, kq3, kq4⟩ := B9q.ev5
        obtain ⟨kall0, kall1, kall2, kall3, kall4⟩ := B9all.ev5
        obtain ⟨kr0, kr1, kr2, kr3, kr4⟩ := B9r.ev5
        obtain ⟨kt0, kt1, kt2, kt3, kt4⟩ := B9t.ev5
        go_wp2_with fail
        refine (samecm_eq _ _ _ _ _ _ _ _ L9q L9all).mono ?_
        rintro e m2 ⟨rfl, gm2⟩
        have c8r := (B9r.keep gm2).at5
        have c8t := (B9t.keep gm2).at5
        obtain ⟨r80, r81, r82, r83, r84, r85⟩ := c8r
        obtain ⟨t80, t81, t82, t83, t84, t85⟩ := c8t
        clear kq0 kq1 kq2 kq3 kq4 kall0 kall1 kall2 kall3 kall4 kr0 kr1 kr2 kr3 kr4 kt0 kt1 kt2 kt3 kt4
        go_wp2_with fail
        refine (samecm_eq _ _ _ _ _ _ _ _ (L9r.grown gm2) (L9t.grown gm2)).mono ?_
        rintro e m3 ⟨rfl, gm3⟩
        go_wp2_with fail
        refine (KN.out _).mono ?_
        rintro e m4 ⟨rfl, gm4⟩
        go_wp2
        go_ret
        exact ⟨rfl, below_of_grown ((((GG4.trans' S1).trans' gm2).trans' gm3).trans' gm4)⟩
end Go.Proofs.Ytigpbfmnbdbpcaa
