/- The walk of CountminBounds. Conditions: Go's ints. -/
import Derived.Test.YtigpbfmnbdbpcaaCmT
namespace Go.Proofs.Ytigpbfmnbdbpcaa
open Go.RowKit Go.ChangeShapes Go.WideShapes
set_option linter.unusedVariables false
set_option linter.unusedSimpArgs false
theorem Ints.atB {k : IntKind} {w : World} {a : Option Addr} {n cap : Nat} {l : List Int} (h : Ints k w (.slice a n cap) l) (hl : 0 < l.length) : ∃ b off, a = some ⟨b, off, none⟩ ∧ b < w.heap.size ∧ ∀ i, i < l.length → w.cell? ⟨b, off + i, none⟩ = some (.int k (gI l i)) := by
  obtain ⟨a', cap', e, h1, h2, h3, h4⟩ := h
  injection e with e1 e2 e3
  subst e1
  rcases h4 with rfl | h4
  · simp at hl
  · exact h4
theorem mdinsC (a b c : Int) (L : List (ByteArray × Int)) (hL : ∀ x ∈ L, 0 ≤ x.2) (x : Int) (u : Value) (w : World) (h : Ints .i64 w u (mdL a b c L)) :
    Calls Try.prog 19 #[.agg #[.int .i64 (mdD a), .int .i64 (mdS b), .int .u64 (i2u c), u, .bool (mdB a b c L)], .agg #[.string (itmOf x).1, .int .i64 (itmOf x).2]] w fun e w' => ∃ u, e = .returned (.tuple #[.agg #[.int .i64 (mdD a), .int .i64 (mdS b), .int .u64 (i2u c), u, .bool (mdB a b c (L ++ [itmOf x]))], .int .i64 0]) ∧ Ints .i64 w' u (mdL a b c (L ++ [itmOf x])) ∧ Fresh w.heap.size u ∧ w.grownBy w' none := by
  have h := cmins_can (z := i2u c) (n := mdN a b) (key := (itmOf x).1) (wt := (itmOf x).2) u w (md_siz a b) rfl (sumT_nonneg (mdD a) (mdS b) (i2u c) hL) (itmOf_ok x).1 (itmOf_ok x).2 h
  rw [← sumT_snoc] at h
  exact h
theorem mdest (a b c : Int) (L : List (ByteArray × Int)) (hL : ∀ x ∈ L, 0 ≤ x.2) (key : ByteArray) (hk : 1 ≤ key.size ∧ key.size ≤ 3) (u : Value) (w : World) (h : Ints .i64 w u (mdL a b c L)) :
    Calls Try.prog 23 #[.agg #[.int .i64 (mdD a), .int .i64 (mdS b), .int .u64 (i2u c), u, .bool (mdB a b c L)], .string key] w fun e w' => e = .returned (.tuple #[.int .i64 (estK (cmI (i2u c) (mdS b) key) (mdL a b c L) (mdD a).toNat), .int .i64 0]) ∧ w.grownBy w' none := by
  have hE : estE (mdD a) (mdS b) (mdL a b c L) key = 0 := by
    unfold estE mdL mdN
    rw [if_neg (by rw [cmE_can (md_siz a b) (sumT_nonneg _ _ _ hL)]; simp), if_neg (by rw [keyB_of hk]; simp)]
  have h := cmest_any (mdD a) (mdS b) (i2u c) u _ (mdB a b c L) key w h (by omega)
  rw [hE, show estV (mdD a) (mdS b) (i2u c) (mdL a b c L) key = estK (cmI (i2u c) (mdS b) key) (mdL a b c L) (mdD a).toNat from by unfold estV; rw [if_pos hE]] at h
  exact h
theorem str_eq_iff (a b : ByteArray) : (a.toList == b.toList) = decide (a = b) := by
  rw [Bool.eq_iff_iff, beq_iff_eq, decide_eq_true_iff]
  exact ⟨bytes_ext, fun h => by rw [h]⟩
set_option maxRecDepth 100000 in
set_option maxHeartbeats 3200000 in
theorem CountminBounds_walk (a0 a1 a2 : Int) (v3 : Value) (l3 : List Int) (a4 : Int) (w : World) (h0 : (Lit.int .i64 a0).wf = true) (h1 : (Lit.int .i64 a1).wf = true) (h2 : (Lit.int .i64 a2).wf = true) (h3 : Ints .i64 w v3 l3) (hb3 : l3.length * 8 ≤ 140737488351232) (h4 : (Lit.int .i64 a4).wf = true) :
    Calls Try.prog 6 #[.int .i64 a0, .int .i64 a1, .int .i64 a2, v3, .int .i64 a4] w fun e w' => e = .returned (.bool true) ∧ Below w.heap.size w w' := by
  have b0 := bounds_i64 h0
  have b1 := bounds_i64 h1
  have b2 := bounds_i64 h2
  have b4 := bounds_i64 h4
  have KN := Lib.hid (fun w => knowncm_any w)
  have hsz := md_siz a0 a1
  have hD := mdD_in a0
  have hS := mdS_in a1
  have C1 := Lib.hid (fun w => cmnew_any (mdD a0) (mdS a1) (i2u a2) w)
  rw [show nwI (mdD a0) (mdS a1) (mdD a0) = mdD a0 from if_pos hsz, show nwI (mdD a0) (mdS a1) (mdS a1) = mdS a1 from if_pos hsz, show nwI (mdD a0) (mdS a1) (i2u a2) = i2u a2 from if_pos hsz, show nwE (mdD a0) (mdS a1) = 0 from if_pos hsz, show nwL (mdD a0) (mdS a1) = List.replicate (mdN a0 a1) 0 from if_pos hsz, ← mdL_nil a0 a1 a2] at C1
  have C2 := Lib.hid (fun L hL => mdinsC a0 a1 a2 L hL)
  have CI := Lib.hid (fun (x : Int) w => itm_any (bits BinOp.and IntKind.i64 x 65535) w (by unfold i64I; rw [and_mask x 16 (by omega) 65535 (by decide)]; omega))
  obtain ⟨m4, e4, l4, u4⟩ : ∃ m, bits BinOp.and IntKind.i64 a4 255 = m ∧ 0 ≤ m ∧ m ≤ 255 := ⟨_, and_mask _ 8 (by omega) 255 (by decide), by omega, by omega⟩
  have CK := Lib.hid (fun w => itmkey_any m4 w (by unfold i64I; omega))
  have C3 := Lib.hid (fun L hL u w h => mdest a0 a1 a2 L hL (itmK m4) (itmK_size m4) u w h)
  have HEB := Lib.hid (fun (L : List (ByteArray × Int)) (hL : ∀ x ∈ L, 0 ≤ x.2) (hB : mdB a0 a1 a2 L = false) => est_bd (key := itmK m4) hsz hL hB)
  have HE : Hid (∀ (L : List (ByteArray × Int)) (hL : ∀ x ∈ L, 0 ≤ x.2) (hB : mdB a0 a1 a2 L = false), ownS (itmK m4) L ≤ estK (cmI (i2u a2) (mdS a1) (itmK m4)) (mdL a0 a1 a2 L) (mdD a0).toNat ∧ estK (cmI (i2u a2) (mdS a1) (itmK m4)) (mdL a0 a1 a2 L) (mdD a0).toNat ≤ allS L) := HEB.out
  have HEI : Hid (∀ (L : List (ByteArray × Int)) (hL : ∀ x ∈ L, 0 ≤ x.2), 0 ≤ estK (cmI (i2u a2) (mdS a1) (itmK m4)) (mdL a0 a1 a2 L) (mdD a0).toNat ∧ estK (cmI (i2u a2) (mdS a1) (itmK m4)) (mdL a0 a1 a2 L) (mdD a0).toNat ≤ 4294967295) := fun L hL => by
    refine estK_in (okL_canL (sumT_nonneg _ _ _ hL)) fun j hj => ?_
    have hm := mul_in hsz
    exact (cmI_lt (z := i2u a2) (l := mdL a0 a1 a2 L) (itmK m4) hsz (by unfold mdL mdN; rw [length_canL]; omega) (k := j) (by omega)).1
  clear HEB
  have hN := mdB_nil a0 a1 a2
  have eD : 1 + bits BinOp.and IntKind.i64 a0 3 = mdD a0 := rfl
  have eS : 1 + bits BinOp.and IntKind.i64 a1 7 = mdS a1 := rfl
  have eZ : IntKind.u64.wrap a2 = i2u a2 := rfl
  have bD : 0 ≤ bits BinOp.and IntKind.i64 a0 3 ∧ bits BinOp.and IntKind.i64 a0 3 ≤ 3 := by omega
  have bS : 0 ≤ bits BinOp.and IntKind.i64 a1 7 ∧ bits BinOp.and IntKind.i64 a1 7 ≤ 7 := by omega
  generalize mdL a0 a1 a2 = q at *
  generalize mdB a0 a1 a2 = p at *
  generalize mdD a0 = D at *
  generalize mdS a1 = S at *
  generalize i2u a2 = Z at *
  generalize itmK m4 = key at *
  obtain ⟨am, ea⟩ : ∃ m, bits BinOp.and IntKind.i64 a0 3 = m := ⟨_, rfl⟩
  obtain ⟨bm, eb⟩ : ∃ m, bits BinOp.and IntKind.i64 a1 7 = m := ⟨_, rfl⟩
  rw [ea] at eD bD
  rw [eb] at eS bS
  obtain ⟨av, cap, rfl, q1, q2, -, -⟩ := id h3
  unfold maxLen at q2
  have HV := Lib.hid h3
  have HN := Lib.hid hN
  clear h0 h1 h2 h3 h4 hsz hN
  go_enter Try.func6, Try.ntmps6
  go_wp2_with fail
  refine (C1.out _).mono ?_
  rintro e w1 ⟨u1, rfl, I1, f1, g1⟩
  obtain ⟨a1', k1, rfl, -, -, -, -⟩ := id I1
  go_wp2_with fail
  refine (CK.out _).mono ?_
  rintro e w2 ⟨rfl, g2⟩
  have p1 := (Blk.new w1 _ _).keep g2
  have I2 := I1.grown ((grown_alloc _ _).trans' g2)
  have G2 := (g1.trans' (grown_alloc _ _)).trans' g2
  have hz1 := g1.size
  have hp1 := p1.lt
  go_wp2
  go_loopw [16, 12, 14, 15] (fun i er ow al wr => ∃ (k : Nat) (u : Value), k ≤ l3.length ∧ k ≤ 10 ∧ i = .int .i64 k ∧ er = .int .i64 0 ∧ ow = .int .i64 (ownS key ((l3.map itmOf).take k)) ∧ al = .int .i64 (allS ((l3.map itmOf).take k)) ∧ Blk w1.heap.size #[.int .i64 D, .int .i64 S, .int .u64 Z, u, .bool (p ((l3.map itmOf).take k))] 26 wr ∧ Ints .i64 wr u (q ((l3.map itmOf).take k)) ∧ Two w1.heap.size w1.heap.size w2 wr) (fun i _ _ _ _ => 10 - (intOf i).toNat)
  case atStart =>
    refine ⟨0, _, by omega, by omega, rfl, rfl, rfl, rfl, ?_, I2, Two.refl _ _ _⟩
    show Blk _ #[_, _, _, _, .bool (p [])] _ _
    rw [HN.out]
    exact p1
  case round =>
    obtain ⟨k, u, hk, hk10, rfl, rfl, rfl, rfl, b2, I3, T3⟩ := hrel
    have G3 := T3.up G2 (by omega) (by omega)
    obtain ⟨au, ku, rfl, -, -, -, -⟩ := id I3
    have hob := own_bd key (itms_in l3 k)
    have hll : ((l3.map itmOf).take k).length ≤ 10 := by rw [List.length_take]; omega
    by_cases hcont : k < l3.length ∧ k < 10
    · obtain ⟨hlt, h10⟩ := hcont
      obtain ⟨bl, off, rfl, hbl, hcl⟩ := HV.out.atB (by omega)
      have hck := kcell G3 (hcl k hlt) hbl
      have C4 := C2.out ((l3.map itmOf).take k) (itms_nonneg' l3 k) (gI l3 k)
      have hw1 := (itmOf_ok (gI l3 k)).2
      have ho := fun h : (itmOf (gI l3 k)).1 = key => (ownS_snoc key ((l3.map itmOf).take k) (itmOf (gI l3 k))).trans (if_pos h)
      have hp := fun h : ¬ (itmOf (gI l3 k)).1 = key => (ownS_snoc key ((l3.map itmOf).take k) (itmOf (gI l3 k))).trans (if_neg h)
      have ha := allS_snoc ((l3.map itmOf).take k) (itmOf (gI l3 k))
      rw [← itms_snoc hlt] at C4 ho hp ha
      have C3' := CI.out (gI l3 k)
      simp only [itmOf] at C4 ho hp ha hw1
      generalize itmW (bits BinOp.and IntKind.i64 (gI l3 k) 65535) = wt at *
      generalize itmK (bits BinOp.and IntKind.i64 (gI l3 k) 65535) = ky at *
      have CC := Lib.hid C3'
      have CD := Lib.hid C4
      have hlt' : decide ((k : Int) < l3.length) = true := decide_eq_true (by omega)
      have h10' : decide ((k : Int) < 10) = true := decide_eq_true (by omega)
      have e1 : (k : Int) < l3.length := by omega
      have e2 : (0 : Int) ≤ k := by omega
      have hzr := T3.size
      have hb2 := b2.lt
      generalize p ((l3.map itmOf).take k) = pk at *
      generalize q ((l3.map itmOf).take k) = qk at *
      generalize ownS key ((l3.map itmOf).take k) = ow at *
      generalize allS ((l3.map itmOf).take k) = al at *
      have hb1 : 0 ≤ ow ∧ ow ≤ 42949672950 := by omega
      have hb3' : 0 ≤ al ∧ al ≤ 42949672950 := by omega
      have HO := Lib.hid ho
      have HP := Lib.hid hp
      have HA := Lib.hid ha
      clear C4 C3' ho hp ha hob hll hcl
      obtain ⟨c10, c11, c12, c13, c14⟩ := b2.ev5
      have gr := grown_refl wr
      have ga : ∀ (w : World) (o : Obj), w.grownBy (w.alloc o) none := grown_alloc
      go_wp2_with fail
      refine (CC.out _).mono ?_
      rintro e w4 ⟨rfl, g4⟩
      have I4 := I3.grown (g4.trans' (grown_alloc _ (Obj.cells #[.string ky, .int .i64 wt] 37)))
      have b4' := b2.keep g4
      clear c10 c11 c12 c13 c14
      obtain ⟨c10, c11, c12, c13, c14⟩ := b4'.ev5
      go_wp2_with fail
      refine (CD.out _ _ I4).mono ?_
      rintro e w5 ⟨u5, rfl, I5, f5, g5⟩
      have x5 := (Blk.new w4 _ _).keep g5
      have b5 := b4'.keep ((grown_alloc _ _).trans' g5)
      have g45 := g4.trans' ((grown_alloc _ _).trans' g5)
      have hz4 := g4.size
      have hz5 := g5.size
      simp only [World.size_alloc] at hz5
      obtain ⟨a5, k5, rfl, -, -, -, -⟩ := id I5
      have f5' := f5.mono (show w4.heap.size ≤ _ by simp)
      clear c10 c11 c12 c13 c14
      obtain ⟨c10, c11, c12, c13, c14, c15⟩ := b5.at5
      obtain ⟨x50, x51, x52⟩ := x5.at2
      have hne1 : w4.heap.size ≠ w1.heap.size := by omega
      have hne2 : w1.heap.size ≠ w4.heap.size := by omega
      by_cases hkey : ky = key
      · have hke : (ky.toList == key.toList) = true := by rw [str_eq_iff]; exact decide_eq_true hkey
        have HK := Lib.hid hkey
        clear hkey
        go_wp2
        go_roundw
        case rel =>
          refine ⟨k + 1, .slice a5 _ k5, by omega, by omega, by go_num, rfl, ?_, ?_, ((((b5.set 0 _).set 1 _).set 2 _).set 3 _).set 4 _, ?_, (((((T3.grown g45).setp 0 _).setp 1 _).setp 2 _).setp 3 _).setp 4 _⟩
          · rw [HO.out HK.out]
          · rw [HA.out]
          · repeat (with_reducible refine Ints.setF ?_ f5' _ (by omega))
            exact I5
        case measure => simp [intOf]; omega
      · have hke : (ky.toList == key.toList) = false := by rw [str_eq_iff]; exact decide_eq_false hkey
        have HK := Lib.hid hkey
        clear hkey
        go_wp2
        go_roundw
        case rel =>
          refine ⟨k + 1, .slice a5 _ k5, by omega, by omega, by go_num, rfl, ?_, ?_, ((((b5.set 0 _).set 1 _).set 2 _).set 3 _).set 4 _, ?_, (((((T3.grown g45).setp 0 _).setp 1 _).setp 2 _).setp 3 _).setp 4 _⟩
          · rw [HP.out HK.out]
          · rw [HA.out]
          · repeat (with_reducible refine Ints.setF ?_ f5' _ (by omega))
            exact I5
        case measure => simp [intOf]; omega
    · have hL := itms_nonneg' l3 k
      have htest : (¬ k < l3.length ∧ decide (k < l3.length) = false ∧ decide ((k : Int) < l3.length) = false) ∨ ((k < l3.length ∧ ¬ k < 10) ∧ (decide (k < l3.length) = true ∧ decide ((k : Int) < l3.length) = true) ∧ decide ((k : Int) < 10) = false) := by
        by_cases h : k < l3.length
        · exact .inr ⟨⟨h, by omega⟩, ⟨decide_eq_true h, decide_eq_true (by omega)⟩, decide_eq_false (by omega)⟩
        · exact .inl ⟨h, decide_eq_false h, decide_eq_false (by omega)⟩
      have C4 := Lib.hid (fun u w h => C3.out ((l3.map itmOf).take k) hL u w h)
      have hei := HEI.out ((l3.map itmOf).take k) hL
      have heb := HE.out ((l3.map itmOf).take k) hL
      generalize p ((l3.map itmOf).take k) = pk at *
      generalize estK (cmI Z S key) (q ((l3.map itmOf).take k)) D.toNat = V at *
      generalize q ((l3.map itmOf).take k) = qk at *
      generalize ownS key ((l3.map itmOf).take k) = ow at *
      generalize allS ((l3.map itmOf).take k) = al at *
      have hb1 : 0 ≤ ow ∧ ow ≤ 42949672950 := by omega
      have hb3' : 0 ≤ al ∧ al ≤ 42949672950 := by omega
      obtain ⟨c10, c11, c12, c13, c14⟩ := b2.ev5
      have gr := grown_refl wr
      clear hcont hob hll hL HE HEI
      have HEB := Lib.hid heb
      clear heb
      rcases htest with ⟨h0, h1, h2⟩ | ⟨⟨h0, h00⟩, ⟨h1, h3⟩, h2⟩
      all_goals
        go_wp2_with fail
        refine (C4.out _ _ I3).mono ?_
        rintro e w4 ⟨rfl, g4⟩
        have b4' := b2.keep g4
        clear c10 c11 c12 c13 c14
        obtain ⟨c10, c11, c12, c13, c14, c15⟩ := b4'.at5
        cases pk
        · obtain ⟨hv1, hv2⟩ := HEB.out rfl
          go_wp2_with fail
          refine (KN.out _).mono ?_
          rintro e w5 ⟨rfl, g5⟩
          go_wp2
          go_ret
          exact ⟨rfl, below_of_grown ((G3.trans' g4).trans' g5)⟩
        · go_wp2_with fail
          refine (KN.out _).mono ?_
          rintro e w5 ⟨rfl, g5⟩
          go_wp2
          go_ret
          exact ⟨rfl, below_of_grown ((G3.trans' g4).trans' g5)⟩
end Go.Proofs.Ytigpbfmnbdbpcaa
