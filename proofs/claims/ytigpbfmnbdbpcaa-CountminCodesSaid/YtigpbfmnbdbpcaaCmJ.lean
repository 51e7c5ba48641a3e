/- The walks of Estimate and of its reference. Conditions: cells and keys of Go's size. -/
import Derived.Test.YtigpbfmnbdbpcaaCmI
import Derived.Test.YtigpbfmnbdbpcaaSeq
namespace Go.Proofs.Ytigpbfmnbdbpcaa
open Go.RowKit Go.ChangeShapes Go.WideShapes
set_option linter.unusedVariables false
set_option linter.unusedSimpArgs false
def estE (d s : Int) (l : List Int) (key : ByteArray) : Int := if cmE d s l ≠ 0 then cmE d s l else if keyB key = false then 7 else 0
def estV (d s z : Int) (l : List Int) (key : ByteArray) : Int := if estE d s l key = 0 then estK (cmI z s key) l d.toNat else 0
set_option maxRecDepth 100000 in
set_option maxHeartbeats 3200000 in
theorem cmest_any (d s z : Int) (v : Value) (l : List Int) (b : Bool) (key : ByteArray) (w : World) (hv : Ints .i64 w v l) (hks : key.size ≤ 140737488355328) :
    Calls Try.prog 23 #[.agg #[.int .i64 d, .int .i64 s, .int .u64 z, v, .bool b], .string key] w fun e w' => e = .returned (.tuple #[.int .i64 (estV d s z l key), .int .i64 (estE d s l key)]) ∧ w.grownBy w' none := by
  by_cases hE : cmE d s l = 0
  · cases hK : keyB key
    · have h1 : Hid (estE d s l key = 7) := by show _ = _; unfold estE; rw [if_neg (by simpa using hE), if_pos hK]
      have h2 : Hid (estV d s z l key = 0) := by show _ = _; unfold estV; rw [if_neg (by rw [h1.out]; decide)]
      have C1 := Lib.hid (fun w (h : Ints .i64 w v l) => cmvalid_any d s z v l b w h)
      rw [hE] at C1
      have C2 := Lib.hid (fun w => iskey_any key w (by unfold maxLen; omega))
      rw [hK] at C2
      have HV := Lib.hid hv
      obtain ⟨a, cap, rfl, -, -, -, -⟩ := id hv
      clear hv hE hK
      go_enter Try.func23, Try.ntmps23
      go_wp2_with fail
      refine (C1.out _ (HV.out.grown (grown_alloc _ _))).mono ?_
      rintro e w1 ⟨rfl, g1⟩
      go_wp2_with fail
      refine (C2.out _).mono ?_
      rintro e w' ⟨rfl, rfl⟩
      go_wp2
      go_ret2
      rw [h1.out, h2.out]
      exact ⟨rfl, (grown_alloc _ _).trans' g1⟩
    · obtain ⟨hs, hl, hg⟩ := cmE_ok hE
      have h1 : Hid (estE d s l key = 0) := by show _ = _; unfold estE; rw [if_neg (by simpa using hE), if_neg (by rw [hK]; simp)]
      have h2 : Hid (estV d s z l key = estK (cmI z s key) l d.toNat) := by show _ = _; unfold estV; rw [if_pos h1.out]
      have hm := mul_in hs
      have hlt := fun (k : Nat) (hk : (k : Int) < d) => cmI_lt (z := z) key hs hl hk
      obtain ⟨q1, q2, q3, q4⟩ : 1 ≤ d ∧ d ≤ 8 ∧ 1 ≤ s ∧ s ≤ 64 := hs
      obtain ⟨D, rfl⟩ : ∃ D : Nat, d = D := ⟨d.toNat, by omega⟩
      rw [Int.toNat_natCast] at h2
      have C1 := Lib.hid (fun w (h : Ints .i64 w v l) => cmvalid_any (D : Int) s z v l b w h)
      rw [hE] at C1
      have C2 := Lib.hid (fun w => iskey_any key w (by unfold maxLen; omega))
      rw [hK] at C2
      have C4 := Lib.hid (fun w (h : Ints .i64 w v l) => addresses_any D s z v l b key w h (by omega) (by omega) (by omega) hks)
      have C5 := Lib.hid (fun (k : Nat) (hk : (k : Int) < D) w (h : Ints .i64 w v l) => index_any D s z v l b k (colF z k s key) w h (by omega) (by omega) q3 q4 (col_in (by omega) (by omega) q3 q4).1 (by have := (col_in (z := z) (key := key) (r := k) (by omega) (by omega) q3 q4).2; omega))
      have HV := Lib.hid hv
      have HG := Lib.hid hg
      have HL := Lib.hid hlt
      have HLen := Lib.hid hl
      have hpos : 0 < l.length := by omega
      have hl5 : l.length ≤ 512 := by omega
      obtain ⟨a, cap, rfl, -, -, -, h7⟩ := id hv
      obtain ⟨bl, off, rfl, hbl, hcl⟩ : ∃ bl off, a = some ⟨bl, off, none⟩ ∧ bl < w.heap.size ∧ ∀ i, i < l.length → w.cell? ⟨bl, off + i, none⟩ = some (.int .i64 (gI l i)) := by
        rcases h7 with rfl | h7
        · simp at hpos
        · exact h7
      have HC := Lib.hid hcl
      clear hE hK hg hlt hl hv hcl h7
      go_enter Try.func23, Try.ntmps23
      go_wp2_with fail
      refine (C1.out _ (HV.out.grown (grown_alloc _ _))).mono ?_
      rintro e w1 ⟨rfl, g1⟩
      have c1 := (Blk.new w _ _).keep g1
      have G1 := (grown_alloc _ _).trans' g1
      have hz1 : w.heap.size + 1 ≤ w1.heap.size := by simpa using g1.size
      go_wp2_with fail
      refine (C2.out _).mono ?_
      rintro e w' ⟨rfl, rfl⟩
      obtain ⟨c10, c11, c12, c13, c14, c15⟩ := c1.at5
      go_wp2_with fail
      refine (C4.out _ (HV.out.grown G1)).mono ?_
      rintro e w4 ⟨va, rfl, ha, g4⟩
      obtain ⟨ga, ca, rfl, hga, A4, hca1, hca2⟩ := cxs_of_own ha (by omega)
      have c4 := c1.keep g4
      have G4 := G1.trans' g4
      have hz4 := g4.size
      clear c10 c11 c12 c13 c14 c15 ha g4 g1 c1 G1
      go_wp2
      go_loopw [7, 22] (fun n i wr => ∃ k : Nat, k ≤ D ∧ i = .int .i64 k ∧ n = .int .i64 (estK (cmI z s key) l k) ∧ w4.grownBy wr none) (fun _ i _ => D - (intOf i).toNat)
      case atStart => exact ⟨0, by omega, rfl, rfl, grown_refl _⟩
      case round =>
        obtain ⟨k, hk, rfl, rfl, hg⟩ := hrel
        by_cases hlt : k < D
        · obtain ⟨cur, cb, cc⟩ := A4
          have ccx := cc k hlt
          unfold cxA at ccx
          have a5 := (cb.keep hg).cell k ccx
          obtain ⟨hI1, hI2, hI3⟩ := HL.out k (by omega)
          have C6 := C5.out k (by omega)
          rw [cmI_eq z s key k hI3] at C6
          have hei := estK_in (idx := cmI z s key) HG.out (k := k) (fun j hj => (HL.out j (by omega)).1)
          have hnx : estK (cmI z s key) l (k + 1) = min (estK (cmI z s key) l k) (gI l (cmI z s key k)) := rfl
          have HN := Lib.hid hnx
          have hgi := HG.out _ (gI_mem hI1)
          have fx : ∀ w' : World, w4.grownBy w' none → w'.cell? ⟨bl, off + cmI z s key k, none⟩ = some (.int .i64 (gI l (cmI z s key k))) := fun w' g => kcell (G4.trans' g) (HC.out _ hI1) hbl
          generalize estK (cmI z s key) l k = n at *
          generalize gI l (cmI z s key k) = x at *
          generalize cmI z s key k = I at *
          have C6 := Lib.hid C6
          have f0 : ∀ w' : World, w4.grownBy w' none → w'.cell? ⟨w.heap.size, 0, none⟩ = some (.int .i64 D) := fun w' g => (c4.keep g).at5.1
          have f1 : ∀ w' : World, w4.grownBy w' none → w'.cell? ⟨w.heap.size, 1, none⟩ = some (.int .i64 s) := fun w' g => (c4.keep g).at5.2.1
          have f2 : ∀ w' : World, w4.grownBy w' none → w'.cell? ⟨w.heap.size, 2, none⟩ = some (.int .u64 z) := fun w' g => (c4.keep g).at5.2.2.1
          have f3 : ∀ w' : World, w4.grownBy w' none → w'.cell? ⟨w.heap.size, 3, none⟩ = some (.slice (some ⟨bl, off, none⟩) l.length cap) := fun w' g => (c4.keep g).at5.2.2.2.1
          have f4 : ∀ w' : World, w4.grownBy w' none → w'.cell? ⟨w.heap.size, 4, none⟩ = some (.bool b) := fun w' g => (c4.keep g).at5.2.2.2.2.1
          have e1 : (I : Int) < l.length := by omega
          have e2 : (0 : Int) ≤ I := by omega
          clear hI2 hI3 hnx cc ccx cb
          go_wp2_with fail
          refine wp_region_seq [true, true, true, true, true, false, true, true, true, true] (fun w' => w4.grownBy w' none) (by kernel_rfl) (by kernel_rfl) (by kernel_rfl) (hg.trans' (grown_drew1 _)) ?_
          clear a5
          repeat (first
            | ((refine seq_skip (by rfl) ?_); (try simp only [Act.put, List.setIfInBounds_toArray, List.set_cons_zero, List.set_cons_succ]))
            | ((refine seq_take ?_ (by rfl) ?_ ?_); rotate_left; (focus (intro w' hS; go_simp; first | done | with_reducible rfl)); (try simp only [Act.put, List.setIfInBounds_toArray, List.set_cons_zero, List.set_cons_succ])))
          refine seq_run (by rfl) ?_
          intro K hK
          go_simp
          refine (C6.out _ (HV.out.grown (G4.trans' (hg.trans' (grown_drew1 _))))).mono ?_
          rintro e w6 ⟨rfl, g6⟩
          refine hK _ _ (hg.trans' ((grown_drew1 _).trans' g6)) ?_
          clear hK K
          have g7 := hg.trans' ((grown_drew1 _).trans' g6)
          try simp only [Act.put, List.setIfInBounds_toArray, List.set_cons_zero, List.set_cons_succ]
          repeat (first
            | ((refine seq_skip (by rfl) ?_); (try simp only [Act.put, List.setIfInBounds_toArray, List.set_cons_zero, List.set_cons_succ]))
            | ((refine seq_take ?_ (by rfl) ?_ ?_); rotate_left; (focus (intro w' hS; go_simp; first | done | with_reducible rfl)); (try simp only [Act.put, List.setIfInBounds_toArray, List.set_cons_zero, List.set_cons_succ])))
          refine seq_end ?_
          go_wp2
          go_roundw
          case rel =>
            refine ⟨k + 1, by omega, by go_num, ?_, g7⟩
            rw [HN.out]
            go_num
          case measure => simp [intOf]; omega
        · obtain rfl : k = D := by omega
          go_wp2
          go_ret2
          rw [h1.out, h2.out]
          exact ⟨rfl, G4.trans' hg⟩
  · have h1 : Hid (estE d s l key = cmE d s l) := by show _ = _; unfold estE; rw [if_pos hE]
    have h2 : Hid (estV d s z l key = 0) := by show _ = _; unfold estV; rw [if_neg (by rw [h1.out]; exact hE)]
    have C1 := Lib.hid (fun w (h : Ints .i64 w v l) => cmvalid_any d s z v l b w h)
    have HV := Lib.hid hv
    obtain ⟨a, cap, rfl, -, -, -, -⟩ := id hv
    generalize cmE d s l = E at *
    have hb1 : (E != 0) = true := by rw [bne_iff_ne]; exact hE
    clear hv hE
    go_enter Try.func23, Try.ntmps23
    go_wp2_with fail
    refine (C1.out _ (HV.out.grown (grown_alloc _ _))).mono ?_
    rintro e w1 ⟨rfl, g1⟩
    go_wp2
    go_ret2
    rw [h1.out, h2.out]
    exact ⟨rfl, (grown_alloc _ _).trans' g1⟩
set_option maxRecDepth 100000 in
set_option maxHeartbeats 3200000 in
theorem cmestr_any (d s z : Int) (v : Value) (l : List Int) (b : Bool) (key : ByteArray) (w : World) (hv : Ints .i64 w v l) (hks : key.size ≤ 140737488355328) :
    Calls Try.prog 24 #[.agg #[.int .i64 d, .int .i64 s, .int .u64 z, v, .bool b], .string key] w fun e w' => e = .returned (.tuple #[.int .i64 (estV d s z l key), .int .i64 (estE d s l key)]) ∧ w.grownBy w' none := by
  by_cases hE : cmE d s l = 0
  · cases hK : keyB key
    · have h1 : Hid (estE d s l key = 7) := by show _ = _; unfold estE; rw [if_neg (by simpa using hE), if_pos hK]
      have h2 : Hid (estV d s z l key = 0) := by show _ = _; unfold estV; rw [if_neg (by rw [h1.out]; decide)]
      have C1 := Lib.hid (fun w (h : Ints .i64 w v l) => cmvalidr_any d s z v l b w h)
      rw [hE] at C1
      have C2 := Lib.hid (fun w => iskeyr_any key w (by unfold maxLen; omega))
      rw [hK] at C2
      have HV := Lib.hid hv
      obtain ⟨a, cap, rfl, -, -, -, -⟩ := id hv
      clear hv hE hK
      go_enter Try.func24, Try.ntmps24
      go_wp2_with fail
      refine (C1.out _ (HV.out.grown (grown_alloc _ _))).mono ?_
      rintro e w1 ⟨rfl, g1⟩
      go_wp2_with fail
      refine (C2.out _).mono ?_
      rintro e w' ⟨rfl, rfl⟩
      go_wp2
      go_ret2
      rw [h1.out, h2.out]
      exact ⟨rfl, (grown_alloc _ _).trans' g1⟩
    · obtain ⟨hs, hl, hg⟩ := cmE_ok hE
      have h1 : Hid (estE d s l key = 0) := by show _ = _; unfold estE; rw [if_neg (by simpa using hE), if_neg (by rw [hK]; simp)]
      have h2 : Hid (estV d s z l key = estK (cmI z s key) l d.toNat) := by show _ = _; unfold estV; rw [if_pos h1.out]
      have hm := mul_in hs
      have hlt := fun (k : Nat) (hk : (k : Int) < d) => cmI_lt (z := z) key hs hl hk
      obtain ⟨q1, q2, q3, q4⟩ : 1 ≤ d ∧ d ≤ 8 ∧ 1 ≤ s ∧ s ≤ 64 := hs
      obtain ⟨D, rfl⟩ : ∃ D : Nat, d = D := ⟨d.toNat, by omega⟩
      rw [Int.toNat_natCast] at h2
      have C1 := Lib.hid (fun w (h : Ints .i64 w v l) => cmvalidr_any (D : Int) s z v l b w h)
      rw [hE] at C1
      have C2 := Lib.hid (fun w => iskeyr_any key w (by unfold maxLen; omega))
      rw [hK] at C2
      have C5 := Lib.hid (fun (k : Nat) (hk : (k : Int) < D) w (h : Ints .i64 w v l) => cell_any (D : Int) s z v l b k key w h (by omega) (by omega) q3 q4 hks ⟨(col_in (by omega) (by omega) q3 q4).1, by have := (col_in (z := z) (key := key) (r := k) (by omega) (by omega) q3 q4).2; omega⟩)
      have HV := Lib.hid hv
      have HG := Lib.hid hg
      have HL := Lib.hid hlt
      have HLen := Lib.hid hl
      have hpos : 0 < l.length := by omega
      have hl5 : l.length ≤ 512 := by omega
      obtain ⟨a, cap, rfl, -, -, -, h7⟩ := id hv
      obtain ⟨bl, off, rfl, hbl, hcl⟩ : ∃ bl off, a = some ⟨bl, off, none⟩ ∧ bl < w.heap.size ∧ ∀ i, i < l.length → w.cell? ⟨bl, off + i, none⟩ = some (.int .i64 (gI l i)) := by
        rcases h7 with rfl | h7
        · simp at hpos
        · exact h7
      have HC := Lib.hid hcl
      clear hE hK hg hlt hl hv hcl h7
      go_enter Try.func24, Try.ntmps24
      go_wp2_with fail
      refine (C1.out _ (HV.out.grown (grown_alloc _ _))).mono ?_
      rintro e w1 ⟨rfl, g1⟩
      have c1 := (Blk.new w _ _).keep g1
      have G1 := (grown_alloc _ _).trans' g1
      have hz1 : w.heap.size + 1 ≤ w1.heap.size := by simpa using g1.size
      go_wp2_with fail
      refine (C2.out _).mono ?_
      rintro e w' ⟨rfl, rfl⟩
      have f0 : ∀ w' : World, w1.grownBy w' none → w'.cell? ⟨w.heap.size, 0, none⟩ = some (.int .i64 D) := fun w' g => (c1.keep g).at5.1
      have f1 : ∀ w' : World, w1.grownBy w' none → w'.cell? ⟨w.heap.size, 1, none⟩ = some (.int .i64 s) := fun w' g => (c1.keep g).at5.2.1
      have f2 : ∀ w' : World, w1.grownBy w' none → w'.cell? ⟨w.heap.size, 2, none⟩ = some (.int .u64 z) := fun w' g => (c1.keep g).at5.2.2.1
      have f3 : ∀ w' : World, w1.grownBy w' none → w'.cell? ⟨w.heap.size, 3, none⟩ = some (.slice (some ⟨bl, off, none⟩) l.length cap) := fun w' g => (c1.keep g).at5.2.2.2.1
      have f4 : ∀ w' : World, w1.grownBy w' none → w'.cell? ⟨w.heap.size, 4, none⟩ = some (.bool b) := fun w' g => (c1.keep g).at5.2.2.2.2.1
      have fx0 : ∀ w' : World, w1.grownBy w' none → w'.cell? ⟨bl, off + cmI z s key 0, none⟩ = some (.int .i64 (gI l (cmI z s key 0))) := fun w' g => kcell (G1.trans' g) (HC.out _ (HL.out 0 (by omega)).1) hbl
      have C60 := C5.out 0 (by omega)
      rw [cmI_eq z s key 0 (HL.out 0 (by omega)).2.2, show ((0 : Nat) : Int) = 0 from rfl] at C60
      have h10 := (HL.out 0 (by omega)).1
      have hx0 : gI l (cmI z s key 0) = estK (cmI z s key) l 1 := by
        have := HG.out _ (gI_mem h10)
        show _ = min (4294967295 : Int) (gI l (cmI z s key 0))
        omega
      rw [hx0] at fx0
      have e01 : (cmI z s key 0 : Int) < l.length := by omega
      have e02 : (0 : Int) ≤ cmI z s key 0 := by omega
      have C60 := Lib.hid C60
      clear hx0 h10
      generalize cmI z s key 0 = I0 at *
      go_wp2_with fail
      refine wp_region_seq [true, true, true, true, false, true, true, true] (fun w' => w1.grownBy w' none) (by kernel_rfl) (by kernel_rfl) (by kernel_rfl) (grown_drew1 _) ?_
      repeat (first
            | ((refine seq_skip (by rfl) ?_); (try simp only [Act.put, List.setIfInBounds_toArray, List.set_cons_zero, List.set_cons_succ]))
            | ((refine seq_take ?_ (by rfl) ?_ ?_); rotate_left; (focus (intro w' hS; go_simp; first | done | with_reducible rfl)); (try simp only [Act.put, List.setIfInBounds_toArray, List.set_cons_zero, List.set_cons_succ])))
      refine seq_run (by rfl) ?_
      intro K hK
      go_simp
      refine (C60.out _ (HV.out.grown (G1.trans' (grown_drew1 _)))).mono ?_
      rintro e w5 ⟨rfl, g5⟩
      refine hK _ _ ((grown_drew1 _).trans' g5) ?_
      clear hK K
      have g50 := (grown_drew1 w1).trans' g5
      try simp only [Act.put, List.setIfInBounds_toArray, List.set_cons_zero, List.set_cons_succ]
      repeat (first
            | ((refine seq_skip (by rfl) ?_); (try simp only [Act.put, List.setIfInBounds_toArray, List.set_cons_zero, List.set_cons_succ]))
            | ((refine seq_take ?_ (by rfl) ?_ ?_); rotate_left; (focus (intro w' hS; go_simp; first | done | with_reducible rfl)); (try simp only [Act.put, List.setIfInBounds_toArray, List.set_cons_zero, List.set_cons_succ])))
      refine seq_end ?_
      clear fx0 e01 e02
      go_wp2
      go_loopw [7, 8] (fun n i wr => ∃ k : Nat, 1 ≤ k ∧ k ≤ D ∧ i = .int .i64 k ∧ n = .int .i64 (estK (cmI z s key) l k) ∧ w1.grownBy wr none) (fun _ i _ => D - (intOf i).toNat)
      case atStart => exact ⟨1, by omega, by omega, rfl, rfl, g50⟩
      case round =>
        obtain ⟨k, hk1, hk, rfl, rfl, hg⟩ := hrel
        have f0r := f0 _ hg
        by_cases hlt : k < D
        · obtain ⟨hI1, hI2, hI3⟩ := HL.out k (by omega)
          have C6 := C5.out k (by omega)
          rw [cmI_eq z s key k hI3] at C6
          have hei := estK_in (idx := cmI z s key) HG.out (k := k) (fun j hj => (HL.out j (by omega)).1)
          have hnx : estK (cmI z s key) l (k + 1) = min (estK (cmI z s key) l k) (gI l (cmI z s key k)) := rfl
          have HN := Lib.hid hnx
          have hgi := HG.out _ (gI_mem hI1)
          have fx : ∀ w' : World, w1.grownBy w' none → w'.cell? ⟨bl, off + cmI z s key k, none⟩ = some (.int .i64 (gI l (cmI z s key k))) := fun w' g => kcell (G1.trans' g) (HC.out _ hI1) hbl
          generalize estK (cmI z s key) l k = n at *
          generalize gI l (cmI z s key k) = x at *
          generalize cmI z s key k = I at *
          have C6 := Lib.hid C6
          have e1 : (I : Int) < l.length := by omega
          have e2 : (0 : Int) ≤ I := by omega
          clear hI2 hI3 hnx
          go_wp2_with fail
          clear f0r
          refine wp_region_seq [true, true, true, true, true, true, false, true, true, true, true] (fun w' => w1.grownBy w' none) (by kernel_rfl) (by kernel_rfl) (by kernel_rfl) (hg.trans' (grown_drew1 _)) ?_
          repeat (first
            | ((refine seq_skip (by rfl) ?_); (try simp only [Act.put, List.setIfInBounds_toArray, List.set_cons_zero, List.set_cons_succ]))
            | ((refine seq_take ?_ (by rfl) ?_ ?_); rotate_left; (focus (intro w' hS; go_simp; first | done | with_reducible rfl)); (try simp only [Act.put, List.setIfInBounds_toArray, List.set_cons_zero, List.set_cons_succ])))
          refine seq_run (by rfl) ?_
          intro K hK
          go_simp
          refine (C6.out _ (HV.out.grown (G1.trans' (hg.trans' (grown_drew1 _))))).mono ?_
          rintro e w6 ⟨rfl, g6⟩
          refine hK _ _ (hg.trans' ((grown_drew1 _).trans' g6)) ?_
          clear hK K
          have g7 := hg.trans' ((grown_drew1 _).trans' g6)
          try simp only [Act.put, List.setIfInBounds_toArray, List.set_cons_zero, List.set_cons_succ]
          repeat (first
            | ((refine seq_skip (by rfl) ?_); (try simp only [Act.put, List.setIfInBounds_toArray, List.set_cons_zero, List.set_cons_succ]))
            | ((refine seq_take ?_ (by rfl) ?_ ?_); rotate_left; (focus (intro w' hS; go_simp; first | done | with_reducible rfl)); (try simp only [Act.put, List.setIfInBounds_toArray, List.set_cons_zero, List.set_cons_succ])))
          refine seq_end ?_
          go_wp2
          go_roundw
          case rel =>
            refine ⟨k + 1, by omega, by omega, by go_num, ?_, g7⟩
            rw [HN.out]
            go_num
          case measure => simp [intOf]; omega
        · obtain rfl : k = D := by omega
          go_wp2
          go_ret2
          rw [h1.out, h2.out]
          exact ⟨rfl, G1.trans' hg⟩
  · have h1 : Hid (estE d s l key = cmE d s l) := by show _ = _; unfold estE; rw [if_pos hE]
    have h2 : Hid (estV d s z l key = 0) := by show _ = _; unfold estV; rw [if_neg (by rw [h1.out]; exact hE)]
    have C1 := Lib.hid (fun w (h : Ints .i64 w v l) => cmvalidr_any d s z v l b w h)
    have HV := Lib.hid hv
    obtain ⟨a, cap, rfl, -, -, -, -⟩ := id hv
    generalize cmE d s l = E at *
    have hb1 : (E != 0) = true := by rw [bne_iff_ne]; exact hE
    clear hv hE
    go_enter Try.func24, Try.ntmps24
    go_wp2_with fail
    refine (C1.out _ (HV.out.grown (grown_alloc _ _))).mono ?_
    rintro e w1 ⟨rfl, g1⟩
    go_wp2
    go_ret2
    rw [h1.out, h2.out]
    exact ⟨rfl, (grown_alloc _ _).trans' g1⟩
end Go.Proofs.Ytigpbfmnbdbpcaa
