/- The walk of Insert. Conditions: cells, weights and keys of Go's size. -/
import Derived.Test.YtigpbfmnbdbpcaaCmG
import Derived.Test.YtigpbfmnbdbpcaaCmPl
import Derived.Test.YtigpbfmnbdbpcaaBlk
import Derived.RegionTactic
import Derived.BigRegion
namespace Go.Proofs.Ytigpbfmnbdbpcaa
open Go.RowKit Go.ChangeShapes Go.WideShapes
set_option linter.unusedVariables false
set_option linter.unusedSimpArgs false
/-- The cell of a key in a row. -/
def cmI (z s : Int) (key : ByteArray) (k : Nat) : Nat := ((k : Int) * s + colF z k s key).toNat
def insE (d s : Int) (l : List Int) (key : ByteArray) (wt : Int) : Int := if cmE d s l ≠ 0 then cmE d s l else itemE key wt
def insV (d s z : Int) (l : List Int) (b : Bool) (key : ByteArray) (wt : Int) : List Int × Bool := if insE d s l key wt = 0 then insK (cmI z s key) wt (l, b) d.toNat else ([], false)
def insI (d s : Int) (l : List Int) (key : ByteArray) (wt x : Int) : Int := if insE d s l key wt = 0 then x else 0
theorem cmE_ok {d s : Int} {l : List Int} (h : cmE d s l = 0) : sizB d s ∧ (l.length : Int) = d * s ∧ goodL l := by
  unfold cmE at h
  split at h
  · omega
  · rename_i h1
    split at h
    · omega
    · rename_i h2
      split at h
      · omega
      · rename_i h3
        exact ⟨by simpa using h1, by omega, by simpa using h3⟩
theorem itemE_ok {key : ByteArray} {wt : Int} (h : itemE key wt = 0) : keyB key = true ∧ 1 ≤ wt ∧ wt ≤ 4294967295 := by
  unfold itemE at h
  split at h
  · omega
  · rename_i h1
    split at h
    · omega
    · exact ⟨by simpa using h1, by omega, by omega⟩
theorem col_in {z s : Int} {key : ByteArray} {r : Int} (h0 : 0 ≤ r) (h1 : r ≤ 7) (h2 : 1 ≤ s) (h3 : s ≤ 64) : 0 ≤ colF z r s key ∧ colF z r s key < s := by
  unfold colF
  split
  · exact ⟨Int.emod_nonneg _ (by omega), Int.emod_lt_of_pos _ (by omega)⟩
  · omega
theorem cmI_lt {d s z : Int} {l : List Int} (key : ByteArray) {k : Nat} (hs : sizB d s) (hl : (l.length : Int) = d * s) (hk : (k : Int) < d) : cmI z s key k < l.length ∧ (cmI z s key k : Int) = k * s + colF z k s key ∧ 0 ≤ (k : Int) * s + colF z k s key := by
  obtain ⟨h1, h2, h3, h4⟩ := hs
  have hc := col_in (z := z) (key := key) (r := k) (s := s) (by omega) (by omega) h3 h4
  have h5 : (k : Int) * s + s ≤ d * s := by
    have := Int.mul_le_mul_of_nonneg_right (show (k : Int) + 1 ≤ d by omega) (show 0 ≤ s by omega)
    rw [Int.add_mul] at this
    omega
  have h6 : 0 ≤ (k : Int) * s := Int.mul_nonneg (by omega) (by omega)
  unfold cmI
  omega
theorem cmI_eq (z s : Int) (key : ByteArray) (k : Nat) (h : 0 ≤ (k : Int) * s + colF z k s key) : (k : Int) * s + colF z k s key = (cmI z s key k : Int) := by unfold cmI; omega
theorem addq (a b m : Int) (w : World) (ha : -9223372036854775808 ≤ a ∧ a ≤ 9223372036854775807) (hb : -9223372036854775808 ≤ b ∧ b ≤ 9223372036854775807) (hm : -9223372036854775808 ≤ m ∧ m ≤ 9223372036854775807) :
    Calls Try.prog 47 #[.int .i64 a, .int .i64 b, .int .i64 m] w fun e w' => e = .returned (.tuple #[.int .i64 (addS a b m), .bool (addB a b m)]) ∧ w' = w :=
  (add_any a b m w ha hb hm).mono fun _ _ h => ⟨h.1, h.2.symm⟩
/-- The block g begins with the cells of a key. -/
def CxRow (z s : Int) (key : ByteArray) (D g : Nat) (w : World) : Prop := ∃ cur, Blk g cur 67 w ∧ ∀ j, j < D → cur[j]? = some (cxA z s key j)
theorem cxs_of_own {w : World} {B D : Nat} {u : Value} {z s : Int} {key : ByteArray} (h : w.ownsRow B 67 1 u D (cxL z s key D)) (hD : 0 < D) : ∃ g cap, u = .slice (some ⟨g, 0, none⟩) D cap ∧ B ≤ g ∧ CxRow z s key D g w ∧ D ≤ cap ∧ cap ≤ maxLen := by
  rcases h.2 with ⟨rfl, hn⟩ | ⟨g, cap, cur, rfl, hb, hg, hc, hm, hs, ht⟩
  · omega
  · refine ⟨g, cap, rfl, hb, ⟨cur, hg, fun i hi => ?_⟩, hc, hm⟩
    have h1 : (cur.toList.take (D * 1))[i]? = (cxL z s key D)[i]? := by rw [ht]
    rw [List.getElem?_take, if_pos (by omega)] at h1
    rw [← Array.getElem?_toList, h1]
    simp [cxL, hi]
theorem wf_ok {n : Int} (h : 0 ≤ n ∧ n ≤ 4294967295) : (Lit.int .i64 n).wf = true := by
  simp [Lit.wf, IntKind.min, IntKind.max, IntKind.signed, IntKind.bits]
  omega
set_option maxRecDepth 100000 in
set_option maxHeartbeats 3200000 in
theorem cminsert_any (d s z : Int) (v : Value) (l : List Int) (b : Bool) (key : ByteArray) (wt : Int) (w : World) (hv : Ints .i64 w v l) (hks : key.size ≤ 140737488355328) (hwt : -9223372036854775808 ≤ wt ∧ wt ≤ 9223372036854775807) :
    Calls Try.prog 19 #[.agg #[.int .i64 d, .int .i64 s, .int .u64 z, v, .bool b], .agg #[.string key, .int .i64 wt]] w fun e w' => ∃ u, e = .returned (.tuple #[.agg #[.int .i64 (insI d s l key wt d), .int .i64 (insI d s l key wt s), .int .u64 (insI d s l key wt z), u, .bool (insV d s z l b key wt).2], .int .i64 (insE d s l key wt)]) ∧ Ints .i64 w' u (insV d s z l b key wt).1 ∧ Fresh w.heap.size u ∧ w.grownBy w' none := by
  by_cases hE : cmE d s l = 0
  · by_cases hI : itemE key wt = 0
    · obtain ⟨hs, hl, hg⟩ := cmE_ok hE
      obtain ⟨hk1, hw1, hw2⟩ := itemE_ok hI
      have hIE : insE d s l key wt = 0 := by unfold insE; rw [if_neg (by simpa using hE)]; exact hI
      have e1 : ∀ x, insI d s l key wt x = x := fun x => by unfold insI; rw [if_pos hIE]
      rw [e1, e1, e1, hIE, show insV d s z l b key wt = insK (cmI z s key) wt (l, b) d.toNat from by unfold insV; rw [if_pos hIE]]
      clear e1
      have hm := mul_in hs
      have hlt := fun (k : Nat) (hk : (k : Int) < d) => cmI_lt (z := z) key hs hl hk
      obtain ⟨q1, q2, q3, q4⟩ : 1 ≤ d ∧ d ≤ 8 ∧ 1 ≤ s ∧ s ≤ 64 := hs
      obtain ⟨D, rfl⟩ : ∃ D : Nat, d = D := ⟨d.toNat, by omega⟩
      rw [Int.toNat_natCast]
      have C1 := Lib.hid (fun w (h : Ints .i64 w v l) => cmvalid_any (D : Int) s z v l b w h)
      rw [hE] at C1
      have C2 := Lib.hid (fun w => validItem_any key wt w (by unfold maxLen; omega))
      rw [hI] at C2
      have C3 := Lib.hid (fun w (h : Ints .i64 w v l) => copied_any (D : Int) s z v l b w h (by omega))
      have C4 := Lib.hid (fun w (h : Ints .i64 w v l) => addresses_any D s z v l b key w h (by omega) (by omega) (by omega) hks)
      have HV := Lib.hid hv
      have HG := Lib.hid hg
      have HL := Lib.hid hlt
      have HLen := Lib.hid hl
      have hpos : 0 < l.length := by omega
      clear hE hI hg hlt hk1 hIE hl
      obtain ⟨a, cap, rfl, -, -, -, -⟩ := id hv
      clear hv
      go_enter Try.func19, Try.ntmps19
      go_wp2_with fail
      refine (C1.out _ (HV.out.grown (((grown_alloc _ _).trans' (grown_alloc _ _)).trans' (grown_alloc _ _)))).mono ?_
      rintro e w1 ⟨rfl, g1⟩
      have G1 : w.grownBy w1 none := (((grown_alloc _ _).trans' (grown_alloc _ _)).trans' (grown_alloc _ _)).trans' g1
      have hz1 : w.heap.size + 3 ≤ w1.heap.size := by simpa using g1.size
      have c1 := (((Blk.new w _ _).keep (grown_alloc _ _)).keep (grown_alloc _ _)).keep g1
      have x1 := ((Blk.newAt (w.alloc _) (w.heap.size + 1) _ _ (by simp)).keep (grown_alloc _ _)).keep g1
      have r1 := (Blk.newAt ((w.alloc _).alloc _) (w.heap.size + 1 + 1) _ _ (by simp)).keep g1
      clear g1
      obtain ⟨c10, c11, c12, c13, c14, c15⟩ := c1.at5
      obtain ⟨x10, x11, x12⟩ := x1.at2
      go_wp2_with fail
      refine (C2.out _).mono ?_
      rintro e w2 ⟨rfl, g2⟩
      clear c10 c11 c12 c13 c14 c15 x10 x11 x12
      have hz2 := g2.size
      obtain ⟨c10, c11, c12, c13, c14, c15⟩ := (c1.keep g2).at5
      go_wp2_with fail
      refine (C3.out _ (HV.out.grown (G1.trans' g2))).mono ?_
      rintro e w3 ⟨u, rfl, hu, g3⟩
      obtain ⟨gu, cu, rfl, hgu, R3, hcu1, hcu2⟩ := row_of_own hu hpos
      have hz3 := g3.size
      have hgu2 := R3.lt
      clear c10 c11 c12 c13 c14 c15 hu
      have g3' := g3.trans' (grown_alloc _ (Obj.cells #[Value.int IntKind.i64 D, Value.int IntKind.i64 s, Value.int IntKind.u64 z, Value.slice (some ⟨gu, 0, none⟩) l.length cu, Value.bool b] 26))
      have c3 := (c1.keep g2).keep g3'
      have x3 := (x1.keep g2).keep g3'
      have r3 := (r1.keep g2).keep g3'
      have d3 := Blk.newAt w3 _ #[Value.int IntKind.i64 D, Value.int IntKind.i64 s, Value.int IntKind.u64 z, Value.slice (some ⟨gu, 0, none⟩) l.length cu, Value.bool b] 26 rfl
      obtain ⟨c10, c11, c12, c13, c14, c15⟩ := c3.at5
      obtain ⟨x10, x11, x12⟩ := x3.at2
      go_wp2_with fail
      refine (C4.out _ (HV.out.grown ((G1.trans' g2).trans' g3'))).mono ?_
      rintro e w4 ⟨va, rfl, ha, g4⟩
      have hz4 := g4.size
      simp only [World.size_alloc] at hz4
      obtain ⟨ga, ca, rfl, hga, A4, hca1, hca2⟩ := cxs_of_own ha (by omega)
      have R4 := R3.keep ((grown_alloc _ _).trans' g4)
      have c4 := c3.keep g4
      have x4 := x3.keep g4
      have r4 := r3.keep g4
      have d4 := d3.keep g4
      have G4 := ((G1.trans' g2).trans' g3').trans' g4
      simp only [World.size_alloc] at hga
      clear c10 c11 c12 c13 c14 c15 x10 x11 x12 c1 x1 r1 c3 x3 r3 d3 ha g2 g3 g3' g4 R3
      go_wp2
      go_loopw [33] (fun i wr => ∃ k : Nat, k ≤ D ∧ i = .int .i64 k ∧ Row .i64 3 gu (insK (cmI z s key) wt (l, b) k).1 wr ∧ Blk w3.heap.size #[Value.int IntKind.i64 D, Value.int IntKind.i64 s, Value.int IntKind.u64 z, Value.slice (some ⟨gu, 0, none⟩) l.length cu, Value.bool (insK (cmI z s key) wt (l, b) k).2] 26 wr ∧ Two gu w3.heap.size w4 wr) (fun i _ => D - (intOf i).toNat)
      case atStart => exact ⟨0, by omega, rfl, R4, d4, Two.refl _ _ _⟩
      case round =>
        obtain ⟨k, hk, rfl, R5, d5, hkp⟩ := hrel
        by_cases hlt : k < D
        · obtain ⟨cur, cb, cc⟩ := A4
          have ccx := cc k hlt
          unfold cxA at ccx
          have a5 := (cb.two hkp (by omega) (by omega)).cell k ccx
          obtain ⟨c10, c11, c12, c13, c14, c15⟩ := (c4.two hkp (by omega) (by omega)).at5
          obtain ⟨x10, x11, x12⟩ := (x4.two hkp (by omega) (by omega)).at2
          have hzr := hkp.size
          obtain ⟨hI1, hI2, hI3⟩ := HL.out k (by omega)
          have hlen := length_insK (cmI z s key) wt (l, b) k
          simp only at hlen
          have C5 := index_any D s z _ l b k (colF z k s key) wr (HV.out.grown (hkp.up G4 (by omega) (by omega))) (by omega) (by omega) q3 q4 (col_in (by omega) (by omega) q3 q4).1 (by have := (col_in (z := z) (key := key) (r := k) (by omega) (by omega) q3 q4).2; omega)
          rw [cmI_eq z s key k hI3] at C5
          have hstep : insK (cmI z s key) wt (l, b) (k + 1) = stepC (cmI z s key k) wt (insK (cmI z s key) wt (l, b) k) := rfl
          have HS := Lib.hid hstep
          clear hstep
          have hok := okL_insK (idx := cmI z s key) (wt := wt) (p := (l, b)) (by omega) HG.out k
          have hmx0 : -9223372036854775808 ≤ gI (insK (cmI z s key) wt (l, b) k).1 (cmI z s key k) ∧ gI (insK (cmI z s key) wt (l, b) k).1 (cmI z s key k) ≤ 9223372036854775807 := by
            have := hok _ (gI_mem (by rw [hlen]; exact hI1) : gI (insK (cmI z s key) wt (l, b) k).1 (cmI z s key k) ∈ _)
            omega
          clear hok
          generalize insK (cmI z s key) wt (l, b) k = p at *
          generalize cmI z s key k = I at *
          obtain ⟨m, f⟩ := p
          simp only at R5 d5 hlen hI1 hmx0
          have hmx : -9223372036854775808 ≤ gI m I ∧ gI m I ≤ 9223372036854775807 := hmx0
          generalize hx : gI m I = x at *
          have HX := Lib.hid hx
          have hsx : 0 ≤ addS x wt 4294967295 ∧ addS x wt 4294967295 ≤ 4294967295 := by unfold addS; omega
          have C6 := Lib.hid (fun w n => addq x wt 4294967295 (World.drewN w n) hmx hwt (by omega))
          generalize hn : addS x wt 4294967295 = n at *
          generalize hfb : addB x wt 4294967295 = fb at *
          have HN := Lib.hid hn
          have HF := Lib.hid hfb
          clear hx hn hfb hI2 hI3
          have C5 := Lib.hid C5
          go_wp2_with fail
          refine C5.out.mono ?_
          rintro e w5 ⟨rfl, g5⟩
          clear c10 c11 c12 c13 c14 c15 x10 x11 x12 a5
          have R6 := R5.keep g5
          have d6 := d5.keep g5
          have hkp6 := hkp.grown g5
          have y1 := R6.cell (i := I) (by omega)
          rw [HX.out] at y1
          have y2 := fun i => R6.froz i
          obtain ⟨d10, d11, d12, d13, d14, d15⟩ := d6.at5
          obtain ⟨x10, x11, x12⟩ := (x4.two hkp6 (by omega) (by omega)).at2
          have e1 : (I : Int) < l.length := by omega
          have e2 : (0 : Int) ≤ I := by omega
          go_wp2_with fail
          go_quiet ((go_at_call 47; exact Calls.quiet_of_same (C6.out _ _)))
          go_wp2_with fail
          cases f
          all_goals
            go_region
            go_wp2
            go_roundw
            case rel =>
              refine ⟨k + 1, by omega, by go_num, ?_, ?_, ?_⟩
              · rw [HS.out]
                show Row _ _ _ (m.set I (addS (gI m I) wt 4294967295)) _
                rw [HX.out, HN.out]
                exact ((R6.keep (grown_drew _)).set I n).set_ne 4 _ (by omega)
              · rw [HS.out]
                first
                  | (rw [show (stepC I wt (m, false)).2 = fb from by show (false || addB (gI m I) wt 4294967295) = fb; rw [HX.out, HF.out]; simp]; exact ((d6.keep (grown_drew (nq + 1))).set_ne I (.int .i64 n) (b' := gu) (by omega)).set 4 (.bool fb))
                  | (rw [show (stepC I wt (m, true)).2 = true from rfl]; exact ((d6.keep (grown_drew (nq + 1))).set_ne I (.int .i64 n) (b' := gu) (by omega)).set 4 (.bool true))
              · exact ((hkp6.grown (grown_drew _)).setp I _).setq 4 _
            case measure => simp [intOf]; omega
        · obtain rfl : k = D := by omega
          have hlen := length_insK (cmI z s key) wt (l, b) k
          simp only at hlen
          have hok := okL_insK (idx := cmI z s key) (wt := wt) (p := (l, b)) (by omega) HG.out k
          have RR := R5.ints (cap := cu) (by omega) hcu2 (fun n hn => wf_ok (hok n hn))
          rw [hlen] at RR
          obtain ⟨d10, d11, d12, d13, d14, d15⟩ := d5.at5
          have r5 := r4.two hkp (by omega) (by omega)
          obtain ⟨r10, r11, r12, r13, r14, r15⟩ := r5.at5
          have hrl := r5.lt
          go_wp2
          refine bodyPost_ret (v := .tuple #[.agg #[.int .i64 k, .int .i64 s, .int .u64 z, .slice (some ⟨gu, 0, none⟩) l.length cu, .bool (insK (cmI z s key) wt (l, b) k).2], .int .i64 0]) ?_ rfl ⟨_, rfl, ?_, fresh_of (by omega), ?_⟩
          · simp [results, Try.results19, go_sem, r10, r11, r12, r13, r14]
          · exact (((((RR.set _ (by omega)).set _ (by omega)).set _ (by omega)).set _ (by omega)).set _ (by omega))
          · refine grown_set (grown_set (grown_set (grown_set (grown_set (hkp.up G4 ?_ ?_) _ ?_) _ ?_) _ ?_) _ ?_) _ ?_ <;> omega
    · have hIE : insE d s l key wt = itemE key wt := by unfold insE; rw [if_neg (by simpa using hE)]
      have e1 : ∀ x, insI d s l key wt x = 0 := fun x => by unfold insI; rw [if_neg (by rw [hIE]; exact hI)]
      rw [e1, e1, e1, hIE, show insV d s z l b key wt = ([], false) from by unfold insV; rw [if_neg (by rw [hIE]; exact hI)]]
      clear e1 hIE
      have C1 := Lib.hid (fun w (h : Ints .i64 w v l) => cmvalid_any d s z v l b w h)
      rw [hE] at C1
      have C2 := Lib.hid (fun w => validItem_any key wt w (by unfold maxLen; omega))
      have HV := Lib.hid hv
      obtain ⟨a, cap, rfl, -, -, -, -⟩ := id hv
      generalize itemE key wt = E at *
      have hb1 : (E != 0) = true := by rw [bne_iff_ne]; exact hI
      clear hv hE hI
      go_enter Try.func19, Try.ntmps19
      go_wp2_with fail
      refine (C1.out _ (HV.out.grown (((grown_alloc _ _).trans' (grown_alloc _ _)).trans' (grown_alloc _ _)))).mono ?_
      rintro e w1 ⟨rfl, g1⟩
      have G1 : w.grownBy w1 none := (((grown_alloc _ _).trans' (grown_alloc _ _)).trans' (grown_alloc _ _)).trans' g1
      have hz1 : w.heap.size + 3 ≤ w1.heap.size := by simpa using g1.size
      have x1 := ((Blk.newAt (w.alloc _) (w.heap.size + 1) _ _ (by simp)).keep (grown_alloc _ _)).keep g1
      have r1 := (Blk.newAt ((w.alloc _).alloc _) (w.heap.size + 1 + 1) _ _ (by simp)).keep g1
      clear g1
      obtain ⟨x10, x11, x12⟩ := x1.at2
      go_wp2_with fail
      refine (C2.out _).mono ?_
      rintro e w2 ⟨rfl, g2⟩
      have hz2 := g2.size
      obtain ⟨r10, r11, r12, r13, r14, r15⟩ := (r1.keep g2).at5
      clear x10 x11 x12 x1 r1
      go_wp2
      refine bodyPost_ret (v := .tuple #[.agg #[.int .i64 0, .int .i64 0, .int .u64 0, .slice none 0 0, .bool false], .int .i64 E]) ?_ rfl ⟨_, rfl, ints_nil _ _, fresh_nil _ _ _, ?_⟩
      · simp [results, Try.results19, go_sem, r10, r11, r12, r13, r14]
      · refine grown_set (grown_set (grown_set (grown_set (grown_set (G1.trans' g2) _ ?_) _ ?_) _ ?_) _ ?_) _ ?_ <;> omega
  · have hIE : insE d s l key wt = cmE d s l := by unfold insE; rw [if_pos hE]
    have e1 : ∀ x, insI d s l key wt x = 0 := fun x => by unfold insI; rw [if_neg (by rw [hIE]; exact hE)]
    rw [e1, e1, e1, hIE, show insV d s z l b key wt = ([], false) from by unfold insV; rw [if_neg (by rw [hIE]; exact hE)]]
    clear e1 hIE
    have C1 := Lib.hid (fun w (h : Ints .i64 w v l) => cmvalid_any d s z v l b w h)
    have HV := Lib.hid hv
    obtain ⟨a, cap, rfl, -, -, -, -⟩ := id hv
    generalize cmE d s l = E at *
    have hb1 : (E != 0) = true := by rw [bne_iff_ne]; exact hE
    clear hv hE
    go_enter Try.func19, Try.ntmps19
    go_wp2_with fail
    refine (C1.out _ (HV.out.grown (((grown_alloc _ _).trans' (grown_alloc _ _)).trans' (grown_alloc _ _)))).mono ?_
    rintro e w1 ⟨rfl, g1⟩
    have G1 : w.grownBy w1 none := (((grown_alloc _ _).trans' (grown_alloc _ _)).trans' (grown_alloc _ _)).trans' g1
    have hz1 : w.heap.size + 3 ≤ w1.heap.size := by simpa using g1.size
    have r1 := (Blk.newAt ((w.alloc _).alloc _) (w.heap.size + 1 + 1) _ _ (by simp)).keep g1
    clear g1
    obtain ⟨r10, r11, r12, r13, r14, r15⟩ := r1.at5
    clear r1
    go_wp2
    refine bodyPost_ret (v := .tuple #[.agg #[.int .i64 0, .int .i64 0, .int .u64 0, .slice none 0 0, .bool false], .int .i64 E]) ?_ rfl ⟨_, rfl, ints_nil _ _, fresh_nil _ _ _, ?_⟩
    · simp [results, Try.results19, go_sem, r10, r11, r12, r13, r14]
    · refine grown_set (grown_set (grown_set (grown_set (grown_set G1 _ ?_) _ ?_) _ ?_) _ ?_) _ ?_ <;> omega
end Go.Proofs.Ytigpbfmnbdbpcaa
