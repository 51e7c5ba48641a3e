/- The walks of Merge and of its reference. Conditions: registers are Go's ints. -/
import Derived.Test.YthohjekfffebkaaLlG
namespace Go.Proofs.Ythohjekfffebkaa
open Go.RowKit Go.ChangeShapes Go.WideShapes
set_option linter.unusedVariables false
set_option linter.unusedSimpArgs false
def mxL (l m : List Int) : List Int := (List.range l.length).map fun i => max (gI l i) (gI m i)
def mxK (l m : List Int) (k : Nat) : List Int := (List.range l.length).map fun i => if i < k then max (gI l i) (gI m i) else gI l i
def lmE (p z : Int) (l : List Int) (p' z' : Int) (l2 : List Int) : Int := if llE p l ≠ 0 then llE p l else if llE p' l2 ≠ 0 then llE p' l2 else if ¬ (p = p' ∧ z = z') then 10 else 0
def lmI (p z : Int) (l : List Int) (p' z' : Int) (l2 : List Int) (x : Int) : Int := if lmE p z l p' z' l2 = 0 then x else 0
def lmV (p z : Int) (l : List Int) (p' z' : Int) (l2 : List Int) : List Int := if lmE p z l p' z' l2 = 0 then mxL l l2 else []
theorem length_mxL (l m : List Int) : (mxL l m).length = l.length := by simp [mxL]
theorem gI_mxL {l m : List Int} {i : Nat} (h : i < l.length) : gI (mxL l m) i = max (gI l i) (gI m i) := by
  rw [gI_eq (by rw [length_mxL]; exact h)]; simp [mxL]
theorem length_mxK (l m : List Int) (k : Nat) : (mxK l m k).length = l.length := by simp [mxK]
theorem gI_mxK {l m : List Int} {k i : Nat} (h : i < l.length) : gI (mxK l m k) i = if i < k then max (gI l i) (gI m i) else gI l i := by
  rw [gI_eq (by rw [length_mxK]; exact h)]; simp [mxK]
theorem mxK_zero (l m : List Int) : mxK l m 0 = l := by
  refine ext_of_gI (length_mxK _ _ _) ?_
  intro i hi
  rw [length_mxK] at hi
  rw [gI_mxK hi, if_neg (by omega)]
theorem mxK_end (l m : List Int) : mxK l m l.length = mxL l m := by
  refine ext_of_gI (by rw [length_mxK, length_mxL]) ?_
  intro i hi
  rw [length_mxK] at hi
  rw [gI_mxK hi, if_pos hi, gI_mxL hi]
theorem mxK_succ {l m : List Int} {k : Nat} (hk : k < l.length) : mxK l m (k + 1) = (mxK l m k).set k (max (gI l k) (gI m k)) := by
  refine ext_of_gI (by simp [length_mxK]) ?_
  intro i hi
  rw [length_mxK] at hi
  rw [gI_set _ _ _ _ (by rw [length_mxK]; exact hk), gI_mxK hi, gI_mxK hi]
  by_cases e : i = k
  · subst e; rw [if_pos (by omega), if_pos rfl]
  · rw [if_neg e]
    by_cases h : i < k
    · rw [if_pos h, if_pos (by omega)]
    · rw [if_neg h, if_neg (by omega)]
theorem okR_mxK {p : Int} {l m : List Int} (hl : goodR p l) (hm : goodR p m) (h : m.length = l.length) (k : Nat) : goodR p (mxK l m k) := by
  intro x hx
  simp only [mxK, List.mem_map, List.mem_range] at hx
  obtain ⟨i, hi, rfl⟩ := hx
  have h1 := hl _ (gI_mem hi)
  have h2 := hm _ (gI_mem (show i < m.length by omega))
  split <;> omega
/-- The blocks below N are as they were. -/
def Low (N : Nat) (w w' : World) : Prop := ∀ b, b < N → w'.heap[b]? = w.heap[b]?
theorem Blk.low {b N : Nat} {cs : Array Value} {t : TypeId} {w w' : World} (h : Blk b cs t w) (g : Low N w w') (hb : b < N) : Blk b cs t w' := by
  have := g b hb
  unfold Blk at *
  rw [this]; exact h
set_option maxRecDepth 100000 in
set_option maxHeartbeats 3200000 in
theorem llmerge_any (p z : Int) (v : Value) (l : List Int) (p' z' : Int) (v2 : Value) (l2 : List Int) (w : World) (hv : Ints .i64 w v l) (hv2 : Ints .i64 w v2 l2) :
    Calls Try.prog 26 #[.agg #[.int .i64 p, .int .u64 z, v], .agg #[.int .i64 p', .int .u64 z', v2]] w fun e w' => ∃ u, e = .returned (.tuple #[.agg #[.int .i64 (lmI p z l p' z' l2 p), .int .u64 (lmI p z l p' z' l2 z), u], .int .i64 (lmE p z l p' z' l2)]) ∧ Ints .i64 w' u (lmV p z l p' z' l2) ∧ Fresh w.heap.size u ∧ w.grownBy w' none := by
  by_cases hE : llE p l = 0
  · by_cases hE2 : llE p' l2 = 0
    · by_cases hk : p = p' ∧ z = z'
      · obtain ⟨rfl, rfl⟩ := hk
        have hM : lmE p z l p z l2 = 0 := by unfold lmE; rw [if_neg (by simpa using hE), if_neg (by simpa using hE2), if_neg (fun h => h ⟨rfl, rfl⟩)]
        have e1 : ∀ x, lmI p z l p z l2 x = x := fun x => by unfold lmI; rw [if_pos hM]
        rw [e1, e1, hM, show lmV p z l p z l2 = mxL l l2 from by unfold lmV; rw [if_pos hM]]
        clear e1 hM
        obtain ⟨hs, hl, hg⟩ := llE_ok hE
        obtain ⟨-, hl2, hg2⟩ := llE_ok hE2
        have hp2 := p2_in hs
        have C1 := Lib.hid (fun w (h : Ints .i64 w v l) => llvalid_any p z v l w h)
        have C2 := Lib.hid (fun w (h : Ints .i64 w v2 l2) => llvalid_any p z v2 l2 w h)
        have HV := Lib.hid hv
        have HV2 := Lib.hid hv2
        obtain ⟨a, cap, rfl, -, -, -, -⟩ := id hv
        obtain ⟨a2, cap2, rfl, -, -, -, -⟩ := id hv2
        rw [hE] at C1
        rw [hE2] at C2
        have HG := Lib.hid hg
        have HG2 := Lib.hid hg2
        have HS := Lib.hid hs
        have hpos : 0 < l.length := by omega
        have hll : l2.length = l.length := by omega
        have hl5 : l.length ≤ 256 := by omega
        obtain ⟨qq1, qq2⟩ : 2 ≤ p ∧ p ≤ 8 := hs
        have HLL := Lib.hid hll
        clear hE hE2 hl hl2 hg hg2 hll
        clear hv hv2
        go_enter Try.func26, Try.ntmps26
        go_wp2_with fail
        refine (C1.out _ (HV.out.grown (((grown_alloc _ _).trans' (grown_alloc _ _)).trans' (grown_alloc _ _)))).mono ?_
        rintro e w1 ⟨rfl, g1⟩
        have G1 : w.grownBy w1 none := (((grown_alloc _ _).trans' (grown_alloc _ _)).trans' (grown_alloc _ _)).trans' g1
        have hz1 : w.heap.size + 3 ≤ w1.heap.size := by simpa using g1.size
        have c1 := (((Blk.new w _ _).keep (grown_alloc _ _)).keep (grown_alloc _ _)).keep g1
        have x1 := ((Blk.newAt (w.alloc _) (w.heap.size + 1) _ _ (by simp)).keep (grown_alloc _ _)).keep g1
        have r1 := (Blk.newAt ((w.alloc _).alloc _) (w.heap.size + 1 + 1) _ _ (by simp)).keep g1
        clear g1
        obtain ⟨x10, x11, x12, x15⟩ := x1.at3
        go_wp2_with fail
        refine (C2.out _ (HV2.out.grown G1)).mono ?_
        rintro e w2 ⟨rfl, g2⟩
        clear x10 x11 x12 x15
        have hz2 := g2.size
        have GG := G1.trans' g2
        have c2 := c1.keep g2
        have x2 := x1.keep g2
        have r2 := r1.keep g2
        clear g2 c1 x1 r1
        obtain ⟨bl2, off2, rfl, hbl2, hcl2⟩ := HV2.out.at (by have := HLL.out; omega)
        have HC2 := Lib.hid hcl2
        clear hcl2
        obtain ⟨c10, c11, c12⟩ := c2.ev3
        obtain ⟨x10, x11, x12⟩ := x2.ev3
        have ga : ∀ (w : World) (o : Obj), w.grownBy (w.alloc o) none := grown_alloc
        have gr := grown_refl w2
        go_wp2_with (at_builtin; go_loud (refine wpList_appS _ rfl _ _ 24 24 rfl w2.heap.size 3 (.int .i64 0) 1 8 Try.underlying24 Try.infoInt rfl (by decide) _ _ _ _ _ _ (own_lit0 _ _ (Nat.le_refl _)) rfl rfl ((HV.out.grown (GG.trans' (grown_alloc _ _))).src Try.underlying24) (by unfold maxLen; omega) (by omega) (by simp) ?_))
        intro u w3 hu g3 _
        obtain ⟨gu, cu, rfl, hgu, R3, hcu1, hcu2⟩ := row_of_own hu hpos
        have hgu2 := R3.lt
        have g3' : w2.grownBy w3 none := grown_rdr (R := w2.heap.size) (grown_alloc _ _) g3 (Nat.le_refl _)
        have hz3 := g3'.size
        have c3 := c2.keep g3'
        have x3 := x2.keep g3'
        have r3 := r2.keep g3'
        have G3 := GG.trans' g3'
        clear c10 c11 c12 x10 x11 x12 ga gr hu g3
        obtain ⟨c30, c31, c32, c33⟩ := c3.at3
        obtain ⟨x30, x31, x32, x33⟩ := x3.at3
        have hne1 : w.heap.size + 1 ≠ w.heap.size := by omega
        go_wp2_with fail
        refine wAbs (P := fun w' => Row .i64 3 gu l w' ∧ Blk w.heap.size #[.int .i64 p, .int .u64 z, .slice (some ⟨gu, 0, none⟩) l.length cu] 26 w' ∧ Two gu w.heap.size w3 w') ⟨R3.set_ne _ _ (by omega), c3.set 2 _, (Two.refl _ _ _).setq _ _⟩ ?_
        rintro w4 ⟨R4, c4, T4⟩
        clear c30 c31 c32 c33 x30 x31 x32 x33 c3
        have x4 := x3.two T4 (by omega) (by omega)
        obtain ⟨x40, x41, x42, x43⟩ := x4.at3
        go_wp2_with fail
        clear x40 x41 x42 x43
        go_loopw [43] (fun i wr => ∃ k : Nat, k ≤ l.length ∧ i = .int .i64 k ∧ Row .i64 3 gu (mxK l l2 k) wr ∧ Blk w.heap.size #[.int .i64 p, .int .u64 z, .slice (some ⟨gu, 0, none⟩) l.length cu] 26 wr ∧ Two gu w.heap.size w3 wr) (fun i _ => l.length - (intOf i).toNat)
        case atStart => exact ⟨0, by omega, rfl, by rw [mxK_zero]; exact R4, c4, T4⟩
        case round =>
          obtain ⟨k, hk, rfl, R5, c5, T5⟩ := hrel
          have hll := HLL.out
          have hklen := length_mxK l l2 k
          have G5 := T5.up G3 (by omega) (by omega)
          have hz5 := T5.size
          obtain ⟨c50, c51, c52, c53⟩ := c5.at3
          by_cases hlt : k < l.length
          · have y1 := R5.cell (i := k) (by omega)
            have y2 := R5.froz k
            have y3 := kcell G5 (HC2.out k (by omega)) hbl2
            rw [gI_mxK hlt, if_neg (by omega)] at y1
            have HX := Lib.hid (mxK_succ (m := l2) hlt)
            have e1 : (k : Int) < l2.length := by omega
            have e2 : (k : Int) < l.length := by omega
            have e3 : (0 : Int) ≤ k := by omega
            generalize gI l k = x at *
            generalize gI l2 k = y at *
            have HLL2 := Lib.hid hll
            clear hll hklen
            go_wp2_with fail
            go_region
            go_wp2
            go_roundw
            case rel =>
              refine ⟨k + 1, by omega, by go_num, ?_, (c5.keep (grown_drew1 _)).set_ne _ _ (by omega), (T5.grown (grown_drew1 _)).setp _ _⟩
              rw [HX.out]
              exact (R5.keep (grown_drew1 _)).set k _
            case measure => simp [intOf]; omega
          · obtain rfl : k = l.length := by omega
            have hok := okR_mxK HG.out HG2.out hll l.length
            rw [mxK_end] at R5 hok
            have r5 := r3.two T5 (by omega) (by omega)
            obtain ⟨r10, r11, r12, r15⟩ := r5.at3
            have hml := length_mxL l l2
            have RI := R5.ints (cap := cu) (by omega) hcu2 (fun n hn => wf_reg HS.out (hok n hn))
            rw [hml] at RI
            have hnl : ¬ ((l.length : Int) < l2.length) := by omega
            have HLL2 := Lib.hid hll
            clear hll hml
            go_wp2
            refine bodyPost_ret (v := .tuple #[.agg #[.int .i64 p, .int .u64 z, .slice (some ⟨gu, 0, none⟩) l.length cu], .int .i64 0]) ?_ rfl ⟨_, rfl, ?_, fresh_of (by omega), ?_⟩
            · simp [results, Try.results26, go_sem, r10, r11, r12]
            · repeat (with_reducible refine Ints.set ?_ _ (by omega))
              exact RI
            · repeat (with_reducible refine grown_set ?_ _ (by omega))
              exact G5
      · have hM : lmE p z l p' z' l2 = 10 := by unfold lmE; rw [if_neg (by simpa using hE), if_neg (by simpa using hE2), if_pos hk]
        have e1 : ∀ x, lmI p z l p' z' l2 x = 0 := fun x => by unfold lmI; rw [if_neg (by rw [hM]; decide)]
        rw [e1, e1, hM, show lmV p z l p' z' l2 = [] from by unfold lmV; rw [if_neg (by rw [hM]; decide)]]
        clear e1 hM
        have C1 := Lib.hid (fun w (h : Ints .i64 w v l) => llvalid_any p z v l w h)
        have C2 := Lib.hid (fun w (h : Ints .i64 w v2 l2) => llvalid_any p' z' v2 l2 w h)
        have HV := Lib.hid hv
        have HV2 := Lib.hid hv2
        obtain ⟨a, cap, rfl, -, -, -, -⟩ := id hv
        obtain ⟨a2, cap2, rfl, -, -, -, -⟩ := id hv2
        rw [hE] at C1
        rw [hE2] at C2
        clear hE hE2
        clear hv hv2
        go_enter Try.func26, Try.ntmps26
        go_wp2_with fail
        refine (C1.out _ (HV.out.grown (((grown_alloc _ _).trans' (grown_alloc _ _)).trans' (grown_alloc _ _)))).mono ?_
        rintro e w1 ⟨rfl, g1⟩
        have G1 : w.grownBy w1 none := (((grown_alloc _ _).trans' (grown_alloc _ _)).trans' (grown_alloc _ _)).trans' g1
        have hz1 : w.heap.size + 3 ≤ w1.heap.size := by simpa using g1.size
        have c1 := (((Blk.new w _ _).keep (grown_alloc _ _)).keep (grown_alloc _ _)).keep g1
        have x1 := ((Blk.newAt (w.alloc _) (w.heap.size + 1) _ _ (by simp)).keep (grown_alloc _ _)).keep g1
        have r1 := (Blk.newAt ((w.alloc _).alloc _) (w.heap.size + 1 + 1) _ _ (by simp)).keep g1
        clear g1
        obtain ⟨x10, x11, x12, x15⟩ := x1.at3
        go_wp2_with fail
        refine (C2.out _ (HV2.out.grown G1)).mono ?_
        rintro e w2 ⟨rfl, g2⟩
        clear x10 x11 x12 x15
        have hz2 := g2.size
        have GG := G1.trans' g2
        have c2 := c1.keep g2
        have x2 := x1.keep g2
        have r2 := r1.keep g2
        clear g2 c1 x1 r1
        obtain ⟨c10, c11, c12, c15⟩ := c2.at3
        obtain ⟨x10, x11, x12, x15⟩ := x2.at3
        obtain ⟨r10, r11, r12, r15⟩ := r2.at3
        have hkk : (p != p') = true ∨ ((p != p') = false ∧ (z != z') = true) := by
          by_cases h1 : p = p'
          · have h3 : z ≠ z' := fun h => hk ⟨h1, h⟩
            exact .inr ⟨by simpa using h1, by simpa using h3⟩
          · exact .inl (by simpa using h1)
        clear hk
        rcases hkk with k1 | ⟨k1, k2⟩
        all_goals
          go_wp2
          refine bodyPost_ret (v := .tuple #[.agg #[.int .i64 0, .int .u64 0, .slice none 0 0], .int .i64 10]) ?_ rfl ⟨_, rfl, ints_nil _ _, fresh_nil _ _ _, ?_⟩
          · simp [results, Try.results26, go_sem, r10, r11, r12]
          · repeat (with_reducible refine grown_set ?_ _ (by omega))
            exact GG
    · have hM : lmE p z l p' z' l2 = llE p' l2 := by unfold lmE; rw [if_neg (by simpa using hE), if_pos hE2]
      have e1 : ∀ x, lmI p z l p' z' l2 x = 0 := fun x => by unfold lmI; rw [if_neg (by rw [hM]; exact hE2)]
      rw [e1, e1, hM, show lmV p z l p' z' l2 = [] from by unfold lmV; rw [if_neg (by rw [hM]; exact hE2)]]
      clear e1 hM
      have C1 := Lib.hid (fun w (h : Ints .i64 w v l) => llvalid_any p z v l w h)
      have C2 := Lib.hid (fun w (h : Ints .i64 w v2 l2) => llvalid_any p' z' v2 l2 w h)
      have HV := Lib.hid hv
      have HV2 := Lib.hid hv2
      obtain ⟨a, cap, rfl, -, -, -, -⟩ := id hv
      obtain ⟨a2, cap2, rfl, -, -, -, -⟩ := id hv2
      rw [hE] at C1
      generalize llE p' l2 = E at *
      have hb1 : (E != 0) = true := by rw [bne_iff_ne]; exact hE2
      clear hE hE2
      clear hv hv2
      go_enter Try.func26, Try.ntmps26
      go_wp2_with fail
      refine (C1.out _ (HV.out.grown (((grown_alloc _ _).trans' (grown_alloc _ _)).trans' (grown_alloc _ _)))).mono ?_
      rintro e w1 ⟨rfl, g1⟩
      have G1 : w.grownBy w1 none := (((grown_alloc _ _).trans' (grown_alloc _ _)).trans' (grown_alloc _ _)).trans' g1
      have hz1 : w.heap.size + 3 ≤ w1.heap.size := by simpa using g1.size
      have c1 := (((Blk.new w _ _).keep (grown_alloc _ _)).keep (grown_alloc _ _)).keep g1
      have x1 := ((Blk.newAt (w.alloc _) (w.heap.size + 1) _ _ (by simp)).keep (grown_alloc _ _)).keep g1
      have r1 := (Blk.newAt ((w.alloc _).alloc _) (w.heap.size + 1 + 1) _ _ (by simp)).keep g1
      clear g1
      obtain ⟨x10, x11, x12, x15⟩ := x1.at3
      go_wp2_with fail
      refine (C2.out _ (HV2.out.grown G1)).mono ?_
      rintro e w2 ⟨rfl, g2⟩
      clear x10 x11 x12 x15
      have hz2 := g2.size
      have GG := G1.trans' g2
      have c2 := c1.keep g2
      have x2 := x1.keep g2
      have r2 := r1.keep g2
      clear g2 c1 x1 r1
      obtain ⟨r10, r11, r12, r15⟩ := r2.at3
      go_wp2
      refine bodyPost_ret (v := .tuple #[.agg #[.int .i64 0, .int .u64 0, .slice none 0 0], .int .i64 E]) ?_ rfl ⟨_, rfl, ints_nil _ _, fresh_nil _ _ _, ?_⟩
      · simp [results, Try.results26, go_sem, r10, r11, r12]
      · repeat (with_reducible refine grown_set ?_ _ (by omega))
        exact GG
  · have hM : lmE p z l p' z' l2 = llE p l := by unfold lmE; rw [if_pos hE]
    have e1 : ∀ x, lmI p z l p' z' l2 x = 0 := fun x => by unfold lmI; rw [if_neg (by rw [hM]; exact hE)]
    rw [e1, e1, hM, show lmV p z l p' z' l2 = [] from by unfold lmV; rw [if_neg (by rw [hM]; exact hE)]]
    clear e1 hM
    have C1 := Lib.hid (fun w (h : Ints .i64 w v l) => llvalid_any p z v l w h)
    have C2 := Lib.hid (fun w (h : Ints .i64 w v2 l2) => llvalid_any p' z' v2 l2 w h)
    have HV := Lib.hid hv
    have HV2 := Lib.hid hv2
    obtain ⟨a, cap, rfl, -, -, -, -⟩ := id hv
    obtain ⟨a2, cap2, rfl, -, -, -, -⟩ := id hv2
    clear C2
    generalize llE p l = E at *
    have hb1 : (E != 0) = true := by rw [bne_iff_ne]; exact hE
    clear hE
    clear hv hv2
    go_enter Try.func26, Try.ntmps26
    go_wp2_with fail
    refine (C1.out _ (HV.out.grown (((grown_alloc _ _).trans' (grown_alloc _ _)).trans' (grown_alloc _ _)))).mono ?_
    rintro e w1 ⟨rfl, g1⟩
    have G1 : w.grownBy w1 none := (((grown_alloc _ _).trans' (grown_alloc _ _)).trans' (grown_alloc _ _)).trans' g1
    have hz1 : w.heap.size + 3 ≤ w1.heap.size := by simpa using g1.size
    have c1 := (((Blk.new w _ _).keep (grown_alloc _ _)).keep (grown_alloc _ _)).keep g1
    have x1 := ((Blk.newAt (w.alloc _) (w.heap.size + 1) _ _ (by simp)).keep (grown_alloc _ _)).keep g1
    have r1 := (Blk.newAt ((w.alloc _).alloc _) (w.heap.size + 1 + 1) _ _ (by simp)).keep g1
    clear g1
    have GG := G1
    obtain ⟨r10, r11, r12, r15⟩ := r1.at3
    go_wp2
    refine bodyPost_ret (v := .tuple #[.agg #[.int .i64 0, .int .u64 0, .slice none 0 0], .int .i64 E]) ?_ rfl ⟨_, rfl, ints_nil _ _, fresh_nil _ _ _, ?_⟩
    · simp [results, Try.results26, go_sem, r10, r11, r12]
    · repeat (with_reducible refine grown_set ?_ _ (by omega))
      exact GG
set_option maxRecDepth 100000 in
set_option maxHeartbeats 3200000 in
theorem llmerger_any (p z : Int) (v : Value) (l : List Int) (p' z' : Int) (v2 : Value) (l2 : List Int) (w : World) (hv : Ints .i64 w v l) (hv2 : Ints .i64 w v2 l2) :
    Calls Try.prog 27 #[.agg #[.int .i64 p, .int .u64 z, v], .agg #[.int .i64 p', .int .u64 z', v2]] w fun e w' => ∃ u, e = .returned (.tuple #[.agg #[.int .i64 (lmI p z l p' z' l2 p), .int .u64 (lmI p z l p' z' l2 z), u], .int .i64 (lmE p z l p' z' l2)]) ∧ Ints .i64 w' u (lmV p z l p' z' l2) ∧ Fresh w.heap.size u ∧ w.grownBy w' none := by
  by_cases hE : llE p l = 0
  · by_cases hE2 : llE p' l2 = 0
    · by_cases hk : p = p' ∧ z = z'
      · obtain ⟨rfl, rfl⟩ := hk
        have hM : lmE p z l p z l2 = 0 := by unfold lmE; rw [if_neg (by simpa using hE), if_neg (by simpa using hE2), if_neg (fun h => h ⟨rfl, rfl⟩)]
        have e1 : ∀ x, lmI p z l p z l2 x = x := fun x => by unfold lmI; rw [if_pos hM]
        rw [e1, e1, hM, show lmV p z l p z l2 = mxL l l2 from by unfold lmV; rw [if_pos hM]]
        clear e1 hM
        obtain ⟨hs, hl, hg⟩ := llE_ok hE
        obtain ⟨-, hl2, hg2⟩ := llE_ok hE2
        have hp2 := p2_in hs
        have C1 := Lib.hid (fun w (h : Ints .i64 w v l) => llvalidr_any p z v l w h)
        have C2 := Lib.hid (fun w (h : Ints .i64 w v2 l2) => llvalidr_any p z v2 l2 w h)
        have HV := Lib.hid hv
        have HV2 := Lib.hid hv2
        obtain ⟨a, cap, rfl, -, -, -, -⟩ := id hv
        obtain ⟨a2, cap2, rfl, -, -, -, -⟩ := id hv2
        rw [hE] at C1
        rw [hE2] at C2
        have HG := Lib.hid hg
        have HG2 := Lib.hid hg2
        have HS := Lib.hid hs
        have hpos : 0 < l.length := by omega
        have hll : l2.length = l.length := by omega
        have hl5 : l.length ≤ 256 := by omega
        obtain ⟨qq1, qq2⟩ : 2 ≤ p ∧ p ≤ 8 := hs
        have HLL := Lib.hid hll
        clear hE hE2 hl hl2 hg hg2 hll
        clear hv hv2
        go_enter Try.func27, Try.ntmps27
        go_wp2_with fail
        refine (C1.out _ (HV.out.grown (((grown_alloc _ _).trans' (grown_alloc _ _)).trans' (grown_alloc _ _)))).mono ?_
        rintro e w1 ⟨rfl, g1⟩
        have G1 : w.grownBy w1 none := (((grown_alloc _ _).trans' (grown_alloc _ _)).trans' (grown_alloc _ _)).trans' g1
        have hz1 : w.heap.size + 3 ≤ w1.heap.size := by simpa using g1.size
        have c1 := (((Blk.new w _ _).keep (grown_alloc _ _)).keep (grown_alloc _ _)).keep g1
        have x1 := ((Blk.newAt (w.alloc _) (w.heap.size + 1) _ _ (by simp)).keep (grown_alloc _ _)).keep g1
        have r1 := (Blk.newAt ((w.alloc _).alloc _) (w.heap.size + 1 + 1) _ _ (by simp)).keep g1
        clear g1
        obtain ⟨x10, x11, x12, x15⟩ := x1.at3
        go_wp2_with fail
        refine (C2.out _ (HV2.out.grown G1)).mono ?_
        rintro e w2 ⟨rfl, g2⟩
        clear x10 x11 x12 x15
        have hz2 := g2.size
        have GG := G1.trans' g2
        have c2 := c1.keep g2
        have x2 := x1.keep g2
        have r2 := r1.keep g2
        clear g2 c1 x1 r1
        obtain ⟨bl, off, rfl, hbl, hcl⟩ := HV.out.at hpos
        have HC := Lib.hid hcl
        obtain ⟨bl2, off2, rfl, hbl2, hcl2⟩ := HV2.out.at (by have := HLL.out; omega)
        have HC2 := Lib.hid hcl2
        clear hcl2 hcl
        have hc2l := c2.lt
        have hx2l := x2.lt
        have hr2l := r2.lt
        obtain ⟨c10, c11, c12⟩ := c2.ev3
        obtain ⟨x10, x11, x12⟩ := x2.ev3
        have gr := grown_refl w2
        go_wp2_with fail
        refine wAbs (P := fun w' => Two w2.heap.size w2.heap.size w2 w' ∧ Blk w2.heap.size #[.int .i64 p, .int .u64 z, .slice none 0 0] 26 w') ⟨(Two.refl _ _ _).grown (grown_alloc _ _), Blk.new _ _ _⟩ ?_
        rintro w4 ⟨T4, d4⟩
        clear c10 c11 c12 x10 x11 x12 gr
        go_loopw [9] (fun i wr => ∃ (k : Nat) (v : Value), k ≤ l.length ∧ i = .int .i64 k ∧ wr.ownsRow (w2.heap.size + 1) 3 1 v k (((mxL l l2).take k).map (.int .i64)) ∧ Blk w2.heap.size #[.int .i64 p, .int .u64 z, v] 26 wr ∧ Two w2.heap.size w2.heap.size w2 wr) (fun i _ => l.length - (intOf i).toNat)
        case atStart => exact ⟨0, _, by omega, rfl, World.ownsRow_nil _ _ _ _, d4, T4⟩
        case round =>
          obtain ⟨k, v, hk, rfl, ho5, d5, T5⟩ := hrel
          have hll := HLL.out
          have hml := length_mxL l l2
          have G5 := T5.up GG (by omega) (by omega)
          have hz5 := T5.size
          have hr5 := c2.two T5 (by omega) (by omega)
          have hx5 := x2.two T5 (by omega) (by omega)
          by_cases hlt : k < l.length
          · have y0 := kcell G5 (HC.out k hlt) hbl
            have y3 := kcell G5 (HC2.out k (by omega)) hbl2
            have hS := take_succ_gI (l := mxL l l2) (k := k) (by omega)
            rw [gI_mxL hlt] at hS
            have HS2 := Lib.hid hS
            have e1 : (k : Int) < l2.length := by omega
            have e2 : (k : Int) < l.length := by omega
            have e3 : (0 : Int) ≤ k := by omega
            have hbb := GG.size
            clear hS hml
            generalize gI l k = x at *
            generalize gI l2 k = y at *
            have HLL2 := Lib.hid hll
            clear hll
            obtain ⟨a5, k5, rfl, hka, hkb⟩ := own_shape ho5
            have hd5 := d5.lt
            have low0 : Low (w2.heap.size + 1) wr wr := fun b _ => rfl
            have f0 : ∀ w' : World, Low (w2.heap.size + 1) wr w' → w'.cell? ⟨w2.heap.size, 2, none⟩ = some (.slice a5 k k5) := fun w' h => (d5.low h (by omega)).at3.2.2.1
            have f1 : ∀ w' : World, Low (w2.heap.size + 1) wr w' → w'.cell? ⟨w.heap.size, 2, none⟩ = some (.slice (some ⟨bl, off, none⟩) l.length cap) := fun w' h => (hr5.low h (by omega)).at3.2.2.1
            have f2 : ∀ w' : World, Low (w2.heap.size + 1) wr w' → w'.cell? ⟨w.heap.size + 1, 2, none⟩ = some (.slice (some ⟨bl2, off2, none⟩) l2.length cap2) := fun w' h => (hx5.low h (by omega)).at3.2.2.1
            have f3 : ∀ w' : World, Low (w2.heap.size + 1) wr w' → w'.cell? ⟨bl, off + k, none⟩ = some (.int .i64 x) := fun w' h => (World.cell?_of_block (w := wr) (h bl (by omega))).trans y0
            have f4 : ∀ w' : World, Low (w2.heap.size + 1) wr w' → w'.cell? ⟨bl2, off2 + k, none⟩ = some (.int .i64 y) := fun w' h => (World.cell?_of_block (w := wr) (h bl2 (by omega))).trans y3
            have c50 := hr5.at3.2.2.1
            go_wp2_with fail
            clear y0 y3 c50
            refine wp_region_sqL 16 [0, 1, 2, 3, 4, 5, 6, 7, 8, 9, 10, 11, 12, 13, 14, 15, 16] [0, 0, 0, 0, 0, 0, 0, 0, 0, 0, 0, 0, 0, 1, 1, 0, 3] (Low (w2.heap.size + 1) wr) (by kernel_rfl) (by kernel_rfl) (by kernel_rfl) (by kernel_rfl) (fun b _ => rfl) ?_
            simp only [pick, List.map_cons, List.map_nil, List.getD_cons_zero, List.getD_cons_succ]
            repeat (first
              | (((first | refine sqL_skip (by rfl) ?_)); (try simp only [Act.put, List.setIfInBounds_toArray, List.set_cons_zero, List.set_cons_succ]))
              | (((first | refine sqL_take ?_ (by rfl) ?_ ?_ | refine sqL_pure ?_ (by rfl) ?_ ?_)); rotate_left; (focus (intro w' hS; go_simp; first | done | with_reducible rfl)); (try simp only [Act.put, List.setIfInBounds_toArray, List.set_cons_zero, List.set_cons_succ])))
            refine sqL_run (by rfl) ?_
            intro K hK
            go_simp
            have low1 : ∀ o : Obj, Low (w2.heap.size + 1) wr (wr.drew.alloc o) := fun o b hb => Below.heap_alloc wr.drew o b (by show b < wr.heap.size; omega)
            refine hK _ _ (low1 _) ?_
            clear hK K
            try simp only [Act.put, List.setIfInBounds_toArray, List.set_cons_zero, List.set_cons_succ]
            refine sqL_run (by rfl) ?_
            intro K hK
            have own0 : (wr.drew.alloc (.cells #[.int .i64 (max x y)] 3)).ownsRow (w2.heap.size + 1) 3 1 (.slice a5 k k5) k (((mxL l l2).take k).map (.int .i64)) := own_keep ho5 ((grown_drew1 _).trans' (grown_alloc _ _))
            refine wp_appS _ _ _ 24 24 (by rfl) (w2.heap.size + 1) 3 (.int .i64 0) 1 8 Try.underlying24 Try.infoInt rfl (by decide) _ _ _ 1 _ [.int .i64 (max x y)] own0 (by rfl) (by rfl) (own_src (own_lit1 wr.drew 3 (.int .i64 (max x y))) (by simp [Value.oneCell']) Try.underlying24) (by unfold maxLen; omega) (by omega) (by simp; omega) ?_
            intro v6 w6 ho6 g6 _
            obtain ⟨a6, k6, rfl, hka6, hkb6⟩ := own_shape ho6
            have hz6 := g6.size
            have hbl5 : ∀ g, (Value.slice a5 k k5).ownBlock = some g → w2.heap.size + 1 ≤ g := fun g hg => (own0.lt g hg).1
            have T6 : Two w2.heap.size w2.heap.size w2 w6 := by
              refine T5.own ((grown_drew1 _).trans' (grown_alloc _ _)) g6 fun g hg => ?_
              have := hbl5 g hg
              omega
            have low6 : Low (w2.heap.size + 1) wr w6 := fun b hb => (g6.block b (by simp; omega) (fun e => by have := hbl5 b e.symm; omega)).trans (low1 _ b hb)
            have d6 := d5.low low6 (by omega)
            refine hK _ _ low6 ?_
            clear hK K own0 ho5 g6
            try simp only [Act.put, List.setIfInBounds_toArray, List.set_cons_zero, List.set_cons_succ]
            repeat (first
              | (((first | refine sqL_skip (by rfl) ?_)); (try simp only [Act.put, List.setIfInBounds_toArray, List.set_cons_zero, List.set_cons_succ]))
              | (((first | refine sqL_take ?_ (by rfl) ?_ ?_ | refine sqL_pure ?_ (by rfl) ?_ ?_)); rotate_left; (focus (intro w' hS; go_simp; first | done | with_reducible rfl)); (try simp only [Act.put, List.setIfInBounds_toArray, List.set_cons_zero, List.set_cons_succ])))
            obtain ⟨d60, d61, d62, d63⟩ := d6.at3
            refine sqL_last (by rfl) ?_
            intro K hK
            go_simp
            refine hK _ _ ?_
            clear hK K
            try simp only [Act.put, List.setIfInBounds_toArray, List.set_cons_zero, List.set_cons_succ]
            go_wp2
            go_roundw
            case rel =>
              refine ⟨k + 1, .slice a6 (k + 1) k6, by omega, by go_num, ?_, d6.set 2 _, T6.setp 2 _⟩
              rw [HS2.out]
              exact ownsRow_setCell_below (by simpa using ho6) (by show w2.heap.size < _; omega) _
            case measure => simp [intOf]; omega
          · obtain rfl : k = l.length := by omega
            have hok := okR_mxK HG.out HG2.out hll l.length
            rw [mxK_end] at hok
            rw [List.take_of_length_le (by omega)] at ho5
            have RI : Ints .i64 wr v (mxL l l2) := ints_of_own (by rw [hml]; exact ho5) (fun n hn => wf_reg HS.out (hok n hn))
            have hfr : Fresh (w2.heap.size + 1) v := by
              intro g nn cc e
              have := (ho5.lt g.block (by rw [e]; rfl)).1
              exact this
            obtain ⟨a5, k5, rfl, hka, hkb⟩ := own_shape ho5
            obtain ⟨d10, d11, d12, d15⟩ := d5.at3
            obtain ⟨c10, c11, c12, c15⟩ := hr5.at3
            have r5 := r2.two T5 (by omega) (by omega)
            obtain ⟨r10, r11, r12, r15⟩ := r5.at3
            clear hml
            go_wp2
            refine bodyPost_ret (v := .tuple #[.agg #[.int .i64 p, .int .u64 z, .slice a5 l.length k5], .int .i64 0]) ?_ rfl ⟨_, rfl, ?_, hfr.mono (by omega), ?_⟩
            · simp [results, Try.results27, go_sem, r10, r11, r12]
            · repeat (with_reducible refine Ints.setF ?_ hfr _ (by omega))
              exact RI
            · repeat (with_reducible refine grown_set ?_ _ (by omega))
              exact G5
      · have hM : lmE p z l p' z' l2 = 10 := by unfold lmE; rw [if_neg (by simpa using hE), if_neg (by simpa using hE2), if_pos hk]
        have e1 : ∀ x, lmI p z l p' z' l2 x = 0 := fun x => by unfold lmI; rw [if_neg (by rw [hM]; decide)]
        rw [e1, e1, hM, show lmV p z l p' z' l2 = [] from by unfold lmV; rw [if_neg (by rw [hM]; decide)]]
        clear e1 hM
        have C1 := Lib.hid (fun w (h : Ints .i64 w v l) => llvalidr_any p z v l w h)
        have C2 := Lib.hid (fun w (h : Ints .i64 w v2 l2) => llvalidr_any p' z' v2 l2 w h)
        have HV := Lib.hid hv
        have HV2 := Lib.hid hv2
        obtain ⟨a, cap, rfl, -, -, -, -⟩ := id hv
        obtain ⟨a2, cap2, rfl, -, -, -, -⟩ := id hv2
        rw [hE] at C1
        rw [hE2] at C2
        clear hE hE2
        clear hv hv2
        go_enter Try.func27, Try.ntmps27
        go_wp2_with fail
        refine (C1.out _ (HV.out.grown (((grown_alloc _ _).trans' (grown_alloc _ _)).trans' (grown_alloc _ _)))).mono ?_
        rintro e w1 ⟨rfl, g1⟩
        have G1 : w.grownBy w1 none := (((grown_alloc _ _).trans' (grown_alloc _ _)).trans' (grown_alloc _ _)).trans' g1
        have hz1 : w.heap.size + 3 ≤ w1.heap.size := by simpa using g1.size
        have c1 := (((Blk.new w _ _).keep (grown_alloc _ _)).keep (grown_alloc _ _)).keep g1
        have x1 := ((Blk.newAt (w.alloc _) (w.heap.size + 1) _ _ (by simp)).keep (grown_alloc _ _)).keep g1
        have r1 := (Blk.newAt ((w.alloc _).alloc _) (w.heap.size + 1 + 1) _ _ (by simp)).keep g1
        clear g1
        obtain ⟨x10, x11, x12, x15⟩ := x1.at3
        go_wp2_with fail
        refine (C2.out _ (HV2.out.grown G1)).mono ?_
        rintro e w2 ⟨rfl, g2⟩
        clear x10 x11 x12 x15
        have hz2 := g2.size
        have GG := G1.trans' g2
        have c2 := c1.keep g2
        have x2 := x1.keep g2
        have r2 := r1.keep g2
        clear g2 c1 x1 r1
        obtain ⟨c10, c11, c12, c15⟩ := c2.at3
        obtain ⟨x10, x11, x12, x15⟩ := x2.at3
        obtain ⟨r10, r11, r12, r15⟩ := r2.at3
        have hkk : (p != p') = true ∨ ((p != p') = false ∧ (z != z') = true) := by
          by_cases h1 : p = p'
          · have h3 : z ≠ z' := fun h => hk ⟨h1, h⟩
            exact .inr ⟨by simpa using h1, by simpa using h3⟩
          · exact .inl (by simpa using h1)
        clear hk
        rcases hkk with k1 | ⟨k1, k2⟩
        all_goals
          go_wp2
          refine bodyPost_ret (v := .tuple #[.agg #[.int .i64 0, .int .u64 0, .slice none 0 0], .int .i64 10]) ?_ rfl ⟨_, rfl, ints_nil _ _, fresh_nil _ _ _, ?_⟩
          · simp [results, Try.results27, go_sem, r10, r11, r12]
          · repeat (with_reducible refine grown_set ?_ _ (by omega))
            exact GG
    · have hM : lmE p z l p' z' l2 = llE p' l2 := by unfold lmE; rw [if_neg (by simpa using hE), if_pos hE2]
      have e1 : ∀ x, lmI p z l p' z' l2 x = 0 := fun x => by unfold lmI; rw [if_neg (by rw [hM]; exact hE2)]
      rw [e1, e1, hM, show lmV p z l p' z' l2 = [] from by unfold lmV; rw [if_neg (by rw [hM]; exact hE2)]]
      clear e1 hM
      have C1 := Lib.hid (fun w (h : Ints .i64 w v l) => llvalidr_any p z v l w h)
      have C2 := Lib.hid (fun w (h : Ints .i64 w v2 l2) => llvalidr_any p' z' v2 l2 w h)
      have HV := Lib.hid hv
      have HV2 := Lib.hid hv2
      obtain ⟨a, cap, rfl, -, -, -, -⟩ := id hv
      obtain ⟨a2, cap2, rfl, -, -, -, -⟩ := id hv2
      rw [hE] at C1
      generalize llE p' l2 = E at *
      have hb1 : (E != 0) = true := by rw [bne_iff_ne]; exact hE2
      clear hE hE2
      clear hv hv2
      go_enter Try.func27, Try.ntmps27
      go_wp2_with fail
      refine (C1.out _ (HV.out.grown (((grown_alloc _ _).trans' (grown_alloc _ _)).trans' (grown_alloc _ _)))).mono ?_
      rintro e w1 ⟨rfl, g1⟩
      have G1 : w.grownBy w1 none := (((grown_alloc _ _).trans' (grown_alloc _ _)).trans' (grown_alloc _ _)).trans' g1
      have hz1 : w.heap.size + 3 ≤ w1.heap.size := by simpa using g1.size
      have c1 := (((Blk.new w _ _).keep (grown_alloc _ _)).keep (grown_alloc _ _)).keep g1
      have x1 := ((Blk.newAt (w.alloc _) (w.heap.size + 1) _ _ (by simp)).keep (grown_alloc _ _)).keep g1
      have r1 := (Blk.newAt ((w.alloc _).alloc _) (w.heap.size + 1 + 1) _ _ (by simp)).keep g1
      clear g1
      obtain ⟨x10, x11, x12, x15⟩ := x1.at3
      go_wp2_with fail
      refine (C2.out _ (HV2.out.grown G1)).mono ?_
      rintro e w2 ⟨rfl, g2⟩
      clear x10 x11 x12 x15
      have hz2 := g2.size
      have GG := G1.trans' g2
      have c2 := c1.keep g2
      have x2 := x1.keep g2
      have r2 := r1.keep g2
      clear g2 c1 x1 r1
      obtain ⟨r10, r11, r12, r15⟩ := r2.at3
      go_wp2
      refine bodyPost_ret (v := .tuple #[.agg #[.int .i64 0, .int .u64 0, .slice none 0 0], .int .i64 E]) ?_ rfl ⟨_, rfl, ints_nil _ _, fresh_nil _ _ _, ?_⟩
      · simp [results, Try.results27, go_sem, r10, r11, r12]
      · repeat (with_reducible refine grown_set ?_ _ (by omega))
        exact GG
  · have hM : lmE p z l p' z' l2 = llE p l := by unfold lmE; rw [if_pos hE]
    have e1 : ∀ x, lmI p z l p' z' l2 x = 0 := fun x => by unfold lmI; rw [if_neg (by rw [hM]; exact hE)]
    rw [e1, e1, hM, show lmV p z l p' z' l2 = [] from by unfold lmV; rw [if_neg (by rw [hM]; exact hE)]]
    clear e1 hM
    have C1 := Lib.hid (fun w (h : Ints .i64 w v l) => llvalidr_any p z v l w h)
    have C2 := Lib.hid (fun w (h : Ints .i64 w v2 l2) => llvalidr_any p' z' v2 l2 w h)
    have HV := Lib.hid hv
    have HV2 := Lib.hid hv2
    obtain ⟨a, cap, rfl, -, -, -, -⟩ := id hv
    obtain ⟨a2, cap2, rfl, -, -, -, -⟩ := id hv2
    clear C2
    generalize llE p l = E at *
    have hb1 : (E != 0) = true := by rw [bne_iff_ne]; exact hE
    clear hE
    clear hv hv2
    go_enter Try.func27, Try.ntmps27
    go_wp2_with fail
    refine (C1.out _ (HV.out.grown (((grown_alloc _ _).trans' (grown_alloc _ _)).trans' (grown_alloc _ _)))).mono ?_
    rintro e w1 ⟨rfl, g1⟩
    have G1 : w.grownBy w1 none := (((grown_alloc _ _).trans' (grown_alloc _ _)).trans' (grown_alloc _ _)).trans' g1
    have hz1 : w.heap.size + 3 ≤ w1.heap.size := by simpa using g1.size
    have c1 := (((Blk.new w _ _).keep (grown_alloc _ _)).keep (grown_alloc _ _)).keep g1
    have x1 := ((Blk.newAt (w.alloc _) (w.heap.size + 1) _ _ (by simp)).keep (grown_alloc _ _)).keep g1
    have r1 := (Blk.newAt ((w.alloc _).alloc _) (w.heap.size + 1 + 1) _ _ (by simp)).keep g1
    clear g1
    have GG := G1
    obtain ⟨r10, r11, r12, r15⟩ := r1.at3
    go_wp2
    refine bodyPost_ret (v := .tuple #[.agg #[.int .i64 0, .int .u64 0, .slice none 0 0], .int .i64 E]) ?_ rfl ⟨_, rfl, ints_nil _ _, fresh_nil _ _ _, ?_⟩
    · simp [results, Try.results27, go_sem, r10, r11, r12]
    · repeat (with_reducible refine grown_set ?_ _ (by omega))
      exact GG
end Go.Proofs.Ythohjekfffebkaa
