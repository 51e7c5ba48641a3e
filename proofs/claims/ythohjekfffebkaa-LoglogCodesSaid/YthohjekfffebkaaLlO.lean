/- The walks of the encodings of LogLog sketches. Conditions: registers are Go's ints. -/
import Derived.Test.YthohjekfffebkaaLlN
import Derived.Test.YthohjekfffebkaaLlJ
import Derived.Test.YthohjekfffebkaaWordEnc
namespace Go.Proofs.Ythohjekfffebkaa
open Go.RowKit Go.ChangeShapes Go.WideShapes
set_option linter.unusedVariables false
set_option linter.unusedSimpArgs false
theorem encL_one {p : Int} (h0 : 0 ≤ p) (h1 : p < 248) : encL p = [p] ∧ encE p = 0 := by
  unfold encL encE
  rw [if_neg (by omega), if_neg (by omega), encU_one h1]
  exact ⟨rfl, rfl⟩
theorem encLl_ok {p z : Int} {l : List Int} (h : llE p l = 0) : encLl p z l = ([p] ++ beB 8 z) ++ l := by
  have hp := (llE_ok h).1.2
  unfold encLl
  rw [if_neg (by simpa using h), encU_one (by omega)]
  simp
theorem encLl_no {p z : Int} {l : List Int} (h : llE p l ≠ 0) : encLl p z l = [] := by unfold encLl; rw [if_pos h]
set_option maxRecDepth 100000 in
set_option maxHeartbeats 1600000 in
theorem llenc_any (p z : Int) (v : Value) (l : List Int) (w : World) (hv : Ints .i64 w v l) :
    Calls Try.prog 28 #[.agg #[.int .i64 p, .int .u64 z, v]] w fun e w' => ∃ u, e = .returned (.tuple #[u, .int .i64 (llE p l)]) ∧
      w'.ownsRow w.heap.size 5 1 u (encLl p z l).length ((encLl p z l).map (.int .u8)) ∧ w.grownBy w' none := by
  have C1 := Lib.hid (fun w (h : Ints .i64 w v l) => llvalid_any p z v l w h)
  have HV := Lib.hid hv
  obtain ⟨a, cap, rfl, -, -, -, -⟩ := id hv
  by_cases hE : llE p l = 0
  · obtain ⟨hs, hl, hg⟩ := llE_ok hE
    have HF := Lib.hid (encLl_ok (z := z) hE)
    rw [hE] at C1 ⊢
    have hp2 := p2_in hs
    obtain ⟨q1, q2⟩ : 2 ≤ p ∧ p ≤ 8 := hs
    have c2 := fun w : World => encUint_any p w
    rw [(encL_one (p := p) (by omega) (by omega)).1, (encL_one (p := p) (by omega) (by omega)).2] at c2
    have C2 := Lib.hid c2
    have C3 := Lib.hid (fun w : World => encWord_any z w)
    have HG := Lib.hid hg
    have hB := Lib.hid (length_beB 8 z)
    obtain ⟨H, hH⟩ : ∃ H, H = [p] ++ beB 8 z := ⟨_, rfl⟩
    have hHl : H.length = 9 := by rw [hH, List.length_append, hB.out]; rfl
    have HHL := Lib.hid hHl
    have hmap : Hid ([p].map (Value.int .u8) ++ (beB 8 z).map (.int .u8) = H.map (.int .u8)) := by show _ = _; rw [hH, List.map_append]
    rw [← hH] at HF
    have hl5 : l.length ≤ 256 := by omega
    have hpos : 0 < l.length := by omega
    obtain ⟨bl, off, rfl, hbl, hcl⟩ := hv.at hpos
    have HC := Lib.hid hcl
    clear hE hl hg hcl c2 hH hHl hv
    go_enter Try.func28, Try.ntmps28
    go_wp2_with fail
    refine (C1.out _ (HV.out.grown (grown_alloc _ _))).mono ?_
    rintro e w1 ⟨rfl, g1⟩
    have hz1 : w.heap.size + 1 ≤ w1.heap.size := by simpa using g1.size
    have G1 := (grown_alloc _ _).trans' g1
    have c1 := (Blk.new w _ _).keep g1
    clear g1
    obtain ⟨c10, c11, c12, c15⟩ := c1.at3
    go_wp2_with fail
    refine (C2.out _).mono ?_
    rintro e w2 ⟨u2, rfl, hu2, g2⟩
    clear c10 c11 c12 c15
    have c2 := c1.keep g2
    have hz2 := g2.size
    obtain ⟨c10, c11, c12, c15⟩ := c2.at3
    go_wp2_with fail
    refine (C3.out _).mono ?_
    rintro e w3 ⟨u3, rfl, hu3, g3⟩
    clear c10 c11 c12 c15
    have c3 := c2.keep g3
    have hz3 := g3.size
    have hu2' := own_keep hu2 g3
    have G3 := g2.trans' g3
    go_wp2_with (at_builtin; refine wpList_appS _ rfl _ _ 51 51 rfl w1.heap.size 5 (.int .u8 0) 1 1 Try.underlying51 Try.infoU8 rfl (by decide) _ _ _ _ _ _ hu2' rfl rfl (own_src hu3 (ints_oneCell _ _) Try.underlying51) (by unfold maxLen; simp) (by simp) (by omega) ?_)
    intro u4 w4 hu4 g4 _
    have hz4 := g4.size
    have G4 := G1.trans' (grown_own G3 hu2' g4)
    have hu4' : w4.ownsRow w1.heap.size 5 1 u4 9 (H.map (.int .u8)) := by rw [← hmap.out]; exact hu4
    have c4 := c3.own g4 (fun e => by have := (hu2'.lt _ e).1; omega)
    clear hu2 hu2' hu3 hu4 g2 g3 G3 c1 c2 c3 g4
    obtain ⟨c10, c11, c12, c15⟩ := c4.at3
    go_wp2_with fail
    clear c10 c11 c12 c15
    go_loopw [5, 8, 28] (fun b _ i wr => ∃ k : Nat, k ≤ l.length ∧ i = .int .i64 k ∧ wr.ownsRow w1.heap.size 5 1 b (9 + k) ((H ++ l.take k).map (.int .u8)) ∧ w.grownBy wr none ∧ w1.heap.size ≤ wr.heap.size) (fun _ _ i _ => l.length - (intOf i).toNat)
    case atStart => exact ⟨0, by omega, rfl, by simpa using hu4', G4, by omega⟩
    case round =>
      obtain ⟨k, hk, rfl, ho, G5, hz5⟩ := hrel
      by_cases hlt : k < l.length
      · have y := kcell G5 (HC.out k hlt) hbl
        have hx := HG.out _ (gI_mem hlt)
        have HS := Lib.hid (take_succ_gI hlt)
        generalize gI l k = x at *
        have e1 : (k : Int) < l.length := by omega
        have e2 : (0 : Int) ≤ k := by omega
        have e3 : x ≤ 255 := by omega
        have e4 : 0 ≤ x := hx.1
        clear hx
        go_wp2_with (at_builtin; refine wpList_app1 wr (.int .u8 x) rfl _ _ 51 rfl w1.heap.size 5 (.int .u8 0) 1 Try.underlying51 Try.infoU8 rfl _ _ _ ho rfl rfl rfl (by unfold maxLen; omega) (by omega) hz5 ?_)
        intro v6 w6 ho6 g6
        have G6 : w.grownBy w6 none := grown_trans G5 g6 (fun b hb => by have := (ho.lt b hb).1; omega)
        have hz6 := g6.size
        clear ho g6
        go_wp2
        go_roundw
        case rel =>
          refine ⟨k + 1, by omega, by go_num, ?_, G6, by omega⟩
          rw [HS.out]
          simpa [Nat.add_assoc] using ho6
        case measure => simp [intOf]; omega
      · obtain rfl : k = l.length := by omega
        rw [List.take_of_length_le (by omega)] at ho
        go_wp2
        go_ret2
        rw [HF.out]
        refine ⟨_, rfl, ?_, G5⟩
        rw [List.length_append, HHL.out]
        exact own_lower ho (by omega)
  · rw [encLl_no hE]
    generalize llE p l = E at *
    have hb1 : (E != 0) = true := by rw [bne_iff_ne]; exact hE
    clear hE hv
    go_enter Try.func28, Try.ntmps28
    go_wp2_with fail
    refine (C1.out _ (HV.out.grown (grown_alloc _ _))).mono ?_
    rintro e w1 ⟨rfl, g1⟩
    go_wp2
    go_ret2
    exact ⟨_, rfl, World.ownsRow_nil _ _ _ _, (grown_alloc _ _).trans' g1⟩
theorem keep3 {A : Nat} {x y z : Value} {w w' : World} (h : A < w.heap.size ∧ w.cell? ⟨A, 0, none⟩ = some x ∧ w.cell? ⟨A, 1, none⟩ = some y ∧ w.cell? ⟨A, 2, none⟩ = some z) (g : w.grownBy w' none) :
    A < w'.heap.size ∧ w'.cell? ⟨A, 0, none⟩ = some x ∧ w'.cell? ⟨A, 1, none⟩ = some y ∧ w'.cell? ⟨A, 2, none⟩ = some z := by
  obtain ⟨h, k0, k1, k2⟩ := h
  exact ⟨Nat.lt_of_lt_of_le h g.size, kcell g k0 h, kcell g k1 h, kcell g k2 h⟩
theorem keep3r {A B : Nat} {x y z : Value} {w w' : World} {e : TypeId} {size n : Nat} {v : Value} {xs : List Value} (h : A < w.heap.size ∧ w.cell? ⟨A, 0, none⟩ = some x ∧ w.cell? ⟨A, 1, none⟩ = some y ∧ w.cell? ⟨A, 2, none⟩ = some z)
    (g : w.grownBy w' v.ownBlock) (ho : w.ownsRow B e size v n xs) (hB : A < B) :
    A < w'.heap.size ∧ w'.cell? ⟨A, 0, none⟩ = some x ∧ w'.cell? ⟨A, 1, none⟩ = some y ∧ w'.cell? ⟨A, 2, none⟩ = some z := by
  obtain ⟨h, k0, k1, k2⟩ := h
  have hne : ∀ k, v.ownBlock = some k → A ≠ k := fun k hk => by have := (ho.lt k hk).1; omega
  have hb : w'.heap[A]? = w.heap[A]? := g.block A h (by
    cases hv : v.ownBlock with
    | none => simp
    | some k => simp; exact fun e => hne k hv e)
  exact ⟨Nat.lt_of_lt_of_le h g.size, (World.cell?_of_block (w := w) hb).trans k0, (World.cell?_of_block (w := w) hb).trans k1, (World.cell?_of_block (w := w) hb).trans k2⟩
set_option maxRecDepth 100000 in
set_option maxHeartbeats 1600000 in
theorem llencr_any (p z : Int) (v : Value) (l : List Int) (w : World) (hv : Ints .i64 w v l) :
    Calls Try.prog 29 #[.agg #[.int .i64 p, .int .u64 z, v]] w fun e w' => ∃ u, e = .returned (.tuple #[u, .int .i64 (llE p l)]) ∧
      w'.ownsRow w.heap.size 5 1 u (encLl p z l).length ((encLl p z l).map (.int .u8)) ∧ w.grownBy w' none := by
  have C1 := Lib.hid (fun w (h : Ints .i64 w v l) => llvalidr_any p z v l w h)
  have HV := Lib.hid hv
  obtain ⟨a, cap, rfl, -, -, -, -⟩ := id hv
  by_cases hE : llE p l = 0
  · obtain ⟨hs, hl, hg⟩ := llE_ok hE
    have HF := Lib.hid (encLl_ok (z := z) hE)
    rw [hE] at C1 ⊢
    have hp2 := p2_in hs
    obtain ⟨q1, q2⟩ : 2 ≤ p ∧ p ≤ 8 := hs
    have c2 := fun w : World => uint_any p w (by omega) (by omega)
    rw [encU_one (p := p) (by omega)] at c2
    have C2 := Lib.hid c2
    have C3 := Lib.hid (fun w : World => word_any z w)
    have HG := Lib.hid hg
    have hB := Lib.hid (length_beB 8 z)
    obtain ⟨H, hH⟩ : ∃ H, H = [p] ++ beB 8 z := ⟨_, rfl⟩
    have hHl : H.length = 9 := by rw [hH, List.length_append, hB.out]; rfl
    have HHL := Lib.hid hHl
    have hmap : Hid ([p].map (Value.int .u8) ++ (beB 8 z).map (.int .u8) = H.map (.int .u8)) := by show _ = _; rw [hH, List.map_append]
    rw [← hH] at HF
    have hl5 : l.length ≤ 256 := by omega
    have hpos : 0 < l.length := by omega
    obtain ⟨bl, off, rfl, hbl, hcl⟩ := hv.at hpos
    have HC := Lib.hid hcl
    clear hE hl hg hcl c2 hH hHl hv
    go_enter Try.func29, Try.ntmps29
    go_wp2_with fail
    refine (C1.out _ (HV.out.grown (grown_alloc _ _))).mono ?_
    rintro e w1 ⟨rfl, g1⟩
    have hz1 : w.heap.size + 1 ≤ w1.heap.size := by simpa using g1.size
    have G1 := (grown_alloc _ _).trans' g1
    have c1 := (Blk.new w _ _).keep g1
    clear g1
    obtain ⟨c10, c11, c12, c15⟩ := c1.at3
    go_wp2_with fail
    go_region_held3 (fun w' => w.heap.size < w'.heap.size ∧ w'.cell? ⟨w.heap.size, 0, none⟩ = some (.int .i64 p) ∧ w'.cell? ⟨w.heap.size, 1, none⟩ = some (.int .u64 z) ∧ w'.cell? ⟨w.heap.size, 2, none⟩ = some (.slice (some ⟨bl, off, none⟩) l.length cap))
      (first
        | (with_reducible exact keep3 (by assumption) (by assumption))
        | (with_reducible exact keep3r (by assumption) (by assumption) (own_keep hu2 g3) (by simp; omega))
        | exact ⟨by simp; omega, c10, c11, c12⟩)
      (first
        | (go_at_call 50; ((with_reducible refine (C2.out _).mono ?_); rintro e w2 ⟨v2, rfl, hu2, g2⟩))
        | (go_at_call 51; ((with_reducible refine (C3.out _).mono ?_); rintro e w3 ⟨v3, rfl, hu3, g3⟩))
        | ((refine step_appS _ (by rfl) _ _ 51 51 (by rfl) _ 5 (.int .u8 0) 1 1 Try.underlying51 Try.infoU8 rfl (by decide) _ _ _ _ _ _ (own_keep hu2 g3) (by rfl) (by rfl) (own_src hu3 (ints_oneCell _ _) Try.underlying51) (by unfold maxLen; simp) (by simp) (Nat.le_trans g2.size g3.size) ?_); intro v5 w5 hu5 g5 _))
    obtain ⟨z5, p0, p1, p2⟩ := ‹w.heap.size < w5.heap.size ∧ _›
    have hz2 := g2.size
    have hz3 := g3.size
    have hz5 := g5.size
    have hu2' := own_keep hu2 g3
    have c5 := ((c1.keep (grown_drew1 _)).keep (g2.trans' g3)).own g5 (fun e => by have := (hu2'.lt _ e).1; simp at this; omega)
    have G5 := (G1.trans' (grown_drew1 _)).trans' (grown_own (g2.trans' g3) hu2' g5)
    have hu5' : w5.ownsRow w1.heap.size 5 1 v5 9 (H.map (.int .u8)) := by rw [← hmap.out]; exact hu5
    clear hu2 hu2' hu3 hu5 g2 g3 c1 g5 c10 c11 c12 c15 p0 p1 p2
    go_wp2_with fail
    go_loopw [5, 6] (fun b i wr => ∃ k : Nat, k ≤ l.length ∧ i = .int .i64 k ∧ wr.ownsRow w1.heap.size 5 1 b (9 + k) ((H ++ l.take k).map (.int .u8)) ∧ w.grownBy wr none ∧ w1.heap.size ≤ wr.heap.size ∧ Blk w.heap.size #[.int .i64 p, .int .u64 z, .slice (some ⟨bl, off, none⟩) l.length cap] 26 wr) (fun _ i _ => l.length - (intOf i).toNat)
    case atStart => exact ⟨0, by omega, rfl, by simpa using hu5', G5, by simp at hz2; omega, c5⟩
    case round =>
      obtain ⟨k, hk, rfl, ho, G6, hz6, c6⟩ := hrel
      obtain ⟨c10, c11, c12, c15⟩ := c6.at3
      by_cases hlt : k < l.length
      · have y := kcell G6 (HC.out k hlt) hbl
        have hx := HG.out _ (gI_mem hlt)
        have HS := Lib.hid (take_succ_gI hlt)
        generalize gI l k = x at *
        have e1 : (k : Int) < l.length := by omega
        have e2 : (0 : Int) ≤ k := by omega
        have e3 : x ≤ 255 := by omega
        have e4 : 0 ≤ x := hx.1
        clear hx
        go_wp2_with (at_builtin; refine wpList_app1 wr (.int .u8 x) rfl _ _ 51 rfl w1.heap.size 5 (.int .u8 0) 1 Try.underlying51 Try.infoU8 rfl _ _ _ ho rfl rfl rfl (by unfold maxLen; omega) (by omega) hz6 ?_)
        intro v7 w7 ho7 g7
        have G7 : w.grownBy w7 none := grown_trans G6 g7 (fun b hb => by have := (ho.lt b hb).1; omega)
        have c7 := c6.own g7 (fun e => by have := (ho.lt _ e).1; omega)
        have hz7 := g7.size
        clear ho g7 c10 c11 c12 c15 c6
        go_wp2
        go_roundw
        case rel =>
          refine ⟨k + 1, by omega, by go_num, ?_, G7, by omega, c7⟩
          rw [HS.out]
          simpa [Nat.add_assoc] using ho7
        case measure => simp [intOf]; omega
      · obtain rfl : k = l.length := by omega
        rw [List.take_of_length_le (by omega)] at ho
        go_wp2
        go_ret2
        rw [HF.out]
        refine ⟨_, rfl, ?_, G6⟩
        rw [List.length_append, HHL.out]
        exact own_lower ho (by omega)
  · rw [encLl_no hE]
    generalize llE p l = E at *
    have hb1 : (E != 0) = true := by rw [bne_iff_ne]; exact hE
    clear hE hv
    go_enter Try.func29, Try.ntmps29
    go_wp2_with fail
    refine (C1.out _ (HV.out.grown (grown_alloc _ _))).mono ?_
    rintro e w1 ⟨rfl, g1⟩
    go_wp2
    go_ret2
    exact ⟨_, rfl, World.ownsRow_nil _ _ _ _, (grown_alloc _ _).trans' g1⟩
end Go.Proofs.Ythohjekfffebkaa
