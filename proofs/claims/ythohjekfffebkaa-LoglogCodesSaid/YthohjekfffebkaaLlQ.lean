/- The walk of the reference's Decode of LogLog sketches. Conditions: the bytes lie in memory. -/
import Derived.Test.YthohjekfffebkaaLlP
namespace Go.Proofs.Ythohjekfffebkaa
open Go.RowKit Go.ChangeShapes Go.WideShapes
set_option linter.unusedVariables false
set_option linter.unusedSimpArgs false
theorem rdN_in {l : List Int} (hw : ∀ n ∈ l, (Lit.int .u8 n).wf = true) {most : Int} (hm : 0 ≤ most) {k : Nat} {bad : Bool} (hk : k ≤ l.length) : (rdN l most k bad).2.1 ≤ l.length ∧ 0 ≤ (rdN l most k bad).1 ∧ (rdN l most k bad).1 ≤ most := by
  unfold rdN rdU
  split
  · exact ⟨hk, Int.le_refl _, hm⟩
  · rename_i h
    have he : (decU (l.drop k)).2.2 = 0 := by
      by_cases h2 : (decU (l.drop k)).2.2 = 0
      · exact h2
      · exact absurd (.inr (.inl h2)) h
    have hmm : ¬ (decU (l.drop k)).1 > most := fun h2 => absurd (.inr (.inr h2)) h
    have := decU_ok (l := l.drop k) (wf_drop hw k) (n := (decU (l.drop k)).1) (k := (decU (l.drop k)).2.1) (by rw [← he])
    rw [List.length_drop] at this
    simp only
    omega
theorem rdW_in {l : List Int} {k : Nat} {bad : Bool} (hk : k ≤ l.length) : (rdW l k bad).2.1 ≤ l.length := by
  unfold rdW rdWu
  split
  · exact hk
  · rename_i h
    have he : (decW (l.drop k)).2.2 = 0 := by
      by_cases h2 : (decW (l.drop k)).2.2 = 0
      · exact h2
      · exact absurd (.inr h2) h
    have := decW_ok he
    rw [List.length_drop] at this
    simp only
    omega
theorem p2_le {p : Int} (h0 : 0 ≤ p) (h : p ≤ 8) : 1 ≤ p2 p ∧ p2 p ≤ 256 ∧ wrap64 (2 ^ p.toNat) = (p2 p : Int) := by
  obtain ⟨k, rfl⟩ : ∃ k : Nat, p = k := ⟨p.toNat, by omega⟩
  unfold p2
  rw [Int.toNat_natCast]
  have hb : 1 ≤ 2 ^ k ∧ 2 ^ k ≤ 256 := by
    have : k = 0 ∨ k = 1 ∨ k = 2 ∨ k = 3 ∨ k = 4 ∨ k = 5 ∨ k = 6 ∨ k = 7 ∨ k = 8 := by omega
    rcases this with rfl | rfl | rfl | rfl | rfl | rfl | rfl | rfl | rfl <;> decide
  have e : ((2 : Int) ^ k) = ((2 ^ k : Nat) : Int) := by simp
  rw [e]
  unfold wrap64
  omega
theorem RdrAt.own {R : Nat} {v : Value} {k : Nat} {bad : Bool} {w w' : World} {r : Option Nat} (h : RdrAt R v k bad w) (g : w.grownBy w' r) (hne : r ≠ some R) : RdrAt R v k bad w' := by
  obtain ⟨h0, h1, h2, h3, h4⟩ := h
  have hb := g.block R h0 (fun e => hne e.symm)
  exact ⟨Nat.lt_of_lt_of_le h0 g.size, (World.cell?_of_block (w := w) hb).trans h1, (World.cell?_of_block (w := w) hb).trans h2, (World.cell?_of_block (w := w) hb).trans h3, fun o => (World.frozen?_of_block (w := w) hb).trans (h4 o)⟩
theorem own_rdr {w w' : World} {B R : Nat} {e : TypeId} {size : Nat} {v : Value} {n : Nat} {xs : List Value} (h : w.ownsRow B e size v n xs) (g : w.grownBy w' (some R)) (hR : R < B) : w'.ownsRow B e size v n xs :=
  h.kept g (.inr fun e => by have := (h.lt R e).1; omega)
theorem RdrAt.set_ne {R : Nat} {v : Value} {k : Nat} {bad : Bool} {w : World} (h : RdrAt R v k bad w) (b o : Nat) (x : Value) (hne : b ≠ R) : RdrAt R v k bad (w.setCell ⟨b, o, none⟩ x) :=
  h.own (grown_cell w b o x) (fun e => hne (Option.some.inj e))
set_option maxRecDepth 100000 in
set_option maxHeartbeats 1600000 in
theorem lldecr_any (v : Value) (l : List Int) (w : World) (hv : Ints .u8 w v l) :
    Calls Try.prog 31 #[v] w fun e w' => ∃ u, e = .returned (.tuple #[.agg #[.int .i64 (llD l).1, .int .u64 (llD l).2.1, u], .int .i64 (llD l).2.2.2]) ∧ Ints .i64 w' u (llD l).2.2.1 ∧ Fresh w.heap.size u ∧ w.grownBy w' none := by
  have HW := Lib.hid hv.wfs
  have HV := Lib.hid hv
  have hlaw := fun (k0 k i : Nat) (b0 bad : Bool) (cells : List Int) (p z : Int) hp hz hk hb h he => llRef_law hv.wfs (p := p) (z := z) (k0 := k0) (k := k) (i := i) (b0 := b0) (bad := bad) (cells := cells) hp hz hk hb h he
  have hl1 := rdN_in hv.wfs (most := 8) (by decide) (k := 0) (bad := false) (Nat.zero_le _)
  have hl2 := rdW_in (l := l) (bad := (rdN l 8 0 false).2.2) hl1.1
  obtain ⟨a, cap, rfl, h1, h2, -, -⟩ := id hv
  have c1 := fun (R : Nat) (w1 : World) (g : w.grownBy w1 none) (h : RdrAt R (.slice a l.length cap) 0 false w1) => rnum_any R _ l 0 false 8 w1 (hv.grown g) (Nat.zero_le _) h
  have c2 := fun (R : Nat) (w1 : World) (g : w.grownBy w1 none) (h : RdrAt R (.slice a l.length cap) (rdN l 8 0 false).2.1 (rdN l 8 0 false).2.2 w1) => rword_any R _ l _ _ w1 (hv.grown g) hl1.1 h
  generalize rdN l 8 0 false = r1 at *
  obtain ⟨n1, k1, b1⟩ := r1
  simp only at *
  generalize rdW l k1 b1 = r2 at *
  obtain ⟨z, k0, b0⟩ := r2
  simp only at *
  have hlaw2 := fun k i bad cells h he => hlaw k0 k i b0 bad cells n1 z rfl rfl rfl rfl h he
  have hp2 := p2_le hl1.2.1 hl1.2.2
  have C1 := Lib.hid c1
  have C2 := Lib.hid c2
  have HL := Lib.hid hlaw2
  have C3 := Lib.hid (fun (R k : Nat) (bad : Bool) (w1 : World) (g : w.grownBy w1 none) (hk : k ≤ l.length) (h : RdrAt R (.slice a l.length cap) k bad w1) => rnum_any R _ l k bad 65 w1 (hv.grown g) hk h)
  have HST := Lib.hid (fun (i k : Nat) (cells : List Int) h hi => LInv.step hv.wfs (p := n1) (k0 := k0) (b0 := b0) (i := i) (k := k) (cells := cells) h hi)
  have hst0 := Lib.hid (LInv.start (l := l) (p := n1) (k0 := k0) (b0 := b0) (fun _ => hl2))
  obtain ⟨-, hn0, hn8⟩ := hl1
  obtain ⟨hp1, hp3, hp4⟩ := hp2
  obtain ⟨N, hN⟩ : ∃ N, N = p2 n1 := ⟨_, rfl⟩
  rw [← hN] at hp1 hp3 hp4 HST HL
  have HK := Lib.hid (fun (i k : Nat) (bad : Bool) (cells : List Int) (h : LInv l n1 k0 b0 i k bad cells) => h)
  clear c1 c2 hlaw hlaw2 hv h1 h2 hN
  go_enter Try.func31, Try.ntmps31
  go_wp2_with fail
  have G0 := (grown_alloc w (.cells #[.int .i64 0, .int .u64 0, .slice none 0 0] 26)).trans' (grown_alloc _ (.cells #[.slice a l.length cap, .int .i64 0, .bool false] 79))
  refine (C1.out (w.heap.size + 1) _ G0 ⟨by simp, by simp [go_sem], by simp [go_sem], by simp [go_sem], fun o => by simp [go_sem]⟩).mono ?_
  rintro e w1 ⟨rfl, R1, g1⟩
  have G1 := grown_rdr G0 g1 (by omega)
  have y1 : Blk w.heap.size #[.int .i64 0, .int .u64 0, .slice none 0 0] 26 w1 := ((Blk.new _ _ _).keep (grown_alloc _ _)).rdr g1 (by omega)
  clear g1 C1 G0
  go_wp2_with fail
  refine (C2.out (w.heap.size + 1) _ G1 R1).mono ?_
  rintro e w2 ⟨rfl, R2, g2⟩
  have G2 := grown_rdr G1 g2 (by omega)
  have y2 := y1.rdr g2 (by omega)
  have hz2 := R2.1
  clear g2 C2 G1 R1 y1
  go_wp2_with fail
  go_loopw [6] (fun iv wr => ∃ (i k : Nat) (bad : Bool) (cells : List Int) (v : Value), iv = .int .i64 i ∧ Hid (LInv l n1 k0 b0 i k bad cells) ∧ i ≤ N ∧ k ≤ l.length ∧ RdrAt (w.heap.size + 1) (.slice a l.length cap) k bad wr ∧ wr.ownsRow (w2.heap.size + 1) 3 1 v i (cells.map (.int .i64)) ∧ Blk w2.heap.size #[.int .i64 n1, .int .u64 z, v] 26 wr ∧ Blk w.heap.size #[.int .i64 0, .int .u64 0, .slice none 0 0] 26 wr ∧ w.grownBy wr none) (fun iv _ => N - (intOf iv).toNat)
  case atStart =>
    exact ⟨0, k0, b0, [], _, rfl, hst0, by omega, hl2, R2.keep (grown_alloc _ _), World.ownsRow_nil _ _ _ _, Blk.new _ _ _, y2.keep (grown_alloc _ _), G2.trans' (grown_alloc _ _)⟩
  case round =>
    obtain ⟨i, k, bad, cells, v, rfl, hI, hi, hkl, hR, ho, d5, y5, G5⟩ := hrel
    obtain ⟨a5, k5, rfl, hka, hkb⟩ := own_shape ho
    obtain ⟨d50, d51, d52, d53⟩ := d5.at3
    obtain ⟨s0, s1, s2, s3, s4⟩ := id hR
    by_cases hlt : i < N
    · cases bad
      · have e1 : (i : Int) < N := by omega
        have e2 : (0 : Int) ≤ i := by omega
        have hst := HST.out i k cells hI.out hlt
        have c3 := fun w1 g h => C3.out (w.heap.size + 1) k false w1 g hkl h
        have hk2 := rdN_in HW.out (most := 65) (by decide) (k := k) (bad := false) hkl
        generalize rdN l 65 k false = r at *
        obtain ⟨x, k2, bad2⟩ := r
        simp only at hst c3 hk2
        have CC := Lib.hid c3
        have HST2 := Lib.hid hst
        have hlk := ho.lt
        have hR1 := hR.1
        clear c3 hst
        have f0 : ∀ w' : World, w'.cell? ⟨w2.heap.size, 2, none⟩ = some (.slice a5 i k5) → w'.cell? ⟨w2.heap.size, 2, none⟩ = some (.slice a5 i k5) := fun w' h => h
        go_wp2_with fail
        clear d50 d51 d53 s1 s2 s3
        refine wp_region_sqL 7 [0, 1, 2, 3, 4, 5, 6, 7] [0, 0, 0, 1, 1, 1, 0, 3] (fun w' => w'.cell? ⟨w2.heap.size, 2, none⟩ = some (.slice a5 i k5)) (by kernel_rfl) (by kernel_rfl) (by kernel_rfl) (by kernel_rfl) d52 ?_
        simp only [pick, List.map_cons, List.map_nil, List.getD_cons_zero, List.getD_cons_succ]
        repeat (first
            | (((first | refine sqL_skip (by rfl) ?_)); (try simp only [Act.put, List.setIfInBounds_toArray, List.set_cons_zero, List.set_cons_succ]))
            | (((first | refine sqL_take ?_ (by rfl) ?_ ?_ | refine sqL_pure ?_ (by rfl) ?_ ?_)); rotate_left; (focus (intro w' hS; go_simp; first | done | with_reducible rfl)); (try simp only [Act.put, List.setIfInBounds_toArray, List.set_cons_zero, List.set_cons_succ])))
        refine sqL_run (by rfl) ?_
        intro K hK
        go_simp
        refine (CC.out _ (G5.trans' (grown_drew1 _)) (hR.keep (grown_drew1 _))).mono ?_
        rintro e w6 ⟨rfl, R6, g6⟩
        have d6 := (d5.keep (grown_drew1 _)).rdr g6 (by omega)
        refine hK _ _ d6.at3.2.2.1 ?_
        clear hK K
        try simp only [Act.put, List.setIfInBounds_toArray, List.set_cons_zero, List.set_cons_succ]
        refine sqL_run (by rfl) ?_
        intro K hK
        go_simp
        refine hK _ _ (d6.keep (grown_alloc _ _)).at3.2.2.1 ?_
        clear hK K
        try simp only [Act.put, List.setIfInBounds_toArray, List.set_cons_zero, List.set_cons_succ]
        refine sqL_run (by rfl) ?_
        intro K hK
        have ho6 := own_keep (own_rdr (own_keep ho (grown_drew1 _)) g6 (by omega)) (grown_alloc w6 (.cells #[.int .i64 x] 3))
        have hz6 := g6.size
        have hz6' : wr.heap.size ≤ w6.heap.size := by simpa using hz6
        refine wp_appS _ _ _ 24 24 (by rfl) (w2.heap.size + 1) 3 (.int .i64 0) 1 8 Try.underlying24 Try.infoInt rfl (by decide) _ _ _ 1 _ [.int .i64 x] ho6 (by rfl) (by rfl) (own_src (own_lit1 w6 3 (.int .i64 x)) (by simp [Value.oneCell']) Try.underlying24) (by unfold maxLen; omega) (by omega) (by have := d5.lt; simp; omega) ?_
        intro v7 w7 ho7 g7 _
        obtain ⟨a7, k7, rfl, hka7, hkb7⟩ := own_shape ho7
        have hge : ∀ g, (Value.slice a5 i k5).ownBlock = some g → w2.heap.size + 1 ≤ g := fun g hg => (ho.lt g hg).1
        have d7 := (d6.keep (grown_alloc _ _)).own g7 (fun e => by have := hge _ e; omega)
        have R7 := (R6.keep (grown_alloc _ _)).own g7 (fun e => by have := hge _ e; omega)
        have y7 := (((y5.keep (grown_drew1 _)).rdr g6 (by omega)).keep (grown_alloc _ _)).own g7 (fun e => by have := hge _ e; omega)
        have G6 := grown_rdr (G5.trans' (grown_drew1 _)) g6 (by omega)
        have G7 := grown_trans (G6.trans' (grown_alloc _ _)) g7 (fun g hg => by have := hge g hg; omega)
        refine hK _ _ d7.at3.2.2.1 ?_
        clear hK K
        try simp only [Act.put, List.setIfInBounds_toArray, List.set_cons_zero, List.set_cons_succ]
        repeat (first
            | (((first | refine sqL_skip (by rfl) ?_)); (try simp only [Act.put, List.setIfInBounds_toArray, List.set_cons_zero, List.set_cons_succ]))
            | (((first | refine sqL_take ?_ (by rfl) ?_ ?_ | refine sqL_pure ?_ (by rfl) ?_ ?_)); rotate_left; (focus (intro w' hS; go_simp; first | done | with_reducible rfl)); (try simp only [Act.put, List.setIfInBounds_toArray, List.set_cons_zero, List.set_cons_succ])))
        obtain ⟨d70, d71, d72, d73⟩ := d7.at3
        refine sqL_last (by rfl) ?_
        intro K hK
        go_simp
        refine hK _ _ ?_
        clear hK K
        try simp only [Act.put, List.setIfInBounds_toArray, List.set_cons_zero, List.set_cons_succ]
        clear d70 d71 d72 d73
        go_wp2
        go_roundw
        case rel =>
          refine ⟨i + 1, k2, bad2, cells ++ [x], .slice a7 (i + 1) k7, by go_num, HST2, by omega, hk2.1, R7.set_ne _ _ _ (by omega), ?_, d7.set 2 _, y7.set_ne _ _ (by omega), grown_set G7 _ (by omega)⟩
          exact ownsRow_setCell_below (by simpa using ho7) (by show w2.heap.size < _; omega) _
        case measure => simp [intOf]; omega
      · have HF : Hid (llD l = (0, 0, [], 2)) := by
          show _ = _
          rw [← HL.out k i true cells hI.out (fun e => by cases e)]; unfold llRef; rw [if_pos (.inl rfl)]
        have e1 : (i : Int) < N := by omega
        go_wp2_with fail
        refine (rdone_any _ _ _ _ _ _ _ hR).mono ?_
        rintro e w7 ⟨rfl, g7⟩
        have y7 := y5.keep g7
        have G7 := G5.trans' g7
        obtain ⟨y70, y71, y72, y73⟩ := y7.at3
        simp only [Bool.not_true, Bool.false_and]
        clear d50 d51 d52 d53 s1 s2 s3
        go_wp2
        refine bodyPost_ret (v := .tuple #[.agg #[.int .i64 0, .int .u64 0, .slice none 0 0], .int .i64 2]) ?_ rfl ⟨_, by rw [HF.out], ?_, fresh_nil _ _ _, ?_⟩
        · simp [results, Try.results31, go_sem, y70, y71, y72]
        · rw [HF.out]; exact ints_nil _ _
        · repeat (with_reducible refine grown_set ?_ _ (by omega))
          exact G7
    · obtain rfl : i = N := by omega
      have hlaw := HL.out k i bad cells hI.out (fun _ => rfl)
      have HLW := Lib.hid hlaw
      have hil : cells.length = i := hI.out.1
      have HIL := Lib.hid hil
      have hcw := hI.out.2.1
      have HCW := Lib.hid hcw
      clear hlaw hcw hil HST HL
      go_wp2_with fail
      refine (rdone_any _ _ _ _ _ _ _ hR).mono ?_
      rintro e w7 ⟨rfl, g7⟩
      have y7 := y5.keep g7
      have d7 := d5.keep g7
      have G7 := G5.trans' g7
      have RI : Ints .i64 w7 (.slice a5 i k5) cells := ints_of_own (by rw [HIL.out]; exact own_keep ho g7) (fun x hx => by
        have := HCW.out x hx
        simp [Lit.wf, IntKind.min, IntKind.max, IntKind.signed, IntKind.bits]; omega)
      have hfr : Fresh (w2.heap.size + 1) (.slice a5 i k5) := by
        intro g nn cc e
        exact (ho.lt g.block (by rw [e]; rfl)).1
      have hz7 := g7.size
      clear d50 d51 d52 d53 s1 s2 s3 ho
      obtain ⟨d70, d71, d72, d73⟩ := d7.at3
      obtain ⟨y70, y71, y72, y73⟩ := y7.at3
      have hyl := y7.lt
      by_cases hd : bad = false ∧ k = l.length
      · have hd' : (!bad && decide (k = l.length)) = true := by simp [hd]
        rw [hd']
        by_cases hv : llE n1 cells = 0
        · have HF : Hid (llD l = (n1, z, cells, 0)) := by
            show _ = _
            rw [← HLW.out]; unfold llRef; rw [if_neg (by simp [hd, hv])]
          have C4 := Lib.hid (fun w1 h => llvalidr_any n1 z (.slice a5 i k5) cells w1 h)
          rw [hv] at C4
          clear hd hd' hv
          go_wp2_with fail
          refine (C4.out _ RI).mono ?_
          rintro e w8 ⟨rfl, g8⟩
          have RI8 := RI.grown g8
          have y8 := y7.keep g8
          have d8 := d7.keep g8
          have G8 := G7.trans' g8
          clear d70 d71 d72 d73 y70 y71 y72 y73
          obtain ⟨d80, d81, d82, d83⟩ := d8.at3
          obtain ⟨y80, y81, y82, y83⟩ := y8.at3
          go_wp2
          refine bodyPost_ret (v := .tuple #[.agg #[.int .i64 n1, .int .u64 z, .slice a5 i k5], .int .i64 0]) ?_ rfl ⟨_, by rw [HF.out], ?_, hfr.mono (by omega), ?_⟩
          · simp [results, Try.results31, go_sem, y80, y81, y82]
          · rw [HF.out]
            repeat (with_reducible refine Ints.setF ?_ hfr _ (by omega))
            exact RI8
          · repeat (with_reducible refine grown_set ?_ _ (by omega))
            exact G8
        · have HF : Hid (llD l = (0, 0, [], 2)) := by
            show _ = _
            rw [← HLW.out]; unfold llRef; rw [if_pos (.inr (.inr hv))]
          have C4 := Lib.hid (fun w1 h => llvalidr_any n1 z (.slice a5 i k5) cells w1 h)
          generalize llE n1 cells = E at *
          have hb1 : (E != 0) = true := by rw [bne_iff_ne]; exact hv
          clear hd hd' hv
          go_wp2_with fail
          refine (C4.out _ RI).mono ?_
          rintro e w8 ⟨rfl, g8⟩
          have y8 := y7.keep g8
          have G8 := G7.trans' g8
          clear d70 d71 d72 d73 y70 y71 y72 y73
          obtain ⟨y80, y81, y82, y83⟩ := y8.at3
          go_wp2
          refine bodyPost_ret (v := .tuple #[.agg #[.int .i64 0, .int .u64 0, .slice none 0 0], .int .i64 2]) ?_ rfl ⟨_, by rw [HF.out], ?_, fresh_nil _ _ _, ?_⟩
          · simp [results, Try.results31, go_sem, y80, y81, y82]
          · rw [HF.out]; exact ints_nil _ _
          · repeat (with_reducible refine grown_set ?_ _ (by omega))
            exact G8
      · have hd' : (!bad && decide (k = l.length)) = false := by
          cases bad
          · simp at hd; simp [hd]
          · simp
        rw [hd']
        have HF : Hid (llD l = (0, 0, [], 2)) := by
          show _ = _
          rw [← HLW.out]; unfold llRef
          rw [if_pos]
          cases bad
          · simp at hd; exact .inr (.inl hd)
          · exact .inl rfl
        clear hd hd'
        go_wp2
        refine bodyPost_ret (v := .tuple #[.agg #[.int .i64 0, .int .u64 0, .slice none 0 0], .int .i64 2]) ?_ rfl ⟨_, by rw [HF.out], ?_, fresh_nil _ _ _, ?_⟩
        · simp [results, Try.results31, go_sem, y70, y71, y72]
        · rw [HF.out]; exact ints_nil _ _
        · repeat (with_reducible refine grown_set ?_ _ (by omega))
          exact G7
end Go.Proofs.Ythohjekfffebkaa
