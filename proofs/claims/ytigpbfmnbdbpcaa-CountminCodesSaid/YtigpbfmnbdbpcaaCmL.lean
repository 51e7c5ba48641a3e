/- The walk of spoil. Conditions: Go's ints, at least one cell. -/
import Derived.Test.YtigpbfmnbdbpcaaCmK
namespace Go.Proofs.Ytigpbfmnbdbpcaa
open Go.RowKit Go.ChangeShapes Go.WideShapes
set_option linter.unusedVariables false
set_option linter.unusedSimpArgs false
def AnyCm (w w' : World) (e : Ending) (z : Int) (b : Bool) : Prop := ∃ d s u l, e = .returned (.agg #[.int .i64 d, .int .i64 s, .int .u64 z, u, .bool b]) ∧ Ints .i64 w' u l ∧ i64I d ∧ i64I s ∧ w.grownBy w' none
theorem below8 {i : Int} (h0 : 0 ≤ i) (h : i ≤ 7) : i = 0 ∨ i = 1 ∨ i = 2 ∨ i = 3 ∨ (4 ≤ i ∧ i ≤ 7) := by omega
theorem wAbs {X : World → Prop} {P : World → Prop} {w : World} (hP : P w) (h : ∀ w', P w' → X w') : X w := h w hP
set_option maxRecDepth 100000 in
set_option maxHeartbeats 3200000 in
theorem spoilcm_any (d s z : Int) (v : Value) (l : List Int) (b : Bool) (n : Int) (w : World) (hv : Ints .i64 w v l) (hd : i64I d) (hs : i64I s) (hn : i64I n) (hl : 1 ≤ l.length) (hl2 : l.length ≤ 600) :
    Calls Try.prog 16 #[.agg #[.int .i64 d, .int .i64 s, .int .u64 z, v, .bool b], .int .i64 n] w fun e w' => AnyCm w w' e z b := by
  obtain ⟨m, hm, m0, m1⟩ : ∃ m, bits BinOp.and IntKind.i64 n 7 = m ∧ 0 ≤ m ∧ m ≤ 7 := ⟨_, and_mask _ 3 (by omega) 7 (by decide), by omega, by omega⟩
  obtain ⟨m15, h15, p0, p1⟩ : ∃ m, bits BinOp.and IntKind.i64 (n / 8) 15 = m ∧ 0 ≤ m ∧ m ≤ 15 := ⟨_, and_mask _ 4 (by omega) 15 (by decide), by omega, by omega⟩
  obtain ⟨m127, h127, p2, p3⟩ : ∃ m, bits BinOp.and IntKind.i64 (n / 8) 127 = m ∧ 0 ≤ m ∧ m ≤ 127 := ⟨_, and_mask _ 7 (by omega) 127 (by decide), by omega, by omega⟩
  obtain ⟨m31, h31, p4, p5⟩ : ∃ m, bits BinOp.and IntKind.i64 (n / 8) 31 = m ∧ 0 ≤ m ∧ m ≤ 31 := ⟨_, and_mask _ 5 (by omega) 31 (by decide), by omega, by omega⟩
  have HV := Lib.hid hv
  obtain ⟨a, cap, rfl, -, -, -, -⟩ := id hv
  have HD := Lib.hid hd
  have HS := Lib.hid hs
  unfold i64I at hn
  clear hv hd hs
  go_enter Try.func16, Try.ntmps16
  go_wp2_with (at_builtin; go_loud (refine wpList_appS _ rfl _ _ 24 24 rfl (w.heap.size + 2) 3 (.int .i64 0) 1 8 Try.underlying24 Try.infoInt rfl (by decide) _ _ _ _ _ _ (World.ownsRow_nil _ _ _ _) rfl rfl ((HV.out.grown ((grown_alloc _ _).trans' (grown_alloc _ _))).src Try.underlying24) (by unfold maxLen; omega) (by omega) (by simp) ?_))
  intro u w3 hu g3 _
  obtain ⟨gu, cu, rfl, hgu, R3, hcu1, hcu2⟩ := row_of_own hu hl
  have hz3 : w.heap.size + 2 ≤ w3.heap.size := by simpa using g3.size
  have g3' := g3
  have c3 := ((Blk.new w _ _).keep (grown_alloc _ _)).keep g3'
  have r3 := (Blk.newAt (w.alloc _) (w.heap.size + 1) _ _ (by simp)).keep g3'
  have G3 := ((grown_alloc _ _).trans' (grown_alloc _ _)).trans' g3'
  have hgu2 := R3.lt
  clear g3 g3'
  have hwf := HV.out.wfs
  have HW := Lib.hid hwf
  clear hwf
  obtain ⟨c10, c11, c12, c13, c14, c15⟩ := c3.at5
  obtain ⟨r10, r11, r12, r13, r14, r15⟩ := r3.at5
  rcases below8 m0 m1 with rfl | rfl | rfl | rfl | hmm
  · go_wp2
    refine bodyPost_ret (v := .agg #[.int .i64 (m15 - 2), .int .i64 (s), .int .u64 z, .slice (some ⟨gu, 0, none⟩) l.length cu, .bool b]) ?_ rfl ⟨_, _, _, l, rfl, ?_, by unfold i64I; omega, HS.out, ?_⟩
    · simp [results, Try.results16, go_sem, r10, r11, r12, r13, r14]
    · repeat (with_reducible refine Ints.set ?_ _ (by omega))
      exact R3.ints hcu1 hcu2 HW.out
    · repeat (with_reducible refine grown_set ?_ _ (by omega))
      exact G3
  · go_wp2
    refine bodyPost_ret (v := .agg #[.int .i64 (d), .int .i64 (m127), .int .u64 z, .slice (some ⟨gu, 0, none⟩) l.length cu, .bool b]) ?_ rfl ⟨_, _, _, l, rfl, ?_, HD.out, by unfold i64I; omega, ?_⟩
    · simp [results, Try.results16, go_sem, r10, r11, r12, r13, r14]
    · repeat (with_reducible refine Ints.set ?_ _ (by omega))
      exact R3.ints hcu1 hcu2 HW.out
    · repeat (with_reducible refine grown_set ?_ _ (by omega))
      exact G3
  · have hsrc : Src Try.prog 1 24 (.slice (some ⟨w3.heap.size, 0, none⟩) 1 1) 1 [.int .i64 0] ((w3.setCell ⟨w.heap.size, 3, none⟩ (.slice (some ⟨gu, 0, none⟩) l.length cu)).alloc (.cells #[.int .i64 0] 3)) := by
      have := own_src (own_lit1 (w3.setCell ⟨w.heap.size, 3, none⟩ (.slice (some ⟨gu, 0, none⟩) l.length cu)) 3 (.int .i64 0)) (by simp [Value.oneCell']) Try.underlying24
      simpa using this
    have hown2 : ((w3.setCell ⟨w.heap.size, 3, none⟩ (.slice (some ⟨gu, 0, none⟩) l.length cu)).alloc (.cells #[.int .i64 0] 3)).ownsRow (w.heap.size + 2) 3 1 (.slice (some ⟨gu, 0, none⟩) l.length cu) l.length (l.map (.int .i64)) := (ownsRow_setCell_below hu (show w.heap.size < _ by omega) _).alloc _
    go_wp2_with (at_builtin; go_loud (refine wpList_appS _ rfl _ _ 24 24 rfl (w.heap.size + 2) 3 (.int .i64 0) 1 8 Try.underlying24 Try.infoInt rfl (by decide) _ _ _ 1 _ [.int .i64 0] hown2 rfl rfl hsrc (by unfold maxLen; omega) (by omega) (by simp; omega) ?_))
    intro u4 w4 hu4 g4 _
    have hl4 : (l ++ [0]).length = l.length + 1 := by simp
    obtain ⟨g4u, c4u, rfl, hgu4, R4, hcu3, hcu4⟩ := row_of_own (l := l ++ [0]) (by rw [hl4]; simpa using hu4) (by omega)
    rw [hl4] at hcu3 ⊢
    have g4' := g4
    simp only [Value.ownBlock] at g4'
    have hz4 : w3.heap.size + 1 ≤ w4.heap.size := by simpa using g4.size
    have hwf4 := fun n (hn : n ∈ l ++ [0]) => show (Lit.int .i64 n).wf = true from by
      rcases List.mem_append.1 hn with h | h
      · exact HW.out n h
      · rw [List.mem_singleton.1 h]; rfl
    have G4 : w.grownBy w4 none := grown_rdr (R := gu) ((grown_set G3 (o := 3) (.slice (some ⟨gu, 0, none⟩) l.length cu) (Nat.le_refl _)).trans' (grown_alloc _ _)) g4' (by omega)
    have c5 := ((c3.set 3 (.slice (some ⟨gu, 0, none⟩) l.length cu)).keep (grown_alloc _ _)).rdr g4' (by omega)
    have r5 := ((r3.set_ne 3 (.slice (some ⟨gu, 0, none⟩) l.length cu) (b' := w.heap.size) (by omega)).keep (grown_alloc _ _)).rdr g4' (by omega)
    clear c10 c11 c12 c13 c14 c15 r10 r11 r12 r13 r14 r15
    replace c5 : Blk w.heap.size #[.int .i64 d, .int .i64 s, .int .u64 z, .slice (some ⟨gu, 0, none⟩) l.length cu, .bool b] 26 w4 := c5
    obtain ⟨c10, c11, c12, c13, c14, c15⟩ := c5.at5
    obtain ⟨r10, r11, r12, r13, r14, r15⟩ := r5.at5
    have RI4 : Ints .i64 w4 (.slice (some ⟨g4u, 0, none⟩) (l.length + 1) c4u) (l ++ [0]) := by
      have := R4.ints (cap := c4u) (by omega) hcu4 hwf4
      rwa [hl4] at this
    go_wp2
    refine bodyPost_ret (v := .agg #[.int .i64 d, .int .i64 s, .int .u64 z, .slice (some ⟨g4u, 0, none⟩) (l.length + 1) c4u, .bool b]) ?_ rfl ⟨_, _, _, l ++ [0], rfl, ?_, HD.out, HS.out, ?_⟩
    · simp [results, Try.results16, go_sem, r10, r11, r12, r13, r14]
    · repeat (with_reducible refine Ints.set ?_ _ (by omega))
      exact RI4
    · repeat (with_reducible refine grown_set ?_ _ (by omega))
      exact G4
  · obtain ⟨m3, h3, p6, p7⟩ : ∃ m, bits BinOp.and IntKind.i64 (n / 8 / 32) 3 = m ∧ 0 ≤ m ∧ m ≤ 3 := ⟨_, and_mask _ 2 (by omega) 3 (by decide), by omega, by omega⟩
    obtain ⟨J, hJ⟩ : ∃ J : Nat, m31 % l.length = J := ⟨(m31 % l.length).toNat, by have : 0 ≤ m31 % (l.length : Int) := Int.emod_nonneg _ (by omega); omega⟩
    have hJ2 : J < l.length := by have : m31 % (l.length : Int) < l.length := Int.emod_lt_of_pos _ (by omega); omega
    have hJ3 : m31.tmod l.length = J := by rw [Int.tmod_eq_emod_of_nonneg (by omega)]; exact hJ
    have hlz : ((l.length : Int) == 0) = false := by rw [beq_eq_false_iff_ne]; omega
    have hc0 := (R3.set_ne 3 (.slice (some ⟨gu, 0, none⟩) l.length cu) (b' := w.heap.size) (by omega)).cell hJ2
    have hf0 := (R3.set_ne 3 (.slice (some ⟨gu, 0, none⟩) l.length cu) (b' := w.heap.size) (by omega)).froz J
    have hc := fun o : Obj => ((R3.set_ne 3 (.slice (some ⟨gu, 0, none⟩) l.length cu) (b' := w.heap.size) (by omega)).keep (grown_alloc _ o)).cell hJ2
    have hf := fun o : Obj => ((R3.set_ne 3 (.slice (some ⟨gu, 0, none⟩) l.length cu) (b' := w.heap.size) (by omega)).keep (grown_alloc _ o)).froz J
    have hx0 := (c3.set 3 (.slice (some ⟨gu, 0, none⟩) l.length cu)).cell 3 rfl
    have hx := fun o : Obj => ((c3.set 3 (.slice (some ⟨gu, 0, none⟩) l.length cu)).keep (grown_alloc _ o)).cell 3 rfl
    have hne : l ≠ [] := by rintro rfl; simp at hl
    have h256 : n / 256 = n / 8 / 32 := by omega
    clear hJ
    obtain ⟨q, rfl⟩ : ∃ q : Nat, m3 = q := ⟨m3.toNat, by omega⟩
    have hq : q < 4 := by omega
    go_wp2_with fail
    have hq4 : q = 0 ∨ q = 1 ∨ q = 2 ∨ q = 3 := by omega
    rcases hq4 with rfl | rfl | rfl | rfl
    all_goals
      go_region
      clear hc0 hf0 hc hf hx0 hx c10 c11 c12 c13 c14 c15 r10 r11 r12 r13 r14 r15 h3
      refine wAbs (P := fun w' => Blk w.heap.size #[.int .i64 d, .int .i64 s, .int .u64 z, .slice (some ⟨gu, 0, none⟩) l.length cu, .bool b] 26 w' ∧ Blk (w.heap.size + 1) #[.int .i64 0, .int .i64 0, .int .u64 0, .slice none 0 0, .bool false] 26 w' ∧ (∃ y, Row .i64 3 gu (l.set J y) w' ∧ (Lit.int .i64 y).wf = true) ∧ w.grownBy w' none) ⟨?_, ?_, ?_, ?_⟩ ?_
      · exact ((c3.set 3 (.slice (some ⟨gu, 0, none⟩) l.length cu)).set_ne J _ (by omega)).keep ((grown_alloc _ _).trans' (grown_drew1 _))
      · exact ((r3.set_ne 3 _ (by omega)).set_ne J _ (by omega)).keep ((grown_alloc _ _).trans' (grown_drew1 _))
      · exact ⟨_, ((R3.set_ne 3 _ (by omega)).set J _).keep ((grown_alloc _ _).trans' (grown_drew1 _)), rfl⟩
      · exact (grown_set (grown_set G3 _ (by omega)) _ (by omega)).trans' ((grown_alloc _ _).trans' (grown_drew1 _))
      · rintro w5 ⟨c5, r5, ⟨y, R5, hy⟩, G5⟩
        obtain ⟨c10, c11, c12, c13, c14, c15⟩ := c5.at5
        obtain ⟨r10, r11, r12, r13, r14, r15⟩ := r5.at5
        have RI : Ints .i64 w5 (.slice (some ⟨gu, 0, none⟩) l.length cu) (l.set J y) := by
          have := R5.ints (cap := cu) (by simpa using hcu1) hcu2 (fun n hn => by
            rcases List.mem_or_eq_of_mem_set hn with h | h
            · exact HW.out n h
            · rw [h]; exact hy)
          simpa using this
        go_wp2
        refine bodyPost_ret (v := .agg #[.int .i64 d, .int .i64 s, .int .u64 z, .slice (some ⟨gu, 0, none⟩) l.length cu, .bool b]) ?_ rfl ⟨_, _, _, l.set J y, rfl, ?_, HD.out, HS.out, ?_⟩
        · simp [results, Try.results16, go_sem, r10, r11, r12, r13, r14]
        · repeat (with_reducible refine Ints.set ?_ _ (by omega))
          exact RI
        · repeat (with_reducible refine grown_set ?_ _ (by omega))
          exact G5
  · have t0 : (m == 0) = false := by rw [beq_eq_false_iff_ne]; omega
    have t1 : (m == 1) = false := by rw [beq_eq_false_iff_ne]; omega
    have t2 : (m == 2) = false := by rw [beq_eq_false_iff_ne]; omega
    have t3 : (m == 3) = false := by rw [beq_eq_false_iff_ne]; omega
    go_wp2
    refine bodyPost_ret (v := .agg #[.int .i64 (d), .int .i64 (s), .int .u64 z, .slice (some ⟨gu, 0, none⟩) l.length cu, .bool b]) ?_ rfl ⟨_, _, _, l, rfl, ?_, HD.out, HS.out, ?_⟩
    · simp [results, Try.results16, go_sem, r10, r11, r12, r13, r14]
    · repeat (with_reducible refine Ints.set ?_ _ (by omega))
      exact R3.ints hcu1 hcu2 HW.out
    · repeat (with_reducible refine grown_set ?_ _ (by omega))
      exact G3
end Go.Proofs.Ytigpbfmnbdbpcaa
