/- The walk of spoil. Conditions: Go's ints, at least one register. -/
import Derived.Test.YthohjekfffebkaaLlF
namespace Go.Proofs.Ythohjekfffebkaa
open Go.RowKit Go.ChangeShapes Go.WideShapes
set_option linter.unusedVariables false
set_option linter.unusedSimpArgs false
def AnyLl (w w' : World) (e : Ending) (z : Int) : Prop := ∃ p u l, e = .returned (.agg #[.int .i64 p, .int .u64 z, u]) ∧ Ints .i64 w' u l ∧ i64I p ∧ w.grownBy w' none
set_option maxRecDepth 100000 in
set_option maxHeartbeats 3200000 in
theorem spoilll_any (p z : Int) (v : Value) (l : List Int) (n : Int) (w : World) (hv : Ints .i64 w v l) (hp : 2 ≤ p ∧ p ≤ 8) (hn : i64I n) (hl : 1 ≤ l.length) (hl2 : l.length ≤ 600) :
    Calls Try.prog 16 #[.agg #[.int .i64 p, .int .u64 z, v], .int .i64 n] w fun e w' => AnyLl w w' e z := by
  obtain ⟨m, hm, m0, m1⟩ : ∃ m, bits BinOp.and IntKind.i64 n 7 = m ∧ 0 ≤ m ∧ m ≤ 7 := ⟨_, and_mask _ 3 (by omega) 7 (by decide), by omega, by omega⟩
  obtain ⟨m15, h15, p0, p1⟩ : ∃ m, bits BinOp.and IntKind.i64 (n / 8) 15 = m ∧ 0 ≤ m ∧ m ≤ 15 := ⟨_, and_mask _ 4 (by omega) 15 (by decide), by omega, by omega⟩
  obtain ⟨m31, h31, p4, p5⟩ : ∃ m, bits BinOp.and IntKind.i64 (n / 8) 31 = m ∧ 0 ≤ m ∧ m ≤ 31 := ⟨_, and_mask _ 5 (by omega) 31 (by decide), by omega, by omega⟩
  have HV := Lib.hid hv
  obtain ⟨a, cap, rfl, -, -, -, -⟩ := id hv
  have HP := Lib.hid (show i64I p from by unfold i64I; omega)
  unfold i64I at hn
  clear hv
  go_enter Try.func16, Try.ntmps16
  go_wp2_with (at_builtin; go_loud (refine wpList_appS _ rfl _ _ 24 24 rfl (w.heap.size + 2) 3 (.int .i64 0) 1 8 Try.underlying24 Try.infoInt rfl (by decide) _ _ _ _ _ _ (World.ownsRow_nil _ _ _ _) rfl rfl ((HV.out.grown ((grown_alloc _ _).trans' (grown_alloc _ _))).src Try.underlying24) (by unfold maxLen; omega) (by omega) (by simp) ?_))
  intro u w3 hu g3 _
  obtain ⟨gu, cu, rfl, hgu, R3, hcu1, hcu2⟩ := row_of_own hu hl
  have hz3 : w.heap.size + 2 ≤ w3.heap.size := by simpa using g3.size
  have g3' := g3
  have c3 := ((Blk.new w _ _).keep (grown_alloc _ _)).keep g3'
  have r3 := (Blk.newAt (w.alloc _) (w.heap.size + 1) _ _ (by simp)).keep g3'
  have G3 := ((grown_alloc _ _).trans' (grown_alloc _ _)).trans' g3'
  have hgu2 := R3.lt
  clear g3 g3'
  have hwf := HV.out.wfs
  have HW := Lib.hid hwf
  clear hwf
  obtain ⟨c10, c11, c12, c15⟩ := c3.at3
  obtain ⟨r10, r11, r12, r15⟩ := r3.at3
  rcases below8 m0 m1 with rfl | rfl | rfl | rfl | hmm
  · go_wp2
    refine bodyPost_ret (v := .agg #[.int .i64 (m15), .int .u64 z, .slice (some ⟨gu, 0, none⟩) l.length cu]) ?_ rfl ⟨_, _, l, rfl, ?_, by unfold i64I; omega, ?_⟩
    · simp [results, Try.results16, go_sem, r10, r11, r12]
    · repeat (with_reducible refine Ints.set ?_ _ (by omega))
      exact R3.ints hcu1 hcu2 HW.out
    · repeat (with_reducible refine grown_set ?_ _ (by omega))
      exact G3
  · have hsrc : Src Try.prog 1 24 (.slice (some ⟨w3.heap.size, 0, none⟩) 1 1) 1 [.int .i64 0] ((w3.setCell ⟨w.heap.size, 2, none⟩ (.slice (some ⟨gu, 0, none⟩) l.length cu)).alloc (.cells #[.int .i64 0] 3)) := by
      have := own_src (own_lit1 (w3.setCell ⟨w.heap.size, 2, none⟩ (.slice (some ⟨gu, 0, none⟩) l.length cu)) 3 (.int .i64 0)) (by simp [Value.oneCell']) Try.underlying24
      simpa using this
    have hown2 : ((w3.setCell ⟨w.heap.size, 2, none⟩ (.slice (some ⟨gu, 0, none⟩) l.length cu)).alloc (.cells #[.int .i64 0] 3)).ownsRow (w.heap.size + 2) 3 1 (.slice (some ⟨gu, 0, none⟩) l.length cu) l.length (l.map (.int .i64)) := (ownsRow_setCell_below hu (show w.heap.size < _ by omega) _).alloc _
    go_wp2_with (at_builtin; go_loud (refine wpList_appS _ rfl _ _ 24 24 rfl (w.heap.size + 2) 3 (.int .i64 0) 1 8 Try.underlying24 Try.infoInt rfl (by decide) _ _ _ 1 _ [.int .i64 0] hown2 rfl rfl hsrc (by unfold maxLen; omega) (by omega) (by simp; omega) ?_))
    intro u4 w4 hu4 g4 _
    have hl4 : (l ++ [0]).length = l.length + 1 := by simp
    obtain ⟨g4u, c4u, rfl, hgu4, R4, hcu3, hcu4⟩ := row_of_own (l := l ++ [0]) (by rw [hl4]; simpa using hu4) (by omega)
    rw [hl4] at hcu3 ⊢
    have g4' := g4
    simp only [Value.ownBlock] at g4'
    have hz4 : w3.heap.size + 1 ≤ w4.heap.size := by simpa using g4.size
    have hwf4 := fun n (hn : n ∈ l ++ [0]) => show (Lit.int .i64 n).wf = true from by
      rcases List.mem_append.1 hn with h | h
      · exact HW.out n h
      · rw [List.mem_singleton.1 h]; rfl
    have G4 : w.grownBy w4 none := grown_rdr (R := gu) ((grown_set G3 (o := 2) (.slice (some ⟨gu, 0, none⟩) l.length cu) (Nat.le_refl _)).trans' (grown_alloc _ _)) g4' (by omega)
    have c5 := ((c3.set 2 (.slice (some ⟨gu, 0, none⟩) l.length cu)).keep (grown_alloc _ _)).rdr g4' (by omega)
    have r5 := ((r3.set_ne 2 (.slice (some ⟨gu, 0, none⟩) l.length cu) (b' := w.heap.size) (by omega)).keep (grown_alloc _ _)).rdr g4' (by omega)
    clear c10 c11 c12 c15 r10 r11 r12 r15
    replace c5 : Blk w.heap.size #[.int .i64 p, .int .u64 z, .slice (some ⟨gu, 0, none⟩) l.length cu] 26 w4 := c5
    obtain ⟨c10, c11, c12, c15⟩ := c5.at3
    obtain ⟨r10, r11, r12, r15⟩ := r5.at3
    have RI4 : Ints .i64 w4 (.slice (some ⟨g4u, 0, none⟩) (l.length + 1) c4u) (l ++ [0]) := by
      have := R4.ints (cap := c4u) (by omega) hcu4 hwf4
      rwa [hl4] at this
    go_wp2
    refine bodyPost_ret (v := .agg #[.int .i64 (p), .int .u64 z, .slice (some ⟨g4u, 0, none⟩) (l.length + 1) c4u]) ?_ rfl ⟨_, _, l ++ [0], rfl, ?_, HP.out, ?_⟩
    · simp [results, Try.results16, go_sem, r10, r11, r12]
    · repeat (with_reducible refine Ints.set ?_ _ (by omega))
      exact RI4
    · repeat (with_reducible refine grown_set ?_ _ (by omega))
      exact G4
  · obtain ⟨m127, h127, p6, p7⟩ : ∃ m, bits BinOp.and IntKind.i64 (n / 8 / 32) 127 = m ∧ 0 ≤ m ∧ m ≤ 127 := ⟨_, and_mask _ 7 (by omega) 127 (by decide), by omega, by omega⟩
    obtain ⟨J, hJ⟩ : ∃ J : Nat, m31 % l.length = J := ⟨(m31 % l.length).toNat, by have : 0 ≤ m31 % (l.length : Int) := Int.emod_nonneg _ (by omega); omega⟩
    have hJ2 : J < l.length := by have : m31 % (l.length : Int) < l.length := Int.emod_lt_of_pos _ (by omega); omega
    have hJ3 : m31.tmod l.length = J := by rw [Int.tmod_eq_emod_of_nonneg (by omega)]; exact hJ
    have hc0 := (R3.set_ne 2 (.slice (some ⟨gu, 0, none⟩) l.length cu) (b' := w.heap.size) (by omega)).cell hJ2
    have hf0 := (R3.set_ne 2 (.slice (some ⟨gu, 0, none⟩) l.length cu) (b' := w.heap.size) (by omega)).froz J
    have hx0 := (c3.set 2 (.slice (some ⟨gu, 0, none⟩) l.length cu)).cell 2 rfl
    have hne : l ≠ [] := by rintro rfl; simp at hl
    clear hJ
    go_wp2_with fail
    go_region
    clear hc0 hf0 hx0 c10 c11 c12 c15 r10 r11 r12 r15
    refine wAbs (P := fun w' => Blk w.heap.size #[.int .i64 p, .int .u64 z, .slice (some ⟨gu, 0, none⟩) l.length cu] 26 w' ∧ Blk (w.heap.size + 1) #[.int .i64 0, .int .u64 0, .slice none 0 0] 26 w' ∧ Row .i64 3 gu (l.set J (m127 - 2)) w' ∧ w.grownBy w' none) ⟨?_, ?_, ?_, ?_⟩ ?_
    · exact ((c3.set 2 (.slice (some ⟨gu, 0, none⟩) l.length cu)).set_ne J _ (by omega)).keep (grown_drew1 _)
    · exact ((r3.set_ne 2 _ (by omega)).set_ne J _ (by omega)).keep (grown_drew1 _)
    · exact ((R3.set_ne 2 _ (by omega)).set J _).keep (grown_drew1 _)
    · exact (grown_set (grown_set G3 _ (by omega)) _ (by omega)).trans' (grown_drew1 _)
    rintro w5 ⟨c5, r5, R5, G5⟩
    obtain ⟨c10, c11, c12, c15⟩ := c5.at3
    obtain ⟨r10, r11, r12, r15⟩ := r5.at3
    have RI : Ints .i64 w5 (.slice (some ⟨gu, 0, none⟩) l.length cu) (l.set J (m127 - 2)) := by
      have := R5.ints (cap := cu) (by simpa using hcu1) hcu2 (fun n hn => by
        rcases List.mem_or_eq_of_mem_set hn with h | h
        · exact HW.out n h
        · rw [h]; simp [Lit.wf, IntKind.min, IntKind.max, IntKind.signed, IntKind.bits]; omega)
      simpa using this
    go_wp2
    refine bodyPost_ret (v := .agg #[.int .i64 (p), .int .u64 z, .slice (some ⟨gu, 0, none⟩) l.length cu]) ?_ rfl ⟨_, _, l.set J (m127 - 2), rfl, ?_, HP.out, ?_⟩
    · simp [results, Try.results16, go_sem, r10, r11, r12]
    · repeat (with_reducible refine Ints.set ?_ _ (by omega))
      exact RI
    · repeat (with_reducible refine grown_set ?_ _ (by omega))
      exact G5
  · go_wp2_with fail
    refine wAbs (P := fun w' => Row .i64 3 gu l w' ∧ Blk w.heap.size #[.int .i64 p, .int .u64 z, .slice (some ⟨gu, 0, none⟩) l.length cu] 26 w' ∧ Two w.heap.size gu w3 w') ⟨R3.set_ne _ _ (by omega), c3.set 2 _, (Two.refl _ _ _).setp _ _⟩ ?_
    rintro w4 ⟨R4, c4, T4⟩
    clear c10 c11 c12 c15 r10 r11 r12 r15
    go_loopw [6] (fun i wr => ∃ (k : Nat) (m : List Int), k ≤ l.length ∧ i = .int .i64 k ∧ m.length = l.length ∧ (∀ x ∈ m, (Lit.int .i64 x).wf = true) ∧ Row .i64 3 gu m wr ∧ Blk w.heap.size #[.int .i64 p, .int .u64 z, .slice (some ⟨gu, 0, none⟩) l.length cu] 26 wr ∧ Two w.heap.size gu w3 wr) (fun i _ => l.length - (intOf i).toNat)
    case atStart => exact ⟨0, l, by omega, rfl, rfl, HW.out, R4, c4, T4⟩
    case round =>
      obtain ⟨k, m, hk, rfl, hml, hmw, R5, c5, T5⟩ := hrel
      have HM := Lib.hid hml
      have HMW := Lib.hid hmw
      obtain ⟨c10, c11, c12, c15⟩ := c5.at3
      by_cases hlt : k < l.length
      · have y1 := R5.cell (i := k) (by omega)
        have y2 := R5.froz k
        have e1 : (k : Int) < l.length := by omega
        have e2 : (0 : Int) ≤ k := by omega
        have hmin : Hid (∀ x, x = min (40 + m31) (65 - p) → (Lit.int .i64 x).wf = true) := fun x hx => by simp [Lit.wf, IntKind.min, IntKind.max, IntKind.signed, IntKind.bits]; omega
        clear hml hmw
        generalize gI m k = y at *
        go_wp2
        all_goals
          go_roundw
          case rel =>
            refine ⟨k + 1, m.set k _, by omega, by go_num, by simpa using HM.out, ?_, R5.set k _, c5.set_ne _ _ (by omega), T5.setq _ _⟩
            intro x hx
            rcases List.mem_or_eq_of_mem_set hx with h | h
            · exact HMW.out x h
            · refine hmin.out x ?_
              rw [h]
              try first | rfl | (split <;> omega) | omega
          case measure => simp [intOf]; omega
      · obtain rfl : k = l.length := by omega
        have G5 := T5.up G3 (by omega) (by omega)
        have r5 := r3.two T5 (by omega) (by omega)
        obtain ⟨r10, r11, r12, r15⟩ := r5.at3
        have hrl := r5.lt
        have RI : Ints .i64 wr (.slice (some ⟨gu, 0, none⟩) l.length cu) m := by
          have := R5.ints (cap := cu) (by omega) hcu2 hmw
          rwa [hml] at this
        clear hml hmw
        go_wp2
        refine bodyPost_ret (v := .agg #[.int .i64 (p), .int .u64 z, .slice (some ⟨gu, 0, none⟩) l.length cu]) ?_ rfl ⟨_, _, m, rfl, ?_, HP.out, ?_⟩
        · simp [results, Try.results16, go_sem, r10, r11, r12]
        · repeat (with_reducible refine Ints.set ?_ _ (by omega))
          exact RI
        · repeat (with_reducible refine grown_set ?_ _ (by omega))
          exact G5
  · have t0 : (m == 0) = false := by rw [beq_eq_false_iff_ne]; omega
    have t1 : (m == 1) = false := by rw [beq_eq_false_iff_ne]; omega
    have t2 : (m == 2) = false := by rw [beq_eq_false_iff_ne]; omega
    have t3 : (m == 3) = false := by rw [beq_eq_false_iff_ne]; omega
    go_wp2
    refine bodyPost_ret (v := .agg #[.int .i64 (p), .int .u64 z, .slice (some ⟨gu, 0, none⟩) l.length cu]) ?_ rfl ⟨_, _, l, rfl, ?_, HP.out, ?_⟩
    · simp [results, Try.results16, go_sem, r10, r11, r12]
    · repeat (with_reducible refine Ints.set ?_ _ (by omega))
      exact R3.ints hcu1 hcu2 HW.out
    · repeat (with_reducible refine grown_set ?_ _ (by omega))
      exact G3
end Go.Proofs.Ythohjekfffebkaa
