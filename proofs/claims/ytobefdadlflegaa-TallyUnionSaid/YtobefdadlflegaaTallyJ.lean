/- The walk of TallyUnion. -/
import Derived.Test.YtobefdadlflegaaTallyF
import Derived.Test.YtobefdadlflegaaTallyLaw2
namespace Go.Proofs.Ytobefdadlflegaa
open Go.RowKit Go.ChangeShapes Go.WideShapes
set_option linter.unusedVariables false
set_option linter.unusedSimpArgs false
/-- Three tallies in three blocks. -/
def Three (A B C : Nat) (w : World) (t n : Int) (s : Bool) (a b : Int) (u : Bool) (c d : Int) (v : Bool) : Prop :=
  (A < w.heap.size ∧ B < w.heap.size ∧ C < w.heap.size) ∧ (w.cell? ⟨A, 0, none⟩ = some (.int .i64 t) ∧ w.cell? ⟨A, 1, none⟩ = some (.int .i64 n) ∧ w.cell? ⟨A, 2, none⟩ = some (.bool s))
  ∧ (w.cell? ⟨B, 0, none⟩ = some (.int .i64 a) ∧ w.cell? ⟨B, 1, none⟩ = some (.int .i64 b) ∧ w.cell? ⟨B, 2, none⟩ = some (.bool u))
  ∧ (w.cell? ⟨C, 0, none⟩ = some (.int .i64 c) ∧ w.cell? ⟨C, 1, none⟩ = some (.int .i64 d) ∧ w.cell? ⟨C, 2, none⟩ = some (.bool v))
  ∧ ∀ o, w.frozen? ⟨A, o, none⟩ = false ∧ w.frozen? ⟨B, o, none⟩ = false ∧ w.frozen? ⟨C, o, none⟩ = false
theorem Three.keep {A B C : Nat} {w w' : World} {t n : Int} {s : Bool} {a b : Int} {u : Bool} {c d : Int} {v : Bool} (h : Three A B C w t n s a b u c d v) (g : w.grownBy w' none) : Three A B C w' t n s a b u c d v := by
  obtain ⟨⟨h1, h2, h3⟩, ⟨a1, a2, a3⟩, ⟨b1, b2, b3⟩, ⟨c1, c2, c3⟩, f⟩ := h
  have hz := g.size
  exact ⟨⟨by omega, by omega, by omega⟩, ⟨kcell g a1 (by omega), kcell g a2 (by omega), kcell g a3 (by omega)⟩, ⟨kcell g b1 (by omega), kcell g b2 (by omega), kcell g b3 (by omega)⟩,
    ⟨kcell g c1 (by omega), kcell g c2 (by omega), kcell g c3 (by omega)⟩, fun o => ⟨kfroz g (f o).1 (by omega), kfroz g (f o).2.1 (by omega), kfroz g (f o).2.2 (by omega)⟩⟩
theorem Three.storedA {A B C : Nat} {w : World} {t n : Int} {s : Bool} {a b : Int} {u : Bool} {c d : Int} {v : Bool} (h : Three A B C w t n s a b u c d v) (t' n' : Int) (s' : Bool) (e1 : A ≠ B) (e2 : A ≠ C) (e3 : B ≠ C) :
    Three A B C ((((((w.setCell ⟨A, 0, none⟩ (.int .i64 t')).setCell ⟨A, 1, none⟩ (.int .i64 n')).setCell ⟨A, 2, none⟩ (.bool s')).setCell ⟨C, 0, none⟩ (.int .i64 t')).setCell ⟨C, 1, none⟩ (.int .i64 n')).setCell ⟨C, 2, none⟩ (.bool s')) t' n' s' a b u t' n' s' := by
  obtain ⟨h1, ⟨a1, a2, a3⟩, ⟨b1, b2, b3⟩, ⟨c1, c2, c3⟩, f⟩ := h
  have e1' := e1.symm
  have e2' := e2.symm
  have e3' := e3.symm
  refine ⟨by simpa using h1, ⟨?_, ?_, ?_⟩, ⟨?_, ?_, ?_⟩, ⟨?_, ?_, ?_⟩, fun o => ⟨?_, ?_, ?_⟩⟩
  all_goals (simp [go_sem, a1, a2, a3, b1, b2, b3, c1, c2, c3, f, e1, e2, e3, e1', e2', e3']; done)
theorem Three.storedB {A B C : Nat} {w : World} {t n : Int} {s : Bool} {a b : Int} {u : Bool} {c d : Int} {v : Bool} (h : Three A B C w t n s a b u c d v) (a' b' : Int) (u' : Bool) (c' d' : Int) (v' : Bool) (e1 : A ≠ B) (e2 : A ≠ C) (e3 : B ≠ C) :
    Three A B C ((((((w.setCell ⟨B, 0, none⟩ (.int .i64 a')).setCell ⟨B, 1, none⟩ (.int .i64 b')).setCell ⟨B, 2, none⟩ (.bool u')).setCell ⟨C, 0, none⟩ (.int .i64 c')).setCell ⟨C, 1, none⟩ (.int .i64 d')).setCell ⟨C, 2, none⟩ (.bool v')) t n s a' b' u' c' d' v' := by
  obtain ⟨h1, ⟨a1, a2, a3⟩, ⟨b1, b2, b3⟩, ⟨c1, c2, c3⟩, f⟩ := h
  have e1' := e1.symm
  have e2' := e2.symm
  have e3' := e3.symm
  refine ⟨by simpa using h1, ⟨?_, ?_, ?_⟩, ⟨?_, ?_, ?_⟩, ⟨?_, ?_, ?_⟩, fun o => ⟨?_, ?_, ?_⟩⟩
  all_goals (simp [go_sem, a1, a2, a3, b1, b2, b3, c1, c2, c3, f, e1, e2, e3, e1', e2', e3']; done)
theorem zero_add3 {t n : Int} {s : Bool} (h : 0 ≤ t ∧ t ≤ 4294967295 ∧ 0 ≤ n ∧ n ≤ t) : (addS t 0 4294967295, addS n 0 4294967295, (s || false || addB t 0 4294967295 || addB n 0 4294967295), (0 : Int)) = (t, n, s, 0) := by
  have h1 : addS t 0 4294967295 = t := by unfold addS; (repeat' split) <;> omega
  have h2 : addS n 0 4294967295 = n := by unfold addS; (repeat' split) <;> omega
  have h3 : addB t 0 4294967295 = false := by simp only [addB, decide_eq_false_iff_not]; omega
  have h4 : addB n 0 4294967295 = false := by simp only [addB, decide_eq_false_iff_not]; omega
  rw [h1, h2, h3, h4]; simp
theorem far3 {w : World} {a b i : Nat} {v x y z : Value} (h : w.cell? ⟨a, i, none⟩ = some v) (hne : b ≠ a) : (((w.setCell ⟨b, 0, none⟩ x).setCell ⟨b, 1, none⟩ y).setCell ⟨b, 2, none⟩ z).drew.cell? ⟨a, i, none⟩ = some v := by
  show (((w.setCell ⟨b, 0, none⟩ x).setCell ⟨b, 1, none⟩ y).setCell ⟨b, 2, none⟩ z).cell? ⟨a, i, none⟩ = some v
  rw [World.cell?_setCell_far _ _ _ _ hne, World.cell?_setCell_far _ _ _ _ hne, World.cell?_setCell_far _ _ _ _ hne, h]
set_option maxRecDepth 100000 in
set_option maxHeartbeats 32000000 in
theorem TallyUnion_walk (v0 : Value) (l0 : List Int) (v1 : Value) (l1 : List Int) (w : World) (h0 : Ints .i64 w v0 l0) (_ : l0.length * Try.prog.bytesOf 3 ≤ 140737488351232) (h1 : Ints .i64 w v1 l1) (_ : l1.length * Try.prog.bytesOf 3 ≤ 140737488351232) :
    Calls Try.prog 5 #[v0, v1] w fun e w' => e = .returned (.bool true) ∧ Below w.heap.size w w' := by
  obtain ⟨p0, c0, rfl, p2, p3, pw, p4⟩ := h0
  obtain ⟨q0, d0, rfl, q2, q3, qw, q4⟩ := h1
  have c1 := fun w : World => newt_any w
  have C1 := Lib.hid c1
  clear c1
  go_enter Try.func5, Try.ntmps5
  go_wp2_with fail
  refine (C1.out _).mono ?_
  rintro e w1 ⟨rfl, g1⟩
  go_wp2_with fail
  refine (C1.out _).mono ?_
  rintro e w2 ⟨rfl, g2⟩
  go_wp2_with fail
  refine (C1.out _).mono ?_
  rintro e w3 ⟨rfl, g3⟩
  have hz1 := g1.size
  have hz2 := g2.size
  have hz3 := g3.size
  have G3 := (g1.trans' g2).trans' g3
  clear g1 g2 g3 hz1 hz2
  have hzw : w.heap.size ≤ w3.heap.size := G3.size
  go_wp2
  go_loopw [8, 9] (fun ok i wr => ∃ (k : Nat) (t n : Int) (s : Bool), k ≤ l0.length ∧ k ≤ 6 ∧ i = .int .i64 k ∧ ok = .bool true ∧ valE t n = 0 ∧ Three w3.heap.size (w3.heap.size + 1) (w3.heap.size + 1 + 1) wr t n s 0 0 false t n s ∧ w.grownBy wr none) (fun _ i _ => 6 - (intOf i).toNat)
  case atStart =>
    refine ⟨0, 0, 0, false, by omega, by omega, rfl, rfl, by decide, ⟨⟨by simp; omega, by simp, by simp⟩, ⟨?_, ?_, ?_⟩, ⟨?_, ?_, ?_⟩, ⟨?_, ?_, ?_⟩, fun o => ⟨?_, ?_, ?_⟩⟩, G3.trans' (((grown_alloc _ _).trans' (grown_alloc _ _)).trans' (grown_alloc _ _))⟩
    all_goals (simp [go_sem]; done)
  case round =>
    obtain ⟨k, t, n, s, hk, hk6, rfl, rfl, hv, hT, hg⟩ := hrel
    have d1 : w3.heap.size ≠ w3.heap.size + 1 := by omega
    have d2 : w3.heap.size ≠ w3.heap.size + 1 + 1 := by omega
    have d3 : w3.heap.size + 1 ≠ w3.heap.size + 1 + 1 := by omega
    have d4 : w.heap.size ≤ w3.heap.size + 1 + 1 := by omega
    have d8 : w.heap.size ≤ w3.heap.size + 1 := by omega
    generalize w3.heap.size + 1 + 1 = C at *
    generalize w3.heap.size + 1 = B at *
    generalize w3.heap.size = A at *
    by_cases hkl : k < l0.length ∧ k < 6
    · obtain ⟨hk1, hk2⟩ := hkl
      rcases p4 with p4 | ⟨b, off, rfl, hb, hc⟩
      · rw [p4] at hk1; simp at hk1
      have hc0 : wr.cell? ⟨b, off + k, none⟩ = some (.int .i64 (gI l0 k)) := (World.cell?_of_block (w := w) (hg.block b hb (by simp))).trans (hc k hk1)
      have b2 : ∃ m, bits BinOp.and IntKind.i64 (gI l0 k) 65535 = m ∧ 0 ≤ m ∧ m ≤ 65535 := ⟨_, and_mask _ 16 (by omega) 65535 (by decide), by omega, by omega⟩
      obtain ⟨m2, e2, l2, u2⟩ := b2
      clear hc
      go_wp2_with fail
      refine (item_any m2 _ (by unfold i64B; omega)).mono ?_
      rintro e w5 ⟨key, c, rfl, kk1, kk2, cc1, cc2, g5⟩
      have hi := insR_mrg (t := t) (n := n) s hv kk1 kk2 cc1 cc2
      have hcv : valE c 1 = 0 := by rw [valE_ok]; omega
      have hok := mrgR_ok s false hv hcv
      have hv' := valE_sum hv hcv
      have e3 := valE_ok.1 hv
      have c3 := fun w : World => insert_any t n s key c w (by unfold i64B; omega) (by unfold i64B; omega) (by unfold i64B; omega) (by unfold maxLen; omega)
      rw [hi, hok] at c3
      generalize addS t c 4294967295 = t' at *
      generalize addS n 1 4294967295 = n' at *
      generalize (s || false || addB t c 4294967295 || addB n 1 4294967295) = s' at *
      simp only [tvr] at c3
      have C3 := Lib.hid c3
      clear c3 hi hok
      have hz5 := g5.size
      have T5 := hT.keep g5
      have T6 := fun o : Obj => T5.keep (grown_alloc w5 o)
      obtain ⟨⟨k1, k2, k3⟩, _⟩ := T5
      have x0 : ∀ o : Obj, (w5.alloc o).cell? ⟨A, 0, none⟩ = some (.int .i64 t) := fun o => (T6 o).2.1.1
      have x1 : ∀ o : Obj, (w5.alloc o).cell? ⟨A, 1, none⟩ = some (.int .i64 n) := fun o => (T6 o).2.1.2.1
      have x2 : ∀ o : Obj, (w5.alloc o).cell? ⟨A, 2, none⟩ = some (.bool s) := fun o => (T6 o).2.1.2.2
      go_wp2_with fail
      refine (C3.out _).mono ?_
      rintro e w6 ⟨rfl, g6⟩
      have hz6 : w5.heap.size + 1 ≤ w6.heap.size := by simpa using g6.size
      have T7 := (T6 _).keep g6
      have T8 := fun o : Obj => T7.keep (grown_alloc w6 o)
      have x3 : ∀ o : Obj, (w6.alloc o).cell? ⟨C, 0, none⟩ = some (.int .i64 t) := fun o => (T8 o).2.2.2.1.1
      have x4 : ∀ o : Obj, (w6.alloc o).cell? ⟨C, 1, none⟩ = some (.int .i64 n) := fun o => (T8 o).2.2.2.1.2.1
      have x5 : ∀ o : Obj, (w6.alloc o).cell? ⟨C, 2, none⟩ = some (.bool s) := fun o => (T8 o).2.2.2.1.2.2
      have x6 : ∀ o : Obj, (w6.alloc o).cell? ⟨w5.heap.size, 0, none⟩ = some (.string key) := fun o => kcell (grown_alloc _ _) (kcell g6 (by simp [go_sem]) (by simp)) (by omega)
      have x7 : ∀ o : Obj, (w6.alloc o).cell? ⟨w5.heap.size, 1, none⟩ = some (.int .i64 c) := fun o => kcell (grown_alloc _ _) (kcell g6 (by simp [go_sem]) (by simp)) (by omega)
      go_wp2_with fail
      refine (C3.out _).mono ?_
      rintro e w7 ⟨rfl, g7⟩
      have hz7 : w6.heap.size + 1 ≤ w7.heap.size := by simpa using g7.size
      have T9 := (T8 _).keep g7
      have T10 := T9.keep (grown_alloc w7 (.cells #[.int .i64 t', .int .i64 n', .bool s'] 23))
      have G10 := (((hg.trans' g5).trans' ((grown_alloc _ _).trans' g6)).trans' (((grown_alloc _ _).trans' g7).trans' (grown_alloc w7 (.cells #[.int .i64 t', .int .i64 n', .bool s'] 23))))
      obtain ⟨t1, ⟨ta, tb, tc⟩, _, ⟨td, te, tf⟩, tz⟩ := id T10
      have z0 := fun o => (tz o).1
      have z2 := fun o => (tz o).2.2
      have y0 : (w7.alloc (.cells #[.int .i64 t', .int .i64 n', .bool s'] 23)).cell? ⟨w6.heap.size, 0, none⟩ = some (.int .i64 t') := kcell (grown_alloc _ _) (kcell g7 (by simp [go_sem]) (by simp)) (by omega)
      have y1 : (w7.alloc (.cells #[.int .i64 t', .int .i64 n', .bool s'] 23)).cell? ⟨w6.heap.size, 1, none⟩ = some (.int .i64 n') := kcell (grown_alloc _ _) (kcell g7 (by simp [go_sem]) (by simp)) (by omega)
      have y2 : (w7.alloc (.cells #[.int .i64 t', .int .i64 n', .bool s'] 23)).cell? ⟨w6.heap.size, 2, none⟩ = some (.bool s') := kcell (grown_alloc _ _) (kcell g7 (by simp [go_sem]) (by simp)) (by omega)
      have y3 : (w7.alloc (.cells #[.int .i64 t', .int .i64 n', .bool s'] 23)).cell? ⟨w7.heap.size, 0, none⟩ = some (.int .i64 t') := by simp [go_sem]
      have y4 : (w7.alloc (.cells #[.int .i64 t', .int .i64 n', .bool s'] 23)).cell? ⟨w7.heap.size, 1, none⟩ = some (.int .i64 n') := by simp [go_sem]
      have y5 : (w7.alloc (.cells #[.int .i64 t', .int .i64 n', .bool s'] 23)).cell? ⟨w7.heap.size, 2, none⟩ = some (.bool s') := by simp [go_sem]
      go_wp2_with fail
      obtain ⟨m1, m2', m3⟩ := T9.1
      obtain ⟨m4, m5, m6⟩ := T7.1
      have n1 : A ≠ w6.heap.size := by omega
      have n2 : C ≠ w6.heap.size := by omega
      have n3 : A ≠ w7.heap.size := by omega
      have n4 : C ≠ w7.heap.size := by omega
      have n5 := n1.symm
      have n6 := n2.symm
      have n7 := n3.symm
      have n8 := n4.symm
      have d5 := d1.symm
      have d6 := d2.symm
      have d7 := d3.symm
      clear hz5 hz6 hz7 C3 k1 k2 k3 e2 m1 m2' m3 m4 m5 m6 x0 x1 x2 x3 x4 x5 x6 x7 T9 T7 T6 T8 tz g5 g6 g7 t1
      generalize (w7.alloc (.cells #[.int .i64 t', .int .i64 n', .bool s'] 23)) = w8 at *
      generalize w7.heap.size = D7 at *
      generalize w6.heap.size = D6 at *
      go_region_held3 (fun w' => w'.cell? ⟨D6, 0, none⟩ = some (.int .i64 t') ∧ w'.cell? ⟨D6, 1, none⟩ = some (.int .i64 n') ∧ w'.cell? ⟨D6, 2, none⟩ = some (.bool s') ∧ w'.cell? ⟨D7, 0, none⟩ = some (.int .i64 t') ∧ w'.cell? ⟨D7, 1, none⟩ = some (.int .i64 n') ∧ w'.cell? ⟨D7, 2, none⟩ = some (.bool s'))
        (first | (with_reducible exact ⟨y0, y1, y2, y3, y4, y5⟩) | (simp only [World.cell?_drew, World.cell?_setCell_far, y0, y1, y2, y3, y4, y5, ne_eq, n1, n2, n3, n4, not_false_eq_true, and_self, and_true]; done)) (fail)
      go_wp2
      go_roundw
      case rel =>
        exact ⟨k + 1, t', n', s', by omega, by omega, by go_num, rfl, hv', (T10.storedA t' n' s' d1 d2 d3).keep (grown_drew1 _), (grown_set (grown_set (grown_set (grown_set (grown_set (grown_set G10 _ hzw) _ hzw) _ hzw) _ d4) _ d4) _ d4).trans' (grown_drew1 _)⟩
      case measure => simp [intOf]; omega
    · go_wp2_with fail
      all_goals
        go_loopw [8, 15] (fun ok i wr => ∃ (k : Nat) (a b : Int) (u : Bool) (c d : Int) (v : Bool), k ≤ l1.length ∧ k ≤ 6 ∧ i = .int .i64 k ∧ ok = .bool true ∧ valE a b = 0 ∧ mrgR t n s a b u = (c, d, v, 0) ∧ Three A B C wr t n s a b u c d v ∧ w.grownBy wr none) (fun _ i _ => 6 - (intOf i).toNat)
        case atStart => exact ⟨0, 0, 0, false, t, n, s, by omega, by omega, rfl, rfl, by decide, by rw [mrgR_ok s false hv (by decide)]; exact zero_add3 (valE_ok.1 hv), hT, hg⟩
        case round =>
          clear hT hg hk hk6 hkl
          obtain ⟨k, a, b, u, c, d, v, hk, hk6, rfl, rfl, hab, hm, hT, hg⟩ := hrel
          have HM := Lib.hid hm
          clear hm
          by_cases hkl : k < l1.length ∧ k < 6
          · obtain ⟨hk1, hk2⟩ := hkl
            rcases q4 with q4 | ⟨bb, off, rfl, hb, hc⟩
            · rw [q4] at hk1; simp at hk1
            have hc0 : wr.cell? ⟨bb, off + k, none⟩ = some (.int .i64 (gI l1 k)) := (World.cell?_of_block (w := w) (hg.block bb hb (by simp))).trans (hc k hk1)
            have b2 : ∃ m, bits BinOp.and IntKind.i64 (gI l1 k) 65535 = m ∧ 0 ≤ m ∧ m ≤ 65535 := ⟨_, and_mask _ 16 (by omega) 65535 (by decide), by omega, by omega⟩
            obtain ⟨m2, e2, l2, u2⟩ := b2
            clear hc
            go_wp2_with fail
            refine (item_any m2 _ (by unfold i64B; omega)).mono ?_
            rintro e w5 ⟨key, q, rfl, kk1, kk2, cc1, cc2, g5⟩
            obtain ⟨hcd, a', b', u', c', d', v', i1, i2, hab', hm'⟩ := union_step hv hab HM.out kk1 kk2 cc1 cc2
            have e3 := valE_ok.1 hab
            have e4 := valE_ok.1 hcd
            have c3 := fun w : World => insert_any a b u key q w (by unfold i64B; omega) (by unfold i64B; omega) (by unfold i64B; omega) (by unfold maxLen; omega)
            have c4 := fun w : World => insert_any c d v key q w (by unfold i64B; omega) (by unfold i64B; omega) (by unfold i64B; omega) (by unfold maxLen; omega)
            rw [i1] at c3
            rw [i2] at c4
            simp only [tvr] at c3 c4
            have C3 := Lib.hid c3
            have C4 := Lib.hid c4
            have HM' := Lib.hid hm'
            have HA' := Lib.hid hab'
            clear c3 c4 i1 i2 hm' hab' hcd e3 e4
            have hz5 := g5.size
            have T5 := hT.keep g5
            have T6 := fun o : Obj => T5.keep (grown_alloc w5 o)
            obtain ⟨⟨k1, k2, k3⟩, _⟩ := id T5
            have x0 : ∀ o : Obj, (w5.alloc o).cell? ⟨B, 0, none⟩ = some (.int .i64 a) := fun o => (T6 o).2.2.1.1
            have x1 : ∀ o : Obj, (w5.alloc o).cell? ⟨B, 1, none⟩ = some (.int .i64 b) := fun o => (T6 o).2.2.1.2.1
            have x2 : ∀ o : Obj, (w5.alloc o).cell? ⟨B, 2, none⟩ = some (.bool u) := fun o => (T6 o).2.2.1.2.2
            go_wp2_with fail
            refine (C3.out _).mono ?_
            rintro e w6 ⟨rfl, g6⟩
            have hz6 : w5.heap.size + 1 ≤ w6.heap.size := by simpa using g6.size
            have T7 := (T6 _).keep g6
            have T8 := fun o : Obj => T7.keep (grown_alloc w6 o)
            have x3 : ∀ o : Obj, (w6.alloc o).cell? ⟨C, 0, none⟩ = some (.int .i64 c) := fun o => (T8 o).2.2.2.1.1
            have x4 : ∀ o : Obj, (w6.alloc o).cell? ⟨C, 1, none⟩ = some (.int .i64 d) := fun o => (T8 o).2.2.2.1.2.1
            have x5 : ∀ o : Obj, (w6.alloc o).cell? ⟨C, 2, none⟩ = some (.bool v) := fun o => (T8 o).2.2.2.1.2.2
            have x6 : ∀ o : Obj, (w6.alloc o).cell? ⟨w5.heap.size, 0, none⟩ = some (.string key) := fun o => kcell (grown_alloc _ _) (kcell g6 (by simp [go_sem]) (by simp)) (by omega)
            have x7 : ∀ o : Obj, (w6.alloc o).cell? ⟨w5.heap.size, 1, none⟩ = some (.int .i64 q) := fun o => kcell (grown_alloc _ _) (kcell g6 (by simp [go_sem]) (by simp)) (by omega)
            go_wp2_with fail
            refine (C4.out _).mono ?_
            rintro e w7 ⟨rfl, g7⟩
            have hz7 : w6.heap.size + 1 ≤ w7.heap.size := by simpa using g7.size
            have T9 := (T8 _).keep g7
            have T10 := T9.keep (grown_alloc w7 (.cells #[.int .i64 c', .int .i64 d', .bool v'] 23))
            have G10 := (((hg.trans' g5).trans' ((grown_alloc _ _).trans' g6)).trans' (((grown_alloc _ _).trans' g7).trans' (grown_alloc w7 (.cells #[.int .i64 c', .int .i64 d', .bool v'] 23))))
            obtain ⟨t1, _, ⟨ta, tb, tc⟩, ⟨td, te, tf⟩, tz⟩ := id T10
            have z0 := fun o => (tz o).2.1
            have z2 := fun o => (tz o).2.2
            have y0 : (w7.alloc (.cells #[.int .i64 c', .int .i64 d', .bool v'] 23)).cell? ⟨w6.heap.size, 0, none⟩ = some (.int .i64 a') := kcell (grown_alloc _ _) (kcell g7 (by simp [go_sem]) (by simp)) (by omega)
            have y1 : (w7.alloc (.cells #[.int .i64 c', .int .i64 d', .bool v'] 23)).cell? ⟨w6.heap.size, 1, none⟩ = some (.int .i64 b') := kcell (grown_alloc _ _) (kcell g7 (by simp [go_sem]) (by simp)) (by omega)
            have y2 : (w7.alloc (.cells #[.int .i64 c', .int .i64 d', .bool v'] 23)).cell? ⟨w6.heap.size, 2, none⟩ = some (.bool u') := kcell (grown_alloc _ _) (kcell g7 (by simp [go_sem]) (by simp)) (by omega)
            have y3 : (w7.alloc (.cells #[.int .i64 c', .int .i64 d', .bool v'] 23)).cell? ⟨w7.heap.size, 0, none⟩ = some (.int .i64 c') := by simp [go_sem]
            have y4 : (w7.alloc (.cells #[.int .i64 c', .int .i64 d', .bool v'] 23)).cell? ⟨w7.heap.size, 1, none⟩ = some (.int .i64 d') := by simp [go_sem]
            have y5 : (w7.alloc (.cells #[.int .i64 c', .int .i64 d', .bool v'] 23)).cell? ⟨w7.heap.size, 2, none⟩ = some (.bool v') := by simp [go_sem]
            go_wp2_with fail
            obtain ⟨m1, m2', m3⟩ := T9.1
            obtain ⟨m4, m5, m6⟩ := T7.1
            have n1 : B ≠ w6.heap.size := by omega
            have n2 : C ≠ w6.heap.size := by omega
            have n3 : B ≠ w7.heap.size := by omega
            have n4 : C ≠ w7.heap.size := by omega
            have n5 := n1.symm
            have n6 := n2.symm
            have n7 := n3.symm
            have n8 := n4.symm
            have d5' := d1.symm
            have d6' := d2.symm
            have d7' := d3.symm
            clear hz5 hz6 hz7 C3 C4 k1 k2 k3 e2 m1 m2' m3 m4 m5 m6 x0 x1 x2 x3 x4 x5 x6 x7 T9 T7 T6 T8 tz g5 g6 g7 t1
            generalize (w7.alloc (.cells #[.int .i64 c', .int .i64 d', .bool v'] 23)) = w8 at *
            generalize w7.heap.size = D7 at *
            generalize w6.heap.size = D6 at *
            go_region_held3 (fun w' => w'.cell? ⟨D6, 0, none⟩ = some (.int .i64 a') ∧ w'.cell? ⟨D6, 1, none⟩ = some (.int .i64 b') ∧ w'.cell? ⟨D6, 2, none⟩ = some (.bool u') ∧ w'.cell? ⟨D7, 0, none⟩ = some (.int .i64 c') ∧ w'.cell? ⟨D7, 1, none⟩ = some (.int .i64 d') ∧ w'.cell? ⟨D7, 2, none⟩ = some (.bool v'))
              (first | (with_reducible exact ⟨y0, y1, y2, y3, y4, y5⟩) | (simp only [World.cell?_drew, World.cell?_setCell_far, y0, y1, y2, y3, y4, y5, ne_eq, n1, n2, n3, n4, not_false_eq_true, and_self, and_true]; done)) (fail)
            go_wp2
            go_roundw
            case rel =>
              exact ⟨k + 1, a', b', u', c', d', v', by omega, by omega, by go_num, rfl, HA'.out, HM'.out, (T10.storedB a' b' u' c' d' v' d1 d2 d3).keep (grown_drew1 _), (grown_set (grown_set (grown_set (grown_set (grown_set (grown_set G10 _ d8) _ d8) _ d8) _ d4) _ d4) _ d4).trans' (grown_drew1 _)⟩
            case measure => simp [intOf]; omega
          · have e3 := valE_ok.1 hab
            have e4 := valE_ok.1 hv
            have c3 := fun w : World => merge_any t n s a b u w (by unfold i64B; omega) (by unfold i64B; omega) (by unfold i64B; omega) (by unfold i64B; omega)
            have c4 := fun w : World => merge_any a b u t n s w (by unfold i64B; omega) (by unfold i64B; omega) (by unfold i64B; omega) (by unfold i64B; omega)
            rw [← mrg_comm s u hv hab] at c4
            rw [HM.out] at c3 c4
            simp only [tvr] at c3 c4
            have C3 := Lib.hid c3
            have C4 := Lib.hid c4
            clear c3 c4 e3 e4
            obtain ⟨⟨k1, k2, k3⟩, ⟨ta, tb, tc⟩, ⟨tj, tk, tl⟩, _, _⟩ := id hT
            go_wp2_with fail
            all_goals
              refine (C3.out _).mono ?_
              rintro e w6 ⟨rfl, g6⟩
              have T7 := hT.keep g6
              have T8 := fun o : Obj => T7.keep (grown_alloc w6 o)
              have x0 : ∀ o : Obj, (w6.alloc o).cell? ⟨A, 0, none⟩ = some (.int .i64 t) := fun o => (T8 o).2.1.1
              have x1 : ∀ o : Obj, (w6.alloc o).cell? ⟨A, 1, none⟩ = some (.int .i64 n) := fun o => (T8 o).2.1.2.1
              have x2 : ∀ o : Obj, (w6.alloc o).cell? ⟨A, 2, none⟩ = some (.bool s) := fun o => (T8 o).2.1.2.2
              have x3 : ∀ o : Obj, (w6.alloc o).cell? ⟨B, 0, none⟩ = some (.int .i64 a) := fun o => (T8 o).2.2.1.1
              have x4 : ∀ o : Obj, (w6.alloc o).cell? ⟨B, 1, none⟩ = some (.int .i64 b) := fun o => (T8 o).2.2.1.2.1
              have x5 : ∀ o : Obj, (w6.alloc o).cell? ⟨B, 2, none⟩ = some (.bool u) := fun o => (T8 o).2.2.1.2.2
              go_wp2_with fail
              refine (C4.out _).mono ?_
              rintro e w7 ⟨rfl, g7⟩
              have hz7 : w6.heap.size + 1 ≤ w7.heap.size := by simpa using g7.size
              have T9 := (T8 _).keep g7
              have T10 := fun o : Obj => T9.keep (grown_alloc w7 o)
              have r0 : ∀ o : Obj, (w7.alloc o).cell? ⟨C, 0, none⟩ = some (.int .i64 c) := fun o => (T10 o).2.2.2.1.1
              have r1 : ∀ o : Obj, (w7.alloc o).cell? ⟨C, 1, none⟩ = some (.int .i64 d) := fun o => (T10 o).2.2.2.1.2.1
              have r2 : ∀ o : Obj, (w7.alloc o).cell? ⟨C, 2, none⟩ = some (.bool v) := fun o => (T10 o).2.2.2.1.2.2
              have y0 : ∀ o : Obj, (w7.alloc o).cell? ⟨w6.heap.size, 0, none⟩ = some (.int .i64 c) := fun o => kcell (grown_alloc _ _) (kcell g7 (by simp [go_sem]) (by simp)) (by omega)
              have y1 : ∀ o : Obj, (w7.alloc o).cell? ⟨w6.heap.size, 1, none⟩ = some (.int .i64 d) := fun o => kcell (grown_alloc _ _) (kcell g7 (by simp [go_sem]) (by simp)) (by omega)
              have y2 : ∀ o : Obj, (w7.alloc o).cell? ⟨w6.heap.size, 2, none⟩ = some (.bool v) := fun o => kcell (grown_alloc _ _) (kcell g7 (by simp [go_sem]) (by simp)) (by omega)
              go_wp2_with (go_at_call 14; refine (knownt_any _).mono ?_; rintro e' w99 ⟨rfl, g99⟩)
              go_ret
              exact ⟨rfl, below_of_grown (((hg.trans' g6).trans' ((grown_alloc _ _).trans' g7)).trans' ((grown_alloc _ _).trans' g99))⟩
end Go.Proofs.Ytobefdadlflegaa
