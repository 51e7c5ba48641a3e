/- The walk of CountminInserts. Conditions: Go's ints. -/
import Derived.Test.YtigpbfmnbdbpcaaCmL
namespace Go.Proofs.Ytigpbfmnbdbpcaa
open Go.RowKit Go.ChangeShapes Go.WideShapes
set_option linter.unusedVariables false
set_option linter.unusedSimpArgs false
theorem mdL_len (a b c : Int) (L : List (ByteArray × Int)) : 1 ≤ (mdL a b c L).length ∧ (mdL a b c L).length ≤ 600 := by
  unfold mdL
  rw [length_canL]
  have := mul_in (md_siz a b)
  unfold mdN
  omega
theorem Blk.ev5 {b : Nat} {p q x y z : Value} {t : TypeId} {w : World} (h : Blk b #[p, q, x, y, z] t w) :
    (∀ w', w.grownBy w' none → w'.cell? ⟨b, 0, none⟩ = some p) ∧ (∀ w', w.grownBy w' none → w'.cell? ⟨b, 1, none⟩ = some q) ∧ (∀ w', w.grownBy w' none → w'.cell? ⟨b, 2, none⟩ = some x) ∧ (∀ w', w.grownBy w' none → w'.cell? ⟨b, 3, none⟩ = some y) ∧ (∀ w', w.grownBy w' none → w'.cell? ⟨b, 4, none⟩ = some z) :=
  ⟨fun _ g => (h.keep g).at5.1, fun _ g => (h.keep g).at5.2.1, fun _ g => (h.keep g).at5.2.2.1, fun _ g => (h.keep g).at5.2.2.2.1, fun _ g => (h.keep g).at5.2.2.2.2.1⟩
theorem Blk.ev2 {b : Nat} {p q : Value} {t : TypeId} {w : World} (h : Blk b #[p, q] t w) :
    (∀ w', w.grownBy w' none → w'.cell? ⟨b, 0, none⟩ = some p) ∧ (∀ w', w.grownBy w' none → w'.cell? ⟨b, 1, none⟩ = some q) :=
  ⟨fun _ g => (h.keep g).at2.1, fun _ g => (h.keep g).at2.2.1⟩
set_option maxRecDepth 100000 in
set_option maxHeartbeats 3200000 in
theorem CountminInserts_walk (a0 a1 a2 : Int) (v3 : Value) (l3 : List Int) (a4 : Int) (w : World) (h0 : (Lit.int .i64 a0).wf = true) (h1 : (Lit.int .i64 a1).wf = true) (h2 : (Lit.int .i64 a2).wf = true) (h3 : Ints .i64 w v3 l3) (hb3 : l3.length * 8 ≤ 140737488351232) (h4 : (Lit.int .i64 a4).wf = true) :
    Calls Try.prog 4 #[.int .i64 a0, .int .i64 a1, .int .i64 a2, v3, .int .i64 a4] w fun e w' => e = .returned (.bool true) ∧ Below w.heap.size w w' := by
  have b0 := bounds_i64 h0
  have b1 := bounds_i64 h1
  have b2 := bounds_i64 h2
  have b4 := bounds_i64 h4
  have KN := Lib.hid (fun w => knowncm_any w)
  have C1 := madecm_any a0 a1 a2 v3 l3 w (by unfold i64I; omega) (by unfold i64I; omega) (by unfold i64I; omega) h3
  obtain ⟨m, em, lm, um⟩ : ∃ m, bits BinOp.and IntKind.i64 (a4 / 256) 65535 = m ∧ 0 ≤ m ∧ m ≤ 65535 := ⟨_, and_mask _ 16 (by omega) 65535 (by decide), by omega, by omega⟩
  have hlen := mdL_len a0 a1 a2 ((l3.map itmOf).take 7)
  have hDD := mdD_in a0
  have hSS := mdS_in a1
  generalize mdL a0 a1 a2 ((l3.map itmOf).take 7) = L1 at *
  generalize mdB a0 a1 a2 ((l3.map itmOf).take 7) = B1 at *
  generalize mdD a0 = D1 at *
  generalize mdS a1 = S1 at *
  generalize i2u a2 = Z1 at *
  have D1c := Lib.hid C1
  have D2c := Lib.hid (fun v w (h : Ints .i64 w v L1) => spoilcm_any D1 S1 Z1 v L1 B1 a4 w h (by unfold i64I; omega) (by unfold i64I; omega) (by unfold i64I; omega) (by omega) (by omega))
  have D3c := Lib.hid (fun w => itm_any m w (by unfold i64I; omega))
  have hK := itmK_size m
  have hW := itmW_in m
  generalize itmK m = key at *
  generalize itmW m = wt at *
  obtain ⟨a, cap, rfl, -, -, -, -⟩ := id h3
  clear C1 h0 h1 h2 h4 h3 hlen hDD hSS
  go_enter Try.func4, Try.ntmps4
  go_wp2_with fail
  refine D1c.out.mono ?_
  rintro e w1 ⟨v1, rfl, I1, g1⟩
  obtain ⟨x1, y1, rfl, -, -, -, -⟩ := id I1
  go_wp2_with fail
  refine (D2c.out _ _ I1).mono ?_
  rintro e w2 ⟨D, S, v2, L, rfl, I2, iD, iS, g2⟩
  obtain ⟨x2, y2, rfl, -, -, -, -⟩ := id I2
  go_wp2_with fail
  refine (D3c.out _).mono ?_
  rintro e w3 ⟨rfl, g3⟩
  have I3 := I2.grown g3
  have G3 := (g1.trans' g2).trans' g3
  go_wp2_with fail
  all_goals
    refine (cminsert_any D S Z1 _ L B1 key _ _ (I3.grown ((grown_alloc _ _).trans' (grown_alloc _ _))) (by omega) (by omega)).mono ?_
    rintro e w4 ⟨v4, rfl, I4, f4, g4⟩
    have c4 := ((Blk.new w3 _ _).keep (grown_alloc _ _)).keep g4
    have x4 := (Blk.newAt (w3.alloc _) (w3.heap.size + 1) _ _ (by simp)).keep g4
    have hz4 : w3.heap.size + 2 ≤ w4.heap.size := by simpa using g4.size
    have I3' := I3.grown (((grown_alloc w3 _).trans' (grown_alloc _ _)).trans' g4)
    have G4 := G3.trans' (((grown_alloc w3 _).trans' (grown_alloc _ _)).trans' g4)
    obtain ⟨x5, y5, rfl, -, -, -, -⟩ := id I4
    obtain ⟨c40, c41, c42, c43, c44⟩ := c4.ev5
    obtain ⟨x40, x41⟩ := x4.ev2
    have ga : ∀ (w : World) (o : Obj), w.grownBy (w.alloc o) none := grown_alloc
    clear c4 x4
    go_wp2_with fail
    have c4 := ((Blk.new w3 _ _).keep (grown_alloc _ _)).keep g4
    refine (cminsertr_any D S Z1 _ L B1 key _ _ (I3'.grown (grown_alloc _ _)) (by omega) (by omega)).mono ?_
    rintro e w6 ⟨v6, rfl, I6, f6, g6⟩
    obtain ⟨x6, y6, rfl, -, -, -, -⟩ := id I6
    have c6 := c4.keep ((grown_alloc w4 _).trans' g6)
    have p6 := (Blk.new w4 _ _).keep g6
    have G6 := G4.trans' ((grown_alloc w4 _).trans' g6)
    have J3 := I3'.grown ((grown_alloc w4 _).trans' g6)
    have J4 := I4.grown ((grown_alloc w4 _).trans' g6)
    clear c40 c41 c42 c43 c44 x40 x41 c4
    go_wp2_with fail
    refine wAbs (P := fun w' => w6.grownBy w' none ∧ Blk w6.heap.size _ _ w') ⟨grown_alloc _ _, Blk.new _ _ _⟩ ?_
    rintro w7 ⟨g7, q7⟩
    have c7 := c6.keep g7
    have p7 := p6.keep g7
    have K3 := J3.grown g7
    have K4 := J4.grown g7
    have K6 := I6.grown g7
    have G7 := G6.trans' g7
    clear c6 p6 J3 J4 I6 I3' I4 f4 f6 ga I3 I2 I1
    obtain ⟨c70, c71, c72, c73, c74⟩ := c7.ev5
    obtain ⟨p70, p71, p72, p73, p74⟩ := p7.ev5
    obtain ⟨q70, q71, q72, q73, q74⟩ := q7.ev5
    refine wp_region_sq [0, 1, 2, 3, 4, 5, 6, 7, 8, 9, 11, 10, 12, 13, 14, 15, 16, 17, 18] [true, true, true, true, true, true, false, true, true, true, true, false, false, true, true, true, false, true, true] (fun w' => w7.grownBy w' none) (by kernel_rfl) (by kernel_rfl) (by kernel_rfl) (by kernel_rfl) (grown_drew1 _) ?_
    simp only [pick, List.map_cons, List.map_nil, List.getD_cons_zero, List.getD_cons_succ]
    repeat (first
      | ((refine sq_skip (by rfl) ?_); (try simp only [Act.put, List.setIfInBounds_toArray, List.set_cons_zero, List.set_cons_succ]))
      | ((refine sq_take ?_ (by rfl) ?_ ?_); rotate_left; (focus (intro w' hS; go_simp; first | done | with_reducible rfl)); (try simp only [Act.put, List.setIfInBounds_toArray, List.set_cons_zero, List.set_cons_succ])))
    refine sq_run (by rfl) ?_
    intro K hK
    go_simp
    refine (samecm_eq _ _ _ _ _ _ _ _ (K4.grown (grown_drew1 _)) (K6.grown (grown_drew1 _))).mono ?_
    rintro e w8 ⟨rfl, g8⟩
    refine hK _ _ _ (fun _ h => h) ((grown_drew1 _).trans' g8) ?_
    clear hK K
    try simp only [Act.put, List.setIfInBounds_toArray, List.set_cons_zero, List.set_cons_succ]
    repeat (first
      | ((refine sq_skip (by rfl) ?_); (try simp only [Act.put, List.setIfInBounds_toArray, List.set_cons_zero, List.set_cons_succ]))
      | ((refine sq_take ?_ (by rfl) ?_ ?_); rotate_left; (focus (intro w' hS; go_simp; first | done | with_reducible rfl)); (try simp only [Act.put, List.setIfInBounds_toArray, List.set_cons_zero, List.set_cons_succ])))
    have G8 := (grown_drew1 w7).trans' g8
    refine sq_run (by rfl) ?_
    intro K hK
    go_simp
    refine (cmvalid_any D S Z1 _ L B1 _ (K3.grown G8)).mono ?_
    rintro e w9 ⟨rfl, g9⟩
    refine hK _ _ _ (fun _ h => h) (G8.trans' g9) ?_
    clear hK K
    try simp only [Act.put, List.setIfInBounds_toArray, List.set_cons_zero, List.set_cons_succ]
    repeat (first
      | ((refine sq_skip (by rfl) ?_); (try simp only [Act.put, List.setIfInBounds_toArray, List.set_cons_zero, List.set_cons_succ]))
      | ((refine sq_take ?_ (by rfl) ?_ ?_); rotate_left; (focus (intro w' hS; go_simp; first | done | with_reducible rfl)); (try simp only [Act.put, List.setIfInBounds_toArray, List.set_cons_zero, List.set_cons_succ])))
    have G9 := G8.trans' g9
    refine sq_run (by rfl) ?_
    intro K hK
    go_simp
    refine (cmvalidr_any D S Z1 _ L B1 _ (K3.grown G9)).mono ?_
    rintro e w10 ⟨rfl, g10⟩
    refine hK _ _ _ (fun _ h => h) (G9.trans' g10) ?_
    clear hK K
    try simp only [Act.put, List.setIfInBounds_toArray, List.set_cons_zero, List.set_cons_succ]
    repeat (first
      | ((refine sq_skip (by rfl) ?_); (try simp only [Act.put, List.setIfInBounds_toArray, List.set_cons_zero, List.set_cons_succ]))
      | ((refine sq_take ?_ (by rfl) ?_ ?_); rotate_left; (focus (intro w' hS; go_simp; first | done | with_reducible rfl)); (try simp only [Act.put, List.setIfInBounds_toArray, List.set_cons_zero, List.set_cons_succ])))
    have G10 := G9.trans' g10
    refine sq_run (by rfl) ?_
    intro K hK
    go_simp
    refine (KN.out _).mono ?_
    rintro e w11 ⟨rfl, g11⟩
    refine hK _ _ _ (fun _ h => h) (G10.trans' g11) ?_
    clear hK K
    try simp only [Act.put, List.setIfInBounds_toArray, List.set_cons_zero, List.set_cons_succ]
    repeat (first
      | ((refine sq_skip (by rfl) ?_); (try simp only [Act.put, List.setIfInBounds_toArray, List.set_cons_zero, List.set_cons_succ]))
      | ((refine sq_take ?_ (by rfl) ?_ ?_); rotate_left; (focus (intro w' hS; go_simp; first | done | with_reducible rfl)); (try simp only [Act.put, List.setIfInBounds_toArray, List.set_cons_zero, List.set_cons_succ])))
    refine sq_end ?_
    go_wp2
    go_ret
    exact ⟨rfl, below_of_grown (G7.trans' (G10.trans' g11))⟩
end Go.Proofs.Ytigpbfmnbdbpcaa
