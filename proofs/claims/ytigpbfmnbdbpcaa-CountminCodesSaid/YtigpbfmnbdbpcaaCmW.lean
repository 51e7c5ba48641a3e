/- The walks of the encodings of Count-Min sketches. Conditions: cells are Go's ints. -/
import Derived.Test.YtigpbfmnbdbpcaaCmV
import Derived.Test.YtigpbfmnbdbpcaaCmS
import Derived.Test.YtigpbfmnbdbpcaaWordEnc
import Derived.Test.YtigpbfmnbdbpcaaLib2
namespace Go.Proofs.Ytigpbfmnbdbpcaa
open Go.RowKit Go.ChangeShapes Go.WideShapes
set_option linter.unusedVariables false
set_option linter.unusedSimpArgs false
theorem encL_eq {n : Int} (h0 : 0 ≤ n) (h1 : n ≤ 4611686018427387904) : encL n = encU n := by unfold encL; rw [if_neg (by omega)]
theorem flat_len (l : List Int) : (l.flatMap encU).length ≤ 9 * l.length := by
  induction l with
  | nil => simp
  | cons a l ih => rw [List.flatMap_cons, List.length_append, List.length_cons]; have := length_encU a; omega
theorem flat_snoc {l : List Int} {k : Nat} (h : k < l.length) : (l.take (k + 1)).flatMap encU = (l.take k).flatMap encU ++ encU (gI l k) := by
  rw [take_succ_gI h, List.flatMap_append]; simp
theorem grown_tr {w w1 w2 : World} {r : Option Nat} (h : w.grownBy w1 none) (h' : w1.grownBy w2 r) : w.grownBy w2 r :=
  ⟨h'.os.trans h.os, h'.tape.trans h.tape, h'.output.trans h.output, Nat.le_trans h.size h'.size, fun k hk hne => (h'.block k (Nat.lt_of_lt_of_le hk h.size) hne).trans (h.block k hk (by simp))⟩
/-- The row of the bytes xs, owned. -/
def OwnB (B : Nat) (v : Value) (xs : List Int) (w : World) : Prop := w.ownsRow B 5 1 v xs.length (xs.map (.int .u8))
theorem OwnB.nil (B : Nat) (w : World) : OwnB B (.slice none 0 0) [] w := World.ownsRow_nil _ _ _ _
theorem OwnB.keep {B : Nat} {v : Value} {xs : List Int} {w w' : World} (h : OwnB B v xs w) (g : w.grownBy w' none) : OwnB B v xs w' := own_keep h g
set_option maxRecDepth 100000 in
set_option maxHeartbeats 800000 in
theorem cnum_any (B : Nat) (v : Value) (xs : List Int) (n : Int) (w : World) (hv : OwnB B v xs w) (hB : B ≤ w.heap.size) (hx : xs.length ≤ 100000) (h0 : 0 ≤ n) (h1 : n ≤ 4611686018427387904) :
    Calls Try.prog 51 #[v, .int .i64 n] w fun e w' => ∃ v', e = .returned v' ∧ OwnB B v' (xs ++ encU n) w' ∧ w.grownBy w' v.ownBlock := by
  have c1 := fun w : World => encUint_any n w
  rw [encL_eq h0 h1] at c1
  have C1 := Lib.hid c1
  have hel := length_encU n
  obtain ⟨a, cap, rfl, -, -⟩ := own_shape hv
  clear c1
  go_enter Try.func51, Try.ntmps51
  go_wp2_with fail
  refine (C1.out _).mono ?_
  rintro e w2 ⟨u, rfl, hu, hg2⟩
  have hown2 := own_keep hv hg2
  have hz2 := hg2.size
  go_wp2_with (at_builtin; refine wpList_appS _ rfl _ _ 49 49 rfl B 5 (.int .u8 0) 1 1 Try.underlying49 Try.infoU8 rfl (by decide) _ _ _ _ _ _ hown2 rfl rfl (own_src hu (ints_oneCell _ _) Try.underlying49) (by unfold maxLen; omega) (by omega) (by omega) ?_)
  intro v' w3 hown' hg' _
  have G := grown_tr hg2 hg'
  clear hv hown2 hu hg2 hg'
  go_wp2
  go_ret
  refine ⟨_, rfl, ?_, G⟩
  unfold OwnB
  simpa using hown'
theorem encCm_ok {d s z : Int} {l : List Int} {b : Bool} (h : cmE d s l = 0) : encCm d s z l b = (encU d ++ encU s ++ beB 8 z) ++ l.flatMap encU ++ [if b then 1 else 0] := by
  unfold encCm; rw [if_neg (by simpa using h)]
theorem encCm_no {d s z : Int} {l : List Int} {b : Bool} (h : cmE d s l ≠ 0) : encCm d s z l b = [] := by unfold encCm; rw [if_pos h]
set_option maxRecDepth 100000 in
set_option maxHeartbeats 1600000 in
theorem cmenc_any (d s z : Int) (v : Value) (l : List Int) (b : Bool) (w : World) (hv : Ints .i64 w v l) :
    Calls Try.prog 28 #[.agg #[.int .i64 d, .int .i64 s, .int .u64 z, v, .bool b]] w fun e w' => ∃ u, e = .returned (.tuple #[u, .int .i64 (cmE d s l)]) ∧ OwnB w.heap.size u (encCm d s z l b) w' ∧ w.grownBy w' none := by
  have C1 := Lib.hid (fun w (h : Ints .i64 w v l) => cmvalid_any d s z v l b w h)
  have HV := Lib.hid hv
  obtain ⟨a, cap, rfl, -, -, -, -⟩ := id hv
  by_cases hE : cmE d s l = 0
  · obtain ⟨hs, hl, hg⟩ := cmE_ok hE
    have HF := Lib.hid (encCm_ok (z := z) (b := b) hE)
    rw [hE] at C1 ⊢
    have hm := mul_in hs
    obtain ⟨q1, q2, q3, q4⟩ := hs
    have C3 := Lib.hid (fun w : World => encWord_any z w)
    have HG := Lib.hid hg
    have hB := length_beB 8 z
    have l1 := length_encU d
    have l2 := length_encU s
    obtain ⟨H, hH⟩ : ∃ H, H = encU d ++ encU s ++ beB 8 z := ⟨_, rfl⟩
    have hHl : H.length ≤ 26 := by rw [hH]; simp only [List.length_append]; omega
    rw [← hH] at HF
    have HH := Lib.hid hH
    have HB := Lib.hid hB
    have hl5 : l.length ≤ 512 := by omega
    have hpos : 0 < l.length := by omega
    obtain ⟨bl, off, rfl, hbl, hcl⟩ := hv.at hpos
    have HC := Lib.hid hcl
    clear hE hl hg hcl hH hB hv
    go_enter Try.func28, Try.ntmps28
    go_wp2_with fail
    refine (C1.out _ (HV.out.grown (grown_alloc _ _))).mono ?_
    rintro e w1 ⟨rfl, g1⟩
    have hz1 : w.heap.size + 1 ≤ w1.heap.size := by simpa using g1.size
    have G1 := (grown_alloc _ _).trans' g1
    have c1 := (Blk.new w _ _).keep g1
    clear g1
    obtain ⟨c10, c11, c12, c13, c14⟩ := c1.ev5
    have gr := grown_refl w1
    go_wp2_with fail
    refine wp_region_sq [0, 1, 3, 4, 2, 5, 6] [true, true, true, true, false, false, true] (fun w' => w1.grownBy w' none) (by kernel_rfl) (by kernel_rfl) (by kernel_rfl) (by kernel_rfl) (grown_drew1 _) ?_
    simp only [pick, List.map_cons, List.map_nil, List.getD_cons_zero, List.getD_cons_succ]
    repeat (first
      | ((refine sq_skip (by rfl) ?_); (try simp only [Act.put, List.setIfInBounds_toArray, List.set_cons_zero, List.set_cons_succ]))
      | ((refine sq_take ?_ (by rfl) ?_ ?_); rotate_left; (focus (intro w' hS; go_simp; first | done | with_reducible rfl)); (try simp only [Act.put, List.setIfInBounds_toArray, List.set_cons_zero, List.set_cons_succ])))
    refine sq_run (by rfl) ?_
    intro K hK
    go_simp
    refine (cnum_any w1.heap.size _ [] d w1.drew (OwnB.nil _ _) (by simp) (by simp) (by omega) (by omega)).mono ?_
    rintro e w2 ⟨u2, rfl, hu2, g2⟩
    have g2' : w1.grownBy w2 none := (grown_drew1 _).trans' g2
    refine hK _ _ _ (fun _ h => h) g2' ?_
    clear hK K
    try simp only [Act.put, List.setIfInBounds_toArray, List.set_cons_zero, List.set_cons_succ]
    repeat (first
      | ((refine sq_skip (by rfl) ?_); (try simp only [Act.put, List.setIfInBounds_toArray, List.set_cons_zero, List.set_cons_succ]))
      | ((refine sq_take ?_ (by rfl) ?_ ?_); rotate_left; (focus (intro w' hS; go_simp; first | done | with_reducible rfl)); (try simp only [Act.put, List.setIfInBounds_toArray, List.set_cons_zero, List.set_cons_succ])))
    refine sq_run (by rfl) ?_
    intro K hK
    go_simp
    have hz2 := g2'.size
    refine (cnum_any w1.heap.size _ _ s w2 hu2 hz2 (by simp; omega) (by omega) (by omega)).mono ?_
    rintro e w3 ⟨u3, rfl, hu3, g3⟩
    have g3' : w1.grownBy w3 none := grown_own g2' hu2 g3
    refine hK _ _ _ (fun _ h => h) g3' ?_
    clear hK K
    try simp only [Act.put, List.setIfInBounds_toArray, List.set_cons_zero, List.set_cons_succ]
    repeat (first
      | ((refine sq_skip (by rfl) ?_); (try simp only [Act.put, List.setIfInBounds_toArray, List.set_cons_zero, List.set_cons_succ]))
      | ((refine sq_take ?_ (by rfl) ?_ ?_); rotate_left; (focus (intro w' hS; go_simp; first | done | with_reducible rfl)); (try simp only [Act.put, List.setIfInBounds_toArray, List.set_cons_zero, List.set_cons_succ])))
    refine sq_end ?_
    have c3 := c1.keep g3'
    have hz3 := g3'.size
    have G3 := G1.trans' g3'
    clear c10 c11 c12 c13 c14 gr hu2 g2 g2' g3 c1 hz2
    obtain ⟨c30, c31, c32, c33, c34⟩ := c3.ev5
    have gr := grown_refl w3
    go_wp2_with fail
    refine (C3.out _).mono ?_
    rintro e w4 ⟨u4, rfl, hu4, g4⟩
    have hz4 := g4.size
    have hu3' := hu3.keep g4
    have hx3 : ([] ++ encU d ++ encU s).length ≤ 18 := by simp; omega
    go_wp2_with (at_builtin; refine wpList_appS _ rfl _ _ 49 49 rfl w1.heap.size 5 (.int .u8 0) 1 1 Try.underlying49 Try.infoU8 rfl (by decide) _ _ _ _ _ _ hu3' rfl rfl (own_src hu4 (ints_oneCell _ _) Try.underlying49) (by unfold maxLen; omega) (by omega) (by omega) ?_)
    intro v5 w5 hu5 g5 _
    have hu5' : OwnB w1.heap.size v5 H w5 := by
      unfold OwnB; rw [HH.out]; simpa [HB.out, Nat.add_assoc] using hu5
    have c5 := (c3.keep g4).own g5 (fun e => by have := (hu3'.lt _ e).1; omega)
    have G5 := grown_trans (G3.trans' g4) g5 (fun k hk => by have := (hu3'.lt k hk).1; omega)
    have hz5 := g5.size
    clear c30 c31 c32 c33 c34 gr hu3 hu3' hu4 hu5 g4 g5 c3 G3 g3'
    obtain ⟨c50, c51, c52, c53, c54, c55⟩ := c5.at5
    go_wp2_with fail
    clear c50 c51 c52 c53 c54 c55
    go_loopw [5, 7, 27] (fun b' _ i wr => ∃ k : Nat, k ≤ l.length ∧ i = .int .i64 k ∧ OwnB w1.heap.size b' (H ++ (l.take k).flatMap encU) wr ∧ w.grownBy wr none ∧ w1.heap.size ≤ wr.heap.size ∧ Blk w.heap.size #[.int .i64 d, .int .i64 s, .int .u64 z, .slice (some ⟨bl, off, none⟩) l.length cap, .bool b] 26 wr) (fun _ _ i _ => l.length - (intOf i).toNat)
    case atStart => exact ⟨0, by omega, rfl, by simpa using hu5', G5, by omega, c5⟩
    case round =>
      obtain ⟨k, hk, rfl, ho, G6, hz6, c6⟩ := hrel
      have hfl := flat_len (l.take k)
      rw [List.length_take] at hfl
      have hxl : (H ++ (l.take k).flatMap encU).length ≤ 5000 := by rw [List.length_append]; omega
      obtain ⟨P, hP⟩ : ∃ P, P = H ++ (l.take k).flatMap encU := ⟨_, rfl⟩
      rw [← hP] at ho hxl
      have HP := Lib.hid hP
      clear hP hfl
      by_cases hlt : k < l.length
      · have y := kcell G6 (HC.out k hlt) hbl
        have hx := HG.out _ (gI_mem hlt)
        have HS := Lib.hid (flat_snoc hlt)
        generalize gI l k = x at *
        have C6 := Lib.hid (cnum_any _ _ _ x wr ho hz6 (by omega) (by omega) (by omega))
        obtain ⟨a6, k6, rfl, -, -⟩ := own_shape ho
        have hge : ∀ g, (Value.slice a6 P.length k6).ownBlock = some g → w1.heap.size ≤ g := fun g hg => (ho.lt g hg).1
        have e1 : (k : Int) < l.length := by omega
        have e2 : (0 : Int) ≤ k := by omega
        clear hx ho
        go_wp2_with fail
        refine C6.out.mono ?_
        rintro e w7 ⟨v7, rfl, ho7, g7⟩
        have G7 := grown_trans G6 g7 (fun g hg => by have := hge g hg; omega)
        have c7 := c6.own g7 (fun e => by have := hge _ e; omega)
        have hz7 := g7.size
        clear g7 c6 C6
        go_wp2
        go_roundw
        case rel =>
          refine ⟨k + 1, by omega, by go_num, ?_, G7, by omega, c7⟩
          rw [HS.out, ← List.append_assoc, ← HP.out]
          exact ho7
        case measure => simp [intOf]; omega
      · obtain rfl : k = l.length := by omega
        have HP2 : Hid (P = H ++ l.flatMap encU) := by show _ = _; rw [HP.out, List.take_of_length_le (by omega)]
        clear HP
        obtain ⟨c60, c61, c62, c63, c64, c65⟩ := c6.at5
        have C6 := Lib.hid (cnum_any _ _ _ (if b then 1 else 0) wr ho hz6 (by omega) (by split <;> omega) (by split <;> omega))
        obtain ⟨a6, k6, rfl, -, -⟩ := own_shape ho
        have hge : ∀ g, (Value.slice a6 P.length k6).ownBlock = some g → w1.heap.size ≤ g := fun g hg => (ho.lt g hg).1
        cases b
        all_goals
          simp only [Bool.false_eq_true, if_false, if_true] at C6 HF
          clear ho
          go_wp2_with fail
          refine C6.out.mono ?_
          rintro e w7 ⟨v7, rfl, ho7, g7⟩
          have G7 := grown_trans G6 g7 (fun g hg => by have := hge g hg; omega)
          clear g7 C6
          go_wp2
          go_ret2
          rw [HF.out, ← HP2.out]
          exact ⟨_, rfl, own_lower ho7 (by omega), G7⟩
  · rw [encCm_no hE]
    generalize cmE d s l = E at *
    have hb1 : (E != 0) = true := by rw [bne_iff_ne]; exact hE
    clear hE hv
    go_enter Try.func28, Try.ntmps28
    go_wp2_with fail
    refine (C1.out _ (HV.out.grown (grown_alloc _ _))).mono ?_
    rintro e w1 ⟨rfl, g1⟩
    go_wp2
    go_ret2
    exact ⟨_, rfl, OwnB.nil _ _, (grown_alloc _ _).trans' g1⟩
theorem keep3 {A : Nat} {x y z : Value} {w w' : World} (h : A < w.heap.size ∧ w.cell? ⟨A, 0, none⟩ = some x ∧ w.cell? ⟨A, 1, none⟩ = some y ∧ w.cell? ⟨A, 2, none⟩ = some z) (g : w.grownBy w' none) :
    A < w'.heap.size ∧ w'.cell? ⟨A, 0, none⟩ = some x ∧ w'.cell? ⟨A, 1, none⟩ = some y ∧ w'.cell? ⟨A, 2, none⟩ = some z := by
  obtain ⟨h, k0, k1, k2⟩ := h
  exact ⟨Nat.lt_of_lt_of_le h g.size, kcell g k0 h, kcell g k1 h, kcell g k2 h⟩
theorem keep3r {A B : Nat} {x y z : Value} {w w' : World} {e : TypeId} {size n : Nat} {v : Value} {xs : List Value} (h : A < w.heap.size ∧ w.cell? ⟨A, 0, none⟩ = some x ∧ w.cell? ⟨A, 1, none⟩ = some y ∧ w.cell? ⟨A, 2, none⟩ = some z)
    (g : w.grownBy w' v.ownBlock) (ho : w.ownsRow B e size v n xs) (hB : A < B) :
    A < w'.heap.size ∧ w'.cell? ⟨A, 0, none⟩ = some x ∧ w'.cell? ⟨A, 1, none⟩ = some y ∧ w'.cell? ⟨A, 2, none⟩ = some z := by
  obtain ⟨h, k0, k1, k2⟩ := h
  have hne : ∀ k, v.ownBlock = some k → A ≠ k := fun k hk => by have := (ho.lt k hk).1; omega
  have hb : w'.heap[A]? = w.heap[A]? := g.block A h (by
    cases hv : v.ownBlock with
    | none => simp
    | some k => simp; exact fun e => hne k hv e)
  exact ⟨Nat.lt_of_lt_of_le h g.size, (World.cell?_of_block (w := w) hb).trans k0, (World.cell?_of_block (w := w) hb).trans k1, (World.cell?_of_block (w := w) hb).trans k2⟩
theorem flagr_any (b : Bool) (w : World) : Calls Try.prog 55 #[.bool b] w fun e w' => ∃ v', e = .returned v' ∧
      w'.ownsRow w.heap.size 5 1 v' 1 [.int .u8 (if b then 1 else 0)] ∧ w.grownBy w' none := by
  cases b
  all_goals
    go_enter Try.func55, Try.ntmps55
    go_wp2
    go_ret
    exact ⟨_, rfl, own_lit1 _ _ _, grown_alloc _ _⟩
set_option maxRecDepth 100000 in
set_option maxHeartbeats 1600000 in
theorem cmencr_any (d s z : Int) (v : Value) (l : List Int) (b : Bool) (w : World) (hv : Ints .i64 w v l) :
    Calls Try.prog 29 #[.agg #[.int .i64 d, .int .i64 s, .int .u64 z, v, .bool b]] w fun e w' => ∃ u, e = .returned (.tuple #[u, .int .i64 (cmE d s l)]) ∧ OwnB w.heap.size u (encCm d s z l b) w' ∧ w.grownBy w' none := by
  have C1 := Lib.hid (fun w (h : Ints .i64 w v l) => cmvalidr_any d s z v l b w h)
  have HV := Lib.hid hv
  obtain ⟨a, cap, rfl, -, -, -, -⟩ := id hv
  by_cases hE : cmE d s l = 0
  · obtain ⟨hs, hl, hg⟩ := cmE_ok hE
    have HF := Lib.hid (encCm_ok (z := z) (b := b) hE)
    rw [hE] at C1 ⊢
    have hm := mul_in hs
    obtain ⟨q1, q2, q3, q4⟩ := hs
    have C2 := Lib.hid (fun w : World => uint_any d w (by omega) (by omega))
    have C4 := Lib.hid (fun w : World => uint_any s w (by omega) (by omega))
    have C3 := Lib.hid (fun w : World => word_any z w)
    have C5 := Lib.hid (fun w : World => flagr_any b w)
    have HG := Lib.hid hg
    have hB := length_beB 8 z
    have l1 := length_encU d
    have l2 := length_encU s
    obtain ⟨H, hH⟩ : ∃ H, H = encU d ++ encU s ++ beB 8 z := ⟨_, rfl⟩
    have hHl : H.length ≤ 26 := by rw [hH]; simp only [List.length_append]; omega
    rw [← hH] at HF
    have HH := Lib.hid hH
    have HB := Lib.hid hB
    have hl5 : l.length ≤ 512 := by omega
    have hpos : 0 < l.length := by omega
    obtain ⟨bl, off, rfl, hbl, hcl⟩ := hv.at hpos
    have HC := Lib.hid hcl
    generalize encU d = D at *
    generalize encU s = S at *
    generalize (if b = true then (1 : Int) else 0) = fb at *
    clear hE hl hg hcl hH hB hv
    go_enter Try.func29, Try.ntmps29
    go_wp2_with fail
    refine (C1.out _ (HV.out.grown (grown_alloc _ _))).mono ?_
    rintro e w1 ⟨rfl, g1⟩
    have hz1 : w.heap.size + 1 ≤ w1.heap.size := by simpa using g1.size
    have G1 := (grown_alloc _ _).trans' g1
    have c1 := (Blk.new w _ _).keep g1
    clear g1
    obtain ⟨q0, q1', q2', q3', q4', q5'⟩ := c1.at5
    go_wp2_with fail
    go_region_held3 (fun w' => w.heap.size < w'.heap.size ∧ w'.cell? ⟨w.heap.size, 0, none⟩ = some (.int .i64 d) ∧ w'.cell? ⟨w.heap.size, 1, none⟩ = some (.int .i64 s) ∧ w'.cell? ⟨w.heap.size, 2, none⟩ = some (.int .u64 z))
      (first
        | (with_reducible exact keep3 (by assumption) (by assumption))
        | (with_reducible exact keep3r (by assumption) (by assumption) (own_keep hu2 g3) (by simp; omega))
        | exact ⟨by simp; omega, q0, q1', q2'⟩)
      (first
        | (go_at_call 53; ((with_reducible refine (C2.out _).mono ?_); rintro e w2 ⟨v2, rfl, hu2, g2⟩))
        | (go_at_call 53; ((with_reducible refine (C4.out _).mono ?_); rintro e w3 ⟨v3, rfl, hu3, g3⟩))
        | ((refine step_appS _ (by rfl) _ _ 49 49 (by rfl) _ 5 (.int .u8 0) 1 1 Try.underlying49 Try.infoU8 rfl (by decide) _ _ _ _ _ _ (own_keep hu2 g3) (by rfl) (by rfl) (own_src hu3 (ints_oneCell _ _) Try.underlying49) (by unfold maxLen; omega) (by omega) (Nat.le_trans g2.size g3.size) ?_); intro v5 w5 hu5 g5 _))
    obtain ⟨z5, p0, p1, p2⟩ := ‹w.heap.size < w5.heap.size ∧ _›
    have hz2 := g2.size
    have hz3 := g3.size
    have hz5 := g5.size
    have hu2' := own_keep hu2 g3
    have c5 := ((c1.keep (grown_drew1 _)).keep (g2.trans' g3)).own g5 (fun e => by have := (hu2'.lt _ e).1; simp at this; omega)
    have G5 := (G1.trans' (grown_drew1 _)).trans' (grown_own (g2.trans' g3) hu2' g5)
    clear hu2 hu2' hu3 g2 g3 c1 g5 q0 q1' q2' q3' q4' q5' p0 p1 p2
    obtain ⟨c50, c51, c52, c53, c54⟩ := c5.ev5
    have gr := grown_refl w5
    go_wp2_with fail
    refine (C3.out _).mono ?_
    rintro e w6 ⟨u6, rfl, hu6, g6⟩
    have hu5' := own_keep hu5 g6
    have hz6 := g6.size
    go_wp2_with (at_builtin; refine wpList_appS _ rfl _ _ 49 49 rfl _ 5 (.int .u8 0) 1 1 Try.underlying49 Try.infoU8 rfl (by decide) _ _ _ _ _ _ hu5' rfl rfl (own_src hu6 (ints_oneCell _ _) Try.underlying49) (by unfold maxLen; omega) (by omega) (by simp at hz2 hz3 hz5 hz6 ⊢; omega) ?_)
    intro v7 w7 hu7 g7 _
    have hu7' : OwnB w1.heap.size v7 H w7 := by
      unfold OwnB; rw [HH.out]; simpa [HB.out, Nat.add_assoc] using hu7
    have c7 := (c5.keep g6).own g7 (fun e => by have := (hu5'.lt _ e).1; simp at this; omega)
    have G7 := grown_trans (G5.trans' g6) g7 (fun k hk => by have := (hu5'.lt k hk).1; simp at this; omega)
    have hz7 := g7.size
    have hz17 : w1.heap.size ≤ w7.heap.size := by simp at hz2 hz3 hz5 hz6 hz7; omega
    clear c50 c51 c52 c53 c54 gr hu5 hu5' hu6 hu7 g6 g7 c5 G5 hz2 hz3 hz5 hz6 hz7
    go_wp2_with fail
    go_loopw [5, 6] (fun b' i wr => ∃ k : Nat, k ≤ l.length ∧ i = .int .i64 k ∧ OwnB w1.heap.size b' (H ++ (l.take k).flatMap encU) wr ∧ w.grownBy wr none ∧ w1.heap.size ≤ wr.heap.size ∧ Blk w.heap.size #[.int .i64 d, .int .i64 s, .int .u64 z, .slice (some ⟨bl, off, none⟩) l.length cap, .bool b] 26 wr) (fun _ i _ => l.length - (intOf i).toNat)
    case atStart => exact ⟨0, by omega, rfl, by simpa using hu7', G7, hz17, c7⟩
    case round =>
      clear hu7' G7 c7
      obtain ⟨k, hk, rfl, ho, G6, hz6, c6⟩ := hrel
      have hfl := flat_len (l.take k)
      rw [List.length_take] at hfl
      have hxl : (H ++ (l.take k).flatMap encU).length ≤ 5000 := by rw [List.length_append]; omega
      obtain ⟨P, hP⟩ : ∃ P, P = H ++ (l.take k).flatMap encU := ⟨_, rfl⟩
      rw [← hP] at ho hxl
      have HP := Lib.hid hP
      clear hP hfl
      obtain ⟨c60, c61, c62, c63, c64⟩ := c6.ev5
      have gr := grown_refl wr
      by_cases hlt : k < l.length
      · have y := kcell G6 (HC.out k hlt) hbl
        have hx := HG.out _ (gI_mem hlt)
        have HS := Lib.hid (flat_snoc hlt)
        generalize gI l k = x at *
        have C6 := Lib.hid (fun w : World => uint_any x w (by omega) (by omega))
        have hel := length_encU x
        have e1 : (k : Int) < l.length := by omega
        have e2 : (0 : Int) ≤ k := by omega
        obtain ⟨E, hE⟩ : ∃ E, E = encU x := ⟨_, rfl⟩
        rw [← hE] at HS C6 hel
        clear hx hE
        go_wp2_with fail
        refine (C6.out _).mono ?_
        rintro e w8 ⟨u8, rfl, hu8, g8⟩
        have ho8 : OwnB w1.heap.size _ P w8 := ho.keep g8
        have hz8 := g8.size
        obtain ⟨a6, k6, rfl, -, -⟩ := own_shape ho8
        have hge : ∀ g, (Value.slice a6 P.length k6).ownBlock = some g → w1.heap.size ≤ g := fun g hg => (ho8.lt g hg).1
        go_wp2_with (at_builtin; refine wpList_appS _ rfl _ _ 49 49 rfl w1.heap.size 5 (.int .u8 0) 1 1 Try.underlying49 Try.infoU8 rfl (by decide) _ _ _ _ _ _ ho8 rfl rfl (own_src hu8 (ints_oneCell _ _) Try.underlying49) (by unfold maxLen; omega) (by omega) (by omega) ?_)
        intro v9 w9 hu9 g9 _
        have G9 := grown_trans (G6.trans' g8) g9 (fun g hg => by have := hge g hg; omega)
        have c9 := (c6.keep g8).own g9 (fun e => by have := hge _ e; omega)
        have hz9 := g9.size
        have ho9 : OwnB w1.heap.size v9 (P ++ E) w9 := by unfold OwnB; simpa using hu9
        clear g8 g9 c6 C6 ho ho8 hu8 hu9 c60 c61 c62 c63 c64 gr
        go_wp2
        go_roundw
        case rel =>
          refine ⟨k + 1, by omega, by go_num, ?_, G9, by omega, c9⟩
          rw [HS.out, ← List.append_assoc, ← HP.out]
          exact ho9
        case measure => simp [intOf]; omega
      · obtain rfl : k = l.length := by omega
        have HP2 : Hid (P = H ++ l.flatMap encU) := by show _ = _; rw [HP.out, List.take_of_length_le (by omega)]
        clear HP
        go_wp2_with fail
        refine (C5.out _).mono ?_
        rintro e w8 ⟨u8, rfl, hu8, g8⟩
        have ho8 : OwnB w1.heap.size _ P w8 := ho.keep g8
        have hz8 := g8.size
        obtain ⟨a6, k6, rfl, -, -⟩ := own_shape ho8
        have hge : ∀ g, (Value.slice a6 P.length k6).ownBlock = some g → w1.heap.size ≤ g := fun g hg => (ho8.lt g hg).1
        go_wp2_with (at_builtin; refine wpList_appS _ rfl _ _ 49 49 rfl w1.heap.size 5 (.int .u8 0) 1 1 Try.underlying49 Try.infoU8 rfl (by decide) _ _ _ _ _ _ ho8 rfl rfl (own_src hu8 (by simp [Value.oneCell']) Try.underlying49) (by unfold maxLen; omega) (by omega) (by omega) ?_)
        intro v9 w9 hu9 g9 _
        have G9 := grown_trans (G6.trans' g8) g9 (fun g hg => by have := hge g hg; omega)
        have ho9 : OwnB w1.heap.size v9 (P ++ [fb]) w9 := by unfold OwnB; simpa using hu9
        clear g8 g9 c6 ho ho8 hu8 hu9 c60 c61 c62 c63 c64 gr
        go_wp2
        go_ret2
        rw [HF.out, ← HP2.out]
        exact ⟨_, rfl, own_lower ho9 (by omega), G9⟩
  · rw [encCm_no hE]
    generalize cmE d s l = E at *
    have hb1 : (E != 0) = true := by rw [bne_iff_ne]; exact hE
    clear hE hv
    go_enter Try.func29, Try.ntmps29
    go_wp2_with fail
    refine (C1.out _ (HV.out.grown (grown_alloc _ _))).mono ?_
    rintro e w1 ⟨rfl, g1⟩
    go_wp2
    go_ret2
    exact ⟨_, rfl, OwnB.nil _ _, (grown_alloc _ _).trans' g1⟩
end Go.Proofs.Ytigpbfmnbdbpcaa
