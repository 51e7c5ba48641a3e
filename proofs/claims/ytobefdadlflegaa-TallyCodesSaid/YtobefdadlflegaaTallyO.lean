/- The walks of the encodings of tallies. Conditions: numbers of Go's int. -/
import Derived.Test.YtobefdadlflegaaTallyN
namespace Go.Proofs.Ytobefdadlflegaa
open Go.RowKit Go.ChangeShapes Go.WideShapes
set_option linter.unusedVariables false
set_option linter.unusedSimpArgs false
theorem valE_in {t n : Int} (h : valE t n = 0) : 0 ≤ t ∧ t ≤ 4294967295 ∧ 0 ≤ n ∧ n ≤ 4294967295 := by
  unfold valE at h; split at h
  · simp at h
  · omega
theorem ints_lit3 (w : World) (e : TypeId) (a b c : Int) (ha : (Lit.int .i64 a).wf = true) (hb : (Lit.int .i64 b).wf = true) (hc : (Lit.int .i64 c).wf = true) :
    Ints .i64 (w.alloc (.cells #[.int .i64 a, .int .i64 b, .int .i64 c] e)) (.slice (some ⟨w.heap.size, 0, none⟩) 3 3) [a, b, c] := by
  have h := own_lit3 w e (.int .i64 a) (.int .i64 b) (.int .i64 c)
  have h2 : Ints .i64 _ _ [a, b, c] := ints_of_own h (by
    intro m hm
    simp only [List.mem_cons, List.not_mem_nil, or_false] at hm
    rcases hm with rfl | rfl | rfl <;> assumption)
  exact h2
theorem wf_i64' {n : Int} (h : 0 ≤ n) (h' : n ≤ 4294967295) : (Lit.int .i64 n).wf = true := by
  simp [Lit.wf, IntKind.min, IntKind.max, IntKind.signed, IntKind.bits]; omega
set_option maxRecDepth 100000 in
set_option maxHeartbeats 800000 in
theorem enct_any (t n : Int) (s : Bool) (w : World) :
    Calls Try.prog 18 #[.agg #[.int .i64 t, .int .i64 n, .bool s]] w fun e w' => ∃ v', e = .returned (.tuple #[v', .int .i64 (valE t n)]) ∧
      w'.ownsRow w.heap.size 5 1 v' (encTL t n s).length ((encTL t n s).map (.int .u8)) ∧ w.grownBy w' none := by
  have c1 := fun w : World => valid_any t n s w
  have hr : encTL t n s = if valE t n ≠ 0 then [] else encU t ++ encU n ++ [if s then 1 else 0] := rfl
  have hin := fun h => valE_in (t := t) (n := n) h
  have c2 := fun (v : Value) (w : World) (h : valE t n = 0) (hv : Ints .i64 w v [t, n, if s then 1 else 0]) => numbers_any v [t, n, if s then 1 else 0] w hv (by simp) (by
    have := hin h
    intro m hm
    simp only [List.mem_cons, List.not_mem_nil, or_false] at hm
    rcases hm with rfl | rfl | rfl
    · omega
    · omega
    · split <;> omega)
  have hf : [t, n, if s then 1 else 0].flatMap encU = encU t ++ encU n ++ [if s then 1 else 0] := by cases s <;> simp [encU]
  rw [hf] at c2
  generalize valE t n = e1 at *
  generalize encTL t n s = L at *
  have C1 := Lib.hid c1
  have C2 := Lib.hid c2
  have HR := Lib.hid hr
  clear c1 c2 hr hf
  by_cases h1 : e1 = 0
  · have hin' := hin h1
    have H1 := Lib.hid h1
    have b1 : (e1 != 0) = false := by rw [bne_eq_false_iff_eq]; exact h1
    clear h1 hin
    cases s
    all_goals
      go_enter Try.func18, Try.ntmps18
      go_wp2_with fail
      refine (C1.out _).mono ?_
      rintro e w1 ⟨rfl, g1⟩
      have hz1 : w.heap.size + 1 ≤ w1.heap.size := by simpa using g1.size
      have q0 : w1.cell? ⟨w.heap.size, 0, none⟩ = some (.int .i64 t) := kcell g1 (by simp [go_sem]) (by simp)
      have q1 : w1.cell? ⟨w.heap.size, 1, none⟩ = some (.int .i64 n) := kcell g1 (by simp [go_sem]) (by simp)
      have q2 : w1.cell? ⟨w.heap.size, 2, none⟩ = some (.bool _) := kcell g1 (by simp [go_sem]; rfl) (by simp)
      go_wp2_with fail
      refine (C2.out _ _ H1.out (ints_lit3 _ _ _ _ _ (wf_i64' (by omega) (by omega)) (wf_i64' (by omega) (by omega)) (by decide))).mono ?_
      rintro e w2 ⟨u, rfl, hu, g2⟩
      go_wp2
      go_ret2
      rw [HR.out, if_neg (by simpa using H1.out), H1.out]
      exact ⟨_, rfl, own_lower hu (by simp; omega), ((grown_alloc _ _).trans' g1).trans' ((grown_alloc _ _).trans' g2)⟩
  · have b1 : (e1 != 0) = true := by rw [bne_iff_ne]; exact h1
    have H1 := Lib.hid h1
    clear h1 hin
    go_enter Try.func18, Try.ntmps18
    go_wp2_with fail
    refine (C1.out _).mono ?_
    rintro e w1 ⟨rfl, g1⟩
    go_wp2
    go_ret2
    rw [HR.out, if_pos H1.out]
    exact ⟨_, rfl, World.ownsRow_nil _ _ _ _, (grown_alloc _ _).trans' g1⟩
theorem keep3 {A : Nat} {x y z : Value} {w w' : World} (h : A < w.heap.size ∧ w.cell? ⟨A, 0, none⟩ = some x ∧ w.cell? ⟨A, 1, none⟩ = some y ∧ w.cell? ⟨A, 2, none⟩ = some z) (g : w.grownBy w' none) :
    A < w'.heap.size ∧ w'.cell? ⟨A, 0, none⟩ = some x ∧ w'.cell? ⟨A, 1, none⟩ = some y ∧ w'.cell? ⟨A, 2, none⟩ = some z := by
  obtain ⟨h, k0, k1, k2⟩ := h
  exact ⟨Nat.lt_of_lt_of_le h g.size, kcell g k0 h, kcell g k1 h, kcell g k2 h⟩
theorem keep3r {A B : Nat} {x y z : Value} {w w' : World} {e : TypeId} {size n : Nat} {v : Value} {xs : List Value} (h : A < w.heap.size ∧ w.cell? ⟨A, 0, none⟩ = some x ∧ w.cell? ⟨A, 1, none⟩ = some y ∧ w.cell? ⟨A, 2, none⟩ = some z)
    (g : w.grownBy w' v.ownBlock) (ho : w.ownsRow B e size v n xs) (hB : A < B) :
    A < w'.heap.size ∧ w'.cell? ⟨A, 0, none⟩ = some x ∧ w'.cell? ⟨A, 1, none⟩ = some y ∧ w'.cell? ⟨A, 2, none⟩ = some z := by
  obtain ⟨h, k0, k1, k2⟩ := h
  have hne : ∀ k, v.ownBlock = some k → A ≠ k := fun k hk => by have := (ho.lt k hk).1; omega
  have hb : w'.heap[A]? = w.heap[A]? := g.block A h (by
    cases hv : v.ownBlock with
    | none => simp
    | some k => simp; exact fun e => hne k hv e)
  exact ⟨Nat.lt_of_lt_of_le h g.size, (World.cell?_of_block (w := w) hb).trans k0, (World.cell?_of_block (w := w) hb).trans k1, (World.cell?_of_block (w := w) hb).trans k2⟩
set_option maxRecDepth 100000 in
set_option maxHeartbeats 1600000 in
theorem enctr_any (t n : Int) (s : Bool) (w : World) :
    Calls Try.prog 19 #[.agg #[.int .i64 t, .int .i64 n, .bool s]] w fun e w' => ∃ v', e = .returned (.tuple #[v', .int .i64 (valE t n)]) ∧
      w'.ownsRow w.heap.size 5 1 v' (encTL t n s).length ((encTL t n s).map (.int .u8)) ∧ w.grownBy w' none := by
  have c1 := fun w : World => validr_any t n s w
  have hr : encTL t n s = if valE t n ≠ 0 then [] else encU t ++ encU n ++ [if s then 1 else 0] := rfl
  have hin := fun h => valE_in (t := t) (n := n) h
  have c2 := fun (w : World) (h : valE t n = 0) => uint_any t w (by have := hin h; omega) (by have := hin h; omega)
  have c3 := fun (w : World) (h : valE t n = 0) => uint_any n w (by have := hin h; omega) (by have := hin h; omega)
  have c4 := fun (w : World) => flagr_any s w
  have l1 := length_encU t
  have l2 := length_encU n
  generalize valE t n = e1 at *
  generalize encTL t n s = L at *
  generalize encU t = T at *
  generalize encU n = N at *
  generalize (if s = true then (1 : Int) else 0) = sv at *
  have C1 := Lib.hid c1
  have C2 := Lib.hid c2
  have C3 := Lib.hid c3
  have C4 := Lib.hid c4
  have HR := Lib.hid hr
  clear c1 c2 hr c3 c4
  by_cases h1 : e1 = 0
  · have hin' := hin h1
    have H1 := Lib.hid h1
    have b1 : (e1 != 0) = false := by rw [bne_eq_false_iff_eq]; exact h1
    clear h1 hin
    go_enter Try.func19, Try.ntmps19
    go_wp2_with fail
    refine (C1.out _).mono ?_
    rintro e w1 ⟨rfl, g1⟩
    have hz1 : w.heap.size + 1 ≤ w1.heap.size := by simpa using g1.size
    have q0 : w1.cell? ⟨w.heap.size, 0, none⟩ = some (.int .i64 t) := kcell g1 (by simp [go_sem]) (by simp)
    have q1 : w1.cell? ⟨w.heap.size, 1, none⟩ = some (.int .i64 n) := kcell g1 (by simp [go_sem]) (by simp)
    have q2 : w1.cell? ⟨w.heap.size, 2, none⟩ = some (.bool s) := kcell g1 (by simp [go_sem]) (by simp)
    go_wp2_with fail
    go_region_held3 (fun w' => w.heap.size < w'.heap.size ∧ w'.cell? ⟨w.heap.size, 0, none⟩ = some (.int .i64 t) ∧ w'.cell? ⟨w.heap.size, 1, none⟩ = some (.int .i64 n) ∧ w'.cell? ⟨w.heap.size, 2, none⟩ = some (.bool s))
      (first
        | (with_reducible exact keep3 (by assumption) (by assumption))
        | (with_reducible exact keep3r (by assumption) (by assumption) (own_keep hu2 g3) (by simp; omega))
        | exact ⟨by simp; omega, q0, q1, q2⟩)
      (first
        | (go_at_call 29; ((with_reducible refine (C2.out _ H1.out).mono ?_); rintro e w2 ⟨v2, rfl, hu2, g2⟩))
        | (go_at_call 29; ((with_reducible refine (C3.out _ H1.out).mono ?_); rintro e w3 ⟨v3, rfl, hu3, g3⟩))
        | ((refine step_appS _ (by rfl) _ _ 40 40 (by rfl) _ 5 (.int .u8 0) 1 1 Try.underlying40 Try.infoU8 rfl (by decide) _ _ _ _ _ _ (own_keep hu2 g3) (by rfl) (by rfl) (own_src hu3 (ints_oneCell _ _) Try.underlying40) (by unfold maxLen; omega) (by omega) (Nat.le_trans g2.size g3.size) ?_); intro v5 w5 hu5 g5 _))
    obtain ⟨z5, p0, p1, p2⟩ := ‹w.heap.size < w5.heap.size ∧ _›
    have g53 := grown_own (g2.trans' g3) (own_keep hu2 g3) g5
    clear g5 hu2 hu3 g2 g3
    go_wp2_with fail
    refine (C4.out _).mono ?_
    rintro e w6 ⟨v6, rfl, hu6, g6⟩
    have hu5' := own_keep hu5 g6
    have hz6 := g6.size
    go_wp2_with (at_builtin; refine wpList_appS _ rfl _ _ 40 40 rfl _ 5 (.int .u8 0) 1 1 Try.underlying40 Try.infoU8 rfl (by decide) _ _ _ _ _ _ hu5' rfl rfl (own_src hu6 (by simp [Value.oneCell']) Try.underlying40) (by unfold maxLen; omega) (by omega) (Nat.le_trans g53.size hz6) ?_)
    intro v7 w7 hu7 g7 _
    have g73 := grown_own (g53.trans' g6) hu5' g7
    clear hu5 hu5' hu6 g53 g6 g7
    go_wp2
    go_ret2
    rw [HR.out, if_neg (by simpa using H1.out), H1.out]
    refine ⟨_, rfl, own_lower (B := w1.drew.heap.size) (by simpa [Nat.add_assoc] using hu7) (by simp; omega), (((grown_alloc _ _).trans' g1).trans' (grown_drew1 _)).trans' g73⟩
  · have b1 : (e1 != 0) = true := by rw [bne_iff_ne]; exact h1
    have H1 := Lib.hid h1
    clear h1 hin
    go_enter Try.func19, Try.ntmps19
    go_wp2_with fail
    refine (C1.out _).mono ?_
    rintro e w1 ⟨rfl, g1⟩
    go_wp2
    go_ret2
    rw [HR.out, if_pos H1.out]
    exact ⟨_, rfl, World.ownsRow_nil _ _ _ _, (grown_alloc _ _).trans' g1⟩
end Go.Proofs.Ytobefdadlflegaa
