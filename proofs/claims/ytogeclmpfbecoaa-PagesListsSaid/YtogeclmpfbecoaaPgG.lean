/- The walk of PagesLists. -/
import Derived.Test.YtogeclmpfbecoaaPgE
import Derived.Deep.Matrix
import Derived.SizedLaws
namespace Go.Proofs.Ytogeclmpfbecoaa
open Go.RowKit Go.ChangeShapes Go.WideShapes
set_option linter.unusedVariables false
set_option linter.unusedSimpArgs false
theorem weightsAll_mem {H : Type} {P : Program} {e : TypeId} : ∀ {l : List (DataW H)} {d : DataW H}, d ∈ l → ∀ n ∈ d.weights P e, n ∈ DataW.weightsAll P e l
  | d0 :: l, d, hd, n, hn => by
    simp only [DataW.weightsAll, List.mem_append]
    rcases List.mem_cons.1 hd with rfl | hd
    · exact .inl hn
    · exact .inr (weightsAll_mem hd n hn)
/-- An argument that is a slice of slices of bytes, opened. -/
theorem open_pages {H : Type} {enc : TypeId × Value → H} {P : Program} {w : World} {base : Nat} {held : Bool} {t e q : TypeId} {fuel : Nat} {a : Option Addr} {len cap : Nat} {x : DataW H × List MemPlace}
    (ht : P.underlying t = some (.slice e)) (he : P.underlying e = some (.slice q)) (hq : P.underlying q = some (.int .u8)) (ce : P.cellsOf e = 1) (cq : P.cellsOf q = 1) (hb : P.bytesOf q = 1)
    (h : DataW.trod enc P w base (fun _ => true) held fuel t [.slice a len cap] = some x) (hsz : ∀ n ∈ x.1.weights P t, n ≤ reachBytes) :
    ∃ L, Pgs w (.slice a len cap) L ∧ ∀ i, i < L.length → (gL L i).length ≤ 140737488351232 := by
  rcases Go.Deep.open_int_rows ht he hq ce cq h with ⟨hcs, _⟩ | ⟨x0, len', cap', A, L, C, Z, hcs, _, hl, hm, hx, hrow⟩
  · simp at hcs
    obtain ⟨rfl, rfl, rfl⟩ := hcs
    exact ⟨[], ⟨[], ⟨none, 0, rfl, by simp, by unfold maxLen; omega, .inl rfl⟩, rfl, by simp⟩, by simp⟩
  · simp at hcs
    obtain ⟨rfl, rfl, rfl⟩ := hcs
    have hgl : ∀ r, r < len → gL ((List.range len).map fun r => (Z r).take (L r)) r = (Z r).take (L r) := by
      intro r hr; unfold gL; simp [List.getElem?_range hr]
    have hgv : ∀ r, r < len → gV ((List.range len).map fun r => Value.slice (A r) (L r) (C r)) r = Value.slice (A r) (L r) (C r) := by
      intro r hr; unfold gV; simp [List.getElem?_range hr]
    have hlt : ∀ r, r < len → ((Z r).take (L r)).length = L r := by
      intro r hr
      obtain ⟨_, h1, _, h2, _⟩ := hrow r (by omega)
      rw [List.length_take]; omega
    refine ⟨(List.range len).map fun r => (Z r).take (L r), ⟨(List.range len).map fun r => Value.slice (A r) (L r) (C r), ⟨some x0, cap, by simp, by simpa using hl, hm, ?_⟩, by simp, fun r hr => ?_⟩, fun r hr => ?_⟩
    · by_cases h0 : len = 0
      · subst h0; exact .inl (by simp)
      · obtain ⟨c0, _⟩ := hrow 0 (by omega)
        have hsp : x0.spot = none := by
          have := c0
          unfold World.cell? at this
          cases hs : x0.spot with
          | none => rfl
          | some y => simp [Addr.add, hs] at this; split at this <;> simp at this
        obtain ⟨xb, xo, xs⟩ := x0
        simp only at hsp
        subst hsp
        have hadd : ∀ r, (⟨xb, xo, none⟩ : Addr).add r = ⟨xb, xo + r, none⟩ := by intro r; unfold Addr.add; split <;> simp_all
        refine .inr ⟨xb, xo, rfl, ?_, fun r hr => ?_⟩
        · have := World.block_lt_of_cell? w _ c0
          rw [hadd] at this
          exact this
        · simp at hr
          rw [hgv r hr, ← hadd]
          exact (hrow r (by omega)).1
    · simp at hr
      rw [hgl r hr, hgv r hr]
      obtain ⟨_, h1, h2, h3, h4, h5, h6⟩ := hrow r (by omega)
      cases hA : A r with
      | none =>
        have hc0 := h5 hA
        have hL0 : L r = 0 := by omega
        rw [hL0, hc0]
        exact ⟨none, 0, by simp, by simp, by unfold maxLen; omega, by simp, .inl (by simp)⟩
      | some a' =>
        exact ints_of_row h1 h2 h3 (fun i hi => (h6 a' hA).2 i (by omega)) h4
    · simp at hr
      rw [hgl r hr, hlt r hr]
      obtain ⟨_, h1, h2, h3, h4, h5, h6⟩ := hrow r (by omega)
      cases hA : A r with
      | none => have := h5 hA; omega
      | some a' =>
        have hw := hsz ((Z r).length * 1) (by
          rw [hx]
          simp only [DataW.weights, ht, List.mem_cons, List.mem_append]
          refine .inr (.inl (weightsAll_mem (d := Go.Deep.intRow .u8 (A r) (L r) (Z r)) (by simp; exact ⟨r, hr, rfl⟩) _ ?_))
          rw [hA]
          simp only [Go.Deep.intRow, DataW.weights, he, List.mem_cons]
          left
          rw [hb]
          simp [lits]
          omega)
        rw [h3] at hw
        unfold reachBytes at hw
        omega
theorem pgs_wf {w : World} {v : Value} {L : List (List Int)} (h : Pgs w v L) : ∀ n ∈ L.flatten, (Lit.int .u8 n).wf = true := by
  intro n hn
  obtain ⟨l, hl, hn⟩ := List.mem_flatten.1 hn
  obtain ⟨i, hi, rfl⟩ := List.getElem_of_mem hl
  obtain ⟨vs, _, _, h3⟩ := h
  have := (h3 i hi).wfs
  rw [gL_eq hi] at this
  exact this n hn
theorem flat_bound {L : List (List Int)} {B : Nat} (hb : ∀ i, i < L.length → (gL L i).length ≤ B) : ∀ k, k ≤ L.length → (L.take k).flatten.length ≤ k * B := by
  intro k
  induction k with
  | zero => simp
  | succ k ih =>
    intro hk
    rw [flat_take_succ (by omega), List.length_append, Nat.add_mul, Nat.one_mul]
    have := ih (by omega)
    have := hb k (by omega)
    omega
set_option maxRecDepth 100000 in
set_option maxHeartbeats 3200000 in
theorem PagesLists_walk (v0 : Value) (L0 : List (List Int)) (w : World) (h0 : Pgs w v0 L0) (s0 : ∀ i, i < L0.length → (gL L0 i).length ≤ 140737488351232) :
    Calls Try.prog 5 #[v0] w fun e w' => e = .returned (.bool true) ∧ Below w.heap.size w w' := by
  have HV := Lib.hid h0
  obtain ⟨a, cap, rfl, q1, q2⟩ := h0.shape
  unfold maxLen at q2
  clear h0
  by_cases h50 : L0.length ≤ 50
  · have hfb := flat_bound s0
    have HFB := Lib.hid hfb
    clear hfb s0
    go_enter Try.func5, Try.ntmps5
    go_wp2_with fail
    go_loop [3, 4] (fun t i => ∃ k : Nat, k ≤ L0.length ∧ i = .int .i64 k ∧ t = .int .i64 ((L0.take k).flatten.length : Nat)) (fun _ i => L0.length - (intOf i).toNat)
    case atStart => exact ⟨0, by omega, rfl, rfl⟩
    case round =>
      obtain ⟨k, hk, rfl, rfl⟩ := hrel
      have h1 := HFB.out k hk
      by_cases hkn : k < L0.length
      · obtain ⟨b, off, u, rfl, hb, hc, hi⟩ := HV.out.at hkn
        obtain ⟨au, cu, rfl⟩ := hi.shape
        have h2 := HFB.out (k + 1) (by omega)
        have h3 := flat_take_succ hkn
        have h4 : ((L0.take (k + 1)).flatten.length : Nat) = (L0.take k).flatten.length + (gL L0 k).length := by rw [h3, List.length_append]
        rw [h4] at h2
        have H4 := Lib.hid h4
        clear hi h3 h4
        generalize (L0.take k).flatten.length = x at *
        generalize (gL L0 k).length = y at *
        have hx : x + y ≤ 7177611905912832 := by omega
        go_wp2
        go_round
        case rel => exact ⟨k + 1, by omega, by go_num, by rw [H4.out]; go_num⟩
        case measure => simp [intOf]; omega
      · have hkl : k = L0.length := by omega
        rw [List.take_of_length_le (by omega)] at h1 ⊢
        obtain ⟨n, hN⟩ : ∃ n, L0.flatten.length = n := ⟨_, rfl⟩
        rw [hN] at h1 ⊢
        by_cases h2000 : n ≤ 2000
        · have J := Lib.hid (fun w' (g : w.grownBy w' none) => (join_any _ _ w' (HV.out.grown g) (by omega)).mono (R' := fun e w'' => ∃ a c, e = .returned (.slice a n c) ∧ Ints .u8 w'' (.slice a n c) L0.flatten ∧ w'.grownBy w'' none) fun e w'' ⟨v', he, ho, hg⟩ => by
            obtain ⟨a, c, rfl, _⟩ := own_shape ho
            rw [hN] at he ho
            exact ⟨a, c, he, ints_of_own (by rw [hN]; exact ho) (pgs_wf HV.out), hg⟩)
          have JR := Lib.hid (fun w' (g : w.grownBy w' none) => (joinr_any _ _ w' (HV.out.grown g) (by omega)).mono (R' := fun e w'' => ∃ a c, e = .returned (.slice a n c) ∧ Ints .u8 w'' (.slice a n c) L0.flatten ∧ w'.grownBy w'' none) fun e w'' ⟨v', he, ho, hg⟩ => by
            obtain ⟨a, c, rfl, _⟩ := own_shape ho
            rw [hN] at he ho
            exact ⟨a, c, he, ints_of_own (by rw [hN]; exact ho) (pgs_wf HV.out), hg⟩)
          clear hk hkl h1 hN
          go_wp2_with fail
          go_region_with (first
            | (go_at_call 13; ((with_reducible refine (J.out _ (grown_drew1 _)).mono ?_); rintro e w1 ⟨a1, c1, rfl, i1, g1⟩; have G1 := (grown_drew1 w).trans' g1; have cv1 := run_string (P := Try.prog) i1 Try.underlying22 Try.underlying5 Try.underlying9))
            | (go_at_call 14; ((with_reducible refine (JR.out _ G1).mono ?_); rintro e w2 ⟨a2, c2, rfl, i2, g2⟩; have G2 := G1.trans' g2; have cv2 := run_string (P := Try.prog) i2 Try.underlying22 Try.underlying5 Try.underlying9; have cv3 := run_string (P := Try.prog) (i1.grown g2) Try.underlying22 Try.underlying5 Try.underlying9))
            | (go_at_call 13; ((with_reducible refine (J.out _ G2).mono ?_); rintro e w3 ⟨a3, c3, rfl, i3, g3⟩; have G3 := G2.trans' g3))
            | (go_at_call 7; refine (knownp_any _).mono ?_; rintro e w4 ⟨rfl, g4⟩))
          all_goals
            go_wp2
            go_ret
            exact ⟨rfl, below_of_grown (G3.trans' g4)⟩
        · have hbig : (2000 : Int) < n := by omega
          clear h1 hN
          go_wp2_with (go_at_call 7; refine (knownp_any _).mono ?_; rintro e w7 ⟨rfl, g7⟩)
          go_ret
          exact ⟨rfl, below_of_grown g7⟩
  · clear s0
    have h51 : (50 : Int) < L0.length := by omega
    go_enter Try.func5, Try.ntmps5
    go_wp2_with fail
    go_loop [3, 4] (fun t i => ∃ (k : Nat) (x : Int), k ≤ L0.length ∧ i = .int .i64 k ∧ t = .int .i64 x) (fun _ i => L0.length - (intOf i).toNat)
    case atStart => exact ⟨0, _, by omega, rfl, rfl⟩
    case round =>
      obtain ⟨k, x, hk, rfl, rfl⟩ := hrel
      by_cases hkn : k < L0.length
      · obtain ⟨b, off, u, rfl, hb, hc, hi⟩ := HV.out.at hkn
        obtain ⟨au, cu, rfl⟩ := hi.shape
        clear hi
        go_wp2
        go_round
        case rel => exact ⟨k + 1, _, by omega, by go_num, rfl⟩
        case measure => simp [intOf]; omega
      · have hkl : k = L0.length := by omega
        go_wp2_with (go_at_call 7; refine (knownp_any _).mono ?_; rintro e w7 ⟨rfl, g7⟩)
        go_ret
        exact ⟨rfl, below_of_grown g7⟩
end Go.Proofs.Ytogeclmpfbecoaa
