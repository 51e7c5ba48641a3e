/- The walk of PagesJoin. -/
import Derived.Test.YtogeclmpfbecoaaPgE
namespace Go.Proofs.Ytogeclmpfbecoaa
open Go.RowKit Go.ChangeShapes Go.WideShapes
set_option linter.unusedVariables false
set_option linter.unusedSimpArgs false
theorem splitN_flat (l : List Int) (s : Nat) : ∀ j, (splitN l s j).flatten = l.take (j * s) := by
  intro j
  induction j with
  | zero => simp [splitN]
  | succ j ih =>
    rw [splitN_succ, List.flatten_append, ih]
    simp only [List.flatten_cons, List.flatten_nil, List.append_nil, pageL]
    rw [Nat.add_mul, Nat.one_mul, List.take_add]
theorem splitL_flat {l : List Int} {s : Nat} (h1 : 1 ≤ s) (h2 : s ≤ 1024) : (splitL l s).flatten = l := by
  unfold splitL
  rw [if_neg (by omega), splitN_flat, List.take_of_length_le]
  have h := ceilD_lt (a := l.length) (b := s) (by omega) (ceilD l.length s)
  have h0 := (ceilD_range (a := l.length) (b := s) (by omega) (by omega)).1
  have h3 : ¬ (ceilD l.length s * s < l.length) := fun hh => by have := h.2 hh; omega
  obtain ⟨K, hK⟩ := Int.eq_ofNat_of_zero_le h0
  rw [hK] at h3 ⊢
  simp only [Int.toNat_natCast]
  have : ((K * s : Nat) : Int) = (K : Int) * s := by simp
  omega
theorem splitL_page {l : List Int} {s : Nat} (h1 : 1 ≤ s) (h2 : s ≤ 1024) {i : Nat} (hi : i < (splitL l s).length) :
    1 ≤ (gL (splitL l s) i).length ∧ (gL (splitL l s) i).length ≤ s ∧ (i + 1 < (splitL l s).length → (gL (splitL l s) i).length = s) := by
  have hl : splitL l s = splitN l s (ceilD l.length s).toNat := by unfold splitL; rw [if_neg (by omega)]; simp
  rw [hl, length_splitN] at hi ⊢
  have h0 := (ceilD_range (a := l.length) (b := s) (by omega) (by omega)).1
  have hlt := fun k : Nat => ceilD_lt (a := l.length) (b := s) (by omega) k
  generalize ceilD l.length s = K at *
  obtain ⟨N, rfl⟩ := Int.eq_ofNat_of_zero_le h0
  simp only [Int.toNat_natCast] at *
  have hg : gL (splitN l s N) i = pageL l s i := by
    unfold gL splitN
    simp [List.getElem?_range hi]
  rw [hg, pageL_len]
  have ha := (hlt i).1 (by omega)
  have e1 : (i : Int) * s = ((i * s : Nat) : Int) := by simp
  rw [e1] at ha
  refine ⟨by omega, by omega, fun h => ?_⟩
  have hb := (hlt (i + 1)).1 (by omega)
  have e2 : ((i + 1 : Nat) : Int) * s = (((i + 1) * s : Nat) : Int) := by simp
  rw [e2, Nat.add_mul, Nat.one_mul] at hb
  omega
set_option maxRecDepth 100000 in
set_option maxHeartbeats 3200000 in
theorem PagesJoin_walk (v0 : Value) (l0 : List Int) (a1 : Int) (w : World) (h0 : Ints .u8 w v0 l0) (_ : l0.length * Try.prog.bytesOf 5 ≤ 140737488351232) (h1 : (Lit.int .i64 a1).wf = true) :
    Calls Try.prog 4 #[v0, .int .i64 a1] w fun e w' => e = .returned (.bool true) ∧ Below w.heap.size w w' := by
  have HV := Lib.hid h0
  obtain ⟨a, cap, rfl⟩ := h0.shape
  have hz := h0.size
  have b2 : ∃ m, bits BinOp.and IntKind.i64 a1 63 = m ∧ 0 ≤ m ∧ m ≤ 63 := ⟨_, and_mask _ 6 (by omega) 63 (by decide), by omega, by omega⟩
  obtain ⟨m, e1, l1, u1⟩ := b2
  clear h0 h1
  by_cases hl : (l0.length : Int) > 1000
  · go_enter Try.func4, Try.ntmps4
    go_wp2_with (go_at_call 7; refine (knownp_any _).mono ?_; rintro e w5 ⟨rfl, g5⟩)
    go_ret
    exact ⟨rfl, below_of_grown g5⟩
  · have hl' : l0.length ≤ 1000 := by omega
    obtain ⟨M, rfl⟩ := Int.eq_ofNat_of_zero_le l1
    have c1 := fun w' (g : w.grownBy w' none) => split_any _ _ (1 + (M : Int)) _ (HV.out.grown g) hl'
    have he : splitE (1 + M) = 0 := by unfold splitE; rw [if_neg (by omega)]
    rw [he] at c1
    have es : (1 + (M : Int)) = ((1 + M : Nat) : Int) := by omega
    have hf := splitL_flat (l := l0) (s := 1 + M) (by omega) (by omega)
    have hpg := fun i hi => splitL_page (l := l0) (s := 1 + M) (by omega) (by omega) (i := i) hi
    rw [← es] at hf hpg
    generalize splitL l0 (1 + M) = L at *
    have C1 := Lib.hid c1
    have HF := Lib.hid hf
    have HPG := Lib.hid hpg
    clear c1 he hf hpg es
    go_enter Try.func4, Try.ntmps4
    go_wp2_with fail
    refine (C1.out _ (grown_refl _)).mono ?_
    rintro e w1 ⟨x, rfl, X1, g1⟩
    have HX := Lib.hid X1
    obtain ⟨ax, cx, rfl, q1, q2⟩ := X1.shape
    clear X1
    have cv0 := run_string (P := Try.prog) (HV.out.grown (g1.trans' (grown_drew1 _))) Try.underlying22 Try.underlying5 Try.underlying9
    go_wp2_with fail
    go_region_with ((go_at_call 13; refine (join_any _ _ _ (HX.out.grown (grown_drew1 _)) (by rw [HF.out]; omega)).mono ?_; rintro e w3 ⟨v3, rfl, hu, g3⟩; rw [HF.out] at hu; have cv3 := run_string (P := Try.prog) (ints_of_own hu HV.out.wfs) Try.underlying22 Try.underlying5 Try.underlying9; have cv4 := run_string (P := Try.prog) (HV.out.grown ((g1.trans' (grown_drew1 _)).trans' g3)) Try.underlying22 Try.underlying5 Try.underlying9))
    all_goals
      generalize strOfNums l0 = A0 at *
      have G3 := (g1.trans' (grown_drew1 _)).trans' g3
      have HX3 := HX.out.grown ((grown_drew1 w1).trans' g3)
      clear cv0 cv3 cv4 hu g1 g3
      have HX4 := Lib.hid HX3
      clear HX3
      unfold maxLen at q2
      go_wp2_with fail
      go_loop [8] (fun i => ∃ k : Nat, k ≤ L.length ∧ i = .int .i64 k) (fun i => L.length - (intOf i).toNat)
      case atStart => exact ⟨0, by omega, rfl⟩
      case round =>
        obtain ⟨k, hk, rfl⟩ := hrel
        by_cases hkn : k < L.length
        · obtain ⟨b, off, u, rfl, hb, hc, hi⟩ := HX4.out.at hkn
          obtain ⟨au, cu, rfl⟩ := hi.shape
          obtain ⟨p1, p2, p3⟩ := HPG.out k hkn
          clear hi
          generalize gL L k = P at *
          have z1 : ((P.length : Int) == 0) = false := beq_eq_false_iff_ne.2 (by omega)
          by_cases hk2 : k + 1 < L.length
          · have p3 := p3 hk2
            have z2 : ((P.length : Int) != 1 + M) = false := by rw [bne_eq_false_iff_eq]; omega
            have P3 := Lib.hid p3
            clear p3
            go_wp2
            go_round
            case rel => exact ⟨k + 1, by omega, by go_num⟩
            case measure => simp [intOf]; omega
          · clear p3
            go_wp2
            go_round
            case rel => exact ⟨k + 1, by omega, by go_num⟩
            case measure => simp [intOf]; omega
        · have hkl : k = L.length := by omega
          go_wp2_with (go_at_call 7; refine (knownp_any _).mono ?_; rintro e w7 ⟨rfl, g7⟩)
          go_ret
          exact ⟨rfl, below_of_grown (G3.trans' g7)⟩
end Go.Proofs.Ytogeclmpfbecoaa
