/- The walks of the mixer's laws. No condition. -/
import Derived.Test.YtcdfbfeeemaafaaHash
import Derived.Test.YtcdfbfeeemaafaaMixInj
namespace Go.Proofs.Ytcdfbfeeemaafaa
open Go.RowKit Go.ChangeShapes Go.WideShapes
set_option linter.unusedVariables false
set_option linter.unusedSimpArgs false
theorem wf_bx (x y : Int) : (Lit.int .u64 (bx x y)).wf = true := wf_bits ..
theorem wf_tab (s : Int) : ∀ n ∈ tab s, (Lit.int .u64 n).wf = true := by
  intro n hn
  simp only [tab, List.mem_map] at hn
  obtain ⟨i, _, rfl⟩ := hn
  exact wf_bx _ _
theorem tab_ints {w : World} {B : Nat} {v : Value} {s : Int} {e : TypeId} (h : w.ownsRow B e 1 v 256 ((tab s).map (.int .u64))) : Ints .u64 w v (tab s) :=
  ints_of_own (by rw [length_tab]; exact h) (wf_tab s)
theorem hash_empty (l : List Int) : hashF l ByteArray.empty = mixF (gI l 0) := rfl
set_option maxRecDepth 100000 in
set_option maxHeartbeats 400000 in
theorem mix_known_any (w : World) :
    Calls Try.prog 10 #[] w fun e w' => e = .returned (.bool true) ∧ w.grownBy w' none := by
  have m1 : (mixF 1 != 0) = true := by decide +kernel
  have m0 : (mixF 0 == 0) = true := by decide +kernel
  go_enter Try.func10, Try.ntmps10
  go_wp2_with fail
  refine (table_any _ _).mono ?_
  rintro e w1 ⟨v, rfl, ho, hg⟩
  have hi := tab_ints ho
  obtain ⟨a, cap, rfl, h1, h2, h3, h4⟩ := id hi
  rcases h4 with h4 | ⟨b, off, rfl, hb, hc⟩
  · have := length_tab 0; rw [h4] at this; simp at this
  have hc0 := hc 0 (by rw [length_tab]; omega)
  rw [length_tab] at *
  go_wp2_with fail
  refine (hash_big ByteArray.empty _ _ _ hi (length_tab 0) (by decide)).mono ?_
  rintro e w2 ⟨rfl, hd⟩
  have hc1 : w2.cell? ⟨b, off, none⟩ = some (.int .u64 (gI (tab 0) 0)) := (hd.cell _).trans hc0
  rw [hash_empty]
  go_wp2_with fail
  refine (hash_no ⟨#[97]⟩ (.slice none 0 0) [] _ ⟨none, 0, rfl, by simp, by unfold maxLen; omega, by simp, .inl rfl⟩ (by simp)).mono ?_
  rintro e w3 ⟨rfl, rfl⟩
  go_wp2_with (go_at_call 13; refine (mix_any _ _).mono ?_; rintro e w' ⟨rfl, rfl⟩)
  go_ret
  exact ⟨rfl, grown_then_drawn hg hd⟩
theorem MixerWords_walk (a0 : Int) (a1 : Int) (w : World) (_ : (Lit.int .u64 a0).wf = true) (_ : (Lit.int .i64 a1).wf = true) :
    Calls Try.prog 7 #[.int .u64 a0, .int .i64 a1] w fun e w' => e = .returned (.bool true) ∧ Below w.heap.size w w' := by
  go_enter Try.func7, Try.ntmps7
  go_wp2_with (first
    | (go_at_call 13; refine (mix_any _ _).mono ?_; rintro e w' ⟨rfl, rfl⟩)
    | (go_at_call 14; refine (mixr_any _ _).mono ?_; rintro e w' ⟨rfl, rfl⟩)
    | (go_at_call 15; refine (row_any _ _ _).mono ?_; rintro e w' ⟨rfl, rfl⟩)
    | (go_at_call 16; refine (rowr_any _ _ _).mono ?_; rintro e w' ⟨rfl, rfl⟩)
    | (go_at_call 10; refine (mix_known_any _).mono ?_; rintro e w' ⟨rfl, hg⟩))
  go_ret
  exact ⟨rfl, below_of_grown hg⟩
set_option maxRecDepth 100000 in
set_option maxHeartbeats 400000 in
theorem MixerTables_walk (a0 : Int) (w : World) (_ : (Lit.int .u64 a0).wf = true) :
    Calls Try.prog 3 #[.int .u64 a0] w fun e w' => e = .returned (.bool true) ∧ Below w.heap.size w w' := by
  go_enter Try.func3, Try.ntmps3
  go_wp2_with fail
  refine (table_any _ _).mono ?_
  rintro e w1 ⟨v, rfl, ho, hg⟩
  go_wp2_with fail
  refine (tabler_any _ _).mono ?_
  rintro e w2 ⟨v', rfl, ho', hg'⟩
  have hi := (tab_ints ho).grown hg'
  have hi' := tab_ints ho'
  clear ho ho'
  obtain ⟨a, cap, rfl, h1, h2, h3, h4⟩ := hi
  rcases h4 with h4 | ⟨b, off, rfl, hb, hc⟩
  · have := length_tab a0; rw [h4] at this; simp at this
  obtain ⟨a', cap', rfl, h1', h2', h3', h4'⟩ := hi'
  rcases h4' with h4' | ⟨b', off', rfl, hb', hc'⟩
  · have := length_tab a0; rw [h4'] at this; simp at this
  rw [length_tab] at *
  clear h3 h3'
  have HC := Lib.hid hc
  have HC' := Lib.hid hc'
  clear hc hc'
  go_wp2
  go_loopw [5] (fun i wr => ∃ k : Nat, k ≤ 256 ∧ i = .int .i64 k ∧ Drawn w2 wr) (fun i _ => 256 - (intOf i).toNat)
  case atStart => exact ⟨0, by omega, rfl, Drawn.refl _⟩
  case round =>
    obtain ⟨k, hk, rfl, hd⟩ := hrel
    by_cases hkl : k < 256
    · have c1 := (hd.cell _).trans (HC.out k hkl)
      have c2 := (hd.cell _).trans (HC'.out k hkl)
      go_wp2
      go_quiet (fail)
      go_wp2
      go_roundw
      case rel => exact ⟨k + 1, by omega, by go_num, hd.more nq⟩
      case measure => simp [intOf]; omega
    · go_wp2_with (go_at_call 10; refine (mix_known_any _).mono ?_; rintro e w' ⟨rfl, hg3⟩)
      go_ret
      exact ⟨rfl, below_of_grown (grown_trans (grown_trans hg hg' (by simp)) (grown_trans hd.grown hg3 (by simp)) (by simp))⟩
def hashV (l : List Int) (s : ByteArray) : Int := if l.length = 256 then hashF l s else 0
def hashE (l : List Int) : Int := if l.length = 256 then 0 else 18
theorem hash_any (s : ByteArray) (v : Value) (l : List Int) (w : World) (hv : Ints .u64 w v l) (hs : s.size ≤ 140737488355328) :
    Calls Try.prog 11 #[v, .string s] w fun e w' => e = .returned (.tuple #[.int .u64 (hashV l s), .int .i64 (hashE l)]) ∧ Drawn w w' := by
  by_cases hl : l.length = 256
  · exact (hash_big s v l w hv hl hs).mono fun e w' ⟨he, hd⟩ => ⟨by rw [he, hashV, hashE, if_pos hl, if_pos hl], hd⟩
  · exact (hash_no s v l w hv hl).mono fun e w' ⟨he, hd⟩ => ⟨by rw [he, hashV, hashE, if_neg hl, if_neg hl], hd ▸ Drawn.refl _⟩
theorem hashr_any (s : ByteArray) (v : Value) (l : List Int) (w : World) (hv : Ints .u64 w v l) (hs : s.size ≤ 140737488355328) :
    Calls Try.prog 12 #[v, .string s] w fun e w' => e = .returned (.tuple #[.int .u64 (hashV l s), .int .i64 (hashE l)]) ∧ Drawn w w' := by
  by_cases hl : l.length = 256
  · exact (hashr_big s v l w hv hl hs).mono fun e w' ⟨he, hd⟩ => ⟨by rw [he, hashV, hashE, if_pos hl, if_pos hl], hd⟩
  · exact (hashr_no s v l w hv hl).mono fun e w' ⟨he, hd⟩ => ⟨by rw [he, hashV, hashE, if_neg hl, if_neg hl], hd ▸ Drawn.refl _⟩
theorem MixerInjective_walk (a0 : Int) (a1 : Int) (w : World) (h0 : (Lit.int .u64 a0).wf = true) (h1 : (Lit.int .u64 a1).wf = true) :
    Calls Try.prog 6 #[.int .u64 a0, .int .u64 a1] w fun e w' => e = .returned (.bool true) ∧ Below w.heap.size w w' := by
  have hq : ((mixF a0 == mixF a1) == (a0 == a1)) = true := by
    by_cases h : a0 = a1
    · subst h; simp
    · have h' : mixF a0 ≠ mixF a1 := fun e => h (mixF_inj _ _ h0 h1 e)
      rw [beq_eq_false_iff_ne.2 h, beq_eq_false_iff_ne.2 h']; rfl
  clear h0 h1
  go_enter Try.func6, Try.ntmps6
  go_wp2_with (first
    | (go_at_call 13; refine (mix_any _ _).mono ?_; rintro e w' ⟨rfl, rfl⟩)
    | (go_at_call 10; refine (mix_known_any _).mono ?_; rintro e w' ⟨rfl, hg⟩))
  go_ret
  exact ⟨rfl, below_of_grown hg⟩
set_option maxRecDepth 100000 in
set_option maxHeartbeats 400000 in
theorem MixerHashes_walk (a0 : Int) (a1 : ByteArray) (w : World) (_ : (Lit.int .u64 a0).wf = true) (h1 : a1.size ≤ 140737488351232) :
    Calls Try.prog 4 #[.int .u64 a0, .string a1] w fun e w' => e = .returned (.bool true) ∧ Below w.heap.size w w' := by
  by_cases hs : a1.size ≤ 1000
  · go_enter Try.func4, Try.ntmps4
    go_wp2_with fail
    refine (table_any _ _).mono ?_
    rintro e w1 ⟨v, rfl, ho, hg⟩
    have hi := tab_ints ho
    clear ho
    go_wp2_with fail
    refine (hash_any _ _ _ _ hi (by omega)).mono ?_
    rintro e w2 ⟨rfl, hd⟩
    clear hi
    go_wp2_with fail
    refine (tabler_any _ _).mono ?_
    rintro e w3 ⟨v', rfl, ho, hg'⟩
    have hi := tab_ints ho
    clear ho
    go_wp2_with fail
    refine (hashr_any _ _ _ _ hi (by omega)).mono ?_
    rintro e w4 ⟨rfl, hd'⟩
    clear hi
    go_wp2_with (go_at_call 10; refine (mix_known_any _).mono ?_; rintro e w5 ⟨rfl, hk⟩)
    go_ret
    exact ⟨rfl, below_of_grown (grown_trans (grown_trans (grown_then_drawn hg hd) (grown_then_drawn hg' hd') (by simp)) hk (by simp))⟩
  · go_enter Try.func4, Try.ntmps4
    go_wp2_with (go_at_call 10; refine (mix_known_any _).mono ?_; rintro e w5 ⟨rfl, hk⟩)
    go_ret
    exact ⟨rfl, below_of_grown hk⟩
def mixed (t u : List Int) (k : Nat) : List Int := t.take k ++ u.drop k
theorem mixed_set (t u : List Int) (k : Nat) (ht : k < t.length) (hu : k < u.length) : (mixed t u k).set k (gI t k) = mixed t u (k + 1) := by
  unfold mixed
  rw [gI_eq ht, List.set_append_right _ _ (by rw [List.length_take]; omega), List.drop_eq_getElem_cons hu, List.take_succ_eq_append_getElem ht]
  have : k - (List.take k t).length = 0 := by rw [List.length_take]; omega
  rw [this, List.set_cons_zero, List.append_assoc, List.singleton_append]
theorem length_mixed (t u : List Int) (k : Nat) (ht : k ≤ t.length) (hu : k ≤ u.length) : (mixed t u k).length = u.length := by
  unfold mixed; simp; omega
set_option maxRecDepth 100000 in
set_option maxHeartbeats 1000000 in
theorem MixerShapes_walk (v0 : Value) (l0 : List Int) (a1 : ByteArray) (a2 : Int) (w : World) (h0 : Ints .u64 w v0 l0) (_ : l0.length * Try.prog.bytesOf 22 ≤ 140737488351232) (h1 : a1.size ≤ 140737488351232) (_ : (Lit.int .u64 a2).wf = true) :
    Calls Try.prog 5 #[v0, .string a1, .int .u64 a2] w fun e w' => e = .returned (.bool true) ∧ Below w.heap.size w w' := by
  have h0' := h0
  obtain ⟨a, cap, rfl, q1, q2, q3, q4⟩ := h0
  unfold maxLen at q2
  by_cases hl : l0.length ≤ 300
  · by_cases hs : a1.size ≤ 300
    · go_enter Try.func5, Try.ntmps5
      go_wp2_with fail
      refine (hash_any _ _ _ _ h0' (by omega)).mono ?_
      rintro e w1 ⟨rfl, d1⟩
      go_wp2_with fail
      refine (hashr_any _ _ _ _ (d1.ints h0') (by omega)).mono ?_
      rintro e w2 ⟨rfl, d2⟩
      go_wp2_with fail
      refine (tabler_any _ _).mono ?_
      rintro e w3 ⟨v, rfl, ho, hg⟩
      obtain ⟨g, cp, rfl⟩ : ∃ g cp, v = .slice (some ⟨g, 0, none⟩) 256 cp := by
        rcases ho.2 with ⟨_, h⟩ | ⟨g, cap, cur, h, _⟩
        · simp at h
        · exact ⟨g, cap, h⟩
      have d12 := d1.trans d2
      have hsz := d12.size
      have hlow := ho.lt g rfl
      have hgl : w.heap.size ≤ g := by omega
      have hcap : 256 ≤ cp ∧ cp ≤ maxLen := by
        rcases ho.2 with ⟨_, h⟩ | ⟨g', cap', cur, h, _, _, h3, h4, _⟩
        · simp at h
        · cases h; exact ⟨h3, h4⟩
      have hg0 : w.grownBy w3 none := grown_trans d12.grown hg (by simp)
      clear d1 d2 d12 hsz hlow hg
      go_wp2
      go_loopw [12] (fun i wr => ∃ k : Nat, k ≤ l0.length ∧ k ≤ 256 ∧ i = .int .i64 k ∧ wr.ownsRow w2.heap.size 22 1 (.slice (some ⟨g, 0, none⟩) 256 cp) 256 ((mixed l0 (tab a2) k).map (.int .u64)) ∧ w.grownBy wr none) (fun i _ => 256 - (intOf i).toNat)
      case atStart =>
        exact ⟨0, by omega, by omega, rfl, by simpa [mixed] using ho, hg0⟩
      case round =>
        obtain ⟨k, hk, hk', rfl, hown, hgr⟩ := hrel
        clear ho hg0
        by_cases hkl : k < l0.length ∧ k < 256
        · obtain ⟨hk1, hk2⟩ := hkl
          rcases q4 with q4 | ⟨b, off, rfl, hb, hc⟩
          · rw [q4] at hk1; simp at hk1
          have hc0 : wr.cell? ⟨b, off + k, none⟩ = some (.int .u64 (gI l0 k)) := (World.cell?_of_block (w := w) (hgr.block b hb (by simp))).trans (hc k hk1)
          obtain ⟨u, hcell⟩ : ∃ u, wr.cell? ⟨g, k, none⟩ = some u := by
            rw [hown.cellAt k (by omega)]; exact ⟨_, List.getElem?_eq_getElem (by rw [List.length_map, length_mixed _ _ _ hk (by rw [length_tab]; omega), length_tab]; omega)⟩
          have hfz := hown.frozenAt k
          clear hc
          go_wp2
          go_roundw
          case rel =>
            have hst := hown.stored k (.int .u64 (gI l0 k))
            refine ⟨k + 1, by omega, by omega, by go_num, ?_, grown_trans hgr hst.2 (by intro j hj; cases hj; exact hgl)⟩
            rw [← mixed_set _ _ _ hk1 (by rw [length_tab]; omega), List.map_set]
            exact hst.1
          case measure => simp [intOf]; omega
        · have hI : Ints .u64 wr (.slice (some ⟨g, 0, none⟩) 256 cp) (mixed l0 (tab a2) k) := by
            have hlen : (mixed l0 (tab a2) k).length = 256 := by rw [length_mixed _ _ _ hk (by rw [length_tab]; omega), length_tab]
            refine ints_of_own (by rw [hlen]; exact hown) ?_
            intro n hn
            unfold mixed at hn
            rcases List.mem_append.1 hn with h | h
            · exact q3 n (List.mem_of_mem_take h)
            · exact wf_tab _ n (List.mem_of_mem_drop h)
          clear hown
          by_cases hk1 : k < l0.length
          all_goals
            clear q4
            go_wp2_with fail
            refine (hash_any _ _ _ _ hI (by omega)).mono ?_
            rintro e w4 ⟨rfl, d4⟩
            have hI' := d4.ints hI
            clear hI
            go_wp2_with fail
            refine (hashr_any _ _ _ _ hI' (by omega)).mono ?_
            rintro e w5 ⟨rfl, d5⟩
            clear hI'
            go_wp2_with (go_at_call 10; refine (mix_known_any _).mono ?_; rintro e w5 ⟨rfl, hk⟩)
            go_ret
            exact ⟨rfl, below_of_grown (grown_trans (grown_then_drawn (grown_then_drawn hgr d4) d5) hk (by simp))⟩
    · clear q4 h0'
      go_enter Try.func5, Try.ntmps5
      go_wp2_with (go_at_call 10; refine (mix_known_any _).mono ?_; rintro e w5 ⟨rfl, hk⟩)
      go_ret
      exact ⟨rfl, below_of_grown hk⟩
  · clear q4 h0'
    go_enter Try.func5, Try.ntmps5
    go_wp2_with (go_at_call 10; refine (mix_known_any _).mono ?_; rintro e w5 ⟨rfl, hk⟩)
    go_ret
    exact ⟨rfl, below_of_grown hk⟩
end Go.Proofs.Ytcdfbfeeemaafaa
