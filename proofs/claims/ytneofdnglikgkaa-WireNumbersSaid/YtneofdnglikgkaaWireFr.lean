/- The walks of Checksum, Frame, Unframe. No condition. -/
import Derived.Test.YtneofdnglikgkaaWireEnc
import Derived.Test.YtneofdnglikgkaaWireDec
namespace Go.Proofs.Ytneofdnglikgkaa
open Go.RowKit Go.ChangeShapes Go.WideShapes
set_option linter.unusedVariables false
set_option linter.unusedSimpArgs false
set_option maxRecDepth 100000 in
set_option maxHeartbeats 400000 in
theorem chk_any (v : Value) (l : List Int) (w : World) (hv : Ints .u8 w v l) :
    Calls Try.prog 27 #[v] w fun e w' => e = .returned (.int .u32 (chk l)) ∧ w = w' := by
  obtain ⟨a, cap, rfl, h1, h2, h3, h4⟩ := hv
  unfold maxLen at h2
  go_enter Try.func27, Try.ntmps27
  go_wp2
  go_loop [3, 4, 9] (fun u v i => ∃ j : Nat, j ≤ l.length ∧ i = .int .i64 j ∧ u = .int .u32 (chkP (l.take j)).1 ∧ v = .int .u32 (chkP (l.take j)).2) (fun _ _ i => l.length - (intOf i).toNat)
  case atStart => exact ⟨0, by omega, rfl, rfl, rfl⟩
  case round =>
    obtain ⟨j, hj, rfl, rfl, rfl⟩ := hrel
    have hr := chkP_range (l.take j)
    by_cases hlt : j < l.length
    · rcases h4 with rfl | ⟨b, off, rfl, hb, hc⟩
      · simp at hlt
      have hcj := hc j hlt
      have hgj := gI_u8 h3 j
      have hsn : chkP (l.take (j + 1)) = chkS (chkP (l.take j)) (gI l j) := by
        rw [take_succ_gI hlt, chkP_snoc]
      have HS := Lib.hid hsn
      clear hc hsn
      generalize chkP (l.take j) = p at *
      obtain ⟨p1, p2⟩ := p
      dsimp only at hr
      go_wp2
      go_round
      case rel => exact ⟨j + 1, by omega, by go_num, by rw [HS.out]; rfl, by rw [HS.out]; rfl⟩
      case measure => simp [intOf]; omega
    · have hjl : j = l.length := by omega
      subst hjl
      clear h4
      rw [List.take_length] at *
      have hx : Hid (chk l = (chkP l).2 * 65536 + (chkP l).1) := rfl
      generalize chkP l = p at *
      obtain ⟨p1, p2⟩ := p
      dsimp only at hr
      go_wp2
      go_ret
      rw [hx.out]
      exact ⟨rfl, rfl⟩
set_option maxRecDepth 100000 in
set_option maxHeartbeats 400000 in
theorem chkr_any (v : Value) (l : List Int) (w : World) (hv : Ints .u8 w v l) :
    Calls Try.prog 28 #[v] w fun e w' => e = .returned (.int .u32 (chk l)) ∧ w = w' := by
  obtain ⟨a, cap, rfl, h1, h2, h3, h4⟩ := hv
  unfold maxLen at h2
  go_enter Try.func28, Try.ntmps28
  go_wp2
  go_loop [3, 4, 5] (fun u v i => ∃ j : Nat, j ≤ l.length ∧ i = .int .i64 j ∧ u = .int .u32 (chkP (l.take j)).1 ∧ v = .int .u32 (chkP (l.take j)).2) (fun _ _ i => l.length - (intOf i).toNat)
  case atStart => exact ⟨0, by omega, rfl, rfl, rfl⟩
  case round =>
    obtain ⟨j, hj, rfl, rfl, rfl⟩ := hrel
    have hr := chkP_range (l.take j)
    by_cases hlt : j < l.length
    · rcases h4 with rfl | ⟨b, off, rfl, hb, hc⟩
      · simp at hlt
      have hcj := hc j hlt
      have hgj := gI_u8 h3 j
      have hsn : chkP (l.take (j + 1)) = chkS (chkP (l.take j)) (gI l j) := by
        rw [take_succ_gI hlt, chkP_snoc]
      have HS := Lib.hid hsn
      clear hc hsn
      generalize chkP (l.take j) = p at *
      obtain ⟨p1, p2⟩ := p
      dsimp only at hr
      go_wp2
      go_round
      case rel => exact ⟨j + 1, by omega, by go_num, by rw [HS.out]; rfl, by rw [HS.out]; rfl⟩
      case measure => simp [intOf]; omega
    · have hjl : j = l.length := by omega
      subst hjl
      clear h4
      rw [List.take_length] at *
      have hx : Hid (chk l = (chkP l).2 * 65536 + (chkP l).1) := rfl
      generalize chkP l = p at *
      obtain ⟨p1, p2⟩ := p
      dsimp only at hr
      go_wp2
      go_ret
      rw [hx.out]
      exact ⟨rfl, rfl⟩
theorem int_eq {k : IntKind} {a b : Int} (h : a = b) : Value.int k a = .int k b := by rw [h]
set_option maxRecDepth 100000 in
set_option maxHeartbeats 800000 in
theorem frame_any (tag : Int) (v : Value) (l : List Int) (w : World) (ht : (Lit.int .u8 tag).wf = true) (hv : Ints .u8 w v l) :
    Calls Try.prog 17 #[.int .u8 tag, v] w fun e w' => ∃ v', e = .returned (.tuple #[v', .int .i64 (frameE l)]) ∧
      w'.ownsRow w.heap.size 5 1 v' (frameL tag l).length ((frameL tag l).map (.int .u8)) ∧ w.grownBy w' none := by
  have hv' := hv
  obtain ⟨a, cap, rfl, h1, h2, h3, h4⟩ := hv
  clear h4
  unfold maxLen at h2
  by_cases hb : l.length ≤ 1048576
  · have hE : frameE l = 0 := by unfold frameE; rw [if_neg (by omega)]
    have hL : frameL tag l = headL tag l ++ beB 4 (chk (headL tag l)) := by unfold frameL; rw [if_neg (by omega)]
    have hn : encL (l.length : Int) = encU l.length := by unfold encL; rw [if_neg (by omega)]
    have hwf := wf_headL tag l ht h3
    have h9 := length_encU l.length
    have hX := chk_range (headL tag l)
    have hlen := length_headL tag l
    rw [hE]
    clear hE
    have HL := Lib.hid hL
    have HN := Lib.hid hn
    have HW := Lib.hid hwf
    have HLen := Lib.hid hlen
    have hl2 : (headL tag l).length ≤ 2000000 := by omega
    have ht' := bounds_u8 ht
    clear hL hn hwf hlen h3
    go_enter Try.func17, Try.ntmps17
    go_wp2_with fail
    refine (encUint_any _ _).mono ?_
    rintro e w1 ⟨v1, rfl, ho, hg⟩
    rw [HN.out] at ho
    have hsz := hg.size
    go_wp2_with (at_builtin; refine wpList_appS _ rfl _ _ 24 24 rfl w.heap.size 5 (.int .u8 0) 1 1 Try.underlying24 Try.infoU8 rfl (by decide) _ _ _ _ _ _ (own_litB w1 _ _ hsz) rfl rfl (own_src (ho.alloc _) (ints_oneCell _ _) Try.underlying24) (by unfold maxLen; omega) (by omega) (by simp; omega) ?_)
    intro v2 w2 ho2 hg2 _
    have hg2' := grown_own (hg.trans' (grown_alloc w1 _)) (own_litB w1 _ _ hsz) hg2
    have hsz2 := hg2'.size
    clear ho hg2 hg hsz
    go_wp2_with (at_builtin; refine wpList_appS _ rfl _ _ 24 24 rfl w.heap.size 5 (.int .u8 0) 1 1 Try.underlying24 Try.infoU8 rfl (by decide) _ _ _ _ _ _ ho2 rfl rfl ((hv'.grown hg2').src Try.underlying24) (by unfold maxLen; omega) (by omega) hsz2 ?_)
    intro v3 w3 ho3 hg3 _
    have hg3' := grown_own hg2' ho2 hg3
    have ho3' : w3.ownsRow w.heap.size 5 1 v3 (headL tag l).length ((headL tag l).map (.int .u8)) := by
      rw [HLen.out]; unfold headL; simpa using ho3
    have hI := ints_of_own ho3' HW.out
    have hsz3 := hg3'.size
    clear ho2 hg3 hg2' hsz2 ho3 hv'
    go_wp2_with fail
    refine (chk_any _ _ _ hI).mono ?_
    rintro e w4 ⟨rfl, rfl⟩
    clear hI
    obtain ⟨X, hXX⟩ : ∃ X, X = chk (headL tag l) := ⟨_, rfl⟩
    rw [← hXX] at hX HL ⊢
    clear hXX
    go_wp2_with (at_builtin; refine wpList_appS _ rfl _ _ 24 24 rfl w.heap.size 5 (.int .u8 0) 1 1 Try.underlying24 Try.infoU8 rfl (by decide) _ _ _ _ _ _ (ho3'.alloc _) rfl rfl (own_src (own_lit4 _ _ _ _ _ _) (by simp [Value.oneCell']) Try.underlying24) (by unfold maxLen; omega) (by omega) (by simp; omega) ?_)
    intro v5 w5 ho5 hg5 _
    have hg5' := grown_own (hg3'.trans' (grown_alloc w3 _)) (ho3'.alloc _) hg5
    go_wp2
    go_ret2
    refine ⟨_, rfl, ?_, hg5'⟩
    rw [HL.out, List.map_append, List.length_append, length_beB, beB4 hX.1 hX.2]
    exact ho5
  · have hE : frameE l = 11 := by unfold frameE; rw [if_pos (by omega)]
    have hL : frameL tag l = [] := by unfold frameL; rw [if_pos (by omega)]
    rw [hE, hL]
    clear hE hL
    go_enter Try.func17, Try.ntmps17
    go_wp2
    go_ret2
    exact ⟨_, rfl, World.ownsRow_nil _ _ _ _, grown_refl _⟩
set_option maxRecDepth 100000 in
set_option maxHeartbeats 800000 in
theorem framer_any (tag : Int) (v : Value) (l : List Int) (w : World) (ht : (Lit.int .u8 tag).wf = true) (hv : Ints .u8 w v l) :
    Calls Try.prog 24 #[.int .u8 tag, v] w fun e w' => ∃ v', e = .returned (.tuple #[v', .int .i64 (frameE l)]) ∧
      w'.ownsRow w.heap.size 5 1 v' (frameL tag l).length ((frameL tag l).map (.int .u8)) ∧ w.grownBy w' none := by
  have hv' := hv
  obtain ⟨a, cap, rfl, h1, h2, h3, h4⟩ := hv
  clear h4
  unfold maxLen at h2
  by_cases hb : l.length ≤ 1048576
  · have hE : frameE l = 0 := by unfold frameE; rw [if_neg (by omega)]
    have hL : frameL tag l = headL tag l ++ beB 4 (chk (headL tag l)) := by unfold frameL; rw [if_neg (by omega)]
    have hwf := wf_headL tag l ht h3
    have h9 := length_encU l.length
    have hX := chk_range (headL tag l)
    have hlen := length_headL tag l
    rw [hE]
    clear hE
    have HL := Lib.hid hL
    have HW := Lib.hid hwf
    have HLen := Lib.hid hlen
    have hl2 : (headL tag l).length ≤ 2000000 := by omega
    have ht' := bounds_u8 ht
    clear hL hwf hlen h3
    go_enter Try.func24, Try.ntmps24
    go_wp2_with fail
    refine (uint_any _ _ (by omega) (by omega)).mono ?_
    rintro e w1 ⟨v1, rfl, ho, hg⟩
    have hlit := own_keep (own_litB w _ (.int .u8 tag) (Nat.le_refl _)) hg
    have hg0 := (grown_alloc w _).trans' hg
    have hsz := hg0.size
    go_wp2_with (at_builtin; refine wpList_appS _ rfl _ _ 24 24 rfl w.heap.size 5 (.int .u8 0) 1 1 Try.underlying24 Try.infoU8 rfl (by decide) _ _ _ _ _ _ hlit rfl rfl (own_src ho (ints_oneCell _ _) Try.underlying24) (by unfold maxLen; omega) (by omega) hsz ?_)
    intro v2 w2 ho2 hg2 _
    have hg2' := grown_own hg0 hlit hg2
    have hsz2 := hg2'.size
    clear ho hg2 hg hsz hlit hg0
    go_wp2_with (at_builtin; refine wpList_appS _ rfl _ _ 24 24 rfl w.heap.size 5 (.int .u8 0) 1 1 Try.underlying24 Try.infoU8 rfl (by decide) _ _ _ _ _ _ ho2 rfl rfl ((hv'.grown hg2').src Try.underlying24) (by unfold maxLen; omega) (by omega) hsz2 ?_)
    intro v3 w3 ho3 hg3 _
    have hg3' := grown_own hg2' ho2 hg3
    have ho3' : w3.ownsRow w.heap.size 5 1 v3 (headL tag l).length ((headL tag l).map (.int .u8)) := by
      rw [HLen.out]; unfold headL; simpa using ho3
    have hI := ints_of_own ho3' HW.out
    have hsz3 := hg3'.size
    clear ho2 hg3 hg2' hsz2 ho3 hv'
    go_wp2_with fail
    refine (chkr_any _ _ _ hI).mono ?_
    rintro e w4 ⟨rfl, rfl⟩
    clear hI
    obtain ⟨X, hXX⟩ : ∃ X, X = chk (headL tag l) := ⟨_, rfl⟩
    rw [← hXX] at hX HL ⊢
    clear hXX
    go_wp2_with (at_builtin; refine wpList_appS _ rfl _ _ 24 24 rfl w.heap.size 5 (.int .u8 0) 1 1 Try.underlying24 Try.infoU8 rfl (by decide) _ _ _ _ _ _ (ho3'.alloc _) rfl rfl (own_src (own_lit4 _ _ _ _ _ _) (by simp [Value.oneCell']) Try.underlying24) (by unfold maxLen; omega) (by omega) (by simp; omega) ?_)
    intro v5 w5 ho5 hg5 _
    have hg5' := grown_own (hg3'.trans' (grown_alloc w3 _)) (ho3'.alloc _) hg5
    go_wp2
    go_ret2
    refine ⟨_, rfl, ?_, hg5'⟩
    rw [HL.out, List.map_append, List.length_append, length_beB, beB4 hX.1 hX.2]
    exact ho5
  · have hE : frameE l = 11 := by unfold frameE; rw [if_pos (by omega)]
    have hL : frameL tag l = [] := by unfold frameL; rw [if_pos (by omega)]
    rw [hE, hL]
    clear hE hL
    go_enter Try.func24, Try.ntmps24
    go_wp2
    go_ret2
    exact ⟨_, rfl, World.ownsRow_nil _ _ _ _, grown_refl _⟩
end Go.Proofs.Ytneofdnglikgkaa
