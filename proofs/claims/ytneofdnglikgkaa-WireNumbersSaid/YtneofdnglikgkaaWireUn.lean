/- The walks of Unframe. No condition. -/
import Derived.Test.YtneofdnglikgkaaWireFr
import Derived.Test.YtneofdnglikgkaaWireLaw
namespace Go.Proofs.Ytneofdnglikgkaa
open Go.RowKit Go.ChangeShapes Go.WideShapes
set_option linter.unusedVariables false
set_option linter.unusedSimpArgs false
/-- What Unframe's contract says. -/
def UnfPost (l : List Int) (r : Int × List Int × Int × Int) (w : World) (e : Ending) (w' : World) : Prop :=
  ∃ v, e = .returned (.tuple #[.int .u8 r.1, v, .int .i64 r.2.2.1, .int .i64 r.2.2.2]) ∧ w'.ownsRow w.heap.size 5 1 v r.2.1.length (r.2.1.map (.int .u8)) ∧ w.grownBy w' none
theorem unfPost_err (l : List Int) (w : World) (c : Int) : UnfPost l (0, [], 0, c) w (.returned (.tuple #[.int .u8 0, .slice none 0 0, .int .i64 0, .int .i64 c])) w :=
  ⟨_, rfl, World.ownsRow_nil _ _ _ _, grown_refl _⟩
set_option maxRecDepth 100000 in
set_option maxHeartbeats 1600000 in
theorem unf_any (v : Value) (l : List Int) (w : World) (hv : Ints .u8 w v l) :
    Calls Try.prog 25 #[v] w (UnfPost l (unf l) w) := by
  obtain ⟨a, cap, rfl, h1, h2, h3, h4⟩ := hv
  have h2' := h2
  unfold maxLen at h2
  by_cases hl0 : l = []
  · subst hl0
    clear h4
    go_enter Try.func25, Try.ntmps25
    go_wp2
    refine bodyPost_ret (results_tmp4 rfl _ _ _) rfl ?_
    exact unfPost_err _ _ _
  · have hu : unf l = unfR l (decU l.tail) := by unfold unf; rw [if_neg hl0]
    rcases h4 with h4 | ⟨b, off, rfl, hb, hc⟩
    · exact absurd h4 hl0
    have hlen : 0 < l.length := List.length_pos_iff.2 hl0
    have hne : ((l.length : Int) == 0) = false := beq_eq_false_iff_ne.2 (by omega)
    have hwt : ∀ n ∈ l.tail, (Lit.int .u8 n).wf = true := fun n hn => h3 n (List.mem_of_mem_tail hn)
    obtain ⟨n, k, e, hd⟩ : ∃ n k e, decU l.tail = (n, k, e) := ⟨_, _, _, rfl⟩
    rw [hu, hd]
    clear hu
    have HL0 := Lib.hid hl0
    clear hl0
    by_cases hcap : cap = 1
    · have hl1 : l.length = 1 := by omega
      have ht : l.tail = [] := List.eq_nil_of_length_eq_zero (by rw [List.length_tail]; omega)
      rw [ht] at hd
      have hd' : (n, k, e) = ((0 : Int), (0 : Int), (3 : Int)) := by rw [← hd]; rfl
      simp only [Prod.mk.injEq] at hd'
      obtain ⟨rfl, rfl, rfl⟩ := hd'
      subst hcap
      have hC := decUint_any _ _ w (ints_empty .u8 w (some ⟨b, off, none⟩) 0 (by unfold maxLen; omega))
      have e0 : decU [] = (0, 0, 3) := rfl
      rw [e0] at hC
      simp only [tri] at hC
      have HC := Lib.hid hC
      have hr : Hid (unfR l (0, 0, 3) = (0, [], 0, 3)) := rfl
      rw [hl1] at hne ⊢
      clear hC hd ht e0 hc h1 h3 hlen hl1
      go_enter Try.func25, Try.ntmps25
      go_wp2_with (go_at_call 18; refine HC.out.mono ?_; rintro e w' ⟨rfl, rfl⟩)
      refine bodyPost_ret (results_tmp4 rfl _ _ _) rfl ?_
      rw [hr.out]
      exact unfPost_err _ _ _
    · have hI : Ints .u8 w (.slice (some ⟨b, off + 1, none⟩) (l.length - 1) (cap - 1)) l.tail := by
        have := ints_sub h3 hb hc 1 (l.length - 1) (cap - 1) (by omega) (by omega) (by unfold maxLen; omega)
        rwa [List.drop_one, List.take_of_length_le (by rw [List.length_tail]; omega)] at this
      have hC := decUint_any _ _ w hI
      rw [hd] at hC
      simp only [tri] at hC
      have HC := Lib.hid hC
      clear hC
      by_cases he : e = 0
      · subst he
        obtain ⟨hn0, hn1, hk1, hk9, hkl, hl0⟩ := decU_ok hwt hd
        rw [List.length_tail] at hkl
        clear hd
        obtain ⟨N, rfl⟩ := Int.eq_ofNat_of_zero_le hn0
        obtain ⟨K, rfl⟩ := Int.eq_ofNat_of_zero_le (show 0 ≤ k by omega)
        by_cases hN : (N : Int) > 1048576
        · have hr : Hid (unfR l ((N : Int), (K : Int), 0) = (0, [], 0, 2)) := by show _ = _; simp only [unfR]; rw [if_neg (by decide), if_pos hN]
          clear hc
          go_enter Try.func25, Try.ntmps25
          go_wp2_with (go_at_call 18; refine HC.out.mono ?_; rintro e w' ⟨rfl, rfl⟩)
          refine bodyPost_ret (results_tmp4 rfl _ _ _) rfl ?_
          rw [hr.out]
          exact unfPost_err _ _ _
        · by_cases hS : (l.length : Int) < 1 + K + N + 4
          · have hr : Hid (unfR l ((N : Int), (K : Int), 0) = (0, [], 0, 3)) := by show _ = _; simp only [unfR]; rw [if_neg (by decide), if_neg hN, if_pos hS]
            clear hc
            go_enter Try.func25, Try.ntmps25
            go_wp2_with (go_at_call 18; refine HC.out.mono ?_; rintro e w' ⟨rfl, rfl⟩)
            refine bodyPost_ret (results_tmp4 rfl _ _ _) rfl ?_
            rw [hr.out]
            exact unfPost_err _ _ _
          · have hd : unfR l ((N : Int), (K : Int), 0) = if beV ((l.drop (1 + K + N)).take 4) ≠ chk (l.take (1 + K + N)) then (0, [], 0, 4) else (gI l 0, (l.drop (1 + K)).take N, 1 + (K : Int) + N + 4, 0) := by
              simp only [unfR, Int.toNat_natCast]; rw [if_neg (by decide), if_neg hN, if_neg hS]
            have HD := Lib.hid hd
            clear hd
            have hI2 : Ints .u8 w (.slice (some ⟨b, off, none⟩) (1 + K + N) cap) (l.take (1 + K + N)) := by
              have := ints_sub h3 hb hc 0 (1 + K + N) cap (by omega) (by omega) h2'
              simpa using this
            have hI3 : Ints .u8 w (.slice (some ⟨b, off + (1 + K), none⟩) N (cap - (1 + K))) ((l.drop (1 + K)).take N) := ints_sub h3 hb hc (1 + K) N (cap - (1 + K)) (by omega) (by omega) (by unfold maxLen; omega)
            have c0 : w.cell? ⟨b, off, none⟩ = some (.int .u8 (gI l 0)) := hc 0 hlen
            go_enter Try.func25, Try.ntmps25
            go_wp2_with (go_at_call 18; refine HC.out.mono ?_; rintro e w' ⟨rfl, rfl⟩)
            go_loop [9, 48] (fun x i => ∃ j : Nat, j ≤ 4 ∧ i = .int .i64 j ∧ x = .int .u32 (beV ((l.drop (1 + K + N)).take j))) (fun _ i => 4 - (intOf i).toNat)
            case atStart => exact ⟨0, by omega, rfl, rfl⟩
            case round =>
              obtain ⟨j, hj, rfl, rfl⟩ := hrel
              have hwd : ∀ n ∈ l.drop (1 + K + N), (Lit.int .u8 n).wf = true := fun n hn => h3 n (List.mem_of_mem_drop hn)
              by_cases hlt : j < 4
              · have hb2 := beV_take3 (l.drop (1 + K + N)) hwd j hlt
                have hcj : w.cell? ⟨b, off + (1 + K + N) + j, none⟩ = some (.int .u8 (gI l (1 + K + N + j))) := by rw [Nat.add_assoc off]; exact hc (1 + K + N + j) (by omega)
                have hgj := gI_u8 h3 (1 + K + N + j)
                have hst := beV32_step hb2.1 hb2.2 hgj.1 hgj.2
                have hsn : Hid (beV ((l.drop (1 + K + N)).take (j + 1)) = beV ((l.drop (1 + K + N)).take j) * 256 + gI l (1 + K + N + j)) := by
                  show _ = _
                  rw [take_succ_gI (by rw [List.length_drop]; omega), beV_snoc, gI_drop]
                clear hc hwd
                generalize beV ((l.drop (1 + K + N)).take j) = X at *
                go_wp2
                go_round
                case rel => exact ⟨j + 1, by omega, by go_num, by rw [hsn.out]⟩
                case measure => simp [intOf]; omega
              · have hj4 : j = 4 := by omega
                subst hj4
                clear hc hwd hcap
                generalize beV ((l.drop (1 + K + N)).take 4) = X at *
                by_cases hX : X = chk (l.take (1 + K + N))
                · have hr : Hid (unfR l ((N : Int), (K : Int), 0) = (gI l 0, (l.drop (1 + K)).take N, 1 + (K : Int) + N + 4, 0)) := by show _ = _; rw [HD.out, if_neg (by simpa using hX)]
                  have hne2 : (X != chk (l.take (1 + K + N))) = false := by rw [bne_eq_false_iff_eq]; exact hX
                  clear hX HD
                  go_wp2_with (go_at_call 27; refine (chk_any _ _ _ hI2).mono ?_; rintro e w' ⟨rfl, rfl⟩)
                  have e1 : IntKind.i64.wrap (1 + (K : Int)) = 1 + (K : Int) := IntWalk.i64_in _ (by omega)
                  have e2 : IntKind.i64.wrap (1 + (K : Int) + N + 4) = 1 + (K : Int) + N + 4 := IntWalk.i64_in _ (by omega)
                  have f0 : 0 ≤ 1 + (K : Int) + N := by omega
                  have f1 : 1 + (K : Int) + N ≤ cap := by omega
                  have f2 : 0 ≤ 1 + (K : Int) := by omega
                  have f3 : max (1 + (K : Int) + N) 0 = 1 + (K : Int) + N := by omega
                  have f4 : 1 + (K : Int) ≤ 1 + (K : Int) + N := by omega
                  have f5 : (1 + (K : Int) + N).toNat = 1 + K + N := by omega
                  have f6 : (1 + (K : Int)).toNat = 1 + K := by omega
                  have f7 : (cap = 1 + K) = False := by simp; omega
                  have hlN : ((l.drop (1 + K)).take N).length = N := by rw [List.length_take, List.length_drop]; omega
                  have hsrc := (hI3.grown ((grown_alloc w (.cells #[] 5)).trans' (grown_drew1 _))).src (P := Try.prog) Try.underlying24
                  rw [hlN] at hsrc
                  have hlit := (own_lit0 w 5 (Nat.le_refl _)).drew
                  go_region_held3 (fun w' => w'.cell? ⟨b, off, none⟩ = some (.int .u8 (gI l 0)))
                    (first
                      | go_keep
                      | (rw [hg5.cell_far _ (by simp; omega) (by simp [Value.ownBlock]; omega)]; go_keep))
                    ((refine step_appS _ (by rfl) _ _ 24 24 (by rfl) w.heap.size 5 (.int .u8 0) 1 1 Try.underlying24 Try.infoU8 rfl (by decide) _ _ 0 N [] (((l.drop (1 + K)).take N).map (.int .u8)) hlit (by rfl) (by rfl) hsrc (by unfold maxLen; omega) (by omega) (by simp) ?_; intro v5 w5 ho5 hg5 _))
                  have hg6 := grown_own ((grown_alloc w (.cells #[] 5)).trans' (grown_drew1 _)) hlit hg5
                  clear hg5 hlit hsrc e1 e2 f0 f1 f2 f3 f4 f5 f6 f7
                  go_wp2
                  refine bodyPost_ret (results_tmp4 rfl _ _ _) rfl ?_
                  rw [hr.out]
                  refine ⟨v5, rfl, ?_, hg6⟩
                  rw [hlN]
                  simpa using ho5
                · have hr : Hid (unfR l ((N : Int), (K : Int), 0) = (0, [], 0, 4)) := by show _ = _; rw [HD.out, if_pos hX]
                  have hne2 : (X != chk (l.take (1 + K + N))) = true := by rw [bne_iff_ne]; exact hX
                  clear hX HD
                  go_wp2_with (go_at_call 27; refine (chk_any _ _ _ hI2).mono ?_; rintro e w' ⟨rfl, rfl⟩)
                  refine bodyPost_ret (results_tmp4 rfl _ _ _) rfl ?_
                  rw [hr.out]
                  exact unfPost_err _ _ _
      · have hr : Hid (unfR l (n, k, e) = (0, [], 0, e)) := by show _ = _; simp only [unfR]; rw [if_pos he]
        have hb : (e != 0) = true := by rw [bne_iff_ne]; exact he
        clear hd he hc
        go_enter Try.func25, Try.ntmps25
        go_wp2_with (go_at_call 18; refine HC.out.mono ?_; rintro e w' ⟨rfl, rfl⟩)
        refine bodyPost_ret (results_tmp4 rfl _ _ _) rfl ?_
        rw [hr.out]
        exact unfPost_err _ _ _
set_option maxRecDepth 100000 in
set_option maxHeartbeats 1600000 in
theorem unfr_any (v : Value) (l : List Int) (w : World) (hv : Ints .u8 w v l) :
    Calls Try.prog 26 #[v] w (UnfPost l (unf l) w) := by
  obtain ⟨a, cap, rfl, h1, h2, h3, h4⟩ := hv
  have h2' := h2
  unfold maxLen at h2
  by_cases hl0 : l = []
  · subst hl0
    clear h4
    go_enter Try.func26, Try.ntmps26
    go_wp2
    refine bodyPost_ret (results_tmp4 rfl _ _ _) rfl ?_
    exact unfPost_err _ _ _
  · have hu : unf l = unfR l (decU l.tail) := by unfold unf; rw [if_neg hl0]
    rcases h4 with h4 | ⟨b, off, rfl, hb, hc⟩
    · exact absurd h4 hl0
    have hlen : 0 < l.length := List.length_pos_iff.2 hl0
    have hne : ((l.length : Int) == 0) = false := beq_eq_false_iff_ne.2 (by omega)
    have hwt : ∀ n ∈ l.tail, (Lit.int .u8 n).wf = true := fun n hn => h3 n (List.mem_of_mem_tail hn)
    obtain ⟨n, k, e, hd⟩ : ∃ n k e, decU l.tail = (n, k, e) := ⟨_, _, _, rfl⟩
    rw [hu, hd]
    clear hu
    have HL0 := Lib.hid hl0
    clear hl0
    by_cases hcap : cap = 1
    · have hl1 : l.length = 1 := by omega
      have ht : l.tail = [] := List.eq_nil_of_length_eq_zero (by rw [List.length_tail]; omega)
      rw [ht] at hd
      have hd' : (n, k, e) = ((0 : Int), (0 : Int), (3 : Int)) := by rw [← hd]; rfl
      simp only [Prod.mk.injEq] at hd'
      obtain ⟨rfl, rfl, rfl⟩ := hd'
      subst hcap
      have hC := decUintr_any _ _ w (ints_empty .u8 w (some ⟨b, off, none⟩) 0 (by unfold maxLen; omega))
      have e0 : decU [] = (0, 0, 3) := rfl
      rw [e0] at hC
      simp only [tri] at hC
      have HC := Lib.hid hC
      have hr : Hid (unfR l (0, 0, 3) = (0, [], 0, 3)) := rfl
      rw [hl1] at hne ⊢
      clear hC hd ht e0 hc h1 h3 hlen hl1
      go_enter Try.func26, Try.ntmps26
      go_wp2_with (go_at_call 20; refine HC.out.mono ?_; rintro e w' ⟨rfl, rfl⟩)
      refine bodyPost_ret (results_tmp4 rfl _ _ _) rfl ?_
      rw [hr.out]
      exact unfPost_err _ _ _
    · have hI : Ints .u8 w (.slice (some ⟨b, off + 1, none⟩) (l.length - 1) (cap - 1)) l.tail := by
        have := ints_sub h3 hb hc 1 (l.length - 1) (cap - 1) (by omega) (by omega) (by unfold maxLen; omega)
        rwa [List.drop_one, List.take_of_length_le (by rw [List.length_tail]; omega)] at this
      have hC := decUintr_any _ _ w hI
      rw [hd] at hC
      simp only [tri] at hC
      have HC := Lib.hid hC
      clear hC
      by_cases he : e = 0
      · subst he
        obtain ⟨hn0, hn1, hk1, hk9, hkl, hl0⟩ := decU_ok hwt hd
        rw [List.length_tail] at hkl
        have hcan := decU_canon hwt hd
        clear hd
        obtain ⟨N, rfl⟩ := Int.eq_ofNat_of_zero_le hn0
        obtain ⟨K, rfl⟩ := Int.eq_ofNat_of_zero_le (show 0 ≤ k by omega)
        rw [Int.toNat_natCast] at hcan
        by_cases hN : (N : Int) > 1048576
        · have hr : Hid (unfR l ((N : Int), (K : Int), 0) = (0, [], 0, 2)) := by show _ = _; simp only [unfR]; rw [if_neg (by decide), if_pos hN]
          clear hc hcan
          go_enter Try.func26, Try.ntmps26
          go_wp2_with (go_at_call 20; refine HC.out.mono ?_; rintro e w' ⟨rfl, rfl⟩)
          refine bodyPost_ret (results_tmp4 rfl _ _ _) rfl ?_
          rw [hr.out]
          exact unfPost_err _ _ _
        · by_cases hS : (l.length : Int) < 1 + K + N + 4
          · have hr : Hid (unfR l ((N : Int), (K : Int), 0) = (0, [], 0, 3)) := by show _ = _; simp only [unfR]; rw [if_neg (by decide), if_neg hN, if_pos hS]
            clear hc hcan
            go_enter Try.func26, Try.ntmps26
            go_wp2_with (go_at_call 20; refine HC.out.mono ?_; rintro e w' ⟨rfl, rfl⟩)
            refine bodyPost_ret (results_tmp4 rfl _ _ _) rfl ?_
            rw [hr.out]
            exact unfPost_err _ _ _
          · have hd : unfR l ((N : Int), (K : Int), 0) = if beV ((l.drop (1 + K + N)).take 4) ≠ chk (l.take (1 + K + N)) then (0, [], 0, 4) else (gI l 0, (l.drop (1 + K)).take N, 1 + (K : Int) + N + 4, 0) := by
              simp only [unfR, Int.toNat_natCast]; rw [if_neg (by decide), if_neg hN, if_neg hS]
            have HD := Lib.hid hd
            clear hd
            have hI3 : Ints .u8 w (.slice (some ⟨b, off + (1 + K), none⟩) N (cap - (1 + K))) ((l.drop (1 + K)).take N) := ints_sub h3 hb hc (1 + K) N (cap - (1 + K)) (by omega) (by omega) (by unfold maxLen; omega)
            have c0 : w.cell? ⟨b, off, none⟩ = some (.int .u8 (gI l 0)) := hc 0 hlen
            have ht0 : (Lit.int .u8 (gI l 0)).wf = true := h3 _ (gI_mem hlen)
            have hbl : ((l.drop (1 + K)).take N).length = N := by rw [List.length_take, List.length_drop]; omega
            have hF := unframe_head hwt hcan hlen (show 1 + K + N ≤ l.length by omega)
            have hfl : frameL (gI l 0) ((l.drop (1 + K)).take N) = l.take (1 + K + N) ++ beB 4 (chk (l.take (1 + K + N))) := by unfold frameL; rw [if_neg (by omega), hF]
            have hfe : frameE ((l.drop (1 + K)).take N) = 0 := by unfold frameE; rw [if_neg (by omega)]
            have hsm := sum_same h3 (show 1 + K + N + 4 ≤ l.length by omega)
            have hX := chk_range (l.take (1 + K + N))
            have hsrc : Src Try.prog 1 24 (.slice (some ⟨b, off + (1 + K), none⟩) (1 + K + N - (1 + K)) (cap - (1 + K))) ((l.drop (1 + K)).take N).length (((l.drop (1 + K)).take N).map (.int .u8)) w := by
              rw [show 1 + K + N - (1 + K) = N from by omega]; exact hI3.src Try.underlying24
            have hgF : ∀ j, j < 4 → gI ((l.drop (1 + K + N)).take 4) j = gI l (1 + K + N + j) := fun j hj => by rw [gI_take hj, gI_drop]
            have hwT : ∀ n ∈ l.take (1 + K + N), (Lit.int .u8 n).wf = true := fun n hn => h3 n (List.mem_of_mem_take hn)
            have hlT : (l.take (1 + K + N)).length = 1 + K + N := by rw [List.length_take]; omega
            have hlF : ((l.drop (1 + K + N)).take 4).length = 4 := by rw [List.length_take, List.length_drop]; omega
            generalize (l.drop (1 + K)).take N = Bd at *
            generalize (l.drop (1 + K + N)).take 4 = F4 at *
            generalize l.take (1 + K + N) = T at *
            generalize chk T = X at *
            have HFL := Lib.hid hfl
            have HFE := Lib.hid hfe
            have HSM := Lib.hid hsm
            have HBL := Lib.hid hbl
            have HC2 := Lib.hid hc
            have HGF := Lib.hid hgF
            have HLT := Lib.hid hlT
            have HWT := Lib.hid hwT
            have HLF := Lib.hid hlF
            have hbl' : Bd.length ≤ 1048576 := by omega
            clear hfl hfe hsm hF hbl hc hgF hlT hlF hcan hwT
            go_enter Try.func26, Try.ntmps26
            go_wp2_with (first
              | (go_at_call 20; refine HC.out.mono ?_; rintro e w' ⟨rfl, rfl⟩)
              | (at_builtin; refine wpList_appS _ rfl _ _ 24 24 rfl w.heap.size 5 (.int .u8 0) 1 1 Try.underlying24 Try.infoU8 rfl (by decide) _ _ 0 _ [] _ (World.ownsRow_nil w _ _ _) rfl rfl hsrc (by unfold maxLen; omega) (by omega) (Nat.le_refl _) ?_))
            intro v9 w1 ho9 hg9 _
            try simp only [Nat.zero_add, List.nil_append] at ho9
            have hg1 := grown_trans (grown_refl w) hg9 (by intro k hk; cases hk)
            have hI9 := ints_of_own ho9 (fun n hn => by obtain ⟨_, _, _, _, _, hw, _⟩ := hI3; exact hw n hn)
            have c1 := (World.cell?_of_block (w := w) (hg1.block b hb (by simp))).trans c0
            clear hg9 hsrc
            go_wp2_with fail
            refine (framer_any _ _ _ _ ht0 hI9).mono ?_
            rintro e w2 ⟨v10, rfl, ho10, hg2⟩
            rw [HFE.out]
            rw [HFL.out] at ho10
            have hg12 := hg1.trans' hg2
            have ho9' := own_keep ho9 hg2
            have hI10 := ints_of_own ho10 (by
              intro n hn
              rcases List.mem_append.1 hn with h | h
              · exact HWT.out n h
              · exact wf_beB _ _ n h)
            have hfl : (T ++ beB 4 X).length = 1 + K + N + 4 := by rw [List.length_append, HLT.out, length_beB]
            have hfg : ∀ j, j < 4 → gI (T ++ beB 4 X) (1 + K + N + j) = gI (beB 4 X) j := by
              intro j hj
              simp only [gI, List.getD_eq_getElem?_getD]
              rw [List.getElem?_append_right (by rw [HLT.out]; omega), HLT.out, Nat.add_sub_cancel_left]
            clear ho9 ho10 hI9 hg2 hI hI3 ht0 hwt
            generalize T ++ beB 4 X = f at *
            obtain ⟨a10, cap10, rfl, q1, q2, q3, q4⟩ := hI10
            rcases q4 with q4 | ⟨g, o, rfl, hgb, hcf⟩
            · rw [q4] at hfl; simp at hfl
            rw [hfl] at q1 hcf ⊢
            unfold maxLen at q2
            have HCF := Lib.hid hcf
            have HFG := Lib.hid hfg
            clear hcf hfg hfl q3 HFL
            go_wp2
            go_loopw [12] (fun i wr => ∃ j : Nat, j ≤ 4 ∧ i = .int .i64 (1 + (K : Int) + N + j) ∧ Hid (∀ t, t < j → gI (beB 4 X) t = gI F4 t) ∧ Drawn w2 wr) (fun i _ => (1 + (K : Int) + N + 4 - intOf i).toNat)
            case atStart => exact ⟨0, by omega, by go_num, (fun t ht => absurd ht (by omega)), Drawn.refl _⟩
            case round =>
              obtain ⟨j, hj, rfl, hall, hdr⟩ := hrel
              have hgw := hg12.trans' hdr.grown
              have c2 : wr.cell? ⟨b, off, none⟩ = some (.int .u8 (gI l 0)) := (World.cell?_of_block (w := w) (hgw.block b hb (by simp))).trans c0
              by_cases hj4 : j < 4
              · have d1 : wr.cell? ⟨g, o + (1 + K + N + j), none⟩ = some (.int .u8 (gI (beB 4 X) j)) := by
                  rw [hdr.cell, HCF.out _ (by omega), HFG.out j hj4]
                have d2 : wr.cell? ⟨b, off + (1 + K + N + j), none⟩ = some (.int .u8 (gI F4 j)) := by
                  rw [World.cell?_of_block (w := w) (hgw.block b hb (by simp)), HC2.out _ (by omega), HGF.out j hj4]
                have f5 : (1 + (K : Int) + N + j).toNat = 1 + K + N + j := by omega
                have f6 : 0 ≤ 1 + (K : Int) + N + j := by omega
                have f7 : 1 + (K : Int) + N + j < 1 + K + N + 4 := by omega
                have f8 : 1 + (K : Int) + N + j < l.length := by omega
                by_cases heq : gI (beB 4 X) j = gI F4 j
                · have hb1 : (gI (beB 4 X) j != gI F4 j) = false := by rw [bne_eq_false_iff_eq]; exact heq
                  have hall' : Hid (∀ t, t < j + 1 → gI (beB 4 X) t = gI F4 t) := by
                    intro t ht
                    by_cases h : t = j
                    · rw [h]; exact heq
                    · exact hall.out t (by omega)
                  clear heq hall
                  go_wp2
                  go_quiet (fail)
                  clear f5
                  go_wp2
                  go_roundw
                  case rel => exact ⟨j + 1, by omega, by go_num, hall', hdr.more nq⟩
                  case measure => simp [intOf]; omega
                · have hb1 : (gI (beB 4 X) j != gI F4 j) = true := by rw [bne_iff_ne]; exact heq
                  have hr : Hid (unfR l ((N : Int), (K : Int), 0) = (0, [], 0, 4)) := by
                    show _ = _
                    rw [HD.out, if_pos (fun h => heq (by rw [HSM.out.1 h]))]
                  clear heq hall HD
                  go_wp2
                  go_quiet (fail)
                  clear f5
                  go_wp2
                  refine bodyPost_ret (results_tmp4 rfl _ _ _) rfl ?_
                  rw [hr.out]
                  exact ⟨_, rfl, World.ownsRow_nil _ _ _ _, hg12.trans' (hdr.more nq).grown⟩
              · have hj4' : j = 4 := by omega
                subst hj4'
                have hr : Hid (unfR l ((N : Int), (K : Int), 0) = (gI l 0, Bd, 1 + (K : Int) + N + 4, 0)) := by
                  show _ = _
                  rw [HD.out, if_neg]
                  intro h
                  refine h (HSM.out.2 ?_)
                  refine list_ext4 HLF.out (length_beB 4 X) fun t ht => (hall.out t ht).symm
                have ho9'' := own_keep ho9' hdr.grown
                clear hall HD
                go_wp2
                refine bodyPost_ret (results_tmp4 rfl _ _ _) rfl ?_
                rw [hr.out]
                exact ⟨v9, rfl, ho9'', hgw⟩
      · have hr : Hid (unfR l (n, k, e) = (0, [], 0, e)) := by show _ = _; simp only [unfR]; rw [if_pos he]
        have hb : (e != 0) = true := by rw [bne_iff_ne]; exact he
        clear hd he hc
        go_enter Try.func26, Try.ntmps26
        go_wp2_with (go_at_call 20; refine HC.out.mono ?_; rintro e w' ⟨rfl, rfl⟩)
        refine bodyPost_ret (results_tmp4 rfl _ _ _) rfl ?_
        rw [hr.out]
        exact unfPost_err _ _ _
end Go.Proofs.Ytneofdnglikgkaa
