/- The walks of the decodings of strings. No condition. -/
import Derived.Test.YtneofdnglikgkaaUintDec
import Derived.Test.YtneofdnglikgkaaWordDec
namespace Go.Proofs.Ytneofdnglikgkaa
open Go.RowKit Go.ChangeShapes Go.WideShapes
set_option linter.unusedVariables false
set_option linter.unusedSimpArgs false
def tri3 (r : ByteArray × Int × Int) : Value := .tuple #[.string r.1, .int .i64 r.2.1, .int .i64 r.2.2]
theorem ret_tri3 {a a' : ByteArray} {b c b' c' : Int} (h1 : a = a') (h2 : b = b') (h3 : c = c') : Ending.returned (.tuple #[.string a, .int .i64 b, .int .i64 c]) = .returned (tri3 (a', b', c')) := by rw [h1, h2, h3]; rfl
set_option maxRecDepth 100000 in
set_option maxHeartbeats 800000 in
theorem decText_any (v : Value) (l : List Int) (w : World) (hv : Ints .u8 w v l) :
    Calls Try.prog 19 #[v] w fun e w' => e = .returned (tri3 (decT l)) ∧ w = w' := by
  have hC := decUint_any v l w hv
  unfold decT
  obtain ⟨n, k, e, hd⟩ : ∃ n k e, decU l = (n, k, e) := ⟨_, _, _, rfl⟩
  rw [hd] at hC ⊢
  simp only [tri] at hC
  obtain ⟨a, cap, rfl, h1, h2, h3, h4⟩ := hv
  have h2' := h2
  unfold maxLen at h2
  have HC := Lib.hid hC
  clear hC
  by_cases he : e = 0
  · subst he
    obtain ⟨hn0, hn1, hk1, hk9, hkl, hl0⟩ := decU_ok h3 hd
    clear hd
    obtain ⟨N, rfl⟩ := Int.eq_ofNat_of_zero_le hn0
    obtain ⟨K, rfl⟩ := Int.eq_ofNat_of_zero_le (show 0 ≤ k by omega)
    rcases h4 with rfl | ⟨b, off, rfl, hb, hc⟩
    · simp at hl0
    by_cases hN : (N : Int) > 65536
    · have hr : Hid (decTx l ((N : Int), (K : Int), 0) = (⟨#[]⟩, 0, 2)) := by show _ = _; simp only [decTx]; rw [if_neg (by decide), if_pos hN]
      clear hc
      go_enter Try.func19, Try.ntmps19
      go_wp2_with (go_at_call 18; refine HC.out.mono ?_; rintro e w' ⟨rfl, rfl⟩)
      go_ret3
      rw [hr.out]
      exact ⟨rfl, rfl⟩
    · by_cases hS : (l.length : Int) - K < N
      · have hr : Hid (decTx l ((N : Int), (K : Int), 0) = (⟨#[]⟩, 0, 3)) := by show _ = _; simp only [decTx]; rw [if_neg (by decide), if_neg hN, if_pos hS]
        clear hc
        go_enter Try.func19, Try.ntmps19
        go_wp2_with (go_at_call 18; refine HC.out.mono ?_; rintro e w' ⟨rfl, rfl⟩)
        go_ret3
        rw [hr.out]
        exact ⟨rfl, rfl⟩
      · have hr : Hid (decTx l ((N : Int), (K : Int), 0) = (strOfNums ((l.drop K).take N), (K : Int) + N, 0)) := by show _ = _; simp only [decTx, Int.toNat_natCast]; rw [if_neg (by decide), if_neg hN, if_neg hS]
        by_cases hcK : cap = K
        · have hN0 : N = 0 := by omega
          subst hN0
          have hlK : l.length = K := by omega
          have hI : Ints .u8 w (.slice (some ⟨b, off, none⟩) 0 0) ((l.drop K).take 0) := by rw [List.take_zero]; exact ints_empty _ _ _ _ (by omega)
          have hcv := run_string (P := Try.prog) hI Try.underlying24 Try.underlying5 Try.underlying9
          rw [List.take_zero] at hcv hr
          rw [hlK, hcK] at HC ⊢
          clear hc h1 h2 h2' hS hcK hkl hl0 hlK
          go_enter Try.func19, Try.ntmps19
          go_wp2_with (go_at_call 18; refine HC.out.mono ?_; rintro e w' ⟨rfl, rfl⟩)
          go_ret3
          rw [hr.out]
          exact ⟨ret_tri3 rfl (by omega) rfl, rfl⟩
        · have hI : Ints .u8 w (.slice (some ⟨b, off + K, none⟩) N (cap - K)) ((l.drop K).take N) := ints_sub h3 hb hc K N (cap - K) (by omega) (by omega) (by unfold maxLen; omega)
          have hcv := run_string (P := Try.prog) hI Try.underlying24 Try.underlying5 Try.underlying9
          clear hc
          go_enter Try.func19, Try.ntmps19
          go_wp2_with (go_at_call 18; refine HC.out.mono ?_; rintro e w' ⟨rfl, rfl⟩)
          go_ret3
          rw [hr.out]
          exact ⟨ret_tri3 rfl (by omega) rfl, rfl⟩
  · have hr : Hid (decTx l (n, k, e) = (⟨#[]⟩, 0, e)) := by show _ = _; simp only [decTx]; rw [if_pos he]
    have hb : (e != 0) = true := by rw [bne_iff_ne]; exact he
    clear h4 hd he
    go_enter Try.func19, Try.ntmps19
    go_wp2_with (go_at_call 18; refine HC.out.mono ?_; rintro e w' ⟨rfl, rfl⟩)
    go_ret3
    rw [hr.out]
    exact ⟨rfl, rfl⟩
set_option maxRecDepth 100000 in
set_option maxHeartbeats 800000 in
theorem decTextr_any (v : Value) (l : List Int) (w : World) (hv : Ints .u8 w v l) :
    Calls Try.prog 23 #[v] w fun e w' => e = .returned (tri3 (decT l)) ∧ w = w' := by
  have hC := decUintr_any v l w hv
  unfold decT
  obtain ⟨n, k, e, hd⟩ : ∃ n k e, decU l = (n, k, e) := ⟨_, _, _, rfl⟩
  rw [hd] at hC ⊢
  simp only [tri] at hC
  obtain ⟨a, cap, rfl, h1, h2, h3, h4⟩ := hv
  have h2' := h2
  unfold maxLen at h2
  have HC := Lib.hid hC
  clear hC
  by_cases he : e = 0
  · subst he
    obtain ⟨hn0, hn1, hk1, hk9, hkl, hl0⟩ := decU_ok h3 hd
    clear hd
    obtain ⟨N, rfl⟩ := Int.eq_ofNat_of_zero_le hn0
    obtain ⟨K, rfl⟩ := Int.eq_ofNat_of_zero_le (show 0 ≤ k by omega)
    rcases h4 with rfl | ⟨b, off, rfl, hb, hc⟩
    · simp at hl0
    by_cases hN : (N : Int) > 65536
    · have hr : Hid (decTx l ((N : Int), (K : Int), 0) = (⟨#[]⟩, 0, 2)) := by show _ = _; simp only [decTx]; rw [if_neg (by decide), if_pos hN]
      clear hc
      go_enter Try.func23, Try.ntmps23
      go_wp2_with (go_at_call 20; refine HC.out.mono ?_; rintro e w' ⟨rfl, rfl⟩)
      go_ret3
      rw [hr.out]
      exact ⟨rfl, rfl⟩
    · by_cases hS : (l.length : Int) - K < N
      · have hr : Hid (decTx l ((N : Int), (K : Int), 0) = (⟨#[]⟩, 0, 3)) := by show _ = _; simp only [decTx]; rw [if_neg (by decide), if_neg hN, if_pos hS]
        clear hc
        go_enter Try.func23, Try.ntmps23
        go_wp2_with (go_at_call 20; refine HC.out.mono ?_; rintro e w' ⟨rfl, rfl⟩)
        go_ret3
        rw [hr.out]
        exact ⟨rfl, rfl⟩
      · have hr : Hid (decTx l ((N : Int), (K : Int), 0) = (strOfNums ((l.drop K).take N), (K : Int) + N, 0)) := by show _ = _; simp only [decTx, Int.toNat_natCast]; rw [if_neg (by decide), if_neg hN, if_neg hS]
        by_cases hcK : cap = K
        · have hN0 : N = 0 := by omega
          subst hN0
          have hlK : l.length = K := by omega
          have hI : Ints .u8 w (.slice (some ⟨b, off, none⟩) 0 0) ((l.drop K).take 0) := by rw [List.take_zero]; exact ints_empty _ _ _ _ (by omega)
          have hcv := run_string (P := Try.prog) hI Try.underlying24 Try.underlying5 Try.underlying9
          rw [List.take_zero] at hcv hr
          rw [hlK, hcK] at HC ⊢
          clear hc h1 h2 h2' hS hcK hkl hl0 hlK
          go_enter Try.func23, Try.ntmps23
          go_wp2_with (go_at_call 20; refine HC.out.mono ?_; rintro e w' ⟨rfl, rfl⟩)
          go_ret3
          rw [hr.out]
          exact ⟨ret_tri3 rfl (by omega) rfl, rfl⟩
        · have hI : Ints .u8 w (.slice (some ⟨b, off + K, none⟩) N (cap - K)) ((l.drop K).take N) := ints_sub h3 hb hc K N (cap - K) (by omega) (by omega) (by unfold maxLen; omega)
          have hcv := run_string (P := Try.prog) hI Try.underlying24 Try.underlying5 Try.underlying9
          clear hc
          go_enter Try.func23, Try.ntmps23
          go_wp2_with (go_at_call 20; refine HC.out.mono ?_; rintro e w' ⟨rfl, rfl⟩)
          go_ret3
          rw [hr.out]
          exact ⟨ret_tri3 rfl (by omega) rfl, rfl⟩
  · have hr : Hid (decTx l (n, k, e) = (⟨#[]⟩, 0, e)) := by show _ = _; simp only [decTx]; rw [if_pos he]
    have hb : (e != 0) = true := by rw [bne_iff_ne]; exact he
    clear h4 hd he
    go_enter Try.func23, Try.ntmps23
    go_wp2_with (go_at_call 20; refine HC.out.mono ?_; rintro e w' ⟨rfl, rfl⟩)
    go_ret3
    rw [hr.out]
    exact ⟨rfl, rfl⟩
end Go.Proofs.Ytneofdnglikgkaa
