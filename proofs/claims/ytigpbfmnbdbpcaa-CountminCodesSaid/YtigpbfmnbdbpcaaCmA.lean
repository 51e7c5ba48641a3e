/- The walks of sized and Column and of their references. Conditions: strings of Go's size. -/
import Derived.Test.YtigpbfmnbdbpcaaWithin
import Derived.Test.YtigpbfmnbdbpcaaHash
import Derived.Test.YtigpbfmnbdbpcaaLib3
namespace Go.Proofs.Ytigpbfmnbdbpcaa
open Go.RowKit Go.ChangeShapes Go.WideShapes
set_option linter.unusedVariables false
set_option linter.unusedSimpArgs false
theorem sized_any (d s : Int) (w : World) :
    Calls Try.prog 32 #[.int .i64 d, .int .i64 s] w fun e w' => e = .returned (.bool (decide (1 ≤ d ∧ d ≤ 8 ∧ 1 ≤ s ∧ s ≤ 64))) ∧ w = w' := by
  have hD : ∃ D, D = decide (1 ≤ d ∧ d ≤ 8 ∧ 1 ≤ s ∧ s ≤ 64) := ⟨_, rfl⟩
  obtain ⟨D, hD⟩ := hD
  rw [← hD]
  by_cases hp : 1 ≤ d ∧ d ≤ 8 ∧ 1 ≤ s ∧ s ≤ 64
  · have HD := Lib.hid (hD.trans (decide_eq_true hp) : D = true)
    clear hD
    obtain ⟨h1, h2, h3, h4⟩ := hp
    go_enter Try.func32, Try.ntmps32
    go_wp2
    go_ret
    rw [HD.out]
    exact ⟨rfl, rfl⟩
  · have HD := Lib.hid (hD.trans (decide_eq_false hp) : D = false)
    clear hD
    by_cases h1 : 1 ≤ d <;> by_cases h2 : d ≤ 8 <;> by_cases h3 : 1 ≤ s <;> by_cases h4 : s ≤ 64
    all_goals first | (exfalso; omega) | skip
    all_goals clear hp
    all_goals
      go_enter Try.func32, Try.ntmps32
      go_wp2
      go_ret
      rw [HD.out]
      exact ⟨rfl, rfl⟩
def colE (row size : Int) (s : ByteArray) : Int := if row < 0 ∨ row > 7 ∨ size < 1 ∨ size > 64 then 5 else if keyB s = false then 7 else 0
def colF (seed row size : Int) (s : ByteArray) : Int := if colE row size s = 0 then hashF (tab (rowF seed row)) s % size else 0
theorem wf_bx (x y : Int) : (Lit.int .u64 (bx x y)).wf = true := wf_bits ..
theorem wf_tab (s : Int) : ∀ n ∈ tab s, (Lit.int .u64 n).wf = true := by
  intro n hn
  simp only [tab, List.mem_map] at hn
  obtain ⟨i, _, rfl⟩ := hn
  exact wf_bx _ _
theorem tab_ints {w : World} {B : Nat} {v : Value} {s : Int} {e : TypeId} (h : w.ownsRow B e 1 v 256 ((tab s).map (.int .u64))) : Ints .u64 w v (tab s) :=
  ints_of_own (by rw [length_tab]; exact h) (wf_tab s)
theorem hashF_in (t : List Int) (s : ByteArray) : 0 ≤ hashF t s ∧ hashF t s ≤ 18446744073709551615 := by
  have h : (Lit.int .u64 (hashF t s)).wf = true := wf_bx _ _
  simp only [Lit.wf, Bool.and_eq_true, decide_eq_true_eq] at h
  exact ⟨h.1, h.2⟩
theorem colE_le (row size : Int) (s : ByteArray) : colE row size s = 0 ∨ colE row size s = 5 ∨ colE row size s = 7 := by
  unfold colE; split <;> (try split) <;> omega
set_option maxHeartbeats 1600000 in
theorem column_any (seed row size : Int) (s : ByteArray) (w : World) (hs' : s.size ≤ 140737488355328) :
    Calls Try.prog 13 #[.int .u64 seed, .int .i64 row, .int .i64 size, .string s] w fun e w' => e = .returned (.tuple #[.int .i64 (colF seed row size s), .int .i64 (colE row size s)]) ∧ w.grownBy w' none := by
  have hs : s.size ≤ maxLen := by unfold maxLen; omega
  by_cases hb : row < 0 ∨ row > 7 ∨ size < 1 ∨ size > 64
  · have he : Hid (colE row size s = 5) := by show _ = _; unfold colE; rw [if_pos hb]
    have hf : Hid (colF seed row size s = 0) := by show _ = _; unfold colF; rw [he.out]; rfl
    by_cases h1 : row < 0 <;> by_cases h2 : row > 7 <;> by_cases h3 : size < 1 <;> by_cases h4 : size > 64
    all_goals first | (exfalso; omega) | skip
    all_goals clear hb
    all_goals
      go_enter Try.func13, Try.ntmps13
      go_wp2
      go_ret2
      rw [he.out, hf.out]
      exact ⟨rfl, grown_refl _⟩
  · obtain ⟨k1, k2, k3, k4⟩ : 0 ≤ row ∧ row ≤ 7 ∧ 1 ≤ size ∧ size ≤ 64 := by omega
    cases hk : keyB s
    · have he : Hid (colE row size s = 7) := by show _ = _; unfold colE; rw [if_neg hb, if_pos hk]
      have hf : Hid (colF seed row size s = 0) := by show _ = _; unfold colF; rw [he.out]; rfl
      have HK := Lib.hid hk
      clear hk hb
      go_enter Try.func13, Try.ntmps13
      go_wp2_with (go_at_call 34; refine (iskey_any _ _ hs).mono ?_; rw [HK.out]; rintro e w' ⟨rfl, rfl⟩)
      go_ret2
      rw [he.out, hf.out]
      exact ⟨rfl, grown_refl _⟩
    · have he : Hid (colE row size s = 0) := by show _ = _; unfold colE; rw [if_neg hb, if_neg (by rw [hk]; simp)]
      have hf : Hid (colF seed row size s = hashF (tab (rowF seed row)) s % size) := by show _ = _; unfold colF; rw [if_pos he.out]
      have HK := Lib.hid hk
      clear hk hb
      obtain ⟨H, hH⟩ : ∃ H, H = hashF (tab (rowF seed row)) s := ⟨_, rfl⟩
      have hin := hashF_in (tab (rowF seed row)) s
      rw [← hH] at hin hf
      have HH := Lib.hid hH
      clear hH
      have e1 : IntKind.u64.wrap size = size := IntWalk.u64_in _ (by omega)
      have e2 : H.tmod size = H % size := by rw [Int.tmod_eq_emod_of_nonneg (by omega)]
      have e3 : 0 ≤ H % size := Int.emod_nonneg _ (by omega)
      have e4 : H % size < size := Int.emod_lt_of_pos _ (by omega)
      go_enter Try.func13, Try.ntmps13
      go_wp2_with (first | (go_at_call 34; refine (iskey_any _ _ hs).mono ?_; rw [HK.out]; rintro e w' ⟨rfl, rfl⟩) | (go_at_call 37; refine (row_any _ _ _).mono ?_; rintro e w' ⟨rfl, rfl⟩) | (go_at_call 36; refine (table_any _ _).mono ?_; rintro e w1 ⟨v1, rfl, ho1, g1⟩) | (go_at_call 35; refine (hash_big s _ _ _ (tab_ints ho1) (length_tab _) hs').mono ?_; rintro e w2 ⟨rfl, hd2⟩; rw [← HH.out]))
      go_ret2
      rw [he.out, hf.out]
      exact ⟨rfl, g1.trans' hd2.grown⟩
set_option maxHeartbeats 1600000 in
theorem columnr_any (seed row size : Int) (s : ByteArray) (w : World) (hs' : s.size ≤ 140737488355328) :
    Calls Try.prog 14 #[.int .u64 seed, .int .i64 row, .int .i64 size, .string s] w fun e w' => e = .returned (.tuple #[.int .i64 (colF seed row size s), .int .i64 (colE row size s)]) ∧ w.grownBy w' none := by
  have hs : s.size ≤ maxLen := by unfold maxLen; omega
  by_cases hb : row < 0 ∨ row > 7 ∨ size < 1 ∨ size > 64
  · have he : Hid (colE row size s = 5) := by show _ = _; unfold colE; rw [if_pos hb]
    have hf : Hid (colF seed row size s = 0) := by show _ = _; unfold colF; rw [he.out]; rfl
    by_cases h1 : row < 0 <;> by_cases h2 : row > 7 <;> by_cases h3 : size < 1 <;> by_cases h4 : size > 64
    all_goals first | (exfalso; omega) | skip
    all_goals clear hb
    all_goals
      go_enter Try.func14, Try.ntmps14
      go_wp2_with (go_at_call 33; (first | (refine (within_yes _ _ _ _ ?h).mono ?_; (case h => omega)) | (refine (within_no _ _ _ _ ?h).mono ?_; (case h => omega))); rintro e w' ⟨rfl, rfl⟩)
      go_ret2
      rw [he.out, hf.out]
      exact ⟨rfl, grown_refl _⟩
  · obtain ⟨k1, k2, k3, k4⟩ : 0 ≤ row ∧ row ≤ 7 ∧ 1 ≤ size ∧ size ≤ 64 := by omega
    cases hk : keyB s
    · have he : Hid (colE row size s = 7) := by show _ = _; unfold colE; rw [if_neg hb, if_pos hk]
      have hf : Hid (colF seed row size s = 0) := by show _ = _; unfold colF; rw [he.out]; rfl
      have HK := Lib.hid hk
      clear hk hb
      go_enter Try.func14, Try.ntmps14
      go_wp2_with (first | (go_at_call 33; (first | (refine (within_yes _ _ _ _ ?h).mono ?_; (case h => omega)) | (refine (within_no _ _ _ _ ?h).mono ?_; (case h => omega))); rintro e w' ⟨rfl, rfl⟩) | (go_at_call 38; refine (iskeyr_any _ _ hs).mono ?_; rw [HK.out]; rintro e w' ⟨rfl, rfl⟩))
      go_ret2
      rw [he.out, hf.out]
      exact ⟨rfl, grown_refl _⟩
    · have he : Hid (colE row size s = 0) := by show _ = _; unfold colE; rw [if_neg hb, if_neg (by rw [hk]; simp)]
      have hf : Hid (colF seed row size s = hashF (tab (rowF seed row)) s % size) := by show _ = _; unfold colF; rw [if_pos he.out]
      have HK := Lib.hid hk
      clear hk hb
      obtain ⟨H, hH⟩ : ∃ H, H = hashF (tab (rowF seed row)) s := ⟨_, rfl⟩
      have hin := hashF_in (tab (rowF seed row)) s
      rw [← hH] at hin hf
      have HH := Lib.hid hH
      clear hH
      have e1 : IntKind.u64.wrap size = size := IntWalk.u64_in _ (by omega)
      have e2 : H.tmod size = H % size := by rw [Int.tmod_eq_emod_of_nonneg (by omega)]
      have e3 : 0 ≤ H % size := Int.emod_nonneg _ (by omega)
      have e4 : H % size < size := Int.emod_lt_of_pos _ (by omega)
      go_enter Try.func14, Try.ntmps14
      go_wp2_with (first | (go_at_call 33; (first | (refine (within_yes _ _ _ _ ?h).mono ?_; (case h => omega)) | (refine (within_no _ _ _ _ ?h).mono ?_; (case h => omega))); rintro e w' ⟨rfl, rfl⟩) | (go_at_call 38; refine (iskeyr_any _ _ hs).mono ?_; rw [HK.out]; rintro e w' ⟨rfl, rfl⟩) | (go_at_call 41; refine (rowr_any _ _ _).mono ?_; rintro e w' ⟨rfl, rfl⟩) | (go_at_call 40; refine (tabler_any _ _).mono ?_; rintro e w1 ⟨v1, rfl, ho1, g1⟩) | (go_at_call 39; refine (hashr_big s _ _ _ (tab_ints ho1) (length_tab _) hs').mono ?_; rintro e w2 ⟨rfl, hd2⟩; rw [← HH.out]))
      go_ret2
      rw [he.out, hf.out]
      exact ⟨rfl, g1.trans' hd2.grown⟩
end Go.Proofs.Ytigpbfmnbdbpcaa
