/- The walks of IsKey and ValidateItem. No condition. -/
import Derived.Test.YthohjekfffebkaaLib
namespace Go.Proofs.Ythohjekfffebkaa
open Go.RowKit Go.ChangeShapes Go.WideShapes
set_option linter.unusedVariables false
set_option linter.unusedSimpArgs false
def keyB (s : ByteArray) : Bool := decide (1 ≤ s.size ∧ s.size ≤ 32)
def itemE (s : ByteArray) (n : Int) : Int := if keyB s = false then 7 else if n < 1 ∨ n > 4294967295 then 5 else 0
theorem ret_b {x y : Bool} (h : x = y) : Ending.returned (.bool x) = .returned (.bool y) := by rw [h]
theorem iskey_any (s : ByteArray) (w : World) (hs : s.size ≤ maxLen) :
    Calls Try.prog 34 #[.string s] w fun e w' => e = .returned (.bool (keyB s)) ∧ w = w' := by
  unfold maxLen at hs
  by_cases h1 : 1 ≤ s.size
  · by_cases h2 : s.size ≤ 32
    · have hk : Hid (keyB s = true) := decide_eq_true ⟨h1, h2⟩
      go_enter Try.func34, Try.ntmps34
      go_wp2
      go_ret
      rw [hk.out]
      exact ⟨by first | rfl | exact ret_b (decide_eq_true (by omega)) | exact ret_b (decide_eq_false (by omega)), rfl⟩
    · have hk : Hid (keyB s = false) := decide_eq_false (by omega)
      go_enter Try.func34, Try.ntmps34
      go_wp2
      go_ret
      rw [hk.out]
      exact ⟨by first | rfl | exact ret_b (decide_eq_true (by omega)) | exact ret_b (decide_eq_false (by omega)), rfl⟩
  · have hk : Hid (keyB s = false) := decide_eq_false (by omega)
    go_enter Try.func34, Try.ntmps34
    go_wp2
    go_ret
    rw [hk.out]
    exact ⟨by first | rfl | exact ret_b (decide_eq_true (by omega)) | exact ret_b (decide_eq_false (by omega)), rfl⟩
theorem validItem_any (s : ByteArray) (n : Int) (w : World) (hs : s.size ≤ maxLen) :
    Calls Try.prog 42 #[.agg #[.string s, .int .i64 n]] w fun e w' => e = .returned (.int .i64 (itemE s n)) ∧ w.grownBy w' none := by
  cases hk : keyB s
  · have h : Hid (itemE s n = 7) := by show _ = _; unfold itemE; rw [if_pos hk]
    have HK := Lib.hid hk
    clear hk
    go_enter Try.func42, Try.ntmps42
    go_wp2_with (go_at_call 34; refine (iskey_any _ _ hs).mono ?_; rw [HK.out]; rintro e w' ⟨rfl, rfl⟩)
    go_ret
    rw [h.out]
    exact ⟨rfl, grown_alloc _ _⟩
  · have HK := Lib.hid hk
    by_cases h1 : n < 1
    · have h : Hid (itemE s n = 5) := by show _ = _; unfold itemE; rw [if_neg (by rw [hk]; simp), if_pos (.inl h1)]
      clear hk
      go_enter Try.func42, Try.ntmps42
      go_wp2_with (go_at_call 34; refine (iskey_any _ _ hs).mono ?_; rw [HK.out]; rintro e w' ⟨rfl, rfl⟩)
      go_ret
      rw [h.out]
      exact ⟨rfl, grown_alloc _ _⟩
    · by_cases h2 : n > 4294967295
      · have h : Hid (itemE s n = 5) := by show _ = _; unfold itemE; rw [if_neg (by rw [hk]; simp), if_pos (.inr h2)]
        clear hk
        go_enter Try.func42, Try.ntmps42
        go_wp2_with (go_at_call 34; refine (iskey_any _ _ hs).mono ?_; rw [HK.out]; rintro e w' ⟨rfl, rfl⟩)
        go_ret
        rw [h.out]
        exact ⟨rfl, grown_alloc _ _⟩
      · have h : Hid (itemE s n = 0) := by show _ = _; unfold itemE; rw [if_neg (by rw [hk]; simp), if_neg (by omega)]
        clear hk
        go_enter Try.func42, Try.ntmps42
        go_wp2_with (go_at_call 34; refine (iskey_any _ _ hs).mono ?_; rw [HK.out]; rintro e w' ⟨rfl, rfl⟩)
        go_ret
        rw [h.out]
        exact ⟨rfl, grown_alloc _ _⟩
theorem iskeyr_any (s : ByteArray) (w : World) (hs : s.size ≤ maxLen) :
    Calls Try.prog 38 #[.string s] w fun e w' => e = .returned (.bool (keyB s)) ∧ w = w' := by
  unfold maxLen at hs
  by_cases h1 : 1 ≤ s.size
  · by_cases h2 : s.size ≤ 32
    · have hk : Hid (keyB s = true) := decide_eq_true ⟨h1, h2⟩
      go_enter Try.func38, Try.ntmps38
      go_wp2
      go_ret
      rw [hk.out]
      exact ⟨by first | rfl | exact ret_b (decide_eq_true (by omega)) | exact ret_b (decide_eq_false (by omega)), rfl⟩
    · have hk : Hid (keyB s = false) := decide_eq_false (by omega)
      go_enter Try.func38, Try.ntmps38
      go_wp2
      go_ret
      rw [hk.out]
      exact ⟨by first | rfl | exact ret_b (decide_eq_true (by omega)) | exact ret_b (decide_eq_false (by omega)), rfl⟩
  · have hk : Hid (keyB s = false) := decide_eq_false (by omega)
    go_enter Try.func38, Try.ntmps38
    go_wp2
    go_ret
    rw [hk.out]
    exact ⟨by first | rfl | exact ret_b (decide_eq_true (by omega)) | exact ret_b (decide_eq_false (by omega)), rfl⟩
theorem validItemr_any (s : ByteArray) (n : Int) (w : World) (hs : s.size ≤ maxLen) :
    Calls Try.prog 43 #[.agg #[.string s, .int .i64 n]] w fun e w' => e = .returned (.int .i64 (itemE s n)) ∧ w.grownBy w' none := by
  cases hk : keyB s
  · have h : Hid (itemE s n = 7) := by show _ = _; unfold itemE; rw [if_pos hk]
    have HK := Lib.hid hk
    clear hk
    go_enter Try.func43, Try.ntmps43
    go_wp2_with (go_at_call 38; refine (iskeyr_any _ _ hs).mono ?_; rw [HK.out]; rintro e w' ⟨rfl, rfl⟩)
    go_ret
    rw [h.out]
    exact ⟨rfl, grown_alloc _ _⟩
  · have HK := Lib.hid hk
    by_cases h1 : n < 1
    · have h : Hid (itemE s n = 5) := by show _ = _; unfold itemE; rw [if_neg (by rw [hk]; simp), if_pos (.inl h1)]
      clear hk
      go_enter Try.func43, Try.ntmps43
      go_wp2_with (go_at_call 38; refine (iskeyr_any _ _ hs).mono ?_; rw [HK.out]; rintro e w' ⟨rfl, rfl⟩)
      go_ret
      rw [h.out]
      exact ⟨rfl, grown_alloc _ _⟩
    · by_cases h2 : n > 4294967295
      · have h : Hid (itemE s n = 5) := by show _ = _; unfold itemE; rw [if_neg (by rw [hk]; simp), if_pos (.inr h2)]
        clear hk
        go_enter Try.func43, Try.ntmps43
        go_wp2_with (go_at_call 38; refine (iskeyr_any _ _ hs).mono ?_; rw [HK.out]; rintro e w' ⟨rfl, rfl⟩)
        go_ret
        rw [h.out]
        exact ⟨rfl, grown_alloc _ _⟩
      · have h : Hid (itemE s n = 0) := by show _ = _; unfold itemE; rw [if_neg (by rw [hk]; simp), if_neg (by omega)]
        clear hk
        go_enter Try.func43, Try.ntmps43
        go_wp2_with (go_at_call 38; refine (iskeyr_any _ _ hs).mono ?_; rw [HK.out]; rintro e w' ⟨rfl, rfl⟩)
        go_ret
        rw [h.out]
        exact ⟨rfl, grown_alloc _ _⟩
end Go.Proofs.Ythohjekfffebkaa
