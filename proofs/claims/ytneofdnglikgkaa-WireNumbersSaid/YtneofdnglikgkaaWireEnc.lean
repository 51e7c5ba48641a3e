/- The walks of the encodings of numbers, words and strings. No condition. -/
import Derived.Test.YtneofdnglikgkaaUintEnc
import Derived.Test.YtneofdnglikgkaaWordEnc
namespace Go.Proofs.Ytneofdnglikgkaa
open Go.RowKit Go.ChangeShapes Go.WideShapes
set_option linter.unusedVariables false
set_option linter.unusedSimpArgs false
theorem encUintr_any (n : Int) (w : World) :
    Calls Try.prog 12 #[.int .i64 n] w fun e w' => ∃ v, e = .returned (.tuple #[v, .int .i64 (encE n)]) ∧
      w'.ownsRow w.heap.size 5 1 v (encL n).length ((encL n).map (.int .u8)) ∧ w.grownBy w' none := by
  by_cases hn : 0 ≤ n ∧ n ≤ 4611686018427387904
  · obtain ⟨h0, h1⟩ := hn
    have hE : encE n = 0 := by unfold encE; rw [if_neg (by omega)]
    have hL : encL n = encU n := by unfold encL; rw [if_neg (by omega)]
    rw [hE, hL]
    clear hE hL
    go_enter Try.func12, Try.ntmps12
    go_wp2_with (go_at_call 29; refine (uint_any _ _ h0 h1).mono ?_; rintro e w' ⟨v, rfl, ho, hg⟩)
    go_ret2
    exact ⟨_, rfl, ho, hg⟩
  · have hE : encE n = 5 := by unfold encE; rw [if_pos (by omega)]
    have hL : encL n = [] := by unfold encL; rw [if_pos (by omega)]
    rw [hE, hL]
    clear hE hL
    by_cases h0 : n < 0
    all_goals
      go_enter Try.func12, Try.ntmps12
      go_wp2
      go_ret2
      exact ⟨_, rfl, World.ownsRow_nil _ _ _ _, grown_refl _⟩
def encT (s : ByteArray) : List Int := if s.size > 65536 then [] else encU s.size ++ sI s
def encTE (s : ByteArray) : Int := if s.size > 65536 then 11 else 0
set_option maxRecDepth 100000 in
theorem encText_any (s : ByteArray) (w : World) (hs : s.size ≤ 140737488355328) :
    Calls Try.prog 13 #[.string s] w fun e w' => ∃ v, e = .returned (.tuple #[v, .int .i64 (encTE s)]) ∧
      w'.ownsRow w.heap.size 5 1 v (encT s).length ((encT s).map (.int .u8)) ∧ w.grownBy w' none := by
  by_cases hb : s.size ≤ 65536
  · have hE : encTE s = 0 := by unfold encTE; rw [if_neg (by omega)]
    have hL : encT s = encU s.size ++ sI s := by unfold encT; rw [if_neg (by omega)]
    rw [hE, hL]
    clear hE hL
    have hn : encL (s.size : Int) = encU s.size := by unfold encL; rw [if_neg (by omega)]
    have h9 := length_encU s.size
    have hl := length_sI s
    have HL := Lib.hid hl
    have hl' : (sI s).length ≤ 65536 := by omega
    clear hl
    go_enter Try.func13, Try.ntmps13
    go_wp2_with fail
    refine (encUint_any _ _).mono ?_
    rintro e w1 ⟨v, rfl, ho, hg⟩
    rw [hn] at ho
    clear hn
    have hsz := hg.size
    go_wp2_with (at_builtin; refine wpList_appS _ rfl _ _ 24 9 rfl w.heap.size 5 (.int .u8 0) 1 1 Try.underlying24 Try.infoU8 rfl (by decide) _ _ _ _ _ _ ho rfl rfl (src_string _ _ Try.underlying9) (by unfold maxLen; omega) (by omega) hsz ?_)
    intro v' w' hown' hg' _
    have hg3 := grown_own hg ho hg'
    go_wp2
    go_ret2
    exact ⟨_, rfl, by simpa using hown', hg3⟩
  · have hE : encTE s = 11 := by unfold encTE; rw [if_pos (by omega)]
    have hL : encT s = [] := by unfold encT; rw [if_pos (by omega)]
    rw [hE, hL]
    clear hE hL
    go_enter Try.func13, Try.ntmps13
    go_wp2
    go_ret2
    exact ⟨_, rfl, World.ownsRow_nil _ _ _ _, grown_refl _⟩
set_option maxRecDepth 100000 in
theorem text_any (s : ByteArray) (w : World) (hs : s.size ≤ 140737488000000) :
    Calls Try.prog 30 #[.string s] w fun e w' => ∃ v, e = .returned v ∧
      w'.ownsRow w.heap.size 5 1 v (encU s.size ++ sI s).length ((encU s.size ++ sI s).map (.int .u8)) ∧ w.grownBy w' none := by
  have h9 := length_encU s.size
  have hl := length_sI s
  have HL := Lib.hid hl
  have hl' : (sI s).length ≤ 140737488000000 := by omega
  clear hl
  go_enter Try.func30, Try.ntmps30
  go_wp2_with fail
  refine (uint_any _ _ (by omega) (by omega)).mono ?_
  rintro e w1 ⟨v, rfl, ho, hg⟩
  have hsz := hg.size
  go_wp2_with (at_builtin; refine wpList_appS _ rfl _ _ 24 9 rfl w.heap.size 5 (.int .u8 0) 1 1 Try.underlying24 Try.infoU8 rfl (by decide) _ _ _ _ _ _ ho rfl rfl (src_string _ _ Try.underlying9) (by unfold maxLen; omega) (by omega) hsz ?_)
  intro v' w' hown' hg' _
  have hg3 := grown_own hg ho hg'
  go_wp2
  go_ret
  exact ⟨_, rfl, by simpa using hown', hg3⟩
set_option maxRecDepth 100000 in
theorem encTextr_any (s : ByteArray) (w : World) (hs : s.size ≤ 140737488355328) :
    Calls Try.prog 14 #[.string s] w fun e w' => ∃ v, e = .returned (.tuple #[v, .int .i64 (encTE s)]) ∧
      w'.ownsRow w.heap.size 5 1 v (encT s).length ((encT s).map (.int .u8)) ∧ w.grownBy w' none := by
  by_cases hb : s.size ≤ 65536
  · have hE : encTE s = 0 := by unfold encTE; rw [if_neg (by omega)]
    have hL : encT s = encU s.size ++ sI s := by unfold encT; rw [if_neg (by omega)]
    rw [hE, hL]
    clear hE hL
    go_enter Try.func14, Try.ntmps14
    go_wp2_with (go_at_call 30; refine (text_any _ _ (by omega)).mono ?_; rintro e w' ⟨v, rfl, ho, hg⟩)
    go_ret2
    exact ⟨_, rfl, ho, hg⟩
  · have hE : encTE s = 11 := by unfold encTE; rw [if_pos (by omega)]
    have hL : encT s = [] := by unfold encT; rw [if_pos (by omega)]
    rw [hE, hL]
    clear hE hL
    go_enter Try.func14, Try.ntmps14
    go_wp2
    go_ret2
    exact ⟨_, rfl, World.ownsRow_nil _ _ _ _, grown_refl _⟩
end Go.Proofs.Ytneofdnglikgkaa
