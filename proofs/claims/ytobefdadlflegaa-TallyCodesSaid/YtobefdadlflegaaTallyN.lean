/- The walks of the encodings of tallies. Conditions: numbers in range. -/
import Derived.Test.YtobefdadlflegaaUintEnc
import Derived.Test.YtobefdadlflegaaTallyF
import Derived.Test.YtobefdadlflegaaLib2
namespace Go.Proofs.Ytobefdadlflegaa
open Go.RowKit Go.ChangeShapes Go.WideShapes
set_option linter.unusedVariables false
set_option linter.unusedSimpArgs false
theorem encL_eq {n : Int} (h0 : 0 ≤ n) (h1 : n ≤ 4611686018427387904) : encL n = encU n := by unfold encL; rw [if_neg (by omega)]
theorem flat_len (l : List Int) : (l.flatMap encU).length ≤ 9 * l.length := by
  induction l with
  | nil => simp
  | cons a l ih => rw [List.flatMap_cons, List.length_append, List.length_cons]; have := length_encU a; omega
theorem flat_snoc {l : List Int} {k : Nat} (h : k < l.length) : (l.take (k + 1)).flatMap encU = (l.take k).flatMap encU ++ encU (gI l k) := by
  rw [take_succ_gI h, List.flatMap_append]; simp
set_option maxRecDepth 100000 in
set_option maxHeartbeats 800000 in
theorem numbers_any (v : Value) (l : List Int) (w : World) (hv : Ints .i64 w v l) (hl : l.length ≤ 1000) (hr : ∀ n ∈ l, 0 ≤ n ∧ n ≤ 4611686018427387904) :
    Calls Try.prog 28 #[.slice none 0 0, v] w fun e w' => ∃ v', e = .returned v' ∧
      w'.ownsRow w.heap.size 5 1 v' (l.flatMap encU).length ((l.flatMap encU).map (.int .u8)) ∧ w.grownBy w' none := by
  obtain ⟨a, cap, rfl, h1, h2, h3, h4⟩ := hv
  unfold maxLen at h2
  have hfl := flat_len l
  go_enter Try.func28, Try.ntmps28
  go_wp2_with fail
  go_loopw [0, 11] (fun v i wr => ∃ k : Nat, k ≤ l.length ∧ i = .int .i64 k ∧ wr.ownsRow w.heap.size 5 1 v ((l.take k).flatMap encU).length (((l.take k).flatMap encU).map (.int .u8)) ∧ w.grownBy wr none) (fun _ i _ => l.length - (intOf i).toNat)
  case atStart => exact ⟨0, by omega, rfl, World.ownsRow_nil _ _ _ _, grown_refl _⟩
  case round =>
    obtain ⟨k, hk, rfl, hown, hg⟩ := hrel
    have hsz := hg.size
    by_cases hlt : k < l.length
    · rcases h4 with rfl | ⟨b, off, rfl, hb, hc⟩
      · simp at hlt
      have hc0 : wr.cell? ⟨b, off + k, none⟩ = some (.int .i64 (gI l k)) := (World.cell?_of_block (w := w) (hg.block b hb (by simp))).trans (hc k hlt)
      have hrk := hr _ (gI_mem hlt)
      have hs := flat_snoc hlt
      have hkl := flat_len (l.take k)
      rw [List.length_take] at hkl
      have hel := length_encU (gI l k)
      have c1 := fun w : World => encUint_any (gI l k) w
      rw [encL_eq hrk.1 hrk.2] at c1
      have C1 := Lib.hid c1
      have HS := Lib.hid hs
      clear c1 hs hc hr h3
      go_wp2_with fail
      refine (C1.out _).mono ?_
      rintro e w2 ⟨u, rfl, hu, hg2⟩
      have hown2 := own_keep hown hg2
      have hz2 := hg2.size
      go_wp2_with (at_builtin; refine wpList_appS _ rfl _ _ 40 40 rfl w.heap.size 5 (.int .u8 0) 1 1 Try.underlying40 Try.infoU8 rfl (by decide) _ _ _ _ _ _ hown2 rfl rfl (own_src hu (ints_oneCell _ _) Try.underlying40) (by unfold maxLen; omega) (by omega) (by omega) ?_)
      intro v' w3 hown' hg' _
      have hg3 := grown_own (hg.trans' hg2) hown2 hg'
      clear hown hown2 hu
      go_wp2
      go_roundw
      case rel => exact ⟨k + 1, by omega, by go_num, by rw [HS.out]; simpa using hown', hg3⟩
      case measure => simp [intOf]; omega
    · have hkl : k = l.length := by omega
      rw [List.take_of_length_le (by omega)] at hown
      go_wp2
      go_ret
      exact ⟨_, rfl, hown, hg⟩
theorem flagr_any (b : Bool) (w : World) : Calls Try.prog 30 #[.bool b] w fun e w' => ∃ v', e = .returned v' ∧
      w'.ownsRow w.heap.size 5 1 v' 1 [.int .u8 (if b then 1 else 0)] ∧ w.grownBy w' none := by
  cases b
  all_goals
    go_enter Try.func30, Try.ntmps30
    go_wp2
    go_ret
    exact ⟨_, rfl, own_lit1 _ _ _, grown_alloc _ _⟩
/-- Encode: the bytes. -/
def encTL (t n : Int) (s : Bool) : List Int := if valE t n ≠ 0 then [] else encU t ++ encU n ++ [if s then 1 else 0]
end Go.Proofs.Ytobefdadlflegaa
