/- The walks of the encodings of numbers. No condition. -/
import Derived.Test.YtigpbfmnbdbpcaaWireSpec
namespace Go.Proofs.Ytigpbfmnbdbpcaa
open Go.RowKit Go.ChangeShapes Go.WideShapes
set_option linter.unusedVariables false
set_option linter.unusedSimpArgs false
theorem Try.infoU8 : (Try.prog.info? 5).map (fun i => (i.zero, i.size, i.bytes)) = some (some (.int .u8 0), 1, 1) := by kernel_rfl
set_option maxRecDepth 100000 in
set_option maxHeartbeats 400000 in
theorem encUint_any (n : Int) (w : World) :
    Calls Try.prog 65 #[.int .i64 n] w fun e w' => ∃ v, e = .returned (.tuple #[v, .int .i64 (encE n)]) ∧
      w'.ownsRow w.heap.size 5 1 v (encL n).length ((encL n).map (.int .u8)) ∧ w.grownBy w' none := by
  by_cases hn : 0 ≤ n ∧ n ≤ 4611686018427387904
  · obtain ⟨h0, h1⟩ := hn
    have hE : encE n = 0 := by unfold encE; rw [if_neg (by omega)]
    have hL : encL n = encU n := by unfold encL; rw [if_neg (by omega)]
    rw [hE, hL]
    clear hE hL
    by_cases hs : n < 248
    · have hu : encU n = [n] := by unfold encU; rw [if_pos hs]
      have HU := Lib.hid hu
      clear hu
      go_enter Try.func65, Try.ntmps65
      go_wp2
      go_ret2
      rw [HU.out]
      exact ⟨_, rfl, own_lit1 _ _ _, grown_alloc _ _⟩
    · have hu : encU n = (247 + (nB n : Int)) :: beB (nB n) n := by unfold encU; rw [if_neg hs]
      have HU := Lib.hid hu
      clear hu
      have hr := nB_range n
      go_enter Try.func65, Try.ntmps65
      go_wp2
      go_loop [4] (fun i => ∃ k : Nat, 1 ≤ k ∧ k ≤ nB n ∧ i = .int .i64 k) (fun i => 8 - (intOf i).toNat)
      case atStart => exact ⟨1, by omega, by omega, rfl⟩
      case round =>
        obtain ⟨k, hk1, hk2, rfl⟩ := hrel
        by_cases hlt : k < nB n
        · have hup := nB_up n k hk1 (by omega) hlt
          go_wp2
          go_round
          case rel => exact ⟨k + 1, by omega, by omega, by go_num⟩
          case measure => simp [intOf]; omega
        · have hk : nB n = k := by omega
          have hkk : k = 8 ∨ (k < 8 ∧ n / 2 ^ (8 * k) ≤ 0) := by
            by_cases h8 : k = 8
            · exact .inl h8
            · exact .inr ⟨by omega, nB_end n k h0 hk1 (by omega) (by omega)⟩
          rw [hk] at HU hr
          clear hlt hk2
          have h9 := length_encU n
          have hstart : Hid ([247 + (k : Int)] ++ beB k n = encU n) := by
            show _ = _
            rw [HU.out]; rfl
          clear hk HU
          rcases hkk with rfl | ⟨h8, hz⟩
          all_goals
            go_wp2
            go_loopw [5, 6] (fun v i wr => ∃ (j : Nat) (xs : List Int), j < 9 ∧ i = .int .i64 ((j : Int) - 1) ∧ Hid (xs ++ beB j n = encU n) ∧ wr.ownsRow w.heap.size 5 1 v xs.length (xs.map (.int .u8)) ∧ w.grownBy wr none) (fun _ i _ => (intOf i + 1).toNat)
            case atStart => exact ⟨_, _, by omega, by go_num, hstart, own_lit1 _ _ _, grown_alloc _ _⟩
            case round =>
              clear hstart
              obtain ⟨j, xs, hj9, rfl, hx, hown, hg⟩ := hrel
              have hxl := enc_len hx.out
              have hsz := hg.size
              have hxb : xs.length ≤ 9 := by omega
              clear hxl
              match j, hx, hj9 with
              | 0, hx, _ =>
                have hxe : xs = encU n := by have := hx.out; simpa [beB] using this
                subst hxe
                go_wp2
                go_ret2
                exact ⟨_, rfl, hown, hg⟩
              | j + 1, hx, hj9 =>
                have hp : Hid ((xs ++ [n / 2 ^ (8 * j) % 256]) ++ beB j n = encU n) := enc_push hx.out
                clear hx
                go_wp2_with (at_builtin; refine wpList_app1 wr (.int .u8 (n / 2 ^ (8 * j) % 256)) rfl _ _ 49 rfl w.heap.size 5 (.int .u8 0) 1 Try.underlying49 Try.infoU8 rfl _ _ _ hown rfl rfl rfl (by unfold maxLen; omega) (by omega) hsz ?_)
                intro v' w' hown' hg'
                have hg3 := grown_own hg hown hg'
                clear hown
                go_wp2
                go_roundw
                case rel => exact ⟨j, xs ++ [n / 2 ^ (8 * j) % 256], by omega, by go_num, hp, by simpa using hown', hg3⟩
                case measure => first | (simp [intOf]; done) | (simp [intOf]; omega)
  · have hE : encE n = 5 := by unfold encE; rw [if_pos (by omega)]
    have hL : encL n = [] := by unfold encL; rw [if_pos (by omega)]
    rw [hE, hL]
    clear hE hL
    by_cases h0 : n < 0
    all_goals
      go_enter Try.func65, Try.ntmps65
      go_wp2
      go_ret2
      exact ⟨_, rfl, World.ownsRow_nil _ _ _ _, grown_refl _⟩
set_option maxRecDepth 100000 in
set_option maxHeartbeats 400000 in
theorem uint_any (n : Int) (w : World) (h0 : 0 ≤ n) (h1 : n ≤ 4611686018427387904) :
    Calls Try.prog 53 #[.int .i64 n] w fun e w' => ∃ v, e = .returned v ∧
      w'.ownsRow w.heap.size 5 1 v (encU n).length ((encU n).map (.int .u8)) ∧ w.grownBy w' none := by
  by_cases hs : n < 248
  · have hu : encU n = [n] := by unfold encU; rw [if_pos hs]
    have HU := Lib.hid hu
    clear hu
    go_enter Try.func53, Try.ntmps53
    go_wp2
    go_ret
    rw [HU.out]
    exact ⟨_, rfl, own_lit1 _ _ _, grown_alloc _ _⟩
  · have hu : encU n = (247 + (nB n : Int)) :: beB (nB n) n := by unfold encU; rw [if_neg hs]
    have HU := Lib.hid hu
    clear hu
    have hr := nB_range n
    go_enter Try.func53, Try.ntmps53
    go_wp2
    go_loopw [0, 3] (fun i v wr => ∃ j : Nat, j ≤ nB n ∧ i = .int .i64 (n / 2 ^ (8 * j)) ∧ wr.ownsRow w.heap.size 5 1 v j ((beB j n).map (.int .u8)) ∧ w.grownBy wr none) (fun i _ _ => (intOf i).toNat)
    case atStart => exact ⟨0, by omega, by simp, World.ownsRow_nil _ _ _ _, grown_refl _⟩
    case round =>
      obtain ⟨j, hj, rfl, hown, hg⟩ := hrel
      have hsz := hg.size
      by_cases hlt : j < nB n
      · have hpos := nB_pos n j (by omega) hlt
        have hds := div_step n j
        have HDS := Lib.hid hds
        clear hds
        go_wp2_with (at_builtin; refine wpList_appS _ rfl _ _ 49 49 rfl w.heap.size 5 (.int .u8 0) 1 1 Try.underlying49 Try.infoU8 rfl (by decide) _ _ 1 j [.int .u8 (n / 2 ^ (8 * j) % 256)] ((beB j n).map (.int .u8)) (own_litB _ _ _ hsz) rfl rfl (own_src (hown.alloc _) (ints_oneCell _ _) Try.underlying49) (by unfold maxLen; omega) (by omega) (by simp; omega) ?_)
        intro v' w' hown' hg' _
        have hg3 := grown_own (hg.trans' (grown_alloc wr _)) (own_litB wr _ _ hsz) hg'
        clear hown
        go_wp2
        go_roundw
        case rel => exact ⟨j + 1, by omega, by rw [HDS.out], by simpa [beB, Nat.add_comm] using hown', hg3⟩
        case measure => simp [intOf]; omega
      · have hz := nB_out n j h0 h1 (by omega) (by omega)
        have hjn : nB n = j := by omega
        rw [hjn] at HU hr
        clear hlt hj hjn
        obtain ⟨a, cap, rfl, hnc, _⟩ := own_shape hown
        go_wp2_with (at_builtin; refine wpList_appS _ rfl _ _ 49 49 rfl w.heap.size 5 (.int .u8 0) 1 1 Try.underlying49 Try.infoU8 rfl (by decide) _ _ 1 j [.int .u8 (247 + (j : Int))] ((beB j n).map (.int .u8)) (own_litB _ _ _ hsz) rfl rfl (own_src (hown.alloc _) (ints_oneCell _ _) Try.underlying49) (by unfold maxLen; omega) (by omega) (by simp; omega) ?_)
        intro v' w' hown' hg' _
        have hg3 := grown_own (hg.trans' (grown_alloc wr _)) (own_litB wr _ _ hsz) hg'
        go_wp2
        go_ret
        rw [HU.out]
        exact ⟨_, rfl, by simpa [length_beB, Nat.add_comm] using hown', hg3⟩
end Go.Proofs.Ytigpbfmnbdbpcaa
