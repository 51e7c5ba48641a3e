/- The walks of the mixer and of its reference: what Mix, Table, Row, Hash compute. No condition. -/
import Derived.Test.YthohjekfffebkaaLib
import Derived.Test.YthohjekfffebkaaMixSpec
namespace Go.Proofs.Ythohjekfffebkaa
open Go.RowKit
set_option linter.unusedVariables false
set_option linter.unusedSimpArgs false
theorem mix_any (x : Int) (w : World)  :
    Calls Try.prog 58 #[.int .u64 x] w fun e w' => e = .returned (.int .u64 (mixF x)) ∧ w = w' := by
  go_enter Try.func58, Try.ntmps58
  go_wp2
  go_ret
  exact ⟨rfl, rfl⟩
theorem mixr_any (x : Int) (w : World)  :
    Calls Try.prog 60 #[.int .u64 x] w fun e w' => e = .returned (.int .u64 (mixF x)) ∧ w = w' := by
  go_enter Try.func60, Try.ntmps60
  go_wp2
  go_ret
  exact ⟨rfl, rfl⟩
theorem Try.infoU64 : (Try.prog.info? 22).map (fun i => (i.zero, i.size, i.bytes)) = some (some (.int .u64 0), 1, 8) := by kernel_rfl
def tabK (seed : Int) (k : Nat) : List Int := (List.range k).map (tabE seed) ++ List.replicate (256 - k) 0
theorem length_tabK (s : Int) (k : Nat) (h : k ≤ 256) : (tabK s k).length = 256 := by simp [tabK]; omega
theorem tabK_set (s : Int) (k : Nat) (h : k < 256) : (tabK s k).set k (tabE s k) = tabK s (k + 1) := by
  unfold tabK
  rw [List.set_append_right _ _ (by simp), List.range_succ, List.map_append]
  obtain ⟨m, hm⟩ : ∃ m, 256 - k = m + 1 := ⟨255 - k, by omega⟩
  have hm' : 256 - (k + 1) = m := by omega
  rw [hm, hm']
  simp [List.replicate_succ]
theorem tabK_all (s : Int) : tabK s 256 = tab s := by simp [tabK, tab]
set_option maxRecDepth 100000 in
set_option maxHeartbeats 400000 in
theorem table_any (x : Int) (w : World) :
    Calls Try.prog 36 #[.int .u64 x] w fun e w' => ∃ v, e = .returned v ∧
      w'.ownsRow w.heap.size 22 1 v 256 ((tab x).map (.int .u64)) ∧ w.grownBy w' none := by
  obtain ⟨i0, hi, hz0, hz1, hz2⟩ := info_parts Try.infoU64
  go_enter Try.func36, Try.ntmps36
  go_wp2_with (at_make; refine wpList_make_full _ rfl _ _ 61 rfl w.heap.size 22 i0 (.int .u64 0) 1 Try.underlying61 hi hz0 hz1 _ _ _ _ 256 rfl rfl rfl rfl ?c1 ?c2 ?c3 ?_)
  case c1 => omega
  case c2 => unfold maxLen; omega
  case c3 => simp
  intro w1 hown hgrow
  go_wp2
  go_loopw [8] (fun i wr => ∃ k : Nat, k ≤ 256 ∧ i = .int .i64 k ∧ wr.ownsRow w.heap.size 22 1 (.slice (some ⟨w.heap.size, 0, none⟩) 256 256) 256 ((tabK x k).map (.int .u64)) ∧ w.grownBy wr none) (fun i _ => 256 - (intOf i).toNat)
  case atStart =>
    refine ⟨0, by omega, rfl, ?_, hgrow⟩
    simp only [Value.cells, Nat.mul_one, toList_madeCells_one] at hown
    simp only [tabK, List.range_zero, List.map_nil, List.nil_append, List.map_replicate, Nat.sub_zero]
    exact hown
  case round =>
    obtain ⟨k, hk, rfl, hown', hg'⟩ := hrel
    clear hown hgrow
    have hlt := length_tabK x k hk
    by_cases hkl : k < 256
    · obtain ⟨u, hcell⟩ : ∃ u, wr.cell? ⟨w.heap.size, k, none⟩ = some u := by
        rw [hown'.cellAt k (by omega)]; exact ⟨_, List.getElem?_eq_getElem (by simpa [hlt] using hkl)⟩
      have hfz := hown'.frozenAt k
      go_wp2_with (go_at_call 58; refine (mix_any _ _).mono ?_; rintro e w' ⟨rfl, rfl⟩)
      go_roundw
      case rel =>
        have hst := hown'.stored k (.int .u64 (tabE x k))
        refine ⟨k + 1, by omega, by go_num, ?_, grown_trans hg' hst.2 (by intro j hj; cases hj; exact Nat.le_refl _)⟩
        rw [← tabK_set x k hkl, List.map_set]
        exact hst.1
      case measure => simp [intOf]; omega
    · have : k = 256 := by omega
      subst this
      rw [tabK_all] at hown'
      go_wp2
      go_ret
      exact ⟨_, rfl, hown', hg'⟩
set_option maxRecDepth 100000 in
set_option maxHeartbeats 400000 in
theorem tabler_any (x : Int) (w : World) :
    Calls Try.prog 40 #[.int .u64 x] w fun e w' => ∃ v, e = .returned v ∧
      w'.ownsRow w.heap.size 22 1 v 256 ((tab x).map (.int .u64)) ∧ w.grownBy w' none := by
  obtain ⟨i0, hi, hz0, hz1, hz2⟩ := info_parts Try.infoU64
  go_enter Try.func40, Try.ntmps40
  go_wp2
  go_loopw [3, 4] (fun v i wr => ∃ k : Nat, k ≤ 256 ∧ i = .int .u64 (k + 1) ∧ wr.ownsRow w.heap.size 22 1 v k (((List.range k).map (tabE x)).map (.int .u64)) ∧ w.grownBy wr none) (fun _ i _ => 257 - (intOf i).toNat)
  case atStart => exact ⟨0, by omega, rfl, World.ownsRow_nil _ _ _ _, ⟨rfl, rfl, rfl, Nat.le_refl _, fun _ _ _ => rfl⟩⟩
  case round =>
    obtain ⟨k, hk, rfl, hown', hg'⟩ := hrel
    have hsz := hg'.size
    by_cases hkl : k < 256
    · go_wp2_with (first
        | (go_at_call 60; refine (mixr_any _ _).mono ?_; rintro e w' ⟨rfl, rfl⟩)
        | (at_builtin; refine wpList_app1 wr (.int .u64 (tabE x k)) rfl _ _ 61 rfl w.heap.size 22 (.int .u64 0) 8 Try.underlying61 Try.infoU64 rfl _ _ _ hown' rfl rfl rfl (by unfold maxLen; omega) (by omega) hsz ?_))
      intro v' w' hown'' hg''
      have hg3 := grown_own hg' hown' hg''
      go_wp2
      go_roundw
      case rel => exact ⟨k + 1, by omega, by go_num, by simpa [List.range_succ] using hown'', hg3⟩
      case measure => simp [intOf]; omega
    · have : k = 256 := by omega
      subst this
      go_wp2
      go_ret
      exact ⟨_, rfl, hown', hg'⟩
end Go.Proofs.Ythohjekfffebkaa
