/- The walks of Hash. No condition. -/
import Derived.Test.YthohjekfffebkaaMixN
namespace Go.Proofs.Ythohjekfffebkaa
open Go.RowKit
set_option linter.unusedVariables false
set_option linter.unusedSimpArgs false
theorem rotl_any (x : Int) (w : World) :
    Calls Try.prog 57 #[.int .u64 x, .int .i64 5] w fun e w' => e = .returned (.int .u64 (rot5 x)) ∧ w' = w := by
  have hb : bits BinOp.and IntKind.u64 5 63 = 5 := by decide
  go_enter Try.func57, Try.ntmps57
  go_wp2
  go_ret
  exact ⟨rfl, rfl⟩
theorem hashK_step (t : List Int) (s : ByteArray) (k : Nat) (h : k < s.size) : hashK t s (k + 1) = IntKind.u64.wrap (bx (rot5 (hashK t s k)) (gI t ((s[k].toNat + k) % 256)) * 1099511628211) := by
  have : s.data.toList.getD k 0 = s[k] := by
    rw [List.getD_eq_getElem?_getD, List.getElem?_eq_getElem (by simpa using h)]
    rfl
  rw [hashK, this]; rfl
theorem hash_no (s : ByteArray) (v : Value) (l : List Int) (w : World) (hv : Ints .u64 w v l) (hl : l.length ≠ 256) :
    Calls Try.prog 35 #[v, .string s] w fun e w' => e = .returned (.tuple #[.int .u64 0, .int .i64 18]) ∧ w = w' := by
  obtain ⟨a, cap, rfl, h1, h2, h3, h4⟩ := hv
  have hne : ((l.length : Int) != 256) = true := by rw [bne_iff_ne]; omega
  unfold maxLen at h2
  have hm : (l.length : Int) ≤ 9223372036854775807 := by omega
  clear hl
  go_enter Try.func35, Try.ntmps35
  go_wp2
  go_ret2
  exact ⟨rfl, rfl⟩
set_option maxRecDepth 100000 in
set_option maxHeartbeats 400000 in
theorem hash_big (s : ByteArray) (v : Value) (l : List Int) (w : World) (hv : Ints .u64 w v l) (hl : l.length = 256) (hs : s.size ≤ 140737488355328) :
    Calls Try.prog 35 #[v, .string s] w fun e w' => e = .returned (.tuple #[.int .u64 (hashF l s), .int .i64 0]) ∧ Drawn w w' := by
  obtain ⟨a, cap, rfl, h1, h2, h3, h4⟩ := hv
  rcases h4 with rfl | ⟨b, off, rfl, hb, hc⟩
  · simp at hl
  rw [hl] at h1 hc ⊢
  have hm : 0 ≤ s.size % 256 ∧ s.size % 256 < 256 := by omega
  have hc0 := hc (s.size % 256) (by omega)
  go_enter Try.func35, Try.ntmps35
  go_wp2
  go_loopw [6, 19] (fun h i wr => ∃ k : Nat, k ≤ s.size ∧ i = .int .i64 k ∧ h = .int .u64 (hashK l s k) ∧ Drawn w wr) (fun _ i _ => s.size - (intOf i).toNat)
  case atStart => exact ⟨0, by omega, rfl, rfl, Drawn.refl w⟩
  case round =>
    obtain ⟨k, hk, rfl, rfl, hd⟩ := hrel
    by_cases hlt : k < s.size
    · have hb := s[k].toNat_lt
      have hck := (hd.cell _).trans (hc ((s[k].toNat + k) % 256) (by omega))
      have hst := hashK_step l s k hlt
      have HS := Lib.hid hst
      clear hst hc0 hc
      go_wp2
      have e1 : IntKind.i64.wrap (s[k].toNat : Int) = s[k].toNat := IntWalk.i64_in _ (by omega)
      have e2 : IntKind.i64.wrap ((s[k].toNat : Int) + k) = s[k].toNat + k := IntWalk.i64_in _ (by omega)
      have e3 : ((s[k].toNat : Int) + k).tmod 256 = (s[k].toNat + k) % 256 := by rw [Int.tmod_eq_emod_of_nonneg (by omega)]
      have e4 : (((s[k].toNat : Int) + k) % 256).toNat = (s[k].toNat + k) % 256 := by omega
      have e5 : ((s[k].toNat : Int) + k) % 256 < 256 := by omega
      have e6 : 0 ≤ ((s[k].toNat : Int) + k) % 256 := by omega
      go_quiet ((go_at_call 57; exact Calls.quiet_of_same (rotl_any _ _)))
      go_wp2
      go_roundw
      case rel => exact ⟨k + 1, by omega, by go_num, by rw [HS.out]; rfl, hd.more nq⟩
      case measure => simp [intOf]; omega
    · have : k = s.size := by omega
      subst this
      clear hc0 hc
      go_wp2_with (go_at_call 58; refine (mix_any _ _).mono ?_; rintro e w' ⟨rfl, rfl⟩)
      go_ret2
      exact ⟨rfl, hd⟩
theorem hashr_no (s : ByteArray) (v : Value) (l : List Int) (w : World) (hv : Ints .u64 w v l) (hl : l.length ≠ 256) :
    Calls Try.prog 39 #[v, .string s] w fun e w' => e = .returned (.tuple #[.int .u64 0, .int .i64 18]) ∧ w = w' := by
  obtain ⟨a, cap, rfl, h1, h2, h3, h4⟩ := hv
  have hne : ((l.length : Int) != 256) = true := by rw [bne_iff_ne]; omega
  unfold maxLen at h2
  have hm : (l.length : Int) ≤ 9223372036854775807 := by omega
  clear hl
  go_enter Try.func39, Try.ntmps39
  go_wp2
  go_ret2
  exact ⟨rfl, rfl⟩
set_option maxRecDepth 100000 in
set_option maxHeartbeats 400000 in
theorem hashr_big (s : ByteArray) (v : Value) (l : List Int) (w : World) (hv : Ints .u64 w v l) (hl : l.length = 256) (hs : s.size ≤ 140737488355328) :
    Calls Try.prog 39 #[v, .string s] w fun e w' => e = .returned (.tuple #[.int .u64 (hashF l s), .int .i64 0]) ∧ Drawn w w' := by
  obtain ⟨a, cap, rfl, h1, h2, h3, h4⟩ := hv
  rcases h4 with rfl | ⟨b, off, rfl, hb, hc⟩
  · simp at hl
  rw [hl] at h1 hc ⊢
  have hm : 0 ≤ s.size % 256 ∧ s.size % 256 < 256 := by omega
  have hc0 := hc (s.size % 256) (by omega)
  go_enter Try.func39, Try.ntmps39
  go_wp2
  go_loopw [6, 7] (fun h i wr => ∃ k : Nat, k ≤ s.size ∧ i = .int .i64 k ∧ h = .int .u64 (hashK l s k) ∧ Drawn w wr) (fun _ i _ => s.size - (intOf i).toNat)
  case atStart => exact ⟨0, by omega, rfl, rfl, Drawn.refl w⟩
  case round =>
    obtain ⟨k, hk, rfl, rfl, hd⟩ := hrel
    by_cases hlt : k < s.size
    · have hb := s[k].toNat_lt
      have hck := (hd.cell _).trans (hc ((s[k].toNat + k) % 256) (by omega))
      have hst := hashK_step l s k hlt
      have HS := Lib.hid hst
      clear hst hc0 hc
      go_wp2
      go_wp2
      go_roundw
      case rel => exact ⟨k + 1, by omega, by go_num, by rw [HS.out]; rfl, hd⟩
      case measure => simp [intOf]; omega
    · have : k = s.size := by omega
      subst this
      clear hc0 hc
      go_wp2_with (go_at_call 60; refine (mixr_any _ _).mono ?_; rintro e w' ⟨rfl, rfl⟩)
      go_ret2
      exact ⟨rfl, hd⟩
end Go.Proofs.Ythohjekfffebkaa
