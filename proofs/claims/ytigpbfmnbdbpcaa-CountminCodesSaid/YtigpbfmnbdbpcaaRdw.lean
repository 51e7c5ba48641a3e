/- The walk of the reference's reader of words. Conditions: the reader's cells lie in a block of their own. -/
import Derived.Test.YtigpbfmnbdbpcaaRdr
import Derived.Test.YtigpbfmnbdbpcaaWordDec
namespace Go.Proofs.Ytigpbfmnbdbpcaa
open Go.RowKit Go.ChangeShapes Go.WideShapes
set_option linter.unusedVariables false
set_option linter.unusedSimpArgs false
/-- Reading a word at k. -/
def rdWu (r : Int × Int × Int) (k : Nat) (bad : Bool) : Int × Nat × Bool := if bad = true ∨ r.2.2 ≠ 0 then (0, k, true) else (r.1, k + r.2.1.toNat, false)
def rdW (l : List Int) (k : Nat) (bad : Bool) : Int × Nat × Bool := rdWu (decW (l.drop k)) k bad
theorem rdWu_bad {r : Int × Int × Int} {k : Nat} {bad : Bool} (h : bad = true ∨ r.2.2 ≠ 0) : rdWu r k bad = (0, k, true) := by unfold rdWu; rw [if_pos h]
theorem rdWu_ok {r : Int × Int × Int} {k : Nat} (h : r.2.2 = 0) : rdWu r k false = (r.1, k + r.2.1.toNat, false) := by unfold rdWu; rw [if_neg (by simp [h])]
theorem decW_ok {l : List Int} (h : (decW l).2.2 = 0) : (decW l).2.1 = 8 ∧ 8 ≤ l.length ∧ (decW l).1 = beV (l.take 8) := by
  unfold decW at *
  split at h
  · simp at h
  · rename_i h1; rw [if_neg h1]; exact ⟨rfl, by omega, rfl⟩
theorem decW_err {l : List Int} (h : (decW l).2.2 ≠ 0) : (decW l).2.1 = 0 := by
  unfold decW at *
  split
  · rfl
  · rename_i h1; rw [if_neg h1] at h; simp at h
set_option maxRecDepth 100000 in
set_option maxHeartbeats 1600000 in
theorem rword_any (R : Nat) (v : Value) (l : List Int) (k : Nat) (bad : Bool) (w : World) (hv : Ints .u8 w v l) (hk : k ≤ l.length) (h : RdrAt R v k bad w) :
    Calls Try.prog 59 #[.pointer (some ⟨R, 0, none⟩)] w fun e w' => e = .returned (.int .u64 (rdW l k bad).1) ∧ RdrAt R v (rdW l k bad).2.1 (rdW l k bad).2.2 w' ∧ w.grownBy w' (some R) := by
  obtain ⟨a, cap, rfl, h1, h2, h3⟩ := id hv
  have CD := Lib.hid (fun m : Nat => (decWordr_any _ _ (w.drewN m) ((ints_cut hv hk).grown (grown_drew m))).mono (R' := fun e w' => e = .returned (.tuple #[.int .u64 (decW (l.drop k)).1, .int .i64 (decW (l.drop k)).2.1, .int .i64 (decW (l.drop k)).2.2]) ∧ w' = w.drewN m) fun e w' ⟨he, hw⟩ => ⟨he, hw.symm⟩)
  have hok := fun (h : (decW (l.drop k)).2.2 = 0) => decW_ok h
  have hrd : rdW l k bad = rdWu (decW (l.drop k)) k bad := rfl
  generalize rdW l k bad = r at *
  rw [List.length_drop] at hok
  generalize decW (l.drop k) = dd at *
  obtain ⟨n, u, er⟩ := dd
  simp only at CD hok
  have HR := Lib.hid hrd
  have HH := Lib.hid h
  obtain ⟨r0, r1, r2, r3, r4⟩ := h
  have e1 : (0 : Int) ≤ k := by omega
  have e2 : (k : Int) ≤ l.length := by omega
  have e3 : (k : Int) ≤ cap := by omega
  have e4 : (l.length : Int) ≤ cap := by omega
  clear h3 hrd hv
  by_cases hb : bad = true
  · subst hb
    have HF : Hid (r = (0, k, true)) := by show _ = _; rw [HR.out]; exact rdWu_bad (.inl rfl)
    clear HR hok
    go_enter Try.func59, Try.ntmps59
    go_wp2_with fail
    go_quiet ((go_at_call 69; exact Calls.quiet_of_same (CD.out _)))
    generalize (if cap = k then a else Option.map (fun x => x.add k) a) = aa
    go_wp2
    go_ret
    rw [HF.out]
    exact ⟨rfl, (HH.out.keep (grown_drew _)).bad, grown_drew_then (grown_cell _ _ _ _)⟩
  · have hb' : bad = false := by simpa using hb
    subst hb'
    clear hb
    by_cases he : er = 0
    · subst he
      have ho := hok rfl
      have HF : Hid (r = (n, k + 8, false)) := by show _ = _; rw [HR.out, rdWu_ok rfl]; simp only; rw [ho.1]; rfl
      obtain ⟨j, rfl⟩ : ∃ j : Nat, u = j := ⟨8, ho.1⟩
      have hj8 : j = 8 := by omega
      have hj : k + j ≤ l.length := by omega
      have H8 := Lib.hid hj8
      clear HR hok ho hj8
      go_enter Try.func59, Try.ntmps59
      go_wp2_with fail
      go_quiet ((go_at_call 69; exact Calls.quiet_of_same (CD.out _)))
      generalize (if cap = k then a else Option.map (fun x => x.add k) a) = aa
      unfold maxLen at h2
      go_wp2
      go_ret
      rw [HF.out, ← H8.out]
      exact ⟨rfl, by simpa using (HH.out.keep (grown_drew _)).on (k + j), grown_drew_then (grown_cell _ _ _ _)⟩
    · have HF : Hid (r = (0, k, true)) := by show _ = _; rw [HR.out]; exact rdWu_bad (.inr he)
      have hen : (er != 0) = true := by rw [bne_iff_ne]; exact he
      clear HR hok he
      go_enter Try.func59, Try.ntmps59
      go_wp2_with fail
      go_quiet ((go_at_call 69; exact Calls.quiet_of_same (CD.out _)))
      generalize (if cap = k then a else Option.map (fun x => x.add k) a) = aa
      go_wp2
      go_ret
      rw [HF.out]
      exact ⟨rfl, (HH.out.keep (grown_drew _)).bad, grown_drew_then (grown_cell _ _ _ _)⟩
end Go.Proofs.Ytigpbfmnbdbpcaa
