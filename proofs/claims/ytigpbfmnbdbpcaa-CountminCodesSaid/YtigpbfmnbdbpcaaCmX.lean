/- The walks of countmin's reader. Conditions: the reader's cells lie in a block of their own. -/
import Derived.Test.YtigpbfmnbdbpcaaCmW
import Derived.Test.YtigpbfmnbdbpcaaWordDec
import Derived.Test.YtigpbfmnbdbpcaaUintDec
namespace Go.Proofs.Ytigpbfmnbdbpcaa
open Go.RowKit Go.ChangeShapes Go.WideShapes
set_option linter.unusedVariables false
set_option linter.unusedSimpArgs false
/-- The reader in block R: the bytes that are left, bad. -/
def PdrAt (R : Nat) (v : Value) (bad : Bool) (w : World) : Prop := Blk R #[v, .bool bad] 79 w
theorem PdrAt.keep {R : Nat} {v : Value} {bad : Bool} {w w' : World} (h : PdrAt R v bad w) (g : w.grownBy w' none) : PdrAt R v bad w' := Blk.keep h g
theorem rdU_rel (r : Int × Int × Int) (most : Int) (k : Nat) (bad : Bool) : rdU r most k bad = ((rdU r most 0 bad).1, k + (rdU r most 0 bad).2.1, (rdU r most 0 bad).2.2) := by
  unfold rdU; split <;> simp
theorem rdWu_rel (r : Int × Int × Int) (k : Nat) (bad : Bool) : rdWu r k bad = ((rdWu r 0 bad).1, k + (rdWu r 0 bad).2.1, (rdWu r 0 bad).2.2) := by
  unfold rdWu; split <;> simp
set_option maxRecDepth 100000 in
set_option maxHeartbeats 1000000 in
theorem pnum0_any (R : Nat) (u : Value) (l : List Int) (bad : Bool) (w0 w : World) (hu : Ints .u8 w0 u l) (g0 : w0.grownBy w none) (h : PdrAt R u bad w) :
    Calls Try.prog 56 #[.pointer (some ⟨R, 0, none⟩)] w fun e w' => e = .returned (.int .i64 (rdU (decU l) 4611686018427387904 0 bad).1) ∧ (∃ u', PdrAt R u' (rdU (decU l) 4611686018427387904 0 bad).2.2 w' ∧ Ints .u8 w0 u' (l.drop (rdU (decU l) 4611686018427387904 0 bad).2.1)) ∧ w.grownBy w' (some R) := by
  obtain ⟨a, cap, rfl, h1, h2, -, -⟩ := id hu
  unfold maxLen at h2
  have c1 := decUint_any _ l w (hu.grown g0)
  have hok := fun (h : (decU l).2.2 = 0) => decU_ok (l := l) hu.wfs (n := (decU l).1) (k := (decU l).2.1) (by rw [← h])
  generalize decU l = dd at *
  obtain ⟨n, j, er⟩ := dd
  simp only [tri] at c1 hok
  have C1 := Lib.hid c1
  have HU := Lib.hid hu
  have HH := Lib.hid h
  obtain ⟨r1, r2, r4⟩ := Blk.at2 h
  clear c1 h hu
  by_cases hb : bad = true
  · subst hb
    have HF : Hid (rdU (n, j, er) 4611686018427387904 0 true = (0, 0, true)) := rdU_bad (.inl rfl)
    rw [HF.out]
    clear hok
    go_enter Try.func56, Try.ntmps56
    go_wp2_with fail
    refine C1.out.mono ?_
    rintro e w2 ⟨rfl, rfl⟩
    go_wp2
    go_ret
    exact ⟨rfl, ⟨_, Blk.set HH.out 1 _, HU.out⟩, grown_cell _ _ _ _⟩
  · have hb' : bad = false := by simpa using hb
    subst hb'
    clear hb
    by_cases he : er = 0
    · subst he
      have ho := hok rfl
      obtain ⟨m, rfl⟩ : ∃ m : Nat, j = m := ⟨j.toNat, by omega⟩
      have HF : Hid (rdU (n, (m : Int), 0) 4611686018427387904 0 false = (n, m, false)) := by show _ = _; rw [rdU_ok rfl (by simp only; omega)]; simp
      rw [HF.out]
      have hj : m ≤ l.length := by omega
      have e1 : (0 : Int) ≤ m := by omega
      have e2 : (m : Int) ≤ l.length := by omega
      have e3 : (l.length : Int) ≤ cap := by omega
      clear hok ho
      go_enter Try.func56, Try.ntmps56
      go_wp2_with fail
      refine C1.out.mono ?_
      rintro e w2 ⟨rfl, rfl⟩
      go_wp2
      all_goals
        go_ret
        have hI := ints_cut HU.out hj
        first | rw [if_neg (by assumption)] at hI | rw [if_pos (by assumption), show cap - m = 0 by omega] at hI
        exact ⟨rfl, ⟨_, Blk.set HH.out 0 _, hI⟩, grown_cell _ _ _ _⟩
    · have HF : Hid (rdU (n, j, er) 4611686018427387904 0 false = (0, 0, true)) := rdU_bad (.inr (.inl he))
      rw [HF.out]
      have hen : (er != 0) = true := by rw [bne_iff_ne]; exact he
      clear hok he
      go_enter Try.func56, Try.ntmps56
      go_wp2_with fail
      refine C1.out.mono ?_
      rintro e w2 ⟨rfl, rfl⟩
      go_wp2
      go_ret
      exact ⟨rfl, ⟨_, Blk.set HH.out 1 _, HU.out⟩, grown_cell _ _ _ _⟩
theorem pnum_any (R : Nat) (u : Value) (l : List Int) (k : Nat) (bad : Bool) (w0 w : World) (hu : Ints .u8 w0 u (l.drop k)) (g0 : w0.grownBy w none) (h : PdrAt R u bad w) :
    Calls Try.prog 56 #[.pointer (some ⟨R, 0, none⟩)] w fun e w' => e = .returned (.int .i64 (rdN l 4611686018427387904 k bad).1) ∧ (∃ u', PdrAt R u' (rdN l 4611686018427387904 k bad).2.2 w' ∧ Ints .u8 w0 u' (l.drop (rdN l 4611686018427387904 k bad).2.1)) ∧ w.grownBy w' (some R) := by
  have := pnum0_any R u (l.drop k) bad w0 w hu g0 h
  unfold rdN
  rw [rdU_rel]
  simp only [List.drop_drop] at this
  exact this
set_option maxRecDepth 100000 in
set_option maxHeartbeats 1000000 in
theorem pword0_any (R : Nat) (u : Value) (l : List Int) (bad : Bool) (w0 w : World) (hu : Ints .u8 w0 u l) (g0 : w0.grownBy w none) (h : PdrAt R u bad w) :
    Calls Try.prog 57 #[.pointer (some ⟨R, 0, none⟩)] w fun e w' => e = .returned (.int .u64 (rdWu (decW l) 0 bad).1) ∧ (∃ u', PdrAt R u' (rdWu (decW l) 0 bad).2.2 w' ∧ Ints .u8 w0 u' (l.drop (rdWu (decW l) 0 bad).2.1)) ∧ w.grownBy w' (some R) := by
  obtain ⟨a, cap, rfl, h1, h2, -, -⟩ := id hu
  unfold maxLen at h2
  have c1 := decWord_any _ l w (hu.grown g0)
  have hok := fun (h : (decW l).2.2 = 0) => decW_ok (l := l) h
  generalize decW l = dd at *
  obtain ⟨n, j, er⟩ := dd
  simp only at c1 hok
  have C1 := Lib.hid c1
  have HU := Lib.hid hu
  have HH := Lib.hid h
  obtain ⟨r1, r2, r4⟩ := Blk.at2 h
  clear c1 h hu
  by_cases hb : bad = true
  · subst hb
    have HF : Hid (rdWu (n, j, er) 0 true = (0, 0, true)) := rdWu_bad (.inl rfl)
    rw [HF.out]
    clear hok
    go_enter Try.func57, Try.ntmps57
    go_wp2_with fail
    refine C1.out.mono ?_
    rintro e w2 ⟨rfl, rfl⟩
    go_wp2
    go_ret
    exact ⟨rfl, ⟨_, Blk.set HH.out 1 _, HU.out⟩, grown_cell _ _ _ _⟩
  · have hb' : bad = false := by simpa using hb
    subst hb'
    clear hb
    by_cases he : er = 0
    · subst he
      have ho := hok rfl
      obtain ⟨m, rfl⟩ : ∃ m : Nat, j = m := ⟨8, ho.1⟩
      have HF : Hid (rdWu (n, (m : Int), 0) 0 false = (n, m, false)) := by show _ = _; rw [rdWu_ok rfl]; simp
      rw [HF.out]
      have hj : m ≤ l.length := by omega
      have e1 : (0 : Int) ≤ m := by omega
      have e2 : (m : Int) ≤ l.length := by omega
      have e3 : (l.length : Int) ≤ cap := by omega
      clear hok ho
      go_enter Try.func57, Try.ntmps57
      go_wp2_with fail
      refine C1.out.mono ?_
      rintro e w2 ⟨rfl, rfl⟩
      go_wp2
      all_goals
        go_ret
        have hI := ints_cut HU.out hj
        first | rw [if_neg (by assumption)] at hI | rw [if_pos (by assumption), show cap - m = 0 by omega] at hI
        exact ⟨rfl, ⟨_, Blk.set HH.out 0 _, hI⟩, grown_cell _ _ _ _⟩
    · have HF : Hid (rdWu (n, j, er) 0 false = (0, 0, true)) := rdWu_bad (.inr he)
      rw [HF.out]
      have hen : (er != 0) = true := by rw [bne_iff_ne]; exact he
      clear hok he
      go_enter Try.func57, Try.ntmps57
      go_wp2_with fail
      refine C1.out.mono ?_
      rintro e w2 ⟨rfl, rfl⟩
      go_wp2
      go_ret
      exact ⟨rfl, ⟨_, Blk.set HH.out 1 _, HU.out⟩, grown_cell _ _ _ _⟩
theorem pword_any (R : Nat) (u : Value) (l : List Int) (k : Nat) (bad : Bool) (w0 w : World) (hu : Ints .u8 w0 u (l.drop k)) (g0 : w0.grownBy w none) (h : PdrAt R u bad w) :
    Calls Try.prog 57 #[.pointer (some ⟨R, 0, none⟩)] w fun e w' => e = .returned (.int .u64 (rdW l k bad).1) ∧ (∃ u', PdrAt R u' (rdW l k bad).2.2 w' ∧ Ints .u8 w0 u' (l.drop (rdW l k bad).2.1)) ∧ w.grownBy w' (some R) := by
  have := pword0_any R u (l.drop k) bad w0 w hu g0 h
  unfold rdW
  rw [rdWu_rel]
  simp only [List.drop_drop] at this
  exact this
end Go.Proofs.Ytigpbfmnbdbpcaa
