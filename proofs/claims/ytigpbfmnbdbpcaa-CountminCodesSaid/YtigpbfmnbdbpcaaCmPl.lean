/- Plain laws of counting sketches: cells as sums kept at a maximum, estimates, merges. No condition. -/
import Derived.Test.YtigpbfmnbdbpcaaSatAdd
namespace Go.Proofs.Ytigpbfmnbdbpcaa
open Go.RowKit
set_option linter.unusedVariables false
set_option linter.unusedSimpArgs false
/-- One row's store. -/
def stepC (i : Nat) (wt : Int) (p : List Int × Bool) : List Int × Bool := (p.1.set i (addS (gI p.1 i) wt 4294967295), p.2 || addB (gI p.1 i) wt 4294967295)
/-- The cells and the flag after k rows. -/
def insK (idx : Nat → Nat) (wt : Int) (p : List Int × Bool) : Nat → List Int × Bool
  | 0 => p
  | k + 1 => stepC (idx k) wt (insK idx wt p k)
theorem length_stepC (i : Nat) (wt : Int) (p : List Int × Bool) : (stepC i wt p).1.length = p.1.length := by simp [stepC]
theorem length_insK (idx : Nat → Nat) (wt : Int) (p : List Int × Bool) (k : Nat) : (insK idx wt p k).1.length = p.1.length := by
  induction k with
  | zero => rfl
  | succ k ih => rw [insK, length_stepC, ih]
def okL (l : List Int) : Prop := ∀ x ∈ l, 0 ≤ x ∧ x ≤ 4294967295
theorem addS_in {a b : Int} (ha : 0 ≤ a) (hb : 0 ≤ b) : 0 ≤ addS a b 4294967295 ∧ addS a b 4294967295 ≤ 4294967295 := by unfold addS; split <;> omega
theorem okL_stepC {i : Nat} {wt : Int} {p : List Int × Bool} (hw : 0 ≤ wt) (h : okL p.1) : okL (stepC i wt p).1 := by
  intro x hx
  simp only [stepC] at hx
  rcases List.mem_or_eq_of_mem_set hx with h1 | rfl
  · exact h x h1
  · refine addS_in ?_ hw
    by_cases hi : i < p.1.length
    · exact (h _ (gI_mem hi)).1
    · unfold gI; rw [List.getD_eq_getElem?_getD, List.getElem?_eq_none (by omega)]; simp
theorem okL_insK {idx : Nat → Nat} {wt : Int} {p : List Int × Bool} (hw : 0 ≤ wt) (h : okL p.1) (k : Nat) : okL (insK idx wt p k).1 := by
  induction k with
  | zero => exact h
  | succ k ih => exact okL_stepC hw ih
/-- The sums, kept at the maximum. -/
def canL (n : Nat) (T : Nat → Int) : List Int := (List.range n).map fun i => min (T i) 4294967295
def canB (n : Nat) (T : Nat → Int) : Bool := (List.range n).any fun i => decide (4294967295 < T i)
def addF (idx : Nat → Nat) (wt : Int) (T : Nat → Int) : Nat → Nat → Int
  | 0 => T
  | k + 1 => fun i => if i = idx k then addF idx wt T k i + wt else addF idx wt T k i
theorem length_canL (n : Nat) (T : Nat → Int) : (canL n T).length = n := by simp [canL]
theorem gI_canL {n : Nat} {T : Nat → Int} {i : Nat} (h : i < n) : gI (canL n T) i = min (T i) 4294967295 := by
  rw [gI_eq (by rw [length_canL]; exact h)]; simp [canL]
theorem canB_iff {n : Nat} {T : Nat → Int} : canB n T = true ↔ ∃ i, i < n ∧ 4294967295 < T i := by
  unfold canB; rw [List.any_eq_true]; simp
theorem canB_false {n : Nat} {T : Nat → Int} (h : canB n T = false) {i : Nat} (hi : i < n) : T i ≤ 4294967295 := by
  by_cases hh : 4294967295 < T i
  · have := canB_iff.2 ⟨i, hi, hh⟩
    rw [h] at this; cases this
  · omega
theorem okL_canL {n : Nat} {T : Nat → Int} (hT : ∀ i, 0 ≤ T i) : okL (canL n T) := by
  intro x hx
  simp only [canL, List.mem_map] at hx
  obtain ⟨i, _, rfl⟩ := hx
  have := hT i
  omega
theorem addB_iff {a b : Int} (ha : 0 ≤ a) (hb : 0 ≤ b) : addB a b 4294967295 = true ↔ 4294967295 < a + b := by
  unfold addB; rw [decide_eq_true_iff]; omega
theorem addS_eq {a b : Int} (ha : 0 ≤ a) (hb : 0 ≤ b) : addS a b 4294967295 = min (a + b) 4294967295 := by
  unfold addS; split <;> omega
theorem ext_of_gI {l m : List Int} (h : l.length = m.length) (hg : ∀ i, i < l.length → gI l i = gI m i) : l = m := by
  apply List.ext_getElem h
  intro i h1 h2
  have := hg i h1
  rwa [gI_eq h1, gI_eq h2] at this
theorem gI_set (l : List Int) (i j : Nat) (x : Int) (hi : i < l.length) : gI (l.set i x) j = if j = i then x else gI l j := by
  unfold gI
  rw [List.getD_eq_getElem?_getD, List.getD_eq_getElem?_getD, List.getElem?_set]
  by_cases h : i = j
  · subst h; simp [hi]
  · rw [if_neg h, if_neg (fun e => h e.symm)]
theorem stepC_can {n i : Nat} {T : Nat → Int} {wt : Int} (hi : i < n) (hT : ∀ i, 0 ≤ T i) (hw : 0 ≤ wt) :
    stepC i wt (canL n T, canB n T) = (canL n (fun j => if j = i then T j + wt else T j), canB n (fun j => if j = i then T j + wt else T j)) := by
  have hTi := hT i
  unfold stepC
  simp only [gI_canL hi]
  refine Prod.ext ?_ ?_
  · refine ext_of_gI (by simp [length_canL]) ?_
    intro j hj
    simp only [List.length_set, length_canL] at hj
    rw [gI_set _ _ _ _ (by rw [length_canL]; exact hi), gI_canL hj, gI_canL hj, addS_eq (by omega) hw]
    by_cases h : j = i
    · subst h; rw [if_pos rfl, if_pos rfl]; omega
    · rw [if_neg h, if_neg h]
  · show (canB n T || addB (min (T i) 4294967295) wt 4294967295) = _
    rw [Bool.eq_iff_iff, Bool.or_eq_true, canB_iff, canB_iff, addB_iff (by omega) hw]
    constructor
    · rintro (⟨j, hj, h⟩ | h)
      · refine ⟨j, hj, ?_⟩
        show _ < (if j = i then T j + wt else T j)
        split <;> omega
      · refine ⟨i, hi, ?_⟩
        show _ < (if i = i then T i + wt else T i)
        rw [if_pos rfl]; omega
    · rintro ⟨j, hj, h⟩
      replace h : _ < (if j = i then T j + wt else T j) := h
      by_cases e : j = i
      · subst e; rw [if_pos rfl] at h
        by_cases hb : 4294967295 < T j
        · exact .inl ⟨j, hj, hb⟩
        · exact .inr (by omega)
      · rw [if_neg e] at h; exact .inl ⟨j, hj, h⟩
theorem addF_ge {idx : Nat → Nat} {wt : Int} {T : Nat → Int} (hw : 0 ≤ wt) (k i : Nat) : T i ≤ addF idx wt T k i := by
  induction k with
  | zero => exact Int.le_refl _
  | succ k ih => simp only [addF]; split <;> omega
theorem addF_nonneg {idx : Nat → Nat} {wt : Int} {T : Nat → Int} (hw : 0 ≤ wt) (hT : ∀ i, 0 ≤ T i) (k i : Nat) : 0 ≤ addF idx wt T k i := by
  have := addF_ge (idx := idx) (T := T) hw k i
  have := hT i
  omega
theorem insK_can {n : Nat} {idx : Nat → Nat} {T : Nat → Int} {wt : Int} {k : Nat} (hi : ∀ j, j < k → idx j < n) (hT : ∀ i, 0 ≤ T i) (hw : 0 ≤ wt) :
    insK idx wt (canL n T, canB n T) k = (canL n (addF idx wt T k), canB n (addF idx wt T k)) := by
  induction k with
  | zero => rfl
  | succ k ih => rw [insK, ih (fun j hj => hi j (by omega)), stepC_can (hi k (by omega)) (fun i => addF_nonneg hw hT k i) hw]; rfl
theorem addF_sum {idx : Nat → Nat} {wt : Int} {X Y : Nat → Int} (k i : Nat) : addF idx wt (fun i => X i + Y i) k i = X i + addF idx wt Y k i := by
  induction k with
  | zero => rfl
  | succ k ih => simp only [addF, ih]; split <;> omega
theorem addF_at {idx : Nat → Nat} {wt : Int} {T : Nat → Int} (hw : 0 ≤ wt) {k j : Nat} (hj : j < k) : T (idx j) + wt ≤ addF idx wt T k (idx j) := by
  induction k with
  | zero => omega
  | succ k ih =>
    simp only [addF]
    by_cases h : j < k
    · have := ih h; split <;> omega
    · obtain rfl : j = k := by omega
      rw [if_pos rfl]
      have := addF_ge (idx := idx) (T := T) hw j (idx j)
      omega
theorem addF_le {idx : Nat → Nat} {wt : Int} {T : Nat → Int} (hw : 0 ≤ wt) {k : Nat} (hinj : ∀ a b, a < k → b < k → idx a = idx b → a = b) (i : Nat) : addF idx wt T k i ≤ T i + wt ∧ ((∀ j, j < k → idx j ≠ i) → addF idx wt T k i = T i) := by
  induction k with
  | zero => exact ⟨by simp only [addF]; omega, fun _ => rfl⟩
  | succ k ih =>
    obtain ⟨h1, h2⟩ := ih (fun a b ha hb => hinj a b (by omega) (by omega))
    simp only [addF]
    by_cases h : i = idx k
    · rw [if_pos h]
      have := h2 (fun j hj e => by have := hinj j k (by omega) (by omega) (e.trans h); omega)
      refine ⟨by omega, fun hh => absurd h.symm (hh k (by omega))⟩
    · rw [if_neg h]
      exact ⟨h1, fun hh => h2 fun j hj => hh j (by omega)⟩
/-- The merge. -/
def mrgL (l m : List Int) : List Int := (List.range l.length).map fun i => addS (gI l i) (gI m i) 4294967295
def mrgB (l m : List Int) (c : Bool) : Nat → Bool
  | 0 => c
  | k + 1 => mrgB l m c k || addB (gI l k) (gI m k) 4294967295
theorem length_mrgL (l m : List Int) : (mrgL l m).length = l.length := by simp [mrgL]
theorem gI_mrgL {l m : List Int} {i : Nat} (h : i < l.length) : gI (mrgL l m) i = addS (gI l i) (gI m i) 4294967295 := by
  rw [gI_eq (by rw [length_mrgL]; exact h)]; simp [mrgL]
theorem mrgB_iff {l m : List Int} {c : Bool} {k : Nat} : mrgB l m c k = true ↔ c = true ∨ ∃ i, i < k ∧ addB (gI l i) (gI m i) 4294967295 = true := by
  induction k with
  | zero => simp [mrgB]
  | succ k ih =>
    simp only [mrgB, Bool.or_eq_true, ih]
    constructor
    · rintro ((h | ⟨i, hi, h⟩) | h)
      · exact .inl h
      · exact .inr ⟨i, by omega, h⟩
      · exact .inr ⟨k, by omega, h⟩
    · rintro (h | ⟨i, hi, h⟩)
      · exact .inl (.inl h)
      · by_cases e : i = k
        · subst e; exact .inr h
        · exact .inl (.inr ⟨i, by omega, h⟩)
theorem mrgL_can {n : Nat} {X Y : Nat → Int} (hX : ∀ i, 0 ≤ X i) (hY : ∀ i, 0 ≤ Y i) : mrgL (canL n X) (canL n Y) = canL n (fun i => X i + Y i) := by
  refine ext_of_gI (by rw [length_mrgL, length_canL, length_canL]) ?_
  intro i hi
  rw [length_mrgL] at hi
  rw [gI_mrgL hi]
  rw [length_canL] at hi
  have := hX i
  have := hY i
  rw [gI_canL hi, gI_canL hi, gI_canL hi, addS_eq (by omega) (by omega)]
  omega
theorem mrgB_can {n : Nat} {X Y : Nat → Int} (hX : ∀ i, 0 ≤ X i) (hY : ∀ i, 0 ≤ Y i) : mrgB (canL n X) (canL n Y) (canB n X || canB n Y) n = canB n (fun i => X i + Y i) := by
  rw [Bool.eq_iff_iff, mrgB_iff, Bool.or_eq_true, canB_iff, canB_iff, canB_iff]
  constructor
  · rintro ((⟨i, hi, h⟩ | ⟨i, hi, h⟩) | ⟨i, hi, h⟩)
    · refine ⟨i, hi, ?_⟩
      have := hY i
      show _ < X i + Y i
      omega
    · refine ⟨i, hi, ?_⟩
      have := hX i
      show _ < X i + Y i
      omega
    · have := hX i
      have := hY i
      rw [gI_canL hi, gI_canL hi, addB_iff (by omega) (by omega)] at h
      refine ⟨i, hi, ?_⟩
      show _ < X i + Y i
      omega
  · rintro ⟨i, hi, h⟩
    replace h : _ < X i + Y i := h
    have := hX i
    have := hY i
    by_cases hbx : 4294967295 < X i
    · exact .inl (.inl ⟨i, hi, hbx⟩)
    by_cases hby : 4294967295 < Y i
    · exact .inl (.inr ⟨i, hi, hby⟩)
    refine .inr ⟨i, hi, ?_⟩
    rw [gI_canL hi, gI_canL hi, addB_iff (by omega) (by omega)]
    omega
/-- The least of the cells of a key. -/
def estK (idx : Nat → Nat) (l : List Int) : Nat → Int
  | 0 => 4294967295
  | k + 1 => min (estK idx l k) (gI l (idx k))
theorem estK_in {idx : Nat → Nat} {l : List Int} (hl : okL l) {k : Nat} (hi : ∀ j, j < k → idx j < l.length) : 0 ≤ estK idx l k ∧ estK idx l k ≤ 4294967295 := by
  induction k with
  | zero => exact ⟨by simp [estK], by simp [estK]⟩
  | succ k ih =>
    have := ih (fun j hj => hi j (by omega))
    have := hl _ (gI_mem (hi k (by omega)))
    simp only [estK]; omega
theorem estK_le {idx : Nat → Nat} {l : List Int} {k j : Nat} (hj : j < k) : estK idx l k ≤ gI l (idx j) := by
  induction k with
  | zero => omega
  | succ k ih =>
    simp only [estK]
    by_cases h : j < k
    · have := ih h; omega
    · obtain rfl : j = k := by omega
      omega
theorem le_estK {idx : Nat → Nat} {l : List Int} {k : Nat} {x : Int} (hx : x ≤ 4294967295) (h : ∀ j, j < k → x ≤ gI l (idx j)) : x ≤ estK idx l k := by
  induction k with
  | zero => exact hx
  | succ k ih =>
    have := ih (fun j hj => h j (by omega))
    have := h k (by omega)
    simp only [estK]; omega
end Go.Proofs.Ytigpbfmnbdbpcaa
