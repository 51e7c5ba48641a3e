/- Parts of the proof, laid together. No condition. -/
import Derived.Test.YthpbblhpapnbfaaGreatK4
import Derived.Deep.Slices
import Derived.ChangeArms
import Derived.Below
set_option linter.unusedVariables false
set_option linter.unusedSimpArgs false
namespace Go.Proofs.YthpbblhpapnbfaaGreat
open Go.RowKit
theorem WR {α : Type} {l : List α} (hl : l.length ≤ 4611686018427387904) {B : (Int → Prop) → Int → Prop} {J : Prop} (P : α → Prop)
    (hB : ∀ (j : Nat) x, j < l.length → l[j]? = some x → ∀ X : Int → Prop, (P x → X (IntKind.i64.wrap ((j : Int) + 1))) → B X (j : Int)) (hJ : (∀ x ∈ l, P x) → J) :
    lp (fun X s => (decide (s < (l.length : Int)) = true → B X s) ∧ (decide (s < (l.length : Int)) = false → J)) 0 := by
  refine Mg l.length hl (fun j => ∀ i, i < j → ∀ y, l[i]? = some y → P y) (fun i hi => absurd hi (by omega)) ?_ ?_
  · intro j hj hI X hX
    obtain ⟨x, hx⟩ : ∃ x, l[j]? = some x := ⟨l[j], by simp [hj]⟩
    refine hB j x hj hx X fun h0 => hX fun i hi y hy => ?_
    by_cases e : i = j
    · subst e; rw [hx] at hy; cases hy; exact h0
    · exact hI i (by omega) y hy
  · intro hI
    refine hJ fun x hx => ?_
    obtain ⟨j, hj⟩ := List.getElem?_of_mem hx
    have := hj
    rw [List.getElem?_eq_some_iff] at this
    exact hI j this.1 x hj
theorem Vg (t : QF) : ∃ v, Zs t v ∧ (v = 0 → (0 ≤ t.fh ∧ t.fh ≤ 4294967295) ∧ 0 ≤ t.f0 ∧ t.f0 ≤ 4294967295) := by
  refine WH (Post := fun v => v = 0 → (0 ≤ t.fh ∧ t.fh ≤ 4294967295) ∧ 0 ≤ t.f0 ∧ t.f0 ≤ 4294967295) ?_
  unfold ZO
  simp only [Zn, exists_eq_left, XA, JV]
  refine ⟨_, fun _ => rfl, fun _ h => by simp at h, fun h _ => ?_⟩
  simp [wI] at h
  exact ⟨h.1.1, h.1.2⟩
def okCm (c : Qm) : Prop := (1 ≤ c.fk ∧ c.fk ≤ 8) ∧ (1 ≤ c.fg ∧ c.fg ≤ 64) ∧ (c.f6.length : Int) = c.fk * c.fg ∧ ∀ x ∈ c.f6, 0 ≤ x ∧ x ≤ 4294967295
theorem ER {d s : Int} (h1 : 1 ≤ d ∧ d ≤ 8) (h2 : 1 ≤ s ∧ s ≤ 64) : 1 ≤ d * s ∧ d * s ≤ 512 := by
  have h : d = 1 ∨ d = 2 ∨ d = 3 ∨ d = 4 ∨ d = 5 ∨ d = 6 ∨ d = 7 ∨ d = 8 := by omega
  rcases h with rfl | rfl | rfl | rfl | rfl | rfl | rfl | rfl <;> omega
theorem Jm (c : Qm) : ∃ v, Zj c v ∧ (v = 0 → okCm c) := by
  refine YJ (Post := fun v => v = 0 → okCm c) ?_
  unfold Zq
  simp only [Zn, exists_eq_left, XA, JV, jn]
  refine ⟨_, fun _ => rfl, fun _ h => by simp at h, fun h => ?_⟩
  have h' : (1 ≤ c.fk ∧ c.fk ≤ 8) ∧ 1 ≤ c.fg ∧ c.fg ≤ 64 := by simpa [wI] using h
  have hm := ER h'.1 h'.2
  rw [Ze (by omega)]
  refine ⟨fun _ h => by simp at h, fun hl => ?_⟩
  have hl' : (c.f6.length : Int) = c.fk * c.fg := by simpa using hl
  refine WR (by omega) (fun x => 0 ≤ x ∧ x ≤ 4294967295) ?_ ?_
  · intro j x hj hx X hX
    refine ⟨x, V3 rfl hx, fun _ h => by simp at h, fun h => hX (by simpa [wI] using h)⟩
  · intro hP _; exact ⟨h'.1, h'.2, hl', hP⟩
def okLl (c : Qw) : Prop := (2 ≤ c.fx ∧ c.fx ≤ 8) ∧ (c.fq.length : Int) = Xg .i64 1 (IntKind.u64.wrap c.fx) ∧ c.fq.length ≤ 256 ∧ ∀ x ∈ c.fq, 0 ≤ x ∧ x ≤ 63
theorem IL {p : Int} (h : 2 ≤ p ∧ p ≤ 8) : 4 ≤ Xg .i64 1 (IntKind.u64.wrap p) ∧ Xg .i64 1 (IntKind.u64.wrap p) ≤ 256 := by
  have h : p = 2 ∨ p = 3 ∨ p = 4 ∨ p = 5 ∨ p = 6 ∨ p = 7 ∨ p = 8 := by omega
  rcases h with rfl | rfl | rfl | rfl | rfl | rfl | rfl <;> decide
theorem JW (c : Qw) : ∃ v, Zo c v ∧ (v = 0 → okLl c) := by
  refine Wj (Post := fun v => v = 0 → okLl c) ?_
  unfold ZD
  simp only [Zn, exists_eq_left, XA, JV, jn]
  refine ⟨fun _ h => by simp at h, fun h => ?_⟩
  have h' : 2 ≤ c.fx ∧ c.fx ≤ 8 := by simpa [wI] using h
  have hm := IL h'
  refine ⟨by rw [Up (by omega)]; omega, fun _ h => by simp at h, fun hl => ?_⟩
  have hl' : (c.fq.length : Int) = Xg .i64 1 (IntKind.u64.wrap c.fx) := by simpa using hl
  refine WR (by omega) (fun x => 0 ≤ x ∧ x ≤ 63) ?_ ?_
  · intro j x hj hx X hX
    refine ⟨x, V3 rfl hx, fun _ h => by simp at h, fun h => hX ?_⟩
    rw [Ze (by omega)] at h
    simp [wI] at h; omega
  · intro hP _; exact ⟨h', hl', by omega, hP⟩
theorem WS (l : List Q3) (k : ByteArray) (hl : l.length ≤ 1000000) : ∃ v, V8 l k v ∧ -1 ≤ v ∧ v < l.length := by
  refine FM (Post := fun v => -1 ≤ v ∧ v < (l.length : Int)) ?_
  unfold VP
  simp only [jn]
  refine WR (by omega) (fun _ => True) ?_ (fun _ => by omega)
  intro j x hj hx X hX
  exact ⟨x, V3 rfl hx, fun _ => by omega, fun _ => hX trivial⟩
def okE (e : Q3) : Prop := (1 ≤ e.f3.size ∧ e.f3.size ≤ 32) ∧ (1 ≤ e.fv ∧ e.fv ≤ 1099511627776) ∧ 0 ≤ e.fa6 ∧ e.fa6 < e.fv
def LD (c : QM) : Prop := (1 ≤ c.fg ∧ c.fg ≤ 32) ∧ (0 ≤ c.fh ∧ c.fh ≤ 1099511627776) ∧ (c.fc.length : Int) ≤ c.fg ∧ ∀ e ∈ c.fc, okE e
theorem VN (c : QM) : ∃ v, ZL c v ∧ (v = 0 → LD c) := by
  refine Uz (Post := fun v => v = 0 → LD c) ?_
  unfold K3
  simp only [Zn, Vv, exists_eq_left, XA, JV, jn]
  refine ⟨_, fun _ => rfl, fun _ h => by simp at h, fun h => ?_⟩
  have h' : (1 ≤ c.fg ∧ c.fg ≤ 32) ∧ 0 ≤ c.fh ∧ c.fh ≤ 1099511627776 := by simpa [wI] using h
  refine ⟨fun _ h => by simp at h, fun hl => ?_⟩
  have hl' : (c.fc.length : Int) ≤ c.fg := by simpa using hl
  refine WR (by omega) okE ?_ (fun hP _ => ⟨h'.1, h'.2, hl', hP⟩)
  intro j x hj hx X hX
  refine ⟨x, V3 rfl hx, fun _ h => by simp at h, fun hk => ?_⟩
  have hk' : 1 ≤ x.f3.size ∧ x.f3.size ≤ 32 := by simpa using hk
  refine ⟨_, fun _ => rfl, fun _ h => by simp at h, fun hc => ?_⟩
  have hc1 : 1 ≤ x.fv ∧ x.fv ≤ 1099511627776 := by simp [wI] at hc; exact hc.1
  rw [Ze (by omega)] at hc
  have hc2 : 0 ≤ x.fa6 ∧ x.fa6 ≤ x.fv - 1 := by simp [wI] at hc; exact ⟨hc.2.1, by omega⟩
  obtain ⟨v, hv, _⟩ := WS (List.take (Int.toNat (j : Int)) c.fc) x.f3 (by simp; omega)
  refine ⟨⟨by omega, by omega⟩, v, hv, fun _ h => by simp at h, fun _ => ?_⟩
  by_cases h0 : j = 0
  · subst h0
    refine ⟨x, fun h => by simp at h, true, fun h => by simp at h, fun _ h => by simp at h, fun _ => hX ⟨hk', hc1, hc2.1, by omega⟩⟩
  · obtain ⟨y, hy⟩ : ∃ y, c.fc[j - 1]? = some y := ⟨c.fc[j - 1]'(by omega), by simp⟩
    refine ⟨y, fun _ => V3 (j := j - 1) (by rw [Ze (by omega)]; omega) hy, _, fun _ => rfl, fun _ h => by simp at h, fun _ => hX ⟨hk', hc1, hc2.1, by omega⟩⟩
def okFr (c : Qo) : Prop := (1 ≤ c.fg ∧ c.fg ≤ 32) ∧ (0 ≤ c.fh ∧ c.fh ≤ 1099511627776) ∧ (0 ≤ c.fa4 ∧ c.fa4 ≤ 1099511627776) ∧ (c.fc.length : Int) ≤ c.fg ∧ ∀ e ∈ c.fc, okE e
theorem Jn (c : Qo) : ∃ v, Zk c v ∧ (v = 0 → okFr c) := by
  refine YK (Post := fun v => v = 0 → okFr c) ?_
  unfold Zr
  simp only [Zn, Vv, exists_eq_left, XA, JV, jn]
  refine ⟨_, fun _ => rfl, _, fun _ => rfl, fun _ h => by simp at h, fun h => ?_⟩
  have h' : ((1 ≤ c.fg ∧ c.fg ≤ 32) ∧ 0 ≤ c.fh ∧ c.fh ≤ 1099511627776) ∧ 0 ≤ c.fa4 ∧ c.fa4 ≤ 1099511627776 := by simpa [wI] using h
  refine ⟨fun _ h => by simp at h, fun hl => ?_⟩
  have hl' : (c.fc.length : Int) ≤ c.fg := by simpa using hl
  refine WR (by omega) okE ?_ (fun hP _ => ⟨h'.1.1, h'.1.2, h'.2, hl', hP⟩)
  intro j x hj hx X hX
  refine ⟨x, V3 rfl hx, fun _ h => by simp at h, fun hk => ?_⟩
  have hk' : 1 ≤ x.f3.size ∧ x.f3.size ≤ 32 := by simpa using hk
  refine ⟨fun _ h => by simp at h, fun hc => ?_⟩
  have hc1 : (1 ≤ x.fv ∧ x.fv ≤ 1099511627776) ∧ x.fa6 = 0 := by simpa [wI] using hc
  by_cases h0 : j = 0
  · subst h0
    refine ⟨x, fun h => by simp at h, fun _ h => by simp at h, fun _ => hX ⟨hk', hc1.1, by omega, by omega⟩⟩
  · obtain ⟨y, hy⟩ : ∃ y, c.fc[j - 1]? = some y := ⟨c.fc[j - 1]'(by omega), by simp⟩
    refine ⟨y, fun _ => V3 (j := j - 1) (by rw [Ze (by omega)]; omega) hy, fun _ h => by simp at h, fun _ => hX ⟨hk', hc1.1, by omega, by omega⟩⟩
def Mj (c : Qz) : Prop := (2 ≤ c.fg ∧ c.fg ≤ 32 ∧ c.fg % 2 = 0) ∧ (0 ≤ c.fh ∧ c.fh ≤ 1099511627776) ∧ (0 ≤ c.f9 ∧ c.f9 ≤ 1099511627776) ∧ c.fm.length ≤ 41 ∧ ∀ l ∈ c.fm, (l.length : Int) < c.fg ∧ ∀ s ∈ l, 1 ≤ s.size ∧ s.size ≤ 32
theorem Vh (c : Qz) : ∃ v, Zt c v ∧ (v = 0 → Mj c) := by
  refine WJ (Post := fun v => v = 0 → Mj c) ?_
  unfold ZP
  simp only [Zn, Vv, exists_eq_left, XA, JV, jn]
  refine ⟨_, fun _ => rfl, _, fun _ => rfl, fun _ h => by simp at h, fun h => ?_⟩
  have h' : (((2 ≤ c.fg ∧ c.fg ≤ 32) ∧ ¬ c.fg.tmod 2 = 1) ∧ 0 ≤ c.fh ∧ c.fh ≤ 1099511627776) ∧ 0 ≤ c.f9 ∧ c.f9 ≤ 1099511627776 := by simpa [wI] using h
  have he : c.fg % 2 = 0 := by have := h'.1.1.2; rw [Kf (by omega)] at this; omega
  refine ⟨fun _ h => by simp at h, fun hl => ?_⟩
  have hl' : c.fm.length ≤ 41 := by simp at hl; omega
  clear h hl
  refine Kk (I := fun k s => ∃ j : Nat, s.2 = (j : Int) ∧ j ≤ c.fm.length ∧ k = c.fm.length - j ∧ ∀ i, i < j → ∀ y, c.fm[i]? = some y → (y.length : Int) < c.fg ∧ ∀ s ∈ y, 1 ≤ s.size ∧ s.size ≤ 32) ?_ (k := c.fm.length) ⟨0, rfl, by omega, by omega, fun i hi => absurd hi (by omega)⟩
  rintro k ⟨tot, i⟩ ⟨j, hj, hj1, hk, hI⟩ X hX
  simp only at hj ⊢
  subst hj
  refine ⟨fun h => ?_, fun h => ?_⟩
  · have hlt : j < c.fm.length := by simp at h; omega
    obtain ⟨L, hL⟩ : ∃ x, c.fm[j]? = some x := ⟨c.fm[j], by simp [hlt]⟩
    have hx : ix c.fm (j : Int) L := V3 rfl hL
    refine ⟨L, hx, fun _ h => by simp at h, fun h2 => ?_⟩
    have h2' : (L.length : Int) < c.fg := by simpa using h2
    refine Kk (I := fun k s => ∃ m : Nat, s = (m : Int) ∧ m ≤ L.length ∧ k = L.length - m ∧ ∀ i, i < m → ∀ y, L[i]? = some y → 1 ≤ y.size ∧ y.size ≤ 32) ?_ (k := L.length) ⟨0, rfl, by omega, by omega, fun i hi => absurd hi (by omega)⟩
    rintro k2 s ⟨m, rfl, hm1, hk2, hI2⟩ X2 hX2
    refine ⟨L, hx, fun h3 => ?_, fun h3 => ?_⟩
    · have hm : m < L.length := by simp at h3; omega
      obtain ⟨y, hy⟩ : ∃ x, L[m]? = some x := ⟨L[m], by simp [hm]⟩
      refine ⟨L, hx, y, V3 rfl hy, fun _ h => by simp at h, fun h4 => ?_⟩
      have h4' : 1 ≤ y.size ∧ y.size ≤ 32 := by simpa using h4
      refine ⟨L, fun _ => hx, y, fun _ => V3 rfl hy, L, fun _ => hx, ?_⟩
      have go : X2 (IntKind.i64.wrap ((m : Int) + 1)) := by
        rw [Ze (by omega)]
        refine hX2 (L.length - (m + 1)) _ (by omega) ⟨m + 1, by omega, by omega, rfl, fun i hi z hz => ?_⟩
        by_cases e : i = m
        · subst e; rw [hy] at hz; cases hz; exact h4'
        · exact hI2 i (by omega) z hz
      by_cases h0 : m = 0
      · subst h0
        exact ⟨y, fun h => by simp at h, fun _ h => by simp at h, fun _ => go⟩
      · obtain ⟨z, hz⟩ : ∃ z, L[m - 1]? = some z := ⟨L[m - 1]'(by omega), by simp⟩
        exact ⟨z, fun _ => V3 (j := m - 1) (by rw [Ze (by omega)]; omega) hz, fun _ h => by simp at h, fun _ => go⟩
    · have hm : m = L.length := by simp at h3; omega
      subst hm
      refine ⟨L, hx, by rw [Up (by omega)]; omega, ?_⟩
      rw [Ze (n := (j : Int) + 1) (by omega)]
      refine hX (c.fm.length - (j + 1)) _ (by omega) ⟨j + 1, by simp, by omega, rfl, fun i hi z hz => ?_⟩
      by_cases e : i = j
      · subst e; rw [hL] at hz; cases hz
        refine ⟨h2', fun s hs => ?_⟩
        obtain ⟨i, hi⟩ := List.getElem?_of_mem hs
        have := hi
        rw [List.getElem?_eq_some_iff] at this
        exact hI2 i this.1 s hi
      · exact hI i (by omega) z hz
  · have hge : j = c.fm.length := by simp at h; omega
    have fin : Mj c := by
      refine ⟨⟨h'.1.1.1.1, h'.1.1.1.2, he⟩, h'.1.2, h'.2, hl', fun l hl => ?_⟩
      obtain ⟨i, hi⟩ := List.getElem?_of_mem hl
      have := hi
      rw [List.getElem?_eq_some_iff] at this
      exact hI i (by rw [hge]; exact this.1) l hi
    by_cases h0 : c.fm.length = 0
    · refine ⟨[], fun h => by simp [h0] at h, fun _ h => by simp at h, fun _ => ⟨fun _ h => by simp at h, fun _ _ => fin⟩⟩
    · obtain ⟨z, hz⟩ : ∃ z, c.fm[c.fm.length - 1]? = some z := ⟨c.fm[c.fm.length - 1]'(by omega), by simp⟩
      exact ⟨z, fun _ => V3 (j := c.fm.length - 1) (by rw [Ze (by omega)]; omega) hz, fun _ h => by simp at h, fun _ => ⟨fun _ h => by simp at h, fun _ _ => fin⟩⟩
theorem Wg (a b : List Int) (ha : a.length ≤ 1000000) : ∃ v, KR a b v := by
  obtain ⟨v, hv, _⟩ := BH (Post := fun _ => True) (a0 := a) (a1 := b) (by
    unfold KQ
    simp only [jn]
    refine ⟨fun _ => trivial, fun h => ?_⟩
    have hl : a.length = b.length := by simp at h; omega
    refine WR (by omega) (fun _ => True) ?_ (fun _ => trivial)
    intro j x hj hx X hX
    obtain ⟨y, hy⟩ : ∃ y, b[j]? = some y := ⟨b[j]'(by omega), by simp⟩
    exact ⟨x, V3 rfl hx, y, V3 rfl hy, fun _ => trivial, fun _ => hX trivial⟩)
  exact ⟨v, hv⟩
theorem Yh (a b : List Q3) (ha : a.length ≤ 1000000) : ∃ v, K5 a b v := by
  obtain ⟨v, hv, _⟩ := UA (Post := fun _ => True) (a0 := a) (a1 := b) (by
    unfold K4
    simp only [jn]
    refine ⟨fun _ => trivial, fun h => ?_⟩
    have hl : a.length = b.length := by simp at h; omega
    refine WR (by omega) (fun _ => True) ?_ (fun _ => trivial)
    intro j x hj hx X hX
    obtain ⟨y, hy⟩ : ∃ y, b[j]? = some y := ⟨b[j]'(by omega), by simp⟩
    exact ⟨x, V3 rfl hx, y, V3 rfl hy, fun _ => trivial, fun _ => hX trivial⟩)
  exact ⟨v, hv⟩
theorem B7 (a b : Qz) (ha : a.fm.length ≤ 1000000) (ha2 : ∀ l ∈ a.fm, l.length ≤ 1000000) : ∃ v, Jf a b v := by
  obtain ⟨v, hv, _⟩ := AT (Post := fun _ => True) (a0 := a) (a1 := b) (by
    unfold Kv
    simp only [jn, JV]
    refine ⟨fun _ => trivial, fun h => ?_⟩
    have hl : a.fm.length = b.fm.length := by
      have := (Bool.or_eq_false_iff.1 h).2
      simp at this; omega
    refine WR (by omega) (fun _ => True) ?_ (fun _ => trivial)
    intro j x hj hx X hX
    obtain ⟨y, hy⟩ : ∃ y, b.fm[j]? = some y := ⟨b.fm[j]'(by omega), by simp⟩
    have hxl : x.length ≤ 1000000 := ha2 x (List.mem_of_getElem? hx)
    refine ⟨x, V3 rfl hx, y, V3 rfl hy, fun _ => trivial, fun h2 => ?_⟩
    have hl2 : x.length = y.length := by simp at h2; omega
    refine Kk (I := fun k s => ∃ m : Nat, s = (m : Int) ∧ m ≤ x.length ∧ k = x.length - m) ?_ (k := x.length) ⟨0, rfl, by omega, by omega⟩
    rintro k s ⟨m, rfl, hm, hk⟩ X2 hX2
    refine ⟨x, V3 rfl hx, fun h3 => ?_, fun _ => hX trivial⟩
    have hm2 : m < x.length := by simp at h3; omega
    obtain ⟨p, hp⟩ : ∃ p, x[m]? = some p := ⟨x[m]'(by omega), by simp⟩
    obtain ⟨q, hq⟩ : ∃ q, y[m]? = some q := ⟨y[m]'(by omega), by simp⟩
    refine ⟨x, V3 rfl hx, p, V3 rfl hp, y, V3 rfl hy, q, V3 rfl hq, fun _ => trivial, fun _ => ?_⟩
    rw [Ze (by omega)]
    exact hX2 (x.length - (m + 1)) _ (by omega) ⟨m + 1, by simp, by omega, rfl⟩)
  exact ⟨v, hv⟩
def G4 (s : Ql) : Prop := s.fi.f6.length ≤ 1000000 ∧ s.f2.fq.length ≤ 1000000 ∧ s.fa0.fc.length ≤ 1000000 ∧ s.fj.fc.length ≤ 1000000 ∧ s.fy.fm.length ≤ 1000000 ∧ ∀ l ∈ s.fy.fm, l.length ≤ 1000000
theorem Ua (a b : Qm) (ha : a.f6.length ≤ 1000000) : ∃ v, Jb a b v := by
  obtain ⟨v, hv⟩ := Wg a.f6 b.f6 ha
  exact ⟨_, v, fun _ => hv, rfl⟩
theorem AE (a b : Qw) (ha : a.fq.length ≤ 1000000) : ∃ v, JY a b v := by
  obtain ⟨v, hv⟩ := Wg a.fq b.fq ha
  exact ⟨_, v, fun _ => hv, rfl⟩
theorem CS (a b : QM) (ha : a.fc.length ≤ 1000000) : ∃ v, Xb a b v := by
  obtain ⟨v, hv⟩ := Yh a.fc b.fc ha
  exact ⟨_, v, fun _ => hv, rfl⟩
theorem Ub (a b : Qo) (ha : a.fc.length ≤ 1000000) : ∃ v, Jc a b v := by
  obtain ⟨v, hv⟩ := Yh a.fc b.fc ha
  exact ⟨_, v, fun _ => hv, rfl⟩
theorem ES (a b : Ql) (h : G4 a) : ∃ v, XW a b v := by
  obtain ⟨h1, h2, h3, h4, h5, h6⟩ := h
  obtain ⟨v1, e1⟩ := Ua a.fi b.fi h1
  obtain ⟨v2, e2⟩ := AE a.f2 b.f2 h2
  obtain ⟨v3, e3⟩ := CS a.fa0 b.fa0 h3
  obtain ⟨v4, e4⟩ := Ub a.fj b.fj h4
  obtain ⟨v5, e5⟩ := B7 a.fy b.fy h5 h6
  exact ⟨_, v1, fun _ => e1, v2, fun _ => e2, v3, fun _ => e3, v4, fun _ => e4, v5, fun _ => e5, rfl⟩
theorem ET (s : Ql) : ∃ v, Xc s v := by
  unfold Xc W0
  simp only [jn]
  generalize s.fa.ff = k
  by_cases k1 : k = 1
  · subst k1; exact ⟨_, fun _ => rfl, fun h => by simp at h⟩
  have e1 : (k == 1) = false := by simp [k1]
  by_cases k2 : k = 2
  · subst k2; exact ⟨_, fun h => by simp at h, fun _ => ⟨fun _ => rfl, fun h => by simp at h⟩⟩
  have e2 : (k == 2) = false := by simp [k2]
  by_cases k3 : k = 3
  · subst k3; exact ⟨_, fun h => by simp at h, fun _ => ⟨fun h => by simp at h, fun _ => ⟨fun _ => rfl, fun h => by simp at h⟩⟩⟩
  have e3 : (k == 3) = false := by simp [k3]
  by_cases k4 : k = 4
  · subst k4; exact ⟨_, fun h => by simp at h, fun _ => ⟨fun h => by simp at h, fun _ => ⟨fun h => by simp at h, fun _ => ⟨fun _ => rfl, fun h => by simp at h⟩⟩⟩⟩
  have e4 : (k == 4) = false := by simp [k4]
  by_cases k5 : k = 5
  · subst k5; exact ⟨_, fun h => by simp at h, fun _ => ⟨fun h => by simp at h, fun _ => ⟨fun h => by simp at h, fun _ => ⟨fun h => by simp at h, fun _ => ⟨fun _ => rfl, fun h => by simp at h⟩⟩⟩⟩⟩
  have e5 : (k == 5) = false := by simp [k5]
  by_cases k6 : k = 6
  · subst k6; exact ⟨_, fun h => by simp at h, fun _ => ⟨fun h => by simp at h, fun _ => ⟨fun h => by simp at h, fun _ => ⟨fun h => by simp at h, fun _ => ⟨fun h => by simp at h, fun _ => ⟨fun _ => rfl, fun h => by simp at h⟩⟩⟩⟩⟩⟩
  have e6 : (k == 6) = false := by simp [k6]
  simp only [e1, e2, e3, e4, e5, e6]
  exact ⟨_, fun h => by simp at h, fun _ => ⟨fun h => by simp at h, fun _ => ⟨fun h => by simp at h, fun _ => ⟨fun h => by simp at h, fun _ => ⟨fun h => by simp at h, fun _ => ⟨fun h => by simp at h, fun _ => rfl⟩⟩⟩⟩⟩⟩
theorem YP (s : Ql) (h : G4 s) : ∃ v, Kx s v ∧ (v = 0 → 1 ≤ s.fa.ff ∧ s.fa.ff ≤ 6) := by
  refine AX (Post := fun v => v = 0 → 1 ≤ s.fa.ff ∧ s.fa.ff ≤ 6) (a0 := s) (by
    unfold Kw
    simp only [jn]
    refine ⟨_, Xf s.fa, fun h e => by simp [e] at h, fun hpar => ?_⟩
    have hk : 1 ≤ s.fa.ff ∧ s.fa.ff ≤ 6 := by
      have hp : Ay s.fa.ff s.fa.fg s.fa.fk s.fa.fo = 0 := by simpa using hpar
      unfold Ay at hp; grind
    obtain ⟨v12, e12⟩ := ET s
    obtain ⟨v13, e13⟩ := ES s v12 h
    obtain ⟨v1, e1, _⟩ := Vg s.fu
    obtain ⟨v2, e2, _⟩ := Jm s.fi
    obtain ⟨v3, e3, _⟩ := JW s.f2
    obtain ⟨v4, e4, _⟩ := VN s.fa0
    obtain ⟨v5, e5, _⟩ := Jn s.fj
    obtain ⟨v6, e6, _⟩ := Vh s.fy
    refine ⟨fun _ => ⟨v1, e1, ?_⟩, fun _ => ⟨fun _ => ⟨v2, e2, ?_⟩, fun _ => ⟨fun _ => ⟨v3, e3, ?_⟩, fun _ => ⟨fun _ => ⟨v4, e4, ?_⟩, fun _ => ⟨fun _ => ⟨v5, e5, ?_⟩, fun _ => ⟨fun _ => ⟨v6, e6, ?_⟩, fun _ => ?_⟩⟩⟩⟩⟩⟩
    all_goals exact ⟨fun _ _ => hk, fun _ => ⟨v12, fun _ => e12, v13, fun _ => e13, fun _ _ => hk, fun _ _ => hk⟩⟩)
theorem WZ (x : Int) : 0 ≤ IntKind.u64.wrap x ∧ IntKind.u64.wrap x ≤ 18446744073709551615 := by rw [IntKind.wrap_u64]; omega
theorem UQ (a : Int) : ∃ v, Xq a v ∧ 0 ≤ v ∧ v ≤ 18446744073709551615 := ⟨_, rfl, WZ _⟩
theorem GK (a b : Int) : ∃ v, W3 a b v := by
  obtain ⟨v, hv, _⟩ := UQ (Y5 .u64 (a) (IntKind.u64.wrap ((IntKind.u64.wrap ((IntKind.u64.wrap (b)) + (1))) * (15074714826142052245))))
  exact ⟨v, v, hv, rfl⟩
theorem AF (a : Int) : ∃ r, Vq a r ∧ r.length = 256 := by
  refine EK (Post := fun r => r.length = 256) ?_
  unfold Vp
  simp only [jn]
  refine Kk (I := fun k s => (s.1.length : Int) = s.2 - 1 ∧ 1 ≤ s.2 ∧ s.2 ≤ 257 ∧ k = (257 - s.2).toNat) ?_ (k := 256) ⟨rfl, by decide, by decide, rfl⟩
  rintro k ⟨r, i⟩ ⟨h1, h2, h3, hk⟩ X hX
  simp only at h1 h2 h3 hk ⊢
  refine ⟨fun h => ?_, fun h => ?_⟩
  · have hi : i ≤ 256 := by simpa using h
    obtain ⟨v, hv, _⟩ := UQ (IntKind.u64.wrap ((a) + (IntKind.u64.wrap ((i) * (11400714819323198485)))))
    refine ⟨v, hv, by simp; omega, ?_⟩
    rw [Up (by omega)]
    exact hX (257 - (i + 1)).toNat _ (by omega) ⟨by simp; omega, by simp only; omega, by simp only; omega, rfl⟩
  · have hi : ¬ i ≤ 256 := by simpa using h
    omega
theorem Bw (l : List Int) (s : ByteArray) (hl : l.length = 256) (hs : s.size ≤ 1000000) : ∃ v, VW l s v ∧ 0 ≤ v.1 ∧ v.1 ≤ 18446744073709551615 := by
  refine FT (Post := fun v => 0 ≤ v.1 ∧ v.1 ≤ 18446744073709551615) ?_
  unfold VV
  simp only [jn]
  refine ⟨fun _ => by decide, fun _ => ?_⟩
  obtain ⟨v, hv, _⟩ := ZK (l := l) (n := (s.size : Int) % 256) (by omega) (by omega)
  refine ⟨v, by rw [Kf (by omega)]; exact hv, ?_⟩
  refine Kk (I := fun k s' => ∃ j : Nat, s'.2 = (j : Int) ∧ j ≤ s.size ∧ k = s.size - j) ?_ (k := s.size) ⟨0, rfl, by omega, by omega⟩
  rintro k ⟨h, i⟩ ⟨j, hj, hj1, hk⟩ X hX
  simp only at hj ⊢
  subst hj
  refine ⟨fun h => ?_, fun _ => ?_⟩
  · have hj2 : j < s.size := by simp at h; omega
    have hb := Mh hj2
    have hc : 0 ≤ HV s j ∧ HV s j ≤ 255 := by
      unfold HV; rw [dif_pos hj2]; have := (s[j]).toNat_lt; omega
    rw [Ze (n := (j : Int) + 1) (by omega)]
    have w : IntKind.i64.wrap (IntKind.i64.wrap (HV s j) + (j : Int)) = HV s j + j := by rw [Ze (n := HV s j) (by omega), Ze (by omega)]
    obtain ⟨v2, hv2, _⟩ := ZK (l := l) (n := (HV s j + j) % 256) (by omega) (by omega)
    refine ⟨HV s j, hb, v2, by rw [w, Kf (by omega)]; exact hv2, ?_⟩
    exact hX (s.size - (j + 1)) _ (by omega) ⟨j + 1, by simp, by omega, rfl⟩
  · obtain ⟨m, hm, h0, h1⟩ := UQ h
    exact ⟨m, hm, h0, h1⟩
theorem DI (a b c : Int) (s : ByteArray) : ∃ v, VB a b c s v ∧ (0 ≤ b ∧ b ≤ 7 → 1 ≤ c ∧ c ≤ 64 → 0 ≤ v.1 ∧ v.1 < c) := by
  refine Di (Post := fun v => 0 ≤ b ∧ b ≤ 7 → 1 ≤ c ∧ c ≤ 64 → 0 ≤ v.1 ∧ v.1 < c) ?_
  unfold JL
  simp only [Zn, Vv, exists_eq_left, JV]
  refine ⟨_, fun _ => rfl, fun _ _ h => (show 0 ≤ (0 : Int) ∧ (0 : Int) < c by omega), fun h => ⟨fun _ _ h => (show 0 ≤ (0 : Int) ∧ (0 : Int) < c by omega), fun h2 => ?_⟩⟩
  have h' : (0 ≤ b ∧ b ≤ 7) ∧ 1 ≤ c ∧ c ≤ 64 := by simpa [wI] using h
  have h2' : 1 ≤ s.size ∧ s.size ≤ 32 := by simpa using h2
  obtain ⟨v6, e6⟩ := GK a b
  obtain ⟨v7, e7, l7⟩ := AF v6
  obtain ⟨v8, e8, h80, h81⟩ := Bw v7 s l7 (by omega)
  refine ⟨v6, e6, v7, e7, v8, e8, by rw [Up (by omega)]; omega, fun _ _ => ?_⟩
  show 0 ≤ IntKind.i64.wrap (v8.1.tmod (IntKind.u64.wrap c)) ∧ IntKind.i64.wrap (v8.1.tmod (IntKind.u64.wrap c)) < c
  rw [Up (n := c) (by omega), Kf h80]
  have m0 := Int.emod_nonneg v8.1 (b := c) (by omega)
  have m1 := Int.emod_lt_of_pos v8.1 (b := c) (by omega)
  rw [Ze (by omega)]
  exact ⟨m0, m1⟩
theorem W4 (a b c : Int) : ∃ v, Ka a b c v := by
  unfold Ka W2
  cases h : (bif decide ((ZR a 0) > (ZR c 0)) then true else decide ((ZR b 0) > (IntKind.i64.wrap ((ZR c 0) - (ZR a 0)))))
  · refine ⟨(IntKind.i64.wrap ((ZR a 0) + (ZR b 0)), false), _, rfl, _, rfl, _, rfl, ?_⟩; exact ⟨fun h2 => (by rw [h] at h2; cases h2), fun _ => rfl⟩
  · refine ⟨(ZR c 0, true), _, rfl, _, rfl, _, rfl, ?_⟩; exact ⟨fun _ => rfl, fun h2 => (by rw [h] at h2; cases h2)⟩
theorem Vi (a b : Int) : ∃ v, Km a b v := by
  obtain ⟨v, hv⟩ := W4 a b 1099511627776
  exact ⟨_, v, hv, rfl⟩
theorem ZB (x : Qd) : ∃ v, Z5 x v ∧ (v = 0 → (1 ≤ x.f3.size ∧ x.f3.size ≤ 32) ∧ 1 ≤ x.f4 ∧ x.f4 ≤ 4294967295) :=
  ⟨_, U8 x, fun h => by unfold II at h; grind⟩
theorem Ws (c : Qm) (x : Qd) : ∃ v, K1 c x v ∧ v.1.f6.length ≤ 1000 := by
  refine Wo (Post := fun v => v.1.f6.length ≤ 1000) ?_
  unfold ZG
  simp only [jn]
  obtain ⟨v2, e2, ok⟩ := Jm c
  obtain ⟨v4, e4, ok4⟩ := ZB x
  refine ⟨v2, e2, fun _ => by simp, fun h2 => ⟨v4, e4, fun _ => by simp, fun h4 => ?_⟩⟩
  obtain ⟨hd, hs, hl, hx⟩ := ok (by simpa using h2)
  have hm := ER hd hs
  refine ⟨by omega, ?_⟩
  refine Kk (I := fun k s => 0 ≤ s.1 ∧ s.1 ≤ c.fk ∧ k = (c.fk - s.1).toNat ∧ s.2.1.length = c.f6.length) ?_ (k := c.fk.toNat) ⟨by simp, by simp only; omega, by simp, rfl⟩
  rintro k ⟨i, l, f⟩ ⟨h0, h1, hk, hlen⟩ X hX
  simp only at h0 h1 hk hlen ⊢
  refine ⟨fun h => ?_, fun _ => by omega⟩
  have hi : i < c.fk := by simpa using h
  obtain ⟨v, hv, hr⟩ := DI c.fo i c.fg x.f3
  obtain ⟨r0, r1⟩ := hr (by omega) hs
  have p1 : 0 ≤ i * c.fg := Int.mul_nonneg h0 (by omega)
  have p2 : (i + 1) * c.fg ≤ c.fk * c.fg := Int.mul_le_mul_of_nonneg_right (by omega) (by omega)
  rw [Int.add_mul, Int.one_mul] at p2
  have w : IntKind.i64.wrap (IntKind.i64.wrap (i * c.fg) + v.1) = i * c.fg + v.1 := by rw [Ze (n := i * c.fg) (by omega), Ze (by omega)]
  obtain ⟨y, hy, _⟩ := ZK (l := l) (n := i * c.fg + v.1) (by omega) (by omega)
  obtain ⟨z, hz⟩ := W4 y x.f4 4294967295
  refine ⟨i * c.fg + v.1, ⟨v, hv, w.symm⟩, y, hy, z, hz, y, hy, ?_⟩
  rw [Ze (by omega)]
  exact hX (c.fk - (i + 1)).toNat _ (by omega) ⟨by simp only; omega, by simp only; omega, rfl, by simpa using hlen⟩
theorem shr_p {p v : Int} (hp : 2 ≤ p ∧ p ≤ 8) (h0 : 0 ≤ v) (h1 : v ≤ 18446744073709551615) : 0 ≤ Qv .u64 v (IntKind.u64.wrap (IntKind.i64.wrap (64 - p))) ∧ Qv .u64 v (IntKind.u64.wrap (IntKind.i64.wrap (64 - p))) < Xg .i64 1 (IntKind.u64.wrap p) := by
  have h : p = 2 ∨ p = 3 ∨ p = 4 ∨ p = 5 ∨ p = 6 ∨ p = 7 ∨ p = 8 := by omega
  have hd : ∀ m : Int, 0 < m → v.fdiv m = v / m := fun m hm => Int.fdiv_eq_ediv_of_nonneg v (by omega)
  rcases h with rfl | rfl | rfl | rfl | rfl | rfl | rfl
  · have e1 : IntKind.u64.wrap (IntKind.i64.wrap (64 - 2)) = 62 := by decide
    have e2 : Xg .i64 1 (IntKind.u64.wrap 2) = 4 := by decide
    rw [e1, e2]; show 0 ≤ v.fdiv 4611686018427387904 ∧ v.fdiv 4611686018427387904 < 4; rw [hd _ (by decide)]; omega
  · have e1 : IntKind.u64.wrap (IntKind.i64.wrap (64 - 3)) = 61 := by decide
    have e2 : Xg .i64 1 (IntKind.u64.wrap 3) = 8 := by decide
    rw [e1, e2]; show 0 ≤ v.fdiv 2305843009213693952 ∧ v.fdiv 2305843009213693952 < 8; rw [hd _ (by decide)]; omega
  · have e1 : IntKind.u64.wrap (IntKind.i64.wrap (64 - 4)) = 60 := by decide
    have e2 : Xg .i64 1 (IntKind.u64.wrap 4) = 16 := by decide
    rw [e1, e2]; show 0 ≤ v.fdiv 1152921504606846976 ∧ v.fdiv 1152921504606846976 < 16; rw [hd _ (by decide)]; omega
  · have e1 : IntKind.u64.wrap (IntKind.i64.wrap (64 - 5)) = 59 := by decide
    have e2 : Xg .i64 1 (IntKind.u64.wrap 5) = 32 := by decide
    rw [e1, e2]; show 0 ≤ v.fdiv 576460752303423488 ∧ v.fdiv 576460752303423488 < 32; rw [hd _ (by decide)]; omega
  · have e1 : IntKind.u64.wrap (IntKind.i64.wrap (64 - 6)) = 58 := by decide
    have e2 : Xg .i64 1 (IntKind.u64.wrap 6) = 64 := by decide
    rw [e1, e2]; show 0 ≤ v.fdiv 288230376151711744 ∧ v.fdiv 288230376151711744 < 64; rw [hd _ (by decide)]; omega
  · have e1 : IntKind.u64.wrap (IntKind.i64.wrap (64 - 7)) = 57 := by decide
    have e2 : Xg .i64 1 (IntKind.u64.wrap 7) = 128 := by decide
    rw [e1, e2]; show 0 ≤ v.fdiv 144115188075855872 ∧ v.fdiv 144115188075855872 < 128; rw [hd _ (by decide)]; omega
  · have e1 : IntKind.u64.wrap (IntKind.i64.wrap (64 - 8)) = 56 := by decide
    have e2 : Xg .i64 1 (IntKind.u64.wrap 8) = 256 := by decide
    rw [e1, e2]; show 0 ≤ v.fdiv 72057594037927936 ∧ v.fdiv 72057594037927936 < 256; rw [hd _ (by decide)]; omega
theorem BQ (p a : Int) (s : ByteArray) (hp : 2 ≤ p ∧ p ≤ 8) : ∃ v, JG p a s v ∧ 0 ≤ v.1 ∧ v.1 < Xg .i64 1 (IntKind.u64.wrap p) := by
  have hs4 := IL hp
  refine BN (Post := fun v => 0 ≤ v.1 ∧ v.1 < Xg .i64 1 (IntKind.u64.wrap p)) ?_
  unfold KU
  simp only [Zn, Vv, exists_eq_left, jn]
  refine ⟨fun _ => by omega, fun _ => ⟨fun _ => by omega, fun h2 => ?_⟩⟩
  have h2' : 1 ≤ s.size ∧ s.size ≤ 32 := by simpa using h2
  obtain ⟨v5, e5, l5⟩ := AF a
  obtain ⟨v6, e6, h60, h61⟩ := Bw v5 s l5 (by omega)
  refine ⟨v5, e5, v6, e6, ?_⟩
  have sh := shr_p hp h60 h61
  refine Kk (I := fun k s => -1 ≤ s.2 ∧ s.2 ≤ 63 ∧ k = (s.2 + 1).toNat) ?_ (k := (64 - p).toNat) ⟨by simp only; rw [Ze (by omega)]; omega, by simp only; rw [Ze (by omega)]; omega, by simp only; rw [Ze (by omega)]; omega⟩
  rintro k ⟨n, i⟩ ⟨h0, h1, hk⟩ X hX
  simp only at h0 h1 hk ⊢
  refine ⟨fun h => by rw [Up (by simp at h; omega)]; simp at h; omega, fun h => ?_, fun h => ?_⟩
  · have hi : 0 ≤ i := by
      cases hd : decide (i ≥ 0) with
      | true => simpa using hd
      | false => rw [hd] at h; cases h
    rw [Ze (n := i - 1) (by omega)]
    exact hX (i - 1 + 1).toNat _ (by omega) ⟨by simp only; omega, by simp only; omega, rfl⟩
  · refine ⟨by rw [Up (by rw [Ze (by omega)]; omega), Ze (by omega)]; omega, ?_⟩
    rw [Ze (n := Qv .u64 v6.1 _) (by omega)]
    exact sh
theorem Uc (c : Qw) (x : Qd) : ∃ v, Kq c x v ∧ v.1.fq.length ≤ 1000 := by
  refine U6 (Post := fun v => v.1.fq.length ≤ 1000) ?_
  unfold ZX
  obtain ⟨v2, e2, ok⟩ := JW c
  obtain ⟨v4, e4, ok4⟩ := ZB x
  refine ⟨v2, e2, fun _ => by simp, fun h2 => ⟨v4, e4, fun _ => by simp, fun h4 => ?_⟩⟩
  obtain ⟨hp, hl, hlen, hx⟩ := ok (by simpa using h2)
  obtain ⟨v5, e5, h50, h51⟩ := BQ c.fx c.fo x.f3 hp
  obtain ⟨y, hy, _⟩ := ZK (l := c.fq) (n := v5.1) h50 (by omega)
  exact ⟨v5, e5, by omega, y, hy, y, hy, by simp; omega⟩
theorem UR (t : QF) (x : Qd) : ∃ v, KG t x v := by
  obtain ⟨v, hv, _⟩ := UJ (Post := fun _ => True) (a0 := t) (a1 := x) (by
    unfold Kb
    obtain ⟨v2, e2, ok⟩ := Vg t
    obtain ⟨v4, e4, ok4⟩ := ZB x
    obtain ⟨a1, h1⟩ := W4 t.fh x.f4 4294967295
    obtain ⟨a2, h2⟩ := W4 t.f0 1 4294967295
    exact ⟨v2, e2, fun _ => trivial, fun _ => ⟨v4, e4, fun _ => trivial, fun _ => ⟨_, ⟨a1, h1, a2, h2, rfl⟩, trivial⟩⟩⟩)
  exact ⟨v, hv⟩
theorem VO {α : Type} {l : List α} {j : Nat} (h : j < l.length) : ∃ x, ix l (j : Int) x := by
  obtain ⟨x, hx, _⟩ := ZK (l := l) (n := (j : Int)) (by omega) (by omega)
  exact ⟨x, hx⟩
theorem EU (c : QM) (h : c.fc.length ≤ 1000) : ∃ v, Xd c v := by
  obtain ⟨v, hv, _⟩ := EL (Post := fun _ => True) (a0 := c) (by
    unfold Vr
    simp only [JV]
    refine ⟨fun _ => trivial, fun h2 => ?_⟩
    have h0 : c.fc.length ≠ 0 := by
      intro e; rw [e] at h2; simp at h2
    rw [Ze (by omega)]
    obtain ⟨x, hx, _⟩ := ZK (l := c.fc) (n := (c.fc.length : Int) - 1) (by omega) (by omega)
    exact ⟨x, hx, trivial⟩)
  exact ⟨v, hv⟩
theorem WT (l : List Q3) (hl : l.length ≤ 1000) : ∃ r, XI l r ∧ r.length ≤ 1000 := by
  refine FV (Post := fun r => r.length ≤ 1000) ?_
  unfold VX
  simp only [jn]
  refine Kk (I := fun k s => ∃ j : Nat, s.2 = (j : Int) ∧ j ≤ l.length ∧ k = l.length - j ∧ s.1.length = j) ?_ (k := l.length) ⟨0, rfl, by omega, by omega, rfl⟩
  rintro k ⟨a, i⟩ ⟨j, hj, hj1, hk, ha⟩ X hX
  simp only at hj ha ⊢
  subst hj
  refine ⟨fun h => ?_, fun _ => by omega⟩
  have hj2 : j < l.length := by simp at h; omega
  obtain ⟨x, hx⟩ := VO hj2
  refine ⟨x, hx, by simp; omega, ?_⟩
  have w0 : IntKind.i64.wrap (((a ++ [x]).length : Int) - 1) = (j : Int) := by simp [ha]; rw [Ze (by omega)]
  rw [w0]
  refine Kk (I := fun k s => ∃ m : Nat, s.2 = (m : Int) ∧ m ≤ j ∧ k = m ∧ s.1.length = j + 1) ?_ (k := j) ⟨j, rfl, by omega, rfl, by simp [ha]⟩
  rintro k2 ⟨b, i2⟩ ⟨m, hm, hm1, hk2, hb⟩ X2 hX2
  simp only at hm hb ⊢
  subst hm
  have done : X (b, IntKind.i64.wrap ((j : Int) + 1)) := by
    rw [Ze (by omega)]
    exact hX (l.length - (j + 1)) _ (by omega) ⟨j + 1, by simp, by omega, rfl, hb⟩
  by_cases h0 : m = 0
  · subst h0
    exact ⟨x, fun h => by simp at h, x, fun h => by simp at h, false, fun h => by simp at h, fun h => by simp at h, fun _ => done⟩
  · obtain ⟨p, hp⟩ := VO (l := b) (j := m) (by omega)
    obtain ⟨q, hq⟩ := VO (l := b) (j := m - 1) (by omega)
    have wm : IntKind.i64.wrap ((m : Int) - 1) = ((m - 1 : Nat) : Int) := by rw [Ze (by omega)]; omega
    obtain ⟨z, hz⟩ := VO (l := List.set b (Int.toNat (m : Int)) q) (j := m - 1) (by simp; omega)
    rw [wm]
    refine ⟨p, fun _ => hp, q, fun _ => hq, _, fun _ => rfl, fun _ => ⟨q, hq, p, hp, p, hp, z, hz, ?_⟩, fun _ => done⟩
    exact hX2 (m - 1) _ (by omega) ⟨m - 1, rfl, by omega, rfl, by simpa using hb⟩
theorem B8 (c : QM) (x : Qd) : ∃ v, Jj c x v ∧ v.1.fc.length ≤ 1000 := by
  refine B5 (Post := fun v => v.1.fc.length ≤ 1000) ?_
  unfold KA
  simp only [jn]
  obtain ⟨v2, e2, ok⟩ := VN c
  obtain ⟨v4, e4, ok4⟩ := ZB x
  refine ⟨v2, e2, fun _ => by simp, fun h2 => ⟨v4, e4, fun _ => by simp, fun h4 => ?_⟩⟩
  obtain ⟨hs, ht, hl, hx⟩ := ok (by simpa using h2)
  obtain ⟨v6, e6⟩ := Vi c.fh x.f4
  obtain ⟨v7, e7, h70, h71⟩ := WS c.fc x.f3 (by omega)
  refine ⟨by omega, v6, e6, v7, e7, fun h => ?_, fun h => ⟨fun h3 => ?_, fun h3 => ?_⟩⟩
  · have h' : 0 ≤ v7 := by simpa using h
    obtain ⟨y, hy, _⟩ := ZK (l := c.fc) (n := v7) h' h71
    obtain ⟨z, hz⟩ := Vi y.fv x.f4
    obtain ⟨r, hr, hr2⟩ := WT (List.set c.fc (Int.toNat v7) (Q3.mk (y.f3) (z.1) (y.fa6))) (by simp; omega)
    exact ⟨y, hy, z, hz, y, hy, r, hr, hr2⟩
  · obtain ⟨r, hr, hr2⟩ := WT (c.fc ++ [Q3.mk (x.f3) (x.f4) (0)]) (by simp; omega)
    exact ⟨by simp; omega, r, hr, hr2⟩
  · have h3' : c.fg ≤ c.fc.length := by simpa using h3
    obtain ⟨v13, e13⟩ := EU c (by omega)
    obtain ⟨v14, e14⟩ := Vi v13 x.f4
    have w : IntKind.i64.wrap ((c.fc.length : Int) - 1) = (c.fc.length : Int) - 1 := Ze (by omega)
    obtain ⟨y, hy, _⟩ := ZK (l := c.fc) (n := (c.fc.length : Int) - 1) (by omega) (by omega)
    rw [w]
    obtain ⟨r, hr, hr2⟩ := WT (List.set c.fc (Int.toNat ((c.fc.length : Int) - 1)) (Q3.mk (x.f3) (v14.1) (JB (v13) (IntKind.i64.wrap ((v14.1) - (1)))))) (by simp; omega)
    exact ⟨v13, e13, v14, e14, y, hy, r, hr, hr2⟩
theorem AG (l : List Q3) (x : Q3) (hl : l.length ≤ 900) : ∃ r, Vt l x r ∧ r.length ≤ 1000 := by
  refine EN (Post := fun r => r.length ≤ 1000) ?_
  unfold Vs
  simp only [jn]
  refine Kk (I := fun k s => ∃ j : Nat, s.2.2 = (j : Int) ∧ j ≤ l.length ∧ k = l.length - j ∧ s.1.length ≤ j + (if s.2.1 = true then 1 else 0)) ?_ (k := l.length) ⟨0, rfl, by omega, by omega, by simp⟩
  rintro k ⟨a, f, i⟩ ⟨j, hj, hj1, hk, ha⟩ X hX
  simp only at hj ha ⊢
  subst hj
  have hf : (if f = true then 1 else 0 : Nat) ≤ 1 := by cases f <;> simp
  refine ⟨fun h => ?_, fun h => ⟨fun _ => ⟨by simp; omega, by simp; omega⟩, fun _ => by omega⟩⟩
  have hj2 : j < l.length := by simp at h; omega
  obtain ⟨y, hy⟩ := VO hj2
  refine ⟨y, fun _ => hy, fun h2 => ⟨by simp; omega, y, hy, by simp; omega, ?_⟩, fun h2 => ⟨y, hy, by simp; omega, ?_⟩⟩
  · rw [Ze (by omega)]
    have hff : f = false := by cases f <;> simp_all
    subst hff
    refine hX (l.length - (j + 1)) _ (by omega) ⟨j + 1, by simp, by omega, rfl, ?_⟩
    simp at ha ⊢; omega
  · rw [Ze (by omega)]
    refine hX (l.length - (j + 1)) _ (by omega) ⟨j + 1, by simp, by omega, rfl, ?_⟩
    simp; omega
theorem EV (l : List Q3) (n : Int) (hl : l.length ≤ 900) : ∃ r, Xe l n r ∧ r.length ≤ l.length := by
  refine EO (Post := fun r => r.length ≤ l.length) ?_
  unfold Vu
  simp only [jn]
  refine Kk (I := fun k s => ∃ j : Nat, s.2 = (j : Int) ∧ j ≤ l.length ∧ k = l.length - j ∧ s.1.length ≤ j) ?_ (k := l.length) ⟨0, rfl, by omega, by omega, by simp⟩
  rintro k ⟨a, i⟩ ⟨j, hj, hj1, hk, ha⟩ X hX
  simp only at hj ha ⊢
  subst hj
  refine ⟨fun h => ?_, fun _ => by omega⟩
  have hj2 : j < l.length := by simp at h; omega
  obtain ⟨y, hy⟩ := VO hj2
  rw [Ze (by omega)]
  refine ⟨y, hy, fun _ => ⟨y, hy, y, hy, by simp; omega, ?_⟩, fun _ => ?_⟩
  · exact hX (l.length - (j + 1)) _ (by omega) ⟨j + 1, by simp, by omega, rfl, by simp; omega⟩
  · exact hX (l.length - (j + 1)) _ (by omega) ⟨j + 1, by simp, by omega, rfl, by simp only; omega⟩
theorem Wt (c : Qo) (x : Qd) : ∃ v, K2 c x v ∧ v.1.fc.length ≤ 1000 := by
  refine Wq (Post := fun v => v.1.fc.length ≤ 1000) ?_
  unfold ZH
  simp only [jn]
  obtain ⟨v2, e2, ok⟩ := Jn c
  obtain ⟨v4, e4, ok4⟩ := ZB x
  refine ⟨v2, e2, fun _ => by simp, fun h2 => ⟨v4, e4, fun _ => by simp, fun h4 => ?_⟩⟩
  obtain ⟨hs, ht, hlo, hl, hx⟩ := ok (by simpa using h2)
  obtain ⟨v6, e6⟩ := Vi c.fh x.f4
  obtain ⟨v7, e7, h70, h71⟩ := WS c.fc x.f3 (by omega)
  refine ⟨by omega, v6, e6, v7, e7, fun h => ?_, fun h => ⟨fun h3 => ?_, fun h3 => ?_⟩⟩
  · have h' : 0 ≤ v7 := by simpa using h
    obtain ⟨y, hy, _⟩ := ZK (l := c.fc) (n := v7) h' h71
    obtain ⟨z, hz⟩ := Vi y.fv x.f4
    exact ⟨y, hy, z, hz, y, hy, by simp; omega⟩
  · obtain ⟨r, hr, hr2⟩ := AG c.fc (Q3.mk (x.f3) (x.f4) (0)) (by omega)
    exact ⟨r, hr, hr2⟩
  · refine Kk (I := fun k s => ∃ j : Nat, s.2.1 = (j : Int) ∧ j ≤ c.fc.length ∧ k = c.fc.length - j ∧ s.2.2 = c.fc) ?_ (k := c.fc.length) ⟨0, rfl, by omega, by omega, rfl⟩
    rintro k ⟨n, i, l⟩ ⟨j, hj, hj1, hk, hl2⟩ X hX
    simp only at hj hl2 ⊢
    subst hj; subst hl2
    refine ⟨fun h => ?_, fun _ => ?_⟩
    · have hj2 : j < c.fc.length := by simp at h; omega
      obtain ⟨y, hy⟩ := VO hj2
      refine ⟨y, hy, ?_⟩
      rw [Ze (by omega)]
      exact hX (c.fc.length - (j + 1)) _ (by omega) ⟨j + 1, by simp, by omega, rfl, rfl⟩
    · obtain ⟨v18, e18, l18⟩ := EV c.fc n (by omega)
      obtain ⟨v19, e19⟩ := Vi c.fa4 n
      obtain ⟨r, hr, hr2⟩ := AG v18 (Q3.mk (x.f3) (IntKind.i64.wrap ((x.f4) - n)) (0)) (by omega)
      exact ⟨v18, e18, v19, e19, fun _ => ⟨r, hr, hr2⟩, fun _ => (show v18.length ≤ 1000 by omega)⟩
theorem DJ (w : Int) : ∃ r, VC w r ∧ r.length ≤ 63 ∧ ∀ x ∈ r, 0 ≤ x ∧ x ≤ 62 := by
  refine Dk (Post := fun r => r.length ≤ 63 ∧ ∀ x ∈ r, 0 ≤ x ∧ x ≤ 62) ?_
  unfold JM
  simp only [jn]
  refine Kk (I := fun k s => ∃ j : Nat, s.2 = (j : Int) ∧ j ≤ 63 ∧ k = 63 - j ∧ s.1.length ≤ j ∧ ∀ x ∈ s.1, 0 ≤ x ∧ x ≤ 62) ?_ (k := 63) ⟨0, rfl, by omega, by omega, by simp, by simp⟩
  rintro k ⟨a, i⟩ ⟨j, hj, hj1, hk, ha, hx⟩ X hX
  simp only at hj ha hx ⊢
  subst hj
  refine ⟨fun h => ?_, fun _ => ⟨by omega, hx⟩⟩
  have hj2 : j < 63 := by
    cases hd : decide ((j : Int) < 63) with
    | true => simp at hd; omega
    | false => rw [hd] at h; cases h
  rw [Ze (by omega)]
  refine ⟨by rw [Up (by omega)]; omega, fun _ => ⟨by simp; omega, ?_⟩, fun _ => ?_⟩
  · refine hX (63 - (j + 1)) _ (by omega) ⟨j + 1, by simp, by omega, rfl, by simp; omega, ?_⟩
    intro x hx2
    rcases List.mem_append.1 hx2 with h | h
    · exact hx x h
    · simp at h; omega
  · exact hX (63 - (j + 1)) _ (by omega) ⟨j + 1, by simp, by omega, rfl, by simp only; omega, hx⟩
theorem DK (l : List ByteArray) (hl : l.length ≤ 1000000) : ∃ r, JO l r ∧ r.length = l.length := by
  refine Dm (Post := fun r => r.length = l.length) ?_
  unfold JN
  simp only [jn]
  refine Kk (I := fun k s => ∃ j : Nat, s.2 = (j : Int) ∧ j ≤ l.length ∧ k = l.length - j ∧ s.1.length = j) ?_ (k := l.length) ⟨0, rfl, by omega, by omega, rfl⟩
  rintro k ⟨a, i⟩ ⟨j, hj, hj1, hk, ha⟩ X hX
  simp only at hj ha ⊢
  subst hj
  refine ⟨fun h => ?_, fun h => by simp at h; omega⟩
  have hj2 : j < l.length := by simp at h; omega
  obtain ⟨x, hx⟩ := VO hj2
  refine ⟨x, hx, by simp; omega, ?_⟩
  have w0 : IntKind.i64.wrap (((a ++ [x]).length : Int) - 1) = (j : Int) := by simp [ha]; rw [Ze (by omega)]
  rw [w0]
  refine Kk (I := fun k s => ∃ m : Nat, s.2 = (m : Int) ∧ m ≤ j ∧ k = m ∧ s.1.length = j + 1) ?_ (k := j) ⟨j, rfl, by omega, rfl, by simp [ha]⟩
  rintro k2 ⟨b, i2⟩ ⟨m, hm, hm1, hk2, hb⟩ X2 hX2
  simp only at hm hb ⊢
  subst hm
  have done : X (b, IntKind.i64.wrap ((j : Int) + 1)) := by
    rw [Ze (by omega)]
    exact hX (l.length - (j + 1)) _ (by omega) ⟨j + 1, by simp, by omega, rfl, hb⟩
  by_cases h0 : m = 0
  · subst h0
    exact ⟨x, fun h => by simp at h, x, fun h => by simp at h, fun h => by simp at h, fun _ => done⟩
  · obtain ⟨p, hp⟩ := VO (l := b) (j := m) (by omega)
    obtain ⟨q, hq⟩ := VO (l := b) (j := m - 1) (by omega)
    have wm : IntKind.i64.wrap ((m : Int) - 1) = ((m - 1 : Nat) : Int) := by rw [Ze (by omega)]; omega
    obtain ⟨z, hz⟩ := VO (l := List.set b (Int.toNat (m : Int)) q) (j := m - 1) (by simp; omega)
    rw [wm]
    refine ⟨p, fun _ => hp, q, fun _ => hq, fun _ => ⟨q, hq, p, hp, p, hp, z, hz, ?_⟩, fun _ => done⟩
    exact hX2 (m - 1) _ (by omega) ⟨m - 1, rfl, by omega, rfl, by simpa using hb⟩
theorem tdiv8 {a : Int} (h : 0 ≤ a) : a.tdiv 8 = a / 8 := Int.tdiv_eq_ediv_of_nonneg h
theorem GL (l : List Int) (p : Int) (hl : l.length ≤ 1000000) (h1 : p ≤ 4611686018427387904) (h2 : -4611686018427387904 ≤ p) : ∃ v, Xs l p v ∧ 0 ≤ v ∧ v ≤ 1 := by
  refine GI (Post := fun v => 0 ≤ v ∧ v ≤ 1) ?_
  unfold Xr
  simp only [bA1, JV]
  refine ⟨fun _ => by omega, fun h => ?_⟩
  have h0 : 0 ≤ p := by
    cases hd : decide (p < 0) with
    | false => simpa using hd
    | true => rw [hd] at h; cases h
  have hw : IntKind.i64.wrap (p.tdiv 8) = p / 8 := by rw [tdiv8 h0, Ze (by omega)]
  rw [hw] at h ⊢
  have h3 : p / 8 < l.length := by
    have := (Bool.or_eq_false_iff.1 h).2
    simpa using this
  obtain ⟨x, hx, _⟩ := ZK (l := l) (n := p / 8) (by omega) h3
  refine ⟨x, hx, ?_, by omega⟩
  rw [Kf h0, Ze (by omega), Up (by omega)]; omega
theorem DL (a0 : List (List ByteArray)) (a1 a2 : Int) (a3 : List Int) (a4 : Int) (h0 : a0.length ≤ 1000) (hM : ∀ l ∈ a0, l.length ≤ 1000) (h3 : a3.length ≤ 1000000) (h4 : 0 ≤ a4 ∧ a4 ≤ 1073741824) :
    ∃ r, VD a0 a1 a2 a3 a4 r ∧ r.1.length ≤ 3000 ∧ ∀ l ∈ r.1, l.length ≤ 3000 := by
  refine Do (Post := fun r => r.1.length ≤ 3000 ∧ ∀ l ∈ r.1, l.length ≤ 3000) ?_
  unfold JP
  simp only [jn]
  have trim : ∀ (sl po : Int) (out : List (List ByteArray)), out.length ≤ 3000 → (∀ l ∈ out, l.length ≤ 3000) →
      lp (fun (X24 : (List (List ByteArray)) → Prop) (s24 : (List (List ByteArray))) => ∃ (v26 : (List ByteArray)), ((decide ((((s24).length : Int)) > (0))) = true → ix (s24) (IntKind.i64.wrap ((((s24).length : Int)) - (1))) v26) ∧ ((((bif decide ((((s24).length : Int)) > (0)) then ((((v26).length : Int)) == (0)) else false)) = true → ((0 : Int) ≤ (IntKind.i64.wrap ((((s24).length : Int)) - (1))) ∧ (IntKind.i64.wrap ((((s24).length : Int)) - (1)) : Int) ≤ ((s24).length : Int)) ∧ X24 ((List.take (Int.toNat (IntKind.i64.wrap ((((s24).length : Int)) - (1)))) (s24)))) ∧ (((bif decide ((((s24).length : Int)) > (0)) then ((((v26).length : Int)) == (0)) else false)) = false → s24.length ≤ 3000 ∧ ∀ l ∈ s24, l.length ≤ 3000))) out := by
    intro sl po out ho hl
    refine Kk (I := fun k s => s.length ≤ 3000 ∧ (∀ l ∈ s, l.length ≤ 3000) ∧ k = s.length) ?_ (k := out.length) ⟨ho, hl, rfl⟩
    rintro k s ⟨hs, hl, hk⟩ X hX
    by_cases hz : s.length = 0
    · refine ⟨[], fun h => by simp [hz] at h, fun h => by simp [hz] at h, fun _ => ⟨hs, hl⟩⟩
    · have w : IntKind.i64.wrap ((s.length : Int) - 1) = ((s.length - 1 : Nat) : Int) := by rw [Ze (by omega)]; omega
      rw [w]
      obtain ⟨x, hx⟩ := VO (l := s) (j := s.length - 1) (by omega)
      refine ⟨x, fun _ => hx, fun _ => ⟨by omega, ?_⟩, fun _ => ⟨hs, hl⟩⟩
      refine hX (s.length - 1) _ (by omega) ⟨by simp; omega, fun l h => hl l (List.mem_of_mem_take h), by simp⟩
  refine Kk (I := fun k s => ∃ i : Nat, s.2.2.2.2 = (i : Int) ∧ s.2.2.2.1.length ≤ 1000 ∧ i + s.2.2.2.1.length ≤ a0.length + 1000 ∧ s.2.2.1.length = i ∧ (∀ l ∈ s.2.2.1, l.length ≤ 3000) ∧ (a4 ≤ s.2.1 ∧ s.2.1 ≤ a4 + i) ∧ k = (a0.length - i) * 1001 + s.2.2.2.1.length) ?_ (k := a0.length * 1001) ⟨0, rfl, by simp, by simp, rfl, by simp, by simp, by simp⟩
  rintro k ⟨sl, po, out, carry, i'⟩ ⟨i, hi, hc, hic, hout, hlen, hpo, hk⟩ X hX
  simp only at hi hc hic hout hlen hpo hk ⊢
  subst hi
  refine ⟨fun h => ?_, fun _ => trim sl po out (by omega) hlen⟩
  have tail : ∀ merged : List ByteArray, merged.length ≤ 2000 → (i < a0.length ∨ (merged.length = carry.length ∧ 0 < carry.length)) →
      ∃ v9, JO merged v9 ∧ ((decide ((v9.length : Int) < a1) = true → (out.length + [v9].length) * 24 ≤ 140737488355328 ∧ X (sl, po, out ++ [v9], [], IntKind.i64.wrap ((i : Int) + 1))) ∧
        (decide ((v9.length : Int) < a1) = false → ∃ v13, Xs a3 po v13 ∧
          lp (fun (X14 : (List (List ByteArray)) × (List ByteArray) × (List ByteArray) × Int → Prop) (s14 : (List (List ByteArray)) × (List ByteArray) × (List ByteArray) × Int) => (((decide ((s14.2.2.2) < (IntKind.i64.wrap ((IntKind.i64.wrap ((((v9).length : Int)).tdiv (2))) * (2))))) = true → ∃ (v17 : ByteArray), ix (s14.2.2.1) (s14.2.2.2) v17 ∧ (((s14.2.1).length + ([(v17)]).length) * 16 ≤ 140737488355328) ∧ X14 ((s14.1), ((s14.2.1) ++ ([(v17)])), (s14.2.2.1), (IntKind.i64.wrap ((s14.2.2.2) + (2))))) ∧ ((decide ((s14.2.2.2) < (IntKind.i64.wrap ((IntKind.i64.wrap ((((v9).length : Int)).tdiv (2))) * (2))))) = false →
            ((0 : Int) ≤ (IntKind.u64.wrap (i : Int))) ∧ ∃ (v20 : Int × Bool), Km sl (Xg .i64 (1) (IntKind.u64.wrap (i : Int))) v20 ∧ ((0 : Int) ≤ (IntKind.i64.wrap ((IntKind.i64.wrap ((((v9).length : Int)).tdiv (2))) * (2))) ∧ (IntKind.i64.wrap ((IntKind.i64.wrap ((((v9).length : Int)).tdiv (2))) * (2)) : Int) ≤ (((List.map eS (s14.2.2.1)).length : Nat) : Int)) ∧ (((s14.1).length + ([(List.take ((List.map eS (s14.2.2.1)).length - Int.toNat (IntKind.i64.wrap ((IntKind.i64.wrap ((((v9).length : Int)).tdiv (2))) * (2)))) (List.drop (0 + Int.toNat (IntKind.i64.wrap ((IntKind.i64.wrap ((((v9).length : Int)).tdiv (2))) * (2)))) (s14.2.2.1)))]).length) * 24 ≤ 140737488355328) ∧ X ((v20.1), (IntKind.i64.wrap (po + (1))), ((s14.1) ++ ([(List.take ((List.map eS (s14.2.2.1)).length - Int.toNat (IntKind.i64.wrap ((IntKind.i64.wrap ((((v9).length : Int)).tdiv (2))) * (2)))) (List.drop (0 + Int.toNat (IntKind.i64.wrap ((IntKind.i64.wrap ((((v9).length : Int)).tdiv (2))) * (2)))) (s14.2.2.1)))])), (s14.2.1), IntKind.i64.wrap ((i : Int) + 1))))) (out, ([] : (List ByteArray)), v9, v13))) := by
    intro merged hm hpr
    obtain ⟨v9, e9, l9⟩ := DK merged (by omega)
    have hw1 : IntKind.i64.wrap ((i : Int) + 1) = ((i + 1 : Nat) : Int) := by rw [Ze (by omega)]; omega
    have ht : (v9.length : Int).tdiv 2 = ((v9.length / 2 : Nat) : Int) := by rw [Int.tdiv_eq_ediv_of_nonneg (by omega)]; omega
    have hw2 : IntKind.i64.wrap (IntKind.i64.wrap ((v9.length : Int).tdiv 2) * 2) = ((v9.length / 2 * 2 : Nat) : Int) := by
      rw [ht, Ze (n := ((v9.length / 2 : Nat) : Int)) (by omega), Ze (by omega)]; omega
    have hmeas : ∀ c : Nat, c ≤ v9.length / 2 → (a0.length - (i + 1)) * 1001 + c < k ∧ i + 1 + c ≤ a0.length + 1000 ∧ c ≤ 1000 := by
      intro c hcc
      rcases hpr with h | ⟨h, h'⟩
      · refine ⟨?_, by omega, by omega⟩
        have : a0.length - i = (a0.length - (i + 1)) + 1 := by omega
        rw [hk, this, Nat.add_mul]; omega
      · have hle : a0.length - (i + 1) ≤ a0.length - i := by omega
        have hle2 := Nat.mul_le_mul_right 1001 hle
        refine ⟨by omega, by omega, by omega⟩
    refine ⟨v9, e9, ?_⟩
    rw [hw1, hw2]
    refine ⟨fun h => ⟨by simp; omega, ?_⟩, fun h => ?_⟩
    · obtain ⟨m1, m2, m3⟩ := hmeas 0 (by omega)
      refine hX _ _ m1 ⟨i + 1, rfl, by simp, by simpa using m2, by simp [hout], ?_, by simp only; omega, rfl⟩
      intro l hl
      rcases List.mem_append.1 hl with h | h
      · exact hlen l h
      · simp at h; rw [h]; omega
    · obtain ⟨v13, e13, b0, b1⟩ := GL a3 po h3 (by omega) (by omega)
      refine ⟨v13, e13, ?_⟩
      refine Kk (I := fun k s => ∃ h : Nat, s.1 = out ∧ s.2.1.length = h ∧ s.2.2.1 = v9 ∧ s.2.2.2 = v13 + 2 * (h : Int) ∧ h ≤ v9.length / 2 ∧ k = v9.length / 2 - h) ?_ (k := v9.length / 2) ⟨0, rfl, rfl, rfl, by simp, by omega, by omega⟩
      rintro k14 ⟨o, half, v, kk⟩ ⟨nh, ho, hh, hv, hkk, hle, hk14⟩ X14 hX14
      simp only at ho hh hv hkk ⊢
      subst ho; subst hv
      refine ⟨fun hlt => ?_, fun hge => ?_⟩
      · have hlt' : kk < ((v.length / 2 * 2 : Nat) : Int) := by simpa using hlt
        obtain ⟨y, hy, _⟩ := ZK (l := v) (n := kk) (by omega) (by omega)
        refine ⟨y, hy, by simp; omega, ?_⟩
        rw [Ze (by omega)]
        exact hX14 (v.length / 2 - (nh + 1)) _ (by omega) ⟨nh + 1, rfl, by simp [hh], rfl, by simp only; omega, by omega, rfl⟩
      · obtain ⟨v20, e20⟩ := Vi sl (Xg .i64 (1) (IntKind.u64.wrap (i : Int)))
        refine ⟨(WZ _).1, v20, e20, ⟨by omega, by simp; omega⟩, by simp; omega, ?_⟩
        rw [Ze (n := po + 1) (by omega)]
        obtain ⟨m1, m2, m3⟩ := hmeas half.length (by omega)
        refine hX _ _ m1 ⟨i + 1, rfl, m3, m2, by simp [hout], ?_, by simp only; omega, rfl⟩
        intro l hl
        rcases List.mem_append.1 hl with h | h
        · exact hlen l h
        · simp only [List.mem_singleton] at h; rw [h, List.length_take, List.length_drop]; omega
  refine ⟨fun h2 => ?_, fun h2 => ?_⟩
  · have hi2 : i < a0.length := by simp at h2; omega
    obtain ⟨x, hx, hg⟩ := ZK (l := a0) (n := (i : Int)) (by omega) (by omega)
    have hxl : x.length ≤ 1000 := hM x (List.mem_of_getElem? hg)
    exact ⟨x, hx, by omega, by omega, tail (x ++ carry) (by simp; omega) (.inl hi2)⟩
  · have hi2 : ¬ i < a0.length := by simp at h2; omega
    have hcp : 0 < carry.length := by
      rw [h2] at h; simp at h
      rcases Nat.eq_zero_or_pos carry.length with h' | h'
      · simp_all
      · exact h'
    exact tail carry (by omega) (.inr ⟨rfl, hcp⟩)
theorem US (c : Qz) (x : Qd) (a2 : List Int) (a3 : Int) (h3 : a2.length ≤ 1000000) : ∃ v, KH c x a2 a3 v ∧ v.1.fm.length ≤ 3000 ∧ ∀ l ∈ v.1.fm, l.length ≤ 3000 := by
  refine UM (Post := fun v => v.1.fm.length ≤ 3000 ∧ ∀ l ∈ v.1.fm, l.length ≤ 3000) ?_
  unfold Kc
  simp only [jn]
  obtain ⟨v2, e2, ok⟩ := Vh c
  obtain ⟨v4, e4, ok4⟩ := ZB x
  refine ⟨v2, e2, fun _ => by simp, fun h2 => ⟨v4, e4, fun _ => by simp, fun h4 => ⟨_, rfl, fun _ => by simp, fun h5 => ?_⟩⟩⟩
  obtain ⟨hs, ht, hsl, hll, hx⟩ := ok (by simpa using h2)
  have hp : 0 ≤ a3 ∧ a3 ≤ 1073741824 := by
    rw [XA] at h5; simpa using h5
  obtain ⟨v7, e7⟩ := Vi c.fh x.f4
  have hlev : ∀ l ∈ c.fm, l.length ≤ 100 := fun l hl => by have := (hx l hl).1; omega
  refine ⟨v7, e7, fun _ => ⟨(show c.fm.length ≤ 3000 by omega), fun l hl => by have := hlev l hl; omega⟩, fun _ => ⟨by omega, ?_⟩⟩
  obtain ⟨v10, e10, l10, r10⟩ := DJ x.f4
  refine ⟨v10, e10, ?_⟩
  refine Kk (I := fun k s => ∃ j : Nat, s.2.2 = (j : Int) ∧ j ≤ v10.length ∧ s.2.1 = v10 ∧ k = v10.length - j ∧ s.1.length ≤ 200 ∧ ∀ l ∈ s.1, l.length ≤ 100 + j) ?_ (k := v10.length) ⟨0, rfl, by omega, rfl, by omega, by simp only; omega, by simpa using hlev⟩
  rintro k ⟨L, P, i⟩ ⟨j, hj, hj1, hP, hk, hL, hLl⟩ X hX
  simp only at hj hP hL hLl ⊢
  subst hj; subst hP
  refine ⟨fun h => ?_, fun _ => ?_⟩
  · have hj2 : j < P.length := by simp at h; omega
    obtain ⟨q, hq, hqg⟩ := ZK (l := P) (n := (j : Int)) (by omega) (by omega)
    have hqr := r10 q (List.mem_of_getElem? hqg)
    refine Kk (I := fun k s => s.2 = P ∧ s.1.length ≤ 200 ∧ (∀ l ∈ s.1, l.length ≤ 100 + j) ∧ k = 201 - s.1.length) ?_ (k := 201 - L.length) ⟨rfl, hL, hLl, rfl⟩
    rintro k2 ⟨L2, P2⟩ ⟨hP2, hL2, hL2l, hk2⟩ X2 hX2
    simp only at hP2 hL2 hL2l hk2 ⊢
    subst hP2
    refine ⟨q, hq, fun h => ⟨by simp; omega, ?_⟩, fun h => ?_⟩
    · have h' : (L2.length : Int) ≤ q := by simpa using h
      refine hX2 (201 - (L2 ++ [[]]).length) _ (by simp; omega) ⟨rfl, by simp; omega, fun l hl => ?_, rfl⟩
      rcases List.mem_append.1 hl with h | h
      · exact hL2l l h
      · simp at h; rw [h]; simp
    · have h' : q < L2.length := by simpa using h
      obtain ⟨y, hy, hyg⟩ := ZK (l := L2) (n := q) (by omega) h'
      have hyl := hL2l y (List.mem_of_getElem? hyg)
      refine ⟨q, hq, q, hq, y, hy, by omega, by simp; omega, y, hy, ?_⟩
      rw [Ze (by omega)]
      refine hX (P2.length - (j + 1)) _ (by omega) ⟨j + 1, by simp, by omega, rfl, rfl, by simpa using hL2, fun l hl => ?_⟩
      rcases List.mem_or_eq_of_mem_set hl with h | h
      · have := hL2l l h; omega
      · rw [h]; simp; omega
  · obtain ⟨v26, e26, a26, b26⟩ := DL L c.fg c.f9 a2 a3 (by omega) (fun l hl => by have := hLl l hl; omega) h3 hp
    exact ⟨v26, e26, a26, b26⟩
def zSk : Ql := Ql.mk (Qi.mk (0) (0) (0) (0)) (QF.mk (0) (0) (false)) (Qm.mk (0) (0) (0) ([] : (List Int)) (false)) (Qw.mk (0) (0) ([] : (List Int))) (QM.mk (0) (0) ([] : (List Q3)) (false)) (Qo.mk (0) (0) (0) ([] : (List Q3)) (false)) (Qz.mk (0) (0) (0) ([] : (List (List ByteArray))) (false))
theorem EW : G4 zSk := by simp [G4, zSk]
theorem CW (s : Ql) (x : Qd) (a2 : List Int) (a3 : Int) (h : G4 s) (h2 : a2.length ≤ 1000000) : ∃ v, Vf s x a2 a3 v ∧ G4 v.1 := by
  refine CI (Post := fun v => G4 v.1) ?_
  unfold Jk
  simp only [jn]
  obtain ⟨v2, e2, _⟩ := YP s h
  obtain ⟨v4, e4, _⟩ := ZB x
  obtain ⟨z1, z2, z3, z4, z5, z6⟩ := h
  refine ⟨v2, e2, fun _ => EW, fun _ => ⟨v4, e4, fun _ => EW, fun _ => ⟨_, rfl, fun _ => EW, fun _ => ?_⟩⟩⟩
  obtain ⟨u1, t1⟩ := UR s.fu x
  obtain ⟨u2, t2, q2⟩ := Ws s.fi x
  obtain ⟨u3, t3, q3⟩ := Uc s.f2 x
  obtain ⟨u4, t4, q4⟩ := B8 s.fa0 x
  obtain ⟨u5, t5, q5⟩ := Wt s.fj x
  obtain ⟨u6, t6, q6, q7⟩ := US s.fy x a2 a3 h2
  refine ⟨fun _ => ⟨u1, t1, z1, z2, z3, z4, z5, z6⟩, fun _ => ⟨fun _ => ⟨u2, t2, ?_, z2, z3, z4, z5, z6⟩, fun _ => ⟨fun _ => ⟨u3, t3, z1, ?_, z3, z4, z5, z6⟩, fun _ => ⟨fun _ => ⟨u4, t4, z1, z2, ?_, z4, z5, z6⟩, fun _ => ⟨fun _ => ⟨u5, t5, z1, z2, z3, ?_, z5, z6⟩, fun _ => ⟨u6, t6, z1, z2, z3, z4, ?_, ?_⟩⟩⟩⟩⟩⟩
  · simp only; omega
  · simp only; omega
  · simp only; omega
  · simp only; omega
  · simp only; omega
  · intro l hl; have := q7 l hl; omega
theorem UT (a b d : Int) : ∃ v, KE a b d v ∧ v.1.f6.length ≤ 1000 := by
  refine UF (Post := fun v => v.1.f6.length ≤ 1000) ?_
  unfold K8
  simp only [Zn, exists_eq_left, JV]
  refine ⟨_, fun _ => rfl, fun _ => by simp, fun h => ?_⟩
  have h' : (1 ≤ a ∧ a ≤ 8) ∧ 1 ≤ b ∧ b ≤ 64 := by simpa [wI] using h
  have hm := ER h'.1 h'.2
  rw [Ze (by omega)]
  exact ⟨⟨by omega, by omega⟩, by simp; omega⟩
theorem B9 (a b : Int) : ∃ v, Ji a b v ∧ v.1.fq.length ≤ 1000 := by
  refine B0 (Post := fun v => v.1.fq.length ≤ 1000) ?_
  unfold Kz
  simp only [Zn, exists_eq_left]
  refine ⟨fun _ => by simp, fun h => ?_⟩
  have h' : 2 ≤ a ∧ a ≤ 8 := by simpa [wI] using h
  have hm := IL h'
  exact ⟨(WZ _).1, ⟨by omega, by omega⟩, by simp; omega⟩
theorem DN (a : Int) : ∃ v, VA a v ∧ v.1.fc.length ≤ 1000 := by
  refine Dg (Post := fun v => v.1.fc.length ≤ 1000) ?_
  unfold JK
  simp only [Zn, exists_eq_left]
  exact ⟨fun _ => by simp, fun _ => by simp⟩
theorem UU (a : Int) : ∃ v, KF a v ∧ v.1.fc.length ≤ 1000 := by
  refine UH (Post := fun v => v.1.fc.length ≤ 1000) ?_
  unfold K9
  simp only [Zn, exists_eq_left]
  exact ⟨fun _ => by simp, fun _ => by simp⟩
theorem BR (a : Int) : ∃ v, JF a v ∧ v.1.fm = [] := by
  refine BK (Post := fun v => v.1.fm = []) ?_
  unfold KT
  simp only [Zn, exists_eq_left]
  exact ⟨fun _ => by simp, fun _ => by simp⟩
theorem G5 (p : Qi) : ∃ v, XH p v ∧ G4 v.1 := by
  refine FR (Post := fun v => G4 v.1) ?_
  unfold VU
  simp only [jn]
  obtain ⟨u2, t2, q2⟩ := UT p.fk p.fg p.fo
  obtain ⟨u3, t3, q3⟩ := B9 p.fg p.fo
  obtain ⟨u4, t4, q4⟩ := DN p.fg
  obtain ⟨u5, t5, q5⟩ := UU p.fg
  obtain ⟨u6, t6, q6⟩ := BR p.fg
  refine ⟨_, Xf p, fun _ => EW, fun _ => ⟨fun _ => ⟨u2, t2, ?_⟩, fun _ => ⟨fun _ => ⟨u3, t3, ?_⟩, fun _ => ⟨fun _ => ⟨u4, t4, ?_⟩, fun _ => ⟨fun _ => ⟨u5, t5, ?_⟩, fun _ => ⟨fun _ => ⟨u6, t6, ?_⟩, fun _ => ?_⟩⟩⟩⟩⟩⟩ <;> simp [G4] <;> try omega
  rw [q6]; simp
theorem G6 (p : Qi) (l : List Qd) (cs : List Int) (hl : l.length ≤ 1000000) (hc : cs.length ≤ 1000000) : ∃ s, XJ p l cs s ∧ G4 s := by
  refine FX (Post := fun s => G4 s) ?_
  unfold VY
  simp only [jn]
  obtain ⟨v1, e1, z⟩ := G5 p
  refine ⟨v1, e1, ?_⟩
  refine Kk (I := fun k s => ∃ j : Nat, s.2.1 = (j : Int) ∧ j ≤ l.length ∧ k = l.length - j ∧ G4 (Ql.mk (Qi.mk (s.2.2.1) (s.2.2.2.1) (s.2.2.2.2.1) (s.2.2.2.2.2.1)) (QF.mk (s.2.2.2.2.2.2.1) (s.2.2.2.2.2.2.2.1) (s.2.2.2.2.2.2.2.2.1)) (Qm.mk (s.2.2.2.2.2.2.2.2.2.1) (s.2.2.2.2.2.2.2.2.2.2.1) (s.2.2.2.2.2.2.2.2.2.2.2.1) (s.2.2.2.2.2.2.2.2.2.2.2.2.1) (s.2.2.2.2.2.2.2.2.2.2.2.2.2.1)) (Qw.mk (s.2.2.2.2.2.2.2.2.2.2.2.2.2.2.1) (s.2.2.2.2.2.2.2.2.2.2.2.2.2.2.2.1) (s.2.2.2.2.2.2.2.2.2.2.2.2.2.2.2.2.1)) (QM.mk (s.2.2.2.2.2.2.2.2.2.2.2.2.2.2.2.2.2.1) (s.2.2.2.2.2.2.2.2.2.2.2.2.2.2.2.2.2.2.1) (s.2.2.2.2.2.2.2.2.2.2.2.2.2.2.2.2.2.2.2.1) (s.2.2.2.2.2.2.2.2.2.2.2.2.2.2.2.2.2.2.2.2.1)) (Qo.mk (s.2.2.2.2.2.2.2.2.2.2.2.2.2.2.2.2.2.2.2.2.2.1) (s.2.2.2.2.2.2.2.2.2.2.2.2.2.2.2.2.2.2.2.2.2.2.1) (s.2.2.2.2.2.2.2.2.2.2.2.2.2.2.2.2.2.2.2.2.2.2.2.1) (s.2.2.2.2.2.2.2.2.2.2.2.2.2.2.2.2.2.2.2.2.2.2.2.2.1) (s.2.2.2.2.2.2.2.2.2.2.2.2.2.2.2.2.2.2.2.2.2.2.2.2.2.1)) (Qz.mk (s.2.2.2.2.2.2.2.2.2.2.2.2.2.2.2.2.2.2.2.2.2.2.2.2.2.2.1) (s.2.2.2.2.2.2.2.2.2.2.2.2.2.2.2.2.2.2.2.2.2.2.2.2.2.2.2.1) (s.2.2.2.2.2.2.2.2.2.2.2.2.2.2.2.2.2.2.2.2.2.2.2.2.2.2.2.2.1) (s.2.2.2.2.2.2.2.2.2.2.2.2.2.2.2.2.2.2.2.2.2.2.2.2.2.2.2.2.2.1) (s.2.2.2.2.2.2.2.2.2.2.2.2.2.2.2.2.2.2.2.2.2.2.2.2.2.2.2.2.2.2)))) ?_ (k := l.length) ⟨0, rfl, by omega, by omega, z⟩
  rintro k s ⟨j, hj, hj1, hk, hz⟩ X hX
  rw [hj]
  refine ⟨fun h => ?_, fun _ => hz⟩
  have hj2 : j < l.length := by simp at h; omega
  obtain ⟨x, hx⟩ := VO hj2
  obtain ⟨v7, e7, z7⟩ := CW _ x cs s.1 hz hc
  refine ⟨x, hx, v7, e7, ?_⟩
  rw [Ze (by omega)]
  exact hX (l.length - (j + 1)) _ (by omega) ⟨j + 1, by simp, by omega, rfl, z7⟩
theorem DO (l : List Int) (hl : l.length ≤ 4611686018427387904) : ∃ s, VE l s ∧ G4 s := by
  refine Dq (Post := fun s => G4 s) ?_
  unfold JQ
  simp only [bA7]
  obtain ⟨v1, e1, _⟩ := XZ l 0 hl (by omega) (by omega)
  obtain ⟨v2, e2, _⟩ := Uq v1
  obtain ⟨v4, e4, _⟩ := XZ l 1 hl (by omega) (by omega)
  obtain ⟨v5, e5, l5, _⟩ := AC (List.drop (Int.toNat (JB (((l).length : Int)) (2))) l) (v4 % 8) (by simp; omega) (by omega) (by omega)
  obtain ⟨v6, e6, _⟩ := XZ l 9 hl (by omega) (by omega)
  obtain ⟨v7, e7, l7⟩ := AD v6
  obtain ⟨v8, e8, z8⟩ := G6 v2 v5 v7 (by omega) (by omega)
  exact ⟨v1, e1, v2, e2, ⟨by unfold JB; split <;> omega, by unfold JB; split <;> omega⟩, v4, e4, v5, e5, v6, e6, v7, e7, v8, e8, z8⟩
theorem Z4 (a : Int) (h : a < 18446744073709551616) : ∃ r, QY a r ∧ r.length ≤ 9 := by
  refine FN (Post := fun r => r.length ≤ 9) ?_
  unfold VQ
  simp only [jn, shr8]
  refine ⟨fun _ => by simp, fun _ => ?_⟩
  refine Kk (I := fun k s => s.2.length ≤ 8 ∧ k = 8 - s.2.length ∧ s.1 < 256 ^ (8 - s.2.length)) ?_ (k := 8) ⟨by simp, by simp, by simpa using h⟩
  rintro k ⟨x, l⟩ ⟨hl, hk, hx⟩ X hX
  simp only at hl hk hx ⊢
  refine ⟨fun hp => ?_, fun _ => ⟨by simp; omega, by simp; omega⟩⟩
  have hp' : 0 < x := by simpa using hp
  have hl7 : l.length < 8 := by
    rcases Nat.lt_or_ge l.length 8 with h | h
    · exact h
    · have : l.length = 8 := by omega
      rw [this] at hx; simp at hx; omega
  refine ⟨by simp; omega, hX (8 - ([IntKind.u8.wrap x] ++ l).length) _ (by simp; omega) ⟨by simp; omega, rfl, ?_⟩⟩
  have e : 8 - l.length = (8 - ([IntKind.u8.wrap x] ++ l).length) + 1 := by simp; omega
  rw [e, Int.pow_succ] at hx
  generalize (256 : Int) ^ (8 - ([IntKind.u8.wrap x] ++ l).length) = M at hx ⊢
  show x / 256 < M
  omega
theorem BS (l : List Int) (hl : l.length ≤ 4611686018427387904) : ∃ r, JE l r := by
  obtain ⟨v, hv, _⟩ := BI (Post := fun _ => True) (a0 := l) (by
    unfold KS
    simp only [jn]
    refine Kk (I := fun k s => ∃ j : Nat, s.2.2 = (j : Int) ∧ j ≤ l.length ∧ k = l.length - j) ?_ (k := l.length) ⟨0, rfl, by omega, by omega⟩
    rintro k ⟨a, b, i⟩ ⟨j, hj, hj1, hk⟩ X hX
    simp only at hj ⊢
    subst hj
    refine ⟨fun h => ?_, fun _ => trivial⟩
    have hj2 : j < l.length := by simp at h; omega
    obtain ⟨x, hx⟩ := VO hj2
    refine ⟨x, hx, ?_⟩
    rw [Ze (by omega)]
    exact hX (l.length - (j + 1)) _ (by omega) ⟨j + 1, by simp, by omega, rfl⟩)
  exact ⟨v, hv⟩
theorem AH (t : Int) (l : List Int) : ∃ r, Jx t l r ∧ r.1.length ≤ l.length + 14 := by
  refine EI (Post := fun r => r.1.length ≤ l.length + 14) ?_
  unfold Vo
  refine ⟨fun _ => by simp, fun h => ?_⟩
  have h' : (l.length : Int) ≤ 1048576 := by simpa using h
  obtain ⟨v2, e2, l2⟩ := Z4 (l.length : Int) (by omega)
  obtain ⟨v5, e5⟩ := BS (([t] ++ v2) ++ l) (by simp; omega)
  exact ⟨v2, e2, by simp; omega, by simp; omega, v5, e5, by simp; omega, by simp; omega⟩
theorem XK (b : Bool) : ∃ r, KZ b r ∧ r.length = 1 := by
  refine FO (Post := fun r => r.length = 1) ?_
  exact ⟨fun _ => rfl, fun _ => rfl⟩
theorem By (a : Int) : ∃ r, VS a r ∧ r.length ≤ 8 := by
  refine FP (Post := fun r => r.length ≤ 8) ?_
  unfold VR
  simp only [jn]
  refine Kk (I := fun k s => -1 ≤ s.2 ∧ (s.1.length : Int) = 7 - s.2 ∧ k = (s.2 + 1).toNat) ?_ (k := 8) ⟨by decide, rfl, rfl⟩
  rintro k ⟨l, i⟩ ⟨h0, h1, hk⟩ X hX
  simp only at h0 h1 hk ⊢
  refine ⟨fun h => ?_, fun h => by simp at h; omega⟩
  have hi : 0 ≤ i := by simpa using h
  refine ⟨(WZ _).1, by simp; omega, ?_⟩
  rw [Ze (n := i - 1) (by omega)]
  exact hX (i - 1 + 1).toNat _ (by omega) ⟨by simp only; omega, by simp; omega, rfl⟩
theorem WU (s : ByteArray) (h : s.size ≤ 32) : ∃ r, Va s r ∧ r.length ≤ 41 := by
  refine FQ (Post := fun r => r.length ≤ 41) ?_
  unfold VT
  obtain ⟨v, e, l⟩ := Z4 (s.size : Int) (by omega)
  have hs : (sI s).length = s.size := DX s
  exact ⟨v, e, by omega, by simp; omega⟩
theorem UV (t : QF) : ∃ r, KB t r ∧ r.1.length ≤ 60000 := by
  refine UB (Post := fun r => r.1.length ≤ 60000) ?_
  unfold K6
  obtain ⟨v2, e2, ok⟩ := Vg t
  refine ⟨v2, e2, fun _ => by simp, fun h2 => ?_⟩
  have ok := ok (by simpa using h2)
  obtain ⟨v3, e3, l3⟩ := Z4 t.fh (by omega)
  obtain ⟨v4, e4, l4⟩ := Z4 t.f0 (by omega)
  obtain ⟨v6, e6, l6⟩ := XK t.fb
  exact ⟨v3, e3, v4, e4, by omega, v6, e6, by simp; omega, by simp; omega⟩
theorem Wu (c : Qm) : ∃ r, ZZ c r ∧ r.1.length ≤ 60000 := by
  refine Wk (Post := fun r => r.1.length ≤ 60000) ?_
  unfold ZE
  simp only [jn]
  obtain ⟨v2, e2, ok⟩ := Jm c
  refine ⟨v2, e2, fun _ => by simp, fun h2 => ?_⟩
  obtain ⟨hd, hs, hl, hx⟩ := ok (by simpa using h2)
  have hm := ER hd hs
  obtain ⟨v3, e3, l3⟩ := Z4 c.fk (by omega)
  obtain ⟨v4, e4, l4⟩ := Z4 c.fg (by omega)
  obtain ⟨v6, e6, l6⟩ := By c.fo
  refine ⟨v3, e3, v4, e4, by omega, v6, e6, by simp; omega, ?_⟩
  refine Kk (I := fun k s => ∃ j : Nat, s.2 = (j : Int) ∧ j ≤ c.f6.length ∧ k = c.f6.length - j ∧ s.1.length ≤ 26 + 9 * j) ?_ (k := c.f6.length) ⟨0, rfl, by omega, by omega, by simp; omega⟩
  rintro k ⟨a, i⟩ ⟨j, hj, hj1, hk, ha⟩ X hX
  simp only at hj ha ⊢
  subst hj
  refine ⟨fun h => ?_, fun _ => ?_⟩
  · have hj2 : j < c.f6.length := by simp at h; omega
    obtain ⟨x, hx1, hg⟩ := ZK (l := c.f6) (n := (j : Int)) (by omega) (by omega)
    have hxr := hx x (List.mem_of_getElem? hg)
    obtain ⟨v13, e13, l13⟩ := Z4 x (by omega)
    refine ⟨x, hx1, v13, e13, by omega, ?_⟩
    rw [Ze (by omega)]
    exact hX (c.f6.length - (j + 1)) _ (by omega) ⟨j + 1, by simp, by omega, rfl, by simp; omega⟩
  · obtain ⟨v15, e15, l15⟩ := XK c.fb
    exact ⟨v15, e15, by omega, by simp; omega⟩
theorem Ud (c : Qw) : ∃ r, Kp c r ∧ r.1.length ≤ 60000 := by
  refine U4 (Post := fun r => r.1.length ≤ 60000) ?_
  unfold ZW
  simp only [jn]
  obtain ⟨v2, e2, ok⟩ := JW c
  refine ⟨v2, e2, fun _ => by simp, fun h2 => ?_⟩
  obtain ⟨hp, hl, hlen, hx⟩ := ok (by simpa using h2)
  obtain ⟨v3, e3, l3⟩ := Z4 c.fx (by omega)
  obtain ⟨v4, e4, l4⟩ := By c.fo
  refine ⟨v3, e3, v4, e4, by omega, ?_⟩
  refine Kk (I := fun k s => ∃ j : Nat, s.2 = (j : Int) ∧ j ≤ c.fq.length ∧ k = c.fq.length - j ∧ s.1.length ≤ 17 + j) ?_ (k := c.fq.length) ⟨0, rfl, by omega, by omega, by simp; omega⟩
  rintro k ⟨a, i⟩ ⟨j, hj, hj1, hk, ha⟩ X hX
  simp only at hj ha ⊢
  subst hj
  refine ⟨fun h => ?_, fun _ => by omega⟩
  have hj2 : j < c.fq.length := by simp at h; omega
  obtain ⟨x, hx1⟩ := VO hj2
  refine ⟨x, hx1, by simp; omega, ?_⟩
  rw [Ze (by omega)]
  exact hX (c.fq.length - (j + 1)) _ (by omega) ⟨j + 1, by simp, by omega, rfl, by simp; omega⟩
theorem Ba (c : QM) : ∃ r, Jg c r ∧ r.1.length ≤ 60000 := by
  refine AY (Post := fun r => r.1.length ≤ 60000) ?_
  unfold Ky
  simp only [jn]
  obtain ⟨v2, e2, ok⟩ := VN c
  refine ⟨v2, e2, fun _ => by simp, fun h2 => ?_⟩
  obtain ⟨hs, ht, hl, hx⟩ := ok (by simpa using h2)
  obtain ⟨v3, e3, l3⟩ := Z4 c.fg (by omega)
  obtain ⟨v4, e4, l4⟩ := Z4 c.fh (by omega)
  obtain ⟨v6, e6, l6⟩ := XK c.fb
  obtain ⟨v8, e8, l8⟩ := Z4 (c.fc.length : Int) (by omega)
  refine ⟨v3, e3, v4, e4, by omega, v6, e6, by simp; omega, v8, e8, by simp; omega, ?_⟩
  refine Kk (I := fun k s => ∃ j : Nat, s.2 = (j : Int) ∧ j ≤ c.fc.length ∧ k = c.fc.length - j ∧ s.1.length ≤ 28 + 59 * j) ?_ (k := c.fc.length) ⟨0, rfl, by omega, by omega, by simp; omega⟩
  rintro k ⟨a, i⟩ ⟨j, hj, hj1, hk, ha⟩ X hX
  simp only at hj ha ⊢
  subst hj
  refine ⟨fun h => ?_, fun _ => by omega⟩
  have hj2 : j < c.fc.length := by simp at h; omega
  obtain ⟨x, hx1, hg⟩ := ZK (l := c.fc) (n := (j : Int)) (by omega) (by omega)
  obtain ⟨k1, k2, k3⟩ := hx x (List.mem_of_getElem? hg)
  obtain ⟨v15, e15, l15⟩ := WU x.f3 (by omega)
  obtain ⟨v18, e18, l18⟩ := Z4 x.fv (by omega)
  obtain ⟨v21, e21, l21⟩ := Z4 x.fa6 (by omega)
  refine ⟨x, hx1, v15, e15, by omega, x, hx1, v18, e18, by simp; omega, x, hx1, v21, e21, by simp; omega, ?_⟩
  rw [Ze (by omega)]
  exact hX (c.fc.length - (j + 1)) _ (by omega) ⟨j + 1, by simp, by omega, rfl, by simp; omega⟩
theorem Wv (c : Qo) : ∃ r, K0 c r ∧ r.1.length ≤ 60000 := by
  refine Wm (Post := fun r => r.1.length ≤ 60000) ?_
  unfold ZF
  simp only [jn]
  obtain ⟨v2, e2, ok⟩ := Jn c
  refine ⟨v2, e2, fun _ => by simp, fun h2 => ?_⟩
  obtain ⟨hs, ht, hlo, hl, hx⟩ := ok (by simpa using h2)
  obtain ⟨v3, e3, l3⟩ := Z4 c.fg (by omega)
  obtain ⟨v4, e4, l4⟩ := Z4 c.fh (by omega)
  obtain ⟨v5, e5, l5⟩ := Z4 c.fa4 (by omega)
  obtain ⟨v6, e6, l6⟩ := XK c.fb
  obtain ⟨v8, e8, l8⟩ := Z4 (c.fc.length : Int) (by omega)
  refine ⟨v3, e3, v4, e4, by omega, v5, e5, by simp; omega, v6, e6, by simp; omega, v8, e8, by simp; omega, ?_⟩
  refine Kk (I := fun k s => ∃ j : Nat, s.2 = (j : Int) ∧ j ≤ c.fc.length ∧ k = c.fc.length - j ∧ s.1.length ≤ 37 + 50 * j) ?_ (k := c.fc.length) ⟨0, rfl, by omega, by omega, by simp; omega⟩
  rintro k ⟨a, i⟩ ⟨j, hj, hj1, hk, ha⟩ X hX
  simp only at hj ha ⊢
  subst hj
  refine ⟨fun h => ?_, fun _ => by omega⟩
  have hj2 : j < c.fc.length := by simp at h; omega
  obtain ⟨x, hx1, hg⟩ := ZK (l := c.fc) (n := (j : Int)) (by omega) (by omega)
  obtain ⟨k1, k2, k3⟩ := hx x (List.mem_of_getElem? hg)
  obtain ⟨v15, e15, l15⟩ := WU x.f3 (by omega)
  obtain ⟨v18, e18, l18⟩ := Z4 x.fv (by omega)
  refine ⟨x, hx1, v15, e15, by omega, x, hx1, v18, e18, by simp; omega, ?_⟩
  rw [Ze (by omega)]
  exact hX (c.fc.length - (j + 1)) _ (by omega) ⟨j + 1, by simp, by omega, rfl, by simp; omega⟩
theorem UW (c : Qz) : ∃ r, KC c r ∧ r.1.length ≤ 60000 := by
  refine UD (Post := fun r => r.1.length ≤ 60000) ?_
  unfold K7
  simp only [jn]
  obtain ⟨v2, e2, ok⟩ := Vh c
  refine ⟨v2, e2, fun _ => by simp, fun h2 => ?_⟩
  obtain ⟨hs, ht, hlo, hl, hx⟩ := ok (by simpa using h2)
  obtain ⟨v3, e3, l3⟩ := Z4 c.fg (by omega)
  obtain ⟨v4, e4, l4⟩ := Z4 c.fh (by omega)
  obtain ⟨v5, e5, l5⟩ := Z4 c.f9 (by omega)
  obtain ⟨v6, e6, l6⟩ := XK c.fb
  obtain ⟨v8, e8, l8⟩ := Z4 (c.fm.length : Int) (by omega)
  refine ⟨v3, e3, v4, e4, by omega, v5, e5, by simp; omega, v6, e6, by simp; omega, v8, e8, by simp; omega, ?_⟩
  refine Kk (I := fun k s => ∃ j : Nat, s.2 = (j : Int) ∧ j ≤ c.fm.length ∧ k = c.fm.length - j ∧ s.1.length ≤ 37 + 1280 * j) ?_ (k := c.fm.length) ⟨0, rfl, by omega, by omega, by simp; omega⟩
  rintro k ⟨a, i⟩ ⟨j, hj, hj1, hk, ha⟩ X hX
  simp only at hj ha ⊢
  subst hj
  refine ⟨fun h => ?_, fun _ => by omega⟩
  have hj2 : j < c.fm.length := by simp at h; omega
  obtain ⟨x, hx1, hg⟩ := ZK (l := c.fm) (n := (j : Int)) (by omega) (by omega)
  obtain ⟨k1, k2⟩ := hx x (List.mem_of_getElem? hg)
  obtain ⟨v17, e17, l17⟩ := Z4 (x.length : Int) (by omega)
  refine ⟨x, hx1, v17, e17, by omega, ?_⟩
  refine Kk (I := fun k s => ∃ m : Nat, s.2 = (m : Int) ∧ m ≤ x.length ∧ k = x.length - m ∧ s.1.length ≤ 37 + 1280 * j + 9 + 41 * m) ?_ (k := x.length) ⟨0, rfl, by omega, by omega, by simp; omega⟩
  rintro kk ⟨b, ii⟩ ⟨m, hm, hm1, hkk, hb⟩ X2 hX2
  simp only at hm hb ⊢
  subst hm
  refine ⟨x, hx1, fun h3 => ?_, fun _ => ?_⟩
  · have hm2 : m < x.length := by simp at h3; omega
    obtain ⟨y, hy1, hg2⟩ := ZK (l := x) (n := (m : Int)) (by omega) (by omega)
    have hy := k2 y (List.mem_of_getElem? hg2)
    obtain ⟨v25, e25, l25⟩ := WU y (by omega)
    refine ⟨x, hx1, y, hy1, v25, e25, by omega, ?_⟩
    rw [Ze (by omega)]
    exact hX2 (x.length - (m + 1)) _ (by omega) ⟨m + 1, by simp, by omega, rfl, by simp; omega⟩
  · rw [Ze (by omega)]
    exact hX (c.fm.length - (j + 1)) _ (by omega) ⟨j + 1, by simp, by omega, rfl, by simp only; omega⟩
theorem CX (s : Ql) (h : G4 s) : ∃ r, Vb s r ∧ r.1.length ≤ 60100 := by
  refine CC (Post := fun r => r.1.length ≤ 60100) ?_
  unfold Jh
  simp only [jn]
  obtain ⟨v2, e2, hk⟩ := YP s h
  refine ⟨v2, e2, fun _ => by simp, fun h2 => ?_⟩
  have hk := hk (by simpa using h2)
  obtain ⟨v10, e10, l10⟩ := Z4 s.fa.ff (by omega)
  have fin : ∀ p : List Int, p.length ≤ 60000 → ∃ (v10 : (List Int)), QY (s.fa.ff) v10 ∧ (((v10).length + (p).length) * 1 ≤ 140737488355328) ∧ ∃ (v12 : (List Int) × Int), Jx (83) ((v10) ++ (p)) v12 ∧ v12.1.length ≤ 60100 := by
    intro p hp
    obtain ⟨v12, e12, l12⟩ := AH 83 (v10 ++ p)
    exact ⟨v10, e10, by omega, v12, e12, by simp at l12; omega⟩
  obtain ⟨u1, t1, q1⟩ := UV s.fu
  obtain ⟨u2, t2, q2⟩ := Wu s.fi
  obtain ⟨u3, t3, q3⟩ := Ud s.f2
  obtain ⟨u4, t4, q4⟩ := Ba s.fa0
  obtain ⟨u5, t5, q5⟩ := Wv s.fj
  obtain ⟨u6, t6, q6⟩ := UW s.fy
  exact ⟨fun _ => ⟨u1, t1, fin _ q1⟩, fun _ => ⟨fun _ => ⟨u2, t2, fin _ q2⟩, fun _ => ⟨fun _ => ⟨u3, t3, fin _ q3⟩, fun _ => ⟨fun _ => ⟨u4, t4, fin _ q4⟩, fun _ => ⟨fun _ => ⟨u5, t5, fin _ q5⟩, fun _ => ⟨u6, t6, fin _ q6⟩⟩⟩⟩⟩⟩
theorem DR (s : Ql) (h : G4 s) : ∃ r, Xz s r ∧ r.length ≤ 65536 := by
  obtain ⟨v1, e1, l1⟩ := CX s h
  obtain ⟨v2, e2, l2⟩ := AH 88 v1.1
  exact ⟨_, ⟨v1, e1, v2.1, ⟨v2, e2, rfl⟩, rfl⟩, by omega⟩
theorem Vj {x : QB} (hk : KX x.ff) (h : ∀ f, f < 14 → if JX x.ff f = true then YF x f = 0 else Ec (D2 x) f = true) : Yk x = 0 := by
  have z : fnz (GD (D2 x).kind (YF x)) = 0 := by
    refine ID fun i hi => ?_
    rw [FF] at hi
    rw [Lr _ _ hi]
    have := h i hi
    show (if JX x.ff i = true then YF x i else 0) = 0
    split
    · rw [if_pos (by assumption)] at this; exact this
    · rfl
  unfold Yk valO
  rw [if_neg (by simpa [D2] using hk), z, if_neg (by simp), if_pos]
  rw [List.all_eq_true]
  intro f hf
  have := h f (by simpa using hf)
  show (JX x.ff f || Ec (D2 x) f) = true
  cases hm : JX x.ff f
  · rw [hm] at this; simpa using this
  · rfl
theorem G7 : (ByteArray.empty).toList = [] := CN
theorem vk1 (n : ByteArray) (p : Qi) (hn : Hd n = true) (hp : Ay p.ff p.fg p.fk p.fo = 0) : Yk (QB.mk (1) (n) (ByteArray.empty) ([] : (List ByteArray)) p ([] : (List Qd)) ([] : (List Int)) (0) (0) (0) (0) (0) (0) (Qy.mk (0) (ByteArray.empty) (0) (0) (0)) ([] : (List Int))) = 0 := by
  refine Vj (show KX 1 from ⟨by decide, by decide⟩) fun f hf => ?_
  rcases XD hf with rfl | rfl | rfl | rfl | rfl | rfl | rfl | rfl | rfl | rfl | rfl | rfl | rfl | rfl <;> simp [JX, Y6, YF, Ec, D2, Dz, G7, hn, hp]
theorem vk2 (n : ByteArray) (hn : Hd n = true) : Yk (QB.mk (2) (n) (ByteArray.empty) ([] : (List ByteArray)) (Qi.mk (0) (0) (0) (0)) ([] : (List Qd)) ([] : (List Int)) (0) (0) (0) (0) (0) (0) (Qy.mk (0) (ByteArray.empty) (0) (0) (0)) ([] : (List Int))) = 0 := by
  refine Vj (show KX 2 from ⟨by decide, by decide⟩) fun f hf => ?_
  rcases XD hf with rfl | rfl | rfl | rfl | rfl | rfl | rfl | rfl | rfl | rfl | rfl | rfl | rfl | rfl <;> simp [JX, Y6, YF, Ec, D2, Dz, G7, hn]
theorem vk3 (n m : ByteArray) (hn : Hd n = true) (hm : Hd m = true) : Yk (QB.mk (3) (n) (m) ([] : (List ByteArray)) (Qi.mk (0) (0) (0) (0)) ([] : (List Qd)) ([] : (List Int)) (0) (0) (0) (0) (0) (0) (Qy.mk (0) (ByteArray.empty) (0) (0) (0)) ([] : (List Int))) = 0 := by
  refine Vj (show KX 3 from ⟨by decide, by decide⟩) fun f hf => ?_
  rcases XD hf with rfl | rfl | rfl | rfl | rfl | rfl | rfl | rfl | rfl | rfl | rfl | rfl | rfl | rfl <;> simp [JX, Y6, YF, Ec, D2, Dz, G7, hn, hm]
theorem vk4   : Yk (QB.mk (4) (ByteArray.empty) (ByteArray.empty) ([] : (List ByteArray)) (Qi.mk (0) (0) (0) (0)) ([] : (List Qd)) ([] : (List Int)) (0) (0) (0) (0) (0) (0) (Qy.mk (0) (ByteArray.empty) (0) (0) (0)) ([] : (List Int))) = 0 := by
  refine Vj (show KX 4 from ⟨by decide, by decide⟩) fun f hf => ?_
  rcases XD hf with rfl | rfl | rfl | rfl | rfl | rfl | rfl | rfl | rfl | rfl | rfl | rfl | rfl | rfl <;> simp [JX, Y6, YF, Ec, D2, Dz, G7]
theorem vk5 (n : ByteArray) (q : Qy) (hn : Hd n = true) (hq : CL q.ff q.f3 q.fv q.fb2 q.fb3 = 0) : Yk (QB.mk (5) (n) (ByteArray.empty) ([] : (List ByteArray)) (Qi.mk (0) (0) (0) (0)) ([] : (List Qd)) ([] : (List Int)) (0) (0) (0) (0) (0) (0) q ([] : (List Int))) = 0 := by
  refine Vj (show KX 5 from ⟨by decide, by decide⟩) fun f hf => ?_
  rcases XD hf with rfl | rfl | rfl | rfl | rfl | rfl | rfl | rfl | rfl | rfl | rfl | rfl | rfl | rfl <;> simp [JX, Y6, YF, Ec, D2, Dz, G7, hn, hq]
theorem vk6 (n : ByteArray) (its : List Qd) (cs : List Int) (hn : Hd n = true) (hi : ilE its = 0) (hc : EQ cs.length 64 = 0) : Yk (QB.mk (6) (n) (ByteArray.empty) ([] : (List ByteArray)) (Qi.mk (0) (0) (0) (0)) its cs (0) (0) (0) (0) (0) (0) (Qy.mk (0) (ByteArray.empty) (0) (0) (0)) ([] : (List Int))) = 0 := by
  refine Vj (show KX 6 from ⟨by decide, by decide⟩) fun f hf => ?_
  rcases XD hf with rfl | rfl | rfl | rfl | rfl | rfl | rfl | rfl | rfl | rfl | rfl | rfl | rfl | rfl <;> simp [JX, Y6, YF, Ec, D2, Dz, G7, hn, hi, hc]
theorem vk7 (n m : ByteArray) (cs : List Int) (hn : Hd n = true) (hm : Hd m = true) (hc : EQ cs.length 64 = 0) : Yk (QB.mk (7) (n) (m) ([] : (List ByteArray)) (Qi.mk (0) (0) (0) (0)) ([] : (List Qd)) cs (0) (0) (0) (0) (0) (0) (Qy.mk (0) (ByteArray.empty) (0) (0) (0)) ([] : (List Int))) = 0 := by
  refine Vj (show KX 7 from ⟨by decide, by decide⟩) fun f hf => ?_
  rcases XD hf with rfl | rfl | rfl | rfl | rfl | rfl | rfl | rfl | rfl | rfl | rfl | rfl | rfl | rfl <;> simp [JX, Y6, YF, Ec, D2, Dz, G7, hn, hm, hc]
theorem vk8 (n m : ByteArray) (cs : List Int) (e s : Int) (hn : Hd n = true) (hm : Hd m = true) (hc : EQ cs.length 64 = 0) (he : YO e 1 1048576 = 0) (hs : YO s 1 1048576 = 0) : Yk (QB.mk (8) (n) (m) ([] : (List ByteArray)) (Qi.mk (0) (0) (0) (0)) ([] : (List Qd)) cs e s (0) (0) (0) (0) (Qy.mk (0) (ByteArray.empty) (0) (0) (0)) ([] : (List Int))) = 0 := by
  refine Vj (show KX 8 from ⟨by decide, by decide⟩) fun f hf => ?_
  rcases XD hf with rfl | rfl | rfl | rfl | rfl | rfl | rfl | rfl | rfl | rfl | rfl | rfl | rfl | rfl <;> simp [JX, Y6, YF, Ec, D2, Dz, G7, hn, hm, hc, he, hs]
theorem vk9 (ns : List ByteArray) (hn : nlE ns = 0) : Yk (QB.mk (9) (ByteArray.empty) (ByteArray.empty) ns (Qi.mk (0) (0) (0) (0)) ([] : (List Qd)) ([] : (List Int)) (0) (0) (0) (0) (0) (0) (Qy.mk (0) (ByteArray.empty) (0) (0) (0)) ([] : (List Int))) = 0 := by
  refine Vj (show KX 9 from ⟨by decide, by decide⟩) fun f hf => ?_
  rcases XD hf with rfl | rfl | rfl | rfl | rfl | rfl | rfl | rfl | rfl | rfl | rfl | rfl | rfl | rfl <;> simp [JX, Y6, YF, Ec, D2, Dz, G7, hn]
theorem vk10 (h i : Int) (q : Qy) (hh : YO h 0 3 = 0) (hi : YO i 0 15 = 0) (hq : CL q.ff q.f3 q.fv q.fb2 q.fb3 = 0) : Yk (QB.mk (10) (ByteArray.empty) (ByteArray.empty) ([] : (List ByteArray)) (Qi.mk (0) (0) (0) (0)) ([] : (List Qd)) ([] : (List Int)) (0) (0) h i (0) (0) q ([] : (List Int))) = 0 := by
  refine Vj (show KX 10 from ⟨by decide, by decide⟩) fun f hf => ?_
  rcases XD hf with rfl | rfl | rfl | rfl | rfl | rfl | rfl | rfl | rfl | rfl | rfl | rfl | rfl | rfl <;> simp [JX, Y6, YF, Ec, D2, Dz, G7, hh, hi, hq]
theorem vk11 (h : Int) (hh : YO h 0 3 = 0) : Yk (QB.mk (11) (ByteArray.empty) (ByteArray.empty) ([] : (List ByteArray)) (Qi.mk (0) (0) (0) (0)) ([] : (List Qd)) ([] : (List Int)) (0) (0) h (0) (0) (0) (Qy.mk (0) (ByteArray.empty) (0) (0) (0)) ([] : (List Int))) = 0 := by
  refine Vj (show KX 11 from ⟨by decide, by decide⟩) fun f hf => ?_
  rcases XD hf with rfl | rfl | rfl | rfl | rfl | rfl | rfl | rfl | rfl | rfl | rfl | rfl | rfl | rfl <;> simp [JX, Y6, YF, Ec, D2, Dz, G7, hh]
theorem vk12 (h i : Int) (hh : YO h 0 3 = 0) (hi : YO i 0 15 = 0) : Yk (QB.mk (12) (ByteArray.empty) (ByteArray.empty) ([] : (List ByteArray)) (Qi.mk (0) (0) (0) (0)) ([] : (List Qd)) ([] : (List Int)) (0) (0) h i (0) (0) (Qy.mk (0) (ByteArray.empty) (0) (0) (0)) ([] : (List Int))) = 0 := by
  refine Vj (show KX 12 from ⟨by decide, by decide⟩) fun f hf => ?_
  rcases XD hf with rfl | rfl | rfl | rfl | rfl | rfl | rfl | rfl | rfl | rfl | rfl | rfl | rfl | rfl <;> simp [JX, Y6, YF, Ec, D2, Dz, G7, hh, hi]
theorem vk13 (c n : Int) (hc : YO c 0 3 = 0) (hn : YO n 0 32 = 0) : Yk (QB.mk (13) (ByteArray.empty) (ByteArray.empty) ([] : (List ByteArray)) (Qi.mk (0) (0) (0) (0)) ([] : (List Qd)) ([] : (List Int)) (0) (0) (0) (0) c n (Qy.mk (0) (ByteArray.empty) (0) (0) (0)) ([] : (List Int))) = 0 := by
  refine Vj (show KX 13 from ⟨by decide, by decide⟩) fun f hf => ?_
  rcases XD hf with rfl | rfl | rfl | rfl | rfl | rfl | rfl | rfl | rfl | rfl | rfl | rfl | rfl | rfl <;> simp [JX, Y6, YF, Ec, D2, Dz, G7, hc, hn]
theorem vk14 (c : Int) (hc : YO c 0 3 = 0) : Yk (QB.mk (14) (ByteArray.empty) (ByteArray.empty) ([] : (List ByteArray)) (Qi.mk (0) (0) (0) (0)) ([] : (List Qd)) ([] : (List Int)) (0) (0) (0) (0) c (0) (Qy.mk (0) (ByteArray.empty) (0) (0) (0)) ([] : (List Int))) = 0 := by
  refine Vj (show KX 14 from ⟨by decide, by decide⟩) fun f hf => ?_
  rcases XD hf with rfl | rfl | rfl | rfl | rfl | rfl | rfl | rfl | rfl | rfl | rfl | rfl | rfl | rfl <;> simp [JX, Y6, YF, Ec, D2, Dz, G7, hc]
theorem vk15 (h i : Int) (hh : YO h 0 3 = 0) (hi : YO i 0 15 = 0) : Yk (QB.mk (15) (ByteArray.empty) (ByteArray.empty) ([] : (List ByteArray)) (Qi.mk (0) (0) (0) (0)) ([] : (List Qd)) ([] : (List Int)) (0) (0) h i (0) (0) (Qy.mk (0) (ByteArray.empty) (0) (0) (0)) ([] : (List Int))) = 0 := by
  refine Vj (show KX 15 from ⟨by decide, by decide⟩) fun f hf => ?_
  rcases XD hf with rfl | rfl | rfl | rfl | rfl | rfl | rfl | rfl | rfl | rfl | rfl | rfl | rfl | rfl <;> simp [JX, Y6, YF, Ec, D2, Dz, G7, hh, hi]
theorem vk16 (n : ByteArray) (d : List Int) (hn : Hd n = true) (hd : EQ d.length 65536 = 0) : Yk (QB.mk (16) (n) (ByteArray.empty) ([] : (List ByteArray)) (Qi.mk (0) (0) (0) (0)) ([] : (List Qd)) ([] : (List Int)) (0) (0) (0) (0) (0) (0) (Qy.mk (0) (ByteArray.empty) (0) (0) (0)) d) = 0 := by
  refine Vj (show KX 16 from ⟨by decide, by decide⟩) fun f hf => ?_
  rcases XD hf with rfl | rfl | rfl | rfl | rfl | rfl | rfl | rfl | rfl | rfl | rfl | rfl | rfl | rfl <;> simp [JX, Y6, YF, Ec, D2, Dz, G7, hn, hd]
theorem vk17   : Yk (QB.mk (17) (ByteArray.empty) (ByteArray.empty) ([] : (List ByteArray)) (Qi.mk (0) (0) (0) (0)) ([] : (List Qd)) ([] : (List Int)) (0) (0) (0) (0) (0) (0) (Qy.mk (0) (ByteArray.empty) (0) (0) (0)) ([] : (List Int))) = 0 := by
  refine Vj (show KX 17 from ⟨by decide, by decide⟩) fun f hf => ?_
  rcases XD hf with rfl | rfl | rfl | rfl | rfl | rfl | rfl | rfl | rfl | rfl | rfl | rfl | rfl | rfl <;> simp [JX, Y6, YF, Ec, D2, Dz, G7]
theorem sho0 {n : Nat} {m : Int} (h : (n : Int) ≤ m) : EQ n m = 0 := by unfold EQ; rw [if_neg (by omega)]
theorem BU {n a b : Int} (h : a ≤ n ∧ n ≤ b) : YO n a b = 0 := by unfold YO; rw [if_pos h]
theorem il0 {l : List Qd} (h : 1 ≤ l.length ∧ l.length ≤ 64) (h2 : ∀ x ∈ l, II x = 0) : ilE l = 0 := by
  unfold ilE; rw [if_neg (by simpa using h)]
  exact FZ fun j x hx => h2 x (List.mem_of_getElem? hx)
theorem nl0 {l : List ByteArray} (h : 1 ≤ l.length ∧ l.length ≤ 16) (h2 : ∀ x ∈ l, Hd x = true) : nlE l = 0 := by
  unfold nlE; rw [if_neg (by simpa using h)]
  exact FZ fun j x hx => by unfold Dz; rw [if_pos (h2 x (List.mem_of_getElem? hx))]
def Bz (m : Nat) (x : QB) : Prop := x.f8.length ≤ m ∧ x.f0.length ≤ m ∧ x.fa7.length ≤ m ∧ x.fa8.length ≤ m ∧ 0 ≤ x.fa.fo ∧ x.fa.fo ≤ 18446744073709551615
theorem HO (l : List Int) (i : Int) (hl : l.length ≤ 4611686018427387904) (h0 : 0 ≤ i) (h1 : i ≤ 900) (Q : QB → Prop) (hQ : ∀ x, Yk x = 0 → Bz 65536 x → Q x) : Xt l i Q := by
  unfold Xt
  obtain ⟨v1, e1, a1, b1⟩ := XZ l i hl h0 (by omega)
  obtain ⟨v2, e2, a2, b2⟩ := XZ l (IntKind.i64.wrap (i + 7)) hl (by rw [Ze (by omega)]; omega) (by rw [Ze (by omega)]; omega)
  refine ⟨v1, e1, v2, e2, ?_⟩
  simp only [jn, bA1, Mi, bA7]
  rw [Kf a1]
  have hk0 : 0 ≤ v1 % 20 ∧ v1 % 20 ≤ 19 := by omega
  obtain ⟨s5, es5, hs5⟩ := Yo (Qv .i64 v1 5)
  obtain ⟨s6, es6, hs6⟩ := Yo (Qv .i64 v1 6)
  obtain ⟨s7, es7, hs7⟩ := Yo (Qv .i64 v1 7)
  obtain ⟨s8, es8, hs8⟩ := Yo (Qv .i64 v1 8)
  obtain ⟨p, ep, gp⟩ := Uq v2
  have hp := HN gp
  obtain ⟨q, eq, hq⟩ := AB v2
  obtain ⟨c, ec, hc⟩ := AD v2
  have hc0 : EQ c.length 64 = 0 := sho0 (by omega)
  have i5 : i.tmod 5 = i % 5 := Kf h0
  have i7 : i.tmod 7 = i % 7 := Kf h0
  have m5 : 0 ≤ JB (l.length : Int) (i % 5) ∧ JB (l.length : Int) (i % 5) ≤ l.length := by unfold JB; split <;> omega
  have m7 : 0 ≤ JB (l.length : Int) (i % 7) ∧ JB (l.length : Int) (i % 7) ≤ l.length := by unfold JB; split <;> omega
  rw [i5, i7]
  generalize v1 % 20 = k at hk0 ⊢
  generalize Qv .i64 v1 5 = t5 at *
  generalize Qv .i64 v1 6 = t6 at *
  generalize Qv .i64 v1 7 = t7 at *
  generalize Qv .i64 v1 8 = t8 at *
  generalize Qv .i64 v1 10 = t10
  generalize Qv .i64 v1 11 = t11
  generalize Qv .i64 v2 3 = u3
  have hks : k = 0 ∨ k = 1 ∨ k = 2 ∨ k = 3 ∨ k = 4 ∨ k = 5 ∨ k = 6 ∨ k = 7 ∨ k = 8 ∨ k = 9 ∨ k = 10 ∨ k = 11 ∨ k = 12 ∨ k = 13 ∨ k = 14 ∨ k = 15 ∨ k = 16 ∨ k = 17 ∨ k = 18 ∨ k = 19 := by omega
  have z0 : Bz 65536 (QB.mk 17 .empty .empty [] ⟨0, 0, 0, 0⟩ [] [] 0 0 0 0 0 0 ⟨0, .empty, 0, 0, 0⟩ []) := by simp [Bz]
  have c1 : Q (QB.mk 1 s5 .empty [] p [] [] 0 0 0 0 0 0 ⟨0, .empty, 0, 0, 0⟩ []) := hQ _ (vk1 _ _ hs5 hp) (by have hps : 0 ≤ p.fo ∧ p.fo ≤ 3 := (by unfold DG at gp; omega); simp [Bz]; omega)
  have c6 : ∃ v15, Jv (List.drop (Int.toNat (JB (l.length : Int) (i % 5))) l) (IntKind.i64.wrap (1 + t7 % 8)) v15 ∧ Q (QB.mk 6 s5 .empty [] ⟨0, 0, 0, 0⟩ v15 c 0 0 0 0 0 0 ⟨0, .empty, 0, 0, 0⟩ []) := by
    rw [Ze (by omega)]
    obtain ⟨v15, e15, l15, o15⟩ := AC (List.drop (Int.toNat (JB (l.length : Int) (i % 5))) l) (1 + t7 % 8) (by simp; omega) (by omega) (by omega)
    exact ⟨v15, e15, hQ _ (vk6 _ _ _ hs5 (il0 (by omega) o15) hc0) (by simp [Bz]; omega)⟩
  obtain ⟨v15, e15, c6⟩ := c6
  have c9 : (0 ≤ IntKind.i64.wrap (IntKind.i64.wrap (1 + t10 % 2) + t11 % 2) ∧ IntKind.i64.wrap (IntKind.i64.wrap (1 + t10 % 2) + t11 % 2) ≤ 3) ∧ Q (QB.mk 9 .empty .empty (List.take (Int.toNat (IntKind.i64.wrap (IntKind.i64.wrap (1 + t10 % 2) + t11 % 2))) [s5, s7, s8]) ⟨0, 0, 0, 0⟩ [] [] 0 0 0 0 0 0 ⟨0, .empty, 0, 0, 0⟩ []) := by
    have w : IntKind.i64.wrap (IntKind.i64.wrap (1 + t10 % 2) + t11 % 2) = 1 + t10 % 2 + t11 % 2 := by rw [Ze (n := 1 + t10 % 2) (by omega), Ze (by omega)]
    rw [w]
    refine ⟨by omega, hQ _ (vk9 _ (nl0 (by simp; omega) fun x hx => ?_)) (by simp [Bz]; omega)⟩
    have := List.mem_of_mem_take hx
    simp at this
    rcases this with rfl | rfl | rfl <;> assumption
  obtain ⟨sk, esk, zsk⟩ := DO (List.drop (Int.toNat (JB (l.length : Int) (i % 7))) l) (by simp; omega)
  obtain ⟨ex, eex, lex⟩ := DR sk zsk
  rcases hks with rfl | rfl | rfl | rfl | rfl | rfl | rfl | rfl | rfl | rfl | rfl | rfl | rfl | rfl | rfl | rfl | rfl | rfl | rfl | rfl
  · exact ⟨fun _ => ⟨fun _ => ⟨s5, es5, p, ep, c1⟩, fun h => by simp at h⟩, fun h => by simp at h⟩
  · exact ⟨fun h => by simp at h, fun _ => ⟨fun _ => ⟨s5, es5, p, ep, c1⟩, fun h => by simp at h⟩⟩
  · exact ⟨fun h => by simp at h, fun _ => ⟨fun h => by simp at h, fun _ => ⟨fun _ => ⟨s5, es5, hQ _ (vk2 _ hs5) (by simp [Bz])⟩, fun h => by simp at h⟩⟩⟩
  · exact ⟨fun h => by simp at h, fun _ => ⟨fun h => by simp at h, fun _ => ⟨fun h => by simp at h, fun _ => ⟨fun _ => ⟨s5, es5, s7, es7, hQ _ (vk3 _ _ hs5 hs7) (by simp [Bz])⟩, fun h => by simp at h⟩⟩⟩⟩
  · exact ⟨fun h => by simp at h, fun _ => ⟨fun h => by simp at h, fun _ => ⟨fun h => by simp at h, fun _ => ⟨fun h => by simp at h, fun _ => ⟨fun _ => hQ _ vk4 (by simp [Bz]), fun h => by simp at h⟩⟩⟩⟩⟩
  · exact ⟨fun h => by simp at h, fun _ => ⟨fun h => by simp at h, fun _ => ⟨fun h => by simp at h, fun _ => ⟨fun h => by simp at h, fun _ => ⟨fun h => by simp at h, fun _ => ⟨fun _ => ⟨s5, es5, q, eq, hQ _ (vk5 _ _ hs5 hq) (by simp [Bz])⟩, fun h => by simp at h⟩⟩⟩⟩⟩⟩
  · exact ⟨fun h => by simp at h, fun _ => ⟨fun h => by simp at h, fun _ => ⟨fun h => by simp at h, fun _ => ⟨fun h => by simp at h, fun _ => ⟨fun h => by simp at h, fun _ => ⟨fun h => by simp at h, fun _ => ⟨fun _ => ⟨fun _ => ⟨s5, es5, m5, v15, e15, c, ec, c6⟩, fun h => by simp at h⟩, fun h => by simp at h⟩⟩⟩⟩⟩⟩⟩
  · exact ⟨fun h => by simp at h, fun _ => ⟨fun h => by simp at h, fun _ => ⟨fun h => by simp at h, fun _ => ⟨fun h => by simp at h, fun _ => ⟨fun h => by simp at h, fun _ => ⟨fun h => by simp at h, fun _ => ⟨fun h => by simp at h, fun _ => ⟨fun _ => ⟨fun _ => ⟨s5, es5, m5, v15, e15, c, ec, c6⟩, fun h => by simp at h⟩, fun h => by simp at h⟩⟩⟩⟩⟩⟩⟩⟩
  · exact ⟨fun h => by simp at h, fun _ => ⟨fun h => by simp at h, fun _ => ⟨fun h => by simp at h, fun _ => ⟨fun h => by simp at h, fun _ => ⟨fun h => by simp at h, fun _ => ⟨fun h => by simp at h, fun _ => ⟨fun h => by simp at h, fun _ => ⟨fun h => by simp at h, fun _ => ⟨fun _ => ⟨s5, es5, m5, v15, e15, c, ec, c6⟩, fun h => by simp at h⟩⟩⟩⟩⟩⟩⟩⟩⟩
  · exact ⟨fun h => by simp at h, fun _ => ⟨fun h => by simp at h, fun _ => ⟨fun h => by simp at h, fun _ => ⟨fun h => by simp at h, fun _ => ⟨fun h => by simp at h, fun _ => ⟨fun h => by simp at h, fun _ => ⟨fun h => by simp at h, fun _ => ⟨fun h => by simp at h, fun _ => ⟨fun h => by simp at h, fun _ => ⟨fun _ => ⟨s5, es5, s7, es7, c, ec, hQ _ (vk7 _ _ _ hs5 hs7 hc0) (by simp [Bz]; omega)⟩, fun h => by simp at h⟩⟩⟩⟩⟩⟩⟩⟩⟩⟩
  · exact ⟨fun h => by simp at h, fun _ => ⟨fun h => by simp at h, fun _ => ⟨fun h => by simp at h, fun _ => ⟨fun h => by simp at h, fun _ => ⟨fun h => by simp at h, fun _ => ⟨fun h => by simp at h, fun _ => ⟨fun h => by simp at h, fun _ => ⟨fun h => by simp at h, fun _ => ⟨fun h => by simp at h, fun _ => ⟨fun h => by simp at h, fun _ => ⟨fun _ => ⟨s5, es5, s7, es7, c, ec, hQ _ (vk8 _ _ _ _ _ hs5 hs7 hc0 (BU (by rw [Ze (by omega)]; omega)) (BU (by rw [Ze (by omega)]; omega))) (by simp [Bz]; omega)⟩, fun h => by simp at h⟩⟩⟩⟩⟩⟩⟩⟩⟩⟩⟩
  · exact ⟨fun h => by simp at h, fun _ => ⟨fun h => by simp at h, fun _ => ⟨fun h => by simp at h, fun _ => ⟨fun h => by simp at h, fun _ => ⟨fun h => by simp at h, fun _ => ⟨fun h => by simp at h, fun _ => ⟨fun h => by simp at h, fun _ => ⟨fun h => by simp at h, fun _ => ⟨fun h => by simp at h, fun _ => ⟨fun h => by simp at h, fun _ => ⟨fun h => by simp at h, fun _ => ⟨fun _ => ⟨fun _ => ⟨s5, es5, s7, es7, s8, es8, c9.1, c9.2⟩, fun h => by simp at h⟩, fun h => by simp at h⟩⟩⟩⟩⟩⟩⟩⟩⟩⟩⟩⟩
  · exact ⟨fun h => by simp at h, fun _ => ⟨fun h => by simp at h, fun _ => ⟨fun h => by simp at h, fun _ => ⟨fun h => by simp at h, fun _ => ⟨fun h => by simp at h, fun _ => ⟨fun h => by simp at h, fun _ => ⟨fun h => by simp at h, fun _ => ⟨fun h => by simp at h, fun _ => ⟨fun h => by simp at h, fun _ => ⟨fun h => by simp at h, fun _ => ⟨fun h => by simp at h, fun _ => ⟨fun h => by simp at h, fun _ => ⟨fun _ => ⟨s5, es5, s7, es7, s8, es8, c9.1, c9.2⟩, fun h => by simp at h⟩⟩⟩⟩⟩⟩⟩⟩⟩⟩⟩⟩⟩
  · exact ⟨fun h => by simp at h, fun _ => ⟨fun h => by simp at h, fun _ => ⟨fun h => by simp at h, fun _ => ⟨fun h => by simp at h, fun _ => ⟨fun h => by simp at h, fun _ => ⟨fun h => by simp at h, fun _ => ⟨fun h => by simp at h, fun _ => ⟨fun h => by simp at h, fun _ => ⟨fun h => by simp at h, fun _ => ⟨fun h => by simp at h, fun _ => ⟨fun h => by simp at h, fun _ => ⟨fun h => by simp at h, fun _ => ⟨fun h => by simp at h, fun _ => ⟨fun _ => ⟨q, eq, hQ _ (vk10 _ _ _ (BU (by omega)) (BU (by omega)) hq) (by simp [Bz])⟩, fun h => by simp at h⟩⟩⟩⟩⟩⟩⟩⟩⟩⟩⟩⟩⟩⟩
  · exact ⟨fun h => by simp at h, fun _ => ⟨fun h => by simp at h, fun _ => ⟨fun h => by simp at h, fun _ => ⟨fun h => by simp at h, fun _ => ⟨fun h => by simp at h, fun _ => ⟨fun h => by simp at h, fun _ => ⟨fun h => by simp at h, fun _ => ⟨fun h => by simp at h, fun _ => ⟨fun h => by simp at h, fun _ => ⟨fun h => by simp at h, fun _ => ⟨fun h => by simp at h, fun _ => ⟨fun h => by simp at h, fun _ => ⟨fun h => by simp at h, fun _ => ⟨fun h => by simp at h, fun _ => ⟨fun _ => hQ _ (vk11 _ (BU (by omega))) (by simp [Bz]), fun h => by simp at h⟩⟩⟩⟩⟩⟩⟩⟩⟩⟩⟩⟩⟩⟩⟩
  · exact ⟨fun h => by simp at h, fun _ => ⟨fun h => by simp at h, fun _ => ⟨fun h => by simp at h, fun _ => ⟨fun h => by simp at h, fun _ => ⟨fun h => by simp at h, fun _ => ⟨fun h => by simp at h, fun _ => ⟨fun h => by simp at h, fun _ => ⟨fun h => by simp at h, fun _ => ⟨fun h => by simp at h, fun _ => ⟨fun h => by simp at h, fun _ => ⟨fun h => by simp at h, fun _ => ⟨fun h => by simp at h, fun _ => ⟨fun h => by simp at h, fun _ => ⟨fun h => by simp at h, fun _ => ⟨fun h => by simp at h, fun _ => ⟨fun _ => hQ _ (vk12 _ _ (BU (by omega)) (BU (by omega))) (by simp [Bz]), fun h => by simp at h⟩⟩⟩⟩⟩⟩⟩⟩⟩⟩⟩⟩⟩⟩⟩⟩
  · exact ⟨fun h => by simp at h, fun _ => ⟨fun h => by simp at h, fun _ => ⟨fun h => by simp at h, fun _ => ⟨fun h => by simp at h, fun _ => ⟨fun h => by simp at h, fun _ => ⟨fun h => by simp at h, fun _ => ⟨fun h => by simp at h, fun _ => ⟨fun h => by simp at h, fun _ => ⟨fun h => by simp at h, fun _ => ⟨fun h => by simp at h, fun _ => ⟨fun h => by simp at h, fun _ => ⟨fun h => by simp at h, fun _ => ⟨fun h => by simp at h, fun _ => ⟨fun h => by simp at h, fun _ => ⟨fun h => by simp at h, fun _ => ⟨fun h => by simp at h, fun _ => ⟨fun _ => hQ _ (vk13 _ _ (BU (by omega)) (BU (by omega))) (by simp [Bz]), fun h => by simp at h⟩⟩⟩⟩⟩⟩⟩⟩⟩⟩⟩⟩⟩⟩⟩⟩⟩
  · exact ⟨fun h => by simp at h, fun _ => ⟨fun h => by simp at h, fun _ => ⟨fun h => by simp at h, fun _ => ⟨fun h => by simp at h, fun _ => ⟨fun h => by simp at h, fun _ => ⟨fun h => by simp at h, fun _ => ⟨fun h => by simp at h, fun _ => ⟨fun h => by simp at h, fun _ => ⟨fun h => by simp at h, fun _ => ⟨fun h => by simp at h, fun _ => ⟨fun h => by simp at h, fun _ => ⟨fun h => by simp at h, fun _ => ⟨fun h => by simp at h, fun _ => ⟨fun h => by simp at h, fun _ => ⟨fun h => by simp at h, fun _ => ⟨fun h => by simp at h, fun _ => ⟨fun h => by simp at h, fun _ => ⟨fun _ => hQ _ (vk14 _ (BU (by omega))) (by simp [Bz]), fun h => by simp at h⟩⟩⟩⟩⟩⟩⟩⟩⟩⟩⟩⟩⟩⟩⟩⟩⟩⟩
  · exact ⟨fun h => by simp at h, fun _ => ⟨fun h => by simp at h, fun _ => ⟨fun h => by simp at h, fun _ => ⟨fun h => by simp at h, fun _ => ⟨fun h => by simp at h, fun _ => ⟨fun h => by simp at h, fun _ => ⟨fun h => by simp at h, fun _ => ⟨fun h => by simp at h, fun _ => ⟨fun h => by simp at h, fun _ => ⟨fun h => by simp at h, fun _ => ⟨fun h => by simp at h, fun _ => ⟨fun h => by simp at h, fun _ => ⟨fun h => by simp at h, fun _ => ⟨fun h => by simp at h, fun _ => ⟨fun h => by simp at h, fun _ => ⟨fun h => by simp at h, fun _ => ⟨fun h => by simp at h, fun _ => ⟨fun h => by simp at h, fun _ => ⟨fun _ => ⟨fun _ => hQ _ (vk15 _ _ (BU (by omega)) (BU (by omega))) (by simp [Bz]), fun _ => ⟨s6, es6, m7, sk, esk, ex, eex, hQ _ (vk16 _ _ hs6 (sho0 (by omega))) (by simp [Bz]; omega)⟩⟩, fun h => by simp at h⟩⟩⟩⟩⟩⟩⟩⟩⟩⟩⟩⟩⟩⟩⟩⟩⟩⟩⟩
  · exact ⟨fun h => by simp at h, fun _ => ⟨fun h => by simp at h, fun _ => ⟨fun h => by simp at h, fun _ => ⟨fun h => by simp at h, fun _ => ⟨fun h => by simp at h, fun _ => ⟨fun h => by simp at h, fun _ => ⟨fun h => by simp at h, fun _ => ⟨fun h => by simp at h, fun _ => ⟨fun h => by simp at h, fun _ => ⟨fun h => by simp at h, fun _ => ⟨fun h => by simp at h, fun _ => ⟨fun h => by simp at h, fun _ => ⟨fun h => by simp at h, fun _ => ⟨fun h => by simp at h, fun _ => ⟨fun h => by simp at h, fun _ => ⟨fun h => by simp at h, fun _ => ⟨fun h => by simp at h, fun _ => ⟨fun h => by simp at h, fun _ => ⟨fun h => by simp at h, fun _ => hQ _ vk17 z0⟩⟩⟩⟩⟩⟩⟩⟩⟩⟩⟩⟩⟩⟩⟩⟩⟩⟩⟩
theorem HQ (l : List Int) (i : Int) (hl : l.length ≤ 4611686018427387904) (h0 : 0 ≤ i) (h1 : i ≤ 900) : ∃ x, YN l i x ∧ Yk x = 0 ∧ Bz 65536 x :=
  HI (Post := fun x => Yk x = 0 ∧ Bz 65536 x) (HO l i hl h0 h1 _ fun x h1 h2 => ⟨h1, h2⟩)
theorem BV (a : Int) (ha : 0 ≤ a) : ∃ q, JD a q := by
  obtain ⟨v, hv, _⟩ := BF (Post := fun _ => True) (a0 := a) (by
    unfold KP
    simp only [jn]
    obtain ⟨v1, e1, _⟩ := AB a
    have h4 : 0 ≤ Qv .i64 a 4 := by
      show 0 ≤ a.fdiv (2 ^ 4)
      rw [Int.fdiv_eq_ediv_of_nonneg a (by decide)]
      exact Int.ediv_nonneg ha (by decide)
    have h3 : 0 ≤ (Qv .i64 a 4).tmod 3 ∧ (Qv .i64 a 4).tmod 3 < 3 := by rw [Kf h4]; omega
    obtain ⟨x, hx, _⟩ := ZK (l := ([((⟨#[]⟩ : ByteArray)), ((⟨#[120]⟩ : ByteArray)), ((⟨#[48, 49, 50, 51, 52, 53, 54, 55, 56, 57, 48, 49, 50, 51, 52, 53, 54, 55, 56, 57, 48, 49, 50, 51, 52, 53, 54, 55, 56, 57, 48, 49, 50, 51]⟩ : ByteArray))])) h3.1 (by simp; omega)
    exact ⟨v1, e1, fun _ => trivial, fun _ => ⟨fun _ => ⟨x, hx, trivial⟩, fun _ => ⟨fun _ => trivial, fun _ => ⟨fun _ => trivial, fun _ => ⟨fun _ => trivial, fun _ => trivial⟩⟩⟩⟩⟩)
  exact ⟨v, hv⟩
theorem EX (x : QB) (a : Int) (m : Nat) (hm : m ≤ 1000000) (hx : Bz m x) (Q : QB → Prop) (hQ : ∀ y, Bz (m + 70000) y → Q y) : Ju x a Q := by
  obtain ⟨h1, h2, h3, h4, h5, h6⟩ := hx
  unfold Ju
  simp only [jn, CO, Mi]
  have ht : 0 ≤ Qv .i64 a 5 % 16777216 ∧ Qv .i64 a 5 % 16777216 < 16777216 := by omega
  generalize Qv .i64 a 5 % 16777216 = t at ht ⊢
  have t3 : t.tmod 3 = t % 3 := Kf ht.1
  have t20 : t.tmod 20 = t % 20 := Kf ht.1
  have t2 : t.tmod 2 = t % 2 := Kf ht.1
  have t9 : t.tmod 9 = t % 9 := Kf ht.1
  have w1 : IntKind.i64.wrap (64 + t % 2) = 64 + t % 2 := Ze (by omega)
  have w2 : IntKind.i64.wrap (60 + t % 9) = 60 + t % 9 := Ze (by omega)
  have w3 : IntKind.i64.wrap (65536 + t % 2) = 65536 + t % 2 := Ze (by omega)
  rw [t3, t20, t2, t9, w1, w2, w3]
  obtain ⟨s1, e1, _⟩ := ZK (l := ([((⟨#[]⟩ : ByteArray)), ((⟨#[65]⟩ : ByteArray)), ((⟨#[97, 45, 49, 46, 120]⟩ : ByteArray)), ((⟨#[48, 49, 50, 51, 52, 53, 54, 55, 56, 57, 48, 49, 50, 51, 52, 53, 54]⟩ : ByteArray))])) (n := t % 4) (by omega) (by simp; omega)
  obtain ⟨s2, e2, _⟩ := ZK (l := ([((⟨#[]⟩ : ByteArray)), ((⟨#[98]⟩ : ByteArray)), ((⟨#[98, 32, 98]⟩ : ByteArray)), ((⟨#[99]⟩ : ByteArray))])) (n := t % 4) (by omega) (by simp; omega)
  obtain ⟨s3, e3, _⟩ := ZK (l := ([((⟨#[]⟩ : ByteArray)), ((⟨#[97]⟩ : ByteArray)), ((⟨#[63]⟩ : ByteArray))])) (n := t % 3) (by omega) (by simp; omega)
  obtain ⟨s6, e6, _⟩ := UP t
  obtain ⟨s9, e9, _⟩ := ZK (l := ([(0), (1), (1048576), (1048577)] : List Int)) (n := t % 4) (by omega) (by simp; omega)
  obtain ⟨q, eq⟩ := BV t ht.1
  have z0 : x.f8.length ≤ m + 70000 ∧ x.f0.length ≤ m + 70000 ∧ x.fa7.length ≤ m + 70000 ∧ x.fa8.length ≤ m + 70000 := by omega
  obtain ⟨z1, z2, z3, z4⟩ := z0
  refine ⟨fun _ => hQ _ ⟨z1, z2, z3, z4, h5, h6⟩, fun _ => ⟨fun _ => ⟨s1, e1, hQ _ ⟨z1, z2, z3, z4, h5, h6⟩⟩, fun _ => ⟨fun _ => ⟨s2, e2, hQ _ ⟨z1, z2, z3, z4, h5, h6⟩⟩, fun _ => ⟨fun _ => ⟨by omega, s3, e3, by simp; omega, hQ _ ⟨by simp; omega, z2, z3, z4, h5, h6⟩⟩, fun _ => ⟨fun _ => ⟨⟨by omega, by omega⟩, hQ _ ⟨by simp; omega, z2, z3, z4, h5, h6⟩⟩, fun _ => ⟨fun _ => hQ _ ⟨z1, z2, z3, z4, by simp, by simp⟩, fun _ => ⟨fun _ => ⟨by omega, s6, e6, by simp; omega, hQ _ ⟨z1, by simp; omega, z3, z4, h5, h6⟩⟩, fun _ => ⟨fun _ => ⟨⟨by omega, by omega⟩, hQ _ ⟨z1, by simp; omega, z3, z4, h5, h6⟩⟩, fun _ => ⟨fun _ => ⟨⟨by omega, by omega⟩, hQ _ ⟨z1, z2, by simp; omega, z4, h5, h6⟩⟩, fun _ => ⟨fun _ => ⟨s9, e9, hQ _ ⟨z1, z2, z3, z4, h5, h6⟩⟩, fun _ => ⟨fun _ => ⟨s9, e9, hQ _ ⟨z1, z2, z3, z4, h5, h6⟩⟩, fun _ => ⟨fun _ => hQ _ ⟨z1, z2, z3, z4, h5, h6⟩, fun _ => ⟨fun _ => hQ _ ⟨z1, z2, z3, z4, h5, h6⟩, fun _ => ⟨fun _ => hQ _ ⟨z1, z2, z3, z4, h5, h6⟩, fun _ => ⟨fun _ => hQ _ ⟨z1, z2, z3, z4, h5, h6⟩, fun _ => ⟨fun _ => ⟨q, eq, hQ _ ⟨z1, z2, z3, z4, h5, h6⟩⟩, fun _ => ⟨fun _ => ⟨⟨by omega, by omega⟩, hQ _ ⟨z1, z2, z3, by simp; omega, h5, h6⟩⟩, fun _ => ⟨fun _ => hQ _ ⟨z1, z2, z3, by simp, h5, h6⟩, fun _ => hQ _ ⟨z1, z2, z3, z4, h5, h6⟩⟩⟩⟩⟩⟩⟩⟩⟩⟩⟩⟩⟩⟩⟩⟩⟩⟩⟩
theorem EY (x : QB) (a : Int) (m : Nat) (hm : m ≤ 1000000) (hx : Bz m x) : ∃ y, X5 x a y ∧ Bz (m + 70000) y :=
  ED (Post := fun y => Bz (m + 70000) y) (EX x a m hm hx _ fun y h => h)
theorem G8 (c : QJ) (o : QB) (u t : Int) (ht : JC t) : JC (YE c o u t) := by
  have i1 : JC 1 := by unfold JC; decide
  have i2 : JC 2 := by unfold JC; decide
  unfold YE
  split
  · exact Ap Yj
  split
  · exact Ap Yj
  split
  · exact Vz i2 (Kg _ _) Yj
  split
  · exact Vz i1 (Kg _ _) Yj
  split
  · exact Vz i1 (Kg _ _) Yj
  split
  · exact Vz i2 (Kg _ _) Yj
  split
  · unfold JB
    split
    · exact Yj
    · exact Kg _ _
  split
  · exact i1
  · unfold JC; decide
def UX : List Zw → Nat
  | [] => 0
  | s :: l => (if s.fb6 = true then 1 else 0) + UX l
def DT (c : QJ) (u p : Int) : Int → List Zw → Int
  | n, [] => n
  | n, s :: l => DT c u p (if s.fb6 = true then Y8 n (YE c s.fOp u p) 1099511627776 else n) l
theorem EZ : ∀ l : List Zw, UX l ≤ l.length
  | [] => Nat.le_refl _
  | s :: l => by have := EZ l; simp only [UX, List.length_cons]; split <;> omega
theorem CY : ∀ (a b : List Zw), UX (a ++ b) = UX a + UX b
  | [], b => by simp [UX]
  | s :: a, b => by simp only [List.cons_append, UX, CY a b]; omega
theorem CZ (c : QJ) (u p : Int) : ∀ (n : Int) (a b : List Zw), DT c u p n (a ++ b) = DT c u p (DT c u p n a) b
  | n, [], b => rfl
  | n, s :: a, b => CZ c u p _ a b
theorem G9 (c : QJ) (u p : Int) (hp : JC p) : ∀ (n : Int) (a : List Zw), JC n → JC (DT c u p n a)
  | n, [], h => h
  | n, s :: a, h => G9 c u p hp _ a (by split; exact Vz h (G8 _ _ _ _ hp) Yj; exact h)
theorem U0 {α : Type} {l : List α} {j : Nat} {x : α} (h : l[j]? = some x) : l.take (j + 1) = l.take j ++ [x] := by rw [List.take_add_one]; simp [h]
theorem DU (c : QJ) (l : List Zw) (u : Int) (hl : l.length ≤ 1000000) : VH c l u (DT c u (UX l) 0 l) := by
  unfold VH YC
  simp only [jn]
  refine Kk (I := fun k s => ∃ j : Nat, s.2 = (j : Int) ∧ j ≤ l.length ∧ k = l.length - j ∧ s.1 = (UX (l.take j) : Int)) ?_ (k := l.length) ⟨0, rfl, by omega, rfl, rfl⟩
  rintro k ⟨p, i⟩ ⟨j, hj, hj1, hk, hp⟩ X hX
  simp only at hj hp ⊢
  subst hj; subst hp
  refine ⟨fun h => ?_, fun h => ?_⟩
  · have hj2 : j < l.length := by simp at h; omega
    obtain ⟨s, hs, hg⟩ := ZK (l := l) (n := (j : Int)) (by omega) (by omega)
    have hg' : l[j]? = some s := by simpa using hg
    have hb := EZ (l.take j)
    rw [List.length_take] at hb
    refine ⟨s, hs, fun h2 => ?_, fun h2 => ?_⟩
    · rw [Ze (by omega), Ze (by omega)]
      refine hX (l.length - (j + 1)) _ (by omega) ⟨j + 1, by simp, by omega, rfl, ?_⟩
      simp only; rw [U0 hg', CY]; simp [UX, h2]
    · rw [Ze (by omega)]
      refine hX (l.length - (j + 1)) _ (by omega) ⟨j + 1, by simp, by omega, rfl, ?_⟩
      simp only; rw [U0 hg', CY]; simp [UX, h2]
  have hj2 : j = l.length := by simp at h; omega
  subst hj2
  rw [List.take_length]
  have hbl := EZ l
  have hpr : JC (UX l : Int) := by unfold JC; omega
  refine Kk (I := fun k s => ∃ j : Nat, s.2 = (j : Int) ∧ j ≤ l.length ∧ k = l.length - j ∧ s.1 = DT c u (UX l) 0 (l.take j)) ?_ (k := l.length) ⟨0, rfl, by omega, rfl, rfl⟩
  rintro k ⟨n, i⟩ ⟨j, hj, hj1, hk, hn⟩ X hX
  simp only at hj hn ⊢
  subst hj; subst hn
  refine ⟨fun h => ?_, fun h => ?_⟩
  · have hj2 : j < l.length := by simp at h; omega
    obtain ⟨s, hs, hg⟩ := ZK (l := l) (n := (j : Int)) (by omega) (by omega)
    have hg' : l[j]? = some s := by simpa using hg
    have hn0 : JC (DT c u (UX l) 0 (l.take j)) := G9 c u _ hpr 0 _ (by unfold JC; decide)
    refine ⟨s, hs, fun h2 => ⟨_, JS c s.fOp u _ hpr, _, Jr _ _ hn0 (G8 _ _ _ _ hpr), ?_⟩, fun h2 => ?_⟩
    · rw [Ze (by omega)]
      refine hX (l.length - (j + 1)) _ (by omega) ⟨j + 1, by simp, by omega, rfl, ?_⟩
      simp only; rw [U0 hg', CZ]; simp [DT, h2]
    · rw [Ze (by omega)]
      refine hX (l.length - (j + 1)) _ (by omega) ⟨j + 1, by simp, by omega, rfl, ?_⟩
      simp only; rw [U0 hg', CZ]; simp [DT, h2]
  · have hj2 : j = l.length := by simp at h; omega
    subst hj2
    rw [List.take_length]
theorem DV (a : Int) : ∃ c, Ku a c := by
  obtain ⟨c, h, _⟩ := Dt (Post := fun _ => True) (a0 := a) (by
    unfold J0
    simp only [Mi]
    obtain ⟨x1, e1, _⟩ := ZK (l := ([(60), (12), (6), (30)] : List Int)) (n := Qv .i64 a 2 % 2 ^ 2) (by omega) (by simp; omega)
    obtain ⟨x2, e2, _⟩ := ZK (l := ([(8), (16), (40), (200)] : List Int)) (n := Qv .i64 a 4 % 2 ^ 2) (by omega) (by simp; omega)
    obtain ⟨x3, e3, _⟩ := ZK (l := ([(8), (3), (2), (5)] : List Int)) (n := Qv .i64 a 6 % 2 ^ 2) (by omega) (by simp; omega)
    obtain ⟨x4, e4, _⟩ := ZK (l := ([(100), (6), (30), (12)] : List Int)) (n := Qv .i64 a 8 % 2 ^ 2) (by omega) (by simp; omega)
    exact ⟨x1, e1, x2, e2, x3, e3, x4, e4, trivial⟩)
  exact ⟨c, h⟩
theorem D1 : Ku 0 ⟨2, 2, 60, 8, 8, 100, 1⟩ := by
  unfold Ku J0
  exact ⟨60, ⟨by decide, by decide⟩, 8, ⟨by decide, by decide⟩, 8, ⟨by decide, by decide⟩, 100, ⟨by decide, by decide⟩, rfl⟩
theorem DW : VI true := by
  unfold VI YD
  refine ⟨_, D1, 1, ?_, fun _ => ⟨3, ?_, 0, fun _ => ?_, rfl⟩, fun h => by simp at h⟩
  · have := JS ⟨2, 2, 60, 8, 8, 100, 1⟩ (QB.mk (4) (ByteArray.empty) (ByteArray.empty) ([] : (List ByteArray)) (Qi.mk (0) (0) (0) (0)) ([] : (List Qd)) ([] : (List Int)) (0) (0) (0) (0) (0) (0) (Qy.mk (0) (ByteArray.empty) (0) (0) (0)) ([] : (List Int))) 9 9 (by unfold JC; decide)
    exact this
  · have := JS ⟨2, 2, 60, 8, 8, 100, 1⟩ (QB.mk (6) ((⟨#[97]⟩ : ByteArray)) (ByteArray.empty) ([] : (List ByteArray)) (Qi.mk (0) (0) (0) (0)) ([(Qd.mk ((⟨#[97]⟩ : ByteArray)) (1))]) ([] : (List Int)) (0) (0) (0) (0) (0) (0) (Qy.mk (0) (ByteArray.empty) (0) (0) (0)) ([] : (List Int))) 0 0 (by unfold JC; decide)
    exact this
  · exact DU ⟨2, 2, 60, 8, 8, 100, 1⟩ [] 5 (by decide)
theorem UY (l : List Int) (k : Int) (c : QJ) (n u t : Int) (hl : l.length ≤ 4611686018427387904) (hu : JC u) (ht : JC t) : Jy l k c n u t true := by
  unfold Jy VM
  obtain ⟨v1, e1, z1, s1⟩ := HQ l 0 hl (by omega) (by omega)
  obtain ⟨v2, e2, s2⟩ := EY v1 k 65536 (by omega) s1
  obtain ⟨x, ex⟩ := DV (Qu .i64 n 65535)
  have y1 := s2.1; have y2 := s2.2.1; have y3 := s2.2.2.2.1
  have b1 : JC (Qu .i64 u 63) := by rw [bA63]; unfold JC; omega
  have b2 : JC (Qu .i64 t 7) := by rw [bA7]; unfold JC; omega
  have F := fun (c : QJ) (u t : Int) (hu : JC u) (ht : JC t) => DF c v2 u t hu ht (by omega) (by omega) (by omega)
  exact ⟨v1, e1, v2, e2, x, ex, _, JS c v2 u t ht, _, F c u t hu ht, _, fun _ => JS x v2 _ _ b2, _, fun _ => F x _ _ b1 b2, _, fun _ => JS x v2 u t ht, _, fun _ => F x u t hu ht, true, fun _ => DW, by simp⟩
inductive D3 where
  | int (k : IntKind)
  | bool
  | str
  | sl (ts : List D3)
inductive PT : D3 → PV → Prop where
  | int (k : IntKind) (a : Int) (h : (Lit.int k a).wf = true) : PT (.int k) (.v (.int k a))
  | bool (b : Bool) : PT .bool (.v (.bool b))
  | str (s : ByteArray) (h : s.size ≤ maxLen) : PT .str (.v (.string s))
  | sl (ts : List D3) (rows : List (List PV)) (h1 : ∀ r ∈ rows, r.length = ts.length) (h2 : ∀ r ∈ rows, ∀ (i : Nat) (d : D3) (p : PV), ts[i]? = some d → r[i]? = some p → PT d p) : PT (.sl ts) (.l ts.length rows)
def PTs : List D3 → List PV → Prop
  | [], [] => True
  | d :: ds, p :: ps => PT d p ∧ PTs ds ps
  | _, _ => False
theorem Yi {d : D3} {ds : List D3} {ps : List PV} (h : PTs (d :: ds) ps) : ∃ p ps', ps = p :: ps' ∧ PT d p ∧ PTs ds ps' := by
  cases ps with
  | nil => exact h.elim
  | cons p ps => exact ⟨p, ps, rfl, h.1, h.2⟩
theorem Lv {ps : List PV} (h : PTs [] ps) : ps = [] := by
  cases ps with
  | nil => rfl
  | cons p ps => exact h.elim
theorem UZ {k : IntKind} {p : PV} (h : PT (.int k) p) : ∃ a, p = .v (.int k a) := by cases h with | int _ a _ => exact ⟨a, rfl⟩
def A1 (g : TypeId → Option (List D3)) (c : TypeId → Nat) : List Field → Nat → Option (List D3)
  | [], _ => some []
  | f :: fs, off => match g f.type with
    | some a => if f.offset = off ∧ c f.type = a.length then (match A1 g c fs (off + a.length) with | some b => some (a ++ b) | none => none) else none
    | none => none
def A4 (P : Program) : Nat → TypeId → Option (List D3)
  | 0, _ => none
  | n + 1, t => match P.underlying t with
    | some (.int k) => some [.int k]
    | some .bool => some [.bool]
    | some .string => some [.str]
    | some (.slice e) => match A4 P n e with
      | some ts => if P.cellsOf e = ts.length ∧ 0 < ts.length then some [.sl ts] else none
      | none => none
    | some (.struct fs) => match A1 (A4 P n) P.cellsOf fs.toList 0 with
      | some ts => if P.cellsOf t = ts.length then some ts else none
      | none => none
    | _ => none
def BA (w : World) (A : Nat → Prop) : List D3 → List PV → List Value → Prop
  | [], [], [] => True
  | d :: ds, p :: ps, v :: vs => PT d p ∧ RP w A p v ∧ BA w A ds ps vs
  | _, _, _ => False
section
variable {H : Type} {enc : TypeId × Value → H} {P : Program} {w : World} {A : Nat → Prop} {spare : Nat → Bool} {held : Bool}
theorem BA.len : ∀ {ts : List D3} {ps : List PV} {cs : List Value}, BA w A ts ps cs → ps.length = ts.length ∧ cs.length = ts.length
  | [], [], [], _ => ⟨rfl, rfl⟩
  | _ :: ts, _ :: ps, _ :: cs, h => by
    have := BA.len h.2.2
    simp [this.1, this.2]
theorem BA.pts : ∀ {ts : List D3} {ps : List PV} {cs : List Value}, BA w A ts ps cs → PTs ts ps
  | [], [], [], _ => trivial
  | _ :: ts, _ :: ps, _ :: cs, h => ⟨h.1, BA.pts h.2.2⟩
theorem BA.at : ∀ {ts : List D3} {ps : List PV} {cs : List Value}, BA w A ts ps cs → ∀ (i : Nat) (d : D3) (p : PV), ts[i]? = some d → ps[i]? = some p → PT d p
  | _ :: ts, _ :: ps, _ :: cs, h, 0, d, p, h1, h2 => by
    simp at h1 h2
    rw [← h1, ← h2]; exact h.1
  | _ :: ts, _ :: ps, _ :: cs, h, i + 1, d, p, h1, h2 => BA.at h.2.2 i d p (by simpa using h1) (by simpa using h2)
  | [], [], [], _, i, d, p, h1, _ => by simp at h1
theorem BA.rp : ∀ {ts : List D3} {ps : List PV} {cs : List Value}, BA w A ts ps cs → ∀ (i : Nat) (p : PV) (v : Value), ps[i]? = some p → cs[i]? = some v → RP w A p v
  | _ :: ts, _ :: ps, _ :: cs, h, 0, p, v, h1, h2 => by
    simp at h1 h2
    rw [← h1, ← h2]; exact h.2.1
  | _ :: ts, _ :: ps, _ :: cs, h, i + 1, p, v, h1, h2 => BA.rp h.2.2 i p v (by simpa using h1) (by simpa using h2)
  | [], [], [], _, i, p, v, h1, _ => by simp at h1
theorem BA.csR : ∀ {ts : List D3} {ps : List PV} {cs : List Value} {n : Nat}, BA w A ts ps cs → CsR w A (fun _ => none) n (ps.map .p) cs
  | [], [], [], _, _ => trivial
  | _ :: ts, _ :: ps, _ :: cs, _, h => ⟨h.2.1.one, h.2.1, BA.csR h.2.2⟩
theorem BA.app : ∀ {ts ts' : List D3} {ps ps' : List PV} {cs cs' : List Value}, BA w A ts ps cs → BA w A ts' ps' cs' → BA w A (ts ++ ts') (ps ++ ps') (cs ++ cs')
  | [], _, [], _, [], _, _, h' => h'
  | _ :: ts, _, _ :: ps, _, _ :: cs, _, h, h' => ⟨h.1, h.2.1, BA.app h.2.2 h'⟩
theorem IM {g : TypeId → Option (List D3)} {c : TypeId → Nat} {cs : List Value} : ∀ (fs : List Field) (off : Nat) (ts : List D3), A1 g c fs off = some ts → cs.length = off + ts.length →
    (∀ f ∈ fs, ∀ a, g f.type = some a → c f.type = a.length → ∃ ps, BA w A a ps ((cs.drop f.offset).take (c f.type))) → ∃ ps, BA w A ts ps (cs.drop off)
  | [], off, ts, h, hl, _ => by
    simp only [A1, Option.some.injEq] at h
    subst h
    have : cs.drop off = [] := List.drop_eq_nil_of_le (by simpa using Nat.le_of_eq hl)
    rw [this]
    exact ⟨[], trivial⟩
  | f :: fs, off, ts, h, hl, hf => by
    unfold A1 at h
    cases hg : g f.type with
    | none => simp [hg] at h
    | some a =>
      rw [hg] at h
      simp only at h
      by_cases hc : f.offset = off ∧ c f.type = a.length
      · rw [if_pos hc] at h
        cases hb : A1 g c fs (off + a.length) with
        | none => simp [hb] at h
        | some b =>
          rw [hb] at h
          simp only [Option.some.injEq] at h
          subst h
          obtain ⟨pa, ha⟩ := hf f (by simp) a hg hc.2
          obtain ⟨pb, hb'⟩ := IM fs (off + a.length) b hb (by simp at hl; omega) (fun f' h' => hf f' (by simp [h']))
          rw [hc.1, hc.2] at ha
          have := BA.app ha hb'
          rw [← List.drop_drop, List.take_append_drop] at this
          exact ⟨_, this⟩
      · rw [if_neg hc] at h; cases h
theorem Lw {a : Addr} {v : Value} (h : w.cell? a = some v) : a = ⟨a.block, a.off, none⟩ ∧ a.block < w.heap.size := by
  have hs := World.cell?_spot h
  refine ⟨by cases a; simp_all, ?_⟩
  unfold World.cell? at h
  rcases Nat.lt_or_ge a.block w.heap.size with hl | hl
  · exact hl
  · rw [Array.getElem?_eq_none hl] at h; simp at h
theorem open_flat (hA : ∀ g, g < w.heap.size → A g) : ∀ (n : Nat) (t : TypeId) (ts : List D3) (fuel : Nat) (cs : List Value) (x : DataW H × List MemPlace), A4 P n t = some ts → DataW.trod enc P w 0 spare held fuel t cs = some x → ∃ ps, BA w A ts ps cs
  | 0, _, _, _, _, _, h, _ => by simp [A4] at h
  | n + 1, t, ts, fuel, cs, x, h, ht => by
    unfold A4 at h
    cases hu : P.underlying t with
    | none => simp [hu] at h
    | some d =>
      rw [hu] at h
      cases d with
      | int k =>
        simp only [Option.some.injEq] at h
        subst h
        obtain ⟨a, rfl, _, hw⟩ := DataW.trod_int hu ht
        exact ⟨[.v (.int k a)], .int k a hw, .v _ hw, trivial⟩
      | bool =>
        simp only [Option.some.injEq] at h
        subst h
        obtain ⟨b, rfl, _⟩ := DataW.trod_bool hu ht
        exact ⟨[.v (.bool b)], .bool b, .v _ rfl, trivial⟩
      | string =>
        simp only [Option.some.injEq] at h
        subst h
        obtain ⟨s, rfl, _, hs⟩ := DataW.trod_string hu ht
        exact ⟨[.v (.string s)], .str s hs, .v _ (by simpa [KN] using hs), trivial⟩
      | struct fs =>
        simp only at h
        cases hfl : A1 (A4 P n) P.cellsOf fs.toList 0 with
        | none => simp [hfl] at h
        | some ts' =>
          rw [hfl] at h
          simp only at h
          by_cases hc : P.cellsOf t = ts'.length
          · rw [if_pos hc] at h
            simp only [Option.some.injEq] at h
            subst h
            obtain ⟨xs, k, _, _, hl, hxl, hf⟩ := DataW.trod_struct hu ht
            have := IM (w := w) (A := A) (cs := cs) fs.toList 0 ts' hfl (by omega) (fun f hm a ha hca => by
              obtain ⟨i, hi, hfi⟩ := List.getElem_of_mem hm
              have hi' : i < fs.size := by simpa using hi
              have e := hf i f (by rw [Array.getElem?_eq_getElem hi']; simpa using hfi)
              rw [List.getElem?_eq_getElem (by omega)] at e
              exact open_flat hA n f.type a k _ _ ha e)
            simpa using this
          · rw [if_neg hc] at h; cases h
      | slice e =>
        simp only at h
        cases hfl : A4 P n e with
        | none => simp [hfl] at h
        | some ts' =>
          rw [hfl] at h
          simp only at h
          by_cases hc : P.cellsOf e = ts'.length ∧ 0 < ts'.length
          · rw [if_pos hc] at h
            simp only [Option.some.injEq] at h
            subst h
            rcases Go.Deep.open_slice hu ht with ⟨rfl, _⟩ | ⟨a, len, cap, m, k, D, Pl, rfl, hb, hl, hm, hmm, hx, hel⟩
            · exact ⟨[.l ts'.length []], .sl _ [] (by simp) (by simp), RP.l _ [] none 0 (fun _ _ => .bool false) (by simp) (by simp) (by simp) (.inl rfl) (by simp), trivial⟩
            · have hlm : len ≤ m := by rw [hmm]; split <;> omega
              have each : ∀ i, i < len → ∃ q : List PV × List Value, w.cells? 0 (a.add (i * ts'.length)) ts'.length = some q.2 ∧ BA w A ts' q.1 q.2 := by
                intro i hi
                obtain ⟨cs', h1, h2⟩ := hel i (by omega)
                rw [hc.1] at h1
                obtain ⟨ps, hp⟩ := open_flat hA n e ts' k cs' _ hfl h2
                exact ⟨(ps, cs'), h1, hp⟩
              obtain ⟨q, hq⟩ := Go.Deep.choose_lt each
              have hrow : ∀ i r, ((List.range len).map fun i => (q i).1)[i]? = some r → i < len ∧ r = (q i).1 := by
                intro i r hr
                rw [List.getElem?_map] at hr
                by_cases hi : i < len
                · rw [List.getElem?_range hi] at hr
                  simp at hr
                  exact ⟨hi, hr.symm⟩
                · rw [List.getElem?_eq_none (by simpa using hi)] at hr
                  simp at hr
              have hmem : ∀ r ∈ (List.range len).map (fun i => (q i).1), ∃ i, i < len ∧ r = (q i).1 := by
                intro r hr
                obtain ⟨i, hi, he⟩ := List.mem_map.1 hr
                exact ⟨i, by simpa using hi, he.symm⟩
              have hcell : ∀ i, i < len → ∀ j, j < ts'.length → w.cell? (a.add (i * ts'.length + j)) = (q i).2[j]? := by
                intro i hi j hj
                have := (World.cells?_some (hq i hi).1).2.2 j hj
                rwa [Go.Deep.add_add] at this
              have key := RP.l (w := w) (A := A) ts'.length ((List.range len).map fun i => (q i).1) (some a) cap (fun i k => ((q i).2).getD k (.bool false)) (by simpa using hl) hm
                (fun r hr => by obtain ⟨i, hi, rfl⟩ := hmem r hr; exact (hq i hi).2.len.1) ?_ ?_
              · refine ⟨[.l ts'.length ((List.range len).map fun i => (q i).1)], .sl _ _ ?_ ?_, ?_, trivial⟩
                · intro r hr; obtain ⟨i, hi, rfl⟩ := hmem r hr; exact (hq i hi).2.len.1
                · intro r hr; obtain ⟨i, hi, rfl⟩ := hmem r hr; exact (hq i hi).2.at
                · simpa using key
              · by_cases h0 : len = 0
                · left; subst h0; rfl
                right
                have c0 := hcell 0 (by omega) 0 hc.2
                have l0 := (hq 0 (by omega)).2.len.2
                rw [List.getElem?_eq_getElem (by omega)] at c0
                have ea : a.add (0 * ts'.length + 0) = a := by simp [Addr.add]
                rw [ea] at c0
                obtain ⟨hp, hlt⟩ := Lw c0
                refine ⟨a.block, a.off, by rw [← hp], hA _ hlt, hlt, fun i r k' p hi hk => ?_⟩
                obtain ⟨hi', rfl⟩ := hrow i r hi
                have hk' : k' < ts'.length := by
                  have := (List.getElem?_eq_some_iff.1 hk).1
                  rw [(hq i hi').2.len.1] at this; exact this
                have e1 := hcell i hi' k' hk'
                have l2 := (hq i hi').2.len.2
                rw [List.getElem?_eq_getElem (by omega)] at e1
                have e2 : a.add (i * ts'.length + k') = ⟨a.block, a.off + i * ts'.length + k', none⟩ := by
                  have hs : a.spot = none := by rw [hp]
                  have hgen : ∀ (b : Addr) (n : Nat), b.spot = none → b.add n = ⟨b.block, b.off + n, none⟩ := by
                    intro b n h
                    cases b with
                    | mk x y z =>
                      simp only at h; subst h; unfold Addr.add
                      by_cases h0 : n = 0
                      · rw [if_pos h0, h0]; rfl
                      · rw [if_neg h0]
                  rw [hgen a _ hs, Nat.add_assoc]
                rw [e2] at e1
                rw [e1]; simp [List.getD, l2, hk']
              · intro i r k' p hi hk
                obtain ⟨hi', rfl⟩ := hrow i r hi
                have hk' : k' < (q i).1.length := (List.getElem?_eq_some_iff.1 hk).1
                have l1 := (hq i hi').2.len.1
                have l2 := (hq i hi').2.len.2
                refine (hq i hi').2.rp k' p _ hk ?_
                simp [List.getD, show k' < (q i).2.length by omega]
          · rw [if_neg hc] at h; cases h
      | _ => simp at h
end
def ts_api_Config : List D3 := [.int .i64, .int .i64, .int .i64, .int .i64, .int .i64, .int .i64, .int .i64]
theorem inv_api_Config {ps : List PV} (h : PTs ts_api_Config ps) : ∃ x : QJ, ps = e_api_Config x := by
  unfold ts_api_Config at h
  obtain ⟨p0, q0, rfl, h0, g0⟩ := Yi h
  obtain ⟨a0, rfl⟩ := UZ h0
  obtain ⟨p1, q1, rfl, h1, g1⟩ := Yi g0
  obtain ⟨a1, rfl⟩ := UZ h1
  obtain ⟨p2, q2, rfl, h2, g2⟩ := Yi g1
  obtain ⟨a2, rfl⟩ := UZ h2
  obtain ⟨p3, q3, rfl, h3, g3⟩ := Yi g2
  obtain ⟨a3, rfl⟩ := UZ h3
  obtain ⟨p4, q4, rfl, h4, g4⟩ := Yi g3
  obtain ⟨a4, rfl⟩ := UZ h4
  obtain ⟨p5, q5, rfl, h5, g5⟩ := Yi g4
  obtain ⟨a5, rfl⟩ := UZ h5
  obtain ⟨p6, q6, rfl, h6, g6⟩ := Yi g5
  obtain ⟨a6, rfl⟩ := UZ h6
  obtain rfl := Lv g6
  exact ⟨⟨a0, a1, a2, a3, a4, a5, a6⟩, rfl⟩
theorem IN {a : Int} (h : (Lit.int .i64 a).wf = true) : JC a := by
  unfold JC
  simp [Lit.wf, IntKind.min, IntKind.max, IntKind.signed, IntKind.bits] at h; omega
theorem BoundSteps_walk (v0 : Value) (l0 : List Int) (a1 : Int) (cs2 : Array Value) (x2 : QJ) (a3 a4 a5 : Int) (w : World) (h0 : Ints .i64 w v0 l0) (s0 : l0.length * Tryz.prog.bytesOf 3 ≤ 140737488351232) (h1 : (Lit.int .i64 a1).wf = true) (c2 : CsR w (fun g => g < w.heap.size) (fun _ => none) 0 ((e_api_Config x2).map .p) cs2.toList) (h3 : (Lit.int .i64 a3).wf = true) (h4 : (Lit.int .i64 a4).wf = true) (h5 : (Lit.int .i64 a5).wf = true) :
    Calls Tryz.prog 3 #[v0, .int .i64 a1, .agg cs2, .int .i64 a3, .int .i64 a4, .int .i64 a5] w fun e w' => e = .returned (.bool true) ∧ Below w.heap.size w w' := by
  have hl : l0.length ≤ 4611686018427387904 := by
    have e : Tryz.prog.bytesOf 3 = 8 := by kernel_rfl
    rw [e] at s0; omega
  refine (Am (A := fun x => x < w.heap.size) (vs := #[v0, .int .i64 a1, .agg cs2, .int .i64 a3, .int .i64 a4, .int .i64 a5]) (g := 0) (q := 0) (UO l0 a1 x2 a3 a4 a5 true (UY l0 a1 x2 a3 a4 a5 hl (IN h4) (IN h5))) rfl (fun x h => h) ⟨Gm h0 (fun _ _ _ g _ _ hg => hg), .v _ h1, ⟨cs2, rfl, c2⟩, .v _ h3, .v _ h4, .v _ h5, trivial⟩).mono ?_
  rintro e w' ⟨rfl, hg⟩
  exact ⟨rfl, C0 hg⟩
end Go.Proofs.YthpbblhpapnbfaaGreat
