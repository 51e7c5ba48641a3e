/- Parts of the proof, laid together. No condition. -/
import Derived.Test.YtpnpodbihdiegaaGreatV6
import Derived.Below
set_option linter.unusedVariables false
set_option linter.unusedSimpArgs false
namespace Go.Proofs.YtpnpodbihdiegaaGreat
open Go.RowKit
theorem AS {α : Type} {l : List α} (hl : l.length ≤ 4611686018427387904) {B : (Int → Prop) → Int → Prop} {J : Prop} (P : α → Prop)
    (hB : ∀ (j : Nat) x, j < l.length → l[j]? = some x → ∀ X : Int → Prop, (P x → X (IntKind.i64.wrap ((j : Int) + 1))) → B X (j : Int)) (hJ : (∀ x ∈ l, P x) → J) :
    lp (fun X s => (decide (s < (l.length : Int)) = true → B X s) ∧ (decide (s < (l.length : Int)) = false → J)) 0 := by
  refine F6 l.length hl (fun j => ∀ i, i < j → ∀ y, l[i]? = some y → P y) (fun i hi => absurd hi (by omega)) ?_ ?_
  · intro j hj hI X hX
    obtain ⟨x, hx⟩ : ∃ x, l[j]? = some x := ⟨l[j], by simp [hj]⟩
    refine hB j x hj hx X fun h0 => hX fun i hi y hy => ?_
    by_cases e : i = j
    · subst e; rw [hx] at hy; cases hy; exact h0
    · exact hI i (by omega) y hy
  · intro hI
    refine hJ fun x hx => ?_
    obtain ⟨j, hj⟩ := List.getElem?_of_mem hx
    have := hj
    rw [List.getElem?_eq_some_iff] at this
    exact hI j this.1 x hj
theorem Xv (t : Qo) : ∃ v, ZN t v ∧ (v = 0 → (0 ≤ t.fo ∧ t.fo ≤ 4294967295) ∧ 0 ≤ t.f8 ∧ t.f8 ≤ 4294967295) := by
  refine AD (Post := fun v => v = 0 → (0 ≤ t.fo ∧ t.fo ≤ 4294967295) ∧ 0 ≤ t.f8 ∧ t.f8 ≤ 4294967295) ?_
  unfold Kd
  simp only [ZF, exists_eq_left, JG, Jk]
  refine ⟨_, fun _ => rfl, fun _ h => by simp at h, fun h _ => ?_⟩
  simp [wI] at h
  exact ⟨h.1.1, h.1.2⟩
def okCm (c : Q9) : Prop := (1 ≤ c.fq ∧ c.fq ≤ 8) ∧ (1 ≤ c.fg ∧ c.fg ≤ 64) ∧ (c.fa7.length : Int) = c.fq * c.fg ∧ ∀ x ∈ c.fa7, 0 ≤ x ∧ x ≤ 4294967295
theorem H0 {d s : Int} (h1 : 1 ≤ d ∧ d ≤ 8) (h2 : 1 ≤ s ∧ s ≤ 64) : 1 ≤ d * s ∧ d * s ≤ 512 := by
  have h : d = 1 ∨ d = 2 ∨ d = 3 ∨ d = 4 ∨ d = 5 ∨ d = 6 ∨ d = 7 ∨ d = 8 := by omega
  rcases h with rfl | rfl | rfl | rfl | rfl | rfl | rfl | rfl <;> omega
theorem Vn (c : Q9) : ∃ v, Zx c v ∧ (v = 0 → okCm c) := by
  refine Uz (Post := fun v => v = 0 → okCm c) ?_
  unfold ZK
  simp only [ZF, exists_eq_left, JG, Jk, jn]
  refine ⟨_, fun _ => rfl, fun _ h => by simp at h, fun h => ?_⟩
  have h' : (1 ≤ c.fq ∧ c.fq ≤ 8) ∧ 1 ≤ c.fg ∧ c.fg ≤ 64 := by simpa [wI] using h
  have hm := H0 h'.1 h'.2
  rw [Zt (by omega)]
  refine ⟨fun _ h => by simp at h, fun hl => ?_⟩
  have hl' : (c.fa7.length : Int) = c.fq * c.fg := by simpa using hl
  refine AS (by omega) (fun x => 0 ≤ x ∧ x ≤ 4294967295) ?_ ?_
  · intro j x hj hx X hX
    refine ⟨x, V0 rfl hx, fun _ h => by simp at h, fun h => hX (by simpa [wI] using h)⟩
  · intro hP _; exact ⟨h'.1, h'.2, hl', hP⟩
def okLl (c : Qj) : Prop := (2 ≤ c.f7 ∧ c.f7 ≤ 8) ∧ (c.f4.length : Int) = Wg .i64 1 (IntKind.u64.wrap c.f7) ∧ c.f4.length ≤ 256 ∧ ∀ x ∈ c.f4, 0 ≤ x ∧ x ≤ 63
theorem Nq {p : Int} (h : 2 ≤ p ∧ p ≤ 8) : 4 ≤ Wg .i64 1 (IntKind.u64.wrap p) ∧ Wg .i64 1 (IntKind.u64.wrap p) ≤ 256 := by
  have h : p = 2 ∨ p = 3 ∨ p = 4 ∨ p = 5 ∨ p = 6 ∨ p = 7 ∨ p = 8 := by omega
  rcases h with rfl | rfl | rfl | rfl | rfl | rfl | rfl <;> decide
theorem Xa (c : Qj) : ∃ v, ZI c v ∧ (v = 0 → okLl c) := by
  refine Ac (Post := fun v => v = 0 → okLl c) ?_
  unfold K0
  simp only [ZF, exists_eq_left, JG, Jk, jn]
  refine ⟨fun _ h => by simp at h, fun h => ?_⟩
  have h' : 2 ≤ c.f7 ∧ c.f7 ≤ 8 := by simpa [wI] using h
  have hm := Nq h'
  refine ⟨by rw [BA (by omega)]; omega, fun _ h => by simp at h, fun hl => ?_⟩
  have hl' : (c.f4.length : Int) = Wg .i64 1 (IntKind.u64.wrap c.f7) := by simpa using hl
  refine AS (by omega) (fun x => 0 ≤ x ∧ x ≤ 63) ?_ ?_
  · intro j x hj hx X hX
    refine ⟨x, V0 rfl hx, fun _ h => by simp at h, fun h => hX ?_⟩
    rw [Zt (by omega)] at h
    simp [wI] at h; omega
  · intro hP _; exact ⟨h', hl', by omega, hP⟩
theorem AT (l : List Q1) (k : ByteArray) (hl : l.length ≤ 1000000) : ∃ v, Xj l k v ∧ -1 ≤ v ∧ v < l.length := by
  refine HK (Post := fun v => -1 ≤ v ∧ v < (l.length : Int)) ?_
  unfold Yk
  simp only [jn]
  refine AS (by omega) (fun _ => True) ?_ (fun _ => by omega)
  intro j x hj hx X hX
  exact ⟨x, V0 rfl hx, fun _ => by omega, fun _ => hX trivial⟩
def okE (e : Q1) : Prop := (1 ≤ e.fa2.size ∧ e.fa2.size ≤ 32) ∧ (1 ≤ e.f0 ∧ e.f0 ≤ 1099511627776) ∧ 0 ≤ e.fc0 ∧ e.fc0 < e.f0
def OW (c : Qs) : Prop := (1 ≤ c.fg ∧ c.fg ≤ 32) ∧ (0 ≤ c.fo ∧ c.fo ≤ 1099511627776) ∧ (c.fh.length : Int) ≤ c.fg ∧ ∀ e ∈ c.fh, okE e
theorem Yf (c : Qs) : ∃ v, Ka c v ∧ (v = 0 → OW c) := by
  refine BR (Post := fun v => v = 0 → OW c) ?_
  unfold KH
  simp only [ZF, VB, exists_eq_left, JG, Jk, jn]
  refine ⟨_, fun _ => rfl, fun _ h => by simp at h, fun h => ?_⟩
  have h' : (1 ≤ c.fg ∧ c.fg ≤ 32) ∧ 0 ≤ c.fo ∧ c.fo ≤ 1099511627776 := by simpa [wI] using h
  refine ⟨fun _ h => by simp at h, fun hl => ?_⟩
  have hl' : (c.fh.length : Int) ≤ c.fg := by simpa using hl
  refine AS (by omega) okE ?_ (fun hP _ => ⟨h'.1, h'.2, hl', hP⟩)
  intro j x hj hx X hX
  refine ⟨x, V0 rfl hx, fun _ h => by simp at h, fun hk => ?_⟩
  have hk' : 1 ≤ x.fa2.size ∧ x.fa2.size ≤ 32 := by simpa using hk
  refine ⟨_, fun _ => rfl, fun _ h => by simp at h, fun hc => ?_⟩
  have hc1 : 1 ≤ x.f0 ∧ x.f0 ≤ 1099511627776 := by simp [wI] at hc; exact hc.1
  rw [Zt (by omega)] at hc
  have hc2 : 0 ≤ x.fc0 ∧ x.fc0 ≤ x.f0 - 1 := by simp [wI] at hc; exact ⟨hc.2.1, by omega⟩
  obtain ⟨v, hv, _⟩ := AT (List.take (Int.toNat (j : Int)) c.fh) x.fa2 (by simp; omega)
  refine ⟨⟨by omega, by omega⟩, v, hv, fun _ h => by simp at h, fun _ => ?_⟩
  by_cases h0 : j = 0
  · subst h0
    refine ⟨x, fun h => by simp at h, true, fun h => by simp at h, fun _ h => by simp at h, fun _ => hX ⟨hk', hc1, hc2.1, by omega⟩⟩
  · obtain ⟨y, hy⟩ : ∃ y, c.fh[j - 1]? = some y := ⟨c.fh[j - 1]'(by omega), by simp⟩
    refine ⟨y, fun _ => V0 (j := j - 1) (by rw [Zt (by omega)]; omega) hy, _, fun _ => rfl, fun _ h => by simp at h, fun _ => hX ⟨hk', hc1, hc2.1, by omega⟩⟩
def okFr (c : Qb) : Prop := (1 ≤ c.fg ∧ c.fg ≤ 32) ∧ (0 ≤ c.fo ∧ c.fo ≤ 1099511627776) ∧ (0 ≤ c.fb1 ∧ c.fb1 ≤ 1099511627776) ∧ (c.fh.length : Int) ≤ c.fg ∧ ∀ e ∈ c.fh, okE e
theorem Vo (c : Qb) : ∃ v, Zy c v ∧ (v = 0 → okFr c) := by
  refine UA (Post := fun v => v = 0 → okFr c) ?_
  unfold ZL
  simp only [ZF, VB, exists_eq_left, JG, Jk, jn]
  refine ⟨_, fun _ => rfl, _, fun _ => rfl, fun _ h => by simp at h, fun h => ?_⟩
  have h' : ((1 ≤ c.fg ∧ c.fg ≤ 32) ∧ 0 ≤ c.fo ∧ c.fo ≤ 1099511627776) ∧ 0 ≤ c.fb1 ∧ c.fb1 ≤ 1099511627776 := by simpa [wI] using h
  refine ⟨fun _ h => by simp at h, fun hl => ?_⟩
  have hl' : (c.fh.length : Int) ≤ c.fg := by simpa using hl
  refine AS (by omega) okE ?_ (fun hP _ => ⟨h'.1.1, h'.1.2, h'.2, hl', hP⟩)
  intro j x hj hx X hX
  refine ⟨x, V0 rfl hx, fun _ h => by simp at h, fun hk => ?_⟩
  have hk' : 1 ≤ x.fa2.size ∧ x.fa2.size ≤ 32 := by simpa using hk
  refine ⟨fun _ h => by simp at h, fun hc => ?_⟩
  have hc1 : (1 ≤ x.f0 ∧ x.f0 ≤ 1099511627776) ∧ x.fc0 = 0 := by simpa [wI] using hc
  by_cases h0 : j = 0
  · subst h0
    refine ⟨x, fun h => by simp at h, fun _ h => by simp at h, fun _ => hX ⟨hk', hc1.1, by omega, by omega⟩⟩
  · obtain ⟨y, hy⟩ : ∃ y, c.fh[j - 1]? = some y := ⟨c.fh[j - 1]'(by omega), by simp⟩
    refine ⟨y, fun _ => V0 (j := j - 1) (by rw [Zt (by omega)]; omega) hy, fun _ h => by simp at h, fun _ => hX ⟨hk', hc1.1, by omega, by omega⟩⟩
def PO (c : Qk) : Prop := (2 ≤ c.fg ∧ c.fg ≤ 32 ∧ c.fg % 2 = 0) ∧ (0 ≤ c.fo ∧ c.fo ≤ 1099511627776) ∧ (0 ≤ c.fa8 ∧ c.fa8 ≤ 1099511627776) ∧ c.fx.length ≤ 41 ∧ ∀ l ∈ c.fx, (l.length : Int) < c.fg ∧ ∀ s ∈ l, 1 ≤ s.size ∧ s.size ≤ 32
theorem Xw (c : Qk) : ∃ v, ZO c v ∧ (v = 0 → PO c) := by
  refine AF (Post := fun v => v = 0 → PO c) ?_
  unfold Ke
  simp only [ZF, VB, exists_eq_left, JG, Jk, jn]
  refine ⟨_, fun _ => rfl, _, fun _ => rfl, fun _ h => by simp at h, fun h => ?_⟩
  have h' : (((2 ≤ c.fg ∧ c.fg ≤ 32) ∧ ¬ c.fg.tmod 2 = 1) ∧ 0 ≤ c.fo ∧ c.fo ≤ 1099511627776) ∧ 0 ≤ c.fa8 ∧ c.fa8 ≤ 1099511627776 := by simpa [wI] using h
  have he : c.fg % 2 = 0 := by have := h'.1.1.2; rw [VJ (by omega)] at this; omega
  refine ⟨fun _ h => by simp at h, fun hl => ?_⟩
  have hl' : c.fx.length ≤ 41 := by simp at hl; omega
  clear h hl
  refine Kl (I := fun k s => ∃ j : Nat, s.2 = (j : Int) ∧ j ≤ c.fx.length ∧ k = c.fx.length - j ∧ ∀ i, i < j → ∀ y, c.fx[i]? = some y → (y.length : Int) < c.fg ∧ ∀ s ∈ y, 1 ≤ s.size ∧ s.size ≤ 32) ?_ (k := c.fx.length) ⟨0, rfl, by omega, by omega, fun i hi => absurd hi (by omega)⟩
  rintro k ⟨tot, i⟩ ⟨j, hj, hj1, hk, hI⟩ X hX
  simp only at hj ⊢
  subst hj
  refine ⟨fun h => ?_, fun h => ?_⟩
  · have hlt : j < c.fx.length := by simp at h; omega
    obtain ⟨L, hL⟩ : ∃ x, c.fx[j]? = some x := ⟨c.fx[j], by simp [hlt]⟩
    have hx : ix c.fx (j : Int) L := V0 rfl hL
    refine ⟨L, hx, fun _ h => by simp at h, fun h2 => ?_⟩
    have h2' : (L.length : Int) < c.fg := by simpa using h2
    refine Kl (I := fun k s => ∃ m : Nat, s = (m : Int) ∧ m ≤ L.length ∧ k = L.length - m ∧ ∀ i, i < m → ∀ y, L[i]? = some y → 1 ≤ y.size ∧ y.size ≤ 32) ?_ (k := L.length) ⟨0, rfl, by omega, by omega, fun i hi => absurd hi (by omega)⟩
    rintro k2 s ⟨m, rfl, hm1, hk2, hI2⟩ X2 hX2
    refine ⟨L, hx, fun h3 => ?_, fun h3 => ?_⟩
    · have hm : m < L.length := by simp at h3; omega
      obtain ⟨y, hy⟩ : ∃ x, L[m]? = some x := ⟨L[m], by simp [hm]⟩
      refine ⟨L, hx, y, V0 rfl hy, fun _ h => by simp at h, fun h4 => ?_⟩
      have h4' : 1 ≤ y.size ∧ y.size ≤ 32 := by simpa using h4
      refine ⟨L, fun _ => hx, y, fun _ => V0 rfl hy, L, fun _ => hx, ?_⟩
      have go : X2 (IntKind.i64.wrap ((m : Int) + 1)) := by
        rw [Zt (by omega)]
        refine hX2 (L.length - (m + 1)) _ (by omega) ⟨m + 1, by omega, by omega, rfl, fun i hi z hz => ?_⟩
        by_cases e : i = m
        · subst e; rw [hy] at hz; cases hz; exact h4'
        · exact hI2 i (by omega) z hz
      by_cases h0 : m = 0
      · subst h0
        exact ⟨y, fun h => by simp at h, fun _ h => by simp at h, fun _ => go⟩
      · obtain ⟨z, hz⟩ : ∃ z, L[m - 1]? = some z := ⟨L[m - 1]'(by omega), by simp⟩
        exact ⟨z, fun _ => V0 (j := m - 1) (by rw [Zt (by omega)]; omega) hz, fun _ h => by simp at h, fun _ => go⟩
    · have hm : m = L.length := by simp at h3; omega
      subst hm
      refine ⟨L, hx, by rw [BA (by omega)]; omega, ?_⟩
      rw [Zt (n := (j : Int) + 1) (by omega)]
      refine hX (c.fx.length - (j + 1)) _ (by omega) ⟨j + 1, by simp, by omega, rfl, fun i hi z hz => ?_⟩
      by_cases e : i = j
      · subst e; rw [hL] at hz; cases hz
        refine ⟨h2', fun s hs => ?_⟩
        obtain ⟨i, hi⟩ := List.getElem?_of_mem hs
        have := hi
        rw [List.getElem?_eq_some_iff] at this
        exact hI2 i this.1 s hi
      · exact hI i (by omega) z hz
  · have hge : j = c.fx.length := by simp at h; omega
    have fin : PO c := by
      refine ⟨⟨h'.1.1.1.1, h'.1.1.1.2, he⟩, h'.1.2, h'.2, hl', fun l hl => ?_⟩
      obtain ⟨i, hi⟩ := List.getElem?_of_mem hl
      have := hi
      rw [List.getElem?_eq_some_iff] at this
      exact hI i (by rw [hge]; exact this.1) l hi
    by_cases h0 : c.fx.length = 0
    · refine ⟨[], fun h => by simp [h0] at h, fun _ h => by simp at h, fun _ => ⟨fun _ h => by simp at h, fun _ _ => fin⟩⟩
    · obtain ⟨z, hz⟩ : ∃ z, c.fx[c.fx.length - 1]? = some z := ⟨c.fx[c.fx.length - 1]'(by omega), by simp⟩
      exact ⟨z, fun _ => V0 (j := c.fx.length - 1) (by rw [Zt (by omega)]; omega) hz, fun _ h => by simp at h, fun _ => ⟨fun _ h => by simp at h, fun _ _ => fin⟩⟩
theorem A9 (a b : List Int) (ha : a.length ≤ 1000000) : ∃ v, JL a b v := by
  obtain ⟨v, hv, _⟩ := E3 (Post := fun _ => True) (a0 := a) (a1 := b) (by
    unfold JK
    simp only [jn]
    refine ⟨fun _ => trivial, fun h => ?_⟩
    have hl : a.length = b.length := by simp at h; omega
    refine AS (by omega) (fun _ => True) ?_ (fun _ => trivial)
    intro j x hj hx X hX
    obtain ⟨y, hy⟩ : ∃ y, b[j]? = some y := ⟨b[j]'(by omega), by simp⟩
    exact ⟨x, V0 rfl hx, y, V0 rfl hy, fun _ => trivial, fun _ => hX trivial⟩)
  exact ⟨v, hv⟩
theorem U4 (a b : List Q1) (ha : a.length ≤ 1000000) : ∃ v, KG a b v := by
  obtain ⟨v, hv, _⟩ := BQ (Post := fun _ => True) (a0 := a) (a1 := b) (by
    unfold KF
    simp only [jn]
    refine ⟨fun _ => trivial, fun h => ?_⟩
    have hl : a.length = b.length := by simp at h; omega
    refine AS (by omega) (fun _ => True) ?_ (fun _ => trivial)
    intro j x hj hx X hX
    obtain ⟨y, hy⟩ : ∃ y, b[j]? = some y := ⟨b[j]'(by omega), by simp⟩
    exact ⟨x, V0 rfl hx, y, V0 rfl hy, fun _ => trivial, fun _ => hX trivial⟩)
  exact ⟨v, hv⟩
theorem DD (a b : Qk) (ha : a.fx.length ≤ 1000000) (ha2 : ∀ l ∈ a.fx, l.length ≤ 1000000) : ∃ v, V4 a b v := by
  obtain ⟨v, hv, _⟩ := Di (Post := fun _ => True) (a0 := a) (a1 := b) (by
    unfold Jo
    simp only [jn, Jk]
    refine ⟨fun _ => trivial, fun h => ?_⟩
    have hl : a.fx.length = b.fx.length := by
      have := (Bool.or_eq_false_iff.1 h).2
      simp at this; omega
    refine AS (by omega) (fun _ => True) ?_ (fun _ => trivial)
    intro j x hj hx X hX
    obtain ⟨y, hy⟩ : ∃ y, b.fx[j]? = some y := ⟨b.fx[j]'(by omega), by simp⟩
    have hxl : x.length ≤ 1000000 := ha2 x (List.mem_of_getElem? hx)
    refine ⟨x, V0 rfl hx, y, V0 rfl hy, fun _ => trivial, fun h2 => ?_⟩
    have hl2 : x.length = y.length := by simp at h2; omega
    refine Kl (I := fun k s => ∃ m : Nat, s = (m : Int) ∧ m ≤ x.length ∧ k = x.length - m) ?_ (k := x.length) ⟨0, rfl, by omega, by omega⟩
    rintro k s ⟨m, rfl, hm, hk⟩ X2 hX2
    refine ⟨x, V0 rfl hx, fun h3 => ?_, fun _ => hX trivial⟩
    have hm2 : m < x.length := by simp at h3; omega
    obtain ⟨p, hp⟩ : ∃ p, x[m]? = some p := ⟨x[m]'(by omega), by simp⟩
    obtain ⟨q, hq⟩ : ∃ q, y[m]? = some q := ⟨y[m]'(by omega), by simp⟩
    refine ⟨x, V0 rfl hx, p, V0 rfl hp, y, V0 rfl hy, q, V0 rfl hq, fun _ => trivial, fun _ => ?_⟩
    rw [Zt (by omega)]
    exact hX2 (x.length - (m + 1)) _ (by omega) ⟨m + 1, by simp, by omega, rfl⟩)
  exact ⟨v, hv⟩
def I7 (s : Qa) : Prop := s.fc.fa7.length ≤ 1000000 ∧ s.fy.f4.length ≤ 1000000 ∧ s.fa3.fh.length ≤ 1000000 ∧ s.ff.fh.length ≤ 1000000 ∧ s.fp.fx.length ≤ 1000000 ∧ ∀ l ∈ s.fp.fx, l.length ≤ 1000000
theorem Bh (a b : Q9) (ha : a.fa7.length ≤ 1000000) : ∃ v, V1 a b v := by
  obtain ⟨v, hv⟩ := A9 a.fa7 b.fa7 ha
  exact ⟨_, v, fun _ => hv, rfl⟩
theorem D4 (a b : Qj) (ha : a.f4.length ≤ 1000000) : ∃ v, Xc a b v := by
  obtain ⟨v, hv⟩ := A9 a.f4 b.f4 ha
  exact ⟨_, v, fun _ => hv, rfl⟩
theorem Fe (a b : Qs) (ha : a.fh.length ≤ 1000000) : ∃ v, Yz a b v := by
  obtain ⟨v, hv⟩ := U4 a.fh b.fh ha
  exact ⟨_, v, fun _ => hv, rfl⟩
theorem Bi (a b : Qb) (ha : a.fh.length ≤ 1000000) : ∃ v, V2 a b v := by
  obtain ⟨v, hv⟩ := U4 a.fh b.fh ha
  exact ⟨_, v, fun _ => hv, rfl⟩
theorem H1 (a b : Qa) (h : I7 a) : ∃ v, WK a b v := by
  obtain ⟨h1, h2, h3, h4, h5, h6⟩ := h
  obtain ⟨v1, e1⟩ := Bh a.fc b.fc h1
  obtain ⟨v2, e2⟩ := D4 a.fy b.fy h2
  obtain ⟨v3, e3⟩ := Fe a.fa3 b.fa3 h3
  obtain ⟨v4, e4⟩ := Bi a.ff b.ff h4
  obtain ⟨v5, e5⟩ := DD a.fp b.fp h5 h6
  exact ⟨_, v1, fun _ => e1, v2, fun _ => e2, v3, fun _ => e3, v4, fun _ => e4, v5, fun _ => e5, rfl⟩
theorem H2 (s : Qa) : ∃ v, YA s v := by
  unfold YA UR
  simp only [jn]
  generalize s.fb.fm = k
  by_cases k1 : k = 1
  · subst k1; exact ⟨_, fun _ => rfl, fun h => by simp at h⟩
  have e1 : (k == 1) = false := by simp [k1]
  by_cases k2 : k = 2
  · subst k2; exact ⟨_, fun h => by simp at h, fun _ => ⟨fun _ => rfl, fun h => by simp at h⟩⟩
  have e2 : (k == 2) = false := by simp [k2]
  by_cases k3 : k = 3
  · subst k3; exact ⟨_, fun h => by simp at h, fun _ => ⟨fun h => by simp at h, fun _ => ⟨fun _ => rfl, fun h => by simp at h⟩⟩⟩
  have e3 : (k == 3) = false := by simp [k3]
  by_cases k4 : k = 4
  · subst k4; exact ⟨_, fun h => by simp at h, fun _ => ⟨fun h => by simp at h, fun _ => ⟨fun h => by simp at h, fun _ => ⟨fun _ => rfl, fun h => by simp at h⟩⟩⟩⟩
  have e4 : (k == 4) = false := by simp [k4]
  by_cases k5 : k = 5
  · subst k5; exact ⟨_, fun h => by simp at h, fun _ => ⟨fun h => by simp at h, fun _ => ⟨fun h => by simp at h, fun _ => ⟨fun h => by simp at h, fun _ => ⟨fun _ => rfl, fun h => by simp at h⟩⟩⟩⟩⟩
  have e5 : (k == 5) = false := by simp [k5]
  by_cases k6 : k = 6
  · subst k6; exact ⟨_, fun h => by simp at h, fun _ => ⟨fun h => by simp at h, fun _ => ⟨fun h => by simp at h, fun _ => ⟨fun h => by simp at h, fun _ => ⟨fun h => by simp at h, fun _ => ⟨fun _ => rfl, fun h => by simp at h⟩⟩⟩⟩⟩⟩
  have e6 : (k == 6) = false := by simp [k6]
  simp only [e1, e2, e3, e4, e5, e6]
  exact ⟨_, fun h => by simp at h, fun _ => ⟨fun h => by simp at h, fun _ => ⟨fun h => by simp at h, fun _ => ⟨fun h => by simp at h, fun _ => ⟨fun h => by simp at h, fun _ => ⟨fun h => by simp at h, fun _ => rfl⟩⟩⟩⟩⟩⟩
theorem UG (s : Qa) (h : I7 s) : ∃ v, Jq s v ∧ (v = 0 → 1 ≤ s.fb.fm ∧ s.fb.fm ≤ 6) := by
  refine Dk (Post := fun v => v = 0 → 1 ≤ s.fb.fm ∧ s.fb.fm ≤ 6) (a0 := s) (by
    unfold Jp
    simp only [jn]
    refine ⟨_, VC s.fb, fun h e => by simp [e] at h, fun hpar => ?_⟩
    have hk : 1 ≤ s.fb.fm ∧ s.fb.fm ≤ 6 := by
      have hp : U2 s.fb.fm s.fb.fg s.fb.fq s.fb.fu = 0 := by simpa using hpar
      unfold U2 at hp; grind
    obtain ⟨v12, e12⟩ := H2 s
    obtain ⟨v13, e13⟩ := H1 s v12 h
    obtain ⟨v1, e1, _⟩ := Xv s.fw
    obtain ⟨v2, e2, _⟩ := Vn s.fc
    obtain ⟨v3, e3, _⟩ := Xa s.fy
    obtain ⟨v4, e4, _⟩ := Yf s.fa3
    obtain ⟨v5, e5, _⟩ := Vo s.ff
    obtain ⟨v6, e6, _⟩ := Xw s.fp
    refine ⟨fun _ => ⟨v1, e1, ?_⟩, fun _ => ⟨fun _ => ⟨v2, e2, ?_⟩, fun _ => ⟨fun _ => ⟨v3, e3, ?_⟩, fun _ => ⟨fun _ => ⟨v4, e4, ?_⟩, fun _ => ⟨fun _ => ⟨v5, e5, ?_⟩, fun _ => ⟨fun _ => ⟨v6, e6, ?_⟩, fun _ => ?_⟩⟩⟩⟩⟩⟩
    all_goals exact ⟨fun _ _ => hk, fun _ => ⟨v12, fun _ => e12, v13, fun _ => e13, fun _ _ => hk, fun _ _ => hk⟩⟩)
theorem B6 (x : Int) : 0 ≤ IntKind.u64.wrap x ∧ IntKind.u64.wrap x ≤ 18446744073709551615 := by rw [IntKind.wrap_u64]; omega
theorem Cd (a : Int) : ∃ v, YX a v ∧ 0 ≤ v ∧ v ≤ 18446744073709551615 := ⟨_, rfl, B6 _⟩
theorem IS (a b : Int) : ∃ v, UU a b v := by
  obtain ⟨v, hv, _⟩ := Cd (EO .u64 (a) (IntKind.u64.wrap ((IntKind.u64.wrap ((IntKind.u64.wrap (b)) + (1))) * (15074714826142052245))))
  exact ⟨v, v, hv, rfl⟩
theorem D5 (a : Int) : ∃ r, XG a r ∧ r.length = 256 := by
  refine GL (Post := fun r => r.length = 256) ?_
  unfold XF
  simp only [jn]
  refine Kl (I := fun k s => (s.1.length : Int) = s.2 - 1 ∧ 1 ≤ s.2 ∧ s.2 ≤ 257 ∧ k = (257 - s.2).toNat) ?_ (k := 256) ⟨rfl, by decide, by decide, rfl⟩
  rintro k ⟨r, i⟩ ⟨h1, h2, h3, hk⟩ X hX
  simp only at h1 h2 h3 hk ⊢
  refine ⟨fun h => ?_, fun h => ?_⟩
  · have hi : i ≤ 256 := by simpa using h
    obtain ⟨v, hv, _⟩ := Cd (IntKind.u64.wrap ((a) + (IntKind.u64.wrap ((i) * (11400714819323198485)))))
    refine ⟨v, hv, by simp; omega, ?_⟩
    rw [BA (by omega)]
    exact hX (257 - (i + 1)).toNat _ (by omega) ⟨by simp; omega, by simp only; omega, by simp only; omega, rfl⟩
  · have hi : ¬ i ≤ 256 := by simpa using h
    omega
theorem DW (l : List Int) (s : ByteArray) (hl : l.length = 256) (hs : s.size ≤ 1000000) : ∃ v, Yr l s v ∧ 0 ≤ v.1 ∧ v.1 ≤ 18446744073709551615 := by
  refine HT (Post := fun v => 0 ≤ v.1 ∧ v.1 ≤ 18446744073709551615) ?_
  unfold Yq
  simp only [jn]
  refine ⟨fun _ => by decide, fun _ => ?_⟩
  obtain ⟨v, hv, _⟩ := JZ (l := l) (n := (s.size : Int) % 256) (by omega) (by omega)
  refine ⟨v, by rw [VJ (by omega)]; exact hv, ?_⟩
  refine Kl (I := fun k s' => ∃ j : Nat, s'.2 = (j : Int) ∧ j ≤ s.size ∧ k = s.size - j) ?_ (k := s.size) ⟨0, rfl, by omega, by omega⟩
  rintro k ⟨h, i⟩ ⟨j, hj, hj1, hk⟩ X hX
  simp only at hj ⊢
  subst hj
  refine ⟨fun h => ?_, fun _ => ?_⟩
  · have hj2 : j < s.size := by simp at h; omega
    have hb := AP hj2
    have hc : 0 ≤ AO s j ∧ AO s j ≤ 255 := by
      unfold AO; rw [dif_pos hj2]; have := (s[j]).toNat_lt; omega
    rw [Zt (n := (j : Int) + 1) (by omega)]
    have w : IntKind.i64.wrap (IntKind.i64.wrap (AO s j) + (j : Int)) = AO s j + j := by rw [Zt (n := AO s j) (by omega), Zt (by omega)]
    obtain ⟨v2, hv2, _⟩ := JZ (l := l) (n := (AO s j + j) % 256) (by omega) (by omega)
    refine ⟨AO s j, hb, v2, by rw [w, VJ (by omega)]; exact hv2, ?_⟩
    exact hX (s.size - (j + 1)) _ (by omega) ⟨j + 1, by simp, by omega, rfl⟩
  · obtain ⟨m, hm, h0, h1⟩ := Cd h
    exact ⟨m, hm, h0, h1⟩
theorem FP (a b c : Int) (s : ByteArray) : ∃ v, XW a b c s v ∧ (0 ≤ b ∧ b ≤ 7 → 1 ≤ c ∧ c ≤ 64 → 0 ≤ v.1 ∧ v.1 < c) := by
  refine Fz (Post := fun v => 0 ≤ b ∧ b ≤ 7 → 1 ≤ c ∧ c ≤ 64 → 0 ≤ v.1 ∧ v.1 < c) ?_
  unfold VN
  simp only [ZF, VB, exists_eq_left, Jk]
  refine ⟨_, fun _ => rfl, fun _ _ h => (show 0 ≤ (0 : Int) ∧ (0 : Int) < c by omega), fun h => ⟨fun _ _ h => (show 0 ≤ (0 : Int) ∧ (0 : Int) < c by omega), fun h2 => ?_⟩⟩
  have h' : (0 ≤ b ∧ b ≤ 7) ∧ 1 ≤ c ∧ c ≤ 64 := by simpa [wI] using h
  have h2' : 1 ≤ s.size ∧ s.size ≤ 32 := by simpa using h2
  obtain ⟨v6, e6⟩ := IS a b
  obtain ⟨v7, e7, l7⟩ := D5 v6
  obtain ⟨v8, e8, h80, h81⟩ := DW v7 s l7 (by omega)
  refine ⟨v6, e6, v7, e7, v8, e8, by rw [BA (by omega)]; omega, fun _ _ => ?_⟩
  show 0 ≤ IntKind.i64.wrap (v8.1.tmod (IntKind.u64.wrap c)) ∧ IntKind.i64.wrap (v8.1.tmod (IntKind.u64.wrap c)) < c
  rw [BA (n := c) (by omega), VJ h80]
  have m0 := Int.emod_nonneg v8.1 (b := c) (by omega)
  have m1 := Int.emod_lt_of_pos v8.1 (b := c) (by omega)
  rw [Zt (by omega)]
  exact ⟨m0, m1⟩
theorem A1 (a b c : Int) : ∃ v, Xo a b c v := by
  unfold Xo C1
  cases h : (bif decide ((Cz a 0) > (Cz c 0)) then true else decide ((Cz b 0) > (IntKind.i64.wrap ((Cz c 0) - (Cz a 0)))))
  · refine ⟨(IntKind.i64.wrap ((Cz a 0) + (Cz b 0)), false), _, rfl, _, rfl, _, rfl, ?_⟩; exact ⟨fun h2 => (by rw [h] at h2; cases h2), fun _ => rfl⟩
  · refine ⟨(Cz c 0, true), _, rfl, _, rfl, _, rfl, ?_⟩; exact ⟨fun _ => rfl, fun h2 => (by rw [h] at h2; cases h2)⟩
theorem Xx (a b : Int) : ∃ v, Jc a b v := by
  obtain ⟨v, hv⟩ := A1 a b 1099511627776
  exact ⟨_, v, hv, rfl⟩
theorem ZY (x : Qi) : ∃ v, Z7 x v ∧ (v = 0 → (1 ≤ x.fa2.size ∧ x.fa2.size ≤ 32) ∧ 1 ≤ x.fa6 ∧ x.fa6 ≤ 4294967295) :=
  ⟨_, WC x, fun h => by unfold F8 at h; grind⟩
theorem Aq (c : Q9) (x : Qi) : ∃ v, Kz c x v ∧ v.1.fa7.length ≤ 1000 := by
  refine Ah (Post := fun v => v.1.fa7.length ≤ 1000) ?_
  unfold K3
  simp only [jn]
  obtain ⟨v2, e2, ok⟩ := Vn c
  obtain ⟨v4, e4, ok4⟩ := ZY x
  refine ⟨v2, e2, fun _ => by simp, fun h2 => ⟨v4, e4, fun _ => by simp, fun h4 => ?_⟩⟩
  obtain ⟨hd, hs, hl, hx⟩ := ok (by simpa using h2)
  have hm := H0 hd hs
  refine ⟨by omega, ?_⟩
  refine Kl (I := fun k s => 0 ≤ s.1 ∧ s.1 ≤ c.fq ∧ k = (c.fq - s.1).toNat ∧ s.2.1.length = c.fa7.length) ?_ (k := c.fq.toNat) ⟨by simp, by simp only; omega, by simp, rfl⟩
  rintro k ⟨i, l, f⟩ ⟨h0, h1, hk, hlen⟩ X hX
  simp only at h0 h1 hk hlen ⊢
  refine ⟨fun h => ?_, fun _ => by omega⟩
  have hi : i < c.fq := by simpa using h
  obtain ⟨v, hv, hr⟩ := FP c.fu i c.fg x.fa2
  obtain ⟨r0, r1⟩ := hr (by omega) hs
  have p1 : 0 ≤ i * c.fg := Int.mul_nonneg h0 (by omega)
  have p2 : (i + 1) * c.fg ≤ c.fq * c.fg := Int.mul_le_mul_of_nonneg_right (by omega) (by omega)
  rw [Int.add_mul, Int.one_mul] at p2
  have w : IntKind.i64.wrap (IntKind.i64.wrap (i * c.fg) + v.1) = i * c.fg + v.1 := by rw [Zt (n := i * c.fg) (by omega), Zt (by omega)]
  obtain ⟨y, hy, _⟩ := JZ (l := l) (n := i * c.fg + v.1) (by omega) (by omega)
  obtain ⟨z, hz⟩ := A1 y x.fa6 4294967295
  refine ⟨i * c.fg + v.1, ⟨v, hv, w.symm⟩, y, hy, z, hz, y, hy, ?_⟩
  rw [Zt (by omega)]
  exact hX (c.fq - (i + 1)).toNat _ (by omega) ⟨by simp only; omega, by simp only; omega, rfl, by simpa using hlen⟩
theorem shr_p {p v : Int} (hp : 2 ≤ p ∧ p ≤ 8) (h0 : 0 ≤ v) (h1 : v ≤ 18446744073709551615) : 0 ≤ QS .u64 v (IntKind.u64.wrap (IntKind.i64.wrap (64 - p))) ∧ QS .u64 v (IntKind.u64.wrap (IntKind.i64.wrap (64 - p))) < Wg .i64 1 (IntKind.u64.wrap p) := by
  have h : p = 2 ∨ p = 3 ∨ p = 4 ∨ p = 5 ∨ p = 6 ∨ p = 7 ∨ p = 8 := by omega
  have hd : ∀ m : Int, 0 < m → v.fdiv m = v / m := fun m hm => Int.fdiv_eq_ediv_of_nonneg v (by omega)
  rcases h with rfl | rfl | rfl | rfl | rfl | rfl | rfl
  · have e1 : IntKind.u64.wrap (IntKind.i64.wrap (64 - 2)) = 62 := by decide
    have e2 : Wg .i64 1 (IntKind.u64.wrap 2) = 4 := by decide
    rw [e1, e2]; show 0 ≤ v.fdiv 4611686018427387904 ∧ v.fdiv 4611686018427387904 < 4; rw [hd _ (by decide)]; omega
  · have e1 : IntKind.u64.wrap (IntKind.i64.wrap (64 - 3)) = 61 := by decide
    have e2 : Wg .i64 1 (IntKind.u64.wrap 3) = 8 := by decide
    rw [e1, e2]; show 0 ≤ v.fdiv 2305843009213693952 ∧ v.fdiv 2305843009213693952 < 8; rw [hd _ (by decide)]; omega
  · have e1 : IntKind.u64.wrap (IntKind.i64.wrap (64 - 4)) = 60 := by decide
    have e2 : Wg .i64 1 (IntKind.u64.wrap 4) = 16 := by decide
    rw [e1, e2]; show 0 ≤ v.fdiv 1152921504606846976 ∧ v.fdiv 1152921504606846976 < 16; rw [hd _ (by decide)]; omega
  · have e1 : IntKind.u64.wrap (IntKind.i64.wrap (64 - 5)) = 59 := by decide
    have e2 : Wg .i64 1 (IntKind.u64.wrap 5) = 32 := by decide
    rw [e1, e2]; show 0 ≤ v.fdiv 576460752303423488 ∧ v.fdiv 576460752303423488 < 32; rw [hd _ (by decide)]; omega
  · have e1 : IntKind.u64.wrap (IntKind.i64.wrap (64 - 6)) = 58 := by decide
    have e2 : Wg .i64 1 (IntKind.u64.wrap 6) = 64 := by decide
    rw [e1, e2]; show 0 ≤ v.fdiv 288230376151711744 ∧ v.fdiv 288230376151711744 < 64; rw [hd _ (by decide)]; omega
  · have e1 : IntKind.u64.wrap (IntKind.i64.wrap (64 - 7)) = 57 := by decide
    have e2 : Wg .i64 1 (IntKind.u64.wrap 7) = 128 := by decide
    rw [e1, e2]; show 0 ≤ v.fdiv 144115188075855872 ∧ v.fdiv 144115188075855872 < 128; rw [hd _ (by decide)]; omega
  · have e1 : IntKind.u64.wrap (IntKind.i64.wrap (64 - 8)) = 56 := by decide
    have e2 : Wg .i64 1 (IntKind.u64.wrap 8) = 256 := by decide
    rw [e1, e2]; show 0 ≤ v.fdiv 72057594037927936 ∧ v.fdiv 72057594037927936 < 256; rw [hd _ (by decide)]; omega
theorem Ee (p a : Int) (s : ByteArray) (hp : 2 ≤ p ∧ p ≤ 8) : ∃ v, VH p a s v ∧ 0 ≤ v.1 ∧ v.1 < Wg .i64 1 (IntKind.u64.wrap p) := by
  have hs4 := Nq hp
  refine E9 (Post := fun v => 0 ≤ v.1 ∧ v.1 < Wg .i64 1 (IntKind.u64.wrap p)) ?_
  unfold JO
  simp only [ZF, VB, exists_eq_left, jn]
  refine ⟨fun _ => by omega, fun _ => ⟨fun _ => by omega, fun h2 => ?_⟩⟩
  have h2' : 1 ≤ s.size ∧ s.size ≤ 32 := by simpa using h2
  obtain ⟨v5, e5, l5⟩ := D5 a
  obtain ⟨v6, e6, h60, h61⟩ := DW v5 s l5 (by omega)
  refine ⟨v5, e5, v6, e6, ?_⟩
  have sh := shr_p hp h60 h61
  refine Kl (I := fun k s => -1 ≤ s.2 ∧ s.2 ≤ 63 ∧ k = (s.2 + 1).toNat) ?_ (k := (64 - p).toNat) ⟨by simp only; rw [Zt (by omega)]; omega, by simp only; rw [Zt (by omega)]; omega, by simp only; rw [Zt (by omega)]; omega⟩
  rintro k ⟨n, i⟩ ⟨h0, h1, hk⟩ X hX
  simp only at h0 h1 hk ⊢
  refine ⟨fun h => by rw [BA (by simp at h; omega)]; simp at h; omega, fun h => ?_, fun h => ?_⟩
  · have hi : 0 ≤ i := by
      cases hd : decide (i ≥ 0) with
      | true => simpa using hd
      | false => rw [hd] at h; cases h
    rw [Zt (n := i - 1) (by omega)]
    exact hX (i - 1 + 1).toNat _ (by omega) ⟨by simp only; omega, by simp only; omega, rfl⟩
  · refine ⟨by rw [BA (by rw [Zt (by omega)]; omega), Zt (by omega)]; omega, ?_⟩
    rw [Zt (n := QS .u64 v6.1 _) (by omega)]
    exact sh
theorem Bj (c : Qj) (x : Qi) : ∃ v, Jf c x v ∧ v.1.f4.length ≤ 1000 := by
  refine Bb (Post := fun v => v.1.f4.length ≤ 1000) ?_
  unfold Kt
  obtain ⟨v2, e2, ok⟩ := Xa c
  obtain ⟨v4, e4, ok4⟩ := ZY x
  refine ⟨v2, e2, fun _ => by simp, fun h2 => ⟨v4, e4, fun _ => by simp, fun h4 => ?_⟩⟩
  obtain ⟨hp, hl, hlen, hx⟩ := ok (by simpa using h2)
  obtain ⟨v5, e5, h50, h51⟩ := Ee c.f7 c.fu x.fa2 hp
  obtain ⟨y, hy, _⟩ := JZ (l := c.f4) (n := v5.1) h50 (by omega)
  exact ⟨v5, e5, by omega, y, hy, y, hy, by simp; omega⟩
theorem Ce (t : Qo) (x : Qi) : ∃ v, JA t x v := by
  obtain ⟨v, hv, _⟩ := C2 (Post := fun _ => True) (a0 := t) (a1 := x) (by
    unfold KN
    obtain ⟨v2, e2, ok⟩ := Xv t
    obtain ⟨v4, e4, ok4⟩ := ZY x
    obtain ⟨a1, h1⟩ := A1 t.fo x.fa6 4294967295
    obtain ⟨a2, h2⟩ := A1 t.f8 1 4294967295
    exact ⟨v2, e2, fun _ => trivial, fun _ => ⟨v4, e4, fun _ => trivial, fun _ => ⟨_, ⟨a1, h1, a2, h2, rfl⟩, trivial⟩⟩⟩)
  exact ⟨v, hv⟩
theorem Yg {α : Type} {l : List α} {j : Nat} (h : j < l.length) : ∃ x, ix l (j : Int) x := by
  obtain ⟨x, hx, _⟩ := JZ (l := l) (n := (j : Int)) (by omega) (by omega)
  exact ⟨x, hx⟩
theorem H3 (c : Qs) (h : c.fh.length ≤ 1000) : ∃ v, YB c v := by
  obtain ⟨v, hv, _⟩ := GN (Post := fun _ => True) (a0 := c) (by
    unfold XH
    simp only [Jk]
    refine ⟨fun _ => trivial, fun h2 => ?_⟩
    have h0 : c.fh.length ≠ 0 := by
      intro e; rw [e] at h2; simp at h2
    rw [Zt (by omega)]
    obtain ⟨x, hx, _⟩ := JZ (l := c.fh) (n := (c.fh.length : Int) - 1) (by omega) (by omega)
    exact ⟨x, hx, trivial⟩)
  exact ⟨v, hv⟩
theorem AU (l : List Q1) (hl : l.length ≤ 1000) : ∃ r, Wp l r ∧ r.length ≤ 1000 := by
  refine HW (Post := fun r => r.length ≤ 1000) ?_
  unfold Ys
  simp only [jn]
  refine Kl (I := fun k s => ∃ j : Nat, s.2 = (j : Int) ∧ j ≤ l.length ∧ k = l.length - j ∧ s.1.length = j) ?_ (k := l.length) ⟨0, rfl, by omega, by omega, rfl⟩
  rintro k ⟨a, i⟩ ⟨j, hj, hj1, hk, ha⟩ X hX
  simp only at hj ha ⊢
  subst hj
  refine ⟨fun h => ?_, fun _ => by omega⟩
  have hj2 : j < l.length := by simp at h; omega
  obtain ⟨x, hx⟩ := Yg hj2
  refine ⟨x, hx, by simp; omega, ?_⟩
  have w0 : IntKind.i64.wrap (((a ++ [x]).length : Int) - 1) = (j : Int) := by simp [ha]; rw [Zt (by omega)]
  rw [w0]
  refine Kl (I := fun k s => ∃ m : Nat, s.2 = (m : Int) ∧ m ≤ j ∧ k = m ∧ s.1.length = j + 1) ?_ (k := j) ⟨j, rfl, by omega, rfl, by simp [ha]⟩
  rintro k2 ⟨b, i2⟩ ⟨m, hm, hm1, hk2, hb⟩ X2 hX2
  simp only at hm hb ⊢
  subst hm
  have done : X (b, IntKind.i64.wrap ((j : Int) + 1)) := by
    rw [Zt (by omega)]
    exact hX (l.length - (j + 1)) _ (by omega) ⟨j + 1, by simp, by omega, rfl, hb⟩
  by_cases h0 : m = 0
  · subst h0
    exact ⟨x, fun h => by simp at h, x, fun h => by simp at h, false, fun h => by simp at h, fun h => by simp at h, fun _ => done⟩
  · obtain ⟨p, hp⟩ := Yg (l := b) (j := m) (by omega)
    obtain ⟨q, hq⟩ := Yg (l := b) (j := m - 1) (by omega)
    have wm : IntKind.i64.wrap ((m : Int) - 1) = ((m - 1 : Nat) : Int) := by rw [Zt (by omega)]; omega
    obtain ⟨z, hz⟩ := Yg (l := List.set b (Int.toNat (m : Int)) q) (j := m - 1) (by simp; omega)
    rw [wm]
    refine ⟨p, fun _ => hp, q, fun _ => hq, _, fun _ => rfl, fun _ => ⟨q, hq, p, hp, p, hp, z, hz, ?_⟩, fun _ => done⟩
    exact hX2 (m - 1) _ (by omega) ⟨m - 1, rfl, by omega, rfl, by simpa using hb⟩
theorem DF (c : Qs) (x : Qi) : ∃ v, Va c x v ∧ v.1.fh.length ≤ 1000 := by
  refine Dq (Post := fun v => v.1.fh.length ≤ 1000) ?_
  unfold Jt
  simp only [jn]
  obtain ⟨v2, e2, ok⟩ := Yf c
  obtain ⟨v4, e4, ok4⟩ := ZY x
  refine ⟨v2, e2, fun _ => by simp, fun h2 => ⟨v4, e4, fun _ => by simp, fun h4 => ?_⟩⟩
  obtain ⟨hs, ht, hl, hx⟩ := ok (by simpa using h2)
  obtain ⟨v6, e6⟩ := Xx c.fo x.fa6
  obtain ⟨v7, e7, h70, h71⟩ := AT c.fh x.fa2 (by omega)
  refine ⟨by omega, v6, e6, v7, e7, fun h => ?_, fun h => ⟨fun h3 => ?_, fun h3 => ?_⟩⟩
  · have h' : 0 ≤ v7 := by simpa using h
    obtain ⟨y, hy, _⟩ := JZ (l := c.fh) (n := v7) h' h71
    obtain ⟨z, hz⟩ := Xx y.f0 x.fa6
    obtain ⟨r, hr, hr2⟩ := AU (List.set c.fh (Int.toNat v7) (Q1.mk (y.fa2) (z.1) (y.fc0))) (by simp; omega)
    exact ⟨y, hy, z, hz, y, hy, r, hr, hr2⟩
  · obtain ⟨r, hr, hr2⟩ := AU (c.fh ++ [Q1.mk (x.fa2) (x.fa6) (0)]) (by simp; omega)
    exact ⟨by simp; omega, r, hr, hr2⟩
  · have h3' : c.fg ≤ c.fh.length := by simpa using h3
    obtain ⟨v13, e13⟩ := H3 c (by omega)
    obtain ⟨v14, e14⟩ := Xx v13 x.fa6
    have w : IntKind.i64.wrap ((c.fh.length : Int) - 1) = (c.fh.length : Int) - 1 := Zt (by omega)
    obtain ⟨y, hy, _⟩ := JZ (l := c.fh) (n := (c.fh.length : Int) - 1) (by omega) (by omega)
    rw [w]
    obtain ⟨r, hr, hr2⟩ := AU (List.set c.fh (Int.toNat ((c.fh.length : Int) - 1)) (Q1.mk (x.fa2) (v14.1) (XU (v13) (IntKind.i64.wrap ((v14.1) - (1)))))) (by simp; omega)
    exact ⟨v13, e13, v14, e14, y, hy, r, hr, hr2⟩
theorem D6 (l : List Q1) (x : Q1) (hl : l.length ≤ 900) : ∃ r, XJ l x r ∧ r.length ≤ 1000 := by
  refine GP (Post := fun r => r.length ≤ 1000) ?_
  unfold XI
  simp only [jn]
  refine Kl (I := fun k s => ∃ j : Nat, s.2.2 = (j : Int) ∧ j ≤ l.length ∧ k = l.length - j ∧ s.1.length ≤ j + (if s.2.1 = true then 1 else 0)) ?_ (k := l.length) ⟨0, rfl, by omega, by omega, by simp⟩
  rintro k ⟨a, f, i⟩ ⟨j, hj, hj1, hk, ha⟩ X hX
  simp only at hj ha ⊢
  subst hj
  have hf : (if f = true then 1 else 0 : Nat) ≤ 1 := by cases f <;> simp
  refine ⟨fun h => ?_, fun h => ⟨fun _ => ⟨by simp; omega, by simp; omega⟩, fun _ => by omega⟩⟩
  have hj2 : j < l.length := by simp at h; omega
  obtain ⟨y, hy⟩ := Yg hj2
  refine ⟨y, fun _ => hy, fun h2 => ⟨by simp; omega, y, hy, by simp; omega, ?_⟩, fun h2 => ⟨y, hy, by simp; omega, ?_⟩⟩
  · rw [Zt (by omega)]
    have hff : f = false := by cases f <;> simp_all
    subst hff
    refine hX (l.length - (j + 1)) _ (by omega) ⟨j + 1, by simp, by omega, rfl, ?_⟩
    simp at ha ⊢; omega
  · rw [Zt (by omega)]
    refine hX (l.length - (j + 1)) _ (by omega) ⟨j + 1, by simp, by omega, rfl, ?_⟩
    simp; omega
theorem H4 (l : List Q1) (n : Int) (hl : l.length ≤ 900) : ∃ r, YC l n r ∧ r.length ≤ l.length := by
  refine GQ (Post := fun r => r.length ≤ l.length) ?_
  unfold XK
  simp only [jn]
  refine Kl (I := fun k s => ∃ j : Nat, s.2 = (j : Int) ∧ j ≤ l.length ∧ k = l.length - j ∧ s.1.length ≤ j) ?_ (k := l.length) ⟨0, rfl, by omega, by omega, by simp⟩
  rintro k ⟨a, i⟩ ⟨j, hj, hj1, hk, ha⟩ X hX
  simp only at hj ha ⊢
  subst hj
  refine ⟨fun h => ?_, fun _ => by omega⟩
  have hj2 : j < l.length := by simp at h; omega
  obtain ⟨y, hy⟩ := Yg hj2
  rw [Zt (by omega)]
  refine ⟨y, hy, fun _ => ⟨y, hy, y, hy, by simp; omega, ?_⟩, fun _ => ?_⟩
  · exact hX (l.length - (j + 1)) _ (by omega) ⟨j + 1, by simp, by omega, rfl, by simp; omega⟩
  · exact hX (l.length - (j + 1)) _ (by omega) ⟨j + 1, by simp, by omega, rfl, by simp only; omega⟩
theorem Ar (c : Qb) (x : Qi) : ∃ v, KA c x v ∧ v.1.fh.length ≤ 1000 := by
  refine Aj (Post := fun v => v.1.fh.length ≤ 1000) ?_
  unfold K4
  simp only [jn]
  obtain ⟨v2, e2, ok⟩ := Vo c
  obtain ⟨v4, e4, ok4⟩ := ZY x
  refine ⟨v2, e2, fun _ => by simp, fun h2 => ⟨v4, e4, fun _ => by simp, fun h4 => ?_⟩⟩
  obtain ⟨hs, ht, hlo, hl, hx⟩ := ok (by simpa using h2)
  obtain ⟨v6, e6⟩ := Xx c.fo x.fa6
  obtain ⟨v7, e7, h70, h71⟩ := AT c.fh x.fa2 (by omega)
  refine ⟨by omega, v6, e6, v7, e7, fun h => ?_, fun h => ⟨fun h3 => ?_, fun h3 => ?_⟩⟩
  · have h' : 0 ≤ v7 := by simpa using h
    obtain ⟨y, hy, _⟩ := JZ (l := c.fh) (n := v7) h' h71
    obtain ⟨z, hz⟩ := Xx y.f0 x.fa6
    exact ⟨y, hy, z, hz, y, hy, by simp; omega⟩
  · obtain ⟨r, hr, hr2⟩ := D6 c.fh (Q1.mk (x.fa2) (x.fa6) (0)) (by omega)
    exact ⟨r, hr, hr2⟩
  · refine Kl (I := fun k s => ∃ j : Nat, s.2.1 = (j : Int) ∧ j ≤ c.fh.length ∧ k = c.fh.length - j ∧ s.2.2 = c.fh) ?_ (k := c.fh.length) ⟨0, rfl, by omega, by omega, rfl⟩
    rintro k ⟨n, i, l⟩ ⟨j, hj, hj1, hk, hl2⟩ X hX
    simp only at hj hl2 ⊢
    subst hj; subst hl2
    refine ⟨fun h => ?_, fun _ => ?_⟩
    · have hj2 : j < c.fh.length := by simp at h; omega
      obtain ⟨y, hy⟩ := Yg hj2
      refine ⟨y, hy, ?_⟩
      rw [Zt (by omega)]
      exact hX (c.fh.length - (j + 1)) _ (by omega) ⟨j + 1, by simp, by omega, rfl, rfl⟩
    · obtain ⟨v18, e18, l18⟩ := H4 c.fh n (by omega)
      obtain ⟨v19, e19⟩ := Xx c.fb1 n
      obtain ⟨r, hr, hr2⟩ := D6 v18 (Q1.mk (x.fa2) (IntKind.i64.wrap ((x.fa6) - n)) (0)) (by omega)
      exact ⟨v18, e18, v19, e19, fun _ => ⟨r, hr, hr2⟩, fun _ => (show v18.length ≤ 1000 by omega)⟩
theorem FQ (w : Int) : ∃ r, XX w r ∧ r.length ≤ 63 ∧ ∀ x ∈ r, 0 ≤ x ∧ x ≤ 62 := by
  refine FB (Post := fun r => r.length ≤ 63 ∧ ∀ x ∈ r, 0 ≤ x ∧ x ≤ 62) ?_
  unfold VP
  simp only [jn]
  refine Kl (I := fun k s => ∃ j : Nat, s.2 = (j : Int) ∧ j ≤ 63 ∧ k = 63 - j ∧ s.1.length ≤ j ∧ ∀ x ∈ s.1, 0 ≤ x ∧ x ≤ 62) ?_ (k := 63) ⟨0, rfl, by omega, by omega, by simp, by simp⟩
  rintro k ⟨a, i⟩ ⟨j, hj, hj1, hk, ha, hx⟩ X hX
  simp only at hj ha hx ⊢
  subst hj
  refine ⟨fun h => ?_, fun _ => ⟨by omega, hx⟩⟩
  have hj2 : j < 63 := by
    cases hd : decide ((j : Int) < 63) with
    | true => simp at hd; omega
    | false => rw [hd] at h; cases h
  rw [Zt (by omega)]
  refine ⟨by rw [BA (by omega)]; omega, fun _ => ⟨by simp; omega, ?_⟩, fun _ => ?_⟩
  · refine hX (63 - (j + 1)) _ (by omega) ⟨j + 1, by simp, by omega, rfl, by simp; omega, ?_⟩
    intro x hx2
    rcases List.mem_append.1 hx2 with h | h
    · exact hx x h
    · simp at h; omega
  · exact hX (63 - (j + 1)) _ (by omega) ⟨j + 1, by simp, by omega, rfl, by simp only; omega, hx⟩
theorem FR (l : List ByteArray) (hl : l.length ≤ 1000000) : ∃ r, VR l r ∧ r.length = l.length := by
  refine FD (Post := fun r => r.length = l.length) ?_
  unfold VQ
  simp only [jn]
  refine Kl (I := fun k s => ∃ j : Nat, s.2 = (j : Int) ∧ j ≤ l.length ∧ k = l.length - j ∧ s.1.length = j) ?_ (k := l.length) ⟨0, rfl, by omega, by omega, rfl⟩
  rintro k ⟨a, i⟩ ⟨j, hj, hj1, hk, ha⟩ X hX
  simp only at hj ha ⊢
  subst hj
  refine ⟨fun h => ?_, fun h => by simp at h; omega⟩
  have hj2 : j < l.length := by simp at h; omega
  obtain ⟨x, hx⟩ := Yg hj2
  refine ⟨x, hx, by simp; omega, ?_⟩
  have w0 : IntKind.i64.wrap (((a ++ [x]).length : Int) - 1) = (j : Int) := by simp [ha]; rw [Zt (by omega)]
  rw [w0]
  refine Kl (I := fun k s => ∃ m : Nat, s.2 = (m : Int) ∧ m ≤ j ∧ k = m ∧ s.1.length = j + 1) ?_ (k := j) ⟨j, rfl, by omega, rfl, by simp [ha]⟩
  rintro k2 ⟨b, i2⟩ ⟨m, hm, hm1, hk2, hb⟩ X2 hX2
  simp only at hm hb ⊢
  subst hm
  have done : X (b, IntKind.i64.wrap ((j : Int) + 1)) := by
    rw [Zt (by omega)]
    exact hX (l.length - (j + 1)) _ (by omega) ⟨j + 1, by simp, by omega, rfl, hb⟩
  by_cases h0 : m = 0
  · subst h0
    exact ⟨x, fun h => by simp at h, x, fun h => by simp at h, fun h => by simp at h, fun _ => done⟩
  · obtain ⟨p, hp⟩ := Yg (l := b) (j := m) (by omega)
    obtain ⟨q, hq⟩ := Yg (l := b) (j := m - 1) (by omega)
    have wm : IntKind.i64.wrap ((m : Int) - 1) = ((m - 1 : Nat) : Int) := by rw [Zt (by omega)]; omega
    obtain ⟨z, hz⟩ := Yg (l := List.set b (Int.toNat (m : Int)) q) (j := m - 1) (by simp; omega)
    rw [wm]
    refine ⟨p, fun _ => hp, q, fun _ => hq, fun _ => ⟨q, hq, p, hp, p, hp, z, hz, ?_⟩, fun _ => done⟩
    exact hX2 (m - 1) _ (by omega) ⟨m - 1, rfl, by omega, rfl, by simpa using hb⟩
theorem tdiv8 {a : Int} (h : 0 ≤ a) : a.tdiv 8 = a / 8 := Int.tdiv_eq_ediv_of_nonneg h
theorem IT (l : List Int) (p : Int) (hl : l.length ≤ 1000000) (h1 : p ≤ 4611686018427387904) (h2 : -4611686018427387904 ≤ p) : ∃ v, YZ l p v ∧ 0 ≤ v ∧ v ≤ 1 := by
  refine IM (Post := fun v => 0 ≤ v ∧ v ≤ 1) ?_
  unfold YY
  simp only [bA1, Jk]
  refine ⟨fun _ => by omega, fun h => ?_⟩
  have h0 : 0 ≤ p := by
    cases hd : decide (p < 0) with
    | false => simpa using hd
    | true => rw [hd] at h; cases h
  have hw : IntKind.i64.wrap (p.tdiv 8) = p / 8 := by rw [tdiv8 h0, Zt (by omega)]
  rw [hw] at h ⊢
  have h3 : p / 8 < l.length := by
    have := (Bool.or_eq_false_iff.1 h).2
    simpa using this
  obtain ⟨x, hx, _⟩ := JZ (l := l) (n := p / 8) (by omega) h3
  refine ⟨x, hx, ?_, by omega⟩
  rw [VJ h0, Zt (by omega), BA (by omega)]; omega
theorem FS (a0 : List (List ByteArray)) (a1 a2 : Int) (a3 : List Int) (a4 : Int) (h0 : a0.length ≤ 1000) (hM : ∀ l ∈ a0, l.length ≤ 1000) (h3 : a3.length ≤ 1000000) (h4 : 0 ≤ a4 ∧ a4 ≤ 1073741824) :
    ∃ r, XY a0 a1 a2 a3 a4 r ∧ r.1.length ≤ 3000 ∧ ∀ l ∈ r.1, l.length ≤ 3000 := by
  refine FF (Post := fun r => r.1.length ≤ 3000 ∧ ∀ l ∈ r.1, l.length ≤ 3000) ?_
  unfold VS
  simp only [jn]
  have trim : ∀ (sl po : Int) (out : List (List ByteArray)), out.length ≤ 3000 → (∀ l ∈ out, l.length ≤ 3000) →
      lp (fun (X24 : (List (List ByteArray)) → Prop) (s24 : (List (List ByteArray))) => ∃ (v26 : (List ByteArray)), ((decide ((((s24).length : Int)) > (0))) = true → ix (s24) (IntKind.i64.wrap ((((s24).length : Int)) - (1))) v26) ∧ ((((bif decide ((((s24).length : Int)) > (0)) then ((((v26).length : Int)) == (0)) else false)) = true → ((0 : Int) ≤ (IntKind.i64.wrap ((((s24).length : Int)) - (1))) ∧ (IntKind.i64.wrap ((((s24).length : Int)) - (1)) : Int) ≤ ((s24).length : Int)) ∧ X24 ((List.take (Int.toNat (IntKind.i64.wrap ((((s24).length : Int)) - (1)))) (s24)))) ∧ (((bif decide ((((s24).length : Int)) > (0)) then ((((v26).length : Int)) == (0)) else false)) = false → s24.length ≤ 3000 ∧ ∀ l ∈ s24, l.length ≤ 3000))) out := by
    intro sl po out ho hl
    refine Kl (I := fun k s => s.length ≤ 3000 ∧ (∀ l ∈ s, l.length ≤ 3000) ∧ k = s.length) ?_ (k := out.length) ⟨ho, hl, rfl⟩
    rintro k s ⟨hs, hl, hk⟩ X hX
    by_cases hz : s.length = 0
    · refine ⟨[], fun h => by simp [hz] at h, fun h => by simp [hz] at h, fun _ => ⟨hs, hl⟩⟩
    · have w : IntKind.i64.wrap ((s.length : Int) - 1) = ((s.length - 1 : Nat) : Int) := by rw [Zt (by omega)]; omega
      rw [w]
      obtain ⟨x, hx⟩ := Yg (l := s) (j := s.length - 1) (by omega)
      refine ⟨x, fun _ => hx, fun _ => ⟨by omega, ?_⟩, fun _ => ⟨hs, hl⟩⟩
      refine hX (s.length - 1) _ (by omega) ⟨by simp; omega, fun l h => hl l (List.mem_of_mem_take h), by simp⟩
  refine Kl (I := fun k s => ∃ i : Nat, s.2.2.2.2 = (i : Int) ∧ s.2.2.2.1.length ≤ 1000 ∧ i + s.2.2.2.1.length ≤ a0.length + 1000 ∧ s.2.2.1.length = i ∧ (∀ l ∈ s.2.2.1, l.length ≤ 3000) ∧ (a4 ≤ s.2.1 ∧ s.2.1 ≤ a4 + i) ∧ k = (a0.length - i) * 1001 + s.2.2.2.1.length) ?_ (k := a0.length * 1001) ⟨0, rfl, by simp, by simp, rfl, by simp, by simp, by simp⟩
  rintro k ⟨sl, po, out, carry, i'⟩ ⟨i, hi, hc, hic, hout, hlen, hpo, hk⟩ X hX
  simp only at hi hc hic hout hlen hpo hk ⊢
  subst hi
  refine ⟨fun h => ?_, fun _ => trim sl po out (by omega) hlen⟩
  have tail : ∀ merged : List ByteArray, merged.length ≤ 2000 → (i < a0.length ∨ (merged.length = carry.length ∧ 0 < carry.length)) →
      ∃ v9, VR merged v9 ∧ ((decide ((v9.length : Int) < a1) = true → (out.length + [v9].length) * 24 ≤ 140737488355328 ∧ X (sl, po, out ++ [v9], [], IntKind.i64.wrap ((i : Int) + 1))) ∧
        (decide ((v9.length : Int) < a1) = false → ∃ v13, YZ a3 po v13 ∧
          lp (fun (X14 : (List (List ByteArray)) × (List ByteArray) × (List ByteArray) × Int → Prop) (s14 : (List (List ByteArray)) × (List ByteArray) × (List ByteArray) × Int) => (((decide ((s14.2.2.2) < (IntKind.i64.wrap ((IntKind.i64.wrap ((((v9).length : Int)).tdiv (2))) * (2))))) = true → ∃ (v17 : ByteArray), ix (s14.2.2.1) (s14.2.2.2) v17 ∧ (((s14.2.1).length + ([(v17)]).length) * 16 ≤ 140737488355328) ∧ X14 ((s14.1), ((s14.2.1) ++ ([(v17)])), (s14.2.2.1), (IntKind.i64.wrap ((s14.2.2.2) + (2))))) ∧ ((decide ((s14.2.2.2) < (IntKind.i64.wrap ((IntKind.i64.wrap ((((v9).length : Int)).tdiv (2))) * (2))))) = false →
            ((0 : Int) ≤ (IntKind.u64.wrap (i : Int))) ∧ ∃ (v20 : Int × Bool), Jc sl (Wg .i64 (1) (IntKind.u64.wrap (i : Int))) v20 ∧ ((0 : Int) ≤ (IntKind.i64.wrap ((IntKind.i64.wrap ((((v9).length : Int)).tdiv (2))) * (2))) ∧ (IntKind.i64.wrap ((IntKind.i64.wrap ((((v9).length : Int)).tdiv (2))) * (2)) : Int) ≤ (((List.map eS (s14.2.2.1)).length : Nat) : Int)) ∧ (((s14.1).length + ([(List.take ((List.map eS (s14.2.2.1)).length - Int.toNat (IntKind.i64.wrap ((IntKind.i64.wrap ((((v9).length : Int)).tdiv (2))) * (2)))) (List.drop (0 + Int.toNat (IntKind.i64.wrap ((IntKind.i64.wrap ((((v9).length : Int)).tdiv (2))) * (2)))) (s14.2.2.1)))]).length) * 24 ≤ 140737488355328) ∧ X ((v20.1), (IntKind.i64.wrap (po + (1))), ((s14.1) ++ ([(List.take ((List.map eS (s14.2.2.1)).length - Int.toNat (IntKind.i64.wrap ((IntKind.i64.wrap ((((v9).length : Int)).tdiv (2))) * (2)))) (List.drop (0 + Int.toNat (IntKind.i64.wrap ((IntKind.i64.wrap ((((v9).length : Int)).tdiv (2))) * (2)))) (s14.2.2.1)))])), (s14.2.1), IntKind.i64.wrap ((i : Int) + 1))))) (out, ([] : (List ByteArray)), v9, v13))) := by
    intro merged hm hpr
    obtain ⟨v9, e9, l9⟩ := FR merged (by omega)
    have hw1 : IntKind.i64.wrap ((i : Int) + 1) = ((i + 1 : Nat) : Int) := by rw [Zt (by omega)]; omega
    have ht : (v9.length : Int).tdiv 2 = ((v9.length / 2 : Nat) : Int) := by rw [Int.tdiv_eq_ediv_of_nonneg (by omega)]; omega
    have hw2 : IntKind.i64.wrap (IntKind.i64.wrap ((v9.length : Int).tdiv 2) * 2) = ((v9.length / 2 * 2 : Nat) : Int) := by
      rw [ht, Zt (n := ((v9.length / 2 : Nat) : Int)) (by omega), Zt (by omega)]; omega
    have hmeas : ∀ c : Nat, c ≤ v9.length / 2 → (a0.length - (i + 1)) * 1001 + c < k ∧ i + 1 + c ≤ a0.length + 1000 ∧ c ≤ 1000 := by
      intro c hcc
      rcases hpr with h | ⟨h, h'⟩
      · refine ⟨?_, by omega, by omega⟩
        have : a0.length - i = (a0.length - (i + 1)) + 1 := by omega
        rw [hk, this, Nat.add_mul]; omega
      · have hle : a0.length - (i + 1) ≤ a0.length - i := by omega
        have hle2 := Nat.mul_le_mul_right 1001 hle
        refine ⟨by omega, by omega, by omega⟩
    refine ⟨v9, e9, ?_⟩
    rw [hw1, hw2]
    refine ⟨fun h => ⟨by simp; omega, ?_⟩, fun h => ?_⟩
    · obtain ⟨m1, m2, m3⟩ := hmeas 0 (by omega)
      refine hX _ _ m1 ⟨i + 1, rfl, by simp, by simpa using m2, by simp [hout], ?_, by simp only; omega, rfl⟩
      intro l hl
      rcases List.mem_append.1 hl with h | h
      · exact hlen l h
      · simp at h; rw [h]; omega
    · obtain ⟨v13, e13, b0, b1⟩ := IT a3 po h3 (by omega) (by omega)
      refine ⟨v13, e13, ?_⟩
      refine Kl (I := fun k s => ∃ h : Nat, s.1 = out ∧ s.2.1.length = h ∧ s.2.2.1 = v9 ∧ s.2.2.2 = v13 + 2 * (h : Int) ∧ h ≤ v9.length / 2 ∧ k = v9.length / 2 - h) ?_ (k := v9.length / 2) ⟨0, rfl, rfl, rfl, by simp, by omega, by omega⟩
      rintro k14 ⟨o, half, v, kk⟩ ⟨nh, ho, hh, hv, hkk, hle, hk14⟩ X14 hX14
      simp only at ho hh hv hkk ⊢
      subst ho; subst hv
      refine ⟨fun hlt => ?_, fun hge => ?_⟩
      · have hlt' : kk < ((v.length / 2 * 2 : Nat) : Int) := by simpa using hlt
        obtain ⟨y, hy, _⟩ := JZ (l := v) (n := kk) (by omega) (by omega)
        refine ⟨y, hy, by simp; omega, ?_⟩
        rw [Zt (by omega)]
        exact hX14 (v.length / 2 - (nh + 1)) _ (by omega) ⟨nh + 1, rfl, by simp [hh], rfl, by simp only; omega, by omega, rfl⟩
      · obtain ⟨v20, e20⟩ := Xx sl (Wg .i64 (1) (IntKind.u64.wrap (i : Int)))
        refine ⟨(B6 _).1, v20, e20, ⟨by omega, by simp; omega⟩, by simp; omega, ?_⟩
        rw [Zt (n := po + 1) (by omega)]
        obtain ⟨m1, m2, m3⟩ := hmeas half.length (by omega)
        refine hX _ _ m1 ⟨i + 1, rfl, m3, m2, by simp [hout], ?_, by simp only; omega, rfl⟩
        intro l hl
        rcases List.mem_append.1 hl with h | h
        · exact hlen l h
        · simp only [List.mem_singleton] at h; rw [h, List.length_take, List.length_drop]; omega
  refine ⟨fun h2 => ?_, fun h2 => ?_⟩
  · have hi2 : i < a0.length := by simp at h2; omega
    obtain ⟨x, hx, hg⟩ := JZ (l := a0) (n := (i : Int)) (by omega) (by omega)
    have hxl : x.length ≤ 1000 := hM x (List.mem_of_getElem? hg)
    exact ⟨x, hx, by omega, by omega, tail (x ++ carry) (by simp; omega) (.inl hi2)⟩
  · have hi2 : ¬ i < a0.length := by simp at h2; omega
    have hcp : 0 < carry.length := by
      rw [h2] at h; simp at h
      rcases Nat.eq_zero_or_pos carry.length with h' | h'
      · simp_all
      · exact h'
    exact tail carry (by omega) (.inr ⟨rfl, hcp⟩)
theorem Cf (c : Qk) (x : Qi) (a2 : List Int) (a3 : Int) (h3 : a2.length ≤ 1000000) : ∃ v, JB c x a2 a3 v ∧ v.1.fx.length ≤ 3000 ∧ ∀ l ∈ v.1.fx, l.length ≤ 3000 := by
  refine C5 (Post := fun v => v.1.fx.length ≤ 3000 ∧ ∀ l ∈ v.1.fx, l.length ≤ 3000) ?_
  unfold KO
  simp only [jn]
  obtain ⟨v2, e2, ok⟩ := Xw c
  obtain ⟨v4, e4, ok4⟩ := ZY x
  refine ⟨v2, e2, fun _ => by simp, fun h2 => ⟨v4, e4, fun _ => by simp, fun h4 => ⟨_, rfl, fun _ => by simp, fun h5 => ?_⟩⟩⟩
  obtain ⟨hs, ht, hsl, hll, hx⟩ := ok (by simpa using h2)
  have hp : 0 ≤ a3 ∧ a3 ≤ 1073741824 := by
    rw [JG] at h5; simpa using h5
  obtain ⟨v7, e7⟩ := Xx c.fo x.fa6
  have hlev : ∀ l ∈ c.fx, l.length ≤ 100 := fun l hl => by have := (hx l hl).1; omega
  refine ⟨v7, e7, fun _ => ⟨(show c.fx.length ≤ 3000 by omega), fun l hl => by have := hlev l hl; omega⟩, fun _ => ⟨by omega, ?_⟩⟩
  obtain ⟨v10, e10, l10, r10⟩ := FQ x.fa6
  refine ⟨v10, e10, ?_⟩
  refine Kl (I := fun k s => ∃ j : Nat, s.2.2 = (j : Int) ∧ j ≤ v10.length ∧ s.2.1 = v10 ∧ k = v10.length - j ∧ s.1.length ≤ 200 ∧ ∀ l ∈ s.1, l.length ≤ 100 + j) ?_ (k := v10.length) ⟨0, rfl, by omega, rfl, by omega, by simp only; omega, by simpa using hlev⟩
  rintro k ⟨L, P, i⟩ ⟨j, hj, hj1, hP, hk, hL, hLl⟩ X hX
  simp only at hj hP hL hLl ⊢
  subst hj; subst hP
  refine ⟨fun h => ?_, fun _ => ?_⟩
  · have hj2 : j < P.length := by simp at h; omega
    obtain ⟨q, hq, hqg⟩ := JZ (l := P) (n := (j : Int)) (by omega) (by omega)
    have hqr := r10 q (List.mem_of_getElem? hqg)
    refine Kl (I := fun k s => s.2 = P ∧ s.1.length ≤ 200 ∧ (∀ l ∈ s.1, l.length ≤ 100 + j) ∧ k = 201 - s.1.length) ?_ (k := 201 - L.length) ⟨rfl, hL, hLl, rfl⟩
    rintro k2 ⟨L2, P2⟩ ⟨hP2, hL2, hL2l, hk2⟩ X2 hX2
    simp only at hP2 hL2 hL2l hk2 ⊢
    subst hP2
    refine ⟨q, hq, fun h => ⟨by simp; omega, ?_⟩, fun h => ?_⟩
    · have h' : (L2.length : Int) ≤ q := by simpa using h
      refine hX2 (201 - (L2 ++ [[]]).length) _ (by simp; omega) ⟨rfl, by simp; omega, fun l hl => ?_, rfl⟩
      rcases List.mem_append.1 hl with h | h
      · exact hL2l l h
      · simp at h; rw [h]; simp
    · have h' : q < L2.length := by simpa using h
      obtain ⟨y, hy, hyg⟩ := JZ (l := L2) (n := q) (by omega) h'
      have hyl := hL2l y (List.mem_of_getElem? hyg)
      refine ⟨q, hq, q, hq, y, hy, by omega, by simp; omega, y, hy, ?_⟩
      rw [Zt (by omega)]
      refine hX (P2.length - (j + 1)) _ (by omega) ⟨j + 1, by simp, by omega, rfl, rfl, by simpa using hL2, fun l hl => ?_⟩
      rcases List.mem_or_eq_of_mem_set hl with h | h
      · have := hL2l l h; omega
      · rw [h]; simp; omega
  · obtain ⟨v26, e26, a26, b26⟩ := FS L c.fg c.fa8 a2 a3 (by omega) (fun l hl => by have := hLl l hl; omega) h3 hp
    exact ⟨v26, e26, a26, b26⟩
def zSk : Qa := Qa.mk (Q6.mk (0) (0) (0) (0)) (Qo.mk (0) (0) (false)) (Q9.mk (0) (0) (0) ([] : (List Int)) (false)) (Qj.mk (0) (0) ([] : (List Int))) (Qs.mk (0) (0) ([] : (List Q1)) (false)) (Qb.mk (0) (0) (0) ([] : (List Q1)) (false)) (Qk.mk (0) (0) (0) ([] : (List (List ByteArray))) (false))
theorem H5 : I7 zSk := by simp [I7, zSk]
theorem Ff (s : Qa) (x : Qi) (a2 : List Int) (a3 : Int) (h : I7 s) (h2 : a2.length ≤ 1000000) : ∃ v, Xq s x a2 a3 v ∧ I7 v.1 := by
  refine F0 (Post := fun v => I7 v.1) ?_
  unfold Vb
  simp only [jn]
  obtain ⟨v2, e2, _⟩ := UG s h
  obtain ⟨v4, e4, _⟩ := ZY x
  obtain ⟨z1, z2, z3, z4, z5, z6⟩ := h
  refine ⟨v2, e2, fun _ => H5, fun _ => ⟨v4, e4, fun _ => H5, fun _ => ⟨_, rfl, fun _ => H5, fun _ => ?_⟩⟩⟩
  obtain ⟨u1, t1⟩ := Ce s.fw x
  obtain ⟨u2, t2, q2⟩ := Aq s.fc x
  obtain ⟨u3, t3, q3⟩ := Bj s.fy x
  obtain ⟨u4, t4, q4⟩ := DF s.fa3 x
  obtain ⟨u5, t5, q5⟩ := Ar s.ff x
  obtain ⟨u6, t6, q6, q7⟩ := Cf s.fp x a2 a3 h2
  refine ⟨fun _ => ⟨u1, t1, z1, z2, z3, z4, z5, z6⟩, fun _ => ⟨fun _ => ⟨u2, t2, ?_, z2, z3, z4, z5, z6⟩, fun _ => ⟨fun _ => ⟨u3, t3, z1, ?_, z3, z4, z5, z6⟩, fun _ => ⟨fun _ => ⟨u4, t4, z1, z2, ?_, z4, z5, z6⟩, fun _ => ⟨fun _ => ⟨u5, t5, z1, z2, z3, ?_, z5, z6⟩, fun _ => ⟨u6, t6, z1, z2, z3, z4, ?_, ?_⟩⟩⟩⟩⟩⟩
  · simp only; omega
  · simp only; omega
  · simp only; omega
  · simp only; omega
  · simp only; omega
  · intro l hl; have := q7 l hl; omega
theorem Cg (a b d : Int) : ∃ v, Jy a b d v ∧ v.1.fa7.length ≤ 1000 := by
  refine BX (Post := fun v => v.1.fa7.length ≤ 1000) ?_
  unfold KL
  simp only [ZF, exists_eq_left, Jk]
  refine ⟨_, fun _ => rfl, fun _ => by simp, fun h => ?_⟩
  have h' : (1 ≤ a ∧ a ≤ 8) ∧ 1 ≤ b ∧ b ≤ 64 := by simpa [wI] using h
  have hm := H0 h'.1 h'.2
  rw [Zt (by omega)]
  exact ⟨⟨by omega, by omega⟩, by simp; omega⟩
theorem DG (a b : Int) : ∃ v, V9 a b v ∧ v.1.f4.length ≤ 1000 := by
  refine Dn (Post := fun v => v.1.f4.length ≤ 1000) ?_
  unfold Js
  simp only [ZF, exists_eq_left]
  refine ⟨fun _ => by simp, fun h => ?_⟩
  have h' : 2 ≤ a ∧ a ≤ 8 := by simpa [wI] using h
  have hm := Nq h'
  exact ⟨(B6 _).1, ⟨by omega, by omega⟩, by simp; omega⟩
theorem FT (a : Int) : ∃ v, XV a v ∧ v.1.fh.length ≤ 1000 := by
  refine Fx (Post := fun v => v.1.fh.length ≤ 1000) ?_
  unfold VM
  simp only [ZF, exists_eq_left]
  exact ⟨fun _ => by simp, fun _ => by simp⟩
theorem Ch (a : Int) : ∃ v, Jz a v ∧ v.1.fh.length ≤ 1000 := by
  refine BZ (Post := fun v => v.1.fh.length ≤ 1000) ?_
  unfold KM
  simp only [ZF, exists_eq_left]
  exact ⟨fun _ => by simp, fun _ => by simp⟩
theorem Eg (a : Int) : ∃ v, VG a v ∧ v.1.fx = [] := by
  refine E6 (Post := fun v => v.1.fx = []) ?_
  unfold JN
  simp only [ZF, exists_eq_left]
  exact ⟨fun _ => by simp, fun _ => by simp⟩
theorem I8 (p : Q6) : ∃ v, Wo p v ∧ I7 v.1 := by
  refine HQ (Post := fun v => I7 v.1) ?_
  unfold Yp
  simp only [jn]
  obtain ⟨u2, t2, q2⟩ := Cg p.fq p.fg p.fu
  obtain ⟨u3, t3, q3⟩ := DG p.fg p.fu
  obtain ⟨u4, t4, q4⟩ := FT p.fg
  obtain ⟨u5, t5, q5⟩ := Ch p.fg
  obtain ⟨u6, t6, q6⟩ := Eg p.fg
  refine ⟨_, VC p, fun _ => H5, fun _ => ⟨fun _ => ⟨u2, t2, ?_⟩, fun _ => ⟨fun _ => ⟨u3, t3, ?_⟩, fun _ => ⟨fun _ => ⟨u4, t4, ?_⟩, fun _ => ⟨fun _ => ⟨u5, t5, ?_⟩, fun _ => ⟨fun _ => ⟨u6, t6, ?_⟩, fun _ => ?_⟩⟩⟩⟩⟩⟩ <;> simp [I7] <;> try omega
  rw [q6]; simp
theorem I9 (p : Q6) (l : List Qi) (cs : List Int) (hl : l.length ≤ 1000000) (hc : cs.length ≤ 1000000) : ∃ s, Wq p l cs s ∧ I7 s := by
  refine HY (Post := fun s => I7 s) ?_
  unfold Yt
  simp only [jn]
  obtain ⟨v1, e1, z⟩ := I8 p
  refine ⟨v1, e1, ?_⟩
  refine Kl (I := fun k s => ∃ j : Nat, s.2.1 = (j : Int) ∧ j ≤ l.length ∧ k = l.length - j ∧ I7 (Qa.mk (Q6.mk (s.2.2.1) (s.2.2.2.1) (s.2.2.2.2.1) (s.2.2.2.2.2.1)) (Qo.mk (s.2.2.2.2.2.2.1) (s.2.2.2.2.2.2.2.1) (s.2.2.2.2.2.2.2.2.1)) (Q9.mk (s.2.2.2.2.2.2.2.2.2.1) (s.2.2.2.2.2.2.2.2.2.2.1) (s.2.2.2.2.2.2.2.2.2.2.2.1) (s.2.2.2.2.2.2.2.2.2.2.2.2.1) (s.2.2.2.2.2.2.2.2.2.2.2.2.2.1)) (Qj.mk (s.2.2.2.2.2.2.2.2.2.2.2.2.2.2.1) (s.2.2.2.2.2.2.2.2.2.2.2.2.2.2.2.1) (s.2.2.2.2.2.2.2.2.2.2.2.2.2.2.2.2.1)) (Qs.mk (s.2.2.2.2.2.2.2.2.2.2.2.2.2.2.2.2.2.1) (s.2.2.2.2.2.2.2.2.2.2.2.2.2.2.2.2.2.2.1) (s.2.2.2.2.2.2.2.2.2.2.2.2.2.2.2.2.2.2.2.1) (s.2.2.2.2.2.2.2.2.2.2.2.2.2.2.2.2.2.2.2.2.1)) (Qb.mk (s.2.2.2.2.2.2.2.2.2.2.2.2.2.2.2.2.2.2.2.2.2.1) (s.2.2.2.2.2.2.2.2.2.2.2.2.2.2.2.2.2.2.2.2.2.2.1) (s.2.2.2.2.2.2.2.2.2.2.2.2.2.2.2.2.2.2.2.2.2.2.2.1) (s.2.2.2.2.2.2.2.2.2.2.2.2.2.2.2.2.2.2.2.2.2.2.2.2.1) (s.2.2.2.2.2.2.2.2.2.2.2.2.2.2.2.2.2.2.2.2.2.2.2.2.2.1)) (Qk.mk (s.2.2.2.2.2.2.2.2.2.2.2.2.2.2.2.2.2.2.2.2.2.2.2.2.2.2.1) (s.2.2.2.2.2.2.2.2.2.2.2.2.2.2.2.2.2.2.2.2.2.2.2.2.2.2.2.1) (s.2.2.2.2.2.2.2.2.2.2.2.2.2.2.2.2.2.2.2.2.2.2.2.2.2.2.2.2.1) (s.2.2.2.2.2.2.2.2.2.2.2.2.2.2.2.2.2.2.2.2.2.2.2.2.2.2.2.2.2.1) (s.2.2.2.2.2.2.2.2.2.2.2.2.2.2.2.2.2.2.2.2.2.2.2.2.2.2.2.2.2.2)))) ?_ (k := l.length) ⟨0, rfl, by omega, by omega, z⟩
  rintro k s ⟨j, hj, hj1, hk, hz⟩ X hX
  rw [hj]
  refine ⟨fun h => ?_, fun _ => hz⟩
  have hj2 : j < l.length := by simp at h; omega
  obtain ⟨x, hx⟩ := Yg hj2
  obtain ⟨v7, e7, z7⟩ := Ff _ x cs s.1 hz hc
  refine ⟨x, hx, v7, e7, ?_⟩
  rw [Zt (by omega)]
  exact hX (l.length - (j + 1)) _ (by omega) ⟨j + 1, by simp, by omega, rfl, z7⟩
theorem FU (l : List Int) (hl : l.length ≤ 4611686018427387904) : ∃ s, XZ l s ∧ I7 s := by
  refine FH (Post := fun s => I7 s) ?_
  unfold VT
  simp only [bA7]
  obtain ⟨v1, e1, _⟩ := WN l 0 hl (by omega) (by omega)
  obtain ⟨v2, e2, _⟩ := BC v1
  obtain ⟨v4, e4, _⟩ := WN l 1 hl (by omega) (by omega)
  obtain ⟨v5, e5, l5, _⟩ := D2 (List.drop (Int.toNat (XU (((l).length : Int)) (2))) l) (v4 % 8) (by simp; omega) (by omega) (by omega)
  obtain ⟨v6, e6, _⟩ := WN l 9 hl (by omega) (by omega)
  obtain ⟨v7, e7, l7⟩ := D3 v6
  obtain ⟨v8, e8, z8⟩ := I9 v2 v5 v7 (by omega) (by omega)
  exact ⟨v1, e1, v2, e2, ⟨by unfold XU; split <;> omega, by unfold XU; split <;> omega⟩, v4, e4, v5, e5, v6, e6, v7, e7, v8, e8, z8⟩
theorem Zc (a : Int) (h : a < 18446744073709551616) : ∃ r, Z0 a r ∧ r.length ≤ 9 := by
  refine HL (Post := fun r => r.length ≤ 9) ?_
  unfold Yl
  simp only [jn, shr8]
  refine ⟨fun _ => by simp, fun _ => ?_⟩
  refine Kl (I := fun k s => s.2.length ≤ 8 ∧ k = 8 - s.2.length ∧ s.1 < 256 ^ (8 - s.2.length)) ?_ (k := 8) ⟨by simp, by simp, by simpa using h⟩
  rintro k ⟨x, l⟩ ⟨hl, hk, hx⟩ X hX
  simp only at hl hk hx ⊢
  refine ⟨fun hp => ?_, fun _ => ⟨by simp; omega, by simp; omega⟩⟩
  have hp' : 0 < x := by simpa using hp
  have hl7 : l.length < 8 := by
    rcases Nat.lt_or_ge l.length 8 with h | h
    · exact h
    · have : l.length = 8 := by omega
      rw [this] at hx; simp at hx; omega
  refine ⟨by simp; omega, hX (8 - ([IntKind.u8.wrap x] ++ l).length) _ (by simp; omega) ⟨by simp; omega, rfl, ?_⟩⟩
  have e : 8 - l.length = (8 - ([IntKind.u8.wrap x] ++ l).length) + 1 := by simp; omega
  rw [e, Int.pow_succ] at hx
  generalize (256 : Int) ^ (8 - ([IntKind.u8.wrap x] ++ l).length) = M at hx ⊢
  show x / 256 < M
  omega
theorem Eh (l : List Int) (hl : l.length ≤ 4611686018427387904) : ∃ r, VF l r := by
  obtain ⟨v, hv, _⟩ := E4 (Post := fun _ => True) (a0 := l) (by
    unfold JM
    simp only [jn]
    refine Kl (I := fun k s => ∃ j : Nat, s.2.2 = (j : Int) ∧ j ≤ l.length ∧ k = l.length - j) ?_ (k := l.length) ⟨0, rfl, by omega, by omega⟩
    rintro k ⟨a, b, i⟩ ⟨j, hj, hj1, hk⟩ X hX
    simp only at hj ⊢
    subst hj
    refine ⟨fun h => ?_, fun _ => trivial⟩
    have hj2 : j < l.length := by simp at h; omega
    obtain ⟨x, hx⟩ := Yg hj2
    refine ⟨x, hx, ?_⟩
    rw [Zt (by omega)]
    exact hX (l.length - (j + 1)) _ (by omega) ⟨j + 1, by simp, by omega, rfl⟩)
  exact ⟨v, hv⟩
theorem D7 (t : Int) (l : List Int) : ∃ r, Vx t l r ∧ r.1.length ≤ l.length + 14 := by
  refine GJ (Post := fun r => r.1.length ≤ l.length + 14) ?_
  unfold XE
  refine ⟨fun _ => by simp, fun h => ?_⟩
  have h' : (l.length : Int) ≤ 1048576 := by simpa using h
  obtain ⟨v2, e2, l2⟩ := Zc (l.length : Int) (by omega)
  obtain ⟨v5, e5⟩ := Eh (([t] ++ v2) ++ l) (by simp; omega)
  exact ⟨v2, e2, by simp; omega, by simp; omega, v5, e5, by simp; omega, by simp; omega⟩
theorem Ws (b : Bool) : ∃ r, JQ b r ∧ r.length = 1 := by
  refine HN (Post := fun r => r.length = 1) ?_
  exact ⟨fun _ => rfl, fun _ => rfl⟩
theorem DX (a : Int) : ∃ r, Yn a r ∧ r.length ≤ 8 := by
  refine HO (Post := fun r => r.length ≤ 8) ?_
  unfold Ym
  simp only [jn]
  refine Kl (I := fun k s => -1 ≤ s.2 ∧ (s.1.length : Int) = 7 - s.2 ∧ k = (s.2 + 1).toNat) ?_ (k := 8) ⟨by decide, rfl, rfl⟩
  rintro k ⟨l, i⟩ ⟨h0, h1, hk⟩ X hX
  simp only at h0 h1 hk ⊢
  refine ⟨fun h => ?_, fun h => by simp at h; omega⟩
  have hi : 0 ≤ i := by simpa using h
  refine ⟨(B6 _).1, by simp; omega, ?_⟩
  rw [Zt (n := i - 1) (by omega)]
  exact hX (i - 1 + 1).toNat _ (by omega) ⟨by simp only; omega, by simp; omega, rfl⟩
theorem AX (s : ByteArray) (h : s.size ≤ 32) : ∃ r, Xl s r ∧ r.length ≤ 41 := by
  refine HP (Post := fun r => r.length ≤ 41) ?_
  unfold Yo
  obtain ⟨v, e, l⟩ := Zc (s.size : Int) (by omega)
  have hs : (sI s).length = s.size := FW s
  exact ⟨v, e, by omega, by simp; omega⟩
theorem Ci (t : Qo) : ∃ r, Jw t r ∧ r.1.length ≤ 60000 := by
  refine BS (Post := fun r => r.1.length ≤ 60000) ?_
  unfold KI
  obtain ⟨v2, e2, ok⟩ := Xv t
  refine ⟨v2, e2, fun _ => by simp, fun h2 => ?_⟩
  have ok := ok (by simpa using h2)
  obtain ⟨v3, e3, l3⟩ := Zc t.fo (by omega)
  obtain ⟨v4, e4, l4⟩ := Zc t.f8 (by omega)
  obtain ⟨v6, e6, l6⟩ := Ws t.fa
  exact ⟨v3, e3, v4, e4, by omega, v6, e6, by simp; omega, by simp; omega⟩
theorem As (c : Q9) : ∃ r, Kx c r ∧ r.1.length ≤ 60000 := by
  refine Ad (Post := fun r => r.1.length ≤ 60000) ?_
  unfold K1
  simp only [jn]
  obtain ⟨v2, e2, ok⟩ := Vn c
  refine ⟨v2, e2, fun _ => by simp, fun h2 => ?_⟩
  obtain ⟨hd, hs, hl, hx⟩ := ok (by simpa using h2)
  have hm := H0 hd hs
  obtain ⟨v3, e3, l3⟩ := Zc c.fq (by omega)
  obtain ⟨v4, e4, l4⟩ := Zc c.fg (by omega)
  obtain ⟨v6, e6, l6⟩ := DX c.fu
  refine ⟨v3, e3, v4, e4, by omega, v6, e6, by simp; omega, ?_⟩
  refine Kl (I := fun k s => ∃ j : Nat, s.2 = (j : Int) ∧ j ≤ c.fa7.length ∧ k = c.fa7.length - j ∧ s.1.length ≤ 26 + 9 * j) ?_ (k := c.fa7.length) ⟨0, rfl, by omega, by omega, by simp; omega⟩
  rintro k ⟨a, i⟩ ⟨j, hj, hj1, hk, ha⟩ X hX
  simp only at hj ha ⊢
  subst hj
  refine ⟨fun h => ?_, fun _ => ?_⟩
  · have hj2 : j < c.fa7.length := by simp at h; omega
    obtain ⟨x, hx1, hg⟩ := JZ (l := c.fa7) (n := (j : Int)) (by omega) (by omega)
    have hxr := hx x (List.mem_of_getElem? hg)
    obtain ⟨v13, e13, l13⟩ := Zc x (by omega)
    refine ⟨x, hx1, v13, e13, by omega, ?_⟩
    rw [Zt (by omega)]
    exact hX (c.fa7.length - (j + 1)) _ (by omega) ⟨j + 1, by simp, by omega, rfl, by simp; omega⟩
  · obtain ⟨v15, e15, l15⟩ := Ws c.fa
    exact ⟨v15, e15, by omega, by simp; omega⟩
theorem Bl (c : Qj) : ∃ r, Je c r ∧ r.1.length ≤ 60000 := by
  refine B9 (Post := fun r => r.1.length ≤ 60000) ?_
  unfold Ks
  simp only [jn]
  obtain ⟨v2, e2, ok⟩ := Xa c
  refine ⟨v2, e2, fun _ => by simp, fun h2 => ?_⟩
  obtain ⟨hp, hl, hlen, hx⟩ := ok (by simpa using h2)
  obtain ⟨v3, e3, l3⟩ := Zc c.f7 (by omega)
  obtain ⟨v4, e4, l4⟩ := DX c.fu
  refine ⟨v3, e3, v4, e4, by omega, ?_⟩
  refine Kl (I := fun k s => ∃ j : Nat, s.2 = (j : Int) ∧ j ≤ c.f4.length ∧ k = c.f4.length - j ∧ s.1.length ≤ 17 + j) ?_ (k := c.f4.length) ⟨0, rfl, by omega, by omega, by simp; omega⟩
  rintro k ⟨a, i⟩ ⟨j, hj, hj1, hk, ha⟩ X hX
  simp only at hj ha ⊢
  subst hj
  refine ⟨fun h => ?_, fun _ => by omega⟩
  have hj2 : j < c.f4.length := by simp at h; omega
  obtain ⟨x, hx1⟩ := Yg hj2
  refine ⟨x, hx1, by simp; omega, ?_⟩
  rw [Zt (by omega)]
  exact hX (c.f4.length - (j + 1)) _ (by omega) ⟨j + 1, by simp, by omega, rfl, by simp; omega⟩
theorem DI (c : Qs) : ∃ r, V7 c r ∧ r.1.length ≤ 60000 := by
  refine Dl (Post := fun r => r.1.length ≤ 60000) ?_
  unfold Jr
  simp only [jn]
  obtain ⟨v2, e2, ok⟩ := Yf c
  refine ⟨v2, e2, fun _ => by simp, fun h2 => ?_⟩
  obtain ⟨hs, ht, hl, hx⟩ := ok (by simpa using h2)
  obtain ⟨v3, e3, l3⟩ := Zc c.fg (by omega)
  obtain ⟨v4, e4, l4⟩ := Zc c.fo (by omega)
  obtain ⟨v6, e6, l6⟩ := Ws c.fa
  obtain ⟨v8, e8, l8⟩ := Zc (c.fh.length : Int) (by omega)
  refine ⟨v3, e3, v4, e4, by omega, v6, e6, by simp; omega, v8, e8, by simp; omega, ?_⟩
  refine Kl (I := fun k s => ∃ j : Nat, s.2 = (j : Int) ∧ j ≤ c.fh.length ∧ k = c.fh.length - j ∧ s.1.length ≤ 28 + 59 * j) ?_ (k := c.fh.length) ⟨0, rfl, by omega, by omega, by simp; omega⟩
  rintro k ⟨a, i⟩ ⟨j, hj, hj1, hk, ha⟩ X hX
  simp only at hj ha ⊢
  subst hj
  refine ⟨fun h => ?_, fun _ => by omega⟩
  have hj2 : j < c.fh.length := by simp at h; omega
  obtain ⟨x, hx1, hg⟩ := JZ (l := c.fh) (n := (j : Int)) (by omega) (by omega)
  obtain ⟨k1, k2, k3⟩ := hx x (List.mem_of_getElem? hg)
  obtain ⟨v15, e15, l15⟩ := AX x.fa2 (by omega)
  obtain ⟨v18, e18, l18⟩ := Zc x.f0 (by omega)
  obtain ⟨v21, e21, l21⟩ := Zc x.fc0 (by omega)
  refine ⟨x, hx1, v15, e15, by omega, x, hx1, v18, e18, by simp; omega, x, hx1, v21, e21, by simp; omega, ?_⟩
  rw [Zt (by omega)]
  exact hX (c.fh.length - (j + 1)) _ (by omega) ⟨j + 1, by simp, by omega, rfl, by simp; omega⟩
theorem Au (c : Qb) : ∃ r, Ky c r ∧ r.1.length ≤ 60000 := by
  refine Af (Post := fun r => r.1.length ≤ 60000) ?_
  unfold K2
  simp only [jn]
  obtain ⟨v2, e2, ok⟩ := Vo c
  refine ⟨v2, e2, fun _ => by simp, fun h2 => ?_⟩
  obtain ⟨hs, ht, hlo, hl, hx⟩ := ok (by simpa using h2)
  obtain ⟨v3, e3, l3⟩ := Zc c.fg (by omega)
  obtain ⟨v4, e4, l4⟩ := Zc c.fo (by omega)
  obtain ⟨v5, e5, l5⟩ := Zc c.fb1 (by omega)
  obtain ⟨v6, e6, l6⟩ := Ws c.fa
  obtain ⟨v8, e8, l8⟩ := Zc (c.fh.length : Int) (by omega)
  refine ⟨v3, e3, v4, e4, by omega, v5, e5, by simp; omega, v6, e6, by simp; omega, v8, e8, by simp; omega, ?_⟩
  refine Kl (I := fun k s => ∃ j : Nat, s.2 = (j : Int) ∧ j ≤ c.fh.length ∧ k = c.fh.length - j ∧ s.1.length ≤ 37 + 50 * j) ?_ (k := c.fh.length) ⟨0, rfl, by omega, by omega, by simp; omega⟩
  rintro k ⟨a, i⟩ ⟨j, hj, hj1, hk, ha⟩ X hX
  simp only at hj ha ⊢
  subst hj
  refine ⟨fun h => ?_, fun _ => by omega⟩
  have hj2 : j < c.fh.length := by simp at h; omega
  obtain ⟨x, hx1, hg⟩ := JZ (l := c.fh) (n := (j : Int)) (by omega) (by omega)
  obtain ⟨k1, k2, k3⟩ := hx x (List.mem_of_getElem? hg)
  obtain ⟨v15, e15, l15⟩ := AX x.fa2 (by omega)
  obtain ⟨v18, e18, l18⟩ := Zc x.f0 (by omega)
  refine ⟨x, hx1, v15, e15, by omega, x, hx1, v18, e18, by simp; omega, ?_⟩
  rw [Zt (by omega)]
  exact hX (c.fh.length - (j + 1)) _ (by omega) ⟨j + 1, by simp, by omega, rfl, by simp; omega⟩
theorem Cj (c : Qk) : ∃ r, Jx c r ∧ r.1.length ≤ 60000 := by
  refine BV (Post := fun r => r.1.length ≤ 60000) ?_
  unfold KJ
  simp only [jn]
  obtain ⟨v2, e2, ok⟩ := Xw c
  refine ⟨v2, e2, fun _ => by simp, fun h2 => ?_⟩
  obtain ⟨hs, ht, hlo, hl, hx⟩ := ok (by simpa using h2)
  obtain ⟨v3, e3, l3⟩ := Zc c.fg (by omega)
  obtain ⟨v4, e4, l4⟩ := Zc c.fo (by omega)
  obtain ⟨v5, e5, l5⟩ := Zc c.fa8 (by omega)
  obtain ⟨v6, e6, l6⟩ := Ws c.fa
  obtain ⟨v8, e8, l8⟩ := Zc (c.fx.length : Int) (by omega)
  refine ⟨v3, e3, v4, e4, by omega, v5, e5, by simp; omega, v6, e6, by simp; omega, v8, e8, by simp; omega, ?_⟩
  refine Kl (I := fun k s => ∃ j : Nat, s.2 = (j : Int) ∧ j ≤ c.fx.length ∧ k = c.fx.length - j ∧ s.1.length ≤ 37 + 1280 * j) ?_ (k := c.fx.length) ⟨0, rfl, by omega, by omega, by simp; omega⟩
  rintro k ⟨a, i⟩ ⟨j, hj, hj1, hk, ha⟩ X hX
  simp only at hj ha ⊢
  subst hj
  refine ⟨fun h => ?_, fun _ => by omega⟩
  have hj2 : j < c.fx.length := by simp at h; omega
  obtain ⟨x, hx1, hg⟩ := JZ (l := c.fx) (n := (j : Int)) (by omega) (by omega)
  obtain ⟨k1, k2⟩ := hx x (List.mem_of_getElem? hg)
  obtain ⟨v17, e17, l17⟩ := Zc (x.length : Int) (by omega)
  refine ⟨x, hx1, v17, e17, by omega, ?_⟩
  refine Kl (I := fun k s => ∃ m : Nat, s.2 = (m : Int) ∧ m ≤ x.length ∧ k = x.length - m ∧ s.1.length ≤ 37 + 1280 * j + 9 + 41 * m) ?_ (k := x.length) ⟨0, rfl, by omega, by omega, by simp; omega⟩
  rintro kk ⟨b, ii⟩ ⟨m, hm, hm1, hkk, hb⟩ X2 hX2
  simp only at hm hb ⊢
  subst hm
  refine ⟨x, hx1, fun h3 => ?_, fun _ => ?_⟩
  · have hm2 : m < x.length := by simp at h3; omega
    obtain ⟨y, hy1, hg2⟩ := JZ (l := x) (n := (m : Int)) (by omega) (by omega)
    have hy := k2 y (List.mem_of_getElem? hg2)
    obtain ⟨v25, e25, l25⟩ := AX y (by omega)
    refine ⟨x, hx1, y, hy1, v25, e25, by omega, ?_⟩
    rw [Zt (by omega)]
    exact hX2 (x.length - (m + 1)) _ (by omega) ⟨m + 1, by simp, by omega, rfl, by simp; omega⟩
  · rw [Zt (by omega)]
    exact hX (c.fx.length - (j + 1)) _ (by omega) ⟨j + 1, by simp, by omega, rfl, by simp only; omega⟩
theorem Fg (s : Qa) (h : I7 s) : ∃ r, Xm s r ∧ r.1.length ≤ 60100 := by
  refine EV (Post := fun r => r.1.length ≤ 60100) ?_
  unfold V8
  simp only [jn]
  obtain ⟨v2, e2, hk⟩ := UG s h
  refine ⟨v2, e2, fun _ => by simp, fun h2 => ?_⟩
  have hk := hk (by simpa using h2)
  obtain ⟨v10, e10, l10⟩ := Zc s.fb.fm (by omega)
  have fin : ∀ p : List Int, p.length ≤ 60000 → ∃ (v10 : (List Int)), Z0 (s.fb.fm) v10 ∧ (((v10).length + (p).length) * 1 ≤ 140737488355328) ∧ ∃ (v12 : (List Int) × Int), Vx (83) ((v10) ++ (p)) v12 ∧ v12.1.length ≤ 60100 := by
    intro p hp
    obtain ⟨v12, e12, l12⟩ := D7 83 (v10 ++ p)
    exact ⟨v10, e10, by omega, v12, e12, by simp at l12; omega⟩
  obtain ⟨u1, t1, q1⟩ := Ci s.fw
  obtain ⟨u2, t2, q2⟩ := As s.fc
  obtain ⟨u3, t3, q3⟩ := Bl s.fy
  obtain ⟨u4, t4, q4⟩ := DI s.fa3
  obtain ⟨u5, t5, q5⟩ := Au s.ff
  obtain ⟨u6, t6, q6⟩ := Cj s.fp
  exact ⟨fun _ => ⟨u1, t1, fin _ q1⟩, fun _ => ⟨fun _ => ⟨u2, t2, fin _ q2⟩, fun _ => ⟨fun _ => ⟨u3, t3, fin _ q3⟩, fun _ => ⟨fun _ => ⟨u4, t4, fin _ q4⟩, fun _ => ⟨fun _ => ⟨u5, t5, fin _ q5⟩, fun _ => ⟨u6, t6, fin _ q6⟩⟩⟩⟩⟩⟩
theorem FV (s : Qa) (h : I7 s) : ∃ r, Wa s r ∧ r.length ≤ 65536 := by
  obtain ⟨v1, e1, l1⟩ := Fg s h
  obtain ⟨v2, e2, l2⟩ := D7 88 v1.1
  exact ⟨_, ⟨v1, e1, v2.1, ⟨v2, e2, rfl⟩, rfl⟩, by omega⟩
theorem Xy {x : Qp} (hk : Kg x.fm) (h : ∀ f, f < 14 → if ZS x.fm f = true then Z3 x f = 0 else Ck (Uv x) f = true) : Jl x = 0 := by
  have z : UJ (UW (Uv x).kind (Z3 x)) = 0 := by
    refine I1 fun i hi => ?_
    rw [F3] at hi
    rw [Lx _ _ hi]
    have := h i hi
    show (if ZS x.fm i = true then Z3 x i else 0) = 0
    split
    · rw [if_pos (by assumption)] at this; exact this
    · rfl
  unfold Jl FK
  rw [if_neg (by simpa [Uv] using hk), z, if_neg (by simp), if_pos]
  rw [List.all_eq_true]
  intro f hf
  have := h f (by simpa using hf)
  show (ZS x.fm f || Ck (Uv x) f) = true
  cases hm : ZS x.fm f
  · rw [hm] at this; simpa using this
  · rfl
theorem Ia : (ByteArray.empty).toList = [] := Ye
theorem vk1 (n : ByteArray) (p : Q6) (hn : CQ n = true) (hp : U2 p.fm p.fg p.fq p.fu = 0) : Jl (Qp.mk (1) (n) (ByteArray.empty) ([] : (List ByteArray)) p ([] : (List Qi)) ([] : (List Int)) (0) (0) (0) (0) (0) (0) (Qu.mk (0) (ByteArray.empty) (0) (0) (0)) ([] : (List Int))) = 0 := by
  refine Xy (show Kg 1 from ⟨by decide, by decide⟩) fun f hf => ?_
  rcases YH hf with rfl | rfl | rfl | rfl | rfl | rfl | rfl | rfl | rfl | rfl | rfl | rfl | rfl | rfl <;> simp [ZS, Yc, Z3, Ck, Uv, Ca, Ia, hn, hp]
theorem vk2 (n : ByteArray) (hn : CQ n = true) : Jl (Qp.mk (2) (n) (ByteArray.empty) ([] : (List ByteArray)) (Q6.mk (0) (0) (0) (0)) ([] : (List Qi)) ([] : (List Int)) (0) (0) (0) (0) (0) (0) (Qu.mk (0) (ByteArray.empty) (0) (0) (0)) ([] : (List Int))) = 0 := by
  refine Xy (show Kg 2 from ⟨by decide, by decide⟩) fun f hf => ?_
  rcases YH hf with rfl | rfl | rfl | rfl | rfl | rfl | rfl | rfl | rfl | rfl | rfl | rfl | rfl | rfl <;> simp [ZS, Yc, Z3, Ck, Uv, Ca, Ia, hn]
theorem vk3 (n m : ByteArray) (hn : CQ n = true) (hm : CQ m = true) : Jl (Qp.mk (3) (n) (m) ([] : (List ByteArray)) (Q6.mk (0) (0) (0) (0)) ([] : (List Qi)) ([] : (List Int)) (0) (0) (0) (0) (0) (0) (Qu.mk (0) (ByteArray.empty) (0) (0) (0)) ([] : (List Int))) = 0 := by
  refine Xy (show Kg 3 from ⟨by decide, by decide⟩) fun f hf => ?_
  rcases YH hf with rfl | rfl | rfl | rfl | rfl | rfl | rfl | rfl | rfl | rfl | rfl | rfl | rfl | rfl <;> simp [ZS, Yc, Z3, Ck, Uv, Ca, Ia, hn, hm]
theorem vk4   : Jl (Qp.mk (4) (ByteArray.empty) (ByteArray.empty) ([] : (List ByteArray)) (Q6.mk (0) (0) (0) (0)) ([] : (List Qi)) ([] : (List Int)) (0) (0) (0) (0) (0) (0) (Qu.mk (0) (ByteArray.empty) (0) (0) (0)) ([] : (List Int))) = 0 := by
  refine Xy (show Kg 4 from ⟨by decide, by decide⟩) fun f hf => ?_
  rcases YH hf with rfl | rfl | rfl | rfl | rfl | rfl | rfl | rfl | rfl | rfl | rfl | rfl | rfl | rfl <;> simp [ZS, Yc, Z3, Ck, Uv, Ca, Ia]
theorem vk5 (n : ByteArray) (q : Qu) (hn : CQ n = true) (hq : Ao q.fm q.fa2 q.f0 q.fb9 q.fb8 = 0) : Jl (Qp.mk (5) (n) (ByteArray.empty) ([] : (List ByteArray)) (Q6.mk (0) (0) (0) (0)) ([] : (List Qi)) ([] : (List Int)) (0) (0) (0) (0) (0) (0) q ([] : (List Int))) = 0 := by
  refine Xy (show Kg 5 from ⟨by decide, by decide⟩) fun f hf => ?_
  rcases YH hf with rfl | rfl | rfl | rfl | rfl | rfl | rfl | rfl | rfl | rfl | rfl | rfl | rfl | rfl <;> simp [ZS, Yc, Z3, Ck, Uv, Ca, Ia, hn, hq]
theorem vk6 (n : ByteArray) (its : List Qi) (cs : List Int) (hn : CQ n = true) (hi : Hc its = 0) (hc : CW cs.length 64 = 0) : Jl (Qp.mk (6) (n) (ByteArray.empty) ([] : (List ByteArray)) (Q6.mk (0) (0) (0) (0)) its cs (0) (0) (0) (0) (0) (0) (Qu.mk (0) (ByteArray.empty) (0) (0) (0)) ([] : (List Int))) = 0 := by
  refine Xy (show Kg 6 from ⟨by decide, by decide⟩) fun f hf => ?_
  rcases YH hf with rfl | rfl | rfl | rfl | rfl | rfl | rfl | rfl | rfl | rfl | rfl | rfl | rfl | rfl <;> simp [ZS, Yc, Z3, Ck, Uv, Ca, Ia, hn, hi, hc]
theorem vk7 (n m : ByteArray) (cs : List Int) (hn : CQ n = true) (hm : CQ m = true) (hc : CW cs.length 64 = 0) : Jl (Qp.mk (7) (n) (m) ([] : (List ByteArray)) (Q6.mk (0) (0) (0) (0)) ([] : (List Qi)) cs (0) (0) (0) (0) (0) (0) (Qu.mk (0) (ByteArray.empty) (0) (0) (0)) ([] : (List Int))) = 0 := by
  refine Xy (show Kg 7 from ⟨by decide, by decide⟩) fun f hf => ?_
  rcases YH hf with rfl | rfl | rfl | rfl | rfl | rfl | rfl | rfl | rfl | rfl | rfl | rfl | rfl | rfl <;> simp [ZS, Yc, Z3, Ck, Uv, Ca, Ia, hn, hm, hc]
theorem vk8 (n m : ByteArray) (cs : List Int) (e s : Int) (hn : CQ n = true) (hm : CQ m = true) (hc : CW cs.length 64 = 0) (he : Wr e 1 1048576 = 0) (hs : Wr s 1 1048576 = 0) : Jl (Qp.mk (8) (n) (m) ([] : (List ByteArray)) (Q6.mk (0) (0) (0) (0)) ([] : (List Qi)) cs e s (0) (0) (0) (0) (Qu.mk (0) (ByteArray.empty) (0) (0) (0)) ([] : (List Int))) = 0 := by
  refine Xy (show Kg 8 from ⟨by decide, by decide⟩) fun f hf => ?_
  rcases YH hf with rfl | rfl | rfl | rfl | rfl | rfl | rfl | rfl | rfl | rfl | rfl | rfl | rfl | rfl <;> simp [ZS, Yc, Z3, Ck, Uv, Ca, Ia, hn, hm, hc, he, hs]
theorem vk9 (ns : List ByteArray) (hn : Hb ns = 0) : Jl (Qp.mk (9) (ByteArray.empty) (ByteArray.empty) ns (Q6.mk (0) (0) (0) (0)) ([] : (List Qi)) ([] : (List Int)) (0) (0) (0) (0) (0) (0) (Qu.mk (0) (ByteArray.empty) (0) (0) (0)) ([] : (List Int))) = 0 := by
  refine Xy (show Kg 9 from ⟨by decide, by decide⟩) fun f hf => ?_
  rcases YH hf with rfl | rfl | rfl | rfl | rfl | rfl | rfl | rfl | rfl | rfl | rfl | rfl | rfl | rfl <;> simp [ZS, Yc, Z3, Ck, Uv, Ca, Ia, hn]
theorem vk10 (h i : Int) (q : Qu) (hh : Wr h 0 3 = 0) (hi : Wr i 0 15 = 0) (hq : Ao q.fm q.fa2 q.f0 q.fb9 q.fb8 = 0) : Jl (Qp.mk (10) (ByteArray.empty) (ByteArray.empty) ([] : (List ByteArray)) (Q6.mk (0) (0) (0) (0)) ([] : (List Qi)) ([] : (List Int)) (0) (0) h i (0) (0) q ([] : (List Int))) = 0 := by
  refine Xy (show Kg 10 from ⟨by decide, by decide⟩) fun f hf => ?_
  rcases YH hf with rfl | rfl | rfl | rfl | rfl | rfl | rfl | rfl | rfl | rfl | rfl | rfl | rfl | rfl <;> simp [ZS, Yc, Z3, Ck, Uv, Ca, Ia, hh, hi, hq]
theorem vk11 (h : Int) (hh : Wr h 0 3 = 0) : Jl (Qp.mk (11) (ByteArray.empty) (ByteArray.empty) ([] : (List ByteArray)) (Q6.mk (0) (0) (0) (0)) ([] : (List Qi)) ([] : (List Int)) (0) (0) h (0) (0) (0) (Qu.mk (0) (ByteArray.empty) (0) (0) (0)) ([] : (List Int))) = 0 := by
  refine Xy (show Kg 11 from ⟨by decide, by decide⟩) fun f hf => ?_
  rcases YH hf with rfl | rfl | rfl | rfl | rfl | rfl | rfl | rfl | rfl | rfl | rfl | rfl | rfl | rfl <;> simp [ZS, Yc, Z3, Ck, Uv, Ca, Ia, hh]
theorem vk12 (h i : Int) (hh : Wr h 0 3 = 0) (hi : Wr i 0 15 = 0) : Jl (Qp.mk (12) (ByteArray.empty) (ByteArray.empty) ([] : (List ByteArray)) (Q6.mk (0) (0) (0) (0)) ([] : (List Qi)) ([] : (List Int)) (0) (0) h i (0) (0) (Qu.mk (0) (ByteArray.empty) (0) (0) (0)) ([] : (List Int))) = 0 := by
  refine Xy (show Kg 12 from ⟨by decide, by decide⟩) fun f hf => ?_
  rcases YH hf with rfl | rfl | rfl | rfl | rfl | rfl | rfl | rfl | rfl | rfl | rfl | rfl | rfl | rfl <;> simp [ZS, Yc, Z3, Ck, Uv, Ca, Ia, hh, hi]
theorem vk13 (c n : Int) (hc : Wr c 0 3 = 0) (hn : Wr n 0 32 = 0) : Jl (Qp.mk (13) (ByteArray.empty) (ByteArray.empty) ([] : (List ByteArray)) (Q6.mk (0) (0) (0) (0)) ([] : (List Qi)) ([] : (List Int)) (0) (0) (0) (0) c n (Qu.mk (0) (ByteArray.empty) (0) (0) (0)) ([] : (List Int))) = 0 := by
  refine Xy (show Kg 13 from ⟨by decide, by decide⟩) fun f hf => ?_
  rcases YH hf with rfl | rfl | rfl | rfl | rfl | rfl | rfl | rfl | rfl | rfl | rfl | rfl | rfl | rfl <;> simp [ZS, Yc, Z3, Ck, Uv, Ca, Ia, hc, hn]
theorem vk14 (c : Int) (hc : Wr c 0 3 = 0) : Jl (Qp.mk (14) (ByteArray.empty) (ByteArray.empty) ([] : (List ByteArray)) (Q6.mk (0) (0) (0) (0)) ([] : (List Qi)) ([] : (List Int)) (0) (0) (0) (0) c (0) (Qu.mk (0) (ByteArray.empty) (0) (0) (0)) ([] : (List Int))) = 0 := by
  refine Xy (show Kg 14 from ⟨by decide, by decide⟩) fun f hf => ?_
  rcases YH hf with rfl | rfl | rfl | rfl | rfl | rfl | rfl | rfl | rfl | rfl | rfl | rfl | rfl | rfl <;> simp [ZS, Yc, Z3, Ck, Uv, Ca, Ia, hc]
theorem vk15 (h i : Int) (hh : Wr h 0 3 = 0) (hi : Wr i 0 15 = 0) : Jl (Qp.mk (15) (ByteArray.empty) (ByteArray.empty) ([] : (List ByteArray)) (Q6.mk (0) (0) (0) (0)) ([] : (List Qi)) ([] : (List Int)) (0) (0) h i (0) (0) (Qu.mk (0) (ByteArray.empty) (0) (0) (0)) ([] : (List Int))) = 0 := by
  refine Xy (show Kg 15 from ⟨by decide, by decide⟩) fun f hf => ?_
  rcases YH hf with rfl | rfl | rfl | rfl | rfl | rfl | rfl | rfl | rfl | rfl | rfl | rfl | rfl | rfl <;> simp [ZS, Yc, Z3, Ck, Uv, Ca, Ia, hh, hi]
theorem vk16 (n : ByteArray) (d : List Int) (hn : CQ n = true) (hd : CW d.length 65536 = 0) : Jl (Qp.mk (16) (n) (ByteArray.empty) ([] : (List ByteArray)) (Q6.mk (0) (0) (0) (0)) ([] : (List Qi)) ([] : (List Int)) (0) (0) (0) (0) (0) (0) (Qu.mk (0) (ByteArray.empty) (0) (0) (0)) d) = 0 := by
  refine Xy (show Kg 16 from ⟨by decide, by decide⟩) fun f hf => ?_
  rcases YH hf with rfl | rfl | rfl | rfl | rfl | rfl | rfl | rfl | rfl | rfl | rfl | rfl | rfl | rfl <;> simp [ZS, Yc, Z3, Ck, Uv, Ca, Ia, hn, hd]
theorem vk17   : Jl (Qp.mk (17) (ByteArray.empty) (ByteArray.empty) ([] : (List ByteArray)) (Q6.mk (0) (0) (0) (0)) ([] : (List Qi)) ([] : (List Int)) (0) (0) (0) (0) (0) (0) (Qu.mk (0) (ByteArray.empty) (0) (0) (0)) ([] : (List Int))) = 0 := by
  refine Xy (show Kg 17 from ⟨by decide, by decide⟩) fun f hf => ?_
  rcases YH hf with rfl | rfl | rfl | rfl | rfl | rfl | rfl | rfl | rfl | rfl | rfl | rfl | rfl | rfl <;> simp [ZS, Yc, Z3, Ck, Uv, Ca, Ia]
theorem sho0 {n : Nat} {m : Int} (h : (n : Int) ≤ m) : CW n m = 0 := by unfold CW; rw [if_neg (by omega)]
theorem Ei {n a b : Int} (h : a ≤ n ∧ n ≤ b) : Wr n a b = 0 := by unfold Wr; rw [if_pos h]
theorem il0 {l : List Qi} (h : 1 ≤ l.length ∧ l.length ≤ 64) (h2 : ∀ x ∈ l, F8 x = 0) : Hc l = 0 := by
  unfold Hc; rw [if_neg (by simpa using h)]
  exact F9 fun j x hx => h2 x (List.mem_of_getElem? hx)
theorem nl0 {l : List ByteArray} (h : 1 ≤ l.length ∧ l.length ≤ 16) (h2 : ∀ x ∈ l, CQ x = true) : Hb l = 0 := by
  unfold Hb; rw [if_neg (by simpa using h)]
  exact F9 fun j x hx => by unfold Ca; rw [if_pos (h2 x (List.mem_of_getElem? hx))]
def Ej (m : Nat) (x : Qp) : Prop := x.fa0.length ≤ m ∧ x.f8.length ≤ m ∧ x.fb3.length ≤ m ∧ x.fb5.length ≤ m ∧ 0 ≤ x.fb.fu ∧ x.fb.fu ≤ 18446744073709551615
theorem Mc (l : List Int) (i : Int) (hl : l.length ≤ 4611686018427387904) (h0 : 0 ≤ i) (h1 : i ≤ 900) (Q : Qp → Prop) (hQ : ∀ x, Jl x = 0 → Ej 65536 x → Q x) : W0 l i Q := by
  unfold W0
  obtain ⟨v1, e1, a1, b1⟩ := WN l i hl h0 (by omega)
  obtain ⟨v2, e2, a2, b2⟩ := WN l (IntKind.i64.wrap (i + 7)) hl (by rw [Zt (by omega)]; omega) (by rw [Zt (by omega)]; omega)
  refine ⟨v1, e1, v2, e2, ?_⟩
  simp only [jn, bA1, bA3, bA7]
  rw [VJ a1]
  have hk0 : 0 ≤ v1 % 20 ∧ v1 % 20 ≤ 19 := by omega
  obtain ⟨s5, es5, hs5⟩ := Uf (QS .i64 v1 5)
  obtain ⟨s6, es6, hs6⟩ := Uf (QS .i64 v1 6)
  obtain ⟨s7, es7, hs7⟩ := Uf (QS .i64 v1 7)
  obtain ⟨s8, es8, hs8⟩ := Uf (QS .i64 v1 8)
  obtain ⟨p, ep, gp⟩ := BC v2
  have hp := Mb gp
  obtain ⟨q, eq, hq⟩ := GZ v2
  obtain ⟨c, ec, hc⟩ := D3 v2
  have hc0 : CW c.length 64 = 0 := sho0 (by omega)
  have i5 : i.tmod 5 = i % 5 := VJ h0
  have i7 : i.tmod 7 = i % 7 := VJ h0
  have m5 : 0 ≤ XU (l.length : Int) (i % 5) ∧ XU (l.length : Int) (i % 5) ≤ l.length := by unfold XU; split <;> omega
  have m7 : 0 ≤ XU (l.length : Int) (i % 7) ∧ XU (l.length : Int) (i % 7) ≤ l.length := by unfold XU; split <;> omega
  rw [i5, i7]
  generalize v1 % 20 = k at hk0 ⊢
  generalize QS .i64 v1 5 = t5 at *
  generalize QS .i64 v1 6 = t6 at *
  generalize QS .i64 v1 7 = t7 at *
  generalize QS .i64 v1 8 = t8 at *
  generalize QS .i64 v1 10 = t10
  generalize QS .i64 v1 11 = t11
  generalize QS .i64 v2 3 = u3
  have hks : k = 0 ∨ k = 1 ∨ k = 2 ∨ k = 3 ∨ k = 4 ∨ k = 5 ∨ k = 6 ∨ k = 7 ∨ k = 8 ∨ k = 9 ∨ k = 10 ∨ k = 11 ∨ k = 12 ∨ k = 13 ∨ k = 14 ∨ k = 15 ∨ k = 16 ∨ k = 17 ∨ k = 18 ∨ k = 19 := by omega
  have z0 : Ej 65536 (Qp.mk 17 .empty .empty [] ⟨0, 0, 0, 0⟩ [] [] 0 0 0 0 0 0 ⟨0, .empty, 0, 0, 0⟩ []) := by simp [Ej]
  have c1 : Q (Qp.mk 1 s5 .empty [] p [] [] 0 0 0 0 0 0 ⟨0, .empty, 0, 0, 0⟩ []) := hQ _ (vk1 _ _ hs5 hp) (by have hps : 0 ≤ p.fu ∧ p.fu ≤ 3 := (by unfold FO at gp; omega); simp [Ej]; omega)
  have c6 : ∃ v15, Vt (List.drop (Int.toNat (XU (l.length : Int) (i % 5))) l) (IntKind.i64.wrap (1 + t7 % 8)) v15 ∧ Q (Qp.mk 6 s5 .empty [] ⟨0, 0, 0, 0⟩ v15 c 0 0 0 0 0 0 ⟨0, .empty, 0, 0, 0⟩ []) := by
    rw [Zt (by omega)]
    obtain ⟨v15, e15, l15, o15⟩ := D2 (List.drop (Int.toNat (XU (l.length : Int) (i % 5))) l) (1 + t7 % 8) (by simp; omega) (by omega) (by omega)
    exact ⟨v15, e15, hQ _ (vk6 _ _ _ hs5 (il0 (by omega) o15) hc0) (by simp [Ej]; omega)⟩
  obtain ⟨v15, e15, c6⟩ := c6
  have c9 : (0 ≤ IntKind.i64.wrap (IntKind.i64.wrap (1 + t10 % 2) + t11 % 2) ∧ IntKind.i64.wrap (IntKind.i64.wrap (1 + t10 % 2) + t11 % 2) ≤ 3) ∧ Q (Qp.mk 9 .empty .empty (List.take (Int.toNat (IntKind.i64.wrap (IntKind.i64.wrap (1 + t10 % 2) + t11 % 2))) [s5, s7, s8]) ⟨0, 0, 0, 0⟩ [] [] 0 0 0 0 0 0 ⟨0, .empty, 0, 0, 0⟩ []) := by
    have w : IntKind.i64.wrap (IntKind.i64.wrap (1 + t10 % 2) + t11 % 2) = 1 + t10 % 2 + t11 % 2 := by rw [Zt (n := 1 + t10 % 2) (by omega), Zt (by omega)]
    rw [w]
    refine ⟨by omega, hQ _ (vk9 _ (nl0 (by simp; omega) fun x hx => ?_)) (by simp [Ej]; omega)⟩
    have := List.mem_of_mem_take hx
    simp at this
    rcases this with rfl | rfl | rfl <;> assumption
  obtain ⟨sk, esk, zsk⟩ := FU (List.drop (Int.toNat (XU (l.length : Int) (i % 7))) l) (by simp; omega)
  obtain ⟨ex, eex, lex⟩ := FV sk zsk
  rcases hks with rfl | rfl | rfl | rfl | rfl | rfl | rfl | rfl | rfl | rfl | rfl | rfl | rfl | rfl | rfl | rfl | rfl | rfl | rfl | rfl
  · exact ⟨fun _ => ⟨fun _ => ⟨s5, es5, p, ep, c1⟩, fun h => by simp at h⟩, fun h => by simp at h⟩
  · exact ⟨fun h => by simp at h, fun _ => ⟨fun _ => ⟨s5, es5, p, ep, c1⟩, fun h => by simp at h⟩⟩
  · exact ⟨fun h => by simp at h, fun _ => ⟨fun h => by simp at h, fun _ => ⟨fun _ => ⟨s5, es5, hQ _ (vk2 _ hs5) (by simp [Ej])⟩, fun h => by simp at h⟩⟩⟩
  · exact ⟨fun h => by simp at h, fun _ => ⟨fun h => by simp at h, fun _ => ⟨fun h => by simp at h, fun _ => ⟨fun _ => ⟨s5, es5, s7, es7, hQ _ (vk3 _ _ hs5 hs7) (by simp [Ej])⟩, fun h => by simp at h⟩⟩⟩⟩
  · exact ⟨fun h => by simp at h, fun _ => ⟨fun h => by simp at h, fun _ => ⟨fun h => by simp at h, fun _ => ⟨fun h => by simp at h, fun _ => ⟨fun _ => hQ _ vk4 (by simp [Ej]), fun h => by simp at h⟩⟩⟩⟩⟩
  · exact ⟨fun h => by simp at h, fun _ => ⟨fun h => by simp at h, fun _ => ⟨fun h => by simp at h, fun _ => ⟨fun h => by simp at h, fun _ => ⟨fun h => by simp at h, fun _ => ⟨fun _ => ⟨s5, es5, q, eq, hQ _ (vk5 _ _ hs5 hq) (by simp [Ej])⟩, fun h => by simp at h⟩⟩⟩⟩⟩⟩
  · exact ⟨fun h => by simp at h, fun _ => ⟨fun h => by simp at h, fun _ => ⟨fun h => by simp at h, fun _ => ⟨fun h => by simp at h, fun _ => ⟨fun h => by simp at h, fun _ => ⟨fun h => by simp at h, fun _ => ⟨fun _ => ⟨fun _ => ⟨s5, es5, m5, v15, e15, c, ec, c6⟩, fun h => by simp at h⟩, fun h => by simp at h⟩⟩⟩⟩⟩⟩⟩
  · exact ⟨fun h => by simp at h, fun _ => ⟨fun h => by simp at h, fun _ => ⟨fun h => by simp at h, fun _ => ⟨fun h => by simp at h, fun _ => ⟨fun h => by simp at h, fun _ => ⟨fun h => by simp at h, fun _ => ⟨fun h => by simp at h, fun _ => ⟨fun _ => ⟨fun _ => ⟨s5, es5, m5, v15, e15, c, ec, c6⟩, fun h => by simp at h⟩, fun h => by simp at h⟩⟩⟩⟩⟩⟩⟩⟩
  · exact ⟨fun h => by simp at h, fun _ => ⟨fun h => by simp at h, fun _ => ⟨fun h => by simp at h, fun _ => ⟨fun h => by simp at h, fun _ => ⟨fun h => by simp at h, fun _ => ⟨fun h => by simp at h, fun _ => ⟨fun h => by simp at h, fun _ => ⟨fun h => by simp at h, fun _ => ⟨fun _ => ⟨s5, es5, m5, v15, e15, c, ec, c6⟩, fun h => by simp at h⟩⟩⟩⟩⟩⟩⟩⟩⟩
  · exact ⟨fun h => by simp at h, fun _ => ⟨fun h => by simp at h, fun _ => ⟨fun h => by simp at h, fun _ => ⟨fun h => by simp at h, fun _ => ⟨fun h => by simp at h, fun _ => ⟨fun h => by simp at h, fun _ => ⟨fun h => by simp at h, fun _ => ⟨fun h => by simp at h, fun _ => ⟨fun h => by simp at h, fun _ => ⟨fun _ => ⟨s5, es5, s7, es7, c, ec, hQ _ (vk7 _ _ _ hs5 hs7 hc0) (by simp [Ej]; omega)⟩, fun h => by simp at h⟩⟩⟩⟩⟩⟩⟩⟩⟩⟩
  · exact ⟨fun h => by simp at h, fun _ => ⟨fun h => by simp at h, fun _ => ⟨fun h => by simp at h, fun _ => ⟨fun h => by simp at h, fun _ => ⟨fun h => by simp at h, fun _ => ⟨fun h => by simp at h, fun _ => ⟨fun h => by simp at h, fun _ => ⟨fun h => by simp at h, fun _ => ⟨fun h => by simp at h, fun _ => ⟨fun h => by simp at h, fun _ => ⟨fun _ => ⟨s5, es5, s7, es7, c, ec, hQ _ (vk8 _ _ _ _ _ hs5 hs7 hc0 (Ei (by rw [Zt (by omega)]; omega)) (Ei (by rw [Zt (by omega)]; omega))) (by simp [Ej]; omega)⟩, fun h => by simp at h⟩⟩⟩⟩⟩⟩⟩⟩⟩⟩⟩
  · exact ⟨fun h => by simp at h, fun _ => ⟨fun h => by simp at h, fun _ => ⟨fun h => by simp at h, fun _ => ⟨fun h => by simp at h, fun _ => ⟨fun h => by simp at h, fun _ => ⟨fun h => by simp at h, fun _ => ⟨fun h => by simp at h, fun _ => ⟨fun h => by simp at h, fun _ => ⟨fun h => by simp at h, fun _ => ⟨fun h => by simp at h, fun _ => ⟨fun h => by simp at h, fun _ => ⟨fun _ => ⟨fun _ => ⟨s5, es5, s7, es7, s8, es8, c9.1, c9.2⟩, fun h => by simp at h⟩, fun h => by simp at h⟩⟩⟩⟩⟩⟩⟩⟩⟩⟩⟩⟩
  · exact ⟨fun h => by simp at h, fun _ => ⟨fun h => by simp at h, fun _ => ⟨fun h => by simp at h, fun _ => ⟨fun h => by simp at h, fun _ => ⟨fun h => by simp at h, fun _ => ⟨fun h => by simp at h, fun _ => ⟨fun h => by simp at h, fun _ => ⟨fun h => by simp at h, fun _ => ⟨fun h => by simp at h, fun _ => ⟨fun h => by simp at h, fun _ => ⟨fun h => by simp at h, fun _ => ⟨fun h => by simp at h, fun _ => ⟨fun _ => ⟨s5, es5, s7, es7, s8, es8, c9.1, c9.2⟩, fun h => by simp at h⟩⟩⟩⟩⟩⟩⟩⟩⟩⟩⟩⟩⟩
  · exact ⟨fun h => by simp at h, fun _ => ⟨fun h => by simp at h, fun _ => ⟨fun h => by simp at h, fun _ => ⟨fun h => by simp at h, fun _ => ⟨fun h => by simp at h, fun _ => ⟨fun h => by simp at h, fun _ => ⟨fun h => by simp at h, fun _ => ⟨fun h => by simp at h, fun _ => ⟨fun h => by simp at h, fun _ => ⟨fun h => by simp at h, fun _ => ⟨fun h => by simp at h, fun _ => ⟨fun h => by simp at h, fun _ => ⟨fun h => by simp at h, fun _ => ⟨fun _ => ⟨q, eq, hQ _ (vk10 _ _ _ (Ei (by omega)) (Ei (by omega)) hq) (by simp [Ej])⟩, fun h => by simp at h⟩⟩⟩⟩⟩⟩⟩⟩⟩⟩⟩⟩⟩⟩
  · exact ⟨fun h => by simp at h, fun _ => ⟨fun h => by simp at h, fun _ => ⟨fun h => by simp at h, fun _ => ⟨fun h => by simp at h, fun _ => ⟨fun h => by simp at h, fun _ => ⟨fun h => by simp at h, fun _ => ⟨fun h => by simp at h, fun _ => ⟨fun h => by simp at h, fun _ => ⟨fun h => by simp at h, fun _ => ⟨fun h => by simp at h, fun _ => ⟨fun h => by simp at h, fun _ => ⟨fun h => by simp at h, fun _ => ⟨fun h => by simp at h, fun _ => ⟨fun h => by simp at h, fun _ => ⟨fun _ => hQ _ (vk11 _ (Ei (by omega))) (by simp [Ej]), fun h => by simp at h⟩⟩⟩⟩⟩⟩⟩⟩⟩⟩⟩⟩⟩⟩⟩
  · exact ⟨fun h => by simp at h, fun _ => ⟨fun h => by simp at h, fun _ => ⟨fun h => by simp at h, fun _ => ⟨fun h => by simp at h, fun _ => ⟨fun h => by simp at h, fun _ => ⟨fun h => by simp at h, fun _ => ⟨fun h => by simp at h, fun _ => ⟨fun h => by simp at h, fun _ => ⟨fun h => by simp at h, fun _ => ⟨fun h => by simp at h, fun _ => ⟨fun h => by simp at h, fun _ => ⟨fun h => by simp at h, fun _ => ⟨fun h => by simp at h, fun _ => ⟨fun h => by simp at h, fun _ => ⟨fun h => by simp at h, fun _ => ⟨fun _ => hQ _ (vk12 _ _ (Ei (by omega)) (Ei (by omega))) (by simp [Ej]), fun h => by simp at h⟩⟩⟩⟩⟩⟩⟩⟩⟩⟩⟩⟩⟩⟩⟩⟩
  · exact ⟨fun h => by simp at h, fun _ => ⟨fun h => by simp at h, fun _ => ⟨fun h => by simp at h, fun _ => ⟨fun h => by simp at h, fun _ => ⟨fun h => by simp at h, fun _ => ⟨fun h => by simp at h, fun _ => ⟨fun h => by simp at h, fun _ => ⟨fun h => by simp at h, fun _ => ⟨fun h => by simp at h, fun _ => ⟨fun h => by simp at h, fun _ => ⟨fun h => by simp at h, fun _ => ⟨fun h => by simp at h, fun _ => ⟨fun h => by simp at h, fun _ => ⟨fun h => by simp at h, fun _ => ⟨fun h => by simp at h, fun _ => ⟨fun h => by simp at h, fun _ => ⟨fun _ => hQ _ (vk13 _ _ (Ei (by omega)) (Ei (by omega))) (by simp [Ej]), fun h => by simp at h⟩⟩⟩⟩⟩⟩⟩⟩⟩⟩⟩⟩⟩⟩⟩⟩⟩
  · exact ⟨fun h => by simp at h, fun _ => ⟨fun h => by simp at h, fun _ => ⟨fun h => by simp at h, fun _ => ⟨fun h => by simp at h, fun _ => ⟨fun h => by simp at h, fun _ => ⟨fun h => by simp at h, fun _ => ⟨fun h => by simp at h, fun _ => ⟨fun h => by simp at h, fun _ => ⟨fun h => by simp at h, fun _ => ⟨fun h => by simp at h, fun _ => ⟨fun h => by simp at h, fun _ => ⟨fun h => by simp at h, fun _ => ⟨fun h => by simp at h, fun _ => ⟨fun h => by simp at h, fun _ => ⟨fun h => by simp at h, fun _ => ⟨fun h => by simp at h, fun _ => ⟨fun h => by simp at h, fun _ => ⟨fun _ => hQ _ (vk14 _ (Ei (by omega))) (by simp [Ej]), fun h => by simp at h⟩⟩⟩⟩⟩⟩⟩⟩⟩⟩⟩⟩⟩⟩⟩⟩⟩⟩
  · exact ⟨fun h => by simp at h, fun _ => ⟨fun h => by simp at h, fun _ => ⟨fun h => by simp at h, fun _ => ⟨fun h => by simp at h, fun _ => ⟨fun h => by simp at h, fun _ => ⟨fun h => by simp at h, fun _ => ⟨fun h => by simp at h, fun _ => ⟨fun h => by simp at h, fun _ => ⟨fun h => by simp at h, fun _ => ⟨fun h => by simp at h, fun _ => ⟨fun h => by simp at h, fun _ => ⟨fun h => by simp at h, fun _ => ⟨fun h => by simp at h, fun _ => ⟨fun h => by simp at h, fun _ => ⟨fun h => by simp at h, fun _ => ⟨fun h => by simp at h, fun _ => ⟨fun h => by simp at h, fun _ => ⟨fun h => by simp at h, fun _ => ⟨fun _ => ⟨fun _ => hQ _ (vk15 _ _ (Ei (by omega)) (Ei (by omega))) (by simp [Ej]), fun _ => ⟨s6, es6, m7, sk, esk, ex, eex, hQ _ (vk16 _ _ hs6 (sho0 (by omega))) (by simp [Ej]; omega)⟩⟩, fun h => by simp at h⟩⟩⟩⟩⟩⟩⟩⟩⟩⟩⟩⟩⟩⟩⟩⟩⟩⟩⟩
  · exact ⟨fun h => by simp at h, fun _ => ⟨fun h => by simp at h, fun _ => ⟨fun h => by simp at h, fun _ => ⟨fun h => by simp at h, fun _ => ⟨fun h => by simp at h, fun _ => ⟨fun h => by simp at h, fun _ => ⟨fun h => by simp at h, fun _ => ⟨fun h => by simp at h, fun _ => ⟨fun h => by simp at h, fun _ => ⟨fun h => by simp at h, fun _ => ⟨fun h => by simp at h, fun _ => ⟨fun h => by simp at h, fun _ => ⟨fun h => by simp at h, fun _ => ⟨fun h => by simp at h, fun _ => ⟨fun h => by simp at h, fun _ => ⟨fun h => by simp at h, fun _ => ⟨fun h => by simp at h, fun _ => ⟨fun h => by simp at h, fun _ => ⟨fun h => by simp at h, fun _ => hQ _ vk17 z0⟩⟩⟩⟩⟩⟩⟩⟩⟩⟩⟩⟩⟩⟩⟩⟩⟩⟩⟩
theorem Gh (l : List Int) (i : Int) (hl : l.length ≤ 4611686018427387904) (h0 : 0 ≤ i) (h1 : i ≤ 900) : ∃ x, WM l i x ∧ Jl x = 0 ∧ Ej 65536 x :=
  M5 (Post := fun x => Jl x = 0 ∧ Ej 65536 x) (Mc l i hl h0 h1 _ fun x h1 h2 => ⟨h1, h2⟩)
def Md : QB := (Da (.bool false) (.bool false)).fk
def Ow : Qp := (Da (.bool false) (.bool false)).fOp
def Ox (x : Qg) (o : Qp) (i : Int) : Qg := Qg.mk true o Md i x.f3 x.f9
def PP (x : Qg) : Qg := Qg.mk false Ow Md 0 x.f3 x.f9
section
variable {ts : List Qg} {k i : Int} {x : Qg} {o : Qp}
theorem PQ (h0 : 0 ≤ k) (hx : ts[k.toNat]? = some x) (hl : ts.length ≤ 64) (hv : Jl o = 0) : ∃ r, KE ts k o i r ∧ ((r.1 = [] ∧ r.2 = 12) ∨ r = (ts.set k.toNat (Ox x o i), 0)) := by
  have hk : k.toNat < ts.length := (List.getElem?_eq_some_iff.1 hx).1
  have c1 : (bif decide (k < 0) then true else decide (k ≥ (ts.length : Int))) = false := by
    have e1 : decide (k < 0) = false := by simp; omega
    have e2 : decide (k ≥ (ts.length : Int)) = false := by simp; omega
    rw [e1, e2]; rfl
  cases hb : x.fb2 with
  | true =>
    refine ⟨([], 12), ?_, .inl ⟨rfl, rfl⟩⟩
    unfold KE JH
    rw [c1]
    refine ⟨fun h => (by cases h), fun _ => ⟨Jl o, Vl o, fun h => by simp [hv] at h, fun _ => ⟨x, ⟨h0, hx⟩, fun _ => rfl, fun h => by simp [hb] at h⟩⟩⟩
  | false =>
    refine ⟨(ts.set k.toNat (Ox x o i), 0), ?_, .inr rfl⟩
    unfold KE JH
    rw [c1]
    refine ⟨fun h => (by cases h), fun _ => ⟨Jl o, Vl o, fun h => by simp [hv] at h, fun _ => ⟨x, ⟨h0, hx⟩, fun h => by simp [hb] at h, fun _ => ⟨by omega, x, ⟨h0, hx⟩, ?_⟩⟩⟩⟩
    simp only [List.set_set]
    rfl
theorem PR (h0 : 0 ≤ k) (hx : ts[k.toNat]? = some x) (hl : ts.length ≤ 64) (hb : x.fb2 = true) : V3 ts k (ts.set k.toNat (PP x), 0) := by
  have hk : k.toNat < ts.length := (List.getElem?_eq_some_iff.1 hx).1
  have c1 : (bif decide (k < 0) then true else decide (k ≥ (ts.length : Int))) = false := by
    have e1 : decide (k < 0) = false := by simp; omega
    have e2 : decide (k ≥ (ts.length : Int)) = false := by simp; omega
    rw [e1, e2]; rfl
  unfold V3 XR
  rw [c1]
  refine ⟨fun h => (by cases h), fun _ => ⟨x, ⟨h0, hx⟩, fun h => by simp [hb] at h, fun _ => ⟨by omega, x, ⟨h0, hx⟩, ?_⟩⟩⟩
  simp only [List.set_set]
  rfl
def IV (ts : List Qg) : Prop := ∀ x ∈ ts, Ma x.fOp ∧ PC x.fk
theorem Ib : PC Md := by simp [PC, SmK, Md, Da]
theorem Nr : Ma Ow := by simp [Ma, Ow, Da]
theorem sm_of (h : Ej 65536 o) : Ma o := by
  obtain ⟨h1, h2, h3, h4, _⟩ := h
  exact ⟨by omega, by omega, by omega, by omega⟩
theorem IV.set {n : Nat} {y : Qg} (h : IV ts) (hy : Ma y.fOp ∧ PC y.fk) : IV (ts.set n y) := by
  intro z hz
  rcases List.mem_or_eq_of_mem_set hz with h1 | rfl
  · exact h z h1
  · exact hy
def BD (ts ts' : List Qg) : Prop := ts'.length = ts.length ∧ ∀ (k : Nat) x', ts'[k]? = some x' → ∃ x, ts[k]? = some x ∧ x'.f3 = x.f3 ∧ x'.f9 = x.f9
theorem BD.refl (ts : List Qg) : BD ts ts := ⟨rfl, fun k x h => ⟨x, h, rfl, rfl⟩⟩
theorem BD.set {n : Nat} {y : Qg} (hx : ts[n]? = some x) (h1 : y.f3 = x.f3) (h2 : y.f9 = x.f9) : BD ts (ts.set n y) := by
  refine ⟨by simp, fun k x' h => ?_⟩
  rw [List.getElem?_set] at h
  by_cases e : n = k
  · rw [if_pos e] at h
    split at h
    · cases h; subst e; exact ⟨x, hx, h1, h2⟩
    · cases h
  · rw [if_neg e] at h
    exact ⟨x', h, rfl, rfl⟩
theorem JI.same {w0 : World} {A0 : Nat → Prop} {N : Nat} {st : St} {ts' : List Qg} {gs : List (Nat × Nat)} {a : Act} {w : World} (hj : JI w0 A0 N st ts gs a w) (hs : BD ts ts') : JI w0 A0 N st ts' gs a w := by
  obtain ⟨E, cx, hr, hi, hf⟩ := hj
  refine ⟨E, cx, hr, ⟨by rw [hi.len, hs.1], fun k x' g hx hg => ?_, hi.nd, hi.off⟩, hf⟩
  obtain ⟨x, h1, h2, h3⟩ := hs.2 k x' hx
  obtain ⟨⟨c, S, e1, l1, m1, n1, d1, r1⟩, c2, C, e2, l2, m2, n2, r2⟩ := hi.els k x g h1 hg
  exact ⟨⟨c, S, h2.trans e1, l1, m1, n1, d1, r1⟩, c2, C, h3.trans e2, l2, m2, n2, r2⟩
end
set_option maxRecDepth 100000
set_option maxHeartbeats 4000000
section
variable {E : En} {N : Nat} {P : Program} {ops : Array Oper} {Q : Exit → Act → World → Prop} {st : St} {cx : Cx} {a : Act} {w w' w0 : World} {A0 : Nat → Prop} {ts : List Qg} {gs : List (Nat × Nat)}
theorem H6 {c : Code} {Q : Exit → St → Prop} (h : ∀ E, AW E N P c (fun e s => ∃ s', QC s s' ∧ Q e s') st) (hj : JI w0 A0 N st ts gs a w) (hm : st.mu = true) : c.wp P (fun e a' w' => ∃ s', Q e s' ∧ JI w0 A0 N s' ts gs a' w') a w :=
  I5 (fun E => UZ (h E) fun e s ⟨s', h1, h2⟩ => ⟨s', h1, h2⟩) hj hm
theorem DJ {x y : Code} {Q : Exit → Act → World → Prop} {st' : St} (h : ∀ E, AW E N P x (fun e s => e = .normal ∧ QC s st') st) (hj : JI w0 A0 N st ts gs a w) (hm : st.mu = true) (k : ∀ a' w', JI w0 A0 N st' ts gs a' w' → y.wp P Q a' w') : (Code.seq x y).wp P Q a w :=
  DC (fun E => UZ (h E) fun e s ⟨h1, h2⟩ => ⟨st', h2, h1, rfl⟩) hj hm k
theorem Ns {c : Operand} {y : Value} (hr : ZQ E N cx st a w) (hb : st.ev c = .c (.p (.v y))) (hc : Zq c = true) : a.eval c = y := by
  have := hr.ev hc
  rw [hb] at this
  have h2 := this.2
  revert h2
  generalize a.eval c = z
  intro h2
  cases h2 with | v _ _ => rfl
theorem Ic {i d ty : Nat} {f : FuncId} {xs : Array Operand} {tys : Array TypeId} {pos : String} {af : Array Edge} {K : Act → World → Prop} {R : Ending → World → Prop} (ho : ops[i]? = some ⟨some d, .call { callee := .value (.func f), args := xs, argTypes := tys }, ty, pos, af, none⟩) (he : LS P f = true) (hc : Calls P f (xs.map a.eval) w R)
    (k : ∀ e w', R e w' → ∃ v, e = .returned v ∧ K (a.put (some d) v) w') : wpOp P ops Q i K a w := by
  unfold wpOp
  rw [ho]
  simp only
  have hw : Region.wanted (⟨some d, .call { callee := .value (.func f), args := xs, argTypes := tys }, ty, pos, af, none⟩ : Oper) (yielded ops a.tmps) = true := rfl
  rw [if_pos hw]
  refine .inl ?_
  unfold Oper.wp
  rw [EL he, Oper.upon_enter]
  refine hc.mono ?_
  rintro e w' hR
  obtain ⟨v, rfl, hk⟩ := k e w' hR
  exact hk
def Nt (fr : List (Nat × TV)) : Prop := ∀ x ∈ fr, ∃ p, x.2 = .c (.p p)
theorem Oy {fr : List (Nat × TV)} {v : Value} {d : Nat} (hr : ZQ E N cx ⟨fr, []⟩ a w) (hp : Nt fr) (hd : d < N) (hnd : ∀ x ∈ fr, x.1 ≠ d) (hn : PK w cx.A w' v ts) (hf : Fr w0 A0 w cx ⟨fr, []⟩) :
    ∃ gs cx', ZQ ⟨w', cx'.A, Own cx' ⟨(d, .tup [.c (.sl (5, 1000) 0 (Xu ts)), .c (.p (.v (.int .i64 0)))]) :: fr, [((5, 1000), some (Y4 ts))]⟩, cx'.ι⟩ N cx' ⟨(d, .tup [.c (.sl (5, 1000) 0 (Xu ts)), .c (.p (.v (.int .i64 0)))]) :: fr, [((5, 1000), some (Y4 ts))]⟩ (a.put (some d) (.tuple #[v, .int .i64 0])) w' ∧
      Dz w' cx'.A (Own cx' ⟨(d, .tup [.c (.sl (5, 1000) 0 (Xu ts)), .c (.p (.v (.int .i64 0)))]) :: fr, [((5, 1000), some (Y4 ts))]⟩) (fun x => w0.heap.size ≤ x) ts gs ∧ Fr w0 A0 w' cx' ⟨(d, .tup [.c (.sl (5, 1000) 0 (Xu ts)), .c (.p (.v (.int .i64 0)))]) :: fr, [((5, 1000), some (Y4 ts))]⟩ := by
  obtain ⟨A, g, c, gs, rfl, l1, m1, r1, nA, ⟨cc, el, hcc, hcs⟩, hisl, hlo, hsz, hkept, hA1, hA2, hos, htp, hou⟩ := hn
  have hh : ∀ b', (⟨(d, .tup [.c (.sl (5, 1000) 0 (Xu ts)), .c (.p (.v (.int .i64 0)))]) :: fr, [((5, 1000), some (Y4 ts))]⟩ : St).h b' = if b' = (5, 1000) then some (Y4 ts) else none := by
    intro b'
    rw [BK]
    rfl
  have hg : ∀ s, (⟨(d, .tup [.c (.sl (5, 1000) 0 (Xu ts)), .c (.p (.v (.int .i64 0)))]) :: fr, [((5, 1000), some (Y4 ts))]⟩ : St).g s = if s = d then .tup [.c (.sl (5, 1000) 0 (Xu ts)), .c (.p (.v (.int .i64 0)))] else (⟨fr, []⟩ : St).g s := by
    intro s
    rw [IE]
    rfl
  let cx' : Cx := ⟨fun b => if b = (5, 1000) then some (g, 0) else none, A⟩
  have hown : ∀ x, Own cx' ⟨(d, .tup [.c (.sl (5, 1000) 0 (Xu ts)), .c (.p (.v (.int .i64 0)))]) :: fr, [((5, 1000), some (Y4 ts))]⟩ x → x = g := by
    rintro x ⟨b, q, hb, hi⟩
    simp only [cx'] at hi
    split at hi
    · cases hi; rfl
    · cases hi
  have hka : ∀ {p : PV} {u : Value}, RP w cx.A p u → RP w' A p u := fun h => h.mono hA1 hsz (fun x hx hl => hkept x hl)
  have hrel : ZQ ⟨w', A, fun x => x = g, cx'.ι⟩ N cx' ⟨(d, .tup [.c (.sl (5, 1000) 0 (Xu ts)), .c (.p (.v (.int .i64 0)))]) :: fr, [((5, 1000), some (Y4 ts))]⟩ (a.put (some d) (.tuple #[.slice (some ⟨g, 0, none⟩) ts.length c, .int .i64 0])) w' := by
    refine ⟨hr.defers, by simp only [Act.put, Array.size_setIfInBounds]; exact hr.size, fun s => ?_, fun b bk hb => ?_, fun b b' g1 o g2 o' hb hb' hi hi' hne => ?_, fun b g1 o hb hi => ?_, fun x hx => ⟨(hA2 x hx).1, .inl hx⟩, fun _ h => h, fun _ _ _ => rfl, Nat.le_refl _, rfl, rfl, rfl, hr.hN, fun _ _ => rfl⟩
    · rw [hg]
      by_cases e : s = d
      · subst e
        have e2 : (a.put (some s) (.tuple #[.slice (some ⟨g, 0, none⟩) ts.length c, .int .i64 0])).tmps.getD s undef = .tuple #[.slice (some ⟨g, 0, none⟩) ts.length c, .int .i64 0] := Cq (o := (⟨some s, .move (.tmp 0), 0, "", #[], none⟩ : Oper)) rfl (by rw [hr.size]; exact hd)
        rw [if_pos rfl, e2]
        refine ⟨_, rfl, rfl, fun i t ht => ?_⟩
        match i, ht with
        | 0, ht =>
          cases ht
          refine ⟨_, rfl, .inr rfl, fun bk hbk => ?_⟩
          rw [hh, if_pos rfl] at hbk
          cases hbk
          refine ⟨some ⟨g, 0, none⟩, c, by simp [Xu], by simpa [Xu] using l1, m1, by simp [Bk.len, Xu], .inr ⟨g, cc, el, (0, 0), by simp [cx'], by simp [Bk.e], hcc, fun _ => by simp [Bk.e, hcs]⟩⟩
        | 1, ht =>
          cases ht
          exact ⟨_, rfl, .inr rfl, .v _ rfl⟩
      · have e2 : (a.put (some d) (.tuple #[.slice (some ⟨g, 0, none⟩) ts.length c, .int .i64 0])).tmps.getD s undef = a.tmps.getD s undef := put_eq (o := (⟨some d, .move (.tmp 0), 0, "", #[], none⟩ : Oper)) (fun h => e (Option.some.inj h).symm)
        rw [if_neg e, e2]
        have h1 := hr.fr s
        have h2 : (⟨fr, []⟩ : St).g s = (ZC fr s).getD (.c .any) := rfl
        rw [h2] at h1 ⊢
        cases hl : ZC fr s with
        | none => exact ⟨.inl rfl, trivial⟩
        | some t =>
          obtain ⟨p, hp'⟩ := hp _ (B2 hl)
          simp only at hp'
          subst hp'
          rw [hl] at h1
          exact ⟨h1.1, hka h1.2⟩
    · rw [hh] at hb
      split at hb
      · cases hb
        rename_i e
        subst e
        obtain ⟨h0, h1, c', el', capR, h2, h3, h4, h5, h6⟩ := r1
        exact ⟨h0, h1, by simp only [cx', if_true]; exact ⟨trivial, c', el', (0, 0), capR, h2, fun _ => ⟨rfl, nA⟩, (fun h => by cases h), h3, h4, h5, h6⟩⟩
      · cases hb
    · simp only [cx'] at hi hi'
      split at hi
      · split at hi'
        · rename_i e1 e2; exact absurd (e1.trans e2.symm) hne
        · cases hi'
      · cases hi
    · simp only [cx'] at hi
      split at hi
      · cases hi; exact ⟨r1.lt, .inr rfl⟩
      · cases hi
  refine ⟨gs, cx', hrel.base, ⟨hisl.len, hisl.els, hisl.nd, fun x hx => ⟨(hisl.off x hx).1, fun h => (hisl.off x hx).2.1 (hown x h), Nat.le_trans hf.sz (hisl.off x hx).2.2⟩⟩, ⟨Nat.le_trans hf.sz hsz, fun x hx => (hkept x (Nat.lt_of_lt_of_le hx hf.sz)).trans (hf.kept x hx), fun x hx => hA1 x (hf.A x hx), fun x hx => ?_, fun x hx => ?_, hos.trans hf.os, htp.trans hf.tape, hou.trans hf.output⟩⟩
  · rcases (hA2 x hx).2 with h | h
    · exact hf.A' x h
    · exact .inr (Nat.le_trans hf.sz h)
  · rw [hown x hx]; exact Nat.le_trans hf.sz hlo
end
set_option maxRecDepth 100000
set_option maxHeartbeats 4000000
def D8 (id : Nat) : Code → Option Code
  | .block i c => match Nat.beq i id with
    | true => some c
    | false => D8 id c
  | .seq a b => (D8 id a).or (D8 id b)
  | .cond _ a b => (D8 id a).or (D8 id b)
  | .loop a => D8 id a
  | .scope a => D8 id a
  | _ => none
noncomputable def mBlk (id : Nat) : Option Code := Tryz.f6.body.bind (D8 id)
def sL (l : List Int) (i : Int) (ts : List Qg) : St := ⟨[(1, .c (.p (.l 1 (List.map (eI .i64) l)))), (5, .c (.sl (5, 1000) 0 (Xu ts))), (7, .c (.p (.v (.int .i64 i))))], [((5, 1000), some (Y4 ts))]⟩
def H7 (ts : List Qg) (ts' : List Qg) : Prop := ts'.length = ts.length ∧ IV ts' ∧ BD ts ts'
section
variable {E : En} {a : Act} {w w0 : World} {A0 : Nat → Prop} {l : List Int} {ts : List Qg} {gs : List (Nat × Nat)} {x : Qg} {i k y : Int} {o : Qp}
theorem H7.refl (h : IV ts) : H7 ts ts := ⟨rfl, h, BD.refl _⟩
theorem H7.ji {N : Nat} {st : St} {ts' : List Qg} (h : H7 ts ts') (hj : JI w0 A0 N st ts gs a w) : JI w0 A0 N st ts' gs a w := hj.same h.2.2
theorem Oz (hG : IV ts) (hx : ts[k.toNat]? = some x) (hs : Ej 65536 o) : H7 ts (ts.set k.toNat (Ox x o i)) := ⟨by simp, hG.set ⟨sm_of hs, Ib⟩, BD.set hx rfl rfl⟩
theorem OA (hG : IV ts) (hx : ts[k.toNat]? = some x) : H7 ts (ts.set k.toNat (PP x)) := ⟨by simp, hG.set ⟨Nr, Ib⟩, BD.set hx rfl rfl⟩
theorem PS {C9 : Code} (h0 : 0 ≤ k) (hx : ts[k.toNat]? = some x) (hl : ts.length ≤ 64) (hG : IV ts) (ho : WM l i o) (hv : Jl o = 0) (hs : Ej 65536 o)
    (hC : (Tryz.f6.body.bind (D8 1)).bind (fun c => match c with
      | .seq _ (.seq _ (.seq (.seq _ (.cond _ (.seq c _) _)) _)) => some c
      | _ => none) = some C9) :
    AW E nM Tryz.prog C9 (fun e s => e = .normal ∧ ∃ ts', H7 ts ts' ∧ QC s (sL l i ts')) (sR l i k ts) := by
  cases hC
  obtain ⟨r, hr, hcase⟩ := PQ (i := i) h0 hx hl hv
  refine tk fun L hL => ?_
  refine dN 4 rfl ?_
  refine ul (ZB (Gf ho)) ?_
  refine dN 1 rfl ?_
  rcases hcase with ⟨hr1, hr2⟩ | rfl
  · obtain ⟨r1, r2⟩ := r
    cases hr1
    cases hr2
    refine ul (Zf (YQ hr) (YM (K8.cons (.o (fun _ h => nomatch h)) (K8.cons (.p rfl) K8.nil))) rfl rfl (.cons (.c (.fr rfl (QI rfl))) (.cons (.c (.p _)) (.cons (.agg (.cons (.p _) (.cons (.p _) (.cons (.p _) (.cons (.p _) (.cons (.p _) (.cons (.p _) (.cons (.p _) (.cons (.p _) (.cons (.fr rfl (QI rfl)) (.cons (.p _) (.cons (.p _) (.cons (.p _) (.cons (.p _) (.cons (.p _) (.cons (.p _) (.cons (.p _) (.cons (.p _) (.cons (.p _) (.cons (.p _) (.cons (.p _) (.cons (.p _) (.cons (.fr rfl (QI rfl)) .nil))))))))))))))))))))))) (.cons (.c (.p _)) .nil))))) ?_
    refine dN 5 rfl ?_
    refine rt (hL _ ?_)
    refine tD rfl ?_
    refine Y6 (b := false) rfl rfl (fun h => by cases h) fun _ => ?_
    exact Qh ⟨rfl, ts, H7.refl hG, QC.fit⟩
  · refine ul (Xg (YQ hr) rfl rfl (.cons (.c (.fr rfl (QI rfl))) (.cons (.c (.p _)) (.cons (.agg (.cons (.p _) (.cons (.p _) (.cons (.p _) (.cons (.p _) (.cons (.p _) (.cons (.p _) (.cons (.p _) (.cons (.p _) (.cons (.fr rfl (QI rfl)) (.cons (.p _) (.cons (.p _) (.cons (.p _) (.cons (.p _) (.cons (.p _) (.cons (.p _) (.cons (.p _) (.cons (.p _) (.cons (.p _) (.cons (.p _) (.cons (.p _) (.cons (.p _) (.cons (.fr rfl (QI rfl)) .nil))))))))))))))))))))))) (.cons (.c (.p _)) .nil))))) ?_
    refine dN 5 rfl ?_
    refine rt (hL _ ?_)
    refine tD rfl ?_
    refine Y6 (b := true) rfl rfl (fun _ => ?_) fun h => by cases h
    exact tE rfl ⟨rfl, ts.set k.toNat (Ox x o i), Oz hG hx hs, QC.nm [1, 5, 7] [((51, 0), (5, 1000))] rfl (by kernel_rfl)⟩
theorem Nu (z : Int) (hG : IV ts) (hx : ts[k.toNat]? = some x) : H7 ts (ts.set k.toNat { x with fk := { x.fk with fc7 := z } }) := by
  obtain ⟨h1, h2, h3, h4, h5⟩ := hG x (List.mem_of_getElem? hx)
  exact ⟨by simp, hG.set ⟨h1, h2, h3, h4, h5⟩, BD.set hx rfl rfl⟩
theorem PT {n : Nat} {y : Qg} : sR l i k (ts.set n y) = ⟨(sR l i k ts).fr, [((5, 1000), some (Y4 (ts.set n y)))]⟩ := by
  have e : Xu (ts.set n y) = Xu ts := by simp [Xu]
  unfold sR
  rw [e]
theorem PU {R : Array Oper} (hR : PL 13 = some R) (hx : ix ts k x) (hy : ix l i y) : AW E nM Tryz.prog (.region 13 R false) (fun e s => e = .normal ∧ QC s (sR l i k (ts.set k.toNat { x with fk := { x.fk with fc7 := QV .i64 (QS .i64 y 7) 7 } }))) (sR l i k ts) := by
  cases hR
  refine tl fun L hL => ?_
  refine dN 4 rfl ?_
  refine u0 (QD hy) ?_
  refine dN 3 rfl ?_
  refine u0 (QU hx) ?_
  refine dN 2 rfl ?_
  refine un (Zl (x1 := { x with fk := { x.fk with fc7 := QV .i64 (QS .i64 y 7) 7 } }) hx.2) ?_
  refine rt (hL _ ⟨rfl, ?_⟩)
  rw [PT]
  exact QC.fit
theorem PW {C : Code} (h0 : 0 ≤ k) (hx : ts[k.toNat]? = some x) (hy : ix l i y) (hl : ts.length ≤ 64) (hG : IV ts)
    (hC : (mBlk 1).bind (fun c => match c with
      | .seq _ (.seq _ (.seq _ (.seq _ (.seq _ (.seq _ c))))) => some c
      | _ => none) = some C) :
    AW E nM Tryz.prog C (fun e s => e = .normal ∧ ∃ ts', H7 ts ts' ∧ QC s (sL l i ts')) (sR l i k ts) := by
  cases hC
  refine tk fun L hL => ?_
  refine dN 2 rfl ?_
  refine u0 (QU ⟨h0, hx⟩) ?_
  refine dN 1 rfl ?_
  refine u0 (QY (i := k.toNat) rfl rfl (gm hx)) ?_
  refine dN 1 rfl ?_
  refine Q2 rfl rfl Qe (fun hg => Q8 rfl rfl) ?_
  refine Q2 rfl rfl Qe (fun hg => Q8 rfl rfl) ?_
  refine Q2 rfl rfl Qe (fun hg => QD hy (Qd hg) (Qd hg) rfl rfl rfl rfl rfl rfl) ?_
  refine Q2 rfl rfl Qe (fun hg => Zz (Qd hg) rfl rfl rfl rfl) ?_
  refine Q2 rfl rfl Qe (fun hg => EP (by decide) (Qd hg) rfl rfl rfl) ?_
  refine Q2 rfl rfl Qe (fun hg => WF (z := .int .i64 (QV .i64 (QS .i64 y 10) 1)) (Qd hg) rfl rfl rfl rfl) ?_
  refine Q2 rfl rfl Qe (fun hg => Qz (c := (QV .i64 (QS .i64 y 10) 1) == 1) (Qd hg) rfl rfl rfl rfl) ?_
  refine u0 (Qm (v := .bool ((QV .i64 (QS .i64 y 10) 1) == 1)) (w := .bool false) rfl rfl Qe rfl Qw) ?_
  refine rt (hL _ ?_)
  refine QP (st' := ⟨[(1, .c (.p (.l 1 (List.map (eI .i64) l)))), (5, .c (.sl (5, 1000) 0 (Xu ts))), (7, .c (.p (.v (.int .i64 i)))), (8, .c (.p (.v (.int .i64 k)))), (110, .c (.p (.v (.bool (bif x.fb2 then (QV .i64 (QS .i64 y 10) 1) == 1 else false)))))], [((5, 1000), some (Y4 ts))]⟩) QC.fit ?_
  refine Y6 (b := bif x.fb2 then (QV .i64 (QS .i64 y 10) 1) == 1 else false) rfl rfl (fun h => ?_) fun _ => ?_
  · have hb : x.fb2 = true := MR h
    have hv := PR h0 hx hl hb
    refine tl fun L hL => ?_
    refine dN 2 rfl ?_
    refine ul (Xg (Bg hv) rfl rfl (.cons (.c (.fr rfl (QI rfl))) (.cons (.c (.p _)) .nil))) ?_
    refine dN 4 rfl ?_
    exact rt (hL _ ⟨rfl, ts.set k.toNat (PP x), OA hG hx, QC.nm [1, 5, 7] [((114, 0), (5, 1000))] rfl (by kernel_rfl)⟩)
  · exact Qh ⟨rfl, ts, H7.refl hG, QC.fit⟩
theorem H7.trans {ts1 ts2 : List Qg} (h1 : H7 ts ts1) (h2 : H7 ts1 ts2) : H7 ts ts2 := by
  refine ⟨h2.1.trans h1.1, h2.2.1, h2.1.trans h1.1, fun k x' hx => ?_⟩
  obtain ⟨x1, e1, e2, e3⟩ := h2.2.2.2 k x' hx
  obtain ⟨x0, e4, e5, e6⟩ := h1.2.2.2 k x1 e1
  exact ⟨x0, e4, e2.trans e5, e3.trans e6⟩
theorem OB {C : Code} (hC : mBlk 1 = some C) (hG : IV ts) (hl : ts.length ≤ 64) (hll : l.length ≤ 4611686018427387904) (hi0 : 0 ≤ i) (hi1 : i ≤ 900) (hil : i < l.length) (hj : JI w0 A0 nM (sL l i ts) ts gs a w) :
    C.wp Tryz.prog (fun e a' w' => (e = .normal ∨ e = .exit 1) ∧ ∃ ts', H7 ts ts' ∧ JI w0 A0 nM (sL l i ts') ts' gs a' w') a w := by
  cases hC
  obtain ⟨y, hy⟩ : ∃ y, l[i.toNat]? = some y := ⟨_, List.getElem?_eq_getElem (by omega)⟩
  have hiy : ix l i y := ⟨hi0, hy⟩
  obtain ⟨j0, j1⟩ := b3 y
  refine DJ (st' := sR l i (QV .i64 y 3) ts) (fun E => ?_) hj rfl fun a1 w1 hj1 => ?_
  · refine tl fun L hL => ?_
    refine dN 2 rfl ?_
    refine u0 (QD hiy) ?_
    refine dN 3 rfl ?_
    exact rt (hL _ ⟨rfl, QC.fit⟩)
  generalize QV .i64 y 3 = k at hj1 j0 j1
  refine wp_seq (wp_mono (H6 (Q := fun e s => (e = .normal ∧ s = sR l i k ts ∧ k < ts.length) ∨ (e = .exit 1 ∧ s = sL l i ts)) (fun E => ?_) hj1 rfl) ?_)
  · refine tk fun L hL => ?_
    refine dN 2 rfl ?_
    refine u0 ZW ?_
    refine dN 1 rfl ?_
    refine rt (hL _ ?_)
    refine Y6 (b := decide (k ≥ (ts.length : Int))) rfl rfl (fun h => ?_) fun h => ?_
    · exact QQ ⟨_, QC.fit, .inr ⟨rfl, rfl⟩⟩
    · exact Qh ⟨_, QC.fit, .inl ⟨rfl, rfl, by simp at h; omega⟩⟩
  rintro e a2 w2 ⟨s2, hcase, hj2⟩
  rcases hcase with ⟨rfl, rfl, hkl⟩ | ⟨rfl, rfl⟩
  · obtain ⟨x, hx⟩ : ∃ x, ts[k.toNat]? = some x := ⟨_, List.getElem?_eq_getElem (by omega)⟩
    have hxk : ix ts k x := ⟨j0, hx⟩
    refine wp_seq (wp_mono (H6 (Q := fun e s => (e = .normal ∧ s = sR l i k ts) ∨ (e = .exit 1 ∧ ∃ ts', H7 ts ts' ∧ s = sL l i ts')) (fun E => ?_) hj2 rfl) ?_)
    · refine tk fun L hL => ?_
      refine dN 2 rfl ?_
      refine u0 (QD hiy) ?_
      refine dN 4 rfl ?_
      refine rt (hL _ ?_)
      refine QP (st' := ⟨(sR l i k ts).fr ++ [(43, .c (.p (.v (.bool ((QV .i64 (QS .i64 y 2) 1) == 1)))))], (sR l i k ts).H⟩) QC.fit ?_
      refine Y6 (b := (QV .i64 (QS .i64 y 2) 1) == 1) rfl rfl (fun h => ?_) fun h => ?_
      · obtain ⟨o, ho, hv, hs⟩ := Gh l i hll hi0 hi1
        refine QP (st' := sR l i k ts) QC.fit ?_
        refine Gv (Le (PS (ts := ts) j0 hx hl hG ho hv hs rfl) ?_)
        rintro e s ⟨rfl, ts', h1, h2⟩
        exact QP h2 (QQ ⟨_, QC.fit, .inr ⟨rfl, ts', h1, rfl⟩⟩)
      · exact Qh ⟨_, QC.fit, .inl ⟨rfl, rfl⟩⟩
    rintro e a3 w3 ⟨s3, hcase, hj3⟩
    rcases hcase with ⟨rfl, rfl⟩ | ⟨rfl, ts', hr, rfl⟩
    · refine wp_seq (wp_mono (Ot hj3 rfl rfl rfl hx fun E g cp S hv h4 hS hGd hp => PM rfl hxk hiy hv hS hGd hp) ?_)
      rintro e a4 w4 ⟨rfl, hj4⟩
      refine wp_seq (wp_mono (Ou hj4 rfl rfl rfl hx fun E g cp S hv h4 hS hp => PN rfl hxk hiy hv hS hp) ?_)
      rintro e a5 w5 ⟨rfl, hj5⟩
      refine DJ (fun E => PU rfl hxk hiy) hj5 rfl fun a6 w6 hj6 => ?_
      have hr := Nu (QV .i64 (QS .i64 y 7) 7) hG hx
      have hj7 := hr.ji hj6
      refine wp_mono (H6 (Q := fun e s => e = .normal ∧ ∃ ts', H7 (ts.set k.toNat { x with fk := { x.fk with fc7 := QV .i64 (QS .i64 y 7) 7 } }) ts' ∧ s = sL l i ts') (fun E => Le (PW (x := { x with fk := { x.fk with fc7 := QV .i64 (QS .i64 y 7) 7 } }) j0 (by simp [List.getElem?_set]; omega) hiy (by simp; omega) hr.2.1 rfl) ?_) hj7 rfl) ?_
      · rintro e s ⟨rfl, ts', h1, h2⟩
        exact ⟨_, h2, rfl, ts', h1, rfl⟩
      rintro e a8 w8 ⟨s8, ⟨rfl, ts', h1, rfl⟩, hj8⟩
      exact ⟨.inl rfl, ts', hr.trans h1, h1.ji hj8⟩
    · exact ⟨.inr rfl, ts', hr, hr.ji hj3⟩
  · exact ⟨.inr rfl, ts, H7.refl hG, hj2⟩
end
set_option maxRecDepth 100000
set_option maxHeartbeats 4000000
section
variable {a : Act} {w w0 : World} {A0 : Nat → Prop} {n : Int} {l : List Int} {ts : List Qg} {gs : List (Nat × Nat)}
theorem PX {v1 v2 : Value} : Ma (Da v1 v2).fOp ∧ PC (Da v1 v2).fk := ⟨Nr, Ib⟩
theorem Nv {lv : Value} {Q : Exit → Act → World → Prop} (hA : ∀ x, A0 x → x < w0.heap.size) (hn : Kw (.int .i64 n) = true) (hlv : RP w0 A0 (.l 1 (List.map (eI .i64) l)) lv) (hll : l.length ≤ 4611686018427387904)
    (hfin : ∀ a w ts gs, 1 ≤ ts.length → ts.length ≤ 4 → IV ts → JI w0 A0 nM ⟨[(4, .c (.sl (5, 1000) 0 (Xu ts)))], [((5, 1000), some (Y4 ts))]⟩ ts gs a w → Q .ret a w) :
    ∀ body, Tryz.f6.body = some body → body.wp Tryz.prog Q { tmps := #[Value.int .i64 n, lv] ++ Array.replicate (nM - (#[Value.int .i64 n, lv] : Array Value).size) undef, defers := [] } w0 := by
  intro body hbody
  cases hbody
  have hr0 : ZQ ⟨w0, A0, fun _ => False, fun _ => none⟩ nM ⟨fun _ => none, A0⟩ ⟨[(0, .c (.p (.v (.int .i64 n)))), (1, .c (.p (.l 1 (List.map (eI .i64) l))))], []⟩ { tmps := #[Value.int .i64 n, lv] ++ Array.replicate (nM - (#[Value.int .i64 n, lv] : Array Value).size) undef, defers := [] } w0 :=
    Np (fn := Tryz.f6) (avs := [.c (.v (.int .i64 n)), .c (.l 1 (List.map (eI .i64) l))]) (g := 0) (q := 0) rfl (by kernel_rfl) (Nat.le_of_ble_eq_true (by kernel_rfl)) rfl hA ⟨.v _ hn, hlv, trivial⟩
  have hj0 : JI w0 A0 nM ⟨[(0, .c (.p (.v (.int .i64 n)))), (1, .c (.p (.l 1 (List.map (eI .i64) l))))], []⟩ [] [] { tmps := #[Value.int .i64 n, lv] ++ Array.replicate (nM - (#[Value.int .i64 n, lv] : Array Value).size) undef, defers := [] } w0 :=
    ⟨_, _, hr0, ⟨rfl, fun k x g hx => by simp at hx, ⟨fun g hg => by simp at hg, fun k k2 g g2 hg => by simp at hg⟩, fun x hx => by simp [I4] at hx⟩, ⟨Nat.le_refl _, fun _ _ => rfl, fun _ h => h, fun _ h => .inl h, fun g ⟨b, q, hb, _⟩ => absurd rfl hb, rfl, rfl, rfl⟩⟩
  -- the result's variable
  refine DJ (st' := ⟨[(0, .c (.p (.v (.int .i64 n)))), (1, .c (.p (.l 1 (List.map (eI .i64) l))))], []⟩) (fun E => tE rfl ⟨rfl, QC.fit⟩) hj0 rfl fun a1 w1 hj1 => ?_
  -- the table
  obtain ⟨E1, cx1, hr1, hi1, hf1⟩ := hj1
  refine wp_seq (wp_region ?_)
  obtain ⟨j0, j1⟩ := b3 n
  have hwn : IntKind.i64.wrap (1 + QV .i64 n 3) = 1 + QV .i64 n 3 := by rw [IntKind.wrap_i64]; omega
  show wpOps _ _ _ [0, 1, 2, 3, 4, 5, 6, 7, 8] _ _
  rw [wpOps_cons]
  refine Kb hr1.base rfl rfl (Q8 rfl rfl) rfl rfl fun cx2 a2 w2 hr2 => ?_
  rw [wpOps_cons]
  refine Kb hr2 rfl rfl WF rfl rfl fun cx3 a3 w3 hr3 => ?_
  rw [wpOps_cons]
  refine Kb hr3 rfl rfl WF rfl rfl fun cx4 a4 w4 hr4 => ?_
  rw [wpOps_cons]
  have hc4 := hr4.cut (fr' := [(1, .c (.p (.l 1 (List.map (eI .i64) l)))), (14, .c (.p (.v (.int .i64 (IntKind.i64.wrap (1 + QV .i64 n 3))))))]) (H' := []) ⟨rfl, rfl, trivial⟩ trivial
  have l4 := D1 hr1 rfl hc4
  have hf4 := hf1.lv l4 (fun _ h => h.elim)
  have e14 := Ns (c := .tmp 14) hc4 rfl rfl
  refine Ic rfl (by kernel_rfl) (R := fun e w => ∃ v ts, e = .returned (.tuple #[v, .int .i64 0]) ∧ (ts.length : Int) = 1 + QV .i64 n 3 ∧ (∀ x ∈ ts, ∃ v1 v2, x = Da v1 v2) ∧ PK w4 cx4.A w v ts) ?_ ?_
  · have exs : (#[Operand.tmp 14] : Array Operand).map a4.eval = #[Value.int .i64 (1 + QV .i64 n 3)] := by simp only [List.map_toArray, List.map_cons, List.map_nil, e14, hwn]
    refine exs ▸ ?_
    exact Ov (fun x hx => (hc4.A x hx).1) (by omega) (by omega)
  rintro e w5 ⟨v, ts, rfl, hlen, hz, hnew⟩
  refine ⟨_, rfl, ?_⟩
  obtain ⟨gs, cx5, hr5, hi5, hf5⟩ := Oy (d := 15) hc4 (by intro x hx; simp at hx; rcases hx with rfl | rfl <;> exact ⟨_, rfl⟩) (Nat.le_of_ble_eq_true (by kernel_rfl)) (by intro x hx; simp at hx; rcases hx with rfl | rfl <;> simp) hnew hf4
  rw [wpOps_cons]
  refine Kb hr5 rfl rfl (IA rfl rfl) rfl rfl fun cx6 a6 w6 hr6 => ?_
  rw [wpOps_cons]
  refine Kb hr6 rfl rfl (Uh rfl rfl rfl) rfl rfl fun cx7 a7 w7 hr7 => ?_
  rw [wpOps_cons]
  refine Kb hr7 rfl rfl (Uh rfl rfl rfl) rfl rfl fun cx8 a8 w8 hr8 => ?_
  rw [wpOps_cons]
  refine Kb hr8 rfl rfl (WH rfl rfl) rfl rfl fun cx9 a9 w9 hr9 => ?_
  rw [wpOps_cons]
  refine Kb hr9 rfl rfl (WH rfl rfl) rfl rfl fun cx10 a10 w10 hr10 => ?_
  have hc10 := hr10.cut (fr' := [(1, .c (.p (.l 1 (List.map (eI .i64) l)))), (5, .c (.sl (5, 1000) 0 (Xu ts)))]) (H' := [((5, 1000), some (Y4 ts))]) ⟨rfl, rfl, trivial⟩ ⟨rfl, trivial⟩
  have l10 := D1 hr5 rfl hc10
  have hj10 : JI w0 A0 nM ⟨[(1, .c (.p (.l 1 (List.map (eI .i64) l)))), (5, .c (.sl (5, 1000) 0 (Xu ts)))], [((5, 1000), some (Y4 ts))]⟩ ts gs a10 w10 := ⟨_, cx10, hc10, hi5.lv l10 (fun _ _ h => h), hf5.lv l10 (fun _ h => h.elim)⟩
  have hG0 : IV ts := fun x hx => by
    obtain ⟨v1, v2, rfl⟩ := hz x hx
    exact PX
  refine wp_seq ?_
  refine DJ (st' := sL l 0 ts) (fun E => tE rfl ⟨rfl, QC.fit⟩) hj10 rfl fun a11 w11 hj11 => ?_
  refine wp_block ?_
  refine G8 (fun k a w => ∃ (j : Nat) (ts : List Qg) (gs : List (Nat × Nat)), j ≤ 8 ∧ 1 ≤ ts.length ∧ ts.length ≤ 4 ∧ IV ts ∧ k = 8 - j ∧ JI w0 A0 nM (sL l (j : Int) ts) ts gs a w) ?_ 8 _ _ ⟨0, ts, gs, by omega, by omega, by omega, hG0, rfl, hj11⟩
  rintro k a w ⟨j, ts, gs, hj8, hn1, hn4, hG, rfl, hj⟩
  refine wp_seq ?_
  refine wp_mono (H6 (Q := fun e s => s = sL l (j : Int) ts ∧ ((e = .normal ∧ j < 8 ∧ j < l.length) ∨ e = .exit 0)) (fun E => ?_) hj rfl) ?_
  · refine tk fun L hL => ?_
    refine dN 2 rfl ?_
    refine u0 QA ?_
    refine dN 2 rfl ?_
    refine Q2 rfl rfl Qe (fun hg => Q8 rfl rfl) ?_
    refine Q2 rfl rfl Qe (fun hg => Qz (c := decide ((j : Int) < (8))) (Qd hg) rfl rfl rfl rfl) ?_
    refine u0 (Qm (v := .bool (decide ((j : Int) < (8)))) (w := .bool (false)) rfl rfl Qe rfl Qw) ?_
    refine rt (hL _ ?_)
    refine Y6 (b := (bif decide ((j : Int) < (l.length : Int)) then decide ((j : Int) < 8) else false)) rfl rfl (fun h => ?_) fun h => ?_
    · refine Qh ⟨_, QC.fit, rfl, .inl ⟨rfl, ?_⟩⟩
      have h1 := MR h
      rw [h1] at h
      simp at h1 h
      omega
    · exact QQ ⟨_, QC.fit, rfl, .inr rfl⟩
  rintro e a1 w1 ⟨s1, ⟨rfl, hcase⟩, hj1⟩
  rcases hcase with ⟨rfl, hlt8, hltl⟩ | rfl
  · -- a round
    refine wp_seq (wp_block (wp_mono (OB rfl hG (by omega) hll (by omega) (by omega) (by omega) hj1) ?_))
    rintro e a2 w2 ⟨he, ts', ⟨hl', hG', -⟩, hj2⟩
    have hw1 : IntKind.i64.wrap ((j : Int) + 1) = ((j + 1 : Nat) : Int) := by rw [IntKind.wrap_i64]; omega
    rcases he with rfl | rfl
    all_goals
      refine wp_mono (I5 (Q := fun e s => e = .normal ∧ s = sL l ((j + 1 : Nat) : Int) ts') (fun E => ?_) hj2 rfl) ?_
      · refine UZ (Q := fun e s => e = .normal ∧ s = _) (tE rfl ⟨rfl, rfl⟩) ?_
        rintro e s ⟨rfl, rfl⟩
        refine ⟨⟨[(1, .c (.p (.l 1 (List.map (eI .i64) l)))), (5, .c (.sl (5, 1000) 0 (Xu ts'))), (7, .c (.p (.v (.int .i64 (IntKind.i64.wrap ((j : Int) + 1))))))], [((5, 1000), some (Y4 ts'))]⟩, QC.fit, rfl, ?_⟩
        rw [hw1]; rfl
      rintro e a7 w7 ⟨st7, ⟨rfl, rfl⟩, hj7⟩
      exact ⟨8 - (j + 1), by omega, j + 1, ts', gs, by omega, by omega, by omega, hG', rfl, hj7⟩
  · -- the end
    simp only [Exit.then, Exit.inBlock, if_true]
    refine DJ (st' := ⟨[(5, .c (.sl (5, 1000) 0 (Xu ts)))], [((5, 1000), some (Y4 ts))]⟩) (fun E => ?_) hj1 rfl fun a2 w2 hj2 => ?_
    · refine tk fun L hL => ?_
      refine dN 1 rfl ?_
      refine u0 ZW ?_
      refine dN 1 rfl ?_
      refine rt (hL _ ?_)
      refine Y6 (b := ((ts.length : Int) == 0)) rfl rfl (fun h => ?_) fun h => ?_
      · exfalso
        simp at h
        subst h
        simp at hn1
      · exact Qh ⟨rfl, QC.fit⟩
    refine DJ (st' := ⟨[(4, .c (.sl (5, 1000) 0 (Xu ts)))], [((5, 1000), some (Y4 ts))]⟩) (fun E => tE rfl ⟨rfl, QC.fit⟩) hj2 rfl fun a3 w3 hj3 => ?_
    exact wp_ret (hfin a3 w3 ts gs hn1 hn4 hG hj3)
end
set_option maxRecDepth 100000
set_option maxHeartbeats 4000000
section
variable {w w0 : World} {A A' : Nat → Prop}
theorem Gi {g e cap : Nat} {rows rows' : List (List PV)} (h : U3 w A g e rows) (hg : A' g) (hl : rows'.length = rows.length) (he : ∀ r ∈ rows', r.length = e) (hc1 : rows'.length ≤ cap) (hc2 : cap ≤ maxLen)
    (hp : ∀ (i : Nat) r (k : Nat) p, rows'[i]? = some r → r[k]? = some p → ∃ r0 p0, rows[i]? = some r0 ∧ r0[k]? = some p0 ∧ ∀ v, RP w A p0 v → RP w A' p v) : RP w A' (.l e rows') (.slice (some ⟨g, 0, none⟩) rows'.length cap) := by
  obtain ⟨h0, h1, c, el, capR, h2, h3, h4, h5, h6⟩ := h
  have hlt : g < w.heap.size := by
    rcases Nat.lt_or_ge g w.heap.size with h | h
    · exact h
    · rw [Array.getElem?_eq_none h] at h2; cases h2
  refine .l e rows' _ cap (fun i k => c.getD (i * e + k) undef) hc1 hc2 he (.inr ⟨g, 0, rfl, hg, hlt, fun i r k p hi hk => ?_⟩) fun i r k p hi hk => ?_
  · obtain ⟨r0, p0, e1, e2, e3⟩ := hp i r k p hi hk
    obtain ⟨cv, e4, e5⟩ := h6 i r0 k p0 e1 e2
    rw [Nat.zero_add]
    simp only [World.cell?, h2, Array.getD_eq_getD_getElem?, e4, Option.getD_some]
    rfl
  · obtain ⟨r0, p0, e1, e2, e3⟩ := hp i r k p hi hk
    obtain ⟨cv, e4, e5⟩ := h6 i r0 k p0 e1 e2
    simp only [Array.getD_eq_getD_getElem?, e4, Option.getD_some]
    exact e3 _ e5
theorem LI {g e cap : Nat} {rows : List (List PV)} (h : U3 w A g e rows) (hA : ∀ x, A x → A' x) (hg : A' g) (hc1 : rows.length ≤ cap) (hc2 : cap ≤ maxLen) : RP w A' (.l e rows) (.slice (some ⟨g, 0, none⟩) rows.length cap) :=
  Gi h hg rfl h.2.1 hc1 hc2 fun i r k p hi hk => ⟨r, p, hi, hk, fun v hv => hv.mono hA (Nat.le_refl _) fun _ _ _ => rfl⟩
def SesR (w : World) (A' : Nat → Prop) (x : Qg) (s : Q3) : Prop :=
  LF s ∧ ∃ S C, s = Q3.mk x.fb2 x.fOp x.fk x.fb0 S C ∧ RP w A' (.l 3 (List.map QE S)) x.f3 ∧ RP w A' (.l 4 (List.map QW C)) x.f9
def PY (x : Qg) : List PV := (Z9 x).take 95
theorem pre_o (x : Qg) : Z9 x = PY x ++ [.o x.f3, .o x.f9] := rfl
theorem pre_s (x : Qg) (S : List Qx) (C : List QG) : Qv (Q3.mk x.fb2 x.fOp x.fk x.fb0 S C) = PY x ++ [.l 3 (List.map QE S), .l 4 (List.map QW C)] := rfl
theorem H8 (x : Qg) : (PY x).length = 95 := rfl
theorem rp_o {x v : Value} (h : RP w A (.o x) v) : v = x := by cases h; rfl
theorem Nw {x : Qg} {s : Q3} (h : SesR w A' x s) (hA : ∀ g, A g → A' g) {k : Nat} {p : PV} (hk : (Qv s)[k]? = some p) : ∃ p0, (Z9 x)[k]? = some p0 ∧ ∀ v, RP w A p0 v → RP w A' p v := by
  obtain ⟨-, S, C, rfl, h1, h2⟩ := h
  rw [pre_s] at hk
  rw [pre_o]
  by_cases hl : k < 95
  · rw [List.getElem?_append_left (by rw [H8]; exact hl)] at hk ⊢
    exact ⟨p, hk, fun v hv => hv.mono hA (Nat.le_refl _) fun _ _ _ => rfl⟩
  · rw [List.getElem?_append_right (by rw [H8]; omega), H8] at hk ⊢
    match hd : k - 95, hk with
    | 0, hk =>
      cases hk
      refine ⟨_, rfl, fun v hv => ?_⟩
      rw [rp_o hv]; exact h1
    | 1, hk =>
      cases hk
      refine ⟨_, rfl, fun v hv => ?_⟩
      rw [rp_o hv]; exact h2
    | n + 2, hk => simp at hk
theorem Ie {α β : Type} {R : α → β → Prop} : ∀ {l : List α}, (∀ x ∈ l, ∃ y, R x y) → ∃ r : List β, r.length = l.length ∧ ∀ (i : Nat) y, r[i]? = some y → ∃ x, l[i]? = some x ∧ R x y
  | [], _ => ⟨[], rfl, fun i y h => by simp at h⟩
  | x :: l, h => by
    obtain ⟨y, hy⟩ := h x (by simp)
    obtain ⟨r, h1, h2⟩ := Ie (l := l) fun z hz => h z (by simp [hz])
    refine ⟨y :: r, by simp [h1], fun i z hz => ?_⟩
    cases i with
    | zero => simp at hz; subst hz; exact ⟨x, rfl, hy⟩
    | succ i => simp at hz; simpa using h2 i z hz
def Nx (r : List Q3) : Prop := 1 ≤ r.length ∧ r.length ≤ 4 ∧ ∀ s ∈ r, LF s
def LJ (w0 : World) (A0 : Nat → Prop) (w : World) (v : Value) (r : List Q3) : Prop :=
  Nx r ∧ ∃ A : Nat → Prop, RP w A (.l 97 (List.map Qv r)) v ∧ w0.heap.size ≤ w.heap.size ∧ (∀ g, g < w0.heap.size → w.heap[g]? = w0.heap[g]?) ∧ (∀ g, A0 g → A g) ∧ (∀ g, A g → g < w.heap.size ∧ (A0 g ∨ w0.heap.size ≤ g)) ∧ w.os = w0.os ∧ w.tape = w0.tape ∧ w.output = w0.output
theorem OC (s : Q3) : (Qv s).length = 97 := rfl
theorem Ny {ts : List Qg} {gs : List (Nat × Nat)} {a : Act} {A0 : Nat → Prop} (h1 : 1 ≤ ts.length) (h4 : ts.length ≤ 4) (hG : IV ts) (hj : JI w0 A0 nM ⟨[(4, .c (.sl (5, 1000) 0 (Xu ts)))], [((5, 1000), some (Y4 ts))]⟩ ts gs a w) : ∃ r, LJ w0 A0 w (a.tmps.getD 4 undef) r := by
  obtain ⟨E, cx, hr, hi, hf⟩ := hj
  obtain ⟨g, c, e1, l1, m1, i1, r1, n1⟩ := LH hr (s := 4) (b := (5, 1000)) (e := 97) (rows := List.map Z9 ts) (m := Xu ts) rfl rfl (by simp; omega) (Nat.le_refl _)
  let A' : Nat → Prop := fun x => cx.A x ∨ x = g ∨ x ∈ I4 gs
  have hA : ∀ x, cx.A x → A' x := fun x hx => .inl hx
  have hex : ∀ x ∈ ts, ∃ s, SesR w A' x s := by
    intro x hx
    obtain ⟨k, hk, rfl⟩ := List.getElem_of_mem hx
    have hkg : k < gs.length := by rw [hi.len]; exact hk
    have hm : gs[k] ∈ gs := List.getElem_mem hkg
    obtain ⟨⟨c1, S, e2, l2, m2, n2, d2, r2⟩, c2, C, e3, l3, m3, n3, r3⟩ := hi.els k _ _ (List.getElem?_eq_getElem hk) (List.getElem?_eq_getElem hkg)
    obtain ⟨g1, g2⟩ := hG _ hx
    refine ⟨Q3.mk ts[k].fb2 ts[k].fOp ts[k].fk ts[k].fb0 S C, ⟨g1, g2, by rw [n2]; decide, by rw [n3]; decide, fun s hs => Nat.le_trans (d2 s hs) (by decide)⟩, S, C, rfl, ?_, ?_⟩
    · have := LI (cap := c1) r2 hA (.inr (.inr (JV.2 ⟨_, hm, .inl rfl⟩))) (by simpa [n2] using l2) m2
      rw [e2]
      simpa [n2] using this
    · have := LI (cap := c2) r3 hA (.inr (.inr (JV.2 ⟨_, hm, .inr rfl⟩))) (by simpa [n3] using l3) m3
      rw [e3]
      simpa [n3] using this
  obtain ⟨r, hl, hpr⟩ := Ie hex
  refine ⟨r, ⟨by omega, by omega, fun s hs => ?_⟩, A', ?_, hf.sz, hf.kept, fun x hx => .inl (hf.A x hx), ?_, hf.os, hf.tape, hf.output⟩
  · obtain ⟨k, hk, rfl⟩ := List.getElem_of_mem hs
    obtain ⟨x, _, h2⟩ := hpr k _ (List.getElem?_eq_getElem hk)
    exact h2.1
  · have hlen : (List.map Qv r).length = Xu ts := by simp [Xu, hl]
    have := Gi (A' := A') (rows' := List.map Qv r) (cap := c) r1 (.inr (.inl rfl)) (by simpa using hl) (fun y hy => by
      obtain ⟨s, _, rfl⟩ := List.mem_map.1 hy
      exact OC s) (by rw [hlen]; exact l1) m1 (fun i y k p hi2 hk => by
      rw [List.getElem?_map, Option.map_eq_some_iff] at hi2
      obtain ⟨s, hs, rfl⟩ := hi2
      obtain ⟨x, hx, hR⟩ := hpr i s hs
      obtain ⟨p0, h5, h6⟩ := Nw hR hA hk
      exact ⟨_, p0, by rw [List.getElem?_map, hx]; rfl, h5, h6⟩)
    rw [e1, ← hlen]
    exact this
  · rintro x (hx | rfl | hx)
    · exact ⟨(hr.A x hx).1, hf.A' x hx⟩
    · exact ⟨r1.lt, .inr (hf.own x ⟨(5, 1000), 0, (fun h => by cases h), i1⟩)⟩
    · exact ⟨hi.lt hx, .inr (hi.off x hx).2.2⟩
theorem IW {n : Int} {l : List Int} {lv : Value} {A0 : Nat → Prop} (hA : ∀ x, A0 x → x < w0.heap.size) (hn : Kw (.int .i64 n) = true) (hlv : RP w0 A0 (.l 1 (List.map (eI .i64) l)) lv) (hll : l.length ≤ 4611686018427387904) :
    Calls Tryz.prog 6 #[.int .i64 n, lv] w0 fun e w => ∃ v r, e = .returned v ∧ LJ w0 A0 w v r := by
  refine calls_of_wp Tryz.func6 rfl ?_
  refine Nv hA hn hlv hll (fun a w ts gs h1 h4 hG hj => ?_) _ rfl
  obtain ⟨r, hr⟩ := Ny h1 h4 hG hj
  obtain ⟨E, cx, hrel, _, _⟩ := hj
  exact bodyPost_ret (results_tmp rfl _ _ _) hrel.defers ⟨_, r, rfl, hr⟩
end
set_option maxRecDepth 100000
section
variable {ts : List Q3} {k i : Int} {o : Qp}
def UH (x : Q3) (o : Qp) (i : Int) : Q3 := Q3.mk true o Md i x.f3 x.f9
def H9 (x : Q3) : Q3 := Q3.mk false Ow Md 0 x.f3 x.f9
theorem PZ {m : Nat} (h : Ej m o) (hm : m ≤ 1000000) : Ma o := by
  obtain ⟨h1, h2, h3, h4, _⟩ := h
  exact ⟨by omega, by omega, by omega, by omega⟩
def D9 (ts : List Q3) : Prop := ts.length ≤ 4 ∧ ∀ s ∈ ts, LF s
theorem D9.set {n : Nat} {y : Q3} (h : D9 ts) (hy : LF y) : D9 (ts.set n y) := by
  refine ⟨by simpa using h.1, fun z hz => ?_⟩
  rcases List.mem_or_eq_of_mem_set hz with h1 | rfl
  · exact h.2 z h1
  · exact hy
theorem D9.nil : D9 [] := ⟨by decide, fun s h => by cases h⟩
theorem OD {x : Q3} (hx : LF x) (ho : Ma o) : LF (UH x o i) := ⟨ho, Ib, hx.2.2⟩
theorem OE {x : Q3} (hx : LF x) : LF (H9 x) := ⟨Nr, Ib, hx.2.2⟩
theorem c_in (h0 : 0 ≤ k) (h1 : k < ts.length) : (bif decide (k < 0) then true else decide (k ≥ (ts.length : Int))) = false := by
  have e1 : decide (k < 0) = false := by simp; omega
  have e2 : decide (k ≥ (ts.length : Int)) = false := by simp; omega
  rw [e1, e2]; rfl
theorem OX (h : ¬ (0 ≤ k ∧ k < ts.length)) : (bif decide (k < 0) then true else decide (k ≥ (ts.length : Int))) = true := by
  by_cases h0 : k < 0
  · have e1 : decide (k < 0) = true := by simpa using h0
    rw [e1]; rfl
  · have e1 : decide (k < 0) = false := by simpa using h0
    have e2 : decide (k ≥ (ts.length : Int)) = true := by simp; omega
    rw [e1, e2]; rfl
def BegP (ts : List Q3) (k : Int) (o : Qp) (i : Int) (r : List Q3 × Int) : Prop :=
  (¬ (0 ≤ k ∧ k < ts.length) ∧ r = ([], 5)) ∨ (0 ≤ k ∧ k < ts.length ∧ ((Jl o ≠ 0 ∧ r = ([], Jl o)) ∨ ∃ x, ix ts k x ∧ ((x.fb2 = true ∧ r = ([], 12)) ∨ r = (ts.set k.toNat (UH x o i), 0))))
theorem IX (h : D9 ts) (ho : Ma o) : ∃ r, Ze ts k o i r ∧ KW ts k o i r ∧ D9 r.1 ∧ BegP ts k o i r := by
  by_cases hk : 0 ≤ k ∧ k < ts.length
  · obtain ⟨h0, h1⟩ := hk
    have c1 := c_in h0 h1
    obtain ⟨x, hx⟩ : ∃ x, ts[k.toNat]? = some x := ⟨_, List.getElem?_eq_getElem (by omega)⟩
    have hxk : ix ts k x := ⟨h0, hx⟩
    have hsx := h.2 x (List.mem_of_getElem? hx)
    have hl := h.1
    by_cases hv : Jl o = 0
    · cases hb : x.fb2 with
      | true =>
        refine ⟨([], 12), ?_, ?_, D9.nil, .inr ⟨h0, h1, .inr ⟨x, hxk, .inl ⟨hb, rfl⟩⟩⟩⟩
        · unfold Ze Kh
          rw [c1]
          exact ⟨fun h => (by cases h), fun _ => ⟨Jl o, KY o, fun h => by simp [hv] at h, fun _ => ⟨x, hxk, fun _ => rfl, fun h => by simp [hb] at h⟩⟩⟩
        · unfold KW KV
          rw [c1]
          exact ⟨fun h => (by cases h), fun _ => ⟨Jl o, Vl o, fun h => by simp [hv] at h, fun _ => ⟨x, hxk, fun _ => rfl, fun h => by simp [hb] at h⟩⟩⟩
      | false =>
        refine ⟨(ts.set k.toNat (UH x o i), 0), ?_, ?_, h.set (OD hsx ho), .inr ⟨h0, h1, .inr ⟨x, hxk, .inr rfl⟩⟩⟩
        · unfold Ze Kh
          rw [c1]
          refine ⟨fun h => (by cases h), fun _ => ⟨Jl o, KY o, fun h => by simp [hv] at h, fun _ => ⟨x, hxk, fun h => by simp [hb] at h, fun _ => ⟨ts, CY ts (by omega) h.2, x, hxk, o, Cb o ho, ?_⟩⟩⟩⟩
          simp only [List.set_set]
          rfl
        · unfold KW KV
          rw [c1]
          refine ⟨fun h => (by cases h), fun _ => ⟨Jl o, Vl o, fun h => by simp [hv] at h, fun _ => ⟨x, hxk, fun h => by simp [hb] at h, fun _ => ⟨by omega, x, hxk, ?_⟩⟩⟩⟩
          simp only [List.set_set]
          rfl
    · refine ⟨([], Jl o), ?_, ?_, D9.nil, .inr ⟨h0, h1, .inl ⟨hv, rfl⟩⟩⟩
      · unfold Ze Kh
        rw [c1]
        exact ⟨fun h => (by cases h), fun _ => ⟨Jl o, KY o, fun _ => rfl, fun h => by simp [hv] at h⟩⟩
      · unfold KW KV
        rw [c1]
        exact ⟨fun h => (by cases h), fun _ => ⟨Jl o, Vl o, fun _ => rfl, fun h => by simp [hv] at h⟩⟩
  · have c1 := OX hk
    refine ⟨([], 5), ?_, ?_, D9.nil, .inl ⟨hk, rfl⟩⟩
    · unfold Ze Kh
      rw [c1]
      exact ⟨fun _ => rfl, fun h => (by cases h)⟩
    · unfold KW KV
      rw [c1]
      exact ⟨fun _ => rfl, fun h => (by cases h)⟩
def EndP (ts : List Q3) (k : Int) (r : List Q3 × Int) : Prop :=
  (¬ (0 ≤ k ∧ k < ts.length) ∧ r = ([], 5)) ∨ ∃ x, ix ts k x ∧ ((x.fb2 = false ∧ r = ([], 13)) ∨ (x.fb2 = true ∧ r = (ts.set k.toNat (H9 x), 0)))
theorem Nz (h : D9 ts) : ∃ r, K7 ts k r ∧ Vz ts k r ∧ D9 r.1 ∧ EndP ts k r := by
  by_cases hk : 0 ≤ k ∧ k < ts.length
  · obtain ⟨h0, h1⟩ := hk
    have c1 := c_in h0 h1
    obtain ⟨x, hx⟩ : ∃ x, ts[k.toNat]? = some x := ⟨_, List.getElem?_eq_getElem (by omega)⟩
    have hxk : ix ts k x := ⟨h0, hx⟩
    have hsx := h.2 x (List.mem_of_getElem? hx)
    have hl := h.1
    cases hb : x.fb2 with
    | false =>
      refine ⟨([], 13), ?_, ?_, D9.nil, .inr ⟨x, hxk, .inl ⟨hb, rfl⟩⟩⟩
      · unfold K7 Vj
        rw [c1]
        exact ⟨fun h => (by cases h), fun _ => ⟨x, hxk, fun _ => rfl, fun h => by simp [hb] at h⟩⟩
      · unfold Vz Vy
        rw [c1]
        exact ⟨fun h => (by cases h), fun _ => ⟨x, hxk, fun _ => rfl, fun h => by simp [hb] at h⟩⟩
    | true =>
      refine ⟨(ts.set k.toNat (H9 x), 0), ?_, ?_, h.set (OE hsx), .inr ⟨x, hxk, .inr ⟨hb, rfl⟩⟩⟩
      · unfold K7 Vj
        rw [c1]
        refine ⟨fun h => (by cases h), fun _ => ⟨x, hxk, fun h => by simp [hb] at h, fun _ => ⟨ts, CY ts (by omega) h.2, x, hxk, ?_⟩⟩⟩
        simp only [List.set_set]
        rfl
      · unfold Vz Vy
        rw [c1]
        refine ⟨fun h => (by cases h), fun _ => ⟨x, hxk, fun h => by simp [hb] at h, fun _ => ⟨by omega, x, hxk, ?_⟩⟩⟩
        simp only [List.set_set]
        rfl
  · have c1 := OX hk
    refine ⟨([], 5), ?_, ?_, D9.nil, .inl ⟨hk, rfl⟩⟩
    · unfold K7 Vj
      rw [c1]
      exact ⟨fun _ => rfl, fun h => (by cases h)⟩
    · unfold Vz Vy
      rw [c1]
      exact ⟨fun _ => rfl, fun h => (by cases h)⟩
end
set_option maxRecDepth 100000
set_option maxHeartbeats 4000000
section
variable {E : En} {N : Nat} {st : St} {cx : Cx} {a : Act} {w w' : World} {fr : List (Nat × TV)} {d : Nat} {v : Value} {r : List Q3}
theorem ev_p {c : Operand} {p : PV} (hr : ZQ E N cx st a w) (hb : st.ev c = .c (.p p)) (hc : Zq c = true) : RP w cx.A p (a.eval c) := by
  have := hr.ev hc
  rw [hb] at this
  exact this.2
theorem NA (hr : ZQ E N cx ⟨fr, []⟩ a w) (hp : Nt fr) (hd : d < N) (hm : LJ w cx.A w' v r) : ∃ cx', ZQ E N cx' ⟨(d, .c (.p (.l 97 (List.map Qv r)))) :: fr, []⟩ (a.put (some d) v) w' := by
  obtain ⟨-, A, hv, hsz, hkept, hA1, hA2, hos, htp, hou⟩ := hm
  have hg : ∀ s, (⟨(d, .c (.p (.l 97 (List.map Qv r)))) :: fr, []⟩ : St).g s = if s = d then .c (.p (.l 97 (List.map Qv r))) else (⟨fr, []⟩ : St).g s := by
    intro s
    rw [IE]
  refine ⟨⟨cx.ι, A⟩, hr.defers, by simp only [Act.put, Array.size_setIfInBounds]; exact hr.size, fun s => ?_, fun b bk hb => (by cases hb), fun b b' g1 o g2 o' hb => absurd rfl hb, fun b g1 o hb => absurd rfl hb, fun x hx => ⟨(hA2 x hx).1, ?_⟩, fun g hg => hA1 g (hr.A0 g hg), fun g h1 h2 => (hkept g (Nat.lt_of_lt_of_le h1 hr.sz)).trans (hr.kept g h1 h2), Nat.le_trans hr.sz hsz, hos.trans hr.os, htp.trans hr.tape, hou.trans hr.output, hr.hN, hr.pin⟩
  · rw [hg]
    by_cases e : s = d
    · subst e
      have e2 : (a.put (some s) v).tmps.getD s undef = v := Cq (o := (⟨some s, .move (.tmp 0), 0, "", #[], none⟩ : Oper)) rfl (by rw [hr.size]; exact hd)
      rw [if_pos rfl, e2]
      refine ⟨.inr (by cases hv; rfl), hv⟩
    · have e2 : (a.put (some d) v).tmps.getD s undef = a.tmps.getD s undef := put_eq (o := (⟨some d, .move (.tmp 0), 0, "", #[], none⟩ : Oper)) (fun h => e (Option.some.inj h).symm)
      rw [if_neg e, e2]
      have h1 := hr.fr s
      have h2 : (⟨fr, []⟩ : St).g s = (ZC fr s).getD (.c .any) := rfl
      rw [h2] at h1 ⊢
      cases hl : ZC fr s with
      | none => exact ⟨.inl rfl, trivial⟩
      | some t =>
        obtain ⟨p, hp'⟩ := hp _ (B2 hl)
        simp only at hp'
        subst hp'
        rw [hl] at h1
        exact ⟨h1.1, h1.2.mono hA1 hsz (fun x hx hl => hkept x hl)⟩
  · rcases (hA2 x hx).2 with h | h
    · exact (hr.A x h).2
    · exact .inr (.inl (Nat.le_trans hr.sz h))
end
set_option maxRecDepth 100000
set_option maxHeartbeats 4000000
theorem NB {E : En} {Q : Exit → St → Prop} {y : Code} {a0 : Int} {a1 : List Int} {a2 : Int} {a3 : Int} {R : Array Oper} (hll : a1.length ≤ 4611686018427387904) (hR : Tryz.f5.body.bind (BB 1) = some R) (k : ∀ r, Nx r → AW E 161 Tryz.prog y Q ⟨[(9, .c (.p (.l 97 (List.map Qv r)))), (0, .c (.p (.v (.int .i64 a0)))), (1, .c (.p (.l 1 (List.map (eI .i64) a1)))), (2, .c (.p (.v (.int .i64 a2)))), (3, .c (.p (.v (.int .i64 a3)))), (8, .c (.p (.v (.bool false))))], []⟩) :
    AW E 161 Tryz.prog (.seq (.region 1 R false) y) Q ⟨[(0, .c (.p (.v (.int .i64 a0)))), (1, .c (.p (.l 1 (List.map (eI .i64) a1)))), (2, .c (.p (.v (.int .i64 a2)))), (3, .c (.p (.v (.int .i64 a3)))), (8, .c (.p (.v (.bool false))))], []⟩ := by
  cases hR
  intro cx a w hr
  refine wp_seq (wp_region ?_)
  show wpOps _ _ _ [0, 1, 2, 3] _ _
  rw [wpOps_cons]
  refine Kb hr rfl rfl (Q8 rfl rfl) rfl rfl fun cx2 ac2 w2 hr2 => ?_
  rw [wpOps_cons]
  refine Kb hr2 rfl rfl (Q8 rfl rfl) rfl rfl fun cx3 ac3 w3 hr3 => ?_
  rw [wpOps_cons]
  have e0 := Ns (c := .tmp 16) (y := .int .i64 a0) hr3 rfl rfl
  have e1 := ev_p (c := .tmp 17) (p := .l 1 (List.map (eI .i64) a1)) hr3 rfl rfl
  have h0 : RP w3 cx3.A (.v (.int .i64 a0)) (ac3.eval (.tmp 16)) := ev_p (c := .tmp 16) hr3 rfl rfl
  have hn : Kw (.int .i64 a0) = true := by
    revert h0
    generalize ac3.eval (.tmp 16) = z
    intro h0
    cases h0 with | v _ h => exact h
  have hc3 := hr3.cut (fr' := [(0, .c (.p (.v (.int .i64 a0)))), (1, .c (.p (.l 1 (List.map (eI .i64) a1)))), (2, .c (.p (.v (.int .i64 a2)))), (3, .c (.p (.v (.int .i64 a3)))), (8, .c (.p (.v (.bool false))))]) (H' := []) ⟨rfl, rfl, rfl, rfl, rfl, trivial⟩ trivial
  refine Ic rfl (by kernel_rfl) (R := fun e w => ∃ v r, e = .returned v ∧ LJ w3 cx3.A w v r) ?_ ?_
  · have exs : (#[Operand.tmp 16, Operand.tmp 17] : Array Operand).map ac3.eval = #[Value.int .i64 a0, ac3.eval (.tmp 17)] := by simp only [List.map_toArray, List.map_cons, List.map_nil, e0]
    refine exs ▸ ?_
    exact IW (fun x hx => (hr3.A x hx).1) hn e1 hll
  rintro e w4 ⟨v, r, rfl, hm⟩
  refine ⟨v, rfl, ?_⟩
  obtain ⟨cx4, hr4⟩ := NA (d := 18) hc3 (by intro x hx; simp at hx; rcases hx with rfl | rfl | rfl | rfl | rfl <;> exact ⟨_, rfl⟩) (by decide) hm
  rw [wpOps_cons]
  refine Kb hr4 rfl rfl (WH rfl rfl) rfl rfl fun cx5 ac5 w5 hr5 => ?_
  have hc5 := hr5.cut (fr' := [(9, .c (.p (.l 97 (List.map Qv r)))), (0, .c (.p (.v (.int .i64 a0)))), (1, .c (.p (.l 1 (List.map (eI .i64) a1)))), (2, .c (.p (.v (.int .i64 a2)))), (3, .c (.p (.v (.int .i64 a3)))), (8, .c (.p (.v (.bool false))))]) (H' := []) ⟨rfl, rfl, rfl, rfl, rfl, rfl, trivial⟩ trivial
  exact k r hm.1 _ _ _ hc5
def Xz (a0 : Int) (a1 : (List Int)) (a2 : Int) (a3 : Int) (Q : Bool → Prop) : Prop :=
 ∀ (v1 : (List Q3)), Nx v1 → ∃ (v2 : Qp), WM (a1) (QV .i64 (a3) (7)) v2 ∧ ∃ (v3 : (List Q3) × Int), Ze (v1) (QV .i64 (a2) (3)) (Qp.mk (v2.fm) (v2.fb6) (v2.fj) (v2.fa0) v2.fb (v2.f8) (v2.fb3) (v2.fa1) (v2.fa9) (v2.fa4) (v2.fb4) (v2.fa5) (v2.f0) v2.fv (v2.fb5)) (QV .i64 (a3) (15)) v3 ∧ (((((v3.2) != (0))) = true → ∃ (v5 : Bool), (((bif ((((v3.2) == (5))) == (decide ((QV .i64 (a2) (3)) ≥ (((v1).length : Int))))) then (bif ((v3.2) == (5)) then true else ((v3.2) == (12))) else false)) = true → VW  v5) ∧ Q (((bif (bif ((((v3.2) == (5))) == (decide ((QV .i64 (a2) (3)) ≥ (((v1).length : Int))))) then (bif ((v3.2) == (5)) then true else ((v3.2) == (12))) else false) then v5 else false)))) ∧ ((((v3.2) != (0))) = false → ∃ (v6 : (List Q3) × Int), K7 (v3.1) (QV .i64 (a2) (3)) v6 ∧ ∃ (v8 : Q3), ((!((bif (bif (bif ((v6.2) != (0)) then true else decide ((QV .i64 (a2) (3)) ≥ (((v1).length : Int)))) then true else ((((v3.1).length : Int)) != (((v1).length : Int)))) then true else ((((v6.1).length : Int)) != (((v1).length : Int)))))) = true → ix (v3.1) (QV .i64 (a2) (3)) v8) ∧ ∃ (v9 : Q3), ((!((bif (bif (bif (bif ((v6.2) != (0)) then true else decide ((QV .i64 (a2) (3)) ≥ (((v1).length : Int)))) then true else ((((v3.1).length : Int)) != (((v1).length : Int)))) then true else ((((v6.1).length : Int)) != (((v1).length : Int)))) then true else !(v8.fb2)))) = true → ix (v6.1) (QV .i64 (a2) (3)) v9) ∧ ((((bif (bif (bif (bif (bif ((v6.2) != (0)) then true else decide ((QV .i64 (a2) (3)) ≥ (((v1).length : Int)))) then true else ((((v3.1).length : Int)) != (((v1).length : Int)))) then true else ((((v6.1).length : Int)) != (((v1).length : Int)))) then true else !(v8.fb2)) then true else v9.fb2)) = true → Q ((false))) ∧ (((bif (bif (bif (bif (bif ((v6.2) != (0)) then true else decide ((QV .i64 (a2) (3)) ≥ (((v1).length : Int)))) then true else ((((v3.1).length : Int)) != (((v1).length : Int)))) then true else ((((v6.1).length : Int)) != (((v1).length : Int)))) then true else !(v8.fb2)) then true else v9.fb2)) = false → jn (fun (p10 : Unit) => ∃ (v25 : Bool), VW  v25 ∧ Q ((v25))) (fun (J10 : Unit → Prop) => lp (fun (X11 : (List Q3) × (List Q3) × Int → Prop) (s11 : (List Q3) × (List Q3) × Int) => (((decide ((s11.2.2) < (((v1).length : Int)))) = true → ∃ (v14 : Q3), ix (s11.1) (s11.2.2) v14 ∧ ∃ (v15 : Q3), ix (v1) (s11.2.2) v15 ∧ ∃ (v16 : Bool), KC (v14.f3) (v15.f3) v16 ∧ ∃ (v17 : Q3), ((!(!(v16))) = true → ix (s11.2.1) (s11.2.2) v17) ∧ ∃ (v18 : Q3), ((!(!(v16))) = true → ix (v1) (s11.2.2) v18) ∧ ∃ (v19 : Bool), ((!(!(v16))) = true → Ji (v17.f9) (v18.f9) v19) ∧ ∃ (v20 : Q3), (((!((bif !(v16) then true else !(v19))) && ((s11.2.2) != (QV .i64 (a2) (3))))) = true → ix (s11.1) (s11.2.2) v20) ∧ ∃ (v21 : Q3), (((!((bif !(v16) then true else !(v19))) && ((s11.2.2) != (QV .i64 (a2) (3))))) = true → ix (v1) (s11.2.2) v21) ∧ ∃ (v22 : Q3), ((((!((bif !(v16) then true else !(v19))) && ((s11.2.2) != (QV .i64 (a2) (3)))) && !((!((v20.fb2) == (v21.fb2)))))) = true → ix (s11.1) (s11.2.2) v22) ∧ ∃ (v23 : Q3), ((((!((bif !(v16) then true else !(v19))) && ((s11.2.2) != (QV .i64 (a2) (3)))) && !((!((v20.fb2) == (v21.fb2)))))) = true → ix (v1) (s11.2.2) v23) ∧ ∃ (v24 : Bool), ((((!((bif !(v16) then true else !(v19))) && ((s11.2.2) != (QV .i64 (a2) (3)))) && !((!((v20.fb2) == (v21.fb2)))))) = true → YL v22.fOp v23.fOp v24) ∧ ((((bif (bif !(v16) then true else !(v19)) then true else (bif ((s11.2.2) != (QV .i64 (a2) (3))) then (bif (!((v20.fb2) == (v21.fb2))) then true else !(v24)) else false))) = true → Q ((false))) ∧ (((bif (bif !(v16) then true else !(v19)) then true else (bif ((s11.2.2) != (QV .i64 (a2) (3))) then (bif (!((v20.fb2) == (v21.fb2))) then true else !(v24)) else false))) = false → X11 ((s11.1), (s11.2.1), (IntKind.i64.wrap ((s11.2.2) + (1))))))) ∧ ((decide ((s11.2.2) < (((v1).length : Int)))) = false → J10 (())))) ((v3.1), (v6.1), (0)))))))
def JW (a0 : Int) (a1 : (List Int)) (a2 : Int) (a3 : Int) (r : Bool) : Prop := Xz a0 a1 a2 a3 fun x => r = x
theorem AY {a0 : Int} {a1 : (List Int)} {a2 : Int} {a3 : Int} {r : Bool} (hll : a1.length ≤ 4611686018427387904) (h : JW a0 a1 a2 a3 r) : Qr Tryz.prog 5 [.c (.v (.int .i64 (a0))), .c (.l 1 (List.map (eI .i64) (a1))), .c (.v (.int .i64 (a2))), .c (.v (.int .i64 (a3)))] [.c (.p (.v (.bool (r))))] [] := by
  refine Qn tb Tryz.func5 rfl (by kernel_rfl) rfl rfl (Nat.le_of_ble_eq_true rfl) rfl ?_
  intro E
  unfold JW Xz at h
  refine Z5 (fun Q hQ => ?_)
  refine tD rfl ?_
  refine QP (st' := ⟨[(0, .c (.p (.v (.int .i64 a0)))), (1, .c (.p (.l 1 (List.map (eI .i64) a1)))), (2, .c (.p (.v (.int .i64 a2)))), (3, .c (.p (.v (.int .i64 a3)))), (8, .c (.p (.v (.bool false))))], []⟩) QC.fit ?_
  refine NB hll rfl fun v1 hv1 => ?_
  replace h := h v1 hv1
  refine tD rfl ?_
  refine tk fun L hL => ?_
  refine dN 5 rfl ?_
  obtain ⟨v2, hv2, h⟩ := h
  refine ul (ZB (Gf hv2)) ?_
  refine dN 2 rfl ?_
  obtain ⟨v3, hv3, h⟩ := h
  refine ul (Xg (W6 hv3) rfl rfl (.cons (.c (.p _)) (.cons (.c (.p _)) (.cons (.agg (.cons (.p _) (.cons (.p _) (.cons (.p _) (.cons (.p _) (.cons (.p _) (.cons (.p _) (.cons (.p _) (.cons (.p _) (.cons (.fr rfl (QI rfl)) (.cons (.p _) (.cons (.p _) (.cons (.p _) (.cons (.p _) (.cons (.p _) (.cons (.p _) (.cons (.p _) (.cons (.p _) (.cons (.p _) (.cons (.p _) (.cons (.p _) (.cons (.p _) (.cons (.fr rfl (QI rfl)) .nil))))))))))))))))))))))) (.cons (.c (.p _)) .nil))))) ?_
  refine dN 5 rfl ?_
  refine rt (hL _ ?_)
  refine sk fun L4 hL4 => ?_
  refine tD rfl ?_
  refine cn h (fun h => ?_) fun h => ?_
  · refine tk fun L hL => ?_
    refine dN 4 rfl ?_
    refine u0 QA ?_
    refine dN 3 rfl ?_
    refine Q2 rfl rfl Qe (fun hg => Q8 rfl rfl) ?_
    refine Q2 rfl rfl Qe (fun hg => Qz (c := ((v3.2) == (5))) (Qd hg) rfl rfl rfl rfl) ?_
    refine Q2 rfl rfl Qe (fun hg => Q8 (Qd hg) rfl) ?_
    refine Qy rfl rfl Zh (fun hg => Q8 rfl rfl) ?_
    refine Qy rfl rfl Zh (fun hg => Qz (c := ((v3.2) == (12))) (Qd hg) rfl rfl rfl rfl) ?_
    refine Q2 rfl rfl Qe (fun hg => Ql (v := .bool (true)) (w := .bool (((v3.2) == (12)))) (Qd hg) rfl (WR hg) rfl Qw rfl rfl rfl) ?_
    refine u0 (Qm (v := .bool ((bif ((v3.2) == (5)) then true else ((v3.2) == (12))))) (w := .bool (false)) rfl rfl Qe rfl Qw) ?_
    refine dN 1 rfl ?_
    obtain ⟨v5, hv5, h⟩ := h
    refine Q2 rfl rfl Qe (fun hg => QN (Bw (hv5 hg)) rfl rfl .nil rfl rfl rfl) ?_
    refine u0 (Qm (v := .bool (v5)) (w := .bool (false)) rfl rfl Qe rfl Qw) ?_
    refine dN 1 rfl ?_
    refine rt (hL _ ?_)
    refine QP (st' := ⟨[(8, .c (.p (.v (.bool ((bif (bif ((((v3.2) == (5))) == (decide ((QV .i64 (a2) (3)) ≥ (((v1).length : Int))))) then (bif ((v3.2) == (5)) then true else ((v3.2) == (12))) else false) then v5 else false))))))], []⟩) QC.fit ?_
    obtain rfl := h
    exact Qf (hQ _ _ ⟨.inr rfl, _, _, _, (.cons (.p rfl) .nil), (.cons (.c (.p _)) .nil), rfl, rfl⟩)
  · refine Qh (hL4 _ ?_)
    refine tk fun L hL => ?_
    refine dN 2 rfl ?_
    obtain ⟨v6, hv6, h⟩ := h
    refine ul (Xg (AM hv6) rfl rfl (.cons (.c (.fr rfl (QI rfl))) (.cons (.c (.p _)) .nil))) ?_
    refine dN 5 rfl ?_
    refine rt (hL _ ?_)
    refine sk fun L7 hL7 => ?_
    refine tk fun L hL => ?_
    refine dN 3 rfl ?_
    refine Q2 rfl rfl Q5 (fun hg => Q8 rfl rfl) ?_
    refine Q2 rfl rfl Q5 (fun hg => Q8 rfl rfl) ?_
    refine Q2 rfl rfl Q5 (fun hg => QA (Qd hg) rfl rfl rfl) ?_
    refine Q2 rfl rfl Q5 (fun hg => Qz (c := decide ((QV .i64 (a2) (3)) ≥ (((v1).length : Int)))) (Qd hg) (Qd hg) rfl rfl rfl) ?_
    refine u0 (Ql (v := .bool (true)) (w := .bool (decide ((QV .i64 (a2) (3)) ≥ (((v1).length : Int))))) rfl rfl Q5 rfl Qw) ?_
    refine dN 1 rfl ?_
    refine Q2 rfl rfl Q5 (fun hg => Q8 rfl rfl) ?_
    refine Q2 rfl rfl Q5 (fun hg => ZW (Qd hg) rfl rfl rfl rfl rfl) ?_
    refine Q2 rfl rfl Q5 (fun hg => Q8 rfl rfl) ?_
    refine Q2 rfl rfl Q5 (fun hg => QA (Qd hg) rfl rfl rfl) ?_
    refine Q2 rfl rfl Q5 (fun hg => Qz (c := ((((v3.1).length : Int)) != (((v1).length : Int)))) (Qd hg) (Qd hg) rfl rfl rfl) ?_
    refine u0 (Ql (v := .bool (true)) (w := .bool (((((v3.1).length : Int)) != (((v1).length : Int))))) rfl rfl Q5 rfl Qw) ?_
    refine dN 1 rfl ?_
    refine Q2 rfl rfl Q5 (fun hg => Q8 rfl rfl) ?_
    refine Q2 rfl rfl Q5 (fun hg => ZW (Qd hg) rfl rfl rfl rfl rfl) ?_
    refine Q2 rfl rfl Q5 (fun hg => Q8 rfl rfl) ?_
    refine Q2 rfl rfl Q5 (fun hg => QA (Qd hg) rfl rfl rfl) ?_
    refine Q2 rfl rfl Q5 (fun hg => Qz (c := ((((v6.1).length : Int)) != (((v1).length : Int)))) (Qd hg) (Qd hg) rfl rfl rfl) ?_
    refine u0 (Ql (v := .bool (true)) (w := .bool (((((v6.1).length : Int)) != (((v1).length : Int))))) rfl rfl Q5 rfl Qw) ?_
    refine dN 1 rfl ?_
    refine Q2 rfl rfl Q5 (fun hg => Q8 rfl rfl) ?_
    refine Q2 rfl rfl Q5 (fun hg => Q8 rfl rfl) ?_
    obtain ⟨v8, hv8, h⟩ := h
    refine Q2 rfl rfl Q5 (fun hg => QU (hv8 hg) (Qd hg) rfl rfl (Qd hg) rfl rfl rfl rfl rfl rfl) ?_
    refine Q2 rfl rfl Q5 (fun hg => Qc (Qd hg) rfl rfl rfl rfl rfl rfl rfl rfl) ?_
    refine Q2 rfl rfl Q5 (fun hg => QY (Qd hg) rfl (gm (hv8 hg).2) rfl rfl rfl rfl) ?_
    refine Q2 rfl rfl Q5 (fun hg => Z4 (Qd hg) rfl rfl) ?_
    refine u0 (Ql (v := .bool (true)) (w := .bool (!(v8.fb2))) rfl rfl Q5 rfl Qw) ?_
    refine dN 1 rfl ?_
    refine Q2 rfl rfl Q5 (fun hg => Q8 rfl rfl) ?_
    refine Q2 rfl rfl Q5 (fun hg => Q8 rfl rfl) ?_
    obtain ⟨v9, hv9, h⟩ := h
    refine Q2 rfl rfl Q5 (fun hg => QU (hv9 hg) (Qd hg) rfl rfl (Qd hg) rfl rfl rfl rfl rfl rfl) ?_
    refine Q2 rfl rfl Q5 (fun hg => Qc (Qd hg) rfl rfl rfl rfl rfl rfl rfl rfl) ?_
    refine Q2 rfl rfl Q5 (fun hg => QY (Qd hg) rfl (gm (hv9 hg).2) rfl rfl rfl rfl) ?_
    refine u0 (Ql (v := .bool (true)) (w := .bool (v9.fb2)) rfl rfl Q5 rfl Qw) ?_
    refine rt (hL _ ?_)
    refine QP (st' := ⟨[(9, .c (.p (.l 97 (List.map Qv (v1))))), (10, .c (.p (.v (.int .i64 (QV .i64 (a2) (3)))))), (11, .c (.sl (30, 0) 0 (List.map Qv (v3.1)).length)), (13, .c (.sl (56, 0) 0 (List.map Qv (v6.1)).length)), (95, .c (.p (.v (.bool ((bif (bif (bif (bif (bif ((v6.2) != (0)) then true else decide ((QV .i64 (a2) (3)) ≥ (((v1).length : Int)))) then true else ((((v3.1).length : Int)) != (((v1).length : Int)))) then true else ((((v6.1).length : Int)) != (((v1).length : Int)))) then true else !(v8.fb2)) then true else v9.fb2))))))], [((30, 0), some (.row 97 (List.map Qv (v3.1)) false)), ((56, 0), some (.row 97 (List.map Qv (v6.1)) true))]⟩) QC.fit ?_
    refine cn h (fun h => ?_) fun h => ?_
    · refine tD rfl ?_
      obtain rfl := h
      exact Qf (hQ _ _ ⟨.inr rfl, _, _, _, (.cons (.p rfl) .nil), (.cons (.c (.p _)) .nil), rfl, rfl⟩)
    · refine Qh (hL7 _ ?_)
      refine Z6 (fun (p10 : Unit) => (⟨[], []⟩ : St)) h (fun p10 h => ?_) (fun J10 L10 hL10 h => ?_)
      · refine tk fun L hL => ?_
        obtain ⟨v25, hv25, h⟩ := h
        refine u0 (QO (Bw hv25)) ?_
        refine dN 1 rfl ?_
        refine rt (hL _ ?_)
        obtain rfl := h
        exact Qf (hQ _ _ ⟨.inr rfl, _, _, _, (.cons (.p rfl) .nil), (.cons (.c (.p _)) .nil), rfl, rfl⟩)
      · refine tD rfl ?_
        refine Qt ?_
        refine Zr (fun (s11 : (List Q3) × (List Q3) × Int) => (⟨[(9, .c (.p (.l 97 (List.map Qv (v1))))), (10, .c (.p (.v (.int .i64 (QV .i64 (a2) (3)))))), (11, .c (.p (.l 97 (List.map Qv (s11.1))))), (13, .c (.sl (13, 1000) 0 (List.map Qv (s11.2.1)).length)), (15, .c (.p (.v (.int .i64 (s11.2.2)))))], [((13, 1000), some (.row 97 (List.map Qv (s11.2.1)) true))]⟩ : St)) h ((QC.slot 11 rfl (.fr (b := (30, 0)) rfl (QI rfl))).trans (QC.nm [9, 10, 11, 13, 15] [((56, 0), (13, 1000))] rfl (by kernel_rfl))) (fun X11 L11 hL11 s11 h => ?_)
        refine sk fun L12 hL12 => ?_
        refine tk fun L hL => ?_
        refine dN 2 rfl ?_
        refine u0 QA ?_
        refine dN 1 rfl ?_
        refine rt (hL _ ?_)
        refine cn h (fun h => ?_) fun h => ?_
        · refine Qh (hL12 _ ?_)
          refine sk fun L13 hL13 => ?_
          refine Qt ?_
          refine dk mixed (fun L hL => ?_)
          refine dN 2 rfl ?_
          obtain ⟨v14, hv14, h⟩ := h
          refine u0 (QD hv14) ?_
          refine dN 4 rfl ?_
          obtain ⟨v15, hv15, h⟩ := h
          refine u0 (QD hv15) ?_
          refine dN 2 rfl ?_
          obtain ⟨v16, hv16, h⟩ := h
          refine u0 (QO (An hv16)) ?_
          refine dN 2 rfl ?_
          refine Q2 rfl rfl Q5 (fun hg => Q8 rfl rfl) ?_
          refine Q2 rfl rfl Q5 (fun hg => Q8 rfl rfl) ?_
          obtain ⟨v17, hv17, h⟩ := h
          refine Q2 rfl rfl Q5 (fun hg => QU (hv17 hg) (Qd hg) rfl rfl (Qd hg) rfl rfl rfl rfl rfl rfl) ?_
          refine Q2 rfl rfl Q5 (fun hg => Qc (Qd hg) rfl rfl rfl rfl rfl rfl rfl rfl) ?_
          refine Q2 rfl rfl Q5 (fun hg => QY (Qd hg) rfl (gm (hv17 hg).2) rfl rfl rfl rfl) ?_
          refine Q2 rfl rfl Q5 (fun hg => Q8 rfl rfl) ?_
          refine Q2 rfl rfl Q5 (fun hg => Q8 rfl rfl) ?_
          obtain ⟨v18, hv18, h⟩ := h
          refine Q2 rfl rfl Q5 (fun hg => QD (hv18 hg) (Qd hg) (Qd hg) rfl rfl rfl rfl rfl rfl) ?_
          refine Q2 rfl rfl Q5 (fun hg => Jb (Qd hg) rfl rfl rfl rfl rfl rfl rfl) ?_
          refine Q2 rfl rfl Q5 (fun hg => Zz (Qd hg) rfl rfl rfl rfl) ?_
          obtain ⟨v19, hv19, h⟩ := h
          refine Q2 rfl rfl Q5 (fun hg => QN (Be (hv19 hg)) rfl rfl (.cons (Zn hg (.c (.p _))) (.cons (Zn hg (.c (.p _))) .nil)) rfl rfl rfl) ?_
          refine Q2 rfl rfl Q5 (fun hg => Z4 (Qd hg) rfl rfl) ?_
          refine u0 (Ql (v := .bool (true)) (w := .bool (!(v19))) rfl rfl Q5 rfl Qw) ?_
          refine dN 1 rfl ?_
          refine Q2 rfl rfl Q5 (fun hg => Q8 rfl rfl) ?_
          refine Q2 rfl rfl Q5 (fun hg => Q8 rfl rfl) ?_
          refine Q2 rfl rfl Q5 (fun hg => Qz (c := ((s11.2.2) != (QV .i64 (a2) (3)))) (Qd hg) (Qd hg) rfl rfl rfl) ?_
          refine Q2 rfl rfl Q5 (fun hg => Q8 (Qd hg) rfl) ?_
          refine Qy rfl rfl QH (fun hg => Q8 rfl rfl) ?_
          refine Qy rfl rfl QH (fun hg => Q8 rfl rfl) ?_
          obtain ⟨v20, hv20, h⟩ := h
          refine Qy rfl rfl QH (fun hg => QD (hv20 hg) (Qd hg) (Qd hg) rfl rfl rfl rfl rfl rfl) ?_
          refine Qy rfl rfl QH (fun hg => Jb (Qd hg) rfl rfl rfl rfl rfl rfl rfl) ?_
          refine Qy rfl rfl QH (fun hg => Zz (Qd hg) rfl rfl rfl rfl) ?_
          refine Qy rfl rfl QH (fun hg => Q8 rfl rfl) ?_
          refine Qy rfl rfl QH (fun hg => Q8 rfl rfl) ?_
          obtain ⟨v21, hv21, h⟩ := h
          refine Qy rfl rfl QH (fun hg => QD (hv21 hg) (Qd hg) (Qd hg) rfl rfl rfl rfl rfl rfl) ?_
          refine Qy rfl rfl QH (fun hg => Jb (Qd hg) rfl rfl rfl rfl rfl rfl rfl) ?_
          refine Qy rfl rfl QH (fun hg => Zz (Qd hg) rfl rfl rfl rfl) ?_
          refine Qy rfl rfl QH (fun hg => IG (Qd hg) (Qd hg) rfl rfl rfl rfl) ?_
          refine Qy rfl rfl QH (fun hg => Q8 (Qd hg) rfl) ?_
          refine Qy rfl rfl Zh (fun hg => Q8 rfl rfl) ?_
          refine Qy rfl rfl Zh (fun hg => Q8 rfl rfl) ?_
          obtain ⟨v22, hv22, h⟩ := h
          refine Qy rfl rfl Zh (fun hg => QD (hv22 hg) (Qd hg) (Qd hg) rfl rfl rfl rfl rfl rfl) ?_
          refine Qy rfl rfl Zh (fun hg => Jb (Qd hg) rfl rfl rfl rfl rfl rfl rfl) ?_
          refine Qy rfl rfl Zh (fun hg => Yx (Qd hg) rfl rfl rfl rfl rfl rfl) ?_
          refine Qy rfl rfl Zh (fun hg => Q8 rfl rfl) ?_
          refine Qy rfl rfl Zh (fun hg => Q8 rfl rfl) ?_
          obtain ⟨v23, hv23, h⟩ := h
          refine Qy rfl rfl Zh (fun hg => QD (hv23 hg) (Qd hg) (Qd hg) rfl rfl rfl rfl rfl rfl) ?_
          refine Qy rfl rfl Zh (fun hg => Jb (Qd hg) rfl rfl rfl rfl rfl rfl rfl) ?_
          refine Qy rfl rfl Zh (fun hg => Yx (Qd hg) rfl rfl rfl rfl rfl rfl) ?_
          obtain ⟨v24, hv24, h⟩ := h
          refine Qy rfl rfl Zh (fun hg => QN (GV (hv24 hg)) rfl rfl (.cons (Zn hg (.agg (.cons (.p _) (.cons (.p _) (.cons (.p _) (.cons (.p _) (.cons (.p _) (.cons (.p _) (.cons (.p _) (.cons (.p _) (.cons (.p _) (.cons (.p _) (.cons (.p _) (.cons (.p _) (.cons (.p _) (.cons (.p _) (.cons (.p _) (.cons (.p _) (.cons (.p _) (.cons (.p _) (.cons (.p _) (.cons (.p _) (.cons (.p _) (.cons (.p _) .nil)))))))))))))))))))))))) (.cons (Zn hg (.agg (.cons (.p _) (.cons (.p _) (.cons (.p _) (.cons (.p _) (.cons (.p _) (.cons (.p _) (.cons (.p _) (.cons (.p _) (.cons (.p _) (.cons (.p _) (.cons (.p _) (.cons (.p _) (.cons (.p _) (.cons (.p _) (.cons (.p _) (.cons (.p _) (.cons (.p _) (.cons (.p _) (.cons (.p _) (.cons (.p _) (.cons (.p _) (.cons (.p _) .nil)))))))))))))))))))))))) .nil)) rfl rfl rfl) ?_
          refine Qy rfl rfl Zh (fun hg => Z4 (Qd hg) rfl rfl) ?_
          refine Qy rfl rfl QH (fun hg => Ql (v := .bool (true)) (w := .bool (!(v24))) (Qd hg) rfl (WR hg) rfl Qw rfl rfl rfl) ?_
          refine Q2 rfl rfl Q5 (fun hg => Qm (v := .bool ((bif (!((v20.fb2) == (v21.fb2))) then true else !(v24)))) (w := .bool (false)) (Qd hg) rfl (Jj hg) rfl Qw rfl rfl rfl) ?_
          refine u0 (Ql (v := .bool (true)) (w := .bool ((bif ((s11.2.2) != (QV .i64 (a2) (3))) then (bif (!((v20.fb2) == (v21.fb2))) then true else !(v24)) else false))) rfl rfl Q5 rfl Qw) ?_
          refine rd (hL _ ?_)
          refine cn h (fun h => ?_) fun h => ?_
          · refine tD rfl ?_
            refine QP (st' := ⟨[(8, .c (.p (.v (.bool (false)))))], []⟩) QC.fit ?_
            obtain rfl := h
            exact Qf (hQ _ _ ⟨.inr rfl, _, _, _, (.cons (.p rfl) .nil), (.cons (.c (.p _)) .nil), rfl, rfl⟩)
          · refine Qh (hL13 _ ?_)
            refine QP (st' := ⟨[(9, .c (.p (.l 97 (List.map Qv (v1))))), (10, .c (.p (.v (.int .i64 (QV .i64 (a2) (3)))))), (11, .c (.p (.l 97 (List.map Qv (s11.1))))), (13, .c (.sl (13, 1000) 0 (List.map Qv (s11.2.1)).length)), (15, .c (.p (.v (.int .i64 (s11.2.2)))))], [((13, 1000), some (.row 97 (List.map Qv (s11.2.1)) true))]⟩) QC.fit ?_
            refine tE rfl (hL11 _ _ h QC.fit)
        · refine QQ (hL10 _ _ h QC.fit)
theorem AZ (n : Int) (l : List Int) (s m : Int) (hl : l.length ≤ 4611686018427387904) : JW n l s m true := by
  unfold JW Xz
  rintro v1 ⟨-, g4, gs⟩
  have hk := b3 s
  generalize QV .i64 s 3 = k at hk ⊢
  have hm : 0 ≤ QV .i64 m 7 ∧ QV .i64 m 7 ≤ 900 := by rw [bA7]; omega
  obtain ⟨o, ho, hv, hs⟩ := Gh l (QV .i64 m 7) hl hm.1 hm.2
  have hsm : Ma o := PZ hs (by omega)
  obtain ⟨r, r1, -, r3, hP⟩ := IX (k := k) (i := QV .i64 m 15) ⟨g4, gs⟩ hsm
  refine ⟨o, ho, r, r1, ?_⟩
  rcases hP with ⟨hout, rfl⟩ | ⟨h0, h1, ⟨hv2, rfl⟩ | ⟨x, hx, ⟨hb, rfl⟩ | rfl⟩⟩
  · have e : decide (k ≥ (v1.length : Int)) = true := by simp; omega
    refine ⟨fun _ => ⟨true, fun _ => Uu, by simp [e]⟩, fun c => by simp at c⟩
  · exact absurd hv hv2
  · have e : decide (k ≥ (v1.length : Int)) = false := by simp; omega
    refine ⟨fun _ => ⟨true, fun _ => Uu, by simp [e]⟩, fun c => by simp at c⟩
  · have e : decide (k ≥ (v1.length : Int)) = false := by simp; omega
    refine ⟨fun c => by simp at c, fun _ => ?_⟩
    have hxk : v1[k.toNat]? = some x := hx.2
    have hlt : k.toNat < v1.length := by omega
    have hx2 : ix (v1.set k.toNat (UH x o (QV .i64 m 15))) k (UH x o (QV .i64 m 15)) := ⟨h0, by simp [List.getElem?_set, hlt]⟩
    obtain ⟨q, q1, -, q3, hE⟩ := Nz (k := k) r3
    rcases hE with ⟨hout, rfl⟩ | ⟨y, hy, hcase⟩
    · exfalso
      apply hout
      simp
      omega
    have hyx : y = UH x o (QV .i64 m 15) := by
      have := hy.2.symm.trans hx2.2
      exact Option.some.inj this
    subst hyx
    rcases hcase with ⟨hbb, rfl⟩ | ⟨hbb, rfl⟩
    · cases hbb
    refine ⟨_, q1, UH x o (QV .i64 m 15), fun _ => hx2, H9 (UH x o (QV .i64 m 15)), fun _ => ⟨h0, by simp [List.getElem?_set, hlt]⟩, fun c => ?_, fun _ => ?_⟩
    · simp [e, UH, H9] at c
    simp only [jn]
    refine Kl (I := fun d s => ∃ j : Nat, j ≤ v1.length ∧ d = v1.length - j ∧ s = (v1.set k.toNat (UH x o (QV .i64 m 15)), (v1.set k.toNat (UH x o (QV .i64 m 15))).set k.toNat (H9 (UH x o (QV .i64 m 15))), (j : Int))) ?_ (k := v1.length) ⟨0, by omega, rfl, rfl⟩
    rintro d s ⟨j, hj, rfl, rfl⟩ X hX
    refine ⟨fun c => ?_, fun c => ⟨true, Uu, rfl⟩⟩
    have hj2 : j < v1.length := by simpa using c
    have hw : IntKind.i64.wrap ((j : Int) + 1) = ((j + 1 : Nat) : Int) := by rw [IntKind.wrap_i64]; omega
    have hnext := hX (v1.length - (j + 1)) _ (by omega) ⟨j + 1, by omega, rfl, rfl⟩
    rw [hw]
    have hz : ix v1 (j : Int) v1[j] := ⟨by omega, by simp [List.getElem?_eq_getElem hj2]⟩
    have hsz := gs _ (List.getElem_mem hj2)
    by_cases hjk : j = k.toNat
    · have hxz : v1[j] = x := by
        subst hjk
        rw [List.getElem?_eq_getElem hj2] at hxk
        exact Option.some.inj hxk
      have hkj : (j : Int) = k := by omega
      rw [hxz] at hz hsz
      have ha : ix (v1.set k.toNat (UH x o (QV .i64 m 15))) (j : Int) (UH x o (QV .i64 m 15)) := by rw [hkj]; exact hx2
      have hb : ix ((v1.set k.toNat (UH x o (QV .i64 m 15))).set k.toNat (H9 (UH x o (QV .i64 m 15)))) (j : Int) (H9 (UH x o (QV .i64 m 15))) := by rw [hkj]; exact ⟨h0, by simp [List.getElem?_set, hlt]⟩
      have hne : ((j : Int) != k) = false := by simp [hkj]
      exact ⟨_, ha, x, hz, true, YP x.f3 hsz.2.2.1 hsz.2.2.2.2, _, fun _ => hb, x, fun _ => hz, true, fun _ => WE x.f9 hsz.2.2.2.1, x, fun c => by simp [hne] at c, x, fun c => by simp [hne] at c, x, fun c => by simp [hne] at c, x, fun c => by simp [hne] at c, true, fun c => by simp [hne] at c, fun c => by simp [hne] at c, fun _ => hnext⟩
    · have hkj : k.toNat ≠ j := fun h => hjk h.symm
      have ha : ix (v1.set k.toNat (UH x o (QV .i64 m 15))) (j : Int) v1[j] := ⟨by omega, by simp [List.getElem?_set, hkj, List.getElem?_eq_getElem hj2]⟩
      have hb : ix ((v1.set k.toNat (UH x o (QV .i64 m 15))).set k.toNat (H9 (UH x o (QV .i64 m 15)))) (j : Int) v1[j] := ⟨by omega, by simp [List.getElem?_set, hkj, List.getElem?_eq_getElem hj2]⟩
      exact ⟨_, ha, _, hz, true, YP _ hsz.2.2.1 hsz.2.2.2.2, _, fun _ => hb, _, fun _ => hz, true, fun _ => WE _ hsz.2.2.2.1, _, fun _ => ha, _, fun _ => hz, _, fun _ => ha, _, fun _ => hz, true, fun _ => GY _ (Nat.le_trans hsz.1.1 (by decide)) (Nat.le_trans hsz.1.2.1 (by decide)), fun c => by simp at c, fun _ => hnext⟩
theorem SessionsBack_walk (a0 : Int) (v1 : Value) (l1 : List Int) (a2 a3 : Int) (w : World) (h0 : (Lit.int .i64 a0).wf = true) (h1 : Ints .i64 w v1 l1) (s1 : l1.length * Tryz.prog.bytesOf 3 ≤ 140737488351232) (h2 : (Lit.int .i64 a2).wf = true) (h3 : (Lit.int .i64 a3).wf = true) :
    Calls Tryz.prog 5 #[.int .i64 a0, v1, .int .i64 a2, .int .i64 a3] w fun e w' => e = .returned (.bool true) ∧ Below w.heap.size w w' := by
  have hl : l1.length ≤ 4611686018427387904 := by
    have e : Tryz.prog.bytesOf 3 = 8 := by kernel_rfl
    rw [e] at s1; omega
  refine (U9 (A := fun x => x < w.heap.size) (vs := #[.int .i64 a0, v1, .int .i64 a2, .int .i64 a3]) (g := 0) (q := 0) (AY (r := true) hl (AZ a0 l1 a2 a3 hl)) rfl (fun x h => h) ⟨.v _ h0, Is h1 (fun _ _ _ g _ _ hg => hg), .v _ h2, .v _ h3, trivial⟩).mono ?_
  rintro e w' ⟨rfl, hg⟩
  exact ⟨rfl, Eu hg⟩
end Go.Proofs.YtpnpodbihdiegaaGreat
