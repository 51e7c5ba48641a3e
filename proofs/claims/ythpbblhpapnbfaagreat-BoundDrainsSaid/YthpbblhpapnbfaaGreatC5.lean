/- Parts of the proof, laid together. No condition. -/
import Derived.Test.YthpbblhpapnbfaaGreatC4
import Derived.Below
set_option linter.unusedVariables false
set_option linter.unusedSimpArgs false
namespace Go.Proofs.YthpbblhpapnbfaaGreat
open Go.RowKit
theorem YB (l : List Int) (i : Int) (hl : l.length ≤ 4611686018427387904) (h0 : 0 ≤ i) (h1 : i ≤ 1000) : ∃ v, Vi l i v ∧ 0 ≤ v ∧ v ≤ 66600 := by
  unfold Vi C4
  simp only [Is]
  by_cases hz : l.length = 0
  · refine ⟨i % 65536, ⟨fun _ => rfl, fun h => ?_⟩, by omega, by omega⟩
    simp [hz] at h
  · have hp : (0 : Int) < l.length := by omega
    have e : i.tmod (l.length : Int) = i % l.length := Vh h0
    have e1 : 0 ≤ i % (l.length : Int) := Int.emod_nonneg _ (by omega)
    have e2 : i % (l.length : Int) < l.length := Int.emod_lt_of_pos _ hp
    obtain ⟨v, hv, _⟩ := K1 (l := l) (n := i % l.length) e1 e2
    have t1 : i.tdiv (l.length : Int) = i / l.length := Int.tdiv_eq_ediv_of_nonneg h0
    have t2 : 0 ≤ i / (l.length : Int) := Int.ediv_nonneg h0 (by omega)
    have t3 : i / (l.length : Int) ≤ i := Int.ediv_le_self _ h0
    have w1 : IntKind.i64.wrap (i / (l.length : Int)) = i / l.length := Zl (by omega)
    have w2 : IntKind.i64.wrap (v % 65536 + i / (l.length : Int)) = v % 65536 + i / l.length := Zl (by omega)
    refine ⟨v % 65536 + i / l.length, ⟨fun h => ?_, fun _ => ⟨by omega, v, by rw [e]; exact hv, by omega, by rw [t1, w1, w2]⟩⟩, by omega, by omega⟩
    simp at h; exact absurd h (by intro e; rw [e] at hz; exact hz rfl)
theorem W3 (a : Int) : ∃ s, Zr a s ∧ Dm s = true := by
  unfold Zr Us
  rw [HY, Vh (by omega)]
  have h3 : a % 16777216 % 3 = 0 ∨ a % 16777216 % 3 = 1 ∨ a % 16777216 % 3 = 2 := by omega
  rcases h3 with h | h | h <;> rw [h]
  · exact ⟨⟨#[97]⟩, ⟨_, ⟨by decide, rfl⟩, rfl⟩, by decide⟩
  · exact ⟨⟨#[98]⟩, ⟨_, ⟨by decide, rfl⟩, rfl⟩, by decide⟩
  · exact ⟨⟨#[99]⟩, ⟨_, ⟨by decide, rfl⟩, rfl⟩, by decide⟩
def EX (p : Qf) : Prop :=
  (p.ff = 1 ∧ p.fg = 0 ∧ p.fm = 0 ∧ p.fo = 0) ∨ (p.ff = 2 ∧ 1 ≤ p.fg ∧ p.fg ≤ 4 ∧ 1 ≤ p.fm ∧ p.fm ≤ 2 ∧ 0 ≤ p.fo ∧ p.fo ≤ 3)
  ∨ (p.ff = 3 ∧ 2 ≤ p.fg ∧ p.fg ≤ 3 ∧ p.fm = 0 ∧ 0 ≤ p.fo ∧ p.fo ≤ 3) ∨ ((p.ff = 4 ∨ p.ff = 5) ∧ 1 ≤ p.fg ∧ p.fg ≤ 4 ∧ p.fm = 0 ∧ p.fo = 0)
  ∨ (p.ff = 6 ∧ (p.fg = 2 ∨ p.fg = 4) ∧ p.fm = 0 ∧ p.fo = 0)
theorem IZ {p : Qf} (h : EX p) : BI p.ff p.fg p.fm p.fo = 0 := by
  unfold EX at h; unfold BI
  grind
theorem Ax (a : Int) : ∃ p, Vj a p ∧ EX p := by
  unfold Vj W9
  simp only [bA1, bA3]
  generalize QN .i64 a 3 = s3; generalize QN .i64 a 4 = s4; generalize QN .i64 a 8 = s8
  have w1 : IntKind.i64.wrap (1 + s4 % 4) = 1 + s4 % 4 := Zl (by omega)
  have w2 : IntKind.i64.wrap (1 + s3 % 2) = 1 + s3 % 2 := Zl (by omega)
  have w3 : IntKind.u64.wrap (s8 % 4) = s8 % 4 := Aw (by omega)
  have w4 : IntKind.i64.wrap (2 + s3 % 2) = 2 + s3 % 2 := Zl (by omega)
  have w5 : IntKind.i64.wrap (1 + s3 % 4) = 1 + s3 % 4 := Zl (by omega)
  have w6 : IntKind.i64.wrap (2 * (s3 % 2)) = 2 * (s3 % 2) := Zl (by omega)
  have w7 : IntKind.i64.wrap (2 + 2 * (s3 % 2)) = 2 + 2 * (s3 % 2) := Zl (by omega)
  simp only [w1, w2, w3, w4, w5, w6, w7]
  generalize a.tmod 6 = k
  by_cases k0 : k = 0
  · refine ⟨⟨1, 0, 0, 0⟩, ?_, by simp [EX]⟩; simp [k0]
  by_cases k1 : k = 1
  · refine ⟨⟨2, 1 + s4 % 4, 1 + s3 % 2, s8 % 4⟩, ?_, by simp [EX]; omega⟩; simp [k1]
  by_cases k2 : k = 2
  · refine ⟨⟨3, 2 + s3 % 2, 0, s8 % 4⟩, ?_, by simp [EX]; omega⟩; simp [k2]
  by_cases k3 : k = 3
  · refine ⟨⟨4, 1 + s3 % 4, 0, 0⟩, ?_, by simp [EX]; omega⟩; simp [k3]
  by_cases k4 : k = 4
  · refine ⟨⟨5, 1 + s3 % 4, 0, 0⟩, ?_, by simp [EX]; omega⟩; simp [k4]
  refine ⟨⟨6, 2 + 2 * (s3 % 2), 0, 0⟩, ?_, by simp [EX]; omega⟩
  simp [k0, k1, k2, k3, k4]
theorem Eh (a : Int) : ∃ s, Xp a s ∧ 1 ≤ s.size ∧ s.size ≤ 32 := by
  unfold Xp AG
  simp only [bA15, bA255, List.length_cons, List.length_nil]
  generalize hs : QN .i64 a 8 % 16 = k
  by_cases hk : k = 15
  · refine ⟨_, ⟨fun _ => rfl, fun h => by simp [hk] at h⟩, ?_⟩
    rw [Ee]; simp
  · have e : (a % 256).tmod ((0 + 1 + 1 + 1 + 1 + 1 + 1 + 1 + 1 + 1 + 1 + 1 + 1 : Nat) : Int) = a % 256 % 12 := Vh (by omega)
    rw [e]
    have hall : ∀ x ∈ ([⟨#[97]⟩, ⟨#[98]⟩, ⟨#[99]⟩, ⟨#[100]⟩, ⟨#[101]⟩, ⟨#[102]⟩, ⟨#[97, 97]⟩, ⟨#[98, 32, 99]⟩, ⟨#[37, 54, 49]⟩, ⟨#[65, 58, 49]⟩, ⟨#[0]⟩, ⟨#[122, 47, 255]⟩] : List ByteArray), 1 ≤ x.size ∧ x.size ≤ 32 := by decide
    obtain ⟨x, hx, hg⟩ := K1 (l := ([⟨#[97]⟩, ⟨#[98]⟩, ⟨#[99]⟩, ⟨#[100]⟩, ⟨#[101]⟩, ⟨#[102]⟩, ⟨#[97, 97]⟩, ⟨#[98, 32, 99]⟩, ⟨#[37, 54, 49]⟩, ⟨#[65, 58, 49]⟩, ⟨#[0]⟩, ⟨#[122, 47, 255]⟩] : List ByteArray)) (n := a % 256 % 12) (by omega) (by simp; omega)
    exact ⟨x, ⟨fun h => by simp at h; exact absurd h hk, fun _ => ⟨by decide, x, hx, rfl⟩⟩, hall x (List.mem_of_getElem? hg)⟩
theorem G6 (a : Int) : ∃ q, VQ a q ∧ BJ q.ff q.f3 q.fw q.fb6 q.fb3 = 0 := by
  unfold VQ WI
  have z : (ByteArray.empty).toList = [] := YW
  obtain ⟨s, hs, hs1, hs2⟩ := Eh (QN .i64 a 3)
  simp only [bA3, bA7]
  generalize QN .i64 a 3 = s3 at *; generalize QN .i64 a 5 = s5
  have w : IntKind.i64.wrap (3 + s5 % 4) = 3 + s5 % 4 := Zl (by omega)
  rw [w]
  generalize a.tmod 7 = k
  by_cases k0 : k = 0
  · refine ⟨⟨1, .empty, 0, 0, 0⟩, ?_, by simp [BJ, z]⟩; simp [k0]
  by_cases k1 : k = 1
  · refine ⟨⟨2, s, 0, 0, 0⟩, ?_, by simp [BJ, hs1, hs2]⟩; simp [k1, hs]
  by_cases k2 : k = 2
  · refine ⟨⟨3, .empty, 0, 0, 0⟩, ?_, by simp [BJ, z]⟩; simp [k2]
  by_cases k3 : k = 3
  · refine ⟨⟨4, .empty, 0, 0, 0⟩, ?_, by simp [BJ, z]⟩; simp [k3]
  by_cases k4 : k = 4
  · refine ⟨⟨5, .empty, s3 % 8, 0, 0⟩, ?_, by simp [BJ, z]; omega⟩; simp [k4]
  by_cases k5 : k = 5
  · refine ⟨⟨6, s, 0, 0, 0⟩, ?_, by simp [BJ, hs1, hs2]⟩; simp [k5, hs]
  refine ⟨⟨7, .empty, 0, s3 % 4, 3 + s5 % 4⟩, ?_, by simp [BJ, z]; omega⟩
  simp [k0, k1, k2, k3, k4, k5]
theorem Hc (a : Int) : ∃ x, Ye a x ∧ HX x = 0 := by
  unfold Ye Ut
  obtain ⟨s, hs, hs1, hs2⟩ := Eh a
  simp only [bA3, bA7, bA15, Is, jn]
  generalize QN .i64 a 12 = s12; generalize QN .i64 a 4 = s4
  have w1 : IntKind.i64.wrap (a % 65536 * 65537) = a % 65536 * 65537 := Zl (by omega)
  have w2 : (a % 65536 * 65537).tmod 4294967295 = a % 65536 * 65537 % 4294967295 := Vh (by omega)
  have w3 : IntKind.i64.wrap (1 + a % 65536 * 65537 % 4294967295) = 1 + a % 65536 * 65537 % 4294967295 := Zl (by omega)
  have w4 : IntKind.i64.wrap (4294967295 - a % 4) = 4294967295 - a % 4 := Zl (by omega)
  have w5 : IntKind.i64.wrap (1 + s4 % 8) = 1 + s4 % 8 := Zl (by omega)
  simp only [w1, w2, w3, w4, w5]
  have it : ∀ w : Int, 1 ≤ w → w ≤ 4294967295 → HX ⟨s, w⟩ = 0 := by intro w h1 h2; simp [HX, hs1, hs2, h1, h2]
  generalize s12 % 16 = k
  by_cases k1 : k = 14
  · refine ⟨⟨s, 1 + a % 65536 * 65537 % 4294967295⟩, ?_, it _ (by omega) (by omega)⟩; simp [k1, hs]
  by_cases k2 : k = 15
  · refine ⟨⟨s, 4294967295 - a % 4⟩, ?_, it _ (by omega) (by omega)⟩; simp [k2, hs]
  refine ⟨⟨s, 1 + s4 % 8⟩, ?_, it _ (by omega) (by omega)⟩
  simp [k1, k2, hs]
theorem BM (l : List Int) (n : Int) (hl : l.length ≤ 4611686018427387904) (h0 : 0 ≤ n) (h1 : n ≤ 1000) : ∃ r, V1 l n r ∧ (r.length : Int) = n ∧ ∀ x ∈ r, HX x = 0 := by
  refine FR (Post := fun r => (r.length : Int) = n ∧ ∀ x ∈ r, HX x = 0) ?_
  unfold VR
  simp only [jn]
  refine Kh (I := fun k s => (s.1.length : Int) = s.2 ∧ 0 ≤ s.2 ∧ s.2 ≤ n ∧ k = (n - s.2).toNat ∧ ∀ x ∈ s.1, HX x = 0) ?_ (k := n.toNat) ⟨rfl, by omega, by omega, by simp, by simp⟩
  rintro k ⟨r, i⟩ ⟨hr, hi0, hi1, hk, hx⟩ X hX
  simp only at hr hi0 hi1 hk hx ⊢
  refine ⟨fun h => ?_, fun h => ?_⟩
  · have hlt : i < n := by simpa using h
    obtain ⟨v, hv, _, _⟩ := YB l i hl hi0 (by omega)
    obtain ⟨x, hx1, hx2⟩ := Hc v
    refine ⟨v, hv, x, hx1, by simp; omega, ?_⟩
    rw [Zl (by omega)]
    refine hX (n - (i + 1)).toNat _ (by omega) ⟨by simp; omega, by simp only; omega, by simp only; omega, rfl, ?_⟩
    intro y hy
    rcases List.mem_append.1 hy with h | h
    · exact hx y h
    · simp at h; rw [h]; exact hx2
  · have hge : ¬ i < n := by simpa using h
    exact ⟨by omega, hx⟩
theorem BN (a : Int) : ∃ r, Jv a r ∧ r.length ≤ 4 := by
  unfold Jv WJ
  rw [bA3, Zl (by omega)]
  exact ⟨_, ⟨⟨by omega, by simp; omega⟩, rfl⟩, by simp; omega⟩
theorem UH {α : Type} {l : List α} (hl : l.length ≤ 4611686018427387904) {B : (Int → Prop) → Int → Prop} {J : Prop} (P : α → Prop)
    (hB : ∀ (j : Nat) x, j < l.length → l[j]? = some x → ∀ X : Int → Prop, (P x → X (IntKind.i64.wrap ((j : Int) + 1))) → B X (j : Int)) (hJ : (∀ x ∈ l, P x) → J) :
    lp (fun X s => (decide (s < (l.length : Int)) = true → B X s) ∧ (decide (s < (l.length : Int)) = false → J)) 0 := by
  refine HW l.length hl (fun j => ∀ i, i < j → ∀ y, l[i]? = some y → P y) (fun i hi => absurd hi (by omega)) ?_ ?_
  · intro j hj hI X hX
    obtain ⟨x, hx⟩ : ∃ x, l[j]? = some x := ⟨l[j], by simp [hj]⟩
    refine hB j x hj hx X fun h0 => hX fun i hi y hy => ?_
    by_cases e : i = j
    · subst e; rw [hx] at hy; cases hy; exact h0
    · exact hI i (by omega) y hy
  · intro hI
    refine hJ fun x hx => ?_
    obtain ⟨j, hj⟩ := List.getElem?_of_mem hx
    have := hj
    rw [List.getElem?_eq_some_iff] at this
    exact hI j this.1 x hj
theorem VJ (t : QA) : ∃ v, ZH t v ∧ (v = 0 → (0 ≤ t.fh ∧ t.fh ≤ 4294967295) ∧ 0 ≤ t.fv ∧ t.fv ≤ 4294967295) := by
  refine Uu (Post := fun v => v = 0 → (0 ≤ t.fh ∧ t.fh ≤ 4294967295) ∧ 0 ≤ t.fv ∧ t.fv ≤ 4294967295) ?_
  unfold K2
  simp only [ZA, exists_eq_left, Vw, Jg]
  refine ⟨_, fun _ => rfl, fun _ h => by simp at h, fun h _ => ?_⟩
  simp [wI] at h
  exact ⟨h.1.1, h.1.2⟩
def okCm (c : Qi) : Prop := (1 ≤ c.fm ∧ c.fm ≤ 8) ∧ (1 ≤ c.fg ∧ c.fg ≤ 64) ∧ (c.f5.length : Int) = c.fm * c.fg ∧ ∀ x ∈ c.f5, 0 ≤ x ∧ x ≤ 4294967295
theorem G7 {d s : Int} (h1 : 1 ≤ d ∧ d ≤ 8) (h2 : 1 ≤ s ∧ s ≤ 64) : 1 ≤ d * s ∧ d * s ≤ 512 := by
  have h : d = 1 ∨ d = 2 ∨ d = 3 ∨ d = 4 ∨ d = 5 ∨ d = 6 ∨ d = 7 ∨ d = 8 := by omega
  rcases h with rfl | rfl | rfl | rfl | rfl | rfl | rfl | rfl <;> omega
theorem JP (c : Qi) : ∃ v, Zu c v ∧ (v = 0 → okCm c) := by
  refine Wx (Post := fun v => v = 0 → okCm c) ?_
  unfold ZF
  simp only [ZA, exists_eq_left, Vw, Jg, jn]
  refine ⟨_, fun _ => rfl, fun _ h => by simp at h, fun h => ?_⟩
  have h' : (1 ≤ c.fm ∧ c.fm ≤ 8) ∧ 1 ≤ c.fg ∧ c.fg ≤ 64 := by simpa [wI] using h
  have hm := G7 h'.1 h'.2
  rw [Zl (by omega)]
  refine ⟨fun _ h => by simp at h, fun hl => ?_⟩
  have hl' : (c.f5.length : Int) = c.fm * c.fg := by simpa using hl
  refine UH (by omega) (fun x => 0 ≤ x ∧ x ≤ 4294967295) ?_ ?_
  · intro j x hj hx X hX
    refine ⟨x, JU rfl hx, fun _ h => by simp at h, fun h => hX (by simpa [wI] using h)⟩
  · intro hP _; exact ⟨h'.1, h'.2, hl', hP⟩
def okLl (c : Qv) : Prop := (2 ≤ c.fx ∧ c.fx ≤ 8) ∧ (c.fp.length : Int) = XR .i64 1 (IntKind.u64.wrap c.fx) ∧ c.fp.length ≤ 256 ∧ ∀ x ∈ c.fp, 0 ≤ x ∧ x ≤ 63
theorem M5 {p : Int} (h : 2 ≤ p ∧ p ≤ 8) : 4 ≤ XR .i64 1 (IntKind.u64.wrap p) ∧ XR .i64 1 (IntKind.u64.wrap p) ≤ 256 := by
  have h : p = 2 ∨ p = 3 ∨ p = 4 ∨ p = 5 ∨ p = 6 ∨ p = 7 ∨ p = 8 := by omega
  rcases h with rfl | rfl | rfl | rfl | rfl | rfl | rfl <;> decide
theorem Vu (c : Qv) : ∃ v, ZC c v ∧ (v = 0 → okLl c) := by
  refine U6 (Post := fun v => v = 0 → okLl c) ?_
  unfold ZR
  simp only [ZA, exists_eq_left, Vw, Jg, jn]
  refine ⟨fun _ h => by simp at h, fun h => ?_⟩
  have h' : 2 ≤ c.fx ∧ c.fx ≤ 8 := by simpa [wI] using h
  have hm := M5 h'
  refine ⟨by rw [Aw (by omega)]; omega, fun _ h => by simp at h, fun hl => ?_⟩
  have hl' : (c.fp.length : Int) = XR .i64 1 (IntKind.u64.wrap c.fx) := by simpa using hl
  refine UH (by omega) (fun x => 0 ≤ x ∧ x ≤ 63) ?_ ?_
  · intro j x hj hx X hX
    refine ⟨x, JU rfl hx, fun _ h => by simp at h, fun h => hX ?_⟩
    rw [Zl (by omega)] at h
    simp [wI] at h; omega
  · intro hP _; exact ⟨h', hl', by omega, hP⟩
theorem UI (l : List Q3) (k : ByteArray) (hl : l.length ≤ 1000000) : ∃ v, VB l k v ∧ -1 ≤ v ∧ v < l.length := by
  refine GU (Post := fun v => -1 ≤ v ∧ v < (l.length : Int)) ?_
  unfold Xx
  simp only [jn]
  refine UH (by omega) (fun _ => True) ?_ (fun _ => by omega)
  intro j x hj hx X hX
  exact ⟨x, JU rfl hx, fun _ => by omega, fun _ => hX trivial⟩
def okE (e : Q3) : Prop := (1 ≤ e.f3.size ∧ e.f3.size ≤ 32) ∧ (1 ≤ e.fw ∧ e.fw ≤ 1099511627776) ∧ 0 ≤ e.fa3 ∧ e.fa3 < e.fw
def MR (c : QE) : Prop := (1 ≤ c.fg ∧ c.fg ≤ 32) ∧ (0 ≤ c.fh ∧ c.fh ≤ 1099511627776) ∧ (c.fc.length : Int) ≤ c.fg ∧ ∀ e ∈ c.fc, okE e
theorem Xt (c : QE) : ∃ v, K0 c v ∧ (v = 0 → MR c) := by
  refine AI (Post := fun v => v = 0 → MR c) ?_
  unfold Kn
  simp only [ZA, V6, exists_eq_left, Vw, Jg, jn]
  refine ⟨_, fun _ => rfl, fun _ h => by simp at h, fun h => ?_⟩
  have h' : (1 ≤ c.fg ∧ c.fg ≤ 32) ∧ 0 ≤ c.fh ∧ c.fh ≤ 1099511627776 := by simpa [wI] using h
  refine ⟨fun _ h => by simp at h, fun hl => ?_⟩
  have hl' : (c.fc.length : Int) ≤ c.fg := by simpa using hl
  refine UH (by omega) okE ?_ (fun hP _ => ⟨h'.1, h'.2, hl', hP⟩)
  intro j x hj hx X hX
  refine ⟨x, JU rfl hx, fun _ h => by simp at h, fun hk => ?_⟩
  have hk' : 1 ≤ x.f3.size ∧ x.f3.size ≤ 32 := by simpa using hk
  refine ⟨_, fun _ => rfl, fun _ h => by simp at h, fun hc => ?_⟩
  have hc1 : 1 ≤ x.fw ∧ x.fw ≤ 1099511627776 := by simp [wI] at hc; exact hc.1
  rw [Zl (by omega)] at hc
  have hc2 : 0 ≤ x.fa3 ∧ x.fa3 ≤ x.fw - 1 := by simp [wI] at hc; exact ⟨hc.2.1, by omega⟩
  obtain ⟨v, hv, _⟩ := UI (List.take (Int.toNat (j : Int)) c.fc) x.f3 (by simp; omega)
  refine ⟨⟨by omega, by omega⟩, v, hv, fun _ h => by simp at h, fun _ => ?_⟩
  by_cases h0 : j = 0
  · subst h0
    refine ⟨x, fun h => by simp at h, true, fun h => by simp at h, fun _ h => by simp at h, fun _ => hX ⟨hk', hc1, hc2.1, by omega⟩⟩
  · obtain ⟨y, hy⟩ : ∃ y, c.fc[j - 1]? = some y := ⟨c.fc[j - 1]'(by omega), by simp⟩
    refine ⟨y, fun _ => JU (j := j - 1) (by rw [Zl (by omega)]; omega) hy, _, fun _ => rfl, fun _ h => by simp at h, fun _ => hX ⟨hk', hc1, hc2.1, by omega⟩⟩
def okFr (c : Qn) : Prop := (1 ≤ c.fg ∧ c.fg ≤ 32) ∧ (0 ≤ c.fh ∧ c.fh ≤ 1099511627776) ∧ (0 ≤ c.fa2 ∧ c.fa2 ≤ 1099511627776) ∧ (c.fc.length : Int) ≤ c.fg ∧ ∀ e ∈ c.fc, okE e
theorem JQ (c : Qn) : ∃ v, Zv c v ∧ (v = 0 → okFr c) := by
  refine Wy (Post := fun v => v = 0 → okFr c) ?_
  unfold ZG
  simp only [ZA, V6, exists_eq_left, Vw, Jg, jn]
  refine ⟨_, fun _ => rfl, _, fun _ => rfl, fun _ h => by simp at h, fun h => ?_⟩
  have h' : ((1 ≤ c.fg ∧ c.fg ≤ 32) ∧ 0 ≤ c.fh ∧ c.fh ≤ 1099511627776) ∧ 0 ≤ c.fa2 ∧ c.fa2 ≤ 1099511627776 := by simpa [wI] using h
  refine ⟨fun _ h => by simp at h, fun hl => ?_⟩
  have hl' : (c.fc.length : Int) ≤ c.fg := by simpa using hl
  refine UH (by omega) okE ?_ (fun hP _ => ⟨h'.1.1, h'.1.2, h'.2, hl', hP⟩)
  intro j x hj hx X hX
  refine ⟨x, JU rfl hx, fun _ h => by simp at h, fun hk => ?_⟩
  have hk' : 1 ≤ x.f3.size ∧ x.f3.size ≤ 32 := by simpa using hk
  refine ⟨fun _ h => by simp at h, fun hc => ?_⟩
  have hc1 : (1 ≤ x.fw ∧ x.fw ≤ 1099511627776) ∧ x.fa3 = 0 := by simpa [wI] using hc
  by_cases h0 : j = 0
  · subst h0
    refine ⟨x, fun h => by simp at h, fun _ h => by simp at h, fun _ => hX ⟨hk', hc1.1, by omega, by omega⟩⟩
  · obtain ⟨y, hy⟩ : ∃ y, c.fc[j - 1]? = some y := ⟨c.fc[j - 1]'(by omega), by simp⟩
    refine ⟨y, fun _ => JU (j := j - 1) (by rw [Zl (by omega)]; omega) hy, fun _ h => by simp at h, fun _ => hX ⟨hk', hc1.1, by omega, by omega⟩⟩
def Nw (c : Qx) : Prop := (2 ≤ c.fg ∧ c.fg ≤ 32 ∧ c.fg % 2 = 0) ∧ (0 ≤ c.fh ∧ c.fh ≤ 1099511627776) ∧ (0 ≤ c.f8 ∧ c.f8 ≤ 1099511627776) ∧ c.fk.length ≤ 41 ∧ ∀ l ∈ c.fk, (l.length : Int) < c.fg ∧ ∀ s ∈ l, 1 ≤ s.size ∧ s.size ≤ 32
theorem VK (c : Qx) : ∃ v, ZI c v ∧ (v = 0 → Nw c) := by
  refine Uw (Post := fun v => v = 0 → Nw c) ?_
  unfold K3
  simp only [ZA, V6, exists_eq_left, Vw, Jg, jn]
  refine ⟨_, fun _ => rfl, _, fun _ => rfl, fun _ h => by simp at h, fun h => ?_⟩
  have h' : (((2 ≤ c.fg ∧ c.fg ≤ 32) ∧ ¬ c.fg.tmod 2 = 1) ∧ 0 ≤ c.fh ∧ c.fh ≤ 1099511627776) ∧ 0 ≤ c.f8 ∧ c.f8 ≤ 1099511627776 := by simpa [wI] using h
  have he : c.fg % 2 = 0 := by have := h'.1.1.2; rw [Vh (by omega)] at this; omega
  refine ⟨fun _ h => by simp at h, fun hl => ?_⟩
  have hl' : c.fk.length ≤ 41 := by simp at hl; omega
  clear h hl
  refine Kh (I := fun k s => ∃ j : Nat, s.2 = (j : Int) ∧ j ≤ c.fk.length ∧ k = c.fk.length - j ∧ ∀ i, i < j → ∀ y, c.fk[i]? = some y → (y.length : Int) < c.fg ∧ ∀ s ∈ y, 1 ≤ s.size ∧ s.size ≤ 32) ?_ (k := c.fk.length) ⟨0, rfl, by omega, by omega, fun i hi => absurd hi (by omega)⟩
  rintro k ⟨tot, i⟩ ⟨j, hj, hj1, hk, hI⟩ X hX
  simp only at hj ⊢
  subst hj
  refine ⟨fun h => ?_, fun h => ?_⟩
  · have hlt : j < c.fk.length := by simp at h; omega
    obtain ⟨L, hL⟩ : ∃ x, c.fk[j]? = some x := ⟨c.fk[j], by simp [hlt]⟩
    have hx : ix c.fk (j : Int) L := JU rfl hL
    refine ⟨L, hx, fun _ h => by simp at h, fun h2 => ?_⟩
    have h2' : (L.length : Int) < c.fg := by simpa using h2
    refine Kh (I := fun k s => ∃ m : Nat, s = (m : Int) ∧ m ≤ L.length ∧ k = L.length - m ∧ ∀ i, i < m → ∀ y, L[i]? = some y → 1 ≤ y.size ∧ y.size ≤ 32) ?_ (k := L.length) ⟨0, rfl, by omega, by omega, fun i hi => absurd hi (by omega)⟩
    rintro k2 s ⟨m, rfl, hm1, hk2, hI2⟩ X2 hX2
    refine ⟨L, hx, fun h3 => ?_, fun h3 => ?_⟩
    · have hm : m < L.length := by simp at h3; omega
      obtain ⟨y, hy⟩ : ∃ x, L[m]? = some x := ⟨L[m], by simp [hm]⟩
      refine ⟨L, hx, y, JU rfl hy, fun _ h => by simp at h, fun h4 => ?_⟩
      have h4' : 1 ≤ y.size ∧ y.size ≤ 32 := by simpa using h4
      refine ⟨L, fun _ => hx, y, fun _ => JU rfl hy, L, fun _ => hx, ?_⟩
      have go : X2 (IntKind.i64.wrap ((m : Int) + 1)) := by
        rw [Zl (by omega)]
        refine hX2 (L.length - (m + 1)) _ (by omega) ⟨m + 1, by omega, by omega, rfl, fun i hi z hz => ?_⟩
        by_cases e : i = m
        · subst e; rw [hy] at hz; cases hz; exact h4'
        · exact hI2 i (by omega) z hz
      by_cases h0 : m = 0
      · subst h0
        exact ⟨y, fun h => by simp at h, fun _ h => by simp at h, fun _ => go⟩
      · obtain ⟨z, hz⟩ : ∃ z, L[m - 1]? = some z := ⟨L[m - 1]'(by omega), by simp⟩
        exact ⟨z, fun _ => JU (j := m - 1) (by rw [Zl (by omega)]; omega) hz, fun _ h => by simp at h, fun _ => go⟩
    · have hm : m = L.length := by simp at h3; omega
      subst hm
      refine ⟨L, hx, by rw [Aw (by omega)]; omega, ?_⟩
      rw [Zl (n := (j : Int) + 1) (by omega)]
      refine hX (c.fk.length - (j + 1)) _ (by omega) ⟨j + 1, by simp, by omega, rfl, fun i hi z hz => ?_⟩
      by_cases e : i = j
      · subst e; rw [hL] at hz; cases hz
        refine ⟨h2', fun s hs => ?_⟩
        obtain ⟨i, hi⟩ := List.getElem?_of_mem hs
        have := hi
        rw [List.getElem?_eq_some_iff] at this
        exact hI2 i this.1 s hi
      · exact hI i (by omega) z hz
  · have hge : j = c.fk.length := by simp at h; omega
    have fin : Nw c := by
      refine ⟨⟨h'.1.1.1.1, h'.1.1.1.2, he⟩, h'.1.2, h'.2, hl', fun l hl => ?_⟩
      obtain ⟨i, hi⟩ := List.getElem?_of_mem hl
      have := hi
      rw [List.getElem?_eq_some_iff] at this
      exact hI i (by rw [hge]; exact this.1) l hi
    by_cases h0 : c.fk.length = 0
    · refine ⟨[], fun h => by simp [h0] at h, fun _ h => by simp at h, fun _ => ⟨fun _ h => by simp at h, fun _ _ => fin⟩⟩
    · obtain ⟨z, hz⟩ : ∃ z, c.fk[c.fk.length - 1]? = some z := ⟨c.fk[c.fk.length - 1]'(by omega), by simp⟩
      exact ⟨z, fun _ => JU (j := c.fk.length - 1) (by rw [Zl (by omega)]; omega) hz, fun _ h => by simp at h, fun _ => ⟨fun _ h => by simp at h, fun _ _ => fin⟩⟩
theorem U3 (a b : List Int) (ha : a.length ≤ 1000000) : ∃ v, Jm a b v := by
  obtain ⟨v, hv, _⟩ := CZ (Post := fun _ => True) (a0 := a) (a1 := b) (by
    unfold Jl
    simp only [jn]
    refine ⟨fun _ => trivial, fun h => ?_⟩
    have hl : a.length = b.length := by simp at h; omega
    refine UH (by omega) (fun _ => True) ?_ (fun _ => trivial)
    intro j x hj hx X hX
    obtain ⟨y, hy⟩ : ∃ y, b[j]? = some y := ⟨b[j]'(by omega), by simp⟩
    exact ⟨x, JU rfl hx, y, JU rfl hy, fun _ => trivial, fun _ => hX trivial⟩)
  exact ⟨v, hv⟩
theorem YY (a b : List Q3) (ha : a.length ≤ 1000000) : ∃ v, Kp a b v := by
  obtain ⟨v, hv, _⟩ := AJ (Post := fun _ => True) (a0 := a) (a1 := b) (by
    unfold Ko
    simp only [jn]
    refine ⟨fun _ => trivial, fun h => ?_⟩
    have hl : a.length = b.length := by simp at h; omega
    refine UH (by omega) (fun _ => True) ?_ (fun _ => trivial)
    intro j x hj hx X hX
    obtain ⟨y, hy⟩ : ∃ y, b[j]? = some y := ⟨b[j]'(by omega), by simp⟩
    exact ⟨x, JU rfl hx, y, JU rfl hy, fun _ => trivial, fun _ => hX trivial⟩)
  exact ⟨v, hv⟩
theorem Ck (a b : Qx) (ha : a.fk.length ≤ 1000000) (ha2 : ∀ l ∈ a.fk, l.length ≤ 1000000) : ∃ v, JH a b v := by
  obtain ⟨v, hv, _⟩ := C5 (Post := fun _ => True) (a0 := a) (a1 := b) (by
    unfold KR
    simp only [jn, Jg]
    refine ⟨fun _ => trivial, fun h => ?_⟩
    have hl : a.fk.length = b.fk.length := by
      have := (Bool.or_eq_false_iff.1 h).2
      simp at this; omega
    refine UH (by omega) (fun _ => True) ?_ (fun _ => trivial)
    intro j x hj hx X hX
    obtain ⟨y, hy⟩ : ∃ y, b.fk[j]? = some y := ⟨b.fk[j]'(by omega), by simp⟩
    have hxl : x.length ≤ 1000000 := ha2 x (List.mem_of_getElem? hx)
    refine ⟨x, JU rfl hx, y, JU rfl hy, fun _ => trivial, fun h2 => ?_⟩
    have hl2 : x.length = y.length := by simp at h2; omega
    refine Kh (I := fun k s => ∃ m : Nat, s = (m : Int) ∧ m ≤ x.length ∧ k = x.length - m) ?_ (k := x.length) ⟨0, rfl, by omega, by omega⟩
    rintro k s ⟨m, rfl, hm, hk⟩ X2 hX2
    refine ⟨x, JU rfl hx, fun h3 => ?_, fun _ => hX trivial⟩
    have hm2 : m < x.length := by simp at h3; omega
    obtain ⟨p, hp⟩ : ∃ p, x[m]? = some p := ⟨x[m]'(by omega), by simp⟩
    obtain ⟨q, hq⟩ : ∃ q, y[m]? = some q := ⟨y[m]'(by omega), by simp⟩
    refine ⟨x, JU rfl hx, p, JU rfl hp, y, JU rfl hy, q, JU rfl hq, fun _ => trivial, fun _ => ?_⟩
    rw [Zl (by omega)]
    exact hX2 (x.length - (m + 1)) _ (by omega) ⟨m + 1, by simp, by omega, rfl⟩)
  exact ⟨v, hv⟩
def Hd (s : Qk) : Prop := s.fi.f5.length ≤ 1000000 ∧ s.f2.fp.length ≤ 1000000 ∧ s.fa0.fc.length ≤ 1000000 ∧ s.fj.fc.length ≤ 1000000 ∧ s.fy.fk.length ≤ 1000000 ∧ ∀ l ∈ s.fy.fk, l.length ≤ 1000000
theorem Aa (a b : Qi) (ha : a.f5.length ≤ 1000000) : ∃ v, JB a b v := by
  obtain ⟨v, hv⟩ := U3 a.f5 b.f5 ha
  exact ⟨_, v, fun _ => hv, rfl⟩
theorem BO (a b : Qv) (ha : a.fp.length ≤ 1000000) : ∃ v, Vv a b v := by
  obtain ⟨v, hv⟩ := U3 a.fp b.fp ha
  exact ⟨_, v, fun _ => hv, rfl⟩
theorem Ei (a b : QE) (ha : a.fc.length ≤ 1000000) : ∃ v, XM a b v := by
  obtain ⟨v, hv⟩ := YY a.fc b.fc ha
  exact ⟨_, v, fun _ => hv, rfl⟩
theorem Ab (a b : Qn) (ha : a.fc.length ≤ 1000000) : ∃ v, JC a b v := by
  obtain ⟨v, hv⟩ := YY a.fc b.fc ha
  exact ⟨_, v, fun _ => hv, rfl⟩
theorem G8 (a b : Qk) (h : Hd a) : ∃ v, Yy a b v := by
  obtain ⟨h1, h2, h3, h4, h5, h6⟩ := h
  obtain ⟨v1, e1⟩ := Aa a.fi b.fi h1
  obtain ⟨v2, e2⟩ := BO a.f2 b.f2 h2
  obtain ⟨v3, e3⟩ := Ei a.fa0 b.fa0 h3
  obtain ⟨v4, e4⟩ := Ab a.fj b.fj h4
  obtain ⟨v5, e5⟩ := Ck a.fy b.fy h5 h6
  exact ⟨_, v1, fun _ => e1, v2, fun _ => e2, v3, fun _ => e3, v4, fun _ => e4, v5, fun _ => e5, rfl⟩
theorem G9 (s : Qk) : ∃ v, XN s v := by
  unfold XN WL
  simp only [jn]
  generalize s.fa.ff = k
  by_cases k1 : k = 1
  · subst k1; exact ⟨_, fun _ => rfl, fun h => by simp at h⟩
  have e1 : (k == 1) = false := by simp [k1]
  by_cases k2 : k = 2
  · subst k2; exact ⟨_, fun h => by simp at h, fun _ => ⟨fun _ => rfl, fun h => by simp at h⟩⟩
  have e2 : (k == 2) = false := by simp [k2]
  by_cases k3 : k = 3
  · subst k3; exact ⟨_, fun h => by simp at h, fun _ => ⟨fun h => by simp at h, fun _ => ⟨fun _ => rfl, fun h => by simp at h⟩⟩⟩
  have e3 : (k == 3) = false := by simp [k3]
  by_cases k4 : k = 4
  · subst k4; exact ⟨_, fun h => by simp at h, fun _ => ⟨fun h => by simp at h, fun _ => ⟨fun h => by simp at h, fun _ => ⟨fun _ => rfl, fun h => by simp at h⟩⟩⟩⟩
  have e4 : (k == 4) = false := by simp [k4]
  by_cases k5 : k = 5
  · subst k5; exact ⟨_, fun h => by simp at h, fun _ => ⟨fun h => by simp at h, fun _ => ⟨fun h => by simp at h, fun _ => ⟨fun h => by simp at h, fun _ => ⟨fun _ => rfl, fun h => by simp at h⟩⟩⟩⟩⟩
  have e5 : (k == 5) = false := by simp [k5]
  by_cases k6 : k = 6
  · subst k6; exact ⟨_, fun h => by simp at h, fun _ => ⟨fun h => by simp at h, fun _ => ⟨fun h => by simp at h, fun _ => ⟨fun h => by simp at h, fun _ => ⟨fun h => by simp at h, fun _ => ⟨fun _ => rfl, fun h => by simp at h⟩⟩⟩⟩⟩⟩
  have e6 : (k == 6) = false := by simp [k6]
  simp only [e1, e2, e3, e4, e5, e6]
  exact ⟨_, fun h => by simp at h, fun _ => ⟨fun h => by simp at h, fun _ => ⟨fun h => by simp at h, fun _ => ⟨fun h => by simp at h, fun _ => ⟨fun h => by simp at h, fun _ => ⟨fun h => by simp at h, fun _ => rfl⟩⟩⟩⟩⟩⟩
theorem WC (s : Qk) (h : Hd s) : ∃ v, KT s v ∧ (v = 0 → 1 ≤ s.fa.ff ∧ s.fa.ff ≤ 6) := by
  refine C7 (Post := fun v => v = 0 → 1 ≤ s.fa.ff ∧ s.fa.ff ≤ 6) (a0 := s) (by
    unfold KS
    simp only [jn]
    refine ⟨_, V7 s.fa, fun h e => by simp [e] at h, fun hpar => ?_⟩
    have hk : 1 ≤ s.fa.ff ∧ s.fa.ff ≤ 6 := by
      have hp : BI s.fa.ff s.fa.fg s.fa.fm s.fa.fo = 0 := by simpa using hpar
      unfold BI at hp; grind
    obtain ⟨v12, e12⟩ := G9 s
    obtain ⟨v13, e13⟩ := G8 s v12 h
    obtain ⟨v1, e1, _⟩ := VJ s.fq
    obtain ⟨v2, e2, _⟩ := JP s.fi
    obtain ⟨v3, e3, _⟩ := Vu s.f2
    obtain ⟨v4, e4, _⟩ := Xt s.fa0
    obtain ⟨v5, e5, _⟩ := JQ s.fj
    obtain ⟨v6, e6, _⟩ := VK s.fy
    refine ⟨fun _ => ⟨v1, e1, ?_⟩, fun _ => ⟨fun _ => ⟨v2, e2, ?_⟩, fun _ => ⟨fun _ => ⟨v3, e3, ?_⟩, fun _ => ⟨fun _ => ⟨v4, e4, ?_⟩, fun _ => ⟨fun _ => ⟨v5, e5, ?_⟩, fun _ => ⟨fun _ => ⟨v6, e6, ?_⟩, fun _ => ?_⟩⟩⟩⟩⟩⟩
    all_goals exact ⟨fun _ _ => hk, fun _ => ⟨v12, fun _ => e12, v13, fun _ => e13, fun _ _ => hk, fun _ _ => hk⟩⟩)
theorem UV (x : Int) : 0 ≤ IntKind.u64.wrap x ∧ IntKind.u64.wrap x ≤ 18446744073709551615 := by rw [IntKind.wrap_u64]; omega
theorem B2 (a : Int) : ∃ v, Y1 a v ∧ 0 ≤ v ∧ v ≤ 18446744073709551615 := ⟨_, rfl, UV _⟩
theorem HZ (a b : Int) : ∃ v, WO a b v := by
  obtain ⟨v, hv, _⟩ := B2 (YH .u64 (a) (IntKind.u64.wrap ((IntKind.u64.wrap ((IntKind.u64.wrap (b)) + (1))) * (15074714826142052245))))
  exact ⟨v, v, hv, rfl⟩
theorem BP (a : Int) : ∃ r, VU a r ∧ r.length = 256 := by
  refine FW (Post := fun r => r.length = 256) ?_
  unfold VT
  simp only [jn]
  refine Kh (I := fun k s => (s.1.length : Int) = s.2 - 1 ∧ 1 ≤ s.2 ∧ s.2 ≤ 257 ∧ k = (257 - s.2).toNat) ?_ (k := 256) ⟨rfl, by decide, by decide, rfl⟩
  rintro k ⟨r, i⟩ ⟨h1, h2, h3, hk⟩ X hX
  simp only at h1 h2 h3 hk ⊢
  refine ⟨fun h => ?_, fun h => ?_⟩
  · have hi : i ≤ 256 := by simpa using h
    obtain ⟨v, hv, _⟩ := B2 (IntKind.u64.wrap ((a) + (IntKind.u64.wrap ((i) * (11400714819323198485)))))
    refine ⟨v, hv, by simp; omega, ?_⟩
    rw [Aw (by omega)]
    exact hX (257 - (i + 1)).toNat _ (by omega) ⟨by simp; omega, by simp only; omega, by simp only; omega, rfl⟩
  · have hi : ¬ i ≤ 256 := by simpa using h
    omega
theorem CR (l : List Int) (s : ByteArray) (hl : l.length = 256) (hs : s.size ≤ 1000000) : ∃ v, XE l s v ∧ 0 ≤ v.1 ∧ v.1 ≤ 18446744073709551615 := by
  refine H1 (Post := fun v => 0 ≤ v.1 ∧ v.1 ≤ 18446744073709551615) ?_
  unfold XD
  simp only [jn]
  refine ⟨fun _ => by decide, fun _ => ?_⟩
  obtain ⟨v, hv, _⟩ := K1 (l := l) (n := (s.size : Int) % 256) (by omega) (by omega)
  refine ⟨v, by rw [Vh (by omega)]; exact hv, ?_⟩
  refine Kh (I := fun k s' => ∃ j : Nat, s'.2 = (j : Int) ∧ j ≤ s.size ∧ k = s.size - j) ?_ (k := s.size) ⟨0, rfl, by omega, by omega⟩
  rintro k ⟨h, i⟩ ⟨j, hj, hj1, hk⟩ X hX
  simp only at hj ⊢
  subst hj
  refine ⟨fun h => ?_, fun _ => ?_⟩
  · have hj2 : j < s.size := by simp at h; omega
    have hb := Ch hj2
    have hc : 0 ≤ Cg s j ∧ Cg s j ≤ 255 := by
      unfold Cg; rw [dif_pos hj2]; have := (s[j]).toNat_lt; omega
    rw [Zl (n := (j : Int) + 1) (by omega)]
    have w : IntKind.i64.wrap (IntKind.i64.wrap (Cg s j) + (j : Int)) = Cg s j + j := by rw [Zl (n := Cg s j) (by omega), Zl (by omega)]
    obtain ⟨v2, hv2, _⟩ := K1 (l := l) (n := (Cg s j + j) % 256) (by omega) (by omega)
    refine ⟨Cg s j, hb, v2, by rw [w, Vh (by omega)]; exact hv2, ?_⟩
    exact hX (s.size - (j + 1)) _ (by omega) ⟨j + 1, by simp, by omega, rfl⟩
  · obtain ⟨m, hm, h0, h1⟩ := B2 h
    exact ⟨m, hm, h0, h1⟩
theorem EY (a b c : Int) (s : ByteArray) : ∃ v, Xd a b c s v ∧ (0 ≤ b ∧ b ≤ 7 → 1 ≤ c ∧ c ≤ 64 → 0 ≤ v.1 ∧ v.1 < c) := by
  refine ED (Post := fun v => 0 ≤ b ∧ b ≤ 7 → 1 ≤ c ∧ c ≤ 64 → 0 ≤ v.1 ∧ v.1 < c) ?_
  unfold Vl
  simp only [ZA, V6, exists_eq_left, Jg]
  refine ⟨_, fun _ => rfl, fun _ _ h => (show 0 ≤ (0 : Int) ∧ (0 : Int) < c by omega), fun h => ⟨fun _ _ h => (show 0 ≤ (0 : Int) ∧ (0 : Int) < c by omega), fun h2 => ?_⟩⟩
  have h' : (0 ≤ b ∧ b ≤ 7) ∧ 1 ≤ c ∧ c ≤ 64 := by simpa [wI] using h
  have h2' : 1 ≤ s.size ∧ s.size ≤ 32 := by simpa using h2
  obtain ⟨v6, e6⟩ := HZ a b
  obtain ⟨v7, e7, l7⟩ := BP v6
  obtain ⟨v8, e8, h80, h81⟩ := CR v7 s l7 (by omega)
  refine ⟨v6, e6, v7, e7, v8, e8, by rw [Aw (by omega)]; omega, fun _ _ => ?_⟩
  show 0 ≤ IntKind.i64.wrap (v8.1.tmod (IntKind.u64.wrap c)) ∧ IntKind.i64.wrap (v8.1.tmod (IntKind.u64.wrap c)) < c
  rw [Aw (n := c) (by omega), Vh h80]
  have m0 := Int.emod_nonneg v8.1 (b := c) (by omega)
  have m1 := Int.emod_lt_of_pos v8.1 (b := c) (by omega)
  rw [Zl (by omega)]
  exact ⟨m0, m1⟩
theorem WR (a b c : Int) : ∃ v, Kc a b c v := by
  unfold Kc WN
  cases h : (bif decide ((K7 a 0) > (K7 c 0)) then true else decide ((K7 b 0) > (IntKind.i64.wrap ((K7 c 0) - (K7 a 0)))))
  · refine ⟨(IntKind.i64.wrap ((K7 a 0) + (K7 b 0)), false), _, rfl, _, rfl, _, rfl, ?_⟩; exact ⟨fun h2 => (by rw [h] at h2; cases h2), fun _ => rfl⟩
  · refine ⟨(K7 c 0, true), _, rfl, _, rfl, _, rfl, ?_⟩; exact ⟨fun _ => rfl, fun h2 => (by rw [h] at h2; cases h2)⟩
theorem VL (a b : Int) : ∃ v, KH a b v := by
  obtain ⟨v, hv⟩ := WR a b 1099511627776
  exact ⟨_, v, hv, rfl⟩
theorem ZO (x : Qh) : ∃ v, Z7 x v ∧ (v = 0 → (1 ≤ x.f3.size ∧ x.f3.size ≤ 32) ∧ 1 ≤ x.f4 ∧ x.f4 ≤ 4294967295) :=
  ⟨_, Yr x, fun h => by unfold HX at h; grind⟩
theorem Uh (c : Qi) (x : Qh) : ∃ v, Kl c x v ∧ v.1.f5.length ≤ 1000 := by
  refine Ub (Post := fun v => v.1.f5.length ≤ 1000) ?_
  unfold ZU
  simp only [jn]
  obtain ⟨v2, e2, ok⟩ := JP c
  obtain ⟨v4, e4, ok4⟩ := ZO x
  refine ⟨v2, e2, fun _ => by simp, fun h2 => ⟨v4, e4, fun _ => by simp, fun h4 => ?_⟩⟩
  obtain ⟨hd, hs, hl, hx⟩ := ok (by simpa using h2)
  have hm := G7 hd hs
  refine ⟨by omega, ?_⟩
  refine Kh (I := fun k s => 0 ≤ s.1 ∧ s.1 ≤ c.fm ∧ k = (c.fm - s.1).toNat ∧ s.2.1.length = c.f5.length) ?_ (k := c.fm.toNat) ⟨by simp, by simp only; omega, by simp, rfl⟩
  rintro k ⟨i, l, f⟩ ⟨h0, h1, hk, hlen⟩ X hX
  simp only at h0 h1 hk hlen ⊢
  refine ⟨fun h => ?_, fun _ => by omega⟩
  have hi : i < c.fm := by simpa using h
  obtain ⟨v, hv, hr⟩ := EY c.fo i c.fg x.f3
  obtain ⟨r0, r1⟩ := hr (by omega) hs
  have p1 : 0 ≤ i * c.fg := Int.mul_nonneg h0 (by omega)
  have p2 : (i + 1) * c.fg ≤ c.fm * c.fg := Int.mul_le_mul_of_nonneg_right (by omega) (by omega)
  rw [Int.add_mul, Int.one_mul] at p2
  have w : IntKind.i64.wrap (IntKind.i64.wrap (i * c.fg) + v.1) = i * c.fg + v.1 := by rw [Zl (n := i * c.fg) (by omega), Zl (by omega)]
  obtain ⟨y, hy, _⟩ := K1 (l := l) (n := i * c.fg + v.1) (by omega) (by omega)
  obtain ⟨z, hz⟩ := WR y x.f4 4294967295
  refine ⟨i * c.fg + v.1, ⟨v, hv, w.symm⟩, y, hy, z, hz, y, hy, ?_⟩
  rw [Zl (by omega)]
  exact hX (c.fm - (i + 1)).toNat _ (by omega) ⟨by simp only; omega, by simp only; omega, rfl, by simpa using hlen⟩
theorem shr_p {p v : Int} (hp : 2 ≤ p ∧ p ≤ 8) (h0 : 0 ≤ v) (h1 : v ≤ 18446744073709551615) : 0 ≤ QN .u64 v (IntKind.u64.wrap (IntKind.i64.wrap (64 - p))) ∧ QN .u64 v (IntKind.u64.wrap (IntKind.i64.wrap (64 - p))) < XR .i64 1 (IntKind.u64.wrap p) := by
  have h : p = 2 ∨ p = 3 ∨ p = 4 ∨ p = 5 ∨ p = 6 ∨ p = 7 ∨ p = 8 := by omega
  have hd : ∀ m : Int, 0 < m → v.fdiv m = v / m := fun m hm => Int.fdiv_eq_ediv_of_nonneg v (by omega)
  rcases h with rfl | rfl | rfl | rfl | rfl | rfl | rfl
  · have e1 : IntKind.u64.wrap (IntKind.i64.wrap (64 - 2)) = 62 := by decide
    have e2 : XR .i64 1 (IntKind.u64.wrap 2) = 4 := by decide
    rw [e1, e2]; show 0 ≤ v.fdiv 4611686018427387904 ∧ v.fdiv 4611686018427387904 < 4; rw [hd _ (by decide)]; omega
  · have e1 : IntKind.u64.wrap (IntKind.i64.wrap (64 - 3)) = 61 := by decide
    have e2 : XR .i64 1 (IntKind.u64.wrap 3) = 8 := by decide
    rw [e1, e2]; show 0 ≤ v.fdiv 2305843009213693952 ∧ v.fdiv 2305843009213693952 < 8; rw [hd _ (by decide)]; omega
  · have e1 : IntKind.u64.wrap (IntKind.i64.wrap (64 - 4)) = 60 := by decide
    have e2 : XR .i64 1 (IntKind.u64.wrap 4) = 16 := by decide
    rw [e1, e2]; show 0 ≤ v.fdiv 1152921504606846976 ∧ v.fdiv 1152921504606846976 < 16; rw [hd _ (by decide)]; omega
  · have e1 : IntKind.u64.wrap (IntKind.i64.wrap (64 - 5)) = 59 := by decide
    have e2 : XR .i64 1 (IntKind.u64.wrap 5) = 32 := by decide
    rw [e1, e2]; show 0 ≤ v.fdiv 576460752303423488 ∧ v.fdiv 576460752303423488 < 32; rw [hd _ (by decide)]; omega
  · have e1 : IntKind.u64.wrap (IntKind.i64.wrap (64 - 6)) = 58 := by decide
    have e2 : XR .i64 1 (IntKind.u64.wrap 6) = 64 := by decide
    rw [e1, e2]; show 0 ≤ v.fdiv 288230376151711744 ∧ v.fdiv 288230376151711744 < 64; rw [hd _ (by decide)]; omega
  · have e1 : IntKind.u64.wrap (IntKind.i64.wrap (64 - 7)) = 57 := by decide
    have e2 : XR .i64 1 (IntKind.u64.wrap 7) = 128 := by decide
    rw [e1, e2]; show 0 ≤ v.fdiv 144115188075855872 ∧ v.fdiv 144115188075855872 < 128; rw [hd _ (by decide)]; omega
  · have e1 : IntKind.u64.wrap (IntKind.i64.wrap (64 - 8)) = 56 := by decide
    have e2 : XR .i64 1 (IntKind.u64.wrap 8) = 256 := by decide
    rw [e1, e2]; show 0 ≤ v.fdiv 72057594037927936 ∧ v.fdiv 72057594037927936 < 256; rw [hd _ (by decide)]; omega
theorem Dd (p a : Int) (s : ByteArray) (hp : 2 ≤ p ∧ p ≤ 8) : ∃ v, Vf p a s v ∧ 0 ≤ v.1 ∧ v.1 < XR .i64 1 (IntKind.u64.wrap p) := by
  have hs4 := M5 hp
  refine D6 (Post := fun v => 0 ≤ v.1 ∧ v.1 < XR .i64 1 (IntKind.u64.wrap p)) ?_
  unfold Jp
  simp only [ZA, V6, exists_eq_left, jn]
  refine ⟨fun _ => by omega, fun _ => ⟨fun _ => by omega, fun h2 => ?_⟩⟩
  have h2' : 1 ≤ s.size ∧ s.size ≤ 32 := by simpa using h2
  obtain ⟨v5, e5, l5⟩ := BP a
  obtain ⟨v6, e6, h60, h61⟩ := CR v5 s l5 (by omega)
  refine ⟨v5, e5, v6, e6, ?_⟩
  have sh := shr_p hp h60 h61
  refine Kh (I := fun k s => -1 ≤ s.2 ∧ s.2 ≤ 63 ∧ k = (s.2 + 1).toNat) ?_ (k := (64 - p).toNat) ⟨by simp only; rw [Zl (by omega)]; omega, by simp only; rw [Zl (by omega)]; omega, by simp only; rw [Zl (by omega)]; omega⟩
  rintro k ⟨n, i⟩ ⟨h0, h1, hk⟩ X hX
  simp only at h0 h1 hk ⊢
  refine ⟨fun h => by rw [Aw (by simp at h; omega)]; simp at h; omega, fun h => ?_, fun h => ?_⟩
  · have hi : 0 ≤ i := by
      cases hd : decide (i ≥ 0) with
      | true => simpa using hd
      | false => rw [hd] at h; cases h
    rw [Zl (n := i - 1) (by omega)]
    exact hX (i - 1 + 1).toNat _ (by omega) ⟨by simp only; omega, by simp only; omega, rfl⟩
  · refine ⟨by rw [Aw (by rw [Zl (by omega)]; omega), Zl (by omega)]; omega, ?_⟩
    rw [Zl (n := QN .u64 v6.1 _) (by omega)]
    exact sh
theorem Ac (c : Qv) (x : Qh) : ∃ v, KM c x v ∧ v.1.fp.length ≤ 1000 := by
  refine A4 (Post := fun v => v.1.fp.length ≤ 1000) ?_
  unfold Kf
  obtain ⟨v2, e2, ok⟩ := Vu c
  obtain ⟨v4, e4, ok4⟩ := ZO x
  refine ⟨v2, e2, fun _ => by simp, fun h2 => ⟨v4, e4, fun _ => by simp, fun h4 => ?_⟩⟩
  obtain ⟨hp, hl, hlen, hx⟩ := ok (by simpa using h2)
  obtain ⟨v5, e5, h50, h51⟩ := Dd c.fx c.fo x.f3 hp
  obtain ⟨y, hy, _⟩ := K1 (l := c.fp) (n := v5.1) h50 (by omega)
  exact ⟨v5, e5, by omega, y, hy, y, hy, by simp; omega⟩
theorem B4 (t : QA) (x : Qh) : ∃ v, Jb t x v := by
  obtain ⟨v, hv, _⟩ := AT (Post := fun _ => True) (a0 := t) (a1 := x) (by
    unfold Ku
    obtain ⟨v2, e2, ok⟩ := VJ t
    obtain ⟨v4, e4, ok4⟩ := ZO x
    obtain ⟨a1, h1⟩ := WR t.fh x.f4 4294967295
    obtain ⟨a2, h2⟩ := WR t.fv 1 4294967295
    exact ⟨v2, e2, fun _ => trivial, fun _ => ⟨v4, e4, fun _ => trivial, fun _ => ⟨_, ⟨a1, h1, a2, h2, rfl⟩, trivial⟩⟩⟩)
  exact ⟨v, hv⟩
theorem Xu {α : Type} {l : List α} {j : Nat} (h : j < l.length) : ∃ x, ix l (j : Int) x := by
  obtain ⟨x, hx, _⟩ := K1 (l := l) (n := (j : Int)) (by omega) (by omega)
  exact ⟨x, hx⟩
theorem Ga (c : QE) (h : c.fc.length ≤ 1000) : ∃ v, XO c v := by
  obtain ⟨v, hv, _⟩ := FX (Post := fun _ => True) (a0 := c) (by
    unfold VV
    simp only [Jg]
    refine ⟨fun _ => trivial, fun h2 => ?_⟩
    have h0 : c.fc.length ≠ 0 := by
      intro e; rw [e] at h2; simp at h2
    rw [Zl (by omega)]
    obtain ⟨x, hx, _⟩ := K1 (l := c.fc) (n := (c.fc.length : Int) - 1) (by omega) (by omega)
    exact ⟨x, hx, trivial⟩)
  exact ⟨v, hv⟩
theorem UJ (l : List Q3) (hl : l.length ≤ 1000) : ∃ r, Yi l r ∧ r.length ≤ 1000 := by
  refine H3 (Post := fun r => r.length ≤ 1000) ?_
  unfold XF
  simp only [jn]
  refine Kh (I := fun k s => ∃ j : Nat, s.2 = (j : Int) ∧ j ≤ l.length ∧ k = l.length - j ∧ s.1.length = j) ?_ (k := l.length) ⟨0, rfl, by omega, by omega, rfl⟩
  rintro k ⟨a, i⟩ ⟨j, hj, hj1, hk, ha⟩ X hX
  simp only at hj ha ⊢
  subst hj
  refine ⟨fun h => ?_, fun _ => by omega⟩
  have hj2 : j < l.length := by simp at h; omega
  obtain ⟨x, hx⟩ := Xu hj2
  refine ⟨x, hx, by simp; omega, ?_⟩
  have w0 : IntKind.i64.wrap (((a ++ [x]).length : Int) - 1) = (j : Int) := by simp [ha]; rw [Zl (by omega)]
  rw [w0]
  refine Kh (I := fun k s => ∃ m : Nat, s.2 = (m : Int) ∧ m ≤ j ∧ k = m ∧ s.1.length = j + 1) ?_ (k := j) ⟨j, rfl, by omega, rfl, by simp [ha]⟩
  rintro k2 ⟨b, i2⟩ ⟨m, hm, hm1, hk2, hb⟩ X2 hX2
  simp only at hm hb ⊢
  subst hm
  have done : X (b, IntKind.i64.wrap ((j : Int) + 1)) := by
    rw [Zl (by omega)]
    exact hX (l.length - (j + 1)) _ (by omega) ⟨j + 1, by simp, by omega, rfl, hb⟩
  by_cases h0 : m = 0
  · subst h0
    exact ⟨x, fun h => by simp at h, x, fun h => by simp at h, false, fun h => by simp at h, fun h => by simp at h, fun _ => done⟩
  · obtain ⟨p, hp⟩ := Xu (l := b) (j := m) (by omega)
    obtain ⟨q, hq⟩ := Xu (l := b) (j := m - 1) (by omega)
    have wm : IntKind.i64.wrap ((m : Int) - 1) = ((m - 1 : Nat) : Int) := by rw [Zl (by omega)]; omega
    obtain ⟨z, hz⟩ := Xu (l := List.set b (Int.toNat (m : Int)) q) (j := m - 1) (by simp; omega)
    rw [wm]
    refine ⟨p, fun _ => hp, q, fun _ => hq, _, fun _ => rfl, fun _ => ⟨q, hq, p, hp, p, hp, z, hz, ?_⟩, fun _ => done⟩
    exact hX2 (m - 1) _ (by omega) ⟨m - 1, rfl, by omega, rfl, by simpa using hb⟩
theorem Cl (c : QE) (x : Qh) : ∃ v, JL c x v ∧ v.1.fc.length ≤ 1000 := by
  refine Cd (Post := fun v => v.1.fc.length ≤ 1000) ?_
  unfold KW
  simp only [jn]
  obtain ⟨v2, e2, ok⟩ := Xt c
  obtain ⟨v4, e4, ok4⟩ := ZO x
  refine ⟨v2, e2, fun _ => by simp, fun h2 => ⟨v4, e4, fun _ => by simp, fun h4 => ?_⟩⟩
  obtain ⟨hs, ht, hl, hx⟩ := ok (by simpa using h2)
  obtain ⟨v6, e6⟩ := VL c.fh x.f4
  obtain ⟨v7, e7, h70, h71⟩ := UI c.fc x.f3 (by omega)
  refine ⟨by omega, v6, e6, v7, e7, fun h => ?_, fun h => ⟨fun h3 => ?_, fun h3 => ?_⟩⟩
  · have h' : 0 ≤ v7 := by simpa using h
    obtain ⟨y, hy, _⟩ := K1 (l := c.fc) (n := v7) h' h71
    obtain ⟨z, hz⟩ := VL y.fw x.f4
    obtain ⟨r, hr, hr2⟩ := UJ (List.set c.fc (Int.toNat v7) (Q3.mk (y.f3) (z.1) (y.fa3))) (by simp; omega)
    exact ⟨y, hy, z, hz, y, hy, r, hr, hr2⟩
  · obtain ⟨r, hr, hr2⟩ := UJ (c.fc ++ [Q3.mk (x.f3) (x.f4) (0)]) (by simp; omega)
    exact ⟨by simp; omega, r, hr, hr2⟩
  · have h3' : c.fg ≤ c.fc.length := by simpa using h3
    obtain ⟨v13, e13⟩ := Ga c (by omega)
    obtain ⟨v14, e14⟩ := VL v13 x.f4
    have w : IntKind.i64.wrap ((c.fc.length : Int) - 1) = (c.fc.length : Int) - 1 := Zl (by omega)
    obtain ⟨y, hy, _⟩ := K1 (l := c.fc) (n := (c.fc.length : Int) - 1) (by omega) (by omega)
    rw [w]
    obtain ⟨r, hr, hr2⟩ := UJ (List.set c.fc (Int.toNat ((c.fc.length : Int) - 1)) (Q3.mk (x.f3) (v14.1) (Va (v13) (IntKind.i64.wrap ((v14.1) - (1)))))) (by simp; omega)
    exact ⟨v13, e13, v14, e14, y, hy, r, hr, hr2⟩
theorem BQ (l : List Q3) (x : Q3) (hl : l.length ≤ 900) : ∃ r, VX l x r ∧ r.length ≤ 1000 := by
  refine FZ (Post := fun r => r.length ≤ 1000) ?_
  unfold VW
  simp only [jn]
  refine Kh (I := fun k s => ∃ j : Nat, s.2.2 = (j : Int) ∧ j ≤ l.length ∧ k = l.length - j ∧ s.1.length ≤ j + (if s.2.1 = true then 1 else 0)) ?_ (k := l.length) ⟨0, rfl, by omega, by omega, by simp⟩
  rintro k ⟨a, f, i⟩ ⟨j, hj, hj1, hk, ha⟩ X hX
  simp only at hj ha ⊢
  subst hj
  have hf : (if f = true then 1 else 0 : Nat) ≤ 1 := by cases f <;> simp
  refine ⟨fun h => ?_, fun h => ⟨fun _ => ⟨by simp; omega, by simp; omega⟩, fun _ => by omega⟩⟩
  have hj2 : j < l.length := by simp at h; omega
  obtain ⟨y, hy⟩ := Xu hj2
  refine ⟨y, fun _ => hy, fun h2 => ⟨by simp; omega, y, hy, by simp; omega, ?_⟩, fun h2 => ⟨y, hy, by simp; omega, ?_⟩⟩
  · rw [Zl (by omega)]
    have hff : f = false := by cases f <;> simp_all
    subst hff
    refine hX (l.length - (j + 1)) _ (by omega) ⟨j + 1, by simp, by omega, rfl, ?_⟩
    simp at ha ⊢; omega
  · rw [Zl (by omega)]
    refine hX (l.length - (j + 1)) _ (by omega) ⟨j + 1, by simp, by omega, rfl, ?_⟩
    simp; omega
theorem Gb (l : List Q3) (n : Int) (hl : l.length ≤ 900) : ∃ r, XP l n r ∧ r.length ≤ l.length := by
  refine G0 (Post := fun r => r.length ≤ l.length) ?_
  unfold VY
  simp only [jn]
  refine Kh (I := fun k s => ∃ j : Nat, s.2 = (j : Int) ∧ j ≤ l.length ∧ k = l.length - j ∧ s.1.length ≤ j) ?_ (k := l.length) ⟨0, rfl, by omega, by omega, by simp⟩
  rintro k ⟨a, i⟩ ⟨j, hj, hj1, hk, ha⟩ X hX
  simp only at hj ha ⊢
  subst hj
  refine ⟨fun h => ?_, fun _ => by omega⟩
  have hj2 : j < l.length := by simp at h; omega
  obtain ⟨y, hy⟩ := Xu hj2
  rw [Zl (by omega)]
  refine ⟨y, hy, fun _ => ⟨y, hy, y, hy, by simp; omega, ?_⟩, fun _ => ?_⟩
  · exact hX (l.length - (j + 1)) _ (by omega) ⟨j + 1, by simp, by omega, rfl, by simp; omega⟩
  · exact hX (l.length - (j + 1)) _ (by omega) ⟨j + 1, by simp, by omega, rfl, by simp only; omega⟩
theorem Ui (c : Qn) (x : Qh) : ∃ v, Km c x v ∧ v.1.fc.length ≤ 1000 := by
  refine Ud (Post := fun v => v.1.fc.length ≤ 1000) ?_
  unfold ZV
  simp only [jn]
  obtain ⟨v2, e2, ok⟩ := JQ c
  obtain ⟨v4, e4, ok4⟩ := ZO x
  refine ⟨v2, e2, fun _ => by simp, fun h2 => ⟨v4, e4, fun _ => by simp, fun h4 => ?_⟩⟩
  obtain ⟨hs, ht, hlo, hl, hx⟩ := ok (by simpa using h2)
  obtain ⟨v6, e6⟩ := VL c.fh x.f4
  obtain ⟨v7, e7, h70, h71⟩ := UI c.fc x.f3 (by omega)
  refine ⟨by omega, v6, e6, v7, e7, fun h => ?_, fun h => ⟨fun h3 => ?_, fun h3 => ?_⟩⟩
  · have h' : 0 ≤ v7 := by simpa using h
    obtain ⟨y, hy, _⟩ := K1 (l := c.fc) (n := v7) h' h71
    obtain ⟨z, hz⟩ := VL y.fw x.f4
    exact ⟨y, hy, z, hz, y, hy, by simp; omega⟩
  · obtain ⟨r, hr, hr2⟩ := BQ c.fc (Q3.mk (x.f3) (x.f4) (0)) (by omega)
    exact ⟨r, hr, hr2⟩
  · refine Kh (I := fun k s => ∃ j : Nat, s.2.1 = (j : Int) ∧ j ≤ c.fc.length ∧ k = c.fc.length - j ∧ s.2.2 = c.fc) ?_ (k := c.fc.length) ⟨0, rfl, by omega, by omega, rfl⟩
    rintro k ⟨n, i, l⟩ ⟨j, hj, hj1, hk, hl2⟩ X hX
    simp only at hj hl2 ⊢
    subst hj; subst hl2
    refine ⟨fun h => ?_, fun _ => ?_⟩
    · have hj2 : j < c.fc.length := by simp at h; omega
      obtain ⟨y, hy⟩ := Xu hj2
      refine ⟨y, hy, ?_⟩
      rw [Zl (by omega)]
      exact hX (c.fc.length - (j + 1)) _ (by omega) ⟨j + 1, by simp, by omega, rfl, rfl⟩
    · obtain ⟨v18, e18, l18⟩ := Gb c.fc n (by omega)
      obtain ⟨v19, e19⟩ := VL c.fa2 n
      obtain ⟨r, hr, hr2⟩ := BQ v18 (Q3.mk (x.f3) (IntKind.i64.wrap ((x.f4) - n)) (0)) (by omega)
      exact ⟨v18, e18, v19, e19, fun _ => ⟨r, hr, hr2⟩, fun _ => (show v18.length ≤ 1000 by omega)⟩
theorem EZ (w : Int) : ∃ r, Xe w r ∧ r.length ≤ 63 ∧ ∀ x ∈ r, 0 ≤ x ∧ x ≤ 62 := by
  refine EF (Post := fun r => r.length ≤ 63 ∧ ∀ x ∈ r, 0 ≤ x ∧ x ≤ 62) ?_
  unfold Vm
  simp only [jn]
  refine Kh (I := fun k s => ∃ j : Nat, s.2 = (j : Int) ∧ j ≤ 63 ∧ k = 63 - j ∧ s.1.length ≤ j ∧ ∀ x ∈ s.1, 0 ≤ x ∧ x ≤ 62) ?_ (k := 63) ⟨0, rfl, by omega, by omega, by simp, by simp⟩
  rintro k ⟨a, i⟩ ⟨j, hj, hj1, hk, ha, hx⟩ X hX
  simp only at hj ha hx ⊢
  subst hj
  refine ⟨fun h => ?_, fun _ => ⟨by omega, hx⟩⟩
  have hj2 : j < 63 := by
    cases hd : decide ((j : Int) < 63) with
    | true => simp at hd; omega
    | false => rw [hd] at h; cases h
  rw [Zl (by omega)]
  refine ⟨by rw [Aw (by omega)]; omega, fun _ => ⟨by simp; omega, ?_⟩, fun _ => ?_⟩
  · refine hX (63 - (j + 1)) _ (by omega) ⟨j + 1, by simp, by omega, rfl, by simp; omega, ?_⟩
    intro x hx2
    rcases List.mem_append.1 hx2 with h | h
    · exact hx x h
    · simp at h; omega
  · exact hX (63 - (j + 1)) _ (by omega) ⟨j + 1, by simp, by omega, rfl, by simp only; omega, hx⟩
theorem F0 (l : List ByteArray) (hl : l.length ≤ 1000000) : ∃ r, Vo l r ∧ r.length = l.length := by
  refine EH (Post := fun r => r.length = l.length) ?_
  unfold Vn
  simp only [jn]
  refine Kh (I := fun k s => ∃ j : Nat, s.2 = (j : Int) ∧ j ≤ l.length ∧ k = l.length - j ∧ s.1.length = j) ?_ (k := l.length) ⟨0, rfl, by omega, by omega, rfl⟩
  rintro k ⟨a, i⟩ ⟨j, hj, hj1, hk, ha⟩ X hX
  simp only at hj ha ⊢
  subst hj
  refine ⟨fun h => ?_, fun h => by simp at h; omega⟩
  have hj2 : j < l.length := by simp at h; omega
  obtain ⟨x, hx⟩ := Xu hj2
  refine ⟨x, hx, by simp; omega, ?_⟩
  have w0 : IntKind.i64.wrap (((a ++ [x]).length : Int) - 1) = (j : Int) := by simp [ha]; rw [Zl (by omega)]
  rw [w0]
  refine Kh (I := fun k s => ∃ m : Nat, s.2 = (m : Int) ∧ m ≤ j ∧ k = m ∧ s.1.length = j + 1) ?_ (k := j) ⟨j, rfl, by omega, rfl, by simp [ha]⟩
  rintro k2 ⟨b, i2⟩ ⟨m, hm, hm1, hk2, hb⟩ X2 hX2
  simp only at hm hb ⊢
  subst hm
  have done : X (b, IntKind.i64.wrap ((j : Int) + 1)) := by
    rw [Zl (by omega)]
    exact hX (l.length - (j + 1)) _ (by omega) ⟨j + 1, by simp, by omega, rfl, hb⟩
  by_cases h0 : m = 0
  · subst h0
    exact ⟨x, fun h => by simp at h, x, fun h => by simp at h, fun h => by simp at h, fun _ => done⟩
  · obtain ⟨p, hp⟩ := Xu (l := b) (j := m) (by omega)
    obtain ⟨q, hq⟩ := Xu (l := b) (j := m - 1) (by omega)
    have wm : IntKind.i64.wrap ((m : Int) - 1) = ((m - 1 : Nat) : Int) := by rw [Zl (by omega)]; omega
    obtain ⟨z, hz⟩ := Xu (l := List.set b (Int.toNat (m : Int)) q) (j := m - 1) (by simp; omega)
    rw [wm]
    refine ⟨p, fun _ => hp, q, fun _ => hq, fun _ => ⟨q, hq, p, hp, p, hp, z, hz, ?_⟩, fun _ => done⟩
    exact hX2 (m - 1) _ (by omega) ⟨m - 1, rfl, by omega, rfl, by simpa using hb⟩
theorem tdiv8 {a : Int} (h : 0 ≤ a) : a.tdiv 8 = a / 8 := Int.tdiv_eq_ediv_of_nonneg h
theorem I0 (l : List Int) (p : Int) (hl : l.length ≤ 1000000) (h1 : p ≤ 4611686018427387904) (h2 : -4611686018427387904 ≤ p) : ∃ v, Y3 l p v ∧ 0 ≤ v ∧ v ≤ 1 := by
  refine HU (Post := fun v => 0 ≤ v ∧ v ≤ 1) ?_
  unfold Y2
  simp only [bA1, Jg]
  refine ⟨fun _ => by omega, fun h => ?_⟩
  have h0 : 0 ≤ p := by
    cases hd : decide (p < 0) with
    | false => simpa using hd
    | true => rw [hd] at h; cases h
  have hw : IntKind.i64.wrap (p.tdiv 8) = p / 8 := by rw [tdiv8 h0, Zl (by omega)]
  rw [hw] at h ⊢
  have h3 : p / 8 < l.length := by
    have := (Bool.or_eq_false_iff.1 h).2
    simpa using this
  obtain ⟨x, hx, _⟩ := K1 (l := l) (n := p / 8) (by omega) h3
  refine ⟨x, hx, ?_, by omega⟩
  rw [Vh h0, Zl (by omega), Aw (by omega)]; omega
theorem F1 (a0 : List (List ByteArray)) (a1 a2 : Int) (a3 : List Int) (a4 : Int) (h0 : a0.length ≤ 1000) (hM : ∀ l ∈ a0, l.length ≤ 1000) (h3 : a3.length ≤ 1000000) (h4 : 0 ≤ a4 ∧ a4 ≤ 1073741824) :
    ∃ r, Xf a0 a1 a2 a3 a4 r ∧ r.1.length ≤ 3000 ∧ ∀ l ∈ r.1, l.length ≤ 3000 := by
  refine EJ (Post := fun r => r.1.length ≤ 3000 ∧ ∀ l ∈ r.1, l.length ≤ 3000) ?_
  unfold Vp
  simp only [jn]
  have trim : ∀ (sl po : Int) (out : List (List ByteArray)), out.length ≤ 3000 → (∀ l ∈ out, l.length ≤ 3000) →
      lp (fun (X24 : (List (List ByteArray)) → Prop) (s24 : (List (List ByteArray))) => ∃ (v26 : (List ByteArray)), ((decide ((((s24).length : Int)) > (0))) = true → ix (s24) (IntKind.i64.wrap ((((s24).length : Int)) - (1))) v26) ∧ ((((bif decide ((((s24).length : Int)) > (0)) then ((((v26).length : Int)) == (0)) else false)) = true → ((0 : Int) ≤ (IntKind.i64.wrap ((((s24).length : Int)) - (1))) ∧ (IntKind.i64.wrap ((((s24).length : Int)) - (1)) : Int) ≤ ((s24).length : Int)) ∧ X24 ((List.take (Int.toNat (IntKind.i64.wrap ((((s24).length : Int)) - (1)))) (s24)))) ∧ (((bif decide ((((s24).length : Int)) > (0)) then ((((v26).length : Int)) == (0)) else false)) = false → s24.length ≤ 3000 ∧ ∀ l ∈ s24, l.length ≤ 3000))) out := by
    intro sl po out ho hl
    refine Kh (I := fun k s => s.length ≤ 3000 ∧ (∀ l ∈ s, l.length ≤ 3000) ∧ k = s.length) ?_ (k := out.length) ⟨ho, hl, rfl⟩
    rintro k s ⟨hs, hl, hk⟩ X hX
    by_cases hz : s.length = 0
    · refine ⟨[], fun h => by simp [hz] at h, fun h => by simp [hz] at h, fun _ => ⟨hs, hl⟩⟩
    · have w : IntKind.i64.wrap ((s.length : Int) - 1) = ((s.length - 1 : Nat) : Int) := by rw [Zl (by omega)]; omega
      rw [w]
      obtain ⟨x, hx⟩ := Xu (l := s) (j := s.length - 1) (by omega)
      refine ⟨x, fun _ => hx, fun _ => ⟨by omega, ?_⟩, fun _ => ⟨hs, hl⟩⟩
      refine hX (s.length - 1) _ (by omega) ⟨by simp; omega, fun l h => hl l (List.mem_of_mem_take h), by simp⟩
  refine Kh (I := fun k s => ∃ i : Nat, s.2.2.2.2 = (i : Int) ∧ s.2.2.2.1.length ≤ 1000 ∧ i + s.2.2.2.1.length ≤ a0.length + 1000 ∧ s.2.2.1.length = i ∧ (∀ l ∈ s.2.2.1, l.length ≤ 3000) ∧ (a4 ≤ s.2.1 ∧ s.2.1 ≤ a4 + i) ∧ k = (a0.length - i) * 1001 + s.2.2.2.1.length) ?_ (k := a0.length * 1001) ⟨0, rfl, by simp, by simp, rfl, by simp, by simp, by simp⟩
  rintro k ⟨sl, po, out, carry, i'⟩ ⟨i, hi, hc, hic, hout, hlen, hpo, hk⟩ X hX
  simp only at hi hc hic hout hlen hpo hk ⊢
  subst hi
  refine ⟨fun h => ?_, fun _ => trim sl po out (by omega) hlen⟩
  have tail : ∀ merged : List ByteArray, merged.length ≤ 2000 → (i < a0.length ∨ (merged.length = carry.length ∧ 0 < carry.length)) →
      ∃ v9, Vo merged v9 ∧ ((decide ((v9.length : Int) < a1) = true → (out.length + [v9].length) * 24 ≤ 140737488355328 ∧ X (sl, po, out ++ [v9], [], IntKind.i64.wrap ((i : Int) + 1))) ∧
        (decide ((v9.length : Int) < a1) = false → ∃ v13, Y3 a3 po v13 ∧
          lp (fun (X14 : (List (List ByteArray)) × (List ByteArray) × (List ByteArray) × Int → Prop) (s14 : (List (List ByteArray)) × (List ByteArray) × (List ByteArray) × Int) => (((decide ((s14.2.2.2) < (IntKind.i64.wrap ((IntKind.i64.wrap ((((v9).length : Int)).tdiv (2))) * (2))))) = true → ∃ (v17 : ByteArray), ix (s14.2.2.1) (s14.2.2.2) v17 ∧ (((s14.2.1).length + ([(v17)]).length) * 16 ≤ 140737488355328) ∧ X14 ((s14.1), ((s14.2.1) ++ ([(v17)])), (s14.2.2.1), (IntKind.i64.wrap ((s14.2.2.2) + (2))))) ∧ ((decide ((s14.2.2.2) < (IntKind.i64.wrap ((IntKind.i64.wrap ((((v9).length : Int)).tdiv (2))) * (2))))) = false →
            ((0 : Int) ≤ (IntKind.u64.wrap (i : Int))) ∧ ∃ (v20 : Int × Bool), KH sl (XR .i64 (1) (IntKind.u64.wrap (i : Int))) v20 ∧ ((0 : Int) ≤ (IntKind.i64.wrap ((IntKind.i64.wrap ((((v9).length : Int)).tdiv (2))) * (2))) ∧ (IntKind.i64.wrap ((IntKind.i64.wrap ((((v9).length : Int)).tdiv (2))) * (2)) : Int) ≤ (((List.map eS (s14.2.2.1)).length : Nat) : Int)) ∧ (((s14.1).length + ([(List.take ((List.map eS (s14.2.2.1)).length - Int.toNat (IntKind.i64.wrap ((IntKind.i64.wrap ((((v9).length : Int)).tdiv (2))) * (2)))) (List.drop (0 + Int.toNat (IntKind.i64.wrap ((IntKind.i64.wrap ((((v9).length : Int)).tdiv (2))) * (2)))) (s14.2.2.1)))]).length) * 24 ≤ 140737488355328) ∧ X ((v20.1), (IntKind.i64.wrap (po + (1))), ((s14.1) ++ ([(List.take ((List.map eS (s14.2.2.1)).length - Int.toNat (IntKind.i64.wrap ((IntKind.i64.wrap ((((v9).length : Int)).tdiv (2))) * (2)))) (List.drop (0 + Int.toNat (IntKind.i64.wrap ((IntKind.i64.wrap ((((v9).length : Int)).tdiv (2))) * (2)))) (s14.2.2.1)))])), (s14.2.1), IntKind.i64.wrap ((i : Int) + 1))))) (out, ([] : (List ByteArray)), v9, v13))) := by
    intro merged hm hpr
    obtain ⟨v9, e9, l9⟩ := F0 merged (by omega)
    have hw1 : IntKind.i64.wrap ((i : Int) + 1) = ((i + 1 : Nat) : Int) := by rw [Zl (by omega)]; omega
    have ht : (v9.length : Int).tdiv 2 = ((v9.length / 2 : Nat) : Int) := by rw [Int.tdiv_eq_ediv_of_nonneg (by omega)]; omega
    have hw2 : IntKind.i64.wrap (IntKind.i64.wrap ((v9.length : Int).tdiv 2) * 2) = ((v9.length / 2 * 2 : Nat) : Int) := by
      rw [ht, Zl (n := ((v9.length / 2 : Nat) : Int)) (by omega), Zl (by omega)]; omega
    have hmeas : ∀ c : Nat, c ≤ v9.length / 2 → (a0.length - (i + 1)) * 1001 + c < k ∧ i + 1 + c ≤ a0.length + 1000 ∧ c ≤ 1000 := by
      intro c hcc
      rcases hpr with h | ⟨h, h'⟩
      · refine ⟨?_, by omega, by omega⟩
        have : a0.length - i = (a0.length - (i + 1)) + 1 := by omega
        rw [hk, this, Nat.add_mul]; omega
      · have hle : a0.length - (i + 1) ≤ a0.length - i := by omega
        have hle2 := Nat.mul_le_mul_right 1001 hle
        refine ⟨by omega, by omega, by omega⟩
    refine ⟨v9, e9, ?_⟩
    rw [hw1, hw2]
    refine ⟨fun h => ⟨by simp; omega, ?_⟩, fun h => ?_⟩
    · obtain ⟨m1, m2, m3⟩ := hmeas 0 (by omega)
      refine hX _ _ m1 ⟨i + 1, rfl, by simp, by simpa using m2, by simp [hout], ?_, by simp only; omega, rfl⟩
      intro l hl
      rcases List.mem_append.1 hl with h | h
      · exact hlen l h
      · simp at h; rw [h]; omega
    · obtain ⟨v13, e13, b0, b1⟩ := I0 a3 po h3 (by omega) (by omega)
      refine ⟨v13, e13, ?_⟩
      refine Kh (I := fun k s => ∃ h : Nat, s.1 = out ∧ s.2.1.length = h ∧ s.2.2.1 = v9 ∧ s.2.2.2 = v13 + 2 * (h : Int) ∧ h ≤ v9.length / 2 ∧ k = v9.length / 2 - h) ?_ (k := v9.length / 2) ⟨0, rfl, rfl, rfl, by simp, by omega, by omega⟩
      rintro k14 ⟨o, half, v, kk⟩ ⟨nh, ho, hh, hv, hkk, hle, hk14⟩ X14 hX14
      simp only at ho hh hv hkk ⊢
      subst ho; subst hv
      refine ⟨fun hlt => ?_, fun hge => ?_⟩
      · have hlt' : kk < ((v.length / 2 * 2 : Nat) : Int) := by simpa using hlt
        obtain ⟨y, hy, _⟩ := K1 (l := v) (n := kk) (by omega) (by omega)
        refine ⟨y, hy, by simp; omega, ?_⟩
        rw [Zl (by omega)]
        exact hX14 (v.length / 2 - (nh + 1)) _ (by omega) ⟨nh + 1, rfl, by simp [hh], rfl, by simp only; omega, by omega, rfl⟩
      · obtain ⟨v20, e20⟩ := VL sl (XR .i64 (1) (IntKind.u64.wrap (i : Int)))
        refine ⟨(UV _).1, v20, e20, ⟨by omega, by simp; omega⟩, by simp; omega, ?_⟩
        rw [Zl (n := po + 1) (by omega)]
        obtain ⟨m1, m2, m3⟩ := hmeas half.length (by omega)
        refine hX _ _ m1 ⟨i + 1, rfl, m3, m2, by simp [hout], ?_, by simp only; omega, rfl⟩
        intro l hl
        rcases List.mem_append.1 hl with h | h
        · exact hlen l h
        · simp only [List.mem_singleton] at h; rw [h, List.length_take, List.length_drop]; omega
  refine ⟨fun h2 => ?_, fun h2 => ?_⟩
  · have hi2 : i < a0.length := by simp at h2; omega
    obtain ⟨x, hx, hg⟩ := K1 (l := a0) (n := (i : Int)) (by omega) (by omega)
    have hxl : x.length ≤ 1000 := hM x (List.mem_of_getElem? hg)
    exact ⟨x, hx, by omega, by omega, tail (x ++ carry) (by simp; omega) (.inl hi2)⟩
  · have hi2 : ¬ i < a0.length := by simp at h2; omega
    have hcp : 0 < carry.length := by
      rw [h2] at h; simp at h
      rcases Nat.eq_zero_or_pos carry.length with h' | h'
      · simp_all
      · exact h'
    exact tail carry (by omega) (.inr ⟨rfl, hcp⟩)
theorem B5 (c : Qx) (x : Qh) (a2 : List Int) (a3 : Int) (h3 : a2.length ≤ 1000000) : ∃ v, Jc c x a2 a3 v ∧ v.1.fk.length ≤ 3000 ∧ ∀ l ∈ v.1.fk, l.length ≤ 3000 := by
  refine AY (Post := fun v => v.1.fk.length ≤ 3000 ∧ ∀ l ∈ v.1.fk, l.length ≤ 3000) ?_
  unfold Kv
  simp only [jn]
  obtain ⟨v2, e2, ok⟩ := VK c
  obtain ⟨v4, e4, ok4⟩ := ZO x
  refine ⟨v2, e2, fun _ => by simp, fun h2 => ⟨v4, e4, fun _ => by simp, fun h4 => ⟨_, rfl, fun _ => by simp, fun h5 => ?_⟩⟩⟩
  obtain ⟨hs, ht, hsl, hll, hx⟩ := ok (by simpa using h2)
  have hp : 0 ≤ a3 ∧ a3 ≤ 1073741824 := by
    rw [Vw] at h5; simpa using h5
  obtain ⟨v7, e7⟩ := VL c.fh x.f4
  have hlev : ∀ l ∈ c.fk, l.length ≤ 100 := fun l hl => by have := (hx l hl).1; omega
  refine ⟨v7, e7, fun _ => ⟨(show c.fk.length ≤ 3000 by omega), fun l hl => by have := hlev l hl; omega⟩, fun _ => ⟨by omega, ?_⟩⟩
  obtain ⟨v10, e10, l10, r10⟩ := EZ x.f4
  refine ⟨v10, e10, ?_⟩
  refine Kh (I := fun k s => ∃ j : Nat, s.2.2 = (j : Int) ∧ j ≤ v10.length ∧ s.2.1 = v10 ∧ k = v10.length - j ∧ s.1.length ≤ 200 ∧ ∀ l ∈ s.1, l.length ≤ 100 + j) ?_ (k := v10.length) ⟨0, rfl, by omega, rfl, by omega, by simp only; omega, by simpa using hlev⟩
  rintro k ⟨L, P, i⟩ ⟨j, hj, hj1, hP, hk, hL, hLl⟩ X hX
  simp only at hj hP hL hLl ⊢
  subst hj; subst hP
  refine ⟨fun h => ?_, fun _ => ?_⟩
  · have hj2 : j < P.length := by simp at h; omega
    obtain ⟨q, hq, hqg⟩ := K1 (l := P) (n := (j : Int)) (by omega) (by omega)
    have hqr := r10 q (List.mem_of_getElem? hqg)
    refine Kh (I := fun k s => s.2 = P ∧ s.1.length ≤ 200 ∧ (∀ l ∈ s.1, l.length ≤ 100 + j) ∧ k = 201 - s.1.length) ?_ (k := 201 - L.length) ⟨rfl, hL, hLl, rfl⟩
    rintro k2 ⟨L2, P2⟩ ⟨hP2, hL2, hL2l, hk2⟩ X2 hX2
    simp only at hP2 hL2 hL2l hk2 ⊢
    subst hP2
    refine ⟨q, hq, fun h => ⟨by simp; omega, ?_⟩, fun h => ?_⟩
    · have h' : (L2.length : Int) ≤ q := by simpa using h
      refine hX2 (201 - (L2 ++ [[]]).length) _ (by simp; omega) ⟨rfl, by simp; omega, fun l hl => ?_, rfl⟩
      rcases List.mem_append.1 hl with h | h
      · exact hL2l l h
      · simp at h; rw [h]; simp
    · have h' : q < L2.length := by simpa using h
      obtain ⟨y, hy, hyg⟩ := K1 (l := L2) (n := q) (by omega) h'
      have hyl := hL2l y (List.mem_of_getElem? hyg)
      refine ⟨q, hq, q, hq, y, hy, by omega, by simp; omega, y, hy, ?_⟩
      rw [Zl (by omega)]
      refine hX (P2.length - (j + 1)) _ (by omega) ⟨j + 1, by simp, by omega, rfl, rfl, by simpa using hL2, fun l hl => ?_⟩
      rcases List.mem_or_eq_of_mem_set hl with h | h
      · have := hL2l l h; omega
      · rw [h]; simp; omega
  · obtain ⟨v26, e26, a26, b26⟩ := F1 L c.fg c.f8 a2 a3 (by omega) (fun l hl => by have := hLl l hl; omega) h3 hp
    exact ⟨v26, e26, a26, b26⟩
def zSk : Qk := Qk.mk (Qf.mk (0) (0) (0) (0)) (QA.mk (0) (0) (false)) (Qi.mk (0) (0) (0) ([] : (List Int)) (false)) (Qv.mk (0) (0) ([] : (List Int))) (QE.mk (0) (0) ([] : (List Q3)) (false)) (Qn.mk (0) (0) (0) ([] : (List Q3)) (false)) (Qx.mk (0) (0) (0) ([] : (List (List ByteArray))) (false))
theorem Gc : Hd zSk := by simp [Hd, zSk]
theorem Ej (s : Qk) (x : Qh) (a2 : List Int) (a3 : Int) (h : Hd s) (h2 : a2.length ≤ 1000000) : ∃ v, VI s x a2 a3 v ∧ Hd v.1 := by
  refine Ea (Post := fun v => Hd v.1) ?_
  unfold JM
  simp only [jn]
  obtain ⟨v2, e2, _⟩ := WC s h
  obtain ⟨v4, e4, _⟩ := ZO x
  obtain ⟨z1, z2, z3, z4, z5, z6⟩ := h
  refine ⟨v2, e2, fun _ => Gc, fun _ => ⟨v4, e4, fun _ => Gc, fun _ => ⟨_, rfl, fun _ => Gc, fun _ => ?_⟩⟩⟩
  obtain ⟨u1, t1⟩ := B4 s.fq x
  obtain ⟨u2, t2, q2⟩ := Uh s.fi x
  obtain ⟨u3, t3, q3⟩ := Ac s.f2 x
  obtain ⟨u4, t4, q4⟩ := Cl s.fa0 x
  obtain ⟨u5, t5, q5⟩ := Ui s.fj x
  obtain ⟨u6, t6, q6, q7⟩ := B5 s.fy x a2 a3 h2
  refine ⟨fun _ => ⟨u1, t1, z1, z2, z3, z4, z5, z6⟩, fun _ => ⟨fun _ => ⟨u2, t2, ?_, z2, z3, z4, z5, z6⟩, fun _ => ⟨fun _ => ⟨u3, t3, z1, ?_, z3, z4, z5, z6⟩, fun _ => ⟨fun _ => ⟨u4, t4, z1, z2, ?_, z4, z5, z6⟩, fun _ => ⟨fun _ => ⟨u5, t5, z1, z2, z3, ?_, z5, z6⟩, fun _ => ⟨u6, t6, z1, z2, z3, z4, ?_, ?_⟩⟩⟩⟩⟩⟩
  · simp only; omega
  · simp only; omega
  · simp only; omega
  · simp only; omega
  · simp only; omega
  · intro l hl; have := q7 l hl; omega
theorem B6 (a b d : Int) : ∃ v, J0 a b d v ∧ v.1.f5.length ≤ 1000 := by
  refine AP (Post := fun v => v.1.f5.length ≤ 1000) ?_
  unfold Ks
  simp only [ZA, exists_eq_left, Jg]
  refine ⟨_, fun _ => rfl, fun _ => by simp, fun h => ?_⟩
  have h' : (1 ≤ a ∧ a ≤ 8) ∧ 1 ≤ b ∧ b ≤ 64 := by simpa [wI] using h
  have hm := G7 h'.1 h'.2
  rw [Zl (by omega)]
  exact ⟨⟨by omega, by omega⟩, by simp; omega⟩
theorem Cm (a b : Int) : ∃ v, JK a b v ∧ v.1.fp.length ≤ 1000 := by
  refine Ca (Post := fun v => v.1.fp.length ≤ 1000) ?_
  unfold KV
  simp only [ZA, exists_eq_left]
  refine ⟨fun _ => by simp, fun h => ?_⟩
  have h' : 2 ≤ a ∧ a ≤ 8 := by simpa [wI] using h
  have hm := M5 h'
  exact ⟨(UV _).1, ⟨by omega, by omega⟩, by simp; omega⟩
theorem F2 (a : Int) : ∃ v, Xc a v ∧ v.1.fc.length ≤ 1000 := by
  refine EB (Post := fun v => v.1.fc.length ≤ 1000) ?_
  unfold Vk
  simp only [ZA, exists_eq_left]
  exact ⟨fun _ => by simp, fun _ => by simp⟩
theorem B7 (a : Int) : ∃ v, Ja a v ∧ v.1.fc.length ≤ 1000 := by
  refine AR (Post := fun v => v.1.fc.length ≤ 1000) ?_
  unfold Kt
  simp only [ZA, exists_eq_left]
  exact ⟨fun _ => by simp, fun _ => by simp⟩
theorem De (a : Int) : ∃ v, Ve a v ∧ v.1.fk = [] := by
  refine D3 (Post := fun v => v.1.fk = []) ?_
  unfold Jo
  simp only [ZA, exists_eq_left]
  exact ⟨fun _ => by simp, fun _ => by simp⟩
theorem He (p : Qf) : ∃ v, Yh p v ∧ Hd v.1 := by
  refine GZ (Post := fun v => Hd v.1) ?_
  unfold XC
  simp only [jn]
  obtain ⟨u2, t2, q2⟩ := B6 p.fm p.fg p.fo
  obtain ⟨u3, t3, q3⟩ := Cm p.fg p.fo
  obtain ⟨u4, t4, q4⟩ := F2 p.fg
  obtain ⟨u5, t5, q5⟩ := B7 p.fg
  obtain ⟨u6, t6, q6⟩ := De p.fg
  refine ⟨_, V7 p, fun _ => Gc, fun _ => ⟨fun _ => ⟨u2, t2, ?_⟩, fun _ => ⟨fun _ => ⟨u3, t3, ?_⟩, fun _ => ⟨fun _ => ⟨u4, t4, ?_⟩, fun _ => ⟨fun _ => ⟨u5, t5, ?_⟩, fun _ => ⟨fun _ => ⟨u6, t6, ?_⟩, fun _ => ?_⟩⟩⟩⟩⟩⟩ <;> simp [Hd] <;> try omega
  rw [q6]; simp
theorem Hf (p : Qf) (l : List Qh) (cs : List Int) (hl : l.length ≤ 1000000) (hc : cs.length ≤ 1000000) : ∃ s, Yj p l cs s ∧ Hd s := by
  refine H6 (Post := fun s => Hd s) ?_
  unfold XG
  simp only [jn]
  obtain ⟨v1, e1, z⟩ := He p
  refine ⟨v1, e1, ?_⟩
  refine Kh (I := fun k s => ∃ j : Nat, s.2.1 = (j : Int) ∧ j ≤ l.length ∧ k = l.length - j ∧ Hd (Qk.mk (Qf.mk (s.2.2.1) (s.2.2.2.1) (s.2.2.2.2.1) (s.2.2.2.2.2.1)) (QA.mk (s.2.2.2.2.2.2.1) (s.2.2.2.2.2.2.2.1) (s.2.2.2.2.2.2.2.2.1)) (Qi.mk (s.2.2.2.2.2.2.2.2.2.1) (s.2.2.2.2.2.2.2.2.2.2.1) (s.2.2.2.2.2.2.2.2.2.2.2.1) (s.2.2.2.2.2.2.2.2.2.2.2.2.1) (s.2.2.2.2.2.2.2.2.2.2.2.2.2.1)) (Qv.mk (s.2.2.2.2.2.2.2.2.2.2.2.2.2.2.1) (s.2.2.2.2.2.2.2.2.2.2.2.2.2.2.2.1) (s.2.2.2.2.2.2.2.2.2.2.2.2.2.2.2.2.1)) (QE.mk (s.2.2.2.2.2.2.2.2.2.2.2.2.2.2.2.2.2.1) (s.2.2.2.2.2.2.2.2.2.2.2.2.2.2.2.2.2.2.1) (s.2.2.2.2.2.2.2.2.2.2.2.2.2.2.2.2.2.2.2.1) (s.2.2.2.2.2.2.2.2.2.2.2.2.2.2.2.2.2.2.2.2.1)) (Qn.mk (s.2.2.2.2.2.2.2.2.2.2.2.2.2.2.2.2.2.2.2.2.2.1) (s.2.2.2.2.2.2.2.2.2.2.2.2.2.2.2.2.2.2.2.2.2.2.1) (s.2.2.2.2.2.2.2.2.2.2.2.2.2.2.2.2.2.2.2.2.2.2.2.1) (s.2.2.2.2.2.2.2.2.2.2.2.2.2.2.2.2.2.2.2.2.2.2.2.2.1) (s.2.2.2.2.2.2.2.2.2.2.2.2.2.2.2.2.2.2.2.2.2.2.2.2.2.1)) (Qx.mk (s.2.2.2.2.2.2.2.2.2.2.2.2.2.2.2.2.2.2.2.2.2.2.2.2.2.2.1) (s.2.2.2.2.2.2.2.2.2.2.2.2.2.2.2.2.2.2.2.2.2.2.2.2.2.2.2.1) (s.2.2.2.2.2.2.2.2.2.2.2.2.2.2.2.2.2.2.2.2.2.2.2.2.2.2.2.2.1) (s.2.2.2.2.2.2.2.2.2.2.2.2.2.2.2.2.2.2.2.2.2.2.2.2.2.2.2.2.2.1) (s.2.2.2.2.2.2.2.2.2.2.2.2.2.2.2.2.2.2.2.2.2.2.2.2.2.2.2.2.2.2)))) ?_ (k := l.length) ⟨0, rfl, by omega, by omega, z⟩
  rintro k s ⟨j, hj, hj1, hk, hz⟩ X hX
  rw [hj]
  refine ⟨fun h => ?_, fun _ => hz⟩
  have hj2 : j < l.length := by simp at h; omega
  obtain ⟨x, hx⟩ := Xu hj2
  obtain ⟨v7, e7, z7⟩ := Ej _ x cs s.1 hz hc
  refine ⟨x, hx, v7, e7, ?_⟩
  rw [Zl (by omega)]
  exact hX (l.length - (j + 1)) _ (by omega) ⟨j + 1, by simp, by omega, rfl, z7⟩
theorem F3 (l : List Int) (hl : l.length ≤ 4611686018427387904) : ∃ s, Xg l s ∧ Hd s := by
  refine EL (Post := fun s => Hd s) ?_
  unfold Vq
  simp only [bA7]
  obtain ⟨v1, e1, _⟩ := YB l 0 hl (by omega) (by omega)
  obtain ⟨v2, e2, _⟩ := Ax v1
  obtain ⟨v4, e4, _⟩ := YB l 1 hl (by omega) (by omega)
  obtain ⟨v5, e5, l5, _⟩ := BM (List.drop (Int.toNat (Va (((l).length : Int)) (2))) l) (v4 % 8) (by simp; omega) (by omega) (by omega)
  obtain ⟨v6, e6, _⟩ := YB l 9 hl (by omega) (by omega)
  obtain ⟨v7, e7, l7⟩ := BN v6
  obtain ⟨v8, e8, z8⟩ := Hf v2 v5 v7 (by omega) (by omega)
  exact ⟨v1, e1, v2, e2, ⟨by unfold Va; split <;> omega, by unfold Va; split <;> omega⟩, v4, e4, v5, e5, v6, e6, v7, e7, v8, e8, z8⟩
theorem Zf (a : Int) (h : a < 18446744073709551616) : ∃ r, Z4 a r ∧ r.length ≤ 9 := by
  refine GV (Post := fun r => r.length ≤ 9) ?_
  unfold Xy
  simp only [jn, shr8]
  refine ⟨fun _ => by simp, fun _ => ?_⟩
  refine Kh (I := fun k s => s.2.length ≤ 8 ∧ k = 8 - s.2.length ∧ s.1 < 256 ^ (8 - s.2.length)) ?_ (k := 8) ⟨by simp, by simp, by simpa using h⟩
  rintro k ⟨x, l⟩ ⟨hl, hk, hx⟩ X hX
  simp only at hl hk hx ⊢
  refine ⟨fun hp => ?_, fun _ => ⟨by simp; omega, by simp; omega⟩⟩
  have hp' : 0 < x := by simpa using hp
  have hl7 : l.length < 8 := by
    rcases Nat.lt_or_ge l.length 8 with h | h
    · exact h
    · have : l.length = 8 := by omega
      rw [this] at hx; simp at hx; omega
  refine ⟨by simp; omega, hX (8 - ([IntKind.u8.wrap x] ++ l).length) _ (by simp; omega) ⟨by simp; omega, rfl, ?_⟩⟩
  have e : 8 - l.length = (8 - ([IntKind.u8.wrap x] ++ l).length) + 1 := by simp; omega
  rw [e, Int.pow_succ] at hx
  generalize (256 : Int) ^ (8 - ([IntKind.u8.wrap x] ++ l).length) = M at hx ⊢
  show x / 256 < M
  omega
theorem Df (l : List Int) (hl : l.length ≤ 4611686018427387904) : ∃ r, Vd l r := by
  obtain ⟨v, hv, _⟩ := D1 (Post := fun _ => True) (a0 := l) (by
    unfold Jn
    simp only [jn]
    refine Kh (I := fun k s => ∃ j : Nat, s.2.2 = (j : Int) ∧ j ≤ l.length ∧ k = l.length - j) ?_ (k := l.length) ⟨0, rfl, by omega, by omega⟩
    rintro k ⟨a, b, i⟩ ⟨j, hj, hj1, hk⟩ X hX
    simp only at hj ⊢
    subst hj
    refine ⟨fun h => ?_, fun _ => trivial⟩
    have hj2 : j < l.length := by simp at h; omega
    obtain ⟨x, hx⟩ := Xu hj2
    refine ⟨x, hx, ?_⟩
    rw [Zl (by omega)]
    exact hX (l.length - (j + 1)) _ (by omega) ⟨j + 1, by simp, by omega, rfl⟩)
  exact ⟨v, hv⟩
theorem BR (t : Int) (l : List Int) : ∃ r, V5 t l r ∧ r.1.length ≤ l.length + 14 := by
  refine FU (Post := fun r => r.1.length ≤ l.length + 14) ?_
  unfold VS
  refine ⟨fun _ => by simp, fun h => ?_⟩
  have h' : (l.length : Int) ≤ 1048576 := by simpa using h
  obtain ⟨v2, e2, l2⟩ := Zf (l.length : Int) (by omega)
  obtain ⟨v5, e5⟩ := Df (([t] ++ v2) ++ l) (by simp; omega)
  exact ⟨v2, e2, by simp; omega, by simp; omega, v5, e5, by simp; omega, by simp; omega⟩
theorem Yk (b : Bool) : ∃ r, Jw b r ∧ r.length = 1 := by
  refine GW (Post := fun r => r.length = 1) ?_
  exact ⟨fun _ => rfl, fun _ => rfl⟩
theorem CS (a : Int) : ∃ r, XA a r ∧ r.length ≤ 8 := by
  refine GX (Post := fun r => r.length ≤ 8) ?_
  unfold Xz
  simp only [jn]
  refine Kh (I := fun k s => -1 ≤ s.2 ∧ (s.1.length : Int) = 7 - s.2 ∧ k = (s.2 + 1).toNat) ?_ (k := 8) ⟨by decide, rfl, rfl⟩
  rintro k ⟨l, i⟩ ⟨h0, h1, hk⟩ X hX
  simp only at h0 h1 hk ⊢
  refine ⟨fun h => ?_, fun h => by simp at h; omega⟩
  have hi : 0 ≤ i := by simpa using h
  refine ⟨(UV _).1, by simp; omega, ?_⟩
  rw [Zl (n := i - 1) (by omega)]
  exact hX (i - 1 + 1).toNat _ (by omega) ⟨by simp only; omega, by simp; omega, rfl⟩
theorem UK (s : ByteArray) (h : s.size ≤ 32) : ∃ r, VD s r ∧ r.length ≤ 41 := by
  refine GY (Post := fun r => r.length ≤ 41) ?_
  unfold XB
  obtain ⟨v, e, l⟩ := Zf (s.size : Int) (by omega)
  have hs : (sI s).length = s.size := F8 s
  exact ⟨v, e, by omega, by simp; omega⟩
theorem B8 (t : QA) : ∃ r, KY t r ∧ r.1.length ≤ 60000 := by
  refine AK (Post := fun r => r.1.length ≤ 60000) ?_
  unfold Kq
  obtain ⟨v2, e2, ok⟩ := VJ t
  refine ⟨v2, e2, fun _ => by simp, fun h2 => ?_⟩
  have ok := ok (by simpa using h2)
  obtain ⟨v3, e3, l3⟩ := Zf t.fh (by omega)
  obtain ⟨v4, e4, l4⟩ := Zf t.fv (by omega)
  obtain ⟨v6, e6, l6⟩ := Yk t.fb
  exact ⟨v3, e3, v4, e4, by omega, v6, e6, by simp; omega, by simp; omega⟩
theorem Uj (c : Qi) : ∃ r, Kj c r ∧ r.1.length ≤ 60000 := by
  refine U7 (Post := fun r => r.1.length ≤ 60000) ?_
  unfold ZS
  simp only [jn]
  obtain ⟨v2, e2, ok⟩ := JP c
  refine ⟨v2, e2, fun _ => by simp, fun h2 => ?_⟩
  obtain ⟨hd, hs, hl, hx⟩ := ok (by simpa using h2)
  have hm := G7 hd hs
  obtain ⟨v3, e3, l3⟩ := Zf c.fm (by omega)
  obtain ⟨v4, e4, l4⟩ := Zf c.fg (by omega)
  obtain ⟨v6, e6, l6⟩ := CS c.fo
  refine ⟨v3, e3, v4, e4, by omega, v6, e6, by simp; omega, ?_⟩
  refine Kh (I := fun k s => ∃ j : Nat, s.2 = (j : Int) ∧ j ≤ c.f5.length ∧ k = c.f5.length - j ∧ s.1.length ≤ 26 + 9 * j) ?_ (k := c.f5.length) ⟨0, rfl, by omega, by omega, by simp; omega⟩
  rintro k ⟨a, i⟩ ⟨j, hj, hj1, hk, ha⟩ X hX
  simp only at hj ha ⊢
  subst hj
  refine ⟨fun h => ?_, fun _ => ?_⟩
  · have hj2 : j < c.f5.length := by simp at h; omega
    obtain ⟨x, hx1, hg⟩ := K1 (l := c.f5) (n := (j : Int)) (by omega) (by omega)
    have hxr := hx x (List.mem_of_getElem? hg)
    obtain ⟨v13, e13, l13⟩ := Zf x (by omega)
    refine ⟨x, hx1, v13, e13, by omega, ?_⟩
    rw [Zl (by omega)]
    exact hX (c.f5.length - (j + 1)) _ (by omega) ⟨j + 1, by simp, by omega, rfl, by simp; omega⟩
  · obtain ⟨v15, e15, l15⟩ := Yk c.fb
    exact ⟨v15, e15, by omega, by simp; omega⟩
theorem Ad (c : Qv) : ∃ r, KL c r ∧ r.1.length ≤ 60000 := by
  refine UZ (Post := fun r => r.1.length ≤ 60000) ?_
  unfold Ke
  simp only [jn]
  obtain ⟨v2, e2, ok⟩ := Vu c
  refine ⟨v2, e2, fun _ => by simp, fun h2 => ?_⟩
  obtain ⟨hp, hl, hlen, hx⟩ := ok (by simpa using h2)
  obtain ⟨v3, e3, l3⟩ := Zf c.fx (by omega)
  obtain ⟨v4, e4, l4⟩ := CS c.fo
  refine ⟨v3, e3, v4, e4, by omega, ?_⟩
  refine Kh (I := fun k s => ∃ j : Nat, s.2 = (j : Int) ∧ j ≤ c.fp.length ∧ k = c.fp.length - j ∧ s.1.length ≤ 17 + j) ?_ (k := c.fp.length) ⟨0, rfl, by omega, by omega, by simp; omega⟩
  rintro k ⟨a, i⟩ ⟨j, hj, hj1, hk, ha⟩ X hX
  simp only at hj ha ⊢
  subst hj
  refine ⟨fun h => ?_, fun _ => by omega⟩
  have hj2 : j < c.fp.length := by simp at h; omega
  obtain ⟨x, hx1⟩ := Xu hj2
  refine ⟨x, hx1, by simp; omega, ?_⟩
  rw [Zl (by omega)]
  exact hX (c.fp.length - (j + 1)) _ (by omega) ⟨j + 1, by simp, by omega, rfl, by simp; omega⟩
theorem Cn (c : QE) : ∃ r, JI c r ∧ r.1.length ≤ 60000 := by
  refine C8 (Post := fun r => r.1.length ≤ 60000) ?_
  unfold KU
  simp only [jn]
  obtain ⟨v2, e2, ok⟩ := Xt c
  refine ⟨v2, e2, fun _ => by simp, fun h2 => ?_⟩
  obtain ⟨hs, ht, hl, hx⟩ := ok (by simpa using h2)
  obtain ⟨v3, e3, l3⟩ := Zf c.fg (by omega)
  obtain ⟨v4, e4, l4⟩ := Zf c.fh (by omega)
  obtain ⟨v6, e6, l6⟩ := Yk c.fb
  obtain ⟨v8, e8, l8⟩ := Zf (c.fc.length : Int) (by omega)
  refine ⟨v3, e3, v4, e4, by omega, v6, e6, by simp; omega, v8, e8, by simp; omega, ?_⟩
  refine Kh (I := fun k s => ∃ j : Nat, s.2 = (j : Int) ∧ j ≤ c.fc.length ∧ k = c.fc.length - j ∧ s.1.length ≤ 28 + 59 * j) ?_ (k := c.fc.length) ⟨0, rfl, by omega, by omega, by simp; omega⟩
  rintro k ⟨a, i⟩ ⟨j, hj, hj1, hk, ha⟩ X hX
  simp only at hj ha ⊢
  subst hj
  refine ⟨fun h => ?_, fun _ => by omega⟩
  have hj2 : j < c.fc.length := by simp at h; omega
  obtain ⟨x, hx1, hg⟩ := K1 (l := c.fc) (n := (j : Int)) (by omega) (by omega)
  obtain ⟨k1, k2, k3⟩ := hx x (List.mem_of_getElem? hg)
  obtain ⟨v15, e15, l15⟩ := UK x.f3 (by omega)
  obtain ⟨v18, e18, l18⟩ := Zf x.fw (by omega)
  obtain ⟨v21, e21, l21⟩ := Zf x.fa3 (by omega)
  refine ⟨x, hx1, v15, e15, by omega, x, hx1, v18, e18, by simp; omega, x, hx1, v21, e21, by simp; omega, ?_⟩
  rw [Zl (by omega)]
  exact hX (c.fc.length - (j + 1)) _ (by omega) ⟨j + 1, by simp, by omega, rfl, by simp; omega⟩
theorem Uk (c : Qn) : ∃ r, Kk c r ∧ r.1.length ≤ 60000 := by
  refine U9 (Post := fun r => r.1.length ≤ 60000) ?_
  unfold ZT
  simp only [jn]
  obtain ⟨v2, e2, ok⟩ := JQ c
  refine ⟨v2, e2, fun _ => by simp, fun h2 => ?_⟩
  obtain ⟨hs, ht, hlo, hl, hx⟩ := ok (by simpa using h2)
  obtain ⟨v3, e3, l3⟩ := Zf c.fg (by omega)
  obtain ⟨v4, e4, l4⟩ := Zf c.fh (by omega)
  obtain ⟨v5, e5, l5⟩ := Zf c.fa2 (by omega)
  obtain ⟨v6, e6, l6⟩ := Yk c.fb
  obtain ⟨v8, e8, l8⟩ := Zf (c.fc.length : Int) (by omega)
  refine ⟨v3, e3, v4, e4, by omega, v5, e5, by simp; omega, v6, e6, by simp; omega, v8, e8, by simp; omega, ?_⟩
  refine Kh (I := fun k s => ∃ j : Nat, s.2 = (j : Int) ∧ j ≤ c.fc.length ∧ k = c.fc.length - j ∧ s.1.length ≤ 37 + 50 * j) ?_ (k := c.fc.length) ⟨0, rfl, by omega, by omega, by simp; omega⟩
  rintro k ⟨a, i⟩ ⟨j, hj, hj1, hk, ha⟩ X hX
  simp only at hj ha ⊢
  subst hj
  refine ⟨fun h => ?_, fun _ => by omega⟩
  have hj2 : j < c.fc.length := by simp at h; omega
  obtain ⟨x, hx1, hg⟩ := K1 (l := c.fc) (n := (j : Int)) (by omega) (by omega)
  obtain ⟨k1, k2, k3⟩ := hx x (List.mem_of_getElem? hg)
  obtain ⟨v15, e15, l15⟩ := UK x.f3 (by omega)
  obtain ⟨v18, e18, l18⟩ := Zf x.fw (by omega)
  refine ⟨x, hx1, v15, e15, by omega, x, hx1, v18, e18, by simp; omega, ?_⟩
  rw [Zl (by omega)]
  exact hX (c.fc.length - (j + 1)) _ (by omega) ⟨j + 1, by simp, by omega, rfl, by simp; omega⟩
theorem B9 (c : Qx) : ∃ r, KZ c r ∧ r.1.length ≤ 60000 := by
  refine AN (Post := fun r => r.1.length ≤ 60000) ?_
  unfold Kr
  simp only [jn]
  obtain ⟨v2, e2, ok⟩ := VK c
  refine ⟨v2, e2, fun _ => by simp, fun h2 => ?_⟩
  obtain ⟨hs, ht, hlo, hl, hx⟩ := ok (by simpa using h2)
  obtain ⟨v3, e3, l3⟩ := Zf c.fg (by omega)
  obtain ⟨v4, e4, l4⟩ := Zf c.fh (by omega)
  obtain ⟨v5, e5, l5⟩ := Zf c.f8 (by omega)
  obtain ⟨v6, e6, l6⟩ := Yk c.fb
  obtain ⟨v8, e8, l8⟩ := Zf (c.fk.length : Int) (by omega)
  refine ⟨v3, e3, v4, e4, by omega, v5, e5, by simp; omega, v6, e6, by simp; omega, v8, e8, by simp; omega, ?_⟩
  refine Kh (I := fun k s => ∃ j : Nat, s.2 = (j : Int) ∧ j ≤ c.fk.length ∧ k = c.fk.length - j ∧ s.1.length ≤ 37 + 1280 * j) ?_ (k := c.fk.length) ⟨0, rfl, by omega, by omega, by simp; omega⟩
  rintro k ⟨a, i⟩ ⟨j, hj, hj1, hk, ha⟩ X hX
  simp only at hj ha ⊢
  subst hj
  refine ⟨fun h => ?_, fun _ => by omega⟩
  have hj2 : j < c.fk.length := by simp at h; omega
  obtain ⟨x, hx1, hg⟩ := K1 (l := c.fk) (n := (j : Int)) (by omega) (by omega)
  obtain ⟨k1, k2⟩ := hx x (List.mem_of_getElem? hg)
  obtain ⟨v17, e17, l17⟩ := Zf (x.length : Int) (by omega)
  refine ⟨x, hx1, v17, e17, by omega, ?_⟩
  refine Kh (I := fun k s => ∃ m : Nat, s.2 = (m : Int) ∧ m ≤ x.length ∧ k = x.length - m ∧ s.1.length ≤ 37 + 1280 * j + 9 + 41 * m) ?_ (k := x.length) ⟨0, rfl, by omega, by omega, by simp; omega⟩
  rintro kk ⟨b, ii⟩ ⟨m, hm, hm1, hkk, hb⟩ X2 hX2
  simp only at hm hb ⊢
  subst hm
  refine ⟨x, hx1, fun h3 => ?_, fun _ => ?_⟩
  · have hm2 : m < x.length := by simp at h3; omega
    obtain ⟨y, hy1, hg2⟩ := K1 (l := x) (n := (m : Int)) (by omega) (by omega)
    have hy := k2 y (List.mem_of_getElem? hg2)
    obtain ⟨v25, e25, l25⟩ := UK y (by omega)
    refine ⟨x, hx1, y, hy1, v25, e25, by omega, ?_⟩
    rw [Zl (by omega)]
    exact hX2 (x.length - (m + 1)) _ (by omega) ⟨m + 1, by simp, by omega, rfl, by simp; omega⟩
  · rw [Zl (by omega)]
    exact hX (c.fk.length - (j + 1)) _ (by omega) ⟨j + 1, by simp, by omega, rfl, by simp only; omega⟩
theorem Ek (s : Qk) (h : Hd s) : ∃ r, VE s r ∧ r.1.length ≤ 60100 := by
  refine E5 (Post := fun r => r.1.length ≤ 60100) ?_
  unfold JJ
  simp only [jn]
  obtain ⟨v2, e2, hk⟩ := WC s h
  refine ⟨v2, e2, fun _ => by simp, fun h2 => ?_⟩
  have hk := hk (by simpa using h2)
  obtain ⟨v10, e10, l10⟩ := Zf s.fa.ff (by omega)
  have fin : ∀ p : List Int, p.length ≤ 60000 → ∃ (v10 : (List Int)), Z4 (s.fa.ff) v10 ∧ (((v10).length + (p).length) * 1 ≤ 140737488355328) ∧ ∃ (v12 : (List Int) × Int), V5 (83) ((v10) ++ (p)) v12 ∧ v12.1.length ≤ 60100 := by
    intro p hp
    obtain ⟨v12, e12, l12⟩ := BR 83 (v10 ++ p)
    exact ⟨v10, e10, by omega, v12, e12, by simp at l12; omega⟩
  obtain ⟨u1, t1, q1⟩ := B8 s.fq
  obtain ⟨u2, t2, q2⟩ := Uj s.fi
  obtain ⟨u3, t3, q3⟩ := Ad s.f2
  obtain ⟨u4, t4, q4⟩ := Cn s.fa0
  obtain ⟨u5, t5, q5⟩ := Uk s.fj
  obtain ⟨u6, t6, q6⟩ := B9 s.fy
  exact ⟨fun _ => ⟨u1, t1, fin _ q1⟩, fun _ => ⟨fun _ => ⟨u2, t2, fin _ q2⟩, fun _ => ⟨fun _ => ⟨u3, t3, fin _ q3⟩, fun _ => ⟨fun _ => ⟨u4, t4, fin _ q4⟩, fun _ => ⟨fun _ => ⟨u5, t5, fin _ q5⟩, fun _ => ⟨u6, t6, fin _ q6⟩⟩⟩⟩⟩⟩
theorem F4 (s : Qk) (h : Hd s) : ∃ r, Ya s r ∧ r.length ≤ 65536 := by
  obtain ⟨v1, e1, l1⟩ := Ek s h
  obtain ⟨v2, e2, l2⟩ := BR 88 v1.1
  exact ⟨_, ⟨v1, e1, v2.1, ⟨v2, e2, rfl⟩, rfl⟩, by omega⟩
theorem VM {x : QB} (hk : Ky x.ff) (h : ∀ f, f < 14 → if K6 x.ff f = true then Za x f = 0 else DV (C2 x) f = true) : Xs x = 0 := by
  have z : C0 (DW (C2 x).kind (Za x)) = 0 := by
    refine LU fun i hi => ?_
    rw [GL] at hi
    rw [MB _ _ hi]
    have := h i hi
    show (if K6 x.ff i = true then Za x i else 0) = 0
    split
    · rw [if_pos (by assumption)] at this; exact this
    · rfl
  unfold Xs MA
  rw [if_neg (by simpa [C2] using hk), z, if_neg (by simp), if_pos]
  rw [List.all_eq_true]
  intro f hf
  have := h f (by simpa using hf)
  show (K6 x.ff f || DV (C2 x) f) = true
  cases hm : K6 x.ff f
  · rw [hm] at this; simpa using this
  · rfl
theorem Hg : (ByteArray.empty).toList = [] := YW
theorem vk1 (n : ByteArray) (p : Qf) (hn : Dm n = true) (hp : BI p.ff p.fg p.fm p.fo = 0) : Xs (QB.mk (1) (n) (ByteArray.empty) ([] : (List ByteArray)) p ([] : (List Qh)) ([] : (List Int)) (0) (0) (0) (0) (0) (0) (QD.mk (0) (ByteArray.empty) (0) (0) (0)) ([] : (List Int))) = 0 := by
  refine VM (show Ky 1 from ⟨by decide, by decide⟩) fun f hf => ?_
  rcases Yd hf with rfl | rfl | rfl | rfl | rfl | rfl | rfl | rfl | rfl | rfl | rfl | rfl | rfl | rfl <;> simp [K6, YI, Za, DV, C2, Dc, Hg, hn, hp]
theorem vk2 (n : ByteArray) (hn : Dm n = true) : Xs (QB.mk (2) (n) (ByteArray.empty) ([] : (List ByteArray)) (Qf.mk (0) (0) (0) (0)) ([] : (List Qh)) ([] : (List Int)) (0) (0) (0) (0) (0) (0) (QD.mk (0) (ByteArray.empty) (0) (0) (0)) ([] : (List Int))) = 0 := by
  refine VM (show Ky 2 from ⟨by decide, by decide⟩) fun f hf => ?_
  rcases Yd hf with rfl | rfl | rfl | rfl | rfl | rfl | rfl | rfl | rfl | rfl | rfl | rfl | rfl | rfl <;> simp [K6, YI, Za, DV, C2, Dc, Hg, hn]
theorem vk3 (n m : ByteArray) (hn : Dm n = true) (hm : Dm m = true) : Xs (QB.mk (3) (n) (m) ([] : (List ByteArray)) (Qf.mk (0) (0) (0) (0)) ([] : (List Qh)) ([] : (List Int)) (0) (0) (0) (0) (0) (0) (QD.mk (0) (ByteArray.empty) (0) (0) (0)) ([] : (List Int))) = 0 := by
  refine VM (show Ky 3 from ⟨by decide, by decide⟩) fun f hf => ?_
  rcases Yd hf with rfl | rfl | rfl | rfl | rfl | rfl | rfl | rfl | rfl | rfl | rfl | rfl | rfl | rfl <;> simp [K6, YI, Za, DV, C2, Dc, Hg, hn, hm]
theorem vk4   : Xs (QB.mk (4) (ByteArray.empty) (ByteArray.empty) ([] : (List ByteArray)) (Qf.mk (0) (0) (0) (0)) ([] : (List Qh)) ([] : (List Int)) (0) (0) (0) (0) (0) (0) (QD.mk (0) (ByteArray.empty) (0) (0) (0)) ([] : (List Int))) = 0 := by
  refine VM (show Ky 4 from ⟨by decide, by decide⟩) fun f hf => ?_
  rcases Yd hf with rfl | rfl | rfl | rfl | rfl | rfl | rfl | rfl | rfl | rfl | rfl | rfl | rfl | rfl <;> simp [K6, YI, Za, DV, C2, Dc, Hg]
theorem vk5 (n : ByteArray) (q : QD) (hn : Dm n = true) (hq : BJ q.ff q.f3 q.fw q.fb6 q.fb3 = 0) : Xs (QB.mk (5) (n) (ByteArray.empty) ([] : (List ByteArray)) (Qf.mk (0) (0) (0) (0)) ([] : (List Qh)) ([] : (List Int)) (0) (0) (0) (0) (0) (0) q ([] : (List Int))) = 0 := by
  refine VM (show Ky 5 from ⟨by decide, by decide⟩) fun f hf => ?_
  rcases Yd hf with rfl | rfl | rfl | rfl | rfl | rfl | rfl | rfl | rfl | rfl | rfl | rfl | rfl | rfl <;> simp [K6, YI, Za, DV, C2, Dc, Hg, hn, hq]
theorem vk6 (n : ByteArray) (its : List Qh) (cs : List Int) (hn : Dm n = true) (hi : IV its = 0) (hc : G5 cs.length 64 = 0) : Xs (QB.mk (6) (n) (ByteArray.empty) ([] : (List ByteArray)) (Qf.mk (0) (0) (0) (0)) its cs (0) (0) (0) (0) (0) (0) (QD.mk (0) (ByteArray.empty) (0) (0) (0)) ([] : (List Int))) = 0 := by
  refine VM (show Ky 6 from ⟨by decide, by decide⟩) fun f hf => ?_
  rcases Yd hf with rfl | rfl | rfl | rfl | rfl | rfl | rfl | rfl | rfl | rfl | rfl | rfl | rfl | rfl <;> simp [K6, YI, Za, DV, C2, Dc, Hg, hn, hi, hc]
theorem vk7 (n m : ByteArray) (cs : List Int) (hn : Dm n = true) (hm : Dm m = true) (hc : G5 cs.length 64 = 0) : Xs (QB.mk (7) (n) (m) ([] : (List ByteArray)) (Qf.mk (0) (0) (0) (0)) ([] : (List Qh)) cs (0) (0) (0) (0) (0) (0) (QD.mk (0) (ByteArray.empty) (0) (0) (0)) ([] : (List Int))) = 0 := by
  refine VM (show Ky 7 from ⟨by decide, by decide⟩) fun f hf => ?_
  rcases Yd hf with rfl | rfl | rfl | rfl | rfl | rfl | rfl | rfl | rfl | rfl | rfl | rfl | rfl | rfl <;> simp [K6, YI, Za, DV, C2, Dc, Hg, hn, hm, hc]
theorem vk8 (n m : ByteArray) (cs : List Int) (e s : Int) (hn : Dm n = true) (hm : Dm m = true) (hc : G5 cs.length 64 = 0) (he : YZ e 1 1048576 = 0) (hs : YZ s 1 1048576 = 0) : Xs (QB.mk (8) (n) (m) ([] : (List ByteArray)) (Qf.mk (0) (0) (0) (0)) ([] : (List Qh)) cs e s (0) (0) (0) (0) (QD.mk (0) (ByteArray.empty) (0) (0) (0)) ([] : (List Int))) = 0 := by
  refine VM (show Ky 8 from ⟨by decide, by decide⟩) fun f hf => ?_
  rcases Yd hf with rfl | rfl | rfl | rfl | rfl | rfl | rfl | rfl | rfl | rfl | rfl | rfl | rfl | rfl <;> simp [K6, YI, Za, DV, C2, Dc, Hg, hn, hm, hc, he, hs]
theorem vk9 (ns : List ByteArray) (hn : IU ns = 0) : Xs (QB.mk (9) (ByteArray.empty) (ByteArray.empty) ns (Qf.mk (0) (0) (0) (0)) ([] : (List Qh)) ([] : (List Int)) (0) (0) (0) (0) (0) (0) (QD.mk (0) (ByteArray.empty) (0) (0) (0)) ([] : (List Int))) = 0 := by
  refine VM (show Ky 9 from ⟨by decide, by decide⟩) fun f hf => ?_
  rcases Yd hf with rfl | rfl | rfl | rfl | rfl | rfl | rfl | rfl | rfl | rfl | rfl | rfl | rfl | rfl <;> simp [K6, YI, Za, DV, C2, Dc, Hg, hn]
theorem vk10 (h i : Int) (q : QD) (hh : YZ h 0 3 = 0) (hi : YZ i 0 15 = 0) (hq : BJ q.ff q.f3 q.fw q.fb6 q.fb3 = 0) : Xs (QB.mk (10) (ByteArray.empty) (ByteArray.empty) ([] : (List ByteArray)) (Qf.mk (0) (0) (0) (0)) ([] : (List Qh)) ([] : (List Int)) (0) (0) h i (0) (0) q ([] : (List Int))) = 0 := by
  refine VM (show Ky 10 from ⟨by decide, by decide⟩) fun f hf => ?_
  rcases Yd hf with rfl | rfl | rfl | rfl | rfl | rfl | rfl | rfl | rfl | rfl | rfl | rfl | rfl | rfl <;> simp [K6, YI, Za, DV, C2, Dc, Hg, hh, hi, hq]
theorem vk11 (h : Int) (hh : YZ h 0 3 = 0) : Xs (QB.mk (11) (ByteArray.empty) (ByteArray.empty) ([] : (List ByteArray)) (Qf.mk (0) (0) (0) (0)) ([] : (List Qh)) ([] : (List Int)) (0) (0) h (0) (0) (0) (QD.mk (0) (ByteArray.empty) (0) (0) (0)) ([] : (List Int))) = 0 := by
  refine VM (show Ky 11 from ⟨by decide, by decide⟩) fun f hf => ?_
  rcases Yd hf with rfl | rfl | rfl | rfl | rfl | rfl | rfl | rfl | rfl | rfl | rfl | rfl | rfl | rfl <;> simp [K6, YI, Za, DV, C2, Dc, Hg, hh]
theorem vk12 (h i : Int) (hh : YZ h 0 3 = 0) (hi : YZ i 0 15 = 0) : Xs (QB.mk (12) (ByteArray.empty) (ByteArray.empty) ([] : (List ByteArray)) (Qf.mk (0) (0) (0) (0)) ([] : (List Qh)) ([] : (List Int)) (0) (0) h i (0) (0) (QD.mk (0) (ByteArray.empty) (0) (0) (0)) ([] : (List Int))) = 0 := by
  refine VM (show Ky 12 from ⟨by decide, by decide⟩) fun f hf => ?_
  rcases Yd hf with rfl | rfl | rfl | rfl | rfl | rfl | rfl | rfl | rfl | rfl | rfl | rfl | rfl | rfl <;> simp [K6, YI, Za, DV, C2, Dc, Hg, hh, hi]
theorem vk13 (c n : Int) (hc : YZ c 0 3 = 0) (hn : YZ n 0 32 = 0) : Xs (QB.mk (13) (ByteArray.empty) (ByteArray.empty) ([] : (List ByteArray)) (Qf.mk (0) (0) (0) (0)) ([] : (List Qh)) ([] : (List Int)) (0) (0) (0) (0) c n (QD.mk (0) (ByteArray.empty) (0) (0) (0)) ([] : (List Int))) = 0 := by
  refine VM (show Ky 13 from ⟨by decide, by decide⟩) fun f hf => ?_
  rcases Yd hf with rfl | rfl | rfl | rfl | rfl | rfl | rfl | rfl | rfl | rfl | rfl | rfl | rfl | rfl <;> simp [K6, YI, Za, DV, C2, Dc, Hg, hc, hn]
theorem vk14 (c : Int) (hc : YZ c 0 3 = 0) : Xs (QB.mk (14) (ByteArray.empty) (ByteArray.empty) ([] : (List ByteArray)) (Qf.mk (0) (0) (0) (0)) ([] : (List Qh)) ([] : (List Int)) (0) (0) (0) (0) c (0) (QD.mk (0) (ByteArray.empty) (0) (0) (0)) ([] : (List Int))) = 0 := by
  refine VM (show Ky 14 from ⟨by decide, by decide⟩) fun f hf => ?_
  rcases Yd hf with rfl | rfl | rfl | rfl | rfl | rfl | rfl | rfl | rfl | rfl | rfl | rfl | rfl | rfl <;> simp [K6, YI, Za, DV, C2, Dc, Hg, hc]
theorem vk15 (h i : Int) (hh : YZ h 0 3 = 0) (hi : YZ i 0 15 = 0) : Xs (QB.mk (15) (ByteArray.empty) (ByteArray.empty) ([] : (List ByteArray)) (Qf.mk (0) (0) (0) (0)) ([] : (List Qh)) ([] : (List Int)) (0) (0) h i (0) (0) (QD.mk (0) (ByteArray.empty) (0) (0) (0)) ([] : (List Int))) = 0 := by
  refine VM (show Ky 15 from ⟨by decide, by decide⟩) fun f hf => ?_
  rcases Yd hf with rfl | rfl | rfl | rfl | rfl | rfl | rfl | rfl | rfl | rfl | rfl | rfl | rfl | rfl <;> simp [K6, YI, Za, DV, C2, Dc, Hg, hh, hi]
theorem vk16 (n : ByteArray) (d : List Int) (hn : Dm n = true) (hd : G5 d.length 65536 = 0) : Xs (QB.mk (16) (n) (ByteArray.empty) ([] : (List ByteArray)) (Qf.mk (0) (0) (0) (0)) ([] : (List Qh)) ([] : (List Int)) (0) (0) (0) (0) (0) (0) (QD.mk (0) (ByteArray.empty) (0) (0) (0)) d) = 0 := by
  refine VM (show Ky 16 from ⟨by decide, by decide⟩) fun f hf => ?_
  rcases Yd hf with rfl | rfl | rfl | rfl | rfl | rfl | rfl | rfl | rfl | rfl | rfl | rfl | rfl | rfl <;> simp [K6, YI, Za, DV, C2, Dc, Hg, hn, hd]
theorem vk17   : Xs (QB.mk (17) (ByteArray.empty) (ByteArray.empty) ([] : (List ByteArray)) (Qf.mk (0) (0) (0) (0)) ([] : (List Qh)) ([] : (List Int)) (0) (0) (0) (0) (0) (0) (QD.mk (0) (ByteArray.empty) (0) (0) (0)) ([] : (List Int))) = 0 := by
  refine VM (show Ky 17 from ⟨by decide, by decide⟩) fun f hf => ?_
  rcases Yd hf with rfl | rfl | rfl | rfl | rfl | rfl | rfl | rfl | rfl | rfl | rfl | rfl | rfl | rfl <;> simp [K6, YI, Za, DV, C2, Dc, Hg]
theorem sho0 {n : Nat} {m : Int} (h : (n : Int) ≤ m) : G5 n m = 0 := by unfold G5; rw [if_neg (by omega)]
theorem Dg {n a b : Int} (h : a ≤ n ∧ n ≤ b) : YZ n a b = 0 := by unfold YZ; rw [if_pos h]
theorem il0 {l : List Qh} (h : 1 ≤ l.length ∧ l.length ≤ 64) (h2 : ∀ x ∈ l, HX x = 0) : IV l = 0 := by
  unfold IV; rw [if_neg (by simpa using h)]
  exact Ed fun j x hx => h2 x (List.mem_of_getElem? hx)
theorem nl0 {l : List ByteArray} (h : 1 ≤ l.length ∧ l.length ≤ 16) (h2 : ∀ x ∈ l, Dm x = true) : IU l = 0 := by
  unfold IU; rw [if_neg (by simpa using h)]
  exact Ed fun j x hx => by unfold Dc; rw [if_pos (h2 x (List.mem_of_getElem? hx))]
def F5 (m : Nat) (x : QB) : Prop := x.f7.length ≤ m ∧ x.fv.length ≤ m ∧ x.fa8.length ≤ m ∧ x.fa6.length ≤ m ∧ 0 ≤ x.fa.fo ∧ x.fa.fo ≤ 18446744073709551615
theorem L0 (l : List Int) (i : Int) (hl : l.length ≤ 4611686018427387904) (h0 : 0 ≤ i) (h1 : i ≤ 900) (Q : QB → Prop) (hQ : ∀ x, Xs x = 0 → F5 65536 x → Q x) : Y4 l i Q := by
  unfold Y4
  obtain ⟨v1, e1, a1, b1⟩ := YB l i hl h0 (by omega)
  obtain ⟨v2, e2, a2, b2⟩ := YB l (IntKind.i64.wrap (i + 7)) hl (by rw [Zl (by omega)]; omega) (by rw [Zl (by omega)]; omega)
  refine ⟨v1, e1, v2, e2, ?_⟩
  simp only [jn, bA1, bA3, bA7]
  rw [Vh a1]
  have hk0 : 0 ≤ v1 % 20 ∧ v1 % 20 ≤ 19 := by omega
  obtain ⟨s5, es5, hs5⟩ := W3 (QN .i64 v1 5)
  obtain ⟨s6, es6, hs6⟩ := W3 (QN .i64 v1 6)
  obtain ⟨s7, es7, hs7⟩ := W3 (QN .i64 v1 7)
  obtain ⟨s8, es8, hs8⟩ := W3 (QN .i64 v1 8)
  obtain ⟨p, ep, gp⟩ := Ax v2
  have hp := IZ gp
  obtain ⟨q, eq, hq⟩ := G6 v2
  obtain ⟨c, ec, hc⟩ := BN v2
  have hc0 : G5 c.length 64 = 0 := sho0 (by omega)
  have i5 : i.tmod 5 = i % 5 := Vh h0
  have i7 : i.tmod 7 = i % 7 := Vh h0
  have m5 : 0 ≤ Va (l.length : Int) (i % 5) ∧ Va (l.length : Int) (i % 5) ≤ l.length := by unfold Va; split <;> omega
  have m7 : 0 ≤ Va (l.length : Int) (i % 7) ∧ Va (l.length : Int) (i % 7) ≤ l.length := by unfold Va; split <;> omega
  rw [i5, i7]
  generalize v1 % 20 = k at hk0 ⊢
  generalize QN .i64 v1 5 = t5 at *
  generalize QN .i64 v1 6 = t6 at *
  generalize QN .i64 v1 7 = t7 at *
  generalize QN .i64 v1 8 = t8 at *
  generalize QN .i64 v1 10 = t10
  generalize QN .i64 v1 11 = t11
  generalize QN .i64 v2 3 = u3
  have hks : k = 0 ∨ k = 1 ∨ k = 2 ∨ k = 3 ∨ k = 4 ∨ k = 5 ∨ k = 6 ∨ k = 7 ∨ k = 8 ∨ k = 9 ∨ k = 10 ∨ k = 11 ∨ k = 12 ∨ k = 13 ∨ k = 14 ∨ k = 15 ∨ k = 16 ∨ k = 17 ∨ k = 18 ∨ k = 19 := by omega
  have z0 : F5 65536 (QB.mk 17 .empty .empty [] ⟨0, 0, 0, 0⟩ [] [] 0 0 0 0 0 0 ⟨0, .empty, 0, 0, 0⟩ []) := by simp [F5]
  have c1 : Q (QB.mk 1 s5 .empty [] p [] [] 0 0 0 0 0 0 ⟨0, .empty, 0, 0, 0⟩ []) := hQ _ (vk1 _ _ hs5 hp) (by have hps : 0 ≤ p.fo ∧ p.fo ≤ 3 := (by unfold EX at gp; omega); simp [F5]; omega)
  have c6 : ∃ v15, V1 (List.drop (Int.toNat (Va (l.length : Int) (i % 5))) l) (IntKind.i64.wrap (1 + t7 % 8)) v15 ∧ Q (QB.mk 6 s5 .empty [] ⟨0, 0, 0, 0⟩ v15 c 0 0 0 0 0 0 ⟨0, .empty, 0, 0, 0⟩ []) := by
    rw [Zl (by omega)]
    obtain ⟨v15, e15, l15, o15⟩ := BM (List.drop (Int.toNat (Va (l.length : Int) (i % 5))) l) (1 + t7 % 8) (by simp; omega) (by omega) (by omega)
    exact ⟨v15, e15, hQ _ (vk6 _ _ _ hs5 (il0 (by omega) o15) hc0) (by simp [F5]; omega)⟩
  obtain ⟨v15, e15, c6⟩ := c6
  have c9 : (0 ≤ IntKind.i64.wrap (IntKind.i64.wrap (1 + t10 % 2) + t11 % 2) ∧ IntKind.i64.wrap (IntKind.i64.wrap (1 + t10 % 2) + t11 % 2) ≤ 3) ∧ Q (QB.mk 9 .empty .empty (List.take (Int.toNat (IntKind.i64.wrap (IntKind.i64.wrap (1 + t10 % 2) + t11 % 2))) [s5, s7, s8]) ⟨0, 0, 0, 0⟩ [] [] 0 0 0 0 0 0 ⟨0, .empty, 0, 0, 0⟩ []) := by
    have w : IntKind.i64.wrap (IntKind.i64.wrap (1 + t10 % 2) + t11 % 2) = 1 + t10 % 2 + t11 % 2 := by rw [Zl (n := 1 + t10 % 2) (by omega), Zl (by omega)]
    rw [w]
    refine ⟨by omega, hQ _ (vk9 _ (nl0 (by simp; omega) fun x hx => ?_)) (by simp [F5]; omega)⟩
    have := List.mem_of_mem_take hx
    simp at this
    rcases this with rfl | rfl | rfl <;> assumption
  obtain ⟨sk, esk, zsk⟩ := F3 (List.drop (Int.toNat (Va (l.length : Int) (i % 7))) l) (by simp; omega)
  obtain ⟨ex, eex, lex⟩ := F4 sk zsk
  rcases hks with rfl | rfl | rfl | rfl | rfl | rfl | rfl | rfl | rfl | rfl | rfl | rfl | rfl | rfl | rfl | rfl | rfl | rfl | rfl | rfl
  · exact ⟨fun _ => ⟨fun _ => ⟨s5, es5, p, ep, c1⟩, fun h => by simp at h⟩, fun h => by simp at h⟩
  · exact ⟨fun h => by simp at h, fun _ => ⟨fun _ => ⟨s5, es5, p, ep, c1⟩, fun h => by simp at h⟩⟩
  · exact ⟨fun h => by simp at h, fun _ => ⟨fun h => by simp at h, fun _ => ⟨fun _ => ⟨s5, es5, hQ _ (vk2 _ hs5) (by simp [F5])⟩, fun h => by simp at h⟩⟩⟩
  · exact ⟨fun h => by simp at h, fun _ => ⟨fun h => by simp at h, fun _ => ⟨fun h => by simp at h, fun _ => ⟨fun _ => ⟨s5, es5, s7, es7, hQ _ (vk3 _ _ hs5 hs7) (by simp [F5])⟩, fun h => by simp at h⟩⟩⟩⟩
  · exact ⟨fun h => by simp at h, fun _ => ⟨fun h => by simp at h, fun _ => ⟨fun h => by simp at h, fun _ => ⟨fun h => by simp at h, fun _ => ⟨fun _ => hQ _ vk4 (by simp [F5]), fun h => by simp at h⟩⟩⟩⟩⟩
  · exact ⟨fun h => by simp at h, fun _ => ⟨fun h => by simp at h, fun _ => ⟨fun h => by simp at h, fun _ => ⟨fun h => by simp at h, fun _ => ⟨fun h => by simp at h, fun _ => ⟨fun _ => ⟨s5, es5, q, eq, hQ _ (vk5 _ _ hs5 hq) (by simp [F5])⟩, fun h => by simp at h⟩⟩⟩⟩⟩⟩
  · exact ⟨fun h => by simp at h, fun _ => ⟨fun h => by simp at h, fun _ => ⟨fun h => by simp at h, fun _ => ⟨fun h => by simp at h, fun _ => ⟨fun h => by simp at h, fun _ => ⟨fun h => by simp at h, fun _ => ⟨fun _ => ⟨fun _ => ⟨s5, es5, m5, v15, e15, c, ec, c6⟩, fun h => by simp at h⟩, fun h => by simp at h⟩⟩⟩⟩⟩⟩⟩
  · exact ⟨fun h => by simp at h, fun _ => ⟨fun h => by simp at h, fun _ => ⟨fun h => by simp at h, fun _ => ⟨fun h => by simp at h, fun _ => ⟨fun h => by simp at h, fun _ => ⟨fun h => by simp at h, fun _ => ⟨fun h => by simp at h, fun _ => ⟨fun _ => ⟨fun _ => ⟨s5, es5, m5, v15, e15, c, ec, c6⟩, fun h => by simp at h⟩, fun h => by simp at h⟩⟩⟩⟩⟩⟩⟩⟩
  · exact ⟨fun h => by simp at h, fun _ => ⟨fun h => by simp at h, fun _ => ⟨fun h => by simp at h, fun _ => ⟨fun h => by simp at h, fun _ => ⟨fun h => by simp at h, fun _ => ⟨fun h => by simp at h, fun _ => ⟨fun h => by simp at h, fun _ => ⟨fun h => by simp at h, fun _ => ⟨fun _ => ⟨s5, es5, m5, v15, e15, c, ec, c6⟩, fun h => by simp at h⟩⟩⟩⟩⟩⟩⟩⟩⟩
  · exact ⟨fun h => by simp at h, fun _ => ⟨fun h => by simp at h, fun _ => ⟨fun h => by simp at h, fun _ => ⟨fun h => by simp at h, fun _ => ⟨fun h => by simp at h, fun _ => ⟨fun h => by simp at h, fun _ => ⟨fun h => by simp at h, fun _ => ⟨fun h => by simp at h, fun _ => ⟨fun h => by simp at h, fun _ => ⟨fun _ => ⟨s5, es5, s7, es7, c, ec, hQ _ (vk7 _ _ _ hs5 hs7 hc0) (by simp [F5]; omega)⟩, fun h => by simp at h⟩⟩⟩⟩⟩⟩⟩⟩⟩⟩
  · exact ⟨fun h => by simp at h, fun _ => ⟨fun h => by simp at h, fun _ => ⟨fun h => by simp at h, fun _ => ⟨fun h => by simp at h, fun _ => ⟨fun h => by simp at h, fun _ => ⟨fun h => by simp at h, fun _ => ⟨fun h => by simp at h, fun _ => ⟨fun h => by simp at h, fun _ => ⟨fun h => by simp at h, fun _ => ⟨fun h => by simp at h, fun _ => ⟨fun _ => ⟨s5, es5, s7, es7, c, ec, hQ _ (vk8 _ _ _ _ _ hs5 hs7 hc0 (Dg (by rw [Zl (by omega)]; omega)) (Dg (by rw [Zl (by omega)]; omega))) (by simp [F5]; omega)⟩, fun h => by simp at h⟩⟩⟩⟩⟩⟩⟩⟩⟩⟩⟩
  · exact ⟨fun h => by simp at h, fun _ => ⟨fun h => by simp at h, fun _ => ⟨fun h => by simp at h, fun _ => ⟨fun h => by simp at h, fun _ => ⟨fun h => by simp at h, fun _ => ⟨fun h => by simp at h, fun _ => ⟨fun h => by simp at h, fun _ => ⟨fun h => by simp at h, fun _ => ⟨fun h => by simp at h, fun _ => ⟨fun h => by simp at h, fun _ => ⟨fun h => by simp at h, fun _ => ⟨fun _ => ⟨fun _ => ⟨s5, es5, s7, es7, s8, es8, c9.1, c9.2⟩, fun h => by simp at h⟩, fun h => by simp at h⟩⟩⟩⟩⟩⟩⟩⟩⟩⟩⟩⟩
  · exact ⟨fun h => by simp at h, fun _ => ⟨fun h => by simp at h, fun _ => ⟨fun h => by simp at h, fun _ => ⟨fun h => by simp at h, fun _ => ⟨fun h => by simp at h, fun _ => ⟨fun h => by simp at h, fun _ => ⟨fun h => by simp at h, fun _ => ⟨fun h => by simp at h, fun _ => ⟨fun h => by simp at h, fun _ => ⟨fun h => by simp at h, fun _ => ⟨fun h => by simp at h, fun _ => ⟨fun h => by simp at h, fun _ => ⟨fun _ => ⟨s5, es5, s7, es7, s8, es8, c9.1, c9.2⟩, fun h => by simp at h⟩⟩⟩⟩⟩⟩⟩⟩⟩⟩⟩⟩⟩
  · exact ⟨fun h => by simp at h, fun _ => ⟨fun h => by simp at h, fun _ => ⟨fun h => by simp at h, fun _ => ⟨fun h => by simp at h, fun _ => ⟨fun h => by simp at h, fun _ => ⟨fun h => by simp at h, fun _ => ⟨fun h => by simp at h, fun _ => ⟨fun h => by simp at h, fun _ => ⟨fun h => by simp at h, fun _ => ⟨fun h => by simp at h, fun _ => ⟨fun h => by simp at h, fun _ => ⟨fun h => by simp at h, fun _ => ⟨fun h => by simp at h, fun _ => ⟨fun _ => ⟨q, eq, hQ _ (vk10 _ _ _ (Dg (by omega)) (Dg (by omega)) hq) (by simp [F5])⟩, fun h => by simp at h⟩⟩⟩⟩⟩⟩⟩⟩⟩⟩⟩⟩⟩⟩
  · exact ⟨fun h => by simp at h, fun _ => ⟨fun h => by simp at h, fun _ => ⟨fun h => by simp at h, fun _ => ⟨fun h => by simp at h, fun _ => ⟨fun h => by simp at h, fun _ => ⟨fun h => by simp at h, fun _ => ⟨fun h => by simp at h, fun _ => ⟨fun h => by simp at h, fun _ => ⟨fun h => by simp at h, fun _ => ⟨fun h => by simp at h, fun _ => ⟨fun h => by simp at h, fun _ => ⟨fun h => by simp at h, fun _ => ⟨fun h => by simp at h, fun _ => ⟨fun h => by simp at h, fun _ => ⟨fun _ => hQ _ (vk11 _ (Dg (by omega))) (by simp [F5]), fun h => by simp at h⟩⟩⟩⟩⟩⟩⟩⟩⟩⟩⟩⟩⟩⟩⟩
  · exact ⟨fun h => by simp at h, fun _ => ⟨fun h => by simp at h, fun _ => ⟨fun h => by simp at h, fun _ => ⟨fun h => by simp at h, fun _ => ⟨fun h => by simp at h, fun _ => ⟨fun h => by simp at h, fun _ => ⟨fun h => by simp at h, fun _ => ⟨fun h => by simp at h, fun _ => ⟨fun h => by simp at h, fun _ => ⟨fun h => by simp at h, fun _ => ⟨fun h => by simp at h, fun _ => ⟨fun h => by simp at h, fun _ => ⟨fun h => by simp at h, fun _ => ⟨fun h => by simp at h, fun _ => ⟨fun h => by simp at h, fun _ => ⟨fun _ => hQ _ (vk12 _ _ (Dg (by omega)) (Dg (by omega))) (by simp [F5]), fun h => by simp at h⟩⟩⟩⟩⟩⟩⟩⟩⟩⟩⟩⟩⟩⟩⟩⟩
  · exact ⟨fun h => by simp at h, fun _ => ⟨fun h => by simp at h, fun _ => ⟨fun h => by simp at h, fun _ => ⟨fun h => by simp at h, fun _ => ⟨fun h => by simp at h, fun _ => ⟨fun h => by simp at h, fun _ => ⟨fun h => by simp at h, fun _ => ⟨fun h => by simp at h, fun _ => ⟨fun h => by simp at h, fun _ => ⟨fun h => by simp at h, fun _ => ⟨fun h => by simp at h, fun _ => ⟨fun h => by simp at h, fun _ => ⟨fun h => by simp at h, fun _ => ⟨fun h => by simp at h, fun _ => ⟨fun h => by simp at h, fun _ => ⟨fun h => by simp at h, fun _ => ⟨fun _ => hQ _ (vk13 _ _ (Dg (by omega)) (Dg (by omega))) (by simp [F5]), fun h => by simp at h⟩⟩⟩⟩⟩⟩⟩⟩⟩⟩⟩⟩⟩⟩⟩⟩⟩
  · exact ⟨fun h => by simp at h, fun _ => ⟨fun h => by simp at h, fun _ => ⟨fun h => by simp at h, fun _ => ⟨fun h => by simp at h, fun _ => ⟨fun h => by simp at h, fun _ => ⟨fun h => by simp at h, fun _ => ⟨fun h => by simp at h, fun _ => ⟨fun h => by simp at h, fun _ => ⟨fun h => by simp at h, fun _ => ⟨fun h => by simp at h, fun _ => ⟨fun h => by simp at h, fun _ => ⟨fun h => by simp at h, fun _ => ⟨fun h => by simp at h, fun _ => ⟨fun h => by simp at h, fun _ => ⟨fun h => by simp at h, fun _ => ⟨fun h => by simp at h, fun _ => ⟨fun h => by simp at h, fun _ => ⟨fun _ => hQ _ (vk14 _ (Dg (by omega))) (by simp [F5]), fun h => by simp at h⟩⟩⟩⟩⟩⟩⟩⟩⟩⟩⟩⟩⟩⟩⟩⟩⟩⟩
  · exact ⟨fun h => by simp at h, fun _ => ⟨fun h => by simp at h, fun _ => ⟨fun h => by simp at h, fun _ => ⟨fun h => by simp at h, fun _ => ⟨fun h => by simp at h, fun _ => ⟨fun h => by simp at h, fun _ => ⟨fun h => by simp at h, fun _ => ⟨fun h => by simp at h, fun _ => ⟨fun h => by simp at h, fun _ => ⟨fun h => by simp at h, fun _ => ⟨fun h => by simp at h, fun _ => ⟨fun h => by simp at h, fun _ => ⟨fun h => by simp at h, fun _ => ⟨fun h => by simp at h, fun _ => ⟨fun h => by simp at h, fun _ => ⟨fun h => by simp at h, fun _ => ⟨fun h => by simp at h, fun _ => ⟨fun h => by simp at h, fun _ => ⟨fun _ => ⟨fun _ => hQ _ (vk15 _ _ (Dg (by omega)) (Dg (by omega))) (by simp [F5]), fun _ => ⟨s6, es6, m7, sk, esk, ex, eex, hQ _ (vk16 _ _ hs6 (sho0 (by omega))) (by simp [F5]; omega)⟩⟩, fun h => by simp at h⟩⟩⟩⟩⟩⟩⟩⟩⟩⟩⟩⟩⟩⟩⟩⟩⟩⟩⟩
  · exact ⟨fun h => by simp at h, fun _ => ⟨fun h => by simp at h, fun _ => ⟨fun h => by simp at h, fun _ => ⟨fun h => by simp at h, fun _ => ⟨fun h => by simp at h, fun _ => ⟨fun h => by simp at h, fun _ => ⟨fun h => by simp at h, fun _ => ⟨fun h => by simp at h, fun _ => ⟨fun h => by simp at h, fun _ => ⟨fun h => by simp at h, fun _ => ⟨fun h => by simp at h, fun _ => ⟨fun h => by simp at h, fun _ => ⟨fun h => by simp at h, fun _ => ⟨fun h => by simp at h, fun _ => ⟨fun h => by simp at h, fun _ => ⟨fun h => by simp at h, fun _ => ⟨fun h => by simp at h, fun _ => ⟨fun h => by simp at h, fun _ => ⟨fun h => by simp at h, fun _ => hQ _ vk17 z0⟩⟩⟩⟩⟩⟩⟩⟩⟩⟩⟩⟩⟩⟩⟩⟩⟩⟩⟩
theorem La (l : List Int) (i : Int) (hl : l.length ≤ 4611686018427387904) (h0 : 0 ≤ i) (h1 : i ≤ 900) : ∃ x, WB l i x ∧ Xs x = 0 ∧ F5 65536 x :=
  IS (Post := fun x => Xs x = 0 ∧ F5 65536 x) (L0 l i hl h0 h1 _ fun x h1 h2 => ⟨h1, h2⟩)
theorem El (c : QS) (o : QB) (u t : Int) (ht : Vb t) : Vb (Wq c o u t) := by
  have i1 : Vb 1 := by unfold Vb; decide
  have i2 : Vb 2 := by unfold Vb; decide
  unfold Wq
  split
  · exact Bz YX
  split
  · exact Bz YX
  split
  · exact Xb i2 (KE _ _) YX
  split
  · exact Xb i1 (KE _ _) YX
  split
  · exact Xb i1 (KE _ _) YX
  split
  · exact Xb i2 (KE _ _) YX
  split
  · unfold Va
    split
    · exact YX
    · exact KE _ _
  split
  · exact i1
  · unfold Vb; decide
def Yz : List Qo → Nat
  | [] => 0
  | s :: l => (if s.fb7 = true then 1 else 0) + Yz l
def Ba (c : QS) (u p : Int) : Int → List Qo → Int
  | n, [] => n
  | n, s :: l => Ba c u p (if s.fb7 = true then YK n (Wq c s.fOp u p) 1099511627776 else n) l
theorem BS : ∀ l : List Qo, Yz l ≤ l.length
  | [] => Nat.le_refl _
  | s :: l => by have := BS l; simp only [Yz, List.length_cons]; split <;> omega
theorem UL : ∀ (a b : List Qo), Yz (a ++ b) = Yz a + Yz b
  | [], b => by simp [Yz]
  | s :: a, b => by simp only [List.cons_append, Yz, UL a b]; omega
theorem UM (c : QS) (u p : Int) : ∀ (n : Int) (a b : List Qo), Ba c u p n (a ++ b) = Ba c u p (Ba c u p n a) b
  | n, [], b => rfl
  | n, s :: a, b => UM c u p _ a b
theorem Em (c : QS) (u p : Int) (hp : Vb p) : ∀ (n : Int) (a : List Qo), Vb n → Vb (Ba c u p n a)
  | n, [], h => h
  | n, s :: a, h => Em c u p hp _ a (by split; exact Xb h (El _ _ _ _ hp) YX; exact h)
theorem XH {α : Type} {l : List α} {j : Nat} {x : α} (h : l[j]? = some x) : l.take (j + 1) = l.take j ++ [x] := by rw [List.take_add_one]; simp [h]
theorem Wt (c : QS) (l : List Qo) (u : Int) (hl : l.length ≤ 1000000) : Jz c l u (Ba c u (Yz l) 0 l) := by
  unfold Jz Wi
  simp only [jn]
  refine Kh (I := fun k s => ∃ j : Nat, s.2 = (j : Int) ∧ j ≤ l.length ∧ k = l.length - j ∧ s.1 = (Yz (l.take j) : Int)) ?_ (k := l.length) ⟨0, rfl, by omega, rfl, rfl⟩
  rintro k ⟨p, i⟩ ⟨j, hj, hj1, hk, hp⟩ X hX
  simp only at hj hp ⊢
  subst hj; subst hp
  refine ⟨fun h => ?_, fun h => ?_⟩
  · have hj2 : j < l.length := by simp at h; omega
    obtain ⟨s, hs, hg⟩ := K1 (l := l) (n := (j : Int)) (by omega) (by omega)
    have hg' : l[j]? = some s := by simpa using hg
    have hb := BS (l.take j)
    rw [List.length_take] at hb
    refine ⟨s, hs, fun h2 => ?_, fun h2 => ?_⟩
    · rw [Zl (by omega), Zl (by omega)]
      refine hX (l.length - (j + 1)) _ (by omega) ⟨j + 1, by simp, by omega, rfl, ?_⟩
      simp only; rw [XH hg', UL]; simp [Yz, h2]
    · rw [Zl (by omega)]
      refine hX (l.length - (j + 1)) _ (by omega) ⟨j + 1, by simp, by omega, rfl, ?_⟩
      simp only; rw [XH hg', UL]; simp [Yz, h2]
  have hj2 : j = l.length := by simp at h; omega
  subst hj2
  rw [List.take_length]
  have hbl := BS l
  have hpr : Vb (Yz l : Int) := by unfold Vb; omega
  refine Kh (I := fun k s => ∃ j : Nat, s.2 = (j : Int) ∧ j ≤ l.length ∧ k = l.length - j ∧ s.1 = Ba c u (Yz l) 0 (l.take j)) ?_ (k := l.length) ⟨0, rfl, by omega, rfl, rfl⟩
  rintro k ⟨n, i⟩ ⟨j, hj, hj1, hk, hn⟩ X hX
  simp only at hj hn ⊢
  subst hj; subst hn
  refine ⟨fun h => ?_, fun h => ?_⟩
  · have hj2 : j < l.length := by simp at h; omega
    obtain ⟨s, hs, hg⟩ := K1 (l := l) (n := (j : Int)) (by omega) (by omega)
    have hg' : l[j]? = some s := by simpa using hg
    have hn0 : Vb (Ba c u (Yz l) 0 (l.take j)) := Em c u _ hpr 0 _ (by unfold Vb; decide)
    refine ⟨s, hs, fun h2 => ⟨_, Wr c s.fOp u _ hpr, _, JW _ _ hn0 (El _ _ _ _ hpr), ?_⟩, fun h2 => ?_⟩
    · rw [Zl (by omega)]
      refine hX (l.length - (j + 1)) _ (by omega) ⟨j + 1, by simp, by omega, rfl, ?_⟩
      simp only; rw [XH hg', UM]; simp [Ba, h2]
    · rw [Zl (by omega)]
      refine hX (l.length - (j + 1)) _ (by omega) ⟨j + 1, by simp, by omega, rfl, ?_⟩
      simp only; rw [XH hg', UM]; simp [Ba, h2]
  · have hj2 : j = l.length := by simp at h; omega
    subst hj2
    rw [List.take_length]
theorem Dh (l : List Qo) (hl : l.length ≤ 1000000) : ∃ r, Vg l r ∧ r.length = Yz l := by
  refine D9 (Post := fun r => r.length = Yz l) ?_
  unfold Js
  simp only [jn]
  refine Kh (I := fun k s => ∃ j : Nat, s.2 = (j : Int) ∧ j ≤ l.length ∧ k = l.length - j ∧ s.1.length = Yz (l.take j)) ?_ (k := l.length) ⟨0, rfl, by omega, rfl, rfl⟩
  rintro k ⟨p, i⟩ ⟨j, hj, hj1, hk, hp⟩ X hX
  simp only at hj hp ⊢
  subst hj
  refine ⟨fun h => ?_, fun h => ?_⟩
  · have hj2 : j < l.length := by simp at h; omega
    obtain ⟨s, hs, hg⟩ := K1 (l := l) (n := (j : Int)) (by omega) (by omega)
    have hg' : l[j]? = some s := by simpa using hg
    have hb := BS (l.take j)
    rw [List.length_take] at hb
    refine ⟨s, hs, fun h2 => ⟨by simp only [List.length_cons, List.length_nil]; omega, ?_⟩, fun h2 => ?_⟩
    · rw [Zl (by omega)]
      refine hX (l.length - (j + 1)) _ (by omega) ⟨j + 1, by simp, by omega, rfl, ?_⟩
      simp only; rw [XH hg', UL]; simp [Yz, h2, hp]
    · rw [Zl (by omega)]
      refine hX (l.length - (j + 1)) _ (by omega) ⟨j + 1, by simp, by omega, rfl, ?_⟩
      simp only; rw [XH hg', UL]; simp [Yz, h2, hp]
  · have hj2 : j = l.length := by simp at h; omega
    subst hj2
    rw [List.take_length] at hp
    exact hp
def Le (l : List Qo) : Prop := ∀ s ∈ l, s.fOp.f7.length ≤ 1000000 ∧ s.fOp.fv.length ≤ 1000000 ∧ s.fOp.fa6.length ≤ 1000000
theorem Ay (c : QS) (l : List Qo) (u : Int) (hu : Vb u) (hl : l.length ≤ 1000000) (hs : Le l) : Vr c l u (Ba c u (Yz l) 0 l) := by
  unfold Vr Wn
  simp only [jn]
  obtain ⟨p, e1, e2⟩ := Dh l hl
  have hbl := BS l
  have hpr : Vb (Yz l : Int) := by unfold Vb; omega
  refine ⟨p, e1, ?_⟩
  rw [e2]
  refine Kh (I := fun k s => ∃ j : Nat, s.2 = (j : Int) ∧ j ≤ l.length ∧ k = l.length - j ∧ s.1 = Ba c u (Yz l) 0 (l.take j)) ?_ (k := l.length) ⟨0, rfl, by omega, rfl, rfl⟩
  rintro k ⟨n, i⟩ ⟨j, hj, hj1, hk, hn⟩ X hX
  simp only at hj hn ⊢
  subst hj; subst hn
  refine ⟨fun h => ?_, fun h => ?_⟩
  · have hj2 : j < l.length := by simp at h; omega
    obtain ⟨s, hs', hg⟩ := K1 (l := l) (n := (j : Int)) (by omega) (by omega)
    have hg' : l[j]? = some s := by simpa using hg
    have hn0 : Vb (Ba c u (Yz l) 0 (l.take j)) := Em c u _ hpr 0 _ (by unfold Vb; decide)
    obtain ⟨z1, z2, z3⟩ := hs s (List.mem_of_getElem? hg')
    refine ⟨s, hs', fun h2 => ⟨s, hs', _, EV c s.fOp u _ hu hpr z1 z2 z3, _, Xr _ _ _ hn0 (El _ _ _ _ hpr) YX, ?_⟩, fun h2 => ?_⟩
    · rw [Zl (by omega)]
      refine hX (l.length - (j + 1)) _ (by omega) ⟨j + 1, by simp, by omega, rfl, ?_⟩
      simp only; rw [XH hg', UM]; simp [Ba, h2]
    · rw [Zl (by omega)]
      refine hX (l.length - (j + 1)) _ (by omega) ⟨j + 1, by simp, by omega, rfl, ?_⟩
      simp only; rw [XH hg', UM]; simp [Ba, h2]
  · have hj2 : j = l.length := by simp at h; omega
    subst hj2
    rw [List.take_length]
theorem F6 (a : Int) : ∃ c, KP a c := by
  obtain ⟨c, h, _⟩ := EN (Post := fun _ => True) (a0 := a) (by
    unfold Jx
    simp only [bA3]
    obtain ⟨x1, e1, _⟩ := K1 (l := ([(60), (12), (6), (30)] : List Int)) (n := QN .i64 a 2 % 2 ^ 2) (by omega) (by simp; omega)
    obtain ⟨x2, e2, _⟩ := K1 (l := ([(8), (16), (40), (200)] : List Int)) (n := QN .i64 a 4 % 2 ^ 2) (by omega) (by simp; omega)
    obtain ⟨x3, e3, _⟩ := K1 (l := ([(8), (3), (2), (5)] : List Int)) (n := QN .i64 a 6 % 2 ^ 2) (by omega) (by simp; omega)
    obtain ⟨x4, e4, _⟩ := K1 (l := ([(100), (6), (30), (12)] : List Int)) (n := QN .i64 a 8 % 2 ^ 2) (by omega) (by simp; omega)
    exact ⟨x1, e1, x2, e2, x3, e3, x4, e4, trivial⟩)
  exact ⟨c, h⟩
theorem Eo : KP 0 ⟨2, 2, 60, 8, 8, 100, 1⟩ := by
  unfold KP Jx
  exact ⟨60, ⟨by decide, by decide⟩, 8, ⟨by decide, by decide⟩, 8, ⟨by decide, by decide⟩, 100, ⟨by decide, by decide⟩, rfl⟩
theorem F7 : Xk true := by
  unfold Xk Wo
  refine ⟨_, Eo, 1, ?_, fun _ => ⟨3, ?_, 0, fun _ => ?_, rfl⟩, fun h => by simp at h⟩
  · have := Wr ⟨2, 2, 60, 8, 8, 100, 1⟩ (QB.mk (4) (ByteArray.empty) (ByteArray.empty) ([] : (List ByteArray)) (Qf.mk (0) (0) (0) (0)) ([] : (List Qh)) ([] : (List Int)) (0) (0) (0) (0) (0) (0) (QD.mk (0) (ByteArray.empty) (0) (0) (0)) ([] : (List Int))) 9 9 (by unfold Vb; decide)
    exact this
  · have := Wr ⟨2, 2, 60, 8, 8, 100, 1⟩ (QB.mk (6) ((⟨#[97]⟩ : ByteArray)) (ByteArray.empty) ([] : (List ByteArray)) (Qf.mk (0) (0) (0) (0)) ([(Qh.mk ((⟨#[97]⟩ : ByteArray)) (1))]) ([] : (List Int)) (0) (0) (0) (0) (0) (0) (QD.mk (0) (ByteArray.empty) (0) (0) (0)) ([] : (List Int))) 0 0 (by unfold Vb; decide)
    exact this
  · exact Wt ⟨2, 2, 60, 8, 8, 100, 1⟩ [] 5 (by decide)
theorem Dn {l : List Qo} {i : Nat} {x : Qo} (h : Le l) (hx : x.fOp.f7.length ≤ 1000000 ∧ x.fOp.fv.length ≤ 1000000 ∧ x.fOp.fa6.length ≤ 1000000) : Le (l.set i x) := by
  intro s hs
  rcases List.mem_or_eq_of_mem_set hs with h1 | h1
  · exact h s h1
  · rw [h1]; exact hx
theorem MK {l : List Qo} {x : Qo} (h : Le l) (hx : x.fOp.f7.length ≤ 1000000 ∧ x.fOp.fv.length ≤ 1000000 ∧ x.fOp.fa6.length ≤ 1000000) : Le (l ++ [x]) := by
  intro s hs
  rcases List.mem_append.1 hs with h1 | h1
  · exact h s h1
  · simp at h1; rw [h1]; exact hx
theorem Ae (n : Int) (hn : 1 ≤ n ∧ n ≤ 8) : ∃ r, KN n r ∧ r.1.length ≤ 8 ∧ Le r.1 := by
  refine A6 (Post := fun r => r.1.length ≤ 8 ∧ Le r.1) ?_
  unfold Kg
  simp only [jn, Jg]
  refine ⟨fun c => by simp at c; omega, fun _ => ?_⟩
  refine Kh (I := fun k s => ∃ j : Nat, s.2 = (j : Int) ∧ (j : Int) ≤ n ∧ k = (n - j).toNat ∧ s.1.length = j ∧ Le s.1) ?_ (k := n.toNat) ⟨0, rfl, by omega, by simp, rfl, fun s hs => by simp at hs⟩
  rintro k ⟨l, i⟩ ⟨j, hj, hj1, hk, hl, hs⟩ X hX
  simp only at hj hl hs ⊢
  subst hj
  refine ⟨fun c => ?_, fun c => ?_⟩
  · have hj2 : (j : Int) < n := by simpa using c
    refine ⟨by omega, by omega, by simp only [List.length_cons, List.length_nil]; omega, ?_⟩
    rw [Zl (by omega)]
    refine hX (n - ((j + 1 : Nat) : Int)).toNat _ (by omega) ⟨j + 1, by simp, by omega, rfl, by simp [hl], MK hs (by simp)⟩
  · exact ⟨by omega, hs⟩
theorem UN (l : List Qo) (k : Int) (o : QB) (rc : Int) (hl : l.length ≤ 8) (hs : Le l) (ho : o.f7.length ≤ 1000000 ∧ o.fv.length ≤ 1000000 ∧ o.fa6.length ≤ 1000000) :
    ∃ r, KC l k o rc r ∧ (r.2 = 0 → r.1.length ≤ 8 ∧ Le r.1) := by
  refine UD (Post := fun r => r.2 = 0 → r.1.length ≤ 8 ∧ Le r.1) ?_
  unfold K4
  simp only [Jg]
  refine ⟨fun _ c => by simp at c, fun h => ?_⟩
  have hr : 0 ≤ k ∧ k < l.length := by simp at h; omega
  obtain ⟨s, e1, hg⟩ := K1 (l := l) (n := k) hr.1 hr.2
  have hso := hs s (List.mem_of_getElem? hg)
  refine ⟨Xs o, Cj o, fun h2 c => ?_, fun h2 => ⟨s, e1, fun _ c => by simp at c, fun _ => ⟨by omega, s, e1, fun _ => ⟨?_, ?_⟩⟩⟩⟩
  · have h3 : Xs o ≠ 0 := by simpa using h2
    exact absurd c h3
  · simp only [List.length_set]; exact hl
  · exact Dn (Dn (Dn (Dn hs hso) ho) ho) ho
theorem Af (l : List Int) (n u ses : Int) (hl : l.length ≤ 4611686018427387904) (hu : Vb u) : JD l n u ses true := by
  unfold JD Xa
  simp only [jn, Vw]
  have b1 : Vb (Z0 .i64 u 63) := by rw [bA63]; unfold Vb; omega
  have hn : 1 ≤ IntKind.i64.wrap (1 + Z0 .i64 ses 7) ∧ IntKind.i64.wrap (1 + Z0 .i64 ses 7) ≤ 8 := by
    rw [bA7, Zl (by omega)]; omega
  obtain ⟨t, e1, t1, t2⟩ := Ae _ hn
  refine ⟨t, e1, ?_⟩
  refine Kh (I := fun k s => ∃ j : Nat, s.2 = (j : Int) ∧ j ≤ 8 ∧ k = 8 - j ∧ s.1.length ≤ 8 ∧ Le s.1) ?_ (k := 8) ⟨0, rfl, by omega, rfl, t1, t2⟩
  rintro k ⟨t, i⟩ ⟨j, hj, hj1, hk, ht, hs⟩ X hX
  simp only at hj ht hs ⊢
  subst hj
  refine ⟨fun c => ?_, fun c => ?_⟩
  · have hj2 : j < l.length ∧ j < 8 := by simp at c; omega
    obtain ⟨a, ea, _⟩ := K1 (l := l) (n := (j : Int)) (by omega) (by omega)
    obtain ⟨o, eo, z1, s1⟩ := La l j hl (by omega) (by omega)
    have y1 := s1.1; have y2 := s1.2.1; have y3 := s1.2.2.2.1
    obtain ⟨r, er, hr⟩ := UN t (Z0 .i64 a 7) o j ht hs ⟨by omega, by omega, by omega⟩
    refine ⟨a, ea, o, eo, r, er, fun h2 => ?_, fun h2 => ?_⟩
    · obtain ⟨r1, r2⟩ := hr (by simpa using h2)
      rw [Zl (by omega)]
      exact hX (8 - (j + 1)) _ (by omega) ⟨j + 1, by simp, by omega, rfl, r1, r2⟩
    · rw [Zl (by omega)]
      exact hX (8 - (j + 1)) _ (by omega) ⟨j + 1, by simp, by omega, rfl, ht, hs⟩
  · obtain ⟨x, ex⟩ := F6 (Z0 .i64 n 65535)
    exact ⟨x, ex, _, Wt x t u (by omega), _, Ay x t u hu (by omega) hs, _, fun _ => Wt x t _ (by omega), _, fun _ => Ay x t _ b1 (by omega) hs, true, fun _ => F7, by simp⟩
theorem Nx {a : Int} (h : (Lit.int .i64 a).wf = true) : Vb a := by
  unfold Vb
  simp [Lit.wf, IntKind.min, IntKind.max, IntKind.signed, IntKind.bits] at h; omega
theorem BoundDrains_walk (v0 : Value) (l0 : List Int) (a1 a2 a3 : Int) (w : World) (h0 : Ints .i64 w v0 l0) (s0 : l0.length * Tryz.prog.bytesOf 3 ≤ 140737488351232) (h1 : (Lit.int .i64 a1).wf = true) (h2 : (Lit.int .i64 a2).wf = true) (h3 : (Lit.int .i64 a3).wf = true) :
    Calls Tryz.prog 4 #[v0, .int .i64 a1, .int .i64 a2, .int .i64 a3] w fun e w' => e = .returned (.bool true) ∧ Below w.heap.size w w' := by
  have hl : l0.length ≤ 4611686018427387904 := by
    have e : Tryz.prog.bytesOf 3 = 8 := by kernel_rfl
    rw [e] at s0; omega
  refine (Bv (A := fun x => x < w.heap.size) (vs := #[v0, .int .i64 a1, .int .i64 a2, .int .i64 a3]) (g := 0) (q := 0) (A8 l0 a1 a2 a3 true (Af l0 a1 a2 a3 hl (Nx h2))) rfl (fun x h => h) ⟨Hu h0 (fun _ _ _ g _ _ hg => hg), .v _ h1, .v _ h2, .v _ h3, trivial⟩).mono ?_
  rintro e w' ⟨rfl, hg⟩
  exact ⟨rfl, Do hg⟩
end Go.Proofs.YthpbblhpapnbfaaGreat
