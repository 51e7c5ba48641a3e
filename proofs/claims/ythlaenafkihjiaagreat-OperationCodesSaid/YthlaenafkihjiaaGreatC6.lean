/- Parts of the proof, laid together. No condition. -/
import Derived.Test.YthlaenafkihjiaaGreatC5
import Derived.Laws.Bits64
import Derived.Below
set_option linter.unusedVariables false
set_option linter.unusedSimpArgs false
namespace Go.Proofs.YthlaenafkihjiaaGreat
open Go.RowKit
theorem Jj {a b : Bool} : (bif a then b else false) = (a && b) := by cases a <;> rfl
theorem JQ {a b : Bool} : (bif a then true else b) = (a || b) := by cases a <;> rfl
theorem Uf {n lo hi : Int} {r : Bool} : ZE n lo hi r ↔ r = wI n lo hi := by
  unfold ZE U9 wI; by_cases h : lo ≤ n <;> simp [h]
theorem Bp {n lo hi : Int} {r : Bool} : ZJ n lo hi r ↔ r = wI n lo hi := by
  unfold ZJ U3 wI; by_cases h : lo ≤ n <;> simp [h]
theorem ZV {n lo hi : Int} {r : Bool} : Z1 n lo hi r ↔ r = wI n lo hi := by
  unfold Z1 Uy wI; by_cases h : lo ≤ n <;> simp [h]
theorem F9 {n lo hi : Int} {r : Bool} : Ko n lo hi r ↔ r = wI n lo hi := by
  unfold Ko WH wI; by_cases h : lo ≤ n <;> simp [h]
theorem Gk {n lo hi : Int} {r : Bool} : JL n lo hi r ↔ r = wI n lo hi := by
  unfold JL Ua wI; by_cases h : lo ≤ n <;> simp [h]
theorem H2 {c : Int} {r : Bool} : Xm c r ↔ r = wI c 97 122 := by
  unfold Xm Uz wI; by_cases h : (97 : Int) ≤ c <;> simp [h]
theorem H3 {c : Int} {r : Bool} : Ye c r ↔ r = wI c 48 57 := by
  unfold Ye UA wI; by_cases h : (48 : Int) ≤ c <;> simp [h]
theorem Y6 {n lo hi : Int} {r : Int} : Zo n lo hi r ↔ r = if lo ≤ n ∧ n ≤ hi then 0 else 5 := by
  unfold Zo Y5
  by_cases h : n < lo
  · simp [h]; rw [if_neg (by omega)]
  · by_cases h2 : n > hi
    · simp [h, h2]; rw [if_neg (by omega)]
    · simp [h, h2]; rw [if_pos (by omega)]
theorem Na {s : ByteArray} : (decide (1 ≤ (s.size : Int)) && decide ((s.size : Int) ≤ 32)) = decide (1 ≤ s.size ∧ s.size ≤ 32) := by
  rw [Bool.decide_and]; congr 1 <;> exact decide_eq_decide.2 (by omega)
theorem Cc {s : ByteArray} {r : Bool} : Xn s r ↔ r = decide (1 ≤ s.size ∧ s.size ≤ 32) := by
  unfold Xn UB; rw [Jj, ← Na]
theorem VW {s : ByteArray} {r : Bool} : KA s r ↔ r = decide (1 ≤ s.size ∧ s.size ≤ 32) := by
  unfold KA Ac; rw [Jj, ← Na]
def WA (k s d z : Int) : Int :=
  if k = 1 then (if s ≠ 0 ∨ d ≠ 0 ∨ z ≠ 0 then 10 else 0)
  else if k = 2 then (if ¬ (1 ≤ d ∧ d ≤ 8 ∧ 1 ≤ s ∧ s ≤ 64) then 5 else 0)
  else if k = 3 then (if ¬ (2 ≤ s ∧ s ≤ 8) then 5 else if d ≠ 0 then 10 else 0)
  else if k = 4 ∨ k = 5 then (if ¬ (1 ≤ s ∧ s ≤ 32) then 5 else if d ≠ 0 ∨ z ≠ 0 then 10 else 0)
  else if k = 6 then (if ¬ (2 ≤ s ∧ s ≤ 32 ∧ s % 2 = 0) then 5 else if d ≠ 0 ∨ z ≠ 0 then 10 else 0)
  else 8
theorem UU (p : Qr) : Kt p (WA p.fc p.fi p.fo p.fq) := by
  unfold Kt Vw
  simp only [jn, F9, exists_eq_left, Jj, JQ]
  obtain ⟨k, s, d, z⟩ := p
  simp only
  by_cases h1 : k = 1
  · subst h1; by_cases hs : s = 0 <;> by_cases hd : d = 0 <;> by_cases hz : z = 0 <;> simp [WA, hs, hd, hz]
  by_cases h2 : k = 2
  · subst h2
    by_cases hd : wI d 1 8 = true <;> by_cases hs : wI s 1 64 = true <;> simp [WA, hs, hd] <;> simp [wI] at hs hd <;> omega
  by_cases h3 : k = 3
  · subst h3
    by_cases hd : d = 0 <;> by_cases hs : wI s 2 8 = true <;> simp [WA, hs, hd] <;> simp [wI] at hs hd <;> omega
  by_cases h4 : k = 4 ∨ k = 5
  · have hk : (k == 4 || k == 5) = true := by simpa using h4
    by_cases hd : d = 0 <;> by_cases hz : z = 0 <;> by_cases hs : wI s 1 32 = true <;> rcases h4 with rfl | rfl <;> simp [WA, hs, hd, hz] <;> simp [wI] at hs hd <;> omega
  by_cases h6 : k = 6
  · subst h6
    by_cases hs : wI s 2 32 = true
    · have hs' : 2 ≤ s ∧ s ≤ 32 := by simpa [wI] using hs
      have ht : s.tmod 2 = s % 2 := Int.tmod_eq_emod_of_nonneg (by omega)
      by_cases hm : s % 2 = 0 <;> by_cases hd : d = 0 <;> by_cases hz : z = 0 <;> simp [WA, hs, hd, hz, ht, hm, hs']
    · have hs' : ¬ (2 ≤ s ∧ s ≤ 32) := by simpa [wI] using hs
      simp [WA, hs]; omega
  · have h4' : ¬ k = 4 ∧ ¬ k = 5 := by omega
    simp [WA, h1, h2, h3, h4'.1, h4'.2, h6]
theorem VX (p : Qr) : ZD p (WA p.fc p.fi p.fo p.fq) := by
  unfold ZD VQ
  simp only [jn, Bp, exists_eq_left, Jj, JQ]
  obtain ⟨k, s, d, z⟩ := p
  simp only
  by_cases h1 : k = 1
  · subst h1; by_cases hs : s = 0 <;> by_cases hd : d = 0 <;> by_cases hz : z = 0 <;> simp [WA, hs, hd, hz]
  by_cases h2 : k = 2
  · subst h2
    by_cases hd : wI d 1 8 = true <;> by_cases hs : wI s 1 64 = true <;> simp [WA, hs, hd] <;> simp [wI] at hs hd <;> omega
  by_cases h3 : k = 3
  · subst h3
    by_cases hd : d = 0 <;> by_cases hs : wI s 2 8 = true <;> simp [WA, hs, hd] <;> simp [wI] at hs hd <;> omega
  by_cases h4 : k = 4 ∨ k = 5
  · have hk : (k == 4 || k == 5) = true := by simpa using h4
    by_cases hd : d = 0 <;> by_cases hz : z = 0 <;> by_cases hs : wI s 1 32 = true <;> rcases h4 with rfl | rfl <;> simp [WA, hs, hd, hz] <;> simp [wI] at hs hd <;> omega
  by_cases h6 : k = 6
  · subst h6
    by_cases hs : wI s 2 32 = true
    · have hs' : 2 ≤ s ∧ s ≤ 32 := by simpa [wI] using hs
      have ht : s.tmod 2 = s % 2 := Int.tmod_eq_emod_of_nonneg (by omega)
      by_cases hm : s % 2 = 0 <;> by_cases hd : d = 0 <;> by_cases hz : z = 0 <;> simp [WA, hs, hd, hz, ht, hm, hs']
    · have hs' : ¬ (2 ≤ s ∧ s ≤ 32) := by simpa [wI] using hs
      simp [WA, hs]; omega
  · have h4' : ¬ k = 4 ∧ ¬ k = 5 := by omega
    simp [WA, h1, h2, h3, h4'.1, h4'.2, h6]
def UG (k : Int) (key : ByteArray) (c n d : Int) : Int :=
  if ¬ (1 ≤ k ∧ k ≤ 7) then 8
  else if (k = 2 ∨ k = 6) ∧ ¬ (1 ≤ key.size ∧ key.size ≤ 32) then 7
  else if k = 5 ∧ ¬ (0 ≤ c ∧ c ≤ 32) then 5
  else if k = 7 ∧ ¬ (1 ≤ d ∧ d ≤ 1000000 ∧ 0 ≤ n ∧ n ≤ d) then 5
  else if (¬ (k = 2 ∨ k = 6) ∧ key.toList ≠ []) ∨ (k ≠ 5 ∧ c ≠ 0) ∨ (k ≠ 7 ∧ (n ≠ 0 ∨ d ≠ 0)) then 18 else 0
theorem Yq : (⟨#[]⟩ : ByteArray).toList = [] := by unfold ByteArray.toList; unfold ByteArray.toList.loop; simp [ByteArray.size]
theorem Eo (q : QC) : Vx q (UG q.fc q.f3 q.fk q.fa8 q.fa7) := by
  unfold Vx Wh
  simp only [jn, Cc, Jj, JQ, Yq]
  obtain ⟨k, s, c, n, d⟩ := q
  simp only
  by_cases hk : 1 ≤ k ∧ k ≤ 7
  · have h7 : k = 1 ∨ k = 2 ∨ k = 3 ∨ k = 4 ∨ k = 5 ∨ k = 6 ∨ k = 7 := by omega
    clear hk; unfold UG
    generalize s.toList = l
    rcases h7 with rfl | rfl | rfl | rfl | rfl | rfl | rfl
    all_goals simp
    all_goals grind
  · have h1 : k < 1 ∨ k > 7 := by omega
    simp [UG, hk, h1]
theorem AP (q : QC) : Km q (UG q.fc q.f3 q.fk q.fa8 q.fa7) := by
  unfold Km Xq
  simp only [jn, VW, Bp, exists_eq_left, Jj, JQ, Yq]
  obtain ⟨k, s, c, n, d⟩ := q
  simp only
  by_cases hk : 1 ≤ k ∧ k ≤ 7
  · have h7 : k = 1 ∨ k = 2 ∨ k = 3 ∨ k = 4 ∨ k = 5 ∨ k = 6 ∨ k = 7 := by omega
    clear hk; unfold UG
    generalize s.toList = l
    rcases h7 with rfl | rfl | rfl | rfl | rfl | rfl | rfl
    all_goals simp [wI]
    all_goals grind
  · have h1 : k < 1 ∨ k > 7 := by omega
    have h2 : wI k 1 7 = false := by simp [wI]; omega
    simp [UG, hk, h1, h2]
theorem Ii (n : Nat) (hn : n ≤ 4611686018427387904) {B : (Int → Prop) → Int → Prop} {J : Prop} (I : Nat → Prop) (h0 : I 0)
    (hB : ∀ j, j < n → I j → ∀ X : Int → Prop, (I (j + 1) → X (IntKind.i64.wrap ((j : Int) + 1))) → B X (j : Int)) (hJ : I n → J) :
    lp (fun X s => (decide (s < (n : Int)) = true → B X s) ∧ (decide (s < (n : Int)) = false → J)) 0 := by
  refine ZW (I := fun k s => ∃ j : Nat, s = (j : Int) ∧ j ≤ n ∧ k = n - j ∧ I j) ?_ (k := n) ⟨0, rfl, by omega, by omega, h0⟩
  rintro k s ⟨j, rfl, hj, hk, hI⟩ X hX
  refine ⟨fun h => ?_, fun h => ?_⟩
  · have hj2 : (j : Int) < n := by simpa using h
    refine hB j (by omega) hI X fun hI2 => ?_
    rw [Zq (by omega)]
    exact hX (n - (j + 1)) _ (by omega) ⟨j + 1, by omega, by omega, rfl, hI2⟩
  · have hj2 : ¬ (j : Int) < n := by simpa using h
    have : j = n := by omega
    subst this; exact hJ hI
def Br (s : ByteArray) (j : Nat) : Int := if h : j < s.size then (s[j].toNat : Int) else 0
theorem Bs {s : ByteArray} {j : Nat} (h : j < s.size) : bx s (j : Int) (Br s j) := bx_of rfl h (by simp [Br, h])
def P7 (c : Int) : Bool := wI c 97 122 || wI c 48 57 || c == 45 || c == 46
def Cd (s : ByteArray) : Bool := decide (1 ≤ s.size ∧ s.size ≤ 16) && wI (Br s 0) 97 122 && (List.range s.size).all fun j => P7 (Br s j)
theorem Nb {s : ByteArray} (h1 : 1 ≤ s.size ∧ s.size ≤ 16) (h2 : wI (Br s 0) 97 122 = true) (h : ∀ i, i < s.size → P7 (Br s i) = true) : Cd s = true := by
  simp only [Cd, h1, h2]; simpa using h
theorem Nc {s : ByteArray} {i : Nat} (hi : i < s.size) (h : P7 (Br s i) = false) : Cd s = false := by
  have : ((List.range s.size).all fun j => P7 (Br s j)) = false := by
    rw [List.all_eq_false]; exact ⟨i, by simpa using hi, by simp [h]⟩
  simp [Cd, this]
theorem Gl (s : ByteArray) : XI s (Cd s) := by
  unfold XI U6
  simp only [H2, H3, Jj, JQ, jn, exists_eq_left]
  by_cases hz : 1 ≤ s.size ∧ s.size ≤ 16
  · have h1 : decide ((s.size : Int) < 1) = false := by simp; omega
    have h2 : decide ((s.size : Int) > 16) = false := by simp; omega
    rw [h1, h2]
    refine ⟨Br s 0, fun _ => Bs (j := 0) (by omega), wI (Br s 0) 97 122, fun _ => rfl, ?_, ?_⟩
    · intro h; simp at h; simp [Cd, h]
    · intro h
      have h3 : wI (Br s 0) 97 122 = true := by simpa using h
      refine Ii s.size (by omega) (fun j => ∀ i, i < j → P7 (Br s i) = true) (fun i hi => absurd hi (by omega)) ?_ ?_
      · intro j hj hI X hX
        refine ⟨Br s j, Bs hj, wI (Br s j) 48 57, fun _ => rfl, ?_, ?_⟩
        · intro hb; refine Nc hj ?_; simp at hb; simp [P7, hb]
        · intro hb; refine hX fun i hi => ?_
          by_cases e : i = j
          · subst e; unfold P7; revert hb; cases wI (Br s i) 97 122 <;> cases wI (Br s i) 48 57 <;> simp <;> grind
          · exact hI i (by omega)
      · intro hI; exact Nb hz h3 hI
  · refine ⟨0, ?_, false, ?_, ?_, ?_⟩
    · intro h; simp at h; omega
    · intro h; simp at h; omega
    · intro h; simp [Cd, hz]
    · intro h; simp at h
theorem UH (s : ByteArray) : Vb s (Cd s) := by
  unfold Vb UC
  simp only [Gk, Jj, JQ, jn, exists_eq_left]
  by_cases hz : 1 ≤ s.size ∧ s.size ≤ 16
  · have h1 : decide ((s.size : Int) < 1) = false := by simp; omega
    have h2 : decide ((s.size : Int) > 16) = false := by simp; omega
    rw [h1, h2]
    refine ⟨Br s 0, fun _ => Bs (j := 0) (by omega), wI (Br s 0) 97 122, fun _ => rfl, ?_, ?_⟩
    · intro h; simp at h; simp [Cd, h]
    · intro h
      have h3 : wI (Br s 0) 97 122 = true := by simpa using h
      refine Ii s.size (by omega) (fun j => ∀ i, i < j → P7 (Br s i) = true) (fun i hi => absurd hi (by omega)) ?_ ?_
      · intro j hj hI X hX
        refine ⟨Br s j, Bs hj, Br s j, fun _ => Bs hj, wI (Br s j) 48 57, fun _ => rfl, Br s j, fun _ => Bs hj, Br s j, fun _ => Bs hj, ?_, ?_⟩
        · intro hb; refine Nc hj ?_; simp at hb; simp [P7, hb]
        · intro hb; refine hX fun i hi => ?_
          by_cases e : i = j
          · subst e; unfold P7; revert hb; cases wI (Br s i) 97 122 <;> cases wI (Br s i) 48 57 <;> simp <;> grind
          · exact hI i (by omega)
      · intro hI; exact Nb hz h3 hI
  · refine ⟨0, ?_, false, ?_, ?_, ?_⟩
    · intro h; simp at h; omega
    · intro h; simp at h; omega
    · intro h; simp [Cd, hz]
    · intro h; simp at h
theorem Wj (s : ByteArray) : JD s (if Cd s = true then 0 else 6) := by
  refine ⟨Cd s, Gl s, ?_, ?_⟩ <;> intro h <;> simp at h <;> simp [h]
def Fv (x : Qf) : Int := if ¬ (1 ≤ x.f3.size ∧ x.f3.size ≤ 32) then 7 else if ¬ (1 ≤ x.f5 ∧ x.f5 ≤ 4294967295) then 5 else 0
theorem Bu (x : Qf) : Jg x (Fv x) := by
  unfold Jg XJ Fv
  simp only [Cc, Jj, JQ, exists_eq_left]
  by_cases h : 1 ≤ x.f3.size ∧ x.f3.size ≤ 32 <;> simp [h]; grind
theorem WM (x : Qf) : Zl x (Fv x) := by
  unfold Zl Y4 Fv
  simp only [VW, Jj, JQ, exists_eq_left]
  by_cases h : 1 ≤ x.f3.size ∧ x.f3.size ≤ 32 <;> simp [h]; grind
def AQ {α : Type} (f : α → Int) : List α → Int
  | [] => 0
  | x :: r => if f x ≠ 0 then f x else AQ f r
theorem Gm {α : Type} {f : α → Int} {l : List α} (h : ∀ (j : Nat) x, l[j]? = some x → f x = 0) : AQ f l = 0 := by
  induction l with
  | nil => rfl
  | cons x r ih => simp [AQ, h 0 x rfl]; exact ih fun j x hx => h (j + 1) x (by simpa using hx)
theorem Fw {α : Type} {f : α → Int} {l : List α} {j : Nat} {x : α} (hx : l[j]? = some x) (hn : f x ≠ 0) (h : ∀ i, i < j → ∀ y, l[i]? = some y → f y = 0) : AQ f l = f x := by
  induction l generalizing j with
  | nil => simp at hx
  | cons z r ih =>
    cases j with
    | zero => simp at hx; subst hx; simp [AQ, hn]
    | succ j =>
      simp [AQ, h 0 (by omega) z rfl]
      exact ih (by simpa using hx) fun i hi y hy => h (i + 1) (by omega) y (by simpa using hy)
theorem DC {α : Type} {l : List α} (hl : l.length ≤ 4611686018427387904) {B : (Int → Prop) → Int → Prop} {J : Prop} {f : α → Int}
    (hB : ∀ (j : Nat) x, l[j]? = some x → (∀ i, i < j → ∀ y, l[i]? = some y → f y = 0) → ∀ X : Int → Prop, (f x = 0 → X (IntKind.i64.wrap ((j : Int) + 1))) → B X (j : Int)) (hJ : AQ f l = 0 → J) :
    lp (fun X s => (decide (s < (l.length : Int)) = true → B X s) ∧ (decide (s < (l.length : Int)) = false → J)) 0 := by
  refine Ii l.length hl (fun j => ∀ i, i < j → ∀ y, l[i]? = some y → f y = 0) (fun i hi => absurd hi (by omega)) ?_ ?_
  · intro j hj hI X hX
    obtain ⟨x, hx⟩ : ∃ x, l[j]? = some x := ⟨l[j], by simp [hj]⟩
    refine hB j x hx hI X fun h0 => hX fun i hi y hy => ?_
    by_cases e : i = j
    · subst e; rw [hx] at hy; cases hy; exact h0
    · exact hI i (by omega) y hy
  · intro hI
    refine hJ (Gm fun j x hx => hI j ?_ x hx)
    rw [List.getElem?_eq_some_iff] at hx; exact hx.1
def Bv (s : ByteArray) : Int := if Cd s = true then 0 else 6
def Hu (l : List ByteArray) : Int := if ¬ (1 ≤ l.length ∧ l.length ≤ 16) then 5 else AQ Bv l
def Hv (l : List Qf) : Int := if ¬ (1 ≤ l.length ∧ l.length ≤ 64) then 5 else AQ Fv l
theorem Ep (l : List ByteArray) : Vv l (Hu l) := by
  unfold Vv Wg
  simp only [Y6, exists_eq_left, jn]
  by_cases hz : 1 ≤ l.length ∧ l.length ≤ 16
  · have e : ((1 : Int) ≤ l.length ∧ (l.length : Int) ≤ 16) := by omega
    rw [if_pos e]
    refine ⟨fun h => by simp at h, fun _ => ?_⟩
    refine DC (f := Bv) (by omega) ?_ ?_
    · intro j x hx hb X hX
      refine ⟨x, Vg rfl hx, Bv x, Wj x, fun h => ?_, fun h => hX (by simpa using h)⟩
      have hn : Bv x ≠ 0 := by simpa using h
      simp only [Hu, hz, not_true, and_self, if_false]; exact Fw hx hn hb
    · intro h; simp [Hu, hz, h]
  · have e : ¬ ((1 : Int) ≤ l.length ∧ (l.length : Int) ≤ 16) := by omega
    rw [if_neg e]
    exact ⟨fun _ => by simp [Hu, hz], fun h => by simp at h⟩
theorem DD (l : List Qf) : V3 l (Hv l) := by
  unfold V3 YN
  simp only [Y6, exists_eq_left, jn]
  by_cases hz : 1 ≤ l.length ∧ l.length ≤ 64
  · have e : ((1 : Int) ≤ l.length ∧ (l.length : Int) ≤ 64) := by omega
    rw [if_pos e]
    refine ⟨fun h => by simp at h, fun _ => ?_⟩
    refine DC (f := Fv) (by omega) ?_ ?_
    · intro j x hx hb X hX
      refine ⟨x, Vg rfl hx, Fv x, Bu x, fun h => ?_, fun h => hX (by simpa using h)⟩
      have hn : Fv x ≠ 0 := by simpa using h
      simp only [Hv, hz, not_true, and_self, if_false]; exact Fw hx hn hb
    · intro h; simp [Hv, hz, h]
  · have e : ¬ ((1 : Int) ≤ l.length ∧ (l.length : Int) ≤ 64) := by omega
    rw [if_neg e]
    exact ⟨fun _ => by simp [Hv, hz], fun h => by simp at h⟩
theorem KZ (x : Int) (l : List Int) (hl : l.length ≤ 100) : Ka x l (l.contains x) := by
  unfold Ka CP
  simp only [jn]
  refine DC (f := fun y => if y = x then 1 else 0) (by omega) ?_ ?_
  · intro j y hy hb X hX
    refine ⟨y, Vg rfl hy, fun h => ?_, fun h => hX (by simp at h; simp [h])⟩
    simp at h; subst h; simp; exact List.mem_of_getElem? hy
  · intro h
    cases hc : l.contains x with
    | false => rfl
    | true =>
      exfalso
      have hm : x ∈ l := by simpa using hc
      obtain ⟨j, hj⟩ := List.getElem?_of_mem hm
      have : ∀ (l : List Int), x ∈ l → AQ (fun y => if y = x then 1 else 0) l ≠ 0 := by
        intro l; induction l with
        | nil => simp
        | cons a r ih => intro h; unfold AQ; by_cases e : a = x <;> simp [e]; have := ih (by simpa [Ne.symm e] using h); simpa using this
      exact this l hm h
def Am (k : Int) : Kx := Kx.mk ([1, 2, 3, 5, 6, 7, 8, 16].contains k) ([3, 7, 8].contains k) ([9].contains k) ([1].contains k) ([6].contains k) ([6, 7, 8].contains k) ([8].contains k) ([10, 11, 12, 15].contains k) ([10, 12, 15].contains k) ([13, 14].contains k) ([13].contains k) ([5, 10].contains k) ([16].contains k)
theorem Ij (k : Int) : YR k (Am k) := by
  unfold YR Ai
  exact ⟨_, KZ _ _ (by simp), _, KZ _ _ (by simp), _, KZ _ _ (by simp), _, KZ _ _ (by simp), _, KZ _ _ (by simp), _, KZ _ _ (by simp), _, KZ _ _ (by simp), _, KZ _ _ (by simp), _, KZ _ _ (by simp), _, KZ _ _ (by simp), _, KZ _ _ (by simp), _, KZ _ _ (by simp), _, KZ _ _ (by simp), rfl⟩
def Er (x : Qt) (a b : Bool) : Int := if a = true ∧ Hu x.fw ≠ 0 then Hu x.fw else if b = true then Hv x.fj else 0
theorem Ce (x : Qt) (a b : Bool) : Jv x a b (Er x a b) := by
  have part2 : ((b = true → ∃ v, ZE (x.fj.length : Int) 1 64 v ∧ ((!v) = true → Hv x.fj = 5) ∧ ((!v) = false → AQ Fv x.fj = Hv x.fj))) := by
    intro hb
    refine ⟨_, Uf.2 rfl, ?_, ?_⟩ <;> intro h <;> simp [wI] at h <;> simp [Hv] <;> omega
  unfold Jv UE
  simp only [Uf, exists_eq_left, jn]
  have rest : (a = true → Hu x.fw = 0) → (b = true →
          (((!wI (↑x.fj.length) 1 64) = true → Er x a b = 5) ∧
            ((!wI (↑x.fj.length) 1 64) = false → lp (fun X12 s12 => (decide (s12 < (x.fj.length : Int)) = true →
                      ∃ v15, ix x.fj s12 v15 ∧ ∃ v16, Zl v15 v16 ∧ ((v16 != 0) = true → Er x a b = v16) ∧ ((v16 != 0) = false → X12 (IntKind.i64.wrap (s12 + 1)))) ∧
                    (decide (s12 < (x.fj.length : Int)) = false → Er x a b = 0)) 0))) ∧ (b = false → Er x a b = 0) := by
    intro ha
    have e0 : Er x a b = if b = true then Hv x.fj else 0 := by
      unfold Er; rw [if_neg (fun h => h.2 (ha h.1))]
    rw [e0]
    refine ⟨fun hb => ?_, fun hb => by simp [hb]⟩
    rw [if_pos hb]
    by_cases hz : 1 ≤ x.fj.length ∧ x.fj.length ≤ 64
    · have e : wI (x.fj.length : Int) 1 64 = true := by simp [wI]; omega
      refine ⟨fun h => by simp [e] at h, fun _ => ?_⟩
      refine DC (f := Fv) (by omega) ?_ ?_
      · intro j y hy hbb X hX
        refine ⟨y, Vg rfl hy, Fv y, WM y, fun h => ?_, fun h => hX (by simpa using h)⟩
        have hn : Fv y ≠ 0 := by simpa using h
        simp only [Hv, hz, not_true, and_self, if_false]; exact Fw hy hn hbb
      · intro h; simp [Hv, hz, h]
    · have e : wI (x.fj.length : Int) 1 64 = false := by simp [wI]; omega
      exact ⟨fun _ => by simp [Hv, hz], fun h => by simp [e] at h⟩
  refine ⟨fun ha => ?_, fun ha => rest (by simp [ha])⟩
  by_cases hz : 1 ≤ x.fw.length ∧ x.fw.length ≤ 16
  · have e : wI (x.fw.length : Int) 1 16 = true := by simp [wI]; omega
    refine ⟨fun h => by simp [e] at h, fun _ => ?_⟩
    refine DC (f := Bv) (by omega) ?_ ?_
    · intro j y hy hbb X hX
      refine ⟨y, Vg rfl hy, Cd y, UH y, fun h => ?_, fun h => hX (by simp at h; simp [Bv, h])⟩
      have hn : Bv y = 6 := by simp at h; simp [Bv, h]
      have : Hu x.fw = 6 := by
        simp only [Hu, hz, not_true, and_self, if_false]; rw [Fw hy (by simp [hn]) hbb, hn]
      simp [Er, ha, this]
    · intro h
      exact rest fun _ => by simp [Hu, hz, h]
  · have e : wI (x.fw.length : Int) 1 16 = false := by simp [wI]; omega
    have : Hu x.fw = 5 := by simp [Hu, hz]
    exact ⟨fun _ => by simp [Er, ha, this], fun h => by simp [e] at h⟩
end Go.Proofs.YthlaenafkihjiaaGreat
namespace Go.Proofs.YthlaenafkihjiaaGreat
open Go.RowKit Go.ChangeShapes Go.WideShapes
theorem OJ (x : Int) (j : Nat) (hj : j ≤ 62) (m : Int) (hm : m = 2 ^ j - 1) : bits BinOp.and IntKind.i64 x m = x % 2 ^ j := by
  have hp : (2 : Nat) ^ j ≤ 2 ^ 62 := Nat.pow_le_pow_right (by omega) hj
  have hp1 : 1 ≤ (2 : Nat) ^ j := Nat.one_le_two_pow
  have e0 : (2 : Int) ^ j = ((2 ^ j : Nat) : Int) := by simp
  have e1 : m = ((2 ^ j - 1 : Nat) : Int) := by rw [hm, e0]; omega
  show IntKind.i64.wrap ((BitVec.ofInt 64 x &&& BitVec.ofInt 64 m).toNat : Int) = _
  rw [BitVec.toNat_and, e1, BitVec.ofInt_natCast, BitVec.toNat_ofNat, Nat.mod_eq_of_lt (a := 2 ^ j - 1) (by omega), Nat.and_two_pow_sub_one_eq_mod, BitVec.toNat_ofInt]
  have hd : ((2 ^ j : Nat) : Int) ∣ (2 ^ 64 : Nat) := by
    refine ⟨((2 ^ (64 - j) : Nat) : Int), ?_⟩
    rw [← Int.natCast_mul, ← Nat.pow_add, show j + (64 - j) = 64 from by omega]
  have h2 : ((x % ((2 ^ 64 : Nat) : Int)).toNat % 2 ^ j : Nat) = (x % (2 ^ j : Nat)).toNat := by
    have hx0 : 0 ≤ x % ((2 ^ 64 : Nat) : Int) := Int.emod_nonneg _ (by decide)
    have hx1 : 0 ≤ x % ((2 ^ j : Nat) : Int) := Int.emod_nonneg _ (by omega)
    apply Int.ofNat.inj
    show (((x % ((2 ^ 64 : Nat) : Int)).toNat % 2 ^ j : Nat) : Int) = (((x % (2 ^ j : Nat)).toNat : Nat) : Int)
    rw [Int.natCast_emod, Int.toNat_of_nonneg hx0, Int.toNat_of_nonneg hx1, Int.emod_emod_of_dvd _ hd]
  rw [h2, Int.toNat_of_nonneg (Int.emod_nonneg _ (by omega)), e0, IntKind.wrap_i64]
  have hb0 : 0 ≤ x % ((2 ^ j : Nat) : Int) := Int.emod_nonneg _ (by omega)
  have hb1 : x % ((2 ^ j : Nat) : Int) < ((2 ^ j : Nat) : Int) := Int.emod_lt_of_pos _ (by omega)
  omega
theorem bA (x : Int) (j : Nat) (hj : j ≤ 62) (m : Int) (hm : m = 2 ^ j - 1) : QP .i64 x m = x % 2 ^ j := OJ x j hj m hm
theorem bA1 (x : Int) : QP .i64 x 1 = x % 2 := bA x 1 (by decide) 1 (by decide)
theorem bA3 (x : Int) : QP .i64 x 3 = x % 4 := bA x 2 (by decide) 3 (by decide)
theorem bA7 (x : Int) : QP .i64 x 7 = x % 8 := bA x 3 (by decide) 7 (by decide)
theorem bA15 (x : Int) : QP .i64 x 15 = x % 16 := bA x 4 (by decide) 15 (by decide)
theorem bA255 (x : Int) : QP .i64 x 255 = x % 256 := bA x 8 (by decide) 255 (by decide)
theorem Nf (x : Int) : QP .i64 x 65535 = x % 65536 := bA x 16 (by decide) 65535 (by decide)
theorem Gn (x : Int) : QP .i64 x 16777215 = x % 16777216 := bA x 24 (by decide) 16777215 (by decide)
theorem KF {a b : Int} (ha : 0 ≤ a) : a.tmod b = a % b := Int.tmod_eq_emod_of_nonneg ha
theorem K1 {α : Type} {l : List α} {n : Int} (h0 : 0 ≤ n) (h1 : n < l.length) : ∃ x, ix l n x ∧ l[n.toNat]? = some x := by
  have : n.toNat < l.length := by omega
  exact ⟨l[n.toNat], ⟨h0, by simp [this]⟩, by simp [this]⟩
theorem UV {n : Int} (h : 0 ≤ n ∧ n ≤ 18446744073709551615) : IntKind.u64.wrap n = n := by rw [IntKind.wrap_u64]; omega
theorem Jh (l : List Int) : (strOfNums l).size = l.length := by simp [strOfNums, ByteArray.size]
theorem shr8 (x : Int) : QF .i64 x 8 = x / 256 := by
  show x.fdiv (2 ^ 8) = x / 256
  rw [Int.fdiv_eq_ediv_of_nonneg x (by decide)]; rfl
end Go.Proofs.YthlaenafkihjiaaGreat
namespace Go.Proofs.YthlaenafkihjiaaGreat
open Go.RowKit Go.ChangeShapes Go.WideShapes
def WJ : Nat → Int → List Int
  | 0, _ => []
  | k + 1, n => (n / 2 ^ (8 * k)) % 256 :: WJ k n
theorem Zz (k : Nat) (n : Int) : (WJ k n).length = k := by induction k with
  | zero => rfl
  | succ k ih => simp [WJ, ih]
def nB (n : Int) : Nat :=
  if n < 256 then 1 else if n < 65536 then 2 else if n < 16777216 then 3 else if n < 4294967296 then 4 else
  if n < 1099511627776 then 5 else if n < 281474976710656 then 6 else if n < 72057594037927936 then 7 else 8
theorem Ug (n : Int) : 1 ≤ nB n ∧ nB n ≤ 8 := by
    unfold nB; repeat' split
    all_goals omega
def XM (n : Int) : List Int := if n < 248 then [n] else (247 + (nB n : Int)) :: WJ (nB n) n
def Jd (n : Int) : List Int := if n < 0 ∨ n > 4611686018427387904 then [] else XM n
def NL (n : Int) : Int := if n < 0 ∨ n > 4611686018427387904 then 5 else 0
theorem nB_up (n : Int) (k : Nat) (h1 : 1 ≤ k) (h8 : k < 8) (hlt : k < nB n) : 0 < n / 2 ^ (8 * k) := by
  unfold nB at hlt
  have hk : k = 1 ∨ k = 2 ∨ k = 3 ∨ k = 4 ∨ k = 5 ∨ k = 6 ∨ k = 7 := by omega
  rcases hk with rfl | rfl | rfl | rfl | rfl | rfl | rfl <;> simp only [Nat.reduceMul, Int.reducePow] <;> (repeat' split at hlt) <;> omega
theorem RA (n : Int) (k : Nat) (h0 : 0 ≤ n) (h1 : 1 ≤ k) (h8 : k < 8) (hlt : nB n ≤ k) : n / 2 ^ (8 * k) ≤ 0 := by
  unfold nB at hlt
  have hk : k = 1 ∨ k = 2 ∨ k = 3 ∨ k = 4 ∨ k = 5 ∨ k = 6 ∨ k = 7 := by omega
  rcases hk with rfl | rfl | rfl | rfl | rfl | rfl | rfl <;> simp only [Nat.reduceMul, Int.reducePow] <;> (repeat' split at hlt) <;> omega
theorem VG (n : Int) : (XM n).length ≤ 9 := by
  unfold XM
  have := Ug n
  split
  · simp
  · simp [Zz]; omega
theorem Gp {n : Int} {xs : List Int} {j : Nat} {t : List Int} (h : xs ++ WJ (j + 1) n = t) : (xs ++ [n / 2 ^ (8 * j) % 256]) ++ WJ j n = t := by
  rw [← h]; simp [WJ]
theorem Ik {n : Int} {xs : List Int} {j : Nat} {t : List Int} (h : xs ++ WJ j n = t) : xs.length + j = t.length := by
  rw [← h]; simp [Zz]
theorem OK (n : Int) (k : Nat) (h0 : 0 < n) (hlt : k < nB n) : 0 < n / 2 ^ (8 * k) := by
  have hr := Ug n
  by_cases h : k = 0
  · subst h; simpa using h0
  · exact nB_up n k (by omega) (by omega) hlt
theorem OL (n : Int) (k : Nat) (h0 : 0 ≤ n) (h1 : n ≤ 4611686018427387904) (hlt : nB n ≤ k) (h8 : k ≤ 8) : n / 2 ^ (8 * k) ≤ 0 := by
  have hr := Ug n
  by_cases h : k = 8
  · subst h; simp only [Nat.reduceMul, Int.reducePow]; omega
  · exact RA n k h0 (by omega) (by omega) hlt
theorem OM (n : Int) (j : Nat) : n / 2 ^ (8 * j) / 256 = n / 2 ^ (8 * (j + 1)) := by
  rw [Int.ediv_ediv_of_nonneg (by exact Int.le_of_lt (Int.pow_pos (by omega))), show 8 * (j + 1) = 8 * j + 8 from by omega, Int.pow_add]
  rfl
def D3 (l : List Int) : Int := l.foldl (fun x c => x * 256 + c) 0
theorem Gq (l : List Int) (c : Int) : D3 (l ++ [c]) = D3 l * 256 + c := by simp [D3]
theorem PD (l : List Int) (h : ∀ n ∈ l, (Lit.int .u8 n).wf = true) : ∀ x : Int, 0 ≤ x → 0 ≤ l.foldl (fun x c => x * 256 + c) x ∧ l.foldl (fun x c => x * 256 + c) x < (x + 1) * 256 ^ l.length := by
  induction l with
  | nil => intro x hx; simp; omega
  | cons c l ih =>
    intro x hx
    have hc := bounds_u8 (h c (by simp))
    have := ih (fun n hn => h n (by simp [hn])) (x * 256 + c) (by omega)
    refine ⟨this.1, Int.lt_of_lt_of_le this.2 ?_⟩
    rw [List.length_cons, Int.pow_succ, Int.mul_comm (256 ^ l.length) 256, ← Int.mul_assoc]
    exact Int.mul_le_mul_of_nonneg_right (by omega) (Int.pow_nonneg (by omega))
theorem Il (l : List Int) (h : ∀ n ∈ l, (Lit.int .u8 n).wf = true) : 0 ≤ D3 l ∧ D3 l < 256 ^ l.length := by
  have := PD l h 0 (by omega)
  simpa [D3] using this
theorem ON {X c : Int} (h0 : 0 ≤ X) (h1 : X < 72057594037927936) (c0 : 0 ≤ c) (c1 : c ≤ 255) : bits BinOp.or IntKind.u64 (X * 256) c = X * 256 + c :=
  bits_join .u64 64 (by decide) (fun n a b => by rw [IntKind.wrap_u64]; omega) 8 (X * 256) c (by omega) (by omega) (by omega) c0 (by omega) (by omega)
theorem OO (l : List Int) (h : ∀ n ∈ l, (Lit.int .u8 n).wf = true) (j : Nat) (hj : j < 8) : 0 ≤ D3 (l.take j) ∧ D3 (l.take j) < 72057594037927936 := by
  have := Il (l.take j) (fun n hn => h n (List.mem_of_mem_take hn))
  have hl : (l.take j).length ≤ 7 := by rw [List.length_take]; omega
  have h7 : (256 : Int) ^ (l.take j).length ≤ 72057594037927936 := by
    generalize (l.take j).length = n at hl
    match n, hl with
    | 0, _ => decide
    | 1, _ => decide
    | 2, _ => decide
    | 3, _ => decide
    | 4, _ => decide
    | 5, _ => decide
    | 6, _ => decide
    | 7, _ => decide
    | n + 8, h => omega
  exact ⟨this.1, Int.lt_of_lt_of_le this.2 h7⟩
def Uj (l : List Int) : Int × Int × Int :=
  if l = [] then (0, 0, 3)
  else if gI l 0 < 248 then (gI l 0, 1, 0)
  else if (l.length : Int) ≤ gI l 0 - 247 then (0, 0, 3)
  else if gI l 1 = 0 ∨ D3 (l.tail.take (gI l 0 - 247).toNat) < 248 ∨ D3 (l.tail.take (gI l 0 - 247).toNat) > 4611686018427387904 then (0, 0, 2)
  else (D3 (l.tail.take (gI l 0 - 247).toNat), gI l 0 - 246, 0)
def Fa (l : List Int) : Int × Int × Int := if l.length < 8 then (0, 0, 3) else (D3 (l.take 8), 8, 0)
theorem Fx {l : List Int} (hw : ∀ n ∈ l, (Lit.int .u8 n).wf = true) {n k : Int} (h : Uj l = (n, k, 0)) : 0 ≤ n ∧ n ≤ 4611686018427387904 ∧ 1 ≤ k ∧ k ≤ 9 ∧ k ≤ l.length ∧ 0 < l.length := by
  have g0 := PW hw 0
  have hx := (Il (l.tail.take (gI l 0 - 247).toNat) (fun n hn => hw n (List.mem_of_mem_tail (List.mem_of_mem_take hn)))).1
  unfold Uj at h
  by_cases h0 : l = []
  · rw [if_pos h0] at h; simp at h
  have hl : 0 < l.length := List.length_pos_iff.2 h0
  rw [if_neg h0] at h
  by_cases h1 : gI l 0 < 248
  · rw [if_pos h1] at h; simp only [Prod.mk.injEq] at h; omega
  rw [if_neg h1] at h
  by_cases h2 : (l.length : Int) ≤ gI l 0 - 247
  · rw [if_pos h2] at h; simp at h
  rw [if_neg h2] at h
  generalize D3 (l.tail.take (gI l 0 - 247).toNat) = X at h hx
  by_cases h3 : gI l 1 = 0 ∨ X < 248 ∨ X > 4611686018427387904
  · rw [if_pos h3] at h; simp at h
  rw [if_neg h3] at h
  simp only [Prod.mk.injEq] at h
  omega
def EQ (l : List Int) (r : Int × Int × Int) : ByteArray × Int × Int :=
  if r.2.2 ≠ 0 then (⟨#[]⟩, 0, r.2.2)
  else if r.1 > 65536 then (⟨#[]⟩, 0, 2)
  else if (l.length : Int) - r.2.1 < r.1 then (⟨#[]⟩, 0, 3)
  else (strOfNums ((l.drop r.2.1.toNat).take r.1.toNat), r.2.1 + r.1, 0)
def Fb (l : List Int) : ByteArray × Int × Int := EQ l (Uj l)
def Gr (p : Int × Int) (c : Int) : Int × Int := ((p.1 + c) % 65521, (p.2 + (p.1 + c) % 65521) % 65521)
def Bw (l : List Int) : Int × Int := l.foldl Gr (1, 0)
def Gs (l : List Int) : Int := (Bw l).2 * 65536 + (Bw l).1
theorem NM (l : List Int) (c : Int) : Bw (l ++ [c]) = Gr (Bw l) c := by simp [Bw]
theorem Ms (p : Int × Int) (c : Int) : 0 ≤ (Gr p c).1 ∧ (Gr p c).1 < 65521 ∧ 0 ≤ (Gr p c).2 ∧ (Gr p c).2 < 65521 := by
  simp only [Gr]; omega
theorem Fc (l : List Int) : ∀ p : Int × Int, (0 ≤ p.1 ∧ p.1 < 65521 ∧ 0 ≤ p.2 ∧ p.2 < 65521) → 0 ≤ (l.foldl Gr p).1 ∧ (l.foldl Gr p).1 < 65521 ∧ 0 ≤ (l.foldl Gr p).2 ∧ (l.foldl Gr p).2 < 65521 := by
  induction l with
  | nil => intro p h; exact h
  | cons c l ih => intro p _; exact ih _ (Ms p c)
theorem An (l : List Int) : 0 ≤ (Bw l).1 ∧ (Bw l).1 < 65521 ∧ 0 ≤ (Bw l).2 ∧ (Bw l).2 < 65521 := Fc l (1, 0) (by decide)
theorem Es (l : List Int) : 0 ≤ Gs l ∧ Gs l < 4294967296 := by
  have := An l
  unfold Gs
  omega
def Jk (tag : Int) (body : List Int) : List Int := tag :: XM body.length ++ body
def Ve (tag : Int) (body : List Int) : List Int := if body.length > 1048576 then [] else Jk tag body ++ WJ 4 (Gs (Jk tag body))
def By (body : List Int) : Int := if body.length > 1048576 then 11 else 0
theorem wf_u8 {n : Int} (h0 : 0 ≤ n) (h1 : n ≤ 255) : (Lit.int .u8 n).wf = true := by
  simp [Lit.wf, IntKind.min, IntKind.max, IntKind.signed, IntKind.bits]; omega
theorem Mt (k : Nat) (n : Int) : ∀ c ∈ WJ k n, (Lit.int .u8 c).wf = true := by
  induction k with
  | zero => intro c hc; simp [WJ] at hc
  | succ k ih =>
    intro c hc
    rw [WJ, List.mem_cons] at hc
    rcases hc with rfl | hc
    · exact wf_u8 (by omega) (by omega)
    · exact ih c hc
theorem Im (n : Int) (h : 0 ≤ n) : ∀ c ∈ XM n, (Lit.int .u8 c).wf = true := by
  intro c hc
  unfold XM at hc
  have := Ug n
  split at hc
  · simp at hc; subst hc; exact wf_u8 (by omega) (by omega)
  · rcases List.mem_cons.1 hc with rfl | hc
    · exact wf_u8 (by omega) (by omega)
    · exact Mt _ _ c hc
theorem WQ (tag : Int) (body : List Int) : (Jk tag body).length = 1 + (XM body.length).length + body.length := by
  unfold Jk; simp; omega
theorem beB4 {X : Int} (h0 : 0 ≤ X) (h1 : X < 4294967296) : WJ 4 X = [X / 16777216, X / 65536 % 256, X / 256 % 256, X % 256] := by
  have e3 : (2 : Int) ^ (8 * 3) = 16777216 := by decide
  have e2 : (2 : Int) ^ (8 * 2) = 65536 := by decide
  have e1 : (2 : Int) ^ (8 * 1) = 256 := by decide
  have e0 : (2 : Int) ^ (8 * 0) = 1 := by decide
  simp only [WJ, e3, e2, e1, e0, Int.ediv_one]
  rw [Int.emod_eq_of_lt (a := X / 16777216) (by omega) (by omega)]
def LB (l : List Int) (r : Int × Int × Int) : Int × List Int × Int × Int :=
  if r.2.2 ≠ 0 then (0, [], 0, r.2.2)
  else if r.1 > 1048576 then (0, [], 0, 2)
  else if (l.length : Int) < 1 + r.2.1 + r.1 + 4 then (0, [], 0, 3)
  else if D3 ((l.drop (1 + r.2.1.toNat + r.1.toNat)).take 4) ≠ Gs (l.take (1 + r.2.1.toNat + r.1.toNat)) then (0, [], 0, 4)
  else (gI l 0, (l.drop (1 + r.2.1.toNat)).take r.1.toNat, 1 + r.2.1 + r.1 + 4, 0)
def P8 (l : List Int) : Int × List Int × Int × Int := if l = [] then (0, [], 0, 3) else LB l (Uj l.tail)
theorem Mu {X c : Int} (h0 : 0 ≤ X) (h1 : X < 16777216) (c0 : 0 ≤ c) (c1 : c ≤ 255) : bits BinOp.or IntKind.u32 (X * 256) c = X * 256 + c :=
  bits_join .u32 32 (by decide) (fun n a b => by rw [IntKind.wrap_u32]; omega) 8 (X * 256) c (by omega) (by omega) (by omega) c0 (by omega) (by omega)
theorem NN (l : List Int) (h : ∀ n ∈ l, (Lit.int .u8 n).wf = true) (j : Nat) (hj : j < 4) : 0 ≤ D3 (l.take j) ∧ D3 (l.take j) < 16777216 := by
  have := Il (l.take j) (fun n hn => h n (List.mem_of_mem_take hn))
  have hl : (l.take j).length ≤ 3 := by rw [List.length_take]; omega
  have h7 : (256 : Int) ^ (l.take j).length ≤ 16777216 := by
    generalize (l.take j).length = n at hl
    match n, hl with
    | 0, _ => decide
    | 1, _ => decide
    | 2, _ => decide
    | 3, _ => decide
    | n + 4, h => omega
  exact ⟨this.1, Int.lt_of_lt_of_le this.2 h7⟩
end Go.Proofs.YthlaenafkihjiaaGreat
namespace Go.Proofs.YthlaenafkihjiaaGreat
open Go.RowKit Go.ChangeShapes Go.WideShapes
theorem Mv (n : Int) (k : Nat) : n / 256 / 2 ^ (8 * k) = n / 2 ^ (8 * (k + 1)) := by
  rw [Int.ediv_ediv_of_nonneg (by omega), show 8 * (k + 1) = 8 + 8 * k from by omega, Int.pow_add]
  rfl
theorem OP (k : Nat) : ∀ n : Int, WJ (k + 1) n = WJ k (n / 256) ++ [n % 256] := by
  induction k with
  | zero => intro n; simp [WJ]
  | succ k ih =>
    intro n
    rw [WJ, ih n, WJ, Mv, List.cons_append]
theorem Io : ∀ (k : Nat) (n : Int), 0 ≤ n → n < 2 ^ (8 * k) → D3 (WJ k n) = n := by
  intro k
  induction k with
  | zero => intro n h0 h1; simp at h1; have : n = 0 := by omega
            subst this; rfl
  | succ k ih =>
    intro n h0 h1
    have h2 : n / 256 < 2 ^ (8 * k) := by
      rw [show 8 * (k + 1) = 8 * k + 8 from by omega, Int.pow_add] at h1
      exact Int.ediv_lt_of_lt_mul (by omega) h1
    rw [OP, Gq, ih (n / 256) (by omega) h2]
    omega
theorem nB_hi (n : Int) (h0 : 0 ≤ n) (h1 : n ≤ 4611686018427387904) : n < 2 ^ (8 * nB n) := by
  unfold nB
  (repeat' split) <;> simp only [Nat.reduceMul, Int.reducePow] <;> omega
theorem nB_lo (n : Int) (h0 : 248 ≤ n) : 0 < n / 2 ^ (8 * (nB n - 1)) ∧ n / 2 ^ (8 * (nB n - 1)) ≤ 255 ∨ 72057594037927936 ≤ n := by
  unfold nB
  (repeat' split) <;> simp only [Nat.reduceMul, Nat.reduceSub, Int.reducePow] <;> omega
theorem DF (c : Int) (m : List Int) : gI (c :: m) 0 = c := rfl
theorem Gt (n : Int) (h0 : 0 ≤ n) (h1 : n ≤ 4611686018427387904) (rest : List Int) : Uj (XM n ++ rest) = (n, ((XM n).length : Int), 0) := by
  by_cases hs : n < 248
  · unfold XM
    rw [if_pos hs]
    unfold Uj
    rw [if_neg (by simp), List.singleton_append, DF, if_pos hs]
    rfl
  · have hr := Ug n
    have hhi := nB_hi n h0 h1
    have hv := Io (nB n) n h0 hhi
    unfold XM
    rw [if_neg hs]
    unfold Uj
    rw [if_neg (by simp), List.cons_append, DF, if_neg (by omega), if_neg (by simp [Zz]; omega)]
    have e1 : (247 + (nB n : Int) - 247).toNat = nB n := by omega
    have e2 : ((WJ (nB n) n ++ rest).take (nB n)) = WJ (nB n) n := by
      rw [List.take_append_of_le_length (by rw [Zz]; exact Nat.le_refl _), List.take_of_length_le (by rw [Zz]; exact Nat.le_refl _)]
    rw [e1, List.tail_cons, e2, hv]
    have hg : gI ((247 + (nB n : Int)) :: (WJ (nB n) n ++ rest)) 1 ≠ 0 := by
      obtain ⟨j, hj⟩ : ∃ j, nB n = j + 1 := ⟨nB n - 1, by omega⟩
      have hlo := nB_lo n (by omega)
      rw [hj] at hlo ⊢
      show n / 2 ^ (8 * j) % 256 ≠ 0
      rw [Nat.add_sub_cancel] at hlo
      rcases hlo with hlo | hlo
      · omega
      · have hj7 : j = 7 := by
          have : nB n = 8 := by
            unfold nB
            (repeat' split) <;> omega
          omega
        subst hj7
        simp only [Nat.reduceMul, Int.reducePow]
        omega
    rw [if_neg (by omega)]
    simp [Zz]
    omega
theorem OQ (a : Int) (j : Nat) (h : j ≤ 8) : QF .i64 a (IntKind.i64.wrap (8 * (j : Int))) = a / 2 ^ (8 * j) := by
  rw [Zq (by omega)]
  unfold QF
  have e : min (8 * (j : Int)).toNat IntKind.i64.bits = 8 * j := by
    have : IntKind.i64.bits = 64 := rfl
    rw [this]; omega
  rw [e, Int.fdiv_eq_ediv_of_nonneg a (Int.le_of_lt (Int.pow_pos (by decide)))]
theorem Cf (x : Int) : IntKind.u8.wrap x = x % 256 := by rw [IntKind.wrap_u8]
theorem W2 (n : Int) : KC n (Jd n, NL n) := by
  unfold KC YS
  simp only [jn, JQ]
  by_cases hr : n < 0 ∨ n > 4611686018427387904
  · refine ⟨fun _ => by simp [Jd, NL, hr], fun h => ?_⟩
    simp at h; omega
  have hb : 0 ≤ n ∧ n ≤ 4611686018427387904 := by omega
  have eL : Jd n = XM n := by unfold Jd; rw [if_neg hr]
  have eE : NL n = 0 := by unfold NL; rw [if_neg hr]
  rw [eL, eE]
  refine ⟨fun h => by simp at h; omega, fun _ => ⟨fun h => ?_, fun h => ?_⟩⟩
  · have h' : n < 248 := by simpa using h
    rw [Cf, Int.emod_eq_of_lt hb.1 (by omega)]; unfold XM; rw [if_pos h']
  have h' : ¬ n < 248 := by simpa using h
  have hu : XM n = (247 + (nB n : Int)) :: WJ (nB n) n := by unfold XM; rw [if_neg h']
  rw [hu]
  have hnb := Ug n
  refine ZW (I := fun k s => ∃ j : Nat, s = (j : Int) ∧ 1 ≤ j ∧ j ≤ nB n ∧ k = 8 - j) ?_ (k := 7) ⟨1, rfl, by omega, by omega, rfl⟩
  rintro k s ⟨j, rfl, hj1, hj2, hk⟩ X hX
  rw [OQ n j (by omega)]
  refine ⟨fun _ => by rw [Zq (by omega)]; omega, fun h => ?_, fun h => ?_⟩
  · have h8 : j < 8 ∧ 0 < n / 2 ^ (8 * j) := by
      rw [Jj] at h; simp at h; exact ⟨by omega, h.2⟩
    rw [Zq (by omega)]
    refine hX (8 - (j + 1)) _ (by omega) ⟨j + 1, by simp, by omega, ?_, rfl⟩
    rcases Nat.lt_or_ge j (nB n) with hl | hl
    · omega
    · have := OL n j hb.1 hb.2 hl (by omega); omega
  · have hjn : j = nB n := by
      rcases Nat.lt_or_ge j (nB n) with hl | hl
      · have := OK n j (by omega) hl
        rw [Jj] at h; simp at h; omega
      · omega
    subst hjn
    rw [Zq (n := 247 + (nB n : Int)) (by omega), Cf, Int.emod_eq_of_lt (by omega) (by omega), Zq (n := (nB n : Int) - 1) (by omega)]
    refine ZW (I := fun k s => ∃ m : Nat, s.2 = (m : Int) - 1 ∧ m ≤ nB n ∧ k = m ∧ s.1 ++ WJ m n = (247 + (nB n : Int)) :: WJ (nB n) n) ?_ (k := nB n) ⟨nB n, rfl, by omega, rfl, rfl⟩
    rintro k ⟨l, i⟩ ⟨m, hm, hm1, hk, hl⟩ X hX
    simp only at hm hl ⊢
    subst hm
    have hlen := Ik hl
    simp [Zz] at hlen
    refine ⟨fun h => ?_, fun h => ?_⟩
    · have hm0 : 1 ≤ m := by simp at h; omega
      have em : (m : Int) - 1 = ((m - 1 : Nat) : Int) := by omega
      rw [em, OQ n (m - 1) (by omega), Cf]
      refine ⟨by rw [Zq (by omega)]; omega, by simp; omega, ?_⟩
      rw [Zq (n := ((m - 1 : Nat) : Int) - 1) (by omega)]
      refine hX (m - 1) _ (by omega) ⟨m - 1, rfl, by omega, rfl, ?_⟩
      obtain ⟨j, rfl⟩ : ∃ j, m = j + 1 := ⟨m - 1, by omega⟩
      simpa using Gp hl
    · have hm0 : m = 0 := by simp at h; omega
      subst hm0
      simpa [WJ] using hl.symm
theorem Bz (n : Int) (hb : 0 ≤ n ∧ n ≤ 4611686018427387904) : QX n (XM n) := by
  unfold QX Xx
  simp only [jn, shr8, Cf]
  refine ⟨fun h => ?_, fun h => ?_⟩
  · have h' : n < 248 := by simpa using h
    rw [Int.emod_eq_of_lt hb.1 (by omega)]; unfold XM; rw [if_pos h']
  have h' : ¬ n < 248 := by simpa using h
  have hu : XM n = (247 + (nB n : Int)) :: WJ (nB n) n := by unfold XM; rw [if_neg h']
  rw [hu]
  have hnb := Ug n
  refine ZW (I := fun k s => ∃ j : Nat, s.1 = n / 2 ^ (8 * j) ∧ s.2 = WJ j n ∧ j ≤ nB n ∧ k = 8 - j) ?_ (k := 8) ⟨0, by simp, rfl, by omega, rfl⟩
  rintro k ⟨x, l⟩ ⟨j, hx, hl, hj, hk⟩ X hX
  simp only at hx hl ⊢
  subst hx; subst hl
  refine ⟨fun h => ?_, fun h => ?_⟩
  · have h0 : 0 < n / 2 ^ (8 * j) := by simpa using h
    have hlt : j < nB n := by
      rcases Nat.lt_or_ge j (nB n) with hl | hl
      · exact hl
      · have := OL n j hb.1 hb.2 hl (by omega); omega
    refine ⟨by simp [Zz]; omega, hX (8 - (j + 1)) _ (by omega) ⟨j + 1, OM n j, rfl, by omega, rfl⟩⟩
  · have h0 : ¬ 0 < n / 2 ^ (8 * j) := by simpa using h
    have hjn : j = nB n := by
      rcases Nat.lt_or_ge j (nB n) with hl | hl
      · exact absurd (OK n j (by omega) hl) h0
      · omega
    subst hjn
    rw [Zz, Zq (by omega), Int.emod_eq_of_lt (by omega) (by omega)]
    exact ⟨by simp [Zz]; omega, rfl⟩
theorem Ip {x : Int} (h : 0 ≤ x ∧ x ≤ 4294967295) : IntKind.u32.wrap x = x := by rw [IntKind.wrap_u32]; omega
theorem Ng {l : List Int} (hl : l.length ≤ 4611686018427387904) (hw : ∀ c ∈ l, 0 ≤ c ∧ c ≤ 255) {J : Int × Int → Prop} (hJ : J (Bw l)) :
    lp (fun (X2 : Int × Int × Int → Prop) (s2 : Int × Int × Int) => (((decide ((s2.2.2) < (((l).length : Int)))) = true → ∃ (v5 : Int), ix (l) (s2.2.2) v5 ∧ X2 (((IntKind.u32.wrap ((s2.1) + (IntKind.u32.wrap (v5)))).tmod (65521)), ((IntKind.u32.wrap ((s2.2.1) + ((IntKind.u32.wrap ((s2.1) + (IntKind.u32.wrap (v5)))).tmod (65521)))).tmod (65521)), (IntKind.i64.wrap ((s2.2.2) + (1))))) ∧ ((decide ((s2.2.2) < (((l).length : Int)))) = false → J ((s2.1), (s2.2.1))))) ((1), (0), (0)) := by
  refine ZW (I := fun k s => ∃ j : Nat, s.2.2 = (j : Int) ∧ j ≤ l.length ∧ k = l.length - j ∧ (s.1, s.2.1) = Bw (l.take j)) ?_ (k := l.length) ⟨0, rfl, by omega, by omega, rfl⟩
  rintro k ⟨a, b, i⟩ ⟨j, hj, hj1, hk, hp⟩ X hX
  simp only at hj hp ⊢
  subst hj
  refine ⟨fun h => ?_, fun h => ?_⟩
  · have hj2 : j < l.length := by simp at h; omega
    obtain ⟨x, hx, hg⟩ := K1 (l := l) (n := (j : Int)) (by omega) (by omega)
    have hxw := hw x (List.mem_of_getElem? hg)
    have hr := An (l.take j)
    rw [← hp] at hr
    simp only at hr
    refine ⟨x, hx, ?_⟩
    have e : l.take (j + 1) = l.take j ++ [x] := by
      rw [List.take_add_one]; simp at hg; simp [hg]
    have t1 : (a + x).tmod 65521 = (a + x) % 65521 := KF (by omega)
    have t2 : (b + (a + x) % 65521).tmod 65521 = (b + (a + x) % 65521) % 65521 := KF (by omega)
    rw [Ip (x := x) (by omega), Ip (x := a + x) (by omega), t1, Ip (by omega), t2, Zq (by omega)]
    refine hX (l.length - (j + 1)) _ (by omega) ⟨j + 1, by simp, by omega, rfl, ?_⟩
    rw [e, NM, ← hp]; rfl
  · have hj2 : j = l.length := by simp at h; omega
    subst hj2
    rw [List.take_length] at hp
    rw [hp]; exact hJ
theorem AB (l : List Int) (hl : l.length ≤ 4611686018427387904) (hw : ∀ c ∈ l, 0 ≤ c ∧ c ≤ 255) : JZ l (Gs l) := by
  unfold JZ WI
  simp only [jn]
  refine Ng (J := fun p => Gs l = IntKind.u32.wrap (Vh .u32 p.2 16 + p.1)) hl hw ?_
  have hr := An l
  show Gs l = IntKind.u32.wrap (IntKind.u32.wrap ((Bw l).2 * 65536) + (Bw l).1)
  rw [Ip (x := (Bw l).2 * 65536) (by omega), Ip (by omega)]; rfl
theorem Fe (l : List Int) (hl : l.length ≤ 4611686018427387904) (hw : ∀ c ∈ l, 0 ≤ c ∧ c ≤ 255) : Jm l (Gs l) := by
  unfold Jm Jl
  simp only [jn]
  refine Ng (J := fun p => Gs l = IntKind.u32.wrap (IntKind.u32.wrap (p.2 * 65536) + p.1)) hl hw ?_
  have hr := An l
  show Gs l = IntKind.u32.wrap (IntKind.u32.wrap ((Bw l).2 * 65536) + (Bw l).1)
  rw [Ip (x := (Bw l).2 * 65536) (by omega), Ip (by omega)]; rfl
theorem Gu (a : Int) (j : Nat) (h : j ≤ 32) : QF .u32 a (j : Int) = a / 2 ^ j := by
  unfold QF
  have e : min ((j : Int)).toNat IntKind.u32.bits = j := by
    have : IntKind.u32.bits = 32 := rfl
    rw [this]; omega
  rw [e, Int.fdiv_eq_ediv_of_nonneg a (Int.le_of_lt (Int.pow_pos (by decide)))]
theorem four (X : Int) (h : 0 ≤ X ∧ X < 4294967296) : [IntKind.u8.wrap (QF .u32 X 24), IntKind.u8.wrap (QF .u32 X 16), IntKind.u8.wrap (QF .u32 X 8), IntKind.u8.wrap X] = WJ 4 X := by
  have e1 : QF .u32 X 24 = X / 16777216 := Gu X 24 (by decide)
  have e2 : QF .u32 X 16 = X / 65536 := Gu X 16 (by decide)
  have e3 : QF .u32 X 8 = X / 256 := Gu X 8 (by decide)
  rw [beB4 h.1 h.2, e1, e2, e3, Cf, Cf, Cf, Cf, Int.emod_eq_of_lt (a := X / 16777216) (by omega) (by omega)]
theorem Et {t : Int} {l : List Int} (ht : 0 ≤ t ∧ t ≤ 255) (hw : ∀ c ∈ l, 0 ≤ c ∧ c ≤ 255) : ∀ c ∈ Jk t l, 0 ≤ c ∧ c ≤ 255 := by
  intro c hc
  unfold Jk at hc
  simp only [List.cons_append, List.mem_cons, List.mem_append] at hc
  rcases hc with rfl | h | h
  · exact ht
  · exact bounds_u8 (Im _ (by omega) c h)
  · exact hw c h
theorem Iq (t : Int) (l : List Int) (ht : 0 ≤ t ∧ t ≤ 255) (hw : ∀ c ∈ l, 0 ≤ c ∧ c ≤ 255) : YW t l (Ve t l, By l) := by
  unfold YW Aj
  by_cases h : l.length > 1048576
  · refine ⟨fun _ => by simp [Ve, By, h], fun h2 => by simp at h2; omega⟩
  · refine ⟨fun h2 => by simp at h2; omega, fun _ => ?_⟩
    have hL := VG (l.length : Int)
    have e : Jd (l.length : Int) = XM l.length := by unfold Jd; rw [if_neg (by omega)]
    have hh : (([t] ++ XM (l.length : Int)) ++ l) = Jk t l := by simp [Jk]
    have hl := WQ t l
    refine ⟨_, W2 _, ?_⟩
    rw [e, hh]
    refine ⟨by simp; omega, by simp; omega, _, AB _ (by omega) (Et ht hw), ?_⟩
    rw [four _ (Es _)]
    exact ⟨by simp [Zz]; omega, by simp [Ve, By, h]⟩
theorem Ir (t : Int) (l : List Int) (ht : 0 ≤ t ∧ t ≤ 255) (hw : ∀ c ∈ l, 0 ≤ c ∧ c ≤ 255) : Jc t l (Ve t l, By l) := by
  unfold Jc VP
  by_cases h : l.length > 1048576
  · refine ⟨fun _ => by simp [Ve, By, h], fun h2 => by simp at h2; omega⟩
  · refine ⟨fun h2 => by simp at h2; omega, fun _ => ?_⟩
    have hL := VG (l.length : Int)
    have hh : (([t] ++ XM (l.length : Int)) ++ l) = Jk t l := by simp [Jk]
    have hl := WQ t l
    refine ⟨_, Bz _ (by omega), ?_⟩
    rw [hh]
    refine ⟨by simp; omega, by simp; omega, _, Fe _ (by omega) (Et ht hw), ?_⟩
    rw [four _ (Es _)]
    exact ⟨by simp [Zz]; omega, by simp [Ve, By, h]⟩
theorem LC (a : Int) (j : Nat) (h : j ≤ 64) : QF .u64 a (j : Int) = a / 2 ^ j := by
  unfold QF
  have e : min ((j : Int)).toNat IntKind.u64.bits = j := by
    have : IntKind.u64.bits = 64 := rfl
    rw [this]; omega
  rw [e, Int.fdiv_eq_ediv_of_nonneg a (Int.le_of_lt (Int.pow_pos (by decide)))]
theorem DG (a : Int) : V7 a (WJ 8 a) := by
  unfold V7 YV
  simp only [jn]
  refine ZW (I := fun k s => ∃ m : Nat, s.2 = 8 * (m : Int) - 8 ∧ m ≤ 8 ∧ k = m ∧ s.1 ++ WJ m a = WJ 8 a) ?_ (k := 8) ⟨8, by decide, by omega, rfl, rfl⟩
  rintro k ⟨l, i⟩ ⟨m, hm, hm1, hk, hl⟩ X hX
  simp only at hm hl ⊢
  subst hm
  have hlen := Ik hl
  simp [Zz] at hlen
  refine ⟨fun h => ?_, fun h => ?_⟩
  · have hm0 : 1 ≤ m := by simp at h; omega
    obtain ⟨j, rfl⟩ : ∃ j, m = j + 1 := ⟨m - 1, by omega⟩
    have em : 8 * ((j + 1 : Nat) : Int) - 8 = ((8 * j : Nat) : Int) := by omega
    rw [em, LC a (8 * j) (by omega), Cf]
    refine ⟨by omega, by simp; omega, ?_⟩
    rw [Zq (by omega)]
    exact hX j _ (by omega) ⟨j, by simp only; omega, by omega, rfl, by simpa using Gp hl⟩
  · have hm0 : m = 0 := by simp at h; omega
    subst hm0
    simpa [WJ] using hl.symm
theorem LD (a : Int) : V2 a (WJ 8 a) := by
  unfold V2 XB
  simp only [jn]
  refine ZW (I := fun k s => ∃ m : Nat, s.2 = (m : Int) - 1 ∧ m ≤ 8 ∧ k = m ∧ s.1 ++ WJ m a = WJ 8 a) ?_ (k := 8) ⟨8, by decide, by omega, rfl, rfl⟩
  rintro k ⟨l, i⟩ ⟨m, hm, hm1, hk, hl⟩ X hX
  simp only at hm hl ⊢
  subst hm
  have hlen := Ik hl
  simp [Zz] at hlen
  refine ⟨fun h => ?_, fun h => ?_⟩
  · have hm0 : 1 ≤ m := by simp at h; omega
    obtain ⟨j, rfl⟩ : ∃ j, m = j + 1 := ⟨m - 1, by omega⟩
    have em : ((j + 1 : Nat) : Int) - 1 = (j : Int) := by omega
    have e8 : IntKind.u64.wrap (IntKind.i64.wrap (8 * (j : Int))) = ((8 * j : Nat) : Int) := by rw [Zq (by omega), UV (by omega)]; omega
    rw [em, e8, LC a (8 * j) (by omega), Cf]
    refine ⟨by omega, by simp; omega, ?_⟩
    rw [Zq (by omega)]
    exact hX j _ (by omega) ⟨j, rfl, by omega, rfl, by simpa using Gp hl⟩
  · have hm0 : m = 0 := by simp at h; omega
    subst hm0
    simpa [WJ] using hl.symm
def Ur (s : ByteArray) : List Int := if s.size > 65536 then [] else XM s.size ++ sI s
def txE (s : ByteArray) : Int := if s.size > 65536 then 11 else 0
theorem OR {n : Nat} (h : n ≤ 4611686018427387904) : Jd (n : Int) = XM n ∧ NL (n : Int) = 0 := by
  unfold Jd NL; rw [if_neg (by omega), if_neg (by omega)]; exact ⟨rfl, rfl⟩
theorem DI (s : ByteArray) : V6 s (Ur s, txE s) := by
  unfold V6 YU
  by_cases h : s.size > 65536
  · refine ⟨fun _ => by simp [Ur, txE, h], fun h2 => by simp at h2; omega⟩
  · refine ⟨fun h2 => by simp at h2; omega, fun _ => ⟨_, W2 _, ?_⟩⟩
    have hL := VG (s.size : Int)
    have hs := Vl s
    rw [(OR (n := s.size) (by omega)).1]
    exact ⟨by simp only; omega, by simp [Ur, txE, h]⟩
theorem XN (s : ByteArray) (h : s.size ≤ 65536) : ZX s (Ur s) := by
  unfold ZX XC
  have hL := VG (s.size : Int)
  have hs := Vl s
  exact ⟨_, Bz _ (by omega), by omega, by simp [Ur]; omega⟩
theorem Zi (n : Int) : (Jd n).length ≤ 9 := by
  unfold Jd; split
  · simp
  · exact VG n
theorem Jo (s : ByteArray) : (Ur s).length ≤ 65545 := by
  unfold Ur; split
  · simp
  · have hL := VG (s.size : Int)
    have hs := Vl s
    simp; omega
theorem J0 (b : List Int) (l : List Int) (hb : b.length ≤ 1000000000) (hl : l.length ≤ 100000) : Ze ⟨b⟩ l ⟨b ++ l.flatMap Jd⟩ := by
  unfold Ze JM
  refine ZW (I := fun k s => ∃ j : Nat, s.1 = (j : Int) ∧ j ≤ l.length ∧ k = l.length - j ∧ s.2 = b ++ (l.take j).flatMap Jd ∧ s.2.length ≤ b.length + 9 * j) ?_ (k := l.length) ⟨0, rfl, by omega, by omega, by simp, by simp⟩
  rintro k ⟨i, c⟩ ⟨j, hj, hj1, hk, hc, hlen⟩ X hX
  simp only at hj hc hlen ⊢
  subst hj
  refine ⟨fun h => ?_, fun h => ?_⟩
  · have hj2 : j < l.length := by simp at h; omega
    obtain ⟨x, hx, hg⟩ := K1 (l := l) (n := (j : Int)) (by omega) (by omega)
    have hL := Zi x
    refine ⟨x, hx, _, W2 x, by simp only; omega, ?_⟩
    rw [Zq (by omega)]
    refine hX (l.length - (j + 1)) _ (by omega) ⟨j + 1, by simp, by omega, rfl, ?_, by simp; omega⟩
    have e : l.take (j + 1) = l.take j ++ [x] := by rw [List.take_add_one]; simp at hg; simp [hg]
    rw [e, hc]; simp
  · have hj2 : j = l.length := by simp at h; omega
    subst hj2
    rw [hc, List.take_length]
theorem VD (b : List Int) (l : List ByteArray) (hb : b.length ≤ 100000000000) (hl : l.length ≤ 100000) : Zn ⟨b⟩ l ⟨b ++ l.flatMap Ur⟩ := by
  unfold Zn Vd
  refine ZW (I := fun k s => ∃ j : Nat, s.1 = (j : Int) ∧ j ≤ l.length ∧ k = l.length - j ∧ s.2 = b ++ (l.take j).flatMap Ur ∧ s.2.length ≤ b.length + 65545 * j) ?_ (k := l.length) ⟨0, rfl, by omega, by omega, by simp, by simp⟩
  rintro k ⟨i, c⟩ ⟨j, hj, hj1, hk, hc, hlen⟩ X hX
  simp only at hj hc hlen ⊢
  subst hj
  refine ⟨fun h => ?_, fun h => ?_⟩
  · have hj2 : j < l.length := by simp at h; omega
    obtain ⟨x, hx, hg⟩ := K1 (l := l) (n := (j : Int)) (by omega) (by omega)
    have hL := Jo x
    refine ⟨x, hx, _, DI x, by simp only; omega, ?_⟩
    rw [Zq (by omega)]
    refine hX (l.length - (j + 1)) _ (by omega) ⟨j + 1, by simp, by omega, rfl, ?_, by simp; omega⟩
    have e : l.take (j + 1) = l.take j ++ [x] := by rw [List.take_add_one]; simp at hg; simp [hg]
    rw [e, hc]; simp
  · have hj2 : j = l.length := by simp at h; omega
    subst hj2
    rw [hc, List.take_length]
end Go.Proofs.YthlaenafkihjiaaGreat
namespace Go.Proofs.YthlaenafkihjiaaGreat
open Go.RowKit Go.ChangeShapes Go.WideShapes
theorem OS (hd : Int) (bd s rest : List Int) (hb : bd.length ≤ 1048576) (hs : s.length = 4) :
    P8 (hd :: (XM bd.length ++ (bd ++ (s ++ rest)))) =
      if D3 s ≠ Gs (Jk hd bd) then (0, [], 0, 4) else (hd, bd, ((Jk hd bd).length : Int) + 4, 0) := by
  unfold P8
  rw [if_neg (by simp), List.tail_cons, Gt _ (by omega) (by omega)]
  have e0 : (hd :: (XM bd.length ++ (bd ++ (s ++ rest)))) = Jk hd bd ++ (s ++ rest) := by simp [Jk]
  have hl := WQ hd bd
  have hT : (Jk hd bd ++ (s ++ rest)).take (1 + (XM bd.length).length + bd.length) = Jk hd bd := by
    rw [← hl, List.take_left]
  have hD : (Jk hd bd ++ (s ++ rest)).drop (1 + (XM bd.length).length + bd.length) = s ++ rest := by
    rw [← hl, List.drop_left]
  have hS : (s ++ rest).take 4 = s := by rw [← hs, List.take_left]
  have hB : ((Jk hd bd ++ (s ++ rest)).drop (1 + (XM bd.length).length)).take bd.length = bd := by
    have : Jk hd bd ++ (s ++ rest) = (hd :: XM bd.length) ++ (bd ++ (s ++ rest)) := by simp [Jk]
    rw [this, show 1 + (XM bd.length).length = (hd :: XM bd.length).length from by simp; omega, List.drop_left, List.take_left]
  have hG : gI (Jk hd bd ++ (s ++ rest)) 0 = hd := rfl
  rw [e0]
  unfold LB
  simp only [Int.toNat_natCast]
  rw [if_neg (by simp), if_neg (by omega), if_neg (by simp only [List.length_append, hl, hs]; omega), hT, hD, hS, hB, hG, hl]
  congr 3
theorem NO (hd : Int) (bd rest : List Int) (hb : bd.length ≤ 1048576) : P8 (Ve hd bd ++ rest) = (hd, bd, ((Ve hd bd).length : Int), 0) := by
  have hX := Es (Jk hd bd)
  have hf : Ve hd bd = Jk hd bd ++ WJ 4 (Gs (Jk hd bd)) := by unfold Ve; rw [if_neg (by omega)]
  have hx : D3 (WJ 4 (Gs (Jk hd bd))) = Gs (Jk hd bd) := Io 4 _ hX.1 (by simpa using hX.2)
  have := OS hd bd (WJ 4 (Gs (Jk hd bd))) rest hb (Zz 4 _)
  rw [if_neg (by rw [hx]; simp)] at this
  rw [hf, List.length_append, Zz]
  have e : Jk hd bd ++ WJ 4 (Gs (Jk hd bd)) ++ rest = hd :: (XM bd.length ++ (bd ++ (WJ 4 (Gs (Jk hd bd)) ++ rest))) := by simp [Jk]
  rw [e, this]
  simp
def D4 (l : List Int) : Prop := l.length ≤ 140737488355328 ∧ ∀ c ∈ l, (Lit.int .u8 c).wf = true
theorem D4.drop {l : List Int} (h : D4 l) (n : Nat) : D4 (l.drop n) := ⟨by have := h.1; rw [List.length_drop]; omega, fun c hc => h.2 c (List.mem_of_mem_drop hc)⟩
theorem D4.take {l : List Int} (h : D4 l) (n : Nat) : D4 (l.take n) := ⟨by have := h.1; rw [List.length_take]; omega, fun c hc => h.2 c (List.mem_of_mem_take hc)⟩
theorem D4.b {l : List Int} (h : D4 l) : ∀ c ∈ l, 0 ≤ c ∧ c ≤ 255 := fun c hc => bounds_u8 (h.2 c hc)
theorem D4.of {l : List Int} (hl : l.length ≤ 140737488355328) (h : ∀ c ∈ l, 0 ≤ c ∧ c ≤ 255) : D4 l := ⟨hl, fun c hc => wf_u8 (h c hc).1 (h c hc).2⟩
theorem OT {l : List Int} {j : Nat} (h : j < l.length) : ix l (j : Int) (gI l j) := ⟨by omega, by simp [gI, h]⟩
theorem ishl8 (X : Int) : Vh .u64 X 8 = IntKind.u64.wrap (X * 256) := rfl
theorem RD (X : Int) : Vh .u32 X 8 = IntKind.u32.wrap (X * 256) := rfl
theorem RE {X c : Int} (h0 : 0 ≤ X) (h1 : X < 72057594037927936) (c0 : 0 ≤ c) (c1 : c ≤ 255) : NE .u64 (Vh .u64 X 8) (IntKind.u64.wrap c) = X * 256 + c := by
  rw [ishl8, UV (by omega), UV (by omega)]
  exact ON h0 h1 c0 c1
theorem PE {X c : Int} (h0 : 0 ≤ X) (h1 : X < 16777216) (c0 : 0 ≤ c) (c1 : c ≤ 255) : NE .u32 (Vh .u32 X 8) (IntKind.u32.wrap c) = X * 256 + c := by
  rw [RD, Ip (by omega), Ip (by omega)]
  exact Mu h0 h1 c0 c1
theorem Nh {q : List Int} (h8 : q.length ≤ 8) (hw : ∀ c ∈ q, (Lit.int .u8 c).wf = true) {J : Int × Int → Prop} (hJ : ∀ i, J (D3 q, i)) :
    lp (fun (X : Int × Int → Prop) (s : Int × Int) => (((decide ((s.2) < ((q.length : Int)))) = true → ∃ (v : Int), ix q (s.2) v ∧ X ((NE .u64 (Vh .u64 (s.1) (8)) (IntKind.u64.wrap (v))), (IntKind.i64.wrap ((s.2) + (1))))) ∧ ((decide ((s.2) < ((q.length : Int)))) = false → J s))) ((0), (0)) := by
  refine ZW (I := fun k s => ∃ j : Nat, s.2 = (j : Int) ∧ j ≤ q.length ∧ k = q.length - j ∧ s.1 = D3 (q.take j)) ?_ (k := q.length) ⟨0, rfl, by omega, by omega, rfl⟩
  rintro k ⟨x, i⟩ ⟨j, hj, hj1, hk, hx⟩ X hX
  simp only at hj hx ⊢
  subst hj; subst hx
  refine ⟨fun h => ?_, fun h => ?_⟩
  · have hj2 : j < q.length := by simp at h; omega
    obtain ⟨c, hc, hg⟩ := K1 (l := q) (n := (j : Int)) (by omega) (by omega)
    have hcw := bounds_u8 (hw c (List.mem_of_getElem? hg))
    have hb := OO q hw j (by omega)
    refine ⟨c, hc, ?_⟩
    rw [Zq (by omega), RE hb.1 hb.2 hcw.1 hcw.2]
    refine hX (q.length - (j+1)) _ (by omega) ⟨j+1, by simp, by omega, rfl, ?_⟩
    have e : q.take (j+1) = q.take j ++ [c] := by rw [List.take_add_one]; simp at hg; simp [hg]
    simp only
    rw [e, Gq]
  · have hj2 : j = q.length := by simp at h; omega
    rw [List.take_of_length_le (by omega)]
    exact hJ _
theorem OU {q : List Int} (h8 : q.length ≤ 4) (hw : ∀ c ∈ q, (Lit.int .u8 c).wf = true) {J : Int × Int → Prop} (hJ : ∀ i, J (D3 q, i)) :
    lp (fun (X : Int × Int → Prop) (s : Int × Int) => (((decide ((s.2) < ((q.length : Int)))) = true → ∃ (v : Int), ix q (s.2) v ∧ X ((NE .u32 (Vh .u32 (s.1) (8)) (IntKind.u32.wrap (v))), (IntKind.i64.wrap ((s.2) + (1))))) ∧ ((decide ((s.2) < ((q.length : Int)))) = false → J s))) ((0), (0)) := by
  refine ZW (I := fun k s => ∃ j : Nat, s.2 = (j : Int) ∧ j ≤ q.length ∧ k = q.length - j ∧ s.1 = D3 (q.take j)) ?_ (k := q.length) ⟨0, rfl, by omega, by omega, rfl⟩
  rintro k ⟨x, i⟩ ⟨j, hj, hj1, hk, hx⟩ X hX
  simp only at hj hx ⊢
  subst hj; subst hx
  refine ⟨fun h => ?_, fun h => ?_⟩
  · have hj2 : j < q.length := by simp at h; omega
    obtain ⟨c, hc, hg⟩ := K1 (l := q) (n := (j : Int)) (by omega) (by omega)
    have hcw := bounds_u8 (hw c (List.mem_of_getElem? hg))
    have hb := NN q hw j (by omega)
    refine ⟨c, hc, ?_⟩
    rw [Zq (by omega), PE hb.1 hb.2 hcw.1 hcw.2]
    refine hX (q.length - (j+1)) _ (by omega) ⟨j+1, by simp, by omega, rfl, ?_⟩
    have e : q.take (j+1) = q.take j ++ [c] := by rw [List.take_add_one]; simp at hg; simp [hg]
    simp only
    rw [e, Gq]
  · have hj2 : j = q.length := by simp at h; omega
    rw [List.take_of_length_le (by omega)]
    exact hJ _
theorem W3 (l : List Int) (B : D4 l) : KE l (Uj l) := by
  obtain ⟨hl, hw⟩ := B
  unfold KE YX
  simp only [jn, JQ]
  refine ⟨fun h => ?_, fun h => ?_⟩
  · have : l = [] := by simpa using h
    subst this; rfl
  have h0 : l ≠ [] := by intro e; subst e; simp at h
  have hp : 0 < l.length := List.length_pos_iff.2 h0
  have g0 := PW hw 0
  have i0 : ix l 0 (gI l 0) := OT (j := 0) hp
  refine ⟨_, i0, fun h => ?_, fun h => ?_⟩
  · have h1 : gI l 0 < 248 := by simpa using h
    refine ⟨_, i0, ?_⟩
    unfold Uj; rw [if_neg h0, if_pos h1, Zq (by omega)]
  have h1 : ¬ gI l 0 < 248 := by simpa using h
  refine ⟨_, i0, ?_⟩
  have e1 : IntKind.i64.wrap (1 + IntKind.i64.wrap (IntKind.i64.wrap (IntKind.i64.wrap (gI l 0) - 248) + 1)) = gI l 0 - 246 := by
    rw [Zq (n := gI l 0) (by omega), Zq (n := gI l 0 - 248) (by omega), Zq (n := gI l 0 - 248 + 1) (by omega), Zq (by omega)]; omega
  rw [e1]
  refine ⟨fun h => ?_, fun h => ?_⟩
  · have h2 : (l.length : Int) ≤ gI l 0 - 247 := by simp at h; omega
    unfold Uj; rw [if_neg h0, if_neg h1, if_pos h2]
  have h2 : ¬ (l.length : Int) ≤ gI l 0 - 247 := by simp at h; omega
  refine ⟨by omega, ?_⟩
  obtain ⟨m, hm⟩ : ∃ m : Nat, gI l 0 - 247 = (m : Int) := ⟨(gI l 0 - 247).toNat, by omega⟩
  have e2 : List.drop (Int.toNat 1) (List.take (Int.toNat (gI l 0 - 246)) l) = l.tail.take m := by
    have e3 : (gI l 0 - 246).toNat = m + 1 := by omega
    rw [e3]
    cases l with
    | nil => exact absurd rfl h0
    | cons c r => rfl
  rw [e2]
  have lm : (l.tail.take m).length = m := by simp; omega
  have wm : ∀ c ∈ l.tail.take m, (Lit.int .u8 c).wf = true := fun c hc => hw c (List.mem_of_mem_tail (List.mem_of_mem_take hc))
  have hd : Uj l = if gI l 1 = 0 ∨ D3 (l.tail.take m) < 248 ∨ D3 (l.tail.take m) > 4611686018427387904 then (0,0,2) else (D3 (l.tail.take m), gI l 0 - 246, 0) := by
    unfold Uj; rw [if_neg h0, if_neg h1, if_neg h2, hm]; rfl
  have hx0 := (Il _ wm).1
  refine Nh ?_ wm (fun i => ?_)
  · omega
  simp only
  refine ⟨gI l 1, OT (j := 1) (by omega), fun h => ?_, fun h => ?_⟩
  · rw [hd, if_pos (by simpa [or_assoc] using h)]
  · have h3 : ¬ (gI l 1 = 0 ∨ D3 (l.tail.take m) < 248 ∨ D3 (l.tail.take m) > 4611686018427387904) := by
      intro c; simp only [Bool.or_eq_false_iff, decide_eq_false_iff_not, beq_eq_false_iff_ne] at h; omega
    rw [hd, if_neg h3, Zq (by omega)]
theorem DJ (l : List Int) (B : D4 l) : V9 l (Fa l) := by
  obtain ⟨hl, hw⟩ := B
  unfold V9 W0
  simp only [jn]
  refine ⟨fun h => ?_, fun h => ?_⟩
  · have h' : l.length < 8 := by simp at h; omega
    unfold Fa; rw [if_pos h']
  have h' : ¬ l.length < 8 := by simp at h; omega
  refine ⟨by omega, ?_⟩
  have e : List.take (Int.toNat 8) l = l.take 8 := rfl
  rw [e]
  refine Nh ?_ (fun c hc => hw c (List.mem_of_mem_take hc)) (fun i => ?_)
  · simp; omega
  unfold Fa; rw [if_neg h']
theorem DK (l : List Int) (B : D4 l) : V8 l (Fb l) := by
  obtain ⟨hl, hw⟩ := B
  unfold V8 YZ
  obtain ⟨n, k, e, hd⟩ : ∃ n k e, Uj l = (n, k, e) := ⟨_, _, _, rfl⟩
  have ht : Fb l = EQ l (n, k, e) := by unfold Fb; rw [hd]
  refine ⟨Uj l, W3 l ⟨hl, hw⟩, ?_⟩
  rw [hd, ht]
  simp only
  refine ⟨fun h => ?_, fun h => ?_⟩
  · have he : e ≠ 0 := by simpa using h
    unfold EQ; rw [if_pos he]
  have he : e = 0 := by simpa using h
  subst he
  have hk := Fx hw hd
  refine ⟨fun h => ?_, fun h => ?_⟩
  · have h1 : n > 65536 := by simpa using h
    unfold EQ; rw [if_neg (by simp), if_pos h1]
  have h1 : ¬ n > 65536 := by simpa using h
  have e1 : IntKind.i64.wrap ((l.length : Int) - k) = (l.length : Int) - k := Zq (by omega)
  have e2 : IntKind.i64.wrap (k + n) = k + n := Zq (by omega)
  rw [e1, e2]
  refine ⟨fun h => ?_, fun h => ?_⟩
  · have h2 : (l.length : Int) - k < n := by simpa using h
    unfold EQ; rw [if_neg (by simp), if_neg h1, if_pos h2]
  have h2 : ¬ (l.length : Int) - k < n := by simpa using h
  refine ⟨by omega, ?_⟩
  unfold EQ; rw [if_neg (by simp), if_neg h1, if_neg h2]
  have e3 : (k + n).toNat = k.toNat + n.toNat := by omega
  have e4 : List.drop k.toNat (List.take (k.toNat + n.toNat) l) = List.take n.toNat (List.drop k.toNat l) := by
    rw [List.drop_take]; congr 1; omega
  rw [e3, e4]
theorem BA (l : List Int) (B : D4 l) : XK l (P8 l) := by
  have B' := B
  obtain ⟨hl, hw⟩ := B
  unfold XK Uc
  simp only [jn]
  refine ⟨fun h => ?_, fun h => ?_⟩
  · have : l = [] := by simpa using h
    subst this; rfl
  have h0 : l ≠ [] := by intro e; subst e; simp at h
  have hp : 0 < l.length := List.length_pos_iff.2 h0
  have et : List.drop (Int.toNat 1) l = l.tail := by cases l <;> rfl
  rw [et]
  have Bt : D4 l.tail := by rw [← et]; exact B'.drop _
  obtain ⟨n, k, e, hd⟩ : ∃ n k e, Uj l.tail = (n, k, e) := ⟨_, _, _, rfl⟩
  have hu : P8 l = LB l (n, k, e) := by unfold P8; rw [if_neg h0, hd]
  refine ⟨by omega, Uj l.tail, W3 _ Bt, ?_⟩
  rw [hd, hu]
  simp only
  refine ⟨fun h => ?_, fun h => ?_⟩
  · have he : e ≠ 0 := by simpa using h
    unfold LB; rw [if_pos he]
  have he : e = 0 := by simpa using h
  subst he
  have hk := Fx Bt.2 hd
  have lt : l.tail.length = l.length - 1 := by simp
  refine ⟨fun h => ?_, fun h => ?_⟩
  · have h1 : n > 1048576 := by simpa using h
    unfold LB; rw [if_neg (by simp), if_pos h1]
  have h1 : ¬ n > 1048576 := by simpa using h
  have e1 : IntKind.i64.wrap (1 + k) = 1 + k := Zq (by omega)
  have e2 : IntKind.i64.wrap (1 + k + n) = 1 + k + n := Zq (by omega)
  have e3 : IntKind.i64.wrap (1 + k + n + 4) = 1 + k + n + 4 := Zq (by omega)
  rw [e1, e2, e3]
  refine ⟨fun h => ?_, fun h => ?_⟩
  · have h2 : (l.length : Int) < 1 + k + n + 4 := by simpa using h
    unfold LB; rw [if_neg (by simp), if_neg h1, if_pos h2]
  have h2 : ¬ (l.length : Int) < 1 + k + n + 4 := by simpa using h
  refine ⟨by omega, ?_⟩
  obtain ⟨K, hK⟩ : ∃ K : Nat, k = (K : Int) := ⟨k.toNat, by omega⟩
  obtain ⟨M, hM⟩ : ∃ M : Nat, n = (M : Int) := ⟨n.toNat, by omega⟩
  subst hK; subst hM
  have a1 : Int.toNat (1 + (K : Int) + (M : Int)) = 1 + K + M := by omega
  have a2 : Int.toNat (1 + (K : Int) + (M : Int) + 4) = 1 + K + M + 4 := by omega
  have a3 : Int.toNat (1 + (K : Int)) = 1 + K := by omega
  rw [a1, a2, a3]
  have d1 : List.drop (1 + K + M) (List.take (1 + K + M + 4) l) = List.take 4 (List.drop (1 + K + M) l) := by
    rw [List.drop_take]; congr 1; omega
  have d2 : List.drop (1 + K) (List.take (1 + K + M) l) = List.take M (List.drop (1 + K) l) := by
    rw [List.drop_take]; congr 1; omega
  rw [d1, d2]
  refine OU ?_ (fun c hc => hw c (List.mem_of_mem_drop (List.mem_of_mem_take hc))) (fun i => ?_)
  · simp; omega
  simp only
  refine ⟨by omega, Gs (l.take (1 + K + M)), AB _ ?_ ?_, fun h => ?_, fun h => ?_⟩
  · simp; omega
  · exact (B'.take _).b
  · have h3 : D3 (List.take 4 (List.drop (1 + K + M) l)) ≠ Gs (List.take (1 + K + M) l) := by simpa using h
    unfold LB; simp only [Int.toNat_natCast]; rw [if_neg (by simp), if_neg h1, if_neg h2, if_pos h3]
  · have h3 : ¬ D3 (List.take 4 (List.drop (1 + K + M) l)) ≠ Gs (List.take (1 + K + M) l) := by simpa using h
    refine ⟨gI l 0, OT (j := 0) hp, by omega, ?_, ?_⟩
    · simp; omega
    · unfold LB; simp only [Int.toNat_natCast]; rw [if_neg (by simp), if_neg h1, if_neg h2, if_neg h3]; simp
def Y1 (n lo hi : Int) : Int := if lo ≤ n ∧ n ≤ hi then 0 else 5
def AR (n m : Int) : Int := if n > m then 11 else 0
def Zf (x : Qt) (f : Nat) : Int :=
  match f with
  | 0 => Bv x.fa9
  | 1 => Bv x.fa4
  | 2 => Hu x.fw
  | 3 => WA x.fa.fc x.fa.fi x.fa.fo x.fa.fq
  | 4 => Hv x.fj
  | 5 => AR x.fa1.length 64
  | 6 => Y1 x.fy 1 1048576
  | 7 => Y1 x.f8 1 1048576
  | 8 => Y1 x.f9 0 3
  | 9 => Y1 x.fa3 0 15
  | 10 => Y1 x.fa0 0 3
  | 11 => Y1 x.fk 0 32
  | 12 => UG x.fg.fc x.fg.f3 x.fg.fk x.fg.fa8 x.fg.fa7
  | _ => AR x.fa5.length 65536
theorem KI (n lo hi : Int) : Zo n lo hi (Y1 n lo hi) := Y6.2 rfl
theorem Us (l : List Int) (m : Int) : Ji l m (AR l.length m) := by
  unfold Ji YO AR
  by_cases h : (l.length : Int) > m <;> simp [h]
theorem DL (x : Qt) {f : Nat} (hf : f < 14) : V4 x (f : Int) (Zf x f) := by
  unfold V4 YP
  rcases YQ hf with rfl | rfl | rfl | rfl | rfl | rfl | rfl | rfl | rfl | rfl | rfl | rfl | rfl | rfl
  · simp; exact Wj x.fa9
  · simp; exact Wj x.fa4
  · simp; exact Ep x.fw
  · simp; exact UU x.fa
  · simp; exact DD x.fj
  · simp; exact Us x.fa1 64
  · simp; exact KI x.fy 1 1048576
  · simp; exact KI x.f8 1 1048576
  · simp; exact KI x.f9 0 3
  · simp; exact KI x.fa3 0 15
  · simp; exact KI x.fa0 0 3
  · simp; exact KI x.fk 0 32
  · simp; exact Eo x.fg
  · simp; exact Us x.fa5 65536
theorem Ni {α : Type} {f : α → Int} (h : ∀ x, 0 ≤ f x ∧ f x ≤ 18) (l : List α) : 0 ≤ AQ f l ∧ AQ f l ≤ 18 := by
  induction l with
  | nil => simp [AQ]
  | cons a r ih => (unfold AQ; split; exact h a; exact ih)
theorem PF (x : Qt) (f : Nat) : 0 ≤ Zf x f ∧ Zf x f ≤ 18 := by
  have hn : ∀ s, 0 ≤ Bv s ∧ Bv s ≤ 18 := by intro s; unfold Bv; split <;> decide
  have hi : ∀ s, 0 ≤ Fv s ∧ Fv s ≤ 18 := by
      intro s; unfold Fv; repeat' split
      all_goals decide
  have hs : ∀ n m, 0 ≤ AR n m ∧ AR n m ≤ 18 := by intro n m; unfold AR; split <;> decide
  have hr : ∀ n a b, 0 ≤ Y1 n a b ∧ Y1 n a b ≤ 18 := by intro n a b; unfold Y1; split <;> decide
  have hl := Ni hn
  have hl2 := Ni hi
  unfold Zf
  split
  · exact hn _
  · exact hn _
  · unfold Hu; (split; decide; exact hl _)
  · unfold WA; repeat' split
    all_goals decide
  · unfold Hv; (split; decide; exact hl2 _)
  · exact hs _ _
  · exact hr _ _ _
  · exact hr _ _ _
  · exact hr _ _ _
  · exact hr _ _ _
  · exact hr _ _ _
  · exact hr _ _ _
  · unfold UG; repeat' split
    all_goals decide
  · exact hs _ _
theorem RF {L : List Int} (h : ∀ e ∈ L, 0 ≤ e ∧ e ≤ 18) : 0 ≤ Uq L ∧ Uq L ≤ 18 := by
  induction L with
  | nil => simp [Uq]
  | cons a r ih => (unfold Uq; split; exact h a (by simp); exact ih fun e he => h e (by simp [he]))
def KJ (x : Qt) : Int := El (W4 x) (Zf x)
theorem PG (x : Qt) : 0 ≤ KJ x ∧ KJ x ≤ 18 := by
  have h : 0 ≤ Uq (Ui (W4 x).kind (Zf x)) ∧ Uq (Ui (W4 x).kind (Zf x)) ≤ 18 := by
    refine RF fun e he => ?_
    unfold Ui at he
    obtain ⟨f, _, rfl⟩ := List.mem_map.1 he
    (split; exact PF _ _; decide)
  unfold KJ El
  split
  · decide
  · split
    · exact h
    · split <;> decide
theorem WB (x : Qt) : V5 x (KJ x) := by
  refine ⟨?_, Zf x, fun f hf _ => DL x hf, rfl⟩
  have h := PG x
  simp [Lit.wf, IntKind.min, IntKind.max, IntKind.signed, IntKind.bits]; omega
theorem NP {k : Int} (hk : K9 k) : [ZS k 0, ZS k 1, ZS k 2, ZS k 3, ZS k 4, ZS k 5, ZS k 6, ZS k 7, ZS k 8, ZS k 9, ZS k 10, ZS k 11, ZS k 12, ZS k 13] = [(Am k).fe0, (Am k).fe1, (Am k).fe2, (Am k).fe3, (Am k).fe4, (Am k).fe5, (Am k).fe6, (Am k).fe6, (Am k).fe7, (Am k).fe8, (Am k).fe9, (Am k).fe10, (Am k).fe11, (Am k).fe12] := by
  rcases Gg hk with rfl | rfl | rfl | rfl | rfl | rfl | rfl | rfl | rfl | rfl | rfl | rfl | rfl | rfl | rfl | rfl | rfl <;> decide
theorem LE {x : Qt} (h : ¬ K9 x.fc) : KJ x = 8 := by unfold KJ El; rw [if_pos (by simpa [W4] using h)]
theorem OV {x : Qt} (hk : K9 x.fc) {b0 b1 b2 b3 b4 b5 b6 b7 b8 b9 b10 b11 b12 : Bool} (hu : Am x.fc = Kx.mk b0 b1 b2 b3 b4 b5 b6 b7 b8 b9 b10 b11 b12) :
    KJ x = if Uq [if b0 = true then Zf x 0 else 0, if b1 = true then Zf x 1 else 0, if b2 = true then Zf x 2 else 0, if b3 = true then Zf x 3 else 0, if b4 = true then Zf x 4 else 0, if b5 = true then Zf x 5 else 0, if b6 = true then Zf x 6 else 0, if b6 = true then Zf x 7 else 0, if b7 = true then Zf x 8 else 0, if b8 = true then Zf x 9 else 0, if b9 = true then Zf x 10 else 0, if b10 = true then Zf x 11 else 0, if b11 = true then Zf x 12 else 0, if b12 = true then Zf x 13 else 0] ≠ 0 then Uq [if b0 = true then Zf x 0 else 0, if b1 = true then Zf x 1 else 0, if b2 = true then Zf x 2 else 0, if b3 = true then Zf x 3 else 0, if b4 = true then Zf x 4 else 0, if b5 = true then Zf x 5 else 0, if b6 = true then Zf x 6 else 0, if b6 = true then Zf x 7 else 0, if b7 = true then Zf x 8 else 0, if b8 = true then Zf x 9 else 0, if b9 = true then Zf x 10 else 0, if b10 = true then Zf x 11 else 0, if b11 = true then Zf x 12 else 0, if b12 = true then Zf x 13 else 0]
      else if ((b0 || x.fa9.toList == []) && (b1 || x.fa4.toList == []) && (b2 || decide (x.fw.length = 0)) && (b3 || decide (x.fa.fc = 0 ∧ x.fa.fi = 0 ∧ x.fa.fo = 0 ∧ x.fa.fq = 0)) && (b4 || decide (x.fj.length = 0)) && (b5 || decide (x.fa1.length = 0)) && (b6 || decide (x.fy = 0)) && (b6 || decide (x.f8 = 0)) && (b7 || decide (x.f9 = 0)) && (b8 || decide (x.fa3 = 0)) && (b9 || decide (x.fa0 = 0)) && (b10 || decide (x.fk = 0)) && (b11 || decide (x.fg.fc = 0 ∧ x.fg.f3.toList = [] ∧ x.fg.fk = 0 ∧ x.fg.fa8 = 0 ∧ x.fg.fa7 = 0)) && (b12 || decide (x.fa5.length = 0))) = true then 0 else 18 := by
  have h := NP hk
  rw [hu] at h
  simp only [List.cons.injEq, and_true] at h
  obtain ⟨m0, m1, m2, m3, m4, m5, m6, m7, m8, m9, m10, m11, m12, m13⟩ := h
  have r14 : List.range 14 = [0, 1, 2, 3, 4, 5, 6, 7, 8, 9, 10, 11, 12, 13] := by decide
  have e : Ui x.fc (Zf x) = [if b0 = true then Zf x 0 else 0, if b1 = true then Zf x 1 else 0, if b2 = true then Zf x 2 else 0, if b3 = true then Zf x 3 else 0, if b4 = true then Zf x 4 else 0, if b5 = true then Zf x 5 else 0, if b6 = true then Zf x 6 else 0, if b6 = true then Zf x 7 else 0, if b7 = true then Zf x 8 else 0, if b8 = true then Zf x 9 else 0, if b9 = true then Zf x 10 else 0, if b10 = true then Zf x 11 else 0, if b11 = true then Zf x 12 else 0, if b12 = true then Zf x 13 else 0] := by
    unfold Ui; rw [r14]
    simp only [List.map_cons, List.map_nil, m0, m1, m2, m3, m4, m5, m6, m7, m8, m9, m10, m11, m12, m13]
  have z : ((List.range 14).all fun f => ZS x.fc f || Ah (W4 x) f) = ((b0 || x.fa9.toList == []) && (b1 || x.fa4.toList == []) && (b2 || decide (x.fw.length = 0)) && (b3 || decide (x.fa.fc = 0 ∧ x.fa.fi = 0 ∧ x.fa.fo = 0 ∧ x.fa.fq = 0)) && (b4 || decide (x.fj.length = 0)) && (b5 || decide (x.fa1.length = 0)) && (b6 || decide (x.fy = 0)) && (b6 || decide (x.f8 = 0)) && (b7 || decide (x.f9 = 0)) && (b8 || decide (x.fa3 = 0)) && (b9 || decide (x.fa0 = 0)) && (b10 || decide (x.fk = 0)) && (b11 || decide (x.fg.fc = 0 ∧ x.fg.f3.toList = [] ∧ x.fg.fk = 0 ∧ x.fg.fa8 = 0 ∧ x.fg.fa7 = 0)) && (b12 || decide (x.fa5.length = 0))) := by
    rw [r14]
    simp only [List.all_cons, List.all_nil, Bool.and_true, m0, m1, m2, m3, m4, m5, m6, m7, m8, m9, m10, m11, m12, m13, Bool.and_assoc]
    simp only [Ah, W4, List.length_map]
    rfl
  unfold KJ El
  rw [if_neg (by simpa [W4] using hk)]
  change (if Uq (Ui x.fc (Zf x)) ≠ 0 then Uq (Ui x.fc (Zf x)) else if (List.range 14).all (fun f => ZS x.fc f || Ah (W4 x) f) = true then 0 else 18) = _
  rw [e, z]
theorem OW (L : List Int) (t : Int) : Uq (L ++ [t]) = if Uq L ≠ 0 then Uq L else t := by
  induction L with
  | nil => by_cases h : t = 0 <;> simp [Uq, h]
  | cons a r ih =>
    by_cases h : a ≠ 0
    · simp [Uq, h]
    · have h0 : a = 0 := by simpa using h
      simp only [List.cons_append, Uq, h0, ne_eq, not_true, if_false]; exact ih
theorem Yf {V a : Int} {r : List Int} (h : V = Uq (a :: r)) (h0 : a = 0) : V = Uq r := by rw [h, Uq, if_neg (by simp [h0])]
theorem LF {V a : Int} {r : List Int} (h : V = Uq (a :: r)) (h0 : a ≠ 0) : V = a := by rw [h, Uq, if_pos h0]
theorem UI {V a b : Int} {r : List Int} (h : V = Uq (a :: r)) (h0 : a = b) (hb : b ≠ 0) : V = b := by rw [LF h (by rw [h0]; exact hb), h0]
def bz (b : Bool) (c : Int) : Int := if b = true then c else 0
theorem H4 {b : Bool} {c : Int} (h : b = true) : bz b c = c := by rw [bz, if_pos h]
theorem PH {b : Bool} {c : Int} (h : b = false) : bz b c = 0 := by rw [bz, if_neg (by simp [h])]
theorem OX {b w : Bool} {c : Int} (h : ¬ bz b (if w = true then 0 else c) = 0) : bz b (if w = true then 0 else c) = c := by cases b <;> cases w <;> simp_all [bz]
theorem R0 {b0 b1 n0 n1 : Bool} {c : Int} (hc : c ≠ 0) (h : (b0 && !n0 || b1 && !n1) = true) (h0 : bz b0 (if n0 = true then 0 else c) = 0) : bz b1 (if n1 = true then 0 else c) = c := by
  cases b0 <;> cases b1 <;> cases n0 <;> cases n1 <;> simp_all [bz]
theorem R1 {b w : Bool} {c : Int} (h : (b && !w) = false) : bz b (if w = true then 0 else c) = 0 := by cases b <;> cases w <;> simp_all [bz]
theorem d_or4 {b0 b1 b2 b3 n0 n1 n2 n3 : Bool} {c : Int} (hc : c ≠ 0) (h : (b0 && !n0 || b1 && !n1 || b2 && !n2 || b3 && !n3) = true) (h0 : bz b0 (if n0 = true then 0 else c) = 0) (h1 : bz b1 (if n1 = true then 0 else c) = 0) (h2 : bz b2 (if n2 = true then 0 else c) = 0) : bz b3 (if n3 = true then 0 else c) = c := by
  cases b0 <;> cases n0 <;> cases b1 <;> cases n1 <;> cases b2 <;> cases n2 <;> simp_all [bz]
def OY (x : Qt) (u : Kx) : Int := if ((u.fe0 || x.fa9.toList == []) && (u.fe1 || x.fa4.toList == []) && (u.fe2 || decide (x.fw.length = 0)) && (u.fe3 || decide (x.fa.fc = 0 ∧ x.fa.fi = 0 ∧ x.fa.fo = 0 ∧ x.fa.fq = 0)) && (u.fe4 || decide (x.fj.length = 0)) && (u.fe5 || decide (x.fa1.length = 0)) && (u.fe6 || decide (x.fy = 0)) && (u.fe6 || decide (x.f8 = 0)) && (u.fe7 || decide (x.f9 = 0)) && (u.fe8 || decide (x.fa3 = 0)) && (u.fe9 || decide (x.fa0 = 0)) && (u.fe10 || decide (x.fk = 0)) && (u.fe11 || decide (x.fg.fc = 0 ∧ x.fg.f3.toList = [] ∧ x.fg.fk = 0 ∧ x.fg.fa8 = 0 ∧ x.fg.fa7 = 0)) && (u.fe12 || decide (x.fa5.length = 0))) = true then 0 else 18
theorem PI {x : Qt} (hk : K9 x.fc) {b0 b1 b2 b3 b4 b5 b6 b7 b8 b9 b10 b11 b12 : Bool} (hu : Am x.fc = Kx.mk b0 b1 b2 b3 b4 b5 b6 b7 b8 b9 b10 b11 b12) :
    KJ x = Uq [bz b0 (Zf x 0), bz b1 (Zf x 1), bz b2 (Zf x 2), bz b3 (Zf x 3), bz b4 (Zf x 4), bz b5 (Zf x 5), bz b6 (Zf x 6), bz b6 (Zf x 7), bz b7 (Zf x 8), bz b8 (Zf x 9), bz b9 (Zf x 10), bz b10 (Zf x 11), bz b11 (Zf x 12), bz b12 (Zf x 13), OY x (Kx.mk b0 b1 b2 b3 b4 b5 b6 b7 b8 b9 b10 b11 b12)] :=
  (OV hk hu).trans (OW [bz b0 (Zf x 0), bz b1 (Zf x 1), bz b2 (Zf x 2), bz b3 (Zf x 3), bz b4 (Zf x 4), bz b5 (Zf x 5), bz b6 (Zf x 6), bz b6 (Zf x 7), bz b7 (Zf x 8), bz b8 (Zf x 9), bz b9 (Zf x 10), bz b10 (Zf x 11), bz b11 (Zf x 12), bz b12 (Zf x 13)] _).symm
theorem Eu (x : Qt) : Vy x (KJ x) := by
  unfold Vy Wi
  simp only [Uf, exists_eq_left, jn, Jj, JQ]
  by_cases hk : K9 x.fc
  case neg =>
    have hw : wI x.fc 1 17 = false := by simpa [wI, K9] using hk
    rw [hw]
    exact ⟨fun _ => LE hk, fun h => by simp at h⟩
  have hw : wI x.fc 1 17 = true := by simpa [wI, K9] using hk
  refine ⟨fun h => by simp [hw] at h, fun _ => ?_⟩
  refine ⟨Am x.fc, Ij _, Cd x.fa9, fun _ => UH _, Cd x.fa4, fun _ => UH _, ?_⟩
  rcases hU : Am x.fc with ⟨b0, b1, b2, b3, b4, b5, b6, b7, b8, b9, b10, b11, b12⟩
  have hv := PI hk hU
  generalize KJ x = V at hv ⊢
  simp only
  have l1 : Jv x b2 false (bz b2 (Zf x 2)) := by
    have := Ce x b2 false
    have e : Er x b2 false = bz b2 (Zf x 2) := by unfold Er bz; show _ = if b2 = true then Hu x.fw else 0; grind
    rwa [e] at this
  have l2 : Jv x false b4 (bz b4 (Zf x 4)) := by
    have := Ce x false b4
    have e : Er x false b4 = bz b4 (Zf x 4) := by unfold Er bz; show _ = if b4 = true then Hv x.fj else 0; grind
    rwa [e] at this
  have p3 := VX x.fa
  have p12 := AP x.fg
  change ZD x.fa (Zf x 3) at p3
  change Km x.fg (Zf x 12) at p12
  refine ⟨fun h => ?_, fun h => ?_⟩
  · by_cases h0 : bz b0 (Zf x 0) = 0
    · exact UI (Yf hv h0) (R0 (c := 6) (by decide) h h0) (by decide)
    · exact UI hv (OX (c := 6) h0) (by decide)
  have hh := Bool.or_eq_false_iff.1 h
  have z0 : bz b0 (Zf x 0) = 0 := R1 (c := 6) hh.1
  have z1 : bz b1 (Zf x 1) = 0 := R1 (c := 6) hh.2
  replace hv := Yf (Yf hv z0) z1
  clear h hh z0 z1
  refine ⟨_, l1, fun h => LF hv (by simpa using h), fun h => ?_⟩
  replace hv := Yf hv (by simpa using h)
  clear h l1
  suffices rest : V = Uq [bz b4 (Zf x 4), bz b5 (Zf x 5), bz b6 (Zf x 6), bz b6 (Zf x 7), bz b7 (Zf x 8), bz b8 (Zf x 9), bz b9 (Zf x 10), bz b10 (Zf x 11), bz b11 (Zf x 12), bz b12 (Zf x 13), OY x (Kx.mk b0 b1 b2 b3 b4 b5 b6 b7 b8 b9 b10 b11 b12)] → _ by
    refine ⟨fun hb => ⟨_, p3, fun h => ?_, fun h => rest (Yf hv ?_)⟩, fun hb => rest (Yf hv (PH hb))⟩
    · rw [LF hv (by rw [H4 hb]; simpa using h), H4 hb]
    · rw [H4 hb]; simpa using h
  clear hv p3
  intro hv
  refine ⟨_, l2, fun h => LF hv (by simpa using h), fun h => ?_⟩
  replace hv := Yf hv (by simpa using h)
  clear h l2
  have e5 : Zf x 5 = if (x.fa1.length : Int) > 64 then 11 else 0 := rfl
  refine ⟨fun h => ?_, fun h => ?_⟩
  · have h := Bool.and_eq_true_iff.1 h
    exact UI hv (by rw [H4 h.1, e5, if_pos (by simpa using h.2)]) (by decide)
  have z5 : bz b5 (Zf x 5) = 0 := by
    cases b5
    · exact PH rfl
    · rw [H4 rfl, e5, if_neg (by simpa using h)]
  replace hv := Yf hv z5
  clear h z5 e5
  have er : ∀ n lo hi, Y1 n lo hi = if wI n lo hi = true then 0 else 5 := by intro n lo hi; unfold Y1 wI; simp
  have e6 : Zf x 6 = if wI x.fy 1 1048576 = true then 0 else 5 := er _ _ _
  have e7 : Zf x 7 = if wI x.f8 1 1048576 = true then 0 else 5 := er _ _ _
  have e8 : Zf x 8 = if wI x.f9 0 3 = true then 0 else 5 := er _ _ _
  have e9 : Zf x 9 = if wI x.fa3 0 15 = true then 0 else 5 := er _ _ _
  have e10 : Zf x 10 = if wI x.fa0 0 3 = true then 0 else 5 := er _ _ _
  have e11 : Zf x 11 = if wI x.fk 0 32 = true then 0 else 5 := er _ _ _
  clear er
  rw [e6, e7, e8, e9, e10, e11] at hv
  clear e6 e7 e8 e9 e10 e11
  generalize wI x.fy 1 1048576 = w6 at *
  generalize wI x.f8 1 1048576 = w7 at *
  generalize wI x.f9 0 3 = w8 at *
  generalize wI x.fa3 0 15 = w9 at *
  generalize wI x.fa0 0 3 = w10 at *
  generalize wI x.fk 0 32 = w11 at *
  refine ⟨w6, fun _ => rfl, w7, fun _ => rfl, fun h => ?_, fun h => ?_⟩
  · have h' : (b6 && !w6 || b6 && !w7) = true := by rw [← Bool.and_or_distrib_left]; exact h
    by_cases h0 : bz b6 (if w6 = true then 0 else 5) = 0
    · exact UI (Yf hv h0) (R0 (by decide) h' h0) (by decide)
    · exact UI hv (OX h0) (by decide)
  have hh : (b6 && !w6) = false ∧ (b6 && !w7) = false := by rw [← Bool.or_eq_false_iff, ← Bool.and_or_distrib_left]; exact h
  replace hv := Yf (Yf hv (R1 hh.1)) (R1 hh.2)
  clear h hh
  refine ⟨w8, fun _ => rfl, w9, fun _ => rfl, w10, fun _ => rfl, w11, fun _ => rfl, fun h => ?_, fun h => ?_⟩
  · by_cases h0 : bz b7 (if w8 = true then 0 else 5) = 0
    · replace hv := Yf hv h0
      by_cases h1 : bz b8 (if w9 = true then 0 else 5) = 0
      · replace hv := Yf hv h1
        by_cases h2 : bz b9 (if w10 = true then 0 else 5) = 0
        · exact UI (Yf hv h2) (d_or4 (by decide) h h0 h1 h2) (by decide)
        · exact UI hv (OX h2) (by decide)
      · exact UI hv (OX h1) (by decide)
    · exact UI hv (OX h0) (by decide)
  have k1 := Bool.or_eq_false_iff.1 h
  have k2 := Bool.or_eq_false_iff.1 k1.1
  have k3 := Bool.or_eq_false_iff.1 k2.1
  replace hv := Yf (Yf (Yf (Yf hv (R1 k3.1)) (R1 k3.2)) (R1 k2.2)) (R1 k1.2)
  clear h k1 k2 k3
  suffices rest : V = Uq [bz b12 (Zf x 13), OY x (Kx.mk b0 b1 b2 b3 b4 b5 b6 b7 b8 b9 b10 b11 b12)] → _ by
    refine ⟨fun hb => ⟨_, p12, fun h => ?_, fun h => rest (Yf hv ?_)⟩, fun hb => rest (Yf hv (PH hb))⟩
    · rw [LF hv (by rw [H4 hb]; simpa using h), H4 hb]
    · rw [H4 hb]; simpa using h
  clear hv p12
  intro hv
  have e13 : Zf x 13 = if (x.fa5.length : Int) > 65536 then 11 else 0 := rfl
  refine ⟨fun h => ?_, fun h => ?_⟩
  · have h := Bool.and_eq_true_iff.1 h
    exact UI hv (by rw [H4 h.1, e13, if_pos (by simpa using h.2)]) (by decide)
  have z13 : bz b12 (Zf x 13) = 0 := by
    cases b12
    · exact PH rfl
    · rw [H4 rfl, e13, if_neg (by simpa using h)]
  replace hv := Yf hv z13
  clear h z13 e13
  have hv2 : V = OY x (Kx.mk b0 b1 b2 b3 b4 b5 b6 b7 b8 b9 b10 b11 b12) := by
    rw [hv]; unfold Uq; split <;> simp_all [Uq]
  subst hv2
  unfold OY
  simp only
  have n0 : (ByteArray.empty).toList = [] := Yq
  have lg : ∀ n : Nat, decide ((n : Int) > 0) = !decide (n = 0) := by
    intro n; by_cases h : n = 0
    · subst h; rfl
    · have : (n : Int) > 0 := by omega
      simp [h]; omega
  have ne : ∀ n : Int, (n != 0) = !decide (n = 0) := fun n => rfl
  have ee : ∀ n : Int, (n == 0) = decide (n = 0) := fun n => rfl
  have el : ∀ s : ByteArray, (s.toList == []) = decide (s.toList = []) := by intro s; by_cases h : s.toList = [] <;> simp [h]
  simp only [Yq, n0, lg, ne, ee, el, Bool.and_true, ← Bool.decide_and]
  have pp : decide (x.fy = 0) = decide (x.fy = 0) := rfl
  generalize decide (x.fy = 0) = a6
  generalize decide (x.f8 = 0) = a7
  generalize decide (x.fa9.toList = []) = a0
  generalize decide (x.fa4.toList = []) = a1
  generalize decide (x.fw.length = 0) = a2
  generalize decide (x.fj.length = 0) = a4
  generalize decide (x.fa1.length = 0) = a5
  generalize decide (x.f9 = 0) = a8
  generalize decide (x.fa3 = 0) = a9
  generalize decide (x.fa0 = 0) = a10
  generalize decide (x.fk = 0) = a11
  generalize decide (x.fa5.length = 0) = a13
  generalize decide (x.fa.fc = 0 ∧ x.fa.fi = 0 ∧ x.fa.fo = 0 ∧ x.fa.fq = 0) = a3
  generalize decide (x.fg.fc = 0 ∧ x.fg.f3.toList = [] ∧ x.fg.fk = 0 ∧ x.fg.fa8 = 0 ∧ x.fg.fa7 = 0) = a12
  have key : ((((((((((((!b0 && !a0 || !b1 && !a1) || !b2 && !a2) || !b3 && !a3) || !b4 && !a4) || !b5 && !a5) || !b6 && (!a6 || !a7)) || !b7 && !a8) || !b8 && !a9) || !b9 && !a10) || !b10 && !a11) || !b11 && !a12) || !b12 && !a13) = !((b0 || a0) && (b1 || a1) && (b2 || a2) && (b3 || a3) && (b4 || a4) && (b5 || a5) && (b6 || a6) && (b6 || a7) && (b7 || a8) && (b8 || a9) && (b9 || a10) && (b10 || a11) && (b11 || a12) && (b12 || a13)) := by
    cases b6 <;> simp [Bool.not_and, Bool.not_or, Bool.or_assoc]
  refine ⟨fun h => if_neg fun h2 => ?_, fun h => if_pos ?_⟩
  · rw [key, h2] at h; cases h
  · rw [key, Bool.not_eq_false'] at h; exact h
theorem PK {L : List Int} (h : Uq L = 0) : ∀ e ∈ L, e = 0 := by
  induction L with
  | nil => simp
  | cons a r ih =>
    unfold Uq at h
    by_cases ha : a = 0
    · subst ha; simp at h; intro e he; rcases List.mem_cons.1 he with rfl | he
      · rfl
      · exact ih h e he
    · rw [if_pos ha] at h; exact absurd h ha
theorem PL {x : Qt} (h : KJ x = 0) : K9 x.fc ∧ ∀ f, f < 14 → if ZS x.fc f = true then Zf x f = 0 else Ah (W4 x) f = true := by
  have hk : K9 x.fc := by
    by_cases hk : K9 x.fc
    · exact hk
    · rw [LE hk] at h; cases h
  refine ⟨hk, fun f hf => ?_⟩
  unfold KJ El at h
  rw [if_neg (by simpa [W4] using hk)] at h
  by_cases hz : Uq (Ui (W4 x).kind (Zf x)) = 0
  · rw [hz] at h; simp only [ne_eq, not_true, if_false] at h
    have ha : (List.range 14).all (fun f => ZS (W4 x).kind f || Ah (W4 x) f) = true := by
      by_cases ha : (List.range 14).all (fun f => ZS (W4 x).kind f || Ah (W4 x) f) = true
      · exact ha
      · rw [if_neg ha] at h; cases h
    have h1 := List.all_eq_true.1 ha f (by simpa using hf)
    have h2 := PK hz (if ZS x.fc f = true then Zf x f else 0) (by
      unfold Ui; exact List.mem_map.2 ⟨f, by simpa using hf, rfl⟩)
    change (ZS x.fc f || Ah (W4 x) f) = true at h1
    cases hm : ZS x.fc f
    · rw [hm] at h1; simpa using h1
    · rw [hm] at h2; simpa using h2
  · rw [if_pos hz] at h; exact absurd h hz
structure Fit (x : Qt) : Prop where
  kind : 1 ≤ x.fc ∧ x.fc ≤ 17
  name : x.fa9.size ≤ 16
  other : x.fa4.size ≤ 16
  names : x.fw.length ≤ 16
  each : ∀ s ∈ x.fw, s.size ≤ 16
  pk : 0 ≤ x.fa.fc ∧ x.fa.fc ≤ 6
  ps : 0 ≤ x.fa.fi ∧ x.fa.fi ≤ 64
  pd : 0 ≤ x.fa.fo ∧ x.fa.fo ≤ 8
  items : x.fj.length ≤ 64
  item : ∀ t ∈ x.fj, t.f3.size ≤ 32 ∧ 1 ≤ t.f5 ∧ t.f5 ≤ 4294967295
  coins : x.fa1.length ≤ 64
  ex : 0 ≤ x.fy ∧ x.fy ≤ 1048576
  so : 0 ≤ x.f8 ∧ x.f8 ≤ 1048576
  ha : 0 ≤ x.f9 ∧ x.f9 ≤ 3
  ix : 0 ≤ x.fa3 ∧ x.fa3 ≤ 15
  cu : 0 ≤ x.fa0 ∧ x.fa0 ≤ 3
  co : 0 ≤ x.fk ∧ x.fk ≤ 32
  qk : 0 ≤ x.fg.fc ∧ x.fg.fc ≤ 7
  qs : x.fg.f3.size ≤ 32
  qc : 0 ≤ x.fg.fk ∧ x.fg.fk ≤ 32
  qn : 0 ≤ x.fg.fa8 ∧ x.fg.fa8 ≤ 1000000
  qd : 0 ≤ x.fg.fa7 ∧ x.fg.fa7 ≤ 1000000
  data : x.fa5.length ≤ 65536
theorem Gv {s : ByteArray} (h : (s.toList == []) = true) : s.size = 0 := by
  have e : s.toList = [] := by simpa using h
  rw [ByteArray.toList_eq] at e
  have := congrArg List.length e
  rw [Array.length_toList] at this; exact this
theorem OZ {s : ByteArray} (h : Bv s = 0) : s.size ≤ 16 := by
  unfold Bv at h
  have : Cd s = true := by
    cases hb : Cd s with
    | true => rfl
    | false => rw [hb] at h; cases h
  unfold Cd at this
  simp at this; omega
theorem LG {α : Type} {f : α → Int} {l : List α} (h : AQ f l = 0) : ∀ x ∈ l, f x = 0 := by
  induction l with
  | nil => simp
  | cons a r ih =>
    unfold AQ at h
    by_cases ha : f a = 0
    · rw [if_neg (by simp [ha])] at h
      intro x hx
      rcases List.mem_cons.1 hx with rfl | hx
      · exact ha
      · exact ih h x hx
    · rw [if_pos ha] at h; exact absurd h ha
theorem BM {n a b : Int} (h : Y1 n a b = 0) : a ≤ n ∧ n ≤ b := by
  unfold Y1 at h; split at h
  · assumption
  · cases h
theorem Nj {n : Nat} {m : Int} (h : AR n m = 0) : (n : Int) ≤ m := by
  unfold AR at h; split at h
  · cases h
  · omega
theorem two {b : Bool} {A B : Prop} (h : if b = true then A else B) : A ∨ B := by cases b <;> simp_all
theorem PM {k s d z : Int} (h : WA k s d z = 0) : (0 ≤ k ∧ k ≤ 6) ∧ (0 ≤ s ∧ s ≤ 64) ∧ (0 ≤ d ∧ d ≤ 8) := by
  unfold WA at h; repeat' split at h
  all_goals omega
theorem PN {k : Int} {s : ByteArray} {c n d : Int} (h : UG k s c n d = 0) (hs : s.toList = [] → s.size = 0) : (0 ≤ k ∧ k ≤ 7) ∧ s.size ≤ 32 ∧ (0 ≤ c ∧ c ≤ 32) ∧ (0 ≤ n ∧ n ≤ 1000000) ∧ (0 ≤ d ∧ d ≤ 1000000) := by
  unfold UG at h
  by_cases e : s.toList = []
  · have := hs e
    simp only [e, ne_eq, not_true, and_false, false_or] at h
    repeat' split at h
    all_goals omega
  · simp only [e, ne_eq, not_false_eq_true, and_true] at h
    repeat' split at h
    all_goals omega
theorem Mw {x : Qt} (h : KJ x = 0) : Fit x := by
  obtain ⟨hk, hf⟩ := PL h
  have g : ∀ f, f < 14 → Zf x f = 0 ∨ Ah (W4 x) f = true := fun f hlt => two (hf f hlt)
  have g0 := g 0 (by decide); have g1 := g 1 (by decide); have g2 := g 2 (by decide); have g3 := g 3 (by decide); have g4 := g 4 (by decide); have g5 := g 5 (by decide); have g6 := g 6 (by decide)
  have g7 := g 7 (by decide); have g8 := g 8 (by decide); have g9 := g 9 (by decide); have g10 := g 10 (by decide); have g11 := g 11 (by decide); have g12 := g 12 (by decide); have g13 := g 13 (by decide)
  change Bv x.fa9 = 0 ∨ (x.fa9.toList == []) = true at g0
  change Bv x.fa4 = 0 ∨ (x.fa4.toList == []) = true at g1
  change Hu x.fw = 0 ∨ decide (x.fw.length = 0) = true at g2
  change WA x.fa.fc x.fa.fi x.fa.fo x.fa.fq = 0 ∨ decide (x.fa.fc = 0 ∧ x.fa.fi = 0 ∧ x.fa.fo = 0 ∧ x.fa.fq = 0) = true at g3
  change Hv x.fj = 0 ∨ decide ((x.fj.map (fun x => (x.f3, x.f5))).length = 0) = true at g4
  change AR x.fa1.length 64 = 0 ∨ decide (x.fa1.length = 0) = true at g5
  change Y1 x.fy 1 1048576 = 0 ∨ decide (x.fy = 0) = true at g6
  change Y1 x.f8 1 1048576 = 0 ∨ decide (x.f8 = 0) = true at g7
  change Y1 x.f9 0 3 = 0 ∨ decide (x.f9 = 0) = true at g8
  change Y1 x.fa3 0 15 = 0 ∨ decide (x.fa3 = 0) = true at g9
  change Y1 x.fa0 0 3 = 0 ∨ decide (x.fa0 = 0) = true at g10
  change Y1 x.fk 0 32 = 0 ∨ decide (x.fk = 0) = true at g11
  change UG x.fg.fc x.fg.f3 x.fg.fk x.fg.fa8 x.fg.fa7 = 0 ∨ decide (x.fg.fc = 0 ∧ x.fg.f3.toList = [] ∧ x.fg.fk = 0 ∧ x.fg.fa8 = 0 ∧ x.fg.fa7 = 0) = true at g12
  change AR x.fa5.length 65536 = 0 ∨ decide (x.fa5.length = 0) = true at g13
  simp only [decide_eq_true_eq] at g2 g3 g4 g5 g6 g7 g8 g9 g10 g11 g12 g13
  have n2 : x.fw.length ≤ 16 ∧ ∀ s ∈ x.fw, s.size ≤ 16 := by
    rcases g2 with g | g
    · unfold Hu at g; split at g
      · cases g
      · exact ⟨by omega, fun s hs => OZ (LG g s hs)⟩
    · have : x.fw = [] := List.eq_nil_of_length_eq_zero g
      simp [this]
  have n4 : x.fj.length ≤ 64 ∧ ∀ t ∈ x.fj, t.f3.size ≤ 32 ∧ 1 ≤ t.f5 ∧ t.f5 ≤ 4294967295 := by
    rcases g4 with g | g
    · unfold Hv at g; split at g
      · cases g
      · refine ⟨by omega, fun t ht => ?_⟩
        have := LG g t ht
        unfold Fv at this; grind
    · rw [List.length_map] at g
      have : x.fj = [] := List.eq_nil_of_length_eq_zero g
      simp [this]
  have n3 : (0 ≤ x.fa.fc ∧ x.fa.fc ≤ 6) ∧ (0 ≤ x.fa.fi ∧ x.fa.fi ≤ 64) ∧ (0 ≤ x.fa.fo ∧ x.fa.fo ≤ 8) := by
    rcases g3 with g | g
    · exact PM g
    · omega
  have n12 : (0 ≤ x.fg.fc ∧ x.fg.fc ≤ 7) ∧ x.fg.f3.size ≤ 32 ∧ (0 ≤ x.fg.fk ∧ x.fg.fk ≤ 32) ∧ (0 ≤ x.fg.fa8 ∧ x.fg.fa8 ≤ 1000000) ∧ (0 ≤ x.fg.fa7 ∧ x.fg.fa7 ≤ 1000000) := by
    have hs : x.fg.f3.toList = [] → x.fg.f3.size = 0 := fun h => Gv (by simp [h])
    rcases g12 with g | g
    · exact PN g hs
    · have := hs g.2.1; omega
  refine ⟨hk, ?_, ?_, n2.1, n2.2, n3.1, n3.2.1, n3.2.2, n4.1, n4.2, ?_, ?_, ?_, ?_, ?_, ?_, ?_, n12.1, n12.2.1, n12.2.2.1, n12.2.2.2.1, n12.2.2.2.2, ?_⟩
  · rcases g0 with g | g
    · exact OZ g
    · have := Gv g; omega
  · rcases g1 with g | g
    · exact OZ g
    · have := Gv g; omega
  · rcases g5 with g | g
    · have := Nj g; omega
    · omega
  · rcases g6 with g | g
    · have := BM g; omega
    · omega
  · rcases g7 with g | g
    · have := BM g; omega
    · omega
  · rcases g8 with g | g
    · exact BM g
    · omega
  · rcases g9 with g | g
    · exact BM g
    · omega
  · rcases g10 with g | g
    · exact BM g
    · omega
  · rcases g11 with g | g
    · exact BM g
    · omega
  · rcases g13 with g | g
    · have := Nj g; omega
    · omega
def LH (t : Qf) : List Int := Ur t.f3 ++ Jd t.f5
def Ff (x : Qt) : List Int := ((((([] ++ [x.fc].flatMap Jd) ++ [x.fa9, x.fa4].flatMap Ur) ++ [(x.fw.length : Int)].flatMap Jd) ++ x.fw.flatMap Ur) ++ [x.fa.fc, x.fa.fi, x.fa.fo].flatMap Jd) ++ WJ 8 x.fa.fq
def Fg (x : Qt) : List Int := (Ff x ++ [(x.fj.length : Int)].flatMap Jd) ++ x.fj.flatMap LH
def Y2 (x : Qt) : List Int := ((((Fg x ++ [strOfNums x.fa1].flatMap Ur) ++ [x.fy, x.f8, x.f9, x.fa3, x.fa0, x.fk, x.fg.fc].flatMap Jd) ++ [x.fg.f3].flatMap Ur) ++ [x.fg.fk, x.fg.fa8, x.fg.fa7].flatMap Jd) ++ [strOfNums x.fa5].flatMap Ur
theorem DN {α : Type} {f : α → List Int} {m : Nat} {l : List α} (h : ∀ t ∈ l, (f t).length ≤ m) : (l.flatMap f).length ≤ m * l.length := by
  induction l with
  | nil => simp
  | cons a r ih =>
    have h1 := h a (by simp)
    have h2 := ih fun t ht => h t (by simp [ht])
    simp only [List.flatMap_cons, List.length_append, List.length_cons, Nat.mul_add]
    omega
theorem Gw (s : ByteArray) (m : Nat) (h : s.size ≤ m) : (Ur s).length ≤ m + 9 := by
  unfold Ur; split
  · simp
  · have hL := VG (s.size : Int)
    have hs := Vl s
    simp; omega
theorem Is {x : Qt} (h : Fit x) : (Ff x).length ≤ 1000 := by
  have k1 := Zi x.fc; have k2 := Gw x.fa9 16 h.name; have k3 := Gw x.fa4 16 h.other
  have k4 := Zi (x.fw.length : Int); have k5 := DN (f := Ur) (m := 25) (l := x.fw) (fun t ht => Gw t 16 (h.each t ht))
  have k6 := Zi x.fa.fc; have k7 := Zi x.fa.fi; have k8 := Zi x.fa.fo
  have k9 := h.names
  simp only [Ff, List.length_append, List.flatMap_cons, List.flatMap_nil, Zz, List.length_nil]; omega
theorem It {x : Qt} (h : Fit x) (t : Qf) (ht : t ∈ x.fj) : (LH t).length ≤ 50 := by
  have := Gw t.f3 32 (h.item t ht).1
  have k := Zi t.f5
  unfold LH; simp only [List.length_append]; omega
theorem Nk {x : Qt} (h : Fit x) : (Fg x).length ≤ 5000 := by
  have k1 := Is h
  have k2 := Zi (x.fj.length : Int)
  have k3 := DN (f := LH) (m := 50) (l := x.fj) (fun t ht => It h t ht)
  have k4 := h.items
  simp only [Fg, List.length_append, List.flatMap_cons, List.flatMap_nil, List.length_nil]; omega
theorem Iu {x : Qt} (h : Fit x) : (Y2 x).length ≤ 300000 := by
  have k1 := Nk h
  have a1 := Jo (strOfNums x.fa1); have a2 := Jo x.fg.f3; have a3 := Jo (strOfNums x.fa5)
  have b1 := Zi x.fy; have b2 := Zi x.f8; have b3 := Zi x.f9; have b4 := Zi x.fa3; have b5 := Zi x.fa0; have b6 := Zi x.fk
  have b7 := Zi x.fg.fc; have b8 := Zi x.fg.fk; have b9 := Zi x.fg.fa8; have c1 := Zi x.fg.fa7
  simp only [Y2, List.length_append, List.flatMap_cons, List.flatMap_nil, List.length_nil]; omega
theorem Gx (n : Int) : ∀ c ∈ Jd n, 0 ≤ c ∧ c ≤ 255 := by
  intro c hc
  unfold Jd at hc; split at hc
  · simp at hc
  · exact bounds_u8 (Im n (by omega) c hc)
theorem Hw (s : ByteArray) : ∀ c ∈ Ur s, 0 ≤ c ∧ c ≤ 255 := by
  intro c hc
  unfold Ur at hc; split at hc
  · simp at hc
  · rcases List.mem_append.1 hc with h | h
    · exact bounds_u8 (Im _ (by omega) c h)
    · exact bounds_u8 (NU s c h)
theorem Ao (x : Qt) : ∀ c ∈ Y2 x, 0 ≤ c ∧ c ≤ 255 := by
  have fm : ∀ {α : Type} (f : α → List Int) (l : List α), (∀ t, ∀ c ∈ f t, 0 ≤ c ∧ c ≤ 255) → ∀ c ∈ l.flatMap f, 0 ≤ c ∧ c ≤ 255 := by
    intro α f l h c hc
    obtain ⟨t, _, ht⟩ := List.mem_flatMap.1 hc
    exact h t c ht
  have ap : ∀ {a b : List Int}, (∀ c ∈ a, 0 ≤ c ∧ c ≤ 255) → (∀ c ∈ b, 0 ≤ c ∧ c ≤ 255) → ∀ c ∈ a ++ b, 0 ≤ c ∧ c ≤ 255 := by
    intro a b ha hb c hc
    rcases List.mem_append.1 hc with h | h
    · exact ha c h
    · exact hb c h
  have e := fun l => fm Jd l Gx
  have t := fun l => fm Ur l Hw
  have it : ∀ l, ∀ c ∈ List.flatMap LH l, 0 ≤ c ∧ c ≤ 255 := fun l => fm LH l fun t => ap (Hw _) (Gx _)
  have w : ∀ c ∈ WJ 8 x.fa.fq, 0 ≤ c ∧ c ≤ 255 := fun c hc => bounds_u8 (Mt 8 _ c hc)
  unfold Y2 Fg Ff
  exact ap (ap (ap (ap (ap (ap (ap (ap (ap (ap (ap (ap (ap (by simp) (e _)) (t _)) (e _)) (t _)) (e _)) w) (e _)) (it _)) (t _)) (e _)) (t _)) (e _)) (t _)
def Ap (x : Qt) : List Int × Int := if KJ x ≠ 0 then ([], KJ x) else (Ve 79 (Y2 x), 0)
theorem Yr (x : Qt) : Kq x (Ap x) := by
  unfold Kq Yo
  simp only [jn]
  have enc_no : KJ x ≠ 0 → Ap x = ([], KJ x) := fun h => by unfold Ap; rw [if_pos h]
  refine ⟨KJ x, WB x, fun h => enc_no (by simpa using h), fun h => ?_⟩
  have h0 : KJ x = 0 := by simpa using h
  have F := Mw h0
  have lA := Is F
  have lB := Nk F
  have lE := Iu F
  have nl : x.fw.length ≤ 100000 := by have := F.names; omega
  have hA : (Ff x).length ≤ 1000 := lA
  unfold Ff at hA
  simp only [List.length_append, Zz] at hA
  refine ⟨_, J0 [] _ (by simp) (by simp), _, VD _ _ (by simp only [List.length_append]; omega) (by simp), _, J0 _ _ (by simp only [List.length_append]; omega) (by simp), _, VD _ _ (by simp only [List.length_append]; omega) nl, _, J0 _ _ (by simp only [List.length_append]; omega) (by simp), _, DG _, by simp only [List.length_append, Zz]; omega, _, J0 (Ff x) _ (by omega) (by simp), ?_⟩
  have hB : (Fg x).length ≤ 5000 := lB
  unfold Fg at hB
  rw [List.length_append] at hB
  refine ZW (I := fun k s => ∃ j : Nat, s.1 = (j : Int) ∧ j ≤ x.fj.length ∧ k = x.fj.length - j ∧ s.2 = (Ff x ++ [(x.fj.length : Int)].flatMap Jd) ++ (x.fj.take j).flatMap LH) ?_ (k := x.fj.length) ⟨0, rfl, by omega, by omega, by simp⟩
  rintro k ⟨i, c⟩ ⟨j, hj, hj1, hk, hc⟩ X hX
  simp only at hj hc ⊢
  subst hj
  refine ⟨fun h => ?_, fun h => ?_⟩
  · have hj2 : j < x.fj.length := by simp at h; omega
    obtain ⟨t, ht, hg⟩ := K1 (l := x.fj) (n := (j : Int)) (by omega) (by omega)
    have hcl : c.length ≤ 10000 := by
      have k3 := DN (f := LH) (m := 50) (l := x.fj.take j) (fun t ht => It F t (List.mem_of_mem_take ht))
      have k4 := F.items
      rw [List.length_take] at k3
      rw [hc, List.length_append]; omega
    have hit := F.items
    have hti := It F t (List.mem_of_getElem? hg)
    have htx := Jo t.f3
    refine ⟨t, ht, _, VD c _ (by omega) (by simp), _, J0 _ _ (by simp only [List.length_append, List.flatMap_cons, List.flatMap_nil, List.length_nil]; omega) (by simp), ?_⟩
    rw [Zq (by omega)]
    refine hX (x.fj.length - (j + 1)) _ (by omega) ⟨j + 1, by simp, by omega, rfl, ?_⟩
    have e : x.fj.take (j + 1) = x.fj.take j ++ [t] := by rw [List.take_add_one]; simp at hg; simp [hg]
    rw [e, hc]; simp [LH]
  · have hj2 : j = x.fj.length := by simp at h; omega
    subst hj2
    rw [List.take_length] at hc
    change c = Fg x at hc
    subst hc
    have hE : (Y2 x).length ≤ 300000 := lE
    unfold Y2 at hE
    simp only [List.length_append] at hE
    refine ⟨_, VD (Fg x) _ (by omega) (by simp), _, J0 _ _ (by simp only [List.length_append]; omega) (by simp), _, VD _ _ (by simp only [List.length_append]; omega) (by simp), _, J0 _ _ (by simp only [List.length_append]; omega) (by simp), _, VD _ _ (by simp only [List.length_append]; omega) (by simp), _, Iq 79 (Y2 x) (by decide) (Ao x), ?_⟩
    unfold Ap By
    rw [if_neg (by simp [h0]), if_neg (by omega)]
def Mx {α : Type} (st : QA) (r : α × Int × Int) (z : α) : α × QA :=
  if st.fbad = true ∨ r.2.2 ≠ 0 then (z, ⟨st.fb, true⟩) else (r.1, ⟨st.fb.drop r.2.1.toNat, false⟩)
theorem My (st : QA) (k e : Int) (h : e = 0 → 0 ≤ k ∧ k ≤ st.fb.length) :
    ZM st k e (if st.fbad = true ∨ e ≠ 0 then (false, ⟨st.fb, true⟩) else (true, ⟨st.fb.drop k.toNat, false⟩)) := by
  unfold ZM Vz
  rcases st with ⟨b, bad⟩
  cases bad
  · by_cases he : e = 0
    · subst he; simpa using h rfl
    · simp [he]
  · simp
theorem PO {l : List Int} {n k : Int} (h : Fa l = (n, k, 0)) : 1 ≤ k ∧ k ≤ l.length := by
  unfold Fa at h
  by_cases h8 : l.length < 8
  · rw [if_pos h8] at h; simp at h
  · rw [if_neg h8] at h; simp only [Prod.mk.injEq] at h; omega
theorem PP {l : List Int} (hw : ∀ n ∈ l, (Lit.int .u8 n).wf = true) {s : ByteArray} {k : Int} (h : Fb l = (s, k, 0)) : 1 ≤ k ∧ k ≤ l.length ∧ s.size ≤ 65536 := by
  obtain ⟨n, j, e, hd⟩ : ∃ n j e, Uj l = (n, j, e) := ⟨_, _, _, rfl⟩
  unfold Fb EQ at h
  rw [hd] at h
  simp only at h
  by_cases h0 : e ≠ 0
  · rw [if_pos h0] at h; simp only [Prod.mk.injEq] at h; omega
  have h0' : e = 0 := by simpa using h0
  subst h0'
  have hk := Fx hw hd
  rw [if_neg h0] at h
  by_cases h1 : n > 65536
  · rw [if_pos h1] at h; simp at h
  rw [if_neg h1] at h
  by_cases h2 : (l.length : Int) - j < n
  · rw [if_pos h2] at h; simp at h
  rw [if_neg h2] at h
  simp only [Prod.mk.injEq] at h
  obtain ⟨hs, hk2, _⟩ := h
  refine ⟨by omega, by omega, ?_⟩
  rw [← hs, Jh, List.length_take]; omega
theorem f_num (st : QA) (B : D4 st.fb) : QG st (Mx st (Uj st.fb) 0) := by
  unfold QG JP
  obtain ⟨n, k, e, hd⟩ : ∃ n k e, Uj st.fb = (n, k, e) := ⟨_, _, _, rfl⟩
  refine ⟨Uj st.fb, W3 _ B, _, My st _ _ ?_, ?_⟩
  · rw [hd]; intro he; simp only at he; subst he; have := Fx B.2 hd; simp only; omega
  · rw [hd]; unfold Mx; simp only
    by_cases hc : st.fbad = true ∨ e ≠ 0
    · rw [if_pos hc, if_pos hc]; simp
    · rw [if_neg hc, if_neg hc]; simp
theorem f_wrd (st : QA) (B : D4 st.fb) : ZO st (Mx st (Fa st.fb) 0) := by
  unfold ZO VC
  obtain ⟨n, k, e, hd⟩ : ∃ n k e, Fa st.fb = (n, k, e) := ⟨_, _, _, rfl⟩
  refine ⟨Fa st.fb, DJ _ B, _, My st _ _ ?_, ?_⟩
  · rw [hd]; intro he; simp only at he; subst he; have := PO hd; simp only; omega
  · rw [hd]; unfold Mx; simp only
    by_cases hc : st.fbad = true ∨ e ≠ 0
    · rw [if_pos hc, if_pos hc]; simp
    · rw [if_neg hc, if_neg hc]; simp
theorem f_txt (st : QA) (B : D4 st.fb) : Zd st (Mx st (Fb st.fb) ⟨#[]⟩) := by
  unfold Zd VB
  obtain ⟨n, k, e, hd⟩ : ∃ n k e, Fb st.fb = (n, k, e) := ⟨_, _, _, rfl⟩
  refine ⟨Fb st.fb, DK _ B, _, My st _ _ ?_, ?_⟩
  · rw [hd]; intro he; simp only at he; subst he; have := PP B.2 hd; simp only; omega
  · rw [hd]; unfold Mx; simp only
    by_cases hc : st.fbad = true ∨ e ≠ 0
    · rw [if_pos hc, if_pos hc]; simp
    · rw [if_neg hc, if_neg hc]; simp
def zOp : Qt := Qt.mk (0) (ByteArray.empty) (ByteArray.empty) ([] : (List ByteArray)) (Qr.mk (0) (0) (0) (0)) ([] : (List Qf)) ([] : (List Int)) (0) (0) (0) (0) (0) (0) (QC.mk (0) (ByteArray.empty) (0) (0) (0)) ([] : (List Int))
theorem Nl {n : Int} (h : 0 ≤ n ∧ n ≤ 4611686018427387904) : Jd n = XM n := by unfold Jd; rw [if_neg (by omega)]
theorem r1 (n : Int) (h : 0 ≤ n ∧ n ≤ 4611686018427387904) : QX n (Jd n) := by rw [Nl h]; exact Bz n h
theorem Gy (x : Qt) : XL x (Ap x) := by
  unfold XL Ue
  simp only [jn]
  have enc_no : KJ x ≠ 0 → Ap x = ([], KJ x) := fun h => by unfold Ap; rw [if_pos h]
  refine ⟨KJ x, Eu x, fun h => enc_no (by simpa using h), fun h => ?_⟩
  have h0 : KJ x = 0 := by simpa using h
  have F := Mw h0
  have k0 := F.kind; have k1 := F.pk; have k2 := F.ps; have k3 := F.pd; have k4 := F.qc; have k5 := F.qn; have k6 := F.qd; have k7 := F.qk; have k8 := F.ex; have k9 := F.so; have k10 := F.ha; have k11 := F.ix; have k12 := F.cu; have k13 := F.co
  have j1 := F.names; have j2 := F.items; have j3 := F.coins; have j4 := F.data
  have a0 := Zi x.fc; have a1 := Jo x.fa9; have a2 := Jo x.fa4; have a3 := Zi (x.fw.length : Int)
  have a4 := Zi x.fa.fc; have a5 := Zi x.fa.fi; have a6 := Zi x.fa.fo; have a7 := Zi (x.fj.length : Int)
  have a8 := Jo (strOfNums x.fa1); have a9 := Jo x.fg.f3; have b1 := Jo (strOfNums x.fa5); have b2 := Zi x.fg.fk; have b3 := Zi x.fg.fa8; have b4 := Zi x.fg.fa7
  have n1 := F.name; have n2 := F.other; have n3 := F.qs
  have s1 : (strOfNums x.fa1).size ≤ 65536 := by rw [Jh]; omega
  have s2 : (strOfNums x.fa5).size ≤ 65536 := by rw [Jh]; omega
  have lw := Zz 8 x.fa.fq
  refine ⟨_, r1 _ (by omega), _, XN _ (by omega), by omega, _, XN _ (by omega), by simp only [List.length_append]; omega, _, r1 _ (by omega), by simp only [List.length_append]; omega, ?_⟩
  refine ZW (I := fun k s => ∃ j : Nat, s.2 = (j : Int) ∧ j ≤ x.fw.length ∧ k = x.fw.length - j ∧ s.1 = ((((Jd x.fc) ++ (Ur x.fa9)) ++ (Ur x.fa4)) ++ (Jd (x.fw.length : Int))) ++ (x.fw.take j).flatMap Ur) ?_ (k := x.fw.length) ⟨0, rfl, by omega, by omega, by simp⟩
  rintro k ⟨p10, i⟩ ⟨j, hj, hj1, hk, hp⟩ X hX
  simp only at hj hp ⊢
  subst hj
  have lp10 : p10.length ≤ 300000 := by
    have k3 := DN (f := Ur) (m := 25) (l := x.fw.take j) (fun t ht => Gw t 16 (F.each t (List.mem_of_mem_take ht)))
    rw [List.length_take] at k3
    rw [hp]; simp only [List.length_append]; omega
  refine ⟨fun h => ?_, fun h => ?_⟩
  · have hj2 : j < x.fw.length := by simp at h; omega
    obtain ⟨t, ht, hg⟩ := K1 (l := x.fw) (n := (j : Int)) (by omega) (by omega)
    have htx := Jo t
    have hts := F.each t (List.mem_of_getElem? hg)
    refine ⟨t, ht, _, XN t (by omega), by omega, ?_⟩
    rw [Zq (by omega)]
    refine hX (x.fw.length - (j + 1)) _ (by omega) ⟨j + 1, by simp, by omega, rfl, ?_⟩
    have e : x.fw.take (j + 1) = x.fw.take j ++ [t] := by rw [List.take_add_one]; simp at hg; simp [hg]
    rw [e, hp]; simp
  · have hj2 : j = x.fw.length := by simp at h; omega
    subst hj2
    rw [List.take_length] at hp
    have eA : ((((p10 ++ Jd x.fa.fc) ++ Jd x.fa.fi) ++ Jd x.fa.fo) ++ WJ 8 x.fa.fq) = Ff x := by rw [hp]; simp [Ff]
    refine ⟨_, r1 _ (by omega), by omega, _, r1 _ (by omega), by simp only [List.length_append]; omega, _, r1 _ (by omega), by simp only [List.length_append]; omega, _, LD _, by simp only [List.length_append]; omega, _, r1 _ (by omega), ?_⟩
    rw [eA]
    have lA := Is F
    refine ⟨by omega, ?_⟩
    refine ZW (I := fun k s => ∃ j : Nat, s.2 = (j : Int) ∧ j ≤ x.fj.length ∧ k = x.fj.length - j ∧ s.1 = (Ff x ++ Jd (x.fj.length : Int)) ++ (x.fj.take j).flatMap LH) ?_ (k := x.fj.length) ⟨0, rfl, by omega, by omega, by simp⟩
    rintro k ⟨c, i⟩ ⟨j, hj, hj1, hk, hc⟩ X hX
    simp only at hj hc ⊢
    subst hj
    have hcl : c.length ≤ 10000 := by
      have k3 := DN (f := LH) (m := 50) (l := x.fj.take j) (fun t ht => It F t (List.mem_of_mem_take ht))
      rw [List.length_take] at k3
      rw [hc]; simp only [List.length_append]; omega
    refine ⟨fun h => ?_, fun h => ?_⟩
    · have hj2 : j < x.fj.length := by simp at h; omega
      obtain ⟨t, ht, hg⟩ := K1 (l := x.fj) (n := (j : Int)) (by omega) (by omega)
      have htx := Jo t.f3
      have hti := F.item t (List.mem_of_getElem? hg)
      have hte := Zi t.f5
      refine ⟨t, ht, _, XN t.f3 (by omega), by omega, t, ht, _, r1 t.f5 (by omega), by simp only [List.length_append]; omega, ?_⟩
      rw [Zq (by omega)]
      refine hX (x.fj.length - (j + 1)) _ (by omega) ⟨j + 1, by simp, by omega, rfl, ?_⟩
      have e : x.fj.take (j + 1) = x.fj.take j ++ [t] := by rw [List.take_add_one]; simp at hg; simp [hg]
      rw [e, hc]; simp [LH]
    · have hj2 : j = x.fj.length := by simp at h; omega
      subst hj2
      rw [List.take_length] at hc
      have eB : c = Fg x := by rw [hc]; simp [Fg]
      subst eB
      refine ⟨_, XN _ s1, by omega, ?_⟩
      refine ZW (I := fun k s => ∃ j : Nat, s.2.2 = (j : Int) ∧ j ≤ 7 ∧ k = 7 - j ∧ s.2.1 = [x.fy, x.f8, x.f9, x.fa3, x.fa0, x.fk, x.fg.fc] ∧ s.1 = (Fg x ++ Ur (strOfNums x.fa1)) ++ ([x.fy, x.f8, x.f9, x.fa3, x.fa0, x.fk, x.fg.fc].take j).flatMap Jd ∧ s.1.length ≤ 10000 + 65545 + 9 * j) ?_ (k := 7) ⟨0, rfl, by omega, by omega, rfl, by simp, by simp only [List.length_append]; omega⟩
      rintro k ⟨c, L, i⟩ ⟨j, hj, hj1, hk, hL, hc, hcl2⟩ X hX
      simp only at hj hL hc hcl2 ⊢
      subst hj
      have hrng : ∀ y ∈ L, 0 ≤ y ∧ y ≤ 4611686018427387904 := by
        rw [hL]; intro y hy
        simp only [List.mem_cons, List.not_mem_nil, or_false] at hy
        rcases hy with rfl | rfl | rfl | rfl | rfl | rfl | rfl <;> omega
      have hl7 : L.length = 7 := by rw [hL]; rfl
      refine ⟨fun h => ?_, fun h => ?_⟩
      · have hj2 : j < L.length := by simp at h; omega
        obtain ⟨t, ht, hg⟩ := K1 (l := L) (n := (j : Int)) (by omega) (by omega)
        have hte := Zi t
        refine ⟨t, ht, _, r1 t (hrng t (List.mem_of_getElem? hg)), by omega, ?_⟩
        rw [Zq (by omega)]
        refine hX (7 - (j + 1)) _ (by omega) ⟨j + 1, by simp, by omega, rfl, hL, ?_, by simp only [List.length_append]; omega⟩
        have e : L.take (j + 1) = L.take j ++ [t] := by rw [List.take_add_one]; simp at hg; simp [hg]
        rw [← hL] at hc ⊢
        rw [e, hc]; simp
      · have hj2 : j = 7 := by simp at h; omega
        subst hj2
        refine ⟨_, XN _ (by omega), by omega, _, r1 _ (by omega), by simp only [List.length_append]; omega, _, r1 _ (by omega), by simp only [List.length_append]; omega, _, r1 _ (by omega), by simp only [List.length_append]; omega, _, XN _ s2, by simp only [List.length_append]; omega, ?_⟩
        have eE : (((((c ++ Ur x.fg.f3) ++ Jd x.fg.fk) ++ Jd x.fg.fa8) ++ Jd x.fg.fa7) ++ Ur (strOfNums x.fa5)) = Y2 x := by rw [hc]; simp [Y2]
        rw [eE]
        refine ⟨_, Ir 79 (Y2 x) (by decide) (Ao x), ?_⟩
        have lE := Iu F
        unfold Ap By
        rw [if_neg (by simp [h0]), if_neg (by omega)]
theorem D4.right {l a r : List Int} (e : l = a ++ r) (B : D4 l) : D4 r := by
  have := B.drop a.length
  rwa [e, List.drop_left] at this
theorem Va {l r : List Int} {n : Int} (e : l = Jd n ++ r) (h : 0 ≤ n ∧ n ≤ 4611686018427387904) (B : D4 l) : QG ⟨l, false⟩ (n, ⟨r, false⟩) := by
  have k : QG ⟨l, false⟩ (Mx ⟨l, false⟩ (Uj l) 0) := f_num ⟨l, false⟩ B
  have h2 : Mx ⟨l, false⟩ (Uj l) (0 : Int) = (n, ⟨r, false⟩) := by
    rw [e, Nl h]; unfold Mx; rw [Gt n h.1 h.2 r]; simp
  rwa [h2] at k
theorem P0 (s : ByteArray) (hs : s.size ≤ 65536) (rest : List Int) : Fb (Ur s ++ rest) = (s, ((Ur s).length : Int), 0) := by
  have hL : Ur s = XM s.size ++ sI s := by unfold Ur; rw [if_neg (by omega)]
  have hl := Vl s
  unfold Fb
  rw [hL, List.append_assoc, Gt _ (by omega) (by omega)]
  unfold EQ
  simp only [Int.toNat_natCast]
  rw [if_neg (by simp), if_neg (by omega), if_neg (by simp only [List.length_append, hl]; omega), List.drop_left, show s.size = (sI s).length from hl.symm, List.take_left, YC, List.length_append]
  simp
theorem Aq {l r : List Int} {s : ByteArray} (e : l = Ur s ++ r) (h : s.size ≤ 65536) (B : D4 l) : Zd ⟨l, false⟩ (s, ⟨r, false⟩) := by
  have k : Zd ⟨l, false⟩ (Mx ⟨l, false⟩ (Fb l) ⟨#[]⟩) := f_txt ⟨l, false⟩ B
  have h2 : Mx ⟨l, false⟩ (Fb l) (⟨#[]⟩ : ByteArray) = (s, ⟨r, false⟩) := by
    rw [e]; unfold Mx; rw [P0 s h r]; simp
  rwa [h2] at k
theorem PQ {l r : List Int} {z : Int} (e : l = WJ 8 z ++ r) (h : 0 ≤ z ∧ z ≤ 18446744073709551615) (B : D4 l) : ZO ⟨l, false⟩ (z, ⟨r, false⟩) := by
  have k : ZO ⟨l, false⟩ (Mx ⟨l, false⟩ (Fa l) 0) := f_wrd ⟨l, false⟩ B
  have hw : Fa l = (z, 8, 0) := by
    have h8 := Zz 8 z
    rw [e]; unfold Fa
    rw [if_neg (by simp only [List.length_append, h8]; omega), List.take_append_of_le_length (by omega), List.take_of_length_le (by omega), Io 8 z h.1 (by simp; omega)]
  have h2 : Mx ⟨l, false⟩ (Fa l) (0 : Int) = (z, ⟨r, false⟩) := by
    rw [hw, e]; unfold Mx
    have h8 := Zz 8 z
    have d8 : List.drop 8 (WJ 8 z ++ r) = r := by
      have := List.drop_left (l₁ := WJ 8 z) (l₂ := r)
      rwa [h8] at this
    simp [d8]
  rwa [h2] at k
def Uk (x : Qt) : Qt := ⟨x.fc, x.fa9, x.fa4, x.fw, x.fa, x.fj, sI (strOfNums x.fa1), x.fy, x.f8, x.f9, x.fa3, x.fa0, x.fk, x.fg, sI (strOfNums x.fa5)⟩
theorem PR (x : Qt) : Y2 (Uk x) = Y2 x := by
  have e1 : strOfNums (Uk x).fa1 = strOfNums x.fa1 := YC _
  have e2 : strOfNums (Uk x).fa5 = strOfNums x.fa5 := YC _
  unfold Y2
  rw [e1, e2]
  rfl
theorem PS (x : Qt) : KJ (Uk x) = KJ x := by
  have hz : ∀ f, Ah (W4 (Uk x)) f = Ah (W4 x) f := by
    intro f
    unfold Ah
    split <;> first | rfl | simp [W4, Uk, Vl, Jh]
  have hc : Zf (Uk x) = Zf x := by
    funext f
    unfold Zf
    split <;> first | rfl | simp [Uk, Vl, Jh]
  have hk : (W4 (Uk x)).kind = (W4 x).kind := rfl
  unfold KJ El
  simp only [hz, hc, hk]
theorem PT (x : Qt) (h : (Y2 x).length ≤ 1048576) : D4 (Ve 79 (Y2 x)) := by
  have hl := WQ 79 (Y2 x)
  have h4 := Zz 4 (Gs (Jk 79 (Y2 x)))
  have h9 := VG ((Y2 x).length : Int)
  have hf : Ve 79 (Y2 x) = Jk 79 (Y2 x) ++ WJ 4 (Gs (Jk 79 (Y2 x))) := by unfold Ve; rw [if_neg (by omega)]
  rw [hf]
  refine D4.of (by simp only [List.length_append]; omega) fun c hc => ?_
  rcases List.mem_append.1 hc with h | h
  · exact Et (by decide) (Ao x) c h
  · exact bounds_u8 (Mt 4 _ c h)
theorem Gz (x : Qt) (h : KJ x = 0) (hz : 0 ≤ x.fa.fq ∧ x.fa.fq ≤ 18446744073709551615) : Kb (Ve 79 (Y2 x)) (Uk x, 0) := by
  have F := Mw h
  have k0 := F.kind; have k1 := F.pk; have k2 := F.ps; have k3 := F.pd; have k4 := F.qc; have k5 := F.qn; have k6 := F.qd; have k7 := F.qk; have k8 := F.ex; have k9 := F.so; have k10 := F.ha; have k11 := F.ix; have k12 := F.cu; have k13 := F.co
  have j1 := F.names; have j2 := F.items; have j3 := F.coins; have j4 := F.data
  have n1 := F.name; have n2 := F.other; have n3 := F.qs
  have s1 : (strOfNums x.fa1).size ≤ 65536 := by rw [Jh]; omega
  have s2 : (strOfNums x.fa5).size ≤ 65536 := by rw [Jh]; omega
  have lb := Iu F
  have BF := PT x (by omega)
  have hu : P8 (Ve 79 (Y2 x)) = (79, Y2 x, ((Ve 79 (Y2 x)).length : Int), 0) := by
    have := NO 79 (Y2 x) [] (by omega)
    rwa [List.append_nil] at this
  have BB : D4 (Y2 x) := D4.of (by omega) (Ao x)
  unfold Kb VU
  simp only [jn]
  refine ⟨P8 _, BA _ BF, ?_⟩
  rw [hu]
  simp only
  refine ⟨fun c => by simp at c, fun _ => ?_⟩
  obtain ⟨r23, e23⟩ : ∃ r, r = Ur (strOfNums x.fa5) ++ ([] : List Int) := ⟨_, rfl⟩
  obtain ⟨r22, e22⟩ : ∃ r, r = Jd x.fg.fa7 ++ r23 := ⟨_, rfl⟩
  obtain ⟨r21, e21⟩ : ∃ r, r = Jd x.fg.fa8 ++ r22 := ⟨_, rfl⟩
  obtain ⟨r20, e20⟩ : ∃ r, r = Jd x.fg.fk ++ r21 := ⟨_, rfl⟩
  obtain ⟨r19, e19⟩ : ∃ r, r = Ur x.fg.f3 ++ r20 := ⟨_, rfl⟩
  obtain ⟨r18, e18⟩ : ∃ r, r = Jd x.fg.fc ++ r19 := ⟨_, rfl⟩
  obtain ⟨r17, e17⟩ : ∃ r, r = Jd x.fk ++ r18 := ⟨_, rfl⟩
  obtain ⟨r16, e16⟩ : ∃ r, r = Jd x.fa0 ++ r17 := ⟨_, rfl⟩
  obtain ⟨r15, e15⟩ : ∃ r, r = Jd x.fa3 ++ r16 := ⟨_, rfl⟩
  obtain ⟨r14, e14⟩ : ∃ r, r = Jd x.f9 ++ r15 := ⟨_, rfl⟩
  obtain ⟨r13, e13⟩ : ∃ r, r = Jd x.f8 ++ r14 := ⟨_, rfl⟩
  obtain ⟨r12, e12⟩ : ∃ r, r = Jd x.fy ++ r13 := ⟨_, rfl⟩
  obtain ⟨r11, e11⟩ : ∃ r, r = Ur (strOfNums x.fa1) ++ r12 := ⟨_, rfl⟩
  obtain ⟨r10, e10⟩ : ∃ r, r = x.fj.flatMap LH ++ r11 := ⟨_, rfl⟩
  obtain ⟨r9, e9⟩ : ∃ r, r = Jd (x.fj.length : Int) ++ r10 := ⟨_, rfl⟩
  obtain ⟨r8, e8⟩ : ∃ r, r = WJ 8 x.fa.fq ++ r9 := ⟨_, rfl⟩
  obtain ⟨r7, e7⟩ : ∃ r, r = Jd x.fa.fo ++ r8 := ⟨_, rfl⟩
  obtain ⟨r6, e6⟩ : ∃ r, r = Jd x.fa.fi ++ r7 := ⟨_, rfl⟩
  obtain ⟨r5, e5⟩ : ∃ r, r = Jd x.fa.fc ++ r6 := ⟨_, rfl⟩
  obtain ⟨r4, e4⟩ : ∃ r, r = x.fw.flatMap Ur ++ r5 := ⟨_, rfl⟩
  obtain ⟨r3, e3⟩ : ∃ r, r = Jd (x.fw.length : Int) ++ r4 := ⟨_, rfl⟩
  obtain ⟨r2, e2⟩ : ∃ r, r = Ur x.fa4 ++ r3 := ⟨_, rfl⟩
  obtain ⟨r1, e1⟩ : ∃ r, r = Ur x.fa9 ++ r2 := ⟨_, rfl⟩
  have e0 : Y2 x = Jd x.fc ++ r1 := by
    rw [e1, e2, e3, e4, e5, e6, e7, e8, e9, e10, e11, e12, e13, e14, e15, e16, e17, e18, e19, e20, e21, e22, e23]
    simp only [Y2, Fg, Ff, List.flatMap_cons, List.flatMap_nil, List.append_assoc, List.nil_append, List.append_nil]
  have B1 := BB.right e0
  have B2 := B1.right e1
  have B3 := B2.right e2
  have B4 := B3.right e3
  have B5 := B4.right e4
  have B6 := B5.right e5
  have B7 := B6.right e6
  have B8 := B7.right e7
  have B9 := B8.right e8
  have B10 := B9.right e9
  have B11 := B10.right e10
  have B12 := B11.right e11
  have B13 := B12.right e12
  have B14 := B13.right e13
  have B15 := B14.right e14
  have B16 := B15.right e15
  have B17 := B16.right e16
  have B18 := B17.right e17
  have B19 := B18.right e18
  have B20 := B19.right e19
  have B21 := B20.right e20
  have B22 := B21.right e21
  have B23 := B22.right e22
  refine ⟨_, Va e0 (by omega) BB, _, Aq e1 (by omega) B1, _, Aq e2 (by omega) B2, _, Va e3 (by omega) B3, ?_⟩
  refine ZW (I := fun k s => ∃ j : Nat, j ≤ x.fw.length ∧ k = x.fw.length - j ∧ s.1 = ((x.fw.length - j : Nat) : Int) ∧ s.2.1 = (x.fw.drop j).flatMap Ur ++ r5 ∧ s.2.2.1 = false ∧ s.2.2.2 = x.fw.take j) ?_ (k := x.fw.length) ⟨0, by omega, rfl, rfl, by simpa using e4, rfl, rfl⟩
  rintro k ⟨m, q, bad, nm⟩ ⟨j, hj, hk, hm, hq, hb, hn⟩ X hX
  simp only at hm hq hb hn ⊢
  subst hm; subst hb; subst hn
  have Bq : D4 q := by
    have h1 : r4 = (x.fw.take j).flatMap Ur ++ q := by rw [hq, ← List.append_assoc, ← List.flatMap_append, List.take_append_drop]; exact e4
    exact B4.right h1
  refine ⟨fun c => ?_, fun c => ?_⟩
  · have hj2 : j < x.fw.length := by simp at c; omega
    have hdr : x.fw.drop j = x.fw[j] :: x.fw.drop (j + 1) := List.drop_eq_getElem_cons hj2
    have hts := F.each x.fw[j] (List.getElem_mem hj2)
    have eq : q = Ur x.fw[j] ++ ((x.fw.drop (j + 1)).flatMap Ur ++ r5) := by rw [hq, hdr, List.flatMap_cons, List.append_assoc]
    refine ⟨_, Aq eq (by omega) Bq, by simp; omega, ?_⟩
    refine hX (x.fw.length - (j + 1)) _ (by omega) ⟨j + 1, by omega, rfl, ?_, rfl, rfl, ?_⟩
    · simp only; rw [Zq (by omega)]; omega
    · simp only; rw [List.take_succ_eq_append_getElem hj2]
  have hj2 : j = x.fw.length := by simp at c; omega
  subst hj2
  rw [List.drop_length, List.flatMap_nil, List.nil_append] at hq
  subst hq
  rw [List.take_length]
  refine ⟨_, Va e5 (by omega) B5, _, Va e6 (by omega) B6, _, Va e7 (by omega) B7, _, PQ e8 hz B8, _, Va e9 (by omega) B9, ?_⟩
  refine ZW (I := fun k s => ∃ j : Nat, j ≤ x.fj.length ∧ k = x.fj.length - j ∧ s.1 = ((x.fj.length - j : Nat) : Int) ∧ s.2.1 = (x.fj.drop j).flatMap LH ++ r11 ∧ s.2.2.1 = false ∧ s.2.2.2.1 = x.fw ∧ s.2.2.2.2 = x.fj.take j) ?_ (k := x.fj.length) ⟨0, by omega, rfl, rfl, by simpa using e10, rfl, rfl, rfl⟩
  rintro k ⟨m, q, bad, nm, it⟩ ⟨j, hj, hk, hm, hq, hb, hn, hi⟩ X hX
  simp only at hm hq hb hn hi ⊢
  subst hm; subst hb; subst hn; subst hi
  have Bq : D4 q := by
    have h1 : r10 = (x.fj.take j).flatMap LH ++ q := by rw [hq, ← List.append_assoc, ← List.flatMap_append, List.take_append_drop]; exact e10
    exact B10.right h1
  refine ⟨fun c => ?_, fun c => ?_⟩
  · have hj2 : j < x.fj.length := by simp at c; omega
    have hdr : x.fj.drop j = x.fj[j] :: x.fj.drop (j + 1) := List.drop_eq_getElem_cons hj2
    have hti := F.item x.fj[j] (List.getElem_mem hj2)
    have eq : q = Ur x.fj[j].f3 ++ (Jd x.fj[j].f5 ++ ((x.fj.drop (j + 1)).flatMap LH ++ r11)) := by rw [hq, hdr, List.flatMap_cons]; simp only [LH, List.append_assoc]
    refine ⟨_, Aq eq (by omega) Bq, _, Va rfl (by omega) (Bq.right eq), by simp; omega, ?_⟩
    refine hX (x.fj.length - (j + 1)) _ (by omega) ⟨j + 1, by omega, rfl, ?_, rfl, rfl, rfl, ?_⟩
    · simp only; rw [Zq (by omega)]; omega
    · simp only; rw [List.take_succ_eq_append_getElem hj2]
  have hj2 : j = x.fj.length := by simp at c; omega
  subst hj2
  rw [List.drop_length, List.flatMap_nil, List.nil_append] at hq
  subst hq
  rw [List.take_length]
  refine ⟨_, Aq e11 (by omega) B11, (by simp only; omega), _, Va e12 (by omega) B12, _, Va e13 (by omega) B13, _, Va e14 (by omega) B14, _, Va e15 (by omega) B15, _, Va e16 (by omega) B16, _, Va e17 (by omega) B17, _, Va e18 (by omega) B18, _, Aq e19 (by omega) B19, _, Va e20 (by omega) B20, _, Va e21 (by omega) B21, _, Va e22 (by omega) B22, _, Aq e23 (by omega) B23, (by simp only; omega), Ap (Uk x), Yr (Uk x), fun c => ?_, fun c => ?_⟩
  · exfalso
    have hv : KJ (Uk x) = 0 := by rw [PS, h]
    have hE : Ap (Uk x) = (Ve 79 (Y2 x), 0) := by unfold Ap; rw [if_neg (by simp [hv]), PR]
    rw [hE] at c
    simp at c
  · rfl
theorem Iv (x : Qt) (h1 : x.fw.length ≤ 4611686018427387904) (h2 : x.fj.length ≤ 4611686018427387904) : W1 (Uk x) x true := by
  have e1 : strOfNums (Uk x).fa1 = strOfNums x.fa1 := YC _
  have e2 : strOfNums (Uk x).fa5 = strOfNums x.fa5 := YC _
  unfold W1 Ak
  rw [e1, e2]
  have f1 : (Uk x).fw = x.fw := rfl
  have f2 : (Uk x).fj = x.fj := rfl
  rw [f1, f2]
  simp only [jn]
  refine ⟨fun c => ?_, fun _ => ?_⟩
  · exfalso; simp [Uk] at c
  refine ZW (I := fun k s => ∃ j : Nat, s = (j : Int) ∧ j ≤ x.fw.length ∧ k = x.fw.length - j) ?_ (k := x.fw.length) ⟨0, rfl, by omega, rfl⟩
  rintro k s ⟨j, rfl, hj, hk⟩ X hX
  refine ⟨fun c => ?_, fun c => ?_⟩
  · have hj2 : j < x.fw.length := by simp at c; omega
    obtain ⟨t, ht, _⟩ := K1 (l := x.fw) (n := (j : Int)) (by omega) (by omega)
    refine ⟨t, ht, t, ht, fun d => by simp at d, fun _ => ?_⟩
    rw [Zq (by omega)]
    exact hX (x.fw.length - (j + 1)) _ (by omega) ⟨j + 1, by simp, by omega, rfl⟩
  refine ZW (I := fun k s => ∃ j : Nat, s = (j : Int) ∧ j ≤ x.fj.length ∧ k = x.fj.length - j) ?_ (k := x.fj.length) ⟨0, rfl, by omega, rfl⟩
  rintro k s ⟨j, rfl, hj, hk⟩ X hX
  refine ⟨fun c => ?_, fun c => ?_⟩
  · have hj2 : j < x.fj.length := by simp at c; omega
    obtain ⟨t, ht, _⟩ := K1 (l := x.fj) (n := (j : Int)) (by omega) (by omega)
    refine ⟨t, ht, t, ht, fun d => by simp at d, fun _ => ?_⟩
    rw [Zq (by omega)]
    exact hX (x.fj.length - (j + 1)) _ (by omega) ⟨j + 1, by simp, by omega, rfl⟩
  · first | rfl | trivial
def PU : Qt := Qt.mk (4) (ByteArray.empty) (ByteArray.empty) ([] : (List ByteArray)) (Qr.mk (0) (0) (0) (0)) ([] : (List Qf)) ([] : (List Int)) (0) (0) (0) (0) (0) (0) (QC.mk (0) (ByteArray.empty) (0) (0) (0)) ([] : (List Int))
def lsN : Qt := Qt.mk (4) ((⟨#[97]⟩ : ByteArray)) (ByteArray.empty) ([] : (List ByteArray)) (Qr.mk (0) (0) (0) (0)) ([] : (List Qf)) ([] : (List Int)) (0) (0) (0) (0) (0) (0) (QC.mk (0) (ByteArray.empty) (0) (0) (0)) ([] : (List Int))
theorem R2 (C : Nat → Int) : Uq (Ui 4 C) = 0 := rfl
theorem P1 : KJ PU = 0 := by
  have e : (ByteArray.empty).toList = [] := Yq
  unfold KJ El
  rw [if_neg (by unfold K9 W4 PU; simp), if_neg (by show ¬ Uq (Ui 4 _) ≠ 0; rw [R2]; simp), if_pos]
  simp [List.range, List.range.loop, Ah, W4, PU, e]
theorem RG : KJ lsN = 18 := by
  unfold KJ El
  rw [if_neg (by unfold K9 W4 lsN; simp), if_neg (by show ¬ Uq (Ui 4 _) ≠ 0; rw [R2]; simp), if_neg]
  simp only [List.all_eq_true, List.mem_range, Bool.or_eq_true]
  intro h
  rcases h 0 (by decide) with h | h
  · revert h; show ZS 4 0 = true → False; decide
  · simp [Ah, W4, lsN] at h
theorem Nn : Xo true := by
  unfold Xo UF
  have hE : Ap PU = (Ve 79 (Y2 PU), 0) := by unfold Ap; rw [if_neg (by simp [P1])]
  refine ⟨(Ve 79 (Y2 PU), 0), hE ▸ Yr PU, (Uk PU, 0), Gz PU P1 (by decide), 18, fun _ => RG ▸ WB lsN, true, fun _ => ?_, false, fun _ => ?_, ?_⟩
  · show true = NJ 4; decide
  · show false = NJ 6; decide
  · rfl
theorem WW (l : List Int) (i : Int) (hl : l.length ≤ 4611686018427387904) (h0 : 0 ≤ i) (h1 : i ≤ 1000) : ∃ v, Xd l i v ∧ 0 ≤ v ∧ v ≤ 66600 := by
  unfold Xd E7
  simp only [Nf]
  by_cases hz : l.length = 0
  · refine ⟨i % 65536, ⟨fun _ => rfl, fun h => ?_⟩, by omega, by omega⟩
    simp [hz] at h
  · have hp : (0 : Int) < l.length := by omega
    have e : i.tmod (l.length : Int) = i % l.length := KF h0
    have e1 : 0 ≤ i % (l.length : Int) := Int.emod_nonneg _ (by omega)
    have e2 : i % (l.length : Int) < l.length := Int.emod_lt_of_pos _ hp
    obtain ⟨v, hv, _⟩ := K1 (l := l) (n := i % l.length) e1 e2
    have t1 : i.tdiv (l.length : Int) = i / l.length := Int.tdiv_eq_ediv_of_nonneg h0
    have t2 : 0 ≤ i / (l.length : Int) := Int.ediv_nonneg h0 (by omega)
    have t3 : i / (l.length : Int) ≤ i := Int.ediv_le_self _ h0
    have w1 : IntKind.i64.wrap (i / (l.length : Int)) = i / l.length := Zq (by omega)
    have w2 : IntKind.i64.wrap (v % 65536 + i / (l.length : Int)) = v % 65536 + i / l.length := Zq (by omega)
    refine ⟨v % 65536 + i / l.length, ⟨fun h => ?_, fun _ => ⟨by omega, v, by rw [e]; exact hv, by omega, by rw [t1, w1, w2]⟩⟩, by omega, by omega⟩
    simp at h; exact absurd h (by intro e; rw [e] at hz; exact hz rfl)
theorem Ut (a : Int) : ∃ s, ZH a s ∧ Cd s = true := by
  unfold ZH Be
  rw [Gn, KF (by omega)]
  have h3 : a % 16777216 % 3 = 0 ∨ a % 16777216 % 3 = 1 ∨ a % 16777216 % 3 = 2 := by omega
  rcases h3 with h | h | h <;> rw [h]
  · exact ⟨⟨#[97]⟩, ⟨_, ⟨by decide, rfl⟩, rfl⟩, by decide⟩
  · exact ⟨⟨#[98]⟩, ⟨_, ⟨by decide, rfl⟩, rfl⟩, by decide⟩
  · exact ⟨⟨#[99]⟩, ⟨_, ⟨by decide, rfl⟩, rfl⟩, by decide⟩
def H5 (p : Qr) : Prop :=
  (p.fc = 1 ∧ p.fi = 0 ∧ p.fo = 0 ∧ p.fq = 0) ∨ (p.fc = 2 ∧ 1 ≤ p.fi ∧ p.fi ≤ 4 ∧ 1 ≤ p.fo ∧ p.fo ≤ 2 ∧ 0 ≤ p.fq ∧ p.fq ≤ 3)
  ∨ (p.fc = 3 ∧ 2 ≤ p.fi ∧ p.fi ≤ 3 ∧ p.fo = 0 ∧ 0 ≤ p.fq ∧ p.fq ≤ 3) ∨ ((p.fc = 4 ∨ p.fc = 5) ∧ 1 ≤ p.fi ∧ p.fi ≤ 4 ∧ p.fo = 0 ∧ p.fq = 0)
  ∨ (p.fc = 6 ∧ (p.fi = 2 ∨ p.fi = 4) ∧ p.fo = 0 ∧ p.fq = 0)
theorem NQ {p : Qr} (h : H5 p) : WA p.fc p.fi p.fo p.fq = 0 := by
  unfold H5 at h; unfold WA
  grind
theorem Cg (a : Int) : ∃ p, Xe a p ∧ H5 p := by
  unfold Xe Ux
  simp only [bA1, bA3]
  generalize QF .i64 a 3 = s3; generalize QF .i64 a 4 = s4; generalize QF .i64 a 8 = s8
  have w1 : IntKind.i64.wrap (1 + s4 % 4) = 1 + s4 % 4 := Zq (by omega)
  have w2 : IntKind.i64.wrap (1 + s3 % 2) = 1 + s3 % 2 := Zq (by omega)
  have w3 : IntKind.u64.wrap (s8 % 4) = s8 % 4 := UV (by omega)
  have w4 : IntKind.i64.wrap (2 + s3 % 2) = 2 + s3 % 2 := Zq (by omega)
  have w5 : IntKind.i64.wrap (1 + s3 % 4) = 1 + s3 % 4 := Zq (by omega)
  have w6 : IntKind.i64.wrap (2 * (s3 % 2)) = 2 * (s3 % 2) := Zq (by omega)
  have w7 : IntKind.i64.wrap (2 + 2 * (s3 % 2)) = 2 + 2 * (s3 % 2) := Zq (by omega)
  simp only [w1, w2, w3, w4, w5, w6, w7]
  generalize a.tmod 6 = k
  by_cases k0 : k = 0
  · refine ⟨⟨1, 0, 0, 0⟩, ?_, by simp [H5]⟩; simp [k0]
  by_cases k1 : k = 1
  · refine ⟨⟨2, 1 + s4 % 4, 1 + s3 % 2, s8 % 4⟩, ?_, by simp [H5]; omega⟩; simp [k1]
  by_cases k2 : k = 2
  · refine ⟨⟨3, 2 + s3 % 2, 0, s8 % 4⟩, ?_, by simp [H5]; omega⟩; simp [k2]
  by_cases k3 : k = 3
  · refine ⟨⟨4, 1 + s3 % 4, 0, 0⟩, ?_, by simp [H5]; omega⟩; simp [k3]
  by_cases k4 : k = 4
  · refine ⟨⟨5, 1 + s3 % 4, 0, 0⟩, ?_, by simp [H5]; omega⟩; simp [k4]
  refine ⟨⟨6, 2 + 2 * (s3 % 2), 0, 0⟩, ?_, by simp [H5]; omega⟩
  simp [k0, k1, k2, k3, k4]
theorem CQ (a : Int) : ∃ s, Xw a s ∧ 1 ≤ s.size ∧ s.size ≤ 32 := by
  unfold Xw Cu
  simp only [bA15, bA255, List.length_cons, List.length_nil]
  generalize hs : QF .i64 a 8 % 16 = k
  by_cases hk : k = 15
  · refine ⟨_, ⟨fun _ => rfl, fun h => by simp [hk] at h⟩, ?_⟩
    rw [Jh]; simp
  · have e : (a % 256).tmod ((0 + 1 + 1 + 1 + 1 + 1 + 1 + 1 + 1 + 1 + 1 + 1 + 1 : Nat) : Int) = a % 256 % 12 := KF (by omega)
    rw [e]
    have hall : ∀ x ∈ ([⟨#[97]⟩, ⟨#[98]⟩, ⟨#[99]⟩, ⟨#[100]⟩, ⟨#[101]⟩, ⟨#[102]⟩, ⟨#[97, 97]⟩, ⟨#[98, 32, 99]⟩, ⟨#[37, 54, 49]⟩, ⟨#[65, 58, 49]⟩, ⟨#[0]⟩, ⟨#[122, 47, 255]⟩] : List ByteArray), 1 ≤ x.size ∧ x.size ≤ 32 := by decide
    obtain ⟨x, hx, hg⟩ := K1 (l := ([⟨#[97]⟩, ⟨#[98]⟩, ⟨#[99]⟩, ⟨#[100]⟩, ⟨#[101]⟩, ⟨#[102]⟩, ⟨#[97, 97]⟩, ⟨#[98, 32, 99]⟩, ⟨#[37, 54, 49]⟩, ⟨#[65, 58, 49]⟩, ⟨#[0]⟩, ⟨#[122, 47, 255]⟩] : List ByteArray)) (n := a % 256 % 12) (by omega) (by simp; omega)
    exact ⟨x, ⟨fun h => by simp at h; exact absurd h hk, fun _ => ⟨by decide, x, hx, rfl⟩⟩, hall x (List.mem_of_getElem? hg)⟩
theorem DO (a : Int) : ∃ q, VM a q ∧ UG q.fc q.f3 q.fk q.fa8 q.fa7 = 0 := by
  unfold VM A8
  have z : (ByteArray.empty).toList = [] := Yq
  obtain ⟨s, hs, hs1, hs2⟩ := CQ (QF .i64 a 3)
  simp only [bA3, bA7]
  generalize QF .i64 a 3 = s3 at *; generalize QF .i64 a 5 = s5
  have w : IntKind.i64.wrap (3 + s5 % 4) = 3 + s5 % 4 := Zq (by omega)
  rw [w]
  generalize a.tmod 7 = k
  by_cases k0 : k = 0
  · refine ⟨⟨1, .empty, 0, 0, 0⟩, ?_, by simp [UG, z]⟩; simp [k0]
  by_cases k1 : k = 1
  · refine ⟨⟨2, s, 0, 0, 0⟩, ?_, by simp [UG, hs1, hs2]⟩; simp [k1, hs]
  by_cases k2 : k = 2
  · refine ⟨⟨3, .empty, 0, 0, 0⟩, ?_, by simp [UG, z]⟩; simp [k2]
  by_cases k3 : k = 3
  · refine ⟨⟨4, .empty, 0, 0, 0⟩, ?_, by simp [UG, z]⟩; simp [k3]
  by_cases k4 : k = 4
  · refine ⟨⟨5, .empty, s3 % 8, 0, 0⟩, ?_, by simp [UG, z]; omega⟩; simp [k4]
  by_cases k5 : k = 5
  · refine ⟨⟨6, s, 0, 0, 0⟩, ?_, by simp [UG, hs1, hs2]⟩; simp [k5, hs]
  refine ⟨⟨7, .empty, 0, s3 % 4, 3 + s5 % 4⟩, ?_, by simp [UG, z]; omega⟩
  simp [k0, k1, k2, k3, k4, k5]
theorem LI (a : Int) : ∃ x, Wt a x ∧ Fv x = 0 := by
  unfold Wt Bf
  obtain ⟨s, hs, hs1, hs2⟩ := CQ a
  simp only [bA3, bA7, bA15, Nf, jn]
  generalize QF .i64 a 12 = s12; generalize QF .i64 a 4 = s4
  have w1 : IntKind.i64.wrap (a % 65536 * 65537) = a % 65536 * 65537 := Zq (by omega)
  have w2 : (a % 65536 * 65537).tmod 4294967295 = a % 65536 * 65537 % 4294967295 := KF (by omega)
  have w3 : IntKind.i64.wrap (1 + a % 65536 * 65537 % 4294967295) = 1 + a % 65536 * 65537 % 4294967295 := Zq (by omega)
  have w4 : IntKind.i64.wrap (4294967295 - a % 4) = 4294967295 - a % 4 := Zq (by omega)
  have w5 : IntKind.i64.wrap (1 + s4 % 8) = 1 + s4 % 8 := Zq (by omega)
  simp only [w1, w2, w3, w4, w5]
  have it : ∀ w : Int, 1 ≤ w → w ≤ 4294967295 → Fv ⟨s, w⟩ = 0 := by intro w h1 h2; simp [Fv, hs1, hs2, h1, h2]
  generalize s12 % 16 = k
  by_cases k1 : k = 14
  · refine ⟨⟨s, 1 + a % 65536 * 65537 % 4294967295⟩, ?_, it _ (by omega) (by omega)⟩; simp [k1, hs]
  by_cases k2 : k = 15
  · refine ⟨⟨s, 4294967295 - a % 4⟩, ?_, it _ (by omega) (by omega)⟩; simp [k2, hs]
  refine ⟨⟨s, 1 + s4 % 8⟩, ?_, it _ (by omega) (by omega)⟩
  simp [k1, k2, hs]
theorem DR (l : List Int) (n : Int) (hl : l.length ≤ 4611686018427387904) (h0 : 0 ≤ n) (h1 : n ≤ 1000) : ∃ r, VN l n r ∧ (r.length : Int) = n ∧ ∀ x ∈ r, Fv x = 0 := by
  refine I1 (Post := fun r => (r.length : Int) = n ∧ ∀ x ∈ r, Fv x = 0) ?_
  unfold XU
  simp only [jn]
  refine ZW (I := fun k s => (s.1.length : Int) = s.2 ∧ 0 ≤ s.2 ∧ s.2 ≤ n ∧ k = (n - s.2).toNat ∧ ∀ x ∈ s.1, Fv x = 0) ?_ (k := n.toNat) ⟨rfl, by omega, by omega, by simp, by simp⟩
  rintro k ⟨r, i⟩ ⟨hr, hi0, hi1, hk, hx⟩ X hX
  simp only at hr hi0 hi1 hk hx ⊢
  refine ⟨fun h => ?_, fun h => ?_⟩
  · have hlt : i < n := by simpa using h
    obtain ⟨v, hv, _, _⟩ := WW l i hl hi0 (by omega)
    obtain ⟨x, hx1, hx2⟩ := LI v
    refine ⟨v, hv, x, hx1, by simp; omega, ?_⟩
    rw [Zq (by omega)]
    refine hX (n - (i + 1)).toNat _ (by omega) ⟨by simp; omega, by simp only; omega, by simp only; omega, rfl, ?_⟩
    intro y hy
    rcases List.mem_append.1 hy with h | h
    · exact hx y h
    · simp at h; rw [h]; exact hx2
  · have hge : ¬ i < n := by simpa using h
    exact ⟨by omega, hx⟩
theorem DT (a : Int) : ∃ r, V0 a r ∧ r.length ≤ 4 := by
  unfold V0 Aa
  rw [bA3, Zq (by omega)]
  exact ⟨_, ⟨⟨by omega, by simp; omega⟩, rfl⟩, by simp; omega⟩
theorem BC {α : Type} {l : List α} (hl : l.length ≤ 4611686018427387904) {B : (Int → Prop) → Int → Prop} {J : Prop} (P : α → Prop)
    (hB : ∀ (j : Nat) x, j < l.length → l[j]? = some x → ∀ X : Int → Prop, (P x → X (IntKind.i64.wrap ((j : Int) + 1))) → B X (j : Int)) (hJ : (∀ x ∈ l, P x) → J) :
    lp (fun X s => (decide (s < (l.length : Int)) = true → B X s) ∧ (decide (s < (l.length : Int)) = false → J)) 0 := by
  refine Ii l.length hl (fun j => ∀ i, i < j → ∀ y, l[i]? = some y → P y) (fun i hi => absurd hi (by omega)) ?_ ?_
  · intro j hj hI X hX
    obtain ⟨x, hx⟩ : ∃ x, l[j]? = some x := ⟨l[j], by simp [hj]⟩
    refine hB j x hj hx X fun h0 => hX fun i hi y hy => ?_
    by_cases e : i = j
    · subst e; rw [hx] at hy; cases hy; exact h0
    · exact hI i (by omega) y hy
  · intro hI
    refine hJ fun x hx => ?_
    obtain ⟨j, hj⟩ := List.getElem?_of_mem hx
    have := hj
    rw [List.getElem?_eq_some_iff] at this
    exact hI j this.1 x hj
theorem XO (t : QV) : ∃ v, K7 t v ∧ (v = 0 → (0 ≤ t.fp ∧ t.fp ≤ 4294967295) ∧ 0 ≤ t.fj ∧ t.fj ≤ 4294967295) := by
  refine Bg (Post := fun v => v = 0 → (0 ≤ t.fp ∧ t.fp ≤ 4294967295) ∧ 0 ≤ t.fj ∧ t.fj ≤ 4294967295) ?_
  unfold Kr
  simp only [ZV, exists_eq_left, Jj, JQ]
  refine ⟨_, fun _ => rfl, fun _ h => by simp at h, fun h _ => ?_⟩
  simp [wI] at h
  exact ⟨h.1.1, h.1.2⟩
def okCm (c : Qx) : Prop := (1 ≤ c.fo ∧ c.fo ≤ 8) ∧ (1 ≤ c.fi ∧ c.fi ≤ 64) ∧ (c.fa6.length : Int) = c.fo * c.fi ∧ ∀ x ∈ c.fa6, 0 ≤ x ∧ x ≤ 4294967295
theorem Iw {d s : Int} (h1 : 1 ≤ d ∧ d ≤ 8) (h2 : 1 ≤ s ∧ s ≤ 64) : 1 ≤ d * s ∧ d * s ≤ 512 := by
  have h : d = 1 ∨ d = 2 ∨ d = 3 ∨ d = 4 ∨ d = 5 ∨ d = 6 ∨ d = 7 ∨ d = 8 := by omega
  rcases h with rfl | rfl | rfl | rfl | rfl | rfl | rfl | rfl <;> omega
theorem VE (c : Qx) : ∃ v, ZK c v ∧ (v = 0 → okCm c) := by
  refine UM (Post := fun v => v = 0 → okCm c) ?_
  unfold K3
  simp only [ZV, exists_eq_left, Jj, JQ, jn]
  refine ⟨_, fun _ => rfl, fun _ h => by simp at h, fun h => ?_⟩
  have h' : (1 ≤ c.fo ∧ c.fo ≤ 8) ∧ 1 ≤ c.fi ∧ c.fi ≤ 64 := by simpa [wI] using h
  have hm := Iw h'.1 h'.2
  rw [Zq (by omega)]
  refine ⟨fun _ h => by simp at h, fun hl => ?_⟩
  have hl' : (c.fa6.length : Int) = c.fo * c.fi := by simpa using hl
  refine BC (by omega) (fun x => 0 ≤ x ∧ x ≤ 4294967295) ?_ ?_
  · intro j x hj hx X hX
    refine ⟨x, Vg rfl hx, fun _ h => by simp at h, fun h => hX (by simpa [wI] using h)⟩
  · intro hP _; exact ⟨h'.1, h'.2, hl', hP⟩
def okLl (c : QJ) : Prop := (2 ≤ c.f6 ∧ c.f6 ≤ 8) ∧ (c.f0.length : Int) = Vh .i64 1 (IntKind.u64.wrap c.f6) ∧ c.f0.length ≤ 256 ∧ ∀ x ∈ c.f0, 0 ≤ x ∧ x ≤ 63
theorem P3 {p : Int} (h : 2 ≤ p ∧ p ≤ 8) : 4 ≤ Vh .i64 1 (IntKind.u64.wrap p) ∧ Vh .i64 1 (IntKind.u64.wrap p) ≤ 256 := by
  have h : p = 2 ∨ p = 3 ∨ p = 4 ∨ p = 5 ∨ p = 6 ∨ p = 7 ∨ p = 8 := by omega
  rcases h with rfl | rfl | rfl | rfl | rfl | rfl | rfl <;> decide
theorem Xr (c : QJ) : ∃ v, K0 c v ∧ (v = 0 → okLl c) := by
  refine AD (Post := fun v => v = 0 → okLl c) ?_
  unfold Kh
  simp only [ZV, exists_eq_left, Jj, JQ, jn]
  refine ⟨fun _ h => by simp at h, fun h => ?_⟩
  have h' : 2 ≤ c.f6 ∧ c.f6 ≤ 8 := by simpa [wI] using h
  have hm := P3 h'
  refine ⟨by rw [UV (by omega)]; omega, fun _ h => by simp at h, fun hl => ?_⟩
  have hl' : (c.f0.length : Int) = Vh .i64 1 (IntKind.u64.wrap c.f6) := by simpa using hl
  refine BC (by omega) (fun x => 0 ≤ x ∧ x ≤ 63) ?_ ?_
  · intro j x hj hx X hX
    refine ⟨x, Vg rfl hx, fun _ h => by simp at h, fun h => hX ?_⟩
    rw [Zq (by omega)] at h
    simp [wI] at h; omega
  · intro hP _; exact ⟨h', hl', by omega, hP⟩
theorem BD (l : List Q5) (k : ByteArray) (hl : l.length ≤ 1000000) : ∃ v, Xz l k v ∧ -1 ≤ v ∧ v < l.length := by
  refine Lm (Post := fun v => -1 ≤ v ∧ v < (l.length : Int)) ?_
  unfold Yv
  simp only [jn]
  refine BC (by omega) (fun _ => True) ?_ (fun _ => by omega)
  intro j x hj hx X hX
  exact ⟨x, Vg rfl hx, fun _ => by omega, fun _ => hX trivial⟩
def okE (e : Q5) : Prop := (1 ≤ e.f3.size ∧ e.f3.size ≤ 32) ∧ (1 ≤ e.fk ∧ e.fk ≤ 1099511627776) ∧ 0 ≤ e.fb3 ∧ e.fb3 < e.fk
def R3 (c : QY) : Prop := (1 ≤ c.fi ∧ c.fi ≤ 32) ∧ (0 ≤ c.fp ∧ c.fp ≤ 1099511627776) ∧ (c.fh.length : Int) ≤ c.fi ∧ ∀ e ∈ c.fh, okE e
theorem Ys (c : QY) : ∃ v, Kp c v ∧ (v = 0 → R3 c) := by
  refine Cv (Post := fun v => v = 0 → R3 c) ?_
  unfold KP
  simp only [ZV, VW, exists_eq_left, Jj, JQ, jn]
  refine ⟨_, fun _ => rfl, fun _ h => by simp at h, fun h => ?_⟩
  have h' : (1 ≤ c.fi ∧ c.fi ≤ 32) ∧ 0 ≤ c.fp ∧ c.fp ≤ 1099511627776 := by simpa [wI] using h
  refine ⟨fun _ h => by simp at h, fun hl => ?_⟩
  have hl' : (c.fh.length : Int) ≤ c.fi := by simpa using hl
  refine BC (by omega) okE ?_ (fun hP _ => ⟨h'.1, h'.2, hl', hP⟩)
  intro j x hj hx X hX
  refine ⟨x, Vg rfl hx, fun _ h => by simp at h, fun hk => ?_⟩
  have hk' : 1 ≤ x.f3.size ∧ x.f3.size ≤ 32 := by simpa using hk
  refine ⟨_, fun _ => rfl, fun _ h => by simp at h, fun hc => ?_⟩
  have hc1 : 1 ≤ x.fk ∧ x.fk ≤ 1099511627776 := by simp [wI] at hc; exact hc.1
  rw [Zq (by omega)] at hc
  have hc2 : 0 ≤ x.fb3 ∧ x.fb3 ≤ x.fk - 1 := by simp [wI] at hc; exact ⟨hc.2.1, by omega⟩
  obtain ⟨v, hv, _⟩ := BD (List.take (Int.toNat (j : Int)) c.fh) x.f3 (by simp; omega)
  refine ⟨⟨by omega, by omega⟩, v, hv, fun _ h => by simp at h, fun _ => ?_⟩
  by_cases h0 : j = 0
  · subst h0
    refine ⟨x, fun h => by simp at h, true, fun h => by simp at h, fun _ h => by simp at h, fun _ => hX ⟨hk', hc1, hc2.1, by omega⟩⟩
  · obtain ⟨y, hy⟩ : ∃ y, c.fh[j - 1]? = some y := ⟨c.fh[j - 1]'(by omega), by simp⟩
    refine ⟨y, fun _ => Vg (j := j - 1) (by rw [Zq (by omega)]; omega) hy, _, fun _ => rfl, fun _ h => by simp at h, fun _ => hX ⟨hk', hc1, hc2.1, by omega⟩⟩
def okFr (c : QD) : Prop := (1 ≤ c.fi ∧ c.fi ≤ 32) ∧ (0 ≤ c.fp ∧ c.fp ≤ 1099511627776) ∧ (0 ≤ c.fb2 ∧ c.fb2 ≤ 1099511627776) ∧ (c.fh.length : Int) ≤ c.fi ∧ ∀ e ∈ c.fh, okE e
theorem VF (c : QD) : ∃ v, ZL c v ∧ (v = 0 → okFr c) := by
  refine UN (Post := fun v => v = 0 → okFr c) ?_
  unfold K4
  simp only [ZV, VW, exists_eq_left, Jj, JQ, jn]
  refine ⟨_, fun _ => rfl, _, fun _ => rfl, fun _ h => by simp at h, fun h => ?_⟩
  have h' : ((1 ≤ c.fi ∧ c.fi ≤ 32) ∧ 0 ≤ c.fp ∧ c.fp ≤ 1099511627776) ∧ 0 ≤ c.fb2 ∧ c.fb2 ≤ 1099511627776 := by simpa [wI] using h
  refine ⟨fun _ h => by simp at h, fun hl => ?_⟩
  have hl' : (c.fh.length : Int) ≤ c.fi := by simpa using hl
  refine BC (by omega) okE ?_ (fun hP _ => ⟨h'.1.1, h'.1.2, h'.2, hl', hP⟩)
  intro j x hj hx X hX
  refine ⟨x, Vg rfl hx, fun _ h => by simp at h, fun hk => ?_⟩
  have hk' : 1 ≤ x.f3.size ∧ x.f3.size ≤ 32 := by simpa using hk
  refine ⟨fun _ h => by simp at h, fun hc => ?_⟩
  have hc1 : (1 ≤ x.fk ∧ x.fk ≤ 1099511627776) ∧ x.fb3 = 0 := by simpa [wI] using hc
  by_cases h0 : j = 0
  · subst h0
    refine ⟨x, fun h => by simp at h, fun _ h => by simp at h, fun _ => hX ⟨hk', hc1.1, by omega, by omega⟩⟩
  · obtain ⟨y, hy⟩ : ∃ y, c.fh[j - 1]? = some y := ⟨c.fh[j - 1]'(by omega), by simp⟩
    refine ⟨y, fun _ => Vg (j := j - 1) (by rw [Zq (by omega)]; omega) hy, fun _ h => by simp at h, fun _ => hX ⟨hk', hc1.1, by omega, by omega⟩⟩
def RH (c : QL) : Prop := (2 ≤ c.fi ∧ c.fi ≤ 32 ∧ c.fi % 2 = 0) ∧ (0 ≤ c.fp ∧ c.fp ≤ 1099511627776) ∧ (0 ≤ c.fb0 ∧ c.fb0 ≤ 1099511627776) ∧ c.fx.length ≤ 41 ∧ ∀ l ∈ c.fx, (l.length : Int) < c.fi ∧ ∀ s ∈ l, 1 ≤ s.size ∧ s.size ≤ 32
theorem XP (c : QL) : ∃ v, K8 c v ∧ (v = 0 → RH c) := by
  refine Bi (Post := fun v => v = 0 → RH c) ?_
  unfold Ks
  simp only [ZV, VW, exists_eq_left, Jj, JQ, jn]
  refine ⟨_, fun _ => rfl, _, fun _ => rfl, fun _ h => by simp at h, fun h => ?_⟩
  have h' : (((2 ≤ c.fi ∧ c.fi ≤ 32) ∧ ¬ c.fi.tmod 2 = 1) ∧ 0 ≤ c.fp ∧ c.fp ≤ 1099511627776) ∧ 0 ≤ c.fb0 ∧ c.fb0 ≤ 1099511627776 := by simpa [wI] using h
  have he : c.fi % 2 = 0 := by have := h'.1.1.2; rw [KF (by omega)] at this; omega
  refine ⟨fun _ h => by simp at h, fun hl => ?_⟩
  have hl' : c.fx.length ≤ 41 := by simp at hl; omega
  clear h hl
  refine ZW (I := fun k s => ∃ j : Nat, s.2 = (j : Int) ∧ j ≤ c.fx.length ∧ k = c.fx.length - j ∧ ∀ i, i < j → ∀ y, c.fx[i]? = some y → (y.length : Int) < c.fi ∧ ∀ s ∈ y, 1 ≤ s.size ∧ s.size ≤ 32) ?_ (k := c.fx.length) ⟨0, rfl, by omega, by omega, fun i hi => absurd hi (by omega)⟩
  rintro k ⟨tot, i⟩ ⟨j, hj, hj1, hk, hI⟩ X hX
  simp only at hj ⊢
  subst hj
  refine ⟨fun h => ?_, fun h => ?_⟩
  · have hlt : j < c.fx.length := by simp at h; omega
    obtain ⟨L, hL⟩ : ∃ x, c.fx[j]? = some x := ⟨c.fx[j], by simp [hlt]⟩
    have hx : ix c.fx (j : Int) L := Vg rfl hL
    refine ⟨L, hx, fun _ h => by simp at h, fun h2 => ?_⟩
    have h2' : (L.length : Int) < c.fi := by simpa using h2
    refine ZW (I := fun k s => ∃ m : Nat, s = (m : Int) ∧ m ≤ L.length ∧ k = L.length - m ∧ ∀ i, i < m → ∀ y, L[i]? = some y → 1 ≤ y.size ∧ y.size ≤ 32) ?_ (k := L.length) ⟨0, rfl, by omega, by omega, fun i hi => absurd hi (by omega)⟩
    rintro k2 s ⟨m, rfl, hm1, hk2, hI2⟩ X2 hX2
    refine ⟨L, hx, fun h3 => ?_, fun h3 => ?_⟩
    · have hm : m < L.length := by simp at h3; omega
      obtain ⟨y, hy⟩ : ∃ x, L[m]? = some x := ⟨L[m], by simp [hm]⟩
      refine ⟨L, hx, y, Vg rfl hy, fun _ h => by simp at h, fun h4 => ?_⟩
      have h4' : 1 ≤ y.size ∧ y.size ≤ 32 := by simpa using h4
      refine ⟨L, fun _ => hx, y, fun _ => Vg rfl hy, L, fun _ => hx, ?_⟩
      have go : X2 (IntKind.i64.wrap ((m : Int) + 1)) := by
        rw [Zq (by omega)]
        refine hX2 (L.length - (m + 1)) _ (by omega) ⟨m + 1, by omega, by omega, rfl, fun i hi z hz => ?_⟩
        by_cases e : i = m
        · subst e; rw [hy] at hz; cases hz; exact h4'
        · exact hI2 i (by omega) z hz
      by_cases h0 : m = 0
      · subst h0
        exact ⟨y, fun h => by simp at h, fun _ h => by simp at h, fun _ => go⟩
      · obtain ⟨z, hz⟩ : ∃ z, L[m - 1]? = some z := ⟨L[m - 1]'(by omega), by simp⟩
        exact ⟨z, fun _ => Vg (j := m - 1) (by rw [Zq (by omega)]; omega) hz, fun _ h => by simp at h, fun _ => go⟩
    · have hm : m = L.length := by simp at h3; omega
      subst hm
      refine ⟨L, hx, by rw [UV (by omega)]; omega, ?_⟩
      rw [Zq (n := (j : Int) + 1) (by omega)]
      refine hX (c.fx.length - (j + 1)) _ (by omega) ⟨j + 1, by simp, by omega, rfl, fun i hi z hz => ?_⟩
      by_cases e : i = j
      · subst e; rw [hL] at hz; cases hz
        refine ⟨h2', fun s hs => ?_⟩
        obtain ⟨i, hi⟩ := List.getElem?_of_mem hs
        have := hi
        rw [List.getElem?_eq_some_iff] at this
        exact hI2 i this.1 s hi
      · exact hI i (by omega) z hz
  · have hge : j = c.fx.length := by simp at h; omega
    have fin : RH c := by
      refine ⟨⟨h'.1.1.1.1, h'.1.1.1.2, he⟩, h'.1.2, h'.2, hl', fun l hl => ?_⟩
      obtain ⟨i, hi⟩ := List.getElem?_of_mem hl
      have := hi
      rw [List.getElem?_eq_some_iff] at this
      exact hI i (by rw [hge]; exact this.1) l hi
    by_cases h0 : c.fx.length = 0
    · refine ⟨[], fun h => by simp [h0] at h, fun _ h => by simp at h, fun _ => ⟨fun _ h => by simp at h, fun _ _ => fin⟩⟩
    · obtain ⟨z, hz⟩ : ∃ z, c.fx[c.fx.length - 1]? = some z := ⟨c.fx[c.fx.length - 1]'(by omega), by simp⟩
      exact ⟨z, fun _ => Vg (j := c.fx.length - 1) (by rw [Zq (by omega)]; omega) hz, fun _ h => by simp at h, fun _ => ⟨fun _ h => by simp at h, fun _ _ => fin⟩⟩
theorem AC (a b : List Int) (ha : a.length ≤ 1000000) : ∃ v, JV a b v := by
  obtain ⟨v, hv, _⟩ := F0 (Post := fun _ => True) (a0 := a) (a1 := b) (by
    unfold JU
    simp only [jn]
    refine ⟨fun _ => trivial, fun h => ?_⟩
    have hl : a.length = b.length := by simp at h; omega
    refine BC (by omega) (fun _ => True) ?_ (fun _ => trivial)
    intro j x hj hx X hX
    obtain ⟨y, hy⟩ : ∃ y, b[j]? = some y := ⟨b[j]'(by omega), by simp⟩
    exact ⟨x, Vg rfl hx, y, Vg rfl hy, fun _ => trivial, fun _ => hX trivial⟩)
  exact ⟨v, hv⟩
theorem Uh (a b : List Q5) (ha : a.length ≤ 1000000) : ∃ v, KR a b v := by
  obtain ⟨v, hv, _⟩ := Cw (Post := fun _ => True) (a0 := a) (a1 := b) (by
    unfold KQ
    simp only [jn]
    refine ⟨fun _ => trivial, fun h => ?_⟩
    have hl : a.length = b.length := by simp at h; omega
    refine BC (by omega) (fun _ => True) ?_ (fun _ => trivial)
    intro j x hj hx X hX
    obtain ⟨y, hy⟩ : ∃ y, b[j]? = some y := ⟨b[j]'(by omega), by simp⟩
    exact ⟨x, Vg rfl hx, y, Vg rfl hy, fun _ => trivial, fun _ => hX trivial⟩)
  exact ⟨v, hv⟩
theorem Ev (a b : QL) (ha : a.fx.length ≤ 1000000) (ha2 : ∀ l ∈ a.fx, l.length ≤ 1000000) : ∃ v, Vp a b v := by
  obtain ⟨v, hv, _⟩ := E8 (Post := fun _ => True) (a0 := a) (a1 := b) (by
    unfold Jx
    simp only [jn, JQ]
    refine ⟨fun _ => trivial, fun h => ?_⟩
    have hl : a.fx.length = b.fx.length := by
      have := (Bool.or_eq_false_iff.1 h).2
      simp at this; omega
    refine BC (by omega) (fun _ => True) ?_ (fun _ => trivial)
    intro j x hj hx X hX
    obtain ⟨y, hy⟩ : ∃ y, b.fx[j]? = some y := ⟨b.fx[j]'(by omega), by simp⟩
    have hxl : x.length ≤ 1000000 := ha2 x (List.mem_of_getElem? hx)
    refine ⟨x, Vg rfl hx, y, Vg rfl hy, fun _ => trivial, fun h2 => ?_⟩
    have hl2 : x.length = y.length := by simp at h2; omega
    refine ZW (I := fun k s => ∃ m : Nat, s = (m : Int) ∧ m ≤ x.length ∧ k = x.length - m) ?_ (k := x.length) ⟨0, rfl, by omega, by omega⟩
    rintro k s ⟨m, rfl, hm, hk⟩ X2 hX2
    refine ⟨x, Vg rfl hx, fun h3 => ?_, fun _ => hX trivial⟩
    have hm2 : m < x.length := by simp at h3; omega
    obtain ⟨p, hp⟩ : ∃ p, x[m]? = some p := ⟨x[m]'(by omega), by simp⟩
    obtain ⟨q, hq⟩ : ∃ q, y[m]? = some q := ⟨y[m]'(by omega), by simp⟩
    refine ⟨x, Vg rfl hx, p, Vg rfl hp, y, Vg rfl hy, q, Vg rfl hq, fun _ => trivial, fun _ => ?_⟩
    rw [Zq (by omega)]
    exact hX2 (x.length - (m + 1)) _ (by omega) ⟨m + 1, by simp, by omega, rfl⟩)
  exact ⟨v, hv⟩
def LJ (s : Qw) : Prop := s.fu.fa6.length ≤ 1000000 ∧ s.fa2.f0.length ≤ 1000000 ∧ s.fb1.fh.length ≤ 1000000 ∧ s.fv.fh.length ≤ 1000000 ∧ s.f7.fx.length ≤ 1000000 ∧ ∀ l ∈ s.f7.fx, l.length ≤ 1000000
theorem BW (a b : Qx) (ha : a.fa6.length ≤ 1000000) : ∃ v, Vj a b v := by
  obtain ⟨v, hv⟩ := AC a.fa6 b.fa6 ha
  exact ⟨_, v, fun _ => hv, rfl⟩
theorem DU (a b : QJ) (ha : a.f0.length ≤ 1000000) : ∃ v, Xs a b v := by
  obtain ⟨v, hv⟩ := AC a.f0 b.f0 ha
  exact ⟨_, v, fun _ => hv, rfl⟩
theorem GA (a b : QY) (ha : a.fh.length ≤ 1000000) : ∃ v, YI a b v := by
  obtain ⟨v, hv⟩ := Uh a.fh b.fh ha
  exact ⟨_, v, fun _ => hv, rfl⟩
theorem BX (a b : QD) (ha : a.fh.length ≤ 1000000) : ∃ v, Vk a b v := by
  obtain ⟨v, hv⟩ := Uh a.fh b.fh ha
  exact ⟨_, v, fun _ => hv, rfl⟩
theorem Ix (a b : Qw) (h : LJ a) : ∃ v, WP a b v := by
  obtain ⟨h1, h2, h3, h4, h5, h6⟩ := h
  obtain ⟨v1, e1⟩ := BW a.fu b.fu h1
  obtain ⟨v2, e2⟩ := DU a.fa2 b.fa2 h2
  obtain ⟨v3, e3⟩ := GA a.fb1 b.fb1 h3
  obtain ⟨v4, e4⟩ := BX a.fv b.fv h4
  obtain ⟨v5, e5⟩ := Ev a.f7 b.f7 h5 h6
  exact ⟨_, v1, fun _ => e1, v2, fun _ => e2, v3, fun _ => e3, v4, fun _ => e4, v5, fun _ => e5, rfl⟩
theorem Iy (s : Qw) : ∃ v, YJ s v := by
  unfold YJ Ad
  simp only [jn]
  generalize s.fa.fc = k
  by_cases k1 : k = 1
  · subst k1; exact ⟨_, fun _ => rfl, fun h => by simp at h⟩
  have e1 : (k == 1) = false := by simp [k1]
  by_cases k2 : k = 2
  · subst k2; exact ⟨_, fun h => by simp at h, fun _ => ⟨fun _ => rfl, fun h => by simp at h⟩⟩
  have e2 : (k == 2) = false := by simp [k2]
  by_cases k3 : k = 3
  · subst k3; exact ⟨_, fun h => by simp at h, fun _ => ⟨fun h => by simp at h, fun _ => ⟨fun _ => rfl, fun h => by simp at h⟩⟩⟩
  have e3 : (k == 3) = false := by simp [k3]
  by_cases k4 : k = 4
  · subst k4; exact ⟨_, fun h => by simp at h, fun _ => ⟨fun h => by simp at h, fun _ => ⟨fun h => by simp at h, fun _ => ⟨fun _ => rfl, fun h => by simp at h⟩⟩⟩⟩
  have e4 : (k == 4) = false := by simp [k4]
  by_cases k5 : k = 5
  · subst k5; exact ⟨_, fun h => by simp at h, fun _ => ⟨fun h => by simp at h, fun _ => ⟨fun h => by simp at h, fun _ => ⟨fun h => by simp at h, fun _ => ⟨fun _ => rfl, fun h => by simp at h⟩⟩⟩⟩⟩
  have e5 : (k == 5) = false := by simp [k5]
  by_cases k6 : k = 6
  · subst k6; exact ⟨_, fun h => by simp at h, fun _ => ⟨fun h => by simp at h, fun _ => ⟨fun h => by simp at h, fun _ => ⟨fun h => by simp at h, fun _ => ⟨fun h => by simp at h, fun _ => ⟨fun _ => rfl, fun h => by simp at h⟩⟩⟩⟩⟩⟩
  have e6 : (k == 6) = false := by simp [k6]
  simp only [e1, e2, e3, e4, e5, e6]
  exact ⟨_, fun h => by simp at h, fun _ => ⟨fun h => by simp at h, fun _ => ⟨fun h => by simp at h, fun _ => ⟨fun h => by simp at h, fun _ => ⟨fun h => by simp at h, fun _ => ⟨fun h => by simp at h, fun _ => rfl⟩⟩⟩⟩⟩⟩
theorem UW (s : Qw) (h : LJ s) : ∃ v, Jz s v ∧ (v = 0 → 1 ≤ s.fa.fc ∧ s.fa.fc ≤ 6) := by
  refine Ea (Post := fun v => v = 0 → 1 ≤ s.fa.fc ∧ s.fa.fc ≤ 6) (a0 := s) (by
    unfold Jy
    simp only [jn]
    refine ⟨_, VX s.fa, fun h e => by simp [e] at h, fun hpar => ?_⟩
    have hk : 1 ≤ s.fa.fc ∧ s.fa.fc ≤ 6 := by
      have hp : WA s.fa.fc s.fa.fi s.fa.fo s.fa.fq = 0 := by simpa using hpar
      unfold WA at hp; grind
    obtain ⟨v12, e12⟩ := Iy s
    obtain ⟨v13, e13⟩ := Ix s v12 h
    obtain ⟨v1, e1, _⟩ := XO s.f4
    obtain ⟨v2, e2, _⟩ := VE s.fu
    obtain ⟨v3, e3, _⟩ := Xr s.fa2
    obtain ⟨v4, e4, _⟩ := Ys s.fb1
    obtain ⟨v5, e5, _⟩ := VF s.fv
    obtain ⟨v6, e6, _⟩ := XP s.f7
    refine ⟨fun _ => ⟨v1, e1, ?_⟩, fun _ => ⟨fun _ => ⟨v2, e2, ?_⟩, fun _ => ⟨fun _ => ⟨v3, e3, ?_⟩, fun _ => ⟨fun _ => ⟨v4, e4, ?_⟩, fun _ => ⟨fun _ => ⟨v5, e5, ?_⟩, fun _ => ⟨fun _ => ⟨v6, e6, ?_⟩, fun _ => ?_⟩⟩⟩⟩⟩⟩
    all_goals exact ⟨fun _ _ => hk, fun _ => ⟨v12, fun _ => e12, v13, fun _ => e13, fun _ _ => hk, fun _ _ => hk⟩⟩)
theorem BN (x : Int) : 0 ≤ IntKind.u64.wrap x ∧ IntKind.u64.wrap x ≤ 18446744073709551615 := by rw [IntKind.wrap_u64]; omega
theorem CR (a : Int) : ∃ v, Wa a v ∧ 0 ≤ v ∧ v ≤ 18446744073709551615 := ⟨_, rfl, BN _⟩
theorem Mz (a b : Int) : ∃ v, Ag a b v := by
  obtain ⟨v, hv, _⟩ := CR (U1 .u64 (a) (IntKind.u64.wrap ((IntKind.u64.wrap ((IntKind.u64.wrap (b)) + (1))) * (15074714826142052245))))
  exact ⟨v, v, hv, rfl⟩
theorem DV (a : Int) : ∃ r, XW a r ∧ r.length = 256 := by
  refine I6 (Post := fun r => r.length = 256) ?_
  unfold XV
  simp only [jn]
  refine ZW (I := fun k s => (s.1.length : Int) = s.2 - 1 ∧ 1 ≤ s.2 ∧ s.2 ≤ 257 ∧ k = (257 - s.2).toNat) ?_ (k := 256) ⟨rfl, by decide, by decide, rfl⟩
  rintro k ⟨r, i⟩ ⟨h1, h2, h3, hk⟩ X hX
  simp only at h1 h2 h3 hk ⊢
  refine ⟨fun h => ?_, fun h => ?_⟩
  · have hi : i ≤ 256 := by simpa using h
    obtain ⟨v, hv, _⟩ := CR (IntKind.u64.wrap ((a) + (IntKind.u64.wrap ((i) * (11400714819323198485)))))
    refine ⟨v, hv, by simp; omega, ?_⟩
    rw [UV (by omega)]
    exact hX (257 - (i + 1)).toNat _ (by omega) ⟨by simp; omega, by simp only; omega, by simp only; omega, rfl⟩
  · have hi : ¬ i ≤ 256 := by simpa using h
    omega
theorem ER (l : List Int) (s : ByteArray) (hl : l.length = 256) (hs : s.size ≤ 1000000) : ∃ v, Yy l s v ∧ 0 ≤ v.1 ∧ v.1 ≤ 18446744073709551615 := by
  refine Ls (Post := fun v => 0 ≤ v.1 ∧ v.1 ≤ 18446744073709551615) ?_
  unfold Yx
  simp only [jn]
  refine ⟨fun _ => by decide, fun _ => ?_⟩
  obtain ⟨v, hv, _⟩ := K1 (l := l) (n := (s.size : Int) % 256) (by omega) (by omega)
  refine ⟨v, by rw [KF (by omega)]; exact hv, ?_⟩
  refine ZW (I := fun k s' => ∃ j : Nat, s'.2 = (j : Int) ∧ j ≤ s.size ∧ k = s.size - j) ?_ (k := s.size) ⟨0, rfl, by omega, by omega⟩
  rintro k ⟨h, i⟩ ⟨j, hj, hj1, hk⟩ X hX
  simp only at hj ⊢
  subst hj
  refine ⟨fun h => ?_, fun _ => ?_⟩
  · have hj2 : j < s.size := by simp at h; omega
    have hb := Bs hj2
    have hc : 0 ≤ Br s j ∧ Br s j ≤ 255 := by
      unfold Br; rw [dif_pos hj2]; have := (s[j]).toNat_lt; omega
    rw [Zq (n := (j : Int) + 1) (by omega)]
    have w : IntKind.i64.wrap (IntKind.i64.wrap (Br s j) + (j : Int)) = Br s j + j := by rw [Zq (n := Br s j) (by omega), Zq (by omega)]
    obtain ⟨v2, hv2, _⟩ := K1 (l := l) (n := (Br s j + j) % 256) (by omega) (by omega)
    refine ⟨Br s j, hb, v2, by rw [w, KF (by omega)]; exact hv2, ?_⟩
    exact hX (s.size - (j + 1)) _ (by omega) ⟨j + 1, by simp, by omega, rfl⟩
  · obtain ⟨m, hm, h0, h1⟩ := CR h
    exact ⟨m, hm, h0, h1⟩
theorem H6 (a b c : Int) (s : ByteArray) : ∃ v, Ya a b c s v ∧ (0 ≤ b ∧ b ≤ 7 → 1 ≤ c ∧ c ≤ 64 → 0 ≤ v.1 ∧ v.1 < c) := by
  refine GQ (Post := fun v => 0 ≤ b ∧ b ≤ 7 → 1 ≤ c ∧ c ≤ 64 → 0 ≤ v.1 ∧ v.1 < c) ?_
  unfold Xg
  simp only [ZV, VW, exists_eq_left, JQ]
  refine ⟨_, fun _ => rfl, fun _ _ h => (show 0 ≤ (0 : Int) ∧ (0 : Int) < c by omega), fun h => ⟨fun _ _ h => (show 0 ≤ (0 : Int) ∧ (0 : Int) < c by omega), fun h2 => ?_⟩⟩
  have h' : (0 ≤ b ∧ b ≤ 7) ∧ 1 ≤ c ∧ c ≤ 64 := by simpa [wI] using h
  have h2' : 1 ≤ s.size ∧ s.size ≤ 32 := by simpa using h2
  obtain ⟨v6, e6⟩ := Mz a b
  obtain ⟨v7, e7, l7⟩ := DV v6
  obtain ⟨v8, e8, h80, h81⟩ := ER v7 s l7 (by omega)
  refine ⟨v6, e6, v7, e7, v8, e8, by rw [UV (by omega)]; omega, fun _ _ => ?_⟩
  show 0 ≤ IntKind.i64.wrap (v8.1.tmod (IntKind.u64.wrap c)) ∧ IntKind.i64.wrap (v8.1.tmod (IntKind.u64.wrap c)) < c
  rw [UV (n := c) (by omega), KF h80]
  have m0 := Int.emod_nonneg v8.1 (b := c) (by omega)
  have m1 := Int.emod_lt_of_pos v8.1 (b := c) (by omega)
  rw [Zq (by omega)]
  exact ⟨m0, m1⟩
theorem Ar (a b c : Int) : ∃ v, XF a b c v := by
  unfold XF CI
  cases h : (bif decide ((Di a 0) > (Di c 0)) then true else decide ((Di b 0) > (IntKind.i64.wrap ((Di c 0) - (Di a 0)))))
  · refine ⟨(IntKind.i64.wrap ((Di a 0) + (Di b 0)), false), _, rfl, _, rfl, _, rfl, ?_⟩; exact ⟨fun h2 => (by rw [h] at h2; cases h2), fun _ => rfl⟩
  · refine ⟨(Di c 0, true), _, rfl, _, rfl, _, rfl, ?_⟩; exact ⟨fun _ => rfl, fun h2 => (by rw [h] at h2; cases h2)⟩
theorem XQ (a b : Int) : ∃ v, Jn a b v := by
  obtain ⟨v, hv⟩ := Ar a b 1099511627776
  exact ⟨_, v, hv, rfl⟩
theorem Ke (x : Qf) : ∃ v, Zl x v ∧ (v = 0 → (1 ≤ x.f3.size ∧ x.f3.size ≤ 32) ∧ 1 ≤ x.f5 ∧ x.f5 ≤ 4294967295) :=
  ⟨_, WM x, fun h => by unfold Fv at h; grind⟩
theorem AS (c : Qx) (x : Qf) : ∃ v, KN c x v ∧ v.1.fa6.length ≤ 1000 := by
  refine AI (Post := fun v => v.1.fa6.length ≤ 1000) ?_
  unfold Kk
  simp only [jn]
  obtain ⟨v2, e2, ok⟩ := VE c
  obtain ⟨v4, e4, ok4⟩ := Ke x
  refine ⟨v2, e2, fun _ => by simp, fun h2 => ⟨v4, e4, fun _ => by simp, fun h4 => ?_⟩⟩
  obtain ⟨hd, hs, hl, hx⟩ := ok (by simpa using h2)
  have hm := Iw hd hs
  refine ⟨by omega, ?_⟩
  refine ZW (I := fun k s => 0 ≤ s.1 ∧ s.1 ≤ c.fo ∧ k = (c.fo - s.1).toNat ∧ s.2.1.length = c.fa6.length) ?_ (k := c.fo.toNat) ⟨by simp, by simp only; omega, by simp, rfl⟩
  rintro k ⟨i, l, f⟩ ⟨h0, h1, hk, hlen⟩ X hX
  simp only at h0 h1 hk hlen ⊢
  refine ⟨fun h => ?_, fun _ => by omega⟩
  have hi : i < c.fo := by simpa using h
  obtain ⟨v, hv, hr⟩ := H6 c.fq i c.fi x.f3
  obtain ⟨r0, r1⟩ := hr (by omega) hs
  have p1 : 0 ≤ i * c.fi := Int.mul_nonneg h0 (by omega)
  have p2 : (i + 1) * c.fi ≤ c.fo * c.fi := Int.mul_le_mul_of_nonneg_right (by omega) (by omega)
  rw [Int.add_mul, Int.one_mul] at p2
  have w : IntKind.i64.wrap (IntKind.i64.wrap (i * c.fi) + v.1) = i * c.fi + v.1 := by rw [Zq (n := i * c.fi) (by omega), Zq (by omega)]
  obtain ⟨y, hy, _⟩ := K1 (l := l) (n := i * c.fi + v.1) (by omega) (by omega)
  obtain ⟨z, hz⟩ := Ar y x.f5 4294967295
  refine ⟨i * c.fi + v.1, ⟨v, hv, w.symm⟩, y, hy, z, hz, y, hy, ?_⟩
  rw [Zq (by omega)]
  exact hX (c.fo - (i + 1)).toNat _ (by omega) ⟨by simp only; omega, by simp only; omega, rfl, by simpa using hlen⟩
theorem shr_p {p v : Int} (hp : 2 ≤ p ∧ p ≤ 8) (h0 : 0 ≤ v) (h1 : v ≤ 18446744073709551615) : 0 ≤ QF .u64 v (IntKind.u64.wrap (IntKind.i64.wrap (64 - p))) ∧ QF .u64 v (IntKind.u64.wrap (IntKind.i64.wrap (64 - p))) < Vh .i64 1 (IntKind.u64.wrap p) := by
  have h : p = 2 ∨ p = 3 ∨ p = 4 ∨ p = 5 ∨ p = 6 ∨ p = 7 ∨ p = 8 := by omega
  have hd : ∀ m : Int, 0 < m → v.fdiv m = v / m := fun m hm => Int.fdiv_eq_ediv_of_nonneg v (by omega)
  rcases h with rfl | rfl | rfl | rfl | rfl | rfl | rfl
  · have e1 : IntKind.u64.wrap (IntKind.i64.wrap (64 - 2)) = 62 := by decide
    have e2 : Vh .i64 1 (IntKind.u64.wrap 2) = 4 := by decide
    rw [e1, e2]; show 0 ≤ v.fdiv 4611686018427387904 ∧ v.fdiv 4611686018427387904 < 4; rw [hd _ (by decide)]; omega
  · have e1 : IntKind.u64.wrap (IntKind.i64.wrap (64 - 3)) = 61 := by decide
    have e2 : Vh .i64 1 (IntKind.u64.wrap 3) = 8 := by decide
    rw [e1, e2]; show 0 ≤ v.fdiv 2305843009213693952 ∧ v.fdiv 2305843009213693952 < 8; rw [hd _ (by decide)]; omega
  · have e1 : IntKind.u64.wrap (IntKind.i64.wrap (64 - 4)) = 60 := by decide
    have e2 : Vh .i64 1 (IntKind.u64.wrap 4) = 16 := by decide
    rw [e1, e2]; show 0 ≤ v.fdiv 1152921504606846976 ∧ v.fdiv 1152921504606846976 < 16; rw [hd _ (by decide)]; omega
  · have e1 : IntKind.u64.wrap (IntKind.i64.wrap (64 - 5)) = 59 := by decide
    have e2 : Vh .i64 1 (IntKind.u64.wrap 5) = 32 := by decide
    rw [e1, e2]; show 0 ≤ v.fdiv 576460752303423488 ∧ v.fdiv 576460752303423488 < 32; rw [hd _ (by decide)]; omega
  · have e1 : IntKind.u64.wrap (IntKind.i64.wrap (64 - 6)) = 58 := by decide
    have e2 : Vh .i64 1 (IntKind.u64.wrap 6) = 64 := by decide
    rw [e1, e2]; show 0 ≤ v.fdiv 288230376151711744 ∧ v.fdiv 288230376151711744 < 64; rw [hd _ (by decide)]; omega
  · have e1 : IntKind.u64.wrap (IntKind.i64.wrap (64 - 7)) = 57 := by decide
    have e2 : Vh .i64 1 (IntKind.u64.wrap 7) = 128 := by decide
    rw [e1, e2]; show 0 ≤ v.fdiv 144115188075855872 ∧ v.fdiv 144115188075855872 < 128; rw [hd _ (by decide)]; omega
  · have e1 : IntKind.u64.wrap (IntKind.i64.wrap (64 - 8)) = 56 := by decide
    have e2 : Vh .i64 1 (IntKind.u64.wrap 8) = 256 := by decide
    rw [e1, e2]; show 0 ≤ v.fdiv 72057594037927936 ∧ v.fdiv 72057594037927936 < 256; rw [hd _ (by decide)]; omega
theorem Fh (p a : Int) (s : ByteArray) (hp : 2 ≤ p ∧ p ≤ 8) : ∃ v, Xa p a s v ∧ 0 ≤ v.1 ∧ v.1 < Vh .i64 1 (IntKind.u64.wrap p) := by
  have hs4 := P3 hp
  refine F4 (Post := fun v => 0 ≤ v.1 ∧ v.1 < Vh .i64 1 (IntKind.u64.wrap p)) ?_
  unfold JX
  simp only [ZV, VW, exists_eq_left, jn]
  refine ⟨fun _ => by omega, fun _ => ⟨fun _ => by omega, fun h2 => ?_⟩⟩
  have h2' : 1 ≤ s.size ∧ s.size ≤ 32 := by simpa using h2
  obtain ⟨v5, e5, l5⟩ := DV a
  obtain ⟨v6, e6, h60, h61⟩ := ER v5 s l5 (by omega)
  refine ⟨v5, e5, v6, e6, ?_⟩
  have sh := shr_p hp h60 h61
  refine ZW (I := fun k s => -1 ≤ s.2 ∧ s.2 ≤ 63 ∧ k = (s.2 + 1).toNat) ?_ (k := (64 - p).toNat) ⟨by simp only; rw [Zq (by omega)]; omega, by simp only; rw [Zq (by omega)]; omega, by simp only; rw [Zq (by omega)]; omega⟩
  rintro k ⟨n, i⟩ ⟨h0, h1, hk⟩ X hX
  simp only at h0 h1 hk ⊢
  refine ⟨fun h => by rw [UV (by simp at h; omega)]; simp at h; omega, fun h => ?_, fun h => ?_⟩
  · have hi : 0 ≤ i := by
      cases hd : decide (i ≥ 0) with
      | true => simpa using hd
      | false => rw [hd] at h; cases h
    rw [Zq (n := i - 1) (by omega)]
    exact hX (i - 1 + 1).toNat _ (by omega) ⟨by simp only; omega, by simp only; omega, rfl⟩
  · refine ⟨by rw [UV (by rw [Zq (by omega)]; omega), Zq (by omega)]; omega, ?_⟩
    rw [Zq (n := QF .u64 v6.1 _) (by omega)]
    exact sh
theorem BY (c : QJ) (x : Qf) : ∃ v, Jq c x v ∧ v.1.f0.length ≤ 1000 := by
  refine BU (Post := fun v => v.1.f0.length ≤ 1000) ?_
  unfold KH
  obtain ⟨v2, e2, ok⟩ := Xr c
  obtain ⟨v4, e4, ok4⟩ := Ke x
  refine ⟨v2, e2, fun _ => by simp, fun h2 => ⟨v4, e4, fun _ => by simp, fun h4 => ?_⟩⟩
  obtain ⟨hp, hl, hlen, hx⟩ := ok (by simpa using h2)
  obtain ⟨v5, e5, h50, h51⟩ := Fh c.f6 c.fq x.f3 hp
  obtain ⟨y, hy, _⟩ := K1 (l := c.f0) (n := v5.1) h50 (by omega)
  exact ⟨v5, e5, by omega, y, hy, y, hy, by simp; omega⟩
theorem CS (t : QV) (x : Qf) : ∃ v, JJ t x v := by
  obtain ⟨v, hv, _⟩ := CJ (Post := fun _ => True) (a0 := t) (a1 := x) (by
    unfold KW
    obtain ⟨v2, e2, ok⟩ := XO t
    obtain ⟨v4, e4, ok4⟩ := Ke x
    obtain ⟨a1, h1⟩ := Ar t.fp x.f5 4294967295
    obtain ⟨a2, h2⟩ := Ar t.fj 1 4294967295
    exact ⟨v2, e2, fun _ => trivial, fun _ => ⟨v4, e4, fun _ => trivial, fun _ => ⟨_, ⟨a1, h1, a2, h2, rfl⟩, trivial⟩⟩⟩)
  exact ⟨v, hv⟩
theorem Yt {α : Type} {l : List α} {j : Nat} (h : j < l.length) : ∃ x, ix l (j : Int) x := by
  obtain ⟨x, hx, _⟩ := K1 (l := l) (n := (j : Int)) (by omega) (by omega)
  exact ⟨x, hx⟩
theorem Iz (c : QY) (h : c.fh.length ≤ 1000) : ∃ v, YK c v := by
  obtain ⟨v, hv, _⟩ := I7 (Post := fun _ => True) (a0 := c) (by
    unfold XX
    simp only [JQ]
    refine ⟨fun _ => trivial, fun h2 => ?_⟩
    have h0 : c.fh.length ≠ 0 := by
      intro e; rw [e] at h2; simp at h2
    rw [Zq (by omega)]
    obtain ⟨x, hx, _⟩ := K1 (l := c.fh) (n := (c.fh.length : Int) - 1) (by omega) (by omega)
    exact ⟨x, hx, trivial⟩)
  exact ⟨v, hv⟩
theorem BE (l : List Q5) (hl : l.length ≤ 1000) : ∃ r, Wx l r ∧ r.length ≤ 1000 := by
  refine Lu (Post := fun r => r.length ≤ 1000) ?_
  unfold Yz
  simp only [jn]
  refine ZW (I := fun k s => ∃ j : Nat, s.2 = (j : Int) ∧ j ≤ l.length ∧ k = l.length - j ∧ s.1.length = j) ?_ (k := l.length) ⟨0, rfl, by omega, by omega, rfl⟩
  rintro k ⟨a, i⟩ ⟨j, hj, hj1, hk, ha⟩ X hX
  simp only at hj ha ⊢
  subst hj
  refine ⟨fun h => ?_, fun _ => by omega⟩
  have hj2 : j < l.length := by simp at h; omega
  obtain ⟨x, hx⟩ := Yt hj2
  refine ⟨x, hx, by simp; omega, ?_⟩
  have w0 : IntKind.i64.wrap (((a ++ [x]).length : Int) - 1) = (j : Int) := by simp [ha]; rw [Zq (by omega)]
  rw [w0]
  refine ZW (I := fun k s => ∃ m : Nat, s.2 = (m : Int) ∧ m ≤ j ∧ k = m ∧ s.1.length = j + 1) ?_ (k := j) ⟨j, rfl, by omega, rfl, by simp [ha]⟩
  rintro k2 ⟨b, i2⟩ ⟨m, hm, hm1, hk2, hb⟩ X2 hX2
  simp only at hm hb ⊢
  subst hm
  have done : X (b, IntKind.i64.wrap ((j : Int) + 1)) := by
    rw [Zq (by omega)]
    exact hX (l.length - (j + 1)) _ (by omega) ⟨j + 1, by simp, by omega, rfl, hb⟩
  by_cases h0 : m = 0
  · subst h0
    exact ⟨x, fun h => by simp at h, x, fun h => by simp at h, false, fun h => by simp at h, fun h => by simp at h, fun _ => done⟩
  · obtain ⟨p, hp⟩ := Yt (l := b) (j := m) (by omega)
    obtain ⟨q, hq⟩ := Yt (l := b) (j := m - 1) (by omega)
    have wm : IntKind.i64.wrap ((m : Int) - 1) = ((m - 1 : Nat) : Int) := by rw [Zq (by omega)]; omega
    obtain ⟨z, hz⟩ := Yt (l := List.set b (Int.toNat (m : Int)) q) (j := m - 1) (by simp; omega)
    rw [wm]
    refine ⟨p, fun _ => hp, q, fun _ => hq, _, fun _ => rfl, fun _ => ⟨q, hq, p, hp, p, hp, z, hz, ?_⟩, fun _ => done⟩
    exact hX2 (m - 1) _ (by omega) ⟨m - 1, rfl, by omega, rfl, by simpa using hb⟩
theorem Ew (c : QY) (x : Qf) : ∃ v, Vt c x v ∧ v.1.fh.length ≤ 1000 := by
  refine Eh (Post := fun v => v.1.fh.length ≤ 1000) ?_
  unfold JC
  simp only [jn]
  obtain ⟨v2, e2, ok⟩ := Ys c
  obtain ⟨v4, e4, ok4⟩ := Ke x
  refine ⟨v2, e2, fun _ => by simp, fun h2 => ⟨v4, e4, fun _ => by simp, fun h4 => ?_⟩⟩
  obtain ⟨hs, ht, hl, hx⟩ := ok (by simpa using h2)
  obtain ⟨v6, e6⟩ := XQ c.fp x.f5
  obtain ⟨v7, e7, h70, h71⟩ := BD c.fh x.f3 (by omega)
  refine ⟨by omega, v6, e6, v7, e7, fun h => ?_, fun h => ⟨fun h3 => ?_, fun h3 => ?_⟩⟩
  · have h' : 0 ≤ v7 := by simpa using h
    obtain ⟨y, hy, _⟩ := K1 (l := c.fh) (n := v7) h' h71
    obtain ⟨z, hz⟩ := XQ y.fk x.f5
    obtain ⟨r, hr, hr2⟩ := BE (List.set c.fh (Int.toNat v7) (Q5.mk (y.f3) (z.1) (y.fb3))) (by simp; omega)
    exact ⟨y, hy, z, hz, y, hy, r, hr, hr2⟩
  · obtain ⟨r, hr, hr2⟩ := BE (c.fh ++ [Q5.mk (x.f3) (x.f5) (0)]) (by simp; omega)
    exact ⟨by simp; omega, r, hr, hr2⟩
  · have h3' : c.fi ≤ c.fh.length := by simpa using h3
    obtain ⟨v13, e13⟩ := Iz c (by omega)
    obtain ⟨v14, e14⟩ := XQ v13 x.f5
    have w : IntKind.i64.wrap ((c.fh.length : Int) - 1) = (c.fh.length : Int) - 1 := Zq (by omega)
    obtain ⟨y, hy, _⟩ := K1 (l := c.fh) (n := (c.fh.length : Int) - 1) (by omega) (by omega)
    rw [w]
    obtain ⟨r, hr, hr2⟩ := BE (List.set c.fh (Int.toNat ((c.fh.length : Int) - 1)) (Q5.mk (x.f3) (v14.1) (Y7 (v13) (IntKind.i64.wrap ((v14.1) - (1)))))) (by simp; omega)
    exact ⟨v13, e13, v14, e14, y, hy, r, hr, hr2⟩
theorem DW (l : List Q5) (x : Q5) (hl : l.length ≤ 900) : ∃ r, XZ l x r ∧ r.length ≤ 1000 := by
  refine I9 (Post := fun r => r.length ≤ 1000) ?_
  unfold XY
  simp only [jn]
  refine ZW (I := fun k s => ∃ j : Nat, s.2.2 = (j : Int) ∧ j ≤ l.length ∧ k = l.length - j ∧ s.1.length ≤ j + (if s.2.1 = true then 1 else 0)) ?_ (k := l.length) ⟨0, rfl, by omega, by omega, by simp⟩
  rintro k ⟨a, f, i⟩ ⟨j, hj, hj1, hk, ha⟩ X hX
  simp only at hj ha ⊢
  subst hj
  have hf : (if f = true then 1 else 0 : Nat) ≤ 1 := by cases f <;> simp
  refine ⟨fun h => ?_, fun h => ⟨fun _ => ⟨by simp; omega, by simp; omega⟩, fun _ => by omega⟩⟩
  have hj2 : j < l.length := by simp at h; omega
  obtain ⟨y, hy⟩ := Yt hj2
  refine ⟨y, fun _ => hy, fun h2 => ⟨by simp; omega, y, hy, by simp; omega, ?_⟩, fun h2 => ⟨y, hy, by simp; omega, ?_⟩⟩
  · rw [Zq (by omega)]
    have hff : f = false := by cases f <;> simp_all
    subst hff
    refine hX (l.length - (j + 1)) _ (by omega) ⟨j + 1, by simp, by omega, rfl, ?_⟩
    simp at ha ⊢; omega
  · rw [Zq (by omega)]
    refine hX (l.length - (j + 1)) _ (by omega) ⟨j + 1, by simp, by omega, rfl, ?_⟩
    simp; omega
theorem IA (l : List Q5) (n : Int) (hl : l.length ≤ 900) : ∃ r, YL l n r ∧ r.length ≤ l.length := by
  refine Ia (Post := fun r => r.length ≤ l.length) ?_
  unfold Y0
  simp only [jn]
  refine ZW (I := fun k s => ∃ j : Nat, s.2 = (j : Int) ∧ j ≤ l.length ∧ k = l.length - j ∧ s.1.length ≤ j) ?_ (k := l.length) ⟨0, rfl, by omega, by omega, by simp⟩
  rintro k ⟨a, i⟩ ⟨j, hj, hj1, hk, ha⟩ X hX
  simp only at hj ha ⊢
  subst hj
  refine ⟨fun h => ?_, fun _ => by omega⟩
  have hj2 : j < l.length := by simp at h; omega
  obtain ⟨y, hy⟩ := Yt hj2
  rw [Zq (by omega)]
  refine ⟨y, hy, fun _ => ⟨y, hy, y, hy, by simp; omega, ?_⟩, fun _ => ?_⟩
  · exact hX (l.length - (j + 1)) _ (by omega) ⟨j + 1, by simp, by omega, rfl, by simp; omega⟩
  · exact hX (l.length - (j + 1)) _ (by omega) ⟨j + 1, by simp, by omega, rfl, by simp only; omega⟩
theorem AT (c : QD) (x : Qf) : ∃ v, KO c x v ∧ v.1.fh.length ≤ 1000 := by
  refine AK (Post := fun v => v.1.fh.length ≤ 1000) ?_
  unfold Kl
  simp only [jn]
  obtain ⟨v2, e2, ok⟩ := VF c
  obtain ⟨v4, e4, ok4⟩ := Ke x
  refine ⟨v2, e2, fun _ => by simp, fun h2 => ⟨v4, e4, fun _ => by simp, fun h4 => ?_⟩⟩
  obtain ⟨hs, ht, hlo, hl, hx⟩ := ok (by simpa using h2)
  obtain ⟨v6, e6⟩ := XQ c.fp x.f5
  obtain ⟨v7, e7, h70, h71⟩ := BD c.fh x.f3 (by omega)
  refine ⟨by omega, v6, e6, v7, e7, fun h => ?_, fun h => ⟨fun h3 => ?_, fun h3 => ?_⟩⟩
  · have h' : 0 ≤ v7 := by simpa using h
    obtain ⟨y, hy, _⟩ := K1 (l := c.fh) (n := v7) h' h71
    obtain ⟨z, hz⟩ := XQ y.fk x.f5
    exact ⟨y, hy, z, hz, y, hy, by simp; omega⟩
  · obtain ⟨r, hr, hr2⟩ := DW c.fh (Q5.mk (x.f3) (x.f5) (0)) (by omega)
    exact ⟨r, hr, hr2⟩
  · refine ZW (I := fun k s => ∃ j : Nat, s.2.1 = (j : Int) ∧ j ≤ c.fh.length ∧ k = c.fh.length - j ∧ s.2.2 = c.fh) ?_ (k := c.fh.length) ⟨0, rfl, by omega, by omega, rfl⟩
    rintro k ⟨n, i, l⟩ ⟨j, hj, hj1, hk, hl2⟩ X hX
    simp only at hj hl2 ⊢
    subst hj; subst hl2
    refine ⟨fun h => ?_, fun _ => ?_⟩
    · have hj2 : j < c.fh.length := by simp at h; omega
      obtain ⟨y, hy⟩ := Yt hj2
      refine ⟨y, hy, ?_⟩
      rw [Zq (by omega)]
      exact hX (c.fh.length - (j + 1)) _ (by omega) ⟨j + 1, by simp, by omega, rfl, rfl⟩
    · obtain ⟨v18, e18, l18⟩ := IA c.fh n (by omega)
      obtain ⟨v19, e19⟩ := XQ c.fb2 n
      obtain ⟨r, hr, hr2⟩ := DW v18 (Q5.mk (x.f3) (IntKind.i64.wrap ((x.f5) - n)) (0)) (by omega)
      exact ⟨v18, e18, v19, e19, fun _ => ⟨r, hr, hr2⟩, fun _ => (show v18.length ≤ 1000 by omega)⟩
theorem H7 (w : Int) : ∃ r, Yb w r ∧ r.length ≤ 63 ∧ ∀ x ∈ r, 0 ≤ x ∧ x ≤ 62 := by
  refine GT (Post := fun r => r.length ≤ 63 ∧ ∀ x ∈ r, 0 ≤ x ∧ x ≤ 62) ?_
  unfold Xh
  simp only [jn]
  refine ZW (I := fun k s => ∃ j : Nat, s.2 = (j : Int) ∧ j ≤ 63 ∧ k = 63 - j ∧ s.1.length ≤ j ∧ ∀ x ∈ s.1, 0 ≤ x ∧ x ≤ 62) ?_ (k := 63) ⟨0, rfl, by omega, by omega, by simp, by simp⟩
  rintro k ⟨a, i⟩ ⟨j, hj, hj1, hk, ha, hx⟩ X hX
  simp only at hj ha hx ⊢
  subst hj
  refine ⟨fun h => ?_, fun _ => ⟨by omega, hx⟩⟩
  have hj2 : j < 63 := by
    cases hd : decide ((j : Int) < 63) with
    | true => simp at hd; omega
    | false => rw [hd] at h; cases h
  rw [Zq (by omega)]
  refine ⟨by rw [UV (by omega)]; omega, fun _ => ⟨by simp; omega, ?_⟩, fun _ => ?_⟩
  · refine hX (63 - (j + 1)) _ (by omega) ⟨j + 1, by simp, by omega, rfl, by simp; omega, ?_⟩
    intro x hx2
    rcases List.mem_append.1 hx2 with h | h
    · exact hx x h
    · simp at h; omega
  · exact hX (63 - (j + 1)) _ (by omega) ⟨j + 1, by simp, by omega, rfl, by simp only; omega, hx⟩
theorem H8 (l : List ByteArray) (hl : l.length ≤ 1000000) : ∃ r, Xj l r ∧ r.length = l.length := by
  refine GV (Post := fun r => r.length = l.length) ?_
  unfold Xi
  simp only [jn]
  refine ZW (I := fun k s => ∃ j : Nat, s.2 = (j : Int) ∧ j ≤ l.length ∧ k = l.length - j ∧ s.1.length = j) ?_ (k := l.length) ⟨0, rfl, by omega, by omega, rfl⟩
  rintro k ⟨a, i⟩ ⟨j, hj, hj1, hk, ha⟩ X hX
  simp only at hj ha ⊢
  subst hj
  refine ⟨fun h => ?_, fun h => by simp at h; omega⟩
  have hj2 : j < l.length := by simp at h; omega
  obtain ⟨x, hx⟩ := Yt hj2
  refine ⟨x, hx, by simp; omega, ?_⟩
  have w0 : IntKind.i64.wrap (((a ++ [x]).length : Int) - 1) = (j : Int) := by simp [ha]; rw [Zq (by omega)]
  rw [w0]
  refine ZW (I := fun k s => ∃ m : Nat, s.2 = (m : Int) ∧ m ≤ j ∧ k = m ∧ s.1.length = j + 1) ?_ (k := j) ⟨j, rfl, by omega, rfl, by simp [ha]⟩
  rintro k2 ⟨b, i2⟩ ⟨m, hm, hm1, hk2, hb⟩ X2 hX2
  simp only at hm hb ⊢
  subst hm
  have done : X (b, IntKind.i64.wrap ((j : Int) + 1)) := by
    rw [Zq (by omega)]
    exact hX (l.length - (j + 1)) _ (by omega) ⟨j + 1, by simp, by omega, rfl, hb⟩
  by_cases h0 : m = 0
  · subst h0
    exact ⟨x, fun h => by simp at h, x, fun h => by simp at h, fun h => by simp at h, fun _ => done⟩
  · obtain ⟨p, hp⟩ := Yt (l := b) (j := m) (by omega)
    obtain ⟨q, hq⟩ := Yt (l := b) (j := m - 1) (by omega)
    have wm : IntKind.i64.wrap ((m : Int) - 1) = ((m - 1 : Nat) : Int) := by rw [Zq (by omega)]; omega
    obtain ⟨z, hz⟩ := Yt (l := List.set b (Int.toNat (m : Int)) q) (j := m - 1) (by simp; omega)
    rw [wm]
    refine ⟨p, fun _ => hp, q, fun _ => hq, fun _ => ⟨q, hq, p, hp, p, hp, z, hz, ?_⟩, fun _ => done⟩
    exact hX2 (m - 1) _ (by omega) ⟨m - 1, rfl, by omega, rfl, by simpa using hb⟩
theorem tdiv8 {a : Int} (h : 0 ≤ a) : a.tdiv 8 = a / 8 := Int.tdiv_eq_ediv_of_nonneg h
theorem MA (l : List Int) (p : Int) (hl : l.length ≤ 1000000) (h1 : p ≤ 4611686018427387904) (h2 : -4611686018427387904 ≤ p) : ∃ v, Wc l p v ∧ 0 ≤ v ∧ v ≤ 1 := by
  refine Mp (Post := fun v => 0 ≤ v ∧ v ≤ 1) ?_
  unfold Wb
  simp only [bA1, JQ]
  refine ⟨fun _ => by omega, fun h => ?_⟩
  have h0 : 0 ≤ p := by
    cases hd : decide (p < 0) with
    | false => simpa using hd
    | true => rw [hd] at h; cases h
  have hw : IntKind.i64.wrap (p.tdiv 8) = p / 8 := by rw [tdiv8 h0, Zq (by omega)]
  rw [hw] at h ⊢
  have h3 : p / 8 < l.length := by
    have := (Bool.or_eq_false_iff.1 h).2
    simpa using this
  obtain ⟨x, hx, _⟩ := K1 (l := l) (n := p / 8) (by omega) h3
  refine ⟨x, hx, ?_, by omega⟩
  rw [KF h0, Zq (by omega), UV (by omega)]; omega
theorem H9 (a0 : List (List ByteArray)) (a1 a2 : Int) (a3 : List Int) (a4 : Int) (h0 : a0.length ≤ 1000) (hM : ∀ l ∈ a0, l.length ≤ 1000) (h3 : a3.length ≤ 1000000) (h4 : 0 ≤ a4 ∧ a4 ≤ 1073741824) :
    ∃ r, Yc a0 a1 a2 a3 a4 r ∧ r.1.length ≤ 3000 ∧ ∀ l ∈ r.1, l.length ≤ 3000 := by
  refine GX (Post := fun r => r.1.length ≤ 3000 ∧ ∀ l ∈ r.1, l.length ≤ 3000) ?_
  unfold Xk
  simp only [jn]
  have trim : ∀ (sl po : Int) (out : List (List ByteArray)), out.length ≤ 3000 → (∀ l ∈ out, l.length ≤ 3000) →
      lp (fun (X24 : (List (List ByteArray)) → Prop) (s24 : (List (List ByteArray))) => ∃ (v26 : (List ByteArray)), ((decide ((((s24).length : Int)) > (0))) = true → ix (s24) (IntKind.i64.wrap ((((s24).length : Int)) - (1))) v26) ∧ ((((bif decide ((((s24).length : Int)) > (0)) then ((((v26).length : Int)) == (0)) else false)) = true → ((0 : Int) ≤ (IntKind.i64.wrap ((((s24).length : Int)) - (1))) ∧ (IntKind.i64.wrap ((((s24).length : Int)) - (1)) : Int) ≤ ((s24).length : Int)) ∧ X24 ((List.take (Int.toNat (IntKind.i64.wrap ((((s24).length : Int)) - (1)))) (s24)))) ∧ (((bif decide ((((s24).length : Int)) > (0)) then ((((v26).length : Int)) == (0)) else false)) = false → s24.length ≤ 3000 ∧ ∀ l ∈ s24, l.length ≤ 3000))) out := by
    intro sl po out ho hl
    refine ZW (I := fun k s => s.length ≤ 3000 ∧ (∀ l ∈ s, l.length ≤ 3000) ∧ k = s.length) ?_ (k := out.length) ⟨ho, hl, rfl⟩
    rintro k s ⟨hs, hl, hk⟩ X hX
    by_cases hz : s.length = 0
    · refine ⟨[], fun h => by simp [hz] at h, fun h => by simp [hz] at h, fun _ => ⟨hs, hl⟩⟩
    · have w : IntKind.i64.wrap ((s.length : Int) - 1) = ((s.length - 1 : Nat) : Int) := by rw [Zq (by omega)]; omega
      rw [w]
      obtain ⟨x, hx⟩ := Yt (l := s) (j := s.length - 1) (by omega)
      refine ⟨x, fun _ => hx, fun _ => ⟨by omega, ?_⟩, fun _ => ⟨hs, hl⟩⟩
      refine hX (s.length - 1) _ (by omega) ⟨by simp; omega, fun l h => hl l (List.mem_of_mem_take h), by simp⟩
  refine ZW (I := fun k s => ∃ i : Nat, s.2.2.2.2 = (i : Int) ∧ s.2.2.2.1.length ≤ 1000 ∧ i + s.2.2.2.1.length ≤ a0.length + 1000 ∧ s.2.2.1.length = i ∧ (∀ l ∈ s.2.2.1, l.length ≤ 3000) ∧ (a4 ≤ s.2.1 ∧ s.2.1 ≤ a4 + i) ∧ k = (a0.length - i) * 1001 + s.2.2.2.1.length) ?_ (k := a0.length * 1001) ⟨0, rfl, by simp, by simp, rfl, by simp, by simp, by simp⟩
  rintro k ⟨sl, po, out, carry, i'⟩ ⟨i, hi, hc, hic, hout, hlen, hpo, hk⟩ X hX
  simp only at hi hc hic hout hlen hpo hk ⊢
  subst hi
  refine ⟨fun h => ?_, fun _ => trim sl po out (by omega) hlen⟩
  have tail : ∀ merged : List ByteArray, merged.length ≤ 2000 → (i < a0.length ∨ (merged.length = carry.length ∧ 0 < carry.length)) →
      ∃ v9, Xj merged v9 ∧ ((decide ((v9.length : Int) < a1) = true → (out.length + [v9].length) * 24 ≤ 140737488355328 ∧ X (sl, po, out ++ [v9], [], IntKind.i64.wrap ((i : Int) + 1))) ∧
        (decide ((v9.length : Int) < a1) = false → ∃ v13, Wc a3 po v13 ∧
          lp (fun (X14 : (List (List ByteArray)) × (List ByteArray) × (List ByteArray) × Int → Prop) (s14 : (List (List ByteArray)) × (List ByteArray) × (List ByteArray) × Int) => (((decide ((s14.2.2.2) < (IntKind.i64.wrap ((IntKind.i64.wrap ((((v9).length : Int)).tdiv (2))) * (2))))) = true → ∃ (v17 : ByteArray), ix (s14.2.2.1) (s14.2.2.2) v17 ∧ (((s14.2.1).length + ([(v17)]).length) * 16 ≤ 140737488355328) ∧ X14 ((s14.1), ((s14.2.1) ++ ([(v17)])), (s14.2.2.1), (IntKind.i64.wrap ((s14.2.2.2) + (2))))) ∧ ((decide ((s14.2.2.2) < (IntKind.i64.wrap ((IntKind.i64.wrap ((((v9).length : Int)).tdiv (2))) * (2))))) = false →
            ((0 : Int) ≤ (IntKind.u64.wrap (i : Int))) ∧ ∃ (v20 : Int × Bool), Jn sl (Vh .i64 (1) (IntKind.u64.wrap (i : Int))) v20 ∧ ((0 : Int) ≤ (IntKind.i64.wrap ((IntKind.i64.wrap ((((v9).length : Int)).tdiv (2))) * (2))) ∧ (IntKind.i64.wrap ((IntKind.i64.wrap ((((v9).length : Int)).tdiv (2))) * (2)) : Int) ≤ (((List.map eS (s14.2.2.1)).length : Nat) : Int)) ∧ (((s14.1).length + ([(List.take ((List.map eS (s14.2.2.1)).length - Int.toNat (IntKind.i64.wrap ((IntKind.i64.wrap ((((v9).length : Int)).tdiv (2))) * (2)))) (List.drop (0 + Int.toNat (IntKind.i64.wrap ((IntKind.i64.wrap ((((v9).length : Int)).tdiv (2))) * (2)))) (s14.2.2.1)))]).length) * 24 ≤ 140737488355328) ∧ X ((v20.1), (IntKind.i64.wrap (po + (1))), ((s14.1) ++ ([(List.take ((List.map eS (s14.2.2.1)).length - Int.toNat (IntKind.i64.wrap ((IntKind.i64.wrap ((((v9).length : Int)).tdiv (2))) * (2)))) (List.drop (0 + Int.toNat (IntKind.i64.wrap ((IntKind.i64.wrap ((((v9).length : Int)).tdiv (2))) * (2)))) (s14.2.2.1)))])), (s14.2.1), IntKind.i64.wrap ((i : Int) + 1))))) (out, ([] : (List ByteArray)), v9, v13))) := by
    intro merged hm hpr
    obtain ⟨v9, e9, l9⟩ := H8 merged (by omega)
    have hw1 : IntKind.i64.wrap ((i : Int) + 1) = ((i + 1 : Nat) : Int) := by rw [Zq (by omega)]; omega
    have ht : (v9.length : Int).tdiv 2 = ((v9.length / 2 : Nat) : Int) := by rw [Int.tdiv_eq_ediv_of_nonneg (by omega)]; omega
    have hw2 : IntKind.i64.wrap (IntKind.i64.wrap ((v9.length : Int).tdiv 2) * 2) = ((v9.length / 2 * 2 : Nat) : Int) := by
      rw [ht, Zq (n := ((v9.length / 2 : Nat) : Int)) (by omega), Zq (by omega)]; omega
    have hmeas : ∀ c : Nat, c ≤ v9.length / 2 → (a0.length - (i + 1)) * 1001 + c < k ∧ i + 1 + c ≤ a0.length + 1000 ∧ c ≤ 1000 := by
      intro c hcc
      rcases hpr with h | ⟨h, h'⟩
      · refine ⟨?_, by omega, by omega⟩
        have : a0.length - i = (a0.length - (i + 1)) + 1 := by omega
        rw [hk, this, Nat.add_mul]; omega
      · have hle : a0.length - (i + 1) ≤ a0.length - i := by omega
        have hle2 := Nat.mul_le_mul_right 1001 hle
        refine ⟨by omega, by omega, by omega⟩
    refine ⟨v9, e9, ?_⟩
    rw [hw1, hw2]
    refine ⟨fun h => ⟨by simp; omega, ?_⟩, fun h => ?_⟩
    · obtain ⟨m1, m2, m3⟩ := hmeas 0 (by omega)
      refine hX _ _ m1 ⟨i + 1, rfl, by simp, by simpa using m2, by simp [hout], ?_, by simp only; omega, rfl⟩
      intro l hl
      rcases List.mem_append.1 hl with h | h
      · exact hlen l h
      · simp at h; rw [h]; omega
    · obtain ⟨v13, e13, b0, b1⟩ := MA a3 po h3 (by omega) (by omega)
      refine ⟨v13, e13, ?_⟩
      refine ZW (I := fun k s => ∃ h : Nat, s.1 = out ∧ s.2.1.length = h ∧ s.2.2.1 = v9 ∧ s.2.2.2 = v13 + 2 * (h : Int) ∧ h ≤ v9.length / 2 ∧ k = v9.length / 2 - h) ?_ (k := v9.length / 2) ⟨0, rfl, rfl, rfl, by simp, by omega, by omega⟩
      rintro k14 ⟨o, half, v, kk⟩ ⟨nh, ho, hh, hv, hkk, hle, hk14⟩ X14 hX14
      simp only at ho hh hv hkk ⊢
      subst ho; subst hv
      refine ⟨fun hlt => ?_, fun hge => ?_⟩
      · have hlt' : kk < ((v.length / 2 * 2 : Nat) : Int) := by simpa using hlt
        obtain ⟨y, hy, _⟩ := K1 (l := v) (n := kk) (by omega) (by omega)
        refine ⟨y, hy, by simp; omega, ?_⟩
        rw [Zq (by omega)]
        exact hX14 (v.length / 2 - (nh + 1)) _ (by omega) ⟨nh + 1, rfl, by simp [hh], rfl, by simp only; omega, by omega, rfl⟩
      · obtain ⟨v20, e20⟩ := XQ sl (Vh .i64 (1) (IntKind.u64.wrap (i : Int)))
        refine ⟨(BN _).1, v20, e20, ⟨by omega, by simp; omega⟩, by simp; omega, ?_⟩
        rw [Zq (n := po + 1) (by omega)]
        obtain ⟨m1, m2, m3⟩ := hmeas half.length (by omega)
        refine hX _ _ m1 ⟨i + 1, rfl, m3, m2, by simp [hout], ?_, by simp only; omega, rfl⟩
        intro l hl
        rcases List.mem_append.1 hl with h | h
        · exact hlen l h
        · simp only [List.mem_singleton] at h; rw [h, List.length_take, List.length_drop]; omega
  refine ⟨fun h2 => ?_, fun h2 => ?_⟩
  · have hi2 : i < a0.length := by simp at h2; omega
    obtain ⟨x, hx, hg⟩ := K1 (l := a0) (n := (i : Int)) (by omega) (by omega)
    have hxl : x.length ≤ 1000 := hM x (List.mem_of_getElem? hg)
    exact ⟨x, hx, by omega, by omega, tail (x ++ carry) (by simp; omega) (.inl hi2)⟩
  · have hi2 : ¬ i < a0.length := by simp at h2; omega
    have hcp : 0 < carry.length := by
      rw [h2] at h; simp at h
      rcases Nat.eq_zero_or_pos carry.length with h' | h'
      · simp_all
      · exact h'
    exact tail carry (by omega) (.inr ⟨rfl, hcp⟩)
theorem CW (c : QL) (x : Qf) (a2 : List Int) (a3 : Int) (h3 : a2.length ≤ 1000000) : ∃ v, JK c x a2 a3 v ∧ v.1.fx.length ≤ 3000 ∧ ∀ l ∈ v.1.fx, l.length ≤ 3000 := by
  refine CN (Post := fun v => v.1.fx.length ≤ 3000 ∧ ∀ l ∈ v.1.fx, l.length ≤ 3000) ?_
  unfold KX
  simp only [jn]
  obtain ⟨v2, e2, ok⟩ := XP c
  obtain ⟨v4, e4, ok4⟩ := Ke x
  refine ⟨v2, e2, fun _ => by simp, fun h2 => ⟨v4, e4, fun _ => by simp, fun h4 => ⟨_, rfl, fun _ => by simp, fun h5 => ?_⟩⟩⟩
  obtain ⟨hs, ht, hsl, hll, hx⟩ := ok (by simpa using h2)
  have hp : 0 ≤ a3 ∧ a3 ≤ 1073741824 := by
    rw [Jj] at h5; simpa using h5
  obtain ⟨v7, e7⟩ := XQ c.fp x.f5
  have hlev : ∀ l ∈ c.fx, l.length ≤ 100 := fun l hl => by have := (hx l hl).1; omega
  refine ⟨v7, e7, fun _ => ⟨(show c.fx.length ≤ 3000 by omega), fun l hl => by have := hlev l hl; omega⟩, fun _ => ⟨by omega, ?_⟩⟩
  obtain ⟨v10, e10, l10, r10⟩ := H7 x.f5
  refine ⟨v10, e10, ?_⟩
  refine ZW (I := fun k s => ∃ j : Nat, s.2.2 = (j : Int) ∧ j ≤ v10.length ∧ s.2.1 = v10 ∧ k = v10.length - j ∧ s.1.length ≤ 200 ∧ ∀ l ∈ s.1, l.length ≤ 100 + j) ?_ (k := v10.length) ⟨0, rfl, by omega, rfl, by omega, by simp only; omega, by simpa using hlev⟩
  rintro k ⟨L, P, i⟩ ⟨j, hj, hj1, hP, hk, hL, hLl⟩ X hX
  simp only at hj hP hL hLl ⊢
  subst hj; subst hP
  refine ⟨fun h => ?_, fun _ => ?_⟩
  · have hj2 : j < P.length := by simp at h; omega
    obtain ⟨q, hq, hqg⟩ := K1 (l := P) (n := (j : Int)) (by omega) (by omega)
    have hqr := r10 q (List.mem_of_getElem? hqg)
    refine ZW (I := fun k s => s.2 = P ∧ s.1.length ≤ 200 ∧ (∀ l ∈ s.1, l.length ≤ 100 + j) ∧ k = 201 - s.1.length) ?_ (k := 201 - L.length) ⟨rfl, hL, hLl, rfl⟩
    rintro k2 ⟨L2, P2⟩ ⟨hP2, hL2, hL2l, hk2⟩ X2 hX2
    simp only at hP2 hL2 hL2l hk2 ⊢
    subst hP2
    refine ⟨q, hq, fun h => ⟨by simp; omega, ?_⟩, fun h => ?_⟩
    · have h' : (L2.length : Int) ≤ q := by simpa using h
      refine hX2 (201 - (L2 ++ [[]]).length) _ (by simp; omega) ⟨rfl, by simp; omega, fun l hl => ?_, rfl⟩
      rcases List.mem_append.1 hl with h | h
      · exact hL2l l h
      · simp at h; rw [h]; simp
    · have h' : q < L2.length := by simpa using h
      obtain ⟨y, hy, hyg⟩ := K1 (l := L2) (n := q) (by omega) h'
      have hyl := hL2l y (List.mem_of_getElem? hyg)
      refine ⟨q, hq, q, hq, y, hy, by omega, by simp; omega, y, hy, ?_⟩
      rw [Zq (by omega)]
      refine hX (P2.length - (j + 1)) _ (by omega) ⟨j + 1, by simp, by omega, rfl, rfl, by simpa using hL2, fun l hl => ?_⟩
      rcases List.mem_or_eq_of_mem_set hl with h | h
      · have := hL2l l h; omega
      · rw [h]; simp; omega
  · obtain ⟨v26, e26, a26, b26⟩ := H9 L c.fi c.fb0 a2 a3 (by omega) (fun l hl => by have := hLl l hl; omega) h3 hp
    exact ⟨v26, e26, a26, b26⟩
def zSk : Qw := Qw.mk (Qr.mk (0) (0) (0) (0)) (QV.mk (0) (0) (false)) (Qx.mk (0) (0) (0) ([] : (List Int)) (false)) (QJ.mk (0) (0) ([] : (List Int))) (QY.mk (0) (0) ([] : (List Q5)) (false)) (QD.mk (0) (0) (0) ([] : (List Q5)) (false)) (QL.mk (0) (0) (0) ([] : (List (List ByteArray))) (false))
theorem IB : LJ zSk := by simp [LJ, zSk]
theorem GB (s : Qw) (x : Qf) (a2 : List Int) (a3 : Int) (h : LJ s) (h2 : a2.length ≤ 1000000) : ∃ v, XH s x a2 a3 v ∧ LJ v.1 := by
  refine Gd (Post := fun v => LJ v.1) ?_
  unfold Vu
  simp only [jn]
  obtain ⟨v2, e2, _⟩ := UW s h
  obtain ⟨v4, e4, _⟩ := Ke x
  obtain ⟨z1, z2, z3, z4, z5, z6⟩ := h
  refine ⟨v2, e2, fun _ => IB, fun _ => ⟨v4, e4, fun _ => IB, fun _ => ⟨_, rfl, fun _ => IB, fun _ => ?_⟩⟩⟩
  obtain ⟨u1, t1⟩ := CS s.f4 x
  obtain ⟨u2, t2, q2⟩ := AS s.fu x
  obtain ⟨u3, t3, q3⟩ := BY s.fa2 x
  obtain ⟨u4, t4, q4⟩ := Ew s.fb1 x
  obtain ⟨u5, t5, q5⟩ := AT s.fv x
  obtain ⟨u6, t6, q6, q7⟩ := CW s.f7 x a2 a3 h2
  refine ⟨fun _ => ⟨u1, t1, z1, z2, z3, z4, z5, z6⟩, fun _ => ⟨fun _ => ⟨u2, t2, ?_, z2, z3, z4, z5, z6⟩, fun _ => ⟨fun _ => ⟨u3, t3, z1, ?_, z3, z4, z5, z6⟩, fun _ => ⟨fun _ => ⟨u4, t4, z1, z2, ?_, z4, z5, z6⟩, fun _ => ⟨fun _ => ⟨u5, t5, z1, z2, z3, ?_, z5, z6⟩, fun _ => ⟨u6, t6, z1, z2, z3, z4, ?_, ?_⟩⟩⟩⟩⟩⟩
  · simp only; omega
  · simp only; omega
  · simp only; omega
  · simp only; omega
  · simp only; omega
  · intro l hl; have := q7 l hl; omega
theorem CX (a b d : Int) : ∃ v, JH a b d v ∧ v.1.fa6.length ≤ 1000 := by
  refine CE (Post := fun v => v.1.fa6.length ≤ 1000) ?_
  unfold KU
  simp only [ZV, exists_eq_left, JQ]
  refine ⟨_, fun _ => rfl, fun _ => by simp, fun h => ?_⟩
  have h' : (1 ≤ a ∧ a ≤ 8) ∧ 1 ≤ b ∧ b ≤ 64 := by simpa [wI] using h
  have hm := Iw h'.1 h'.2
  rw [Zq (by omega)]
  exact ⟨⟨by omega, by omega⟩, by simp; omega⟩
theorem Ex (a b : Int) : ∃ v, Vs a b v ∧ v.1.f0.length ≤ 1000 := by
  refine Ed (Post := fun v => v.1.f0.length ≤ 1000) ?_
  unfold JB
  simp only [ZV, exists_eq_left]
  refine ⟨fun _ => by simp, fun h => ?_⟩
  have h' : 2 ≤ a ∧ a ≤ 8 := by simpa [wI] using h
  have hm := P3 h'
  exact ⟨(BN _).1, ⟨by omega, by omega⟩, by simp; omega⟩
theorem Ha (a : Int) : ∃ v, Y9 a v ∧ v.1.fh.length ≤ 1000 := by
  refine GO (Post := fun v => v.1.fh.length ≤ 1000) ?_
  unfold Xf
  simp only [ZV, exists_eq_left]
  exact ⟨fun _ => by simp, fun _ => by simp⟩
theorem CY (a : Int) : ∃ v, JI a v ∧ v.1.fh.length ≤ 1000 := by
  refine CG (Post := fun v => v.1.fh.length ≤ 1000) ?_
  unfold KV
  simp only [ZV, exists_eq_left]
  exact ⟨fun _ => by simp, fun _ => by simp⟩
theorem Fi (a : Int) : ∃ v, X0 a v ∧ v.1.fx = [] := by
  refine F1 (Post := fun v => v.1.fx = []) ?_
  unfold JW
  simp only [ZV, exists_eq_left]
  exact ⟨fun _ => by simp, fun _ => by simp⟩
theorem LK (p : Qr) : ∃ v, Ww p v ∧ LJ v.1 := by
  refine Lq (Post := fun v => LJ v.1) ?_
  unfold Yw
  simp only [jn]
  obtain ⟨u2, t2, q2⟩ := CX p.fo p.fi p.fq
  obtain ⟨u3, t3, q3⟩ := Ex p.fi p.fq
  obtain ⟨u4, t4, q4⟩ := Ha p.fi
  obtain ⟨u5, t5, q5⟩ := CY p.fi
  obtain ⟨u6, t6, q6⟩ := Fi p.fi
  refine ⟨_, VX p, fun _ => IB, fun _ => ⟨fun _ => ⟨u2, t2, ?_⟩, fun _ => ⟨fun _ => ⟨u3, t3, ?_⟩, fun _ => ⟨fun _ => ⟨u4, t4, ?_⟩, fun _ => ⟨fun _ => ⟨u5, t5, ?_⟩, fun _ => ⟨fun _ => ⟨u6, t6, ?_⟩, fun _ => ?_⟩⟩⟩⟩⟩⟩ <;> simp [LJ] <;> try omega
  rw [q6]; simp
theorem LL (p : Qr) (l : List Qf) (cs : List Int) (hl : l.length ≤ 1000000) (hc : cs.length ≤ 1000000) : ∃ s, Wy p l cs s ∧ LJ s := by
  refine Lw (Post := fun s => LJ s) ?_
  unfold YA
  simp only [jn]
  obtain ⟨v1, e1, z⟩ := LK p
  refine ⟨v1, e1, ?_⟩
  refine ZW (I := fun k s => ∃ j : Nat, s.2.1 = (j : Int) ∧ j ≤ l.length ∧ k = l.length - j ∧ LJ (Qw.mk (Qr.mk (s.2.2.1) (s.2.2.2.1) (s.2.2.2.2.1) (s.2.2.2.2.2.1)) (QV.mk (s.2.2.2.2.2.2.1) (s.2.2.2.2.2.2.2.1) (s.2.2.2.2.2.2.2.2.1)) (Qx.mk (s.2.2.2.2.2.2.2.2.2.1) (s.2.2.2.2.2.2.2.2.2.2.1) (s.2.2.2.2.2.2.2.2.2.2.2.1) (s.2.2.2.2.2.2.2.2.2.2.2.2.1) (s.2.2.2.2.2.2.2.2.2.2.2.2.2.1)) (QJ.mk (s.2.2.2.2.2.2.2.2.2.2.2.2.2.2.1) (s.2.2.2.2.2.2.2.2.2.2.2.2.2.2.2.1) (s.2.2.2.2.2.2.2.2.2.2.2.2.2.2.2.2.1)) (QY.mk (s.2.2.2.2.2.2.2.2.2.2.2.2.2.2.2.2.2.1) (s.2.2.2.2.2.2.2.2.2.2.2.2.2.2.2.2.2.2.1) (s.2.2.2.2.2.2.2.2.2.2.2.2.2.2.2.2.2.2.2.1) (s.2.2.2.2.2.2.2.2.2.2.2.2.2.2.2.2.2.2.2.2.1)) (QD.mk (s.2.2.2.2.2.2.2.2.2.2.2.2.2.2.2.2.2.2.2.2.2.1) (s.2.2.2.2.2.2.2.2.2.2.2.2.2.2.2.2.2.2.2.2.2.2.1) (s.2.2.2.2.2.2.2.2.2.2.2.2.2.2.2.2.2.2.2.2.2.2.2.1) (s.2.2.2.2.2.2.2.2.2.2.2.2.2.2.2.2.2.2.2.2.2.2.2.2.1) (s.2.2.2.2.2.2.2.2.2.2.2.2.2.2.2.2.2.2.2.2.2.2.2.2.2.1)) (QL.mk (s.2.2.2.2.2.2.2.2.2.2.2.2.2.2.2.2.2.2.2.2.2.2.2.2.2.2.1) (s.2.2.2.2.2.2.2.2.2.2.2.2.2.2.2.2.2.2.2.2.2.2.2.2.2.2.2.1) (s.2.2.2.2.2.2.2.2.2.2.2.2.2.2.2.2.2.2.2.2.2.2.2.2.2.2.2.2.1) (s.2.2.2.2.2.2.2.2.2.2.2.2.2.2.2.2.2.2.2.2.2.2.2.2.2.2.2.2.2.1) (s.2.2.2.2.2.2.2.2.2.2.2.2.2.2.2.2.2.2.2.2.2.2.2.2.2.2.2.2.2.2)))) ?_ (k := l.length) ⟨0, rfl, by omega, by omega, z⟩
  rintro k s ⟨j, hj, hj1, hk, hz⟩ X hX
  rw [hj]
  refine ⟨fun h => ?_, fun _ => hz⟩
  have hj2 : j < l.length := by simp at h; omega
  obtain ⟨x, hx⟩ := Yt hj2
  obtain ⟨v7, e7, z7⟩ := GB _ x cs s.1 hz hc
  refine ⟨x, hx, v7, e7, ?_⟩
  rw [Zq (by omega)]
  exact hX (l.length - (j + 1)) _ (by omega) ⟨j + 1, by simp, by omega, rfl, z7⟩
theorem Hb (l : List Int) (hl : l.length ≤ 4611686018427387904) : ∃ s, Yd l s ∧ LJ s := by
  refine GZ (Post := fun s => LJ s) ?_
  unfold Xl
  simp only [bA7]
  obtain ⟨v1, e1, _⟩ := WW l 0 hl (by omega) (by omega)
  obtain ⟨v2, e2, _⟩ := Cg v1
  obtain ⟨v4, e4, _⟩ := WW l 1 hl (by omega) (by omega)
  obtain ⟨v5, e5, l5, _⟩ := DR (List.drop (Int.toNat (Y7 (((l).length : Int)) (2))) l) (v4 % 8) (by simp; omega) (by omega) (by omega)
  obtain ⟨v6, e6, _⟩ := WW l 9 hl (by omega) (by omega)
  obtain ⟨v7, e7, l7⟩ := DT v6
  obtain ⟨v8, e8, z8⟩ := LL v2 v5 v7 (by omega) (by omega)
  exact ⟨v1, e1, v2, e2, ⟨by unfold Y7; split <;> omega, by unfold Y7; split <;> omega⟩, v4, e4, v5, e5, v6, e6, v7, e7, v8, e8, z8⟩
theorem Zt (a : Int) (h : a < 18446744073709551616) : ∃ r, QX a r ∧ r.length ≤ 9 := by
  refine Ll (Post := fun r => r.length ≤ 9) ?_
  unfold Xx
  simp only [jn, shr8]
  refine ⟨fun _ => by simp, fun _ => ?_⟩
  refine ZW (I := fun k s => s.2.length ≤ 8 ∧ k = 8 - s.2.length ∧ s.1 < 256 ^ (8 - s.2.length)) ?_ (k := 8) ⟨by simp, by simp, by simpa using h⟩
  rintro k ⟨x, l⟩ ⟨hl, hk, hx⟩ X hX
  simp only at hl hk hx ⊢
  refine ⟨fun hp => ?_, fun _ => ⟨by simp; omega, by simp; omega⟩⟩
  have hp' : 0 < x := by simpa using hp
  have hl7 : l.length < 8 := by
    rcases Nat.lt_or_ge l.length 8 with h | h
    · exact h
    · have : l.length = 8 := by omega
      rw [this] at hx; simp at hx; omega
  refine ⟨by simp; omega, hX (8 - ([IntKind.u8.wrap x] ++ l).length) _ (by simp; omega) ⟨by simp; omega, rfl, ?_⟩⟩
  have e : 8 - l.length = (8 - ([IntKind.u8.wrap x] ++ l).length) + 1 := by simp; omega
  rw [e, Int.pow_succ] at hx
  generalize (256 : Int) ^ (8 - ([IntKind.u8.wrap x] ++ l).length) = M at hx ⊢
  show x / 256 < M
  omega
theorem Fj (l : List Int) (hl : l.length ≤ 4611686018427387904) : ∃ r, Jm l r := by
  obtain ⟨v, hv, _⟩ := EY (Post := fun _ => True) (a0 := l) (by
    unfold Jl
    simp only [jn]
    refine ZW (I := fun k s => ∃ j : Nat, s.2.2 = (j : Int) ∧ j ≤ l.length ∧ k = l.length - j) ?_ (k := l.length) ⟨0, rfl, by omega, by omega⟩
    rintro k ⟨a, b, i⟩ ⟨j, hj, hj1, hk⟩ X hX
    simp only at hj ⊢
    subst hj
    refine ⟨fun h => ?_, fun _ => trivial⟩
    have hj2 : j < l.length := by simp at h; omega
    obtain ⟨x, hx⟩ := Yt hj2
    refine ⟨x, hx, ?_⟩
    rw [Zq (by omega)]
    exact hX (l.length - (j + 1)) _ (by omega) ⟨j + 1, by simp, by omega, rfl⟩)
  exact ⟨v, hv⟩
theorem DX (t : Int) (l : List Int) : ∃ r, Jc t l r ∧ r.1.length ≤ l.length + 14 := by
  refine I2 (Post := fun r => r.1.length ≤ l.length + 14) ?_
  unfold VP
  refine ⟨fun _ => by simp, fun h => ?_⟩
  have h' : (l.length : Int) ≤ 1048576 := by simpa using h
  obtain ⟨v2, e2, l2⟩ := Zt (l.length : Int) (by omega)
  obtain ⟨v5, e5⟩ := Fj (([t] ++ v2) ++ l) (by simp; omega)
  exact ⟨v2, e2, by simp; omega, by simp; omega, v5, e5, by simp; omega, by simp; omega⟩
theorem WC (b : Bool) : ∃ r, V1 b r ∧ r.length = 1 := by
  refine Ln (Post := fun r => r.length = 1) ?_
  exact ⟨fun _ => rfl, fun _ => rfl⟩
theorem ES (a : Int) : ∃ r, V2 a r ∧ r.length ≤ 8 := by
  refine Lo (Post := fun r => r.length ≤ 8) ?_
  unfold XB
  simp only [jn]
  refine ZW (I := fun k s => -1 ≤ s.2 ∧ (s.1.length : Int) = 7 - s.2 ∧ k = (s.2 + 1).toNat) ?_ (k := 8) ⟨by decide, rfl, rfl⟩
  rintro k ⟨l, i⟩ ⟨h0, h1, hk⟩ X hX
  simp only at h0 h1 hk ⊢
  refine ⟨fun h => ?_, fun h => by simp at h; omega⟩
  have hi : 0 ≤ i := by simpa using h
  refine ⟨(BN _).1, by simp; omega, ?_⟩
  rw [Zq (n := i - 1) (by omega)]
  exact hX (i - 1 + 1).toNat _ (by omega) ⟨by simp only; omega, by simp; omega, rfl⟩
theorem BG (s : ByteArray) (h : s.size ≤ 32) : ∃ r, ZX s r ∧ r.length ≤ 41 := by
  refine Lp (Post := fun r => r.length ≤ 41) ?_
  unfold XC
  obtain ⟨v, e, l⟩ := Zt (s.size : Int) (by omega)
  have hs : (sI s).length = s.size := Vl s
  exact ⟨v, e, by omega, by simp; omega⟩
theorem D1 (t : QV) : ∃ r, JF t r ∧ r.1.length ≤ 60000 := by
  refine Cy (Post := fun r => r.1.length ≤ 60000) ?_
  unfold KS
  obtain ⟨v2, e2, ok⟩ := XO t
  refine ⟨v2, e2, fun _ => by simp, fun h2 => ?_⟩
  have ok := ok (by simpa using h2)
  obtain ⟨v3, e3, l3⟩ := Zt t.fp (by omega)
  obtain ⟨v4, e4, l4⟩ := Zt t.fj (by omega)
  obtain ⟨v6, e6, l6⟩ := WC t.ff
  exact ⟨v3, e3, v4, e4, by omega, v6, e6, by simp; omega, by simp; omega⟩
theorem AU (c : Qx) : ∃ r, KL c r ∧ r.1.length ≤ 60000 := by
  refine AE (Post := fun r => r.1.length ≤ 60000) ?_
  unfold Ki
  simp only [jn]
  obtain ⟨v2, e2, ok⟩ := VE c
  refine ⟨v2, e2, fun _ => by simp, fun h2 => ?_⟩
  obtain ⟨hd, hs, hl, hx⟩ := ok (by simpa using h2)
  have hm := Iw hd hs
  obtain ⟨v3, e3, l3⟩ := Zt c.fo (by omega)
  obtain ⟨v4, e4, l4⟩ := Zt c.fi (by omega)
  obtain ⟨v6, e6, l6⟩ := ES c.fq
  refine ⟨v3, e3, v4, e4, by omega, v6, e6, by simp; omega, ?_⟩
  refine ZW (I := fun k s => ∃ j : Nat, s.2 = (j : Int) ∧ j ≤ c.fa6.length ∧ k = c.fa6.length - j ∧ s.1.length ≤ 26 + 9 * j) ?_ (k := c.fa6.length) ⟨0, rfl, by omega, by omega, by simp; omega⟩
  rintro k ⟨a, i⟩ ⟨j, hj, hj1, hk, ha⟩ X hX
  simp only at hj ha ⊢
  subst hj
  refine ⟨fun h => ?_, fun _ => ?_⟩
  · have hj2 : j < c.fa6.length := by simp at h; omega
    obtain ⟨x, hx1, hg⟩ := K1 (l := c.fa6) (n := (j : Int)) (by omega) (by omega)
    have hxr := hx x (List.mem_of_getElem? hg)
    obtain ⟨v13, e13, l13⟩ := Zt x (by omega)
    refine ⟨x, hx1, v13, e13, by omega, ?_⟩
    rw [Zq (by omega)]
    exact hX (c.fa6.length - (j + 1)) _ (by omega) ⟨j + 1, by simp, by omega, rfl, by simp; omega⟩
  · obtain ⟨v15, e15, l15⟩ := WC c.ff
    exact ⟨v15, e15, by omega, by simp; omega⟩
theorem BZ (c : QJ) : ∃ r, Jp c r ∧ r.1.length ≤ 60000 := by
  refine BR (Post := fun r => r.1.length ≤ 60000) ?_
  unfold KG
  simp only [jn]
  obtain ⟨v2, e2, ok⟩ := Xr c
  refine ⟨v2, e2, fun _ => by simp, fun h2 => ?_⟩
  obtain ⟨hp, hl, hlen, hx⟩ := ok (by simpa using h2)
  obtain ⟨v3, e3, l3⟩ := Zt c.f6 (by omega)
  obtain ⟨v4, e4, l4⟩ := ES c.fq
  refine ⟨v3, e3, v4, e4, by omega, ?_⟩
  refine ZW (I := fun k s => ∃ j : Nat, s.2 = (j : Int) ∧ j ≤ c.f0.length ∧ k = c.f0.length - j ∧ s.1.length ≤ 17 + j) ?_ (k := c.f0.length) ⟨0, rfl, by omega, by omega, by simp; omega⟩
  rintro k ⟨a, i⟩ ⟨j, hj, hj1, hk, ha⟩ X hX
  simp only at hj ha ⊢
  subst hj
  refine ⟨fun h => ?_, fun _ => by omega⟩
  have hj2 : j < c.f0.length := by simp at h; omega
  obtain ⟨x, hx1⟩ := Yt hj2
  refine ⟨x, hx1, by simp; omega, ?_⟩
  rw [Zq (by omega)]
  exact hX (c.f0.length - (j + 1)) _ (by omega) ⟨j + 1, by simp, by omega, rfl, by simp; omega⟩
theorem Ey (c : QY) : ∃ r, Vq c r ∧ r.1.length ≤ 60000 := by
  refine Eb (Post := fun r => r.1.length ≤ 60000) ?_
  unfold JA
  simp only [jn]
  obtain ⟨v2, e2, ok⟩ := Ys c
  refine ⟨v2, e2, fun _ => by simp, fun h2 => ?_⟩
  obtain ⟨hs, ht, hl, hx⟩ := ok (by simpa using h2)
  obtain ⟨v3, e3, l3⟩ := Zt c.fi (by omega)
  obtain ⟨v4, e4, l4⟩ := Zt c.fp (by omega)
  obtain ⟨v6, e6, l6⟩ := WC c.ff
  obtain ⟨v8, e8, l8⟩ := Zt (c.fh.length : Int) (by omega)
  refine ⟨v3, e3, v4, e4, by omega, v6, e6, by simp; omega, v8, e8, by simp; omega, ?_⟩
  refine ZW (I := fun k s => ∃ j : Nat, s.2 = (j : Int) ∧ j ≤ c.fh.length ∧ k = c.fh.length - j ∧ s.1.length ≤ 28 + 59 * j) ?_ (k := c.fh.length) ⟨0, rfl, by omega, by omega, by simp; omega⟩
  rintro k ⟨a, i⟩ ⟨j, hj, hj1, hk, ha⟩ X hX
  simp only at hj ha ⊢
  subst hj
  refine ⟨fun h => ?_, fun _ => by omega⟩
  have hj2 : j < c.fh.length := by simp at h; omega
  obtain ⟨x, hx1, hg⟩ := K1 (l := c.fh) (n := (j : Int)) (by omega) (by omega)
  obtain ⟨k1, k2, k3⟩ := hx x (List.mem_of_getElem? hg)
  obtain ⟨v15, e15, l15⟩ := BG x.f3 (by omega)
  obtain ⟨v18, e18, l18⟩ := Zt x.fk (by omega)
  obtain ⟨v21, e21, l21⟩ := Zt x.fb3 (by omega)
  refine ⟨x, hx1, v15, e15, by omega, x, hx1, v18, e18, by simp; omega, x, hx1, v21, e21, by simp; omega, ?_⟩
  rw [Zq (by omega)]
  exact hX (c.fh.length - (j + 1)) _ (by omega) ⟨j + 1, by simp, by omega, rfl, by simp; omega⟩
theorem AX (c : QD) : ∃ r, KM c r ∧ r.1.length ≤ 60000 := by
  refine AG (Post := fun r => r.1.length ≤ 60000) ?_
  unfold Kj
  simp only [jn]
  obtain ⟨v2, e2, ok⟩ := VF c
  refine ⟨v2, e2, fun _ => by simp, fun h2 => ?_⟩
  obtain ⟨hs, ht, hlo, hl, hx⟩ := ok (by simpa using h2)
  obtain ⟨v3, e3, l3⟩ := Zt c.fi (by omega)
  obtain ⟨v4, e4, l4⟩ := Zt c.fp (by omega)
  obtain ⟨v5, e5, l5⟩ := Zt c.fb2 (by omega)
  obtain ⟨v6, e6, l6⟩ := WC c.ff
  obtain ⟨v8, e8, l8⟩ := Zt (c.fh.length : Int) (by omega)
  refine ⟨v3, e3, v4, e4, by omega, v5, e5, by simp; omega, v6, e6, by simp; omega, v8, e8, by simp; omega, ?_⟩
  refine ZW (I := fun k s => ∃ j : Nat, s.2 = (j : Int) ∧ j ≤ c.fh.length ∧ k = c.fh.length - j ∧ s.1.length ≤ 37 + 50 * j) ?_ (k := c.fh.length) ⟨0, rfl, by omega, by omega, by simp; omega⟩
  rintro k ⟨a, i⟩ ⟨j, hj, hj1, hk, ha⟩ X hX
  simp only at hj ha ⊢
  subst hj
  refine ⟨fun h => ?_, fun _ => by omega⟩
  have hj2 : j < c.fh.length := by simp at h; omega
  obtain ⟨x, hx1, hg⟩ := K1 (l := c.fh) (n := (j : Int)) (by omega) (by omega)
  obtain ⟨k1, k2, k3⟩ := hx x (List.mem_of_getElem? hg)
  obtain ⟨v15, e15, l15⟩ := BG x.f3 (by omega)
  obtain ⟨v18, e18, l18⟩ := Zt x.fk (by omega)
  refine ⟨x, hx1, v15, e15, by omega, x, hx1, v18, e18, by simp; omega, ?_⟩
  rw [Zq (by omega)]
  exact hX (c.fh.length - (j + 1)) _ (by omega) ⟨j + 1, by simp, by omega, rfl, by simp; omega⟩
theorem D2 (c : QL) : ∃ r, JG c r ∧ r.1.length ≤ 60000 := by
  refine CB (Post := fun r => r.1.length ≤ 60000) ?_
  unfold KT
  simp only [jn]
  obtain ⟨v2, e2, ok⟩ := XP c
  refine ⟨v2, e2, fun _ => by simp, fun h2 => ?_⟩
  obtain ⟨hs, ht, hlo, hl, hx⟩ := ok (by simpa using h2)
  obtain ⟨v3, e3, l3⟩ := Zt c.fi (by omega)
  obtain ⟨v4, e4, l4⟩ := Zt c.fp (by omega)
  obtain ⟨v5, e5, l5⟩ := Zt c.fb0 (by omega)
  obtain ⟨v6, e6, l6⟩ := WC c.ff
  obtain ⟨v8, e8, l8⟩ := Zt (c.fx.length : Int) (by omega)
  refine ⟨v3, e3, v4, e4, by omega, v5, e5, by simp; omega, v6, e6, by simp; omega, v8, e8, by simp; omega, ?_⟩
  refine ZW (I := fun k s => ∃ j : Nat, s.2 = (j : Int) ∧ j ≤ c.fx.length ∧ k = c.fx.length - j ∧ s.1.length ≤ 37 + 1280 * j) ?_ (k := c.fx.length) ⟨0, rfl, by omega, by omega, by simp; omega⟩
  rintro k ⟨a, i⟩ ⟨j, hj, hj1, hk, ha⟩ X hX
  simp only at hj ha ⊢
  subst hj
  refine ⟨fun h => ?_, fun _ => by omega⟩
  have hj2 : j < c.fx.length := by simp at h; omega
  obtain ⟨x, hx1, hg⟩ := K1 (l := c.fx) (n := (j : Int)) (by omega) (by omega)
  obtain ⟨k1, k2⟩ := hx x (List.mem_of_getElem? hg)
  obtain ⟨v17, e17, l17⟩ := Zt (x.length : Int) (by omega)
  refine ⟨x, hx1, v17, e17, by omega, ?_⟩
  refine ZW (I := fun k s => ∃ m : Nat, s.2 = (m : Int) ∧ m ≤ x.length ∧ k = x.length - m ∧ s.1.length ≤ 37 + 1280 * j + 9 + 41 * m) ?_ (k := x.length) ⟨0, rfl, by omega, by omega, by simp; omega⟩
  rintro kk ⟨b, ii⟩ ⟨m, hm, hm1, hkk, hb⟩ X2 hX2
  simp only at hm hb ⊢
  subst hm
  refine ⟨x, hx1, fun h3 => ?_, fun _ => ?_⟩
  · have hm2 : m < x.length := by simp at h3; omega
    obtain ⟨y, hy1, hg2⟩ := K1 (l := x) (n := (m : Int)) (by omega) (by omega)
    have hy := k2 y (List.mem_of_getElem? hg2)
    obtain ⟨v25, e25, l25⟩ := BG y (by omega)
    refine ⟨x, hx1, y, hy1, v25, e25, by omega, ?_⟩
    rw [Zq (by omega)]
    exact hX2 (x.length - (m + 1)) _ (by omega) ⟨m + 1, by simp, by omega, rfl, by simp; omega⟩
  · rw [Zq (by omega)]
    exact hX (c.fx.length - (j + 1)) _ (by omega) ⟨j + 1, by simp, by omega, rfl, by simp only; omega⟩
theorem GC (s : Qw) (h : LJ s) : ∃ r, XD s r ∧ r.1.length ≤ 60100 := by
  refine G8 (Post := fun r => r.1.length ≤ 60100) ?_
  unfold Vr
  simp only [jn]
  obtain ⟨v2, e2, hk⟩ := UW s h
  refine ⟨v2, e2, fun _ => by simp, fun h2 => ?_⟩
  have hk := hk (by simpa using h2)
  obtain ⟨v10, e10, l10⟩ := Zt s.fa.fc (by omega)
  have fin : ∀ p : List Int, p.length ≤ 60000 → ∃ (v10 : (List Int)), QX (s.fa.fc) v10 ∧ (((v10).length + (p).length) * 1 ≤ 140737488355328) ∧ ∃ (v12 : (List Int) × Int), Jc (83) ((v10) ++ (p)) v12 ∧ v12.1.length ≤ 60100 := by
    intro p hp
    obtain ⟨v12, e12, l12⟩ := DX 83 (v10 ++ p)
    exact ⟨v10, e10, by omega, v12, e12, by simp at l12; omega⟩
  obtain ⟨u1, t1, q1⟩ := D1 s.f4
  obtain ⟨u2, t2, q2⟩ := AU s.fu
  obtain ⟨u3, t3, q3⟩ := BZ s.fa2
  obtain ⟨u4, t4, q4⟩ := Ey s.fb1
  obtain ⟨u5, t5, q5⟩ := AX s.fv
  obtain ⟨u6, t6, q6⟩ := D2 s.f7
  exact ⟨fun _ => ⟨u1, t1, fin _ q1⟩, fun _ => ⟨fun _ => ⟨u2, t2, fin _ q2⟩, fun _ => ⟨fun _ => ⟨u3, t3, fin _ q3⟩, fun _ => ⟨fun _ => ⟨u4, t4, fin _ q4⟩, fun _ => ⟨fun _ => ⟨u5, t5, fin _ q5⟩, fun _ => ⟨u6, t6, fin _ q6⟩⟩⟩⟩⟩⟩
theorem Hc (s : Qw) (h : LJ s) : ∃ r, Wn s r ∧ r.length ≤ 65536 := by
  obtain ⟨v1, e1, l1⟩ := GC s h
  obtain ⟨v2, e2, l2⟩ := DX 88 v1.1
  exact ⟨_, ⟨v1, e1, v2.1, ⟨v2, e2, rfl⟩, rfl⟩, by omega⟩
theorem XR {x : Qt} (hk : K9 x.fc) (h : ∀ f, f < 14 → if ZS x.fc f = true then Zf x f = 0 else Ah (W4 x) f = true) : KJ x = 0 := by
  have z : Uq (Ui (W4 x).kind (Zf x)) = 0 := by
    refine LA fun i hi => ?_
    rw [Gh] at hi
    rw [N7 _ _ hi]
    have := h i hi
    show (if ZS x.fc i = true then Zf x i else 0) = 0
    split
    · rw [if_pos (by assumption)] at this; exact this
    · rfl
  unfold KJ El
  rw [if_neg (by simpa [W4] using hk), z, if_neg (by simp), if_pos]
  rw [List.all_eq_true]
  intro f hf
  have := h f (by simpa using hf)
  show (ZS x.fc f || Ah (W4 x) f) = true
  cases hm : ZS x.fc f
  · rw [hm] at this; simpa using this
  · rfl
theorem LM : (ByteArray.empty).toList = [] := Yq
theorem vk1 (n : ByteArray) (p : Qr) (hn : Cd n = true) (hp : WA p.fc p.fi p.fo p.fq = 0) : KJ (Qt.mk (1) (n) (ByteArray.empty) ([] : (List ByteArray)) p ([] : (List Qf)) ([] : (List Int)) (0) (0) (0) (0) (0) (0) (QC.mk (0) (ByteArray.empty) (0) (0) (0)) ([] : (List Int))) = 0 := by
  refine XR (show K9 1 from ⟨by decide, by decide⟩) fun f hf => ?_
  rcases YQ hf with rfl | rfl | rfl | rfl | rfl | rfl | rfl | rfl | rfl | rfl | rfl | rfl | rfl | rfl <;> simp [ZS, Ym, Zf, Ah, W4, Bv, LM, hn, hp]
theorem vk2 (n : ByteArray) (hn : Cd n = true) : KJ (Qt.mk (2) (n) (ByteArray.empty) ([] : (List ByteArray)) (Qr.mk (0) (0) (0) (0)) ([] : (List Qf)) ([] : (List Int)) (0) (0) (0) (0) (0) (0) (QC.mk (0) (ByteArray.empty) (0) (0) (0)) ([] : (List Int))) = 0 := by
  refine XR (show K9 2 from ⟨by decide, by decide⟩) fun f hf => ?_
  rcases YQ hf with rfl | rfl | rfl | rfl | rfl | rfl | rfl | rfl | rfl | rfl | rfl | rfl | rfl | rfl <;> simp [ZS, Ym, Zf, Ah, W4, Bv, LM, hn]
theorem vk3 (n m : ByteArray) (hn : Cd n = true) (hm : Cd m = true) : KJ (Qt.mk (3) (n) (m) ([] : (List ByteArray)) (Qr.mk (0) (0) (0) (0)) ([] : (List Qf)) ([] : (List Int)) (0) (0) (0) (0) (0) (0) (QC.mk (0) (ByteArray.empty) (0) (0) (0)) ([] : (List Int))) = 0 := by
  refine XR (show K9 3 from ⟨by decide, by decide⟩) fun f hf => ?_
  rcases YQ hf with rfl | rfl | rfl | rfl | rfl | rfl | rfl | rfl | rfl | rfl | rfl | rfl | rfl | rfl <;> simp [ZS, Ym, Zf, Ah, W4, Bv, LM, hn, hm]
theorem vk4   : KJ (Qt.mk (4) (ByteArray.empty) (ByteArray.empty) ([] : (List ByteArray)) (Qr.mk (0) (0) (0) (0)) ([] : (List Qf)) ([] : (List Int)) (0) (0) (0) (0) (0) (0) (QC.mk (0) (ByteArray.empty) (0) (0) (0)) ([] : (List Int))) = 0 := by
  refine XR (show K9 4 from ⟨by decide, by decide⟩) fun f hf => ?_
  rcases YQ hf with rfl | rfl | rfl | rfl | rfl | rfl | rfl | rfl | rfl | rfl | rfl | rfl | rfl | rfl <;> simp [ZS, Ym, Zf, Ah, W4, Bv, LM]
theorem vk5 (n : ByteArray) (q : QC) (hn : Cd n = true) (hq : UG q.fc q.f3 q.fk q.fa8 q.fa7 = 0) : KJ (Qt.mk (5) (n) (ByteArray.empty) ([] : (List ByteArray)) (Qr.mk (0) (0) (0) (0)) ([] : (List Qf)) ([] : (List Int)) (0) (0) (0) (0) (0) (0) q ([] : (List Int))) = 0 := by
  refine XR (show K9 5 from ⟨by decide, by decide⟩) fun f hf => ?_
  rcases YQ hf with rfl | rfl | rfl | rfl | rfl | rfl | rfl | rfl | rfl | rfl | rfl | rfl | rfl | rfl <;> simp [ZS, Ym, Zf, Ah, W4, Bv, LM, hn, hq]
theorem vk6 (n : ByteArray) (its : List Qf) (cs : List Int) (hn : Cd n = true) (hi : Hv its = 0) (hc : AR cs.length 64 = 0) : KJ (Qt.mk (6) (n) (ByteArray.empty) ([] : (List ByteArray)) (Qr.mk (0) (0) (0) (0)) its cs (0) (0) (0) (0) (0) (0) (QC.mk (0) (ByteArray.empty) (0) (0) (0)) ([] : (List Int))) = 0 := by
  refine XR (show K9 6 from ⟨by decide, by decide⟩) fun f hf => ?_
  rcases YQ hf with rfl | rfl | rfl | rfl | rfl | rfl | rfl | rfl | rfl | rfl | rfl | rfl | rfl | rfl <;> simp [ZS, Ym, Zf, Ah, W4, Bv, LM, hn, hi, hc]
theorem vk7 (n m : ByteArray) (cs : List Int) (hn : Cd n = true) (hm : Cd m = true) (hc : AR cs.length 64 = 0) : KJ (Qt.mk (7) (n) (m) ([] : (List ByteArray)) (Qr.mk (0) (0) (0) (0)) ([] : (List Qf)) cs (0) (0) (0) (0) (0) (0) (QC.mk (0) (ByteArray.empty) (0) (0) (0)) ([] : (List Int))) = 0 := by
  refine XR (show K9 7 from ⟨by decide, by decide⟩) fun f hf => ?_
  rcases YQ hf with rfl | rfl | rfl | rfl | rfl | rfl | rfl | rfl | rfl | rfl | rfl | rfl | rfl | rfl <;> simp [ZS, Ym, Zf, Ah, W4, Bv, LM, hn, hm, hc]
theorem vk8 (n m : ByteArray) (cs : List Int) (e s : Int) (hn : Cd n = true) (hm : Cd m = true) (hc : AR cs.length 64 = 0) (he : Y1 e 1 1048576 = 0) (hs : Y1 s 1 1048576 = 0) : KJ (Qt.mk (8) (n) (m) ([] : (List ByteArray)) (Qr.mk (0) (0) (0) (0)) ([] : (List Qf)) cs e s (0) (0) (0) (0) (QC.mk (0) (ByteArray.empty) (0) (0) (0)) ([] : (List Int))) = 0 := by
  refine XR (show K9 8 from ⟨by decide, by decide⟩) fun f hf => ?_
  rcases YQ hf with rfl | rfl | rfl | rfl | rfl | rfl | rfl | rfl | rfl | rfl | rfl | rfl | rfl | rfl <;> simp [ZS, Ym, Zf, Ah, W4, Bv, LM, hn, hm, hc, he, hs]
theorem vk9 (ns : List ByteArray) (hn : Hu ns = 0) : KJ (Qt.mk (9) (ByteArray.empty) (ByteArray.empty) ns (Qr.mk (0) (0) (0) (0)) ([] : (List Qf)) ([] : (List Int)) (0) (0) (0) (0) (0) (0) (QC.mk (0) (ByteArray.empty) (0) (0) (0)) ([] : (List Int))) = 0 := by
  refine XR (show K9 9 from ⟨by decide, by decide⟩) fun f hf => ?_
  rcases YQ hf with rfl | rfl | rfl | rfl | rfl | rfl | rfl | rfl | rfl | rfl | rfl | rfl | rfl | rfl <;> simp [ZS, Ym, Zf, Ah, W4, Bv, LM, hn]
theorem vk10 (h i : Int) (q : QC) (hh : Y1 h 0 3 = 0) (hi : Y1 i 0 15 = 0) (hq : UG q.fc q.f3 q.fk q.fa8 q.fa7 = 0) : KJ (Qt.mk (10) (ByteArray.empty) (ByteArray.empty) ([] : (List ByteArray)) (Qr.mk (0) (0) (0) (0)) ([] : (List Qf)) ([] : (List Int)) (0) (0) h i (0) (0) q ([] : (List Int))) = 0 := by
  refine XR (show K9 10 from ⟨by decide, by decide⟩) fun f hf => ?_
  rcases YQ hf with rfl | rfl | rfl | rfl | rfl | rfl | rfl | rfl | rfl | rfl | rfl | rfl | rfl | rfl <;> simp [ZS, Ym, Zf, Ah, W4, Bv, LM, hh, hi, hq]
theorem vk11 (h : Int) (hh : Y1 h 0 3 = 0) : KJ (Qt.mk (11) (ByteArray.empty) (ByteArray.empty) ([] : (List ByteArray)) (Qr.mk (0) (0) (0) (0)) ([] : (List Qf)) ([] : (List Int)) (0) (0) h (0) (0) (0) (QC.mk (0) (ByteArray.empty) (0) (0) (0)) ([] : (List Int))) = 0 := by
  refine XR (show K9 11 from ⟨by decide, by decide⟩) fun f hf => ?_
  rcases YQ hf with rfl | rfl | rfl | rfl | rfl | rfl | rfl | rfl | rfl | rfl | rfl | rfl | rfl | rfl <;> simp [ZS, Ym, Zf, Ah, W4, Bv, LM, hh]
theorem vk12 (h i : Int) (hh : Y1 h 0 3 = 0) (hi : Y1 i 0 15 = 0) : KJ (Qt.mk (12) (ByteArray.empty) (ByteArray.empty) ([] : (List ByteArray)) (Qr.mk (0) (0) (0) (0)) ([] : (List Qf)) ([] : (List Int)) (0) (0) h i (0) (0) (QC.mk (0) (ByteArray.empty) (0) (0) (0)) ([] : (List Int))) = 0 := by
  refine XR (show K9 12 from ⟨by decide, by decide⟩) fun f hf => ?_
  rcases YQ hf with rfl | rfl | rfl | rfl | rfl | rfl | rfl | rfl | rfl | rfl | rfl | rfl | rfl | rfl <;> simp [ZS, Ym, Zf, Ah, W4, Bv, LM, hh, hi]
theorem vk13 (c n : Int) (hc : Y1 c 0 3 = 0) (hn : Y1 n 0 32 = 0) : KJ (Qt.mk (13) (ByteArray.empty) (ByteArray.empty) ([] : (List ByteArray)) (Qr.mk (0) (0) (0) (0)) ([] : (List Qf)) ([] : (List Int)) (0) (0) (0) (0) c n (QC.mk (0) (ByteArray.empty) (0) (0) (0)) ([] : (List Int))) = 0 := by
  refine XR (show K9 13 from ⟨by decide, by decide⟩) fun f hf => ?_
  rcases YQ hf with rfl | rfl | rfl | rfl | rfl | rfl | rfl | rfl | rfl | rfl | rfl | rfl | rfl | rfl <;> simp [ZS, Ym, Zf, Ah, W4, Bv, LM, hc, hn]
theorem vk14 (c : Int) (hc : Y1 c 0 3 = 0) : KJ (Qt.mk (14) (ByteArray.empty) (ByteArray.empty) ([] : (List ByteArray)) (Qr.mk (0) (0) (0) (0)) ([] : (List Qf)) ([] : (List Int)) (0) (0) (0) (0) c (0) (QC.mk (0) (ByteArray.empty) (0) (0) (0)) ([] : (List Int))) = 0 := by
  refine XR (show K9 14 from ⟨by decide, by decide⟩) fun f hf => ?_
  rcases YQ hf with rfl | rfl | rfl | rfl | rfl | rfl | rfl | rfl | rfl | rfl | rfl | rfl | rfl | rfl <;> simp [ZS, Ym, Zf, Ah, W4, Bv, LM, hc]
theorem vk15 (h i : Int) (hh : Y1 h 0 3 = 0) (hi : Y1 i 0 15 = 0) : KJ (Qt.mk (15) (ByteArray.empty) (ByteArray.empty) ([] : (List ByteArray)) (Qr.mk (0) (0) (0) (0)) ([] : (List Qf)) ([] : (List Int)) (0) (0) h i (0) (0) (QC.mk (0) (ByteArray.empty) (0) (0) (0)) ([] : (List Int))) = 0 := by
  refine XR (show K9 15 from ⟨by decide, by decide⟩) fun f hf => ?_
  rcases YQ hf with rfl | rfl | rfl | rfl | rfl | rfl | rfl | rfl | rfl | rfl | rfl | rfl | rfl | rfl <;> simp [ZS, Ym, Zf, Ah, W4, Bv, LM, hh, hi]
theorem vk16 (n : ByteArray) (d : List Int) (hn : Cd n = true) (hd : AR d.length 65536 = 0) : KJ (Qt.mk (16) (n) (ByteArray.empty) ([] : (List ByteArray)) (Qr.mk (0) (0) (0) (0)) ([] : (List Qf)) ([] : (List Int)) (0) (0) (0) (0) (0) (0) (QC.mk (0) (ByteArray.empty) (0) (0) (0)) d) = 0 := by
  refine XR (show K9 16 from ⟨by decide, by decide⟩) fun f hf => ?_
  rcases YQ hf with rfl | rfl | rfl | rfl | rfl | rfl | rfl | rfl | rfl | rfl | rfl | rfl | rfl | rfl <;> simp [ZS, Ym, Zf, Ah, W4, Bv, LM, hn, hd]
theorem vk17   : KJ (Qt.mk (17) (ByteArray.empty) (ByteArray.empty) ([] : (List ByteArray)) (Qr.mk (0) (0) (0) (0)) ([] : (List Qf)) ([] : (List Int)) (0) (0) (0) (0) (0) (0) (QC.mk (0) (ByteArray.empty) (0) (0) (0)) ([] : (List Int))) = 0 := by
  refine XR (show K9 17 from ⟨by decide, by decide⟩) fun f hf => ?_
  rcases YQ hf with rfl | rfl | rfl | rfl | rfl | rfl | rfl | rfl | rfl | rfl | rfl | rfl | rfl | rfl <;> simp [ZS, Ym, Zf, Ah, W4, Bv, LM]
theorem sho0 {n : Nat} {m : Int} (h : (n : Int) ≤ m) : AR n m = 0 := by unfold AR; rw [if_neg (by omega)]
theorem Fl {n a b : Int} (h : a ≤ n ∧ n ≤ b) : Y1 n a b = 0 := by unfold Y1; rw [if_pos h]
theorem il0 {l : List Qf} (h : 1 ≤ l.length ∧ l.length ≤ 64) (h2 : ∀ x ∈ l, Fv x = 0) : Hv l = 0 := by
  unfold Hv; rw [if_neg (by simpa using h)]
  exact Gm fun j x hx => h2 x (List.mem_of_getElem? hx)
theorem nl0 {l : List ByteArray} (h : 1 ≤ l.length ∧ l.length ≤ 16) (h2 : ∀ x ∈ l, Cd x = true) : Hu l = 0 := by
  unfold Hu; rw [if_neg (by simpa using h)]
  exact Gm fun j x hx => by unfold Bv; rw [if_pos (h2 x (List.mem_of_getElem? hx))]
def ET (m : Nat) (x : Qt) : Prop := x.fw.length ≤ m ∧ x.fj.length ≤ m ∧ x.fa1.length ≤ m ∧ x.fa5.length ≤ m ∧ 0 ≤ x.fa.fq ∧ x.fa.fq ≤ 18446744073709551615
theorem NR (l : List Int) (i : Int) (hl : l.length ≤ 4611686018427387904) (h0 : 0 ≤ i) (h1 : i ≤ 900) (Q : Qt → Prop) (hQ : ∀ x, KJ x = 0 → ET 65536 x → Q x) : Wd l i Q := by
  unfold Wd
  obtain ⟨v1, e1, a1, b1⟩ := WW l i hl h0 (by omega)
  obtain ⟨v2, e2, a2, b2⟩ := WW l (IntKind.i64.wrap (i + 7)) hl (by rw [Zq (by omega)]; omega) (by rw [Zq (by omega)]; omega)
  refine ⟨v1, e1, v2, e2, ?_⟩
  simp only [jn, bA1, bA3, bA7]
  rw [KF a1]
  have hk0 : 0 ≤ v1 % 20 ∧ v1 % 20 ≤ 19 := by omega
  obtain ⟨s5, es5, hs5⟩ := Ut (QF .i64 v1 5)
  obtain ⟨s6, es6, hs6⟩ := Ut (QF .i64 v1 6)
  obtain ⟨s7, es7, hs7⟩ := Ut (QF .i64 v1 7)
  obtain ⟨s8, es8, hs8⟩ := Ut (QF .i64 v1 8)
  obtain ⟨p, ep, gp⟩ := Cg v2
  have hp := NQ gp
  obtain ⟨q, eq, hq⟩ := DO v2
  obtain ⟨c, ec, hc⟩ := DT v2
  have hc0 : AR c.length 64 = 0 := sho0 (by omega)
  have i5 : i.tmod 5 = i % 5 := KF h0
  have i7 : i.tmod 7 = i % 7 := KF h0
  have m5 : 0 ≤ Y7 (l.length : Int) (i % 5) ∧ Y7 (l.length : Int) (i % 5) ≤ l.length := by unfold Y7; split <;> omega
  have m7 : 0 ≤ Y7 (l.length : Int) (i % 7) ∧ Y7 (l.length : Int) (i % 7) ≤ l.length := by unfold Y7; split <;> omega
  rw [i5, i7]
  generalize v1 % 20 = k at hk0 ⊢
  generalize QF .i64 v1 5 = t5 at *
  generalize QF .i64 v1 6 = t6 at *
  generalize QF .i64 v1 7 = t7 at *
  generalize QF .i64 v1 8 = t8 at *
  generalize QF .i64 v1 10 = t10
  generalize QF .i64 v1 11 = t11
  generalize QF .i64 v2 3 = u3
  have hks : k = 0 ∨ k = 1 ∨ k = 2 ∨ k = 3 ∨ k = 4 ∨ k = 5 ∨ k = 6 ∨ k = 7 ∨ k = 8 ∨ k = 9 ∨ k = 10 ∨ k = 11 ∨ k = 12 ∨ k = 13 ∨ k = 14 ∨ k = 15 ∨ k = 16 ∨ k = 17 ∨ k = 18 ∨ k = 19 := by omega
  have z0 : ET 65536 (Qt.mk 17 .empty .empty [] ⟨0, 0, 0, 0⟩ [] [] 0 0 0 0 0 0 ⟨0, .empty, 0, 0, 0⟩ []) := by simp [ET]
  have c1 : Q (Qt.mk 1 s5 .empty [] p [] [] 0 0 0 0 0 0 ⟨0, .empty, 0, 0, 0⟩ []) := hQ _ (vk1 _ _ hs5 hp) (by have hps : 0 ≤ p.fq ∧ p.fq ≤ 3 := (by unfold H5 at gp; omega); simp [ET]; omega)
  have c6 : ∃ v15, VN (List.drop (Int.toNat (Y7 (l.length : Int) (i % 5))) l) (IntKind.i64.wrap (1 + t7 % 8)) v15 ∧ Q (Qt.mk 6 s5 .empty [] ⟨0, 0, 0, 0⟩ v15 c 0 0 0 0 0 0 ⟨0, .empty, 0, 0, 0⟩ []) := by
    rw [Zq (by omega)]
    obtain ⟨v15, e15, l15, o15⟩ := DR (List.drop (Int.toNat (Y7 (l.length : Int) (i % 5))) l) (1 + t7 % 8) (by simp; omega) (by omega) (by omega)
    exact ⟨v15, e15, hQ _ (vk6 _ _ _ hs5 (il0 (by omega) o15) hc0) (by simp [ET]; omega)⟩
  obtain ⟨v15, e15, c6⟩ := c6
  have c9 : (0 ≤ IntKind.i64.wrap (IntKind.i64.wrap (1 + t10 % 2) + t11 % 2) ∧ IntKind.i64.wrap (IntKind.i64.wrap (1 + t10 % 2) + t11 % 2) ≤ 3) ∧ Q (Qt.mk 9 .empty .empty (List.take (Int.toNat (IntKind.i64.wrap (IntKind.i64.wrap (1 + t10 % 2) + t11 % 2))) [s5, s7, s8]) ⟨0, 0, 0, 0⟩ [] [] 0 0 0 0 0 0 ⟨0, .empty, 0, 0, 0⟩ []) := by
    have w : IntKind.i64.wrap (IntKind.i64.wrap (1 + t10 % 2) + t11 % 2) = 1 + t10 % 2 + t11 % 2 := by rw [Zq (n := 1 + t10 % 2) (by omega), Zq (by omega)]
    rw [w]
    refine ⟨by omega, hQ _ (vk9 _ (nl0 (by simp; omega) fun x hx => ?_)) (by simp [ET]; omega)⟩
    have := List.mem_of_mem_take hx
    simp at this
    rcases this with rfl | rfl | rfl <;> assumption
  obtain ⟨sk, esk, zsk⟩ := Hb (List.drop (Int.toNat (Y7 (l.length : Int) (i % 7))) l) (by simp; omega)
  obtain ⟨ex, eex, lex⟩ := Hc sk zsk
  rcases hks with rfl | rfl | rfl | rfl | rfl | rfl | rfl | rfl | rfl | rfl | rfl | rfl | rfl | rfl | rfl | rfl | rfl | rfl | rfl | rfl
  · exact ⟨fun _ => ⟨fun _ => ⟨s5, es5, p, ep, c1⟩, fun h => by simp at h⟩, fun h => by simp at h⟩
  · exact ⟨fun h => by simp at h, fun _ => ⟨fun _ => ⟨s5, es5, p, ep, c1⟩, fun h => by simp at h⟩⟩
  · exact ⟨fun h => by simp at h, fun _ => ⟨fun h => by simp at h, fun _ => ⟨fun _ => ⟨s5, es5, hQ _ (vk2 _ hs5) (by simp [ET])⟩, fun h => by simp at h⟩⟩⟩
  · exact ⟨fun h => by simp at h, fun _ => ⟨fun h => by simp at h, fun _ => ⟨fun h => by simp at h, fun _ => ⟨fun _ => ⟨s5, es5, s7, es7, hQ _ (vk3 _ _ hs5 hs7) (by simp [ET])⟩, fun h => by simp at h⟩⟩⟩⟩
  · exact ⟨fun h => by simp at h, fun _ => ⟨fun h => by simp at h, fun _ => ⟨fun h => by simp at h, fun _ => ⟨fun h => by simp at h, fun _ => ⟨fun _ => hQ _ vk4 (by simp [ET]), fun h => by simp at h⟩⟩⟩⟩⟩
  · exact ⟨fun h => by simp at h, fun _ => ⟨fun h => by simp at h, fun _ => ⟨fun h => by simp at h, fun _ => ⟨fun h => by simp at h, fun _ => ⟨fun h => by simp at h, fun _ => ⟨fun _ => ⟨s5, es5, q, eq, hQ _ (vk5 _ _ hs5 hq) (by simp [ET])⟩, fun h => by simp at h⟩⟩⟩⟩⟩⟩
  · exact ⟨fun h => by simp at h, fun _ => ⟨fun h => by simp at h, fun _ => ⟨fun h => by simp at h, fun _ => ⟨fun h => by simp at h, fun _ => ⟨fun h => by simp at h, fun _ => ⟨fun h => by simp at h, fun _ => ⟨fun _ => ⟨fun _ => ⟨s5, es5, m5, v15, e15, c, ec, c6⟩, fun h => by simp at h⟩, fun h => by simp at h⟩⟩⟩⟩⟩⟩⟩
  · exact ⟨fun h => by simp at h, fun _ => ⟨fun h => by simp at h, fun _ => ⟨fun h => by simp at h, fun _ => ⟨fun h => by simp at h, fun _ => ⟨fun h => by simp at h, fun _ => ⟨fun h => by simp at h, fun _ => ⟨fun h => by simp at h, fun _ => ⟨fun _ => ⟨fun _ => ⟨s5, es5, m5, v15, e15, c, ec, c6⟩, fun h => by simp at h⟩, fun h => by simp at h⟩⟩⟩⟩⟩⟩⟩⟩
  · exact ⟨fun h => by simp at h, fun _ => ⟨fun h => by simp at h, fun _ => ⟨fun h => by simp at h, fun _ => ⟨fun h => by simp at h, fun _ => ⟨fun h => by simp at h, fun _ => ⟨fun h => by simp at h, fun _ => ⟨fun h => by simp at h, fun _ => ⟨fun h => by simp at h, fun _ => ⟨fun _ => ⟨s5, es5, m5, v15, e15, c, ec, c6⟩, fun h => by simp at h⟩⟩⟩⟩⟩⟩⟩⟩⟩
  · exact ⟨fun h => by simp at h, fun _ => ⟨fun h => by simp at h, fun _ => ⟨fun h => by simp at h, fun _ => ⟨fun h => by simp at h, fun _ => ⟨fun h => by simp at h, fun _ => ⟨fun h => by simp at h, fun _ => ⟨fun h => by simp at h, fun _ => ⟨fun h => by simp at h, fun _ => ⟨fun h => by simp at h, fun _ => ⟨fun _ => ⟨s5, es5, s7, es7, c, ec, hQ _ (vk7 _ _ _ hs5 hs7 hc0) (by simp [ET]; omega)⟩, fun h => by simp at h⟩⟩⟩⟩⟩⟩⟩⟩⟩⟩
  · exact ⟨fun h => by simp at h, fun _ => ⟨fun h => by simp at h, fun _ => ⟨fun h => by simp at h, fun _ => ⟨fun h => by simp at h, fun _ => ⟨fun h => by simp at h, fun _ => ⟨fun h => by simp at h, fun _ => ⟨fun h => by simp at h, fun _ => ⟨fun h => by simp at h, fun _ => ⟨fun h => by simp at h, fun _ => ⟨fun h => by simp at h, fun _ => ⟨fun _ => ⟨s5, es5, s7, es7, c, ec, hQ _ (vk8 _ _ _ _ _ hs5 hs7 hc0 (Fl (by rw [Zq (by omega)]; omega)) (Fl (by rw [Zq (by omega)]; omega))) (by simp [ET]; omega)⟩, fun h => by simp at h⟩⟩⟩⟩⟩⟩⟩⟩⟩⟩⟩
  · exact ⟨fun h => by simp at h, fun _ => ⟨fun h => by simp at h, fun _ => ⟨fun h => by simp at h, fun _ => ⟨fun h => by simp at h, fun _ => ⟨fun h => by simp at h, fun _ => ⟨fun h => by simp at h, fun _ => ⟨fun h => by simp at h, fun _ => ⟨fun h => by simp at h, fun _ => ⟨fun h => by simp at h, fun _ => ⟨fun h => by simp at h, fun _ => ⟨fun h => by simp at h, fun _ => ⟨fun _ => ⟨fun _ => ⟨s5, es5, s7, es7, s8, es8, c9.1, c9.2⟩, fun h => by simp at h⟩, fun h => by simp at h⟩⟩⟩⟩⟩⟩⟩⟩⟩⟩⟩⟩
  · exact ⟨fun h => by simp at h, fun _ => ⟨fun h => by simp at h, fun _ => ⟨fun h => by simp at h, fun _ => ⟨fun h => by simp at h, fun _ => ⟨fun h => by simp at h, fun _ => ⟨fun h => by simp at h, fun _ => ⟨fun h => by simp at h, fun _ => ⟨fun h => by simp at h, fun _ => ⟨fun h => by simp at h, fun _ => ⟨fun h => by simp at h, fun _ => ⟨fun h => by simp at h, fun _ => ⟨fun h => by simp at h, fun _ => ⟨fun _ => ⟨s5, es5, s7, es7, s8, es8, c9.1, c9.2⟩, fun h => by simp at h⟩⟩⟩⟩⟩⟩⟩⟩⟩⟩⟩⟩⟩
  · exact ⟨fun h => by simp at h, fun _ => ⟨fun h => by simp at h, fun _ => ⟨fun h => by simp at h, fun _ => ⟨fun h => by simp at h, fun _ => ⟨fun h => by simp at h, fun _ => ⟨fun h => by simp at h, fun _ => ⟨fun h => by simp at h, fun _ => ⟨fun h => by simp at h, fun _ => ⟨fun h => by simp at h, fun _ => ⟨fun h => by simp at h, fun _ => ⟨fun h => by simp at h, fun _ => ⟨fun h => by simp at h, fun _ => ⟨fun h => by simp at h, fun _ => ⟨fun _ => ⟨q, eq, hQ _ (vk10 _ _ _ (Fl (by omega)) (Fl (by omega)) hq) (by simp [ET])⟩, fun h => by simp at h⟩⟩⟩⟩⟩⟩⟩⟩⟩⟩⟩⟩⟩⟩
  · exact ⟨fun h => by simp at h, fun _ => ⟨fun h => by simp at h, fun _ => ⟨fun h => by simp at h, fun _ => ⟨fun h => by simp at h, fun _ => ⟨fun h => by simp at h, fun _ => ⟨fun h => by simp at h, fun _ => ⟨fun h => by simp at h, fun _ => ⟨fun h => by simp at h, fun _ => ⟨fun h => by simp at h, fun _ => ⟨fun h => by simp at h, fun _ => ⟨fun h => by simp at h, fun _ => ⟨fun h => by simp at h, fun _ => ⟨fun h => by simp at h, fun _ => ⟨fun h => by simp at h, fun _ => ⟨fun _ => hQ _ (vk11 _ (Fl (by omega))) (by simp [ET]), fun h => by simp at h⟩⟩⟩⟩⟩⟩⟩⟩⟩⟩⟩⟩⟩⟩⟩
  · exact ⟨fun h => by simp at h, fun _ => ⟨fun h => by simp at h, fun _ => ⟨fun h => by simp at h, fun _ => ⟨fun h => by simp at h, fun _ => ⟨fun h => by simp at h, fun _ => ⟨fun h => by simp at h, fun _ => ⟨fun h => by simp at h, fun _ => ⟨fun h => by simp at h, fun _ => ⟨fun h => by simp at h, fun _ => ⟨fun h => by simp at h, fun _ => ⟨fun h => by simp at h, fun _ => ⟨fun h => by simp at h, fun _ => ⟨fun h => by simp at h, fun _ => ⟨fun h => by simp at h, fun _ => ⟨fun h => by simp at h, fun _ => ⟨fun _ => hQ _ (vk12 _ _ (Fl (by omega)) (Fl (by omega))) (by simp [ET]), fun h => by simp at h⟩⟩⟩⟩⟩⟩⟩⟩⟩⟩⟩⟩⟩⟩⟩⟩
  · exact ⟨fun h => by simp at h, fun _ => ⟨fun h => by simp at h, fun _ => ⟨fun h => by simp at h, fun _ => ⟨fun h => by simp at h, fun _ => ⟨fun h => by simp at h, fun _ => ⟨fun h => by simp at h, fun _ => ⟨fun h => by simp at h, fun _ => ⟨fun h => by simp at h, fun _ => ⟨fun h => by simp at h, fun _ => ⟨fun h => by simp at h, fun _ => ⟨fun h => by simp at h, fun _ => ⟨fun h => by simp at h, fun _ => ⟨fun h => by simp at h, fun _ => ⟨fun h => by simp at h, fun _ => ⟨fun h => by simp at h, fun _ => ⟨fun h => by simp at h, fun _ => ⟨fun _ => hQ _ (vk13 _ _ (Fl (by omega)) (Fl (by omega))) (by simp [ET]), fun h => by simp at h⟩⟩⟩⟩⟩⟩⟩⟩⟩⟩⟩⟩⟩⟩⟩⟩⟩
  · exact ⟨fun h => by simp at h, fun _ => ⟨fun h => by simp at h, fun _ => ⟨fun h => by simp at h, fun _ => ⟨fun h => by simp at h, fun _ => ⟨fun h => by simp at h, fun _ => ⟨fun h => by simp at h, fun _ => ⟨fun h => by simp at h, fun _ => ⟨fun h => by simp at h, fun _ => ⟨fun h => by simp at h, fun _ => ⟨fun h => by simp at h, fun _ => ⟨fun h => by simp at h, fun _ => ⟨fun h => by simp at h, fun _ => ⟨fun h => by simp at h, fun _ => ⟨fun h => by simp at h, fun _ => ⟨fun h => by simp at h, fun _ => ⟨fun h => by simp at h, fun _ => ⟨fun h => by simp at h, fun _ => ⟨fun _ => hQ _ (vk14 _ (Fl (by omega))) (by simp [ET]), fun h => by simp at h⟩⟩⟩⟩⟩⟩⟩⟩⟩⟩⟩⟩⟩⟩⟩⟩⟩⟩
  · exact ⟨fun h => by simp at h, fun _ => ⟨fun h => by simp at h, fun _ => ⟨fun h => by simp at h, fun _ => ⟨fun h => by simp at h, fun _ => ⟨fun h => by simp at h, fun _ => ⟨fun h => by simp at h, fun _ => ⟨fun h => by simp at h, fun _ => ⟨fun h => by simp at h, fun _ => ⟨fun h => by simp at h, fun _ => ⟨fun h => by simp at h, fun _ => ⟨fun h => by simp at h, fun _ => ⟨fun h => by simp at h, fun _ => ⟨fun h => by simp at h, fun _ => ⟨fun h => by simp at h, fun _ => ⟨fun h => by simp at h, fun _ => ⟨fun h => by simp at h, fun _ => ⟨fun h => by simp at h, fun _ => ⟨fun h => by simp at h, fun _ => ⟨fun _ => ⟨fun _ => hQ _ (vk15 _ _ (Fl (by omega)) (Fl (by omega))) (by simp [ET]), fun _ => ⟨s6, es6, m7, sk, esk, ex, eex, hQ _ (vk16 _ _ hs6 (sho0 (by omega))) (by simp [ET]; omega)⟩⟩, fun h => by simp at h⟩⟩⟩⟩⟩⟩⟩⟩⟩⟩⟩⟩⟩⟩⟩⟩⟩⟩⟩
  · exact ⟨fun h => by simp at h, fun _ => ⟨fun h => by simp at h, fun _ => ⟨fun h => by simp at h, fun _ => ⟨fun h => by simp at h, fun _ => ⟨fun h => by simp at h, fun _ => ⟨fun h => by simp at h, fun _ => ⟨fun h => by simp at h, fun _ => ⟨fun h => by simp at h, fun _ => ⟨fun h => by simp at h, fun _ => ⟨fun h => by simp at h, fun _ => ⟨fun h => by simp at h, fun _ => ⟨fun h => by simp at h, fun _ => ⟨fun h => by simp at h, fun _ => ⟨fun h => by simp at h, fun _ => ⟨fun h => by simp at h, fun _ => ⟨fun h => by simp at h, fun _ => ⟨fun h => by simp at h, fun _ => ⟨fun h => by simp at h, fun _ => ⟨fun h => by simp at h, fun _ => hQ _ vk17 z0⟩⟩⟩⟩⟩⟩⟩⟩⟩⟩⟩⟩⟩⟩⟩⟩⟩⟩⟩
theorem NS (l : List Int) (i : Int) (hl : l.length ≤ 4611686018427387904) (h0 : 0 ≤ i) (h1 : i ≤ 900) : ∃ x, UQ l i x ∧ KJ x = 0 ∧ ET 65536 x :=
  NH (Post := fun x => KJ x = 0 ∧ ET 65536 x) (NR l i hl h0 h1 _ fun x h1 h2 => ⟨h1, h2⟩)
theorem Fo (a : Int) (ha : 0 ≤ a) : ∃ q, Xb a q := by
  obtain ⟨v, hv, _⟩ := F7 (Post := fun _ => True) (a0 := a) (by
    unfold JY
    simp only [jn]
    obtain ⟨v1, e1, _⟩ := DO a
    have h4 : 0 ≤ QF .i64 a 4 := by
      show 0 ≤ a.fdiv (2 ^ 4)
      rw [Int.fdiv_eq_ediv_of_nonneg a (by decide)]
      exact Int.ediv_nonneg ha (by decide)
    have h3 : 0 ≤ (QF .i64 a 4).tmod 3 ∧ (QF .i64 a 4).tmod 3 < 3 := by rw [KF h4]; omega
    obtain ⟨x, hx, _⟩ := K1 (l := ([((⟨#[]⟩ : ByteArray)), ((⟨#[120]⟩ : ByteArray)), ((⟨#[48, 49, 50, 51, 52, 53, 54, 55, 56, 57, 48, 49, 50, 51, 52, 53, 54, 55, 56, 57, 48, 49, 50, 51, 52, 53, 54, 55, 56, 57, 48, 49, 50, 51]⟩ : ByteArray))])) h3.1 (by simp; omega)
    exact ⟨v1, e1, fun _ => trivial, fun _ => ⟨fun _ => ⟨x, hx, trivial⟩, fun _ => ⟨fun _ => trivial, fun _ => ⟨fun _ => trivial, fun _ => ⟨fun _ => trivial, fun _ => trivial⟩⟩⟩⟩⟩)
  exact ⟨v, hv⟩
theorem IC (x : Qt) (a : Int) (m : Nat) (hm : m ≤ 1000000) (hx : ET m x) (Q : Qt → Prop) (hQ : ∀ y, ET (m + 70000) y → Q y) : VT x a Q := by
  obtain ⟨h1, h2, h3, h4, h5, h6⟩ := hx
  unfold VT
  simp only [jn, Gn, bA3]
  have ht : 0 ≤ QF .i64 a 5 % 16777216 ∧ QF .i64 a 5 % 16777216 < 16777216 := by omega
  generalize QF .i64 a 5 % 16777216 = t at ht ⊢
  have t3 : t.tmod 3 = t % 3 := KF ht.1
  have t20 : t.tmod 20 = t % 20 := KF ht.1
  have t2 : t.tmod 2 = t % 2 := KF ht.1
  have t9 : t.tmod 9 = t % 9 := KF ht.1
  have w1 : IntKind.i64.wrap (64 + t % 2) = 64 + t % 2 := Zq (by omega)
  have w2 : IntKind.i64.wrap (60 + t % 9) = 60 + t % 9 := Zq (by omega)
  have w3 : IntKind.i64.wrap (65536 + t % 2) = 65536 + t % 2 := Zq (by omega)
  rw [t3, t20, t2, t9, w1, w2, w3]
  obtain ⟨s1, e1, _⟩ := K1 (l := ([((⟨#[]⟩ : ByteArray)), ((⟨#[65]⟩ : ByteArray)), ((⟨#[97, 45, 49, 46, 120]⟩ : ByteArray)), ((⟨#[48, 49, 50, 51, 52, 53, 54, 55, 56, 57, 48, 49, 50, 51, 52, 53, 54]⟩ : ByteArray))])) (n := t % 4) (by omega) (by simp; omega)
  obtain ⟨s2, e2, _⟩ := K1 (l := ([((⟨#[]⟩ : ByteArray)), ((⟨#[98]⟩ : ByteArray)), ((⟨#[98, 32, 98]⟩ : ByteArray)), ((⟨#[99]⟩ : ByteArray))])) (n := t % 4) (by omega) (by simp; omega)
  obtain ⟨s3, e3, _⟩ := K1 (l := ([((⟨#[]⟩ : ByteArray)), ((⟨#[97]⟩ : ByteArray)), ((⟨#[63]⟩ : ByteArray))])) (n := t % 3) (by omega) (by simp; omega)
  obtain ⟨s6, e6, _⟩ := CQ t
  obtain ⟨s9, e9, _⟩ := K1 (l := ([(0), (1), (1048576), (1048577)] : List Int)) (n := t % 4) (by omega) (by simp; omega)
  obtain ⟨q, eq⟩ := Fo t ht.1
  have z0 : x.fw.length ≤ m + 70000 ∧ x.fj.length ≤ m + 70000 ∧ x.fa1.length ≤ m + 70000 ∧ x.fa5.length ≤ m + 70000 := by omega
  obtain ⟨z1, z2, z3, z4⟩ := z0
  refine ⟨fun _ => hQ _ ⟨z1, z2, z3, z4, h5, h6⟩, fun _ => ⟨fun _ => ⟨s1, e1, hQ _ ⟨z1, z2, z3, z4, h5, h6⟩⟩, fun _ => ⟨fun _ => ⟨s2, e2, hQ _ ⟨z1, z2, z3, z4, h5, h6⟩⟩, fun _ => ⟨fun _ => ⟨by omega, s3, e3, by simp; omega, hQ _ ⟨by simp; omega, z2, z3, z4, h5, h6⟩⟩, fun _ => ⟨fun _ => ⟨⟨by omega, by omega⟩, hQ _ ⟨by simp; omega, z2, z3, z4, h5, h6⟩⟩, fun _ => ⟨fun _ => hQ _ ⟨z1, z2, z3, z4, by simp, by simp⟩, fun _ => ⟨fun _ => ⟨by omega, s6, e6, by simp; omega, hQ _ ⟨z1, by simp; omega, z3, z4, h5, h6⟩⟩, fun _ => ⟨fun _ => ⟨⟨by omega, by omega⟩, hQ _ ⟨z1, by simp; omega, z3, z4, h5, h6⟩⟩, fun _ => ⟨fun _ => ⟨⟨by omega, by omega⟩, hQ _ ⟨z1, z2, by simp; omega, z4, h5, h6⟩⟩, fun _ => ⟨fun _ => ⟨s9, e9, hQ _ ⟨z1, z2, z3, z4, h5, h6⟩⟩, fun _ => ⟨fun _ => ⟨s9, e9, hQ _ ⟨z1, z2, z3, z4, h5, h6⟩⟩, fun _ => ⟨fun _ => hQ _ ⟨z1, z2, z3, z4, h5, h6⟩, fun _ => ⟨fun _ => hQ _ ⟨z1, z2, z3, z4, h5, h6⟩, fun _ => ⟨fun _ => hQ _ ⟨z1, z2, z3, z4, h5, h6⟩, fun _ => ⟨fun _ => hQ _ ⟨z1, z2, z3, z4, h5, h6⟩, fun _ => ⟨fun _ => ⟨q, eq, hQ _ ⟨z1, z2, z3, z4, h5, h6⟩⟩, fun _ => ⟨fun _ => ⟨⟨by omega, by omega⟩, hQ _ ⟨z1, z2, z3, by simp; omega, h5, h6⟩⟩, fun _ => ⟨fun _ => hQ _ ⟨z1, z2, z3, by simp, h5, h6⟩, fun _ => hQ _ ⟨z1, z2, z3, z4, h5, h6⟩⟩⟩⟩⟩⟩⟩⟩⟩⟩⟩⟩⟩⟩⟩⟩⟩⟩⟩
theorem ID (x : Qt) (a : Int) (m : Nat) (hm : m ≤ 1000000) (hx : ET m x) : ∃ y, YM x a y ∧ ET (m + 70000) y :=
  Ic (Post := fun y => ET (m + 70000) y) (IC x a m hm hx _ fun y h => h)
theorem NT : Kb [] (zOp, 3) := by
  unfold Kb VU
  exact ⟨P8 [], BA [] ⟨Nat.zero_le _, fun c hc => by simp at hc⟩, fun _ => rfl, fun c => by simp [P8] at c⟩
theorem As (l : List Int) (n : Int) (hl : l.length ≤ 4611686018427387904) : Jt l n true := by
  unfold Jt VV
  obtain ⟨v1, e1, z1, s1⟩ := NS l 0 hl (by omega) (by omega)
  obtain ⟨v2, e2, s2⟩ := ID v1 n 65536 (by omega) s1
  refine ⟨v1, e1, v2, e2, Ap v2, Yr v2, Ap v2, Gy v2, fun c => by simp at c, fun _ => ?_⟩
  by_cases h : KJ v2 = 0
  · have hE : Ap v2 = (Ve 79 (Y2 v2), 0) := by unfold Ap; rw [if_neg (by simp [h])]
    have y1 := s2.1; have y2 := s2.2.1; have y5 := s2.2.2.2.2
    rw [hE]
    dsimp only
    exact ⟨(Uk v2, 0), Gz v2 h y5, fun c => by simp at c, fun _ => ⟨true, fun _ => Iv v2 (by omega) (by omega), true, fun _ => Nn, rfl⟩⟩
  · have hE : Ap v2 = ([], KJ v2) := by unfold Ap; rw [if_pos h]
    rw [hE]
    dsimp only
    exact ⟨(zOp, 3), NT, fun _ => ⟨true, fun _ => Nn, rfl⟩, fun c => by simp at c; exact absurd c h⟩
theorem OperationCodes_walk (v0 : Value) (l0 : List Int) (a1 : Int) (w : World) (h0 : Ints .i64 w v0 l0) (s0 : l0.length * Tryz.prog.bytesOf 3 ≤ 140737488351232) (h1 : (Lit.int .i64 a1).wf = true) :
    Calls Tryz.prog 4 #[v0, .int .i64 a1] w fun e w' => e = .returned (.bool true) ∧ Below w.heap.size w w' := by
  have hl : l0.length ≤ 4611686018427387904 := by
    have e : Tryz.prog.bytesOf 3 = 8 := by kernel_rfl
    rw [e] at s0; omega
  refine (Un (A := fun x => x < w.heap.size) (vs := #[v0, .int .i64 a1]) (g := 0) (q := 0) (Al l0 a1 true (As l0 a1 hl)) rfl (fun x h => h) ⟨M0 h0 (fun _ _ _ g _ _ hg => hg), .v _ h1, trivial⟩).mono ?_
  rintro e w' ⟨rfl, hg⟩
  exact ⟨rfl, Fy hg⟩
end Go.Proofs.YthlaenafkihjiaaGreat
