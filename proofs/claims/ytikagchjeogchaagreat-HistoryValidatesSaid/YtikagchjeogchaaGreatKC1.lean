/- Parts of the proof, laid together. No condition. -/
import Derived.Test.YtikagchjeogchaaGreatKB6
set_option linter.unusedVariables false
set_option linter.unusedSimpArgs false

namespace Go.Proofs.YtikagchjeogchaaGreat
open Go.RowKit
theorem Vi {a b : Bool} : (bif a then b else false) = (a && b) := by cases a <;> rfl
theorem Um {a b : Bool} : (bif a then true else b) = (a || b) := by cases a <;> rfl
theorem Fz {n lo hi : Int} {r : Bool} : Rr (Zg n lo hi) r ↔ r = wI n lo hi := by
 unfold Rr Zg wI; (try simp only [ct, cs, jo, Go.Proofs.YtikagchjeogchaaGreat.lo, lv, jn, Qb]); by_cases h : lo ≤ n <;> simp [h]
theorem Lz {n lo hi : Int} {r : Bool} : Rr (Zn n lo hi) r ↔ r = wI n lo hi := by
 unfold Rr Zn wI; (try simp only [ct, cs, jo, Go.Proofs.YtikagchjeogchaaGreat.lo, lv, jn, Qb]); by_cases h : lo ≤ n <;> simp [h]
theorem RJ {n lo hi : Int} {r : Bool} : Rr (K8 n lo hi) r ↔ r = wI n lo hi := by
 unfold Rr K8 wI; (try simp only [ct, cs, jo, Go.Proofs.YtikagchjeogchaaGreat.lo, lv, jn, Qb]); by_cases h : lo ≤ n <;> simp [h]
theorem Tf {n lo hi : Int} {r : Bool} : Rr (Kv n lo hi) r ↔ r = wI n lo hi := by
 unfold Rr Kv wI; (try simp only [ct, cs, jo, Go.Proofs.YtikagchjeogchaaGreat.lo, lv, jn, Qb]); by_cases h : lo ≤ n <;> simp [h]
theorem Q1c {c : Int} {r : Bool} : Rr (XO c) r ↔ r = wI c 97 122 := by
 unfold Rr XO wI; (try simp only [ct, cs, jo, Go.Proofs.YtikagchjeogchaaGreat.lo, lv, jn, Qb]); by_cases h : (97 : Int) ≤ c <;> simp [h]
theorem Q1d {c : Int} {r : Bool} : Rr (W1 c) r ↔ r = wI c 48 57 := by
 unfold Rr W1 wI; (try simp only [ct, cs, jo, Go.Proofs.YtikagchjeogchaaGreat.lo, lv, jn, Qb]); by_cases h : (48 : Int) ≤ c <;> simp [h]
theorem AC {n lo hi : Int} {r : Int} : Rr (Z0 n lo hi) r ↔ r = if lo ≤ n ∧ n ≤ hi then 0 else 5 := by
 unfold Rr Z0; (try simp only [ct, cs, jo, Go.Proofs.YtikagchjeogchaaGreat.lo, lv, jn, Qb])
 by_cases h : n < lo
 ·simp [h]; rw [if_neg (by omega)]
 ·by_cases h2 : n > hi
  ·simp [h, h2]; rw [if_neg (by omega)]
  ·simp [h, h2]; rw [if_pos (by omega)]
theorem Qhw {s : ByteArray} : (decide (1 ≤ (s.size : Int)) && decide ((s.size : Int) ≤ 32)) = decide (1 ≤ s.size ∧ s.size ≤ 32) := by
 rw [Bool.decide_and]; congr 1 <;> exact decide_eq_decide.2 (by omega)
theorem MS {s : ByteArray} {r : Bool} : Rr (XP s) r ↔ r = decide (1 ≤ s.size ∧ s.size ≤ 32) := by
 unfold Rr XP; (try simp only [ct, cs, jo, Go.Proofs.YtikagchjeogchaaGreat.lo, lv, jn, Qb]); rw [Vi, ← Qhw]
theorem OD {s : ByteArray} {r : Bool} : Rr (Zt s) r ↔ r = decide (1 ≤ s.size ∧ s.size ≤ 32) := by
 unfold Rr Zt; (try simp only [ct, cs, jo, Go.Proofs.YtikagchjeogchaaGreat.lo, lv, jn, Qb]); rw [Vi, ← Qhw]
def Iw (k s d z : Int) : Int :=
 if k = 1 then (if s ≠ 0 ∨ d ≠ 0 ∨ z ≠ 0 then 10 else 0)
 else if k = 2 then (if ¬ (1 ≤ d ∧ d ≤ 8 ∧ 1 ≤ s ∧ s ≤ 64) then 5 else 0)
 else if k = 3 then (if ¬ (2 ≤ s ∧ s ≤ 8) then 5 else if d ≠ 0 then 10 else 0)
 else if k = 4 ∨ k = 5 then (if ¬ (1 ≤ s ∧ s ≤ 32) then 5 else if d ≠ 0 ∨ z ≠ 0 then 10 else 0)
 else if k = 6 then (if ¬ (2 ≤ s ∧ s ≤ 32 ∧ s % 2 = 0) then 5 else if d ≠ 0 ∨ z ≠ 0 then 10 else 0)
 else 8
theorem He (p : Q6) : Rr (ZW p) (Iw p.f7 p.fq p.fa0 p.f8) := by
 unfold Rr ZW
 simp only [ct, cs, jo, Go.Proofs.YtikagchjeogchaaGreat.lo, lv, jn, Qb, RJ, exists_eq_left, Vi, Um]
 obtain ⟨k, s, d, z⟩ := p
 simp only
 by_cases h1 : k = 1
 ·subst h1; by_cases hs : s = 0 <;> by_cases hd : d = 0 <;> by_cases hz : z = 0 <;> simp [Iw, hs, hd, hz]
 by_cases h2 : k = 2
 ·subst h2
  by_cases hd : wI d 1 8 = true <;> by_cases hs : wI s 1 64 = true <;> simp [Iw, hs, hd] <;> simp [wI] at hs hd <;> omega
 by_cases h3 : k = 3
 ·subst h3
  by_cases hd : d = 0 <;> by_cases hs : wI s 2 8 = true <;> simp [Iw, hs, hd] <;> simp [wI] at hs hd <;> omega
 by_cases h4 : k = 4 ∨ k = 5
 ·have hk : (k == 4 || k == 5) = true := by simpa using h4
  by_cases hd : d = 0 <;> by_cases hz : z = 0 <;> by_cases hs : wI s 1 32 = true <;> rcases h4 with rfl | rfl <;> simp [Iw, hs, hd, hz] <;> simp [wI] at hs hd <;> omega
 by_cases h6 : k = 6
 ·subst h6
  by_cases hs : wI s 2 32 = true
  ·have hs' : 2 ≤ s ∧ s ≤ 32 := by simpa [wI] using hs
   have ht : s.tmod 2 = s % 2 := Int.tmod_eq_emod_of_nonneg (by omega)
   by_cases hm : s % 2 = 0 <;> by_cases hd : d = 0 <;> by_cases hz : z = 0 <;> simp [Iw, hs, hd, hz, ht, hm, hs']
  ·have hs' : ¬ (2 ≤ s ∧ s ≤ 32) := by simpa [wI] using hs
   simp [Iw, hs]; omega
 ·have h4' : ¬ k = 4 ∧ ¬ k = 5 := by omega
  simp [Iw, h1, h2, h3, h4'.1, h4'.2, h6]
theorem I0 (p : Q6) : Rr (Z7 p) (Iw p.f7 p.fq p.fa0 p.f8) := by
 unfold Rr Z7
 simp only [ct, cs, jo, Go.Proofs.YtikagchjeogchaaGreat.lo, lv, jn, Qb, Lz, exists_eq_left, Vi, Um]
 obtain ⟨k, s, d, z⟩ := p
 simp only
 by_cases h1 : k = 1
 ·subst h1; by_cases hs : s = 0 <;> by_cases hd : d = 0 <;> by_cases hz : z = 0 <;> simp [Iw, hs, hd, hz]
 by_cases h2 : k = 2
 ·subst h2
  by_cases hd : wI d 1 8 = true <;> by_cases hs : wI s 1 64 = true <;> simp [Iw, hs, hd] <;> simp [wI] at hs hd <;> omega
 by_cases h3 : k = 3
 ·subst h3
  by_cases hd : d = 0 <;> by_cases hs : wI s 2 8 = true <;> simp [Iw, hs, hd] <;> simp [wI] at hs hd <;> omega
 by_cases h4 : k = 4 ∨ k = 5
 ·have hk : (k == 4 || k == 5) = true := by simpa using h4
  by_cases hd : d = 0 <;> by_cases hz : z = 0 <;> by_cases hs : wI s 1 32 = true <;> rcases h4 with rfl | rfl <;> simp [Iw, hs, hd, hz] <;> simp [wI] at hs hd <;> omega
 by_cases h6 : k = 6
 ·subst h6
  by_cases hs : wI s 2 32 = true
  ·have hs' : 2 ≤ s ∧ s ≤ 32 := by simpa [wI] using hs
   have ht : s.tmod 2 = s % 2 := Int.tmod_eq_emod_of_nonneg (by omega)
   by_cases hm : s % 2 = 0 <;> by_cases hd : d = 0 <;> by_cases hz : z = 0 <;> simp [Iw, hs, hd, hz, ht, hm, hs']
  ·have hs' : ¬ (2 ≤ s ∧ s ≤ 32) := by simpa [wI] using hs
   simp [Iw, hs]; omega
 ·have h4' : ¬ k = 4 ∧ ¬ k = 5 := by omega
  simp [Iw, h1, h2, h3, h4'.1, h4'.2, h6]
def Qa9 (k : Int) (key : ByteArray) (c n d : Int) : Int :=
 if ¬ (1 ≤ k ∧ k ≤ 7) then 8
 else if (k = 2 ∨ k = 6) ∧ ¬ (1 ≤ key.size ∧ key.size ≤ 32) then 7
 else if k = 5 ∧ ¬ (0 ≤ c ∧ c ≤ 32) then 5
 else if k = 7 ∧ ¬ (1 ≤ d ∧ d ≤ 1000000 ∧ 0 ≤ n ∧ n ≤ d) then 5
 else if (¬ (k = 2 ∨ k = 6) ∧ key.toList ≠ []) ∨ (k ≠ 5 ∧ c ≠ 0) ∨ (k ≠ 7 ∧ (n ≠ 0 ∨ d ≠ 0)) then 18 else 0
theorem FA : (⟨#[]⟩ : ByteArray).toList = [] := by unfold ByteArray.toList; unfold ByteArray.toList.loop; simp [ByteArray.size]
theorem Py (q : Qi) : Rr (Vw q) (Qa9 q.f7 q.fc9 q.fb2 q.fg8 q.fg7) := by
 unfold Rr Vw
 simp only [ct, cs, jo, Go.Proofs.YtikagchjeogchaaGreat.lo, lv, jn, Qb, MS, Vi, Um, FA]
 obtain ⟨k, s, c, n, d⟩ := q
 simp only
 by_cases hk : 1 ≤ k ∧ k ≤ 7
 ·have h7 : k = 1 ∨ k = 2 ∨ k = 3 ∨ k = 4 ∨ k = 5 ∨ k = 6 ∨ k = 7 := by omega
  clear hk; unfold Qa9
  generalize s.toList = l
  rcases h7 with rfl | rfl | rfl | rfl | rfl | rfl | rfl
  all_goals simp
  all_goals grind
 ·have h1 : k < 1 ∨ k > 7 := by omega
  simp [Qa9, hk, h1]
theorem Ix (q : Qi) : Rr (Zh q) (Qa9 q.f7 q.fc9 q.fb2 q.fg8 q.fg7) := by
 unfold Rr Zh
 simp only [ct, cs, jo, Go.Proofs.YtikagchjeogchaaGreat.lo, lv, jn, Qb, OD, Lz, exists_eq_left, Vi, Um, FA]
 obtain ⟨k, s, c, n, d⟩ := q
 simp only
 by_cases hk : 1 ≤ k ∧ k ≤ 7
 ·have h7 : k = 1 ∨ k = 2 ∨ k = 3 ∨ k = 4 ∨ k = 5 ∨ k = 6 ∨ k = 7 := by omega
  clear hk; unfold Qa9
  generalize s.toList = l
  rcases h7 with rfl | rfl | rfl | rfl | rfl | rfl | rfl
  all_goals simp [wI]
  all_goals grind
 ·have h1 : k < 1 ∨ k > 7 := by omega
  have h2 : wI k 1 7 = false := by simp [wI]; omega
  simp [Qa9, hk, h1, h2]
theorem Bp (n : Nat) (hn : n ≤ 4611686018427387904) {B : (Int → Prop) → Int → Prop} {J : Prop} (I : Nat → Prop) (h0 : I 0)
  (hB : ∀ j, j < n → I j → ∀ X : Int → Prop, (I (j + 1) → X (IntKind.i64.wrap ((j : Int) + 1))) → B X (j : Int)) (hJ : I n → J) :
  lp (fun X s => (decide (s < (n : Int)) = true → B X s) ∧ (decide (s < (n : Int)) = false → J)) 0 := by
 refine DZ (I := fun k s => ∃ j : Nat, s = (j : Int) ∧ j ≤ n ∧ k = n - j ∧ I j) ?_ (k := n) ⟨0, rfl, by omega, by omega, h0⟩
 rintro k s ⟨j, rfl, hj, hk, hI⟩ X hX
 refine ⟨fun h => ?_, fun h => ?_⟩
 ·have hj2 : (j : Int) < n := by simpa using h
  refine hB j (by omega) hI X fun hI2 => ?_
  rw [Vk (by omega)]
  exact hX (n - (j + 1)) _ (by omega) ⟨j + 1, by omega, by omega, rfl, hI2⟩
 ·have hj2 : ¬ (j : Int) < n := by simpa using h
  have : j = n := by omega
  subst this; exact hJ hI
def Pz (s : ByteArray) (j : Nat) : Int := if h : j < s.size then (s[j].toNat : Int) else 0
theorem No {s : ByteArray} {j : Nat} (h : j < s.size) : bx s (j : Int) (Pz s j) := bx_of rfl h (by simp [Pz, h])
def okc (c : Int) : Bool := wI c 97 122 || wI c 48 57 || c == 45 || c == 46
def nmB (s : ByteArray) : Bool := decide (1 ≤ s.size ∧ s.size ≤ 16) && wI (Pz s 0) 97 122 && (List.range s.size).all fun j => okc (Pz s j)
theorem Qhx {s : ByteArray} (h1 : 1 ≤ s.size ∧ s.size ≤ 16) (h2 : wI (Pz s 0) 97 122 = true) (h : ∀ i, i < s.size → okc (Pz s i) = true) : nmB s = true := by
 simp only [nmB, h1, h2]; simpa using h
theorem Qhy {s : ByteArray} {i : Nat} (hi : i < s.size) (h : okc (Pz s i) = false) : nmB s = false := by
 have : ((List.range s.size).all fun j => okc (Pz s j)) = false := by
  rw [List.all_eq_false]; exact ⟨i, by simpa using hi, by simp [h]⟩
 simp [nmB, this]
theorem Tg (s : ByteArray) : Rr (Ye s) (nmB s) := by
 unfold Rr Ye; (try simp only [ct, cs, jo, Go.Proofs.YtikagchjeogchaaGreat.lo, lv, jn, Qb])
 simp only [Q1c, Q1d, Vi, Um, ct, cs, jo, Go.Proofs.YtikagchjeogchaaGreat.lo, lv, jn, Qb, exists_eq_left]
 by_cases hz : 1 ≤ s.size ∧ s.size ≤ 16
 ·have h1 : decide ((s.size : Int) < 1) = false := by simp; omega
  have h2 : decide ((s.size : Int) > 16) = false := by simp; omega
  rw [h1, h2]
  refine ⟨Pz s 0, fun _ => No (j := 0) (by omega), wI (Pz s 0) 97 122, fun _ => rfl, ?_, ?_⟩
  ·intro h; simp at h; simp [nmB, h]
  ·intro h
   have h3 : wI (Pz s 0) 97 122 = true := by simpa using h
   refine Bp s.size (by omega) (fun j => ∀ i, i < j → okc (Pz s i) = true) (fun i hi => absurd hi (by omega)) ?_ ?_
   ·intro j hj hI X hX
    refine ⟨Pz s j, No hj, wI (Pz s j) 48 57, fun _ => rfl, ?_, ?_⟩
    ·intro hb; refine Qhy hj ?_; simp at hb; simp [okc, hb]
    ·intro hb; refine hX fun i hi => ?_
     by_cases e : i = j
     ·subst e; unfold okc; revert hb; cases wI (Pz s i) 97 122 <;> cases wI (Pz s i) 48 57 <;> simp <;> grind
     ·exact hI i (by omega)
   ·intro hI; exact Qhx hz h3 hI
 ·refine ⟨0, ?_, false, ?_, ?_, ?_⟩
  ·intro h; simp at h; omega
  ·intro h; simp at h; omega
  ·intro h; simp [nmB, hz]
  ·intro h; simp at h
theorem GI (s : ByteArray) : Rr (Zp s) (nmB s) := by
 unfold Rr Zp; (try simp only [ct, cs, jo, Go.Proofs.YtikagchjeogchaaGreat.lo, lv, jn, Qb])
 simp only [Tf, Vi, Um, ct, cs, jo, Go.Proofs.YtikagchjeogchaaGreat.lo, lv, jn, Qb, exists_eq_left]
 by_cases hz : 1 ≤ s.size ∧ s.size ≤ 16
 ·have h1 : decide ((s.size : Int) < 1) = false := by simp; omega
  have h2 : decide ((s.size : Int) > 16) = false := by simp; omega
  rw [h1, h2]
  refine ⟨Pz s 0, fun _ => No (j := 0) (by omega), wI (Pz s 0) 97 122, fun _ => rfl, ?_, ?_⟩
  ·intro h; simp at h; simp [nmB, h]
  ·intro h
   have h3 : wI (Pz s 0) 97 122 = true := by simpa using h
   refine Bp s.size (by omega) (fun j => ∀ i, i < j → okc (Pz s i) = true) (fun i hi => absurd hi (by omega)) ?_ ?_
   ·intro j hj hI X hX
    refine ⟨Pz s j, No hj, Pz s j, fun _ => No hj, wI (Pz s j) 48 57, fun _ => rfl, Pz s j, fun _ => No hj, Pz s j, fun _ => No hj, ?_, ?_⟩
    ·intro hb; refine Qhy hj ?_; simp at hb; simp [okc, hb]
    ·intro hb; refine hX fun i hi => ?_
     by_cases e : i = j
     ·subst e; unfold okc; revert hb; cases wI (Pz s i) 97 122 <;> cases wI (Pz s i) 48 57 <;> simp <;> grind
     ·exact hI i (by omega)
   ·intro hI; exact Qhx hz h3 hI
 ·refine ⟨0, ?_, false, ?_, ?_, ?_⟩
  ·intro h; simp at h; omega
  ·intro h; simp at h; omega
  ·intro h; simp [nmB, hz]
  ·intro h; simp at h
theorem Dd (s : ByteArray) : Rr (JK s) (if nmB s = true then 0 else 6) := by
 refine ⟨nmB s, Tg s, ?_, ?_⟩ <;> intro h <;> simp at h <;> simp [h]
def itE (x : QY) : Int := if ¬ (1 ≤ x.fc9.size ∧ x.fc9.size ≤ 32) then 7 else if ¬ (1 ≤ x.fg4 ∧ x.fg4 ≤ 4294967295) then 5 else 0
theorem LA (x : QY) : Rr (KC x) (itE x) := by
 unfold Rr KC itE; (try simp only [ct, cs, jo, Go.Proofs.YtikagchjeogchaaGreat.lo, lv, jn, Qb])
 simp only [MS, Vi, Um, exists_eq_left]
 by_cases h : 1 ≤ x.fc9.size ∧ x.fc9.size ≤ 32 <;> simp [h]; grind
theorem Mi (x : QY) : Rr (QN x) (itE x) := by
 unfold Rr QN itE; (try simp only [ct, cs, jo, Go.Proofs.YtikagchjeogchaaGreat.lo, lv, jn, Qb])
 simp only [OD, Vi, Um, exists_eq_left]
 by_cases h : 1 ≤ x.fc9.size ∧ x.fc9.size ≤ 32 <;> simp [h]; grind
def Mj {α : Type} (f : α → Int) : List α → Int
 | [] => 0
 | x :: r => if f x ≠ 0 then f x else Mj f r
theorem Qq0 {α : Type} {f : α → Int} {l : List α} (h : ∀ (j : Nat) x, l[j]? = some x → f x = 0) : Mj f l = 0 := by
 induction l with
 | nil => rfl
 | cons x r ih => simp [Mj, h 0 x rfl]; exact ih fun j x hx => h (j + 1) x (by simpa using hx)
theorem SF {α : Type} {f : α → Int} {l : List α} {j : Nat} {x : α} (hx : l[j]? = some x) (hn : f x ≠ 0) (h : ∀ i, i < j → ∀ y, l[i]? = some y → f y = 0) : Mj f l = f x := by
 induction l generalizing j with
 | nil => simp at hx
 | cons z r ih =>
  cases j with
  | zero => simp at hx; subst hx; simp [Mj, hn]
  | succ j =>
   simp [Mj, h 0 (by omega) z rfl]
   exact ih (by simpa using hx) fun i hi y hy => h (i + 1) (by omega) y (by simpa using hy)
theorem OE {α : Type} {l : List α} (hl : l.length ≤ 4611686018427387904) {B : (Int → Prop) → Int → Prop} {J : Prop} {f : α → Int}
  (hB : ∀ (j : Nat) x, l[j]? = some x → (∀ i, i < j → ∀ y, l[i]? = some y → f y = 0) → ∀ X : Int → Prop, (f x = 0 → X (IntKind.i64.wrap ((j : Int) + 1))) → B X (j : Int)) (hJ : Mj f l = 0 → J) :
  lp (fun X s => (decide (s < (l.length : Int)) = true → B X s) ∧ (decide (s < (l.length : Int)) = false → J)) 0 := by
 refine Bp l.length hl (fun j => ∀ i, i < j → ∀ y, l[i]? = some y → f y = 0) (fun i hi => absurd hi (by omega)) ?_ ?_
 ·intro j hj hI X hX
  obtain ⟨x, hx⟩ : ∃ x, l[j]? = some x := ⟨l[j], by simp [hj]⟩
  refine hB j x hx hI X fun h0 => hX fun i hi y hy => ?_
  by_cases e : i = j
  ·subst e; rw [hx] at hy; cases hy; exact h0
  ·exact hI i (by omega) y hy
 ·intro hI
  refine hJ (Qq0 fun j x hx => hI j ?_ x hx)
  rw [List.getElem?_eq_some_iff] at hx; exact hx.1
def nm6 (s : ByteArray) : Int := if nmB s = true then 0 else 6
def nlE (l : List ByteArray) : Int := if ¬ (1 ≤ l.length ∧ l.length ≤ 16) then 5 else Mj nm6 l
def ilE (l : List QY) : Int := if ¬ (1 ≤ l.length ∧ l.length ≤ 64) then 5 else Mj itE l
theorem PC (l : List ByteArray) : Rr (Vv l) (nlE l) := by
 unfold Rr Vv; (try simp only [ct, cs, jo, Go.Proofs.YtikagchjeogchaaGreat.lo, lv, jn, Qb])
 simp only [AC, exists_eq_left, ct, cs, jo, Go.Proofs.YtikagchjeogchaaGreat.lo, lv, jn, Qb]
 by_cases hz : 1 ≤ l.length ∧ l.length ≤ 16
 ·have e : ((1 : Int) ≤ l.length ∧ (l.length : Int) ≤ 16) := by omega
  rw [if_pos e]
  refine ⟨fun h => by simp at h, fun _ => ?_⟩
  refine OE (f := nm6) (by omega) ?_ ?_
  ·intro j x hx hb X hX
   refine ⟨x, BF rfl hx, nm6 x, Dd x, fun h => ?_, fun h => hX (by simpa using h)⟩
   have hn : nm6 x ≠ 0 := by simpa using h
   simp only [nlE, hz, not_true, and_self, if_false]; exact SF hx hn hb
  ·intro h; simp [nlE, hz, h]
 ·have e : ¬ ((1 : Int) ≤ l.length ∧ (l.length : Int) ≤ 16) := by omega
  rw [if_neg e]
  exact ⟨fun _ => by simp [nlE, hz], fun h => by simp at h⟩
theorem OF (l : List QY) : Rr (V6 l) (ilE l) := by
 unfold Rr V6; (try simp only [ct, cs, jo, Go.Proofs.YtikagchjeogchaaGreat.lo, lv, jn, Qb])
 simp only [AC, exists_eq_left, ct, cs, jo, Go.Proofs.YtikagchjeogchaaGreat.lo, lv, jn, Qb]
 by_cases hz : 1 ≤ l.length ∧ l.length ≤ 64
 ·have e : ((1 : Int) ≤ l.length ∧ (l.length : Int) ≤ 64) := by omega
  rw [if_pos e]
  refine ⟨fun h => by simp at h, fun _ => ?_⟩
  refine OE (f := itE) (by omega) ?_ ?_
  ·intro j x hx hb X hX
   refine ⟨x, BF rfl hx, itE x, LA x, fun h => ?_, fun h => hX (by simpa using h)⟩
   have hn : itE x ≠ 0 := by simpa using h
   simp only [ilE, hz, not_true, and_self, if_false]; exact SF hx hn hb
  ·intro h; simp [ilE, hz, h]
 ·have e : ¬ ((1 : Int) ≤ l.length ∧ (l.length : Int) ≤ 64) := by omega
  rw [if_neg e]
  exact ⟨fun _ => by simp [ilE, hz], fun h => by simp at h⟩
theorem VC (x : Int) (l : List Int) (hl : l.length ≤ 100) : Rr (K3 x l) (l.contains x) := by
 unfold Rr K3
 simp only [ct, cs, jo, Go.Proofs.YtikagchjeogchaaGreat.lo, lv, jn, Qb]
 refine OE (f := fun y => if y = x then 1 else 0) (by omega) ?_ ?_
 ·intro j y hy hb X hX
  refine ⟨y, BF rfl hy, fun h => ?_, fun h => hX (by simp at h; simp [h])⟩
  simp at h; subst h; simp; exact List.mem_of_getElem? hy
 ·intro h
  cases hc : l.contains x with
  | false => rfl
  | true =>
   exfalso
   have hm : x ∈ l := by simpa using hc
   obtain ⟨j, hj⟩ := List.getElem?_of_mem hm
   have : ∀ (l : List Int), x ∈ l → Mj (fun y => if y = x then 1 else 0) l ≠ 0 := by
    intro l; induction l with
    | nil => simp
    | cons a r ih => intro h; unfold Mj; by_cases e : a = x <;> simp [e]; have := ih (by simpa [Ne.symm e] using h); simpa using this
   exact this l hm h
def I1 (k : Int) : JS := JS.mk ([1, 2, 3, 5, 6, 7, 8, 16].contains k) ([3, 7, 8].contains k) ([9].contains k) ([1].contains k) ([6].contains k) ([6, 7, 8].contains k) ([8].contains k) ([10, 11, 12, 15].contains k) ([10, 12, 15].contains k) ([13, 14].contains k) ([13].contains k) ([5, 10].contains k) ([16].contains k)
theorem Q5c (k : Int) : Rr (YC k) (I1 k) := by
 unfold Rr YC; (try simp only [ct, cs, jo, Go.Proofs.YtikagchjeogchaaGreat.lo, lv, jn, Qb])
 exact ⟨_, VC _ _ (by simp), _, VC _ _ (by simp), _, VC _ _ (by simp), _, VC _ _ (by simp), _, VC _ _ (by simp), _, VC _ _ (by simp), _, VC _ _ (by simp), _, VC _ _ (by simp), _, VC _ _ (by simp), _, VC _ _ (by simp), _, VC _ _ (by simp), _, VC _ _ (by simp), _, VC _ _ (by simp), rfl⟩
def PD (x : Qj) (a b : Bool) : Int := if a = true ∧ nlE x.fa9 ≠ 0 then nlE x.fa9 else if b = true then ilE x.fb1 else 0
theorem MU (x : Qj) (a b : Bool) : Rr (JM x a b) (PD x a b) := by
 have part2 : ((b = true → ∃ v, Rr (Zg (x.fb1.length : Int) 1 64) v ∧ ((!v) = true → ilE x.fb1 = 5) ∧ ((!v) = false → Mj itE x.fb1 = ilE x.fb1))) := by
  intro hb
  refine ⟨_, Fz.2 rfl, ?_, ?_⟩ <;> intro h <;> simp [wI] at h <;> simp [ilE] <;> omega
 unfold Rr JM; (try simp only [ct, cs, jo, Go.Proofs.YtikagchjeogchaaGreat.lo, lv, jn, Qb])
 simp only [Fz, exists_eq_left, ct, cs, jo, Go.Proofs.YtikagchjeogchaaGreat.lo, lv, jn, Qb]
 have rest : (a = true → nlE x.fa9 = 0) → (b = true →
     (((!wI (↑x.fb1.length) 1 64) = true → PD x a b = 5) ∧
      ((!wI (↑x.fb1.length) 1 64) = false → lp (fun X12 s12 => (decide (s12 < (x.fb1.length : Int)) = true →
           ∃ v15, ix x.fb1 s12 v15 ∧ ∃ v16, Rr (QN v15) v16 ∧ ((v16 != 0) = true → PD x a b = v16) ∧ ((v16 != 0) = false → X12 (IntKind.i64.wrap (s12 + 1)))) ∧
          (decide (s12 < (x.fb1.length : Int)) = false → PD x a b = 0)) 0))) ∧ (b = false → PD x a b = 0) := by
  intro ha
  have e0 : PD x a b = if b = true then ilE x.fb1 else 0 := by
   unfold PD; rw [if_neg (fun h => h.2 (ha h.1))]
  rw [e0]
  refine ⟨fun hb => ?_, fun hb => by simp [hb]⟩
  rw [if_pos hb]
  by_cases hz : 1 ≤ x.fb1.length ∧ x.fb1.length ≤ 64
  ·have e : wI (x.fb1.length : Int) 1 64 = true := by simp [wI]; omega
   refine ⟨fun h => by simp [e] at h, fun _ => ?_⟩
   refine OE (f := itE) (by omega) ?_ ?_
   ·intro j y hy hbb X hX
    refine ⟨y, BF rfl hy, itE y, Mi y, fun h => ?_, fun h => hX (by simpa using h)⟩
    have hn : itE y ≠ 0 := by simpa using h
    simp only [ilE, hz, not_true, and_self, if_false]; exact SF hy hn hbb
   ·intro h; simp [ilE, hz, h]
  ·have e : wI (x.fb1.length : Int) 1 64 = false := by simp [wI]; omega
   exact ⟨fun _ => by simp [ilE, hz], fun h => by simp [e] at h⟩
 refine ⟨fun ha => ?_, fun ha => rest (by simp [ha])⟩
 by_cases hz : 1 ≤ x.fa9.length ∧ x.fa9.length ≤ 16
 ·have e : wI (x.fa9.length : Int) 1 16 = true := by simp [wI]; omega
  refine ⟨fun h => by simp [e] at h, fun _ => ?_⟩
  refine OE (f := nm6) (by omega) ?_ ?_
  ·intro j y hy hbb X hX
   refine ⟨y, BF rfl hy, nmB y, GI y, fun h => ?_, fun h => hX (by simp at h; simp [nm6, h])⟩
   have hn : nm6 y = 6 := by simp at h; simp [nm6, h]
   have : nlE x.fa9 = 6 := by
    simp only [nlE, hz, not_true, and_self, if_false]; rw [SF hy (by simp [hn]) hbb, hn]
   simp [PD, ha, this]
  ·intro h
   exact rest fun _ => by simp [nlE, hz, h]
 ·have e : wI (x.fa9.length : Int) 1 16 = false := by simp [wI]; omega
  have : nlE x.fa9 = 5 := by simp [nlE, hz]
  exact ⟨fun _ => by simp [PD, ha, this], fun h => by simp [e] at h⟩
end Go.Proofs.YtikagchjeogchaaGreat

namespace Go.Proofs.YtikagchjeogchaaGreat
open Go.RowKit
def Iy (a b : Q2) : Bool := a.fc0 != -1 && decide (a.fc0 < b.ff2)
theorem KF (a b : Q2) : Rr (Zc a b) (Iy a b) := by
 unfold Rr Zc; (try simp only [ct, cs, jo, Go.Proofs.YtikagchjeogchaaGreat.lo, lv, jn, Qb])
 simp only [Vi]; rfl
theorem PF (a b : Q2) : Rr (VA a b) (Iy a b) := by
 unfold Rr VA; (try simp only [ct, cs, jo, Go.Proofs.YtikagchjeogchaaGreat.lo, lv, jn, Qb])
 simp only [Vi]; rfl
def rng {α : Type} (l : List α) (x : Int) : Prop := 0 ≤ x ∧ x < l.length
def preB (l : List Q2) (a b : Int) : Bool := match l[a.toNat]?, l[b.toNat]? with
 | some x, some y => Iy x y
 | _, _ => false
def Qq5 (l : List Q2) (o : List Int) : Prop :=
 (∀ (j : Nat) (a : Int), o[j]? = some a → rng l a) ∧ ∀ (j k : Nat) (a b : Int), k < j → o[j]? = some a → o[k]? = some b → a ≠ b ∧ preB l a b = false
theorem PG {l : List Q2} {a : Int} (h : rng l a) : ∃ x, ix l a x ∧ l[a.toNat]? = some x := Cj h.1 h.2
theorem Tk {l : List Q2} {a b : Int} {x y : Q2} (ha : l[a.toNat]? = some x) (hb : l[b.toNat]? = some y) : preB l a b = Iy x y := by
 unfold preB; rw [ha, hb]
theorem Tl {α : Type} {l : List α} {j : Nat} {a : α} (h : l[j]? = some a) : j < l.length := by
 rcases Nat.lt_or_ge j l.length with c | c
 ·exact c
 ·rw [List.getElem?_eq_none c] at h; cases h
theorem WR (l : List Q2) (o : List Int) (hl : l.length ≤ 1000000000) (ho : o.length ≤ 1000000000) : ∃ r, Rr (Zz l o) r ∧ (r = true ↔ Qq5 l o) := by
 apply ex_
 unfold Zz
 simp only [ct, cs, jo, Go.Proofs.YtikagchjeogchaaGreat.lo, lv, jn, Qb, Um]
 refine DZ (I := fun n s => ∃ j : Nat, j ≤ o.length ∧ n = o.length - j ∧ s = ((j : Int), o.take j) ∧ (∀ (i : Nat) (a : Int), i < j → o[i]? = some a → rng l a) ∧ ∀ (i k : Nat) (a b : Int), k < i → i < j → o[i]? = some a → o[k]? = some b → a ≠ b) ?_ (k := o.length) ⟨0, by omega, by omega, rfl, fun i a h => by omega, fun i k a b _ h => by omega⟩
 rintro n s ⟨j, hj, hn, rfl, h1, h2⟩ X hX
 refine ⟨fun c => ?_, fun c => ?_⟩
 ·have hj2 : j < o.length := by simpa using c
  have ej : o[j]? = some o[j] := by simp [hj2]
  refine ⟨o[j], UC hj2, fun c => ?_, fun c => ?_⟩
  ·simp only [Bool.or_eq_true, decide_eq_true_eq, List.contains_iff_mem] at c
   refine ⟨fun h => by simp at h, fun h => ?_⟩
   have hr := h.1 j _ ej
   unfold rng at hr
   rcases c with c | c
   ·omega
   ·obtain ⟨k, hk, e⟩ := List.mem_iff_getElem.1 c
    simp only [List.length_take] at hk
    rw [List.getElem_take] at e
    exact absurd e.symm (h.2 j k _ _ (by omega) ej (by simp)).1
  ·simp only [Bool.or_eq_false_iff, decide_eq_false_iff_not] at c
   have cm : ¬ o[j] ∈ o.take j := by have := c.2; rw [← Bool.not_eq_true, List.contains_iff_mem] at this; exact this
   refine ⟨c.2, hX (o.length - (j + 1)) _ (by omega) ⟨j + 1, by omega, rfl, ?_, ?_, ?_⟩⟩
   ·rw [Vk (by omega), List.take_succ_eq_append_getElem hj2]; rfl
   ·intro i a hi ha
    by_cases e : i = j
    ·subst e; rw [ej] at ha; cases ha; unfold rng; omega
    ·exact h1 i a (by omega) ha
   ·intro i k a b hk hi ha hb
    by_cases e : i = j
    ·subst e; rw [ej] at ha; cases ha
     intro e2
     refine cm (List.mem_iff_getElem.2 ⟨k, by simp; omega, ?_⟩)
     have := List.getElem?_eq_some_iff.1 hb
     obtain ⟨q, hq⟩ := this
     rw [List.getElem_take, hq, e2]
    ·exact h2 i k a b hk (by omega) ha hb
 ·have hj2 : j = o.length := by simp at c; omega
  subst hj2
  clear hX
  refine Bp o.length (by omega) (fun j => ∀ (i k : Nat) (a b : Int), k < i → i < j → o[i]? = some a → o[k]? = some b → preB l a b = false) (fun i k a b _ h => by omega) ?_ ?_
  ·intro j hj hI Y hY
   have ej : o[j]? = some o[j] := by simp [hj]
   refine ⟨o[j], UC hj, ⟨by omega, by omega⟩, ?_⟩
   obtain ⟨x, hx, ex⟩ := PG (h1 j _ hj ej)
   have et : (List.take (Int.toNat (j : Int)) o).length = j := by simp; omega
   rw [et]
   refine Bp j (by omega) (fun q => ∀ (k : Nat) (b : Int), k < q → o[k]? = some b → preB l o[j] b = false) (fun k b h => by omega) ?_ ?_
   ·intro k hk hK Z hZ
    have hk2 : k < o.length := by omega
    have ek : o[k]? = some o[k] := by simp [hk2]
    obtain ⟨y, hy, ey⟩ := PG (h1 k _ hk2 ek)
    refine ⟨o[k], ?_, x, hx, y, hy, _, KF x y, fun c => ⟨fun h => by simp at h, fun h => ?_⟩, fun c => hZ fun k' b hk' hb => ?_⟩
    ·refine BF rfl ?_
     rw [Uz, List.getElem?_take_of_lt hk]; exact ek
    ·have := (h.2 j k _ _ hk ej ek).2
     rw [Tk ex ey, c] at this; cases this
    ·by_cases e : k' = k
     ·subst e; rw [ek] at hb; cases hb; rw [Tk ex ey, c]
     ·exact hK k' b (by omega) hb
   ·intro hK
    refine hY fun i k a b hk hi ha hb => ?_
    by_cases e : i = j
    ·subst e; rw [ej] at ha; cases ha; exact hK k b hk hb
    ·exact hI i k a b hk (by omega) ha hb
  ·intro hI
   refine ⟨fun _ => ⟨fun j a ha => h1 j a (Tl ha) ha, fun j k a b hk ha hb => ⟨h2 j k a b hk (Tl ha) ha hb, hI j k a b hk (Tl ha) ha hb⟩⟩, fun _ => trivial⟩
theorem PH (l : List Q2) (o : List Int) (hl : l.length ≤ 1000000000) (ho : o.length ≤ 1000000000) : ∃ r, Rr (VB l o) r ∧ (r = true ↔ Qq5 l o) := by
 apply ex_
 unfold VB
 simp only [ct, cs, jo, Go.Proofs.YtikagchjeogchaaGreat.lo, lv, jn, Qb, Um]
 refine Bp o.length (by omega) (fun j => ∀ (i : Nat) (a : Int), i < j → o[i]? = some a → rng l a) (fun i a h => by omega) ?_ ?_
 ·intro j hj h1 X hX
  have ej : o[j]? = some o[j] := by simp [hj]
  refine ⟨o[j], UC hj, o[j], fun _ => UC hj, fun c => ?_, fun c => ?_⟩
  ·simp only [Bool.or_eq_true, decide_eq_true_eq] at c
   refine ⟨fun h => by simp at h, fun h => ?_⟩
   have hr := h.1 j _ ej
   unfold rng at hr; omega
  ·simp only [Bool.or_eq_false_iff, decide_eq_false_iff_not] at c
   refine hX fun i a hi ha => ?_
   by_cases e : i = j
   ·subst e; rw [ej] at ha; cases ha; unfold rng; omega
   ·exact h1 i a (by omega) ha
 ·intro h1
  refine Bp o.length (by omega) (fun j => ∀ (i k : Nat) (a b : Int), k < i → i < j → o[i]? = some a → o[k]? = some b → a ≠ b ∧ preB l a b = false) (fun i k a b _ h => by omega) ?_ ?_
  ·intro j hj hI Y hY
   have ej : o[j]? = some o[j] := by simp [hj]
   obtain ⟨x, hx, ex⟩ := PG (h1 j _ hj ej)
   refine Bp j (by omega) (fun q => ∀ (k : Nat) (b : Int), k < q → o[k]? = some b → o[j] ≠ b ∧ preB l o[j] b = false) (fun k b h => by omega) ?_ ?_
   ·intro k hk hK Z hZ
    have hk2 : k < o.length := by omega
    have ek : o[k]? = some o[k] := by simp [hk2]
    obtain ⟨y, hy, ey⟩ := PG (h1 k _ hk2 ek)
    refine ⟨o[j], UC hj, o[k], UC hk2, o[j], fun _ => UC hj, x, fun _ => hx, o[k], fun _ => UC hk2, y, fun _ => hy, _, fun _ => PF x y, fun c => ⟨fun h => by simp at h, fun h => ?_⟩, fun c => hZ fun k' b hk' hb => ?_⟩
    ·have h3 := h.2 j k _ _ hk ej ek
     rw [Tk ex ey] at h3
     simp only [Bool.or_eq_true, beq_iff_eq] at c
     rcases c with c | c
     ·exact absurd c h3.1
     ·rw [h3.2] at c; cases c
    ·by_cases e : k' = k
     ·subst e; rw [ek] at hb; cases hb; rw [Tk ex ey]
      simp only [Bool.or_eq_false_iff, beq_eq_false_iff_ne] at c
      exact c
     ·exact hK k' b (by omega) hb
   ·intro hK
    refine hY fun i k a b hk hi ha hb => ?_
    by_cases e : i = j
    ·subst e; rw [ej] at ha; cases ha; exact hK k b hk hb
    ·exact hI i k a b hk (by omega) ha hb
  ·intro hI
   exact ⟨fun _ => ⟨fun j a ha => h1 j a (Tl ha) ha, fun j k a b hk ha hb => hI j k a b hk (Tl ha) ha hb⟩, fun _ => trivial⟩
theorem Q5d (a b : List Int) (ha : a.length ≤ 1000000000) : ∃ r, Rr (WQ a b) r ∧ (a = b → r = true) := by
 apply ex_
 unfold WQ
 simp only [ct, cs, jo, Go.Proofs.YtikagchjeogchaaGreat.lo, lv, jn, Qb]
 refine ⟨fun c => ?_, fun c => ?_⟩
 ·intro e; subst e; simp at c
 ·have hlen : a.length = b.length := by simp at c; omega
  refine Bp a.length (by omega) (fun _ => True) trivial ?_ (fun _ _ => trivial)
  intro j hj _ X hX
  refine ⟨a[j], UC hj, b[j]'(by omega), UC (by omega), fun c => ?_, fun _ => hX trivial⟩
  intro e; subst e; simp at c
def Rv (out : List Int) (i : Int) (p : Nat) : List Int := out.take p ++ i :: out.drop p
theorem Q5e {out : List Int} {x : Int} {p : Nat} (h : out[p]? = some x) : ∃ A B, A.length = p ∧ out = A ++ x :: B := by
 obtain ⟨hp, e⟩ := List.getElem?_eq_some_iff.1 h
 refine ⟨out.take p, out.drop (p + 1), by simp; omega, ?_⟩
 rw [← e, List.getElem_cons_drop, List.take_append_drop]
theorem Q5f (out : List Int) (i : Int) (p : Nat) : (Rv out i p).length = out.length + 1 := by
 simp [Rv]; omega
theorem Qaa {out : List Int} {p : Nat} (i : Int) (h : p ≤ out.length) : (Rv out i p)[p]? = some i := by
 unfold Rv
 rw [List.getElem?_append_right (by simp; omega)]
 simp [Nat.min_eq_left h]
theorem Q44 {out : List Int} {p : Nat} {x : Int} (i : Int) (h : out[p]? = some x) : (Rv out i (p + 1))[p]? = some x := by
 obtain ⟨A, B, rfl, rfl⟩ := Q5e h
 simp [Rv, List.take_append, List.drop_append]
theorem Z29 {out : List Int} {p : Nat} {x : Int} (i : Int) (h : out[p]? = some x) : ((Rv out i (p + 1)).set p i).set (p + 1) x = Rv out i p := by
 obtain ⟨A, B, rfl, rfl⟩ := Q5e h
 simp [Rv, List.take_append, List.drop_append, List.set_append, List.take_of_length_le, List.drop_eq_nil_of_le]
theorem Z4u {out : List Int} {p : Nat} {x : Int} (i : Int) (h : out[p]? = some x) : ((Rv out i (p + 1)).set (p + 1) x).set p i = Rv out i p := by
 rw [List.set_comm _ _ (by omega)]; exact Z29 i h
theorem mid_end (out : List Int) (i : Int) : out ++ [i] = Rv out i out.length := by simp [Rv]
theorem Qhz {out : List Int} {i y : Int} {p : Nat} (h : y ∈ Rv out i p) : y = i ∨ y ∈ out := by
 unfold Rv at h
 rcases List.mem_append.1 h with h | h
 ·exact .inr (List.mem_of_mem_take h)
 ·rcases List.mem_cons.1 h with h | h
  ·exact .inl h
  ·exact .inr (List.mem_of_mem_drop h)
def Iz (l : List Q2) (x : Int) : Int := match l[x.toNat]? with
 | some r => r.fa8
 | none => 0
def Ck (l : List Q2) (out : List Int) (y : Int) : Nat → Nat
 | 0 => 0
 | p + 1 => match out[p]? with
  | some x => if Iz l x > y then Ck l out y p else p + 1
  | none => p + 1
def Qy5 (r : Q2) : Bool := r.fa8 == -1 || r.fu.fg6 == 14
def W4 (l : List Q2) : Nat → List Int
 | 0 => []
 | k + 1 => match l[k]? with
  | some r => if Qy5 r = true then W4 l k else Rv (W4 l k) k (Ck l (W4 l k) r.fa8 (W4 l k).length)
  | none => W4 l k
theorem OG (l : List Q2) (k : Nat) : (W4 l k).length ≤ k := by
 induction k with
 | zero => simp [W4]
 | succ k ih =>
  unfold W4
  split
  ·split
   ·omega
   ·rw [Q5f]; omega
  ·omega
theorem OH (l : List Q2) (k : Nat) : ∀ x ∈ W4 l k, 0 ≤ x ∧ x < k := by
 induction k with
 | zero => intro x hx; cases hx
 | succ k ih =>
  intro x hx
  unfold W4 at hx
  split at hx
  ·split at hx
   ·have := ih x hx; omega
   ·rcases Qhz hx with rfl | h
    ·omega
    ·have := ih x h; omega
  ·have := ih x hx; omega
theorem Qab {l : List Q2} {k : Nat} {r : Q2} (h : l[k]? = some r) (hs : Qy5 r = true) : W4 l (k + 1) = W4 l k := by
 rw [W4, h]; exact if_pos hs
theorem Qac {l : List Q2} {k : Nat} {r : Q2} (h : l[k]? = some r) (hs : Qy5 r = false) : W4 l (k + 1) = Rv (W4 l k) k (Ck l (W4 l k) r.fa8 (W4 l k).length) := by
 rw [W4, h]; exact if_neg (by simp [hs])
theorem Q5g {l : List Q2} {out : List Int} {x y : Int} {p : Nat} (h : out[p]? = some x) (hx : Iz l x > y) : Ck l out y (p + 1) = Ck l out y p := by
 rw [Ck, h]; exact if_pos hx
theorem Q5h {l : List Q2} {out : List Int} {x y : Int} {p : Nat} (h : out[p]? = some x) (hx : ¬ Iz l x > y) : Ck l out y (p + 1) = p + 1 := by
 rw [Ck, h]; exact if_neg hx
theorem Nq {l : List Q2} {x : Int} {r : Q2} (h : l[x.toNat]? = some r) : Iz l x = r.fa8 := by unfold Iz; rw [h]
theorem at_mem {α : Type} {l : List α} {j : Nat} {a : α} (h : l[j]? = some a) : a ∈ l := List.mem_of_getElem? h
theorem Eh (l : List Q2) (hl : l.length ≤ 1000000) : Rr (Jv l) (W4 l l.length) := by
 unfold Rr Jv
 simp only [ct, cs, jo, Go.Proofs.YtikagchjeogchaaGreat.lo, lv, jn, Qb, Um, Vi]
 refine DZ (I := fun n s => ∃ k : Nat, k ≤ l.length ∧ n = l.length - k ∧ s = (W4 l k, (k : Int))) ?_ (k := l.length) ⟨0, by omega, by omega, rfl⟩
 rintro n s ⟨k, hk, hn, rfl⟩ X hX
 refine ⟨fun c => ?_, fun c => ?_⟩
 ·have hk2 : k < l.length := by simpa using c
  have ek : l[k]? = some l[k] := by simp [hk2]
  refine ⟨l[k], UC hk2, fun c => ?_, fun c => ?_⟩
  ·refine hX (l.length - (k + 1)) _ (by omega) ⟨k + 1, by omega, rfl, ?_⟩
   rw [Qab ek c, Vk (by omega)]; simp
  ·have hlen := OG l k
   have hmem := OH l k
   have e2 := Qac ek c
   refine ⟨by simp only [List.length_cons, List.length_nil]; omega, ?_⟩
   generalize ho : W4 l k = out at *
   simp only [mid_end out (k : Int)]
   have fin : ∀ p, Ck l out l[k].fa8 out.length = p → X (Rv out k p, IntKind.i64.wrap ((k : Int) + 1)) := by
    rintro p rfl
    refine hX (l.length - (k + 1)) _ (by omega) ⟨k + 1, by omega, rfl, ?_⟩
    rw [e2, Vk (by omega)]; simp
   refine DZ (I := fun n s => n ≤ out.length ∧ s = (Rv out k n, (n : Int)) ∧ Ck l out l[k].fa8 out.length = Ck l out l[k].fa8 n) ?_ (k := out.length) ⟨by omega, ?_, rfl⟩
   ·rintro p s ⟨hp, rfl, hst⟩ Y hY
    cases p with
    | zero =>
     refine ⟨0, fun c => by simp at c, l[k], fun c => by simp at c, fun c => by simp at c, fun _ => fin 0 hst⟩
    | succ p =>
     have ex : out[p]? = some (out[p]'(by omega)) := by simp
     generalize out[p]'(by omega) = x at ex
     have hx := hmem x (at_mem ex)
     obtain ⟨r, hr, er⟩ := PG (l := l) (a := x) ⟨by omega, by omega⟩
     have w1 : IntKind.i64.wrap (((p + 1 : Nat) : Int) - 1) = (p : Int) := by rw [Vk (by omega)]; omega
     simp only [w1]
     refine ⟨x, fun _ => BF rfl (Q44 _ ex), r, fun _ => hr, fun c => ?_, fun c => ?_⟩
     ·have c2 : r.fa8 > l[k].fa8 := by simp at c; omega
      have m1 : ((Rv out k (p + 1)).set p k)[p + 1]? = some (k : Int) := by
       rw [List.getElem?_set_ne (by omega)]; exact Qaa _ hp
      refine ⟨k, BF rfl (Qaa _ hp), x, BF rfl (Q44 _ ex), x, BF rfl (Q44 _ ex), k, BF rfl m1, ?_⟩
      have s1 := Z29 (k : Int) ex
      simp only [Uz]
      rw [s1]
      refine hY p _ (by omega) ⟨by omega, rfl, ?_⟩
      rw [hst, Q5g ex (by rw [Nq er]; exact c2)]
     ·have c2 : ¬ r.fa8 > l[k].fa8 := by
       intro h; simp at c; omega
      exact fin (p + 1) (by rw [hst, Q5h ex (by rw [Nq er]; exact c2)])
   ·rw [Q5f, Vk (by omega)]; congr 1; omega
 ·have : k = l.length := by simp at c; omega
  rw [this]
theorem Q1e (l : List Q2) (hl : l.length ≤ 1000000) : Rr (W2 l) (W4 l l.length) := by
 unfold Rr W2
 simp only [ct, cs, jo, Go.Proofs.YtikagchjeogchaaGreat.lo, lv, jn, Qb, Um, Vi]
 refine DZ (I := fun n s => ∃ k : Nat, k ≤ l.length ∧ n = l.length - k ∧ s = (W4 l k, (k : Int))) ?_ (k := l.length) ⟨0, by omega, by omega, rfl⟩
 rintro n s ⟨k, hk, hn, rfl⟩ X hX
 refine ⟨fun c => ?_, fun c => ?_⟩
 ·have hk2 : k < l.length := by simpa using c
  have ek : l[k]? = some l[k] := by simp [hk2]
  refine ⟨l[k], UC hk2, l[k], fun _ => UC hk2, fun c => ?_, fun c => ?_⟩
  ·refine hX (l.length - (k + 1)) _ (by omega) ⟨k + 1, by omega, rfl, ?_⟩
   rw [Qab ek c, Vk (by omega)]; simp
  ·have hlen := OG l k
   have hmem := OH l k
   have e2 := Qac ek c
   refine ⟨by simp only [List.length_cons, List.length_nil]; omega, ?_⟩
   generalize ho : W4 l k = out at *
   simp only [mid_end out (k : Int)]
   have fin : ∀ p, Ck l out l[k].fa8 out.length = p → X (Rv out k p, IntKind.i64.wrap ((k : Int) + 1)) := by
    rintro p rfl
    refine hX (l.length - (k + 1)) _ (by omega) ⟨k + 1, by omega, rfl, ?_⟩
    rw [e2, Vk (by omega)]; simp
   refine DZ (I := fun n s => n ≤ out.length ∧ s = (Rv out k n, (n : Int)) ∧ Ck l out l[k].fa8 out.length = Ck l out l[k].fa8 n) ?_ (k := out.length) ⟨by omega, ?_, rfl⟩
   ·rintro p s ⟨hp, rfl, hst⟩ Y hY
    cases p with
    | zero =>
     refine ⟨0, fun c => by simp at c, l[k], fun c => by simp at c, 0, fun c => by simp at c, l[k], fun c => by simp at c, fun c => by simp at c, fun _ => fin 0 hst⟩
    | succ p =>
     have ex : out[p]? = some (out[p]'(by omega)) := by simp
     generalize out[p]'(by omega) = x at ex
     have hx := hmem x (at_mem ex)
     obtain ⟨r, hr, er⟩ := PG (l := l) (a := x) ⟨by omega, by omega⟩
     have w1 : IntKind.i64.wrap (((p + 1 : Nat) : Int) - 1) = (p : Int) := by rw [Vk (by omega)]; omega
     simp only [w1]
     refine ⟨k, fun _ => BF rfl (Qaa _ hp), l[k], fun _ => UC hk2, x, fun _ => BF rfl (Q44 _ ex), r, fun _ => hr, fun c => ?_, fun c => ?_⟩
     ·have c2 : r.fa8 > l[k].fa8 := by simp at c; omega
      have m1 : ((Rv out k (p + 1)).set (p + 1) x)[p]? = some x := by
       rw [List.getElem?_set_ne (by omega)]; exact Q44 _ ex
      refine ⟨x, BF rfl (Q44 _ ex), k, BF rfl (Qaa _ hp), k, BF rfl (Qaa _ hp), x, ?_, ?_⟩
      ·rw [Uz]; exact BF rfl m1
      have s1 := Z4u (k : Int) ex
      simp only [Uz]
      rw [s1]
      refine hY p _ (by omega) ⟨by omega, rfl, ?_⟩
      rw [hst, Q5g ex (by rw [Nq er]; exact c2)]
     ·have c2 : ¬ r.fa8 > l[k].fa8 := by
       intro h; simp at c; omega
      exact fin (p + 1) (by rw [hst, Q5h ex (by rw [Nq er]; exact c2)])
   ·rw [Q5f, Vk (by omega)]; congr 1; omega
 ·have : k = l.length := by simp at c; omega
  rw [this]
def RN (n lo hi : Int) : Int := if lo ≤ n ∧ n ≤ hi then 0 else 5
def Qf3 (n m : Int) : Int := if n > m then 11 else 0
def Zi (x : Qj) (f : Nat) : Int :=
 match f with
 | 0 => nm6 x.fd3
 | 1 => nm6 x.fg
 | 2 => nlE x.fa9
 | 3 => Iw x.fj.f7 x.fj.fq x.fj.fa0 x.fj.f8
 | 4 => ilE x.fb1
 | 5 => Qf3 x.ff4.length 64
 | 6 => RN x.fd2 1 1048576
 | 7 => RN x.ff1 1 1048576
 | 8 => RN x.fb5 0 3
 | 9 => RN x.ff7 0 15
 | 10 => RN x.fc7 0 3
 | 11 => RN x.fb2 0 32
 | 12 => Qa9 x.fa4.f7 x.fa4.fc9 x.fa4.fb2 x.fa4.fg8 x.fa4.fg7
 | _ => Qf3 x.fc5.length 65536
theorem Vd (n lo hi : Int) : Rr (Z0 n lo hi) (RN n lo hi) := AC.2 rfl
theorem Ga (l : List Int) (m : Int) : Rr (Ji l m) (Qf3 l.length m) := by
 unfold Rr Ji Qf3; (try simp only [ct, cs, jo, Go.Proofs.YtikagchjeogchaaGreat.lo, lv, jn, Qb])
 by_cases h : (l.length : Int) > m <;> simp [h]
theorem OI (x : Qj) {f : Nat} (hf : f < 14) : Rr (V7 x (f : Int)) (Zi x f) := by
 unfold Rr V7; (try simp only [ct, cs, jo, Go.Proofs.YtikagchjeogchaaGreat.lo, lv, jn, Qb])
 rcases Z1j hf with rfl | rfl | rfl | rfl | rfl | rfl | rfl | rfl | rfl | rfl | rfl | rfl | rfl | rfl
 ·simp; exact Dd x.fd3
 ·simp; exact Dd x.fg
 ·simp; exact PC x.fa9
 ·simp; exact He x.fj
 ·simp; exact OF x.fb1
 ·simp; exact Ga x.ff4 64
 ·simp; exact Vd x.fd2 1 1048576
 ·simp; exact Vd x.ff1 1 1048576
 ·simp; exact Vd x.fb5 0 3
 ·simp; exact Vd x.ff7 0 15
 ·simp; exact Vd x.fc7 0 3
 ·simp; exact Vd x.fb2 0 32
 ·simp; exact Py x.fa4
 ·simp; exact Ga x.fc5 65536
theorem Qi0 {α : Type} {f : α → Int} (h : ∀ x, 0 ≤ f x ∧ f x ≤ 18) (l : List α) : 0 ≤ Mj f l ∧ Mj f l ≤ 18 := by
 induction l with
 | nil => simp [Mj]
 | cons a r ih => (unfold Mj; split; exact h a; exact ih)
theorem Qy6 (x : Qj) (f : Nat) : 0 ≤ Zi x f ∧ Zi x f ≤ 18 := by
 have hn : ∀ s, 0 ≤ nm6 s ∧ nm6 s ≤ 18 := by intro s; unfold nm6; split <;> decide
 have hi : ∀ s, 0 ≤ itE s ∧ itE s ≤ 18 := by
   intro s; unfold itE; repeat' split
   all_goals decide
 have hs : ∀ n m, 0 ≤ Qf3 n m ∧ Qf3 n m ≤ 18 := by intro n m; unfold Qf3; split <;> decide
 have hr : ∀ n a b, 0 ≤ RN n a b ∧ RN n a b ≤ 18 := by intro n a b; unfold RN; split <;> decide
 have hl := Qi0 hn
 have hl2 := Qi0 hi
 unfold Zi
 split
 ·exact hn _
 ·exact hn _
 ·unfold nlE; (split; decide; exact hl _)
 ·unfold Iw; repeat' split
  all_goals decide
 ·unfold ilE; (split; decide; exact hl2 _)
 ·exact hs _ _
 ·exact hr _ _ _
 ·exact hr _ _ _
 ·exact hr _ _ _
 ·exact hr _ _ _
 ·exact hr _ _ _
 ·exact hr _ _ _
 ·unfold Qa9; repeat' split
  all_goals decide
 ·exact hs _ _
theorem Z4v {L : List Int} (h : ∀ e ∈ L, 0 ≤ e ∧ e ≤ 18) : 0 ≤ HA L ∧ HA L ≤ 18 := by
 induction L with
 | nil => simp [HA]
 | cons a r ih => (unfold HA; split; exact h a (by simp); exact ih fun e he => h e (by simp [he]))
def De (x : Qj) : Int := Td (Te x) (Zi x)
theorem Qy7 (x : Qj) : 0 ≤ De x ∧ De x ≤ 18 := by
 have h : 0 ≤ HA (Iv (Te x).kind (Zi x)) ∧ HA (Iv (Te x).kind (Zi x)) ≤ 18 := by
  refine Z4v fun e he => ?_
  unfold Iv at he
  obtain ⟨f, _, rfl⟩ := List.mem_map.1 he
  (split; exact Qy6 _ _; decide)
 unfold De Td
 split
 ·decide
 ·split
  ·exact h
  ·split <;> decide
theorem LC (x : Qj) : Rr (VZ x) (De x) := by
 refine ⟨Zi x, ⟨?_, fun f hf _ => OI x hf⟩, rfl⟩
 have h := Qy7 x
 rw [show Td (Te x) (Zi x) = De x from rfl]
 simp [Lit.wf, IntKind.min, IntKind.max, IntKind.signed, IntKind.bits]; omega
theorem Qkf {k : Int} (hk : UK k) : [WY k 0, WY k 1, WY k 2, WY k 3, WY k 4, WY k 5, WY k 6, WY k 7, WY k 8, WY k 9, WY k 10, WY k 11, WY k 12, WY k 13] = [(I1 k).fe0, (I1 k).fe1, (I1 k).fe2, (I1 k).fe3, (I1 k).fe4, (I1 k).fe5, (I1 k).fe6, (I1 k).fe6, (I1 k).fe7, (I1 k).fe8, (I1 k).fe9, (I1 k).fe10, (I1 k).fe11, (I1 k).fe12] := by
 rcases Q56 hk with rfl | rfl | rfl | rfl | rfl | rfl | rfl | rfl | rfl | rfl | rfl | rfl | rfl | rfl | rfl | rfl | rfl <;> decide
theorem Qq6 {x : Qj} (h : ¬ UK x.f7) : De x = 8 := by unfold De Td; rw [if_pos (by simpa [Te] using h)]
theorem Qq7 {x : Qj} (hk : UK x.f7) {b0 b1 b2 b3 b4 b5 b6 b7 b8 b9 b10 b11 b12 : Bool} (hu : I1 x.f7 = JS.mk b0 b1 b2 b3 b4 b5 b6 b7 b8 b9 b10 b11 b12) :
  De x = if HA [if b0 = true then Zi x 0 else 0, if b1 = true then Zi x 1 else 0, if b2 = true then Zi x 2 else 0, if b3 = true then Zi x 3 else 0, if b4 = true then Zi x 4 else 0, if b5 = true then Zi x 5 else 0, if b6 = true then Zi x 6 else 0, if b6 = true then Zi x 7 else 0, if b7 = true then Zi x 8 else 0, if b8 = true then Zi x 9 else 0, if b9 = true then Zi x 10 else 0, if b10 = true then Zi x 11 else 0, if b11 = true then Zi x 12 else 0, if b12 = true then Zi x 13 else 0] ≠ 0 then HA [if b0 = true then Zi x 0 else 0, if b1 = true then Zi x 1 else 0, if b2 = true then Zi x 2 else 0, if b3 = true then Zi x 3 else 0, if b4 = true then Zi x 4 else 0, if b5 = true then Zi x 5 else 0, if b6 = true then Zi x 6 else 0, if b6 = true then Zi x 7 else 0, if b7 = true then Zi x 8 else 0, if b8 = true then Zi x 9 else 0, if b9 = true then Zi x 10 else 0, if b10 = true then Zi x 11 else 0, if b11 = true then Zi x 12 else 0, if b12 = true then Zi x 13 else 0]
   else if ((b0 || x.fd3.toList == []) && (b1 || x.fg.toList == []) && (b2 || decide (x.fa9.length = 0)) && (b3 || decide (x.fj.f7 = 0 ∧ x.fj.fq = 0 ∧ x.fj.fa0 = 0 ∧ x.fj.f8 = 0)) && (b4 || decide (x.fb1.length = 0)) && (b5 || decide (x.ff4.length = 0)) && (b6 || decide (x.fd2 = 0)) && (b6 || decide (x.ff1 = 0)) && (b7 || decide (x.fb5 = 0)) && (b8 || decide (x.ff7 = 0)) && (b9 || decide (x.fc7 = 0)) && (b10 || decide (x.fb2 = 0)) && (b11 || decide (x.fa4.f7 = 0 ∧ x.fa4.fc9.toList = [] ∧ x.fa4.fb2 = 0 ∧ x.fa4.fg8 = 0 ∧ x.fa4.fg7 = 0)) && (b12 || decide (x.fc5.length = 0))) = true then 0 else 18 := by
 have h := Qkf hk
 rw [hu] at h
 simp only [List.cons.injEq, and_true] at h
 obtain ⟨m0, m1, m2, m3, m4, m5, m6, m7, m8, m9, m10, m11, m12, m13⟩ := h
 have r14 : List.range 14 = [0, 1, 2, 3, 4, 5, 6, 7, 8, 9, 10, 11, 12, 13] := by decide
 have e : Iv x.f7 (Zi x) = [if b0 = true then Zi x 0 else 0, if b1 = true then Zi x 1 else 0, if b2 = true then Zi x 2 else 0, if b3 = true then Zi x 3 else 0, if b4 = true then Zi x 4 else 0, if b5 = true then Zi x 5 else 0, if b6 = true then Zi x 6 else 0, if b6 = true then Zi x 7 else 0, if b7 = true then Zi x 8 else 0, if b8 = true then Zi x 9 else 0, if b9 = true then Zi x 10 else 0, if b10 = true then Zi x 11 else 0, if b11 = true then Zi x 12 else 0, if b12 = true then Zi x 13 else 0] := by
  unfold Iv; rw [r14]
  simp only [List.map_cons, List.map_nil, m0, m1, m2, m3, m4, m5, m6, m7, m8, m9, m10, m11, m12, m13]
 have z : ((List.range 14).all fun f => WY x.f7 f || zro (Te x) f) = ((b0 || x.fd3.toList == []) && (b1 || x.fg.toList == []) && (b2 || decide (x.fa9.length = 0)) && (b3 || decide (x.fj.f7 = 0 ∧ x.fj.fq = 0 ∧ x.fj.fa0 = 0 ∧ x.fj.f8 = 0)) && (b4 || decide (x.fb1.length = 0)) && (b5 || decide (x.ff4.length = 0)) && (b6 || decide (x.fd2 = 0)) && (b6 || decide (x.ff1 = 0)) && (b7 || decide (x.fb5 = 0)) && (b8 || decide (x.ff7 = 0)) && (b9 || decide (x.fc7 = 0)) && (b10 || decide (x.fb2 = 0)) && (b11 || decide (x.fa4.f7 = 0 ∧ x.fa4.fc9.toList = [] ∧ x.fa4.fb2 = 0 ∧ x.fa4.fg8 = 0 ∧ x.fa4.fg7 = 0)) && (b12 || decide (x.fc5.length = 0))) := by
  rw [r14]
  simp only [List.all_cons, List.all_nil, Bool.and_true, m0, m1, m2, m3, m4, m5, m6, m7, m8, m9, m10, m11, m12, m13, Bool.and_assoc]
  simp only [zro, Te, List.length_map]
  rfl
 unfold De Td
 rw [if_neg (by simpa [Te] using hk)]
 change (if HA (Iv x.f7 (Zi x)) ≠ 0 then HA (Iv x.f7 (Zi x)) else if (List.range 14).all (fun f => WY x.f7 f || zro (Te x) f) = true then 0 else 18) = _
 rw [e, z]
theorem Qq8 (L : List Int) (t : Int) : HA (L ++ [t]) = if HA L ≠ 0 then HA L else t := by
 induction L with
 | nil => by_cases h : t = 0 <;> simp [HA, h]
 | cons a r ih =>
  by_cases h : a ≠ 0
  ·simp [HA, h]
  ·have h0 : a = 0 := by simpa using h
   simp only [List.cons_append, HA, h0, ne_eq, not_true, if_false]; exact ih
theorem AQ {V a : Int} {r : List Int} (h : V = HA (a :: r)) (h0 : a = 0) : V = HA r := by rw [h, HA, if_neg (by simp [h0])]
theorem Qad {V a : Int} {r : List Int} (h : V = HA (a :: r)) (h0 : a ≠ 0) : V = a := by rw [h, HA, if_pos h0]
theorem GJ {V a b : Int} {r : List Int} (h : V = HA (a :: r)) (h0 : a = b) (hb : b ≠ 0) : V = b := by rw [Qad h (by rw [h0]; exact hb), h0]
def bz (b : Bool) (c : Int) : Int := if b = true then c else 0
theorem Q1f {b : Bool} {c : Int} (h : b = true) : bz b c = c := by rw [bz, if_pos h]
theorem Qy8 {b : Bool} {c : Int} (h : b = false) : bz b c = 0 := by rw [bz, if_neg (by simp [h])]
theorem Qq9 {b w : Bool} {c : Int} (h : ¬ bz b (if w = true then 0 else c) = 0) : bz b (if w = true then 0 else c) = c := by cases b <;> cases w <;> simp_all [bz]
theorem Z2a {b0 b1 n0 n1 : Bool} {c : Int} (hc : c ≠ 0) (h : (b0 && !n0 || b1 && !n1) = true) (h0 : bz b0 (if n0 = true then 0 else c) = 0) : bz b1 (if n1 = true then 0 else c) = c := by
 cases b0 <;> cases b1 <;> cases n0 <;> cases n1 <;> simp_all [bz]
theorem d_z {b w : Bool} {c : Int} (h : (b && !w) = false) : bz b (if w = true then 0 else c) = 0 := by cases b <;> cases w <;> simp_all [bz]
theorem d_or4 {b0 b1 b2 b3 n0 n1 n2 n3 : Bool} {c : Int} (hc : c ≠ 0) (h : (b0 && !n0 || b1 && !n1 || b2 && !n2 || b3 && !n3) = true) (h0 : bz b0 (if n0 = true then 0 else c) = 0) (h1 : bz b1 (if n1 = true then 0 else c) = 0) (h2 : bz b2 (if n2 = true then 0 else c) = 0) : bz b3 (if n3 = true then 0 else c) = c := by
 cases b0 <;> cases n0 <;> cases b1 <;> cases n1 <;> cases b2 <;> cases n2 <;> simp_all [bz]
def Qqa (x : Qj) (u : JS) : Int := if ((u.fe0 || x.fd3.toList == []) && (u.fe1 || x.fg.toList == []) && (u.fe2 || decide (x.fa9.length = 0)) && (u.fe3 || decide (x.fj.f7 = 0 ∧ x.fj.fq = 0 ∧ x.fj.fa0 = 0 ∧ x.fj.f8 = 0)) && (u.fe4 || decide (x.fb1.length = 0)) && (u.fe5 || decide (x.ff4.length = 0)) && (u.fe6 || decide (x.fd2 = 0)) && (u.fe6 || decide (x.ff1 = 0)) && (u.fe7 || decide (x.fb5 = 0)) && (u.fe8 || decide (x.ff7 = 0)) && (u.fe9 || decide (x.fc7 = 0)) && (u.fe10 || decide (x.fb2 = 0)) && (u.fe11 || decide (x.fa4.f7 = 0 ∧ x.fa4.fc9.toList = [] ∧ x.fa4.fb2 = 0 ∧ x.fa4.fg8 = 0 ∧ x.fa4.fg7 = 0)) && (u.fe12 || decide (x.fc5.length = 0))) = true then 0 else 18
theorem Qy9 {x : Qj} (hk : UK x.f7) {b0 b1 b2 b3 b4 b5 b6 b7 b8 b9 b10 b11 b12 : Bool} (hu : I1 x.f7 = JS.mk b0 b1 b2 b3 b4 b5 b6 b7 b8 b9 b10 b11 b12) :
  De x = HA [bz b0 (Zi x 0), bz b1 (Zi x 1), bz b2 (Zi x 2), bz b3 (Zi x 3), bz b4 (Zi x 4), bz b5 (Zi x 5), bz b6 (Zi x 6), bz b6 (Zi x 7), bz b7 (Zi x 8), bz b8 (Zi x 9), bz b9 (Zi x 10), bz b10 (Zi x 11), bz b11 (Zi x 12), bz b12 (Zi x 13), Qqa x (JS.mk b0 b1 b2 b3 b4 b5 b6 b7 b8 b9 b10 b11 b12)] :=
 (Qq7 hk hu).trans (Qq8 [bz b0 (Zi x 0), bz b1 (Zi x 1), bz b2 (Zi x 2), bz b3 (Zi x 3), bz b4 (Zi x 4), bz b5 (Zi x 5), bz b6 (Zi x 6), bz b6 (Zi x 7), bz b7 (Zi x 8), bz b8 (Zi x 9), bz b9 (Zi x 10), bz b10 (Zi x 11), bz b11 (Zi x 12), bz b12 (Zi x 13)] _).symm
theorem Hf (x : Qj) : Rr (KR x) (De x) := by
 unfold Rr KR; (try simp only [ct, cs, jo, Go.Proofs.YtikagchjeogchaaGreat.lo, lv, jn, Qb])
 simp only [Fz, exists_eq_left, ct, cs, jo, Go.Proofs.YtikagchjeogchaaGreat.lo, lv, jn, Qb, Vi, Um]
 by_cases hk : UK x.f7
 case neg =>
  have hw : wI x.f7 1 17 = false := by simpa [wI, UK] using hk
  rw [hw]
  exact ⟨fun _ => Qq6 hk, fun h => by simp at h⟩
 have hw : wI x.f7 1 17 = true := by simpa [wI, UK] using hk
 refine ⟨fun h => by simp [hw] at h, fun _ => ?_⟩
 refine ⟨I1 x.f7, Q5c _, nmB x.fd3, fun _ => GI _, nmB x.fg, fun _ => GI _, ?_⟩
 rcases hU : I1 x.f7 with ⟨b0, b1, b2, b3, b4, b5, b6, b7, b8, b9, b10, b11, b12⟩
 have hv := Qy9 hk hU
 generalize De x = V at hv ⊢
 simp only
 have l1 : Rr (JM x b2 false) (bz b2 (Zi x 2)) := by
  have := MU x b2 false
  have e : PD x b2 false = bz b2 (Zi x 2) := by unfold PD bz; show _ = if b2 = true then nlE x.fa9 else 0; grind
  rwa [e] at this
 have l2 : Rr (JM x false b4) (bz b4 (Zi x 4)) := by
  have := MU x false b4
  have e : PD x false b4 = bz b4 (Zi x 4) := by unfold PD bz; show _ = if b4 = true then ilE x.fb1 else 0; grind
  rwa [e] at this
 have p3 := I0 x.fj
 have p12 := Ix x.fa4
 change Rr (Z7 x.fj) (Zi x 3) at p3
 change Rr (Zh x.fa4) (Zi x 12) at p12
 refine ⟨fun h => ?_, fun h => ?_⟩
 ·by_cases h0 : bz b0 (Zi x 0) = 0
  ·exact GJ (AQ hv h0) (Z2a (c := 6) (by decide) h h0) (by decide)
  ·exact GJ hv (Qq9 (c := 6) h0) (by decide)
 have hh := Bool.or_eq_false_iff.1 h
 have z0 : bz b0 (Zi x 0) = 0 := d_z (c := 6) hh.1
 have z1 : bz b1 (Zi x 1) = 0 := d_z (c := 6) hh.2
 replace hv := AQ (AQ hv z0) z1
 clear h hh z0 z1
 refine ⟨_, l1, fun h => Qad hv (by simpa using h), fun h => ?_⟩
 replace hv := AQ hv (by simpa using h)
 clear h l1
 suffices rest : V = HA [bz b4 (Zi x 4), bz b5 (Zi x 5), bz b6 (Zi x 6), bz b6 (Zi x 7), bz b7 (Zi x 8), bz b8 (Zi x 9), bz b9 (Zi x 10), bz b10 (Zi x 11), bz b11 (Zi x 12), bz b12 (Zi x 13), Qqa x (JS.mk b0 b1 b2 b3 b4 b5 b6 b7 b8 b9 b10 b11 b12)] → _ by
  refine ⟨fun hb => ⟨_, p3, fun h => ?_, fun h => rest (AQ hv ?_)⟩, fun hb => rest (AQ hv (Qy8 hb))⟩
  ·rw [Qad hv (by rw [Q1f hb]; simpa using h), Q1f hb]
  ·rw [Q1f hb]; simpa using h
 clear hv p3
 intro hv
 refine ⟨_, l2, fun h => Qad hv (by simpa using h), fun h => ?_⟩
 replace hv := AQ hv (by simpa using h)
 clear h l2
 have e5 : Zi x 5 = if (x.ff4.length : Int) > 64 then 11 else 0 := rfl
 refine ⟨fun h => ?_, fun h => ?_⟩
 ·have h := Bool.and_eq_true_iff.1 h
  exact GJ hv (by rw [Q1f h.1, e5, if_pos (by simpa using h.2)]) (by decide)
 have z5 : bz b5 (Zi x 5) = 0 := by
  cases b5
  ·exact Qy8 rfl
  ·rw [Q1f rfl, e5, if_neg (by simpa using h)]
 replace hv := AQ hv z5
 clear h z5 e5
 have er : ∀ n lo hi, RN n lo hi = if wI n lo hi = true then 0 else 5 := by intro n lo hi; unfold RN wI; simp
 have e6 : Zi x 6 = if wI x.fd2 1 1048576 = true then 0 else 5 := er _ _ _
 have e7 : Zi x 7 = if wI x.ff1 1 1048576 = true then 0 else 5 := er _ _ _
 have e8 : Zi x 8 = if wI x.fb5 0 3 = true then 0 else 5 := er _ _ _
 have e9 : Zi x 9 = if wI x.ff7 0 15 = true then 0 else 5 := er _ _ _
 have e10 : Zi x 10 = if wI x.fc7 0 3 = true then 0 else 5 := er _ _ _
 have e11 : Zi x 11 = if wI x.fb2 0 32 = true then 0 else 5 := er _ _ _
 clear er
 rw [e6, e7, e8, e9, e10, e11] at hv
 clear e6 e7 e8 e9 e10 e11
 generalize wI x.fd2 1 1048576 = w6 at *
 generalize wI x.ff1 1 1048576 = w7 at *
 generalize wI x.fb5 0 3 = w8 at *
 generalize wI x.ff7 0 15 = w9 at *
 generalize wI x.fc7 0 3 = w10 at *
 generalize wI x.fb2 0 32 = w11 at *
 refine ⟨w6, fun _ => rfl, w7, fun _ => rfl, fun h => ?_, fun h => ?_⟩
 ·have h' : (b6 && !w6 || b6 && !w7) = true := by rw [← Bool.and_or_distrib_left]; exact h
  by_cases h0 : bz b6 (if w6 = true then 0 else 5) = 0
  ·exact GJ (AQ hv h0) (Z2a (by decide) h' h0) (by decide)
  ·exact GJ hv (Qq9 h0) (by decide)
 have hh : (b6 && !w6) = false ∧ (b6 && !w7) = false := by rw [← Bool.or_eq_false_iff, ← Bool.and_or_distrib_left]; exact h
 replace hv := AQ (AQ hv (d_z hh.1)) (d_z hh.2)
 clear h hh
 refine ⟨w8, fun _ => rfl, w9, fun _ => rfl, w10, fun _ => rfl, w11, fun _ => rfl, fun h => ?_, fun h => ?_⟩
 ·by_cases h0 : bz b7 (if w8 = true then 0 else 5) = 0
  ·replace hv := AQ hv h0
   by_cases h1 : bz b8 (if w9 = true then 0 else 5) = 0
   ·replace hv := AQ hv h1
    by_cases h2 : bz b9 (if w10 = true then 0 else 5) = 0
    ·exact GJ (AQ hv h2) (d_or4 (by decide) h h0 h1 h2) (by decide)
    ·exact GJ hv (Qq9 h2) (by decide)
   ·exact GJ hv (Qq9 h1) (by decide)
  ·exact GJ hv (Qq9 h0) (by decide)
 have k1 := Bool.or_eq_false_iff.1 h
 have k2 := Bool.or_eq_false_iff.1 k1.1
 have k3 := Bool.or_eq_false_iff.1 k2.1
 replace hv := AQ (AQ (AQ (AQ hv (d_z k3.1)) (d_z k3.2)) (d_z k2.2)) (d_z k1.2)
 clear h k1 k2 k3
 suffices rest : V = HA [bz b12 (Zi x 13), Qqa x (JS.mk b0 b1 b2 b3 b4 b5 b6 b7 b8 b9 b10 b11 b12)] → _ by
  refine ⟨fun hb => ⟨_, p12, fun h => ?_, fun h => rest (AQ hv ?_)⟩, fun hb => rest (AQ hv (Qy8 hb))⟩
  ·rw [Qad hv (by rw [Q1f hb]; simpa using h), Q1f hb]
  ·rw [Q1f hb]; simpa using h
 clear hv p12
 intro hv
 have e13 : Zi x 13 = if (x.fc5.length : Int) > 65536 then 11 else 0 := rfl
 refine ⟨fun h => ?_, fun h => ?_⟩
 ·have h := Bool.and_eq_true_iff.1 h
  exact GJ hv (by rw [Q1f h.1, e13, if_pos (by simpa using h.2)]) (by decide)
 have z13 : bz b12 (Zi x 13) = 0 := by
  cases b12
  ·exact Qy8 rfl
  ·rw [Q1f rfl, e13, if_neg (by simpa using h)]
 replace hv := AQ hv z13
 clear h z13 e13
 have hv2 : V = Qqa x (JS.mk b0 b1 b2 b3 b4 b5 b6 b7 b8 b9 b10 b11 b12) := by
  rw [hv]; unfold HA; split <;> simp_all [HA]
 subst hv2
 unfold Qqa
 simp only
 have n0 : (ByteArray.empty).toList = [] := FA
 have lg : ∀ n : Nat, decide ((n : Int) > 0) = !decide (n = 0) := by
  intro n; by_cases h : n = 0
  ·subst h; rfl
  ·have : (n : Int) > 0 := by omega
   simp [h]; omega
 have ne : ∀ n : Int, (n != 0) = !decide (n = 0) := fun n => rfl
 have ee : ∀ n : Int, (n == 0) = decide (n = 0) := fun n => rfl
 have el : ∀ s : ByteArray, (s.toList == []) = decide (s.toList = []) := by intro s; by_cases h : s.toList = [] <;> simp [h]
 simp only [FA, n0, lg, ne, ee, el, Bool.and_true, ← Bool.decide_and]
 have pp : decide (x.fd2 = 0) = decide (x.fd2 = 0) := rfl
 generalize decide (x.fd2 = 0) = a6
 generalize decide (x.ff1 = 0) = a7
 generalize decide (x.fd3.toList = []) = a0
 generalize decide (x.fg.toList = []) = a1
 generalize decide (x.fa9.length = 0) = a2
 generalize decide (x.fb1.length = 0) = a4
 generalize decide (x.ff4.length = 0) = a5
 generalize decide (x.fb5 = 0) = a8
 generalize decide (x.ff7 = 0) = a9
 generalize decide (x.fc7 = 0) = a10
 generalize decide (x.fb2 = 0) = a11
 generalize decide (x.fc5.length = 0) = a13
 generalize decide (x.fj.f7 = 0 ∧ x.fj.fq = 0 ∧ x.fj.fa0 = 0 ∧ x.fj.f8 = 0) = a3
 generalize decide (x.fa4.f7 = 0 ∧ x.fa4.fc9.toList = [] ∧ x.fa4.fb2 = 0 ∧ x.fa4.fg8 = 0 ∧ x.fa4.fg7 = 0) = a12
 have key : ((((((((((((!b0 && !a0 || !b1 && !a1) || !b2 && !a2) || !b3 && !a3) || !b4 && !a4) || !b5 && !a5) || !b6 && (!a6 || !a7)) || !b7 && !a8) || !b8 && !a9) || !b9 && !a10) || !b10 && !a11) || !b11 && !a12) || !b12 && !a13) = !((b0 || a0) && (b1 || a1) && (b2 || a2) && (b3 || a3) && (b4 || a4) && (b5 || a5) && (b6 || a6) && (b6 || a7) && (b7 || a8) && (b8 || a9) && (b9 || a10) && (b10 || a11) && (b11 || a12) && (b12 || a13)) := by
  cases b6 <;> simp [Bool.not_and, Bool.not_or, Bool.or_assoc]
 refine ⟨fun h => if_neg fun h2 => ?_, fun h => if_pos ?_⟩
 ·rw [key, h2] at h; cases h
 ·rw [key, Bool.not_eq_false'] at h; exact h
theorem Qya (d : List Int) : ((strOfNums d).toList == (strOfNums []).toList) = ((d.length : Int) == 0) := by
 rw [Bool.eq_iff_iff, beq_iff_eq, beq_iff_eq]
 constructor
 ·intro h
  have := congrArg ByteArray.size (Qiv h)
  rw [LB, LB] at this
  simp at this; simp [this]
 ·intro h
  have : d = [] := List.eq_nil_of_length_eq_zero (by omega)
  rw [this]
def zaB (a : Qg) : Bool := ((((a.fg2 == 0 && a.fd8 == 0) && a.fc9.toList == (⟨#[]⟩ : ByteArray).toList) && ((a.ff8.length : Int) == 0)) && ((a.fk.length : Int) == 0)) && !a.fc
def zrB (r : Qa) : Bool := (((((r.fg6 == 0 && r.fa2 == 0) && r.ff3 == 0) && r.fb5 == 0) && ((r.fa9.length : Int) == 0)) && zaB r.fb0) && ((r.fc5.length : Int) == 0)
theorem LD (a : Qg) : Rr (KE a) (zaB a) := by
 unfold Rr KE; (try simp only [ct, cs, jo, Go.Proofs.YtikagchjeogchaaGreat.lo, lv, jn, Qb])
 simp only [Vi]; rfl
theorem I2 (r : Qa) : Rr (K5 r) (zrB r) := by
 unfold Rr K5; (try simp only [ct, cs, jo, Go.Proofs.YtikagchjeogchaaGreat.lo, lv, jn, Qb])
 refine ⟨_, fun _ => LD _, ?_⟩
 simp only [Vi]; rfl
theorem RO (l : List Int) : Rr (K6 l []) ((l.length : Int) == 0) := by
 unfold Rr K6
 simp only [ct, cs, jo, Go.Proofs.YtikagchjeogchaaGreat.lo, lv, jn, Qb]
 refine ⟨fun c => ?_, fun c => ?_⟩
 ·simpa using c
 ·have h : l.length = 0 := by simp at c; simp [c]
  rw [h]
  exact Bp 0 (by omega) (fun _ => True) trivial (fun j hj => absurd hj (by omega)) (fun _ => rfl)
theorem Nr (l : List Q5) : Rr (Zy l []) ((l.length : Int) == 0) := by
 unfold Rr Zy
 simp only [ct, cs, jo, Go.Proofs.YtikagchjeogchaaGreat.lo, lv, jn, Qb]
 refine ⟨fun c => ?_, fun c => ?_⟩
 ·simpa using c
 ·have h : l.length = 0 := by simp at c; simp [c]
  rw [h]
  exact Bp 0 (by omega) (fun _ => True) trivial (fun j hj => absurd hj (by omega)) (fun _ => rfl)
theorem Ns (a : Qg) : Rr (JI a (Qg.mk (0) (0) (ByteArray.empty) ([] : (List Int)) ([] : (List Q5)) (false))) (zaB a) := by
 unfold Rr JI; (try simp only [ct, cs, jo, Go.Proofs.YtikagchjeogchaaGreat.lo, lv, jn, Qb])
 refine ⟨_, fun _ => RO _, _, fun _ => Nr _, ?_⟩
 simp only [Vi]
 unfold zaB
 have e : (ByteArray.empty).toList = (⟨#[]⟩ : ByteArray).toList := rfl
 rw [e]
 cases a.fc
 ·generalize ((a.ff8.length : Int) == 0) = p
  generalize ((a.fk.length : Int) == 0) = q
  generalize ((a.fg2 == 0 && a.fd8 == 0) && a.fc9.toList == (⟨#[]⟩ : ByteArray).toList) = s
  cases p <;> cases q <;> cases s <;> rfl
 ·simp
theorem Q5i (r : Qa) : Rr (WP r) (zrB r) := by
 unfold Rr WP; (try simp only [ct, cs, jo, Go.Proofs.YtikagchjeogchaaGreat.lo, lv, jn, Qb])
 refine ⟨zrB r, ?_, rfl⟩
 unfold Rr JL
 simp only [ct, cs, jo, Go.Proofs.YtikagchjeogchaaGreat.lo, lv, jn, Qb, Um, Qya]
 have hz : zrB r = ((((((r.fg6 == 0 && r.fa2 == 0) && r.ff3 == 0) && r.fb5 == 0) && ((r.fa9.length : Int) == 0)) && zaB r.fb0) && ((r.fc5.length : Int) == 0)) := rfl
 refine ⟨_, fun _ => Ns _, fun c => ?_, fun c => ?_⟩
 ·rw [hz]
  simp only [bne, List.length_nil] at c
  generalize (r.fg6 == 0) = c1 at *
  generalize (r.fa2 == 0) = c2 at *
  generalize (r.ff3 == 0) = c3 at *
  generalize (r.fb5 == 0) = c4 at *
  generalize ((r.fc5.length : Int) == 0) = c5 at *
  generalize zaB r.fb0 = c6 at *
  have e : ((r.fa9.length : Int) == ((0 : Nat) : Int)) = ((r.fa9.length : Int) == 0) := rfl
  rw [e] at c
  generalize ((r.fa9.length : Int) == 0) = c7 at *
  clear hz e
  revert c; revert c1 c2 c3 c4 c5 c6 c7; decide
 ·have e : ((r.fa9.length : Int) == ((0 : Nat) : Int)) = ((r.fa9.length : Int) == 0) := rfl
  simp only [bne, List.length_nil, e] at c
  have h0 : r.fa9.length = 0 := by
   have := (Bool.or_eq_false_iff.1 c).2
   simp at this; simp [this]
  rw [h0]
  refine Bp 0 (by omega) (fun _ => True) trivial (fun j hj => absurd hj (by omega)) (fun _ => ?_)
  rw [hz]
  generalize (r.fg6 == 0) = c1 at *
  generalize (r.fa2 == 0) = c2 at *
  generalize (r.ff3 == 0) = c3 at *
  generalize (r.fb5 == 0) = c4 at *
  generalize ((r.fc5.length : Int) == 0) = c5 at *
  generalize zaB r.fb0 = c6 at *
  generalize ((r.fa9.length : Int) == 0) = c7 at *
  clear hz e h0
  revert c; revert c1 c2 c3 c4 c5 c6 c7; decide
def Qae (r : Q2) : Bool := (((decide (r.fb8 < 0) || decide (r.fb8 ≥ 64)) || decide (r.ff2 < 0)) || decide (r.fa8 < -1)) || decide (r.fc0 < -1)
def Qaf (l : List Q2) (i : Nat) (r : Q2) : Bool := match l[i - 1]? with
 | some x => decide ((i : Int) > 0) && decide (r.ff2 ≤ x.ff2)
 | none => false
def Q5j (r : Q2) : Bool := (r.fa8 != -1 && (decide (r.fa8 ≤ r.ff2) || (r.fc0 != -1 && decide (r.fa8 > r.fc0)))) || (r.fc0 != -1 && decide (r.fc0 ≤ r.ff2))
def Qkg (r x : Q2) : Bool := x.fb8 == r.fb8 && (x.fc0 == -1 || decide (x.fc0 ≥ r.ff2))
def Q5k (r : Q2) : Bool := (((r.fc0 != -1 && r.fa8 == -1) && !(r.fu.fg6 == 16)) || (r.fa8 != -1 && r.fu.fg6 == 16)) || (r.fc0 == -1 && !zrB r.fu)
def Qkh (r x : Q2) : Bool := (r.fa8 != -1 && x.fa8 == r.fa8) || (r.fc0 != -1 && x.fc0 == r.fc0)
def LE (l : List Q2) (i : Nat) : Int := match l[i]? with
 | none => 0
 | some r => if Qae r = true then 5 else if (De r.fOp != 0) = true then De r.fOp else if (Qaf l i r || Q5j r) = true then 19 else if (l.take i).any (Qkg r) = true then 12 else if Q5k r = true then 17 else if (l.take i).any (Qkh r) = true then 9 else 0
theorem OJ {l : List Q2} {i : Nat} {r : Q2} (h : l[i]? = some r) : LE l i = if Qae r = true then 5 else if (De r.fOp != 0) = true then De r.fOp else if (Qaf l i r || Q5j r) = true then 19 else if (l.take i).any (Qkg r) = true then 12 else if Q5k r = true then 17 else if (l.take i).any (Qkh r) = true then 9 else 0 := by
 unfold LE; rw [h]
theorem OK (r : Q2) : Rr (V8 r) (!Q5j r) := by
 unfold Rr V8 Q5j; (try simp only [ct, cs, jo, Go.Proofs.YtikagchjeogchaaGreat.lo, lv, jn, Qb])
 simp only [Vi, Um]
 refine ⟨fun c => ?_, fun c => ?_⟩
 ·rw [c]; rfl
 ·rw [c]
  have e : decide (r.fc0 > r.ff2) = !decide (r.fc0 ≤ r.ff2) := by
   by_cases h : r.fc0 ≤ r.ff2 <;> simp [h] <;> omega
  rw [e]
  simp [bne]
theorem PI (r : Q2) : Rr (Vx r) (!Q5k r) := by
 unfold Rr Vx Q5k; (try simp only [ct, cs, jo, Go.Proofs.YtikagchjeogchaaGreat.lo, lv, jn, Qb])
 simp only [Vi, Um, bne]
 generalize (r.fc0 == -1) = A
 generalize (r.fa8 == -1) = B
 generalize (r.fu.fg6 == 16) = C
 refine ⟨fun c => ?_, fun c => ⟨fun c2 => ?_, fun c2 => ⟨zrB r.fu, fun _ => I2 _, ?_⟩⟩⟩
 ·cases A <;> cases B <;> cases C <;> simp_all
 ·cases A <;> cases B <;> cases C <;> simp_all
 ·cases A <;> cases B <;> cases C <;> simp_all
theorem Q5l (l : List Q2) (n : Nat) (hn : n ≤ l.length) (hl : l.length ≤ 4611686018427387904) (f : Q2 → Bool) {B : (Int → Prop) → Int → Prop} {J bad : Prop}
  (hB : ∀ (j : Nat) (hj : j < l.length), j < n → ∀ X : Int → Prop, (f l[j] = true → bad) → (f l[j] = false → X (IntKind.i64.wrap ((j : Int) + 1))) → B X (j : Int)) (hbad : (l.take n).any f = true → bad) (hJ : (l.take n).any f = false → J) :
  lp (fun X s => (decide (s < (n : Int)) = true → B X s) ∧ (decide (s < (n : Int)) = false → J)) 0 := by
 refine Bp n (by omega) (fun j => ∀ (k : Nat) (x : Q2), k < j → l[k]? = some x → f x = false) (fun k x h => by omega) ?_ ?_
 ·intro j hj hI X hX
  have hj2 : j < l.length := by omega
  refine hB j hj2 hj X (fun h => hbad ?_) (fun h => hX fun k x hk hx => ?_)
  ·refine List.any_eq_true.2 ⟨l[j], ?_, h⟩
   exact List.mem_iff_getElem.2 ⟨j, by simp; omega, by simp⟩
  ·by_cases e : k = j
   ·subst e
    have : l[k]? = some l[k] := by simp [hj2]
    rw [this] at hx; cases hx; exact h
   ·exact hI k x (by omega) hx
 ·intro hI
  refine hJ (List.any_eq_false.2 fun x hx => ?_)
  obtain ⟨k, hk, e⟩ := List.mem_iff_getElem.1 hx
  simp only [List.length_take] at hk
  rw [List.getElem_take] at e
  rw [hI k x (by omega) (by rw [← e]; simp)]; simp
theorem Qqc {l : List Q2} {j : Nat} (hj : j < l.length) : ∃ x, (decide ((j : Int) > 0) = true → ix l (IntKind.i64.wrap ((j : Int) - 1)) x) ∧ (decide ((j : Int) > 0) && decide (l[j].ff2 ≤ x.ff2)) = Qaf l j l[j] ∨ l.length > 4611686018427387904 := by
 by_cases hl : l.length > 4611686018427387904
 ·exact ⟨l[j], .inr hl⟩
 have h1 : j - 1 < l.length := by omega
 have e : l[j - 1]? = some l[j - 1] := by simp [h1]
 refine ⟨l[j - 1], .inl ⟨fun c => ?_, ?_⟩⟩
 ·have : 0 < j := by simp at c; omega
  rw [Vk (by omega)]
  exact BF (by omega) e
 ·unfold Qaf; rw [e]
def Qki (l : List Q2) (e : Int) : Prop := (e = 0 ∧ ∀ i, i < l.length → LE l i = 0) ∨ ∃ i, i < l.length ∧ (∀ k, k < i → LE l k = 0) ∧ LE l i = e ∧ e ≠ 0
theorem SG {l : List Q2} {e f : Int} (h1 : Qki l e) (h2 : Qki l f) : e = f := by
 rcases h1 with ⟨h1, h1'⟩ | ⟨i, hi, hi2, hi3, hi4⟩ <;> rcases h2 with ⟨h2, h2'⟩ | ⟨k, hk, hk2, hk3, hk4⟩
 ·rw [h1, h2]
 ·rw [h1' k hk] at hk3; exact absurd hk3.symm hk4
 ·rw [h2' i hi] at hi3; exact absurd hi3.symm hi4
 ·rcases Nat.lt_trichotomy i k with h | h | h
  ·rw [hk2 i h] at hi3; exact absurd hi3.symm hi4
  ·subst h; rw [← hi3, ← hk3]
  ·rw [hi2 k h] at hk3; exact absurd hk3.symm hk4
theorem WS (l : List Q2) (hl : l.length ≤ 1000000) : ∃ e, Rr (ZN l) e ∧ Qki l e := by
 apply ex_
 unfold ZN
 simp only [ct, cs, jo, Go.Proofs.YtikagchjeogchaaGreat.lo, lv, jn, Qb, Um, Vi]
 refine Bp l.length (by omega) (fun j => ∀ k, k < j → LE l k = 0) (fun k h => by omega) ?_ (fun h => .inl ⟨rfl, h⟩)
 intro j hj hI X hX
 have ej : l[j]? = some l[j] := by simp [hj]
 have hr := OJ ej
 have bad : ∀ e, LE l j = e → e ≠ 0 → Qki l e := fun e h h0 => .inr ⟨j, hj, hI, h, h0⟩
 refine ⟨l[j], UC hj, fun c => ?_, fun c => ?_⟩
 ·exact bad 5 (by rw [hr]; exact if_pos c) (by decide)
 rw [if_neg (show ¬ Qae l[j] = true by rw [show Qae l[j] = false from c]; simp)] at hr
 clear c
 refine ⟨De l[j].fOp, LC _, fun c => ?_, fun c => ?_⟩
 ·exact bad _ (by rw [hr]; exact if_pos c) (by simpa using c)
 rw [if_neg (by rw [c]; simp)] at hr
 clear c
 obtain ⟨x, ⟨hx, ex⟩ | h⟩ := Qqc hj
 case inr => omega
 refine ⟨x, hx, !Q5j l[j], fun _ => OK _, fun c => ?_, fun c => ?_⟩
 ·rw [ex, Bool.not_not] at c
  exact bad _ (by rw [hr]; exact if_pos c) (by decide)
 rw [ex, Bool.not_not] at c
 rw [if_neg (by rw [c]; simp)] at hr
 clear c ex hx x
 have et : (List.take (Int.toNat (j : Int)) l).length = j := by simp; omega
 refine ⟨⟨by omega, by omega⟩, ?_⟩
 rw [et]
 refine Q5l l j (by omega) (by omega) (Qkg l[j]) (bad := LE l j = 12) (fun k hk hkj Y hb hY => ?_) (fun c => by rw [hr]; exact if_pos c) (fun c => ?_)
 ·refine ⟨l[k], ?_, fun c => bad _ (hb c) (by decide), hY⟩
  exact BF rfl (by rw [Uz, List.getElem?_take_of_lt hkj]; simp [hk])
 rw [if_neg (by rw [c]; simp)] at hr
 clear c
 refine ⟨!Q5k l[j], PI _, fun c => ?_, fun c => ?_⟩
 ·rw [Bool.not_not] at c
  exact bad _ (by rw [hr]; exact if_pos c) (by decide)
 rw [Bool.not_not] at c
 rw [if_neg (by rw [c]; simp)] at hr
 clear c
 refine ⟨⟨by omega, by omega⟩, ?_⟩
 refine Q5l l j (by omega) (by omega) (Qkh l[j]) (bad := LE l j = 9) (fun k hk hkj Y hb hY => ?_) (fun c => by rw [hr]; exact if_pos c) (fun c => ?_)
 ·refine ⟨l[k], ?_, fun c => bad _ (hb c) (by decide), hY⟩
  exact BF rfl (by rw [Uz, List.getElem?_take_of_lt hkj]; simp [hk])
 rw [if_neg (by rw [c]; simp)] at hr
 refine hX fun k hk => ?_
 by_cases e : k = j
 ·subst e; exact hr
 ·exact hI k (by omega)
theorem Tm (l : List Q2) (hl : l.length ≤ 1000000) (j : Nat) (hj : j < l.length) : Rr (Yg l (j : Int)) (LE l j) := by
 unfold Rr Yg
 simp only [ct, cs, jo, Go.Proofs.YtikagchjeogchaaGreat.lo, lv, jn, Qb, Um, Vi]
 have ej : l[j]? = some l[j] := by simp [hj]
 have hr := OJ ej
 refine ⟨l[j], UC hj, fun c => ?_, fun c => ?_⟩
 ·rw [hr]; exact if_pos c
 rw [if_neg (show ¬ Qae l[j] = true by rw [show Qae l[j] = false from c]; simp)] at hr
 clear c
 refine ⟨De l[j].fOp, Hf _, fun c => ?_, fun c => ?_⟩
 ·rw [hr]; exact if_pos c
 rw [if_neg (by rw [c]; simp)] at hr
 clear c
 obtain ⟨x, ⟨hx, ex⟩ | h⟩ := Qqc hj
 case inr => omega
 refine ⟨x, hx, ?_⟩
 rw [ex]
 have eo : ((Qaf l j l[j] || (l[j].fa8 != -1 && (decide (l[j].fa8 ≤ l[j].ff2) || (l[j].fc0 != -1 && decide (l[j].fa8 > l[j].fc0))))) || (l[j].fc0 != -1 && decide (l[j].fc0 ≤ l[j].ff2))) = (Qaf l j l[j] || Q5j l[j]) := by
  unfold Q5j; rw [Bool.or_assoc]
 rw [eo]
 refine ⟨fun c => ?_, fun c => ?_⟩
 ·rw [hr]; exact if_pos c
 rw [if_neg (by rw [c]; simp)] at hr
 clear c ex hx x eo
 refine Q5l l j (by omega) (by omega) (Qkg l[j]) (bad := LE l j = 12) (fun k hk hkj Y hb hY => ?_) (fun c => by rw [hr]; exact if_pos c) (fun c => ?_)
 ·exact ⟨l[k], UC hk, l[k], fun _ => UC hk, l[k], fun _ => UC hk, hb, hY⟩
 rw [if_neg (by rw [c]; simp)] at hr
 clear c
 refine ⟨zrB l[j].fu, fun _ => Q5i _, fun c => ?_, fun c => ?_⟩
 ·rw [hr]; exact if_pos c
 rw [if_neg (show ¬ Q5k l[j] = true by rw [show Q5k l[j] = false from c]; simp)] at hr
 clear c
 refine Q5l l j (by omega) (by omega) (Qkh l[j]) (bad := LE l j = 9) (fun k hk hkj Y hb hY => ?_) (fun c => by rw [hr]; exact if_pos c) (fun c => ?_)
 ·exact ⟨l[k], fun _ => UC hk, l[k], fun _ => UC hk, hb, hY⟩
 rw [if_neg (by rw [c]; simp)] at hr
 exact hr
theorem PK (l : List Q2) (hl : l.length ≤ 1000000) : ∃ e, Rr (Vy l) e ∧ Qki l e := by
 apply ex_
 unfold Vy
 simp only [ct, cs, jo, Go.Proofs.YtikagchjeogchaaGreat.lo, lv, jn, Qb]
 refine Bp l.length (by omega) (fun j => ∀ k, k < j → LE l k = 0) (fun k h => by omega) ?_ (fun h => .inl ⟨rfl, h⟩)
 intro j hj hI X hX
 refine ⟨LE l j, Tm l hl j hj, fun c => ?_, fun c => ?_⟩
 ·exact .inr ⟨j, hj, hI, rfl, by simpa using c⟩
 ·refine hX fun k hk => ?_
  by_cases e : k = j
  ·subst e; simpa using c
  ·exact hI k (by omega)
structure PL (n : Int) (x : Q2) : Prop where
 s0 : 0 ≤ x.fb8
 s1 : x.fb8 < 64
 c0 : 0 ≤ x.ff2
 c1 : x.ff2 < n
 l0 : -1 ≤ x.fa8
 l1 : x.fa8 < n
 r0 : -1 ≤ x.fc0
 r1 : x.fc0 < n
 op : De x.fOp = 0
 lc : x.fa8 ≠ -1 → x.ff2 < x.fa8
 lr : x.fa8 ≠ -1 → x.fc0 ≠ -1 → x.fa8 ≤ x.fc0
 rc : x.fc0 ≠ -1 → x.ff2 < x.fc0
 e1 : x.fc0 ≠ -1 → x.fa8 = -1 → x.fu.fg6 = 16
 e2 : x.fa8 ≠ -1 → x.fu.fg6 ≠ 16
 z : x.fc0 = -1 → zrB x.fu = true
structure Pg (n : Int) (ss : List Qh) (l : List Q2) : Prop where
 sz : ss.length ≤ 64
 rc : ∀ (i : Nat) x, l[i]? = some x → PL n x
 od : ∀ (i j : Nat) x y, i < j → l[i]? = some x → l[j]? = some y → x.ff2 < y.ff2 ∧ (x.fb8 = y.fb8 → x.fc0 ≠ -1 ∧ x.fc0 < y.ff2) ∧ (y.fa8 ≠ -1 → x.fa8 ≠ y.fa8) ∧ (y.fc0 ≠ -1 → x.fc0 ≠ y.fc0)
 bs : ∀ (s : Nat) x, ss[s]? = some x → x.fh1 = true → ∃ r, 0 ≤ x.fd7 ∧ l[x.fd7.toNat]? = some r ∧ r.fb8 = (s : Int) ∧ r.fc0 = -1
 pn : ∀ (i : Nat) r, l[i]? = some r → r.fc0 = -1 → ∃ x, ss[r.fb8.toNat]? = some x ∧ x.fh1 = true ∧ x.fd7 = (i : Int)
theorem PL.mono {n m : Int} {x : Q2} (h : PL n x) (hm : n ≤ m) : PL m x :=
 { h with c1 := by have := h.c1; omega, l1 := by have := h.l1; omega, r1 := by have := h.r1; omega }
theorem Pg.mono {n m : Int} {ss : List Qh} {l : List Q2} (h : Pg n ss l) (hm : n ≤ m) : Pg m ss l :=
 { h with rc := fun i x hx => (h.rc i x hx).mono hm }
theorem Qyb {n : Int} {ss : List Qh} (h : ss.length ≤ 64) (hb : ∀ x ∈ ss, x.fh1 = false) : Pg n ss [] where
 sz := h
 rc := fun i x hx => by simp at hx
 od := fun i j x y _ hx => by simp at hx
 bs := fun s x hx h => by rw [hb x (List.mem_of_getElem? hx)] at h; cases h
 pn := fun i r hr => by simp at hr
theorem Nt {α : Type} {l : List α} {k i : Nat} {a x : α} (h : (l.set k a)[i]? = some x) : (i = k ∧ x = a) ∨ (i ≠ k ∧ l[i]? = some x) := by
 rw [List.getElem?_set] at h
 split at h
 ·split at h
  ·left; cases h; exact ⟨by omega, rfl⟩
  ·cases h
 ·right; exact ⟨by omega, h⟩
theorem BK {α : Type} {l : List α} {k : Nat} {a x : α} (h : l[k]? = some x) : (l.set k a)[k]? = some a := by
 have := (List.getElem?_eq_some_iff.1 h).1
 simp [this]
theorem Pg.put {n : Int} {ss : List Qh} {l : List Q2} {s k : Nat} {x y : Qh} {r r' : Q2} (h : Pg n ss l) (hn : 0 ≤ n) (hx : ss[s]? = some x) (hb : x.fh1 = true) (hk : x.fd7 = (k : Int)) (hr : l[k]? = some r) (ok : PL (n + 1) r') (e1 : r'.fb8 = r.fb8) (e2 : r'.ff2 = r.ff2) (e3 : r'.fa8 = r.fa8 ∨ r'.fa8 = n ∨ r'.fa8 = -1) (e4 : (r'.fc0 = -1 ∧ y.fh1 = true ∧ y.fd7 = (k : Int)) ∨ (r'.fc0 = n ∧ y.fh1 = false)) : Pg (n + 1) (ss.set s y) (l.set k r') := by
 have hrs : r.fb8 = (s : Int) ∧ r.fc0 = -1 := by
  obtain ⟨q, _, h2, h3, h4⟩ := h.bs s x hx hb
  rw [hk, Uz, hr] at h2; cases h2; exact ⟨h3, h4⟩
 refine ⟨by simpa using h.sz, ?_, ?_, ?_, ?_⟩
 ·intro i z hz
  rcases Nt hz with ⟨_, rfl⟩ | ⟨_, hz2⟩
  ·exact ok
  ·exact (h.rc i z hz2).mono (by omega)
 ·intro i j a b hij ha hb'
  rcases Nt ha with ⟨rfl, rfl⟩ | ⟨hi, ha2⟩ <;> rcases Nt hb' with ⟨rfl, rfl⟩ | ⟨hj, hb2⟩
  ·omega
  ·have o := h.od i j r b hij hr hb2
   have ob := h.rc j b hb2
   have b1 := ob.l1; have b2 := ob.r1; have b3 := ob.c1
   have o2 := o.2.1
   refine ⟨by rw [e2]; exact o.1, fun e => ?_, fun e => ?_, fun e => ?_⟩
   ·exact absurd hrs.2 (o2 (by rw [← e1]; exact e)).1
   ·rcases e3 with e3 | e3 | e3
    ·rw [e3]; exact o.2.2.1 e
    ·omega
    ·omega
   ·rcases e4 with e4 | e4 <;> omega
  ·have o := h.od i j a r hij ha2 hr
   have oa := h.rc i a ha2
   have b1 := oa.l1; have b2 := oa.r1
   refine ⟨by rw [e2]; exact o.1, fun e => by rw [e2]; exact o.2.1 (by rw [e, e1]), fun e => ?_, fun e => ?_⟩
   ·rcases e3 with e3 | e3 | e3
    ·rw [e3] at e ⊢; exact o.2.2.1 e
    ·omega
    ·omega
   ·rcases e4 with e4 | e4 <;> omega
  ·exact h.od i j a b hij ha2 hb2
 ·intro t z hz hzb
  rcases Nt hz with ⟨rfl, rfl⟩ | ⟨ht, hz2⟩
  ·rcases e4 with ⟨f1, f2, f3⟩ | ⟨f1, f2⟩
   ·refine ⟨r', by omega, ?_, by rw [e1]; exact hrs.1, f1⟩
    rw [f3, Uz]; exact BK hr
   ·rw [f2] at hzb; cases hzb
  ·obtain ⟨q, h1, h2, h3, h4⟩ := h.bs t z hz2 hzb
   refine ⟨q, h1, ?_, h3, h4⟩
   rw [List.getElem?_set_ne]
   ·exact h2
   ·intro e
    rw [← e, hr] at h2; cases h2
    rw [hrs.1] at h3; omega
 ·intro i q hq hq1
  rcases Nt hq with ⟨rfl, rfl⟩ | ⟨hi, hq2⟩
  ·rcases e4 with ⟨f1, f2, f3⟩ | ⟨f1, f2⟩
   ·refine ⟨y, ?_, f2, f3⟩
    rw [e1, hrs.1, Uz]; exact BK hx
   ·omega
  ·obtain ⟨z, h1, h2, h3⟩ := h.pn i q hq2 hq1
   refine ⟨z, ?_, h2, h3⟩
   rw [List.getElem?_set_ne]
   ·exact h1
   ·intro e
    rw [← e, hx] at h1; cases h1
    omega
theorem Pg.ses {n : Int} {ss : List Qh} {l : List Q2} {s : Nat} {x y : Qh} (h : Pg n ss l) (hx : ss[s]? = some x) (e1 : y.fh1 = x.fh1) (e2 : y.fd7 = x.fd7) : Pg n (ss.set s y) l := by
 refine ⟨by simpa using h.sz, h.rc, h.od, ?_, ?_⟩
 ·intro t z hz hzb
  rcases Nt hz with ⟨rfl, rfl⟩ | ⟨ht, hz2⟩
  ·rw [e2]; exact h.bs t x hx (by rw [← e1]; exact hzb)
  ·exact h.bs t z hz2 hzb
 ·intro i q hq hq1
  obtain ⟨z, h1, h2, h3⟩ := h.pn i q hq hq1
  by_cases e : s = q.fb8.toNat
  ·subst e
   rw [hx] at h1; cases h1
   exact ⟨y, BK hx, by rw [e1]; exact h2, by rw [e2]; exact h3⟩
  ·exact ⟨z, by rw [List.getElem?_set_ne e]; exact h1, h2, h3⟩
theorem Pg.call {n : Int} {ss : List Qh} {l : List Q2} {s : Nat} {x y : Qh} {r : Q2} (h : Pg n ss l) (hn : 0 ≤ n) (hx : ss[s]? = some x) (hb : x.fh1 = false) (y1 : y.fh1 = true) (y2 : y.fd7 = (l.length : Int)) (r1 : r.fb8 = (s : Int)) (r2 : r.ff2 = n) (r3 : r.fa8 = -1) (r4 : r.fc0 = -1) (r5 : De r.fOp = 0) (r6 : zrB r.fu = true) (r7 : r.fu.fg6 ≠ 16) : Pg (n + 1) (ss.set s y) (l ++ [r]) := by
 have hs : s < 64 := by have := (List.getElem?_eq_some_iff.1 hx).1; have := h.sz; omega
 have idle : ∀ (i : Nat) q, l[i]? = some q → q.fb8 = (s : Int) → q.fc0 ≠ -1 := by
  intro i q hq e e2
  obtain ⟨z, h1, h2, h3⟩ := h.pn i q hq e2
  rw [e, Uz, hx] at h1; cases h1
  rw [hb] at h2; cases h2
 have ap : ∀ (i : Nat) q, (l ++ [r])[i]? = some q → (i < l.length ∧ l[i]? = some q) ∨ (i = l.length ∧ q = r) := by
  intro i q hq
  by_cases c : i < l.length
  ·rw [List.getElem?_append_left c] at hq; exact .inl ⟨c, hq⟩
  ·rw [List.getElem?_append_right (by omega)] at hq
   by_cases c2 : i = l.length
   ·subst c2; simp at hq; exact .inr ⟨rfl, hq.symm⟩
   ·rw [List.getElem?_eq_none (by simp; omega)] at hq; cases hq
 refine ⟨by simpa using h.sz, ?_, ?_, ?_, ?_⟩
 ·intro i q hq
  rcases ap i q hq with ⟨_, hq2⟩ | ⟨_, rfl⟩
  ·exact (h.rc i q hq2).mono (by omega)
  ·exact { s0 := by omega, s1 := by omega, c0 := by omega, c1 := by omega, l0 := by omega, l1 := by omega, r0 := by omega, r1 := by omega, op := r5, lc := fun e => absurd r3 e, lr := fun e => absurd r3 e, rc := fun e => absurd r4 e, e1 := fun e => absurd r4 e, e2 := fun e => r7, z := fun _ => r6 }
 ·intro i j a b hij ha hb'
  rcases ap i a ha with ⟨hi, ha2⟩ | ⟨hi, rfl⟩ <;> rcases ap j b hb' with ⟨hj, hb2⟩ | ⟨hj, rfl⟩
  ·exact h.od i j a b hij ha2 hb2
  ·have oa := h.rc i a ha2
   have b1 := oa.c1; have b2 := oa.r1
   exact ⟨by omega, fun e => ⟨idle i a ha2 (by omega), by omega⟩, fun e => absurd r3 e, fun e => absurd r4 e⟩
  ·omega
  ·omega
 ·intro t z hz hzb
  rcases Nt hz with ⟨rfl, rfl⟩ | ⟨ht, hz2⟩
  ·refine ⟨r, by omega, ?_, r1, r4⟩
   rw [y2, Uz]; simp
  ·obtain ⟨q, h1, h2, h3, h4⟩ := h.bs t z hz2 hzb
   refine ⟨q, h1, ?_, h3, h4⟩
   rw [List.getElem?_append_left (List.getElem?_eq_some_iff.1 h2).1]; exact h2
 ·intro i q hq hq1
  rcases ap i q hq with ⟨hi, hq2⟩ | ⟨hi, rfl⟩
  ·obtain ⟨z, h1, h2, h3⟩ := h.pn i q hq2 hq1
   refine ⟨z, ?_, h2, h3⟩
   rw [List.getElem?_set_ne]
   ·exact h1
   ·intro e
    rw [← e, hx] at h1; cases h1
    rw [hb] at h2; cases h2
  ·refine ⟨y, ?_, y1, by omega⟩
   rw [r1, Uz]; exact BK hx
theorem Z4w {n : Int} {x : Q2} (h : PL n x) : Qae x = false := by
 have h1 := h.s0; have h2 := h.s1; have h3 := h.c0; have h4 := h.l0; have h5 := h.r0
 unfold Qae
 simp only [Bool.or_eq_false_iff, decide_eq_false_iff_not]
 refine ⟨⟨⟨⟨?_, ?_⟩, ?_⟩, ?_⟩, ?_⟩ <;> omega
theorem Z4x {n : Int} {x : Q2} (h : PL n x) : Q5j x = false := by
 have h1 := h.lc; have h2 := h.lr; have h3 := h.rc
 unfold Q5j
 rw [Bool.eq_false_iff]
 intro c
 simp only [Bool.or_eq_true, Bool.and_eq_true, bne_iff_ne, decide_eq_true_eq] at c
 rcases c with ⟨c1, c2 | ⟨c2, c3⟩⟩ | ⟨c1, c2⟩
 ·have := h1 c1; omega
 ·have := h2 c1 c2; omega
 ·have := h3 c1; omega
theorem Z4y {n : Int} {x : Q2} (h : PL n x) : Q5k x = false := by
 unfold Q5k
 rw [Bool.eq_false_iff]
 intro c
 simp only [Bool.or_eq_true, Bool.and_eq_true, bne_iff_ne, beq_iff_eq, Bool.not_eq_true', beq_eq_false_iff_ne] at c
 rcases c with (⟨⟨c1, c2⟩, c3⟩ | ⟨c1, c2⟩) | ⟨c1, c2⟩
 ·exact c3 (h.e1 c1 c2)
 ·exact h.e2 c1 c2
 ·rw [h.z c1] at c2; cases c2
theorem Qqd {l : List Q2} {i : Nat} {f : Q2 → Bool} (h : ∀ (k : Nat) x, k < i → l[k]? = some x → f x = false) : (l.take i).any f = false := by
 rw [List.any_eq_false]
 intro x hx
 obtain ⟨k, hk, e⟩ := List.mem_iff_getElem.1 hx
 simp only [List.length_take] at hk
 rw [List.getElem_take] at e
 rw [h k x (by omega) (by rw [← e]; simp)]; simp
theorem Pg.rec0 {n : Int} {ss : List Qh} {l : List Q2} (h : Pg n ss l) (i : Nat) : LE l i = 0 := by
 cases e : l[i]? with
 | none => unfold LE; rw [e]
 | some r =>
  have ok := h.rc i r e
  rw [OJ e, Z4w ok, ok.op, Z4x ok, Z4y ok]
  have o1 : Qaf l i r = false := by
   unfold Qaf
   split
   ·rename_i x hx
    by_cases c : 0 < i
    ·have := (h.od (i - 1) i x r (by omega) hx e).1
     simp; omega
    ·simp; omega
   ·rfl
  have o2 : (l.take i).any (Qkg r) = false := Qqd fun k x hk hx => by
   have o := h.od k i x r hk hx e
   unfold Qkg
   rw [Bool.eq_false_iff]
   intro c
   simp only [Bool.or_eq_true, Bool.and_eq_true, beq_iff_eq, decide_eq_true_eq] at c
   have := o.2.1 c.1
   omega
  have o3 : (l.take i).any (Qkh r) = false := Qqd fun k x hk hx => by
   have o := h.od k i x r hk hx e
   unfold Qkh
   rw [Bool.eq_false_iff]
   intro c
   simp only [Bool.or_eq_true, Bool.and_eq_true, beq_iff_eq, bne_iff_ne] at c
   rcases c with ⟨c1, c2⟩ | ⟨c1, c2⟩
   ·exact o.2.2.1 c1 c2
   ·exact o.2.2.2 c1 c2
  rw [o1, o2, o3]; simp
theorem Pg.val {n : Int} {ss : List Qh} {l : List Q2} (h : Pg n ss l) : Qki l 0 := .inl ⟨rfl, fun i _ => h.rec0 i⟩
def Asc (l : List Q2) (o : List Int) : Prop := List.Pairwise (fun a b => Iz l a ≤ Iz l b) o
theorem Qqe (l : List Q2) (out : List Int) (y : Int) (ho : Asc l out) : ∀ p, p ≤ out.length → (∀ a ∈ out.drop p, y < Iz l a) → Ck l out y p ≤ p ∧ (∀ a ∈ out.take (Ck l out y p), Iz l a ≤ y) ∧ ∀ a ∈ out.drop (Ck l out y p), y < Iz l a := by
 intro p
 induction p with
 | zero => intro _ h; exact ⟨Nat.le_refl _, by simp [Ck], by simpa [Ck] using h⟩
 | succ p ih =>
  intro hp h
  have ex : out[p]? = some (out[p]'(by omega)) := by simp
  generalize out[p]'(by omega) = x at ex
  obtain ⟨A, B, hA, rfl⟩ := Q5e ex
  have dr : (A ++ x :: B).drop p = x :: B := by rw [← hA]; simp
  have tk : (A ++ x :: B).take (p + 1) = A ++ [x] := by rw [← hA]; simp [List.take_append, List.take_of_length_le]
  have dr1 : (A ++ x :: B).drop (p + 1) = B := by rw [← hA]; simp [List.drop_append]
  by_cases c : Iz l x > y
  ·rw [Q5g ex c]
   have := ih (by omega) (by rw [dr]; rw [dr1] at h; intro a ha; rcases List.mem_cons.1 ha with rfl | ha; exact c; exact h a ha)
   exact ⟨by omega, this.2⟩
  ·rw [Q5h ex c]
   refine ⟨Nat.le_refl _, ?_, h⟩
   rw [tk]
   intro a ha
   rcases List.mem_append.1 ha with ha | ha
   ·have := (List.pairwise_append.1 ho).2.2 a ha x (by simp)
    omega
   ·simp at ha; subst ha; omega
theorem Qyc {l : List Q2} {out : List Int} {i : Int} {p : Nat} (ho : Asc l out) (h1 : ∀ a ∈ out.take p, Iz l a ≤ Iz l i) (h2 : ∀ a ∈ out.drop p, Iz l i < Iz l a) : Asc l (Rv out i p) := by
 unfold Asc Rv
 have ho2 : List.Pairwise (fun a b => Iz l a ≤ Iz l b) (out.take p ++ out.drop p) := by rw [List.take_append_drop]; exact ho
 obtain ⟨q1, q2, q3⟩ := List.pairwise_append.1 ho2
 rw [List.pairwise_append]
 refine ⟨q1, List.pairwise_cons.2 ⟨fun a ha => by have := h2 a ha; omega, q2⟩, ?_⟩
 intro a ha b hb
 rcases List.mem_cons.1 hb with rfl | hb
 ·exact h1 a ha
 ·exact q3 a ha b hb
theorem Qqf (l : List Q2) (k : Nat) : Asc l (W4 l k) := by
 induction k with
 | zero => simp [Asc, W4]
 | succ k ih =>
  unfold W4
  split
  ·rename_i r hr
   split
   ·exact ih
   ·have s := Qqe l (W4 l k) r.fa8 ih (W4 l k).length (Nat.le_refl _) (by simp)
    have e : Iz l (k : Int) = r.fa8 := Nq (by rw [Uz]; exact hr)
    exact Qyc ih (by rw [e]; exact s.2.1) (by rw [e]; exact s.2.2)
  ·exact ih
theorem Qf4 (l : List Q2) (k : Nat) : (W4 l k).Nodup := by
 induction k with
 | zero => simp [W4]
 | succ k ih =>
  unfold W4
  split
  ·split
   ·exact ih
   ·have hm : ¬ (k : Int) ∈ W4 l k := fun h => by have := (OH l k _ h).2; omega
    unfold Rv
    have ho2 : ∀ p, (List.take p (W4 l k) ++ List.drop p (W4 l k)).Nodup := fun p => by rw [List.take_append_drop]; exact ih
    obtain ⟨q1, q2, q3⟩ := List.nodup_append.1 (ho2 _)
    rw [List.nodup_append]
    refine ⟨q1, List.nodup_cons.2 ⟨fun h => hm (List.mem_of_mem_drop h), q2⟩, ?_⟩
    intro a ha b hb
    rcases List.mem_cons.1 hb with rfl | hb
    ·intro e; subst e; exact hm (List.mem_of_mem_take ha)
    ·exact q3 a ha b hb
  ·exact ih
theorem Qag (l : List Q2) (k : Nat) : ∀ x ∈ W4 l k, ∃ r, l[x.toNat]? = some r ∧ r.fa8 ≠ -1 := by
 induction k with
 | zero => intro x hx; cases hx
 | succ k ih =>
  intro x hx
  unfold W4 at hx
  split at hx
  ·rename_i r hr
   split at hx
   ·exact ih x hx
   ·rename_i hs
    rcases Qhz hx with rfl | h
    ·refine ⟨r, by rw [Uz]; exact hr, fun e => hs ?_⟩
     unfold Qy5; rw [e]; simp
    ·exact ih x h
  ·exact ih x hx
theorem Pg.rt {n : Int} {ss : List Qh} {l : List Q2} (h : Pg n ss l) : Qq5 l (W4 l l.length) := by
 refine ⟨fun j a ha => ?_, fun j k a b hk ha hb => ⟨?_, ?_⟩⟩
 ·have := OH l l.length a (at_mem ha)
  exact ⟨this.1, this.2⟩
 ·have nd := Qf4 l l.length
  intro e; subst e
  obtain ⟨h1, e1⟩ := List.getElem?_eq_some_iff.1 ha
  obtain ⟨h2, e2⟩ := List.getElem?_eq_some_iff.1 hb
  have := (List.pairwise_iff_getElem.1 nd) k j h2 h1 hk
  rw [e1, e2] at this
  exact this rfl
 ·obtain ⟨x, hx, hx1⟩ := Qag l l.length a (at_mem ha)
  obtain ⟨y, hy, hy1⟩ := Qag l l.length b (at_mem hb)
  rw [Tk hx hy]
  obtain ⟨h1, e1⟩ := List.getElem?_eq_some_iff.1 ha
  obtain ⟨h2, e2⟩ := List.getElem?_eq_some_iff.1 hb
  have asc := (List.pairwise_iff_getElem.1 (Qqf l l.length)) k j h2 h1 hk
  rw [e1, e2, Nq hx, Nq hy] at asc
  have ox := h.rc _ x hx
  have oy := h.rc _ y hy
  have q1 := ox.lr hx1
  have q2 := oy.lc hy1
  unfold Iy
  rw [Bool.eq_false_iff]
  intro c
  simp only [Bool.and_eq_true, bne_iff_ne, decide_eq_true_eq] at c
  have := q1 c.1
  omega
theorem Qyd {n : Int} {a : Q2} (ha : PL n a) : Iy a a = false := by
 have := ha.rc
 unfold Iy
 rw [Bool.eq_false_iff]
 intro c
 simp only [Bool.and_eq_true, bne_iff_ne, decide_eq_true_eq] at c
 have := this c.1
 omega
theorem Qqg {n : Int} {a b : Q2} (ha : PL n a) (hb : PL n b) (h : Iy a b = true) : Iy b a = false := by
 have h1 := ha.rc
 have h2 := hb.rc
 unfold Iy at *
 rw [Bool.eq_false_iff]
 intro c
 simp only [Bool.and_eq_true, bne_iff_ne, decide_eq_true_eq] at c h
 have := h1 h.1
 have := h2 c.1
 omega
theorem Qkj {n : Int} {a b d : Q2} (hb : PL n b) (h : Iy a b = true) (h' : Iy b d = true) : Iy a d = true := by
 have h2 := hb.rc
 unfold Iy at *
 simp only [Bool.and_eq_true, bne_iff_ne, decide_eq_true_eq] at *
 have := h2 h'.1
 exact ⟨h.1, by omega⟩
def lsT : Qj := (Qj.mk (4) (ByteArray.empty) (ByteArray.empty) ([] : (List ByteArray)) (Q6.mk (0) (0) (0) (0)) ([] : (List QY)) ([] : (List Int)) (0) (0) (0) (0) (0) (0) (Qi.mk (0) (ByteArray.empty) (0) (0) (0)) ([] : (List Int)))
def zRs : Qa := (Qa.mk (0) (0) (0) (0) ([] : (List ByteArray)) (Qg.mk (0) (0) (ByteArray.empty) ([] : (List Int)) ([] : (List Q5)) (false)) ([] : (List Int)))
def kA : Q2 := Q2.mk (0) lsT (0) (1) (1) zRs
def kB : Q2 := Q2.mk (0) lsT (2) (3) (3) zRs
theorem m4 (C : Nat → Int) : HA (Iv 4 C) = 0 := rfl
theorem Qrf : De lsT = 0 := by
 have e : (ByteArray.empty).toList = [] := FA
 unfold De Td
 rw [if_neg (by unfold UK Te lsT; simp), if_neg (by show ¬ HA (Iv 4 _) ≠ 0; rw [m4]; simp), if_pos]
 simp [List.range, List.range.loop, zro, Te, lsT, e]
theorem k_rec : ∀ i, i < [kA, kB].length → LE [kA, kB] i = 0 := by
 intro i hi
 have va : De kA.fOp = 0 := Qrf
 have vb : De kB.fOp = 0 := Qrf
 rcases i with _ | _ | i
 ·rw [OJ (r := kA) rfl, va]; rfl
 ·rw [OJ (r := kB) rfl, vb]; rfl
 ·simp at hi; omega
theorem k_rt : Qq5 [kA, kB] [0, 1] := by
 refine ⟨fun j a h => ?_, fun j k a b hk ha hb => ?_⟩
 ·rcases j with _ | _ | j
  ·cases h; exact ⟨by decide, by decide⟩
  ·cases h; exact ⟨by decide, by decide⟩
  ·simp at h
 ·rcases j with _ | _ | j
  ·omega
  ·have : k = 0 := by omega
   subst this
   cases ha; cases hb; exact ⟨by decide, rfl⟩
  ·simp at ha
theorem k_rf : ¬ Qq5 [kA, kB] [1, 0] := by
 intro h
 have := (h.2 1 0 0 1 (by omega) rfl rfl).2
 exact absurd this (by decide)
theorem AT : Rr (Jq) true := by
 unfold Rr Jq; (try simp only [ct, cs, jo, Go.Proofs.YtikagchjeogchaaGreat.lo, lv, jn, Qb])
 obtain ⟨r1, h1, h2⟩ := WR [kA, kB] [0, 1] (by decide) (by decide)
 obtain ⟨r2, h3, h4⟩ := WR [kA, kB] [1, 0] (by decide) (by decide)
 obtain ⟨e, h5, h6⟩ := WS [kA, kB] (by decide)
 have t1 : r1 = true := h2.2 k_rt
 have t2 : r2 = false := by
  cases r2
  ·rfl
  ·exact absurd (h4.1 rfl) k_rf
 have t3 : e = 0 := SG h6 (.inl ⟨rfl, k_rec⟩)
 subst t1 t2 t3
 have cf : ∀ {P : Prop}, true = false → P := fun c => by cases c
 exact ⟨[0, 1], Eh [kA, kB] (by decide), true, KF kA kB, Wk (fun _ => ⟨false, KF kB kA, Wk (fun _ => Wk (fun _ => ⟨0, ⟨by decide, rfl⟩, Wk (fun _ => ⟨true, h1, Wk (fun _ => ⟨false, h3, Wk (fun _ => ⟨0, h5, rfl⟩) cf⟩) cf⟩) cf⟩) cf) cf⟩) cf⟩
end Go.Proofs.YtikagchjeogchaaGreat
