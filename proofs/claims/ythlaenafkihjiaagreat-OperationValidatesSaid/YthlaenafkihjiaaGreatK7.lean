/- Parts of the proof, laid together. No condition. -/
import Derived.Test.YthlaenafkihjiaaGreatK6
import Derived.Below
namespace Go.Proofs.YthlaenafkihjiaaGreat
open Go.RowKit
set_option linter.unusedVariables false
set_option linter.unusedSimpArgs false
theorem Zq (a : Int) (h : a < 18446744073709551616) : ∃ r, Z8 a r ∧ r.length ≤ 9 := by
  refine IR (Post := fun r => r.length ≤ 9) ?_
  unfold Xo
  simp only [jn, shr8]
  refine ⟨fun _ => by simp, fun _ => ?_⟩
  refine Kc (I := fun k s => s.2.length ≤ 8 ∧ k = 8 - s.2.length ∧ s.1 < 256 ^ (8 - s.2.length)) ?_ (k := 8) ⟨by simp, by simp, by simpa using h⟩
  rintro k ⟨x, l⟩ ⟨hl, hk, hx⟩ X hX
  simp only at hl hk hx ⊢
  refine ⟨fun hp => ?_, fun _ => ⟨by simp; omega, by simp; omega⟩⟩
  have hp' : 0 < x := by simpa using hp
  have hl7 : l.length < 8 := by
    rcases Nat.lt_or_ge l.length 8 with h | h
    · exact h
    · have : l.length = 8 := by omega
      rw [this] at hx; simp at hx; omega
  refine ⟨by simp; omega, hX (8 - ([IntKind.u8.wrap x] ++ l).length) _ (by simp; omega) ⟨by simp; omega, rfl, ?_⟩⟩
  have e : 8 - l.length = (8 - ([IntKind.u8.wrap x] ++ l).length) + 1 := by simp; omega
  rw [e, Int.pow_succ] at hx
  generalize (256 : Int) ^ (8 - ([IntKind.u8.wrap x] ++ l).length) = M at hx ⊢
  show x / 256 < M
  omega
theorem F3 (l : List Int) (hl : l.length ≤ 4611686018427387904) : ∃ r, VQ l r := by
  obtain ⟨v, hv, _⟩ := EM (Post := fun _ => True) (a0 := l) (by
    unfold JO
    simp only [jn]
    refine Kc (I := fun k s => ∃ j : Nat, s.2.2 = (j : Int) ∧ j ≤ l.length ∧ k = l.length - j) ?_ (k := l.length) ⟨0, rfl, by omega, by omega⟩
    rintro k ⟨a, b, i⟩ ⟨j, hj, hj1, hk⟩ X hX
    simp only at hj ⊢
    subst hj
    refine ⟨fun h => ?_, fun _ => trivial⟩
    have hj2 : j < l.length := by simp at h; omega
    obtain ⟨x, hx⟩ := Yj hj2
    refine ⟨x, hx, ?_⟩
    rw [Zr (by omega)]
    exact hX (l.length - (j + 1)) _ (by omega) ⟨j + 1, by simp, by omega, rfl⟩)
  exact ⟨v, hv⟩
theorem DJ (t : Int) (l : List Int) : ∃ r, VG t l r ∧ r.1.length ≤ l.length + 14 := by
  refine HJ (Post := fun r => r.1.length ≤ l.length + 14) ?_
  unfold XJ
  refine ⟨fun _ => by simp, fun h => ?_⟩
  have h' : (l.length : Int) ≤ 1048576 := by simpa using h
  obtain ⟨v2, e2, l2⟩ := Zq (l.length : Int) (by omega)
  obtain ⟨v5, e5⟩ := F3 (([t] ++ v2) ++ l) (by simp; omega)
  exact ⟨v2, e2, by simp; omega, by simp; omega, v5, e5, by simp; omega, by simp; omega⟩
theorem Ws (b : Bool) : ∃ r, JX b r ∧ r.length = 1 := by
  refine IT (Post := fun r => r.length = 1) ?_
  exact ⟨fun _ => rfl, fun _ => rfl⟩
theorem EG (a : Int) : ∃ r, Yn a r ∧ r.length ≤ 8 := by
  refine IV (Post := fun r => r.length ≤ 8) ?_
  unfold Ym
  simp only [jn]
  refine Kc (I := fun k s => -1 ≤ s.2 ∧ (s.1.length : Int) = 7 - s.2 ∧ k = (s.2 + 1).toNat) ?_ (k := 8) ⟨by decide, rfl, rfl⟩
  rintro k ⟨l, i⟩ ⟨h0, h1, hk⟩ X hX
  simp only at h0 h1 hk ⊢
  refine ⟨fun h => ?_, fun h => by simp at h; omega⟩
  have hi : 0 ≤ i := by simpa using h
  refine ⟨(Bw _).1, by simp; omega, ?_⟩
  rw [Zr (n := i - 1) (by omega)]
  exact hX (i - 1 + 1).toNat _ (by omega) ⟨by simp only; omega, by simp; omega, rfl⟩
theorem Bn (s : ByteArray) (h : s.size ≤ 32) : ∃ r, Xs s r ∧ r.length ≤ 41 := by
  refine IW (Post := fun r => r.length ≤ 41) ?_
  unfold Yo
  obtain ⟨v, e, l⟩ := Zq (s.size : Int) (by omega)
  have hs : (sI s).length = s.size := VV s
  exact ⟨v, e, by omega, by simp; omega⟩
theorem CI (t : QS) : ∃ r, Jz t r ∧ r.1.length ≤ 60000 := by
  refine Ce (Post := fun r => r.1.length ≤ 60000) ?_
  unfold KP
  obtain ⟨v2, e2, ok⟩ := XC t
  refine ⟨v2, e2, fun _ => by simp, fun h2 => ?_⟩
  have ok := ok (by simpa using h2)
  obtain ⟨v3, e3, l3⟩ := Zq t.fTotal (by omega)
  obtain ⟨v4, e4, l4⟩ := Zq t.fItems (by omega)
  obtain ⟨v6, e6, l6⟩ := Ws t.fSaturated
  exact ⟨v3, e3, v4, e4, by omega, v6, e6, by simp; omega, by simp; omega⟩
theorem AH (c : Qx) : ∃ r, KH c r ∧ r.1.length ≤ 60000 := by
  refine Ar (Post := fun r => r.1.length ≤ 60000) ?_
  unfold Kf
  simp only [jn]
  obtain ⟨v2, e2, ok⟩ := Vx c
  refine ⟨v2, e2, fun _ => by simp, fun h2 => ?_⟩
  obtain ⟨hd, hs, hl, hx⟩ := ok (by simpa using h2)
  have hm := Ic hd hs
  obtain ⟨v3, e3, l3⟩ := Zq c.fDepth (by omega)
  obtain ⟨v4, e4, l4⟩ := Zq c.fSize (by omega)
  obtain ⟨v6, e6, l6⟩ := EG c.fSeed
  refine ⟨v3, e3, v4, e4, by omega, v6, e6, by simp; omega, ?_⟩
  refine Kc (I := fun k s => ∃ j : Nat, s.2 = (j : Int) ∧ j ≤ c.fCells.length ∧ k = c.fCells.length - j ∧ s.1.length ≤ 26 + 9 * j) ?_ (k := c.fCells.length) ⟨0, rfl, by omega, by omega, by simp; omega⟩
  rintro k ⟨a, i⟩ ⟨j, hj, hj1, hk, ha⟩ X hX
  simp only at hj ha ⊢
  subst hj
  refine ⟨fun h => ?_, fun _ => ?_⟩
  · have hj2 : j < c.fCells.length := by simp at h; omega
    obtain ⟨x, hx1, hg⟩ := Kl (l := c.fCells) (n := (j : Int)) (by omega) (by omega)
    have hxr := hx x (List.mem_of_getElem? hg)
    obtain ⟨v13, e13, l13⟩ := Zq x (by omega)
    refine ⟨x, hx1, v13, e13, by omega, ?_⟩
    rw [Zr (by omega)]
    exact hX (c.fCells.length - (j + 1)) _ (by omega) ⟨j + 1, by simp, by omega, rfl, by simp; omega⟩
  · obtain ⟨v15, e15, l15⟩ := Ws c.fSaturated
    exact ⟨v15, e15, by omega, by simp; omega⟩
theorem BK (c : QH) : ∃ r, Jj c r ∧ r.1.length ≤ 60000 := by
  refine BC (Post := fun r => r.1.length ≤ 60000) ?_
  unfold KE
  simp only [jn]
  obtain ⟨v2, e2, ok⟩ := Xi c
  refine ⟨v2, e2, fun _ => by simp, fun h2 => ?_⟩
  obtain ⟨hp, hl, hlen, hx⟩ := ok (by simpa using h2)
  obtain ⟨v3, e3, l3⟩ := Zq c.fPrecision (by omega)
  obtain ⟨v4, e4, l4⟩ := EG c.fSeed
  refine ⟨v3, e3, v4, e4, by omega, ?_⟩
  refine Kc (I := fun k s => ∃ j : Nat, s.2 = (j : Int) ∧ j ≤ c.fRegisters.length ∧ k = c.fRegisters.length - j ∧ s.1.length ≤ 17 + j) ?_ (k := c.fRegisters.length) ⟨0, rfl, by omega, by omega, by simp; omega⟩
  rintro k ⟨a, i⟩ ⟨j, hj, hj1, hk, ha⟩ X hX
  simp only at hj ha ⊢
  subst hj
  refine ⟨fun h => ?_, fun _ => by omega⟩
  have hj2 : j < c.fRegisters.length := by simp at h; omega
  obtain ⟨x, hx1⟩ := Yj hj2
  refine ⟨x, hx1, by simp; omega, ?_⟩
  rw [Zr (by omega)]
  exact hX (c.fRegisters.length - (j + 1)) _ (by omega) ⟨j + 1, by simp, by omega, rfl, by simp; omega⟩
theorem Ej (c : QW) : ∃ r, Vj c r ∧ r.1.length ≤ 60000 := by
  refine E2 (Post := fun r => r.1.length ≤ 60000) ?_
  unfold Jt
  simp only [jn]
  obtain ⟨v2, e2, ok⟩ := Yi c
  refine ⟨v2, e2, fun _ => by simp, fun h2 => ?_⟩
  obtain ⟨hs, ht, hl, hx⟩ := ok (by simpa using h2)
  obtain ⟨v3, e3, l3⟩ := Zq c.fSize (by omega)
  obtain ⟨v4, e4, l4⟩ := Zq c.fTotal (by omega)
  obtain ⟨v6, e6, l6⟩ := Ws c.fSaturated
  obtain ⟨v8, e8, l8⟩ := Zq (c.fEntries.length : Int) (by omega)
  refine ⟨v3, e3, v4, e4, by omega, v6, e6, by simp; omega, v8, e8, by simp; omega, ?_⟩
  refine Kc (I := fun k s => ∃ j : Nat, s.2 = (j : Int) ∧ j ≤ c.fEntries.length ∧ k = c.fEntries.length - j ∧ s.1.length ≤ 28 + 59 * j) ?_ (k := c.fEntries.length) ⟨0, rfl, by omega, by omega, by simp; omega⟩
  rintro k ⟨a, i⟩ ⟨j, hj, hj1, hk, ha⟩ X hX
  simp only at hj ha ⊢
  subst hj
  refine ⟨fun h => ?_, fun _ => by omega⟩
  have hj2 : j < c.fEntries.length := by simp at h; omega
  obtain ⟨x, hx1, hg⟩ := Kl (l := c.fEntries) (n := (j : Int)) (by omega) (by omega)
  obtain ⟨k1, k2, k3⟩ := hx x (List.mem_of_getElem? hg)
  obtain ⟨v15, e15, l15⟩ := Bn x.fKey (by omega)
  obtain ⟨v18, e18, l18⟩ := Zq x.fCount (by omega)
  obtain ⟨v21, e21, l21⟩ := Zq x.fError (by omega)
  refine ⟨x, hx1, v15, e15, by omega, x, hx1, v18, e18, by simp; omega, x, hx1, v21, e21, by simp; omega, ?_⟩
  rw [Zr (by omega)]
  exact hX (c.fEntries.length - (j + 1)) _ (by omega) ⟨j + 1, by simp, by omega, rfl, by simp; omega⟩
theorem AI (c : QB) : ∃ r, KI c r ∧ r.1.length ≤ 60000 := by
  refine Au (Post := fun r => r.1.length ≤ 60000) ?_
  unfold Kg
  simp only [jn]
  obtain ⟨v2, e2, ok⟩ := Vy c
  refine ⟨v2, e2, fun _ => by simp, fun h2 => ?_⟩
  obtain ⟨hs, ht, hlo, hl, hx⟩ := ok (by simpa using h2)
  obtain ⟨v3, e3, l3⟩ := Zq c.fSize (by omega)
  obtain ⟨v4, e4, l4⟩ := Zq c.fTotal (by omega)
  obtain ⟨v5, e5, l5⟩ := Zq c.fLost (by omega)
  obtain ⟨v6, e6, l6⟩ := Ws c.fSaturated
  obtain ⟨v8, e8, l8⟩ := Zq (c.fEntries.length : Int) (by omega)
  refine ⟨v3, e3, v4, e4, by omega, v5, e5, by simp; omega, v6, e6, by simp; omega, v8, e8, by simp; omega, ?_⟩
  refine Kc (I := fun k s => ∃ j : Nat, s.2 = (j : Int) ∧ j ≤ c.fEntries.length ∧ k = c.fEntries.length - j ∧ s.1.length ≤ 37 + 50 * j) ?_ (k := c.fEntries.length) ⟨0, rfl, by omega, by omega, by simp; omega⟩
  rintro k ⟨a, i⟩ ⟨j, hj, hj1, hk, ha⟩ X hX
  simp only at hj ha ⊢
  subst hj
  refine ⟨fun h => ?_, fun _ => by omega⟩
  have hj2 : j < c.fEntries.length := by simp at h; omega
  obtain ⟨x, hx1, hg⟩ := Kl (l := c.fEntries) (n := (j : Int)) (by omega) (by omega)
  obtain ⟨k1, k2, k3⟩ := hx x (List.mem_of_getElem? hg)
  obtain ⟨v15, e15, l15⟩ := Bn x.fKey (by omega)
  obtain ⟨v18, e18, l18⟩ := Zq x.fCount (by omega)
  refine ⟨x, hx1, v15, e15, by omega, x, hx1, v18, e18, by simp; omega, ?_⟩
  rw [Zr (by omega)]
  exact hX (c.fEntries.length - (j + 1)) _ (by omega) ⟨j + 1, by simp, by omega, rfl, by simp; omega⟩
theorem CJ (c : QI) : ∃ r, JA c r ∧ r.1.length ≤ 60000 := by
  refine Cg (Post := fun r => r.1.length ≤ 60000) ?_
  unfold KQ
  simp only [jn]
  obtain ⟨v2, e2, ok⟩ := XD c
  refine ⟨v2, e2, fun _ => by simp, fun h2 => ?_⟩
  obtain ⟨hs, ht, hlo, hl, hx⟩ := ok (by simpa using h2)
  obtain ⟨v3, e3, l3⟩ := Zq c.fSize (by omega)
  obtain ⟨v4, e4, l4⟩ := Zq c.fTotal (by omega)
  obtain ⟨v5, e5, l5⟩ := Zq c.fSlack (by omega)
  obtain ⟨v6, e6, l6⟩ := Ws c.fSaturated
  obtain ⟨v8, e8, l8⟩ := Zq (c.fLevels.length : Int) (by omega)
  refine ⟨v3, e3, v4, e4, by omega, v5, e5, by simp; omega, v6, e6, by simp; omega, v8, e8, by simp; omega, ?_⟩
  refine Kc (I := fun k s => ∃ j : Nat, s.2 = (j : Int) ∧ j ≤ c.fLevels.length ∧ k = c.fLevels.length - j ∧ s.1.length ≤ 37 + 1280 * j) ?_ (k := c.fLevels.length) ⟨0, rfl, by omega, by omega, by simp; omega⟩
  rintro k ⟨a, i⟩ ⟨j, hj, hj1, hk, ha⟩ X hX
  simp only at hj ha ⊢
  subst hj
  refine ⟨fun h => ?_, fun _ => by omega⟩
  have hj2 : j < c.fLevels.length := by simp at h; omega
  obtain ⟨x, hx1, hg⟩ := Kl (l := c.fLevels) (n := (j : Int)) (by omega) (by omega)
  obtain ⟨k1, k2⟩ := hx x (List.mem_of_getElem? hg)
  obtain ⟨v17, e17, l17⟩ := Zq (x.length : Int) (by omega)
  refine ⟨x, hx1, v17, e17, by omega, ?_⟩
  refine Kc (I := fun k s => ∃ m : Nat, s.2 = (m : Int) ∧ m ≤ x.length ∧ k = x.length - m ∧ s.1.length ≤ 37 + 1280 * j + 9 + 41 * m) ?_ (k := x.length) ⟨0, rfl, by omega, by omega, by simp; omega⟩
  rintro kk ⟨b, ii⟩ ⟨m, hm, hm1, hkk, hb⟩ X2 hX2
  simp only at hm hb ⊢
  subst hm
  refine ⟨x, hx1, fun h3 => ?_, fun _ => ?_⟩
  · have hm2 : m < x.length := by simp at h3; omega
    obtain ⟨y, hy1, hg2⟩ := Kl (l := x) (n := (m : Int)) (by omega) (by omega)
    have hy := k2 y (List.mem_of_getElem? hg2)
    obtain ⟨v25, e25, l25⟩ := Bn y (by omega)
    refine ⟨x, hx1, y, hy1, v25, e25, by omega, ?_⟩
    rw [Zr (by omega)]
    exact hX2 (x.length - (m + 1)) _ (by omega) ⟨m + 1, by simp, by omega, rfl, by simp; omega⟩
  · rw [Zr (by omega)]
    exact hX (c.fLevels.length - (j + 1)) _ (by omega) ⟨j + 1, by simp, by omega, rfl, by simp only; omega⟩
theorem Gh (s : Qw) (h : Lo s) : ∃ r, Xt s r ∧ r.1.length ≤ 60100 := by
  refine FP (Post := fun r => r.1.length ≤ 60100) ?_
  unfold Vk
  simp only [jn]
  obtain ⟨v2, e2, hk⟩ := UO s h
  refine ⟨v2, e2, fun _ => by simp, fun h2 => ?_⟩
  have hk := hk (by simpa using h2)
  obtain ⟨v10, e10, l10⟩ := Zq s.fParams.fKind (by omega)
  have fin : ∀ p : List Int, p.length ≤ 60000 → ∃ (v10 : (List Int)), Z8 (s.fParams.fKind) v10 ∧ (((v10).length + (p).length) * 1 ≤ 140737488355328) ∧ ∃ (v12 : (List Int) × Int), VG (83) ((v10) ++ (p)) v12 ∧ v12.1.length ≤ 60100 := by
    intro p hp
    obtain ⟨v12, e12, l12⟩ := DJ 83 (v10 ++ p)
    exact ⟨v10, e10, by omega, v12, e12, by simp at l12; omega⟩
  obtain ⟨u1, t1, q1⟩ := CI s.fTally
  obtain ⟨u2, t2, q2⟩ := AH s.fCountMin
  obtain ⟨u3, t3, q3⟩ := BK s.fLogLog
  obtain ⟨u4, t4, q4⟩ := Ej s.fTop
  obtain ⟨u5, t5, q5⟩ := AI s.fFrequent
  obtain ⟨u6, t6, q6⟩ := CJ s.fRanks
  exact ⟨fun _ => ⟨u1, t1, fin _ q1⟩, fun _ => ⟨fun _ => ⟨u2, t2, fin _ q2⟩, fun _ => ⟨fun _ => ⟨u3, t3, fin _ q3⟩, fun _ => ⟨fun _ => ⟨u4, t4, fin _ q4⟩, fun _ => ⟨fun _ => ⟨u5, t5, fin _ q5⟩, fun _ => ⟨u6, t6, fin _ q6⟩⟩⟩⟩⟩⟩
theorem GT (s : Qw) (h : Lo s) : ∃ r, We s r ∧ r.length ≤ 65536 := by
  obtain ⟨v1, e1, l1⟩ := Gh s h
  obtain ⟨v2, e2, l2⟩ := DJ 88 v1.1
  exact ⟨_, ⟨v1, e1, v2.1, ⟨v2, e2, rfl⟩, rfl⟩, by omega⟩
end Go.Proofs.YthlaenafkihjiaaGreat
namespace Go.Proofs.YthlaenafkihjiaaGreat
open Go.RowKit
set_option linter.unusedVariables false
set_option linter.unusedSimpArgs false
theorem XF {x : Qu} (hk : K4 x.fKind) (h : ∀ f, f < 14 → if ZN x.fKind f = true then Ze x f = 0 else A9 (YW x) f = true) : KZ x = 0 := by
  have z : Ui (Ub (YW x).kind (Ze x)) = 0 := by
    refine Lg fun i hi => ?_
    rw [FY] at hi
    rw [MN _ _ hi]
    have := h i hi
    show (if ZN x.fKind i = true then Ze x i else 0) = 0
    split
    · rw [if_pos (by assumption)] at this; exact this
    · rfl
  unfold KZ Eb
  rw [if_neg (by simpa [YW] using hk), z, if_neg (by simp), if_pos]
  rw [List.all_eq_true]
  intro f hf
  have := h f (by simpa using hf)
  show (ZN x.fKind f || A9 (YW x) f) = true
  cases hm : ZN x.fKind f
  · rw [hm] at this; simpa using this
  · rfl
theorem Lr : (ByteArray.empty).toList = [] := Yh
theorem vk1 (n : ByteArray) (p : Qn) (hn : BY n = true) (hp : Wr p.fKind p.fSize p.fDepth p.fSeed = 0) : KZ (Qu.mk (1) (n) (ByteArray.empty) ([] : (List ByteArray)) p ([] : (List Qb)) ([] : (List Int)) (0) (0) (0) (0) (0) (0) (Qz.mk (0) (ByteArray.empty) (0) (0) (0)) ([] : (List Int))) = 0 := by
  refine XF (show K4 1 from ⟨by decide, by decide⟩) fun f hf => ?_
  rcases YJ hf with rfl | rfl | rfl | rfl | rfl | rfl | rfl | rfl | rfl | rfl | rfl | rfl | rfl | rfl <;> simp [ZN, Yd, Ze, A9, YW, Bh, Lr, hn, hp]
theorem vk2 (n : ByteArray) (hn : BY n = true) : KZ (Qu.mk (2) (n) (ByteArray.empty) ([] : (List ByteArray)) (Qn.mk (0) (0) (0) (0)) ([] : (List Qb)) ([] : (List Int)) (0) (0) (0) (0) (0) (0) (Qz.mk (0) (ByteArray.empty) (0) (0) (0)) ([] : (List Int))) = 0 := by
  refine XF (show K4 2 from ⟨by decide, by decide⟩) fun f hf => ?_
  rcases YJ hf with rfl | rfl | rfl | rfl | rfl | rfl | rfl | rfl | rfl | rfl | rfl | rfl | rfl | rfl <;> simp [ZN, Yd, Ze, A9, YW, Bh, Lr, hn]
theorem vk3 (n m : ByteArray) (hn : BY n = true) (hm : BY m = true) : KZ (Qu.mk (3) (n) (m) ([] : (List ByteArray)) (Qn.mk (0) (0) (0) (0)) ([] : (List Qb)) ([] : (List Int)) (0) (0) (0) (0) (0) (0) (Qz.mk (0) (ByteArray.empty) (0) (0) (0)) ([] : (List Int))) = 0 := by
  refine XF (show K4 3 from ⟨by decide, by decide⟩) fun f hf => ?_
  rcases YJ hf with rfl | rfl | rfl | rfl | rfl | rfl | rfl | rfl | rfl | rfl | rfl | rfl | rfl | rfl <;> simp [ZN, Yd, Ze, A9, YW, Bh, Lr, hn, hm]
theorem vk4   : KZ (Qu.mk (4) (ByteArray.empty) (ByteArray.empty) ([] : (List ByteArray)) (Qn.mk (0) (0) (0) (0)) ([] : (List Qb)) ([] : (List Int)) (0) (0) (0) (0) (0) (0) (Qz.mk (0) (ByteArray.empty) (0) (0) (0)) ([] : (List Int))) = 0 := by
  refine XF (show K4 4 from ⟨by decide, by decide⟩) fun f hf => ?_
  rcases YJ hf with rfl | rfl | rfl | rfl | rfl | rfl | rfl | rfl | rfl | rfl | rfl | rfl | rfl | rfl <;> simp [ZN, Yd, Ze, A9, YW, Bh, Lr]
theorem vk5 (n : ByteArray) (q : Qz) (hn : BY n = true) (hq : Ux q.fKind q.fKey q.fCount q.fNum q.fDen = 0) : KZ (Qu.mk (5) (n) (ByteArray.empty) ([] : (List ByteArray)) (Qn.mk (0) (0) (0) (0)) ([] : (List Qb)) ([] : (List Int)) (0) (0) (0) (0) (0) (0) q ([] : (List Int))) = 0 := by
  refine XF (show K4 5 from ⟨by decide, by decide⟩) fun f hf => ?_
  rcases YJ hf with rfl | rfl | rfl | rfl | rfl | rfl | rfl | rfl | rfl | rfl | rfl | rfl | rfl | rfl <;> simp [ZN, Yd, Ze, A9, YW, Bh, Lr, hn, hq]
theorem vk6 (n : ByteArray) (its : List Qb) (cs : List Int) (hn : BY n = true) (hi : Hc its = 0) (hc : AE cs.length 64 = 0) : KZ (Qu.mk (6) (n) (ByteArray.empty) ([] : (List ByteArray)) (Qn.mk (0) (0) (0) (0)) its cs (0) (0) (0) (0) (0) (0) (Qz.mk (0) (ByteArray.empty) (0) (0) (0)) ([] : (List Int))) = 0 := by
  refine XF (show K4 6 from ⟨by decide, by decide⟩) fun f hf => ?_
  rcases YJ hf with rfl | rfl | rfl | rfl | rfl | rfl | rfl | rfl | rfl | rfl | rfl | rfl | rfl | rfl <;> simp [ZN, Yd, Ze, A9, YW, Bh, Lr, hn, hi, hc]
theorem vk7 (n m : ByteArray) (cs : List Int) (hn : BY n = true) (hm : BY m = true) (hc : AE cs.length 64 = 0) : KZ (Qu.mk (7) (n) (m) ([] : (List ByteArray)) (Qn.mk (0) (0) (0) (0)) ([] : (List Qb)) cs (0) (0) (0) (0) (0) (0) (Qz.mk (0) (ByteArray.empty) (0) (0) (0)) ([] : (List Int))) = 0 := by
  refine XF (show K4 7 from ⟨by decide, by decide⟩) fun f hf => ?_
  rcases YJ hf with rfl | rfl | rfl | rfl | rfl | rfl | rfl | rfl | rfl | rfl | rfl | rfl | rfl | rfl <;> simp [ZN, Yd, Ze, A9, YW, Bh, Lr, hn, hm, hc]
theorem vk8 (n m : ByteArray) (cs : List Int) (e s : Int) (hn : BY n = true) (hm : BY m = true) (hc : AE cs.length 64 = 0) (he : XS e 1 1048576 = 0) (hs : XS s 1 1048576 = 0) : KZ (Qu.mk (8) (n) (m) ([] : (List ByteArray)) (Qn.mk (0) (0) (0) (0)) ([] : (List Qb)) cs e s (0) (0) (0) (0) (Qz.mk (0) (ByteArray.empty) (0) (0) (0)) ([] : (List Int))) = 0 := by
  refine XF (show K4 8 from ⟨by decide, by decide⟩) fun f hf => ?_
  rcases YJ hf with rfl | rfl | rfl | rfl | rfl | rfl | rfl | rfl | rfl | rfl | rfl | rfl | rfl | rfl <;> simp [ZN, Yd, Ze, A9, YW, Bh, Lr, hn, hm, hc, he, hs]
theorem vk9 (ns : List ByteArray) (hn : Hb ns = 0) : KZ (Qu.mk (9) (ByteArray.empty) (ByteArray.empty) ns (Qn.mk (0) (0) (0) (0)) ([] : (List Qb)) ([] : (List Int)) (0) (0) (0) (0) (0) (0) (Qz.mk (0) (ByteArray.empty) (0) (0) (0)) ([] : (List Int))) = 0 := by
  refine XF (show K4 9 from ⟨by decide, by decide⟩) fun f hf => ?_
  rcases YJ hf with rfl | rfl | rfl | rfl | rfl | rfl | rfl | rfl | rfl | rfl | rfl | rfl | rfl | rfl <;> simp [ZN, Yd, Ze, A9, YW, Bh, Lr, hn]
theorem vk10 (h i : Int) (q : Qz) (hh : XS h 0 3 = 0) (hi : XS i 0 15 = 0) (hq : Ux q.fKind q.fKey q.fCount q.fNum q.fDen = 0) : KZ (Qu.mk (10) (ByteArray.empty) (ByteArray.empty) ([] : (List ByteArray)) (Qn.mk (0) (0) (0) (0)) ([] : (List Qb)) ([] : (List Int)) (0) (0) h i (0) (0) q ([] : (List Int))) = 0 := by
  refine XF (show K4 10 from ⟨by decide, by decide⟩) fun f hf => ?_
  rcases YJ hf with rfl | rfl | rfl | rfl | rfl | rfl | rfl | rfl | rfl | rfl | rfl | rfl | rfl | rfl <;> simp [ZN, Yd, Ze, A9, YW, Bh, Lr, hh, hi, hq]
theorem vk11 (h : Int) (hh : XS h 0 3 = 0) : KZ (Qu.mk (11) (ByteArray.empty) (ByteArray.empty) ([] : (List ByteArray)) (Qn.mk (0) (0) (0) (0)) ([] : (List Qb)) ([] : (List Int)) (0) (0) h (0) (0) (0) (Qz.mk (0) (ByteArray.empty) (0) (0) (0)) ([] : (List Int))) = 0 := by
  refine XF (show K4 11 from ⟨by decide, by decide⟩) fun f hf => ?_
  rcases YJ hf with rfl | rfl | rfl | rfl | rfl | rfl | rfl | rfl | rfl | rfl | rfl | rfl | rfl | rfl <;> simp [ZN, Yd, Ze, A9, YW, Bh, Lr, hh]
theorem vk12 (h i : Int) (hh : XS h 0 3 = 0) (hi : XS i 0 15 = 0) : KZ (Qu.mk (12) (ByteArray.empty) (ByteArray.empty) ([] : (List ByteArray)) (Qn.mk (0) (0) (0) (0)) ([] : (List Qb)) ([] : (List Int)) (0) (0) h i (0) (0) (Qz.mk (0) (ByteArray.empty) (0) (0) (0)) ([] : (List Int))) = 0 := by
  refine XF (show K4 12 from ⟨by decide, by decide⟩) fun f hf => ?_
  rcases YJ hf with rfl | rfl | rfl | rfl | rfl | rfl | rfl | rfl | rfl | rfl | rfl | rfl | rfl | rfl <;> simp [ZN, Yd, Ze, A9, YW, Bh, Lr, hh, hi]
theorem vk13 (c n : Int) (hc : XS c 0 3 = 0) (hn : XS n 0 32 = 0) : KZ (Qu.mk (13) (ByteArray.empty) (ByteArray.empty) ([] : (List ByteArray)) (Qn.mk (0) (0) (0) (0)) ([] : (List Qb)) ([] : (List Int)) (0) (0) (0) (0) c n (Qz.mk (0) (ByteArray.empty) (0) (0) (0)) ([] : (List Int))) = 0 := by
  refine XF (show K4 13 from ⟨by decide, by decide⟩) fun f hf => ?_
  rcases YJ hf with rfl | rfl | rfl | rfl | rfl | rfl | rfl | rfl | rfl | rfl | rfl | rfl | rfl | rfl <;> simp [ZN, Yd, Ze, A9, YW, Bh, Lr, hc, hn]
theorem vk14 (c : Int) (hc : XS c 0 3 = 0) : KZ (Qu.mk (14) (ByteArray.empty) (ByteArray.empty) ([] : (List ByteArray)) (Qn.mk (0) (0) (0) (0)) ([] : (List Qb)) ([] : (List Int)) (0) (0) (0) (0) c (0) (Qz.mk (0) (ByteArray.empty) (0) (0) (0)) ([] : (List Int))) = 0 := by
  refine XF (show K4 14 from ⟨by decide, by decide⟩) fun f hf => ?_
  rcases YJ hf with rfl | rfl | rfl | rfl | rfl | rfl | rfl | rfl | rfl | rfl | rfl | rfl | rfl | rfl <;> simp [ZN, Yd, Ze, A9, YW, Bh, Lr, hc]
theorem vk15 (h i : Int) (hh : XS h 0 3 = 0) (hi : XS i 0 15 = 0) : KZ (Qu.mk (15) (ByteArray.empty) (ByteArray.empty) ([] : (List ByteArray)) (Qn.mk (0) (0) (0) (0)) ([] : (List Qb)) ([] : (List Int)) (0) (0) h i (0) (0) (Qz.mk (0) (ByteArray.empty) (0) (0) (0)) ([] : (List Int))) = 0 := by
  refine XF (show K4 15 from ⟨by decide, by decide⟩) fun f hf => ?_
  rcases YJ hf with rfl | rfl | rfl | rfl | rfl | rfl | rfl | rfl | rfl | rfl | rfl | rfl | rfl | rfl <;> simp [ZN, Yd, Ze, A9, YW, Bh, Lr, hh, hi]
theorem vk16 (n : ByteArray) (d : List Int) (hn : BY n = true) (hd : AE d.length 65536 = 0) : KZ (Qu.mk (16) (n) (ByteArray.empty) ([] : (List ByteArray)) (Qn.mk (0) (0) (0) (0)) ([] : (List Qb)) ([] : (List Int)) (0) (0) (0) (0) (0) (0) (Qz.mk (0) (ByteArray.empty) (0) (0) (0)) d) = 0 := by
  refine XF (show K4 16 from ⟨by decide, by decide⟩) fun f hf => ?_
  rcases YJ hf with rfl | rfl | rfl | rfl | rfl | rfl | rfl | rfl | rfl | rfl | rfl | rfl | rfl | rfl <;> simp [ZN, Yd, Ze, A9, YW, Bh, Lr, hn, hd]
theorem vk17   : KZ (Qu.mk (17) (ByteArray.empty) (ByteArray.empty) ([] : (List ByteArray)) (Qn.mk (0) (0) (0) (0)) ([] : (List Qb)) ([] : (List Int)) (0) (0) (0) (0) (0) (0) (Qz.mk (0) (ByteArray.empty) (0) (0) (0)) ([] : (List Int))) = 0 := by
  refine XF (show K4 17 from ⟨by decide, by decide⟩) fun f hf => ?_
  rcases YJ hf with rfl | rfl | rfl | rfl | rfl | rfl | rfl | rfl | rfl | rfl | rfl | rfl | rfl | rfl <;> simp [ZN, Yd, Ze, A9, YW, Bh, Lr]
theorem sho0 {n : Nat} {m : Int} (h : (n : Int) ≤ m) : AE n m = 0 := by unfold AE; rw [if_neg (by omega)]
theorem F4 {n a b : Int} (h : a ≤ n ∧ n ≤ b) : XS n a b = 0 := by unfold XS; rw [if_pos h]
theorem il0 {l : List Qb} (h : 1 ≤ l.length ∧ l.length ≤ 64) (h2 : ∀ x ∈ l, Fa x = 0) : Hc l = 0 := by
  unfold Hc; rw [if_neg (by simpa using h)]
  exact G6 fun j x hx => h2 x (List.mem_of_getElem? hx)
theorem nl0 {l : List ByteArray} (h : 1 ≤ l.length ∧ l.length ≤ 16) (h2 : ∀ x ∈ l, BY x = true) : Hb l = 0 := by
  unfold Hb; rw [if_neg (by simpa using h)]
  exact G6 fun j x hx => by unfold Bh; rw [if_pos (h2 x (List.mem_of_getElem? hx))]
def EH (m : Nat) (x : Qu) : Prop := x.fNames.length ≤ m ∧ x.fItems.length ≤ m ∧ x.fCoins.length ≤ m ∧ x.fData.length ≤ m ∧ 0 ≤ x.fParams.fSeed ∧ x.fParams.fSeed ≤ 18446744073709551615
theorem NA (l : List Int) (i : Int) (hl : l.length ≤ 4611686018427387904) (h0 : 0 ≤ i) (h1 : i ≤ 900) (Q : Qu → Prop) (hQ : ∀ x, KZ x = 0 → EH 65536 x → Q x) : W5 l i Q := by
  unfold W5
  obtain ⟨v1, e1, a1, b1⟩ := WL l i hl h0 (by omega)
  obtain ⟨v2, e2, a2, b2⟩ := WL l (IntKind.i64.wrap (i + 7)) hl (by rw [Zr (by omega)]; omega) (by rw [Zr (by omega)]; omega)
  refine ⟨v1, e1, v2, e2, ?_⟩
  simp only [jn, bA1, bA3, bA7]
  rw [KC a1]
  have hk0 : 0 ≤ v1 % 20 ∧ v1 % 20 ≤ 19 := by omega
  obtain ⟨s5, es5, hs5⟩ := Uk (QE .i64 v1 5)
  obtain ⟨s6, es6, hs6⟩ := Uk (QE .i64 v1 6)
  obtain ⟨s7, es7, hs7⟩ := Uk (QE .i64 v1 7)
  obtain ⟨s8, es8, hs8⟩ := Uk (QE .i64 v1 8)
  obtain ⟨p, ep, gp⟩ := C0 v2
  have hp := Nz gp
  obtain ⟨q, eq, hq⟩ := Dz v2
  obtain ⟨c, ec, hc⟩ := DD v2
  have hc0 : AE c.length 64 = 0 := sho0 (by omega)
  have i5 : i.tmod 5 = i % 5 := KC h0
  have i7 : i.tmod 7 = i % 7 := KC h0
  have m5 : 0 ≤ XX (l.length : Int) (i % 5) ∧ XX (l.length : Int) (i % 5) ≤ l.length := by unfold XX; split <;> omega
  have m7 : 0 ≤ XX (l.length : Int) (i % 7) ∧ XX (l.length : Int) (i % 7) ≤ l.length := by unfold XX; split <;> omega
  rw [i5, i7]
  generalize v1 % 20 = k at hk0 ⊢
  generalize QE .i64 v1 5 = t5 at *
  generalize QE .i64 v1 6 = t6 at *
  generalize QE .i64 v1 7 = t7 at *
  generalize QE .i64 v1 8 = t8 at *
  generalize QE .i64 v1 10 = t10
  generalize QE .i64 v1 11 = t11
  generalize QE .i64 v2 3 = u3
  have hks : k = 0 ∨ k = 1 ∨ k = 2 ∨ k = 3 ∨ k = 4 ∨ k = 5 ∨ k = 6 ∨ k = 7 ∨ k = 8 ∨ k = 9 ∨ k = 10 ∨ k = 11 ∨ k = 12 ∨ k = 13 ∨ k = 14 ∨ k = 15 ∨ k = 16 ∨ k = 17 ∨ k = 18 ∨ k = 19 := by omega
  have z0 : EH 65536 (Qu.mk 17 .empty .empty [] ⟨0, 0, 0, 0⟩ [] [] 0 0 0 0 0 0 ⟨0, .empty, 0, 0, 0⟩ []) := by simp [EH]
  have c1 : Q (Qu.mk 1 s5 .empty [] p [] [] 0 0 0 0 0 0 ⟨0, .empty, 0, 0, 0⟩ []) := hQ _ (vk1 _ _ hs5 hp) (by have hps : 0 ≤ p.fSeed ∧ p.fSeed ≤ 3 := (by unfold GK at gp; omega); simp [EH]; omega)
  have c6 : ∃ v15, VF (List.drop (Int.toNat (XX (l.length : Int) (i % 5))) l) (IntKind.i64.wrap (1 + t7 % 8)) v15 ∧ Q (Qu.mk 6 s5 .empty [] ⟨0, 0, 0, 0⟩ v15 c 0 0 0 0 0 0 ⟨0, .empty, 0, 0, 0⟩ []) := by
    rw [Zr (by omega)]
    obtain ⟨v15, e15, l15, o15⟩ := DC (List.drop (Int.toNat (XX (l.length : Int) (i % 5))) l) (1 + t7 % 8) (by simp; omega) (by omega) (by omega)
    exact ⟨v15, e15, hQ _ (vk6 _ _ _ hs5 (il0 (by omega) o15) hc0) (by simp [EH]; omega)⟩
  obtain ⟨v15, e15, c6⟩ := c6
  have c9 : (0 ≤ IntKind.i64.wrap (IntKind.i64.wrap (1 + t10 % 2) + t11 % 2) ∧ IntKind.i64.wrap (IntKind.i64.wrap (1 + t10 % 2) + t11 % 2) ≤ 3) ∧ Q (Qu.mk 9 .empty .empty (List.take (Int.toNat (IntKind.i64.wrap (IntKind.i64.wrap (1 + t10 % 2) + t11 % 2))) [s5, s7, s8]) ⟨0, 0, 0, 0⟩ [] [] 0 0 0 0 0 0 ⟨0, .empty, 0, 0, 0⟩ []) := by
    have w : IntKind.i64.wrap (IntKind.i64.wrap (1 + t10 % 2) + t11 % 2) = 1 + t10 % 2 + t11 % 2 := by rw [Zr (n := 1 + t10 % 2) (by omega), Zr (by omega)]
    rw [w]
    refine ⟨by omega, hQ _ (vk9 _ (nl0 (by simp; omega) fun x hx => ?_)) (by simp [EH]; omega)⟩
    have := List.mem_of_mem_take hx
    simp at this
    rcases this with rfl | rfl | rfl <;> assumption
  obtain ⟨sk, esk, zsk⟩ := GR (List.drop (Int.toNat (XX (l.length : Int) (i % 7))) l) (by simp; omega)
  obtain ⟨ex, eex, lex⟩ := GT sk zsk
  rcases hks with rfl | rfl | rfl | rfl | rfl | rfl | rfl | rfl | rfl | rfl | rfl | rfl | rfl | rfl | rfl | rfl | rfl | rfl | rfl | rfl
  · exact ⟨fun _ => ⟨fun _ => ⟨s5, es5, p, ep, c1⟩, fun h => by simp at h⟩, fun h => by simp at h⟩
  · exact ⟨fun h => by simp at h, fun _ => ⟨fun _ => ⟨s5, es5, p, ep, c1⟩, fun h => by simp at h⟩⟩
  · exact ⟨fun h => by simp at h, fun _ => ⟨fun h => by simp at h, fun _ => ⟨fun _ => ⟨s5, es5, hQ _ (vk2 _ hs5) (by simp [EH])⟩, fun h => by simp at h⟩⟩⟩
  · exact ⟨fun h => by simp at h, fun _ => ⟨fun h => by simp at h, fun _ => ⟨fun h => by simp at h, fun _ => ⟨fun _ => ⟨s5, es5, s7, es7, hQ _ (vk3 _ _ hs5 hs7) (by simp [EH])⟩, fun h => by simp at h⟩⟩⟩⟩
  · exact ⟨fun h => by simp at h, fun _ => ⟨fun h => by simp at h, fun _ => ⟨fun h => by simp at h, fun _ => ⟨fun h => by simp at h, fun _ => ⟨fun _ => hQ _ vk4 (by simp [EH]), fun h => by simp at h⟩⟩⟩⟩⟩
  · exact ⟨fun h => by simp at h, fun _ => ⟨fun h => by simp at h, fun _ => ⟨fun h => by simp at h, fun _ => ⟨fun h => by simp at h, fun _ => ⟨fun h => by simp at h, fun _ => ⟨fun _ => ⟨s5, es5, q, eq, hQ _ (vk5 _ _ hs5 hq) (by simp [EH])⟩, fun h => by simp at h⟩⟩⟩⟩⟩⟩
  · exact ⟨fun h => by simp at h, fun _ => ⟨fun h => by simp at h, fun _ => ⟨fun h => by simp at h, fun _ => ⟨fun h => by simp at h, fun _ => ⟨fun h => by simp at h, fun _ => ⟨fun h => by simp at h, fun _ => ⟨fun _ => ⟨fun _ => ⟨s5, es5, m5, v15, e15, c, ec, c6⟩, fun h => by simp at h⟩, fun h => by simp at h⟩⟩⟩⟩⟩⟩⟩
  · exact ⟨fun h => by simp at h, fun _ => ⟨fun h => by simp at h, fun _ => ⟨fun h => by simp at h, fun _ => ⟨fun h => by simp at h, fun _ => ⟨fun h => by simp at h, fun _ => ⟨fun h => by simp at h, fun _ => ⟨fun h => by simp at h, fun _ => ⟨fun _ => ⟨fun _ => ⟨s5, es5, m5, v15, e15, c, ec, c6⟩, fun h => by simp at h⟩, fun h => by simp at h⟩⟩⟩⟩⟩⟩⟩⟩
  · exact ⟨fun h => by simp at h, fun _ => ⟨fun h => by simp at h, fun _ => ⟨fun h => by simp at h, fun _ => ⟨fun h => by simp at h, fun _ => ⟨fun h => by simp at h, fun _ => ⟨fun h => by simp at h, fun _ => ⟨fun h => by simp at h, fun _ => ⟨fun h => by simp at h, fun _ => ⟨fun _ => ⟨s5, es5, m5, v15, e15, c, ec, c6⟩, fun h => by simp at h⟩⟩⟩⟩⟩⟩⟩⟩⟩
  · exact ⟨fun h => by simp at h, fun _ => ⟨fun h => by simp at h, fun _ => ⟨fun h => by simp at h, fun _ => ⟨fun h => by simp at h, fun _ => ⟨fun h => by simp at h, fun _ => ⟨fun h => by simp at h, fun _ => ⟨fun h => by simp at h, fun _ => ⟨fun h => by simp at h, fun _ => ⟨fun h => by simp at h, fun _ => ⟨fun _ => ⟨s5, es5, s7, es7, c, ec, hQ _ (vk7 _ _ _ hs5 hs7 hc0) (by simp [EH]; omega)⟩, fun h => by simp at h⟩⟩⟩⟩⟩⟩⟩⟩⟩⟩
  · exact ⟨fun h => by simp at h, fun _ => ⟨fun h => by simp at h, fun _ => ⟨fun h => by simp at h, fun _ => ⟨fun h => by simp at h, fun _ => ⟨fun h => by simp at h, fun _ => ⟨fun h => by simp at h, fun _ => ⟨fun h => by simp at h, fun _ => ⟨fun h => by simp at h, fun _ => ⟨fun h => by simp at h, fun _ => ⟨fun h => by simp at h, fun _ => ⟨fun _ => ⟨s5, es5, s7, es7, c, ec, hQ _ (vk8 _ _ _ _ _ hs5 hs7 hc0 (F4 (by rw [Zr (by omega)]; omega)) (F4 (by rw [Zr (by omega)]; omega))) (by simp [EH]; omega)⟩, fun h => by simp at h⟩⟩⟩⟩⟩⟩⟩⟩⟩⟩⟩
  · exact ⟨fun h => by simp at h, fun _ => ⟨fun h => by simp at h, fun _ => ⟨fun h => by simp at h, fun _ => ⟨fun h => by simp at h, fun _ => ⟨fun h => by simp at h, fun _ => ⟨fun h => by simp at h, fun _ => ⟨fun h => by simp at h, fun _ => ⟨fun h => by simp at h, fun _ => ⟨fun h => by simp at h, fun _ => ⟨fun h => by simp at h, fun _ => ⟨fun h => by simp at h, fun _ => ⟨fun _ => ⟨fun _ => ⟨s5, es5, s7, es7, s8, es8, c9.1, c9.2⟩, fun h => by simp at h⟩, fun h => by simp at h⟩⟩⟩⟩⟩⟩⟩⟩⟩⟩⟩⟩
  · exact ⟨fun h => by simp at h, fun _ => ⟨fun h => by simp at h, fun _ => ⟨fun h => by simp at h, fun _ => ⟨fun h => by simp at h, fun _ => ⟨fun h => by simp at h, fun _ => ⟨fun h => by simp at h, fun _ => ⟨fun h => by simp at h, fun _ => ⟨fun h => by simp at h, fun _ => ⟨fun h => by simp at h, fun _ => ⟨fun h => by simp at h, fun _ => ⟨fun h => by simp at h, fun _ => ⟨fun h => by simp at h, fun _ => ⟨fun _ => ⟨s5, es5, s7, es7, s8, es8, c9.1, c9.2⟩, fun h => by simp at h⟩⟩⟩⟩⟩⟩⟩⟩⟩⟩⟩⟩⟩
  · exact ⟨fun h => by simp at h, fun _ => ⟨fun h => by simp at h, fun _ => ⟨fun h => by simp at h, fun _ => ⟨fun h => by simp at h, fun _ => ⟨fun h => by simp at h, fun _ => ⟨fun h => by simp at h, fun _ => ⟨fun h => by simp at h, fun _ => ⟨fun h => by simp at h, fun _ => ⟨fun h => by simp at h, fun _ => ⟨fun h => by simp at h, fun _ => ⟨fun h => by simp at h, fun _ => ⟨fun h => by simp at h, fun _ => ⟨fun h => by simp at h, fun _ => ⟨fun _ => ⟨q, eq, hQ _ (vk10 _ _ _ (F4 (by omega)) (F4 (by omega)) hq) (by simp [EH])⟩, fun h => by simp at h⟩⟩⟩⟩⟩⟩⟩⟩⟩⟩⟩⟩⟩⟩
  · exact ⟨fun h => by simp at h, fun _ => ⟨fun h => by simp at h, fun _ => ⟨fun h => by simp at h, fun _ => ⟨fun h => by simp at h, fun _ => ⟨fun h => by simp at h, fun _ => ⟨fun h => by simp at h, fun _ => ⟨fun h => by simp at h, fun _ => ⟨fun h => by simp at h, fun _ => ⟨fun h => by simp at h, fun _ => ⟨fun h => by simp at h, fun _ => ⟨fun h => by simp at h, fun _ => ⟨fun h => by simp at h, fun _ => ⟨fun h => by simp at h, fun _ => ⟨fun h => by simp at h, fun _ => ⟨fun _ => hQ _ (vk11 _ (F4 (by omega))) (by simp [EH]), fun h => by simp at h⟩⟩⟩⟩⟩⟩⟩⟩⟩⟩⟩⟩⟩⟩⟩
  · exact ⟨fun h => by simp at h, fun _ => ⟨fun h => by simp at h, fun _ => ⟨fun h => by simp at h, fun _ => ⟨fun h => by simp at h, fun _ => ⟨fun h => by simp at h, fun _ => ⟨fun h => by simp at h, fun _ => ⟨fun h => by simp at h, fun _ => ⟨fun h => by simp at h, fun _ => ⟨fun h => by simp at h, fun _ => ⟨fun h => by simp at h, fun _ => ⟨fun h => by simp at h, fun _ => ⟨fun h => by simp at h, fun _ => ⟨fun h => by simp at h, fun _ => ⟨fun h => by simp at h, fun _ => ⟨fun h => by simp at h, fun _ => ⟨fun _ => hQ _ (vk12 _ _ (F4 (by omega)) (F4 (by omega))) (by simp [EH]), fun h => by simp at h⟩⟩⟩⟩⟩⟩⟩⟩⟩⟩⟩⟩⟩⟩⟩⟩
  · exact ⟨fun h => by simp at h, fun _ => ⟨fun h => by simp at h, fun _ => ⟨fun h => by simp at h, fun _ => ⟨fun h => by simp at h, fun _ => ⟨fun h => by simp at h, fun _ => ⟨fun h => by simp at h, fun _ => ⟨fun h => by simp at h, fun _ => ⟨fun h => by simp at h, fun _ => ⟨fun h => by simp at h, fun _ => ⟨fun h => by simp at h, fun _ => ⟨fun h => by simp at h, fun _ => ⟨fun h => by simp at h, fun _ => ⟨fun h => by simp at h, fun _ => ⟨fun h => by simp at h, fun _ => ⟨fun h => by simp at h, fun _ => ⟨fun h => by simp at h, fun _ => ⟨fun _ => hQ _ (vk13 _ _ (F4 (by omega)) (F4 (by omega))) (by simp [EH]), fun h => by simp at h⟩⟩⟩⟩⟩⟩⟩⟩⟩⟩⟩⟩⟩⟩⟩⟩⟩
  · exact ⟨fun h => by simp at h, fun _ => ⟨fun h => by simp at h, fun _ => ⟨fun h => by simp at h, fun _ => ⟨fun h => by simp at h, fun _ => ⟨fun h => by simp at h, fun _ => ⟨fun h => by simp at h, fun _ => ⟨fun h => by simp at h, fun _ => ⟨fun h => by simp at h, fun _ => ⟨fun h => by simp at h, fun _ => ⟨fun h => by simp at h, fun _ => ⟨fun h => by simp at h, fun _ => ⟨fun h => by simp at h, fun _ => ⟨fun h => by simp at h, fun _ => ⟨fun h => by simp at h, fun _ => ⟨fun h => by simp at h, fun _ => ⟨fun h => by simp at h, fun _ => ⟨fun h => by simp at h, fun _ => ⟨fun _ => hQ _ (vk14 _ (F4 (by omega))) (by simp [EH]), fun h => by simp at h⟩⟩⟩⟩⟩⟩⟩⟩⟩⟩⟩⟩⟩⟩⟩⟩⟩⟩
  · exact ⟨fun h => by simp at h, fun _ => ⟨fun h => by simp at h, fun _ => ⟨fun h => by simp at h, fun _ => ⟨fun h => by simp at h, fun _ => ⟨fun h => by simp at h, fun _ => ⟨fun h => by simp at h, fun _ => ⟨fun h => by simp at h, fun _ => ⟨fun h => by simp at h, fun _ => ⟨fun h => by simp at h, fun _ => ⟨fun h => by simp at h, fun _ => ⟨fun h => by simp at h, fun _ => ⟨fun h => by simp at h, fun _ => ⟨fun h => by simp at h, fun _ => ⟨fun h => by simp at h, fun _ => ⟨fun h => by simp at h, fun _ => ⟨fun h => by simp at h, fun _ => ⟨fun h => by simp at h, fun _ => ⟨fun h => by simp at h, fun _ => ⟨fun _ => ⟨fun _ => hQ _ (vk15 _ _ (F4 (by omega)) (F4 (by omega))) (by simp [EH]), fun _ => ⟨s6, es6, m7, sk, esk, ex, eex, hQ _ (vk16 _ _ hs6 (sho0 (by omega))) (by simp [EH]; omega)⟩⟩, fun h => by simp at h⟩⟩⟩⟩⟩⟩⟩⟩⟩⟩⟩⟩⟩⟩⟩⟩⟩⟩⟩
  · exact ⟨fun h => by simp at h, fun _ => ⟨fun h => by simp at h, fun _ => ⟨fun h => by simp at h, fun _ => ⟨fun h => by simp at h, fun _ => ⟨fun h => by simp at h, fun _ => ⟨fun h => by simp at h, fun _ => ⟨fun h => by simp at h, fun _ => ⟨fun h => by simp at h, fun _ => ⟨fun h => by simp at h, fun _ => ⟨fun h => by simp at h, fun _ => ⟨fun h => by simp at h, fun _ => ⟨fun h => by simp at h, fun _ => ⟨fun h => by simp at h, fun _ => ⟨fun h => by simp at h, fun _ => ⟨fun h => by simp at h, fun _ => ⟨fun h => by simp at h, fun _ => ⟨fun h => by simp at h, fun _ => ⟨fun h => by simp at h, fun _ => ⟨fun h => by simp at h, fun _ => hQ _ vk17 z0⟩⟩⟩⟩⟩⟩⟩⟩⟩⟩⟩⟩⟩⟩⟩⟩⟩⟩⟩
theorem NB (l : List Int) (i : Int) (hl : l.length ≤ 4611686018427387904) (h0 : 0 ≤ i) (h1 : i ≤ 900) : ∃ x, UH l i x ∧ KZ x = 0 ∧ EH 65536 x :=
  Nq (Post := fun x => KZ x = 0 ∧ EH 65536 x) (NA l i hl h0 h1 _ fun x h1 h2 => ⟨h1, h2⟩)
end Go.Proofs.YthlaenafkihjiaaGreat
namespace Go.Proofs.YthlaenafkihjiaaGreat
open Go.RowKit
set_option linter.unusedVariables false
set_option linter.unusedSimpArgs false
theorem F5 (a : Int) (ha : 0 ≤ a) : ∃ q, VT a q := by
  obtain ⟨v, hv, _⟩ := EV (Post := fun _ => True) (a0 := a) (by
    unfold JU
    simp only [jn]
    obtain ⟨v1, e1, _⟩ := Dz a
    have h4 : 0 ≤ QE .i64 a 4 := by
      show 0 ≤ a.fdiv (2 ^ 4)
      rw [Int.fdiv_eq_ediv_of_nonneg a (by decide)]
      exact Int.ediv_nonneg ha (by decide)
    have h3 : 0 ≤ (QE .i64 a 4).tmod 3 ∧ (QE .i64 a 4).tmod 3 < 3 := by rw [KC h4]; omega
    obtain ⟨x, hx, _⟩ := Kl (l := ([((⟨#[]⟩ : ByteArray)), ((⟨#[120]⟩ : ByteArray)), ((⟨#[48, 49, 50, 51, 52, 53, 54, 55, 56, 57, 48, 49, 50, 51, 52, 53, 54, 55, 56, 57, 48, 49, 50, 51, 52, 53, 54, 55, 56, 57, 48, 49, 50, 51]⟩ : ByteArray))])) h3.1 (by simp; omega)
    exact ⟨v1, e1, fun _ => trivial, fun _ => ⟨fun _ => ⟨x, hx, trivial⟩, fun _ => ⟨fun _ => trivial, fun _ => ⟨fun _ => trivial, fun _ => ⟨fun _ => trivial, fun _ => trivial⟩⟩⟩⟩⟩)
  exact ⟨v, hv⟩
theorem Ij (x : Qu) (a : Int) (m : Nat) (hm : m ≤ 1000000) (hx : EH m x) (Q : Qu → Prop) (hQ : ∀ y, EH (m + 70000) y → Q y) : VK x a Q := by
  obtain ⟨h1, h2, h3, h4, h5, h6⟩ := hx
  unfold VK
  simp only [jn, G7, bA3]
  have ht : 0 ≤ QE .i64 a 5 % 16777216 ∧ QE .i64 a 5 % 16777216 < 16777216 := by omega
  generalize QE .i64 a 5 % 16777216 = t at ht ⊢
  have t3 : t.tmod 3 = t % 3 := KC ht.1
  have t20 : t.tmod 20 = t % 20 := KC ht.1
  have t2 : t.tmod 2 = t % 2 := KC ht.1
  have t9 : t.tmod 9 = t % 9 := KC ht.1
  have w1 : IntKind.i64.wrap (64 + t % 2) = 64 + t % 2 := Zr (by omega)
  have w2 : IntKind.i64.wrap (60 + t % 9) = 60 + t % 9 := Zr (by omega)
  have w3 : IntKind.i64.wrap (65536 + t % 2) = 65536 + t % 2 := Zr (by omega)
  rw [t3, t20, t2, t9, w1, w2, w3]
  obtain ⟨s1, e1, _⟩ := Kl (l := ([((⟨#[]⟩ : ByteArray)), ((⟨#[65]⟩ : ByteArray)), ((⟨#[97, 45, 49, 46, 120]⟩ : ByteArray)), ((⟨#[48, 49, 50, 51, 52, 53, 54, 55, 56, 57, 48, 49, 50, 51, 52, 53, 54]⟩ : ByteArray))])) (n := t % 4) (by omega) (by simp; omega)
  obtain ⟨s2, e2, _⟩ := Kl (l := ([((⟨#[]⟩ : ByteArray)), ((⟨#[98]⟩ : ByteArray)), ((⟨#[98, 32, 98]⟩ : ByteArray)), ((⟨#[99]⟩ : ByteArray))])) (n := t % 4) (by omega) (by simp; omega)
  obtain ⟨s3, e3, _⟩ := Kl (l := ([((⟨#[]⟩ : ByteArray)), ((⟨#[97]⟩ : ByteArray)), ((⟨#[63]⟩ : ByteArray))])) (n := t % 3) (by omega) (by simp; omega)
  obtain ⟨s6, e6, _⟩ := CB t
  obtain ⟨s9, e9, _⟩ := Kl (l := ([(0), (1), (1048576), (1048577)] : List Int)) (n := t % 4) (by omega) (by simp; omega)
  obtain ⟨q, eq⟩ := F5 t ht.1
  have z0 : x.fNames.length ≤ m + 70000 ∧ x.fItems.length ≤ m + 70000 ∧ x.fCoins.length ≤ m + 70000 ∧ x.fData.length ≤ m + 70000 := by omega
  obtain ⟨z1, z2, z3, z4⟩ := z0
  refine ⟨fun _ => hQ _ ⟨z1, z2, z3, z4, h5, h6⟩, fun _ => ⟨fun _ => ⟨s1, e1, hQ _ ⟨z1, z2, z3, z4, h5, h6⟩⟩, fun _ => ⟨fun _ => ⟨s2, e2, hQ _ ⟨z1, z2, z3, z4, h5, h6⟩⟩, fun _ => ⟨fun _ => ⟨by omega, s3, e3, by simp; omega, hQ _ ⟨by simp; omega, z2, z3, z4, h5, h6⟩⟩, fun _ => ⟨fun _ => ⟨⟨by omega, by omega⟩, hQ _ ⟨by simp; omega, z2, z3, z4, h5, h6⟩⟩, fun _ => ⟨fun _ => hQ _ ⟨z1, z2, z3, z4, by simp, by simp⟩, fun _ => ⟨fun _ => ⟨by omega, s6, e6, by simp; omega, hQ _ ⟨z1, by simp; omega, z3, z4, h5, h6⟩⟩, fun _ => ⟨fun _ => ⟨⟨by omega, by omega⟩, hQ _ ⟨z1, by simp; omega, z3, z4, h5, h6⟩⟩, fun _ => ⟨fun _ => ⟨⟨by omega, by omega⟩, hQ _ ⟨z1, z2, by simp; omega, z4, h5, h6⟩⟩, fun _ => ⟨fun _ => ⟨s9, e9, hQ _ ⟨z1, z2, z3, z4, h5, h6⟩⟩, fun _ => ⟨fun _ => ⟨s9, e9, hQ _ ⟨z1, z2, z3, z4, h5, h6⟩⟩, fun _ => ⟨fun _ => hQ _ ⟨z1, z2, z3, z4, h5, h6⟩, fun _ => ⟨fun _ => hQ _ ⟨z1, z2, z3, z4, h5, h6⟩, fun _ => ⟨fun _ => hQ _ ⟨z1, z2, z3, z4, h5, h6⟩, fun _ => ⟨fun _ => hQ _ ⟨z1, z2, z3, z4, h5, h6⟩, fun _ => ⟨fun _ => ⟨q, eq, hQ _ ⟨z1, z2, z3, z4, h5, h6⟩⟩, fun _ => ⟨fun _ => ⟨⟨by omega, by omega⟩, hQ _ ⟨z1, z2, z3, by simp; omega, h5, h6⟩⟩, fun _ => ⟨fun _ => hQ _ ⟨z1, z2, z3, by simp, h5, h6⟩, fun _ => hQ _ ⟨z1, z2, z3, z4, h5, h6⟩⟩⟩⟩⟩⟩⟩⟩⟩⟩⟩⟩⟩⟩⟩⟩⟩⟩⟩
theorem DK (x : Qu) (a : Int) (m : Nat) (hm : m ≤ 1000000) (hx : EH m x) : ∃ y, XQ x a y ∧ EH (m + 70000) y :=
  HW (Post := fun y => EH (m + 70000) y) (Ij x a m hm hx _ fun y h => h)
end Go.Proofs.YthlaenafkihjiaaGreat
namespace Go.Proofs.YthlaenafkihjiaaGreat
open Go.RowKit
set_option linter.unusedVariables false
set_option linter.unusedSimpArgs false
theorem U9 (l : List Int) (n m : Int) (hl : l.length ≤ 4611686018427387904) : KB l n m true := by
  unfold KB JI
  obtain ⟨v1, e1, z1, s1⟩ := NB l 0 hl (by omega) (by omega)
  obtain ⟨v2, e2, s2⟩ := DK v1 n 65536 (by omega) s1
  obtain ⟨v3, e3, s3⟩ := DK v2 m (65536 + 70000) (by omega) s2
  exact ⟨v1, e1, v2, e2, v3, e3, 0, z1 ▸ Jf v1, KZ v2, fun _ => Jf v2, KZ v2, fun _ => UN v2, KZ v3, fun _ => Jf v3, KZ v3, fun _ => UN v3, true, fun _ => PF, by simp⟩
end Go.Proofs.YthlaenafkihjiaaGreat
namespace Go.Proofs.YthlaenafkihjiaaGreat
open Go.RowKit
set_option linter.unusedVariables false
set_option linter.unusedSimpArgs false
theorem OperationValidates_walk (v0 : Value) (l0 : List Int) (a1 a2 : Int) (w : World) (h0 : Ints .i64 w v0 l0) (s0 : l0.length * Tryz.prog.bytesOf 3 ≤ 140737488351232) (h1 : (Lit.int .i64 a1).wf = true) (h2 : (Lit.int .i64 a2).wf = true) :
    Calls Tryz.prog 3 #[v0, .int .i64 a1, .int .i64 a2] w fun e w' => e = .returned (.bool true) ∧ Below w.heap.size w w' := by
  have hl : l0.length ≤ 4611686018427387904 := by
    have e : Tryz.prog.bytesOf 3 = 8 := by kernel_rfl
    rw [e] at s0; omega
  refine (Uf (A := fun x => x < w.heap.size) (vs := #[v0, .int .i64 a1, .int .i64 a2]) (g := 0) (q := 0) (U3 l0 a1 a2 true (U9 l0 a1 a2 hl)) rfl (fun x h => h) ⟨LE h0 (fun _ _ _ g _ _ hg => hg), .v _ h1, .v _ h2, trivial⟩).mono ?_
  rintro e w' ⟨rfl, hg⟩
  exact ⟨rfl, Fe hg⟩
end Go.Proofs.YthlaenafkihjiaaGreat
