/- Parts of the proof, laid together. No condition. -/
import Derived.Test.YtikagchjeogchaaGreatKB6
set_option linter.unusedVariables false
set_option linter.unusedSimpArgs false
set_option maxRecDepth 100000
set_option maxHeartbeats 4000000
namespace Go.Proofs.YtikagchjeogchaaGreat
open Go.RowKit
theorem Q5q [U8] : I4 := Zu (WE.eq_1 _ _)
theorem RR [U8] : Ei := Zu (Xo.eq_1 _ _)
theorem Tp [YI] : FB := Zu (Y2.eq_1 _ _)
theorem Tq : FC := Zu (JW.eq_1 _)
theorem Q5r : Cq := Zu (Xy.eq_1 _ _)
theorem IA : Yk := Zu (ZQ.eq_1 _)
theorem Tr [Jr] [XQ] [Cq] [EK] : FE := Zu (Ya.eq_1 _ _ _)
theorem RU [Yp] [Yq] : Xr := Zu (K7.eq_1 _ _ _)
theorem Q5s [Yp] [Yq] [Cw] [I7] : Cy := Zu (Xx.eq_1 _ _ _)
theorem Qam [Yp] [GK] [FB] : E3 := Zu (YE.eq_1 _ _)
theorem NB [ZH] [KU] [YJ] [DO] : KH := Zu (Zl.eq_1 _)
theorem Ts [WU] : FJ := Zu (XZ.eq_1 _ _)
theorem Q5t [AE] [CC] [FJ] [AF] [Dg] : Ia := Zu (Wu.eq_1 _ _)
theorem Qan [FK] : Gc := Zu (Wo.eq_1 _ _)
theorem RX [ZH] [KU] [EN] [Gc] : Em := Zu (Xj.eq_1 _ _ _)
theorem Qao [DO] : BL := Zu (Kc.eq_1 _)
theorem IB [ZE] [ZT] [WV] [YJ] [EP] [EQ] : Ut := Zu (Kg.eq_1 _ _)
theorem Q1i : GT := Zu (YQ.eq_1 _)
theorem Q1j [x_ref6_sorted : GT] [x_ref6_sum : WV] [x_ref1_Bit : Nv] : DR := fun {a0} {a1} {a2} {a3} {a4} => ⟨fun hp => ex_ (by
 obtain ⟨⟨h0, hk⟩, ha4, ha3⟩ := hp
 rw [XG.eq_1]
 refine jmp (fun p => p.2.2.length ≤ 2000 ∧ ∀ x ∈ p.2.2, zKs x) ?_ ?_
 ·rintro ⟨p1, p2, p3⟩ ⟨h1, h2⟩
  simp only at h1 h2 ⊢
  refine jmp (fun p => p.length ≤ 2000 ∧ ∀ x ∈ p, zKs x) (fun p h => h) ?_
  intro J hJ
  refine DZ (I := fun n s => n = s.length ∧ s.length ≤ 2000 ∧ ∀ x ∈ s, zKs x) ?_ (k := p3.length) ⟨rfl, h1, h2⟩
  rintro n s ⟨rfl, hs1, hs2⟩ X hX
  by_cases hz : 0 < s.length
  ·have w : IntKind.i64.wrap ((s.length : Int) - 1) = ((s.length - 1 : Nat) : Int) := by rw [Vk (by omega)]; omega
   simp only [w]
   refine ⟨s[s.length - 1], fun _ => ⟨by omega, by simp⟩, fun _ => LF ⟨by omega, ?_⟩, fun _ => hJ _ ⟨hs1, hs2⟩⟩
   refine hX _ _ ?_ ⟨rfl, ?_, Qi2 hs2⟩
   ·simp only [Int.toNat_natCast, List.length_take]; omega
   ·simp only [Int.toNat_natCast, List.length_take]; omega
  ·refine ⟨default, fun c => ?_, fun c => ?_, fun _ => hJ _ ⟨hs1, hs2⟩⟩
   ·exact absurd (by simpa using c) hz
   ·have e : decide ((s.length : Int) > 0) = false := by rw [decide_eq_false_iff_not]; omega
    rw [e] at c; cases c
 ·intro J1 hJ1
  refine DZ (I := fun n (s : Int × Int × List (List ByteArray) × List ByteArray × Int) => (0 ≤ s.2.2.2.2 ∧ s.2.2.2.1.length ≤ 1000 ∧ s.2.2.2.2 + s.2.2.2.1.length ≤ a0.length + 1000) ∧ (s.2.2.1.length : Int) = s.2.2.2.2 ∧ (∀ x ∈ s.2.2.1, zKs x) ∧ (∀ k ∈ s.2.2.2.1, k.size ≤ 2000000) ∧ (0 ≤ s.2.1 ∧ s.2.1 ≤ a4 + s.2.2.2.2) ∧ n = (3000 * ((a0.length : Int) - s.2.2.2.2)).toNat + s.2.2.2.1.length) ?_ ⟨⟨by simp, by simp, by simp; omega⟩, by simp, We, We, by simp; omega, rfl⟩
  rintro n ⟨sl, ps, out, cr, i⟩ ⟨⟨hi0, hc, hic⟩, ho, hox, hcx, hps, hn⟩ X hX
  simp only at hi0 hc hic ho hox hcx hps hn ⊢
  have wi : IntKind.i64.wrap (i + 1) = i + 1 := Vk (by omega)
  have wp : IntKind.i64.wrap (ps + 1) = ps + 1 := Vk (by omega)
  simp only [wi, wp]
  refine ⟨fun c => LF ?_, fun c => hJ1 _ ⟨?_, hox⟩⟩
  ·have hgo : (a0.length : Int) ≤ i → 0 < cr.length := by
    intro h
    have e : decide (i < (a0.length : Int)) = false := by simp; omega
    rw [e] at c; simpa using c
   refine jmp (fun p => (0 ≤ p.2.1 ∧ p.2.1 ≤ ps + 1) ∧ (p.2.2.1.length : Int) = i + 1 ∧ (∀ x ∈ p.2.2.1, zKs x) ∧ (∀ k ∈ p.2.2.2, k.size ≤ 2000000) ∧ p.2.2.2.length ≤ 1000 ∧ ((a0.length : Int) ≤ i → p.2.2.2.length < cr.length)) ?_ ?_
   ·rintro ⟨q1, q2, q3, q4⟩ ⟨g1, g2, g3, g4, g5, g6⟩
    simp only at g1 g2 g3 g4 g5 g6 ⊢
    refine hX _ _ ?_ ⟨⟨by simp only; omega, g5, ?_⟩, g2, g3, g4, by simp only; omega, rfl⟩
    ·subst hn
     simp only
     by_cases h : (a0.length : Int) ≤ i
     ·have := g6 h; omega
     ·omega
    ·simp only
     by_cases h : (a0.length : Int) ≤ i
     ·have := g6 h; omega
     ·omega
   intro J4 hJ4
   refine jmp (fun p => p.1 = out ∧ p.2.length ≤ 1900 ∧ ((a0.length : Int) ≤ i → p.2.length = cr.length) ∧ ∀ k ∈ p.2, k.size ≤ 2000000) ?_ ?_
   ·rintro ⟨q1, l⟩ ⟨rfl, g1, g2, g3⟩
    dsimp only at *
    obtain ⟨v, hv, hl, hvk⟩ := (x_ref6_sorted (a0 := l)).go ⟨by omega, g3⟩
    refine ⟨v, hv, fun c => ⟨by simp only [List.length_append, List.length_cons, List.length_nil]; omega, hJ4 _ ⟨by simp only; omega, by simp; omega, Cl hox (Df ⟨by omega, hvk⟩), We, by simp, fun h => ?_⟩⟩, fun c => ?_⟩
    ·have := hgo h; simpa using this
    have eE : IntKind.i64.wrap (IntKind.i64.wrap ((v.length : Int).tdiv 2) * 2) = 2 * ((v.length : Int) / 2) := by
     rw [Int.tdiv_eq_ediv_of_nonneg (by omega), Vk (n := (v.length : Int) / 2) (by omega), Vk (by omega)]; omega
    simp only [eE, List.length_map]
    refine jmp (fun p => p.1 = q1 ∧ 2 * p.2.1.length ≤ v.length ∧ (∀ k ∈ p.2.1, k.size ≤ 2000000) ∧ p.2.2 = v) ?_ ?_
    ·rintro ⟨r1, r2, r3⟩ ⟨rfl, k1, k2, rfl⟩
     dsimp only at *
     obtain ⟨u, hu, _⟩ := (x_ref6_sum (a0 := sl) (a1 := Ys .i64 1 (IntKind.u64.wrap i))).go trivial
     refine ⟨(BJ i).1, u, hu, ⟨by omega, by omega⟩, by simp only [List.length_append, List.length_cons, List.length_nil]; omega, hJ4 _ ⟨by simp only; omega, by simp; omega, Cl hox (Df ⟨?_, Qi2 (Qi3 hvk)⟩), k2, by simp only; omega, fun h => ?_⟩⟩
     ·simp only [List.length_take, List.length_drop]; omega
     ·have := hgo h; have := g2 h; simp only; omega
    intro J12 hJ12
    obtain ⟨b, hb, hb1⟩ := (x_ref1_Bit (a0 := a3) (a1 := ps)).go ⟨by omega, by omega, by omega⟩
    refine ⟨b, hb, ?_⟩
    refine DZ (I := fun n (s : List (List ByteArray) × List ByteArray × List ByteArray × Int) => s.1 = q1 ∧ s.2.2.1 = v ∧ s.2.2.2 = b + 2 * (s.2.1.length : Int) ∧ s.2.2.2 ≤ 2 * ((v.length : Int) / 2) + 1 ∧ (∀ k ∈ s.2.1, k.size ≤ 2000000) ∧ n = (2 * ((v.length : Int) / 2) + 2 - s.2.2.2).toNat) ?_ ⟨rfl, rfl, by simp, ?_, We, rfl⟩
    ·rintro n ⟨s1, s2, s3, s4⟩ ⟨rfl, rfl, f1, f2, f3, f4⟩ Y hY
     dsimp only at *
     refine ⟨fun c => ?_, fun c => hJ12 _ ⟨rfl, ?_, f3, rfl⟩⟩
     ·have c2 : s4 < 2 * ((s3.length : Int) / 2) := by simpa using c
      obtain ⟨y, hy, hyk⟩ := Cj (l := s3) (n := s4) (by omega) (by omega)
      have wy : IntKind.i64.wrap (s4 + 2) = s4 + 2 := Vk (by omega)
      rw [wy]
      refine ⟨y, hy, by simp only [List.length_append, List.length_cons, List.length_nil]; omega, hY _ _ ?_ ⟨rfl, rfl, by simp; omega, by simp only; omega, Cl f3 (Df (hvk y (List.mem_of_getElem? hyk))), rfl⟩⟩
      simp only; omega
     ·have c2 : ¬ s4 < 2 * ((s3.length : Int) / 2) := by simpa using c
      simp only; omega
    ·have : 0 < v.length ∨ v.length = 0 := by omega
     simp only; omega
   ·intro J5 hJ5
    refine ⟨fun c => ?_, fun c => hJ5 _ ⟨rfl, by simp only; omega, fun _ => rfl, hcx⟩⟩
    have c2 : i < (a0.length : Int) := by simpa using c
    obtain ⟨y, hy, hyk⟩ := Cj (l := a0) (n := i) hi0 c2
    have hy2 := hk y (List.mem_of_getElem? hyk)
    exact ⟨y, hy, by omega, by omega, hJ5 _ ⟨rfl, by simp; omega, fun h => by omega, Cl hy2.2 hcx⟩⟩
  ·simp only
   by_cases h : (a0.length : Int) ≤ i
   ·have : (i : Int) + cr.length ≤ a0.length + 1000 := hic
    omega
   ·omega)⟩
theorem NC : KI := Zu (Zr.eq_1 _)
theorem ND [K1] [KI] [KG] : Bz := Zu (JD.eq_1 _)
theorem Q1k [VD] [Ao] [CJ] [A8] [BB] [Eo] [A9] [CF] : GV := Zu (YV.eq_1 _ _ _ _)
theorem Tt [VD] [X0] [Ap] [Bs] [Uq] [AG] [Dh] [Ur] [Bt] : Wh := Zu (Jk.eq_1 _)
theorem Q5u [Ap] : Ic := Zu (WF.eq_1 _)
theorem Qap [AR] : E5 := Zu (VR.eq_1 _ _)
theorem Q5v [GX] [FN] [FO] [FP] [If] [Er] [LJ] [Ab] [Ux] [BC] [Dl] [AK] [FQ] : OL := Zu (WM.eq_1 _ _)
theorem Q1l : AS := nxb (VG.eq_1 _)
theorem Q1m [Wh] [Ih] : GY := nxb (YM.eq_1 _)
theorem RY [ER] : Es := fun {a0} => Zu (Xk.eq_1 _) (fun h => by
 refine nx_ trivial fun v _ _ => jmp (fun _ => True) (fun _ _ => trivial) fun J hJ => ?_
 refine Wk (fun _ => hJ _ trivial) fun _ => Wk (fun c => ixi ⟨tm0 (sn0 h), tm1 (sn0 h) (by decide)⟩ fun _ _ _ _ => hJ _ trivial) fun _ => Wk (fun _ => hJ _ trivial) fun _ => Wk (fun _ => hJ _ trivial) fun _ => Wk (fun _ => hJ _ trivial) fun _ => hJ _ trivial)
end Go.Proofs.YtikagchjeogchaaGreat
