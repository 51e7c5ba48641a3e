/- Parts of the proof, laid together. No condition. -/
import Derived.Test.YtikagchjeogchaaGreatKB6
set_option linter.unusedVariables false
set_option linter.unusedSimpArgs false
set_option maxRecDepth 100000
set_option maxHeartbeats 4000000
namespace Go.Proofs.YtikagchjeogchaaGreat
open Go.RowKit
theorem Ms : Eu := Zu (KY.eq_1 _)
theorem Q24 : U7 := Zu (Jm.eq_1 _ _ _)
theorem Q25 [Bq] : GK := Zu (YS.eq_1 _)
theorem Q26 : DI := Zu (XM.eq_1 _ _)
theorem Q27 [FD] : XQ := Zu (Zp.eq_1 _)
theorem Q28 : DJ := Zu (XJ.eq_1 _ _)
theorem TT : Cv := Zu (VT.eq_1 _ _)
theorem TU [Cv] [Uo] [A6] [Ei] : FI := Zu (Y8.eq_1 _ _ _)
theorem Mt [KU] : ZT := Zu (QN.eq_1 _)
theorem IK [Cn] [KU] : Up := Zu (Zh.eq_1 _)
theorem S5 : AZ := Zu (K6.eq_1 _ _)
theorem Qaz : X0 := fun {a0} => Zu (QW.eq_1 _) (fun h => by
 refine Wk (fun c => ⟨by simp, Df w8c, fun _ => rfl, fun k _ => by simp⟩) (fun c => joi (lvi ⟨by simp, by simpa using (show a0 < 18446744073709551616 by omega), We, fun k hk => ⟨by simp, by simpa using hk⟩⟩ ?_))
 have c' : ¬ a0 < 248 := by simpa using c
 rintro ⟨x, l⟩ ⟨hl, hx, hb, hk⟩ X hX
 dsimp only at *
 refine Wk (fun hp => ?_) (fun _ => ⟨by simp; omega, by simp; omega, Cl (Df w8c) hb, fun c => absurd c c', fun k h2 => by have := (hk k h2).1; simp; omega⟩)
 have hp' : 0 < x := by simpa using hp
 have lt : ∀ k : Nat, l.length ≤ k → x < 256 ^ (k - l.length) → l.length + 1 ≤ k := by
  intro k h1 h2
  rcases Nat.lt_or_ge l.length k with h | h
  ·exact h
  ·have e : k - l.length = 0 := by omega
   rw [e] at h2; simp at h2; omega
 have sp : ∀ k : Nat, l.length + 1 ≤ k → x < 256 ^ (k - l.length) → Qu .i64 x 8 < 256 ^ (k - ([IntKind.u8.wrap x] ++ l).length) := by
  intro k h1 h2
  have e : k - l.length = (k - ([IntKind.u8.wrap x] ++ l).length) + 1 := by simp; omega
  rw [e, Int.pow_succ] at h2
  rw [shr8]
  generalize (256 : Int) ^ (k - ([IntKind.u8.wrap x] ++ l).length) = M at h2 ⊢
  omega
 have hl7 := lt 8 hl hx
 refine ⟨by simp; omega, hX _ ⟨by simp; omega, sp 8 hl7 hx, Cl (Df w8c) hb, fun k h2 => ?_⟩ (by simp; omega)⟩
 have q := hk k h2
 have q2 := lt k q.1 q.2
 exact ⟨by simp; omega, sp k q2 q.2⟩)
theorem IL [ZD] [X0] [Gb] [A7] : Uq := Zu (Kd.eq_1 _)
theorem S6 : Ek := Zu (Xh.eq_1 _)
theorem NL [ZH] : Bu := Zu (Jz.eq_1 _ _ _)
theorem PW [ZH] : Di := Zu (Vo.eq_1 _ _)
theorem S7 [Bq] : B0 := Zu (Vf.eq_1 _ _)
theorem Q6i : EP := Zu (Jt.eq_1 _ _)
theorem Qfa : Nv := fun {a0} {a1} => Zu (Bg.eq_1 _ _) (fun h => by
 refine Wk (fun _ => by decide) fun c => ?_
 simp only [bfo, Bool.or_eq_false_iff, decide_eq_false_iff_not] at c
 have e : a1.tdiv 8 = a1 / 8 := Int.tdiv_eq_ediv_of_nonneg (by omega)
 have w : IntKind.i64.wrap (a1 / 8) = a1 / 8 := Vk (by omega)
 rw [e, w] at c ⊢
 obtain ⟨v, hv, _⟩ := Cj (l := a0) (n := a1 / 8) (by omega) (by omega)
 exact ⟨v, hv, (BJ _).1, by rw [bA1]; omega⟩)
theorem NM [ZM] [ZT] [B2] [WV] [GR] [DR] : By := Zu (JC.eq_1 _ _ _ _)
theorem IM [K1] [KI] [ZE] [Yi] : Uv := Zu (Ki.eq_1 _)
theorem OW [KG] [B0] : CJ := Zu (V3.eq_1 _ _)
theorem Qb0 : Ge := Zu (Wq.eq_1 _ _)
theorem S8 [ZM] [ZH] [Cs] [Ge] : Ep := Zu (Xq.eq_1 _ _ _)
theorem Qb1 [XA] [Bu] [Di] [GP] [Bv] [El] : Gf := Zu (Wn.eq_1 _)
theorem Q29 : GW := Zu (YU.eq_1 _)
theorem Q2a [UE] [E5] [Gh] [DT] [V9] [CM] : GX := Zu (YT.eq_1 _ _ _ _)
theorem PX : Wi := Zu (KS.eq_1 _ _ _)
theorem TW [Xr] [Cy] [Aa] : Wj := Zu (Jo.eq_1 _ _ _)
theorem TX [DL] [FM] [V9] [Aa] [Wh] [Cz] [YK] : FP := Zu (Y7.eq_1 _ _ _ _)
theorem S9 [I9] [Ig] [GN] [Ab] [FI] : Er := Zu (Xp.eq_1 _ _)
theorem Qb2 [FR] : LK := nxb (UM.eq_1 _)
end Go.Proofs.YtikagchjeogchaaGreat
