/- Parts of the proof, laid together. No condition. -/
import Derived.Test.YtimfmcpbkdpmoaaGreatKB6
set_option linter.unusedVariables false
set_option linter.unusedSimpArgs false
set_option maxRecDepth 100000
set_option maxHeartbeats 4000000
namespace Go.Proofs.YtimfmcpbkdpmoaaGreat
open Go.RowKit
theorem PX : Bh := Zp (Zn.eq_1 _ _ _)
theorem PY : Bj := Zp (Zo.eq_1 _ _ _)
theorem Iw : D1 := Zp (KL.eq_1 _)
theorem Sx : Ws := Zp (Jz.eq_1 _ _)
theorem HZ : Yb := Zp (ZQ.eq_1 _)
theorem Sy [As] : Fj := Zp (Ym.eq_1 _)
theorem Q1q : Bn := Zp (VZ.eq_1 _ _)
theorem Q1r [Jc] [JC] [Bn] [Cb] : Gt := fun {a0} {a1} {a2} {a3} => ⟨fun hp => by
 have g : Nx (Ya a0 a1 a2 a3) (a0.length ≤ 2000000 ∧ a1.size ≤ 2000000 ∧ ∀ x ∈ a0, zB x) (fun r => r.1.length ≤ a0.length + 1 ∧ ∀ x ∈ r.1, x ∈ a0 ++ [Qn.mk a1 a2 a3 0]) := Zp (Ya.eq_1 _ _ _ _)
 obtain ⟨r, h1, h2, h3⟩ := g.go hp
 exact ⟨r, h1, ⟨h2, Q9x (Yz hp.2.2 (XO hp.2.1)) h3⟩, fun x hx => (List.mem_append.1 (h3 x hx)).elim .inl fun e => .inr (by rw [List.mem_singleton.1 e])⟩⟩
theorem Q1s [Wr] : Dg := Zp (Y9.eq_1 _ _)
theorem PZ : Bp := Zp (Vs.eq_1 _ _)
theorem Sz [Bm] : Wt := Zp (Kx.eq_1 _ _)
theorem SA [Bp] [Bl] : UT := fun {a0} {a1} => ⟨fun hp => by
 have g : Nx (Jy a0 a1) (UO a0) (fun r => UO r.1 ∧ r.1.f9 = a0.f9 ∧ r.1.fk = a0.fk ∧ r.1.fb4 = a0.fb4 ∧ r.1.fa6 = a0.fa6 ∧ r.1.ff3 = a0.ff3) := Zp (Jy.eq_1 _ _)
 obtain ⟨r, h1, h2, e1, e2, e3, e4, e5⟩ := g.go hp
 exact ⟨r, h1, h2, fun h => ⟨Kp.of e1 e2 e3 e4, h.of e1 e3 e4 e5⟩⟩⟩
theorem Oh [Ug] : CL := Zp (VP.eq_1 _ _)
theorem H4 [Zx] : ZK := Zp (QZ.eq_1 _)
theorem Ix [A5] : UH := Zp (KM.eq_1 _ _)
theorem Q1t : Gz := Zp (YY.eq_1 _)
theorem Iy [ZK] [VB] [EG] : UJ := Zp (KO.eq_1 _)
theorem Nr [Zx] : BS := Zp (Va.eq_1 _ _)
theorem Qa8 : Ec := Zp (W0.eq_1 _)
theorem Oi [Zx] [KF] [Di] [EH] : CQ := Zp (VL.eq_1 _ _ _)
theorem Q1u : Dl := Zp (JK.eq_1 _ _)
theorem SB : Fx := Zp (Yj.eq_1 _)
theorem LG [ZS] [Kt] [Kr] : AB := Zp (Jq.eq_1 _)
theorem Ns [ZS] [Kt] [Ks] [XI] : BV := Zp (Ve.eq_1 _)
theorem Oj [Ks] [Wj] [AK] [Yc] [BC] : CS := Zp (VO.eq_1 _ _)
theorem Q67 [ZF] [KF] [EJ] : HP := Zp (Ud.eq_1 _ _)
theorem MD : WU := Zp (KW.eq_1 _)
theorem ME [VU] : WV := fun {a0} {a1} {a2} => Zp (KV.eq_1 _ _ _) (fun h => by
 obtain ⟨hz, hm, hl⟩ := h
 refine ZX (fun c => fun hs => absurd c (by simp [hs.1])) fun c => ?_
 have e : (a2.length : Int) = (a1.fc0.length : Int) := by simpa using c
 refine Iq (fun _ => True) (fun _ _ _ => rfl) fun J hJ => lvi ⟨by omega, by omega⟩ ?_
 rintro i ⟨i1, i2⟩ X hX
 refine ZX (fun d => ?_) fun _ => hJ _ trivial
 have d2 : i < (a2.length : Int) := by simpa using d
 refine ixi ⟨i1, d2⟩ fun n _ hn hnm => Uf hz fun v _ hv => ?_
 obtain ⟨w, hw, hwm⟩ := Yy (l := a1.fc0) (n := i) i1 (by omega)
 refine ⟨w, fun _ => hw, ZX (fun k => ?_) fun _ => CZ (hX _ ⟨?_, ?_⟩ ?_)⟩
 ·intro hs
  obtain ⟨p, hp, hq⟩ := hs.2 i.toNat n w hn hw.2
  rcases hv.2 rfl with ⟨h1, h2⟩ | ⟨p2, h1, h2, h3⟩
  ·rw [h1] at hp; cases hp
  ·rw [h1] at hp; cases hp
   simp [h3, h2, hq] at k
 all_goals (have := KI (n := i + 1) (by omega); rw [this]; omega))
theorem Nt [YM] [Wn] [WU] : BW := Zp (Vg.eq_1 _ _ _ _)
theorem R0 [EK] [YK] [Bt] [Yd] [Gv] [JW] [Ul] [E9] [VU] [Fs] [YM] [EL] : Ej := fun {a0} {a1} => nx1 (XG.eq_1 _ _)
theorem Q68 : EN := fun {a0} => Zp (Zm.eq_1 _) (fun _ => by
 simp only [Lo]
 exact ixq (P := fun v => v.size ≤ 16) (by decide) ⟨tm0 (by omega), tm1 (by omega) (by decide)⟩ fun a _ _ _ ha => ha)
theorem Q1v [BY] [HR] : Dn := nxb (Y0.eq_1 _ _)
theorem SC [YK] [GE] : FC := nxb (Yf.eq_1 _)
end Go.Proofs.YtimfmcpbkdpmoaaGreat
