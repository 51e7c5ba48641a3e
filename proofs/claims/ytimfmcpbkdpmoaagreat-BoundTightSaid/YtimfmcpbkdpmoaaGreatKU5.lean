/- Parts of the proof, laid together. No condition. -/
import Derived.Test.YtimfmcpbkdpmoaaGreatKB6
set_option linter.unusedVariables false
set_option linter.unusedSimpArgs false
set_option maxRecDepth 100000
set_option maxHeartbeats 4000000
namespace Go.Proofs.YtimfmcpbkdpmoaaGreat
open Go.RowKit
theorem Q4s [W8] : Nr := ZD (Yf.eq_1 _)
theorem Mb [Yp] : B9 := ZD (Ve.eq_1 _ _)
theorem Pe : U7 := ZD (Vq.eq_1 _ _ _)
theorem RR : C6 := ZD (V4.eq_1 _ _)
theorem Pf [JF] [V7] [Bb] [D7] : DO := ZD (XU.eq_1 _ _ _)
theorem Q0n [Wm] : D8 := ZD (ZT.eq_1 _ _)
theorem Pg : Be := ZD (Jz.eq_1 _ _)
theorem RU [Ba] : Wo := ZD (Z6.eq_1 _ _)
theorem RX [Be] [B9] : UK := fun {a0} {a1} => ⟨fun hp => by
 have g : Nx (V1 a0 a1) (UG a0) (fun r => UG r.1 ∧ r.1.fa1 = a0.fa1 ∧ r.1.fq = a0.fq ∧ r.1.fb6 = a0.fb6 ∧ r.1.fa9 = a0.fa9 ∧ r.1.fd6 = a0.fd6) := ZD (V1.eq_1 _ _)
 obtain ⟨r, h1, h2, e1, e2, e3, e4, e5⟩ := g.go hp
 exact ⟨r, h1, h2, fun h => ⟨Kp.of e1 e2 e3 e4, h.of e1 e3 e4 e5⟩⟩⟩
theorem NI [U7] : CE := ZD (Xi.eq_1 _ _)
theorem RY [B8] [ZN] [V7] : EW := ZD (Je.eq_1 _ _ _)
theorem Gz [ZM] : K2 := ZD (QS.eq_1 _)
theorem I3 [US] : Uz := ZD (K4.eq_1 _ _)
theorem Q0o : Ga := ZD (Xs.eq_1 _)
theorem I4 [K2] [VZ] [El] : UB := ZD (ZK.eq_1 _)
theorem MS [ZM] : BM := ZD (Jl.eq_1 _ _)
theorem Q95 : DX := ZD (W0.eq_1 _)
theorem NJ [ZM] [Jm] [Da] [Eo] : CI := ZD (Xf.eq_1 _ _ _)
theorem Q0p : Dd := ZD (Vd.eq_1 _ _)
theorem RZ : F0 := ZD (Yu.eq_1 _)
theorem Lc [Kj] [Jb] [J0] : Aq := ZD (JS.eq_1 _)
theorem MU [Kj] [Jb] [Ja] [XY] : BO := ZD (VF.eq_1 _)
theorem NK [Ja] [Wa] [Az] [Yq] [Bt] : CJ := ZD (Xh.eq_1 _ _)
theorem Q4t [ZV] [Jm] [Er] : Hq := ZD (U5.eq_1 _ _)
theorem Mc : WP := ZD (Jw.eq_1 _)
theorem Md [Xm] : WQ := fun {a0} {a1} {a2} => ZD (Jv.eq_1 _ _ _) (fun h => by
 obtain ⟨hz, hm, hl⟩ := h
 refine KL (fun c => fun hs => absurd c (by simp [hs.1])) fun c => ?_
 have e : (a2.length : Int) = (a1.fc1.length : Int) := by simpa using c
 refine HV (fun _ => True) (fun _ _ _ => rfl) fun J hJ => lvi ⟨by omega, by omega⟩ ?_
 rintro i ⟨i1, i2⟩ X hX
 refine KL (fun d => ?_) fun _ => hJ _ trivial
 have d2 : i < (a2.length : Int) := by simpa using d
 refine ixi ⟨i1, d2⟩ fun n _ hn hnm => Un hz fun v _ hv => ?_
 obtain ⟨w, hw, hwm⟩ := YV (l := a1.fc1) (n := i) i1 (by omega)
 refine ⟨w, fun _ => hw, KL (fun k => ?_) fun _ => XH (hX _ ⟨?_, ?_⟩ ?_)⟩
 ·intro hs
  obtain ⟨p, hp, hq⟩ := hs.2 i.toNat n w hn hw.2
  rcases hv.2 rfl with ⟨h1, h2⟩ | ⟨p2, h1, h2, h3⟩
  ·rw [h1] at hp; cases hp
  ·rw [h1] at hp; cases hp
   simp [h3, h2, hq] at k
 all_goals (have := Zp (n := i + 1) (by omega); rw [this]; omega))
theorem MV [YO] [Wg] [WP] : BP := ZD (VH.eq_1 _ _ _ _)
theorem NL [G7] [Ge] [EU] [Ud] [DV] : CL := fun {a0} {a1} => nx1 (Xk.eq_1 _ _) (fun h => by
 have hh := h
 obtain ⟨hz, hm⟩ := h
 refine Un trivial fun v _ hv => Un (by revert hh hv; clear hz hm; exact yx_) fun w _ hw => Fo (Qy0 (fun s => KS a0 (stq s.2.2)) ?_ (KS.refl a0) ?_)
 ·clear hv hz hm; revert hh hw; exact yx_
 ·clear hv hz hm; revert hh hw; exact yx_)
theorem Q4u : Hs := fun {a0} => ZD (JY.eq_1 _) (fun _ => by
 simp only [OS]
 exact ixq (P := fun v => v.size ≤ 16) (by decide) ⟨tm0 (by omega), tm1 (by omega) (by decide)⟩ fun a _ _ _ ha => ha)
end Go.Proofs.YtimfmcpbkdpmoaaGreat
