/- Parts of the proof, laid together. No condition. -/
import Derived.Test.YtimfmcpbkdpmoaaGreatKB6
set_option linter.unusedVariables false
set_option linter.unusedSimpArgs false
set_option maxRecDepth 100000
set_option maxHeartbeats 60000000
namespace Go.Proofs.YtimfmcpbkdpmoaaGreat
open Go.RowKit
theorem Q91 : IT := ZD (QJ.eq_1 _ _)
theorem MP [B8] [G8] [V7] [EW] [Y2] [Vs] : Ft := ZD (Z3.eq_1 _)
theorem Gs [K2] [F1] : WK := ZD (KG.eq_1 _)
theorem P0 [Bo] [Xa] [Aq] [WI] [UD] [BO] [WJ] [Ar] : Uc := ZD (Vi.eq_1 _)
theorem M8 [Vt] : Yr := ZD (ZS.eq_1 _ _ _)
theorem P1 [Cd] [Vt] [Cn] [F3] [F2] [WQ] [Eu] [Wo] : E0 := fun {a0} {a1} {a2} {a3} => nx1 (XP.eq_1 _ _ _ _)
theorem Gt [UK] : WL := fun {a0} {a1} {a2} => nx1 (KH.eq_1 _ _ _)
theorem Q0b [F4] [E0] [E2] [E3] [Gd] [CL] [Hr] [Ud] [WL] [Au] [BP] [UF] [E4] : M5 := fun {a0} {a1} => ZD (Ze.eq_1 _ _) (fun h => by
 obtain ⟨hz, s1, s2, s3, s4, s5, s6⟩ := h
 have hk : a0.fq.fb4 ≤ 64 := by
  obtain ⟨z1, _⟩ := hz
  obtain ⟨c1, c2, c3, c4, c5, c6, c7⟩ := z1
  omega
 have hcf : TZ a0.fq := hz.1
 refine KL (fun c => ?_) fun c => ?_
 ·have c1 : a1.fOp.fa4 = 6 := by simpa using c
  exact Un ⟨hz, hk, s4, s5, s6 c1⟩ fun v _ hv => ⟨hv.1.1, ⟨s1, s2, s3⟩, ⟨rfl, rfl, rfl, rfl⟩, fun _ => hv.1.2, hv.2.1, fun _ => hv.2.2, fun e => by omega, fun e => by omega, fun e => absurd c1 e⟩
 have c6 : a1.fOp.fa4 ≠ 6 := by simpa using c
 have pk : ∀ (r : Qm) (sn : List QC) (cu : List QZ), M1 r → (sn.length = 4 ∧ cu.length = 4 ∧ ∀ y ∈ sn, OQ y) → YE a0 r → (a1.fOp.fa4 = 9 → OpP a0.fq.fb4 (a1.fOp.fb8.length : Int) a1.ff r) → (a1.fOp.fa4 = 16 → ImP a0.fq (a1.fOp.fd2.length : Int) a1.ff r) → (a1.fOp.fa4 ≠ 7 → a1.fOp.fa4 ≠ 8 → a1.fOp.fa4 ≠ 9 → a1.fOp.fa4 ≠ 15 → a1.fOp.fa4 ≠ 16 → a1.fOp.fa4 ≠ 17 → r.ff8 = true) → (fun r : Qm × Qa => M1 r.1 ∧ (r.2.fc7.length = 4 ∧ r.2.ff1.length = 4 ∧ ∀ y ∈ r.2.fc7, OQ y) ∧ (r.2.fOp = a1.fOp ∧ r.2.ff = a1.ff ∧ r.2.fg3 = a1.fg3 ∧ r.2.fd4 = a1.fd4) ∧ (a1.fOp.fa4 = 6 → r.1.ff.fd8 ≤ (a1.fOp.fb7.length : Int)) ∧ YE a0 r.1 ∧ ((a1.fOp.fa4 = 6 → BtP a0 a0.fq.fb4 a1.fOp.ff0 (a1.fOp.fb7.length : Int) a1.ff r.1) ∧ (a1.fOp.fa4 = 9 → OpP a0.fq.fb4 (a1.fOp.fb8.length : Int) a1.ff r.1) ∧ (a1.fOp.fa4 = 16 → ImP a0.fq (a1.fOp.fd2.length : Int) a1.ff r.1) ∧ (a1.fOp.fa4 ≠ 6 → a1.fOp.fa4 ≠ 7 → a1.fOp.fa4 ≠ 8 → a1.fOp.fa4 ≠ 9 → a1.fOp.fa4 ≠ 15 → a1.fOp.fa4 ≠ 16 → a1.fOp.fa4 ≠ 17 → r.1.ff8 = true))) (r, Qa.mk a1.fg3 a1.fOp a1.ff a1.fd4 sn cu) := fun r sn cu h1 h2 h3 h4 h5 h6 => ⟨h1, h2, ⟨rfl, rfl, rfl, rfl⟩, fun e => absurd e c6, h3, fun e => absurd e c6, h4, h5, fun _ => h6⟩
 have s123 : a1.fc7.length = 4 ∧ a1.ff1.length = 4 ∧ ∀ y ∈ a1.fc7, OQ y := ⟨s1, s2, s3⟩
 refine HV (fun p => (p = true → a1.fOp.fa4 = 7 ∨ a1.fOp.fa4 = 8) ∧ (p = false → a1.fOp.fa4 ≠ 7 ∧ a1.fOp.fa4 ≠ 8)) ?_ fun J hJ => KL (fun d => ?_) fun d => ?_
 ·rintro p ⟨p1, p2⟩
  refine KL (fun d => ?_) fun d => ?_
  ·have := p1 d
   exact Un ⟨hz, hk, s4, s5⟩ fun v _ hv => pk v _ _ hv.1 s123 hv.2 (fun e => by omega) (fun e => by omega) (fun _ _ => by omega)
  have c78 := p2 d
  refine KL (fun d => ?_) fun d => ?_
  ·have e : a1.fOp.fa4 = 15 := by simpa using d
   exact Un ⟨hz, hcf, s1, s3, s5⟩ fun v _ hv => pk v _ _ hv.1 s123 hv.2 (fun e => by omega) (fun e => by omega) (fun _ _ _ h => absurd e h)
  have c15 : a1.fOp.fa4 ≠ 15 := by simpa using d
  refine KL (fun d => ?_) fun d => ?_
  ·have e : a1.fOp.fa4 = 16 := by simpa using d
   exact Un ⟨hz, hcf, s4, s5⟩ fun v _ hv => pk v _ _ hv.1 s123 hv.2.1 (fun e => by omega) (fun _ => hv.2.2) (fun _ _ _ _ h => absurd e h)
  have c16 : a1.fOp.fa4 ≠ 16 := by simpa using d
  refine KL (fun d => ?_) fun d => ?_
  ·have e : a1.fOp.fa4 = 9 := by simpa using d
   refine Un ⟨hz, hk, s1, s4, s5⟩ fun v _ hv => HV (fun p => p.length = 4 ∧ ∀ y ∈ p, OQ y) (fun p hp => pk v _ _ hv.1 ⟨hp.1, s2, hp.2⟩ hv.2.1 (fun _ => hv.2.2) (fun e => by omega) (fun _ _ h => absurd e h)) fun J hJ => XH (KL (fun _ => ?_) fun _ => hJ _ ⟨s1, s3⟩)
   refine ⟨by omega, ixi ⟨s5.1.1, by have := s5.1.2; omega⟩ fun x _ _ _ => XH (hJ _ ⟨by simp [s1], ?_⟩)⟩
   exact AF s3 s4.1
  have c9 : a1.fOp.fa4 ≠ 9 := by simpa using d
  refine KL (fun d => ?_) fun d => ?_
  ·have e : a1.fOp.fa4 = 17 := by simpa using d
   exact Un ⟨hz, s5⟩ fun v _ hv => pk v _ _ hv.1 s123 hv.2 (fun e => by omega) (fun e => by omega) (fun _ _ _ _ _ h => absurd e h)
  refine KL (fun d => ?_) fun d => ?_
  ·exact Un ⟨hz, s1, s3⟩ fun u _ hu => Un ⟨hz, hu⟩ fun v _ hv => pk v _ _ hv.1 s123 (YE.o hv.2.1 (KS.refl _)) (fun e => absurd e c9) (fun e => absurd e c16) (fun _ _ _ _ _ _ => hv.2.2)
  refine KL (fun d => ?_) fun d => ?_
  ·exact Un ⟨hz, s1, s3⟩ fun u _ hu => Un ⟨hu.1.1, hu.1.2.2.2⟩ fun v _ hv => pk v _ _ hv.1 ⟨hu.1.2.1, s2, hu.1.2.2.1⟩ (YE.o hv.2.1 hu.2) (fun e => absurd e c9) (fun e => absurd e c16) (fun _ _ _ _ _ _ => hv.2.2)
  refine KL (fun d => ?_) fun d => ?_
  ·exact Un ⟨hz, s1, s3, s2⟩ fun u _ hu => XH (Un ⟨hu.1.1, hu.1.2.2⟩ fun v _ hv => pk v _ _ hv.1 ⟨s1, hu.1.2.1, s3⟩ (YE.o hv.2.1 hu.2) (fun e => absurd e c9) (fun e => absurd e c16) (fun _ _ _ _ _ _ => hv.2.2))
  refine KL (fun d => ?_) fun d => ?_
  ·exact Un ⟨hz, s2⟩ fun u _ hu => XH (Un ⟨hz, hu.2⟩ fun v _ hv => pk v _ _ hv.1 ⟨s1, hu.1, s3⟩ (YE.o hv.2.1 (KS.refl _)) (fun e => absurd e c9) (fun e => absurd e c16) (fun _ _ _ _ _ _ => hv.2.2))
  refine KL (fun d => ?_) fun d => ?_
  ·exact Un ⟨hz, s2⟩ fun u _ hu => XH (Un ⟨hu.1.1, hu.1.2.2⟩ fun v _ hv => pk v _ _ hv.1 ⟨s1, hu.1.2.1, s3⟩ (YE.o hv.2.1 hu.2) (fun e => absurd e c9) (fun e => absurd e c16) (fun _ _ _ _ _ _ => hv.2.2))
  exact Un ⟨hz, s4⟩ fun v _ hv => pk v _ _ hv.1 s123 hv.2.2 (fun e => absurd e c9) (fun e => absurd e c16) (fun _ _ _ _ _ _ => hv.2.1)
 ·have e : a1.fOp.fa4 = 7 := by simpa using d
  exact hJ _ ⟨fun _ => .inl e, fun h => by rw [d] at h; cases h⟩
 ·have e : a1.fOp.fa4 ≠ 7 := by simpa using d
  exact hJ _ ⟨fun h => .inr (by simpa using h), fun h => ⟨e, by simpa using h⟩⟩)
end Go.Proofs.YtimfmcpbkdpmoaaGreat
