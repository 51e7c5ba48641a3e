/- Parts of the proof, laid together. No condition. -/
import Derived.Test.YtimfmcpbkdpmoaaGreatKB6
set_option linter.unusedVariables false
set_option linter.unusedSimpArgs false
set_option maxRecDepth 100000
set_option maxHeartbeats 4000000
namespace Go.Proofs.YtimfmcpbkdpmoaaGreat
open Go.RowKit
theorem Qa4 [E4] : As := Zp (Vb.eq_1 _ _ _)
theorem Q1f : Df := Zp (X0.eq_1 _ _)
theorem GY : XL := Zp (ZJ.eq_1 _)
theorem GZ : WI := fun {a0} {a1} => Zp (Ka.eq_1 _ _) (fun h => by
 obtain ⟨hl, hz⟩ := h
 refine joi ?_
 refine Cp (I := fun n (s : Int) => ∃ j : Nat, s = (j : Int) ∧ j ≤ a0.length ∧ n = a0.length - j) ?_ (k := a0.length) ⟨0, rfl, by omega, by omega⟩
 rintro n s ⟨j, rfl, hj, hn⟩ X hX
 have w : IntKind.i64.wrap ((j : Int) + 1) = ((j + 1 : Nat) : Int) := by rw [KI (by omega)]; omega
 rw [w]
 refine ZX (fun c => ?_) fun _ => ⟨⟨by simp, VT, by show ([] : List Int).length ≤ 65536; simp⟩, fun c => by simp at c⟩
 have hj2 : j < a0.length := by simpa using c
 have zv := hz _ (List.getElem_mem hj2)
 refine ⟨a0[j], GP hj2, ZX (fun _ => ⟨⟨by omega, by omega⟩, by simp; omega, ⟨by omega, by omega⟩, by simp; omega, a0[j], GP hj2, ?_⟩) fun _ => hX (a0.length - (j + 1)) _ (by omega) ⟨j + 1, rfl, by omega, rfl⟩⟩
 simp only [Q16]
 have e : a0 = a0.take j ++ a0[j] :: a0.drop (j + 1) := by rw [List.getElem_cons_drop, List.take_append_drop]
 refine ⟨⟨by simp; omega, Yz (TU hz) (TW hz), zv⟩, fun _ => ⟨fun x hx => ?_, fun hv => ?_⟩⟩
 ·rcases List.mem_append.1 hx with h | h
  ·exact Qk4 h
  ·exact Qk5 h
 ·have ho : Q17 a0[j] = false := by unfold Q17; simpa using hv
  conv => rhs; rw [e]
  rw [List.filter_append, List.filter_append, List.filter_cons]
  simp [ho])
theorem Sf [Bo] : Ce := fun {a0} {a1} => Zp (Xi.eq_1 _ _) (fun _ => by
 refine ZX (fun c => ?_) fun c => CZ (Uf trivial fun v _ hv => ?_)
 ·simp only [Du, Bool.or_eq_true, decide_eq_true_eq] at c
  unfold O3; rw [if_pos c]
 ·simp only [Du, Bool.or_eq_false_iff, decide_eq_false_iff_not] at c
  unfold O3; rw [if_neg (by omega)]; exact hv)
theorem Q1g [XS] [XT] [Br] [Gu] : Bs := Zp (VY.eq_1 _ _ _)
theorem Q60 [XS] [Fj] [E3] : Cq := fun {a0} {a1} => ⟨fun hp => by
 have g : Nx (Xe a0 a1) (UO a0) (fun r => (UO r.1 ∧ r.2 ≠ 16) ∧ r.1.f9 = a0.f9 ∧ r.1.fk = a0.fk ∧ r.1.fb4 = a0.fb4 ∧ r.1.fa6 = a0.fa6 ∧ r.1.ff3 = a0.ff3) := Zp (Xe.eq_1 _ _)
 obtain ⟨r, h1, h2, e1, e2, e3, e4, e5⟩ := g.go hp
 exact ⟨r, h1, h2, fun h => ⟨Kp.of e1 e2 e3 e4, h.of e1 e3 e4 e5⟩⟩⟩
theorem Sg : Cf := Zp (JA.eq_1 _)
theorem Si [Bj] [Zy] [JC] : Ft := Zp (Xd.eq_1 _ _ _)
theorem FQ [Zx] : Zs := Zp (QQ.eq_1 _)
theorem O8 : A5 := Zp (V0.eq_1 _ _)
theorem Q1h [UH] [Bv] [Eb] [UI] [BQ] : Gy := Zp (YX.eq_1 _ _)
theorem H0 [Zs] [VB] [EG] [Uh] : WJ := Zp (K3.eq_1 _)
theorem Lv [Zx] : Ax := Zp (Jl.eq_1 _ _ _)
theorem Lw [Kr] [Zy] [A6] : Az := Zp (Jn.eq_1 _ _)
theorem H1 [Zs] [Zy] [EI] [As] : WL := Zp (K5.eq_1 _ _)
theorem Q1i : Dk := Zp (Je.eq_1 _ _)
theorem Sj : Fw := Zp (Yi.eq_1 _)
theorem Lx : Kt := Zp (Zi.eq_1 _)
theorem Ly [BA] : XI := Zp (ZV.eq_1 _)
theorem PH [Ks] [KF] [Yc] [Dj] : BC := Zp (ZL.eq_1 _ _)
theorem Q61 : EJ := Zp (YR.eq_1 _ _)
theorem O9 [Vh] [AK] : Wn := Zp (Jf.eq_1 _)
theorem Q62 [UT] : Cu := fun {a0} {a1} => Zp (Vt.eq_1 _ _) (fun h => by
 obtain ⟨hz, hm⟩ := h
 exact Iq (fun p => UO (stq p) ∧ KS a0 (stq p)) (fun p hp => ⟨⟨hp.1, hm⟩, hp.2⟩) fun J hJ => ZX (fun _ => Uf hz fun v _ hv => hJ _ ⟨hv.1, hv.2⟩) fun _ => hJ _ ⟨hz, fun hs => ⟨Kp.refl _, hs⟩⟩)
theorem Lz [YL] [YM] [Wn] [Cq] : AE := fun {a0} {a1} {a2} {a3} {a4} => nx1 (Jt.eq_1 _ _ _ _ _)
theorem PI [Ce] [Ee] [JW] [Uk] [YK] [Bt] [Yd] : Ei := fun {a0} {a1} {a2} {a3} => nx1 (XA.eq_1 _ _ _ _)
theorem Sk : IT := fun {a0} => Zp (Jx.eq_1 _) (fun _ => by
 simp only [bA1, bA3]
 refine ixq (P := fun v => 1 ≤ v ∧ v ≤ 60) (by simp) ⟨by omega, by simp; omega⟩ fun a _ _ _ ha => ?_
 refine ixq (P := fun v => 8 ≤ v ∧ v ≤ 200) (by simp) ⟨by omega, by simp; omega⟩ fun b _ _ _ hb => ?_
 refine ixq (P := fun v => 1 ≤ v ∧ v ≤ 8) (by simp) ⟨by omega, by simp; omega⟩ fun c _ _ _ hc => ?_
 refine ixq (P := fun v => 1 ≤ v ∧ v ≤ 100) (by simp) ⟨by omega, by simp; omega⟩ fun d _ _ _ hd => ?_
 have w1 : IntKind.i64.wrap (2 + a0 % 2) = 2 + a0 % 2 := KI (by omega)
 have w2 : IntKind.i64.wrap (2 + QC .i64 a0 1 % 2) = 2 + QC .i64 a0 1 % 2 := KI (by omega)
 have w3 : IntKind.i64.wrap (1 + QC .i64 a0 10 % 4) = 1 + QC .i64 a0 10 % 4 := KI (by omega)
 simp only [w1, w2, w3]
 refine ⟨?_, ?_, ?_, ?_, ?_, ?_, ?_⟩ <;> dsimp only <;> omega)
theorem Q1j [EN] [BY] [UU] : Mv := nxb (YV.eq_1 _)
theorem Q1k [Uv] : GE := nxb (YZ.eq_1 _ _)
end Go.Proofs.YtimfmcpbkdpmoaaGreat
