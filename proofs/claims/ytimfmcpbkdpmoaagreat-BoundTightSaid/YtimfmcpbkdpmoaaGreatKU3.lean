/- Parts of the proof, laid together. No condition. -/
import Derived.Test.YtimfmcpbkdpmoaaGreatKB6
set_option linter.unusedVariables false
set_option linter.unusedSimpArgs false
set_option maxRecDepth 100000
set_option maxHeartbeats 4000000
namespace Go.Proofs.YtimfmcpbkdpmoaaGreat
open Go.RowKit
theorem Q0e [JF] [V7] [Bb] [C6] : G4 := fun {a0} {a1} {a2} {a3} => ⟨fun hp => by
 have g : Nx (ZU a0 a1 a2 a3) (a0.length ≤ 2000000 ∧ a1.size ≤ 2000000 ∧ ∀ x ∈ a0, zB x) (fun r => r.1.length ≤ a0.length + 1 ∧ ∀ x ∈ r.1, x ∈ a0 ++ [Qg.mk a1 a2 a3 0]) := ZD (ZU.eq_1 _ _ _ _)
 obtain ⟨r, h1, h2, h3⟩ := g.go hp
 exact ⟨r, h1, ⟨h2, Q8b (ZP hp.2.2 (KO hp.2.1)) h3⟩, fun x hx => (List.mem_append.1 (h3 x hx)).elim .inl fun e => .inr (by rw [List.mem_singleton.1 e])⟩⟩
theorem Gu : WC := fun {a0} {a1} => ZD (KF.eq_1 _ _) (fun h => by
 obtain ⟨hl, hz⟩ := h
 refine Fo ?_
 refine XM (I := fun n (s : Int) => ∃ j : Nat, s = (j : Int) ∧ j ≤ a0.length ∧ n = a0.length - j) ?_ (k := a0.length) ⟨0, rfl, by omega, by omega⟩
 rintro n s ⟨j, rfl, hj, hn⟩ X hX
 have w : IntKind.i64.wrap ((j : Int) + 1) = ((j + 1 : Nat) : Int) := by rw [Zp (by omega)]; omega
 rw [w]
 refine KL (fun c => ?_) fun _ => ⟨⟨by simp, VS, by show ([] : List Int).length ≤ 65536; simp⟩, fun c => by simp at c⟩
 have hj2 : j < a0.length := by simpa using c
 have zv := hz _ (List.getElem_mem hj2)
 refine ⟨a0[j], CM hj2, KL (fun _ => ⟨⟨by omega, by omega⟩, by simp; omega, ⟨by omega, by omega⟩, by simp; omega, a0[j], CM hj2, ?_⟩) fun _ => hX (a0.length - (j + 1)) _ (by omega) ⟨j + 1, rfl, by omega, rfl⟩⟩
 simp only [Q00]
 have e : a0 = a0.take j ++ a0[j] :: a0.drop (j + 1) := by rw [List.getElem_cons_drop, List.take_append_drop]
 refine ⟨⟨by simp; omega, ZP (Tf hz) (Tg hz), zv⟩, fun _ => ⟨fun x hx => ?_, fun hv => ?_⟩⟩
 ·rcases List.mem_append.1 hx with h | h
  ·exact Qhv h
  ·exact Qhw h
 ·have ho : Q0a a0[j] = false := by unfold Q0a; simpa using hv
  conv => rhs; rw [e]
  rw [List.filter_append, List.filter_append, List.filter_cons]
  simp [ho])
theorem RG [Bc] : C9 := fun {a0} {a1} => ZD (VQ.eq_1 _ _) (fun _ => by
 refine KL (fun c => ?_) fun c => XH (Un trivial fun v _ hv => ?_)
 ·simp only [Co, Bool.or_eq_true, decide_eq_true_eq] at c
  unfold pgF; rw [if_pos c]
 ·simp only [Co, Bool.or_eq_false_iff, decide_eq_false_iff_not] at c
  unfold pgF; rw [if_neg (by omega)]; exact hv)
theorem Q0f [Y7] [Y8] [Bg] [G5] : Bh := ZD (Vf.eq_1 _ _ _)
theorem Q4n [Y7] [ES] [DK] : Cl := fun {a0} {a1} => ⟨fun hp => by
 have g : Nx (Kw a0 a1) (UG a0) (fun r => (UG r.1 ∧ r.2 ≠ 16) ∧ r.1.fa1 = a0.fa1 ∧ r.1.fq = a0.fq ∧ r.1.fb6 = a0.fb6 ∧ r.1.fa9 = a0.fa9 ∧ r.1.fd6 = a0.fd6) := ZD (Kw.eq_1 _ _)
 obtain ⟨r, h1, h2, e1, e2, e3, e4, e5⟩ := g.go hp
 exact ⟨r, h1, h2, fun h => ⟨Kp.of e1 e2 e3 e4, h.of e1 e3 e4 e5⟩⟩⟩
theorem RH : Ca := ZD (V5.eq_1 _)
theorem Fv [ZM] : ZH := ZD (QH.eq_1 _)
theorem NE : US := ZD (Jd.eq_1 _ _)
theorem Q0g [Uz] [Bm] [DW] [UA] [BK] : G9 := ZD (Xr.eq_1 _ _)
theorem Gv [ZH] [VZ] [El] [U8] : WE := ZD (Zr.eq_1 _)
theorem L2 [ZM] : Am := ZD (Km.eq_1 _ _ _)
theorem L3 [J0] [ZN] [UT] : Ao := ZD (JQ.eq_1 _ _)
theorem Gw [ZH] [ZN] [Ep] [Ai] : WG := ZD (Ky.eq_1 _ _)
theorem Q0h : Dc := ZD (JK.eq_1 _ _)
theorem RI : EZ := ZD (Yt.eq_1 _)
theorem L5 : Jb := ZD (Zt.eq_1 _)
theorem L6 [Br] : XY := ZD (Ko.eq_1 _)
theorem P6 [Ja] [Jm] [Yq] [Db] : Bt := ZD (K8.eq_1 _ _)
theorem Q4o : Er := ZD (YS.eq_1 _ _)
theorem NF [VJ] [Az] : Wg := ZD (JL.eq_1 _)
theorem Q4p [UK] : Cn := fun {a0} {a1} => ZD (VV.eq_1 _ _) (fun h => by
 obtain ⟨hz, hm⟩ := h
 exact HV (fun p => UG (stq p) ∧ KS a0 (stq p)) (fun p hp => ⟨⟨hp.1, hm⟩, hp.2⟩) fun J hJ => KL (fun _ => Un hz fun v _ hv => hJ _ ⟨hv.1, hv.2⟩) fun _ => hJ _ ⟨hz, fun hs => ⟨Kp.refl _, hs⟩⟩)
theorem Q0i [Gc] [Vt] [Cl] [Wo] : Gd := fun {a0} {a1} {a2} {a3} {a4} => nx1 (Vp.eq_1 _ _ _ _ _)
theorem L8 [YN] [YO] [Wg] [Cl] : Au := fun {a0} {a1} {a2} {a3} {a4} => nx1 (JW.eq_1 _ _ _ _ _)
theorem RJ : Ir := fun {a0} => ZD (V0.eq_1 _) (fun _ => by
 simp only [bA1, bA3]
 refine ixq (P := fun v => 1 ≤ v ∧ v ≤ 60) (by simp) ⟨by omega, by simp; omega⟩ fun a _ _ _ ha => ?_
 refine ixq (P := fun v => 8 ≤ v ∧ v ≤ 200) (by simp) ⟨by omega, by simp; omega⟩ fun b _ _ _ hb => ?_
 refine ixq (P := fun v => 1 ≤ v ∧ v ≤ 8) (by simp) ⟨by omega, by simp; omega⟩ fun c _ _ _ hc => ?_
 refine ixq (P := fun v => 1 ≤ v ∧ v ≤ 100) (by simp) ⟨by omega, by simp; omega⟩ fun d _ _ _ hd => ?_
 have w1 : IntKind.i64.wrap (2 + a0 % 2) = 2 + a0 % 2 := Zp (by omega)
 have w2 : IntKind.i64.wrap (2 + ZQ .i64 a0 1 % 2) = 2 + ZQ .i64 a0 1 % 2 := Zp (by omega)
 have w3 : IntKind.i64.wrap (1 + ZQ .i64 a0 10 % 4) = 1 + ZQ .i64 a0 10 % 4 := Zp (by omega)
 simp only [w1, w2, w3]
 refine ⟨?_, ?_, ?_, ?_, ?_, ?_, ?_⟩ <;> dsimp only <;> omega)
theorem Q0j [Hs] [HW] [F5] : M6 := nxb (Xp.eq_1 _)
theorem Q0k [HW] [Ht] : M7 := nxb (Xq.eq_1 _ _)
end Go.Proofs.YtimfmcpbkdpmoaaGreat
