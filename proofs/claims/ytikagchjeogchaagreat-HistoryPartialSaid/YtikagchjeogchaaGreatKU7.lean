/- Parts of the proof, laid together. No condition. -/
import Derived.Test.YtikagchjeogchaaGreatKB6
set_option linter.unusedVariables false
set_option linter.unusedSimpArgs false
set_option maxRecDepth 100000
set_option maxHeartbeats 4000000
namespace Go.Proofs.YtikagchjeogchaaGreat
open Go.RowKit
theorem Ik [Cm] : WT := Zu (K2.eq_1 _)
theorem Qax [WT] : Rw := Zu (UL.eq_1 _)
theorem OU [YI] : Co := Zu (JY.eq_1 _ _)
theorem Q6c : EK := Zu (Xz.eq_1 _ _)
theorem II [Yk] : Un := Zu (Kj.eq_1 _ _)
theorem TN : FG := Zu (Y3.eq_1 _ _)
theorem TO [I5] : Cw := Zu (VU.eq_1 _ _)
theorem Q6d : EM := Zu (YG.eq_1 _)
theorem TP [XQ] [U9] [FF] : FH := Zu (Yc.eq_1 _ _ _)
theorem Q1z [GL] : GN := Zu (YX.eq_1 _)
theorem Q20 : DO := Zu (XF.eq_1 _ _)
theorem LR [ZH] [KU] : ZM := Zu (Z2.eq_1 _)
theorem Mr [AZ] : AE := Zu (KZ.eq_1 _ _)
theorem Q21 [ZH] : GP := Zu (YN.eq_1 _)
theorem S2 [ZH] : El := Zu (Xi.eq_1 _)
theorem S3 : B2 := Zu (Vg.eq_1 _)
theorem Q6e [X0] [Ek] : Ap := Zu (VI.eq_1 _ _)
theorem TQ [Xe] [Ap] : CE := fun {a0} => Zu (VV.eq_1 _) (fun h => by
 obtain ⟨hl, hb⟩ := h
 refine Wk (fun _ => ⟨by simp, We, by simp⟩) fun c0 => ?_
 have hp : 0 < a0.length := by simp at c0; exact List.length_pos_iff.2 c0
 refine ⟨by omega, nx_ ⟨by simp; omega, Qi3 hb⟩ fun d hd hd2 => ?_⟩
 obtain ⟨⟨k0, k1⟩, n0, hk, h16⟩ := hd2
 refine Wk (fun _ => ⟨by simp, We, h16⟩) fun c1 => Wk (fun _ => ⟨by simp, We, by simp⟩) fun c2 => ?_
 have e : d.2.2 = 0 := by simpa using c1
 have hk := hk e
 have n1 : ¬ d.1 > 1048576 := by simpa using c2
 simp only [List.length_drop, Int.toNat_one] at k1
 have w1 : IntKind.i64.wrap (1 + d.2.1) = 1 + d.2.1 := Vk (by omega)
 have w2 : IntKind.i64.wrap (1 + d.2.1 + d.1) = 1 + d.2.1 + d.1 := Vk (by omega)
 have w3 : IntKind.i64.wrap (1 + d.2.1 + d.1 + 4) = 1 + d.2.1 + d.1 + 4 := Vk (by omega)
 rw [w1, w2, w3]
 refine Wk (fun _ => ⟨by simp, We, by simp⟩) fun c3 => ?_
 have c4 : ¬ (a0.length : Int) < 1 + d.2.1 + d.1 + 4 := by simpa using c3
 have hbb : bB (List.drop (Int.toNat (1 + d.2.1)) (List.take (Int.toNat (1 + d.2.1 + d.1)) a0)) := Qi3 (Qi2 hb)
 have hbl : ((List.drop (Int.toNat (1 + d.2.1)) (List.take (Int.toNat (1 + d.2.1 + d.1)) a0)).length : Int) = d.1 := by
  simp only [List.length_drop, List.length_take]; omega
 generalize List.drop (Int.toNat (1 + d.2.1)) (List.take (Int.toNat (1 + d.2.1 + d.1)) a0) = body at hbb hbl ⊢
 obtain ⟨t, ht, htm⟩ := Cj (l := a0) (n := 0) (by omega) (by omega)
 refine ⟨⟨by omega, by omega, by omega⟩, by omega, t, ht, nx_ ⟨by omega, hbb, hb t (List.mem_of_getElem? htm)⟩ fun f _ hf => ?_⟩
 obtain ⟨f1, f2, f3, f4, f5⟩ := hf
 have f6 := f5 (by omega)
 have fl : f.1.length ≤ a0.length := by
  rcases hk with ⟨q1, q2⟩ | ⟨k, q1, q2⟩
  ·have := f3 (by omega); omega
  ·have := f4 k (by omega); omega
 refine LF ?_
 refine jmp (fun p => p.1.length ≤ 100000000 ∧ bB p.1) (fun p hp => ⟨t, ht, hp.1, hp.2, by simp⟩) fun J hJ => ?_
 refine DZ (I := fun n (s : List Int × List Int × Int) => s.1 = body ∧ s.2.1 = f.1 ∧ 0 ≤ s.2.2 ∧ n = ((f.1.length : Int) - s.2.2 + 1).toNat) ?_ ⟨rfl, rfl, by dsimp only; rw [Vk (by omega)]; omega, rfl⟩
 rintro n ⟨s1, s2, i⟩ ⟨g1, g2, i0, g5⟩ X hX
 dsimp only at *
 subst g1 g2
 refine Wk (fun c => ?_) fun c => hJ _ ⟨by dsimp only; omega, hbb⟩
 have ci : i < (f.1.length : Int) := by simpa using c
 obtain ⟨u, hu, _⟩ := Cj (l := f.1) (n := i) i0 ci
 obtain ⟨y, hy, _⟩ := Cj (l := a0) (n := i) i0 (by omega)
 have w : IntKind.i64.wrap (i + 1) = i + 1 := Vk (by omega)
 rw [w]
 exact ⟨u, hu, y, hy, Wk (fun _ => ⟨by simp, We, by simp⟩) fun _ => hX _ _ (by dsimp only; omega) ⟨rfl, rfl, by dsimp only; omega, rfl⟩⟩)
theorem IJ [ZS] [GU] : Uw := Zu (Kl.eq_1 _)
theorem TR [VD] [ZT] [Ao] [Bw] [Us] [AH] [Dj] [Ut] [By] : CM := Zu (VP.eq_1 _ _ _ _)
theorem S4 [VD] [BL] : U2 := Zu (Ju.eq_1 _)
theorem OV [Xr] : UE := Zu (Jg.eq_1 _ _ _)
theorem Qay [Wh] [LH] [E5] [YK] : Gh := Zu (Wp.eq_1 _ _ _)
theorem Q6f [Ie] [V9] [E3] [U9] : If := Zu (WI.eq_1 _ _ _ _ _)
theorem NK [Wi] [Wj] [U2] [E3] : BC := Zu (JG.eq_1 _ _ _ _ _)
theorem TS [Wi] [V9] [Cy] [Ic] [DL] [Xr] : FO := Zu (Y5.eq_1 _ _ _ _ _)
theorem Q22 : MV := fun {a0} => Zu (XE.eq_1 _) (fun _ => by
 simp only [bA1, bA3]
 refine ixq (P := fun v => 1 ≤ v ∧ v ≤ 60) (by simp) ⟨by omega, by simp; omega⟩ fun a _ _ _ ha => ?_
 refine ixq (P := fun v => 8 ≤ v ∧ v ≤ 200) (by simp) ⟨by omega, by simp; omega⟩ fun b _ _ _ hb => ?_
 refine ixq (P := fun v => 1 ≤ v ∧ v ≤ 8) (by simp) ⟨by omega, by simp; omega⟩ fun c _ _ _ hc => ?_
 refine ixq (P := fun v => 1 ≤ v ∧ v ≤ 100) (by simp) ⟨by omega, by simp; omega⟩ fun d _ _ _ hd => ?_
 have w1 : IntKind.i64.wrap (2 + a0 % 2) = 2 + a0 % 2 := Vk (by omega)
 have w2 : IntKind.i64.wrap (2 + Qu .i64 a0 1 % 2) = 2 + Qu .i64 a0 1 % 2 := Vk (by omega)
 have w3 : IntKind.i64.wrap (1 + Qu .i64 a0 10 % 4) = 1 + Qu .i64 a0 10 % 4 := Vk (by omega)
 simp only [w1, w2, w3]
 refine ⟨?_, ?_, ?_, ?_, ?_, ?_, ?_⟩ <;> dsimp only <;> omega)
theorem Qf9 : FR := fun {a0} => Zu (YL.eq_1 _) (fun _ => by
 simp only [Qq2, Z26]
 refine Wk (fun _ => sz1 (by simp)) fun _ => ⟨by simp, ?_⟩
 exact ixq (P := fun v => v.size ≤ 32) (by decide) ⟨tm0 (by omega), tm1 (by omega) (by simp)⟩ fun a _ _ _ ha => ha)
theorem Q6g : ET := nxb (VH.eq_1 _)
theorem Q6h [Ap] : Ih := nxb (Ww.eq_1 _ _)
theorem Q23 [Dn] [PM] [Ii] : MW := nxb (XH.eq_1 _ _ _)
end Go.Proofs.YtikagchjeogchaaGreat
