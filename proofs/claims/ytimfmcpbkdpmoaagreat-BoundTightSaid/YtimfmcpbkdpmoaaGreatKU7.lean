/- Parts of the proof, laid together. No condition. -/
import Derived.Test.YtimfmcpbkdpmoaaGreatKB6
set_option linter.unusedVariables false
set_option linter.unusedSimpArgs false
set_option maxRecDepth 100000
set_option maxHeartbeats 4000000
namespace Go.Proofs.YtimfmcpbkdpmoaaGreat
open Go.RowKit
theorem Gg [B6] : W8 := ZD (Zw.eq_1 _)
theorem S4 : Wm := fun {a0} {a1} {a2} => ZD (Ku.eq_1 _ _ _) (fun _ => by unfold OZ; rw [Co, Fl])
theorem NN [Wn] : CC := ZD (Xj.eq_1 _ _)
theorem Pk [Yp] : DK := ZD (Vj.eq_1 _ _)
theorem S5 [Ai] : ES := ZD (VN.eq_1 _)
theorem Q0w : Bb := ZD (Vo.eq_1 _ _)
theorem GC : Y1 := ZD (K1.eq_1 _)
theorem Lf [Y1] : Aj := ZD (JX.eq_1 _ _)
theorem Pl : Bc := fun {a0} {a1} => ZD (VX.eq_1 _ _) (fun _ => by
 refine KL (fun c => ?_) fun c => XH ?_
 ·simp only [Co, Bool.or_eq_true, decide_eq_true_eq] at c
  unfold clF; rw [if_pos c]
 ·simp only [Co, Bool.or_eq_false_iff, decide_eq_false_iff_not] at c
  have h : ¬ (a0 < 0 ∨ a1 < 1) := by omega
  refine ⟨by omega, KL (fun d => ⟨by omega, ?_⟩) fun d => ⟨by omega, ?_⟩⟩
  ·unfold clF; rw [if_neg h, if_pos (by simpa using d)]
  ·unfold clF; rw [if_neg h, if_neg (by simpa using d)])
theorem Pm [G3] : Bg := ZD (JC.eq_1 _ _)
theorem Pn [V7] [Wo] [DR] : DU := fun {a0} {a1} {a2} => ZD (XW.eq_1 _ _ _) (fun h => by
 obtain ⟨h, hn, hn2⟩ := h
 have hz := h
 obtain ⟨z1, z2, z3, z4, z5, z6, z7, z8, z9⟩ := h
 obtain ⟨c1, c2, c3, c4, c5, c6, c7⟩ := z1
 have no : ∀ e : Int, e ≠ 16 → (fun r : Q2 × Int × Int => (UG r.1 ∧ r.2.2 ≠ 16) ∧ KE a0 r.1) (a0, 0, e) := fun e he => ⟨⟨hz, he⟩, KE.i (fun hs => hs) rfl (.inl rfl)⟩
 have w : IntKind.i64.wrap (a0.fa1 + 1) = a0.fa1 + 1 := Zp (by omega)
 rw [w]
 refine Un hn2 fun u _ _ => KL (fun _ => no _ (by decide)) fun _ => Un hz fun v _ _ => KL (fun _ => no _ (by decide)) fun _ => Un hz fun v _ _ => KL (fun _ => no _ (by decide)) fun _ => KL (fun _ => no _ (by decide)) fun cc => Un ⟨by omega, ⟨hn, hn2⟩, z6⟩ fun b _ hb => ?_
 have cc2 : ¬ a0.fa1 ≥ a0.fq.fc5 := by simpa using cc
 obtain ⟨⟨b1, b2⟩, b3⟩ := hb
 refine ⟨⟨⟨⟨c1, c2, c3, c4, c5, c6, c7⟩, by dsimp only; omega, by dsimp only; omega, fun x hx => ⟨by have := (z4 x hx).1; dsimp only; omega, (z4 x hx).2⟩, by dsimp only; omega, b2, z7, z8, z9⟩, by simp⟩, KE.i (fun hs => ?_) rfl (.inr (by dsimp only; omega))⟩
 exact { bt := fun x hx => (b3 x hx).elim (fun e => by have := hs.bt x e; dsimp only; omega) (fun e => by dsimp only; omega), vt := fun x hx v hv => by have := hs.vt x hx v hv; dsimp only; omega, id := hs.id, la := hs.la, l0 := hs.l0, lc := by have := hs.lc; dsimp only; omega })
theorem Po : Bl := ZD (VY.eq_1 _ _)
theorem Hw [ZM] : J0 := ZD (Z2.eq_1 _)
theorem Hy [ZM] [Jm] : ZV := ZD (QR.eq_1 _)
theorem MY : BK := ZD (Jj.eq_1 _ _)
theorem Q4w : El := ZD (YP.eq_1 _)
theorem NO : CF := ZD (Xe.eq_1 _)
theorem NP [Ai] : UT := ZD (Vx.eq_1 _ _)
theorem Q4x [EY] : Ep := ZD (Yk.eq_1 _ _ _)
theorem MZ [Ja] [ZN] [Wa] [Yq] [Az] [Db] : BN := ZD (VE.eq_1 _ _)
theorem Pp [Xa] [Bn] : Bo := fun {a0} => ZD (VW.eq_1 _) (fun h => by
 obtain ⟨hl, hb⟩ := h
 refine KL (fun _ => ⟨by simp, VS, by simp⟩) fun c0 => ?_
 have hp : 0 < a0.length := by simp at c0; exact List.length_pos_iff.2 c0
 refine ⟨by omega, Un ⟨by simp; omega, Tg hb⟩ fun d hd hd2 => ?_⟩
 obtain ⟨⟨k0, k1⟩, n0, hk, h16⟩ := hd2
 refine KL (fun _ => ⟨by simp, VS, h16⟩) fun c1 => KL (fun _ => ⟨by simp, VS, by simp⟩) fun c2 => ?_
 have e : d.2.2 = 0 := by simpa using c1
 have hk := hk e
 have n1 : ¬ d.1 > 1048576 := by simpa using c2
 simp only [List.length_drop, Int.toNat_one] at k1
 have w1 : IntKind.i64.wrap (1 + d.2.1) = 1 + d.2.1 := Zp (by omega)
 have w2 : IntKind.i64.wrap (1 + d.2.1 + d.1) = 1 + d.2.1 + d.1 := Zp (by omega)
 have w3 : IntKind.i64.wrap (1 + d.2.1 + d.1 + 4) = 1 + d.2.1 + d.1 + 4 := Zp (by omega)
 rw [w1, w2, w3]
 refine KL (fun _ => ⟨by simp, VS, by simp⟩) fun c3 => ?_
 have c4 : ¬ (a0.length : Int) < 1 + d.2.1 + d.1 + 4 := by simpa using c3
 have hbb : bB (List.drop (Int.toNat (1 + d.2.1)) (List.take (Int.toNat (1 + d.2.1 + d.1)) a0)) := Tg (Tf hb)
 have hbl : ((List.drop (Int.toNat (1 + d.2.1)) (List.take (Int.toNat (1 + d.2.1 + d.1)) a0)).length : Int) = d.1 := by
  simp only [List.length_drop, List.length_take]; omega
 generalize List.drop (Int.toNat (1 + d.2.1)) (List.take (Int.toNat (1 + d.2.1 + d.1)) a0) = body at hbb hbl ⊢
 obtain ⟨t, ht, htm⟩ := YV (l := a0) (n := 0) (by omega) (by omega)
 refine ⟨⟨by omega, by omega, by omega⟩, by omega, t, ht, Un ⟨by omega, hbb, hb t (List.mem_of_getElem? htm)⟩ fun f _ hf => ?_⟩
 obtain ⟨f1, f2, f3, f4, f5⟩ := hf
 have f6 := f5 (by omega)
 have fl : f.1.length ≤ a0.length := by
  rcases hk with ⟨q1, q2⟩ | ⟨k, q1, q2⟩
  ·have := f3 (by omega); omega
  ·have := f4 k (by omega); omega
 refine XH ?_
 refine HV (fun p => p.1.length ≤ 100000000 ∧ bB p.1) (fun p hp => ⟨t, ht, hp.1, hp.2, by simp⟩) fun J hJ => ?_
 refine XM (I := fun n (s : List Int × List Int × Int) => s.1 = body ∧ s.2.1 = f.1 ∧ 0 ≤ s.2.2 ∧ n = ((f.1.length : Int) - s.2.2 + 1).toNat) ?_ ⟨rfl, rfl, by dsimp only; rw [Zp (by omega)]; omega, rfl⟩
 rintro n ⟨s1, s2, i⟩ ⟨g1, g2, i0, g5⟩ X hX
 dsimp only at *
 subst g1 g2
 refine KL (fun c => ?_) fun c => hJ _ ⟨by dsimp only; omega, hbb⟩
 have ci : i < (f.1.length : Int) := by simpa using c
 obtain ⟨u, hu, _⟩ := YV (l := f.1) (n := i) i0 ci
 obtain ⟨y, hy, _⟩ := YV (l := a0) (n := i) i0 (by omega)
 have w : IntKind.i64.wrap (i + 1) = i + 1 := Zp (by omega)
 rw [w]
 exact ⟨u, hu, y, hy, KL (fun _ => ⟨by simp, VS, by simp⟩) fun _ => hX _ _ (by dsimp only; omega) ⟨rfl, rfl, by dsimp only; omega, rfl⟩⟩)
theorem Hz [Xa] : Kj := ZD (Qj.eq_1 _ _)
theorem Mf [Xa] : Br := ZD (Vh.eq_1 _)
theorem Lg [K2] : As := ZD (JV.eq_1 _ _)
theorem S6 [DY] : F1 := ZD (Yz.eq_1 _ _ _)
theorem Pq [VJ] [VZ] [Bn] [Ak] [WE] [UB] [BL] [WF] [Al] : Ub := ZD (Z5.eq_1 _)
theorem Pr : Vt := ZD (Z0.eq_1 _ _)
theorem Q4y [YN] [YO] [Et] : Hr := ZD (U6.eq_1 _ _ _ _ _)
theorem Q0x [BQ] [Ca] [CE] [Bl] : Ge := ZD (W5.eq_1 _ _ _)
theorem Ps [Es] [Ub] [Bj] [Yr] [G6] [Vt] [Ud] [DU] [Xm] [EV] [YO] [Et] : E4 := fun {a0} {a1} => nx1 (Vr.eq_1 _ _)
theorem Q4z [x_ref12_New : Es] [x_ref12_Insert : Bu] : Ns := fun {a0} {a1} {a2} => ⟨fun hp => ex_ (by
 obtain ⟨⟨h1, h2⟩, h3⟩ := hp
 rw [Yl.eq_1]
 obtain ⟨v, hv, hz⟩ := (x_ref12_New (a0 := a0)).go trivial
 refine ⟨v, hv, HV (fun p => zS (Q6.mk (Q9.mk p.1 p.2.1 p.2.2.1 p.2.2.2.1) (Qc.mk p.2.2.2.2.1 p.2.2.2.2.2.1 p.2.2.2.2.2.2.1) (Q3.mk p.2.2.2.2.2.2.2.1 p.2.2.2.2.2.2.2.2.1 p.2.2.2.2.2.2.2.2.2.1 p.2.2.2.2.2.2.2.2.2.2.1 p.2.2.2.2.2.2.2.2.2.2.2.1) (Q7.mk p.2.2.2.2.2.2.2.2.2.2.2.2.1 p.2.2.2.2.2.2.2.2.2.2.2.2.2.1 p.2.2.2.2.2.2.2.2.2.2.2.2.2.2.1) (Qd.mk p.2.2.2.2.2.2.2.2.2.2.2.2.2.2.2.1 p.2.2.2.2.2.2.2.2.2.2.2.2.2.2.2.2.1 p.2.2.2.2.2.2.2.2.2.2.2.2.2.2.2.2.2.1 p.2.2.2.2.2.2.2.2.2.2.2.2.2.2.2.2.2.2.1) (Q4.mk p.2.2.2.2.2.2.2.2.2.2.2.2.2.2.2.2.2.2.2.1 p.2.2.2.2.2.2.2.2.2.2.2.2.2.2.2.2.2.2.2.2.1 p.2.2.2.2.2.2.2.2.2.2.2.2.2.2.2.2.2.2.2.2.2.1 p.2.2.2.2.2.2.2.2.2.2.2.2.2.2.2.2.2.2.2.2.2.2.1 p.2.2.2.2.2.2.2.2.2.2.2.2.2.2.2.2.2.2.2.2.2.2.2.1) (Q8.mk p.2.2.2.2.2.2.2.2.2.2.2.2.2.2.2.2.2.2.2.2.2.2.2.2.1 p.2.2.2.2.2.2.2.2.2.2.2.2.2.2.2.2.2.2.2.2.2.2.2.2.2.1 p.2.2.2.2.2.2.2.2.2.2.2.2.2.2.2.2.2.2.2.2.2.2.2.2.2.2.1 p.2.2.2.2.2.2.2.2.2.2.2.2.2.2.2.2.2.2.2.2.2.2.2.2.2.2.2.1 p.2.2.2.2.2.2.2.2.2.2.2.2.2.2.2.2.2.2.2.2.2.2.2.2.2.2.2.2))) (fun p h => h) fun J hJ => ?_⟩
 refine XM (I := fun n s => ∃ (sk : Q6) (at_ : Int) (j : Nat), zS sk ∧ j ≤ a1.length ∧ n = a1.length - j ∧ s = (at_, (j : Int), sk.fu.fa4, sk.fu.fx, sk.fu.fa6, sk.fu.fa5, sk.fa2.f9, sk.fa2.fb7, sk.fa2.fg, sk.fj.fa6, sk.fj.fx, sk.fj.fa5, sk.fj.fc0, sk.fj.fg, sk.fa0.fa7, sk.fa0.fa5, sk.fa0.fa3, sk.fb5.fx, sk.fb5.f9, sk.fb5.fw, sk.fb5.fg, sk.fk.fx, sk.fk.f9, sk.fk.fd1, sk.fk.fw, sk.fk.fg, sk.f7.fx, sk.f7.f9, sk.f7.fc6, sk.f7.fb2, sk.f7.fg)) ?_ (k := a1.length) ⟨v.1, 0, 0, hz, by omega, by omega, rfl⟩
 rintro n s ⟨sk, q, j, hs, hj, hn, rfl⟩ X hX
 refine ⟨fun c => ?_, fun c => hJ _ hs⟩
 have hj2 : j < a1.length := by simpa using c
 have w : IntKind.i64.wrap ((j : Int) + 1) = ((j + 1 : Nat) : Int) := by rw [Zp (by omega)]; omega
 rw [w]
 obtain ⟨u, hu, hu2⟩ := (x_ref12_Insert (a0 := sk) (a1 := a1[j]) (a2 := a2) (a3 := q)).go ⟨hs, h2 _ (List.getElem_mem hj2), h3⟩
 exact ⟨_, CM hj2, u, hu, hX (a1.length - (j + 1)) _ (by omega) ⟨u.1, u.2.1, j + 1, hu2, by omega, rfl, rfl⟩⟩)⟩
end Go.Proofs.YtimfmcpbkdpmoaaGreat
