/- Parts of the proof, laid together. No condition. -/
import Derived.Test.YtimfmcpbkdpmoaaGreatKB6
set_option linter.unusedVariables false
set_option linter.unusedSimpArgs false
set_option maxRecDepth 100000
set_option maxHeartbeats 4000000
namespace Go.Proofs.YtimfmcpbkdpmoaaGreat
open Go.RowKit
theorem Sb : Cb := Zp (Xj.eq_1 _ _)
theorem PD [Jc] [JC] [Bn] [Df] : E6 := Zp (XD.eq_1 _ _ _)
theorem PE : E8 := Zp (Xw.eq_1 _ _)
theorem O7 [Bg] [Bp] : XS := Zp (Kv.eq_1 _ _)
theorem Q1a : Dh := Zp (Y8.eq_1 _)
theorem PF [Bq] [WI] [x_ref14_Covers : Ug] [CK] : Ea := fun {a0} {a1} {a2} => Zp (XB.eq_1 _ _ _) (fun h => by
 have hz := h
 obtain ⟨z1, z2, z3, z4, z5, z6, z7, z8, z9⟩ := h
 obtain ⟨c1, c2, c3, c4, c5, c6, c7⟩ := z1
 obtain ⟨y1, y2, y3⟩ := z9
 have no : ∀ e : Int, (fun r : Q2 × Int => UO r.1 ∧ (Sv a0 → Kp a0 r.1 ∧ Sv r.1)) (a0, e) := fun e => ⟨hz, fun hs => ⟨Kp.refl _, hs⟩⟩
 refine Uf (by omega) fun i _ hi => ZX (fun _ => no _) fun ci => ?_
 have ci2 : 0 ≤ i := by simpa using ci
 obtain ⟨o, ho, _⟩ := hi.2.2 ci2
 have hol := (List.getElem?_eq_some_iff.1 ho).1
 have zo := z4 o (List.mem_of_getElem? ho)
 have hix : ix a0.fa6 i o := ⟨ci2, ho⟩
 refine ⟨o, hix, Uf ⟨by omega, zo.2⟩ fun q _ hq => ZX (fun _ => no _) fun cq => ?_⟩
 have q0 : q.2.2 = 0 := by simpa using cq
 obtain ⟨⟨ql, qz, qo⟩, hq2⟩ := hq
 obtain ⟨qm, qf⟩ := hq2 q0
 obtain ⟨b, hb, _⟩ := (x_ref14_Covers (a0 := a0.fc5) (a1 := q.2.1.fd5) (a2 := q.2.1.fTo)).go (by omega)
 refine ⟨b, fun _ => hb, ZX (fun _ => no _) fun c => ?_⟩
 have qt : q.2.1.fTo ≠ 0 := by
  simp only [Du, Bool.or_eq_false_iff, beq_eq_false_iff_ne] at c; exact c.1
 refine CZ ?_
 refine Iq (fun p => p.1 = q.1 ∧ p.2.1 ≤ 16384 ∧ p.2.2.length ≤ 16384 ∧ ∀ x ∈ p.2.2, Mp x) ?_ fun J hJ => ?_
 ·rintro ⟨l, cap, pg⟩ ⟨rfl, g1, g2, g3⟩
  dsimp only at *
  refine ⟨by omega, o, hix, CZ (Iq (fun os => os = a0.fa6.set i.toNat (Qw.mk o.fID q.1) ∨ (q.1 = [] ∧ os = a0.fa6.eraseIdx i.toNat)) (fun os hos => ?_) fun K hK => ZX (fun c => ?_) fun _ => hK _ (.inl rfl))⟩
  ·have zl : (os.length : Int) ≤ a0.f9 ∧ ∀ x ∈ os, zO a0.f9 x := by
    rcases hos with rfl | ⟨e, rfl⟩
    ·exact ⟨by simpa using z3, YI z4 ⟨by have := zo.1; dsimp only; omega, qz⟩⟩
    ·have sub : (a0.fa6.eraseIdx i.toNat).Sublist a0.fa6 := List.eraseIdx_sublist _ _
     exact ⟨by have := sub.length_le; omega, fun x hx => z4 x (sub.subset hx)⟩
   exact ⟨⟨⟨c1, c2, c3, c4, c5, c6, c7⟩, z2, zl.1, zl.2, z5, z6, z7, z8, g2, g1, g3⟩, fun hs => Qek hs ho qm (qf qt) hos⟩
  ·have el : q.1 = [] := by simpa using c
   have w : IntKind.i64.wrap (i + 1) = i + 1 := KI (by omega)
   rw [w]
   simp only [List.length_map, List.length_set, List.length_take, List.length_drop]
   refine ⟨⟨by omega, by omega⟩, ⟨by omega, by omega⟩, ⟨by omega, by omega⟩, hK _ (.inr ⟨el, ?_⟩)⟩
   rw [List.eraseIdx_eq_take_drop_succ]
   have e1 : (i + 1).toNat = i.toNat + 1 := by omega
   rw [e1, List.take_set_of_le (by omega), List.drop_set_of_lt (by omega)]
   simp only [Nat.zero_add]
   congr 1
   refine List.take_of_length_le ?_
   rw [List.length_drop]
   exact Nat.le_refl _
 ·refine lvi ⟨rfl, by simp, by simp, y2, y1, y3⟩ ?_
  rintro ⟨l, k, cap, pg⟩ ⟨i1, i2, i3, i4, i5, i6⟩ X hX
  dsimp only at *
  refine ZX (fun c => ?_) fun _ => hJ _ ⟨i1, i4, i5, i6⟩
  have ck : k < (q.2.1.fa8.length : Int) := by simpa using c
  obtain ⟨n, hn, _⟩ := Yy (l := q.2.1.fa8) (n := k) i2 ck
  have w : IntKind.i64.wrap (k + 1) = k + 1 := KI (by omega)
  rw [w]
  refine ⟨n, hn, Uf ⟨i5, i4, i6⟩ fun u _ hu => hX _ ⟨i1, by dsimp only; omega, by dsimp only; omega, hu.2.1, hu.1, hu.2.2⟩ (by dsimp only; omega)⟩)
theorem Q1b : KF := Zp (ZD.eq_1 _)
theorem Q1c [Lq] : Gx := Zp (Y5.eq_1 _)
theorem Q5w : Yc := Zp (ZH.eq_1 _ _)
theorem My [A5] : Bv := Zp (JI.eq_1 _ _)
theorem Nn [JV] [Gz] [Gy] [Kr] [Zs] [ZK] [Ks] [Zt] [ZF] : Vh := Zp (ZA.eq_1 _)
theorem Q5x [VB] : Cs := Zp (Y2.eq_1 _)
theorem Sc [Zx] : Fu := Zp (Yg.eq_1 _)
theorem Q5y [Ec] : EH := Zp (YP.eq_1 _ _)
theorem Is [ZK] [Zy] [CQ] : UK := Zp (KP.eq_1 _ _)
theorem GW [Zt] [Zy] [Wj] [Yc] [Dk] [Dl] : WM := Zp (K6.eq_1 _ _)
theorem Qa3 : Ls := fun {a0} {a1} => Zp (Ak.eq_1 _ _) (fun h => by
 refine ZX (fun _ => by decide) fun c => ?_
 simp only [Du, Bool.or_eq_false_iff, decide_eq_false_iff_not] at c
 have e : a1.tdiv 8 = a1 / 8 := Int.tdiv_eq_ediv_of_nonneg (by omega)
 have w : IntKind.i64.wrap (a1 / 8) = a1 / 8 := KI (by omega)
 rw [e, w] at c ⊢
 obtain ⟨v, hv, _⟩ := Yy (l := a0) (n := a1 / 8) (by omega) (by omega)
 exact ⟨v, hv, (Dt _).1, by rw [bA1]; omega⟩)
theorem Mz : Bz := Zp (JN.eq_1 _)
theorem GX [ZS] [Kt] [Zt] [XI] : WO := Zp (K8.eq_1 _)
theorem FP [Zs] [KF] [EI] : YJ := Zp (ZM.eq_1 _ _)
theorem Q5z [JV] [Ax] [BS] [Fu] [Ay] [CN] : EK := Zp (YO.eq_1 _)
theorem Sd : FA := Zp (Yo.eq_1 _)
theorem Q1d : GB := Zp (W9.eq_1 _)
theorem Q1e [GB] [JW] [Cq] [Wt] : GC := fun {a0} {a1} {a2} {a3} {a4} => nx1 (Wa.eq_1 _ _ _ _ _)
theorem PG [YL] [JW] [Bs] [GA] [Ce] [VU] : Eh := fun {a0} {a1} {a2} {a3} {a4} => nx1 (Xy.eq_1 _ _ _ _ _)
theorem Qem : BY := fun {a0} {a1} => Zp (VD.eq_1 _ _) (fun h => by
 refine ZX (fun _ => trivial) (fun c => ?_)
 have hp : (0 : Int) < a0.length := by simp at c; have := List.length_pos_iff.2 c; omega
 obtain ⟨v, hv, _⟩ := Yy (l := a0) (n := a1.tmod a0.length) (tm0 h) (tm1 h hp)
 exact ⟨by omega, v, hv, by omega, trivial⟩)
theorem Se [BY] [UU] [Dn] [Do] [HU] : FD := nxb (Yk.eq_1 _)
end Go.Proofs.YtimfmcpbkdpmoaaGreat
