/- Parts of the proof, laid together. No condition. -/
import Derived.Test.YtimfmcpbkdpmoaaGreatKB6
set_option linter.unusedVariables false
set_option linter.unusedSimpArgs false
set_option maxRecDepth 100000
set_option maxHeartbeats 4000000
namespace Go.Proofs.YtimfmcpbkdpmoaaGreat
open Go.RowKit
theorem Q5t [Wh] : NV := Zp (U0.eq_1 _)
theorem Lt [XL] : Au := Zp (Ju.eq_1 _ _)
theorem Pv : Bo := fun {a0} {a1} => Zp (Vy.eq_1 _ _) (fun _ => by
 refine ZX (fun c => ?_) fun c => CZ ?_
 ·simp only [Du, Bool.or_eq_true, decide_eq_true_eq] at c
  unfold clF; rw [if_pos c]
 ·simp only [Du, Bool.or_eq_false_iff, decide_eq_false_iff_not] at c
  have h : ¬ (a0 < 0 ∨ a1 < 1) := by omega
  refine ⟨by omega, ZX (fun d => ⟨by omega, ?_⟩) fun d => ⟨by omega, ?_⟩⟩
  ·unfold clF; rw [if_neg h, if_pos (by simpa using d)]
  ·unfold clF; rw [if_neg h, if_neg (by simpa using d)])
theorem Pw [Gs] : Br := Zp (Vw.eq_1 _ _)
theorem Px [JC] [Wt] [E7] : E9 := fun {a0} {a1} {a2} => Zp (XF.eq_1 _ _ _) (fun h => by
 obtain ⟨h, hn, hn2⟩ := h
 have hz := h
 obtain ⟨z1, z2, z3, z4, z5, z6, z7, z8, z9⟩ := h
 obtain ⟨c1, c2, c3, c4, c5, c6, c7⟩ := z1
 have no : ∀ e : Int, e ≠ 16 → (fun r : Q2 × Int × Int => (UO r.1 ∧ r.2.2 ≠ 16) ∧ KE a0 r.1) (a0, 0, e) := fun e he => ⟨⟨hz, he⟩, KE.i (fun hs => hs) rfl (.inl rfl)⟩
 have w : IntKind.i64.wrap (a0.f9 + 1) = a0.f9 + 1 := KI (by omega)
 rw [w]
 refine Uf hn2 fun u _ _ => ZX (fun _ => no _ (by decide)) fun _ => Uf hz fun v _ _ => ZX (fun _ => no _ (by decide)) fun _ => Uf hz fun v _ _ => ZX (fun _ => no _ (by decide)) fun _ => ZX (fun _ => no _ (by decide)) fun cc => Uf ⟨by omega, ⟨hn, hn2⟩, z6⟩ fun b _ hb => ?_
 have cc2 : ¬ a0.f9 ≥ a0.fk.fc7 := by simpa using cc
 obtain ⟨⟨b1, b2⟩, b3⟩ := hb
 refine ⟨⟨⟨⟨c1, c2, c3, c4, c5, c6, c7⟩, by dsimp only; omega, by dsimp only; omega, fun x hx => ⟨by have := (z4 x hx).1; dsimp only; omega, (z4 x hx).2⟩, by dsimp only; omega, b2, z7, z8, z9⟩, by simp⟩, KE.i (fun hs => ?_) rfl (.inr (by dsimp only; omega))⟩
 exact { bt := fun x hx => (b3 x hx).elim (fun e => by have := hs.bt x e; dsimp only; omega) (fun e => by dsimp only; omega), vt := fun x hx v hv => by have := hs.vt x hx v hv; dsimp only; omega, id := hs.id, la := hs.la, l0 := hs.l0, lc := by have := hs.lc; dsimp only; omega })
theorem Py : Bu := Zp (VA.eq_1 _ _)
theorem Nj [Bj] [Gx] [JC] [Ft] [XM] [JV] : FO := Zp (Jw.eq_1 _)
theorem HW [Zx] : Kr := Zp (Z9.eq_1 _)
theorem HX [Zx] [KF] : ZF := Zp (QY.eq_1 _)
theorem Nk : BQ := Zp (V7.eq_1 _ _)
theorem Q5u : EG := Zp (YN.eq_1 _)
theorem O5 : CM := Zp (VJ.eq_1 _)
theorem O6 [As] : A6 := Zp (V1.eq_1 _ _)
theorem Q5v [Fv] : EI := Zp (Y4.eq_1 _ _ _)
theorem Nl [Ks] [Zy] [Wj] [Yc] [AK] [Dj] : BU := Zp (Vd.eq_1 _ _)
theorem Pz [VG] [Uv] : Bw := fun {a0} => Zp (Vx.eq_1 _) (fun h => by
 obtain ⟨hl, hb⟩ := h
 refine ZX (fun _ => ⟨by simp, VT, by simp⟩) fun c0 => ?_
 have hp : 0 < a0.length := by simp at c0; exact List.length_pos_iff.2 c0
 refine ⟨by omega, Uf ⟨by simp; omega, TW hb⟩ fun d hd hd2 => ?_⟩
 obtain ⟨⟨k0, k1⟩, n0, hk, h16⟩ := hd2
 refine ZX (fun _ => ⟨by simp, VT, h16⟩) fun c1 => ZX (fun _ => ⟨by simp, VT, by simp⟩) fun c2 => ?_
 have e : d.2.2 = 0 := by simpa using c1
 have hk := hk e
 have n1 : ¬ d.1 > 1048576 := by simpa using c2
 simp only [List.length_drop, Int.toNat_one] at k1
 have w1 : IntKind.i64.wrap (1 + d.2.1) = 1 + d.2.1 := KI (by omega)
 have w2 : IntKind.i64.wrap (1 + d.2.1 + d.1) = 1 + d.2.1 + d.1 := KI (by omega)
 have w3 : IntKind.i64.wrap (1 + d.2.1 + d.1 + 4) = 1 + d.2.1 + d.1 + 4 := KI (by omega)
 rw [w1, w2, w3]
 refine ZX (fun _ => ⟨by simp, VT, by simp⟩) fun c3 => ?_
 have c4 : ¬ (a0.length : Int) < 1 + d.2.1 + d.1 + 4 := by simpa using c3
 have hbb : bB (List.drop (Int.toNat (1 + d.2.1)) (List.take (Int.toNat (1 + d.2.1 + d.1)) a0)) := TW (TU hb)
 have hbl : ((List.drop (Int.toNat (1 + d.2.1)) (List.take (Int.toNat (1 + d.2.1 + d.1)) a0)).length : Int) = d.1 := by
  simp only [List.length_drop, List.length_take]; omega
 generalize List.drop (Int.toNat (1 + d.2.1)) (List.take (Int.toNat (1 + d.2.1 + d.1)) a0) = body at hbb hbl ⊢
 obtain ⟨t, ht, htm⟩ := Yy (l := a0) (n := 0) (by omega) (by omega)
 refine ⟨⟨by omega, by omega, by omega⟩, by omega, t, ht, Uf ⟨by omega, hbb, hb t (List.mem_of_getElem? htm)⟩ fun f _ hf => ?_⟩
 obtain ⟨f1, f2, f3, f4, f5⟩ := hf
 have f6 := f5 (by omega)
 have fl : f.1.length ≤ a0.length := by
  rcases hk with ⟨q1, q2⟩ | ⟨k, q1, q2⟩
  ·have := f3 (by omega); omega
  ·have := f4 k (by omega); omega
 refine CZ ?_
 refine Iq (fun p => p.1.length ≤ 100000000 ∧ bB p.1) (fun p hp => ⟨t, ht, hp.1, hp.2, by simp⟩) fun J hJ => ?_
 refine Cp (I := fun n (s : List Int × List Int × Int) => s.1 = body ∧ s.2.1 = f.1 ∧ 0 ≤ s.2.2 ∧ n = ((f.1.length : Int) - s.2.2 + 1).toNat) ?_ ⟨rfl, rfl, by dsimp only; rw [KI (by omega)]; omega, rfl⟩
 rintro n ⟨s1, s2, i⟩ ⟨g1, g2, i0, g5⟩ X hX
 dsimp only at *
 subst g1 g2
 refine ZX (fun c => ?_) fun c => hJ _ ⟨by dsimp only; omega, hbb⟩
 have ci : i < (f.1.length : Int) := by simpa using c
 obtain ⟨u, hu, _⟩ := Yy (l := f.1) (n := i) i0 ci
 obtain ⟨y, hy, _⟩ := Yy (l := a0) (n := i) i0 (by omega)
 have w : IntKind.i64.wrap (i + 1) = i + 1 := KI (by omega)
 rw [w]
 exact ⟨u, hu, y, hy, ZX (fun _ => ⟨by simp, VT, by simp⟩) fun _ => hX _ _ (by dsimp only; omega) ⟨rfl, rfl, by dsimp only; omega, rfl⟩⟩)
theorem HY [VG] : ZS := Zp (Qh.eq_1 _ _)
theorem Mw [VG] : BA := Zp (JO.eq_1 _)
theorem Lu [ZK] : AD := Zp (Js.eq_1 _ _)
theorem GU [ZK] [Fy] : WP := Zp (Kb.eq_1 _)
theorem PC [Bw] [VG] [AB] [WN] [UL] [BV] [WO] [AC] : Uk := Zp (JP.eq_1 _)
theorem Mx [JW] : Yd := Zp (Ke.eq_1 _ _ _)
theorem Sa [Cq] [VU] [Bs] [Uk] : Ci := fun {a0} {a1} => nx1 (Xf.eq_1 _ _) (fun h => by
 obtain ⟨hz, hl⟩ := h
 refine ZX (fun c => ?_) fun c => CZ (joi (Qym (fun s => Mt a0 a1 s.1 s.2.1) ?_ ?_ ?_))
 ·revert hz c; exact yx_
 ·clear hz; revert hl; exact yx_
 ·exact Mt.nil
 ·revert hz hl; exact yx_)
theorem GV [UT] : WQ := fun {a0} {a1} {a2} => nx1 (Kc.eq_1 _ _ _)
theorem Q18 [FB] [Eg] [Eh] [Ei] [GC] [CX] [HQ] [Ul] [WQ] [AE] [BW] [UN] [Ej] : Mu := fun {a0} {a1} => Zp (We.eq_1 _ _) (fun h => by
 obtain ⟨hz, s1, s2, s3, s4, s5, s6⟩ := h
 have hk : a0.fk.fb5 ≤ 64 := by
  obtain ⟨z1, _⟩ := hz
  obtain ⟨c1, c2, c3, c4, c5, c6, c7⟩ := z1
  omega
 have hcf : Qif a0.fk := hz.1
 refine ZX (fun c => ?_) fun c => ?_
 ·have c1 : a1.fOp.f8 = 6 := by simpa using c
  exact Uf ⟨hz, hk, s4, s5, s6 c1⟩ fun v _ hv => ⟨hv.1.1, ⟨s1, s2, s3⟩, ⟨rfl, rfl, rfl, rfl⟩, fun _ => hv.1.2, hv.2.1, fun _ => hv.2.2, fun e => by omega, fun e => by omega, fun e => absurd c1 e⟩
 have c6 : a1.fOp.f8 ≠ 6 := by simpa using c
 have pk : ∀ (r : Qk) (sn : List QH) (cu : List Ze), Mq r → (sn.length = 4 ∧ cu.length = 4 ∧ ∀ y ∈ sn, zSn y) → YA a0 r → (a1.fOp.f8 = 9 → OpP a0.fk.fb5 (a1.fOp.fb2.length : Int) a1.fa r) → (a1.fOp.f8 = 16 → ImP a0.fk (a1.fOp.fc2.length : Int) a1.fa r) → (a1.fOp.f8 ≠ 7 → a1.fOp.f8 ≠ 8 → a1.fOp.f8 ≠ 9 → a1.fOp.f8 ≠ 15 → a1.fOp.f8 ≠ 16 → a1.fOp.f8 ≠ 17 → r.fg4 = true) → (fun r : Qk × Q6 => Mq r.1 ∧ (r.2.fd0.length = 4 ∧ r.2.ff6.length = 4 ∧ ∀ y ∈ r.2.fd0, zSn y) ∧ (r.2.fOp = a1.fOp ∧ r.2.fa = a1.fa ∧ r.2.ff5 = a1.ff5 ∧ r.2.fd6 = a1.fd6) ∧ (a1.fOp.f8 = 6 → r.1.fa.fd7 ≤ (a1.fOp.fa7.length : Int)) ∧ YA a0 r.1 ∧ ((a1.fOp.f8 = 6 → BtP a0 a0.fk.fb5 a1.fOp.fd2 (a1.fOp.fa7.length : Int) a1.fa r.1) ∧ (a1.fOp.f8 = 9 → OpP a0.fk.fb5 (a1.fOp.fb2.length : Int) a1.fa r.1) ∧ (a1.fOp.f8 = 16 → ImP a0.fk (a1.fOp.fc2.length : Int) a1.fa r.1) ∧ (a1.fOp.f8 ≠ 6 → a1.fOp.f8 ≠ 7 → a1.fOp.f8 ≠ 8 → a1.fOp.f8 ≠ 9 → a1.fOp.f8 ≠ 15 → a1.fOp.f8 ≠ 16 → a1.fOp.f8 ≠ 17 → r.1.fg4 = true))) (r, Q6.mk a1.ff5 a1.fOp a1.fa a1.fd6 sn cu) := fun r sn cu h1 h2 h3 h4 h5 h6 => ⟨h1, h2, ⟨rfl, rfl, rfl, rfl⟩, fun e => absurd e c6, h3, fun e => absurd e c6, h4, h5, fun _ => h6⟩
 have s123 : a1.fd0.length = 4 ∧ a1.ff6.length = 4 ∧ ∀ y ∈ a1.fd0, zSn y := ⟨s1, s2, s3⟩
 refine Iq (fun p => (p = true → a1.fOp.f8 = 7 ∨ a1.fOp.f8 = 8) ∧ (p = false → a1.fOp.f8 ≠ 7 ∧ a1.fOp.f8 ≠ 8)) ?_ fun J hJ => ZX (fun d => ?_) fun d => ?_
 ·rintro p ⟨p1, p2⟩
  refine ZX (fun d => ?_) fun d => ?_
  ·have := p1 d
   exact Uf ⟨hz, hk, s4, s5⟩ fun v _ hv => pk v _ _ hv.1 s123 hv.2 (fun e => by omega) (fun e => by omega) (fun _ _ => by omega)
  have c78 := p2 d
  refine ZX (fun d => ?_) fun d => ?_
  ·have e : a1.fOp.f8 = 15 := by simpa using d
   exact Uf ⟨hz, hcf, s1, s3, s5⟩ fun v _ hv => pk v _ _ hv.1 s123 hv.2 (fun e => by omega) (fun e => by omega) (fun _ _ _ h => absurd e h)
  have c15 : a1.fOp.f8 ≠ 15 := by simpa using d
  refine ZX (fun d => ?_) fun d => ?_
  ·have e : a1.fOp.f8 = 16 := by simpa using d
   exact Uf ⟨hz, hcf, s4, s5⟩ fun v _ hv => pk v _ _ hv.1 s123 hv.2.1 (fun e => by omega) (fun _ => hv.2.2) (fun _ _ _ _ h => absurd e h)
  have c16 : a1.fOp.f8 ≠ 16 := by simpa using d
  refine ZX (fun d => ?_) fun d => ?_
  ·have e : a1.fOp.f8 = 9 := by simpa using d
   refine Uf ⟨hz, hk, s1, s4, s5⟩ fun v _ hv => Iq (fun p => p.length = 4 ∧ ∀ y ∈ p, zSn y) (fun p hp => pk v _ _ hv.1 ⟨hp.1, s2, hp.2⟩ hv.2.1 (fun _ => hv.2.2) (fun e => by omega) (fun _ _ h => absurd e h)) fun J hJ => CZ (ZX (fun _ => ?_) fun _ => hJ _ ⟨s1, s3⟩)
   refine ⟨by omega, ixi ⟨s5.1.1, by have := s5.1.2; omega⟩ fun x _ _ _ => CZ (hJ _ ⟨by simp [s1], ?_⟩)⟩
   exact YI s3 s4.1
  have c9 : a1.fOp.f8 ≠ 9 := by simpa using d
  refine ZX (fun d => ?_) fun d => ?_
  ·have e : a1.fOp.f8 = 17 := by simpa using d
   exact Uf ⟨hz, s5⟩ fun v _ hv => pk v _ _ hv.1 s123 hv.2 (fun e => by omega) (fun e => by omega) (fun _ _ _ _ _ h => absurd e h)
  refine ZX (fun d => ?_) fun d => ?_
  ·exact Uf ⟨hz, s1, s3⟩ fun u _ hu => Uf ⟨hz, hu⟩ fun v _ hv => pk v _ _ hv.1 s123 (YA.o hv.2.1 (KS.refl _)) (fun e => absurd e c9) (fun e => absurd e c16) (fun _ _ _ _ _ _ => hv.2.2)
  refine ZX (fun d => ?_) fun d => ?_
  ·exact Uf ⟨hz, s1, s3⟩ fun u _ hu => Uf ⟨hu.1.1, hu.1.2.2.2⟩ fun v _ hv => pk v _ _ hv.1 ⟨hu.1.2.1, s2, hu.1.2.2.1⟩ (YA.o hv.2.1 hu.2) (fun e => absurd e c9) (fun e => absurd e c16) (fun _ _ _ _ _ _ => hv.2.2)
  refine ZX (fun d => ?_) fun d => ?_
  ·exact Uf ⟨hz, s1, s3, s2⟩ fun u _ hu => CZ (Uf ⟨hu.1.1, hu.1.2.2⟩ fun v _ hv => pk v _ _ hv.1 ⟨s1, hu.1.2.1, s3⟩ (YA.o hv.2.1 hu.2) (fun e => absurd e c9) (fun e => absurd e c16) (fun _ _ _ _ _ _ => hv.2.2))
  refine ZX (fun d => ?_) fun d => ?_
  ·exact Uf ⟨hz, s2⟩ fun u _ hu => CZ (Uf ⟨hz, hu.2⟩ fun v _ hv => pk v _ _ hv.1 ⟨s1, hu.1, s3⟩ (YA.o hv.2.1 (KS.refl _)) (fun e => absurd e c9) (fun e => absurd e c16) (fun _ _ _ _ _ _ => hv.2.2))
  refine ZX (fun d => ?_) fun d => ?_
  ·exact Uf ⟨hz, s2⟩ fun u _ hu => CZ (Uf ⟨hu.1.1, hu.1.2.2⟩ fun v _ hv => pk v _ _ hv.1 ⟨s1, hu.1.2.1, s3⟩ (YA.o hv.2.1 hu.2) (fun e => absurd e c9) (fun e => absurd e c16) (fun _ _ _ _ _ _ => hv.2.2))
  exact Uf ⟨hz, s4⟩ fun v _ hv => pk v _ _ hv.1 s123 hv.2.2 (fun e => absurd e c9) (fun e => absurd e c16) (fun _ _ _ _ _ _ => hv.2.1)
 ·have e : a1.fOp.f8 = 7 := by simpa using d
  exact hJ _ ⟨fun _ => .inl e, fun h => by rw [d] at h; cases h⟩
 ·have e : a1.fOp.f8 ≠ 7 := by simpa using d
  exact hJ _ ⟨fun h => .inr (by simpa using h), fun h => ⟨e, by simpa using h⟩⟩)
theorem Q19 : Do := nxb (Vl.eq_1 _)
end Go.Proofs.YtimfmcpbkdpmoaaGreat
