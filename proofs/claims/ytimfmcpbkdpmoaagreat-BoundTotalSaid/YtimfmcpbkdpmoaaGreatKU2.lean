/- Parts of the proof, laid together. No condition. -/
import Derived.Test.YtimfmcpbkdpmoaaGreatKB6
set_option linter.unusedVariables false
set_option linter.unusedSimpArgs false
set_option maxRecDepth 100000
set_option maxHeartbeats 4000000
namespace Go.Proofs.YtimfmcpbkdpmoaaGreat
open Go.RowKit
theorem R1 : BA := fun {a0} {a1} => ZM (VD.eq_1 _ _) (fun h => joi (by
 refine Qb2 (l := a0) (by omega) (obF a1) (fun j x hx hix hf X hX => ?_) (fun e => ⟨⟨by simp, by omega⟩, fun _ => e, fun c => by simp at c⟩)
 have hj := (List.getElem?_eq_some_iff.1 hx).1
 refine ⟨x, hix, Z5 (fun c => ⟨⟨by omega, by omega⟩, fun c => by omega, fun _ => ⟨x, by rw [Q20]; exact hx, hf c⟩⟩) fun c => hX c⟩))
theorem R2 [Cq] [JJ] [Wz] [Dw] [Dx] [GO] [Cs] : BD := fun {a0} {a1} {a2} => ZM (VH.eq_1 _ _ _) (fun h => by
 obtain ⟨h, hn, hd, hdb, gb⟩ := h
 have hz := h
 obtain ⟨z1, z2, z3, z4, z5, z6, z7, z8, z9, hx⟩ := h
 obtain ⟨c1, c2, c3, c4, c5, c6, c7⟩ := z1
 obtain ⟨y1, y2, y3⟩ := z9
 have no : ∀ e : Int, e ≠ 16 → (fun r : Q2 × Int × Int => (UC r.1 ∧ r.2.2 ≠ 16) ∧ KE a0 r.1) (a0, 0, e) := fun e he => ⟨⟨hz, he⟩, KE.i (fun hs => hs) rfl (.inl rfl)⟩
 have w : IntKind.i64.wrap (a0.f7 + 1) = a0.f7 + 1 := Za (by omega)
 rw [w]
 refine K2 ⟨hd, hdb⟩ fun p _ hp => K2 hn fun u _ _ => Z5 (fun _ => no _ (by decide)) fun _ => Z5 (fun _ => no _ (by decide)) fun cd => K2 hz fun v _ _ => Z5 (fun _ => no _ (by decide)) fun _ => K2 (by omega) fun n _ _ => Z5 (fun _ => no _ (by decide)) fun _ => Z5 (fun _ => no _ (by decide)) fun cc => K2 hz fun k _ hk => Z5 (fun _ => no _ (by decide)) fun cl => ?_
 have w3 : IntKind.i64.wrap (k + (p.1.length : Int)) = k + (p.1.length : Int) := Za (by have := hp.1.2; omega)
 rw [w3] at cl
 have cl2 : (a0.fc1.f9.length : Int) + (p.1.length : Int) ≤ a0.fj.f9 := by simp at cl; omega
 obtain ⟨sp1, sp2⟩ := hp.2 (by omega)
 have cc2 : ¬ a0.f7 ≥ a0.fj.fc3 := by simpa using cc
 have cd2 : ¬ (a2.length : Int) > 65536 := by simpa using cd
 refine AR (fun q => q.1 ≤ 16384 ∧ (q.2.1.length ≤ 16384 ∧ ∀ x ∈ q.2.1, MK x) ∧ q.2.2.length ≤ 65536 ∧ Xp a0 q.2.2 q.1 q.2.1 ∧ Cn q.2.1 q.2.2 a2) ?_ fun J hJ => ?_
 ·rintro ⟨cap, pg, ns⟩ ⟨g1, ⟨g2, g3⟩, g4, g5, g6⟩
  dsimp only at *
  refine ⟨by omega, by simp; omega, K2 ⟨by omega, hn, z6⟩ fun b _ hb => ?_⟩
  obtain ⟨⟨b1, b2⟩, b3⟩ := hb
  have up : ∀ x ∈ a0.fa1, zO (a0.f7 + 1) x := fun x hx => ⟨by have := (z4 x hx).1; omega, (z4 x hx).2⟩
  refine ⟨⟨⟨⟨c1, c2, c3, c4, c5, c6, c7⟩, by dsimp only; omega, by simp; omega, ZS up (JC ⟨by simp; omega, JC g4⟩), by dsimp only; omega, b2, z7, z8, ⟨g2, g1, g3⟩, hx.com g5 g6 gb (Ob.app ⟨by omega, Int.le_refl _⟩) (by omega)⟩, by simp⟩, KE.i (fun hs => ?_) rfl (.inr (Mo.of (c := a0.f7 + 1) (Ob.app ⟨by omega, Int.le_refl _⟩) rfl))⟩
  have l0 := hs.l0
  have lc := hs.lc
  have wl : IntKind.i64.wrap (a0.ff4 + 1) = a0.ff4 + 1 := Za (by omega)
  rw [wl]
  refine { bt := fun x hx => (b3 x hx).elim (fun e => by have := hs.bt x e; dsimp only; omega) .inl, vt := ZS (fun x hx v hv => by have := hs.vt x hx v hv; dsimp only; omega) (JC (JC (.inl rfl))), id := ?_, la := ZS (fun x hx => by have := hs.la x hx; dsimp only; omega) (JC (Int.le_refl _)), l0 := by dsimp only; omega, lc := by dsimp only; omega }
  refine List.pairwise_append.2 ⟨hs.id, by simp, fun x hx y hy => ?_⟩
  rw [List.mem_singleton.1 hy]
  have := hs.la x hx
  dsimp only; omega
 ·refine EG (fun s => Xp a0 s.2.2.2.2 s.2.2.1 s.2.2.2.1 ∧ Cn s.2.2.2.1 s.2.2.2.2 (p.1.take s.2.1.toNat).flatten ∧ (s.2.2.2.1.length : Int) = a0.fc1.f9.length + s.2.1) ⟨rfl, hp.1.1, by simp, by simp, by simp, y2, y1, y3⟩ ⟨Xp.start hx, rfl, by simp⟩ ?_
  rintro ⟨l, i, cap, pg, ns⟩ ⟨i1, i2, i3, i4, i5, i6, i7, i8⟩ ⟨x1, x2, x3⟩ X hX
  dsimp only at *
  subst i1
  refine Z5 (fun c => ?_) fun c => hJ _ ⟨i6, ⟨i7, i8⟩, by have := hp.1.2; dsimp only; omega, x1, by rw [List.take_of_length_le (by simp at c; omega), sp1] at x2; exact x2⟩
  have ci : i < (p.1.length : Int) := by simpa using c
  obtain ⟨b, hb, hbm⟩ := Zp (l := p.1) (n := i) i3 ci
  have wi : IntKind.i64.wrap (i + 1) = i + 1 := Za (by have := hp.1.2; omega)
  rw [wi]
  have bm := List.mem_of_getElem? hbm
  refine ⟨b, hb, K2 ⟨⟨i7, i6, i8⟩, (i2 b bm).2⟩ fun t _ ht => ?_⟩
  obtain ⟨⟨t1, t2, t3⟩, t4⟩ := ht
  obtain ⟨u1, u2, u3, u4, _⟩ := Xp.alloc (a := Qq.mk cap pg) x1 t4 (sp2 b bm).1 (i2 b bm).1 (by dsimp only; omega) z2.1
  have e1 : (i + 1).toNat = i.toNat + 1 := by omega
  refine ⟨by have := hp.1.2; simp; omega, hX _ ⟨rfl, i2, by dsimp only; omega, by dsimp only; omega, by simp; omega, t2, t1, t3⟩ ⟨u1, ?_, by dsimp only at u4 ⊢; omega⟩ (by dsimp only; omega)⟩
  dsimp only
  rw [e1, List.take_add_one, hbm, List.flatten_append]
  simpa using (x2.mono fun m _ d => u3 m d).app u2)
theorem SH [FD] : FE := fun {a0} => ZM (YC.eq_1 _) (fun h => by
 have hz := h
 obtain ⟨z1, z2, z3, z4, z5, z6, z7, z8, z9⟩ := h
 obtain ⟨c1, c2, c3, c4, c5, c6, c7⟩ := z1
 refine K2 ⟨⟨by omega, by omega⟩, z6⟩ fun r _ hr => ?_
 obtain ⟨⟨r1, r2⟩, r3, r4⟩ := hr
 exact ⟨⟨⟨c1, c2, c3, c4, c5, c6, c7⟩, z2, z3, z4, by dsimp only; omega, r2, z7, z8, z9.1, z9.2.of rfl rfl rfl rfl⟩, fun hs => Qls hs r3 r4⟩)
theorem IJ [KM] : ZB := ZM (Z3.eq_1 _)
theorem Ig [ZA] : Kw := ZM (Z9.eq_1 _)
theorem Ih [ZA] [KM] : ZH := fun {a0} => Gf (Z0.eq_1 _) (fun h => by
 have hh := h
 obtain ⟨h1, h2, h3⟩ := h
 have nn : ∀ e : Int, e ≠ 0 → e ≠ 16 → (fun r : Int => (r = 0 → oRk a0) ∧ r ≠ 16) e := fun e a b => ⟨fun h => absurd h a, b⟩
 refine K2 trivial fun v2 _ q2 => nxg (fun _ => trivial) fun v3 _ q3 => nxg (fun _ => trivial) fun v4 _ q4 => Z5 (fun _ => nn _ (by decide) (by decide)) fun c => U0 (Z5 (fun _ => nn _ (by decide) (by decide)) fun c2 => ?_)
 have c3 : a0.fa8.length ≤ 41 := by simp at c2; omega
 have cc : (2 ≤ a0.fu ∧ a0.fu ≤ 32) ∧ oN a0.fy ∧ oN a0.fc9 := by
  simp only [CJ, Bool.or_eq_false_iff, Bool.not_eq_eq_eq_not, Bool.not_false] at c
  obtain ⟨⟨⟨k1, k2⟩, k3⟩, k4⟩ := c
  have q3 := q3 (by simp [k1, k2])
  have q4 := q4 (by simp [k1, k2, k3])
  rw [q2] at k1; rw [q3] at k3; rw [q4] at k4
  simp only [decide_eq_true_eq] at k1 k3 k4
  exact ⟨k1, k3.2, k4.2⟩
 refine AR (fun p => (∀ l ∈ a0.fa8, oKs l) ∧ ∀ l ∈ a0.fa8, (l.length : Int) < a0.fu) (fun p hp => ixg (fun c => ⟨by simp at c; rw [Za (by omega)]; omega, by simp at c; rw [Za (by omega)]; omega⟩) fun v _ _ => Z5 (fun _ => nn _ (by decide) (by decide)) fun _ => U0 (Z5 (fun _ => nn _ (by decide) (by decide)) fun _ => ⟨fun _ => ⟨cc.1, c3, cc.2.1, cc.2.2, hp.1, hp.2⟩, by decide⟩)) fun J hJ => EG (fun s => ∀ x ∈ List.take (Int.toNat s.2) a0.fa8, (x.length : Int) < a0.fu) ⟨by simp, by simp, by simp⟩ (by simp) ?_
 rintro ⟨n, i⟩ ⟨i0, i1, i2⟩ e X hX
 dsimp only at *
 refine Z5 (fun c => ?_) fun c => hJ _ ?_
 ·have ci : i < (a0.fa8.length : Int) := by simpa using c
  obtain ⟨y, hy, hym⟩ := Zp (l := a0.fa8) (n := i) i0 ci
  have zy := h2 y (List.mem_of_getElem? hym)
  rw [Za (n := i + 1) (by omega)]
  have e1 : (i + 1).toNat = i.toNat + 1 := by omega
  refine AR (fun _ => oKs y ∧ (y.length : Int) < a0.fu) (fun p hp => hX _ ⟨by dsimp only; omega, by dsimp only; omega, ?_⟩ ?_ (by dsimp only; omega)) fun K hK => ⟨y, hy, Z5 (fun _ => nn _ (by decide) (by decide)) fun c4 => ?_⟩
  ·dsimp only; rw [e1, List.take_add_one, hym]; exact ZS i2 (JC hp.1)
  ·dsimp only; rw [e1, List.take_add_one, hym]; exact ZS e (JC hp.2)
  ·have c5 : (y.length : Int) < a0.fu := by simp at c4; omega
   refine AR (fun _ => ∀ k ∈ y, oK k) (fun p hp => ⟨y, hy, by rw [IntKind.wrap_u64]; omega, hK _ ⟨⟨by omega, hp⟩, c5⟩⟩) fun L hL => lvi ⟨by decide, by decide, by simp⟩ ?_
   rintro k ⟨k0, k1, k2⟩ Y hY
   refine ⟨y, hy, Z5 (fun c => ?_) fun c => hL _ ?_⟩
   ·have ck : k < (y.length : Int) := by simpa using c
    obtain ⟨z, hz, hzm⟩ := Zp (l := y) (n := k) k0 ck
    rw [Za (n := k + 1) (by omega)]
    have e2 : (k + 1).toNat = k.toNat + 1 := by omega
    refine ⟨y, hy, z, hz, K2 trivial fun b _ qb => Z5 (fun _ => nn _ (by decide) (by decide)) fun c6 => ?_⟩
    by_cases k00 : k > 0
    ·rw [Za (n := k - 1) (by omega)]
     obtain ⟨z2, hz2, _⟩ := Zp (l := y) (n := k - 1) (by omega) (by omega)
     refine ⟨y, fun _ => hy, z, fun _ => hz, y, fun _ => hy, z2, fun _ => hz2, Z5 (fun _ => nn _ (by decide) (by decide)) fun _ => U0 (hY _ ⟨by omega, by omega, ?_⟩ (by omega))⟩
     rw [e2, List.take_add_one, hzm]; exact ZS k2 (JC (qb (by simpa using c6)))
    ·have kd : decide (k > 0) = false := by simpa using k00
     simp only [kd]
     refine ⟨[], fun c => (by cases c), ByteArray.empty, fun c => (by cases c), [], fun c => (by cases c), ByteArray.empty, fun c => (by cases c), Z5 (fun c => by cases c) fun _ => U0 (hY _ ⟨by omega, by omega, ?_⟩ (by omega))⟩
     rw [e2, List.take_add_one, hzm]; exact ZS k2 (JC (qb (by simpa using c6)))
   ·rw [List.take_of_length_le (by simp at c; omega)] at k2; exact k2
 ·rw [List.take_of_length_le (by simp at c; omega)] at i2 e; exact ⟨i2, e⟩)
theorem NG : C2 := ZM (Vd.eq_1 _ _)
theorem Q6r : EV := ZM (YS.eq_1 _)
theorem Ou : D8 := ZM (VR.eq_1 _)
theorem Ov [Ax] : Aa := ZM (V7.eq_1 _ _)
theorem Q6s [FI] : EX := ZM (Ye.eq_1 _ _ _)
theorem NH [Kx] [ZB] [Wp] [Ym] [AP] [Dz] : C5 := ZM (Vi.eq_1 _ _)
theorem R3 [VO] [UB] : BG := fun {a0} => ZM (VF.eq_1 _) (fun h => by
 obtain ⟨hl, hb⟩ := h
 refine Z5 (fun _ => ⟨⟨by simp, ZT, by simp⟩, fun _ => PY, fun _ => Gb.nil⟩) fun c0 => ?_
 have hp : 0 < a0.length := by simp at c0; exact List.length_pos_iff.2 c0
 refine ⟨by omega, K2 ⟨by simp; omega, Og hb⟩ fun d hd0 hd2 => ?_⟩
 obtain ⟨⟨⟨k0, k1⟩, n0, hk, h16⟩, hdu⟩ := hd2
 refine Z5 (fun _ => ⟨⟨by simp, ZT, h16⟩, fun _ => PY, fun _ => Gb.nil⟩) fun c1 => Z5 (fun _ => ⟨⟨by simp, ZT, by simp⟩, fun _ => PY, fun _ => Gb.nil⟩) fun c2 => ?_
 have e : d.2.2 = 0 := by simpa using c1
 have hk := hk e
 have hdu := hdu e
 have n1 : ¬ d.1 > 1048576 := by simpa using c2
 simp only [List.length_drop, Int.toNat_one] at k1
 have w1 : IntKind.i64.wrap (1 + d.2.1) = 1 + d.2.1 := Za (by omega)
 have w2 : IntKind.i64.wrap (1 + d.2.1 + d.1) = 1 + d.2.1 + d.1 := Za (by omega)
 have w3 : IntKind.i64.wrap (1 + d.2.1 + d.1 + 4) = 1 + d.2.1 + d.1 + 4 := Za (by omega)
 rw [w1, w2, w3]
 refine Z5 (fun _ => ⟨⟨by simp, ZT, by simp⟩, fun _ => PY, fun _ => Gb.nil⟩) fun c3 => ?_
 have c4 : ¬ (a0.length : Int) < 1 + d.2.1 + d.1 + 4 := by simpa using c3
 have hbb : bB (List.drop (Int.toNat (1 + d.2.1)) (List.take (Int.toNat (1 + d.2.1 + d.1)) a0)) := Og (PX hb)
 have hbl : ((List.drop (Int.toNat (1 + d.2.1)) (List.take (Int.toNat (1 + d.2.1 + d.1)) a0)).length : Int) = d.1 := by
  simp only [List.length_drop, List.length_take]; omega
 have hbo : ∃ n, List.drop (Int.toNat (1 + d.2.1)) (List.take (Int.toNat (1 + d.2.1 + d.1)) a0) = (bod a0).take n := by
  rw [getD_drop] at hdu
  have e1 : 1 + 0 = 1 := rfl
  rw [show Int.toNat 1 + 0 = 1 from rfl] at hdu
  refine ⟨d.1.toNat, ?_⟩
  have e2 : (1 + d.2.1 + d.1).toNat = (1 + d.2.1).toNat + d.1.toNat := by omega
  rw [e2, List.drop_take]
  unfold bod
  split
  ·rename_i g
   obtain ⟨g1, g2⟩ := hdu.1 g
   rw [List.take_take, g1, g2]
   congr 1; omega
  ·rename_i g
   obtain ⟨g1, g2⟩ := hdu.2 (by omega)
   rw [g1]
   congr 1
   ·omega
   ·congr 1; omega
 generalize List.drop (Int.toNat (1 + d.2.1)) (List.take (Int.toNat (1 + d.2.1 + d.1)) a0) = body at hbb hbl hbo ⊢
 have hbo : (Gb a0 → hd body) ∧ (Gd a0 → Gb body) := by
  obtain ⟨n, e⟩ := hbo
  rw [e]
  exact ⟨fun g => Qdr g n, fun g => g n⟩
 obtain ⟨t, ht, htm⟩ := Zp (l := a0) (n := 0) (by omega) (by omega)
 refine ⟨⟨by omega, by omega, by omega⟩, by omega, t, ht, K2 ⟨by omega, hbb, hb t (List.mem_of_getElem? htm)⟩ fun f _ hf => ?_⟩
 obtain ⟨⟨f1, f2, f3, f4, f5⟩, _⟩ := hf
 have f6 := f5 (by omega)
 have fl : f.1.length ≤ a0.length := by
  rcases hk with ⟨q1, q2⟩ | ⟨k, q1, q2⟩
  ·have := f3 (by omega); omega
  ·have := f4 k (by omega); omega
 refine U0 ?_
 refine AR (fun p => p.1 = body) (fun p hp => ⟨t, ht, ⟨by rw [hp]; omega, by rw [hp]; exact hbb, by simp⟩, by rw [hp]; exact hbo⟩) fun J hJ => ?_
 refine Bp (I := fun n (s : List Int × List Int × Int) => s.1 = body ∧ s.2.1 = f.1 ∧ 0 ≤ s.2.2 ∧ n = ((f.1.length : Int) - s.2.2 + 1).toNat) ?_ ⟨rfl, rfl, by dsimp only; rw [Za (by omega)]; omega, rfl⟩
 rintro n ⟨s1, s2, i⟩ ⟨g1, g2, i0, g5⟩ X hX
 dsimp only at *
 subst g1 g2
 refine Z5 (fun c => ?_) fun c => hJ _ rfl
 have ci : i < (f.1.length : Int) := by simpa using c
 obtain ⟨u, hu, _⟩ := Zp (l := f.1) (n := i) i0 ci
 obtain ⟨y, hy, _⟩ := Zp (l := a0) (n := i) i0 (by omega)
 have w : IntKind.i64.wrap (i + 1) = i + 1 := Za (by omega)
 rw [w]
 exact ⟨u, hu, y, hy, Z5 (fun _ => ⟨⟨by simp, ZT, by simp⟩, fun _ => PY, fun _ => Gb.nil⟩) fun _ => hX _ _ (by dsimp only; omega) ⟨rfl, rfl, by dsimp only; omega, rfl⟩⟩)
theorem LK [ZX] [Ky] [Kw] : AF := ZM (Jv.eq_1 _)
theorem NI [ZX] [Ky] [Kx] [XT] : C6 := ZM (Vj.eq_1 _)
theorem Ow [Kx] [Wp] [AP] [Ym] [BL] : Db := ZM (VW.eq_1 _ _)
theorem Q6t : EY := ZM (YW.eq_1 _ _)
theorem Ox [Vn] [AP] : Wt := ZM (Jj.eq_1 _)
theorem Q6u [UY] : CM := fun {a0} {a1} => ZM (VB.eq_1 _ _) (fun h => by
 obtain ⟨hz, hm⟩ := h
 exact AR (fun p => UC (stq p) ∧ KS a0 (stq p)) (fun p hp => ⟨⟨hp.1, hm⟩, hp.2⟩) fun J hJ => Z5 (fun _ => K2 hz fun v _ hv => hJ _ ⟨hv.1, hv.2⟩) fun _ => hJ _ ⟨hz, fun hs => ⟨Kp.refl _, hs⟩⟩)
theorem SI [CK] [X1] [BC] [Uq] : Cz := fun {a0} {a1} => Gf (Xm.eq_1 _ _) (fun h => by
 obtain ⟨hz, hl⟩ := h
 refine Z5 (fun c => ?_) fun c => U0 (joi (EG (fun s => MO a0 a1 s.1 s.2.1 ∧ (s.2.2.2.2.2.2.2.2.2.1 ≤ 2 ∧ s.2.2.2.2.2.2.2.2.2.2.1 ≤ 4 ∧ s.2.2.2.2.2.2.2.2.2.2.2.2.2.2.2.2.2.2.2.2.2.2.2.2.2.2.1 ≤ 4) ∧ (s.2.2.2.2.2.2.2.2.2.2.2.2.2.2.2.2.2.2.2.2.2.2.2.2.2.2.2.2.2.2.2.2.2.2.2.2.2.2.1 ≤ 2 ∧ s.2.2.2.2.2.2.2.2.2.2.2.2.2.2.2.2.2.2.2.2.2.2.2.2.2.2.2.2.2.2.2.2.2.2.2.2.2.2.2.1 ≤ 4 ∧ s.2.2.2.2.2.2.2.2.2.2.2.2.2.2.2.2.2.2.2.2.2.2.2.2.2.2.2.2.2.2.2.2.2.2.2.2.2.2.2.2.2.2.2.2.2.2.2.2.2.2.2.2.2.2.2.1 ≤ 4) ∧ s.2.2.2.2.2.2.2.2.2.2.2.2.2.2.2.2.2.2.2.2.2.2.2.2.2.2.2.2.2.2.2.2.2.2.2.2.2.2.2.2.2.1.length ≤ 8 ∧ s.2.2.2.2.2.2.2.2.2.2.2.2.2.2.2.2.2.2.2.2.2.2.2.2.2.2.2.2.2.2.2.2.2.2.2.2.2.2.2.2.2.2.2.2.2.1.length ≤ 256 ∧ s.2.2.2.2.2.2.2.2.2.2.2.2.2.2.2.2.2.2.2.2.2.2.2.2.2.2.2.2.2.2.2.2.2.2.2.2.2.2.2.2.2.2.2.2.2.2.2.2.1.length ≤ 32 ∧ s.2.2.2.2.2.2.2.2.2.2.2.2.2.2.2.2.2.2.2.2.2.2.2.2.2.2.2.2.2.2.2.2.2.2.2.2.2.2.2.2.2.2.2.2.2.2.2.2.2.2.2.2.2.1.length ≤ 32 ∧ s.2.2.2.2.2.2.2.2.2.2.2.2.2.2.2.2.2.2.2.2.2.2.2.2.2.2.2.2.2.2.2.2.2.2.2.2.2.2.2.2.2.2.2.2.2.2.2.2.2.2.2.2.2.2.2.2.2.2.1.length ≤ 41 ∧ ∀ l ∈ s.2.2.2.2.2.2.2.2.2.2.2.2.2.2.2.2.2.2.2.2.2.2.2.2.2.2.2.2.2.2.2.2.2.2.2.2.2.2.2.2.2.2.2.2.2.2.2.2.2.2.2.2.2.2.2.2.2.2.1, l.length ≤ 4) ?_ ?_ ?_))
 ·revert hz c; exact yx_
 ·clear hz; revert hl; exact yx_
 ·exact ⟨MO.nil, ⟨by decide, by decide, by decide⟩, ⟨by decide, by decide, by decide⟩, by decide, by decide, by decide, by decide, by decide, by simp⟩
 ·revert hz hl; exact yx_)
theorem LL [YQ] [YR] [Wt] [CK] : AI := fun {a0} {a1} {a2} {a3} {a4} => Gf (Jy.eq_1 _ _ _ _ _)
theorem SJ : Ld := fun {a0} => ZM (JE.eq_1 _) (fun _ => by
 simp only [bA1, bA3]
 refine ixq (P := fun v => 1 ≤ v ∧ v ≤ 60) (by simp) ⟨by omega, by simp; omega⟩ fun a _ _ _ ha => ?_
 refine ixq (P := fun v => 8 ≤ v ∧ v ≤ 200) (by simp) ⟨by omega, by simp; omega⟩ fun b _ _ _ hb => ?_
 refine ixq (P := fun v => 1 ≤ v ∧ v ≤ 8) (by simp) ⟨by omega, by simp; omega⟩ fun c _ _ _ hc => ?_
 refine ixq (P := fun v => 1 ≤ v ∧ v ≤ 100) (by simp) ⟨by omega, by simp; omega⟩ fun d _ _ _ hd => ?_
 have w1 : IntKind.i64.wrap (2 + a0 % 2) = 2 + a0 % 2 := Za (by omega)
 have w2 : IntKind.i64.wrap (2 + QD .i64 a0 1 % 2) = 2 + QD .i64 a0 1 % 2 := Za (by omega)
 have w3 : IntKind.i64.wrap (1 + QD .i64 a0 10 % 4) = 1 + QD .i64 a0 10 % 4 := Za (by omega)
 simp only [w1, w2, w3]
 refine ⟨?_, ?_, ?_, ?_, ?_, ?_, ?_⟩ <;> dsimp only <;> omega)
theorem Q27 [C9] [Ie] : DG := nxb (Ya.eq_1 _ _)
end Go.Proofs.YtimfmcpbkdpmoaaGreat
