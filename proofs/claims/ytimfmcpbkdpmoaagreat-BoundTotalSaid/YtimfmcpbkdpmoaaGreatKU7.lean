/- Parts of the proof, laid together. No condition. -/
import Derived.Test.YtimfmcpbkdpmoaaGreatKB6
set_option linter.unusedVariables false
set_option linter.unusedSimpArgs false
set_option maxRecDepth 100000
set_option maxHeartbeats 4000000
namespace Go.Proofs.YtimfmcpbkdpmoaaGreat
open Go.RowKit
theorem T3 : Wx := fun {a0} {a1} {a2} => ZM (Jd.eq_1 _ _ _) (fun _ => by unfold Q0p; rw [CJ, II])
theorem Ij : Yl := ZM (ZV.eq_1 _)
theorem Rl : Um := ZM (V0.eq_1 _ _ _)
theorem Rm : El := ZM (JR.eq_1 _ _ _)
theorem Rn [Jg] [x_ref1_IsName : JJ] [Bv] [Dv] [Cp] : Eo := fun {a0} {a1} {a2} {a3} => ZM (XO.eq_1 _ _ _ _) (fun h => by
 obtain ⟨hl, ⟨h1, h2⟩, hz⟩ := h
 have no : ∀ e : Int, (fun r : List Qp × Int => (r.1.length ≤ a0.length + 1 ∧ ∀ x ∈ r.1, zB x) ∧ ∀ x ∈ r.1, x ∈ a0 ∨ x.fTo = a3 ∨ x.fTo = 0) ([], e) := fun e => ⟨⟨by simp, ZT⟩, fun x hx => by simp at hx⟩
 refine K2 ⟨hl, hz⟩ fun v _ _ => Z5 (fun _ => no _) fun _ => K2 h1 fun n1 hn1 _ => ?_
 obtain ⟨n2, hn2, _⟩ := (x_ref1_IsName (a0 := a2)).go h2
 refine ⟨n2, fun _ => hn2, Z5 (fun _ => no _) fun _ => Z5 (fun _ => no _) fun _ => K2 hl fun l _ _ => Z5 (fun _ => no _) fun _ => K2 hl fun i _ hi => Z5 (fun _ => no _) fun ci => K2 hl fun k _ _ => Z5 (fun _ => no _) fun _ => ?_⟩
 have ci2 : ¬ i < 0 := by simpa using ci
 obtain ⟨b, hb, hbm⟩ := Zp (l := a0) (n := i) (by omega) hi.2
 have zb := hz b (List.mem_of_getElem? hbm)
 refine ⟨b, hb, Z5 (fun _ => no _) fun _ => ⟨by omega, b, hb, U0 ⟨b, hb, K2 (by simpa using hl) fun r hr hr2 => ?_⟩⟩⟩
 refine ⟨⟨by have := hr2.1; simp at this; dsimp only; omega, fun x hx => ZS (P := zB) (XS (a := Qp.mk b.fd4 b.fb7 b.fd0 a3) hz zb) (JC (a := Qp.mk a2 b.fb7 a3 0) h2) x (hr2.2 x hx)⟩, fun x hx => ?_⟩
 rcases List.mem_append.1 (hr2.2 x hx) with e | e
 ·rcases List.mem_or_eq_of_mem_set e with e | e
  ·exact .inl e
  ·exact .inr (.inl (by rw [e]))
 ·exact .inr (.inr (by rw [List.mem_singleton.1 e])))
theorem Ro : Ep := fun {a0} {a1} => ZM (XG.eq_1 _ _) (fun h => by
 obtain ⟨⟨hl, hm⟩, hz, hy⟩ := h
 refine AR (fun p => (p.length = a1.length ∧ ∀ (k : Nat), p[k]? = some true → k < a0.length) ∧ ∀ (k : Nat), p[k]? = some true → ∃ d, a0[k]? = some d ∧ a1[k]? = some d) (fun p hp => hp) fun J hJ => EG (fun s => ∀ (k : Nat), s.1[k]? = some true → ∃ d, a0[k]? = some d ∧ a1[k]? = some d) ⟨by simp, by simp, by simp, by simp, by simp⟩ (by simp) ?_
 rintro ⟨l, i⟩ ⟨i0, i1, i2, i3, i4⟩ e X hX
 dsimp only at *
 have ad : ∀ (b : Bool) (P : Nat → Prop), (∀ k : Nat, l[k]? = some true → P k) → (b = true → P i.toNat) → ∀ k : Nat, (l ++ [b])[k]? = some true → P k := fun b P h1 h2 k hk => by
  rcases Nat.lt_trichotomy k l.length with g | g | g
  ·rw [List.getElem?_append_left g] at hk; exact h1 k hk
  ·subst g
   simp at hk
   have : i.toNat = l.length := by omega
   rw [← this]; exact h2 hk
  ·rw [List.getElem?_eq_none (by simp; omega)] at hk; cases hk
 refine Z5 (fun c => ?_) fun c => hJ _ ⟨⟨by simp at c; omega, i4⟩, e⟩
 have ci : i < (a1.length : Int) := by simpa using c
 have w : IntKind.i64.wrap (i + 1) = i + 1 := Za (by omega)
 rw [w]
 obtain ⟨y, hy1, hym⟩ := Zp (l := a1) (n := i) i0 ci
 refine Z5 (fun d => ?_) fun d => U0 ⟨by simp; omega, U0 (hX _ ⟨by dsimp only; omega, by dsimp only; omega, by simp; omega, by simp; omega, ad false _ i4 (fun h => by cases h)⟩ (ad false _ e (fun h => by cases h)) (by dsimp only; omega))⟩
 have di : i < (a0.length : Int) := by simpa using d
 obtain ⟨x, hx1, hxm⟩ := Zp (l := a0) (n := i) i0 di
 refine ⟨x, hx1, y, hy1, U0 ⟨by simp; omega, hX _ ⟨by dsimp only; omega, by dsimp only; omega, by simp; omega, by simp; omega, ad _ _ i4 (fun _ => by omega)⟩ (ad _ _ e fun h => ⟨x, hxm, ?_⟩) (by dsimp only; omega)⟩⟩
 have zx := hz x (List.mem_of_getElem? hxm)
 have zy := hy y (List.mem_of_getElem? hym)
 rw [hym, Qtk zx.2 zy.2 (by simpa using h)])
theorem Rp : By := ZM (VA.eq_1 _ _)
theorem T4 [Bu] : Wz := ZM (KC.eq_1 _ _)
theorem T5 [By] [Bt] : UY := fun {a0} {a1} => ⟨fun hp => by
 have g : Nx (JF a0 a1) (UC a0) (fun r => UC r.1 ∧ r.1.f7 = a0.f7 ∧ r.1.fj = a0.fj ∧ r.1.fb4 = a0.fb4 ∧ r.1.fa1 = a0.fa1 ∧ r.1.ff4 = a0.ff4) := Gf (JF.eq_1 _ _)
 obtain ⟨r, h1, h2, e1, e2, e3, e4, e5⟩ := g.go hp
 exact ⟨r, h1, h2, fun h => ⟨Kp.of e1 e2 e3 e4, h.of e1 e3 e4 e5⟩⟩⟩
theorem OG [Um] : D7 := ZM (VX.eq_1 _ _)
theorem T6 [Bs] [ZB] [JJ] : FG := ZM (Xk.eq_1 _ _ _)
theorem LX [ZA] [KM] [Ym] [Cw] : Kx := ZM (Ze.eq_1 _)
theorem Rq [Wo] : Et := ZM (XC.eq_1 _ _)
theorem Q76 : Un := ZM (Vy.eq_1 _)
theorem Ho [Zw] [VK] [Un] [CL] : WQ := ZM (K9.eq_1 _)
theorem OH [ZA] : D9 := ZM (VS.eq_1 _)
theorem Qb9 [Eu] : LI := ZM (An.eq_1 _ _)
theorem Qba [Ax] : Wp := ZM (QZ.eq_1 _ _)
theorem MZ : VO := fun {a0} => ZM (ZR.eq_1 _) (fun h => by
 obtain ⟨hl, hb⟩ := h
 refine Z5 (fun _ => ⟨⟨⟨by simp, by simp⟩, by simp, fun c => by simp at c, by simp⟩, fun h => by cases h⟩) fun c0 => ?_
 have hp : 0 < a0.length := by simp at c0; exact List.length_pos_iff.2 c0
 obtain ⟨v, hv, hvm⟩ := Zp (l := a0) (n := 0) (by omega) (by omega)
 have hv2 := hb v (List.mem_of_getElem? hvm)
 have hg : a0.getD 0 0 = v := getD_at hvm
 refine ⟨v, hv, Z5 (fun c => ⟨v, hv, ⟨⟨by simp, by simp; omega⟩, ?_, fun _ => .inl ⟨rfl, ?_⟩, by simp⟩, fun _ => ⟨fun _ => ⟨by rw [hg]; exact Za (by omega), rfl⟩, fun h => by rw [hg] at h; simp at c; omega⟩⟩) fun c => ⟨v, hv, ?_⟩⟩
 ·dsimp only; rw [Za (by omega)]; omega
 ·dsimp only; rw [Za (by omega)]; simpa using c
 have c2 : ¬ v < 248 := by simpa using c
 have e1 : IntKind.i64.wrap (IntKind.i64.wrap v - 247) = v - 247 := by rw [Za (n := v) (by omega), Za (by omega)]
 have e2 : IntKind.i64.wrap (v - 247 + 1) = v - 246 := by rw [Za (by omega)]; omega
 rw [e1, e2]
 refine Z5 (fun _ => ⟨⟨⟨by simp, by simp⟩, by simp, fun c => by simp at c, by simp⟩, fun h => by cases h⟩) fun c3 => ?_
 have c4 : ¬ (a0.length : Int) ≤ v - 247 := by simpa using c3
 refine AR (fun p => 0 ≤ p ∧ p < 256 ^ (v - 247).toNat) ?_ fun J hJ => lvi ⟨by decide, by omega, by decide, by simp⟩ ?_
 ·rintro p ⟨p0, p1⟩
  obtain ⟨u, hu, _⟩ := Zp (l := a0) (n := 1) (by omega) (by omega)
  refine ⟨u, hu, Z5 (fun _ => ⟨⟨⟨by simp, by simp⟩, by simp, fun c => by simp at c, by simp⟩, fun h => by cases h⟩) fun c => ?_⟩
  simp only [CJ, Bool.or_eq_false_iff, decide_eq_false_iff_not] at c
  have w : IntKind.i64.wrap p = p := Za (by omega)
  rw [w]
  refine ⟨⟨⟨by dsimp only; omega, by dsimp only; omega⟩, p0, fun _ => .inr ⟨(v - 247).toNat, by dsimp only; omega, p1⟩, by simp⟩, fun _ => ⟨fun h => by rw [hg] at h; omega, fun _ => ⟨by rw [hg], by dsimp only; omega⟩⟩⟩
 ·rintro ⟨x, i⟩ ⟨i1, i2, x0, x1⟩ X hX
  dsimp only at *
  refine Z5 (fun c => ?_) fun c => hJ _ ⟨x0, ?_⟩
  ·have ci : i ≤ v - 247 := by simpa using c
   obtain ⟨u, hu, hum⟩ := Zp (l := a0) (n := i) (by omega) (by omega)
   have hu2 := hb u (List.mem_of_getElem? hum)
   have p7 := p256 (k := (i - 1).toNat) (by omega)
   have w : IntKind.i64.wrap (i + 1) = i + 1 := Za (by omega)
   refine ⟨u, hu, ?_⟩
   rw [Z0q x0 (by omega) hu2.1 hu2.2, w]
   refine hX _ ⟨by dsimp only; omega, by dsimp only; omega, by dsimp only; omega, ?_⟩ (by dsimp only; omega)
   dsimp only
   have e : (i + 1 - 1).toNat = (i - 1).toNat + 1 := by omega
   rw [e, Int.pow_succ]
   generalize (256 : Int) ^ (i - 1).toNat = M at *
   omega
  ·have ci : ¬ i ≤ v - 247 := by simpa using c
   have : i = v - 246 := by omega
   rw [this] at x1
   have e : (v - 246 - 1).toNat = (v - 247).toNat := by omega
   rw [e] at x1; exact x1)
theorem Ik [VO] : ZX := fun {a0} {a1} => ZM (Qk.eq_1 _ _) (fun h => by
 obtain ⟨h1, h2, h3, h4⟩ := h
 refine ⟨⟨h1, h2⟩, K2 ⟨by rw [List.length_drop]; omega, Og h4⟩ fun v _ hv => ?_⟩
 obtain ⟨⟨⟨k0, k1⟩, n0, _, _⟩, hdu⟩ := hv
 rw [List.length_drop] at k1
 refine Z5 (fun _ => ⟨⟨⟨h1, h2, h3, h4⟩, by simp, fun h => h⟩, rfl, fun _ => ⟨rfl, rfl⟩, fun _ => .inl ⟨rfl, rfl⟩⟩) fun c => ?_
 simp only [CJ, Bool.or_eq_false_iff, decide_eq_false_iff_not, bne_eq_false_iff_eq] at c
 obtain ⟨⟨c1, c2⟩, c3⟩ := c
 have w : IntKind.i64.wrap (a0.fat + v.2.1) = a0.fat + v.2.1 := Za (by omega)
 rw [w]
 refine U0 ⟨⟨⟨by dsimp only; omega, by dsimp only; omega, h3, h4⟩, n0, fun _ => by dsimp only; omega⟩, rfl, fun e => (by rw [c1] at e; cases e), fun g => .inr ?_⟩
 have := hdu c2
 rw [getD_drop, Nat.add_zero] at this
 obtain ⟨e1, e2⟩ := this.1 g
 exact ⟨e1, by dsimp only; omega⟩)
theorem N2 [VO] : BJ := ZM (JV.eq_1 _)
theorem LY [ZN] : AH := ZM (Jx.eq_1 _ _)
theorem T7 [Ev] : FL := ZM (YD.eq_1 _ _ _)
theorem T8 [Vn] [UA] [BK] [Uo] [AH] [Db] [Up] [BH] : FM := ZM (YA.eq_1 _ _ _ _)
theorem Rs : V2 := ZM (QX.eq_1 _ _)
theorem Q2t [GX] [V2] [CK] [Wz] : GY := fun {a0} {a1} {a2} {a3} {a4} => Gf (Wh.eq_1 _ _ _ _ _)
theorem Q77 [YQ] [YR] [F0] : Ic := ZM (Ul.eq_1 _ _ _ _ _)
theorem Q2u [C8] [Cv] [D7] [BE] : GZ := fun {a0} {a1} {a2} => Gf (Wi.eq_1 _ _ _) (fun h => by
 obtain ⟨hd, a21, a22, hf⟩ := h
 refine K2 hd fun l _ hl => ?_
 obtain ⟨l1, l2, l3⟩ := hl
 refine AR (fun p => p.1 = l ∧ 0 ≤ p.2 ∧ p.2 ≤ (l.length : Int) ∧ ∀ x, l[p.2.toNat]? = some x → bf (ek x) (a1.fb7, a1.fd0) = false) ?_ fun J hJ => lvi ⟨rfl, by simp, by simp⟩ ?_
 rotate_left
 ·rintro ⟨m, i⟩ ⟨rfl, i0, i1⟩ X hX
  dsimp only at *
  by_cases c : i < (m.length : Int)
  ·obtain ⟨x, hx, hxm⟩ := Zp (l := m) (n := i) i0 c
   have cd : decide (i < (m.length : Int)) = true := by simpa using c
   rw [Za (n := i + 1) (by omega)]
   refine ⟨x, fun _ => hx, nxg (fun _ => trivial) fun px _ qx => nxg (fun _ => trivial) fun b _ qb => ?_⟩
   have qx := qx cd
   have qb := qb cd
   rw [qx.1, qx.2] at qb
   rw [cd]
   refine Z5 (fun d => U0 (hX _ ⟨rfl, by dsimp only; omega, by dsimp only; omega⟩ (by dsimp only; omega))) fun d => hJ _ ⟨rfl, i0, i1, fun y hy => ?_⟩
   dsimp only at hy
   rw [hxm] at hy; cases hy
   exact (show b = bf (ek x) _ from qb) ▸ d
  ·have cd : decide (i < (m.length : Int)) = false := by simpa using c
   rw [cd]
   refine ⟨default, fun c => (by cases c), default, fun c => (by cases c), default, fun c => (by cases c), Z5 (fun c => by cases c) fun _ => hJ _ ⟨rfl, i0, i1, fun y hy => ?_⟩⟩
   have := (List.getElem?_eq_some_iff.1 hy).1
   dsimp only at this; omega
 ·rintro ⟨m, i⟩ ⟨rfl, i0, i1, i2⟩
  dsimp only at *
  refine AR (fun p => p.1.length ≤ 64 ∧ (p.2.2.1 ≠ (p.2.1.length : Int) → (EF a0.fa1 (QE.mk p.2.2.2.1 p.2.2.2.2) : Int) + a2 ≤ EF a0.fa1 a1)) (fun p hp => ⟨by have := hp.1; omega, fun c => hp.2 (by simpa using c)⟩) fun K hK => EG (fun s => s.2.2.1 = i + s.2.2.2.1 ∧ s.2.2.2.1 ≤ a2 ∧ (0 < s.2.2.2.1 → ∃ y, m[(s.2.2.1 - 1).toNat]? = some y ∧ s.2.2.2.2.1 = y.fid ∧ y.fv.fd0 < s.2.2.2.2.2)) ⟨rfl, i0, i1, Int.le_refl 0, by simp, by simp⟩ ⟨by simp, by dsimp only; omega, fun h => by cases h⟩ ?_
  rintro ⟨vs, q, k, n, ob, fr⟩ ⟨rfl, k0, k1, n0, v1, v2⟩ ⟨e1, e2, e3⟩ X hX
  dsimp only at *
  refine Z5 (fun c => ?_) fun c => hK _ ⟨by dsimp only; omega, fun ne => ?_⟩
  ·simp only [II, Bool.and_eq_true, decide_eq_true_eq] at c
   obtain ⟨c1, c2⟩ := c
   obtain ⟨x, hx, hxm⟩ := Zp (l := q) (n := k) k0 c2
   have zx := hf (ek x) (l3.mem_iff.1 (List.mem_map.2 ⟨x, List.mem_of_getElem? hxm, rfl⟩))
   rw [Za (n := k + 1) (by omega), Za (n := n + 1) (by omega)]
   refine U0 (AR (fun p => p.2 = q ∧ (p.1.length : Int) ≤ n + 1) ?_ fun M hM => ⟨x, hx, ?_⟩)
   ·rintro ⟨ws, q2⟩ ⟨rfl, g1⟩
    dsimp only at *
    refine ⟨x, hx, K2 trivial fun px _ qx => AR (fun p => p.1 = ws ∧ p.2.1 = q2 ∧ p.2.2 = px.fd0 + 1) ?_ fun N hN => Z5 (fun _ => hN _ ⟨rfl, rfl, by rw [Za (by have := qx.2; unfold ek at zx; dsimp only at zx; omega)]⟩) fun d => ?_⟩
    ·rintro ⟨ws2, q3, f3⟩ ⟨rfl, rfl, rfl⟩
     dsimp only at *
     exact hX _ ⟨rfl, by dsimp only; omega, by dsimp only; omega, by dsimp only; omega, g1, by dsimp only; omega⟩ ⟨by dsimp only; omega, by dsimp only; omega, fun _ => ⟨x, by dsimp only; rw [show k + 1 - 1 = k by omega]; exact hxm, qx.1, by dsimp only; rw [qx.2]; omega⟩⟩ (by dsimp only; omega)
    ·exfalso
     have := qx.2
     unfold ek at zx
     simp at d zx; omega
   ·refine K2 (by have := hd.2.2; omega) fun g _ _ => Z5 (fun _ => ⟨x, hx, x, hx, U0 ⟨by simp; omega, hM _ ⟨rfl, by simp; omega⟩⟩⟩) fun _ => hM _ ⟨rfl, by dsimp only; omega⟩
  ·simp only [II, Bool.and_eq_false_iff, decide_eq_false_iff_not] at c
   dsimp only at ne
   have ng : n = a2 := by omega
   obtain ⟨y, y1, y2, y3⟩ := e3 (by omega)
   obtain ⟨x, hx, hxm⟩ := Zp (l := q) (n := i) i0 (by omega)
   have := Z0x (b := QE.mk ob fr) (n := a2.toNat) l3 l2 hxm (i2 x hxm) (by omega) (y := y) (by rw [← y1]; congr 1; omega) ⟨y2, y3⟩
   dsimp only at *; omega)
theorem OI [GR] [GZ] [FE] [Ur] [Es] : Dd := fun {a0} {a1} => Gf (VZ.eq_1 _ _) (fun h => by
 obtain ⟨hz, hm⟩ := h
 have z1 := hz.1.2.2.2.2.1
 have z2 := hz.2.1
 have vf : ∀ p ∈ Ss a0.fa1, 0 ≤ p.2 ∧ p.2 ≤ 1048576 := fun p hp => by
  obtain ⟨o, ho, hp⟩ := List.mem_flatMap.1 hp
  obtain ⟨v, hv, rfl⟩ := List.mem_map.1 hp
  have := hz.2.2.2.2.2.2.2.2.2.vf o ho v hv
  dsimp only; omega
 refine K2 trivial fun v _ hv => ?_
 have hd : zD v := ⟨by rw [hv.1]; have := hz.2.2.1; omega, fun o ho => by rw [hv.1] at ho; have := (hz.2.2.2.1 o ho).1; omega, by rw [hv.2]; exact hz.2.2.2.2.2.2.1⟩
 refine K2 ⟨hd, hz.1.2.2.2.2.2.1, hz.1.2.2.2.2.2.2, by rw [hv.1]; exact vf⟩ fun w _ hw => ?_
 refine AR (fun p => UC (stq p) ∧ KS a0 (stq p) ∧ ∀ a, EF (stq p).fa1 a ≤ EF a0.fa1 a) ?_ fun J hJ => EG (fun s => KS a0 (stq s.2.2) ∧ ∀ a, EF (stq s.2.2).fa1 a ≤ EF a0.fa1 a) ⟨rfl, ⟨Int.le_refl 0, by simp⟩, hz⟩ ⟨KS.refl a0, fun _ => Nat.le_refl _⟩ ?_
 ·rintro ⟨p0, p1, p2, p3, p4, p5, p6, p7, p8, p9, p10, p11, p12, p13⟩ ⟨g1, g2, g3⟩
  change UC (Q2.mk (Qz.mk p0 p1 p2 p3 p4 p5 p6) p7 p8 p9 p10 p11 (Qq.mk p12 p13)) at g1
  change KS a0 (Q2.mk (Qz.mk p0 p1 p2 p3 p4 p5 p6) p7 p8 p9 p10 p11 (Qq.mk p12 p13)) at g2
  dsimp only [stq] at g3
  refine Z5 (fun c => ⟨?_, VJ.o rfl g2, fun _ => ?_⟩) fun c => K2 g1 fun x _ hx => K2 ⟨hx.1, by show (0 : Int) ≠ 16; decide⟩ fun y _ hy => ⟨hy.1, VJ.e hy.2.1 hy.2.2 (g2.trans hx.2), fun d => (by rw [hy.2.2] at d; cases d)⟩
  ·clear c g2 g3 hw hd hv vf z1 z2 hz hm
   revert g1; exact yx_
  ·have := hw.2 (by simpa using c)
   rw [hv.1] at this
   have := g3 w.2.1
   dsimp only at *; omega
 ·rintro ⟨l, i, p0, p1, p2, p3, p4, p5, p6, p7, p8, p9, p10, p11, p12, p13⟩ ⟨e, ⟨i0, i1⟩, g1⟩ ⟨g2, g3⟩ X hX
  dsimp only [stq] at *
  refine Z5 (fun c => ?_) fun c => hJ _ ⟨g1, g2, g3⟩
  have ci : i < (l.length : Int) := by simpa using c
  obtain ⟨x, hx, _⟩ := Zp (l := l) (n := i) i0 ci
  have el : l.length = w.1.length := by rw [e]
  have l64 := hw.1
  rw [← e] at l64
  rw [Za (n := i + 1) (by omega)]
  exact ⟨x, hx, x, hx, K2 g1 fun r _ hr => hX _ ⟨e, ⟨by dsimp only; omega, by dsimp only; omega⟩, hr.1⟩ ⟨g2.trans hr.2.1, fun a => Nat.le_trans (hr.2.2 a) (g3 a)⟩ (by dsimp only; omega)⟩)
theorem Q2v [EB] : DF := nxb (Xb.eq_1 _)
theorem OJ [DF] : De := fun {a0} => ZM (VU.eq_1 _) (fun h => by
 refine K2 trivial fun v _ _ => AR (fun _ => True) (fun _ _ => trivial) fun J hJ => ?_
 refine Z5 (fun _ => hJ _ trivial) fun _ => Z5 (fun c => ixi ⟨tm0 (sn0 h), tm1 (sn0 h) (by decide)⟩ fun _ _ _ _ => hJ _ trivial) fun _ => Z5 (fun _ => hJ _ trivial) fun _ => Z5 (fun _ => hJ _ trivial) fun _ => Z5 (fun _ => hJ _ trivial) fun _ => hJ _ trivial)
end Go.Proofs.YtimfmcpbkdpmoaaGreat
