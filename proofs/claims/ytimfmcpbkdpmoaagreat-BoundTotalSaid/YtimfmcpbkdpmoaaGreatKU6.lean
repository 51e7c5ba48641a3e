/- Parts of the proof, laid together. No condition. -/
import Derived.Test.YtimfmcpbkdpmoaaGreatKB6
set_option linter.unusedVariables false
set_option linter.unusedSimpArgs false
set_option maxRecDepth 100000
set_option maxHeartbeats 4000000
namespace Go.Proofs.YtimfmcpbkdpmoaaGreat
open Go.RowKit
theorem OF [Wy] : D6 := fun {a0} {a1} => ZM (VY.eq_1 _ _) (fun h => by
 obtain ⟨h1, h2, h3⟩ := h
 refine K2 (by omega) fun v _ hv => Z5 (fun c => ⟨⟨h1, h2, h3⟩, rfl, fun i p hp e => absurd e (hv.2.1 (by simpa using c) p (List.mem_of_getElem? hp))⟩) fun c => ?_
 have c2 : 0 ≤ v := by simpa using c
 obtain ⟨p, hp, e⟩ := hv.2.2 c2
 have pb := (List.getElem?_eq_some_iff.1 hp).1
 have zp := h3 p (List.mem_of_getElem? hp)
 refine ⟨by omega, p, ⟨c2, hp⟩, p, ⟨c2, hp⟩, U0 ⟨⟨p.fc7, IntKind.i64.wrap (p.fg7 - 1), p.fc6⟩, ⟨c2, by rw [List.getElem?_set]; simp [pb]⟩, ?_⟩⟩
 have uni : ∀ (i : Nat) q, a0.f9[i]? = some q → q.fc7 = a1 → Nd a0.f9 → i = v.toNat ∧ q = p := fun i q hq e2 nd => by
  have ei := Qxw nd hp hq (by omega)
  subst ei
  rw [hp] at hq; cases hq; exact ⟨rfl, rfl⟩
 refine Z5 (fun d => ⟨⟨by simpa using h1, h2, XS h3 zp⟩, rfl, fun i q hq e2 nd r0 r1 => ?_⟩) fun d => ?_
 ·obtain ⟨rfl, rfl⟩ := uni i q hq e2 nd
  have w : IntKind.i64.wrap (q.fg7 - 1) = q.fg7 + -1 := by rw [Za (by omega)]; omega
  have d2 : IntKind.i64.wrap (q.fg7 - 1) > 0 := by simpa using d
  rw [w] at d2
  exact ⟨fun _ => by rw [w], fun h => by omega⟩
 ·have w : IntKind.i64.wrap (v + 1) = v + 1 := Za (by omega)
  rw [w]
  simp only [List.length_map, List.length_set, List.length_take, List.length_drop]
  have ee : List.take v.toNat (a0.f9.set v.toNat ⟨p.fc7, IntKind.i64.wrap (p.fg7 - 1), p.fc6⟩) ++ List.take (a0.f9.length - (v + 1).toNat) (List.drop (0 + (v + 1).toNat) (a0.f9.set v.toNat ⟨p.fc7, IntKind.i64.wrap (p.fg7 - 1), p.fc6⟩)) = a0.f9.eraseIdx v.toNat := by
   rw [List.eraseIdx_eq_take_drop_succ]
   have e1 : (v + 1).toNat = v.toNat + 1 := by omega
   rw [e1, List.take_set_of_le (by omega), List.drop_set_of_lt (by omega)]
   simp only [Nat.zero_add]
   congr 1
   refine List.take_of_length_le ?_
   rw [List.length_drop]
   exact Nat.le_refl _
  have sub : (a0.f9.eraseIdx v.toNat).Sublist a0.f9 := List.eraseIdx_sublist _ _
  refine ⟨⟨by omega, by omega⟩, ⟨by omega, by omega⟩, ⟨by omega, by omega⟩, ?_⟩
  rw [ee]
  refine ⟨⟨by have := sub.length_le; dsimp only; omega, h2, fun x hx => h3 x (sub.subset hx)⟩, rfl, fun i q hq e2 nd r0 r1 => ?_⟩
  obtain ⟨rfl, rfl⟩ := uni i q hq e2 nd
  have w : IntKind.i64.wrap (q.fg7 - 1) = q.fg7 + -1 := by rw [Za (by omega)]; omega
  have d2 : ¬ IntKind.i64.wrap (q.fg7 - 1) > 0 := by simpa using d
  rw [w] at d2
  exact ⟨fun h => by omega, fun _ => rfl⟩)
theorem Qb6 [Ek] : Ax := ZM (Vh.eq_1 _ _ _)
theorem Q2p : Bv := ZM (Xe.eq_1 _ _)
theorem Q2q [Jg] [JJ] [Bv] [Cp] : GO := fun {a0} {a1} {a2} {a3} => ⟨fun hp => by
 have g : Nx (Yk a0 a1 a2 a3) (a0.length ≤ 2000000 ∧ a1.size ≤ 2000000 ∧ ∀ x ∈ a0, zB x) (fun r => r.1.length ≤ a0.length + 1 ∧ ∀ x ∈ r.1, x ∈ a0 ++ [Qp.mk a1 a2 a3 0]) := ZM (Yk.eq_1 _ _ _ _)
 obtain ⟨r, h1, h2, h3⟩ := g.go hp
 exact ⟨r, h1, ⟨h2, Qli (ZS hp.2.2 (JC hp.2.1)) h3⟩, fun x hx => (List.mem_append.1 (h3 x hx)).elim .inl fun e => .inr (by rw [List.mem_singleton.1 e])⟩⟩
theorem Hl : WO := fun {a0} {a1} => ZM (Kf.eq_1 _ _) (fun h => by
 obtain ⟨hl, hz⟩ := h
 refine joi ?_
 refine Bp (I := fun n (s : Int) => ∃ j : Nat, s = (j : Int) ∧ j ≤ a0.length ∧ n = a0.length - j) ?_ (k := a0.length) ⟨0, rfl, by omega, by omega⟩
 rintro n s ⟨j, rfl, hj, hn⟩ X hX
 have w : IntKind.i64.wrap ((j : Int) + 1) = ((j + 1 : Nat) : Int) := by rw [Za (by omega)]; omega
 rw [w]
 refine Z5 (fun c => ?_) fun _ => ⟨⟨⟨by simp, ZT, by show ([] : List Int).length ≤ 65536; simp⟩, fun c => by simp at c⟩, fun c => by simp at c⟩
 have hj2 : j < a0.length := by simpa using c
 have zv := hz _ (List.getElem_mem hj2)
 refine ⟨a0[j], G3 hj2, Z5 (fun _ => ⟨⟨by omega, by omega⟩, by simp; omega, ⟨by omega, by omega⟩, by simp; omega, a0[j], G3 hj2, ?_⟩) fun _ => hX (a0.length - (j + 1)) _ (by omega) ⟨j + 1, rfl, by omega, rfl⟩⟩
 simp only [Q20]
 have e : a0 = a0.take j ++ a0[j] :: a0.drop (j + 1) := by rw [List.getElem_cons_drop, List.take_append_drop]
 refine ⟨⟨⟨by simp; omega, ZS (PX hz) (Og hz), zv⟩, fun _ => ⟨fun x hx => ?_, fun hv => ?_⟩⟩, fun _ => ⟨_, _, e, rfl⟩⟩
 ·rcases List.mem_append.1 hx with h | h
  ·exact Qlg h
  ·exact Qlh h
 ·have ho : Q24 a0[j] = false := by unfold Q24; simpa using hv
  conv => rhs; rw [e]
  rw [List.filter_append, List.filter_append, List.filter_cons]
  simp [ho])
theorem Rf : Bw := fun {a0} {a1} => ZM (VG.eq_1 _ _) (fun _ => by
 refine Z5 (fun c => ?_) fun c => U0 ?_
 ·simp only [CJ, Bool.or_eq_true, decide_eq_true_eq] at c
  unfold clF; rw [if_pos c]
 ·simp only [CJ, Bool.or_eq_false_iff, decide_eq_false_iff_not] at c
  have h : ¬ (a0 < 0 ∨ a1 < 1) := by omega
  refine ⟨by omega, Z5 (fun d => ⟨by omega, ?_⟩) fun d => ⟨by omega, ?_⟩⟩
  ·unfold clF; rw [if_neg h, if_pos (by simpa using d)]
  ·unfold clF; rw [if_neg h, if_neg (by simpa using d)])
theorem Rh [GN] : BB := fun {a0} {a1} => ZM (VE.eq_1 _ _) (fun h => by
 obtain ⟨hz, hv⟩ := h
 have ha : zAr a0.fc1 := hz.2.2.2.2.2.2.2.2.1
 refine AR (fun p => (p.length ≤ a1.f9.length ∧ ∀ x ∈ p, zL x) ∧ SdP a0.fc1.f9 a1.f9 p) (fun p hp => hp) fun J hJ => EG (fun s => (s.1.length : Int) = s.2 ∧ (Nd a0.fc1.f9 → ∀ (k : Nat) n d, (k : Int) < s.2 → a1.f9[k]? = some n → Has a0.fc1.f9 n d → s.1[k]? = some d)) ⟨by simp, by simp, by simp, ZT⟩ ⟨by simp, fun _ k n d h => by dsimp only at h; omega⟩ ?_
 rintro ⟨l, i⟩ ⟨i0, i1, i2, i3⟩ ⟨e, g⟩ X hX
 dsimp only at *
 refine Z5 (fun c => ?_) fun c => ?_
 ·have ci : i < (a1.f9.length : Int) := by simpa using c
  have w : IntKind.i64.wrap (i + 1) = i + 1 := Za (by have : a1.f9.length ≤ 65536 := hv; omega)
  rw [w]
  obtain ⟨m, hm, hmm⟩ := Zp (l := a1.f9) (n := i) i0 ci
  refine ⟨m, hm, K2 ha fun b _ hb => U0 ⟨by have : a1.f9.length ≤ 65536 := hv; simp; omega, hX _ ⟨by dsimp only; omega, by dsimp only; omega, by simp; omega, ZS i3 (JC hb.1)⟩ ⟨by simp; omega, fun nd k n d hk hn hd => ?_⟩ (by dsimp only; omega)⟩⟩
  dsimp only at hk ⊢
  by_cases q : (k : Int) < i
  ·rw [List.getElem?_append_left (by omega)]; exact g nd k n d q hn hd
  ·have ke : k = i.toNat := by omega
   subst ke
   rw [hmm] at hn; cases hn
   have le : i.toNat = l.length := by omega
   rw [le, List.getElem?_append_right (Nat.le_refl _), hb.2 d nd hd]; simp
 ·have ci : ¬ i < (a1.f9.length : Int) := by simpa using c
  refine hJ _ ⟨⟨by omega, i3⟩, by omega, fun nd k n d hn hd => g nd k n d ?_ hn hd⟩
  have := (List.getElem?_eq_some_iff.1 hn).1
  omega)
theorem Ri [JJ] [Wz] [Eo] : Er := fun {a0} {a1} {a2} => ZM (XP.eq_1 _ _ _) (fun h => by
 obtain ⟨h, hn, hn2⟩ := h
 have hz := h
 obtain ⟨z1, z2, z3, z4, z5, z6, z7, z8, z9⟩ := h
 obtain ⟨c1, c2, c3, c4, c5, c6, c7⟩ := z1
 have no : ∀ e : Int, e ≠ 16 → (fun r : Q2 × Int × Int => (UC r.1 ∧ r.2.2 ≠ 16) ∧ KE a0 r.1) (a0, 0, e) := fun e he => ⟨⟨hz, he⟩, KE.i (fun hs => hs) rfl (.inl rfl)⟩
 have w : IntKind.i64.wrap (a0.f7 + 1) = a0.f7 + 1 := Za (by omega)
 rw [w]
 refine K2 hn2 fun u _ _ => Z5 (fun _ => no _ (by decide)) fun _ => K2 hz fun v _ _ => Z5 (fun _ => no _ (by decide)) fun _ => K2 hz fun v _ _ => Z5 (fun _ => no _ (by decide)) fun _ => Z5 (fun _ => no _ (by decide)) fun cc => K2 ⟨by omega, ⟨hn, hn2⟩, z6⟩ fun b _ hb => ?_
 have cc2 : ¬ a0.f7 ≥ a0.fj.fc3 := by simpa using cc
 obtain ⟨⟨b1, b2⟩, b3⟩ := hb
 refine ⟨⟨⟨⟨c1, c2, c3, c4, c5, c6, c7⟩, by dsimp only; omega, by dsimp only; omega, fun x hx => ⟨by have := (z4 x hx).1; dsimp only; omega, (z4 x hx).2⟩, by dsimp only; omega, b2, z7, z8, z9.1, z9.2.com0 Ob.refl⟩, by simp⟩, KE.i (fun hs => ?_) rfl (.inr (Mo.of (c := 0) Ob.refl rfl))⟩
 exact { bt := fun x hx => (b3 x hx).elim (fun e => by have := hs.bt x e; dsimp only; omega) (fun e => by dsimp only; omega), vt := fun x hx v hv => by have := hs.vt x hx v hv; dsimp only; omega, id := hs.id, la := hs.la, l0 := hs.l0, lc := by have := hs.lc; dsimp only; omega })
theorem Rj : BE := fun {a0} {a1} => Gf (VI.eq_1 _ _) (fun _ => by
 unfold bf
 by_cases h : a0.fb7 < a1.fb7
 ·simp [h]
 ·by_cases g : a0.fb7 = a1.fb7
  ·simp [g]
  ·simp [h, g])
theorem Qb7 : LH := ZM (ZZ.eq_1 _ _)
theorem Q72 : Ym := ZM (ZJ.eq_1 _ _)
theorem MX [A9] : BF := ZM (JO.eq_1 _ _)
theorem NN [V1] [GV] [GU] [Kw] [Zv] [ZN] [Kx] [Zw] [ZH] : Vn := fun {a0} => Gf (ZD.eq_1 _)
theorem Q73 [VK] : CL := ZM (Yc.eq_1 _)
theorem SZ [ZA] : FH := ZM (Yr.eq_1 _)
theorem Q74 [Eu] : EW := ZM (YU.eq_1 _ _)
theorem IP [ZN] [ZB] [Da] : UR := ZM (KU.eq_1 _ _)
theorem Hm [Zw] [ZB] [Wp] [Ym] [DC] [DD] : WS := ZM (Kb.eq_1 _ _)
theorem Qb8 : LJ := fun {a0} {a1} => ZM (Ao.eq_1 _ _) (fun h => by
 refine Z5 (fun _ => by decide) fun c => ?_
 simp only [CJ, Bool.or_eq_false_iff, decide_eq_false_iff_not] at c
 have e : a1.tdiv 8 = a1 / 8 := Int.tdiv_eq_ediv_of_nonneg (by omega)
 have w : IntKind.i64.wrap (a1 / 8) = a1 / 8 := Za (by omega)
 rw [e, w] at c ⊢
 obtain ⟨v, hv, _⟩ := Zp (l := a0) (n := a1 / 8) (by omega) (by omega)
 exact ⟨v, hv, (G2 _).1, by rw [bA1]; omega⟩)
theorem Hn [ZX] [Wq] [Ky] [Zv] : WT := fun {a0} => Gf (Kc.eq_1 _) (fun h => by
 obtain ⟨hl, hb, g0, g1⟩ := h
 refine K2 ⟨Int.le_refl 0, by simp, hl, hb⟩ fun v1 _ q1 => ?_
 obtain ⟨⟨z1, n1, m1⟩, r1, r2, r3⟩ := q1
 have r4 := r3 (by show a0.getD 0 0 < 248; omega)
 refine K2 z1 fun v2 _ q2 => ?_
 obtain ⟨⟨z2, n2, m2⟩, s1, s2, s3⟩ := q2
 have d1 : v1.1 ≤ 2 := by
  rcases r4 with ⟨e, _⟩ | ⟨e, _⟩
  ·omega
  ·rw [e]; exact g0
 have d2 : v2.1 ≤ 4 := by
  rcases r4 with ⟨_, e⟩ | ⟨_, e⟩
  ·have := (s2 e).1; omega
  ·rw [r1, e] at s3
   rcases s3 (by show a0.getD 1 0 < 248; omega) with ⟨e, _⟩ | ⟨e, _⟩
   ·omega
   ·rw [e]; exact g1
 have m1 := m1 (by decide)
 have m2 := m2 (by decide)
 clear r1 r2 r3 r4 s1 s2 s3
 clear g0 g1 hl hb z1
 revert v1 v2; exact yx_)
theorem MY [Kw] [Aa] : BK := ZM (JY.eq_1 _ _)
theorem IQ [Zw] [KM] [Ym] : UT := ZM (KX.eq_1 _ _)
theorem Q75 [V1] [AB] [C4] [FH] [AC] [D9] : EZ := ZM (YT.eq_1 _)
theorem Q2r [UB] : GW := fun {a0} => Gf (We.eq_1 _)
theorem T0 [U3] [CM] [F1] [Cz] [V2] [BM] : FO := fun {a0} {a1} {a2} {a3} => Gf (Yy.eq_1 _ _ _ _) (fun h => by
 have hh := h
 obtain ⟨hz, hc, ho, hm, hl⟩ := h
 refine U0 (AR (fun p => p = [a2.fd4] ∧ a3.fc5 ≠ 0 ∧ a3.fc5 ≠ 1) ?_ fun J hJ => Z5 (fun c => ?_) fun c => Z5 (fun d => ?_) fun d => hJ _ ⟨rfl, by simpa using c, by simpa using d⟩)
 ·rintro p ⟨rfl, n0, n1⟩
  refine K2 ⟨hz, hm, by simp⟩ fun v _ hv => Z5 (fun e => K2 ⟨hz, hm⟩ fun w _ hw => ?_) fun e => K2 ⟨hz, hm⟩ fun w _ hw => ⟨⟨hw.1.1, by rw [hw.1.2]; omega⟩, hw.2.2, BtP.dn hw.2.1 n1⟩
  have e2 : v = false := by simpa using e
  refine ⟨?_, VJ.o rfl hw.2, fun e => absurd e n0, fun e => absurd e n1, fun _ _ => ⟨fun hs => absurd (hv hs) (by simp [e2]), fun _ => rfl⟩⟩
  have q := hw.1.1
  clear hw hv hm hz hl
  revert q; exact yx_
 ·have c1 : a3.fc5 = 0 := by simpa using c
  refine K2 ⟨hz, by simp⟩ fun v _ hv => Z5 (fun e => K2 ⟨hz, hv.1.2⟩ fun w _ hw => ⟨⟨hw.1.1, by rw [hw.1.2]; omega⟩, VJ.o hw.2.1 (KS.refl _), BtP.dn hw.2.2 (by omega)⟩) fun e => ?_
  have e1 : v.2.2 = 0 := by simpa using e
  refine ⟨?_, VJ.o rfl hv.2.1, fun _ _ => ⟨rfl, ⟨by dsimp only; omega, by dsimp only; omega⟩, (hv.2.2.1 e1).1, (hv.2.2.1 e1).2⟩, fun h => absurd c1 (by omega), fun h => absurd c1 h⟩
  have q := hv.1
  clear hv hm hz hl
  revert q; exact yx_
 ·have c1 : a3.fc5 = 1 := by simpa using d
  refine joi (EG (fun s => LfI a3 a1 s.1 s.2.2.2.2.2.2.2.2.2.2.2.2.2.2.2.2.2.2.2.2.2.2.2.2.2.2.2.2.2.2.1 ∧ s.2.2.2.2.2.2.2.2.1 ≤ 2 ∧ s.2.2.2.2.2.2.2.2.2.1 ≤ 4 ∧ s.2.2.2.2.2.2.2.2.2.2.2.2.2.2.2.2.2.2.2.2.2.2.2.2.2.1 ≤ 4) ?_ ⟨LfI.z, hm.2.1.1.2.1, hm.2.1.1.2.2, hm.2.1.2.2.2.2.2.2⟩ ?_)
  ·clear J hJ c d
   revert hh; clear hz hc ho hm hl; exact yx_
  ·clear hJ c d
   revert hh; clear hz hc ho hm hl; exact yx_)
theorem Q2s : GX := ZM (Wg.eq_1 _)
theorem Rk [YQ] [V2] [BC] [GW] [Cu] [X1] : Ey := fun {a0} {a1} {a2} {a3} {a4} => Gf (XI.eq_1 _ _ _ _ _) (fun h => by
 have hh := h
 obtain ⟨hz, hc, h2, h3, hm⟩ := h
 have hx := hz.2.2.2.2.2.2.2.2.2.cp.2
 refine K2 ⟨h2, h3⟩ fun v1 _ q1 => Z5 (fun c => ?_) fun c => ?_
 ·have c1 : a4.fc5 = 0 := by simpa using c
  refine Z5 (fun e => K2 ⟨hz, q1.2⟩ fun v _ q => ⟨q.1.1, VJ.o q.2.1 (KS.refl _), fun _ => OpP.dn q.2.2⟩) fun e => K2 hz fun v5 _ q5 => K2 ⟨by have := q5.1.1; omega, q5.1.2⟩ fun v6 _ q6 => U0 (K2 trivial fun v7 _ q7 => ⟨?_, VJ.o rfl (KS.refl _), fun ea => OpP.z c1 rfl ?_⟩)
  ·clear q7 c1 c e q1 h3 h2 hc hh hx
   clear hm q5
   revert hz q6; exact yx_
  ·subst ea
   dsimp only
   rw [q7]
   have := q5.2.2
   have := q6.2.2
   exact pgF_b (by omega) (by omega) ⟨hc.2.2.1.1, hc.2.2.1.2⟩ (by omega) (by omega)
 ·clear q1 h3 h2 hx hz hc hm
  revert hh c; exact yx_)
theorem Qg0 : C9 := fun {a0} {a1} => ZM (VM.eq_1 _ _) (fun h => by
 refine Z5 (fun _ => trivial) (fun c => ?_)
 have hp : (0 : Int) < a0.length := by simp at c; have := List.length_pos_iff.2 c; omega
 obtain ⟨v, hv, _⟩ := Zp (l := a0) (n := a1.tmod a0.length) (tm0 h) (tm1 h hp)
 exact ⟨by omega, v, hv, by omega, trivial⟩)
theorem T1 [YP] [H0] : FP := fun {a0} => Gf (Yq.eq_1 _)
theorem T2 [C9] [NE] [H1] : Le := fun {a0} {a1} {a2} => Gf (Yw.eq_1 _ _ _) (fun h => by
 simp only [bA1, bA3, bA7, Qlc, Qld, Qth, Q6m, Pg, C1]
 revert h; exact yx_)
end Go.Proofs.YtimfmcpbkdpmoaaGreat
