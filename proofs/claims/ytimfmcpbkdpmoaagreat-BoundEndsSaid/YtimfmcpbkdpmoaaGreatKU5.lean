/- Parts of the proof, laid together. No condition. -/
import Derived.Test.YtimfmcpbkdpmoaaGreatKB6
set_option linter.unusedVariables false
set_option linter.unusedSimpArgs false
set_option maxRecDepth 100000
set_option maxHeartbeats 4000000
namespace Go.Proofs.YtimfmcpbkdpmoaaGreat
open Go.RowKit
theorem Q1l [Ws] : Gr := Zp (W7.eq_1 _ _)
theorem PK [Yb] : E3 := Zp (Xv.eq_1 _ _)
theorem PL : Ug := Zp (JU.eq_1 _ _ _)
theorem PM : E5 := Zp (JL.eq_1 _ _ _)
theorem PN [Jc] [x_ref1_IsName : JC] [Bn] [Df] [Cb] : E7 := fun {a0} {a1} {a2} {a3} => Zp (XE.eq_1 _ _ _ _) (fun h => by
 obtain ⟨hl, ⟨h1, h2⟩, hz⟩ := h
 have no : ∀ e : Int, (fun r : List Qn × Int => (r.1.length ≤ a0.length + 1 ∧ ∀ x ∈ r.1, zB x) ∧ ∀ x ∈ r.1, x ∈ a0 ∨ x.fTo = a3 ∨ x.fTo = 0) ([], e) := fun e => ⟨⟨by simp, VT⟩, fun x hx => by simp at hx⟩
 refine Uf ⟨hl, hz⟩ fun v _ _ => ZX (fun _ => no _) fun _ => Uf h1 fun n1 hn1 _ => ?_
 obtain ⟨n2, hn2, _⟩ := (x_ref1_IsName (a0 := a2)).go h2
 refine ⟨n2, fun _ => hn2, ZX (fun _ => no _) fun _ => ZX (fun _ => no _) fun _ => Uf hl fun l _ _ => ZX (fun _ => no _) fun _ => Uf hl fun i _ hi => ZX (fun _ => no _) fun ci => Uf hl fun k _ _ => ZX (fun _ => no _) fun _ => ?_⟩
 have ci2 : ¬ i < 0 := by simpa using ci
 obtain ⟨b, hb, hbm⟩ := Yy (l := a0) (n := i) (by omega) hi.2
 have zb := hz b (List.mem_of_getElem? hbm)
 refine ⟨b, hb, ZX (fun _ => no _) fun _ => ⟨by omega, b, hb, CZ ⟨b, hb, Uf (by simpa using hl) fun r hr hr2 => ?_⟩⟩⟩
 refine ⟨⟨by have := hr2.1; simp at this; dsimp only; omega, fun x hx => Yz (P := zB) (YI (a := Qn.mk b.fd2 b.fb8 b.fd5 a3) hz zb) (XO (a := Qn.mk a2 b.fb8 a3 0) h2) x (hr2.2 x hx)⟩, fun x hx => ?_⟩
 rcases List.mem_append.1 (hr2.2 x hx) with e | e
 ·rcases List.mem_or_eq_of_mem_set e with e | e
  ·exact .inl e
  ·exact .inr (.inl (by rw [e]))
 ·exact .inr (.inr (by rw [List.mem_singleton.1 e])))
theorem Sl : Cc := Zp (Xg.eq_1 _ _)
theorem PO : Bq := fun {a0} {a1} => Zp (Vv.eq_1 _ _) (fun h => joi (by
 refine Q9y (l := a0) (by omega) (obF a1) (fun j x hx hix hf X hX => ?_) (fun e => ⟨⟨by simp, by omega⟩, fun _ => e, fun c => by simp at c⟩)
 have hj := (List.getElem?_eq_some_iff.1 hx).1
 refine ⟨x, hix, ZX (fun c => ⟨⟨by omega, by omega⟩, fun c => by omega, fun _ => ⟨x, by rw [Q16]; exact hx, hf c⟩⟩) fun c => hX c⟩))
theorem PP [Cc] [JC] [Wt] [Dg] [Dh] [Gt] [Cd] : Bt := fun {a0} {a1} {a2} => Zp (Vz.eq_1 _ _ _) (fun h => by
 obtain ⟨h, hn, hd, hdb⟩ := h
 have hz := h
 obtain ⟨z1, z2, z3, z4, z5, z6, z7, z8, z9⟩ := h
 obtain ⟨c1, c2, c3, c4, c5, c6, c7⟩ := z1
 obtain ⟨y1, y2, y3⟩ := z9
 have no : ∀ e : Int, e ≠ 16 → (fun r : Q2 × Int × Int => (UO r.1 ∧ r.2.2 ≠ 16) ∧ KE a0 r.1) (a0, 0, e) := fun e he => ⟨⟨hz, he⟩, KE.i (fun hs => hs) rfl (.inl rfl)⟩
 have w : IntKind.i64.wrap (a0.f9 + 1) = a0.f9 + 1 := KI (by omega)
 rw [w]
 refine Uf ⟨hd, hdb⟩ fun p _ hp => Uf hn fun u _ _ => ZX (fun _ => no _ (by decide)) fun _ => ZX (fun _ => no _ (by decide)) fun cd => Uf hz fun v _ _ => ZX (fun _ => no _ (by decide)) fun _ => Uf (by omega) fun n _ _ => ZX (fun _ => no _ (by decide)) fun _ => ZX (fun _ => no _ (by decide)) fun cc => Uf hz fun k _ _ => ZX (fun _ => no _ (by decide)) fun _ => ?_
 have cc2 : ¬ a0.f9 ≥ a0.fk.fc7 := by simpa using cc
 have cd2 : ¬ (a2.length : Int) > 65536 := by simpa using cd
 refine Iq (fun q => q.1 ≤ 16384 ∧ (q.2.1.length ≤ 16384 ∧ ∀ x ∈ q.2.1, Mp x) ∧ q.2.2.length ≤ 65536) ?_ fun J hJ => ?_
 ·rintro ⟨cap, pg, ns⟩ ⟨g1, ⟨g2, g3⟩, g4⟩
  dsimp only at *
  refine ⟨by omega, by simp; omega, Uf ⟨by omega, hn, z6⟩ fun b _ hb => ?_⟩
  obtain ⟨⟨b1, b2⟩, b3⟩ := hb
  have up : ∀ x ∈ a0.fa6, zO (a0.f9 + 1) x := fun x hx => ⟨by have := (z4 x hx).1; omega, (z4 x hx).2⟩
  refine ⟨⟨⟨⟨c1, c2, c3, c4, c5, c6, c7⟩, by dsimp only; omega, by simp; omega, Yz up (XO ⟨by simp; omega, XO g4⟩), by dsimp only; omega, b2, z7, z8, g2, g1, g3⟩, by simp⟩, KE.i (fun hs => ?_) rfl (.inr (by dsimp only; omega))⟩
  have l0 := hs.l0
  have lc := hs.lc
  have wl : IntKind.i64.wrap (a0.ff3 + 1) = a0.ff3 + 1 := KI (by omega)
  rw [wl]
  refine { bt := fun x hx => (b3 x hx).elim (fun e => by have := hs.bt x e; dsimp only; omega) .inl, vt := Yz (fun x hx v hv => by have := hs.vt x hx v hv; dsimp only; omega) (XO (XO (.inl rfl))), id := ?_, la := Yz (fun x hx => by have := hs.la x hx; dsimp only; omega) (XO (Int.le_refl _)), l0 := by dsimp only; omega, lc := by dsimp only; omega }
  refine List.pairwise_append.2 ⟨hs.id, by simp, fun x hx y hy => ?_⟩
  rw [List.mem_singleton.1 hy]
  have := hs.la x hx
  dsimp only; omega
 ·refine lvi ⟨rfl, hp.1, by simp, by simp, by simp, y2, y1, y3⟩ ?_
  rintro ⟨l, i, cap, pg, ns⟩ ⟨i1, i2, i3, i4, i5, i6, i7, i8⟩ X hX
  dsimp only at *
  subst i1
  refine ZX (fun c => ?_) fun _ => hJ _ ⟨i6, ⟨i7, i8⟩, by have := hp.2; dsimp only; omega⟩
  have ci : i < (p.1.length : Int) := by simpa using c
  obtain ⟨b, hb, hbm⟩ := Yy (l := p.1) (n := i) i3 ci
  have wi : IntKind.i64.wrap (i + 1) = i + 1 := KI (by have := hp.2; omega)
  rw [wi]
  refine ⟨b, hb, Uf ⟨⟨i7, i6, i8⟩, (i2 b (List.mem_of_getElem? hbm)).2⟩ fun t _ ht => ⟨by have := hp.2; simp; omega, hX _ ⟨rfl, i2, by dsimp only; omega, by dsimp only; omega, by simp; omega, ht.2.1, ht.1, ht.2.2⟩ (by dsimp only; omega)⟩⟩)
theorem Sm [Fl] : Fo := fun {a0} => Zp (Yr.eq_1 _) (fun h => by
 have hz := h
 obtain ⟨z1, z2, z3, z4, z5, z6, z7, z8, z9⟩ := h
 obtain ⟨c1, c2, c3, c4, c5, c6, c7⟩ := z1
 refine Uf ⟨⟨by omega, by omega⟩, z6⟩ fun r _ hr => ?_
 obtain ⟨⟨r1, r2⟩, r3, r4⟩ := hr
 exact ⟨⟨⟨c1, c2, c3, c4, c5, c6, c7⟩, z2, z3, z4, by dsimp only; omega, r2, z7, z8, z9⟩, fun hs => Qk8 hs r3 r4⟩)
theorem It [KF] : Zy := Zp (Z3.eq_1 _)
theorem Sn : Cg := Zp (Xb.eq_1 _ _)
theorem LA : Wi := Zp (Kj.eq_1 _ _)
theorem Q63 : VB := fun {a0} => Zp (QV.eq_1 _) (fun h => by
 refine ZX (fun c => ⟨by simp, XO w8c, fun _ => rfl, fun k _ => by simp⟩) (fun c => joi (lvi ⟨by simp, by simpa using (show a0 < 18446744073709551616 by omega), VT, fun k hk => ⟨by simp, by simpa using hk⟩⟩ ?_))
 have c' : ¬ a0 < 248 := by simpa using c
 rintro ⟨x, l⟩ ⟨hl, hx, hb, hk⟩ X hX
 dsimp only at *
 refine ZX (fun hp => ?_) (fun _ => ⟨by simp; omega, by simp; omega, Yz (XO w8c) hb, fun c => absurd c c', fun k h2 => by have := (hk k h2).1; simp; omega⟩)
 have hp' : 0 < x := by simpa using hp
 have lt : ∀ k : Nat, l.length ≤ k → x < 256 ^ (k - l.length) → l.length + 1 ≤ k := by
  intro k h1 h2
  rcases Nat.lt_or_ge l.length k with h | h
  ·exact h
  ·have e : k - l.length = 0 := by omega
   rw [e] at h2; simp at h2; omega
 have sp : ∀ k : Nat, l.length + 1 ≤ k → x < 256 ^ (k - l.length) → QC .i64 x 8 < 256 ^ (k - ([IntKind.u8.wrap x] ++ l).length) := by
  intro k h1 h2
  have e : k - l.length = (k - ([IntKind.u8.wrap x] ++ l).length) + 1 := by simp; omega
  rw [e, Int.pow_succ] at h2
  rw [shr8]
  generalize (256 : Int) ^ (k - ([IntKind.u8.wrap x] ++ l).length) = M at h2 ⊢
  omega
 have hl7 := lt 8 hl hx
 refine ⟨by simp; omega, hX _ ⟨by simp; omega, sp 8 hl7 hx, Yz (XO w8c) hb, fun k h2 => ?_⟩ (by simp; omega)⟩
 have q := hk k h2
 have q2 := lt k q.1 q.2
 exact ⟨by simp; omega, sp k q2 q.2⟩)
theorem No [Ks] [VB] [Uh] [Cs] : BR := Zp (V9.eq_1 _)
theorem LB [Zx] : Ay := Zp (Jm.eq_1 _)
theorem Q1m [Ec] : Di := Zp (Y3.eq_1 _)
theorem Q64 [Cg] : AK := Zp (K1.eq_1 _)
theorem Oa : A7 := Zp (V2.eq_1 _)
theorem Sp [x_ref6_sorted : Fx] [x_ref6_sum : Wj] [x_ref1_Bit : Ls] : Ch := fun {a0} {a1} {a2} {a3} {a4} => ⟨fun hp => ex_ (by
 obtain ⟨⟨h0, hk⟩, ha4, ha3⟩ := hp
 rw [Xc.eq_1]
 refine Iq (fun p => p.2.2.length ≤ 2000 ∧ ∀ x ∈ p.2.2, zKs x) ?_ ?_
 ·rintro ⟨p1, p2, p3⟩ ⟨h1, h2⟩
  simp only at h1 h2 ⊢
  refine Iq (fun p => p.length ≤ 2000 ∧ ∀ x ∈ p, zKs x) (fun p h => h) ?_
  intro J hJ
  refine Cp (I := fun n s => n = s.length ∧ s.length ≤ 2000 ∧ ∀ x ∈ s, zKs x) ?_ (k := p3.length) ⟨rfl, h1, h2⟩
  rintro n s ⟨rfl, hs1, hs2⟩ X hX
  by_cases hz : 0 < s.length
  ·have w : IntKind.i64.wrap ((s.length : Int) - 1) = ((s.length - 1 : Nat) : Int) := by rw [KI (by omega)]; omega
   simp only [w]
   refine ⟨s[s.length - 1], fun _ => ⟨by omega, by simp⟩, fun _ => CZ ⟨by omega, ?_⟩, fun _ => hJ _ ⟨hs1, hs2⟩⟩
   refine hX _ _ ?_ ⟨rfl, ?_, TU hs2⟩
   ·simp only [Int.toNat_natCast, List.length_take]; omega
   ·simp only [Int.toNat_natCast, List.length_take]; omega
  ·refine ⟨default, fun c => ?_, fun c => ?_, fun _ => hJ _ ⟨hs1, hs2⟩⟩
   ·exact absurd (by simpa using c) hz
   ·have e : decide ((s.length : Int) > 0) = false := by rw [decide_eq_false_iff_not]; omega
    rw [e] at c; cases c
 ·intro J1 hJ1
  refine Cp (I := fun n (s : Int × Int × List (List ByteArray) × List ByteArray × Int) => (0 ≤ s.2.2.2.2 ∧ s.2.2.2.1.length ≤ 1000 ∧ s.2.2.2.2 + s.2.2.2.1.length ≤ a0.length + 1000) ∧ (s.2.2.1.length : Int) = s.2.2.2.2 ∧ (∀ x ∈ s.2.2.1, zKs x) ∧ (∀ k ∈ s.2.2.2.1, k.size ≤ 2000000) ∧ (0 ≤ s.2.1 ∧ s.2.1 ≤ a4 + s.2.2.2.2) ∧ n = (3000 * ((a0.length : Int) - s.2.2.2.2)).toNat + s.2.2.2.1.length) ?_ ⟨⟨by simp, by simp, by simp; omega⟩, by simp, VT, VT, by simp; omega, rfl⟩
  rintro n ⟨sl, ps, out, cr, i⟩ ⟨⟨hi0, hc, hic⟩, ho, hox, hcx, hps, hn⟩ X hX
  simp only at hi0 hc hic ho hox hcx hps hn ⊢
  have wi : IntKind.i64.wrap (i + 1) = i + 1 := KI (by omega)
  have wp : IntKind.i64.wrap (ps + 1) = ps + 1 := KI (by omega)
  simp only [wi, wp]
  refine ⟨fun c => CZ ?_, fun c => hJ1 _ ⟨?_, hox⟩⟩
  ·have hgo : (a0.length : Int) ≤ i → 0 < cr.length := by
    intro h
    have e : decide (i < (a0.length : Int)) = false := by simp; omega
    rw [e] at c; simpa using c
   refine Iq (fun p => (0 ≤ p.2.1 ∧ p.2.1 ≤ ps + 1) ∧ (p.2.2.1.length : Int) = i + 1 ∧ (∀ x ∈ p.2.2.1, zKs x) ∧ (∀ k ∈ p.2.2.2, k.size ≤ 2000000) ∧ p.2.2.2.length ≤ 1000 ∧ ((a0.length : Int) ≤ i → p.2.2.2.length < cr.length)) ?_ ?_
   ·rintro ⟨q1, q2, q3, q4⟩ ⟨g1, g2, g3, g4, g5, g6⟩
    simp only at g1 g2 g3 g4 g5 g6 ⊢
    refine hX _ _ ?_ ⟨⟨by simp only; omega, g5, ?_⟩, g2, g3, g4, by simp only; omega, rfl⟩
    ·subst hn
     simp only
     by_cases h : (a0.length : Int) ≤ i
     ·have := g6 h; omega
     ·omega
    ·simp only
     by_cases h : (a0.length : Int) ≤ i
     ·have := g6 h; omega
     ·omega
   intro J4 hJ4
   refine Iq (fun p => p.1 = out ∧ p.2.length ≤ 1900 ∧ ((a0.length : Int) ≤ i → p.2.length = cr.length) ∧ ∀ k ∈ p.2, k.size ≤ 2000000) ?_ ?_
   ·rintro ⟨q1, l⟩ ⟨rfl, g1, g2, g3⟩
    dsimp only at *
    obtain ⟨v, hv, hl, hvk⟩ := (x_ref6_sorted (a0 := l)).go ⟨by omega, g3⟩
    refine ⟨v, hv, fun c => ⟨by simp only [List.length_append, List.length_cons, List.length_nil]; omega, hJ4 _ ⟨by simp only; omega, by simp; omega, Yz hox (XO ⟨by omega, hvk⟩), VT, by simp, fun h => ?_⟩⟩, fun c => ?_⟩
    ·have := hgo h; simpa using this
    have eE : IntKind.i64.wrap (IntKind.i64.wrap ((v.length : Int).tdiv 2) * 2) = 2 * ((v.length : Int) / 2) := by
     rw [Int.tdiv_eq_ediv_of_nonneg (by omega), KI (n := (v.length : Int) / 2) (by omega), KI (by omega)]; omega
    simp only [eE, List.length_map]
    refine Iq (fun p => p.1 = q1 ∧ 2 * p.2.1.length ≤ v.length ∧ (∀ k ∈ p.2.1, k.size ≤ 2000000) ∧ p.2.2 = v) ?_ ?_
    ·rintro ⟨r1, r2, r3⟩ ⟨rfl, k1, k2, rfl⟩
     dsimp only at *
     obtain ⟨u, hu, _⟩ := (x_ref6_sum (a0 := sl) (a1 := XX .i64 1 (IntKind.u64.wrap i))).go trivial
     refine ⟨(Dt i).1, u, hu, ⟨by omega, by omega⟩, by simp only [List.length_append, List.length_cons, List.length_nil]; omega, hJ4 _ ⟨by simp only; omega, by simp; omega, Yz hox (XO ⟨?_, TU (TW hvk)⟩), k2, by simp only; omega, fun h => ?_⟩⟩
     ·simp only [List.length_take, List.length_drop]; omega
     ·have := hgo h; have := g2 h; simp only; omega
    intro J12 hJ12
    obtain ⟨b, hb, hb1⟩ := (x_ref1_Bit (a0 := a3) (a1 := ps)).go ⟨by omega, by omega, by omega⟩
    refine ⟨b, hb, ?_⟩
    refine Cp (I := fun n (s : List (List ByteArray) × List ByteArray × List ByteArray × Int) => s.1 = q1 ∧ s.2.2.1 = v ∧ s.2.2.2 = b + 2 * (s.2.1.length : Int) ∧ s.2.2.2 ≤ 2 * ((v.length : Int) / 2) + 1 ∧ (∀ k ∈ s.2.1, k.size ≤ 2000000) ∧ n = (2 * ((v.length : Int) / 2) + 2 - s.2.2.2).toNat) ?_ ⟨rfl, rfl, by simp, ?_, VT, rfl⟩
    ·rintro n ⟨s1, s2, s3, s4⟩ ⟨rfl, rfl, f1, f2, f3, f4⟩ Y hY
     dsimp only at *
     refine ⟨fun c => ?_, fun c => hJ12 _ ⟨rfl, ?_, f3, rfl⟩⟩
     ·have c2 : s4 < 2 * ((s3.length : Int) / 2) := by simpa using c
      obtain ⟨y, hy, hyk⟩ := Yy (l := s3) (n := s4) (by omega) (by omega)
      have wy : IntKind.i64.wrap (s4 + 2) = s4 + 2 := KI (by omega)
      rw [wy]
      refine ⟨y, hy, by simp only [List.length_append, List.length_cons, List.length_nil]; omega, hY _ _ ?_ ⟨rfl, rfl, by simp; omega, by simp only; omega, Yz f3 (XO (hvk y (List.mem_of_getElem? hyk))), rfl⟩⟩
      simp only; omega
     ·have c2 : ¬ s4 < 2 * ((s3.length : Int) / 2) := by simpa using c
      simp only; omega
    ·have : 0 < v.length ∨ v.length = 0 := by omega
     simp only; omega
   ·intro J5 hJ5
    refine ⟨fun c => ?_, fun c => hJ5 _ ⟨rfl, by simp only; omega, fun _ => rfl, hcx⟩⟩
    have c2 : i < (a0.length : Int) := by simpa using c
    obtain ⟨y, hy, hyk⟩ := Yy (l := a0) (n := i) hi0 c2
    have hy2 := hk y (List.mem_of_getElem? hyk)
    exact ⟨y, hy, by omega, by omega, hJ5 _ ⟨rfl, by simp; omega, fun h => by omega, Yz hy2.2 hcx⟩⟩
  ·simp only
   by_cases h : (a0.length : Int) ≤ i
   ·have : (i : Int) + cr.length ≤ a0.length + 1000 := hic
    omega
   ·omega)⟩
theorem LC [Bz] : Wk := Zp (Kn.eq_1 _)
theorem LD [ZS] [Kt] [ZF] [XI] : AC := Zp (Jr.eq_1 _)
theorem Iu [Zt] [KF] [Yc] : UM := Zp (KT.eq_1 _ _)
theorem PQ [Vh] [Zy] [Uu] [Az] [WL] [UK] [BU] [WM] [AA] : BD := Zp (Vq.eq_1 _ _ _ _)
theorem Q1n [Uv] : GA := Zp (W8.eq_1 _)
theorem Sq [WV] [Cu] [EM] [Ci] [JW] [BD] : FB := fun {a0} {a1} {a2} {a3} => nx1 (Yn.eq_1 _ _ _ _) (fun h => by
 have hh := h
 obtain ⟨hz, hc, ho, hm, hl⟩ := h
 refine CZ (Iq (fun p => p = [a2.fd2] ∧ a3.fc6 ≠ 0 ∧ a3.fc6 ≠ 1) ?_ fun J hJ => ZX (fun c => ?_) fun c => ZX (fun d => ?_) fun d => hJ _ ⟨rfl, by simpa using c, by simpa using d⟩)
 ·rintro p ⟨rfl, n0, n1⟩
  refine Uf ⟨hz, hm, by simp⟩ fun v _ hv => ZX (fun e => Uf ⟨hz, hm⟩ fun w _ hw => ?_) fun e => Uf ⟨hz, hm⟩ fun w _ hw => ⟨⟨hw.1.1, by rw [hw.1.2]; omega⟩, hw.2.2, BtP.dn hw.2.1⟩
  have e2 : v = false := by simpa using e
  refine ⟨?_, YA.o rfl hw.2, fun e => absurd e n0, fun e => absurd e n1, fun _ _ => ⟨fun hs => absurd (hv hs) (by simp [e2]), fun _ => rfl⟩⟩
  have q := hw.1.1
  clear hw hv hm hz hl
  revert q; exact yx_
 ·have c1 : a3.fc6 = 0 := by simpa using c
  refine Uf ⟨hz, by simp⟩ fun v _ hv => ZX (fun e => Uf ⟨hz, hv.1.2⟩ fun w _ hw => ⟨⟨hw.1.1, by rw [hw.1.2]; omega⟩, YA.o hw.2.1 (KS.refl _), BtP.dn hw.2.2⟩) fun e => ?_
  have e1 : v.2.2 = 0 := by simpa using e
  refine ⟨?_, YA.o rfl hv.2.1, fun _ _ => ⟨rfl, rfl, (hv.2.2.1 e1).1, (hv.2.2.1 e1).2⟩, fun h => absurd c1 (by omega), fun h => absurd c1 h⟩
  have q := hv.1
  clear hv hm hz hl
  revert q; exact yx_
 ·have c1 : a3.fc6 = 1 := by simpa using d
  refine joi (Qym (fun s => LfI a3 a1 s.1 s.2.2.2.2.2.2.2.2.2.2.2.2.2.2.2.2.2.2.2.2.2.2.2.2.2.2.2.2.2.2.1) ?_ LfI.z ?_)
  ·clear J hJ c d
   revert hh; clear hz hc ho hm hl; exact yx_
  ·clear hJ c d
   revert hh; clear hz hc ho hm hl; exact yx_)
theorem Np : YL := Zp (KC.eq_1 _ _ _)
theorem PR : Ul := Zp (Zj.eq_1 _ _)
theorem Qa5 : Ek := fun {a0} => Zp (Ye.eq_1 _) (fun _ => by
 simp only [bA15, Qk1]
 refine ZX (fun _ => sz1 (by simp)) fun _ => ⟨by simp, ?_⟩
 exact ixq (P := fun v => v.size ≤ 32) (by decide) ⟨tm0 (by omega), tm1 (by omega) (by simp)⟩ fun a _ _ _ ha => ha)
theorem Qen [BY] [EN] [UU] [Dm] [Dn] [Do] [FD] [FC] : Ni := nxb (AI.eq_1 _ _)
end Go.Proofs.YtimfmcpbkdpmoaaGreat
