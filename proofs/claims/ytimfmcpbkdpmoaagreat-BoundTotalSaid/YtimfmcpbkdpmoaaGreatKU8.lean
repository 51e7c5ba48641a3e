/- Parts of the proof, laid together. No condition. -/
import Derived.Test.YtimfmcpbkdpmoaaGreatKB6
set_option linter.unusedVariables false
set_option linter.unusedSimpArgs false
set_option maxRecDepth 100000
set_option maxHeartbeats 4000000
namespace Go.Proofs.YtimfmcpbkdpmoaaGreat
open Go.RowKit
theorem Rt : Bs := ZM (Zr.eq_1 _ _ _)
theorem IR : Dg := fun {a0} => Gf (KP.eq_1 _)
theorem Q2w [Wy] : GN := fun {a0} {a1} => ZM (Wb.eq_1 _ _) (fun h => by
 obtain ⟨h1, h2, h3⟩ := h
 refine K2 (by omega) fun v _ hv => Z5 (fun c => ⟨⟨by simp, ZT⟩, fun d _ hd => ?_⟩) fun c => ?_
 ·obtain ⟨p, hp, e, _⟩ := hd
  exact absurd e (hv.2.1 (by simpa using c) p hp)
 ·have c2 : 0 ≤ v := by simpa using c
  obtain ⟨p, hp, e⟩ := hv.2.2 c2
  have pm := List.mem_of_getElem? hp
  refine ⟨p, ⟨c2, hp⟩, by have := (h3 p pm).1; omega, ⟨(h3 p pm).1, (h3 p pm).2⟩, fun d nd hd => ?_⟩
  obtain ⟨q, hq, e2, rfl⟩ := hd
  rw [Qxu nd pm hq (by omega)])
theorem T9 [Ax] : FC := ZM (Yx.eq_1 _)
theorem Ta : Cp := ZM (Xt.eq_1 _ _)
theorem Ru [Jg] [JJ] [Bv] [Dv] : Em := ZM (XN.eq_1 _ _ _)
theorem Q2x [Wx] : Dw := ZM (Yj.eq_1 _ _)
theorem Tc [Bw] : Cu := fun {a0} {a1} => ZM (Xq.eq_1 _ _) (fun _ => by
 refine Z5 (fun c => ?_) fun c => U0 (K2 trivial fun v _ hv => ?_)
 ·simp only [CJ, Bool.or_eq_true, decide_eq_true_eq] at c
  unfold Pi; rw [if_pos c]
 ·simp only [CJ, Bool.or_eq_false_iff, decide_eq_false_iff_not] at c
  unfold Pi; rw [if_neg (by omega)]; exact hv)
theorem Q2y [Y2] [Y3] [BB] [GP] : BC := fun {a0} {a1} {a2} => ZM (Xd.eq_1 _ _ _) (fun hz => by
 have hh := hz
 obtain ⟨z1, z2, z3, z4, z5, z6, z7, z8, z9, hx⟩ := hz
 have s0 : 8 ≤ a0.fj.fb6 := z1.2.2.1.1
 have p0 := hx.cp.2
 have m0 : 0 ≤ a0.fj.f9 * a0.fj.fb6 := Int.mul_nonneg (by omega) (by omega)
 have no : ∀ e : Int, (fun r : List Int × Int => (r.1.length ≤ 67108864 ∧ bB r.1) ∧ Gb r.1 ∧ (r.1.length : Int) ≤ a0.fj.f9 * a0.fj.fb6) ([], e) := fun e => ⟨⟨by simp, ZT⟩, Gb.nil, by simpa using m0⟩
 refine K2 ⟨by omega, z2.1⟩ fun v _ hv => Z5 (fun _ => no _) fun _ => K2 hh fun u _ hu => Z5 (fun _ => no _) fun c => K2 ⟨hh, hu.1.2⟩ fun st _ hs => K2 ⟨by have e : u.2.1.f9.length ≤ 65536 := hu.1.2; have := hs.1.1; omega, hs.1.2⟩ fun j _ hj => ?_
 obtain ⟨o, ho, hm, _⟩ := hu.2.2 (by simpa using c)
 have q := hx.rd (by omega) (List.mem_of_getElem? ho) hm hs.2
 rw [← hj.2] at q
 exact ⟨⟨by have e : u.2.1.f9.length ≤ 65536 := hu.1.2; have := hs.1.1; have := hj.1.1; dsimp only; omega, hj.1.2⟩, q⟩)
theorem Q78 [Y2] [FC] [Ej] : CK := fun {a0} {a1} => ⟨fun hp => by
 have g : Nx (Xl a0 a1) (UC a0) (fun r => (UC r.1 ∧ r.2 ≠ 16) ∧ r.1.f7 = a0.f7 ∧ r.1.fj = a0.fj ∧ r.1.fb4 = a0.fb4 ∧ r.1.fa1 = a0.fa1 ∧ r.1.ff4 = a0.ff4) := Gf (Xl.eq_1 _ _)
 obtain ⟨r, h1, h2, e1, e2, e3, e4, e5⟩ := g.go hp
 exact ⟨r, h1, h2, fun h => ⟨Kp.of e1 e2 e3 e4, h.of e1 e3 e4 e5⟩⟩⟩
theorem Td : Cv := ZM (JH.eq_1 _)
theorem Q2z [LH] : GT := ZM (Yf.eq_1 _)
theorem Te : Cw := ZM (Xi.eq_1 _ _)
theorem LZ : Wo := ZM (Ko.eq_1 _ _)
theorem Q79 : VK := fun {a0} => ZM (QW.eq_1 _) (fun h => by
 refine Z5 (fun c => ⟨⟨by simp, JC w8c, fun _ => rfl, fun k _ => by simp⟩, fun h0 => ⟨fun _ => by rw [u8s h0 (by simp at c; omega)], fun h => by simp at c; omega⟩⟩) (fun c => joi (EG (fun s => 0 < s.1 ∨ 1 ≤ s.2.length) ⟨by simp, by simpa using (show a0 < 18446744073709551616 by omega), ZT, fun k hk => ⟨by simp, by simpa using hk⟩⟩ (.inl (by simp at c; dsimp only; omega)) ?_))
 have c' : ¬ a0 < 248 := by simpa using c
 rintro ⟨x, l⟩ ⟨hl, hx, hb, hk⟩ h1 X hX
 dsimp only at *
 refine Z5 (fun hp => ?_) (fun hp => ⟨by simp; omega, ⟨by simp; omega, ZS (JC w8c) hb, fun c => absurd c c', fun k h2 => by have := (hk k h2).1; simp; omega⟩, fun _ => ⟨fun c => absurd c c', fun _ => ⟨l.length, l, ?_, rfl, by simp at hp; omega⟩⟩⟩)
 rotate_left
 ·rw [Za (by omega), u8s (by omega) (by omega)]; rfl
 have hp' : 0 < x := by simpa using hp
 have lt : ∀ k : Nat, l.length ≤ k → x < 256 ^ (k - l.length) → l.length + 1 ≤ k := by
  intro k h1 h2
  rcases Nat.lt_or_ge l.length k with h | h
  ·exact h
  ·have e : k - l.length = 0 := by omega
   rw [e] at h2; simp at h2; omega
 have sp : ∀ k : Nat, l.length + 1 ≤ k → x < 256 ^ (k - l.length) → QD .i64 x 8 < 256 ^ (k - ([IntKind.u8.wrap x] ++ l).length) := by
  intro k h1 h2
  have e : k - l.length = (k - ([IntKind.u8.wrap x] ++ l).length) + 1 := by simp; omega
  rw [e, Int.pow_succ] at h2
  rw [shr8]
  generalize (256 : Int) ^ (k - ([IntKind.u8.wrap x] ++ l).length) = M at h2 ⊢
  omega
 have hl7 := lt 8 hl hx
 refine ⟨by simp; omega, hX _ ⟨by simp; omega, sp 8 hl7 hx, ZS (JC w8c) hb, fun k h2 => ?_⟩ (.inr (by simp)) (by simp; omega)⟩
 have q := hk k h2
 have q2 := lt k q.1 q.2
 exact ⟨by simp; omega, sp k q2 q.2⟩)
theorem NO [Kx] [VK] [Un] [CL] : C3 := ZM (Vf.eq_1 _)
theorem M0 [ZA] : AC := ZM (Js.eq_1 _)
theorem Q30 [Eu] : Dy := ZM (Yd.eq_1 _)
theorem Q7a [Cw] : AP := ZM (K6.eq_1 _)
theorem OK : Ab := ZM (V8.eq_1 _)
theorem Tf [x_ref6_sorted : FK] [x_ref6_sum : Wp] [x_ref1_Bit : LJ] : Cy := fun {a0} {a1} {a2} {a3} {a4} => ⟨fun hp => ex_ (by
 obtain ⟨⟨h0, hk⟩, ha4, ha3⟩ := hp
 rw [Xj.eq_1]
 refine AR (fun p => p.2.2.length ≤ 2000 ∧ ∀ x ∈ p.2.2, zKs x) ?_ ?_
 ·rintro ⟨p1, p2, p3⟩ ⟨h1, h2⟩
  simp only at h1 h2 ⊢
  refine AR (fun p => p.length ≤ 2000 ∧ ∀ x ∈ p, zKs x) (fun p h => h) ?_
  intro J hJ
  refine Bp (I := fun n s => n = s.length ∧ s.length ≤ 2000 ∧ ∀ x ∈ s, zKs x) ?_ (k := p3.length) ⟨rfl, h1, h2⟩
  rintro n s ⟨rfl, hs1, hs2⟩ X hX
  by_cases hz : 0 < s.length
  ·have w : IntKind.i64.wrap ((s.length : Int) - 1) = ((s.length - 1 : Nat) : Int) := by rw [Za (by omega)]; omega
   simp only [w]
   refine ⟨s[s.length - 1], fun _ => ⟨by omega, by simp⟩, fun _ => U0 ⟨by omega, ?_⟩, fun _ => hJ _ ⟨hs1, hs2⟩⟩
   refine hX _ _ ?_ ⟨rfl, ?_, PX hs2⟩
   ·simp only [Int.toNat_natCast, List.length_take]; omega
   ·simp only [Int.toNat_natCast, List.length_take]; omega
  ·refine ⟨default, fun c => ?_, fun c => ?_, fun _ => hJ _ ⟨hs1, hs2⟩⟩
   ·exact absurd (by simpa using c) hz
   ·have e : decide ((s.length : Int) > 0) = false := by rw [decide_eq_false_iff_not]; omega
    rw [e] at c; cases c
 ·intro J1 hJ1
  refine Bp (I := fun n (s : Int × Int × List (List ByteArray) × List ByteArray × Int) => (0 ≤ s.2.2.2.2 ∧ s.2.2.2.1.length ≤ 1000 ∧ s.2.2.2.2 + s.2.2.2.1.length ≤ a0.length + 1000) ∧ (s.2.2.1.length : Int) = s.2.2.2.2 ∧ (∀ x ∈ s.2.2.1, zKs x) ∧ (∀ k ∈ s.2.2.2.1, k.size ≤ 2000000) ∧ (0 ≤ s.2.1 ∧ s.2.1 ≤ a4 + s.2.2.2.2) ∧ n = (3000 * ((a0.length : Int) - s.2.2.2.2)).toNat + s.2.2.2.1.length) ?_ ⟨⟨by simp, by simp, by simp; omega⟩, by simp, ZT, ZT, by simp; omega, rfl⟩
  rintro n ⟨sl, ps, out, cr, i⟩ ⟨⟨hi0, hc, hic⟩, ho, hox, hcx, hps, hn⟩ X hX
  simp only at hi0 hc hic ho hox hcx hps hn ⊢
  have wi : IntKind.i64.wrap (i + 1) = i + 1 := Za (by omega)
  have wp : IntKind.i64.wrap (ps + 1) = ps + 1 := Za (by omega)
  simp only [wi, wp]
  refine ⟨fun c => U0 ?_, fun c => hJ1 _ ⟨?_, hox⟩⟩
  ·have hgo : (a0.length : Int) ≤ i → 0 < cr.length := by
    intro h
    have e : decide (i < (a0.length : Int)) = false := by simp; omega
    rw [e] at c; simpa using c
   refine AR (fun p => (0 ≤ p.2.1 ∧ p.2.1 ≤ ps + 1) ∧ (p.2.2.1.length : Int) = i + 1 ∧ (∀ x ∈ p.2.2.1, zKs x) ∧ (∀ k ∈ p.2.2.2, k.size ≤ 2000000) ∧ p.2.2.2.length ≤ 1000 ∧ ((a0.length : Int) ≤ i → p.2.2.2.length < cr.length)) ?_ ?_
   ·rintro ⟨q1, q2, q3, q4⟩ ⟨g1, g2, g3, g4, g5, g6⟩
    simp only at g1 g2 g3 g4 g5 g6 ⊢
    refine hX _ _ ?_ ⟨⟨by simp only; omega, g5, ?_⟩, g2, g3, g4, by simp only; omega, rfl⟩
    ·subst hn
     simp only
     by_cases h : (a0.length : Int) ≤ i
     ·have := g6 h; omega
     ·omega
    ·simp only
     by_cases h : (a0.length : Int) ≤ i
     ·have := g6 h; omega
     ·omega
   intro J4 hJ4
   refine AR (fun p => p.1 = out ∧ p.2.length ≤ 1900 ∧ ((a0.length : Int) ≤ i → p.2.length = cr.length) ∧ ∀ k ∈ p.2, k.size ≤ 2000000) ?_ ?_
   ·rintro ⟨q1, l⟩ ⟨rfl, g1, g2, g3⟩
    dsimp only at *
    obtain ⟨v, hv, hl, hvk⟩ := (x_ref6_sorted (a0 := l)).go ⟨by omega, g3⟩
    refine ⟨v, hv, fun c => ⟨by simp only [List.length_append, List.length_cons, List.length_nil]; omega, hJ4 _ ⟨by simp only; omega, by simp; omega, ZS hox (JC ⟨by omega, hvk⟩), ZT, by simp, fun h => ?_⟩⟩, fun c => ?_⟩
    ·have := hgo h; simpa using this
    have eE : IntKind.i64.wrap (IntKind.i64.wrap ((v.length : Int).tdiv 2) * 2) = 2 * ((v.length : Int) / 2) := by
     rw [Int.tdiv_eq_ediv_of_nonneg (by omega), Za (n := (v.length : Int) / 2) (by omega), Za (by omega)]; omega
    simp only [eE, List.length_map]
    refine AR (fun p => p.1 = q1 ∧ 2 * p.2.1.length ≤ v.length ∧ (∀ k ∈ p.2.1, k.size ≤ 2000000) ∧ p.2.2 = v) ?_ ?_
    ·rintro ⟨r1, r2, r3⟩ ⟨rfl, k1, k2, rfl⟩
     dsimp only at *
     obtain ⟨u, hu, _⟩ := (x_ref6_sum (a0 := sl) (a1 := Y7 .i64 1 (IntKind.u64.wrap i))).go trivial
     refine ⟨(G2 i).1, u, hu, ⟨by omega, by omega⟩, by simp only [List.length_append, List.length_cons, List.length_nil]; omega, hJ4 _ ⟨by simp only; omega, by simp; omega, ZS hox (JC ⟨?_, PX (Og hvk)⟩), k2, by simp only; omega, fun h => ?_⟩⟩
     ·simp only [List.length_take, List.length_drop]; omega
     ·have := hgo h; have := g2 h; simp only; omega
    intro J12 hJ12
    obtain ⟨b, hb, hb1⟩ := (x_ref1_Bit (a0 := a3) (a1 := ps)).go ⟨by omega, by omega, by omega⟩
    refine ⟨b, hb, ?_⟩
    refine Bp (I := fun n (s : List (List ByteArray) × List ByteArray × List ByteArray × Int) => s.1 = q1 ∧ s.2.2.1 = v ∧ s.2.2.2 = b + 2 * (s.2.1.length : Int) ∧ s.2.2.2 ≤ 2 * ((v.length : Int) / 2) + 1 ∧ (∀ k ∈ s.2.1, k.size ≤ 2000000) ∧ n = (2 * ((v.length : Int) / 2) + 2 - s.2.2.2).toNat) ?_ ⟨rfl, rfl, by simp, ?_, ZT, rfl⟩
    ·rintro n ⟨s1, s2, s3, s4⟩ ⟨rfl, rfl, f1, f2, f3, f4⟩ Y hY
     dsimp only at *
     refine ⟨fun c => ?_, fun c => hJ12 _ ⟨rfl, ?_, f3, rfl⟩⟩
     ·have c2 : s4 < 2 * ((s3.length : Int) / 2) := by simpa using c
      obtain ⟨y, hy, hyk⟩ := Zp (l := s3) (n := s4) (by omega) (by omega)
      have wy : IntKind.i64.wrap (s4 + 2) = s4 + 2 := Za (by omega)
      rw [wy]
      refine ⟨y, hy, by simp only [List.length_append, List.length_cons, List.length_nil]; omega, hY _ _ ?_ ⟨rfl, rfl, by simp; omega, by simp only; omega, ZS f3 (JC (hvk y (List.mem_of_getElem? hyk))), rfl⟩⟩
      simp only; omega
     ·have c2 : ¬ s4 < 2 * ((s3.length : Int) / 2) := by simpa using c
      simp only; omega
    ·have : 0 < v.length ∨ v.length = 0 := by omega
     simp only; omega
   ·intro J5 hJ5
    refine ⟨fun c => ?_, fun c => hJ5 _ ⟨rfl, by simp only; omega, fun _ => rfl, hcx⟩⟩
    have c2 : i < (a0.length : Int) := by simpa using c
    obtain ⟨y, hy, hyk⟩ := Zp (l := a0) (n := i) hi0 c2
    have hy2 := hk y (List.mem_of_getElem? hyk)
    exact ⟨y, hy, by omega, by omega, hJ5 _ ⟨rfl, by simp; omega, fun h => by omega, ZS hy2.2 hcx⟩⟩
  ·simp only
   by_cases h : (a0.length : Int) ≤ i
   ·have : (i : Int) + cr.length ≤ a0.length + 1000 := hic
    omega
   ·omega)⟩
theorem N3 [ZH] [Ab] [Wp] [Cy] : BH := ZM (JZ.eq_1 _ _ _ _)
theorem IS [ZX] [Wq] [Ky] [ZN] : US := ZM (KW.eq_1 _)
theorem Il [Zv] [Ax] : Uo := ZM (Ku.eq_1 _ _)
theorem Rv : Ev := ZM (XM.eq_1 _ _)
theorem Rw [Vn] [ZB] [UA] [AD] [WR] [UR] [C5] [WS] [AE] : BM := ZM (Vz.eq_1 _ _ _ _)
theorem Ry [BG] : Ew := fun {a0} => Gf (XJ.eq_1 _)
theorem Rz [X1] [BC] [Uq] : YR := ZM (Jf.eq_1 _ _ _)
theorem RA [Cu] [Ew] [V2] [Uq] [YP] [BD] [Yn] : Ez := fun {a0} {a1} {a2} {a3} => Gf (XK.eq_1 _ _ _ _)
theorem NP [Cv] [BE] : C8 := fun {a0} => Gf (Vk.eq_1 _) (fun h => by
 obtain ⟨d1, d2, d3⟩ := h
 refine AR (fun p => p.length ≤ 1099511627776 ∧ Srt p ∧ (p.map ek).Perm (Ss a0.fa1)) (fun p hp => hp) fun J hJ => EG (fun s => Srt s.1 ∧ (s.1.map ek).Perm (Ss (a0.fa1.take s.2.toNat))) ⟨by simp, by simp, by simp⟩ ⟨List.Pairwise.nil, by simp [Ss]⟩ ?_
 rintro ⟨l, i⟩ ⟨i0, i1, i2⟩ ⟨e1, e2⟩ X hX
 dsimp only at *
 refine Z5 (fun c => ?_) fun c => hJ _ ⟨by omega, e1, by rw [List.take_of_length_le (by simp at c; omega)] at e2; exact e2⟩
 have ci : i < (a0.fa1.length : Int) := by simpa using c
 obtain ⟨o, ho, hom⟩ := Zp (l := a0.fa1) (n := i) i0 ci
 have ol := d2 o (List.mem_of_getElem? hom)
 rw [Za (n := i + 1) (by omega)]
 have t1 : (i + 1).toNat = i.toNat + 1 := by omega
 refine AR (fun p => (p.length : Int) ≤ 1048576 * (i + 1) ∧ Srt p ∧ (p.map ek).Perm (Ss (a0.fa1.take (i + 1).toNat))) (fun p hp => hX _ ⟨by dsimp only; omega, by dsimp only; omega, hp.1⟩ hp.2 (by dsimp only; omega)) fun K hK => EG (fun s => Srt s.1 ∧ (s.1.map ek).Perm (Ss (a0.fa1.take i.toNat) ++ (o.fa9.take s.2.toNat).map fun v => (o.fID, v.fd0))) ⟨by simp, by simp, by simpa using i2⟩ ⟨e1, by simpa using e2⟩ ?_
 rintro ⟨m, j⟩ ⟨j0, j1, j2⟩ ⟨f1, f2⟩ Y hY
 dsimp only at *
 refine ⟨o, ho, Z5 (fun c => ?_) fun c => hK _ ⟨by have := j1; have := j2; omega, f1, by rw [t1, Qlr hom]; rw [List.take_of_length_le (l := o.fa9) (by simp at c; omega)] at f2; exact f2⟩⟩
 have cj : j < (o.fa9.length : Int) := by simpa using c
 obtain ⟨v, hv, hvm⟩ := Zp (l := o.fa9) (n := j) j0 cj
 rw [Za (n := j + 1) (by omega)]
 have t2 : (j + 1).toNat = j.toNat + 1 := by omega
 have ln : (m ++ [Qu.mk o.fID v]).length = m.length + 1 := by simp
 have st0 : Ins (m ++ [Qu.mk o.fID v]) (m ++ [Qu.mk o.fID v]) (IntKind.i64.wrap (((m ++ [Qu.mk o.fID v]).length : Int) - 1)) := by
  have q : (((m ++ [Qu.mk o.fID v]).length : Int) - 1) = m.length := by rw [ln]; omega
  rw [q, Za (by omega)]; exact Ins.start f1
 refine AR (fun p => Srt p ∧ p.Perm (m ++ [Qu.mk o.fID v])) (fun p hp => hY _ ⟨by dsimp only; omega, by dsimp only; omega, by have := hp.2.length_eq; dsimp only; omega⟩ ⟨hp.1, ?_⟩ (by dsimp only; omega)) fun M hM => ⟨o, ho, o, ho, v, hv, U0 ⟨by rw [List.length_singleton]; omega, EG (fun s => Ins (m ++ [Qu.mk o.fID v]) s.1 s.2) ⟨rfl, by rw [ln, Za (by omega)]; omega, by rw [ln, Za (by omega)]; omega, fun _ h => h⟩ st0 ?_⟩⟩
 ·dsimp only
  rw [t2, List.take_add_one, hvm, List.map_append, ← List.append_assoc]
  refine (hp.2.map ek).trans ?_
  rw [List.map_append]
  exact f2.append_right _
 rintro ⟨w, k⟩ ⟨k1, k2, k3, k4⟩ g Z hZ
 dsimp only at *
 by_cases k0 : k > 0
 ·obtain ⟨x, hx, hxm⟩ := Zp (l := w) (n := k) (by omega) (by omega)
  obtain ⟨y, hy, hym⟩ := Zp (l := w) (n := k - 1) (by omega) (by omega)
  obtain ⟨z, hz, _⟩ := Zp (l := w.set k.toNat y) (n := k - 1) (by omega) (by simp; omega)
  rw [Za (n := k - 1) (by omega)]
  refine ⟨x, fun _ => hx, nxg (fun _ => trivial) fun px _ qx => ⟨y, fun _ => hy, nxg (fun _ => trivial) fun py _ qy => nxg (fun _ => trivial) fun b _ qb => ?_⟩⟩
  have qb := qb (by simpa using k0)
  have qx := qx (by simpa using k0)
  have qy := qy (by simpa using k0)
  rw [qx.1, qx.2, qy.1, qy.2] at qb
  have kd : decide (k > 0) = true := by simpa using k0
  rw [kd]
  refine Z5 (fun c => ?_) fun c => hM _ (g.end1 k0 hxm hym (by rw [← show b = bf (ek x) (ek y) from qb]; exact c))
  have st := g.step k0 hxm hym (by rw [← show b = bf (ek x) (ek y) from qb]; exact c)
  exact U0 ⟨y, hy, x, hx, x, hx, U0 ⟨z, hz, U0 (hZ _ ⟨by simpa using k1, by dsimp only; omega, by dsimp only; omega, fun q hq => st.1.mem_iff.1 hq⟩ st (by dsimp only; omega))⟩⟩
 ·have kd : decide (k > 0) = false := by simpa using k0
  rw [kd]
  refine ⟨default, fun c => (by cases c), default, fun c => (by cases c), default, fun c => (by cases c), default, fun c => (by cases c), default, fun c => (by cases c), Z5 (fun c => by cases c) fun _ => hM _ (g.end0 k0)⟩)
theorem Qbb : EB := fun {a0} => ZM (Yp.eq_1 _) (fun _ => by
 simp only [Qlc, Q6m]
 refine Z5 (fun _ => sz1 (by simp)) fun _ => ⟨by simp, ?_⟩
 exact ixq (P := fun v => v.size ≤ 32) (by decide) ⟨tm0 (by omega), tm1 (by omega) (by simp)⟩ fun a _ _ _ ha => ha)
theorem Tg [C9] [UZ] [DG] [DI] [If] : FQ := fun {a0} => Gf (Yv.eq_1 _) (fun h => by
 simp only [bA1, bA3, bA7, Qlc, Qld, Qth, Q6m, Pg, C1]
 revert h; exact yx_)
end Go.Proofs.YtimfmcpbkdpmoaaGreat
