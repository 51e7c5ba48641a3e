/- Parts of the proof, laid together. No condition. -/
import Derived.Test.YtimfmcpbkdpmoaaGreatKB6
set_option linter.unusedVariables false
set_option linter.unusedSimpArgs false
set_option maxRecDepth 100000
set_option maxHeartbeats 4000000
namespace Go.Proofs.YtimfmcpbkdpmoaaGreat
open Go.RowKit
theorem Ry : C7 := ZD (Kf.eq_1 _ _)
theorem P3 : Bf := fun {a0} {a1} => ZD (JB.eq_1 _ _) (fun h => Fo (by
 refine Q8y (l := a0) (by omega) (obF a1) (fun j x hx hix hf X hX => ?_) (fun e => ⟨⟨by simp, by omega⟩, fun _ => e, fun c => by simp at c⟩)
 have hj := (List.getElem?_eq_some_iff.1 hx).1
 refine ⟨x, hix, KL (fun c => ⟨⟨by omega, by omega⟩, fun c => by omega, fun _ => ⟨x, by rw [Q00]; exact hx, hf c⟩⟩) fun c => hX c⟩))
theorem P4 [C7] [V7] [Wo] [D8] [D9] [G4] [C8] : Bj := fun {a0} {a1} {a2} => ZD (Kq.eq_1 _ _ _) (fun h => by
 obtain ⟨h, hn, hd, hdb⟩ := h
 have hz := h
 obtain ⟨z1, z2, z3, z4, z5, z6, z7, z8, z9⟩ := h
 obtain ⟨c1, c2, c3, c4, c5, c6, c7⟩ := z1
 obtain ⟨y1, y2, y3⟩ := z9
 have no : ∀ e : Int, e ≠ 16 → (fun r : Q2 × Int × Int => (UG r.1 ∧ r.2.2 ≠ 16) ∧ KE a0 r.1) (a0, 0, e) := fun e he => ⟨⟨hz, he⟩, KE.i (fun hs => hs) rfl (.inl rfl)⟩
 have w : IntKind.i64.wrap (a0.fa1 + 1) = a0.fa1 + 1 := Zp (by omega)
 rw [w]
 refine Un ⟨hd, hdb⟩ fun p _ hp => Un hn fun u _ _ => KL (fun _ => no _ (by decide)) fun _ => KL (fun _ => no _ (by decide)) fun cd => Un hz fun v _ _ => KL (fun _ => no _ (by decide)) fun _ => Un (by omega) fun n _ _ => KL (fun _ => no _ (by decide)) fun _ => KL (fun _ => no _ (by decide)) fun cc => Un hz fun k _ _ => KL (fun _ => no _ (by decide)) fun _ => ?_
 have cc2 : ¬ a0.fa1 ≥ a0.fq.fc5 := by simpa using cc
 have cd2 : ¬ (a2.length : Int) > 65536 := by simpa using cd
 refine HV (fun q => q.1 ≤ 16384 ∧ (q.2.1.length ≤ 16384 ∧ ∀ x ∈ q.2.1, IN x) ∧ q.2.2.length ≤ 65536) ?_ fun J hJ => ?_
 ·rintro ⟨cap, pg, ns⟩ ⟨g1, ⟨g2, g3⟩, g4⟩
  dsimp only at *
  refine ⟨by omega, by simp; omega, Un ⟨by omega, hn, z6⟩ fun b _ hb => ?_⟩
  obtain ⟨⟨b1, b2⟩, b3⟩ := hb
  have up : ∀ x ∈ a0.fa9, zO (a0.fa1 + 1) x := fun x hx => ⟨by have := (z4 x hx).1; omega, (z4 x hx).2⟩
  refine ⟨⟨⟨⟨c1, c2, c3, c4, c5, c6, c7⟩, by dsimp only; omega, by simp; omega, ZP up (KO ⟨by simp; omega, KO g4⟩), by dsimp only; omega, b2, z7, z8, g2, g1, g3⟩, by simp⟩, KE.i (fun hs => ?_) rfl (.inr (by dsimp only; omega))⟩
  have l0 := hs.l0
  have lc := hs.lc
  have wl : IntKind.i64.wrap (a0.fd6 + 1) = a0.fd6 + 1 := Zp (by omega)
  rw [wl]
  refine { bt := fun x hx => (b3 x hx).elim (fun e => by have := hs.bt x e; dsimp only; omega) .inl, vt := ZP (fun x hx v hv => by have := hs.vt x hx v hv; dsimp only; omega) (KO (KO (.inl rfl))), id := ?_, la := ZP (fun x hx => by have := hs.la x hx; dsimp only; omega) (KO (Int.le_refl _)), l0 := by dsimp only; omega, lc := by dsimp only; omega }
  refine List.pairwise_append.2 ⟨hs.id, by simp, fun x hx y hy => ?_⟩
  rw [List.mem_singleton.1 hy]
  have := hs.la x hx
  dsimp only; omega
 ·refine lvi ⟨rfl, hp.1, by simp, by simp, by simp, y2, y1, y3⟩ ?_
  rintro ⟨l, i, cap, pg, ns⟩ ⟨i1, i2, i3, i4, i5, i6, i7, i8⟩ X hX
  dsimp only at *
  subst i1
  refine KL (fun c => ?_) fun _ => hJ _ ⟨i6, ⟨i7, i8⟩, by have := hp.2; dsimp only; omega⟩
  have ci : i < (p.1.length : Int) := by simpa using c
  obtain ⟨b, hb, hbm⟩ := YV (l := p.1) (n := i) i3 ci
  have wi : IntKind.i64.wrap (i + 1) = i + 1 := Zp (by have := hp.2; omega)
  rw [wi]
  refine ⟨b, hb, Un ⟨⟨i7, i6, i8⟩, (i2 b (List.mem_of_getElem? hbm)).2⟩ fun t _ ht => ⟨by have := hp.2; simp; omega, hX _ ⟨rfl, i2, by dsimp only; omega, by dsimp only; omega, by simp; omega, ht.2.1, ht.1, ht.2.2⟩ (by dsimp only; omega)⟩⟩)
theorem Rz [ET] : EU := fun {a0} => ZD (Yy.eq_1 _) (fun h => by
 have hz := h
 obtain ⟨z1, z2, z3, z4, z5, z6, z7, z8, z9⟩ := h
 obtain ⟨c1, c2, c3, c4, c5, c6, c7⟩ := z1
 refine Un ⟨⟨by omega, by omega⟩, z6⟩ fun r _ hr => ?_
 obtain ⟨⟨r1, r2⟩, r3, r4⟩ := hr
 exact ⟨⟨⟨c1, c2, c3, c4, c5, c6, c7⟩, z2, z3, z4, by dsimp only; omega, r2, z7, z8, z9⟩, fun hs => Qje hs r3 r4⟩)
theorem I0 [Jm] : ZN := ZD (QB.eq_1 _)
theorem RA : Cb := ZD (XB.eq_1 _ _)
theorem IX : W9 := ZD (ZW.eq_1 _ _)
theorem Q4k : VZ := fun {a0} => ZD (QV.eq_1 _) (fun h => by
 refine KL (fun c => ⟨by simp, KO w8c, fun _ => rfl, fun k _ => by simp⟩) (fun c => Fo (lvi ⟨by simp, by simpa using (show a0 < 18446744073709551616 by omega), VS, fun k hk => ⟨by simp, by simpa using hk⟩⟩ ?_))
 have c' : ¬ a0 < 248 := by simpa using c
 rintro ⟨x, l⟩ ⟨hl, hx, hb, hk⟩ X hX
 dsimp only at *
 refine KL (fun hp => ?_) (fun _ => ⟨by simp; omega, by simp; omega, ZP (KO w8c) hb, fun c => absurd c c', fun k h2 => by have := (hk k h2).1; simp; omega⟩)
 have hp' : 0 < x := by simpa using hp
 have lt : ∀ k : Nat, l.length ≤ k → x < 256 ^ (k - l.length) → l.length + 1 ≤ k := by
  intro k h1 h2
  rcases Nat.lt_or_ge l.length k with h | h
  ·exact h
  ·have e : k - l.length = 0 := by omega
   rw [e] at h2; simp at h2; omega
 have sp : ∀ k : Nat, l.length + 1 ≤ k → x < 256 ^ (k - l.length) → ZQ .i64 x 8 < 256 ^ (k - ([IntKind.u8.wrap x] ++ l).length) := by
  intro k h1 h2
  have e : k - l.length = (k - ([IntKind.u8.wrap x] ++ l).length) + 1 := by simp; omega
  rw [e, Int.pow_succ] at h2
  rw [shr8]
  generalize (256 : Int) ^ (k - ([IntKind.u8.wrap x] ++ l).length) = M at h2 ⊢
  omega
 have hl7 := lt 8 hl hx
 refine ⟨by simp; omega, hX _ ⟨by simp; omega, sp 8 hl7 hx, ZP (KO w8c) hb, fun k h2 => ?_⟩ (by simp; omega)⟩
 have q := hk k h2
 have q2 := lt k q.1 q.2
 exact ⟨by simp; omega, sp k q2 q.2⟩)
theorem MQ [Ja] [VZ] [U8] [Cm] : BL := ZD (Jk.eq_1 _)
theorem IY [ZM] : An := ZD (Kn.eq_1 _)
theorem Q0c [DX] : Da := ZD (Yj.eq_1 _)
theorem Q4l [Cb] : Az := ZD (Kv.eq_1 _)
theorem ND : UU := ZD (Vy.eq_1 _)
theorem RD [x_ref6_sorted : F0] [x_ref6_sum : Wa] [x_ref1_Bit : IV] : Cc := fun {a0} {a1} {a2} {a3} {a4} => ⟨fun hp => ex_ (by
 obtain ⟨⟨h0, hk⟩, ha4, ha3⟩ := hp
 rw [XD.eq_1]
 refine HV (fun p => p.2.2.length ≤ 2000 ∧ ∀ x ∈ p.2.2, zKs x) ?_ ?_
 ·rintro ⟨p1, p2, p3⟩ ⟨h1, h2⟩
  simp only at h1 h2 ⊢
  refine HV (fun p => p.length ≤ 2000 ∧ ∀ x ∈ p, zKs x) (fun p h => h) ?_
  intro J hJ
  refine XM (I := fun n s => n = s.length ∧ s.length ≤ 2000 ∧ ∀ x ∈ s, zKs x) ?_ (k := p3.length) ⟨rfl, h1, h2⟩
  rintro n s ⟨rfl, hs1, hs2⟩ X hX
  by_cases hz : 0 < s.length
  ·have w : IntKind.i64.wrap ((s.length : Int) - 1) = ((s.length - 1 : Nat) : Int) := by rw [Zp (by omega)]; omega
   simp only [w]
   refine ⟨s[s.length - 1], fun _ => ⟨by omega, by simp⟩, fun _ => XH ⟨by omega, ?_⟩, fun _ => hJ _ ⟨hs1, hs2⟩⟩
   refine hX _ _ ?_ ⟨rfl, ?_, Tf hs2⟩
   ·simp only [Int.toNat_natCast, List.length_take]; omega
   ·simp only [Int.toNat_natCast, List.length_take]; omega
  ·refine ⟨default, fun c => ?_, fun c => ?_, fun _ => hJ _ ⟨hs1, hs2⟩⟩
   ·exact absurd (by simpa using c) hz
   ·have e : decide ((s.length : Int) > 0) = false := by rw [decide_eq_false_iff_not]; omega
    rw [e] at c; cases c
 ·intro J1 hJ1
  refine XM (I := fun n (s : Int × Int × List (List ByteArray) × List ByteArray × Int) => (0 ≤ s.2.2.2.2 ∧ s.2.2.2.1.length ≤ 1000 ∧ s.2.2.2.2 + s.2.2.2.1.length ≤ a0.length + 1000) ∧ (s.2.2.1.length : Int) = s.2.2.2.2 ∧ (∀ x ∈ s.2.2.1, zKs x) ∧ (∀ k ∈ s.2.2.2.1, k.size ≤ 2000000) ∧ (0 ≤ s.2.1 ∧ s.2.1 ≤ a4 + s.2.2.2.2) ∧ n = (3000 * ((a0.length : Int) - s.2.2.2.2)).toNat + s.2.2.2.1.length) ?_ ⟨⟨by simp, by simp, by simp; omega⟩, by simp, VS, VS, by simp; omega, rfl⟩
  rintro n ⟨sl, ps, out, cr, i⟩ ⟨⟨hi0, hc, hic⟩, ho, hox, hcx, hps, hn⟩ X hX
  simp only at hi0 hc hic ho hox hcx hps hn ⊢
  have wi : IntKind.i64.wrap (i + 1) = i + 1 := Zp (by omega)
  have wp : IntKind.i64.wrap (ps + 1) = ps + 1 := Zp (by omega)
  simp only [wi, wp]
  refine ⟨fun c => XH ?_, fun c => hJ1 _ ⟨?_, hox⟩⟩
  ·have hgo : (a0.length : Int) ≤ i → 0 < cr.length := by
    intro h
    have e : decide (i < (a0.length : Int)) = false := by simp; omega
    rw [e] at c; simpa using c
   refine HV (fun p => (0 ≤ p.2.1 ∧ p.2.1 ≤ ps + 1) ∧ (p.2.2.1.length : Int) = i + 1 ∧ (∀ x ∈ p.2.2.1, zKs x) ∧ (∀ k ∈ p.2.2.2, k.size ≤ 2000000) ∧ p.2.2.2.length ≤ 1000 ∧ ((a0.length : Int) ≤ i → p.2.2.2.length < cr.length)) ?_ ?_
   ·rintro ⟨q1, q2, q3, q4⟩ ⟨g1, g2, g3, g4, g5, g6⟩
    simp only at g1 g2 g3 g4 g5 g6 ⊢
    refine hX _ _ ?_ ⟨⟨by simp only; omega, g5, ?_⟩, g2, g3, g4, by simp only; omega, rfl⟩
    ·subst hn
     simp only
     by_cases h : (a0.length : Int) ≤ i
     ·have := g6 h; omega
     ·omega
    ·simp only
     by_cases h : (a0.length : Int) ≤ i
     ·have := g6 h; omega
     ·omega
   intro J4 hJ4
   refine HV (fun p => p.1 = out ∧ p.2.length ≤ 1900 ∧ ((a0.length : Int) ≤ i → p.2.length = cr.length) ∧ ∀ k ∈ p.2, k.size ≤ 2000000) ?_ ?_
   ·rintro ⟨q1, l⟩ ⟨rfl, g1, g2, g3⟩
    dsimp only at *
    obtain ⟨v, hv, hl, hvk⟩ := (x_ref6_sorted (a0 := l)).go ⟨by omega, g3⟩
    refine ⟨v, hv, fun c => ⟨by simp only [List.length_append, List.length_cons, List.length_nil]; omega, hJ4 _ ⟨by simp only; omega, by simp; omega, ZP hox (KO ⟨by omega, hvk⟩), VS, by simp, fun h => ?_⟩⟩, fun c => ?_⟩
    ·have := hgo h; simpa using this
    have eE : IntKind.i64.wrap (IntKind.i64.wrap ((v.length : Int).tdiv 2) * 2) = 2 * ((v.length : Int) / 2) := by
     rw [Int.tdiv_eq_ediv_of_nonneg (by omega), Zp (n := (v.length : Int) / 2) (by omega), Zp (by omega)]; omega
    simp only [eE, List.length_map]
    refine HV (fun p => p.1 = q1 ∧ 2 * p.2.1.length ≤ v.length ∧ (∀ k ∈ p.2.1, k.size ≤ 2000000) ∧ p.2.2 = v) ?_ ?_
    ·rintro ⟨r1, r2, r3⟩ ⟨rfl, k1, k2, rfl⟩
     dsimp only at *
     obtain ⟨u, hu, _⟩ := (x_ref6_sum (a0 := sl) (a1 := Xn .i64 1 (IntKind.u64.wrap i))).go trivial
     refine ⟨(BB i).1, u, hu, ⟨by omega, by omega⟩, by simp only [List.length_append, List.length_cons, List.length_nil]; omega, hJ4 _ ⟨by simp only; omega, by simp; omega, ZP hox (KO ⟨?_, Tf (Tg hvk)⟩), k2, by simp only; omega, fun h => ?_⟩⟩
     ·simp only [List.length_take, List.length_drop]; omega
     ·have := hgo h; have := g2 h; simp only; omega
    intro J12 hJ12
    obtain ⟨b, hb, hb1⟩ := (x_ref1_Bit (a0 := a3) (a1 := ps)).go ⟨by omega, by omega, by omega⟩
    refine ⟨b, hb, ?_⟩
    refine XM (I := fun n (s : List (List ByteArray) × List ByteArray × List ByteArray × Int) => s.1 = q1 ∧ s.2.2.1 = v ∧ s.2.2.2 = b + 2 * (s.2.1.length : Int) ∧ s.2.2.2 ≤ 2 * ((v.length : Int) / 2) + 1 ∧ (∀ k ∈ s.2.1, k.size ≤ 2000000) ∧ n = (2 * ((v.length : Int) / 2) + 2 - s.2.2.2).toNat) ?_ ⟨rfl, rfl, by simp, ?_, VS, rfl⟩
    ·rintro n ⟨s1, s2, s3, s4⟩ ⟨rfl, rfl, f1, f2, f3, f4⟩ Y hY
     dsimp only at *
     refine ⟨fun c => ?_, fun c => hJ12 _ ⟨rfl, ?_, f3, rfl⟩⟩
     ·have c2 : s4 < 2 * ((s3.length : Int) / 2) := by simpa using c
      obtain ⟨y, hy, hyk⟩ := YV (l := s3) (n := s4) (by omega) (by omega)
      have wy : IntKind.i64.wrap (s4 + 2) = s4 + 2 := Zp (by omega)
      rw [wy]
      refine ⟨y, hy, by simp only [List.length_append, List.length_cons, List.length_nil]; omega, hY _ _ ?_ ⟨rfl, rfl, by simp; omega, by simp only; omega, ZP f3 (KO (hvk y (List.mem_of_getElem? hyk))), rfl⟩⟩
      simp only; omega
     ·have c2 : ¬ s4 < 2 * ((s3.length : Int) / 2) := by simpa using c
      simp only; omega
    ·have : 0 < v.length ∨ v.length = 0 := by omega
     simp only; omega
   ·intro J5 hJ5
    refine ⟨fun c => ?_, fun c => hJ5 _ ⟨rfl, by simp only; omega, fun _ => rfl, hcx⟩⟩
    have c2 : i < (a0.length : Int) := by simpa using c
    obtain ⟨y, hy, hyk⟩ := YV (l := a0) (n := i) hi0 c2
    have hy2 := hk y (List.mem_of_getElem? hyk)
    exact ⟨y, hy, by omega, by omega, hJ5 _ ⟨rfl, by simp; omega, fun h => by omega, ZP hy2.2 hcx⟩⟩
  ·simp only
   by_cases h : (a0.length : Int) ≤ i
   ·have : (i : Int) + cr.length ≤ a0.length + 1000 := hic
    omega
   ·omega)⟩
theorem IZ [Bq] : Wb := ZD (KX.eq_1 _)
theorem L0 [Kj] [Jb] [ZV] [XY] : Ar := ZD (JU.eq_1 _)
theorem Fu [ZH] [Jm] [Ep] : YM := ZD (Kb.eq_1 _ _)
theorem Q4m [Vs] [Am] [BM] [EX] [An] [CG] : Es := ZD (XC.eq_1 _)
theorem RE : F3 := ZD (Yv.eq_1 _)
theorem RF [Cl] [Xm] [Bh] [Uc] : Cd := fun {a0} {a1} => nx1 (V2.eq_1 _ _) (fun h => by
 obtain ⟨hz, hl⟩ := h
 refine KL (fun c => ?_) fun c => XH (Fo (Qy0 (fun s => M4 a0 a1 s.1 s.2.1) ?_ ?_ ?_))
 ·revert hz c; exact yx_
 ·clear hz; revert hl; exact yx_
 ·exact M4.nil
 ·revert hz hl; exact yx_)
theorem Q0d : Gc := ZD (Xw.eq_1 _)
theorem P5 [YN] [Vt] [Bh] [Gb] [C9] [Xm] : E2 := fun {a0} {a1} {a2} {a3} {a4} => nx1 (Ka.eq_1 _ _ _ _ _)
theorem Qdu : HW := fun {a0} {a1} => ZD (Wh.eq_1 _ _) (fun h => by
 refine KL (fun _ => trivial) (fun c => ?_)
 have hp : (0 : Int) < a0.length := by simp at c; have := List.length_pos_iff.2 c; omega
 obtain ⟨v, hv, _⟩ := YV (l := a0) (n := a1.tmod a0.length) (tm0 h) (tm1 h hp)
 exact ⟨by omega, v, hv, by omega, trivial⟩)
end Go.Proofs.YtimfmcpbkdpmoaaGreat
