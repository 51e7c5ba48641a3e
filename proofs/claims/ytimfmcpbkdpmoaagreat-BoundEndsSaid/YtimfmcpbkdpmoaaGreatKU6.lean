/- Parts of the proof, laid together. No condition. -/
import Derived.Test.YtimfmcpbkdpmoaaGreatKB6
set_option linter.unusedVariables false
set_option linter.unusedSimpArgs false
set_option maxRecDepth 100000
set_option maxHeartbeats 4000000
namespace Go.Proofs.YtimfmcpbkdpmoaaGreat
open Go.RowKit
theorem Ob [Ws] : CK := Zp (VQ.eq_1 _ _)
theorem MA [Yb] : Bl := Zp (JM.eq_1 _ _)
theorem Iv [x_ref14_Holds : Wr] : UG := fun {a0} {a1} => Zp (KQ.eq_1 _ _) (fun h => joi (by
 refine Q9y (l := a0) (by omega) (veF a1) (fun j x hx hix hf X hX => ?_) (fun e => ⟨⟨by simp, fun c => by simp at c⟩, fun _ => e, fun c => by simp at c⟩)
 obtain ⟨v, hv, e⟩ := (x_ref14_Holds (a0 := x.fd5) (a1 := x.fTo) (a2 := a1)).go trivial
 have hj := (List.getElem?_eq_some_iff.1 hx).1
 refine ⟨x, hix, x, hix, v, hv, ZX (fun c => ⟨⟨by simp, fun _ => by dsimp only; omega⟩, fun c => by simp at c, fun _ => ⟨x, by dsimp only; rw [Q16]; exact hx, hf (by unfold veF; rw [← e]; exact c)⟩⟩) fun c => hX (by unfold veF; rw [← e]; exact c)⟩))
theorem Sr [E5] : JC := Zp (Zw.eq_1 _)
theorem Ss [x_ref14_Covers : Ug] : Fl := fun {a0} {a1} => Zp (Yq.eq_1 _ _) (fun h => by
 obtain ⟨⟨hl, hp⟩, hz⟩ := h
 refine Iq (fun p => (p.length ≤ a0.length ∧ ∀ x ∈ p, zB x) ∧ (∀ x ∈ p, x ∈ a0) ∧ p.filter Lp = a0.filter Lp) (fun p h => h) fun J hJ => ?_
 refine Cp (I := fun n (s : List Qn × Int) => ∃ j : Nat, s.2 = (j : Int) ∧ j ≤ a0.length ∧ n = a0.length - j ∧ s.1.length ≤ j ∧ (∀ x ∈ s.1, x ∈ a0) ∧ s.1.filter Lp = (a0.take j).filter Lp) ?_ (k := a0.length) ⟨0, rfl, by omega, by omega, by simp, VT, by simp⟩
 rintro n ⟨l, i⟩ ⟨j, hi, hj, hn, hlj, hm, hf⟩ X hX
 dsimp only at *
 subst hi
 have w : IntKind.i64.wrap ((j : Int) + 1) = ((j + 1 : Nat) : Int) := by rw [KI (by omega)]; omega
 refine ZX (fun c => ?_) fun c => hJ _ ⟨⟨by omega, Q9x hz hm⟩, hm, ?_⟩
 ·have hj2 : j < a0.length := by simpa using c
  have hx : a0[j]? = some a0[j] := by simp [hj2]
  have ht : a0.take (j + 1) = a0.take j ++ [a0[j]] := List.take_succ_eq_append_getElem hj2
  obtain ⟨b, hb, _⟩ := (x_ref14_Covers (a0 := a1) (a1 := a0[j].fd5) (a2 := a0[j].fTo)).go hp
  rw [w]
  refine Iq (fun p => p.length ≤ j + 1 ∧ (∀ x ∈ p, x ∈ a0) ∧ p.filter Lp = (a0.take (j + 1)).filter Lp) (fun p hp => hX (a0.length - (j + 1)) _ (by omega) ⟨j + 1, rfl, by omega, rfl, hp⟩) fun K hK => ⟨a0[j], GP hj2, a0[j], fun _ => GP hj2, a0[j], fun _ => GP hj2, b, fun _ => hb, ZX (fun c => ⟨a0[j], GP hj2, by simp; omega, hK _ ⟨by simp; omega, Yz hm (XO (List.getElem_mem hj2)), ?_⟩⟩) fun c => hK _ ⟨by omega, hm, ?_⟩⟩
  ·rw [ht, List.filter_append, List.filter_append, hf]
  ·have : Lp a0[j] = false := by
    unfold Lp
    simp only [Du, Bool.or_eq_false_iff] at c
    exact c.1
   rw [ht, List.filter_append, hf]
   simp [this]
 ·have : j = a0.length := by simp at c; omega
  subst this
  rw [hf, List.take_length])
theorem Q1o : Gu := Zp (W4.eq_1 _)
theorem Oc [Bm] [Bq] [UG] : XT := fun {a0} {a1} {a2} => Zp (Kw.eq_1 _ _ _) (fun h => by
 have hz := h
 obtain ⟨z1, z2, z3, z4, z5, z6, z7, z8, z9⟩ := h
 obtain ⟨c1, c2, c3, c4, c5, c6, c7⟩ := z1
 have e0 : okV (Qs.mk 0 0 0 ([] : List Int)) := by show ([] : List Int).length ≤ 65536; simp
 refine Uf (by omega) fun l _ hl => Uf (by omega) fun i hi hi2 => ZX (fun c => ?_) fun c => ?_
 ·refine ⟨⟨⟨by simp, fun c => by simp at c⟩, e0⟩, fun _ => ?_, fun c => by simp at c⟩
  unfold view
  cases e : a0.fb4.find? (bnF a1 a2) with
  | none => rfl
  | some b =>
   rw [e] at hl
   simp only at hl
   subst hl
   simp only [Du, Bool.not_true, Bool.false_or, decide_eq_true_eq] at c
   have := hi2.2.1 c
   simp only [Option.bind_some]
   rw [this]; rfl
 ·cases e : a0.fb4.find? (bnF a1 a2) with
  | none =>
   rw [e] at hl
   simp only at hl
   subst hl
   simp at c
  | some b =>
   rw [e] at hl
   simp only at hl
   subst hl
   simp only [Du, Bool.not_true, Bool.false_or, decide_eq_false_iff_not] at c
   obtain ⟨o, ho, ho2⟩ := hi2.2.2 (by omega)
   have hol := (List.getElem?_eq_some_iff.1 ho).1
   have zo := z4 o (List.mem_of_getElem? ho)
   have hix : ix a0.fa6 i o := ⟨by omega, ho⟩
   refine ⟨o, hix, Uf (by omega) fun k hk hk2 => ZX (fun c => ?_) fun c => ?_⟩
   ·refine ⟨⟨⟨by simp, fun c => by simp at c⟩, e0⟩, fun _ => ?_, fun c => by simp at c⟩
    unfold view
    rw [e]
    simp only [Option.bind_some]
    rw [ho2]
    simp only [Option.bind_some]
    rw [hk2.2.1 (by simpa using c)]; rfl
   ·have c2 : k.2 = true := by simpa using c
    obtain ⟨v, hv, hv2⟩ := hk2.2.2 c2
    have hvm := List.mem_of_getElem? hv
    refine ⟨o, hix, v, ⟨hk2.1.1, hv⟩, ⟨⟨by dsimp only; omega, fun _ => by dsimp only; omega⟩, zo.2 v hvm⟩, fun c => by simp at c, fun _ => ⟨o, ho, hvm, ?_⟩⟩
    unfold view
    rw [e]
    simp only [Option.bind_some]
    rw [ho2]
    simp only [Option.bind_some]
    rw [hv2]; rfl)
theorem Q65 [XT] [Cc] [Br] [E8] [x_ref19_Live : Dh] [WH] [Gr] [Cd] : HO := fun {a0} {a1} {a2} => Zp (U8.eq_1 _ _ _) (fun h => by
 obtain ⟨h, hd, hdb⟩ := h
 have hz := h
 obtain ⟨z1, z2, z3, z4, z5, z6, z7, z8, z9⟩ := h
 obtain ⟨c1, c2, c3, c4, c5, c6, c7⟩ := z1
 obtain ⟨y1, y2, y3⟩ := z9
 have no : ∀ e : Int, e ≠ 16 → (fun r : Q2 × Int × Int => (UO r.1 ∧ r.2.2 ≠ 16) ∧ KE a0 r.1) (a0, 0, e) := fun e he => ⟨⟨hz, he⟩, KE.i (fun hs => hs) rfl (.inl rfl)⟩
 have w : IntKind.i64.wrap (a0.f9 + 1) = a0.f9 + 1 := KI (by omega)
 rw [w]
 refine ZX (fun _ => no _ (by decide)) fun cd => ?_
 have cd2 : ¬ (a2.length : Int) > 65536 := by simpa using cd
 refine Uf hz fun v _ hv => ZX (fun _ => no _ (by decide)) fun cv => Uf ⟨hd, hdb⟩ fun p _ hp => Uf ⟨hz, hv.1.2⟩ fun sto _ hsto => Uf ⟨by have e : v.2.1.fa8.length ≤ 65536 := hv.1.2; have := hsto.1; omega, by have := hp.2; omega⟩ fun shr _ hshr => ?_
 have v1 : v.2.2 = true := by simpa using cv
 obtain ⟨o, ho, hm, _⟩ := hv.2.2 v1
 have zo := z4 o (List.mem_of_getElem? ho)
 have hix : ix a0.fa6 v.1 o := ⟨hv.1.1.1, ho⟩
 refine Iq (fun q => q.1 = p.1 ∧ q.2.1 = shr) ?_ fun J hJ => ?_
 ·rintro ⟨l, sh1, nd⟩ ⟨rfl, rfl⟩
  dsimp only at *
  obtain ⟨lv1, hlv, _⟩ := (x_ref19_Live (a0 := a0)).go hz
  refine ⟨lv1, fun _ => hlv, ZX (fun _ => no _ (by decide)) fun cc => ?_⟩
  have cc2 : ¬ a0.f9 ≥ a0.fk.fc7 := by
   simp only [Du, Bool.or_eq_false_iff, decide_eq_false_iff_not] at cc; exact cc.1
  refine CZ (Iq (fun q => q.1 ≤ 16384 ∧ (q.2.1.length ≤ 16384 ∧ ∀ x ∈ q.2.1, Mp x) ∧ q.2.2.length ≤ 65536) ?_ fun J hJ => ?_)
  ·rintro ⟨cap, pg, ns⟩ ⟨g1, ⟨g2, g3⟩, g4⟩
   dsimp only at *
   refine ⟨by omega, o, hix, Uf ⟨by omega, zo.2, g4⟩ fun q _ hq => ⟨o, hix, CZ ?_⟩⟩
   obtain ⟨⟨q1, q2⟩, q3⟩ := hq
   have up : ∀ x ∈ a0.fa6, zO (a0.f9 + 1) x := fun x hx => ⟨by have := (z4 x hx).1; omega, (z4 x hx).2⟩
   refine ⟨⟨⟨⟨c1, c2, c3, c4, c5, c6, c7⟩, by dsimp only; omega, by simp; omega, YI up ⟨by have := zo.1; dsimp only; omega, q2⟩, by dsimp only; omega, z6, z7, z8, g2, g1, g3⟩, by simp⟩, KE.i (fun hs => ?_) rfl (.inr (by dsimp only; omega))⟩
   exact { bt := fun x hx => by have := hs.bt x hx; dsimp only; omega, vt := YI (fun x hx v hv => by have := hs.vt x hx v hv; dsimp only; omega) (fun x hx => (q3 x hx).elim (fun e => by have := hs.vt o (List.mem_of_getElem? ho) x e; dsimp only; omega) (fun e => by dsimp only at e ⊢; omega)), id := Q9z ho rfl hs.id, la := YI hs.la (hs.la o (List.mem_of_getElem? ho)), l0 := hs.l0, lc := by have := hs.lc; dsimp only; omega }
  ·refine lvi ⟨rfl, hp.1, rfl, by simp, by simp, by simp, y2, y1, y3⟩ ?_
   rintro ⟨l, s2, i, cap, pg, ns⟩ ⟨i1, i2, i0, i3, i4, i5, i6, i7, i8⟩ X hX
   dsimp only at *
   subst i1 i0
   refine ZX (fun c => ?_) fun _ => hJ _ ⟨i6, ⟨i7, i8⟩, by have := hp.2; dsimp only; omega⟩
   have ci : i < (p.1.length : Int) := by simpa using c
   have wi : IntKind.i64.wrap (i + 1) = i + 1 := KI (by have := hp.2; omega)
   rw [wi]
   obtain ⟨f, hf, hfm⟩ := Yy (l := s2) (n := i) i3 (by have := hshr.1; omega)
   refine Iq (fun q => q.1 = p.1 ∧ q.2.1 = s2 ∧ q.2.2.1 ≤ 16384 ∧ (q.2.2.2.1.length ≤ 16384 ∧ ∀ x ∈ q.2.2.2.1, Mp x) ∧ (q.2.2.2.2.length : Int) ≤ i + 1) ?_ fun K hK => ⟨f, hf, ZX (fun cf => ?_) fun cf => ?_⟩
   ·rintro ⟨q1, q2, q3, q4, q5⟩ ⟨rfl, rfl, g3, ⟨g4, g5⟩, g6⟩
    dsimp only at *
    exact hX _ ⟨rfl, i2, rfl, by dsimp only; omega, by dsimp only; omega, g6, g3, g4, g5⟩ (by dsimp only; omega)
   ·subst cf
    have fl := hshr.2 i.toNat hfm
    have fl2 : i < (v.2.1.fa8.length : Int) := by have := hsto.1; omega
    obtain ⟨n, hn, _⟩ := Yy (l := v.2.1.fa8) (n := i) i3 fl2
    exact ⟨n, hn, Uf ⟨i7, i6, i8⟩ fun t _ ht => ⟨n, hn, by have := hp.2; simp; omega, hK _ ⟨rfl, rfl, ht.2.1, ⟨ht.1, ht.2.2⟩, by simp; omega⟩⟩⟩
   ·obtain ⟨b, hb, hbm⟩ := Yy (l := p.1) (n := i) i3 ci
    exact ⟨b, hb, Uf ⟨⟨i7, i6, i8⟩, (i2 b (List.mem_of_getElem? hbm)).2⟩ fun t _ ht => ⟨by have := hp.2; simp; omega, hK _ ⟨rfl, rfl, ht.2.1, ⟨ht.1, ht.2.2⟩, by simp; omega⟩⟩⟩
 ·refine lvi ⟨rfl, rfl, by simp, by simp⟩ ?_
  rintro ⟨l, s2, nd, i⟩ ⟨i1, i2, i3, i4⟩ X hX
  dsimp only at *
  subst i1 i2
  refine ZX (fun c => ?_) fun _ => hJ _ ⟨rfl, rfl⟩
  have ci : i < (p.1.length : Int) := by simpa using c
  have wi : IntKind.i64.wrap (i + 1) = i + 1 := KI (by have := hp.2; omega)
  rw [wi]
  obtain ⟨f, hf, _⟩ := Yy (l := s2) (n := i) i3 (by have := hshr.1; omega)
  refine Iq (fun q => q.1 = p.1 ∧ q.2.1 = s2) ?_ fun K hK => ⟨f, hf, ZX (fun _ => hK _ ⟨rfl, rfl⟩) fun _ => hK _ ⟨rfl, rfl⟩⟩
  rintro ⟨q1, q2, q3⟩ ⟨rfl, rfl⟩
  dsimp only at *
  exact hX _ ⟨rfl, rfl, by dsimp only; omega, by dsimp only; omega⟩ (by dsimp only; omega))
theorem Su [XS] [Dg] : Fs := Zp (Yt.eq_1 _ _)
theorem GG [Bh] : JV := Zp (Zk.eq_1 _)
theorem LE [Zx] [KF] [Yc] [Cg] : Ks := Zp (Zc.eq_1 _)
theorem PS [Wi] : Eb := Zp (Xs.eq_1 _ _)
theorem Q66 : Uh := Zp (Vp.eq_1 _)
theorem H2 [Zt] [VB] [Uh] [Cs] : WK := Zp (K4.eq_1 _)
theorem Od [Zx] : CN := Zp (VK.eq_1 _)
theorem Qa6 [Ec] : Lr := Zp (Aj.eq_1 _ _)
theorem Qa7 [As] : Wj := Zp (QX.eq_1 _ _)
theorem MB : VG := fun {a0} => Zp (ZO.eq_1 _) (fun h => by
 obtain ⟨hl, hb⟩ := h
 refine ZX (fun _ => ⟨⟨by simp, by simp⟩, by simp, fun c => by simp at c, by simp⟩) fun c0 => ?_
 have hp : 0 < a0.length := by simp at c0; exact List.length_pos_iff.2 c0
 obtain ⟨v, hv, hvm⟩ := Yy (l := a0) (n := 0) (by omega) (by omega)
 have hv2 := hb v (List.mem_of_getElem? hvm)
 refine ⟨v, hv, ZX (fun c => ⟨v, hv, ⟨by simp, by simp; omega⟩, ?_, fun _ => .inl ⟨rfl, ?_⟩, by simp⟩) fun c => ⟨v, hv, ?_⟩⟩
 ·dsimp only; rw [KI (by omega)]; omega
 ·dsimp only; rw [KI (by omega)]; simpa using c
 have c2 : ¬ v < 248 := by simpa using c
 have e1 : IntKind.i64.wrap (IntKind.i64.wrap v - 247) = v - 247 := by rw [KI (n := v) (by omega), KI (by omega)]
 have e2 : IntKind.i64.wrap (v - 247 + 1) = v - 246 := by rw [KI (by omega)]; omega
 rw [e1, e2]
 refine ZX (fun _ => ⟨⟨by simp, by simp⟩, by simp, fun c => by simp at c, by simp⟩) fun c3 => ?_
 have c4 : ¬ (a0.length : Int) ≤ v - 247 := by simpa using c3
 refine Iq (fun p => 0 ≤ p ∧ p < 256 ^ (v - 247).toNat) ?_ fun J hJ => lvi ⟨by decide, by omega, by decide, by simp⟩ ?_
 ·rintro p ⟨p0, p1⟩
  obtain ⟨u, hu, _⟩ := Yy (l := a0) (n := 1) (by omega) (by omega)
  refine ⟨u, hu, ZX (fun _ => ⟨⟨by simp, by simp⟩, by simp, fun c => by simp at c, by simp⟩) fun c => ?_⟩
  simp only [Du, Bool.or_eq_false_iff, decide_eq_false_iff_not] at c
  have w : IntKind.i64.wrap p = p := KI (by omega)
  rw [w]
  refine ⟨⟨by dsimp only; omega, by dsimp only; omega⟩, p0, fun _ => .inr ⟨(v - 247).toNat, by dsimp only; omega, p1⟩, by simp⟩
 ·rintro ⟨x, i⟩ ⟨i1, i2, x0, x1⟩ X hX
  dsimp only at *
  refine ZX (fun c => ?_) fun c => hJ _ ⟨x0, ?_⟩
  ·have ci : i ≤ v - 247 := by simpa using c
   obtain ⟨u, hu, hum⟩ := Yy (l := a0) (n := i) (by omega) (by omega)
   have hu2 := hb u (List.mem_of_getElem? hum)
   have p7 := p256 (k := (i - 1).toNat) (by omega)
   have w : IntKind.i64.wrap (i + 1) = i + 1 := KI (by omega)
   refine ⟨u, hu, ?_⟩
   rw [Qyl x0 (by omega) hu2.1 hu2.2, w]
   refine hX _ ⟨by dsimp only; omega, by dsimp only; omega, by dsimp only; omega, ?_⟩ (by dsimp only; omega)
   dsimp only
   have e : (i + 1 - 1).toNat = (i - 1).toNat + 1 := by omega
   rw [e, Int.pow_succ]
   generalize (256 : Int) ^ (i - 1).toNat = M at *
   omega
  ·have ci : ¬ i ≤ v - 247 := by simpa using c
   have : i = v - 246 := by omega
   rw [this] at x1
   have e : (v - 246 - 1).toNat = (v - 247).toNat := by omega
   rw [e] at x1; exact x1)
theorem LF [ZF] [Zy] [A7] [Wj] [Fw] [Ch] : AA := Zp (Jo.eq_1 _ _ _ _)
theorem H3 [ZS] [Wk] [Kt] [Zs] : WN := Zp (K7.eq_1 _)
theorem MC [Kr] [A6] : BB := Zp (JR.eq_1 _ _)
theorem PT : Ed := Zp (XC.eq_1 _ _)
theorem Sw [Vh] [Uu] [BB] [Ui] [AD] [CS] [Uj] [By] : Fz := Zp (Yp.eq_1 _ _ _ _)
theorem PU [Bw] : Ee := Zp (Xz.eq_1 _)
theorem PW [VU] [Bs] [Uk] : YM := Zp (Jb.eq_1 _ _ _)
theorem Nq [Cf] [Bu] : BX := Zp (Vf.eq_1 _)
theorem Oe [Gw] [GD] [Fo] [Ul] [Ea] : CX := fun {a0} {a1} => nx1 (VR.eq_1 _ _) (fun h => by
 have hh := h
 obtain ⟨hz, hm⟩ := h
 refine Uf trivial fun v _ hv => Uf (by revert hh hv; clear hz hm; exact yx_) fun w _ hw => joi (Qym (fun s => KS a0 (stq s.2.2)) ?_ (KS.refl a0) ?_)
 ·clear hv hz hm; revert hh hw; exact yx_
 ·clear hv hz hm; revert hh hw; exact yx_)
theorem Q1p [Ek] : Dm := nxb (VW.eq_1 _)
theorem Og [Dm] : CY := fun {a0} => Zp (VM.eq_1 _) (fun h => by
 refine Uf trivial fun v _ _ => Iq (fun _ => True) (fun _ _ => trivial) fun J hJ => ?_
 refine ZX (fun _ => hJ _ trivial) fun _ => ZX (fun c => ixi ⟨tm0 (sn0 h), tm1 (sn0 h) (by decide)⟩ fun _ _ _ _ => hJ _ trivial) fun _ => ZX (fun _ => hJ _ trivial) fun _ => ZX (fun _ => hJ _ trivial) fun _ => ZX (fun _ => hJ _ trivial) fun _ => hJ _ trivial)
end Go.Proofs.YtimfmcpbkdpmoaaGreat
