/- Parts of the proof, laid together. No condition. -/
import Derived.Test.YtimfmcpbkdpmoaaGreatKB6
set_option linter.unusedVariables false
set_option linter.unusedSimpArgs false
set_option maxRecDepth 100000
set_option maxHeartbeats 4000000
namespace Go.Proofs.YtimfmcpbkdpmoaaGreat
open Go.RowKit
theorem P7 [x_ref14_Holds : Wm] : Ba := fun {a0} {a1} {a2} => ZD (JA.eq_1 _ _ _) (fun h => Fo (by
 refine Q8y (l := a0) (by omega) (bnF a1 a2) (fun j x hx hix hf X hX => ?_) (fun e => by rw [e])
 refine ⟨x, hix, x, fun _ => hix, x, fun _ => hix, ?_⟩
 obtain ⟨v, hv, e⟩ := (x_ref14_Holds (a0 := x.fd3) (a1 := x.fTo) (a2 := a2)).go trivial
 refine ⟨v, fun _ => hv, KL (fun c => ⟨x, hix, ?_⟩) fun c => hX ?_⟩
 ·rw [Fl] at c
  rw [hf (by unfold bnF; rw [← e]; exact c)]
 ·rw [Fl] at c
  unfold bnF; rw [← e]; exact c))
theorem RN [DN] : V7 := ZD (QP.eq_1 _)
theorem RO [x_ref14_Covers : U7] : ET := fun {a0} {a1} => ZD (Yx.eq_1 _ _) (fun h => by
 obtain ⟨⟨hl, hp⟩, hz⟩ := h
 refine HV (fun p => (p.length ≤ a0.length ∧ ∀ x ∈ p, zB x) ∧ (∀ x ∈ p, x ∈ a0) ∧ p.filter IS = a0.filter IS) (fun p h => h) fun J hJ => ?_
 refine XM (I := fun n (s : List Qg × Int) => ∃ j : Nat, s.2 = (j : Int) ∧ j ≤ a0.length ∧ n = a0.length - j ∧ s.1.length ≤ j ∧ (∀ x ∈ s.1, x ∈ a0) ∧ s.1.filter IS = (a0.take j).filter IS) ?_ (k := a0.length) ⟨0, rfl, by omega, by omega, by simp, VS, by simp⟩
 rintro n ⟨l, i⟩ ⟨j, hi, hj, hn, hlj, hm, hf⟩ X hX
 dsimp only at *
 subst hi
 have w : IntKind.i64.wrap ((j : Int) + 1) = ((j + 1 : Nat) : Int) := by rw [Zp (by omega)]; omega
 refine KL (fun c => ?_) fun c => hJ _ ⟨⟨by omega, Q8b hz hm⟩, hm, ?_⟩
 ·have hj2 : j < a0.length := by simpa using c
  have hx : a0[j]? = some a0[j] := by simp [hj2]
  have ht : a0.take (j + 1) = a0.take j ++ [a0[j]] := List.take_succ_eq_append_getElem hj2
  obtain ⟨b, hb, _⟩ := (x_ref14_Covers (a0 := a1) (a1 := a0[j].fd3) (a2 := a0[j].fTo)).go hp
  rw [w]
  refine HV (fun p => p.length ≤ j + 1 ∧ (∀ x ∈ p, x ∈ a0) ∧ p.filter IS = (a0.take (j + 1)).filter IS) (fun p hp => hX (a0.length - (j + 1)) _ (by omega) ⟨j + 1, rfl, by omega, rfl, hp⟩) fun K hK => ⟨a0[j], CM hj2, a0[j], fun _ => CM hj2, a0[j], fun _ => CM hj2, b, fun _ => hb, KL (fun c => ⟨a0[j], CM hj2, by simp; omega, hK _ ⟨by simp; omega, ZP hm (KO (List.getElem_mem hj2)), ?_⟩⟩) fun c => hK _ ⟨by omega, hm, ?_⟩⟩
  ·rw [ht, List.filter_append, List.filter_append, hf]
  ·have : IS a0[j] = false := by
    unfold IS
    simp only [Co, Bool.or_eq_false_iff] at c
    exact c.1
   rw [ht, List.filter_append, hf]
   simp [this]
 ·have : j = a0.length := by simp at c; omega
  subst this
  rw [hf, List.take_length])
theorem Q0l : G5 := ZD (Xu.eq_1 _)
theorem NG [Ba] [Bf] [Uy] : Y8 := fun {a0} {a1} {a2} => ZD (Zl.eq_1 _ _ _) (fun h => by
 have hz := h
 obtain ⟨z1, z2, z3, z4, z5, z6, z7, z8, z9⟩ := h
 obtain ⟨c1, c2, c3, c4, c5, c6, c7⟩ := z1
 have e0 : okV (Qq.mk 0 0 0 ([] : List Int)) := by show ([] : List Int).length ≤ 65536; simp
 refine Un (by omega) fun l _ hl => Un (by omega) fun i hi hi2 => KL (fun c => ?_) fun c => ?_
 ·refine ⟨⟨⟨by simp, fun c => by simp at c⟩, e0⟩, fun _ => ?_, fun c => by simp at c⟩
  unfold view
  cases e : a0.fb6.find? (bnF a1 a2) with
  | none => rfl
  | some b =>
   rw [e] at hl
   simp only at hl
   subst hl
   simp only [Co, Bool.not_true, Bool.false_or, decide_eq_true_eq] at c
   have := hi2.2.1 c
   simp only [Option.bind_some]
   rw [this]; rfl
 ·cases e : a0.fb6.find? (bnF a1 a2) with
  | none =>
   rw [e] at hl
   simp only at hl
   subst hl
   simp at c
  | some b =>
   rw [e] at hl
   simp only at hl
   subst hl
   simp only [Co, Bool.not_true, Bool.false_or, decide_eq_false_iff_not] at c
   obtain ⟨o, ho, ho2⟩ := hi2.2.2 (by omega)
   have hol := (List.getElem?_eq_some_iff.1 ho).1
   have zo := z4 o (List.mem_of_getElem? ho)
   have hix : ix a0.fa9 i o := ⟨by omega, ho⟩
   refine ⟨o, hix, Un (by omega) fun k hk hk2 => KL (fun c => ?_) fun c => ?_⟩
   ·refine ⟨⟨⟨by simp, fun c => by simp at c⟩, e0⟩, fun _ => ?_, fun c => by simp at c⟩
    unfold view
    rw [e]
    simp only [Option.bind_some]
    rw [ho2]
    simp only [Option.bind_some]
    rw [hk2.2.1 (by simpa using c)]; rfl
   ·have c2 : k.2 = true := by simpa using c
    obtain ⟨v, hv, hv2⟩ := hk2.2.2 c2
    have hvm := List.mem_of_getElem? hv
    refine ⟨o, hix, v, ⟨hk2.1.1, hv⟩, ⟨⟨by dsimp only; omega, fun _ => by dsimp only; omega⟩, zo.2 v hvm⟩, fun c => by simp at c, fun _ => ⟨o, ho, hvm, ?_⟩⟩
    unfold view
    rw [e]
    simp only [Option.bind_some]
    rw [ho2]
    simp only [Option.bind_some]
    rw [hv2]; rfl)
theorem Q4q [Y8] [C7] [Bg] [DT] [x_ref19_Live : D9] [WB] [G2] [C8] : Hp := fun {a0} {a1} {a2} => ZD (U0.eq_1 _ _ _) (fun h => by
 obtain ⟨h, hd, hdb⟩ := h
 have hz := h
 obtain ⟨z1, z2, z3, z4, z5, z6, z7, z8, z9⟩ := h
 obtain ⟨c1, c2, c3, c4, c5, c6, c7⟩ := z1
 obtain ⟨y1, y2, y3⟩ := z9
 have no : ∀ e : Int, e ≠ 16 → (fun r : Q2 × Int × Int => (UG r.1 ∧ r.2.2 ≠ 16) ∧ KE a0 r.1) (a0, 0, e) := fun e he => ⟨⟨hz, he⟩, KE.i (fun hs => hs) rfl (.inl rfl)⟩
 have w : IntKind.i64.wrap (a0.fa1 + 1) = a0.fa1 + 1 := Zp (by omega)
 rw [w]
 refine KL (fun _ => no _ (by decide)) fun cd => ?_
 have cd2 : ¬ (a2.length : Int) > 65536 := by simpa using cd
 refine Un hz fun v _ hv => KL (fun _ => no _ (by decide)) fun cv => Un ⟨hd, hdb⟩ fun p _ hp => Un ⟨hz, hv.1.2⟩ fun sto _ hsto => Un ⟨by have e : v.2.1.fb0.length ≤ 65536 := hv.1.2; have := hsto.1; omega, by have := hp.2; omega⟩ fun shr _ hshr => ?_
 have v1 : v.2.2 = true := by simpa using cv
 obtain ⟨o, ho, hm, _⟩ := hv.2.2 v1
 have zo := z4 o (List.mem_of_getElem? ho)
 have hix : ix a0.fa9 v.1 o := ⟨hv.1.1.1, ho⟩
 refine HV (fun q => q.1 = p.1 ∧ q.2.1 = shr) ?_ fun J hJ => ?_
 ·rintro ⟨l, sh1, nd⟩ ⟨rfl, rfl⟩
  dsimp only at *
  obtain ⟨lv1, hlv, _⟩ := (x_ref19_Live (a0 := a0)).go hz
  refine ⟨lv1, fun _ => hlv, KL (fun _ => no _ (by decide)) fun cc => ?_⟩
  have cc2 : ¬ a0.fa1 ≥ a0.fq.fc5 := by
   simp only [Co, Bool.or_eq_false_iff, decide_eq_false_iff_not] at cc; exact cc.1
  refine XH (HV (fun q => q.1 ≤ 16384 ∧ (q.2.1.length ≤ 16384 ∧ ∀ x ∈ q.2.1, IN x) ∧ q.2.2.length ≤ 65536) ?_ fun J hJ => ?_)
  ·rintro ⟨cap, pg, ns⟩ ⟨g1, ⟨g2, g3⟩, g4⟩
   dsimp only at *
   refine ⟨by omega, o, hix, Un ⟨by omega, zo.2, g4⟩ fun q _ hq => ⟨o, hix, XH ?_⟩⟩
   obtain ⟨⟨q1, q2⟩, q3⟩ := hq
   have up : ∀ x ∈ a0.fa9, zO (a0.fa1 + 1) x := fun x hx => ⟨by have := (z4 x hx).1; omega, (z4 x hx).2⟩
   refine ⟨⟨⟨⟨c1, c2, c3, c4, c5, c6, c7⟩, by dsimp only; omega, by simp; omega, AF up ⟨by have := zo.1; dsimp only; omega, q2⟩, by dsimp only; omega, z6, z7, z8, g2, g1, g3⟩, by simp⟩, KE.i (fun hs => ?_) rfl (.inr (by dsimp only; omega))⟩
   exact { bt := fun x hx => by have := hs.bt x hx; dsimp only; omega, vt := AF (fun x hx v hv => by have := hs.vt x hx v hv; dsimp only; omega) (fun x hx => (q3 x hx).elim (fun e => by have := hs.vt o (List.mem_of_getElem? ho) x e; dsimp only; omega) (fun e => by dsimp only at e ⊢; omega)), id := Q8z ho rfl hs.id, la := AF hs.la (hs.la o (List.mem_of_getElem? ho)), l0 := hs.l0, lc := by have := hs.lc; dsimp only; omega }
  ·refine lvi ⟨rfl, hp.1, rfl, by simp, by simp, by simp, y2, y1, y3⟩ ?_
   rintro ⟨l, s2, i, cap, pg, ns⟩ ⟨i1, i2, i0, i3, i4, i5, i6, i7, i8⟩ X hX
   dsimp only at *
   subst i1 i0
   refine KL (fun c => ?_) fun _ => hJ _ ⟨i6, ⟨i7, i8⟩, by have := hp.2; dsimp only; omega⟩
   have ci : i < (p.1.length : Int) := by simpa using c
   have wi : IntKind.i64.wrap (i + 1) = i + 1 := Zp (by have := hp.2; omega)
   rw [wi]
   obtain ⟨f, hf, hfm⟩ := YV (l := s2) (n := i) i3 (by have := hshr.1; omega)
   refine HV (fun q => q.1 = p.1 ∧ q.2.1 = s2 ∧ q.2.2.1 ≤ 16384 ∧ (q.2.2.2.1.length ≤ 16384 ∧ ∀ x ∈ q.2.2.2.1, IN x) ∧ (q.2.2.2.2.length : Int) ≤ i + 1) ?_ fun K hK => ⟨f, hf, KL (fun cf => ?_) fun cf => ?_⟩
   ·rintro ⟨q1, q2, q3, q4, q5⟩ ⟨rfl, rfl, g3, ⟨g4, g5⟩, g6⟩
    dsimp only at *
    exact hX _ ⟨rfl, i2, rfl, by dsimp only; omega, by dsimp only; omega, g6, g3, g4, g5⟩ (by dsimp only; omega)
   ·subst cf
    have fl := hshr.2 i.toNat hfm
    have fl2 : i < (v.2.1.fb0.length : Int) := by have := hsto.1; omega
    obtain ⟨n, hn, _⟩ := YV (l := v.2.1.fb0) (n := i) i3 fl2
    exact ⟨n, hn, Un ⟨i7, i6, i8⟩ fun t _ ht => ⟨n, hn, by have := hp.2; simp; omega, hK _ ⟨rfl, rfl, ht.2.1, ⟨ht.1, ht.2.2⟩, by simp; omega⟩⟩⟩
   ·obtain ⟨b, hb, hbm⟩ := YV (l := p.1) (n := i) i3 ci
    exact ⟨b, hb, Un ⟨⟨i7, i6, i8⟩, (i2 b (List.mem_of_getElem? hbm)).2⟩ fun t _ ht => ⟨by have := hp.2; simp; omega, hK _ ⟨rfl, rfl, ht.2.1, ⟨ht.1, ht.2.2⟩, by simp; omega⟩⟩⟩
 ·refine lvi ⟨rfl, rfl, by simp, by simp⟩ ?_
  rintro ⟨l, s2, nd, i⟩ ⟨i1, i2, i3, i4⟩ X hX
  dsimp only at *
  subst i1 i2
  refine KL (fun c => ?_) fun _ => hJ _ ⟨rfl, rfl⟩
  have ci : i < (p.1.length : Int) := by simpa using c
  have wi : IntKind.i64.wrap (i + 1) = i + 1 := Zp (by have := hp.2; omega)
  rw [wi]
  obtain ⟨f, hf, _⟩ := YV (l := s2) (n := i) i3 (by have := hshr.1; omega)
  refine HV (fun q => q.1 = p.1 ∧ q.2.1 = s2) ?_ fun K hK => ⟨f, hf, KL (fun _ => hK _ ⟨rfl, rfl⟩) fun _ => hK _ ⟨rfl, rfl⟩⟩
  rintro ⟨q1, q2, q3⟩ ⟨rfl, rfl⟩
  dsimp only at *
  exact hX _ ⟨rfl, rfl, by dsimp only; omega, by dsimp only; omega⟩ (by dsimp only; omega))
theorem RQ [Y7] [D8] : EV := ZD (YA.eq_1 _ _)
theorem Gf [B7] : Vs := ZD (QE.eq_1 _)
theorem La [ZM] [Jm] [Yq] [Cb] : Ja := ZD (Z9.eq_1 _)
theorem P8 [W9] : DW := ZD (Vb.eq_1 _ _)
theorem Q4r : U8 := ZD (Zz.eq_1 _)
theorem Gx [ZI] [VZ] [U8] [Cm] : WF := ZD (ZE.eq_1 _)
theorem NH [ZM] : CG := ZD (JJ.eq_1 _)
theorem Q92 [DX] : IU := ZD (A9.eq_1 _ _)
theorem Q93 [Ai] : Wa := ZD (Z1.eq_1 _ _)
theorem M9 : Xa := fun {a0} => ZD (Ke.eq_1 _) (fun h => by
 obtain ⟨hl, hb⟩ := h
 refine KL (fun _ => ⟨⟨by simp, by simp⟩, by simp, fun c => by simp at c, by simp⟩) fun c0 => ?_
 have hp : 0 < a0.length := by simp at c0; exact List.length_pos_iff.2 c0
 obtain ⟨v, hv, hvm⟩ := YV (l := a0) (n := 0) (by omega) (by omega)
 have hv2 := hb v (List.mem_of_getElem? hvm)
 refine ⟨v, hv, KL (fun c => ⟨v, hv, ⟨by simp, by simp; omega⟩, ?_, fun _ => .inl ⟨rfl, ?_⟩, by simp⟩) fun c => ⟨v, hv, ?_⟩⟩
 ·dsimp only; rw [Zp (by omega)]; omega
 ·dsimp only; rw [Zp (by omega)]; simpa using c
 have c2 : ¬ v < 248 := by simpa using c
 have e1 : IntKind.i64.wrap (IntKind.i64.wrap v - 247) = v - 247 := by rw [Zp (n := v) (by omega), Zp (by omega)]
 have e2 : IntKind.i64.wrap (v - 247 + 1) = v - 246 := by rw [Zp (by omega)]; omega
 rw [e1, e2]
 refine KL (fun _ => ⟨⟨by simp, by simp⟩, by simp, fun c => by simp at c, by simp⟩) fun c3 => ?_
 have c4 : ¬ (a0.length : Int) ≤ v - 247 := by simpa using c3
 refine HV (fun p => 0 ≤ p ∧ p < 256 ^ (v - 247).toNat) ?_ fun J hJ => lvi ⟨by decide, by omega, by decide, by simp⟩ ?_
 ·rintro p ⟨p0, p1⟩
  obtain ⟨u, hu, _⟩ := YV (l := a0) (n := 1) (by omega) (by omega)
  refine ⟨u, hu, KL (fun _ => ⟨⟨by simp, by simp⟩, by simp, fun c => by simp at c, by simp⟩) fun c => ?_⟩
  simp only [Co, Bool.or_eq_false_iff, decide_eq_false_iff_not] at c
  have w : IntKind.i64.wrap p = p := Zp (by omega)
  rw [w]
  refine ⟨⟨by dsimp only; omega, by dsimp only; omega⟩, p0, fun _ => .inr ⟨(v - 247).toNat, by dsimp only; omega, p1⟩, by simp⟩
 ·rintro ⟨x, i⟩ ⟨i1, i2, x0, x1⟩ X hX
  dsimp only at *
  refine KL (fun c => ?_) fun c => hJ _ ⟨x0, ?_⟩
  ·have ci : i ≤ v - 247 := by simpa using c
   obtain ⟨u, hu, hum⟩ := YV (l := a0) (n := i) (by omega) (by omega)
   have hu2 := hb u (List.mem_of_getElem? hum)
   have p7 := p256 (k := (i - 1).toNat) (by omega)
   have w : IntKind.i64.wrap (i + 1) = i + 1 := Zp (by omega)
   refine ⟨u, hu, ?_⟩
   rw [Qxl x0 (by omega) hu2.1 hu2.2, w]
   refine hX _ ⟨by dsimp only; omega, by dsimp only; omega, by dsimp only; omega, ?_⟩ (by dsimp only; omega)
   dsimp only
   have e : (i + 1 - 1).toNat = (i - 1).toNat + 1 := by omega
   rw [e, Int.pow_succ]
   generalize (256 : Int) ^ (i - 1).toNat = M at *
   omega
  ·have ci : ¬ i ≤ v - 247 := by simpa using c
   have : i = v - 246 := by omega
   rw [this] at x1
   have e : (v - 246 - 1).toNat = (v - 247).toNat := by omega
   rw [e] at x1; exact x1)
theorem Lb [ZV] [ZN] [UU] [Wa] [EZ] [Cc] : Ap := ZD (JR.eq_1 _ _ _ _)
theorem Gy [Kj] [Wb] [Jb] [ZH] : WI := ZD (KA.eq_1 _)
theorem Ma [J0] [UT] : Bs := ZD (Vl.eq_1 _ _)
theorem I1 [ZI] [Jm] [Yq] : UE := ZD (Jt.eq_1 _ _)
theorem P9 [VJ] [ZN] [Um] [Ao] [WG] [UC] [BN] [WH] [Ap] : Bu := ZD (VU.eq_1 _ _ _ _)
theorem Q0m [Bn] : Gb := ZD (Vn.eq_1 _)
theorem MR : YN := ZD (K9.eq_1 _ _ _)
theorem Pb [C9] [DZ] [Vt] [Uc] [Ub] [Bj] [Yr] : E3 := fun {a0} {a1} {a2} {a3} => nx1 (XR.eq_1 _ _ _ _)
theorem Pd : Ud := ZD (Zu.eq_1 _ _)
theorem Q94 : IW := fun {a0} => ZD (YY.eq_1 _) (fun _ => by
 simp only [Qhs, Qht]
 refine KL (fun _ => sz1 (by simp)) fun _ => ⟨by simp, ?_⟩
 exact ixq (P := fun v => v.size ≤ 32) (by decide) ⟨tm0 (by omega), tm1 (by omega) (by simp)⟩ fun a _ _ _ ha => ha)
end Go.Proofs.YtimfmcpbkdpmoaaGreat
