/- Parts of the proof, laid together. No condition. -/
import Derived.Test.YtimfmcpbkdpmoaaGreatKB6
set_option linter.unusedVariables false
set_option linter.unusedSimpArgs false
set_option maxRecDepth 100000
set_option maxHeartbeats 4000000
namespace Go.Proofs.YtimfmcpbkdpmoaaGreat
open Go.RowKit
theorem Q70 [Wn] : Oi := fun {a0} => Gf (U7.eq_1 _)
theorem Q2i [Wy] : GL := fun {a0} {a1} => ZM (Wd.eq_1 _ _) (fun h => by
 obtain ⟨h1, h2, h3⟩ := h
 refine K2 (by omega) fun v _ hv => Z5 (fun c => ⟨⟨h1, h2, h3⟩, rfl, fun i p hp e => absurd e (hv.2.1 (by simpa using c) p (List.mem_of_getElem? hp))⟩) fun c => ?_
 have c2 : 0 ≤ v := by simpa using c
 obtain ⟨p, hp, e⟩ := hv.2.2 c2
 refine ⟨by omega, p, ⟨c2, hp⟩, p, ⟨c2, hp⟩, U0 ⟨⟨by simpa using h1, h2, XS h3 (h3 p (List.mem_of_getElem? hp))⟩, rfl, fun i q hq e2 nd r0 r1 => ?_⟩⟩
 have ei := Qxw nd hp hq (by omega)
 subst ei
 rw [hp] at hq; cases hq
 have : IntKind.i64.wrap (p.fg7 + 1) = p.fg7 + 1 := Za (by omega)
 rw [this])
theorem Rc : Ek := ZM (JP.eq_1 _)
theorem Q2j : Dv := ZM (Xf.eq_1 _ _)
theorem Hi : XW := ZM (ZL.eq_1 _)
theorem LS [XW] : Ay := fun {a0} {a1} => ZM (Jz.eq_1 _ _) (fun h => by
 obtain ⟨hl, hz⟩ := h
 have no : ∀ e : Int, (fun r : List Qj × Int => ((r.1.length ≤ a0.length ∧ ∀ x ∈ r.1, okV x) ∧ ∀ x ∈ r.1, x ∈ a0 ∨ x.fTo = a1) ∧ (r.1.map kv).Sublist (a0.map kv)) ([], e) := fun e => ⟨⟨⟨by simp, ZT⟩, fun x hx => by simp at hx⟩, by simp⟩
 refine K2 hl fun v _ _ => Z5 (fun _ => no _) fun _ => ?_
 by_cases hp : 0 < a0.length
 ·have w : IntKind.i64.wrap ((a0.length : Int) - 1) = ((a0.length - 1 : Nat) : Int) := by rw [Za (by omega)]; omega
  rw [w]
  obtain ⟨b, hb, hbm⟩ := Zp (l := a0) (n := ((a0.length - 1 : Nat) : Int)) (by omega) (by omega)
  refine ⟨b, fun _ => hb, Z5 (fun _ => no _) fun _ => U0 ⟨b, hb, Z5 (fun _ => no _) fun _ => ⟨by omega, b, hb, U0 ⟨⟨⟨by simp, XS hz (hz b (List.mem_of_getElem? hbm))⟩, fun x hx => ?_⟩, by dsimp only; rw [Qlp (b' := ⟨b.fd0, a1, b.fu, b.f9⟩) hbm rfl]; exact List.Sublist.refl _⟩⟩⟩⟩
  exact (List.mem_or_eq_of_mem_set hx).elim .inl fun e => .inr (by rw [e])
 ·have e0 : (a0.length : Int) = 0 := by omega
  refine ⟨default, fun c => (by rw [e0] at c; cases c), Z5 (fun _ => no _) fun c => ?_⟩
  have e : (a0.length : Int) = 0 := by omega
  rw [e] at c; cases c)
theorem SU [x_ref14_index : Wy] : Cs := fun {a0} {a1} => ZM (Xo.eq_1 _ _) (fun h => by
 obtain ⟨⟨h1, h2, h3⟩, hb⟩ := h
 refine Z5 (fun c => ⟨⟨h1, h2, h3⟩, fun c1 c2 => by simp at c; omega⟩) fun c1 => Z5 (fun c => ⟨⟨h1, h2, h3⟩, fun c1 c2 => by simp at c; omega⟩) fun c2 => ?_
 simp only [decide_eq_false_iff_not] at c1 c2
 refine AR (fun p => ∀ q ∈ a0.f9, q.fc7 ≠ p) (fun p hp => ?_) fun J hJ => ?_
 ·refine ⟨by omega, by omega, by simp only [List.length_append, List.length_cons, List.length_nil]; omega, AR (fun l => l.Perm (a0.f9 ++ [Qn.mk p 1 a1])) (fun l hl => ⟨⟨by have := hl.length_eq; simp only [List.length_append, List.length_cons, List.length_nil] at this; dsimp only; omega, h2, fun x hx => ZS h3 (JC ⟨by dsimp only; omega, hb⟩) x (hl.mem_iff.1 hx)⟩, fun _ _ => ⟨rfl, hl, hp⟩⟩) fun J hJ => EG (fun s => s.1.Perm (a0.f9 ++ [Qn.mk p 1 a1])) ⟨rfl, by simp only [List.length_append, List.length_cons, List.length_nil]; rw [Za (by omega)]; omega, by simp only [List.length_append, List.length_cons, List.length_nil]; rw [Za (by omega)]; omega, fun _ h => h⟩ (List.Perm.refl _) ?_⟩
  have el : (a0.f9 ++ [Qn.mk p 1 a1]).length = a0.f9.length + 1 := by simp
  rw [el]
  generalize a0.f9 ++ [Qn.mk p 1 a1] = L at *
  rintro ⟨l, k⟩ ⟨i1, i2, i3, i4⟩ e X hX
  dsimp only at *
  by_cases k0 : k > 0
  ·have w : IntKind.i64.wrap (k - 1) = k - 1 := Za (by omega)
   rw [w]
   have b1 : k.toNat < l.length := by omega
   have b2 : (k - 1).toNat < l.length := by omega
   obtain ⟨x, hx, hxm⟩ := Zp (l := l) (n := k) (by omega) (by omega)
   obtain ⟨y, hy, hym⟩ := Zp (l := l) (n := k - 1) (by omega) (by omega)
   have ex : l[k.toNat] = x := (List.getElem?_eq_some_iff.1 hxm).2
   have ey : l[(k - 1).toNat] = y := (List.getElem?_eq_some_iff.1 hym).2
   have pm : ((l.set k.toNat y).set (k - 1).toNat x).Perm l := by
    have := @List.set_set_perm _ l k.toNat (k - 1).toNat b1 b2
    rwa [ex, ey] at this
   obtain ⟨z, hz, _⟩ := Zp (l := l.set k.toNat y) (n := k - 1) (by omega) (by simp; omega)
   refine ⟨x, fun _ => hx, y, fun _ => hy, Z5 (fun _ => U0 ⟨y, hy, x, hx, x, hx, U0 ⟨z, hz, U0 (hX _ ⟨by simpa using i1, by dsimp only; omega, by dsimp only; omega, fun q hq => i4 q (pm.mem_iff.1 hq)⟩ (pm.trans e) (by dsimp only; omega))⟩⟩) fun _ => hJ _ e⟩
  ·have kd : decide (k > 0) = false := by simpa using k0
   refine ⟨default, fun c => absurd c (by simp [kd]), default, fun c => absurd c (by simp [kd]), ?_⟩
   rw [kd]
   exact Z5 (fun c => by cases c) fun _ => hJ _ e
 ·refine Bp (I := fun n s => 1 ≤ s ∧ (∀ k : Nat, (k : Int) + 1 < s → ((k : Int) + 1) ∈ a0.f9.map (·.fc7)) ∧ n = (20000 - s).toNat) ?_ (k := 19999) ⟨by decide, fun k hk => by omega, by decide⟩
  rintro n s ⟨g1, g2, g3⟩ X hX
  have g4 := pig (a0.f9.map (·.fc7)) (s - 1).toNat (fun k hk => g2 k (by omega))
  rw [List.length_map] at g4
  have w : IntKind.i64.wrap (s + 1) = s + 1 := Za (by omega)
  obtain ⟨v, hv, h5⟩ := (x_ref14_index (a0 := a0) (a1 := s)).go (by omega)
  have hv2 := h5.1.2.2
  have hv3 := h5.2.1
  clear h5
  refine ⟨v, hv, fun c => ?_, fun c => hJ _ (hv3 (by simpa using c))⟩
  rw [w]
  obtain ⟨q, hq, hq2⟩ := hv2 (by simpa using c)
  clear hv2 hv hv3
  refine hX (20000 - (s + 1)).toNat _ (by omega) ⟨by omega, fun k hk => ?_, rfl⟩
  by_cases e : (k : Int) + 1 = s
  ·rw [e]; exact List.mem_map.2 ⟨q, hq, hq2⟩
  ·exact g2 k (by omega))
theorem OC [Y2] [Y3] : X1 := fun {a0} {a1} {a2} => ZM (K3.eq_1 _ _ _) (fun h => by
 have hz := h
 obtain ⟨z1, z2, z3, z4, z5, z6, z7, z8, z9⟩ := h
 refine K2 (by omega) fun u _ hu => Z5 (fun c => ⟨hu.1, fun e => ?_⟩) fun c => K2 hz fun r hr hr2 => Z5 (fun c2 => ⟨by simp, fun e => .inl ⟨hr2.2.1 (by simpa using c2), by simp⟩⟩) fun c2 => ?_
 ·have := hu.2 e
  rw [this] at c; simp at c
 ·have c3 : r.2.2 = true := by simpa using c2
  obtain ⟨o, ho, hm, hv⟩ := hr2.2.2 c3
  exact ⟨o, ⟨hr2.1.1.1, ho⟩, by simp, fun _ => .inr ⟨_, hv, rfl, rfl⟩⟩)
theorem Q2k [Y3] [Ay] [Em] : GQ := fun {a0} {a1} => ZM (Wk.eq_1 _ _) (fun h => by
 obtain ⟨h, hn⟩ := h
 have hz := h
 obtain ⟨z1, z2, z3, z4, z5, z6, z7, z8, z9⟩ := h
 obtain ⟨c1, c2, c3, c4, c5, c6, c7⟩ := z1
 have no : ∀ e : Int, e ≠ 16 → (fun r : Q2 × Int × Int => (UC r.1 ∧ r.2.2 ≠ 16) ∧ KE a0 r.1) (a0, 0, e) := fun e he => ⟨⟨hz, he⟩, KE.i (fun hs => hs) rfl (.inl rfl)⟩
 have w : IntKind.i64.wrap (a0.f7 + 1) = a0.f7 + 1 := Za (by omega)
 rw [w]
 refine K2 hz fun v _ hv => Z5 (fun _ => no _ (by decide)) fun cv => Z5 (fun _ => no _ (by decide)) fun cc => ⟨by omega, ?_⟩
 have v1 : v.2.2 = true := by simpa using cv
 have cc2 : ¬ a0.f7 ≥ a0.fj.fc3 := by simpa using cc
 obtain ⟨o, ho, hm, _⟩ := hv.2.2 v1
 have zo := z4 o (List.mem_of_getElem? ho)
 have hix : ix a0.fa1 v.1 o := ⟨hv.1.1.1, ho⟩
 refine ⟨o, hix, K2 ⟨by omega, zo.2⟩ fun q _ hq => ⟨o, hix, U0 (K2 ⟨by omega, hn, z6⟩ fun b _ hb => ?_)⟩⟩
 obtain ⟨⟨⟨q1, q2⟩, q3⟩, q4⟩ := hq
 obtain ⟨⟨b1, b2⟩, b3⟩ := hb
 have up : ∀ x ∈ a0.fa1, zO (a0.f7 + 1) x := fun x hx => ⟨by have := (z4 x hx).1; omega, (z4 x hx).2⟩
 refine ⟨⟨⟨⟨c1, c2, c3, c4, c5, c6, c7⟩, by dsimp only; omega, by simp; omega, XS up ⟨by have := zo.1; dsimp only; omega, q2⟩, by dsimp only; omega, b2, z7, z8, z9.1, z9.2.com0 (Ob.set (f := a0.f7 + 1) ho (q4.trans (List.sublist_append_left _ _)) ⟨by omega, Int.le_refl _⟩)⟩, by simp⟩, KE.i (fun hs => ?_) rfl (.inr (Mo.of (c := a0.f7 + 1) (ns := []) (Ob.set (f := a0.f7 + 1) ho (q4.trans (List.sublist_append_left _ _)) ⟨by omega, Int.le_refl _⟩) rfl))⟩
 exact { bt := fun x hx => (b3 x hx).elim (fun e => by have := hs.bt x e; dsimp only; omega) (fun e => by dsimp only; omega), vt := XS (fun x hx v hv => by have := hs.vt x hx v hv; dsimp only; omega) (fun x hx => (q3 x hx).elim (fun e => by have := hs.vt o (List.mem_of_getElem? ho) x e; dsimp only; omega) (fun e => by dsimp only; omega)), id := Qb3 ho rfl hs.id, la := XS hs.la (hs.la o (List.mem_of_getElem? ho)), l0 := hs.l0, lc := by have := hs.lc; dsimp only; omega })
theorem Q2l : GR := ZM (Wj.eq_1 _)
theorem Hj [Br] [KM] : XX := ZM (ZK.eq_1 _)
theorem Hk [ZA] : ZN := ZM (Z1.eq_1 _)
theorem IM [A9] : UO := ZM (KQ.eq_1 _ _)
theorem Q2m : GV := ZM (W4.eq_1 _)
theorem IN [ZN] [VK] [EV] : UQ := ZM (KT.eq_1 _)
theorem NM [ZA] : C4 := ZM (Vg.eq_1 _ _)
theorem Qb5 : Eu := ZM (W6.eq_1 _)
theorem OD [ZA] [KM] [Dy] [EW] : Da := ZM (VT.eq_1 _ _ _)
theorem Q2n : DD := ZM (JQ.eq_1 _ _)
theorem SV : FK := ZM (Yu.eq_1 _)
theorem LU [ZH] [ZB] [Ab] [Wp] [FJ] [Cy] : AE := ZM (Ju.eq_1 _ _ _ _)
theorem LV [BI] : Wq := ZM (Kt.eq_1 _)
theorem LW [ZX] [Ky] [ZH] [XT] : AG := fun {a0} => Gf (Jw.eq_1 _) (fun h => by
 obtain ⟨hl, hb, g0⟩ := h
 refine K2 ⟨Int.le_refl 0, by simp, hl, hb⟩ fun v1 _ q1 => ?_
 obtain ⟨⟨z1, n1, m1⟩, r1, r2, r3⟩ := q1
 have d1 : v1.1 ≤ 4 := by
  rcases r3 (by show a0.getD 0 0 < 248; omega) with ⟨e, _⟩ | ⟨e, _⟩
  ·omega
  ·rw [e]; exact g0
 clear r1 r2 r3 g0 hl hb
 revert v1; exact yx_)
theorem G8 [Zv] [KM] [EX] : YO := ZM (ZP.eq_1 _ _)
theorem OE [ZH] [ZA] [Bw] [EY] : Dc := ZM (X0.eq_1 _ _ _)
theorem Re [BG] [VO] [AF] [WT] [US] [C6] [WU] [AG] : Uq := fun {a0} => Gf (JW.eq_1 _)
theorem SX : FN := fun {a0} => Gf (Yz.eq_1 _) (fun h => by
 obtain ⟨u1, u2, u3, u4, u5, u6⟩ := h
 refine AR (fun _ => True) (fun _ _ => ⟨by decide, by decide⟩) fun J hJ => Z5 (fun _ => ⟨by decide, by decide⟩) fun _ => Z5 (fun _ => ⟨by omega, by omega⟩) fun _ => Z5 (fun _ => ⟨by omega, by omega⟩) fun _ => Z5 (fun _ => by rw [Za (by omega)]; omega) fun _ => Z5 (fun _ => by rw [Za (by omega)]; omega) fun _ => Z5 (fun _ => ?_) fun _ => hJ _ trivial
 refine AR (fun p => 0 ≤ p ∧ p ≤ 372) (fun p h => h) fun J hJ => EG (fun s => 0 ≤ s.1 ∧ s.1 ≤ 1 + 4 * s.2) ⟨by simp, by simp⟩ ⟨by decide, by decide⟩ ?_
 rintro ⟨n, i⟩ ⟨i0, i1⟩ ⟨n0, n1⟩ X hX
 dsimp only at *
 refine Z5 (fun c => ?_) fun c => hJ _ ⟨n0, by omega⟩
 obtain ⟨l, hl, hm⟩ := Zp (l := a0.fw.fa8) (n := i) i0 (by simpa using c)
 have := u6 l (List.mem_of_getElem? hm)
 have ci : i < (a0.fw.fa8.length : Int) := by simpa using c
 refine ⟨l, hl, ?_⟩
 rw [Za (n := n + (l.length : Int)) (by omega), Za (n := i + 1) (by omega)]
 exact hX _ ⟨by dsimp only; omega, by dsimp only; omega⟩ ⟨by dsimp only; omega, by dsimp only; omega⟩ (by dsimp only; omega))
theorem Q71 [YP] [Ia] [CM] [Yn] : F1 := fun {a0} {a1} {a2} => Gf (YV.eq_1 _ _ _)
theorem IO [UY] : UU := fun {a0} {a1} {a2} => Gf (KY.eq_1 _ _ _)
theorem SY : UZ := fun {a0} => Gf (Vq.eq_1 _) (fun h => by
 simp only [bA1, bA3, bA7, Qlc, Qld, Qth, Q6m, Pg, C1]
 revert h; exact yx_)
theorem Q2o [UB] : H0 := fun {a0} {a1} => Gf (W5.eq_1 _ _)
end Go.Proofs.YtimfmcpbkdpmoaaGreat
