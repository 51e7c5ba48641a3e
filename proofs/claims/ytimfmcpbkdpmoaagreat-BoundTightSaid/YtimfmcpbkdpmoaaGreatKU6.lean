/- Parts of the proof, laid together. No condition. -/
import Derived.Test.YtimfmcpbkdpmoaaGreatKB6
set_option linter.unusedVariables false
set_option linter.unusedSimpArgs false
set_option maxRecDepth 100000
set_option maxHeartbeats 4000000
namespace Go.Proofs.YtimfmcpbkdpmoaaGreat
open Go.RowKit
theorem Q0q [Wn] : G2 := ZD (W4.eq_1 _ _)
theorem Hu : Yp := ZD (ZA.eq_1 _)
theorem Q96 [DL] : Ai := ZD (JP.eq_1 _ _ _)
theorem Q0r : D7 := ZD (Xx.eq_1 _ _)
theorem F6 [Wm] [V7] : JF := ZD (Z7.eq_1 _)
theorem GA [Y1] : WB := fun {a0} {a1} => ZD (KC.eq_1 _ _) (fun h => by
 obtain ⟨hl, hz, hv⟩ := h
 have no : ∀ e : Int, (fun r : List Qq × Int => (r.1.length ≤ a0.length + 1 ∧ ∀ x ∈ r.1, okV x) ∧ ∀ x ∈ r.1, x ∈ a0 ∨ x.fTo = a1.fd3 ∨ x.fTo = 0) ([], e) := fun e => ⟨⟨by simp, VS⟩, fun x hx => by simp at hx⟩
 refine Un hl fun v _ _ => KL (fun _ => no _) fun _ => KL (fun _ => no _) fun c => ⟨by omega, ?_⟩
 have c0 : a1.fTo = 0 := by
  simp only [Co, Bool.or_eq_false_iff, bne_eq_false_iff_eq] at c; exact c.2
 refine HV (fun p => p.length = a0.length ∧ (∀ x ∈ p, okV x) ∧ ∀ x ∈ p, x ∈ a0 ∨ x.fTo = a1.fd3) (fun p hp => ⟨by simp; omega, ⟨by simp; omega, ZP hp.2.1 (KO hv)⟩, fun x hx => ?_⟩) fun J hJ => ?_
 ·rcases List.mem_append.1 hx with e | e
  ·exact (hp.2.2 x e).elim .inl fun e => .inr (.inl e)
  ·exact .inr (.inr (by rw [List.mem_singleton.1 e]; exact c0))
 have same : J a0 := hJ _ ⟨rfl, hz, fun x hx => .inl hx⟩
 refine KL (fun c => ?_) fun _ => same
 have hp : 0 < a0.length := by simp at c; omega
 have w : IntKind.i64.wrap ((a0.length : Int) - 1) = ((a0.length - 1 : Nat) : Int) := by rw [Zp (by omega)]; omega
 rw [w]
 obtain ⟨b, hb, hbm⟩ := YV (l := a0) (n := ((a0.length - 1 : Nat) : Int)) (by omega) (by omega)
 have zb := hz b (List.mem_of_getElem? hbm)
 refine ⟨b, hb, b, fun _ => hb, KL (fun _ => no _) fun _ => ⟨b, hb, KL (fun _ => ⟨b, hb, XH (hJ _ ⟨by simp, AF hz zb, fun x hx => ?_⟩)⟩) fun _ => same⟩⟩
 exact (List.mem_or_eq_of_mem_set hx).elim .inl fun e => .inr (by rw [e]))
theorem S0 [x_ref14_index : Wn] : C8 := fun {a0} {a1} => ZD (V3.eq_1 _ _) (fun h => by
 obtain ⟨⟨h1, h2, h3⟩, hb⟩ := h
 refine KL (fun _ => ⟨h1, h2, h3⟩) fun c1 => KL (fun _ => ⟨h1, h2, h3⟩) fun c2 => ?_
 simp only [decide_eq_false_iff_not] at c1 c2
 refine HV (fun _ => True) (fun p _ => ?_) fun J hJ => ?_
 ·refine ⟨by omega, by omega, by simp only [List.length_append, List.length_cons, List.length_nil]; omega, HV (fun l => l.length = a0.fb0.length + 1 ∧ ∀ x ∈ l, x ∈ a0.fb0 ++ [Qx.mk p 1 a1]) (fun l hl => ⟨by dsimp only; omega, h2, Q8b (ZP h3 (KO ⟨by dsimp only; omega, hb⟩)) hl.2⟩) fun J hJ => lvi ⟨rfl, by simp only [List.length_append, List.length_cons, List.length_nil]; rw [Zp (by omega)]; omega, by simp only [List.length_append, List.length_cons, List.length_nil]; rw [Zp (by omega)]; omega, fun _ h => h⟩ ?_⟩
  have el : (a0.fb0 ++ [Qx.mk p 1 a1]).length = a0.fb0.length + 1 := by simp
  have hJ2 : ∀ q, q.length = a0.fb0.length + 1 → (∀ x ∈ q, x ∈ a0.fb0 ++ [Qx.mk p 1 a1]) → J q := fun p g1 g2 => hJ p ⟨g1, g2⟩
  rw [el]
  generalize a0.fb0 ++ [Qx.mk p 1 a1] = L at *
  clear c1 c2 h3 hb el
  exact xx_
 ·refine XM (I := fun n s => 1 ≤ s ∧ (∀ k : Nat, (k : Int) + 1 < s → ((k : Int) + 1) ∈ a0.fb0.map (·.fg9)) ∧ n = (20000 - s).toNat) ?_ (k := 19999) ⟨by decide, fun k hk => by omega, by decide⟩
  rintro n s ⟨g1, g2, g3⟩ X hX
  have g4 := pig (a0.fb0.map (·.fg9)) (s - 1).toNat (fun k hk => g2 k (by omega))
  rw [List.length_map] at g4
  have w : IntKind.i64.wrap (s + 1) = s + 1 := Zp (by omega)
  obtain ⟨v, hv, _, _, hv2⟩ := (x_ref14_index (a0 := a0) (a1 := s)).go (by omega)
  refine ⟨v, hv, fun c => ?_, fun _ => hJ _ trivial⟩
  rw [w]
  obtain ⟨q, hq, hq2⟩ := hv2 (by simpa using c)
  clear hv2 hv
  refine hX (20000 - (s + 1)).toNat _ (by omega) ⟨by omega, fun k hk => ?_, rfl⟩
  by_cases e : (k : Int) + 1 = s
  ·rw [e]; exact List.mem_map.2 ⟨q, hq, hq2⟩
  ·exact g2 k (by omega))
theorem NM [Y7] [Y8] : Xm := fun {a0} {a1} {a2} => ZD (Zh.eq_1 _ _ _) (fun h => by
 have hz := h
 obtain ⟨z1, z2, z3, z4, z5, z6, z7, z8, z9⟩ := h
 refine Un (by omega) fun u _ hu => KL (fun c => ⟨hu.1, fun e => ?_⟩) fun c => Un hz fun r hr hr2 => KL (fun c2 => ⟨by simp, fun e => .inl ⟨hr2.2.1 (by simpa using c2), by simp⟩⟩) fun c2 => ?_
 ·have := hu.2 e
  rw [this] at c; simp at c
 ·have c3 : r.2.2 = true := by simpa using c2
  obtain ⟨o, ho, hm, hv⟩ := hr2.2.2 c3
  exact ⟨o, ⟨hr2.1.1.1, ho⟩, by simp, fun _ => .inr ⟨_, hv, rfl, rfl⟩⟩)
theorem Q0s [Y8] [Aj] [DO] : G6 := fun {a0} {a1} => ZD (W7.eq_1 _ _) (fun h => by
 obtain ⟨h, hn⟩ := h
 have hz := h
 obtain ⟨z1, z2, z3, z4, z5, z6, z7, z8, z9⟩ := h
 obtain ⟨c1, c2, c3, c4, c5, c6, c7⟩ := z1
 have no : ∀ e : Int, e ≠ 16 → (fun r : Q2 × Int × Int => (UG r.1 ∧ r.2.2 ≠ 16) ∧ KE a0 r.1) (a0, 0, e) := fun e he => ⟨⟨hz, he⟩, KE.i (fun hs => hs) rfl (.inl rfl)⟩
 have w : IntKind.i64.wrap (a0.fa1 + 1) = a0.fa1 + 1 := Zp (by omega)
 rw [w]
 refine Un hz fun v _ hv => KL (fun _ => no _ (by decide)) fun cv => KL (fun _ => no _ (by decide)) fun cc => ⟨by omega, ?_⟩
 have v1 : v.2.2 = true := by simpa using cv
 have cc2 : ¬ a0.fa1 ≥ a0.fq.fc5 := by simpa using cc
 obtain ⟨o, ho, hm, _⟩ := hv.2.2 v1
 have zo := z4 o (List.mem_of_getElem? ho)
 have hix : ix a0.fa9 v.1 o := ⟨hv.1.1.1, ho⟩
 refine ⟨o, hix, Un ⟨by omega, zo.2⟩ fun q _ hq => ⟨o, hix, XH (Un ⟨by omega, hn, z6⟩ fun b _ hb => ?_)⟩⟩
 obtain ⟨⟨q1, q2⟩, q3⟩ := hq
 obtain ⟨⟨b1, b2⟩, b3⟩ := hb
 have up : ∀ x ∈ a0.fa9, zO (a0.fa1 + 1) x := fun x hx => ⟨by have := (z4 x hx).1; omega, (z4 x hx).2⟩
 refine ⟨⟨⟨⟨c1, c2, c3, c4, c5, c6, c7⟩, by dsimp only; omega, by simp; omega, AF up ⟨by have := zo.1; dsimp only; omega, q2⟩, by dsimp only; omega, b2, z7, z8, z9⟩, by simp⟩, KE.i (fun hs => ?_) rfl (.inr (by dsimp only; omega))⟩
 exact { bt := fun x hx => (b3 x hx).elim (fun e => by have := hs.bt x e; dsimp only; omega) (fun e => by dsimp only; omega), vt := AF (fun x hx v hv => by have := hs.vt x hx v hv; dsimp only; omega) (fun x hx => (q3 x hx).elim (fun e => by have := hs.vt o (List.mem_of_getElem? ho) x e; dsimp only; omega) (fun e => by dsimp only; omega)), id := Q8z ho rfl hs.id, la := AF hs.la (hs.la o (List.mem_of_getElem? ho)), l0 := hs.l0, lc := by have := hs.lc; dsimp only; omega })
theorem Q0t : G7 := ZD (W6.eq_1 _)
theorem GB [B7] [Jm] : Y2 := ZD (ZZ.eq_1 _)
theorem Fw [ZM] [Jm] : ZI := ZD (QI.eq_1 _)
theorem I5 [W9] : UA := ZD (K5.eq_1 _ _)
theorem Ld [J0] [VZ] [U8] : Ak := ZD (Kk.eq_1 _)
theorem Le [ZV] [VZ] [U8] [Cm] : Al := ZD (Kl.eq_1 _)
theorem MW : Um := ZD (JZ.eq_1 _)
theorem S1 [ZM] [Jm] [IU] [Da] [Eo] : EY := ZD (Ys.eq_1 _ _ _ _)
theorem Q0u : Db := ZD (Xt.eq_1 _)
theorem Q0v [VZ] [CF] : Bn := ZD (JI.eq_1 _ _)
theorem Me [ZV] [UU] [Wa] [Cc] : Bp := ZD (Vm.eq_1 _ _ _ _)
theorem I6 [Kj] [Wb] [Jb] [K2] : UD := ZD (Js.eq_1 _)
theorem Hv [ZH] [Ai] : U9 := ZD (KY.eq_1 _ _)
theorem Ph : DY := ZD (XT.eq_1 _ _)
theorem S2 [VJ] [Um] [Bs] [U9] [As] [CJ] [Ua] [Bp] : F2 := ZD (Yw.eq_1 _ _ _ _)
theorem Pi [Bo] : DZ := ZD (XQ.eq_1 _)
theorem S3 [WQ] [Cn] [Eu] [Cd] [Vt] [Bu] : F4 := fun {a0} {a1} {a2} {a3} => nx1 (VP.eq_1 _ _ _ _) (fun h => by
 have hh := h
 obtain ⟨hz, hc, ho, hm, hl⟩ := h
 refine XH (HV (fun p => p = [a2.ff0] ∧ a3.fd0 ≠ 0 ∧ a3.fd0 ≠ 1) ?_ fun J hJ => KL (fun c => ?_) fun c => KL (fun d => ?_) fun d => hJ _ ⟨rfl, by simpa using c, by simpa using d⟩)
 ·rintro p ⟨rfl, n0, n1⟩
  refine Un ⟨hz, hm, by simp⟩ fun v _ hv => KL (fun e => Un ⟨hz, hm⟩ fun w _ hw => ?_) fun e => Un ⟨hz, hm⟩ fun w _ hw => ⟨⟨hw.1.1, by rw [hw.1.2]; omega⟩, hw.2.2, BtP.dn hw.2.1 n1⟩
  have e2 : v = false := by simpa using e
  refine ⟨?_, YE.o rfl hw.2, fun e => absurd e n0, fun e => absurd e n1, fun _ _ => ⟨fun hs => absurd (hv hs) (by simp [e2]), fun _ => rfl⟩⟩
  have q := hw.1.1
  clear hw hv hm hz hl
  revert q; exact yx_
 ·have c1 : a3.fd0 = 0 := by simpa using c
  refine Un ⟨hz, by simp⟩ fun v _ hv => KL (fun e => Un ⟨hz, hv.1.2⟩ fun w _ hw => ⟨⟨hw.1.1, by rw [hw.1.2]; omega⟩, YE.o hw.2.1 (KS.refl _), BtP.dn hw.2.2 (by omega)⟩) fun e => ?_
  have e1 : v.2.2 = 0 := by simpa using e
  refine ⟨?_, YE.o rfl hv.2.1, fun _ _ => ⟨rfl, rfl, (hv.2.2.1 e1).1, (hv.2.2.1 e1).2⟩, fun h => absurd c1 (by omega), fun h => absurd c1 h⟩
  have q := hv.1
  clear hv hm hz hl
  revert q; exact yx_
 ·have c1 : a3.fd0 = 1 := by simpa using d
  refine Fo (Qy0 (fun s => LfI a3 a1 s.1 s.2.2.2.2.2.2.2.2.2.2.2.2.2.2.2.2.2.2.2.2.2.2.2.2.2.2.2.2.2.2.1) ?_ LfI.z ?_)
  ·clear J hJ c d
   revert hh; clear hz hc ho hm hl; exact yx_
  ·clear hJ c d
   revert hh; clear hz hc ho hm hl; exact yx_)
theorem Pj [Xm] [Bh] [Uc] : YO := ZD (JE.eq_1 _ _ _)
theorem MX [Ca] [Bl] : BQ := ZD (VG.eq_1 _)
theorem Q4v [IW] : Ht := nxb (Yg.eq_1 _)
end Go.Proofs.YtimfmcpbkdpmoaaGreat
