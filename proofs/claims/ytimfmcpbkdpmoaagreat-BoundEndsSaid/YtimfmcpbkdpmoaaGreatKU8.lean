/- Parts of the proof, laid together. No condition. -/
import Derived.Test.YtimfmcpbkdpmoaaGreatKB6
set_option linter.unusedVariables false
set_option linter.unusedSimpArgs false
set_option maxRecDepth 100000
set_option maxHeartbeats 4000000
namespace Go.Proofs.YtimfmcpbkdpmoaaGreat
open Go.RowKit
theorem R1 : Bg := Zp (ZC.eq_1 _ _ _)
theorem SD : Zx := Zp (Qz.eq_1 _ _ _)
theorem GH [Bg] : Wh := Zp (ZT.eq_1 _)
theorem SE : Wr := fun {a0} {a1} {a2} => Zp (J0.eq_1 _ _ _) (fun _ => by unfold TX; rw [Du, IS])
theorem Q1w [Ws] : Gs := Zp (W5.eq_1 _ _)
theorem R2 : E4 := Zp (JJ.eq_1 _)
theorem R3 [x_ref14_Holds : Wr] : Bm := fun {a0} {a1} {a2} => Zp (Vu.eq_1 _ _ _) (fun h => joi (by
 refine Q9y (l := a0) (by omega) (bnF a1 a2) (fun j x hx hix hf X hX => ?_) (fun e => by rw [e])
 refine ⟨x, hix, x, fun _ => hix, x, fun _ => hix, ?_⟩
 obtain ⟨v, hv, e⟩ := (x_ref14_Holds (a0 := x.fd5) (a1 := x.fTo) (a2 := a2)).go trivial
 refine ⟨v, fun _ => hv, ZX (fun c => ⟨x, hix, ?_⟩) fun c => hX ?_⟩
 ·rw [IS] at c
  rw [hf (by unfold bnF; rw [← e]; exact c)]
 ·rw [IS] at c
  unfold bnF; rw [← e]; exact c))
theorem FE [Wr] [JC] : Jc := Zp (Zf.eq_1 _)
theorem H5 [XL] : WH := fun {a0} {a1} => Zp (K9.eq_1 _ _) (fun h => by
 obtain ⟨hl, hz, hv⟩ := h
 have no : ∀ e : Int, (fun r : List Qs × Int => (r.1.length ≤ a0.length + 1 ∧ ∀ x ∈ r.1, okV x) ∧ ∀ x ∈ r.1, x ∈ a0 ∨ x.fTo = a1.fd5 ∨ x.fTo = 0) ([], e) := fun e => ⟨⟨by simp, VT⟩, fun x hx => by simp at hx⟩
 refine Uf hl fun v _ _ => ZX (fun _ => no _) fun _ => ZX (fun _ => no _) fun c => ⟨by omega, ?_⟩
 have c0 : a1.fTo = 0 := by
  simp only [Du, Bool.or_eq_false_iff, bne_eq_false_iff_eq] at c; exact c.2
 refine Iq (fun p => p.length = a0.length ∧ (∀ x ∈ p, okV x) ∧ ∀ x ∈ p, x ∈ a0 ∨ x.fTo = a1.fd5) (fun p hp => ⟨by simp; omega, ⟨by simp; omega, Yz hp.2.1 (XO hv)⟩, fun x hx => ?_⟩) fun J hJ => ?_
 ·rcases List.mem_append.1 hx with e | e
  ·exact (hp.2.2 x e).elim .inl fun e => .inr (.inl e)
  ·exact .inr (.inr (by rw [List.mem_singleton.1 e]; exact c0))
 have same : J a0 := hJ _ ⟨rfl, hz, fun x hx => .inl hx⟩
 refine ZX (fun c => ?_) fun _ => same
 have hp : 0 < a0.length := by simp at c; omega
 have w : IntKind.i64.wrap ((a0.length : Int) - 1) = ((a0.length - 1 : Nat) : Int) := by rw [KI (by omega)]; omega
 rw [w]
 obtain ⟨b, hb, hbm⟩ := Yy (l := a0) (n := ((a0.length - 1 : Nat) : Int)) (by omega) (by omega)
 have zb := hz b (List.mem_of_getElem? hbm)
 refine ⟨b, hb, b, fun _ => hb, ZX (fun _ => no _) fun _ => ⟨b, hb, ZX (fun _ => ⟨b, hb, CZ (hJ _ ⟨by simp, YI hz zb, fun x hx => ?_⟩)⟩) fun _ => same⟩⟩
 exact (List.mem_or_eq_of_mem_set hx).elim .inl fun e => .inr (by rw [e]))
theorem SF [x_ref14_index : Ws] : Cd := fun {a0} {a1} => Zp (Xh.eq_1 _ _) (fun h => by
 obtain ⟨⟨h1, h2, h3⟩, hb⟩ := h
 refine ZX (fun _ => ⟨h1, h2, h3⟩) fun c1 => ZX (fun _ => ⟨h1, h2, h3⟩) fun c2 => ?_
 simp only [decide_eq_false_iff_not] at c1 c2
 refine Iq (fun _ => True) (fun p _ => ?_) fun J hJ => ?_
 ·refine ⟨by omega, by omega, by simp only [List.length_append, List.length_cons, List.length_nil]; omega, Iq (fun l => l.length = a0.fa8.length + 1 ∧ ∀ x ∈ l, x ∈ a0.fa8 ++ [QE.mk p 1 a1]) (fun l hl => ⟨by dsimp only; omega, h2, Q9x (Yz h3 (XO ⟨by dsimp only; omega, hb⟩)) hl.2⟩) fun J hJ => lvi ⟨rfl, by simp only [List.length_append, List.length_cons, List.length_nil]; rw [KI (by omega)]; omega, by simp only [List.length_append, List.length_cons, List.length_nil]; rw [KI (by omega)]; omega, fun _ h => h⟩ ?_⟩
  have el : (a0.fa8 ++ [QE.mk p 1 a1]).length = a0.fa8.length + 1 := by simp
  have hJ2 : ∀ q, q.length = a0.fa8.length + 1 → (∀ x ∈ q, x ∈ a0.fa8 ++ [QE.mk p 1 a1]) → J q := fun p g1 g2 => hJ p ⟨g1, g2⟩
  rw [el]
  generalize a0.fa8 ++ [QE.mk p 1 a1] = L at *
  clear c1 c2 h3 hb el
  exact xx_
 ·refine Cp (I := fun n s => 1 ≤ s ∧ (∀ k : Nat, (k : Int) + 1 < s → ((k : Int) + 1) ∈ a0.fa8.map (·.fh2)) ∧ n = (20000 - s).toNat) ?_ (k := 19999) ⟨by decide, fun k hk => by omega, by decide⟩
  rintro n s ⟨g1, g2, g3⟩ X hX
  have g4 := pig (a0.fa8.map (·.fh2)) (s - 1).toNat (fun k hk => g2 k (by omega))
  rw [List.length_map] at g4
  have w : IntKind.i64.wrap (s + 1) = s + 1 := KI (by omega)
  obtain ⟨v, hv, _, _, hv2⟩ := (x_ref14_index (a0 := a0) (a1 := s)).go (by omega)
  refine ⟨v, hv, fun c => ?_, fun _ => hJ _ trivial⟩
  rw [w]
  obtain ⟨q, hq, hq2⟩ := hv2 (by simpa using c)
  clear hv2 hv
  refine hX (20000 - (s + 1)).toNat _ (by omega) ⟨by omega, fun k hk => ?_, rfl⟩
  by_cases e : (k : Int) + 1 = s
  ·rw [e]; exact List.mem_map.2 ⟨q, hq, hq2⟩
  ·exact g2 k (by omega))
theorem Ol [XS] [XT] : VU := fun {a0} {a1} {a2} => Zp (ZW.eq_1 _ _ _) (fun h => by
 have hz := h
 obtain ⟨z1, z2, z3, z4, z5, z6, z7, z8, z9⟩ := h
 refine Uf (by omega) fun u _ hu => ZX (fun c => ⟨hu.1, fun e => ?_⟩) fun c => Uf hz fun r hr hr2 => ZX (fun c2 => ⟨by simp, fun e => .inl ⟨hr2.2.1 (by simpa using c2), by simp⟩⟩) fun c2 => ?_
 ·have := hu.2 e
  rw [this] at c; simp at c
 ·have c3 : r.2.2 = true := by simpa using c2
  obtain ⟨o, ho, hm, hv⟩ := hr2.2.2 c3
  exact ⟨o, ⟨hr2.1.1.1, ho⟩, by simp, fun _ => .inr ⟨_, hv, rfl, rfl⟩⟩)
theorem Q1x [XT] [Au] [E6] : Gv := fun {a0} {a1} => Zp (Wd.eq_1 _ _) (fun h => by
 obtain ⟨h, hn⟩ := h
 have hz := h
 obtain ⟨z1, z2, z3, z4, z5, z6, z7, z8, z9⟩ := h
 obtain ⟨c1, c2, c3, c4, c5, c6, c7⟩ := z1
 have no : ∀ e : Int, e ≠ 16 → (fun r : Q2 × Int × Int => (UO r.1 ∧ r.2.2 ≠ 16) ∧ KE a0 r.1) (a0, 0, e) := fun e he => ⟨⟨hz, he⟩, KE.i (fun hs => hs) rfl (.inl rfl)⟩
 have w : IntKind.i64.wrap (a0.f9 + 1) = a0.f9 + 1 := KI (by omega)
 rw [w]
 refine Uf hz fun v _ hv => ZX (fun _ => no _ (by decide)) fun cv => ZX (fun _ => no _ (by decide)) fun cc => ⟨by omega, ?_⟩
 have v1 : v.2.2 = true := by simpa using cv
 have cc2 : ¬ a0.f9 ≥ a0.fk.fc7 := by simpa using cc
 obtain ⟨o, ho, hm, _⟩ := hv.2.2 v1
 have zo := z4 o (List.mem_of_getElem? ho)
 have hix : ix a0.fa6 v.1 o := ⟨hv.1.1.1, ho⟩
 refine ⟨o, hix, Uf ⟨by omega, zo.2⟩ fun q _ hq => ⟨o, hix, CZ (Uf ⟨by omega, hn, z6⟩ fun b _ hb => ?_)⟩⟩
 obtain ⟨⟨q1, q2⟩, q3⟩ := hq
 obtain ⟨⟨b1, b2⟩, b3⟩ := hb
 have up : ∀ x ∈ a0.fa6, zO (a0.f9 + 1) x := fun x hx => ⟨by have := (z4 x hx).1; omega, (z4 x hx).2⟩
 refine ⟨⟨⟨⟨c1, c2, c3, c4, c5, c6, c7⟩, by dsimp only; omega, by simp; omega, YI up ⟨by have := zo.1; dsimp only; omega, q2⟩, by dsimp only; omega, b2, z7, z8, z9⟩, by simp⟩, KE.i (fun hs => ?_) rfl (.inr (by dsimp only; omega))⟩
 exact { bt := fun x hx => (b3 x hx).elim (fun e => by have := hs.bt x e; dsimp only; omega) (fun e => by dsimp only; omega), vt := YI (fun x hx v hv => by have := hs.vt x hx v hv; dsimp only; omega) (fun x hx => (q3 x hx).elim (fun e => by have := hs.vt o (List.mem_of_getElem? ho) x e; dsimp only; omega) (fun e => by dsimp only; omega)), id := Q9z ho rfl hs.id, la := YI hs.la (hs.la o (List.mem_of_getElem? ho)), l0 := hs.l0, lc := by have := hs.lc; dsimp only; omega })
theorem Q1y : Gw := Zp (Wc.eq_1 _)
theorem H6 [Bh] [KF] : XM := Zp (ZI.eq_1 _)
theorem FR [Zx] [KF] : Zt := Zp (QR.eq_1 _)
theorem Iz [Wi] : UI := Zp (KN.eq_1 _ _)
theorem LH [Kr] [VB] [Uh] : Av := Zp (Jj.eq_1 _)
theorem LI [ZF] [VB] [Uh] [Cs] : Aw := Zp (Jk.eq_1 _)
theorem Nu : Uu := Zp (Jv.eq_1 _)
theorem SG [Zx] [KF] [Lr] [Di] [EH] : Fv := Zp (Yh.eq_1 _ _ _ _)
theorem Q1z : Dj := Zp (VX.eq_1 _)
theorem Q20 [VB] [CM] : Uv := Zp (Vm.eq_1 _ _)
theorem MF [ZF] [A7] [Wj] [Ch] : By := Zp (JS.eq_1 _ _ _ _)
theorem IA [ZS] [Wk] [Kt] [ZK] : UL := Zp (KR.eq_1 _)
theorem I0 [Zs] [As] : Ui := Zp (Ko.eq_1 _ _)
theorem SH [Ed] : Fy := Zp (Ys.eq_1 _ _ _)
theorem R4 [Vh] [VB] [Uv] [Av] [WJ] [UJ] [BR] [WK] [Aw] : YK := Zp (KY.eq_1 _)
theorem R5 : JW := Zp (QW.eq_1 _ _)
theorem Q69 [YL] [YM] [EL] : HQ := Zp (Ue.eq_1 _ _ _ _ _)
theorem Q21 [BX] [Cf] [CL] [Bu] : GD := Zp (Wb.eq_1 _ _ _)
theorem Q6a [Ek] : HR := nxb (U2.eq_1 _)
theorem Q22 [Ek] [CY] : GF := fun {a0} {a1} => Zp (W2.eq_1 _ _) (fun h => by
 obtain ⟨h1, h2, h3, h4, h5, h6, h7, h8, h9⟩ := h
 simp only [bA3, bA31, Lo]
 generalize hk : QC .i64 a1 5 % 16777216 = k
 have k0 : 0 ≤ k := by omega
 have m0 := fun n (hn : (0 : Int) < n) => tm0 (n := n) k0
 have m1 := fun n (hn : (0 : Int) < n) => tm1 (n := n) k0 hn
 refine Iq (fun p1 => zOg a0 (Qq.mk p1.1 p1.2.1 p1.2.2.1 p1.2.2.2.1 (Q7.mk p1.2.2.2.2.1 p1.2.2.2.2.2.1 p1.2.2.2.2.2.2.1 p1.2.2.2.2.2.2.2.1) p1.2.2.2.2.2.2.2.2.1 p1.2.2.2.2.2.2.2.2.2.1 p1.2.2.2.2.2.2.2.2.2.2.1 p1.2.2.2.2.2.2.2.2.2.2.2.1 p1.2.2.2.2.2.2.2.2.2.2.2.2.1 p1.2.2.2.2.2.2.2.2.2.2.2.2.2.1 p1.2.2.2.2.2.2.2.2.2.2.2.2.2.2.1 p1.2.2.2.2.2.2.2.2.2.2.2.2.2.2.2.1 (Qo.mk p1.2.2.2.2.2.2.2.2.2.2.2.2.2.2.2.2.1 p1.2.2.2.2.2.2.2.2.2.2.2.2.2.2.2.2.2.1 p1.2.2.2.2.2.2.2.2.2.2.2.2.2.2.2.2.2.2.1 p1.2.2.2.2.2.2.2.2.2.2.2.2.2.2.2.2.2.2.2.1 p1.2.2.2.2.2.2.2.2.2.2.2.2.2.2.2.2.2.2.2.2.1) p1.2.2.2.2.2.2.2.2.2.2.2.2.2.2.2.2.2.2.2.2.2)) (fun p h => h) fun J hJ => ?_
 have z0 : ∀ n : Nat, n ≤ 1100000 → bB (List.replicate n (0 : Int)) := fun n _ => Nh ⟨by decide, by decide⟩
 refine ZX (fun _ => hJ _ ⟨by (try dsimp only); omega, by (try dsimp only); omega, by (try dsimp only); omega, by (try dsimp only); omega, h5, h6, h7, h8, h9⟩) fun _ => ?_
 refine ZX (fun _ => ixq (P := fun v => v.size ≤ 2000000) (by decide) ⟨by omega, by simp <;> omega⟩ fun v _ _ _ hv => hJ _ ⟨by (try dsimp only); omega, by (try dsimp only); omega, by (try dsimp only); omega, by (try dsimp only); omega, h5, hv, h7, h8, h9⟩) fun _ => ?_
 refine ZX (fun _ => ixq (P := fun v => v.size ≤ 2000000) (by decide) ⟨by omega, by simp <;> omega⟩ fun v _ _ _ hv => hJ _ ⟨by (try dsimp only); omega, by (try dsimp only); omega, by (try dsimp only); omega, by (try dsimp only); omega, h5, h6, hv, h8, h9⟩) fun _ => ?_
 refine ZX (fun _ => ⟨by omega, ixq (P := fun v => v.size ≤ 2000000) (by decide) ⟨m0 3 (by decide), m1 3 (by decide)⟩ fun v _ _ _ hv => ⟨by simp <;> omega, hJ _ ⟨by simp <;> omega, by (try dsimp only); omega, by (try dsimp only); omega, by (try dsimp only); omega, h5, h6, h7, h8, Yz h9 (XO hv)⟩⟩⟩) fun _ => ?_
 refine ZX (fun _ => ⟨⟨m0 20 (by decide), by have := m1 20 (by decide); omega⟩, CZ (hJ _ ⟨by have := m1 20 (by decide); simp; omega, by (try dsimp only); omega, by (try dsimp only); omega, by (try dsimp only); omega, h5, h6, h7, h8, Nh (by simp)⟩)⟩) fun _ => ?_
 refine ZX (fun _ => hJ _ ⟨by (try dsimp only); omega, by (try dsimp only); omega, by (try dsimp only); omega, by (try dsimp only); omega, h5, h6, h7, h8, h9⟩) fun _ => ?_
 refine ZX (fun _ => ⟨by omega, Uf trivial fun v _ hv => ⟨by simp <;> omega, hJ _ ⟨by (try dsimp only); omega, by simp <;> omega, by (try dsimp only); omega, by (try dsimp only); omega, h5, h6, h7, Yz h8 (XO (by show v.size ≤ 2000000; omega)), h9⟩⟩⟩) fun _ => ?_
 have w2 : ∀ a : Int, 0 ≤ a → a ≤ 100000 → IntKind.i64.wrap (a + k.tmod 2) = a + k.tmod 2 ∧ 0 ≤ k.tmod 2 ∧ k.tmod 2 < 2 := fun a q1 q2 => by have e0 := m0 2 (by decide); have e1 := m1 2 (by decide); exact ⟨KI (by omega), e0, e1⟩
 have w9 : IntKind.i64.wrap (60 + k.tmod 9) = 60 + k.tmod 9 ∧ 0 ≤ k.tmod 9 ∧ k.tmod 9 < 9 := by have e0 := m0 9 (by decide); have e1 := m1 9 (by decide); exact ⟨KI (by omega), e0, e1⟩
 obtain ⟨w64, w64a, w64b⟩ := w2 64 (by decide) (by decide)
 have w65 := (w2 65536 (by decide) (by decide)).1
 obtain ⟨w9, w9a, w9b⟩ := w9
 simp only [w64, w65, w9]
 refine ZX (fun _ => ⟨⟨by omega, by omega⟩, CZ (hJ _ ⟨by (try dsimp only); omega, by simp <;> omega, by (try dsimp only); omega, by (try dsimp only); omega, h5, h6, h7, Nh (by show (ByteArray.empty).size ≤ 2000000; simp), h9⟩)⟩) fun _ => ?_
 refine ZX (fun _ => ⟨⟨by omega, by omega⟩, CZ (hJ _ ⟨by (try dsimp only); omega, by (try dsimp only); omega, by simp <;> omega, by (try dsimp only); omega, h5, h6, h7, h8, h9⟩)⟩) fun _ => ?_
 have hh : zOg a0 a0 := ⟨by omega, by omega, by omega, by omega, h5, h6, h7, h8, h9⟩
 refine ZX (fun _ => ixi ⟨by omega, by simp <;> omega⟩ fun v _ _ _ => hJ _ hh) fun _ => ?_
 refine ZX (fun _ => ixi ⟨by omega, by simp <;> omega⟩ fun v _ _ _ => hJ _ hh) fun _ => ?_
 refine ZX (fun _ => hJ _ hh) fun _ => ZX (fun _ => hJ _ hh) fun _ => ZX (fun _ => hJ _ hh) fun _ => ZX (fun _ => hJ _ hh) fun _ => ?_
 refine ZX (fun _ => Uf k0 fun v _ hv => hJ _ hh) fun _ => ?_
 refine ZX (fun _ => ⟨⟨by omega, by omega⟩, CZ (hJ _ ⟨by (try dsimp only); omega, by (try dsimp only); omega, by (try dsimp only); omega, by simp <;> omega, z0 _ (by (try dsimp only); omega), h6, h7, h8, h9⟩)⟩) fun _ => ?_
 refine ZX (fun _ => hJ _ ⟨by (try dsimp only); omega, by (try dsimp only); omega, by (try dsimp only); omega, by simp, XO ⟨by decide, by decide⟩, h6, h7, h8, h9⟩) fun _ => hJ _ hh)
theorem SI [BY] [Ni] [GF] : IU := nxb (Yl.eq_1 _ _ _)
end Go.Proofs.YtimfmcpbkdpmoaaGreat
