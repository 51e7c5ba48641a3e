/- Parts of the proof, laid together. No condition. -/
import Derived.Test.YtimfmcpbkdpmoaaGreatKB6
set_option linter.unusedVariables false
set_option linter.unusedSimpArgs false
set_option maxRecDepth 100000
set_option maxHeartbeats 4000000
namespace Go.Proofs.YtimfmcpbkdpmoaaGreat
open Go.RowKit
theorem MS [Yl] : Bt := ZM (JS.eq_1 _ _)
theorem Rb [x_ref14_Holds : Wx] : Bu := fun {a0} {a1} {a2} => ZM (VC.eq_1 _ _ _) (fun h => joi (by
 refine Qb2 (l := a0) (by omega) (bnF a1 a2) (fun j x hx hix hf X hX => ?_) (fun e => by rw [e])
 refine ⟨x, hix, x, fun _ => hix, x, fun _ => hix, ?_⟩
 obtain ⟨v, hv, e⟩ := (x_ref14_Holds (a0 := x.fd0) (a1 := x.fTo) (a2 := a2)).go trivial
 refine ⟨v, fun _ => hv, Z5 (fun c => ⟨x, hix, ?_⟩) fun c => hX ?_⟩
 ·rw [II] at c
  rw [hf (by unfold bnF; rw [← e]; exact c)]
 ·rw [II] at c
  unfold bnF; rw [← e]; exact c))
theorem FR [Wx] [JJ] : Jg := ZM (Zh.eq_1 _)
theorem He [XW] : WN := fun {a0} {a1} => ZM (Ke.eq_1 _ _) (fun h => by
 obtain ⟨hl, hz, hv⟩ := h
 have no : ∀ e : Int, (fun r : List Qj × Int => ((r.1.length ≤ a0.length + 1 ∧ ∀ x ∈ r.1, okV x) ∧ ∀ x ∈ r.1, x ∈ a0 ∨ x.fTo = a1.fd0 ∨ x.fTo = 0) ∧ (r.1.map kv).Sublist (a0.map kv ++ [kv a1])) ([], e) := fun e => ⟨⟨⟨by simp, ZT⟩, fun x hx => by simp at hx⟩, by simp⟩
 refine K2 hl fun v _ _ => Z5 (fun _ => no _) fun _ => Z5 (fun _ => no _) fun c => ⟨by omega, ?_⟩
 have c0 : a1.fTo = 0 := by
  simp only [CJ, Bool.or_eq_false_iff, bne_eq_false_iff_eq] at c; exact c.2
 refine AR (fun p => p.length = a0.length ∧ (∀ x ∈ p, okV x) ∧ (∀ x ∈ p, x ∈ a0 ∨ x.fTo = a1.fd0) ∧ p.map kv = a0.map kv) (fun p hp => ⟨by simp; omega, ⟨⟨by simp; omega, ZS hp.2.1 (JC hv)⟩, fun x hx => ?_⟩, by rw [List.map_append, hp.2.2.2]; exact List.Sublist.refl _⟩) fun J hJ => ?_
 ·rcases List.mem_append.1 hx with e | e
  ·exact (hp.2.2.1 x e).elim .inl fun e => .inr (.inl e)
  ·exact .inr (.inr (by rw [List.mem_singleton.1 e]; exact c0))
 have same : J a0 := hJ _ ⟨rfl, hz, fun x hx => .inl hx, rfl⟩
 refine Z5 (fun c => ?_) fun _ => same
 have hp : 0 < a0.length := by simp at c; omega
 have w : IntKind.i64.wrap ((a0.length : Int) - 1) = ((a0.length - 1 : Nat) : Int) := by rw [Za (by omega)]; omega
 rw [w]
 obtain ⟨b, hb, hbm⟩ := Zp (l := a0) (n := ((a0.length - 1 : Nat) : Int)) (by omega) (by omega)
 have zb := hz b (List.mem_of_getElem? hbm)
 refine ⟨b, hb, b, fun _ => hb, Z5 (fun _ => no _) fun _ => ⟨b, hb, Z5 (fun _ => ⟨b, hb, U0 (hJ _ ⟨by simp, XS hz zb, fun x hx => ?_, Qlp hbm rfl⟩)⟩) fun _ => same⟩⟩
 exact (List.mem_or_eq_of_mem_set hx).elim .inl fun e => .inr (by rw [e]))
theorem Q2e : GP := fun {a0} => ZM (Wa.eq_1 _) (fun h => by
 obtain ⟨hl, hz⟩ := h
 refine AR (fun p => (p.length ≤ 1024 * a0.length ∧ bB p) ∧ p = a0.flatten) (fun p hp => hp) fun J hJ => EG (fun s => s.1 = (a0.take s.2.toNat).flatten) ⟨by simp, by simp, by simp, ZT⟩ (by simp) ?_
 rintro ⟨l, i⟩ ⟨i0, i1, i2, i3⟩ e X hX
 dsimp only at *
 refine Z5 (fun c => ?_) fun c => hJ _ ⟨⟨by omega, i3⟩, ?_⟩
 ·have ci : i < (a0.length : Int) := by simpa using c
  obtain ⟨b, hb, hbm⟩ := Zp (l := a0) (n := i) i0 ci
  have zb := hz b (List.mem_of_getElem? hbm)
  have w : IntKind.i64.wrap (i + 1) = i + 1 := Za (by omega)
  rw [w]
  have e1 : (i + 1).toNat = i.toNat + 1 := by omega
  exact ⟨b, hb, by have := zb.1; omega, hX _ ⟨by dsimp only; omega, by dsimp only; omega, by have := zb.1; simp; omega, ZS i3 zb.2⟩ (by dsimp only; rw [e1, List.take_add_one, hbm, e]; simp) (by dsimp only; omega)⟩
 ·have ci : ¬ i < (a0.length : Int) := by simpa using c
  rw [e, List.take_of_length_le (by omega)])
theorem OA [Bu] [BA] [UN] : Y3 := fun {a0} {a1} {a2} => ZM (KB.eq_1 _ _ _) (fun h => by
 have hz := h
 obtain ⟨z1, z2, z3, z4, z5, z6, z7, z8, z9⟩ := h
 obtain ⟨c1, c2, c3, c4, c5, c6, c7⟩ := z1
 have e0 : okV (Qj.mk 0 0 0 ([] : List Int)) := by show ([] : List Int).length ≤ 65536; simp
 refine K2 (by omega) fun l _ hl => K2 (by omega) fun i hi hi2 => Z5 (fun c => ?_) fun c => ?_
 ·refine ⟨⟨⟨by simp, fun c => by simp at c⟩, e0⟩, fun _ => ?_, fun c => by simp at c⟩
  unfold view
  cases e : a0.fb4.find? (bnF a1 a2) with
  | none => rfl
  | some b =>
   rw [e] at hl
   simp only at hl
   subst hl
   simp only [CJ, Bool.not_true, Bool.false_or, decide_eq_true_eq] at c
   have := hi2.2.1 c
   simp only [Option.bind_some]
   rw [this]; rfl
 ·cases e : a0.fb4.find? (bnF a1 a2) with
  | none =>
   rw [e] at hl
   simp only at hl
   subst hl
   simp at c
  | some b =>
   rw [e] at hl
   simp only at hl
   subst hl
   simp only [CJ, Bool.not_true, Bool.false_or, decide_eq_false_iff_not] at c
   obtain ⟨o, ho, ho2⟩ := hi2.2.2 (by omega)
   have hol := (List.getElem?_eq_some_iff.1 ho).1
   have zo := z4 o (List.mem_of_getElem? ho)
   have hix : ix a0.fa1 i o := ⟨by omega, ho⟩
   refine ⟨o, hix, K2 (by omega) fun k hk hk2 => Z5 (fun c => ?_) fun c => ?_⟩
   ·refine ⟨⟨⟨by simp, fun c => by simp at c⟩, e0⟩, fun _ => ?_, fun c => by simp at c⟩
    unfold view
    rw [e]
    simp only [Option.bind_some]
    rw [ho2]
    simp only [Option.bind_some]
    rw [hk2.2.1 (by simpa using c)]; rfl
   ·have c2 : k.2 = true := by simpa using c
    obtain ⟨v, hv, hv2⟩ := hk2.2.2 c2
    have hvm := List.mem_of_getElem? hv
    refine ⟨o, hix, v, ⟨hk2.1.1, hv⟩, ⟨⟨by dsimp only; omega, fun _ => by dsimp only; omega⟩, zo.2 v hvm⟩, fun c => by simp at c, fun _ => ⟨o, ho, hvm, ?_⟩⟩
    unfold view
    rw [e]
    simp only [Option.bind_some]
    rw [ho2]
    simp only [Option.bind_some]
    rw [hv2]; rfl)
theorem Q6w [Y3] [Cq] [BB] [Ep] [x_ref19_Live : Dx] [WN] [GL] [Cs] : Ia := fun {a0} {a1} {a2} => ZM (Uf.eq_1 _ _ _) (fun h => by
 obtain ⟨h, hd, hdb, gb⟩ := h
 have hz := h
 obtain ⟨z1, z2, z3, z4, z5, z6, z7, z8, z9, hx⟩ := h
 obtain ⟨c1, c2, c3, c4, c5, c6, c7⟩ := z1
 obtain ⟨y1, y2, y3⟩ := z9
 have no : ∀ e : Int, e ≠ 16 → (fun r : Q2 × Int × Int => (UC r.1 ∧ r.2.2 ≠ 16) ∧ KE a0 r.1) (a0, 0, e) := fun e he => ⟨⟨hz, he⟩, KE.i (fun hs => hs) rfl (.inl rfl)⟩
 have w : IntKind.i64.wrap (a0.f7 + 1) = a0.f7 + 1 := Za (by omega)
 rw [w]
 refine Z5 (fun _ => no _ (by decide)) fun cd => ?_
 have cd2 : ¬ (a2.length : Int) > 65536 := by simpa using cd
 refine K2 hz fun v _ hv => Z5 (fun _ => no _ (by decide)) fun cv => K2 ⟨hd, hdb⟩ fun p _ hp => K2 ⟨hz, hv.1.2⟩ fun sto _ hsto => K2 ⟨⟨by have e : v.2.1.f9.length ≤ 65536 := hv.1.2; have := hsto.1.1; omega, by have := hp.1.2; omega⟩, hsto.1.2, hp.1.1⟩ fun shr _ hshr => ?_
 obtain ⟨sp1, sp2⟩ := hp.2 (by omega)
 obtain ⟨hshr, hshs⟩ := hshr
 obtain ⟨hsto, hstd⟩ := hsto
 have v1 : v.2.2 = true := by simpa using cv
 obtain ⟨o, ho, hm, _⟩ := hv.2.2 v1
 have zo := z4 o (List.mem_of_getElem? ho)
 have hix : ix a0.fa1 v.1 o := ⟨hv.1.1.1, ho⟩
 refine AR (fun q => q.1 = p.1 ∧ q.2.1 = shr ∧ q.2.2 = (shr.count false : Int)) ?_ fun J hJ => ?_
 ·rintro ⟨l, sh1, nd⟩ ⟨rfl, rfl, g0⟩
  dsimp only at *
  subst g0
  obtain ⟨lv1, hlv, elv⟩ := (x_ref19_Live (a0 := a0)).go hz
  have cle := List.count_le_length (a := false) (l := sh1)
  refine ⟨lv1, fun _ => hlv, Z5 (fun _ => no _ (by decide)) fun cc => ?_⟩
  have cc2 : ¬ a0.f7 ≥ a0.fj.fc3 := by
   simp only [CJ, Bool.or_eq_false_iff, decide_eq_false_iff_not] at cc; exact cc.1
  have cl2 : (a0.fc1.f9.length : Int) + (sh1.count false : Int) ≤ a0.fj.f9 := by
   simp only [CJ, Bool.or_eq_false_iff, decide_eq_false_iff_not] at cc
   have w3 : IntKind.i64.wrap (lv1 + (sh1.count false : Int)) = lv1 + (sh1.count false : Int) := Za (by have := hp.1.2; have := hshr.1; omega)
   rw [w3] at cc; omega
  refine U0 (AR (fun q => q.1 ≤ 16384 ∧ (q.2.1.length ≤ 16384 ∧ ∀ x ∈ q.2.1, MK x) ∧ q.2.2.length ≤ 65536 ∧ Xp a0 q.2.2 q.1 q.2.1 ∧ Cn q.2.1 q.2.2 a2) ?_ fun J hJ => ?_)
  ·rintro ⟨cap, pg, ns⟩ ⟨g1, ⟨g2, g3⟩, g4, g5, g6⟩
   dsimp only at *
   refine ⟨by omega, o, hix, K2 ⟨by omega, zo.2, g4⟩ fun q _ hq => ⟨o, hix, U0 ?_⟩⟩
   obtain ⟨⟨⟨q1, q2⟩, q3⟩, q4⟩ := hq
   have up : ∀ x ∈ a0.fa1, zO (a0.f7 + 1) x := fun x hx => ⟨by have := (z4 x hx).1; omega, (z4 x hx).2⟩
   refine ⟨⟨⟨⟨c1, c2, c3, c4, c5, c6, c7⟩, by dsimp only; omega, by simp; omega, XS up ⟨by have := zo.1; dsimp only; omega, q2⟩, by dsimp only; omega, z6, z7, z8, ⟨g2, g1, g3⟩, hx.com g5 g6 gb (Ob.set ho q4 ⟨by dsimp only; omega, Int.le_refl _⟩) (by omega)⟩, by simp⟩, KE.i (fun hs => ?_) rfl (.inr (Mo.of (c := a0.f7 + 1) (Ob.set ho q4 ⟨by dsimp only; omega, Int.le_refl _⟩) rfl))⟩
   exact { bt := fun x hx => by have := hs.bt x hx; dsimp only; omega, vt := XS (fun x hx v hv => by have := hs.vt x hx v hv; dsimp only; omega) (fun x hx => (q3 x hx).elim (fun e => by have := hs.vt o (List.mem_of_getElem? ho) x e; dsimp only; omega) (fun e => by dsimp only at e ⊢; omega)), id := Qb3 ho rfl hs.id, la := XS hs.la (hs.la o (List.mem_of_getElem? ho)), l0 := hs.l0, lc := by have := hs.lc; dsimp only; omega }
  ·have om := List.mem_of_getElem? ho
   let I2 := fun (i cap : Int) (pg : List Qn) (ns : List Int) => Xp a0 ns cap pg ∧ Cn pg ns (p.1.take i.toNat).flatten ∧ (∀ m ∈ ns, (∃ j : Nat, (j : Int) < i ∧ v.2.1.f9[j]? = some m) ∨ ∀ q ∈ a0.fc1.f9, q.fc7 ≠ m) ∧ (pg.length : Int) + ((sh1.drop i.toNat).count false : Int) ≤ a0.fj.f9
   refine EG (fun s => I2 s.2.2.1 s.2.2.2.1 s.2.2.2.2.1 s.2.2.2.2.2) ⟨rfl, hp.1.1, rfl, by simp, by simp, by simp, y2, y1, y3⟩ ⟨Xp.start hx, rfl, fun m hm => (by cases hm), by simpa using cl2⟩ ?_
   rintro ⟨l, s2, i, cap, pg, ns⟩ ⟨i1, i2, i0, i3, i4, i5, i6, i7, i8⟩ ⟨x1, x2, x3, x4⟩ X hX
   dsimp only at *
   subst i1 i0
   refine Z5 (fun c => ?_) fun c => hJ _ ⟨i6, ⟨i7, i8⟩, by have := hp.1.2; dsimp only; omega, x1, by rw [List.take_of_length_le (by simp at c; omega), sp1] at x2; exact x2⟩
   have ci : i < (p.1.length : Int) := by simpa using c
   have wi : IntKind.i64.wrap (i + 1) = i + 1 := Za (by have := hp.1.2; omega)
   rw [wi]
   obtain ⟨f, hf, hfm⟩ := Zp (l := s2) (n := i) i3 (by have := hshr.1; omega)
   obtain ⟨b, hb, hbm⟩ := Zp (l := p.1) (n := i) i3 ci
   have bm := List.mem_of_getElem? hbm
   have e1 : (i + 1).toNat = i.toNat + 1 := by omega
   have tk : (p.1.take (i + 1).toNat).flatten = (p.1.take i.toNat).flatten ++ b := by rw [e1, List.take_add_one, hbm, List.flatten_append]; simp
   have dc : (s2.drop i.toNat).count false = (s2.drop (i + 1).toNat).count false + (if f = false then 1 else 0) := by
    have fb := (List.getElem?_eq_some_iff.1 hfm).1
    rw [e1, ← List.getElem_cons_drop fb, (List.getElem?_eq_some_iff.1 hfm).2, List.count_cons]
    cases f <;> rfl
   refine AR (fun q => q.1 = p.1 ∧ q.2.1 = s2 ∧ q.2.2.1 ≤ 16384 ∧ (q.2.2.2.1.length ≤ 16384 ∧ ∀ x ∈ q.2.2.2.1, MK x) ∧ (q.2.2.2.2.length : Int) ≤ i + 1 ∧ I2 (i + 1) q.2.2.1 q.2.2.2.1 q.2.2.2.2) ?_ fun K hK => ⟨f, hf, Z5 (fun cf => ?_) fun cf => ?_⟩
   ·rintro ⟨q1, q2, q3, q4, q5⟩ ⟨rfl, rfl, g3, ⟨g4, g5⟩, g6, g7⟩
    dsimp only at *
    exact hX _ ⟨rfl, i2, rfl, by dsimp only; omega, by dsimp only; omega, g6, g3, g4, g5⟩ g7 (by dsimp only; omega)
   ·subst cf
    have fl := hshr.2 i.toNat hfm
    have fl2 : i < (v.2.1.f9.length : Int) := by have := hsto.1; omega
    obtain ⟨n, hn, hnm⟩ := Zp (l := v.2.1.f9) (n := i) i3 fl2
    have no1 : n ∈ LA a0.fa1 := Q23 om hm (List.mem_of_getElem? hnm)
    have no2 : n ∉ ns := fun hn2 => by
     rcases x3 n hn2 with ⟨j, j1, j2⟩ | k
     ·have du := hx.du o om v.2.1 hm
      obtain ⟨a1, a2⟩ := List.getElem?_eq_some_iff.1 hnm
      obtain ⟨a3, a4⟩ := List.getElem?_eq_some_iff.1 j2
      exact List.pairwise_iff_getElem.1 du j i.toNat a3 a1 (by omega) (by rw [a2, a4])
     ·obtain ⟨q, g1, g2⟩ := hx.rx.pr n (.inl no1)
      exact k q g1 g2
    refine ⟨n, hn, K2 ⟨i7, i6, i8⟩ fun t _ ht => ⟨n, hn, by have := hp.1.2; simp; omega, hK _ ?_⟩⟩
    obtain ⟨⟨t1, t2, t3⟩, t4⟩ := ht
    obtain ⟨u1, u2, u3⟩ := Xp.hold (a := Qq.mk cap pg) x1 t4 no1 no2 ⟨z2.1, by omega⟩ (by have := hp.1.2; omega)
    refine ⟨rfl, rfl, t2, ⟨t1, t3⟩, by simp; omega, u1, ?_, ?_, ?_⟩
    ·obtain ⟨d, d1, d2⟩ := hshs i.toNat hfm
     rw [hbm] at d2; cases d2
     obtain ⟨q, g1, g2⟩ := hx.rx.pr n (.inl no1)
     have := hstd.2 hx.rx.nd i.toNat n q.fc6 hnm ⟨q, g1, g2, rfl⟩
     rw [d1] at this
     have hb : Has a0.fc1.f9 n b := ⟨q, g1, g2, (Option.some.inj this).symm⟩
     dsimp only
     rw [tk]
     exact (x2.mono fun m _ d => u2 m d).app (u2 n b (x1.hs n b hb))
    ·intro m hm2
     rcases List.mem_append.1 hm2 with k | k
     ·exact (x3 m k).imp (fun ⟨j, j1, j2⟩ => ⟨j, by omega, j2⟩) id
     ·rw [List.mem_singleton.1 k]; exact .inl ⟨i.toNat, by omega, hnm⟩
    ·dsimp only at u3 ⊢; rw [u3]; simp at dc; omega
   ·subst cf
    simp only [if_true] at dc
    refine ⟨b, hb, K2 ⟨⟨i7, i6, i8⟩, (i2 b bm).2⟩ fun t _ ht => ⟨by have := hp.1.2; simp; omega, hK _ ?_⟩⟩
    obtain ⟨⟨t1, t2, t3⟩, t4⟩ := ht
    obtain ⟨u1, u2, u3, u4, u5⟩ := Xp.alloc (a := Qq.mk cap pg) x1 t4 (sp2 b bm).1 (i2 b bm).1 (by dsimp only; omega) z2.1
    refine ⟨rfl, rfl, t2, ⟨t1, t3⟩, by simp; omega, u1, ?_, ?_, by dsimp only at u4 ⊢; omega⟩
    ·dsimp only; rw [tk]; exact (x2.mono fun m _ d => u3 m d).app u2
    ·intro m hm2
     rcases List.mem_append.1 hm2 with k | k
     ·exact (x3 m k).imp (fun ⟨j, j1, j2⟩ => ⟨j, by omega, j2⟩) id
     ·rw [List.mem_singleton.1 k]
      refine .inr fun q hq e => ?_
      obtain ⟨q2, g1, g2, _⟩ := x1.hs t.2.1 q.fc6 ⟨q, hq, e, rfl⟩
      exact u5 q2 g1 g2
 ·refine EG (fun s => s.2.2.1 = ((shr.take s.2.2.2.toNat).count false : Int)) ⟨rfl, rfl, by simp, by simp⟩ (by simp) ?_
  rintro ⟨l, s2, nd, i⟩ ⟨i1, i2, i3, i4⟩ x1 X hX
  dsimp only at *
  subst i1 i2
  refine Z5 (fun c => ?_) fun c => hJ _ ⟨rfl, rfl, by dsimp only; rw [x1, List.take_of_length_le (by have := hshr.1; simp at c; omega)]⟩
  have ci : i < (p.1.length : Int) := by simpa using c
  have wi : IntKind.i64.wrap (i + 1) = i + 1 := Za (by have := hp.1.2; omega)
  rw [wi]
  obtain ⟨f, hf, hfm⟩ := Zp (l := s2) (n := i) i3 (by have := hshr.1; omega)
  have e1 : (i + 1).toNat = i.toNat + 1 := by omega
  have tk : (s2.take (i + 1).toNat).count false = (s2.take i.toNat).count false + (if f = false then 1 else 0) := by
   rw [e1, List.take_add_one, hfm, List.count_append]
   cases f <;> rfl
  have cle := List.count_le_length (a := false) (l := s2.take i.toNat)
  have cl3 : (s2.take i.toNat).length ≤ a2.length := by rw [List.length_take]; have := hp.1.2; omega
  have w2 : IntKind.i64.wrap (nd + 1) = nd + 1 := Za (by omega)
  rw [w2]
  refine AR (fun q => q.1 = p.1 ∧ q.2.1 = s2 ∧ q.2.2 = ((s2.take (i + 1).toNat).count false : Int)) ?_ fun K hK => ⟨f, hf, Z5 (fun c => hK _ ⟨rfl, rfl, ?_⟩) fun c => hK _ ⟨rfl, rfl, ?_⟩⟩
  rotate_left
  ·have : f = false := by simpa using c
   subst this; dsimp only; rw [tk, x1]; simp
  ·have : f = true := by simpa using c
   subst this; dsimp only; rw [tk, x1]; simp
  rintro ⟨q1, q2, q3⟩ ⟨rfl, rfl, g3⟩
  dsimp only at *
  exact hX _ ⟨rfl, rfl, by dsimp only; omega, by dsimp only; omega⟩ g3 (by dsimp only; omega))
theorem SR [Y2] [Dw] : FF := ZM (YE.eq_1 _ _)
theorem H3 [Br] : V1 := ZM (Zm.eq_1 _)
theorem G7 [ZA] : Zv := fun {a0} => Gf (QR.eq_1 _) (fun h => by
 obtain ⟨h1, h2, h3⟩ := h
 have nn : ∀ e : Int, e ≠ 0 → e ≠ 16 → (fun r : Int => (r = 0 → oCm a0 ∧ a0.fc0.length ≤ 8) ∧ r ≠ 16) e := fun e a b => ⟨fun h => absurd h a, b⟩
 refine K2 trivial fun v2 _ q2 => nxg (fun _ => trivial) fun v3 _ q3 => Z5 (fun _ => nn _ (by decide) (by decide)) fun c => U0 (Z5 (fun _ => nn _ (by decide) (by decide)) fun c2 => ?_)
 simp only [CJ, Bool.or_eq_false_iff, Bool.not_eq_eq_eq_not, Bool.not_false] at c
 obtain ⟨k1, k2⟩ := c
 have q3 := q3 (by simp [k1])
 rw [q2] at k1; rw [q3] at k2
 simp only [decide_eq_true_eq] at k1 k2
 have e : (a0.fc0.length : Int) = a0.fa5 * a0.fu := by
  have c2 : (a0.fc0.length : Int) = IntKind.i64.wrap (a0.fa5 * a0.fu) := by simpa using c2
  have : a0.fa5 = 1 ∨ a0.fa5 = 2 := by omega
  rcases this with d | d <;> rw [d] at c2 ⊢ <;> rw [Za (by omega)] at c2 <;> exact c2
 have l8 := cl8 e k1.1 h2 k2.1 h3
 refine AR (fun _ => ∀ x ∈ a0.fc0, oN x) (fun _ hp => ⟨fun _ => ⟨⟨k1, k2, e, by omega, hp⟩, l8⟩, by decide⟩) fun J hJ => lvi ⟨by decide, by simp, by simp⟩ ?_
 rintro i ⟨i0, i1, i2⟩ X hX
 refine Z5 (fun c => ?_) fun c => hJ _ ?_
 ·have ci : i < (a0.fc0.length : Int) := by simpa using c
  obtain ⟨x, hx, hm⟩ := Zp (l := a0.fc0) (n := i) i0 ci
  have e1 : (i + 1).toNat = i.toNat + 1 := by omega
  rw [Za (n := i + 1) (by omega)]
  refine ⟨x, hx, K2 trivial fun b _ qb => Z5 (fun _ => nn _ (by decide) (by decide)) fun c3 => hX _ ⟨by omega, by omega, ?_⟩ (by omega)⟩
  rw [e1, List.take_add_one, hm]
  rw [qb] at c3
  simp only [Bool.not_eq_eq_eq_not, Bool.not_false, decide_eq_true_eq] at c3
  exact ZS i2 (JC (by show x ≤ 1099511627776; omega))
 ·rw [List.take_of_length_le (by simp at c; omega)] at i2; exact i2)
theorem OB : A9 := ZM (V6.eq_1 _ _)
theorem Q2f [UO] [BF] [Et] [UP] [C2] : GU := ZM (W3.eq_1 _ _)
theorem Hf [Zv] [VK] [EV] [Un] : WP := fun {a0} => Gf (K8.eq_1 _) (fun h => by
 have hz := h
 obtain ⟨h1, h2, h3⟩ := h
 have nn : ∀ e : Int, (fun r : List Int × Int => (r.1.length ≤ 60000 ∧ bB r.1) ∧ r.1.getD 0 0 ≤ 2 ∧ r.1.getD 1 0 ≤ 4) ([], e) := fun e => ⟨⟨by simp, ZT⟩, by simp, by simp⟩
 refine K2 hz fun v _ hv => Z5 (fun _ => nn _) fun c => ?_
 obtain ⟨⟨d1, d2, d3, d4, d5⟩, d8⟩ := hv.1 (by simpa using c)
 refine K2 (by omega) fun u1 _ q1 => K2 (by omega) fun u2 _ q2 => ?_
 have e1 := (q1.2 (by omega)).1 (by omega)
 have e2 := (q2.2 (by omega)).1 (by omega)
 have b1 := q1.1.2.1
 have b2 := q2.1.2.1
 subst e1 e2
 refine ⟨by simp, K2 trivial fun u3 _ q3 => ⟨by have := q3.1; simp; omega, AR (fun p => (p.length ≤ 50000 ∧ bB p) ∧ ∃ t, p = a0.fa5 :: a0.fu :: t) (fun p hp => K2 trivial fun u4 _ q4 => ?_) fun J hJ => EG (fun s => ∃ t, s.1 = a0.fa5 :: a0.fu :: t) ⟨by simp, by simp, by have := q3.1; simp; omega, ZS (ZS b1 b2) q3.2⟩ ⟨u3, by simp⟩ ?_⟩⟩
 ·obtain ⟨⟨p1, p2⟩, t, rfl⟩ := hp
  exact ⟨by have := q4.1; omega, ⟨by have := q4.1; simp only [List.length_append]; omega, ZS p2 q4.2⟩, by simpa using h2, by simpa using h3⟩
 ·rintro ⟨l, i⟩ ⟨i0, i1, i2, i3⟩ ⟨t, e⟩ X hX
  dsimp only at *
  refine Z5 (fun c => ?_) fun c => hJ _ ⟨⟨by omega, i3⟩, t, e⟩
  have ci : i < (a0.fc0.length : Int) := by simpa using c
  obtain ⟨x, hx, hm⟩ := Zp (l := a0.fc0) (n := i) i0 ci
  have ox := d5 x (List.mem_of_getElem? hm)
  rw [Za (n := i + 1) (by omega)]
  exact ⟨x, hx, K2 (by omega) fun u _ q => ⟨by have := q.1.1; omega, hX _ ⟨by dsimp only; omega, by dsimp only; omega, by have := q.1.1; simp only [List.length_append]; omega, ZS i3 q.1.2.1⟩ ⟨t ++ u, by rw [e]; simp⟩ (by dsimp only; omega)⟩⟩)
theorem LQ [ZA] : AB := ZM (Jr.eq_1 _ _ _)
theorem LR [Kw] [ZB] [Aa] : AD := ZM (Jt.eq_1 _ _)
theorem Hg [Zv] [ZB] [EX] [Ax] : WR := ZM (Ka.eq_1 _ _)
theorem Q2g : DC := ZM (Ji.eq_1 _ _)
theorem SS : FJ := ZM (Yt.eq_1 _)
theorem MU : BI := ZM (JU.eq_1 _)
theorem Hh [ZX] [Ky] [Zw] [XT] : WU := ZM (Kd.eq_1 _)
theorem Ii [Zw] [Wp] [AP] [DD] [Ym] [DC] : Up := ZM (Kv.eq_1 _ _)
theorem Q6x [ZH] [KM] [EY] : Ib := ZM (Uk.eq_1 _ _)
theorem MV : U2 := ZM (J0.eq_1 _)
theorem Q6y [Vn] [XX] [U2] [YO] [BL] [UT] [WV] [Wt] [Ib] [Dc] : F0 := ZM (YX.eq_1 _ _)
theorem MW [X1] : U3 := fun {a0} {a1} {a2} => ZM (KZ.eq_1 _ _ _) (fun h => by
 obtain ⟨hz, hm, hl⟩ := h
 refine Z5 (fun c => fun hs => absurd c (by simp [hs.1])) fun c => ?_
 have e : (a2.length : Int) = (a1.fa9.length : Int) := by simpa using c
 refine AR (fun _ => True) (fun _ _ _ => rfl) fun J hJ => lvi ⟨by omega, by omega⟩ ?_
 rintro i ⟨i1, i2⟩ X hX
 refine Z5 (fun d => ?_) fun _ => hJ _ trivial
 have d2 : i < (a2.length : Int) := by simpa using d
 refine ixi ⟨i1, d2⟩ fun n _ hn hnm => K2 hz fun v _ hv => ?_
 obtain ⟨w, hw, hwm⟩ := Zp (l := a1.fa9) (n := i) i1 (by omega)
 refine ⟨w, fun _ => hw, Z5 (fun k => ?_) fun _ => U0 (hX _ ⟨?_, ?_⟩ ?_)⟩
 ·intro hs
  obtain ⟨p, hp, hq⟩ := hs.2 i.toNat n w hn hw.2
  rcases hv.2 rfl with ⟨h1, h2⟩ | ⟨p2, h1, h2, h3⟩
  ·rw [h1] at hp; cases hp
  ·rw [h1] at hp; cases hp
   simp [h3, h2, hq] at k
 all_goals (have := Za (n := i + 1) (by omega); rw [this]; omega))
theorem NL [YR] [Wt] [U2] : C7 := ZM (Vl.eq_1 _ _ _ _)
theorem Q6z : F2 := fun {a0} => ZM (Zo.eq_1 _) (fun _ => by
 simp only [C1]
 exact ixq (P := fun v => v.size ≤ 16) (by decide) ⟨tm0 (by omega), tm1 (by omega) (by decide)⟩ fun a _ _ _ ha => ha)
theorem Q2h : DI := nxb (Vs.eq_1 _)
theorem Qfz [C9] [F2] [UZ] [DF] [DG] [DI] [FQ] [FP] : NE := fun {a0} {a1} => Gf (AN.eq_1 _ _) (fun h => by
 obtain ⟨h0, h1⟩ := h
 have Z : ∀ (k : Int) (n o : ByteArray) (ns : List ByteArray) (p : Q7) (it : List QY) (co : List Int) (a b c d e f : Int) (q : Qs) (da : List Int), n.size ≤ 16 → o.size ≤ 16 → ns.length ≤ 3 → (∀ x ∈ ns, x.size ≤ 16) → zPa p → (it.length ≤ 100 ∧ ∀ x ∈ it, zI x) → co.length ≤ 4 → (da.length ≤ 80000 ∧ bB da) ∧ Gd da → zOn 1000000 (Qv.mk k n o ns p it co a b c d e f q da) := fun k n o ns p it co a b c d e f q da g1 g2 g3 g4 g5 g6 g7 g8 => ⟨by dsimp only; omega, by dsimp only; omega, by dsimp only; omega, by dsimp only; omega, g8.1.2, by dsimp only; omega, by dsimp only; omega, g6.2, fun x hx => by have := g4 x hx; omega, g5, g8.2⟩
 have E0 : (ByteArray.empty).size ≤ 16 := by simp
 have P0 : zPa (Q7.mk 0 0 0 0) := ⟨by show (0 : Int) ≤ 2; decide, by show (0 : Int) ≤ 4; decide⟩
 have D0 : (([] : List Int).length ≤ 80000 ∧ bB []) ∧ Gd [] := ⟨⟨by simp, ZT⟩, Gd.nil⟩
 have N0 : ([] : List ByteArray).length ≤ 3 := by simp
 have N1 : ∀ x ∈ ([] : List ByteArray), x.size ≤ 16 := ZT
 have I0 : ([] : List QY).length ≤ 100 ∧ ∀ x ∈ ([] : List QY), zI x := ⟨by simp, ZT⟩
 have C0 : ([] : List Int).length ≤ 4 := by simp
 have t5 := Int.tmod_nonneg 5 h0
 have t7 := Int.tmod_nonneg 7 h0
 simp only [bA1, bA3, bA7, IE]
 refine K2 h0 fun v1 _ _ => K2 (by rw [Za (by omega)]; omega) fun v2 _ _ => ?_
 have w7 : IntKind.i64.wrap (1 + QD .i64 v1 7 % 8) = 1 + QD .i64 v1 7 % 8 := Za (by omega)
 have w10 : IntKind.i64.wrap (1 + QD .i64 v1 10 % 2) = 1 + QD .i64 v1 10 % 2 := Za (by omega)
 have w11 : IntKind.i64.wrap (1 + QD .i64 v1 10 % 2 + QD .i64 v1 11 % 2) = 1 + QD .i64 v1 10 % 2 + QD .i64 v1 11 % 2 := Za (by omega)
 simp only [w7, w10, w11]
 refine AR (fun _ => True) (fun _ _ => ?_) fun J hJ => Z5 (fun _ => hJ _ trivial) fun _ => hJ _ trivial
 refine Z5 (fun _ => K2 trivial fun n _ hn => K2 trivial fun p _ hp => Z _ _ _ _ _ _ _ _ _ _ _ _ _ _ _ hn E0 N0 N1 hp I0 C0 D0) fun _ => Z5 (fun _ => K2 trivial fun n _ hn => Z _ _ _ _ _ _ _ _ _ _ _ _ _ _ _ hn E0 N0 N1 P0 I0 C0 D0) fun _ => Z5 (fun _ => K2 trivial fun n _ hn => K2 trivial fun o _ ho => Z _ _ _ _ _ _ _ _ _ _ _ _ _ _ _ hn ho N0 N1 P0 I0 C0 D0) fun _ => Z5 (fun _ => Z _ _ _ _ _ _ _ _ _ _ _ _ _ _ _ E0 E0 N0 N1 P0 I0 C0 D0) fun _ => Z5 (fun _ => K2 trivial fun n _ hn => K2 trivial fun q _ _ => Z _ _ _ _ _ _ _ _ _ _ _ _ _ _ _ hn E0 N0 N1 P0 I0 C0 D0) fun _ => ?_
 refine AR (fun _ => True) (fun _ _ => ?_) fun J hJ => Z5 (fun _ => hJ _ trivial) fun _ => Z5 (fun _ => hJ _ trivial) fun _ => hJ _ trivial
 refine Z5 (fun _ => K2 trivial fun n _ hn => ⟨⟨by omega, by omega⟩, K2 ⟨by omega, by omega⟩ fun it _ hi => K2 trivial fun c _ hc => Z _ _ _ _ _ _ _ _ _ _ _ _ _ _ _ hn E0 N0 N1 P0 ⟨by omega, hi.2⟩ hc D0⟩) fun _ => Z5 (fun _ => K2 trivial fun n _ hn => K2 trivial fun o _ ho => K2 trivial fun c _ hc => Z _ _ _ _ _ _ _ _ _ _ _ _ _ _ _ hn ho N0 N1 P0 I0 hc D0) fun _ => Z5 (fun _ => K2 trivial fun n _ hn => K2 trivial fun o _ ho => K2 trivial fun c _ hc => Z _ _ _ _ _ _ _ _ _ _ _ _ _ _ _ hn ho N0 N1 P0 I0 hc D0) fun _ => ?_
 refine AR (fun _ => True) (fun _ _ => ?_) fun J hJ => Z5 (fun _ => hJ _ trivial) fun _ => hJ _ trivial
 refine Z5 (fun _ => K2 trivial fun n _ hn => K2 trivial fun o _ ho => K2 trivial fun m _ hm => U0 ⟨⟨by omega, by simp; omega⟩, Z _ _ _ _ _ _ _ _ _ _ _ _ _ _ _ E0 E0 (List.length_take_le' _ _) (fun x hx => (MN hn (MN ho (JC hm)) : ∀ x ∈ [n, o, m], x.size ≤ 16) x (List.mem_of_mem_take hx)) P0 I0 C0 D0⟩) fun _ => Z5 (fun _ => K2 trivial fun q _ _ => Z _ _ _ _ _ _ _ _ _ _ _ _ _ _ _ E0 E0 N0 N1 P0 I0 C0 D0) fun _ => Z5 (fun _ => Z _ _ _ _ _ _ _ _ _ _ _ _ _ _ _ E0 E0 N0 N1 P0 I0 C0 D0) fun _ => Z5 (fun _ => Z _ _ _ _ _ _ _ _ _ _ _ _ _ _ _ E0 E0 N0 N1 P0 I0 C0 D0) fun _ => Z5 (fun _ => Z _ _ _ _ _ _ _ _ _ _ _ _ _ _ _ E0 E0 N0 N1 P0 I0 C0 D0) fun _ => Z5 (fun _ => Z _ _ _ _ _ _ _ _ _ _ _ _ _ _ _ E0 E0 N0 N1 P0 I0 C0 D0) fun _ => Z5 (fun _ => Z5 (fun _ => Z _ _ _ _ _ _ _ _ _ _ _ _ _ _ _ E0 E0 N0 N1 P0 I0 C0 D0) fun _ => K2 trivial fun n _ hn => ⟨⟨by omega, by omega⟩, K2 trivial fun s _ hs => K2 hs fun d _ hd => Z _ _ _ _ _ _ _ _ _ _ _ _ _ _ _ hn E0 N0 N1 P0 I0 C0 hd⟩) fun _ => Z _ _ _ _ _ _ _ _ _ _ _ _ _ _ _ E0 E0 N0 N1 P0 I0 C0 D0)
end Go.Proofs.YtimfmcpbkdpmoaaGreat
