/- Parts of the proof, laid together. No condition. -/
import Derived.Test.YtimfmcpbkdpmoaaGreatKB6
set_option linter.unusedVariables false
set_option linter.unusedSimpArgs false
set_option maxRecDepth 100000
set_option maxHeartbeats 4000000
namespace Go.Proofs.YtimfmcpbkdpmoaaGreat
open Go.RowKit
theorem R4 : Bq := ZM (ZE.eq_1 _ _ _)
theorem R5 : Br := ZM (Zq.eq_1 _ _ _)
theorem SK : ZA := ZM (QC.eq_1 _ _ _)
theorem H2 [Bq] : Wn := ZM (ZY.eq_1 _)
theorem SL : Wy := fun {a0} {a1} => ZM (JG.eq_1 _ _) (fun h => by
 refine joi (Bp (I := fun n s => ∃ j : Nat, s = (j : Int) ∧ j ≤ a0.f9.length ∧ n = a0.f9.length - j ∧ ∀ p ∈ a0.f9.take j, p.fc7 ≠ a1) ?_ (k := a0.f9.length) ⟨0, rfl, by omega, by omega, by simp⟩)
 rintro n s ⟨j, rfl, hj, hn, hi⟩ X hX
 have w : IntKind.i64.wrap ((j : Int) + 1) = ((j + 1 : Nat) : Int) := by rw [Za (by omega)]; omega
 rw [w]
 refine Z5 (fun c => ?_) fun c => ?_
 ·have hj2 : j < a0.f9.length := by simpa using c
  refine ⟨a0.f9[j], G3 hj2, Z5 (fun d => ?_) fun d => hX (a0.f9.length - (j + 1)) _ (by omega) ⟨j + 1, rfl, by omega, rfl, fun p hp => ?_⟩⟩
  ·have e : a0.f9[j].fc7 = a1 := by simpa using d
   exact ⟨⟨by omega, by omega, fun _ => ⟨_, List.getElem_mem hj2, e⟩⟩, fun h => by omega, fun _ => ⟨_, by simp [hj2], e⟩⟩
  ·rw [List.take_add_one, List.getElem?_eq_getElem hj2] at hp
   rcases List.mem_append.1 hp with hp | hp
   ·exact hi p hp
   ·simp at hp; subst hp; simpa using d
 ·have e : j = a0.f9.length := by simp at c; omega
  subst e
  rw [List.take_length] at hi
  exact ⟨⟨by omega, by omega, fun h => by omega⟩, fun _ => hi, fun h => by omega⟩)
theorem R6 [Yl] : Ej := ZM (XF.eq_1 _ _)
theorem IK [x_ref14_Holds : Wx] : UN := fun {a0} {a1} => ZM (KV.eq_1 _ _) (fun h => joi (by
 refine Qb2 (l := a0) (by omega) (veF a1) (fun j x hx hix hf X hX => ?_) (fun e => ⟨⟨by simp, fun c => by simp at c⟩, fun _ => e, fun c => by simp at c⟩)
 obtain ⟨v, hv, e⟩ := (x_ref14_Holds (a0 := x.fd0) (a1 := x.fTo) (a2 := a1)).go trivial
 have hj := (List.getElem?_eq_some_iff.1 hx).1
 refine ⟨x, hix, x, hix, v, hv, Z5 (fun c => ⟨⟨by simp, fun _ => by dsimp only; omega⟩, fun c => by simp at c, fun _ => ⟨x, by dsimp only; rw [Q20]; exact hx, hf (by unfold veF; rw [← e]; exact c)⟩⟩) fun c => hX (by unfold veF; rw [← e]; exact c)⟩))
theorem SN [El] : JJ := ZM (Zz.eq_1 _)
theorem SO [x_ref14_Covers : Um] : FD := fun {a0} {a1} => ZM (YB.eq_1 _ _) (fun h => by
 obtain ⟨⟨hl, hp⟩, hz⟩ := h
 refine AR (fun p => (p.length ≤ a0.length ∧ ∀ x ∈ p, zB x) ∧ (∀ x ∈ p, x ∈ a0) ∧ p.filter LG = a0.filter LG) (fun p h => h) fun J hJ => ?_
 refine Bp (I := fun n (s : List Qp × Int) => ∃ j : Nat, s.2 = (j : Int) ∧ j ≤ a0.length ∧ n = a0.length - j ∧ s.1.length ≤ j ∧ (∀ x ∈ s.1, x ∈ a0) ∧ s.1.filter LG = (a0.take j).filter LG) ?_ (k := a0.length) ⟨0, rfl, by omega, by omega, by simp, ZT, by simp⟩
 rintro n ⟨l, i⟩ ⟨j, hi, hj, hn, hlj, hm, hf⟩ X hX
 dsimp only at *
 subst hi
 have w : IntKind.i64.wrap ((j : Int) + 1) = ((j + 1 : Nat) : Int) := by rw [Za (by omega)]; omega
 refine Z5 (fun c => ?_) fun c => hJ _ ⟨⟨by omega, Qli hz hm⟩, hm, ?_⟩
 ·have hj2 : j < a0.length := by simpa using c
  have hx : a0[j]? = some a0[j] := by simp [hj2]
  have ht : a0.take (j + 1) = a0.take j ++ [a0[j]] := List.take_succ_eq_append_getElem hj2
  obtain ⟨b, hb, _⟩ := (x_ref14_Covers (a0 := a1) (a1 := a0[j].fd0) (a2 := a0[j].fTo)).go hp
  rw [w]
  refine AR (fun p => p.length ≤ j + 1 ∧ (∀ x ∈ p, x ∈ a0) ∧ p.filter LG = (a0.take (j + 1)).filter LG) (fun p hp => hX (a0.length - (j + 1)) _ (by omega) ⟨j + 1, rfl, by omega, rfl, hp⟩) fun K hK => ⟨a0[j], G3 hj2, a0[j], fun _ => G3 hj2, a0[j], fun _ => G3 hj2, b, fun _ => hb, Z5 (fun c => ⟨a0[j], G3 hj2, by simp; omega, hK _ ⟨by simp; omega, ZS hm (JC (List.getElem_mem hj2)), ?_⟩⟩) fun c => hK _ ⟨by omega, hm, ?_⟩⟩
  ·rw [ht, List.filter_append, List.filter_append, hf]
  ·have : LG a0[j] = false := by
    unfold LG
    simp only [CJ, Bool.or_eq_false_iff] at c
    exact c.1
   rw [ht, List.filter_append, hf]
   simp [this]
 ·have : j = a0.length := by simp at c; omega
  subst this
  rw [hf, List.take_length])
theorem SP : Cq := fun {a0} {a1} => ZM (Xn.eq_1 _ _) (fun h => by
 obtain ⟨hl, hb⟩ := h
 refine Z5 (fun c => ⟨⟨ZT, by simp⟩, fun h => by simp at c; omega⟩) fun c => U0 ?_
 have c1 : 1 ≤ a1 ∧ a1 ≤ 1024 := by simp only [CJ, Bool.or_eq_false_iff, decide_eq_false_iff_not] at c; omega
 refine AR (fun p => ((∀ x ∈ p, zL x) ∧ p.length ≤ a0.length) ∧ p.flatten = a0 ∧ ∀ x ∈ p, (x.length : Int) ≤ a1 ∧ x ≠ []) (fun p hp => ⟨hp.1, fun _ => hp.2⟩) fun J hJ => EG (fun s => s.1.flatten = a0.take s.2.toNat ∧ ∀ x ∈ s.1, (x.length : Int) ≤ a1 ∧ x ≠ []) ⟨by simp, by simp, by simp, ZT⟩ (by simp) ?_
 rintro ⟨l, i⟩ ⟨i0, i1, i2, i3⟩ ⟨e, k⟩ X hX
 dsimp only at *
 refine Z5 (fun c => ?_) fun c => hJ _ ⟨⟨i3, i2⟩, by rw [e, List.take_of_length_le (by simp at c; omega)], k⟩
 have ci : i < (a0.length : Int) := by simpa using c
 have w : IntKind.i64.wrap (i + a1) = i + a1 := Za (by omega)
 rw [w]
 have hm : JD (i + a1) (a0.length : Int) = min (i + a1) (a0.length : Int) := IE _ _
 rw [hm]
 have ln : ((List.drop i.toNat (List.take (min (i + a1) (a0.length : Int)).toNat a0)).length : Int) = min (i + a1) (a0.length : Int) - i := by rw [List.length_drop, List.length_take]; omega
 have bb : bB (List.drop i.toNat (List.take (min (i + a1) (a0.length : Int)).toNat a0)) := Og (PX hb)
 have fl : List.take i.toNat a0 ++ List.drop i.toNat (List.take (min (i + a1) (a0.length : Int)).toNat a0) = List.take (i + a1).toNat a0 := by
  have e1 : List.take i.toNat a0 = List.take i.toNat (List.take (min (i + a1) (a0.length : Int)).toNat a0) := by rw [List.take_take]; congr 1; omega
  rw [e1, List.take_append_drop]
  by_cases g : i + a1 ≤ (a0.length : Int)
  ·congr 1; omega
  ·rw [List.take_of_length_le (by omega), List.take_of_length_le (by omega)]
 generalize List.drop i.toNat (List.take (min (i + a1) (a0.length : Int)).toNat a0) = d at *
 have ll : l.length + 1 ≤ a0.length := by omega
 exact ⟨⟨i0, by omega, by omega⟩, by omega, U0 ⟨by simp; omega, hX _ ⟨by dsimp only; omega, by simp; omega, by simp; omega, ZS i3 (JC ⟨by omega, bb⟩)⟩ ⟨by dsimp only; rw [List.flatten_append, e]; simpa using fl, ZS k (JC ⟨by omega, fun h => by subst h; simp at ln; omega⟩)⟩ (by dsimp only; omega)⟩⟩)
theorem Oy [Bq] [By] : Y2 := ZM (KA.eq_1 _ _)
theorem Q28 : Dx := ZM (Yi.eq_1 _)
theorem R7 [BA] [WO] [x_ref14_Covers : Um] [D6] : Es := fun {a0} {a1} {a2} => ZM (XL.eq_1 _ _ _) (fun h => by
 have hz := h
 obtain ⟨z1, z2, z3, z4, z5, z6, z7, z8, z9, hx⟩ := h
 obtain ⟨c1, c2, c3, c4, c5, c6, c7⟩ := z1
 obtain ⟨y1, y2, y3⟩ := z9
 have no : ∀ e : Int, (fun r : Q2 × Int => UC r.1 ∧ KS a0 r.1 ∧ ∀ a, EF r.1.fa1 a ≤ EF a0.fa1 a) (a0, e) := fun e => ⟨hz, fun hs => ⟨Kp.refl _, hs⟩, fun _ => Nat.le_refl _⟩
 refine K2 (by omega) fun i _ hi => Z5 (fun _ => no _) fun ci => ?_
 have ci2 : 0 ≤ i := by simpa using ci
 obtain ⟨o, ho, _⟩ := hi.2.2 ci2
 have hol := (List.getElem?_eq_some_iff.1 ho).1
 have zo := z4 o (List.mem_of_getElem? ho)
 have hix : ix a0.fa1 i o := ⟨ci2, ho⟩
 refine ⟨o, hix, K2 ⟨by omega, zo.2⟩ fun q _ hq => Z5 (fun _ => no _) fun cq => ?_⟩
 have q0 : q.2.2 = 0 := by simpa using cq
 obtain ⟨⟨⟨ql, qz, qo⟩, hq2⟩, hq3⟩ := hq
 obtain ⟨xa, xb, ex1, ex2⟩ := hq3 q0
 obtain ⟨qm, qf⟩ := hq2 q0
 obtain ⟨b, hb, _⟩ := (x_ref14_Covers (a0 := a0.fc8) (a1 := q.2.1.fd0) (a2 := q.2.1.fTo)).go (by omega)
 refine ⟨b, fun _ => hb, Z5 (fun _ => no _) fun c => ?_⟩
 have qt : q.2.1.fTo ≠ 0 := by
  simp only [CJ, Bool.or_eq_false_iff, beq_eq_false_iff_ne] at c; exact c.1
 refine U0 ?_
 have rs := fun (os : List Qc) (hos : os = a0.fa1.set i.toNat (Qc.mk o.fID (xa ++ xb)) ∨ (xa ++ xb = [] ∧ os = a0.fa1.eraseIdx i.toNat)) => Qtl ho ex1 hos
 have r0 := (rs _ (.inl rfl)).2.2.1
 refine AR (fun p => p.1 = q.1 ∧ p.2.1 ≤ 16384 ∧ (p.2.2.length ≤ 16384 ∧ ∀ x ∈ p.2.2, MK x) ∧ Xr a0 (a0.fa1.set i.toNat (Qc.mk o.fID (xa ++ xb))) [] p.2.1 p.2.2) ?_ fun J hJ => ?_
 ·rintro ⟨l, cap, pg⟩ ⟨rfl, g1, ⟨g2, g3⟩, g5⟩
  dsimp only at *
  refine ⟨by omega, o, hix, U0 (AR (fun os => os = a0.fa1.set i.toNat (Qc.mk o.fID q.1) ∨ (q.1 = [] ∧ os = a0.fa1.eraseIdx i.toNat)) (fun os hos => ?_) fun K hK => Z5 (fun c => ?_) fun _ => hK _ (.inl rfl))⟩
  ·have zl : (os.length : Int) ≤ a0.f7 ∧ ∀ x ∈ os, zO a0.f7 x := by
    rcases hos with rfl | ⟨e, rfl⟩
    ·exact ⟨by simpa using z3, XS z4 ⟨by have := zo.1; dsimp only; omega, qz⟩⟩
    ·have sub : (a0.fa1.eraseIdx i.toNat).Sublist a0.fa1 := List.eraseIdx_sublist _ _
     exact ⟨by have := sub.length_le; omega, fun x hx => z4 x (sub.subset hx)⟩
   have hos2 := hos
   rw [ex2] at hos2
   have r1 := rs os hos2
   have g6 : Xr a0 os [] cap pg := { rx := g5.rx.of_cnt fun n => ?_, hs := fun n d k => g5.hs n d (k.imp (fun k => ?_) id), ps := g5.ps, cp := g5.cp, rb := g5.rb }
   ·exact ⟨⟨⟨c1, c2, c3, c4, c5, c6, c7⟩, z2, zl.1, zl.2, z5, z6, z7, z8, ⟨g2, g1, g3⟩, hx.remove r1.1 r1.2.1 g6⟩, fun hs => Qfy hs ho qm (qf qt) hos r1.2.2.2, r1.2.2.2⟩
   ·rcases hos2 with rfl | ⟨e, rfl⟩
    ·exact Nat.le_refl _
    ·have h1 := Ph (o' := Qc.mk o.fID (xa ++ xb)) ho n
     have h2 := Q22 ho n
     omega
   ·rcases hos2 with rfl | ⟨e, rfl⟩
    ·exact k
    ·have h1 := Ph (o' := Qc.mk o.fID (xa ++ xb)) ho n
     have h2 := Q22 ho n
     have := List.count_pos_iff.2 k
     exact List.count_pos_iff.1 (by omega)
  ·have el : q.1 = [] := by simpa using c
   have w : IntKind.i64.wrap (i + 1) = i + 1 := Za (by omega)
   rw [w]
   simp only [List.length_map, List.length_set, List.length_take, List.length_drop]
   refine ⟨⟨by omega, by omega⟩, ⟨by omega, by omega⟩, ⟨by omega, by omega⟩, hK _ (.inr ⟨el, ?_⟩)⟩
   rw [List.eraseIdx_eq_take_drop_succ]
   have e1 : (i + 1).toNat = i.toNat + 1 := by omega
   rw [e1, List.take_set_of_le (by omega), List.drop_set_of_lt (by omega)]
   simp only [Nat.zero_add]
   congr 1
   refine List.take_of_length_le ?_
   rw [List.length_drop]
   exact Nat.le_refl _
 ·refine EG (fun s => Xr a0 (a0.fa1.set i.toNat (Qc.mk o.fID (xa ++ xb))) (q.2.1.f9.drop s.2.1.toNat) s.2.2.1 s.2.2.2) ⟨rfl, by simp, by simp, y2, y1, y3⟩ (Xr.start hx (by simpa using r0)) ?_
  rintro ⟨l, k, cap, pg⟩ ⟨i1, i2, i3, i4, i5, i6⟩ g X hX
  dsimp only at *
  refine Z5 (fun c => ?_) fun c => hJ _ ⟨i1, i4, ⟨i5, i6⟩, by rw [List.drop_eq_nil_of_le (by simp at c; omega)] at g; exact g⟩
  have ck : k < (q.2.1.f9.length : Int) := by simpa using c
  obtain ⟨n, hn, hnm⟩ := Zp (l := q.2.1.f9) (n := k) i2 ck
  have w : IntKind.i64.wrap (k + 1) = k + 1 := Za (by omega)
  rw [w]
  have ed : q.2.1.f9.drop k.toNat = n :: q.2.1.f9.drop (k + 1).toNat := by
   have kb := (List.getElem?_eq_some_iff.1 hnm).1
   have e1 : (k + 1).toNat = k.toNat + 1 := by omega
   rw [e1, ← (List.getElem?_eq_some_iff.1 hnm).2, List.getElem_cons_drop]
  rw [ed] at g
  refine ⟨n, hn, K2 ⟨i5, i4, i6⟩ fun u _ hu => hX _ ⟨i1, by dsimp only; omega, by dsimp only; omega, hu.1.2.1, hu.1.1, hu.1.2.2⟩ (Xr.rel (a := Qq.mk cap pg) g hu.2 ⟨z2.1, by omega⟩) (by dsimp only; omega)⟩)
theorem Q29 : KM := ZM (ZF.eq_1 _)
theorem NJ [Bs] [GT] [JJ] [FG] [XX] [V1] : G5 := ZM (JB.eq_1 _)
theorem G6 [ZA] [KM] : Zw := ZM (QS.eq_1 _)
theorem IL [Wo] : UP := ZM (KR.eq_1 _ _)
theorem LM [Kw] [VK] [Un] : Az := ZM (Jo.eq_1 _)
theorem LN [ZH] [VK] [Un] [CL] : AA := fun {a0} => Gf (Jq.eq_1 _) (fun h => by
 have hz := h
 obtain ⟨h1, h2, h3⟩ := h
 have nn : ∀ e : Int, (fun r : List Int × Int => (r.1.length ≤ 60000 ∧ bB r.1) ∧ r.1.getD 0 0 ≤ 4) ([], e) := fun e => ⟨⟨by simp, ZT⟩, by simp⟩
 refine K2 hz fun v _ hv => Z5 (fun _ => nn _) fun c => ?_
 obtain ⟨⟨d1, d2⟩, d3, d4, d5, d6, d7⟩ := hv.1 (by simpa using c)
 refine K2 (by omega) fun u1 _ q1 => ?_
 have e1 := (q1.2 (by omega)).1 (by omega)
 have b1 := q1.1.2.1
 subst e1
 refine K2 (by omega) fun u2 _ q2 => ⟨by have := q2.1.1; simp; omega, K2 (by omega) fun u3 _ q3 => ⟨by have := q2.1.1; have := q3.1.1; simp; omega, K2 trivial fun u4 _ q4 => ⟨by have := q2.1.1; have := q3.1.1; have := q4.1; simp; omega, K2 (by omega) fun u5 _ q5 => ⟨by have := q2.1.1; have := q3.1.1; have := q4.1; have := q5.1.1; simp; omega, AR (fun p => (p.length ≤ 60000 ∧ bB p) ∧ ∃ t, p = a0.fu :: t) (fun p hp => ?_) fun J hJ => EG (fun s => ∃ t, s.1 = a0.fu :: t) ⟨by simp, by simp, by have := q2.1.1; have := q3.1.1; have := q4.1; have := q5.1.1; simp; omega, ZS (ZS (ZS (ZS b1 q2.1.2.1) q3.1.2.1) q4.2) q5.1.2.1⟩ ⟨u2 ++ u3 ++ u4 ++ u5, by simp⟩ ?_⟩⟩⟩⟩
 ·obtain ⟨⟨p1, p2⟩, t, rfl⟩ := hp
  exact ⟨⟨p1, p2⟩, by simpa using h3⟩
 ·rintro ⟨l, i⟩ ⟨i0, i1, i2, i3⟩ ⟨t, e⟩ X hX
  dsimp only at *
  refine Z5 (fun c => ?_) fun c => hJ _ ⟨⟨by omega, i3⟩, t, e⟩
  have ci : i < (a0.fa8.length : Int) := by simpa using c
  obtain ⟨y, hy, hym⟩ := Zp (l := a0.fa8) (n := i) i0 ci
  have zy := d6 y (List.mem_of_getElem? hym)
  rw [Za (n := i + 1) (by omega)]
  refine AR (fun p => ((p.length : Int) ≤ 100 + 1400 * (i + 1) ∧ bB p) ∧ ∃ t, p = a0.fu :: t) (fun p hp => hX _ ⟨by dsimp only; omega, by dsimp only; omega, hp.1.1, hp.1.2⟩ hp.2 (by dsimp only; omega)) fun K hK => ⟨y, hy, K2 (by omega) fun u _ q => ⟨by have := q.1.1; omega, EG (fun s => ∃ t, s.1 = a0.fu :: t) ⟨by simp, by simp, by have := q.1.1; simp only [List.length_append]; omega, ZS i3 q.1.2.1⟩ ⟨t ++ u, by rw [e]; simp⟩ ?_⟩⟩
  rintro ⟨l2, k⟩ ⟨k0, k1, k2, k3⟩ ⟨t2, e2⟩ Y hY
  dsimp only at *
  have zl := zy.1
  refine ⟨y, hy, Z5 (fun c => ?_) fun c => hK _ ⟨⟨by omega, k3⟩, t2, e2⟩⟩
  have ck : k < (y.length : Int) := by simpa using c
  obtain ⟨z, hz, hzm⟩ := Zp (l := y) (n := k) k0 ck
  have oz : z.size ≤ 32 := zy.2 z (List.mem_of_getElem? hzm)
  rw [Za (n := k + 1) (by omega)]
  exact ⟨y, hy, z, hz, K2 (by omega) fun w _ qw => ⟨by have := qw.1; omega, hY _ ⟨by dsimp only; omega, by dsimp only; omega, by have := qw.1; simp only [List.length_append]; omega, ZS k3 qw.2⟩ ⟨t2 ++ w, by rw [e2]; simp⟩ (by dsimp only; omega)⟩⟩)
theorem NK : UA := ZM (JA.eq_1 _)
theorem SQ [ZA] [KM] [LI] [Dy] [EW] : FI := ZM (Ys.eq_1 _ _ _ _)
theorem Q2a : Dz := ZM (Xc.eq_1 _)
theorem Q2b [VK] [D8] : UB := fun {a0} {a1} => Gf (Vt.eq_1 _ _)
theorem LO : Ky := ZM (Zk.eq_1 _)
theorem LP [BJ] : XT := ZM (K1.eq_1 _)
theorem R8 [Kx] [KM] [Ym] [Dz] : BL := ZM (ZO.eq_1 _ _)
theorem Hc [ZN] [FL] : WV := ZM (Kg.eq_1 _)
theorem R9 [Vn] [VK] [UB] [Az] [WP] [UQ] [C3] [WQ] [AA] : YP := fun {a0} => Gf (Jb.eq_1 _) (fun h => by
 have hz := h
 obtain ⟨z1, z2, z3, z4, z5⟩ := h
 refine K2 hz fun v _ hv => Z5 (fun _ => ⟨⟨by simp, ZT⟩, Gb.nil⟩) fun c => ?_
 have k := hv.1 (by simpa using c)
 refine AR (fun p => (p.length ≤ 60000 ∧ bB p) ∧ hd (a0.fk.fa0 :: p)) (fun p hp => K2 (by omega) fun u _ q => ?_) fun J hJ => ?_
 ·have e := (q.2 (by omega)).1 (by omega)
  have qb := q.1.2.1
  subst e
  exact ⟨by simp; omega, K2 ⟨by simp; omega, ZS qb hp.1.2, by decide, by decide⟩ fun f _ qf => ⟨⟨by have := qf.1.1; simp only [List.length_append, List.length_cons, List.length_nil] at this; dsimp only; omega, qf.1.2.1⟩, Gb.fr qf.2 (by simp; omega) (by simpa using hp.2)⟩⟩
 ·refine Z5 (fun c => K2 trivial fun w _ hw => hJ _ ⟨hw, Qfw (fun h => ?_) (fun h => ?_)⟩) fun _ => Z5 (fun c => K2 z1 fun w _ hw => hJ _ ⟨hw.1, Qfw (fun _ => hw.2) (fun h => ?_)⟩) fun c2 => Z5 (fun c => K2 z2 fun w _ hw => hJ _ ⟨hw, Qfw (fun h => ?_) (fun h => ?_)⟩) fun _ => Z5 (fun c => K2 z3 fun w _ hw => hJ _ ⟨hw, Qfw (fun h => ?_) (fun h => ?_)⟩) fun _ => Z5 (fun c => K2 z4 fun w _ hw => hJ _ ⟨hw, Qfw (fun h => ?_) (fun h => ?_)⟩) fun _ => K2 z5 fun w _ hw => hJ _ ⟨hw.1, Qfw (fun h => by simp [h] at c2) fun _ => hw.2⟩
  all_goals (simp only [beq_iff_eq] at c; omega))
theorem MR [V2] : Yn := ZM (Kj.eq_1 _ _ _)
theorem Hd [UY] : WW := fun {a0} {a1} {a2} => Gf (Kh.eq_1 _ _ _)
theorem Ra [EZ] [YP] [BD] [Yn] [GQ] [V2] [Ur] [Er] [X1] [FF] [YR] [F0] : EA := fun {a0} {a1} => Gf (XQ.eq_1 _ _)
theorem Q2c [FO] [Ex] [Ey] [Ez] [GY] [Dd] [Ic] [Ur] [WW] [AI] [C7] [UU] [EA] : MP := fun {a0} {a1} => ZM (Wl.eq_1 _ _) (fun h => by
 obtain ⟨hz, s1, s2, s3, s4, s5, s6⟩ := h
 have hk : a0.fj.fb0 ≤ 64 := by
  obtain ⟨z1, _⟩ := hz
  obtain ⟨c1, c2, c3, c4, c5, c6, c7⟩ := z1
  omega
 have hcf : Qjq a0.fj := hz.1
 refine Z5 (fun c => ?_) fun c => ?_
 ·have c1 : a1.fOp.fa0 = 6 := by simpa using c
  exact K2 ⟨hz, hk, s4, s5, s6 c1⟩ fun v _ hv => ⟨hv.1.1, ⟨s1, s2, s3⟩, ⟨rfl, rfl, rfl, rfl⟩, fun _ => hv.1.2, hv.2.1, fun _ => hv.2.2, fun e => by omega, fun e => by omega, fun e => by omega, fun e => by omega, fun e => by omega, fun e => by omega, fun e => absurd c1 e⟩
 have c6 : a1.fOp.fa0 ≠ 6 := by simpa using c
 have pk : ∀ (r : Qi) (sn : List QJ) (cu : List Zg), ML r → (sn.length = 4 ∧ cu.length = 4 ∧ ∀ y ∈ sn, zSn y) → VJ a0 r → StP a0 a1 r → (fun r : Qi × Q6 => ML r.1 ∧ (r.2.fd1.length = 4 ∧ r.2.ff7.length = 4 ∧ ∀ y ∈ r.2.fd1, zSn y) ∧ (r.2.fOp = a1.fOp ∧ r.2.fa = a1.fa ∧ r.2.ff6 = a1.ff6 ∧ r.2.fd8 = a1.fd8) ∧ (a1.fOp.fa0 = 6 → r.1.fa.fd7 ≤ (a1.fOp.fb3.length : Int)) ∧ VJ a0 r.1 ∧ StP a0 a1 r.1) (r, Q6.mk a1.ff6 a1.fOp a1.fa a1.fd8 sn cu) := fun r sn cu h1 h2 h3 h4 => ⟨h1, h2, ⟨rfl, rfl, rfl, rfl⟩, fun e => absurd e c6, h3, h4⟩
 have s123 : a1.fd1.length = 4 ∧ a1.ff7.length = 4 ∧ ∀ y ∈ a1.fd1, zSn y := ⟨s1, s2, s3⟩
 refine AR (fun p => (p = true → a1.fOp.fa0 = 7 ∨ a1.fOp.fa0 = 8) ∧ (p = false → a1.fOp.fa0 ≠ 7 ∧ a1.fOp.fa0 ≠ 8)) ?_ fun J hJ => Z5 (fun d => ?_) fun d => ?_
 ·rintro p ⟨p1, p2⟩
  refine Z5 (fun d => ?_) fun d => ?_
  ·have := p1 d
   exact K2 ⟨hz, hk, s4, s5⟩ fun v _ hv => pk v _ _ hv.1 s123 hv.2.1 ⟨fun e => by omega, fun _ => hv.2.2.1, hv.2.2.2, fun e => by omega, fun e => by omega, fun e => by omega, fun e => by omega, fun _ _ => by omega⟩
  have c78 := p2 d
  refine Z5 (fun d => ?_) fun d => ?_
  ·have e : a1.fOp.fa0 = 15 := by simpa using d
   exact K2 ⟨hz, hcf, s1, s3, s5⟩ fun v _ hv => pk v _ _ hv.1 s123 hv.2.1 ⟨fun e => by omega, fun e => by omega, fun e => by omega, fun e => by omega, fun _ => hv.2.2 rfl, fun e => by omega, fun e => by omega, fun _ _ _ _ h => absurd e h⟩
  have c15 : a1.fOp.fa0 ≠ 15 := by simpa using d
  refine Z5 (fun d => ?_) fun d => ?_
  ·have e : a1.fOp.fa0 = 16 := by simpa using d
   exact K2 ⟨hz, hcf, s4, s5⟩ fun v _ hv => pk v _ _ hv.1 s123 hv.2.1 ⟨fun e => by omega, fun e => by omega, fun e => by omega, fun e => by omega, fun e => by omega, fun _ => hv.2.2, fun e => by omega, fun _ _ _ _ _ h => absurd e h⟩
  have c16 : a1.fOp.fa0 ≠ 16 := by simpa using d
  refine Z5 (fun d => ?_) fun d => ?_
  ·have e : a1.fOp.fa0 = 9 := by simpa using d
   refine K2 ⟨hz, hk, s1, s4, s5⟩ fun v _ hv => AR (fun p => p.length = 4 ∧ ∀ y ∈ p, zSn y) (fun p hp => pk v _ _ hv.1 ⟨hp.1, s2, hp.2⟩ hv.2.1 ⟨fun e => by omega, fun e => by omega, fun e => by omega, fun _ => hv.2.2, fun e => by omega, fun e => by omega, fun e => by omega, fun _ _ _ h => absurd e h⟩) fun J hJ => U0 (Z5 (fun _ => ?_) fun _ => hJ _ ⟨s1, s3⟩)
   refine ⟨by omega, ixi ⟨s5.1.1, by have := s5.1.2; omega⟩ fun x _ _ _ => U0 (hJ _ ⟨by simp [s1], ?_⟩)⟩
   exact XS s3 s4.1
  have c9 : a1.fOp.fa0 ≠ 9 := by simpa using d
  refine Z5 (fun d => ?_) fun d => ?_
  ·have e : a1.fOp.fa0 = 17 := by simpa using d
   exact K2 ⟨hz, s5⟩ fun v _ hv => pk v _ _ hv.1 s123 hv.2.1 ⟨fun e => by omega, fun e => by omega, fun e => by omega, fun e => by omega, fun e => by omega, fun e => by omega, fun _ => hv.2.2, fun _ _ _ _ _ _ h => absurd e h⟩
  have c17 : a1.fOp.fa0 ≠ 17 := by simpa using d
  have ot : ∀ r : Qi, r.fg3 = true → StP a0 a1 r := fun r hr => ⟨fun e => by omega, fun e => by omega, fun e => by omega, fun e => by omega, fun e => by omega, fun e => by omega, fun e => by omega, fun _ _ _ _ _ _ _ => hr⟩
  refine Z5 (fun d => ?_) fun d => ?_
  ·exact K2 ⟨hz, s1, s3⟩ fun u _ hu => K2 ⟨hz, hu⟩ fun v _ hv => pk v _ _ hv.1 s123 (VJ.o hv.2.1 (KS.refl _)) (ot v hv.2.2)
  refine Z5 (fun d => ?_) fun d => ?_
  ·exact K2 ⟨hz, s1, s3⟩ fun u _ hu => K2 ⟨hu.1.1, hu.1.2.2.2⟩ fun v _ hv => pk v _ _ hv.1 ⟨hu.1.2.1, s2, hu.1.2.2.1⟩ (VJ.o hv.2.1 hu.2) (ot v hv.2.2)
  refine Z5 (fun d => ?_) fun d => ?_
  ·exact K2 ⟨hz, s1, s3, s2⟩ fun u _ hu => U0 (K2 ⟨hu.1.1, hu.1.2.2⟩ fun v _ hv => pk v _ _ hv.1 ⟨s1, hu.1.2.1, s3⟩ (VJ.o hv.2.1 hu.2) (ot v hv.2.2))
  refine Z5 (fun d => ?_) fun d => ?_
  ·exact K2 ⟨hz, s2⟩ fun u _ hu => U0 (K2 ⟨hz, hu.2⟩ fun v _ hv => pk v _ _ hv.1 ⟨s1, hu.1, s3⟩ (VJ.o hv.2.1 (KS.refl _)) (ot v hv.2.2))
  refine Z5 (fun d => ?_) fun d => ?_
  ·exact K2 ⟨hz, s2⟩ fun u _ hu => U0 (K2 ⟨hu.1.1, hu.1.2.2⟩ fun v _ hv => pk v _ _ hv.1 ⟨s1, hu.1.2.1, s3⟩ (VJ.o hv.2.1 hu.2) (ot v hv.2.2))
  exact K2 ⟨hz, s4⟩ fun v _ hv => pk v _ _ hv.1 s123 hv.2.2 (ot v hv.2.1)
 ·have e : a1.fOp.fa0 = 7 := by simpa using d
  exact hJ _ ⟨fun _ => .inl e, fun h => by rw [d] at h; cases h⟩
 ·have e : a1.fOp.fa0 ≠ 7 := by simpa using d
  exact hJ _ ⟨fun h => .inr (by simpa using h), fun h => ⟨e, by simpa using h⟩⟩)
theorem Q6v [EB] : Ie := nxb (U9.eq_1 _)
theorem Q2d [EB] [De] : H1 := fun {a0} {a1} => Gf (W8.eq_1 _ _) (fun h => by
 obtain ⟨hz, hk⟩ := h
 simp only [bA3, Qld, C1]
 have no : ∀ n : Int, n < 12 → (a1 % 32 == n) = true → False := fun n hn c => by
   have : a1 % 32 = n := by simpa using c
   omega
 refine AR (fun p1 => zOn 1000000 (Qv.mk p1.1 p1.2.1 p1.2.2.1 p1.2.2.2.1 (Q7.mk p1.2.2.2.2.1 p1.2.2.2.2.2.1 p1.2.2.2.2.2.2.1 p1.2.2.2.2.2.2.2.1) p1.2.2.2.2.2.2.2.2.1 p1.2.2.2.2.2.2.2.2.2.1 p1.2.2.2.2.2.2.2.2.2.2.1 p1.2.2.2.2.2.2.2.2.2.2.2.1 p1.2.2.2.2.2.2.2.2.2.2.2.2.1 p1.2.2.2.2.2.2.2.2.2.2.2.2.2.1 p1.2.2.2.2.2.2.2.2.2.2.2.2.2.2.1 p1.2.2.2.2.2.2.2.2.2.2.2.2.2.2.2.1 (Qs.mk p1.2.2.2.2.2.2.2.2.2.2.2.2.2.2.2.2.1 p1.2.2.2.2.2.2.2.2.2.2.2.2.2.2.2.2.2.1 p1.2.2.2.2.2.2.2.2.2.2.2.2.2.2.2.2.2.2.1 p1.2.2.2.2.2.2.2.2.2.2.2.2.2.2.2.2.2.2.2.1 p1.2.2.2.2.2.2.2.2.2.2.2.2.2.2.2.2.2.2.2.2.1) p1.2.2.2.2.2.2.2.2.2.2.2.2.2.2.2.2.2.2.2.2.2)) (fun p h => h) fun J hJ => ?_
 have w : ∀ n : Int, n < 12 → ∀ (P : Prop), (a1 % 32 == n) = true → P := fun n hn P c => (no n hn c).elim
 refine Z5 (w 0 (by decide) _) fun _ => Z5 (w 1 (by decide) _) fun _ => Z5 (w 2 (by decide) _) fun _ => Z5 (w 3 (by decide) _) fun _ => Z5 (w 4 (by decide) _) fun _ => Z5 (w 5 (by decide) _) fun _ => Z5 (w 6 (by decide) _) fun _ => Z5 (w 7 (by decide) _) fun _ => Z5 (w 8 (by decide) _) fun _ => Z5 (w 9 (by decide) _) fun _ => Z5 (w 10 (by decide) _) fun _ => Z5 (w 11 (by decide) _) fun _ => Z5 (fun _ => hJ _ hz) fun c1 => Z5 (fun _ => hJ _ hz) fun c2 => ?_
 simp only [beq_eq_false_iff_ne] at c1 c2
 omega)
end Go.Proofs.YtimfmcpbkdpmoaaGreat
