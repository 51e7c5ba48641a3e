/- Parts of the proof, laid together. No condition. -/
import Derived.Test.YtimfmcpbkdpmoaaGreatKB6
set_option linter.unusedVariables false
set_option linter.unusedSimpArgs false
set_option maxRecDepth 100000
set_option maxHeartbeats 4000000
namespace Go.Proofs.YtimfmcpbkdpmoaaGreat
open Go.RowKit
theorem Pt : B6 := ZD (Zj.eq_1 _ _ _)
theorem Pu : B7 := ZD (Zn.eq_1 _ _ _)
theorem S7 : ZM := ZD (Qz.eq_1 _ _ _)
theorem Pv : B8 := ZD (Zd.eq_1 _ _ _)
theorem I7 : CN := ZD (K3.eq_1 _)
theorem S8 : Wn := ZD (Jf.eq_1 _ _)
theorem Q0y [Wn] : G3 := ZD (Xv.eq_1 _ _)
theorem Pw : DL := ZD (KR.eq_1 _)
theorem I8 [x_ref14_Holds : Wm] : Uy := fun {a0} {a1} => ZD (K7.eq_1 _ _) (fun h => Fo (by
 refine Q8y (l := a0) (by omega) (veF a1) (fun j x hx hix hf X hX => ?_) (fun e => ⟨⟨by simp, fun c => by simp at c⟩, fun _ => e, fun c => by simp at c⟩)
 obtain ⟨v, hv, e⟩ := (x_ref14_Holds (a0 := x.fd3) (a1 := x.fTo) (a2 := a1)).go trivial
 have hj := (List.getElem?_eq_some_iff.1 hx).1
 refine ⟨x, hix, x, hix, v, hv, KL (fun c => ⟨⟨by simp, fun _ => by dsimp only; omega⟩, fun c => by simp at c, fun _ => ⟨x, by dsimp only; rw [Q00]; exact hx, hf (by unfold veF; rw [← e]; exact c)⟩⟩) fun c => hX (by unfold veF; rw [← e]; exact c)⟩))
theorem Px : DN := ZD (KT.eq_1 _ _ _)
theorem Py [JF] [x_ref1_IsName : V7] [Bb] [D7] [C6] : DR := fun {a0} {a1} {a2} {a3} => ZD (XV.eq_1 _ _ _ _) (fun h => by
 obtain ⟨hl, ⟨h1, h2⟩, hz⟩ := h
 have no : ∀ e : Int, (fun r : List Qg × Int => (r.1.length ≤ a0.length + 1 ∧ ∀ x ∈ r.1, zB x) ∧ ∀ x ∈ r.1, x ∈ a0 ∨ x.fTo = a3 ∨ x.fTo = 0) ([], e) := fun e => ⟨⟨by simp, VS⟩, fun x hx => by simp at hx⟩
 refine Un ⟨hl, hz⟩ fun v _ _ => KL (fun _ => no _) fun _ => Un h1 fun n1 hn1 _ => ?_
 obtain ⟨n2, hn2, _⟩ := (x_ref1_IsName (a0 := a2)).go h2
 refine ⟨n2, fun _ => hn2, KL (fun _ => no _) fun _ => KL (fun _ => no _) fun _ => Un hl fun l _ _ => KL (fun _ => no _) fun _ => Un hl fun i _ hi => KL (fun _ => no _) fun ci => Un hl fun k _ _ => KL (fun _ => no _) fun _ => ?_⟩
 have ci2 : ¬ i < 0 := by simpa using ci
 obtain ⟨b, hb, hbm⟩ := YV (l := a0) (n := i) (by omega) hi.2
 have zb := hz b (List.mem_of_getElem? hbm)
 refine ⟨b, hb, KL (fun _ => no _) fun _ => ⟨by omega, b, hb, XH ⟨b, hb, Un (by simpa using hl) fun r hr hr2 => ?_⟩⟩⟩
 refine ⟨⟨by have := hr2.1; simp at this; dsimp only; omega, fun x hx => ZP (P := zB) (AF (a := Qg.mk b.ff0 b.fb9 b.fd3 a3) hz zb) (KO (a := Qg.mk a2 b.fb9 a3 0) h2) x (hr2.2 x hx)⟩, fun x hx => ?_⟩
 rcases List.mem_append.1 (hr2.2 x hx) with e | e
 ·rcases List.mem_or_eq_of_mem_set e with e | e
  ·exact .inl e
  ·exact .inr (.inl (by rw [e]))
 ·exact .inr (.inr (by rw [List.mem_singleton.1 e])))
theorem Pz : DT := ZD (XO.eq_1 _ _)
theorem NQ [B6] [Be] : Y7 := ZD (ZB.eq_1 _ _)
theorem Q0z : D9 := ZD (VO.eq_1 _)
theorem PC [Bf] [WC] [x_ref14_Covers : U7] [CC] : DV := fun {a0} {a1} {a2} => ZD (XS.eq_1 _ _ _) (fun h => by
 have hz := h
 obtain ⟨z1, z2, z3, z4, z5, z6, z7, z8, z9⟩ := h
 obtain ⟨c1, c2, c3, c4, c5, c6, c7⟩ := z1
 obtain ⟨y1, y2, y3⟩ := z9
 have no : ∀ e : Int, (fun r : Q2 × Int => UG r.1 ∧ (Sv a0 → Kp a0 r.1 ∧ Sv r.1)) (a0, e) := fun e => ⟨hz, fun hs => ⟨Kp.refl _, hs⟩⟩
 refine Un (by omega) fun i _ hi => KL (fun _ => no _) fun ci => ?_
 have ci2 : 0 ≤ i := by simpa using ci
 obtain ⟨o, ho, _⟩ := hi.2.2 ci2
 have hol := (List.getElem?_eq_some_iff.1 ho).1
 have zo := z4 o (List.mem_of_getElem? ho)
 have hix : ix a0.fa9 i o := ⟨ci2, ho⟩
 refine ⟨o, hix, Un ⟨by omega, zo.2⟩ fun q _ hq => KL (fun _ => no _) fun cq => ?_⟩
 have q0 : q.2.2 = 0 := by simpa using cq
 obtain ⟨⟨ql, qz, qo⟩, hq2⟩ := hq
 obtain ⟨qm, qf⟩ := hq2 q0
 obtain ⟨b, hb, _⟩ := (x_ref14_Covers (a0 := a0.fc3) (a1 := q.2.1.fd3) (a2 := q.2.1.fTo)).go (by omega)
 refine ⟨b, fun _ => hb, KL (fun _ => no _) fun c => ?_⟩
 have qt : q.2.1.fTo ≠ 0 := by
  simp only [Co, Bool.or_eq_false_iff, beq_eq_false_iff_ne] at c; exact c.1
 refine XH ?_
 refine HV (fun p => p.1 = q.1 ∧ p.2.1 ≤ 16384 ∧ p.2.2.length ≤ 16384 ∧ ∀ x ∈ p.2.2, IN x) ?_ fun J hJ => ?_
 ·rintro ⟨l, cap, pg⟩ ⟨rfl, g1, g2, g3⟩
  dsimp only at *
  refine ⟨by omega, o, hix, XH (HV (fun os => os = a0.fa9.set i.toNat (Qu.mk o.fID q.1) ∨ (q.1 = [] ∧ os = a0.fa9.eraseIdx i.toNat)) (fun os hos => ?_) fun K hK => KL (fun c => ?_) fun _ => hK _ (.inl rfl))⟩
  ·have zl : (os.length : Int) ≤ a0.fa1 ∧ ∀ x ∈ os, zO a0.fa1 x := by
    rcases hos with rfl | ⟨e, rfl⟩
    ·exact ⟨by simpa using z3, AF z4 ⟨by have := zo.1; dsimp only; omega, qz⟩⟩
    ·have sub : (a0.fa9.eraseIdx i.toNat).Sublist a0.fa9 := List.eraseIdx_sublist _ _
     exact ⟨by have := sub.length_le; omega, fun x hx => z4 x (sub.subset hx)⟩
   exact ⟨⟨⟨c1, c2, c3, c4, c5, c6, c7⟩, z2, zl.1, zl.2, z5, z6, z7, z8, g2, g1, g3⟩, fun hs => Qds hs ho qm (qf qt) hos⟩
  ·have el : q.1 = [] := by simpa using c
   have w : IntKind.i64.wrap (i + 1) = i + 1 := Zp (by omega)
   rw [w]
   simp only [List.length_map, List.length_set, List.length_take, List.length_drop]
   refine ⟨⟨by omega, by omega⟩, ⟨by omega, by omega⟩, ⟨by omega, by omega⟩, hK _ (.inr ⟨el, ?_⟩)⟩
   rw [List.eraseIdx_eq_take_drop_succ]
   have e1 : (i + 1).toNat = i.toNat + 1 := by omega
   rw [e1, List.take_set_of_le (by omega), List.drop_set_of_lt (by omega)]
   simp only [Nat.zero_add]
   congr 1
   refine List.take_of_length_le ?_
   rw [List.length_drop]
   exact Nat.le_refl _
 ·refine lvi ⟨rfl, by simp, by simp, y2, y1, y3⟩ ?_
  rintro ⟨l, k, cap, pg⟩ ⟨i1, i2, i3, i4, i5, i6⟩ X hX
  dsimp only at *
  refine KL (fun c => ?_) fun _ => hJ _ ⟨i1, i4, i5, i6⟩
  have ck : k < (q.2.1.fb0.length : Int) := by simpa using c
  obtain ⟨n, hn, _⟩ := YV (l := q.2.1.fb0) (n := k) i2 ck
  have w : IntKind.i64.wrap (k + 1) = k + 1 := Zp (by omega)
  rw [w]
  refine ⟨n, hn, Un ⟨i5, i4, i6⟩ fun u _ hu => hX _ ⟨i1, by dsimp only; omega, by dsimp only; omega, hu.2.1, hu.1, hu.2.2⟩ (by dsimp only; omega)⟩)
theorem Q10 : Jm := ZD (Zx.eq_1 _)
theorem Q11 [IT] : G8 := ZD (K6.eq_1 _)
theorem Q50 : Yq := ZD (ZY.eq_1 _ _)
theorem Mg [US] : Bm := ZD (KJ.eq_1 _ _)
theorem N0 [Vs] [Ga] [G9] [J0] [ZH] [K2] [Ja] [ZI] [ZV] : VJ := ZD (Zq.eq_1 _)
theorem Q51 [VZ] : Cm := ZD (Yi.eq_1 _)
theorem S9 [ZM] : EX := ZD (VM.eq_1 _)
theorem Q52 [DX] : Eo := ZD (YQ.eq_1 _ _)
theorem I9 [K2] [ZN] [CI] : UC := ZD (Jr.eq_1 _ _)
theorem GD [ZI] [ZN] [Wa] [Yq] [Dc] [Dd] : WH := ZD (Kz.eq_1 _ _)
theorem Q97 : IV := fun {a0} {a1} => ZD (Aa.eq_1 _ _) (fun h => by
 refine KL (fun _ => by decide) fun c => ?_
 simp only [Co, Bool.or_eq_false_iff, decide_eq_false_iff_not] at c
 have e : a1.tdiv 8 = a1 / 8 := Int.tdiv_eq_ediv_of_nonneg (by omega)
 have w : IntKind.i64.wrap (a1 / 8) = a1 / 8 := Zp (by omega)
 rw [e, w] at c ⊢
 obtain ⟨v, hv, _⟩ := YV (l := a0) (n := a1 / 8) (by omega) (by omega)
 exact ⟨v, hv, (BB _).1, by rw [bA1]; omega⟩)
theorem Mh : Bq := ZD (Vg.eq_1 _)
theorem GE [Kj] [Jb] [ZI] [XY] : WJ := ZD (KB.eq_1 _)
theorem HA [ZI] [Wa] [Az] [Dd] [Yq] [Dc] : Ua := ZD (KZ.eq_1 _ _)
theorem NR [ZV] [ZM] [Bc] [Er] : CK := ZD (Xl.eq_1 _ _ _)
theorem Q53 [VJ] [Y2] [WP] [YM] [Bt] [UE] [WK] [Wg] [Hq] [CK] : Et := ZD (YT.eq_1 _ _)
theorem Q54 [Ub] [Hp] [Cn] [Yr] : Eu := fun {a0} {a1} {a2} => nx1 (YR.eq_1 _ _ _)
theorem Ia [UK] : UF := fun {a0} {a1} {a2} => nx1 (Ju.eq_1 _ _ _)
theorem Ce : F5 := nxb (Jc.eq_1 _)
end Go.Proofs.YtimfmcpbkdpmoaaGreat
