/- Parts of the proof, laid together. No condition. -/
import Derived.Test.YtikagchjeogchaaGreatKT1
import Derived.Test.YtikagchjeogchaaGreatKT2
import Derived.Test.YtikagchjeogchaaGreatKT3
import Derived.Test.YtikagchjeogchaaGreatKT4
import Derived.Test.YtikagchjeogchaaGreatKT5
import Derived.Test.YtikagchjeogchaaGreatKT6
import Derived.Test.YtikagchjeogchaaGreatKT7
import Derived.Test.YtikagchjeogchaaGreatKT8
import Derived.Test.YtikagchjeogchaaGreatKT9
import Derived.Test.YtikagchjeogchaaGreatKT10
import Derived.Test.YtikagchjeogchaaGreatKT11
import Derived.Test.YtikagchjeogchaaGreatKT12
import Derived.Test.YtikagchjeogchaaGreatKU1
import Derived.Test.YtikagchjeogchaaGreatKU2
import Derived.Test.YtikagchjeogchaaGreatKU3
import Derived.Test.YtikagchjeogchaaGreatKU4
import Derived.Test.YtikagchjeogchaaGreatKU5
import Derived.Test.YtikagchjeogchaaGreatKU6
import Derived.Test.YtikagchjeogchaaGreatKU7
import Derived.Test.YtikagchjeogchaaGreatKU8
import Derived.Test.YtikagchjeogchaaGreatKC1
import Derived.Below
set_option linter.unusedVariables false
set_option linter.unusedSimpArgs false
namespace Go.Proofs.YtikagchjeogchaaGreat
open Go.RowKit
set_option maxRecDepth 100000
set_option maxHeartbeats 4000000
instance Qqi : Cm := TB
instance Qqj : Cn := TC
instance Qtr : ZH := Q1v
instance Qqk : LG := TD
instance Q6j : WT := Ik
instance Qb3 : Rw := Qax
instance Mu : Eu := Ms
instance Qts : U7 := Q24
instance x_ref14_index : U8 := Q1p
instance Qyh : I4 := Q5q
instance Qm4 : Ei := RR
instance Qyi : I5 := Q63
instance Qb4 : YI := LP
instance Qql : FB := Tp
instance Qi5 : Co := OU
instance Qqm : FC := Tq
instance Z54 : Bq := Qf6
instance Qtt : GK := Q25
instance Qqn : A6 := Tu
instance Qco : AD := Ml
instance Qqo : Cp := TF
instance Qyj : EK := Q6c
instance Qyk : Cq := Q5r
instance Qtu : DI := Q26
instance Qqp : FD := TG
instance Qtv : XQ := Q27
instance Q2b : Jr := H0
instance Q87 : Yk := IA
instance Qyl : I6 := Q64
instance Qqq : FE := Tr
instance Qqr : FF := TH
instance Qtw : GL := Q1g
instance Q88 : Un := II
instance Qfb : Br := Nw
instance Q89 : Uo := IC
instance Qym : EL := Q65
instance Qqs : FG := TN
instance Qtx : DJ := Q28
instance Qyn : I7 := Q5w
instance Qty : DK := Q1w
instance Qqt : Cs := Tv
instance Qtz : DL := Q1x
instance Qqu : Cu := TI
instance Qm5 : Yp := RZ
instance Qqv : Cv := TT
instance Qm6 : Yq := S0
instance Qm7 : Xr := RU
instance Qqw : Cw := TO
instance Qyo : Cy := Q5s
instance Qu0 : U9 := Q1q
instance Qyp : EM := Q6d
instance Qqx : Cz := Ty
instance Z2d : LH := Qav
instance Qyq : I8 := Q5x
instance Qqy : FH := TP
instance Z2e : E3 := Qam
instance Qu1 : AR := Q1r
instance Qqz : FI := TU
instance Qu2 : GN := Q1z
instance Qu3 : GO := Q1s
instance Qyr : I9 := Q69
instance Qr0 : CB := TJ
instance Qu4 : DN := Q1y
instance Qm8 : Ej := RQ
instance Qys : KU := Q5y
instance Qcp : ZT := Mt
instance Q6k : XA := Ij
instance Q8a : Up := IK
instance Qb5 : KG := LM
instance Q45 : ZD := Hi
instance Q8b : ZS := ID
instance Z2f : YJ := Qaq
instance Qu5 : DO := Q20
instance Qfc : KH := NB
instance Q46 : ZE := Hh
instance Qb6 : ZM := LR
instance Qm9 : AZ := S5
instance Qcq : AE := Mr
instance Qi6 : CC := OQ
instance Qfd : WU := Ny
instance Qr1 : FJ := Ts
instance Qcr : AF := Mp
instance Qkn : Dg := PN
instance Qyt : Ia := Q5t
instance Qyu : Ib := Q5z
instance Qko : VD := PQ
instance Z2g : X0 := Qaz
instance Z2h : A7 := Qar
instance Qfe : Bs := NE
instance Z2i : Gb := Qaj
instance Q8c : Uq := IL
instance Qcs : AG := Mm
instance Z2j : E4 := Qat
instance Qkp : Dh := PR
instance Q8d : Ur := IF
instance Qff : Bt := NG
instance Qma : Ek := S6
instance Qfg : Bu := NL
instance Qkq : Di := PW
instance Qu6 : GP := Q21
instance Qfh : Bv := Nz
instance Qmb : El := S2
instance Qkr : Ao := PS
instance Qmc : B0 := S7
instance Qfi : Bw := NJ
instance Z55 : FK := Qf5
instance Z2k : Gc := Qan
instance Qyv : EN := Q5p
instance Z56 : Nu := Qf8
instance Qu7 : GQ := Q1t
instance Z2l : Gd := Qak
instance Q8e : Us := IG
instance Qmd : Em := RX
instance Qct : AH := Mk
instance Z2m : BL := Qao
instance x_ref6_sum : WV := Qf7
instance Qyw : EO := Q6a
instance Qks : Dj := PT
instance Qyx : EP := Q6i
instance Qyy : EQ := Q6b
instance Q8f : Ut := IB
instance Qme : B2 := S3
instance Qi7 : Xe := OR
instance Qyz : Ap := Q6e
instance Qr2 : CE := TQ
instance Qu8 : GR := Q1h
instance x_ref6_sorted : GT := Q1i
instance x_ref1_Bit : Nv := Qfa
instance Qu9 : DR := Q1j
instance Qfj : By := NM
instance Qi8 : CF := OP
instance Qb7 : K1 := LQ
instance Qfk : KI := NC
instance Qfl : Bz := ND
instance Qi9 : CG := OO
instance Qfm : WW := NA
instance Q8g : Uu := IE
instance Qcu : AI := Mn
instance Qia : CI := OS
instance Qfn : Yi := NH
instance Qkt : Dk := PO
instance Q8h : Uv := IM
instance Qfo : BA := NF
instance Qib : CJ := OW
instance Qb8 : A8 := LN
instance Qfp : BB := NI
instance Qr3 : CL := TK
instance Qmf : Eo := S1
instance Qb9 : A9 := LO
instance Q47 : Wg := Hg
instance Qcv : AJ := Mq
instance Qr4 : FL := Tn
instance Qua : GU := Q1u
instance Q8i : Uw := IJ
instance Z2n : Ge := Qb0
instance Z2o : LI := Qal
instance Qmg : Ep := S8
instance x_ref12_New : Gf := Qb1
instance x_ref12_Insert : CM := TR
instance Qub : GV := Q1k
instance Qr5 : Wh := Tt
instance Qr6 : Aa := Tw
instance Qmh : U2 := S4
instance Qic : UD := ON
instance Z2p : Gg := Qai
instance Quc : GW := Q29
instance Qz0 : Ic := Q5u
instance Qr7 : FM := Tz
instance Qr8 : V9 := Tx
instance Qid : YK := OT
instance Qba : E5 := Qap
instance Qud : DT := Q1n
instance Qie : UE := OV
instance Z2q : Gh := Qay
instance Que : GX := Q2a
instance Qr9 : FN := TA
instance Qz1 : Ie := Q66
instance Qz2 : If := Q6f
instance Qku : Wi := PX
instance Qra : Wj := TW
instance Z2r : LJ := Qas
instance Q8j : Ux := IH
instance Qfq : BC := NK
instance Qkv : Dl := PP
instance Qcw : AK := Mo
instance Qrb : FO := TS
instance Qrc : FP := TX
instance Qrd : Ab := TL
instance Qkw : Dm := PU
instance Qz3 : Ig := Q60
instance Qmi : Er := S9
instance Qre : FQ := TM
instance Q6l : OL := Q5v
instance MX : MV := Q22
instance Z2s : Gi := Qau
instance Quf : AS := Q1l
instance x_base_At : Dn := Qkm
instance OX : OM := Q67
instance Z57 : FR := Qf9
instance Qz4 : ER := Q61
instance Z2t : LK := Qb2
instance Qz5 : ES := Q68
instance Qz6 : ET := Q6g
instance Qz7 : Ih := Q6h
instance Qug : GY := Q1m
instance Z2u : LL := Qaw
instance Quh : GZ := Q1o
instance x_base_Op : PM := Qkl
instance Qmj : Es := RY
instance Q6m : Ii := Q62
instance MY : MW := Q23
structure Vr (r : Qq) : Prop where
 st : CN r.fy
 se : ∀ x ∈ r.fa5, zSe x
 e0 : 0 ≤ r.ff0
 el : (r.fd0.length : Int) ≤ r.ff0
 rc : ∀ x ∈ r.fd0, zOp x.fOp
 hs : Pg r.ff0 r.fa5 r.fd0
theorem zS0 : zS (Q8.mk (Q6.mk 0 0 0 0) (Qc.mk 0 0 false) (Q3.mk 0 0 0 [] false) (Q7.mk 0 0 []) (Qf.mk 0 0 [] false) (Q4.mk 0 0 0 [] false) (Q9.mk 0 0 0 [] false)) :=
 ⟨by simp, by simp, ⟨by simp, We⟩, ⟨by simp, We⟩, by simp, We⟩
theorem zOp0 : zOp (Qj.mk 0 ByteArray.empty ByteArray.empty [] (Q6.mk 0 0 0 0) [] [] 0 0 0 0 0 0 (Qi.mk 0 ByteArray.empty 0 0 0) []) :=
 ⟨by simp, by simp, by simp, by simp, We, by simp, by simp, We, We⟩
theorem LS {a0 : List Qh} {a1 : Int} {a2 : Qj} {a3 : Int} (hl : a0.length ≤ 64) (hz : ∀ x ∈ a0, zSe x) (ho : zOp a2) : ∃ r, Rr (Kw a0 a1 a2 a3) r ∧ (r.2 = 0 → ∃ x y : Qh, 0 ≤ a1 ∧ a0[a1.toNat]? = some x ∧ x.fh1 = false ∧ De a2 = 0 ∧ y.fh1 = true ∧ y.fd7 = a3 ∧ zSe y ∧ r.1 = a0.set a1.toNat y) := by
 refine ex_ ?_
 rw [Kw.eq_1]
 refine Wk (fun _ => fun c => by simp at c) fun c0 => ?_
 simp only [bfo, Bool.or_eq_false_iff, decide_eq_false_iff_not] at c0
 refine ⟨De a2, Hf a2, Wk (fun c1 c => absurd c (by simpa using c1)) fun c1 => ?_⟩
 have v0 : De a2 = 0 := by simpa using c1
 obtain ⟨x, hx, hxm⟩ := Cj (l := a0) (n := a1) (by omega) (by omega)
 have hs := hz x (List.mem_of_getElem? hxm)
 refine ⟨x, hx, Wk (fun _ c => by simp at c) fun cb => ⟨by omega, x, hx, LF (LF (LF (LF ?_)))⟩⟩
 intro _
 refine ⟨x, _, by omega, hxm, cb, v0, ?_, ?_, ?_, by simp only [List.set_set]; rfl⟩
 ·rfl
 ·rfl
 ·exact ⟨hs.1, hs.2.1, hs.2.2.1, ho, ⟨⟨by simp, by simp⟩, zS0, zS0, by simp, by simp, We⟩, fun _ => by simp⟩
theorem FS {a0 : List Qh} {a1 : Int} {x : Qh} (hl : a0.length ≤ 64) (h0 : 0 ≤ a1) (hx : a0[a1.toNat]? = some x) (hb : x.fh1 = true) (hs : zSe x) : ∃ r, Rr (Kx a0 a1) r ∧ ∃ y : Qh, y.fh1 = false ∧ zSe y ∧ r.1 = a0.set a1.toNat y := by
 have hlt := (List.getElem?_eq_some_iff.1 hx).1
 refine ex_ ?_
 rw [Kx.eq_1]
 refine Wk (fun c => ?_) fun c0 => ?_
 ·simp only [bfo, Bool.or_eq_true, decide_eq_true_eq] at c; omega
 refine ⟨x, ⟨h0, hx⟩, Wk (fun c => by rw [hb] at c; cases c) fun cb => ⟨by omega, x, ⟨h0, hx⟩, LF (LF (LF (LF ?_)))⟩⟩
 refine ⟨_, ?_, ?_, by simp only [List.set_set]; rfl⟩
 ·rfl
 ·exact ⟨hs.1, hs.2.1, hs.2.2.1, zOp0, ⟨⟨by simp, by simp⟩, zS0, zS0, by simp, by simp, We⟩, fun _ => by simp⟩
theorem TY {s : Qe} {ss : List Qh} {l : List Q2} {e a1 n : Int} {x : Qh} (st : CN s) (se : ∀ x ∈ ss, zSe x) (rc : ∀ x ∈ l, zOp x.fOp) (hs : Pg n ss l) (hn : 0 ≤ n) (h0 : 0 ≤ a1) (hx : ss[a1.toNat]? = some x) (hb : x.fh1 = true) :
  ∃ r, Rr (Y0 (Qq.mk s ss l e) a1 n) r ∧ CN r.1.fy ∧ (∀ x ∈ r.1.fa5, zSe x) ∧ (∀ x ∈ r.1.fd0, zOp x.fOp) ∧ r.1.fd0.length = l.length ∧ Pg (n + 1) r.1.fa5 r.1.fd0 ∧ r.1.ff0 = e := by
 obtain ⟨q, q0, hq, qs, qr⟩ := hs.bs _ x hx hb
 have okq := hs.rc _ q hq
 have zx := se x (List.mem_of_getElem? hx)
 refine ex_ ?_
 rw [Y0.eq_1]
 obtain ⟨u, hu, hu1, _⟩ := (Qba (a0 := s) (a1 := x.fa)).go ⟨st, zx.2.2.2.2.1⟩
 obtain ⟨v, hv, y, y1, y2, y3⟩ := FS hs.sz h0 hx hb zx
 refine ⟨x, ⟨h0, hx⟩, u, hu, q, ⟨q0, hq⟩, LF ⟨_, ⟨q0, BK hq⟩, LF ⟨_, ⟨q0, BK (BK hq)⟩, LF ⟨v, hv, hu1, ?_, ?_, ?_, ?_, rfl⟩⟩⟩⟩
 ·rw [y3]; exact I3 se y2
 ·simp only [List.set_set]
  exact I3 rc (rc q (List.mem_of_getElem? hq))
 ·simp
 ·simp only [List.set_set]
  rw [y3]
  refine hs.put (k := x.fd7.toNat) hn hx hb (by omega) hq ?_ rfl rfl (.inr (.inr rfl)) (.inr ⟨rfl, y1⟩)
  exact { s0 := okq.s0, s1 := okq.s1, c0 := okq.c0, c1 := by have := okq.c1; dsimp only; omega, l0 := by dsimp only; omega, l1 := by dsimp only; omega, r0 := by dsimp only; omega, r1 := by dsimp only; omega, op := okq.op, lc := fun h => absurd rfl h, lr := fun h => absurd rfl h, rc := fun _ => okq.c1, e1 := fun _ _ => rfl, e2 := fun h => absurd rfl h, z := fun h => by dsimp only at h; omega }
theorem Q6n {s : Qe} {ss : List Qh} {l : List Q2} {e a1 n : Int} {x : Qh} (st : CN s) (se : ∀ x ∈ ss, zSe x) (rc : ∀ x ∈ l, zOp x.fOp) (hs : Pg n ss l) (hn : 0 ≤ n) (h0 : 0 ≤ a1) (hx : ss[a1.toNat]? = some x) (hb : x.fh1 = true) :
  ∃ r, Rr (WN (Qq.mk s ss l e) a1 n) r ∧ CN r.1.fy ∧ (∀ x ∈ r.1.fa5, zSe x) ∧ (∀ x ∈ r.1.fd0, zOp x.fOp) ∧ r.1.fd0.length = l.length ∧ Pg (n + 1) r.1.fa5 r.1.fd0 ∧ r.1.ff0 = e := by
 obtain ⟨q, q0, hq, qs, qr⟩ := hs.bs _ x hx hb
 have okq := hs.rc _ q hq
 have zq := rc q (List.mem_of_getElem? hq)
 have zx := se x (List.mem_of_getElem? hx)
 have qz := okq.z qr
 have qe : q.fu.fg6 ≠ 16 := by
  unfold zrB at qz
  simp only [Bool.and_eq_true, beq_iff_eq] at qz
  omega
 have ql := okq.l1
 have qc := okq.c1
 have qc0 := okq.c0
 have ql0 := okq.l0
 refine ex_ ?_
 rw [WN.eq_1]
 obtain ⟨t, ht, ⟨tst, tma, trs⟩, ⟨tc, td, tsn⟩, ⟨t1, t2, t3, t4⟩, t5⟩ := (Q6l (a0 := s) (a1 := x)).go ⟨st, zx⟩
 have hx2 : (ss.set a1.toNat t.2)[a1.toNat]? = some t.2 := BK hx
 have zt : zSe t.2 := ⟨tc, td, tsn, by rw [t1]; exact zx.2.2.2.1, by rw [t2]; exact zx.2.2.2.2.1, by rw [t1, t2]; exact zx.2.2.2.2.2⟩
 refine ⟨x, ⟨h0, hx⟩, q, ⟨q0, hq⟩, t, ht, Wk (fun _ => LF ?_) fun _ => LF (LF ?_)⟩
 ·have zy : zSe (Qh.mk t.2.fh1 t.2.fOp t.1.fa t.2.fd7 t.2.fd5 t.2.ff9) := ⟨tc, td, tsn, by dsimp only; rw [t1]; exact zx.2.2.2.1, tma, by dsimp only; rw [t1]; exact t5⟩
  have sy := I3 (n := a1.toNat) se zy
  refine joi (Wk (fun c => LF ?_) fun _ => ?_)
  ·refine ⟨tst, by simp only [List.set_set]; exact sy, I3 rc zq, by simp, ?_, rfl⟩
   simp only [List.set_set]
   have c2 : q.fa8 < 0 := by
    simp only [bfa, Bool.and_eq_true, decide_eq_true_eq] at c; exact c.2
   refine hs.put (k := x.fd7.toNat) hn hx hb (by omega) hq ?_ rfl rfl (.inr (.inl rfl)) (.inl ⟨qr, by dsimp only; rw [t3]; exact hb, by dsimp only; rw [t4]; omega⟩)
   exact { s0 := okq.s0, s1 := okq.s1, c0 := okq.c0, c1 := by dsimp only; omega, l0 := by dsimp only; omega, l1 := by dsimp only; omega, r0 := okq.r0, r1 := by have := okq.r1; dsimp only; omega, op := okq.op, lc := fun _ => qc, lr := fun _ h => absurd qr h, rc := fun h => absurd qr h, e1 := fun h => absurd qr h, e2 := fun _ => qe, z := fun _ => qz }
  ·refine ⟨tst, by simp only [List.set_set]; exact sy, rc, rfl, ?_, rfl⟩
   simp only [List.set_set]
   refine Pg.mono (n := n) (Pg.ses hs hx ?_ ?_) ?_
   ·exact t3
   ·exact t4
   ·exact Int.le_add_one (Int.le_refl n)
 ·refine jmp (fun p => p.1 = ss.set a1.toNat t.2 ∧ ∃ r' : Q2, p.2 = l.set x.fd7.toNat r' ∧ zOp r'.fOp ∧ PL (n + 1) r' ∧ r'.fb8 = q.fb8 ∧ r'.ff2 = q.ff2 ∧ (r'.fa8 = q.fa8 ∨ r'.fa8 = n ∨ r'.fa8 = -1) ∧ r'.fc0 = n) ?_ fun J hJ => Wk (fun c => LF (hJ _ ⟨rfl, Q2.mk q.fb8 q.fOp q.ff2 n n t.1.fu, by simp only [List.set_set], zq, ?_, rfl, rfl, .inr (.inl rfl), rfl⟩)) fun c => hJ _ ⟨rfl, Q2.mk q.fb8 q.fOp q.ff2 q.fa8 n t.1.fu, by simp only [List.set_set], zq, ?_, rfl, rfl, .inl rfl, rfl⟩
  ·rintro ⟨p1, p2⟩ ⟨rfl, r', hr', g1, g2, g3, g4, g5, g6⟩
   dsimp only at hr' ⊢
   subst hr'
   obtain ⟨v, hv, y, y1, y2, y3⟩ := FS (by simpa using hs.sz) h0 hx2 (by rw [t3]; exact hb) zt
   refine ⟨v, hv, tst, ?_, I3 rc g1, by simp, ?_, rfl⟩
   ·rw [y3, List.set_set]; exact I3 se y2
   ·rw [y3, List.set_set]
    exact hs.put (k := x.fd7.toNat) hn hx hb (by omega) hq g2 g3 g4 g5 (.inr ⟨g6, y1⟩)
  ·exact { s0 := okq.s0, s1 := okq.s1, c0 := okq.c0, c1 := by dsimp only; omega, l0 := by dsimp only; omega, l1 := by dsimp only; omega, r0 := by dsimp only; omega, r1 := by dsimp only; omega, op := okq.op, lc := fun _ => qc, lr := fun _ _ => Int.le_refl _, rc := fun _ => qc, e1 := fun _ h => by dsimp only at h; omega, e2 := fun _ => trs, z := fun h => by dsimp only at h; omega }
  ·have c2 : ¬ q.fa8 < 0 := by simpa using c
   have c3 := okq.lc (by omega)
   exact { s0 := okq.s0, s1 := okq.s1, c0 := okq.c0, c1 := by dsimp only; omega, l0 := okq.l0, l1 := by dsimp only; omega, r0 := by dsimp only; omega, r1 := by dsimp only; omega, op := okq.op, lc := fun _ => c3, lr := fun _ _ => by dsimp only; omega, rc := fun _ => qc, e1 := fun _ h => by dsimp only at h; omega, e2 := fun _ => trs, z := fun h => by dsimp only at h; omega }
theorem MZ {r : Qq} {e : QJ} (h : Vr r) (he : zOp e.fOp) (hb : r.ff0 ≤ 1000000) : ∃ q, Rr (XN r e) q ∧ Vr q.1 ∧ q.1.ff0 = r.ff0 + 1 := by
 have h0 := h.e0
 have hl := h.el
 have sz := h.hs.sz
 have w : IntKind.i64.wrap (r.ff0 + 1) = r.ff0 + 1 := Vk (by omega)
 refine ex_ ?_
 rw [XN.eq_1, w]
 have same : Vr (Qq.mk r.fy r.fa5 r.fd0 (r.ff0 + 1)) := { st := h.st, se := h.se, e0 := by dsimp only; omega, el := by dsimp only; omega, rc := h.rc, hs := h.hs.mono (by dsimp only; omega) }
 refine Wk (fun _ => ⟨same, rfl⟩) fun _ => Wk (fun _ => ⟨same, rfl⟩) fun c => ?_
 simp only [bfo, Bool.or_eq_false_iff, decide_eq_false_iff_not] at c
 refine Wk (fun _ => ?_) fun _ => ?_
 ·obtain ⟨v, hv, hv2⟩ := LS (a1 := e.fb8) (a3 := (r.fd0.length : Int)) sz h.se he
  refine ⟨v, hv, Wk (fun _ => ⟨same, rfl⟩) fun c1 => ?_⟩
  obtain ⟨x, y, a1, hx, xb, vl, yb, yr, zy, hr⟩ := hv2 (by simpa using c1)
  refine ⟨by omega, by simp only [List.length_append, List.length_cons, List.length_nil]; omega, ?_, rfl⟩
  rw [hr]
  refine { st := h.st, se := I3 h.se zy, e0 := by dsimp only; omega, el := by simp only [List.length_append, List.length_cons, List.length_nil]; omega, rc := Cl h.rc (Df he), hs := ?_ }
  exact h.hs.call h0 hx xb yb yr (by dsimp only; omega) rfl rfl rfl vl (by dsimp only [zrB, zaB]; rw [show (ByteArray.empty).toList = (⟨#[]⟩ : ByteArray).toList from rfl]; simp) (by simp)
 ·obtain ⟨x, hx, hxm⟩ := Cj (l := r.fa5) (n := e.fb8) (by omega) (by omega)
  refine ⟨x, hx, Wk (fun _ => ⟨same, rfl⟩) fun cb => ⟨by omega, by omega, ?_⟩⟩
  have xb : x.fh1 = true := by simpa using cb
  refine Wk (fun _ => ?_) fun _ => ?_
  ·obtain ⟨v, hv, v1, v2, v3, v4, v5, v6⟩ := TY (e := r.ff0 + 1) h.st h.se h.rc h.hs h0 (by omega) hxm xb
   exact ⟨v, hv, { st := v1, se := v2, e0 := by dsimp only; omega, el := by dsimp only; omega, rc := v3, hs := by dsimp only; rw [v6]; exact v5 }, v6⟩
  ·obtain ⟨v, hv, v1, v2, v3, v4, v5, v6⟩ := Q6n (e := r.ff0 + 1) h.st h.se h.rc h.hs h0 (by omega) hxm xb
   exact ⟨v, hv, { st := v1, se := v2, e0 := by dsimp only; omega, el := by dsimp only; omega, rc := v3, hs := by dsimp only; rw [v6]; exact v5 }, v6⟩
theorem Rx {c : Zf} (hc : Qwp c) : ∃ r, Rr (Wl c) r ∧ Vr r.1 ∧ r.1.ff0 = 0 := by
 refine ex_ ?_
 rw [Wl.eq_1]
 obtain ⟨v, hv, hv1, hv2⟩ := (Qb3 (a0 := c)).go trivial
 obtain ⟨u, hu, hu1, hu2⟩ := (Mu (a0 := c.fa5)).go ⟨hc.1.1, by have := hc.1.2; omega⟩
 have z := hv2 hc
 have hcs := hc.1
 refine ⟨v, hv, Wk (fun e => absurd z (by simpa using e)) fun _ => ⟨u, hu, ?_, rfl⟩⟩
 exact { st := (hv1 z).1, se := fun x hx => (hu2 x hx).1, e0 := Int.le_refl _, el := Int.le_refl _, rc := We, hs := Qyb (by dsimp only; omega) fun x hx => (hu2 x hx).2 }
theorem TZ {n m : Nat} {o : Qj} (h : zOn n o) (hm : n ≤ m) : zOn m o := ⟨by have := h.1; omega, by have := h.2.1; omega, by have := h.2.2.1; omega, by have := h.2.2.2.1; omega, h.2.2.2.2⟩
theorem Q2c {a0 : List Q2} {a1 : Int} {m : Nat} (h1 : 1 ≤ a0.length ∧ a0.length ≤ 100000) (hm : m ≤ 4000000) (ho : ∀ x ∈ a0, zOn m x.fOp) : ∃ r, Rr (W0 a0 a1) r ∧ (1 ≤ r.length ∧ r.length ≤ a0.length + 1) ∧ (∀ x ∈ r, zOn (m + 100000) x.fOp) ∧ (a1 % 16 = 15 → r = a0) := by
 refine ex_ ?_
 rw [W0.eq_1]
 simp only [Qq2, bA63, Qq3, bA3]
 have i0 : 0 ≤ (Qu .i64 a1 4 % 16).tmod (a0.length : Int) := tm0 (by omega)
 have i1 : (Qu .i64 a1 4 % 16).tmod (a0.length : Int) < a0.length := tm1 (by omega) (by omega)
 generalize (Qu .i64 a1 4 % 16).tmod (a0.length : Int) = i at i0 i1
 obtain ⟨v, hv, hvm⟩ := Cj (l := a0) (n := i) i0 i1
 have zo : ∀ x ∈ a0, zOn (m + 100000) x.fOp := fun x hx => TZ (ho x hx) (by omega)
 have zv := zo v (List.mem_of_getElem? hvm)
 refine ⟨by omega, v, hv, jmp (fun l => (1 ≤ l.length ∧ l.length ≤ a0.length + 1) ∧ (∀ x ∈ l, zOn (m + 100000) x.fOp) ∧ (a1 % 16 = 15 → l = a0)) (fun p h => h) fun J hJ => ?_⟩
 have st : ∀ r' : Q2, zOn (m + 100000) r'.fOp → ¬ a1 % 16 = 15 → J (a0.set i.toNat r') := fun r' g1 g2 => hJ _ ⟨by simp; omega, I3 zo g1, fun e => absurd e g2⟩
 refine Wk (fun c => LF (st _ zv ?_)) fun _ => Wk (fun c => LF (st _ zv ?_)) fun _ => Wk (fun c => LF (st _ zv ?_)) fun _ => Wk (fun c => ixi ⟨by omega, by simp; omega⟩ fun w _ _ _ => LF (st _ zv ?_)) fun _ => Wk (fun c => ?_) fun _ => Wk (fun c => LF (st _ zv ?_)) fun _ => Wk (fun c => LF (st _ zv ?_)) fun _ => Wk (fun c => LF (LF ?_)) fun _ => Wk (fun c => ⟨by simp; omega, ⟨by simp, by simp⟩, Cl zo (Df zv), fun e => ?_⟩) fun _ => hJ _ ⟨by omega, zo, fun _ => rfl⟩
 case refine_5 =>
  obtain ⟨w, hw, q1, q2, q3, q4, q5⟩ := (Q6m (a0 := v.fOp) (a1 := Qu .i64 a1 8)).go (TZ (ho v (List.mem_of_getElem? hvm)) (by omega))
  obtain ⟨o1, o2, o3, o4, _⟩ := ho v (List.mem_of_getElem? hvm)
  exact ⟨w, hw, LF (st _ ⟨by dsimp only; omega, by dsimp only; omega, by dsimp only; omega, by dsimp only; omega, q5⟩ (by simp at c; omega))⟩
 case refine_8 => rw [List.set_set]; exact st _ zv (by simp at c; omega)
 all_goals (simp at c; omega)
def Qfr (r : Qq) := (r.fy.fo.fa5, r.fy.fo.fa9, r.fy.fo.fa6, r.fy.fo.fc1, r.fy.fo.fc4, r.fy.fo.fc8, r.fy.fo.fd6, r.fy.fa2, r.fy.ff6, r.fy.fb4, r.fy.fb6, r.fy.fc4, r.fy.fc3.fc2, r.fy.fc3.fa6, r.fa5, r.fd0, r.ff0)
theorem EU (a0 : Int) (a1 : List Int) (a2 : Int) : ∃ r, Rr (VK a0 a1 a2) r ∧ r.length ≤ 5000 ∧ (a2 = 491535 → ∃ n ss, Pg n ss r) := by
 refine ex_ ?_
 rw [VK.eq_1]
 obtain ⟨v1, hv1, c1⟩ := (MX (a0 := Qx .i64 a0 65535)).go trivial
 obtain ⟨v2, hv2, c2, c3⟩ := Rx c1
 obtain ⟨v3, hv3, c4, c5⟩ := (OX (a0 := a1)).go trivial
 obtain ⟨v4, hv4, c6, c7⟩ := (MY (a0 := a1) (a1 := v1.fa5) (a2 := 40)).go ⟨by have := c1.1; omega, by decide⟩
 refine ⟨v1, hv1, v2, hv2, v3, hv3, v4, hv4, by omega, jmp (fun p => ∃ r, Vr r ∧ r.ff0 ≤ 2000 ∧ p = Qfr r) ?_ fun J hJ => ?_⟩
 ·rintro _ ⟨r, hr, he, rfl⟩
  have hl := hr.el
  dsimp only [Qfr]
  refine ⟨by omega, jmp (fun l => l.length ≤ 5000 ∧ (a2 = 491535 → ∃ n ss, Pg n ss l)) (fun p h => h) fun J hJ => ?_⟩
  refine DZ (I := fun n (s : List Q2 × Int) => ∃ j : Nat, j ≤ 2 ∧ s.2 = (j : Int) ∧ s.1.length ≤ 2000 + j ∧ (∀ x ∈ s.1, zOn (2000000 + 100000 * j) x.fOp) ∧ (a2 = 491535 → s.1 = r.fd0) ∧ n = 2 - j) ?_ (k := 2) ⟨0, by omega, rfl, by dsimp only; omega, fun x hx => hr.rc x hx, fun _ => rfl, rfl⟩
  rintro n ⟨l, i⟩ ⟨j, hj, h1, h2, h3, h4, hn⟩ X hX
  dsimp only at *
  subst h1
  refine Wk (fun c => ?_) fun _ => hJ _ ⟨by omega, fun e => ⟨_, _, by rw [h4 e]; exact hr.hs⟩⟩
  simp only [bfa, Bool.and_eq_true, decide_eq_true_eq] at c
  obtain ⟨u, hu, u1, u2, u3⟩ := Q2c (a0 := l) (a1 := Qu .i64 a2 (IntKind.u64.wrap (IntKind.i64.wrap (15 * (j : Int))))) (m := 2000000 + 100000 * j) ⟨by omega, by omega⟩ (by omega) h3
  have w : IntKind.i64.wrap ((j : Int) + 1) = ((j + 1 : Nat) : Int) := by rw [Vk (by omega)]; omega
  refine ⟨(BJ _).1, u, hu, ?_⟩
  rw [w]
  refine hX (2 - (j + 1)) _ (by omega) ⟨j + 1, by omega, rfl, by dsimp only; omega, fun x hx => TZ (u2 x hx) (by omega), fun e => ?_, rfl⟩
  have hj2 : j = 0 ∨ j = 1 := by omega
  dsimp only
  rw [u3 ?_, h4 e]
  subst e
  rcases hj2 with rfl | rfl
  ·decide
  ·decide
 ·generalize hev : v3 ++ v4 = evs
  have hl : evs.length ≤ 1006 := by rw [← hev]; simp; omega
  have hz : ∀ x ∈ evs, zEv x := by rw [← hev]; exact Cl c5 c7
  clear hev
  refine DZ (I := fun n s => ∃ (r : Qq) (j : Nat), Vr r ∧ j ≤ evs.length ∧ r.ff0 = (j : Int) ∧ s = (evs, (j : Int), Qfr r) ∧ n = evs.length - j) ?_ (k := evs.length) ⟨v2.1, 0, c2, by omega, c3, rfl, rfl⟩
  rintro n s ⟨r, j, hr, hj, he, rfl, hn⟩ X hX
  refine Wk (fun c => ?_) fun _ => hJ _ ⟨r, hr, by omega, rfl⟩
  have hj2 : j < evs.length := by simpa using c
  obtain ⟨q, hq, q1, q2⟩ := MZ hr (hz _ (List.getElem_mem hj2)) (by omega)
  have w : IntKind.i64.wrap ((j : Int) + 1) = ((j + 1 : Nat) : Int) := by rw [Vk (by omega)]; omega
  dsimp only [Qfr]
  rw [w]
  exact ⟨_, UC hj2, q, hq, hX (evs.length - (j + 1)) _ (by omega) ⟨q.1, j + 1, q1, by omega, by omega, rfl, rfl⟩⟩
theorem IN (a0 : Int) (a1 : List Int) (a2 a3 : Int) : Rr (Jj a0 a1 a2 a3) true := by
 unfold Rr
 rw [Jj.eq_1]
 obtain ⟨l, hl, hl2, _⟩ := EU a0 a1 a2
 have hp := OG l l.length
 obtain ⟨q, hq, hq1⟩ := Q5d (W4 l l.length) (W4 l l.length) (by omega)
 have := hq1 rfl
 subst this
 refine ⟨l, hl, _, Eh l (by omega), _, Q1e l (by omega), true, hq, Wk (fun c => by simp at c) fun _ => jmp (fun _ => True) (fun _ _ => ⟨true, AT, rfl⟩) fun J hJ => ?_⟩
 generalize W4 l l.length = o at hp ⊢
 refine DZ (I := fun n (s : List Q2 × List Int × Int) => ∃ j : Nat, j ≤ 3 ∧ s.1 = l ∧ s.2.1.length = o.length ∧ s.2.2 = (j : Int) ∧ n = 3 - j) ?_ (k := 3) ⟨0, by omega, rfl, rfl, rfl, rfl⟩
 rintro n ⟨l', b, i⟩ ⟨j, hj, h1, h2, h3, hn⟩ X hX
 dsimp only at *
 subst h1 h3
 refine Wk (fun c => ?_) fun _ => hJ _ trivial
 simp only [bfa, Bool.and_eq_true, decide_eq_true_eq] at c
 have x0 : ∀ x : Int, 0 ≤ (Qx .i64 x 15).tmod (b.length : Int) := fun x => tm0 (by rw [Qq2]; omega)
 have x1 : ∀ x : Int, (Qx .i64 x 15).tmod (b.length : Int) < b.length := fun x => tm1 (by rw [Qq2]; omega) (by omega)
 have w : IntKind.i64.wrap ((j : Int) + 1) = ((j + 1 : Nat) : Int) := by rw [Vk (by omega)]; omega
 refine ⟨(BJ _).1, by omega, (BJ _).1, by omega, ixi ⟨x0 _, x1 _⟩ fun v14 _ _ _ => ixi ⟨x0 _, x1 _⟩ fun v15 _ _ _ => ixi ⟨x0 _, x1 _⟩ fun v16 _ _ _ => LF (ixi ⟨x0 _, by rw [List.length_set]; exact x1 _⟩ fun v17 _ _ _ => LF ?_)⟩
 generalize hL : List.set (List.set b _ v14) _ v15 = L
 have hLl : L.length = o.length := by rw [← hL]; simpa using h2
 clear hL
 obtain ⟨r1, hr1, hx1⟩ := WR l' L (by omega) (by omega)
 obtain ⟨r2, hr2, hx2⟩ := PH l' L (by omega) (by omega)
 have : r1 = r2 := by rw [Bool.eq_iff_iff]; exact hx1.trans hx2.symm
 subst this
 refine ⟨r1, hr1, r1, hr2, Wk (fun c => by simp at c) fun _ => ?_⟩
 rw [w]
 exact hX (3 - (j + 1)) _ (by omega) ⟨j + 1, by omega, rfl, hLl, rfl, rfl⟩
theorem Qz8 {p1 p2 p3 p4 : Bool} (e2 : p1 = true → p3 = false) (e3 : p1 = true → p2 = true → p4 = true) : (bif (bif (bif !false then !(bif p1 then p3 else false) else false) then (bif (bif !p1 then true else !p2) then true else p4) else false) then true else false) = true := by
 cases p1 <;> cases p2 <;> cases p3 <;> cases p4 <;> first | rfl | exact absurd (e2 rfl) (by decide) | exact absurd (e3 rfl rfl) (by decide)
theorem Il (a0 : Int) (a1 : List Int) (a2 : Int) : Rr (KT a0 a1 a2) true := by
 unfold Rr
 rw [KT.eq_1]
 obtain ⟨l, hl, hl2, hs⟩ := EU a0 a1 491535
 obtain ⟨n, ss, hs⟩ := hs rfl
 refine ⟨l, hl, Wk (fun _ => ⟨true, AT, rfl⟩) fun c => ?_⟩
 have hc : ¬ (l.length : Int) < 3 := by simpa using c
 have x0 : ∀ x : Int, 0 ≤ (Qx .i64 x 31).tmod (l.length : Int) := fun x => tm0 (by rw [Qq3]; omega)
 have x1 : ∀ x : Int, (Qx .i64 x 31).tmod (l.length : Int) < l.length := fun x => tm1 (by rw [Qq3]; omega) (by omega)
 refine ⟨by omega, ixi ⟨x0 _, x1 _⟩ fun a _ ha _ => ⟨by omega, ixi ⟨x0 _, x1 _⟩ fun b _ hb _ => ⟨by omega, ixi ⟨x0 _, x1 _⟩ fun d _ hd _ => ?_⟩⟩⟩
 have oa := hs.rc _ a ha
 have ob := hs.rc _ b hb
 refine ⟨_, KF a b, _, KF b d, _, KF a a, _, fun _ => KF b a, _, fun _ => KF a d, true, fun _ => AT, ?_⟩
 have e1 := Qyd oa
 have e2 := Qqg oa ob
 have e3 := Qkj (a := a) (d := d) ob
 rw [e1]
 generalize Iy a b = p1 at *
 generalize Iy b d = p2 at *
 generalize Iy b a = p3 at *
 generalize Iy a d = p4 at *
 exact (Qz8 e2 e3).symm
theorem H1 (a0 : Int) (a1 : List Int) (a2 : Int) : Rr (Kb a0 a1 a2) true := by
 unfold Rr
 rw [Kb.eq_1]
 obtain ⟨l, hl, hl2, hs⟩ := EU a0 a1 491535
 obtain ⟨n, ss, hs⟩ := hs rfl
 obtain ⟨k, hk, hk2, _⟩ := EU a0 a1 a2
 obtain ⟨e, he, hV⟩ := WS l (by omega)
 obtain ⟨f, hf, hW⟩ := WS k (by omega)
 obtain ⟨g, hg, hX⟩ := PK k (by omega)
 have e0 : e = 0 := SG hV hs.val
 have e1 : f = g := SG hW hX
 subst e0 e1
 exact ⟨l, hl, k, hk, 0, he, f, fun _ => hf, f, fun _ => hg, true, fun _ => AT, by simp⟩
theorem Mv (a0 : Int) (a1 : List Int) : Rr (Vb a0 a1) true := by
 unfold Rr
 rw [Vb.eq_1]
 obtain ⟨v1, hv1, c1⟩ := (MX (a0 := Qx .i64 a0 65535)).go trivial
 obtain ⟨v2, hv2, c2, c3⟩ := Rx c1
 obtain ⟨v3, hv3, c4, c5⟩ := (OX (a0 := a1)).go trivial
 obtain ⟨v4, hv4, c6, c7⟩ := (MY (a0 := a1) (a1 := v1.fa5) (a2 := 50)).go ⟨by have := c1.1; omega, by decide⟩
 refine ⟨v1, hv1, v2, hv2, v3, hv3, v4, hv4, by omega, jmp (fun _ => True) (fun _ _ => ⟨true, AT, rfl⟩) fun J hJ => ?_⟩
 generalize hev : v3 ++ v4 = evs
 have hl : evs.length ≤ 1006 := by rw [← hev]; simp; omega
 have hz : ∀ x ∈ evs, zEv x := by rw [← hev]; exact Cl c5 c7
 clear hev
 refine DZ (I := fun n s => ∃ (r : Qq) (j : Nat), Vr r ∧ j ≤ evs.length ∧ r.ff0 = (j : Int) ∧ s = (evs, (j : Int), Qfr r) ∧ n = evs.length - j) ?_ (k := evs.length) ⟨v2.1, 0, c2, by omega, c3, rfl, rfl⟩
 rintro n s ⟨r, j, hr, hj, he, rfl, hn⟩ X hX
 refine Wk (fun c => ?_) fun _ => hJ _ trivial
 have hj2 : j < evs.length := by simpa using c
 obtain ⟨q, hq, q1, q2⟩ := MZ hr (hz _ (List.getElem_mem hj2)) (by omega)
 have w : IntKind.i64.wrap ((j : Int) + 1) = ((j + 1 : Nat) : Int) := by rw [Vk (by omega)]; omega
 dsimp only [Qfr]
 rw [w]
 refine jmp (fun p => p = (evs, Qfr q.1)) ?_ fun K hK => ⟨_, UC hj2, q, hq, ?_⟩
 ·rintro _ rfl
  exact hX (evs.length - (j + 1)) _ (by omega) ⟨q.1, j + 1, q1, by omega, by omega, rfl, rfl⟩
 ·have hel := q1.el
  obtain ⟨e, he', hV⟩ := WS q.1.fd0 (by omega)
  have e0 : e = 0 := SG hV q1.hs.val
  subst e0
  obtain ⟨t, ht, hT⟩ := WR q.1.fd0 (W4 q.1.fd0 q.1.fd0.length) (by omega) (by have := OG q.1.fd0 q.1.fd0.length; omega)
  have t0 : t = true := hT.2 q1.hs.rt
  subst t0
  exact Wk (fun _ => ⟨0, he', Wk (fun c => by simp at c) fun _ => ⟨_, Eh _ (by omega), true, ht, Wk (fun c => by simp at c) fun _ => hK _ rfl⟩⟩) fun _ => hK _ rfl
set_option maxRecDepth 100000
set_option maxHeartbeats 4000000
instance Qui : Dq := Q34
instance Qrg : BS := Q08
instance Q7n : Wt := Ip
instance Z2v : Lt := Qbq
instance Qcx : As := MJ
instance Z2w : FX := Qbo
instance Z2x : FY := Qbu
instance Quj : AN := Q2r
instance y_base_At : CX := Qkx
instance Qza : Ex := Q7a
instance Z59 : F6 := Qfy
instance Qzb : Ey := Q6o
instance Z2y : Lu := Qbr
instance Qzc : Ez := Q6u
instance Qzd : EA := Q7c
instance Qrh : BU := Q0e
instance Q7o : KP := Iq
instance Quk : ZF := Q2s
instance Qbx : Kt := M5
instance Q48 : ZB := Hl
instance Q8k : ZO := L0
instance Qze : KQ := Q7h
instance Z2z : Yx := Qbp
instance Qul : Dr := Q2y
instance Qfz : Ku := O2
instance Q49 : ZC := Hk
instance Qby : ZL := M6
instance Qmk : WZ := Sa
instance Qcy : Au := MD
instance Qig : BV := P5
instance Qg0 : XY := O3
instance Qri : F7 := Q0o
instance Qcz : Av := MK
instance Qkz : CY := R2
instance Qzf : HD := Q6x
instance Qzg : HE := Q7b
instance Ql0 : Vm := R5
instance Z30 : VM := Qbm
instance Z31 : UN := Qbe
instance Qg1 : B8 := NS
instance Z32 : FZ := Qbf
instance Q8l : Uc := IS
instance Qd0 : Aw := Mx
instance Z33 : E0 := Qbj
instance Ql1 : D1 := R9
instance Q8m : Ud := IW
instance Qg2 : B9 := NZ
instance Qml : E6 := Sr
instance Qzh : Ai := Q6y
instance Qrj : W9 := Q09
instance Qzi : HF := Q6p
instance Qum : Gq := Q3e
instance Qg3 : Ba := O4
instance Ql2 : D2 := PZ
instance Qun : Gr := Q3c
instance Qg4 : Bb := O0
instance Qmm : E7 := Sb
instance Z34 : G0 := Qbg
instance Qd1 : ZG := MA
instance Ql3 : Aj := Ra
instance Qrk : F8 := Q0f
instance Z5a : Bc := Qfu
instance Qmn : AX := Sn
instance Qg5 : Be := O6
instance Z5b : F9 := Qfv
instance Z35 : G5 := Qbb
instance Qzj : EB := Q74
instance Z5c : Nk := Qfx
instance Quo : Gs := Q2d
instance Z36 : G6 := Qbi
instance Q8n : Ue := L5
instance Qmo : E8 := Sd
instance Qd2 : Ax := My
instance Z37 : BG := Qbn
instance Z5d : Wy := Qfw
instance Qzk : EC := Q75
instance Ql4 : D3 := R7
instance Qzl : ED := Q6z
instance Qzm : EE := Q77
instance Q8o : Uf := Lb
instance Qmp : AY := Sj
instance Qup : Gt := Q2p
instance Quq : Gu := Q3d
instance Z5e : Nl := Qfs
instance Qur : Dt := Q2e
instance Qg6 : Bh := NQ
instance Qrl : BW := Q0p
instance Z38 : Lv := Qbd
instance Qus : Gv := Q3a
instance y_base_Op : Pw := Qky
instance Qmq : E9 := Sp
instance Qzn : EF := Q6s
instance Qut : Du := Q2k
instance Qrm : UP := Q0y
instance Z5f : HG := Qft
instance Qzo : EG := Q78
instance Qrn : Fa := Q02
instance Quu : Jl := Q30
instance Quv : Dv := Q2l
instance Q8p : Vj := IQ
instance Ql5 : Ak := Re
instance Qbz : UQ := M0
instance Qro : BX := Q03
instance Qc0 : YD := LV
instance Qih : BY := P6
instance Quw : AO := Q35
instance Z39 : BI := Qbk
instance Qg7 : Wz := O1
instance Qrp : Fb := Q0h
instance Qmr : Yn := Ss
instance Qux : U3 := Q2m
instance Qrq : BZ := Q0a
instance Qrr : C0 := Q0v
instance Qd3 : Ay := Mz
instance Qms : Yo := Si
instance Qzp : HH := Q7d
instance Quy : U4 := Q36
instance Qzq : HI := Q70
instance Qrs : C1 := Q0r
instance Qzr : C2 := Q79
instance Qmt : Xl := Su
instance Qii : Xd := P0
instance Qrt : C3 := Q0b
instance Qc1 : ZZ := M1
instance Qg8 : Ky := NO
instance Qg9 : Bi := NT
instance Qij : C4 := P7
instance Qga : WC := NN
instance Q8q : Ug := IX
instance Qd4 : Az := ME
instance Qik : C5 := P9
instance Qgb : Y1 := NV
instance Ql6 : D4 := Rj
instance Q8r : Uh := IR
instance Qgc : Bj := NR
instance Qru : UR := Q0w
instance Quz : Gw := Q2h
instance Qrv : Fc := Q0g
instance Z3a : E2 := Qbs
instance Qv0 : Dw := Q2f
instance Qrw : V2 := Q0k
instance Qil : UA := P1
instance Qim : YF := Pb
instance Qv1 : Dx := Q31
instance Qzs : EH := Q7m
instance Qv2 : Dy := Q2n
instance Qrx : Fe := Q0c
instance Qzt : HJ := Q7j
instance Q8s : Yj := IP
instance Q8t : Ui := IV
instance Z3b : Lw := Qbt
instance Z3c : G7 := Qbc
instance Qv3 : Gx := Q37
instance Qv4 : Gy := Q2t
instance Qin : C6 := Pd
instance Qc2 : UT := LX
instance Qgd : Bl := O7
instance Qry : C7 := Q04
instance Qmu : Ea := Se
instance Qc3 : UU := M2
instance Qio : C8 := OZ
instance Qv5 : Gz := Q2v
instance Qv6 : U5 := Q39
instance Qrz : Ff := Q00
instance Ql7 : Wa := Rf
instance Qzu : HK := Q71
instance Qs0 : C9 := Q0s
instance Qv7 : Dz := Q32
instance Qs1 : Fi := Q0z
instance Qs2 : Fj := Q05
instance Qzv : EI := Q6v
instance Q3h : Jn := H3
instance Qzw : Ca := Q6t
instance Qv8 : DC := Q2w
instance Qzx : HL := Q7e
instance Qs3 : Cb := Q01
instance Qs4 : Fl := Q0l
instance Qzy : HN := Q72
instance Qzz : HO := Q7i
instance Qs5 : UV := Q0i
instance Qs6 : Cc := Q10
instance Qv9 : DD := Q2o
instance Ql8 : D5 := R4
instance Qs7 : UW := Q0x
instance Qmv : Eb := Sc
instance Z00 : HP := Q76
instance Z01 : HQ := Q7f
instance Q8u : Uj := IO
instance Qmw : Ec := Sm
instance Qs8 : Fo := Q0d
instance Qva : GA := Q3b
instance Qvb : GB := Q33
instance Qmx : Ed := Sv
instance Qs9 : Wb := Q06
instance Qmy : U0 := Sf
instance Qip : UB := Pe
instance Q4a : Wc := Hj
instance Qd5 : AA := MF
instance Qsa : Fs := Q0q
instance Qvc : GC := Q2g
instance Q8v : Uk := IY
instance Z3d : G8 := Qbl
instance Z3e : Lx := Qbv
instance Qmz : Ee := Sk
instance Z3f : G9 := Qbw
instance Z3g : Ly := Qbh
instance Q8w : Ul := IT
instance Qge : Bm := O5
instance Ql9 : D6 := R0
instance Qd6 : AB := MG
instance Qgf : Bn := NX
instance Z02 : EJ := Q6q
instance Qsb : Ft := Q0m
instance Z03 : HR := Q73
instance Qsc : Fu := Q0t
instance Qsd : Fv := Q0j
instance Qvd : GD := Q3f
instance Qse : Fw := Q07
instance Z04 : HU := Q6w
instance Z05 : HW := Q7k
instance Qve : DF := Q2i
instance Qvf : GE := Q2x
instance Z06 : Cd := Q7g
instance Qla : Hc := PY
instance Qvg : GF := Q38
instance Qvh : GG := Q2u
instance Qsf : Fx := Q0u
instance Qlb : Am := Rb
instance Qd7 : Xs := ML
instance Qlc : D7 := R3
instance Qn0 : Eg := Sg
instance Q4b : Wd := Hm
instance Qvi : DG := Q2j
instance Qc4 : UZ := LW
instance Qiq : Ce := P8
instance Qir : Cf := OY
instance Qld : D8 := Rh
instance Qis : Cg := P3
instance Qc5 : A1 := LZ
instance Qle : Hd := Rc
instance Qit : Ch := Pf
instance Qc6 : A4 := LU
instance Q7p : WO := Im
instance Qlf : D9 := Ri
instance Qgg : Yf := NP
instance Qgh : Bo := NU
instance Qc7 : A5 := LY
instance Z07 : HX := Q6r
instance Qsg : Fy := Q0n
instance Qlg : Da := R6
instance Qn1 : U1 := Sq
instance Qgi : Vz := NW
instance Qgj : Yh := NY
instance Qvj : U6 := Q3g
instance Q3i : AP := H2
instance Qvk : GH := Q2q
instance Z08 : HY := Q7l
instance Qlh : Db := R1
instance Qli : Dc := R8
instance Q8x : CQ := IZ
instance Qd8 : Et := Mw
instance Q7q : Ci := Io
theorem HistoryValidates_walk (a0 : Int) (v1 : Value) (l1 : List Int) (a2 : Int) (w : World) (h0 : (Lit.int .i64 a0).wf = true) (h1 : Ints .i64 w v1 l1) (s1 : l1.length * Tryz.prog.bytesOf 3 ≤ 140737488351232) (h2 : (Lit.int .i64 a2).wf = true) :
  Calls Tryz.prog 3 #[.int .i64 a0, v1, .int .i64 a2] w fun e w' => e = .returned (.bool true) ∧ Below w.heap.size w w' := by
 refine (Yt (A := fun x => x < w.heap.size) (vs := #[.int .i64 a0, v1, .int .i64 a2]) (g := 0) (q := 0) (Lc (H1 a0 l1 a2)) rfl (fun x h => h) ⟨.v _ h0, Hs h1 (fun _ _ _ g _ _ hg => hg), .v _ h2, trivial⟩).mono ?_
 rintro e w' ⟨rfl, hg⟩
 exact ⟨rfl, BN hg⟩
theorem HistoryOrders_walk (a0 : Int) (v1 : Value) (l1 : List Int) (a2 a3 : Int) (w : World) (h0 : (Lit.int .i64 a0).wf = true) (h1 : Ints .i64 w v1 l1) (s1 : l1.length * Tryz.prog.bytesOf 3 ≤ 140737488351232) (h2 : (Lit.int .i64 a2).wf = true) (h3 : (Lit.int .i64 a3).wf = true) :
  Calls Tryz.prog 4 #[.int .i64 a0, v1, .int .i64 a2, .int .i64 a3] w fun e w' => e = .returned (.bool true) ∧ Below w.heap.size w w' := by
 refine (Yt (A := fun x => x < w.heap.size) (vs := #[.int .i64 a0, v1, .int .i64 a2, .int .i64 a3]) (g := 0) (q := 0) (Lc (IN a0 l1 a2 a3)) rfl (fun x h => h) ⟨.v _ h0, Hs h1 (fun _ _ _ g _ _ hg => hg), .v _ h2, .v _ h3, trivial⟩).mono ?_
 rintro e w' ⟨rfl, hg⟩
 exact ⟨rfl, BN hg⟩
theorem HistoryTrue_walk (a0 : Int) (v1 : Value) (l1 : List Int) (w : World) (h0 : (Lit.int .i64 a0).wf = true) (h1 : Ints .i64 w v1 l1) (s1 : l1.length * Tryz.prog.bytesOf 3 ≤ 140737488351232) :
  Calls Tryz.prog 5 #[.int .i64 a0, v1] w fun e w' => e = .returned (.bool true) ∧ Below w.heap.size w w' := by
 refine (Yt (A := fun x => x < w.heap.size) (vs := #[.int .i64 a0, v1]) (g := 0) (q := 0) (Lc (Mv a0 l1)) rfl (fun x h => h) ⟨.v _ h0, Hs h1 (fun _ _ _ g _ _ hg => hg), trivial⟩).mono ?_
 rintro e w' ⟨rfl, hg⟩
 exact ⟨rfl, BN hg⟩
theorem HistoryPartial_walk (a0 : Int) (v1 : Value) (l1 : List Int) (a2 : Int) (w : World) (h0 : (Lit.int .i64 a0).wf = true) (h1 : Ints .i64 w v1 l1) (s1 : l1.length * Tryz.prog.bytesOf 3 ≤ 140737488351232) (h2 : (Lit.int .i64 a2).wf = true) :
  Calls Tryz.prog 6 #[.int .i64 a0, v1, .int .i64 a2] w fun e w' => e = .returned (.bool true) ∧ Below w.heap.size w w' := by
 refine (Yt (A := fun x => x < w.heap.size) (vs := #[.int .i64 a0, v1, .int .i64 a2]) (g := 0) (q := 0) (Lc (Il a0 l1 a2)) rfl (fun x h => h) ⟨.v _ h0, Hs h1 (fun _ _ _ g _ _ hg => hg), .v _ h2, trivial⟩).mono ?_
 rintro e w' ⟨rfl, hg⟩
 exact ⟨rfl, BN hg⟩
end Go.Proofs.YtikagchjeogchaaGreat
