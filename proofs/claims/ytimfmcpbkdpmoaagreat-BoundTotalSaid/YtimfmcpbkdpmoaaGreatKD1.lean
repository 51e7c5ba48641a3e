/- Parts of the proof, laid together. No condition. -/
import Derived.Test.YtimfmcpbkdpmoaaGreatKT1
import Derived.Test.YtimfmcpbkdpmoaaGreatKT2
import Derived.Test.YtimfmcpbkdpmoaaGreatKT3
import Derived.Test.YtimfmcpbkdpmoaaGreatKT4
import Derived.Test.YtimfmcpbkdpmoaaGreatKT5
import Derived.Test.YtimfmcpbkdpmoaaGreatKT6
import Derived.Test.YtimfmcpbkdpmoaaGreatKT7
import Derived.Test.YtimfmcpbkdpmoaaGreatKT8
import Derived.Test.YtimfmcpbkdpmoaaGreatKT9
import Derived.Test.YtimfmcpbkdpmoaaGreatKT10
import Derived.Test.YtimfmcpbkdpmoaaGreatKT11
import Derived.Test.YtimfmcpbkdpmoaaGreatKT12
import Derived.Test.YtimfmcpbkdpmoaaGreatKU1
import Derived.Test.YtimfmcpbkdpmoaaGreatKU2
import Derived.Test.YtimfmcpbkdpmoaaGreatKU3
import Derived.Test.YtimfmcpbkdpmoaaGreatKU4
import Derived.Test.YtimfmcpbkdpmoaaGreatKU5
import Derived.Test.YtimfmcpbkdpmoaaGreatKU6
import Derived.Test.YtimfmcpbkdpmoaaGreatKU7
import Derived.Test.YtimfmcpbkdpmoaaGreatKU8
import Derived.Test.YtimfmcpbkdpmoaaGreatKC1
import Derived.Below
set_option linter.unusedVariables false
set_option linter.unusedSimpArgs false
namespace Go.Proofs.YtimfmcpbkdpmoaaGreat
open Go.RowKit
set_option maxRecDepth 100000
set_option maxHeartbeats 4000000
instance : Bq := R4
instance : Br := R5
instance : ZA := SK
instance : Bs := Rt
instance : Wn := H2
instance Q7b : Oi := Q70
instance IT : Dg := IR
instance : Wx := T3
instance : Wy := SL
instance : GL := Q2i
instance : D6 := OF
instance : GN := Q2w
instance : Yl := Ij
instance : Ej := R6
instance : Bt := MS
instance : Ek := Rc
instance : Ax := Qb6
instance : FC := T9
instance : Um := Rl
instance : UN := IK
instance : Bu := Rb
instance : Dv := Q2j
instance : Bv := Q2p
instance : Cp := Ta
instance : El := Rm
instance : JJ := SN
instance : Jg := FR
instance : XW := Hi
instance : GO := Q2q
instance : Em := Ru
instance : Eo := Rn
instance : FD := SO
instance : WN := He
instance : Ay := LS
instance : WO := Hl
instance : Dw := Q2x
instance : Ep := Ro
instance : Cq := SP
instance : GP := Q2e
instance : Cs := SU
instance : Bw := Rf
instance : Cu := Tc
instance : By := Rp
instance : Y2 := Oy
instance : BA := R1
instance : Y3 := OA
instance : X1 := OC
instance : BB := Rh
instance : BC := Q2y
instance : Wz := T4
instance : Dx := Q28
instance : BD := R2
instance : Ia := Q6w
instance : GQ := Q2k
instance : Er := Ri
instance : CK := Q78
instance : UY := T5
instance : Es := R7
instance : FE := SH
instance : FF := SR
instance : GR := Q2l
instance : BE := Rj
instance : Cv := Td
instance : D7 := OG
instance : KM := Q29
instance : ZB := IJ
instance : V1 := H3
instance : XX := Hj
instance : LH := Qb7
instance : GT := Q2z
instance : FG := T6
instance NQ : G5 := NJ
instance : Kw := Ig
instance : Zv := G7
instance : ZN := Hk
instance : Ym := Q72
instance : Cw := Te
instance : Kx := LX
instance : Zw := G6
instance : ZH := Ih
instance : A9 := OB
instance : UO := IM
instance : BF := MX
instance : Wo := LZ
instance : Et := Rq
instance : UP := IL
instance : C2 := NG
instance : GU := Q2f
instance : GV := Q2m
instance : Vn := NN
instance : VK := Q79
instance : Un := Q76
instance : Az := LM
instance : EV := Q6r
instance : WP := Hf
instance : UQ := IN
instance : CL := Q73
instance : C3 := NO
instance : WQ := Ho
instance : AA := LN
instance : D8 := Ou
instance : AB := LQ
instance : C4 := NM
instance : FH := SZ
instance : AC := M0
instance : D9 := OH
instance : UA := NK
instance : Aa := Ov
instance : AD := LR
instance : Eu := Qb5
instance : EW := Q74
instance : Dy := Q30
instance : LI := Qb9
instance : FI := SQ
instance : EX := Q6s
instance : WR := Hg
instance : Da := OD
instance : UR := IP
instance : AP := Q7a
instance : Wp := Qba
instance : Dz := Q2a
instance : C5 := NH
instance : DC := Q2g
instance : DD := Q2n
instance : WS := Hm
instance : Ab := OK
instance : VO := MZ
instance : UB := Q2b
instance : BG := R3
instance : FJ := SS
instance : FK := SV
instance : LJ := Qb8
instance : Cy := Tf
instance : AE := LU
instance : BH := N3
instance : ZX := Ik
instance : Ky := LO
instance : AF := LK
instance : BI := MU
instance : Wq := LV
instance : WT := Hn
instance : US := IS
instance : BJ := N2
instance : XT := LP
instance : C6 := NI
instance : WU := Hh
instance : AG := LW
instance : BK := MY
instance : Uo := Il
instance : AH := LY
instance : BL := R8
instance : Db := Ow
instance : Up := Ii
instance : YO := G8
instance : UT := IQ
instance : Ev := Rv
instance : FL := T7
instance : WV := Hc
instance : EY := Q6t
instance : Ib := Q6x
instance : Dc := OE
instance : EZ := Q75
instance : BM := Rw
instance : FM := T8
instance : YP := R9
instance : Uq := Re
instance : Wt := Ox
instance : U2 := MV
instance : F0 := Q6y
instance : FN := SX
instance : GW := Q2r
instance : Ew := Ry
instance : V2 := Rs
instance : Yn := MR
instance Q7i : CM := Q6u
instance : Cz := SI
instance : U3 := MW
instance : F1 := Q71
instance : FO := T0
instance : Ex := PZ
instance : GX := Q2s
instance : GY := Q2t
instance : YQ := NF
instance : YR := Rz
instance : Ic := Q77
instance : WW := Hd
instance : AI := LL
instance : C7 := NL
instance : UU := IO
instance : Ey := Rk
instance : Ez := RA
instance : Ur := R0
instance : C8 := NP
instance : GZ := Q2u
instance : Dd := OI
instance : EA := Ra
instance Q33 : MP := Q2c
instance Tj : Ld := SJ
instance : F2 := Q6z
instance : UZ := SY
instance : C9 := Qg0
instance Q34 : MQ := Q26
instance : EB := Qbb
instance : DF := Q2v
instance : Ie := Q6v
instance : DG := Q27
instance : DI := Q2h
instance : H0 := Q2o
instance : FP := T1
instance : If := Q6q
instance : FQ := Tg
instance : NE := Qfz
instance : De := OJ
instance : H1 := Q2d
instance Tk : Le := T2
end Go.Proofs.YtimfmcpbkdpmoaaGreat

namespace Go.Proofs.YtimfmcpbkdpmoaaGreat
open Go.RowKit
theorem IF {α : Type} {l : List α} {k : Nat} {a x : α} (h : l[k]? = some x) : (l.set k a)[k]? = some a := by
 have := (List.getElem?_eq_some_iff.1 h).1
 simp [this]
def Rx (ss : List Q6) (n : Nat) : Prop := ∀ (k : Nat) x, ss[k]? = some x → x.ff6 = true → 0 ≤ x.fd8 ∧ x.fd8 < (n : Int)
theorem Rx.set {ss : List Q6} {n m : Nat} (h : Rx ss n) (hm : n ≤ m) {k : Nat} {y : Q6} (hy : y.ff6 = true → 0 ≤ y.fd8 ∧ y.fd8 < (m : Int)) : Rx (ss.set k y) m := fun j z hz zb => by
 rcases Pk hz with ⟨_, rfl⟩ | ⟨_, hz⟩
 ·exact hy zb
 ·have := h j z hz zb; omega
structure Vr (r : Qm) : Prop where
 st : UC r.fx
 se : ∀ x ∈ r.fa2, zSe x
 e0 : 0 ≤ r.ff1
 el : (r.ff0.length : Int) ≤ r.ff1
 sz : r.fa2.length ≤ 64
 bs : Rx r.fa2 r.ff0.length
theorem zS0 : zS (Q9.mk (Q7.mk 0 0 0 0) (Qd.mk 0 0 false) (Q3.mk 0 0 0 [] false) (Q8.mk 0 0 []) (Qf.mk 0 0 [] false) (Q4.mk 0 0 0 [] false) (Qa.mk 0 0 0 [] false)) :=
 ⟨⟨by simp, by show (0 : Int) ≤ 2; decide, by show (0 : Int) ≤ 4; decide⟩, by simp, ⟨by simp, ZT⟩, ⟨by simp, ZT⟩, by simp, ZT, by show (0 : Int) ≤ 4; decide⟩
theorem zOp0 : zOp (Qv.mk 0 ByteArray.empty ByteArray.empty [] (Q7.mk 0 0 0 0) [] [] 0 0 0 0 0 0 (Qs.mk 0 ByteArray.empty 0 0 0) []) :=
 ⟨by simp, by simp, by simp, by simp, ZT, by simp, by simp, ZT, ZT, ⟨by show (0 : Int) ≤ 2; decide, by show (0 : Int) ≤ 4; decide⟩, Gd.nil⟩
def PkP (s : Q2) (x : Q6) (t : Q2) (y : Q6) : Prop :=
 Sv s → Bsy s x → Sv t ∧ t.fj = s.fj ∧ ((y.ff6 = true ∧ y.fOp = x.fOp ∧ Kp s t ∧ Bsy t y ∧ ∀ p, rem t p y + 1 ≤ rem s p x) ∨ (y.ff6 = false ∧ (Kp s t ∨ Mo s t)))
theorem Im {a0 : List Q6} {a1 : Int} {a2 : Qv} {a3 : Int} (hl : a0.length ≤ 64) (hz : ∀ x ∈ a0, zSe x) (ho : zOp a2) : ∃ r, Rr (Kq a0 a1 a2 a3) r ∧ (r.2 = 0 → ∃ x y : Q6, 0 ≤ a1 ∧ a0[a1.toNat]? = some x ∧ x.ff6 = false ∧ (1 ≤ y.fOp.fa0 ∧ y.fOp.fa0 ≤ 17) ∧ y.ff6 = true ∧ y.fd8 = a3 ∧ zSe y ∧ y.fa.fc5 = 0 ∧ r.1 = a0.set a1.toNat y) := by
 refine ex_ ?_
 rw [Kq.eq_1]
 refine Z5 (fun _ => fun c => by simp at c) fun c0 => ?_
 simp only [CJ, Bool.or_eq_false_iff, decide_eq_false_iff_not] at c0
 obtain ⟨ve, hve, hvk⟩ := (NQ (a0 := a2)).go ho
 refine ⟨ve, hve, Z5 (fun c1 c => absurd c (by simpa using c1)) fun c1 => ?_⟩
 have v0 : ve = 0 := by simpa using c1
 obtain ⟨x, hx, hxm⟩ := Zp (l := a0) (n := a1) (by omega) (by omega)
 have hs := hz x (List.mem_of_getElem? hxm)
 refine ⟨x, hx, Z5 (fun _ c => by simp at c) fun cb => ⟨by omega, x, hx, U0 (U0 (U0 (U0 ?_)))⟩⟩
 intro _
 refine ⟨x, _, by omega, hxm, cb, ?_, ?_, ?_, ?_, ?_, by simp only [List.set_set]; rfl⟩
 ·exact hvk v0
 ·rfl
 ·rfl
 ·exact ⟨hs.1, hs.2.1, hs.2.2.1, ho, ⟨⟨by simp, by simp⟩, zS0, zS0, by simp, by simp, ZT, by simp, by simp, by simp, by simp, by simp, ZT⟩, fun _ => by simp⟩
 ·rfl
theorem ED {a0 : List Q6} {a1 : Int} {x : Q6} (hl : a0.length ≤ 64) (h0 : 0 ≤ a1) (hx : a0[a1.toNat]? = some x) (hb : x.ff6 = true) (hs : zSe x) : ∃ r, Rr (Kr a0 a1) r ∧ ∃ y : Q6, y.ff6 = false ∧ zSe y ∧ r.1 = a0.set a1.toNat y := by
 have hlt := (List.getElem?_eq_some_iff.1 hx).1
 refine ex_ ?_
 rw [Kr.eq_1]
 refine Z5 (fun c => ?_) fun c0 => ?_
 ·simp only [CJ, Bool.or_eq_true, decide_eq_true_eq] at c; omega
 refine ⟨x, ⟨h0, hx⟩, Z5 (fun c => by rw [hb] at c; cases c) fun cb => ⟨by omega, x, ⟨h0, hx⟩, U0 (U0 (U0 (U0 ?_)))⟩⟩
 refine ⟨_, ?_, ?_, by simp only [List.set_set]; rfl⟩
 ·rfl
 ·exact ⟨hs.1, hs.2.1, hs.2.2.1, zOp0, ⟨⟨by simp, by simp⟩, zS0, zS0, by simp, by simp, ZT, by simp, by simp, by simp, by simp, by simp, ZT⟩, fun _ => by simp⟩
def CpP (s : Q2) (ss : List Q6) (n : Nat) (k : Nat) (x : Q6) (e : Int) (r : Qm) : Prop :=
 UC r.fx ∧ (∀ x ∈ r.fa2, zSe x) ∧ r.ff0.length = n ∧ Rx r.fa2 n ∧ r.ff1 = e ∧ ∃ y : Q6, r.fa2 = ss.set k y ∧ PkP s x r.fx y
theorem RE {s : Q2} {ss : List Q6} {l : List QI} {e a1 n : Int} {x : Q6} (st : UC s) (se : ∀ x ∈ ss, zSe x) (sz : ss.length ≤ 64) (bs : Rx ss l.length) (h0 : 0 ≤ a1) (hx : ss[a1.toNat]? = some x) (hb : x.ff6 = true) :
  ∃ r, Rr (XD (Qm.mk s ss l e) a1 n) r ∧ CpP s ss l.length a1.toNat x e r.1 := by
 obtain ⟨q0, q1⟩ := bs _ x hx hb
 obtain ⟨q, hq⟩ : ∃ q, l[x.fd8.toNat]? = some q := ⟨l[x.fd8.toNat]'(by omega), by simp⟩
 have zx := se x (List.mem_of_getElem? hx)
 refine ex_ ?_
 rw [XD.eq_1]
 obtain ⟨u, hu, ⟨hu1, _⟩, huk⟩ := (Q7i (a0 := s) (a1 := x.fa)).go ⟨st, zx.2.2.2.2.1⟩
 obtain ⟨v, hv, y, y1, y2, y3⟩ := ED sz h0 hx hb zx
 refine ⟨x, ⟨h0, hx⟩, u, hu, q, ⟨q0, hq⟩, U0 ⟨_, ⟨q0, IF hq⟩, U0 ⟨_, ⟨q0, IF (IF hq)⟩, U0 ⟨v, hv, hu1, ?_, ?_, ?_, rfl, y, y3, fun h1 _ => ⟨(huk h1).2, (huk h1).1.g, .inr ⟨y1, .inl (huk h1).1⟩⟩⟩⟩⟩⟩
 ·rw [y3]; exact XS se y2
 ·simp
 ·rw [y3]; exact bs.set (Nat.le_refl _) fun h => by rw [y1] at h; cases h
theorem Q35 {s : Q2} {ss : List Q6} {l : List QI} {e a1 n : Int} {x : Q6} (st : UC s) (se : ∀ x ∈ ss, zSe x) (sz : ss.length ≤ 64) (bs : Rx ss l.length) (h0 : 0 ≤ a1) (hx : ss[a1.toNat]? = some x) (hb : x.ff6 = true) :
  ∃ r, Rr (Wm (Qm.mk s ss l e) a1 n) r ∧ CpP s ss l.length a1.toNat x e r.1 := by
 obtain ⟨q0, q1⟩ := bs _ x hx hb
 obtain ⟨q, hq⟩ : ∃ q, l[x.fd8.toNat]? = some q := ⟨l[x.fd8.toNat]'(by omega), by simp⟩
 have zx := se x (List.mem_of_getElem? hx)
 refine ex_ ?_
 rw [Wm.eq_1]
 obtain ⟨t, ht, ⟨tst, tma, trs⟩, ⟨tc, td, tsn⟩, ⟨t1, t2, t3, t4⟩, t5, tsy, tb⟩ := (Q33 (a0 := s) (a1 := x)).go ⟨st, zx⟩
 have hx2 : (ss.set a1.toNat t.2)[a1.toNat]? = some t.2 := IF hx
 have zt : zSe t.2 := ⟨tc, td, tsn, by rw [t1]; exact zx.2.2.2.1, by rw [t2]; exact zx.2.2.2.2.1, by rw [t1, t2]; exact zx.2.2.2.2.2⟩
 have on : t.1.fg3 = false → ∀ y : Q6, y.fOp = t.2.fOp → y.fa = t.1.fa → y.ff6 = t.2.ff6 → PkP s x t.1.fx y := fun nd y yo ym yb h1 h2 => by
  obtain ⟨g1, g2, g3, _⟩ := tsy h1
  have zo := zx.2.2.2.1
  have pb := Qyf (p := s.fj.fb6) (n := (x.fOp.fc6.length : Int)) (by have := zo.2.2.2.1; omega)
  have w := fun pp => Qum (p := pp) ⟨zo.2.1, zo.1⟩ pb st.1.2.1.2 st.1.2.2.2.2.2.1 h2 (g3 nd) tb nd (yo.trans t1) ym
  exact ⟨g2, g1, .inl ⟨by rw [yb, t3]; exact hb, yo.trans t1, g3 nd, (w 0).1, fun pp => (w pp).2⟩⟩
 have fin : ∀ y : Q6, y.ff6 = false → PkP s x t.1.fx y := fun y yb h1 _ => by
  obtain ⟨g1, g2, _, g4⟩ := tsy h1
  exact ⟨g2, g1, .inr ⟨yb, g4⟩⟩
 refine ⟨x, ⟨h0, hx⟩, q, ⟨q0, hq⟩, t, ht, Z5 (fun cd => U0 ?_) fun _ => U0 (U0 ?_)⟩
 ·have zy : zSe (Q6.mk t.2.ff6 t.2.fOp t.1.fa t.2.fd8 t.2.fd1 t.2.ff7) := ⟨tc, td, tsn, by dsimp only; rw [t1]; exact zx.2.2.2.1, tma, by dsimp only; rw [t1]; exact t5⟩
  have sy := XS (n := a1.toNat) se zy
  have nd : t.1.fg3 = false := by simpa using cd
  have rx : Rx (ss.set a1.toNat (Q6.mk t.2.ff6 t.2.fOp t.1.fa t.2.fd8 t.2.fd1 t.2.ff7)) l.length := bs.set (Nat.le_refl _) fun _ => by dsimp only; rw [t4]; exact ⟨q0, q1⟩
  exact joi (Z5 (fun c => U0 ⟨tst, by simp only [List.set_set]; exact sy, by simp, by simp only [List.set_set]; exact rx, rfl, Q6.mk t.2.ff6 t.2.fOp t.1.fa t.2.fd8 t.2.fd1 t.2.ff7, by simp only [List.set_set], on nd _ rfl rfl rfl⟩) fun _ => ⟨tst, by simp only [List.set_set]; exact sy, rfl, by simp only [List.set_set]; exact rx, rfl, Q6.mk t.2.ff6 t.2.fOp t.1.fa t.2.fd8 t.2.fd1 t.2.ff7, by simp only [List.set_set], on nd _ rfl rfl rfl⟩)
 ·refine AR (fun p => p.1 = ss.set a1.toNat t.2 ∧ p.2.length = l.length) ?_ fun J hJ => Z5 (fun c => U0 (hJ _ ⟨rfl, by simp⟩)) fun c => hJ _ ⟨rfl, by simp⟩
  rintro ⟨p1, p2⟩ ⟨rfl, hp2⟩
  dsimp only at hp2 ⊢
  obtain ⟨v, hv, y, y1, y2, y3⟩ := ED (by simpa using sz) h0 hx2 (by rw [t3]; exact hb) zt
  refine ⟨v, hv, tst, ?_, hp2, ?_, rfl, y, by rw [y3, List.set_set], fin y y1⟩
  ·rw [y3, List.set_set]; exact XS se y2
  ·rw [y3, List.set_set]; exact bs.set (Nat.le_refl _) fun h => by rw [y1] at h; cases h
theorem PkP.bi {s t : Q2} {ss : List Q6} {k : Nat} {x y : Q6} (p : PkP s x t y) (h : Bi s ss) (hx : ss[k]? = some x) (hb : x.ff6 = true) : Bi t (ss.set k y) ∧ t.fj = s.fj := by
 obtain ⟨a, g, b | b⟩ := p h.sv (h.b k x hx hb).1
 ·exact ⟨h.on hx hb b.2.1 b.2.2.1 a b.2.2.2.1, g⟩
 ·exact ⟨h.fin a g b.2 b.1, g⟩
theorem PkP.sm {s t : Q2} {ss : List Q6} {k : Nat} {x y : Q6} (p : PkP s x t y) (h : Bi s ss) (hc : s.f7 ≤ s.fj.fc3) (hx : ss[k]? = some x) (hb : x.ff6 = true) : sm t (pc (ss.set k y)) (ss.set k y) + 1 ≤ sm s (pc ss) ss := by
 obtain ⟨a, g, b | b⟩ := p h.sv (h.b k x hx hb).1
 ·exact sm_on hx hb b.1 b.2.2.1 (b.2.2.2.2 _)
 ·exact Z15 hx hb b.1 g b.2 hc
structure ApP (r : Qm) (e : QF) (q : Qm) : Prop where
 ln : q.fa2.length = r.fa2.length
 bi : Bi r.fx r.fa2 → Bi q.fx q.fa2 ∧ q.fx.fj = r.fx.fj
 sm : ∀ x, e.fa0 = 2 → 0 ≤ e.ff3 → r.fa2[e.ff3.toNat]? = some x → x.ff6 = true → Bi r.fx r.fa2 → r.fx.f7 ≤ r.fx.fj.fc3 → sm q.fx (pc q.fa2) q.fa2 + 1 ≤ sm r.fx (pc r.fa2) r.fa2
theorem ApP.no {r q : Qm} {e : QF} (h : e.fa0 ≠ 2 ∨ ∀ x, 0 ≤ e.ff3 → r.fa2[e.ff3.toNat]? = some x → x.ff6 = false) (h1 : q.fx = r.fx) (h2 : q.fa2 = r.fa2) : ApP r e q :=
  { ln := by rw [h2], bi := fun b => by rw [h1, h2]; exact ⟨b, rfl⟩, sm := fun x k h0 hx hb _ _ => by
       rcases h with h | h
       · exact absurd k h
       · have := h x h0 hx; rw [hb] at this; cases this }
theorem ApP.call {r q : Qm} {e : QF} {y : Q6} {k : Nat} (h : e.fa0 ≠ 2) (hy : y.fa.fc5 = 0) (hk : 1 ≤ y.fOp.fa0 ∧ y.fOp.fa0 ≤ 17) (h2 : q.fa2 = r.fa2.set k y) (h1 : q.fx = r.fx) : ApP r e q :=
 { ln := by rw [h2]; simp, bi := fun b => by rw [h1, h2]; exact ⟨b.call hy hk, rfl⟩, sm := fun x k => absurd k h }
theorem ApP.pk {r q : Qm} {e : QF} {x y : Q6} (hx : r.fa2[e.ff3.toNat]? = some x) (hb : x.ff6 = true) (h2 : q.fa2 = r.fa2.set e.ff3.toNat y) (p : PkP r.fx x q.fx y) : ApP r e q :=
  { ln := by rw [h2]; simp, bi := fun b => by rw [h2]; exact p.bi b hx hb, sm := fun z _ _ hz _ bi hc => by
       rw [hx] at hz; cases hz
       rw [h2]; exact p.sm bi hc hx hb }
theorem Lf {r : Qm} {e : QF} (h : Vr r) (he : zOp e.fOp) (hb : r.ff1 ≤ 1000000) : ∃ q, Rr (Xu r e) q ∧ Vr q.1 ∧ q.1.ff1 = r.ff1 + 1 ∧ ApP r e q.1 := by
 have h0 := h.e0
 have hl := h.el
 have sz := h.sz
 have w : IntKind.i64.wrap (r.ff1 + 1) = r.ff1 + 1 := Za (by omega)
 refine ex_ ?_
 rw [Xu.eq_1, w]
 have same : Vr (Qm.mk r.fx r.fa2 r.ff0 (r.ff1 + 1)) := { st := h.st, se := h.se, e0 := by dsimp only; omega, el := by dsimp only; omega, sz := h.sz, bs := h.bs }
 refine Z5 (fun ck => ⟨same, rfl, ApP.no (.inl (by simp only [CJ, Bool.or_eq_true, decide_eq_true_eq] at ck; omega)) rfl rfl⟩) fun _ => Z5 (fun ck => ⟨same, rfl, ApP.no (.inr fun z hz hz2 => by simp only [CJ, Bool.or_eq_true, decide_eq_true_eq] at ck; have := (List.getElem?_eq_some_iff.1 hz2).1; exfalso; rcases ck with ck | ck <;> omega) rfl rfl⟩) fun c => ?_
 simp only [CJ, Bool.or_eq_false_iff, decide_eq_false_iff_not] at c
 refine Z5 (fun ck => ?_) fun _ => ?_
 ·have k1 : e.fa0 ≠ 2 := by
   have : e.fa0 = 1 := by simpa using ck
   omega
  obtain ⟨v, hv, hv2⟩ := Im (a1 := e.ff3) (a3 := (r.ff0.length : Int)) sz h.se he
  refine ⟨v, hv, Z5 (fun _ => ⟨same, rfl, ApP.no (.inl k1) rfl rfl⟩) fun c1 => ?_⟩
  obtain ⟨x, y, a1, hx, xb, yk, yb, yr, zy, yp, hr⟩ := hv2 (by simpa using c1)
  refine ⟨by omega, by simp only [List.length_append, List.length_cons, List.length_nil]; omega, ?_, rfl, ?_⟩
  rotate_left
  ·exact ApP.call k1 yp yk (by dsimp only; exact hr) rfl
  rw [hr]
  exact { st := h.st, se := XS h.se zy, e0 := by dsimp only; omega, el := by simp only [List.length_append, List.length_cons, List.length_nil]; omega, sz := by simpa using h.sz, bs := by simp only [List.length_append, List.length_cons, List.length_nil]; exact h.bs.set (by omega) fun _ => by rw [yr]; omega }
 ·obtain ⟨x, hx, hxm⟩ := Zp (l := r.fa2) (n := e.ff3) (by omega) (by omega)
  refine ⟨x, hx, Z5 (fun cb => ⟨same, rfl, ApP.no (.inr fun z hz => by rw [hxm]; intro hz2; cases hz2; simpa using cb) rfl rfl⟩) fun cb => ⟨by omega, by omega, ?_⟩⟩
  have xb : x.ff6 = true := by simpa using cb
  have fin : ∀ v : Qm, CpP r.fx r.fa2 r.ff0.length e.ff3.toNat x (r.ff1 + 1) v → Vr v ∧ v.ff1 = r.ff1 + 1 ∧ ApP r e v := fun v ⟨v1, v2, v3, v4, v5, y, v7, v8⟩ => ⟨{ st := v1, se := v2, e0 := by omega, el := by omega, sz := by rw [v7]; simpa using h.sz, bs := by rw [v3]; exact v4 }, v5, ApP.pk hxm xb v7 v8⟩
  refine Z5 (fun _ => ?_) fun _ => ?_
  ·obtain ⟨v, hv, v1⟩ := RE (e := r.ff1 + 1) (n := r.ff1) h.st h.se h.sz h.bs (by omega) hxm xb
   exact ⟨v, hv, fin _ v1⟩
  ·obtain ⟨v, hv, v1⟩ := Q35 (e := r.ff1 + 1) (n := r.ff1) h.st h.se h.sz h.bs (by omega) hxm xb
   exact ⟨v, hv, fin _ v1⟩
theorem Q7k {c : Qz} (hc : Qs5 c) : ∃ r, Rr (U8 c) r ∧ Vr r.1 ∧ r.1.ff1 = 0 ∧ Bi r.1.fx r.1.fa2 ∧ r.1.fx.fj = c ∧ (r.1.fa2.length : Int) = c.fa2 := by
 refine ex_ ?_
 rw [U8.eq_1]
 obtain ⟨v, hv, hv1, hv2, hv3⟩ := (Q7b (a0 := c)).go trivial
 obtain ⟨u, hu, hu1, hu2⟩ := (IT (a0 := c.fa2)).go ⟨hc.1.1, by have := hc.1.2; omega⟩
 have z := hv2 hc
 have hcs := hc.1
 refine ⟨v, hv, Z5 (fun e => absurd z (by simpa using e)) fun _ => ⟨u, hu, ?_, rfl, ?_, (hv1 z).2, hu1⟩⟩
 rotate_left
 ·obtain ⟨o1, o2, o3, o4, _⟩ := hv3 z
  refine { sv := { bt := fun b hb => ?_, vt := fun o ho => ?_, id := ?_, la := fun o ho => ?_, l0 := ?_, lc := ?_ }, b := fun k x hx hb => ?_ }
  ·dsimp only at hb; rw [o2] at hb; cases hb
  ·dsimp only at ho; rw [o1] at ho; cases ho
  ·dsimp only; rw [o1]; exact List.Pairwise.nil
  ·dsimp only at ho; rw [o1] at ho; cases ho
  ·dsimp only; omega
  ·dsimp only; omega
  ·have := (hu2 x (List.mem_of_getElem? hx)).2; rw [hb] at this; cases this
 exact { st := (hv1 z).1, se := fun x hx => (hu2 x hx).1, e0 := Int.le_refl _, el := Int.le_refl _, sz := by dsimp only; omega, bs := fun k x hx hb => by have := (hu2 x (List.mem_of_getElem? hx)).2; rw [hb] at this; cases this }
def Qgb (r : Qm) := (r.fx.fj.fa2, r.fx.fj.fb8, r.fx.fj.f9, r.fx.fj.fb6, r.fx.fj.fc8, r.fx.fj.fc3, r.fx.fj.fb0, r.fx.f7, r.fx.ff4, r.fx.fa1, r.fx.fb4, r.fx.fc8, r.fx.fc1.fc2, r.fx.fc1.f9, r.fa2, r.ff0, r.ff1)
theorem M1 (a0 : Int) (a1 : List Int) : Rr (Vm a0 a1) true := by
 unfold Rr
 rw [Vm.eq_1]
 obtain ⟨v1, hv1, c1⟩ := (Tj (a0 := QG .i64 a0 65535)).go trivial
 obtain ⟨v2, hv2, c2, c3, d1, d2, d3⟩ := Q7k c1
 obtain ⟨v3, hv3, c4, c5⟩ := (Q34 (a0 := a1)).go trivial
 obtain ⟨v4, hv4, c6, c7⟩ := (Tk (a0 := a1) (a1 := v1.fa2) (a2 := 30)).go ⟨by have := c1.1; omega, by decide, by decide⟩
 have z1 := c1.1
 have z3 := c1.2.2.1
 have z6 := c1.2.2.2.2.2.1
 have z7 := c1.2.2.2.2.2.2
 refine ⟨v1, hv1, v2, hv2, v3, hv3, v4, hv4, by omega, ?_⟩
 generalize hev : v3 ++ v4 = evs
 have hl : evs.length = 36 := by rw [← hev, List.length_append]; omega
 have hz : ∀ x ∈ evs, zEv x := by rw [← hev]; exact ZS c5 c7
 clear hev
 refine AR (fun p => ∃ r : Qm, Vr r ∧ Bi r.fx r.fa2 ∧ r.fx.fj = v1 ∧ (r.fa2.length : Int) = v1.fa2 ∧ r.ff1 = 36 ∧ p = (evs, Qgb r)) ?_ fun J hJ => ?_
 ·rintro _ ⟨r, hr, hb, hg, hs, he, rfl⟩
  obtain ⟨pd, hpd, pl, pk⟩ := Df r.fa2 (by have := hr.sz; omega)
  have ple := Qec r.fa2
  have hu : Rr (YG ((evs.length : Int))) 372 := by
   unfold Rr; rw [YG.eq_1, hl]; decide
  have hcm := hr.st.2.1
  have srem : ∀ x ∈ r.fa2, x.ff6 = true → rem r.fx (pc r.fa2) x ≤ AS v1 x.fOp 372 (pc r.fa2) := fun x hx xb => by
   obtain ⟨k, hk⟩ := List.getElem?_of_mem hx
   have q := hb.b k x hk xb
   have p0 := Qmx hk xb
   have := Qur (t := pc r.fa2) q.1 q.2 (hr.se x hx).2.2.2.1 hr.st.2.2.2.2.2.2.2.2.2 hcm.2 (by rw [hg]; exact z6.2) (by rw [hg]; exact z7.2) (by rw [hg]; exact z3.2) ⟨by omega, by have := hr.sz; omega⟩
   rwa [hg] at this
  have dge : Sw v1 372 (pc r.fa2) 0 r.fa2 < 1099511627776 → sm r.fx (pc r.fa2) r.fa2 ≤ Sw v1 372 (pc r.fa2) 0 r.fa2 := fun h => by
   have a := (Qn0 (Int.le_refl 0) h).1
   have b : sm r.fx (pc r.fa2) r.fa2 ≤ (r.fa2.map fun x => if x.ff6 then AS v1 x.fOp 372 (pc r.fa2) else 0).sum := by
    unfold sm
    refine Qmv fun z hz => ?_
    split
    ·rename_i zb; exact srem z hz zb
    ·exact Int.le_refl _
   omega
  have dp : pc r.fa2 ≤ Sw v1 372 (pc r.fa2) 0 r.fa2 := by
   by_cases g : Sw v1 372 (pc r.fa2) 0 r.fa2 < 1099511627776
   ·by_cases p1 : 1 ≤ pc r.fa2
    ·have := Qyi (ss := r.fa2) (p := pc r.fa2) hcm.2 p1
     have := dge g; omega
    ·have := (Qn0 (Int.le_refl 0) g).2; omega
   ·have := hr.sz; omega
  refine ⟨372, hu, _, Tm v1 r.fa2 372 hr.sz, pd, hpd, Z5 (fun c => ?_) fun _ => Z5 (fun _ => ⟨true, FT, rfl⟩) fun cn => ?_⟩
  ·exfalso
   simp only [decide_eq_true_eq] at c
   omega
  generalize hd : Sw v1 372 (pc r.fa2) 0 r.fa2 = d at *
  have dn : ¬ d > 3000 := by simpa using cn
  refine AR (fun p => ∃ q : Qm, Vr q ∧ pc q.fa2 = 0 ∧ p = Qgb q) ?_ fun J hJ => ?_
  ·rintro _ ⟨q, hq, hq0, rfl⟩
   obtain ⟨pe, hpe, pel, _⟩ := Df q.fa2 (by have := hq.sz; omega)
   refine ⟨pe, hpe, fun _ => ⟨true, FT, rfl⟩, fun c => ?_⟩
   exfalso
   simp at c
   have : pe.length = 0 := by omega
   exact c (List.eq_nil_of_length_eq_zero this)
  ·refine Bp (I := fun n s => ∃ (q : Qm) (i : Nat), Vr q ∧ Bi q.fx q.fa2 ∧ q.fx.fj = v1 ∧ i ≤ 3000 ∧ ((i : Int) ≤ d ∨ d < 0) ∧ q.ff1 = 36 + (i : Int) ∧ sm q.fx (pc q.fa2) q.fa2 ≤ d - i ∧ s = ((i : Int), Qgb q) ∧ n = 3000 - i) ?_ (k := 3000) ⟨r, 0, hr, hb, hg, by omega, by omega, by simpa using he, by have := dge (by omega); omega, rfl, rfl⟩
   rintro n _ ⟨q, i, hq, qb, qg, hi, hi2, hqe, hsm, rfl, hn⟩ X hX
   refine Z5 (fun c => ?_) fun c => ?_
   ·have ci : (i : Int) < d := by simpa using c
    obtain ⟨pe, hpe, pel, pek⟩ := Df q.fa2 (by have := hq.sz; omega)
    refine ⟨pe, hpe, Z5 (fun _ => ⟨true, FT, rfl⟩) fun cl => ?_⟩
    have l0 : (pe.length : Int) ≠ 0 := by simpa using cl
    refine ⟨l0, ixi ⟨tm0 (by dsimp only; omega), tm1 (by dsimp only; omega) (by omega)⟩ fun s _ _ hs => ?_⟩
    obtain ⟨s0, x, hx, xb⟩ := pek s hs
    obtain ⟨u, hu, u1, u2, u3⟩ := Lf (e := QF.mk (2) (s) (Qv.mk (0) (ByteArray.empty) (ByteArray.empty) ([] : (List ByteArray)) (Q7.mk (0) (0) (0) (0)) ([] : (List QY)) ([] : (List Int)) (0) (0) (0) (0) (0) (0) (Qs.mk (0) (ByteArray.empty) (0) (0) (0)) ([] : (List Int)))) hq zOp0 (by omega)
    have w : IntKind.i64.wrap ((i : Int) + 1) = ((i + 1 : Nat) : Int) := by rw [Za (by omega)]; omega
    have nx := u3.sm x rfl s0 hx xb qb hq.st.2.1.2
    have bi := u3.bi qb
    dsimp only [Qgb]
    rw [w]
    exact ⟨u, hu, hX (3000 - (i + 1)) _ (by omega) ⟨u.1, i + 1, u1, bi.1, bi.2.trans qg, by omega, by omega, by omega, by omega, rfl, rfl⟩⟩
   ·have ci : ¬ (i : Int) < d := by simpa using c
    exact hJ _ ⟨q, hq, Qun hq.st.2.1.2 (by omega), rfl⟩
 ·refine Bp (I := fun n s => ∃ (r : Qm) (j : Nat), Vr r ∧ Bi r.fx r.fa2 ∧ r.fx.fj = v1 ∧ (r.fa2.length : Int) = v1.fa2 ∧ j ≤ evs.length ∧ r.ff1 = (j : Int) ∧ s = (evs, (j : Int), Qgb r) ∧ n = evs.length - j) ?_ (k := evs.length) ⟨v2.1, 0, c2, d1, d2, d3, by omega, c3, rfl, rfl⟩
  rintro n s ⟨r, j, hr, hb, hg, hs, hj, he, rfl, hn⟩ X hX
  refine Z5 (fun c => ?_) fun c => hJ _ ⟨r, hr, hb, hg, hs, ?_, rfl⟩
  ·have hj2 : j < evs.length := by simpa using c
   obtain ⟨q, hq, q1, q2, q3⟩ := Lf hr (hz _ (List.getElem_mem hj2)) (by omega)
   have w : IntKind.i64.wrap ((j : Int) + 1) = ((j + 1 : Nat) : Int) := by rw [Za (by omega)]; omega
   have qb := q3.bi hb
   have ql := q3.ln
   dsimp only [Qgb]
   rw [w]
   exact ⟨_, G3 hj2, q, hq, hX (evs.length - (j + 1)) _ (by omega) ⟨q.1, j + 1, q1, qb.1, qb.2.trans hg, by omega, by omega, by omega, rfl, rfl⟩⟩
  ·have : ¬ j < evs.length := by simpa using c
   omega
set_option maxRecDepth 100000
set_option maxHeartbeats 4000000
instance : Cc := TY
instance : B0 := Sn
instance : W0 := H4
instance : HZ := Q88
instance : UE := IY
instance : I1 := Q7m
instance : UW := TB
instance : BQ := Qgd
instance : EK := Q86
instance : Gt := Q43
instance : DW := Qbw
instance : I3 := Q7n
instance : Dj := Q3i
instance : Dk := Q3q
instance : Dl := Q3x
instance : B2 := Sb
instance : KI := H5
instance : Zx := TF
instance : Km := It
instance : Zt := Ga
instance : ZI := HB
instance : KJ := Q3y
instance : Yb := Q7z
instance : Cd := TI
instance : Kn := Mi
instance : Zu := Gc
instance : ZG := Ir
instance : A5 := OR
instance : UF := IX
instance : B4 := Na
instance : W2 := Me
instance : DX := Sc
instance : UG := L0
instance : BR := O1
instance : Gu := Q3j
instance : Gv := Q3e
instance : Ve := NV
instance : Vx := Q7q
instance : Ua := Q84
instance : Ah := Mf
instance : EL := Q80
instance : WC := Hy
instance : UH := L5
instance : CG := Q7v
instance : BS := NT
instance : WE := Ht
instance : Ai := M6
instance : CQ := OW
instance : Uy := Q3z
instance : YK := Sd
instance : Gw := Q3m
instance : F9 := TZ
instance : Aj := Ma
instance : BU := NU
instance : Fa := Tz
instance : Ak := M7
instance : CS := OX
instance : EM := Q87
instance : Zy := L3
instance : Uz := NZ
instance : DY := Sp
instance : Al := Qbx
instance : A6 := OP
instance : Am := M2
instance : DZ := Qbv
instance : EN := Q7r
instance : Dm := Q3r
instance : LD := Qc0
instance : Fb := TL
instance : EO := Q7w
instance : WF := Hp
instance : CW := P1
instance : UI := IZ
instance : W7 := Qbu
instance : Dn := Q3b
instance : AM := Q7o
instance : BV := NW
instance : Do := Q3s
instance : Dp := Q40
instance : WG := Hz
instance : A7 := OV
instance : Fc := Tp
instance : Fe := Q00
instance : LE := Qby
instance : Ce := Tu
instance : Ap := M4
instance : B5 := RO
instance : I4 := Q7p
instance : Ff := TC
instance : NB := Qgc
instance : CX := OY
instance : Gx := Q41
instance : Fi := TM
instance : Uc := Se
instance : Gy := Qbz
instance : Dq := Q3t
instance : E2 := RH
instance : Jc := Q01
instance : Cf := TG
instance : Vb := Hr
instance : BW := O0
instance : Ud := Ip
instance : B6 := RY
instance : Yg := Iu
instance : B7 := Nb
instance : UX := TT
instance : AO := Q81
instance : W9 := Mc
instance : E3 := RI
instance : Y0 := P3
instance : Wu := TH
instance : B8 := RR
instance : B9 := RQ
instance : UJ := IU
instance : Y1 := OT
instance : Gz := Q3u
instance : Wv := TU
instance : GA := Q3o
instance : Ba := S7
instance : Bb := Q38
instance : VV := P4
instance : VN := N7
instance : Bc := RU
instance : ZW := Iq
instance : Ks := M5
instance : Aq := M8
instance : Be := Nc
instance : Wc := Mg
instance : WH := HA
instance : UK := L2
instance : Bf := N5
instance : XE := Mj
instance : BX := NY
instance : WI := Hs
instance : Ar := Mb
instance : Ue := RJ
instance : Fj := Tr
instance : E4 := RZ
instance : CI := Q7s
instance : Cg := TQ
instance : JX := Si
instance : WY := Ng
instance : Yh := N9
instance : Ch := TJ
instance : Dr := Q39
instance : Ci := Q02
instance : E5 := S3
instance : GB := Q3f
instance : XV := Hq
instance : WJ := Hu
instance : I5 := Q7t
instance : EP := Q85
instance : Fl := TW
instance : Fo := TN
instance : Bg := N8
instance : Ug := Io
instance : As := Mk
instance : Bh := S4
instance : CY := ON
instance : Uh := Is
instance : Bj := N4
instance : Fs := Tv
instance : Ww := Ts
instance : E6 := Sk
instance : GC := Q3g
instance : YL := NX
instance : Bl := Sj
instance : Cj := TX
instance : E7 := Sf
instance : E8 := S8
instance : Dt := Q3a
instance : Je := FU
instance : Bm := Q3k
instance : Ck := Tw
instance : GD := Q3c
instance : Bn := S0
instance : E9 := S1
instance : GE := Q3v
instance : GF := Q42
instance : Ui := Sg
instance : Bo := S9
instance : Cl := Tq
instance : BY := O2
instance : Uj := S5
instance : CZ := OQ
instance : GG := Q3d
instance : GH := Q3h
instance : WK := Hv
instance : D1 := OZ
instance : Ea := Sl
instance : Ft := TO
instance : Fu := TK
instance : D2 := OL
instance : YM := Sq
instance : Ws := OU
instance : WZ := N6
instance : YN := G9
instance : UL := IV
instance : Eb := S2
instance : Fv := TR
instance : WL := HD
instance : EQ := Q82
instance : I6 := Q7x
instance : D3 := OM
instance : ER := Q7u
instance : I7 := Q89
instance : WM := Hw
instance : Au := M3
instance : BZ := NS
instance : UM := IW
instance : Av := M9
instance : Du := Q3w
instance : Ec := Sm
instance : GI := Q3p
instance : Ed := Sa
instance : Ee := RN
instance : Fw := Q03
instance : Eg := Sr
instance : GJ := Q3n
instance : GK := Q3l
instance : Fx := Tx
instance : D4 := OO
instance : A8 := OS
instance : Fy := TD
instance : Fz := TS
instance : Aw := Mh
instance : I8 := Q83
instance : I9 := Q7y
instance : EU := Q7l
instance : D5 := P5
instance : Eh := S6
instance : Cm := Tn
instance : FA := Ty
instance : Co := Tt
instance : FB := TA
instance : Ei := Md
theorem BoundTotal_walk (a0 : Int) (v1 : Value) (l1 : List Int) (w : World) (h0 : (Lit.int .i64 a0).wf = true) (h1 : Ints .i64 w v1 l1) (s1 : l1.length * Tryz.prog.bytesOf 3 ≤ 140737488351232) :
  Calls Tryz.prog 4 #[.int .i64 a0, v1] w fun e w' => e = .returned (.bool true) ∧ Below w.heap.size w w' := by
 refine (MF (A := fun x => x < w.heap.size) (vs := #[.int .i64 a0, v1]) (g := 0) (q := 0) (Lx (M1 a0 l1)) rfl (fun x h => h) ⟨.v _ h0, Q9o h1 (fun _ _ _ g _ _ hg => hg), trivial⟩).mono ?_
 rintro e w' ⟨rfl, hg⟩
 exact ⟨rfl, Pn hg⟩
end Go.Proofs.YtimfmcpbkdpmoaaGreat
