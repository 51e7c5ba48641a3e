/- Parts of the proof, laid together. No condition. -/
import Derived.Test.YtimfmcpbkdpmoaaGreatKT1
import Derived.Test.YtimfmcpbkdpmoaaGreatKT2
import Derived.Test.YtimfmcpbkdpmoaaGreatKT3
import Derived.Test.YtimfmcpbkdpmoaaGreatKT4
import Derived.Test.YtimfmcpbkdpmoaaGreatKT5
import Derived.Test.YtimfmcpbkdpmoaaGreatKT6
import Derived.Test.YtimfmcpbkdpmoaaGreatKT7
import Derived.Test.YtimfmcpbkdpmoaaGreatKT8
import Derived.Test.YtimfmcpbkdpmoaaGreatKT9
import Derived.Test.YtimfmcpbkdpmoaaGreatKT10
import Derived.Test.YtimfmcpbkdpmoaaGreatKT11
import Derived.Test.YtimfmcpbkdpmoaaGreatKT12
import Derived.Test.YtimfmcpbkdpmoaaGreatKU1
import Derived.Test.YtimfmcpbkdpmoaaGreatKU2
import Derived.Test.YtimfmcpbkdpmoaaGreatKU3
import Derived.Test.YtimfmcpbkdpmoaaGreatKU4
import Derived.Test.YtimfmcpbkdpmoaaGreatKU5
import Derived.Test.YtimfmcpbkdpmoaaGreatKU6
import Derived.Test.YtimfmcpbkdpmoaaGreatKU7
import Derived.Test.YtimfmcpbkdpmoaaGreatKU8
import Derived.Test.YtimfmcpbkdpmoaaGreatKC1
import Derived.Below
set_option linter.unusedVariables false
set_option linter.unusedSimpArgs false
namespace Go.Proofs.YtimfmcpbkdpmoaaGreat
open Go.RowKit
set_option maxRecDepth 100000
set_option maxHeartbeats 4000000
instance Qkd : Bg := R1
instance Qke : Bh := PX
instance Qnn : Zx := SD
instance Qkf : Bj := PY
instance Q23 : Wh := GH
instance Q6b : NV := Q5t
instance IB : D1 := Iw
instance x_ref14_Holds : Wr := SE
instance x_ref14_index : Ws := Sx
instance Qrz : Gr := Q1l
instance Qg2 : CK := Ob
instance Qs0 : Gs := Q1w
instance Q6c : Yb := HZ
instance Qkg : E3 := PK
instance Qcq : Bl := MA
instance Qkh : E4 := R2
instance Qyn : As := Qa4
instance Qno : Fj := Sy
instance x_ref14_Covers : Ug := PL
instance Q7t : UG := Iv
instance Qki : Bm := R3
instance Qs1 : Df := Q1f
instance Qs2 : Bn := Q1q
instance Qnp : Cb := Sb
instance Qkj : E5 := PM
instance x_ref1_IsName : JC := Sr
instance SJ : Jc := FE
instance Q3q : XL := GY
instance Qs3 : Gt := Q1r
instance Qkk : E6 := PD
instance Qkl : E7 := PN
instance Qnq : Fl := Ss
instance Q3r : WH := H5
instance Qa9 : Au := Lt
instance Q3s : WI := GZ
instance Qs4 : Dg := Q1s
instance Qkm : E8 := PE
instance Qnr : Cc := Sl
instance Qs5 : Gu := Q1o
instance Qns : Cd := SF
instance Qkn : Bo := Pv
instance Qnt : Ce := Sf
instance Qko : Bp := PZ
instance Qg3 : XS := O7
instance Qkp : Bq := PO
instance Qg4 : XT := Oc
instance Qg5 : VU := Ol
instance Qkq : Br := Pw
instance Qs6 : Bs := Q1g
instance Qnu : Wt := Sz
instance x_ref19_Live : Dh := Q1a
instance Qkr : Bt := PP
instance Qw0 : HO := Q65
instance Qs7 : Gv := Q1x
instance Qks : E9 := Px
instance Qw1 : Cq := Q60
instance Qnv : UT := SA
instance Qkt : Ea := PF
instance Qnw : Fo := Sm
instance Qnx : Fs := Su
instance Qs8 : Gw := Q1y
instance Qku : Bu := Py
instance Qny : Cf := Sg
instance Qg6 : CL := Oh
instance Qs9 : KF := Q1b
instance Q7u : Zy := It
instance Q24 : JV := GG
instance Q3t : XM := H6
instance Qyo : Lq := Qa2
instance Qsa : Gx := Q1c
instance Qnz : Ft := Si
instance Nv : FO := Nj
instance Q6d : Kr := HW
instance TY : Zs := FQ
instance Q3u : ZK := H4
instance Qw2 : Yc := Q5w
instance Qo0 : Cg := Sn
instance Qaa : Ks := LE
instance TZ : Zt := FR
instance Q6e : ZF := HX
instance Qg7 : A5 := O8
instance Q7v : UH := Ix
instance Qcr : Bv := My
instance Qab : Wi := LA
instance Qkv : Eb := PS
instance Q7w : UI := Iz
instance Qeo : BQ := Nk
instance Qsb : Gy := Q1h
instance Qsc : Gz := Q1t
instance Qep : Vh := Nn
instance Qw3 : VB := Q63
instance Qw4 : Uh := Q66
instance Qac : Av := LH
instance Qw5 : EG := Q5u
instance Q3v : WJ := H0
instance Q7x : UJ := Iy
instance Qw6 : Cs := Q5x
instance Qeq : BR := No
instance Q3w : WK := H2
instance Qad : Aw := LI
instance Qg8 : CM := O5
instance Qae : Ax := Lv
instance Qer : BS := Nr
instance Qo1 : Fu := Sc
instance Qaf : Ay := LB
instance Qg9 : CN := Od
instance Qes : Uu := Nu
instance Qga : A6 := O6
instance Qag : Az := Lw
instance Qyp : Ec := Qa8
instance Qw7 : EH := Q5y
instance Qsd : Di := Q1m
instance Qyq : Lr := Qa6
instance Qo2 : Fv := SG
instance Qw8 : EI := Q5v
instance Q3x : WL := H1
instance Qgb : CQ := Oi
instance Q7y : UK := Is
instance Qw9 : AK := Q64
instance x_ref6_sum : Wj := Qa7
instance Qse : Dj := Q1z
instance Qet : BU := Nl
instance Qsf : Dk := Q1i
instance Qsg : Dl := Q1u
instance Q3y : WM := GW
instance Qgc : A7 := Oa
instance Qcs : VG := MB
instance Qsh : Uv := Q20
instance Qkw : Bw := Pz
instance Qo3 : Fw := Sj
instance x_ref6_sorted : Fx := SB
instance x_ref1_Bit : Ls := Qa3
instance Qo4 : Ch := Sp
instance Qah : AA := LF
instance Qct : By := MF
instance Q6f : ZS := HY
instance Qai : Kt := Lx
instance Qaj : AB := LG
instance Qcu : Bz := Mz
instance Qak : Wk := LC
instance Q3z : WN := H3
instance Q7z : UL := IA
instance Qcv : BA := Mw
instance Qal : XI := Ly
instance Qeu : BV := Ns
instance Q40 : WO := GX
instance Qam : AC := LD
instance Qcw : BB := MC
instance Q6g : Ui := I0
instance Qan : AD := Lu
instance Qkx : BC := PH
instance Qgd : CS := Oj
instance Q6h : Uj := HV
instance Q00 : YJ := FP
instance Q80 : UM := Iu
instance Qky : Ed := PT
instance Qo5 : Fy := SH
instance Q41 : WP := GU
instance Qwa : EJ := Q61
instance Qwb : HP := Q67
instance Qge : CW := O4
instance x_ref12_New : EK := Q5z
instance x_ref12_Insert : BD := PQ
instance Qo6 : Fz := Sw
instance Qkz : YK := R4
instance Ql0 : Uk := PC
instance Qgf : Wn := O9
instance Qcx : WU := MD
instance Qwc : EL := Q5q
instance Qo7 : FA := Sd
instance Qsi : GA := Q1n
instance Ql1 : Ee := PU
instance Ql2 : JW := R5
instance Qcy : Yd := Mx
instance Q6i : Cu := Q62
instance Qo8 : Ci := Sa
instance Qcz : WV := ME
instance Qwd : EM := Q5r
instance Qo9 : FB := Sq
instance Ql3 : Eg := Pu
instance Qsj : GB := Q1d
instance Qsk : GC := Q1e
instance Qev : YL := Np
instance Ql4 : YM := PW
instance Qwe : HQ := Q69
instance Q42 : WQ := GV
instance Qao : AE := Lz
instance Qew : BW := Nt
instance Q81 : UN := Ir
instance Ql5 : Eh := PG
instance Ql6 : Ei := PI
instance Ql7 : Ul := PR
instance Qex : BX := Nq
instance Qsl : GD := Q21
instance Qgg : CX := Oe
instance Ql8 : Ej := R0
instance Q25 : Mu := Q18
instance SK : IT := Sk
instance Qwf : EN := Q68
instance Qoa : UU := S9
instance x_base_At : BY := Qem
instance Q26 : Mv := Q1j
instance Qyr : Ek := Qa5
instance Qsm : Dm := Q1p
instance Qwg : HR := Q6a
instance Qsn : Dn := Q1v
instance Qso : Do := Q19
instance Qsp : GE := Q1k
instance Qob : FC := SC
instance Qwh : HU := Q5s
instance Qoc : FD := Se
instance x_base_Op : Ni := Qen
instance Qgh : CY := Og
instance Qsq : GF := Q22
instance SL : IU := SI
end Go.Proofs.YtimfmcpbkdpmoaaGreat

namespace Go.Proofs.YtimfmcpbkdpmoaaGreat
open Go.RowKit
theorem Im {α : Type} {l : List α} {k : Nat} {a x : α} (h : l[k]? = some x) : (l.set k a)[k]? = some a := by
 have := (List.getElem?_eq_some_iff.1 h).1
 simp [this]
def Rx (ss : List Q6) (n : Nat) : Prop := ∀ (k : Nat) x, ss[k]? = some x → x.ff5 = true → 0 ≤ x.fd6 ∧ x.fd6 < (n : Int)
theorem Rx.set {ss : List Q6} {n m : Nat} (h : Rx ss n) (hm : n ≤ m) {k : Nat} {y : Q6} (hy : y.ff5 = true → 0 ≤ y.fd6 ∧ y.fd6 < (m : Int)) : Rx (ss.set k y) m := fun j z hz zb => by
 rcases Il hz with ⟨_, rfl⟩ | ⟨_, hz⟩
 ·exact hy zb
 ·have := h j z hz zb; omega
structure Vr (r : Ql) : Prop where
 st : UO r.fx
 se : ∀ x ∈ r.fa0, zSe x
 e0 : 0 ≤ r.ff0
 el : (r.ff1.length : Int) ≤ r.ff0
 sz : r.fa0.length ≤ 64
 bs : Rx r.fa0 r.ff1.length
theorem zS0 : zS (Q9.mk (Q7.mk 0 0 0 0) (Qb.mk 0 0 false) (Q3.mk 0 0 0 [] false) (Q8.mk 0 0 []) (Qd.mk 0 0 [] false) (Q4.mk 0 0 0 [] false) (Qa.mk 0 0 0 [] false)) :=
 ⟨by simp, by simp, ⟨by simp, VT⟩, ⟨by simp, VT⟩, by simp, VT⟩
theorem zOp0 : zOp (Qq.mk 0 ByteArray.empty ByteArray.empty [] (Q7.mk 0 0 0 0) [] [] 0 0 0 0 0 0 (Qo.mk 0 ByteArray.empty 0 0 0) []) :=
 ⟨by simp, by simp, by simp, by simp, VT, by simp, by simp, VT, VT⟩
def PkP (s : Q2) (x : Q6) (t : Q2) (y : Q6) : Prop :=
 Sv s → IC s x → Sv t ∧ t.fk = s.fk ∧ ((y.ff5 = true ∧ y.fOp = x.fOp ∧ Kp s t ∧ IC t y ∧ ∀ p, ¬ big x → rem t p y + 1 ≤ rem s p x) ∨ (y.ff5 = false ∧ (Kp s t ∨ s.f9 < t.f9)))
theorem I3 {a0 : List Q6} {a1 : Int} {a2 : Qq} {a3 : Int} (hl : a0.length ≤ 64) (hz : ∀ x ∈ a0, zSe x) (ho : zOp a2) : ∃ r, Rr (Kk a0 a1 a2 a3) r ∧ (r.2 = 0 → ∃ x y : Q6, 0 ≤ a1 ∧ a0[a1.toNat]? = some x ∧ x.ff5 = false ∧ (1 ≤ y.fOp.f8 ∧ y.fOp.f8 ≤ 17) ∧ y.ff5 = true ∧ y.fd6 = a3 ∧ zSe y ∧ y.fa.fc6 = 0 ∧ r.1 = a0.set a1.toNat y) := by
 refine ex_ ?_
 rw [Kk.eq_1]
 refine ZX (fun _ => fun c => by simp at c) fun c0 => ?_
 simp only [Du, Bool.or_eq_false_iff, decide_eq_false_iff_not] at c0
 obtain ⟨ve, hve, hvk⟩ := (Nv (a0 := a2)).go ho
 refine ⟨ve, hve, ZX (fun c1 c => absurd c (by simpa using c1)) fun c1 => ?_⟩
 have v0 : ve = 0 := by simpa using c1
 obtain ⟨x, hx, hxm⟩ := Yy (l := a0) (n := a1) (by omega) (by omega)
 have hs := hz x (List.mem_of_getElem? hxm)
 refine ⟨x, hx, ZX (fun _ c => by simp at c) fun cb => ⟨by omega, x, hx, CZ (CZ (CZ (CZ ?_)))⟩⟩
 intro _
 refine ⟨x, _, by omega, hxm, cb, ?_, ?_, ?_, ?_, ?_, by simp only [List.set_set]; rfl⟩
 ·exact hvk v0
 ·rfl
 ·rfl
 ·exact ⟨hs.1, hs.2.1, hs.2.2.1, ho, ⟨⟨by simp, by simp⟩, zS0, zS0, by simp, by simp, VT⟩, fun _ => by simp⟩
 ·rfl
theorem El {a0 : List Q6} {a1 : Int} {x : Q6} (hl : a0.length ≤ 64) (h0 : 0 ≤ a1) (hx : a0[a1.toNat]? = some x) (hb : x.ff5 = true) (hs : zSe x) : ∃ r, Rr (Kl a0 a1) r ∧ ∃ y : Q6, y.ff5 = false ∧ zSe y ∧ r.1 = a0.set a1.toNat y := by
 have hlt := (List.getElem?_eq_some_iff.1 hx).1
 refine ex_ ?_
 rw [Kl.eq_1]
 refine ZX (fun c => ?_) fun c0 => ?_
 ·simp only [Du, Bool.or_eq_true, decide_eq_true_eq] at c; omega
 refine ⟨x, ⟨h0, hx⟩, ZX (fun c => by rw [hb] at c; cases c) fun cb => ⟨by omega, x, ⟨h0, hx⟩, CZ (CZ (CZ (CZ ?_)))⟩⟩
 refine ⟨_, ?_, ?_, by simp only [List.set_set]; rfl⟩
 ·rfl
 ·exact ⟨hs.1, hs.2.1, hs.2.2.1, zOp0, ⟨⟨by simp, by simp⟩, zS0, zS0, by simp, by simp, VT⟩, fun _ => by simp⟩
def CpP (s : Q2) (ss : List Q6) (n : Nat) (k : Nat) (x : Q6) (e : Int) (r : Ql) : Prop :=
 UO r.fx ∧ (∀ x ∈ r.fa0, zSe x) ∧ r.ff1.length = n ∧ Rx r.fa0 n ∧ r.ff0 = e ∧ ∃ y : Q6, r.fa0 = ss.set k y ∧ PkP s x r.fx y
theorem R8 {s : Q2} {ss : List Q6} {l : List QG} {e a1 n : Int} {x : Q6} (st : UO s) (se : ∀ x ∈ ss, zSe x) (sz : ss.length ≤ 64) (bs : Rx ss l.length) (h0 : 0 ≤ a1) (hx : ss[a1.toNat]? = some x) (hb : x.ff5 = true) :
  ∃ r, Rr (Xt (Ql.mk s ss l e) a1 n) r ∧ CpP s ss l.length a1.toNat x e r.1 := by
 obtain ⟨q0, q1⟩ := bs _ x hx hb
 obtain ⟨q, hq⟩ : ∃ q, l[x.fd6.toNat]? = some q := ⟨l[x.fd6.toNat]'(by omega), by simp⟩
 have zx := se x (List.mem_of_getElem? hx)
 refine ex_ ?_
 rw [Xt.eq_1]
 obtain ⟨u, hu, ⟨hu1, _⟩, huk⟩ := (Q6i (a0 := s) (a1 := x.fa)).go ⟨st, zx.2.2.2.2.1⟩
 obtain ⟨v, hv, y, y1, y2, y3⟩ := El sz h0 hx hb zx
 refine ⟨x, ⟨h0, hx⟩, u, hu, q, ⟨q0, hq⟩, CZ ⟨_, ⟨q0, Im hq⟩, CZ ⟨_, ⟨q0, Im (Im hq)⟩, CZ ⟨v, hv, hu1, ?_, ?_, ?_, rfl, y, y3, fun h1 _ => ⟨(huk h1).2, (huk h1).1.g, .inr ⟨y1, .inl (huk h1).1⟩⟩⟩⟩⟩⟩
 ·rw [y3]; exact YI se y2
 ·simp
 ·rw [y3]; exact bs.set (Nat.le_refl _) fun h => by rw [y1] at h; cases h
theorem Q27 {s : Q2} {ss : List Q6} {l : List QG} {e a1 n : Int} {x : Q6} (st : UO s) (se : ∀ x ∈ ss, zSe x) (sz : ss.length ≤ 64) (bs : Rx ss l.length) (h0 : 0 ≤ a1) (hx : ss[a1.toNat]? = some x) (hb : x.ff5 = true) :
  ∃ r, Rr (Wg (Ql.mk s ss l e) a1 n) r ∧ CpP s ss l.length a1.toNat x e r.1 := by
 obtain ⟨q0, q1⟩ := bs _ x hx hb
 obtain ⟨q, hq⟩ : ∃ q, l[x.fd6.toNat]? = some q := ⟨l[x.fd6.toNat]'(by omega), by simp⟩
 have zx := se x (List.mem_of_getElem? hx)
 refine ex_ ?_
 rw [Wg.eq_1]
 obtain ⟨t, ht, ⟨tst, tma, trs⟩, ⟨tc, td, tsn⟩, ⟨t1, t2, t3, t4⟩, t5, tsy, tb⟩ := (Q25 (a0 := s) (a1 := x)).go ⟨st, zx⟩
 have hx2 : (ss.set a1.toNat t.2)[a1.toNat]? = some t.2 := Im hx
 have zt : zSe t.2 := ⟨tc, td, tsn, by rw [t1]; exact zx.2.2.2.1, by rw [t2]; exact zx.2.2.2.2.1, by rw [t1, t2]; exact zx.2.2.2.2.2⟩
 have on : t.1.fg4 = false → ∀ y : Q6, y.fOp = t.2.fOp → y.fa = t.1.fa → y.ff5 = t.2.ff5 → PkP s x t.1.fx y := fun nd y yo ym yb h1 h2 => by
  obtain ⟨g1, g2, g3, _⟩ := tsy h1
  have zo := zx.2.2.2.1
  have pb := Qwi (p := s.fk.fb7) (n := (x.fOp.fc2.length : Int)) (by have := zo.2.2.2.1; omega)
  have w := fun pp => Qsu (p := pp) ⟨zo.2.1, zo.1⟩ pb h2 (g3 nd) tb nd (yo.trans t1) ym
  exact ⟨g2, g1, .inl ⟨by rw [yb, t3]; exact hb, yo.trans t1, g3 nd, (w 0).1, fun pp => (w pp).2⟩⟩
 have fin : ∀ y : Q6, y.ff5 = false → PkP s x t.1.fx y := fun y yb h1 _ => by
  obtain ⟨g1, g2, _, g4⟩ := tsy h1
  exact ⟨g2, g1, .inr ⟨yb, g4⟩⟩
 refine ⟨x, ⟨h0, hx⟩, q, ⟨q0, hq⟩, t, ht, ZX (fun cd => CZ ?_) fun _ => CZ (CZ ?_)⟩
 ·have zy : zSe (Q6.mk t.2.ff5 t.2.fOp t.1.fa t.2.fd6 t.2.fd0 t.2.ff6) := ⟨tc, td, tsn, by dsimp only; rw [t1]; exact zx.2.2.2.1, tma, by dsimp only; rw [t1]; exact t5⟩
  have sy := YI (n := a1.toNat) se zy
  have nd : t.1.fg4 = false := by simpa using cd
  have rx : Rx (ss.set a1.toNat (Q6.mk t.2.ff5 t.2.fOp t.1.fa t.2.fd6 t.2.fd0 t.2.ff6)) l.length := bs.set (Nat.le_refl _) fun _ => by dsimp only; rw [t4]; exact ⟨q0, q1⟩
  exact joi (ZX (fun c => CZ ⟨tst, by simp only [List.set_set]; exact sy, by simp, by simp only [List.set_set]; exact rx, rfl, Q6.mk t.2.ff5 t.2.fOp t.1.fa t.2.fd6 t.2.fd0 t.2.ff6, by simp only [List.set_set], on nd _ rfl rfl rfl⟩) fun _ => ⟨tst, by simp only [List.set_set]; exact sy, rfl, by simp only [List.set_set]; exact rx, rfl, Q6.mk t.2.ff5 t.2.fOp t.1.fa t.2.fd6 t.2.fd0 t.2.ff6, by simp only [List.set_set], on nd _ rfl rfl rfl⟩)
 ·refine Iq (fun p => p.1 = ss.set a1.toNat t.2 ∧ p.2.length = l.length) ?_ fun J hJ => ZX (fun c => CZ (hJ _ ⟨rfl, by simp⟩)) fun c => hJ _ ⟨rfl, by simp⟩
  rintro ⟨p1, p2⟩ ⟨rfl, hp2⟩
  dsimp only at hp2 ⊢
  obtain ⟨v, hv, y, y1, y2, y3⟩ := El (by simpa using sz) h0 hx2 (by rw [t3]; exact hb) zt
  refine ⟨v, hv, tst, ?_, hp2, ?_, rfl, y, by rw [y3, List.set_set], fin y y1⟩
  ·rw [y3, List.set_set]; exact YI se y2
  ·rw [y3, List.set_set]; exact bs.set (Nat.le_refl _) fun h => by rw [y1] at h; cases h
theorem PkP.bi {s t : Q2} {ss : List Q6} {k : Nat} {x y : Q6} (p : PkP s x t y) (h : Bi s ss) (hx : ss[k]? = some x) (hb : x.ff5 = true) : Bi t (ss.set k y) ∧ t.fk = s.fk := by
 obtain ⟨a, g, b | b⟩ := p h.sv (h.b k x hx hb).1
 ·exact ⟨h.on hx hb b.2.1 b.2.2.1 a b.2.2.2.1, g⟩
 ·exact ⟨h.fin a g b.2 b.1, g⟩
theorem PkP.lv {s t : Q2} {ss : List Q6} {k : Nat} {x y : Q6} {i m : Int} {most : List Int} (p : PkP s x t y) (h : I1 s ss i most) (hx : ss[k]? = some x) (hb : x.ff5 = true) (hm : most[k]? = some m) : I1 t (ss.set k y) (i + 1) (most.set k (m - 1)) := by
 obtain ⟨a, g, b | b⟩ := p h.sv (h.b k x hx hb).1
 ·exact h.on hx hb hm b.2.2.1 a b.1 b.2.1 fun c => ⟨b.2.2.2.1, b.2.2.2.2 _ c⟩
 ·exact h.fin hx hb a g b.2 b.1
structure ApP (r : Ql) (e : QB) (q : Ql) : Prop where
 ln : q.fa0.length = r.fa0.length
 bi : Bi r.fx r.fa0 → Bi q.fx q.fa0 ∧ q.fx.fk = r.fx.fk
 lv : ∀ i most m x, e.f8 = 2 → 0 ≤ e.fd9 → r.fa0[e.fd9.toNat]? = some x → x.ff5 = true → most[e.fd9.toNat]? = some m → I1 r.fx r.fa0 i most → I1 q.fx q.fa0 (i + 1) (most.set e.fd9.toNat (m - 1))
theorem ApP.no {r q : Ql} {e : QB} (h : e.f8 ≠ 2 ∨ ∀ x, 0 ≤ e.fd9 → r.fa0[e.fd9.toNat]? = some x → x.ff5 = false) (h1 : q.fx = r.fx) (h2 : q.fa0 = r.fa0) : ApP r e q :=
 { ln := by rw [h2], bi := fun b => by rw [h1, h2]; exact ⟨b, rfl⟩, lv := fun i most m x k h0 hx hb _ _ => by
    rcases h with h | h
    ·exact absurd k h
    ·have := h x h0 hx; rw [hb] at this; cases this }
theorem ApP.call {r q : Ql} {e : QB} {y : Q6} {k : Nat} (h : e.f8 ≠ 2) (hy : y.fa.fc6 = 0) (hk : 1 ≤ y.fOp.f8 ∧ y.fOp.f8 ≤ 17) (h2 : q.fa0 = r.fa0.set k y) (h1 : q.fx = r.fx) : ApP r e q :=
 { ln := by rw [h2]; simp, bi := fun b => by rw [h1, h2]; exact ⟨b.call hy hk, rfl⟩, lv := fun i most m x k => absurd k h }
theorem ApP.pk {r q : Ql} {e : QB} {x y : Q6} (hx : r.fa0[e.fd9.toNat]? = some x) (hb : x.ff5 = true) (h2 : q.fa0 = r.fa0.set e.fd9.toNat y) (p : PkP r.fx x q.fx y) : ApP r e q :=
 { ln := by rw [h2]; simp, bi := fun b => by rw [h2]; exact p.bi b hx hb, lv := fun i most m z _ _ hz _ hm l => by
    rw [hx] at hz; cases hz
    rw [h2]; exact p.lv l hx hb hm }
theorem IV {r : Ql} {e : QB} (h : Vr r) (he : zOp e.fOp) (hb : r.ff0 ≤ 1000000) : ∃ q, Rr (Xk r e) q ∧ Vr q.1 ∧ q.1.ff0 = r.ff0 + 1 ∧ ApP r e q.1 := by
 have h0 := h.e0
 have hl := h.el
 have sz := h.sz
 have w : IntKind.i64.wrap (r.ff0 + 1) = r.ff0 + 1 := KI (by omega)
 refine ex_ ?_
 rw [Xk.eq_1, w]
 have same : Vr (Ql.mk r.fx r.fa0 r.ff1 (r.ff0 + 1)) := { st := h.st, se := h.se, e0 := by dsimp only; omega, el := by dsimp only; omega, sz := h.sz, bs := h.bs }
 refine ZX (fun ck => ⟨same, rfl, ApP.no (.inl (by simp only [Du, Bool.or_eq_true, decide_eq_true_eq] at ck; omega)) rfl rfl⟩) fun _ => ZX (fun ck => ⟨same, rfl, ApP.no (.inr fun z hz hz2 => by simp only [Du, Bool.or_eq_true, decide_eq_true_eq] at ck; have := (List.getElem?_eq_some_iff.1 hz2).1; exfalso; rcases ck with ck | ck <;> omega) rfl rfl⟩) fun c => ?_
 simp only [Du, Bool.or_eq_false_iff, decide_eq_false_iff_not] at c
 refine ZX (fun ck => ?_) fun _ => ?_
 ·have k1 : e.f8 ≠ 2 := by
   have : e.f8 = 1 := by simpa using ck
   omega
  obtain ⟨v, hv, hv2⟩ := I3 (a1 := e.fd9) (a3 := (r.ff1.length : Int)) sz h.se he
  refine ⟨v, hv, ZX (fun _ => ⟨same, rfl, ApP.no (.inl k1) rfl rfl⟩) fun c1 => ?_⟩
  obtain ⟨x, y, a1, hx, xb, yk, yb, yr, zy, yp, hr⟩ := hv2 (by simpa using c1)
  refine ⟨by omega, by simp only [List.length_append, List.length_cons, List.length_nil]; omega, ?_, rfl, ?_⟩
  rotate_left
  ·exact ApP.call k1 yp yk (by dsimp only; exact hr) rfl
  rw [hr]
  exact { st := h.st, se := YI h.se zy, e0 := by dsimp only; omega, el := by simp only [List.length_append, List.length_cons, List.length_nil]; omega, sz := by simpa using h.sz, bs := by simp only [List.length_append, List.length_cons, List.length_nil]; exact h.bs.set (by omega) fun _ => by rw [yr]; omega }
 ·obtain ⟨x, hx, hxm⟩ := Yy (l := r.fa0) (n := e.fd9) (by omega) (by omega)
  refine ⟨x, hx, ZX (fun cb => ⟨same, rfl, ApP.no (.inr fun z hz => by rw [hxm]; intro hz2; cases hz2; simpa using cb) rfl rfl⟩) fun cb => ⟨by omega, by omega, ?_⟩⟩
  have xb : x.ff5 = true := by simpa using cb
  have fin : ∀ v : Ql, CpP r.fx r.fa0 r.ff1.length e.fd9.toNat x (r.ff0 + 1) v → Vr v ∧ v.ff0 = r.ff0 + 1 ∧ ApP r e v := fun v ⟨v1, v2, v3, v4, v5, y, v7, v8⟩ => ⟨{ st := v1, se := v2, e0 := by omega, el := by omega, sz := by rw [v7]; simpa using h.sz, bs := by rw [v3]; exact v4 }, v5, ApP.pk hxm xb v7 v8⟩
  refine ZX (fun _ => ?_) fun _ => ?_
  ·obtain ⟨v, hv, v1⟩ := R8 (e := r.ff0 + 1) (n := r.ff0) h.st h.se h.sz h.bs (by omega) hxm xb
   exact ⟨v, hv, fin _ v1⟩
  ·obtain ⟨v, hv, v1⟩ := Q27 (e := r.ff0 + 1) (n := r.ff0) h.st h.se h.sz h.bs (by omega) hxm xb
   exact ⟨v, hv, fin _ v1⟩
theorem Q6j {c : QA} (hc : Qqh c) : ∃ r, Rr (U1 c) r ∧ Vr r.1 ∧ r.1.ff0 = 0 ∧ Bi r.1.fx r.1.fa0 ∧ r.1.fx.fk = c ∧ (r.1.fa0.length : Int) = c.fa0 := by
 refine ex_ ?_
 rw [U1.eq_1]
 obtain ⟨v, hv, hv1, hv2, hv3⟩ := (Q6b (a0 := c)).go trivial
 obtain ⟨u, hu, hu1, hu2⟩ := (IB (a0 := c.fa0)).go ⟨hc.1.1, by have := hc.1.2; omega⟩
 have z := hv2 hc
 have hcs := hc.1
 refine ⟨v, hv, ZX (fun e => absurd z (by simpa using e)) fun _ => ⟨u, hu, ?_, rfl, ?_, (hv1 z).2, hu1⟩⟩
 rotate_left
 ·obtain ⟨o1, o2, o3, o4, _⟩ := hv3 z
  refine { sv := { bt := fun b hb => ?_, vt := fun o ho => ?_, id := ?_, la := fun o ho => ?_, l0 := ?_, lc := ?_ }, b := fun k x hx hb => ?_ }
  ·dsimp only at hb; rw [o2] at hb; cases hb
  ·dsimp only at ho; rw [o1] at ho; cases ho
  ·dsimp only; rw [o1]; exact List.Pairwise.nil
  ·dsimp only at ho; rw [o1] at ho; cases ho
  ·dsimp only; omega
  ·dsimp only; omega
  ·have := (hu2 x (List.mem_of_getElem? hx)).2; rw [hb] at this; cases this
 exact { st := (hv1 z).1, se := fun x hx => (hu2 x hx).1, e0 := Int.le_refl _, el := Int.le_refl _, sz := by dsimp only; omega, bs := fun k x hx hb => by have := (hu2 x (List.mem_of_getElem? hx)).2; rw [hb] at this; cases this }
end Go.Proofs.YtimfmcpbkdpmoaaGreat
namespace Go.Proofs.YtimfmcpbkdpmoaaGreat
open Go.RowKit
def Qld (r : Ql) := (r.fx.fk.fa0, r.fx.fk.fb2, r.fx.fk.fa8, r.fx.fk.fb7, r.fx.fk.fc5, r.fx.fk.fc7, r.fx.fk.fb5, r.fx.f9, r.fx.ff3, r.fx.fa6, r.fx.fb4, r.fx.fc5, r.fx.fc4.fc3, r.fx.fc4.fa8, r.fa0, r.ff1, r.ff0)
theorem get_n {α : Type} {l : List α} {n : Int} (h0 : 0 ≤ n) (h : n < (l.length : Int)) : ∃ v, l[n.toNat]? = some v := ⟨l[n.toNat]'(by omega), by simp⟩
theorem MG (a0 : Int) (a1 a2 : List Int) : Rr (VF a0 a1 a2) true := by
 unfold Rr
 rw [VF.eq_1]
 obtain ⟨v1, hv1, c1⟩ := (SK (a0 := QD .i64 a0 65535)).go trivial
 obtain ⟨v2, hv2, c2, c3, d1, d2, d3⟩ := Q6j c1
 obtain ⟨v3, hv3, c4, c5⟩ := (Q26 (a0 := a1)).go trivial
 obtain ⟨v4, hv4, c6, c7⟩ := (SL (a0 := a1) (a1 := v1.fa0) (a2 := 30)).go ⟨by have := c1.1; omega, by decide, by decide⟩
 have z1 := c1.1
 have z7 := c1.2.2.2.2.2.2
 refine ⟨v1, hv1, v2, hv2, v3, hv3, v4, hv4, by omega, ?_⟩
 generalize hev : v3 ++ v4 = evs
 have hl : evs.length = 36 := by rw [← hev, List.length_append]; omega
 have hz : ∀ x ∈ evs, zEv x := by rw [← hev]; exact Yz c5 c7
 clear hev
 refine Iq (fun p => ∃ r : Ql, Vr r ∧ Bi r.fx r.fa0 ∧ r.fx.fk = v1 ∧ (r.fa0.length : Int) = v1.fa0 ∧ r.ff0 = 36 ∧ p = (evs, Qld r)) ?_ fun J hJ => ?_
 ·rintro _ ⟨r, hr, hb, hg, hs, he, rfl⟩
  obtain ⟨pd, hpd, pl, pk⟩ := GT r.fa0 (by have := hr.sz; omega)
  have ple := Qwl r.fa0
  refine ⟨pd, hpd, by omega, CZ (Iq (fun most => I1 r.fx r.fa0 0 most ∧ most.length = r.fa0.length ∧ ∀ m ∈ most, m ≤ 1099511627776) ?_ fun J hJ => ?_)⟩
  ·rintro most ⟨hl, hml, hmb⟩
   refine Iq (fun _ => True) (fun _ _ => ⟨true, SP, rfl⟩) fun J hJ => ?_
   refine Cp (I := fun n s => ∃ (q : Ql) (i : Nat) (most : List Int), Vr q ∧ i ≤ 60 ∧ q.ff0 = 36 + (i : Int) ∧ I1 q.fx q.fa0 (i : Int) most ∧ most.length = q.fa0.length ∧ (∀ m ∈ most, m ≤ 1099511627776) ∧ s = (most, (i : Int), Qld q) ∧ n = 60 - i) ?_ (k := 60) ⟨r, 0, most, hr, by omega, by simpa using he, hl, hml, hmb, rfl, rfl⟩
   rintro n _ ⟨q, i, most, hq, hi, hqe, hl, hml, hmb, rfl, hn⟩ X hX
   refine ZX (fun c => CZ ?_) fun _ => hJ _ trivial
   have hi2 : i < 60 := by
    simp only [IS, Bool.and_eq_true, decide_eq_true_eq] at c
    omega
   refine Iq (fun p => p.1 = most ∧ 0 ≤ p.2) ?_ fun K hK => ZX (fun ca => ?_) fun _ => hK _ ⟨rfl, Int.le_refl _⟩
   ·rintro ⟨p1, k⟩ ⟨hp, k0⟩
    dsimp only at hp k0 ⊢
    have hp := hp.symm
    subst hp
    obtain ⟨pe, hpe, pel, pek⟩ := GT q.fa0 (by have := hq.sz; omega)
    refine ⟨pe, hpe, ZX (fun _ => hJ _ trivial) fun cl => ?_⟩
    have l0 : (pe.length : Int) ≠ 0 := by simpa using cl
    refine ⟨l0, ixi ⟨tm0 k0, tm1 k0 (by omega)⟩ fun s _ _ hs => ?_⟩
    obtain ⟨s0, x, hx, xb⟩ := pek s hs
    have sl := (List.getElem?_eq_some_iff.1 hx).1
    obtain ⟨m, hm⟩ := get_n (l := most) s0 (by omega)
    have m1 := hl.pos (by omega) hx xb hm
    have m2 := hmb m (List.mem_of_getElem? hm)
    refine ixs hm s0 (ZX (fun c0 => absurd (show m = 0 by simpa using c0) (by omega)) fun _ => ixs hm s0 (ixs hm s0 (CZ ?_)))
    obtain ⟨u, hu, u1, u2, u3⟩ := IV (e := QB.mk (2) (s) (Qq.mk (0) (ByteArray.empty) (ByteArray.empty) ([] : (List ByteArray)) (Q7.mk (0) (0) (0) (0)) ([] : (List Z5)) ([] : (List Int)) (0) (0) (0) (0) (0) (0) (Qo.mk (0) (ByteArray.empty) (0) (0) (0)) ([] : (List Int)))) hq zOp0 (by omega)
    have w : IntKind.i64.wrap ((i : Int) + 1) = ((i + 1 : Nat) : Int) := by rw [KI (by omega)]; omega
    have w2 : IntKind.i64.wrap (m - 1) = m - 1 := KI (by omega)
    have nx := u3.lv (i : Int) most m x rfl s0 hx xb hm hl
    have uln := u3.ln
    dsimp only [Qld]
    rw [w, w2]
    refine ⟨u, hu, hX (60 - (i + 1)) _ (by omega) ⟨u.1, i + 1, most.set s.toNat (m - 1), u1, by omega, by omega, ?_, ?_, YI hmb (by omega), rfl, rfl⟩⟩
    ·rw [show ((i + 1 : Nat) : Int) = (i : Int) + 1 by omega]; exact nx
    ·rw [List.length_set]; omega
   ·have l0 : 0 < a2.length := by simpa using ca
    refine ⟨by omega, ixi ⟨tm0 (by dsimp only; omega), tm1 (by dsimp only; omega) (by omega)⟩ fun v _ _ _ => ⟨(Dt _).1, hK _ ⟨rfl, ?_⟩⟩⟩
    dsimp only
    rw [Qk1]; omega
  ·refine Cp (I := fun n s => ∃ j : Nat, j ≤ r.fa0.length ∧ s.1 = evs ∧ s.2.2 = (j : Int) ∧ s.2.1.length = r.fa0.length ∧ (∀ m ∈ s.2.1, m ≤ 1099511627776) ∧ (∀ (k : Nat) x, k < j → r.fa0[k]? = some x → x.ff5 = true → s.2.1[k]? = some (Eo v1 x.fOp 372 (pc r.fa0))) ∧ n = r.fa0.length - j) ?_ (k := r.fa0.length) ⟨0, by omega, rfl, rfl, by simp; omega, Nh (by decide), fun k x h => by omega, rfl⟩
   rintro n ⟨l', most, jj⟩ ⟨j, hj, h1, h2, h3, h4, h5, hn⟩ X hX
   dsimp only at h1 h2 h3 h4 h5
   subst h1 h2
   refine ZX (fun c => ?_) fun c => hJ _ ⟨?_, h3, h4⟩
   ·have hj2 : j < r.fa0.length := by
     simp only [decide_eq_true_eq] at c; omega
    have hgj : r.fa0[j]? = some r.fa0[j] := by simp [hj2]
    have w : IntKind.i64.wrap ((j : Int) + 1) = ((j + 1 : Nat) : Int) := by rw [KI (by omega)]; omega
    refine Iq (fun p => p.1 = l' ∧ p.2.length = r.fa0.length ∧ (∀ m ∈ p.2, m ≤ 1099511627776) ∧ ∀ (k : Nat) x, k < j + 1 → r.fa0[k]? = some x → x.ff5 = true → p.2[k]? = some (Eo v1 x.fOp 372 (pc r.fa0))) ?_ fun K hK => ⟨_, GP hj2, ZX (fun cb => ?_) fun cb => hK _ ⟨rfl, h3, h4, fun k x hk hx hb => ?_⟩⟩
    ·rintro ⟨p1, p2⟩ ⟨rfl, q1, q2, q3⟩
     dsimp only at q1 q2 q3 ⊢
     rw [w]
     exact hX (r.fa0.length - (j + 1)) _ (by omega) ⟨j + 1, by omega, rfl, rfl, q1, q2, q3, rfl⟩
    ·have hu : Rr (Yv ((l'.length : Int))) 372 := by
      unfold Rr; rw [Yv.eq_1, hl]; decide
     have sb := Qyy v1 r.fa0[j].fOp 372 (pd.length : Int)
     refine ⟨_, GP hj2, 372, hu, _, FF v1 r.fa0[j].fOp 372 (pd.length : Int) (by unfold Er; omega), ixi ⟨by dsimp only; omega, by dsimp only; omega⟩ fun v _ _ _ => CZ (hK _ ⟨rfl, by simpa using h3, YI h4 sb.2, fun k x hk hx hb => ?_⟩)⟩
     dsimp only
     rw [List.getElem?_set]
     split
     ·rename_i e
      have e' : k = j := by omega
      subst e'
      rw [hgj] at hx; cases hx
      rw [if_pos (by omega), pl]
     ·rename_i e
      exact h5 k x (by omega) hx hb
    ·have : k ≠ j := fun e => by
      subst e
      rw [hgj] at hx; cases hx
      rw [cb] at hb; cases hb
     exact h5 k x (by omega) hx hb
   ·have hj2 : j = r.fa0.length := by
     simp only [decide_eq_false_iff_not] at c; omega
    refine I1.start (u := 372) hb hr.se (by rw [hg]; exact z7.2) ⟨by decide, by decide⟩ (by omega) fun k x hx hb => ?_
    rw [hg]
    exact h5 k x (by have := (List.getElem?_eq_some_iff.1 hx).1; omega) hx hb
 ·refine Cp (I := fun n s => ∃ (r : Ql) (j : Nat), Vr r ∧ Bi r.fx r.fa0 ∧ r.fx.fk = v1 ∧ (r.fa0.length : Int) = v1.fa0 ∧ j ≤ evs.length ∧ r.ff0 = (j : Int) ∧ s = (evs, (j : Int), Qld r) ∧ n = evs.length - j) ?_ (k := evs.length) ⟨v2.1, 0, c2, d1, d2, d3, by omega, c3, rfl, rfl⟩
  rintro n s ⟨r, j, hr, hb, hg, hs, hj, he, rfl, hn⟩ X hX
  refine ZX (fun c => ?_) fun c => hJ _ ⟨r, hr, hb, hg, hs, ?_, rfl⟩
  ·have hj2 : j < evs.length := by simpa using c
   obtain ⟨q, hq, q1, q2, q3⟩ := IV hr (hz _ (List.getElem_mem hj2)) (by omega)
   have w : IntKind.i64.wrap ((j : Int) + 1) = ((j + 1 : Nat) : Int) := by rw [KI (by omega)]; omega
   have qb := q3.bi hb
   have ql := q3.ln
   dsimp only [Qld]
   rw [w]
   exact ⟨_, GP hj2, q, hq, hX (evs.length - (j + 1)) _ (by omega) ⟨q.1, j + 1, q1, qb.1, qb.2.trans hg, by omega, by omega, by omega, rfl, rfl⟩⟩
  ·have : ¬ j < evs.length := by simpa using c
   omega
set_option maxRecDepth 100000
set_option maxHeartbeats 4000000
instance Qod : C1 := Ti
instance Qle : AR := RD
instance Q35 : YU := GJ
instance Qwm : HE := Q6v
instance Q82 : Ux := IK
instance Qwn : HG := Q71
instance Qoe : UQ := SY
instance y_base_At : BH := Qf0
instance Qwo : Eu := Q6w
instance Qt2 : G7 := Q2x
instance Qz1 : DD := Qav
instance Qwp : HH := Q6t
instance Qt3 : D4 := Q2q
instance Qt4 : D5 := Q2h
instance Qt5 : D6 := Q31
instance Qlf : AS := Rq
instance Q36 : KA := GI
instance Qof : Zu := Tn
instance Q79 : Kh := I7
instance Q01 : Zq := FT
instance Q44 : ZG := Hd
instance Qt6 : KB := Q2i
instance Qwq : Y1 := Q75
instance Qog : C2 := T0
instance Qax : Ki := LW
instance Q02 : Zr := FU
instance Q7a : ZE := I8
instance Qgi : UX := Ov
instance Q83 : Uy := IH
instance Qd2 : AT := ML
instance Qay : YW := LZ
instance Qlg : DF := Rs
instance Q84 : Uz := IJ
instance Qf1 : BI := NI
instance Qt7 : G8 := Q2z
instance Qt8 : G9 := Q2s
instance Qf2 : V8 := NC
instance Qwr : Vo := Q6p
instance Qws : U3 := Q76
instance Qaz : Ad := LO
instance Qwt : Ev := Q6m
instance Q45 : Ww := Hf
instance Q85 : UA := IL
instance Qwu : Cn := Q72
instance Qf3 : BJ := NF
instance Q46 : Wx := He
instance Qb0 : Ae := LM
instance Qgj : Cv := OF
instance Qt9 : Us := Q2l
instance Qlh : YE := Rh
instance Qta : Ga := Q2u
instance Qoh : EV := Tp
instance Qb1 : Af := LY
instance Qf4 : BK := NG
instance Qoi : EW := T5
instance Qb2 : Ag := LN
instance Qgk : Cw := OG
instance Qwv : Ew := Q6q
instance Q86 : Zv := IF
instance Qf5 : Ut := NH
instance Qli : DG := RE
instance Qz2 : Ah := Qaw
instance Qgl : UY := Ow
instance Qb3 : Ai := LR
instance Qz3 : DI := Qar
instance Qww : Ex := Q77
instance Qtb : D7 := Q2m
instance Qz4 : Ll := Qaq
instance Qoj : EX := Tj
instance Qwx : Ey := Q6z
instance Q47 : Wy := Hj
instance Qgm : Cy := Ox
instance Q87 : UB := II
instance Qz5 : W1 := Qas
instance Qtc : D8 := Q32
instance Qwy : AH := Q6r
instance Qf6 : BL := Ny
instance Qtd : D9 := Q2e
instance Qte : Da := Q29
instance Q48 : Wz := Hg
instance Qgn : UZ := OC
instance Qok : EY := Ts
instance Qol : EZ := Ta
instance Qz6 : Lm := Qat
instance Qom : C3 := T1
instance Qb4 : Al := LS
instance Qlj : AU := Rk
instance Qwz : HI := Q78
instance Qon : F0 := T2
instance y_base_Op : Ne := Qez
instance Qgo : Cz := On
instance Qtf : Gb := Q2f
instance Qoo : F1 := SQ
instance Qlk : U5 := Rw
instance Qz7 : Gc := Qau
instance Qtg : Db := Q33
instance Qll : DJ := RJ
instance Qop : KZ := Tc
instance Qoq : C4 := T6
instance Q49 : V6 := Ha
instance Qf7 : BM := NA
instance Q7b : U6 := I9
instance Qlm : AX := Rt
instance Q7c : Y6 := I4
instance Qd3 : AY := MJ
instance Qor : UR := SR
instance Qx0 : AJ := Q6x
instance Qb5 : W3 := LX
instance Qln : DK := RN
instance Qgp : XQ := Oy
instance Qos : Wo := T7
instance Qlo : AZ := Rl
instance Qlp : B0 := RX
instance Q88 : UC := IG
instance Qgq : XR := Oo
instance Qth : Gd := Q2g
instance Qot : Wp := SS
instance Qti : Ge := Q2v
instance Qlq : B2 := RF
instance Qtj : B4 := Q30
instance Qgr : VN := Oz
instance Qd4 : VE := MN
instance Qlr : B5 := Rm
instance Q7d : ZR := Ia
instance Qb6 : Km := LP
instance Qb7 : Am := LK
instance Qd5 : B6 := MK
instance Qb8 : W6 := LJ
instance Q4a : WA := Hh
instance Q89 : UD := IM
instance Qd6 : B7 := MQ
instance Qb9 : Xu := LV
instance Qf8 : BN := ND
instance Q4b : WB := Hb
instance Qba : An := M0
instance Qls : U7 := Rb
instance Qou : F2 := T3
instance Qlt : DL := Re
instance Qx1 : Co := Q6n
instance Qov : C5 := SU
instance Qlu : JQ := Ry
instance Qd7 : WS := MP
instance Qd8 : Y7 := MR
instance Qow : C6 := Td
instance Qtk : Dc := Q2r
instance Qox : C7 := SZ
instance Qlv : DN := RY
instance Qtl : Gf := Q2n
instance Q4c : XK := H7
instance Q4d : WC := H8
instance Qx2 : HJ := Q6y
instance Qx3 : Ez := Q6k
instance Qoy : F3 := Tk
instance Qoz : F4 := Tq
instance Qd9 : B8 := MS
instance Q7e : U9 := I6
instance Qbb : Ao := LU
instance Qlw : B9 := Rn
instance Qgs : CB := Oq
instance Q7f : Ua := I5
instance Qda : Ba := MH
instance Qp0 : F5 := Tw
instance Qp1 : Wq := T4
instance Qlx : DO := RG
instance Qtm : Gg := Q2c
instance Qf9 : YF := Nz
instance Qly : Bb := Rc
instance Qp2 : C8 := Tl
instance Qlz : DR := RH
instance Qm0 : DT := RO
instance Qtn : Dd := Q2t
instance Tz : Ja := FG
instance Qto : Bc := Q2j
instance Qp3 : C9 := Tx
instance Qtp : Gh := Q2o
instance Qm1 : Be := Rf
instance Qm2 : DU := Ri
instance Qtq : Gi := Q2a
instance Qtr : Gj := Q2w
instance Qm3 : Ub := RI
instance Qm4 : Bf := RQ
instance Qp4 : Ca := Te
instance Qfa : BO := NE
instance Qm5 : Uc := Ro
instance Qgt : CC := OH
instance Qts : Gk := Q2p
instance Qtt : Gl := Q2d
instance Q4e : WE := H9
instance Qgu : CE := Om
instance Qm6 : DV := Rz
instance Qp5 : F6 := Tr
instance Qp6 : F7 := Tt
instance Qgv : CF := OA
instance Qm7 : YG := Ru
instance Qgw : Wm := Ot
instance Qdb : WT := MU
instance Q03 : YH := FS
instance Q8a : UE := ID
instance Qm8 : DW := Rj
instance Qp7 : F8 := SV
instance Q4f : WF := Hi
instance Qx4 : EA := Q70
instance Qx5 : HK := Q73
instance Qgx : CG := OB
instance Qx6 : EB := Q74
instance Qx7 : HL := Q6s
instance Q4g : WG := Hc
instance Qbc : Ap := M1
instance Qfb : BP := NB
instance Q8b : UF := IE
instance Qbd : Aq := LL
instance Qtu : De := Q2b
instance Qm9 : DX := RA
instance Qtv : Gn := Q2y
instance Qma : DY := RR
instance Qmb : DZ := Rv
instance Qp8 : F9 := T8
instance Qmc : E0 := Rp
instance Qtw : Gp := Q2k
instance Qtx : Gq := Q34
instance Qp9 : Fa := Ty
instance Qgy : CI := OD
instance Qgz : A1 := OE
instance Qpa : Fb := T9
instance Qpb : Fc := Tf
instance Qbe : Ar := LQ
instance Qx8 : HM := Q6l
instance Qx9 : HN := Q6o
instance Qxa : EE := Q6u
instance Qh0 : CJ := Ou
instance Qmd : E2 := RU
instance Qpc : US := SX
instance Qpd : Fe := Tu
instance Qpe : Ff := Tm
instance Qpf : Fi := Tg
instance Qdc : EF := MO
theorem BoundEnds_walk (a0 : Int) (v1 : Value) (l1 : List Int) (v2 : Value) (l2 : List Int) (w : World) (h0 : (Lit.int .i64 a0).wf = true) (h1 : Ints .i64 w v1 l1) (s1 : l1.length * Tryz.prog.bytesOf 3 ≤ 140737488351232) (h2 : Ints .i64 w v2 l2) (s2 : l2.length * Tryz.prog.bytesOf 3 ≤ 140737488351232) :
  Calls Tryz.prog 3 #[.int .i64 a0, v1, v2] w fun e w' => e = .returned (.bool true) ∧ Below w.heap.size w w' := by
 refine (Ml (A := fun x => x < w.heap.size) (vs := #[.int .i64 a0, v1, v2]) (g := 0) (q := 0) (Lh (MG a0 l1 l2)) rfl (fun x h => h) ⟨.v _ h0, P4 h1 (fun _ _ _ g _ _ hg => hg), P4 h2 (fun _ _ _ g _ _ hg => hg), trivial⟩).mono ?_
 rintro e w' ⟨rfl, hg⟩
 exact ⟨rfl, OU hg⟩
end Go.Proofs.YtimfmcpbkdpmoaaGreat
