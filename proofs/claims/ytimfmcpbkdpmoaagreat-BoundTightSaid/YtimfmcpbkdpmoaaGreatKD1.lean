/- Parts of the proof, laid together. No condition. -/
import Derived.Test.YtimfmcpbkdpmoaaGreatKT1
import Derived.Test.YtimfmcpbkdpmoaaGreatKT2
import Derived.Test.YtimfmcpbkdpmoaaGreatKT3
import Derived.Test.YtimfmcpbkdpmoaaGreatKT4
import Derived.Test.YtimfmcpbkdpmoaaGreatKT5
import Derived.Test.YtimfmcpbkdpmoaaGreatKT6
import Derived.Test.YtimfmcpbkdpmoaaGreatKT7
import Derived.Test.YtimfmcpbkdpmoaaGreatKT8
import Derived.Test.YtimfmcpbkdpmoaaGreatKT9
import Derived.Test.YtimfmcpbkdpmoaaGreatKT10
import Derived.Test.YtimfmcpbkdpmoaaGreatKT11
import Derived.Test.YtimfmcpbkdpmoaaGreatKT12
import Derived.Test.YtimfmcpbkdpmoaaGreatKU1
import Derived.Test.YtimfmcpbkdpmoaaGreatKU2
import Derived.Test.YtimfmcpbkdpmoaaGreatKU3
import Derived.Test.YtimfmcpbkdpmoaaGreatKU4
import Derived.Test.YtimfmcpbkdpmoaaGreatKU5
import Derived.Test.YtimfmcpbkdpmoaaGreatKU6
import Derived.Test.YtimfmcpbkdpmoaaGreatKU7
import Derived.Test.YtimfmcpbkdpmoaaGreatKU8
import Derived.Test.YtimfmcpbkdpmoaaGreatKC1
import Derived.Below
set_option linter.unusedVariables false
set_option linter.unusedSimpArgs false
namespace Go.Proofs.YtimfmcpbkdpmoaaGreat
open Go.RowKit
set_option maxRecDepth 100000
set_option maxHeartbeats 4000000
instance Qjj : B6 := Pt
instance Qjk : B7 := Pu
instance Qms : ZM := S7
instance Qjl : B8 := Pv
instance Q12 : W8 := Gg
instance Qv5 : Nr := Q4s
instance Q6n : CN := I7
instance x_ref14_Holds : Wm := S4
instance x_ref14_index : Wn := S8
instance Qr0 : G2 := Q0q
instance Qf8 : CC := NN
instance Qr1 : G3 := Q0y
instance Q55 : Yp := Hu
instance Qjm : DK := Pk
instance Qbu : B9 := Mb
instance Qjn : DL := Pw
instance Qy1 : Ai := Q96
instance Qmt : ES := S5
instance x_ref14_Covers : U7 := Pe
instance Q6o : Uy := I8
instance Qjo : Ba := P7
instance Qr2 : D7 := Q0r
instance Qr3 : Bb := Q0w
instance Qmu : C6 := RR
instance Qjp : DN := Px
instance x_ref1_IsName : V7 := RN
instance Sa : JF := F6
instance Q2k : Y1 := GC
instance Qr4 : G4 := Q0e
instance Qjq : DO := Pf
instance Qjr : DR := Py
instance Qmv : ET := RO
instance Q2l : WB := GA
instance Q98 : Aj := Lf
instance Q2m : WC := Gu
instance Qr5 : D8 := Q0n
instance Qjs : DT := Pz
instance Qmw : C7 := Ry
instance Qr6 : G5 := Q0l
instance Qmx : C8 := S0
instance Qjt : Bc := Pl
instance Sb : C9 := RG
instance Qju : Be := Pg
instance Qf9 : Y7 := NQ
instance Qjv : Bf := P3
instance Qfa : Y8 := NG
instance Qfb : Xm := NM
instance Qjw : Bg := Pm
instance Q13 : Bh := Q0f
instance Qmy : Wo := RU
instance x_ref19_Live : D9 := Q0z
instance Qjx : Bj := P4
instance Qv6 : Hp := Q4q
instance Qr7 : G6 := Q0s
instance Qjy : DU := Pn
instance Qv7 : Cl := Q4n
instance Qmz : UK := RX
instance Qjz : DV := PC
instance Qn0 : EU := Rz
instance Qn1 : EV := RQ
instance Qr8 : G7 := Q0t
instance Qk0 : Bl := Po
instance Qn2 : Ca := RH
instance Qfc : CE := NI
instance Qr9 : Jm := Q10
instance Q6p : ZN := I0
instance Q14 : Vs := Gf
instance Q2n : Y2 := GB
instance Qy2 : IT := Q91
instance Qra : G8 := Q11
instance Qn3 : EW := RY
instance Qdv : Ft := MP
instance Q56 : J0 := Hw
instance Tl : ZH := Fv
instance Q2o : K2 := Gz
instance Qv8 : Yq := Q50
instance Qn4 : Cb := RA
instance Q99 : Ja := La
instance Tm : ZI := Fw
instance Q57 : ZV := Hy
instance Qfd : US := NE
instance Q6q : Uz := I3
instance Qbv : Bm := Mg
instance Q9a : W9 := IX
instance Qk1 : DW := P8
instance Q6r : UA := I5
instance Qdw : BK := MY
instance Qrb : G9 := Q0g
instance Qrc : Ga := Q0o
instance Qdx : VJ := N0
instance Q58 : VZ := Q4k
instance Qv9 : U8 := Q4r
instance Q9b : Ak := Ld
instance Nt : El := Q4w
instance Q2p : WE := Gv
instance Q6s : UB := I4
instance Qva : Cm := Q51
instance Qdy : BL := MQ
instance Q2q : WF := Gx
instance Q9c : Al := Le
instance NS : CF := NO
instance Q9d : Am := L2
instance Qdz : BM := MS
instance Qn5 : EX := S9
instance Q9e : An := IY
instance Qfe : CG := NH
instance Qe0 : Um := MW
instance Qff : UT := NP
instance Q9f : Ao := L3
instance Qy3 : DX := Q95
instance Qvb : Eo := Q52
instance Qrd : Da := Q0c
instance Qy4 : IU := Q92
instance Qn6 : EY := S1
instance Qvc : Ep := Q4x
instance Q2r : WG := Gw
instance Qfg : CI := NJ
instance Q6t : UC := I9
instance Qvd : Az := Q4l
instance x_ref6_sum : Wa := Q93
instance Qre : Db := Q0u
instance Qe1 : BN := MZ
instance Qrf : Dc := Q0h
instance Qrg : Dd := Q0p
instance Q2s : WH := GD
instance Qfh : UU := ND
instance Qbw : Xa := M9
instance Qrh : Bn := Q0v
instance Qk2 : Bo := Pp
instance Qn7 : EZ := RI
instance x_ref6_sorted : F0 := RZ
instance x_ref1_Bit : IV := Q97
instance Qn8 : Cc := RD
instance Q9g : Ap := Lb
instance Qbx : Bp := Me
instance Q59 : Kj := Hz
instance Q9h : Jb := L5
instance Q9i : Aq := Lc
instance Qby : Bq := Mh
instance Q9j : Wb := IZ
instance Q2t : WI := Gy
instance Q6u : UD := I6
instance Qbz : Br := Mf
instance Q9k : XY := L6
instance Qe2 : BO := MU
instance Q2u : WJ := GE
instance Q9l : Ar := L0
instance Qc0 : Bs := Ma
instance Q5a : U9 := Hv
instance Q9m : As := Lg
instance Qk3 : Bt := P6
instance Qfi : CJ := NK
instance Q5b : Ua := HA
instance Tn : YM := Fu
instance Q6v : UE := I1
instance Qk4 : DY := Ph
instance Qn9 : F1 := S6
instance Q2v : WK := Gs
instance Qve : Er := Q4o
instance Qvf : Hq := Q4t
instance Qfj : CK := NR
instance x_ref12_New : Es := Q4m
instance x_ref12_Insert : Bu := P9
instance Qna : F2 := S2
instance Qk5 : Ub := Pq
instance PD : Uc := P0
instance Qfk : Wg := NF
instance Qc1 : WP := Mc
instance Qvg : Et := Q53
instance Qnb : F3 := RE
instance Qri : Gb := Q0m
instance Qk6 : DZ := Pi
instance Qk7 : Vt := Pr
instance Qc2 : Yr := M8
instance Qvh : Cn := Q4p
instance Qnc : Cd := RF
instance Qc3 : WQ := Md
instance Qvi : Eu := Q54
instance Qnd : F4 := S3
instance Qk8 : E0 := P1
instance Qrj : Gc := Q0d
instance Qrk : Gd := Q0i
instance Qe3 : YN := MR
instance Qk9 : YO := Pj
instance Qvj : Hr := Q4y
instance Q2w : WL := Gt
instance Q9n : Au := L8
instance Qe4 : BP := MV
instance Q6w : UF := Ia
instance Qka : E2 := P5
instance Qkb : E3 := Pb
instance Qkc : Ud := Pd
instance Qe5 : BQ := MX
instance Qrl : Ge := Q0x
instance Qfl : CL := NL
instance Qkd : E4 := Ps
instance Q15 : M5 := Q0b
instance Sc : Ir := RJ
instance Qvk : Hs := Q4u
instance Qne : F5 := Ce
instance N1 : HW := Qdu
instance Qrm : M6 := Q0j
instance Qy5 : IW := Q94
instance Qvl : Ht := Q4v
instance Qrn : M7 := Q0k
instance Qvm : Ns := Q4z
end Go.Proofs.YtimfmcpbkdpmoaaGreat

namespace Go.Proofs.YtimfmcpbkdpmoaaGreat
open Go.RowKit
set_option maxRecDepth 100000
theorem w6 {x a b : Int} (h : a ≤ x ∧ x ≤ b) : Rr (Qz x a b) true := by
 unfold Rr; rw [Qz.eq_1]; simp [h]
theorem w12 {x a b : Int} (h : a ≤ x ∧ x ≤ b) : Rr (Zn x a b) true := by
 unfold Rr; rw [Zn.eq_1]; simp [h]
abbrev z1 : Qc := ⟨0, 0, false⟩
abbrev z2 : Q3 := ⟨0, 0, 0, [], false⟩
abbrev z3 : Q7 := ⟨0, 0, []⟩
abbrev z4 : Qd := ⟨0, 0, [], false⟩
abbrev z5 : Q4 := ⟨0, 0, 0, [], false⟩
abbrev z6 : Q8 := ⟨0, 0, 0, [], false⟩
inductive Em : Q6 → Prop
 | a : Em ⟨⟨1, 0, 0, 0⟩, z1, z2, z3, z4, z5, z6⟩
 | b (s d e : Int) (n : Nat) (h : 1 ≤ s ∧ s ≤ 4) (k : 1 ≤ d ∧ d ≤ 2) (he : 0 ≤ e ∧ e ≤ 1000) (hn : (n : Int) = d * s) : Em ⟨⟨2, s, d, e⟩, z1, ⟨d, s, e, List.replicate n 0, false⟩, z3, z4, z5, z6⟩
 | c (s e : Int) (n : Nat) (h : 2 ≤ s ∧ s ≤ 3) (he : 0 ≤ e ∧ e ≤ 1000) (hn : (n : Int) = Xn .i64 1 (IntKind.u64.wrap s)) (hn2 : n ≤ 8) : Em ⟨⟨3, s, 0, e⟩, z1, z2, ⟨s, e, List.replicate n 0⟩, z4, z5, z6⟩
 | d (s : Int) (h : 1 ≤ s ∧ s ≤ 4) : Em ⟨⟨4, s, 0, 0⟩, z1, z2, z3, ⟨s, 0, [], false⟩, z5, z6⟩
 | e (s : Int) (h : 1 ≤ s ∧ s ≤ 4) : Em ⟨⟨5, s, 0, 0⟩, z1, z2, z3, z4, ⟨s, 0, 0, [], false⟩, z6⟩
 | f (s : Int) (h : 1 ≤ s ∧ s ≤ 4) (k : s.tmod 2 = 0) : Em ⟨⟨6, s, 0, 0⟩, z1, z2, z3, z4, z5, ⟨s, 0, 0, [], false⟩⟩
theorem Qy6 {x : Q6} (h : Em x) : Rr (QE x.fu) 0 := by
  cases h with
  | a => unfold Rr; rw [QE.eq_1]
         exact UN
  | b s d e n h k he hn =>
    have := w12 (x := s) (a := 1) (b := 64) (by omega)
    have := w12 (x := d) (a := 1) (b := 8) (by omega)
    unfold Rr; rw [QE.eq_1]
    exact UN
  | c s e n h he hn hn2 =>
    have := w12 (x := s) (a := 2) (b := 8) (by omega)
    unfold Rr; rw [QE.eq_1]
    exact UN
  | d s h =>
    have := w12 (x := s) (a := 1) (b := 32) (by omega)
    unfold Rr; rw [QE.eq_1]
    exact UN
  | e s h =>
    have := w12 (x := s) (a := 1) (b := 32) (by omega)
    unfold Rr; rw [QE.eq_1]
    exact UN
  | f s h k =>
    have := w12 (x := s) (a := 2) (b := 32) (by rw [Int.tmod_eq_emod_of_nonneg (by omega)] at k; omega)
    unfold Rr; rw [QE.eq_1]
    dsimp only
    rw [k]
    exact UN
theorem vTa : Rr (Z2 z1) 0 := by
 have := w6 (x := 0) (a := 0) (b := 4294967295) (by omega)
 unfold Rr; rw [Z2.eq_1]
 exact UN
theorem vCm {s d e : Int} {n : Nat} (h : 1 ≤ s ∧ s ≤ 4) (k : 1 ≤ d ∧ d ≤ 2) (hn : (n : Int) = d * s) : Rr (QH ⟨d, s, e, List.replicate n 0, false⟩) 0 := by
 have n8 : n ≤ 100 := by
  have : d * s ≤ 2 * 4 := Int.mul_le_mul k.2 h.2 (by omega) (by omega)
  omega
 have w := w6 (x := 0) (a := 0) (b := 4294967295) (by omega)
 unfold Rr; rw [QH.eq_1]
 dsimp only
 rw [List.length_replicate, Zp (n := d * s) (by omega)]
 refine ⟨_, w6 ⟨k.1, by omega⟩, _, fun _ => w6 ⟨h.1, by omega⟩, Ye rfl (XH (Ye (by simp [hn]) (Fo ?_)))⟩
 refine XM (I := fun m s => ∃ j : Nat, s = (j : Int) ∧ j ≤ n ∧ m = n - j) ?_ (k := n) ⟨0, rfl, by omega, rfl⟩
 rintro m s ⟨j, rfl, hj, hm⟩ X hX
 refine KL (fun c => ?_) fun _ => rfl
 have hj2 : j < n := by simp only [decide_eq_true_eq] at c; omega
 refine ⟨0, ⟨by omega, by simp [hj2]⟩, _, w, Ye rfl ?_⟩
 rw [Zp (by omega)]
 exact hX (n - (j + 1)) _ (by omega) ⟨j + 1, by omega, by omega, rfl⟩
theorem vLl {s e : Int} {n : Nat} (h : 2 ≤ s ∧ s ≤ 3) (hn : (n : Int) = Xn .i64 1 (IntKind.u64.wrap s)) (hn2 : n ≤ 8) : Rr (QS ⟨s, e, List.replicate n 0⟩) 0 := by
 have w := w6 (x := 0) (a := 0) (b := IntKind.i64.wrap (65 - s)) (by rw [Zp (by omega)]; omega)
 unfold Rr; rw [QS.eq_1]
 dsimp only
 rw [List.length_replicate, ← hn]
 refine ⟨_, w6 ⟨h.1, by omega⟩, Ye rfl ⟨(BB _).1, Ye (by simp) (Fo ?_)⟩⟩
 refine XM (I := fun m s => ∃ j : Nat, s = (j : Int) ∧ j ≤ n ∧ m = n - j) ?_ (k := n) ⟨0, rfl, by omega, rfl⟩
 rintro m s ⟨j, rfl, hj, hm⟩ X hX
 refine KL (fun c => ?_) fun _ => rfl
 have hj2 : j < n := by simp only [decide_eq_true_eq] at c; omega
 refine ⟨0, ⟨by omega, by simp [hj2]⟩, _, w, Ye rfl ?_⟩
 rw [Zp (by omega)]
 exact hX (n - (j + 1)) _ (by omega) ⟨j + 1, by omega, by omega, rfl⟩
theorem vTp {s : Int} (h : 1 ≤ s ∧ s ≤ 4) : Rr (Z9 ⟨s, 0, [], false⟩) 0 := by
 have := w6 (x := s) (a := 1) (b := 32) (by omega)
 have := w6 (x := 0) (a := 0) (b := 1099511627776) (by omega)
 unfold Rr; rw [Z9.eq_1]
 exact UN
theorem vFr {s : Int} (h : 1 ≤ s ∧ s ≤ 4) : Rr (QI ⟨s, 0, 0, [], false⟩) 0 := by
 have := w6 (x := s) (a := 1) (b := 32) (by omega)
 have := w6 (x := 0) (a := 0) (b := 1099511627776) (by omega)
 unfold Rr; rw [QI.eq_1]
 exact UN
theorem vRk {s : Int} (h : 1 ≤ s ∧ s ≤ 4) (k : s.tmod 2 = 0) : Rr (QR ⟨s, 0, 0, [], false⟩) 0 := by
 have := w6 (x := s) (a := 2) (b := 32) (by rw [Int.tmod_eq_emod_of_nonneg (by omega)] at k; omega)
 have := w6 (x := 0) (a := 0) (b := 1099511627776) (by omega)
 unfold Rr; rw [QR.eq_1]
 dsimp only
 rw [k]
 exact UN
theorem Qvn {l : List Int} (hl : l.length ≤ 100000) : Rr (Jd l l) true := by
 unfold Rr; rw [Jd.eq_1]
 refine Ye (by simp) (Fo ?_)
 refine XM (I := fun m s => ∃ j : Nat, s = (j : Int) ∧ j ≤ l.length ∧ m = l.length - j) ?_ (k := l.length) ⟨0, rfl, by omega, rfl⟩
 rintro m s ⟨j, rfl, hj, hm⟩ X hX
 refine KL (fun c => ?_) fun _ => rfl
 have hj2 : j < l.length := by simpa using c
 refine ⟨_, CM hj2, _, CM hj2, Ye (by simp) ?_⟩
 rw [Zp (by omega)]
 exact hX (l.length - (j + 1)) _ (by omega) ⟨j + 1, by omega, by omega, rfl⟩
theorem sEnt : Rr (ZW [] []) true := by
 unfold Rr; rw [ZW.eq_1]
 exact UN
theorem Em.cm {x : Q6} (h : Em x) : x.fj.fc0.length ≤ 100 ∧ x.fa0.fa3.length ≤ 100 ∧ x.fb5.fw = [] ∧ x.fk.fw = [] ∧ x.f7.fb2 = [] := by
 cases h with
 | b s d e n h k he hn =>
  have : d * s ≤ 2 * 4 := Int.mul_le_mul k.2 h.2 (by omega) (by omega)
  exact ⟨by simp; omega, by simp, rfl, rfl, rfl⟩
 | c s e n h he hn hn2 => exact ⟨by simp, by simp; omega, rfl, rfl, rfl⟩
 | _ => exact ⟨by simp, by simp, rfl, rfl, rfl⟩
theorem Qro {x : Q6} (h : Em x) : Rr (Xr x x) true := by
 obtain ⟨h1, h2, h3, h4, h5⟩ := h.cm
 have a1 : Rr (K4 x.fj x.fj) true := by
  unfold Rr; rw [K4.eq_1]; exact ⟨true, fun _ => Qvn (by omega), by simp⟩
 have a2 : Rr (KJ x.fa0 x.fa0) true := by
  unfold Rr; rw [KJ.eq_1]; exact ⟨true, fun _ => Qvn (by omega), by simp⟩
 have a3 : Rr (Vb x.fb5 x.fb5) true := by
  unfold Rr; rw [Vb.eq_1, h3]; exact ⟨true, fun _ => sEnt, by simp⟩
 have a4 : Rr (K5 x.fk x.fk) true := by
  unfold Rr; rw [K5.eq_1, h4]; exact ⟨true, fun _ => sEnt, by simp⟩
 have a5 : Rr (Jj x.f7 x.f7) true := by
  unfold Rr; rw [Jj.eq_1, h5]
  refine Ye (by simp) (XH (Fo (rnl fun Y hY => Ye (by simp) rfl)))
 unfold Rr; rw [Xr.eq_1]
 exact ⟨true, fun _ => a1, true, fun _ => a2, true, fun _ => a3, true, fun _ => a4, true, fun _ => a5, by simp⟩
theorem Qrp {x : Q6} (h : Em x) : Rr (Xs x) x := by
 unfold Rr; rw [Xs.eq_1]
 cases h <;> (
  exact UN)
theorem Qy7 {x : Q6} (h : Em x) : Rr (Zq x) 0 := by
 have q1 := Qy6 h
 have q2 := Qrp h
 have q3 := Qro h
 unfold Rr; rw [Zq.eq_1]
 cases h with
 | a =>
  have := vTa
  exact UN
 | b s d e n h k he hn =>
  have := vCm (e := e) h k hn
  exact UN
 | c s e n h he hn hn2 =>
  have := vLl (e := e) h hn hn2
  exact UN
 | d s h =>
  have := vTp h
  exact UN
 | e s h =>
  have := vFr h
  exact UN
 | f s h k =>
  have := vRk h k
  exact UN
theorem nn {d s : Int} {n : Nat} (h : 1 ≤ s ∧ s ≤ 4) (k : 1 ≤ d ∧ d ≤ 2) (hn : (n : Int) = d * s) : IntKind.i64.wrap (d * s) = (n : Int) ∧ n ≤ 8 := by
 have : d * s ≤ 2 * 4 := Int.mul_le_mul k.2 h.2 (by omega) (by omega)
 exact ⟨by rw [Zp (by omega)]; omega, by omega⟩
theorem Qke {x : Q6} (h : Em x) : Rr (XC x.fu) (x, 0) := by
 have q1 := Qy6 h
 unfold Rr; rw [XC.eq_1]
 cases h with
 | a =>
  exact UN
 | b s d e n h k he hn =>
  have : Rr (Km d s e) (⟨d, s, e, List.replicate n 0, false⟩, 0) := by
   obtain ⟨w, n8⟩ := nn h k hn
   unfold Rr; rw [Km.eq_1, w]
   exact ⟨_, w6 ⟨k.1, by omega⟩, _, fun _ => w6 ⟨h.1, by omega⟩, Ye rfl (XH ⟨by omega, XH (by rw [Int.toNat_natCast])⟩)⟩
  exact UN
 | c s e n h he hn hn2 =>
  have : Rr (Jl s e) (⟨s, e, List.replicate n 0⟩, 0) := by
   unfold Rr; rw [Jl.eq_1, ← hn]
   exact ⟨_, w6 ⟨h.1, by omega⟩, Ye rfl ⟨(BB _).1, by omega, XH (by rw [Int.toNat_natCast])⟩⟩
  exact UN
 | d s h =>
  have : Rr (VM s) (⟨s, 0, [], false⟩, 0) := by
   unfold Rr; rw [VM.eq_1]
   exact ⟨_, w6 ⟨h.1, by omega⟩, Ye rfl rfl⟩
  exact UN
 | e s h =>
  have : Rr (Kn s) (⟨s, 0, 0, [], false⟩, 0) := by
   unfold Rr; rw [Kn.eq_1]
   exact ⟨_, w6 ⟨h.1, by omega⟩, Ye rfl rfl⟩
  exact UN
 | f s h k =>
  have : Rr (JJ s) (⟨s, 0, 0, [], false⟩, 0) := by
   unfold Rr; rw [JJ.eq_1, k]
   exact ⟨_, w6 ⟨by rw [Int.tmod_eq_emod_of_nonneg (by omega)] at k; omega, by omega⟩, Ye rfl (XH rfl)⟩
  exact UN
theorem Qrq {x : Q6} (h : Em x) : Rr (Yl x.fu [] []) x := by
 have := Qke h
 unfold Rr; rw [Yl.eq_1]
 refine ⟨_, this, Fo (rnl fun Y hY => Ye rfl rfl)⟩
theorem oz : oB 0 := by unfold oB; omega
theorem BR (a : Int) (h : a ≤ 1000000000) : ∃ u, Rr (QV a) u ∧ u.length ≤ 10 ∧ bB u := by
 obtain ⟨u, hu, h1, h2, _⟩ := (Q58 (a0 := a)).go (by omega)
 exact ⟨u, hu, h1, h2⟩
theorem Qc4 {g : Int} {b : List Int} (hg : oB g) (hb : bB b) (hl : b.length ≤ 1000) : ∃ r, Rr (JI g b) (r, 0) ∧ r.length ≤ b.length + 15 ∧ bB r := by
 obtain ⟨u, hu, u1, u2⟩ := BR (b.length : Int) (by omega)
 obtain ⟨c, hc, _⟩ := (NS (a0 := ([g] ++ u) ++ b)).go (by simp only [List.length_append, List.length_cons, List.length_nil]; omega)
 refine ⟨((([g] ++ u) ++ b) ++ [(IntKind.u8.wrap (ZQ .u32 c 24)), (IntKind.u8.wrap (ZQ .u32 c 16)), (IntKind.u8.wrap (ZQ .u32 c 8)), (IntKind.u8.wrap c)]), ?_, by simp only [List.length_append, List.length_cons, List.length_nil]; omega, ?_⟩
 ·unfold Rr; rw [JI.eq_1]
  refine Ye (by simp; omega) (XH ⟨u, hu, by simp only [List.length_append, List.length_cons, List.length_nil]; omega, by simp only [List.length_append, List.length_cons, List.length_nil]; omega, c, hc, XH ⟨by simp only [List.length_append, List.length_cons, List.length_nil]; omega, rfl⟩⟩)
 ·exact ZP (ZP (ZP (KO hg) u2) hb) (CW ⟨w8a, w8b⟩ (CW ⟨w8a, w8b⟩ (CW ⟨w8a, w8b⟩ (KO ⟨w8a, w8b⟩))))
def Fb (b : List Int) : Prop := b.length ≤ 250 ∧ bB b
theorem e_Ta : ∃ b, Rr (Kk z1) (b, 0) ∧ Fb b := by
 obtain ⟨u, hu, u1, u2⟩ := BR 0 (by decide)
 have := vTa
 have f : Rr (Zz false) [0] := by unfold Rr; rw [Zz.eq_1]; exact Ye rfl (XH rfl)
 refine ⟨u ++ u ++ [0], ?_, ⟨by simp only [List.length_append, List.length_cons, List.length_nil]; omega, ZP (ZP u2 u2) (KO oz)⟩⟩
 unfold Rr; rw [Kk.eq_1]
 exact ⟨_, this, Ye rfl ⟨u, hu, u, hu, by omega, _, f, by simp only [List.length_append, List.length_cons, List.length_nil]; omega, rfl⟩⟩
theorem e_Cm {s d e : Int} {n : Nat} (h : 1 ≤ s ∧ s ≤ 4) (k : 1 ≤ d ∧ d ≤ 2) (hn : (n : Int) = d * s) : ∃ b, Rr (Zr ⟨d, s, e, List.replicate n 0, false⟩) (b, 0) ∧ Fb b := by
 obtain ⟨_, n8⟩ := nn h k hn
 obtain ⟨u, hu, u1, u2⟩ := BR 0 (by decide)
 obtain ⟨a, ha, a1, a2⟩ := BR d (by omega)
 obtain ⟨b, hb, b1, b2⟩ := BR s (by omega)
 obtain ⟨w, hw, w1, w2⟩ := (Nt (a0 := e)).go trivial
 have v := vCm (e := e) h k hn
 have f : Rr (Zz false) [0] := by unfold Rr; rw [Zz.eq_1]; exact Ye rfl (XH rfl)
 suffices H : ∃ r, Rr (Zr ⟨d, s, e, List.replicate n 0, false⟩) r ∧ Fb r.1 ∧ r.2 = 0 by
  obtain ⟨⟨r, z⟩, q1, q2, q3⟩ := H
  dsimp only at q3; subst q3
  exact ⟨r, q1, q2⟩
 refine ex_ ?_
 rw [Zr.eq_1]
 refine ⟨_, v, Ye rfl ⟨a, ha, b, hb, by omega, w, hw, by simp only [List.length_append]; omega, HV (fun p => p.length ≤ 28 + 10 * n ∧ bB p) (fun p hp => ⟨_, f, by simp only [List.length_cons, List.length_nil]; omega, ⟨by simp only [List.length_append, List.length_cons, List.length_nil]; omega, ZP hp.2 (KO oz)⟩, rfl⟩) fun J hJ => ?_⟩⟩
 dsimp only
 rw [List.length_replicate]
 refine XM (I := fun m s => ∃ j : Nat, s.2 = (j : Int) ∧ j ≤ n ∧ m = n - j ∧ s.1.length ≤ 28 + 10 * j ∧ bB s.1) ?_ (k := n) ⟨0, rfl, by omega, rfl, by simp only [List.length_append]; omega, ZP (ZP a2 b2) w2⟩
 rintro m ⟨p, i⟩ ⟨j, hj, hj1, hm, hp, hb⟩ X hX
 dsimp only at hj hp hb ⊢
 subst hj
 refine KL (fun c => ?_) fun c => hJ _ ⟨by simp at c; omega, hb⟩
 have hj2 : j < n := by simp only [decide_eq_true_eq] at c; omega
 refine ⟨0, ⟨by omega, by simp [hj2]⟩, u, hu, by omega, ?_⟩
 rw [Zp (by omega)]
 exact hX (n - (j + 1)) _ (by omega) ⟨j + 1, by simp, by omega, rfl, by simp only [List.length_append]; omega, ZP hb u2⟩
theorem e_Ll {s e : Int} {n : Nat} (h : 2 ≤ s ∧ s ≤ 3) (hn : (n : Int) = Xn .i64 1 (IntKind.u64.wrap s)) (hn2 : n ≤ 8) : ∃ b, Rr (ZK ⟨s, e, List.replicate n 0⟩) (b, 0) ∧ Fb b := by
 obtain ⟨a, ha, a1, a2⟩ := BR s (by omega)
 obtain ⟨w, hw, w1, w2⟩ := (Nt (a0 := e)).go trivial
 have v := vLl (e := e) h hn hn2
 suffices H : ∃ r, Rr (ZK ⟨s, e, List.replicate n 0⟩) r ∧ Fb r.1 ∧ r.2 = 0 by
  obtain ⟨⟨r, z⟩, q1, q2, q3⟩ := H
  dsimp only at q3; subst q3
  exact ⟨r, q1, q2⟩
 refine ex_ ?_
 rw [ZK.eq_1]
 refine ⟨_, v, Ye rfl ⟨a, ha, w, hw, by omega, HV (fun p => p.length ≤ 28 + 10 * n ∧ bB p) (fun p hp => ⟨⟨by dsimp only; omega, hp.2⟩, rfl⟩) fun J hJ => ?_⟩⟩
 dsimp only
 rw [List.length_replicate]
 refine XM (I := fun m s => ∃ j : Nat, s.2 = (j : Int) ∧ j ≤ n ∧ m = n - j ∧ s.1.length ≤ 28 + 10 * j ∧ bB s.1) ?_ (k := n) ⟨0, rfl, by omega, rfl, by simp only [List.length_append]; omega, ZP a2 w2⟩
 rintro m ⟨p, i⟩ ⟨j, hj, hj1, hm, hp, hb⟩ X hX
 dsimp only at hj hp hb ⊢
 subst hj
 refine KL (fun c => ?_) fun c => hJ _ ⟨by simp at c; omega, hb⟩
 have hj2 : j < n := by simp only [decide_eq_true_eq] at c; omega
 refine ⟨0, ⟨by omega, by simp [hj2]⟩, XH ⟨by simp only [List.length_cons, List.length_nil]; omega, ?_⟩⟩
 rw [Zp (by omega)]
 exact hX (n - (j + 1)) _ (by omega) ⟨j + 1, by simp, by omega, rfl, by simp only [List.length_append, List.length_cons, List.length_nil]; omega, ZP hb (KO ⟨w8a, w8b⟩)⟩
theorem e_Tp {s : Int} (h : 1 ≤ s ∧ s ≤ 4) : ∃ b, Rr (Jk ⟨s, 0, [], false⟩) (b, 0) ∧ Fb b := by
 obtain ⟨u, hu, u1, u2⟩ := BR 0 (by decide)
 obtain ⟨a, ha, a1, a2⟩ := BR s (by omega)
 have v := vTp h
 have f : Rr (Zz false) [0] := by unfold Rr; rw [Zz.eq_1]; exact Ye rfl (XH rfl)
 refine ⟨((a ++ u) ++ [0]) ++ u, ?_, ⟨by simp only [List.length_append, List.length_cons, List.length_nil]; omega, ZP (ZP (ZP a2 u2) (KO oz)) u2⟩⟩
 unfold Rr; rw [Jk.eq_1]
 exact ⟨_, v, Ye rfl ⟨a, ha, u, hu, by omega, _, f, by simp only [List.length_append, List.length_cons, List.length_nil]; omega, u, hu, by simp only [List.length_append, List.length_cons, List.length_nil]; omega, Fo (rnl fun Y hY => Ye rfl rfl)⟩⟩
theorem e_Fr {s : Int} (h : 1 ≤ s ∧ s ≤ 4) : ∃ b, Rr (ZE ⟨s, 0, 0, [], false⟩) (b, 0) ∧ Fb b := by
 obtain ⟨u, hu, u1, u2⟩ := BR 0 (by decide)
 obtain ⟨a, ha, a1, a2⟩ := BR s (by omega)
 have v := vFr h
 have f : Rr (Zz false) [0] := by unfold Rr; rw [Zz.eq_1]; exact Ye rfl (XH rfl)
 refine ⟨(((a ++ u) ++ u) ++ [0]) ++ u, ?_, ⟨by simp only [List.length_append, List.length_cons, List.length_nil]; omega, ZP (ZP (ZP (ZP a2 u2) u2) (KO oz)) u2⟩⟩
 unfold Rr; rw [ZE.eq_1]
 exact ⟨_, v, Ye rfl ⟨a, ha, u, hu, by omega, u, hu, by simp only [List.length_append]; omega, _, f, by simp only [List.length_append, List.length_cons, List.length_nil]; omega, u, hu, by simp only [List.length_append, List.length_cons, List.length_nil]; omega, Fo (rnl fun Y hY => Ye rfl rfl)⟩⟩
theorem e_Rk {s : Int} (h : 1 ≤ s ∧ s ≤ 4) (k : s.tmod 2 = 0) : ∃ b, Rr (Kl ⟨s, 0, 0, [], false⟩) (b, 0) ∧ Fb b := by
 obtain ⟨u, hu, u1, u2⟩ := BR 0 (by decide)
 obtain ⟨a, ha, a1, a2⟩ := BR s (by omega)
 have v := vRk h k
 have f : Rr (Zz false) [0] := by unfold Rr; rw [Zz.eq_1]; exact Ye rfl (XH rfl)
 refine ⟨(((a ++ u) ++ u) ++ [0]) ++ u, ?_, ⟨by simp only [List.length_append, List.length_cons, List.length_nil]; omega, ZP (ZP (ZP (ZP a2 u2) u2) (KO oz)) u2⟩⟩
 unfold Rr; rw [Kl.eq_1]
 exact ⟨_, v, Ye rfl ⟨a, ha, u, hu, by omega, u, hu, by simp only [List.length_append]; omega, _, f, by simp only [List.length_append, List.length_cons, List.length_nil]; omega, u, hu, by simp only [List.length_append, List.length_cons, List.length_nil]; omega, Fo (rnl fun Y hY => Ye rfl rfl)⟩⟩
theorem Qkf {x : Q6} (h : Em x) : ∃ b, Rr (Z5 x) (b, 0) ∧ b.length ≤ 300 ∧ bB b := by
 have q1 := Qy7 h
 have fin : ∀ {y : List Int}, Fb y → 1 ≤ x.fu.fa4 ∧ x.fu.fa4 ≤ 6 → ∃ u r, Rr (QV x.fu.fa4) u ∧ Rr (JI 83 (u ++ y)) (r, 0) ∧ r.length ≤ 300 ∧ bB r ∧ u.length ≤ 10 := fun hy hk => by
  obtain ⟨u, hu, u1, u2⟩ := BR x.fu.fa4 (by omega)
  obtain ⟨r, hr, r1, r2⟩ := Qc4 (g := 83) (b := u ++ _) (by unfold oB; omega) (ZP u2 hy.2) (by have := hy.1; rw [List.length_append]; omega)
  rw [List.length_append] at r1
  exact ⟨u, r, hu, hr, by have := hy.1; omega, r2, u1⟩
 cases h with
 | a =>
  obtain ⟨y, hy, fy⟩ := e_Ta
  obtain ⟨u, r, hu, hr, r1, r2, u1⟩ := fin fy (by decide)
  refine ⟨r, ?_, r1, r2⟩
  unfold Rr; rw [Z5.eq_1]
  exact ⟨_, q1, Ye rfl (Fo (rnt rfl ⟨_, hy, u, hu, by have := fy.1; (try dsimp only); omega, _, hr, rfl⟩))⟩
 | b s d e n h k he hn =>
  obtain ⟨y, hy, fy⟩ := e_Cm (e := e) h k hn
  obtain ⟨u, r, hu, hr, r1, r2, u1⟩ := fin fy (by dsimp only; omega)
  refine ⟨r, ?_, r1, r2⟩
  unfold Rr; rw [Z5.eq_1]
  exact ⟨_, q1, Ye rfl (Fo (Ye rfl (rnt rfl ⟨_, hy, u, hu, by have := fy.1; (try dsimp only); omega, _, hr, rfl⟩)))⟩
 | c s e n h he hn hn2 =>
  obtain ⟨y, hy, fy⟩ := e_Ll (e := e) h hn hn2
  obtain ⟨u, r, hu, hr, r1, r2, u1⟩ := fin fy (by dsimp only; omega)
  refine ⟨r, ?_, r1, r2⟩
  unfold Rr; rw [Z5.eq_1]
  exact ⟨_, q1, Ye rfl (Fo (Ye rfl (Ye rfl (rnt rfl ⟨_, hy, u, hu, by have := fy.1; (try dsimp only); omega, _, hr, rfl⟩))))⟩
 | d s h =>
  obtain ⟨y, hy, fy⟩ := e_Tp h
  obtain ⟨u, r, hu, hr, r1, r2, u1⟩ := fin fy (by dsimp only; omega)
  refine ⟨r, ?_, r1, r2⟩
  unfold Rr; rw [Z5.eq_1]
  exact ⟨_, q1, Ye rfl (Fo (Ye rfl (Ye rfl (Ye rfl (rnt rfl ⟨_, hy, u, hu, by have := fy.1; (try dsimp only); omega, _, hr, rfl⟩)))))⟩
 | e s h =>
  obtain ⟨y, hy, fy⟩ := e_Fr h
  obtain ⟨u, r, hu, hr, r1, r2, u1⟩ := fin fy (by dsimp only; omega)
  refine ⟨r, ?_, r1, r2⟩
  unfold Rr; rw [Z5.eq_1]
  exact ⟨_, q1, Ye rfl (Fo (Ye rfl (Ye rfl (Ye rfl (Ye rfl (rnt rfl ⟨_, hy, u, hu, by have := fy.1; (try dsimp only); omega, _, hr, rfl⟩))))))⟩
 | f s h k =>
  obtain ⟨y, hy, fy⟩ := e_Rk h k
  obtain ⟨u, r, hu, hr, r1, r2, u1⟩ := fin fy (by dsimp only; omega)
  refine ⟨r, ?_, r1, r2⟩
  unfold Rr; rw [Z5.eq_1]
  exact ⟨_, q1, Ye rfl (Fo (Ye rfl (Ye rfl (Ye rfl (Ye rfl (Ye rfl ⟨_, hy, u, hu, by have := fy.1; (try dsimp only); omega, _, hr, rfl⟩))))))⟩
theorem Ce9 (n : Int) : ∃ x, Em x ∧ Rr (Jc n) x.fu := by
 suffices H : ∃ p, Rr (Jc n) p ∧ ∃ x, Em x ∧ x.fu = p by
  obtain ⟨p, hp, x, hx, rfl⟩ := H
  exact ⟨x, hx, hp⟩
 refine ex_ ?_
 rw [Jc.eq_1]
 simp only [bA3, bA1]
 have w : ∀ y : Int, IntKind.i64.wrap (1 + y % 4) = 1 + y % 4 := fun y => Zp (by omega)
 have w2 : ∀ y : Int, IntKind.i64.wrap (1 + y % 2) = 1 + y % 2 := fun y => Zp (by omega)
 have w3 : ∀ y : Int, IntKind.i64.wrap (2 + y % 2) = 2 + y % 2 := fun y => Zp (by omega)
 have w4 : ∀ y : Int, IntKind.i64.wrap (2 + IntKind.i64.wrap (2 * (y % 2))) = 2 + 2 * (y % 2) := fun y => by rw [Zp (n := 2 * (y % 2)) (by omega), Zp (by omega)]
 have w5 : ∀ y : Int, IntKind.u64.wrap (y % 4) = y % 4 := fun y => by rw [IntKind.wrap_u64]; omega
 simp only [w, w2, w3, w4, w5]
 refine KL (fun _ => ⟨_, Em.a, rfl⟩) fun _ => KL (fun _ => ?_) fun _ => KL (fun _ => ?_) fun _ => KL (fun _ => ⟨_, Em.d _ (by omega), rfl⟩) fun _ => KL (fun _ => ⟨_, Em.e _ (by omega), rfl⟩) fun _ => ⟨_, Em.f _ (by omega) (by rw [Int.tmod_eq_emod_of_nonneg (by omega)]; omega), rfl⟩
 ·have hh : 0 ≤ (1 + ZQ .i64 n 3 % 2) * (1 + ZQ .i64 n 4 % 4) := Int.mul_nonneg (by omega) (by omega)
  exact ⟨_, Em.b (1 + ZQ .i64 n 4 % 4) (1 + ZQ .i64 n 3 % 2) (ZQ .i64 n 8 % 4) ((1 + ZQ .i64 n 3 % 2) * (1 + ZQ .i64 n 4 % 4)).toNat (by omega) (by omega) (by omega) (by omega), rfl⟩
 ·have hs : ∀ y : Int, (y = 2 ∨ y = 3) → 0 ≤ Xn .i64 1 (IntKind.u64.wrap y) ∧ Xn .i64 1 (IntKind.u64.wrap y) ≤ 8 := fun y h => by rcases h with rfl | rfl <;> decide
  have := hs (2 + ZQ .i64 n 3 % 2) (by omega)
  exact ⟨_, Em.c (2 + ZQ .i64 n 3 % 2) (ZQ .i64 n 8 % 4) (Xn .i64 1 (IntKind.u64.wrap (2 + ZQ .i64 n 3 % 2))).toNat (by omega) (by omega) (by omega) (by omega), rfl⟩
set_option maxRecDepth 100000
theorem n_Key (n : Int) : ∃ k, Rr (YY n) k ∧ 1 ≤ k.size ∧ k.size ≤ 32 := by
 refine ex_ ?_
 rw [YY.eq_1]
 simp only [Qhs, Qht]
 refine XH (KL (fun _ => XH ?_) fun _ => ⟨by simp, ?_⟩)
 ·rw [OU]; simp
 ·exact ixq (P := fun v => 1 ≤ v.size ∧ v.size ≤ 32) (by decide) ⟨tm0 (by omega), tm1 (by omega) (by simp)⟩ fun a _ _ _ ha => ha
theorem Qy8 (n : Int) : ∃ x, Rr (Yg n) x ∧ Rr (QB x) 0 ∧ zI x := by
 obtain ⟨k, hk, k1, k2⟩ := n_Key n
 have key : Rr (Zx k) true := by
  unfold Rr; rw [Zx.eq_1]
  have : (1 : Int) ≤ k.size := by omega
  have : (k.size : Int) ≤ 32 := by omega
  simp [*]
 have vi : ∀ w : Int, 1 ≤ w → w ≤ 4294967295 → Rr (QB ⟨k, w⟩) 0 := fun w a b => by
  unfold Rr; rw [QB.eq_1]
  exact ⟨_, key, Ye rfl (Ye (by simp; omega) (XH rfl))⟩
 have zi : ∀ w : Int, zI ⟨k, w⟩ := fun w => by unfold zI; dsimp only; omega
 refine ex_ ?_
 rw [Yg.eq_1]
 simp only [Qhs, bA3, bA7, Qba]
 refine HV (fun p => 1 ≤ p ∧ p ≤ 4294967295) (fun p hp => ⟨k, hk, vi p hp.1 hp.2, zi p⟩) fun J hJ => KL (fun _ => hJ _ ?_) fun _ => KL (fun _ => hJ _ ?_) fun _ => hJ _ ?_
 ·have e : IntKind.i64.wrap (n % 65536 * 65537) = n % 65536 * 65537 := Zp (by omega)
  have a := tm0 (a := n % 65536 * 65537) (n := 4294967295) (by omega)
  have b := tm1 (a := n % 65536 * 65537) (n := 4294967295) (by omega) (by omega)
  rw [e, Zp (by omega)]; omega
 ·rw [Zp (by omega)]; omega
 ·rw [Zp (by omega)]; omega
theorem Qrr (l : List Int) (n : Nat) (hn : n ≤ 100) : ∃ r, Rr (Xq l (n : Int)) r ∧ r.length = n ∧ (∀ x ∈ r, Rr (QB x) 0) ∧ ∀ x ∈ r, zI x := by
 refine ex_ ?_
 rw [Xq.eq_1]
 refine Fo (XM (I := fun m s => ∃ j : Nat, s.2 = (j : Int) ∧ j ≤ n ∧ m = n - j ∧ s.1.length = j ∧ (∀ x ∈ s.1, Rr (QB x) 0) ∧ ∀ x ∈ s.1, zI x) ?_ (k := n) ⟨0, rfl, by omega, rfl, rfl, VS, VS⟩)
 rintro m ⟨p, i⟩ ⟨j, hj, hj1, hm, hp, h1, h2⟩ X hX
 dsimp only at hj hp h1 h2 ⊢
 subst hj
 refine KL (fun c => ?_) fun c => ⟨by simp at c; omega, h1, h2⟩
 have hj2 : j < n := by simpa using c
 obtain ⟨v, hv, _⟩ := (N1 (a0 := l) (a1 := (j : Int))).go (by omega)
 obtain ⟨x, hx, x1, x2⟩ := Qy8 v
 refine ⟨v, hv, x, hx, XH ⟨by simp only [List.length_cons, List.length_nil]; omega, ?_⟩⟩
 rw [Zp (by omega)]
 exact hX (n - (j + 1)) _ (by omega) ⟨j + 1, by simp, by omega, rfl, by simp [hp], ZP h1 (KO x1), ZP h2 (KO x2)⟩
abbrev o0 : QF := ⟨0, ByteArray.empty, ByteArray.empty, [], p0, [], [], 0, 0, 0, 0, 0, 0, q0, []⟩
abbrev evC (o : QF) : Zg := ⟨1, 0, o⟩
abbrev evP : Zg := ⟨2, 0, o0⟩
theorem Qrs (l : List Int) : ∃ (n0 : Int) (x y : Q6), Em x ∧ Em y ∧ Rr (Wh l 0) n0 ∧ Rr (Jc n0) x.fu ∧ Rr (Xp l) [evC (op1 nA x.fu), evP, evC (op1 nB x.fu), evP, evC (op1 nC y.fu), evP] := by
 obtain ⟨n0, h0, _⟩ := (N1 (a0 := l) (a1 := 0)).go (by omega)
 obtain ⟨n1, h1, _⟩ := (N1 (a0 := l) (a1 := 1)).go (by omega)
 obtain ⟨x, ex, hx⟩ := Ce9 n0
 obtain ⟨y, ey, hy⟩ := Ce9 n1
 refine ⟨n0, x, y, ex, ey, h0, hx, ?_⟩
 have b0 : Rr (JY 0) nA := by unfold Rr; rw [JY.eq_1]; exact XH ⟨_, ⟨by decide, by rfl⟩, rfl⟩
 have b1 : Rr (JY 1) nB := by unfold Rr; rw [JY.eq_1]; exact XH ⟨_, ⟨by decide, by rfl⟩, rfl⟩
 have b2 : Rr (JY 2) nC := by unfold Rr; rw [JY.eq_1]; exact XH ⟨_, ⟨by decide, by rfl⟩, rfl⟩
 have e0 : IntKind.i64.wrap ((0 : Int).tdiv 2) = 0 := by decide
 have e1 : IntKind.i64.wrap ((1 : Int).tdiv 2) = 0 := by decide
 have e2 : IntKind.i64.wrap ((2 : Int).tdiv 2) = 1 := by decide
 have s0 : IntKind.i64.wrap ((0 : Int) + 1) = 1 := by decide
 have s1 : IntKind.i64.wrap ((1 : Int) + 1) = 2 := by decide
 have s2 : IntKind.i64.wrap ((2 : Int) + 1) = 3 := by decide
 unfold Rr; rw [Xp.eq_1]
 refine Fo (rnl fun Y hY => rnt (by decide) ⟨_, b0, n0, ?_, _, hx, XH ⟨by simp, ?_⟩⟩)
 ·dsimp only; rw [e0]; exact h0
 dsimp only; rw [s0]
 refine hY _ (rnt (by simp) ⟨_, b1, n0, ?_, _, hx, XH ⟨by simp, ?_⟩⟩)
 ·dsimp only; rw [e1]; exact h0
 dsimp only; rw [s1]
 refine hY _ (rnt (by simp) ⟨_, b2, n1, ?_, _, hy, XH ⟨by simp, ?_⟩⟩)
 ·dsimp only; rw [e2]; exact h1
 dsimp only; rw [s2]
 refine hY _ (Ye (by simp) ?_)
 rfl
set_option maxRecDepth 100000
abbrev sk0 : Q6 := ⟨p0, z1, z2, z3, z4, z5, z6⟩
abbrev Lh : Qe := ⟨0, 0, false, [], 0, sk0, sk0, 0, 0, 0, 0, ⟨0, 0⟩, [], false⟩
abbrev rs0 : Qf := ⟨0, 0, 0, 0, [], ⟨0, 0, ByteArray.empty, [], [], false⟩, []⟩
theorem gt_n {α : Type} {l : List α} {n : Int} (h0 : 0 ≤ n) (h : n < (l.length : Int)) : ∃ v, l[n.toNat]? = some v := ⟨l[n.toNat]'(by omega), by simp⟩
theorem Q9o {s : Q2} {x : Qa} {rest : List Qa} {l : List Qr} {e : Int} {op : QF} (hx : x.fg3 = false) (hv : Rr (Z3 op) 0) (hr : rest.length ≤ 60) (hl : l.length ≤ 1000) (he : 0 ≤ e ∧ e ≤ 1000) :
  ∃ l' : List Qr, l'.length = l.length + 1 ∧ Rr (Kg ⟨s, x :: rest, l, e⟩ (evC op)) (⟨s, ⟨true, op, Lh, l.length, x.fc7, x.ff1⟩ :: rest, l', e + 1⟩, ⟨0, false, rs0⟩) := by
 have hb : Rr (KU (x :: rest) 0 op (l.length : Int)) (⟨true, op, Lh, l.length, x.fc7, x.ff1⟩ :: rest, 0) := by
  unfold Rr; rw [KU.eq_1]
  exact Ye (by simp) (XH ⟨_, hv, Ye rfl ⟨x, ⟨by omega, rfl⟩, Ye hx ⟨by simp only [List.length_cons]; omega, x, ⟨by omega, rfl⟩, XH (XH (XH (XH rfl)))⟩⟩⟩)
 refine ⟨l ++ [⟨0, op, e, -1, -1, rs0⟩], by simp, ?_⟩
 unfold Rr; rw [Kg.eq_1]
 dsimp only
 rw [Zp (n := e + 1) (by omega)]
 exact Ye rfl (Ye (by simp) (XH (rnt rfl ⟨_, hb, Ye rfl ⟨by omega, XH ⟨by simp only [List.length_cons, List.length_nil]; omega, rfl⟩⟩⟩)))
theorem PE {s : Q2} {x : Qa} {rest : List Qa} {l : List Qr} {e : Int} {t : Qm × Qa} (hx : x.fg3 = true) (ht : Rr (Ze s x) t) (hb : t.2.fg3 = true) (hk : 0 ≤ x.fd4 ∧ x.fd4 < (l.length : Int)) (hr : rest.length ≤ 60) (hl : l.length ≤ 1000) (he : 0 ≤ e ∧ e ≤ 1000) :
  ∃ l' : List Qr, l'.length = l.length ∧ Rr (Kg ⟨s, x :: rest, l, e⟩ evP) (if t.1.ff8 = true then (⟨t.1.f8, ⟨false, o0, Lh, 0, t.2.fc7, t.2.ff1⟩ :: rest, l', e + 1⟩, ⟨0, true, t.1.f0⟩) else (⟨t.1.f8, ⟨t.2.fg3, t.2.fOp, t.1.ff, t.2.fd4, t.2.fc7, t.2.ff1⟩ :: rest, l', e + 1⟩, ⟨0, false, rs0⟩)) := by
 obtain ⟨q, hq⟩ := gt_n (l := l) hk.1 hk.2
 have hp : ∃ l' : List Qr, l'.length = l.length ∧ Rr (Yo ⟨s, x :: rest, l, e + 1⟩ 0 e) (if t.1.ff8 = true then (⟨t.1.f8, ⟨false, o0, Lh, 0, t.2.fc7, t.2.ff1⟩ :: rest, l', e + 1⟩, ⟨0, true, t.1.f0⟩) else (⟨t.1.f8, ⟨t.2.fg3, t.2.fOp, t.1.ff, t.2.fd4, t.2.fc7, t.2.ff1⟩ :: rest, l', e + 1⟩, ⟨0, false, rs0⟩)) := by
  suffices H : ∃ r, Rr (Yo ⟨s, x :: rest, l, e + 1⟩ 0 e) r ∧ ∃ l' : List Qr, l'.length = l.length ∧ r = (if t.1.ff8 = true then (⟨t.1.f8, ⟨false, o0, Lh, 0, t.2.fc7, t.2.ff1⟩ :: rest, l', e + 1⟩, ⟨0, true, t.1.f0⟩) else (⟨t.1.f8, ⟨t.2.fg3, t.2.fOp, t.1.ff, t.2.fd4, t.2.fc7, t.2.ff1⟩ :: rest, l', e + 1⟩, ⟨0, false, rs0⟩)) by
   obtain ⟨r, hr, l', h1, rfl⟩ := H
   exact ⟨l', h1, hr⟩
  refine ex_ ?_
  rw [Yo.eq_1]
  refine ⟨x, ⟨by omega, rfl⟩, q, ⟨hk.1, hq⟩, t, ht, KL (fun hd => ?_) fun hd => ?_⟩
  ·have hd' : t.1.ff8 = false := by simpa using hd
   refine XH (Fo (KL (fun _ => XH ?_) fun _ => ?_))
   all_goals
    apply Exists.intro
    apply And.intro
    rotate_left
    ·rw [if_neg (by rw [hd']; decide)]; rfl
    ·simp
  ·have hd' : t.1.ff8 = true := by simpa using hd
   have es : Rr (KV (t.2 :: rest) 0) (⟨false, o0, Lh, 0, t.2.fc7, t.2.ff1⟩ :: rest, 0) := by
    unfold Rr; rw [KV.eq_1]
    exact Ye (by simp) (XH ⟨t.2, ⟨by omega, rfl⟩, Ye (by rw [hb]; rfl) ⟨by simp only [List.length_cons]; omega, t.2, ⟨by omega, rfl⟩, XH (XH (XH (XH rfl)))⟩⟩)
   refine XH (XH (Fo (KL (fun _ => XH ⟨_, es, ?_⟩) fun _ => ⟨_, es, ?_⟩)))
   all_goals
    apply Exists.intro
    apply And.intro
    rotate_left
    ·rw [if_pos hd']
    ·simp
 obtain ⟨l', h1, h2⟩ := hp
 refine ⟨l', h1, ?_⟩
 unfold Rr; rw [Kg.eq_1]
 dsimp only
 rw [Zp (n := e + 1) (by omega)]
 refine Ye (by decide) (Ye (by simp) (XH (Ye (by decide) ⟨x, ⟨by omega, rfl⟩, Ye (by rw [hx]; rfl) ⟨by simp only [List.length_cons]; omega, by omega, Ye (by decide) ⟨_, h2, ?_⟩⟩⟩)))
 split <;> rfl
set_option maxRecDepth 100000
instance {a0 : Q2} {a1 : Int} {a2 : Int} : type_of% (Bv (ZS.eq_1 a0 a1 a2)) := Bv (ZS.eq_1 a0 a1 a2)
abbrev an0 : Qk := ⟨0, 0, ByteArray.empty, [], [], false⟩
section
variable {s t : Q2} {rec : Int} {sn : List QC} {cu : List QZ}
theorem Qe8 {x : Q6} {b : List Int} {nm : ByteArray} {n : Int} (hx : Em x) (he : Rr (Z5 x) (b, 0)) (hc : Rr (Kq s nm b) (t, n, 0)) : Rr (Ze s ⟨true, op1 nm x.fu, Lh, rec, sn, cu⟩) (⟨t, Lh, ⟨0, n, n, 0, [], an0, []⟩, true⟩, ⟨true, op1 nm x.fu, Lh, rec, sn, cu⟩) := by
 have hs : Rr (Vr s (op1 nm x.fu)) ⟨t, Lh, ⟨0, n, n, 0, [], an0, []⟩, true⟩ := by
  unfold Rr; rw [Vr.eq_1]
  exact rnt rfl ⟨_, Qke hx, _, he, _, hc, rnc (Ye rfl rfl)⟩
 unfold Rr; rw [Ze.eq_1]
 exact UN
end
abbrev sz : QC := ⟨false, 0, []⟩
abbrev sA : QC := ⟨true, 3, [nA]⟩
abbrev maO : Qe := ⟨1, 3, true, [], 0, sk0, sk0, 1, 0, 0, 0, ⟨0, 0⟩, [], true⟩
section
variable {g : Qo} {za zb zc cap rec : Int} {pa pb pc : List Int} {pg : List Qx} {cu : List QZ}
theorem free0 : Rr (Xw [sz, sz, sz, sz]) (0, true) := by
 unfold Rr; rw [Xw.eq_1]
 exact UN
theorem Qkg (h : g.fc3 = 9) : Rr (Ze (sT g za zb zc pa pb pc [] cap pg) ⟨true, op9, Lh, rec, [sz, sz, sz, sz], cu⟩) (⟨sT g za zb zc pa pb pc [⟨3, 1⟩] cap pg, maO, rs0, false⟩, ⟨true, op9, Lh, rec, [sz, sz, sz, sz], cu⟩) := by
 have b := bdA (g := g) (za := za) (zb := zb) (zc := zc) (pa := pa) (pb := pb) (pc := pc) (pn := []) (cap := cap) (pg := pg)
 have p := pin0 (za := za) (zb := zb) (zc := zc) (pa := pa) (pb := pb) (pc := pc) (cap := cap) (pg := pg) h
 have f := free0
 have ho : Rr (Vp (sT g za zb zc pa pb pc [] cap pg) g.fb4 [sz, sz, sz, sz] op9 Lh) ⟨sT g za zb zc pa pb pc [⟨3, 1⟩] cap pg, maO, rs0, false⟩ := by
  unfold Rr; rw [Vp.eq_1]
  exact UN
 unfold Rr; rw [Ze.eq_1]
 exact UN
theorem Qkh (h : 1 ≤ g.fb4 ∧ g.fb4 ≤ 64) : Rr (Ze (sT g za zb zc pa pb pc [⟨3, 1⟩] cap pg) ⟨true, op9, maO, rec, [sz, sz, sz, sz], cu⟩) (⟨sT g za zb zc pa pb pc [⟨3, 1⟩] cap pg, Lh, ⟨0, 3, 0, 0, [], an0, []⟩, true⟩, ⟨true, op9, maO, rec, [sA, sz, sz, sz], cu⟩) := by
 have w : Kt (IntKind.i64.wrap (1 - Kt g.fb4 1)) 0 = 0 := by
  rw [YW, YW, Zp (by omega)]; omega
 have ho : Rr (Vp (sT g za zb zc pa pb pc [⟨3, 1⟩] cap pg) g.fb4 [sz, sz, sz, sz] op9 maO) ⟨sT g za zb zc pa pb pc [⟨3, 1⟩] cap pg, Lh, ⟨0, 3, 0, 0, [], an0, []⟩, true⟩ := by
  unfold Rr; rw [Vp.eq_1]
  dsimp only
  rw [w]
  exact UN
 unfold Rr; rw [Ze.eq_1]
 exact UN
end
set_option maxRecDepth 100000
abbrev maE (l : Int) (d : List Int) : Qe := ⟨1, 0, false, [], 0, sk0, sk0, l, 0, 0, 0, ⟨0, 0⟩, d, false⟩
section
variable {g : Qo} {za zb zc cap rec : Int} {pb pc : List Int} {cu : List QZ}
theorem Qvp : Rr (K9 [sA, sz, sz, sz] 0 0) (sA, nA, 0) := by
 unfold Rr; rw [K9.eq_1]
 exact UN
theorem Qrt {a b c : List (List Int)} {k : List Int × Int} {n : Int × Int} (hl : ∀ x ∈ a, x.length ≤ 1024) (hn : (a ++ b ++ c).length ≤ 100000) (hk : Rr (Vn a.flatten) k) (hc : Rr (VQ (k.1.length : Int) g.fb3) n) :
  Rr (Ze (sT g za zb zc (nums 0 a.length) pb pc [⟨3, 1⟩] cap (GV (a ++ b ++ c))) ⟨true, NC, Lh, rec, [sA, sz, sz, sz], cu⟩) (⟨sT g za zb zc (nums 0 a.length) pb pc [⟨3, 1⟩] cap (GV (a ++ b ++ c)), maE n.1 k.1, rs0, false⟩, ⟨true, NC, Lh, rec, [sA, sz, sz, sz], cu⟩) := by
 have q1 := Qvp
 have q2 := Qqv (g := g) (za := za) (zb := zb) (zc := zc) (cap := cap) (pb := pb) (pc := pc) (pn := [⟨3, 1⟩]) hl hn
 have he : Rr (Ka (sT g za zb zc (nums 0 a.length) pb pc [⟨3, 1⟩] cap (GV (a ++ b ++ c))) g [sA, sz, sz, sz] NC Lh) ⟨sT g za zb zc (nums 0 a.length) pb pc [⟨3, 1⟩] cap (GV (a ++ b ++ c)), maE n.1 k.1, rs0, false⟩ := by
  unfold Rr; rw [Ka.eq_1]
  exact UN
 unfold Rr; rw [Ze.eq_1]
 exact UN
theorem Qru {l : Int} {d pa : List Int} {pg : List Qx} (h : 1 ≤ g.fb4 ∧ g.fb4 ≤ 64) (hl : 0 ≤ l ∧ l ≤ 1000000) :
  ∃ r, Rr (Ze (sT g za zb zc pa pb pc [⟨3, 1⟩] cap pg) ⟨true, NC, maE l d, rec, [sA, sz, sz, sz], cu⟩) r ∧ r.1.f8 = sT g za zb zc pa pb pc [⟨3, 1⟩] cap pg ∧ r.2 = ⟨true, NC, maE l d, rec, [sA, sz, sz, sz], cu⟩ ∧ (0 < l - max g.fb4 1 → r.1.ff8 = false ∧ r.1.ff = maE (l - max g.fb4 1) d) ∧ (l - max g.fb4 1 ≤ 0 → r.1.ff8 = true) := by
 have q1 := Qvp
 have q2 := vrsA (g := g) (za := za) (zb := zb) (zc := zc) (pa := pa) (pb := pb) (pc := pc) (pn := [⟨3, 1⟩]) (cap := cap) (pg := pg)
 have w : Kt (IntKind.i64.wrap (l - Kt g.fb4 1)) 0 = max (l - max g.fb4 1) 0 := by
  rw [YW, YW, Zp (by omega)]
 by_cases c : 0 < l - max g.fb4 1
 ·have w' : Kt (IntKind.i64.wrap (l - Kt g.fb4 1)) 0 = l - max g.fb4 1 := by rw [w]; omega
  have he : Rr (Ka (sT g za zb zc pa pb pc [⟨3, 1⟩] cap pg) g [sA, sz, sz, sz] NC (maE l d)) ⟨sT g za zb zc pa pb pc [⟨3, 1⟩] cap pg, maE (l - max g.fb4 1) d, rs0, false⟩ := by
   unfold Rr; rw [Ka.eq_1]
   dsimp only
   rw [w']
   exact UN
  refine ⟨(⟨sT g za zb zc pa pb pc [⟨3, 1⟩] cap pg, maE (l - max g.fb4 1) d, rs0, false⟩, ⟨true, NC, maE l d, rec, [sA, sz, sz, sz], cu⟩), ?_, rfl, rfl, fun _ => ⟨rfl, rfl⟩, fun q => by omega⟩
  unfold Rr; rw [Ze.eq_1]
  exact UN
 ·have w' : Kt (IntKind.i64.wrap (l - Kt g.fb4 1)) 0 = 0 := by rw [w]; omega
  have he : Rr (Ka (sT g za zb zc pa pb pc [⟨3, 1⟩] cap pg) g [sA, sz, sz, sz] NC (maE l d)) ⟨sT g za zb zc pa pb pc [⟨3, 1⟩] cap pg, Lh, ⟨0, 3, 1, 0, [], an0, d⟩, true⟩ := by
   unfold Rr; rw [Ka.eq_1]
   dsimp only
   rw [w']
   exact UN
  refine ⟨(⟨sT g za zb zc pa pb pc [⟨3, 1⟩] cap pg, Lh, ⟨0, 3, 1, 0, [], an0, d⟩, true⟩, ⟨true, NC, maE l d, rec, [sA, sz, sz, sz], cu⟩), ?_, rfl, rfl, fun q => absurd q c, fun _ => rfl⟩
  unfold Rr; rw [Ze.eq_1]
  exact UN
end
set_option maxRecDepth 100000
theorem ax3 {α : Type} {P : α → Prop} {a b c : α} (h1 : P a) (h2 : P b) (h3 : P c) : ∀ x ∈ [a, b, c], P x := CW h1 (CW h2 (KO h3))
section
variable {g : Qo} {za zb zc cap rec : Int} {pa pb pc : List Int} {pg : List Qx} {pn : List QD} {sn : List QC} {cu : List QZ}
theorem zT (hg : TZ g) (hc : 3 ≤ g.fc5) (h1 : pa.length ≤ 65536) (h2 : pb.length ≤ 65536) (h3 : pc.length ≤ 65536) (hp : pn.length ≤ 1024 ∧ ∀ p ∈ pn, zP p) (ha : zAr ⟨cap, pg⟩) : UG (sT g za zb zc pa pb pc pn cap pg) := by
 have o : ∀ (i z : Int) (p : List Int), p.length ≤ 65536 → zO 3 (ob i z p) := fun i z p h => ⟨by simp, KO (by unfold okV; exact h)⟩
 refine ⟨hg, ⟨by simp, hc⟩, by simp, ax3 (o _ _ _ h1) (o _ _ _ h2) (o _ _ _ h3), by simp, ax3 ?_ ?_ ?_, hp.1, hp.2, ha⟩
 all_goals (unfold zB; decide)
theorem svT : Sv (sT g za zb zc pa pb pc pn cap pg) :=
 { bt := ax3 (.inl rfl) (.inl rfl) (.inl rfl), vt := ax3 (KO (.inl rfl)) (KO (.inl rfl)) (KO (.inl rfl)), id := by simp, la := ax3 (by simp) (by simp) (by simp), l0 := by simp, lc := by simp }
abbrev maI (x : Q6) (n : Int) : Qe := ⟨1, 3, true, [2], 0, x, sk0, n, 0, 0, 0, ⟨0, 0⟩, [], false⟩
theorem Qs0 {l : List Zc} (h : g.fc3 = 9) (hz : UG (sT g za zb zc pa pb pc [⟨3, 1⟩] cap pg)) : ∃ x, zS x ∧ Rr (Ze (sT g za zb zc pa pb pc [⟨3, 1⟩] cap pg) ⟨true, op6 l, Lh, rec, sn, cu⟩) (⟨sT g za zb zc pa pb pc [⟨3, 2⟩] cap pg, maI x l.length, rs0, false⟩, ⟨true, op6 l, Lh, rec, sn, cu⟩) := by
 obtain ⟨v, hv, v1, v2⟩ := (Q13 (a0 := sT g za zb zc pa pb pc [⟨3, 1⟩] cap pg) (a1 := nB) (a2 := 3)).go hz
 obtain ⟨⟨x, e⟩, hx, x1⟩ := (PD (a0 := v.1)).go ⟨by omega, v2⟩
 refine ⟨x, x1.1, ?_⟩
 have q1 := vrsB (g := g) (za := za) (zb := zb) (zc := zc) (pa := pa) (pb := pb) (pc := pc) (pn := [⟨3, 1⟩]) (cap := cap) (pg := pg)
 have q2 := pin1 (za := za) (zb := zb) (zc := zc) (pa := pa) (pb := pb) (pc := pc) (cap := cap) (pg := pg) h
 have hb : Rr (V2 (sT g za zb zc pa pb pc [⟨3, 1⟩] cap pg) [nB]) (sT g za zb zc pa pb pc [⟨3, 2⟩] cap pg, ⟨0, 3, true, [2], 0, x, sk0, 0, 0, 0, 0, ⟨0, 0⟩, [], false⟩, 0) := by
  unfold Rr; rw [V2.eq_1]
  exact UN
 have hs : Rr (VP (sT g za zb zc pa pb pc [⟨3, 1⟩] cap pg) g.fb4 (op6 l) Lh) ⟨sT g za zb zc pa pb pc [⟨3, 2⟩] cap pg, maI x l.length, rs0, false⟩ := by
  unfold Rr; rw [VP.eq_1]
  exact UN
 unfold Rr; rw [Ze.eq_1]
 exact UN
end
set_option maxRecDepth 100000
def Wl : Nat → Qp → Prop
 | 0, _ => False
 | k + 1, r => ∃ q o, Rr (Kg r evP) (q, o) ∧ ((k = 0 ∧ o.ff8 = true) ∨ (1 ≤ k ∧ o.ff8 = false ∧ Wl k q))
theorem Qc6 {s : Q2} {x : Qa} {rest : List Qa} {l : List Qr} {e : Int} {t : Qm × Qa} (hx : x.fg3 = true) (ht : Rr (Ze s x) t) (hb : t.2.fg3 = true) (hk : 0 ≤ x.fd4 ∧ x.fd4 < (l.length : Int)) (hr : rest.length ≤ 60) (hl : l.length ≤ 1000) (he : 0 ≤ e ∧ e ≤ 1000) (hd : t.1.ff8 = true) : Wl 1 ⟨s, x :: rest, l, e⟩ := by
 obtain ⟨l', h1, h2⟩ := PE hx ht hb hk hr hl he
 rw [if_pos hd] at h2
 exact ⟨_, _, h2, .inl ⟨rfl, rfl⟩⟩
theorem Qc7 {k : Nat} {s : Q2} {x : Qa} {rest : List Qa} {l : List Qr} {e : Int} {t : Qm × Qa} (hx : x.fg3 = true) (ht : Rr (Ze s x) t) (hb : t.2.fg3 = true) (hk : 0 ≤ x.fd4 ∧ x.fd4 < (l.length : Int)) (hr : rest.length ≤ 60) (hl : l.length ≤ 1000) (he : 0 ≤ e ∧ e ≤ 1000) (hd : t.1.ff8 = false) (k1 : 1 ≤ k)
  (h : ∀ l' : List Qr, l'.length = l.length → Wl k ⟨t.1.f8, ⟨t.2.fg3, t.2.fOp, t.1.ff, t.2.fd4, t.2.fc7, t.2.ff1⟩ :: rest, l', e + 1⟩) : Wl (k + 1) ⟨s, x :: rest, l, e⟩ := by
 obtain ⟨l', h1, h2⟩ := PE hx ht hb hk hr hl he
 rw [if_neg (by rw [hd]; decide)] at h2
 exact ⟨_, _, h2, .inr ⟨k1, rfl, h l' h1⟩⟩
theorem Qyc {g : Qo} {za zb zc cap rec : Int} {pa pb pc d : List Int} {pg : List Qx} {cu : List QZ} {rest : List Qa} (h : 1 ≤ g.fb4 ∧ g.fb4 ≤ 64) (hr : rest.length ≤ 60) :
  ∀ (k : Nat) (n : Int) (l : List Qr) (e : Int), 0 ≤ n → n ≤ 100000 → (k : Int) = HX g.fb4 n → (0 ≤ rec ∧ rec < (l.length : Int)) → l.length ≤ 1000 → 0 ≤ e → e + k ≤ 1000 → Wl k ⟨sT g za zb zc pa pb pc [⟨3, 1⟩] cap pg, ⟨true, NC, maE n d, rec, [sA, sz, sz, sz], cu⟩ :: rest, l, e⟩ := by
 intro k
 induction k with
 | zero => intro n l e _ _ hk; have := Wc g.fb4 n; omega
 | succ k ih =>
  intro n l e h0 h1 hk hrec hl he hek
  obtain ⟨t, ht, t1, t2, t3, t4⟩ := Qru (g := g) (za := za) (zb := zb) (zc := zc) (cap := cap) (rec := rec) (pb := pb) (pc := pc) (cu := cu) (l := n) (d := d) (pa := pa) (pg := pg) h ⟨h0, by omega⟩
  by_cases c : 0 < n - max g.fb4 1
  ·obtain ⟨d1, m1⟩ := t3 c
   have ck := Q5c (c := g.fb4) (n := n) c
   have cp := Wc g.fb4 (n - max g.fb4 1)
   refine Qc7 rfl ht (by rw [t2]) hrec hr hl ⟨he, by omega⟩ d1 (by omega) fun l' hl' => ?_
   rw [t1, t2, m1]
   exact ih _ l' (e + 1) (by omega) (by omega) (by omega) (by rw [hl']; exact hrec) (by omega) (by omega) (by omega)
  ·have ck : HX g.fb4 n = 1 := by
    unfold HX
    have d1 : 1 ≤ max g.fb4 1 := by omega
    generalize max g.fb4 1 = z at *
    rw [PF h0 d1]
    rcases Int.lt_or_eq_of_le (show n ≤ z by omega) with q | q
    ·rw [Int.ediv_eq_zero_of_lt h0 q]; split <;> omega
    ·subst q; rw [Int.ediv_self (by omega), Int.emod_self]; simp
   have : k = 0 := by omega
   subst this
   exact Qc6 rfl ht (by rw [t2]) hrec hr hl ⟨he, by omega⟩ (t4 (by omega))
theorem Qyd {rest : List Qa} (hr : rest.length ≤ 60) :
  ∀ (k : Nat) (s : Q2) (x : Qa) (l : List Qr) (e : Int), UG s → zSe x → Sv s → x.fg3 = true → x.fOp.fa4 = 6 → (0 ≤ x.fd4 ∧ x.fd4 < (l.length : Int)) → l.length ≤ 1000 → 0 ≤ e → e + k ≤ 1000 → Shw s [x.fOp.ff0] x.ff.fc1 →
   ((x.ff.fd0 = 1 ∧ 0 ≤ x.ff.fd8 ∧ x.ff.fd8 ≤ 100000 ∧ (k : Int) = HX s.fq.fb4 x.ff.fd8 + 1) ∨ (x.ff.fd0 = 2 ∧ k = 1)) → Wl k ⟨s, x :: rest, l, e⟩ := by
 intro k
 induction k with
 | zero =>
  intro s x l e _ _ _ _ _ _ _ _ _ _ h
  rcases h with h | h
  ·have := Wc s.fq.fb4 x.ff.fd8; omega
  ·omega
 | succ k ih =>
  intro s x l e st zx sv hb hk6 hrec hl he hek sh h
  obtain ⟨t, ht, ⟨tst, tma, trs⟩, ⟨tc, td, tsn⟩, ⟨t1, t2, t3, t4⟩, t5, tsy, tb⟩ := (Q15 (a0 := s) (a1 := x)).go ⟨st, zx⟩
  obtain ⟨b0, b1, b2⟩ := tb.1 hk6
  rcases h with ⟨p1, l0, l1, hk⟩ | ⟨p2, hk⟩
  ·obtain ⟨d1, m1, m2, m3, m4⟩ := b1 p1 ⟨l0, by omega⟩
   obtain ⟨g1, g2, g3, _⟩ := tsy sv
   have kp := g3 d1
   have cp := Wc s.fq.fb4 x.ff.fd8
   refine Qc7 hb ht (by rw [t3]; exact hb) hrec hr hl ⟨he, by omega⟩ d1 (by omega) fun l' hl' => ?_
   refine ih _ _ l' (e + 1) tst ⟨tc, td, tsn, by dsimp only; rw [t1]; exact zx.2.2.2.1, tma, by dsimp only; rw [t1]; exact t5⟩ g2 (by dsimp only; rw [t3]; exact hb) (by dsimp only; rw [t1]; exact hk6) (by dsimp only; rw [t4, hl']; exact hrec) (by omega) (by omega) (by omega) (by dsimp only; rw [t1, m2]; exact sh.kp kp) ?_
   dsimp only
   rw [g1]
   by_cases z : t.1.ff.fd8 = 0
   ·right
    rw [if_pos z] at m4
    refine ⟨m4, ?_⟩
    have ck : HX s.fq.fb4 x.ff.fd8 = 1 := by
     unfold HX
     have d1 : 1 ≤ max s.fq.fb4 1 := by omega
     generalize max s.fq.fb4 1 = z at *
     rw [PF l0 d1]
     rcases Int.lt_or_eq_of_le (show x.ff.fd8 ≤ z by omega) with q | q
     ·rw [Int.ediv_eq_zero_of_lt l0 q]; split <;> omega
     ·rw [q, Int.ediv_self (by omega), Int.emod_self]; simp
    omega
   ·left
    rw [if_neg z] at m4
    have ck := Q5c (c := s.fq.fb4) (n := x.ff.fd8) (by omega)
    have e2 : t.1.ff.fd8 = x.ff.fd8 - max s.fq.fb4 1 := by omega
    exact ⟨m4, by omega, by omega, by rw [e2]; omega⟩
  ·have : k = 0 := by omega
   subst this
   exact Qc6 hb ht (by rw [t3]; exact hb) hrec hr hl ⟨he, by omega⟩ ((b2 (by omega) (by omega)).1 sh)
set_option maxRecDepth 100000
theorem w19 {x a b : Int} (h : a ≤ x ∧ x ≤ b) : Rr (Zj x a b) true := by
 unfold Rr; rw [Zj.eq_1]; simp [h]
theorem r_Cfg {g : Qo} (h : TZ g) (hn : 1 ≤ g.fb8 ∧ g.fb8 ≤ 64) (hp : 1 ≤ g.fb0) (hq : 1 ≤ g.fc3) : Rr (Zw g) 0 := by
 obtain ⟨h1, h2, h3, h4, h5, h6⟩ := h
 unfold Rr; rw [Zw.eq_1]
 exact ⟨true, w19 h1, true, fun _ => w19 hn, true, fun _ => w19 ⟨hp, h2⟩, true, fun _ => w19 h3, true, fun _ => w19 ⟨hq, h4⟩, true, fun _ => w19 h5, true, fun _ => w19 h6, XH (Ye rfl rfl)⟩
abbrev cu4 : List QZ := [⟨false, 0, ByteArray.empty, 0⟩, ⟨false, 0, ByteArray.empty, 0⟩, ⟨false, 0, ByteArray.empty, 0⟩, ⟨false, 0, ByteArray.empty, 0⟩]
abbrev iS : Qa := ⟨false, o0, Lh, 0, [sz, sz, sz, sz], cu4⟩
theorem Qyf {n : Int} (h : 1 ≤ n ∧ n ≤ 64) : Rr (K3 n) (List.replicate n.toNat iS, 0) := by
 unfold Rr; rw [K3.eq_1]
 refine Ye (by simp; omega) (XH (Fo (XM (I := fun m s => ∃ j : Nat, s.2 = (j : Int) ∧ j ≤ n.toNat ∧ m = n.toNat - j ∧ s.1 = List.replicate j iS) ?_ (k := n.toNat) ⟨0, rfl, by omega, rfl, rfl⟩)))
 rintro m ⟨p, i⟩ ⟨j, hj, hj1, hm, hp⟩ X hX
 dsimp only at hj hp ⊢
 subst hj hp
 refine KL (fun c => ⟨by omega, XH ⟨by omega, XH (XH ⟨by simp only [List.length_replicate, List.length_cons, List.length_nil]; simp only [decide_eq_true_eq] at c; omega, ?_⟩)⟩⟩) fun c => by simp only [decide_eq_false_iff_not] at c; rw [show j = n.toNat by omega]
 have hj2 : j < n.toNat := by simp only [decide_eq_true_eq] at c; omega
 rw [Zp (by omega)]
 refine hX (n.toNat - (j + 1)) _ (by omega) ⟨j + 1, by simp, by omega, rfl, ?_⟩
 rw [List.replicate_succ']
 rfl
theorem r_New {g : Qo} (h : TZ g) (hn : 1 ≤ g.fb8 ∧ g.fb8 ≤ 64) (hp : 1 ≤ g.fb0) (hq : 1 ≤ g.fc3) : Rr (WU g) (⟨⟨g, 0, 0, [], [], [], ⟨g.fb0, []⟩⟩, List.replicate g.fa8.toNat iS, [], 0⟩, 0) := by
 have c := r_Cfg h hn hp hq
 have s : Rr (Yf g) (⟨g, 0, 0, [], [], [], ⟨g.fb0, []⟩⟩, 0) := by
  unfold Rr; rw [Yf.eq_1]
  exact ⟨_, c, Ye rfl rfl⟩
 unfold Rr; rw [WU.eq_1]
 exact ⟨_, s, Ye rfl ⟨_, Qyf h.1, rfl⟩⟩
def Q18 : List Zg → Qp → Qp → Prop
 | [], r, q => r = q
 | e :: l, r, q => ∃ m o, Rr (Kg r e) (m, o) ∧ Q18 l m q
theorem Q18.app {a b : List Zg} {r m q : Qp} (h : Q18 a r m) (k : Q18 b m q) : Q18 (a ++ b) r q := by
 induction a generalizing r with
 | nil => cases h; exact k
 | cons e l ih => obtain ⟨m', o, h1, h2⟩ := h; exact ⟨m', o, h1, ih h2⟩
theorem PG {s t : Q2} {x : Q6} {b : List Int} {nm : ByteArray} {n e : Int} {rest : List Qa} {l : List Qr} (hx : Em x) (he : Rr (Z5 x) (b, 0)) (hn : Rr (QP nm) true) (hc : Rr (Kq s nm b) (t, n, 0)) (hr : rest.length ≤ 60) (hl : l.length ≤ 100) (h0 : 0 ≤ e ∧ e ≤ 100) :
  ∃ l' : List Qr, l'.length = l.length + 1 ∧ Q18 [evC (op1 nm x.fu), evP] ⟨s, iS :: rest, l, e⟩ ⟨t, iS :: rest, l', e + 2⟩ := by
 obtain ⟨l1, h1, r1⟩ := Q9o (s := s) (x := iS) (rest := rest) (l := l) (e := e) rfl (vld1 hn (Qy6 hx)) hr (by omega) ⟨h0.1, by omega⟩
 obtain ⟨l2, h2, r2⟩ := PE (rest := rest) (l := l1) (e := e + 1) rfl (Qe8 (rec := (l.length : Int)) (sn := [sz, sz, sz, sz]) (cu := cu4) hx he hc) rfl (by dsimp only; omega) hr (by omega) (by omega)
 rw [if_pos rfl] at r2
 refine ⟨l2, by omega, _, _, r1, _, _, r2, ?_⟩
 show _ = _
 rw [show e + 1 + 1 = e + 2 by omega]
theorem Qs4 {ns ps ch : Int} {x y : Q6} {bx by_ : List Int} {a c : List (List Int)} {rest : List Qa} (hx : Em x) (hy : Em y) (ex : Rr (Z5 x) (bx, 0)) (ey : Rr (Z5 y) (by_, 0)) (lx : bx.length ≤ 300) (ly : by_.length ≤ 300)
  (sa : Rr (Kf bx ps) (a, 0)) (sc : Rr (Kf by_ ps) (c, 0)) (za : ∀ x ∈ a, x.length ≤ 1024) (zc : ∀ x ∈ c, x.length ≤ 1024) (na : a.length ≤ bx.length) (nc : c.length ≤ by_.length) (hr : rest.length ≤ 60) :
  ∃ l : List Qr, l.length = 4 ∧ Q18 [evC (op1 nA x.fu), evP, evC (op1 nB x.fu), evP, evC (op1 nC y.fu), evP, evC op9] ⟨⟨⟨ns, 9, 900, ps, 9, 100, ch⟩, 0, 0, [], [], [], ⟨900, []⟩⟩, iS :: rest, [], 0⟩ ⟨sT ⟨ns, 9, 900, ps, 9, 100, ch⟩ bx.length bx.length by_.length (nums 0 a.length) (nums a.length a.length) (nums (a ++ a).length c.length) [] 900 (GV (a ++ a ++ c)), ⟨true, op9, Lh, 3, [sz, sz, sz, sz], cu4⟩ :: rest, l, 7⟩ := by
 have c1 := OY (s := ⟨⟨ns, 9, 900, ps, 9, 100, ch⟩, 0, 0, [], [], [], ⟨900, []⟩⟩) (nm := nA) (cs := []) (nl := []) (cap := 900) sa za Qdq (by omega) bd0 lst0 (by simp) (by simp) (by simp) rfl (by simp; omega) (by simp) bnd0
 have c2 := OY (s := ⟨⟨ns, 9, 900, ps, 9, 100, ch⟩, 1, 1, [ob 1 bx.length (nums 0 a.length)], [iA], [], ⟨900, GV a⟩⟩) (nm := nB) (cs := a) (nl := [nA]) (cap := 900) sa za Qjc (by omega) bd1 lst1 (by simp) (by simp) (by simp) rfl (by simp; omega) (by simp) bnd1
 have c3 := OY (s := ⟨⟨ns, 9, 900, ps, 9, 100, ch⟩, 2, 2, [ob 1 bx.length (nums 0 a.length), ob 2 bx.length (nums a.length a.length)], [iA, iB], [], ⟨900, GV (a ++ a)⟩⟩) (nm := nC) (cs := a ++ a) (nl := [nA, nB]) (cap := 900) sc zc Qxw (by omega) bd2 lst2 (by simp) (by simp) (by simp) rfl (by simp; omega) (by simp) bnd2
 obtain ⟨l1, h1, r1⟩ := PG (rest := rest) (l := []) (e := 0) hx ex Qdq c1 hr (by simp) (by omega)
 obtain ⟨l2, h2, r2⟩ := PG (rest := rest) (l := l1) (e := 2) hx ex Qjc c2 hr (by simp [h1]) (by omega)
 obtain ⟨l3, h3, r3⟩ := PG (rest := rest) (l := l2) (e := 4) hy ey Qxw c3 hr (by simp [h1, h2]) (by omega)
 obtain ⟨l4, h4, r4⟩ := Q9o (s := sT ⟨ns, 9, 900, ps, 9, 100, ch⟩ bx.length bx.length by_.length (nums 0 a.length) (nums a.length a.length) (nums (a ++ a).length c.length) [] 900 (GV (a ++ a ++ c))) (x := iS) (rest := rest) (l := l3) (e := 6) (op := op9) rfl vld9 hr (by simp [h1, h2, h3]) (by omega)
 have e3 : (l3.length : Int) = 3 := by simp [h1, h2, h3]
 rw [e3] at r4
 exact ⟨l4, by simp [h1, h2, h3, h4], r1.app (r2.app (r3.app ⟨_, _, r4, rfl⟩))⟩
set_option maxRecDepth 100000
def Qkk (r : Qp) := (r.f8.fq.fa8, r.f8.fq.fb8, r.f8.fq.fb0, r.f8.fq.fb3, r.f8.fq.fc3, r.f8.fq.fc5, r.f8.fq.fb4, r.f8.fa1, r.f8.fd6, r.f8.fa9, r.f8.fb6, r.f8.fc3, r.f8.fc2.fc4, r.f8.fc2.fb0, r.fa8, r.ff5, r.ff9)
def tupO (i : Int) (r : Qp) (o : Kd) := (i, r.f8.fq.fa8, r.f8.fq.fb8, r.f8.fq.fb0, r.f8.fq.fb3, r.f8.fq.fc3, r.f8.fq.fc5, r.f8.fq.fb4, r.f8.fa1, r.f8.fd6, r.f8.fa9, r.f8.fb6, r.f8.fc3, r.f8.fc2.fc4, r.f8.fc2.fb0, r.fa8, r.ff5, r.ff9, o.fh2, o.ff8, o.f0.fh2, o.f0.fa1, o.f0.fg2, o.f0.fc8, o.f0.fb8, o.f0.fb1.fg5, o.f0.fb1.ff2, o.f0.fb1.fd5, o.f0.fb1.ff7, o.f0.fb1.fw, o.f0.fb1.fg, o.f0.fd2)
abbrev opT (p : Int × Int × ByteArray × List Zc) : QF := ⟨p.2.1, p.2.2.1, ByteArray.empty, [], p0, p.2.2.2, [], 0, 0, 0, 0, 0, 0, q0, []⟩
theorem Qs5 {c : Qo} {l : List Zc} (hl : l.length ≤ 1000) : GF c (op6 l) 0 0 = 2 + HX c.fb4 l.length := by
 have c1 := Wc c.fb4 (l.length : Int)
 have c2 := Q17 c.fb4 (l.length : Int) (by omega)
 unfold GF
 rw [if_pos rfl]
 dsimp only
 rw [Qc5 (by omega) (by omega)]
 have := st6 (K := HX c.fb4 l.length) (p := 0) c1 (by omega) (by omega) (by omega)
 have e : smS (sdS 0 1 1099511627776) (sdS 2 (HX c.fb4 l.length) 1099511627776) 1099511627776 = OW (Gr 0 1 1099511627776) (Gr 2 (HX c.fb4 l.length) 1099511627776) 1099511627776 := rfl
 rw [← e, this]; omega
theorem Qs6 {c : Qo} {n : Int} (hn : 0 ≤ n ∧ n ≤ 100000) : GF c NC n 0 = 1 + HX c.fb4 n := by
 have c1 := Wc c.fb4 n
 have c2 := Q17 c.fb4 n hn.1
 unfold GF
 rw [if_neg (by decide), if_neg (by decide), if_neg (by decide), if_neg (by decide), if_pos rfl, Qc5 hn.1 (by omega), ad_eq (by omega) (by omega) (by omega)]
theorem Qyg {n z : Int} (hn : 0 ≤ n ∧ n ≤ 400) (hz : 8 ≤ z ∧ z ≤ 1024) : pgF n z = (n + z - 1) / z ∧ 0 ≤ pgF n z ∧ pgF n z ≤ 51 := by
 have e : pgF n z = (n + z - 1) / z := by
  unfold pgF clF
  rw [if_neg (by omega), if_neg (by omega), Int.tmod_eq_emod_of_nonneg (by omega), Int.tdiv_eq_ediv_of_nonneg (by omega), PF (by omega) (by omega)]
  have q0 : 0 ≤ n / z := Int.ediv_nonneg (by omega) (by omega)
  have q1 : n / z ≤ n := Int.ediv_le_self _ (by omega)
  rw [Zp (n := n / z) (by omega)]
  split
  ·rw [Zp (by omega)]
  ·omega
 have b0 : 0 ≤ (n + z - 1) / z := Int.ediv_nonneg (by omega) (by omega)
 have b1 : (n + z - 1) / z < 52 := Int.ediv_lt_of_lt_mul (by omega) (by omega)
 exact ⟨e, by omega, by omega⟩
theorem zPg {cs : List (List Int)} (h : ∀ x ∈ cs, zL x) (c : Nat) : ∀ p ∈ pgM c cs, IN p := by
 induction cs generalizing c with
 | nil => exact VS
 | cons d l ih => exact CW (h d (by simp)) (ih (fun x hx => h x (by simp [hx])) (c + 1))
theorem Qkl {l : List (List Int)} {b : List Int} (h : l.flatten = b) (hb : bB b) (hl : ∀ x ∈ l, x.length ≤ 1024) : ∀ x ∈ l, zL x := fun x hx => ⟨hl x hx, fun y hy => hb y (by rw [← h]; exact List.mem_flatten.2 ⟨x, hx, hy⟩)⟩
theorem shwT {g : Qo} {za zb zc cap : Int} {pa pb pc : List Int} {pg : List Qx} {pn : List QD} : Shw (sT g za zb zc pa pb pc pn cap pg) [nB] [2] := by
 refine ⟨rfl, fun i n v h1 h2 => ?_⟩
 have hi : i = 0 := by have := (List.getElem?_eq_some_iff.1 h1).1; simpa using this
 subst hi
 simp at h1 h2
 subst h1 h2
 exact ⟨(2, ⟨2, 0, zb, pb⟩), by simp [view, bnF, OZ, obF, veF, tl1, nB], rfl⟩
theorem Li (a0 : Int) (a1 : List Int) (a2 : Int) : Rr (VI a0 a1 a2) true := by
 unfold Rr
 rw [VI.eq_1]
 obtain ⟨v1, hv1, c1⟩ := (Sc (a0 := Jo .i64 a0 65535)).go trivial
 obtain ⟨z1, z2, z3, z4, z5, z6, z7⟩ := c1
 obtain ⟨n0, x, y, ex, ey, h0, hp, hst⟩ := Qrs a1
 obtain ⟨bx, ebx, lx, bbx⟩ := Qkf ex
 obtain ⟨by_, eby, ly, bby⟩ := Qkf ey
 obtain ⟨a, sa, fa, za, na⟩ := Qbp (b := bx) (z := v1.fb3) (by omega) (by omega)
 obtain ⟨c, sc, fc, zc, nc⟩ := Qbp (b := by_) (z := v1.fb3) (by omega) (by omega)
 have g : TZ ⟨v1.fa8, 9, 900, v1.fb3, 9, 100, v1.fb4⟩ := ⟨⟨z1.1, by dsimp only; omega⟩, by dsimp only; omega, ⟨z4.1, by dsimp only; omega⟩, by dsimp only; omega, by dsimp only; omega, z7.1, by dsimp only; omega⟩
 have hN := r_New g (by dsimp only; omega) (by dsimp only; omega) (by dsimp only; omega)
 obtain ⟨rest, hrest, hrl⟩ : ∃ rest, List.replicate v1.fa8.toNat iS = iS :: rest ∧ rest.length ≤ 60 := by
  obtain ⟨k, hk⟩ : ∃ k, v1.fa8.toNat = k + 1 := ⟨v1.fa8.toNat - 1, by omega⟩
  exact ⟨List.replicate k iS, by rw [hk]; rfl, by simp; omega⟩
 dsimp only at hN
 rw [hrest] at hN
 obtain ⟨l7, hl7, runs⟩ := Qs4 (ns := v1.fa8) (ch := v1.fb4) ex ey ebx eby lx ly sa sc za zc na nc hrl
 have hch : 1 ≤ v1.fb4 ∧ v1.fb4 ≤ 64 := by omega
 obtain ⟨l8, hl8, r8⟩ := PE (rest := rest) (l := l7) (e := 7) rfl (Qkg (g := ⟨v1.fa8, 9, 900, v1.fb3, 9, 100, v1.fb4⟩) (za := bx.length) (zb := bx.length) (zc := by_.length) (cap := 900) (rec := 3) (pa := nums 0 a.length) (pb := nums a.length a.length) (pc := nums (a ++ a).length c.length) (pg := GV (a ++ a ++ c)) (cu := cu4) rfl) rfl (by dsimp only; omega) hrl (by omega) (by omega)
 rw [if_neg (by dsimp only; decide)] at r8
 obtain ⟨l9, hl9, r9⟩ := PE (rest := rest) (l := l8) (e := 7 + 1) rfl (Qkh (g := ⟨v1.fa8, 9, 900, v1.fb3, 9, 100, v1.fb4⟩) (za := bx.length) (zb := bx.length) (zc := by_.length) (cap := 900) (rec := 3) (pa := nums 0 a.length) (pb := nums a.length a.length) (pc := nums (a ++ a).length c.length) (pg := GV (a ++ a ++ c)) (cu := cu4) hch) rfl (by dsimp only; omega) hrl (by omega) (by omega)
 rw [if_pos rfl] at r9
 refine ⟨v1, hv1, _, hN, _, hst, XH (XH ⟨by simp, ?_⟩)⟩
 generalize hev : ([evC (op1 nA x.fu), evP, evC (op1 nB x.fu), evP, evC (op1 nC y.fu), evP] : List Zg) ++ [evC op9] = evs
 have hel : evs.length = 7 := by rw [← hev]; rfl
 replace runs : Q18 evs ⟨⟨⟨v1.fa8, 9, 900, v1.fb3, 9, 100, v1.fb4⟩, 0, 0, [], [], [], ⟨900, []⟩⟩, iS :: rest, [], 0⟩ ⟨sT ⟨v1.fa8, 9, 900, v1.fb3, 9, 100, v1.fb4⟩ bx.length bx.length by_.length (nums 0 a.length) (nums a.length a.length) (nums (a ++ a).length c.length) [] 900 (GV (a ++ a ++ c)), ⟨true, op9, Lh, 3, [sz, sz, sz, sz], cu4⟩ :: rest, l7, 7⟩ := by rw [← hev]; exact runs
 clear hev
 refine HV (fun p => p = Qkk ⟨sT ⟨v1.fa8, 9, 900, v1.fb3, 9, 100, v1.fb4⟩ bx.length bx.length by_.length (nums 0 a.length) (nums a.length a.length) (nums (a ++ a).length c.length) [] 900 (GV (a ++ a ++ c)), ⟨true, op9, Lh, 3, [sz, sz, sz, sz], cu4⟩ :: rest, l7, 7⟩) ?_ fun J hJ => ?_
 ·rintro _ rfl
  dsimp only [Qkk]
  refine HV (fun p => p = Qkk ⟨sT ⟨v1.fa8, 9, 900, v1.fb3, 9, 100, v1.fb4⟩ bx.length bx.length by_.length (nums 0 a.length) (nums a.length a.length) (nums (a ++ a).length c.length) [⟨3, 1⟩] 900 (GV (a ++ a ++ c)), ⟨false, o0, Lh, 0, [sA, sz, sz, sz], cu4⟩ :: rest, l9, 7 + 1 + 1⟩) ?_ fun J hJ => ?_
  ·rintro _ rfl
   have hi : IntKind.i64.wrap (1 + Jo .i64 a2 15) = (((1 + a2 % 16).toNat : Nat) : Int) := by rw [Qhs, Zp (by omega)]; omega
   obtain ⟨it, hit, itl, itv, itz⟩ := Qrr a1 (1 + a2 % 16).toNat (by omega)
   have hrn : (a ++ a ++ c).length ≤ 100000 := by simp only [List.length_append]; omega
   refine ⟨it, by rw [hi]; exact hit, HV (fun p => ∃ K : Nat, (1 ≤ K ∧ K ≤ 60) ∧ Rr (Z3 (opT p)) 0 ∧ GF ⟨v1.fa8, 9, 900, v1.fb3, 9, 100, v1.fb4⟩ (opT p) p.1 0 = (K : Int) ∧ ∀ l' : List Qr, l'.length = 5 → Wl K ⟨sT ⟨v1.fa8, 9, 900, v1.fb3, 9, 100, v1.fb4⟩ bx.length bx.length by_.length (nums 0 a.length) (nums a.length a.length) (nums (a ++ a).length c.length) [⟨3, 1⟩] 900 (GV (a ++ a ++ c)), ⟨true, opT p, Lh, 4, [sA, sz, sz, sz], cu4⟩ :: rest, l', 10⟩) ?_ fun J hJ => KL (fun _ => ?_) fun _ => hJ _ ?_⟩
   ·rintro p ⟨K, ⟨k1, k2⟩, hv, hk, hw⟩
    obtain ⟨l10, hl10, r10⟩ := Q9o (s := sT ⟨v1.fa8, 9, 900, v1.fb3, 9, 100, v1.fb4⟩ bx.length bx.length by_.length (nums 0 a.length) (nums a.length a.length) (nums (a ++ a).length c.length) [⟨3, 1⟩] 900 (GV (a ++ a ++ c))) (x := ⟨false, o0, Lh, 0, [sA, sz, sz, sz], cu4⟩) (rest := rest) (l := l9) (e := 7 + 1 + 1) (op := opT p) rfl hv hrl (by omega) (by omega)
    have e4 : (l9.length : Int) = 4 := by rw [hl9, hl8, hl7]; rfl
    rw [e4] at r10
    refine ⟨_, F7 _ (opT p) p.1 0 (by unfold E6; omega), _, r10, Ye rfl ?_⟩
    rw [hk]
    refine HV (fun _ => False) (fun _ h => h.elim) fun J hJ => ?_
    refine XM (I := fun n s => ∃ (i : Nat) (r : Qp) (o : Kd), Wl n r ∧ 1 ≤ n ∧ i + n = K + 1 ∧ 1 ≤ i ∧ s = tupO (i : Int) r o) ?_ (k := K) ⟨1, _, _, hw l10 (by omega), k1, by omega, by omega, rfl⟩
    rintro n _ ⟨i, r, o, hw', hn1, hin, hi1, rfl⟩ X hX
    obtain ⟨k, rfl⟩ : ∃ k, n = k + 1 := ⟨n - 1, by omega⟩
    obtain ⟨q, o', hA, alt⟩ := hw'
    dsimp only [tupO]
    refine rnt (show decide ((i : Int) ≤ 60) = true by simp; omega) ⟨_, hA, ?_⟩
    rcases alt with ⟨k0, hd⟩ | ⟨hk1, hd, hw'⟩
    ·refine rnt hd ⟨true, fun _ => Sf, ?_⟩
     have : i = K := by omega
     subst this
     simp
    ·refine Ye hd ?_
     rw [Zp (by omega), show (i : Int) + 1 = ((i + 1 : Nat) : Int) by omega]
     exact hX k _ (by omega) ⟨i + 1, q, o', hw', hk1, by omega, by omega, rfl⟩
   ·obtain ⟨pk, hpk, pkl, _⟩ := Qc4 (g := 88) (b := bx) (by unfold oB; omega) bbx (by omega)
    have hP : Rr (Vn bx) (pk, 0) := by
     unfold Rr; rw [Vn.eq_1]
     exact ⟨_, hpk, rfl⟩
    obtain ⟨cn, hcn, hcn1⟩ := (Sb (a0 := (pk.length : Int)) (a1 := v1.fb3)).go trivial
    obtain ⟨pe, pe0, pe1⟩ := Qyg (n := (pk.length : Int)) (z := v1.fb3) (by omega) (by omega)
    have pgs : IntKind.i64.wrap ((IntKind.i64.wrap (IntKind.i64.wrap ((pk.length : Int) + v1.fb3) - 1)).tdiv v1.fb3) = cn.1 := by
     rw [Zp (n := (pk.length : Int) + v1.fb3) (by omega), Zp (n := (pk.length : Int) + v1.fb3 - 1) (by omega), Int.tdiv_eq_ediv_of_nonneg (by omega), hcn1, pe]
     rw [pe] at pe0 pe1
     exact Zp (by omega)
    refine ⟨n0, h0, _, hp, x, Qrq ex, _, ebx, Ye rfl ⟨_, hP, by omega, hJ _ ?_⟩⟩
    dsimp only
    rw [pgs]
    rw [← hcn1] at pe0 pe1
    have c1 := Wc v1.fb4 cn.1
    have c2 := Q17 v1.fb4 cn.1 pe0
    refine ⟨(HX v1.fb4 cn.1).toNat + 1, by omega, vld15, by rw [Qs6 ⟨pe0, by omega⟩]; dsimp only; omega, fun l' hl' => ?_⟩
    exact Qc7 (e := 10) rfl (Qrt (g := ⟨v1.fa8, 9, 900, v1.fb3, 9, 100, v1.fb4⟩) (k := (pk, 0)) (n := cn) za hrn (by rw [fa]; exact hP) hcn) rfl (by dsimp only; omega) hrl (by omega) (by omega) rfl (by omega) fun l2 h2 => Qyc (g := ⟨v1.fa8, 9, 900, v1.fb3, 9, 100, v1.fb4⟩) (rec := 4) hch hrl (HX v1.fb4 cn.1).toNat cn.1 l2 (10 + 1) pe0 (by omega) (by (try dsimp only); omega) (by omega) (by omega) (by omega) (by omega)
   ·have c1 := Wc v1.fb4 (it.length : Int)
    have c2 := Q17 v1.fb4 (it.length : Int) (by omega)
    have zar : zAr ⟨900, GV (a ++ a ++ c)⟩ := ⟨by dsimp only; rw [M3]; simp only [List.length_append]; omega, by dsimp only; omega, zPg (ZP (ZP (Qkl fa bbx za) (Qkl fa bbx za)) (Qkl fc bby zc)) 0⟩
    have zst : ∀ m : Int, 1 ≤ m → UG (sT ⟨v1.fa8, 9, 900, v1.fb3, 9, 100, v1.fb4⟩ bx.length bx.length by_.length (nums 0 a.length) (nums a.length a.length) (nums (a ++ a).length c.length) [⟨3, m⟩] 900 (GV (a ++ a ++ c))) := fun m hm => zT g (by dsimp only; omega) (by rw [Ho]; omega) (by rw [Ho]; omega) (by rw [Ho]; omega) ⟨by simp, KO (by unfold zP; exact hm)⟩ zar
    refine ⟨(HX v1.fb4 it.length).toNat + 1 + 1, by omega, vld6 (l := it) (by omega) itv, by rw [Qs5 (l := it) (by omega)]; dsimp only; omega, fun l' hl' => ?_⟩
    obtain ⟨xx, zx, hx⟩ := Qs0 (g := ⟨v1.fa8, 9, 900, v1.fb3, 9, 100, v1.fb4⟩) (za := bx.length) (zb := bx.length) (zc := by_.length) (cap := 900) (rec := 4) (pa := nums 0 a.length) (pb := nums a.length a.length) (pc := nums (a ++ a).length c.length) (pg := GV (a ++ a ++ c)) (sn := [sA, sz, sz, sz]) (cu := cu4) (l := it) rfl (zst 1 (by omega))
    refine Qc7 (e := 10) rfl hx rfl (by dsimp only; omega) hrl (by omega) (by omega) rfl (by omega) fun l2 h2 => ?_
    have zo : zOp (op6 it) := ⟨by simp, by dsimp only; omega, by simp, by simp, VS, by dsimp only; decide, by dsimp only; decide, itz, VS⟩
    have zs : zSe ⟨true, op6 it, maI xx it.length, 4, [sA, sz, sz, sz], cu4⟩ := ⟨rfl, rfl, CW (by unfold OQ; simp) (ax3 (by unfold OQ; simp) (by unfold OQ; simp) (by unfold OQ; simp)), zo, ⟨⟨by simp, by simp⟩, zx, ⟨by simp, by simp, ⟨by simp, VS⟩, ⟨by simp, VS⟩, by simp, VS⟩, by simp, by simp, VS⟩, fun _ => Int.le_refl _⟩
    exact Qyd hrl _ _ _ l2 (10 + 1) (zst 2 (by omega)) zs svT rfl rfl (by dsimp only; omega) (by omega) (by omega) (by omega) shwT (.inl ⟨rfl, by dsimp only; omega, by dsimp only; omega, by dsimp only; omega⟩)
  ·refine rnl fun Y hY => rnt rfl ⟨_, r8, hY _ (rnt rfl ⟨_, r9, hY _ (Ye rfl (hJ _ rfl))⟩)⟩
 ·refine XM (I := fun n s => ∃ (r : Qp) (j : Nat), j ≤ evs.length ∧ Q18 (evs.drop j) r ⟨sT ⟨v1.fa8, 9, 900, v1.fb3, 9, 100, v1.fb4⟩ bx.length bx.length by_.length (nums 0 a.length) (nums a.length a.length) (nums (a ++ a).length c.length) [] 900 (GV (a ++ a ++ c)), ⟨true, op9, Lh, 3, [sz, sz, sz, sz], cu4⟩ :: rest, l7, 7⟩ ∧ s = (evs, (j : Int), Qkk r) ∧ n = evs.length - j) ?_ (k := evs.length) ⟨_, 0, by omega, by simpa using runs, rfl, rfl⟩
  rintro n _ ⟨r, j, hj, hr, rfl, hn⟩ X hX
  refine KL (fun c => ?_) fun c => hJ _ ?_
  ·have hj2 : j < evs.length := by simpa using c
   rw [List.drop_eq_getElem_cons hj2] at hr
   obtain ⟨m, o, h1, h2⟩ := hr
   dsimp only [Qkk]
   rw [Zp (by omega)]
   exact ⟨_, CM hj2, _, h1, hX (evs.length - (j + 1)) _ (by omega) ⟨m, j + 1, by omega, h2, rfl, rfl⟩⟩
  ·have : j = evs.length := by simp at c; omega
   subst this
   rw [List.drop_length] at hr
   cases hr
   rfl
set_option maxRecDepth 100000
set_option maxHeartbeats 4000000
instance Qnf : BV := Sy
instance Qkm : AG := R4
instance Q21 : YX := Gi
instance Qvr : He := Q5w
instance Q6y : Up := Ij
instance Qvs : Hf := Q5z
instance Qng : BW := Sz
instance y_base_At : Fs := Qea
instance Qvt : Hg := Q5u
instance Qs7 : FM := Q1q
instance Qyh : IO := Q9u
instance Qvu : Hh := Q5l
instance Qs8 : FN := Q1t
instance Qkn : AH := PX
instance Q22 : Jh := Gh
instance Qnh : ZJ := SI
instance Q63 : KP := HI
instance Tp : ZF := Fx
instance Q2x : ZX := GU
instance Qs9 : Ji := Q1e
instance Qvv : Yh := Q60
instance Qni : BX := SA
instance Q9x : KQ := Lt
instance Tq : ZG := Fy
instance Q64 : ZR := HJ
instance Qfo : UO := NY
instance Q6z : Uq := Ik
instance Qc8 : AI := Mn
instance Q9y : YZ := Lx
instance Qko : Dm := PY
instance Q70 : Ur := Ig
instance Qeb : BC := N4
instance Qsa : FO := Q1r
instance Qsb : FP := Q1j
instance Qec : VD := N9
instance Qvw : VT := Q5m
instance Qvx : WV := Q61
instance Q9z : A1 := Lr
instance Qvy : E9 := Q5r
instance Q2y : Wr := GK
instance Q71 : Us := Ih
instance Qvz : Cj := Q5p
instance Qed : BD := Na
instance Q2z : Ws := GI
instance Qa0 : A4 := Ll
instance Qfp : Cp := O9
instance Qsc : AJ := Q1k
instance Qkp : YI := R5
instance Qa1 : A5 := Lv
instance Qee : BE := N7
instance Qnj : EB := Sp
instance Qa2 : A6 := Lz
instance Qfq : Cq := NW
instance Qw0 : Ea := Q5h
instance Q72 : ZL := Ii
instance Qef : Ul := N3
instance Qkq : Dn := R6
instance Qyi : A7 := Q9s
instance Qfr : UP := O4
instance Qa3 : A8 := Lo
instance Qyj : Do := Q9v
instance Qw1 : Eb := Q5n
instance Qsd : CX := Q1b
instance Qyk : IP := Q9t
instance Qnk : EC := SB
instance Qw2 : Ec := Q5s
instance Q30 : Wt := GL
instance Qfs : Cs := O5
instance Q73 : Ut := If
instance Qyl : W1 := Q9w
instance Qse : CY := Q1f
instance Qw3 : Ax := Q5i
instance Qeg : BF := N8
instance Qsf : CZ := Q1l
instance Qsg : D1 := Q1n
instance Q31 : Wu := GN
instance Qft : UQ := O6
instance Qnl : ED := Sq
instance Qnm : EE := SR
instance Qym : IQ := Q9r
instance Qnn : BY := Sr
instance Qa4 : Ab := Ls
instance Qkr : AK := PO
instance Qw4 : Hi := Q5j
instance Qks : WW := Ri
instance Qyn : FQ := Q9q
instance Qsh : D2 := Q1x
instance Qkt : Dp := PZ
instance Qno : Jy := SE
instance Qnp : BZ := SJ
instance Q32 : VC := GO
instance Qeh : BG := Nb
instance Q65 : WX := HE
instance Qku : AM := Rm
instance Q66 : Ym := HD
instance Qc9 : AN := Ml
instance Qnq : UI := Sj
instance Qw5 : Ay := Q62
instance Qa5 : W2 := Lj
instance Qkv : Dq := R0
instance Qfu : Y5 := O0
instance Qnr : Wi := SK
instance Qkw : AO := Rb
instance Qkx : AP := PU
instance Q74 : Uu := Il
instance Qfv : Y6 := NX
instance Qsi : FR := Q1a
instance Qns : Wj := Sk
instance Qsj : FS := Q1u
instance Qky : AQ := PK
instance Qsk : AR := Q1m
instance Qfw : Xg := O1
instance Qca : X1 := Ms
instance Qkz : AS := Rc
instance Q67 : Ki := HG
instance Qa6 : KW := LA
instance Qa7 : Ac := Ln
instance Qcb : AT := Mm
instance Qa8 : W3 := Lm
instance Q33 : Wv := GR
instance Q75 : Uv := Ib
instance Qcc : AU := Mp
instance Qa9 : XN := Lu
instance Qei : BH := N5
instance Q34 : Ww := GP
instance Qaa : Ad := Lp
instance Ql0 : WZ := PL
instance Qnt : EF := SU
instance Ql1 : Dr := PS
instance Qw6 : Ck := Q5f
instance Qnu : C0 := Sl
instance Ql2 : Vk := Rj
instance Qcd : WN := Mk
instance Qce : Yn := Mq
instance Qnv : C1 := SF
instance Qsl : D3 := Q1p
instance Qnw : C2 := SN
instance Ql3 : Dt := PW
instance Qsm : FT := Q1y
instance Q35 : Y0 := GJ
instance Q36 : Wx := GG
instance Qw7 : Hj := Q5t
instance Qw8 : Ed := Q5k
instance Qnx : EG := SO
instance Qny : EH := Sg
instance Qcf : AX := Mr
instance Q68 : U1 := HH
instance Qab : Ae := Lw
instance Ql4 : AY := Re
instance Qfx : Cu := NU
instance Q69 : U2 := HB
instance Qcg : AZ := Mj
instance Qnz : EI := Ss
instance Qo0 : Wk := SV
instance Ql5 : Du := R8
instance Qsn : D4 := Q1g
instance Qej : YJ := N2
instance Ql6 : B0 := PR
instance Qo1 : C3 := SP
instance Ql7 : Dv := PM
instance Ql8 : Dw := R1
instance Qso : D5 := Q1o
instance SX : JD := F8
instance Qsp : B2 := Q1s
instance Qo2 : C4 := Su
instance Qsq : FU := Q1z
instance Ql9 : B4 := PT
instance Qla : Dx := PP
instance Qsr : FV := Q1c
instance Qss : FW := Q1v
instance Qlb : U3 := PN
instance Qlc : B5 := R2
instance Qo3 : C5 := SG
instance Qek : BI := N6
instance Qld : U4 := Rf
instance Qfy : Cv := NZ
instance Qst : FX := Q20
instance Qsu : FY := Q1h
instance Q37 : Wy := GH
instance Qfz : Cw := NV
instance Qle : Dy := Rk
instance Qo4 : EJ := Si
instance Qo5 : EK := SC
instance Qg0 : Cy := O2
instance Qlf : YK := R9
instance Qg1 : We := O7
instance Qch : WO := Mo
instance Tr : YL := Fz
instance Q76 : Uw := Ic
instance Qlg : Dz := PQ
instance Qo6 : EL := Sm
instance Q38 : Wz := GT
instance Qw9 : Ee := Q5e
instance Qwa : Hk := Q5q
instance Qg2 : Cz := O3
instance Qwb : Eg := Q5x
instance Qwc : Hl := Q5v
instance Q39 : WA := GQ
instance Qac : Af := Lq
instance Qel : BJ := Nc
instance Q77 : Ux := Ie
instance Qad : Ag := Lk
instance Qsv : D6 := Q1d
instance Qlh : DC := Rl
instance Qsw : FZ := Q19
instance Qli : DD := R3
instance Qlj : DF := R7
instance Qo7 : EM := SL
instance Qlk : DG := Rh
instance Qsx : G0 := Q1i
instance Qsy : G1 := Q1w
instance Qo8 : EN := Sw
instance Qg3 : UR := NT
instance Qo9 : EO := SH
instance Qoa : EP := SD
instance Qae : Ah := LB
instance Qwd : Hm := Q5o
instance Qwe : Hn := Q5g
instance Qwf : Ej := Q5y
instance Qg4 : CB := O8
instance Qll : DI := Ra
instance Qob : UJ := Sn
instance Qoc : EQ := SQ
instance Qod : ER := Sx
instance Qaf : DJ := Ly
theorem BoundTight_walk (a0 : Int) (v1 : Value) (l1 : List Int) (a2 : Int) (w : World) (h0 : (Lit.int .i64 a0).wf = true) (h1 : Ints .i64 w v1 l1) (s1 : l1.length * Tryz.prog.bytesOf 3 ≤ 140737488351232) (h2 : (Lit.int .i64 a2).wf = true) :
  Calls Tryz.prog 5 #[.int .i64 a0, v1, .int .i64 a2] w fun e w' => e = .returned (.bool true) ∧ Below w.heap.size w w' := by
 refine (LW (A := fun x => x < w.heap.size) (vs := #[.int .i64 a0, v1, .int .i64 a2]) (g := 0) (q := 0) (IJ (Li a0 l1 a2)) rfl (fun x h => h) ⟨.v _ h0, Q7i h1 (fun _ _ _ g _ _ hg => hg), .v _ h2, trivial⟩).mono ?_
 rintro e w' ⟨rfl, hg⟩
 exact ⟨rfl, Ol hg⟩
end Go.Proofs.YtimfmcpbkdpmoaaGreat
