/- Parts of the proof, laid together. No condition. -/
import Derived.Test.YtikagchjeogchaaGreatKB6
set_option linter.unusedVariables false
set_option linter.unusedSimpArgs false
set_option maxRecDepth 100000
set_option maxHeartbeats 4000000
namespace Go.Proofs.YtikagchjeogchaaGreat
open Go.RowKit
theorem Qkx : CX := Z8 (Xc.eq_1 _ _) Tryz.func32
theorem Qbr [F6] : Lu := Z8 (UM.eq_1 _) Tryz.func71
theorem Q7c : EA := Z8 (VH.eq_1 _) Tryz.func47
theorem P5 [WZ] : BV := Z8 (JV.eq_1 _ _) Tryz.func221
theorem Q0o [XY] : F7 := Z8 (XZ.eq_1 _ _) Tryz.func222
theorem Sn [Bc] : AX := Z8 (Vf.eq_1 _ _) Tryz.func225
theorem Q0p [Vm] [ZG] [Aj] [Be] [Ue] [Ax] [D3] [Uf] [Bh] : BW := Z8 (VP.eq_1 _ _ _ _) Tryz.func109
theorem P6 [YD] : BY := Z8 (JY.eq_1 _ _) Tryz.func111
theorem Q7d : HH := Z8 (WA.eq_1 _) Tryz.func180
theorem P7 : C4 := Z8 (JZ.eq_1 _) Tryz.func260
theorem Qbs [Yn] [Gw] [Fc] : E2 := Z8 (YE.eq_1 _ _) Tryz.func129
theorem Qbt [Yo] [Dx] [C1] [Fe] [EH] [Ui] [HJ] [Dy] : Lw := Z8 (US.eq_1 _ _ _) Tryz.func170
theorem Q39 [BZ] : U5 := Z8 (KN.eq_1 _ _) Tryz.func118
theorem Q7e [Jn] [Jl] [Ca] [DC] : HL := Z8 (WG.eq_1 _ _ _ _) Tryz.func195
theorem Q7f : HQ := Z8 (WK.eq_1 _) Tryz.func131
theorem Q0q : Fs := Z8 (Y9.eq_1 _ _) Tryz.func262
theorem NX [Yj] : Bn := Z8 (JH.eq_1 _ _) Tryz.func214
theorem Q7g [Dq] [FX] [Ex] [Du] [GE] [DF] : Cd := Z8 (VK.eq_1 _ _ _) Tryz.func7
theorem P8 [Xs] [UZ] : Ce := Z8 (V6.eq_1 _) Tryz.func58
theorem LY [Bo] : A5 := Z8 (JL.eq_1 _ _) Tryz.func69
theorem MH [Vz] {a0 : (List Q2)} {a1 : (List Int)} {r : Bool} (h : Rr (Zz a0 a1) r) : XU Tryz.prog 14 [.c (.l 38 (List.map Qp a0)), .c (.l 1 (List.map (eI .i64) a1))] [.c (.p (.v (.bool r)))] [] := by
 refine Ma tb Tryz.func14 Z (by kernel_rfl) Z Z (Nat.le_of_ble_eq_true Z) Z ?_;intro E;unfold Rr Zz at h
 simp only [ct, cs, jo, Go.Proofs.YtikagchjeogchaaGreat.lo, lv, Qb] at h
 refine Z3q (fun Q hQ => ?_);refine tD Z <| tk fun L hL => u1 (Qwa Tryz.underlying82) <| dN 1 Z <| rt (hL _ ?_);refine Q3q (fun (p1 : Unit) => (⟨[(0, .c (.p (.l 38 (List.map Qp a0)))), (1, .c (.p (.l 1 (List.map (eI .i64) a1))))], []⟩ : St)) h (fun p1 h => ?_) (fun J1 L1 hL1 h => ?_)
 ·refine Q3q (fun (p8 : Unit) => (⟨[], []⟩ : St)) h (fun p8 h => ?_) (fun J8 L8 hL8 h => ?_)
  ·refine tD Z ?_;obtain rfl := h;exact UG (hQ _ _ (fq1 Z Z))
  ·refine tk fun L hL => dN 1 Z <| u0 Af <| dN 1 Z <| rt (hL _ ?_);refine EZ ?_;refine Qgx (fun (s9 : Int) => (⟨[(0, .c (.p (.l 38 (List.map Qp a0)))), (1, .c (.p (.l 1 (List.map (eI .i64) a1)))), (35, .c (.p (.l 1 (List.map (eI .i64) a1)))), (36, .c (.p (.v (.int .i64 ((a1.length : Int)))))), (37, .c (.p (.v (.int .i64 s9))))], []⟩ : St)) h UF.fit (fun X9 L9 hL9 s9 h => ?_);refine tD Z <| sk fun L10 hL10 => cn h (fun h => ?_) fun h => ?_
   ·refine Xt (hL10 _ ?_);refine Q3q (fun (p11 : Unit) => (⟨[(0, .c (.p (.l 38 (List.map Qp a0)))), (1, .c (.p (.l 1 (List.map (eI .i64) a1)))), (35, .c (.p (.l 1 (List.map (eI .i64) a1)))), (36, .c (.p (.v (.int .i64 ((a1.length : Int)))))), (37, .c (.p (.v (.int .i64 s9))))], []⟩ : St)) h (fun p11 h => ?_) (fun J11 L11 hL11 h => ?_)
    ·refine tE Z (hL9 _ _ h UF.fit)
    ·refine EZ <| tk fun L hL => dN 1 Z ?_;obtain ⟨v12, hv12, h⟩ := h;refine u0 (FV hv12) <| dN 3 Z <| rt (hL _ ?_);refine tk fun L hL => dN 2 Z ?_;obtain ⟨hm13, h⟩ := h;refine u0 (Hv hm13) <| u0 Af <| dN 1 Z <| rt (hL _ ?_);refine EZ ?_;refine Qgx (fun (s14 : Int) => (⟨[(0, .c (.p (.l 38 (List.map Qp a0)))), (1, .c (.p (.l 1 (List.map (eI .i64) a1)))), (9, .c (.p (.v (.int .i64 v12)))), (35, .c (.p (.l 1 (List.map (eI .i64) a1)))), (36, .c (.p (.v (.int .i64 ((a1.length : Int)))))), (37, .c (.p (.v (.int .i64 s9)))), (44, .c (.p (.l 1 (List.map (eI .i64) (List.take (Int.toNat s9) a1))))), (45, .c (.p (.v (.int .i64 (((List.take (Int.toNat s9) a1).length : Int)))))), (46, .c (.p (.v (.int .i64 s14))))], []⟩ : St)) h UF.fit (fun X14 L14 hL14 s14 h => ?_);refine tD Z <| sk fun L15 hL15 => cn h (fun h => ?_) fun h => ?_
     ·refine Xt (hL15 _ ?_);refine sk fun L16 hL16 => EZ <| tk fun L hL => ?_;obtain ⟨v17, hv17, h⟩ := h;refine u0 (FV hv17) <| dN 2 Z <| rt (hL _ ?_);refine dk mixed (fun L hL => ?_);refine dN 2 Z ?_;obtain ⟨v18, hv18, h⟩ := h;refine u0 (FV hv18) <| dN 3 Z ?_;obtain ⟨v19, hv19, h⟩ := h;refine u0 (FV hv19) <| dN 1 Z ?_;obtain ⟨v20, hv20, h⟩ := h;refine u0 (Q19 (Lc hv20)) <| rd (hL _ ?_);refine cn h (fun h => ?_) fun h => ?_
      ·refine tD Z ?_;obtain rfl := h;exact UG (hQ _ _ (fq1 Z Z))
      ·refine Xt (hL16 _ ?_);refine tE Z (hL14 _ _ h UF.fit)
     ·refine Sy (hL11 _ _ h UF.fit)
   ·refine Sy (hL8 _ _ h UF.fit)
 ·refine tk fun L hL => dN 1 Z <| u0 Af <| dN 1 Z <| rt (hL _ ?_);refine EZ ?_;refine Qgx (fun (s2 : Int × (List Int)) => (⟨[(0, .c (.p (.l 38 (List.map Qp a0)))), (1, .c (.p (.l 1 (List.map (eI .i64) a1)))), (5, .c (.mp (12, 0))), (13, .c (.p (.l 1 (List.map (eI .i64) a1)))), (14, .c (.p (.v (.int .i64 ((a1.length : Int)))))), (15, .c (.p (.v (.int .i64 s2.1))))], [((12, 0), some (.map s2.2))]⟩ : St)) h UF.fit (fun X2 L2 hL2 s2 h => ?_);refine tD Z <| sk fun L3 hL3 => cn h (fun h => ?_) fun h => ?_
  ·refine Xt (hL3 _ ?_);refine sk fun L4 hL4 => EZ <| tk fun L hL => ?_;obtain ⟨v5, hv5, h⟩ := h;refine u0 (FV hv5) <| dN 2 Z <| rt (hL _ ?_);refine sk fun L6 hL6 => tk fun L hL => dN 3 Z <| QE Z Z QF (fun hg => ZI Z Z) <| QE Z Z QF (fun hg => ZI Z Z) <| QE Z Z QF (fun hg => Af (QO hg) Z Z Z) <| QE Z Z QF (fun hg => Ae (c := decide (v5 ≥ ((a0.length : Int)))) (QO hg) (QO hg) Z Z Z) <| u0 (Z1 (v := .bool true) (w := .bool (decide (v5 ≥ ((a0.length : Int))))) Z Z QF Z Kp) <| dN 1 Z <| QE Z Z QF (fun hg => ZI Z Z) <| QE Z Z QF (fun hg => ZI Z Z) ?_;refine QE Z Z QF (fun hg => Qwb Tryz.underlying82 Tryz.underlying3 (fun _ => by kernel_rfl) (QO hg) Z (QO hg) Z Z) ?_;refine u0 (Z1 (v := .bool true) (w := .bool ((List.contains s2.2 v5))) Z Z QF Z Kp) <| rt (hL _ ?_);refine cn h (fun h => ?_) fun h => ?_
   ·refine tD Z ?_;obtain rfl := h;exact UG (hQ _ _ (fq1 Z Z))
   ·refine Xt (hL6 _ ?_);refine F2 (st' := ⟨[(0, .c (.p (.l 38 (List.map Qp a0)))), (1, .c (.p (.l 1 (List.map (eI .i64) a1)))), (5, .c (.mp (12, 0))), (13, .c (.p (.l 1 (List.map (eI .i64) a1)))), (14, .c (.p (.v (.int .i64 ((a1.length : Int)))))), (15, .c (.p (.v (.int .i64 s2.1)))), (7, .c (.p (.v (.int .i64 v5))))], [((12, 0), some (.map s2.2))]⟩) UF.fit ?_;refine tl fun L hL => dN 2 Z ?_;obtain ⟨hm7, h⟩ := h;refine un (Qo3 hm7 Tryz.underlying82 Tryz.underlying3) <| rt (hL _ (hL4 _ ?_));refine tE Z (hL2 _ _ h UF.fit)
  ·refine Sy (hL1 _ _ h UF.fit)
theorem NY [Vz] : Yh := { run := fun r h => MH h, gm := Nn.gm }
theorem IZ [Cd] [U1] [GH] [HY] [U6] [Yh] [Dc] : CQ := Z8 (Jj.eq_1 _ _ _ _) Tryz.func4
end Go.Proofs.YtikagchjeogchaaGreat
