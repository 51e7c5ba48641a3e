/- Parts of the proof, laid together. No condition. -/
import Derived.Test.YtimfmcpbkdpmoaaGreatKB6
set_option linter.unusedVariables false
set_option linter.unusedSimpArgs false
set_option maxRecDepth 100000
set_option maxHeartbeats 4000000
namespace Go.Proofs.YtimfmcpbkdpmoaaGreat
open Go.RowKit
theorem Fx [ZJ] : ZF := Zo (QH.eq_1 _) Tryz.func78
theorem NY : UO := Zo (Jd.eq_1 _ _) Tryz.func173
theorem Q1j : FP := Zo (Xs.eq_1 _) Tryz.func84
theorem Q5p [VT] : Cj := Zo (Yi.eq_1 _) Tryz.func87
theorem Sp [ZJ] : EB := Zo (VM.eq_1 _) Tryz.func66
theorem Lo [KP] [ZL] [UP] : A8 := Zo (JQ.eq_1 _ _) Tryz.func71
theorem If [ZX] [ZL] [Cs] : Ut := Zo (Jr.eq_1 _ _) Tryz.func73
theorem Sq : ED := Zo (Yt.eq_1 _) Tryz.func125
theorem Sr [EE] [W1] [IQ] : BY := Zo (XD.eq_1 _ _ _ _ _) Tryz.func126
theorem HE [BG] : WX := Zo (KU.eq_1 _ _ _ _) Tryz.func27
theorem PU : AP := Zo (JB.eq_1 _ _) Tryz.func208
theorem HG [X1] : Ki := rg0 (Qj.eq_1 _ _) Tryz.func230
theorem Lp [Ki] [KW] [ZR] [XN] : Ad := Zo (JU.eq_1 _) Tryz.func196
theorem PW : Dt := Zo (XO.eq_1 _ _) Tryz.func224
theorem Ss [VD] [Ul] [AX] [U1] [Ae] [Cu] [U2] [AZ] : EI := Zo (Yw.eq_1 _ _ _ _) Tryz.func142
theorem Su : C4 := Zo (V4.eq_1 _ _) Tryz.func237
theorem NZ [U4] : Cv := Zo (Xi.eq_1 _ _) Tryz.func207
theorem Mo : WO := Zo (Jw.eq_1 _) Tryz.func161
theorem Lq [YJ] [YK] [We] [Ck] : Af := Zo (JW.eq_1 _ _ _ _ _) Tryz.func106
theorem Sw [WX] [Dq] [G1] : EN := Zo (Kg.eq_1 _ _) Tryz.func10
theorem Sx [BV] [UJ] [EQ] : ER := Zo (YD.eq_1) Tryz.func14
end Go.Proofs.YtimfmcpbkdpmoaaGreat
