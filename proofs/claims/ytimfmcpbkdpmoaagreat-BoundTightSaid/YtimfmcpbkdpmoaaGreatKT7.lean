/- Parts of the proof, laid together. No condition. -/
import Derived.Test.YtimfmcpbkdpmoaaGreatKB6
set_option linter.unusedVariables false
set_option linter.unusedSimpArgs false
set_option maxRecDepth 100000
set_option maxHeartbeats 4000000
namespace Go.Proofs.YtimfmcpbkdpmoaaGreat
open Go.RowKit
theorem Sy : BV := Zo (V0.eq_1 _) Tryz.func6
theorem Sz : BW := Zo (Jc.eq_1 _) Tryz.func18
theorem PX : AH := Zo (Zn.eq_1 _ _ _) Tryz.func111
theorem SA : BX := Zo (XB.eq_1 _ _) Tryz.func127
theorem PY [YZ] : Dm := Zo (Vb.eq_1 _ _) Tryz.func130
theorem Lr [KP] [VT] [WV] : A1 := Zo (Kk.eq_1 _) Tryz.func39
theorem Q1k [VT] [Cp] : AJ := Zo (JI.eq_1 _ _) Tryz.func45
theorem N3 : Ul := Zo (JZ.eq_1 _) Tryz.func70
theorem SB [ZJ] [Ji] [IP] [CX] [Eb] : EC := Zo (Ys.eq_1 _ _ _ _) Tryz.func167
theorem Q1l : CZ := Zo (JK.eq_1 _ _) Tryz.func122
theorem Ls [ZR] [ZL] [UQ] [W1] [ED] [BY] : Ab := Zo (JR.eq_1 _ _ _ _) Tryz.func76
theorem PZ : Dp := Zo (KT.eq_1 _ _ _) Tryz.func134
theorem R0 [Ay] [W2] : Dq := fh0 (WY.eq_1 _ _ _) Tryz.func28
theorem Q1m [Y5] [Y6] [AQ] [FR] : AR := Zo (Vf.eq_1 _ _ _) Tryz.func145
theorem Mp [X1] : AU := Zo (Vh.eq_1 _) Tryz.func243
theorem Mq [Vk] : Yn := Zo (ZS.eq_1 _ _ _) Tryz.func151
theorem Mr [KP] [UP] : AX := Zo (Vl.eq_1 _ _) Tryz.func177
theorem R1 [AS] : Dw := Zo (XQ.eq_1 _) Tryz.func148
theorem R2 : B5 := Zo (VY.eq_1 _ _) Tryz.func205
theorem SC [EJ] : EK := Zo (Yy.eq_1 _) Tryz.func157
theorem Q5q [ZR] [Ji] [Ee] : Hk := Zo (U5.eq_1 _ _) Tryz.func217
theorem R3 [JD] [Jy] [B2] [D6] [C4] : DD := Zo (XV.eq_1 _ _ _ _) Tryz.func221
theorem SD [EO] [UR] : EP := Zo (XE.eq_1 _ _) Tryz.func33
end Go.Proofs.YtimfmcpbkdpmoaaGreat
