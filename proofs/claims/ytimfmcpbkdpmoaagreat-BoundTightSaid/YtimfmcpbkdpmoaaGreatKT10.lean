/- Parts of the proof, laid together. No condition. -/
import Derived.Test.YtimfmcpbkdpmoaaGreatKB6
set_option linter.unusedVariables false
set_option linter.unusedSimpArgs false
set_option maxRecDepth 100000
set_option maxHeartbeats 4000000
namespace Go.Proofs.YtimfmcpbkdpmoaaGreat
open Go.RowKit
theorem Q5w [YX] : He := Zo (Yf.eq_1 _) Tryz.func22
theorem Q1q [Hg] [Fs] [BW] : FM := Zo (Xp.eq_1 _) Tryz.func8
theorem HI [ZJ] : KP := Zo (Z2.eq_1 _) Tryz.func77
theorem HJ [ZJ] [Ji] : ZR := Zo (QR.eq_1 _) Tryz.func82
theorem Q1r [Uq] [AI] [Dm] [Ur] [BC] : FO := Zo (Xr.eq_1 _ _) Tryz.func83
theorem Ih [ZX] [VT] [E9] : Us := Zo (ZK.eq_1 _) Tryz.func41
theorem N7 [ZJ] : BE := Zo (Jl.eq_1 _ _) Tryz.func65
theorem O4 [A7] : UP := Zo (Vx.eq_1 _ _) Tryz.func114
theorem O5 [ZJ] [Ji] [CX] [Eb] : Cs := Zo (Xf.eq_1 _ _ _) Tryz.func117
theorem O6 : UQ := Zo (Vy.eq_1 _) Tryz.func124
theorem GO [AH] [Ji] : VC := Zo (ZZ.eq_1 _) Tryz.func95
theorem Rb [Wi] : AO := Zo (JA.eq_1 _ _ _) Tryz.func183
theorem Rc [X1] [AJ] : AS := Zo (VW.eq_1 _) Tryz.func189
theorem GP [Ki] [KW] [ZG] [XN] : Ww := Zo (KB.eq_1 _) Tryz.func195
theorem SN [Wj] : C2 := Zo (V3.eq_1 _ _) Tryz.func200
theorem Re [KQ] [Ji] [Yh] [CY] : AY := Zo (K8.eq_1 _ _) Tryz.func214
theorem Q1s : B2 := Zo (Vo.eq_1 _ _) Tryz.func236
theorem Rf : U4 := Zo (Vq.eq_1 _ _ _) Tryz.func210
theorem O7 [VD] [Ax] : We := Zo (JL.eq_1 _) Tryz.func160
theorem Q5x [VD] [VC] [WO] [YL] [AY] [Uw] [Wz] [We] [Hk] [Cz] : Eg := Zo (YT.eq_1 _ _) Tryz.func159
theorem GQ [UI] : WA := Zo (KH.eq_1 _ _ _) Tryz.func105
theorem Rh [Ea] [YI] [B4] [Yn] [FZ] [Vk] [U3] [DF] [Xg] [EM] [YK] [Eg] : DG := Zo (Vr.eq_1 _ _) Tryz.func109
theorem Q5y [Hm] : Ej := Zo (Jx.eq_1 _ _) Tryz.func30
theorem O8 [Hn] : CB := Zo (Vz.eq_1 _ _) Tryz.func31
end Go.Proofs.YtimfmcpbkdpmoaaGreat
