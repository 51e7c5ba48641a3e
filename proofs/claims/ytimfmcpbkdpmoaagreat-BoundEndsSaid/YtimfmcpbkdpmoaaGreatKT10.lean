/- Parts of the proof, laid together. No condition. -/
import Derived.Test.YtimfmcpbkdpmoaaGreatKB6
set_option linter.unusedVariables false
set_option linter.unusedSimpArgs false
set_option maxRecDepth 100000
set_option maxHeartbeats 4000000
namespace Go.Proofs.YtimfmcpbkdpmoaaGreat
open Go.RowKit
theorem RD : AR := Zb (ZC.eq_1 _ _ _) Tryz.func89
theorem IK : Ux := Zb (KL.eq_1 _) Tryz.func23
theorem Q2x [Eu] [BH] [UQ] : G7 := Zb (YV.eq_1 _) Tryz.func8
theorem Tn : Zu := Zb (Qz.eq_1 _ _ _) Tryz.func112
theorem FU [Zu] [KB] : Zr := Zb (QR.eq_1 _) Tryz.func81
theorem NI : BI := Zb (V7.eq_1 _ _) Tryz.func132
theorem IL [ZG] [Vo] [Ev] : UA := Zb (KO.eq_1 _) Tryz.func41
theorem Tp [YE] [Ga] : EV := Zb (Yf.eq_1 _) Tryz.func50
theorem RE : DG := Zb (JJ.eq_1 _) Tryz.func168
theorem Q6z [EX] : Ey := Zb (Y4.eq_1 _ _ _) Tryz.func115
theorem OC : UZ := Zb (V2.eq_1 _) Tryz.func124
theorem Qau : Gc := Zb (ZU.eq_1 _ _) Tryz.func133
theorem LX : W3 := Zb (Kl.eq_1 _ _) Tryz.func56
theorem RF [Ge] : B2 := Zb (Vw.eq_1 _ _) Tryz.func187
theorem IM [ZR] [W6] [Km] [ZG] : UD := Zb (KR.eq_1 _) Tryz.func193
theorem MP [VN] : WS := Zb (KV.eq_1 _ _ _) Tryz.func139
theorem Tq : F4 := Zb (Yo.eq_1 _) Tryz.func141
theorem RG [C5] [JQ] [AJ] [F4] [F5] [WS] [Ez] [Wq] : DO := Zb (Xx.eq_1 _ _ _ _) Tryz.func98
theorem RH [YF] [JQ] [B4] [Gg] [C8] [VN] : DR := Zb (Xy.eq_1 _ _ _ _ _) Tryz.func99
theorem RI : Ub := Zb (Zj.eq_1 _ _) Tryz.func103
theorem Tr [Uc] : F6 := Zb (Yq.eq_1 _ _) Tryz.func212
theorem Q70 : EA := Zb (YR.eq_1 _ _) Tryz.func239
theorem Q2y [XR] [Aq] [DX] : Gn := Zb (Wd.eq_1 _ _) Tryz.func162
theorem OD : CI := Zb (V3.eq_1 _) Tryz.func11
end Go.Proofs.YtimfmcpbkdpmoaaGreat
