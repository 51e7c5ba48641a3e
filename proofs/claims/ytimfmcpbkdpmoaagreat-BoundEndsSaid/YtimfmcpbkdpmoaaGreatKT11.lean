/- Parts of the proof, laid together. No condition. -/
import Derived.Test.YtimfmcpbkdpmoaaGreatKB6
set_option linter.unusedVariables false
set_option linter.unusedSimpArgs false
set_option maxRecDepth 100000
set_option maxHeartbeats 4000000
namespace Go.Proofs.YtimfmcpbkdpmoaaGreat
open Go.RowKit
theorem GJ [AR] : YU := Zb (ZT.eq_1 _) Tryz.func47
theorem Q71 [HE] [Ux] : HG := Zb (U1.eq_1 _) Tryz.func7
theorem Qav : DD := Zb (Ye.eq_1 _) Tryz.func52
theorem I7 [Zu] : Kh := Zb (Z9.eq_1 _) Tryz.func77
theorem I8 [Zu] [KB] : ZE := Zb (QY.eq_1 _) Tryz.func82
theorem Q2z [Uy] [AT] [DF] [Uz] [BI] : G8 := Zb (YX.eq_1 _ _) Tryz.func83
theorem Q72 [Vo] : Cn := Zb (Y2.eq_1 _) Tryz.func87
theorem LY [Zu] : Af := Zb (Jl.eq_1 _ _ _) Tryz.func64
theorem Qaw [DG] : Ah := Zb (Vb.eq_1 _ _ _) Tryz.func116
theorem Hj [Zq] [Zv] [Ey] [Ah] : Wy := Zb (K5.eq_1 _ _) Tryz.func72
theorem Ts : EY := Zb (Yi.eq_1 _) Tryz.func125
theorem RJ : DJ := Zb (JL.eq_1 _ _ _) Tryz.func134
theorem RN [AJ] [W3] : DK := fh0 (Xt.eq_1 _ _ _) Tryz.func28
theorem Q30 [XQ] [XR] [B2] [Gd] : B4 := Zb (VY.eq_1 _ _ _) Tryz.func145
theorem MQ [VE] : B7 := Zb (JO.eq_1 _) Tryz.func243
theorem MR [JQ] : Y7 := Zb (Ke.eq_1 _ _ _) Tryz.func151
theorem MS [Kh] [UY] : B8 := Zb (JR.eq_1 _ _) Tryz.func177
theorem RO [B5] : DT := Zb (Xz.eq_1 _) Tryz.func148
theorem RQ : Bf := Zb (VA.eq_1 _ _) Tryz.func205
theorem Tt [F6] : F7 := Zb (Yr.eq_1 _) Tryz.func157
theorem Q73 [ZE] [KB] [EA] : HK := Zb (Ud.eq_1 _ _) Tryz.func217
theorem Q74 [V8] [V6] [WT] [YH] [B9] [UE] [WF] [Wm] [HK] [CG] : EB := Zb (YS.eq_1 _ _) Tryz.func159
theorem RR [Ja] [KZ] [Bc] [De] [C9] : DY := Zb (XE.eq_1 _ _ _ _) Tryz.func221
theorem OE : A1 := Zb (Jg.eq_1 _ _) Tryz.func60
theorem RU [A1] : E2 := Zb (ZN.eq_1 _ _) Tryz.func32
theorem Tu : Fe := Zb (Yv.eq_1 _) Tryz.func13
end Go.Proofs.YtimfmcpbkdpmoaaGreat
