/- Parts of the proof, laid together. No condition. -/
import Derived.Test.YtikagchjeogchaaGreatKB6
set_option linter.unusedVariables false
set_option linter.unusedSimpArgs false
set_option maxRecDepth 100000
set_option maxHeartbeats 4000000
namespace Go.Proofs.YtikagchjeogchaaGreat
open Go.RowKit
theorem Q0e : BU := Z8 (Zn.eq_1 _ _ _) Tryz.func96
theorem Qbm : VM := Z8 (QW.eq_1 _) Tryz.func107
theorem NS [Kt] [VM] [UN] : B8 := Z8 (Jx.eq_1 _) Tryz.func100
theorem Q0f : F8 := Z8 (JW.eq_1 _) Tryz.func255
theorem Qfv : F9 := Z8 (Wx.eq_1 _) Tryz.func264
theorem Q74 [F9] : EB := Z8 (Yz.eq_1 _) Tryz.func257
theorem Qbn [Dr] : BG := Z8 (Kc.eq_1 _) Tryz.func213
theorem Qfw [Bc] : Wy := Z8 (QZ.eq_1 _ _) Tryz.func229
theorem Q75 : EC := Z8 (Xw.eq_1 _) Tryz.func230
theorem R7 [Ku] [ZG] [Wy] [Yx] [BG] [EC] : D3 := Z8 (Vq.eq_1 _ _) Tryz.func166
theorem LV : YD := Z8 (ZY.eq_1 _) Tryz.func169
theorem Si [BZ] [C0] [Ay] : Yo := Z8 (KM.eq_1 _ _ _) Tryz.func179
theorem NT [ZZ] [Ky] [Kt] : Bi := Z8 (JD.eq_1 _) Tryz.func185
theorem Q0g [YD] : Fc := Z8 (Y2.eq_1 _ _) Tryz.func197
theorem IV [Yj] : Ui := Z8 (Kj.eq_1 _ _) Tryz.func238
theorem Q2v [Vm] [Aj] [C6] [UT] [Bl] [Ea] [UU] [C8] : Gz := Z8 (YV.eq_1 _ _ _ _) Tryz.func117
theorem Q2w : DC := Z8 (XM.eq_1 _ _) Tryz.func249
theorem Q76 [D5] [DD] [Eb] [Cc] : HP := Z8 (WJ.eq_1 _ _ _) Tryz.func130
theorem MF [ZC] [KQ] [Yx] : AA := Z8 (Je.eq_1 _ _) Tryz.func209
theorem MG [AO] : AB := Z8 (Jf.eq_1 _ _ _) Tryz.func87
theorem Q2x [EF] : GE := fh0 (W0.eq_1 _ _) Tryz.func22
theorem LW [DG] : UZ := Z8 (KC.eq_1 _) Tryz.func91
theorem NU [WZ] [XY] : Bo := Z8 (JI.eq_1 _ _) Tryz.func98
theorem R8 [Db] : Dc := Z8 (VB.eq_1 _ _) Tryz.func15
end Go.Proofs.YtikagchjeogchaaGreat
