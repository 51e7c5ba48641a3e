/- Parts of the proof, laid together. No condition. -/
import Derived.Test.YtimfmcpbkdpmoaaGreatKB6
set_option linter.unusedVariables false
set_option linter.unusedSimpArgs false
set_option maxRecDepth 100000
set_option maxHeartbeats 4000000
namespace Go.Proofs.YtimfmcpbkdpmoaaGreat
open Go.RowKit
theorem TY : Cc := Zd (JE.eq_1 _) Tryz.func6
theorem Sn : B0 := Zd (ZE.eq_1 _ _ _) Tryz.func89
theorem Q88 [W0] : HZ := Zd (U7.eq_1 _) Tryz.func22
theorem Q43 [EK] [BQ] [UW] : Gt := Zd (W1.eq_1 _) Tryz.func8
theorem H5 [B2] : KI := Zd (Zm.eq_1 _) Tryz.func63
theorem Mi [Zx] [KJ] [Yb] [Cd] : Kn := Zd (Ze.eq_1 _) Tryz.func80
theorem O1 : BR := Zd (Vd.eq_1 _ _) Tryz.func132
theorem L5 [ZI] [Vx] [EL] : UH := Zd (KT.eq_1 _) Tryz.func41
theorem TZ [YK] [Gw] : F9 := Zd (Yq.eq_1 _) Tryz.func50
theorem Sp : DY := Zd (JP.eq_1 _) Tryz.func168
theorem P1 [Zx] [KJ] [Dm] [EN] : CW := Zd (VT.eq_1 _ _ _) Tryz.func117
theorem Q00 : Fe := Zd (Yu.eq_1 _) Tryz.func171
theorem Q01 [E2] : Jc := Zd (Zz.eq_1 _) Tryz.func93
theorem P3 [B0] [B6] : Y0 := Zd (KA.eq_1 _ _) Tryz.func184
theorem P4 [Y0] [Y1] : VV := Zd (K3.eq_1 _ _ _) Tryz.func147
theorem Mj [Bf] : XE := rg0 (K1.eq_1 _) Tryz.func233
theorem Q02 [Wv] : Ci := Zd (Xo.eq_1 _ _) Tryz.func200
theorem Mk [ZI] : As := Zd (Jx.eq_1 _ _) Tryz.func179
theorem FU [Wu] [Jc] : Je := Zd (Zh.eq_1 _) Tryz.func235
theorem O2 [Cl] [Bo] : BY := Zd (Vk.eq_1 _) Tryz.func204
theorem Sq [VV] [Bb] [Ue] : YM := Zd (Jf.eq_1 _ _ _) Tryz.func158
theorem Q89 [YL] [YM] [ER] : I7 := Zd (Ul.eq_1 _ _ _ _ _) Tryz.func104
theorem Q03 [Y0] [Dt] : Fw := Zd (YE.eq_1 _ _) Tryz.func164
theorem Sr [EM] [YK] [Bn] [Yh] [GI] [JX] [Ui] [Ee] [VV] [Fw] [YM] [ER] : Eg := Zd (XQ.eq_1 _ _) Tryz.func109
theorem P5 [I9] : D5 := Zd (V9.eq_1 _ _) Tryz.func31
end Go.Proofs.YtimfmcpbkdpmoaaGreat
