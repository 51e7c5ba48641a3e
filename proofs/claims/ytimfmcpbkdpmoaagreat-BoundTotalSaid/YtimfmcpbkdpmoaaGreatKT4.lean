/- Parts of the proof, laid together. No condition. -/
import Derived.Test.YtimfmcpbkdpmoaaGreatKB6
set_option linter.unusedVariables false
set_option linter.unusedSimpArgs false
set_option maxRecDepth 100000
set_option maxHeartbeats 4000000
namespace Go.Proofs.YtimfmcpbkdpmoaaGreat
open Go.RowKit
theorem Ir [Zx] [KJ] : ZG := Zd (Z0.eq_1 _) Tryz.func82
theorem Q3e : Gv := Zd (W4.eq_1 _) Tryz.func84
theorem NT [Kn] [Vx] [Ua] [CG] : BS := Zd (Vf.eq_1 _) Tryz.func42
theorem NU [Zx] : BU := Zd (Vg.eq_1 _ _) Tryz.func65
theorem OP [Al] : A6 := Zd (V7.eq_1 _ _) Tryz.func114
theorem Qbu [Al] : W7 := Zd (QZ.eq_1 _ _) Tryz.func118
theorem Tu [Fe] [W7] [LE] : Ce := Zd (Xj.eq_1 _ _ _ _ _) Tryz.func126
theorem Hr [B2] [KJ] : Vb := Zd (ZK.eq_1 _) Tryz.func95
theorem RR [Wu] : B8 := Zd (VC.eq_1 _ _ _) Tryz.func183
theorem RU [VN] [Uy] : Bc := Zd (VF.eq_1 _) Tryz.func189
theorem Hs [ZW] [Ks] [Zu] [XE] : WI := Zd (Kd.eq_1 _) Tryz.func195
theorem Q3f [Wv] : GB := Zd (Wd.eq_1 _ _) Tryz.func225
theorem Is [Zu] [W7] [AM] [Dp] [Yb] [Do] : Uh := Zd (Kv.eq_1 _ _) Tryz.func181
theorem Tv [Ve] [Uz] [Bg] [Ug] [As] [CY] [Uh] [Bj] : Fs := Zd (YA.eq_1 _ _ _ _) Tryz.func142
theorem Tw : Ck := Zd (Xt.eq_1 _ _) Tryz.func237
theorem OQ [Uj] : CZ := Zd (VX.eq_1 _ _) Tryz.func207
theorem N6 : WZ := Zd (J0.eq_1 _) Tryz.func161
theorem M3 [YL] [YM] [Ws] [CI] : Au := Zd (Jy.eq_1 _ _ _ _ _) Tryz.func106
theorem Tx [Ud] [E3] [GK] : Fx := Zd (Xu.eq_1 _ _) Tryz.func10
theorem Ty : FA := Zd (YG.eq_1 _) Tryz.func13
end Go.Proofs.YtimfmcpbkdpmoaaGreat
