/- Parts of the proof, laid together. No condition. -/
import Derived.Test.YtimfmcpbkdpmoaaGreatKB6
set_option linter.unusedVariables false
set_option linter.unusedSimpArgs false
set_option maxRecDepth 100000
set_option maxHeartbeats 4000000
namespace Go.Proofs.YtimfmcpbkdpmoaaGreat
open Go.RowKit
theorem M2 [Km] [Zy] [A6] : Am := Zd (Jt.eq_1 _ _) Tryz.func71
theorem Q3b : Dn := Zd (Xc.eq_1 _) Tryz.func120
theorem RO [Ve] [Zy] [Uz] [Am] [WF] [UI] [BV] [WG] [Ap] : B5 := Zd (Vz.eq_1 _ _ _ _) Tryz.func37
theorem Ip [BW] : Ud := Zd (Kq.eq_1 _ _ _ _) Tryz.func27
theorem RQ : B9 := Zd (VD.eq_1 _ _) Tryz.func208
theorem Iq [VN] : ZW := rg0 (Qk.eq_1 _ _) Tryz.func230
theorem Tr [Al] : Fj := Zd (Yx.eq_1 _) Tryz.func202
theorem Hq : XV := Zd (ZL.eq_1 _) Tryz.func240
theorem ON [Kn] [W7] [AM] [Yb] [Bh] : CY := Zd (VW.eq_1 _ _) Tryz.func180
theorem Ts [B8] : Ww := Zd (KC.eq_1 _ _) Tryz.func143
theorem Q3c [Je] [Jc] [Bm] [Ck] : GD := Zd (Yk.eq_1 _ _ _ _) Tryz.func201
theorem Q3d [BY] [Cl] [CZ] [Bo] : GG := Zd (Wi.eq_1 _ _ _) Tryz.func154
theorem G9 [Zt] [KJ] [EO] : YN := Zd (ZP.eq_1 _ _) Tryz.func213
theorem NS [YM] [Ws] [WZ] : BZ := Zd (Vl.eq_1 _ _ _ _) Tryz.func107
theorem OO : D4 := Zd (Jk.eq_1 _) Tryz.func11
theorem Tt [Cm] [EU] : Co := Zd (JI.eq_1 _ _ _) Tryz.func15
end Go.Proofs.YtimfmcpbkdpmoaaGreat
