/- Parts of the proof, laid together. No condition. -/
import Derived.Test.YtimfmcpbkdpmoaaGreatKB6
set_option linter.unusedVariables false
set_option linter.unusedSimpArgs false
set_option maxRecDepth 100000
set_option maxHeartbeats 4000000
namespace Go.Proofs.YtimfmcpbkdpmoaaGreat
open Go.RowKit
theorem Q6t [DD] : HH := Zb (U2.eq_1 _) Tryz.func35
theorem FT [Zu] : Zq := Zb (QQ.eq_1 _) Tryz.func78
theorem Ov : UX := Zb (V0.eq_1 _ _) Tryz.func173
theorem Q2s : G9 := Zb (YY.eq_1 _) Tryz.func84
theorem NF [Ki] [Vo] [U3] [Cn] : BJ := Zb (V9.eq_1 _) Tryz.func42
theorem NG [Zu] : BK := Zb (Va.eq_1 _ _) Tryz.func65
theorem Ow [Ah] : UY := Zb (V1.eq_1 _ _) Tryz.func114
theorem Ox [Zu] [KB] [D7] [Ex] : Cy := Zb (VL.eq_1 _ _ _) Tryz.func117
theorem Ta : EZ := Zb (Yj.eq_1 _) Tryz.func171
theorem Qez [BH] [Eu] [UQ] [D5] [D4] [D6] [F0] [EV] : Ne := Zb (AI.eq_1 _ _) Tryz.func25
theorem Tc [DJ] : KZ := Zb (Zw.eq_1 _) Tryz.func93
theorem Oy [AR] [AX] : XQ := Zb (Kv.eq_1 _ _) Tryz.func184
theorem Oz [XQ] [XR] : VN := Zb (ZW.eq_1 _ _ _) Tryz.func147
theorem LV [B7] : Xu := rg0 (ZV.eq_1 _) Tryz.func233
theorem Td : C6 := Zb (Xg.eq_1 _ _) Tryz.func197
theorem I6 [Zq] [Ah] : U9 := Zb (Ko.eq_1 _ _) Tryz.func178
theorem Q2t [Wo] : Dd := Zb (Y9.eq_1 _ _) Tryz.func198
theorem Te : Ca := Zb (JA.eq_1 _) Tryz.func206
theorem OA [Gl] [Gk] [F7] [Ub] [DV] : CF := Zb (VR.eq_1 _ _) Tryz.func102
theorem OB [ZE] [Zu] [Bb] [EA] : CG := Zb (VS.eq_1 _ _ _) Tryz.func218
theorem Rv [KZ] [Wq] [DY] : DZ := Zb (XF.eq_1 _ _ _) Tryz.func163
theorem Tf [Fb] [A1] : Fc := Zb (Xl.eq_1 _ _) Tryz.func33
theorem Q6u [HM] : EE := Zb (KX.eq_1 _ _) Tryz.func30
theorem Tg [C1] [US] [Ff] : Fi := Zb (Yx.eq_1) Tryz.func14
end Go.Proofs.YtimfmcpbkdpmoaaGreat
