/- Parts of the proof, laid together. No condition. -/
import Derived.Test.YtimfmcpbkdpmoaaGreatKB6
set_option linter.unusedVariables false
set_option linter.unusedSimpArgs false
set_option maxRecDepth 100000
set_option maxHeartbeats 4000000
namespace Go.Proofs.YtimfmcpbkdpmoaaGreat
open Go.RowKit
theorem SY : UQ := Zb (Vk.eq_1 _) Tryz.func18
theorem Q2h [DD] : D5 := Zb (VW.eq_1 _) Tryz.func48
theorem Q2i : KB := Zb (ZD.eq_1 _) Tryz.func113
theorem ML [UX] : AT := Zb (JI.eq_1 _ _) Tryz.func129
theorem Q6p : Vo := Zb (QV.eq_1 _) Tryz.func46
theorem LM [ZE] [Vo] [U3] [Cn] : Ae := Zb (Jk.eq_1 _) Tryz.func44
theorem LN [Zu] : Ag := Zb (Jm.eq_1 _) Tryz.func67
theorem Qar : DI := Zb (W0.eq_1 _) Tryz.func223
theorem Qas [Ah] : W1 := Zb (QX.eq_1 _ _) Tryz.func118
theorem Rk [V8] [Zv] [Ut] [Ai] [Wy] [UB] [BL] [Wz] [Al] : AU := Zb (Vq.eq_1 _ _ _ _) Tryz.func37
theorem Ha [AS] [KB] : V6 := Zb (ZI.eq_1 _) Tryz.func95
theorem Rl [Wo] : AZ := Zb (Vu.eq_1 _ _ _) Tryz.func183
theorem Rm [VE] [Us] : B5 := Zb (Vx.eq_1 _) Tryz.func189
theorem Hb [ZR] [Km] [Zr] [Xu] : WB := Zb (K8.eq_1 _) Tryz.func195
theorem SZ [Wp] : C7 := Zb (Xh.eq_1 _ _) Tryz.func200
theorem Rn [Ki] [KB] [Y1] [D8] : B9 := Zb (ZL.eq_1 _ _) Tryz.func214
theorem Q2j : Bc := Zb (VZ.eq_1 _ _) Tryz.func236
theorem Ro : Uc := Zb (JU.eq_1 _ _ _) Tryz.func210
theorem Ot [V8] [AH] : Wm := Zb (Jf.eq_1 _) Tryz.func160
theorem Hc [UR] : WG := Zb (Kc.eq_1 _ _ _) Tryz.func105
theorem Rp [Ew] [YE] [Be] [Y7] [Gn] [JQ] [Ub] [DZ] [VN] [F9] [YG] [EB] : E0 := Zb (XG.eq_1 _ _) Tryz.func109
theorem Q2k [F3] [DO] [DR] [DU] [Gj] [CF] [HL] [Ub] [WG] [Ap] [BP] [UF] [E0] : Gp := fp0 (We.eq_1 _ _) Tryz.func57
end Go.Proofs.YtimfmcpbkdpmoaaGreat
