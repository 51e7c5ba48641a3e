/- Parts of the proof, laid together. No condition. -/
import Derived.Test.YtikagchjeogchaaGreatKB6
set_option linter.unusedVariables false
set_option linter.unusedSimpArgs false
set_option maxRecDepth 100000
set_option maxHeartbeats 4000000
namespace Go.Proofs.YtikagchjeogchaaGreat
open Go.RowKit
theorem Q2r : AN := Z8 (VG.eq_1 _) Tryz.func31
theorem Q2s : ZF := Z8 (Qz.eq_1 _ _ _) Tryz.func217
theorem MD [WZ] : Au := Z8 (KZ.eq_1 _ _) Tryz.func220
theorem Q6x [Au] [BV] [F7] [Av] [CY] : HD := Z8 (Wu.eq_1 _ _) Tryz.func151
theorem R5 [KP] [HE] [HD] [Kt] [ZB] [ZO] [Ku] [ZC] [ZL] : Vm := Z8 (ZJ.eq_1 _) Tryz.func99
theorem Qbj [VM] : E0 := Z8 (Yy.eq_1 _) Tryz.func155
theorem Q6y [VM] [E6] : Ai := Z8 (VI.eq_1 _ _) Tryz.func106
theorem Qfu [F8] : Bc := Z8 (Vp.eq_1 _ _ _) Tryz.func227
theorem Q6z : ED := Z8 (Jt.eq_1 _ _) Tryz.func231
theorem Qbk [AO] : BI := Z8 (VR.eq_1 _ _) Tryz.func52
theorem Q70 [U4] : HI := Z8 (WB.eq_1 _ _) Tryz.func241
theorem ME [ZZ] [WC] [Ky] [ZO] : Az := Z8 (Jd.eq_1 _) Tryz.func187
theorem P1 [Xl] : UA := Z8 (Jg.eq_1 _ _ _) Tryz.func114
theorem Q2t : Gy := Z8 (YU.eq_1 _) Tryz.func116
theorem Q71 [Ai] : HK := Z8 (WF.eq_1 _) Tryz.func121
theorem Q72 : HN := Z8 (WH.eq_1 _) Tryz.func128
theorem Q0d [C0] [Uj] [UW] [Ec] : Fo := Z8 (Y8.eq_1 _ _ _) Tryz.func132
theorem Qbl : G8 := Z8 (Wq.eq_1 _ _) Tryz.func251
theorem Q73 [Yo] [Bn] [Ft] : HR := Z8 (WL.eq_1 _ _) Tryz.func138
theorem Q2u : GG := Z8 (W1.eq_1 _) Tryz.func142
theorem P3 [Am] [D7] [Wd] [Ce] [Cf] [Xs] [D8] : Cg := Z8 (V7.eq_1 _ _) Tryz.func39
theorem R6 [Fy] : Da := Z8 (Vy.eq_1 _) Tryz.func9
end Go.Proofs.YtikagchjeogchaaGreat
