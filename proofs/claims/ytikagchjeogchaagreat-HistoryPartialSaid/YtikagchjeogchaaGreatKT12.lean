/- Parts of the proof, laid together. No condition. -/
import Derived.Test.YtikagchjeogchaaGreatKB6
set_option linter.unusedVariables false
set_option linter.unusedSimpArgs false
set_option maxRecDepth 100000
set_option maxHeartbeats 4000000
namespace Go.Proofs.YtikagchjeogchaaGreat
open Go.RowKit
theorem MJ : As := Z8 (KY.eq_1 _) Tryz.func29
theorem Iq [BU] : KP := Z8 (Z7.eq_1 _) Tryz.func67
theorem M5 [ZF] : Kt := Z8 (Zd.eq_1 _) Tryz.func145
theorem M6 [ZF] [KQ] : ZL := Z8 (Z2.eq_1 _) Tryz.func150
theorem MK [XY] : Av := Z8 (J0.eq_1 _ _) Tryz.func223
theorem Q3e [W9] [HF] : Gq := Z8 (YM.eq_1 _) Tryz.func48
theorem O6 [Kt] [ZG] [AX] : Be := Z8 (JB.eq_1 _ _) Tryz.func163
theorem Qky [CX] [FY] [AN] [Ey] [Ez] [EA] [Gv] [Gq] : Pw := Z8 (BH.eq_1 _ _) Tryz.func33
theorem Q0y : UP := Z8 (Zg.eq_1 _ _ _) Tryz.func63
theorem Ss [BS] [BX] : Yn := Z8 (KL.eq_1 _ _) Tryz.func178
theorem Su [Yn] [Yo] : Xl := Z8 (K7.eq_1 _ _ _) Tryz.func123
theorem Rj [ZZ] [Ky] [Ku] [Y1] : D4 := Z8 (Vs.eq_1 _) Tryz.func188
theorem Q7m : EH := Z8 (YG.eq_1 _) Tryz.func193
theorem O7 [ZO] : Bl := Z8 (JF.eq_1 _ _) Tryz.func173
theorem Q0z [Wa] [V2] [C2] [HK] [Dz] [Xl] : Fi := Z8 (Y5.eq_1 _ _ _ _ _) Tryz.func78
theorem Q10 : Cc := Z8 (VY.eq_1 _ _) Tryz.func199
theorem Sv [HQ] [HP] [GB] [UV] [Fo] : Ed := Z8 (Xp.eq_1 _ _) Tryz.func81
theorem Qbw [Vm] [Vj] [UB] [Wc] [C7] [AA] [Uk] [U0] [Lx] [Ee] : G9 := Z8 (Wr.eq_1 _ _) Tryz.func135
theorem Q3f [Yn] [EI] : GD := Z8 (YZ.eq_1 _ _) Tryz.func140
theorem ML : Xs := Z8 (Z0.eq_1 _ _ _) Tryz.func60
theorem Pf : Ch := Z8 (V8.eq_1 _) Tryz.func24
theorem Q3g [U1] [Vz] [Yh] [Yf] : U6 := Z8 (Jq.eq_1) Tryz.func10
end Go.Proofs.YtikagchjeogchaaGreat
