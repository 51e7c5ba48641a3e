/- Parts of the proof, laid together. No condition. -/
import Derived.Test.YtikagchjeogchaaGreatKB6
set_option linter.unusedVariables false
set_option linter.unusedSimpArgs false
set_option maxRecDepth 100000
set_option maxHeartbeats 4000000
namespace Go.Proofs.YtikagchjeogchaaGreat
open Go.RowKit
theorem Mx [ZO] [VM] [FZ] : Aw := Z8 (Ja.eq_1 _) Tryz.func102
theorem PZ [ZF] : D2 := Z8 (Vo.eq_1 _ _) Tryz.func158
theorem Sb [ZF] : E7 := Z8 (Xi.eq_1 _) Tryz.func161
theorem My [ZO] [ZG] [E8] : Ax := Z8 (Jb.eq_1 _ _) Tryz.func165
theorem Qbd [G0] [BW] : Lv := Z8 (UO.eq_1 _ _ _) Tryz.func74
theorem Q6s [F6] [E9] : EF := Z8 (YB.eq_1 _ _) Tryz.func34
theorem Q02 : Fa := Z8 (Kv.eq_1 _ _ _) Tryz.func94
theorem Q03 : BX := Z8 (VQ.eq_1 _ _) Tryz.func110
theorem Mz [U3] : Ay := Z8 (Jc.eq_1 _ _) Tryz.func240
theorem NO : Ky := rg0 (Zr.eq_1 _) Tryz.func243
theorem Q2h [Bc] : Gw := Z8 (YS.eq_1 _) Tryz.func196
theorem IP : Yj := Z8 (ZQ.eq_1 _) Tryz.func252
theorem OZ [ZL] [AY] [Wy] [Dt] : C8 := Z8 (V4.eq_1 _ _ _ _) Tryz.func176
theorem Q6t : Ca := Z8 (Xy.eq_1 _ _) Tryz.func248
theorem Sc [UW] : Eb := Z8 (Xn.eq_1 _ _) Tryz.func201
theorem Hj [ZB] [KQ] [G6] : Wc := Z8 (ZV.eq_1 _ _) Tryz.func207
theorem R0 [Wb] [U0] [UB] : D6 := Z8 (Vu.eq_1 _ _ _ _) Tryz.func86
theorem Q2i [UQ] [Fb] [HW] : DF := Z8 (XN.eq_1 _ _) Tryz.func20
theorem Q2j : DG := Z8 (XP.eq_1 _) Tryz.func92
theorem NP [A1] [Ch] [D9] : Yf := Z8 (ZN.eq_1 _) Tryz.func8
theorem R1 : Db := Z8 (VA.eq_1 _ _) Tryz.func27
end Go.Proofs.YtikagchjeogchaaGreat
