/- Parts of the proof, laid together. No condition. -/
import Derived.Test.YtikagchjeogchaaGreatKB6
set_option linter.unusedVariables false
set_option linter.unusedSimpArgs false
set_option maxRecDepth 100000
set_option maxHeartbeats 4000000
namespace Go.Proofs.YtikagchjeogchaaGreat
open Go.RowKit
theorem Ip [BS] : Wt := Z8 (K2.eq_1 _) Tryz.func44
theorem O2 [ZF] [KQ] [Yx] [Dr] : Ku := Z8 (Zl.eq_1 _) Tryz.func148
theorem O3 : XY := Z8 (Zy.eq_1 _ _) Tryz.func144
theorem Sr : E6 := Z8 (Xh.eq_1 _) Tryz.func156
theorem O4 [ZF] : Ba := Z8 (Jz.eq_1 _ _ _) Tryz.func157
theorem Q3c [ZF] : Gr := Z8 (YN.eq_1 _) Tryz.func159
theorem Lb [ZC] [ZG] [Wy] [Yx] [ED] [EE] : Uf := Z8 (Kg.eq_1 _ _) Tryz.func167
theorem Q3d : Gu := Z8 (YQ.eq_1 _) Tryz.func258
theorem M0 [Ak] : UQ := Z8 (Kw.eq_1 _ _ _ _) Tryz.func35
theorem Q0v : C0 := Z8 (VT.eq_1 _ _) Tryz.func202
theorem M1 [Xd] : ZZ := rg0 (Qk.eq_1 _ _) Tryz.func242
theorem Q0w [C3] [Xd] [Bi] [Ug] [Az] [D4] [Uh] [Bj] : UR := Z8 (V1.eq_1 _) Tryz.func125
theorem Q7j [U4] : HJ := Z8 (WE.eq_1 _ _) Tryz.func237
theorem M2 [ZC] [Wy] [BG] [EE] [Yx] [ED] : UU := Z8 (KB.eq_1 _ _) Tryz.func175
theorem H3 [U3] [Jl] : Jn := Z8 (Zm.eq_1 _) Tryz.func247
theorem Q0x : UW := Z8 (V5.eq_1 _ _ _) Tryz.func204
theorem Pe : UB := Z8 (Jh.eq_1 _) Tryz.func137
theorem O5 [Wa] [Wb] [U0] [E2] : Bm := Z8 (JG.eq_1 _ _ _ _ _) Tryz.func85
theorem Q7k [HU] [Wz] : HW := fh0 (WN.eq_1 _ _ _) Tryz.func37
theorem Hm [Eg] : Wd := Z8 (ZW.eq_1 _) Tryz.func57
theorem Ri [WO] : D9 := Z8 (Vx.eq_1 _) Tryz.func25
theorem Q7l : HY := Z8 (WQ.eq_1 _ _) Tryz.func13
end Go.Proofs.YtikagchjeogchaaGreat
