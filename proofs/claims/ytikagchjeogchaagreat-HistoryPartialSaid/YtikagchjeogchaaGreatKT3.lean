/- Parts of the proof, laid together. No condition. -/
import Derived.Test.YtikagchjeogchaaGreatKB6
set_option linter.unusedVariables false
set_option linter.unusedSimpArgs false
set_option maxRecDepth 100000
set_option maxHeartbeats 4000000
namespace Go.Proofs.YtikagchjeogchaaGreat
open Go.RowKit
theorem R2 : CY := Z8 (Vl.eq_1 _ _) Tryz.func224
theorem Qbe : UN := Z8 (VN.eq_1 _) Tryz.func153
theorem Qbf : FZ := Z8 (Wm.eq_1 _) Tryz.func154
theorem Qbg [KP] [Ba] [D2] [Gr] [Bb] [E7] : G0 := Z8 (Wn.eq_1 _) Tryz.func108
theorem Qfs : Nl := Z8 (Bg.eq_1 _ _) Tryz.func259
theorem Q2k [CX] [Pw] [EF] : Du := Z8 (XH.eq_1 _ _ _) Tryz.func19
theorem Qft : HG := Z8 (K3.eq_1 _ _) Tryz.func93
theorem Q2l [UP] [ZG] [Jl] : Dv := Z8 (JM.eq_1 _ _ _) Tryz.func66
theorem IQ [BU] [KQ] : Vj := Z8 (Zh.eq_1 _) Tryz.func68
theorem Q2m : U3 := Z8 (Jm.eq_1 _ _ _) Tryz.func239
theorem P0 : Xd := Z8 (ZX.eq_1 _) Tryz.func184
theorem IR [ZZ] [Ky] [ZC] [Y1] : Uh := Z8 (Ki.eq_1 _) Tryz.func189
theorem Q2n [U4] : Dy := Z8 (XK.eq_1 _ _) Tryz.func194
theorem Q04 [Ku] [KQ] [Yx] [EC] : C7 := Z8 (ZU.eq_1 _ _) Tryz.func208
theorem Q05 [C3] : Fj := Z8 (Y6.eq_1 _) Tryz.func124
theorem Q2o : DD := Z8 (JO.eq_1 _) Tryz.func200
theorem Q06 [Xl] [C2] [UR] : Wb := Z8 (Jo.eq_1 _ _ _) Tryz.func134
theorem Qbh [Wa] [Wb] [G9] : Ly := Z8 (UY.eq_1 _ _ _ _ _) Tryz.func83
theorem Q07 [G0] [W9] [Cb] [YF] [HR] [V2] [UV] [Fv] [Xl] [GD] [Wb] [G9] : Fw := Z8 (Yd.eq_1 _ _) Tryz.func88
theorem R3 [Xs] [Am] : D7 := Z8 (Vv.eq_1 _) Tryz.func56
theorem LU : A4 := Z8 (KE.eq_1 _) Tryz.func62
theorem H2 [Cd] [Yf] [Da] [U6] : AP := Z8 (Kb.eq_1 _ _ _) Tryz.func3
end Go.Proofs.YtikagchjeogchaaGreat
