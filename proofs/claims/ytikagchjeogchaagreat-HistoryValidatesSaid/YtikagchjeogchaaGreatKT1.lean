/- Parts of the proof, laid together. No condition. -/
import Derived.Test.YtikagchjeogchaaGreatKB6
set_option linter.unusedVariables false
set_option linter.unusedSimpArgs false
set_option maxRecDepth 100000
set_option maxHeartbeats 4000000
namespace Go.Proofs.YtikagchjeogchaaGreat
open Go.RowKit
theorem Q6o [F6] : Ey := Z8 (Xv.eq_1 _) Tryz.func45
theorem Sa : WZ := Z8 (K6.eq_1 _ _) Tryz.func143
theorem Q6p [Ai] : HF := Z8 (Ww.eq_1 _ _) Tryz.func73
theorem Qbb [F9] : G5 := Z8 (Wo.eq_1 _ _) Tryz.func256
theorem Q2d [ZF] [KQ] [Nk] [EB] [G5] : Gs := Z8 (YO.eq_1 _ _ _ _) Tryz.func254
theorem Q2e [Gu] [Wy] [Nl] : Dt := Z8 (XG.eq_1 _ _ _ _ _) Tryz.func235
theorem NN [C4] : WC := rg0 (Kz.eq_1 _) Tryz.func244
theorem Q2f [E2] [Xl] [C2] [UR] : Dw := Z8 (XI.eq_1 _ _) Tryz.func112
theorem Qbc [W9] [Lw] [BI] [YF] : G7 := Z8 (Wp.eq_1 _ _ _) Tryz.func115
theorem Q00 [Dw] [V2] [BI] [Gy] [Gz] [UA] [G7] [U5] : Ff := Z8 (Y4.eq_1 _ _ _ _) Tryz.func77
theorem Q01 [Dx] [Jl] [U5] [EI] [EH] [HL] [Dy] : Cb := Z8 (VX.eq_1 _ _ _) Tryz.func126
theorem IO : Uj := Z8 (Kk.eq_1 _ _) Tryz.func203
theorem Q2g [Fs] : GC := Z8 (YY.eq_1 _ _ _) Tryz.func250
theorem Q6q : EJ := Z8 (Xz.eq_1 _ _) Tryz.func253
theorem PY : Hc := Z8 (Al.eq_1 _) Tryz.func38
theorem OY : Cf := Z8 (Ji.eq_1 _ _) Tryz.func59
theorem Q6r [A5] : HX := Z8 (WP.eq_1 _) Tryz.func43
theorem Mw [Dq] [FX] [Ex] [Du] [U6] [DF] [Yf] [U1] [Yh] : Et := Z8 (Vb.eq_1 _ _) Tryz.func5
end Go.Proofs.YtikagchjeogchaaGreat
