/- Parts of the proof, laid together. No condition. -/
import Derived.Test.YtimfmcpbkdpmoaaGreatKB6
set_option linter.unusedVariables false
set_option linter.unusedSimpArgs false
set_option maxRecDepth 100000
set_option maxHeartbeats 4000000
namespace Go.Proofs.YtimfmcpbkdpmoaaGreat
open Go.RowKit
theorem Q5z [He] [Up] : Hf := Zo (WU.eq_1 _) Tryz.func7
theorem Q1t [Fs] [Hh] : FN := Zo (Xq.eq_1 _ _) Tryz.func16
theorem Q60 : Yh := Zo (ZY.eq_1 _ _) Tryz.func119
theorem Lx : YZ := Zo (ZW.eq_1 _ _) Tryz.func174
theorem Q61 : WV := Zo (Zz.eq_1 _) Tryz.func85
theorem O9 : Cp := Zo (Xe.eq_1 _) Tryz.func88
theorem Ii [Ji] : ZL := Zo (QB.eq_1 _) Tryz.func69
theorem Q9t [Do] : IP := Zo (A9.eq_1 _ _) Tryz.func222
theorem N8 [KQ] [ZL] [W1] [Yh] [Ax] [CY] : BF := Zo (VE.eq_1 _ _) Tryz.func74
theorem Ri : WW := Zo (Zd.eq_1 _ _ _) Tryz.func91
theorem Q62 [UI] : Ay := Zo (VV.eq_1 _ _) Tryz.func55
theorem Q1u [Wj] : FS := Zo (Xv.eq_1 _ _) Tryz.func229
theorem GR [Ki] [W3] [KW] [ZF] : Wv := Zo (KA.eq_1 _) Tryz.func192
theorem Rj : Vk := Zo (Z0.eq_1 _ _) Tryz.func138
theorem SO [WN] [Ay] [Ed] [C0] [Vk] [AK] : EG := Zo (VP.eq_1 _ _ _ _) Tryz.func97
theorem SP [B0] : C3 := Zo (VQ.eq_1 _ _) Tryz.func146
theorem Q1v [FV] [Vk] [Ck] [Wk] : FW := Zo (Vp.eq_1 _ _ _ _ _) Tryz.func101
theorem Rk [AP] [Wy] [U4] [Cw] : Dy := Zo (XS.eq_1 _ _ _) Tryz.func156
theorem GT [ZX] [EL] : Wz := Zo (KG.eq_1 _) Tryz.func216
theorem Rl [JD] [Jy] [B2] [D6] : DC := Zo (XU.eq_1 _ _ _) Tryz.func220
theorem Q1w [G0] [W2] : G1 := fh0 (Yo.eq_1 _ _ _) Tryz.func29
theorem SQ [UJ] [Ej] : EQ := Zo (YC.eq_1 _ _ _) Tryz.func15
theorem Ly [BV] [Hf] [FM] [FN] [UJ] [EN] [ER] [Fs] [BW] [Hi] [YI] [D4] : DJ := Zo (VI.eq_1 _ _ _) Tryz.func5
end Go.Proofs.YtimfmcpbkdpmoaaGreat
