/- Parts of the proof, laid together. No condition. -/
import Derived.Test.YtimfmcpbkdpmoaaGreatKB6
set_option linter.unusedVariables false
set_option linter.unusedSimpArgs false
set_option maxRecDepth 100000
set_option maxHeartbeats 4000000
namespace Go.Proofs.YtimfmcpbkdpmoaaGreat
open Go.RowKit
theorem PO [VD] [ZL] [Ul] [A8] [Wt] [Ut] [BF] [Wu] [Ab] : AK := Zo (VU.eq_1 _ _ _ _) Tryz.func37
theorem Ml [Ym] : AN := Zo (Ve.eq_1 _ _) Tryz.func136
theorem Q1a : FR := Zo (Xu.eq_1 _) Tryz.func186
theorem Mm : AT := Zo (Vg.eq_1 _) Tryz.func242
theorem Q5f [Y5] [EF] [Dr] : Ck := Zo (Kw.eq_1 _ _) Tryz.func153
theorem GG [Y0] : Wx := Zo (KC.eq_1 _ _) Tryz.func226
theorem NU [KQ] [W1] [Ax] [Yh] [AY] : Cu := Zo (Xh.eq_1 _ _) Tryz.func180
theorem N2 : YJ := Zo (K9.eq_1 _ _ _) Tryz.func144
theorem PP [C3] [Dw] [Vk] [WZ] [YI] [B4] [Yn] : Dx := Zo (XR.eq_1 _ _ _ _) Tryz.func100
theorem GH : Wy := Zo (KF.eq_1 _ _) Tryz.func209
theorem PQ : Dz := Zo (XT.eq_1 _ _) Tryz.func244
theorem Lk [Y0] : Ag := Zo (JX.eq_1 _ _) Tryz.func219
theorem Q5g : Hn := { run := fun r h => Q03 h, gm := Q4h.gm }
end Go.Proofs.YtimfmcpbkdpmoaaGreat
