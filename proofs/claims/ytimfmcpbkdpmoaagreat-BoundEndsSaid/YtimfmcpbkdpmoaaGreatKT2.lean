/- Parts of the proof, laid together. No condition. -/
import Derived.Test.YtimfmcpbkdpmoaaGreatKB6
set_option linter.unusedVariables false
set_option linter.unusedSimpArgs false
set_option maxRecDepth 100000
set_option maxHeartbeats 4000000
namespace Go.Proofs.YtimfmcpbkdpmoaaGreat
open Go.RowKit
theorem Q29 : Da := Zb (JK.eq_1 _ _) Tryz.func123
theorem SQ [BH] [Ne] [Gb] : F1 := Zb (Yl.eq_1 _ _ _) Tryz.func9
theorem SR [AX] [AY] : UR := Zb (Jy.eq_1 _ _) Tryz.func96
theorem SS : Wp := Zb (Jz.eq_1 _ _) Tryz.func234
theorem LJ [B6] : W6 := rg0 (Kn.eq_1 _) Tryz.func232
theorem Rb [B5] [VE] [Am] [WA] [UD] [BN] [WB] [An] : U7 := Zb (JP.eq_1 _) Tryz.func149
theorem SU [Co] [VN] [B4] [U7] : C5 := Zb (Xf.eq_1 _ _) Tryz.func137
theorem Q6k [YE] [HJ] [AJ] [Y7] : Ez := Zb (YQ.eq_1 _ _ _) Tryz.func140
theorem Rc : Bb := Zb (Vy.eq_1 _ _) Tryz.func188
theorem Q2a : Gi := Zb (W9.eq_1 _) Tryz.func152
theorem Om [Wp] : CE := Zb (VQ.eq_1 _ _) Tryz.func211
theorem SV [DW] : F8 := Zb (Ys.eq_1 _ _ _) Tryz.func238
theorem Q2b : De := Zb (X0.eq_1 _ _) Tryz.func241
theorem SX [EE] [E2] [CJ] [Fc] [Ar] : US := Zb (JB.eq_1 _ _ _ _) Tryz.func12
end Go.Proofs.YtimfmcpbkdpmoaaGreat
