/- Parts of the proof, laid together. No condition. -/
import Derived.Test.YtimfmcpbkdpmoaaGreatKB6
set_option linter.unusedVariables false
set_option linter.unusedSimpArgs false
set_option maxRecDepth 100000
set_option maxHeartbeats 4000000
namespace Go.Proofs.YtimfmcpbkdpmoaaGreat
open Go.RowKit
theorem Ll [ZR] [VT] [WV] [Cj] : A4 := Zo (Kl.eq_1 _) Tryz.func44
theorem Q5h [Jh] [A5] [BE] [EB] [A6] [Cq] : Ea := Zo (XC.eq_1 _) Tryz.func36
theorem Q1b [Do] : CX := Zo (Yj.eq_1 _) Tryz.func170
theorem Q5i [BX] : Ax := Zo (Kv.eq_1 _) Tryz.func121
theorem Q5j [Ea] [AK] : Hi := Zo (Yl.eq_1 _ _ _) Tryz.func17
theorem Sj [AM] [AN] : UI := Zo (V1.eq_1 _ _) Tryz.func96
theorem Sk : Wj := Zo (Jf.eq_1 _ _) Tryz.func234
theorem Lm [AT] : W3 := rg0 (KX.eq_1 _) Tryz.func232
theorem Sl [Ck] [Xg] [AR] [WZ] : C0 := Zo (V2.eq_1 _ _) Tryz.func137
theorem Q5k [YI] [Hj] [Ay] [Yn] : Ed := Zo (YR.eq_1 _ _ _) Tryz.func140
theorem HB [ZG] [W1] [Ax] [D1] [Yh] [CZ] : U2 := Zo (KZ.eq_1 _ _) Tryz.func181
theorem PR : B0 := Zo (VX.eq_1 _ _) Tryz.func188
theorem Q1c : FV := Zo (Xw.eq_1 _) Tryz.func152
theorem NV [Wj] : Cw := Zo (Xj.eq_1 _ _) Tryz.func211
theorem Sm [Dz] : EL := Zo (Yz.eq_1 _ _ _) Tryz.func238
theorem Q1d : D6 := Zo (Xx.eq_1 _ _) Tryz.func241
theorem Sn [Ej] [DI] [CB] [EP] [Ah] : UJ := Zo (V6.eq_1 _ _ _ _) Tryz.func12
end Go.Proofs.YtimfmcpbkdpmoaaGreat
