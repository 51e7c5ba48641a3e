/- Parts of the proof, laid together. No condition. -/
import Derived.Test.YtimfmcpbkdpmoaaGreatKB6
set_option linter.unusedVariables false
set_option linter.unusedSimpArgs false
set_option maxRecDepth 100000
set_option maxHeartbeats 4000000
namespace Go.Proofs.YtimfmcpbkdpmoaaGreat
open Go.RowKit
theorem R4 : AG := Zo (Zj.eq_1 _ _ _) Tryz.func89
theorem Qea : Fs := Zo (Wh.eq_1 _ _) Tryz.func19
theorem Gh [AH] : Jh := Zo (QE.eq_1 _) Tryz.func63
theorem Lt [ZJ] [Ji] [Yh] [BX] : KQ := Zo (Z9.eq_1 _) Tryz.func80
theorem Ig [YZ] : Ur := Zo (K5.eq_1 _ _) Tryz.func131
theorem Q5r : E9 := Zo (YP.eq_1 _) Tryz.func86
theorem R5 [VD] [VT] [AJ] [A1] [Wr] [Us] [BD] [Ws] [A4] : YI := Zo (Z5.eq_1 _) Tryz.func20
theorem R6 : Dn := Zo (KR.eq_1 _) Tryz.func168
theorem Q5s [EC] : Ec := Zo (Yk.eq_1 _ _ _) Tryz.func115
theorem Q1n : D1 := Zo (Vd.eq_1 _ _) Tryz.func123
theorem SE [Dp] : Jy := Zo (QP.eq_1 _) Tryz.func93
theorem O0 [AG] [AM] : Y5 := Zo (ZB.eq_1 _ _) Tryz.func184
theorem O1 [Y5] [Y6] : Xg := Zo (Zh.eq_1 _ _ _) Tryz.func147
theorem Lu [AU] : XN := rg0 (Ko.eq_1 _) Tryz.func233
theorem SF : C1 := Zo (Kf.eq_1 _ _) Tryz.func197
theorem Q5t [Y6] [C1] [AQ] [Dt] [D3] [Wx] [FT] [C2] : Hj := Zo (U0.eq_1 _ _ _) Tryz.func176
theorem HH [ZF] [A7] : U1 := Zo (KY.eq_1 _ _) Tryz.func178
theorem Q1o [Wi] : D5 := Zo (ZT.eq_1 _ _) Tryz.func198
theorem SG : C5 := Zo (V5.eq_1 _) Tryz.func206
theorem O2 [FY] [FX] [EK] [U3] [Dy] : Cy := Zo (Xk.eq_1 _ _) Tryz.func102
theorem O3 [ZR] [ZJ] [B0] [Ee] : Cz := Zo (Xl.eq_1 _ _ _) Tryz.func218
theorem R7 [Jy] [Wk] [DD] : DF := Zo (XW.eq_1 _ _ _) Tryz.func163
theorem SH : EO := Zo (YB.eq_1 _) Tryz.func61
end Go.Proofs.YtimfmcpbkdpmoaaGreat
