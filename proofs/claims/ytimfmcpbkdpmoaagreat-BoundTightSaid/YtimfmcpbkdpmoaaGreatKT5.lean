/- Parts of the proof, laid together. No condition. -/
import Derived.Test.YtimfmcpbkdpmoaaGreatKB6
set_option linter.unusedVariables false
set_option linter.unusedSimpArgs false
set_option maxRecDepth 100000
set_option maxHeartbeats 4000000
namespace Go.Proofs.YtimfmcpbkdpmoaaGreat
open Go.RowKit
theorem Q5l [IO] : Hh := Zo (Yg.eq_1 _) Tryz.func35
theorem Q1e : Ji := Zo (Zx.eq_1 _) Tryz.func113
theorem Mn [UO] : AI := Zo (KJ.eq_1 _ _) Tryz.func129
theorem Q5m : VT := Zo (QV.eq_1 _) Tryz.func46
theorem GI [ZG] [VT] [WV] [Cj] : Ws := Zo (ZE.eq_1 _) Tryz.func43
theorem NW [ZJ] : Cq := Zo (JJ.eq_1 _) Tryz.func68
theorem Q5n [Do] : Eb := Zo (YQ.eq_1 _ _) Tryz.func169
theorem Q1f : CY := Zo (Xt.eq_1 _) Tryz.func120
theorem Q9r : IQ := Zo (Aa.eq_1 _ _) Tryz.func172
theorem HD : Ym := Zo (ZA.eq_1 _) Tryz.func175
theorem NX [AO] [AP] [Uu] : Y6 := Zo (Zl.eq_1 _ _ _) Tryz.func185
theorem Ln [Ki] [KW] [KP] : Ac := Zo (JS.eq_1 _) Tryz.func191
theorem PS [Ym] : Dr := Zo (Vj.eq_1 _ _) Tryz.func203
theorem GJ : Y0 := Zo (K1.eq_1 _) Tryz.func240
theorem Q1g [AJ] : D4 := Zo (Vn.eq_1 _) Tryz.func21
theorem PT [C1] [Jy] [Wk] [D5] [D3] [FU] [C2] : B4 := Zo (Kq.eq_1 _ _ _) Tryz.func150
theorem Q1h : FY := Zo (W6.eq_1 _) Tryz.func155
theorem Ic [ZG] [Ji] [Yh] : Uw := Zo (Jt.eq_1 _ _) Tryz.func215
theorem Ie [UI] : Ux := Zo (Ju.eq_1 _ _ _) Tryz.func108
theorem Q1i [EG] [Du] [Dv] [Dx] [FW] [Cy] [Hl] [U3] [WA] [Af] [BJ] [Ux] [DG] : G0 := fp0 (Ze.eq_1 _ _) Tryz.func57
theorem Q5o : Hm := { run := fun r h => Q02 h, gm := Q4g.gm }
end Go.Proofs.YtimfmcpbkdpmoaaGreat
