/- Parts of the proof, laid together. No condition. -/
import Derived.Test.YtimfmcpbkdpmoaaGreatKB6
set_option linter.unusedVariables false
set_option linter.unusedSimpArgs false
set_option maxRecDepth 100000
set_option maxHeartbeats 4000000
namespace Go.Proofs.YtimfmcpbkdpmoaaGreat
open Go.RowKit
theorem TI : Cd := Zd (Xi.eq_1 _ _) Tryz.func127
theorem L0 [W2] : UG := Zd (KR.eq_1 _ _) Tryz.func131
theorem Hy [Zt] [Vx] [EL] [Ua] : WC := Zd (K8.eq_1 _) Tryz.func40
theorem Q3m [Uy] : Gw := Zd (W5.eq_1 _ _) Tryz.func90
theorem NZ : Uz := Zd (JA.eq_1 _) Tryz.func70
theorem Q7w [Fb] : EO := Zd (Ye.eq_1 _ _ _) Tryz.func115
theorem OV : A7 := Zd (V8.eq_1 _) Tryz.func124
theorem Qgc [BQ] [EK] [UW] [Dk] [Dj] [Dl] [Ff] [F9] : NB := Zd (AN.eq_1 _ _) Tryz.func25
theorem Qbz : Gy := Zd (ZZ.eq_1 _ _) Tryz.func133
theorem Mc : W9 := Zd (Kr.eq_1 _ _) Tryz.func56
theorem S7 [GA] : Ba := Zd (VE.eq_1 _ _) Tryz.func187
theorem L2 [ZW] [Wc] [Ks] [ZI] : UK := Zd (KW.eq_1 _) Tryz.func193
theorem TJ : Ch := Zd (Xn.eq_1 _ _) Tryz.func197
theorem N8 [Km] [A6] : Bg := Zd (JY.eq_1 _ _) Tryz.func177
theorem S8 [Bc] : E8 := Zd (XJ.eq_1 _) Tryz.func148
theorem S9 : Bo := Zd (VI.eq_1 _ _) Tryz.func205
theorem TK [Ft] : Fu := Zd (YC.eq_1 _) Tryz.func157
theorem Q7x [ZG] [KJ] [EQ] : I6 := Zd (Uk.eq_1 _ _) Tryz.func217
theorem Sa [Je] [Jc] [Bm] [Du] [Ck] : Ed := Zd (XO.eq_1 _ _ _ _) Tryz.func221
theorem Q3n [Fl] [E6] [E7] [E9] [GF] [D2] [I7] [Ui] [WM] [Au] [BZ] [UM] [Eg] : GJ := fp0 (Wl.eq_1 _ _) Tryz.func57
theorem Q7y : I9 := { run := fun r h => Q1w h, gm := Q6l.gm }
end Go.Proofs.YtimfmcpbkdpmoaaGreat
