/- Parts of the proof, laid together. No condition. -/
import Derived.Test.YtimfmcpbkdpmoaaGreatKB6
set_option linter.unusedVariables false
set_option linter.unusedSimpArgs false
set_option maxRecDepth 100000
set_option maxHeartbeats 4000000
namespace Go.Proofs.YtimfmcpbkdpmoaaGreat
open Go.RowKit
theorem TB : UW := Zd (Vq.eq_1 _) Tryz.func18
theorem Q3i [BQ] [I3] : Dj := Zd (Ya.eq_1 _ _) Tryz.func16
theorem Ga [Zx] : Zt := Zd (QR.eq_1 _) Tryz.func78
theorem IX [A5] : UF := Zd (KQ.eq_1 _ _) Tryz.func128
theorem Q7q : Vx := Zd (QW.eq_1 _) Tryz.func46
theorem M6 [ZG] [Vx] [Ua] [CG] : Ai := Zd (Jq.eq_1 _) Tryz.func44
theorem M7 [Zx] : Ak := Zd (Js.eq_1 _) Tryz.func67
theorem Q7r [DZ] : EN := Zd (YU.eq_1 _ _) Tryz.func169
theorem NW [Kn] [Zy] [W7] [Yb] [AM] [Dn] : BV := Zd (Vi.eq_1 _ _) Tryz.func74
theorem TC [BQ] [UW] [Dj] [Dl] [I4] : Ff := Zd (Yv.eq_1 _) Tryz.func51
theorem Iu : Yg := Zd (ZV.eq_1 _) Tryz.func175
theorem OT [B8] [B9] [UJ] : Y1 := Zd (KB.eq_1 _ _ _) Tryz.func185
theorem M8 [ZW] [Ks] [Km] : Aq := Zd (Jv.eq_1 _) Tryz.func191
theorem Q7s [Y0] [Fj] [E4] : CI := Zd (Xl.eq_1 _ _) Tryz.func153
theorem Q7t [Y1] [Ch] [Ba] [E5] [Dr] [WJ] [GB] [Ci] : I5 := Zd (Uf.eq_1 _ _ _) Tryz.func176
theorem NX : YL := Zd (KL.eq_1 _ _ _) Tryz.func144
theorem S1 [Cj] [E8] [JX] [Ue] [YK] [Bn] [Yh] : E9 := Zd (XK.eq_1 _ _ _ _) Tryz.func100
theorem Hv : WK := Zd (Kf.eq_1 _ _) Tryz.func209
theorem S2 : Eb := Zd (XM.eq_1 _ _) Tryz.func244
theorem Q7u [Ve] [Vb] [WZ] [YN] [Bh] [UL] [WL] [Ws] [I6] [D3] : ER := Zd (YX.eq_1 _ _) Tryz.func159
theorem M9 [XV] : Av := Zd (Jz.eq_1 _ _) Tryz.func219
theorem TD : Fy := Zd (YF.eq_1 _) Tryz.func61
end Go.Proofs.YtimfmcpbkdpmoaaGreat
