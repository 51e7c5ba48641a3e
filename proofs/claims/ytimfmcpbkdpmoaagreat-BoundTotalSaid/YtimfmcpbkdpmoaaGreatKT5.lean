/- Parts of the proof, laid together. No condition. -/
import Derived.Test.YtimfmcpbkdpmoaaGreatKB6
set_option linter.unusedVariables false
set_option linter.unusedSimpArgs false
set_option maxRecDepth 100000
set_option maxHeartbeats 4000000
namespace Go.Proofs.YtimfmcpbkdpmoaaGreat
open Go.RowKit
theorem Q7m [HZ] [UE] : I1 := Zd (U8.eq_1 _) Tryz.func7
theorem Q7n [DW] : I3 := Zd (U9.eq_1 _) Tryz.func35
theorem It [Zx] : Km := Zd (Z9.eq_1 _) Tryz.func77
theorem OR : A5 := Zd (V6.eq_1 _ _) Tryz.func173
theorem NV [KI] [Gv] [Gu] [Km] [Zt] [ZI] [Kn] [Zu] [ZG] : Ve := Zd (ZD.eq_1 _) Tryz.func38
theorem Ht [Zu] [Vx] [Ua] [CG] : WE := Zd (K9.eq_1 _) Tryz.func43
theorem Tz [Zx] : Fa := Zd (Yr.eq_1 _) Tryz.func66
theorem Qbv : DZ := Zd (W6.eq_1 _) Tryz.func223
theorem Q7o [Cd] : AM := Zd (K6.eq_1 _) Tryz.func121
theorem M4 [ZG] [Zy] [A7] [W7] [Fc] [Ce] : Ap := Zd (Ju.eq_1 _ _ _ _) Tryz.func76
theorem Q7p [EM] [B5] : I4 := Zd (Ub.eq_1 _ _ _) Tryz.func17
theorem RY : B6 := Zd (VA.eq_1 _ _) Tryz.func135
theorem IU [Wu] : UJ := Zd (KV.eq_1 _ _) Tryz.func228
theorem M5 : Ks := rg0 (Zk.eq_1 _) Tryz.func231
theorem RZ [Yg] : E4 := Zd (XF.eq_1 _ _) Tryz.func203
theorem Hu [XV] : WJ := Zd (Ke.eq_1 _ _) Tryz.func226
theorem Q3g [Uy] : GC := Zd (We.eq_1 _) Tryz.func21
theorem S0 [Ch] [Jc] [Ww] [Dt] [Dr] [GD] [Ci] : Bn := Zd (VH.eq_1 _ _ _) Tryz.func150
theorem Q3h : GH := Zd (Wj.eq_1 _) Tryz.func155
theorem IV [Zu] [KJ] [Yb] : UL := Zd (KX.eq_1 _ _) Tryz.func215
theorem IW [UX] : UM := Zd (KY.eq_1 _ _ _) Tryz.func108
theorem OS : A8 := Zd (Jl.eq_1 _ _) Tryz.func60
theorem TA [Cc] [Cm] [Co] : FB := Zd (Vv.eq_1) Tryz.func14
end Go.Proofs.YtimfmcpbkdpmoaaGreat
