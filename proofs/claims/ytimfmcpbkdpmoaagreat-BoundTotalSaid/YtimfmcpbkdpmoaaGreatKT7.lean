/- Parts of the proof, laid together. No condition. -/
import Derived.Test.YtimfmcpbkdpmoaaGreatKB6
set_option linter.unusedVariables false
set_option linter.unusedSimpArgs false
set_option maxRecDepth 100000
set_option maxHeartbeats 4000000
namespace Go.Proofs.YtimfmcpbkdpmoaaGreat
open Go.RowKit
theorem H4 [B0] : W0 := Zd (ZY.eq_1 _) Tryz.func47
theorem IY : UE := Zd (KP.eq_1 _) Tryz.func23
theorem Qbw : DW := Zd (Yp.eq_1 _) Tryz.func52
theorem TF : Zx := Zd (QC.eq_1 _ _ _) Tryz.func112
theorem Gc [Zx] [KJ] : Zu := Zd (QS.eq_1 _) Tryz.func81
theorem Q3j [UF] [B4] [DX] [UG] [BR] : Gu := Zd (W3.eq_1 _ _) Tryz.func83
theorem Q7v [Vx] : CG := Zd (Yc.eq_1 _) Tryz.func87
theorem Ma [Zx] : Aj := Zd (Jr.eq_1 _ _ _) Tryz.func64
theorem Qbx [DY] : Al := Zd (Vh.eq_1 _ _ _) Tryz.func116
theorem IZ [ZI] [Zy] [CW] : UI := Zd (KU.eq_1 _ _) Tryz.func73
theorem Qby : LE := Zd (Ao.eq_1 _ _) Tryz.func172
theorem TG [Uc] [Zy] [Jc] : Cf := Zd (Xk.eq_1 _ _ _) Tryz.func94
theorem TH : Wu := Zd (Jd.eq_1 _ _ _) Tryz.func227
theorem N7 : VN := Zd (ZR.eq_1 _) Tryz.func190
theorem NY [ZW] [Ks] [Kn] [XE] : BX := Zd (Vj.eq_1 _) Tryz.func194
theorem Mb [ZW] [Ks] [ZG] [XE] : Ar := Zd (Jw.eq_1 _) Tryz.func196
theorem S3 : E5 := Zd (XG.eq_1 _ _) Tryz.func224
theorem S4 [Kn] [KJ] [Yb] [Dn] : Bh := Zd (ZO.eq_1 _ _) Tryz.func214
theorem Q3k : Bm := Zd (Xe.eq_1 _ _) Tryz.func236
theorem S5 : Uj := Zd (V0.eq_1 _ _ _) Tryz.func210
theorem OU [Ve] [AM] : Ws := Zd (Jj.eq_1 _) Tryz.func160
theorem Hw [UX] : WM := Zd (Kh.eq_1 _ _ _) Tryz.func105
theorem Q3l [GJ] [W9] : GK := fh0 (Wm.eq_1 _ _ _) Tryz.func29
theorem S6 [A8] : Eh := Zd (ZQ.eq_1 _ _) Tryz.func32
end Go.Proofs.YtimfmcpbkdpmoaaGreat
