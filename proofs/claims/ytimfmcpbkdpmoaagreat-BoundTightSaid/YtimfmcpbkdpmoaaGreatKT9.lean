/- Parts of the proof, laid together. No condition. -/
import Derived.Test.YtimfmcpbkdpmoaaGreatKB6
set_option linter.unusedVariables false
set_option linter.unusedSimpArgs false
set_option maxRecDepth 100000
set_option maxHeartbeats 4000000
namespace Go.Proofs.YtimfmcpbkdpmoaaGreat
open Go.RowKit
theorem Gi [AG] : YX := Zo (Zw.eq_1 _) Tryz.func47
theorem Q5u : Hg := Zo (JY.eq_1 _) Tryz.func24
theorem SI : ZJ := Zo (Qz.eq_1 _ _ _) Tryz.func112
theorem Fy [ZJ] [Ji] : ZG := Zo (QI.eq_1 _) Tryz.func81
theorem N4 : BC := Zo (Jj.eq_1 _ _) Tryz.func132
theorem GK [ZF] [VT] [E9] [WV] : Wr := Zo (Zr.eq_1 _) Tryz.func40
theorem Lv [ZJ] : A5 := Zo (Km.eq_1 _ _ _) Tryz.func64
theorem Q9s [Dn] : A7 := Zo (JP.eq_1 _ _ _) Tryz.func116
theorem GL [ZF] [ZL] [Ec] [A7] : Wt := Zo (Ky.eq_1 _ _) Tryz.func72
theorem GN [ZG] [ZL] [W1] [Yh] [CZ] [D1] : Wu := Zo (Kz.eq_1 _ _) Tryz.func75
theorem SJ [WW] [ZL] [Jy] : BZ := Zo (Je.eq_1 _ _ _) Tryz.func94
theorem SK : Wi := Zo (Ku.eq_1 _ _ _) Tryz.func227
theorem Ms : X1 := Zo (Ke.eq_1 _) Tryz.func190
theorem N5 [Ki] [KW] [KQ] [XN] : BH := Zo (VF.eq_1 _) Tryz.func194
theorem Q1p : D3 := Zo (VO.eq_1 _) Tryz.func199
theorem Lw [ZX] : Ae := Zo (JV.eq_1 _ _) Tryz.func179
theorem R8 [C0] [Vk] [Ay] [EH] [EI] [WN] [Ed] [Wk] : Du := Zo (XP.eq_1 _ _ _ _) Tryz.func98
theorem F8 [Wi] [Jy] : JD := Zo (Z7.eq_1 _) Tryz.func235
theorem N6 [C5] [B5] : BI := Zo (VG.eq_1 _) Tryz.func204
theorem R9 [Xg] [AR] [WZ] : YK := Zo (JE.eq_1 _ _ _) Tryz.func158
theorem Q5v [YJ] [YK] [Eg] : Hl := Zo (U6.eq_1 _ _ _ _ _) Tryz.func104
theorem SL [Y5] [D5] : EM := Zo (YA.eq_1 _ _) Tryz.func164
theorem Ra [UR] : DI := Zo (Kc.eq_1 _ _) Tryz.func32
end Go.Proofs.YtimfmcpbkdpmoaaGreat
