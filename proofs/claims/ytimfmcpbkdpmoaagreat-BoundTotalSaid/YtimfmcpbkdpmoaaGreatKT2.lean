/- Parts of the proof, laid together. No condition. -/
import Derived.Test.YtimfmcpbkdpmoaaGreatKB6
set_option linter.unusedVariables false
set_option linter.unusedSimpArgs false
set_option maxRecDepth 100000
set_option maxHeartbeats 4000000
namespace Go.Proofs.YtimfmcpbkdpmoaaGreat
open Go.RowKit
theorem Hp [Zt] [Zy] [EO] [Al] : WF := Zd (Ka.eq_1 _ _) Tryz.func72
theorem Tp : Fc := Zd (Yt.eq_1 _) Tryz.func125
theorem RH : E2 := Zd (JR.eq_1 _ _ _) Tryz.func134
theorem RI [AO] [W9] : E3 := fh0 (XD.eq_1 _ _ _) Tryz.func28
theorem Q38 [Y0] [Y1] [Ba] [Gz] : Bb := Zd (Xd.eq_1 _ _ _) Tryz.func145
theorem N5 [VN] : Bf := Zd (JV.eq_1 _) Tryz.func243
theorem RJ [Bc] [VN] [Aq] [WH] [UK] [BX] [WI] [Ar] : Ue := Zd (JW.eq_1 _) Tryz.func149
theorem Q39 : Dr := Zd (Yi.eq_1 _) Tryz.func199
theorem Io [Zt] [Al] : Ug := Zd (Ku.eq_1 _ _) Tryz.func178
theorem Q3a [Wu] : Dt := Zd (Yj.eq_1 _ _) Tryz.func198
theorem Tq : Cl := Zd (JH.eq_1 _) Tryz.func206
theorem OL [GH] [GG] [Fu] [Ui] [Ea] : D2 := Zd (VZ.eq_1 _ _) Tryz.func102
theorem OM [ZG] [Zx] [Bl] [EQ] : D3 := Zd (X0.eq_1 _ _ _) Tryz.func218
theorem RN [Jc] [Ww] [Ed] : Ee := Zd (XP.eq_1 _ _ _) Tryz.func163
theorem Q7l [I8] : EU := Zd (Ja.eq_1 _ _) Tryz.func30
end Go.Proofs.YtimfmcpbkdpmoaaGreat
