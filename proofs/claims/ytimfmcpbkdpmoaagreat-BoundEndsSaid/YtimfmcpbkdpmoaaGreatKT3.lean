/- Parts of the proof, laid together. No condition. -/
import Derived.Test.YtimfmcpbkdpmoaaGreatKB6
set_option linter.unusedVariables false
set_option linter.unusedSimpArgs false
set_option maxRecDepth 100000
set_option maxHeartbeats 4000000
namespace Go.Proofs.YtimfmcpbkdpmoaaGreat
open Go.RowKit
theorem Ny [Ki] [Zv] [W1] [Y1] [AH] [D8] : BL := Zb (Vd.eq_1 _ _) Tryz.func74
theorem On [D5] : Cz := Zb (VM.eq_1 _) Tryz.func53
theorem I4 : Y6 := Zb (ZQ.eq_1 _) Tryz.func175
theorem Oo [AZ] [B0] [UC] : XR := Zb (Kw.eq_1 _ _ _) Tryz.func185
theorem LK [ZR] [Km] [Kh] : Am := Zb (Jq.eq_1 _) Tryz.func191
theorem Re [Y6] : DL := Zb (Xv.eq_1 _ _) Tryz.func203
theorem H7 : XK := Zb (ZJ.eq_1 _) Tryz.func240
theorem Oq [Ki] [W1] [AH] [Y1] [B9] : CB := Zb (VO.eq_1 _ _) Tryz.func180
theorem Q2c [Us] : Gg := Zb (W8.eq_1 _) Tryz.func21
theorem Rf [C6] [KZ] [Wq] [Dd] [Dc] [Gh] [C7] : Be := Zb (Vz.eq_1 _ _ _) Tryz.func150
theorem Q2d : Gl := Zb (Wc.eq_1 _) Tryz.func155
theorem ID [Zr] [KB] [Y1] : UE := Zb (KT.eq_1 _ _) Tryz.func215
theorem IE [UR] : UF := Zb (KU.eq_1 _ _ _) Tryz.func108
theorem Q6l : HM := { run := fun r h => Q11 h, gm := Q5n.gm }
end Go.Proofs.YtimfmcpbkdpmoaaGreat
