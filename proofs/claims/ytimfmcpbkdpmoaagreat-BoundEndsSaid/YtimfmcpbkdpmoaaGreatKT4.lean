/- Parts of the proof, laid together. No condition. -/
import Derived.Test.YtimfmcpbkdpmoaaGreatKB6
set_option linter.unusedVariables false
set_option linter.unusedSimpArgs false
set_option maxRecDepth 100000
set_option maxHeartbeats 4000000
namespace Go.Proofs.YtimfmcpbkdpmoaaGreat
open Go.RowKit
theorem Q6m : Ev := Zb (YN.eq_1 _) Tryz.func86
theorem Rh [V8] [Vo] [Us] [Ad] [Ww] [UA] [BJ] [Wx] [Ae] : YE := Zb (KY.eq_1 _) Tryz.func20
theorem IF [KB] : Zv := Zb (Z3.eq_1 _) Tryz.func69
theorem Qaq [DI] : Ll := Zb (Aj.eq_1 _ _) Tryz.func222
theorem Q2e : D9 := Zb (Je.eq_1 _ _) Tryz.func122
theorem Q2f [DD] [Cz] : Gb := Zb (W2.eq_1 _ _) Tryz.func26
theorem MJ [Y6] : AY := Zb (JM.eq_1 _ _) Tryz.func136
theorem Q2g : Gd := Zb (W4.eq_1 _) Tryz.func186
theorem MK : B6 := Zb (JN.eq_1 _) Tryz.func242
theorem Q6n [XQ] [F2] [DL] : Co := Zb (Xe.eq_1 _ _) Tryz.func153
theorem H8 [XK] : WC := Zb (K9.eq_1 _ _) Tryz.func226
theorem I5 [Zr] [W1] [AH] [Da] [Y1] [D9] : Ua := Zb (Kq.eq_1 _ _) Tryz.func181
theorem Nz : YF := Zb (KC.eq_1 _ _ _) Tryz.func144
theorem Ri [C8] [DT] [JQ] [U7] [YE] [Be] [Y7] : DU := Zb (XA.eq_1 _ _ _ _) Tryz.func100
theorem H9 : WE := Zb (Ka.eq_1 _ _) Tryz.func209
theorem Rj : DW := Zb (XC.eq_1 _ _) Tryz.func244
theorem LL [XK] : Aq := Zb (Ju.eq_1 _ _) Tryz.func219
theorem Q6o : HN := { run := fun r h => Q12 h, gm := Q5o.gm }
end Go.Proofs.YtimfmcpbkdpmoaaGreat
