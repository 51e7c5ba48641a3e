/- Parts of the proof, laid together. No condition. -/
import Derived.Test.YtimfmcpbkdpmoaaGreatKB6
set_option linter.unusedVariables false
set_option linter.unusedSimpArgs false
set_option maxRecDepth 100000
set_option maxHeartbeats 4000000
namespace Go.Proofs.YtimfmcpbkdpmoaaGreat
open Go.RowKit
theorem Ti : C1 := Zb (Jx.eq_1 _) Tryz.func6
theorem Q6v [YU] : HE := Zb (U0.eq_1 _) Tryz.func22
theorem Q6w : Eu := Zb (Zm.eq_1 _) Tryz.func24
theorem GI [AS] : KA := Zb (Zk.eq_1 _) Tryz.func63
theorem LW [Zu] [KB] [Y1] [C2] : Ki := Zb (Zc.eq_1 _) Tryz.func80
theorem IJ [YW] : Uz := Zb (KN.eq_1 _ _) Tryz.func131
theorem Hf [Zq] [Vo] [Ev] [U3] : Ww := Zb (K3.eq_1 _) Tryz.func40
theorem Q2u [Us] : Ga := Zb (YZ.eq_1 _ _) Tryz.func90
theorem NH : Ut := Zb (Jv.eq_1 _) Tryz.func70
theorem Tj [Zu] [KB] [Ll] [D7] [Ex] : EX := Zb (Yh.eq_1 _ _ _ _) Tryz.func167
theorem Hg [Zr] [Zv] [W1] [Y1] [D9] [Da] : Wz := Zb (K6.eq_1 _ _) Tryz.func75
theorem Rw : U5 := Zb (Zo.eq_1 _ _ _) Tryz.func91
theorem Q6x [UR] : AJ := Zb (Vt.eq_1 _ _) Tryz.func55
theorem Q2v [Wp] : Ge := Zb (W5.eq_1 _ _) Tryz.func229
theorem Hh [ZR] [W6] [Km] [Zq] : WA := Zb (K7.eq_1 _) Tryz.func192
theorem Ry : JQ := Zb (QW.eq_1 _ _) Tryz.func138
theorem Q6y [XR] [C6] [B2] [DN] [Dc] [WC] [Gf] [C7] : HJ := Zb (U8.eq_1 _ _ _) Tryz.func176
theorem Tk [WS] [AJ] [Ez] [C5] [JQ] [AU] : F3 := Zb (Yn.eq_1 _ _ _ _) Tryz.func97
theorem Tl [Bb] : C8 := Zb (Xi.eq_1 _ _) Tryz.func146
theorem Q2w [Gi] [JQ] [Co] [Wq] : Gj := Zb (Wa.eq_1 _ _ _ _ _) Tryz.func101
theorem Rz [B0] [WE] [Uc] [CE] : DV := Zb (XB.eq_1 _ _ _) Tryz.func156
theorem Hi [ZG] [F8] : WF := Zb (Kb.eq_1 _) Tryz.func216
theorem RA [Ja] [KZ] [Bc] [De] : DX := Zb (XD.eq_1 _ _ _) Tryz.func220
theorem Tm [US] [EE] : Ff := Zb (Yw.eq_1 _ _ _) Tryz.func15
end Go.Proofs.YtimfmcpbkdpmoaaGreat
