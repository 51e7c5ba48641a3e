/- Parts of the proof, laid together. No condition. -/
import Derived.Test.YtimfmcpbkdpmoaaGreatKB6
set_option linter.unusedVariables false
set_option linter.unusedSimpArgs false
set_option maxRecDepth 100000
set_option maxHeartbeats 4000000
namespace Go.Proofs.YtimfmcpbkdpmoaaGreat
open Go.RowKit
theorem Q2q [BH] [HH] : D4 := Zb (Y0.eq_1 _ _) Tryz.func16
theorem Hd [Zu] : ZG := Zb (QZ.eq_1 _) Tryz.func79
theorem IH [UX] : Uy := Zb (KM.eq_1 _ _) Tryz.func128
theorem NC [KA] [G9] [G8] [Kh] [Zq] [ZG] [Ki] [Zr] [ZE] : V8 := Zb (ZA.eq_1 _) Tryz.func38
theorem He [Zr] [Vo] [U3] [Cn] : Wx := Zb (K4.eq_1 _) Tryz.func43
theorem T5 [Zu] : EW := Zb (Yg.eq_1 _) Tryz.func66
theorem LR [Kh] [Zv] [UY] : Ai := Zb (Jn.eq_1 _ _) Tryz.func71
theorem II [ZG] [Zv] [Cy] : UB := Zb (KP.eq_1 _ _) Tryz.func73
theorem Qat : Lm := Zb (Ak.eq_1 _ _) Tryz.func172
theorem LS [ZE] [Zv] [UZ] [W1] [EY] [C3] : Al := Zb (Jo.eq_1 _ _ _ _) Tryz.func76
theorem T6 [U5] [Zv] [KZ] : C4 := Zb (Xd.eq_1 _ _ _) Tryz.func94
theorem T7 : Wo := Zb (J0.eq_1 _ _ _) Tryz.func227
theorem MN : VE := Zb (ZO.eq_1 _) Tryz.func190
theorem ND [ZR] [Km] [Ki] [Xu] : BN := Zb (Ve.eq_1 _) Tryz.func194
theorem Q2r : Dc := Zb (Y8.eq_1 _) Tryz.func199
theorem LU [ZG] : Ao := Zb (Js.eq_1 _ _) Tryz.func179
theorem FG [Wo] [KZ] : Ja := Zb (Zf.eq_1 _) Tryz.func235
theorem NE [Ca] [Bf] : BO := Zb (Vf.eq_1 _) Tryz.func204
theorem Ru [VN] [B4] [U7] : YG := Zb (Jb.eq_1 _ _ _) Tryz.func158
theorem Q6s [YF] [YG] [EB] : HL := Zb (Ue.eq_1 _ _ _ _ _) Tryz.func104
theorem T8 [XQ] [Dd] : F9 := Zb (Yt.eq_1 _ _) Tryz.func164
theorem T9 : Fb := Zb (Yu.eq_1 _) Tryz.func61
theorem Ou [HN] : CJ := Zb (V4.eq_1 _ _) Tryz.func31
theorem MO [C1] [HG] [G7] [F1] [CI] [Fi] [Fa] [Fe] [US] : EF := Zb (VF.eq_1 _ _ _) Tryz.func3
end Go.Proofs.YtimfmcpbkdpmoaaGreat
