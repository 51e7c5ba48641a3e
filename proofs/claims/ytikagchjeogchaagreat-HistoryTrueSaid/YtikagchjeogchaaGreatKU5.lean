/- Parts of the proof, laid together. No condition. -/
import Derived.Test.YtikagchjeogchaaGreatKB6
set_option linter.unusedVariables false
set_option linter.unusedSimpArgs false
set_option maxRecDepth 100000
set_option maxHeartbeats 4000000
namespace Go.Proofs.YtikagchjeogchaaGreat
open Go.RowKit
theorem Q1p : U8 := Zu (JN.eq_1 _ _)
theorem Q63 [U8] : I5 := Zu (WB.eq_1 _ _)
theorem Qf6 [FC] : Bq := Zu (Vp.eq_1 _ _ _)
theorem Ml [U7] : AD := Zu (Jc.eq_1 _ _)
theorem Q64 [Jr] [XQ] [Cq] [DI] : I6 := Zu (WG.eq_1 _ _ _ _)
theorem Q65 [U7] : EL := Zu (YH.eq_1 _ _)
theorem Q1q [Cp] : U9 := Zu (KN.eq_1 _ _)
theorem Ty [DJ] [XQ] [U9] [EL] [EM] [I6] [DK] : Cz := Zu (VX.eq_1 _ _ _)
theorem Q1r [Cu] [Co] : AR := Zu (VJ.eq_1 _ _)
theorem Q1s [Yp] [EL] : GO := Zu (YZ.eq_1 _ _)
theorem Hh [ZH] [KU] : ZE := Zu (QS.eq_1 _)
theorem Mm [ZS] [X0] [Gb] : AG := Zu (Ja.eq_1 _)
theorem Qat [X0] : E4 := Zu (Yy.eq_1 _)
theorem IF [ZE] [X0] [A7] [E4] : Ur := Zu (Ke.eq_1 _)
theorem NG [ZM] [X0] [A7] [E4] : Bt := Zu (Jy.eq_1 _)
theorem Q1t [ZH] [KU] [Nu] [EN] [Gc] : GQ := Zu (YO.eq_1 _ _ _ _)
theorem Qf7 [Bq] : WV := Zu (QZ.eq_1 _ _)
theorem OP [ZM] [B2] [WV] [DR] : CF := Zu (V4.eq_1 _ _ _ _)
theorem Mn [K1] [WW] [KI] [ZS] : AI := Zu (Jd.eq_1 _)
theorem NH [CI] : Yi := Zu (K4.eq_1 _)
theorem NI [ZS] : BB := Zu (JF.eq_1 _ _)
theorem LO [ZE] [WV] [BL] [EQ] [YJ] [EP] : A9 := Zu (KB.eq_1 _ _)
theorem Q1u [FL] : GU := Zu (YY.eq_1 _ _ _)
theorem Tz [CE] : FM := Zu (Y6.eq_1 _)
theorem TA [DT] [V9] [E5] [GW] [GV] [UE] [Gh] [U9] : FN := Zu (Y4.eq_1 _ _ _ _)
theorem Q66 : Ie := Zu (WH.eq_1 _)
theorem Mo [AR] : AK := Zu (Jf.eq_1 _ _ _)
theorem Qau : Gi := fun {a0} => Zu (Zw.eq_1 _) (fun _ => by
 simp only [Np]
 exact ixq (P := fun v => v.size ≤ 16) (by decide) ⟨tm0 (by omega), tm1 (by omega) (by decide)⟩ fun a _ _ _ ha => ha)
theorem Q67 [Gi] [Dn] [AS] : OM := nxb (Yv.eq_1 _)
theorem Q68 [Dn] [LK] : ES := nxb (Yw.eq_1 _ _)
end Go.Proofs.YtikagchjeogchaaGreat
