/- Parts of the proof, laid together. No condition. -/
import Derived.Test.YtikagchjeogchaaGreatKB6
set_option linter.unusedVariables false
set_option linter.unusedSimpArgs false
set_option maxRecDepth 100000
set_option maxHeartbeats 4000000
namespace Go.Proofs.YtikagchjeogchaaGreat
open Go.RowKit
theorem Q1g [A6] : GL := Zu (YW.eq_1 _ _)
theorem Nw [Yk] : Br := Zu (JH.eq_1 _ _)
theorem RQ [A6] : Ej := Zu (Xn.eq_1 _ _)
theorem Ny : WU := Zu (Zy.eq_1 _ _)
theorem Qaj : Gb := Zu (Wm.eq_1 _)
theorem Nz [ZH] : Bv := Zu (JA.eq_1 _)
theorem Q5p [FK] : EN := Zu (Yz.eq_1 _)
theorem Qak [GQ] : Gd := Zu (YA.eq_1 _ _ _)
theorem Mk [ZS] [ZT] [Em] : AH := Zu (Jb.eq_1 _ _)
theorem Q1h : GR := Zu (YP.eq_1 _)
theorem NA [CG] : WW := Zu (Kz.eq_1 _)
theorem Hg [ZD] [KU] [Gd] : Wg := Zu (ZV.eq_1 _ _)
theorem Tn : FL := Zu (Y9.eq_1 _ _)
theorem Qal [ZM] [KU] [Ge] : LI := Zu (UX.eq_1 _ _)
theorem ON : UD := Zu (Jh.eq_1 _)
theorem Qkl [Dn] [Gi] [AS] [ER] [ES] [ET] [GZ] [GY] : PM := nxb (BH.eq_1 _ _)
end Go.Proofs.YtikagchjeogchaaGreat
