/- Parts of the proof, laid together. No condition. -/
import Derived.Test.YtikagchjeogchaaGreatKB6
set_option linter.unusedVariables false
set_option linter.unusedSimpArgs false
set_option maxRecDepth 100000
set_option maxHeartbeats 4000000
namespace Go.Proofs.YtikagchjeogchaaGreat
open Go.RowKit
theorem Q08 : BS := Z8 (ZK.eq_1 _ _ _) Tryz.func70
theorem Q6u [CX] [Lu] : Ez := Z8 (Yw.eq_1 _ _) Tryz.func46
theorem IS [ZB] [VM] [FZ] [UN] : Uc := Z8 (Kd.eq_1 _) Tryz.func101
theorem Q09 [Vm] [VM] [Ai] [B8] [Uc] [Aw] [D1] [Ud] [B9] : W9 := Z8 (Jk.eq_1 _) Tryz.func72
theorem MA [KQ] : ZG := Z8 (QN.eq_1 _) Tryz.func95
theorem Qbi [Gs] : G6 := Z8 (YA.eq_1 _ _ _) Tryz.func226
theorem Sd [ZF] [KQ] [EB] [G5] : E8 := Z8 (Xj.eq_1 _ _ _) Tryz.func228
theorem Q2p : Gt := Z8 (YP.eq_1 _) Tryz.func234
theorem NQ [ZL] [ZG] [AY] [Wy] [Gt] [Dt] : Bh := Z8 (JC.eq_1 _ _ _ _) Tryz.func168
theorem Q0a [U3] : BZ := Z8 (VS.eq_1 _ _ _) Tryz.func177
theorem Q0b [Xd] [Ai] : C3 := Z8 (VV.eq_1 _) Tryz.func183
theorem NR [ZZ] [Ky] [ZL] [Y1] : Bj := Z8 (JE.eq_1 _) Tryz.func190
theorem Q0c : Fe := Z8 (Y3.eq_1 _ _) Tryz.func236
theorem Se [Ku] [Wy] [BG] [Yx] [C7] : Ea := Z8 (Xm.eq_1 _ _) Tryz.func174
theorem Q6v [U3] : EI := Z8 (YH.eq_1 _ _) Tryz.func192
theorem R4 [DD] [Cc] : D5 := Z8 (Vt.eq_1 _) Tryz.func198
theorem Sf [Vm] [BG] : U0 := Z8 (Ju.eq_1 _) Tryz.func136
theorem IT [AO] : Ul := Z8 (Km.eq_1 _ _ _) Tryz.func84
theorem Q6w [Gx] [Ff] [Fi] [Fl] [HO] [Ed] [Ly] [UV] [Ul] [Bm] [D6] [AB] [Fw] : HU := fp0 (WM.eq_1 _ _) Tryz.func54
theorem Sg : Eg := Z8 (K8.eq_1 _ _ _) Tryz.func90
theorem Im [A4] : WO := Z8 (K5.eq_1 _) Tryz.func41
theorem Q2q : GH := Z8 (W2.eq_1 _) Tryz.func12
end Go.Proofs.YtikagchjeogchaaGreat
