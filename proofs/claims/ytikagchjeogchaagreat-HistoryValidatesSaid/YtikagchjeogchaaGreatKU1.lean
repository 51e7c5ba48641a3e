/- Parts of the proof, laid together. No condition. -/
import Derived.Test.YtikagchjeogchaaGreatKB6
set_option linter.unusedVariables false
set_option linter.unusedSimpArgs false
set_option maxRecDepth 100000
set_option maxHeartbeats 4000000
namespace Go.Proofs.YtikagchjeogchaaGreat
open Go.RowKit
theorem Qai [VD] [Up] [UD] [Wg] [CL] [AJ] [Uw] [U2] [LI] [Ep] : Gg := Zu (Wr.eq_1 _ _)
end Go.Proofs.YtikagchjeogchaaGreat
