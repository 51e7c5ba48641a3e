/- Parts of the proof, laid together. No condition. -/
import Derived.Test.YtimfmcpbkdpmoaaGreatKB6
set_option linter.unusedVariables false
set_option linter.unusedSimpArgs false
set_option maxRecDepth 100000
set_option maxHeartbeats 4000000
namespace Go.Proofs.YtimfmcpbkdpmoaaGreat
open Go.RowKit
theorem N4 [ZG] [A7] [W7] [Ce] : Bj := Zd (JZ.eq_1 _ _ _ _) Tryz.func182
theorem Tn [EU] [Eh] [D5] [Fz] [Aw] : Cm := Zd (Vu.eq_1 _ _ _ _) Tryz.func12
end Go.Proofs.YtimfmcpbkdpmoaaGreat
