/- Parts of the proof, laid together. No condition. -/
import Derived.Test.YtimfmcpbkdpmoaaGreatKB6
set_option linter.unusedVariables false
set_option linter.unusedSimpArgs false
set_option maxRecDepth 100000
set_option maxHeartbeats 4000000
namespace Go.Proofs.YtimfmcpbkdpmoaaGreat
open Go.RowKit
theorem Mj [ZR] [UQ] [W1] [BY] : AZ := Zo (Vm.eq_1 _ _ _ _) Tryz.func182
end Go.Proofs.YtimfmcpbkdpmoaaGreat
