/- Parts of the proof, laid together. No condition. -/
import Derived.Test.YtimfmcpbkdpmoaaGreatKB6
set_option linter.unusedVariables false
set_option linter.unusedSimpArgs false
set_option maxRecDepth 100000
set_option maxHeartbeats 4000000
namespace Go.Proofs.YtimfmcpbkdpmoaaGreat
open Go.RowKit
theorem Q9q : FQ := Zo (QJ.eq_1 _ _) Tryz.func133
theorem Lj : W2 := Zo (KV.eq_1 _ _) Tryz.func56
theorem PK [FS] : AQ := Zo (JC.eq_1 _ _) Tryz.func187
theorem Ib [Ki] [W3] [KW] [ZX] : Uv := Zo (Js.eq_1 _) Tryz.func193
theorem PL [AS] [X1] [Ac] [Wv] [Uv] [BH] [Ww] [Ad] : WZ := Zo (Vi.eq_1 _) Tryz.func149
theorem Mk [Xg] : WN := Zo (Jv.eq_1 _ _ _) Tryz.func139
theorem Sg : EH := Zo (Yv.eq_1 _) Tryz.func141
theorem PM [YJ] [Vk] [AR] [D4] [C3] [Xg] : Dv := Zo (Ka.eq_1 _ _ _ _ _) Tryz.func99
theorem PN : U3 := Zo (Zu.eq_1 _ _) Tryz.func103
theorem Si [U4] : EJ := Zo (Yx.eq_1 _ _) Tryz.func212
theorem Q5e : Ee := Zo (YS.eq_1 _ _) Tryz.func239
theorem Q19 [Y6] [Ag] [DC] : FZ := Zo (W7.eq_1 _ _) Tryz.func162
theorem NT : UR := Zo (JM.eq_1 _ _) Tryz.func60
end Go.Proofs.YtimfmcpbkdpmoaaGreat
