/- Parts of the proof, laid together. No condition. -/
import Derived.Test.YtimfmcpbkdpmoaaGreatKB6
set_option linter.unusedVariables false
set_option linter.unusedSimpArgs false
set_option maxRecDepth 100000
set_option maxHeartbeats 4000000
namespace Go.Proofs.YtimfmcpbkdpmoaaGreat
open Go.RowKit
theorem Sb : B2 := Zd (Zq.eq_1 _ _ _) Tryz.func111
theorem Q7z : Yb := Zd (ZJ.eq_1 _ _) Tryz.func119
theorem Sc [W2] : DX := Zd (XC.eq_1 _ _) Tryz.func130
theorem Q80 : EL := Zd (YS.eq_1 _) Tryz.func86
theorem Sd [Ve] [Vx] [Uy] [Ah] [WC] [UH] [BS] [WE] [Ai] : YK := Zd (Jb.eq_1 _) Tryz.func20
theorem L3 [KJ] : Zy := Zd (Z3.eq_1 _) Tryz.func69
theorem TL [Zx] [KJ] [LD] [Dm] [EN] : Fb := Zd (Ys.eq_1 _ _ _ _) Tryz.func167
theorem Hz [Zu] [Zy] [W7] [Yb] [Do] [Dp] : WG := Zd (Kb.eq_1 _ _) Tryz.func75
theorem TM [BQ] [NB] [Gx] : Fi := Zd (Yw.eq_1 _ _ _) Tryz.func9
theorem Se : Uc := Zd (Zr.eq_1 _ _ _) Tryz.func91
theorem Q81 [UX] : AO := Zd (VB.eq_1 _ _) Tryz.func55
theorem Q3o [Wv] : GA := Zd (Wb.eq_1 _ _) Tryz.func229
theorem HA [ZW] [Wc] [Ks] [Zt] : WH := Zd (Kc.eq_1 _) Tryz.func192
theorem N9 [JX] : Yh := Zd (Kj.eq_1 _ _ _) Tryz.func151
theorem TN : Fo := Zd (Yz.eq_1 _) Tryz.func141
theorem Sf [YL] [JX] [Bb] [GC] [Cj] [VV] : E7 := Zd (XI.eq_1 _ _ _ _ _) Tryz.func99
theorem Sg : Ui := Zd (Zl.eq_1 _ _) Tryz.func103
theorem TO [Uj] : Ft := Zd (YB.eq_1 _ _) Tryz.func212
theorem Q82 : EQ := Zd (YW.eq_1 _ _) Tryz.func239
theorem Q3p [Y1] [Av] [Ec] : GI := Zd (Wk.eq_1 _ _) Tryz.func162
theorem Q83 : I8 := { run := fun r h => Q1v h, gm := Q6k.gm }
theorem Md [Cc] [I1] [Gt] [Fi] [FA] [Co] [D4] [FB] [Fx] : Ei := Zd (Vm.eq_1 _ _) Tryz.func4
end Go.Proofs.YtimfmcpbkdpmoaaGreat
