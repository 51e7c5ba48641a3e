/- Parts of the proof, laid together. No condition. -/
import Derived.Test.YtimfmcpbkdpmoaaGreatKB6
set_option linter.unusedVariables false
set_option linter.unusedSimpArgs false
set_option maxRecDepth 100000
set_option maxHeartbeats 4000000
namespace Go.Proofs.YtimfmcpbkdpmoaaGreat
open Go.RowKit
theorem Qf0 : BH := Zb (VD.eq_1 _ _) Tryz.func19
theorem Q31 : D6 := Zb (Vl.eq_1 _) Tryz.func49
theorem Q75 : Y1 := Zb (ZH.eq_1 _ _) Tryz.func119
theorem LZ : YW := Zb (Kj.eq_1 _ _) Tryz.func174
theorem Q76 : U3 := Zb (Vp.eq_1 _) Tryz.func85
theorem OF : Cv := Zb (VJ.eq_1 _) Tryz.func88
theorem OG [Zu] : Cw := Zb (VK.eq_1 _) Tryz.func68
theorem Q77 [DI] : Ex := Zb (YP.eq_1 _ _) Tryz.func169
theorem Q32 : D8 := Zb (VX.eq_1 _) Tryz.func120
theorem Q78 [Ew] [AU] : HI := Zb (U4.eq_1 _ _ _) Tryz.func17
theorem Tv [Gc] {a0 : Int} {r : DC} (h : Rr (Y5 a0) r) : V5 Tryz.prog 92 [.c (.v (.int .i64 a0))] [.agg [.p (.v (.bool r.fe0)), .p (.v (.bool r.fe1)), .p (.v (.bool r.fe2)), .p (.v (.bool r.fe3)), .p (.v (.bool r.fe4)), .p (.v (.bool r.fe5)), .p (.v (.bool r.fe6)), .p (.v (.bool r.fe7)), .p (.v (.bool r.fe8)), .p (.v (.bool r.fe9)), .p (.v (.bool r.fe10)), .p (.v (.bool r.fe11)), .p (.v (.bool r.fe12))]] [] := by
 refine N1 tb Tryz.func92 Z (by kernel_rfl) Z Z (Nat.le_of_ble_eq_true Z) Z ?_;intro E;unfold Rr Y5 at h
 simp only [ct, cs, jo, Go.Proofs.YtimfmcpbkdpmoaaGreat.lo, lv, Qg] at h
 refine aw_Q (fun Q hQ => ?_);refine tD Z <| tk fun L hL => dN 1 Z <| ul (Kd (rows := List.map (eI .i64) [1, 2, 3, 5, 6, 7, 8, 16])) ?_;obtain ⟨v1, hv1, h⟩ := h;refine ul (JY (Lh hv1) (Mj (Uw.cons (.p Z) Uw.nil)) Z Z (.cons (.c (.p _)) (.cons (.c (.fr Z (YT Z))) .nil))) <| dN 1 Z <| ul (Kd (rows := List.map (eI .i64) [3, 7, 8])) ?_;obtain ⟨v2, hv2, h⟩ := h;refine ul (JY (Lh hv2) (Mj (Uw.cons (.p Z) Uw.nil)) Z Z (.cons (.c (.p _)) (.cons (.c (.fr Z (YT Z))) .nil))) <| dN 1 Z <| ul (Kd (rows := List.map (eI .i64) [9])) ?_;obtain ⟨v3, hv3, h⟩ := h;refine ul (JY (Lh hv3) (Mj (Uw.cons (.p Z) Uw.nil)) Z Z (.cons (.c (.p _)) (.cons (.c (.fr Z (YT Z))) .nil))) <| dN 1 Z <| ul (Kd (rows := List.map (eI .i64) [1])) ?_;obtain ⟨v4, hv4, h⟩ := h;refine ul (JY (Lh hv4) (Mj (Uw.cons (.p Z) Uw.nil)) Z Z (.cons (.c (.p _)) (.cons (.c (.fr Z (YT Z))) .nil))) <| dN 1 Z <| ul (Kd (rows := List.map (eI .i64) [6])) ?_;obtain ⟨v5, hv5, h⟩ := h;refine ul (JY (Lh hv5) (Mj (Uw.cons (.p Z) Uw.nil)) Z Z (.cons (.c (.p _)) (.cons (.c (.fr Z (YT Z))) .nil))) <| dN 1 Z <| ul (Kd (rows := List.map (eI .i64) [6, 7, 8])) ?_
 obtain ⟨v6, hv6, h⟩ := h;refine ul (JY (Lh hv6) (Mj (Uw.cons (.p Z) Uw.nil)) Z Z (.cons (.c (.p _)) (.cons (.c (.fr Z (YT Z))) .nil))) <| dN 1 Z <| ul (Kd (rows := List.map (eI .i64) [8])) ?_;obtain ⟨v7, hv7, h⟩ := h;refine ul (JY (Lh hv7) (Mj (Uw.cons (.p Z) Uw.nil)) Z Z (.cons (.c (.p _)) (.cons (.c (.fr Z (YT Z))) .nil))) <| dN 1 Z <| ul (Kd (rows := List.map (eI .i64) [10, 11, 12, 15])) ?_;obtain ⟨v8, hv8, h⟩ := h;refine ul (JY (Lh hv8) (Mj (Uw.cons (.p Z) Uw.nil)) Z Z (.cons (.c (.p _)) (.cons (.c (.fr Z (YT Z))) .nil))) <| dN 1 Z <| ul (Kd (rows := List.map (eI .i64) [10, 12, 15])) ?_;obtain ⟨v9, hv9, h⟩ := h;refine ul (JY (Lh hv9) (Mj (Uw.cons (.p Z) Uw.nil)) Z Z (.cons (.c (.p _)) (.cons (.c (.fr Z (YT Z))) .nil))) <| dN 1 Z <| ul (Kd (rows := List.map (eI .i64) [13, 14])) ?_;obtain ⟨v10, hv10, h⟩ := h;refine ul (JY (Lh hv10) (Mj (Uw.cons (.p Z) Uw.nil)) Z Z (.cons (.c (.p _)) (.cons (.c (.fr Z (YT Z))) .nil))) <| dN 1 Z <| ul (Kd (rows := List.map (eI .i64) [13])) ?_;obtain ⟨v11, hv11, h⟩ := h;refine ul (JY (Lh hv11) (Mj (Uw.cons (.p Z) Uw.nil)) Z Z (.cons (.c (.p _)) (.cons (.c (.fr Z (YT Z))) .nil))) <| dN 1 Z <| ul (Kd (rows := List.map (eI .i64) [5, 10])) ?_
 obtain ⟨v12, hv12, h⟩ := h;refine ul (JY (Lh hv12) (Mj (Uw.cons (.p Z) Uw.nil)) Z Z (.cons (.c (.p _)) (.cons (.c (.fr Z (YT Z))) .nil))) <| dN 1 Z <| ul (Kd (rows := List.map (eI .i64) [16])) ?_;obtain ⟨v13, hv13, h⟩ := h;refine ul (JY (Lh hv13) (Mj (Uw.cons (.p Z) Uw.nil)) Z Z (.cons (.c (.p _)) (.cons (.c (.fr Z (YT Z))) .nil))) ?_;refine u0 (NP (cs := [.p (.v (.bool v1)), .p (.v (.bool v2)), .p (.v (.bool v3)), .p (.v (.bool v4)), .p (.v (.bool v5)), .p (.v (.bool v6)), .p (.v (.bool v7)), .p (.v (.bool v8)), .p (.v (.bool v9)), .p (.v (.bool v10)), .p (.v (.bool v11)), .p (.v (.bool v12)), .p (.v (.bool v13))]) Z Z Z Z Z (by kernel_rfl)) ?_;refine dN 1 Z <| rt (hL _ ?_);refine ET (st' := ⟨[(2, .c (.ptr (2, 0) 0 0))], [((2, 0), some (.box ([.p (.v (.bool v1)), .p (.v (.bool v2)), .p (.v (.bool v3)), .p (.v (.bool v4)), .p (.v (.bool v5)), .p (.v (.bool v6)), .p (.v (.bool v7)), .p (.v (.bool v8)), .p (.v (.bool v9)), .p (.v (.bool v10)), .p (.v (.bool v11)), .p (.v (.bool v12)), .p (.v (.bool v13))])))]⟩) Aa.fit ?_;obtain rfl := h;exact AO (hQ _ _ ⟨.inr Z, _, _, _, (.cons (.cella Z Z Z Z Z) .nil), (.cons (.agg (fqp (fqp (fqp (fqp (fqp (fqp (fqp (fqp (fqp (fqp (fqp (fqp (fqp .nil)))))))))))))) .nil), Z, Z⟩)
theorem Q33 [Gc] : Db := { run := fun r h => Tv h, gm := Q15.gm }
theorem I9 [BM] : U6 := Zb (Kk.eq_1 _ _ _ _) Tryz.func27
theorem RX : B0 := Zb (Vv.eq_1 _ _) Tryz.func208
theorem Ia [VE] : ZR := rg0 (Qh.eq_1 _ _) Tryz.func230
theorem M0 [ZR] [Km] [ZE] [Xu] : An := Zb (Jr.eq_1 _) Tryz.func196
theorem RY : DN := Zb (Xw.eq_1 _ _) Tryz.func224
theorem Tw [V8] [Ut] [B8] [U9] [Ao] [CB] [Ua] [Ba] : F5 := Zb (Yp.eq_1 _ _ _ _) Tryz.func142
theorem Tx : C9 := Zb (Xj.eq_1 _ _) Tryz.func237
theorem OH [Uc] : CC := Zb (VP.eq_1 _ _) Tryz.func207
theorem MU : WT := Zb (KW.eq_1 _) Tryz.func161
theorem M1 [YF] [YG] [Wm] [Co] : Ap := Zb (Jt.eq_1 _ _ _ _ _) Tryz.func106
theorem Q34 [Gp] [W3] : Gq := fh0 (Wg.eq_1 _ _ _) Tryz.func29
theorem Ty [U6] [DK] [Gq] : Fa := Zb (Xk.eq_1 _ _) Tryz.func10
end Go.Proofs.YtimfmcpbkdpmoaaGreat
