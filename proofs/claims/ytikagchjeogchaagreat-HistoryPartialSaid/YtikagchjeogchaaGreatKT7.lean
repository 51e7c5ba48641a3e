/- Parts of the proof, laid together. No condition. -/
import Derived.Test.YtikagchjeogchaaGreatKB6
set_option linter.unusedVariables false
set_option linter.unusedSimpArgs false
set_option maxRecDepth 100000
set_option maxHeartbeats 4000000
namespace Go.Proofs.YtikagchjeogchaaGreat
open Go.RowKit
theorem Qbo [Lt] [As] : FX := Z8 (Wl.eq_1 _) Tryz.func17
theorem Qbp : Yx := Z8 (ZP.eq_1 _ _) Tryz.func218
theorem Q2y : Dr := Z8 (XF.eq_1 _ _) Tryz.func219
theorem Hk [ZF] [KQ] : ZC := Z8 (QS.eq_1 _) Tryz.func149
theorem R9 [Ku] [VM] [UN] [E0] : D1 := Z8 (Vn.eq_1 _) Tryz.func103
theorem Ra : Aj := Z8 (JJ.eq_1 _) Tryz.func162
theorem Q77 : EE := Z8 (JX.eq_1 _ _) Tryz.func232
theorem Sj : AY := Z8 (Vg.eq_1 _) Tryz.func233
theorem Q2z [HG] {a0 : Int} {r : JS} (h : Rr (YC a0) r) : XU Tryz.prog 64 [.c (.v (.int .i64 a0))] [.agg [.p (.v (.bool r.fe0)), .p (.v (.bool r.fe1)), .p (.v (.bool r.fe2)), .p (.v (.bool r.fe3)), .p (.v (.bool r.fe4)), .p (.v (.bool r.fe5)), .p (.v (.bool r.fe6)), .p (.v (.bool r.fe7)), .p (.v (.bool r.fe8)), .p (.v (.bool r.fe9)), .p (.v (.bool r.fe10)), .p (.v (.bool r.fe11)), .p (.v (.bool r.fe12))]] [] := by
 refine Ma tb Tryz.func64 Z (by kernel_rfl) Z Z (Nat.le_of_ble_eq_true Z) Z ?_;intro E;unfold Rr YC at h
 simp only [ct, cs, jo, Go.Proofs.YtikagchjeogchaaGreat.lo, lv, Qb] at h
 refine Z3q (fun Q hQ => ?_);refine tD Z <| tk fun L hL => dN 1 Z <| ul (Kn (rows := List.map (eI .i64) [1, 2, 3, 5, 6, 7, 8, 16])) ?_;obtain ⟨v1, hv1, h⟩ := h;refine ul (Va (Lc hv1) (Ow (Ar.cons (.p Z) Ar.nil)) Z Z (.cons (.c (.p _)) (.cons (.c (.fr Z (Ws Z))) .nil))) <| dN 1 Z <| ul (Kn (rows := List.map (eI .i64) [3, 7, 8])) ?_;obtain ⟨v2, hv2, h⟩ := h;refine ul (Va (Lc hv2) (Ow (Ar.cons (.p Z) Ar.nil)) Z Z (.cons (.c (.p _)) (.cons (.c (.fr Z (Ws Z))) .nil))) <| dN 1 Z <| ul (Kn (rows := List.map (eI .i64) [9])) ?_;obtain ⟨v3, hv3, h⟩ := h;refine ul (Va (Lc hv3) (Ow (Ar.cons (.p Z) Ar.nil)) Z Z (.cons (.c (.p _)) (.cons (.c (.fr Z (Ws Z))) .nil))) <| dN 1 Z <| ul (Kn (rows := List.map (eI .i64) [1])) ?_;obtain ⟨v4, hv4, h⟩ := h;refine ul (Va (Lc hv4) (Ow (Ar.cons (.p Z) Ar.nil)) Z Z (.cons (.c (.p _)) (.cons (.c (.fr Z (Ws Z))) .nil))) <| dN 1 Z <| ul (Kn (rows := List.map (eI .i64) [6])) ?_;obtain ⟨v5, hv5, h⟩ := h;refine ul (Va (Lc hv5) (Ow (Ar.cons (.p Z) Ar.nil)) Z Z (.cons (.c (.p _)) (.cons (.c (.fr Z (Ws Z))) .nil))) <| dN 1 Z <| ul (Kn (rows := List.map (eI .i64) [6, 7, 8])) ?_
 obtain ⟨v6, hv6, h⟩ := h;refine ul (Va (Lc hv6) (Ow (Ar.cons (.p Z) Ar.nil)) Z Z (.cons (.c (.p _)) (.cons (.c (.fr Z (Ws Z))) .nil))) <| dN 1 Z <| ul (Kn (rows := List.map (eI .i64) [8])) ?_;obtain ⟨v7, hv7, h⟩ := h;refine ul (Va (Lc hv7) (Ow (Ar.cons (.p Z) Ar.nil)) Z Z (.cons (.c (.p _)) (.cons (.c (.fr Z (Ws Z))) .nil))) <| dN 1 Z <| ul (Kn (rows := List.map (eI .i64) [10, 11, 12, 15])) ?_;obtain ⟨v8, hv8, h⟩ := h;refine ul (Va (Lc hv8) (Ow (Ar.cons (.p Z) Ar.nil)) Z Z (.cons (.c (.p _)) (.cons (.c (.fr Z (Ws Z))) .nil))) <| dN 1 Z <| ul (Kn (rows := List.map (eI .i64) [10, 12, 15])) ?_;obtain ⟨v9, hv9, h⟩ := h;refine ul (Va (Lc hv9) (Ow (Ar.cons (.p Z) Ar.nil)) Z Z (.cons (.c (.p _)) (.cons (.c (.fr Z (Ws Z))) .nil))) <| dN 1 Z <| ul (Kn (rows := List.map (eI .i64) [13, 14])) ?_;obtain ⟨v10, hv10, h⟩ := h;refine ul (Va (Lc hv10) (Ow (Ar.cons (.p Z) Ar.nil)) Z Z (.cons (.c (.p _)) (.cons (.c (.fr Z (Ws Z))) .nil))) <| dN 1 Z <| ul (Kn (rows := List.map (eI .i64) [13])) ?_;obtain ⟨v11, hv11, h⟩ := h;refine ul (Va (Lc hv11) (Ow (Ar.cons (.p Z) Ar.nil)) Z Z (.cons (.c (.p _)) (.cons (.c (.fr Z (Ws Z))) .nil))) <| dN 1 Z <| ul (Kn (rows := List.map (eI .i64) [5, 10])) ?_
 obtain ⟨v12, hv12, h⟩ := h;refine ul (Va (Lc hv12) (Ow (Ar.cons (.p Z) Ar.nil)) Z Z (.cons (.c (.p _)) (.cons (.c (.fr Z (Ws Z))) .nil))) <| dN 1 Z <| ul (Kn (rows := List.map (eI .i64) [16])) ?_;obtain ⟨v13, hv13, h⟩ := h;refine ul (Va (Lc hv13) (Ow (Ar.cons (.p Z) Ar.nil)) Z Z (.cons (.c (.p _)) (.cons (.c (.fr Z (Ws Z))) .nil))) ?_;refine u0 (Rq (cs := [.p (.v (.bool v1)), .p (.v (.bool v2)), .p (.v (.bool v3)), .p (.v (.bool v4)), .p (.v (.bool v5)), .p (.v (.bool v6)), .p (.v (.bool v7)), .p (.v (.bool v8)), .p (.v (.bool v9)), .p (.v (.bool v10)), .p (.v (.bool v11)), .p (.v (.bool v12)), .p (.v (.bool v13))]) Z Z Z Z Z (by kernel_rfl)) ?_;refine dN 1 Z <| rt (hL _ ?_);refine F2 (st' := ⟨[(2, .c (.ptr (2, 0) 0 0))], [((2, 0), some (.box ([.p (.v (.bool v1)), .p (.v (.bool v2)), .p (.v (.bool v3)), .p (.v (.bool v4)), .p (.v (.bool v5)), .p (.v (.bool v6)), .p (.v (.bool v7)), .p (.v (.bool v8)), .p (.v (.bool v9)), .p (.v (.bool v10)), .p (.v (.bool v11)), .p (.v (.bool v12)), .p (.v (.bool v13))])))]⟩) UF.fit ?_;obtain rfl := h;exact UG (hQ _ _ ⟨.inr Z, _, _, _, (.cons (.cella Z Z Z Z Z) .nil), (.cons (.agg (fqp (fqp (fqp (fqp (fqp (fqp (fqp (fqp (fqp (fqp (fqp (fqp (fqp .nil)))))))))))))) .nil), Z, Z⟩)
theorem Q78 [HG] : EG := { run := fun r h => Q2z h, gm := Q59.gm }
theorem Q30 [Fa] : Jl := Z8 (Zp.eq_1 _) Tryz.func65
theorem Q0h [BI] [Wz] : Fb := fh0 (Y0.eq_1 _ _ _) Tryz.func36
theorem Q79 [Yn] [Yo] [C1] [HH] : C2 := Z8 (Xx.eq_1 _ _ _) Tryz.func120
theorem NV [C5] : Y1 := rg0 (K4.eq_1 _) Tryz.func245
theorem Q31 : Dx := Z8 (XJ.eq_1 _ _) Tryz.func191
theorem LX [ZB] [Bc] : UT := Z8 (KA.eq_1 _ _) Tryz.func172
theorem Q32 [C9] : Dz := Z8 (XL.eq_1 _ _) Tryz.func122
theorem Q0i : UV := Z8 (Zs.eq_1 _ _) Tryz.func82
theorem Q33 [GA] : GB := Z8 (YX.eq_1 _) Tryz.func133
theorem Sk [ZL] [ZF] [C9] [G8] : Ee := Z8 (Xq.eq_1 _ _ _) Tryz.func212
theorem Q0j [Jl] [U5] [Fu] : Fv := Z8 (Yc.eq_1 _ _ _) Tryz.func139
theorem Rb [Fx] : Am := Z8 (JK.eq_1 _) Tryz.func55
theorem Rc : Hd := Z8 (An.eq_1 _ _) Tryz.func40
theorem NW : Vz := Z8 (Zc.eq_1 _ _) Tryz.func21
end Go.Proofs.YtikagchjeogchaaGreat
