/- Parts of the proof, laid together. No condition. -/
import Derived.Test.YtimfmcpbkdpmoaaGreatKB6
set_option linter.unusedVariables false
set_option linter.unusedSimpArgs false
set_option maxRecDepth 100000
set_option maxHeartbeats 4000000
namespace Go.Proofs.YtimfmcpbkdpmoaaGreat
open Go.RowKit
theorem Qgd : BQ := Zd (VM.eq_1 _ _) Tryz.func19
theorem Q3q [DW] : Dk := Zd (Xb.eq_1 _) Tryz.func48
theorem HB [Zx] : ZI := Zd (Z1.eq_1 _) Tryz.func79
theorem Na [A5] : B4 := Zd (JO.eq_1 _ _) Tryz.func129
theorem Q84 : Ua := Zd (Vy.eq_1 _) Tryz.func85
theorem OW : CQ := Zd (VR.eq_1 _) Tryz.func88
theorem OX [Zx] : CS := Zd (VS.eq_1 _) Tryz.func68
theorem Q3r [DZ] : Dm := Zd (Yd.eq_1 _) Tryz.func170
theorem Q3s : Do := Zd (Ji.eq_1 _ _) Tryz.func122
theorem OY [Dk] : CX := Zd (VU.eq_1 _) Tryz.func53
theorem TP [Gy] {a0 : Int} {r : DV} (h : Rr (Yf a0) r) : Va Tryz.prog 92 [.c (.v (.int .i64 a0))] [.agg [.p (.v (.bool r.fe0)), .p (.v (.bool r.fe1)), .p (.v (.bool r.fe2)), .p (.v (.bool r.fe3)), .p (.v (.bool r.fe4)), .p (.v (.bool r.fe5)), .p (.v (.bool r.fe6)), .p (.v (.bool r.fe7)), .p (.v (.bool r.fe8)), .p (.v (.bool r.fe9)), .p (.v (.bool r.fe10)), .p (.v (.bool r.fe11)), .p (.v (.bool r.fe12))]] [] := by
 refine No tb Tryz.func92 Z (by kernel_rfl) Z Z (Nat.le_of_ble_eq_true Z) Z ?_;intro E;unfold Rr Yf at h
 simp only [ct, cs, jo, Go.Proofs.YtimfmcpbkdpmoaaGreat.lo, lv, Qh] at h
 refine aw_Q (fun Q hQ => ?_);refine tD Z <| tk fun L hL => dN 1 Z <| ul (Ki (rows := List.map (eI .i64) [1, 2, 3, 5, 6, 7, 8, 16])) ?_;obtain ⟨v1, hv1, h⟩ := h;refine ul (V4 (Lx hv1) (MD (UD.cons (.p Z) UD.nil)) Z Z (.cons (.c (.p _)) (.cons (.c (.fr Z (YZ Z))) .nil))) <| dN 1 Z <| ul (Ki (rows := List.map (eI .i64) [3, 7, 8])) ?_;obtain ⟨v2, hv2, h⟩ := h;refine ul (V4 (Lx hv2) (MD (UD.cons (.p Z) UD.nil)) Z Z (.cons (.c (.p _)) (.cons (.c (.fr Z (YZ Z))) .nil))) <| dN 1 Z <| ul (Ki (rows := List.map (eI .i64) [9])) ?_;obtain ⟨v3, hv3, h⟩ := h;refine ul (V4 (Lx hv3) (MD (UD.cons (.p Z) UD.nil)) Z Z (.cons (.c (.p _)) (.cons (.c (.fr Z (YZ Z))) .nil))) <| dN 1 Z <| ul (Ki (rows := List.map (eI .i64) [1])) ?_;obtain ⟨v4, hv4, h⟩ := h;refine ul (V4 (Lx hv4) (MD (UD.cons (.p Z) UD.nil)) Z Z (.cons (.c (.p _)) (.cons (.c (.fr Z (YZ Z))) .nil))) <| dN 1 Z <| ul (Ki (rows := List.map (eI .i64) [6])) ?_;obtain ⟨v5, hv5, h⟩ := h;refine ul (V4 (Lx hv5) (MD (UD.cons (.p Z) UD.nil)) Z Z (.cons (.c (.p _)) (.cons (.c (.fr Z (YZ Z))) .nil))) <| dN 1 Z <| ul (Ki (rows := List.map (eI .i64) [6, 7, 8])) ?_
 obtain ⟨v6, hv6, h⟩ := h;refine ul (V4 (Lx hv6) (MD (UD.cons (.p Z) UD.nil)) Z Z (.cons (.c (.p _)) (.cons (.c (.fr Z (YZ Z))) .nil))) <| dN 1 Z <| ul (Ki (rows := List.map (eI .i64) [8])) ?_;obtain ⟨v7, hv7, h⟩ := h;refine ul (V4 (Lx hv7) (MD (UD.cons (.p Z) UD.nil)) Z Z (.cons (.c (.p _)) (.cons (.c (.fr Z (YZ Z))) .nil))) <| dN 1 Z <| ul (Ki (rows := List.map (eI .i64) [10, 11, 12, 15])) ?_;obtain ⟨v8, hv8, h⟩ := h;refine ul (V4 (Lx hv8) (MD (UD.cons (.p Z) UD.nil)) Z Z (.cons (.c (.p _)) (.cons (.c (.fr Z (YZ Z))) .nil))) <| dN 1 Z <| ul (Ki (rows := List.map (eI .i64) [10, 12, 15])) ?_;obtain ⟨v9, hv9, h⟩ := h;refine ul (V4 (Lx hv9) (MD (UD.cons (.p Z) UD.nil)) Z Z (.cons (.c (.p _)) (.cons (.c (.fr Z (YZ Z))) .nil))) <| dN 1 Z <| ul (Ki (rows := List.map (eI .i64) [13, 14])) ?_;obtain ⟨v10, hv10, h⟩ := h;refine ul (V4 (Lx hv10) (MD (UD.cons (.p Z) UD.nil)) Z Z (.cons (.c (.p _)) (.cons (.c (.fr Z (YZ Z))) .nil))) <| dN 1 Z <| ul (Ki (rows := List.map (eI .i64) [13])) ?_;obtain ⟨v11, hv11, h⟩ := h;refine ul (V4 (Lx hv11) (MD (UD.cons (.p Z) UD.nil)) Z Z (.cons (.c (.p _)) (.cons (.c (.fr Z (YZ Z))) .nil))) <| dN 1 Z <| ul (Ki (rows := List.map (eI .i64) [5, 10])) ?_
 obtain ⟨v12, hv12, h⟩ := h;refine ul (V4 (Lx hv12) (MD (UD.cons (.p Z) UD.nil)) Z Z (.cons (.c (.p _)) (.cons (.c (.fr Z (YZ Z))) .nil))) <| dN 1 Z <| ul (Ki (rows := List.map (eI .i64) [16])) ?_;obtain ⟨v13, hv13, h⟩ := h;refine ul (V4 (Lx hv13) (MD (UD.cons (.p Z) UD.nil)) Z Z (.cons (.c (.p _)) (.cons (.c (.fr Z (YZ Z))) .nil))) ?_;refine u0 (O9 (cs := [.p (.v (.bool v1)), .p (.v (.bool v2)), .p (.v (.bool v3)), .p (.v (.bool v4)), .p (.v (.bool v5)), .p (.v (.bool v6)), .p (.v (.bool v7)), .p (.v (.bool v8)), .p (.v (.bool v9)), .p (.v (.bool v10)), .p (.v (.bool v11)), .p (.v (.bool v12)), .p (.v (.bool v13))]) Z Z Z Z Z (by kernel_rfl)) ?_;refine dN 1 Z <| rt (hL _ ?_);refine F8 (st' := ⟨[(2, .c (.ptr (2, 0) 0 0))], [((2, 0), some (.box ([.p (.v (.bool v1)), .p (.v (.bool v2)), .p (.v (.bool v3)), .p (.v (.bool v4)), .p (.v (.bool v5)), .p (.v (.bool v6)), .p (.v (.bool v7)), .p (.v (.bool v8)), .p (.v (.bool v9)), .p (.v (.bool v10)), .p (.v (.bool v11)), .p (.v (.bool v12)), .p (.v (.bool v13))])))]⟩) Ae.fit ?_;obtain rfl := h;exact AU (hQ _ _ ⟨.inr Z, _, _, _, (.cons (.cella Z Z Z Z Z) .nil), (.cons (.agg (fqp (fqp (fqp (fqp (fqp (fqp (fqp (fqp (fqp (fqp (fqp (fqp (fqp .nil)))))))))))))) .nil), Z, Z⟩)
theorem Q3t [Gy] : Dq := { run := fun r h => TP h, gm := Q1z.gm }
theorem Nb [Yg] : B7 := Zd (JS.eq_1 _ _) Tryz.func136
theorem Q3u : Gz := Zd (Wa.eq_1 _) Tryz.func186
theorem Nc : Be := Zd (JU.eq_1 _) Tryz.func242
theorem TQ [CI] [VV] [Bb] [Ue] : Cg := Zd (Xm.eq_1 _ _) Tryz.func137
theorem Si : JX := Zd (QX.eq_1 _ _) Tryz.func138
theorem Q85 [YK] [I5] [AO] [Yh] : EP := Zd (YV.eq_1 _ _ _) Tryz.func140
theorem Sj : Bl := Zd (VG.eq_1 _ _) Tryz.func188
theorem Q3v : GE := Zd (Wg.eq_1 _) Tryz.func152
theorem OZ [Wv] : D1 := Zd (VY.eq_1 _ _) Tryz.func211
theorem TR [Eb] : Fv := Zd (YD.eq_1 _ _ _) Tryz.func238
theorem Q3w : Du := Zd (Xf.eq_1 _ _) Tryz.func241
theorem TS [Fy] [A8] : Fz := Zd (Xv.eq_1 _ _) Tryz.func33
end Go.Proofs.YtimfmcpbkdpmoaaGreat
