/- Parts of the proof, laid together. No condition. -/
import Derived.Test.YtikagchjeogchaaGreatKB6
set_option linter.unusedVariables false
set_option linter.unusedSimpArgs false
set_option maxRecDepth 100000
set_option maxHeartbeats 4000000
namespace Go.Proofs.YtikagchjeogchaaGreat
open Go.RowKit
theorem Qbu : FY := Z8 (Zw.eq_1 _) Tryz.func30
theorem Qfy : F6 := Z8 (YL.eq_1 _) Tryz.func50
theorem L0 [ZF] : ZO := Z8 (Z3.eq_1 _) Tryz.func147
theorem Q7h : KQ := Z8 (Zt.eq_1 _) Tryz.func97
theorem NZ [ZL] [VM] [UN] [E0] : B9 := Z8 (Jy.eq_1 _) Tryz.func105
theorem O0 [ZF] : Bb := Z8 (JA.eq_1 _) Tryz.func160
theorem L5 [ZB] [ZG] [G6] [Bc] : Ue := Z8 (Kf.eq_1 _ _) Tryz.func164
theorem Q3a [CX] [AN] [Ez] [EA] [Lv] : Gv := Z8 (YR.eq_1 _) Tryz.func49
theorem Sp [Ey] : E9 := Z8 (Xk.eq_1 _) Tryz.func51
theorem O1 : Wz := Z8 (Kx.eq_1 _ _) Tryz.func53
theorem Q0r [HI] : C1 := Z8 (VU.eq_1 _ _) Tryz.func181
theorem P9 [Xd] : C5 := Z8 (V0.eq_1 _) Tryz.func261
theorem Pb [V2] : YF := Z8 (Ko.eq_1 _ _ _) Tryz.func127
theorem Pd [Kt] [AX] : C6 := Z8 (V3.eq_1 _ _) Tryz.func171
theorem Q0s : C9 := Z8 (VW.eq_1 _ _) Tryz.func182
theorem Q7i [HN] [V2] [E2] [U5] : HO := Z8 (WI.eq_1 _ _ _ _ _) Tryz.func80
theorem Q3b [UW] : GA := Z8 (YW.eq_1 _ _) Tryz.func206
theorem Qbv [ZL] [KQ] [G8] : Lx := Z8 (UX.eq_1 _ _) Tryz.func211
theorem Q0t [Jn] [Jl] [Ca] [EJ] [DC] : Fu := Z8 (Yb.eq_1 _ _ _ _) Tryz.func216
theorem Q0u [GF] [GG] : Fx := Z8 (Ye.eq_1 _) Tryz.func89
theorem Qz9 {w : World} {A : Nat → Prop} {gs : Nat → Option Nat} {g q : Nat} {xs : List PV} {vs : Array Value} (h : AsR w A gs g q [.agg xs] vs.toList) : ∃ cs, vs = #[.agg cs] ∧ MO w A (fun _ => none) 0 (xs.map .p) cs.toList := by
 suffices ∃ cs, vs.toList = [.agg cs] ∧ MO w A (fun _ => none) 0 (xs.map .p) cs.toList by
  obtain ⟨cs, h1, h2⟩ := this
  exact ⟨cs, by have := congrArg List.toArray h1; simpa using this, h2⟩
 revert h
 generalize vs.toList = l
 intro h
 match l, h with
 | [v], h =>
  obtain ⟨cs, rfl, h2⟩ := h.1
  exact ⟨cs, rfl, h2⟩
theorem KW {w : World} {A : Nat → Prop} {gs : Nat → Option Nat} {n : Nat} {x : RV} {r : List RV} {us : List Value} (h : MO w A gs n (x :: r) us) : ∃ u us', us = u :: us' ∧ RVr w A (gs n) x u ∧ MO w A gs (n + 1) r us' := by
 cases us with
 | nil => exact h.elim
 | cons u us => exact ⟨u, us, rfl, h.2.1, h.2.2⟩
theorem La {w : World} {A : Nat → Prop} {go : Option Nat} {x u : Value} (h : RVr w A go (.p (.v x)) u) : u = x := by
 have : RP w A (.v x) u := h
 cases this with | v _ _ => rfl
theorem Qif {w : World} {A : Nat → Prop} {go : Option Nat} {e : Nat} {rows : List (List PV)} {u : Value} (h : RVr w A go (.p (.l e rows)) u) : Sl u rows.length := by
 have : RP w A (.l e rows) u := h
 cases this with | l _ _ a cap c _ _ _ _ _ => exact ⟨a, cap, rfl⟩
set_option maxRecDepth 100000 in
theorem Z58 {w : World} {A : Nat → Prop} {a0 : Qj} {cs : Array Value} (hcs : MO w A (fun _ => none) 0 ((Ks a0).map .p) cs.toList) : ∃ vn vi vc vd, Value.agg cs = opV (Te a0) vn vi vc vd ∧ Sl vn (Te a0).names.length ∧ Sl vi (Te a0).items.length ∧ Sl vc (Te a0).coins.length ∧ Sl vd (Te a0).data.length := by
 simp only [Ks, List.map_cons, List.map_nil] at hcs
 obtain ⟨u0, l0, e0, h0, hcs⟩ := KW hcs
 have x0 := La h0
 obtain ⟨u1, l1, e1, h1, hcs⟩ := KW hcs
 have x1 := La h1
 obtain ⟨u2, l2, e2, h2, hcs⟩ := KW hcs
 have x2 := La h2
 obtain ⟨u3, l3, e3, h3, hcs⟩ := KW hcs
 have x3 := Qif h3
 obtain ⟨u4, l4, e4, h4, hcs⟩ := KW hcs
 have x4 := La h4
 obtain ⟨u5, l5, e5, h5, hcs⟩ := KW hcs
 have x5 := La h5
 obtain ⟨u6, l6, e6, h6, hcs⟩ := KW hcs
 have x6 := La h6
 obtain ⟨u7, l7, e7, h7, hcs⟩ := KW hcs
 have x7 := La h7
 obtain ⟨u8, l8, e8, h8, hcs⟩ := KW hcs
 have x8 := Qif h8
 obtain ⟨u9, l9, e9, h9, hcs⟩ := KW hcs
 have x9 := Qif h9
 obtain ⟨u10, l10, e10, h10, hcs⟩ := KW hcs
 have x10 := La h10
 obtain ⟨u11, l11, e11, h11, hcs⟩ := KW hcs
 have x11 := La h11
 obtain ⟨u12, l12, e12, h12, hcs⟩ := KW hcs
 have x12 := La h12
 obtain ⟨u13, l13, e13, h13, hcs⟩ := KW hcs
 have x13 := La h13
 obtain ⟨u14, l14, e14, h14, hcs⟩ := KW hcs
 have x14 := La h14
 obtain ⟨u15, l15, e15, h15, hcs⟩ := KW hcs
 have x15 := La h15
 obtain ⟨u16, l16, e16, h16, hcs⟩ := KW hcs
 have x16 := La h16
 obtain ⟨u17, l17, e17, h17, hcs⟩ := KW hcs
 have x17 := La h17
 obtain ⟨u18, l18, e18, h18, hcs⟩ := KW hcs
 have x18 := La h18
 obtain ⟨u19, l19, e19, h19, hcs⟩ := KW hcs
 have x19 := La h19
 obtain ⟨u20, l20, e20, h20, hcs⟩ := KW hcs
 have x20 := La h20
 obtain ⟨u21, l21, e21, h21, hcs⟩ := KW hcs
 have x21 := Qif h21
 have hl : cs.toList = [u0, u1, u2, u3, u4, u5, u6, u7, u8, u9, u10, u11, u12, u13, u14, u15, u16, u17, u18, u19, u20, u21] := by
  have h0 : l21 = [] := by
   cases l21 with
   | nil => rfl
   | cons v l => exact hcs.elim
  rw [e0, e1, e2, e3, e4, e5, e6, e7, e8, e9, e10, e11, e12, e13, e14, e15, e16, e17, e18, e19, e20, e21, h0]
 refine ⟨u3, u8, u9, u21, ?_, by simpa [Te] using x3, by simpa [Te] using x8, by simpa [Te] using x9, by simpa [Te] using x21⟩
 have hc : cs = #[u0, u1, u2, u3, u4, u5, u6, u7, u8, u9, u10, u11, u12, u13, u14, u15, u16, u17, u18, u19, u20, u21] := by have := congrArg List.toArray hl; simpa using this
 rw [hc, x0, x1, x2, x4, x5, x6, x7, x10, x11, x12, x13, x14, x15, x16, x17, x18, x19, x20]
 rfl
theorem LZ [Cg] : A1 := by
 intro a0
 refine { run := fun r h => ?_, gm := by exact gm_ }
 obtain ⟨C, ⟨hwf, hC⟩, hr⟩ := h
 rw [← hr] at hwf
 refine T4 (by kernel_rfl) hwf rfl fun A q w vs hA hR => ?_
 obtain ⟨cs, rfl, hcs⟩ := Qz9 hR
 obtain ⟨vn, vi, vc, vd, hv, h1, h2, h3, h4⟩ := Z58 hcs
 rw [hv, hr]
 rw [hv] at hR
 refine Qjt (Te a0) C vn vi vc vd w h1 h2 h3 h4 fun f w' hf hm g => ?_
 refine Yt (A := A) (q := 0) (g := w'.heap.size) (Lc (hC f hf hm)) rfl (fun x hx => Nat.lt_of_lt_of_le (hA x hx) g.size) ?_
 have h1 := Q9o (g' := w'.heap.size) (q' := 0) g hA rfl hR
 refine ⟨h1.1, .v _ ?_, trivial⟩
 simp only [JP, Lit.wf, Bool.and_eq_true, decide_eq_true_eq]
 constructor <;> simp [IntKind.min, IntKind.max, IntKind.bits, IntKind.signed] <;> omega
theorem Sq : U1 := Z8 (Jv.eq_1 _) Tryz.func11
end Go.Proofs.YtikagchjeogchaaGreat
