/- Parts of the proof, laid together. No condition. -/
import Derived.Test.YtpnpodbihdiegaaGreatR5
import Derived.Laws.Bits64
set_option linter.unusedVariables false
set_option linter.unusedSimpArgs false
namespace Go.Proofs.YtpnpodbihdiegaaGreat
open Go.RowKit
set_option maxRecDepth 100000
set_option maxHeartbeats 4000000
def Vj (a0 : (List ByteArray)) (Q : ((List ByteArray)) → Prop) : Prop :=
 ((a0 = [] → Q (([] : (List ByteArray)))) ∧ (((([] : List ByteArray)).length + a0.length) * 16 ≤ 140737488355328) ∧ Q (((([] : List ByteArray)) ++ a0)))
def Zh (a0 : (List ByteArray)) (r : (List ByteArray)) : Prop := Vj a0 fun x => r = x
theorem KX {a0 : (List ByteArray)} {r : (List ByteArray)} (h : Zh a0 r) : Qp Tryz.prog 47 [.c (.l 1 (List.map eS a0))] [.c (.own 1 (List.map eS r))] [] := by
  refine Qn tb Tryz.func47 Z (by kernel_rfl) Z Z (Nat.le_of_ble_eq_true Z) Z ?_;intro E;unfold Zh Vj at h;refine Z3 (fun Q hQ => ?_);refine tD Z ?_;refine sk fun L1 hL1 => ?_;refine sk fun L hL => Wk Z Z Z Z Z (fun h0 => hL _ ?_) (hL _ ?_)
  · replace h := h.1 (by simpa using h0);refine Ym Z Z ?_;refine tD Z ?_;obtain rfl := h;exact Qf (hQ _ _ ⟨.inr Z, _, _, _, (.cons (.p Z) .nil), (.cons (.c (.nilo _ (Nat.le_of_ble_eq_true Z))) .nil), Z, Z⟩)
  · replace h := h.2;refine Yn Z Z ?_;refine Qh (hL1 _ ?_);refine tk fun L hL => ?_;refine ul (Wj (f := eS)) ?_;refine dN 1 Z ?_;obtain ⟨hm2, h⟩ := h;refine ul (QI (f := eS) (L := ([] : List ByteArray)) (L' := a0) hm2 Z Z Z Z Z Z Z Z Z Z Z (Vv QJ Z Z Z Z Z)) ?_;refine dN 1 Z ?_;refine rt (hL _ ?_);obtain rfl := h;exact Qf (hQ _ _ (E6 Z Z Z Z))
def JW (a0 : (List Qi)) (Q : ((List Qi)) → Prop) : Prop :=
 ((a0 = [] → Q (([] : (List Qi)))) ∧ (((([] : List Qi)).length + a0.length) * 24 ≤ 140737488355328) ∧ Q (((([] : List Qi)) ++ a0)))
def ZI (a0 : (List Qi)) (r : (List Qi)) : Prop := JW a0 fun x => r = x
theorem YM {a0 : (List Qi)} {r : (List Qi)} (h : ZI a0 r) : Qp Tryz.prog 48 [.c (.l 2 (List.map QK a0))] [.c (.own 2 (List.map QK r))] [] := by
  refine Qn tb Tryz.func48 Z (by kernel_rfl) Z Z (Nat.le_of_ble_eq_true Z) Z ?_;intro E;unfold ZI JW at h;refine Z3 (fun Q hQ => ?_);refine tD Z ?_;refine sk fun L1 hL1 => ?_;refine sk fun L hL => Wk Z Z Z Z Z (fun h0 => hL _ ?_) (hL _ ?_)
  · replace h := h.1 (by simpa using h0);refine Ym Z Z ?_;refine tD Z ?_;obtain rfl := h;exact Qf (hQ _ _ ⟨.inr Z, _, _, _, (.cons (.p Z) .nil), (.cons (.c (.nilo _ (Nat.le_of_ble_eq_true Z))) .nil), Z, Z⟩)
  · replace h := h.2;refine Yn Z Z ?_;refine Qh (hL1 _ ?_);refine tk fun L hL => ?_;refine ul (Wj (f := QK)) ?_;refine dN 1 Z ?_;obtain ⟨hm2, h⟩ := h;refine ul (QI (f := QK) (L := ([] : List Qi)) (L' := a0) hm2 Z Z Z Z Z Z Z Z Z Z Z (Vv QJ Z Z Z Z Z)) ?_;refine dN 1 Z ?_;refine rt (hL _ ?_);obtain rfl := h;exact Qf (hQ _ _ (E6 Z Z Z Z))
def Y3 (a0 : (List Int)) (Q : ((List Int)) → Prop) : Prop :=
 ((a0 = [] → Q (([] : (List Int)))) ∧ (((([] : List Int)).length + a0.length) * 1 ≤ 140737488355328) ∧ Q (((([] : List Int)) ++ a0)))
def ZD (a0 : (List Int)) (r : (List Int)) : Prop := Y3 a0 fun x => r = x
theorem V0 {a0 : (List Int)} {r : (List Int)} (h : ZD a0 r) : Qp Tryz.prog 49 [.c (.l 1 (List.map (eI .u8) a0))] [.c (.own 1 (List.map (eI .u8) r))] [] := by
  refine Qn tb Tryz.func49 Z (by kernel_rfl) Z Z (Nat.le_of_ble_eq_true Z) Z ?_;intro E;unfold ZD Y3 at h;refine Z3 (fun Q hQ => ?_);refine tD Z ?_;refine sk fun L1 hL1 => ?_;refine sk fun L hL => Wk Z Z Z Z Z (fun h0 => hL _ ?_) (hL _ ?_)
  · replace h := h.1 (by simpa using h0);refine Ym Z Z ?_;refine tD Z ?_;obtain rfl := h;exact Qf (hQ _ _ ⟨.inr Z, _, _, _, (.cons (.p Z) .nil), (.cons (.c (.nilo _ (Nat.le_of_ble_eq_true Z))) .nil), Z, Z⟩)
  · replace h := h.2;refine Yn Z Z ?_;refine Qh (hL1 _ ?_);refine tk fun L hL => ?_;refine ul (Wj (f := (eI .u8))) ?_;refine dN 1 Z ?_;obtain ⟨hm2, h⟩ := h;refine ul (QI (f := (eI .u8)) (L := ([] : List Int)) (L' := a0) hm2 Z Z Z Z Z Z Z Z Z Z Z (Vv QJ Z Z Z Z Z)) ?_;refine dN 1 Z ?_;refine rt (hL _ ?_);obtain rfl := h;exact Qf (hQ _ _ (E6 Z Z Z Z))
def WE (a0 : Qq) (Q : Qq → Prop) : Prop :=
 ∃ v1, Zh a0.fa2 v1 ∧ ∃ v2, ZI a0.f8 v2 ∧ ∃ v3, ZD a0.fb5 v3 ∧ ∃ v4, ZD a0.fb4 v4 ∧ Q ((Qq.mk a0.fo a0.fb7 a0.fj v1 a0.fb v2 v3 a0.fa3 a0.fb0 a0.fa5 a0.fb6 a0.fa6 a0.f0 a0.fv v4))
def Jl (a0 : Qq) (r : Qq) : Prop := WE a0 fun x => r = x
theorem WF {a0 : Qq} {r : Qq} (h : Jl a0 r) : Qp Tryz.prog 33 [.agg (Zi a0)] [.agg [.p (.v (.int .i64 r.fo)), .p (.v (.string r.fb7)), .p (.v (.string r.fj)), .own 1 (List.map eS r.fa2), .p (.v (.int .i64 r.fb.fo)), .p (.v (.int .i64 r.fb.fg)), .p (.v (.int .i64 r.fb.fq)), .p (.v (.int .u64 r.fb.fu)), .own 2 (List.map QK r.f8), .own 1 (List.map (eI .u8) r.fb5), .p (.v (.int .i64 r.fa3)), .p (.v (.int .i64 r.fb0)), .p (.v (.int .i64 r.fa5)), .p (.v (.int .i64 r.fb6)), .p (.v (.int .i64 r.fa6)), .p (.v (.int .i64 r.f0)), .p (.v (.int .i64 r.fv.fo)), .p (.v (.string r.fv.fa1)), .p (.v (.int .i64 r.fv.f0)), .p (.v (.int .i64 r.fv.fc0)), .p (.v (.int .i64 r.fv.fb9)), .own 1 (List.map (eI .u8) r.fb4)]] [] := by
  refine Qn tb Tryz.func33 Z (by kernel_rfl) Z Z (Nat.le_of_ble_eq_true Z) Z ?_;intro E;unfold Jl WE at h;refine Z3 (fun Q hQ => ?_);refine tD Z ?_;refine dk mixed (fun L hL => ?_);refine dN 2 Z ?_;obtain ⟨v1, hv1, h⟩ := h;refine ul (Zt (KX hv1)) ?_;refine dN 2 Z ?_;obtain ⟨v2, hv2, h⟩ := h;refine ul (Zt (YM hv2)) ?_;refine dN 4 Z ?_;refine rd (hL _ ?_);refine dk mixed (fun L hL => ?_);refine dN 2 Z ?_;obtain ⟨v3, hv3, h⟩ := h;refine ul (Zt (V0 hv3)) ?_;refine dN 2 Z ?_;obtain ⟨v4, hv4, h⟩ := h;refine ul (Zt (V0 hv4)) ?_;refine dN 4 Z ?_;refine rd (hL _ ?_);refine tD Z ?_;obtain rfl := h;exact Qf (hQ _ _ ⟨.inr Z, _, _, _, (.cons (.cella Z Z Z Z Z) .nil), (.cons (.agg (Qs (Qs (Qs (.cons (.own Z Z) (Qs (Qs (Qs (Qs (.cons (.own Z Z) (.cons (.own Z Z) (Qs (Qs (Qs (Qs (Qs (Qs (Qs (Qs (Qs (Qs (Qs (.cons (.own Z Z) .nil))))))))))))))))))))))) .nil), Z, Z⟩)
def YN (a0 : (List Int)) (Q : ((List Int)) → Prop) : Prop :=
 ((a0 = [] → Q (([] : (List Int)))) ∧ (((([] : List Int)).length + a0.length) * 8 ≤ 140737488355328) ∧ Q (((([] : List Int)) ++ a0)))
def K1 (a0 : (List Int)) (r : (List Int)) : Prop := YN a0 fun x => r = x
theorem VD {a0 : (List Int)} {r : (List Int)} (h : K1 a0 r) : Qp Tryz.prog 75 [.c (.l 1 (List.map (eI .i64) a0))] [.c (.own 1 (List.map (eI .i64) r))] [] := by
  refine Qn tb Tryz.func75 Z (by kernel_rfl) Z Z (Nat.le_of_ble_eq_true Z) Z ?_;intro E;unfold K1 YN at h;refine Z3 (fun Q hQ => ?_);refine tD Z ?_;refine sk fun L1 hL1 => ?_;refine sk fun L hL => Wk Z Z Z Z Z (fun h0 => hL _ ?_) (hL _ ?_)
  · replace h := h.1 (by simpa using h0);refine Ym Z Z ?_;refine tD Z ?_;obtain rfl := h;exact Qf (hQ _ _ ⟨.inr Z, _, _, _, (.cons (.p Z) .nil), (.cons (.c (.nilo _ (Nat.le_of_ble_eq_true Z))) .nil), Z, Z⟩)
  · replace h := h.2;refine Yn Z Z ?_;refine Qh (hL1 _ ?_);refine tk fun L hL => ?_;refine ul (Wj (f := (eI .i64))) ?_;refine dN 1 Z ?_;obtain ⟨hm2, h⟩ := h;refine ul (QI (f := (eI .i64)) (L := ([] : List Int)) (L' := a0) hm2 Z Z Z Z Z Z Z Z Z Z Z (Vv QJ Z Z Z Z Z)) ?_;refine dN 1 Z ?_;refine rt (hL _ ?_);obtain rfl := h;exact Qf (hQ _ _ (E6 Z Z Z Z))
def JH (a0 : (List Q1)) (Q : ((List Q1)) → Prop) : Prop :=
 ((a0 = [] → Q (([] : (List Q1)))) ∧ (((([] : List Q1)).length + a0.length) * 32 ≤ 140737488355328) ∧ Q (((([] : List Q1)) ++ a0)))
def Zj (a0 : (List Q1)) (r : (List Q1)) : Prop := JH a0 fun x => r = x
theorem JJ {a0 : (List Q1)} {r : (List Q1)} (h : Zj a0 r) : Qp Tryz.prog 114 [.c (.l 3 (List.map Q9 a0))] [.c (.own 3 (List.map Q9 r))] [] := by
  refine Qn tb Tryz.func114 Z (by kernel_rfl) Z Z (Nat.le_of_ble_eq_true Z) Z ?_;intro E;unfold Zj JH at h;refine Z3 (fun Q hQ => ?_);refine tD Z ?_;refine sk fun L1 hL1 => ?_;refine sk fun L hL => Wk Z Z Z Z Z (fun h0 => hL _ ?_) (hL _ ?_)
  · replace h := h.1 (by simpa using h0);refine Ym Z Z ?_;refine tD Z ?_;obtain rfl := h;exact Qf (hQ _ _ ⟨.inr Z, _, _, _, (.cons (.p Z) .nil), (.cons (.c (.nilo _ (Nat.le_of_ble_eq_true Z))) .nil), Z, Z⟩)
  · replace h := h.2;refine Yn Z Z ?_;refine Qh (hL1 _ ?_);refine tk fun L hL => ?_;refine ul (Wj (f := Q9)) ?_;refine dN 1 Z ?_;obtain ⟨hm2, h⟩ := h;refine ul (QI (f := Q9) (L := ([] : List Q1)) (L' := a0) hm2 Z Z Z Z Z Z Z Z Z Z Z (Vv QJ Z Z Z Z Z)) ?_;refine dN 1 Z ?_;refine rt (hL _ ?_);obtain rfl := h;exact Qf (hQ _ _ (E6 Z Z Z Z))
def Vk (a0 : (List (List ByteArray))) (Q : ((List (List ByteArray))) → Prop) : Prop :=
 ((a0 = [] → Q (([] : (List (List ByteArray))))) ∧ (((([] : List (List ByteArray))).length + a0.length) * 24 ≤ 140737488355328) ∧ Q (((([] : List (List ByteArray))) ++ a0)))
def K2 (a0 : (List (List ByteArray))) (r : (List (List ByteArray))) : Prop := Vk a0 fun x => r = x
theorem W8 {a0 : (List (List ByteArray))} {r : (List (List ByteArray))} (h : K2 a0 r) : Qp Tryz.prog 115 [.c (.l 1 (List.map (eL 1 eS) a0))] [.c (.own 1 (List.map (eL 1 eS) r))] [] := by
  refine Qn tb Tryz.func115 Z (by kernel_rfl) Z Z (Nat.le_of_ble_eq_true Z) Z ?_;intro E;unfold K2 Vk at h;refine Z3 (fun Q hQ => ?_);refine tD Z ?_;refine sk fun L1 hL1 => ?_;refine sk fun L hL => Wk Z Z Z Z Z (fun h0 => hL _ ?_) (hL _ ?_)
  · replace h := h.1 (by simpa using h0);refine Ym Z Z ?_;refine tD Z ?_;obtain rfl := h;exact Qf (hQ _ _ ⟨.inr Z, _, _, _, (.cons (.p Z) .nil), (.cons (.c (.nilo _ (Nat.le_of_ble_eq_true Z))) .nil), Z, Z⟩)
  · replace h := h.2;refine Yn Z Z ?_;refine Qh (hL1 _ ?_);refine tk fun L hL => ?_;refine ul (Wj (f := (eL 1 eS))) ?_;refine dN 1 Z ?_;obtain ⟨hm2, h⟩ := h;refine ul (QI (f := (eL 1 eS)) (L := ([] : List (List ByteArray))) (L' := a0) hm2 Z Z Z Z Z Z Z Z Z Z Z (Vv QJ Z Z Z Z Z)) ?_;refine dN 1 Z ?_;refine rt (hL _ ?_);obtain rfl := h;exact Qf (hQ _ _ (E6 Z Z Z Z))
def Vl (a0 : Qd) (Q : Qd → Prop) : Prop :=
 ∃ v1, K1 a0.fc.fa8 v1 ∧ ∃ v2, K1 a0.fy.f3 v2 ∧ ∃ v3, Zj a0.fa4.fh v3 ∧ ∃ v4, Zj a0.ff.fh v4 ∧ ∃ v5, K2 a0.fp.fw v5 ∧ jn (fun (p6 : (List Int) × (List Int) × (List Q1) × (List Q1) × (List (List ByteArray))) => Q ((Qd.mk a0.fb a0.fx (Qb.mk a0.fc.fq a0.fc.fg a0.fc.fu p6.1 a0.fc.fa) (Qj.mk a0.fy.f7 a0.fy.fu p6.2.1) (Qt.mk a0.fa4.fg a0.fa4.fm p6.2.2.1 a0.fa4.fa) (Qe.mk a0.ff.fg a0.ff.fm a0.ff.fb3 p6.2.2.2.1 a0.ff.fa) (Qk.mk a0.fp.fg a0.fp.fm a0.fp.fa9 p6.2.2.2.2 a0.fp.fa)))) (fun (J6 : (List Int) × (List Int) × (List Q1) × (List Q1) × (List (List ByteArray)) → Prop) => lp (fun (X7 : (List (List ByteArray)) × Int × (List Int) × (List Int) × (List Q1) × (List Q1) → Prop) (s7 : (List (List ByteArray)) × Int × (List Int) × (List Int) × (List Q1) × (List Q1)) => (((decide (s7.2.1 < ((v5.length : Int)))) = true → ∃ v10, ix s7.1 s7.2.1 v10 ∧ ∃ v11, Zh v10 v11 ∧ ∃ v12, ix s7.1 s7.2.1 v12 ∧ X7 ((List.set s7.1 (Int.toNat s7.2.1) v11), (IntKind.i64.wrap (s7.2.1 + 1)), s7.2.2.1, s7.2.2.2.1, s7.2.2.2.2.1, s7.2.2.2.2.2)) ∧ ((decide (s7.2.1 < ((v5.length : Int)))) = false → J6 (s7.2.2.1, s7.2.2.2.1, s7.2.2.2.2.1, s7.2.2.2.2.2, s7.1)))) (v5, 0, v1, v2, v3, v4))
def ZL (a0 : Qd) (r : Qd) : Prop := Vl a0 fun x => r = x
theorem Yy {a0 : Qd} {r : Qd} (h : ZL a0 r) : Qp Tryz.prog 76 [.agg (KZ a0)] [.agg [.p (.v (.int .i64 r.fb.fo)), .p (.v (.int .i64 r.fb.fg)), .p (.v (.int .i64 r.fb.fq)), .p (.v (.int .u64 r.fb.fu)), .p (.v (.int .i64 r.fx.fm)), .p (.v (.int .i64 r.fx.f8)), .p (.v (.bool r.fx.fa)), .p (.v (.int .i64 r.fc.fq)), .p (.v (.int .i64 r.fc.fg)), .p (.v (.int .u64 r.fc.fu)), .own 1 (List.map (eI .i64) r.fc.fa8), .p (.v (.bool r.fc.fa)), .p (.v (.int .i64 r.fy.f7)), .p (.v (.int .u64 r.fy.fu)), .own 1 (List.map (eI .i64) r.fy.f3), .p (.v (.int .i64 r.fa4.fg)), .p (.v (.int .i64 r.fa4.fm)), .own 3 (List.map Q9 r.fa4.fh), .p (.v (.bool r.fa4.fa)), .p (.v (.int .i64 r.ff.fg)), .p (.v (.int .i64 r.ff.fm)), .p (.v (.int .i64 r.ff.fb3)), .own 3 (List.map Q9 r.ff.fh), .p (.v (.bool r.ff.fa)), .p (.v (.int .i64 r.fp.fg)), .p (.v (.int .i64 r.fp.fm)), .p (.v (.int .i64 r.fp.fa9)), .own 1 (List.map (eL 1 eS) r.fp.fw), .p (.v (.bool r.fp.fa))]] [] := by
  refine Qn tb Tryz.func76 Z (by kernel_rfl) Z Z (Nat.le_of_ble_eq_true Z) Z ?_;intro E;unfold ZL Vl at h;refine Z3 (fun Q hQ => ?_);refine tD Z ?_;refine tk fun L hL => ?_;refine dN 3 Z ?_;obtain ⟨v1, hv1, h⟩ := h;refine ul (Zt (VD hv1)) ?_;refine dN 3 Z ?_;refine rt (hL _ ?_);refine tk fun L hL => ?_;refine dN 3 Z ?_;obtain ⟨v2, hv2, h⟩ := h;refine ul (Zt (VD hv2)) ?_;refine dN 3 Z ?_;refine rt (hL _ ?_);refine tk fun L hL => ?_;refine dN 3 Z ?_;obtain ⟨v3, hv3, h⟩ := h;refine ul (Zt (JJ hv3)) ?_;refine dN 3 Z ?_;refine rt (hL _ ?_);refine tk fun L hL => ?_;refine dN 3 Z ?_;obtain ⟨v4, hv4, h⟩ := h;refine ul (Zt (JJ hv4)) ?_;refine dN 3 Z ?_;refine rt (hL _ ?_);refine tk fun L hL => ?_;refine dN 3 Z ?_;obtain ⟨v5, hv5, h⟩ := h;refine ul (Zt (W8 hv5)) ?_;refine dN 3 Z ?_;refine rt (hL _ ?_);refine Z2 (fun (p6 : (List Int) × (List Int) × (List Q1) × (List Q1) × (List (List ByteArray))) => (⟨[(1, .c (.ptr (1, 0) 0 0)), (2, .c (.ptr (2, 0) 0 0))], [((1, 2010), some (.row 1 (List.map (eI .i64) p6.1) true)), ((1, 2014), some (.row 1 (List.map (eI .i64) p6.2.1) true)), ((1, 2017), some (.row 3 (List.map Q9 p6.2.2.1) true)), ((1, 2022), some (.row 3 (List.map Q9 p6.2.2.2.1) true)), ((1, 2027), some (.row 1 (List.map (eL 1 eS) p6.2.2.2.2) true)), ((1, 0), some (.box ([.p (.v (.int .i64 a0.fb.fo)), .p (.v (.int .i64 a0.fb.fg)), .p (.v (.int .i64 a0.fb.fq)), .p (.v (.int .u64 a0.fb.fu)), .p (.v (.int .i64 a0.fx.fm)), .p (.v (.int .i64 a0.fx.f8)), .p (.v (.bool a0.fx.fa)), .p (.v (.int .i64 a0.fc.fq)), .p (.v (.int .i64 a0.fc.fg)), .p (.v (.int .u64 a0.fc.fu)), .sl (1, 2010) 0 (List.map (eI .i64) p6.1).length, .p (.v (.bool a0.fc.fa)), .p (.v (.int .i64 a0.fy.f7)), .p (.v (.int .u64 a0.fy.fu)), .sl (1, 2014) 0 (List.map (eI .i64) p6.2.1).length, .p (.v (.int .i64 a0.fa4.fg)), .p (.v (.int .i64 a0.fa4.fm)), .sl (1, 2017) 0 (List.map Q9 p6.2.2.1).length, .p (.v (.bool a0.fa4.fa)), .p (.v (.int .i64 a0.ff.fg)), .p (.v (.int .i64 a0.ff.fm)), .p (.v (.int .i64 a0.ff.fb3)), .sl (1, 2022) 0 (List.map Q9 p6.2.2.2.1).length, .p (.v (.bool a0.ff.fa)), .p (.v (.int .i64 a0.fp.fg)), .p (.v (.int .i64 a0.fp.fm)), .p (.v (.int .i64 a0.fp.fa9)), .sl (1, 2027) 0 (List.map (eL 1 eS) p6.2.2.2.2).length, .p (.v (.bool a0.fp.fa))]))), ((2, 0), some (.box ([.p (.v (.int .i64 0)), .p (.v (.int .i64 0)), .p (.v (.int .i64 0)), .p (.v (.int .u64 0)), .p (.v (.int .i64 0)), .p (.v (.int .i64 0)), .p (.v (.bool false)), .p (.v (.int .i64 0)), .p (.v (.int .i64 0)), .p (.v (.int .u64 0)), .p (.v (.slice none 0 0)), .p (.v (.bool false)), .p (.v (.int .i64 0)), .p (.v (.int .u64 0)), .p (.v (.slice none 0 0)), .p (.v (.int .i64 0)), .p (.v (.int .i64 0)), .p (.v (.slice none 0 0)), .p (.v (.bool false)), .p (.v (.int .i64 0)), .p (.v (.int .i64 0)), .p (.v (.int .i64 0)), .p (.v (.slice none 0 0)), .p (.v (.bool false)), .p (.v (.int .i64 0)), .p (.v (.int .i64 0)), .p (.v (.int .i64 0)), .p (.v (.slice none 0 0)), .p (.v (.bool false))])))]⟩ : St)) h (fun p6 h => ?_) (fun J6 L6 hL6 h => ?_)
  · refine tD Z ?_;obtain rfl := h;exact Qf (hQ _ _ ⟨.inr Z, _, _, _, (.cons (.cella Z Z Z Z Z) .nil), (.cons (.agg (Qs (Qs (Qs (Qs (Qs (Qs (Qs (Qs (Qs (Qs (.cons (.own Z Z) (Qs (Qs (Qs (.cons (.own Z Z) (Qs (Qs (.cons (.own Z Z) (Qs (Qs (Qs (Qs (.cons (.own Z Z) (Qs (Qs (Qs (Qs (.cons (.own Z Z) (Qs .nil)))))))))))))))))))))))))))))) .nil), Z, Z⟩)
  · refine tk fun L hL => ?_;refine dN 3 Z ?_;refine u0 ZN ?_;refine dN 1 Z ?_;refine rt (hL _ ?_);refine Qr ?_;refine Zn (fun (s7 : (List (List ByteArray)) × Int × (List Int) × (List Int) × (List Q1) × (List Q1)) => (⟨[(1, .c (.ptr (1, 0) 0 0)), (2, .c (.ptr (2, 0) 0 0)), (37, .c (.sl (37, 1000) 0 (List.map (eL 1 eS) s7.1).length)), (38, .c (.p (.v (.int .i64 ((v5.length : Int)))))), (39, .c (.p (.v (.int .i64 s7.2.1))))], [((37, 1000), some (.row 1 (List.map (eL 1 eS) s7.1) true)), ((1, 2010), some (.row 1 (List.map (eI .i64) s7.2.2.1) true)), ((1, 2014), some (.row 1 (List.map (eI .i64) s7.2.2.2.1) true)), ((1, 2017), some (.row 3 (List.map Q9 s7.2.2.2.2.1) true)), ((1, 2022), some (.row 3 (List.map Q9 s7.2.2.2.2.2) true)), ((1, 0), some (.box ([.p (.v (.int .i64 a0.fb.fo)), .p (.v (.int .i64 a0.fb.fg)), .p (.v (.int .i64 a0.fb.fq)), .p (.v (.int .u64 a0.fb.fu)), .p (.v (.int .i64 a0.fx.fm)), .p (.v (.int .i64 a0.fx.f8)), .p (.v (.bool a0.fx.fa)), .p (.v (.int .i64 a0.fc.fq)), .p (.v (.int .i64 a0.fc.fg)), .p (.v (.int .u64 a0.fc.fu)), .sl (1, 2010) 0 (List.map (eI .i64) s7.2.2.1).length, .p (.v (.bool a0.fc.fa)), .p (.v (.int .i64 a0.fy.f7)), .p (.v (.int .u64 a0.fy.fu)), .sl (1, 2014) 0 (List.map (eI .i64) s7.2.2.2.1).length, .p (.v (.int .i64 a0.fa4.fg)), .p (.v (.int .i64 a0.fa4.fm)), .sl (1, 2017) 0 (List.map Q9 s7.2.2.2.2.1).length, .p (.v (.bool a0.fa4.fa)), .p (.v (.int .i64 a0.ff.fg)), .p (.v (.int .i64 a0.ff.fm)), .p (.v (.int .i64 a0.ff.fb3)), .sl (1, 2022) 0 (List.map Q9 s7.2.2.2.2.2).length, .p (.v (.bool a0.ff.fa)), .p (.v (.int .i64 a0.fp.fg)), .p (.v (.int .i64 a0.fp.fm)), .p (.v (.int .i64 a0.fp.fa9)), .sl (37, 1000) 0 (List.map (eL 1 eS) s7.1).length, .p (.v (.bool a0.fp.fa))]))), ((2, 0), some (.box ([.p (.v (.int .i64 0)), .p (.v (.int .i64 0)), .p (.v (.int .i64 0)), .p (.v (.int .u64 0)), .p (.v (.int .i64 0)), .p (.v (.int .i64 0)), .p (.v (.bool false)), .p (.v (.int .i64 0)), .p (.v (.int .i64 0)), .p (.v (.int .u64 0)), .p (.v (.slice none 0 0)), .p (.v (.bool false)), .p (.v (.int .i64 0)), .p (.v (.int .u64 0)), .p (.v (.slice none 0 0)), .p (.v (.int .i64 0)), .p (.v (.int .i64 0)), .p (.v (.slice none 0 0)), .p (.v (.bool false)), .p (.v (.int .i64 0)), .p (.v (.int .i64 0)), .p (.v (.int .i64 0)), .p (.v (.slice none 0 0)), .p (.v (.bool false)), .p (.v (.int .i64 0)), .p (.v (.int .i64 0)), .p (.v (.int .i64 0)), .p (.v (.slice none 0 0)), .p (.v (.bool false))])))]⟩ : St)) h (QC.nm [1, 2, 37, 38, 39] [((32, 0), (37, 1000)), ((8, 0), (1, 2010)), ((14, 0), (1, 2014)), ((20, 0), (1, 2017)), ((26, 0), (1, 2022)), ((1, 0), (1, 0)), ((2, 0), (2, 0))] Z (by kernel_rfl)) (fun X7 L7 hL7 s7 h => ?_)
    refine tD Z ?_;refine sk fun L8 hL8 => ?_;refine cn h (fun h => ?_) fun h => ?_
    · refine Qh (hL8 _ ?_);refine sk fun L9 hL9 => ?_;refine Qr ?_;refine tk fun L hL => ?_;refine dN 1 Z ?_;obtain ⟨v10, hv10, h⟩ := h;refine u0 (QV hv10) ?_;refine u0 (Z5 Z Z (gm hv10.2)) ?_;refine dN 2 Z ?_;refine rt (hL _ ?_);refine dl mixed (fun L hL => ?_);refine dN 5 Z ?_;obtain ⟨v11, hv11, h⟩ := h;refine ul (Zt (KX hv11)) ?_;obtain ⟨v12, hv12, h⟩ := h;refine u0 (QV hv12) ?_;refine AJ Z (ZB (b := (49, 0)) Z Z (K0 (x1 := v11) hv12.2 Z Z Z Z (.cons (.fr Z (QH Z)) .nil))) ?_;refine rd (hL _ (hL9 _ ?_));refine tE Z (hL7 _ _ h ((QC.slot 37 Z (.n (n' := (List.map (eL 1 eS) (List.set s7.1 (Int.toNat s7.2.1) v11)).length) (by simp))).trans ((QC.cells (1, 0) Z (.c (.c (.c (.c (.c (.c (.c (.c (.c (.c (.c (.c (.c (.c (.c (.c (.c (.c (.c (.c (.c (.c (.c (.c (.c (.c (.c (.cons (.n (n' := (List.map (eL 1 eS) (List.set s7.1 (Int.toNat s7.2.1) v11)).length) (by simp)) (.c .nil)))))))))))))))))))))))))))))).trans QC.fit)))
    · refine QP (hL6 _ _ h (QC.nm [1, 2] [((1, 2010), (1, 2010)), ((1, 2014), (1, 2014)), ((1, 2017), (1, 2017)), ((1, 2022), (1, 2022)), ((37, 1000), (1, 2027)), ((1, 0), (1, 0)), ((2, 0), (2, 0))] Z (by kernel_rfl)))
def Y4 (a0 : Qy) (Q : Qy → Prop) : Prop :=
 ∃ v1, K1 a0.fc1 v1 ∧ ∃ v2, ZD a0.fb4 v2 ∧ ∃ v3, ZL a0.fi v3 ∧ ∃ v4, ZL a0.fj v4 ∧ Q ((Qy.mk a0.fc6 a0.fc8 a0.fc3 v1 a0.fb2 (Qd.mk v3.fb v3.fx (Qb.mk v3.fc.fq v3.fc.fg v3.fc.fu v3.fc.fa8 v3.fc.fa) (Qj.mk v3.fy.f7 v3.fy.fu v3.fy.f3) (Qt.mk v3.fa4.fg v3.fa4.fm v3.fa4.fh v3.fa4.fa) (Qe.mk v3.ff.fg v3.ff.fm v3.ff.fb3 v3.ff.fh v3.ff.fa) (Qk.mk v3.fp.fg v3.fp.fm v3.fp.fa9 v3.fp.fw v3.fp.fa)) (Qd.mk v4.fb v4.fx (Qb.mk v4.fc.fq v4.fc.fg v4.fc.fu v4.fc.fa8 v4.fc.fa) (Qj.mk v4.fy.f7 v4.fy.fu v4.fy.f3) (Qt.mk v4.fa4.fg v4.fa4.fm v4.fa4.fh v4.fa4.fa) (Qe.mk v4.ff.fg v4.ff.fm v4.ff.fb3 v4.ff.fh v4.ff.fa) (Qk.mk v4.fp.fg v4.fp.fm v4.fp.fa9 v4.fp.fw v4.fp.fa)) a0.fc7 a0.fd0 a0.fa5 a0.fa6 a0.fAt v2 a0.fc4))
def J0 (a0 : Qy) (r : Qy) : Prop := Y4 a0 fun x => r = x
theorem Ut {a0 : Qy} {r : Qy} (h : J0 a0 r) : Qp Tryz.prog 44 [.agg (JY a0)] [.agg [.p (.v (.int .i64 r.fc6)), .p (.v (.int .i64 r.fc8)), .p (.v (.bool r.fc3)), .own 1 (List.map (eI .i64) r.fc1), .p (.v (.int .i64 r.fb2)), .p (.v (.int .i64 r.fi.fb.fo)), .p (.v (.int .i64 r.fi.fb.fg)), .p (.v (.int .i64 r.fi.fb.fq)), .p (.v (.int .u64 r.fi.fb.fu)), .p (.v (.int .i64 r.fi.fx.fm)), .p (.v (.int .i64 r.fi.fx.f8)), .p (.v (.bool r.fi.fx.fa)), .p (.v (.int .i64 r.fi.fc.fq)), .p (.v (.int .i64 r.fi.fc.fg)), .p (.v (.int .u64 r.fi.fc.fu)), .own 1 (List.map (eI .i64) r.fi.fc.fa8), .p (.v (.bool r.fi.fc.fa)), .p (.v (.int .i64 r.fi.fy.f7)), .p (.v (.int .u64 r.fi.fy.fu)), .own 1 (List.map (eI .i64) r.fi.fy.f3), .p (.v (.int .i64 r.fi.fa4.fg)), .p (.v (.int .i64 r.fi.fa4.fm)), .own 3 (List.map Q9 r.fi.fa4.fh), .p (.v (.bool r.fi.fa4.fa)), .p (.v (.int .i64 r.fi.ff.fg)), .p (.v (.int .i64 r.fi.ff.fm)), .p (.v (.int .i64 r.fi.ff.fb3)), .own 3 (List.map Q9 r.fi.ff.fh), .p (.v (.bool r.fi.ff.fa)), .p (.v (.int .i64 r.fi.fp.fg)), .p (.v (.int .i64 r.fi.fp.fm)), .p (.v (.int .i64 r.fi.fp.fa9)), .own 1 (List.map (eL 1 eS) r.fi.fp.fw), .p (.v (.bool r.fi.fp.fa)), .p (.v (.int .i64 r.fj.fb.fo)), .p (.v (.int .i64 r.fj.fb.fg)), .p (.v (.int .i64 r.fj.fb.fq)), .p (.v (.int .u64 r.fj.fb.fu)), .p (.v (.int .i64 r.fj.fx.fm)), .p (.v (.int .i64 r.fj.fx.f8)), .p (.v (.bool r.fj.fx.fa)), .p (.v (.int .i64 r.fj.fc.fq)), .p (.v (.int .i64 r.fj.fc.fg)), .p (.v (.int .u64 r.fj.fc.fu)), .own 1 (List.map (eI .i64) r.fj.fc.fa8), .p (.v (.bool r.fj.fc.fa)), .p (.v (.int .i64 r.fj.fy.f7)), .p (.v (.int .u64 r.fj.fy.fu)), .own 1 (List.map (eI .i64) r.fj.fy.f3), .p (.v (.int .i64 r.fj.fa4.fg)), .p (.v (.int .i64 r.fj.fa4.fm)), .own 3 (List.map Q9 r.fj.fa4.fh), .p (.v (.bool r.fj.fa4.fa)), .p (.v (.int .i64 r.fj.ff.fg)), .p (.v (.int .i64 r.fj.ff.fm)), .p (.v (.int .i64 r.fj.ff.fb3)), .own 3 (List.map Q9 r.fj.ff.fh), .p (.v (.bool r.fj.ff.fa)), .p (.v (.int .i64 r.fj.fp.fg)), .p (.v (.int .i64 r.fj.fp.fm)), .p (.v (.int .i64 r.fj.fp.fa9)), .own 1 (List.map (eL 1 eS) r.fj.fp.fw), .p (.v (.bool r.fj.fp.fa)), .p (.v (.int .i64 r.fc7)), .p (.v (.int .i64 r.fd0)), .p (.v (.int .i64 r.fa5)), .p (.v (.int .i64 r.fa6)), .p (.v (.int .i64 r.fAt.fb2)), .p (.v (.int .i64 r.fAt.fd1)), .own 1 (List.map (eI .u8) r.fb4), .p (.v (.bool r.fc4))]] [] := by
  refine Qn tb Tryz.func44 Z (by kernel_rfl) Z Z (Nat.le_of_ble_eq_true Z) Z ?_;intro E;unfold J0 Y4 at h;refine Z3 (fun Q hQ => ?_);refine tD Z ?_;refine dk mixed (fun L hL => ?_);refine dN 2 Z ?_;obtain ⟨v1, hv1, h⟩ := h;refine ul (Zt (VD hv1)) ?_;refine dN 2 Z ?_;obtain ⟨v2, hv2, h⟩ := h;refine ul (Zt (V0 hv2)) ?_;refine dN 4 Z ?_;refine rd (hL _ ?_);refine dk mixed (fun L hL => ?_);refine dN 2 Z ?_;obtain ⟨v3, hv3, h⟩ := h;refine ul (Zt (Yy hv3)) ?_;refine dN 2 Z ?_;obtain ⟨v4, hv4, h⟩ := h;refine ul (Zt (Yy hv4)) ?_;refine dN 4 Z ?_;refine rd (hL _ ?_);refine tD Z ?_;obtain rfl := h;exact Qf (hQ _ _ ⟨.inr Z, _, _, _, (.cons (.cella Z Z Z Z Z) .nil), (.cons (.agg (Qs (Qs (Qs (.cons (.own Z Z) (Qs (Qs (Qs (Qs (Qs (Qs (Qs (Qs (Qs (Qs (Qs (.cons (.own Z Z) (Qs (Qs (Qs (.cons (.own Z Z) (Qs (Qs (.cons (.own Z Z) (Qs (Qs (Qs (Qs (.cons (.own Z Z) (Qs (Qs (Qs (Qs (.cons (.own Z Z) (Qs (Qs (Qs (Qs (Qs (Qs (Qs (Qs (Qs (Qs (Qs (.cons (.own Z Z) (Qs (Qs (Qs (.cons (.own Z Z) (Qs (Qs (.cons (.own Z Z) (Qs (Qs (Qs (Qs (.cons (.own Z Z) (Qs (Qs (Qs (Qs (.cons (.own Z Z) (Qs (Qs (Qs (Qs (Qs (Qs (Qs (.cons (.own Z Z) (Qs .nil)))))))))))))))))))))))))))))))))))))))))))))))))))))))))))))))))))))))) .nil), Z, Z⟩)
def KJ (a0 : (List Qx)) (Q : ((List Qx)) → Prop) : Prop :=
 ((a0 = [] → Q (([] : (List Qx)))) ∧ (((([] : List Qx)).length + a0.length) * 40 ≤ 140737488355328) ∧ Q (((([] : List Qx)) ++ a0)))
def Zk (a0 : (List Qx)) (r : (List Qx)) : Prop := KJ a0 fun x => r = x
theorem Xb {a0 : (List Qx)} {r : (List Qx)} (h : Zk a0 r) : Qp Tryz.prog 45 [.c (.l 3 (List.map QE a0))] [.c (.own 3 (List.map QE r))] [] := by
  refine Qn tb Tryz.func45 Z (by kernel_rfl) Z Z (Nat.le_of_ble_eq_true Z) Z ?_;intro E;unfold Zk KJ at h;refine Z3 (fun Q hQ => ?_);refine tD Z ?_;refine sk fun L1 hL1 => ?_;refine sk fun L hL => Wk Z Z Z Z Z (fun h0 => hL _ ?_) (hL _ ?_)
  · replace h := h.1 (by simpa using h0);refine Ym Z Z ?_;refine tD Z ?_;obtain rfl := h;exact Qf (hQ _ _ ⟨.inr Z, _, _, _, (.cons (.p Z) .nil), (.cons (.c (.nilo _ (Nat.le_of_ble_eq_true Z))) .nil), Z, Z⟩)
  · replace h := h.2;refine Yn Z Z ?_;refine Qh (hL1 _ ?_);refine tk fun L hL => ?_;refine ul (Wj (f := QE)) ?_;refine dN 1 Z ?_;obtain ⟨hm2, h⟩ := h;refine ul (QI (f := QE) (L := ([] : List Qx)) (L' := a0) hm2 Z Z Z Z Z Z Z Z Z Z Z (Vv QJ Z Z Z Z Z)) ?_;refine dN 1 Z ?_;refine rt (hL _ ?_);obtain rfl := h;exact Qf (hQ _ _ (E6 Z Z Z Z))
def Jm (a0 : (List QG)) (Q : ((List QG)) → Prop) : Prop :=
 ((a0 = [] → Q (([] : (List QG)))) ∧ (((([] : List QG)).length + a0.length) * 40 ≤ 140737488355328) ∧ Q (((([] : List QG)) ++ a0)))
def Zv (a0 : (List QG)) (r : (List QG)) : Prop := Jm a0 fun x => r = x
theorem XO {a0 : (List QG)} {r : (List QG)} (h : Zv a0 r) : Qp Tryz.prog 46 [.c (.l 4 (List.map QW a0))] [.c (.own 4 (List.map QW r))] [] := by
  refine Qn tb Tryz.func46 Z (by kernel_rfl) Z Z (Nat.le_of_ble_eq_true Z) Z ?_;intro E;unfold Zv Jm at h;refine Z3 (fun Q hQ => ?_);refine tD Z ?_;refine sk fun L1 hL1 => ?_;refine sk fun L hL => Wk Z Z Z Z Z (fun h0 => hL _ ?_) (hL _ ?_)
  · replace h := h.1 (by simpa using h0);refine Ym Z Z ?_;refine tD Z ?_;obtain rfl := h;exact Qf (hQ _ _ ⟨.inr Z, _, _, _, (.cons (.p Z) .nil), (.cons (.c (.nilo _ (Nat.le_of_ble_eq_true Z))) .nil), Z, Z⟩)
  · replace h := h.2;refine Yn Z Z ?_;refine Qh (hL1 _ ?_);refine tk fun L hL => ?_;refine ul (Wj (f := QW)) ?_;refine dN 1 Z ?_;obtain ⟨hm2, h⟩ := h;refine ul (QI (f := QW) (L := ([] : List QG)) (L' := a0) hm2 Z Z Z Z Z Z Z Z Z Z Z (Vv QJ Z Z Z Z Z)) ?_;refine dN 1 Z ?_;refine rt (hL _ ?_);obtain rfl := h;exact Qf (hQ _ _ (E6 Z Z Z Z))
def YO (a0 : (List Q5)) (Q : ((List Q5)) → Prop) : Prop :=
 jn (fun (p1 : (List Q5)) => Q p1) (fun (J1 : (List Q5) → Prop) => lp (fun (X2 : (List Q5) × Int → Prop) (s2 : (List Q5) × Int) => (((decide (s2.2 < ((a0.length : Int)))) = true → jn (fun (p4 : (List Q5)) => X2 (p4, (IntKind.i64.wrap (s2.2 + 1)))) (fun (J4 : (List Q5) → Prop) => ∃ v5, ix a0 s2.2 v5 ∧ ∃ v6, Jl v5.fOp v6 ∧ ∃ v7, J0 v5.fk v7 ∧ ∃ v8, Zk v5.f5 v8 ∧ ∃ v9, Zv v5.fa0 v9 ∧ jn (fun (p10 : (List Q5) × (List ByteArray) × (List Qi) × (List Int) × (List Int) × (List Int) × (List Int) × (List Int) × (List Q1) × (List Q1) × (List (List ByteArray)) × (List Int) × (List Int) × (List Q1) × (List Q1) × (List (List ByteArray)) × (List Int) × (List Qx) × (List QG)) => ((p10.1.length + ([(Q5.mk v5.fb1 (Qq.mk v6.fo v6.fb7 v6.fj p10.2.1 v6.fb p10.2.2.1 p10.2.2.2.1 v6.fa3 v6.fb0 v6.fa5 v6.fb6 v6.fa6 v6.f0 v6.fv p10.2.2.2.2.1) (Qy.mk v7.fc6 v7.fc8 v7.fc3 p10.2.2.2.2.2.1 v7.fb2 (Qd.mk v7.fi.fb v7.fi.fx (Qb.mk v7.fi.fc.fq v7.fi.fc.fg v7.fi.fc.fu p10.2.2.2.2.2.2.1 v7.fi.fc.fa) (Qj.mk v7.fi.fy.f7 v7.fi.fy.fu p10.2.2.2.2.2.2.2.1) (Qt.mk v7.fi.fa4.fg v7.fi.fa4.fm p10.2.2.2.2.2.2.2.2.1 v7.fi.fa4.fa) (Qe.mk v7.fi.ff.fg v7.fi.ff.fm v7.fi.ff.fb3 p10.2.2.2.2.2.2.2.2.2.1 v7.fi.ff.fa) (Qk.mk v7.fi.fp.fg v7.fi.fp.fm v7.fi.fp.fa9 p10.2.2.2.2.2.2.2.2.2.2.1 v7.fi.fp.fa)) (Qd.mk v7.fj.fb v7.fj.fx (Qb.mk v7.fj.fc.fq v7.fj.fc.fg v7.fj.fc.fu p10.2.2.2.2.2.2.2.2.2.2.2.1 v7.fj.fc.fa) (Qj.mk v7.fj.fy.f7 v7.fj.fy.fu p10.2.2.2.2.2.2.2.2.2.2.2.2.1) (Qt.mk v7.fj.fa4.fg v7.fj.fa4.fm p10.2.2.2.2.2.2.2.2.2.2.2.2.2.1 v7.fj.fa4.fa) (Qe.mk v7.fj.ff.fg v7.fj.ff.fm v7.fj.ff.fb3 p10.2.2.2.2.2.2.2.2.2.2.2.2.2.2.1 v7.fj.ff.fa) (Qk.mk v7.fj.fp.fg v7.fj.fp.fm v7.fj.fp.fa9 p10.2.2.2.2.2.2.2.2.2.2.2.2.2.2.2.1 v7.fj.fp.fa)) v7.fc7 v7.fd0 v7.fa5 v7.fa6 v7.fAt p10.2.2.2.2.2.2.2.2.2.2.2.2.2.2.2.2.1 v7.fc4) v5.f9 p10.2.2.2.2.2.2.2.2.2.2.2.2.2.2.2.2.2.1 p10.2.2.2.2.2.2.2.2.2.2.2.2.2.2.2.2.2.2)]).length) * 1088 ≤ 140737488355328) ∧ J4 ((p10.1 ++ ([(Q5.mk v5.fb1 (Qq.mk v6.fo v6.fb7 v6.fj p10.2.1 v6.fb p10.2.2.1 p10.2.2.2.1 v6.fa3 v6.fb0 v6.fa5 v6.fb6 v6.fa6 v6.f0 v6.fv p10.2.2.2.2.1) (Qy.mk v7.fc6 v7.fc8 v7.fc3 p10.2.2.2.2.2.1 v7.fb2 (Qd.mk v7.fi.fb v7.fi.fx (Qb.mk v7.fi.fc.fq v7.fi.fc.fg v7.fi.fc.fu p10.2.2.2.2.2.2.1 v7.fi.fc.fa) (Qj.mk v7.fi.fy.f7 v7.fi.fy.fu p10.2.2.2.2.2.2.2.1) (Qt.mk v7.fi.fa4.fg v7.fi.fa4.fm p10.2.2.2.2.2.2.2.2.1 v7.fi.fa4.fa) (Qe.mk v7.fi.ff.fg v7.fi.ff.fm v7.fi.ff.fb3 p10.2.2.2.2.2.2.2.2.2.1 v7.fi.ff.fa) (Qk.mk v7.fi.fp.fg v7.fi.fp.fm v7.fi.fp.fa9 p10.2.2.2.2.2.2.2.2.2.2.1 v7.fi.fp.fa)) (Qd.mk v7.fj.fb v7.fj.fx (Qb.mk v7.fj.fc.fq v7.fj.fc.fg v7.fj.fc.fu p10.2.2.2.2.2.2.2.2.2.2.2.1 v7.fj.fc.fa) (Qj.mk v7.fj.fy.f7 v7.fj.fy.fu p10.2.2.2.2.2.2.2.2.2.2.2.2.1) (Qt.mk v7.fj.fa4.fg v7.fj.fa4.fm p10.2.2.2.2.2.2.2.2.2.2.2.2.2.1 v7.fj.fa4.fa) (Qe.mk v7.fj.ff.fg v7.fj.ff.fm v7.fj.ff.fb3 p10.2.2.2.2.2.2.2.2.2.2.2.2.2.2.1 v7.fj.ff.fa) (Qk.mk v7.fj.fp.fg v7.fj.fp.fm v7.fj.fp.fa9 p10.2.2.2.2.2.2.2.2.2.2.2.2.2.2.2.1 v7.fj.fp.fa)) v7.fc7 v7.fd0 v7.fa5 v7.fa6 v7.fAt p10.2.2.2.2.2.2.2.2.2.2.2.2.2.2.2.2.1 v7.fc4) v5.f9 p10.2.2.2.2.2.2.2.2.2.2.2.2.2.2.2.2.2.1 p10.2.2.2.2.2.2.2.2.2.2.2.2.2.2.2.2.2.2)])))) (fun (J10 : (List Q5) × (List ByteArray) × (List Qi) × (List Int) × (List Int) × (List Int) × (List Int) × (List Int) × (List Q1) × (List Q1) × (List (List ByteArray)) × (List Int) × (List Int) × (List Q1) × (List Q1) × (List (List ByteArray)) × (List Int) × (List Qx) × (List QG) → Prop) => lp (fun (X11 : (List Q5) × (List Qx) × Int × (List ByteArray) × (List Qi) × (List Int) × (List Int) × (List Int) × (List Int) × (List Int) × (List Q1) × (List Q1) × (List (List ByteArray)) × (List Int) × (List Int) × (List Q1) × (List Q1) × (List (List ByteArray)) × (List Int) × (List QG) → Prop) (s11 : (List Q5) × (List Qx) × Int × (List ByteArray) × (List Qi) × (List Int) × (List Int) × (List Int) × (List Int) × (List Int) × (List Q1) × (List Q1) × (List (List ByteArray)) × (List Int) × (List Int) × (List Q1) × (List Q1) × (List (List ByteArray)) × (List Int) × (List QG)) => (((decide (s11.2.2.1 < ((v8.length : Int)))) = true → ∃ v14, ix s11.2.1 s11.2.2.1 v14 ∧ ∃ v15, Zh v14.fa2 v15 ∧ ∃ v16, ix s11.2.1 s11.2.2.1 v16 ∧ X11 (s11.1, (List.set s11.2.1 (Int.toNat s11.2.2.1) ((Qx.mk v16.fc5 v16.fb8 v15))), (IntKind.i64.wrap (s11.2.2.1 + 1)), s11.2.2.2.1, s11.2.2.2.2.1, s11.2.2.2.2.2.1, s11.2.2.2.2.2.2.1, s11.2.2.2.2.2.2.2.1, s11.2.2.2.2.2.2.2.2.1, s11.2.2.2.2.2.2.2.2.2.1, s11.2.2.2.2.2.2.2.2.2.2.1, s11.2.2.2.2.2.2.2.2.2.2.2.1, s11.2.2.2.2.2.2.2.2.2.2.2.2.1, s11.2.2.2.2.2.2.2.2.2.2.2.2.2.1, s11.2.2.2.2.2.2.2.2.2.2.2.2.2.2.1, s11.2.2.2.2.2.2.2.2.2.2.2.2.2.2.2.1, s11.2.2.2.2.2.2.2.2.2.2.2.2.2.2.2.2.1, s11.2.2.2.2.2.2.2.2.2.2.2.2.2.2.2.2.2.1, s11.2.2.2.2.2.2.2.2.2.2.2.2.2.2.2.2.2.2.1, s11.2.2.2.2.2.2.2.2.2.2.2.2.2.2.2.2.2.2.2)) ∧ ((decide (s11.2.2.1 < ((v8.length : Int)))) = false → J10 (s11.1, s11.2.2.2.1, s11.2.2.2.2.1, s11.2.2.2.2.2.1, s11.2.2.2.2.2.2.1, s11.2.2.2.2.2.2.2.1, s11.2.2.2.2.2.2.2.2.1, s11.2.2.2.2.2.2.2.2.2.1, s11.2.2.2.2.2.2.2.2.2.2.1, s11.2.2.2.2.2.2.2.2.2.2.2.1, s11.2.2.2.2.2.2.2.2.2.2.2.2.1, s11.2.2.2.2.2.2.2.2.2.2.2.2.2.1, s11.2.2.2.2.2.2.2.2.2.2.2.2.2.2.1, s11.2.2.2.2.2.2.2.2.2.2.2.2.2.2.2.1, s11.2.2.2.2.2.2.2.2.2.2.2.2.2.2.2.2.1, s11.2.2.2.2.2.2.2.2.2.2.2.2.2.2.2.2.2.1, s11.2.2.2.2.2.2.2.2.2.2.2.2.2.2.2.2.2.2.1, s11.2.1, s11.2.2.2.2.2.2.2.2.2.2.2.2.2.2.2.2.2.2.2)))) (s2.1, v8, 0, v6.fa2, v6.f8, v6.fb5, v6.fb4, v7.fc1, v7.fi.fc.fa8, v7.fi.fy.f3, v7.fi.fa4.fh, v7.fi.ff.fh, v7.fi.fp.fw, v7.fj.fc.fa8, v7.fj.fy.f3, v7.fj.fa4.fh, v7.fj.ff.fh, v7.fj.fp.fw, v7.fb4, v9)))) ∧ ((decide (s2.2 < ((a0.length : Int)))) = false → J1 s2.1))) (([] : (List Q5)), 0))
def Jf (a0 : (List Q5)) (r : (List Q5)) : Prop := YO a0 fun x => r = x
theorem Ug {a0 : (List Q5)} {r : (List Q5)} (h : Jf a0 r) : Qp Tryz.prog 32 [.c (.l 97 (List.map Qv a0))] [.c (.own 97 (List.map Qv r))] [] := by
  refine Qn tb Tryz.func32 Z (by kernel_rfl) Z Z (Nat.le_of_ble_eq_true Z) Z ?_;intro E;unfold Jf YO at h;refine Z3 (fun Q hQ => ?_);refine tD Z ?_;refine tD Z ?_;refine Z2 (fun (p1 : (List Q5)) => (⟨[(3, .c (.sl (3, 1000) 0 (List.map Qv p1).length))], [((3, 1000), some (.row 97 (List.map Qv p1) true))]⟩ : St)) h (fun p1 h => ?_) (fun J1 L1 hL1 h => ?_)
  · refine tD Z ?_;obtain rfl := h;exact Qf (hQ _ _ (E6 Z Z Z Z))
  · refine tk fun L hL => ?_;refine dN 1 Z ?_;refine u0 QA ?_;refine dN 1 Z ?_;refine rt (hL _ ?_);refine Qr ?_;refine Zn (fun (s2 : (List Q5) × Int) => (⟨[(3, .c (.sl (3, 1000) 0 (List.map Qv s2.1).length)), (8, .c (.p (.l 97 (List.map Qv a0)))), (9, .c (.p (.v (.int .i64 ((a0.length : Int)))))), (10, .c (.p (.v (.int .i64 s2.2))))], [((3, 1000), some (.row 97 (List.map Qv s2.1) true))]⟩ : St)) h ((QC.blk (3, 1050) 97).trans ((QC.slot 3 Z (.nilo (b := (3, 1050)) Z)).trans (QC.nm [3, 8, 9, 10] [((3, 1050), (3, 1000))] Z (by kernel_rfl)))) (fun X2 L2 hL2 s2 h => ?_);refine tD Z ?_;refine sk fun L3 hL3 => ?_;refine cn h (fun h => ?_) fun h => ?_
    · refine Qh (hL3 _ ?_);refine Z2 (fun (p4 : (List Q5)) => (⟨[(3, .c (.sl (3, 1000) 0 (List.map Qv p4).length)), (8, .c (.p (.l 97 (List.map Qv a0)))), (9, .c (.p (.v (.int .i64 ((a0.length : Int)))))), (10, .c (.p (.v (.int .i64 s2.2))))], [((3, 1000), some (.row 97 (List.map Qv p4) true))]⟩ : St)) h (fun p4 h => ?_) (fun J4 L4 hL4 h => ?_)
      · refine tE Z (hL2 _ _ h QC.fit)
      · refine Qr ?_;refine tk fun L hL => ?_;obtain ⟨v5, hv5, h⟩ := h;refine u0 (QB hv5) ?_;refine dN 3 Z ?_;refine rt (hL _ ?_);refine dk mixed (fun L hL => ?_);refine dN 2 Z ?_;obtain ⟨v6, hv6, h⟩ := h;refine ul (Zt (WF hv6)) ?_;refine dN 2 Z ?_;obtain ⟨v7, hv7, h⟩ := h;refine ul (Zt (Ut hv7)) ?_;refine dN 4 Z ?_;refine rd (hL _ ?_);refine dk mixed (fun L hL => ?_);refine dN 2 Z ?_;obtain ⟨v8, hv8, h⟩ := h;refine ul (Zt (Xb hv8)) ?_;refine dN 2 Z ?_;obtain ⟨v9, hv9, h⟩ := h;refine ul (Zt (XO hv9)) ?_;refine dN 4 Z ?_;refine rd (hL _ ?_);refine Z2 (fun (p10 : (List Q5) × (List ByteArray) × (List Qi) × (List Int) × (List Int) × (List Int) × (List Int) × (List Int) × (List Q1) × (List Q1) × (List (List ByteArray)) × (List Int) × (List Int) × (List Q1) × (List Q1) × (List (List ByteArray)) × (List Int) × (List Qx) × (List QG)) => (⟨[(3, .c (.sl (3, 1000) 0 (List.map Qv p10.1).length)), (5, .c (.ptr (5, 0) 0 0)), (8, .c (.p (.l 97 (List.map Qv a0)))), (9, .c (.p (.v (.int .i64 ((a0.length : Int)))))), (10, .c (.p (.v (.int .i64 s2.2))))], [((3, 1000), some (.row 97 (List.map Qv p10.1) true)), ((5, 2004), some (.row 1 (List.map eS p10.2.1) true)), ((5, 2009), some (.row 2 (List.map QK p10.2.2.1) true)), ((5, 2010), some (.row 1 (List.map (eI .u8) p10.2.2.2.1) true)), ((5, 2022), some (.row 1 (List.map (eI .u8) p10.2.2.2.2.1) true)), ((5, 2026), some (.row 1 (List.map (eI .i64) p10.2.2.2.2.2.1) true)), ((5, 2038), some (.row 1 (List.map (eI .i64) p10.2.2.2.2.2.2.1) true)), ((5, 2042), some (.row 1 (List.map (eI .i64) p10.2.2.2.2.2.2.2.1) true)), ((5, 2045), some (.row 3 (List.map Q9 p10.2.2.2.2.2.2.2.2.1) true)), ((5, 2050), some (.row 3 (List.map Q9 p10.2.2.2.2.2.2.2.2.2.1) true)), ((5, 2055), some (.row 1 (List.map (eL 1 eS) p10.2.2.2.2.2.2.2.2.2.2.1) true)), ((5, 2067), some (.row 1 (List.map (eI .i64) p10.2.2.2.2.2.2.2.2.2.2.2.1) true)), ((5, 2071), some (.row 1 (List.map (eI .i64) p10.2.2.2.2.2.2.2.2.2.2.2.2.1) true)), ((5, 2074), some (.row 3 (List.map Q9 p10.2.2.2.2.2.2.2.2.2.2.2.2.2.1) true)), ((5, 2079), some (.row 3 (List.map Q9 p10.2.2.2.2.2.2.2.2.2.2.2.2.2.2.1) true)), ((5, 2084), some (.row 1 (List.map (eL 1 eS) p10.2.2.2.2.2.2.2.2.2.2.2.2.2.2.2.1) true)), ((5, 2092), some (.row 1 (List.map (eI .u8) p10.2.2.2.2.2.2.2.2.2.2.2.2.2.2.2.2.1) true)), ((5, 2095), some (.row 3 (List.map QE p10.2.2.2.2.2.2.2.2.2.2.2.2.2.2.2.2.2.1) true)), ((5, 2096), some (.row 4 (List.map QW p10.2.2.2.2.2.2.2.2.2.2.2.2.2.2.2.2.2.2) true)), ((5, 0), some (.box ([.p (.v (.bool v5.fb1)), .p (.v (.int .i64 v6.fo)), .p (.v (.string v6.fb7)), .p (.v (.string v6.fj)), .sl (5, 2004) 0 (List.map eS p10.2.1).length, .p (.v (.int .i64 v6.fb.fo)), .p (.v (.int .i64 v6.fb.fg)), .p (.v (.int .i64 v6.fb.fq)), .p (.v (.int .u64 v6.fb.fu)), .sl (5, 2009) 0 (List.map QK p10.2.2.1).length, .sl (5, 2010) 0 (List.map (eI .u8) p10.2.2.2.1).length, .p (.v (.int .i64 v6.fa3)), .p (.v (.int .i64 v6.fb0)), .p (.v (.int .i64 v6.fa5)), .p (.v (.int .i64 v6.fb6)), .p (.v (.int .i64 v6.fa6)), .p (.v (.int .i64 v6.f0)), .p (.v (.int .i64 v6.fv.fo)), .p (.v (.string v6.fv.fa1)), .p (.v (.int .i64 v6.fv.f0)), .p (.v (.int .i64 v6.fv.fc0)), .p (.v (.int .i64 v6.fv.fb9)), .sl (5, 2022) 0 (List.map (eI .u8) p10.2.2.2.2.1).length, .p (.v (.int .i64 v7.fc6)), .p (.v (.int .i64 v7.fc8)), .p (.v (.bool v7.fc3)), .sl (5, 2026) 0 (List.map (eI .i64) p10.2.2.2.2.2.1).length, .p (.v (.int .i64 v7.fb2)), .p (.v (.int .i64 v7.fi.fb.fo)), .p (.v (.int .i64 v7.fi.fb.fg)), .p (.v (.int .i64 v7.fi.fb.fq)), .p (.v (.int .u64 v7.fi.fb.fu)), .p (.v (.int .i64 v7.fi.fx.fm)), .p (.v (.int .i64 v7.fi.fx.f8)), .p (.v (.bool v7.fi.fx.fa)), .p (.v (.int .i64 v7.fi.fc.fq)), .p (.v (.int .i64 v7.fi.fc.fg)), .p (.v (.int .u64 v7.fi.fc.fu)), .sl (5, 2038) 0 (List.map (eI .i64) p10.2.2.2.2.2.2.1).length, .p (.v (.bool v7.fi.fc.fa)), .p (.v (.int .i64 v7.fi.fy.f7)), .p (.v (.int .u64 v7.fi.fy.fu)), .sl (5, 2042) 0 (List.map (eI .i64) p10.2.2.2.2.2.2.2.1).length, .p (.v (.int .i64 v7.fi.fa4.fg)), .p (.v (.int .i64 v7.fi.fa4.fm)), .sl (5, 2045) 0 (List.map Q9 p10.2.2.2.2.2.2.2.2.1).length, .p (.v (.bool v7.fi.fa4.fa)), .p (.v (.int .i64 v7.fi.ff.fg)), .p (.v (.int .i64 v7.fi.ff.fm)), .p (.v (.int .i64 v7.fi.ff.fb3)), .sl (5, 2050) 0 (List.map Q9 p10.2.2.2.2.2.2.2.2.2.1).length, .p (.v (.bool v7.fi.ff.fa)), .p (.v (.int .i64 v7.fi.fp.fg)), .p (.v (.int .i64 v7.fi.fp.fm)), .p (.v (.int .i64 v7.fi.fp.fa9)), .sl (5, 2055) 0 (List.map (eL 1 eS) p10.2.2.2.2.2.2.2.2.2.2.1).length, .p (.v (.bool v7.fi.fp.fa)), .p (.v (.int .i64 v7.fj.fb.fo)), .p (.v (.int .i64 v7.fj.fb.fg)), .p (.v (.int .i64 v7.fj.fb.fq)), .p (.v (.int .u64 v7.fj.fb.fu)), .p (.v (.int .i64 v7.fj.fx.fm)), .p (.v (.int .i64 v7.fj.fx.f8)), .p (.v (.bool v7.fj.fx.fa)), .p (.v (.int .i64 v7.fj.fc.fq)), .p (.v (.int .i64 v7.fj.fc.fg)), .p (.v (.int .u64 v7.fj.fc.fu)), .sl (5, 2067) 0 (List.map (eI .i64) p10.2.2.2.2.2.2.2.2.2.2.2.1).length, .p (.v (.bool v7.fj.fc.fa)), .p (.v (.int .i64 v7.fj.fy.f7)), .p (.v (.int .u64 v7.fj.fy.fu)), .sl (5, 2071) 0 (List.map (eI .i64) p10.2.2.2.2.2.2.2.2.2.2.2.2.1).length, .p (.v (.int .i64 v7.fj.fa4.fg)), .p (.v (.int .i64 v7.fj.fa4.fm)), .sl (5, 2074) 0 (List.map Q9 p10.2.2.2.2.2.2.2.2.2.2.2.2.2.1).length, .p (.v (.bool v7.fj.fa4.fa)), .p (.v (.int .i64 v7.fj.ff.fg)), .p (.v (.int .i64 v7.fj.ff.fm)), .p (.v (.int .i64 v7.fj.ff.fb3)), .sl (5, 2079) 0 (List.map Q9 p10.2.2.2.2.2.2.2.2.2.2.2.2.2.2.1).length, .p (.v (.bool v7.fj.ff.fa)), .p (.v (.int .i64 v7.fj.fp.fg)), .p (.v (.int .i64 v7.fj.fp.fm)), .p (.v (.int .i64 v7.fj.fp.fa9)), .sl (5, 2084) 0 (List.map (eL 1 eS) p10.2.2.2.2.2.2.2.2.2.2.2.2.2.2.2.1).length, .p (.v (.bool v7.fj.fp.fa)), .p (.v (.int .i64 v7.fc7)), .p (.v (.int .i64 v7.fd0)), .p (.v (.int .i64 v7.fa5)), .p (.v (.int .i64 v7.fa6)), .p (.v (.int .i64 v7.fAt.fb2)), .p (.v (.int .i64 v7.fAt.fd1)), .sl (5, 2092) 0 (List.map (eI .u8) p10.2.2.2.2.2.2.2.2.2.2.2.2.2.2.2.2.1).length, .p (.v (.bool v7.fc4)), .p (.v (.int .i64 v5.f9)), .sl (5, 2095) 0 (List.map QE p10.2.2.2.2.2.2.2.2.2.2.2.2.2.2.2.2.2.1).length, .sl (5, 2096) 0 (List.map QW p10.2.2.2.2.2.2.2.2.2.2.2.2.2.2.2.2.2.2).length])))]⟩ : St)) h (fun p10 h => ?_) (fun J10 L10 hL10 h => ?_)
        · refine tl fun L hL => ?_;refine dN 2 Z ?_;refine ul (ZB (b := (5, 2096)) Z Z (ZB (b := (5, 2095)) Z Z (ZB (b := (5, 2092)) Z Z (ZB (b := (5, 2084)) Z Z (ZB (b := (5, 2079)) Z Z (ZB (b := (5, 2074)) Z Z (ZB (b := (5, 2071)) Z Z (ZB (b := (5, 2067)) Z Z (ZB (b := (5, 2055)) Z Z (ZB (b := (5, 2050)) Z Z (ZB (b := (5, 2045)) Z Z (ZB (b := (5, 2042)) Z Z (ZB (b := (5, 2038)) Z Z (ZB (b := (5, 2026)) Z Z (ZB (b := (5, 2022)) Z Z (ZB (b := (5, 2010)) Z Z (ZB (b := (5, 2009)) Z Z (ZB (b := (5, 2004)) Z Z (Xi (rows := List.map Qv [(Q5.mk v5.fb1 (Qq.mk v6.fo v6.fb7 v6.fj p10.2.1 v6.fb p10.2.2.1 p10.2.2.2.1 v6.fa3 v6.fb0 v6.fa5 v6.fb6 v6.fa6 v6.f0 v6.fv p10.2.2.2.2.1) (Qy.mk v7.fc6 v7.fc8 v7.fc3 p10.2.2.2.2.2.1 v7.fb2 (Qd.mk v7.fi.fb v7.fi.fx (Qb.mk v7.fi.fc.fq v7.fi.fc.fg v7.fi.fc.fu p10.2.2.2.2.2.2.1 v7.fi.fc.fa) (Qj.mk v7.fi.fy.f7 v7.fi.fy.fu p10.2.2.2.2.2.2.2.1) (Qt.mk v7.fi.fa4.fg v7.fi.fa4.fm p10.2.2.2.2.2.2.2.2.1 v7.fi.fa4.fa) (Qe.mk v7.fi.ff.fg v7.fi.ff.fm v7.fi.ff.fb3 p10.2.2.2.2.2.2.2.2.2.1 v7.fi.ff.fa) (Qk.mk v7.fi.fp.fg v7.fi.fp.fm v7.fi.fp.fa9 p10.2.2.2.2.2.2.2.2.2.2.1 v7.fi.fp.fa)) (Qd.mk v7.fj.fb v7.fj.fx (Qb.mk v7.fj.fc.fq v7.fj.fc.fg v7.fj.fc.fu p10.2.2.2.2.2.2.2.2.2.2.2.1 v7.fj.fc.fa) (Qj.mk v7.fj.fy.f7 v7.fj.fy.fu p10.2.2.2.2.2.2.2.2.2.2.2.2.1) (Qt.mk v7.fj.fa4.fg v7.fj.fa4.fm p10.2.2.2.2.2.2.2.2.2.2.2.2.2.1 v7.fj.fa4.fa) (Qe.mk v7.fj.ff.fg v7.fj.ff.fm v7.fj.ff.fb3 p10.2.2.2.2.2.2.2.2.2.2.2.2.2.2.1 v7.fj.ff.fa) (Qk.mk v7.fj.fp.fg v7.fj.fp.fm v7.fj.fp.fa9 p10.2.2.2.2.2.2.2.2.2.2.2.2.2.2.2.1 v7.fj.fp.fa)) v7.fc7 v7.fd0 v7.fa5 v7.fa6 v7.fAt p10.2.2.2.2.2.2.2.2.2.2.2.2.2.2.2.2.1 v7.fc4) v5.f9 p10.2.2.2.2.2.2.2.2.2.2.2.2.2.2.2.2.2.1 p10.2.2.2.2.2.2.2.2.2.2.2.2.2.2.2.2.2.2)]) Z Z Z Z Z Z Z Z Z (.c (.c (.c (.c (.cons (.fr Z (QH Z)) (.c (.c (.c (.c (.cons (.fr Z (QH Z)) (.cons (.fr Z (QH Z)) (.c (.c (.c (.c (.c (.c (.c (.c (.c (.c (.c (.cons (.fr Z (QH Z)) (.c (.c (.c (.cons (.fr Z (QH Z)) (.c (.c (.c (.c (.c (.c (.c (.c (.c (.c (.c (.cons (.fr Z (QH Z)) (.c (.c (.c (.cons (.fr Z (QH Z)) (.c (.c (.cons (.fr Z (QH Z)) (.c (.c (.c (.c (.cons (.fr Z (QH Z)) (.c (.c (.c (.c (.cons (.fr Z (QH Z)) (.c (.c (.c (.c (.c (.c (.c (.c (.c (.c (.c (.cons (.fr Z (QH Z)) (.c (.c (.c (.cons (.fr Z (QH Z)) (.c (.c (.cons (.fr Z (QH Z)) (.c (.c (.c (.c (.cons (.fr Z (QH Z)) (.c (.c (.c (.c (.cons (.fr Z (QH Z)) (.c (.c (.c (.c (.c (.c (.c (.cons (.fr Z (QH Z)) (.c (.c (.cons (.fr Z (QH Z)) (.cons (.fr Z (QH Z)) .nil)))))))))))))))))))))))))))))))))))))))))))))))))))))))))))))))))))))))))))))))))))))))))))))))))))))))))))))))))))) ?_
          obtain ⟨hm17, h⟩ := h;refine ul (QI (f := Qv) (L := p10.1) (L' := [(Q5.mk v5.fb1 (Qq.mk v6.fo v6.fb7 v6.fj p10.2.1 v6.fb p10.2.2.1 p10.2.2.2.1 v6.fa3 v6.fb0 v6.fa5 v6.fb6 v6.fa6 v6.f0 v6.fv p10.2.2.2.2.1) (Qy.mk v7.fc6 v7.fc8 v7.fc3 p10.2.2.2.2.2.1 v7.fb2 (Qd.mk v7.fi.fb v7.fi.fx (Qb.mk v7.fi.fc.fq v7.fi.fc.fg v7.fi.fc.fu p10.2.2.2.2.2.2.1 v7.fi.fc.fa) (Qj.mk v7.fi.fy.f7 v7.fi.fy.fu p10.2.2.2.2.2.2.2.1) (Qt.mk v7.fi.fa4.fg v7.fi.fa4.fm p10.2.2.2.2.2.2.2.2.1 v7.fi.fa4.fa) (Qe.mk v7.fi.ff.fg v7.fi.ff.fm v7.fi.ff.fb3 p10.2.2.2.2.2.2.2.2.2.1 v7.fi.ff.fa) (Qk.mk v7.fi.fp.fg v7.fi.fp.fm v7.fi.fp.fa9 p10.2.2.2.2.2.2.2.2.2.2.1 v7.fi.fp.fa)) (Qd.mk v7.fj.fb v7.fj.fx (Qb.mk v7.fj.fc.fq v7.fj.fc.fg v7.fj.fc.fu p10.2.2.2.2.2.2.2.2.2.2.2.1 v7.fj.fc.fa) (Qj.mk v7.fj.fy.f7 v7.fj.fy.fu p10.2.2.2.2.2.2.2.2.2.2.2.2.1) (Qt.mk v7.fj.fa4.fg v7.fj.fa4.fm p10.2.2.2.2.2.2.2.2.2.2.2.2.2.1 v7.fj.fa4.fa) (Qe.mk v7.fj.ff.fg v7.fj.ff.fm v7.fj.ff.fb3 p10.2.2.2.2.2.2.2.2.2.2.2.2.2.2.1 v7.fj.ff.fa) (Qk.mk v7.fj.fp.fg v7.fj.fp.fm v7.fj.fp.fa9 p10.2.2.2.2.2.2.2.2.2.2.2.2.2.2.2.1 v7.fj.fp.fa)) v7.fc7 v7.fd0 v7.fa5 v7.fa6 v7.fAt p10.2.2.2.2.2.2.2.2.2.2.2.2.2.2.2.2.1 v7.fc4) v5.f9 p10.2.2.2.2.2.2.2.2.2.2.2.2.2.2.2.2.2.1 p10.2.2.2.2.2.2.2.2.2.2.2.2.2.2.2.2.2.2)]) hm17 Z Z Z Z Z Z Z Z Z Z Z (QZ QJ Z Z Z Z Z Z)) ?_
          refine dN 1 Z ?_;refine rt (hL _ (hL4 _ _ h (QC.nm [3, 8, 9, 10] [((50, 0), (3, 1000))] Z (by kernel_rfl))))
        · refine tk fun L hL => ?_;refine dN 2 Z ?_;refine u0 ZN ?_;refine dN 1 Z ?_;refine rt (hL _ ?_);refine Qr ?_;refine Zn (fun (s11 : (List Q5) × (List Qx) × Int × (List ByteArray) × (List Qi) × (List Int) × (List Int) × (List Int) × (List Int) × (List Int) × (List Q1) × (List Q1) × (List (List ByteArray)) × (List Int) × (List Int) × (List Q1) × (List Q1) × (List (List ByteArray)) × (List Int) × (List QG)) => (⟨[(3, .c (.sl (3, 1000) 0 (List.map Qv s11.1).length)), (5, .c (.ptr (5, 0) 0 0)), (8, .c (.p (.l 97 (List.map Qv a0)))), (9, .c (.p (.v (.int .i64 ((a0.length : Int)))))), (10, .c (.p (.v (.int .i64 s2.2)))), (31, .c (.sl (31, 1000) 0 (List.map QE s11.2.1).length)), (32, .c (.p (.v (.int .i64 ((v8.length : Int)))))), (33, .c (.p (.v (.int .i64 s11.2.2.1))))], [((3, 1000), some (.row 97 (List.map Qv s11.1) true)), ((31, 1000), some (.row 3 (List.map QE s11.2.1) true)), ((5, 2004), some (.row 1 (List.map eS s11.2.2.2.1) true)), ((5, 2009), some (.row 2 (List.map QK s11.2.2.2.2.1) true)), ((5, 2010), some (.row 1 (List.map (eI .u8) s11.2.2.2.2.2.1) true)), ((5, 2022), some (.row 1 (List.map (eI .u8) s11.2.2.2.2.2.2.1) true)), ((5, 2026), some (.row 1 (List.map (eI .i64) s11.2.2.2.2.2.2.2.1) true)), ((5, 2038), some (.row 1 (List.map (eI .i64) s11.2.2.2.2.2.2.2.2.1) true)), ((5, 2042), some (.row 1 (List.map (eI .i64) s11.2.2.2.2.2.2.2.2.2.1) true)), ((5, 2045), some (.row 3 (List.map Q9 s11.2.2.2.2.2.2.2.2.2.2.1) true)), ((5, 2050), some (.row 3 (List.map Q9 s11.2.2.2.2.2.2.2.2.2.2.2.1) true)), ((5, 2055), some (.row 1 (List.map (eL 1 eS) s11.2.2.2.2.2.2.2.2.2.2.2.2.1) true)), ((5, 2067), some (.row 1 (List.map (eI .i64) s11.2.2.2.2.2.2.2.2.2.2.2.2.2.1) true)), ((5, 2071), some (.row 1 (List.map (eI .i64) s11.2.2.2.2.2.2.2.2.2.2.2.2.2.2.1) true)), ((5, 2074), some (.row 3 (List.map Q9 s11.2.2.2.2.2.2.2.2.2.2.2.2.2.2.2.1) true)), ((5, 2079), some (.row 3 (List.map Q9 s11.2.2.2.2.2.2.2.2.2.2.2.2.2.2.2.2.1) true)), ((5, 2084), some (.row 1 (List.map (eL 1 eS) s11.2.2.2.2.2.2.2.2.2.2.2.2.2.2.2.2.2.1) true)), ((5, 2092), some (.row 1 (List.map (eI .u8) s11.2.2.2.2.2.2.2.2.2.2.2.2.2.2.2.2.2.2.1) true)), ((5, 2096), some (.row 4 (List.map QW s11.2.2.2.2.2.2.2.2.2.2.2.2.2.2.2.2.2.2.2) true)), ((5, 0), some (.box ([.p (.v (.bool v5.fb1)), .p (.v (.int .i64 v6.fo)), .p (.v (.string v6.fb7)), .p (.v (.string v6.fj)), .sl (5, 2004) 0 (List.map eS s11.2.2.2.1).length, .p (.v (.int .i64 v6.fb.fo)), .p (.v (.int .i64 v6.fb.fg)), .p (.v (.int .i64 v6.fb.fq)), .p (.v (.int .u64 v6.fb.fu)), .sl (5, 2009) 0 (List.map QK s11.2.2.2.2.1).length, .sl (5, 2010) 0 (List.map (eI .u8) s11.2.2.2.2.2.1).length, .p (.v (.int .i64 v6.fa3)), .p (.v (.int .i64 v6.fb0)), .p (.v (.int .i64 v6.fa5)), .p (.v (.int .i64 v6.fb6)), .p (.v (.int .i64 v6.fa6)), .p (.v (.int .i64 v6.f0)), .p (.v (.int .i64 v6.fv.fo)), .p (.v (.string v6.fv.fa1)), .p (.v (.int .i64 v6.fv.f0)), .p (.v (.int .i64 v6.fv.fc0)), .p (.v (.int .i64 v6.fv.fb9)), .sl (5, 2022) 0 (List.map (eI .u8) s11.2.2.2.2.2.2.1).length, .p (.v (.int .i64 v7.fc6)), .p (.v (.int .i64 v7.fc8)), .p (.v (.bool v7.fc3)), .sl (5, 2026) 0 (List.map (eI .i64) s11.2.2.2.2.2.2.2.1).length, .p (.v (.int .i64 v7.fb2)), .p (.v (.int .i64 v7.fi.fb.fo)), .p (.v (.int .i64 v7.fi.fb.fg)), .p (.v (.int .i64 v7.fi.fb.fq)), .p (.v (.int .u64 v7.fi.fb.fu)), .p (.v (.int .i64 v7.fi.fx.fm)), .p (.v (.int .i64 v7.fi.fx.f8)), .p (.v (.bool v7.fi.fx.fa)), .p (.v (.int .i64 v7.fi.fc.fq)), .p (.v (.int .i64 v7.fi.fc.fg)), .p (.v (.int .u64 v7.fi.fc.fu)), .sl (5, 2038) 0 (List.map (eI .i64) s11.2.2.2.2.2.2.2.2.1).length, .p (.v (.bool v7.fi.fc.fa)), .p (.v (.int .i64 v7.fi.fy.f7)), .p (.v (.int .u64 v7.fi.fy.fu)), .sl (5, 2042) 0 (List.map (eI .i64) s11.2.2.2.2.2.2.2.2.2.1).length, .p (.v (.int .i64 v7.fi.fa4.fg)), .p (.v (.int .i64 v7.fi.fa4.fm)), .sl (5, 2045) 0 (List.map Q9 s11.2.2.2.2.2.2.2.2.2.2.1).length, .p (.v (.bool v7.fi.fa4.fa)), .p (.v (.int .i64 v7.fi.ff.fg)), .p (.v (.int .i64 v7.fi.ff.fm)), .p (.v (.int .i64 v7.fi.ff.fb3)), .sl (5, 2050) 0 (List.map Q9 s11.2.2.2.2.2.2.2.2.2.2.2.1).length, .p (.v (.bool v7.fi.ff.fa)), .p (.v (.int .i64 v7.fi.fp.fg)), .p (.v (.int .i64 v7.fi.fp.fm)), .p (.v (.int .i64 v7.fi.fp.fa9)), .sl (5, 2055) 0 (List.map (eL 1 eS) s11.2.2.2.2.2.2.2.2.2.2.2.2.1).length, .p (.v (.bool v7.fi.fp.fa)), .p (.v (.int .i64 v7.fj.fb.fo)), .p (.v (.int .i64 v7.fj.fb.fg)), .p (.v (.int .i64 v7.fj.fb.fq)), .p (.v (.int .u64 v7.fj.fb.fu)), .p (.v (.int .i64 v7.fj.fx.fm)), .p (.v (.int .i64 v7.fj.fx.f8)), .p (.v (.bool v7.fj.fx.fa)), .p (.v (.int .i64 v7.fj.fc.fq)), .p (.v (.int .i64 v7.fj.fc.fg)), .p (.v (.int .u64 v7.fj.fc.fu)), .sl (5, 2067) 0 (List.map (eI .i64) s11.2.2.2.2.2.2.2.2.2.2.2.2.2.1).length, .p (.v (.bool v7.fj.fc.fa)), .p (.v (.int .i64 v7.fj.fy.f7)), .p (.v (.int .u64 v7.fj.fy.fu)), .sl (5, 2071) 0 (List.map (eI .i64) s11.2.2.2.2.2.2.2.2.2.2.2.2.2.2.1).length, .p (.v (.int .i64 v7.fj.fa4.fg)), .p (.v (.int .i64 v7.fj.fa4.fm)), .sl (5, 2074) 0 (List.map Q9 s11.2.2.2.2.2.2.2.2.2.2.2.2.2.2.2.1).length, .p (.v (.bool v7.fj.fa4.fa)), .p (.v (.int .i64 v7.fj.ff.fg)), .p (.v (.int .i64 v7.fj.ff.fm)), .p (.v (.int .i64 v7.fj.ff.fb3)), .sl (5, 2079) 0 (List.map Q9 s11.2.2.2.2.2.2.2.2.2.2.2.2.2.2.2.2.1).length, .p (.v (.bool v7.fj.ff.fa)), .p (.v (.int .i64 v7.fj.fp.fg)), .p (.v (.int .i64 v7.fj.fp.fm)), .p (.v (.int .i64 v7.fj.fp.fa9)), .sl (5, 2084) 0 (List.map (eL 1 eS) s11.2.2.2.2.2.2.2.2.2.2.2.2.2.2.2.2.2.1).length, .p (.v (.bool v7.fj.fp.fa)), .p (.v (.int .i64 v7.fc7)), .p (.v (.int .i64 v7.fd0)), .p (.v (.int .i64 v7.fa5)), .p (.v (.int .i64 v7.fa6)), .p (.v (.int .i64 v7.fAt.fb2)), .p (.v (.int .i64 v7.fAt.fd1)), .sl (5, 2092) 0 (List.map (eI .u8) s11.2.2.2.2.2.2.2.2.2.2.2.2.2.2.2.2.2.2.1).length, .p (.v (.bool v7.fc4)), .p (.v (.int .i64 v5.f9)), .sl (31, 1000) 0 (List.map QE s11.2.1).length, .sl (5, 2096) 0 (List.map QW s11.2.2.2.2.2.2.2.2.2.2.2.2.2.2.2.2.2.2.2).length])))]⟩ : St)) h (QC.nm [3, 5, 8, 9, 10, 31, 32, 33] [((3, 1000), (3, 1000)), ((24, 0), (31, 1000)), ((16, 3), (5, 2004)), ((16, 8), (5, 2009)), ((16, 9), (5, 2010)), ((16, 21), (5, 2022)), ((19, 3), (5, 2026)), ((19, 15), (5, 2038)), ((19, 19), (5, 2042)), ((19, 22), (5, 2045)), ((19, 27), (5, 2050)), ((19, 32), (5, 2055)), ((19, 44), (5, 2067)), ((19, 48), (5, 2071)), ((19, 51), (5, 2074)), ((19, 56), (5, 2079)), ((19, 61), (5, 2084)), ((19, 69), (5, 2092)), ((27, 0), (5, 2096)), ((5, 0), (5, 0))] Z (by kernel_rfl)) (fun X11 L11 hL11 s11 h => ?_)
          refine tD Z ?_;refine sk fun L12 hL12 => ?_;refine cn h (fun h => ?_) fun h => ?_
          · refine Qh (hL12 _ ?_);refine sk fun L13 hL13 => ?_;refine Qr ?_;refine tk fun L hL => ?_;refine dN 1 Z ?_;obtain ⟨v14, hv14, h⟩ := h;refine u0 (QV hv14) ?_;refine u0 (XV Z Z (gm hv14.2)) ?_;refine dN 3 Z ?_;refine rt (hL _ ?_);refine dl mixed (fun L hL => ?_);refine dN 5 Z ?_;obtain ⟨v15, hv15, h⟩ := h;refine ul (Zt (KX hv15)) ?_;obtain ⟨v16, hv16, h⟩ := h;refine u0 (QV hv16) ?_;refine dN 1 Z ?_;refine AJ Z (ZB (b := (43, 0)) Z Z (K0 (x1 := (Qx.mk v16.fc5 v16.fb8 v15)) hv16.2 Z Z Z Z (.cons (.fr Z (QH Z)) .nil))) ?_;refine rd (hL _ (hL13 _ ?_));refine tE Z (hL11 _ _ h ((QC.slot 31 Z (.n (n' := (List.map QE (List.set s11.2.1 (Int.toNat s11.2.2.1) ((Qx.mk v16.fc5 v16.fb8 v15)))).length) (by simp))).trans ((QC.cells (5, 0) Z (.c (.c (.c (.c (.c (.c (.c (.c (.c (.c (.c (.c (.c (.c (.c (.c (.c (.c (.c (.c (.c (.c (.c (.c (.c (.c (.c (.c (.c (.c (.c (.c (.c (.c (.c (.c (.c (.c (.c (.c (.c (.c (.c (.c (.c (.c (.c (.c (.c (.c (.c (.c (.c (.c (.c (.c (.c (.c (.c (.c (.c (.c (.c (.c (.c (.c (.c (.c (.c (.c (.c (.c (.c (.c (.c (.c (.c (.c (.c (.c (.c (.c (.c (.c (.c (.c (.c (.c (.c (.c (.c (.c (.c (.c (.c (.cons (.n (n' := (List.map QE (List.set s11.2.1 (Int.toNat s11.2.2.1) ((Qx.mk v16.fc5 v16.fb8 v15)))).length) (by simp)) (.c .nil)))))))))))))))))))))))))))))))))))))))))))))))))))))))))))))))))))))))))))))))))))))))))))))))))).trans QC.fit)))
          · refine QP (hL10 _ _ h (QC.nm [3, 5, 8, 9, 10] [((3, 1000), (3, 1000)), ((5, 2004), (5, 2004)), ((5, 2009), (5, 2009)), ((5, 2010), (5, 2010)), ((5, 2022), (5, 2022)), ((5, 2026), (5, 2026)), ((5, 2038), (5, 2038)), ((5, 2042), (5, 2042)), ((5, 2045), (5, 2045)), ((5, 2050), (5, 2050)), ((5, 2055), (5, 2055)), ((5, 2067), (5, 2067)), ((5, 2071), (5, 2071)), ((5, 2074), (5, 2074)), ((5, 2079), (5, 2079)), ((5, 2084), (5, 2084)), ((5, 2092), (5, 2092)), ((31, 1000), (5, 2095)), ((5, 2096), (5, 2096)), ((5, 0), (5, 0))] Z (by kernel_rfl)))
    · refine QP (hL1 _ _ h QC.fit)
def XL (a0 : (List Q5)) (a1 : Int) (a2 : Qq) (a3 : Int) (Q : ((List Q5) × Int) → Prop) : Prop :=
 ((((bif decide (a1 < 0) then true else decide (a1 ≥ ((a0.length : Int))))) = true → Q (([] : (List Q5)), 5)) ∧ (((bif decide (a1 < 0) then true else decide (a1 ≥ ((a0.length : Int))))) = false → ∃ v3, Xu a2 v3 ∧ ((((v3 != 0)) = true → Q (([] : (List Q5)), v3)) ∧ (((v3 != 0)) = false → ∃ v5, ix a0 a1 v5 ∧ ((v5.fb1 = true → Q (([] : (List Q5)), 12)) ∧ (v5.fb1 = false → ∃ v6, Jf a0 v6 ∧ ∃ v7, ix v6 a1 v7 ∧ ∃ v8, Jl a2 v8 ∧ Q ((List.set (List.set (List.set (List.set v6 (Int.toNat a1) ((Q5.mk true v7.fOp v7.fk v7.f9 v7.f5 v7.fa0))) (Int.toNat a1) ((Q5.mk true (Qq.mk v8.fo v8.fb7 v8.fj v8.fa2 v8.fb v8.f8 v8.fb5 v8.fa3 v8.fb0 v8.fa5 v8.fb6 v8.fa6 v8.f0 v8.fv v8.fb4) v7.fk v7.f9 v7.f5 v7.fa0))) (Int.toNat a1) ((Q5.mk true (Qq.mk v8.fo v8.fb7 v8.fj v8.fa2 v8.fb v8.f8 v8.fb5 v8.fa3 v8.fb0 v8.fa5 v8.fb6 v8.fa6 v8.f0 v8.fv v8.fb4) (Qy.mk 0 0 false (([] : (List Int))) 0 (Qd.mk (Q6.mk 0 0 0 0) (Qo.mk 0 0 false) (Qb.mk 0 0 0 (([] : (List Int))) false) (Qj.mk 0 0 (([] : (List Int)))) (Qt.mk 0 0 (([] : (List Q1))) false) (Qe.mk 0 0 0 (([] : (List Q1))) false) (Qk.mk 0 0 0 (([] : (List (List ByteArray)))) false)) (Qd.mk (Q6.mk 0 0 0 0) (Qo.mk 0 0 false) (Qb.mk 0 0 0 (([] : (List Int))) false) (Qj.mk 0 0 (([] : (List Int)))) (Qt.mk 0 0 (([] : (List Q1))) false) (Qe.mk 0 0 0 (([] : (List Q1))) false) (Qk.mk 0 0 0 (([] : (List (List ByteArray)))) false)) 0 0 0 0 (Z7.mk 0 0) (([] : (List Int))) false) v7.f9 v7.f5 v7.fa0))) (Int.toNat a1) ((Q5.mk true (Qq.mk v8.fo v8.fb7 v8.fj v8.fa2 v8.fb v8.f8 v8.fb5 v8.fa3 v8.fb0 v8.fa5 v8.fb6 v8.fa6 v8.f0 v8.fv v8.fb4) (Qy.mk 0 0 false (([] : (List Int))) 0 (Qd.mk (Q6.mk 0 0 0 0) (Qo.mk 0 0 false) (Qb.mk 0 0 0 (([] : (List Int))) false) (Qj.mk 0 0 (([] : (List Int)))) (Qt.mk 0 0 (([] : (List Q1))) false) (Qe.mk 0 0 0 (([] : (List Q1))) false) (Qk.mk 0 0 0 (([] : (List (List ByteArray)))) false)) (Qd.mk (Q6.mk 0 0 0 0) (Qo.mk 0 0 false) (Qb.mk 0 0 0 (([] : (List Int))) false) (Qj.mk 0 0 (([] : (List Int)))) (Qt.mk 0 0 (([] : (List Q1))) false) (Qe.mk 0 0 0 (([] : (List Q1))) false) (Qk.mk 0 0 0 (([] : (List (List ByteArray)))) false)) 0 0 0 0 (Z7.mk 0 0) (([] : (List Int))) false) a3 v7.f5 v7.fa0))), 0)))))))
def Kq (a0 : (List Q5)) (a1 : Int) (a2 : Qq) (a3 : Int) (r : (List Q5) × Int) : Prop := XL a0 a1 a2 a3 fun x => r = x
theorem UI {a0 : (List Q5)} {a1 : Int} {a2 : Qq} {a3 : Int} {r : (List Q5) × Int} (h : Kq a0 a1 a2 a3 r) : Qp Tryz.prog 9 [.c (.l 97 (List.map Qv a0)), .c (.v (.int .i64 a1)), .agg (Zi a2), .c (.v (.int .i64 a3))] [.c (.own 97 (List.map Qv r.1)), .c (.p (.v (.int .i64 r.2)))] [] := by
  refine Qn tb Tryz.func9 Z (by kernel_rfl) Z Z (Nat.le_of_ble_eq_true Z) Z ?_;intro E;unfold Kq XL at h;refine Z3 (fun Q hQ => ?_);refine tD Z ?_;refine sk fun L1 hL1 => ?_;refine tk fun L hL => ?_;refine dN 3 Z ?_;refine Q2 Z Z Q4 (fun hg => Qc Z Z) ?_;refine Q2 Z Z Q4 (fun hg => Qc Z Z) ?_;refine Q2 Z Z Q4 (fun hg => QA (Qa hg) Z Z Z) ?_;refine Q2 Z Z Q4 (fun hg => Qz (c := decide (a1 ≥ ((a0.length : Int)))) (Qa hg) (Qa hg) Z Z Z) ?_;refine u0 (Qm (v := .bool true) (w := .bool (decide (a1 ≥ ((a0.length : Int))))) Z Z Q4 Z Qw) ?_;refine rt (hL _ ?_);refine cn h (fun h => ?_) fun h => ?_
  · refine tD Z ?_;obtain rfl := h;exact Qf (hQ _ _ (Is Z Z Z Z))
  · refine Qh (hL1 _ ?_);refine QQ (st' := ⟨[(0, .c (.p (.l 97 (List.map Qv a0)))), (1, .c (.p (.v (.int .i64 a1)))), (3, .c (.p (.v (.int .i64 a3)))), (6, .c (.ptr (6, 0) 0 0))], [((6, 0), some (.box (List.map CV.p (Zi a2))))]⟩) QC.fit ?_;refine sk fun L2 hL2 => ?_;refine tk fun L hL => ?_;refine dN 1 Z ?_;obtain ⟨v3, hv3, h⟩ := h;refine u0 (QR (AX hv3)) ?_;refine dN 1 Z ?_;refine rt (hL _ ?_);refine tD Z ?_;refine cn h (fun h => ?_) fun h => ?_
    · refine tD Z ?_;obtain rfl := h;exact Qf (hQ _ _ (Is Z Z Z Z))
    · refine Qh (hL2 _ ?_);refine sk fun L4 hL4 => ?_;refine tk fun L hL => ?_;refine dN 2 Z ?_;obtain ⟨v5, hv5, h⟩ := h;refine u0 (QB hv5) ?_;refine dN 2 Z ?_;refine rt (hL _ ?_);refine cn h (fun h => ?_) fun h => ?_
      · refine tD Z ?_;obtain rfl := h;exact Qf (hQ _ _ (Is Z Z Z Z))
      · refine Qh (hL4 _ ?_);refine tk fun L hL => ?_;refine dN 1 Z ?_;obtain ⟨v6, hv6, h⟩ := h;refine ul (Zt (Ug hv6)) ?_;refine dN 1 Z ?_;refine rt (hL _ ?_);refine tk fun L hL => ?_;refine dN 2 Z ?_;obtain ⟨v7, hv7, h⟩ := h;refine u0 (QV hv7) ?_;refine dN 1 Z ?_;refine rt (hL _ ?_);refine tk fun L hL => ?_;refine dN 5 Z ?_;obtain ⟨v8, hv8, h⟩ := h;refine ul (Zt (WF hv8)) ?_;refine dN 4 Z ?_;refine un (Zf (x1 := (Q5.mk true v7.fOp v7.fk v7.f9 v7.f5 v7.fa0)) hv7.2) ?_;refine dN 2 Z ?_;refine AJ Z (ZB (b := (41, 21)) Z Z (ZB (b := (41, 9)) Z Z (ZB (b := (41, 8)) Z Z (ZB (b := (41, 3)) Z Z (K0 (x1 := (Q5.mk true (Qq.mk v8.fo v8.fb7 v8.fj v8.fa2 v8.fb v8.f8 v8.fb5 v8.fa3 v8.fb0 v8.fa5 v8.fb6 v8.fa6 v8.f0 v8.fv v8.fb4) v7.fk v7.f9 v7.f5 v7.fa0)) (ZC hv7.2) Z Z Z Z (.c (.c (.c (.cons (.fr Z (QH Z)) (.c (.c (.c (.c (.cons (.fr Z (QH Z)) (.cons (.fr Z (QH Z)) (.c (.c (.c (.c (.c (.c (.c (.c (.c (.c (.c (.cons (.fr Z (QH Z)) .nil))))))))))))))))))))))))))) ?_
        refine dN 2 Z ?_;refine un (K0 (x1 := (Q5.mk true (Qq.mk v8.fo v8.fb7 v8.fj v8.fa2 v8.fb v8.f8 v8.fb5 v8.fa3 v8.fb0 v8.fa5 v8.fb6 v8.fa6 v8.f0 v8.fv v8.fb4) (Qy.mk 0 0 false (([] : (List Int))) 0 (Qd.mk (Q6.mk 0 0 0 0) (Qo.mk 0 0 false) (Qb.mk 0 0 0 (([] : (List Int))) false) (Qj.mk 0 0 (([] : (List Int)))) (Qt.mk 0 0 (([] : (List Q1))) false) (Qe.mk 0 0 0 (([] : (List Q1))) false) (Qk.mk 0 0 0 (([] : (List (List ByteArray)))) false)) (Qd.mk (Q6.mk 0 0 0 0) (Qo.mk 0 0 false) (Qb.mk 0 0 0 (([] : (List Int))) false) (Qj.mk 0 0 (([] : (List Int)))) (Qt.mk 0 0 (([] : (List Q1))) false) (Qe.mk 0 0 0 (([] : (List Q1))) false) (Qk.mk 0 0 0 (([] : (List (List ByteArray)))) false)) 0 0 0 0 (Z7.mk 0 0) (([] : (List Int))) false) v7.f9 v7.f5 v7.fa0)) (ZC (ZC hv7.2)) Z Z Z Z (.c (.c (.c (.cons (.nil _) (.c (.c (.c (.c (.c (.c (.c (.c (.c (.c (.c (.cons (.nil _) (.c (.c (.c (.cons (.nil _) (.c (.c (.cons (.nil _) (.c (.c (.c (.c (.cons (.nil _) (.c (.c (.c (.c (.cons (.nil _) (.c (.c (.c (.c (.c (.c (.c (.c (.c (.c (.c (.cons (.nil _) (.c (.c (.c (.cons (.nil _) (.c (.c (.cons (.nil _) (.c (.c (.c (.c (.cons (.nil _) (.c (.c (.c (.c (.cons (.nil _) (.c (.c (.c (.c (.c (.c (.c (.cons (.nil _) (.c .nil)))))))))))))))))))))))))))))))))))))))))))))))))))))))))))))))))))))))) ?_
        refine dN 2 Z ?_;refine un (Zf (x1 := (Q5.mk true (Qq.mk v8.fo v8.fb7 v8.fj v8.fa2 v8.fb v8.f8 v8.fb5 v8.fa3 v8.fb0 v8.fa5 v8.fb6 v8.fa6 v8.f0 v8.fv v8.fb4) (Qy.mk 0 0 false (([] : (List Int))) 0 (Qd.mk (Q6.mk 0 0 0 0) (Qo.mk 0 0 false) (Qb.mk 0 0 0 (([] : (List Int))) false) (Qj.mk 0 0 (([] : (List Int)))) (Qt.mk 0 0 (([] : (List Q1))) false) (Qe.mk 0 0 0 (([] : (List Q1))) false) (Qk.mk 0 0 0 (([] : (List (List ByteArray)))) false)) (Qd.mk (Q6.mk 0 0 0 0) (Qo.mk 0 0 false) (Qb.mk 0 0 0 (([] : (List Int))) false) (Qj.mk 0 0 (([] : (List Int)))) (Qt.mk 0 0 (([] : (List Q1))) false) (Qe.mk 0 0 0 (([] : (List Q1))) false) (Qk.mk 0 0 0 (([] : (List (List ByteArray)))) false)) 0 0 0 0 (Z7.mk 0 0) (([] : (List Int))) false) a3 v7.f5 v7.fa0)) (ZC (ZC (ZC hv7.2)))) ?_;refine rt (hL _ ?_);refine tD Z ?_;obtain rfl := h;exact Qf (hQ _ _ ⟨.inr Z, _, _, _, (.cons (.s Z) (.cons (.p Z) .nil)), (.cons (.c (.own Z (by simp))) (.cons (.c (.p _)) .nil)), Z, Z⟩)
def Xc (a0 : (List Qx)) (a1 : (List Qx)) (Q : Bool → Prop) : Prop :=
 ((((((a0.length : Int)) != ((a1.length : Int)))) = true → Q false) ∧ (((((a0.length : Int)) != ((a1.length : Int)))) = false → jn (fun (p2 : Unit) => Q true) (fun (J2 : Unit → Prop) => lp (fun (X3 : Int → Prop) (s3 : Int) => (((decide (s3 < ((a0.length : Int)))) = true → jn (fun (p5 : Unit) => X3 ((IntKind.i64.wrap (s3 + 1)))) (fun (J5 : Unit → Prop) => ∃ v7, ix a0 s3 v7 ∧ ∃ v8, ix a1 s3 v8 ∧ ∃ (v9 : Qx), ((!((!(v7.fc5 == v8.fc5)))) = true → ix a0 s3 v9) ∧ ∃ (v10 : Qx), ((!((!(v7.fc5 == v8.fc5)))) = true → ix a1 s3 v10) ∧ ∃ (v11 : Qx), ((!((bif (!(v7.fc5 == v8.fc5)) then true else (v9.fb8 != v10.fb8)))) = true → ix a0 s3 v11) ∧ ∃ (v12 : Qx), ((!((bif (!(v7.fc5 == v8.fc5)) then true else (v9.fb8 != v10.fb8)))) = true → ix a1 s3 v12) ∧ ((((bif (bif (!(v7.fc5 == v8.fc5)) then true else (v9.fb8 != v10.fb8)) then true else (((v11.fa2.length : Int)) != ((v12.fa2.length : Int))))) = true → Q false) ∧ (((bif (bif (!(v7.fc5 == v8.fc5)) then true else (v9.fb8 != v10.fb8)) then true else (((v11.fa2.length : Int)) != ((v12.fa2.length : Int))))) = false → lp (fun (X13 : Int → Prop) (s13 : Int) => ∃ v15, ix a0 s3 v15 ∧ (((decide (s13 < ((v15.fa2.length : Int)))) = true → ∃ v17, ix a0 s3 v17 ∧ ∃ v18, ix v17.fa2 s13 v18 ∧ ∃ v19, ix a1 s3 v19 ∧ ∃ v20, ix v19.fa2 s13 v20 ∧ ((((!(v18.toList == v20.toList))) = true → Q false) ∧ (((!(v18.toList == v20.toList))) = false → X13 ((IntKind.i64.wrap (s13 + 1)))))) ∧ ((decide (s13 < ((v15.fa2.length : Int)))) = false → J5 (())))) 0)))) ∧ ((decide (s3 < ((a0.length : Int)))) = false → J2 (())))) 0)))
def KL (a0 : (List Qx)) (a1 : (List Qx)) (r : Bool) : Prop := Xc a0 a1 fun x => r = x
theorem Ax {a0 : (List Qx)} {a1 : (List Qx)} {r : Bool} (h : KL a0 a1 r) : Qp Tryz.prog 17 [.c (.l 3 (List.map QE a0)), .c (.l 3 (List.map QE a1))] [.c (.p (.v (.bool r)))] [] := by
  refine Qn tb Tryz.func17 Z (by kernel_rfl) Z Z (Nat.le_of_ble_eq_true Z) Z ?_;intro E;unfold KL Xc at h;refine Z3 (fun Q hQ => ?_);refine tD Z ?_;refine sk fun L1 hL1 => ?_;refine tk fun L hL => ?_;refine dN 1 Z ?_;refine u0 QA ?_;refine dN 1 Z ?_;refine u0 QA ?_;refine dN 1 Z ?_;refine rt (hL _ ?_);refine cn h (fun h => ?_) fun h => ?_
  · refine tD Z ?_;obtain rfl := h;exact Qf (hQ _ _ (Zq Z Z))
  · refine Qh (hL1 _ ?_);refine Z2 (fun (p2 : Unit) => (⟨[], []⟩ : St)) h (fun p2 h => ?_) (fun J2 L2 hL2 h => ?_)
    · refine tD Z ?_;obtain rfl := h;exact Qf (hQ _ _ (Zq Z Z))
    · refine tD Z ?_;refine Qr ?_;refine Zn (fun (s3 : Int) => (⟨[(0, .c (.p (.l 3 (List.map QE a0)))), (1, .c (.p (.l 3 (List.map QE a1)))), (5, .c (.p (.v (.int .i64 s3))))], []⟩ : St)) h QC.fit (fun X3 L3 hL3 s3 h => ?_);refine sk fun L4 hL4 => ?_;refine tk fun L hL => ?_;refine dN 2 Z ?_;refine u0 QA ?_;refine dN 1 Z ?_;refine rt (hL _ ?_);refine cn h (fun h => ?_) fun h => ?_
      · refine Qh (hL4 _ ?_);refine Z2 (fun (p5 : Unit) => (⟨[(0, .c (.p (.l 3 (List.map QE a0)))), (1, .c (.p (.l 3 (List.map QE a1)))), (5, .c (.p (.v (.int .i64 s3))))], []⟩ : St)) h (fun p5 h => ?_) (fun J5 L5 hL5 h => ?_)
        · refine tE Z (hL3 _ _ h QC.fit)
        · refine Qr ?_;refine sk fun L6 hL6 => ?_;refine dk mixed (fun L hL => ?_);refine dN 2 Z ?_;obtain ⟨v7, hv7, h⟩ := h;refine u0 (QB hv7) ?_;refine dN 4 Z ?_;obtain ⟨v8, hv8, h⟩ := h;refine u0 (QB hv8) ?_;refine dN 4 Z ?_;refine Q2 Z Z Q4 (fun hg => Qc Z Z) ?_;refine Q2 Z Z Q4 (fun hg => Qc Z Z) ?_;obtain ⟨v9, hv9, h⟩ := h;refine Q2 Z Z Q4 (fun hg => QB (hv9 hg) (Qa hg) (Qa hg) Z Z Z Z Z Z) ?_;refine Q2 Z Z Q4 (fun hg => ZM (Qa hg) Z Z Z Z Z Z Z) ?_;refine Q2 Z Z Q4 (fun hg => Zl (Qa hg) Z Z Z Z) ?_;refine Q2 Z Z Q4 (fun hg => Qc Z Z) ?_;refine Q2 Z Z Q4 (fun hg => Qc Z Z) ?_;obtain ⟨v10, hv10, h⟩ := h;refine Q2 Z Z Q4 (fun hg => QB (hv10 hg) (Qa hg) (Qa hg) Z Z Z Z Z Z) ?_;refine Q2 Z Z Q4 (fun hg => ZM (Qa hg) Z Z Z Z Z Z Z) ?_;refine Q2 Z Z Q4 (fun hg => Zl (Qa hg) Z Z Z Z) ?_;refine Q2 Z Z Q4 (fun hg => Qz (c := (v9.fb8 != v10.fb8)) (Qa hg) (Qa hg) Z Z Z) ?_;refine u0 (Qm (v := .bool true) (w := .bool ((v9.fb8 != v10.fb8))) Z Z Q4 Z Qw) ?_;refine dN 1 Z ?_;refine Q2 Z Z Q4 (fun hg => Qc Z Z) ?_
          refine Q2 Z Z Q4 (fun hg => Qc Z Z) ?_;obtain ⟨v11, hv11, h⟩ := h;refine Q2 Z Z Q4 (fun hg => QB (hv11 hg) (Qa hg) (Qa hg) Z Z Z Z Z Z) ?_;refine Q2 Z Z Q4 (fun hg => ZM (Qa hg) Z Z Z Z Z Z Z) ?_;refine Q2 Z Z Q4 (fun hg => Zl (Qa hg) Z Z Z Z) ?_;refine Q2 Z Z Q4 (fun hg => QA (Qa hg) Z Z Z) ?_;refine Q2 Z Z Q4 (fun hg => Qc Z Z) ?_;refine Q2 Z Z Q4 (fun hg => Qc Z Z) ?_;obtain ⟨v12, hv12, h⟩ := h;refine Q2 Z Z Q4 (fun hg => QB (hv12 hg) (Qa hg) (Qa hg) Z Z Z Z Z Z) ?_;refine Q2 Z Z Q4 (fun hg => ZM (Qa hg) Z Z Z Z Z Z Z) ?_;refine Q2 Z Z Q4 (fun hg => Zl (Qa hg) Z Z Z Z) ?_;refine Q2 Z Z Q4 (fun hg => QA (Qa hg) Z Z Z) ?_;refine Q2 Z Z Q4 (fun hg => Qz (c := (((v11.fa2.length : Int)) != ((v12.fa2.length : Int)))) (Qa hg) (Qa hg) Z Z Z) ?_;refine u0 (Qm (v := .bool true) (w := .bool ((((v11.fa2.length : Int)) != ((v12.fa2.length : Int))))) Z Z Q4 Z Qw) ?_;refine rd (hL _ ?_);refine cn h (fun h => ?_) fun h => ?_
          · refine tD Z ?_;refine QQ (st' := ⟨[(4, .c (.p (.v (.bool false))))], []⟩) QC.fit ?_;obtain rfl := h;exact Qf (hQ _ _ (Zq Z Z))
          · refine Qh (hL6 _ ?_);refine QQ (st' := ⟨[(0, .c (.p (.l 3 (List.map QE a0)))), (1, .c (.p (.l 3 (List.map QE a1)))), (5, .c (.p (.v (.int .i64 s3))))], []⟩) QC.fit ?_;refine tD Z ?_;refine Qr ?_;refine Zn (fun (s13 : Int) => (⟨[(0, .c (.p (.l 3 (List.map QE a0)))), (1, .c (.p (.l 3 (List.map QE a1)))), (5, .c (.p (.v (.int .i64 s3)))), (6, .c (.p (.v (.int .i64 s13))))], []⟩ : St)) h QC.fit (fun X13 L13 hL13 s13 h => ?_);refine sk fun L14 hL14 => ?_;refine tk fun L hL => ?_;refine dN 3 Z ?_;obtain ⟨v15, hv15, h⟩ := h;refine u0 (QB hv15) ?_;refine dN 2 Z ?_;refine u0 QA ?_;refine dN 1 Z ?_;refine rt (hL _ ?_);refine cn h (fun h => ?_) fun h => ?_
            · refine Qh (hL14 _ ?_);refine sk fun L16 hL16 => ?_;refine Qr ?_;refine dk mixed (fun L hL => ?_);refine dN 2 Z ?_;obtain ⟨v17, hv17, h⟩ := h;refine u0 (QB hv17) ?_;refine dN 3 Z ?_;obtain ⟨v18, hv18, h⟩ := h;refine u0 (QB hv18) ?_;refine dN 3 Z ?_;obtain ⟨v19, hv19, h⟩ := h;refine u0 (QB hv19) ?_;refine dN 3 Z ?_;obtain ⟨v20, hv20, h⟩ := h;refine u0 (QB hv20) ?_;refine dN 2 Z ?_;refine rd (hL _ ?_);refine cn h (fun h => ?_) fun h => ?_
              · refine tD Z ?_;obtain rfl := h;exact Qf (hQ _ _ (Zq Z Z))
              · refine Qh (hL16 _ ?_);refine tE Z (hL13 _ _ h QC.fit)
            · refine QP (hL5 _ _ h QC.fit)
      · refine QP (hL2 _ _ h QC.fit)
def XP (a0 : (List QG)) (a1 : (List QG)) (Q : Bool → Prop) : Prop :=
 ((((((a0.length : Int)) != ((a1.length : Int)))) = true → Q false) ∧ (((((a0.length : Int)) != ((a1.length : Int)))) = false → jn (fun (p2 : Unit) => Q true) (fun (J2 : Unit → Prop) => lp (fun (X3 : Int → Prop) (s3 : Int) => (((decide (s3 < ((a0.length : Int)))) = true → ∃ v6, ix a0 s3 v6 ∧ ∃ v7, ix a1 s3 v7 ∧ ((((!((v6.fc5 == v7.fc5) && ((v6.fb8 == v7.fb8) && ((v6.fb7.toList == v7.fb7.toList) && ((v6.fd3 == v7.fd3) && true)))))) = true → Q false) ∧ (((!((v6.fc5 == v7.fc5) && ((v6.fb8 == v7.fb8) && ((v6.fb7.toList == v7.fb7.toList) && ((v6.fd3 == v7.fd3) && true)))))) = false → X3 ((IntKind.i64.wrap (s3 + 1)))))) ∧ ((decide (s3 < ((a0.length : Int)))) = false → J2 (())))) 0)))
def Jn (a0 : (List QG)) (a1 : (List QG)) (r : Bool) : Prop := XP a0 a1 fun x => r = x
theorem Bo {a0 : (List QG)} {a1 : (List QG)} {r : Bool} (h : Jn a0 a1 r) : Qp Tryz.prog 18 [.c (.l 4 (List.map QW a0)), .c (.l 4 (List.map QW a1))] [.c (.p (.v (.bool r)))] [] := by
  refine Qn tb Tryz.func18 Z (by kernel_rfl) Z Z (Nat.le_of_ble_eq_true Z) Z ?_;intro E;unfold Jn XP at h;refine Z3 (fun Q hQ => ?_);refine tD Z ?_;refine sk fun L1 hL1 => ?_;refine tk fun L hL => ?_;refine dN 1 Z ?_;refine u0 QA ?_;refine dN 1 Z ?_;refine u0 QA ?_;refine dN 1 Z ?_;refine rt (hL _ ?_);refine cn h (fun h => ?_) fun h => ?_
  · refine tD Z ?_;obtain rfl := h;exact Qf (hQ _ _ (Zq Z Z))
  · refine Qh (hL1 _ ?_);refine Z2 (fun (p2 : Unit) => (⟨[], []⟩ : St)) h (fun p2 h => ?_) (fun J2 L2 hL2 h => ?_)
    · refine tD Z ?_;obtain rfl := h;exact Qf (hQ _ _ (Zq Z Z))
    · refine tD Z ?_;refine Qr ?_;refine Zn (fun (s3 : Int) => (⟨[(0, .c (.p (.l 4 (List.map QW a0)))), (1, .c (.p (.l 4 (List.map QW a1)))), (5, .c (.p (.v (.int .i64 s3))))], []⟩ : St)) h QC.fit (fun X3 L3 hL3 s3 h => ?_);refine sk fun L4 hL4 => ?_;refine tk fun L hL => ?_;refine dN 2 Z ?_;refine u0 QA ?_;refine dN 1 Z ?_;refine rt (hL _ ?_);refine cn h (fun h => ?_) fun h => ?_
      · refine Qh (hL4 _ ?_);refine sk fun L5 hL5 => ?_;refine Qr ?_;refine dk mixed (fun L hL => ?_);refine dN 2 Z ?_;obtain ⟨v6, hv6, h⟩ := h;refine u0 (QB hv6) ?_;refine dN 3 Z ?_;obtain ⟨v7, hv7, h⟩ := h;refine u0 (QB hv7) ?_;refine dN 1 Z ?_;refine u0 (AI (us := [.bool v6.fc5, .int .i64 v6.fb8, .string v6.fb7, .int .i64 v6.fd3]) (vs := [.bool v7.fc5, .int .i64 v7.fb8, .string v7.fb7, .int .i64 v7.fd3]) (c := (!((v6.fc5 == v7.fc5) && ((v6.fb8 == v7.fb8) && ((v6.fb7.toList == v7.fb7.toList) && ((v6.fd3 == v7.fd3) && true)))))) Z Z (by kernel_rfl)) ?_;refine rd (hL _ ?_);refine cn h (fun h => ?_) fun h => ?_
        · refine tD Z ?_;obtain rfl := h;exact Qf (hQ _ _ (Zq Z Z))
        · refine Qh (hL5 _ ?_);refine tE Z (hL3 _ _ h QC.fit)
      · refine QP (hL2 _ _ h QC.fit)
def A6 (a0 : Qq) (a1 : Qq) (Q : Bool → Prop) : Prop :=
 ((((bif (bif (bif (bif (bif (bif (bif (bif (bif (bif (bif (bif (bif (bif (a0.fo != a1.fo) then true else (!(a0.fb7.toList == a1.fb7.toList))) then true else (!(a0.fj.toList == a1.fj.toList))) then true else (!((a0.fb.fo == a1.fb.fo) && ((a0.fb.fg == a1.fb.fg) && ((a0.fb.fq == a1.fb.fq) && ((a0.fb.fu == a1.fb.fu) && true)))))) then true else (!((strOfNums a0.fb5).toList == (strOfNums a1.fb5).toList))) then true else (a0.fa3 != a1.fa3)) then true else (a0.fb0 != a1.fb0)) then true else (a0.fa5 != a1.fa5)) then true else (a0.fb6 != a1.fb6)) then true else (a0.fa6 != a1.fa6)) then true else (a0.f0 != a1.f0)) then true else (!((a0.fv.fo == a1.fv.fo) && ((a0.fv.fa1.toList == a1.fv.fa1.toList) && ((a0.fv.f0 == a1.fv.f0) && ((a0.fv.fc0 == a1.fv.fc0) && ((a0.fv.fb9 == a1.fv.fb9) && true))))))) then true else (!((strOfNums a0.fb4).toList == (strOfNums a1.fb4).toList))) then true else (((a0.fa2.length : Int)) != ((a1.fa2.length : Int)))) then true else (((a0.f8.length : Int)) != ((a1.f8.length : Int))))) = true → Q false) ∧ (((bif (bif (bif (bif (bif (bif (bif (bif (bif (bif (bif (bif (bif (bif (a0.fo != a1.fo) then true else (!(a0.fb7.toList == a1.fb7.toList))) then true else (!(a0.fj.toList == a1.fj.toList))) then true else (!((a0.fb.fo == a1.fb.fo) && ((a0.fb.fg == a1.fb.fg) && ((a0.fb.fq == a1.fb.fq) && ((a0.fb.fu == a1.fb.fu) && true)))))) then true else (!((strOfNums a0.fb5).toList == (strOfNums a1.fb5).toList))) then true else (a0.fa3 != a1.fa3)) then true else (a0.fb0 != a1.fb0)) then true else (a0.fa5 != a1.fa5)) then true else (a0.fb6 != a1.fb6)) then true else (a0.fa6 != a1.fa6)) then true else (a0.f0 != a1.f0)) then true else (!((a0.fv.fo == a1.fv.fo) && ((a0.fv.fa1.toList == a1.fv.fa1.toList) && ((a0.fv.f0 == a1.fv.f0) && ((a0.fv.fc0 == a1.fv.fc0) && ((a0.fv.fb9 == a1.fv.fb9) && true))))))) then true else (!((strOfNums a0.fb4).toList == (strOfNums a1.fb4).toList))) then true else (((a0.fa2.length : Int)) != ((a1.fa2.length : Int)))) then true else (((a0.f8.length : Int)) != ((a1.f8.length : Int))))) = false → jn (fun (p2 : Unit) => jn (fun (p8 : Unit) => Q true) (fun (J8 : Unit → Prop) => lp (fun (X9 : Int → Prop) (s9 : Int) => (((decide (s9 < ((a0.f8.length : Int)))) = true → ∃ v12, ix a0.f8 s9 v12 ∧ ∃ v13, ix a1.f8 s9 v13 ∧ ((((!((v12.fa1.toList == v13.fa1.toList) && ((v12.fa7 == v13.fa7) && true)))) = true → Q false) ∧ (((!((v12.fa1.toList == v13.fa1.toList) && ((v12.fa7 == v13.fa7) && true)))) = false → X9 ((IntKind.i64.wrap (s9 + 1)))))) ∧ ((decide (s9 < ((a0.f8.length : Int)))) = false → J8 (())))) 0)) (fun (J2 : Unit → Prop) => lp (fun (X3 : Int → Prop) (s3 : Int) => (((decide (s3 < ((a0.fa2.length : Int)))) = true → ∃ v6, ix a0.fa2 s3 v6 ∧ ∃ v7, ix a1.fa2 s3 v7 ∧ ((((!(v6.toList == v7.toList))) = true → Q false) ∧ (((!(v6.toList == v7.toList))) = false → X3 ((IntKind.i64.wrap (s3 + 1)))))) ∧ ((decide (s3 < ((a0.fa2.length : Int)))) = false → J2 (())))) 0)))
def YP (a0 : Qq) (a1 : Qq) (r : Bool) : Prop := A6 a0 a1 fun x => r = x
theorem H7 {a0 : Qq} {a1 : Qq} {r : Bool} (h : YP a0 a1 r) : Qp Tryz.prog 19 [.agg (Zi a0), .agg (Zi a1)] [.c (.p (.v (.bool r)))] [] := by
  refine Qn tb Tryz.func19 Z (by kernel_rfl) Z Z (Nat.le_of_ble_eq_true Z) Z ?_;intro E;unfold YP A6 at h;refine Z3 (fun Q hQ => ?_);refine tD Z ?_;refine sk fun L1 hL1 => ?_;refine tk fun L hL => ?_;refine dN 6 Z ?_;refine Q2 Z Z Q4 (fun hg => Q7 Z Z Z Z Z Z Z Z Z) ?_;refine Q2 Z Z Q4 (fun hg => Q3 (Qa hg) Z Z Z Z Z) ?_;refine Q2 Z Z Q4 (fun hg => Q7 Z Z Z Z Z Z Z Z Z) ?_;refine Q2 Z Z Q4 (fun hg => Q3 (Qa hg) Z Z Z Z Z) ?_;refine Q2 Z Z Q4 (fun hg => Vt (c := (!(a0.fb7.toList == a1.fb7.toList))) (Qa hg) (Qa hg) Z Z Z) ?_;refine u0 (Qm (v := .bool true) (w := .bool ((!(a0.fb7.toList == a1.fb7.toList)))) Z Z Q4 Z Qw) ?_;refine dN 1 Z ?_;refine Q2 Z Z Q4 (fun hg => Q7 Z Z Z Z Z Z Z Z Z) ?_;refine Q2 Z Z Q4 (fun hg => Q3 (Qa hg) Z Z Z Z Z) ?_;refine Q2 Z Z Q4 (fun hg => Q7 Z Z Z Z Z Z Z Z Z) ?_;refine Q2 Z Z Q4 (fun hg => Q3 (Qa hg) Z Z Z Z Z) ?_;refine Q2 Z Z Q4 (fun hg => Vt (c := (!(a0.fj.toList == a1.fj.toList))) (Qa hg) (Qa hg) Z Z Z) ?_;refine u0 (Qm (v := .bool true) (w := .bool ((!(a0.fj.toList == a1.fj.toList)))) Z Z Q4 Z Qw) ?_
  refine dN 1 Z ?_;refine Q2 Z Z Q4 (fun hg => Q7 Z Z Z Z Z Z Z Z Z) ?_;refine Q2 Z Z Q4 (fun hg => QO (Qa hg) Z Z Z Z Z Z) ?_;refine Q2 Z Z Q4 (fun hg => Q7 Z Z Z Z Z Z Z Z Z) ?_;refine Q2 Z Z Q4 (fun hg => QO (Qa hg) Z Z Z Z Z Z) ?_;refine Q2 Z Z Q4 (fun hg => AI (us := [.int .i64 a0.fb.fo, .int .i64 a0.fb.fg, .int .i64 a0.fb.fq, .int .u64 a0.fb.fu]) (vs := [.int .i64 a1.fb.fo, .int .i64 a1.fb.fg, .int .i64 a1.fb.fq, .int .u64 a1.fb.fu]) (c := (!((a0.fb.fo == a1.fb.fo) && ((a0.fb.fg == a1.fb.fg) && ((a0.fb.fq == a1.fb.fq) && ((a0.fb.fu == a1.fb.fu) && true)))))) (Qa hg) (Qa hg) (by kernel_rfl) Z Z Z Z Z Z) ?_;refine u0 (Qm (v := .bool true) (w := .bool ((!((a0.fb.fo == a1.fb.fo) && ((a0.fb.fg == a1.fb.fg) && ((a0.fb.fq == a1.fb.fq) && ((a0.fb.fu == a1.fb.fu) && true))))))) Z Z Q4 Z Qw) ?_;refine dN 1 Z ?_;refine Q2 Z Z Q4 (fun hg => Q7 Z Z Z Z Z Z Z Z Z) ?_;refine Q2 Z Z Q4 (fun hg => Q3 (Qa hg) Z Z Z Z Z) ?_
  refine Q2 Z Z Q4 (fun hg => YY (Qa hg) Z Z Z Z Z Z Z) ?_;refine Q2 Z Z Q4 (fun hg => Q7 Z Z Z Z Z Z Z Z Z) ?_;refine Q2 Z Z Q4 (fun hg => Q3 (Qa hg) Z Z Z Z Z) ?_;refine Q2 Z Z Q4 (fun hg => YY (Qa hg) Z Z Z Z Z Z Z) ?_;refine Q2 Z Z Q4 (fun hg => Vt (c := (!((strOfNums a0.fb5).toList == (strOfNums a1.fb5).toList))) (Qa hg) (Qa hg) Z Z Z) ?_;refine u0 (Qm (v := .bool true) (w := .bool ((!((strOfNums a0.fb5).toList == (strOfNums a1.fb5).toList)))) Z Z Q4 Z Qw) ?_;refine dN 1 Z ?_;refine Q2 Z Z Q4 (fun hg => Q7 Z Z Z Z Z Z Z Z Z) ?_;refine Q2 Z Z Q4 (fun hg => Q3 (Qa hg) Z Z Z Z Z) ?_;refine Q2 Z Z Q4 (fun hg => Q7 Z Z Z Z Z Z Z Z Z) ?_;refine Q2 Z Z Q4 (fun hg => Q3 (Qa hg) Z Z Z Z Z) ?_;refine Q2 Z Z Q4 (fun hg => Qz (c := (a0.fa3 != a1.fa3)) (Qa hg) (Qa hg) Z Z Z) ?_;refine u0 (Qm (v := .bool true) (w := .bool ((a0.fa3 != a1.fa3))) Z Z Q4 Z Qw) ?_;refine dN 1 Z ?_;refine Q2 Z Z Q4 (fun hg => Q7 Z Z Z Z Z Z Z Z Z) ?_;refine Q2 Z Z Q4 (fun hg => Q3 (Qa hg) Z Z Z Z Z) ?_
  refine Q2 Z Z Q4 (fun hg => Q7 Z Z Z Z Z Z Z Z Z) ?_;refine Q2 Z Z Q4 (fun hg => Q3 (Qa hg) Z Z Z Z Z) ?_;refine Q2 Z Z Q4 (fun hg => Qz (c := (a0.fb0 != a1.fb0)) (Qa hg) (Qa hg) Z Z Z) ?_;refine u0 (Qm (v := .bool true) (w := .bool ((a0.fb0 != a1.fb0))) Z Z Q4 Z Qw) ?_;refine dN 1 Z ?_;refine Q2 Z Z Q4 (fun hg => Q7 Z Z Z Z Z Z Z Z Z) ?_;refine Q2 Z Z Q4 (fun hg => Q3 (Qa hg) Z Z Z Z Z) ?_;refine Q2 Z Z Q4 (fun hg => Q7 Z Z Z Z Z Z Z Z Z) ?_;refine Q2 Z Z Q4 (fun hg => Q3 (Qa hg) Z Z Z Z Z) ?_;refine Q2 Z Z Q4 (fun hg => Qz (c := (a0.fa5 != a1.fa5)) (Qa hg) (Qa hg) Z Z Z) ?_;refine u0 (Qm (v := .bool true) (w := .bool ((a0.fa5 != a1.fa5))) Z Z Q4 Z Qw) ?_;refine dN 1 Z ?_;refine Q2 Z Z Q4 (fun hg => Q7 Z Z Z Z Z Z Z Z Z) ?_;refine Q2 Z Z Q4 (fun hg => Q3 (Qa hg) Z Z Z Z Z) ?_;refine Q2 Z Z Q4 (fun hg => Q7 Z Z Z Z Z Z Z Z Z) ?_;refine Q2 Z Z Q4 (fun hg => Q3 (Qa hg) Z Z Z Z Z) ?_;refine Q2 Z Z Q4 (fun hg => Qz (c := (a0.fb6 != a1.fb6)) (Qa hg) (Qa hg) Z Z Z) ?_
  refine u0 (Qm (v := .bool true) (w := .bool ((a0.fb6 != a1.fb6))) Z Z Q4 Z Qw) ?_;refine dN 1 Z ?_;refine Q2 Z Z Q4 (fun hg => Q7 Z Z Z Z Z Z Z Z Z) ?_;refine Q2 Z Z Q4 (fun hg => Q3 (Qa hg) Z Z Z Z Z) ?_;refine Q2 Z Z Q4 (fun hg => Q7 Z Z Z Z Z Z Z Z Z) ?_;refine Q2 Z Z Q4 (fun hg => Q3 (Qa hg) Z Z Z Z Z) ?_;refine Q2 Z Z Q4 (fun hg => Qz (c := (a0.fa6 != a1.fa6)) (Qa hg) (Qa hg) Z Z Z) ?_;refine u0 (Qm (v := .bool true) (w := .bool ((a0.fa6 != a1.fa6))) Z Z Q4 Z Qw) ?_;refine dN 1 Z ?_;refine Q2 Z Z Q4 (fun hg => Q7 Z Z Z Z Z Z Z Z Z) ?_;refine Q2 Z Z Q4 (fun hg => Q3 (Qa hg) Z Z Z Z Z) ?_;refine Q2 Z Z Q4 (fun hg => Q7 Z Z Z Z Z Z Z Z Z) ?_;refine Q2 Z Z Q4 (fun hg => Q3 (Qa hg) Z Z Z Z Z) ?_;refine Q2 Z Z Q4 (fun hg => Qz (c := (a0.f0 != a1.f0)) (Qa hg) (Qa hg) Z Z Z) ?_;refine u0 (Qm (v := .bool true) (w := .bool ((a0.f0 != a1.f0))) Z Z Q4 Z Qw) ?_;refine dN 1 Z ?_;refine Q2 Z Z Q4 (fun hg => Q7 Z Z Z Z Z Z Z Z Z) ?_;refine Q2 Z Z Q4 (fun hg => QO (Qa hg) Z Z Z Z Z Z) ?_
  refine Q2 Z Z Q4 (fun hg => Q7 Z Z Z Z Z Z Z Z Z) ?_;refine Q2 Z Z Q4 (fun hg => QO (Qa hg) Z Z Z Z Z Z) ?_;refine Q2 Z Z Q4 (fun hg => AI (us := [.int .i64 a0.fv.fo, .string a0.fv.fa1, .int .i64 a0.fv.f0, .int .i64 a0.fv.fc0, .int .i64 a0.fv.fb9]) (vs := [.int .i64 a1.fv.fo, .string a1.fv.fa1, .int .i64 a1.fv.f0, .int .i64 a1.fv.fc0, .int .i64 a1.fv.fb9]) (c := (!((a0.fv.fo == a1.fv.fo) && ((a0.fv.fa1.toList == a1.fv.fa1.toList) && ((a0.fv.f0 == a1.fv.f0) && ((a0.fv.fc0 == a1.fv.fc0) && ((a0.fv.fb9 == a1.fv.fb9) && true))))))) (Qa hg) (Qa hg) (by kernel_rfl) Z Z Z Z Z Z) ?_;refine u0 (Qm (v := .bool true) (w := .bool ((!((a0.fv.fo == a1.fv.fo) && ((a0.fv.fa1.toList == a1.fv.fa1.toList) && ((a0.fv.f0 == a1.fv.f0) && ((a0.fv.fc0 == a1.fv.fc0) && ((a0.fv.fb9 == a1.fv.fb9) && true)))))))) Z Z Q4 Z Qw) ?_;refine dN 1 Z ?_;refine Q2 Z Z Q4 (fun hg => Q7 Z Z Z Z Z Z Z Z Z) ?_;refine Q2 Z Z Q4 (fun hg => Q3 (Qa hg) Z Z Z Z Z) ?_
  refine Q2 Z Z Q4 (fun hg => YY (Qa hg) Z Z Z Z Z Z Z) ?_;refine Q2 Z Z Q4 (fun hg => Q7 Z Z Z Z Z Z Z Z Z) ?_;refine Q2 Z Z Q4 (fun hg => Q3 (Qa hg) Z Z Z Z Z) ?_;refine Q2 Z Z Q4 (fun hg => YY (Qa hg) Z Z Z Z Z Z Z) ?_;refine Q2 Z Z Q4 (fun hg => Vt (c := (!((strOfNums a0.fb4).toList == (strOfNums a1.fb4).toList))) (Qa hg) (Qa hg) Z Z Z) ?_;refine u0 (Qm (v := .bool true) (w := .bool ((!((strOfNums a0.fb4).toList == (strOfNums a1.fb4).toList)))) Z Z Q4 Z Qw) ?_;refine dN 1 Z ?_;refine Q2 Z Z Q4 (fun hg => Q7 Z Z Z Z Z Z Z Z Z) ?_;refine Q2 Z Z Q4 (fun hg => Q3 (Qa hg) Z Z Z Z Z) ?_;refine Q2 Z Z Q4 (fun hg => QA (Qa hg) Z Z Z) ?_;refine Q2 Z Z Q4 (fun hg => Q7 Z Z Z Z Z Z Z Z Z) ?_;refine Q2 Z Z Q4 (fun hg => Q3 (Qa hg) Z Z Z Z Z) ?_;refine Q2 Z Z Q4 (fun hg => QA (Qa hg) Z Z Z) ?_;refine Q2 Z Z Q4 (fun hg => Qz (c := (((a0.fa2.length : Int)) != ((a1.fa2.length : Int)))) (Qa hg) (Qa hg) Z Z Z) ?_;refine u0 (Qm (v := .bool true) (w := .bool ((((a0.fa2.length : Int)) != ((a1.fa2.length : Int))))) Z Z Q4 Z Qw) ?_
  refine dN 1 Z ?_;refine Q2 Z Z Q4 (fun hg => Q7 Z Z Z Z Z Z Z Z Z) ?_;refine Q2 Z Z Q4 (fun hg => Q3 (Qa hg) Z Z Z Z Z) ?_;refine Q2 Z Z Q4 (fun hg => QA (Qa hg) Z Z Z) ?_;refine Q2 Z Z Q4 (fun hg => Q7 Z Z Z Z Z Z Z Z Z) ?_;refine Q2 Z Z Q4 (fun hg => Q3 (Qa hg) Z Z Z Z Z) ?_;refine Q2 Z Z Q4 (fun hg => QA (Qa hg) Z Z Z) ?_;refine Q2 Z Z Q4 (fun hg => Qz (c := (((a0.f8.length : Int)) != ((a1.f8.length : Int)))) (Qa hg) (Qa hg) Z Z Z) ?_;refine u0 (Qm (v := .bool true) (w := .bool ((((a0.f8.length : Int)) != ((a1.f8.length : Int))))) Z Z Q4 Z Qw) ?_;refine rt (hL _ ?_);refine QQ (st' := ⟨[(2, .c (.ptr (2, 0) 0 0)), (3, .c (.ptr (3, 0) 0 0)), (117, .c (.p (.v (.bool ((bif (bif (bif (bif (bif (bif (bif (bif (bif (bif (bif (bif (bif (bif (a0.fo != a1.fo) then true else (!(a0.fb7.toList == a1.fb7.toList))) then true else (!(a0.fj.toList == a1.fj.toList))) then true else (!((a0.fb.fo == a1.fb.fo) && ((a0.fb.fg == a1.fb.fg) && ((a0.fb.fq == a1.fb.fq) && ((a0.fb.fu == a1.fb.fu) && true)))))) then true else (!((strOfNums a0.fb5).toList == (strOfNums a1.fb5).toList))) then true else (a0.fa3 != a1.fa3)) then true else (a0.fb0 != a1.fb0)) then true else (a0.fa5 != a1.fa5)) then true else (a0.fb6 != a1.fb6)) then true else (a0.fa6 != a1.fa6)) then true else (a0.f0 != a1.f0)) then true else (!((a0.fv.fo == a1.fv.fo) && ((a0.fv.fa1.toList == a1.fv.fa1.toList) && ((a0.fv.f0 == a1.fv.f0) && ((a0.fv.fc0 == a1.fv.fc0) && ((a0.fv.fb9 == a1.fv.fb9) && true))))))) then true else (!((strOfNums a0.fb4).toList == (strOfNums a1.fb4).toList))) then true else (((a0.fa2.length : Int)) != ((a1.fa2.length : Int)))) then true else (((a0.f8.length : Int)) != ((a1.f8.length : Int)))))))))], [((2, 0), some (.box (List.map CV.p (Zi a0)))), ((3, 0), some (.box (List.map CV.p (Zi a1))))]⟩) QC.fit ?_
  refine cn h (fun h => ?_) fun h => ?_
  · refine tD Z ?_;obtain rfl := h;exact Qf (hQ _ _ (Zq Z Z))
  · refine Qh (hL1 _ ?_);refine Z2 (fun (p2 : Unit) => (⟨[(2, .c (.ptr (2, 0) 0 0)), (3, .c (.ptr (3, 0) 0 0))], [((2, 0), some (.box (List.map CV.p (Zi a0)))), ((3, 0), some (.box (List.map CV.p (Zi a1))))]⟩ : St)) h (fun p2 h => ?_) (fun J2 L2 hL2 h => ?_)
    · refine Z2 (fun (p8 : Unit) => (⟨[], []⟩ : St)) h (fun p8 h => ?_) (fun J8 L8 hL8 h => ?_)
      · refine tD Z ?_;obtain rfl := h;exact Qf (hQ _ _ (Zq Z Z))
      · refine tD Z ?_;refine Qr ?_;refine Zn (fun (s9 : Int) => (⟨[(2, .c (.ptr (2, 0) 0 0)), (3, .c (.ptr (3, 0) 0 0)), (6, .c (.p (.v (.int .i64 s9))))], [((2, 0), some (.box (List.map CV.p (Zi a0)))), ((3, 0), some (.box (List.map CV.p (Zi a1))))]⟩ : St)) h QC.fit (fun X9 L9 hL9 s9 h => ?_);refine sk fun L10 hL10 => ?_;refine tk fun L hL => ?_;refine dN 3 Z ?_;refine u0 QA ?_;refine dN 1 Z ?_;refine rt (hL _ ?_);refine cn h (fun h => ?_) fun h => ?_
        · refine Qh (hL10 _ ?_);refine sk fun L11 hL11 => ?_;refine Qr ?_;refine dk mixed (fun L hL => ?_);refine dN 3 Z ?_;obtain ⟨v12, hv12, h⟩ := h;refine u0 (QB hv12) ?_;refine dN 4 Z ?_;obtain ⟨v13, hv13, h⟩ := h;refine u0 (QB hv13) ?_;refine dN 1 Z ?_;refine u0 (AI (us := [.string v12.fa1, .int .i64 v12.fa7]) (vs := [.string v13.fa1, .int .i64 v13.fa7]) (c := (!((v12.fa1.toList == v13.fa1.toList) && ((v12.fa7 == v13.fa7) && true)))) Z Z (by kernel_rfl)) ?_;refine rd (hL _ ?_);refine cn h (fun h => ?_) fun h => ?_
          · refine tD Z ?_;obtain rfl := h;exact Qf (hQ _ _ (Zq Z Z))
          · refine Qh (hL11 _ ?_);refine tE Z (hL9 _ _ h QC.fit)
        · refine QP (hL8 _ _ h QC.fit)
    · refine tD Z ?_;refine Qr ?_;refine Zn (fun (s3 : Int) => (⟨[(2, .c (.ptr (2, 0) 0 0)), (3, .c (.ptr (3, 0) 0 0)), (5, .c (.p (.v (.int .i64 s3))))], [((2, 0), some (.box (List.map CV.p (Zi a0)))), ((3, 0), some (.box (List.map CV.p (Zi a1))))]⟩ : St)) h QC.fit (fun X3 L3 hL3 s3 h => ?_);refine sk fun L4 hL4 => ?_;refine tk fun L hL => ?_;refine dN 3 Z ?_;refine u0 QA ?_;refine dN 1 Z ?_;refine rt (hL _ ?_);refine cn h (fun h => ?_) fun h => ?_
      · refine Qh (hL4 _ ?_);refine sk fun L5 hL5 => ?_;refine Qr ?_;refine dk mixed (fun L hL => ?_);refine dN 3 Z ?_;obtain ⟨v6, hv6, h⟩ := h;refine u0 (QB hv6) ?_;refine dN 4 Z ?_;obtain ⟨v7, hv7, h⟩ := h;refine u0 (QB hv7) ?_;refine dN 2 Z ?_;refine rd (hL _ ?_);refine cn h (fun h => ?_) fun h => ?_
        · refine tD Z ?_;obtain rfl := h;exact Qf (hQ _ _ (Zq Z Z))
        · refine Qh (hL5 _ ?_);refine tE Z (hL3 _ _ h QC.fit)
      · refine QP (hL2 _ _ h QC.fit)
def XQ (a0 : Qy) (a1 : Qy) (Q : Bool → Prop) : Prop :=
 ((((((a0.fc1.length : Int)) != ((a1.fc1.length : Int)))) = true → Q false) ∧ (((((a0.fc1.length : Int)) != ((a1.fc1.length : Int)))) = false → jn (fun (p2 : Unit) => ∃ (v8 : Bool), (((bif (bif (bif (a0.fc6 == a1.fc6) then (a0.fc8 == a1.fc8) else false) then (a0.fc3 == a1.fc3) else false) then (a0.fb2 == a1.fb2) else false)) = true → JR a0.fi a1.fi v8) ∧ ∃ (v9 : Bool), (((bif (bif (bif (bif (a0.fc6 == a1.fc6) then (a0.fc8 == a1.fc8) else false) then (a0.fc3 == a1.fc3) else false) then (a0.fb2 == a1.fb2) else false) then v8 else false)) = true → JR a0.fj a1.fj v9) ∧ Q (((bif (bif (bif (bif (bif (bif (bif (bif (bif (bif (bif (bif (a0.fc6 == a1.fc6) then (a0.fc8 == a1.fc8) else false) then (a0.fc3 == a1.fc3) else false) then (a0.fb2 == a1.fb2) else false) then v8 else false) then v9 else false) then (a0.fc7 == a1.fc7) else false) then (a0.fd0 == a1.fd0) else false) then (a0.fa5 == a1.fa5) else false) then (a0.fa6 == a1.fa6) else false) then ((a0.fAt.fb2 == a1.fAt.fb2) && ((a0.fAt.fd1 == a1.fAt.fd1) && true)) else false) then ((strOfNums a0.fb4).toList == (strOfNums a1.fb4).toList) else false) then (a0.fc4 == a1.fc4) else false)))) (fun (J2 : Unit → Prop) => lp (fun (X3 : Int → Prop) (s3 : Int) => (((decide (s3 < ((a0.fc1.length : Int)))) = true → ∃ v6, ix a0.fc1 s3 v6 ∧ ∃ v7, ix a1.fc1 s3 v7 ∧ ((((v6 != v7)) = true → Q false) ∧ (((v6 != v7)) = false → X3 ((IntKind.i64.wrap (s3 + 1)))))) ∧ ((decide (s3 < ((a0.fc1.length : Int)))) = false → J2 (())))) 0)))
def Jo (a0 : Qy) (a1 : Qy) (r : Bool) : Prop := XQ a0 a1 fun x => r = x
theorem Bp {a0 : Qy} {a1 : Qy} {r : Bool} (h : Jo a0 a1 r) : Qp Tryz.prog 35 [.agg (JY a0), .agg (JY a1)] [.c (.p (.v (.bool r)))] [] := by
  refine Qn tb Tryz.func35 Z (by kernel_rfl) Z Z (Nat.le_of_ble_eq_true Z) Z ?_;intro E;unfold Jo XQ at h;refine Z3 (fun Q hQ => ?_);refine tD Z ?_;refine sk fun L1 hL1 => ?_;refine tk fun L hL => ?_;refine dN 2 Z ?_;refine u0 QA ?_;refine dN 2 Z ?_;refine u0 QA ?_;refine dN 1 Z ?_;refine rt (hL _ ?_);refine cn h (fun h => ?_) fun h => ?_
  · refine tD Z ?_;obtain rfl := h;exact Qf (hQ _ _ (Zq Z Z))
  · refine Qh (hL1 _ ?_);refine Z2 (fun (p2 : Unit) => (⟨[(2, .c (.ptr (2, 0) 0 0)), (3, .c (.ptr (3, 0) 0 0))], [((2, 0), some (.box (List.map CV.p (JY a0)))), ((3, 0), some (.box (List.map CV.p (JY a1))))]⟩ : St)) h (fun p2 h => ?_) (fun J2 L2 hL2 h => ?_)
    · refine tk fun L hL => ?_;refine dN 6 Z ?_;refine Q2 Z Z Q8 (fun hg => Q7 Z Z Z Z Z Z Z Z Z) ?_;refine Q2 Z Z Q8 (fun hg => Q3 (Qa hg) Z Z Z Z Z) ?_;refine Q2 Z Z Q8 (fun hg => Q7 Z Z Z Z Z Z Z Z Z) ?_;refine Q2 Z Z Q8 (fun hg => Q3 (Qa hg) Z Z Z Z Z) ?_;refine Q2 Z Z Q8 (fun hg => Qz (c := (a0.fc8 == a1.fc8)) (Qa hg) (Qa hg) Z Z Z) ?_;refine u0 (Ql (v := .bool ((a0.fc8 == a1.fc8))) (w := .bool false) Z Z Q8 Z Qw) ?_;refine dN 1 Z ?_;refine Q2 Z Z Q8 (fun hg => Q7 Z Z Z Z Z Z Z Z Z) ?_;refine Q2 Z Z Q8 (fun hg => Q3 (Qa hg) Z Z Z Z Z) ?_;refine Q2 Z Z Q8 (fun hg => Q7 Z Z Z Z Z Z Z Z Z) ?_;refine Q2 Z Z Q8 (fun hg => Q3 (Qa hg) Z Z Z Z Z) ?_;refine Q2 Z Z Q8 (fun hg => Dr (Qa hg) (Qa hg) Z Z Z Z) ?_;refine u0 (Ql (v := .bool ((a0.fc3 == a1.fc3))) (w := .bool false) Z Z Q8 Z Qw) ?_;refine dN 1 Z ?_;refine Q2 Z Z Q8 (fun hg => Q7 Z Z Z Z Z Z Z Z Z) ?_;refine Q2 Z Z Q8 (fun hg => Q3 (Qa hg) Z Z Z Z Z) ?_;refine Q2 Z Z Q8 (fun hg => Q7 Z Z Z Z Z Z Z Z Z) ?_
      refine Q2 Z Z Q8 (fun hg => Q3 (Qa hg) Z Z Z Z Z) ?_;refine Q2 Z Z Q8 (fun hg => Qz (c := (a0.fb2 == a1.fb2)) (Qa hg) (Qa hg) Z Z Z) ?_;refine u0 (Ql (v := .bool ((a0.fb2 == a1.fb2))) (w := .bool false) Z Z Q8 Z Qw) ?_;refine dN 1 Z ?_;refine Q2 Z Z Q8 (fun hg => Q7 Z Z Z Z Z Z Z Z Z) ?_;refine Q2 Z Z Q8 (fun hg => QO (Qa hg) Z Z Z Z Z Z) ?_;refine Q2 Z Z Q8 (fun hg => Q7 Z Z Z Z Z Z Z Z Z) ?_;refine Q2 Z Z Q8 (fun hg => QO (Qa hg) Z Z Z Z Z Z) ?_;obtain ⟨v8, hv8, h⟩ := h;refine Q2 Z Z Q8 (fun hg => QN (UV (hv8 hg)) Z Z (.cons (Zd hg (.agg (.pp (.pp (.pp (.pp (.pp (.pp (.pp (.pp (.pp (.pp (.pp (.pp (.pp (.pp (.pp (.pp (.pp (.pp (.pp (.pp (.pp (.pp (.pp (.pp (.pp (.pp (.pp (.pp (.pp .nil))))))))))))))))))))))))))))))) (.cons (Zd hg (.agg (.pp (.pp (.pp (.pp (.pp (.pp (.pp (.pp (.pp (.pp (.pp (.pp (.pp (.pp (.pp (.pp (.pp (.pp (.pp (.pp (.pp (.pp (.pp (.pp (.pp (.pp (.pp (.pp (.pp .nil))))))))))))))))))))))))))))))) .nil)) Z Z Z) ?_;refine u0 (Ql (v := .bool v8) (w := .bool false) Z Z Q8 Z Qw) ?_;refine dN 1 Z ?_
      refine Q2 Z Z Q8 (fun hg => Q7 Z Z Z Z Z Z Z Z Z) ?_;refine Q2 Z Z Q8 (fun hg => QO (Qa hg) Z Z Z Z Z Z) ?_;refine Q2 Z Z Q8 (fun hg => Q7 Z Z Z Z Z Z Z Z Z) ?_;refine Q2 Z Z Q8 (fun hg => QO (Qa hg) Z Z Z Z Z Z) ?_;obtain ⟨v9, hv9, h⟩ := h;refine Q2 Z Z Q8 (fun hg => QN (UV (hv9 hg)) Z Z (.cons (Zd hg (.agg (.pp (.pp (.pp (.pp (.pp (.pp (.pp (.pp (.pp (.pp (.pp (.pp (.pp (.pp (.pp (.pp (.pp (.pp (.pp (.pp (.pp (.pp (.pp (.pp (.pp (.pp (.pp (.pp (.pp .nil))))))))))))))))))))))))))))))) (.cons (Zd hg (.agg (.pp (.pp (.pp (.pp (.pp (.pp (.pp (.pp (.pp (.pp (.pp (.pp (.pp (.pp (.pp (.pp (.pp (.pp (.pp (.pp (.pp (.pp (.pp (.pp (.pp (.pp (.pp (.pp (.pp .nil))))))))))))))))))))))))))))))) .nil)) Z Z Z) ?_;refine u0 (Ql (v := .bool v9) (w := .bool false) Z Z Q8 Z Qw) ?_;refine dN 1 Z ?_;refine Q2 Z Z Q8 (fun hg => Q7 Z Z Z Z Z Z Z Z Z) ?_;refine Q2 Z Z Q8 (fun hg => Q3 (Qa hg) Z Z Z Z Z) ?_;refine Q2 Z Z Q8 (fun hg => Q7 Z Z Z Z Z Z Z Z Z) ?_;refine Q2 Z Z Q8 (fun hg => Q3 (Qa hg) Z Z Z Z Z) ?_;refine Q2 Z Z Q8 (fun hg => Qz (c := (a0.fc7 == a1.fc7)) (Qa hg) (Qa hg) Z Z Z) ?_
      refine u0 (Ql (v := .bool ((a0.fc7 == a1.fc7))) (w := .bool false) Z Z Q8 Z Qw) ?_;refine dN 1 Z ?_;refine Q2 Z Z Q8 (fun hg => Q7 Z Z Z Z Z Z Z Z Z) ?_;refine Q2 Z Z Q8 (fun hg => Q3 (Qa hg) Z Z Z Z Z) ?_;refine Q2 Z Z Q8 (fun hg => Q7 Z Z Z Z Z Z Z Z Z) ?_;refine Q2 Z Z Q8 (fun hg => Q3 (Qa hg) Z Z Z Z Z) ?_;refine Q2 Z Z Q8 (fun hg => Qz (c := (a0.fd0 == a1.fd0)) (Qa hg) (Qa hg) Z Z Z) ?_;refine u0 (Ql (v := .bool ((a0.fd0 == a1.fd0))) (w := .bool false) Z Z Q8 Z Qw) ?_;refine dN 1 Z ?_;refine Q2 Z Z Q8 (fun hg => Q7 Z Z Z Z Z Z Z Z Z) ?_;refine Q2 Z Z Q8 (fun hg => Q3 (Qa hg) Z Z Z Z Z) ?_;refine Q2 Z Z Q8 (fun hg => Q7 Z Z Z Z Z Z Z Z Z) ?_;refine Q2 Z Z Q8 (fun hg => Q3 (Qa hg) Z Z Z Z Z) ?_;refine Q2 Z Z Q8 (fun hg => Qz (c := (a0.fa5 == a1.fa5)) (Qa hg) (Qa hg) Z Z Z) ?_;refine u0 (Ql (v := .bool ((a0.fa5 == a1.fa5))) (w := .bool false) Z Z Q8 Z Qw) ?_;refine dN 1 Z ?_;refine Q2 Z Z Q8 (fun hg => Q7 Z Z Z Z Z Z Z Z Z) ?_;refine Q2 Z Z Q8 (fun hg => Q3 (Qa hg) Z Z Z Z Z) ?_
      refine Q2 Z Z Q8 (fun hg => Q7 Z Z Z Z Z Z Z Z Z) ?_;refine Q2 Z Z Q8 (fun hg => Q3 (Qa hg) Z Z Z Z Z) ?_;refine Q2 Z Z Q8 (fun hg => Qz (c := (a0.fa6 == a1.fa6)) (Qa hg) (Qa hg) Z Z Z) ?_;refine u0 (Ql (v := .bool ((a0.fa6 == a1.fa6))) (w := .bool false) Z Z Q8 Z Qw) ?_;refine dN 1 Z ?_;refine Q2 Z Z Q8 (fun hg => Q7 Z Z Z Z Z Z Z Z Z) ?_;refine Q2 Z Z Q8 (fun hg => QO (Qa hg) Z Z Z Z Z Z) ?_;refine Q2 Z Z Q8 (fun hg => Q7 Z Z Z Z Z Z Z Z Z) ?_;refine Q2 Z Z Q8 (fun hg => QO (Qa hg) Z Z Z Z Z Z) ?_;refine Q2 Z Z Q8 (fun hg => IV (us := [.int .i64 a0.fAt.fb2, .int .i64 a0.fAt.fd1]) (vs := [.int .i64 a1.fAt.fb2, .int .i64 a1.fAt.fd1]) (c := ((a0.fAt.fb2 == a1.fAt.fb2) && ((a0.fAt.fd1 == a1.fAt.fd1) && true))) (Qa hg) (Qa hg) (by kernel_rfl) Z Z Z Z Z Z) ?_;refine u0 (Ql (v := .bool (((a0.fAt.fb2 == a1.fAt.fb2) && ((a0.fAt.fd1 == a1.fAt.fd1) && true)))) (w := .bool false) Z Z Q8 Z Qw) ?_;refine dN 1 Z ?_;refine Q2 Z Z Q8 (fun hg => Q7 Z Z Z Z Z Z Z Z Z) ?_;refine Q2 Z Z Q8 (fun hg => Q3 (Qa hg) Z Z Z Z Z) ?_
      refine Q2 Z Z Q8 (fun hg => YY (Qa hg) Z Z Z Z Z Z Z) ?_;refine Q2 Z Z Q8 (fun hg => Q7 Z Z Z Z Z Z Z Z Z) ?_;refine Q2 Z Z Q8 (fun hg => Q3 (Qa hg) Z Z Z Z Z) ?_;refine Q2 Z Z Q8 (fun hg => YY (Qa hg) Z Z Z Z Z Z Z) ?_;refine Q2 Z Z Q8 (fun hg => Vt (c := ((strOfNums a0.fb4).toList == (strOfNums a1.fb4).toList)) (Qa hg) (Qa hg) Z Z Z) ?_;refine u0 (Ql (v := .bool (((strOfNums a0.fb4).toList == (strOfNums a1.fb4).toList))) (w := .bool false) Z Z Q8 Z Qw) ?_;refine dN 1 Z ?_;refine Q2 Z Z Q8 (fun hg => Q7 Z Z Z Z Z Z Z Z Z) ?_;refine Q2 Z Z Q8 (fun hg => Q3 (Qa hg) Z Z Z Z Z) ?_;refine Q2 Z Z Q8 (fun hg => Q7 Z Z Z Z Z Z Z Z Z) ?_;refine Q2 Z Z Q8 (fun hg => Q3 (Qa hg) Z Z Z Z Z) ?_;refine Q2 Z Z Q8 (fun hg => Dr (Qa hg) (Qa hg) Z Z Z Z) ?_;refine u0 (Ql (v := .bool ((a0.fc4 == a1.fc4))) (w := .bool false) Z Z Q8 Z Qw) ?_;refine dN 1 Z ?_;refine rt (hL _ ?_);refine QQ (st' := ⟨[(4, .c (.p (.v (.bool ((bif (bif (bif (bif (bif (bif (bif (bif (bif (bif (bif (bif (a0.fc6 == a1.fc6) then (a0.fc8 == a1.fc8) else false) then (a0.fc3 == a1.fc3) else false) then (a0.fb2 == a1.fb2) else false) then v8 else false) then v9 else false) then (a0.fc7 == a1.fc7) else false) then (a0.fd0 == a1.fd0) else false) then (a0.fa5 == a1.fa5) else false) then (a0.fa6 == a1.fa6) else false) then ((a0.fAt.fb2 == a1.fAt.fb2) && ((a0.fAt.fd1 == a1.fAt.fd1) && true)) else false) then ((strOfNums a0.fb4).toList == (strOfNums a1.fb4).toList) else false) then (a0.fc4 == a1.fc4) else false))))))], []⟩) QC.fit ?_
      obtain rfl := h;exact Qf (hQ _ _ (Zq Z Z))
    · refine tD Z ?_;refine Qr ?_;refine Zn (fun (s3 : Int) => (⟨[(2, .c (.ptr (2, 0) 0 0)), (3, .c (.ptr (3, 0) 0 0)), (5, .c (.p (.v (.int .i64 s3))))], [((2, 0), some (.box (List.map CV.p (JY a0)))), ((3, 0), some (.box (List.map CV.p (JY a1))))]⟩ : St)) h QC.fit (fun X3 L3 hL3 s3 h => ?_);refine sk fun L4 hL4 => ?_;refine tk fun L hL => ?_;refine dN 3 Z ?_;refine u0 QA ?_;refine dN 1 Z ?_;refine rt (hL _ ?_);refine cn h (fun h => ?_) fun h => ?_
      · refine Qh (hL4 _ ?_);refine sk fun L5 hL5 => ?_;refine Qr ?_;refine dk mixed (fun L hL => ?_);refine dN 3 Z ?_;obtain ⟨v6, hv6, h⟩ := h;refine u0 (QB hv6) ?_;refine dN 4 Z ?_;obtain ⟨v7, hv7, h⟩ := h;refine u0 (QB hv7) ?_;refine dN 2 Z ?_;refine rd (hL _ ?_);refine cn h (fun h => ?_) fun h => ?_
        · refine tD Z ?_;obtain rfl := h;exact Qf (hQ _ _ (Zq Z Z))
        · refine Qh (hL5 _ ?_);refine tE Z (hL3 _ _ h QC.fit)
      · refine QP (hL2 _ _ h QC.fit)
def Xv (a0 : (List Q5)) (a1 : (List Q5)) (Q : Bool → Prop) : Prop :=
 ((((((a0.length : Int)) != ((a1.length : Int)))) = true → Q false) ∧ (((((a0.length : Int)) != ((a1.length : Int)))) = false → jn (fun (p2 : Unit) => Q true) (fun (J2 : Unit → Prop) => lp (fun (X3 : Int → Prop) (s3 : Int) => (((decide (s3 < ((a0.length : Int)))) = true → ∃ v6, ix a0 s3 v6 ∧ ∃ v7, ix a1 s3 v7 ∧ ∃ (v8 : Q5), ((!((!(v6.fb1 == v7.fb1)))) = true → ix a0 s3 v8) ∧ ∃ (v9 : Q5), ((!((!(v6.fb1 == v7.fb1)))) = true → ix a1 s3 v9) ∧ ∃ (v10 : Q5), ((!((bif (!(v6.fb1 == v7.fb1)) then true else (v8.f9 != v9.f9)))) = true → ix a0 s3 v10) ∧ ∃ (v11 : Q5), ((!((bif (!(v6.fb1 == v7.fb1)) then true else (v8.f9 != v9.f9)))) = true → ix a1 s3 v11) ∧ ∃ (v12 : Bool), ((!((bif (!(v6.fb1 == v7.fb1)) then true else (v8.f9 != v9.f9)))) = true → YP v10.fOp v11.fOp v12) ∧ ∃ (v13 : Q5), ((!((bif (bif (!(v6.fb1 == v7.fb1)) then true else (v8.f9 != v9.f9)) then true else !(v12)))) = true → ix a0 s3 v13) ∧ ∃ (v14 : Q5), ((!((bif (bif (!(v6.fb1 == v7.fb1)) then true else (v8.f9 != v9.f9)) then true else !(v12)))) = true → ix a1 s3 v14) ∧ ∃ (v15 : Bool), ((!((bif (bif (!(v6.fb1 == v7.fb1)) then true else (v8.f9 != v9.f9)) then true else !(v12)))) = true → Jo v13.fk v14.fk v15) ∧ ∃ (v16 : Q5), ((!((bif (bif (bif (!(v6.fb1 == v7.fb1)) then true else (v8.f9 != v9.f9)) then true else !(v12)) then true else !(v15)))) = true → ix a0 s3 v16) ∧ ∃ (v17 : Q5), ((!((bif (bif (bif (!(v6.fb1 == v7.fb1)) then true else (v8.f9 != v9.f9)) then true else !(v12)) then true else !(v15)))) = true → ix a1 s3 v17) ∧ ∃ (v18 : Bool), ((!((bif (bif (bif (!(v6.fb1 == v7.fb1)) then true else (v8.f9 != v9.f9)) then true else !(v12)) then true else !(v15)))) = true → KL v16.f5 v17.f5 v18) ∧ ∃ (v19 : Q5), ((!((bif (bif (bif (bif (!(v6.fb1 == v7.fb1)) then true else (v8.f9 != v9.f9)) then true else !(v12)) then true else !(v15)) then true else !(v18)))) = true → ix a0 s3 v19) ∧ ∃ (v20 : Q5), ((!((bif (bif (bif (bif (!(v6.fb1 == v7.fb1)) then true else (v8.f9 != v9.f9)) then true else !(v12)) then true else !(v15)) then true else !(v18)))) = true → ix a1 s3 v20) ∧ ∃ (v21 : Bool), ((!((bif (bif (bif (bif (!(v6.fb1 == v7.fb1)) then true else (v8.f9 != v9.f9)) then true else !(v12)) then true else !(v15)) then true else !(v18)))) = true → Jn v19.fa0 v20.fa0 v21) ∧ ((((bif (bif (bif (bif (bif (!(v6.fb1 == v7.fb1)) then true else (v8.f9 != v9.f9)) then true else !(v12)) then true else !(v15)) then true else !(v18)) then true else !(v21))) = true → Q false) ∧ (((bif (bif (bif (bif (bif (!(v6.fb1 == v7.fb1)) then true else (v8.f9 != v9.f9)) then true else !(v12)) then true else !(v15)) then true else !(v18)) then true else !(v21))) = false → X3 ((IntKind.i64.wrap (s3 + 1)))))) ∧ ((decide (s3 < ((a0.length : Int)))) = false → J2 (())))) 0)))
def Jc (a0 : (List Q5)) (a1 : (List Q5)) (r : Bool) : Prop := Xv a0 a1 fun x => r = x
theorem AY {a0 : (List Q5)} {a1 : (List Q5)} {r : Bool} (h : Jc a0 a1 r) : Qp Tryz.prog 11 [.c (.l 97 (List.map Qv a0)), .c (.l 97 (List.map Qv a1))] [.c (.p (.v (.bool r)))] [] := by
  refine Qn tb Tryz.func11 Z (by kernel_rfl) Z Z (Nat.le_of_ble_eq_true Z) Z ?_;intro E;unfold Jc Xv at h;refine Z3 (fun Q hQ => ?_);refine tD Z ?_;refine sk fun L1 hL1 => ?_;refine tk fun L hL => ?_;refine dN 1 Z ?_;refine u0 QA ?_;refine dN 1 Z ?_;refine u0 QA ?_;refine dN 1 Z ?_;refine rt (hL _ ?_);refine cn h (fun h => ?_) fun h => ?_
  · refine tD Z ?_;obtain rfl := h;exact Qf (hQ _ _ (Zq Z Z))
  · refine Qh (hL1 _ ?_);refine Z2 (fun (p2 : Unit) => (⟨[], []⟩ : St)) h (fun p2 h => ?_) (fun J2 L2 hL2 h => ?_)
    · refine tD Z ?_;obtain rfl := h;exact Qf (hQ _ _ (Zq Z Z))
    · refine tD Z ?_;refine Qr ?_;refine Zn (fun (s3 : Int) => (⟨[(0, .c (.p (.l 97 (List.map Qv a0)))), (1, .c (.p (.l 97 (List.map Qv a1)))), (5, .c (.p (.v (.int .i64 s3))))], []⟩ : St)) h QC.fit (fun X3 L3 hL3 s3 h => ?_);refine sk fun L4 hL4 => ?_;refine tk fun L hL => ?_;refine dN 2 Z ?_;refine u0 QA ?_;refine dN 1 Z ?_;refine rt (hL _ ?_);refine cn h (fun h => ?_) fun h => ?_
      · refine Qh (hL4 _ ?_);refine sk fun L5 hL5 => ?_;refine Qr ?_;refine dk mixed (fun L hL => ?_);refine dN 2 Z ?_;obtain ⟨v6, hv6, h⟩ := h;refine u0 (QB hv6) ?_;refine dN 4 Z ?_;obtain ⟨v7, hv7, h⟩ := h;refine u0 (QB hv7) ?_;refine dN 4 Z ?_;refine Q2 Z Z Q4 (fun hg => Qc Z Z) ?_;refine Q2 Z Z Q4 (fun hg => Qc Z Z) ?_;obtain ⟨v8, hv8, h⟩ := h;refine Q2 Z Z Q4 (fun hg => QB (hv8 hg) (Qa hg) (Qa hg) Z Z Z Z Z Z) ?_;refine Q2 Z Z Q4 (fun hg => ZM (Qa hg) Z Z Z Z Z Z Z) ?_;refine Q2 Z Z Q4 (fun hg => Zl (Qa hg) Z Z Z Z) ?_;refine Q2 Z Z Q4 (fun hg => Qc Z Z) ?_;refine Q2 Z Z Q4 (fun hg => Qc Z Z) ?_;obtain ⟨v9, hv9, h⟩ := h;refine Q2 Z Z Q4 (fun hg => QB (hv9 hg) (Qa hg) (Qa hg) Z Z Z Z Z Z) ?_;refine Q2 Z Z Q4 (fun hg => ZM (Qa hg) Z Z Z Z Z Z Z) ?_;refine Q2 Z Z Q4 (fun hg => Zl (Qa hg) Z Z Z Z) ?_;refine Q2 Z Z Q4 (fun hg => Qz (c := (v8.f9 != v9.f9)) (Qa hg) (Qa hg) Z Z Z) ?_;refine u0 (Qm (v := .bool true) (w := .bool ((v8.f9 != v9.f9))) Z Z Q4 Z Qw) ?_;refine dN 1 Z ?_
        refine Q2 Z Z Q4 (fun hg => Qc Z Z) ?_;refine Q2 Z Z Q4 (fun hg => Qc Z Z) ?_;obtain ⟨v10, hv10, h⟩ := h;refine Q2 Z Z Q4 (fun hg => QB (hv10 hg) (Qa hg) (Qa hg) Z Z Z Z Z Z) ?_;refine Q2 Z Z Q4 (fun hg => ZM (Qa hg) Z Z Z Z Z Z Z) ?_;refine Q2 Z Z Q4 (fun hg => Vu (Qa hg) Z Z Z Z Z Z) ?_;refine Q2 Z Z Q4 (fun hg => Qc Z Z) ?_;refine Q2 Z Z Q4 (fun hg => Qc Z Z) ?_;obtain ⟨v11, hv11, h⟩ := h;refine Q2 Z Z Q4 (fun hg => QB (hv11 hg) (Qa hg) (Qa hg) Z Z Z Z Z Z) ?_;refine Q2 Z Z Q4 (fun hg => ZM (Qa hg) Z Z Z Z Z Z Z) ?_;refine Q2 Z Z Q4 (fun hg => Vu (Qa hg) Z Z Z Z Z Z) ?_;obtain ⟨v12, hv12, h⟩ := h;refine Q2 Z Z Q4 (fun hg => QN (H7 (hv12 hg)) Z Z (.cons (Zd hg (.agg (.pp (.pp (.pp (.pp (.pp (.pp (.pp (.pp (.pp (.pp (.pp (.pp (.pp (.pp (.pp (.pp (.pp (.pp (.pp (.pp (.pp (.pp .nil)))))))))))))))))))))))) (.cons (Zd hg (.agg (.pp (.pp (.pp (.pp (.pp (.pp (.pp (.pp (.pp (.pp (.pp (.pp (.pp (.pp (.pp (.pp (.pp (.pp (.pp (.pp (.pp (.pp .nil)))))))))))))))))))))))) .nil)) Z Z Z) ?_;refine Q2 Z Z Q4 (fun hg => QY (Qa hg) Z Z) ?_
        refine u0 (Qm (v := .bool true) (w := .bool (!(v12))) Z Z Q4 Z Qw) ?_;refine dN 1 Z ?_;refine Q2 Z Z Q4 (fun hg => Qc Z Z) ?_;refine Q2 Z Z Q4 (fun hg => Qc Z Z) ?_;obtain ⟨v13, hv13, h⟩ := h;refine Q2 Z Z Q4 (fun hg => QB (hv13 hg) (Qa hg) (Qa hg) Z Z Z Z Z Z) ?_;refine Q2 Z Z Q4 (fun hg => ZM (Qa hg) Z Z Z Z Z Z Z) ?_;refine Q2 Z Z Q4 (fun hg => Vu (Qa hg) Z Z Z Z Z Z) ?_;refine Q2 Z Z Q4 (fun hg => Qc Z Z) ?_;refine Q2 Z Z Q4 (fun hg => Qc Z Z) ?_;obtain ⟨v14, hv14, h⟩ := h;refine Q2 Z Z Q4 (fun hg => QB (hv14 hg) (Qa hg) (Qa hg) Z Z Z Z Z Z) ?_;refine Q2 Z Z Q4 (fun hg => ZM (Qa hg) Z Z Z Z Z Z Z) ?_;refine Q2 Z Z Q4 (fun hg => Vu (Qa hg) Z Z Z Z Z Z) ?_;obtain ⟨v15, hv15, h⟩ := h;refine Q2 Z Z Q4 (fun hg => QN (Bp (hv15 hg)) Z Z (.cons (Zd hg (.agg (.pp (.pp (.pp (.pp (.pp (.pp (.pp (.pp (.pp (.pp (.pp (.pp (.pp (.pp (.pp (.pp (.pp (.pp (.pp (.pp (.pp (.pp (.pp (.pp (.pp (.pp (.pp (.pp (.pp (.pp (.pp (.pp (.pp (.pp (.pp (.pp (.pp (.pp (.pp (.pp (.pp (.pp (.pp (.pp (.pp (.pp (.pp (.pp (.pp (.pp (.pp (.pp (.pp (.pp (.pp (.pp (.pp (.pp (.pp (.pp (.pp (.pp (.pp (.pp (.pp (.pp (.pp (.pp (.pp (.pp (.pp .nil))))))))))))))))))))))))))))))))))))))))))))))))))))))))))))))))))))))))) (.cons (Zd hg (.agg (.pp (.pp (.pp (.pp (.pp (.pp (.pp (.pp (.pp (.pp (.pp (.pp (.pp (.pp (.pp (.pp (.pp (.pp (.pp (.pp (.pp (.pp (.pp (.pp (.pp (.pp (.pp (.pp (.pp (.pp (.pp (.pp (.pp (.pp (.pp (.pp (.pp (.pp (.pp (.pp (.pp (.pp (.pp (.pp (.pp (.pp (.pp (.pp (.pp (.pp (.pp (.pp (.pp (.pp (.pp (.pp (.pp (.pp (.pp (.pp (.pp (.pp (.pp (.pp (.pp (.pp (.pp (.pp (.pp (.pp (.pp .nil))))))))))))))))))))))))))))))))))))))))))))))))))))))))))))))))))))))))) .nil)) Z Z Z) ?_
        refine Q2 Z Z Q4 (fun hg => QY (Qa hg) Z Z) ?_;refine u0 (Qm (v := .bool true) (w := .bool (!(v15))) Z Z Q4 Z Qw) ?_;refine dN 1 Z ?_;refine Q2 Z Z Q4 (fun hg => Qc Z Z) ?_;refine Q2 Z Z Q4 (fun hg => Qc Z Z) ?_;obtain ⟨v16, hv16, h⟩ := h;refine Q2 Z Z Q4 (fun hg => QB (hv16 hg) (Qa hg) (Qa hg) Z Z Z Z Z Z) ?_;refine Q2 Z Z Q4 (fun hg => ZM (Qa hg) Z Z Z Z Z Z Z) ?_;refine Q2 Z Z Q4 (fun hg => Zl (Qa hg) Z Z Z Z) ?_;refine Q2 Z Z Q4 (fun hg => Qc Z Z) ?_;refine Q2 Z Z Q4 (fun hg => Qc Z Z) ?_;obtain ⟨v17, hv17, h⟩ := h;refine Q2 Z Z Q4 (fun hg => QB (hv17 hg) (Qa hg) (Qa hg) Z Z Z Z Z Z) ?_;refine Q2 Z Z Q4 (fun hg => ZM (Qa hg) Z Z Z Z Z Z Z) ?_;refine Q2 Z Z Q4 (fun hg => Zl (Qa hg) Z Z Z Z) ?_;obtain ⟨v18, hv18, h⟩ := h;refine Q2 Z Z Q4 (fun hg => QN (Ax (hv18 hg)) Z Z (.cons (Zd hg (.c (.p _))) (.cons (Zd hg (.c (.p _))) .nil)) Z Z Z) ?_;refine Q2 Z Z Q4 (fun hg => QY (Qa hg) Z Z) ?_;refine u0 (Qm (v := .bool true) (w := .bool (!(v18))) Z Z Q4 Z Qw) ?_
        refine dN 1 Z ?_;refine Q2 Z Z Q4 (fun hg => Qc Z Z) ?_;refine Q2 Z Z Q4 (fun hg => Qc Z Z) ?_;obtain ⟨v19, hv19, h⟩ := h;refine Q2 Z Z Q4 (fun hg => QB (hv19 hg) (Qa hg) (Qa hg) Z Z Z Z Z Z) ?_;refine Q2 Z Z Q4 (fun hg => ZM (Qa hg) Z Z Z Z Z Z Z) ?_;refine Q2 Z Z Q4 (fun hg => Zl (Qa hg) Z Z Z Z) ?_;refine Q2 Z Z Q4 (fun hg => Qc Z Z) ?_;refine Q2 Z Z Q4 (fun hg => Qc Z Z) ?_;obtain ⟨v20, hv20, h⟩ := h;refine Q2 Z Z Q4 (fun hg => QB (hv20 hg) (Qa hg) (Qa hg) Z Z Z Z Z Z) ?_;refine Q2 Z Z Q4 (fun hg => ZM (Qa hg) Z Z Z Z Z Z Z) ?_;refine Q2 Z Z Q4 (fun hg => Zl (Qa hg) Z Z Z Z) ?_;obtain ⟨v21, hv21, h⟩ := h;refine Q2 Z Z Q4 (fun hg => QN (Bo (hv21 hg)) Z Z (.cons (Zd hg (.c (.p _))) (.cons (Zd hg (.c (.p _))) .nil)) Z Z Z) ?_;refine Q2 Z Z Q4 (fun hg => QY (Qa hg) Z Z) ?_;refine u0 (Qm (v := .bool true) (w := .bool (!(v21))) Z Z Q4 Z Qw) ?_;refine rd (hL _ ?_);refine cn h (fun h => ?_) fun h => ?_
        · refine tD Z ?_;refine QQ (st' := ⟨[(4, .c (.p (.v (.bool false))))], []⟩) QC.fit ?_;obtain rfl := h;exact Qf (hQ _ _ (Zq Z Z))
        · refine Qh (hL5 _ ?_);refine QQ (st' := ⟨[(0, .c (.p (.l 97 (List.map Qv a0)))), (1, .c (.p (.l 97 (List.map Qv a1)))), (5, .c (.p (.v (.int .i64 s3))))], []⟩) QC.fit ?_;refine tE Z (hL3 _ _ h QC.fit)
      · refine QP (hL2 _ _ h QC.fit)
def Vm (a0 : (List Q5)) (a1 : Int) (Q : ((List Q5) × Int) → Prop) : Prop :=
 ((((bif decide (a1 < 0) then true else decide (a1 ≥ ((a0.length : Int))))) = true → Q (([] : (List Q5)), 5)) ∧ (((bif decide (a1 < 0) then true else decide (a1 ≥ ((a0.length : Int))))) = false → ∃ v3, ix a0 a1 v3 ∧ (((!(v3.fb1)) = true → Q (([] : (List Q5)), 13)) ∧ ((!(v3.fb1)) = false → ∃ v4, Jf a0 v4 ∧ ∃ v5, ix v4 a1 v5 ∧ Q ((List.set (List.set (List.set (List.set v4 (Int.toNat a1) ((Q5.mk false v5.fOp v5.fk v5.f9 v5.f5 v5.fa0))) (Int.toNat a1) ((Q5.mk false (Qq.mk 0 ByteArray.empty ByteArray.empty (([] : (List ByteArray))) (Q6.mk 0 0 0 0) (([] : (List Qi))) (([] : (List Int))) 0 0 0 0 0 0 (Qu.mk 0 ByteArray.empty 0 0 0) (([] : (List Int)))) v5.fk v5.f9 v5.f5 v5.fa0))) (Int.toNat a1) ((Q5.mk false (Qq.mk 0 ByteArray.empty ByteArray.empty (([] : (List ByteArray))) (Q6.mk 0 0 0 0) (([] : (List Qi))) (([] : (List Int))) 0 0 0 0 0 0 (Qu.mk 0 ByteArray.empty 0 0 0) (([] : (List Int)))) (Qy.mk 0 0 false (([] : (List Int))) 0 (Qd.mk (Q6.mk 0 0 0 0) (Qo.mk 0 0 false) (Qb.mk 0 0 0 (([] : (List Int))) false) (Qj.mk 0 0 (([] : (List Int)))) (Qt.mk 0 0 (([] : (List Q1))) false) (Qe.mk 0 0 0 (([] : (List Q1))) false) (Qk.mk 0 0 0 (([] : (List (List ByteArray)))) false)) (Qd.mk (Q6.mk 0 0 0 0) (Qo.mk 0 0 false) (Qb.mk 0 0 0 (([] : (List Int))) false) (Qj.mk 0 0 (([] : (List Int)))) (Qt.mk 0 0 (([] : (List Q1))) false) (Qe.mk 0 0 0 (([] : (List Q1))) false) (Qk.mk 0 0 0 (([] : (List (List ByteArray)))) false)) 0 0 0 0 (Z7.mk 0 0) (([] : (List Int))) false) v5.f9 v5.f5 v5.fa0))) (Int.toNat a1) ((Q5.mk false (Qq.mk 0 ByteArray.empty ByteArray.empty (([] : (List ByteArray))) (Q6.mk 0 0 0 0) (([] : (List Qi))) (([] : (List Int))) 0 0 0 0 0 0 (Qu.mk 0 ByteArray.empty 0 0 0) (([] : (List Int)))) (Qy.mk 0 0 false (([] : (List Int))) 0 (Qd.mk (Q6.mk 0 0 0 0) (Qo.mk 0 0 false) (Qb.mk 0 0 0 (([] : (List Int))) false) (Qj.mk 0 0 (([] : (List Int)))) (Qt.mk 0 0 (([] : (List Q1))) false) (Qe.mk 0 0 0 (([] : (List Q1))) false) (Qk.mk 0 0 0 (([] : (List (List ByteArray)))) false)) (Qd.mk (Q6.mk 0 0 0 0) (Qo.mk 0 0 false) (Qb.mk 0 0 0 (([] : (List Int))) false) (Qj.mk 0 0 (([] : (List Int)))) (Qt.mk 0 0 (([] : (List Q1))) false) (Qe.mk 0 0 0 (([] : (List Q1))) false) (Qk.mk 0 0 0 (([] : (List (List ByteArray)))) false)) 0 0 0 0 (Z7.mk 0 0) (([] : (List Int))) false) 0 v5.f5 v5.fa0))), 0)))))
def ZU (a0 : (List Q5)) (a1 : Int) (r : (List Q5) × Int) : Prop := Vm a0 a1 fun x => r = x
theorem U0 {a0 : (List Q5)} {a1 : Int} {r : (List Q5) × Int} (h : ZU a0 a1 r) : Qp Tryz.prog 13 [.c (.l 97 (List.map Qv a0)), .c (.v (.int .i64 a1))] [.c (.own 97 (List.map Qv r.1)), .c (.p (.v (.int .i64 r.2)))] [] := by
  refine Qn tb Tryz.func13 Z (by kernel_rfl) Z Z (Nat.le_of_ble_eq_true Z) Z ?_;intro E;unfold ZU Vm at h;refine Z3 (fun Q hQ => ?_);refine tD Z ?_;refine sk fun L1 hL1 => ?_;refine tk fun L hL => ?_;refine dN 3 Z ?_;refine Q2 Z Z Q4 (fun hg => Qc Z Z) ?_;refine Q2 Z Z Q4 (fun hg => Qc Z Z) ?_;refine Q2 Z Z Q4 (fun hg => QA (Qa hg) Z Z Z) ?_;refine Q2 Z Z Q4 (fun hg => Qz (c := decide (a1 ≥ ((a0.length : Int)))) (Qa hg) (Qa hg) Z Z Z) ?_;refine u0 (Qm (v := .bool true) (w := .bool (decide (a1 ≥ ((a0.length : Int))))) Z Z Q4 Z Qw) ?_;refine rt (hL _ ?_);refine cn h (fun h => ?_) fun h => ?_
  · refine tD Z ?_;obtain rfl := h;exact Qf (hQ _ _ (Is Z Z Z Z))
  · refine Qh (hL1 _ ?_);refine QQ (st' := ⟨[(0, .c (.p (.l 97 (List.map Qv a0)))), (1, .c (.p (.v (.int .i64 a1))))], []⟩) QC.fit ?_;refine sk fun L2 hL2 => ?_;refine tk fun L hL => ?_;refine dN 2 Z ?_;obtain ⟨v3, hv3, h⟩ := h;refine u0 (QB hv3) ?_;refine dN 3 Z ?_;refine rt (hL _ ?_);refine cn h (fun h => ?_) fun h => ?_
    · refine tD Z ?_;obtain rfl := h;exact Qf (hQ _ _ (Is Z Z Z Z))
    · refine Qh (hL2 _ ?_);refine tk fun L hL => ?_;refine dN 1 Z ?_;obtain ⟨v4, hv4, h⟩ := h;refine ul (Zt (Ug hv4)) ?_;refine dN 1 Z ?_;refine rt (hL _ ?_);refine tk fun L hL => ?_;refine dN 2 Z ?_;obtain ⟨v5, hv5, h⟩ := h;refine u0 (QV hv5) ?_;refine dN 1 Z ?_;refine rt (hL _ ?_);refine tk fun L hL => ?_;refine dN 8 Z ?_;refine un (Zf (x1 := (Q5.mk false v5.fOp v5.fk v5.f9 v5.f5 v5.fa0)) hv5.2) ?_;refine dN 2 Z ?_;refine un (K0 (x1 := (Q5.mk false (Qq.mk 0 ByteArray.empty ByteArray.empty (([] : (List ByteArray))) (Q6.mk 0 0 0 0) (([] : (List Qi))) (([] : (List Int))) 0 0 0 0 0 0 (Qu.mk 0 ByteArray.empty 0 0 0) (([] : (List Int)))) v5.fk v5.f9 v5.f5 v5.fa0)) (ZC hv5.2) Z Z Z Z (.c (.c (.c (.cons (.nil _) (.c (.c (.c (.c (.cons (.nil _) (.cons (.nil _) (.c (.c (.c (.c (.c (.c (.c (.c (.c (.c (.c (.cons (.nil _) .nil))))))))))))))))))))))) ?_;refine dN 2 Z ?_;refine un (K0 (x1 := (Q5.mk false (Qq.mk 0 ByteArray.empty ByteArray.empty (([] : (List ByteArray))) (Q6.mk 0 0 0 0) (([] : (List Qi))) (([] : (List Int))) 0 0 0 0 0 0 (Qu.mk 0 ByteArray.empty 0 0 0) (([] : (List Int)))) (Qy.mk 0 0 false (([] : (List Int))) 0 (Qd.mk (Q6.mk 0 0 0 0) (Qo.mk 0 0 false) (Qb.mk 0 0 0 (([] : (List Int))) false) (Qj.mk 0 0 (([] : (List Int)))) (Qt.mk 0 0 (([] : (List Q1))) false) (Qe.mk 0 0 0 (([] : (List Q1))) false) (Qk.mk 0 0 0 (([] : (List (List ByteArray)))) false)) (Qd.mk (Q6.mk 0 0 0 0) (Qo.mk 0 0 false) (Qb.mk 0 0 0 (([] : (List Int))) false) (Qj.mk 0 0 (([] : (List Int)))) (Qt.mk 0 0 (([] : (List Q1))) false) (Qe.mk 0 0 0 (([] : (List Q1))) false) (Qk.mk 0 0 0 (([] : (List (List ByteArray)))) false)) 0 0 0 0 (Z7.mk 0 0) (([] : (List Int))) false) v5.f9 v5.f5 v5.fa0)) (ZC (ZC hv5.2)) Z Z Z Z (.c (.c (.c (.cons (.nil _) (.c (.c (.c (.c (.c (.c (.c (.c (.c (.c (.c (.cons (.nil _) (.c (.c (.c (.cons (.nil _) (.c (.c (.cons (.nil _) (.c (.c (.c (.c (.cons (.nil _) (.c (.c (.c (.c (.cons (.nil _) (.c (.c (.c (.c (.c (.c (.c (.c (.c (.c (.c (.cons (.nil _) (.c (.c (.c (.cons (.nil _) (.c (.c (.cons (.nil _) (.c (.c (.c (.c (.cons (.nil _) (.c (.c (.c (.c (.cons (.nil _) (.c (.c (.c (.c (.c (.c (.c (.cons (.nil _) (.c .nil)))))))))))))))))))))))))))))))))))))))))))))))))))))))))))))))))))))))) ?_
      refine dN 2 Z ?_;refine un (Zf (x1 := (Q5.mk false (Qq.mk 0 ByteArray.empty ByteArray.empty (([] : (List ByteArray))) (Q6.mk 0 0 0 0) (([] : (List Qi))) (([] : (List Int))) 0 0 0 0 0 0 (Qu.mk 0 ByteArray.empty 0 0 0) (([] : (List Int)))) (Qy.mk 0 0 false (([] : (List Int))) 0 (Qd.mk (Q6.mk 0 0 0 0) (Qo.mk 0 0 false) (Qb.mk 0 0 0 (([] : (List Int))) false) (Qj.mk 0 0 (([] : (List Int)))) (Qt.mk 0 0 (([] : (List Q1))) false) (Qe.mk 0 0 0 (([] : (List Q1))) false) (Qk.mk 0 0 0 (([] : (List (List ByteArray)))) false)) (Qd.mk (Q6.mk 0 0 0 0) (Qo.mk 0 0 false) (Qb.mk 0 0 0 (([] : (List Int))) false) (Qj.mk 0 0 (([] : (List Int)))) (Qt.mk 0 0 (([] : (List Q1))) false) (Qe.mk 0 0 0 (([] : (List Q1))) false) (Qk.mk 0 0 0 (([] : (List (List ByteArray)))) false)) 0 0 0 0 (Z7.mk 0 0) (([] : (List Int))) false) 0 v5.f5 v5.fa0)) (ZC (ZC (ZC hv5.2)))) ?_;refine rt (hL _ ?_);refine tD Z ?_;obtain rfl := h
      exact Qf (hQ _ _ ⟨.inr Z, _, _, _, (.cons (.s Z) (.cons (.p Z) .nil)), (.cons (.c (.own Z (by simp))) (.cons (.c (.p _)) .nil)), Z, Z⟩)
def ZV (a0 : (List Q5)) (Q : ((List Int)) → Prop) : Prop :=
 jn (fun (p1 : (List Int)) => Q p1) (fun (J1 : (List Int) → Prop) => lp (fun (X2 : (List Int) × Int → Prop) (s2 : (List Int) × Int) => (((decide (s2.2 < ((a0.length : Int)))) = true → jn (fun (p4 : (List Int)) => X2 (p4, (IntKind.i64.wrap (s2.2 + 1)))) (fun (J4 : (List Int) → Prop) => ∃ v5, ix a0 s2.2 v5 ∧ ((v5.fb1 = true → ((s2.1.length + ([s2.2]).length) * 8 ≤ 140737488355328) ∧ J4 ((s2.1 ++ ([s2.2])))) ∧ (v5.fb1 = false → J4 s2.1)))) ∧ ((decide (s2.2 < ((a0.length : Int)))) = false → J1 s2.1))) (([] : (List Int)), 0))
def ZW (a0 : (List Q5)) (r : (List Int)) : Prop := ZV a0 fun x => r = x
theorem Cm {a0 : (List Q5)} {Post : ((List Int)) → Prop} (h : ZV a0 Post) : ∃ r, ZW a0 r ∧ Post r := (show GM (ZV a0) (ZV a0) from GM.join (fun p1 => GM.ret _) (fun _ _ J1 => GM.loop (fun X Y Q s2 X2 h => ⟨fun hc => Yd (h.1 hc) (fun p4 h => X2 _ h) (fun _ _ J4 h => (Exists.elim h fun v5 hv5 => ⟨v5, hv5.1, ⟨fun hc => ⟨(hv5.2.1 hc).1, J4 _ ((hv5.2.1 hc).2)⟩, fun hc => J4 _ (hv5.2.2 hc)⟩⟩)), fun hc => h.2 hc⟩) (fun _ _ X2 s2 => GM.cond (GM.join (fun p4 => X2 _) (fun _ _ J4 => GM.ex fun v5 => GM.cond (GM.and (J4 _)) (J4 _))) (J1 _)))) Post h
theorem U1 {a0 : (List Q5)} {r : (List Int)} (h : ZW a0 r) : Qp Tryz.prog 15 [.c (.l 97 (List.map Qv a0))] [.c (.own 1 (List.map (eI .i64) r))] [] := by
  refine Qn tb Tryz.func15 Z (by kernel_rfl) Z Z (Nat.le_of_ble_eq_true Z) Z ?_;intro E;unfold ZW ZV at h;refine Z3 (fun Q hQ => ?_);refine tD Z ?_;refine tD Z ?_;refine Z2 (fun (p1 : (List Int)) => (⟨[(3, .c (.sl (3, 1000) 0 (List.map (eI .i64) p1).length))], [((3, 1000), some (.row 1 (List.map (eI .i64) p1) true))]⟩ : St)) h (fun p1 h => ?_) (fun J1 L1 hL1 h => ?_)
  · refine tD Z ?_;obtain rfl := h;exact Qf (hQ _ _ (E6 Z Z Z Z))
  · refine tk fun L hL => ?_;refine dN 1 Z ?_;refine u0 QA ?_;refine dN 1 Z ?_;refine rt (hL _ ?_);refine Qr ?_;refine Zn (fun (s2 : (List Int) × Int) => (⟨[(3, .c (.sl (3, 1000) 0 (List.map (eI .i64) s2.1).length)), (6, .c (.p (.l 97 (List.map Qv a0)))), (7, .c (.p (.v (.int .i64 ((a0.length : Int)))))), (8, .c (.p (.v (.int .i64 s2.2))))], [((3, 1000), some (.row 1 (List.map (eI .i64) s2.1) true))]⟩ : St)) h ((QC.blk (3, 1050) 1).trans ((QC.slot 3 Z (.nilo (b := (3, 1050)) Z)).trans (QC.nm [3, 6, 7, 8] [((3, 1050), (3, 1000))] Z (by kernel_rfl)))) (fun X2 L2 hL2 s2 h => ?_);refine tD Z ?_;refine sk fun L3 hL3 => ?_;refine cn h (fun h => ?_) fun h => ?_
    · refine Qh (hL3 _ ?_);refine Z2 (fun (p4 : (List Int)) => (⟨[(3, .c (.sl (3, 1000) 0 (List.map (eI .i64) p4).length)), (6, .c (.p (.l 97 (List.map Qv a0)))), (7, .c (.p (.v (.int .i64 ((a0.length : Int)))))), (8, .c (.p (.v (.int .i64 s2.2))))], [((3, 1000), some (.row 1 (List.map (eI .i64) p4) true))]⟩ : St)) h (fun p4 h => ?_) (fun J4 L4 hL4 h => ?_)
      · refine tE Z (hL2 _ _ h QC.fit)
      · refine Qr ?_;refine tk fun L hL => ?_;refine dN 1 Z ?_;obtain ⟨v5, hv5, h⟩ := h;refine u0 (QB hv5) ?_;refine dN 4 Z ?_;refine rt (hL _ ?_);refine tD Z ?_;refine cn h (fun h => ?_) fun h => ?_
        · refine tl fun L hL => ?_;refine dN 2 Z ?_;refine ul (QF (rows := List.map (eI .i64) [s2.2])) ?_;obtain ⟨hm6, h⟩ := h;refine ul (QI (f := (eI .i64)) (L := s2.1) (L' := [s2.2]) hm6 Z Z Z Z Z Z Z Z Z Z Z (QZ QJ Z Z Z Z Z Z)) ?_;refine dN 1 Z ?_;refine rt (hL _ (hL4 _ _ h (QC.nm [3, 6, 7, 8] [((18, 0), (3, 1000))] Z (by kernel_rfl))))
        · refine Qh (hL4 _ _ h QC.fit)
    · refine QP (hL1 _ _ h QC.fit)
def U2 (a0 : Int) (Q : ((List Q5) × Int) → Prop) : Prop :=
 ((((bif decide (a0 < 1) then true else decide (a0 > 64))) = true → Q (([] : (List Q5)), 5)) ∧ (((bif decide (a0 < 1) then true else decide (a0 > 64))) = false → jn (fun (p2 : (List Q5)) => Q (p2, 0)) (fun (J2 : (List Q5) → Prop) => lp (fun (X3 : (List Q5) × Int → Prop) (s3 : (List Q5) × Int) => (((decide (s3.2 < a0)) = true → ((0 : Int) ≤ 4 ∧ (4 : Int) * ((40 : Nat) : Int) ≤ 140737488355328) ∧ ((0 : Int) ≤ 4 ∧ (4 : Int) * ((40 : Nat) : Int) ≤ 140737488355328) ∧ ((s3.1.length + ([(Q5.mk false (Qq.mk 0 ByteArray.empty ByteArray.empty ([] : (List ByteArray)) (Q6.mk 0 0 0 0) ([] : (List Qi)) ([] : (List Int)) 0 0 0 0 0 0 (Qu.mk 0 ByteArray.empty 0 0 0) ([] : (List Int))) (Qy.mk 0 0 false ([] : (List Int)) 0 (Qd.mk (Q6.mk 0 0 0 0) (Qo.mk 0 0 false) (Qb.mk 0 0 0 ([] : (List Int)) false) (Qj.mk 0 0 ([] : (List Int))) (Qt.mk 0 0 ([] : (List Q1)) false) (Qe.mk 0 0 0 ([] : (List Q1)) false) (Qk.mk 0 0 0 ([] : (List (List ByteArray))) false)) (Qd.mk (Q6.mk 0 0 0 0) (Qo.mk 0 0 false) (Qb.mk 0 0 0 ([] : (List Int)) false) (Qj.mk 0 0 ([] : (List Int))) (Qt.mk 0 0 ([] : (List Q1)) false) (Qe.mk 0 0 0 ([] : (List Q1)) false) (Qk.mk 0 0 0 ([] : (List (List ByteArray))) false)) 0 0 0 0 (Z7.mk 0 0) ([] : (List Int)) false) 0 (List.replicate (Int.toNat 4) (Qx.mk false 0 ([] : (List ByteArray)))) (List.replicate (Int.toNat 4) (QG.mk false 0 ByteArray.empty 0)))]).length) * 1088 ≤ 140737488355328) ∧ X3 ((s3.1 ++ ([(Q5.mk false (Qq.mk 0 ByteArray.empty ByteArray.empty ([] : (List ByteArray)) (Q6.mk 0 0 0 0) ([] : (List Qi)) ([] : (List Int)) 0 0 0 0 0 0 (Qu.mk 0 ByteArray.empty 0 0 0) ([] : (List Int))) (Qy.mk 0 0 false ([] : (List Int)) 0 (Qd.mk (Q6.mk 0 0 0 0) (Qo.mk 0 0 false) (Qb.mk 0 0 0 ([] : (List Int)) false) (Qj.mk 0 0 ([] : (List Int))) (Qt.mk 0 0 ([] : (List Q1)) false) (Qe.mk 0 0 0 ([] : (List Q1)) false) (Qk.mk 0 0 0 ([] : (List (List ByteArray))) false)) (Qd.mk (Q6.mk 0 0 0 0) (Qo.mk 0 0 false) (Qb.mk 0 0 0 ([] : (List Int)) false) (Qj.mk 0 0 ([] : (List Int))) (Qt.mk 0 0 ([] : (List Q1)) false) (Qe.mk 0 0 0 ([] : (List Q1)) false) (Qk.mk 0 0 0 ([] : (List (List ByteArray))) false)) 0 0 0 0 (Z7.mk 0 0) ([] : (List Int)) false) 0 (List.replicate (Int.toNat 4) (Qx.mk false 0 ([] : (List ByteArray)))) (List.replicate (Int.toNat 4) (QG.mk false 0 ByteArray.empty 0)))])), (IntKind.i64.wrap (s3.2 + 1)))) ∧ ((decide (s3.2 < a0)) = false → J2 s3.1))) (([] : (List Q5)), 0))))
def Vn (a0 : Int) (r : (List Q5) × Int) : Prop := U2 a0 fun x => r = x
theorem Fi {a0 : Int} {r : (List Q5) × Int} (h : Vn a0 r) : Qp Tryz.prog 36 [.c (.v (.int .i64 a0))] [.c (.own 97 (List.map Qv r.1)), .c (.p (.v (.int .i64 r.2)))] [] := by
  refine Qn tb Tryz.func36 Z (by kernel_rfl) Z Z (Nat.le_of_ble_eq_true Z) Z ?_;intro E;unfold Vn U2 at h;refine Z3 (fun Q hQ => ?_);refine tD Z ?_;refine sk fun L1 hL1 => ?_;refine tk fun L hL => ?_;refine dN 3 Z ?_;refine Q2 Z Z Q4 (fun hg => Qc Z Z) ?_;refine Q2 Z Z Q4 (fun hg => Qz (c := decide (a0 > 64)) (Qa hg) Z Z Z Z) ?_;refine u0 (Qm (v := .bool true) (w := .bool (decide (a0 > 64))) Z Z Q4 Z Qw) ?_;refine rt (hL _ ?_);refine cn h (fun h => ?_) fun h => ?_
  · refine tD Z ?_;obtain rfl := h;exact Qf (hQ _ _ (Is Z Z Z Z))
  · refine Qh (hL1 _ ?_);refine QQ (st' := ⟨[(0, .c (.p (.v (.int .i64 a0))))], []⟩) QC.fit ?_;refine tD Z ?_;refine Z2 (fun (p2 : (List Q5)) => (⟨[(4, .c (.sl (4, 1000) 0 (List.map Qv p2).length))], [((4, 1000), some (.row 97 (List.map Qv p2) true))]⟩ : St)) h (fun p2 h => ?_) (fun J2 L2 hL2 h => ?_)
    · refine tD Z ?_;obtain rfl := h;exact Qf (hQ _ _ (Oq Z Z Z Z Z))
    · refine tD Z ?_;refine Qr ?_;refine Zn (fun (s3 : (List Q5) × Int) => (⟨[(4, .c (.sl (4, 1000) 0 (List.map Qv s3.1).length)), (11, .c (.p (.v (.int .i64 a0)))), (12, .c (.p (.v (.int .i64 s3.2))))], [((4, 1000), some (.row 97 (List.map Qv s3.1) true))]⟩ : St)) h ((QC.blk (4, 1050) 97).trans ((QC.slot 4 Z (.nilo (b := (4, 1050)) Z)).trans (QC.nm [4, 11, 12] [((4, 1050), (4, 1000))] Z (by kernel_rfl)))) (fun X3 L3 hL3 s3 h => ?_);refine tD Z ?_;refine sk fun L4 hL4 => ?_;refine cn h (fun h => ?_) fun h => ?_
      · refine Qh (hL4 _ ?_);refine sk fun L5 hL5 => ?_;refine Qr ?_;refine dl mixed (fun L hL => ?_);refine dN 1 Z ?_;obtain ⟨hm6, h⟩ := h;refine u1 (Wx (f := QE) (z := (Qx.mk false 0 ([] : (List ByteArray)))) hm6 Z Z Z Z Z Z Z Z Z (.c (.c (.cons (.nil _) .nil)))) ?_;obtain ⟨hm7, h⟩ := h;refine u1 (Wx (f := QW) (z := (QG.mk false 0 ByteArray.empty 0)) hm7 Z Z Z Z Z Z Z Z Z (.c (.c (.c (.c .nil))))) ?_;refine dN 1 Z ?_;refine ul (ZB (b := (16, 0)) Z Z (ZB (b := (15, 0)) Z Z (Xi (rows := List.map Qv [(Q5.mk false (Qq.mk 0 ByteArray.empty ByteArray.empty ([] : (List ByteArray)) (Q6.mk 0 0 0 0) ([] : (List Qi)) ([] : (List Int)) 0 0 0 0 0 0 (Qu.mk 0 ByteArray.empty 0 0 0) ([] : (List Int))) (Qy.mk 0 0 false ([] : (List Int)) 0 (Qd.mk (Q6.mk 0 0 0 0) (Qo.mk 0 0 false) (Qb.mk 0 0 0 ([] : (List Int)) false) (Qj.mk 0 0 ([] : (List Int))) (Qt.mk 0 0 ([] : (List Q1)) false) (Qe.mk 0 0 0 ([] : (List Q1)) false) (Qk.mk 0 0 0 ([] : (List (List ByteArray))) false)) (Qd.mk (Q6.mk 0 0 0 0) (Qo.mk 0 0 false) (Qb.mk 0 0 0 ([] : (List Int)) false) (Qj.mk 0 0 ([] : (List Int))) (Qt.mk 0 0 ([] : (List Q1)) false) (Qe.mk 0 0 0 ([] : (List Q1)) false) (Qk.mk 0 0 0 ([] : (List (List ByteArray))) false)) 0 0 0 0 (Z7.mk 0 0) ([] : (List Int)) false) 0 (List.replicate (Int.toNat 4) (Qx.mk false 0 ([] : (List ByteArray)))) (List.replicate (Int.toNat 4) (QG.mk false 0 ByteArray.empty 0)))]) Z Z Z Z Z Z Z Z Z (.c (.c (.c (.c (.cons (.nil _) (.c (.c (.c (.c (.cons (.nil _) (.cons (.nil _) (.c (.c (.c (.c (.c (.c (.c (.c (.c (.c (.c (.cons (.nil _) (.c (.c (.c (.cons (.nil _) (.c (.c (.c (.c (.c (.c (.c (.c (.c (.c (.c (.cons (.nil _) (.c (.c (.c (.cons (.nil _) (.c (.c (.cons (.nil _) (.c (.c (.c (.c (.cons (.nil _) (.c (.c (.c (.c (.cons (.nil _) (.c (.c (.c (.c (.c (.c (.c (.c (.c (.c (.c (.cons (.nil _) (.c (.c (.c (.cons (.nil _) (.c (.c (.cons (.nil _) (.c (.c (.c (.c (.cons (.nil _) (.c (.c (.c (.c (.cons (.nil _) (.c (.c (.c (.c (.c (.c (.c (.cons (.nil _) (.c (.c (.cons (.fr Z (QH Z)) (.cons (.fr Z (QH Z)) .nil)))))))))))))))))))))))))))))))))))))))))))))))))))))))))))))))))))))))))))))))))))))))))))))))))))) ?_
        obtain ⟨hm8, h⟩ := h;refine ul (QI (f := Qv) (L := s3.1) (L' := [(Q5.mk false (Qq.mk 0 ByteArray.empty ByteArray.empty ([] : (List ByteArray)) (Q6.mk 0 0 0 0) ([] : (List Qi)) ([] : (List Int)) 0 0 0 0 0 0 (Qu.mk 0 ByteArray.empty 0 0 0) ([] : (List Int))) (Qy.mk 0 0 false ([] : (List Int)) 0 (Qd.mk (Q6.mk 0 0 0 0) (Qo.mk 0 0 false) (Qb.mk 0 0 0 ([] : (List Int)) false) (Qj.mk 0 0 ([] : (List Int))) (Qt.mk 0 0 ([] : (List Q1)) false) (Qe.mk 0 0 0 ([] : (List Q1)) false) (Qk.mk 0 0 0 ([] : (List (List ByteArray))) false)) (Qd.mk (Q6.mk 0 0 0 0) (Qo.mk 0 0 false) (Qb.mk 0 0 0 ([] : (List Int)) false) (Qj.mk 0 0 ([] : (List Int))) (Qt.mk 0 0 ([] : (List Q1)) false) (Qe.mk 0 0 0 ([] : (List Q1)) false) (Qk.mk 0 0 0 ([] : (List (List ByteArray))) false)) 0 0 0 0 (Z7.mk 0 0) ([] : (List Int)) false) 0 (List.replicate (Int.toNat 4) (Qx.mk false 0 ([] : (List ByteArray)))) (List.replicate (Int.toNat 4) (QG.mk false 0 ByteArray.empty 0)))]) hm8 Z Z Z Z Z Z Z Z Z Z Z (QZ QJ Z Z Z Z Z Z)) ?_
        refine dN 1 Z ?_;refine rd (hL _ (hL5 _ ?_));refine tE Z (hL3 _ _ h (QC.nm [4, 11, 12] [((19, 0), (4, 1000))] Z (by kernel_rfl)))
      · refine QP (hL2 _ _ h QC.fit)
def Uu  (Q : Bool → Prop) : Prop :=
 ∃ v1, Vn 2 v1 ∧ ∃ v2, Kq v1.1 1 (Qq.mk 4 ByteArray.empty ByteArray.empty ([] : (List ByteArray)) (Q6.mk 0 0 0 0) ([] : (List Qi)) ([] : (List Int)) 0 0 0 0 0 0 (Qu.mk 0 ByteArray.empty 0 0 0) ([] : (List Int))) 7 v2 ∧ ∃ v3, Kq v2.1 1 (Qq.mk 4 ByteArray.empty ByteArray.empty ([] : (List ByteArray)) (Q6.mk 0 0 0 0) ([] : (List Qi)) ([] : (List Int)) 0 0 0 0 0 0 (Qu.mk 0 ByteArray.empty 0 0 0) ([] : (List Int))) 8 v3 ∧ ∃ v4, ZW v2.1 v4 ∧ ∃ v5, ZU v2.1 1 v5 ∧ ∃ (v6 : Int), (((bif (bif (bif (bif (v1.2 == 0) then (v2.2 == 0) else false) then (v3.2 == 12) else false) then (v5.2 == 0) else false) then (((v4.length : Int)) == 1) else false)) = true → ix v4 0 v6) ∧ ∃ (v7 : Q5), (((bif (bif (bif (bif (bif (bif (v1.2 == 0) then (v2.2 == 0) else false) then (v3.2 == 12) else false) then (v5.2 == 0) else false) then (((v4.length : Int)) == 1) else false) then (v6 == 1) else false) then (((v5.1.length : Int)) == 2) else false)) = true → ix v5.1 1 v7) ∧ ∃ (v8 : Q5), (((bif (bif (bif (bif (bif (bif (bif (bif (v1.2 == 0) then (v2.2 == 0) else false) then (v3.2 == 12) else false) then (v5.2 == 0) else false) then (((v4.length : Int)) == 1) else false) then (v6 == 1) else false) then (((v5.1.length : Int)) == 2) else false) then !(v7.fb1) else false) then (((v2.1.length : Int)) == 2) else false)) = true → ix v2.1 1 v8) ∧ Q (((bif (bif (bif (bif (bif (bif (bif (bif (bif (v1.2 == 0) then (v2.2 == 0) else false) then (v3.2 == 12) else false) then (v5.2 == 0) else false) then (((v4.length : Int)) == 1) else false) then (v6 == 1) else false) then (((v5.1.length : Int)) == 2) else false) then !(v7.fb1) else false) then (((v2.1.length : Int)) == 2) else false) then (v8.f9 == 7) else false)))
def Y5  (r : Bool) : Prop := Uu  fun x => r = x
theorem FZ  {r : Bool} (h : Y5  r) : Qp Tryz.prog 12 [] [.c (.p (.v (.bool r)))] [] := by
  refine Qn tb Tryz.func12 Z (by kernel_rfl) Z Z (Nat.le_of_ble_eq_true Z) Z ?_;intro E;unfold Y5 Uu at h;refine Z3 (fun Q hQ => ?_);refine tD Z ?_;refine tk fun L hL => ?_;obtain ⟨v1, hv1, h⟩ := h;refine ul (Zt (Fi hv1)) ?_;refine dN 5 Z ?_;refine rt (hL _ ?_);refine tk fun L hL => ?_;refine dN 2 Z ?_;obtain ⟨v2, hv2, h⟩ := h;refine ul (YB (UI hv2) Z Z (.cons (.c (.fr Z (QH Z))) (.cons (.c (.p _)) (.cons (.agg (.pp (.pp (.pp (.cons (.nil _) (.pp (.pp (.pp (.pp (.cons (.nil _) (.cons (.nil _) (.pp (.pp (.pp (.pp (.pp (.pp (.pp (.pp (.pp (.pp (.pp (.cons (.nil _) .nil))))))))))))))))))))))) (.cons (.c (.p _)) .nil))))) ?_;refine dN 5 Z ?_;refine rt (hL _ ?_);refine tk fun L hL => ?_;refine dN 2 Z ?_;obtain ⟨v3, hv3, h⟩ := h;refine ul (YB (UI hv3) Z Z (.cons (.c (.fr Z (QH Z))) (.cons (.c (.p _)) (.cons (.agg (.pp (.pp (.pp (.cons (.nil _) (.pp (.pp (.pp (.pp (.cons (.nil _) (.cons (.nil _) (.pp (.pp (.pp (.pp (.pp (.pp (.pp (.pp (.pp (.pp (.pp (.cons (.nil _) .nil))))))))))))))))))))))) (.cons (.c (.p _)) .nil))))) ?_;refine dN 5 Z ?_;refine rt (hL _ ?_);refine tk fun L hL => ?_;refine dN 1 Z ?_
  obtain ⟨v4, hv4, h⟩ := h;refine ul (Ze (U1 hv4) (YC (K8.cons (.o (Ub N3)) K8.nil)) Z Z (.cons (.c (.fr Z (QH Z))) .nil)) ?_;refine dN 1 Z ?_;refine rt (hL _ ?_);refine tk fun L hL => ?_;refine dN 1 Z ?_;obtain ⟨v5, hv5, h⟩ := h;refine ul (YB (U0 hv5) Z Z (.cons (.c (.fr Z (QH Z))) (.cons (.c (.p _)) .nil))) ?_;refine dN 5 Z ?_;refine rt (hL _ ?_);refine tk fun L hL => ?_;refine dN 3 Z ?_;refine Q2 Z Z Q8 (fun hg => Qc Z Z) ?_;refine Q2 Z Z Q8 (fun hg => Qz (c := (v2.2 == 0)) (Qa hg) Z Z Z Z) ?_;refine u0 (Ql (v := .bool ((v2.2 == 0))) (w := .bool false) Z Z Q8 Z Qw) ?_;refine dN 1 Z ?_;refine Q2 Z Z Q8 (fun hg => Qc Z Z) ?_;refine Q2 Z Z Q8 (fun hg => Qz (c := (v3.2 == 12)) (Qa hg) Z Z Z Z) ?_;refine u0 (Ql (v := .bool ((v3.2 == 12))) (w := .bool false) Z Z Q8 Z Qw) ?_;refine dN 1 Z ?_;refine Q2 Z Z Q8 (fun hg => Qc Z Z) ?_;refine Q2 Z Z Q8 (fun hg => Qz (c := (v5.2 == 0)) (Qa hg) Z Z Z Z) ?_;refine u0 (Ql (v := .bool ((v5.2 == 0))) (w := .bool false) Z Z Q8 Z Qw) ?_;refine dN 1 Z ?_;refine Q2 Z Z Q8 (fun hg => Qc Z Z) ?_
  refine Q2 Z Z Q8 (fun hg => ZN (Qa hg) Z Z Z Z Z) ?_;refine Q2 Z Z Q8 (fun hg => Qz (c := (((v4.length : Int)) == 1)) (Qa hg) Z Z Z Z) ?_;refine u0 (Ql (v := .bool ((((v4.length : Int)) == 1))) (w := .bool false) Z Z Q8 Z Qw) ?_;refine dN 1 Z ?_;refine Q2 Z Z Q8 (fun hg => Qc Z Z) ?_;obtain ⟨v6, hv6, h⟩ := h;refine Q2 Z Z Q8 (fun hg => QV (hv6 hg) (Qa hg) Z Z Z Z Z Z Z Z Z) ?_;refine Q2 Z Z Q8 (fun hg => Z5 (Qa hg) Z (gm (hv6 hg).2) Z Z Z Z) ?_;refine Q2 Z Z Q8 (fun hg => Qz (c := (v6 == 1)) (Qa hg) Z Z Z Z) ?_;refine u0 (Ql (v := .bool ((v6 == 1))) (w := .bool false) Z Z Q8 Z Qw) ?_;refine dN 1 Z ?_;refine Q2 Z Z Q8 (fun hg => Qc Z Z) ?_;refine Q2 Z Z Q8 (fun hg => ZN (Qa hg) Z Z Z Z Z) ?_;refine Q2 Z Z Q8 (fun hg => Qz (c := (((v5.1.length : Int)) == 2)) (Qa hg) Z Z Z Z) ?_;refine u0 (Ql (v := .bool ((((v5.1.length : Int)) == 2))) (w := .bool false) Z Z Q8 Z Qw) ?_;refine dN 1 Z ?_;refine Q2 Z Z Q8 (fun hg => Qc Z Z) ?_;obtain ⟨v7, hv7, h⟩ := h;refine Q2 Z Z Q8 (fun hg => QV (hv7 hg) (Qa hg) Z Z Z Z Z Z Z Z Z) ?_
  refine Q2 Z Z Q8 (fun hg => Q7 (Qa hg) Z Z Z Z Z Z Z Z) ?_;refine Q2 Z Z Q8 (fun hg => Z5 (Qa hg) Z (gm (hv7 hg).2) Z Z Z Z) ?_;refine Q2 Z Z Q8 (fun hg => QY (Qa hg) Z Z) ?_;refine u0 (Ql (v := .bool (!(v7.fb1))) (w := .bool false) Z Z Q8 Z Qw) ?_;refine dN 1 Z ?_;refine Q2 Z Z Q8 (fun hg => Qc Z Z) ?_;refine Q2 Z Z Q8 (fun hg => ZN (Qa hg) Z Z Z Z Z) ?_;refine Q2 Z Z Q8 (fun hg => Qz (c := (((v2.1.length : Int)) == 2)) (Qa hg) Z Z Z Z) ?_;refine u0 (Ql (v := .bool ((((v2.1.length : Int)) == 2))) (w := .bool false) Z Z Q8 Z Qw) ?_;refine dN 1 Z ?_;refine Q2 Z Z Q8 (fun hg => Qc Z Z) ?_;obtain ⟨v8, hv8, h⟩ := h;refine Q2 Z Z Q8 (fun hg => QV (hv8 hg) (Qa hg) Z Z Z Z Z Z Z Z Z) ?_;refine Q2 Z Z Q8 (fun hg => Q7 (Qa hg) Z Z Z Z Z Z Z Z) ?_;refine Q2 Z Z Q8 (fun hg => Z5 (Qa hg) Z (gm (hv8 hg).2) Z Z Z Z) ?_;refine Q2 Z Z Q8 (fun hg => Qz (c := (v8.f9 == 7)) (Qa hg) Z Z Z Z) ?_;refine u0 (Ql (v := .bool ((v8.f9 == 7))) (w := .bool false) Z Z Q8 Z Qw) ?_;refine dN 1 Z ?_
  refine rt (hL _ ?_);refine QQ (st' := ⟨[(0, .c (.p (.v (.bool ((bif (bif (bif (bif (bif (bif (bif (bif (bif (v1.2 == 0) then (v2.2 == 0) else false) then (v3.2 == 12) else false) then (v5.2 == 0) else false) then (((v4.length : Int)) == 1) else false) then (v6 == 1) else false) then (((v5.1.length : Int)) == 2) else false) then !(v7.fb1) else false) then (((v2.1.length : Int)) == 2) else false) then (v8.f9 == 7) else false))))))], []⟩) QC.fit ?_;obtain rfl := h;exact Qf (hQ _ _ (Zq Z Z))
set_option maxRecDepth 100000
set_option maxHeartbeats 4000000
def Ag (a0 : (List Q5)) (Q : ((List Int)) → Prop) : Prop :=
 jn (fun (p1 : (List Int)) => Q p1) (fun (J1 : (List Int) → Prop) => lp (fun (X2 : (List Int) × Int → Prop) (s2 : (List Int) × Int) => (((decide (s2.2 < ((a0.length : Int)))) = true → jn (fun (p4 : (List Int)) => X2 (p4, (IntKind.i64.wrap (s2.2 + 1)))) (fun (J4 : (List Int) → Prop) => ∃ v5, ix a0 s2.2 v5 ∧ ((v5.fb1 = true → ((s2.1.length + ([s2.2]).length) * 8 ≤ 140737488355328) ∧ J4 ((s2.1 ++ ([s2.2])))) ∧ (v5.fb1 = false → J4 s2.1)))) ∧ ((decide (s2.2 < ((a0.length : Int)))) = false → J1 s2.1))) (([] : (List Int)), 0))
def Ya (a0 : (List Q5)) (r : (List Int)) : Prop := Ag a0 fun x => r = x
theorem Er {a0 : (List Q5)} {r : (List Int)} (h : Ya a0 r) : Qp Tryz.prog 16 [.c (.l 97 (List.map Qv a0))] [.c (.own 1 (List.map (eI .i64) r))] [] := by
  refine Qn tb Tryz.func16 Z (by kernel_rfl) Z Z (Nat.le_of_ble_eq_true Z) Z ?_;intro E;unfold Ya Ag at h;refine Z3 (fun Q hQ => ?_);refine tD Z ?_;refine tD Z ?_;refine Z2 (fun (p1 : (List Int)) => (⟨[(3, .c (.sl (3, 1000) 0 (List.map (eI .i64) p1).length))], [((3, 1000), some (.row 1 (List.map (eI .i64) p1) true))]⟩ : St)) h (fun p1 h => ?_) (fun J1 L1 hL1 h => ?_)
  · refine tD Z ?_;obtain rfl := h;exact Qf (hQ _ _ (E6 Z Z Z Z))
  · refine tD Z ?_;refine Qr ?_;refine Zn (fun (s2 : (List Int) × Int) => (⟨[(0, .c (.p (.l 97 (List.map Qv a0)))), (3, .c (.sl (3, 1000) 0 (List.map (eI .i64) s2.1).length)), (4, .c (.p (.v (.int .i64 s2.2))))], [((3, 1000), some (.row 1 (List.map (eI .i64) s2.1) true))]⟩ : St)) h ((QC.blk (3, 1050) 1).trans ((QC.slot 3 Z (.nilo (b := (3, 1050)) Z)).trans (QC.nm [0, 3, 4] [((3, 1050), (3, 1000))] Z (by kernel_rfl)))) (fun X2 L2 hL2 s2 h => ?_);refine sk fun L3 hL3 => ?_;refine tk fun L hL => ?_;refine dN 2 Z ?_;refine u0 QA ?_;refine dN 1 Z ?_;refine rt (hL _ ?_);refine cn h (fun h => ?_) fun h => ?_
    · refine Qh (hL3 _ ?_);refine Z2 (fun (p4 : (List Int)) => (⟨[(0, .c (.p (.l 97 (List.map Qv a0)))), (3, .c (.sl (3, 1000) 0 (List.map (eI .i64) p4).length)), (4, .c (.p (.v (.int .i64 s2.2))))], [((3, 1000), some (.row 1 (List.map (eI .i64) p4) true))]⟩ : St)) h (fun p4 h => ?_) (fun J4 L4 hL4 h => ?_)
      · refine tE Z (hL2 _ _ h QC.fit)
      · refine Qr ?_;refine tk fun L hL => ?_;refine dN 2 Z ?_;obtain ⟨v5, hv5, h⟩ := h;refine u0 (QB hv5) ?_;refine dN 2 Z ?_;refine rt (hL _ ?_);refine cn h (fun h => ?_) fun h => ?_
        · refine tl fun L hL => ?_;refine dN 2 Z ?_;refine ul (QF (rows := List.map (eI .i64) [s2.2])) ?_;obtain ⟨hm6, h⟩ := h;refine ul (QI (f := (eI .i64)) (L := s2.1) (L' := [s2.2]) hm6 Z Z Z Z Z Z Z Z Z Z Z (QZ QJ Z Z Z Z Z Z)) ?_;refine dN 1 Z ?_;refine rt (hL _ (hL4 _ _ h (QC.nm [0, 3, 4] [((19, 0), (3, 1000))] Z (by kernel_rfl))))
        · refine Qh (hL4 _ _ h QC.fit)
    · refine QP (hL1 _ _ h QC.fit)
end Go.Proofs.YtpnpodbihdiegaaGreat

namespace Go.Proofs.YtpnpodbihdiegaaGreat
open Go.RowKit
theorem JK {a b : Bool} : (bif a then b else false) = (a && b) := by cases a <;> rfl
theorem Jp {a b : Bool} : (bif a then true else b) = (a || b) := by cases a <;> rfl
theorem U3 {n lo hi : Int} {r : Bool} : Zp n lo hi r ↔ r = wI n lo hi := by
  unfold Zp WU wI; by_cases h : lo ≤ n <;> simp [h]
theorem AZ {n lo hi : Int} {r : Bool} : Zw n lo hi r ↔ r = wI n lo hi := by
  unfold Zw WR wI; by_cases h : lo ≤ n <;> simp [h]
theorem ZE {n lo hi : Int} {r : Bool} : QM n lo hi r ↔ r = wI n lo hi := by
  unfold QM Um wI; by_cases h : lo ≤ n <;> simp [h]
theorem Es {n lo hi : Int} {r : Bool} : Kg n lo hi r ↔ r = wI n lo hi := by
  unfold Kg WA wI; by_cases h : lo ≤ n <;> simp [h]
theorem Fj {n lo hi : Int} {r : Bool} : JF n lo hi r ↔ r = wI n lo hi := by
  unfold JF WV wI; by_cases h : lo ≤ n <;> simp [h]
theorem G0 {c : Int} {r : Bool} : VZ c r ↔ r = wI c 97 122 := by
  unfold VZ Uq wI; by_cases h : (97 : Int) ≤ c <;> simp [h]
theorem G5 {c : Int} {r : Bool} : Y2 c r ↔ r = wI c 48 57 := by
  unfold Y2 Ur wI; by_cases h : (48 : Int) ≤ c <;> simp [h]
theorem XR {n lo hi : Int} {r : Int} : Z9 n lo hi r ↔ r = if lo ≤ n ∧ n ≤ hi then 0 else 5 := by
  unfold Z9 XN
  by_cases h : n < lo
  · simp [h]; rw [if_neg (by omega)]
  · by_cases h2 : n > hi
    · simp [h, h2]; rw [if_neg (by omega)]
    · simp [h, h2]; rw [if_pos (by omega)]
theorem LL {s : ByteArray} : (decide (1 ≤ (s.size : Int)) && decide ((s.size : Int) ≤ 32)) = decide (1 ≤ s.size ∧ s.size ≤ 32) := by
  rw [Bool.decide_and]; congr 1 <;> exact decide_eq_decide.2 (by omega)
theorem BL {s : ByteArray} {r : Bool} : X0 s r ↔ r = decide (1 ≤ s.size ∧ s.size ≤ 32) := by
  unfold X0 Us; rw [JK, ← LL]
theorem VE {s : ByteArray} {r : Bool} : Kw s r ↔ r = decide (1 ≤ s.size ∧ s.size ≤ 32) := by
  unfold Kw UW; rw [JK, ← LL]
def U4 (k s d z : Int) : Int :=
  if k = 1 then (if s ≠ 0 ∨ d ≠ 0 ∨ z ≠ 0 then 10 else 0)
  else if k = 2 then (if ¬ (1 ≤ d ∧ d ≤ 8 ∧ 1 ≤ s ∧ s ≤ 64) then 5 else 0)
  else if k = 3 then (if ¬ (2 ≤ s ∧ s ≤ 8) then 5 else if d ≠ 0 then 10 else 0)
  else if k = 4 ∨ k = 5 then (if ¬ (1 ≤ s ∧ s ≤ 32) then 5 else if d ≠ 0 ∨ z ≠ 0 then 10 else 0)
  else if k = 6 then (if ¬ (2 ≤ s ∧ s ≤ 32 ∧ s % 2 = 0) then 5 else if d ≠ 0 ∨ z ≠ 0 then 10 else 0)
  else 8
theorem UJ (p : Q6) : Ko p (U4 p.fo p.fg p.fq p.fu) := by
  unfold Ko Vh
  simp only [jn, Es, exists_eq_left, JK, Jp]
  obtain ⟨k, s, d, z⟩ := p
  simp only
  by_cases h1 : k = 1
  · subst h1; by_cases hs : s = 0 <;> by_cases hd : d = 0 <;> by_cases hz : z = 0 <;> simp [U4, hs, hd, hz]
  by_cases h2 : k = 2
  · subst h2
    by_cases hd : wI d 1 8 = true <;> by_cases hs : wI s 1 64 = true <;> simp [U4, hs, hd] <;> simp [wI] at hs hd <;> omega
  by_cases h3 : k = 3
  · subst h3
    by_cases hd : d = 0 <;> by_cases hs : wI s 2 8 = true <;> simp [U4, hs, hd] <;> simp [wI] at hs hd <;> omega
  by_cases h4 : k = 4 ∨ k = 5
  · have hk : (k == 4 || k == 5) = true := by simpa using h4
    by_cases hd : d = 0 <;> by_cases hz : z = 0 <;> by_cases hs : wI s 1 32 = true <;> rcases h4 with rfl | rfl <;> simp [U4, hs, hd, hz] <;> simp [wI] at hs hd <;> omega
  by_cases h6 : k = 6
  · subst h6
    by_cases hs : wI s 2 32 = true
    · have hs' : 2 ≤ s ∧ s ≤ 32 := by simpa [wI] using hs
      have ht : s.tmod 2 = s % 2 := Int.tmod_eq_emod_of_nonneg (by omega)
      by_cases hm : s % 2 = 0 <;> by_cases hd : d = 0 <;> by_cases hz : z = 0 <;> simp [U4, hs, hd, hz, ht, hm, hs']
    · have hs' : ¬ (2 ≤ s ∧ s ≤ 32) := by simpa [wI] using hs
      simp [U4, hs]; omega
  · have h4' : ¬ k = 4 ∧ ¬ k = 5 := by omega
    simp [U4, h1, h2, h3, h4'.1, h4'.2, h6]
theorem VF (p : Q6) : Zo p (U4 p.fo p.fg p.fq p.fu) := by
  unfold Zo Vz
  simp only [jn, AZ, exists_eq_left, JK, Jp]
  obtain ⟨k, s, d, z⟩ := p
  simp only
  by_cases h1 : k = 1
  · subst h1; by_cases hs : s = 0 <;> by_cases hd : d = 0 <;> by_cases hz : z = 0 <;> simp [U4, hs, hd, hz]
  by_cases h2 : k = 2
  · subst h2
    by_cases hd : wI d 1 8 = true <;> by_cases hs : wI s 1 64 = true <;> simp [U4, hs, hd] <;> simp [wI] at hs hd <;> omega
  by_cases h3 : k = 3
  · subst h3
    by_cases hd : d = 0 <;> by_cases hs : wI s 2 8 = true <;> simp [U4, hs, hd] <;> simp [wI] at hs hd <;> omega
  by_cases h4 : k = 4 ∨ k = 5
  · have hk : (k == 4 || k == 5) = true := by simpa using h4
    by_cases hd : d = 0 <;> by_cases hz : z = 0 <;> by_cases hs : wI s 1 32 = true <;> rcases h4 with rfl | rfl <;> simp [U4, hs, hd, hz] <;> simp [wI] at hs hd <;> omega
  by_cases h6 : k = 6
  · subst h6
    by_cases hs : wI s 2 32 = true
    · have hs' : 2 ≤ s ∧ s ≤ 32 := by simpa [wI] using hs
      have ht : s.tmod 2 = s % 2 := Int.tmod_eq_emod_of_nonneg (by omega)
      by_cases hm : s % 2 = 0 <;> by_cases hd : d = 0 <;> by_cases hz : z = 0 <;> simp [U4, hs, hd, hz, ht, hm, hs']
    · have hs' : ¬ (2 ≤ s ∧ s ≤ 32) := by simpa [wI] using hs
      simp [U4, hs]; omega
  · have h4' : ¬ k = 4 ∧ ¬ k = 5 := by omega
    simp [U4, h1, h2, h3, h4'.1, h4'.2, h6]
def Ay (k : Int) (key : ByteArray) (c n d : Int) : Int :=
  if ¬ (1 ≤ k ∧ k ≤ 7) then 8
  else if (k = 2 ∨ k = 6) ∧ ¬ (1 ≤ key.size ∧ key.size ≤ 32) then 7
  else if k = 5 ∧ ¬ (0 ≤ c ∧ c ≤ 32) then 5
  else if k = 7 ∧ ¬ (1 ≤ d ∧ d ≤ 1000000 ∧ 0 ≤ n ∧ n ≤ d) then 5
  else if (¬ (k = 2 ∨ k = 6) ∧ key.toList ≠ []) ∨ (k ≠ 5 ∧ c ≠ 0) ∨ (k ≠ 7 ∧ (n ≠ 0 ∨ d ≠ 0)) then 18 else 0
theorem Yi : (⟨#[]⟩ : ByteArray).toList = [] := by unfold ByteArray.toList; unfold ByteArray.toList.loop; simp [ByteArray.size]
theorem DL (q : Qu) : Vi q (Ay q.fo q.fa1 q.f0 q.fc0 q.fb9) := by
  unfold Vi W7
  simp only [jn, BL, JK, Jp, Yi]
  obtain ⟨k, s, c, n, d⟩ := q
  simp only
  by_cases hk : 1 ≤ k ∧ k ≤ 7
  · have h7 : k = 1 ∨ k = 2 ∨ k = 3 ∨ k = 4 ∨ k = 5 ∨ k = 6 ∨ k = 7 := by omega
    clear hk; unfold Ay
    generalize s.toList = l
    rcases h7 with rfl | rfl | rfl | rfl | rfl | rfl | rfl
    all_goals simp
    all_goals grind
  · have h1 : k < 1 ∨ k > 7 := by omega
    simp [Ay, hk, h1]
theorem Az (q : Qu) : Ke q (Ay q.fo q.fa1 q.f0 q.fc0 q.fb9) := by
  unfold Ke Xa
  simp only [jn, VE, AZ, exists_eq_left, JK, Jp, Yi]
  obtain ⟨k, s, c, n, d⟩ := q
  simp only
  by_cases hk : 1 ≤ k ∧ k ≤ 7
  · have h7 : k = 1 ∨ k = 2 ∨ k = 3 ∨ k = 4 ∨ k = 5 ∨ k = 6 ∨ k = 7 := by omega
    clear hk; unfold Ay
    generalize s.toList = l
    rcases h7 with rfl | rfl | rfl | rfl | rfl | rfl | rfl
    all_goals simp [wI]
    all_goals grind
  · have h1 : k < 1 ∨ k > 7 := by omega
    have h2 : wI k 1 7 = false := by simp [wI]; omega
    simp [Ay, hk, h1, h2]
theorem Fl (n : Nat) (hn : n ≤ 4611686018427387904) {B : (Int → Prop) → Int → Prop} {J : Prop} (I : Nat → Prop) (h0 : I 0)
    (hB : ∀ j, j < n → I j → ∀ X : Int → Prop, (I (j + 1) → X (IntKind.i64.wrap ((j : Int) + 1))) → B X (j : Int)) (hJ : I n → J) :
    lp (fun X s => (decide (s < (n : Int)) = true → B X s) ∧ (decide (s < (n : Int)) = false → J)) 0 := by
  refine Kl (I := fun k s => ∃ j : Nat, s = (j : Int) ∧ j ≤ n ∧ k = n - j ∧ I j) ?_ (k := n) ⟨0, rfl, by omega, by omega, h0⟩
  rintro k s ⟨j, rfl, hj, hk, hI⟩ X hX
  refine ⟨fun h => ?_, fun h => ?_⟩
  · have hj2 : (j : Int) < n := by simpa using h
    refine hB j (by omega) hI X fun hI2 => ?_
    rw [Zs (by omega)]
    exact hX (n - (j + 1)) _ (by omega) ⟨j + 1, by omega, by omega, rfl, hI2⟩
  · have hj2 : ¬ (j : Int) < n := by simpa using h
    have : j = n := by omega
    subst this; exact hJ hI
def B0 (s : ByteArray) (j : Nat) : Int := if h : j < s.size then (s[j].toNat : Int) else 0
theorem B2 {s : ByteArray} {j : Nat} (h : j < s.size) : bx s (j : Int) (B0 s j) := bx_of rfl h (by simp [B0, h])
def NS (c : Int) : Bool := wI c 97 122 || wI c 48 57 || c == 45 || c == 46
def D6 (s : ByteArray) : Bool := decide (1 ≤ s.size ∧ s.size ≤ 16) && wI (B0 s 0) 97 122 && (List.range s.size).all fun j => NS (B0 s j)
theorem LM {s : ByteArray} (h1 : 1 ≤ s.size ∧ s.size ≤ 16) (h2 : wI (B0 s 0) 97 122 = true) (h : ∀ i, i < s.size → NS (B0 s i) = true) : D6 s = true := by
  simp only [D6, h1, h2]; simpa using h
theorem LN {s : ByteArray} {i : Nat} (hi : i < s.size) (h : NS (B0 s i) = false) : D6 s = false := by
  have : ((List.range s.size).all fun j => NS (B0 s j)) = false := by
    rw [List.all_eq_false]; exact ⟨i, by simpa using hi, by simp [h]⟩
  simp [D6, this]
theorem Fo (s : ByteArray) : Xs s (D6 s) := by
  unfold Xs WY
  simp only [G0, G5, JK, Jp, jn, exists_eq_left]
  by_cases hz : 1 ≤ s.size ∧ s.size ≤ 16
  · have h1 : decide ((s.size : Int) < 1) = false := by simp; omega
    have h2 : decide ((s.size : Int) > 16) = false := by simp; omega
    rw [h1, h2]
    refine ⟨B0 s 0, fun _ => B2 (j := 0) (by omega), wI (B0 s 0) 97 122, fun _ => rfl, ?_, ?_⟩
    · intro h; simp at h; simp [D6, h]
    · intro h
      have h3 : wI (B0 s 0) 97 122 = true := by simpa using h
      refine Fl s.size (by omega) (fun j => ∀ i, i < j → NS (B0 s i) = true) (fun i hi => absurd hi (by omega)) ?_ ?_
      · intro j hj hI X hX
        refine ⟨B0 s j, B2 hj, wI (B0 s j) 48 57, fun _ => rfl, ?_, ?_⟩
        · intro hb; refine LN hj ?_; simp at hb; simp [NS, hb]
        · intro hb; refine hX fun i hi => ?_
          by_cases e : i = j
          · subst e; unfold NS; revert hb; cases wI (B0 s i) 97 122 <;> cases wI (B0 s i) 48 57 <;> simp <;> grind
          · exact hI i (by omega)
      · intro hI; exact LM hz h3 hI
  · refine ⟨0, ?_, false, ?_, ?_, ?_⟩
    · intro h; simp at h; omega
    · intro h; simp at h; omega
    · intro h; simp [D6, hz]
    · intro h; simp at h
theorem Uv (s : ByteArray) : JZ s (D6 s) := by
  unfold JZ Un
  simp only [Fj, JK, Jp, jn, exists_eq_left]
  by_cases hz : 1 ≤ s.size ∧ s.size ≤ 16
  · have h1 : decide ((s.size : Int) < 1) = false := by simp; omega
    have h2 : decide ((s.size : Int) > 16) = false := by simp; omega
    rw [h1, h2]
    refine ⟨B0 s 0, fun _ => B2 (j := 0) (by omega), wI (B0 s 0) 97 122, fun _ => rfl, ?_, ?_⟩
    · intro h; simp at h; simp [D6, h]
    · intro h
      have h3 : wI (B0 s 0) 97 122 = true := by simpa using h
      refine Fl s.size (by omega) (fun j => ∀ i, i < j → NS (B0 s i) = true) (fun i hi => absurd hi (by omega)) ?_ ?_
      · intro j hj hI X hX
        refine ⟨B0 s j, B2 hj, B0 s j, fun _ => B2 hj, wI (B0 s j) 48 57, fun _ => rfl, B0 s j, fun _ => B2 hj, B0 s j, fun _ => B2 hj, ?_, ?_⟩
        · intro hb; refine LN hj ?_; simp at hb; simp [NS, hb]
        · intro hb; refine hX fun i hi => ?_
          by_cases e : i = j
          · subst e; unfold NS; revert hb; cases wI (B0 s i) 97 122 <;> cases wI (B0 s i) 48 57 <;> simp <;> grind
          · exact hI i (by omega)
      · intro hI; exact LM hz h3 hI
  · refine ⟨0, ?_, false, ?_, ?_, ?_⟩
    · intro h; simp at h; omega
    · intro h; simp at h; omega
    · intro h; simp [D6, hz]
    · intro h; simp at h
theorem W9 (s : ByteArray) : Jx s (if D6 s = true then 0 else 6) := by
  refine ⟨D6 s, Fo s, ?_, ?_⟩ <;> intro h <;> simp at h <;> simp [h]
def Fq (x : Qi) : Int := if ¬ (1 ≤ x.fa1.size ∧ x.fa1.size ≤ 32) then 7 else if ¬ (1 ≤ x.fa7 ∧ x.fa7 ≤ 4294967295) then 5 else 0
theorem B4 (x : Qi) : Jb x (Fq x) := by
  unfold Jb Xt Fq
  simp only [BL, JK, Jp, exists_eq_left]
  by_cases h : 1 ≤ x.fa1.size ∧ x.fa1.size ≤ 32 <;> simp [h]; grind
theorem WG (x : Qi) : Z6 x (Fq x) := by
  unfold Z6 XM Fq
  simp only [VE, JK, Jp, exists_eq_left]
  by_cases h : 1 ≤ x.fa1.size ∧ x.fa1.size ≤ 32 <;> simp [h]; grind
def Bq {α : Type} (f : α → Int) : List α → Int
  | [] => 0
  | x :: r => if f x ≠ 0 then f x else Bq f r
theorem Fs {α : Type} {f : α → Int} {l : List α} (h : ∀ (j : Nat) x, l[j]? = some x → f x = 0) : Bq f l = 0 := by
  induction l with
  | nil => rfl
  | cons x r ih => simp [Bq, h 0 x rfl]; exact ih fun j x hx => h (j + 1) x (by simpa using hx)
theorem EF {α : Type} {f : α → Int} {l : List α} {j : Nat} {x : α} (hx : l[j]? = some x) (hn : f x ≠ 0) (h : ∀ i, i < j → ∀ y, l[i]? = some y → f y = 0) : Bq f l = f x := by
  induction l generalizing j with
  | nil => simp at hx
  | cons z r ih =>
    cases j with
    | zero => simp at hx; subst hx; simp [Bq, hn]
    | succ j =>
      simp [Bq, h 0 (by omega) z rfl]
      exact ih (by simpa using hx) fun i hi y hy => h (i + 1) (by omega) y (by simpa using hy)
theorem D7 {α : Type} {l : List α} (hl : l.length ≤ 4611686018427387904) {B : (Int → Prop) → Int → Prop} {J : Prop} {f : α → Int}
    (hB : ∀ (j : Nat) x, l[j]? = some x → (∀ i, i < j → ∀ y, l[i]? = some y → f y = 0) → ∀ X : Int → Prop, (f x = 0 → X (IntKind.i64.wrap ((j : Int) + 1))) → B X (j : Int)) (hJ : Bq f l = 0 → J) :
    lp (fun X s => (decide (s < (l.length : Int)) = true → B X s) ∧ (decide (s < (l.length : Int)) = false → J)) 0 := by
  refine Fl l.length hl (fun j => ∀ i, i < j → ∀ y, l[i]? = some y → f y = 0) (fun i hi => absurd hi (by omega)) ?_ ?_
  · intro j hj hI X hX
    obtain ⟨x, hx⟩ : ∃ x, l[j]? = some x := ⟨l[j], by simp [hj]⟩
    refine hB j x hx hI X fun h0 => hX fun i hi y hy => ?_
    by_cases e : i = j
    · subst e; rw [hx] at hy; cases hy; exact h0
    · exact hI i (by omega) y hy
  · intro hI
    refine hJ (Fs fun j x hx => hI j ?_ x hx)
    rw [List.getElem?_eq_some_iff] at hx; exact hx.1
def Cn (s : ByteArray) : Int := if D6 s = true then 0 else 6
def Hn (l : List ByteArray) : Int := if ¬ (1 ≤ l.length ∧ l.length ≤ 16) then 5 else Bq Cn l
def Ho (l : List Qi) : Int := if ¬ (1 ≤ l.length ∧ l.length ≤ 64) then 5 else Bq Fq l
theorem DN (l : List ByteArray) : Vg l (Hn l) := by
  unfold Vg W6
  simp only [XR, exists_eq_left, jn]
  by_cases hz : 1 ≤ l.length ∧ l.length ≤ 16
  · have e : ((1 : Int) ≤ l.length ∧ (l.length : Int) ≤ 16) := by omega
    rw [if_pos e]
    refine ⟨fun h => by simp at h, fun _ => ?_⟩
    refine D7 (f := Cn) (by omega) ?_ ?_
    · intro j x hx hb X hX
      refine ⟨x, V2 rfl hx, Cn x, W9 x, fun h => ?_, fun h => hX (by simpa using h)⟩
      have hn : Cn x ≠ 0 := by simpa using h
      simp only [Hn, hz, not_true, and_self, if_false]; exact EF hx hn hb
    · intro h; simp [Hn, hz, h]
  · have e : ¬ ((1 : Int) ≤ l.length ∧ (l.length : Int) ≤ 16) := by omega
    rw [if_neg e]
    exact ⟨fun _ => by simp [Hn, hz], fun h => by simp at h⟩
theorem D8 (l : List Qi) : JU l (Ho l) := by
  unfold JU YI
  simp only [XR, exists_eq_left, jn]
  by_cases hz : 1 ≤ l.length ∧ l.length ≤ 64
  · have e : ((1 : Int) ≤ l.length ∧ (l.length : Int) ≤ 64) := by omega
    rw [if_pos e]
    refine ⟨fun h => by simp at h, fun _ => ?_⟩
    refine D7 (f := Fq) (by omega) ?_ ?_
    · intro j x hx hb X hX
      refine ⟨x, V2 rfl hx, Fq x, B4 x, fun h => ?_, fun h => hX (by simpa using h)⟩
      have hn : Fq x ≠ 0 := by simpa using h
      simp only [Ho, hz, not_true, and_self, if_false]; exact EF hx hn hb
    · intro h; simp [Ho, hz, h]
  · have e : ¬ ((1 : Int) ≤ l.length ∧ (l.length : Int) ≤ 64) := by omega
    rw [if_neg e]
    exact ⟨fun _ => by simp [Ho, hz], fun h => by simp at h⟩
theorem KY (x : Int) (l : List Int) (hl : l.length ≤ 100) : ZS x l (l.contains x) := by
  unfold ZS Cl
  simp only [jn]
  refine D7 (f := fun y => if y = x then 1 else 0) (by omega) ?_ ?_
  · intro j y hy hb X hX
    refine ⟨y, V2 rfl hy, fun h => ?_, fun h => hX (by simp at h; simp [h])⟩
    simp at h; subst h; simp; exact List.mem_of_getElem? hy
  · intro h
    cases hc : l.contains x with
    | false => rfl
    | true =>
      exfalso
      have hm : x ∈ l := by simpa using hc
      obtain ⟨j, hj⟩ := List.getElem?_of_mem hm
      have : ∀ (l : List Int), x ∈ l → Bq (fun y => if y = x then 1 else 0) l ≠ 0 := by
        intro l; induction l with
        | nil => simp
        | cons a r ih => intro h; unfold Bq; by_cases e : a = x <;> simp [e]; have := ih (by simpa [Ne.symm e] using h); simpa using this
      exact this l hm h
def A7 (k : Int) : Ku := Ku.mk ([1, 2, 3, 5, 6, 7, 8, 16].contains k) ([3, 7, 8].contains k) ([9].contains k) ([1].contains k) ([6].contains k) ([6, 7, 8].contains k) ([8].contains k) ([10, 11, 12, 15].contains k) ([10, 12, 15].contains k) ([13, 14].contains k) ([13].contains k) ([5, 10].contains k) ([16].contains k)
theorem H8 (k : Int) : YH k (A7 k) := by
  unfold YH A4
  exact ⟨_, KY _ _ (by simp), _, KY _ _ (by simp), _, KY _ _ (by simp), _, KY _ _ (by simp), _, KY _ _ (by simp), _, KY _ _ (by simp), _, KY _ _ (by simp), _, KY _ _ (by simp), _, KY _ _ (by simp), _, KY _ _ (by simp), _, KY _ _ (by simp), _, KY _ _ (by simp), _, KY _ _ (by simp), rfl⟩
def DO (x : Qq) (a b : Bool) : Int := if a = true ∧ Hn x.fa2 ≠ 0 then Hn x.fa2 else if b = true then Ho x.f8 else 0
theorem BM (x : Qq) (a b : Bool) : Jq x a b (DO x a b) := by
  have part2 : ((b = true → ∃ v, Zp (x.f8.length : Int) 1 64 v ∧ ((!v) = true → Ho x.f8 = 5) ∧ ((!v) = false → Bq Fq x.f8 = Ho x.f8))) := by
    intro hb
    refine ⟨_, U3.2 rfl, ?_, ?_⟩ <;> intro h <;> simp [wI] at h <;> simp [Ho] <;> omega
  unfold Jq Up
  simp only [U3, exists_eq_left, jn]
  have rest : (a = true → Hn x.fa2 = 0) → (b = true →
          (((!wI (↑x.f8.length) 1 64) = true → DO x a b = 5) ∧
            ((!wI (↑x.f8.length) 1 64) = false → lp (fun X12 s12 => (decide (s12 < (x.f8.length : Int)) = true →
                      ∃ v15, ix x.f8 s12 v15 ∧ ∃ v16, Z6 v15 v16 ∧ ((v16 != 0) = true → DO x a b = v16) ∧ ((v16 != 0) = false → X12 (IntKind.i64.wrap (s12 + 1)))) ∧
                    (decide (s12 < (x.f8.length : Int)) = false → DO x a b = 0)) 0))) ∧ (b = false → DO x a b = 0) := by
    intro ha
    have e0 : DO x a b = if b = true then Ho x.f8 else 0 := by
      unfold DO; rw [if_neg (fun h => h.2 (ha h.1))]
    rw [e0]
    refine ⟨fun hb => ?_, fun hb => by simp [hb]⟩
    rw [if_pos hb]
    by_cases hz : 1 ≤ x.f8.length ∧ x.f8.length ≤ 64
    · have e : wI (x.f8.length : Int) 1 64 = true := by simp [wI]; omega
      refine ⟨fun h => by simp [e] at h, fun _ => ?_⟩
      refine D7 (f := Fq) (by omega) ?_ ?_
      · intro j y hy hbb X hX
        refine ⟨y, V2 rfl hy, Fq y, WG y, fun h => ?_, fun h => hX (by simpa using h)⟩
        have hn : Fq y ≠ 0 := by simpa using h
        simp only [Ho, hz, not_true, and_self, if_false]; exact EF hy hn hbb
      · intro h; simp [Ho, hz, h]
    · have e : wI (x.f8.length : Int) 1 64 = false := by simp [wI]; omega
      exact ⟨fun _ => by simp [Ho, hz], fun h => by simp [e] at h⟩
  refine ⟨fun ha => ?_, fun ha => rest (by simp [ha])⟩
  by_cases hz : 1 ≤ x.fa2.length ∧ x.fa2.length ≤ 16
  · have e : wI (x.fa2.length : Int) 1 16 = true := by simp [wI]; omega
    refine ⟨fun h => by simp [e] at h, fun _ => ?_⟩
    refine D7 (f := Cn) (by omega) ?_ ?_
    · intro j y hy hbb X hX
      refine ⟨y, V2 rfl hy, D6 y, Uv y, fun h => ?_, fun h => hX (by simp at h; simp [Cn, h])⟩
      have hn : Cn y = 6 := by simp at h; simp [Cn, h]
      have : Hn x.fa2 = 6 := by
        simp only [Hn, hz, not_true, and_self, if_false]; rw [EF hy (by simp [hn]) hbb, hn]
      simp [DO, ha, this]
    · intro h
      exact rest fun _ => by simp [Hn, hz, h]
  · have e : wI (x.fa2.length : Int) 1 16 = false := by simp [wI]; omega
    have : Hn x.fa2 = 5 := by simp [Hn, hz]
    exact ⟨fun _ => by simp [DO, ha, this], fun h => by simp [e] at h⟩
end Go.Proofs.YtpnpodbihdiegaaGreat
namespace Go.Proofs.YtpnpodbihdiegaaGreat
open Go.RowKit Go.ChangeShapes Go.WideShapes
theorem Nk (x : Int) (j : Nat) (hj : j ≤ 62) (m : Int) (hm : m = 2 ^ j - 1) : bits BinOp.and IntKind.i64 x m = x % 2 ^ j := by
  have hp : (2 : Nat) ^ j ≤ 2 ^ 62 := Nat.pow_le_pow_right (by omega) hj
  have hp1 : 1 ≤ (2 : Nat) ^ j := Nat.one_le_two_pow
  have e0 : (2 : Int) ^ j = ((2 ^ j : Nat) : Int) := by simp
  have e1 : m = ((2 ^ j - 1 : Nat) : Int) := by rw [hm, e0]; omega
  show IntKind.i64.wrap ((BitVec.ofInt 64 x &&& BitVec.ofInt 64 m).toNat : Int) = _
  rw [BitVec.toNat_and, e1, BitVec.ofInt_natCast, BitVec.toNat_ofNat, Nat.mod_eq_of_lt (a := 2 ^ j - 1) (by omega), Nat.and_two_pow_sub_one_eq_mod, BitVec.toNat_ofInt]
  have hd : ((2 ^ j : Nat) : Int) ∣ (2 ^ 64 : Nat) := by
    refine ⟨((2 ^ (64 - j) : Nat) : Int), ?_⟩
    rw [← Int.natCast_mul, ← Nat.pow_add, show j + (64 - j) = 64 from by omega]
  have h2 : ((x % ((2 ^ 64 : Nat) : Int)).toNat % 2 ^ j : Nat) = (x % (2 ^ j : Nat)).toNat := by
    have hx0 : 0 ≤ x % ((2 ^ 64 : Nat) : Int) := Int.emod_nonneg _ (by decide)
    have hx1 : 0 ≤ x % ((2 ^ j : Nat) : Int) := Int.emod_nonneg _ (by omega)
    apply Int.ofNat.inj
    show (((x % ((2 ^ 64 : Nat) : Int)).toNat % 2 ^ j : Nat) : Int) = (((x % (2 ^ j : Nat)).toNat : Nat) : Int)
    rw [Int.natCast_emod, Int.toNat_of_nonneg hx0, Int.toNat_of_nonneg hx1, Int.emod_emod_of_dvd _ hd]
  rw [h2, Int.toNat_of_nonneg (Int.emod_nonneg _ (by omega)), e0, IntKind.wrap_i64]
  have hb0 : 0 ≤ x % ((2 ^ j : Nat) : Int) := Int.emod_nonneg _ (by omega)
  have hb1 : x % ((2 ^ j : Nat) : Int) < ((2 ^ j : Nat) : Int) := Int.emod_lt_of_pos _ (by omega)
  omega
theorem bA (x : Int) (j : Nat) (hj : j ≤ 62) (m : Int) (hm : m = 2 ^ j - 1) : Zg .i64 x m = x % 2 ^ j := Nk x j hj m hm
theorem bA1 (x : Int) : Zg .i64 x 1 = x % 2 := bA x 1 (by decide) 1 (by decide)
theorem bA3 (x : Int) : Zg .i64 x 3 = x % 4 := bA x 2 (by decide) 3 (by decide)
theorem bA7 (x : Int) : Zg .i64 x 7 = x % 8 := bA x 3 (by decide) 7 (by decide)
theorem bA15 (x : Int) : Zg .i64 x 15 = x % 16 := bA x 4 (by decide) 15 (by decide)
theorem bA255 (x : Int) : Zg .i64 x 255 = x % 256 := bA x 8 (by decide) 255 (by decide)
theorem LO (x : Int) : Zg .i64 x 65535 = x % 65536 := bA x 16 (by decide) 65535 (by decide)
theorem Lb (x : Int) : Zg .i64 x 16777215 = x % 16777216 := bA x 24 (by decide) 16777215 (by decide)
theorem VN {a b : Int} (ha : 0 ≤ a) : a.tmod b = a % b := Int.tmod_eq_emod_of_nonneg ha
theorem V1 {α : Type} {l : List α} {n : Int} (h0 : 0 ≤ n) (h1 : n < l.length) : ∃ x, ix l n x ∧ l[n.toNat]? = some x := by
  have : n.toNat < l.length := by omega
  exact ⟨l[n.toNat], ⟨h0, by simp [this]⟩, by simp [this]⟩
theorem BN {n : Int} (h : 0 ≤ n ∧ n ≤ 18446744073709551615) : IntKind.u64.wrap n = n := by rw [IntKind.wrap_u64]; omega
theorem Ft (l : List Int) : (strOfNums l).size = l.length := by simp [strOfNums, ByteArray.size]
theorem shr8 (x : Int) : QT .i64 x 8 = x / 256 := by
  show x.fdiv (2 ^ 8) = x / 256
  rw [Int.fdiv_eq_ediv_of_nonneg x (by decide)]; rfl
theorem A8 (n : Nat) (hn : n ≤ 4611686018427387904) {B : (Int → Prop) → Int → Prop} {J : Prop} (hB : ∀ j : Nat, j < n → ∀ X : Int → Prop, X (IntKind.i64.wrap ((j : Int) + 1)) → B X (j : Int)) (hJ : J) :
    lp (fun X s => (decide (s < (n : Int)) = true → B X s) ∧ (decide (s < (n : Int)) = false → J)) 0 :=
  Fl n hn (fun _ => True) trivial (fun j hj _ X hX => hB j hj X (hX trivial)) (fun _ => hJ)
theorem ZX {α : Type} {l : List α} {j : Nat} (h : j < l.length) : ix l (j : Int) l[j] := ⟨by omega, by simp [h]⟩
theorem Ah (l : List Int) (hl : l.length ≤ 4611686018427387904) : KB l l true := by
  unfold KB Jg
  simp only [jn]
  refine ⟨fun h => by simp at h, fun _ => ?_⟩
  exact A8 l.length hl (fun j hj X hX => ⟨_, ZX hj, _, ZX hj, fun h => by simp at h, fun _ => hX⟩) trivial
theorem U5 (l : List Q1) (hl : l.length ≤ 4611686018427387904) : ZO l l true := by
  unfold ZO Kh
  simp only [jn]
  refine ⟨fun h => by simp at h, fun _ => ?_⟩
  exact A8 l.length hl (fun j hj X hX => ⟨_, ZX hj, _, ZX hj, fun h => by simp at h, fun _ => hX⟩) trivial
theorem DR (k : Qk) (hl : k.fw.length ≤ 4611686018427387904) (hs : ∀ x ∈ k.fw, x.length ≤ 4611686018427387904) : KO k k true := by
  unfold KO KN
  simp only [jn]
  refine ⟨fun h => by simp at h, fun _ => ?_⟩
  refine A8 k.fw.length hl (fun j hj X hX => ⟨_, ZX hj, _, ZX hj, fun h => by simp at h, fun _ => ?_⟩) trivial
  have hx := hs k.fw[j] (List.getElem_mem hj)
  refine Kl (I := fun n s => ∃ i : Nat, s = (i : Int) ∧ i ≤ k.fw[j].length ∧ n = k.fw[j].length - i) ?_ (k := k.fw[j].length) ⟨0, rfl, by omega, by omega⟩
  rintro n s ⟨i, rfl, hi, hn⟩ Y hY
  refine ⟨_, ZX hj, fun h => ?_, fun h => hX⟩
  have hi2 : i < k.fw[j].length := by simpa using h
  refine ⟨_, ZX hj, _, ZX hi2, _, ZX hj, _, ZX hi2, fun h => by simp at h, fun _ => ?_⟩
  rw [Zs (by omega)]
  exact hY (k.fw[j].length - (i + 1)) _ (by omega) ⟨i + 1, by simp, by omega, rfl⟩
def SmK (k : Qd) : Prop := k.fc.fa8.length ≤ 100000 ∧ k.fy.f3.length ≤ 100000 ∧ k.fa4.fh.length ≤ 100000 ∧ k.ff.fh.length ≤ 100000 ∧ k.fp.fw.length ≤ 100000 ∧ ∀ x ∈ k.fp.fw, x.length ≤ 100000
theorem D9 (k : Qd) (h : SmK k) : JR k k true := by
  obtain ⟨h1, h2, h3, h4, h5, h6⟩ := h
  unfold JR UU
  refine ⟨true, fun _ => ?_, true, fun _ => ?_, true, fun _ => ?_, true, fun _ => ?_, true, fun _ => DR _ (by omega) (fun x hx => by have := h6 x hx; omega), by simp⟩
  · exact ⟨true, fun _ => Ah _ (by omega), by simp⟩
  · exact ⟨true, fun _ => Ah _ (by omega), by simp⟩
  · exact ⟨true, fun _ => U5 _ (by omega), by simp⟩
  · exact ⟨true, fun _ => U5 _ (by omega), by simp⟩
def Wt (n lo hi : Int) : Int := if lo ≤ n ∧ n ≤ hi then 0 else 5
def Da (n m : Int) : Int := if n > m then 11 else 0
def Z4 (x : Qq) (f : Nat) : Int :=
  match f with
  | 0 => Cn x.fb7
  | 1 => Cn x.fj
  | 2 => Hn x.fa2
  | 3 => U4 x.fb.fo x.fb.fg x.fb.fq x.fb.fu
  | 4 => Ho x.f8
  | 5 => Da x.fb5.length 64
  | 6 => Wt x.fa3 1 1048576
  | 7 => Wt x.fb0 1 1048576
  | 8 => Wt x.fa5 0 3
  | 9 => Wt x.fb6 0 15
  | 10 => Wt x.fa6 0 3
  | 11 => Wt x.f0 0 32
  | 12 => Ay x.fv.fo x.fv.fa1 x.fv.f0 x.fv.fc0 x.fv.fb9
  | _ => Da x.fb4.length 65536
theorem KA (n lo hi : Int) : Z9 n lo hi (Wt n lo hi) := XR.2 rfl
theorem Uh (l : List Int) (m : Int) : Je l m (Da l.length m) := by
  unfold Je YJ Da
  by_cases h : (l.length : Int) > m <;> simp [h]
theorem Db (x : Qq) {f : Nat} (hf : f < 14) : JV x (f : Int) (Z4 x f) := by
  unfold JV YK
  rcases YL hf with rfl | rfl | rfl | rfl | rfl | rfl | rfl | rfl | rfl | rfl | rfl | rfl | rfl | rfl
  · simp; exact W9 x.fb7
  · simp; exact W9 x.fj
  · simp; exact DN x.fa2
  · simp; exact UJ x.fb
  · simp; exact D8 x.f8
  · simp; exact Uh x.fb5 64
  · simp; exact KA x.fa3 1 1048576
  · simp; exact KA x.fb0 1 1048576
  · simp; exact KA x.fa5 0 3
  · simp; exact KA x.fb6 0 15
  · simp; exact KA x.fa6 0 3
  · simp; exact KA x.f0 0 32
  · simp; exact DL x.fv
  · simp; exact Uh x.fb4 65536
theorem LP {α : Type} {f : α → Int} (h : ∀ x, 0 ≤ f x ∧ f x ≤ 18) (l : List α) : 0 ≤ Bq f l ∧ Bq f l ≤ 18 := by
  induction l with
  | nil => simp [Bq]
  | cons a r ih => (unfold Bq; split; exact h a; exact ih)
theorem Oy (x : Qq) (f : Nat) : 0 ≤ Z4 x f ∧ Z4 x f ≤ 18 := by
  have hn : ∀ s, 0 ≤ Cn s ∧ Cn s ≤ 18 := by intro s; unfold Cn; split <;> decide
  have hi : ∀ s, 0 ≤ Fq s ∧ Fq s ≤ 18 := by
      intro s; unfold Fq; repeat' split
      all_goals decide
  have hs : ∀ n m, 0 ≤ Da n m ∧ Da n m ≤ 18 := by intro n m; unfold Da; split <;> decide
  have hr : ∀ n a b, 0 ≤ Wt n a b ∧ Wt n a b ≤ 18 := by intro n a b; unfold Wt; split <;> decide
  have hl := LP hn
  have hl2 := LP hi
  unfold Z4
  split
  · exact hn _
  · exact hn _
  · unfold Hn; (split; decide; exact hl _)
  · unfold U4; repeat' split
    all_goals decide
  · unfold Ho; (split; decide; exact hl2 _)
  · exact hs _ _
  · exact hr _ _ _
  · exact hr _ _ _
  · exact hr _ _ _
  · exact hr _ _ _
  · exact hr _ _ _
  · exact hr _ _ _
  · unfold Ay; repeat' split
    all_goals decide
  · exact hs _ _
theorem PM {L : List Int} (h : ∀ e ∈ L, 0 ≤ e ∧ e ≤ 18) : 0 ≤ UN L ∧ UN L ≤ 18 := by
  induction L with
  | nil => simp [UN]
  | cons a r ih => (unfold UN; split; exact h a (by simp); exact ih fun e he => h e (by simp [he]))
def VG (x : Qq) : Int := FY (Ux x) (Z4 x)
theorem Oz (x : Qq) : 0 ≤ VG x ∧ VG x ≤ 18 := by
  have h : 0 ≤ UN (A5 (Ux x).kind (Z4 x)) ∧ UN (A5 (Ux x).kind (Z4 x)) ≤ 18 := by
    refine PM fun e he => ?_
    unfold A5 at he
    obtain ⟨f, _, rfl⟩ := List.mem_map.1 he
    (split; exact Oy _ _; decide)
  unfold VG FY
  split
  · decide
  · split
    · exact h
    · split <;> decide
theorem Wu (x : Qq) : Xu x (VG x) := by
  refine ⟨?_, Z4 x, fun f hf _ => Db x hf, rfl⟩
  have h := Oz x
  simp [Lit.wf, IntKind.min, IntKind.max, IntKind.signed, IntKind.bits]; omega
theorem Ml {k : Int} (hk : Kp k) : [ZZ k 0, ZZ k 1, ZZ k 2, ZZ k 3, ZZ k 4, ZZ k 5, ZZ k 6, ZZ k 7, ZZ k 8, ZZ k 9, ZZ k 10, ZZ k 11, ZZ k 12, ZZ k 13] = [(A7 k).fe0, (A7 k).fe1, (A7 k).fe2, (A7 k).fe3, (A7 k).fe4, (A7 k).fe5, (A7 k).fe6, (A7 k).fe6, (A7 k).fe7, (A7 k).fe8, (A7 k).fe9, (A7 k).fe10, (A7 k).fe11, (A7 k).fe12] := by
  rcases H6 hk with rfl | rfl | rfl | rfl | rfl | rfl | rfl | rfl | rfl | rfl | rfl | rfl | rfl | rfl | rfl | rfl | rfl <;> decide
theorem Nl {x : Qq} (h : ¬ Kp x.fo) : VG x = 8 := by unfold VG FY; rw [if_pos (by simpa [Ux] using h)]
theorem Nn {x : Qq} (hk : Kp x.fo) {b0 b1 b2 b3 b4 b5 b6 b7 b8 b9 b10 b11 b12 : Bool} (hu : A7 x.fo = Ku.mk b0 b1 b2 b3 b4 b5 b6 b7 b8 b9 b10 b11 b12) :
    VG x = if UN [if b0 = true then Z4 x 0 else 0, if b1 = true then Z4 x 1 else 0, if b2 = true then Z4 x 2 else 0, if b3 = true then Z4 x 3 else 0, if b4 = true then Z4 x 4 else 0, if b5 = true then Z4 x 5 else 0, if b6 = true then Z4 x 6 else 0, if b6 = true then Z4 x 7 else 0, if b7 = true then Z4 x 8 else 0, if b8 = true then Z4 x 9 else 0, if b9 = true then Z4 x 10 else 0, if b10 = true then Z4 x 11 else 0, if b11 = true then Z4 x 12 else 0, if b12 = true then Z4 x 13 else 0] ≠ 0 then UN [if b0 = true then Z4 x 0 else 0, if b1 = true then Z4 x 1 else 0, if b2 = true then Z4 x 2 else 0, if b3 = true then Z4 x 3 else 0, if b4 = true then Z4 x 4 else 0, if b5 = true then Z4 x 5 else 0, if b6 = true then Z4 x 6 else 0, if b6 = true then Z4 x 7 else 0, if b7 = true then Z4 x 8 else 0, if b8 = true then Z4 x 9 else 0, if b9 = true then Z4 x 10 else 0, if b10 = true then Z4 x 11 else 0, if b11 = true then Z4 x 12 else 0, if b12 = true then Z4 x 13 else 0]
      else if ((b0 || x.fb7.toList == []) && (b1 || x.fj.toList == []) && (b2 || decide (x.fa2.length = 0)) && (b3 || decide (x.fb.fo = 0 ∧ x.fb.fg = 0 ∧ x.fb.fq = 0 ∧ x.fb.fu = 0)) && (b4 || decide (x.f8.length = 0)) && (b5 || decide (x.fb5.length = 0)) && (b6 || decide (x.fa3 = 0)) && (b6 || decide (x.fb0 = 0)) && (b7 || decide (x.fa5 = 0)) && (b8 || decide (x.fb6 = 0)) && (b9 || decide (x.fa6 = 0)) && (b10 || decide (x.f0 = 0)) && (b11 || decide (x.fv.fo = 0 ∧ x.fv.fa1.toList = [] ∧ x.fv.f0 = 0 ∧ x.fv.fc0 = 0 ∧ x.fv.fb9 = 0)) && (b12 || decide (x.fb4.length = 0))) = true then 0 else 18 := by
  have h := Ml hk
  rw [hu] at h
  simp only [List.cons.injEq, and_true] at h
  obtain ⟨m0, m1, m2, m3, m4, m5, m6, m7, m8, m9, m10, m11, m12, m13⟩ := h
  have r14 : List.range 14 = [0, 1, 2, 3, 4, 5, 6, 7, 8, 9, 10, 11, 12, 13] := by decide
  have e : A5 x.fo (Z4 x) = [if b0 = true then Z4 x 0 else 0, if b1 = true then Z4 x 1 else 0, if b2 = true then Z4 x 2 else 0, if b3 = true then Z4 x 3 else 0, if b4 = true then Z4 x 4 else 0, if b5 = true then Z4 x 5 else 0, if b6 = true then Z4 x 6 else 0, if b6 = true then Z4 x 7 else 0, if b7 = true then Z4 x 8 else 0, if b8 = true then Z4 x 9 else 0, if b9 = true then Z4 x 10 else 0, if b10 = true then Z4 x 11 else 0, if b11 = true then Z4 x 12 else 0, if b12 = true then Z4 x 13 else 0] := by
    unfold A5; rw [r14]
    simp only [List.map_cons, List.map_nil, m0, m1, m2, m3, m4, m5, m6, m7, m8, m9, m10, m11, m12, m13]
  have z : ((List.range 14).all fun f => ZZ x.fo f || Cz (Ux x) f) = ((b0 || x.fb7.toList == []) && (b1 || x.fj.toList == []) && (b2 || decide (x.fa2.length = 0)) && (b3 || decide (x.fb.fo = 0 ∧ x.fb.fg = 0 ∧ x.fb.fq = 0 ∧ x.fb.fu = 0)) && (b4 || decide (x.f8.length = 0)) && (b5 || decide (x.fb5.length = 0)) && (b6 || decide (x.fa3 = 0)) && (b6 || decide (x.fb0 = 0)) && (b7 || decide (x.fa5 = 0)) && (b8 || decide (x.fb6 = 0)) && (b9 || decide (x.fa6 = 0)) && (b10 || decide (x.f0 = 0)) && (b11 || decide (x.fv.fo = 0 ∧ x.fv.fa1.toList = [] ∧ x.fv.f0 = 0 ∧ x.fv.fc0 = 0 ∧ x.fv.fb9 = 0)) && (b12 || decide (x.fb4.length = 0))) := by
    rw [r14]
    simp only [List.all_cons, List.all_nil, Bool.and_true, m0, m1, m2, m3, m4, m5, m6, m7, m8, m9, m10, m11, m12, m13, Bool.and_assoc]
    simp only [Cz, Ux, List.length_map]
    rfl
  unfold VG FY
  rw [if_neg (by simpa [Ux] using hk)]
  change (if UN (A5 x.fo (Z4 x)) ≠ 0 then UN (A5 x.fo (Z4 x)) else if (List.range 14).all (fun f => ZZ x.fo f || Cz (Ux x) f) = true then 0 else 18) = _
  rw [e, z]
theorem No (L : List Int) (t : Int) : UN (L ++ [t]) = if UN L ≠ 0 then UN L else t := by
  induction L with
  | nil => by_cases h : t = 0 <;> simp [UN, h]
  | cons a r ih =>
    by_cases h : a ≠ 0
    · simp [UN, h]
    · have h0 : a = 0 := by simpa using h
      simp only [List.cons_append, UN, h0, ne_eq, not_true, if_false]; exact ih
theorem Y6 {V a : Int} {r : List Int} (h : V = UN (a :: r)) (h0 : a = 0) : V = UN r := by rw [h, UN, if_neg (by simp [h0])]
theorem If {V a : Int} {r : List Int} (h : V = UN (a :: r)) (h0 : a ≠ 0) : V = a := by rw [h, UN, if_pos h0]
theorem Uw {V a b : Int} {r : List Int} (h : V = UN (a :: r)) (h0 : a = b) (hb : b ≠ 0) : V = b := by rw [If h (by rw [h0]; exact hb), h0]
def bz (b : Bool) (c : Int) : Int := if b = true then c else 0
theorem G6 {b : Bool} {c : Int} (h : b = true) : bz b c = c := by rw [bz, if_pos h]
theorem OA {b : Bool} {c : Int} (h : b = false) : bz b c = 0 := by rw [bz, if_neg (by simp [h])]
theorem Np {b w : Bool} {c : Int} (h : ¬ bz b (if w = true then 0 else c) = 0) : bz b (if w = true then 0 else c) = c := by cases b <;> cases w <;> simp_all [bz]
theorem OX {b0 b1 n0 n1 : Bool} {c : Int} (hc : c ≠ 0) (h : (b0 && !n0 || b1 && !n1) = true) (h0 : bz b0 (if n0 = true then 0 else c) = 0) : bz b1 (if n1 = true then 0 else c) = c := by
  cases b0 <;> cases b1 <;> cases n0 <;> cases n1 <;> simp_all [bz]
theorem OY {b w : Bool} {c : Int} (h : (b && !w) = false) : bz b (if w = true then 0 else c) = 0 := by cases b <;> cases w <;> simp_all [bz]
theorem d_or4 {b0 b1 b2 b3 n0 n1 n2 n3 : Bool} {c : Int} (hc : c ≠ 0) (h : (b0 && !n0 || b1 && !n1 || b2 && !n2 || b3 && !n3) = true) (h0 : bz b0 (if n0 = true then 0 else c) = 0) (h1 : bz b1 (if n1 = true then 0 else c) = 0) (h2 : bz b2 (if n2 = true then 0 else c) = 0) : bz b3 (if n3 = true then 0 else c) = c := by
  cases b0 <;> cases n0 <;> cases b1 <;> cases n1 <;> cases b2 <;> cases n2 <;> simp_all [bz]
def Nq (x : Qq) (u : Ku) : Int := if ((u.fe0 || x.fb7.toList == []) && (u.fe1 || x.fj.toList == []) && (u.fe2 || decide (x.fa2.length = 0)) && (u.fe3 || decide (x.fb.fo = 0 ∧ x.fb.fg = 0 ∧ x.fb.fq = 0 ∧ x.fb.fu = 0)) && (u.fe4 || decide (x.f8.length = 0)) && (u.fe5 || decide (x.fb5.length = 0)) && (u.fe6 || decide (x.fa3 = 0)) && (u.fe6 || decide (x.fb0 = 0)) && (u.fe7 || decide (x.fa5 = 0)) && (u.fe8 || decide (x.fb6 = 0)) && (u.fe9 || decide (x.fa6 = 0)) && (u.fe10 || decide (x.f0 = 0)) && (u.fe11 || decide (x.fv.fo = 0 ∧ x.fv.fa1.toList = [] ∧ x.fv.f0 = 0 ∧ x.fv.fc0 = 0 ∧ x.fv.fb9 = 0)) && (u.fe12 || decide (x.fb4.length = 0))) = true then 0 else 18
theorem OB {x : Qq} (hk : Kp x.fo) {b0 b1 b2 b3 b4 b5 b6 b7 b8 b9 b10 b11 b12 : Bool} (hu : A7 x.fo = Ku.mk b0 b1 b2 b3 b4 b5 b6 b7 b8 b9 b10 b11 b12) :
    VG x = UN [bz b0 (Z4 x 0), bz b1 (Z4 x 1), bz b2 (Z4 x 2), bz b3 (Z4 x 3), bz b4 (Z4 x 4), bz b5 (Z4 x 5), bz b6 (Z4 x 6), bz b6 (Z4 x 7), bz b7 (Z4 x 8), bz b8 (Z4 x 9), bz b9 (Z4 x 10), bz b10 (Z4 x 11), bz b11 (Z4 x 12), bz b12 (Z4 x 13), Nq x (Ku.mk b0 b1 b2 b3 b4 b5 b6 b7 b8 b9 b10 b11 b12)] :=
  (Nn hk hu).trans (No [bz b0 (Z4 x 0), bz b1 (Z4 x 1), bz b2 (Z4 x 2), bz b3 (Z4 x 3), bz b4 (Z4 x 4), bz b5 (Z4 x 5), bz b6 (Z4 x 6), bz b6 (Z4 x 7), bz b7 (Z4 x 8), bz b8 (Z4 x 9), bz b9 (Z4 x 10), bz b10 (Z4 x 11), bz b11 (Z4 x 12), bz b12 (Z4 x 13)] _).symm
theorem UK (x : Qq) : Vf x (VG x) := by
  unfold Vf W4
  simp only [U3, exists_eq_left, jn, JK, Jp]
  by_cases hk : Kp x.fo
  case neg =>
    have hw : wI x.fo 1 17 = false := by simpa [wI, Kp] using hk
    rw [hw]
    exact ⟨fun _ => Nl hk, fun h => by simp at h⟩
  have hw : wI x.fo 1 17 = true := by simpa [wI, Kp] using hk
  refine ⟨fun h => by simp [hw] at h, fun _ => ?_⟩
  refine ⟨A7 x.fo, H8 _, D6 x.fb7, fun _ => Uv _, D6 x.fj, fun _ => Uv _, ?_⟩
  rcases hU : A7 x.fo with ⟨b0, b1, b2, b3, b4, b5, b6, b7, b8, b9, b10, b11, b12⟩
  have hv := OB hk hU
  generalize VG x = V at hv ⊢
  simp only
  have l1 : Jq x b2 false (bz b2 (Z4 x 2)) := by
    have := BM x b2 false
    have e : DO x b2 false = bz b2 (Z4 x 2) := by unfold DO bz; show _ = if b2 = true then Hn x.fa2 else 0; grind
    rwa [e] at this
  have l2 : Jq x false b4 (bz b4 (Z4 x 4)) := by
    have := BM x false b4
    have e : DO x false b4 = bz b4 (Z4 x 4) := by unfold DO bz; show _ = if b4 = true then Ho x.f8 else 0; grind
    rwa [e] at this
  have p3 := VF x.fb
  have p12 := Az x.fv
  change Zo x.fb (Z4 x 3) at p3
  change Ke x.fv (Z4 x 12) at p12
  refine ⟨fun h => ?_, fun h => ?_⟩
  · by_cases h0 : bz b0 (Z4 x 0) = 0
    · exact Uw (Y6 hv h0) (OX (c := 6) (by decide) h h0) (by decide)
    · exact Uw hv (Np (c := 6) h0) (by decide)
  have hh := Bool.or_eq_false_iff.1 h
  have z0 : bz b0 (Z4 x 0) = 0 := OY (c := 6) hh.1
  have z1 : bz b1 (Z4 x 1) = 0 := OY (c := 6) hh.2
  replace hv := Y6 (Y6 hv z0) z1
  clear h hh z0 z1
  refine ⟨_, l1, fun h => If hv (by simpa using h), fun h => ?_⟩
  replace hv := Y6 hv (by simpa using h)
  clear h l1
  suffices rest : V = UN [bz b4 (Z4 x 4), bz b5 (Z4 x 5), bz b6 (Z4 x 6), bz b6 (Z4 x 7), bz b7 (Z4 x 8), bz b8 (Z4 x 9), bz b9 (Z4 x 10), bz b10 (Z4 x 11), bz b11 (Z4 x 12), bz b12 (Z4 x 13), Nq x (Ku.mk b0 b1 b2 b3 b4 b5 b6 b7 b8 b9 b10 b11 b12)] → _ by
    refine ⟨fun hb => ⟨_, p3, fun h => ?_, fun h => rest (Y6 hv ?_)⟩, fun hb => rest (Y6 hv (OA hb))⟩
    · rw [If hv (by rw [G6 hb]; simpa using h), G6 hb]
    · rw [G6 hb]; simpa using h
  clear hv p3
  intro hv
  refine ⟨_, l2, fun h => If hv (by simpa using h), fun h => ?_⟩
  replace hv := Y6 hv (by simpa using h)
  clear h l2
  have e5 : Z4 x 5 = if (x.fb5.length : Int) > 64 then 11 else 0 := rfl
  refine ⟨fun h => ?_, fun h => ?_⟩
  · have h := Bool.and_eq_true_iff.1 h
    exact Uw hv (by rw [G6 h.1, e5, if_pos (by simpa using h.2)]) (by decide)
  have z5 : bz b5 (Z4 x 5) = 0 := by
    cases b5
    · exact OA rfl
    · rw [G6 rfl, e5, if_neg (by simpa using h)]
  replace hv := Y6 hv z5
  clear h z5 e5
  have er : ∀ n lo hi, Wt n lo hi = if wI n lo hi = true then 0 else 5 := by intro n lo hi; unfold Wt wI; simp
  have e6 : Z4 x 6 = if wI x.fa3 1 1048576 = true then 0 else 5 := er _ _ _
  have e7 : Z4 x 7 = if wI x.fb0 1 1048576 = true then 0 else 5 := er _ _ _
  have e8 : Z4 x 8 = if wI x.fa5 0 3 = true then 0 else 5 := er _ _ _
  have e9 : Z4 x 9 = if wI x.fb6 0 15 = true then 0 else 5 := er _ _ _
  have e10 : Z4 x 10 = if wI x.fa6 0 3 = true then 0 else 5 := er _ _ _
  have e11 : Z4 x 11 = if wI x.f0 0 32 = true then 0 else 5 := er _ _ _
  clear er
  rw [e6, e7, e8, e9, e10, e11] at hv
  clear e6 e7 e8 e9 e10 e11
  generalize wI x.fa3 1 1048576 = w6 at *
  generalize wI x.fb0 1 1048576 = w7 at *
  generalize wI x.fa5 0 3 = w8 at *
  generalize wI x.fb6 0 15 = w9 at *
  generalize wI x.fa6 0 3 = w10 at *
  generalize wI x.f0 0 32 = w11 at *
  refine ⟨w6, fun _ => rfl, w7, fun _ => rfl, fun h => ?_, fun h => ?_⟩
  · have h' : (b6 && !w6 || b6 && !w7) = true := by rw [← Bool.and_or_distrib_left]; exact h
    by_cases h0 : bz b6 (if w6 = true then 0 else 5) = 0
    · exact Uw (Y6 hv h0) (OX (by decide) h' h0) (by decide)
    · exact Uw hv (Np h0) (by decide)
  have hh : (b6 && !w6) = false ∧ (b6 && !w7) = false := by rw [← Bool.or_eq_false_iff, ← Bool.and_or_distrib_left]; exact h
  replace hv := Y6 (Y6 hv (OY hh.1)) (OY hh.2)
  clear h hh
  refine ⟨w8, fun _ => rfl, w9, fun _ => rfl, w10, fun _ => rfl, w11, fun _ => rfl, fun h => ?_, fun h => ?_⟩
  · by_cases h0 : bz b7 (if w8 = true then 0 else 5) = 0
    · replace hv := Y6 hv h0
      by_cases h1 : bz b8 (if w9 = true then 0 else 5) = 0
      · replace hv := Y6 hv h1
        by_cases h2 : bz b9 (if w10 = true then 0 else 5) = 0
        · exact Uw (Y6 hv h2) (d_or4 (by decide) h h0 h1 h2) (by decide)
        · exact Uw hv (Np h2) (by decide)
      · exact Uw hv (Np h1) (by decide)
    · exact Uw hv (Np h0) (by decide)
  have k1 := Bool.or_eq_false_iff.1 h
  have k2 := Bool.or_eq_false_iff.1 k1.1
  have k3 := Bool.or_eq_false_iff.1 k2.1
  replace hv := Y6 (Y6 (Y6 (Y6 hv (OY k3.1)) (OY k3.2)) (OY k2.2)) (OY k1.2)
  clear h k1 k2 k3
  suffices rest : V = UN [bz b12 (Z4 x 13), Nq x (Ku.mk b0 b1 b2 b3 b4 b5 b6 b7 b8 b9 b10 b11 b12)] → _ by
    refine ⟨fun hb => ⟨_, p12, fun h => ?_, fun h => rest (Y6 hv ?_)⟩, fun hb => rest (Y6 hv (OA hb))⟩
    · rw [If hv (by rw [G6 hb]; simpa using h), G6 hb]
    · rw [G6 hb]; simpa using h
  clear hv p12
  intro hv
  have e13 : Z4 x 13 = if (x.fb4.length : Int) > 65536 then 11 else 0 := rfl
  refine ⟨fun h => ?_, fun h => ?_⟩
  · have h := Bool.and_eq_true_iff.1 h
    exact Uw hv (by rw [G6 h.1, e13, if_pos (by simpa using h.2)]) (by decide)
  have z13 : bz b12 (Z4 x 13) = 0 := by
    cases b12
    · exact OA rfl
    · rw [G6 rfl, e13, if_neg (by simpa using h)]
  replace hv := Y6 hv z13
  clear h z13 e13
  have hv2 : V = Nq x (Ku.mk b0 b1 b2 b3 b4 b5 b6 b7 b8 b9 b10 b11 b12) := by
    rw [hv]; unfold UN; split <;> simp_all [UN]
  subst hv2
  unfold Nq
  simp only
  have n0 : (ByteArray.empty).toList = [] := Yi
  have lg : ∀ n : Nat, decide ((n : Int) > 0) = !decide (n = 0) := by
    intro n; by_cases h : n = 0
    · subst h; rfl
    · have : (n : Int) > 0 := by omega
      simp [h]; omega
  have ne : ∀ n : Int, (n != 0) = !decide (n = 0) := fun n => rfl
  have ee : ∀ n : Int, (n == 0) = decide (n = 0) := fun n => rfl
  have el : ∀ s : ByteArray, (s.toList == []) = decide (s.toList = []) := by intro s; by_cases h : s.toList = [] <;> simp [h]
  simp only [Yi, n0, lg, ne, ee, el, Bool.and_true, ← Bool.decide_and]
  have pp : decide (x.fa3 = 0) = decide (x.fa3 = 0) := rfl
  generalize decide (x.fa3 = 0) = a6
  generalize decide (x.fb0 = 0) = a7
  generalize decide (x.fb7.toList = []) = a0
  generalize decide (x.fj.toList = []) = a1
  generalize decide (x.fa2.length = 0) = a2
  generalize decide (x.f8.length = 0) = a4
  generalize decide (x.fb5.length = 0) = a5
  generalize decide (x.fa5 = 0) = a8
  generalize decide (x.fb6 = 0) = a9
  generalize decide (x.fa6 = 0) = a10
  generalize decide (x.f0 = 0) = a11
  generalize decide (x.fb4.length = 0) = a13
  generalize decide (x.fb.fo = 0 ∧ x.fb.fg = 0 ∧ x.fb.fq = 0 ∧ x.fb.fu = 0) = a3
  generalize decide (x.fv.fo = 0 ∧ x.fv.fa1.toList = [] ∧ x.fv.f0 = 0 ∧ x.fv.fc0 = 0 ∧ x.fv.fb9 = 0) = a12
  have key : ((((((((((((!b0 && !a0 || !b1 && !a1) || !b2 && !a2) || !b3 && !a3) || !b4 && !a4) || !b5 && !a5) || !b6 && (!a6 || !a7)) || !b7 && !a8) || !b8 && !a9) || !b9 && !a10) || !b10 && !a11) || !b11 && !a12) || !b12 && !a13) = !((b0 || a0) && (b1 || a1) && (b2 || a2) && (b3 || a3) && (b4 || a4) && (b5 || a5) && (b6 || a6) && (b6 || a7) && (b7 || a8) && (b8 || a9) && (b9 || a10) && (b10 || a11) && (b11 || a12) && (b12 || a13)) := by
    cases b6 <;> simp [Bool.not_and, Bool.not_or, Bool.or_assoc]
  refine ⟨fun h => if_neg fun h2 => ?_, fun h => if_pos ?_⟩
  · rw [key, h2] at h; cases h
  · rw [key, Bool.not_eq_false'] at h; exact h
theorem Lc (l : List ByteArray) (h : l.length ≤ 1000000) : Zh l l := ⟨fun e => e, by simp only [List.length_nil]; omega, rfl⟩
theorem PN (l : List (List ByteArray)) (h : l.length ≤ 1000000) : K2 l l := ⟨fun e => e, by simp only [List.length_nil]; omega, rfl⟩
theorem PO (l : List Qi) (h : l.length ≤ 1000000) : ZI l l := ⟨fun e => e, by simp only [List.length_nil]; omega, rfl⟩
theorem Ld (l : List Int) (h : l.length ≤ 1000000) : ZD l l := ⟨fun e => e, by simp only [List.length_nil]; omega, rfl⟩
theorem Nr (l : List Int) (h : l.length ≤ 1000000) : K1 l l := ⟨fun e => e, by simp only [List.length_nil]; omega, rfl⟩
theorem OZ (l : List Q1) (h : l.length ≤ 1000000) : Zj l l := ⟨fun e => e, by simp only [List.length_nil]; omega, rfl⟩
theorem PP (l : List Qx) (h : l.length ≤ 1000000) : Zk l l := ⟨fun e => e, by simp only [List.length_nil]; omega, rfl⟩
theorem q_cur (l : List QG) (h : l.length ≤ 1000000) : Zv l l := ⟨fun e => e, by simp only [List.length_nil]; omega, rfl⟩
def OC (o : Qq) : Prop := o.fa2.length ≤ 1000000 ∧ o.f8.length ≤ 1000000 ∧ o.fb5.length ≤ 1000000 ∧ o.fb4.length ≤ 1000000
theorem Fu (o : Qq) (h : OC o) : Jl o o :=
  ⟨_, Lc _ h.1, _, PO _ h.2.1, _, Ld _ h.2.2.1, _, Ld _ h.2.2.2, rfl⟩
theorem Ig {α : Type} {l : List α} {i : Nat} (h : i < l.length) : List.set l (Int.toNat (i : Int)) l[i] = l := by
  rw [Int.toNat_natCast]; exact List.set_getElem_self h
theorem B5 (k : Qd) (h : SmK k) : ZL k k := by
  obtain ⟨h1, h2, h3, h4, h5, h6⟩ := h
  unfold ZL Vl
  simp only [jn]
  refine ⟨_, Nr _ (by omega), _, Nr _ (by omega), _, OZ _ (by omega), _, OZ _ (by omega), _, PN _ (by omega), ?_⟩
  refine Kl (I := fun n t => ∃ i : Nat, i ≤ k.fp.fw.length ∧ n = k.fp.fw.length - i ∧ t = (k.fp.fw, (i : Int), k.fc.fa8, k.fy.f3, k.fa4.fh, k.ff.fh)) ?_ (k := k.fp.fw.length) ⟨0, by omega, rfl, rfl⟩
  rintro n t ⟨i, hi, hn, rfl⟩ X hX
  refine ⟨fun c => ?_, fun c => rfl⟩
  have hi2 : i < k.fp.fw.length := by simpa using c
  have hx := h6 k.fp.fw[i] (List.getElem_mem hi2)
  refine ⟨_, ZX hi2, _, Lc _ (by omega), _, ZX hi2, ?_⟩
  refine hX (k.fp.fw.length - (i + 1)) _ (by omega) ⟨i + 1, by omega, rfl, ?_⟩
  simp only
  rw [Ig hi2, Zs (by omega)]; rfl
def P0 (m : Qy) : Prop := m.fc1.length ≤ 1000000 ∧ m.fb4.length ≤ 1000000 ∧ SmK m.fi ∧ SmK m.fj
theorem Et (m : Qy) (h : P0 m) : J0 m m :=
  ⟨_, Nr _ h.1, _, Ld _ h.2.1, _, B5 _ h.2.2.1, _, B5 _ h.2.2.2, rfl⟩
def Mm (s : Q5) : Prop := OC s.fOp ∧ P0 s.fk ∧ s.f5.length ≤ 1000000 ∧ s.fa0.length ≤ 1000000 ∧ ∀ x ∈ s.f5, x.fa2.length ≤ 1000000
theorem Fv (l : List Q5) (hl : l.length ≤ 1000000) (hs : ∀ s ∈ l, Mm s) : Jf l l := by
  unfold Jf YO
  simp only [jn]
  refine Kl (I := fun k s => ∃ j : Nat, j ≤ l.length ∧ k = l.length - j ∧ s = (l.take j, (j : Int))) ?_ (k := l.length) ⟨0, by omega, rfl, rfl⟩
  rintro k s ⟨j, hj, hk, rfl⟩ X hX
  refine ⟨fun c => ?_, fun c => ?_⟩
  · have hj2 : j < l.length := by simpa using c
    obtain ⟨s, hs1⟩ : ∃ s, l[j] = s := ⟨_, rfl⟩
    have hix : ix l (j : Int) s := hs1 ▸ ZX hj2
    obtain ⟨b1, b2, b3, b4, b5⟩ := hs s (hs1 ▸ List.getElem_mem hj2)
    refine ⟨s, hix, _, Fu _ b1, _, Et _ b2, _, PP _ b3, _, q_cur _ b4, ?_⟩
    refine Kl (I := fun n t => ∃ i : Nat, i ≤ s.f5.length ∧ n = s.f5.length - i ∧ t = (l.take j, s.f5, (i : Int), s.fOp.fa2, s.fOp.f8, s.fOp.fb5, s.fOp.fb4, s.fk.fc1, s.fk.fi.fc.fa8, s.fk.fi.fy.f3, s.fk.fi.fa4.fh, s.fk.fi.ff.fh, s.fk.fi.fp.fw, s.fk.fj.fc.fa8, s.fk.fj.fy.f3, s.fk.fj.fa4.fh, s.fk.fj.ff.fh, s.fk.fj.fp.fw, s.fk.fb4, s.fa0)) ?_ (k := s.f5.length) ⟨0, by omega, rfl, rfl⟩
    rintro n t ⟨i, hi, hn, rfl⟩ Y hY
    refine ⟨fun c2 => ?_, fun c2 => ⟨?_, ?_⟩⟩
    · have hi2 : i < s.f5.length := by simpa using c2
      have hx := b5 s.f5[i] (List.getElem_mem hi2)
      refine ⟨_, ZX hi2, _, Lc _ hx, _, ZX hi2, ?_⟩
      refine hY (s.f5.length - (i + 1)) _ (by omega) ⟨i + 1, by omega, rfl, ?_⟩
      have e := Ig hi2
      have e2 : List.set s.f5 (Int.toNat (i : Int)) ⟨s.f5[i].fc5, s.f5[i].fb8, s.f5[i].fa2⟩ = s.f5 := e
      simp only
      rw [e2, Zs (by omega)]; rfl
    · simp only [List.length_take, List.length_cons, List.length_nil]; omega
    · refine hX (l.length - (j + 1)) _ (by omega) ⟨j + 1, by omega, rfl, ?_⟩
      rw [Zs (by omega), List.take_succ_eq_append_getElem hj2, hs1]; rfl
  · have hj2 : j = l.length := by simp at c; omega
    subst hj2
    simp
theorem H9 (x : Qq) (h1 : x.fa2.length ≤ 4611686018427387904) (h2 : x.f8.length ≤ 4611686018427387904) : YP x x true := by
  unfold YP A6
  simp only [jn]
  refine ⟨fun c => by simp at c, fun _ => ?_⟩
  exact A8 x.fa2.length h1 (fun j hj X hX => ⟨_, ZX hj, _, ZX hj, fun h => by simp at h, fun _ => hX⟩)
    (A8 x.f8.length h2 (fun j hj X hX => ⟨_, ZX hj, _, ZX hj, fun h => by simp at h, fun _ => hX⟩) trivial)
theorem Br (m : Qy) (h : P0 m) : Jo m m true := by
  have h1 := h.1
  unfold Jo XQ
  simp only [jn]
  refine ⟨fun c => by simp at c, fun _ => ?_⟩
  exact A8 m.fc1.length (by omega) (fun j hj X hX => ⟨_, ZX hj, _, ZX hj, fun h => by simp at h, fun _ => hX⟩)
    ⟨true, fun _ => D9 _ h.2.2.1, true, fun _ => D9 _ h.2.2.2, by simp⟩
theorem Bs (l : List QG) (h : l.length ≤ 1000000) : Jn l l true := by
  unfold Jn XP
  simp only [jn]
  refine ⟨fun c => by simp at c, fun _ => ?_⟩
  exact A8 l.length (by omega) (fun j hj X hX => ⟨_, ZX hj, _, ZX hj, fun h => by simp at h, fun _ => hX⟩) trivial
theorem AA (l : List Qx) (h : l.length ≤ 1000000) (hs : ∀ x ∈ l, x.fa2.length ≤ 1000000) : KL l l true := by
  unfold KL Xc
  simp only [jn]
  refine ⟨fun c => by simp at c, fun _ => ?_⟩
  refine A8 l.length (by omega) (fun j hj X hX => ⟨_, ZX hj, _, ZX hj, _, fun _ => ZX hj, _, fun _ => ZX hj, _, fun _ => ZX hj, _, fun _ => ZX hj, fun h => by simp at h, fun _ => ?_⟩) trivial
  have hx := hs l[j] (List.getElem_mem hj)
  refine Kl (I := fun n s => ∃ i : Nat, s = (i : Int) ∧ i ≤ l[j].fa2.length ∧ n = l[j].fa2.length - i) ?_ (k := l[j].fa2.length) ⟨0, rfl, by omega, by omega⟩
  rintro n s ⟨i, rfl, hi, hn⟩ Y hY
  refine ⟨_, ZX hj, fun h => ?_, fun h => hX⟩
  have hi2 : i < l[j].fa2.length := by simpa using h
  refine ⟨_, ZX hj, _, ZX hi2, _, ZX hj, _, ZX hi2, fun h => by simp at h, fun _ => ?_⟩
  rw [Zs (by omega)]
  exact hY (l[j].fa2.length - (i + 1)) _ (by omega) ⟨i + 1, by simp, by omega, rfl⟩
theorem B6 (l : List Q5) (h : l.length ≤ 1000000) (hs : ∀ s ∈ l, Mm s) : Jc l l true := by
  unfold Jc Xv
  simp only [jn]
  refine ⟨fun c => by simp at c, fun _ => ?_⟩
  refine A8 l.length (by omega) (fun j hj X hX => ?_) trivial
  obtain ⟨b1, b2, b3, b4, b5⟩ := hs l[j] (List.getElem_mem hj)
  have c1 := b1.1; have c2 := b1.2.1
  exact ⟨_, ZX hj, _, ZX hj, _, fun _ => ZX hj, _, fun _ => ZX hj, _, fun _ => ZX hj, _, fun _ => ZX hj, true, fun _ => H9 _ (by omega) (by omega), _, fun _ => ZX hj, _, fun _ => ZX hj, true, fun _ => Br _ b2, _, fun _ => ZX hj, _, fun _ => ZX hj, true, fun _ => AA _ b3 b5, _, fun _ => ZX hj, _, fun _ => ZX hj, true, fun _ => Bs _ b4, fun h => by simp at h, fun _ => hX⟩
def zM : Qy := (Qy.mk (0) (0) (false) ([] : (List Int)) (0) (Qd.mk (Q6.mk (0) (0) (0) (0)) (Qo.mk (0) (0) (false)) (Qb.mk (0) (0) (0) ([] : (List Int)) (false)) (Qj.mk (0) (0) ([] : (List Int))) (Qt.mk (0) (0) ([] : (List Q1)) (false)) (Qe.mk (0) (0) (0) ([] : (List Q1)) (false)) (Qk.mk (0) (0) (0) ([] : (List (List ByteArray))) (false))) (Qd.mk (Q6.mk (0) (0) (0) (0)) (Qo.mk (0) (0) (false)) (Qb.mk (0) (0) (0) ([] : (List Int)) (false)) (Qj.mk (0) (0) ([] : (List Int))) (Qt.mk (0) (0) ([] : (List Q1)) (false)) (Qe.mk (0) (0) (0) ([] : (List Q1)) (false)) (Qk.mk (0) (0) (0) ([] : (List (List ByteArray))) (false))) (0) (0) (0) (0) (Z7.mk (0) (0)) ([] : (List Int)) (false))
def zO : Qq := (Qq.mk (0) (ByteArray.empty) (ByteArray.empty) ([] : (List ByteArray)) (Q6.mk (0) (0) (0) (0)) ([] : (List Qi)) ([] : (List Int)) (0) (0) (0) (0) (0) (0) (Qu.mk (0) (ByteArray.empty) (0) (0) (0)) ([] : (List Int)))
def NT : Qq := (Qq.mk (4) (ByteArray.empty) (ByteArray.empty) ([] : (List ByteArray)) (Q6.mk (0) (0) (0) (0)) ([] : (List Qi)) ([] : (List Int)) (0) (0) (0) (0) (0) (0) (Qu.mk (0) (ByteArray.empty) (0) (0) (0)) ([] : (List Int)))
def snp4 : List Qx := List.replicate (Int.toNat (4)) (Qx.mk (false) (0) ([] : (List ByteArray)))
def cur4 : List QG := List.replicate (Int.toNat (4)) (QG.mk (false) (0) (ByteArray.empty) (0))
def s0 : Q5 := ⟨false, zO, zM, 0, snp4, cur4⟩
def s1 : Q5 := ⟨true, NT, zM, 7, snp4, cur4⟩
theorem Ns : Mm s0 := by
  refine ⟨⟨by decide, by decide, by decide, by decide⟩, ⟨by decide, by decide, ⟨by decide, by decide, by decide, by decide, by decide, fun x hx => by cases hx⟩, by decide, by decide, by decide, by decide, by decide, fun x hx => by cases hx⟩, by decide, by decide, fun x hx => ?_⟩
  have : x = Qx.mk (false) (0) ([] : (List ByteArray)) := List.eq_of_mem_replicate hx
  rw [this]; decide
theorem sm_s1 : Mm s1 := by
  refine ⟨⟨by decide, by decide, by decide, by decide⟩, ⟨by decide, by decide, ⟨by decide, by decide, by decide, by decide, by decide, fun x hx => by cases hx⟩, by decide, by decide, by decide, by decide, by decide, fun x hx => by cases hx⟩, by decide, by decide, fun x hx => ?_⟩
  have : x = Qx.mk (false) (0) ([] : (List ByteArray)) := List.eq_of_mem_replicate hx
  rw [this]; decide
def PQ (n : Int) : List Q5 × Int := if n < 1 ∨ n > 64 then ([], 5) else (List.replicate n.toNat s0, 0)
theorem Fw (n : Int) : Vn n (PQ n) := by
  unfold Vn U2
  simp only [jn, Jp]
  refine ⟨fun c => ?_, fun c => ?_⟩
  · have h : n < 1 ∨ n > 64 := by simpa using c
    unfold PQ; rw [if_pos h]
  have h : ¬ (n < 1 ∨ n > 64) := by simp at c; omega
  unfold PQ; rw [if_neg h]
  refine Kl (I := fun k s => ∃ j : Nat, (j : Int) ≤ n ∧ k = (n - j).toNat ∧ s = (List.replicate j s0, (j : Int))) ?_ (k := n.toNat) ⟨0, by omega, by simp, rfl⟩
  rintro k s ⟨j, hj, hk, rfl⟩ X hX
  refine ⟨fun c => ?_, fun c => ?_⟩
  · have hj2 : (j : Int) < n := by simpa using c
    refine ⟨by omega, by omega, by simp only [List.length_replicate, List.length_cons, List.length_nil]; omega, ?_⟩
    refine hX (n - ((j + 1 : Nat) : Int)).toNat _ (by omega) ⟨j + 1, by omega, rfl, ?_⟩
    rw [Zs (by omega), List.replicate_succ']; rfl
  · have hj2 : (j : Int) = n := by simp at c; omega
    rw [← hj2]; simp
theorem m4 (C : Nat → Int) : UN (A5 4 C) = 0 := rfl
theorem Nt : VG NT = 0 := by
  have e : (ByteArray.empty).toList = [] := Yi
  unfold VG FY
  rw [if_neg (by unfold Kp Ux NT; simp), if_neg (by show ¬ UN (A5 4 _) ≠ 0; rw [m4]; simp), if_pos]
  simp [List.range, List.range.loop, Cz, Ux, NT, e]
theorem Nu {a b : Q5} (ha : Mm a) (hb : Mm b) : ∀ s ∈ [a, b], Mm s := by
  intro s hs
  simp only [List.mem_cons, List.not_mem_nil, or_false] at hs
  rcases hs with rfl | rfl
  · exact ha
  · exact hb
theorem PR : OC NT := ⟨by decide, by decide, by decide, by decide⟩
theorem Nv : Kq [s0, s0] 1 NT 7 ([s0, s1], 0) := by
  unfold Kq XL
  simp only [Jp]
  refine ⟨fun c => by simp at c, fun _ => ⟨0, Nt ▸ Wu NT, fun c => by simp at c, fun _ => ⟨s0, ⟨by decide, rfl⟩, fun c => (by cases c), fun _ => ⟨[s0, s0], Fv _ (by decide) (Nu Ns Ns), s0, ⟨by decide, rfl⟩, NT, Fu _ PR, ?_⟩⟩⟩⟩
  rfl
theorem Nw : Kq [s0, s1] 1 NT 8 ([], 12) := by
  unfold Kq XL
  simp only [Jp]
  exact ⟨fun c => by simp at c, fun _ => ⟨0, Nt ▸ Wu NT, fun c => by simp at c, fun _ => ⟨s1, ⟨by decide, rfl⟩, fun _ => trivial, fun c => (by cases c)⟩⟩⟩
theorem PS : ZW [s0, s1] [1] := by
  unfold ZW ZV
  simp only [jn]
  refine Kl (I := fun k s => (k = 2 ∧ s = ([], 0)) ∨ (k = 1 ∧ s = ([], 1)) ∨ (k = 0 ∧ s = ([1], 2))) ?_ (k := 2) (.inl ⟨rfl, rfl⟩)
  rintro k s (⟨rfl, rfl⟩ | ⟨rfl, rfl⟩ | ⟨rfl, rfl⟩) X hX
  · exact ⟨fun _ => ⟨s0, ⟨by decide, rfl⟩, fun c => (by cases c), fun _ => hX 1 _ (by omega) (.inr (.inl ⟨rfl, rfl⟩))⟩, fun c => by simp at c⟩
  · exact ⟨fun _ => ⟨s1, ⟨by decide, rfl⟩, fun _ => ⟨by decide, hX 0 _ (by omega) (.inr (.inr ⟨rfl, rfl⟩))⟩, fun c => (by cases c)⟩, fun c => by simp at c⟩
  · exact ⟨fun c => by simp at c, fun _ => rfl⟩
theorem PT : ZU [s0, s1] 1 ([s0, s0], 0) := by
  unfold ZU Vm
  simp only [Jp]
  refine ⟨fun c => by simp at c, fun _ => ⟨s1, ⟨by decide, rfl⟩, fun c => (by cases c), fun _ => ⟨[s0, s1], Fv _ (by decide) (Nu Ns sm_s1), s1, ⟨by decide, rfl⟩, ?_⟩⟩⟩
  rfl
theorem G7 : Y5 true := by
  unfold Y5 Uu
  have hn : Vn 2 ([s0, s0], 0) := Fw 2
  exact ⟨_, hn, _, Nv, _, Nw, _, PS, _, PT, 1, fun _ => ⟨by decide, rfl⟩, s0, fun _ => ⟨by decide, rfl⟩, s1, fun _ => ⟨by decide, rfl⟩, rfl⟩
section
variable {E : En} {N : Nat} {P : Program} {st : St} {cx : Cx} {a : Act} {w : World}
def Own (cx : Cx) (st : St) (g : Nat) : Prop := ∃ b q, st.h b ≠ none ∧ cx.ι b = some (g, q)
theorem ZY.base (hr : ZY E N cx st a w) : ZY ⟨w, cx.A, Own cx st, cx.ι⟩ N cx st a w :=
  ⟨hr.defers, hr.size, hr.fr, hr.bl, hr.inj, fun b g o hb hi => ⟨(hr.own b g o hb hi).1, .inr ⟨b, o, hb, hi⟩⟩, fun g hg => ⟨(hr.A g hg).1, .inl hg⟩, fun g hg => hg, fun _ _ _ => rfl, Nat.le_refl _, rfl, rfl, rfl, hr.hN, fun _ _ => rfl⟩
def Bk.mu : Bk → Bool
  | .row _ _ mu => mu
  | _ => true
def St.mu (st : St) : Bool := st.H.all fun x => match x.2 with
  | none => true
  | some bk => bk.mu
theorem mu_of {b : QX} {bk : Bk} (h : st.mu = true) (hb : st.h b = some bk) : bk.mu = true := by
  unfold St.h at hb
  cases hl : U8 st.H b with
  | none => rw [hl] at hb; cases hb
  | some y =>
    rw [hl] at hb
    simp only [Option.getD_some] at hb
    subst hb
    exact List.all_eq_true.1 h (b, some bk) (XB hl)
theorem Nx (hr : ZY E N cx st a w) (hm : st.mu = true) {g : Nat} (h : Own cx st g) : ¬ cx.A g := by
  obtain ⟨b, q, hb, hi⟩ := h
  obtain ⟨bk, hbk⟩ := Option.ne_none_iff_exists'.1 hb
  have hR := hr.bl b bk hbk
  have hmu := mu_of hm hbk
  cases bk with
  | row e rows mu =>
    obtain ⟨_, _, h2⟩ := hR
    rw [hi] at h2
    obtain ⟨_, c, el, fz, capR, _, h5, _⟩ := h2
    exact (h5 hmu).2
  | box cs =>
    obtain ⟨g', o, c, el, h1, _, h3, _⟩ := hR
    rw [hi] at h1; cases h1; exact h3
  | map ks =>
    obtain ⟨g', es, clk, h1, _, h3, _⟩ := hR
    rw [hi] at h1; cases h1; exact h3
structure Lv (X : Nat → Prop) (cx : Cx) (st : St) (w : World) (cx' : Cx) (st' : St) (w' : World) : Prop where
  sz : w.heap.size ≤ w'.heap.size
  A : ∀ g, cx.A g → cx'.A g
  A' : ∀ g, cx'.A g → cx.A g ∨ w.heap.size ≤ g ∨ Own cx st g
  kept : ∀ g, g < w.heap.size → ¬ Own cx st g → ¬ X g → w'.heap[g]? = w.heap[g]?
  own : ∀ g, Own cx' st' g → w.heap.size ≤ g ∨ Own cx st g
  os : w'.os = w.os
  tape : w'.tape = w.tape
  output : w'.output = w.output
  keepA : ∀ g, cx.A g → g < w.heap.size → w'.heap[g]? = w.heap[g]?
theorem Dc {cx' : Cx} {st' : St} {a' : Act} {w' : World} (hr : ZY E N cx st a w) (hm : st.mu = true) (hr' : ZY ⟨w, cx.A, Own cx st, cx.ι⟩ N cx' st' a' w') : Lv (fun _ => False) cx st w cx' st' w' :=
  ⟨hr'.sz, fun g hg => hr'.A0 g hg, fun g hg => (hr'.A g hg).2, fun g hg h1 _ => hr'.kept g hg h1, fun g ⟨b, q, hb, hi⟩ => (hr'.own b g q hb hi).2, hr'.os, hr'.tape, hr'.output, fun g hg hl => hr'.kept g hl fun ho => Nx hr hm ho hg⟩
theorem LQ : Lv (fun _ => False) cx st w cx st { w with drawn := w.drawn + 1 } :=
  ⟨Nat.le_refl _, fun _ h => h, fun _ h => .inl h, fun _ _ _ _ => rfl, fun _ h => .inr h, rfl, rfl, rfl, fun _ _ _ => rfl⟩
theorem j_aw {c : Code} {Q : Exit → St → Prop} (h : ∀ E, AW E N P c Q st) (hr : ZY E N cx st a w) (hm : st.mu = true) : c.wp P (fun e a' w' => ∃ st' cx' E', Q e st' ∧ ZY E' N cx' st' a' w' ∧ Lv (fun _ => False) cx st w cx' st' w') a w := by
  refine wp_mono (h _ cx a w hr.base) ?_
  rintro e a' w' ⟨st', cx', hq, hr'⟩
  exact ⟨st', cx', _, hq, hr', Dc hr hm hr'⟩
def U6 (w : World) (A : Nat → Prop) (g e : Nat) (rows : List (List PV)) : Prop :=
  0 < e ∧ (∀ r ∈ rows, r.length = e) ∧ ∃ c el capR, w.heap[g]? = some (.cells c el (0, 0)) ∧ c.size = capR * e ∧ rows.length ≤ capR ∧ capR ≤ maxLen ∧ ∀ i r k p, rows[i]? = some r → r[k]? = some p → ∃ cv, c[i * e + k]? = some cv ∧ RP w A p cv
theorem U6.keeps {w' : World} {A A' : Nat → Prop} {g e : Nat} {rows : List (List PV)} (h : U6 w A g e rows) (hA : ∀ g, A g → A' g) (hk : Ja A w w') (hg : w'.heap[g]? = w.heap[g]?) : U6 w' A' g e rows := by
  obtain ⟨h0, h1, c, el, capR, h2, h3, h4, h5, h6⟩ := h
  exact ⟨h0, h1, c, el, capR, by rw [hg]; exact h2, h3, h4, h5, fun i r k p hi hk' => let ⟨cv, hc, hp⟩ := h6 i r k p hi hk'; ⟨cv, hc, hp.keeps hA hk⟩⟩
theorem U6.lt {A : Nat → Prop} {g e : Nat} {rows : List (List PV)} (h : U6 w A g e rows) : g < w.heap.size := by
  obtain ⟨_, _, c, el, capR, h2, _⟩ := h
  exact (Array.getElem?_eq_some_iff.1 h2).1
def Jd : QX := (65537, 0)
theorem Ny {e : Nat} {rows : List (List PV)} (b' : QX) : (⟨st.fr, (Jd, some (.row e rows true)) :: st.H⟩ : St).h b' = if b' = Jd then some (.row e rows true) else st.h b' := BY Jd b' (some (.row e rows true)) st.fr st.H
theorem ZY.add (hr : ZY E N cx st a w) {e g : Nat} {rows : List (List PV)} (hf : YX Jd st = true) (hg : U6 w cx.A g e rows) (hnA : ¬ cx.A g) (hno : ¬ Own cx st g) :
    ZY ⟨w, cx.A, fun x => Own cx st x ∨ x = g, (cx.upd Jd (some (g, 0))).ι⟩ N (cx.upd Jd (some (g, 0))) ⟨st.fr, (Jd, some (.row e rows true)) :: st.H⟩ a w := by
  have hf := Wg hf
  have hh := Ny (st := st) (e := e) (rows := rows)
  have hcmp : ∀ b', b' ≠ Jd → IA cx w st.h (cx.upd Jd (some (g, 0))) w (⟨st.fr, (Jd, some (.row e rows true)) :: st.H⟩ : St).h b' := by
    intro b' hne bk' hb
    rw [hh, if_neg hne] at hb
    exact ⟨bk', hb, rfl, Nat.le_refl _, by simp [Cx.upd, hne], fun g o c el fz _ h => ⟨c, el, fz, h, fun _ => rfl⟩⟩
  have hk : Ja cx.A w w := Ja.refl _ _
  refine ⟨hr.defers, hr.size, fun s' => ?_, fun b' bk hb => ?_, fun b1 b2 g1 o g2 o' h1 h2 h3 h4 hne => ?_, fun b1 g1 o h1 h2 => ?_, fun x hx => ⟨(hr.A x hx).1, .inl hx⟩, fun x hx => hx, fun _ _ _ => rfl, Nat.le_refl _, rfl, rfl, rfl, hr.hN, fun _ _ => rfl⟩
  · refine RT.tr (cx := cx) (fun _ h => h) hk (fun b' hb' => hcmp b' ?_) (hr.fr s')
    rintro rfl
    exact hf.2.1 s' hb'
  · rw [hh] at hb
    by_cases h : b' = Jd
    · rw [if_pos h] at hb
      cases hb
      subst h
      obtain ⟨h0, h1, c, el, capR, h2, h3, h4, h5, h6⟩ := hg
      refine ⟨h0, h1, ?_⟩
      simp only [Cx.upd, if_true]
      exact ⟨trivial, c, el, (0, 0), capR, h2, fun _ => ⟨rfl, hnA⟩, (fun h => by cases h), h3, h4, h5, h6⟩
    · rw [if_neg h] at hb
      refine RB.tr (cx := cx) (fun _ h => h) hk (fun b2 hb2 => hcmp b2 ?_) (by simp [Cx.upd, h]) (fun g o _ => ⟨rfl, fun h => h⟩) (hr.bl b' bk hb)
      rintro rfl
      exact hf.2.2 b' bk hb hb2
  · rw [hh] at h1 h2
    simp only [Cx.upd] at h3 h4
    by_cases e1 : b1 = Jd <;> by_cases e2 : b2 = Jd
    · exact absurd (e1.trans e2.symm) hne
    · rw [if_pos e1] at h3; rw [if_neg e2] at h2 h4
      cases h3
      rintro rfl
      exact hno ⟨b2, o', h2, h4⟩
    · rw [if_neg e1] at h1 h3; rw [if_pos e2] at h4
      cases h4
      rintro rfl
      exact hno ⟨b1, o, h1, h3⟩
    · rw [if_neg e1] at h1 h3; rw [if_neg e2] at h2 h4
      exact hr.inj b1 b2 g1 o g2 o' h1 h2 h3 h4 hne
  · rw [hh] at h1
    simp only [Cx.upd] at h2
    by_cases e1 : b1 = Jd
    · rw [if_pos e1] at h2; cases h2
      exact ⟨hg.lt, .inr (.inr rfl)⟩
    · rw [if_neg e1] at h1 h2
      exact ⟨(hr.own b1 g1 o h1 h2).1, .inr (.inl ⟨b1, o, h1, h2⟩)⟩
theorem ZY.del {e : Nat} {rows : List (List PV)} (hr : ZY E N cx ⟨st.fr, (Jd, some (.row e rows true)) :: st.H⟩ a w) (hf : YX Jd st = true) : ZY E N cx st a w ∧ ∀ g q, cx.ι Jd = some (g, q) → U6 w cx.A g e rows ∧ ¬ cx.A g ∧ ¬ Own cx st g := by
  have hf := Wg hf
  have hh := Ny (st := st) (e := e) (rows := rows)
  have hcmp : ∀ b', b' ≠ Jd → IA cx w (⟨st.fr, (Jd, some (.row e rows true)) :: st.H⟩ : St).h cx w st.h b' := by
    intro b' hne bk' hb
    exact ⟨bk', by rw [hh, if_neg hne]; exact hb, rfl, Nat.le_refl _, rfl, fun g o c el fz _ h => ⟨c, el, fz, h, fun _ => rfl⟩⟩
  have hk : Ja cx.A w w := Ja.refl _ _
  have hne : ∀ b', st.h b' ≠ none → b' ≠ Jd := by
    rintro b' hb rfl
    exact hb hf.1
  have hup : ∀ b', st.h b' ≠ none → (⟨st.fr, (Jd, some (.row e rows true)) :: st.H⟩ : St).h b' ≠ none := fun b' hb => by rw [hh, if_neg (hne b' hb)]; exact hb
  refine ⟨⟨hr.defers, hr.size, fun s' => ?_, fun b' bk hb => ?_, fun b1 b2 g1 o g2 o' h1 h2 h3 h4 hn => hr.inj b1 b2 g1 o g2 o' (hup _ h1) (hup _ h2) h3 h4 hn, fun b1 g1 o h1 h2 => hr.own b1 g1 o (hup _ h1) h2, hr.A, hr.A0, hr.kept, hr.sz, hr.os, hr.tape, hr.output, hr.hN, hr.pin⟩, fun g q hi => ?_⟩
  · refine RT.tr (cx := cx) (fun _ h => h) hk (fun b' hb' => hcmp b' ?_) (hr.fr s')
    rintro rfl
    exact hf.2.1 s' hb'
  · have hnb := hne b' (by rw [hb]; simp)
    refine RB.tr (cx := cx) (fun _ h => h) hk (fun b2 hb2 => hcmp b2 ?_) rfl (fun g o _ => ⟨rfl, fun h => h⟩) (hr.bl b' bk (by rw [hh, if_neg hnb]; exact hb))
    rintro rfl
    exact hf.2.2 b' bk hb hb2
  · have hR := hr.bl Jd _ (by rw [hh, if_pos rfl])
    obtain ⟨h0, h1, h2⟩ := hR
    rw [hi] at h2
    obtain ⟨rfl, c, el, fz, capR, h4, h5, h6, h7, h8, h9, h10⟩ := h2
    obtain ⟨rfl, hnA⟩ := h5 rfl
    refine ⟨⟨h0, h1, c, el, capR, h4, h7, h8, h9, h10⟩, hnA, ?_⟩
    rintro ⟨b, q, hb, hb2⟩
    exact hr.inj b Jd g q g 0 (hup b hb) (by rw [hh, if_pos rfl]; simp) hb2 hi (hne b hb) rfl
theorem RC.le {h h' : QX → Option Bk} (hle : ∀ b bk, h' b = some bk → h b = some bk) {c : CV} {v : Value} (hr : RC cx w h c v) : RC cx w h' c v := by
  cases c with
  | any => trivial
  | p x => exact hr
  | ptr b i k => exact fun bk hb => hr bk (hle b bk hb)
  | sl b off n => exact fun bk hb => hr bk (hle b bk hb)
  | ep r k => exact hr
  | mp b => exact fun bk hb => hr bk (hle b bk hb)
theorem RL.le {h h' : QX → Option Bk} (hle : ∀ b bk, h' b = some bk → h b = some bk) {cs : List CV} {vs : Array Value} (hr : RL cx w h cs vs) : RL cx w h' cs vs :=
  ⟨hr.1, fun i c hc => let ⟨u, hu, h1, hx⟩ := hr.2 i c hc; ⟨u, hu, h1, hx.le hle⟩⟩
theorem NP.le {h h' : QX → Option Bk} (hle : ∀ b bk, h' b = some bk → h b = some bk) {t : TV} {v : Value} (hr : NP cx w h t v) : NP cx w h' t v := by
  cases t with
  | c x => exact ⟨hr.1, hr.2.le hle⟩
  | agg cs => obtain ⟨vs, h1, h2⟩ := hr; exact ⟨vs, h1, h2.le hle⟩
  | tup ts => exact hr
theorem RT.le {h h' : QX → Option Bk} (hle : ∀ b bk, h' b = some bk → h b = some bk) {t : TV} {v : Value} (hr : RT cx w h t v) : RT cx w h' t v := by
  cases t with
  | c x => exact ⟨hr.1, hr.2.le hle⟩
  | agg cs => obtain ⟨vs, h1, h2⟩ := hr; exact ⟨vs, h1, h2.le hle⟩
  | tup ts => obtain ⟨vs, h1, h2, h3⟩ := hr; exact ⟨vs, h1, h2, fun i t ht => let ⟨u, hu, hx⟩ := h3 i t ht; ⟨u, hu, hx.le hle⟩⟩
theorem RB.le {h h' : QX → Option Bk} (hle : ∀ b bk, h' b = some bk → h b = some bk) {b : QX} {bk : Bk} (hr : RB cx w h b bk) : RB cx w h' b bk := by
  cases bk with
  | row e rows mu => exact hr
  | box cs => obtain ⟨g, o, c, el, h1, h2, h3, h4, h5⟩ := hr; exact ⟨g, o, c, el, h1, h2, h3, h4, fun k x hx => let ⟨cv, hc, h1, hp⟩ := h5 k x hx; ⟨cv, hc, h1, hp.le hle⟩⟩
  | map ks => exact hr
def PU : List (Nat × TV) → List (Nat × TV) → Prop
  | [], _ => True
  | x :: r, fr => ZA fr x.1 = some x.2 ∧ PU r fr
def OD : List (QX × Option Bk) → List (QX × Option Bk) → Prop
  | [], _ => True
  | x :: r, H => U8 H x.1 = some x.2 ∧ OD r H
theorem Nz {fr' fr : List (Nat × TV)} (h : PU fr' fr) : ∀ x ∈ fr', ZA fr x.1 = some x.2 := by
  induction fr' with
  | nil => simp
  | cons y r ih =>
    intro x hx
    rcases List.mem_cons.1 hx with rfl | hx
    · exact h.1
    · exact ih h.2 x hx
theorem NA {H' H : List (QX × Option Bk)} (h : OD H' H) : ∀ x ∈ H', U8 H x.1 = some x.2 := by
  induction H' with
  | nil => simp
  | cons y r ih =>
    intro x hx
    rcases List.mem_cons.1 hx with rfl | hx
    · exact h.1
    · exact ih h.2 x hx
theorem OE {fr fr' : List (Nat × TV)} {H' H : List (QX × Option Bk)} (h : OD H' H) : ∀ b bk, (⟨fr', H'⟩ : St).h b = some bk → (⟨fr, H⟩ : St).h b = some bk := by
  intro b bk hb
  unfold St.h at hb ⊢
  simp only at hb ⊢
  cases hl : U8 H' b with
  | none => rw [hl] at hb; cases hb
  | some y =>
    rw [hl] at hb
    rw [NA h _ (XB hl)]
    exact hb
theorem ZY.cut {fr fr' : List (Nat × TV)} {H H' : List (QX × Option Bk)} (hr : ZY E N cx ⟨fr, H⟩ a w) (hF : PU fr' fr) (hH : OD H' H) : ZY E N cx ⟨fr', H'⟩ a w := by
  have hle := OE (fr := fr) (fr' := fr') hH
  have hup : ∀ b', (⟨fr', H'⟩ : St).h b' ≠ none → (⟨fr, H⟩ : St).h b' ≠ none := fun b' hb => by
    obtain ⟨bk, hbk⟩ := Option.ne_none_iff_exists'.1 hb
    rw [hle b' bk hbk]; simp
  refine ⟨hr.defers, hr.size, fun s => ?_, fun b bk hb => (hr.bl b bk (hle b bk hb)).le hle, fun b1 b2 g o g' o' h1 h2 => hr.inj b1 b2 g o g' o' (hup b1 h1) (hup b2 h2), fun b g o h1 => hr.own b g o (hup b h1), hr.A, hr.A0, hr.kept, hr.sz, hr.os, hr.tape, hr.output, hr.hN, hr.pin⟩
  have : (⟨fr', H'⟩ : St).g s = (ZA fr' s).getD (.c .any) := rfl
  rw [this]
  cases hl : ZA fr' s with
  | none => exact ⟨.inl rfl, trivial⟩
  | some t =>
    have h1 := Nz hF _ (Bc hl)
    have h2 := hr.fr s
    rw [show (⟨fr, H⟩ : St).g s = (ZA fr s).getD (.c .any) from rfl, h1] at h2
    exact h2.le hle
theorem LR (hr : ZY E N cx st a w) {s e m : Nat} {b : QX} {rows : List (List PV)} (hs : st.g s = .c (.sl b 0 m)) (hb : st.h b = some (.row e rows true)) (hm : 0 < rows.length) (hm2 : rows.length ≤ m) :
    ∃ g c, a.tmps.getD s undef = .slice (some ⟨g, 0, none⟩) m c ∧ m ≤ c ∧ c ≤ maxLen ∧ cx.ι b = some (g, 0) ∧ U6 w cx.A g e rows ∧ ¬ cx.A g := by
  have h1 := (hr.fr s)
  rw [hs] at h1
  obtain ⟨a', cap, h2, h3, h4, h5, h6⟩ := h1.2 _ hb
  obtain ⟨h7, h8, h9⟩ := hr.bl b _ hb
  rcases h6 with h6 | ⟨g, c, el, fz, h10, h11, h12, h13⟩
  · omega
  · rw [h10] at h9
    obtain ⟨-, c', el', fz', capR, h14, h15, h16, h17, h18, h19, h20⟩ := h9
    obtain ⟨rfl, hnA⟩ := h15 rfl
    refine ⟨g, cap, by rw [h2, h11, Nat.zero_mul], h3, h4, h10, ⟨h7, h8, c', el', capR, h14, h17, h18, h19, h20⟩, hnA⟩
theorem P1 {c : Code} {Q : Exit → St → Prop} {e g : Nat} {rows : List (List PV)} (h : ∀ E, E.pin Jd = some (g, 0) → AW E N P c Q ⟨st.fr, (Jd, some (.row e rows true)) :: st.H⟩) (hr : ZY E N cx st a w) (hm : st.mu = true) (hf : YX Jd st = true) (hg : U6 w cx.A g e rows) (hnA : ¬ cx.A g) (hno : ¬ Own cx st g)
    (hQ : ∀ ex st', Q ex st' → ∃ st2 rows', st' = ⟨st2.fr, (Jd, some (.row e rows' true)) :: st2.H⟩ ∧ YX Jd st2 = true) :
    c.wp P (fun ex a' w' => ∃ st2 cx' E' rows', Q ex ⟨st2.fr, (Jd, some (.row e rows' true)) :: st2.H⟩ ∧ ZY E' N cx' st2 a' w' ∧ Lv (· = g) cx st w cx' st2 w' ∧ U6 w' cx'.A g e rows' ∧ ¬ cx'.A g ∧ ¬ Own cx' st2 g) a w := by
  refine wp_mono (h ⟨w, cx.A, fun x => Own cx st x ∨ x = g, (cx.upd Jd (some (g, 0))).ι⟩ (by simp [Cx.upd]) _ a w (hr.add hf hg hnA hno)) ?_
  rintro ex a' w' ⟨st', cx', hq, hr'⟩
  obtain ⟨st2, rows', rfl, hf2⟩ := hQ ex st' hq
  obtain ⟨hr2, hrow⟩ := hr'.del hf2
  have hi : cx'.ι Jd = some (g, 0) := (hr'.pin Jd (.inr (Nat.le_refl _))).trans (by simp [Cx.upd])
  obtain ⟨h1, h2, h3⟩ := hrow g 0 hi
  refine ⟨st2, cx', _, rows', hq, hr2, ⟨hr'.sz, fun x hx => hr'.A0 x hx, fun x hx => ?_, fun x hx hn hx2 => hr'.kept x hx (fun h => h.elim hn hx2), fun x hx => ?_, hr'.os, hr'.tape, hr'.output, fun x hx hl => hr'.kept x hl ?_⟩, h1, h2, h3⟩
  · rcases (hr'.A x hx).2 with h4 | h4 | h4 | h4
    · exact .inl h4
    · exact .inr (.inl h4)
    · exact .inr (.inr h4)
    · exact absurd (h4 ▸ hx) h2
  · obtain ⟨b, q, hb, hb2⟩ := hx
    rcases (hr2.own b x q hb hb2).2 with h4 | h4 | h4
    · exact .inl h4
    · exact .inr h4
    · exact absurd ⟨b, q, hb, h4 ▸ hb2⟩ h3
  · rintro (h4 | rfl)
    · exact Nx hr hm h4 hx
    · exact hnA hx
end
set_option maxRecDepth 100000
set_option maxHeartbeats 4000000
structure Qg where
  fb1 : Bool
  fOp : Qq
  fk : Qy
  f9 : Int
  f5 : Value
  fa0 : Value
def Z8 (x : Qg) : List PV := [.v (.bool (x.fb1)), .v (.int .i64 (x.fOp.fo)), .v (.string (x.fOp.fb7)), .v (.string (x.fOp.fj)), .l 1 (List.map eS (x.fOp.fa2)), .v (.int .i64 (x.fOp.fb.fo)), .v (.int .i64 (x.fOp.fb.fg)), .v (.int .i64 (x.fOp.fb.fq)), .v (.int .u64 (x.fOp.fb.fu)), .l 2 (List.map QK (x.fOp.f8)), .l 1 (List.map (eI .u8) (x.fOp.fb5)), .v (.int .i64 (x.fOp.fa3)), .v (.int .i64 (x.fOp.fb0)), .v (.int .i64 (x.fOp.fa5)), .v (.int .i64 (x.fOp.fb6)), .v (.int .i64 (x.fOp.fa6)), .v (.int .i64 (x.fOp.f0)), .v (.int .i64 (x.fOp.fv.fo)), .v (.string (x.fOp.fv.fa1)), .v (.int .i64 (x.fOp.fv.f0)), .v (.int .i64 (x.fOp.fv.fc0)), .v (.int .i64 (x.fOp.fv.fb9)), .l 1 (List.map (eI .u8) (x.fOp.fb4)), .v (.int .i64 (x.fk.fc6)), .v (.int .i64 (x.fk.fc8)), .v (.bool (x.fk.fc3)), .l 1 (List.map (eI .i64) (x.fk.fc1)), .v (.int .i64 (x.fk.fb2)), .v (.int .i64 (x.fk.fi.fb.fo)), .v (.int .i64 (x.fk.fi.fb.fg)), .v (.int .i64 (x.fk.fi.fb.fq)), .v (.int .u64 (x.fk.fi.fb.fu)), .v (.int .i64 (x.fk.fi.fx.fm)), .v (.int .i64 (x.fk.fi.fx.f8)), .v (.bool (x.fk.fi.fx.fa)), .v (.int .i64 (x.fk.fi.fc.fq)), .v (.int .i64 (x.fk.fi.fc.fg)), .v (.int .u64 (x.fk.fi.fc.fu)), .l 1 (List.map (eI .i64) (x.fk.fi.fc.fa8)), .v (.bool (x.fk.fi.fc.fa)), .v (.int .i64 (x.fk.fi.fy.f7)), .v (.int .u64 (x.fk.fi.fy.fu)), .l 1 (List.map (eI .i64) (x.fk.fi.fy.f3)), .v (.int .i64 (x.fk.fi.fa4.fg)), .v (.int .i64 (x.fk.fi.fa4.fm)), .l 3 (List.map Q9 (x.fk.fi.fa4.fh)), .v (.bool (x.fk.fi.fa4.fa)), .v (.int .i64 (x.fk.fi.ff.fg)), .v (.int .i64 (x.fk.fi.ff.fm)), .v (.int .i64 (x.fk.fi.ff.fb3)), .l 3 (List.map Q9 (x.fk.fi.ff.fh)), .v (.bool (x.fk.fi.ff.fa)), .v (.int .i64 (x.fk.fi.fp.fg)), .v (.int .i64 (x.fk.fi.fp.fm)), .v (.int .i64 (x.fk.fi.fp.fa9)), .l 1 (List.map (eL 1 eS) (x.fk.fi.fp.fw)), .v (.bool (x.fk.fi.fp.fa)), .v (.int .i64 (x.fk.fj.fb.fo)), .v (.int .i64 (x.fk.fj.fb.fg)), .v (.int .i64 (x.fk.fj.fb.fq)), .v (.int .u64 (x.fk.fj.fb.fu)), .v (.int .i64 (x.fk.fj.fx.fm)), .v (.int .i64 (x.fk.fj.fx.f8)), .v (.bool (x.fk.fj.fx.fa)), .v (.int .i64 (x.fk.fj.fc.fq)), .v (.int .i64 (x.fk.fj.fc.fg)), .v (.int .u64 (x.fk.fj.fc.fu)), .l 1 (List.map (eI .i64) (x.fk.fj.fc.fa8)), .v (.bool (x.fk.fj.fc.fa)), .v (.int .i64 (x.fk.fj.fy.f7)), .v (.int .u64 (x.fk.fj.fy.fu)), .l 1 (List.map (eI .i64) (x.fk.fj.fy.f3)), .v (.int .i64 (x.fk.fj.fa4.fg)), .v (.int .i64 (x.fk.fj.fa4.fm)), .l 3 (List.map Q9 (x.fk.fj.fa4.fh)), .v (.bool (x.fk.fj.fa4.fa)), .v (.int .i64 (x.fk.fj.ff.fg)), .v (.int .i64 (x.fk.fj.ff.fm)), .v (.int .i64 (x.fk.fj.ff.fb3)), .l 3 (List.map Q9 (x.fk.fj.ff.fh)), .v (.bool (x.fk.fj.ff.fa)), .v (.int .i64 (x.fk.fj.fp.fg)), .v (.int .i64 (x.fk.fj.fp.fm)), .v (.int .i64 (x.fk.fj.fp.fa9)), .l 1 (List.map (eL 1 eS) (x.fk.fj.fp.fw)), .v (.bool (x.fk.fj.fp.fa)), .v (.int .i64 (x.fk.fc7)), .v (.int .i64 (x.fk.fd0)), .v (.int .i64 (x.fk.fa5)), .v (.int .i64 (x.fk.fa6)), .v (.int .i64 (x.fk.fAt.fb2)), .v (.int .i64 (x.fk.fAt.fd1)), .l 1 (List.map (eI .u8) (x.fk.fb4)), .v (.bool (x.fk.fc4)), .v (.int .i64 (x.f9)), .o (x.f5), .o (x.fa0)]
def JL (a0 : (List Qg)) (a1 : Int) (a2 : Qq) (a3 : Int) (Q : ((List Qg) × Int) → Prop) : Prop :=
 ((((bif decide ((a1) < (0)) then true else decide ((a1) ≥ (((a0).length : Int))))) = true → Q (([] : (List Qg)), (5))) ∧ (((bif decide ((a1) < (0)) then true else decide ((a1) ≥ (((a0).length : Int))))) = false → ∃ (v3 : Int), Vf a2 v3 ∧ (((((v3) != (0))) = true → Q (([] : (List Qg)), (v3))) ∧ ((((v3) != (0))) = false → ∃ (v5 : Qg), ix (a0) (a1) v5 ∧ (((v5.fb1) = true → Q (([] : (List Qg)), (12))) ∧ ((v5.fb1) = false → ((a0).length * 1088 ≤ 140737488355328) ∧ ∃ (v7 : Qg), ix (a0) (a1) v7 ∧ Q ((List.set (List.set (List.set (List.set (a0) (Int.toNat (a1)) ((Qg.mk (true) v7.fOp v7.fk (v7.f9) (v7.f5) (v7.fa0)))) (Int.toNat (a1)) ((Qg.mk (true) a2 v7.fk (v7.f9) (v7.f5) (v7.fa0)))) (Int.toNat (a1)) ((Qg.mk (true) a2 (Qy.mk (0) (0) (false) (([] : (List Int))) (0) (Qd.mk (Q6.mk (0) (0) (0) (0)) (Qo.mk (0) (0) (false)) (Qb.mk (0) (0) (0) (([] : (List Int))) (false)) (Qj.mk (0) (0) (([] : (List Int)))) (Qt.mk (0) (0) (([] : (List Q1))) (false)) (Qe.mk (0) (0) (0) (([] : (List Q1))) (false)) (Qk.mk (0) (0) (0) (([] : (List (List ByteArray)))) (false))) (Qd.mk (Q6.mk (0) (0) (0) (0)) (Qo.mk (0) (0) (false)) (Qb.mk (0) (0) (0) (([] : (List Int))) (false)) (Qj.mk (0) (0) (([] : (List Int)))) (Qt.mk (0) (0) (([] : (List Q1))) (false)) (Qe.mk (0) (0) (0) (([] : (List Q1))) (false)) (Qk.mk (0) (0) (0) (([] : (List (List ByteArray)))) (false))) (0) (0) (0) (0) (Z7.mk (0) (0)) (([] : (List Int))) (false)) (v7.f9) (v7.f5) (v7.fa0)))) (Int.toNat (a1)) ((Qg.mk (true) a2 (Qy.mk (0) (0) (false) (([] : (List Int))) (0) (Qd.mk (Q6.mk (0) (0) (0) (0)) (Qo.mk (0) (0) (false)) (Qb.mk (0) (0) (0) (([] : (List Int))) (false)) (Qj.mk (0) (0) (([] : (List Int)))) (Qt.mk (0) (0) (([] : (List Q1))) (false)) (Qe.mk (0) (0) (0) (([] : (List Q1))) (false)) (Qk.mk (0) (0) (0) (([] : (List (List ByteArray)))) (false))) (Qd.mk (Q6.mk (0) (0) (0) (0)) (Qo.mk (0) (0) (false)) (Qb.mk (0) (0) (0) (([] : (List Int))) (false)) (Qj.mk (0) (0) (([] : (List Int)))) (Qt.mk (0) (0) (([] : (List Q1))) (false)) (Qe.mk (0) (0) (0) (([] : (List Q1))) (false)) (Qk.mk (0) (0) (0) (([] : (List (List ByteArray)))) (false))) (0) (0) (0) (0) (Z7.mk (0) (0)) (([] : (List Int))) (false)) (a3) (v7.f5) (v7.fa0)))), (0))))))))
def KM (a0 : (List Qg)) (a1 : Int) (a2 : Qq) (a3 : Int) (r : (List Qg) × Int) : Prop := JL a0 a1 a2 a3 fun x => r = x
theorem YS {a0 : (List Qg)} {a1 : Int} {a2 : Qq} {a3 : Int} {r : (List Qg) × Int} (h : KM a0 a1 a2 a3 r) : Qp Tryz.prog 10 [.c (.l 97 (List.map Z8 (a0))), .c (.v (.int .i64 (a1))), .agg (Zi a2), .c (.v (.int .i64 (a3)))] [.c (.own 97 (List.map Z8 (r.1))), .c (.p (.v (.int .i64 (r.2))))] [] := by
  refine Qn tb Tryz.func10 rfl (by kernel_rfl) rfl rfl (Nat.le_of_ble_eq_true rfl) rfl ?_
  intro E
  unfold KM JL at h
  refine Z3 (fun Q hQ => ?_)
  refine tD rfl ?_
  refine sk fun L1 hL1 => ?_
  refine tk fun L hL => ?_
  refine dN 3 rfl ?_
  refine Q2 rfl rfl Q4 (fun hg => Qc rfl rfl) ?_
  refine Q2 rfl rfl Q4 (fun hg => Qc rfl rfl) ?_
  refine Q2 rfl rfl Q4 (fun hg => QA (Qa hg) rfl rfl rfl) ?_
  refine Q2 rfl rfl Q4 (fun hg => Qz (c := decide ((a1) ≥ (((a0).length : Int)))) (Qa hg) (Qa hg) rfl rfl rfl) ?_
  refine u0 (Qm (v := .bool (true)) (w := .bool (decide ((a1) ≥ (((a0).length : Int))))) rfl rfl Q4 rfl Qw) ?_
  refine rt (hL _ ?_)
  refine cn h (fun h => ?_) fun h => ?_
  · refine tD rfl ?_
    obtain rfl := h
    exact Qf (hQ _ _ ⟨.inr rfl, _, _, _, (.cons (.p rfl) (.cons (.p rfl) .nil)), (.cons (.c (.nilo _ (Nat.le_of_ble_eq_true rfl))) (.cons (.c (.p _)) .nil)), rfl, rfl⟩)
  · refine Qh (hL1 _ ?_)
    refine QQ (st' := ⟨[(0, .c (.p (.l 97 (List.map Z8 (a0))))), (1, .c (.p (.v (.int .i64 (a1))))), (3, .c (.p (.v (.int .i64 (a3))))), (6, .c (.ptr (6, 0) 0 0))], [((6, 0), some (.box (List.map CV.p (Zi a2))))]⟩) QC.fit ?_
    refine sk fun L2 hL2 => ?_
    refine tk fun L hL => ?_
    refine dN 1 rfl ?_
    obtain ⟨v3, hv3, h⟩ := h
    refine u0 (QR (DI hv3)) ?_
    refine dN 1 rfl ?_
    refine rt (hL _ ?_)
    refine tD rfl ?_
    refine cn h (fun h => ?_) fun h => ?_
    · refine tD rfl ?_
      obtain rfl := h
      exact Qf (hQ _ _ ⟨.inr rfl, _, _, _, (.cons (.p rfl) (.cons (.p rfl) .nil)), (.cons (.c (.nilo _ (Nat.le_of_ble_eq_true rfl))) (.cons (.c (.p _)) .nil)), rfl, rfl⟩)
    · refine Qh (hL2 _ ?_)
      refine sk fun L4 hL4 => ?_
      refine tk fun L hL => ?_
      refine dN 2 rfl ?_
      obtain ⟨v5, hv5, h⟩ := h
      refine u0 (QB hv5) ?_
      refine dN 2 rfl ?_
      refine rt (hL _ ?_)
      refine cn h (fun h => ?_) fun h => ?_
      · refine tD rfl ?_
        obtain rfl := h
        exact Qf (hQ _ _ ⟨.inr rfl, _, _, _, (.cons (.p rfl) (.cons (.p rfl) .nil)), (.cons (.c (.nilo _ (Nat.le_of_ble_eq_true rfl))) (.cons (.c (.p _)) .nil)), rfl, rfl⟩)
      · refine Qh (hL4 _ ?_)
        refine tk fun L hL => ?_
        refine dN 1 rfl ?_
        obtain ⟨hm6, h⟩ := h
        refine ul (VP (f := Z8) (L := a0) hm6 rfl rfl rfl rfl rfl rfl rfl rfl rfl rfl (Vv QJ rfl rfl rfl rfl rfl)) ?_
        refine dN 1 rfl ?_
        refine rt (hL _ ?_)
        refine tk fun L hL => ?_
        refine dN 2 rfl ?_
        obtain ⟨v7, hv7, h⟩ := h
        refine u0 (QV hv7) ?_
        refine dN 1 rfl ?_
        refine rt (hL _ ?_)
        refine dk mixed (fun L hL => ?_)
        refine dN 9 rfl ?_
        refine un (Zf (x1 := (Qg.mk (true) v7.fOp v7.fk (v7.f9) (v7.f5) (v7.fa0))) hv7.2) ?_
        refine dN 2 rfl ?_
        refine un (Zf (x1 := (Qg.mk (true) a2 v7.fk (v7.f9) (v7.f5) (v7.fa0))) (ZC hv7.2)) ?_
        refine dN 2 rfl ?_
        refine un (K0 (x1 := (Qg.mk (true) a2 (Qy.mk (0) (0) (false) (([] : (List Int))) (0) (Qd.mk (Q6.mk (0) (0) (0) (0)) (Qo.mk (0) (0) (false)) (Qb.mk (0) (0) (0) (([] : (List Int))) (false)) (Qj.mk (0) (0) (([] : (List Int)))) (Qt.mk (0) (0) (([] : (List Q1))) (false)) (Qe.mk (0) (0) (0) (([] : (List Q1))) (false)) (Qk.mk (0) (0) (0) (([] : (List (List ByteArray)))) (false))) (Qd.mk (Q6.mk (0) (0) (0) (0)) (Qo.mk (0) (0) (false)) (Qb.mk (0) (0) (0) (([] : (List Int))) (false)) (Qj.mk (0) (0) (([] : (List Int)))) (Qt.mk (0) (0) (([] : (List Q1))) (false)) (Qe.mk (0) (0) (0) (([] : (List Q1))) (false)) (Qk.mk (0) (0) (0) (([] : (List (List ByteArray)))) (false))) (0) (0) (0) (0) (Z7.mk (0) (0)) (([] : (List Int))) (false)) (v7.f9) (v7.f5) (v7.fa0))) (ZC (ZC hv7.2)) rfl rfl rfl rfl (.cons (.k _) (.cons (.k _) (.cons (.k _) (.cons (.nil _) (.cons (.k _) (.cons (.k _) (.cons (.k _) (.cons (.k _) (.cons (.k _) (.cons (.k _) (.cons (.k _) (.cons (.k _) (.cons (.k _) (.cons (.k _) (.cons (.k _) (.cons (.nil _) (.cons (.k _) (.cons (.k _) (.cons (.k _) (.cons (.nil _) (.cons (.k _) (.cons (.k _) (.cons (.nil _) (.cons (.k _) (.cons (.k _) (.cons (.k _) (.cons (.k _) (.cons (.nil _) (.cons (.k _) (.cons (.k _) (.cons (.k _) (.cons (.k _) (.cons (.nil _) (.cons (.k _) (.cons (.k _) (.cons (.k _) (.cons (.k _) (.cons (.k _) (.cons (.k _) (.cons (.k _) (.cons (.k _) (.cons (.k _) (.cons (.k _) (.cons (.k _) (.cons (.nil _) (.cons (.k _) (.cons (.k _) (.cons (.k _) (.cons (.nil _) (.cons (.k _) (.cons (.k _) (.cons (.nil _) (.cons (.k _) (.cons (.k _) (.cons (.k _) (.cons (.k _) (.cons (.nil _) (.cons (.k _) (.cons (.k _) (.cons (.k _) (.cons (.k _) (.cons (.nil _) (.cons (.k _) (.cons (.k _) (.cons (.k _) (.cons (.k _) (.cons (.k _) (.cons (.k _) (.cons (.k _) (.cons (.nil _) (.cons (.k _) .nil)))))))))))))))))))))))))))))))))))))))))))))))))))))))))))))))))))))))) ?_
        refine dN 2 rfl ?_
        refine un (Zf (x1 := (Qg.mk (true) a2 (Qy.mk (0) (0) (false) (([] : (List Int))) (0) (Qd.mk (Q6.mk (0) (0) (0) (0)) (Qo.mk (0) (0) (false)) (Qb.mk (0) (0) (0) (([] : (List Int))) (false)) (Qj.mk (0) (0) (([] : (List Int)))) (Qt.mk (0) (0) (([] : (List Q1))) (false)) (Qe.mk (0) (0) (0) (([] : (List Q1))) (false)) (Qk.mk (0) (0) (0) (([] : (List (List ByteArray)))) (false))) (Qd.mk (Q6.mk (0) (0) (0) (0)) (Qo.mk (0) (0) (false)) (Qb.mk (0) (0) (0) (([] : (List Int))) (false)) (Qj.mk (0) (0) (([] : (List Int)))) (Qt.mk (0) (0) (([] : (List Q1))) (false)) (Qe.mk (0) (0) (0) (([] : (List Q1))) (false)) (Qk.mk (0) (0) (0) (([] : (List (List ByteArray)))) (false))) (0) (0) (0) (0) (Z7.mk (0) (0)) (([] : (List Int))) (false)) (a3) (v7.f5) (v7.fa0))) (ZC (ZC (ZC hv7.2)))) ?_
        refine rd (hL _ ?_)
        refine tD rfl ?_
        obtain rfl := h
        exact Qf (hQ _ _ ⟨.inr rfl, _, _, _, (.cons (.s rfl) (.cons (.p rfl) .nil)), (.cons (.c (.own rfl (by simp))) (.cons (.c (.p _)) .nil)), rfl, rfl⟩)
def XS (a0 : (List Qg)) (a1 : Int) (Q : ((List Qg) × Int) → Prop) : Prop :=
 ((((bif decide ((a1) < (0)) then true else decide ((a1) ≥ (((a0).length : Int))))) = true → Q (([] : (List Qg)), (5))) ∧ (((bif decide ((a1) < (0)) then true else decide ((a1) ≥ (((a0).length : Int))))) = false → ∃ (v3 : Qg), ix (a0) (a1) v3 ∧ (((!(v3.fb1)) = true → Q (([] : (List Qg)), (13))) ∧ ((!(v3.fb1)) = false → ((a0).length * 1088 ≤ 140737488355328) ∧ ∃ (v5 : Qg), ix (a0) (a1) v5 ∧ Q ((List.set (List.set (List.set (List.set (a0) (Int.toNat (a1)) ((Qg.mk (false) v5.fOp v5.fk (v5.f9) (v5.f5) (v5.fa0)))) (Int.toNat (a1)) ((Qg.mk (false) (Qq.mk (0) (ByteArray.empty) (ByteArray.empty) (([] : (List ByteArray))) (Q6.mk (0) (0) (0) (0)) (([] : (List Qi))) (([] : (List Int))) (0) (0) (0) (0) (0) (0) (Qu.mk (0) (ByteArray.empty) (0) (0) (0)) (([] : (List Int)))) v5.fk (v5.f9) (v5.f5) (v5.fa0)))) (Int.toNat (a1)) ((Qg.mk (false) (Qq.mk (0) (ByteArray.empty) (ByteArray.empty) (([] : (List ByteArray))) (Q6.mk (0) (0) (0) (0)) (([] : (List Qi))) (([] : (List Int))) (0) (0) (0) (0) (0) (0) (Qu.mk (0) (ByteArray.empty) (0) (0) (0)) (([] : (List Int)))) (Qy.mk (0) (0) (false) (([] : (List Int))) (0) (Qd.mk (Q6.mk (0) (0) (0) (0)) (Qo.mk (0) (0) (false)) (Qb.mk (0) (0) (0) (([] : (List Int))) (false)) (Qj.mk (0) (0) (([] : (List Int)))) (Qt.mk (0) (0) (([] : (List Q1))) (false)) (Qe.mk (0) (0) (0) (([] : (List Q1))) (false)) (Qk.mk (0) (0) (0) (([] : (List (List ByteArray)))) (false))) (Qd.mk (Q6.mk (0) (0) (0) (0)) (Qo.mk (0) (0) (false)) (Qb.mk (0) (0) (0) (([] : (List Int))) (false)) (Qj.mk (0) (0) (([] : (List Int)))) (Qt.mk (0) (0) (([] : (List Q1))) (false)) (Qe.mk (0) (0) (0) (([] : (List Q1))) (false)) (Qk.mk (0) (0) (0) (([] : (List (List ByteArray)))) (false))) (0) (0) (0) (0) (Z7.mk (0) (0)) (([] : (List Int))) (false)) (v5.f9) (v5.f5) (v5.fa0)))) (Int.toNat (a1)) ((Qg.mk (false) (Qq.mk (0) (ByteArray.empty) (ByteArray.empty) (([] : (List ByteArray))) (Q6.mk (0) (0) (0) (0)) (([] : (List Qi))) (([] : (List Int))) (0) (0) (0) (0) (0) (0) (Qu.mk (0) (ByteArray.empty) (0) (0) (0)) (([] : (List Int)))) (Qy.mk (0) (0) (false) (([] : (List Int))) (0) (Qd.mk (Q6.mk (0) (0) (0) (0)) (Qo.mk (0) (0) (false)) (Qb.mk (0) (0) (0) (([] : (List Int))) (false)) (Qj.mk (0) (0) (([] : (List Int)))) (Qt.mk (0) (0) (([] : (List Q1))) (false)) (Qe.mk (0) (0) (0) (([] : (List Q1))) (false)) (Qk.mk (0) (0) (0) (([] : (List (List ByteArray)))) (false))) (Qd.mk (Q6.mk (0) (0) (0) (0)) (Qo.mk (0) (0) (false)) (Qb.mk (0) (0) (0) (([] : (List Int))) (false)) (Qj.mk (0) (0) (([] : (List Int)))) (Qt.mk (0) (0) (([] : (List Q1))) (false)) (Qe.mk (0) (0) (0) (([] : (List Q1))) (false)) (Qk.mk (0) (0) (0) (([] : (List (List ByteArray)))) (false))) (0) (0) (0) (0) (Z7.mk (0) (0)) (([] : (List Int))) (false)) (0) (v5.f5) (v5.fa0)))), (0))))))
def V5 (a0 : (List Qg)) (a1 : Int) (r : (List Qg) × Int) : Prop := XS a0 a1 fun x => r = x
theorem Bt {a0 : (List Qg)} {a1 : Int} {r : (List Qg) × Int} (h : V5 a0 a1 r) : Qp Tryz.prog 14 [.c (.l 97 (List.map Z8 (a0))), .c (.v (.int .i64 (a1)))] [.c (.own 97 (List.map Z8 (r.1))), .c (.p (.v (.int .i64 (r.2))))] [] := by
  refine Qn tb Tryz.func14 rfl (by kernel_rfl) rfl rfl (Nat.le_of_ble_eq_true rfl) rfl ?_
  intro E
  unfold V5 XS at h
  refine Z3 (fun Q hQ => ?_)
  refine tD rfl ?_
  refine sk fun L1 hL1 => ?_
  refine tk fun L hL => ?_
  refine dN 3 rfl ?_
  refine Q2 rfl rfl Q4 (fun hg => Qc rfl rfl) ?_
  refine Q2 rfl rfl Q4 (fun hg => Qc rfl rfl) ?_
  refine Q2 rfl rfl Q4 (fun hg => QA (Qa hg) rfl rfl rfl) ?_
  refine Q2 rfl rfl Q4 (fun hg => Qz (c := decide ((a1) ≥ (((a0).length : Int)))) (Qa hg) (Qa hg) rfl rfl rfl) ?_
  refine u0 (Qm (v := .bool (true)) (w := .bool (decide ((a1) ≥ (((a0).length : Int))))) rfl rfl Q4 rfl Qw) ?_
  refine rt (hL _ ?_)
  refine cn h (fun h => ?_) fun h => ?_
  · refine tD rfl ?_
    obtain rfl := h
    exact Qf (hQ _ _ ⟨.inr rfl, _, _, _, (.cons (.p rfl) (.cons (.p rfl) .nil)), (.cons (.c (.nilo _ (Nat.le_of_ble_eq_true rfl))) (.cons (.c (.p _)) .nil)), rfl, rfl⟩)
  · refine Qh (hL1 _ ?_)
    refine QQ (st' := ⟨[(0, .c (.p (.l 97 (List.map Z8 (a0))))), (1, .c (.p (.v (.int .i64 (a1)))))], []⟩) QC.fit ?_
    refine sk fun L2 hL2 => ?_
    refine tk fun L hL => ?_
    refine dN 2 rfl ?_
    obtain ⟨v3, hv3, h⟩ := h
    refine u0 (QB hv3) ?_
    refine dN 3 rfl ?_
    refine rt (hL _ ?_)
    refine cn h (fun h => ?_) fun h => ?_
    · refine tD rfl ?_
      obtain rfl := h
      exact Qf (hQ _ _ ⟨.inr rfl, _, _, _, (.cons (.p rfl) (.cons (.p rfl) .nil)), (.cons (.c (.nilo _ (Nat.le_of_ble_eq_true rfl))) (.cons (.c (.p _)) .nil)), rfl, rfl⟩)
    · refine Qh (hL2 _ ?_)
      refine tk fun L hL => ?_
      refine dN 1 rfl ?_
      obtain ⟨hm4, h⟩ := h
      refine ul (VP (f := Z8) (L := a0) hm4 rfl rfl rfl rfl rfl rfl rfl rfl rfl rfl (Vv QJ rfl rfl rfl rfl rfl)) ?_
      refine dN 1 rfl ?_
      refine rt (hL _ ?_)
      refine tk fun L hL => ?_
      refine dN 2 rfl ?_
      obtain ⟨v5, hv5, h⟩ := h
      refine u0 (QV hv5) ?_
      refine dN 1 rfl ?_
      refine rt (hL _ ?_)
      refine tk fun L hL => ?_
      refine dN 8 rfl ?_
      refine un (Zf (x1 := (Qg.mk (false) v5.fOp v5.fk (v5.f9) (v5.f5) (v5.fa0))) hv5.2) ?_
      refine dN 2 rfl ?_
      refine un (K0 (x1 := (Qg.mk (false) (Qq.mk (0) (ByteArray.empty) (ByteArray.empty) (([] : (List ByteArray))) (Q6.mk (0) (0) (0) (0)) (([] : (List Qi))) (([] : (List Int))) (0) (0) (0) (0) (0) (0) (Qu.mk (0) (ByteArray.empty) (0) (0) (0)) (([] : (List Int)))) v5.fk (v5.f9) (v5.f5) (v5.fa0))) (ZC hv5.2) rfl rfl rfl rfl (.cons (.k _) (.cons (.k _) (.cons (.k _) (.cons (.nil _) (.cons (.k _) (.cons (.k _) (.cons (.k _) (.cons (.k _) (.cons (.nil _) (.cons (.nil _) (.cons (.k _) (.cons (.k _) (.cons (.k _) (.cons (.k _) (.cons (.k _) (.cons (.k _) (.cons (.k _) (.cons (.k _) (.cons (.k _) (.cons (.k _) (.cons (.k _) (.cons (.nil _) .nil))))))))))))))))))))))) ?_
      refine dN 2 rfl ?_
      refine un (K0 (x1 := (Qg.mk (false) (Qq.mk (0) (ByteArray.empty) (ByteArray.empty) (([] : (List ByteArray))) (Q6.mk (0) (0) (0) (0)) (([] : (List Qi))) (([] : (List Int))) (0) (0) (0) (0) (0) (0) (Qu.mk (0) (ByteArray.empty) (0) (0) (0)) (([] : (List Int)))) (Qy.mk (0) (0) (false) (([] : (List Int))) (0) (Qd.mk (Q6.mk (0) (0) (0) (0)) (Qo.mk (0) (0) (false)) (Qb.mk (0) (0) (0) (([] : (List Int))) (false)) (Qj.mk (0) (0) (([] : (List Int)))) (Qt.mk (0) (0) (([] : (List Q1))) (false)) (Qe.mk (0) (0) (0) (([] : (List Q1))) (false)) (Qk.mk (0) (0) (0) (([] : (List (List ByteArray)))) (false))) (Qd.mk (Q6.mk (0) (0) (0) (0)) (Qo.mk (0) (0) (false)) (Qb.mk (0) (0) (0) (([] : (List Int))) (false)) (Qj.mk (0) (0) (([] : (List Int)))) (Qt.mk (0) (0) (([] : (List Q1))) (false)) (Qe.mk (0) (0) (0) (([] : (List Q1))) (false)) (Qk.mk (0) (0) (0) (([] : (List (List ByteArray)))) (false))) (0) (0) (0) (0) (Z7.mk (0) (0)) (([] : (List Int))) (false)) (v5.f9) (v5.f5) (v5.fa0))) (ZC (ZC hv5.2)) rfl rfl rfl rfl (.cons (.k _) (.cons (.k _) (.cons (.k _) (.cons (.nil _) (.cons (.k _) (.cons (.k _) (.cons (.k _) (.cons (.k _) (.cons (.k _) (.cons (.k _) (.cons (.k _) (.cons (.k _) (.cons (.k _) (.cons (.k _) (.cons (.k _) (.cons (.nil _) (.cons (.k _) (.cons (.k _) (.cons (.k _) (.cons (.nil _) (.cons (.k _) (.cons (.k _) (.cons (.nil _) (.cons (.k _) (.cons (.k _) (.cons (.k _) (.cons (.k _) (.cons (.nil _) (.cons (.k _) (.cons (.k _) (.cons (.k _) (.cons (.k _) (.cons (.nil _) (.cons (.k _) (.cons (.k _) (.cons (.k _) (.cons (.k _) (.cons (.k _) (.cons (.k _) (.cons (.k _) (.cons (.k _) (.cons (.k _) (.cons (.k _) (.cons (.k _) (.cons (.nil _) (.cons (.k _) (.cons (.k _) (.cons (.k _) (.cons (.nil _) (.cons (.k _) (.cons (.k _) (.cons (.nil _) (.cons (.k _) (.cons (.k _) (.cons (.k _) (.cons (.k _) (.cons (.nil _) (.cons (.k _) (.cons (.k _) (.cons (.k _) (.cons (.k _) (.cons (.nil _) (.cons (.k _) (.cons (.k _) (.cons (.k _) (.cons (.k _) (.cons (.k _) (.cons (.k _) (.cons (.k _) (.cons (.nil _) (.cons (.k _) .nil)))))))))))))))))))))))))))))))))))))))))))))))))))))))))))))))))))))))) ?_
      refine dN 2 rfl ?_
      refine un (Zf (x1 := (Qg.mk (false) (Qq.mk (0) (ByteArray.empty) (ByteArray.empty) (([] : (List ByteArray))) (Q6.mk (0) (0) (0) (0)) (([] : (List Qi))) (([] : (List Int))) (0) (0) (0) (0) (0) (0) (Qu.mk (0) (ByteArray.empty) (0) (0) (0)) (([] : (List Int)))) (Qy.mk (0) (0) (false) (([] : (List Int))) (0) (Qd.mk (Q6.mk (0) (0) (0) (0)) (Qo.mk (0) (0) (false)) (Qb.mk (0) (0) (0) (([] : (List Int))) (false)) (Qj.mk (0) (0) (([] : (List Int)))) (Qt.mk (0) (0) (([] : (List Q1))) (false)) (Qe.mk (0) (0) (0) (([] : (List Q1))) (false)) (Qk.mk (0) (0) (0) (([] : (List (List ByteArray)))) (false))) (Qd.mk (Q6.mk (0) (0) (0) (0)) (Qo.mk (0) (0) (false)) (Qb.mk (0) (0) (0) (([] : (List Int))) (false)) (Qj.mk (0) (0) (([] : (List Int)))) (Qt.mk (0) (0) (([] : (List Q1))) (false)) (Qe.mk (0) (0) (0) (([] : (List Q1))) (false)) (Qk.mk (0) (0) (0) (([] : (List (List ByteArray)))) (false))) (0) (0) (0) (0) (Z7.mk (0) (0)) (([] : (List Int))) (false)) (0) (v5.f5) (v5.fa0))) (ZC (ZC (ZC hv5.2)))) ?_
      refine rt (hL _ ?_)
      refine tD rfl ?_
      obtain rfl := h
      exact Qf (hQ _ _ ⟨.inr rfl, _, _, _, (.cons (.s rfl) (.cons (.p rfl) .nil)), (.cons (.c (.own rfl (by simp))) (.cons (.c (.p _)) .nil)), rfl, rfl⟩)
set_option maxRecDepth 100000
set_option maxHeartbeats 4000000
def BO (id : Nat) : Code → Option (Array Oper)
  | .region i ops _ => match Nat.beq i id with
    | true => some ops
    | false => none
  | .seq a b => (BO id a).or (BO id b)
  | .cond _ a b => (BO id a).or (BO id b)
  | .block _ a => BO id a
  | .loop a => BO id a
  | .scope a => BO id a
  | _ => none
section
variable {P : Program} {ops : Array Oper} {Q : Exit → Act → World → Prop} {listed : Array Bool} {fuel : Nat} {a : Act} {w : World} {E : En} {N : Nat} {st : St} {cx : Cx}
theorem Vo (L : List Nat) (hL : Region.ready .any ops listed = L) (hne : L ≠ []) (h : ∀ i ∈ L, wpOp P ops Q i (wpAny P .any ops Q fuel (listed.setIfInBounds i true)) a w) : wpAny P .any ops Q (fuel + 1) listed a w :=
  ⟨fun h' => absurd (hL ▸ h') hne, fun i hi => h i (hL ▸ hi)⟩
theorem Kj {i : Nat} {o : Oper} {f : Fp} {ef : Ef} {K : Act → World → Prop} (hr : ZY E N cx st a w) (ho : ops[i]? = some o) (hg : o.guard = none) (hop : KC E N P ops o st f ef) (hf : f.al.all (fun b => YX b st) = true) (hd : o.dst.all (fun d => Nat.blt d N) = true)
    (k : ∀ cx' a' w', ZY E N cx' (ef.ap o st) a' w' → K a' w') : wpOp P ops Q i K a w := by
  unfold wpOp
  rw [ho]
  simp only
  have hw : Region.wanted o (yielded ops a.tmps) = true := by unfold Region.wanted; rw [hg]
  rw [if_pos hw]
  refine .inl (Oper.wp_mono ?_ (hop st ⟨fun _ _ => rfl, fun _ _ => rfl⟩ (fun b hb => Wg (List.all_eq_true.1 hf b hb)) (fun d hd' => ?_) cx a w Q hr))
  · rintro a' w' ⟨cx', hr'⟩; exact k cx' a' w' hr'
  · rw [hd'] at hd
    exact Nat.le_of_ble_eq_true hd
theorem OF (hL : Region.ready .any ops listed = []) (h : Q .normal a w) : wpAny P .any ops Q 0 listed a w := ⟨hL, h⟩
theorem ZY.sub {st' : St} (hr : ZY E N cx st a w) (h : QC st st') : ∃ cx', ZY E N cx' st' a w := h E N cx a w hr
end
def Dk (v1 v2 : Value) : Qg := Qg.mk false (Qq.mk 0 ByteArray.empty ByteArray.empty [] (Q6.mk 0 0 0 0) [] [] 0 0 0 0 0 0 (Qu.mk 0 ByteArray.empty 0 0 0) []) (Qy.mk 0 0 false [] 0 (Qd.mk (Q6.mk 0 0 0 0) (Qo.mk 0 0 false) (Qb.mk 0 0 0 [] false) (Qj.mk 0 0 []) (Qt.mk 0 0 [] false) (Qe.mk 0 0 0 [] false) (Qk.mk 0 0 0 [] false)) (Qd.mk (Q6.mk 0 0 0 0) (Qo.mk 0 0 false) (Qb.mk 0 0 0 [] false) (Qj.mk 0 0 []) (Qt.mk 0 0 [] false) (Qe.mk 0 0 0 [] false) (Qk.mk 0 0 0 [] false)) 0 0 0 0 (Z7.mk 0 0) [] false) 0 v1 v2
def zC (v1 v2 : Value) : List CV := [.p (.v (.bool (false))), .p (.v (.int .i64 0)), .p (.v (.string (ByteArray.empty))), .p (.v (.string (ByteArray.empty))), .p (.v (.slice none 0 0)), .p (.v (.int .i64 0)), .p (.v (.int .i64 0)), .p (.v (.int .i64 0)), .p (.v (.int .u64 (0))), .p (.v (.slice none 0 0)), .p (.v (.slice none 0 0)), .p (.v (.int .i64 0)), .p (.v (.int .i64 0)), .p (.v (.int .i64 0)), .p (.v (.int .i64 0)), .p (.v (.int .i64 0)), .p (.v (.int .i64 0)), .p (.v (.int .i64 0)), .p (.v (.string (ByteArray.empty))), .p (.v (.int .i64 0)), .p (.v (.int .i64 0)), .p (.v (.int .i64 0)), .p (.v (.slice none 0 0)), .p (.v (.int .i64 0)), .p (.v (.int .i64 0)), .p (.v (.bool (false))), .p (.v (.slice none 0 0)), .p (.v (.int .i64 0)), .p (.v (.int .i64 0)), .p (.v (.int .i64 0)), .p (.v (.int .i64 0)), .p (.v (.int .u64 (0))), .p (.v (.int .i64 0)), .p (.v (.int .i64 0)), .p (.v (.bool (false))), .p (.v (.int .i64 0)), .p (.v (.int .i64 0)), .p (.v (.int .u64 (0))), .p (.v (.slice none 0 0)), .p (.v (.bool (false))), .p (.v (.int .i64 0)), .p (.v (.int .u64 (0))), .p (.v (.slice none 0 0)), .p (.v (.int .i64 0)), .p (.v (.int .i64 0)), .p (.v (.slice none 0 0)), .p (.v (.bool (false))), .p (.v (.int .i64 0)), .p (.v (.int .i64 0)), .p (.v (.int .i64 0)), .p (.v (.slice none 0 0)), .p (.v (.bool (false))), .p (.v (.int .i64 0)), .p (.v (.int .i64 0)), .p (.v (.int .i64 0)), .p (.v (.slice none 0 0)), .p (.v (.bool (false))), .p (.v (.int .i64 0)), .p (.v (.int .i64 0)), .p (.v (.int .i64 0)), .p (.v (.int .u64 (0))), .p (.v (.int .i64 0)), .p (.v (.int .i64 0)), .p (.v (.bool (false))), .p (.v (.int .i64 0)), .p (.v (.int .i64 0)), .p (.v (.int .u64 (0))), .p (.v (.slice none 0 0)), .p (.v (.bool (false))), .p (.v (.int .i64 0)), .p (.v (.int .u64 (0))), .p (.v (.slice none 0 0)), .p (.v (.int .i64 0)), .p (.v (.int .i64 0)), .p (.v (.slice none 0 0)), .p (.v (.bool (false))), .p (.v (.int .i64 0)), .p (.v (.int .i64 0)), .p (.v (.int .i64 0)), .p (.v (.slice none 0 0)), .p (.v (.bool (false))), .p (.v (.int .i64 0)), .p (.v (.int .i64 0)), .p (.v (.int .i64 0)), .p (.v (.slice none 0 0)), .p (.v (.bool (false))), .p (.v (.int .i64 0)), .p (.v (.int .i64 0)), .p (.v (.int .i64 0)), .p (.v (.int .i64 0)), .p (.v (.int .i64 0)), .p (.v (.int .i64 0)), .p (.v (.slice none 0 0)), .p (.v (.bool (false))), .p (.v (.int .i64 0)), .p (.o (v1)), .p (.o (v2))]
noncomputable def Co : Array Oper := ((Tryz.f20.body.bind (BO 7)).getD #[])
abbrev Y7 (ts : List Qg) : Bk := .row 97 (List.map Z8 ts) true
abbrev Xw (ts : List Qg) : Nat := (List.map Z8 ts).length
def q0 (n i : Int) (ts : List Qg) : List (Nat × TV) := [(0, .c (.p (.v (.int .i64 n)))), (4, .c (.sl (4, 1000) 0 (Xw ts))), (5, .c (.p (.v (.int .i64 i))))]
def PW (b : Bool) (ts : List Qg) : List (Nat × TV) := match b with
  | true => [(17, .c (.sl (4, 1000) 0 (Xw ts)))]
  | false => []
def qF (n i : Int) (ts : List Qg) : St := ⟨q0 n i ts, [((4, 1000), some (Y7 ts))]⟩
def q3 (b : Bool) (n i : Int) (ts : List Qg) (v1 v2 : Value) : St := ⟨q0 n i ts ++ PW b ts ++ [(18, .c (.p (.o v1))), (19, .c (.p (.o v2)))], [((4, 1000), some (Y7 ts))]⟩
def q4 (b : Bool) (n i : Int) (ts : List Qg) (v1 v2 : Value) : St := ⟨q0 n i ts ++ PW b ts ++ [(20, .agg (zC v1 v2))], [((4, 1000), some (Y7 ts))]⟩
def q5 (b : Bool) (n i : Int) (ts : List Qg) (v1 v2 : Value) : St := ⟨q0 n i ts ++ PW b ts ++ [(21, .c (.sl (21, 0) 0 1))], [((4, 1000), some (Y7 ts)), ((21, 0), some (Y7 [Dk v1 v2]))]⟩
noncomputable abbrev nN : Nat := Tryz.f20.ntmps
section
variable {E : En} {Q : Exit → Act → World → Prop} {a : Act} {w : World} {cx : Cx} {n i : Int} {ts : List Qg} {v1 v2 : Value} {b : Bool}
theorem P3 (hl : ts.length ≤ 64) (hQ : ∀ a' w' cx', ZY E nN cx' (qF n i (ts ++ [Dk v1 v2])) a' w' → Q .normal a' w') (hr : ZY E nN cx (q5 true n i ts v1 v2) a w) : wpAny Tryz.prog .any Co Q 2 #[true, true, true, true, true, false, false] a w := by
  refine Vo [5] (by kernel_rfl) (by simp) fun j hj => ?_
  obtain rfl := List.mem_singleton.1 hj
  refine Kj hr rfl rfl (QI (f := Z8) (L := ts) (L' := [Dk v1 v2]) (by' := 1088) (by simp; omega) rfl rfl rfl rfl rfl rfl rfl rfl rfl rfl rfl (QZ QJ rfl rfl rfl rfl rfl rfl)) rfl rfl fun cx1 a1 w1 hr1 => ?_
  refine Vo [6] (by kernel_rfl) (by simp) fun j hj => ?_
  obtain rfl := List.mem_singleton.1 hj
  refine Kj hr1 rfl rfl (WJ rfl rfl) rfl rfl fun cx2 a2 w2 hr2 => ?_
  obtain ⟨cx3, hr3⟩ := hr2.sub (st' := qF n i (ts ++ [Dk v1 v2])) (QC.nm [0, 4, 5] [((22, 0), (4, 1000))] rfl (by kernel_rfl))
  exact OF (by kernel_rfl) (hQ _ _ _ hr3)
theorem r7_5 (hl : ts.length ≤ 64) (hQ : ∀ a' w' cx', ZY E nN cx' (qF n i (ts ++ [Dk v1 v2])) a' w' → Q .normal a' w') (hr : ZY E nN cx (q5 false n i ts v1 v2) a w) : wpAny Tryz.prog .any Co Q 3 #[false, true, true, true, true, false, false] a w := by
  refine Vo [0] (by kernel_rfl) (by simp) fun j hj => ?_
  obtain rfl := List.mem_singleton.1 hj
  refine Kj hr rfl rfl (Qc rfl rfl) rfl rfl fun cx1 a1 w1 hr1 => ?_
  obtain ⟨cx2, hr2⟩ := hr1.sub (st' := q5 true n i ts v1 v2) QC.fit
  exact P3 hl hQ hr2
theorem P4 (hl : ts.length ≤ 64) (hQ : ∀ a' w' cx', ZY E nN cx' (qF n i (ts ++ [Dk v1 v2])) a' w' → Q .normal a' w') (hr : ZY E nN cx (q4 true n i ts v1 v2) a w) : wpAny Tryz.prog .any Co Q 3 #[true, true, true, true, false, false, false] a w := by
  refine Vo [4] (by kernel_rfl) (by simp) fun j hj => ?_
  obtain rfl := List.mem_singleton.1 hj
  refine Kj hr rfl rfl (Xi (rows := List.map Z8 [Dk v1 v2]) rfl rfl rfl rfl rfl rfl rfl rfl rfl (.cons (.k _) (.cons (.k _) (.cons (.k _) (.cons (.k _) (.cons (.nil _) (.cons (.k _) (.cons (.k _) (.cons (.k _) (.cons (.k _) (.cons (.nil _) (.cons (.nil _) (.cons (.k _) (.cons (.k _) (.cons (.k _) (.cons (.k _) (.cons (.k _) (.cons (.k _) (.cons (.k _) (.cons (.k _) (.cons (.k _) (.cons (.k _) (.cons (.k _) (.cons (.nil _) (.cons (.k _) (.cons (.k _) (.cons (.k _) (.cons (.nil _) (.cons (.k _) (.cons (.k _) (.cons (.k _) (.cons (.k _) (.cons (.k _) (.cons (.k _) (.cons (.k _) (.cons (.k _) (.cons (.k _) (.cons (.k _) (.cons (.k _) (.cons (.nil _) (.cons (.k _) (.cons (.k _) (.cons (.k _) (.cons (.nil _) (.cons (.k _) (.cons (.k _) (.cons (.nil _) (.cons (.k _) (.cons (.k _) (.cons (.k _) (.cons (.k _) (.cons (.nil _) (.cons (.k _) (.cons (.k _) (.cons (.k _) (.cons (.k _) (.cons (.nil _) (.cons (.k _) (.cons (.k _) (.cons (.k _) (.cons (.k _) (.cons (.k _) (.cons (.k _) (.cons (.k _) (.cons (.k _) (.cons (.k _) (.cons (.k _) (.cons (.k _) (.cons (.nil _) (.cons (.k _) (.cons (.k _) (.cons (.k _) (.cons (.nil _) (.cons (.k _) (.cons (.k _) (.cons (.nil _) (.cons (.k _) (.cons (.k _) (.cons (.k _) (.cons (.k _) (.cons (.nil _) (.cons (.k _) (.cons (.k _) (.cons (.k _) (.cons (.k _) (.cons (.nil _) (.cons (.k _) (.cons (.k _) (.cons (.k _) (.cons (.k _) (.cons (.k _) (.cons (.k _) (.cons (.k _) (.cons (.nil _) (.cons (.k _) (.cons (.k _) (.cons (.k _) (.cons (.k _) .nil)))))))))))))))))))))))))))))))))))))))))))))))))))))))))))))))))))))))))))))))))))))))))))))))))) rfl rfl fun cx1 a1 w1 hr1 => ?_
  obtain ⟨cx2, hr2⟩ := hr1.sub (st' := q5 true n i ts v1 v2) QC.fit
  exact P3 hl hQ hr2
theorem r7_4 (hl : ts.length ≤ 64) (hQ : ∀ a' w' cx', ZY E nN cx' (qF n i (ts ++ [Dk v1 v2])) a' w' → Q .normal a' w') (hr : ZY E nN cx (q4 false n i ts v1 v2) a w) : wpAny Tryz.prog .any Co Q 4 #[false, true, true, true, false, false, false] a w := by
  refine Vo [0, 4] (by kernel_rfl) (by simp) fun j hj => ?_
  rcases List.mem_cons.1 hj with rfl | hj
  · refine Kj hr rfl rfl (Qc rfl rfl) rfl rfl fun cx1 a1 w1 hr1 => ?_
    obtain ⟨cx2, hr2⟩ := hr1.sub (st' := q4 true n i ts v1 v2) QC.fit
    exact P4 hl hQ hr2
  · obtain rfl := List.mem_singleton.1 hj
    refine Kj hr rfl rfl (Xi (rows := List.map Z8 [Dk v1 v2]) rfl rfl rfl rfl rfl rfl rfl rfl rfl (.cons (.k _) (.cons (.k _) (.cons (.k _) (.cons (.k _) (.cons (.nil _) (.cons (.k _) (.cons (.k _) (.cons (.k _) (.cons (.k _) (.cons (.nil _) (.cons (.nil _) (.cons (.k _) (.cons (.k _) (.cons (.k _) (.cons (.k _) (.cons (.k _) (.cons (.k _) (.cons (.k _) (.cons (.k _) (.cons (.k _) (.cons (.k _) (.cons (.k _) (.cons (.nil _) (.cons (.k _) (.cons (.k _) (.cons (.k _) (.cons (.nil _) (.cons (.k _) (.cons (.k _) (.cons (.k _) (.cons (.k _) (.cons (.k _) (.cons (.k _) (.cons (.k _) (.cons (.k _) (.cons (.k _) (.cons (.k _) (.cons (.k _) (.cons (.nil _) (.cons (.k _) (.cons (.k _) (.cons (.k _) (.cons (.nil _) (.cons (.k _) (.cons (.k _) (.cons (.nil _) (.cons (.k _) (.cons (.k _) (.cons (.k _) (.cons (.k _) (.cons (.nil _) (.cons (.k _) (.cons (.k _) (.cons (.k _) (.cons (.k _) (.cons (.nil _) (.cons (.k _) (.cons (.k _) (.cons (.k _) (.cons (.k _) (.cons (.k _) (.cons (.k _) (.cons (.k _) (.cons (.k _) (.cons (.k _) (.cons (.k _) (.cons (.k _) (.cons (.nil _) (.cons (.k _) (.cons (.k _) (.cons (.k _) (.cons (.nil _) (.cons (.k _) (.cons (.k _) (.cons (.nil _) (.cons (.k _) (.cons (.k _) (.cons (.k _) (.cons (.k _) (.cons (.nil _) (.cons (.k _) (.cons (.k _) (.cons (.k _) (.cons (.k _) (.cons (.nil _) (.cons (.k _) (.cons (.k _) (.cons (.k _) (.cons (.k _) (.cons (.k _) (.cons (.k _) (.cons (.k _) (.cons (.nil _) (.cons (.k _) (.cons (.k _) (.cons (.k _) (.cons (.k _) .nil)))))))))))))))))))))))))))))))))))))))))))))))))))))))))))))))))))))))))))))))))))))))))))))))))) rfl rfl fun cx1 a1 w1 hr1 => ?_
    obtain ⟨cx2, hr2⟩ := hr1.sub (st' := q5 false n i ts v1 v2) QC.fit
    exact r7_5 hl hQ hr2
theorem P5 (hl : ts.length ≤ 64) (hQ : ∀ a' w' cx', ZY E nN cx' (qF n i (ts ++ [Dk v1 v2])) a' w' → Q .normal a' w') (hr : ZY E nN cx (q3 true n i ts v1 v2) a w) : wpAny Tryz.prog .any Co Q 4 #[true, true, true, false, false, false, false] a w := by
  refine Vo [3] (by kernel_rfl) (by simp) fun j hj => ?_
  obtain rfl := List.mem_singleton.1 hj
  refine Kj hr rfl rfl Wh rfl rfl fun cx1 a1 w1 hr1 => ?_
  obtain ⟨cx2, hr2⟩ := hr1.sub (st' := q4 true n i ts v1 v2) QC.fit
  exact P4 hl hQ hr2
theorem r7_3 (hl : ts.length ≤ 64) (hQ : ∀ a' w' cx', ZY E nN cx' (qF n i (ts ++ [Dk v1 v2])) a' w' → Q .normal a' w') (hr : ZY E nN cx (q3 false n i ts v1 v2) a w) : wpAny Tryz.prog .any Co Q 5 #[false, true, true, false, false, false, false] a w := by
  refine Vo [0, 3] (by kernel_rfl) (by simp) fun j hj => ?_
  rcases List.mem_cons.1 hj with rfl | hj
  · refine Kj hr rfl rfl (Qc rfl rfl) rfl rfl fun cx1 a1 w1 hr1 => ?_
    obtain ⟨cx2, hr2⟩ := hr1.sub (st' := q3 true n i ts v1 v2) QC.fit
    exact P5 hl hQ hr2
  · obtain rfl := List.mem_singleton.1 hj
    refine Kj hr rfl rfl Wh rfl rfl fun cx1 a1 w1 hr1 => ?_
    obtain ⟨cx2, hr2⟩ := hr1.sub (st' := q4 false n i ts v1 v2) QC.fit
    exact r7_4 hl hQ hr2
end
def GdS (S : List Qx) : Prop := ∀ s ∈ S, s.fa2.length ≤ 3
def OG (w : World) (A : Nat → Prop) (x : Qg) (g : Nat × Nat) : Prop :=
  (∃ c S, x.f5 = .slice (some ⟨g.1, 0, none⟩) 4 c ∧ 4 ≤ c ∧ c ≤ maxLen ∧ S.length = 4 ∧ GdS S ∧ U6 w A g.1 3 (List.map QE S)) ∧
  ∃ c C, x.fa0 = .slice (some ⟨g.2, 0, none⟩) 4 c ∧ 4 ≤ c ∧ c ≤ maxLen ∧ C.length = 4 ∧ U6 w A g.2 4 (List.map QW C)
abbrev zSn : Qx := Qx.mk false 0 []
abbrev zCu : QG := QG.mk false 0 ByteArray.empty 0
abbrev P6 : List (List PV) := List.map QE (List.replicate (Int.toNat 4) zSn)
abbrev P7 : List (List PV) := List.map QW (List.replicate (Int.toNat 4) zCu)
def q0b (b : Bool) (n i : Int) (ts : List Qg) : St := ⟨q0 n i ts ++ PW b ts, [((4, 1000), some (Y7 ts))]⟩
def q1 (b : Bool) (n i : Int) (ts : List Qg) : St := ⟨q0 n i ts ++ PW b ts ++ [(18, .c (.sl (18, 0) 0 P6.length))], [((4, 1000), some (Y7 ts)), ((18, 0), some (.row 3 P6 true))]⟩
def q2 (b : Bool) (n i : Int) (ts : List Qg) : St := ⟨q0 n i ts ++ PW b ts ++ [(19, .c (.sl (19, 0) 0 P7.length))], [((4, 1000), some (Y7 ts)), ((19, 0), some (.row 4 P7 true))]⟩
def q12 (b : Bool) (n i : Int) (ts : List Qg) : St := ⟨q0 n i ts ++ PW b ts ++ [(18, .c (.sl (18, 0) 0 P6.length)), (19, .c (.sl (19, 0) 0 P7.length))], [((4, 1000), some (Y7 ts)), ((18, 0), some (.row 3 P6 true)), ((19, 0), some (.row 4 P7 true))]⟩
section
variable {E : En} {Q : Exit → Act → World → Prop} {a : Act} {w : World} {cx : Cx} {n i : Int} {ts : List Qg} {v1 v2 : Value} {b : Bool}
theorem qF_h {b' : QX} (h : (qF n i ts).h b' ≠ none) : b' = (4, 1000) := by
  cases hb : XU (4, 1000) b' with
  | true => exact (K3.1 hb).symm
  | false =>
    exfalso
    apply h
    show (U8 [((4, 1000), some (Y7 ts))] b').getD none = none
    simp only [U8, hb]
    rfl
def Cnv (E : En) (n i : Int) (ts : List Qg) (a : Act) (w : World) (cx : Cx) (v1 v2 : Value) : Prop :=
  ZY E nN cx (qF n i ts) a w ∧ ∃ g, OG w cx.A (Dk v1 v2) g ∧ g.1 ≠ g.2 ∧ ∀ x, x = g.1 ∨ x = g.2 → ¬ cx.A x ∧ ¬ Own cx (qF n i ts) x ∧ (E.w0.heap.size ≤ x ∨ E.M x)
theorem cv3 (hr : ZY E nN cx (q12 b n i ts) a w) : ∃ v1 v2, Cnv E n i ts a w cx v1 v2 ∧ ZY ⟨w, cx.A, Own cx (qF n i ts), cx.ι⟩ nN cx (q3 b n i ts v1 v2) a w := by
  obtain ⟨g1, c1, e1, l1, m1, i1, r1, n1⟩ := LR hr (s := 18) (b := (18, 0)) (e := 3) (rows := P6) (m := P6.length) (by cases b <;> rfl) rfl (by simp) (Nat.le_refl _)
  obtain ⟨g2, c2, e2, l2, m2, i2, r2, n2⟩ := LR hr (s := 19) (b := (19, 0)) (e := 4) (rows := P7) (m := P7.length) (by cases b <;> rfl) rfl (by simp) (Nat.le_refl _)
  have h1 := hr.re (s := 18) (t := .c (.p (.o (.slice (some ⟨g1, 0, none⟩) P6.length c1)))) (by rw [e1]; exact ⟨.inr rfl, .o _ rfl⟩)
  have h2 := h1.re (s := 19) (t := .c (.p (.o (.slice (some ⟨g2, 0, none⟩) P7.length c2)))) (by rw [e2]; exact ⟨.inr rfl, .o _ rfl⟩)
  have h3 : ZY E nN cx (q3 b n i ts (.slice (some ⟨g1, 0, none⟩) P6.length c1) (.slice (some ⟨g2, 0, none⟩) P7.length c2)) a w := by
    cases b
    · exact h2.cut ⟨rfl, rfl, rfl, rfl, rfl, trivial⟩ ⟨rfl, trivial⟩
    · exact h2.cut ⟨rfl, rfl, rfl, rfl, rfl, rfl, trivial⟩ ⟨rfl, trivial⟩
  have h4 : ZY E nN cx (qF n i ts) a w := by
    cases b
    · exact h2.cut ⟨rfl, rfl, rfl, trivial⟩ ⟨rfl, trivial⟩
    · exact h2.cut ⟨rfl, rfl, rfl, trivial⟩ ⟨rfl, trivial⟩
  have hno : ∀ (c : QX) (g q : Nat), c ≠ (4, 1000) → (q12 b n i ts).h c ≠ none → cx.ι c = some (g, q) → ¬ Own cx (qF n i ts) g := by
    rintro c g q hc hl hi ⟨b', q', hb', hi'⟩
    have := qF_h hb'
    subst this
    exact hr.inj (4, 1000) c g q' g q (fun h => by cases h) hl hi' hi (Ne.symm hc) rfl
  refine ⟨_, _, ⟨h4, (g1, g2), ⟨⟨c1, List.replicate (Int.toNat 4) zSn, rfl, l1, m1, rfl, fun s hs => by rw [List.eq_of_mem_replicate hs]; simp, r1⟩, c2, List.replicate (Int.toNat 4) zCu, rfl, l2, m2, rfl, r2⟩, ?_, ?_⟩, h3.base⟩
  · exact hr.inj (18, 0) (19, 0) g1 0 g2 0 (fun h => by cases h) (fun h => by cases h) i1 i2 (by simp)
  · rintro x (rfl | rfl)
    · exact ⟨n1, hno (18, 0) _ 0 (by simp) (fun h => by cases h) i1, (hr.own (18, 0) _ 0 (fun h => by cases h) i1).2⟩
    · exact ⟨n2, hno (19, 0) _ 0 (by simp) (fun h => by cases h) i2, (hr.own (19, 0) _ 0 (fun h => by cases h) i2).2⟩
variable (hl : ts.length ≤ 64) (hQ : ∀ a3 w3 cx3 v1 v2, Cnv E n i ts a3 w3 cx3 v1 v2 → ∀ a' w' cx', ZY ⟨w3, cx3.A, Own cx3 (qF n i ts), cx3.ι⟩ nN cx' (qF n i (ts ++ [Dk v1 v2])) a' w' → Q .normal a' w')
include hl hQ
theorem NB (hr : ZY E nN cx (q12 true n i ts) a w) : wpAny Tryz.prog .any Co Q 4 #[true, true, true, false, false, false, false] a w := by
  obtain ⟨v1, v2, hc, hr2⟩ := cv3 hr
  exact P5 hl (hQ _ _ _ _ _ hc) hr2
theorem P8 (hr : ZY E nN cx (q12 false n i ts) a w) : wpAny Tryz.prog .any Co Q 5 #[false, true, true, false, false, false, false] a w := by
  obtain ⟨v1, v2, hc, hr2⟩ := cv3 hr
  exact r7_3 hl (hQ _ _ _ _ _ hc) hr2
theorem P9 (hr : ZY E nN cx (q1 true n i ts) a w) : wpAny Tryz.prog .any Co Q 5 #[true, true, false, false, false, false, false] a w := by
  refine Vo [2] (by kernel_rfl) (by simp) fun j hj => ?_
  obtain rfl := List.mem_singleton.1 hj
  refine Kj hr rfl rfl (Wx (f := QW) (z := zCu) (n := 4) (by decide) rfl rfl rfl rfl rfl rfl rfl rfl rfl (.cons (.k _) (.cons (.k _) (.cons (.k _) (.cons (.k _) .nil))))) rfl rfl fun cx1 a1 w1 hr1 => ?_
  obtain ⟨cx2, hr2⟩ := hr1.sub (st' := q12 true n i ts) QC.fit
  exact NB hl hQ hr2
theorem r7_1 (hr : ZY E nN cx (q1 false n i ts) a w) : wpAny Tryz.prog .any Co Q 6 #[false, true, false, false, false, false, false] a w := by
  refine Vo [0, 2] (by kernel_rfl) (by simp) fun j hj => ?_
  rcases List.mem_cons.1 hj with rfl | hj
  · refine Kj hr rfl rfl (Qc rfl rfl) rfl rfl fun cx1 a1 w1 hr1 => ?_
    obtain ⟨cx2, hr2⟩ := hr1.sub (st' := q1 true n i ts) QC.fit
    exact P9 hl hQ hr2
  · obtain rfl := List.mem_singleton.1 hj
    refine Kj hr rfl rfl (Wx (f := QW) (z := zCu) (n := 4) (by decide) rfl rfl rfl rfl rfl rfl rfl rfl rfl (.cons (.k _) (.cons (.k _) (.cons (.k _) (.cons (.k _) .nil))))) rfl rfl fun cx1 a1 w1 hr1 => ?_
    obtain ⟨cx2, hr2⟩ := hr1.sub (st' := q12 false n i ts) QC.fit
    exact P8 hl hQ hr2
theorem Pb (hr : ZY E nN cx (q2 true n i ts) a w) : wpAny Tryz.prog .any Co Q 5 #[true, false, true, false, false, false, false] a w := by
  refine Vo [1] (by kernel_rfl) (by simp) fun j hj => ?_
  obtain rfl := List.mem_singleton.1 hj
  refine Kj hr rfl rfl (Wx (f := QE) (z := zSn) (n := 4) (by decide) rfl rfl rfl rfl rfl rfl rfl rfl rfl (.cons (.k _) (.cons (.k _) (.cons (.nil _) .nil)))) rfl rfl fun cx1 a1 w1 hr1 => ?_
  obtain ⟨cx2, hr2⟩ := hr1.sub (st' := q12 true n i ts) QC.fit
  exact NB hl hQ hr2
theorem r7_2 (hr : ZY E nN cx (q2 false n i ts) a w) : wpAny Tryz.prog .any Co Q 6 #[false, false, true, false, false, false, false] a w := by
  refine Vo [0, 1] (by kernel_rfl) (by simp) fun j hj => ?_
  rcases List.mem_cons.1 hj with rfl | hj
  · refine Kj hr rfl rfl (Qc rfl rfl) rfl rfl fun cx1 a1 w1 hr1 => ?_
    obtain ⟨cx2, hr2⟩ := hr1.sub (st' := q2 true n i ts) QC.fit
    exact Pb hl hQ hr2
  · obtain rfl := List.mem_singleton.1 hj
    refine Kj hr rfl rfl (Wx (f := QE) (z := zSn) (n := 4) (by decide) rfl rfl rfl rfl rfl rfl rfl rfl rfl (.cons (.k _) (.cons (.k _) (.cons (.nil _) .nil)))) rfl rfl fun cx1 a1 w1 hr1 => ?_
    obtain ⟨cx2, hr2⟩ := hr1.sub (st' := q12 false n i ts) QC.fit
    exact P8 hl hQ hr2
theorem r7_0t (hr : ZY E nN cx (q0b true n i ts) a w) : wpAny Tryz.prog .any Co Q 6 #[true, false, false, false, false, false, false] a w := by
  refine Vo [1, 2] (by kernel_rfl) (by simp) fun j hj => ?_
  rcases List.mem_cons.1 hj with rfl | hj
  · refine Kj hr rfl rfl (Wx (f := QE) (z := zSn) (n := 4) (by decide) rfl rfl rfl rfl rfl rfl rfl rfl rfl (.cons (.k _) (.cons (.k _) (.cons (.nil _) .nil)))) rfl rfl fun cx1 a1 w1 hr1 => ?_
    obtain ⟨cx2, hr2⟩ := hr1.sub (st' := q1 true n i ts) QC.fit
    exact P9 hl hQ hr2
  · obtain rfl := List.mem_singleton.1 hj
    refine Kj hr rfl rfl (Wx (f := QW) (z := zCu) (n := 4) (by decide) rfl rfl rfl rfl rfl rfl rfl rfl rfl (.cons (.k _) (.cons (.k _) (.cons (.k _) (.cons (.k _) .nil))))) rfl rfl fun cx1 a1 w1 hr1 => ?_
    obtain ⟨cx2, hr2⟩ := hr1.sub (st' := q2 true n i ts) QC.fit
    exact Pb hl hQ hr2
theorem r7_0 (hr : ZY E nN cx (q0b false n i ts) a w) : wpAny Tryz.prog .any Co Q 7 #[false, false, false, false, false, false, false] a w := by
  refine Vo [0, 1, 2] (by kernel_rfl) (by simp) fun j hj => ?_
  rcases List.mem_cons.1 hj with rfl | hj
  · refine Kj hr rfl rfl (Qc rfl rfl) rfl rfl fun cx1 a1 w1 hr1 => ?_
    obtain ⟨cx2, hr2⟩ := hr1.sub (st' := q0b true n i ts) QC.fit
    exact r7_0t hl hQ hr2
  · rcases List.mem_cons.1 hj with rfl | hj
    · refine Kj hr rfl rfl (Wx (f := QE) (z := zSn) (n := 4) (by decide) rfl rfl rfl rfl rfl rfl rfl rfl rfl (.cons (.k _) (.cons (.k _) (.cons (.nil _) .nil)))) rfl rfl fun cx1 a1 w1 hr1 => ?_
      obtain ⟨cx2, hr2⟩ := hr1.sub (st' := q1 false n i ts) QC.fit
      exact r7_1 hl hQ hr2
    · obtain rfl := List.mem_singleton.1 hj
      refine Kj hr rfl rfl (Wx (f := QW) (z := zCu) (n := 4) (by decide) rfl rfl rfl rfl rfl rfl rfl rfl rfl (.cons (.k _) (.cons (.k _) (.cons (.k _) (.cons (.k _) .nil))))) rfl rfl fun cx1 a1 w1 hr1 => ?_
      obtain ⟨cx2, hr2⟩ := hr1.sub (st' := q2 false n i ts) QC.fit
      exact r7_2 hl hQ hr2
end
set_option maxRecDepth 100000
set_option maxHeartbeats 4000000
def Ih (gs : List (Nat × Nat)) : List Nat := gs.flatMap fun g => [g.1, g.2]
theorem JX {gs : List (Nat × Nat)} {x : Nat} : x ∈ Ih gs ↔ ∃ g ∈ gs, x = g.1 ∨ x = g.2 := by simp [Ih, List.mem_flatMap]
def Apart (gs : List (Nat × Nat)) : Prop := (∀ g ∈ gs, g.1 ≠ g.2) ∧ ∀ (k k' : Nat) g g', gs[k]? = some g → gs[k']? = some g' → k ≠ k' → g.1 ≠ g'.1 ∧ g.1 ≠ g'.2 ∧ g.2 ≠ g'.1 ∧ g.2 ≠ g'.2
structure DT (w : World) (A O lo : Nat → Prop) (ts : List Qg) (gs : List (Nat × Nat)) : Prop where
  len : gs.length = ts.length
  els : ∀ (k : Nat) x g, ts[k]? = some x → gs[k]? = some g → OG w A x g
  nd : Apart gs
  off : ∀ x ∈ Ih gs, ¬ A x ∧ ¬ O x ∧ lo x
structure Fr (w0 : World) (A0 : Nat → Prop) (w : World) (cx : Cx) (st : St) : Prop where
  sz : w0.heap.size ≤ w.heap.size
  kept : ∀ g, g < w0.heap.size → w.heap[g]? = w0.heap[g]?
  A : ∀ g, A0 g → cx.A g
  A' : ∀ g, cx.A g → A0 g ∨ w0.heap.size ≤ g
  own : ∀ g, Own cx st g → w0.heap.size ≤ g
  os : w.os = w0.os
  tape : w.tape = w0.tape
  output : w.output = w0.output
section
variable {E : En} {N : Nat} {P : Program} {st st' : St} {cx cx' : Cx} {a : Act} {w w' w0 : World} {A0 lo X : Nat → Prop} {ts : List Qg} {gs : List (Nat × Nat)}
theorem OG.keeps {A A' : Nat → Prop} {x : Qg} {g : Nat × Nat} (h : OG w A x g) (hA : ∀ g, A g → A' g) (hk : Ja A w w') (h1 : w'.heap[g.1]? = w.heap[g.1]?) (h2 : w'.heap[g.2]? = w.heap[g.2]?) : OG w' A' x g := by
  obtain ⟨⟨c, S, e1, l1, m1, n1, d1, r1⟩, c2, C, e2, l2, m2, n2, r2⟩ := h
  exact ⟨⟨c, S, e1, l1, m1, n1, d1, r1.keeps hA hk h1⟩, c2, C, e2, l2, m2, n2, r2.keeps hA hk h2⟩
theorem OG.lt {A : Nat → Prop} {x : Qg} {g : Nat × Nat} (h : OG w A x g) : g.1 < w.heap.size ∧ g.2 < w.heap.size := by
  obtain ⟨⟨c, S, e1, l1, m1, n1, d1, r1⟩, c2, C, e2, l2, m2, n2, r2⟩ := h
  exact ⟨r1.lt, r2.lt⟩
theorem DT.at {A O : Nat → Prop} (h : DT w A O lo ts gs) {g : Nat × Nat} (hg : g ∈ gs) : ∃ x ∈ ts, OG w A x g := by
  obtain ⟨k, hk, rfl⟩ := List.getElem_of_mem hg
  have hl : k < ts.length := by rw [← h.len]; exact hk
  exact ⟨ts[k], List.getElem_mem hl, h.els k _ _ (List.getElem?_eq_getElem hl) (List.getElem?_eq_getElem hk)⟩
theorem DT.lt {A O : Nat → Prop} (h : DT w A O lo ts gs) {x : Nat} (hx : x ∈ Ih gs) : x < w.heap.size := by
  obtain ⟨g, hg, hx⟩ := JX.1 hx
  obtain ⟨y, hy, he⟩ := h.at hg
  have := he.lt
  rcases hx with rfl | rfl
  · exact this.1
  · exact this.2
theorem DT.lv (h : DT w cx.A (Own cx st) lo ts gs) (hl : Lv X cx st w cx' st' w') (hX : ∀ x ∈ Ih gs, ¬ X x) : DT w' cx'.A (Own cx' st') lo ts gs := by
  have hk : Ja cx.A w w' := ⟨hl.sz, hl.keepA⟩
  have hs : ∀ x ∈ Ih gs, w'.heap[x]? = w.heap[x]? := fun x hx => hl.kept x (h.lt hx) (h.off x hx).2.1 (hX x hx)
  refine ⟨h.len, fun k x g hx hg => ?_, h.nd, fun x hx => ⟨fun hA => ?_, fun hO => ?_, (h.off x hx).2.2⟩⟩
  · have hm := List.mem_of_getElem? hg
    exact (h.els k x g hx hg).keeps hl.A hk (hs _ (JX.2 ⟨g, hm, .inl rfl⟩)) (hs _ (JX.2 ⟨g, hm, .inr rfl⟩))
  · have := h.lt hx
    rcases hl.A' x hA with h1 | h1 | h1
    · exact (h.off x hx).1 h1
    · omega
    · exact (h.off x hx).2.1 h1
  · have := h.lt hx
    rcases hl.own x hO with h1 | h1
    · omega
    · exact (h.off x hx).2.1 h1
theorem Fr.lv (h : Fr w0 A0 w cx st) (hl : Lv X cx st w cx' st' w') (hX : ∀ x, X x → w0.heap.size ≤ x) : Fr w0 A0 w' cx' st' := by
  have hs := h.sz
  refine ⟨Nat.le_trans h.sz hl.sz, fun g hg => ?_, fun g hg => hl.A g (h.A g hg), fun g hg => ?_, fun g hg => ?_, hl.os.trans h.os, hl.tape.trans h.tape, hl.output.trans h.output⟩
  · rw [hl.kept g (by omega) (fun ho => by have := h.own g ho; omega) (fun hx => by have := hX g hx; omega)]
    exact h.kept g hg
  · rcases hl.A' g hg with h1 | h1 | h1
    · exact h.A' g h1
    · exact .inr (by omega)
    · exact .inr (h.own g h1)
  · rcases hl.own g hg with h1 | h1
    · omega
    · exact h.own g h1
def JI (w0 : World) (A0 : Nat → Prop) (N : Nat) (st : St) (ts : List Qg) (gs : List (Nat × Nat)) (a : Act) (w : World) : Prop :=
  ∃ E cx, ZY E N cx st a w ∧ DT w cx.A (Own cx st) (fun x => w0.heap.size ≤ x) ts gs ∧ Fr w0 A0 w cx st
theorem Ii {c : Code} {Q : Exit → St → Prop} (h : ∀ E, AW E N P c Q st) (hj : JI w0 A0 N st ts gs a w) (hm : st.mu = true) : c.wp P (fun e a' w' => ∃ st', Q e st' ∧ JI w0 A0 N st' ts gs a' w') a w := by
  obtain ⟨E, cx, hr, hi, hf⟩ := hj
  refine wp_mono (j_aw h hr hm) ?_
  rintro e a' w' ⟨st', cx', E', hq, hr', hl⟩
  exact ⟨st', hq, E', cx', hr', hi.lv hl (fun _ _ h => h), hf.lv hl (fun _ h => h.elim)⟩
theorem DU {x y : Code} {Q : Exit → Act → World → Prop} {st' : St} (h : ∀ E, AW E N P x (fun e s => e = .normal ∧ s = st') st) (hj : JI w0 A0 N st ts gs a w) (hm : st.mu = true) (k : ∀ a' w', JI w0 A0 N st' ts gs a' w' → y.wp P Q a' w') : (Code.seq x y).wp P Q a w := by
  refine wp_seq (wp_mono (Ii h hj hm) ?_)
  rintro e a' w' ⟨st2, ⟨rfl, rfl⟩, hj'⟩
  exact k a' w' hj'
theorem A9 {c : Code} {Q Q' : Exit → St → Prop} (h : AW E N P c Q st) (hq : ∀ e s, Q e s → ∃ s', QC s s' ∧ Q' e s') : AW E N P c Q' st := fun cx a w hr => wp_mono (h cx a w hr) fun e a' w' ⟨st', cx', h1, h2⟩ => by
  obtain ⟨s', h3, h4⟩ := hq e st' h1
  obtain ⟨cx2, h5⟩ := h3 E N cx' a' w' h2
  exact ⟨s', cx2, h4, h5⟩
theorem NC {fn : Func} {avs : List AV} {vs : Array Value} {A : Nat → Prop} {g q : Nat} (hN : fn.ntmps = N) (hN2 : Nat.ble N 65536 = true) (hl : avs.length ≤ N) (hn : avs.any AV.isRef = false) (hA : ∀ x, A x → x < w.heap.size) (hR : Mr w A (fun _ => none) g q avs vs.toList) :
    ZY ⟨w, A, fun _ => False, fun _ => none⟩ N ⟨fun _ => none, A⟩ ⟨Hm 0 avs, []⟩ { tmps := vs ++ Array.replicate (fn.ntmps - vs.size) undef, defers := [] } w := by
  obtain ⟨hvl, hfr⟩ := Lu (cx := ⟨fun _ => none, A⟩) (h := (⟨Hm 0 avs, []⟩ : St).h) (j := 0) hn hR
  have hsz : vs.size = avs.length := by simpa using hvl
  refine ⟨rfl, by simp; omega, fun s => ?_, fun b bk hb => ?_, fun b b' g o g' o' hb => ?_, fun b g o hb => ?_, fun x hx => ⟨hA x hx, .inl hx⟩, fun x hx => hx, fun _ _ _ => rfl, Nat.le_refl _, rfl, rfl, rfl, Nat.le_of_ble_eq_true hN2, fun _ _ => rfl⟩
  · have e : (⟨Hm 0 avs, []⟩ : St).g s = (ZA (Hm 0 avs) s).getD (.c .any) := rfl
    rw [e]
    cases hl : ZA (Hm 0 avs) s with
    | none => exact ⟨.inl rfl, trivial⟩
    | some t =>
      obtain ⟨i, v, h1, h2, h3⟩ := hfr s t hl
      rw [Nat.zero_add] at h1
      subst h1
      have hi := (List.getElem?_eq_some_iff.1 h2).1
      have : (vs ++ Array.replicate (fn.ntmps - vs.size) undef).getD s undef = v := by
        rw [Array.getD_eq_getD_getElem?, Array.getElem?_append_left (by simpa using hi)]
        rw [Array.getElem?_toList] at h2
        rw [h2]; rfl
      show RT _ w _ _ ((vs ++ Array.replicate (fn.ntmps - vs.size) undef).getD s undef)
      rw [this]
      exact h3
  · cases hb
  · exact absurd rfl hb
  · exact absurd rfl hb
theorem Le {gs : List (Nat × Nat)} {g : Nat × Nat} : Ih (gs ++ [g]) = Ih gs ++ [g.1, g.2] := by simp [Ih]
theorem DT.snoc {A O lo : Nat → Prop} {x : Qg} {g : Nat × Nat} (h : DT w A O lo ts gs) (he : OG w A x g) (hne : g.1 ≠ g.2) (h1 : g.1 ∉ Ih gs) (h2 : g.2 ∉ Ih gs) (ho : ∀ y, y = g.1 ∨ y = g.2 → ¬ A y ∧ ¬ O y ∧ lo y) : DT w A O lo (ts ++ [x]) (gs ++ [g]) := by
  refine ⟨by simp [h.len], fun k y g' hy hg' => ?_, ?_, fun y hy => ?_⟩
  · by_cases hk : k < ts.length
    · rw [List.getElem?_append_left hk] at hy
      rw [List.getElem?_append_left (by rw [h.len]; exact hk)] at hg'
      exact h.els k y g' hy hg'
    · have hk2 : k = ts.length := by
        have := (List.getElem?_eq_some_iff.1 hy).1
        simp at this; omega
      subst hk2
      simp at hy
      rw [show (gs ++ [g])[ts.length]? = some g by rw [← h.len]; simp] at hg'
      cases hg'; subst hy; exact he
  · refine ⟨fun g' hg' => ?_, fun k k' a b ha hb hk => ?_⟩
    · rcases List.mem_append.1 hg' with h3 | h3
      · exact h.nd.1 g' h3
      · rw [List.mem_singleton.1 h3]; exact hne
    · have hin : ∀ (k : Nat) a, (gs ++ [g])[k]? = some a → (k < gs.length ∧ gs[k]? = some a) ∨ (k = gs.length ∧ a = g) := by
        intro k a ha
        by_cases hk : k < gs.length
        · rw [List.getElem?_append_left hk] at ha; exact .inl ⟨hk, ha⟩
        · have hl := (List.getElem?_eq_some_iff.1 ha).1
          simp at hl
          have : k = gs.length := by omega
          subst this
          simp at ha
          exact .inr ⟨rfl, ha.symm⟩
      have hout : ∀ (k : Nat) a, gs[k]? = some a → a.1 ≠ g.1 ∧ a.1 ≠ g.2 ∧ a.2 ≠ g.1 ∧ a.2 ≠ g.2 := by
        intro k a ha
        have hm := List.mem_of_getElem? ha
        refine ⟨fun e => h1 (e ▸ JX.2 ⟨a, hm, .inl rfl⟩), fun e => h2 (e ▸ JX.2 ⟨a, hm, .inl rfl⟩), fun e => h1 (e ▸ JX.2 ⟨a, hm, .inr rfl⟩), fun e => h2 (e ▸ JX.2 ⟨a, hm, .inr rfl⟩)⟩
      rcases hin k a ha with ⟨l1, h3⟩ | ⟨l1, rfl⟩ <;> rcases hin k' b hb with ⟨l2, h4⟩ | ⟨l2, rfl⟩
      · exact h.nd.2 k k' a b h3 h4 hk
      · exact hout k a h3
      · have := hout k' b h4
        exact ⟨Ne.symm this.1, Ne.symm this.2.2.1, Ne.symm this.2.1, Ne.symm this.2.2.2⟩
      · exact absurd (l1.trans l2.symm) hk
  · rw [Le, List.mem_append] at hy
    rcases hy with hy | hy
    · exact h.off y hy
    · exact ho y (by simpa using hy)
theorem OH {c : Code} {st2 : St} (hj : JI w0 A0 N st ts gs a w) (hm : st.mu = true) (hf : YX Jd st = true) (hf2 : YX Jd st2 = true) {k : Nat} {x : Qg} (hx : ts[k]? = some x)
    (h : ∀ E g cp S, x.f5 = .slice (some ⟨g, 0, none⟩) 4 cp → 4 ≤ cp → S.length = 4 → GdS S → E.pin Jd = some (g, 0) → AW E N P c (fun e s => e = .normal ∧ ∃ S', S'.length = 4 ∧ GdS S' ∧ s = ⟨st2.fr, (Jd, some (.row 3 (List.map QE S') true)) :: st2.H⟩) ⟨st.fr, (Jd, some (.row 3 (List.map QE S) true)) :: st.H⟩) :
    c.wp P (fun e a' w' => e = .normal ∧ JI w0 A0 N st2 ts gs a' w') a w := by
  obtain ⟨E, cx, hr, hi, hfr⟩ := hj
  have hkl : k < gs.length := by rw [hi.len]; exact (List.getElem?_eq_some_iff.1 hx).1
  have hg : gs[k]? = some gs[k] := List.getElem?_eq_getElem hkl
  generalize gs[k] = g at hg
  have hgm := List.mem_of_getElem? hg
  obtain ⟨⟨cp, S, e1, l1, m1, n1, d1, r1⟩, hcur⟩ := hi.els k x g hx hg
  have hoff := hi.off g.1 (JX.2 ⟨g, hgm, .inl rfl⟩)
  refine wp_mono (P1 (fun E hp => h E g.1 cp S e1 l1 n1 d1 hp) hr hm hf r1 hoff.1 hoff.2.1 ?_) ?_
  · rintro ex st' ⟨rfl, S', h1, h2, rfl⟩
    exact ⟨st2, _, rfl, hf2⟩
  rintro ex a' w' ⟨st3, cx', E', rows', ⟨rfl, S', h1, h2, h3⟩, hr', hl, r2, n2, o2⟩
  simp only [St.mk.injEq, List.cons.injEq, Prod.mk.injEq, Option.some.injEq, Bk.row.injEq, true_and, and_true] at h3
  obtain ⟨h4, h5, h6⟩ := h3
  have h7 : st3 = st2 := by cases st3; cases st2; simp_all
  subst h7 h5
  have hk : Ja cx.A w w' := ⟨hl.sz, hl.keepA⟩
  have hs : ∀ y ∈ Ih gs, y ≠ g.1 → w'.heap[y]? = w.heap[y]? := fun y hy hne => hl.kept y (hi.lt hy) (hi.off y hy).2.1 hne
  refine ⟨rfl, E', cx', hr', ⟨hi.len, fun k' x' g' hx' hg' => ?_, hi.nd, fun y hy => ⟨fun hA => ?_, fun hO => ?_, (hi.off y hy).2.2⟩⟩, hfr.lv hl (fun y hy => hy ▸ hoff.2.2)⟩
  · have hm' := List.mem_of_getElem? hg'
    by_cases hkk : k' = k
    · subst hkk
      rw [hx] at hx'; cases hx'
      rw [hg] at hg'; cases hg'
      obtain ⟨c2, C, e3, l3, m3, n3, r3⟩ := hcur
      exact ⟨⟨cp, S', e1, l1, m1, h1, h2, r2⟩, c2, C, e3, l3, m3, n3, r3.keeps hl.A hk (hs _ (JX.2 ⟨g, hgm, .inr rfl⟩) (Ne.symm (hi.nd.1 g hgm)))⟩
    · have := hi.nd.2 k k' g g' hg hg' (Ne.symm hkk)
      exact (hi.els k' x' g' hx' hg').keeps hl.A hk (hs _ (JX.2 ⟨g', hm', .inl rfl⟩) (Ne.symm this.1)) (hs _ (JX.2 ⟨g', hm', .inr rfl⟩) (Ne.symm this.2.1))
  · have := hi.lt hy
    rcases hl.A' y hA with h8 | h8 | h8
    · exact (hi.off y hy).1 h8
    · omega
    · exact (hi.off y hy).2.1 h8
  · have := hi.lt hy
    rcases hl.own y hO with h8 | h8
    · omega
    · exact (hi.off y hy).2.1 h8
theorem OI {c : Code} {st2 : St} (hj : JI w0 A0 N st ts gs a w) (hm : st.mu = true) (hf : YX Jd st = true) (hf2 : YX Jd st2 = true) {k : Nat} {x : Qg} (hx : ts[k]? = some x)
    (h : ∀ E g cp C, x.fa0 = .slice (some ⟨g, 0, none⟩) 4 cp → 4 ≤ cp → C.length = 4 → E.pin Jd = some (g, 0) → AW E N P c (fun e s => e = .normal ∧ ∃ C', C'.length = 4 ∧ s = ⟨st2.fr, (Jd, some (.row 4 (List.map QW C') true)) :: st2.H⟩) ⟨st.fr, (Jd, some (.row 4 (List.map QW C) true)) :: st.H⟩) :
    c.wp P (fun e a' w' => e = .normal ∧ JI w0 A0 N st2 ts gs a' w') a w := by
  obtain ⟨E, cx, hr, hi, hfr⟩ := hj
  have hkl : k < gs.length := by rw [hi.len]; exact (List.getElem?_eq_some_iff.1 hx).1
  have hg : gs[k]? = some gs[k] := List.getElem?_eq_getElem hkl
  generalize gs[k] = g at hg
  have hgm := List.mem_of_getElem? hg
  obtain ⟨⟨cs, S, e3, l3, m3, n3, d3, r3⟩, cp, C, e1, l1, m1, n1, r1⟩ := hi.els k x g hx hg
  have hoff := hi.off g.2 (JX.2 ⟨g, hgm, .inr rfl⟩)
  refine wp_mono (P1 (fun E hp => h E g.2 cp C e1 l1 n1 hp) hr hm hf r1 hoff.1 hoff.2.1 ?_) ?_
  · rintro ex st' ⟨rfl, C', h1, rfl⟩
    exact ⟨st2, _, rfl, hf2⟩
  rintro ex a' w' ⟨st3, cx', E', rows', ⟨rfl, C', h1, h3⟩, hr', hl, r2, n2, o2⟩
  simp only [St.mk.injEq, List.cons.injEq, Prod.mk.injEq, Option.some.injEq, Bk.row.injEq, true_and, and_true] at h3
  obtain ⟨h4, h5, h6⟩ := h3
  have h7 : st3 = st2 := by cases st3; cases st2; simp_all
  subst h7 h5
  have hk : Ja cx.A w w' := ⟨hl.sz, hl.keepA⟩
  have hs : ∀ y ∈ Ih gs, y ≠ g.2 → w'.heap[y]? = w.heap[y]? := fun y hy hne => hl.kept y (hi.lt hy) (hi.off y hy).2.1 hne
  refine ⟨rfl, E', cx', hr', ⟨hi.len, fun k' x' g' hx' hg' => ?_, hi.nd, fun y hy => ⟨fun hA => ?_, fun hO => ?_, (hi.off y hy).2.2⟩⟩, hfr.lv hl (fun y hy => hy ▸ hoff.2.2)⟩
  · have hm' := List.mem_of_getElem? hg'
    by_cases hkk : k' = k
    · subst hkk
      rw [hx] at hx'; cases hx'
      rw [hg] at hg'; cases hg'
      exact ⟨⟨cs, S, e3, l3, m3, n3, d3, r3.keeps hl.A hk (hs _ (JX.2 ⟨g, hgm, .inl rfl⟩) (hi.nd.1 g hgm))⟩, cp, C', e1, l1, m1, h1, r2⟩
    · have := hi.nd.2 k k' g g' hg hg' (Ne.symm hkk)
      exact (hi.els k' x' g' hx' hg').keeps hl.A hk (hs _ (JX.2 ⟨g', hm', .inl rfl⟩) (Ne.symm this.2.2.1)) (hs _ (JX.2 ⟨g', hm', .inr rfl⟩) (Ne.symm this.2.2.2))
  · have := hi.lt hy
    rcases hl.A' y hA with h8 | h8 | h8
    · exact (hi.off y hy).1 h8
    · omega
    · exact (hi.off y hy).2.1 h8
  · have := hi.lt hy
    rcases hl.own y hO with h8 | h8
    · omega
    · exact (hi.off y hy).2.1 h8
end
set_option maxRecDepth 100000
set_option maxHeartbeats 4000000
section
variable {a : Act} {w w0 : World} {A0 : Nat → Prop} {n i : Int} {ts : List Qg} {gs : List (Nat × Nat)}
theorem ji_r7 (hl : ts.length ≤ 64) (hj : JI w0 A0 nN (qF n i ts) ts gs a w) : (Code.region 7 Co true).wp Tryz.prog (fun e a' w' => e = .normal ∧ ∃ v1 v2 g, JI w0 A0 nN (qF n i (ts ++ [Dk v1 v2])) (ts ++ [Dk v1 v2]) (gs ++ [g]) a' w') a w := by
  obtain ⟨E, cx, hr, hi, hf⟩ := hj
  have hm : (qF n i ts).mu = true := rfl
  have hb := hr.drew.base
  have hi1 := hi.lv LQ (fun _ _ h => h)
  have hf1 := hf.lv LQ (fun _ h => h.elim)
  refine wp_region_any mixed (r7_0 (n := n) (i := i) (ts := ts) hl ?_ hb)
  rintro a3 w3 cx3 v1 v2 ⟨h3, g, he, hne, ho⟩ a' w' cx' hfin
  have l1 := Dc hr.drew hm h3
  have hi3 := hi1.lv l1 (fun _ _ h => h)
  have hf3 := hf1.lv l1 (fun _ h => h.elim)
  have hnot : ∀ x, x = g.1 ∨ x = g.2 → x ∉ Ih gs := fun x hx hm2 => by
    rcases (ho x hx).2.2 with h4 | h4
    · have := hi1.lt hm2; exact absurd this (Nat.not_lt.2 h4)
    · exact (hi1.off x hm2).2.1 h4
  have hho : ∀ y, y = g.1 ∨ y = g.2 → ¬ cx3.A y ∧ ¬ Own cx3 (qF n i ts) y ∧ w0.heap.size ≤ y := by
    intro y hy
    refine ⟨(ho y hy).1, (ho y hy).2.1, ?_⟩
    rcases (ho y hy).2.2 with h4 | h4
    · exact Nat.le_trans hf1.sz h4
    · exact hf1.own y h4
  have hi4 := hi3.snoc he hne (hnot _ (.inl rfl)) (hnot _ (.inr rfl)) hho
  have l2 := Dc h3 hm hfin
  exact ⟨rfl, v1, v2, g, _, cx', hfin, hi4.lv l2 (fun _ _ h => h), hf3.lv l2 (fun _ h => h.elim)⟩
def PX (w0 : World) (A0 : Nat → Prop) (w : World) (v : Value) (ts : List Qg) : Prop :=
  ∃ (A : Nat → Prop) (g c : Nat) (gs : List (Nat × Nat)), v = .slice (some ⟨g, 0, none⟩) ts.length c ∧ ts.length ≤ c ∧ c ≤ maxLen ∧ U6 w A g 97 (List.map Z8 ts) ∧ ¬ A g ∧ (∃ cc el, w.heap[g]? = some (.cells cc el (0, 0)) ∧ cc.size = c * 97) ∧
    DT w A (· = g) (fun x => w0.heap.size ≤ x) ts gs ∧ w0.heap.size ≤ g ∧ w0.heap.size ≤ w.heap.size ∧ (∀ g, g < w0.heap.size → w.heap[g]? = w0.heap[g]?) ∧ (∀ g, A0 g → A g) ∧ (∀ g, A g → g < w.heap.size ∧ (A0 g ∨ w0.heap.size ≤ g)) ∧ w.os = w0.os ∧ w.tape = w0.tape ∧ w.output = w0.output
theorem OJ (hA : ∀ x, A0 x → x < w0.heap.size) (hn1 : 1 ≤ n) (hn2 : n ≤ 4) : Calls Tryz.prog 20 #[.int .i64 n] w0 fun e w => ∃ v ts, e = .returned (.tuple #[v, .int .i64 0]) ∧ (ts.length : Int) = n ∧ (∀ x ∈ ts, ∃ v1 v2, x = Dk v1 v2) ∧ PX w0 A0 w v ts := by
  refine calls_of_wp Tryz.func20 rfl ?_
  have hwf : KE (.int .i64 n) = true := by
    simp [KE, Lit.wf, IntKind.min, IntKind.max, IntKind.signed, IntKind.bits]; omega
  have hr0 : ZY ⟨w0, A0, fun _ => False, fun _ => none⟩ nN ⟨fun _ => none, A0⟩ ⟨[(0, .c (.p (.v (.int .i64 n))))], []⟩ { tmps := #[Value.int .i64 n] ++ Array.replicate (nN - (#[Value.int .i64 n] : Array Value).size) undef, defers := [] } w0 :=
    NC (fn := Tryz.f20) (avs := [.c (.v (.int .i64 n))]) (g := 0) (q := 0) rfl (by kernel_rfl) (Nat.le_of_ble_eq_true (by kernel_rfl)) rfl hA ⟨.v _ hwf, trivial⟩
  have hj0 : JI w0 A0 nN ⟨[(0, .c (.p (.v (.int .i64 n))))], []⟩ [] [] { tmps := #[Value.int .i64 n] ++ Array.replicate (nN - (#[Value.int .i64 n] : Array Value).size) undef, defers := [] } w0 :=
    ⟨_, _, hr0, ⟨rfl, fun k x g hx => by simp at hx, ⟨fun g hg => by simp at hg, fun k k2 g g2 hg => by simp at hg⟩, fun x hx => by simp [Ih] at hx⟩, ⟨Nat.le_refl _, fun _ _ => rfl, fun _ h => h, fun _ h => .inl h, fun g ⟨b, q, hb, _⟩ => absurd rfl hb, rfl, rfl, rfl⟩⟩
  refine DU (fun E => tE rfl ⟨rfl, rfl⟩) hj0 rfl fun a1 w1 hj1 => ?_
  refine DU (st' := ⟨[(0, .c (.p (.v (.int .i64 n))))], []⟩) (fun E => ?_) hj1 rfl fun a2 w2 hj2 => ?_
  · refine tk fun L hL => ?_
    refine dN 3 rfl ?_
    refine Q2 rfl rfl Q4 (fun hg => Qc rfl rfl) ?_
    refine Q2 rfl rfl Q4 (fun hg => Qz (c := decide (n > 64)) (Qa hg) rfl rfl rfl rfl) ?_
    refine u0 (Qm (v := .bool (true)) (w := .bool (decide (n > 64))) rfl rfl Q4 rfl Qw) ?_
    refine rt (hL _ ?_)
    refine Y9 (b := (bif decide (n < 1) then true else decide (n > 64))) rfl rfl (fun h => ?_) fun h => ?_
    · have h1 : decide (n < 1) = false := by simp; omega
      have h2 : decide (n > 64) = false := by simp; omega
      rw [h1, h2] at h
      cases h
    · refine QQ (st' := ⟨[(0, .c (.p (.v (.int .i64 n))))], []⟩) QC.fit ?_
      exact Qh ⟨rfl, rfl⟩
  refine DU (fun E => tE rfl ⟨rfl, rfl⟩) hj2 rfl fun a3 w3 hj3 => ?_
  refine wp_seq ?_
  refine DU (st' := qF n 0 []) (fun E => ?_) hj3 rfl fun a4 w4 hj4 => ?_
  · refine A9 (Q := fun e s => e = .normal ∧ s = _) (tE rfl ⟨rfl, rfl⟩) ?_
    rintro e s ⟨rfl, rfl⟩
    exact ⟨_, (QC.blk (4, 1050) 97).trans ((QC.slot 4 rfl (.nilo (b := (4, 1050)) rfl)).trans (QC.nm [0, 4, 5] [((4, 1050), (4, 1000))] rfl (by kernel_rfl))), rfl, rfl⟩
  refine wp_block ?_
  refine Gp (fun k a w => ∃ (j : Nat) (ts : List Qg) (gs : List (Nat × Nat)), (j : Int) ≤ n ∧ ts.length = j ∧ k = n.toNat - j ∧ (∀ x ∈ ts, ∃ v1 v2, x = Dk v1 v2) ∧ JI w0 A0 nN (qF n (j : Int) ts) ts gs a w) ?_ (n.toNat - 0) _ _ ⟨0, [], [], by omega, rfl, rfl, fun x hx => by simp at hx, hj4⟩
  rintro k a w ⟨j, ts, gs, hjn, hlen, rfl, hz, hj⟩
  refine wp_seq ?_
  refine wp_mono (Ii (Q := fun e s => s = qF n (j : Int) ts ∧ ((e = .normal ∧ (j : Int) < n) ∨ (e = .exit 0 ∧ ¬ (j : Int) < n))) (fun E => ?_) hj rfl) ?_
  · refine tD rfl ?_
    refine Y9 (b := decide ((j : Int) < n)) rfl rfl (fun h => ?_) fun h => ?_
    · refine QQ (st' := qF n (j : Int) ts) QC.fit ?_
      exact Qh ⟨rfl, .inl ⟨rfl, by simpa using h⟩⟩
    · refine QQ (st' := qF n (j : Int) ts) QC.fit ?_
      exact QP ⟨rfl, .inr ⟨rfl, by simpa using h⟩⟩
  rintro e a5 w5 ⟨st5, ⟨rfl, hcase⟩, hj5⟩
  rcases hcase with ⟨rfl, hlt⟩ | ⟨rfl, hge⟩
  · -- a round
    refine wp_seq (wp_block (wp_mono (ji_r7 (by omega) hj5) ?_))
    rintro e a6 w6 ⟨rfl, v1, v2, g, hj6⟩
    refine wp_mono (Ii (Q := fun e s => e = .normal ∧ s = qF n ((j + 1 : Nat) : Int) (ts ++ [Dk v1 v2])) (fun E => ?_) hj6 rfl) ?_
    · refine A9 (Q := fun e s => e = .normal ∧ s = _) (tE rfl ⟨rfl, rfl⟩) ?_
      rintro e s ⟨rfl, rfl⟩
      have hw : IntKind.i64.wrap ((j : Int) + 1) = ((j + 1 : Nat) : Int) := by rw [IntKind.wrap_i64]; omega
      refine ⟨⟨[(0, .c (.p (.v (.int .i64 n)))), (4, .c (.sl (4, 1000) 0 (Xw (ts ++ [Dk v1 v2])))), (5, .c (.p (.v (.int .i64 (IntKind.i64.wrap ((j : Int) + 1))))))], [((4, 1000), some (Y7 (ts ++ [Dk v1 v2])))]⟩, QC.fit, rfl, ?_⟩
      rw [hw]; rfl
    rintro e a7 w7 ⟨st7, ⟨rfl, rfl⟩, hj7⟩
    exact ⟨_, by omega, j + 1, ts ++ [Dk v1 v2], gs ++ [g], by omega, by simp [hlen], rfl, fun x hx => by
      rcases List.mem_append.1 hx with h | h
      · exact hz x h
      · exact ⟨v1, v2, by simpa using h⟩, hj7⟩
  · -- the end
    have hjn' : (j : Int) = n := by omega
    simp only [Exit.then, Exit.inBlock, if_true]
    refine DU (fun E => tE rfl ⟨rfl, rfl⟩) hj5 rfl fun a8 w8 hj8 => ?_
    refine wp_ret ?_
    obtain ⟨E, cx, hr, hi, hf⟩ := hj8
    have hpos : 0 < (List.map Z8 ts).length := by simp; omega
    obtain ⟨g, c, e1, l1, m1, i1, r1, n1⟩ := LR hr (s := 2) (b := (4, 1000)) (e := 97) (rows := List.map Z8 ts) (m := Xw ts) rfl rfl hpos (Nat.le_refl _)
    have e2 : a8.tmps.getD 3 undef = .int .i64 0 := by
      have h2 := (hr.fr 3).2
      revert h2
      generalize a8.tmps.getD 3 undef = z
      intro h2
      cases h2 with | v _ _ => rfl
    refine bodyPost_ret (results_tmp2 rfl _ _ _) hr.defers ⟨_, ts, by rw [e1, e2], by omega, hz, cx.A, g, c, gs, by simp [Xw], by simpa [Xw] using l1, m1, r1, n1, ?_, ?_, ?_, hf.sz, hf.kept, hf.A, fun x hx => ⟨(hr.A x hx).1, hf.A' x hx⟩, hf.os, hf.tape, hf.output⟩
    · have h2 := (hr.fr 2).2 (Y7 ts) rfl
      obtain ⟨a', cap, h3, h4, h5, h6, h7⟩ := h2
      rcases h7 with h7 | ⟨g', cc, el, fz, h8, h9, h10, h11⟩
      · simp [Xw] at h4; omega
      · rw [i1] at h8; cases h8
        rw [e1] at h3; cases h3
        obtain ⟨_, _, c2, el2, capR, h12, _⟩ := r1
        rw [h12] at h10; cases h10
        exact ⟨_, _, h12, by simpa [Bk.e] using h11 (by simp [Bk.e])⟩
    · exact ⟨hi.len, hi.els, hi.nd, fun x hx => ⟨(hi.off x hx).1, fun h => (hi.off x hx).2.1 ⟨(4, 1000), 0, (fun h => by cases h), h ▸ i1⟩, (hi.off x hx).2.2⟩⟩
    · exact hf.own g ⟨(4, 1000), 0, (fun h => by cases h), i1⟩
end
end Go.Proofs.YtpnpodbihdiegaaGreat
